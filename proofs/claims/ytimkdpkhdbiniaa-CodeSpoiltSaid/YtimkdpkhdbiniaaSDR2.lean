/- Parts of a proof, joined: CdR1, CdR2, CdR3. -/
import Derived.Deep.CutBlock
import Derived.Deep.DeepCutAuto
import Derived.Test.YtimkdpkhdbiniaaSDX5
import Derived.Test.YtimkdpkhdbiniaaSDM09r
import Derived.Test.YtimkdpkhdbiniaaSDM04
import Derived.Test.YtimkdpkhdbiniaaSDF15
import Derived.Test.YtimkdpkhdbiniaaSDM05
/- code's reader, whatever the bytes: must, a number, a name. -/
namespace Go.Proofs.Ytimkdpkhdbiniaa
open Go.RowKit
set_option maxRecDepth 100000
set_option linter.unusedVariables false

/-- An entry's reader, in its block. -/
def CRd (w : World) (p : Nat) (v : Value) (pos : Int) : Prop := w.heap[p]? = some (.cells #[v, .int .i64 pos] 110 (0, 0))
section
variable {w w' : World} {p : Nat} {v : Value} {pos : Int}
theorem CRd.cells (h : CRd w p v pos) : w.cell? ⟨p, 0, none⟩ = some v ∧ w.cell? ⟨p, 1, none⟩ = some (.int .i64 pos) ∧ ∀ k, w.frozen? ⟨p, k, none⟩ = false :=
  ⟨(cell_of_row _ _ _ _ _ _ h).trans rfl, (cell_of_row _ _ _ _ _ _ h).trans rfl, fun _ => frozen_of_row _ _ _ _ _ h⟩
theorem CRd.lt (h : CRd w p v pos) : p < w.heap.size := (Array.getElem?_eq_some_iff.1 h).1
theorem CRd.below (h : CRd w p v pos) (hb : Below w.heap.size w w') : CRd w' p v pos := (hb.block p h.lt).trans h
theorem CRd.move (h : CRd w p v pos) (q : Int) : CRd (w.setCell ⟨p, 1, none⟩ (.int .i64 q)) p v q := (heap_setCell_same _ _ _ _ _ _ h).trans rfl
end
/-- A call of the reader: it reads what the plain law reads, or gives up. -/
def CdX {α : Type} (r : Option (α × Nat)) (good : Value → World → α → Prop) (w : World) (p : Nat) (bv : Value) (e : Ending) (w' : World) : Prop :=
  match r with
  | some (a, q) => ∃ v, e = .returned v ∧ good v w' a ∧ CRd w' p bv (q : Int) ∧ Chg (fun k => k = p) w w'
  | none => e = .panicked (pnc 14) ∧ Chg (fun k => k = p) w w'
theorem rdN_no {b : List UInt8} {p k : Nat} (h : b.length < p + k) : rdN b p k = none := by unfold rdN; rw [if_pos h]
theorem rdN_yes {b : List UInt8} {p k : Nat} (h : p + k ≤ b.length) : rdN b p k = some ((numA b p k : Int), p + k) := by unfold rdN; rw [if_neg (by omega)]
theorem getN_shortZ {b : List UInt8} {p z : Nat} (h1 : 1 ≤ z) (h7 : z ≤ 7) (h : b.length < p + z) : getN b (p : Int) (z : Int) = (0, 3) := by
  unfold getN
  rw [if_neg (by omega), if_pos (by omega)]

theorem cmust_ok (w : World) : Calls Try.prog 162 #[.int .i64 0] w (Ret (.tuple #[]) w) := by
  go_enter Try.func162, Try.ntmps162
  go_wp2
  go_end0
  exact ⟨rfl, rfl⟩
theorem cmust_bad (w : World) (x : Int) (hx : ¬ x = 0) : Calls Try.prog 162 #[.int .i64 x] w (fun e w' => e = .panicked (pnc 14) ∧ w' = w) := by
  go_enter Try.func162, Try.ntmps162
  go_wp2
  exact ⟨rfl, rfl, rfl⟩

set_option maxHeartbeats 1000000 in
theorem cnum_any (w : World) (p : Nat) (A : Option Addr) (n c pos : Nat) (bs : List UInt8) (k : Int) (z : Nat) (hk : k = (z : Int)) (h1 : 1 ≤ z) (h7 : z ≤ 7) (h : CRd w p (.slice A n c) (pos : Int)) (hr : RdB w A n bs) (hn : n ≤ c) (hn2 : n ≤ 100000000) :
    Calls Try.prog 116 #[.pointer (some ⟨p, 0, none⟩), .int .i64 k] w (CdX (rdN bs pos z) (fun v _ a => v = .int .i64 a) w p (.slice A n c)) := by
  obtain ⟨c0, c1, f0⟩ := h.cells
  have H := Lib.hid h
  have hl := hr.len
  have HR := Lib.hid hr
  clear h hr
  subst hk
  by_cases hs : bs.length < pos + z
  · rw [rdN_no hs]
    have HG := Lib.hid (getN_shortZ h1 h7 hs)
    clear hs
    go_enter Try.func116, Try.ntmps116
    go_wp2
    go_region_held3 (fun w' => w'.cell? ⟨p, 0, none⟩ = some (.slice A n c) ∧ w'.cell? ⟨p, 1, none⟩ = some (.int .i64 (pos : Int)))
      (first
        | with_reducible exact ⟨c0, c1⟩
        | with_reducible exact ⟨below_cell bl.drew c0, below_cell bl.drew c1⟩
        | fail)
      (first
        | (go_at_call 161; refine (get_any A n c bs (pos : Int) (z : Int) w.drew (HR.out.below bl.drew) hn (by omega)).mono ?_; rw [HG.out]; rintro e w2 ⟨rfl, rfl⟩)
        | fail)
    go_wp2_with (first
      | (go_at_call 162; refine (cmust_bad _ 3 (by decide)).mono ?_; rintro e w3 ⟨rfl, rfl⟩)
      | fail)
    exact ⟨rfl, rfl, (Chg.refl (fun k => k = p) w).drew⟩
  · have hs' : pos + z ≤ bs.length := by omega
    rw [rdN_yes hs']
    have HG : Hid (getN bs (pos : Int) (z : Int) = ((numA bs pos z : Int), 0)) := numA_get (b := bs) (p := pos) (k := z) hs' h1 h7
    have hp2 : pos ≤ 100000000 := by omega
    clear hs hs'
    generalize numA bs pos z = m at HG ⊢
    go_enter Try.func116, Try.ntmps116
    go_wp2
    go_region_held3 (fun w' => w'.cell? ⟨p, 0, none⟩ = some (.slice A n c) ∧ w'.cell? ⟨p, 1, none⟩ = some (.int .i64 (pos : Int)))
      (first
        | with_reducible exact ⟨c0, c1⟩
        | with_reducible exact ⟨below_cell bl.drew c0, below_cell bl.drew c1⟩
        | fail)
      (first
        | (go_at_call 161; refine (get_any A n c bs (pos : Int) (z : Int) w.drew (HR.out.below bl.drew) hn (by omega)).mono ?_; rw [HG.out]; rintro e w2 ⟨rfl, rfl⟩)
        | fail)
    go_wp2_with (first
      | (go_at_call 162; refine (cmust_ok _).mono ?_; rintro e w3 ⟨rfl, rfl⟩)
      | fail)
    go_ret
    exact ⟨_, rfl, rfl, (H.out.below bl.drew).move _, (Chg.refl (fun k => k = p) w).drew.setCell (p := ⟨p, 1, none⟩) (Or.inl rfl) _⟩

theorem rdName_no {b : List UInt8} {p : Nat} (h : (nameA b p).2.2 ≠ 0) : rdName b p = none := by unfold rdName; rw [if_pos h]
theorem rdName_yes {b : List UInt8} {p q : Nat} {ls : List (List UInt8)} (h : nameA b p = (ls, (q : Int), 0)) : rdName b p = some (ls, q) := by
  unfold rdName
  rw [h]
  simp

set_option maxHeartbeats 2000000 in
theorem cname_any (w : World) (p : Nat) (A : Option Addr) (n c pos : Nat) (bs : List UInt8) (h : CRd w p (.slice A n c) (pos : Int)) (hr : RdB w A n bs) (hn : n ≤ c) (hn2 : n ≤ 100000000) :
    Calls Try.prog 118 #[.pointer (some ⟨p, 0, none⟩)] w (CdX (rdName bs pos) (fun v w' a => OwnS w' w.heap.size v a) w p (.slice A n c)) := by
  obtain ⟨c0, c1, f0⟩ := h.cells
  have d0 := below_cell bl.drew c0
  have d1 := below_cell bl.drew c1
  have H := Lib.hid h
  have HPL := Lib.hid h.lt
  have HR := Lib.hid hr
  have hwg : ∀ w1 : World, RdB w1 A n bs → Calls Try.prog 164 #[.slice A n c, .int .i64 (pos : Int)] w1 (RetW (nameA bs pos) w1) := fun w1 h1 => wget_any A n c bs (pos : Int) w1 h1 hn (by omega)
  have hnn := nameA_nn bs pos
  obtain ⟨⟨ls, nxt, er⟩, hg⟩ : ∃ g, g = nameA bs pos := ⟨_, rfl⟩
  rw [← hg] at hnn hwg
  have HG := Lib.hid hg.symm
  simp only at hnn
  have HW := Lib.hid hwg
  clear h hr hg hwg
  by_cases he : er = 0
  · subst he
    obtain ⟨p1, rfl⟩ := Int.eq_ofNat_of_zero_le hnn
    rw [rdName_yes HG.out]
    clear hnn
    go_enter Try.func118, Try.ntmps118
    go_wp2
    go_region_held3 (fun w' => w'.cell? ⟨p, 0, none⟩ = some (.slice A n c) ∧ w'.cell? ⟨p, 1, none⟩ = some (.int .i64 (pos : Int)))
      (first
        | with_reducible exact ⟨c0, c1⟩
        | with_reducible exact ⟨d0, d1⟩
        | with_reducible exact ⟨y0, y1⟩
        | fail)
      (first
        | (go_at_call 164; refine (HW.out w.drew (HR.out.below bl.drew)).mono ?_; rintro e w2 ⟨v2, rfl, hown2', hb2'⟩; have hb2 : Below w.heap.size w w2 := bl.drew.trans hb2'; have y0 := below_cell hb2 c0; have y1 := below_cell hb2 c1)
        | fail)
    have H2 := Lib.hid (H.out.below hb2)
    have fp := H2.out.cells.2.2
    obtain ⟨A2, k2, hv2, _⟩ := OwnE.form hown2'
    subst hv2
    have HOW : Hid (OwnS w2 w.heap.size (.slice A2 ls.length k2) ls) := hown2'
    have HB2 := Lib.hid hb2
    clear hown2' hb2'
    go_wp2_with (first
      | (go_at_call 162; refine (cmust_ok _).mono ?_; rintro e w3 ⟨rfl, rfl⟩)
      | fail)
    go_ret
    refine ⟨_, rfl, ?_, H2.out.move _, (Chg.of_below (F := fun k => k = p) HB2.out).setCell (p := ⟨p, 1, none⟩) (Or.inl rfl) _⟩
    exact OwnE.chg HOW.out (chg_g1 _ _ _ _) (fun x hx e => by have h1 := (OwnE.lt HOW.out x hx).1; have h2 := HPL.out; omega) (fun _ hz => hz.elim)
  · rw [rdName_no (by rw [HG.out]; exact he)]
    clear hnn
    go_enter Try.func118, Try.ntmps118
    go_wp2
    go_region_held3 (fun w' => w'.cell? ⟨p, 0, none⟩ = some (.slice A n c) ∧ w'.cell? ⟨p, 1, none⟩ = some (.int .i64 (pos : Int)))
      (first
        | with_reducible exact ⟨c0, c1⟩
        | with_reducible exact ⟨d0, d1⟩
        | with_reducible exact ⟨y0, y1⟩
        | fail)
      (first
        | (go_at_call 164; refine (HW.out w.drew (HR.out.below bl.drew)).mono ?_; rintro e w2 ⟨v2, rfl, hown2', hb2'⟩; have hb2 : Below w.heap.size w w2 := bl.drew.trans hb2'; have y0 := below_cell hb2 c0; have y1 := below_cell hb2 c1)
        | fail)
    have HE := Lib.hid he
    have HB2 := Lib.hid hb2
    go_wp2_with (first
      | (go_at_call 162; refine (cmust_bad _ er HE.out).mono ?_; rintro e w3 ⟨rfl, rfl⟩)
      | fail)
    exact ⟨rfl, rfl, Chg.of_below HB2.out⟩
end Go.Proofs.Ytimkdpkhdbiniaa

/- code's reader, whatever the bytes: a record's data. -/
namespace Go.Proofs.Ytimkdpkhdbiniaa
open Go.RowKit
set_option maxRecDepth 100000
set_option linter.unusedVariables false

/-- A slice's address is a flat one, of a block that is there. -/
def FlatA (w : World) (A : Option Addr) : Prop := ∀ ad, A = some ad → ad.spot = none ∧ ad.block < w.heap.size
theorem FlatA.blk {w : World} {A : Option Addr} (h : FlatA w A) : ∀ b off, A = some ⟨b, off, none⟩ → b < w.heap.size := fun b off e => (h _ e).2
theorem FlatA.le {w w' : World} {A : Option Addr} (h : FlatA w A) (hs : w.heap.size ≤ w'.heap.size) : FlatA w' A := fun ad e => ⟨(h ad e).1, Nat.lt_of_lt_of_le (h ad e).2 hs⟩
theorem FlatA.cut {w : World} {A : Option Addr} (h : FlatA w A) (c i : Nat) : FlatA w (if c = i then A else A.map (·.add i)) := by
  split
  · exact h
  · intro ad e
    obtain ⟨a0, h0, rfl⟩ := Option.map_eq_some_iff.1 e
    have h1 := h a0 h0
    unfold Addr.add
    split
    · exact h1
    · exact ⟨rfl, h1.2⟩
def put5w (w : World) (g : Nat) (v0 v1 v2 v3 v4 : Value) : World := ((((w.setCell ⟨g, 0, none⟩ v0).setCell ⟨g, 1, none⟩ v1).setCell ⟨g, 2, none⟩ v2).setCell ⟨g, 3, none⟩ v3).setCell ⟨g, 4, none⟩ v4
theorem set5w {w : World} {g : Nat} {t : TypeId} {a0 a1 a2 a3 a4 : Value} (h : w.heap[g]? = some (.cells #[a0, a1, a2, a3, a4] t (0, 0))) (v0 v1 v2 v3 v4 : Value) : (put5w w g v0 v1 v2 v3 v4).heap[g]? = some (.cells #[v0, v1, v2, v3, v4] t (0, 0)) :=
  (heap_setCell_same _ _ _ _ _ _ (heap_setCell_same _ _ _ _ _ _ (heap_setCell_same _ _ _ _ _ _ (heap_setCell_same _ _ _ _ _ _ (heap_setCell_same _ _ _ _ _ _ h))))).trans rfl
theorem chg5w (w : World) (g : Nat) (v0 v1 v2 v3 v4 : Value) : Chg (fun k => k = g) w (put5w w g v0 v1 v2 v3 v4) := by
  have k : ∀ {u : World} (j : Nat) (v : Value), Chg (fun k => k = g) w u → Chg (fun k => k = g) w (u.setCell ⟨g, j, none⟩ v) := fun j v h => h.setCell (p := ⟨g, j, none⟩) (Or.inl rfl) v
  exact k 4 _ (k 3 _ (k 2 _ (k 1 _ (k 0 _ (Chg.refl _ w)))))
/-- Data in a block of its own. -/
def DRow (w : World) (g : Nat) (s : DS) (d : Da) : Prop := w.heap[g]? = some (.cells (dCells s d) 46 (0, 0))
theorem DRow.lt {w : World} {g : Nat} {s : DS} {d : Da} (h : DRow w g s d) : g < w.heap.size := (Array.getElem?_eq_some_iff.1 h).1
theorem DRow.below {w w' : World} {g : Nat} {s : DS} {d : Da} (h : DRow w g s d) (hb : Below w.heap.size w w') : DRow w' g s d := (hb.block g h.lt).trans h
theorem DRow.box {w : World} {g : Nat} {s : DS} {d : Da} (h : DRow w g s d) : DBox w g s d := ⟨(cell_of_row _ _ 0 _ _ _ h).trans rfl, (cell_of_row _ _ 1 _ _ _ h).trans rfl, (cell_of_row _ _ 2 _ _ _ h).trans rfl, (cell_of_row _ _ 3 _ _ _ h).trans rfl, (cell_of_row _ _ 4 _ _ _ h).trans rfl⟩
theorem DRow.free {w : World} {g : Nat} {s : DS} {d : Da} (h : DRow w g s d) (j : Nat) : w.frozen? ⟨g, j, none⟩ = false := frozen_of_row _ _ _ _ _ h
theorem DRow.fill {w : World} {g : Nat} {s : DS} {d : Da} (h : DRow w g s d) (t : DS) (x : Da) : DRow (put5w w g (.slice t.A0 x.bytes.length t.c0) (.slice t.A1 x.host.length t.c1) (.slice t.A2 x.mail.length t.c2) (.slice t.A3 x.nums.length t.c3) (.slice t.A4 x.texts.length t.c4)) g t x := set5w h _ _ _ _ _
/-- Data that was read, in a block of its own. -/
structure DatSt (w wc : World) (g : Nat) (s : DS) (d : Da) : Prop where
  ge : w.heap.size ≤ g
  R : DRow wc g s d
  G : DGot wc w.heap.size s d
  bw : Below w.heap.size w wc
theorem DatSt.after {w w2 : World} {t : DS} {d : Da} (hb : Below w.heap.size w w2) (hg : DGot w2 w.heap.size t d) : DatSt w (w2.alloc (.cells (dCells t d) 46)) w2.heap.size t d :=
  ⟨hb.size, heap_alloc_new _ _, hg.below (bl.alloc (Nat.le_refl _) _), nx hb (bl.alloc (Nat.le_refl _) _)⟩
theorem DatSt.st {w w2 : World} (hb : Below (w.alloc (.cells (dCells DS.nil Da.zero) 46)).drew.heap.size (w.alloc (.cells (dCells DS.nil Da.zero) 46)).drew w2) : DRow w2 w.heap.size DS.nil Da.zero := by
  have h : DRow (w.alloc (.cells (dCells DS.nil Da.zero) 46)).drew w.heap.size DS.nil Da.zero := heap_alloc_new w _
  exact h.below hb
theorem DatSt.ahead {w w2 : World} {t : DS} {d : Da} (hb : Below (w.alloc (.cells (dCells DS.nil Da.zero) 46)).drew.heap.size (w.alloc (.cells (dCells DS.nil Da.zero) 46)).drew w2) (hg : DGot w2 (w.alloc (.cells (dCells DS.nil Da.zero) 46)).drew.heap.size t d) :
    DatSt w (put5w w2 w.heap.size (.slice t.A0 d.bytes.length t.c0) (.slice t.A1 d.host.length t.c1) (.slice t.A2 d.mail.length t.c2) (.slice t.A3 d.nums.length t.c3) (.slice t.A4 d.texts.length t.c4)) w.heap.size t d := by
  have hz : (w.alloc (.cells (dCells DS.nil Da.zero) 46)).drew.heap.size = w.heap.size + 1 := by show (w.alloc _).heap.size = _; simp
  have hb0 : Below w.heap.size w (w.alloc (.cells (dCells DS.nil Da.zero) 46)).drew := (bl.alloc (Nat.le_refl _) _).trans (Below.mono bl.drew (by simp))
  have hr := DatSt.st hb
  have hc := chg5w w2 w.heap.size (.slice t.A0 d.bytes.length t.c0) (.slice t.A1 d.host.length t.c1) (.slice t.A2 d.mail.length t.c2) (.slice t.A3 d.nums.length t.c3) (.slice t.A4 d.texts.length t.c4)
  rw [hz] at hg
  have hb2 : Below w.heap.size w w2 := nx hb0 hb
  exact ⟨Nat.le_refl _, hr.fill t d, (hg.chg hc (fun k h1 _ e => by omega)).base_le (Nat.le_succ _), hb2.trans (hc.below (fun x hx => by omega) hb2.size)⟩
theorem rdData_no {b : List UInt8} {p : Nat} {k : Int} (h : b.length < p + 2) : rdData b p k = none := by unfold rdData; rw [rdN_no h]; rfl
theorem rdData_short {b : List UInt8} {p : Nat} {k : Int} (h : p + 2 ≤ b.length) (h2 : b.length < p + 2 + numA b p 2) : rdData b p k = none := by
  unfold rdData
  rw [rdN_yes h]
  show rdCut b (p + 2) ((numA b p 2 : Int)).toNat k = none
  rw [Int.toNat_natCast]
  unfold rdCut
  rw [if_pos h2]
theorem rdData_bad {b : List UInt8} {p : Nat} {k : Int} (h : p + 2 ≤ b.length) (h2 : p + 2 + numA b p 2 ≤ b.length) (h3 : (getD ((b.drop (p + 2)).take (numA b p 2)) 0 (numA b p 2 : Int) k).2 ≠ 0) : rdData b p k = none := by
  unfold rdData
  rw [rdN_yes h]
  show rdCut b (p + 2) ((numA b p 2 : Int)).toNat k = none
  rw [Int.toNat_natCast]
  unfold rdCut
  rw [if_neg (by omega), if_pos h3]
theorem rdData_yes {b : List UInt8} {p : Nat} {k : Int} {d : Da} (h : p + 2 ≤ b.length) (h2 : p + 2 + numA b p 2 ≤ b.length) (h3 : getD ((b.drop (p + 2)).take (numA b p 2)) 0 (numA b p 2 : Int) k = (d, 0)) : rdData b p k = some (d, p + 2 + numA b p 2) := by
  unfold rdData
  rw [rdN_yes h]
  show rdCut b (p + 2) ((numA b p 2 : Int)).toNat k = _
  rw [Int.toNat_natCast]
  unfold rdCut
  rw [if_neg (by omega), h3]
  rfl

set_option maxHeartbeats 4000000 in
theorem cdat_any (w : World) (p : Nat) (A : Option Addr) (n c pos : Nat) (bs : List UInt8) (k : Int) (hk1 : 1 ≤ k) (hk2 : k ≤ 65535) (h : CRd w p (.slice A n c) (pos : Int)) (hr : RdB w A n bs) (ho : offA A p) (hfl : FlatA w A) (hn : n ≤ c) (hc : c ≤ 9223372036854775807) (hn2 : n ≤ 100000000) :
    Calls Try.prog 163 #[.pointer (some ⟨p, 0, none⟩), .int .i64 k] w (CdX (rdData bs pos k) (fun v w' d => ∃ s, v = dsV s d ∧ DGot w' w.heap.size s d) w p (.slice A n c)) := by
  have hl := hr.len
  obtain ⟨w0, hw0⟩ : ∃ w0, w0 = w.alloc (.cells #[.slice none 0 0, .slice none 0 0, .slice none 0 0, .slice none 0 0, .slice none 0 0] 46) := ⟨_, rfl⟩
  have hb0 : Below w.heap.size w w0 := by rw [hw0]; exact bl.alloc (Nat.le_refl _) _
  have HD0 : Hid (DRow w0 w.heap.size DS.nil Da.zero) := by show DRow _ _ _ _; rw [hw0]; exact heap_alloc_new w _
  have hz0 : w0.heap.size = w.heap.size + 1 := by rw [hw0]; simp
  have HPL := Lib.hid h.lt
  have H0 := Lib.hid (h.below hb0)
  have HR0 := Lib.hid (hr.below hb0)
  have HB0 := Lib.hid hb0
  have HZ0 := Lib.hid hz0
  have HO := Lib.hid ho
  have HFL0 := Lib.hid (hfl.le hb0.size)
  clear h hr hb0 hz0 ho hfl
  by_cases hs1 : bs.length < pos + 2
  · rw [rdData_no hs1]
    have HN := Lib.hid (rdN_no hs1)
    clear hs1
    go_enter Try.func163, Try.ntmps163
    go_upto_region 1 with (fail)
    rw [← hw0]
    clear hw0
    go_wp2_with (first
      | (go_at_call 116; refine (cnum_any w0 p A n c pos bs 2 2 rfl (by decide) (by decide) H0.out HR0.out hn hn2).mono ?_; rw [HN.out]; rintro e w1 ⟨rfl, hc1⟩)
      | fail)
    exact ⟨rfl, rfl, (Chg.of_below HB0.out).trans hc1 (fun _ h => .inl h)⟩
  have hs2 : pos + 2 ≤ bs.length := by omega
  have HN := Lib.hid (rdN_yes hs2)
  have HS2 := Lib.hid hs2
  clear hs1
  have hzl : numA bs pos 2 < 65536 := numA_2
  go_enter Try.func163, Try.ntmps163
  go_upto_region 1 with (fail)
  rw [← hw0]
  clear hw0
  go_upto_region 2 with (first
    | (go_at_call 116; refine (cnum_any w0 p A n c pos bs 2 2 rfl (by decide) (by decide) H0.out HR0.out hn hn2).mono ?_; rw [HN.out]; rintro e w1 ⟨v1, rfl, rfl, h1, hc1⟩; have H1 := Lib.hid h1; have HC1 := Lib.hid hc1; clear h1 hc1)
    | fail)
  obtain ⟨q, hq⟩ : ∃ q, q = pos + 2 := ⟨_, rfl⟩
  have HQ := Lib.hid hq
  obtain ⟨z, hz⟩ : ∃ z, z = numA bs pos 2 := ⟨_, rfl⟩
  have HZ := Lib.hid hz
  rw [← hq] at H1
  rw [← hz] at hzl ⊢
  have hqn : q ≤ n := by omega
  have HR1 := Lib.hid (RdB.chgP HR0.out HC1.out HO.out)
  have HFL1 := Lib.hid (HFL0.out.le HC1.out.size)
  have HD1 : Hid (DRow w1 w.heap.size DS.nil Da.zero) := HC1.out.heap HD0.out (by have := HPL.out; omega)
  have HCW : Hid (Chg (fun k => k = p) w w1) := (Chg.of_below HB0.out).trans HC1.out (fun _ h => .inl h)
  have HZ1 : Hid (w.heap.size + 1 ≤ w1.heap.size) := by show _ ≤ _; have h1 := HC1.out.size; have h2 := HZ0.out; omega
  obtain ⟨c0, c1, f0⟩ := H1.out.cells
  clear hq hz hs2 H0 HR0 HFL0 HD0 HN
  by_cases hs3 : bs.length < q + z
  · have HE := Lib.hid (rdData_short (k := k) HS2.out (by rw [← HQ.out, ← HZ.out]; exact hs3))
    have hlt : (n : Int) - (q : Int) < (z : Int) := by omega
    clear hs3
    go_quiet (fail)
    go_wp2_with (first
      | (go_at_call 162; refine (cmust_bad _ 3 (by decide)).mono ?_; rintro e w3 ⟨rfl, rfl⟩)
      | fail)
    rw [HE.out]
    exact ⟨rfl, rfl, HCW.out.drewN nq⟩
  have hlt : ¬ (n : Int) - (q : Int) < (z : Int) := by omega
  have hqz : q + z ≤ n := by omega
  go_quiet (fail)
  go_upto_region 4 with (fail)
  clear c0 c1 f0 hlt hs3
  obtain ⟨w2, hw2⟩ : ∃ w2, w2 = w1.drewN nq := ⟨_, rfl⟩
  have hb2 : Below w1.heap.size w1 w2 := by rw [hw2]; exact dN bl nq
  have H2 := Lib.hid (H1.out.below hb2)
  have HFL2 := Lib.hid (HFL1.out.le hb2.size)
  have HD2 := Lib.hid (HD1.out.below hb2)
  have HCW2 := Lib.hid (HCW.out.nx hb2)
  have HZ2 : Hid (w.heap.size + 1 ≤ w2.heap.size) := Nat.le_trans HZ1.out hb2.size
  have HCU := Lib.hid (cutA (i := q) (k := z) (c := c) (HR1.out.below hb2) hqz hn)
  have HFC := Lib.hid (HFL2.out.cut c q)
  rw [← hw2]
  clear hw2 hb2 H1 HR1 HFL1 HD1 HCW HZ1 HC1
  obtain ⟨A2, hA2⟩ : ∃ A2 : Option Addr, A2 = if c = q then A else A.map (·.add q) := ⟨_, rfl⟩
  have HA2 := Lib.hid hA2
  rw [← hA2] at HCU HFC
  clear hA2
  obtain ⟨⟨d, er⟩, hg⟩ : ∃ g, g = getD ((bs.drop q).take z) 0 (z : Int) k := ⟨_, rfl⟩
  have HG := Lib.hid hg.symm
  have HW : Hid (∀ u : World, Below w2.heap.size w2 u → Calls Try.prog 190 #[.slice A2 z (c - q), .int .i64 0, .int .i64 (z : Int), .int .i64 k] u (RetP (fun v w' => ∃ t, v = .tuple #[dsV t d, .int .i64 er] ∧ DGot w' u.heap.size t d) u)) := fun u hu => by
    have h3 := getD_any u A2 z (c - q) 0 z k ((bs.drop q).take z) (HCU.out.below hu) (HFC.out.le hu.size).blk (by omega) (by omega) (by omega) hk1 hk2 (by omega)
    unfold goodG at h3
    rw [show ((0 : Nat) : Int) = 0 from rfl, ← hg] at h3
    exact h3
  clear hg
  obtain ⟨c0, c1, f0⟩ := H2.out.cells
  have hwp : IntKind.i64.wrap (q : Int) = q := by rw [IntKind.wrap_i64]; omega
  have hwz : IntKind.i64.wrap ((q : Int) + z) = (q : Int) + z := by rw [IntKind.wrap_i64]; omega
  have hs0 : (0 : Int) ≤ (q : Int) + z := by omega
  have hs1 : (0 : Int) ≤ q := by omega
  have hs2 : (q : Int) ≤ (q : Int) + z := by omega
  have hs3 : ((q : Int) + z) ≤ c := by omega
  have hs4 : ((q : Int) + z).toNat - q = z := by omega
  have HS4 := Lib.hid hs4
  clear hs4
  go_cut [6, 7] (fun gv ev wc => ∃ (g : Nat) (t : DS), gv = .pointer (some ⟨g, 0, none⟩) ∧ ev = .int .i64 er ∧ Hid (DatSt w2 wc g t d))
  case first =>
    have a0 := below_cell (bl.alloc (Nat.le_refl _) (.cells #[.slice none 0 0, .slice none 0 0, .slice none 0 0, .slice none 0 0, .slice none 0 0] 46)) c0
    have a1 := below_cell (bl.alloc (Nat.le_refl _) (.cells #[.slice none 0 0, .slice none 0 0, .slice none 0 0, .slice none 0 0, .slice none 0 0] 46)) c1
    have a2 := below_cell bl.drew a0
    have a3 := below_cell bl.drew a1
    have d0 := below_cell bl.drew c0
    have d1 := below_cell bl.drew c1
    have HA : Hid (Below w2.heap.size w2 (w2.alloc (.cells #[.slice none 0 0, .slice none 0 0, .slice none 0 0, .slice none 0 0, .slice none 0 0] 46)).drew) := (bl.alloc (Nat.le_refl _) (.cells #[.slice none 0 0, .slice none 0 0, .slice none 0 0, .slice none 0 0, .slice none 0 0] 46)).trans (Below.mono bl.drew (by simp))
    go_region_held3 (fun w' => w'.cell? ⟨p, 0, none⟩ = some (.slice A n c) ∧ w'.cell? ⟨p, 1, none⟩ = some (.int .i64 (q : Int)))
      (first
        | with_reducible exact ⟨c0, c1⟩
        | with_reducible exact ⟨d0, d1⟩
        | with_reducible exact ⟨y0, y1⟩
        | with_reducible exact ⟨a0, a1⟩
        | with_reducible exact ⟨a2, a3⟩
        | with_reducible exact ⟨y2, y3⟩
        | with_reducible exact ⟨y4, y5⟩
        | fail)
      (first
        | (go_at_call 190; rw [← HA2.out, HS4.out]; (with_reducible refine (HW.out w2.drew bl.drew).mono ?_); go_must (rintro e w3 ⟨v3, rfl, ⟨t, rfl, hgot3⟩, hb3'⟩; unfold dsV; have hb3 : Below w2.heap.size w2 w3 := bl.drew.trans hb3'; have y0 := below_cell hb3 c0; have y1 := below_cell hb3 c1; have y2 := below_cell (bl.alloc (Nat.le_refl _) (.cells #[.slice none 0 0, .slice none 0 0, .slice none 0 0, .slice none 0 0, .slice none 0 0] 46)) y0; have y3 := below_cell (bl.alloc (Nat.le_refl _) (.cells #[.slice none 0 0, .slice none 0 0, .slice none 0 0, .slice none 0 0, .slice none 0 0] 46)) y1; have HF := Lib.hid (DatSt.after hb3 hgot3); have y4 := below_cell HF.out.bw c0; have y5 := below_cell HF.out.bw c1; unfold dCells at HF y4 y5))
        | (go_at_call 190; rw [← HA2.out, HS4.out]; (with_reducible refine (HW.out (w2.alloc (.cells #[.slice none 0 0, .slice none 0 0, .slice none 0 0, .slice none 0 0, .slice none 0 0] 46)).drew HA.out).mono ?_); go_must (rintro e w3 ⟨v3, rfl, ⟨t, rfl, hgot3⟩, hb3'⟩; unfold dsV; have hb3 : Below w2.heap.size w2 w3 := HA.out.trans (Below.mono hb3' (by show _ ≤ (w2.alloc _).heap.size; simp)); have y0 := below_cell hb3 c0; have y1 := below_cell hb3 c1; have HST := Lib.hid (DatSt.st hb3'); obtain ⟨k0, k1, k2, k3, k4⟩ := HST.out.box; have kf := HST.out.free; have HF := Lib.hid (DatSt.ahead hb3' hgot3); have y4 := below_cell HF.out.bw c0; have y5 := below_cell HF.out.bw c1; unfold put5w at HF y4 y5))
        | fail)
    all_goals
      go_wp2
      go_meet
      case rel => exact ⟨_, _, rfl, rfl, HF⟩
  case rest =>
    obtain ⟨g, t, rfl, rfl, HDS⟩ := hcut
    clear c0 c1 f0 HW
    have H3 := Lib.hid (H2.out.below HDS.out.bw)
    have HD3 := Lib.hid (HD2.out.below HDS.out.bw)
    have HGE : Hid (w2.heap.size ≤ g) := HDS.out.ge
    obtain ⟨c0, c1, f0⟩ := H3.out.cells
    by_cases he : er = 0
    · subst he
      have HE : Hid (rdData bs pos k = some (d, q + z)) := by
        have h5 := rdData_yes (b := bs) (p := pos) (k := k) (d := d) HS2.out (by rw [← HQ.out, ← HZ.out]; omega) (by rw [← HQ.out, ← HZ.out]; exact HG.out)
        rw [← HQ.out, ← HZ.out] at h5
        exact h5
      go_upto_region 6 with (first
        | (go_at_call 162; refine (cmust_ok _).mono ?_; rintro e w3 ⟨rfl, rfl⟩)
        | fail)
      go_upto_region 7 with (fail)
      obtain ⟨w4, hw4⟩ : ∃ u, u = wc.setCell ⟨p, 1, none⟩ (.int .i64 ((q : Int) + z)) := ⟨_, rfl⟩
      have hc4 : Chg (fun k => k = p) wc w4 := by rw [hw4]; exact chg_g1 _ _ _ _
      have H4 : Hid (CRd w4 p (.slice A n c) ((q + z : Nat) : Int)) := by show CRd _ _ _ _; rw [hw4, show ((q + z : Nat) : Int) = (q : Int) + z by omega]; exact H3.out.move _
      have HR4 : Hid (DRow w4 g t d) := hc4.heap HDS.out.R (by have h1 := HPL.out; have h2 := HGE.out; have h3 := HZ2.out; omega)
      have HG4 : Hid (DGot w4 w2.heap.size t d) := HDS.out.G.chg hc4 (fun x h1 _ e => by have h2 := HPL.out; have h3 := HZ2.out; omega)
      have HD4 : Hid (DRow w4 w.heap.size DS.nil Da.zero) := hc4.heap HD3.out (by have h1 := HPL.out; omega)
      have HC4 : Hid (Chg (fun k => k = p) w w4) := (HCW2.out.nx HDS.out.bw).trans hc4 (fun _ h => .inl h)
      rw [← hw4]
      clear hw4 hc4 c0 c1 f0 H3 HD3 HDS
      obtain ⟨k0, k1, k2, k3, k4⟩ := HR4.out.box
      obtain ⟨m0, m1, m2, m3, m4⟩ := HD4.out.box
      have kf := HD4.out.free
      go_wp2
      obtain ⟨w5, hw5⟩ : ∃ u, u = put5w w4 w.heap.size (.slice t.A0 d.bytes.length t.c0) (.slice t.A1 d.host.length t.c1) (.slice t.A2 d.mail.length t.c2) (.slice t.A3 d.nums.length t.c3) (.slice t.A4 d.texts.length t.c4) := ⟨_, rfl⟩
      have hD5 : DRow w5 w.heap.size t d := by rw [hw5]; exact HD4.out.fill t d
      have hc5 : Chg (fun k => k = w.heap.size) w4 w5 := by rw [hw5]; exact chg5w _ _ _ _ _ _ _
      unfold put5w at hw5
      rw [← hw5]
      clear hw5 k0 k1 k2 k3 k4 m0 m1 m2 m3 m4 kf
      obtain ⟨x0, x1, x2, x3, x4⟩ := hD5.box
      have hA : DGot w5 w.heap.size t d := (HG4.out.chg hc5 (fun x h1 _ e => by have h3 := HZ2.out; omega)).base_le (by have h3 := HZ2.out; omega)
      have hB : CRd w5 p (.slice A n c) ((q + z : Nat) : Int) := hc5.heap H4.out (by have h2 := HPL.out; omega)
      have hC : Chg (fun k => k = p) w w5 := HC4.out.trans hc5 (fun z h => .inr (by omega))
      refine bodyPost_ret (v := .agg #[.slice t.A0 d.bytes.length t.c0, .slice t.A1 d.host.length t.c1, .slice t.A2 d.mail.length t.c2, .slice t.A3 d.nums.length t.c3, .slice t.A4 d.texts.length t.c4]) ?_ rfl (by rw [HE.out]; exact ⟨_, rfl, ⟨t, rfl, hA⟩, hB, hC⟩)
      simp [results, Try.results163, go_sem, x0, x1, x2, x3, x4]
    · have HE : Hid (rdData bs pos k = none) := rdData_bad HS2.out (by rw [← HQ.out, ← HZ.out]; omega) (by rw [← HQ.out, ← HZ.out, HG.out]; exact he)
      have HER := Lib.hid he
      go_wp2_with (first
        | (go_at_call 162; refine (cmust_bad _ er HER.out).mono ?_; rintro e w3 ⟨rfl, rfl⟩)
        | fail)
      rw [HE.out]
      exact ⟨rfl, rfl, HCW2.out.nx HDS.out.bw⟩
end Go.Proofs.Ytimkdpkhdbiniaa

/- code's reader, whatever the bytes: what a fact's reading has come to. -/
namespace Go.Proofs.Ytimkdpkhdbiniaa
open Go.RowKit
set_option maxRecDepth 100000
set_option linter.unusedVariables false

/-- A fact under way: its box is the first block that the call made; its rows come behind. -/
structure CfSt (w wr : World) (p : Nat) (bv : Value) (q : Nat) (s : FS) (f : Fa) : Prop where
  P : CRd wr p bv (q : Int)
  R : FaRow wr w.heap.size s f
  I : FaIn (geS (w.heap.size + 1) wr) wr s f
  C : Chg (fun k => k = p) w wr
  lt : p < w.heap.size
theorem DIn.nil (S : Nat → Prop) (w : World) : DIn S w DS.nil Da.zero := ((DGot.nil w w.heap.size).din).mono (fun b hb => absurd hb.2 (by have := hb.1; omega))
theorem FaIn.zero (S : Nat → Prop) (w : World) : FaIn S w FS.nil Fa.zero :=
  have k : i64S 0 := ⟨by omega, by omega⟩
  have l : (0 : Nat) ≤ 0 ∧ 0 ≤ maxLen := ⟨Nat.le_refl _, Nat.zero_le _⟩
  ⟨Els.nil _ _ _ _ _, Els.nil _ _ _ _ _, Els.nil _ _ _ _ _, DIn.nil _ _, l, l, l, k, k, k, k, k⟩
section
variable {w wr w2 w' : World} {p q q' : Nat} {bv : Value} {s : FS} {f : Fa}
theorem CfSt.start (h : CRd w p bv (q : Int)) : CfSt w (w.alloc (.cells (faCells FS.nil Fa.zero) 48)) p bv q FS.nil Fa.zero :=
  ⟨h.below (bl.alloc (Nat.le_refl _) _), FaRow.made w _ _, FaIn.zero _ _, Chg.of_below (bl.alloc (Nat.le_refl _) _), h.lt⟩
theorem FaIn.ge {B : Nat} {u u' : World} {F : Nat → Prop} (h : FaIn (geS B u) u s f) (hc : Chg F u u') (hF : ∀ k, B ≤ k → k < u.heap.size → ¬ F k) : FaIn (geS B u') u' s f :=
  (h.keep (fun b hb => hc.block b hb.2 (hF b hb.1 hb.2))).mono (fun b hb => ⟨hb.1, Nat.lt_of_lt_of_le hb.2 hc.size⟩)
theorem CfSt.size (h : CfSt w wr p bv q s f) : w.heap.size + 1 ≤ wr.heap.size := h.R.lt
theorem CfSt.below (h : CfSt w wr p bv q s f) (hb : Below wr.heap.size wr w') : CfSt w w' p bv q s f :=
  ⟨h.P.below hb, h.R.below hb, h.I.ge (Chg.of_below (F := fun _ => False) hb) (fun _ _ _ h => h), h.C.nx hb, h.lt⟩
/-- Behind a call of the reader. -/
theorem CfSt.call (h : CfSt w wr p bv q s f) (hp : CRd w' p bv (q' : Int)) (hc : Chg (fun k => k = p) wr w') : CfSt w w' p bv q' s f :=
  ⟨hp, hc.heap h.R (by have := h.lt; omega), h.I.ge hc (fun k h1 _ e => by have := h.lt; omega), h.C.trans hc (fun _ h => .inl h), h.lt⟩
theorem CfSt.putC (h : CfSt w wr p bv q s f) (j : Nat) (v : Value) : Chg (fun k => k = w.heap.size) wr (wr.setCell ⟨w.heap.size, j, none⟩ v) := chg_g1 _ _ _ _
theorem CfSt.put (h : CfSt w wr p bv q s f) (j : Nat) (v : Value) (s' : FS) (f' : Fa) (e : (faCells s f).setIfInBounds j v = faCells s' f') (hi : ∀ u, Chg (fun k => k = w.heap.size) wr u → FaIn (geS (w.heap.size + 1) u) u s' f') : CfSt w (wr.setCell ⟨w.heap.size, j, none⟩ v) p bv q s' f' :=
  ⟨(h.putC j v).heap h.P (by have := h.lt; omega), FaRow.put h.R j v s' f' e, hi _ (h.putC j v), h.C.trans (h.putC j v) (fun z hz => .inr (by omega)), h.lt⟩
theorem CfSt.putN (h : CfSt w wr p bv q s f) {A : Option Addr} {k : Nat} {ls : List (List UInt8)} {B : Nat} (hB : w.heap.size + 1 ≤ B) (ho : OwnS wr B (.slice A ls.length k) ls) : CfSt w (wr.setCell ⟨w.heap.size, 0, none⟩ (.slice A ls.length k)) p bv q { s with A := A, ac := k } { f with name := ls } :=
  h.put 0 _ _ _ rfl (fun u hc => by
    have I := h.I.ge hc (fun k h1 _ e => by omega)
    obtain ⟨h1, h2⟩ := ownE_els (OwnE.base_le (OwnE.chg ho hc (fun x hx e => by have h1 := (OwnE.lt ho x hx).1; omega) (fun _ hz => hz.elim)) hB) rfl
    exact ⟨h1, I.l, I.z, I.d, h2, I.cl, I.cz, I.it, I.ik, I.ir, I.ig, I.il⟩)
theorem CfSt.putZ (h : CfSt w wr p bv q s f) {A : Option Addr} {k : Nat} {ls : List (List UInt8)} {B : Nat} (hB : w.heap.size + 1 ≤ B) (ho : OwnS wr B (.slice A ls.length k) ls) : CfSt w (wr.setCell ⟨w.heap.size, 7, none⟩ (.slice A ls.length k)) p bv q { s with Z := A, zc := k } { f with zone := ls } :=
  h.put 7 _ _ _ rfl (fun u hc => by
    have I := h.I.ge hc (fun k h1 _ e => by omega)
    obtain ⟨h1, h2⟩ := ownE_els (OwnE.base_le (OwnE.chg ho hc (fun x hx e => by have h1 := (OwnE.lt ho x hx).1; omega) (fun _ hz => hz.elim)) hB) rfl
    exact ⟨I.n, I.l, h1, I.d, I.cn, I.cl, h2, I.it, I.ik, I.ir, I.ig, I.il⟩)
theorem CfSt.put1 (h : CfSt w wr p bv q s f) {n : Int} (hn : i64S n) : CfSt w (wr.setCell ⟨w.heap.size, 1, none⟩ (.int .i64 n)) p bv q s { f with type := n } :=
  h.put 1 _ _ _ rfl (fun u hc => by
    have I := h.I.ge hc (fun k h1 _ e => by omega)
    exact ⟨I.n, I.l, I.z, I.d, I.cn, I.cl, I.cz, hn, I.ik, I.ir, I.ig, I.il⟩)
theorem CfSt.put2 (h : CfSt w wr p bv q s f) {n : Int} (hn : i64S n) : CfSt w (wr.setCell ⟨w.heap.size, 2, none⟩ (.int .i64 n)) p bv q s { f with kind := n } :=
  h.put 2 _ _ _ rfl (fun u hc => by
    have I := h.I.ge hc (fun k h1 _ e => by omega)
    exact ⟨I.n, I.l, I.z, I.d, I.cn, I.cl, I.cz, I.it, hn, I.ir, I.ig, I.il⟩)
theorem CfSt.put3 (h : CfSt w wr p bv q s f) {n : Int} (hn : i64S n) : CfSt w (wr.setCell ⟨w.heap.size, 3, none⟩ (.int .i64 n)) p bv q s { f with rank := n } :=
  h.put 3 _ _ _ rfl (fun u hc => by
    have I := h.I.ge hc (fun k h1 _ e => by omega)
    exact ⟨I.n, I.l, I.z, I.d, I.cn, I.cl, I.cz, I.it, I.ik, hn, I.ig, I.il⟩)
theorem CfSt.put4 (h : CfSt w wr p bv q s f) {n : Int} (hn : i64S n) : CfSt w (wr.setCell ⟨w.heap.size, 4, none⟩ (.int .i64 n)) p bv q s { f with got := n } :=
  h.put 4 _ _ _ rfl (fun u hc => by
    have I := h.I.ge hc (fun k h1 _ e => by omega)
    exact ⟨I.n, I.l, I.z, I.d, I.cn, I.cl, I.cz, I.it, I.ik, I.ir, hn, I.il⟩)
theorem CfSt.put5 (h : CfSt w wr p bv q s f) {n : Int} (hn : i64S n) : CfSt w (wr.setCell ⟨w.heap.size, 5, none⟩ (.int .i64 n)) p bv q s { f with ttl := n } :=
  h.put 5 _ _ _ rfl (fun u hc => by
    have I := h.I.ge hc (fun k h1 _ e => by omega)
    exact ⟨I.n, I.l, I.z, I.d, I.cn, I.cl, I.cz, I.it, I.ik, I.ir, I.ig, hn⟩)
def putD (w : World) (q : Nat) (v8 v9 v10 v11 v12 : Value) : World := ((((w.setCell ⟨q, 8, none⟩ v8).setCell ⟨q, 9, none⟩ v9).setCell ⟨q, 10, none⟩ v10).setCell ⟨q, 11, none⟩ v11).setCell ⟨q, 12, none⟩ v12
theorem chgD (w : World) (g : Nat) (v0 v1 v2 v3 v4 : Value) : Chg (fun k => k = g) w (putD w g v0 v1 v2 v3 v4) := by
  have k : ∀ {u : World} (j : Nat) (v : Value), Chg (fun k => k = g) w u → Chg (fun k => k = g) w (u.setCell ⟨g, j, none⟩ v) := fun j v h => h.setCell (p := ⟨g, j, none⟩) (Or.inl rfl) v
  exact k 12 _ (k 11 _ (k 10 _ (k 9 _ (k 8 _ (Chg.refl _ w)))))
theorem CfSt.putSoa (h : CfSt w wr p bv q s f) {t : DS} {d : Da} {B : Nat} (hB : w.heap.size + 1 ≤ B) (hd : DGot wr B t d) : CfSt w (putD wr w.heap.size (.slice t.A0 d.bytes.length t.c0) (.slice t.A1 d.host.length t.c1) (.slice t.A2 d.mail.length t.c2) (.slice t.A3 d.nums.length t.c3) (.slice t.A4 d.texts.length t.c4)) p bv q { s with d := t } { f with soa := d } := by
  have hc := chgD wr w.heap.size (.slice t.A0 d.bytes.length t.c0) (.slice t.A1 d.host.length t.c1) (.slice t.A2 d.mail.length t.c2) (.slice t.A3 d.nums.length t.c3) (.slice t.A4 d.texts.length t.c4)
  have I := h.I.ge hc (fun k h1 _ e => by omega)
  have D := ((hd.chg hc (fun x h1 _ e => by omega)).base_le hB).din
  exact ⟨hc.heap h.P (by have := h.lt; omega),
    (heap_setCell_same _ _ _ _ _ _ (heap_setCell_same _ _ _ _ _ _ (heap_setCell_same _ _ _ _ _ _ (heap_setCell_same _ _ _ _ _ _ (heap_setCell_same _ _ _ _ _ _ h.R))))).trans rfl,
    ⟨I.n, I.l, I.z, D, I.cn, I.cl, I.cz, I.it, I.ik, I.ir, I.ig, I.il⟩, h.C.trans hc (fun z hz => .inr (by omega)), h.lt⟩
end
/-- A fact whose set is under way: what it has else lies below B, the set's row from B on. -/
structure CfL (w wr : World) (p : Nat) (bv : Value) (q B : Nat) (s : FS) (f : Fa) (A : Option Addr) (c : Nat) (acc : List Da) : Prop where
  P : CRd wr p bv (q : Int)
  R : FaRow wr w.heap.size { s with S := A, sc := c } { f with set := acc }
  I : FaIn (btS (w.heap.size + 1) B) wr s f
  C : Chg (fun k => k = p) w wr
  lt : p < w.heap.size
  lo : w.heap.size + 1 ≤ B
  hi : B ≤ wr.heap.size
section
variable {w wr w2 w5 w' : World} {p q q' B c c5 : Nat} {bv : Value} {s : FS} {f : Fa} {A A5 : Option Addr} {acc acc' : List Da}
theorem CfL.start {Z : Option Addr} {zc k : Nat} {D : DS} (h : CfSt w wr p bv q ⟨A, k, none, 0, Z, zc, D⟩ { f with set := [] }) : CfL w wr p bv q wr.heap.size ⟨A, k, none, 0, Z, zc, D⟩ { f with set := [] } none 0 [] :=
  ⟨h.P, h.R, h.I.mono (fun b hb => hb), h.C, h.lt, h.size, Nat.le_refl _⟩
theorem CfL.call (h : CfL w wr p bv q B s f A c acc) (hp : CRd w' p bv (q' : Int)) (hc : Chg (fun k => k = p) wr w') : CfL w w' p bv q' B s f A c acc :=
  ⟨hp, hc.heap h.R (by have := h.lt; omega), h.I.keep (fun b hb => hc.block b (Nat.lt_of_lt_of_le hb.2 h.hi) (by have h1 := hb.1; have := h.lt; omega)), h.C.trans hc (fun _ h => .inl h), h.lt, h.lo, Nat.le_trans h.hi hc.size⟩
theorem CfL.grow {v : Value} (h : CfL w w2 p bv q B s f A c acc) (hc : Chg (fun z => v.ownBlock = some z) w2 w5) (hv : ∀ z, v.ownBlock = some z → B ≤ z) : CfL w (w5.setCell ⟨w.heap.size, 6, none⟩ (.slice A5 acc'.length c5)) p bv q B s f A5 c5 acc' := by
  have hc6 : Chg (fun k => k = w.heap.size) w5 (w5.setCell ⟨w.heap.size, 6, none⟩ (.slice A5 acc'.length c5)) := chg_g1 _ _ _ _
  have hlo := h.lo
  have hlt := h.lt
  refine ⟨hc6.heap (hc.heap h.P (fun e => by have := hv _ e; omega)) (by omega), FaRow.put (hc.heap h.R (fun e => by have := hv _ e; omega)) 6 _ _ _ rfl, ?_, (h.C.trans hc (fun z hz => .inr (by have := hv z hz; omega))).trans hc6 (fun z hz => .inr (by omega)), hlt, hlo, Nat.le_trans h.hi (Nat.le_trans hc.size hc6.size)⟩
  refine h.I.keep (fun b hb => ?_)
  have h1 := hb.1
  have h2 := hb.2
  exact (hc6.block b (Nat.lt_of_lt_of_le h2 (Nat.le_trans h.hi hc.size)) (by omega)).trans (hc.block b (Nat.lt_of_lt_of_le h2 h.hi) (fun e => by have := hv _ e; omega))
theorem CfL.done (h : CfL w wr p bv q B s f A c acc) (ho : NewE encDa 46 B wr (.slice A acc.length c) acc) : CfSt w wr p bv q { s with S := A, sc := c } { f with set := acc } := by
  have I := h.I.mono (S' := geS (w.heap.size + 1) wr) (fun b hb => ⟨hb.1, Nat.lt_of_lt_of_le hb.2 h.hi⟩)
  obtain ⟨A', c', hv, h1, h2, h3⟩ := ho.rd
  injection hv with e1 e2 e3
  subst e1 e3
  exact ⟨h.P, h.R, ⟨I.n, els_le h1 h.lo, I.z, I.d, I.cn, ⟨h2, h3⟩, I.cz, I.it, I.ik, I.ir, I.ig, I.il⟩, h.C, h.lt⟩
end
theorem rdN_i64 {b : List UInt8} {p k : Nat} (h7 : k ≤ 7) : i64S (numA b p k : Int) := by
  have h := numA_lt (b := b) (p := p) (k := k)
  have h2 : 256 ^ k ≤ 256 ^ 7 := Nat.pow_le_pow_right (by decide) h7
  have h3 : (256 : Nat) ^ 7 = 72057594037927936 := by decide
  exact ⟨by omega, by omega⟩
end Go.Proofs.Ytimkdpkhdbiniaa
