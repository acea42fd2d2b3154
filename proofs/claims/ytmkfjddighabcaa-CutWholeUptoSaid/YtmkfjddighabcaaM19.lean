/- Parts of a proof, joined: DecY, MRd1, MRd2, MRd3. -/
import Derived.Deep.CutBlock
import Derived.Deep.DeepCutAuto
import Derived.Test.YtmkfjddighabcaaM17
import Derived.Test.YtmkfjddighabcaaM18
import Derived.Test.YtmkfjddighabcaaM05
/- How large a message is that was read, in plain Lean. No program in it. -/
namespace Go.Proofs.Ytmkfjddighabcaa
open Go.RowKit
set_option maxRecDepth 100000

theorem SoundN.short {n : List (List UInt8)} (h : SoundN n) : n.length ≤ 255 := by have := sizeN_length n; have := h.2; omega
theorem hostP_short {b : Bool} {n : List (List UInt8)} (h : hostP b n) : n.length ≤ 255 := by
  unfold hostP at h
  split at h
  · exact SoundN.short h
  · rw [h]; simp
theorem FineR.small {r : RR} (h : FineR r) : r.name.length ≤ 255 ∧ r.data.host.length ≤ 255 ∧ r.data.mail.length ≤ 255 ∧ r.data.nums.length ≤ 5 ∧ r.data.texts.length ≤ 64 ∧ r.data.bytes.length ≤ 65535 := by
  obtain ⟨hn, ⟨_, hs⟩, _⟩ := h
  obtain ⟨_, h2, h3, h4, h5, _, h7⟩ := hs
  refine ⟨SoundN.short hn, hostP_short h4, hostP_short h5, ?_, ?_, h2⟩
  · rcases shape_cases r.type with e | e | e | e | e | e | e | e <;> rw [e] at h3
    · have h3' : (r.data.nums.length : Int) = 0 := h3; omega
    · have h3' : (r.data.nums.length : Int) = 0 := h3; omega
    · have h3' : (r.data.nums.length : Int) = 0 := h3; omega
    · have h3' : (r.data.nums.length : Int) = 1 := h3; omega
    · have h3' : (r.data.nums.length : Int) = 5 := h3; omega
    · have h3' : (r.data.nums.length : Int) = 3 := h3; omega
    · have h3' : (r.data.nums.length : Int) = 0 := h3; omega
    · have h3' : (r.data.nums.length : Int) = 0 := h3; omega
  · unfold textsP at h7
    split at h7
    · exact h7.2.1
    · rw [h7]; simp
theorem FineR.lt9 {r : RR} (h : FineR r) : Lt9 r := by
  obtain ⟨h1, h2, h3, h4, h5, _⟩ := h.small
  exact ⟨by omega, by omega, by omega, by omega, by omega⟩
theorem dRRs_len {b : List UInt8} {e : Bool} (k : Nat) : ∀ {p p' : Nat} {o o' : Opt} {acc l : List RR}, dRRs b e k p o acc = .ok (l, p', o') → l.length ≤ acc.length + k := by
  induction k with
  | zero =>
    intro p p' o o' acc l h
    rw [dRRs] at h
    injection h with h
    injection h with h h'
    subst h
    omega
  | succ k ih =>
    intro p p' o o' acc l h
    rw [dRRs] at h
    split at h
    · cases h
    split at h
    · split at h
      · cases h
      · have := ih h; omega
    · have := ih h
      rw [List.length_append, List.length_singleton] at this
      omega
/-- All that a message that was read is. -/
theorem decP_all {b : List UInt8} {m : Ms} (h : decP b = .ok m) : (∀ q ∈ m.qs, FineQ q) ∧ (∀ r ∈ m.an, FineK r) ∧ (∀ r ∈ m.au, FineK r) ∧ (∀ r ∈ m.ex, FineK r) ∧ totM m ≤ 513 ∧ (0 ≤ m.id ∧ m.id < 65536) ∧ (0 ≤ m.op ∧ m.op < 16) ∧ (0 ≤ m.rcode ∧ m.rcode < 16) ∧ (0 ≤ m.size ∧ m.size < 65536) := by
  unfold decP at h
  split at h
  · cases h
  split at h
  · cases h
  split at h
  · cases h
  rename_i h513
  split at h
  · cases h
  rename_i qs p1 hq
  split at h
  · cases h
  rename_i an p2 o2 hn
  split at h
  · cases h
  rename_i au p3 o3 hu
  split at h
  · cases h
  rename_i ex p4 o4 hx
  split at h
  · cases h
  injection h with h
  subst h
  obtain ⟨g1, gl⟩ := dQus_sound _ (by simp) hq
  obtain ⟨g2, k2⟩ := dRRs_sound _ (by simp) ⟨by decide, .inr rfl⟩ hn
  obtain ⟨g3, k3⟩ := dRRs_sound _ (by simp) k2 hu
  obtain ⟨g4, k4⟩ := dRRs_sound _ (by simp) k3 hx
  have l2 := dRRs_len _ hn
  have l3 := dRRs_len _ hu
  have l4 := dRRs_len _ hx
  have hid := @numA_2 b 0
  have hfl := @numA_2 b 2
  have hsz := fitsB_true k4.1
  have hsz2 : o4.size < 65536 := hsz.2.2.2
  refine ⟨g1, g2, g3, g4, ?_, ⟨?_, ?_⟩, ⟨?_, ?_⟩, ⟨?_, ?_⟩, ⟨hsz.2.2.1, hsz2⟩⟩
  · show qs.length + an.length + au.length + ex.length ≤ 513
    simp only [List.length_nil] at gl l2 l3 l4
    omega
  · show (0 : Int) ≤ (numA b 0 2 : Int); omega
  · show (numA b 0 2 : Int) < 65536; omega
  · show (0 : Int) ≤ ((numA b 2 2 / 2048 % 16 : Nat) : Int); omega
  · show ((numA b 2 2 / 2048 % 16 : Nat) : Int) < 16; omega
  · show (0 : Int) ≤ ((numA b 2 2 % 16 : Nat) : Int); omega
  · show ((numA b 2 2 % 16 : Nat) : Int) < 16; omega
theorem decP_ltM {b : List UInt8} {m : Ms} (h : decP b = .ok m) : LtM m := by
  obtain ⟨hq, ha, hu, hx, ht, _⟩ := decP_all h
  unfold totM at ht
  have hk : ∀ j, ∀ r ∈ secL m j, FineK r := fun j => by
    match j with
    | 0 => exact ha
    | 1 => exact hu
    | n + 2 => exact hx
  refine ⟨by omega, fun j => ?_, fun x hx => by have := SoundN.short (hq x hx).1; omega, fun j x hx => ⟨(hk j x hx).2.lt9, by have := (hk j x hx).2.small; omega⟩⟩
  match j with
  | 0 => show m.an.length ≤ _; omega
  | 1 => show m.au.length ≤ _; omega
  | n + 2 => show m.ex.length ≤ _; omega
/-- What msg.Decode answers. -/
def decV (b : List UInt8) : Ms × Int := match decP b with
  | .ok m => (m, 0)
  | .error e => (Ms.zero, e)
theorem decV_ok {b : List UInt8} {m : Ms} (h : decP b = .ok m) : decV b = (m, 0) := by unfold decV; rw [h]
theorem decV_err {b : List UInt8} {e : Int} (h : decP b = .error e) : decV b = (Ms.zero, e) := by unfold decV; rw [h]
end Go.Proofs.Ytmkfjddighabcaa

/- msg's reader, whatever the bytes: a number. -/
namespace Go.Proofs.Ytmkfjddighabcaa
open Go.RowKit
set_option maxRecDepth 100000
set_option linter.unusedVariables false

/-- A message's reader, in its block. -/
def MRd (w : World) (p : Nat) (v : Value) (pos : Int) : Prop := w.heap[p]? = some (.cells #[v, .int .i64 pos] 87 (0, 0))
section
variable {w w' : World} {p : Nat} {v : Value} {pos : Int}
theorem MRd.cells (h : MRd w p v pos) : w.cell? ⟨p, 0, none⟩ = some v ∧ w.cell? ⟨p, 1, none⟩ = some (.int .i64 pos) ∧ ∀ k, w.frozen? ⟨p, k, none⟩ = false :=
  ⟨(cell_of_row _ _ _ _ _ _ h).trans rfl, (cell_of_row _ _ _ _ _ _ h).trans rfl, fun _ => frozen_of_row _ _ _ _ _ h⟩
theorem MRd.lt (h : MRd w p v pos) : p < w.heap.size := (Array.getElem?_eq_some_iff.1 h).1
theorem MRd.below (h : MRd w p v pos) (hb : Below w.heap.size w w') : MRd w' p v pos := (hb.block p h.lt).trans h
theorem MRd.move (h : MRd w p v pos) (q : Int) : MRd (w.setCell ⟨p, 1, none⟩ (.int .i64 q)) p v q := (heap_setCell_same _ _ _ _ _ _ h).trans rfl
end
/-- A call of the reader: it says what the plain law says, or gives up with its error. -/
def MdX {α : Type} (r : Except Int (α × Nat)) (good : Value → World → α → Prop) (w : World) (p : Nat) (bv : Value) (e : Ending) (w' : World) : Prop :=
  match r with
  | .ok (a, q) => ∃ v, e = .returned v ∧ good v w' a ∧ MRd w' p bv (q : Int) ∧ Chg (fun k => k = p) w w'
  | .error x => e = .panicked (pnc x) ∧ Chg (fun k => k = p) w w'
def num2P (b : List UInt8) (p : Nat) : Except Int (Nat × Nat) := if b.length < p + 2 then .error 3 else .ok (numA b p 2, p + 2)
theorem num2P_ok {b : List UInt8} {p : Nat} (h : p + 2 ≤ b.length) : num2P b p = .ok (numA b p 2, p + 2) := by unfold num2P; rw [if_neg (by omega)]
theorem num2P_err {b : List UInt8} {p : Nat} (h : b.length < p + 2) : num2P b p = .error 3 := by unfold num2P; rw [if_pos h]
theorem getN_short {b : List UInt8} {p : Nat} (h : b.length < p + 2) : getN b (p : Int) 2 = (0, 3) := by
  unfold getN
  rw [if_neg (by omega), if_pos (by omega)]

set_option maxHeartbeats 1000000 in
theorem mnum_any (w : World) (p : Nat) (A : Option Addr) (n c pos : Nat) (bs : List UInt8) (h : MRd w p (.slice A n c) (pos : Int)) (hr : RdB w A n bs) (hn : n ≤ c) (hn2 : n ≤ 100000000) :
    Calls Try.prog 93 #[.pointer (some ⟨p, 0, none⟩)] w (MdX (num2P bs pos) (fun v _ a => v = .int .i64 (a : Int)) w p (.slice A n c)) := by
  obtain ⟨c0, c1, f0⟩ := h.cells
  have H := Lib.hid h
  have hl := hr.len
  have HR := Lib.hid hr
  clear h hr
  by_cases hs : bs.length < pos + 2
  · rw [num2P_err hs]
    have HG := Lib.hid (getN_short hs)
    clear hs
    go_enter Try.func93, Try.ntmps93
    go_wp2
    go_region_held3 (fun w' => w'.cell? ⟨p, 0, none⟩ = some (.slice A n c) ∧ w'.cell? ⟨p, 1, none⟩ = some (.int .i64 (pos : Int)))
      (first
        | with_reducible exact ⟨c0, c1⟩
        | with_reducible exact ⟨below_cell bl.drew c0, below_cell bl.drew c1⟩
        | fail)
      (first
        | (go_at_call 141; refine (get_any A n c bs (pos : Int) 2 w.drew (HR.out.below bl.drew) hn (by omega)).mono ?_; rw [HG.out]; rintro e w2 ⟨rfl, rfl⟩)
        | fail)
    go_wp2
    exact ⟨rfl, rfl, (Chg.refl (fun k => k = p) w).drew⟩
  · have hs' : pos + 2 ≤ bs.length := by omega
    rw [num2P_ok hs']
    have HG : Hid (getN bs (pos : Int) 2 = ((numA bs pos 2 : Int), 0)) := numA_get (b := bs) (p := pos) (k := 2) hs' (by decide) (by decide)
    have hp2 : pos ≤ 100000000 := by omega
    clear hs hs'
    generalize numA bs pos 2 = m at HG ⊢
    go_enter Try.func93, Try.ntmps93
    go_wp2
    go_region_held3 (fun w' => w'.cell? ⟨p, 0, none⟩ = some (.slice A n c) ∧ w'.cell? ⟨p, 1, none⟩ = some (.int .i64 (pos : Int)))
      (first
        | with_reducible exact ⟨c0, c1⟩
        | with_reducible exact ⟨below_cell bl.drew c0, below_cell bl.drew c1⟩
        | fail)
      (first
        | (go_at_call 141; refine (get_any A n c bs (pos : Int) 2 w.drew (HR.out.below bl.drew) hn (by omega)).mono ?_; rw [HG.out]; rintro e w2 ⟨rfl, rfl⟩)
        | fail)
    go_wp2
    go_ret
    exact ⟨_, rfl, rfl, (H.out.below bl.drew).move _, (Chg.refl (fun k => k = p) w).drew.setCell (p := ⟨p, 1, none⟩) (Or.inl rfl) _⟩
end Go.Proofs.Ytmkfjddighabcaa

/- msg's reader, whatever the bytes: a question. -/
namespace Go.Proofs.Ytmkfjddighabcaa
open Go.RowKit
set_option maxRecDepth 100000
set_option linter.unusedVariables false

/-- A question whose name is a row of the call's own. -/
def QGot (w : World) (B : Nat) (s : QS) (x : Qu) : Prop := OwnS w B (.slice s.A x.name.length s.c) x.name
theorem dQu_name {b : List UInt8} {p : Nat} (h : (nameA b p).2.2 ≠ 0) : dQu b p = .error (nameA b p).2.2 := by unfold dQu; rw [if_pos h]
theorem dQu_short {b : List UInt8} {p p' : Nat} {ls : List (List UInt8)} (h : nameA b p = (ls, (p' : Int), 0)) (hs : b.length < p' + 4) : dQu b p = .error 3 := by
  unfold dQu
  rw [h]
  simp only [ne_eq, not_true_eq_false, if_false, Int.toNat_natCast]
  rw [if_pos hs]
theorem dQu_zero {b : List UInt8} {p p' : Nat} {ls : List (List UInt8)} (h : nameA b p = (ls, (p' : Int), 0)) (hs : p' + 4 ≤ b.length) (h0 : numA b p' 2 = 0) : dQu b p = .error 2 := by
  unfold dQu
  rw [h]
  simp only [ne_eq, not_true_eq_false, if_false, Int.toNat_natCast]
  rw [if_neg (by omega), if_pos h0]
theorem dQu_ok {b : List UInt8} {p p' : Nat} {ls : List (List UInt8)} (h : nameA b p = (ls, (p' : Int), 0)) (hs : p' + 4 ≤ b.length) (h0 : ¬ numA b p' 2 = 0) : dQu b p = .ok (⟨ls, (numA b p' 2 : Int), (numA b (p' + 2) 2 : Int)⟩, p' + 4) := by
  unfold dQu
  rw [h]
  simp only [ne_eq, not_true_eq_false, if_false, Int.toNat_natCast]
  rw [if_neg (by omega), if_neg h0]

set_option maxHeartbeats 4000000 in
theorem mquest_any (w : World) (p : Nat) (A : Option Addr) (n c pos : Nat) (bs : List UInt8) (h : MRd w p (.slice A n c) (pos : Int)) (hr : RdB w A n bs) (ho : offA A p) (hbl : ∀ b off, A = some ⟨b, off, none⟩ → b < w.heap.size) (hn : n ≤ c) (hn2 : n ≤ 100000000) :
    Calls Try.prog 94 #[.pointer (some ⟨p, 0, none⟩)] w (MdX (dQu bs pos) (fun v w' q => ∃ s, v = quV s q ∧ QGot w' w.heap.size s q) w p (.slice A n c)) := by
  have hpl := h.lt
  have hl := hr.len
  obtain ⟨w0, hw0⟩ : ∃ w0, w0 = w.alloc (.cells #[.slice none 0 0, .int .i64 0, .int .i64 0] 50) := ⟨_, rfl⟩
  have hb0 : Below w.heap.size w w0 := by rw [hw0]; exact bl.alloc (Nat.le_refl _) _
  have HQ0 : Hid (QRow w0 w.heap.size ⟨none, 0⟩ ⟨[], 0, 0⟩) := by show QRow _ _ _ _; rw [hw0]; exact QRow.made w ⟨none, 0⟩ ⟨[], 0, 0⟩
  have hz0 : w0.heap.size = w.heap.size + 1 := by rw [hw0]; simp
  have H0 := Lib.hid (h.below hb0)
  have HR0 := Lib.hid (hr.below hb0)
  have HB0 := Lib.hid hb0
  have HZ0 := Lib.hid hz0
  have HBL := Lib.hid hbl
  have hwg : ∀ w1 : World, RdB w1 A n bs → Calls Try.prog 142 #[.slice A n c, .int .i64 (pos : Int)] w1 (RetW (nameA bs pos) w1) := fun w1 h1 => wget_any A n c bs (pos : Int) w1 h1 hn (by omega)
  have hnn := nameA_nn bs pos
  have hnl := nameA_le bs pos
  obtain ⟨⟨ls, nxt, er⟩, hg⟩ : ∃ g, g = nameA bs pos := ⟨_, rfl⟩
  rw [← hg] at hnn hnl hwg
  have HG := Lib.hid hg.symm
  simp only at hnn hnl
  have HW := Lib.hid hwg
  obtain ⟨c0, c1, f0⟩ := H0.out.cells
  have d0 := below_cell bl.drew c0
  have d1 := below_cell bl.drew c1
  clear h hr hg hwg hb0 hz0 hbl
  by_cases he : er = 0
  · subst he
    obtain ⟨p1, rfl⟩ := Int.eq_ofNat_of_zero_le hnn
    have hp1 := hnl rfl
    clear hnn hnl
    go_enter Try.func94, Try.ntmps94
    go_upto_region 1 with (fail)
    rw [← hw0]
    clear hw0
    go_region_held3 (fun w' => w'.cell? ⟨p, 0, none⟩ = some (.slice A n c) ∧ w'.cell? ⟨p, 1, none⟩ = some (.int .i64 (pos : Int)))
      (first
        | with_reducible exact ⟨c0, c1⟩
        | with_reducible exact ⟨d0, d1⟩
        | with_reducible exact ⟨y0, y1⟩
        | fail)
      (first
        | (go_at_call 142; refine (HW.out w0.drew (HR0.out.below bl.drew)).mono ?_; rintro e w2 ⟨v2, rfl, hown2', hb2'⟩; have hb2 : Below w0.heap.size w0 w2 := bl.drew.trans hb2'; have y0 := below_cell hb2 c0; have y1 := below_cell hb2 c1)
        | fail)
    have H2 := Lib.hid (H0.out.below hb2)
    have HR2 := Lib.hid (HR0.out.below hb2)
    have HB2 := Lib.hid (nx HB0.out hb2)
    have HQ2 := Lib.hid (HQ0.out.below hb2)
    obtain ⟨A2, k2, hv2, _⟩ := OwnE.form hown2'
    subst hv2
    have HOW2 : Hid (OwnS w2 w0.heap.size (.slice A2 ls.length k2) ls) := hown2'
    have HZ2 : Hid (w.heap.size + 1 ≤ w2.heap.size) := by show _ ≤ _; have := hb2.size; rw [HZ0.out] at this; exact this
    have HPL : Hid (p < w.heap.size) := hpl
    have fp := H2.out.cells.2.2
    go_upto_region 5 with (fail)
    obtain ⟨w3, hw3⟩ : ∃ u, u = w2.setCell ⟨p, 1, none⟩ (.int .i64 (p1 : Int)) := ⟨_, rfl⟩
    have hc3 : Chg (fun k => k = p) w2 w3 := by rw [hw3]; exact chg_g1 _ _ _ _
    have H3 : Hid (MRd w3 p (.slice A n c) (p1 : Int)) := by show MRd _ _ _ _; rw [hw3]; exact H2.out.move _
    have HR3 := Lib.hid (RdB.chgP HR2.out hc3 ho)
    have HC3 : Hid (Chg (fun k => k = p) w w3) := (Chg.of_below (F := fun k => k = p) HB2.out).trans hc3 (fun _ h => .inl h)
    have HOW3 : Hid (OwnS w3 w0.heap.size (.slice A2 ls.length k2) ls) := OwnE.chg HOW2.out hc3 (fun z hz e => by have h1 := (OwnE.lt HOW2.out z hz).1; rw [HZ0.out] at h1; have h2 := HPL.out; omega) (fun _ hz => hz.elim)
    have HQ3 : Hid (QRow w3 w.heap.size ⟨none, 0⟩ ⟨[], 0, 0⟩) := hc3.heap HQ2.out (by have h2 := HPL.out; omega)
    have HZ3 : Hid (w.heap.size + 1 ≤ w3.heap.size) := by show _ ≤ _; have h1 := hc3.size; have h2 := HZ2.out; omega
    rw [← hw3]
    clear hw3 hc3 H2 HR2 HQ2 HOW2 y0 y1 d0 d1 c0 c1 f0 fp hb2' hown2' H0 HR0 HQ0 HW
    by_cases hs2 : bs.length < p1 + 2
    · have HE := Lib.hid (dQu_short HG.out (show bs.length < p1 + 4 by omega))
      have HN1 := Lib.hid (num2P_err hs2)
      clear hs2
      go_wp2_with (first
        | (go_at_call 93; refine (mnum_any w3 p A n c p1 bs H3.out HR3.out hn hn2).mono ?_; rw [HN1.out]; rintro e w4 ⟨rfl, hc4⟩)
        | fail)
      refine ⟨rfl, ?_⟩
      rw [HE.out]
      exact ⟨rfl, HC3.out.trans hc4 (fun _ h => .inl h)⟩
    have HN1 := Lib.hid (num2P_ok (show p1 + 2 ≤ bs.length by omega))
    go_upto_region 6 with (first
      | (go_at_call 93; refine (mnum_any w3 p A n c p1 bs H3.out HR3.out hn hn2).mono ?_; rw [HN1.out]; rintro e w4 ⟨v4, rfl, rfl, h4, hc4⟩; have H4 := Lib.hid h4; have HC4 := Lib.hid hc4; clear h4 hc4)
      | fail)
    obtain ⟨w5, hw5⟩ : ∃ u, u = w4.alloc (.cells #[.slice A2 ls.length k2, .int .i64 (numA bs p1 2 : Int), .int .i64 0] 50) := ⟨_, rfl⟩
    have hb5 : Below w4.heap.size w4 w5 := by rw [hw5]; exact bl.alloc (Nat.le_refl _) _
    have HQ5 : Hid (QRow w5 w4.heap.size ⟨A2, k2⟩ ⟨ls, (numA bs p1 2 : Int), 0⟩) := by show QRow _ _ _ _; rw [hw5]; exact QRow.made w4 ⟨A2, k2⟩ ⟨ls, (numA bs p1 2 : Int), 0⟩
    have H5 := Lib.hid (H4.out.below hb5)
    have HR5 := Lib.hid ((RdB.chgP HR3.out HC4.out ho).below hb5)
    have HC5 : Hid (Chg (fun k => k = p) w w5) := (HC3.out.trans HC4.out (fun _ h => .inl h)).nx hb5
    have HOW4 : Hid (OwnS w4 w0.heap.size (.slice A2 ls.length k2) ls) := OwnE.chg HOW3.out HC4.out (fun z hz e => by have h1 := (OwnE.lt HOW3.out z hz).1; rw [HZ0.out] at h1; have h2 := HPL.out; omega) (fun _ hz => hz.elim)
    have HOW5 := Lib.hid (OwnE.below HOW4.out hb5)
    have HOL : Hid (∀ z, (Value.slice A2 ls.length k2).ownBlock = some z → z < w4.heap.size) := fun z hz => (OwnE.lt HOW4.out z hz).2
    have HG5 : Hid (QRow w5 w.heap.size ⟨none, 0⟩ ⟨[], 0, 0⟩) := QRow.below (HC4.out.heap HQ3.out (by have h2 := HPL.out; omega)) hb5
    have HZ4 : Hid (w.heap.size + 1 ≤ w4.heap.size) := by show _ ≤ _; have h1 := HC4.out.size; have h2 := HZ3.out; omega
    rw [← hw5]
    clear hw5 hb5 H3 HR3 HQ3 HOW3 HN1 H4 HOW4
    generalize hq4 : w4.heap.size = q4 at HQ5 HZ4 HOL ⊢
    have HQ4 := Lib.hid hq4
    clear hq4
    by_cases hs4 : bs.length < p1 + 2 + 2
    · have HE := Lib.hid (dQu_short HG.out (show bs.length < p1 + 4 by omega))
      have HN2 := Lib.hid (num2P_err hs4)
      clear hs4
      go_wp2_with (first
        | (go_at_call 93; refine (mnum_any w5 p A n c (p1 + 2) bs H5.out HR5.out hn hn2).mono ?_; rw [HN2.out]; rintro e w6 ⟨rfl, hc6⟩)
        | fail)
      refine ⟨rfl, ?_⟩
      rw [HE.out]
      exact ⟨rfl, HC5.out.trans hc6 (fun _ h => .inl h)⟩
    have HN2 := Lib.hid (num2P_ok (show p1 + 2 + 2 ≤ bs.length by omega))
    go_upto_region 7 with (first
      | (go_at_call 93; refine (mnum_any w5 p A n c (p1 + 2) bs H5.out HR5.out hn hn2).mono ?_; rw [HN2.out]; rintro e w6 ⟨v6, rfl, rfl, h6, hc6⟩; have H6 := Lib.hid h6; have HC6 := Lib.hid hc6; have hq6 : QRow w6 q4 ⟨A2, k2⟩ ⟨ls, (numA bs p1 2 : Int), 0⟩ := hc6.heap HQ5.out (by have h2 := HPL.out; have h3 := HZ4.out; omega); have e2 := hq6.cell 2; have f2 := hq6.free 2; clear h6 hc6)
      | fail)
    obtain ⟨w7, hw7⟩ : ∃ u, u = w6.setCell ⟨q4, 2, none⟩ (.int .i64 (numA bs (p1 + 2) 2 : Int)) := ⟨_, rfl⟩
    have hc7 : Chg (fun k => k = q4) w6 w7 := by rw [hw7]; exact chg_g1 _ _ _ _
    have HQ7 : Hid (QRow w7 q4 ⟨A2, k2⟩ ⟨ls, (numA bs p1 2 : Int), (numA bs (p1 + 2) 2 : Int)⟩) := by show QRow _ _ _ _; rw [hw7]; exact hq6.put 2 _ _ _ rfl
    have HG7 : Hid (QRow w7 w.heap.size ⟨none, 0⟩ ⟨[], 0, 0⟩) := hc7.heap (HC6.out.heap HG5.out (by have h2 := HPL.out; omega)) (by have h3 := HZ4.out; omega)
    have H7 : Hid (MRd w7 p (.slice A n c) ((p1 + 2 + 2 : Nat) : Int)) := hc7.heap H6.out (by have h2 := HPL.out; have h3 := HZ4.out; omega)
    have HOW7 : Hid (OwnS w7 w0.heap.size (.slice A2 ls.length k2) ls) := by
      have hge : ∀ z, (Value.slice A2 ls.length k2).ownBlock = some z → w.heap.size + 1 ≤ z ∧ z < q4 := fun z hz => ⟨by have h1 := (OwnE.lt HOW5.out z hz).1; rw [HZ0.out] at h1; exact h1, HOL.out z hz⟩
      exact OwnE.chg (OwnE.chg HOW5.out HC6.out (fun z hz e => by have h1 := hge z hz; have h2 := HPL.out; omega) (fun _ hz => hz.elim)) hc7 (fun z hz e => by have h1 := hge z hz; omega) (fun _ hz => hz.elim)
    have HC7 : Hid (Chg (fun k => k = p) w w7) := (HC5.out.trans HC6.out (fun _ h => .inl h)).trans hc7 (fun z h => .inr (by have h3 := HZ4.out; omega))
    rw [← hw7]
    clear hw7 hc7 hq6 e2 f2 H5 HR5 HG5 HOW5 HC5 H6 HC6 HQ5 HN2
    obtain ⟨x0, x1, x2⟩ := HQ7.out.cells
    by_cases h0 : numA bs p1 2 = 0
    · have HE := Lib.hid (dQu_zero HG.out (show p1 + 4 ≤ bs.length by omega) h0)
      rw [h0] at x1
      have x1' : w7.cell? ⟨q4, 1, none⟩ = some (.int .i64 0) := x1
      clear x1
      go_wp2
      refine ⟨rfl, ?_⟩
      rw [HE.out]
      exact ⟨rfl, HC7.out⟩
    have HE := Lib.hid (dQu_ok HG.out (show p1 + 4 ≤ bs.length by omega) h0)
    have hT : ¬ ((numA bs p1 2 : Nat) : Int) = 0 := by omega
    obtain ⟨g0, g1, g2⟩ := HG7.out.cells
    have k0 := HG7.out.free 0
    have k1 := HG7.out.free 1
    have k2' := HG7.out.free 2
    generalize numA bs p1 2 = T at HE HQ7 x1 hT ⊢
    generalize numA bs (p1 + 2) 2 = C at HE HQ7 x2 ⊢
    simp only [List.length_nil] at g0
    go_wp2
    obtain ⟨w8, hw8⟩ : ∃ u, u = ((w7.setCell ⟨w.heap.size, 0, none⟩ (.slice A2 ls.length k2)).setCell ⟨w.heap.size, 1, none⟩ (.int .i64 (T : Int))).setCell ⟨w.heap.size, 2, none⟩ (.int .i64 (C : Int)) := ⟨_, rfl⟩
    have hQ8 : QRow w8 w.heap.size ⟨A2, k2⟩ ⟨ls, (T : Int), (C : Int)⟩ := by
      rw [hw8]
      exact ((HG7.out.put 0 (.slice A2 ls.length k2) ⟨A2, k2⟩ ⟨ls, 0, 0⟩ rfl).put 1 (.int .i64 (T : Int)) ⟨A2, k2⟩ ⟨ls, (T : Int), 0⟩ rfl).put 2 (.int .i64 (C : Int)) ⟨A2, k2⟩ ⟨ls, (T : Int), (C : Int)⟩ rfl
    have hc8 : Chg (fun k => k = w.heap.size) w7 w8 := by
      rw [hw8]
      have k : ∀ {u : World} (j : Nat) (v : Value), Chg (fun k => k = w.heap.size) w7 u → Chg (fun k => k = w.heap.size) w7 (u.setCell ⟨w.heap.size, j, none⟩ v) := fun j v h => h.setCell (p := ⟨w.heap.size, j, none⟩) (Or.inl rfl) v
      exact k 2 _ (k 1 _ (k 0 _ (Chg.refl _ w7)))
    rw [← hw8]
    clear hw8 x0 x1 x2 g0 g1 g2 k0 k1 k2'
    obtain ⟨x0, x1, x2⟩ := hQ8.cells
    have x0' : w8.cell? ⟨w.heap.size, 0, none⟩ = some (.slice A2 ls.length k2) := x0
    have x1' : w8.cell? ⟨w.heap.size, 1, none⟩ = some (.int .i64 (T : Int)) := x1
    have x2' : w8.cell? ⟨w.heap.size, 2, none⟩ = some (.int .i64 (C : Int)) := x2
    have hA : QGot w8 w.heap.size ⟨A2, k2⟩ ⟨ls, (T : Int), (C : Int)⟩ := OwnE.base_le (OwnE.chg HOW7.out hc8 (fun z hz e => by have h1 := (OwnE.lt HOW7.out z hz).1; rw [HZ0.out] at h1; omega) (fun _ hz => hz.elim)) (by rw [HZ0.out]; omega)
    have hB : MRd w8 p (.slice A n c) ((p1 + 4 : Nat) : Int) := hc8.heap H7.out (by have h2 := HPL.out; omega)
    have hC : Chg (fun k => k = p) w w8 := HC7.out.trans hc8 (fun z h => .inr (by omega))
    refine bodyPost_ret (v := .agg #[.slice A2 ls.length k2, .int .i64 (T : Int), .int .i64 (C : Int)]) ?_ rfl (by rw [HE.out]; exact ⟨_, rfl, ⟨⟨A2, k2⟩, rfl, hA⟩, hB, hC⟩)
    simp [results, Try.results94, go_sem, x0', x1', x2']
  · clear hnn hnl
    go_enter Try.func94, Try.ntmps94
    go_upto_region 1 with (fail)
    rw [← hw0]
    clear hw0
    go_region_held3 (fun w' => w'.cell? ⟨p, 0, none⟩ = some (.slice A n c) ∧ w'.cell? ⟨p, 1, none⟩ = some (.int .i64 (pos : Int)))
      (first
        | with_reducible exact ⟨c0, c1⟩
        | with_reducible exact ⟨d0, d1⟩
        | with_reducible exact ⟨y0, y1⟩
        | fail)
      (first
        | (go_at_call 142; refine (HW.out w0.drew (HR0.out.below bl.drew)).mono ?_; rintro e w2 ⟨v2, rfl, hown2', hb2'⟩; have hb2 : Below w0.heap.size w0 w2 := bl.drew.trans hb2'; have y0 := below_cell hb2 c0; have y1 := below_cell hb2 c1)
        | fail)
    have HE := Lib.hid (dQu_name (b := bs) (p := pos) (by rw [HG.out]; exact he))
    go_wp2
    refine ⟨rfl, ?_⟩
    rw [HE.out, HG.out]
    exact ⟨rfl, Chg.of_below (nx HB0.out hb2)⟩
end Go.Proofs.Ytmkfjddighabcaa

/- msg's reader, whatever the bytes: records. -/
namespace Go.Proofs.Ytmkfjddighabcaa
open Go.RowKit
set_option maxRecDepth 100000
set_option linter.unusedVariables false

def setO (m : Ms) (o : Opt) : Ms := { m with edns := o.edns, size := o.size }
theorem setO_self (m : Ms) : setO m ⟨m.edns, m.size⟩ = m := rfl
/-- A call of the reader's records. -/
def MrX (r : Except Int (List RR × Nat × Opt)) (w : World) (p q : Nat) (bv : Value) (s : MS) (m : Ms) (e : Ending) (w' : World) : Prop :=
  match r with
  | .ok (l, p', o) => ∃ v, e = .returned v ∧ NewE encRR 44 w.heap.size w' v l ∧ MRd w' p bv (p' : Int) ∧ MRow w' q s (setO m o) ∧ Chg (fun z => z = p ∨ z = q) w w'
  | .error x => e = .panicked (pnc x) ∧ Chg (fun z => z = p ∨ z = q) w w'
theorem RGot.rin2 {w : World} {B : Nat} {s : RS} {x : RR} (h : RGot w B s x) (hf : FineR x) : RIn (geS B w) w s x := by
  obtain ⟨n1, n2⟩ := ownE_els h.n rfl
  have h1 := hf.2.1.1
  have h2 := fitsB_true hf.2.2.1
  have h3 : x.cls < 65536 := h2.2.2.2
  have h4 := hf.2.2.2
  exact ⟨n1, n2, h.d.din, ⟨by omega, by omega⟩, ⟨by omega, by omega⟩, ⟨by omega, by omega⟩⟩
/-- A record that was read, in a block of its own. -/
structure RecSt (w wc : World) (g : Nat) (t : RS) (r : RR) : Prop where
  ge : w.heap.size ≤ g
  R : RRow wc g t r
  G : RGot wc w.heap.size t r
  bw : Below w.heap.size w wc
theorem RecSt.after {w w2 : World} {t : RS} {r : RR} (hb : Below w.heap.size w w2) (hg : RGot w2 w.heap.size t r) : RecSt w (w2.alloc (.cells (rrCells t r) 44)) w2.heap.size t r :=
  ⟨hb.size, heap_alloc_new _ _, hg.below (bl.alloc (Nat.le_refl _) _), nx hb (bl.alloc (Nat.le_refl _) _)⟩
theorem RecSt.st {w w2 : World} (hb : Below (w.alloc (.cells (rrCells RS.nil RR.zero) 44)).drew.heap.size (w.alloc (.cells (rrCells RS.nil RR.zero) 44)).drew w2) : RgSt w w2 RS.nil RR.zero := (RgSt.start w).below (bl.drew.trans hb)
theorem RecSt.ahead {w w2 : World} {t : RS} {r : RR} (hb : Below (w.alloc (.cells (rrCells RS.nil RR.zero) 44)).drew.heap.size (w.alloc (.cells (rrCells RS.nil RR.zero) 44)).drew w2) (hg : RGot w2 (w.alloc (.cells (rrCells RS.nil RR.zero) 44)).drew.heap.size t r) : RecSt w (put9 w2 w.heap.size (.slice t.A r.name.length t.c) (.int .i64 r.type) (.int .i64 r.cls) (.int .i64 r.ttl) (.slice t.d.A0 r.data.bytes.length t.d.c0) (.slice t.d.A1 r.data.host.length t.d.c1) (.slice t.d.A2 r.data.mail.length t.d.c2) (.slice t.d.A3 r.data.nums.length t.d.c3) (.slice t.d.A4 r.data.texts.length t.d.c4)) w.heap.size t r := by
  have hz : (w.alloc (.cells (rrCells RS.nil RR.zero) 44)).drew.heap.size = w.heap.size + 1 := by show (w.alloc _).heap.size = _; simp
  rw [hz] at hg
  have hst : RgSt w w2 RS.nil RR.zero := (RgSt.start w).below (bl.drew.trans hb)
  have h := hst.nine (s' := t) (x' := r) hg
  exact ⟨Nat.le_refl _, h.R, h.G.base_le (Nat.le_succ _), h.bw⟩
theorem dRRs_err {b : List UInt8} {x : Bool} {k p : Nat} {o : Opt} {acc : List RR} (h : (getRR b p).2.2 ≠ 0) : dRRs b x (k + 1) p o acc = .error (getRR b p).2.2 := by rw [dRRs, if_pos h]
theorem dRRs_opt {b : List UInt8} {x : Bool} {k p p' : Nat} {o : Opt} {acc : List RR} {r : RR} (h : getRR b p = (r, (p' : Int), 0)) (ht : r.type = 41) (hx : ¬ (x = false ∨ o.edns = true ∨ r.name ≠ [])) : dRRs b x (k + 1) p o acc = dRRs b x k p' ⟨true, r.cls⟩ acc := by
  rw [dRRs, h]
  simp only [ne_eq, not_true_eq_false, if_false, Int.toNat_natCast]
  rw [if_pos ht, if_neg hx]
theorem dRRs_bad {b : List UInt8} {x : Bool} {k p p' : Nat} {o : Opt} {acc : List RR} {r : RR} (h : getRR b p = (r, (p' : Int), 0)) (ht : r.type = 41) (hx : x = false ∨ o.edns = true ∨ r.name ≠ []) : dRRs b x (k + 1) p o acc = .error 2 := by
  rw [dRRs, h]
  simp only [ne_eq, not_true_eq_false, if_false, Int.toNat_natCast]
  rw [if_pos ht, if_pos hx]
theorem dRRs_one {b : List UInt8} {x : Bool} {k p p' : Nat} {o : Opt} {acc : List RR} {r : RR} (h : getRR b p = (r, (p' : Int), 0)) (ht : ¬ r.type = 41) : dRRs b x (k + 1) p o acc = dRRs b x k p' o (acc ++ [r]) := by
  rw [dRRs, h]
  simp only [ne_eq, not_true_eq_false, if_false, Int.toNat_natCast]
  rw [if_neg ht]

theorem getRR_nn (b : List UInt8) (a : Int) : 0 ≤ (getRR b a).2.1 := by
  unfold getRR
  split
  · exact Int.le_refl _
  · unfold getRR1
    split
    · exact Int.le_refl _
    · split
      · exact Int.le_refl _
      · split
        · exact Int.le_refl _
        · exact Int.natCast_nonneg _

set_option maxHeartbeats 8000000 in
theorem mrecs_any (w : World) (p q : Nat) (A : Option Addr) (n c pos : Nat) (bs : List UInt8) (s : MS) (m : Ms) (k : Nat) (x : Bool) (h : MRd w p (.slice A n c) (pos : Int)) (hm : MRow w q s m) (hpq : p ≠ q) (hr : RdB w A n bs) (ho : offA A p) (hoq : offA A q) (hbl : ∀ b off, A = some ⟨b, off, none⟩ → b < w.heap.size) (hn : n ≤ c) (hc : c ≤ 9223372036854775807) (hn2 : n ≤ 100000000) (hk : k ≤ 65535) :
    Calls Try.prog 95 #[.pointer (some ⟨p, 0, none⟩), .pointer (some ⟨q, 0, none⟩), .int .i64 (k : Int), .bool x] w (MrX (dRRs bs x k pos ⟨m.edns, m.size⟩ []) w p q (.slice A n c) s m) := by
  have hpl := h.lt
  have hql := hm.lt
  have HPL := Lib.hid hpl
  have HQL := Lib.hid hql
  have HPQ := Lib.hid hpq
  have H := Lib.hid h
  have HM := Lib.hid hm
  have HR := Lib.hid hr
  have HBL := Lib.hid hbl
  have HO : Hid (∀ b off, A = some ⟨b, off, none⟩ → ¬ (b = p ∨ b = q)) := fun b off e h => h.elim (ho b off e) (hoq b off e)
  clear h hm hr hbl hpl hql hpq ho hoq
  go_enter Try.func95, Try.ntmps95
  go_wp2
  go_loopw [9, 14] (fun v i wr => ∃ (a b pk : Nat) (o : Opt) (acc : List RR), i = .int .i64 (a : Int) ∧ a + b = k ∧ Hid (NewE encRR 44 w.heap.size wr v acc) ∧ Hid (acc.length ≤ a) ∧ Hid (MRd wr p (.slice A n c) (pk : Int)) ∧ Hid (MRow wr q s (setO m o)) ∧ Hid (Chg (fun z => z = p ∨ z = q) w wr) ∧ Hid (dRRs bs x k pos ⟨m.edns, m.size⟩ [] = dRRs bs x b pk o acc)) (fun _ i _ => k - (intOf i).toNat)
  case atStart => exact ⟨0, k, pos, ⟨m.edns, m.size⟩, [], rfl, Nat.zero_add _, NewE.nil _ _ _ _, Nat.le_refl _, H, HM, Chg.refl _ _, rfl⟩
  case round =>
    obtain ⟨a, b, pk, o, acc, rfl, hab, HOWN, HAL, HP, HQ, HC, HE⟩ := hrel
    clear H HM
    rcases b with _ | b
    · have hak : ¬ (a : Int) < (k : Int) := by omega
      have he : dRRs bs x k pos ⟨m.edns, m.size⟩ [] = .ok (acc, pk, o) := HE.out
      rw [he]
      go_wp2
      go_ret
      exact ⟨_, rfl, HOWN.out, HP.out, HQ.out, HC.out⟩
    · have hak : (a : Int) < (k : Int) := by omega
      obtain ⟨c0, c1, f0⟩ := HP.out.cells
      have d0 := below_cell bl.drew c0
      have d1 := below_cell bl.drew c1
      have HR1 : Hid (RdB wr A n bs) := HR.out.chg HC.out (fun b off e => HO.out b off e)
      have HBL1 : Hid (∀ b off, A = some ⟨b, off, none⟩ → b < wr.heap.size) := fun b off e => Nat.lt_of_lt_of_le (HBL.out b off e) HC.out.size
      obtain ⟨⟨r, nxt, er⟩, hg⟩ : ∃ g, g = getRR bs pk := ⟨_, rfl⟩
      have HG := Lib.hid hg.symm
      have hwg : ∀ w1 : World, RdB w1 A n bs → (∀ b off, A = some ⟨b, off, none⟩ → b < w1.heap.size) → Calls Try.prog 143 #[.slice A n c, .int .i64 (pk : Int)] w1 (RetP (goodRR bs pk w1) w1) := fun w1 h1 h2 => rrget_any w1 A n c pk bs h1 h2 hn hc hn2
      have HW : Hid (∀ w1 : World, RdB w1 A n bs → (∀ b off, A = some ⟨b, off, none⟩ → b < w1.heap.size) → Calls Try.prog 143 #[.slice A n c, .int .i64 (pk : Int)] w1 (RetP (fun v w' => ∃ t, v = .tuple #[rrV t r, .int .i64 nxt, .int .i64 er] ∧ RGot w' w1.heap.size t r) w1)) := fun w1 h1 h2 => by
        have h3 := hwg w1 h1 h2
        unfold goodRR at h3
        rw [← hg] at h3
        exact h3
      clear hwg hg
      go_upto_region 4 with (fail)
      go_cut [10, 11, 12] (fun gv nv ev wc => ∃ (g : Nat) (t : RS), gv = .pointer (some ⟨g, 0, none⟩) ∧ nv = .int .i64 nxt ∧ ev = .int .i64 er ∧ Hid (RecSt wr wc g t r))
      case first =>
        have a0 := below_cell (bl.alloc (Nat.le_refl _) (.cells #[.slice none 0 0, .int .i64 0, .int .i64 0, .int .i64 0, .slice none 0 0, .slice none 0 0, .slice none 0 0, .slice none 0 0, .slice none 0 0] 44)) c0
        have a1 := below_cell (bl.alloc (Nat.le_refl _) (.cells #[.slice none 0 0, .int .i64 0, .int .i64 0, .int .i64 0, .slice none 0 0, .slice none 0 0, .slice none 0 0, .slice none 0 0, .slice none 0 0] 44)) c1
        have a2 := below_cell bl.drew a0
        have a3 := below_cell bl.drew a1
        have HRd : Hid (RdB wr.drew A n bs) := HR1.out.below bl.drew
        have HBLd : Hid (∀ b off, A = some ⟨b, off, none⟩ → b < wr.drew.heap.size) := HBL1.out
        have HA : Hid (Below wr.heap.size wr (wr.alloc (.cells #[.slice none 0 0, .int .i64 0, .int .i64 0, .int .i64 0, .slice none 0 0, .slice none 0 0, .slice none 0 0, .slice none 0 0, .slice none 0 0] 44)).drew) := (bl.alloc (Nat.le_refl _) (.cells #[.slice none 0 0, .int .i64 0, .int .i64 0, .int .i64 0, .slice none 0 0, .slice none 0 0, .slice none 0 0, .slice none 0 0, .slice none 0 0] 44)).trans (Below.mono bl.drew (by simp))
        have HR2 : Hid (RdB (wr.alloc (.cells #[.slice none 0 0, .int .i64 0, .int .i64 0, .int .i64 0, .slice none 0 0, .slice none 0 0, .slice none 0 0, .slice none 0 0, .slice none 0 0] 44)).drew A n bs) := HR1.out.below HA.out
        have HBL2 : Hid (∀ b off, A = some ⟨b, off, none⟩ → b < (wr.alloc (.cells #[.slice none 0 0, .int .i64 0, .int .i64 0, .int .i64 0, .slice none 0 0, .slice none 0 0, .slice none 0 0, .slice none 0 0, .slice none 0 0] 44)).drew.heap.size) := fun b off e => Nat.lt_of_lt_of_le (HBL1.out b off e) HA.out.size
        go_region_held3 (fun w' => w'.cell? ⟨p, 0, none⟩ = some (.slice A n c) ∧ w'.cell? ⟨p, 1, none⟩ = some (.int .i64 (pk : Int)))
          (first
            | with_reducible exact ⟨c0, c1⟩
            | with_reducible exact ⟨d0, d1⟩
            | with_reducible exact ⟨y0, y1⟩
            | with_reducible exact ⟨a0, a1⟩
            | with_reducible exact ⟨a2, a3⟩
            | with_reducible exact ⟨y2, y3⟩
            | with_reducible exact ⟨y4, y5⟩
            | fail)
          (first
            | (go_at_call 143; (with_reducible refine (HW.out wr.drew HRd.out HBLd.out).mono ?_); go_must (rintro e w2 ⟨v2, rfl, ⟨t, rfl, hgot2⟩, hb2'⟩; unfold rrV rrCells; have hb2 : Below wr.heap.size wr w2 := bl.drew.trans hb2'; have y0 := below_cell hb2 c0; have y1 := below_cell hb2 c1; have y2 := below_cell (bl.alloc (Nat.le_refl _) (.cells #[.slice none 0 0, .int .i64 0, .int .i64 0, .int .i64 0, .slice none 0 0, .slice none 0 0, .slice none 0 0, .slice none 0 0, .slice none 0 0] 44)) y0; have y3 := below_cell (bl.alloc (Nat.le_refl _) (.cells #[.slice none 0 0, .int .i64 0, .int .i64 0, .int .i64 0, .slice none 0 0, .slice none 0 0, .slice none 0 0, .slice none 0 0, .slice none 0 0] 44)) y1; have HF := Lib.hid (RecSt.after hb2 hgot2); have y4 := below_cell HF.out.bw c0; have y5 := below_cell HF.out.bw c1; unfold rrCells at HF y4 y5))
            | (go_at_call 143; (with_reducible refine (HW.out (wr.alloc (.cells #[.slice none 0 0, .int .i64 0, .int .i64 0, .int .i64 0, .slice none 0 0, .slice none 0 0, .slice none 0 0, .slice none 0 0, .slice none 0 0] 44)).drew HR2.out HBL2.out).mono ?_); go_must (rintro e w2 ⟨v2, rfl, ⟨t, rfl, hgot2⟩, hb2'⟩; unfold rrV rrCells; have hb2 : Below wr.heap.size wr w2 := HA.out.trans (Below.mono hb2' (by show _ ≤ (wr.alloc _).heap.size; simp)); have y0 := below_cell hb2 c0; have y1 := below_cell hb2 c1; have HST := Lib.hid (RecSt.st hb2'); have k0 : w2.cell? ⟨wr.heap.size, 0, none⟩ = some (.slice none 0 0) := (HST.out.R.cell 0).trans rfl; have k1 : w2.cell? ⟨wr.heap.size, 1, none⟩ = some (.int .i64 0) := (HST.out.R.cell 1).trans rfl; have k2 : w2.cell? ⟨wr.heap.size, 2, none⟩ = some (.int .i64 0) := (HST.out.R.cell 2).trans rfl; have k3 : w2.cell? ⟨wr.heap.size, 3, none⟩ = some (.int .i64 0) := (HST.out.R.cell 3).trans rfl; have k4 : w2.cell? ⟨wr.heap.size, 4, none⟩ = some (.slice none 0 0) := (HST.out.R.cell 4).trans rfl; have k5 : w2.cell? ⟨wr.heap.size, 5, none⟩ = some (.slice none 0 0) := (HST.out.R.cell 5).trans rfl; have k6 : w2.cell? ⟨wr.heap.size, 6, none⟩ = some (.slice none 0 0) := (HST.out.R.cell 6).trans rfl; have k7 : w2.cell? ⟨wr.heap.size, 7, none⟩ = some (.slice none 0 0) := (HST.out.R.cell 7).trans rfl; have k8 : w2.cell? ⟨wr.heap.size, 8, none⟩ = some (.slice none 0 0) := (HST.out.R.cell 8).trans rfl; have kf := HST.out.R.free; have HF := Lib.hid (RecSt.ahead hb2' hgot2); have y4 := below_cell HF.out.bw c0; have y5 := below_cell HF.out.bw c1; unfold put9 at HF y4 y5))
            | fail)
        all_goals
          go_wp2
          go_meet
          case rel => exact ⟨_, _, rfl, rfl, rfl, HF⟩
      case rest =>
        obtain ⟨g, t, rfl, rfl, rfl, HRS⟩ := hcut
        clear c0 c1 d0 d1 f0 HW HR1 HBL1
        have HBC : Hid (Below wr.heap.size wr wc) := HRS.out.bw
        have HP3 := Lib.hid (HP.out.below HBC.out)
        have HQ3 := Lib.hid (HQ.out.below HBC.out)
        have HPS : Hid (p < wr.heap.size) := Nat.lt_of_lt_of_le HPL.out HC.out.size
        have HQS : Hid (q < wr.heap.size) := Nat.lt_of_lt_of_le HQL.out HC.out.size
        by_cases he : er = 0
        · subst he
          obtain ⟨p1, hp1⟩ : ∃ p1 : Nat, nxt = (p1 : Int) := Int.eq_ofNat_of_zero_le (by have h1 := getRR_nn bs pk; rw [HG.out] at h1; exact h1)
          subst hp1
          have HFR : Hid (FineR r) := by have h1 := getRR_fine (b := bs) (a := (pk : Int)); rw [HG.out] at h1; exact h1 rfl
          obtain ⟨_, cw1, fp⟩ := HP3.out.cells
          obtain ⟨w4, hw4⟩ : ∃ u, u = wc.setCell ⟨p, 1, none⟩ (.int .i64 (p1 : Int)) := ⟨_, rfl⟩
          have hc4 : Chg (fun z => z = p) wc w4 := by rw [hw4]; exact chg_g1 _ _ _ _
          have HP4 : Hid (MRd w4 p (.slice A n c) (p1 : Int)) := by show MRd _ _ _ _; rw [hw4]; exact HP3.out.move _
          have HQ4 : Hid (MRow w4 q s (setO m o)) := hc4.heap HQ3.out (fun e => HPQ.out e.symm)
          have HR4 : Hid (RRow w4 g t r) := hc4.heap HRS.out.R (by have h1 := HPS.out; have h2 := HRS.out.ge; omega)
          have HC4 : Hid (Chg (fun z => z = p ∨ z = q) w w4) := (HC.out.nx HBC.out).trans hc4 (fun z h => .inl (.inl h))
          have HRIN : Hid (RIn (geS wr.heap.size w4) w4 t r) := (HRS.out.G.chg hc4 (fun z h1 _ h2 => by have h3 := HPS.out; omega)).rin2 HFR.out
          have HGE : Hid (wr.heap.size ≤ g) := HRS.out.ge
          have HO4 : Hid (NewE encRR 44 w.heap.size w4 u9 acc) := by
            obtain ⟨S, h1, h2⟩ := HOWN.out.below HBC.out
            exact ⟨S, h1.chg hc4 (fun z hz e => by have h3 := (h1.lt z hz).1; have h4 := HPL.out; omega) (fun z hz e => by have h3 := h2 z hz; have h4 := HPL.out; omega), h2⟩
          have HOL : Hid (∀ z, u9.ownBlock = some z → z < wr.heap.size) := fun z hz => by
            obtain ⟨S, h1, h2⟩ := HOWN.out
            exact (h1.lt z hz).2
          have HZ4 : Hid (wr.heap.size ≤ w4.heap.size) := Nat.le_trans HBC.out.size hc4.size
          go_upto_region 9 with (fail)
          rw [← hw4]
          clear hw4 hc4 HP3 HQ3 HRS HOWN fp cw1
          obtain ⟨x0, x1, x2, x3, x4, x5, x6, x7, x8⟩ := HR4.out.cells
          by_cases ht : r.type = 41
          · obtain ⟨_, _, _, _, _, _, _, _, _, _, _, _, z12, z13⟩ := HQ4.out.cells
            have z12' : w4.cell? ⟨q, 12, none⟩ = some (.bool o.edns) := z12
            have z13' : w4.cell? ⟨q, 13, none⟩ = some (.int .i64 o.size) := z13
            have f12 := HQ4.out.free 12
            have f13 := HQ4.out.free 13
            clear z12 z13
            rw [ht] at x1
            cases hx : x with
            | false =>
              have HX := Lib.hid (HE.out.trans (dRRs_bad HG.out ht (.inl hx)))
              subst hx
              go_wp2
              refine ⟨rfl, ?_⟩
              rw [HX.out]
              exact ⟨rfl, HC4.out⟩
            | true =>
              subst hx
              cases he : o.edns with
              | true =>
                have HX := Lib.hid (HE.out.trans (dRRs_bad HG.out ht (.inr (.inl he))))
                rw [he] at z12'
                clear he
                go_wp2
                refine ⟨rfl, ?_⟩
                rw [HX.out]
                exact ⟨rfl, HC4.out⟩
              | false =>
                rw [he] at z12'
                by_cases hnm : r.name = []
                · have hgood : ¬ (true = false ∨ o.edns = true ∨ r.name ≠ []) := fun h => h.elim (fun h => by cases h) (fun h => h.elim (fun h => by rw [he] at h; cases h) (fun h => h hnm))
                  have HX := Lib.hid (HE.out.trans (dRRs_opt HG.out ht hgood))
                  have hnl : r.name.length = 0 := by rw [hnm]; rfl
                  rw [hnl] at x0
                  have hgq : ¬ q = g := by have h1 := HQS.out; have h2 := HGE.out; omega
                  have sA : Chg (fun z => z = q) w4 (w4.setCell ⟨q, 12, none⟩ (.bool true)) := chg_g1 _ _ _ _
                  have sB : Chg (fun z => z = q) w4 ((w4.setCell ⟨q, 12, none⟩ (.bool true)).setCell ⟨q, 13, none⟩ (.int .i64 r.cls)) := sA.setCell (p := ⟨q, 13, none⟩) (Or.inl rfl) _
                  have e1 : (w4.setCell ⟨q, 12, none⟩ (.bool true)).cell? ⟨g, 2, none⟩ = some (.int .i64 r.cls) := sA.cell x2 (fun e => hgq e.symm)
                  have e2 : ((w4.setCell ⟨q, 12, none⟩ (.bool true)).setCell ⟨q, 13, none⟩ (.int .i64 r.cls)).cell? ⟨g, 2, none⟩ = some (.int .i64 r.cls) := sB.cell x2 (fun e => hgq e.symm)
                  have e0' : w4.drew.cell? ⟨g, 2, none⟩ = some (.int .i64 r.cls) := x2
                  have e1' : (w4.setCell ⟨q, 12, none⟩ (.bool true)).drew.cell? ⟨g, 2, none⟩ = some (.int .i64 r.cls) := e1
                  have e2' : ((w4.setCell ⟨q, 12, none⟩ (.bool true)).setCell ⟨q, 13, none⟩ (.int .i64 r.cls)).drew.cell? ⟨g, 2, none⟩ = some (.int .i64 r.cls) := e2
                  have HCB := Lib.hid sB
                  clear he hnm hnl sA sB hgood
                  go_upto_region 8 with (fail)
                  go_region_held3 (fun w' => w'.cell? ⟨g, 2, none⟩ = some (.int .i64 r.cls))
                    (first
                      | with_reducible exact x2
                      | with_reducible exact e0'
                      | with_reducible exact e1
                      | with_reducible exact e2
                      | with_reducible exact e1'
                      | with_reducible exact e2'
                      | fail)
                    (fail)
                  clear x0 x1 x2 x3 x4 x5 x6 x7 x8 e0' e1 e2 e1' e2' z12' z13' f12 f13
                  obtain ⟨w5, hw5⟩ : ∃ u, u = (w4.setCell ⟨q, 12, none⟩ (.bool true)).setCell ⟨q, 13, none⟩ (.int .i64 r.cls) := ⟨_, rfl⟩
                  rw [← hw5] at HCB
                  have HQ5 : Hid (MRow w5 q s (setO m ⟨true, r.cls⟩)) := by
                    show MRow _ _ _ _
                    rw [hw5]
                    exact (HQ4.out.put 12 (.bool true) s (setO m ⟨true, o.size⟩) rfl).put 13 (.int .i64 r.cls) s (setO m ⟨true, r.cls⟩) rfl
                  try rw [← hw5]
                  clear hw5
                  go_wp2
                  go_roundw
                  case rel =>
                    have hP5 : MRd w5 p (.slice A n c) (p1 : Int) := HCB.out.heap HP4.out HPQ.out
                    have hO5 : NewE encRR 44 w.heap.size w5 u9 acc := by
                      obtain ⟨S, h1, h2⟩ := HO4.out
                      exact ⟨S, h1.chg HCB.out (fun z hz e => by have h3 := (h1.lt z hz).1; have h4 := HQL.out; omega) (fun z hz e => by have h3 := h2 z hz; have h4 := HQL.out; omega), h2⟩
                    have hC5 : Chg (fun z => z = p ∨ z = q) w w5 := HC4.out.trans HCB.out (fun z h => .inl (.inr h))
                    exact ⟨a + 1, b, p1, ⟨true, r.cls⟩, acc, by go_num, by omega, NewE.below hO5 bl.drew, Nat.le_succ_of_le HAL.out, hP5.below bl.drew, HQ5.out.below bl.drew, Chg.drew hC5, HX.out⟩
                  case measure => simp [intOf]; omega
                · have HX := Lib.hid (HE.out.trans (dRRs_bad HG.out ht (.inr (.inr hnm))))
                  have hnl : (0 : Int) < (r.name.length : Int) := by have := List.length_pos_iff.2 hnm; omega
                  clear he hnm
                  go_wp2
                  refine ⟨rfl, ?_⟩
                  rw [HX.out]
                  exact ⟨rfl, HC4.out⟩
          · have HE2 := Lib.hid (HE.out.trans (dRRs_one HG.out ht))
            have hal : acc.length ≤ 65535 := by have := HAL.out; omega
            have HALX := Lib.hid hal
            obtain ⟨SO, hown, hSO⟩ := HO4.out
            have hrow : encRR.R (geS wr.heap.size w4) w4 [.slice t.A r.name.length t.c, .int .i64 r.type, .int .i64 r.cls, .int .i64 r.ttl, .slice t.d.A0 r.data.bytes.length t.d.c0, .slice t.d.A1 r.data.host.length t.d.c1, .slice t.d.A2 r.data.mail.length t.d.c2, .slice t.d.A3 r.data.nums.length t.d.c3, .slice t.d.A4 r.data.texts.length t.d.c4] r := ⟨_, rfl, HRIN.out⟩
            have HSO : Hid (∀ b, SO b → w.heap.size ≤ b) := hSO
            have HLT := Lib.hid hown.lt
            clear hal hSO
            go_wp2_with (first
              | ((with_reducible show wpList _ _ _ (⟨some 52, _, _, _, _, _⟩ :: _) _ _); refine wpL_pushE elRR rfl (.tmp 49) (.tmp 51) rfl w.heap.size _ acc rfl hown _ r hrow ?hS rfl ?hb ?hl ?hbase ?_; rotate_right; intro v5 w5 hown5 hg5 hat5)
              | fail)
            · go_roundw
              case rel =>
                have hch5 : Chg (fun z => u9.ownBlock = some z) w4 w5 := (Chg.refl _ _).grown hg5 (fun k hk => .inl hk)
                have hS5 : ∀ b, (orS SO (geS wr.heap.size w4)) b → w.heap.size ≤ b := fun z hz => by
                  rcases hz with hz | hz
                  · exact HSO.out z hz
                  · have h1 := hz.1; have h2 := HC.out.size; omega
                have hl5 : (acc ++ [r]).length ≤ a + 1 := by rw [List.length_append, List.length_singleton]; have := HAL.out; omega
                have hP5 : MRd w5 p (.slice A n c) (p1 : Int) := hch5.heap HP4.out (fun e => by have h1 := (HLT.out p e).1; have h2 := HPL.out; omega)
                have hQ5 : MRow w5 q s (setO m o) := hch5.heap HQ4.out (fun e => by have h1 := (HLT.out q e).1; have h2 := HQL.out; omega)
                have hC5 : Chg (fun z => z = p ∨ z = q) w w5 := HC4.out.grown hg5 (fun z hz => .inr (HLT.out z hz).1)
                exact ⟨a + 1, b, p1, o, acc ++ [r], by go_num, by omega, ⟨_, hown5, hS5⟩, hl5, hP5, hQ5, hC5, HE2.out⟩
              case measure => simp [intOf]; omega
            case hS =>
              intro z hz
              refine ⟨hz.2, fun he => ?_⟩
              have h1 := HOL.out z he.symm
              have h2 := hz.1
              omega
            case hb => have := HALX.out; omega
            case hl => have := HALX.out; unfold maxLen; omega
            case hbase => have h1 := HZ4.out; have h3 := HC.out.size; omega
        · have HX := Lib.hid (HE.out.trans (dRRs_err (by rw [HG.out]; exact he)))
          go_wp2
          refine ⟨rfl, ?_⟩
          rw [HX.out, HG.out]
          exact ⟨rfl, HC.out.nx HBC.out⟩
end Go.Proofs.Ytmkfjddighabcaa
