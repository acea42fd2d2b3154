/- Parts of a proof, joined: ExRR, RrSeq, Law05B. -/
import Derived.Test.YtbjaphldncagjaaG12
import Derived.Test.YtbjaphldncagjaaG16
import Derived.Test.YtbjaphldncagjaaG17
import Derived.Test.YtbjaphldncagjaaG13
/- The reference's SameRR: are records the same, byte by byte? -/
namespace Go.Proofs.Ytbjaphldncagjaa
open Go.RowKit
set_option maxRecDepth 100000

def exR (x y : RR) : Bool := decide (x.name = y.name) && (decide (x.type = y.type) && (decide (x.cls = y.cls) && (decide (x.ttl = y.ttl) && exD x.data y.data)))
theorem exR_iff {x y : RR} : exR x y = true ↔ x = y := by
  constructor
  · intro h
    simp only [exR, Bool.and_eq_true, decide_eq_true_eq, exD_iff] at h
    obtain ⟨h1, h2, h3, h4, h5⟩ := h
    cases x; cases y; simp_all
  · rintro rfl
    simp [exR, exD_refl]
theorem exR_refl (x : RR) : exR x x = true := exR_iff.2 rfl

set_option maxHeartbeats 4000000 in
theorem rsameRR_any (s r : RS) (x y : RR) (w : World) {S T : Nat → Prop} (hx : RIn S w s x) (hy : RIn T w r y) (hS : ∀ b, S b → b < w.heap.size) (hT : ∀ b, T b → b < w.heap.size) :
    Calls Try.prog 67 #[rrV s x, rrV r y] w (RetP (fun v _ => v = .bool (exR x y)) w) := by
  obtain ⟨wa, hwa⟩ : ∃ wa, wa = w.alloc (.cells (rrCells s x) 48) := ⟨_, rfl⟩
  obtain ⟨w0, hw0⟩ : ∃ w0, w0 = wa.alloc (.cells (rrCells r y) 48) := ⟨_, rfl⟩
  have hba : Below w.heap.size w wa := by rw [hwa]; exact bl.alloc (Nat.le_refl _) _
  have hb0' : Below wa.heap.size wa w0 := by rw [hw0]; exact bl.alloc (Nat.le_refl _) _
  have hza : wa.heap.size = w.heap.size + 1 := by rw [hwa]; simp
  have hb0 := nx hba hb0'
  have hRa : RRow w0 w.heap.size s x := by have h : RRow wa w.heap.size s x := by rw [hwa]; exact heap_alloc_new w _
                                           exact h.below hb0'
  have hRb : RRow w0 (w.heap.size + 1) r y := by rw [← hza, hw0]; exact heap_alloc_new wa _
  have HRA := Lib.hid hRa
  have HRB := Lib.hid hRb
  have HX := Lib.hid (hx.below hb0 hS)
  have HY := Lib.hid (hy.below hb0 hT)
  have HS0 : Hid (∀ b, S b → b < w0.heap.size) := fun b hb => Nat.lt_of_lt_of_le (hS b hb) hb0.size
  have HT0 : Hid (∀ b, T b → b < w0.heap.size) := fun b hb => Nat.lt_of_lt_of_le (hT b hb) hb0.size
  have HBW := Lib.hid hb0
  obtain ⟨a0, a1, a2, a3, a4, a5, a6, a7, a8⟩ := hRa.cells
  obtain ⟨b0, b1, b2, b3, b4, b5, b6, b7, b8⟩ := hRb.cells
  unfold rrV
  unfold rrCells at hwa hw0 ⊢
  clear hx hy hS hT hba hb0' hza hb0 hRa hRb
  go_enter Try.func67, Try.ntmps67
  go_upto_region 1 with (fail)
  rw [← hwa, ← hw0]
  clear hwa hw0
  by_cases h0 : x.name = y.name
  rotate_left
  · have E0 := Lib.hid (decide_eq_false h0)
    clear h0
    go_wp2_with (first
      | (go_at_call 45; refine (rexact_any s.A r.A x.name.length s.c y.name.length r.c x.name y.name w0 HX.out.n HY.out.n (Nat.le_trans HX.out.cn.1 HX.out.cn.2) (Nat.le_trans HY.out.cn.1 HY.out.cn.2)).mono ?_; rw [E0.out]; rintro e w1 ⟨rfl, m1, hw1⟩; have hb1 : Below w0.heap.size w0 w1 := (by rw [hw1]; exact dN bl m1); clear hw1; have HRA1 := Lib.hid (HRA.out.below hb1); have HRB1 := Lib.hid (HRB.out.below hb1); obtain ⟨e0, e1, e2, e3, e4, e5, e6, e7, e8⟩ := HRA1.out.cells; obtain ⟨f0, f1, f2, f3, f4, f5, f6, f7, f8⟩ := HRB1.out.cells)
      | fail)
    go_ret
    exact ⟨_, rfl, by show Value.bool _ = Value.bool _; unfold exR; rw [E0.out]; simp, nx HBW.out hb1⟩
  have E0 := Lib.hid (decide_eq_true h0)
  clear h0
  by_cases h1 : x.type = y.type
  rotate_left
  · have E1 := Lib.hid (decide_eq_false h1)
    have hz1 : ¬ x.type = y.type := h1
    clear h1
    go_wp2_with (first
      | (go_at_call 45; refine (rexact_any s.A r.A x.name.length s.c y.name.length r.c x.name y.name w0 HX.out.n HY.out.n (Nat.le_trans HX.out.cn.1 HX.out.cn.2) (Nat.le_trans HY.out.cn.1 HY.out.cn.2)).mono ?_; rw [E0.out]; rintro e w1 ⟨rfl, m1, hw1⟩; have hb1 : Below w0.heap.size w0 w1 := (by rw [hw1]; exact dN bl m1); clear hw1; have HRA1 := Lib.hid (HRA.out.below hb1); have HRB1 := Lib.hid (HRB.out.below hb1); obtain ⟨e0, e1, e2, e3, e4, e5, e6, e7, e8⟩ := HRA1.out.cells; obtain ⟨f0, f1, f2, f3, f4, f5, f6, f7, f8⟩ := HRB1.out.cells)
      | fail)
    go_ret
    exact ⟨_, rfl, by show Value.bool _ = Value.bool _; unfold exR; rw [E0.out, E1.out]; simp, nx HBW.out hb1⟩
  have E1 := Lib.hid (decide_eq_true h1)
  by_cases h2 : x.cls = y.cls
  rotate_left
  · have E2 := Lib.hid (decide_eq_false h2)
    have hz2 : ¬ x.cls = y.cls := h2
    clear h2
    go_wp2_with (first
      | (go_at_call 45; refine (rexact_any s.A r.A x.name.length s.c y.name.length r.c x.name y.name w0 HX.out.n HY.out.n (Nat.le_trans HX.out.cn.1 HX.out.cn.2) (Nat.le_trans HY.out.cn.1 HY.out.cn.2)).mono ?_; rw [E0.out]; rintro e w1 ⟨rfl, m1, hw1⟩; have hb1 : Below w0.heap.size w0 w1 := (by rw [hw1]; exact dN bl m1); clear hw1; have HRA1 := Lib.hid (HRA.out.below hb1); have HRB1 := Lib.hid (HRB.out.below hb1); obtain ⟨e0, e1, e2, e3, e4, e5, e6, e7, e8⟩ := HRA1.out.cells; obtain ⟨f0, f1, f2, f3, f4, f5, f6, f7, f8⟩ := HRB1.out.cells)
      | fail)
    go_ret
    exact ⟨_, rfl, by show Value.bool _ = Value.bool _; unfold exR; rw [E0.out, E1.out, E2.out]; simp, nx HBW.out hb1⟩
  have E2 := Lib.hid (decide_eq_true h2)
  by_cases h3 : x.ttl = y.ttl
  rotate_left
  · have E3 := Lib.hid (decide_eq_false h3)
    have hz3 : ¬ x.ttl = y.ttl := h3
    clear h3
    go_wp2_with (first
      | (go_at_call 45; refine (rexact_any s.A r.A x.name.length s.c y.name.length r.c x.name y.name w0 HX.out.n HY.out.n (Nat.le_trans HX.out.cn.1 HX.out.cn.2) (Nat.le_trans HY.out.cn.1 HY.out.cn.2)).mono ?_; rw [E0.out]; rintro e w1 ⟨rfl, m1, hw1⟩; have hb1 : Below w0.heap.size w0 w1 := (by rw [hw1]; exact dN bl m1); clear hw1; have HRA1 := Lib.hid (HRA.out.below hb1); have HRB1 := Lib.hid (HRB.out.below hb1); obtain ⟨e0, e1, e2, e3, e4, e5, e6, e7, e8⟩ := HRA1.out.cells; obtain ⟨f0, f1, f2, f3, f4, f5, f6, f7, f8⟩ := HRB1.out.cells)
      | fail)
    go_ret
    exact ⟨_, rfl, by show Value.bool _ = Value.bool _; unfold exR; rw [E0.out, E1.out, E2.out, E3.out]; simp, nx HBW.out hb1⟩
  have E3 := Lib.hid (decide_eq_true h3)
  go_wp2_with (first
    | (go_at_call 40; refine (rexD_any s.d r.d x.data y.data w1 ((HX.out.below hb1 HS0.out).d.rd (fun b hb => Nat.lt_of_lt_of_le (HS0.out b hb) hb1.size)) ((HY.out.below hb1 HT0.out).d.rd (fun b hb => Nat.lt_of_lt_of_le (HT0.out b hb) hb1.size))).mono ?_; rintro e w2 ⟨v2, rfl, rfl, hb2⟩)
    | (go_at_call 45; refine (rexact_any s.A r.A x.name.length s.c y.name.length r.c x.name y.name w0 HX.out.n HY.out.n (Nat.le_trans HX.out.cn.1 HX.out.cn.2) (Nat.le_trans HY.out.cn.1 HY.out.cn.2)).mono ?_; rw [E0.out]; rintro e w1 ⟨rfl, m1, hw1⟩; have hb1 : Below w0.heap.size w0 w1 := (by rw [hw1]; exact dN bl m1); clear hw1; have HRA1 := Lib.hid (HRA.out.below hb1); have HRB1 := Lib.hid (HRB.out.below hb1); obtain ⟨e0, e1, e2, e3, e4, e5, e6, e7, e8⟩ := HRA1.out.cells; obtain ⟨f0, f1, f2, f3, f4, f5, f6, f7, f8⟩ := HRB1.out.cells)
    | fail)
  go_ret
  exact ⟨_, rfl, by show Value.bool _ = Value.bool _; unfold exR; rw [E0.out, E1.out, E2.out, E3.out]; simp, nx (nx HBW.out hb1) hb2⟩
end Go.Proofs.Ytbjaphldncagjaa

/- rr: records one behind the other, in plain Lean. No program in it. -/
namespace Go.Proofs.Ytbjaphldncagjaa
set_option maxRecDepth 100000

/-- The writer when k records were written. -/
def seqR (xs : List RR) : Nat → Wr
  | 0 => Wr.nil
  | k + 1 => (seqR xs k).rr (xs.getD k RR.zero)
section
variable {xs : List RR}
theorem seqR_succ (k : Nat) : seqR xs (k + 1) = (seqR xs k).rr (xs.getD k RR.zero) := rfl
theorem seqR_true (k : Nat) (h : ∀ i, i < k → FineR (xs.getD i RR.zero)) : (seqR xs k).True := by
  induction k with
  | zero => exact Wr.true_nil
  | succ k ih => exact (ih fun i hi => h i (by omega)).rr (h k (by omega))
theorem seqR_ext (k d : Nat) (h : ∀ i, i < k + d → FineR (xs.getD i RR.zero)) : ∃ y, (seqR xs (k + d)).b = (seqR xs k).b ++ y := by
  induction d with
  | zero => exact ⟨[], by simp⟩
  | succ d ih =>
    obtain ⟨y, hy⟩ := ih fun i hi => h i (by omega)
    obtain ⟨z, hz⟩ := Wr.rr_ext (seqR xs (k + d)) (h (k + d) (by omega))
    exact ⟨y ++ z, by rw [← Nat.add_assoc, seqR_succ, hz, hy, List.append_assoc]⟩
theorem seqR_len (k : Nat) (h : ∀ i, i < k → FineR (xs.getD i RR.zero)) : (seqR xs k).b.length ≤ 66000 * k ∧ (seqR xs k).rests.length ≤ 800 * k := by
  induction k with
  | zero => exact ⟨by simp [seqR, Wr.nil], by simp [seqR, Wr.nil]⟩
  | succ k ih =>
    have h1 := ih fun i hi => h i (by omega)
    have hf := h k (by omega)
    have h2 := (seqR xs k).rr_len hf
    have h3 := (seqR xs k).rrLen_lt hf
    have h4 := Wr.name_le (x := seqR xs k) (xs.getD k RR.zero).name true
    have h5 := hf.1.2
    rw [seqR_succ]
    omega
theorem seqR_read {n : Nat} (h : ∀ i, i < n → FineR (xs.getD i RR.zero)) {i : Nat} (hi : i < n) :
    getRR (seqR xs n).b ((seqR xs i).b.length : Int) = (xs.getD i RR.zero, ((seqR xs (i + 1)).b.length : Int), 0) := by
  obtain ⟨y, hy⟩ := seqR_ext (xs := xs) (i + 1) (n - (i + 1)) (by rw [show i + 1 + (n - (i + 1)) = n by omega]; exact h)
  rw [show i + 1 + (n - (i + 1)) = n by omega] at hy
  rw [hy, seqR_succ]
  exact getRR_back (seqR_true i fun j hj => h j (by omega)) (h i hi) y
end
/-- Where records began. -/
def begR (xs : List RR) (k : Nat) : List Int := (List.range k).map fun i => ((seqR xs i).b.length : Int)
theorem begR_succ (xs : List RR) (k : Nat) : begR xs (k + 1) = begR xs k ++ [((seqR xs k).b.length : Int)] := by simp [begR, List.range_succ]
theorem begR_length (xs : List RR) (k : Nat) : (begR xs k).length = k := by simp [begR]
theorem begR_at (xs : List RR) {k i : Nat} (h : i < k) : (begR xs k)[i]? = some ((seqR xs i).b.length : Int) := by simp [begR, h]
end Go.Proofs.Ytbjaphldncagjaa

/- RrBack: the law's walk. -/
namespace Go.Proofs.Ytbjaphldncagjaa
open Go.RowKit
set_option maxRecDepth 100000

theorem elI5 : ElT Try.prog 44 3 encI 8 := ElT.mk Try.underlying44 (.int .i64 0) 1 (by kernel_rfl) rfl rfl
/-- A writer and a row of numbers, side by side. -/
structure RbSt (w wr : World) (g : Nat) (F : Nat → Prop) (x : Wr) (v : Value) (ats : List Int) : Prop where
  W : Wtr wr w.heap.size F g x
  A : OwnE encI 3 noS wr w.heap.size v ats
  AF : ∀ b, v.ownBlock = some b → ¬ F b
  bw : Below w.heap.size w wr
section
variable {w wr w' : World} {g : Nat} {F F' : Nat → Prop} {x x' : Wr} {v : Value} {ats : List Int}
theorem RbSt.nx (h : RbSt w wr g F x v ats) (hb : Below wr.heap.size wr w') : RbSt w w' g F x v ats := ⟨h.W.below hb, h.A.below hb, h.AF, Go.Proofs.Ytbjaphldncagjaa.nx h.bw hb⟩
theorem RbSt.step (h : RbSt w wr g F x v ats) (hw : Wtr w' w.heap.size F' g x') (hc : Chg F wr w') (hF : ∀ z, F' z → F z ∨ wr.heap.size ≤ z) : RbSt w w' g F' x' v ats :=
  ⟨hw, h.A.chg hc (fun k hk => h.AF k hk) (fun _ hb => hb.elim), fun b hb hf => (hF b hf).elim (h.AF b hb) (fun hl => by have := (h.A.lt b hb).2; omega), h.W.bw h.bw (Nat.le_refl _) hc⟩
theorem RbSt.push (h : RbSt w wr g F x v ats) {v' : Value} {n : Int} (ho : OwnE encI 3 (orS noS noS) w' w.heap.size v' (ats ++ [n])) (hg : wr.grownBy w' v.ownBlock) (hv : v'.ownBlock = v.ownBlock ∨ v'.ownBlock = some (wr.heap.size + 1)) :
    RbSt w w' g F x v' (ats ++ [n]) := by
  have hc : Chg (fun b => v.ownBlock = some b) wr w' := (Chg.refl _ _).grown hg (fun k hk => .inl hk)
  have hbl : Below w.heap.size w w' := h.bw.trans (hc.below (fun b hb => (h.A.lt b hb).1) h.bw.size)
  have hS : orS noS noS = noS := by funext b; simp [orS, noS]
  rw [hS] at ho
  refine ⟨h.W.chg hc (fun b hb hf => h.AF b hf hb), ho, fun b hb => ?_, hbl⟩
  rcases hv with e | e
  · exact h.AF b (by rw [← e]; exact hb)
  · rw [e] at hb
    injection hb with hb
    exact fun hf => by have := (h.W.F_lt b hf).2; omega
/-- A number of the row. -/
theorem RbSt.at_ (h : RbSt w wr g F x v ats) {k : Nat} {n : Int} (hk : ats[k]? = some n) : ∃ gb c, v = .slice (some ⟨gb, 0, none⟩) ats.length c ∧ wr.cell? ⟨gb, k, none⟩ = some (.int .i64 n) := by
  obtain ⟨gb, c, rfl, _, _, hc, _, _, hat⟩ := OwnE.flat h.A (Nat.lt_of_le_of_lt (Nat.zero_le k) (List.getElem?_eq_some_iff.1 hk).1)
  obtain ⟨r, ⟨rfl, hr⟩, hcell⟩ := hat k n hk
  refine ⟨gb, c, rfl, ?_⟩
  have := hcell 0 _ rfl
  simpa [encI, flatE] using this
end
theorem RbSt.row {w wr : World} {g : Nat} {F : Nat → Prop} {x : Wr} {v : Value} {ats : List Int} (h : RbSt w wr g F x v ats) (h0 : 0 < ats.length) : ∃ gb c, v = .slice (some ⟨gb, 0, none⟩) ats.length c ∧ ats.length ≤ c ∧ ∀ k n, ats[k]? = some n → wr.cell? ⟨gb, k, none⟩ = some (.int .i64 n) := by
  obtain ⟨gb, c, rfl, _, _, hc, _, _, hat⟩ := OwnE.flat h.A h0
  refine ⟨gb, c, rfl, hc, fun k n hk => ?_⟩
  obtain ⟨r, ⟨rfl, hr⟩, hcell⟩ := hat k n hk
  have := hcell 0 _ rfl
  simpa [encI, flatE] using this
theorem RGot.rin {w : World} {B : Nat} {s : RS} {x : RR} (h : RGot w B s x) (hf : FineR x) : RIn (geS B w) w s x := by
  obtain ⟨n1, n2⟩ := ownE_els h.n rfl
  have h1 := hf.2.1.1
  have h2 := fitsB_true hf.2.2.1
  have h3 : x.cls < 65536 := h2.2.2.2
  have h4 := hf.2.2.2
  exact ⟨n1, n2, h.d.din, ⟨by omega, by omega⟩, ⟨by omega, by omega⟩, ⟨by omega, by omega⟩⟩
theorem own_bt {w : World} {B : Nat} {A : Option Addr} {n c : Nat} {bs : List UInt8} (h : OwnB w B (.slice A n c) bs) : ∀ b off, A = some ⟨b, off, none⟩ → B ≤ b ∧ b < w.heap.size := by
  intro b off e
  subst e
  rcases h.2 with ⟨e0, _⟩ | ⟨g, cap, cur, e0, _⟩
  · cases e0
  · injection e0 with e0
    injection e0 with e0
    injection e0 with e1 e2
    subst e1 e2
    exact World.ownsRow.lt h _ rfl
theorem getD_rr {xs : List RR} {k : Nat} {r : RR} (h : xs[k]? = some r) : xs.getD k RR.zero = r := by rw [List.getD_eq_getElem?_getD, h]; rfl

/-- What the last test of a round reads. -/
def RbS (gb j p1 q : Nat) (t : RS) (b p : Nat) (s : RS) (r : RR) (w : World) : Prop :=
  w.cell? ⟨gb, j + 1, none⟩ = some (.int .i64 (p1 : Int)) ∧ RCells w q 0 t r ∧ RCells w b p s r
theorem RbS.below {gb j p1 q b p : Nat} {t s : RS} {r : RR} {w w' : World} (h : RbS gb j p1 q t b p s r w) (hb : Below w.heap.size w w') : RbS gb j p1 q t b p s r w' := ⟨below_cell hb h.1, h.2.1.below hb, h.2.2.below hb⟩
theorem RbS.spell {gb j p1 q b p : Nat} {t s : RS} {r : RR} {w : World} (h : RbS gb j p1 q t b p s r w) : w.cell? ⟨gb, j + 1, none⟩ = some (.int .i64 (p1 : Int)) ∧ w.cell? ⟨q, 0, none⟩ = some (.slice t.A r.name.length t.c) ∧ w.cell? ⟨q, 1, none⟩ = some (.int .i64 r.type) ∧ w.cell? ⟨q, 2, none⟩ = some (.int .i64 r.cls) ∧ w.cell? ⟨q, 3, none⟩ = some (.int .i64 r.ttl) ∧ w.cell? ⟨q, 4, none⟩ = some (.slice t.d.A0 r.data.bytes.length t.d.c0) ∧ w.cell? ⟨q, 5, none⟩ = some (.slice t.d.A1 r.data.host.length t.d.c1) ∧ w.cell? ⟨q, 6, none⟩ = some (.slice t.d.A2 r.data.mail.length t.d.c2) ∧ w.cell? ⟨q, 7, none⟩ = some (.slice t.d.A3 r.data.nums.length t.d.c3) ∧ w.cell? ⟨q, 8, none⟩ = some (.slice t.d.A4 r.data.texts.length t.d.c4) ∧ w.cell? ⟨b, p, none⟩ = some (.slice s.A r.name.length s.c) ∧ w.cell? ⟨b, p + 1, none⟩ = some (.int .i64 r.type) ∧ w.cell? ⟨b, p + 2, none⟩ = some (.int .i64 r.cls) ∧ w.cell? ⟨b, p + 3, none⟩ = some (.int .i64 r.ttl) ∧ w.cell? ⟨b, p + 4, none⟩ = some (.slice s.d.A0 r.data.bytes.length s.d.c0) ∧ w.cell? ⟨b, p + 5, none⟩ = some (.slice s.d.A1 r.data.host.length s.d.c1) ∧ w.cell? ⟨b, p + 6, none⟩ = some (.slice s.d.A2 r.data.mail.length s.d.c2) ∧ w.cell? ⟨b, p + 7, none⟩ = some (.slice s.d.A3 r.data.nums.length s.d.c3) ∧ w.cell? ⟨b, p + 8, none⟩ = some (.slice s.d.A4 r.data.texts.length s.d.c4) := by
  obtain ⟨h0, ⟨a0, a1, a2, a3, a4, a5, a6, a7, a8⟩, ⟨b0, b1, b2, b3, b4, b5, b6, b7, b8⟩⟩ := h
  rw [Nat.zero_add] at a1 a2 a3 a4 a5 a6 a7 a8
  exact ⟨h0, a0, a1, a2, a3, a4, a5, a6, a7, a8, b0, b1, b2, b3, b4, b5, b6, b7, b8⟩
set_option maxHeartbeats 8000000 in
theorem rrBack_ok (A : Option Addr) (c : Nat) (xs : List RR) (w : World) (h : RdE encRR w A xs.length xs) (hl : LtL xs) :
    Calls Try.prog 14 #[.slice A xs.length c] w (LawT w) := by
  have H := Lib.hid h
  have HL := Lib.hid hl
  have HLD := Lib.hid (decide_eq_true hl)
  have h60 := hl.2
  clear h hl
  go_enter Try.func14, Try.ntmps14
  go_upto_region 4 with (first
    | (go_at_call 36; refine (light05_any A _ c xs w2 (H.out.below HS2.out.bw) (by unfold maxLen; omega)).mono ?_; rw [HLD.out]; rintro e w3 ⟨v3, rfl, rfl, hb3⟩; have HS3 := Lib.hid (HS2.out.nx hb3))
    | (go_at_call 35; refine (answers05_any w1).mono ?_; rintro e w2 ⟨rfl, hb2⟩; have HS2 := Lib.hid (HS1.out.nx hb2))
    | (go_at_call 48; refine (wnew_any w).mono ?_; rintro e w1 ⟨g, F, rfl, hw1, hb1⟩; have HS1 : Hid (RbSt w w1 g F Wr.nil (.slice none 0 0) []) := ⟨hw1, OwnE.nil _ _ _ _, fun b hb => (by cases hb), hb1⟩; clear hw1 hb1)
    | fail)
  clear HS1 HS2 hb2 hb3
  have HSW : Hid (∀ b, ltS w b → b < w.heap.size) := fun b hb => hb
  go_wp2_with fail
  go_loopw [4, 5] (fun av iv wr => ∃ (k : Nat) (F : Nat → Prop) (v : Value), iv = .int .i64 k ∧ k ≤ xs.length ∧ av = v ∧ Hid (RbSt w wr g F (seqR xs k) v (begR xs k)) ∧ Hid (∀ i, i < k → FineR (xs.getD i RR.zero))) (fun _ iv _ => xs.length - (intOf iv).toNat)
  case atStart => exact ⟨0, F, _, rfl, Nat.zero_le _, rfl, HS3, fun i hi => absurd hi (Nat.not_lt_zero _)⟩
  case round =>
    clear HS3
    obtain ⟨k, F, v, rfl, hk, rfl, HS, HFN⟩ := hrel
    have hlen := seqR_len k HFN.out
    have HLEN : Hid ((seqR xs k).b.length ≤ 66000 * 60 ∧ (seqR xs k).rests.length ≤ 800 * 60) := ⟨by omega, by omega⟩
    clear hlen
    by_cases hlt : k < xs.length
    · obtain ⟨r, hr⟩ : ∃ r, xs[k]? = some r := ⟨_, List.getElem?_eq_getElem hlt⟩
      have HLR := Lib.hid (HL.out.1 r (List.mem_of_getElem? hr))
      obtain ⟨b, off, s, hA, hb0, hri, hrc⟩ := rr_at H.out hr
      have hgd := getD_rr hr
      have HRC := Lib.hid hrc
      have HRI := Lib.hid hri
      have HA := Lib.hid hA
      have HGD := Lib.hid hgd
      rw [hA]
      obtain ⟨d0, d1, d2, d3, d4, d5, d6, d7, d8⟩ := hrc.below HS.out.bw
      clear hr hri hrc hA hb0 hgd
      by_cases hf : FineR r
      · have HFR := Lib.hid hf
        have HFB := Lib.hid (fineRB_true hf)
        have HEB : Hid (begR xs k ++ [((seqR xs k).b.length : Int)] = begR xs (k + 1)) := (begR_succ _ _).symm
        have HEX : Hid ((seqR xs k).rr r = seqR xs (k + 1)) := by show _ = _; rw [seqR_succ, HGD.out]
        have hbl := begR_length xs k
        have HFN2 : Hid (∀ i, i < k + 1 → FineR (xs.getD i RR.zero)) := fun i hi => by
          by_cases e : i = k
          · subst e; rw [HGD.out]; exact hf
          · exact HFN.out i (by omega)
        clear hf
        generalize seqR xs k = x at HS HLEN HEB HEX
        generalize begR xs k = ats at HS HEB hbl
        have hxl := HLEN.out.1
        go_upto_region 10 with (first
          | (go_at_call 63; refine (rSound_any s r wr (HRI.out.below HS.out.bw HSW.out) (fun b hb => Nat.lt_of_lt_of_le (HSW.out b hb) HS.out.bw.size) (by have := HLR.out.1; omega) ⟨by have := HLR.out.2.1; omega, by have := HLR.out.2.2.1; omega, by have := HLR.out.2.2.2.2.1; omega, by have := HLR.out.2.2.2.1; omega⟩).mono ?_; rw [HFB.out]; rintro e w2 ⟨v2, rfl, rfl, hb2⟩; have HS2 := Lib.hid (HS.out.nx hb2); clear hb2)
          | fail)
        clear d0 d1 d2 d3 d4 d5 d6 d7 d8
        go_upto_region 11 with (first
          | (go_at_call 59; refine (wlen_any w2 w.heap.size g F x HS2.out.W).mono ?_; rintro e wa ⟨rfl, rfl⟩)
          | ((with_reducible show wpList _ _ _ (⟨some 44, _, _, _, _, _⟩ :: _) _ _); refine wpL_pushE (S' := noS) elI5 rfl (.tmp 40) (.tmp 43) rfl w.heap.size _ ats rfl HS2.out.A _ (x.b.length : Int) ⟨rfl, by omega, by omega⟩ (fun b hb => hb.elim) rfl (by omega) (by unfold maxLen; omega) HS2.out.bw.size ?_; intro v3 w3 hown3 hg3 hat3; have HS3 := Lib.hid (HS2.out.push hown3 hg3 hat3); rw [HEB.out] at HS3; clear hown3 hg3 hat3)
          | fail)
        obtain ⟨d0, d1, d2, d3, d4, d5, d6, d7, d8⟩ := HRC.out.below HS3.out.bw
        go_wp2_with (first
          | (go_at_call 61; refine (rrPut_any w6 w.heap.size g F x s6 r (geS w3.heap.size w6) HFR.out HS6.out.W HI6.out (fun b hb => ⟨hb.2, fun hf => by have h1 := hb.1; have h2 := (HS3.out.W.F_lt b hf).2; omega⟩) (by omega) (by have := HLEN.out; omega)).mono ?_; rw [HEX.out]; rintro e w7 ⟨rfl, F7, h7, hc7, hF7⟩; have HS7 := Lib.hid (HS6.out.step h7 hc7 hF7); clear h7 hc7 hF7)
          | (go_at_call 62; refine (own05_any s r w3 (HRI.out.below HS3.out.bw HSW.out) (fun b hb => Nat.lt_of_lt_of_le (HSW.out b hb) HS3.out.bw.size) HLR.out.light9).mono ?_; rintro e w6 ⟨v6, rfl, ⟨s6, rfl, hi6⟩, hb6⟩; have HI6 := Lib.hid hi6; have HS6 := Lib.hid (HS3.out.nx hb6); clear hi6 hb6)
          | fail)
        go_roundw
        case rel => exact ⟨k + 1, F7, _, by go_num, by omega, rfl, HS7, HFN2⟩
        case measure => simp [intOf]; omega
      · have HFB := Lib.hid (fineRB_false hf)
        clear hf
        go_wp2_with (first
          | (go_at_call 63; refine (rSound_any s r wr (HRI.out.below HS.out.bw HSW.out) (fun b hb => Nat.lt_of_lt_of_le (HSW.out b hb) HS.out.bw.size) (by have := HLR.out.1; omega) ⟨by have := HLR.out.2.1; omega, by have := HLR.out.2.2.1; omega, by have := HLR.out.2.2.2.2.1; omega, by have := HLR.out.2.2.2.1; omega⟩).mono ?_; rw [HFB.out]; rintro e w2 ⟨v2, rfl, rfl, hb2⟩; have HS2 := Lib.hid (HS.out.nx hb2); clear hb2)
          | fail)
        go_ret
        exact ⟨rfl, HS2.out.bw⟩
    · obtain rfl : k = xs.length := by omega
      have hrd : ∀ i, i < xs.length → getRR (seqR xs xs.length).b ((seqR xs i).b.length : Int) = (xs.getD i RR.zero, ((seqR xs (i + 1)).b.length : Int), 0) := fun i hi => seqR_read HFN.out hi
      have HEB : Hid (begR xs xs.length ++ [((seqR xs xs.length).b.length : Int)] = begR xs (xs.length + 1)) := (begR_succ _ _).symm
      have hbl := begR_length xs xs.length
      have HRD := Lib.hid hrd
      clear hrd hlt hk
      generalize seqR xs xs.length = xn at HS HLEN HEB HRD
      generalize begR xs xs.length = ats at HS HEB hbl
      have hxl := HLEN.out.1
      go_upto_region 15 with (first
        | (go_at_call 57; refine (wbytes_any wr w.heap.size g F xn HS.out.W (by omega)).mono ?_; rintro e w2 ⟨v2, rfl, hown2, hb2⟩; have HS2 := Lib.hid (HS.out.nx hb2); have HLT2 := Lib.hid hown2; obtain ⟨A2, c2, rfl, hr2, hl2, hm2⟩ := hown2.form; have HR2 := Lib.hid hr2; clear hr2 hown2 hb2)
        | ((with_reducible show wpList _ _ _ (⟨some 59, _, _, _, _, _⟩ :: _) _ _); refine wpL_pushE (S' := noS) elI5 rfl (.tmp 55) (.tmp 58) rfl w.heap.size _ ats rfl HS2.out.A _ (xn.b.length : Int) ⟨rfl, by omega, by omega⟩ (fun b hb => hb.elim) rfl (by omega) (by unfold maxLen; omega) HS2.out.bw.size ?_; intro v3 w3 hown3 hg3 hat3; have HS3 := Lib.hid (HS2.out.push hown3 hg3 hat3); rw [HEB.out] at HS3; have HGR := Lib.hid hg3; clear hown3 hat3 hg3)
        | fail)
      have HR3 : Hid (RdB w3 A2 xn.b.length xn.b) := Rd.grown HR2.out HGR.out (fun b off e he => by have h1 := (own_bt HLT2.out b off e).1; have h2 := (HS.out.A.lt b he.symm).2; omega)
      have HLT3 : Hid (∀ b off, A2 = some ⟨b, off, none⟩ → b < w3.heap.size) := fun b off e => by have h1 := (own_bt HLT2.out b off e).2; have h2 := HGR.out.size; omega
      obtain ⟨gb, ca, rfl, hca, hat⟩ := HS3.out.row (by rw [begR_length]; omega)
      rw [begR_length] at hca ⊢
      have HAT : Hid (∀ j, j ≤ xs.length → w3.cell? ⟨gb, j, none⟩ = some (.int .i64 ((seqR xs j).b.length : Int))) := fun j hj => hat j _ (begR_at xs (by omega))
      have HB3 := Lib.hid HS3.out.bw
      clear hat HS HS2 HS3 HR2 HLT2 HGR HEB
      go_wp2_with fail
      go_loopw [7] (fun iv wk => ∃ j : Nat, iv = .int .i64 j ∧ j ≤ xs.length ∧ Hid (Below w3.heap.size w3 wk)) (fun iv _ => xs.length - (intOf iv).toNat)
      case atStart => exact ⟨0, rfl, Nat.zero_le _, bl⟩
      case round =>
        obtain ⟨j, rfl, hj, HBK⟩ := hrel
        rename World => wk
        by_cases hlt : j < xs.length
        · obtain ⟨r, hr⟩ : ∃ r, xs[j]? = some r := ⟨_, List.getElem?_eq_getElem hlt⟩
          obtain ⟨b, off, s, hA, hb0, hri, hrc⟩ := rr_at H.out hr
          have HBW := Lib.hid (nx HB3.out HBK.out)
          have hgd := getD_rr hr
          have hfr := HFN.out j hlt
          rw [hgd] at hfr
          have hget := HRD.out j hlt
          rw [hgd] at hget
          have HFR := Lib.hid hfr
          have HGET := Lib.hid hget
          have HRC := Lib.hid hrc
          have HRI := Lib.hid hri
          have HA := Lib.hid hA
          rw [hA]
          have e0 := below_cell HBK.out (HAT.out j (by omega))
          have e1 := below_cell HBK.out (HAT.out (j + 1) (by omega))
          generalize (seqR xs j).b.length = p0 at e0 HGET
          generalize (seqR xs (j + 1)).b.length = p1 at e1 HGET
          obtain ⟨d0, d1, d2, d3, d4, d5, d6, d7, d8⟩ := hrc.below HBW.out
          clear hr hri hrc hA hb0 hgd hfr hget
          go_upto_region 19 with (first
            | (go_at_call 66; refine (rrget_any wk A2 xn.b.length c2 (p0 : Int) xn.b (RdB.below HR3.out HBK.out) (fun b off e => Nat.lt_of_lt_of_le (HLT3.out b off e) HBK.out.size) hl2 (by unfold maxLen at hm2; omega) (by omega)).mono ?_; unfold goodRR; rw [HGET.out]; rintro e w5 ⟨v5, rfl, ⟨s5, rfl, hg5⟩, hb5⟩; unfold rrV rrCells; have HG5 := Lib.hid (hg5.rin HFR.out); have HB5 := Lib.hid hb5; clear hg5 hb5)
            | fail)
          obtain ⟨w6, hw6⟩ : ∃ w6, w6 = w5.alloc (.cells #[.slice s5.A r.name.length s5.c, .int .i64 r.type, .int .i64 r.cls, .int .i64 r.ttl, .slice s5.d.A0 r.data.bytes.length s5.d.c0, .slice s5.d.A1 r.data.host.length s5.d.c1, .slice s5.d.A2 r.data.mail.length s5.d.c2, .slice s5.d.A3 r.data.nums.length s5.d.c3, .slice s5.d.A4 r.data.texts.length s5.d.c4] 48) := ⟨_, rfl⟩
          have hb6 : Below w5.heap.size w5 w6 := by rw [hw6]; exact bl.alloc (Nat.le_refl _) _
          have hR6 : RRow w6 w5.heap.size s5 r := by rw [hw6]; exact heap_alloc_new w5 _
          have hbk6 := nx HB5.out hb6
          have hlc6 := HRC.out.below (nx HBW.out hbk6)
          have hq0 : RbS gb j p1 w5.heap.size s5 b (off + j * 9) s r w6 := ⟨below_cell hbk6 e1, hR6.cells, hlc6⟩
          have hq0' : RbS gb j p1 w5.heap.size s5 b (off + j * 9) s r w6.drew := hq0.below bl.drew
          have HI5 := Lib.hid ((HG5.out.below hb6 (fun b hb => hb.2)).below bl.drew (fun b hb => Nat.lt_of_lt_of_le hb.2 hb6.size))
          have HL5 : Hid (∀ z, geS wk.heap.size w5 z → z < w6.drew.heap.size) := fun z hz => Nat.lt_of_lt_of_le hz.2 hb6.size
          have HI6 := Lib.hid ((HRI.out.below (nx HBW.out hbk6) HSW.out).below bl.drew (fun b hb => Nat.lt_of_lt_of_le (HSW.out b hb) (nx HBW.out hbk6).size))
          have HL6 : Hid (∀ z, ltS w z → z < w6.drew.heap.size) := fun z hz => Nat.lt_of_lt_of_le (HSW.out z hz) (nx HBW.out hbk6).size
          have HBK6 := Lib.hid (nx HBK.out hbk6)
          have HQ0 := Lib.hid hq0
          have HQ0' := Lib.hid hq0'
          rw [← hw6]
          generalize w5.heap.size = q5 at *
          clear hw6 hR6 hlc6 hq0 hq0' e0 e1 d0 d1 d2 d3 d4 d5 d6 d7 d8 hb6 hbk6
          have hj1 : (0 : Int) ≤ (j : Int) := by omega
          have hj2 : (j : Int) + 1 < ((xs.length + 1 : Nat) : Int) := by omega
          have hj3 : (0 : Int) ≤ (j : Int) + 1 := by omega
          have hj4 : (j : Int) + 1 < (xs.length : Int) + 1 := by omega
          have hj5 : (j : Int) < (xs.length : Int) := by omega
          have hj6 : j + 1 < xs.length + 1 := by omega
          have hw : IntKind.i64.wrap ((j : Int) + 1) = (j : Int) + 1 := by rw [IntKind.wrap_i64]; omega
          have ht : ((j : Int) + 1).toNat = j + 1 := by omega
          have q0 := HQ0.out.spell
          have q0' := HQ0'.out.spell
          go_region_held3 (fun w' => w'.cell? ⟨gb, j + 1, none⟩ = some (.int .i64 (p1 : Int)) ∧ w'.cell? ⟨q5, 0, none⟩ = some (.slice s5.A r.name.length s5.c) ∧ w'.cell? ⟨q5, 1, none⟩ = some (.int .i64 r.type) ∧ w'.cell? ⟨q5, 2, none⟩ = some (.int .i64 r.cls) ∧ w'.cell? ⟨q5, 3, none⟩ = some (.int .i64 r.ttl) ∧ w'.cell? ⟨q5, 4, none⟩ = some (.slice s5.d.A0 r.data.bytes.length s5.d.c0) ∧ w'.cell? ⟨q5, 5, none⟩ = some (.slice s5.d.A1 r.data.host.length s5.d.c1) ∧ w'.cell? ⟨q5, 6, none⟩ = some (.slice s5.d.A2 r.data.mail.length s5.d.c2) ∧ w'.cell? ⟨q5, 7, none⟩ = some (.slice s5.d.A3 r.data.nums.length s5.d.c3) ∧ w'.cell? ⟨q5, 8, none⟩ = some (.slice s5.d.A4 r.data.texts.length s5.d.c4) ∧ w'.cell? ⟨b, off + j * 9, none⟩ = some (.slice s.A r.name.length s.c) ∧ w'.cell? ⟨b, off + j * 9 + 1, none⟩ = some (.int .i64 r.type) ∧ w'.cell? ⟨b, off + j * 9 + 2, none⟩ = some (.int .i64 r.cls) ∧ w'.cell? ⟨b, off + j * 9 + 3, none⟩ = some (.int .i64 r.ttl) ∧ w'.cell? ⟨b, off + j * 9 + 4, none⟩ = some (.slice s.d.A0 r.data.bytes.length s.d.c0) ∧ w'.cell? ⟨b, off + j * 9 + 5, none⟩ = some (.slice s.d.A1 r.data.host.length s.d.c1) ∧ w'.cell? ⟨b, off + j * 9 + 6, none⟩ = some (.slice s.d.A2 r.data.mail.length s.d.c2) ∧ w'.cell? ⟨b, off + j * 9 + 7, none⟩ = some (.slice s.d.A3 r.data.nums.length s.d.c3) ∧ w'.cell? ⟨b, off + j * 9 + 8, none⟩ = some (.slice s.d.A4 r.data.texts.length s.d.c4))
            (first
              | with_reducible exact q0
              | with_reducible exact q0'
              | with_reducible exact q1
              | fail)
            (first
              | (go_at_call 67; refine (rsameRR_any s5 s r r w6.drew HI5.out HI6.out HL5.out HL6.out).mono ?_; rw [exR_refl]; rintro e w7 ⟨v7, rfl, rfl, hb7⟩; have q1 := (HQ0'.out.below hb7).spell)
              | fail)
          clear hw ht hj1 hj2 hj3 hj4 hj5 hj6
          have HB7 := Lib.hid (nx HBK6.out (bl.drew.trans hb7))
          clear q0 q0' q1
          go_wp2
          go_roundw
          case rel => exact ⟨j + 1, by go_num, by omega, HB7⟩
          case measure => simp [intOf]; omega
        · go_wp2
          go_ret
          exact ⟨rfl, nx HB3.out HBK.out⟩

set_option maxHeartbeats 2000000 in
theorem rrBack_heavy (A : Option Addr) (c : Nat) (xs : List RR) (w : World) (h : RdE encRR w A xs.length xs) (hm : xs.length ≤ maxLen) (hl : ¬ LtL xs) :
    Calls Try.prog 14 #[.slice A xs.length c] w (LawT w) := by
  have H := Lib.hid h
  have HLD := Lib.hid (decide_eq_false hl)
  clear h hl
  go_enter Try.func14, Try.ntmps14
  go_wp2_with (first
    | (go_at_call 35; refine (answers05_any w3).mono ?_; rintro e w4 ⟨rfl, hb4⟩)
    | (go_at_call 36; refine (light05_any A _ c xs w2 (H.out.below (nx hb1 hb2)) hm).mono ?_; rw [HLD.out]; rintro e w3 ⟨v3, rfl, rfl, hb3⟩)
    | (go_at_call 35; refine (answers05_any w1).mono ?_; rintro e w2 ⟨rfl, hb2⟩)
    | (go_at_call 48; refine (wnew_any w).mono ?_; rintro e w1 ⟨g, F, rfl, hw1, hb1⟩; clear hw1)
    | fail)
  go_ret
  exact ⟨rfl, nx (nx (nx hb1 hb2) hb3) hb4⟩
theorem rrBack_walk (A : Option Addr) (n c : Nat) (xs : List RR) (w : World) (h : RdE encRR w A n xs) (hc : n ≤ c) (hm : c ≤ maxLen) :
    Calls Try.prog 14 #[.slice A n c] w (LawT w) := by
  have hl := h.len
  subst hl
  by_cases h0 : LtL xs
  · exact rrBack_ok A c xs w h h0
  · exact rrBack_heavy A c xs w h (Nat.le_trans hc hm) h0
end Go.Proofs.Ytbjaphldncagjaa
