/- Parts of a proof, joined: ExD, ExRR. -/
import Derived.Test.YtimkdpkhdbiniaaZHDM03
import Derived.Test.YtimkdpkhdbiniaaZHDM02
import Derived.Test.YtimkdpkhdbiniaaZHDM05
/- The reference's Exact: are data the same, byte by byte? -/
namespace Go.Proofs.Ytimkdpkhdbiniaa
open Go.RowKit
set_option maxRecDepth 100000

/-- The same, byte by byte? -/
def exD (x y : Da) : Bool := sameD x y && (decide (x.host = y.host) && decide (x.mail = y.mail))
theorem sameD_refl (x : Da) : sameD x x = true := sameD_true rfl rfl rfl rfl rfl
theorem exD_refl (x : Da) : exD x x = true := by simp [exD, sameD_refl]
theorem exD_iff {x y : Da} : exD x y = true ↔ x = y := by
  constructor
  · intro h
    simp only [exD, Bool.and_eq_true, decide_eq_true_eq] at h
    obtain ⟨h1, h2, h3⟩ := h
    obtain ⟨a, b, c, _⟩ := sameD_iff.1 h1
    cases x; cases y; simp_all
  · rintro rfl; exact exD_refl _

set_option maxHeartbeats 4000000 in
theorem rexD_any (s r : DS) (x y : Da) (w : World) (hx : DRd w s x) (hy : DRd w r y) : Calls Try.prog 85 #[dsV s x, dsV r y] w (RetP (fun v _ => v = .bool (exD x y)) w) := by
  unfold dsV
  obtain ⟨w0, hw0⟩ : ∃ w0, w0 = (w.alloc (.cells #[.slice s.A0 x.bytes.length s.c0, .slice s.A1 x.host.length s.c1, .slice s.A2 x.mail.length s.c2, .slice s.A3 x.nums.length s.c3, .slice s.A4 x.texts.length s.c4] 46)).alloc (.cells #[.slice r.A0 y.bytes.length r.c0, .slice r.A1 y.host.length r.c1, .slice r.A2 y.mail.length r.c2, .slice r.A3 y.nums.length r.c3, .slice r.A4 y.texts.length r.c4] 46) := ⟨_, rfl⟩
  have hbA : Below w.heap.size w (w.alloc (.cells #[.slice s.A0 x.bytes.length s.c0, .slice s.A1 x.host.length s.c1, .slice s.A2 x.mail.length s.c2, .slice s.A3 x.nums.length s.c3, .slice s.A4 x.texts.length s.c4] 46)) := bl.alloc (Nat.le_refl _) _
  have hb0 : Below w.heap.size w w0 := by rw [hw0]; exact nx hbA (bl.alloc (Nat.le_refl _) _)
  have HX0 := Lib.hid (hx.below hb0)
  have HY0 := Lib.hid (hy.below hb0)
  have BX0 : Hid (DBox w0 w.heap.size s x) := by show DBox _ _ _ _; rw [hw0]; exact (DBox.made w s x _).below (bl.alloc (Nat.le_refl _) _)
  have BY0 : Hid (DBox w0 (w.heap.size + 1) r y) := by
    show DBox _ _ _ _
    rw [hw0]
    have := DBox.made (w.alloc (.cells #[.slice s.A0 x.bytes.length s.c0, .slice s.A1 x.host.length s.c1, .slice s.A2 x.mail.length s.c2, .slice s.A3 x.nums.length s.c3, .slice s.A4 x.texts.length s.c4] 46)) r y 46
    rw [show (w.alloc (.cells #[.slice s.A0 x.bytes.length s.c0, .slice s.A1 x.host.length s.c1, .slice s.A2 x.mail.length s.c2, .slice s.A3 x.nums.length s.c3, .slice s.A4 x.texts.length s.c4] 46)).heap.size = w.heap.size + 1 by simp] at this
    exact this
  clear hx hy hbA
  obtain ⟨a00, a01, a02, a03, a04⟩ := BX0.out
  obtain ⟨b00, b01, b02, b03, b04⟩ := BY0.out
  go_enter Try.func85, Try.ntmps85
  go_upto_region 1 with (fail)
  rw [← hw0]
  clear hw0
  cases e0 : sameD x y with
  | false =>
    have E0 := Lib.hid e0
    clear e0
    go_wp2_with (first
      | (go_at_call 79; refine (rsame_any s r x y w0 HX0.out HY0.out).mono ?_; rw [E0.out]; rintro e w1 ⟨v1, rfl, rfl, hb1⟩)
      | fail)
    go_ret
    exact ⟨_, rfl, by unfold exD; rw [E0.out]; rfl, nx hb0 hb1⟩
  | true =>
    have E0 := Lib.hid e0
    clear e0
    by_cases e1 : x.host = y.host
    · have E1 := Lib.hid e1
      clear e1
      go_wp2_with (first
        | (go_at_call 28; refine (rexact_any s.A2 r.A2 x.mail.length s.c2 y.mail.length r.c2 x.mail y.mail w2 HX2.out.m HY2.out.m (by have := HX2.out.cm; omega) (by have := HY2.out.cm; omega)).mono ?_; rintro e w3 ⟨rfl, m3, hw3⟩; have hb3 : Below w2.heap.size w2 w3 := (by rw [hw3]; exact dN bl m3); clear hw3)
        | (go_at_call 28; refine (rexact_any s.A1 r.A1 x.host.length s.c1 y.host.length r.c1 x.host y.host w1 HX1.out.h HY1.out.h (by have := HX1.out.ch; omega) (by have := HY1.out.ch; omega)).mono ?_; rw [decide_eq_true E1.out]; rintro e w2 ⟨rfl, m2, hw2⟩; have hb2 : Below w1.heap.size w1 w2 := (by rw [hw2]; exact dN bl m2); clear hw2; have HX2 := Lib.hid (HX1.out.below hb2); have HY2 := Lib.hid (HY1.out.below hb2); obtain ⟨c00, c01, c02, c03, c04⟩ := BX1.out.below hb2; obtain ⟨d00, d01, d02, d03, d04⟩ := BY1.out.below hb2)
        | (go_at_call 79; refine (rsame_any s r x y w0 HX0.out HY0.out).mono ?_; rw [E0.out]; rintro e w1 ⟨v1, rfl, rfl, hb1⟩; have HX1 := Lib.hid (HX0.out.below hb1); have HY1 := Lib.hid (HY0.out.below hb1); have BX1 := Lib.hid (BX0.out.below hb1); have BY1 := Lib.hid (BY0.out.below hb1); obtain ⟨f00, f01, f02, f03, f04⟩ := BX1.out; obtain ⟨g00, g01, g02, g03, g04⟩ := BY1.out)
        | fail)
      go_ret
      exact ⟨_, rfl, by unfold exD; rw [E0.out, decide_eq_true E1.out]; rfl, nx (nx (nx hb0 hb1) hb2) hb3⟩
    · have E1 := Lib.hid (decide_eq_false e1)
      clear e1
      go_wp2_with (first
        | (go_at_call 28; refine (rexact_any s.A1 r.A1 x.host.length s.c1 y.host.length r.c1 x.host y.host w1 HX1.out.h HY1.out.h (by have := HX1.out.ch; omega) (by have := HY1.out.ch; omega)).mono ?_; rw [E1.out]; rintro e w2 ⟨rfl, m2, hw2⟩; have hb2 : Below w1.heap.size w1 w2 := (by rw [hw2]; exact dN bl m2); clear hw2)
        | (go_at_call 79; refine (rsame_any s r x y w0 HX0.out HY0.out).mono ?_; rw [E0.out]; rintro e w1 ⟨v1, rfl, rfl, hb1⟩; have HX1 := Lib.hid (HX0.out.below hb1); have HY1 := Lib.hid (HY0.out.below hb1); have BX1 := Lib.hid (BX0.out.below hb1); have BY1 := Lib.hid (BY0.out.below hb1); obtain ⟨f00, f01, f02, f03, f04⟩ := BX1.out; obtain ⟨g00, g01, g02, g03, g04⟩ := BY1.out)
        | fail)
      go_ret
      exact ⟨_, rfl, by unfold exD; rw [E0.out, E1.out]; rfl, nx (nx hb0 hb1) hb2⟩
end Go.Proofs.Ytimkdpkhdbiniaa

/- The reference's SameRR: are records the same, byte by byte? -/
namespace Go.Proofs.Ytimkdpkhdbiniaa
open Go.RowKit
set_option maxRecDepth 100000

def exR (x y : RR) : Bool := decide (x.name = y.name) && (decide (x.type = y.type) && (decide (x.cls = y.cls) && (decide (x.ttl = y.ttl) && exD x.data y.data)))
theorem exR_iff {x y : RR} : exR x y = true ↔ x = y := by
  constructor
  · intro h
    simp only [exR, Bool.and_eq_true, decide_eq_true_eq, exD_iff] at h
    obtain ⟨h1, h2, h3, h4, h5⟩ := h
    cases x; cases y; simp_all
  · rintro rfl
    simp [exR, exD_refl]
set_option maxHeartbeats 4000000 in
theorem rsameRR_any (s r : RS) (x y : RR) (w : World) {S T : Nat → Prop} (hx : RIn S w s x) (hy : RIn T w r y) (hS : ∀ b, S b → b < w.heap.size) (hT : ∀ b, T b → b < w.heap.size) :
    Calls Try.prog 44 #[rrV s x, rrV r y] w (RetP (fun v _ => v = .bool (exR x y)) w) := by
  obtain ⟨wa, hwa⟩ : ∃ wa, wa = w.alloc (.cells (rrCells s x) 84) := ⟨_, rfl⟩
  obtain ⟨w0, hw0⟩ : ∃ w0, w0 = wa.alloc (.cells (rrCells r y) 84) := ⟨_, rfl⟩
  have hba : Below w.heap.size w wa := by rw [hwa]; exact bl.alloc (Nat.le_refl _) _
  have hb0' : Below wa.heap.size wa w0 := by rw [hw0]; exact bl.alloc (Nat.le_refl _) _
  have hza : wa.heap.size = w.heap.size + 1 := by rw [hwa]; simp
  have hb0 := nx hba hb0'
  have hRa : RRow w0 w.heap.size s x := by have h : RRow wa w.heap.size s x := by rw [hwa]; exact heap_alloc_new w _
                                           exact h.below hb0'
  have hRb : RRow w0 (w.heap.size + 1) r y := by rw [← hza, hw0]; exact heap_alloc_new wa _
  have HRA := Lib.hid hRa
  have HRB := Lib.hid hRb
  have HX := Lib.hid (hx.below hb0 hS)
  have HY := Lib.hid (hy.below hb0 hT)
  have HS0 : Hid (∀ b, S b → b < w0.heap.size) := fun b hb => Nat.lt_of_lt_of_le (hS b hb) hb0.size
  have HT0 : Hid (∀ b, T b → b < w0.heap.size) := fun b hb => Nat.lt_of_lt_of_le (hT b hb) hb0.size
  have HBW := Lib.hid hb0
  obtain ⟨a0, a1, a2, a3, a4, a5, a6, a7, a8⟩ := hRa.cells
  obtain ⟨b0, b1, b2, b3, b4, b5, b6, b7, b8⟩ := hRb.cells
  unfold rrV
  unfold rrCells at hwa hw0 ⊢
  clear hx hy hS hT hba hb0' hza hb0 hRa hRb
  go_enter Try.func44, Try.ntmps44
  go_upto_region 1 with (fail)
  rw [← hwa, ← hw0]
  clear hwa hw0
  by_cases h0 : x.name = y.name
  rotate_left
  · have E0 := Lib.hid (decide_eq_false h0)
    clear h0
    go_wp2_with (first
      | (go_at_call 28; refine (rexact_any s.A r.A x.name.length s.c y.name.length r.c x.name y.name w0 HX.out.n HY.out.n (Nat.le_trans HX.out.cn.1 HX.out.cn.2) (Nat.le_trans HY.out.cn.1 HY.out.cn.2)).mono ?_; rw [E0.out]; rintro e w1 ⟨rfl, m1, hw1⟩; have hb1 : Below w0.heap.size w0 w1 := (by rw [hw1]; exact dN bl m1); clear hw1; have HRA1 := Lib.hid (HRA.out.below hb1); have HRB1 := Lib.hid (HRB.out.below hb1); obtain ⟨e0, e1, e2, e3, e4, e5, e6, e7, e8⟩ := HRA1.out.cells; obtain ⟨f0, f1, f2, f3, f4, f5, f6, f7, f8⟩ := HRB1.out.cells)
      | fail)
    go_ret
    exact ⟨_, rfl, by show Value.bool _ = Value.bool _; unfold exR; rw [E0.out]; simp, nx HBW.out hb1⟩
  have E0 := Lib.hid (decide_eq_true h0)
  clear h0
  by_cases h1 : x.type = y.type
  rotate_left
  · have E1 := Lib.hid (decide_eq_false h1)
    have hz1 : ¬ x.type = y.type := h1
    clear h1
    go_wp2_with (first
      | (go_at_call 28; refine (rexact_any s.A r.A x.name.length s.c y.name.length r.c x.name y.name w0 HX.out.n HY.out.n (Nat.le_trans HX.out.cn.1 HX.out.cn.2) (Nat.le_trans HY.out.cn.1 HY.out.cn.2)).mono ?_; rw [E0.out]; rintro e w1 ⟨rfl, m1, hw1⟩; have hb1 : Below w0.heap.size w0 w1 := (by rw [hw1]; exact dN bl m1); clear hw1; have HRA1 := Lib.hid (HRA.out.below hb1); have HRB1 := Lib.hid (HRB.out.below hb1); obtain ⟨e0, e1, e2, e3, e4, e5, e6, e7, e8⟩ := HRA1.out.cells; obtain ⟨f0, f1, f2, f3, f4, f5, f6, f7, f8⟩ := HRB1.out.cells)
      | fail)
    go_ret
    exact ⟨_, rfl, by show Value.bool _ = Value.bool _; unfold exR; rw [E0.out, E1.out]; simp, nx HBW.out hb1⟩
  have E1 := Lib.hid (decide_eq_true h1)
  by_cases h2 : x.cls = y.cls
  rotate_left
  · have E2 := Lib.hid (decide_eq_false h2)
    have hz2 : ¬ x.cls = y.cls := h2
    clear h2
    go_wp2_with (first
      | (go_at_call 28; refine (rexact_any s.A r.A x.name.length s.c y.name.length r.c x.name y.name w0 HX.out.n HY.out.n (Nat.le_trans HX.out.cn.1 HX.out.cn.2) (Nat.le_trans HY.out.cn.1 HY.out.cn.2)).mono ?_; rw [E0.out]; rintro e w1 ⟨rfl, m1, hw1⟩; have hb1 : Below w0.heap.size w0 w1 := (by rw [hw1]; exact dN bl m1); clear hw1; have HRA1 := Lib.hid (HRA.out.below hb1); have HRB1 := Lib.hid (HRB.out.below hb1); obtain ⟨e0, e1, e2, e3, e4, e5, e6, e7, e8⟩ := HRA1.out.cells; obtain ⟨f0, f1, f2, f3, f4, f5, f6, f7, f8⟩ := HRB1.out.cells)
      | fail)
    go_ret
    exact ⟨_, rfl, by show Value.bool _ = Value.bool _; unfold exR; rw [E0.out, E1.out, E2.out]; simp, nx HBW.out hb1⟩
  have E2 := Lib.hid (decide_eq_true h2)
  by_cases h3 : x.ttl = y.ttl
  rotate_left
  · have E3 := Lib.hid (decide_eq_false h3)
    have hz3 : ¬ x.ttl = y.ttl := h3
    clear h3
    go_wp2_with (first
      | (go_at_call 28; refine (rexact_any s.A r.A x.name.length s.c y.name.length r.c x.name y.name w0 HX.out.n HY.out.n (Nat.le_trans HX.out.cn.1 HX.out.cn.2) (Nat.le_trans HY.out.cn.1 HY.out.cn.2)).mono ?_; rw [E0.out]; rintro e w1 ⟨rfl, m1, hw1⟩; have hb1 : Below w0.heap.size w0 w1 := (by rw [hw1]; exact dN bl m1); clear hw1; have HRA1 := Lib.hid (HRA.out.below hb1); have HRB1 := Lib.hid (HRB.out.below hb1); obtain ⟨e0, e1, e2, e3, e4, e5, e6, e7, e8⟩ := HRA1.out.cells; obtain ⟨f0, f1, f2, f3, f4, f5, f6, f7, f8⟩ := HRB1.out.cells)
      | fail)
    go_ret
    exact ⟨_, rfl, by show Value.bool _ = Value.bool _; unfold exR; rw [E0.out, E1.out, E2.out, E3.out]; simp, nx HBW.out hb1⟩
  have E3 := Lib.hid (decide_eq_true h3)
  go_wp2_with (first
    | (go_at_call 85; refine (rexD_any s.d r.d x.data y.data w1 ((HX.out.below hb1 HS0.out).d.rd (fun b hb => Nat.lt_of_lt_of_le (HS0.out b hb) hb1.size)) ((HY.out.below hb1 HT0.out).d.rd (fun b hb => Nat.lt_of_lt_of_le (HT0.out b hb) hb1.size))).mono ?_; rintro e w2 ⟨v2, rfl, rfl, hb2⟩)
    | (go_at_call 28; refine (rexact_any s.A r.A x.name.length s.c y.name.length r.c x.name y.name w0 HX.out.n HY.out.n (Nat.le_trans HX.out.cn.1 HX.out.cn.2) (Nat.le_trans HY.out.cn.1 HY.out.cn.2)).mono ?_; rw [E0.out]; rintro e w1 ⟨rfl, m1, hw1⟩; have hb1 : Below w0.heap.size w0 w1 := (by rw [hw1]; exact dN bl m1); clear hw1; have HRA1 := Lib.hid (HRA.out.below hb1); have HRB1 := Lib.hid (HRB.out.below hb1); obtain ⟨e0, e1, e2, e3, e4, e5, e6, e7, e8⟩ := HRA1.out.cells; obtain ⟨f0, f1, f2, f3, f4, f5, f6, f7, f8⟩ := HRB1.out.cells)
    | fail)
  go_ret
  exact ⟨_, rfl, by show Value.bool _ = Value.bool _; unfold exR; rw [E0.out, E1.out, E2.out, E3.out]; simp, nx (nx HBW.out hb1) hb2⟩
end Go.Proofs.Ytimkdpkhdbiniaa
