/- Parts of a proof, joined: ExD, ExRR, SmMsg. -/
import Derived.Test.YtimkdpkhdbiniaaZCDM03
import Derived.Test.YtimkdpkhdbiniaaZCDM02
import Derived.Test.YtimkdpkhdbiniaaZCDM05
import Derived.Test.YtimkdpkhdbiniaaZCDM12
/- The reference's Exact: are data the same, byte by byte? -/
namespace Go.Proofs.Ytimkdpkhdbiniaa
open Go.RowKit
set_option maxRecDepth 100000

/-- The same, byte by byte? -/
def exD (x y : Da) : Bool := sameD x y && (decide (x.host = y.host) && decide (x.mail = y.mail))
theorem sameD_refl (x : Da) : sameD x x = true := sameD_true rfl rfl rfl rfl rfl
theorem exD_refl (x : Da) : exD x x = true := by simp [exD, sameD_refl]
theorem exD_iff {x y : Da} : exD x y = true ↔ x = y := by
  constructor
  · intro h
    simp only [exD, Bool.and_eq_true, decide_eq_true_eq] at h
    obtain ⟨h1, h2, h3⟩ := h
    obtain ⟨a, b, c, _⟩ := sameD_iff.1 h1
    cases x; cases y; simp_all
  · rintro rfl; exact exD_refl _

set_option maxHeartbeats 4000000 in
theorem rexD_any (s r : DS) (x y : Da) (w : World) (hx : DRd w s x) (hy : DRd w r y) : Calls Try.prog 85 #[dsV s x, dsV r y] w (RetP (fun v _ => v = .bool (exD x y)) w) := by
  unfold dsV
  obtain ⟨w0, hw0⟩ : ∃ w0, w0 = (w.alloc (.cells #[.slice s.A0 x.bytes.length s.c0, .slice s.A1 x.host.length s.c1, .slice s.A2 x.mail.length s.c2, .slice s.A3 x.nums.length s.c3, .slice s.A4 x.texts.length s.c4] 46)).alloc (.cells #[.slice r.A0 y.bytes.length r.c0, .slice r.A1 y.host.length r.c1, .slice r.A2 y.mail.length r.c2, .slice r.A3 y.nums.length r.c3, .slice r.A4 y.texts.length r.c4] 46) := ⟨_, rfl⟩
  have hbA : Below w.heap.size w (w.alloc (.cells #[.slice s.A0 x.bytes.length s.c0, .slice s.A1 x.host.length s.c1, .slice s.A2 x.mail.length s.c2, .slice s.A3 x.nums.length s.c3, .slice s.A4 x.texts.length s.c4] 46)) := bl.alloc (Nat.le_refl _) _
  have hb0 : Below w.heap.size w w0 := by rw [hw0]; exact nx hbA (bl.alloc (Nat.le_refl _) _)
  have HX0 := Lib.hid (hx.below hb0)
  have HY0 := Lib.hid (hy.below hb0)
  have BX0 : Hid (DBox w0 w.heap.size s x) := by show DBox _ _ _ _; rw [hw0]; exact (DBox.made w s x _).below (bl.alloc (Nat.le_refl _) _)
  have BY0 : Hid (DBox w0 (w.heap.size + 1) r y) := by
    show DBox _ _ _ _
    rw [hw0]
    have := DBox.made (w.alloc (.cells #[.slice s.A0 x.bytes.length s.c0, .slice s.A1 x.host.length s.c1, .slice s.A2 x.mail.length s.c2, .slice s.A3 x.nums.length s.c3, .slice s.A4 x.texts.length s.c4] 46)) r y 46
    rw [show (w.alloc (.cells #[.slice s.A0 x.bytes.length s.c0, .slice s.A1 x.host.length s.c1, .slice s.A2 x.mail.length s.c2, .slice s.A3 x.nums.length s.c3, .slice s.A4 x.texts.length s.c4] 46)).heap.size = w.heap.size + 1 by simp] at this
    exact this
  clear hx hy hbA
  obtain ⟨a00, a01, a02, a03, a04⟩ := BX0.out
  obtain ⟨b00, b01, b02, b03, b04⟩ := BY0.out
  go_enter Try.func85, Try.ntmps85
  go_upto_region 1 with (fail)
  rw [← hw0]
  clear hw0
  cases e0 : sameD x y with
  | false =>
    have E0 := Lib.hid e0
    clear e0
    go_wp2_with (first
      | (go_at_call 79; refine (rsame_any s r x y w0 HX0.out HY0.out).mono ?_; rw [E0.out]; rintro e w1 ⟨v1, rfl, rfl, hb1⟩)
      | fail)
    go_ret
    exact ⟨_, rfl, by unfold exD; rw [E0.out]; rfl, nx hb0 hb1⟩
  | true =>
    have E0 := Lib.hid e0
    clear e0
    by_cases e1 : x.host = y.host
    · have E1 := Lib.hid e1
      clear e1
      go_wp2_with (first
        | (go_at_call 28; refine (rexact_any s.A2 r.A2 x.mail.length s.c2 y.mail.length r.c2 x.mail y.mail w2 HX2.out.m HY2.out.m (by have := HX2.out.cm; omega) (by have := HY2.out.cm; omega)).mono ?_; rintro e w3 ⟨rfl, m3, hw3⟩; have hb3 : Below w2.heap.size w2 w3 := (by rw [hw3]; exact dN bl m3); clear hw3)
        | (go_at_call 28; refine (rexact_any s.A1 r.A1 x.host.length s.c1 y.host.length r.c1 x.host y.host w1 HX1.out.h HY1.out.h (by have := HX1.out.ch; omega) (by have := HY1.out.ch; omega)).mono ?_; rw [decide_eq_true E1.out]; rintro e w2 ⟨rfl, m2, hw2⟩; have hb2 : Below w1.heap.size w1 w2 := (by rw [hw2]; exact dN bl m2); clear hw2; have HX2 := Lib.hid (HX1.out.below hb2); have HY2 := Lib.hid (HY1.out.below hb2); obtain ⟨c00, c01, c02, c03, c04⟩ := BX1.out.below hb2; obtain ⟨d00, d01, d02, d03, d04⟩ := BY1.out.below hb2)
        | (go_at_call 79; refine (rsame_any s r x y w0 HX0.out HY0.out).mono ?_; rw [E0.out]; rintro e w1 ⟨v1, rfl, rfl, hb1⟩; have HX1 := Lib.hid (HX0.out.below hb1); have HY1 := Lib.hid (HY0.out.below hb1); have BX1 := Lib.hid (BX0.out.below hb1); have BY1 := Lib.hid (BY0.out.below hb1); obtain ⟨f00, f01, f02, f03, f04⟩ := BX1.out; obtain ⟨g00, g01, g02, g03, g04⟩ := BY1.out)
        | fail)
      go_ret
      exact ⟨_, rfl, by unfold exD; rw [E0.out, decide_eq_true E1.out]; rfl, nx (nx (nx hb0 hb1) hb2) hb3⟩
    · have E1 := Lib.hid (decide_eq_false e1)
      clear e1
      go_wp2_with (first
        | (go_at_call 28; refine (rexact_any s.A1 r.A1 x.host.length s.c1 y.host.length r.c1 x.host y.host w1 HX1.out.h HY1.out.h (by have := HX1.out.ch; omega) (by have := HY1.out.ch; omega)).mono ?_; rw [E1.out]; rintro e w2 ⟨rfl, m2, hw2⟩; have hb2 : Below w1.heap.size w1 w2 := (by rw [hw2]; exact dN bl m2); clear hw2)
        | (go_at_call 79; refine (rsame_any s r x y w0 HX0.out HY0.out).mono ?_; rw [E0.out]; rintro e w1 ⟨v1, rfl, rfl, hb1⟩; have HX1 := Lib.hid (HX0.out.below hb1); have HY1 := Lib.hid (HY0.out.below hb1); have BX1 := Lib.hid (BX0.out.below hb1); have BY1 := Lib.hid (BY0.out.below hb1); obtain ⟨f00, f01, f02, f03, f04⟩ := BX1.out; obtain ⟨g00, g01, g02, g03, g04⟩ := BY1.out)
        | fail)
      go_ret
      exact ⟨_, rfl, by unfold exD; rw [E0.out, E1.out]; rfl, nx (nx hb0 hb1) hb2⟩
end Go.Proofs.Ytimkdpkhdbiniaa

/- The reference's SameRR: are records the same, byte by byte? -/
namespace Go.Proofs.Ytimkdpkhdbiniaa
open Go.RowKit
set_option maxRecDepth 100000

def exR (x y : RR) : Bool := decide (x.name = y.name) && (decide (x.type = y.type) && (decide (x.cls = y.cls) && (decide (x.ttl = y.ttl) && exD x.data y.data)))
theorem exR_iff {x y : RR} : exR x y = true ↔ x = y := by
  constructor
  · intro h
    simp only [exR, Bool.and_eq_true, decide_eq_true_eq, exD_iff] at h
    obtain ⟨h1, h2, h3, h4, h5⟩ := h
    cases x; cases y; simp_all
  · rintro rfl
    simp [exR, exD_refl]
theorem exR_refl (x : RR) : exR x x = true := exR_iff.2 rfl

set_option maxHeartbeats 4000000 in
theorem rsameRR_any (s r : RS) (x y : RR) (w : World) {S T : Nat → Prop} (hx : RIn S w s x) (hy : RIn T w r y) (hS : ∀ b, S b → b < w.heap.size) (hT : ∀ b, T b → b < w.heap.size) :
    Calls Try.prog 44 #[rrV s x, rrV r y] w (RetP (fun v _ => v = .bool (exR x y)) w) := by
  obtain ⟨wa, hwa⟩ : ∃ wa, wa = w.alloc (.cells (rrCells s x) 84) := ⟨_, rfl⟩
  obtain ⟨w0, hw0⟩ : ∃ w0, w0 = wa.alloc (.cells (rrCells r y) 84) := ⟨_, rfl⟩
  have hba : Below w.heap.size w wa := by rw [hwa]; exact bl.alloc (Nat.le_refl _) _
  have hb0' : Below wa.heap.size wa w0 := by rw [hw0]; exact bl.alloc (Nat.le_refl _) _
  have hza : wa.heap.size = w.heap.size + 1 := by rw [hwa]; simp
  have hb0 := nx hba hb0'
  have hRa : RRow w0 w.heap.size s x := by have h : RRow wa w.heap.size s x := by rw [hwa]; exact heap_alloc_new w _
                                           exact h.below hb0'
  have hRb : RRow w0 (w.heap.size + 1) r y := by rw [← hza, hw0]; exact heap_alloc_new wa _
  have HRA := Lib.hid hRa
  have HRB := Lib.hid hRb
  have HX := Lib.hid (hx.below hb0 hS)
  have HY := Lib.hid (hy.below hb0 hT)
  have HS0 : Hid (∀ b, S b → b < w0.heap.size) := fun b hb => Nat.lt_of_lt_of_le (hS b hb) hb0.size
  have HT0 : Hid (∀ b, T b → b < w0.heap.size) := fun b hb => Nat.lt_of_lt_of_le (hT b hb) hb0.size
  have HBW := Lib.hid hb0
  obtain ⟨a0, a1, a2, a3, a4, a5, a6, a7, a8⟩ := hRa.cells
  obtain ⟨b0, b1, b2, b3, b4, b5, b6, b7, b8⟩ := hRb.cells
  unfold rrV
  unfold rrCells at hwa hw0 ⊢
  clear hx hy hS hT hba hb0' hza hb0 hRa hRb
  go_enter Try.func44, Try.ntmps44
  go_upto_region 1 with (fail)
  rw [← hwa, ← hw0]
  clear hwa hw0
  by_cases h0 : x.name = y.name
  rotate_left
  · have E0 := Lib.hid (decide_eq_false h0)
    clear h0
    go_wp2_with (first
      | (go_at_call 28; refine (rexact_any s.A r.A x.name.length s.c y.name.length r.c x.name y.name w0 HX.out.n HY.out.n (Nat.le_trans HX.out.cn.1 HX.out.cn.2) (Nat.le_trans HY.out.cn.1 HY.out.cn.2)).mono ?_; rw [E0.out]; rintro e w1 ⟨rfl, m1, hw1⟩; have hb1 : Below w0.heap.size w0 w1 := (by rw [hw1]; exact dN bl m1); clear hw1; have HRA1 := Lib.hid (HRA.out.below hb1); have HRB1 := Lib.hid (HRB.out.below hb1); obtain ⟨e0, e1, e2, e3, e4, e5, e6, e7, e8⟩ := HRA1.out.cells; obtain ⟨f0, f1, f2, f3, f4, f5, f6, f7, f8⟩ := HRB1.out.cells)
      | fail)
    go_ret
    exact ⟨_, rfl, by show Value.bool _ = Value.bool _; unfold exR; rw [E0.out]; simp, nx HBW.out hb1⟩
  have E0 := Lib.hid (decide_eq_true h0)
  clear h0
  by_cases h1 : x.type = y.type
  rotate_left
  · have E1 := Lib.hid (decide_eq_false h1)
    have hz1 : ¬ x.type = y.type := h1
    clear h1
    go_wp2_with (first
      | (go_at_call 28; refine (rexact_any s.A r.A x.name.length s.c y.name.length r.c x.name y.name w0 HX.out.n HY.out.n (Nat.le_trans HX.out.cn.1 HX.out.cn.2) (Nat.le_trans HY.out.cn.1 HY.out.cn.2)).mono ?_; rw [E0.out]; rintro e w1 ⟨rfl, m1, hw1⟩; have hb1 : Below w0.heap.size w0 w1 := (by rw [hw1]; exact dN bl m1); clear hw1; have HRA1 := Lib.hid (HRA.out.below hb1); have HRB1 := Lib.hid (HRB.out.below hb1); obtain ⟨e0, e1, e2, e3, e4, e5, e6, e7, e8⟩ := HRA1.out.cells; obtain ⟨f0, f1, f2, f3, f4, f5, f6, f7, f8⟩ := HRB1.out.cells)
      | fail)
    go_ret
    exact ⟨_, rfl, by show Value.bool _ = Value.bool _; unfold exR; rw [E0.out, E1.out]; simp, nx HBW.out hb1⟩
  have E1 := Lib.hid (decide_eq_true h1)
  by_cases h2 : x.cls = y.cls
  rotate_left
  · have E2 := Lib.hid (decide_eq_false h2)
    have hz2 : ¬ x.cls = y.cls := h2
    clear h2
    go_wp2_with (first
      | (go_at_call 28; refine (rexact_any s.A r.A x.name.length s.c y.name.length r.c x.name y.name w0 HX.out.n HY.out.n (Nat.le_trans HX.out.cn.1 HX.out.cn.2) (Nat.le_trans HY.out.cn.1 HY.out.cn.2)).mono ?_; rw [E0.out]; rintro e w1 ⟨rfl, m1, hw1⟩; have hb1 : Below w0.heap.size w0 w1 := (by rw [hw1]; exact dN bl m1); clear hw1; have HRA1 := Lib.hid (HRA.out.below hb1); have HRB1 := Lib.hid (HRB.out.below hb1); obtain ⟨e0, e1, e2, e3, e4, e5, e6, e7, e8⟩ := HRA1.out.cells; obtain ⟨f0, f1, f2, f3, f4, f5, f6, f7, f8⟩ := HRB1.out.cells)
      | fail)
    go_ret
    exact ⟨_, rfl, by show Value.bool _ = Value.bool _; unfold exR; rw [E0.out, E1.out, E2.out]; simp, nx HBW.out hb1⟩
  have E2 := Lib.hid (decide_eq_true h2)
  by_cases h3 : x.ttl = y.ttl
  rotate_left
  · have E3 := Lib.hid (decide_eq_false h3)
    have hz3 : ¬ x.ttl = y.ttl := h3
    clear h3
    go_wp2_with (first
      | (go_at_call 28; refine (rexact_any s.A r.A x.name.length s.c y.name.length r.c x.name y.name w0 HX.out.n HY.out.n (Nat.le_trans HX.out.cn.1 HX.out.cn.2) (Nat.le_trans HY.out.cn.1 HY.out.cn.2)).mono ?_; rw [E0.out]; rintro e w1 ⟨rfl, m1, hw1⟩; have hb1 : Below w0.heap.size w0 w1 := (by rw [hw1]; exact dN bl m1); clear hw1; have HRA1 := Lib.hid (HRA.out.below hb1); have HRB1 := Lib.hid (HRB.out.below hb1); obtain ⟨e0, e1, e2, e3, e4, e5, e6, e7, e8⟩ := HRA1.out.cells; obtain ⟨f0, f1, f2, f3, f4, f5, f6, f7, f8⟩ := HRB1.out.cells)
      | fail)
    go_ret
    exact ⟨_, rfl, by show Value.bool _ = Value.bool _; unfold exR; rw [E0.out, E1.out, E2.out, E3.out]; simp, nx HBW.out hb1⟩
  have E3 := Lib.hid (decide_eq_true h3)
  go_wp2_with (first
    | (go_at_call 85; refine (rexD_any s.d r.d x.data y.data w1 ((HX.out.below hb1 HS0.out).d.rd (fun b hb => Nat.lt_of_lt_of_le (HS0.out b hb) hb1.size)) ((HY.out.below hb1 HT0.out).d.rd (fun b hb => Nat.lt_of_lt_of_le (HT0.out b hb) hb1.size))).mono ?_; rintro e w2 ⟨v2, rfl, rfl, hb2⟩)
    | (go_at_call 28; refine (rexact_any s.A r.A x.name.length s.c y.name.length r.c x.name y.name w0 HX.out.n HY.out.n (Nat.le_trans HX.out.cn.1 HX.out.cn.2) (Nat.le_trans HY.out.cn.1 HY.out.cn.2)).mono ?_; rw [E0.out]; rintro e w1 ⟨rfl, m1, hw1⟩; have hb1 : Below w0.heap.size w0 w1 := (by rw [hw1]; exact dN bl m1); clear hw1; have HRA1 := Lib.hid (HRA.out.below hb1); have HRB1 := Lib.hid (HRB.out.below hb1); obtain ⟨e0, e1, e2, e3, e4, e5, e6, e7, e8⟩ := HRA1.out.cells; obtain ⟨f0, f1, f2, f3, f4, f5, f6, f7, f8⟩ := HRB1.out.cells)
    | fail)
  go_ret
  exact ⟨_, rfl, by show Value.bool _ = Value.bool _; unfold exR; rw [E0.out, E1.out, E2.out, E3.out]; simp, nx (nx HBW.out hb1) hb2⟩
end Go.Proofs.Ytimkdpkhdbiniaa

/- The reference's SameRRs and SameMsg, of what is the same. -/
namespace Go.Proofs.Ytimkdpkhdbiniaa
open Go.RowKit
set_option maxRecDepth 100000
set_option linter.unusedVariables false

set_option maxHeartbeats 4000000 in
theorem rsameRRs_eq (A A' : Option Addr) (n c c' : Nat) (xs : List RR) (w : World) {S T : Nat → Prop} (h : Els encRR S S w A n xs) (h' : Els encRR T T w A' n xs) (hS : ∀ b, S b → b < w.heap.size) (hT : ∀ b, T b → b < w.heap.size) (hn : n ≤ 1000000000) :
    Calls Try.prog 49 #[.slice A n c, .slice A' n c'] w (RetP (fun v _ => v = .bool true) w) := by
  have hlt := Lib.hid h.len
  have HA := Lib.hid h
  have HB := Lib.hid h'
  have HS : Hid (∀ b, S b → b < w.heap.size) := hS
  have HT : Hid (∀ b, T b → b < w.heap.size) := hT
  clear h h' hS hT
  go_enter Try.func49, Try.ntmps49
  go_wp2
  go_loopw [5] (fun i wr => ∃ k : Nat, i = .int .i64 (k : Int) ∧ k ≤ n ∧ Hid (Below w.heap.size w wr)) (fun i _ => n - (intOf i).toNat)
  case atStart => exact ⟨0, rfl, Nat.zero_le _, bl⟩
  case round =>
    obtain ⟨k, rfl, hk, HBW⟩ := hrel
    by_cases hlt' : k < n
    · obtain ⟨r, hr⟩ : ∃ r, xs[k]? = some r := ⟨_, List.getElem?_eq_getElem (by rw [hlt.out]; exact hlt')⟩
      have hSw : ∀ b, S b → b < wr.heap.size := fun b hb => Nat.lt_of_lt_of_le (HS.out b hb) HBW.out.size
      have hTw : ∀ b, T b → b < wr.heap.size := fun b hb => Nat.lt_of_lt_of_le (HT.out b hb) HBW.out.size
      obtain ⟨b1, off1, s1, rfl, _, hri1, hrc1⟩ := rr_at HA.out hr
      obtain ⟨b2, off2, s2, rfl, _, hri2, hrc2⟩ := rr_at HB.out hr
      have HI1 := Lib.hid (hri1.below HBW.out HS.out)
      have HI2 := Lib.hid (hri2.below HBW.out HT.out)
      have HSW : Hid (∀ b, S b → b < wr.heap.size) := hSw
      have HTW : Hid (∀ b, T b → b < wr.heap.size) := hTw
      obtain ⟨d0, d1, d2, d3, d4, d5, d6, d7, d8⟩ := hrc1.below HBW.out
      obtain ⟨e0, e1, e2, e3, e4, e5, e6, e7, e8⟩ := hrc2.below HBW.out
      clear hr hri1 hri2 hrc1 hrc2 hSw hTw HS HT
      go_upto_region 6 with (fail)
      have q0 : ∀ w', Below wr.heap.size wr w' → (w'.cell? ⟨b1, off1 + k * 9, none⟩ = some (.slice s1.A r.name.length s1.c) ∧ w'.cell? ⟨b1, off1 + k * 9 + 1, none⟩ = some (.int .i64 r.type) ∧ w'.cell? ⟨b1, off1 + k * 9 + 2, none⟩ = some (.int .i64 r.cls) ∧ w'.cell? ⟨b1, off1 + k * 9 + 3, none⟩ = some (.int .i64 r.ttl) ∧ w'.cell? ⟨b1, off1 + k * 9 + 4, none⟩ = some (.slice s1.d.A0 r.data.bytes.length s1.d.c0) ∧ w'.cell? ⟨b1, off1 + k * 9 + 5, none⟩ = some (.slice s1.d.A1 r.data.host.length s1.d.c1) ∧ w'.cell? ⟨b1, off1 + k * 9 + 6, none⟩ = some (.slice s1.d.A2 r.data.mail.length s1.d.c2) ∧ w'.cell? ⟨b1, off1 + k * 9 + 7, none⟩ = some (.slice s1.d.A3 r.data.nums.length s1.d.c3) ∧ w'.cell? ⟨b1, off1 + k * 9 + 8, none⟩ = some (.slice s1.d.A4 r.data.texts.length s1.d.c4) ∧ w'.cell? ⟨b2, off2 + k * 9, none⟩ = some (.slice s2.A r.name.length s2.c) ∧ w'.cell? ⟨b2, off2 + k * 9 + 1, none⟩ = some (.int .i64 r.type) ∧ w'.cell? ⟨b2, off2 + k * 9 + 2, none⟩ = some (.int .i64 r.cls) ∧ w'.cell? ⟨b2, off2 + k * 9 + 3, none⟩ = some (.int .i64 r.ttl) ∧ w'.cell? ⟨b2, off2 + k * 9 + 4, none⟩ = some (.slice s2.d.A0 r.data.bytes.length s2.d.c0) ∧ w'.cell? ⟨b2, off2 + k * 9 + 5, none⟩ = some (.slice s2.d.A1 r.data.host.length s2.d.c1) ∧ w'.cell? ⟨b2, off2 + k * 9 + 6, none⟩ = some (.slice s2.d.A2 r.data.mail.length s2.d.c2) ∧ w'.cell? ⟨b2, off2 + k * 9 + 7, none⟩ = some (.slice s2.d.A3 r.data.nums.length s2.d.c3) ∧ w'.cell? ⟨b2, off2 + k * 9 + 8, none⟩ = some (.slice s2.d.A4 r.data.texts.length s2.d.c4)) := fun w' hb => ⟨below_cell hb d0, below_cell hb d1, below_cell hb d2, below_cell hb d3, below_cell hb d4, below_cell hb d5, below_cell hb d6, below_cell hb d7, below_cell hb d8, below_cell hb e0, below_cell hb e1, below_cell hb e2, below_cell hb e3, below_cell hb e4, below_cell hb e5, below_cell hb e6, below_cell hb e7, below_cell hb e8⟩
      have q1 := q0 wr bl
      have q2 := q0 wr.drew bl.drew
      have HQ := Lib.hid q0
      clear q0 d0 d1 d2 d3 d4 d5 d6 d7 d8 e0 e1 e2 e3 e4 e5 e6 e7 e8
      go_region_held3 (fun w' => w'.cell? ⟨b1, off1 + k * 9, none⟩ = some (.slice s1.A r.name.length s1.c) ∧ w'.cell? ⟨b1, off1 + k * 9 + 1, none⟩ = some (.int .i64 r.type) ∧ w'.cell? ⟨b1, off1 + k * 9 + 2, none⟩ = some (.int .i64 r.cls) ∧ w'.cell? ⟨b1, off1 + k * 9 + 3, none⟩ = some (.int .i64 r.ttl) ∧ w'.cell? ⟨b1, off1 + k * 9 + 4, none⟩ = some (.slice s1.d.A0 r.data.bytes.length s1.d.c0) ∧ w'.cell? ⟨b1, off1 + k * 9 + 5, none⟩ = some (.slice s1.d.A1 r.data.host.length s1.d.c1) ∧ w'.cell? ⟨b1, off1 + k * 9 + 6, none⟩ = some (.slice s1.d.A2 r.data.mail.length s1.d.c2) ∧ w'.cell? ⟨b1, off1 + k * 9 + 7, none⟩ = some (.slice s1.d.A3 r.data.nums.length s1.d.c3) ∧ w'.cell? ⟨b1, off1 + k * 9 + 8, none⟩ = some (.slice s1.d.A4 r.data.texts.length s1.d.c4) ∧ w'.cell? ⟨b2, off2 + k * 9, none⟩ = some (.slice s2.A r.name.length s2.c) ∧ w'.cell? ⟨b2, off2 + k * 9 + 1, none⟩ = some (.int .i64 r.type) ∧ w'.cell? ⟨b2, off2 + k * 9 + 2, none⟩ = some (.int .i64 r.cls) ∧ w'.cell? ⟨b2, off2 + k * 9 + 3, none⟩ = some (.int .i64 r.ttl) ∧ w'.cell? ⟨b2, off2 + k * 9 + 4, none⟩ = some (.slice s2.d.A0 r.data.bytes.length s2.d.c0) ∧ w'.cell? ⟨b2, off2 + k * 9 + 5, none⟩ = some (.slice s2.d.A1 r.data.host.length s2.d.c1) ∧ w'.cell? ⟨b2, off2 + k * 9 + 6, none⟩ = some (.slice s2.d.A2 r.data.mail.length s2.d.c2) ∧ w'.cell? ⟨b2, off2 + k * 9 + 7, none⟩ = some (.slice s2.d.A3 r.data.nums.length s2.d.c3) ∧ w'.cell? ⟨b2, off2 + k * 9 + 8, none⟩ = some (.slice s2.d.A4 r.data.texts.length s2.d.c4))
        (first
          | with_reducible exact q1
          | with_reducible exact q2
          | with_reducible exact q3
          | fail)
        (first
          | (go_at_call 44; refine (rsameRR_any s1 s2 r r wr.drew (HI1.out.below bl.drew HSW.out) (HI2.out.below bl.drew HTW.out) HSW.out HTW.out).mono ?_; rw [exR_refl]; rintro e w7 ⟨v7, rfl, rfl, hb7⟩; have q3 := HQ.out w7 (bl.drew.trans hb7))
          | fail)
      have HB7 := Lib.hid (nx HBW.out (bl.drew.trans hb7))
      clear q1 q2 q3
      go_wp2
      go_roundw
      case rel => exact ⟨k + 1, by go_num, by omega, HB7⟩
      case measure => simp [intOf]; omega
    · have hkn : k = n := by omega
      go_wp2
      go_ret
      exact ⟨_, rfl, rfl, HBW.out⟩

set_option maxHeartbeats 16000000 in
theorem rsameMsg_eq (s t : MS) (m : Ms) (w : World) {S T : Nat → Prop} (h : MIn S w s m) (h' : MIn T w t m) (hS : ∀ b, S b → b < w.heap.size) (hT : ∀ b, T b → b < w.heap.size) (hL : LightM m) :
    Calls Try.prog 37 #[msV s m, msV t m] w (RetP (fun v _ => v = .bool true) w) := by
  obtain ⟨w1, hw1⟩ : ∃ w1, w1 = w.alloc (.cells (mCells s m) 31) := ⟨_, rfl⟩
  obtain ⟨w2, hw2⟩ : ∃ w2, w2 = w1.alloc (.cells (mCells t m) 31) := ⟨_, rfl⟩
  have hb1 : Below w.heap.size w w1 := by rw [hw1]; exact bl.alloc (Nat.le_refl _) _
  have hb2 : Below w1.heap.size w1 w2 := by rw [hw2]; exact bl.alloc (Nat.le_refl _) _
  have hz1 : w1.heap.size = w.heap.size + 1 := by rw [hw1]; simp
  have hR1 : MRow w2 w.heap.size s m := by have h : MRow w1 w.heap.size s m := by rw [hw1]; exact MRow.made w s m
                                           exact h.below hb2
  have hR2 : MRow w2 (w.heap.size + 1) t m := by rw [← hz1, hw2]; exact MRow.made w1 _ _
  have hb := nx hb1 hb2
  have HR1 := Lib.hid hR1
  have HR2 := Lib.hid hR2
  have HI1 := Lib.hid (h.below hb hS)
  have HI2 := Lib.hid (h'.below hb hT)
  have HS : Hid (∀ b, S b → b < w2.heap.size) := fun b hb' => Nat.lt_of_lt_of_le (hS b hb') hb.size
  have HT : Hid (∀ b, T b → b < w2.heap.size) := fun b hb' => Nat.lt_of_lt_of_le (hT b hb') hb.size
  have HL := Lib.hid hL
  have HBW := Lib.hid hb
  unfold msV
  unfold mCells at hw1 hw2 ⊢
  clear h h' hS hT hL hb1 hb2 hz1 hR1 hR2 hb
  go_enter Try.func37, Try.ntmps37
  go_upto_region 1 with (fail)
  rw [← hw1, ← hw2]
  clear hw1 hw2
  generalize w.heap.size = q at HR1 HR2 ⊢
  obtain ⟨a0, a1, a2, a3, a4, a5, a6, a7, a8, a9, a10, a11, a12, a13⟩ := HR1.out.cells
  obtain ⟨b0, b1, b2, b3, b4, b5, b6, b7, b8, b9, b10, b11, b12, b13⟩ := HR2.out.cells
  go_wp2_with fail
  go_loopw [5] (fun i wr => ∃ k : Nat, i = .int .i64 (k : Int) ∧ k ≤ m.qs.length ∧ Hid (Below w2.heap.size w2 wr)) (fun i _ => m.qs.length - (intOf i).toNat)
  case atStart => exact ⟨0, rfl, Nat.zero_le _, bl⟩
  case round =>
    obtain ⟨k, rfl, hk, HBR⟩ := hrel
    clear a0 a1 a2 a3 a4 a5 a6 a7 a8 a9 a10 a11 a12 a13 b0 b1 b2 b3 b4 b5 b6 b7 b8 b9 b10 b11 b12 b13
    have HRW1 := Lib.hid (HR1.out.below HBR.out)
    have HRW2 := Lib.hid (HR2.out.below HBR.out)
    have HSW : Hid (∀ b, S b → b < wr.heap.size) := fun b hb => Nat.lt_of_lt_of_le (HS.out b hb) HBR.out.size
    have HTW : Hid (∀ b, T b → b < wr.heap.size) := fun b hb => Nat.lt_of_lt_of_le (HT.out b hb) HBR.out.size
    have HIW1 := Lib.hid (HI1.out.below HBR.out HS.out)
    have HIW2 := Lib.hid (HI2.out.below HBR.out HT.out)
    obtain ⟨a0, a1, a2, a3, a4, a5, a6, a7, a8, a9, a10, a11, a12, a13⟩ := HRW1.out.cells
    obtain ⟨b0, b1, b2, b3, b4, b5, b6, b7, b8, b9, b10, b11, b12, b13⟩ := HRW2.out.cells
    by_cases hlt : k < m.qs.length
    · obtain ⟨x, hx⟩ : ∃ x, m.qs[k]? = some x := ⟨_, List.getElem?_eq_getElem hlt⟩
      have hxl := HL.out.2.2.2.2.1 x (List.mem_of_getElem? hx)
      obtain ⟨g1, o1, t1, hA1, _, hd1, hc1⟩ := qu_at HIW1.out.q hx
      obtain ⟨g2, o2, t2, hA2, _, hd2, hc2⟩ := qu_at HIW2.out.q hx
      rw [hA1] at a8
      rw [hA2] at b8
      obtain ⟨d0, d1, d2⟩ := hc1
      obtain ⟨e0, e1, e2⟩ := hc2
      have HD1 := Lib.hid hd1
      have HD2 := Lib.hid hd2
      have hml : m.qs.length ≤ 1000000 := HL.out.1
      clear hx hA1 hA2 hd1 hd2 a0 a1 a2 a3 a4 a5 a6 a7 a9 a10 a11 a12 a13 b0 b1 b2 b3 b4 b5 b6 b7 b9 b10 b11 b12 b13
      have q0 : ∀ w', Below wr.heap.size wr w' → (w'.cell? ⟨q, 8, none⟩ = some (.slice (some ⟨g1, o1, none⟩) m.qs.length s.qc) ∧ w'.cell? ⟨q + 1, 8, none⟩ = some (.slice (some ⟨g2, o2, none⟩) m.qs.length t.qc) ∧ w'.cell? ⟨g1, o1 + k * 3, none⟩ = some (.slice t1.A x.name.length t1.c) ∧ w'.cell? ⟨g1, o1 + k * 3 + 1, none⟩ = some (.int .i64 x.type) ∧ w'.cell? ⟨g1, o1 + k * 3 + 2, none⟩ = some (.int .i64 x.cls) ∧ w'.cell? ⟨g2, o2 + k * 3, none⟩ = some (.slice t2.A x.name.length t2.c) ∧ w'.cell? ⟨g2, o2 + k * 3 + 1, none⟩ = some (.int .i64 x.type) ∧ w'.cell? ⟨g2, o2 + k * 3 + 2, none⟩ = some (.int .i64 x.cls)) := fun w' hb => ⟨below_cell hb a8, below_cell hb b8, below_cell hb d0, below_cell hb d1, below_cell hb d2, below_cell hb e0, below_cell hb e1, below_cell hb e2⟩
      have q1 := q0 wr bl
      have q2 := q0 wr.drew bl.drew
      have HQ := Lib.hid q0
      clear q0 a8 b8 d0 d1 d2 e0 e1 e2
      go_upto_region 6 with (fail)
      go_region_held3 (fun w' => w'.cell? ⟨q, 8, none⟩ = some (.slice (some ⟨g1, o1, none⟩) m.qs.length s.qc) ∧ w'.cell? ⟨q + 1, 8, none⟩ = some (.slice (some ⟨g2, o2, none⟩) m.qs.length t.qc) ∧ w'.cell? ⟨g1, o1 + k * 3, none⟩ = some (.slice t1.A x.name.length t1.c) ∧ w'.cell? ⟨g1, o1 + k * 3 + 1, none⟩ = some (.int .i64 x.type) ∧ w'.cell? ⟨g1, o1 + k * 3 + 2, none⟩ = some (.int .i64 x.cls) ∧ w'.cell? ⟨g2, o2 + k * 3, none⟩ = some (.slice t2.A x.name.length t2.c) ∧ w'.cell? ⟨g2, o2 + k * 3 + 1, none⟩ = some (.int .i64 x.type) ∧ w'.cell? ⟨g2, o2 + k * 3 + 2, none⟩ = some (.int .i64 x.cls))
        (first
          | with_reducible exact q1
          | with_reducible exact q2
          | with_reducible exact q3
          | fail)
        (first
          | (go_at_call 28; go_must (refine (rexact_any t1.A t2.A x.name.length t1.c x.name.length t2.c x.name x.name wr.drew (HD1.out.n.below bl.drew HSW.out HSW.out) (HD2.out.n.below bl.drew HTW.out HTW.out) (by unfold maxLen; omega) (by unfold maxLen; omega)).mono ?_; rw [decide_eq_true rfl]; rintro e w7 ⟨rfl, m7, hv7⟩; have hb7 : Below wr.heap.size wr w7 := (by rw [hv7]; exact dN bl.drew m7); clear hv7; have q3 := HQ.out w7 hb7))
          | fail)
      have HB7 := Lib.hid (nx HBR.out hb7)
      clear q1 q2 q3
      go_wp2
      go_roundw
      case rel => exact ⟨k + 1, by go_num, by omega, HB7⟩
      case measure => simp [intOf]; omega
    · have hkn : k = m.qs.length := by omega
      have hm1 := HL.out.2.1
      have hm2 := HL.out.2.2.1
      have hm3 := HL.out.2.2.2.1
      have HK : Hid (∀ w', Below wr.heap.size wr w' → (MCells w' q s m ∧ MCells w' (q + 1) t m)) := fun w' hb => ⟨(HRW1.out.below hb).cells, (HRW2.out.below hb).cells⟩
      go_upto_region 8 with (fail)
      clear a0 a1 a2 a3 a4 a5 a6 a7 a8 a9 a10 a11 a12 a13 b0 b1 b2 b3 b4 b5 b6 b7 b8 b9 b10 b11 b12 b13
      obtain ⟨⟨a0, a1, a2, a3, a4, a5, a6, a7, a8, a9, a10, a11, a12, a13⟩, ⟨b0, b1, b2, b3, b4, b5, b6, b7, b8, b9, b10, b11, b12, b13⟩⟩ := HK.out wr bl
      go_wp2_with (first
        | (go_at_call 49; refine (rsameRRs_eq s.X t.X m.ex.length s.xc t.xc m.ex y2 (HIW1.out.x.below HBY2.out HSW.out HSW.out) (HIW2.out.x.below HBY2.out HTW.out HTW.out) (fun b hb => Nat.lt_of_lt_of_le (HSW.out b hb) HBY2.out.size) (fun b hb => Nat.lt_of_lt_of_le (HTW.out b hb) HBY2.out.size) (by omega)).mono ?_; rintro e y3 ⟨v3, rfl, rfl, hb3⟩; have HBY3 := Lib.hid (nx HBY2.out hb3))
        | (go_at_call 49; refine (rsameRRs_eq s.U t.U m.au.length s.uc t.uc m.au y1 (HIW1.out.u.below HBY1.out HSW.out HSW.out) (HIW2.out.u.below HBY1.out HTW.out HTW.out) (fun b hb => Nat.lt_of_lt_of_le (HSW.out b hb) HBY1.out.size) (fun b hb => Nat.lt_of_lt_of_le (HTW.out b hb) HBY1.out.size) (by omega)).mono ?_; rintro e y2 ⟨v2, rfl, rfl, hb2⟩; have HBY2 := Lib.hid (nx HBY1.out hb2); obtain ⟨⟨_, _, _, _, _, _, _, _, _, _, _, a11, _, _⟩, ⟨_, _, _, _, _, _, _, _, _, _, _, b11, _, _⟩⟩ := HK.out y2 HBY2.out)
        | (go_at_call 49; refine (rsameRRs_eq s.A t.A m.an.length s.ac t.ac m.an wr HIW1.out.a HIW2.out.a HSW.out HTW.out (by omega)).mono ?_; rintro e y1 ⟨v1, rfl, rfl, hb1⟩; have HBY1 := Lib.hid hb1; obtain ⟨⟨_, _, _, _, _, _, _, _, _, _, a10, _, _, _⟩, ⟨_, _, _, _, _, _, _, _, _, _, b10, _, _, _⟩⟩ := HK.out y1 HBY1.out)
        | fail)
      go_ret
      exact ⟨_, rfl, rfl, nx HBW.out (nx HBR.out HBY3.out)⟩
end Go.Proofs.Ytimkdpkhdbiniaa
