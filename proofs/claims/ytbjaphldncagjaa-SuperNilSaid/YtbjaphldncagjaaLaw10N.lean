/- SuperNil: the law's walk. -/
import Derived.Test.YtbjaphldncagjaaAns10
namespace Go.Proofs.Ytbjaphldncagjaa
open Go.RowKit
set_option maxRecDepth 100000

set_option maxHeartbeats 1000000 in
theorem superNil_walk (b : Blk) (w : World) : Calls Try.prog 3 #[.agg #[.int .i64 b.gen, .int .i64 b.epoch, .int .i64 b.first, .int .i64 b.from_, .int .i64 b.count]] w (LawT w) := by
  obtain ⟨w1, hw1⟩ : ∃ w1, w1 = w.alloc (.cells #[.int .i64 b.gen, .int .i64 b.epoch, .int .i64 b.first, .int .i64 b.from_, .int .i64 b.count] 23) := ⟨_, rfl⟩
  have hb1 : Below w.heap.size w w1 := by rw [hw1]; exact bl.alloc (Nat.le_refl _) _
  have HQ1 : Hid (KRow w1 w.heap.size b) := by show KRow _ _ _; rw [hw1]; exact KRow.made w b
  go_enter Try.func3, Try.ntmps3
  go_upto_region 1 with (fail)
  rw [← hw1]
  clear hw1
  go_upto_region 2 with (first
    | (go_at_call 15; refine (load_nil w1).mono ?_; rintro e w2 ⟨v2, rfl, rfl, hb2⟩)
    | fail)
  obtain ⟨w3, hw3⟩ : ∃ w3, w3 = w2.alloc (.cells #[.int .i64 0, .int .i64 0, .int .i64 0, .int .i64 0, .int .i64 0] 23) := ⟨_, rfl⟩
  have hb3 : Below w2.heap.size w2 w3 := by rw [hw3]; exact bl.alloc (Nat.le_refl _) _
  rw [← hw3]
  clear hw3
  have HQ3 := Lib.hid ((HQ1.out.below hb2).below hb3)
  go_wp2_with (first
    | (go_at_call 17; refine (save_nil w4 b).mono ?_; rintro e w5 ⟨v5, rfl, rfl, hb5⟩)
    | (go_at_call 16; refine (answers10_any w3).mono ?_; rintro e w4 ⟨rfl, hb4⟩; obtain ⟨x0, x1, x2, x3, x4⟩ := (HQ3.out.below hb4).box)
    | fail)
  go_ret
  exact ⟨rfl, nx (nx (nx (nx hb1 hb2) hb3) hb4) hb5⟩
end Go.Proofs.Ytbjaphldncagjaa
