/- super: answers; a device that is none. -/
import Derived.Test.YtbjaphldncagjaaSuper4
import Derived.Test.YtbjaphldncagjaaFlashNil
import Derived.Test.YtbjaphldncagjaaLawT
namespace Go.Proofs.Ytbjaphldncagjaa
open Go.RowKit
set_option maxRecDepth 100000

set_option maxHeartbeats 1000000 in
theorem load_nil (w : World) : Calls Try.prog 15 #[.pointer none] w (RetP (fun v _ => v = .tuple #[.agg #[.int .i64 0, .int .i64 0, .int .i64 0, .int .i64 0, .int .i64 0], .int .i64 1]) w) := by
  obtain ⟨w1, hw1⟩ : ∃ w1, w1 = w.alloc (.cells #[.int .i64 0, .int .i64 0, .int .i64 0, .int .i64 0, .int .i64 0] 23) := ⟨_, rfl⟩
  have hb1 : Below w.heap.size w w1 := by rw [hw1]; exact bl.alloc (Nat.le_refl _) _
  have hq1 : KRow w1 w.heap.size Blk.zero := by rw [hw1]; exact KRow.made w Blk.zero
  have HQ1 := Lib.hid hq1
  obtain ⟨x0, x1, x2, x3, x4⟩ := hq1.box
  have f1 := hq1.free
  have y0 : w1.cell? ⟨w.heap.size, 0, none⟩ = some (.int .i64 0) := x0
  have y1 : w1.cell? ⟨w.heap.size, 1, none⟩ = some (.int .i64 0) := x1
  have y2 : w1.cell? ⟨w.heap.size, 2, none⟩ = some (.int .i64 0) := x2
  have y3 : w1.cell? ⟨w.heap.size, 3, none⟩ = some (.int .i64 0) := x3
  have y4 : w1.cell? ⟨w.heap.size, 4, none⟩ = some (.int .i64 0) := x4
  clear hq1 x0 x1 x2 x3 x4
  go_enter Try.func15, Try.ntmps15
  go_upto_region 1 with (fail)
  rw [← hw1]
  clear hw1
  go_wp2_with (first
    | (go_at_call 68; refine (nil_len w1).mono ?_; rintro e w2 ⟨rfl, rfl⟩)
    | fail)
  have hr := HQ1.out.put Blk.zero
  have hbn := below5 hb1 (Nat.le_refl _) (.int .i64 0) (.int .i64 0) (.int .i64 0) (.int .i64 0) (.int .i64 0)
  obtain ⟨w6, hw6⟩ : ∃ w6, w6 = (((((w1.setCell ⟨w.heap.size, 0, none⟩ (.int .i64 0)).setCell ⟨w.heap.size, 1, none⟩ (.int .i64 0)).setCell ⟨w.heap.size, 2, none⟩ (.int .i64 0)).setCell ⟨w.heap.size, 3, none⟩ (.int .i64 0)).setCell ⟨w.heap.size, 4, none⟩ (.int .i64 0)) := ⟨_, rfl⟩
  rw [← hw6] at hbn ⊢
  have hr6 : KRow w6 w.heap.size Blk.zero := by rw [hw6]; exact hr
  clear hw6 hr y0 y1 y2 y3 y4
  obtain ⟨e0, e1, e2, e3, e4⟩ := hr6.box
  refine bodyPost_ret (v := .tuple #[.agg #[.int .i64 Blk.zero.gen, .int .i64 Blk.zero.epoch, .int .i64 Blk.zero.first, .int .i64 Blk.zero.from_, .int .i64 Blk.zero.count], .int .i64 1]) ?_ rfl ⟨_, rfl, rfl, hbn⟩
  simp [results, Try.results15, go_sem, e0, e1, e2, e3, e4]

set_option maxHeartbeats 1000000 in
theorem save_nil (w : World) (b : Blk) : Calls Try.prog 17 #[.pointer none, .agg #[.int .i64 b.gen, .int .i64 b.epoch, .int .i64 b.first, .int .i64 b.from_, .int .i64 b.count]] w (RetP (fun v _ => v = .int .i64 1) w) := by
  obtain ⟨w1, hw1⟩ : ∃ w1, w1 = w.alloc (.cells #[.int .i64 b.gen, .int .i64 b.epoch, .int .i64 b.first, .int .i64 b.from_, .int .i64 b.count] 23) := ⟨_, rfl⟩
  have hb1 : Below w.heap.size w w1 := by rw [hw1]; exact bl.alloc (Nat.le_refl _) _
  go_enter Try.func17, Try.ntmps17
  go_upto_region 1 with (fail)
  rw [← hw1]
  clear hw1
  go_wp2_with (first
    | (go_at_call 15; refine (load_nil w1).mono ?_; rintro e w2 ⟨v2, rfl, rfl, hb2⟩)
    | fail)
  go_ret
  exact ⟨_, rfl, rfl, nx (nx hb1 hb2) (bl.alloc (Nat.le_refl _) _)⟩

def blk5 : Blk := ⟨0, 5, 0, 0, 0⟩
theorem blk5_fits : blk5.fits := by unfold Blk.fits Blk.nums blk5; decide

set_option maxHeartbeats 1000000 in
theorem answers10_any (w : World) : Calls Try.prog 16 #[] w (LawT w) := by
  have hst := (SupSt.new 2 (by omega)).save_free blk5_fits rfl
  have HST := Lib.hid hst.2.2
  have HE := Lib.hid hst.1
  have hnx : nextOk none none blk5 := rfl
  have hbest : bestO (putO none none (blk5.gen % 2) (some blk5)).1 (putO none none (blk5.gen % 2) (some blk5)).2 = some blk5 := rfl
  have HB := Lib.hid hbest
  clear hst hbest
  go_enter Try.func16, Try.ntmps16
  go_wp2_with (first
    | (go_at_call 15; refine (load_any w2 w.heap.size g F2 _ _ _ h2 HST.out).mono ?_; rw [HB.out]; unfold loadV blkV; rintro e w3 ⟨v3, rfl, rfl, hb3⟩)
    | (go_at_call 17; refine (save_any w1 w.heap.size g F _ none none blk5 h1 (SupSt.new 2 (by omega)) blk5_fits hnx).mono ?_; rintro e w2 ⟨rfl, F2, h2, hc2, hF2, hG2⟩; rw [HE.out])
    | (go_at_call 27; refine (new_any w 2 (by omega) (by omega)).mono ?_; rintro e w1 ⟨g, F, rfl, h1, hb1⟩)
    | fail)
  have hB12 : Below w.heap.size w w2 := hb1.trans (hc2.below (fun x hx => (h1.F_lt x hx).1) hb1.size)
  go_ret
  exact ⟨rfl, nx (nx hB12 hb3) (bl.alloc (Nat.le_refl _) _)⟩
end Go.Proofs.Ytbjaphldncagjaa
