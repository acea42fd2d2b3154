/- super: what a place says. -/
import Derived.Test.YtbjaphldncagjaaSuper1
namespace Go.Proofs.Ytbjaphldncagjaa
open Go.RowKit
set_option maxRecDepth 100000

set_option maxHeartbeats 4000000 in
theorem pread_any (w : World) (B g : Nat) (F : Nat → Prop) (d : Dv) (k : Int) (x : Option (List UInt8)) (o : Option Blk) (h : Dev w B F g d) (hd : d.down = false) (hu : d.unsure = []) (hk : k = 0 ∨ k = 1) (hx : d.sure[k.toNat]? = some x) (hs : SecO x o) (hp : ∀ b, o = some b → b.gen % 2 = k) :
    Calls Try.prog 70 #[.pointer (some ⟨g, 0, none⟩), .int .i64 k] w (RetP (fun v _ => v = readR o) w) := by
  have hrd := Dv.read_sure hd hu (by omega) hx
  have hun : d.unsure.length ≤ 1000000 := by rw [hu]; exact Nat.zero_le _
  obtain ⟨w1, hw1⟩ : ∃ w1, w1 = w.alloc (.cells #[.int .i64 0, .int .i64 0, .int .i64 0, .int .i64 0, .int .i64 0] 23) := ⟨_, rfl⟩
  have hb1 : Below w.heap.size w w1 := by rw [hw1]; exact bl.alloc (Nat.le_refl _) _
  have hq1 : w1.heap[w.heap.size]? = some (.cells #[.int .i64 0, .int .i64 0, .int .i64 0, .int .i64 0, .int .i64 0] 23 (0, 0)) := by rw [hw1]; exact heap_alloc_new _ _
  have HQ1 := Lib.hid hq1
  have H := Lib.hid (h.below hb1)
  clear hq1 h hu hd hx
  have hql : w.heap.size < w1.heap.size := (Array.getElem?_eq_some_iff.1 HQ1.out).1
  have hset : ∀ (w2 : World) (c0 c1 c2 c3 c4 : Value), Below w.heap.size w w2 → w2.heap[w.heap.size]? = some (.cells #[c0, c1, c2, c3, c4] 23 (0, 0)) → ∀ (b : Blk), ∃ w3, w3 = (((((w2.setCell ⟨w.heap.size, 0, none⟩ (.int .i64 b.gen)).setCell ⟨w.heap.size, 1, none⟩ (.int .i64 b.epoch)).setCell ⟨w.heap.size, 2, none⟩ (.int .i64 b.first)).setCell ⟨w.heap.size, 3, none⟩ (.int .i64 b.from_)).setCell ⟨w.heap.size, 4, none⟩ (.int .i64 b.count)) ∧ KBox w3 w.heap.size b ∧ Below w.heap.size w w3 := fun w2 c0 c1 c2 c3 c4 hb hq b => by
    refine ⟨_, rfl, ?_, below5 hb (Nat.le_refl _) _ _ _ _ _⟩
    have hr := set5 hq (.int .i64 b.gen) (.int .i64 b.epoch) (.int .i64 b.first) (.int .i64 b.from_) (.int .i64 b.count)
    exact ⟨(cell_of_row _ _ _ _ _ _ hr).trans rfl, (cell_of_row _ _ _ _ _ _ hr).trans rfl, (cell_of_row _ _ _ _ _ _ hr).trans rfl, (cell_of_row _ _ _ _ _ _ hr).trans rfl, (cell_of_row _ _ _ _ _ _ hr).trans rfl⟩
  have HSET := Lib.hid hset
  clear hset
  rcases hs with ⟨rfl, rfl | rfl⟩ | ⟨b, rfl, hf, rfl⟩
  · have HR := Lib.hid (show d.read k = ([], 9) from hrd)
    clear hrd
    go_enter Try.func70, Try.ntmps70
    go_upto_region 1 with (fail)
    rw [← hw1]
    clear hw1
    go_wp2_with (first
      | (go_at_call 119; refine (read_any w1 B g F d k H.out hun).mono ?_; rw [HR.out]; rintro e w2 ⟨v2, rfl, _, hb2⟩; have hq2 := (hb2.block _ hql).trans HQ1.out; have f2 : ∀ k, w2.frozen? ⟨w.heap.size, k, none⟩ = false := fun k => frozen_of_row _ _ _ _ _ hq2; have x0 : w2.cell? ⟨w.heap.size, 0, none⟩ = some (.int .i64 0) := (cell_of_row _ _ _ _ _ _ hq2).trans rfl; have x1 : w2.cell? ⟨w.heap.size, 1, none⟩ = some (.int .i64 0) := (cell_of_row _ _ _ _ _ _ hq2).trans rfl; have x2 : w2.cell? ⟨w.heap.size, 2, none⟩ = some (.int .i64 0) := (cell_of_row _ _ _ _ _ _ hq2).trans rfl; have x3 : w2.cell? ⟨w.heap.size, 3, none⟩ = some (.int .i64 0) := (cell_of_row _ _ _ _ _ _ hq2).trans rfl; have x4 : w2.cell? ⟨w.heap.size, 4, none⟩ = some (.int .i64 0) := (cell_of_row _ _ _ _ _ _ hq2).trans rfl)
      | fail)
    obtain ⟨w3, hw3, hk3, hb3⟩ := HSET.out w2 _ _ _ _ _ (nx hb1 hb2) hq2 Blk.zero
    change bodyPost _ _ _ _ _ (((((w2.setCell ⟨w.heap.size, 0, none⟩ (.int .i64 Blk.zero.gen)).setCell ⟨w.heap.size, 1, none⟩ (.int .i64 Blk.zero.epoch)).setCell ⟨w.heap.size, 2, none⟩ (.int .i64 Blk.zero.first)).setCell ⟨w.heap.size, 3, none⟩ (.int .i64 Blk.zero.from_)).setCell ⟨w.heap.size, 4, none⟩ (.int .i64 Blk.zero.count))
    rw [← hw3]
    clear hw3 x0 x1 x2 x3 x4
    obtain ⟨x0, x1, x2, x3, x4⟩ := hk3
    refine bodyPost_ret (v := readR none) ?_ rfl ⟨_, rfl, rfl, hb3⟩
    simp [results, Try.results70, go_sem, x0, x1, x2, x3, x4, readR, bkV, bkA, Blk.nums]
  · have HR := Lib.hid (show d.read k = (zero512, 0) from hrd)
    clear hrd
    go_enter Try.func70, Try.ntmps70
    go_upto_region 1 with (fail)
    rw [← hw1]
    clear hw1
    go_upto_region 7 with (first
      | (go_at_call 120; refine (sopen_zero w2 A2 c2 hr2 hl2).mono ?_; rintro e w3 ⟨v3, rfl, hb3⟩; have hq3 := (hb3.block _ hq2l).trans hq2)
      | (go_at_call 119; refine (read_any w1 B g F d k H.out hun).mono ?_; rw [HR.out]; rintro e w2 ⟨v2, rfl, ho2, hb2⟩; have hq2 := (hb2.block _ hql).trans HQ1.out; have hq2l := (Array.getElem?_eq_some_iff.1 hq2).1; obtain ⟨A2, c2, rfl, hr2, hl2, _⟩ := ho2.form; simp only at hr2 hl2; rw [zero512_len] at hr2 hl2 ⊢; clear ho2)
      | fail)
    obtain ⟨w4, hw4⟩ : ∃ w4, w4 = w3.alloc (.cells #[.int .i64 0, .int .i64 0, .int .i64 0, .int .i64 0, .int .i64 0] 115) := ⟨_, rfl⟩
    have hb4 : Below w3.heap.size w3 w4 := by rw [hw4]; exact bl.alloc (Nat.le_refl _) _
    have hh4 : w4.heap[w3.heap.size]? = some (.cells #[.int .i64 0, .int .i64 0, .int .i64 0, .int .i64 0, .int .i64 0] 115 (0, 0)) := by rw [hw4]; exact heap_alloc_new _ _
    rw [← hw4]
    clear hw4
    have hq4 := (hb4.block _ (Array.getElem?_eq_some_iff.1 hq3).1).trans hq3
    have f4 : ∀ k, w4.frozen? ⟨w.heap.size, k, none⟩ = false := fun k => frozen_of_row _ _ _ _ _ hq4
    have x0 : w4.cell? ⟨w.heap.size, 0, none⟩ = some (.int .i64 0) := (cell_of_row _ _ _ _ _ _ hq4).trans rfl
    have x1 : w4.cell? ⟨w.heap.size, 1, none⟩ = some (.int .i64 0) := (cell_of_row _ _ _ _ _ _ hq4).trans rfl
    have x2 : w4.cell? ⟨w.heap.size, 2, none⟩ = some (.int .i64 0) := (cell_of_row _ _ _ _ _ _ hq4).trans rfl
    have x3 : w4.cell? ⟨w.heap.size, 3, none⟩ = some (.int .i64 0) := (cell_of_row _ _ _ _ _ _ hq4).trans rfl
    have x4 : w4.cell? ⟨w.heap.size, 4, none⟩ = some (.int .i64 0) := (cell_of_row _ _ _ _ _ _ hq4).trans rfl
    go_wp2_with fail
    obtain ⟨w6, hw6, hk6, hb6⟩ := HSET.out w4 _ _ _ _ _ (nx (nx (nx hb1 hb2) hb3) hb4) hq4 Blk.zero
    change bodyPost _ _ _ _ _ (((((w4.setCell ⟨w.heap.size, 0, none⟩ (.int .i64 Blk.zero.gen)).setCell ⟨w.heap.size, 1, none⟩ (.int .i64 Blk.zero.epoch)).setCell ⟨w.heap.size, 2, none⟩ (.int .i64 Blk.zero.first)).setCell ⟨w.heap.size, 3, none⟩ (.int .i64 Blk.zero.from_)).setCell ⟨w.heap.size, 4, none⟩ (.int .i64 Blk.zero.count))
    rw [← hw6]
    clear hw6 x0 x1 x2 x3 x4
    obtain ⟨x0, x1, x2, x3, x4⟩ := hk6
    refine bodyPost_ret (v := readR none) ?_ rfl ⟨_, rfl, rfl, hb6⟩
    simp [results, Try.results70, go_sem, x0, x1, x2, x3, x4, readR, bkV, bkA, Blk.nums]
  · have HR := Lib.hid (show d.read k = (b.raw, 0) from hrd)
    have HL := Lib.hid (b.raw_len hf)
    clear hrd
    go_enter Try.func70, Try.ntmps70
    go_upto_region 1 with (fail)
    rw [← hw1]
    clear hw1
    go_upto_region 7 with (first
      | (go_at_call 120; refine (sopen_blk hf w2 A2 c2 hr2 hl2).mono ?_; rintro e w3 ⟨A3, c3, rfl, hl3, ho3, hb3⟩; have hq3 := (hb3.block _ hq2l).trans hq2)
      | (go_at_call 119; refine (read_any w1 B g F d k H.out hun).mono ?_; rw [HR.out]; rintro e w2 ⟨v2, rfl, ho2, hb2⟩; have hq2 := (hb2.block _ hql).trans HQ1.out; have hq2l := (Array.getElem?_eq_some_iff.1 hq2).1; obtain ⟨A2, c2, rfl, hr2, hl2, _⟩ := ho2.form; simp only at hr2 hl2; rw [HL.out] at hr2 hl2 ⊢; clear ho2)
      | fail)
    obtain ⟨w4, hw4⟩ : ∃ w4, w4 = w3.alloc (.cells #[.int .i64 1, .int .i64 0, .int .i64 0, .int .i64 0, .int .i64 1] 115) := ⟨_, rfl⟩
    have hb4 : Below w3.heap.size w3 w4 := by rw [hw4]; exact bl.alloc (Nat.le_refl _) _
    have hh4 : w4.heap[w3.heap.size]? = some (.cells #[.int .i64 1, .int .i64 0, .int .i64 0, .int .i64 0, .int .i64 1] 115 (0, 0)) := by rw [hw4]; exact heap_alloc_new _ _
    rw [← hw4]
    clear hw4
    have hq4 := (hb4.block _ (Array.getElem?_eq_some_iff.1 hq3).1).trans hq3
    have y0 : w4.cell? ⟨w3.heap.size, 0, none⟩ = some (.int .i64 1) := (cell_of_row _ _ _ _ _ _ hh4).trans rfl
    have y1 : w4.cell? ⟨w3.heap.size, 1, none⟩ = some (.int .i64 0) := (cell_of_row _ _ _ _ _ _ hh4).trans rfl
    have y2 : w4.cell? ⟨w3.heap.size, 2, none⟩ = some (.int .i64 0) := (cell_of_row _ _ _ _ _ _ hh4).trans rfl
    have y3 : w4.cell? ⟨w3.heap.size, 3, none⟩ = some (.int .i64 0) := (cell_of_row _ _ _ _ _ _ hh4).trans rfl
    have y4 : w4.cell? ⟨w3.heap.size, 4, none⟩ = some (.int .i64 1) := (cell_of_row _ _ _ _ _ _ hh4).trans rfl
    go_upto_region 9 with fail
    clear y0 y1 y2 y3 y4 hh4
    have hql4 := (Array.getElem?_eq_some_iff.1 hq4).1
    have hA3 : ∀ b' off, A3 = some ⟨b', off, none⟩ → ¬ b' = w.heap.size := fun b' off e e2 => by have h1 := ho3.ge b' off e; omega
    have HR4 := Lib.hid (ho3.rd.1.below hb4)
    have HB4 := Lib.hid (nx (nx (nx hb1 hb2) hb3) hb4)
    have HQ4 := Lib.hid hq4
    clear hq4 hq3 hq2 ho3 hr2
    go_wp2_with (first
      | (go_at_call 71; refine (numbers_any w4 w.heap.size).mono ?_; rintro e w5 ⟨v5, rfl, rfl, hb5⟩; unfold ptrs5; have HR5 := Lib.hid (HR4.out.below hb5); have HB5 := Lib.hid (nx HB4.out hb5); have HQ5 : Hid (w5.heap[w.heap.size]? = some (.cells (bkA b 0) 23 (0, 0))) := (hb5.block _ hql4).trans HQ4.out)
      | fail)
    clear HR4 HB4 HQ4
    go_loopw [47] (fun iv wr => ∃ j : Nat, iv = .int .i64 j ∧ j ≤ 5 ∧ Hid (wr.heap[w.heap.size]? = some (.cells (bkA b j) 23 (0, 0))) ∧ Hid (RdB wr A3 35 b.data) ∧ Hid (Below w.heap.size w wr)) (fun iv _ => 5 - (intOf iv).toNat)
    case atStart => exact ⟨0, rfl, by omega, HQ5, HR5, HB5⟩
    case round =>
      clear HQ5 HR5 HB5
      obtain ⟨j, rfl, hj, HQ, HR, HB⟩ := hrel
      have f5 : ∀ k, wr.frozen? ⟨w.heap.size, k, none⟩ = false := fun k => frozen_of_row _ _ _ _ _ HQ.out
      have HHF := Lib.hid hf
      by_cases h0 : j = 0
      · subst h0
        have x0 : wr.cell? ⟨w.heap.size, 0, none⟩ = some (.int .i64 0) := (cell_of_row _ _ _ _ _ _ HQ.out).trans rfl
        have hix := ptrs_at0 w.heap.size
        have hg := Lib.hid (show getN b.data 0 7 = (b.gen, 0) from Blk.get hf (k := 0) (n := b.gen) rfl)
        have hnext : (wr.setCell ⟨w.heap.size, 0, none⟩ (.int .i64 b.gen)).heap[w.heap.size]? = some (.cells (bkA b 1) 23 (0, 0)) := (heap_setCell_same _ _ 0 _ _ (.int .i64 b.gen) HQ.out).trans rfl
        have HN := Lib.hid hnext
        have HRN := Lib.hid (HR.out.chg ((Chg.refl (fun x => x = w.heap.size) wr).setCell (p := ⟨w.heap.size, 0, none⟩) (Or.inl rfl) (.int .i64 b.gen)) hA3)
        have HBN := Lib.hid (HB.out.setCell (p := ⟨w.heap.size, 0, none⟩) (Nat.le_refl _) (.int .i64 b.gen))
        clear hnext hf
        go_wp2_with (first
          | (go_at_call 118; refine (get_any A3 35 c3 b.data 0 7 wr HR.out hl3 (by omega)).mono ?_; rw [hg.out]; rintro e w6 ⟨rfl, rfl⟩)
          | fail)
        go_roundw
        case rel => exact ⟨1, by rfl, by omega, HN, HRN, HBN⟩
        case measure => simp [intOf]
      by_cases h1 : j = 1
      · subst h1
        have x1 : wr.cell? ⟨w.heap.size, 1, none⟩ = some (.int .i64 0) := (cell_of_row _ _ _ _ _ _ HQ.out).trans rfl
        have hix := ptrs_at1 w.heap.size
        have hg := Lib.hid (show getN b.data 7 7 = (b.epoch, 0) from Blk.get hf (k := 1) (n := b.epoch) rfl)
        have hnext : (wr.setCell ⟨w.heap.size, 1, none⟩ (.int .i64 b.epoch)).heap[w.heap.size]? = some (.cells (bkA b 2) 23 (0, 0)) := (heap_setCell_same _ _ 1 _ _ (.int .i64 b.epoch) HQ.out).trans rfl
        have HN := Lib.hid hnext
        have HRN := Lib.hid (HR.out.chg ((Chg.refl (fun x => x = w.heap.size) wr).setCell (p := ⟨w.heap.size, 1, none⟩) (Or.inl rfl) (.int .i64 b.epoch)) hA3)
        have HBN := Lib.hid (HB.out.setCell (p := ⟨w.heap.size, 1, none⟩) (Nat.le_refl _) (.int .i64 b.epoch))
        clear hnext hf
        go_wp2_with (first
          | (go_at_call 118; refine (get_any A3 35 c3 b.data 7 7 wr HR.out hl3 (by omega)).mono ?_; rw [hg.out]; rintro e w6 ⟨rfl, rfl⟩)
          | fail)
        go_roundw
        case rel => exact ⟨2, by rfl, by omega, HN, HRN, HBN⟩
        case measure => simp [intOf]
      by_cases h2 : j = 2
      · subst h2
        have x2 : wr.cell? ⟨w.heap.size, 2, none⟩ = some (.int .i64 0) := (cell_of_row _ _ _ _ _ _ HQ.out).trans rfl
        have hix := ptrs_at2 w.heap.size
        have hg := Lib.hid (show getN b.data 14 7 = (b.first, 0) from Blk.get hf (k := 2) (n := b.first) rfl)
        have hnext : (wr.setCell ⟨w.heap.size, 2, none⟩ (.int .i64 b.first)).heap[w.heap.size]? = some (.cells (bkA b 3) 23 (0, 0)) := (heap_setCell_same _ _ 2 _ _ (.int .i64 b.first) HQ.out).trans rfl
        have HN := Lib.hid hnext
        have HRN := Lib.hid (HR.out.chg ((Chg.refl (fun x => x = w.heap.size) wr).setCell (p := ⟨w.heap.size, 2, none⟩) (Or.inl rfl) (.int .i64 b.first)) hA3)
        have HBN := Lib.hid (HB.out.setCell (p := ⟨w.heap.size, 2, none⟩) (Nat.le_refl _) (.int .i64 b.first))
        clear hnext hf
        go_wp2_with (first
          | (go_at_call 118; refine (get_any A3 35 c3 b.data 14 7 wr HR.out hl3 (by omega)).mono ?_; rw [hg.out]; rintro e w6 ⟨rfl, rfl⟩)
          | fail)
        go_roundw
        case rel => exact ⟨3, by rfl, by omega, HN, HRN, HBN⟩
        case measure => simp [intOf]
      by_cases h3 : j = 3
      · subst h3
        have x3 : wr.cell? ⟨w.heap.size, 3, none⟩ = some (.int .i64 0) := (cell_of_row _ _ _ _ _ _ HQ.out).trans rfl
        have hix := ptrs_at3 w.heap.size
        have hg := Lib.hid (show getN b.data 21 7 = (b.from_, 0) from Blk.get hf (k := 3) (n := b.from_) rfl)
        have hnext : (wr.setCell ⟨w.heap.size, 3, none⟩ (.int .i64 b.from_)).heap[w.heap.size]? = some (.cells (bkA b 4) 23 (0, 0)) := (heap_setCell_same _ _ 3 _ _ (.int .i64 b.from_) HQ.out).trans rfl
        have HN := Lib.hid hnext
        have HRN := Lib.hid (HR.out.chg ((Chg.refl (fun x => x = w.heap.size) wr).setCell (p := ⟨w.heap.size, 3, none⟩) (Or.inl rfl) (.int .i64 b.from_)) hA3)
        have HBN := Lib.hid (HB.out.setCell (p := ⟨w.heap.size, 3, none⟩) (Nat.le_refl _) (.int .i64 b.from_))
        clear hnext hf
        go_wp2_with (first
          | (go_at_call 118; refine (get_any A3 35 c3 b.data 21 7 wr HR.out hl3 (by omega)).mono ?_; rw [hg.out]; rintro e w6 ⟨rfl, rfl⟩)
          | fail)
        go_roundw
        case rel => exact ⟨4, by rfl, by omega, HN, HRN, HBN⟩
        case measure => simp [intOf]
      by_cases h4 : j = 4
      · subst h4
        have x4 : wr.cell? ⟨w.heap.size, 4, none⟩ = some (.int .i64 0) := (cell_of_row _ _ _ _ _ _ HQ.out).trans rfl
        have hix := ptrs_at4 w.heap.size
        have hg := Lib.hid (show getN b.data 28 7 = (b.count, 0) from Blk.get hf (k := 4) (n := b.count) rfl)
        have hnext : (wr.setCell ⟨w.heap.size, 4, none⟩ (.int .i64 b.count)).heap[w.heap.size]? = some (.cells (bkA b 5) 23 (0, 0)) := (heap_setCell_same _ _ 4 _ _ (.int .i64 b.count) HQ.out).trans rfl
        have HN := Lib.hid hnext
        have HRN := Lib.hid (HR.out.chg ((Chg.refl (fun x => x = w.heap.size) wr).setCell (p := ⟨w.heap.size, 4, none⟩) (Or.inl rfl) (.int .i64 b.count)) hA3)
        have HBN := Lib.hid (HB.out.setCell (p := ⟨w.heap.size, 4, none⟩) (Nat.le_refl _) (.int .i64 b.count))
        clear hnext hf
        go_wp2_with (first
          | (go_at_call 118; refine (get_any A3 35 c3 b.data 28 7 wr HR.out hl3 (by omega)).mono ?_; rw [hg.out]; rintro e w6 ⟨rfl, rfl⟩)
          | fail)
        go_roundw
        case rel => exact ⟨5, by rfl, by omega, HN, HRN, HBN⟩
        case measure => simp [intOf]
      obtain rfl : j = 5 := by omega
      clear h0 h1 h2 h3 h4
      have x0 : wr.cell? ⟨w.heap.size, 0, none⟩ = some (.int .i64 b.gen) := (cell_of_row _ _ _ _ _ _ HQ.out).trans rfl
      have x1 : wr.cell? ⟨w.heap.size, 1, none⟩ = some (.int .i64 b.epoch) := (cell_of_row _ _ _ _ _ _ HQ.out).trans rfl
      have x2 : wr.cell? ⟨w.heap.size, 2, none⟩ = some (.int .i64 b.first) := (cell_of_row _ _ _ _ _ _ HQ.out).trans rfl
      have x3 : wr.cell? ⟨w.heap.size, 3, none⟩ = some (.int .i64 b.from_) := (cell_of_row _ _ _ _ _ _ HQ.out).trans rfl
      have x4 : wr.cell? ⟨w.heap.size, 4, none⟩ = some (.int .i64 b.count) := (cell_of_row _ _ _ _ _ _ HQ.out).trans rfl
      have hgen := hp b rfl
      have hg0 : 0 ≤ b.gen := (fitsB_true (hf b.gen (by simp [Blk.nums]))).2.2.1
      have hmod : b.gen.tmod 2 = k := by rw [Int.tmod_eq_emod_of_nonneg hg0]; exact hgen
      have HM := Lib.hid hmod
      clear hgen hf hp
      go_wp2
      obtain ⟨w6, hw6, hk6, hb6⟩ := HSET.out wr _ _ _ _ _ HB.out HQ.out b
      rw [← hw6]
      clear hw6 x0 x1 x2 x3 x4
      obtain ⟨x0, x1, x2, x3, x4⟩ := hk6
      refine bodyPost_ret (v := readR (some b)) ?_ rfl ⟨_, rfl, rfl, hb6⟩
      simp [results, Try.results70, go_sem, x0, x1, x2, x3, x4, readR, bkV, bkA, Blk.nums]
end Go.Proofs.Ytbjaphldncagjaa
