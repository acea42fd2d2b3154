/- Parts of a proof, joined: Accept. -/
import Derived.Test.YtimkdpkhdbiniaaQ10
import Derived.Test.YtimkdpkhdbiniaaQ15
/- scrub.Accept: whether a datagram is the answer. -/
namespace Go.Proofs.Ytimkdpkhdbiniaa
open Go.RowKit
set_option maxRecDepth 100000
set_option linter.unusedVariables false

set_option maxHeartbeats 8000000 in
theorem accept_addr (s : OuS) (o : Ou) (A : Option Addr) (na ca : Nat) (a : List UInt8) (p : Int) (D : Option Addr) (nd cd : Nat) (bs : List UInt8) (w : World) {S : Nat → Prop} (h : OIn S w s o) (hS : ∀ b, S b → b < w.heap.size) (hra : RdB w A na a) (hrd : RdB w D nd bs) (hbd : ∀ b off, D = some ⟨b, off, none⟩ → b < w.heap.size) (hcd : nd ≤ cd ∧ cd ≤ 9223372036854775807) (hnd : nd ≤ 100000000) (ha4 : o.addr.length = 4) (hne : a ≠ o.addr) :
    Calls Try.prog 16 #[ouV s o, .agg #[.slice A na ca, .int .i64 p, .slice D nd cd]] w (RetP (fun v _ => v = .tuple #[msV MS.nil Ms.zero, .bool false]) w) := by
  have HNE : Hid ((decide (a = o.addr)) = false) := decide_eq_false hne
  clear hne
  obtain ⟨w1, hw1⟩ : ∃ w1, w1 = w.alloc (.cells (ouCells s o) 27) := ⟨_, rfl⟩
  obtain ⟨w2, hw2⟩ : ∃ w2, w2 = w1.alloc (.cells #[.slice A na ca, .int .i64 p, .slice D nd cd] 38) := ⟨_, rfl⟩
  obtain ⟨w3, hw3⟩ : ∃ w3, w3 = w2.alloc (.cells (mCells MS.nil Ms.zero) 31) := ⟨_, rfl⟩
  have hb1 : Below w.heap.size w w1 := by rw [hw1]; exact bl.alloc (Nat.le_refl _) _
  have hb2 : Below w1.heap.size w1 w2 := by rw [hw2]; exact bl.alloc (Nat.le_refl _) _
  have hb3 : Below w2.heap.size w2 w3 := by rw [hw3]; exact bl.alloc (Nat.le_refl _) _
  have hz1 : w1.heap.size = w.heap.size + 1 := by rw [hw1]; simp
  have hz2 : w2.heap.size = w.heap.size + 2 := by rw [hw2]; simp; omega
  have hz3 : w3.heap.size = w.heap.size + 3 := by rw [hw3]; simp; omega
  have HR : Hid (ORow w3 w.heap.size s o) := by
    have h : ORow w1 w.heap.size s o := by rw [hw1]; exact ORow.made w s o
    exact (h.below hb2).below hb3
  have HD : Hid (w3.heap[w.heap.size + 1]? = some (.cells #[.slice A na ca, .int .i64 p, .slice D nd cd] 38 (0, 0))) := by
    have h2 : w2.heap[w.heap.size + 1]? = some (.cells #[.slice A na ca, .int .i64 p, .slice D nd cd] 38 (0, 0)) := by rw [hw2, ← hz1]; exact heap_alloc_new w1 _
    exact (hb3.block _ (by omega)).trans h2
  have HM : Hid (MRow w3 (w.heap.size + 2) MS.nil Ms.zero) := by show MRow _ _ _ _; rw [hw3, ← hz2]; exact MRow.made w2 _ _
  have hbw : Below w.heap.size w w3 := nx (nx hb1 hb2) hb3
  have HBW : Hid (Below w.heap.size w w3) := hbw
  have HI : Hid (OIn S w3 s o) := h.below hbw hS
  have HS : Hid (∀ b, S b → b < w3.heap.size) := fun b hb => Nat.lt_of_lt_of_le (hS b hb) hbw.size
  have HRA : Hid (RdB w3 A na a) := hra.below hbw
  have HRD : Hid (RdB w3 D nd bs) := hrd.below hbw
  have HBD : Hid (∀ b off, D = some ⟨b, off, none⟩ → b < w3.heap.size) := fun b off e => Nat.lt_of_lt_of_le (hbd b off e) hbw.size
  have HCD : Hid (nd ≤ cd ∧ cd ≤ 9223372036854775807 ∧ nd ≤ 100000000) := ⟨hcd.1, hcd.2, hnd⟩
  have HZ3 := Lib.hid hz3
  have HRO : Hid (RdB w3 s.A o.addr.length o.addr) := els_bytes (So := S) (Si := S) HI.out.a
  have HQM : Hid (o.q.name.length ≤ maxLen) := Nat.le_trans h.q.cn.1 h.q.cn.2
  have t0 : ((o.addr.length : Int) != 4) = false := by rw [ha4]; rfl
  obtain ⟨x0, x1, x2, x3, x4, x5⟩ := HR.out.cells
  have d0 : w3.cell? ⟨w.heap.size + 1, 0, none⟩ = some (.slice A na ca) := (cell_of_row _ _ _ _ _ _ HD.out).trans rfl
  have d1 : w3.cell? ⟨w.heap.size + 1, 1, none⟩ = some (.int .i64 p) := (cell_of_row _ _ _ _ _ _ HD.out).trans rfl
  have d2 : w3.cell? ⟨w.heap.size + 1, 2, none⟩ = some (.slice D nd cd) := (cell_of_row _ _ _ _ _ _ HD.out).trans rfl
  unfold ouV
  unfold ouCells at hw1 ⊢
  unfold mCells at hw3
  simp only [MS.nil, Ms.zero, List.length_nil] at hw3
  clear h hS hb1 hb2 hb3 hz1 hz2 hz3 hra hrd hbd hcd hnd ha4 hbw
  go_enter Try.func16, Try.ntmps16
  go_upto_region 1 with (fail)
  rw [← hw1, ← hw2, ← hw3]
  clear hw1 hw2 hw3
  have hMz := HM.out
  have m0 : w3.cell? ⟨w.heap.size + 2, 0, none⟩ = some (.int .i64 0) := (MRow.cell hMz 0).trans rfl
  have m1 : w3.cell? ⟨w.heap.size + 2, 1, none⟩ = some (.bool false) := (MRow.cell hMz 1).trans rfl
  have m2 : w3.cell? ⟨w.heap.size + 2, 2, none⟩ = some (.int .i64 0) := (MRow.cell hMz 2).trans rfl
  have m3 : w3.cell? ⟨w.heap.size + 2, 3, none⟩ = some (.bool false) := (MRow.cell hMz 3).trans rfl
  have m4 : w3.cell? ⟨w.heap.size + 2, 4, none⟩ = some (.bool false) := (MRow.cell hMz 4).trans rfl
  have m5 : w3.cell? ⟨w.heap.size + 2, 5, none⟩ = some (.bool false) := (MRow.cell hMz 5).trans rfl
  have m6 : w3.cell? ⟨w.heap.size + 2, 6, none⟩ = some (.bool false) := (MRow.cell hMz 6).trans rfl
  have m7 : w3.cell? ⟨w.heap.size + 2, 7, none⟩ = some (.int .i64 0) := (MRow.cell hMz 7).trans rfl
  have m8 : w3.cell? ⟨w.heap.size + 2, 8, none⟩ = some (.slice none 0 0) := (MRow.cell hMz 8).trans rfl
  have m9 : w3.cell? ⟨w.heap.size + 2, 9, none⟩ = some (.slice none 0 0) := (MRow.cell hMz 9).trans rfl
  have m10 : w3.cell? ⟨w.heap.size + 2, 10, none⟩ = some (.slice none 0 0) := (MRow.cell hMz 10).trans rfl
  have m11 : w3.cell? ⟨w.heap.size + 2, 11, none⟩ = some (.slice none 0 0) := (MRow.cell hMz 11).trans rfl
  have m12 : w3.cell? ⟨w.heap.size + 2, 12, none⟩ = some (.bool false) := (MRow.cell hMz 12).trans rfl
  have m13 : w3.cell? ⟨w.heap.size + 2, 13, none⟩ = some (.int .i64 0) := (MRow.cell hMz 13).trans rfl
  have f0 := MRow.free hMz 0
  have f1 := MRow.free hMz 1
  have f2 := MRow.free hMz 2
  have f3 := MRow.free hMz 3
  have f4 := MRow.free hMz 4
  have f5 := MRow.free hMz 5
  have f6 := MRow.free hMz 6
  have f7 := MRow.free hMz 7
  have f8 := MRow.free hMz 8
  have f9 := MRow.free hMz 9
  have f10 := MRow.free hMz 10
  have f11 := MRow.free hMz 11
  have f12 := MRow.free hMz 12
  have f13 := MRow.free hMz 13
  go_wp2_with (first
    | (go_at_call 53; refine (bequal_any A s.A na ca o.addr.length s.c a o.addr w3 HRA.out HRO.out).mono ?_; rw [HNE.out]; rintro e w4 ⟨rfl, rfl⟩)
    | fail)
  obtain ⟨ym, hym⟩ : ∃ y, y = put14 w3 (w.heap.size + 2) (.int .i64 0) (.bool false) (.int .i64 0) (.bool false) (.bool false) (.bool false) (.bool false) (.int .i64 0) (.slice none 0 0) (.slice none 0 0) (.slice none 0 0) (.slice none 0 0) (.bool false) (.int .i64 0) := ⟨_, rfl⟩
  have hRm : ym.heap[w.heap.size + 2]? = some (.cells #[.int .i64 0, .bool false, .int .i64 0, .bool false, .bool false, .bool false, .bool false, .int .i64 0, .slice none 0 0, .slice none 0 0, .slice none 0 0, .slice none 0 0, .bool false, .int .i64 0] 31 (0, 0)) := by rw [hym]; exact set14 hMz (.int .i64 0) (.bool false) (.int .i64 0) (.bool false) (.bool false) (.bool false) (.bool false) (.int .i64 0) (.slice none 0 0) (.slice none 0 0) (.slice none 0 0) (.slice none 0 0) (.bool false) (.int .i64 0)
  have hcm : Chg (fun k => k = w.heap.size + 2) w3 ym := by rw [hym]; exact chg14 _ _ _ _ _ _ _ _ _ _ _ _ _ _ _ _
  unfold put14 at hym
  rw [← hym]
  clear hym
  have u0 : ym.cell? ⟨w.heap.size + 2, 0, none⟩ = some (.int .i64 0) := (cell_of_row _ _ _ _ _ _ hRm).trans rfl
  have u1 : ym.cell? ⟨w.heap.size + 2, 1, none⟩ = some (.bool false) := (cell_of_row _ _ _ _ _ _ hRm).trans rfl
  have u2 : ym.cell? ⟨w.heap.size + 2, 2, none⟩ = some (.int .i64 0) := (cell_of_row _ _ _ _ _ _ hRm).trans rfl
  have u3 : ym.cell? ⟨w.heap.size + 2, 3, none⟩ = some (.bool false) := (cell_of_row _ _ _ _ _ _ hRm).trans rfl
  have u4 : ym.cell? ⟨w.heap.size + 2, 4, none⟩ = some (.bool false) := (cell_of_row _ _ _ _ _ _ hRm).trans rfl
  have u5 : ym.cell? ⟨w.heap.size + 2, 5, none⟩ = some (.bool false) := (cell_of_row _ _ _ _ _ _ hRm).trans rfl
  have u6 : ym.cell? ⟨w.heap.size + 2, 6, none⟩ = some (.bool false) := (cell_of_row _ _ _ _ _ _ hRm).trans rfl
  have u7 : ym.cell? ⟨w.heap.size + 2, 7, none⟩ = some (.int .i64 0) := (cell_of_row _ _ _ _ _ _ hRm).trans rfl
  have u8 : ym.cell? ⟨w.heap.size + 2, 8, none⟩ = some (.slice none 0 0) := (cell_of_row _ _ _ _ _ _ hRm).trans rfl
  have u9 : ym.cell? ⟨w.heap.size + 2, 9, none⟩ = some (.slice none 0 0) := (cell_of_row _ _ _ _ _ _ hRm).trans rfl
  have u10 : ym.cell? ⟨w.heap.size + 2, 10, none⟩ = some (.slice none 0 0) := (cell_of_row _ _ _ _ _ _ hRm).trans rfl
  have u11 : ym.cell? ⟨w.heap.size + 2, 11, none⟩ = some (.slice none 0 0) := (cell_of_row _ _ _ _ _ _ hRm).trans rfl
  have u12 : ym.cell? ⟨w.heap.size + 2, 12, none⟩ = some (.bool false) := (cell_of_row _ _ _ _ _ _ hRm).trans rfl
  have u13 : ym.cell? ⟨w.heap.size + 2, 13, none⟩ = some (.int .i64 0) := (cell_of_row _ _ _ _ _ _ hRm).trans rfl
  have hbz : Below w.heap.size w ym := by
    have h1 : Below w.heap.size w w3 := HBW.out
    exact h1.trans (hcm.below (fun x hx => by omega) h1.size)

  refine bodyPost_ret (v := .tuple #[.agg #[.int .i64 0, .bool false, .int .i64 0, .bool false, .bool false, .bool false, .bool false, .int .i64 0, .slice none 0 0, .slice none 0 0, .slice none 0 0, .slice none 0 0, .bool false, .int .i64 0], .bool false]) ?_ rfl ⟨_, rfl, rfl, hbz⟩
  simp [results, Try.results16, go_sem, u0, u1, u2, u3, u4, u5, u6, u7, u8, u9, u10, u11, u12, u13]

set_option maxHeartbeats 8000000 in
theorem accept_port (s : OuS) (o : Ou) (A : Option Addr) (na ca : Nat) (a : List UInt8) (p : Int) (D : Option Addr) (nd cd : Nat) (bs : List UInt8) (w : World) {S : Nat → Prop} (h : OIn S w s o) (hS : ∀ b, S b → b < w.heap.size) (hra : RdB w A na a) (hrd : RdB w D nd bs) (hbd : ∀ b off, D = some ⟨b, off, none⟩ → b < w.heap.size) (hcd : nd ≤ cd ∧ cd ≤ 9223372036854775807) (hnd : nd ≤ 100000000) (ha4 : o.addr.length = 4) (heq : a = o.addr) (hpn : p ≠ o.port) :
    Calls Try.prog 16 #[ouV s o, .agg #[.slice A na ca, .int .i64 p, .slice D nd cd]] w (RetP (fun v _ => v = .tuple #[msV MS.nil Ms.zero, .bool false]) w) := by
  have HEQ : Hid ((decide (a = o.addr)) = true) := decide_eq_true heq
  clear heq
  have tp : (p != o.port) = true := by simp [hpn]
  clear hpn
  obtain ⟨w1, hw1⟩ : ∃ w1, w1 = w.alloc (.cells (ouCells s o) 27) := ⟨_, rfl⟩
  obtain ⟨w2, hw2⟩ : ∃ w2, w2 = w1.alloc (.cells #[.slice A na ca, .int .i64 p, .slice D nd cd] 38) := ⟨_, rfl⟩
  obtain ⟨w3, hw3⟩ : ∃ w3, w3 = w2.alloc (.cells (mCells MS.nil Ms.zero) 31) := ⟨_, rfl⟩
  have hb1 : Below w.heap.size w w1 := by rw [hw1]; exact bl.alloc (Nat.le_refl _) _
  have hb2 : Below w1.heap.size w1 w2 := by rw [hw2]; exact bl.alloc (Nat.le_refl _) _
  have hb3 : Below w2.heap.size w2 w3 := by rw [hw3]; exact bl.alloc (Nat.le_refl _) _
  have hz1 : w1.heap.size = w.heap.size + 1 := by rw [hw1]; simp
  have hz2 : w2.heap.size = w.heap.size + 2 := by rw [hw2]; simp; omega
  have hz3 : w3.heap.size = w.heap.size + 3 := by rw [hw3]; simp; omega
  have HR : Hid (ORow w3 w.heap.size s o) := by
    have h : ORow w1 w.heap.size s o := by rw [hw1]; exact ORow.made w s o
    exact (h.below hb2).below hb3
  have HD : Hid (w3.heap[w.heap.size + 1]? = some (.cells #[.slice A na ca, .int .i64 p, .slice D nd cd] 38 (0, 0))) := by
    have h2 : w2.heap[w.heap.size + 1]? = some (.cells #[.slice A na ca, .int .i64 p, .slice D nd cd] 38 (0, 0)) := by rw [hw2, ← hz1]; exact heap_alloc_new w1 _
    exact (hb3.block _ (by omega)).trans h2
  have HM : Hid (MRow w3 (w.heap.size + 2) MS.nil Ms.zero) := by show MRow _ _ _ _; rw [hw3, ← hz2]; exact MRow.made w2 _ _
  have hbw : Below w.heap.size w w3 := nx (nx hb1 hb2) hb3
  have HBW : Hid (Below w.heap.size w w3) := hbw
  have HI : Hid (OIn S w3 s o) := h.below hbw hS
  have HS : Hid (∀ b, S b → b < w3.heap.size) := fun b hb => Nat.lt_of_lt_of_le (hS b hb) hbw.size
  have HRA : Hid (RdB w3 A na a) := hra.below hbw
  have HRD : Hid (RdB w3 D nd bs) := hrd.below hbw
  have HBD : Hid (∀ b off, D = some ⟨b, off, none⟩ → b < w3.heap.size) := fun b off e => Nat.lt_of_lt_of_le (hbd b off e) hbw.size
  have HCD : Hid (nd ≤ cd ∧ cd ≤ 9223372036854775807 ∧ nd ≤ 100000000) := ⟨hcd.1, hcd.2, hnd⟩
  have HZ3 := Lib.hid hz3
  have HRO : Hid (RdB w3 s.A o.addr.length o.addr) := els_bytes (So := S) (Si := S) HI.out.a
  have HQM : Hid (o.q.name.length ≤ maxLen) := Nat.le_trans h.q.cn.1 h.q.cn.2
  have t0 : ((o.addr.length : Int) != 4) = false := by rw [ha4]; rfl
  obtain ⟨x0, x1, x2, x3, x4, x5⟩ := HR.out.cells
  have d0 : w3.cell? ⟨w.heap.size + 1, 0, none⟩ = some (.slice A na ca) := (cell_of_row _ _ _ _ _ _ HD.out).trans rfl
  have d1 : w3.cell? ⟨w.heap.size + 1, 1, none⟩ = some (.int .i64 p) := (cell_of_row _ _ _ _ _ _ HD.out).trans rfl
  have d2 : w3.cell? ⟨w.heap.size + 1, 2, none⟩ = some (.slice D nd cd) := (cell_of_row _ _ _ _ _ _ HD.out).trans rfl
  unfold ouV
  unfold ouCells at hw1 ⊢
  unfold mCells at hw3
  simp only [MS.nil, Ms.zero, List.length_nil] at hw3
  clear h hS hb1 hb2 hb3 hz1 hz2 hz3 hra hrd hbd hcd hnd ha4 hbw
  go_enter Try.func16, Try.ntmps16
  go_upto_region 1 with (fail)
  rw [← hw1, ← hw2, ← hw3]
  clear hw1 hw2 hw3
  have hMz := HM.out
  have m0 : w3.cell? ⟨w.heap.size + 2, 0, none⟩ = some (.int .i64 0) := (MRow.cell hMz 0).trans rfl
  have m1 : w3.cell? ⟨w.heap.size + 2, 1, none⟩ = some (.bool false) := (MRow.cell hMz 1).trans rfl
  have m2 : w3.cell? ⟨w.heap.size + 2, 2, none⟩ = some (.int .i64 0) := (MRow.cell hMz 2).trans rfl
  have m3 : w3.cell? ⟨w.heap.size + 2, 3, none⟩ = some (.bool false) := (MRow.cell hMz 3).trans rfl
  have m4 : w3.cell? ⟨w.heap.size + 2, 4, none⟩ = some (.bool false) := (MRow.cell hMz 4).trans rfl
  have m5 : w3.cell? ⟨w.heap.size + 2, 5, none⟩ = some (.bool false) := (MRow.cell hMz 5).trans rfl
  have m6 : w3.cell? ⟨w.heap.size + 2, 6, none⟩ = some (.bool false) := (MRow.cell hMz 6).trans rfl
  have m7 : w3.cell? ⟨w.heap.size + 2, 7, none⟩ = some (.int .i64 0) := (MRow.cell hMz 7).trans rfl
  have m8 : w3.cell? ⟨w.heap.size + 2, 8, none⟩ = some (.slice none 0 0) := (MRow.cell hMz 8).trans rfl
  have m9 : w3.cell? ⟨w.heap.size + 2, 9, none⟩ = some (.slice none 0 0) := (MRow.cell hMz 9).trans rfl
  have m10 : w3.cell? ⟨w.heap.size + 2, 10, none⟩ = some (.slice none 0 0) := (MRow.cell hMz 10).trans rfl
  have m11 : w3.cell? ⟨w.heap.size + 2, 11, none⟩ = some (.slice none 0 0) := (MRow.cell hMz 11).trans rfl
  have m12 : w3.cell? ⟨w.heap.size + 2, 12, none⟩ = some (.bool false) := (MRow.cell hMz 12).trans rfl
  have m13 : w3.cell? ⟨w.heap.size + 2, 13, none⟩ = some (.int .i64 0) := (MRow.cell hMz 13).trans rfl
  have f0 := MRow.free hMz 0
  have f1 := MRow.free hMz 1
  have f2 := MRow.free hMz 2
  have f3 := MRow.free hMz 3
  have f4 := MRow.free hMz 4
  have f5 := MRow.free hMz 5
  have f6 := MRow.free hMz 6
  have f7 := MRow.free hMz 7
  have f8 := MRow.free hMz 8
  have f9 := MRow.free hMz 9
  have f10 := MRow.free hMz 10
  have f11 := MRow.free hMz 11
  have f12 := MRow.free hMz 12
  have f13 := MRow.free hMz 13
  go_wp2_with (first
    | (go_at_call 53; refine (bequal_any A s.A na ca o.addr.length s.c a o.addr w3 HRA.out HRO.out).mono ?_; rw [HEQ.out]; rintro e w4 ⟨rfl, rfl⟩)
    | fail)
  obtain ⟨ym, hym⟩ : ∃ y, y = put14 w3 (w.heap.size + 2) (.int .i64 0) (.bool false) (.int .i64 0) (.bool false) (.bool false) (.bool false) (.bool false) (.int .i64 0) (.slice none 0 0) (.slice none 0 0) (.slice none 0 0) (.slice none 0 0) (.bool false) (.int .i64 0) := ⟨_, rfl⟩
  have hRm : ym.heap[w.heap.size + 2]? = some (.cells #[.int .i64 0, .bool false, .int .i64 0, .bool false, .bool false, .bool false, .bool false, .int .i64 0, .slice none 0 0, .slice none 0 0, .slice none 0 0, .slice none 0 0, .bool false, .int .i64 0] 31 (0, 0)) := by rw [hym]; exact set14 hMz (.int .i64 0) (.bool false) (.int .i64 0) (.bool false) (.bool false) (.bool false) (.bool false) (.int .i64 0) (.slice none 0 0) (.slice none 0 0) (.slice none 0 0) (.slice none 0 0) (.bool false) (.int .i64 0)
  have hcm : Chg (fun k => k = w.heap.size + 2) w3 ym := by rw [hym]; exact chg14 _ _ _ _ _ _ _ _ _ _ _ _ _ _ _ _
  unfold put14 at hym
  rw [← hym]
  clear hym
  have u0 : ym.cell? ⟨w.heap.size + 2, 0, none⟩ = some (.int .i64 0) := (cell_of_row _ _ _ _ _ _ hRm).trans rfl
  have u1 : ym.cell? ⟨w.heap.size + 2, 1, none⟩ = some (.bool false) := (cell_of_row _ _ _ _ _ _ hRm).trans rfl
  have u2 : ym.cell? ⟨w.heap.size + 2, 2, none⟩ = some (.int .i64 0) := (cell_of_row _ _ _ _ _ _ hRm).trans rfl
  have u3 : ym.cell? ⟨w.heap.size + 2, 3, none⟩ = some (.bool false) := (cell_of_row _ _ _ _ _ _ hRm).trans rfl
  have u4 : ym.cell? ⟨w.heap.size + 2, 4, none⟩ = some (.bool false) := (cell_of_row _ _ _ _ _ _ hRm).trans rfl
  have u5 : ym.cell? ⟨w.heap.size + 2, 5, none⟩ = some (.bool false) := (cell_of_row _ _ _ _ _ _ hRm).trans rfl
  have u6 : ym.cell? ⟨w.heap.size + 2, 6, none⟩ = some (.bool false) := (cell_of_row _ _ _ _ _ _ hRm).trans rfl
  have u7 : ym.cell? ⟨w.heap.size + 2, 7, none⟩ = some (.int .i64 0) := (cell_of_row _ _ _ _ _ _ hRm).trans rfl
  have u8 : ym.cell? ⟨w.heap.size + 2, 8, none⟩ = some (.slice none 0 0) := (cell_of_row _ _ _ _ _ _ hRm).trans rfl
  have u9 : ym.cell? ⟨w.heap.size + 2, 9, none⟩ = some (.slice none 0 0) := (cell_of_row _ _ _ _ _ _ hRm).trans rfl
  have u10 : ym.cell? ⟨w.heap.size + 2, 10, none⟩ = some (.slice none 0 0) := (cell_of_row _ _ _ _ _ _ hRm).trans rfl
  have u11 : ym.cell? ⟨w.heap.size + 2, 11, none⟩ = some (.slice none 0 0) := (cell_of_row _ _ _ _ _ _ hRm).trans rfl
  have u12 : ym.cell? ⟨w.heap.size + 2, 12, none⟩ = some (.bool false) := (cell_of_row _ _ _ _ _ _ hRm).trans rfl
  have u13 : ym.cell? ⟨w.heap.size + 2, 13, none⟩ = some (.int .i64 0) := (cell_of_row _ _ _ _ _ _ hRm).trans rfl
  have hbz : Below w.heap.size w ym := by
    have h1 : Below w.heap.size w w3 := HBW.out
    exact h1.trans (hcm.below (fun x hx => by omega) h1.size)

  refine bodyPost_ret (v := .tuple #[.agg #[.int .i64 0, .bool false, .int .i64 0, .bool false, .bool false, .bool false, .bool false, .int .i64 0, .slice none 0 0, .slice none 0 0, .slice none 0 0, .slice none 0 0, .bool false, .int .i64 0], .bool false]) ?_ rfl ⟨_, rfl, rfl, hbz⟩
  simp [results, Try.results16, go_sem, u0, u1, u2, u3, u4, u5, u6, u7, u8, u9, u10, u11, u12, u13]

set_option maxHeartbeats 8000000 in
theorem accept_id (s : OuS) (o : Ou) (A : Option Addr) (na ca : Nat) (a : List UInt8) (p : Int) (D : Option Addr) (nd cd : Nat) (bs : List UInt8) (w : World) {S : Nat → Prop} (h : OIn S w s o) (hS : ∀ b, S b → b < w.heap.size) (hra : RdB w A na a) (hrd : RdB w D nd bs) (hbd : ∀ b off, D = some ⟨b, off, none⟩ → b < w.heap.size) (hcd : nd ≤ cd ∧ cd ≤ 9223372036854775807) (hnd : nd ≤ 100000000) (ha4 : o.addr.length = 4) (heq : a = o.addr) (m : Ms) (hdec : decV bs = (m, 0)) (hr : m.resp = true) (hop : m.op = 0) (htc : m.tc = false) (hid : m.id ≠ o.id) :
    Calls Try.prog 16 #[ouV s o, .agg #[.slice A na ca, .int .i64 o.port, .slice D nd cd]] w (RetP (fun v _ => v = .tuple #[msV MS.nil Ms.zero, .bool false]) w) := by
  have HEQ : Hid ((decide (a = o.addr)) = true) := decide_eq_true heq
  clear heq
  have HDX := Lib.hid hdec
  clear hdec
  have HR0 := Lib.hid hr
  have HOP := Lib.hid hop
  have HTC := Lib.hid htc
  clear hr hop htc
  have ti : (m.id != o.id) = true := by simp [hid]
  clear hid
  obtain ⟨w1, hw1⟩ : ∃ w1, w1 = w.alloc (.cells (ouCells s o) 27) := ⟨_, rfl⟩
  obtain ⟨w2, hw2⟩ : ∃ w2, w2 = w1.alloc (.cells #[.slice A na ca, .int .i64 o.port, .slice D nd cd] 38) := ⟨_, rfl⟩
  obtain ⟨w3, hw3⟩ : ∃ w3, w3 = w2.alloc (.cells (mCells MS.nil Ms.zero) 31) := ⟨_, rfl⟩
  have hb1 : Below w.heap.size w w1 := by rw [hw1]; exact bl.alloc (Nat.le_refl _) _
  have hb2 : Below w1.heap.size w1 w2 := by rw [hw2]; exact bl.alloc (Nat.le_refl _) _
  have hb3 : Below w2.heap.size w2 w3 := by rw [hw3]; exact bl.alloc (Nat.le_refl _) _
  have hz1 : w1.heap.size = w.heap.size + 1 := by rw [hw1]; simp
  have hz2 : w2.heap.size = w.heap.size + 2 := by rw [hw2]; simp; omega
  have hz3 : w3.heap.size = w.heap.size + 3 := by rw [hw3]; simp; omega
  have HR : Hid (ORow w3 w.heap.size s o) := by
    have h : ORow w1 w.heap.size s o := by rw [hw1]; exact ORow.made w s o
    exact (h.below hb2).below hb3
  have HD : Hid (w3.heap[w.heap.size + 1]? = some (.cells #[.slice A na ca, .int .i64 o.port, .slice D nd cd] 38 (0, 0))) := by
    have h2 : w2.heap[w.heap.size + 1]? = some (.cells #[.slice A na ca, .int .i64 o.port, .slice D nd cd] 38 (0, 0)) := by rw [hw2, ← hz1]; exact heap_alloc_new w1 _
    exact (hb3.block _ (by omega)).trans h2
  have HM : Hid (MRow w3 (w.heap.size + 2) MS.nil Ms.zero) := by show MRow _ _ _ _; rw [hw3, ← hz2]; exact MRow.made w2 _ _
  have hbw : Below w.heap.size w w3 := nx (nx hb1 hb2) hb3
  have HBW : Hid (Below w.heap.size w w3) := hbw
  have HI : Hid (OIn S w3 s o) := h.below hbw hS
  have HS : Hid (∀ b, S b → b < w3.heap.size) := fun b hb => Nat.lt_of_lt_of_le (hS b hb) hbw.size
  have HRA : Hid (RdB w3 A na a) := hra.below hbw
  have HRD : Hid (RdB w3 D nd bs) := hrd.below hbw
  have HBD : Hid (∀ b off, D = some ⟨b, off, none⟩ → b < w3.heap.size) := fun b off e => Nat.lt_of_lt_of_le (hbd b off e) hbw.size
  have HCD : Hid (nd ≤ cd ∧ cd ≤ 9223372036854775807 ∧ nd ≤ 100000000) := ⟨hcd.1, hcd.2, hnd⟩
  have HZ3 := Lib.hid hz3
  have HRO : Hid (RdB w3 s.A o.addr.length o.addr) := els_bytes (So := S) (Si := S) HI.out.a
  have HQM : Hid (o.q.name.length ≤ maxLen) := Nat.le_trans h.q.cn.1 h.q.cn.2
  have t0 : ((o.addr.length : Int) != 4) = false := by rw [ha4]; rfl
  obtain ⟨x0, x1, x2, x3, x4, x5⟩ := HR.out.cells
  have d0 : w3.cell? ⟨w.heap.size + 1, 0, none⟩ = some (.slice A na ca) := (cell_of_row _ _ _ _ _ _ HD.out).trans rfl
  have d1 : w3.cell? ⟨w.heap.size + 1, 1, none⟩ = some (.int .i64 o.port) := (cell_of_row _ _ _ _ _ _ HD.out).trans rfl
  have d2 : w3.cell? ⟨w.heap.size + 1, 2, none⟩ = some (.slice D nd cd) := (cell_of_row _ _ _ _ _ _ HD.out).trans rfl
  unfold ouV
  unfold ouCells at hw1 ⊢
  unfold mCells at hw3
  simp only [MS.nil, Ms.zero, List.length_nil] at hw3
  clear h hS hb1 hb2 hb3 hz1 hz2 hz3 hra hrd hbd hcd hnd ha4 hbw
  go_enter Try.func16, Try.ntmps16
  go_upto_region 1 with (fail)
  rw [← hw1, ← hw2, ← hw3]
  clear hw1 hw2 hw3
  have tp : (o.port != o.port) = false := by simp
  go_upto_region 4 with (first
    | (go_at_call 54; refine (decode_any w3 D nd cd bs HRD.out HBD.out HCD.out.1 HCD.out.2.1 HCD.out.2.2).mono ?_; unfold goodV; rw [HDX.out]; rintro e w5 ⟨v5, rfl, ⟨s5, rfl, hm5⟩, hb5⟩; unfold msV mCells; have HI5 := Lib.hid hm5; have HB5 := Lib.hid hb5; clear hm5 hb5)
    | (go_at_call 53; refine (bequal_any A s.A na ca o.addr.length s.c a o.addr w3 HRA.out HRO.out).mono ?_; rw [HEQ.out]; rintro e w4 ⟨rfl, rfl⟩)
    | fail)
  obtain ⟨w6, hw6⟩ : ∃ u, u = w5.alloc (.cells (mCells s5 m) 31) := ⟨_, rfl⟩
  have HR6 : Hid (MRow w6 w5.heap.size s5 m) := by show MRow _ _ _ _; rw [hw6]; exact MRow.made w5 s5 m
  have hb6 : Below w5.heap.size w5 w6 := by rw [hw6]; exact bl.alloc (Nat.le_refl _) _
  have HB56 := Lib.hid hb6
  have HBM : Hid (Below w3.heap.size w3 w6) := nx HB5.out hb6
  unfold mCells at hw6
  rw [← hw6]
  clear hw6 hb6 x0 x1 x2 x3 x4 x5 d0 d1 d2 t0 tp
  obtain ⟨x0, x1, x2, x3, x4, x5⟩ := (HR.out.below HBM.out).cells
  have c0 : w6.cell? ⟨w5.heap.size, 0, none⟩ = some (.int .i64 m.id) := (MRow.cell HR6.out 0).trans rfl
  have c1 : w6.cell? ⟨w5.heap.size, 1, none⟩ = some (.bool true) := (MRow.cell HR6.out 1).trans (by rw [← HR0.out]; rfl)
  have c2 : w6.cell? ⟨w5.heap.size, 2, none⟩ = some (.int .i64 0) := (MRow.cell HR6.out 2).trans (by rw [← HOP.out]; rfl)
  have c4 : w6.cell? ⟨w5.heap.size, 4, none⟩ = some (.bool false) := (MRow.cell HR6.out 4).trans (by rw [← HTC.out]; rfl)
  have hMz := HM.out.below HBM.out
  have m0 : w6.cell? ⟨w.heap.size + 2, 0, none⟩ = some (.int .i64 0) := (MRow.cell hMz 0).trans rfl
  have m1 : w6.cell? ⟨w.heap.size + 2, 1, none⟩ = some (.bool false) := (MRow.cell hMz 1).trans rfl
  have m2 : w6.cell? ⟨w.heap.size + 2, 2, none⟩ = some (.int .i64 0) := (MRow.cell hMz 2).trans rfl
  have m3 : w6.cell? ⟨w.heap.size + 2, 3, none⟩ = some (.bool false) := (MRow.cell hMz 3).trans rfl
  have m4 : w6.cell? ⟨w.heap.size + 2, 4, none⟩ = some (.bool false) := (MRow.cell hMz 4).trans rfl
  have m5 : w6.cell? ⟨w.heap.size + 2, 5, none⟩ = some (.bool false) := (MRow.cell hMz 5).trans rfl
  have m6 : w6.cell? ⟨w.heap.size + 2, 6, none⟩ = some (.bool false) := (MRow.cell hMz 6).trans rfl
  have m7 : w6.cell? ⟨w.heap.size + 2, 7, none⟩ = some (.int .i64 0) := (MRow.cell hMz 7).trans rfl
  have m8 : w6.cell? ⟨w.heap.size + 2, 8, none⟩ = some (.slice none 0 0) := (MRow.cell hMz 8).trans rfl
  have m9 : w6.cell? ⟨w.heap.size + 2, 9, none⟩ = some (.slice none 0 0) := (MRow.cell hMz 9).trans rfl
  have m10 : w6.cell? ⟨w.heap.size + 2, 10, none⟩ = some (.slice none 0 0) := (MRow.cell hMz 10).trans rfl
  have m11 : w6.cell? ⟨w.heap.size + 2, 11, none⟩ = some (.slice none 0 0) := (MRow.cell hMz 11).trans rfl
  have m12 : w6.cell? ⟨w.heap.size + 2, 12, none⟩ = some (.bool false) := (MRow.cell hMz 12).trans rfl
  have m13 : w6.cell? ⟨w.heap.size + 2, 13, none⟩ = some (.int .i64 0) := (MRow.cell hMz 13).trans rfl
  have f0 := MRow.free hMz 0
  have f1 := MRow.free hMz 1
  have f2 := MRow.free hMz 2
  have f3 := MRow.free hMz 3
  have f4 := MRow.free hMz 4
  have f5 := MRow.free hMz 5
  have f6 := MRow.free hMz 6
  have f7 := MRow.free hMz 7
  have f8 := MRow.free hMz 8
  have f9 := MRow.free hMz 9
  have f10 := MRow.free hMz 10
  have f11 := MRow.free hMz 11
  have f12 := MRow.free hMz 12
  have f13 := MRow.free hMz 13
  go_wp2
  obtain ⟨ym, hym⟩ : ∃ y, y = put14 w6 (w.heap.size + 2) (.int .i64 0) (.bool false) (.int .i64 0) (.bool false) (.bool false) (.bool false) (.bool false) (.int .i64 0) (.slice none 0 0) (.slice none 0 0) (.slice none 0 0) (.slice none 0 0) (.bool false) (.int .i64 0) := ⟨_, rfl⟩
  have hRm : ym.heap[w.heap.size + 2]? = some (.cells #[.int .i64 0, .bool false, .int .i64 0, .bool false, .bool false, .bool false, .bool false, .int .i64 0, .slice none 0 0, .slice none 0 0, .slice none 0 0, .slice none 0 0, .bool false, .int .i64 0] 31 (0, 0)) := by rw [hym]; exact set14 hMz (.int .i64 0) (.bool false) (.int .i64 0) (.bool false) (.bool false) (.bool false) (.bool false) (.int .i64 0) (.slice none 0 0) (.slice none 0 0) (.slice none 0 0) (.slice none 0 0) (.bool false) (.int .i64 0)
  have hcm : Chg (fun k => k = w.heap.size + 2) w6 ym := by rw [hym]; exact chg14 _ _ _ _ _ _ _ _ _ _ _ _ _ _ _ _
  unfold put14 at hym
  rw [← hym]
  clear hym
  have u0 : ym.cell? ⟨w.heap.size + 2, 0, none⟩ = some (.int .i64 0) := (cell_of_row _ _ _ _ _ _ hRm).trans rfl
  have u1 : ym.cell? ⟨w.heap.size + 2, 1, none⟩ = some (.bool false) := (cell_of_row _ _ _ _ _ _ hRm).trans rfl
  have u2 : ym.cell? ⟨w.heap.size + 2, 2, none⟩ = some (.int .i64 0) := (cell_of_row _ _ _ _ _ _ hRm).trans rfl
  have u3 : ym.cell? ⟨w.heap.size + 2, 3, none⟩ = some (.bool false) := (cell_of_row _ _ _ _ _ _ hRm).trans rfl
  have u4 : ym.cell? ⟨w.heap.size + 2, 4, none⟩ = some (.bool false) := (cell_of_row _ _ _ _ _ _ hRm).trans rfl
  have u5 : ym.cell? ⟨w.heap.size + 2, 5, none⟩ = some (.bool false) := (cell_of_row _ _ _ _ _ _ hRm).trans rfl
  have u6 : ym.cell? ⟨w.heap.size + 2, 6, none⟩ = some (.bool false) := (cell_of_row _ _ _ _ _ _ hRm).trans rfl
  have u7 : ym.cell? ⟨w.heap.size + 2, 7, none⟩ = some (.int .i64 0) := (cell_of_row _ _ _ _ _ _ hRm).trans rfl
  have u8 : ym.cell? ⟨w.heap.size + 2, 8, none⟩ = some (.slice none 0 0) := (cell_of_row _ _ _ _ _ _ hRm).trans rfl
  have u9 : ym.cell? ⟨w.heap.size + 2, 9, none⟩ = some (.slice none 0 0) := (cell_of_row _ _ _ _ _ _ hRm).trans rfl
  have u10 : ym.cell? ⟨w.heap.size + 2, 10, none⟩ = some (.slice none 0 0) := (cell_of_row _ _ _ _ _ _ hRm).trans rfl
  have u11 : ym.cell? ⟨w.heap.size + 2, 11, none⟩ = some (.slice none 0 0) := (cell_of_row _ _ _ _ _ _ hRm).trans rfl
  have u12 : ym.cell? ⟨w.heap.size + 2, 12, none⟩ = some (.bool false) := (cell_of_row _ _ _ _ _ _ hRm).trans rfl
  have u13 : ym.cell? ⟨w.heap.size + 2, 13, none⟩ = some (.int .i64 0) := (cell_of_row _ _ _ _ _ _ hRm).trans rfl
  have hbz : Below w.heap.size w ym := by
    have h1 : Below w.heap.size w w6 := nx HBW.out HBM.out
    exact h1.trans (hcm.below (fun x hx => by omega) h1.size)

  refine bodyPost_ret (v := .tuple #[.agg #[.int .i64 0, .bool false, .int .i64 0, .bool false, .bool false, .bool false, .bool false, .int .i64 0, .slice none 0 0, .slice none 0 0, .slice none 0 0, .slice none 0 0, .bool false, .int .i64 0], .bool false]) ?_ rfl ⟨_, rfl, rfl, hbz⟩
  simp [results, Try.results16, go_sem, u0, u1, u2, u3, u4, u5, u6, u7, u8, u9, u10, u11, u12, u13]

set_option maxHeartbeats 8000000 in
theorem accept_yes (s : OuS) (o : Ou) (A : Option Addr) (na ca : Nat) (a : List UInt8) (p : Int) (D : Option Addr) (nd cd : Nat) (bs : List UInt8) (w : World) {S : Nat → Prop} (h : OIn S w s o) (hS : ∀ b, S b → b < w.heap.size) (hra : RdB w A na a) (hrd : RdB w D nd bs) (hbd : ∀ b off, D = some ⟨b, off, none⟩ → b < w.heap.size) (hcd : nd ≤ cd ∧ cd ≤ 9223372036854775807) (hnd : nd ≤ 100000000) (ha4 : o.addr.length = 4) (heq : a = o.addr) (m : Ms) (hdec : decV bs = (m, 0)) (hr : m.resp = true) (hop : m.op = 0) (htc : m.tc = false) (hid : m.id = o.id) (hqs : m.qs = [o.q]) :
    Calls Try.prog 16 #[ouV s o, .agg #[.slice A na ca, .int .i64 o.port, .slice D nd cd]] w (RetP (fun v _ => ∃ s2, v = .tuple #[msV s2 m, .bool true]) w) := by
  have HEQ : Hid ((decide (a = o.addr)) = true) := decide_eq_true heq
  clear heq
  have HDX := Lib.hid hdec
  clear hdec
  have HR0 := Lib.hid hr
  have HOP := Lib.hid hop
  have HTC := Lib.hid htc
  have HID := Lib.hid hid
  have HQS := Lib.hid hqs
  clear hr hop htc hid hqs
  obtain ⟨w1, hw1⟩ : ∃ w1, w1 = w.alloc (.cells (ouCells s o) 27) := ⟨_, rfl⟩
  obtain ⟨w2, hw2⟩ : ∃ w2, w2 = w1.alloc (.cells #[.slice A na ca, .int .i64 o.port, .slice D nd cd] 38) := ⟨_, rfl⟩
  obtain ⟨w3, hw3⟩ : ∃ w3, w3 = w2.alloc (.cells (mCells MS.nil Ms.zero) 31) := ⟨_, rfl⟩
  have hb1 : Below w.heap.size w w1 := by rw [hw1]; exact bl.alloc (Nat.le_refl _) _
  have hb2 : Below w1.heap.size w1 w2 := by rw [hw2]; exact bl.alloc (Nat.le_refl _) _
  have hb3 : Below w2.heap.size w2 w3 := by rw [hw3]; exact bl.alloc (Nat.le_refl _) _
  have hz1 : w1.heap.size = w.heap.size + 1 := by rw [hw1]; simp
  have hz2 : w2.heap.size = w.heap.size + 2 := by rw [hw2]; simp; omega
  have hz3 : w3.heap.size = w.heap.size + 3 := by rw [hw3]; simp; omega
  have HR : Hid (ORow w3 w.heap.size s o) := by
    have h : ORow w1 w.heap.size s o := by rw [hw1]; exact ORow.made w s o
    exact (h.below hb2).below hb3
  have HD : Hid (w3.heap[w.heap.size + 1]? = some (.cells #[.slice A na ca, .int .i64 o.port, .slice D nd cd] 38 (0, 0))) := by
    have h2 : w2.heap[w.heap.size + 1]? = some (.cells #[.slice A na ca, .int .i64 o.port, .slice D nd cd] 38 (0, 0)) := by rw [hw2, ← hz1]; exact heap_alloc_new w1 _
    exact (hb3.block _ (by omega)).trans h2
  have HM : Hid (MRow w3 (w.heap.size + 2) MS.nil Ms.zero) := by show MRow _ _ _ _; rw [hw3, ← hz2]; exact MRow.made w2 _ _
  have hbw : Below w.heap.size w w3 := nx (nx hb1 hb2) hb3
  have HBW : Hid (Below w.heap.size w w3) := hbw
  have HI : Hid (OIn S w3 s o) := h.below hbw hS
  have HS : Hid (∀ b, S b → b < w3.heap.size) := fun b hb => Nat.lt_of_lt_of_le (hS b hb) hbw.size
  have HRA : Hid (RdB w3 A na a) := hra.below hbw
  have HRD : Hid (RdB w3 D nd bs) := hrd.below hbw
  have HBD : Hid (∀ b off, D = some ⟨b, off, none⟩ → b < w3.heap.size) := fun b off e => Nat.lt_of_lt_of_le (hbd b off e) hbw.size
  have HCD : Hid (nd ≤ cd ∧ cd ≤ 9223372036854775807 ∧ nd ≤ 100000000) := ⟨hcd.1, hcd.2, hnd⟩
  have HZ3 := Lib.hid hz3
  have HRO : Hid (RdB w3 s.A o.addr.length o.addr) := els_bytes (So := S) (Si := S) HI.out.a
  have HQM : Hid (o.q.name.length ≤ maxLen) := Nat.le_trans h.q.cn.1 h.q.cn.2
  have t0 : ((o.addr.length : Int) != 4) = false := by rw [ha4]; rfl
  obtain ⟨x0, x1, x2, x3, x4, x5⟩ := HR.out.cells
  have d0 : w3.cell? ⟨w.heap.size + 1, 0, none⟩ = some (.slice A na ca) := (cell_of_row _ _ _ _ _ _ HD.out).trans rfl
  have d1 : w3.cell? ⟨w.heap.size + 1, 1, none⟩ = some (.int .i64 o.port) := (cell_of_row _ _ _ _ _ _ HD.out).trans rfl
  have d2 : w3.cell? ⟨w.heap.size + 1, 2, none⟩ = some (.slice D nd cd) := (cell_of_row _ _ _ _ _ _ HD.out).trans rfl
  unfold ouV
  unfold ouCells at hw1 ⊢
  unfold mCells at hw3
  simp only [MS.nil, Ms.zero, List.length_nil] at hw3
  clear h hS hb1 hb2 hb3 hz1 hz2 hz3 hra hrd hbd hcd hnd ha4 hbw
  go_enter Try.func16, Try.ntmps16
  go_upto_region 1 with (fail)
  rw [← hw1, ← hw2, ← hw3]
  clear hw1 hw2 hw3
  have tp : (o.port != o.port) = false := by simp
  go_upto_region 4 with (first
    | (go_at_call 54; refine (decode_any w3 D nd cd bs HRD.out HBD.out HCD.out.1 HCD.out.2.1 HCD.out.2.2).mono ?_; unfold goodV; rw [HDX.out]; rintro e w5 ⟨v5, rfl, ⟨s5, rfl, hm5⟩, hb5⟩; unfold msV mCells; have HI5 := Lib.hid hm5; have HB5 := Lib.hid hb5; clear hm5 hb5)
    | (go_at_call 53; refine (bequal_any A s.A na ca o.addr.length s.c a o.addr w3 HRA.out HRO.out).mono ?_; rw [HEQ.out]; rintro e w4 ⟨rfl, rfl⟩)
    | fail)
  obtain ⟨w6, hw6⟩ : ∃ u, u = w5.alloc (.cells (mCells s5 m) 31) := ⟨_, rfl⟩
  have HR6 : Hid (MRow w6 w5.heap.size s5 m) := by show MRow _ _ _ _; rw [hw6]; exact MRow.made w5 s5 m
  have hb6 : Below w5.heap.size w5 w6 := by rw [hw6]; exact bl.alloc (Nat.le_refl _) _
  have HB56 := Lib.hid hb6
  have HBM : Hid (Below w3.heap.size w3 w6) := nx HB5.out hb6
  unfold mCells at hw6
  rw [← hw6]
  clear hw6 hb6 x0 x1 x2 x3 x4 x5 d0 d1 d2 t0 tp
  obtain ⟨x0, x1, x2, x3, x4, x5⟩ := (HR.out.below HBM.out).cells
  have hqs1 : m.qs.length = 1 := by rw [HQS.out]; rfl
  have HI6 : Hid (MIn (ltS w5) w6 s5 m) := (MIn.mono (fun b hb => hb.2) HI5.out : MIn (ltS w5) w5 s5 m).below HB56.out (fun b hb => hb)
  obtain ⟨qb, qoff, qs, hqA, hqb, hqi, hqc⟩ := qu_at HI6.out.q (k := 0) (r := o.q) (by rw [HQS.out]; rfl)
  rw [show qoff + 0 * 3 = qoff by omega] at hqc
  obtain ⟨e0, e1, e2⟩ := hqc
  have HQI := Lib.hid hqi
  have HQL : Hid (∀ b, ltS w5 b → b < w6.heap.size) := fun b hb => Nat.lt_of_lt_of_le hb HB56.out.size
  clear hqi hqb
  have c0 : w6.cell? ⟨w5.heap.size, 0, none⟩ = some (.int .i64 o.id) := (MRow.cell HR6.out 0).trans (by rw [← HID.out]; rfl)
  have c1 : w6.cell? ⟨w5.heap.size, 1, none⟩ = some (.bool true) := (MRow.cell HR6.out 1).trans (by rw [← HR0.out]; rfl)
  have c2 : w6.cell? ⟨w5.heap.size, 2, none⟩ = some (.int .i64 0) := (MRow.cell HR6.out 2).trans (by rw [← HOP.out]; rfl)
  have c3 : w6.cell? ⟨w5.heap.size, 3, none⟩ = some (.bool m.aa) := (MRow.cell HR6.out 3).trans rfl
  have c4 : w6.cell? ⟨w5.heap.size, 4, none⟩ = some (.bool false) := (MRow.cell HR6.out 4).trans (by rw [← HTC.out]; rfl)
  have c5 : w6.cell? ⟨w5.heap.size, 5, none⟩ = some (.bool m.rd) := (MRow.cell HR6.out 5).trans rfl
  have c6 : w6.cell? ⟨w5.heap.size, 6, none⟩ = some (.bool m.ra) := (MRow.cell HR6.out 6).trans rfl
  have c7 : w6.cell? ⟨w5.heap.size, 7, none⟩ = some (.int .i64 m.rcode) := (MRow.cell HR6.out 7).trans rfl
  have c8 : w6.cell? ⟨w5.heap.size, 8, none⟩ = some (.slice (some ⟨qb, qoff, none⟩) 1 s5.qc) := (MRow.cell HR6.out 8).trans (by rw [← hqA, ← hqs1]; rfl)
  have c9 : w6.cell? ⟨w5.heap.size, 9, none⟩ = some (.slice s5.A m.an.length s5.ac) := (MRow.cell HR6.out 9).trans rfl
  have c10 : w6.cell? ⟨w5.heap.size, 10, none⟩ = some (.slice s5.U m.au.length s5.uc) := (MRow.cell HR6.out 10).trans rfl
  have c11 : w6.cell? ⟨w5.heap.size, 11, none⟩ = some (.slice s5.X m.ex.length s5.xc) := (MRow.cell HR6.out 11).trans rfl
  have c12 : w6.cell? ⟨w5.heap.size, 12, none⟩ = some (.bool m.edns) := (MRow.cell HR6.out 12).trans rfl
  have c13 : w6.cell? ⟨w5.heap.size, 13, none⟩ = some (.int .i64 m.size) := (MRow.cell HR6.out 13).trans rfl
  have ti : (o.id != o.id) = false := by simp
  have HC : Hid (∀ u, Below w6.heap.size w6 u → MCells u w5.heap.size s5 m) := fun u hu => (HR6.out.below hu).cells
  have HEQS := Lib.hid (And.intro hqA hqs1)
  clear hqA hqs1
  go_upto_region 7 with (fail)
  obtain ⟨w7, hw7⟩ : ∃ u, u = w6.alloc (.cells (qCells qs o.q) 25) := ⟨_, rfl⟩
  have HQR : Hid (QRow w7 w6.heap.size qs o.q) := by show QRow _ _ _ _; rw [hw7]; exact QRow.made w6 qs o.q
  have hb7 : Below w6.heap.size w6 w7 := by rw [hw7]; exact bl.alloc (Nat.le_refl _) _
  have HB7 := Lib.hid hb7
  have HBM7 : Hid (Below w3.heap.size w3 w7) := nx HBM.out hb7
  have HQ7 : Hid (QIn (ltS w5) w7 qs o.q) := HQI.out.below hb7 HQL.out
  have HI7 : Hid (OIn S w7 s o) := HI.out.below HBM7.out HS.out
  have HQE : Hid (RdE encS w7 qs.A o.q.name.length o.q.name) := HQ7.out.n.mono (fun b hb => Nat.lt_of_lt_of_le (HQL.out b hb) HB7.out.size) (fun b hb => Nat.lt_of_lt_of_le (HQL.out b hb) HB7.out.size)
  have HOE : Hid (RdE encS w7 s.q.A o.q.name.length o.q.name) := HI7.out.q.n.mono (fun b hb => Nat.lt_of_lt_of_le (HS.out b hb) HBM7.out.size) (fun b hb => Nat.lt_of_lt_of_le (HS.out b hb) HBM7.out.size)
  unfold qCells at hw7
  rw [← hw7]
  clear hw7 hb7 x0 x1 x2 x3 x4 x5 c0 c1 c2 c3 c4 c5 c6 c7 c8 c9 c10 c11 c12 c13 e0 e1 e2 ti
  clear HBM
  obtain ⟨g0, g1, g2⟩ := HQR.out.cells
  obtain ⟨x0, x1, x2, x3, x4, x5⟩ := (HR.out.below HBM7.out).cells
  have ty : (o.q.type != o.q.type) = false := by simp
  have tc : (o.q.cls != o.q.cls) = false := by simp
  go_upto_region 9 with (first
    | (go_at_call 55; refine (nequal_any qs.A s.q.A o.q.name.length qs.c o.q.name.length s.q.c o.q.name o.q.name w7 HQE.out HOE.out HQM.out HQM.out).mono ?_; rw [decide_eq_true rfl]; rintro e w8 ⟨v8, rfl, rfl, hb8⟩; have HB8 := Lib.hid hb8; have HBM : Hid (Below w3.heap.size w3 w8) := nx HBM7.out hb8; obtain ⟨g0, g1, g2⟩ := (HQR.out.below hb8).cells; obtain ⟨x0, x1, x2, x3, x4, x5⟩ := (HR.out.below HBM.out).cells)
    | fail)
  have c0 : w8.cell? ⟨w5.heap.size, 0, none⟩ = some (.int .i64 o.id) := (MRow.cell (HR6.out.below (nx HB7.out HB8.out)) 0).trans (by rw [← HID.out]; rfl)
  have c1 : w8.cell? ⟨w5.heap.size, 1, none⟩ = some (.bool true) := (MRow.cell (HR6.out.below (nx HB7.out HB8.out)) 1).trans (by rw [← HR0.out]; rfl)
  have c2 : w8.cell? ⟨w5.heap.size, 2, none⟩ = some (.int .i64 0) := (MRow.cell (HR6.out.below (nx HB7.out HB8.out)) 2).trans (by rw [← HOP.out]; rfl)
  have c3 : w8.cell? ⟨w5.heap.size, 3, none⟩ = some (.bool m.aa) := (MRow.cell (HR6.out.below (nx HB7.out HB8.out)) 3).trans rfl
  have c4 : w8.cell? ⟨w5.heap.size, 4, none⟩ = some (.bool false) := (MRow.cell (HR6.out.below (nx HB7.out HB8.out)) 4).trans (by rw [← HTC.out]; rfl)
  have c5 : w8.cell? ⟨w5.heap.size, 5, none⟩ = some (.bool m.rd) := (MRow.cell (HR6.out.below (nx HB7.out HB8.out)) 5).trans rfl
  have c6 : w8.cell? ⟨w5.heap.size, 6, none⟩ = some (.bool m.ra) := (MRow.cell (HR6.out.below (nx HB7.out HB8.out)) 6).trans rfl
  have c7 : w8.cell? ⟨w5.heap.size, 7, none⟩ = some (.int .i64 m.rcode) := (MRow.cell (HR6.out.below (nx HB7.out HB8.out)) 7).trans rfl
  have c8 : w8.cell? ⟨w5.heap.size, 8, none⟩ = some (.slice s5.Q 1 s5.qc) := (MRow.cell (HR6.out.below (nx HB7.out HB8.out)) 8).trans (by rw [← HEQS.out.2]; rfl)
  have c9 : w8.cell? ⟨w5.heap.size, 9, none⟩ = some (.slice s5.A m.an.length s5.ac) := (MRow.cell (HR6.out.below (nx HB7.out HB8.out)) 9).trans rfl
  have c10 : w8.cell? ⟨w5.heap.size, 10, none⟩ = some (.slice s5.U m.au.length s5.uc) := (MRow.cell (HR6.out.below (nx HB7.out HB8.out)) 10).trans rfl
  have c11 : w8.cell? ⟨w5.heap.size, 11, none⟩ = some (.slice s5.X m.ex.length s5.xc) := (MRow.cell (HR6.out.below (nx HB7.out HB8.out)) 11).trans rfl
  have c12 : w8.cell? ⟨w5.heap.size, 12, none⟩ = some (.bool m.edns) := (MRow.cell (HR6.out.below (nx HB7.out HB8.out)) 12).trans rfl
  have c13 : w8.cell? ⟨w5.heap.size, 13, none⟩ = some (.int .i64 m.size) := (MRow.cell (HR6.out.below (nx HB7.out HB8.out)) 13).trans rfl
  have hMz := HM.out.below HBM.out
  have m0 : w8.cell? ⟨w.heap.size + 2, 0, none⟩ = some (.int .i64 0) := (MRow.cell hMz 0).trans rfl
  have m1 : w8.cell? ⟨w.heap.size + 2, 1, none⟩ = some (.bool false) := (MRow.cell hMz 1).trans rfl
  have m2 : w8.cell? ⟨w.heap.size + 2, 2, none⟩ = some (.int .i64 0) := (MRow.cell hMz 2).trans rfl
  have m3 : w8.cell? ⟨w.heap.size + 2, 3, none⟩ = some (.bool false) := (MRow.cell hMz 3).trans rfl
  have m4 : w8.cell? ⟨w.heap.size + 2, 4, none⟩ = some (.bool false) := (MRow.cell hMz 4).trans rfl
  have m5 : w8.cell? ⟨w.heap.size + 2, 5, none⟩ = some (.bool false) := (MRow.cell hMz 5).trans rfl
  have m6 : w8.cell? ⟨w.heap.size + 2, 6, none⟩ = some (.bool false) := (MRow.cell hMz 6).trans rfl
  have m7 : w8.cell? ⟨w.heap.size + 2, 7, none⟩ = some (.int .i64 0) := (MRow.cell hMz 7).trans rfl
  have m8 : w8.cell? ⟨w.heap.size + 2, 8, none⟩ = some (.slice none 0 0) := (MRow.cell hMz 8).trans rfl
  have m9 : w8.cell? ⟨w.heap.size + 2, 9, none⟩ = some (.slice none 0 0) := (MRow.cell hMz 9).trans rfl
  have m10 : w8.cell? ⟨w.heap.size + 2, 10, none⟩ = some (.slice none 0 0) := (MRow.cell hMz 10).trans rfl
  have m11 : w8.cell? ⟨w.heap.size + 2, 11, none⟩ = some (.slice none 0 0) := (MRow.cell hMz 11).trans rfl
  have m12 : w8.cell? ⟨w.heap.size + 2, 12, none⟩ = some (.bool false) := (MRow.cell hMz 12).trans rfl
  have m13 : w8.cell? ⟨w.heap.size + 2, 13, none⟩ = some (.int .i64 0) := (MRow.cell hMz 13).trans rfl
  have f0 := MRow.free hMz 0
  have f1 := MRow.free hMz 1
  have f2 := MRow.free hMz 2
  have f3 := MRow.free hMz 3
  have f4 := MRow.free hMz 4
  have f5 := MRow.free hMz 5
  have f6 := MRow.free hMz 6
  have f7 := MRow.free hMz 7
  have f8 := MRow.free hMz 8
  have f9 := MRow.free hMz 9
  have f10 := MRow.free hMz 10
  have f11 := MRow.free hMz 11
  have f12 := MRow.free hMz 12
  have f13 := MRow.free hMz 13
  go_wp2
  obtain ⟨ym, hym⟩ : ∃ y, y = put14 w8 (w.heap.size + 2) (.int .i64 o.id) (.bool true) (.int .i64 0) (.bool m.aa) (.bool false) (.bool m.rd) (.bool m.ra) (.int .i64 m.rcode) (.slice s5.Q 1 s5.qc) (.slice s5.A m.an.length s5.ac) (.slice s5.U m.au.length s5.uc) (.slice s5.X m.ex.length s5.xc) (.bool m.edns) (.int .i64 m.size) := ⟨_, rfl⟩
  have hRm : ym.heap[w.heap.size + 2]? = some (.cells #[.int .i64 o.id, .bool true, .int .i64 0, .bool m.aa, .bool false, .bool m.rd, .bool m.ra, .int .i64 m.rcode, .slice s5.Q 1 s5.qc, .slice s5.A m.an.length s5.ac, .slice s5.U m.au.length s5.uc, .slice s5.X m.ex.length s5.xc, .bool m.edns, .int .i64 m.size] 31 (0, 0)) := by rw [hym]; exact set14 hMz (.int .i64 o.id) (.bool true) (.int .i64 0) (.bool m.aa) (.bool false) (.bool m.rd) (.bool m.ra) (.int .i64 m.rcode) (.slice s5.Q 1 s5.qc) (.slice s5.A m.an.length s5.ac) (.slice s5.U m.au.length s5.uc) (.slice s5.X m.ex.length s5.xc) (.bool m.edns) (.int .i64 m.size)
  have hcm : Chg (fun k => k = w.heap.size + 2) w8 ym := by rw [hym]; exact chg14 _ _ _ _ _ _ _ _ _ _ _ _ _ _ _ _
  unfold put14 at hym
  rw [← hym]
  clear hym
  have u0 : ym.cell? ⟨w.heap.size + 2, 0, none⟩ = some (.int .i64 o.id) := (cell_of_row _ _ _ _ _ _ hRm).trans rfl
  have u1 : ym.cell? ⟨w.heap.size + 2, 1, none⟩ = some (.bool true) := (cell_of_row _ _ _ _ _ _ hRm).trans rfl
  have u2 : ym.cell? ⟨w.heap.size + 2, 2, none⟩ = some (.int .i64 0) := (cell_of_row _ _ _ _ _ _ hRm).trans rfl
  have u3 : ym.cell? ⟨w.heap.size + 2, 3, none⟩ = some (.bool m.aa) := (cell_of_row _ _ _ _ _ _ hRm).trans rfl
  have u4 : ym.cell? ⟨w.heap.size + 2, 4, none⟩ = some (.bool false) := (cell_of_row _ _ _ _ _ _ hRm).trans rfl
  have u5 : ym.cell? ⟨w.heap.size + 2, 5, none⟩ = some (.bool m.rd) := (cell_of_row _ _ _ _ _ _ hRm).trans rfl
  have u6 : ym.cell? ⟨w.heap.size + 2, 6, none⟩ = some (.bool m.ra) := (cell_of_row _ _ _ _ _ _ hRm).trans rfl
  have u7 : ym.cell? ⟨w.heap.size + 2, 7, none⟩ = some (.int .i64 m.rcode) := (cell_of_row _ _ _ _ _ _ hRm).trans rfl
  have u8 : ym.cell? ⟨w.heap.size + 2, 8, none⟩ = some (.slice s5.Q 1 s5.qc) := (cell_of_row _ _ _ _ _ _ hRm).trans rfl
  have u9 : ym.cell? ⟨w.heap.size + 2, 9, none⟩ = some (.slice s5.A m.an.length s5.ac) := (cell_of_row _ _ _ _ _ _ hRm).trans rfl
  have u10 : ym.cell? ⟨w.heap.size + 2, 10, none⟩ = some (.slice s5.U m.au.length s5.uc) := (cell_of_row _ _ _ _ _ _ hRm).trans rfl
  have u11 : ym.cell? ⟨w.heap.size + 2, 11, none⟩ = some (.slice s5.X m.ex.length s5.xc) := (cell_of_row _ _ _ _ _ _ hRm).trans rfl
  have u12 : ym.cell? ⟨w.heap.size + 2, 12, none⟩ = some (.bool m.edns) := (cell_of_row _ _ _ _ _ _ hRm).trans rfl
  have u13 : ym.cell? ⟨w.heap.size + 2, 13, none⟩ = some (.int .i64 m.size) := (cell_of_row _ _ _ _ _ _ hRm).trans rfl
  have hbz : Below w.heap.size w ym := by
    have h1 : Below w.heap.size w w8 := nx HBW.out HBM.out
    exact h1.trans (hcm.below (fun x hx => by omega) h1.size)

  refine bodyPost_ret (v := .tuple #[.agg #[.int .i64 o.id, .bool true, .int .i64 0, .bool m.aa, .bool false, .bool m.rd, .bool m.ra, .int .i64 m.rcode, .slice s5.Q 1 s5.qc, .slice s5.A m.an.length s5.ac, .slice s5.U m.au.length s5.uc, .slice s5.X m.ex.length s5.xc, .bool m.edns, .int .i64 m.size], .bool true]) ?_ rfl ⟨_, rfl, ⟨s5, by unfold msV mCells; rw [HID.out, HR0.out, HOP.out, HTC.out, HEQS.out.2]⟩, hbz⟩
  simp [results, Try.results16, go_sem, u0, u1, u2, u3, u4, u5, u6, u7, u8, u9, u10, u11, u12, u13]

end Go.Proofs.Ytimkdpkhdbiniaa
