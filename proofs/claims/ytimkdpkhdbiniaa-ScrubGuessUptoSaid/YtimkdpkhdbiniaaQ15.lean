/- Parts of a proof, joined: MDec. -/
import Derived.Test.YtimkdpkhdbiniaaQ14
/- msg.Decode, whatever the bytes. -/
namespace Go.Proofs.Ytimkdpkhdbiniaa
open Go.RowKit
set_option maxRecDepth 100000
set_option linter.unusedVariables false

set_option maxHeartbeats 400000 in
theorem decCatch_idle (a b : Value) (w : World) : CallsD Try.prog 95 #[a, b] .returning w fun e u' w' => e = .returned (.tuple #[]) ∧ u' = .returning ∧ w' = w := by
  refine callsD_of_wpS Try.func95 rfl fun c₀ cs hu => ?_
  apply wpS_seq
  apply wpS_region
  simp [wpOpsS, go_sem, recoverD, hu, Try.ntmps95, Exit.thenS]
  apply wpS_seq
  apply wpS_region
  simp [wpOpsS, go_sem, Exit.thenS]
  refine wpS_cond (t := false) (by simp [Act.eval, Array.replicate]) ?_
  simp only [Bool.false_eq_true, if_false]
  refine wpS_of_wp (wp_skip ?_)
  cases c₀
  simp_all [bodyPostS, results, Try.results95]

set_option maxHeartbeats 1000000 in
theorem decCatch_panic (D E : Nat) (f z : Int) (s : MS) (m : Ms) (older : List PanicEntry) (w : World) (hD : MRow w D s m) (hE : w.heap[E]? = some (.cells #[.int .i64 z] 34 (0, 0))) (hne : D ≠ E) :
    CallsD Try.prog 95 #[.pointer (some ⟨D, 0, none⟩), .pointer (some ⟨E, 0, none⟩)] (.panicking ({ v := .iface 34 (.int .i64 f), recovered := false } :: older)) w fun e u' w' =>
      e = .returned (.tuple #[]) ∧ u' = .panicking ({ v := .iface 34 (.int .i64 f), recovered := true } :: older) ∧ MRow w' D MS.nil Ms.zero ∧ w'.heap[E]? = some (.cells #[.int .i64 f] 34 (0, 0)) ∧ Chg (fun k => k = D ∨ k = E) w w' := by
  obtain ⟨x0, x1, x2, x3, x4, x5, x6, x7, x8, x9, x10, x11, x12, x13⟩ := hD.cells
  have f10 := MRow.free hD 0
  have f11 := MRow.free hD 1
  have f12 := MRow.free hD 2
  have f13 := MRow.free hD 3
  have f14 := MRow.free hD 4
  have f15 := MRow.free hD 5
  have f16 := MRow.free hD 6
  have f17 := MRow.free hD 7
  have f18 := MRow.free hD 8
  have f19 := MRow.free hD 9
  have f110 := MRow.free hD 10
  have f111 := MRow.free hD 11
  have f112 := MRow.free hD 12
  have f113 := MRow.free hD 13
  have xe : w.cell? ⟨E, 0, none⟩ = some (.int .i64 z) := (cell_of_row _ _ _ _ _ _ hE).trans rfl
  have f2 : ∀ k, w.frozen? ⟨E, k, none⟩ = false := fun k => frozen_of_row _ _ _ _ _ hE
  have hta : ∀ (xT : TypeId) (v : Value) (W : World), (Instr.typeAssert (.iface 34 v) xT 34 true).run Try.prog W = .ok (.tuple #[v, .bool true]) W := fun xT v W => by kernel_rfl
  refine callsD_of_wpS Try.func95 rfl fun c₀ cs hu => ?_
  apply wpS_seq
  apply wpS_region
  simp [wpOpsS, go_sem, recoverD, hu, Try.ntmps95, Exit.thenS]
  apply wpS_seq
  apply wpS_region
  simp [wpOpsS, go_sem, Exit.thenS]
  refine wpS_cond (t := true) (by simp [Act.eval, Array.replicate]) ?_
  simp only [if_true]
  refine wpS_of_wp ?_
  change Code.wp _ _ _ { tmps := #[.pointer (some ⟨D, 0, none⟩), .pointer (some ⟨E, 0, none⟩), .iface 34 (.int .i64 f), undef, undef, .iface 34 (.int .i64 f), .iface 34 (.int .i64 f), .bool true, undef, undef, undef, undef, undef, undef, undef, undef, undef, undef], defers := [] } w
  go_wp2
  obtain ⟨w4, hw4⟩ : ∃ u, u = put14 w D (.int .i64 0) (.bool false) (.int .i64 0) (.bool false) (.bool false) (.bool false) (.bool false) (.int .i64 0) (.slice none 0 0) (.slice none 0 0) (.slice none 0 0) (.slice none 0 0) (.bool false) (.int .i64 0) := ⟨_, rfl⟩
  have hr4 : MRow w4 D MS.nil Ms.zero := by rw [hw4]; exact MRow.fill hD MS.nil Ms.zero
  have hc4 : Chg (fun k => k = D) w w4 := by rw [hw4]; exact chg14 _ _ _ _ _ _ _ _ _ _ _ _ _ _ _ _
  unfold put14 at hw4
  rw [← hw4]
  clear hw4
  have hE4 := hc4.heap hE (fun e => hne e.symm)
  obtain ⟨w5, hw5⟩ : ∃ u, u = w4.setCell ⟨E, 0, none⟩ (.int .i64 f) := ⟨_, rfl⟩
  have hc5 : Chg (fun k => k = E) w4 w5 := by rw [hw5]; exact chg_g1 _ _ _ _
  have hr5 : MRow w5 D MS.nil Ms.zero := hc5.heap hr4 hne
  have he5 : w5.heap[E]? = some (.cells #[.int .i64 f] 34 (0, 0)) := by rw [hw5]; exact (heap_setCell_same _ _ _ _ _ _ hE4).trans rfl
  have hc : Chg (fun k => k = D ∨ k = E) w w5 := (hc4.mono (G := fun k => k = D ∨ k = E) (fun _ h => .inl (.inl h))).trans hc5 (fun _ h => .inl (.inr h))
  rw [← hw5]
  clear hw5
  simp [bodyPostS, results, Try.results95]
  exact ⟨hr5, he5, hc⟩

/-- What msg.Decode hands back. -/
def goodV (bs : List UInt8) (w : World) (v : Value) (w' : World) : Prop := ∃ s, v = .tuple #[msV s (decV bs).1, .int .i64 (decV bs).2] ∧ MIn (geS w.heap.size w') w' s (decV bs).1
theorem MIn.zero (S : Nat → Prop) (w : World) : MIn S w MS.nil Ms.zero :=
  have k : i64S 0 := ⟨by omega, by omega⟩
  have l : (0 : Nat) ≤ 0 ∧ 0 ≤ maxLen := ⟨Nat.le_refl _, Nat.zero_le _⟩
  ⟨Els.nil _ _ _ _ _, Els.nil _ _ _ _ _, Els.nil _ _ _ _ _, Els.nil _ _ _ _ _, l, l, l, l, k, k, k, k⟩
/-- The result's two boxes, and the reader, as Decode lays them. -/
structure DecSt (w wr : World) (bv : Value) : Prop where
  D : MRow wr w.heap.size MS.nil Ms.zero
  E : wr.heap[w.heap.size + 1]? = some (.cells #[.int .i64 0] 34 (0, 0))
  P : MRd wr (w.heap.size + 2) bv 0
  bw : Below w.heap.size w wr
theorem DecSt.made (w : World) (bv : Value) : DecSt w (((w.alloc (.cells (mCells MS.nil Ms.zero) 31)).alloc (.cells #[.int .i64 0] 34)).alloc (.cells #[bv, .int .i64 0] 134)) bv := by
  have hz1 : (w.alloc (.cells (mCells MS.nil Ms.zero) 31)).heap.size = w.heap.size + 1 := by simp
  have hz2 : ((w.alloc (.cells (mCells MS.nil Ms.zero) 31)).alloc (.cells #[.int .i64 0] 34)).heap.size = w.heap.size + 2 := by simp
  refine ⟨(heap_alloc_old _ _ (by rw [hz2]; omega)).trans ((heap_alloc_old _ _ (by rw [hz1]; omega)).trans (heap_alloc_new w _)), ?_, ?_, nx (nx (bl.alloc (Nat.le_refl _) _) (bl.alloc (Nat.le_refl _) _)) (bl.alloc (Nat.le_refl _) _)⟩
  · refine (heap_alloc_old _ _ (by rw [hz2]; omega)).trans ?_
    rw [← hz1]
    exact heap_alloc_new _ _
  · unfold MRd
    rw [← hz2]
    exact heap_alloc_new _ _

set_option maxHeartbeats 4000000 in
theorem decode_short (w : World) (A : Option Addr) (n c : Nat) (bs : List UInt8) (hl : bs.length = n) (hn2 : n ≤ 100000000) (hb : 65535 < n ∨ n < 12) :
    Calls Try.prog 54 #[.slice A n c] w (RetP (goodV bs w) w) := by
  by_cases h1 : 65535 < n
  · have HE := Lib.hid (decV_err (b := bs) (e := 4) (by unfold decP; rw [if_pos (by omega)]))
    have hq1 : (65535 : Int) < (n : Int) := by omega
    clear hb h1
    go_enter_defers Try.func54, Try.ntmps54
    go_wp2
    obtain ⟨w1, hw1⟩ : ∃ w1, w1 = (w.alloc (.cells #[.int .i64 0, .bool false, .int .i64 0, .bool false, .bool false, .bool false, .bool false, .int .i64 0, .slice none 0 0, .slice none 0 0, .slice none 0 0, .slice none 0 0, .bool false, .int .i64 0] 31)).alloc (.cells #[.int .i64 4] 34) := ⟨_, rfl⟩
    have hD : MRow w1 w.heap.size MS.nil Ms.zero := by
      rw [hw1]
      exact (heap_alloc_old _ _ (by simp)).trans (heap_alloc_new w _)
    have hE : w1.heap[w.heap.size + 1]? = some (.cells #[.int .i64 4] 34 (0, 0)) := by
      rw [hw1, show w.heap.size + 1 = (w.alloc (.cells #[.int .i64 0, .bool false, .int .i64 0, .bool false, .bool false, .bool false, .bool false, .int .i64 0, .slice none 0 0, .slice none 0 0, .slice none 0 0, .slice none 0 0, .bool false, .int .i64 0] 31)).heap.size by simp]
      exact heap_alloc_new _ _
    have hb1 : Below w.heap.size w w1 := by rw [hw1]; exact nx (bl.alloc (Nat.le_refl _) _) (bl.alloc (Nat.le_refl _) _)
    rw [← hw1]
    have x0 : w1.cell? ⟨w.heap.size, 0, none⟩ = some (.int .i64 0) := (MRow.cell hD 0).trans rfl
    have x1 : w1.cell? ⟨w.heap.size, 1, none⟩ = some (.bool false) := (MRow.cell hD 1).trans rfl
    have x2 : w1.cell? ⟨w.heap.size, 2, none⟩ = some (.int .i64 0) := (MRow.cell hD 2).trans rfl
    have x3 : w1.cell? ⟨w.heap.size, 3, none⟩ = some (.bool false) := (MRow.cell hD 3).trans rfl
    have x4 : w1.cell? ⟨w.heap.size, 4, none⟩ = some (.bool false) := (MRow.cell hD 4).trans rfl
    have x5 : w1.cell? ⟨w.heap.size, 5, none⟩ = some (.bool false) := (MRow.cell hD 5).trans rfl
    have x6 : w1.cell? ⟨w.heap.size, 6, none⟩ = some (.bool false) := (MRow.cell hD 6).trans rfl
    have x7 : w1.cell? ⟨w.heap.size, 7, none⟩ = some (.int .i64 0) := (MRow.cell hD 7).trans rfl
    have x8 : w1.cell? ⟨w.heap.size, 8, none⟩ = some (.slice none 0 0) := (MRow.cell hD 8).trans rfl
    have x9 : w1.cell? ⟨w.heap.size, 9, none⟩ = some (.slice none 0 0) := (MRow.cell hD 9).trans rfl
    have x10 : w1.cell? ⟨w.heap.size, 10, none⟩ = some (.slice none 0 0) := (MRow.cell hD 10).trans rfl
    have x11 : w1.cell? ⟨w.heap.size, 11, none⟩ = some (.slice none 0 0) := (MRow.cell hD 11).trans rfl
    have x12 : w1.cell? ⟨w.heap.size, 12, none⟩ = some (.bool false) := (MRow.cell hD 12).trans rfl
    have x13 : w1.cell? ⟨w.heap.size, 13, none⟩ = some (.int .i64 0) := (MRow.cell hD 13).trans rfl
    have he : w1.cell? ⟨w.heap.size + 1, 0, none⟩ = some (.int .i64 4) := (cell_of_row _ _ _ _ _ _ hE).trans rfl
    simp [bodyPostD, Leaves, results, Try.results54, go_sem, x0, x1, x2, x3, x4, x5, x6, x7, x8, x9, x10, x11, x12, x13, he]
    refine ⟨_, rfl, ?_, hb1⟩
    unfold goodV
    rw [HE.out]
    exact ⟨MS.nil, rfl, MIn.zero _ _⟩
  · have HE := Lib.hid (decV_err (b := bs) (e := 3) (by unfold decP; rw [if_neg (by omega), if_pos (by omega)]))
    have hq1 : ¬ (65535 : Int) < (n : Int) := by omega
    have hq2 : (n : Int) < 12 := by omega
    clear hb h1
    go_enter_defers Try.func54, Try.ntmps54
    go_wp2
    obtain ⟨w1, hw1⟩ : ∃ w1, w1 = (w.alloc (.cells #[.int .i64 0, .bool false, .int .i64 0, .bool false, .bool false, .bool false, .bool false, .int .i64 0, .slice none 0 0, .slice none 0 0, .slice none 0 0, .slice none 0 0, .bool false, .int .i64 0] 31)).alloc (.cells #[.int .i64 3] 34) := ⟨_, rfl⟩
    have hD : MRow w1 w.heap.size MS.nil Ms.zero := by
      rw [hw1]
      exact (heap_alloc_old _ _ (by simp)).trans (heap_alloc_new w _)
    have hE : w1.heap[w.heap.size + 1]? = some (.cells #[.int .i64 3] 34 (0, 0)) := by
      rw [hw1, show w.heap.size + 1 = (w.alloc (.cells #[.int .i64 0, .bool false, .int .i64 0, .bool false, .bool false, .bool false, .bool false, .int .i64 0, .slice none 0 0, .slice none 0 0, .slice none 0 0, .slice none 0 0, .bool false, .int .i64 0] 31)).heap.size by simp]
      exact heap_alloc_new _ _
    have hb1 : Below w.heap.size w w1 := by rw [hw1]; exact nx (bl.alloc (Nat.le_refl _) _) (bl.alloc (Nat.le_refl _) _)
    rw [← hw1]
    have x0 : w1.cell? ⟨w.heap.size, 0, none⟩ = some (.int .i64 0) := (MRow.cell hD 0).trans rfl
    have x1 : w1.cell? ⟨w.heap.size, 1, none⟩ = some (.bool false) := (MRow.cell hD 1).trans rfl
    have x2 : w1.cell? ⟨w.heap.size, 2, none⟩ = some (.int .i64 0) := (MRow.cell hD 2).trans rfl
    have x3 : w1.cell? ⟨w.heap.size, 3, none⟩ = some (.bool false) := (MRow.cell hD 3).trans rfl
    have x4 : w1.cell? ⟨w.heap.size, 4, none⟩ = some (.bool false) := (MRow.cell hD 4).trans rfl
    have x5 : w1.cell? ⟨w.heap.size, 5, none⟩ = some (.bool false) := (MRow.cell hD 5).trans rfl
    have x6 : w1.cell? ⟨w.heap.size, 6, none⟩ = some (.bool false) := (MRow.cell hD 6).trans rfl
    have x7 : w1.cell? ⟨w.heap.size, 7, none⟩ = some (.int .i64 0) := (MRow.cell hD 7).trans rfl
    have x8 : w1.cell? ⟨w.heap.size, 8, none⟩ = some (.slice none 0 0) := (MRow.cell hD 8).trans rfl
    have x9 : w1.cell? ⟨w.heap.size, 9, none⟩ = some (.slice none 0 0) := (MRow.cell hD 9).trans rfl
    have x10 : w1.cell? ⟨w.heap.size, 10, none⟩ = some (.slice none 0 0) := (MRow.cell hD 10).trans rfl
    have x11 : w1.cell? ⟨w.heap.size, 11, none⟩ = some (.slice none 0 0) := (MRow.cell hD 11).trans rfl
    have x12 : w1.cell? ⟨w.heap.size, 12, none⟩ = some (.bool false) := (MRow.cell hD 12).trans rfl
    have x13 : w1.cell? ⟨w.heap.size, 13, none⟩ = some (.int .i64 0) := (MRow.cell hD 13).trans rfl
    have he : w1.cell? ⟨w.heap.size + 1, 0, none⟩ = some (.int .i64 3) := (cell_of_row _ _ _ _ _ _ hE).trans rfl
    simp [bodyPostD, Leaves, results, Try.results54, go_sem, x0, x1, x2, x3, x4, x5, x6, x7, x8, x9, x10, x11, x12, x13, he]
    refine ⟨_, rfl, ?_, hb1⟩
    unfold goodV
    rw [HE.out]
    exact ⟨MS.nil, rfl, MIn.zero _ _⟩

set_option maxHeartbeats 8000000 in
theorem decode_any (w : World) (A : Option Addr) (n c : Nat) (bs : List UInt8) (hr : RdB w A n bs) (hbl : ∀ b off, A = some ⟨b, off, none⟩ → b < w.heap.size) (hn : n ≤ c) (hc : c ≤ 9223372036854775807) (hn2 : n ≤ 100000000) :
    Calls Try.prog 54 #[.slice A n c] w (RetP (goodV bs w) w) := by
  have hl := hr.len
  by_cases hsh : 65535 < n ∨ n < 12
  · exact decode_short w A n c bs hl hn2 hsh
  have hmf : ∀ (fn : Fn) (first cap : Array Value) (w : World), (Instr.makeFunc fn first cap).run Try.prog w = .ok (.func fn first cap) w := fun _ _ _ _ => rfl
  have hq1 : ¬ (65535 : Int) < (n : Int) := by omega
  have hq2 : ¬ (n : Int) < 12 := by omega
  have hn65 : n ≤ 65535 := by omega
  have hn12 : 12 ≤ n := by omega
  obtain ⟨w1, hw1⟩ : ∃ w1, w1 = ((w.alloc (.cells #[.int .i64 0, .bool false, .int .i64 0, .bool false, .bool false, .bool false, .bool false, .int .i64 0, .slice none 0 0, .slice none 0 0, .slice none 0 0, .slice none 0 0, .bool false, .int .i64 0] 31)).alloc (.cells #[.int .i64 0] 34)).alloc (.cells #[.slice A n c, .int .i64 0] 134) := ⟨_, rfl⟩
  have ST1 : Hid (DecSt w w1 (.slice A n c)) := by show DecSt _ _ _; rw [hw1]; exact DecSt.made w _
  have HR := Lib.hid (hr.below ST1.out.bw)
  have HO : Hid (offA A (w.heap.size + 2)) := fun b off e => by have := hbl b off e; omega
  have HBL : Hid (∀ b off, A = some ⟨b, off, none⟩ → b < w1.heap.size) := fun b off e => Nat.lt_of_lt_of_le (hbl b off e) ST1.out.bw.size
  have hz1 : w.heap.size + 3 ≤ w1.heap.size := by have := ST1.out.P.lt; omega
  have HZ1 := Lib.hid hz1
  have HN65 := Lib.hid hn65
  have HN12 := Lib.hid hn12
  clear hr hbl hsh hz1 hn65 hn12
  go_enter_defers Try.func54, Try.ntmps54
  go_upto_region 7 with (fail)
  rw [← hw1]
  clear hw1 hq1 hq2
  cases hx : decP bs with
  | error x =>
    have HX := Lib.hid hx
    have HE := Lib.hid (decV_err hx)
    clear hx
    go_wp2_with (first
      | (go_at_call 96; refine (mmessage_any w1 (w.heap.size + 2) A n c bs ST1.out.P HR.out HO.out HBL.out hn hc HN65.out HN12.out).mono ?_; rw [HX.out]; rintro e w3 ⟨rfl, hc3⟩; have HD3 : Hid (MRow w3 w.heap.size MS.nil Ms.zero) := hc3.heap ST1.out.D (by omega); have HE3 := Lib.hid (hc3.heap ST1.out.E (by omega)))
      | fail)
    refine leaves_cons (f := 95) (args := #[.pointer (some ⟨w.heap.size, 0, none⟩), .pointer (some ⟨w.heap.size + 1, 0, none⟩)]) (by simp) (by simp [go_sem]) ?_
    refine (decCatch_panic w.heap.size (w.heap.size + 1) x 0 _ _ [] w3 HD3.out HE3.out (by omega)).mono ?_
    rintro e u' w5 ⟨rfl, rfl, hd5, he5', hc5⟩
    have he5 : w5.cell? ⟨w.heap.size + 1, 0, none⟩ = some (.int .i64 x) := (cell_of_row _ _ _ _ _ _ he5').trans rfl
    have x0 : w5.cell? ⟨w.heap.size, 0, none⟩ = some (.int .i64 0) := (MRow.cell hd5 0).trans rfl
    have x1 : w5.cell? ⟨w.heap.size, 1, none⟩ = some (.bool false) := (MRow.cell hd5 1).trans rfl
    have x2 : w5.cell? ⟨w.heap.size, 2, none⟩ = some (.int .i64 0) := (MRow.cell hd5 2).trans rfl
    have x3 : w5.cell? ⟨w.heap.size, 3, none⟩ = some (.bool false) := (MRow.cell hd5 3).trans rfl
    have x4 : w5.cell? ⟨w.heap.size, 4, none⟩ = some (.bool false) := (MRow.cell hd5 4).trans rfl
    have x5 : w5.cell? ⟨w.heap.size, 5, none⟩ = some (.bool false) := (MRow.cell hd5 5).trans rfl
    have x6 : w5.cell? ⟨w.heap.size, 6, none⟩ = some (.bool false) := (MRow.cell hd5 6).trans rfl
    have x7 : w5.cell? ⟨w.heap.size, 7, none⟩ = some (.int .i64 0) := (MRow.cell hd5 7).trans rfl
    have x8 : w5.cell? ⟨w.heap.size, 8, none⟩ = some (.slice none 0 0) := (MRow.cell hd5 8).trans rfl
    have x9 : w5.cell? ⟨w.heap.size, 9, none⟩ = some (.slice none 0 0) := (MRow.cell hd5 9).trans rfl
    have x10 : w5.cell? ⟨w.heap.size, 10, none⟩ = some (.slice none 0 0) := (MRow.cell hd5 10).trans rfl
    have x11 : w5.cell? ⟨w.heap.size, 11, none⟩ = some (.slice none 0 0) := (MRow.cell hd5 11).trans rfl
    have x12 : w5.cell? ⟨w.heap.size, 12, none⟩ = some (.bool false) := (MRow.cell hd5 12).trans rfl
    have x13 : w5.cell? ⟨w.heap.size, 13, none⟩ = some (.int .i64 0) := (MRow.cell hd5 13).trans rfl
    have hbA : Below w.heap.size w w5 := by
      have h2 : Chg (fun k => k = w.heap.size ∨ k = w.heap.size + 1 ∨ k = w.heap.size + 2) w1 w5 := (hc3.mono (G := fun k => k = w.heap.size ∨ k = w.heap.size + 1 ∨ k = w.heap.size + 2) (fun _ h => .inl (.inr (.inr h)))).trans hc5 (fun _ h => .inl (h.elim .inl (fun h => .inr (.inl h))))
      exact ST1.out.bw.trans (h2.below (fun x hx => by omega) ST1.out.bw.size)
    simp [Leaves, settle, results, Try.results54, go_sem, x0, x1, x2, x3, x4, x5, x6, x7, x8, x9, x10, x11, x12, x13, he5]
    refine ⟨_, rfl, ?_, hbA⟩
    unfold goodV
    rw [HE.out]
    exact ⟨MS.nil, rfl, MIn.zero _ _⟩
  | ok m =>
    have HX := Lib.hid hx
    have HE := Lib.hid (decV_ok hx)
    clear hx
    go_wp2_with (first
      | (go_at_call 96; refine (mmessage_any w1 (w.heap.size + 2) A n c bs ST1.out.P HR.out HO.out HBL.out hn hc HN65.out HN12.out).mono ?_; rw [HX.out]; rintro e w3 ⟨s, rfl, hmi3, hc3⟩; unfold msV mCells; have HMI3 := Lib.hid hmi3; have HC3 := Lib.hid hc3; have HD3 : Hid (MRow w3 w.heap.size MS.nil Ms.zero) := hc3.heap ST1.out.D (by omega); have HE3 := Lib.hid (hc3.heap ST1.out.E (by omega)); clear hmi3 hc3; obtain ⟨x0, x1, x2, x3, x4, x5, x6, x7, x8, x9, x10, x11, x12, x13⟩ := HD3.out.cells; have f10 := MRow.free HD3.out 0; have f11 := MRow.free HD3.out 1; have f12 := MRow.free HD3.out 2; have f13 := MRow.free HD3.out 3; have f14 := MRow.free HD3.out 4; have f15 := MRow.free HD3.out 5; have f16 := MRow.free HD3.out 6; have f17 := MRow.free HD3.out 7; have f18 := MRow.free HD3.out 8; have f19 := MRow.free HD3.out 9; have f110 := MRow.free HD3.out 10; have f111 := MRow.free HD3.out 11; have f112 := MRow.free HD3.out 12; have f113 := MRow.free HD3.out 13; have xe : w3.cell? ⟨w.heap.size + 1, 0, none⟩ = some (.int .i64 0) := (cell_of_row _ _ _ _ _ _ HE3.out).trans rfl; have f2 : ∀ k, w3.frozen? ⟨w.heap.size + 1, k, none⟩ = false := fun k => frozen_of_row _ _ _ _ _ HE3.out)
      | fail)
    obtain ⟨w4, hw4⟩ : ∃ u, u = put14 w3 w.heap.size (.int .i64 m.id) (.bool m.resp) (.int .i64 m.op) (.bool m.aa) (.bool m.tc) (.bool m.rd) (.bool m.ra) (.int .i64 m.rcode) (.slice s.Q m.qs.length s.qc) (.slice s.A m.an.length s.ac) (.slice s.U m.au.length s.uc) (.slice s.X m.ex.length s.xc) (.bool m.edns) (.int .i64 m.size) := ⟨_, rfl⟩
    have hr4 : MRow w4 w.heap.size s m := by rw [hw4]; exact MRow.fill HD3.out s m
    have hc4 : Chg (fun k => k = w.heap.size) w3 w4 := by rw [hw4]; exact chg14 _ _ _ _ _ _ _ _ _ _ _ _ _ _ _ _
    unfold put14 at hw4
    rw [← hw4]
    clear hw4 x0 f10 x1 f11 x2 f12 x3 f13 x4 f14 x5 f15 x6 f16 x7 f17 x8 f18 x9 f19 x10 f110 x11 f111 x12 f112 x13 f113 xe f2
    have hE4 := hc4.heap HE3.out (by omega)
    obtain ⟨w5, hw5⟩ : ∃ u, u = w4.setCell ⟨w.heap.size + 1, 0, none⟩ (.int .i64 0) := ⟨_, rfl⟩
    have hc5 : Chg (fun k => k = w.heap.size + 1) w4 w5 := by rw [hw5]; exact chg_g1 _ _ _ _
    have hr5 : MRow w5 w.heap.size s m := hc5.heap hr4 (by omega)
    have he5' : w5.heap[w.heap.size + 1]? = some (.cells #[.int .i64 0] 34 (0, 0)) := by rw [hw5]; exact (heap_setCell_same _ _ _ _ _ _ hE4).trans rfl
    rw [← hw5]
    clear hw5
    have he5 : w5.cell? ⟨w.heap.size + 1, 0, none⟩ = some (.int .i64 0) := (cell_of_row _ _ _ _ _ _ he5').trans rfl
    obtain ⟨x0, x1, x2, x3, x4, x5, x6, x7, x8, x9, x10, x11, x12, x13⟩ := hr5.cells
    have hcA : Chg (fun k => k = w.heap.size ∨ k = w.heap.size + 1) w3 w5 := (hc4.mono (G := fun k => k = w.heap.size ∨ k = w.heap.size + 1) (fun _ h => .inl (.inl h))).trans hc5 (fun _ h => .inl (.inr h))
    have hmi : MIn (geS w.heap.size w5) w5 s m := MIn.mono (fun b hb => ⟨by have h1 := hb.1; have h2 := HZ1.out; omega, Nat.lt_of_lt_of_le hb.2 hcA.size⟩) (HMI3.out.chg hcA (fun b hb => ⟨hb.2, fun h => by have h1 := hb.1; have h2 := HZ1.out; omega⟩))
    have hbA : Below w.heap.size w w5 := by
      have h2 : Chg (fun k => k = w.heap.size ∨ k = w.heap.size + 1 ∨ k = w.heap.size + 2) w1 w5 := (HC3.out.mono (G := fun k => k = w.heap.size ∨ k = w.heap.size + 1 ∨ k = w.heap.size + 2) (fun _ h => .inl (.inr (.inr h)))).trans hcA (fun _ h => .inl (h.elim .inl (fun h => .inr (.inl h))))
      exact ST1.out.bw.trans (h2.below (fun x hx => by omega) ST1.out.bw.size)
    refine leaves_cons (f := 95) (args := #[.pointer (some ⟨w.heap.size, 0, none⟩), .pointer (some ⟨w.heap.size + 1, 0, none⟩)]) (by simp) (by simp [go_sem]) ?_
    refine (decCatch_idle _ _ _).mono ?_
    rintro e u' w'' ⟨rfl, rfl, rfl⟩
    simp [Leaves, settle, results, Try.results54, go_sem, x0, x1, x2, x3, x4, x5, x6, x7, x8, x9, x10, x11, x12, x13, he5]
    refine ⟨_, rfl, ?_, hbA⟩
    unfold goodV
    rw [HE.out]
    exact ⟨s, rfl, hmi⟩
end Go.Proofs.Ytimkdpkhdbiniaa
