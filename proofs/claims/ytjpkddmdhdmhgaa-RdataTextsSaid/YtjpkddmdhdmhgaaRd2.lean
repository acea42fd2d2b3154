/- rdata: Get of an address; law04's answers. -/
import Derived.Test.YtjpkddmdhdmhgaaRd1
import Derived.Test.YtjpkddmdhdmhgaaLawT
import Derived.Laws.Pointers
namespace Go.Proofs.Ytjpkddmdhdmhgaa
open Go.RowKit
set_option maxRecDepth 100000

theorem getCatch_idle (a b : Value) (w : World) : CallsD Try.prog 86 #[a, b] .returning w fun e u' w' => e = .returned (.tuple #[]) ∧ u' = .returning ∧ w' = w := by
  refine callsD_of_wpS Try.func86 rfl fun c₀ cs hu => ?_
  apply wpS_seq
  apply wpS_region
  simp [wpOpsS, go_sem, recoverD, hu, Try.ntmps86, Exit.thenS]
  apply wpS_seq
  apply wpS_region
  simp [wpOpsS, go_sem, Exit.thenS]
  refine wpS_cond (t := false) (by simp [Act.eval, Array.replicate]) ?_
  simp only [Bool.false_eq_true, if_false]
  refine wpS_of_wp (wp_skip ?_)
  cases c₀
  simp_all [bodyPostS, results, Try.results86]

set_option maxHeartbeats 1000000 in
theorem getA_any (w : World) (b off c : Nat) (bs : List UInt8) (hr : RdB w (some ⟨b, off, none⟩) 4 bs) (hbl : b < w.heap.size) (hn : 4 ≤ c) (hc : c ≤ 9223372036854775807) :
    Calls Try.prog 60 #[.slice (some ⟨b, off, none⟩) 4 c, .int .i64 0, .int .i64 4, .int .i64 1] w (RetP (fun v w' => ∃ A c', v = .tuple #[.agg #[.slice A 4 c', .slice none 0 0, .slice none 0 0, .slice none 0 0, .slice none 0 0], .int .i64 0] ∧ RdB w' A 4 bs) w) := by
  have hmf : ∀ (fn : Fn) (first cap : Array Value) (w : World), (Instr.makeFunc fn first cap).run Try.prog w = .ok (.func fn first cap) w := fun _ _ _ _ => rfl
  obtain ⟨w1, hw1⟩ : ∃ w1, w1 = ((w.alloc (.cells #[.slice none 0 0, .slice none 0 0, .slice none 0 0, .slice none 0 0, .slice none 0 0] 102)).alloc (.cells #[.int .i64 0] 28)).alloc (.cells #[.slice (some ⟨b, off, none⟩) 4 c, .int .i64 0, .int .i64 4] 136) := ⟨_, rfl⟩
  have hz1 : (w.alloc (.cells #[.slice none 0 0, .slice none 0 0, .slice none 0 0, .slice none 0 0, .slice none 0 0] 102)).heap.size = w.heap.size + 1 := by simp
  have hz2 : ((w.alloc (.cells #[.slice none 0 0, .slice none 0 0, .slice none 0 0, .slice none 0 0, .slice none 0 0] 102)).alloc (.cells #[.int .i64 0] 28)).heap.size = w.heap.size + 2 := by simp
  have hb1 : Below w.heap.size w w1 := by rw [hw1]; exact nx (nx (bl.alloc (Nat.le_refl _) _) (bl.alloc (Nat.le_refl _) _)) (bl.alloc (Nat.le_refl _) _)
  have HD1 : Hid (w1.heap[w.heap.size]? = some (.cells #[.slice none 0 0, .slice none 0 0, .slice none 0 0, .slice none 0 0, .slice none 0 0] 102 (0, 0))) := by
    show _ = _
    rw [hw1]
    exact (heap_alloc_old _ _ (by rw [hz2]; omega)).trans ((heap_alloc_old _ _ (by rw [hz1]; omega)).trans (heap_alloc_new w _))
  have HE1 : Hid (w1.heap[w.heap.size + 1]? = some (.cells #[.int .i64 0] 28 (0, 0))) := by
    show _ = _
    rw [hw1]
    refine (heap_alloc_old _ _ (by rw [hz2]; omega)).trans ?_
    rw [← hz1]
    exact heap_alloc_new _ _
  have HP1 : Hid (Rdr w1 (w.heap.size + 2) (.slice (some ⟨b, off, none⟩) 4 c) ((0 : Nat) : Int) ((4 : Nat) : Int)) := by
    show Rdr _ _ _ _ _
    unfold Rdr
    rw [hw1, ← hz2]
    exact heap_alloc_new _ _
  have HR := Lib.hid (hr.below hb1)
  have hlt3 : w.heap.size + 2 < w1.heap.size := (Array.getElem?_eq_some_iff.1 HP1.out).1
  clear hr hz1 hz2
  go_enter_defers Try.func60, Try.ntmps60
  go_upto_region 7 with (fail)
  rw [← hw1]
  clear hw1
  go_wp2_with (first
    | (go_at_call 87; refine (rdataA_any w2 (w.heap.size + 2) b off c bs (HP1.out.below hb2) (HR.out.below hb2) (by omega) hn hc).mono ?_; rintro e w3 ⟨A3, c3, rfl, hr3, hc3, hA3⟩; have HD3 := Lib.hid (hc3.heap ((hb2.block _ (by omega)).trans HD1.out) (by omega)); have HE3 := Lib.hid (hc3.heap ((hb2.block _ (by omega)).trans HE1.out) (by omega)); have x0 : w3.cell? ⟨w.heap.size, 0, none⟩ = some (.slice none 0 0) := (cell_of_row _ _ _ _ _ _ HD3.out).trans rfl; have x1 : w3.cell? ⟨w.heap.size, 1, none⟩ = some (.slice none 0 0) := (cell_of_row _ _ _ _ _ _ HD3.out).trans rfl; have x2 : w3.cell? ⟨w.heap.size, 2, none⟩ = some (.slice none 0 0) := (cell_of_row _ _ _ _ _ _ HD3.out).trans rfl; have x3 : w3.cell? ⟨w.heap.size, 3, none⟩ = some (.slice none 0 0) := (cell_of_row _ _ _ _ _ _ HD3.out).trans rfl; have x4 : w3.cell? ⟨w.heap.size, 4, none⟩ = some (.slice none 0 0) := (cell_of_row _ _ _ _ _ _ HD3.out).trans rfl; have x5 : w3.cell? ⟨w.heap.size + 1, 0, none⟩ = some (.int .i64 0) := (cell_of_row _ _ _ _ _ _ HE3.out).trans rfl; have f3 : ∀ k, w3.frozen? ⟨w.heap.size, k, none⟩ = false := fun k => frozen_of_row _ _ _ _ _ HD3.out; have f4 : ∀ k, w3.frozen? ⟨w.heap.size + 1, k, none⟩ = false := fun k => frozen_of_row _ _ _ _ _ HE3.out)
    | (go_at_call 88; refine (shapesA_any w1).mono ?_; rintro e w2 ⟨v2, rfl, rfl, hb2⟩)
    | fail)
  obtain ⟨w5, hw5⟩ : ∃ w5, w5 = (((((w3.setCell ⟨w.heap.size, 0, none⟩ (.slice A3 4 c3)).setCell ⟨w.heap.size, 1, none⟩ (.slice none 0 0)).setCell ⟨w.heap.size, 2, none⟩ (.slice none 0 0)).setCell ⟨w.heap.size, 3, none⟩ (.slice none 0 0)).setCell ⟨w.heap.size, 4, none⟩ (.slice none 0 0)).setCell ⟨w.heap.size + 1, 0, none⟩ (.int .i64 0) := ⟨_, rfl⟩
  have hd5 : w5.heap[w.heap.size]? = some (.cells #[.slice A3 4 c3, .slice none 0 0, .slice none 0 0, .slice none 0 0, .slice none 0 0] 102 (0, 0)) := by
    rw [hw5]
    exact (heap_setCell_other _ ⟨w.heap.size + 1, 0, none⟩ _ _ (Nat.ne_of_lt (Nat.lt_succ_self _))).trans ((heap_setCell_same _ _ _ _ _ _ (heap_setCell_same _ _ _ _ _ _ (heap_setCell_same _ _ _ _ _ _ (heap_setCell_same _ _ _ _ _ _ (heap_setCell_same _ _ _ _ _ _ HD3.out))))).trans rfl)
  have hc5 : Chg (fun k => k = w.heap.size ∨ k = w.heap.size + 1) w3 w5 := by
    rw [hw5]
    have h1 : ∀ {u : World} (j : Nat) (v : Value), Chg (fun k => k = w.heap.size ∨ k = w.heap.size + 1) w3 u → Chg (fun k => k = w.heap.size ∨ k = w.heap.size + 1) w3 (u.setCell ⟨w.heap.size, j, none⟩ v) := fun j v h => h.setCell (p := ⟨w.heap.size, j, none⟩) (Or.inl (.inl rfl)) v
    exact (h1 _ _ (h1 _ _ (h1 _ _ (h1 _ _ (h1 _ _ (Chg.refl _ w3)))))).setCell (p := ⟨w.heap.size + 1, 0, none⟩) (Or.inl (.inr rfl)) _
  have he5 : w5.cell? ⟨w.heap.size + 1, 0, none⟩ = some (.int .i64 0) := by
    rw [hw5]
    have h1 : ∀ {u : World} (j : Nat) (v : Value), u.heap[w.heap.size + 1]? = some (.cells #[.int .i64 0] 28 (0, 0)) → (u.setCell ⟨w.heap.size, j, none⟩ v).heap[w.heap.size + 1]? = some (.cells #[.int .i64 0] 28 (0, 0)) := fun j v h => (heap_setCell_other _ ⟨w.heap.size, j, none⟩ _ v (Nat.ne_of_gt (Nat.lt_succ_self _))).trans h
    have h2 := heap_setCell_same _ _ 0 _ _ (.int .i64 0) (h1 4 (.slice none 0 0) (h1 3 (.slice none 0 0) (h1 2 (.slice none 0 0) (h1 1 (.slice none 0 0) (h1 0 (.slice A3 4 c3) HE3.out)))))
    exact (cell_of_row _ _ _ _ _ _ h2).trans rfl
  rw [← hw5]
  clear hw5 x0 x1 x2 x3 x4 x5 f3 f4
  have hx : ∀ j : Nat, w5.cell? ⟨w.heap.size, j, none⟩ = (#[.slice A3 4 c3, .slice none 0 0, .slice none 0 0, .slice none 0 0, .slice none 0 0] : Array Value)[j]? := fun j => cell_of_row _ _ _ _ _ _ hd5
  have x0 : w5.cell? ⟨w.heap.size, 0, none⟩ = some (.slice A3 4 c3) := hx 0
  have x1 : w5.cell? ⟨w.heap.size, 1, none⟩ = some (.slice none 0 0) := hx 1
  have x2 : w5.cell? ⟨w.heap.size, 2, none⟩ = some (.slice none 0 0) := hx 2
  have x3 : w5.cell? ⟨w.heap.size, 3, none⟩ = some (.slice none 0 0) := hx 3
  have x4 : w5.cell? ⟨w.heap.size, 4, none⟩ = some (.slice none 0 0) := hx 4
  have hr5 := hr3.chg hc5 (fun b' off' e => fun e2 => by have h1 := hA3 b' off' e; have := hb2.size; omega)
  have hbA : Below w.heap.size w w5 := by
    have h1 : Chg (fun k => k = w.heap.size + 2) w1 w3 := (Chg.of_below (F := fun k => k = w.heap.size + 2) hb2).trans hc3 (fun _ h => .inl h)
    have h2 : Chg (fun k => k = w.heap.size ∨ k = w.heap.size + 1 ∨ k = w.heap.size + 2) w1 w5 := (h1.mono (G := fun k => k = w.heap.size ∨ k = w.heap.size + 1 ∨ k = w.heap.size + 2) (fun _ h => .inl (.inr (.inr h)))).trans hc5 (fun _ h => .inl (h.elim .inl (fun h => .inr (.inl h))))
    exact hb1.trans (h2.below (fun x hx => by omega) hb1.size)
  refine leaves_cons (f := 86) (args := #[.pointer (some ⟨w.heap.size, 0, none⟩), .pointer (some ⟨w.heap.size + 1, 0, none⟩)]) (by simp) (by simp [go_sem]) ?_
  refine (getCatch_idle _ _ _).mono ?_
  rintro e u' w'' ⟨rfl, rfl, rfl⟩
  simp [Leaves, settle, results, Try.results60, go_sem, x0, x1, x2, x3, x4, he5]
  exact ⟨_, rfl, ⟨A3, ⟨c3, rfl⟩, hr5⟩, hbA⟩

set_option maxHeartbeats 1000000 in
theorem answers04_any (w : World) : Calls Try.prog 55 #[] w (LawT w) := by
  obtain ⟨w1, hw1⟩ : ∃ w1, w1 = w.alloc (.cells #[.int .u8 1, .int .u8 2, .int .u8 3, .int .u8 4] 5) := ⟨_, rfl⟩
  have hb1 : Below w.heap.size w w1 := by rw [hw1]; exact bl.alloc (Nat.le_refl _) _
  have hr1 : RdB w1 (some ⟨w.heap.size, 0, none⟩) 4 [1, 2, 3, 4] := by rw [hw1]; exact lit_rd w [1, 2, 3, 4] (by decide)
  have hlt : w.heap.size < w1.heap.size := by rw [hw1]; simp
  go_enter Try.func55, Try.ntmps55
  go_wp2_with fail
  rw [← hw1]
  clear hw1
  refine (getA_any w1 w.heap.size 0 4 [1, 2, 3, 4] hr1 hlt (by omega) (by omega)).mono ?_
  rintro e w2 ⟨v2, rfl, ⟨A, c', rfl, hr2⟩, hb2⟩
  obtain ⟨w3, hw3⟩ : ∃ w3, w3 = w2.alloc (.cells #[.slice A 4 c', .slice none 0 0, .slice none 0 0, .slice none 0 0, .slice none 0 0] 102) := ⟨_, rfl⟩
  have hb3 : Below w2.heap.size w2 w3 := by rw [hw3]; exact bl.alloc (Nat.le_refl _) _
  have y0 : w3.cell? ⟨w2.heap.size, 0, none⟩ = some (.slice A 4 c') := by rw [hw3]; exact new_cell _ _ _ 0
  obtain ⟨b, off, x, rfl, hx, hc⟩ := (hr2.below hb3).at_ (k := 3) (by omega)
  have hx4 : x = 4 := by injection hx with hx; exact hx.symm
  subst hx4
  have hc' : w3.cell? ⟨b, off + 3, none⟩ = some (.int .u8 4) := hc
  have hbA := nx (nx hb1 hb2) hb3
  clear hx hc hr2 hr1
  go_upto_region 2 with (fail)
  rw [← hw3]
  clear hw3
  go_wp2
  go_ret
  exact ⟨rfl, hbA⟩
end Go.Proofs.Ytjpkddmdhdmhgaa
