/- rdata: Get of texts. -/
import Derived.Test.YtjpkddmdhdmhgaaRd5
namespace Go.Proofs.Ytjpkddmdhdmhgaa
open Go.RowKit
set_option maxRecDepth 100000

set_option maxHeartbeats 400000 in
theorem getCatch_panic (D E : Nat) (f z : Int) (v0 v1 v2 v3 v4 : Value) (older : List PanicEntry) (w : World) (hD : w.heap[D]? = some (.cells #[v0, v1, v2, v3, v4] 102 (0, 0))) (hE : w.heap[E]? = some (.cells #[.int .i64 z] 28 (0, 0))) (hne : D ≠ E) :
    CallsD Try.prog 86 #[.pointer (some ⟨D, 0, none⟩), .pointer (some ⟨E, 0, none⟩)] (.panicking ({ v := .iface 28 (.int .i64 f), recovered := false } :: older)) w fun e u' w' =>
      e = .returned (.tuple #[]) ∧ u' = .panicking ({ v := .iface 28 (.int .i64 f), recovered := true } :: older) ∧ w'.heap[D]? = some (.cells #[.slice none 0 0, .slice none 0 0, .slice none 0 0, .slice none 0 0, .slice none 0 0] 102 (0, 0)) ∧ w'.heap[E]? = some (.cells #[.int .i64 f] 28 (0, 0)) ∧ Chg (fun k => k = D ∨ k = E) w w' := by
  have x0 : w.cell? ⟨D, 0, none⟩ = some v0 := (cell_of_row _ _ _ _ _ _ hD).trans rfl
  have x1 : w.cell? ⟨D, 1, none⟩ = some v1 := (cell_of_row _ _ _ _ _ _ hD).trans rfl
  have x2 : w.cell? ⟨D, 2, none⟩ = some v2 := (cell_of_row _ _ _ _ _ _ hD).trans rfl
  have x3 : w.cell? ⟨D, 3, none⟩ = some v3 := (cell_of_row _ _ _ _ _ _ hD).trans rfl
  have x4 : w.cell? ⟨D, 4, none⟩ = some v4 := (cell_of_row _ _ _ _ _ _ hD).trans rfl
  have x5 : w.cell? ⟨E, 0, none⟩ = some (.int .i64 z) := (cell_of_row _ _ _ _ _ _ hE).trans rfl
  have f1 : ∀ k, w.frozen? ⟨D, k, none⟩ = false := fun k => frozen_of_row _ _ _ _ _ hD
  have f2 : ∀ k, w.frozen? ⟨E, k, none⟩ = false := fun k => frozen_of_row _ _ _ _ _ hE
  have hta : ∀ (xT : TypeId) (v : Value) (W : World), (Instr.typeAssert (.iface 28 v) xT 28 true).run Try.prog W = .ok (.tuple #[v, .bool true]) W := fun xT v W => by kernel_rfl
  refine callsD_of_wpS Try.func86 rfl fun c₀ cs hu => ?_
  apply wpS_seq
  apply wpS_region
  simp [wpOpsS, go_sem, recoverD, hu, Try.ntmps86, Exit.thenS]
  apply wpS_seq
  apply wpS_region
  simp [wpOpsS, go_sem, Exit.thenS]
  refine wpS_cond (t := true) (by simp [Act.eval, Array.replicate]) ?_
  simp only [if_true]
  refine wpS_of_wp ?_
  change Code.wp _ _ _ { tmps := #[.pointer (some ⟨D, 0, none⟩), .pointer (some ⟨E, 0, none⟩), .iface 28 (.int .i64 f), undef, undef, .iface 28 (.int .i64 f), .iface 28 (.int .i64 f), .bool true, undef, undef, undef, undef, undef, undef, undef, undef, undef, undef], defers := [] } w
  go_wp2
  obtain ⟨w5, hw5⟩ : ∃ w5, w5 = (((((w.setCell ⟨D, 0, none⟩ (.slice none 0 0)).setCell ⟨D, 1, none⟩ (.slice none 0 0)).setCell ⟨D, 2, none⟩ (.slice none 0 0)).setCell ⟨D, 3, none⟩ (.slice none 0 0)).setCell ⟨D, 4, none⟩ (.slice none 0 0)).setCell ⟨E, 0, none⟩ (.int .i64 f) := ⟨_, rfl⟩
  have hd5 : w5.heap[D]? = some (.cells #[.slice none 0 0, .slice none 0 0, .slice none 0 0, .slice none 0 0, .slice none 0 0] 102 (0, 0)) := by
    rw [hw5]
    exact (heap_setCell_other _ ⟨E, 0, none⟩ _ _ hne).trans ((heap_setCell_same _ _ _ _ _ _ (heap_setCell_same _ _ _ _ _ _ (heap_setCell_same _ _ _ _ _ _ (heap_setCell_same _ _ _ _ _ _ (heap_setCell_same _ _ _ _ _ _ hD))))).trans rfl)
  have he5 : w5.heap[E]? = some (.cells #[.int .i64 f] 28 (0, 0)) := by
    rw [hw5]
    have h1 : ∀ {u : World} (j : Nat) (v : Value), u.heap[E]? = some (.cells #[.int .i64 z] 28 (0, 0)) → (u.setCell ⟨D, j, none⟩ v).heap[E]? = some (.cells #[.int .i64 z] 28 (0, 0)) := fun j v h => (heap_setCell_other _ ⟨D, j, none⟩ _ v (Ne.symm hne)).trans h
    exact (heap_setCell_same _ _ 0 _ _ (.int .i64 f) (h1 4 (.slice none 0 0) (h1 3 (.slice none 0 0) (h1 2 (.slice none 0 0) (h1 1 (.slice none 0 0) (h1 0 (.slice none 0 0) hE)))))).trans rfl
  have hc5 : Chg (fun k => k = D ∨ k = E) w w5 := by
    rw [hw5]
    have h1 : ∀ {u : World} (j : Nat) (v : Value), Chg (fun k => k = D ∨ k = E) w u → Chg (fun k => k = D ∨ k = E) w (u.setCell ⟨D, j, none⟩ v) := fun j v h => h.setCell (p := ⟨D, j, none⟩) (Or.inl (.inl rfl)) v
    exact (h1 _ _ (h1 _ _ (h1 _ _ (h1 _ _ (h1 _ _ (Chg.refl _ w)))))).setCell (p := ⟨E, 0, none⟩) (Or.inl (.inr rfl)) _
  rw [← hw5]
  clear hw5
  simp [bodyPostS, results, Try.results86]
  exact ⟨hd5, he5, hc5⟩

set_option maxHeartbeats 1000000 in
theorem getT_any (w : World) (b off n c : Nat) (hr : RdB w (some ⟨b, off, none⟩) n (List.replicate n 0)) (hbl : b < w.heap.size) (hn1 : 1 ≤ n) (hn : n ≤ c) (hc : c ≤ 9223372036854775807) (hn2 : n ≤ 64) :
    Calls Try.prog 60 #[.slice (some ⟨b, off, none⟩) n c, .int .i64 0, .int .i64 (n : Int), .int .i64 16] w (RetP (fun v _ => ∃ A c', v = .tuple #[.agg #[.slice none 0 0, .slice none 0 0, .slice none 0 0, .slice none 0 0, .slice A n c'], .int .i64 0]) w) := by
  have hmf : ∀ (fn : Fn) (first cap : Array Value) (w : World), (Instr.makeFunc fn first cap).run Try.prog w = .ok (.func fn first cap) w := fun _ _ _ _ => rfl
  obtain ⟨w1, hw1⟩ : ∃ w1, w1 = ((w.alloc (.cells #[.slice none 0 0, .slice none 0 0, .slice none 0 0, .slice none 0 0, .slice none 0 0] 102)).alloc (.cells #[.int .i64 0] 28)).alloc (.cells #[.slice (some ⟨b, off, none⟩) n c, .int .i64 0, .int .i64 (n : Int)] 136) := ⟨_, rfl⟩
  have hz1 : (w.alloc (.cells #[.slice none 0 0, .slice none 0 0, .slice none 0 0, .slice none 0 0, .slice none 0 0] 102)).heap.size = w.heap.size + 1 := by simp
  have hz2 : ((w.alloc (.cells #[.slice none 0 0, .slice none 0 0, .slice none 0 0, .slice none 0 0, .slice none 0 0] 102)).alloc (.cells #[.int .i64 0] 28)).heap.size = w.heap.size + 2 := by simp
  have hb1 : Below w.heap.size w w1 := by rw [hw1]; exact nx (nx (bl.alloc (Nat.le_refl _) _) (bl.alloc (Nat.le_refl _) _)) (bl.alloc (Nat.le_refl _) _)
  have HD1 : Hid (w1.heap[w.heap.size]? = some (.cells #[.slice none 0 0, .slice none 0 0, .slice none 0 0, .slice none 0 0, .slice none 0 0] 102 (0, 0))) := by
    show _ = _
    rw [hw1]
    exact (heap_alloc_old _ _ (by rw [hz2]; omega)).trans ((heap_alloc_old _ _ (by rw [hz1]; omega)).trans (heap_alloc_new w _))
  have HE1 : Hid (w1.heap[w.heap.size + 1]? = some (.cells #[.int .i64 0] 28 (0, 0))) := by
    show _ = _
    rw [hw1]
    refine (heap_alloc_old _ _ (by rw [hz2]; omega)).trans ?_
    rw [← hz1]
    exact heap_alloc_new _ _
  have HP1 : Hid (Rdr w1 (w.heap.size + 2) (.slice (some ⟨b, off, none⟩) n c) ((0 : Nat) : Int) (n : Int)) := by
    show Rdr _ _ _ _ _
    unfold Rdr
    rw [hw1, ← hz2]
    exact heap_alloc_new _ _
  have HR := Lib.hid (hr.below hb1)
  have hlt3 : w.heap.size + 2 < w1.heap.size := (Array.getElem?_eq_some_iff.1 HP1.out).1
  clear hr hz1 hz2
  go_enter_defers Try.func60, Try.ntmps60
  go_upto_region 7 with (fail)
  rw [← hw1]
  clear hw1
  go_wp2_with (first
    | (go_at_call 87; refine (rdataT_any w2 (w.heap.size + 2) b off n c (HP1.out.below hb2) (HR.out.below hb2) (by omega) hn1 hn hc hn2).mono ?_; rintro e w3 ⟨A3, c3, rfl, hc3⟩; have HD3 := Lib.hid (hc3.heap ((hb2.block _ (by omega)).trans HD1.out) (by omega)); have HE3 := Lib.hid (hc3.heap ((hb2.block _ (by omega)).trans HE1.out) (by omega)); have x0 : w3.cell? ⟨w.heap.size, 0, none⟩ = some (.slice none 0 0) := (cell_of_row _ _ _ _ _ _ HD3.out).trans rfl; have x1 : w3.cell? ⟨w.heap.size, 1, none⟩ = some (.slice none 0 0) := (cell_of_row _ _ _ _ _ _ HD3.out).trans rfl; have x2 : w3.cell? ⟨w.heap.size, 2, none⟩ = some (.slice none 0 0) := (cell_of_row _ _ _ _ _ _ HD3.out).trans rfl; have x3 : w3.cell? ⟨w.heap.size, 3, none⟩ = some (.slice none 0 0) := (cell_of_row _ _ _ _ _ _ HD3.out).trans rfl; have x4 : w3.cell? ⟨w.heap.size, 4, none⟩ = some (.slice none 0 0) := (cell_of_row _ _ _ _ _ _ HD3.out).trans rfl; have x5 : w3.cell? ⟨w.heap.size + 1, 0, none⟩ = some (.int .i64 0) := (cell_of_row _ _ _ _ _ _ HE3.out).trans rfl; have f3 : ∀ k, w3.frozen? ⟨w.heap.size, k, none⟩ = false := fun k => frozen_of_row _ _ _ _ _ HD3.out; have f4 : ∀ k, w3.frozen? ⟨w.heap.size + 1, k, none⟩ = false := fun k => frozen_of_row _ _ _ _ _ HE3.out)
    | (go_at_call 88; refine (shapesT_any w1).mono ?_; rintro e w2 ⟨v2, rfl, rfl, hb2⟩)
    | fail)
  obtain ⟨w5, hw5⟩ : ∃ w5, w5 = (((((w3.setCell ⟨w.heap.size, 0, none⟩ (.slice none 0 0)).setCell ⟨w.heap.size, 1, none⟩ (.slice none 0 0)).setCell ⟨w.heap.size, 2, none⟩ (.slice none 0 0)).setCell ⟨w.heap.size, 3, none⟩ (.slice none 0 0)).setCell ⟨w.heap.size, 4, none⟩ (.slice A3 n c3)).setCell ⟨w.heap.size + 1, 0, none⟩ (.int .i64 0) := ⟨_, rfl⟩
  have hd5 : w5.heap[w.heap.size]? = some (.cells #[.slice none 0 0, .slice none 0 0, .slice none 0 0, .slice none 0 0, .slice A3 n c3] 102 (0, 0)) := by
    rw [hw5]
    exact (heap_setCell_other _ ⟨w.heap.size + 1, 0, none⟩ _ _ (Nat.ne_of_lt (Nat.lt_succ_self _))).trans ((heap_setCell_same _ _ _ _ _ _ (heap_setCell_same _ _ _ _ _ _ (heap_setCell_same _ _ _ _ _ _ (heap_setCell_same _ _ _ _ _ _ (heap_setCell_same _ _ _ _ _ _ HD3.out))))).trans rfl)
  have hc5 : Chg (fun k => k = w.heap.size ∨ k = w.heap.size + 1) w3 w5 := by
    rw [hw5]
    have h1 : ∀ {u : World} (j : Nat) (v : Value), Chg (fun k => k = w.heap.size ∨ k = w.heap.size + 1) w3 u → Chg (fun k => k = w.heap.size ∨ k = w.heap.size + 1) w3 (u.setCell ⟨w.heap.size, j, none⟩ v) := fun j v h => h.setCell (p := ⟨w.heap.size, j, none⟩) (Or.inl (.inl rfl)) v
    exact (h1 _ _ (h1 _ _ (h1 _ _ (h1 _ _ (h1 _ _ (Chg.refl _ w3)))))).setCell (p := ⟨w.heap.size + 1, 0, none⟩) (Or.inl (.inr rfl)) _
  have he5 : w5.cell? ⟨w.heap.size + 1, 0, none⟩ = some (.int .i64 0) := by
    rw [hw5]
    have h1 : ∀ {u : World} (j : Nat) (v : Value), u.heap[w.heap.size + 1]? = some (.cells #[.int .i64 0] 28 (0, 0)) → (u.setCell ⟨w.heap.size, j, none⟩ v).heap[w.heap.size + 1]? = some (.cells #[.int .i64 0] 28 (0, 0)) := fun j v h => (heap_setCell_other _ ⟨w.heap.size, j, none⟩ _ v (Nat.ne_of_gt (Nat.lt_succ_self _))).trans h
    have h2 := heap_setCell_same _ _ 0 _ _ (.int .i64 0) (h1 4 (.slice A3 n c3) (h1 3 (.slice none 0 0) (h1 2 (.slice none 0 0) (h1 1 (.slice none 0 0) (h1 0 (.slice none 0 0) HE3.out)))))
    exact (cell_of_row _ _ _ _ _ _ h2).trans rfl
  rw [← hw5]
  clear hw5 x0 x1 x2 x3 x4 x5 f3 f4
  have hx : ∀ j : Nat, w5.cell? ⟨w.heap.size, j, none⟩ = (#[.slice none 0 0, .slice none 0 0, .slice none 0 0, .slice none 0 0, .slice A3 n c3] : Array Value)[j]? := fun j => cell_of_row _ _ _ _ _ _ hd5
  have x0 : w5.cell? ⟨w.heap.size, 0, none⟩ = some (.slice none 0 0) := hx 0
  have x1 : w5.cell? ⟨w.heap.size, 1, none⟩ = some (.slice none 0 0) := hx 1
  have x2 : w5.cell? ⟨w.heap.size, 2, none⟩ = some (.slice none 0 0) := hx 2
  have x3 : w5.cell? ⟨w.heap.size, 3, none⟩ = some (.slice none 0 0) := hx 3
  have x4 : w5.cell? ⟨w.heap.size, 4, none⟩ = some (.slice A3 n c3) := hx 4
  have hbA : Below w.heap.size w w5 := by
    have h1 : Chg (fun k => k = w.heap.size + 2) w1 w3 := (Chg.of_below (F := fun k => k = w.heap.size + 2) hb2).trans hc3 (fun _ h => .inl h)
    have h2 : Chg (fun k => k = w.heap.size ∨ k = w.heap.size + 1 ∨ k = w.heap.size + 2) w1 w5 := (h1.mono (G := fun k => k = w.heap.size ∨ k = w.heap.size + 1 ∨ k = w.heap.size + 2) (fun _ h => .inl (.inr (.inr h)))).trans hc5 (fun _ h => .inl (h.elim .inl (fun h => .inr (.inl h))))
    exact hb1.trans (h2.below (fun x hx => by omega) hb1.size)
  refine leaves_cons (f := 86) (args := #[.pointer (some ⟨w.heap.size, 0, none⟩), .pointer (some ⟨w.heap.size + 1, 0, none⟩)]) (by simp) (by simp [go_sem]) ?_
  refine (getCatch_idle _ _ _).mono ?_
  rintro e u' w'' ⟨rfl, rfl, rfl⟩
  simp [Leaves, settle, results, Try.results60, go_sem, x0, x1, x2, x3, x4, he5]
  exact ⟨_, rfl, ⟨A3, c3, rfl⟩, hbA⟩

end Go.Proofs.Ytjpkddmdhdmhgaa
