/- rdata: Get of texts that may not be. -/
import Derived.Test.YtjpkddmdhdmhgaaRd6
namespace Go.Proofs.Ytjpkddmdhdmhgaa
open Go.RowKit
set_option maxRecDepth 100000

set_option maxHeartbeats 1000000 in
theorem getT_fail (w : World) (A : Option Addr) (n c : Nat) (f : Int) (hn : n ≤ 1000000) (ht : ∀ wz : World, Below w.heap.size w wz → Rdr wz (w.heap.size + 2) (.slice A n c) (0 : Nat) n → Calls Try.prog 100 #[.pointer (some ⟨w.heap.size + 2, 0, none⟩)] wz (fun e w' => e = .panicked [{ v := .iface 28 (.int .i64 f), recovered := false }] ∧ Chg (fun k => k = w.heap.size + 2) wz w')) :
    Calls Try.prog 60 #[.slice A n c, .int .i64 0, .int .i64 (n : Int), .int .i64 16] w (RetP (fun v _ => v = .tuple #[.agg #[.slice none 0 0, .slice none 0 0, .slice none 0 0, .slice none 0 0, .slice none 0 0], .int .i64 f]) w) := by
  have HT := Lib.hid ht
  clear ht
  have hmf : ∀ (fn : Fn) (first cap : Array Value) (w : World), (Instr.makeFunc fn first cap).run Try.prog w = .ok (.func fn first cap) w := fun _ _ _ _ => rfl
  obtain ⟨w1, hw1⟩ : ∃ w1, w1 = ((w.alloc (.cells #[.slice none 0 0, .slice none 0 0, .slice none 0 0, .slice none 0 0, .slice none 0 0] 102)).alloc (.cells #[.int .i64 0] 28)).alloc (.cells #[.slice A n c, .int .i64 0, .int .i64 (n : Int)] 136) := ⟨_, rfl⟩
  have hz1 : (w.alloc (.cells #[.slice none 0 0, .slice none 0 0, .slice none 0 0, .slice none 0 0, .slice none 0 0] 102)).heap.size = w.heap.size + 1 := by simp
  have hz2 : ((w.alloc (.cells #[.slice none 0 0, .slice none 0 0, .slice none 0 0, .slice none 0 0, .slice none 0 0] 102)).alloc (.cells #[.int .i64 0] 28)).heap.size = w.heap.size + 2 := by simp
  have hb1 : Below w.heap.size w w1 := by rw [hw1]; exact nx (nx (bl.alloc (Nat.le_refl _) _) (bl.alloc (Nat.le_refl _) _)) (bl.alloc (Nat.le_refl _) _)
  have HD1 : Hid (w1.heap[w.heap.size]? = some (.cells #[.slice none 0 0, .slice none 0 0, .slice none 0 0, .slice none 0 0, .slice none 0 0] 102 (0, 0))) := by
    show _ = _
    rw [hw1]
    exact (heap_alloc_old _ _ (by rw [hz2]; omega)).trans ((heap_alloc_old _ _ (by rw [hz1]; omega)).trans (heap_alloc_new w _))
  have HE1 : Hid (w1.heap[w.heap.size + 1]? = some (.cells #[.int .i64 0] 28 (0, 0))) := by
    show _ = _
    rw [hw1]
    refine (heap_alloc_old _ _ (by rw [hz2]; omega)).trans ?_
    rw [← hz1]
    exact heap_alloc_new _ _
  have HP1 : Hid (Rdr w1 (w.heap.size + 2) (.slice A n c) ((0 : Nat) : Int) (n : Int)) := by
    show Rdr _ _ _ _ _
    unfold Rdr
    rw [hw1, ← hz2]
    exact heap_alloc_new _ _
  have hlt3 : w.heap.size + 2 < w1.heap.size := (Array.getElem?_eq_some_iff.1 HP1.out).1
  clear hz1 hz2
  go_enter_defers Try.func60, Try.ntmps60
  go_upto_region 7 with (fail)
  rw [← hw1]
  clear hw1
  go_wp2_with (first
    | (go_at_call 87; refine (rdataT_panic w2 (w.heap.size + 2) [{ v := .iface 28 (.int .i64 f), recovered := false }] (fun wz hbz => HT.out wz ((nx hb1 hb2).trans (hbz.mono (nx hb1 hb2).size)) ((HP1.out.below hb2).below hbz))).mono ?_; rintro e w3 ⟨rfl, hc3⟩; have HD3 := Lib.hid (hc3.heap ((hb2.block _ (by omega)).trans HD1.out) (by omega)); have HE3 := Lib.hid (hc3.heap ((hb2.block _ (by omega)).trans HE1.out) (by omega)))
    | (go_at_call 88; refine (shapesT_any w1).mono ?_; rintro e w2 ⟨v2, rfl, rfl, hb2⟩)
    | fail)
  refine leaves_cons (f := 86) (args := #[.pointer (some ⟨w.heap.size, 0, none⟩), .pointer (some ⟨w.heap.size + 1, 0, none⟩)]) (by simp) (by simp [go_sem]) ?_
  refine (getCatch_panic w.heap.size (w.heap.size + 1) f 0 _ _ _ _ _ [] w3 HD3.out HE3.out (by omega)).mono ?_
  rintro e u' w5 ⟨rfl, rfl, hd5, he5', hc5⟩
  have he5 : w5.cell? ⟨w.heap.size + 1, 0, none⟩ = some (.int .i64 f) := (cell_of_row _ _ _ _ _ _ he5').trans rfl
  have hx : ∀ j : Nat, w5.cell? ⟨w.heap.size, j, none⟩ = (#[.slice none 0 0, .slice none 0 0, .slice none 0 0, .slice none 0 0, .slice none 0 0] : Array Value)[j]? := fun j => cell_of_row _ _ _ _ _ _ hd5
  have x0 : w5.cell? ⟨w.heap.size, 0, none⟩ = some (.slice none 0 0) := hx 0
  have x1 : w5.cell? ⟨w.heap.size, 1, none⟩ = some (.slice none 0 0) := hx 1
  have x2 : w5.cell? ⟨w.heap.size, 2, none⟩ = some (.slice none 0 0) := hx 2
  have x3 : w5.cell? ⟨w.heap.size, 3, none⟩ = some (.slice none 0 0) := hx 3
  have x4 : w5.cell? ⟨w.heap.size, 4, none⟩ = some (.slice none 0 0) := hx 4
  have hbA : Below w.heap.size w w5 := by
    have h1 : Chg (fun k => k = w.heap.size + 2) w1 w3 := (Chg.of_below (F := fun k => k = w.heap.size + 2) hb2).trans hc3 (fun _ h => .inl h)
    have h2 : Chg (fun k => k = w.heap.size ∨ k = w.heap.size + 1 ∨ k = w.heap.size + 2) w1 w5 := (h1.mono (G := fun k => k = w.heap.size ∨ k = w.heap.size + 1 ∨ k = w.heap.size + 2) (fun _ h => .inl (.inr (.inr h)))).trans hc5 (fun _ h => .inl (h.elim .inl (fun h => .inr (.inl h))))
    exact hb1.trans (h2.below (fun x hx => by omega) hb1.size)
  simp [Leaves, settle, results, Try.results60, go_sem, x0, x1, x2, x3, x4, he5]
  exact ⟨_, rfl, rfl, hbA⟩

theorem getT_large (w : World) (b off n c : Nat) (hr : RdB w (some ⟨b, off, none⟩) n (List.replicate n 0)) (hbl : b < w.heap.size) (hn1 : 64 < n) (hn : n ≤ c) (hc : c ≤ 9223372036854775807) (hn2 : n ≤ 1000000) :
    Calls Try.prog 60 #[.slice (some ⟨b, off, none⟩) n c, .int .i64 0, .int .i64 (n : Int), .int .i64 16] w (RetP (fun v _ => v = .tuple #[.agg #[.slice none 0 0, .slice none 0 0, .slice none 0 0, .slice none 0 0, .slice none 0 0], .int .i64 4]) w) :=
  getT_fail w (some ⟨b, off, none⟩) n c 4 hn2 fun wz hb h => rdtexts_large wz (w.heap.size + 2) b off n c h (hr.below hb) (by omega) hn hc hn1 hn2
theorem getT_none (w : World) :
    Calls Try.prog 60 #[.slice none 0 0, .int .i64 0, .int .i64 0, .int .i64 16] w (RetP (fun v _ => v = .tuple #[.agg #[.slice none 0 0, .slice none 0 0, .slice none 0 0, .slice none 0 0, .slice none 0 0], .int .i64 2]) w) :=
  getT_fail w none 0 0 2 (by omega) fun wz _ h => rdtexts_none wz (w.heap.size + 2) h
end Go.Proofs.Ytjpkddmdhdmhgaa
