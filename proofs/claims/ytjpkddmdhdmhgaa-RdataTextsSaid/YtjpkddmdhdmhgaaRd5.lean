/- rdata: what a reader says for texts. -/
import Derived.Test.YtjpkddmdhdmhgaaRd4
namespace Go.Proofs.Ytjpkddmdhdmhgaa
open Go.RowKit
set_option maxRecDepth 100000

set_option maxHeartbeats 1000000 in
theorem rdataT_any (w : World) (p b off n c : Nat) (h : Rdr w p (.slice (some ⟨b, off, none⟩) n c) (0 : Nat) n) (hr : RdB w (some ⟨b, off, none⟩) n (List.replicate n 0)) (hbp : b ≠ p) (hn1 : 1 ≤ n) (hn : n ≤ c) (hc : c ≤ 9223372036854775807) (hn2 : n ≤ 64) :
    Calls Try.prog 87 #[.pointer (some ⟨p, 0, none⟩), shpV shpT] w (fun e w' => ∃ A c', e = .returned (.agg #[.slice none 0 0, .slice none 0 0, .slice none 0 0, .slice none 0 0, .slice A n c']) ∧ Chg (fun k => k = p) w w') := by
  unfold shpV shpT
  have hpl : p < w.heap.size := (Array.getElem?_eq_some_iff.1 h).1
  obtain ⟨w0, hw0⟩ : ∃ w0, w0 = (w.alloc (.cells #[.int .i64 0, .bool false, .bool false, .bool false, .int .i64 0, .int .i64 0, .bool true, .bool false] 139)).alloc (.cells #[.slice none 0 0, .slice none 0 0, .slice none 0 0, .slice none 0 0, .slice none 0 0] 102) := ⟨_, rfl⟩
  have hb0 : Below w.heap.size w w0 := by rw [hw0]; exact nx (bl.alloc (Nat.le_refl _) _) (bl.alloc (Nat.le_refl _) _)
  have H := Lib.hid (h.below hb0)
  have HR := Lib.hid (hr.below hb0)
  go_enter Try.func87, Try.ntmps87
  go_upto_region 1 with (fail)
  rw [← hw0]
  have hsz : (w.alloc (.cells #[.int .i64 0, .bool false, .bool false, .bool false, .int .i64 0, .int .i64 0, .bool true, .bool false] 139)).heap.size = w.heap.size + 1 := by simp
  have hs : w0.heap[w.heap.size]? = some (.cells #[.int .i64 0, .bool false, .bool false, .bool false, .int .i64 0, .int .i64 0, .bool true, .bool false] 139 (0, 0)) := by
    rw [hw0]
    exact (heap_alloc_old _ _ (by rw [hsz]; omega)).trans (heap_alloc_new w _)
  have hd : w0.heap[w.heap.size + 1]? = some (.cells #[.slice none 0 0, .slice none 0 0, .slice none 0 0, .slice none 0 0, .slice none 0 0] 102 (0, 0)) := by
    rw [hw0, ← hsz]
    exact heap_alloc_new _ _
  have hx : ∀ j : Nat, w0.cell? ⟨w.heap.size, j, none⟩ = (#[Value.int .i64 0, .bool false, .bool false, .bool false, .int .i64 0, .int .i64 0, .bool true, .bool false] : Array Value)[j]? := fun j => cell_of_row _ _ _ _ _ _ hs
  have x0 := hx 0
  have x6 := hx 6
  have x7 := hx 7
  have x1 := hx 1
  have x2 := hx 2
  have HS := Lib.hid hs
  have HD := Lib.hid hd
  have hw0l : w.heap.size + 1 < w0.heap.size := (Array.getElem?_eq_some_iff.1 hd).1
  have hpw : w.heap.size ≠ p := by omega
  have hpw2 : w.heap.size + 1 ≠ p := by omega
  clear hw0 hx hs hd hsz h
  go_upto_region 7 with (first
    | (go_at_call 100; refine (rdtexts_any w0 p b off n c H.out HR.out hbp hn1 hn hc hn2).mono ?_; rintro e w1 ⟨v1, rfl, hown1, H1, hc1⟩; have HD1 := Lib.hid (hc1.heap HD.out hpw2); have HS1 := Lib.hid (hc1.heap HS.out hpw); obtain ⟨A1, k1, rfl, _⟩ := OwnE.form hown1; rw [noTexts_len] at hown1 ⊢; have y0 : w1.cell? ⟨w.heap.size + 1, 4, none⟩ = some _ := (cell_of_row _ _ _ _ _ _ HD1.out).trans rfl; have y1 : ∀ k, w1.frozen? ⟨w.heap.size + 1, k, none⟩ = false := fun k => frozen_of_row _ _ _ _ _ HD1.out)
    | fail)
  obtain ⟨w2, hw2⟩ : ∃ w2, w2 = w1.setCell ⟨w.heap.size + 1, 4, none⟩ (.slice A1 n k1) := ⟨_, rfl⟩
  have HD2 : Hid (w2.heap[w.heap.size + 1]? = some (.cells #[.slice none 0 0, .slice none 0 0, .slice none 0 0, .slice none 0 0, .slice A1 n k1] 102 (0, 0))) := by show _ = _; rw [hw2]; exact (heap_setCell_same _ _ _ _ _ _ HD1.out).trans rfl
  have hc2 : Chg (fun k => k = w.heap.size + 1) w1 w2 := by rw [hw2]; exact chg_g1 _ _ _ _
  have HS2 := Lib.hid (hc2.heap HS1.out (by omega))
  have H2 : Hid (Rdr w2 p (.slice (some ⟨b, off, none⟩) n c) (n : Int) (n : Int)) := hc2.heap H1 (by omega)
  rw [← hw2]
  clear hw2 x0 x6 x7 x1 x2 y0 y1 H HR HD HS HD1 HS1 hr H1
  have hx : ∀ j : Nat, w2.cell? ⟨w.heap.size, j, none⟩ = (#[Value.int .i64 0, .bool false, .bool false, .bool false, .int .i64 0, .int .i64 0, .bool true, .bool false] : Array Value)[j]? := fun j => cell_of_row _ _ _ _ _ _ HS2.out
  have x0 : w2.cell? ⟨w.heap.size, 0, none⟩ = some (.int .i64 0) := hx 0
  have x1 : w2.cell? ⟨w.heap.size, 1, none⟩ = some (.bool false) := hx 1
  have x2 : w2.cell? ⟨w.heap.size, 2, none⟩ = some (.bool false) := hx 2
  have x3 : w2.cell? ⟨w.heap.size, 3, none⟩ = some (.bool false) := hx 3
  have x4 : w2.cell? ⟨w.heap.size, 4, none⟩ = some (.int .i64 0) := hx 4
  have x5 : w2.cell? ⟨w.heap.size, 5, none⟩ = some (.int .i64 0) := hx 5
  have x6 : w2.cell? ⟨w.heap.size, 6, none⟩ = some (.bool true) := hx 6
  have x7 : w2.cell? ⟨w.heap.size, 7, none⟩ = some (.bool false) := hx 7
  clear hx
  go_upto_region 15 with (first
    | (go_at_call 101; refine (rnums0_any p shpT rfl w2).mono ?_; rintro e w3 ⟨v3, rfl, rfl, hb3⟩; have HD3 := Lib.hid ((hb3.block _ (Array.getElem?_eq_some_iff.1 HD2.out).1).trans HD2.out); have y3 : w3.cell? ⟨w.heap.size + 1, 3, none⟩ = some _ := (cell_of_row _ _ _ _ _ _ HD3.out).trans rfl; have y1 : ∀ k, w3.frozen? ⟨w.heap.size + 1, k, none⟩ = false := fun k => frozen_of_row _ _ _ _ _ HD3.out)
    | fail)
  obtain ⟨w4, hw4⟩ : ∃ w4, w4 = w3.setCell ⟨w.heap.size + 1, 3, none⟩ (.slice none 0 0) := ⟨_, rfl⟩
  have HD4 : Hid (w4.heap[w.heap.size + 1]? = some (.cells #[.slice none 0 0, .slice none 0 0, .slice none 0 0, .slice none 0 0, .slice A1 n k1] 102 (0, 0))) := by show _ = _; rw [hw4]; exact (heap_setCell_same _ _ _ _ _ _ HD3.out).trans rfl
  have hc4 : Chg (fun k => k = w.heap.size + 1) w3 w4 := by rw [hw4]; exact chg_g1 _ _ _ _
  have hc24 : Chg (fun k => k = w.heap.size + 1) w2 w4 := (Chg.of_below (F := fun k => k = w.heap.size + 1) hb3).trans hc4 (fun _ h => .inl h)
  have H4 : Hid (Rdr w4 p (.slice (some ⟨b, off, none⟩) n c) (n : Int) (n : Int)) := hc24.heap H2.out (by omega)
  rw [← hw4]
  clear hw4 x0 x1 x2 x3 x4 x5 x6 x7 y3 y1
  obtain ⟨_, q1, q2, _⟩ := H4.out.cells
  have hx : ∀ j : Nat, w4.cell? ⟨w.heap.size + 1, j, none⟩ = (#[.slice none 0 0, .slice none 0 0, .slice none 0 0, .slice none 0 0, .slice A1 n k1] : Array Value)[j]? := fun j => cell_of_row _ _ _ _ _ _ HD4.out
  have x0 : w4.cell? ⟨w.heap.size + 1, 0, none⟩ = some (.slice none 0 0) := hx 0
  have x1 : w4.cell? ⟨w.heap.size + 1, 1, none⟩ = some (.slice none 0 0) := hx 1
  have x2 : w4.cell? ⟨w.heap.size + 1, 2, none⟩ = some (.slice none 0 0) := hx 2
  have x3 : w4.cell? ⟨w.heap.size + 1, 3, none⟩ = some (.slice none 0 0) := hx 3
  have x4 : w4.cell? ⟨w.heap.size + 1, 4, none⟩ = some (.slice A1 n k1) := hx 4
  have f4 : ∀ k, w4.frozen? ⟨w.heap.size + 1, k, none⟩ = false := fun k => frozen_of_row _ _ _ _ _ HD4.out
  clear hx
  go_quiet (fail)
  go_wp2
  obtain ⟨w5, hw5⟩ : ∃ w5, w5 = ((((((w4.drewN nq).setCell ⟨w.heap.size + 1, 0, none⟩ (.slice none 0 0)).setCell ⟨w.heap.size + 1, 1, none⟩ (.slice none 0 0)).setCell ⟨w.heap.size + 1, 2, none⟩ (.slice none 0 0)).setCell ⟨w.heap.size + 1, 3, none⟩ (.slice none 0 0)).setCell ⟨w.heap.size + 1, 4, none⟩ (.slice A1 n k1)) := ⟨_, rfl⟩
  have hd5 : w5.heap[w.heap.size + 1]? = some (.cells #[.slice none 0 0, .slice none 0 0, .slice none 0 0, .slice none 0 0, .slice A1 n k1] 102 (0, 0)) := by
    rw [hw5]
    exact (heap_setCell_same _ _ _ _ _ _ (heap_setCell_same _ _ _ _ _ _ (heap_setCell_same _ _ _ _ _ _ (heap_setCell_same _ _ _ _ _ _ (heap_setCell_same _ _ _ _ _ _ HD4.out))))).trans rfl
  have hc5 : Chg (fun k => k = w.heap.size + 1) w4 w5 := by
    rw [hw5]
    have h1 : ∀ {u : World} (j : Nat) (v : Value), Chg (fun k => k = w.heap.size + 1) w4 u → Chg (fun k => k = w.heap.size + 1) w4 (u.setCell ⟨w.heap.size + 1, j, none⟩ v) := fun j v h => h.setCell (p := ⟨w.heap.size + 1, j, none⟩) (Or.inl rfl) v
    exact h1 _ _ (h1 _ _ (h1 _ _ (h1 _ _ (h1 _ _ ((Chg.refl _ w4).drewN nq)))))
  rw [← hw5]
  clear hw5 x0 x1 x2 x3 x4
  have hx : ∀ j : Nat, w5.cell? ⟨w.heap.size + 1, j, none⟩ = (#[.slice none 0 0, .slice none 0 0, .slice none 0 0, .slice none 0 0, .slice A1 n k1] : Array Value)[j]? := fun j => cell_of_row _ _ _ _ _ _ hd5
  have x0 : w5.cell? ⟨w.heap.size + 1, 0, none⟩ = some (.slice none 0 0) := hx 0
  have x1 : w5.cell? ⟨w.heap.size + 1, 1, none⟩ = some (.slice none 0 0) := hx 1
  have x2 : w5.cell? ⟨w.heap.size + 1, 2, none⟩ = some (.slice none 0 0) := hx 2
  have x3 : w5.cell? ⟨w.heap.size + 1, 3, none⟩ = some (.slice none 0 0) := hx 3
  have x4 : w5.cell? ⟨w.heap.size + 1, 4, none⟩ = some (.slice A1 n k1) := hx 4
  have hcA : Chg (fun k => k = p ∨ k = w.heap.size + 1) w0 w5 := ((hc1.mono (G := fun k => k = p ∨ k = w.heap.size + 1) (fun _ h => .inl (.inl h))).trans hc2 (fun _ h => .inl (.inr h))).trans (hc24.trans hc5 (fun _ h => .inl h)) (fun _ h => .inl (.inr h))
  refine bodyPost_ret (v := .agg #[.slice none 0 0, .slice none 0 0, .slice none 0 0, .slice none 0 0, .slice A1 n k1]) ?_ rfl ⟨_, _, rfl, ?_⟩
  · simp [results, Try.results87, go_sem, x0, x1, x2, x3, x4]
  · exact (Chg.of_below (F := fun k => k = p) hb0).trans hcA (fun k hk => hk.elim .inl (fun e => .inr (by omega)))

set_option maxHeartbeats 1000000 in
theorem rdataT_panic (w : World) (p : Nat) (ch : List PanicEntry) (ht : ∀ wz : World, Below w.heap.size w wz → Calls Try.prog 100 #[.pointer (some ⟨p, 0, none⟩)] wz (fun e w' => e = .panicked ch ∧ Chg (fun k => k = p) wz w')) :
    Calls Try.prog 87 #[.pointer (some ⟨p, 0, none⟩), shpV shpT] w (fun e w' => e = .panicked ch ∧ Chg (fun k => k = p) w w') := by
  unfold shpV shpT
  have HT := Lib.hid ht
  clear ht
  obtain ⟨w0, hw0⟩ : ∃ w0, w0 = (w.alloc (.cells #[.int .i64 0, .bool false, .bool false, .bool false, .int .i64 0, .int .i64 0, .bool true, .bool false] 139)).alloc (.cells #[.slice none 0 0, .slice none 0 0, .slice none 0 0, .slice none 0 0, .slice none 0 0] 102) := ⟨_, rfl⟩
  have hb0 : Below w.heap.size w w0 := by rw [hw0]; exact nx (bl.alloc (Nat.le_refl _) _) (bl.alloc (Nat.le_refl _) _)
  have hsz : (w.alloc (.cells #[.int .i64 0, .bool false, .bool false, .bool false, .int .i64 0, .int .i64 0, .bool true, .bool false] 139)).heap.size = w.heap.size + 1 := by simp
  have hs : w0.heap[w.heap.size]? = some (.cells #[.int .i64 0, .bool false, .bool false, .bool false, .int .i64 0, .int .i64 0, .bool true, .bool false] 139 (0, 0)) := by
    rw [hw0]
    exact (heap_alloc_old _ _ (by rw [hsz]; omega)).trans (heap_alloc_new w _)
  have x0 : w0.cell? ⟨w.heap.size, 0, none⟩ = some (.int .i64 0) := (cell_of_row _ _ _ _ _ _ hs).trans rfl
  have x6 : w0.cell? ⟨w.heap.size, 6, none⟩ = some (.bool true) := (cell_of_row _ _ _ _ _ _ hs).trans rfl
  clear hs hsz
  go_enter Try.func87, Try.ntmps87
  go_upto_region 1 with (fail)
  rw [← hw0]
  clear hw0
  go_wp2_with (first
    | (go_at_call 100; refine (HT.out w0 hb0).mono ?_; rintro e w1 ⟨rfl, hc1⟩)
    | fail)
  exact ⟨rfl, rfl, (Chg.of_below (F := fun k => k = p) hb0).trans hc1 (fun _ h => .inl h)⟩
end Go.Proofs.Ytjpkddmdhdmhgaa
