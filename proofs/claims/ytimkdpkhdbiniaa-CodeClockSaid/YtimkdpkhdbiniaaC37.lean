/- Parts of a proof, joined: CodeB, CodeA, Law15C. -/
import Derived.Test.YtimkdpkhdbiniaaM02b
import Derived.Test.YtimkdpkhdbiniaaM02c
import Derived.Test.YtimkdpkhdbiniaaM02
import Derived.Test.YtimkdpkhdbiniaaM03
import Derived.Test.YtimkdpkhdbiniaaM01
/- code.blank of an empty fact. -/
namespace Go.Proofs.Ytimkdpkhdbiniaa
open Go.RowKit
set_option maxRecDepth 100000
set_option linter.unusedVariables false

/-- A fact's cells, with nothing in them. -/
def zF : Array Value := #[.slice none 0 0, .int .i64 0, .int .i64 0, .int .i64 0, .int .i64 0, .int .i64 0, .slice none 0 0, .slice none 0 0, .slice none 0 0, .slice none 0 0, .slice none 0 0, .slice none 0 0, .slice none 0 0]
set_option maxHeartbeats 4000000 in
theorem blank0_any (w : World) : Calls Try.prog 60 #[.agg zF] w (RetP (fun v _ => v = .bool true) w) := by
  obtain ⟨w1, hw1⟩ : ∃ w1, w1 = w.alloc (.cells zF 48) := ⟨_, rfl⟩
  obtain ⟨w2, hw2⟩ : ∃ w2, w2 = w1.alloc (.cells #[.slice none 0 0, .slice none 0 0, .slice none 0 0, .slice none 0 0, .slice none 0 0] 46) := ⟨_, rfl⟩
  have hb1 : Below w.heap.size w w1 := by rw [hw1]; exact bl.alloc (Nat.le_refl _) _
  have hb2 : Below w1.heap.size w1 w2 := by rw [hw2]; exact bl.alloc (Nat.le_refl _) _
  have hR : w1.heap[w.heap.size]? = some (.cells zF 48 (0, 0)) := by rw [hw1]; exact heap_alloc_new w _
  have hR2 : w2.heap[w.heap.size]? = some (.cells zF 48 (0, 0)) := (hb2.block _ (Array.getElem?_eq_some_iff.1 hR).1).trans hR
  have hD : w2.heap[w1.heap.size]? = some (.cells #[.slice none 0 0, .slice none 0 0, .slice none 0 0, .slice none 0 0, .slice none 0 0] 46 (0, 0)) := by rw [hw2]; exact heap_alloc_new w1 _
  have x8 : w1.cell? ⟨w.heap.size, 8, none⟩ = some (.slice none 0 0) := (cell_of_row _ _ _ _ _ _ hR).trans rfl
  have x9 : w1.cell? ⟨w.heap.size, 9, none⟩ = some (.slice none 0 0) := (cell_of_row _ _ _ _ _ _ hR).trans rfl
  have x10 : w1.cell? ⟨w.heap.size, 10, none⟩ = some (.slice none 0 0) := (cell_of_row _ _ _ _ _ _ hR).trans rfl
  have x11 : w1.cell? ⟨w.heap.size, 11, none⟩ = some (.slice none 0 0) := (cell_of_row _ _ _ _ _ _ hR).trans rfl
  have x12 : w1.cell? ⟨w.heap.size, 12, none⟩ = some (.slice none 0 0) := (cell_of_row _ _ _ _ _ _ hR).trans rfl
  have y0 : w2.cell? ⟨w.heap.size, 0, none⟩ = some (.slice none 0 0) := (cell_of_row _ _ _ _ _ _ hR2).trans rfl
  have y1 : w2.cell? ⟨w.heap.size, 1, none⟩ = some (.int .i64 0) := (cell_of_row _ _ _ _ _ _ hR2).trans rfl
  have y2 : w2.cell? ⟨w.heap.size, 2, none⟩ = some (.int .i64 0) := (cell_of_row _ _ _ _ _ _ hR2).trans rfl
  have y3 : w2.cell? ⟨w.heap.size, 3, none⟩ = some (.int .i64 0) := (cell_of_row _ _ _ _ _ _ hR2).trans rfl
  have y4 : w2.cell? ⟨w.heap.size, 4, none⟩ = some (.int .i64 0) := (cell_of_row _ _ _ _ _ _ hR2).trans rfl
  have y5 : w2.cell? ⟨w.heap.size, 5, none⟩ = some (.int .i64 0) := (cell_of_row _ _ _ _ _ _ hR2).trans rfl
  have y6 : w2.cell? ⟨w.heap.size, 6, none⟩ = some (.slice none 0 0) := (cell_of_row _ _ _ _ _ _ hR2).trans rfl
  have y7 : w2.cell? ⟨w.heap.size, 7, none⟩ = some (.slice none 0 0) := (cell_of_row _ _ _ _ _ _ hR2).trans rfl
  have z0 : w2.cell? ⟨w1.heap.size, 0, none⟩ = some (.slice none 0 0) := (cell_of_row _ _ _ _ _ _ hD).trans rfl
  have z1 : w2.cell? ⟨w1.heap.size, 1, none⟩ = some (.slice none 0 0) := (cell_of_row _ _ _ _ _ _ hD).trans rfl
  have z2 : w2.cell? ⟨w1.heap.size, 2, none⟩ = some (.slice none 0 0) := (cell_of_row _ _ _ _ _ _ hD).trans rfl
  have z3 : w2.cell? ⟨w1.heap.size, 3, none⟩ = some (.slice none 0 0) := (cell_of_row _ _ _ _ _ _ hD).trans rfl
  have z4 : w2.cell? ⟨w1.heap.size, 4, none⟩ = some (.slice none 0 0) := (cell_of_row _ _ _ _ _ _ hD).trans rfl
  have HB2 : Hid (Below w.heap.size w w2) := nx hb1 hb2
  unfold zF at hw1 ⊢
  clear hb1 hb2 hR hR2 hD
  go_enter Try.func60, Try.ntmps60
  go_upto_region 1 with (fail)
  rw [← hw1]
  clear hw1
  go_upto_region 2 with (fail)
  rw [← hw2]
  clear hw2 x8 x9 x10 x11 x12
  go_wp2
  go_ret
  exact ⟨_, rfl, rfl, HB2.out⟩

end Go.Proofs.Ytimkdpkhdbiniaa

/- code: entries of the kinds 2 and 3 (printed by gen/codea.py). -/
namespace Go.Proofs.Ytimkdpkhdbiniaa
open Go.RowKit
set_option maxRecDepth 100000
set_option linter.unusedVariables false

/-- An entry of kind 3, of kind 2. -/
def en3 (a : Int) : Array Value := #[.int .i64 3, .int .i64 a, .slice none 0 0, .int .i64 0, .int .i64 0, .int .i64 0, .int .i64 0, .int .i64 0, .slice none 0 0, .slice none 0 0, .slice none 0 0, .slice none 0 0, .slice none 0 0, .slice none 0 0, .slice none 0 0, .slice none 0 0]
def en2 (A : Option Addr) (n c : Nat) : Array Value := #[.int .i64 2, .int .i64 0, .slice none 0 0, .int .i64 0, .int .i64 0, .int .i64 0, .int .i64 0, .int .i64 0, .slice none 0 0, .slice none 0 0, .slice none 0 0, .slice none 0 0, .slice none 0 0, .slice none 0 0, .slice none 0 0, .slice A n c]

set_option maxHeartbeats 4000000 in
theorem csound3_any (a : Int) (w : World) : Calls Try.prog 23 #[.agg (en3 a)] w (RetP (fun v _ => v = .bool (timeB a)) w) := by
  obtain ⟨w1, hw1⟩ : ∃ w1, w1 = w.alloc (.cells (en3 a) 50) := ⟨_, rfl⟩
  have hb1 : Below w.heap.size w w1 := by rw [hw1]; exact bl.alloc (Nat.le_refl _) _
  have hR : w1.heap[w.heap.size]? = some (.cells (en3 a) 50 (0, 0)) := by rw [hw1]; exact heap_alloc_new w _
  have HC : Hid (∀ u, Below w1.heap.size w1 u → (u.cell? ⟨w.heap.size, 0, none⟩ = some (.int .i64 3) ∧ u.cell? ⟨w.heap.size, 1, none⟩ = some (.int .i64 a) ∧ u.cell? ⟨w.heap.size, 2, none⟩ = some (.slice none 0 0) ∧ u.cell? ⟨w.heap.size, 3, none⟩ = some (.int .i64 0) ∧ u.cell? ⟨w.heap.size, 4, none⟩ = some (.int .i64 0) ∧ u.cell? ⟨w.heap.size, 5, none⟩ = some (.int .i64 0) ∧ u.cell? ⟨w.heap.size, 6, none⟩ = some (.int .i64 0) ∧ u.cell? ⟨w.heap.size, 7, none⟩ = some (.int .i64 0) ∧ u.cell? ⟨w.heap.size, 8, none⟩ = some (.slice none 0 0) ∧ u.cell? ⟨w.heap.size, 9, none⟩ = some (.slice none 0 0) ∧ u.cell? ⟨w.heap.size, 10, none⟩ = some (.slice none 0 0) ∧ u.cell? ⟨w.heap.size, 11, none⟩ = some (.slice none 0 0) ∧ u.cell? ⟨w.heap.size, 12, none⟩ = some (.slice none 0 0) ∧ u.cell? ⟨w.heap.size, 13, none⟩ = some (.slice none 0 0) ∧ u.cell? ⟨w.heap.size, 14, none⟩ = some (.slice none 0 0) ∧ u.cell? ⟨w.heap.size, 15, none⟩ = some (.slice none 0 0))) := fun u hu => by
    have h := (hu.block _ (Array.getElem?_eq_some_iff.1 hR).1).trans hR
    exact ⟨(cell_of_row _ _ _ _ _ _ h).trans rfl, (cell_of_row _ _ _ _ _ _ h).trans rfl, (cell_of_row _ _ _ _ _ _ h).trans rfl, (cell_of_row _ _ _ _ _ _ h).trans rfl, (cell_of_row _ _ _ _ _ _ h).trans rfl, (cell_of_row _ _ _ _ _ _ h).trans rfl, (cell_of_row _ _ _ _ _ _ h).trans rfl, (cell_of_row _ _ _ _ _ _ h).trans rfl, (cell_of_row _ _ _ _ _ _ h).trans rfl, (cell_of_row _ _ _ _ _ _ h).trans rfl, (cell_of_row _ _ _ _ _ _ h).trans rfl, (cell_of_row _ _ _ _ _ _ h).trans rfl, (cell_of_row _ _ _ _ _ _ h).trans rfl, (cell_of_row _ _ _ _ _ _ h).trans rfl, (cell_of_row _ _ _ _ _ _ h).trans rfl, (cell_of_row _ _ _ _ _ _ h).trans rfl⟩
  obtain ⟨x0, x1, x2, x3, x4, x5, x6, x7, x8, x9, x10, x11, x12, x13, x14, x15⟩ := HC.out w1 bl
  have HB1 := Lib.hid hb1
  obtain ⟨T, hT⟩ : ∃ T, T = timeB a := ⟨_, rfl⟩
  have HT : Hid (∀ u, Calls Try.prog 62 #[.int .i64 a] u (Ret (.bool T) u)) := fun u => by rw [hT]; exact ttime_any a u
  rw [← hT]
  unfold en3 at hw1 ⊢
  clear hb1 hR hT
  go_enter Try.func23, Try.ntmps23
  go_upto_region 1 with (fail)
  rw [← hw1]
  clear hw1
  cases T with
  | false =>
    go_wp2_with (first
      | (go_at_call 62; refine (HT.out w1).mono ?_; rintro e w2 ⟨rfl, rfl⟩)
      | fail)
    go_ret
    exact ⟨_, rfl, rfl, HB1.out⟩
  | true =>
    go_wp2_with (first
      | (go_at_call 60; refine (blank0_any w1).mono ?_; rintro e w2 ⟨v2, rfl, rfl, hb2⟩; obtain ⟨x0, x1, x2, x3, x4, x5, x6, x7, x8, x9, x10, x11, x12, x13, x14, x15⟩ := HC.out w2 hb2)
      | (go_at_call 62; refine (HT.out w1).mono ?_; rintro e w2 ⟨rfl, rfl⟩)
      | fail)
    go_ret
    exact ⟨_, rfl, rfl, nx HB1.out hb2⟩
set_option maxHeartbeats 4000000 in
theorem csound2_any (A : Option Addr) (n c : Nat) (ns : List (List UInt8)) (w : World) {So Si : Nat → Prop} (h : Els encS So Si w A n ns) (hS : ∀ b, So b → b < w.heap.size) (hSi : ∀ b, Si b → b < w.heap.size) (hn : n ≤ 1000000000) : Calls Try.prog 23 #[.agg (en2 A n c)] w (RetP (fun v _ => v = .bool (soundB ns)) w) := by
  obtain ⟨w1, hw1⟩ : ∃ w1, w1 = w.alloc (.cells (en2 A n c) 50) := ⟨_, rfl⟩
  have hb1 : Below w.heap.size w w1 := by rw [hw1]; exact bl.alloc (Nat.le_refl _) _
  have hR : w1.heap[w.heap.size]? = some (.cells (en2 A n c) 50 (0, 0)) := by rw [hw1]; exact heap_alloc_new w _
  have HC : Hid (∀ u, Below w1.heap.size w1 u → (u.cell? ⟨w.heap.size, 0, none⟩ = some (.int .i64 2) ∧ u.cell? ⟨w.heap.size, 1, none⟩ = some (.int .i64 0) ∧ u.cell? ⟨w.heap.size, 2, none⟩ = some (.slice none 0 0) ∧ u.cell? ⟨w.heap.size, 3, none⟩ = some (.int .i64 0) ∧ u.cell? ⟨w.heap.size, 4, none⟩ = some (.int .i64 0) ∧ u.cell? ⟨w.heap.size, 5, none⟩ = some (.int .i64 0) ∧ u.cell? ⟨w.heap.size, 6, none⟩ = some (.int .i64 0) ∧ u.cell? ⟨w.heap.size, 7, none⟩ = some (.int .i64 0) ∧ u.cell? ⟨w.heap.size, 8, none⟩ = some (.slice none 0 0) ∧ u.cell? ⟨w.heap.size, 9, none⟩ = some (.slice none 0 0) ∧ u.cell? ⟨w.heap.size, 10, none⟩ = some (.slice none 0 0) ∧ u.cell? ⟨w.heap.size, 11, none⟩ = some (.slice none 0 0) ∧ u.cell? ⟨w.heap.size, 12, none⟩ = some (.slice none 0 0) ∧ u.cell? ⟨w.heap.size, 13, none⟩ = some (.slice none 0 0) ∧ u.cell? ⟨w.heap.size, 14, none⟩ = some (.slice none 0 0) ∧ u.cell? ⟨w.heap.size, 15, none⟩ = some (.slice A n c))) := fun u hu => by
    have h := (hu.block _ (Array.getElem?_eq_some_iff.1 hR).1).trans hR
    exact ⟨(cell_of_row _ _ _ _ _ _ h).trans rfl, (cell_of_row _ _ _ _ _ _ h).trans rfl, (cell_of_row _ _ _ _ _ _ h).trans rfl, (cell_of_row _ _ _ _ _ _ h).trans rfl, (cell_of_row _ _ _ _ _ _ h).trans rfl, (cell_of_row _ _ _ _ _ _ h).trans rfl, (cell_of_row _ _ _ _ _ _ h).trans rfl, (cell_of_row _ _ _ _ _ _ h).trans rfl, (cell_of_row _ _ _ _ _ _ h).trans rfl, (cell_of_row _ _ _ _ _ _ h).trans rfl, (cell_of_row _ _ _ _ _ _ h).trans rfl, (cell_of_row _ _ _ _ _ _ h).trans rfl, (cell_of_row _ _ _ _ _ _ h).trans rfl, (cell_of_row _ _ _ _ _ _ h).trans rfl, (cell_of_row _ _ _ _ _ _ h).trans rfl, (cell_of_row _ _ _ _ _ _ h).trans rfl⟩
  obtain ⟨x0, x1, x2, x3, x4, x5, x6, x7, x8, x9, x10, x11, x12, x13, x14, x15⟩ := HC.out w1 bl
  have HB1 := Lib.hid hb1
  have HS : Hid (∀ u, Below w1.heap.size w1 u → Calls Try.prog 61 #[.slice A n c] u (Ret (.bool (soundB ns)) u)) := fun u hu => sound_any A n c ns u (h.below (hb1.trans (hu.mono hb1.size)) hS hSi) hn
  unfold en2 at hw1 ⊢
  clear hb1 hR h
  go_enter Try.func23, Try.ntmps23
  go_upto_region 1 with (fail)
  rw [← hw1]
  clear hw1
  go_wp2_with (first
    | (go_at_call 60; refine (blank0_any w1).mono ?_; rintro e w2 ⟨v2, rfl, rfl, hb2⟩; obtain ⟨x0, x1, x2, x3, x4, x5, x6, x7, x8, x9, x10, x11, x12, x13, x14, x15⟩ := HC.out w2 hb2)
    | (go_at_call 61; refine (HS.out w2 hb2).mono ?_; rintro e w3 ⟨rfl, rfl⟩)
    | fail)
  go_ret
  exact ⟨_, rfl, rfl, nx HB1.out hb2⟩

set_option maxHeartbeats 4000000 in
theorem craw3_any (a : Int) (w : World) (ha : timeB a = true) : Calls Try.prog 56 #[.agg (en3 a)] w (RetP (fun v w' => OwnB w' w.heap.size v (clkW a).b) w) := by
  obtain ⟨w1, hw1⟩ : ∃ w1, w1 = w.alloc (.cells (en3 a) 50) := ⟨_, rfl⟩
  have hb1 : Below w.heap.size w w1 := by rw [hw1]; exact bl.alloc (Nat.le_refl _) _
  have hR : w1.heap[w.heap.size]? = some (.cells (en3 a) 50 (0, 0)) := by rw [hw1]; exact heap_alloc_new w _
  have HC : Hid (∀ u, Below w1.heap.size w1 u → (u.cell? ⟨w.heap.size, 0, none⟩ = some (.int .i64 3) ∧ u.cell? ⟨w.heap.size, 1, none⟩ = some (.int .i64 a) ∧ u.cell? ⟨w.heap.size, 2, none⟩ = some (.slice none 0 0) ∧ u.cell? ⟨w.heap.size, 3, none⟩ = some (.int .i64 0) ∧ u.cell? ⟨w.heap.size, 4, none⟩ = some (.int .i64 0) ∧ u.cell? ⟨w.heap.size, 5, none⟩ = some (.int .i64 0) ∧ u.cell? ⟨w.heap.size, 6, none⟩ = some (.int .i64 0) ∧ u.cell? ⟨w.heap.size, 7, none⟩ = some (.int .i64 0) ∧ u.cell? ⟨w.heap.size, 8, none⟩ = some (.slice none 0 0) ∧ u.cell? ⟨w.heap.size, 9, none⟩ = some (.slice none 0 0) ∧ u.cell? ⟨w.heap.size, 10, none⟩ = some (.slice none 0 0) ∧ u.cell? ⟨w.heap.size, 11, none⟩ = some (.slice none 0 0) ∧ u.cell? ⟨w.heap.size, 12, none⟩ = some (.slice none 0 0) ∧ u.cell? ⟨w.heap.size, 13, none⟩ = some (.slice none 0 0) ∧ u.cell? ⟨w.heap.size, 14, none⟩ = some (.slice none 0 0) ∧ u.cell? ⟨w.heap.size, 15, none⟩ = some (.slice none 0 0))) := fun u hu => by
    have h := (hu.block _ (Array.getElem?_eq_some_iff.1 hR).1).trans hR
    exact ⟨(cell_of_row _ _ _ _ _ _ h).trans rfl, (cell_of_row _ _ _ _ _ _ h).trans rfl, (cell_of_row _ _ _ _ _ _ h).trans rfl, (cell_of_row _ _ _ _ _ _ h).trans rfl, (cell_of_row _ _ _ _ _ _ h).trans rfl, (cell_of_row _ _ _ _ _ _ h).trans rfl, (cell_of_row _ _ _ _ _ _ h).trans rfl, (cell_of_row _ _ _ _ _ _ h).trans rfl, (cell_of_row _ _ _ _ _ _ h).trans rfl, (cell_of_row _ _ _ _ _ _ h).trans rfl, (cell_of_row _ _ _ _ _ _ h).trans rfl, (cell_of_row _ _ _ _ _ _ h).trans rfl, (cell_of_row _ _ _ _ _ _ h).trans rfl, (cell_of_row _ _ _ _ _ _ h).trans rfl, (cell_of_row _ _ _ _ _ _ h).trans rfl, (cell_of_row _ _ _ _ _ _ h).trans rfl⟩
  obtain ⟨x0, x1, x2, x3, x4, x5, x6, x7, x8, x9, x10, x11, x12, x13, x14, x15⟩ := HC.out w1 bl
  have HB1 := Lib.hid hb1
  have HL := Lib.hid (clk_len ha)
  unfold en3 at hw1 ⊢
  clear hb1 hR ha
  go_enter Try.func56, Try.ntmps56
  go_upto_region 1 with (fail)
  rw [← hw1]
  clear hw1
  go_upto_region 2 with (first
    | (go_at_call 100; refine (wnew_any w1).mono ?_; rintro e w2 ⟨g, F, rfl, hW2, hb2⟩; obtain ⟨x0, x1, x2, x3, x4, x5, x6, x7, x8, x9, x10, x11, x12, x13, x14, x15⟩ := HC.out w2 hb2; have HW2 := Lib.hid hW2; have HB2 := Lib.hid hb2; clear hW2 hb2)
    | fail)
  go_upto_region 3 with (first
    | (go_at_call 101; refine (wnum_any w2 w1.heap.size g F Wr.nil 3 1 HW2.out (by decide)).mono ?_; rintro e w3 ⟨rfl, F3, hW3, hc3, hF3⟩; have HB3 := Lib.hid (HW2.out.bw HB2.out (Nat.le_refl _) hc3); obtain ⟨x0, x1, x2, x3, x4, x5, x6, x7, x8, x9, x10, x11, x12, x13, x14, x15⟩ := HC.out w3 HB3.out; have HW3 := Lib.hid hW3; clear hW3 hc3 hF3)
    | fail)
  go_upto_region 10 with (first
    | (go_at_call 101; refine (wnum_any w3 w1.heap.size g F3 _ a 7 HW3.out (by decide)).mono ?_; rintro e w4 ⟨rfl, F4, hW4, hc4, hF4⟩; have HB4 := Lib.hid (HW3.out.bw HB3.out (Nat.le_refl _) hc4); have HW4 := Lib.hid hW4; clear hW4 hc4 hF4)
    | fail)
  clear x0 x1 x2 x3 x4 x5 x6 x7 x8 x9 x10 x11 x12 x13 x14 x15
  go_wp2_with (first
    | (go_at_call 104; refine (wbytes_any w4 w1.heap.size g F4 (clkW a) HW4.out (by rw [HL.out]; decide)).mono ?_; rintro e w5 ⟨v5, rfl, ho5, hb5⟩; have HB5 := Lib.hid (nx HB4.out hb5))
    | fail)
  go_ret
  exact ⟨_, rfl, ho5.mono (nx HB1.out HB4.out).size, nx HB1.out HB5.out⟩

set_option maxHeartbeats 4000000 in
theorem craw2_any (A : Option Addr) (n c : Nat) (ns : List (List UInt8)) (w : World) {So Si : Nat → Prop} (h : Els encS So Si w A n ns) (hS : ∀ b, So b → b < w.heap.size) (hSi : ∀ b, Si b → b < w.heap.size) (hn : n ≤ 1000000000) (hnc : n ≤ c) (hcm : c ≤ maxLen) (hs : soundB ns = true) : Calls Try.prog 56 #[.agg (en2 A n c)] w (RetP (fun v w' => OwnB w' w.heap.size v (fluW ns).b) w) := by
  obtain ⟨w1, hw1⟩ : ∃ w1, w1 = w.alloc (.cells (en2 A n c) 50) := ⟨_, rfl⟩
  have hb1 : Below w.heap.size w w1 := by rw [hw1]; exact bl.alloc (Nat.le_refl _) _
  have hR : w1.heap[w.heap.size]? = some (.cells (en2 A n c) 50 (0, 0)) := by rw [hw1]; exact heap_alloc_new w _
  have HC : Hid (∀ u, Below w1.heap.size w1 u → (u.cell? ⟨w.heap.size, 0, none⟩ = some (.int .i64 2) ∧ u.cell? ⟨w.heap.size, 1, none⟩ = some (.int .i64 0) ∧ u.cell? ⟨w.heap.size, 2, none⟩ = some (.slice none 0 0) ∧ u.cell? ⟨w.heap.size, 3, none⟩ = some (.int .i64 0) ∧ u.cell? ⟨w.heap.size, 4, none⟩ = some (.int .i64 0) ∧ u.cell? ⟨w.heap.size, 5, none⟩ = some (.int .i64 0) ∧ u.cell? ⟨w.heap.size, 6, none⟩ = some (.int .i64 0) ∧ u.cell? ⟨w.heap.size, 7, none⟩ = some (.int .i64 0) ∧ u.cell? ⟨w.heap.size, 8, none⟩ = some (.slice none 0 0) ∧ u.cell? ⟨w.heap.size, 9, none⟩ = some (.slice none 0 0) ∧ u.cell? ⟨w.heap.size, 10, none⟩ = some (.slice none 0 0) ∧ u.cell? ⟨w.heap.size, 11, none⟩ = some (.slice none 0 0) ∧ u.cell? ⟨w.heap.size, 12, none⟩ = some (.slice none 0 0) ∧ u.cell? ⟨w.heap.size, 13, none⟩ = some (.slice none 0 0) ∧ u.cell? ⟨w.heap.size, 14, none⟩ = some (.slice none 0 0) ∧ u.cell? ⟨w.heap.size, 15, none⟩ = some (.slice A n c))) := fun u hu => by
    have h := (hu.block _ (Array.getElem?_eq_some_iff.1 hR).1).trans hR
    exact ⟨(cell_of_row _ _ _ _ _ _ h).trans rfl, (cell_of_row _ _ _ _ _ _ h).trans rfl, (cell_of_row _ _ _ _ _ _ h).trans rfl, (cell_of_row _ _ _ _ _ _ h).trans rfl, (cell_of_row _ _ _ _ _ _ h).trans rfl, (cell_of_row _ _ _ _ _ _ h).trans rfl, (cell_of_row _ _ _ _ _ _ h).trans rfl, (cell_of_row _ _ _ _ _ _ h).trans rfl, (cell_of_row _ _ _ _ _ _ h).trans rfl, (cell_of_row _ _ _ _ _ _ h).trans rfl, (cell_of_row _ _ _ _ _ _ h).trans rfl, (cell_of_row _ _ _ _ _ _ h).trans rfl, (cell_of_row _ _ _ _ _ _ h).trans rfl, (cell_of_row _ _ _ _ _ _ h).trans rfl, (cell_of_row _ _ _ _ _ _ h).trans rfl, (cell_of_row _ _ _ _ _ _ h).trans rfl⟩
  obtain ⟨x0, x1, x2, x3, x4, x5, x6, x7, x8, x9, x10, x11, x12, x13, x14, x15⟩ := HC.out w1 bl
  have HB1 := Lib.hid hb1
  have HL := Lib.hid (flu_le hs)
  have HNS : Hid (∀ u, Below w1.heap.size w1 u → Els encS So Si u A n ns) := fun u hu => h.below (hb1.trans (hu.mono hb1.size)) hS hSi
  have HSO : Hid (∀ b, So b → b < w1.heap.size) := fun b hb => Nat.lt_of_lt_of_le (hS b hb) hb1.size
  have HN : Hid (n ≤ 1000000000 ∧ n ≤ c ∧ c ≤ maxLen) := ⟨hn, hnc, hcm⟩
  unfold en2 at hw1 ⊢
  clear hb1 hR hs h hn hnc hcm
  go_enter Try.func56, Try.ntmps56
  go_upto_region 1 with (fail)
  rw [← hw1]
  clear hw1
  go_upto_region 2 with (first
    | (go_at_call 100; refine (wnew_any w1).mono ?_; rintro e w2 ⟨g, F, rfl, hW2, hb2⟩; obtain ⟨x0, x1, x2, x3, x4, x5, x6, x7, x8, x9, x10, x11, x12, x13, x14, x15⟩ := HC.out w2 hb2; have HW2 := Lib.hid hW2; have HB2 := Lib.hid hb2; clear hW2 hb2)
    | fail)
  go_upto_region 3 with (first
    | (go_at_call 101; refine (wnum_any w2 w1.heap.size g F Wr.nil 2 1 HW2.out (by decide)).mono ?_; rintro e w3 ⟨rfl, F3, hW3, hc3, hF3⟩; have HB3 := Lib.hid (HW2.out.bw HB2.out (Nat.le_refl _) hc3); obtain ⟨x0, x1, x2, x3, x4, x5, x6, x7, x8, x9, x10, x11, x12, x13, x14, x15⟩ := HC.out w3 HB3.out; have HW3 := Lib.hid hW3; clear hW3 hc3 hF3)
    | fail)
  have HD : Hid (∀ b, So b → b < w3.heap.size ∧ ¬ F3 b) := fun b hb => ⟨Nat.lt_of_lt_of_le (HSO.out b hb) HB3.out.size, fun hF => by have := (HW3.out.F_lt b hF).1; have := HSO.out b hb; omega⟩
  go_upto_region 10 with (first
    | (go_at_call 103; refine (name_any w3 w1.heap.size g F3 _ A n c ns false HW3.out (HNS.out w3 HB3.out) HD.out HN.out.1 HN.out.2.1 HN.out.2.2 (by decide) (by decide)).mono ?_; rintro e w4 ⟨rfl, F4, hW4, hc4, hF4⟩; have HB4 := Lib.hid (HW3.out.bw HB3.out (Nat.le_refl _) hc4); have HW4 := Lib.hid hW4; clear hW4 hc4 hF4)
    | fail)
  clear x0 x1 x2 x3 x4 x5 x6 x7 x8 x9 x10 x11 x12 x13 x14 x15
  go_wp2_with (first
    | (go_at_call 104; refine (wbytes_any w4 w1.heap.size g F4 (fluW ns) HW4.out (by have := HL.out; omega)).mono ?_; rintro e w5 ⟨v5, rfl, ho5, hb5⟩; have HB5 := Lib.hid (nx HB4.out hb5))
    | fail)
  go_ret
  exact ⟨_, rfl, ho5.mono (nx HB1.out HB4.out).size, nx HB1.out HB5.out⟩

set_option maxHeartbeats 4000000 in
theorem enc3_no (a : Int) (w : World)  (hs : timeB a = false) : Calls Try.prog 20 #[.agg (en3 a)] w (RetP (fun v _ => v = .tuple #[.slice none 0 0, .int .i64 2]) w) := by
  obtain ⟨w1, hw1⟩ : ∃ w1, w1 = w.alloc (.cells (en3 a) 50) := ⟨_, rfl⟩
  have hb1 : Below w.heap.size w w1 := by rw [hw1]; exact bl.alloc (Nat.le_refl _) _
  have hR : w1.heap[w.heap.size]? = some (.cells (en3 a) 50 (0, 0)) := by rw [hw1]; exact heap_alloc_new w _
  have HC : Hid (∀ u, Below w1.heap.size w1 u → (u.cell? ⟨w.heap.size, 0, none⟩ = some (.int .i64 3) ∧ u.cell? ⟨w.heap.size, 1, none⟩ = some (.int .i64 a) ∧ u.cell? ⟨w.heap.size, 2, none⟩ = some (.slice none 0 0) ∧ u.cell? ⟨w.heap.size, 3, none⟩ = some (.int .i64 0) ∧ u.cell? ⟨w.heap.size, 4, none⟩ = some (.int .i64 0) ∧ u.cell? ⟨w.heap.size, 5, none⟩ = some (.int .i64 0) ∧ u.cell? ⟨w.heap.size, 6, none⟩ = some (.int .i64 0) ∧ u.cell? ⟨w.heap.size, 7, none⟩ = some (.int .i64 0) ∧ u.cell? ⟨w.heap.size, 8, none⟩ = some (.slice none 0 0) ∧ u.cell? ⟨w.heap.size, 9, none⟩ = some (.slice none 0 0) ∧ u.cell? ⟨w.heap.size, 10, none⟩ = some (.slice none 0 0) ∧ u.cell? ⟨w.heap.size, 11, none⟩ = some (.slice none 0 0) ∧ u.cell? ⟨w.heap.size, 12, none⟩ = some (.slice none 0 0) ∧ u.cell? ⟨w.heap.size, 13, none⟩ = some (.slice none 0 0) ∧ u.cell? ⟨w.heap.size, 14, none⟩ = some (.slice none 0 0) ∧ u.cell? ⟨w.heap.size, 15, none⟩ = some (.slice none 0 0))) := fun u hu => by
    have h := (hu.block _ (Array.getElem?_eq_some_iff.1 hR).1).trans hR
    exact ⟨(cell_of_row _ _ _ _ _ _ h).trans rfl, (cell_of_row _ _ _ _ _ _ h).trans rfl, (cell_of_row _ _ _ _ _ _ h).trans rfl, (cell_of_row _ _ _ _ _ _ h).trans rfl, (cell_of_row _ _ _ _ _ _ h).trans rfl, (cell_of_row _ _ _ _ _ _ h).trans rfl, (cell_of_row _ _ _ _ _ _ h).trans rfl, (cell_of_row _ _ _ _ _ _ h).trans rfl, (cell_of_row _ _ _ _ _ _ h).trans rfl, (cell_of_row _ _ _ _ _ _ h).trans rfl, (cell_of_row _ _ _ _ _ _ h).trans rfl, (cell_of_row _ _ _ _ _ _ h).trans rfl, (cell_of_row _ _ _ _ _ _ h).trans rfl, (cell_of_row _ _ _ _ _ _ h).trans rfl, (cell_of_row _ _ _ _ _ _ h).trans rfl, (cell_of_row _ _ _ _ _ _ h).trans rfl⟩
  obtain ⟨x0, x1, x2, x3, x4, x5, x6, x7, x8, x9, x10, x11, x12, x13, x14, x15⟩ := HC.out w1 bl
  have HB1 := Lib.hid hb1
  have HSN : Hid (Calls Try.prog 23 #[.agg (en3 a)] w1 (RetP (fun v _ => v = .bool false) w1)) := by rw [← hs]; exact csound3_any a w1
  unfold en3 at hw1 HSN ⊢
  clear hb1 hR hs
  go_enter Try.func20, Try.ntmps20
  go_upto_region 1 with (fail)
  rw [← hw1]
  clear hw1
  go_wp2_with (first
    | (go_at_call 23; refine HSN.out.mono ?_; rintro e w2 ⟨v2, rfl, rfl, hb2⟩)
    | fail)
  go_ret2
  exact ⟨_, rfl, rfl, nx HB1.out hb2⟩

set_option maxHeartbeats 4000000 in
theorem enc3_yes (a : Int) (w : World)  (hs : timeB a = true) : Calls Try.prog 20 #[.agg (en3 a)] w (RetP (fun v w' => ∃ A' c', v = .tuple #[.slice A' (clkW a).b.length c', .int .i64 0] ∧ OwnB w' w.heap.size (.slice A' (clkW a).b.length c') (clkW a).b) w) := by
  obtain ⟨w1, hw1⟩ : ∃ w1, w1 = w.alloc (.cells (en3 a) 50) := ⟨_, rfl⟩
  have hb1 : Below w.heap.size w w1 := by rw [hw1]; exact bl.alloc (Nat.le_refl _) _
  have hR : w1.heap[w.heap.size]? = some (.cells (en3 a) 50 (0, 0)) := by rw [hw1]; exact heap_alloc_new w _
  have HC : Hid (∀ u, Below w1.heap.size w1 u → (u.cell? ⟨w.heap.size, 0, none⟩ = some (.int .i64 3) ∧ u.cell? ⟨w.heap.size, 1, none⟩ = some (.int .i64 a) ∧ u.cell? ⟨w.heap.size, 2, none⟩ = some (.slice none 0 0) ∧ u.cell? ⟨w.heap.size, 3, none⟩ = some (.int .i64 0) ∧ u.cell? ⟨w.heap.size, 4, none⟩ = some (.int .i64 0) ∧ u.cell? ⟨w.heap.size, 5, none⟩ = some (.int .i64 0) ∧ u.cell? ⟨w.heap.size, 6, none⟩ = some (.int .i64 0) ∧ u.cell? ⟨w.heap.size, 7, none⟩ = some (.int .i64 0) ∧ u.cell? ⟨w.heap.size, 8, none⟩ = some (.slice none 0 0) ∧ u.cell? ⟨w.heap.size, 9, none⟩ = some (.slice none 0 0) ∧ u.cell? ⟨w.heap.size, 10, none⟩ = some (.slice none 0 0) ∧ u.cell? ⟨w.heap.size, 11, none⟩ = some (.slice none 0 0) ∧ u.cell? ⟨w.heap.size, 12, none⟩ = some (.slice none 0 0) ∧ u.cell? ⟨w.heap.size, 13, none⟩ = some (.slice none 0 0) ∧ u.cell? ⟨w.heap.size, 14, none⟩ = some (.slice none 0 0) ∧ u.cell? ⟨w.heap.size, 15, none⟩ = some (.slice none 0 0))) := fun u hu => by
    have h := (hu.block _ (Array.getElem?_eq_some_iff.1 hR).1).trans hR
    exact ⟨(cell_of_row _ _ _ _ _ _ h).trans rfl, (cell_of_row _ _ _ _ _ _ h).trans rfl, (cell_of_row _ _ _ _ _ _ h).trans rfl, (cell_of_row _ _ _ _ _ _ h).trans rfl, (cell_of_row _ _ _ _ _ _ h).trans rfl, (cell_of_row _ _ _ _ _ _ h).trans rfl, (cell_of_row _ _ _ _ _ _ h).trans rfl, (cell_of_row _ _ _ _ _ _ h).trans rfl, (cell_of_row _ _ _ _ _ _ h).trans rfl, (cell_of_row _ _ _ _ _ _ h).trans rfl, (cell_of_row _ _ _ _ _ _ h).trans rfl, (cell_of_row _ _ _ _ _ _ h).trans rfl, (cell_of_row _ _ _ _ _ _ h).trans rfl, (cell_of_row _ _ _ _ _ _ h).trans rfl, (cell_of_row _ _ _ _ _ _ h).trans rfl, (cell_of_row _ _ _ _ _ _ h).trans rfl⟩
  obtain ⟨x0, x1, x2, x3, x4, x5, x6, x7, x8, x9, x10, x11, x12, x13, x14, x15⟩ := HC.out w1 bl
  have HB1 := Lib.hid hb1
  have HSN : Hid (Calls Try.prog 23 #[.agg (en3 a)] w1 (RetP (fun v _ => v = .bool true) w1)) := by rw [← hs]; exact csound3_any a w1
  have HRW : Hid (∀ u, Below w1.heap.size w1 u → Calls Try.prog 56 #[.agg (en3 a)] u (RetP (fun v w' => OwnB w' u.heap.size v (clkW a).b) u)) := fun u hu => craw3_any a u hs
  obtain ⟨bs, hbs⟩ : ∃ bs, bs = (clkW a).b := ⟨_, rfl⟩
  have hl : bs.length ≤ 16384 := by rw [hbs]; rw [clk_len hs]; decide
  have hld : decide ((16384 : Int) < (bs.length : Int)) = false := decide_eq_false (by omega)
  rw [← hbs] at HRW ⊢
  unfold en3 at hw1 HSN HRW ⊢
  clear hb1 hR hs hbs
  go_enter Try.func20, Try.ntmps20
  go_upto_region 1 with (fail)
  rw [← hw1]
  clear hw1
  go_upto_region 4 with (first
    | (go_at_call 56; refine (HRW.out w2 hb2).mono ?_; rintro e w3 ⟨v3, rfl, ho3, hb3⟩; have HO3 := Lib.hid ho3; obtain ⟨A3, c3, rfl, _, _, _⟩ := OwnB.form ho3; have HB3 := Lib.hid (nx hb2 hb3); have HZ : Hid (w.heap.size ≤ w2.heap.size) := (nx HB1.out hb2).size)
    | (go_at_call 23; refine HSN.out.mono ?_; rintro e w2 ⟨v2, rfl, rfl, hb2⟩; obtain ⟨x0, x1, x2, x3, x4, x5, x6, x7, x8, x9, x10, x11, x12, x13, x14, x15⟩ := HC.out w2 hb2)
    | fail)
  clear x0 x1 x2 x3 x4 x5 x6 x7 x8 x9 x10 x11 x12 x13 x14 x15 ho3
  go_wp2
  go_ret2
  exact ⟨_, rfl, ⟨A3, c3, rfl, HO3.out.mono HZ.out⟩, nx HB1.out HB3.out⟩

set_option maxHeartbeats 4000000 in
theorem enc2_no (A : Option Addr) (n c : Nat) (ns : List (List UInt8)) (w : World) {So Si : Nat → Prop} (h : Els encS So Si w A n ns) (hS : ∀ b, So b → b < w.heap.size) (hSi : ∀ b, Si b → b < w.heap.size) (hn : n ≤ 1000000000) (hnc : n ≤ c) (hcm : c ≤ maxLen) (hs : soundB ns = false) : Calls Try.prog 20 #[.agg (en2 A n c)] w (RetP (fun v _ => v = .tuple #[.slice none 0 0, .int .i64 2]) w) := by
  obtain ⟨w1, hw1⟩ : ∃ w1, w1 = w.alloc (.cells (en2 A n c) 50) := ⟨_, rfl⟩
  have hb1 : Below w.heap.size w w1 := by rw [hw1]; exact bl.alloc (Nat.le_refl _) _
  have hR : w1.heap[w.heap.size]? = some (.cells (en2 A n c) 50 (0, 0)) := by rw [hw1]; exact heap_alloc_new w _
  have HC : Hid (∀ u, Below w1.heap.size w1 u → (u.cell? ⟨w.heap.size, 0, none⟩ = some (.int .i64 2) ∧ u.cell? ⟨w.heap.size, 1, none⟩ = some (.int .i64 0) ∧ u.cell? ⟨w.heap.size, 2, none⟩ = some (.slice none 0 0) ∧ u.cell? ⟨w.heap.size, 3, none⟩ = some (.int .i64 0) ∧ u.cell? ⟨w.heap.size, 4, none⟩ = some (.int .i64 0) ∧ u.cell? ⟨w.heap.size, 5, none⟩ = some (.int .i64 0) ∧ u.cell? ⟨w.heap.size, 6, none⟩ = some (.int .i64 0) ∧ u.cell? ⟨w.heap.size, 7, none⟩ = some (.int .i64 0) ∧ u.cell? ⟨w.heap.size, 8, none⟩ = some (.slice none 0 0) ∧ u.cell? ⟨w.heap.size, 9, none⟩ = some (.slice none 0 0) ∧ u.cell? ⟨w.heap.size, 10, none⟩ = some (.slice none 0 0) ∧ u.cell? ⟨w.heap.size, 11, none⟩ = some (.slice none 0 0) ∧ u.cell? ⟨w.heap.size, 12, none⟩ = some (.slice none 0 0) ∧ u.cell? ⟨w.heap.size, 13, none⟩ = some (.slice none 0 0) ∧ u.cell? ⟨w.heap.size, 14, none⟩ = some (.slice none 0 0) ∧ u.cell? ⟨w.heap.size, 15, none⟩ = some (.slice A n c))) := fun u hu => by
    have h := (hu.block _ (Array.getElem?_eq_some_iff.1 hR).1).trans hR
    exact ⟨(cell_of_row _ _ _ _ _ _ h).trans rfl, (cell_of_row _ _ _ _ _ _ h).trans rfl, (cell_of_row _ _ _ _ _ _ h).trans rfl, (cell_of_row _ _ _ _ _ _ h).trans rfl, (cell_of_row _ _ _ _ _ _ h).trans rfl, (cell_of_row _ _ _ _ _ _ h).trans rfl, (cell_of_row _ _ _ _ _ _ h).trans rfl, (cell_of_row _ _ _ _ _ _ h).trans rfl, (cell_of_row _ _ _ _ _ _ h).trans rfl, (cell_of_row _ _ _ _ _ _ h).trans rfl, (cell_of_row _ _ _ _ _ _ h).trans rfl, (cell_of_row _ _ _ _ _ _ h).trans rfl, (cell_of_row _ _ _ _ _ _ h).trans rfl, (cell_of_row _ _ _ _ _ _ h).trans rfl, (cell_of_row _ _ _ _ _ _ h).trans rfl, (cell_of_row _ _ _ _ _ _ h).trans rfl⟩
  obtain ⟨x0, x1, x2, x3, x4, x5, x6, x7, x8, x9, x10, x11, x12, x13, x14, x15⟩ := HC.out w1 bl
  have HB1 := Lib.hid hb1
  have HSN : Hid (Calls Try.prog 23 #[.agg (en2 A n c)] w1 (RetP (fun v _ => v = .bool false) w1)) := by rw [← hs]; exact csound2_any A n c ns w1 (h.below hb1 hS hSi) (fun b hb => Nat.lt_of_lt_of_le (hS b hb) hb1.size) (fun b hb => Nat.lt_of_lt_of_le (hSi b hb) hb1.size) hn
  unfold en2 at hw1 HSN ⊢
  clear hb1 hR hs
  go_enter Try.func20, Try.ntmps20
  go_upto_region 1 with (fail)
  rw [← hw1]
  clear hw1
  go_wp2_with (first
    | (go_at_call 23; refine HSN.out.mono ?_; rintro e w2 ⟨v2, rfl, rfl, hb2⟩)
    | fail)
  go_ret2
  exact ⟨_, rfl, rfl, nx HB1.out hb2⟩

set_option maxHeartbeats 4000000 in
theorem enc2_yes (A : Option Addr) (n c : Nat) (ns : List (List UInt8)) (w : World) {So Si : Nat → Prop} (h : Els encS So Si w A n ns) (hS : ∀ b, So b → b < w.heap.size) (hSi : ∀ b, Si b → b < w.heap.size) (hn : n ≤ 1000000000) (hnc : n ≤ c) (hcm : c ≤ maxLen) (hs : soundB ns = true) : Calls Try.prog 20 #[.agg (en2 A n c)] w (RetP (fun v w' => ∃ A' c', v = .tuple #[.slice A' (fluW ns).b.length c', .int .i64 0] ∧ OwnB w' w.heap.size (.slice A' (fluW ns).b.length c') (fluW ns).b) w) := by
  obtain ⟨w1, hw1⟩ : ∃ w1, w1 = w.alloc (.cells (en2 A n c) 50) := ⟨_, rfl⟩
  have hb1 : Below w.heap.size w w1 := by rw [hw1]; exact bl.alloc (Nat.le_refl _) _
  have hR : w1.heap[w.heap.size]? = some (.cells (en2 A n c) 50 (0, 0)) := by rw [hw1]; exact heap_alloc_new w _
  have HC : Hid (∀ u, Below w1.heap.size w1 u → (u.cell? ⟨w.heap.size, 0, none⟩ = some (.int .i64 2) ∧ u.cell? ⟨w.heap.size, 1, none⟩ = some (.int .i64 0) ∧ u.cell? ⟨w.heap.size, 2, none⟩ = some (.slice none 0 0) ∧ u.cell? ⟨w.heap.size, 3, none⟩ = some (.int .i64 0) ∧ u.cell? ⟨w.heap.size, 4, none⟩ = some (.int .i64 0) ∧ u.cell? ⟨w.heap.size, 5, none⟩ = some (.int .i64 0) ∧ u.cell? ⟨w.heap.size, 6, none⟩ = some (.int .i64 0) ∧ u.cell? ⟨w.heap.size, 7, none⟩ = some (.int .i64 0) ∧ u.cell? ⟨w.heap.size, 8, none⟩ = some (.slice none 0 0) ∧ u.cell? ⟨w.heap.size, 9, none⟩ = some (.slice none 0 0) ∧ u.cell? ⟨w.heap.size, 10, none⟩ = some (.slice none 0 0) ∧ u.cell? ⟨w.heap.size, 11, none⟩ = some (.slice none 0 0) ∧ u.cell? ⟨w.heap.size, 12, none⟩ = some (.slice none 0 0) ∧ u.cell? ⟨w.heap.size, 13, none⟩ = some (.slice none 0 0) ∧ u.cell? ⟨w.heap.size, 14, none⟩ = some (.slice none 0 0) ∧ u.cell? ⟨w.heap.size, 15, none⟩ = some (.slice A n c))) := fun u hu => by
    have h := (hu.block _ (Array.getElem?_eq_some_iff.1 hR).1).trans hR
    exact ⟨(cell_of_row _ _ _ _ _ _ h).trans rfl, (cell_of_row _ _ _ _ _ _ h).trans rfl, (cell_of_row _ _ _ _ _ _ h).trans rfl, (cell_of_row _ _ _ _ _ _ h).trans rfl, (cell_of_row _ _ _ _ _ _ h).trans rfl, (cell_of_row _ _ _ _ _ _ h).trans rfl, (cell_of_row _ _ _ _ _ _ h).trans rfl, (cell_of_row _ _ _ _ _ _ h).trans rfl, (cell_of_row _ _ _ _ _ _ h).trans rfl, (cell_of_row _ _ _ _ _ _ h).trans rfl, (cell_of_row _ _ _ _ _ _ h).trans rfl, (cell_of_row _ _ _ _ _ _ h).trans rfl, (cell_of_row _ _ _ _ _ _ h).trans rfl, (cell_of_row _ _ _ _ _ _ h).trans rfl, (cell_of_row _ _ _ _ _ _ h).trans rfl, (cell_of_row _ _ _ _ _ _ h).trans rfl⟩
  obtain ⟨x0, x1, x2, x3, x4, x5, x6, x7, x8, x9, x10, x11, x12, x13, x14, x15⟩ := HC.out w1 bl
  have HB1 := Lib.hid hb1
  have HSN : Hid (Calls Try.prog 23 #[.agg (en2 A n c)] w1 (RetP (fun v _ => v = .bool true) w1)) := by rw [← hs]; exact csound2_any A n c ns w1 (h.below hb1 hS hSi) (fun b hb => Nat.lt_of_lt_of_le (hS b hb) hb1.size) (fun b hb => Nat.lt_of_lt_of_le (hSi b hb) hb1.size) hn
  have HRW : Hid (∀ u, Below w1.heap.size w1 u → Calls Try.prog 56 #[.agg (en2 A n c)] u (RetP (fun v w' => OwnB w' u.heap.size v (fluW ns).b) u)) := fun u hu => craw2_any A n c ns u (h.below (hb1.trans (hu.mono hb1.size)) hS hSi) (fun b hb => Nat.lt_of_lt_of_le (hS b hb) (Nat.le_trans hb1.size hu.size)) (fun b hb => Nat.lt_of_lt_of_le (hSi b hb) (Nat.le_trans hb1.size hu.size)) hn hnc hcm hs
  obtain ⟨bs, hbs⟩ : ∃ bs, bs = (fluW ns).b := ⟨_, rfl⟩
  have hl : bs.length ≤ 16384 := by rw [hbs]; have := flu_le hs; omega
  have hld : decide ((16384 : Int) < (bs.length : Int)) = false := decide_eq_false (by omega)
  rw [← hbs] at HRW ⊢
  unfold en2 at hw1 HSN HRW ⊢
  clear hb1 hR hs hbs
  go_enter Try.func20, Try.ntmps20
  go_upto_region 1 with (fail)
  rw [← hw1]
  clear hw1
  go_upto_region 4 with (first
    | (go_at_call 56; refine (HRW.out w2 hb2).mono ?_; rintro e w3 ⟨v3, rfl, ho3, hb3⟩; have HO3 := Lib.hid ho3; obtain ⟨A3, c3, rfl, _, _, _⟩ := OwnB.form ho3; have HB3 := Lib.hid (nx hb2 hb3); have HZ : Hid (w.heap.size ≤ w2.heap.size) := (nx HB1.out hb2).size)
    | (go_at_call 23; refine HSN.out.mono ?_; rintro e w2 ⟨v2, rfl, rfl, hb2⟩; obtain ⟨x0, x1, x2, x3, x4, x5, x6, x7, x8, x9, x10, x11, x12, x13, x14, x15⟩ := HC.out w2 hb2)
    | fail)
  clear x0 x1 x2 x3 x4 x5 x6 x7 x8 x9 x10 x11 x12 x13 x14 x15 ho3
  go_wp2
  go_ret2
  exact ⟨_, rfl, ⟨A3, c3, rfl, HO3.out.mono HZ.out⟩, nx HB1.out HB3.out⟩

end Go.Proofs.Ytimkdpkhdbiniaa

/- CodeClock: the law's walk (printed by gen/law15c.py). -/
namespace Go.Proofs.Ytimkdpkhdbiniaa
open Go.RowKit
set_option maxRecDepth 100000
set_option linter.unusedVariables false

theorem flu_nil : (fluW []).b = [2, 0] := by rw [fluW_b (soundB_true ⟨fun _ h => (List.not_mem_nil h).elim, by decide⟩)]; decide
set_option maxHeartbeats 4000000 in
theorem answers15_any (w : World) : Calls Try.prog 18 #[] w (LawT w) := by
  have HE : Hid (Calls Try.prog 20 #[.agg (en2 none 0 0)] w (RetP (fun v w' => ∃ b' c', v = .tuple #[.slice (some ⟨b', 0, none⟩) 2 c', .int .i64 0] ∧ w'.cell? ⟨b', 0, none⟩ = some (.int .u8 2)) w)) := by
    refine (enc2_yes none 0 0 [] w (Els.nil _ noS noS _ _) (fun _ h => h.elim) (fun _ h => h.elim) (by decide) (Nat.le_refl _) (Nat.zero_le _) (soundB_true ⟨fun _ h => (List.not_mem_nil h).elim, by decide⟩)).mono ?_
    rintro e w2 ⟨v2, rfl, ⟨A', c', rfl, ho⟩, hb2⟩
    rw [flu_nil] at ho ⊢
    obtain ⟨b3, cc3, hv3, _, _, _, _⟩ := OwnB.flat ho (by decide)
    injection hv3 with h1 h2 h3
    subst h1
    exact ⟨_, rfl, ⟨b3, c', rfl, (OwnB.cell ho (k := 0) (by decide)).trans rfl⟩, hb2⟩
  unfold en2 at HE
  go_enter Try.func18, Try.ntmps18
  go_upto_region 2 with (first
    | (go_at_call 20; refine HE.out.mono ?_; rintro e w2 ⟨v2, rfl, ⟨b3, c3, rfl, hc3⟩, hb2⟩)
    | fail)
  have HB2 := Lib.hid hb2
  go_wp2
  go_ret
  exact ⟨rfl, HB2.out⟩

/-- What Encode gave for a time, for a name. -/
structure Got (w : World) (B : Nat) (T : Bool) (bs : List UInt8) (X : Option Addr) (l c : Nat) (e : Int) : Prop where
  z : (e == 0) = T
  nz : (e != 0) = !T
  o : T = true → l = bs.length ∧ OwnB w B (.slice X l c) bs
theorem Got.below {w w' : World} {B : Nat} {T : Bool} {bs : List UInt8} {X : Option Addr} {l c : Nat} {e : Int} (h : Got w B T bs X l c e) (hb : Below w.heap.size w w') : Got w' B T bs X l c e := ⟨h.z, h.nz, fun ht => ⟨(h.o ht).1, (h.o ht).2.below hb⟩⟩
theorem Got.rd {w : World} {B : Nat} {bs : List UInt8} {X : Option Addr} {l c : Nat} {e : Int} (h : Got w B true bs X l c e) : RdB w X l bs ∧ l ≤ maxLen := by
  obtain ⟨h1, h2⟩ := h.o rfl
  subst h1
  obtain ⟨A3, c3, e3, h3, h4, h5⟩ := OwnB.form h2
  injection e3 with e1 e2 e3
  subst e1
  exact ⟨h3, Nat.le_trans h4 h5⟩
theorem enc3_any (a : Int) (w : World) : Calls Try.prog 20 #[.agg (en3 a)] w (RetP (fun v w' => ∃ X l c e, v = .tuple #[.slice X l c, .int .i64 e] ∧ Got w' w.heap.size (timeB a) (clkW a).b X l c e) w) := by
  cases h : timeB a with
  | false =>
    refine (enc3_no a w h).mono ?_
    rintro e w2 ⟨v2, rfl, rfl, hb⟩
    exact ⟨_, rfl, ⟨none, 0, 0, 2, rfl, by decide, by decide, fun h => by cases h⟩, hb⟩
  | true =>
    refine (enc3_yes a w h).mono ?_
    rintro e w2 ⟨v2, rfl, ⟨A', c', rfl, ho⟩, hb⟩
    exact ⟨_, rfl, ⟨A', _, c', 0, rfl, by decide, by decide, fun _ => ⟨rfl, ho⟩⟩, hb⟩
theorem enc2_any (A : Option Addr) (n c : Nat) (ns : List (List UInt8)) (w : World) {So Si : Nat → Prop} (h : Els encS So Si w A n ns) (hS : ∀ b, So b → b < w.heap.size) (hSi : ∀ b, Si b → b < w.heap.size) (hn : n ≤ 1000000000) (hnc : n ≤ c) (hcm : c ≤ maxLen) :
    Calls Try.prog 20 #[.agg (en2 A n c)] w (RetP (fun v w' => ∃ X l c e, v = .tuple #[.slice X l c, .int .i64 e] ∧ Got w' w.heap.size (soundB ns) (fluW ns).b X l c e) w) := by
  cases hs : soundB ns with
  | false =>
    refine (enc2_no A n c ns w h hS hSi hn hnc hcm hs).mono ?_
    rintro e w2 ⟨v2, rfl, rfl, hb⟩
    exact ⟨_, rfl, ⟨none, 0, 0, 2, rfl, by decide, by decide, fun h => by cases h⟩, hb⟩
  | true =>
    refine (enc2_yes A n c ns w h hS hSi hn hnc hcm hs).mono ?_
    rintro e w2 ⟨v2, rfl, ⟨A', c', rfl, ho⟩, hb⟩
    exact ⟨_, rfl, ⟨A', _, c', 0, rfl, by decide, by decide, fun _ => ⟨rfl, ho⟩⟩, hb⟩

set_option maxHeartbeats 16000000 in
theorem codeClock_walk (a b : Int) (A : Option Addr) (n c : Nat) (ns : List (List UInt8)) (A' : Option Addr) (m c' : Nat) (ms : List (List UInt8)) (w : World) (hn : Els encS (ltS w) (ltS w) w A n ns) (hm : Els encS (ltS w) (ltS w) w A' m ms) :
    Calls Try.prog 5 #[.int .i64 a, .int .i64 b, .slice A n c, .slice A' m c'] w (LawT w) := by
  by_cases hl : 200 < n ∨ 200 < m
  · obtain ⟨B1, hB1⟩ : ∃ x, x = decide ((200 : Int) < (n : Int)) := ⟨_, rfl⟩
    have hor : Hid (B1 = false → decide ((200 : Int) < (m : Int)) = true) := fun h => by rw [hB1] at h; simp at h ⊢; omega
    cases hb1 : decide ((200 : Int) < (n : Int)) with
    | true =>
      clear hB1 hor hl hn hm
      go_enter Try.func5, Try.ntmps5
      go_wp2_with (first
        | (go_at_call 18; refine (answers15_any w2).mono ?_; rintro e w3 ⟨rfl, hb3⟩)
        | (go_at_call 18; refine (answers15_any w).mono ?_; rintro e w2 ⟨rfl, hb2⟩)
        | fail)
      go_ret
      exact ⟨rfl, nx hb2 hb3⟩
    | false =>
      have hb2' := hor.out (hB1.trans hb1)
      clear hB1 hor hl hn hm
      go_enter Try.func5, Try.ntmps5
      go_wp2_with (first
        | (go_at_call 18; refine (answers15_any w2).mono ?_; rintro e w3 ⟨rfl, hb3⟩)
        | (go_at_call 18; refine (answers15_any w).mono ?_; rintro e w2 ⟨rfl, hb2⟩)
        | fail)
      go_ret
      exact ⟨rfl, nx hb2 hb3⟩
  · have hl1 : decide ((200 : Int) < (n : Int)) = false := decide_eq_false (by omega)
    have hl2 : decide ((200 : Int) < (m : Int)) = false := decide_eq_false (by omega)
    have HNL : Hid (n ≤ 200 ∧ m ≤ 200) := ⟨by omega, by omega⟩
    have HN : Hid (∀ u, Below w.heap.size w u → Els encS (ltS w) (ltS w) u A n ns) := fun u hu => hn.below hu (fun b h => h) (fun b h => h)
    have HM : Hid (∀ u, Below w.heap.size w u → Els encS (ltS w) (ltS w) u A' m ms) := fun u hu => hm.below hu (fun b h => h) (fun b h => h)
    obtain ⟨Ta, hTa⟩ : ∃ T, T = timeB a := ⟨_, rfl⟩
    obtain ⟨Tb, hTb⟩ : ∃ T, T = timeB b := ⟨_, rfl⟩
    obtain ⟨Sn, hSn⟩ : ∃ T, T = soundB ns := ⟨_, rfl⟩
    obtain ⟨Sm, hSm⟩ : ∃ T, T = soundB ms := ⟨_, rfl⟩
    have HEA : Hid (∀ u, Calls Try.prog 20 #[.agg (en3 a)] u (RetP (fun v w' => ∃ X l c e, v = .tuple #[.slice X l c, .int .i64 e] ∧ Got w' u.heap.size Ta (clkW a).b X l c e) u)) := fun u => by rw [hTa]; exact enc3_any a u
    have HEB : Hid (∀ u, Calls Try.prog 20 #[.agg (en3 b)] u (RetP (fun v w' => ∃ X l c e, v = .tuple #[.slice X l c, .int .i64 e] ∧ Got w' u.heap.size Tb (clkW b).b X l c e) u)) := fun u => by rw [hTb]; exact enc3_any b u
    have HEN : Hid (∀ (u : World) (Z : Option Addr) (k : Nat), OwnE encS 9 noS u w.heap.size (.slice Z n k) ns → Calls Try.prog 20 #[.agg (en2 Z n k)] u (RetP (fun v w' => ∃ X l c e, v = .tuple #[.slice X l c, .int .i64 e] ∧ Got w' u.heap.size Sn (fluW ns).b X l c e) u)) := fun u Z k ho => by
      rw [hSn]
      obtain ⟨A3, c3, e3, he, h3, h4⟩ := ho.form
      have hlen := hn.len
      injection e3 with e1 e2 e3
      subst e1 e3
      rw [hlen] at he h3
      exact enc2_any _ n _ ns u he (fun b hb => (ho.lt b hb).2) (fun _ h => h.elim) (by omega) h3 h4
    have HEM : Hid (∀ (u : World) (Z : Option Addr) (k : Nat), OwnE encS 9 noS u w.heap.size (.slice Z m k) ms → Calls Try.prog 20 #[.agg (en2 Z m k)] u (RetP (fun v w' => ∃ X l c e, v = .tuple #[.slice X l c, .int .i64 e] ∧ Got w' u.heap.size Sm (fluW ms).b X l c e) u)) := fun u Z k ho => by
      rw [hSm]
      obtain ⟨A3, c3, e3, he, h3, h4⟩ := ho.form
      have hlen := hm.len
      injection e3 with e1 e2 e3
      subst e1 e3
      rw [hlen] at he h3
      exact enc2_any _ m _ ms u he (fun b hb => (ho.lt b hb).2) (fun _ h => h.elim) (by omega) h3 h4
    have HTA : Hid (∀ u, Calls Try.prog 26 #[.int .i64 a] u (Ret (.bool Ta) u)) := fun u => by rw [hTa]; exact rtime_any a u
    have HTB : Hid (∀ u, Calls Try.prog 26 #[.int .i64 b] u (Ret (.bool Tb) u)) := fun u => by rw [hTb]; exact rtime_any b u
    have HRN : Hid (∀ u, Below w.heap.size w u → Calls Try.prog 27 #[.slice A n c] u (Ret (.bool Sn) u)) := fun u hu => by rw [hSn]; exact rsound_any A n c ns u (HN.out u hu)
    have HRM : Hid (∀ u, Below w.heap.size w u → Calls Try.prog 27 #[.slice A' m c'] u (Ret (.bool Sm) u)) := fun u hu => by rw [hSm]; exact rsound_any A' m c' ms u (HM.out u hu)
    have HXM : Hid (∀ u, Below w.heap.size w u → Calls Try.prog 28 #[.slice A n c, .slice A' m c'] u (RetN (.bool (decide (ns = ms))) u)) := fun u hu => rexact_any A A' n c m c' ns ms u (HN.out u hu) (HM.out u hu) (Nat.le_trans HNL.out.1 (by unfold maxLen; omega)) (Nat.le_trans HNL.out.2 (by unfold maxLen; omega))
    have HIA : Hid (Ta = true → Tb = true → decide ((clkW a).b = (clkW b).b) = (a == b)) := fun h1 h2 => by
      have h := clk_inj (hTa.symm.trans h1) (hTb.symm.trans h2)
      by_cases e : a = b
      · rw [decide_eq_true (h.2 e)]; simp [e]
      · rw [decide_eq_false (fun k => e (h.1 k))]; simp [e]
    have HIN : Hid (Sn = true → Sm = true → decide ((fluW ns).b = (fluW ms).b) = decide (ns = ms)) := fun h1 h2 => by
      have h := flu_inj (hSn.symm.trans h1) (hSm.symm.trans h2)
      by_cases e : ns = ms
      · rw [decide_eq_true (h.2 e), decide_eq_true e]
      · rw [decide_eq_false (fun k => e (h.1 k)), decide_eq_false e]
    unfold en3 at HEA HEB
    unfold en2 at HEN HEM
    clear hTa hTb hSn hSm hl hn hm
    go_enter Try.func5, Try.ntmps5
    go_upto_region 3 with (first
      | (go_at_call 18; refine (answers15_any w).mono ?_; rintro e w1 ⟨rfl, hb1⟩)
      | fail)
    have HB1 := Lib.hid hb1
    clear hb1 hl1 hl2
    go_upto_region 4 with (first
      | (go_at_call 20; refine (HEA.out w1).mono ?_; rintro e w2 ⟨v2, rfl, ⟨X1, l1, c1, e1, rfl, hg1⟩, hb2⟩; have HG1 := Lib.hid hg1; have HB2 := Lib.hid (nx HB1.out hb2); clear hg1 hb2)
      | fail)
    go_upto_region 5 with (first
      | (go_at_call 20; refine (HEB.out w2).mono ?_; rintro e w3 ⟨v3, rfl, ⟨X2, l2, c2, e2, rfl, hg2⟩, hb3⟩; have HG2 := Lib.hid hg2; have HB3 := Lib.hid (nx HB2.out hb3); have HC3 := Lib.hid hb3; clear hg2 hb3)
      | fail)
    go_upto_region 6 with (first
      | (go_at_call 20; refine (HEN.out w4 A4 c4 HO4.out).mono ?_; rintro e w5 ⟨v5, rfl, ⟨X3, l3, c3, e3, rfl, hg3⟩, hb5⟩; have HG3 := Lib.hid hg3; have HB5 := Lib.hid (nx HB4.out hb5); have HC5 : Hid (Below w3.heap.size w3 w5) := nx HC4.out hb5; clear hg3 hb5)
      | ((with_reducible show wpList _ _ _ (⟨some 45, _, _, _, _, _⟩ :: _) _ _); refine wpL_cloneS rfl (.tmp 43) (.tmp 44) rfl rfl A n c ns rfl (HN.out w3 HB3.out) (by have := HNL.out.1; omega) ?_; intro v4 w4 hown4 hb4; have HB4 := Lib.hid (nx HB3.out hb4); have HC4 := Lib.hid hb4; obtain ⟨A4, c4, rfl, _, _, _⟩ := OwnE.form hown4; have hlen4 := (HN.out w bl).len; rw [hlen4] at hown4 ⊢; have HO4 : Hid (OwnE encS 9 noS w4 w.heap.size (.slice A4 n c4) ns) := OwnE.base_le hown4 HB3.out.size; clear hown4 hb4 hlen4)
      | fail)
    go_upto_region 7 with (first
      | (go_at_call 20; refine (HEM.out w6 A6 c6 HO6.out).mono ?_; rintro e w7 ⟨v7, rfl, ⟨X4, l4, k4, e4, rfl, hg4⟩, hb7⟩; have HG4 := Lib.hid hg4; have HB7 := Lib.hid (nx HB6.out hb7); have HC7 : Hid (Below w5.heap.size w5 w7) := nx HC6.out hb7; clear hg4 hb7)
      | ((with_reducible show wpList _ _ _ (⟨some 53, _, _, _, _, _⟩ :: _) _ _); refine wpL_cloneS rfl (.tmp 51) (.tmp 52) rfl rfl A' m c' ms rfl (HM.out w5 HB5.out) (by have := HNL.out.2; omega) ?_; intro v6 w6 hown6 hb6; have HB6 := Lib.hid (nx HB5.out hb6); have HC6 := Lib.hid hb6; obtain ⟨A6, c6, rfl, _, _, _⟩ := OwnE.form hown6; have hlen6 := (HM.out w bl).len; rw [hlen6] at hown6 ⊢; have HO6 : Hid (OwnE encS 9 noS w6 w.heap.size (.slice A6 m c6) ms) := OwnE.base_le hown6 HB5.out.size; clear hown6 hb6 hlen6)
      | fail)
    have G1 : Hid (Got w7 w1.heap.size Ta (clkW a).b X1 l1 c1 e1) := (HG1.out.below HC3.out).below (nx HC5.out HC7.out)
    have G2 : Hid (Got w7 w2.heap.size Tb (clkW b).b X2 l2 c2 e2) := HG2.out.below (nx HC5.out HC7.out)
    have G3 : Hid (Got w7 w4.heap.size Sn (fluW ns).b X3 l3 c3 e3) := HG3.out.below HC7.out
    clear HG1 HG2 HG3 HEA HEB HEN HEM HC3 HC5 HC6 HC7 HC4
    have z1 := G1.out.z
    have z2 := G2.out.z
    have z3 := G3.out.z
    have z4 := HG4.out.z
    have b1 : (Ta != Ta) = false := by simp
    have b2 : (Tb != Tb) = false := by simp
    have b3 : (Sn != Sn) = false := by simp
    have b4 : (Sm != Sm) = false := by simp
    go_upto_region 9 with (first
      | (go_at_call 26; (with_reducible refine (HTA.out w7).mono ?_); rintro e w8 ⟨rfl, rfl⟩)
      | (go_at_call 26; (with_reducible refine (HTB.out w7).mono ?_); rintro e w8 ⟨rfl, rfl⟩)
      | (go_at_call 27; (with_reducible refine (HRN.out w7 HB7.out).mono ?_); rintro e w8 ⟨rfl, rfl⟩)
      | (go_at_call 27; (with_reducible refine (HRM.out w7 HB7.out).mono ?_); rintro e w8 ⟨rfl, rfl⟩)
      | fail)
    have n1 := G1.out.nz
    have n2 := G2.out.nz
    have n3 := G3.out.nz
    have n4 := HG4.out.nz
    clear HTA HTB HRN HRM HN HM HNL
    cases Ta with
    | false =>
      have m1 : (e1 != 0) = true := n1
      clear n1
      cases Sn with
      | false =>
        have m3 : (e3 != 0) = true := n3
        clear n3
        clear HIA
        clear G1 G2 G3 HG4 z1 z2 z3 z4 b1 b2 b3 b4
        go_wp2_with (first
          | fail)
        go_ret
        exact ⟨rfl, HB7.out⟩
      | true =>
        have m3 : (e3 != 0) = false := n3
        clear n3
        cases Sm with
        | false =>
          have m4 : (e4 != 0) = true := n4
          clear n4
          clear HIA
          clear G1 G2 G3 HG4 z1 z2 z3 z4 b1 b2 b3 b4
          go_wp2_with (first
            | fail)
          go_ret
          exact ⟨rfl, HB7.out⟩
        | true =>
          have m4 : (e4 != 0) = false := n4
          clear n4
          have HXM2 := Lib.hid (fun u hu => HXM.out u hu)
          have HSB : Hid (∀ k, Calls Try.prog 25 #[.slice X3 l3 c3, .slice X4 l4 k4] (w7.drewN k) (RetN (.bool (decide (ns = ms))) (w7.drewN k))) := fun k => by rw [← HIN.out rfl rfl]; exact same_any X3 X4 l3 c3 l4 k4 _ _ (w7.drewN k) (G3.out.rd.1.below (dN bl k)) (HG4.out.rd.1.below (dN bl k)) G3.out.rd.2 HG4.out.rd.2
          have HSB0 : Hid (Calls Try.prog 25 #[.slice X3 l3 c3, .slice X4 l4 k4] w7 (RetN (.bool (decide (ns = ms))) w7)) := by show Calls _ _ _ _ _; rw [← HIN.out rfl rfl]; exact same_any X3 X4 l3 c3 l4 k4 _ _ w7 G3.out.rd.1 HG4.out.rd.1 G3.out.rd.2 HG4.out.rd.2
          generalize hD : decide (ns = ms) = D at HSB HSB0 HXM2
          have b6 : (D == D) = true := by simp
          clear hD HIN
          clear HIA
          clear G1 G2 G3 HG4 z1 z2 z3 z4 b1 b2 b3 b4
          go_wp2_with (first
            | (go_at_call 25; (with_reducible refine (HSB0.out).mono ?_); rintro e w9 ⟨rfl, k9, rfl⟩)
            | (go_at_call 28; (with_reducible refine (HXM2.out (w7.drewN k9) (dN HB7.out _)).mono ?_); rintro e w10 ⟨rfl, k10, rfl⟩)
            | fail)
          go_ret
          exact ⟨rfl, dN HB7.out _⟩
    | true =>
      have m1 : (e1 != 0) = false := n1
      clear n1
      cases Tb with
      | false =>
        have m2 : (e2 != 0) = true := n2
        clear n2
        cases Sn with
        | false =>
          have m3 : (e3 != 0) = true := n3
          clear n3
          clear HIA
          clear G1 G2 G3 HG4 z1 z2 z3 z4 b1 b2 b3 b4
          go_wp2_with (first
            | fail)
          go_ret
          exact ⟨rfl, HB7.out⟩
        | true =>
          have m3 : (e3 != 0) = false := n3
          clear n3
          cases Sm with
          | false =>
            have m4 : (e4 != 0) = true := n4
            clear n4
            clear HIA
            clear G1 G2 G3 HG4 z1 z2 z3 z4 b1 b2 b3 b4
            go_wp2_with (first
              | fail)
            go_ret
            exact ⟨rfl, HB7.out⟩
          | true =>
            have m4 : (e4 != 0) = false := n4
            clear n4
            have HXM2 := Lib.hid (fun u hu => HXM.out u hu)
            have HSB : Hid (∀ k, Calls Try.prog 25 #[.slice X3 l3 c3, .slice X4 l4 k4] (w7.drewN k) (RetN (.bool (decide (ns = ms))) (w7.drewN k))) := fun k => by rw [← HIN.out rfl rfl]; exact same_any X3 X4 l3 c3 l4 k4 _ _ (w7.drewN k) (G3.out.rd.1.below (dN bl k)) (HG4.out.rd.1.below (dN bl k)) G3.out.rd.2 HG4.out.rd.2
            have HSB0 : Hid (Calls Try.prog 25 #[.slice X3 l3 c3, .slice X4 l4 k4] w7 (RetN (.bool (decide (ns = ms))) w7)) := by show Calls _ _ _ _ _; rw [← HIN.out rfl rfl]; exact same_any X3 X4 l3 c3 l4 k4 _ _ w7 G3.out.rd.1 HG4.out.rd.1 G3.out.rd.2 HG4.out.rd.2
            generalize hD : decide (ns = ms) = D at HSB HSB0 HXM2
            have b6 : (D == D) = true := by simp
            clear hD HIN
            clear HIA
            clear G1 G2 G3 HG4 z1 z2 z3 z4 b1 b2 b3 b4
            go_wp2_with (first
              | (go_at_call 25; (with_reducible refine (HSB0.out).mono ?_); rintro e w9 ⟨rfl, k9, rfl⟩)
              | (go_at_call 28; (with_reducible refine (HXM2.out (w7.drewN k9) (dN HB7.out _)).mono ?_); rintro e w10 ⟨rfl, k10, rfl⟩)
              | fail)
            go_ret
            exact ⟨rfl, dN HB7.out _⟩
      | true =>
        have m2 : (e2 != 0) = false := n2
        clear n2
        cases Sn with
        | false =>
          have m3 : (e3 != 0) = true := n3
          clear n3
          have HSA : Hid (Calls Try.prog 25 #[.slice X1 l1 c1, .slice X2 l2 c2] w7 (RetN (.bool (a == b)) w7)) := by rw [← HIA.out rfl rfl]; exact same_any X1 X2 l1 c1 l2 c2 _ _ w7 G1.out.rd.1 G2.out.rd.1 G1.out.rd.2 G2.out.rd.2
          have b5 : ((a == b) == (a == b)) = true := by simp
          clear HIA
          clear G1 G2 G3 HG4 z1 z2 z3 z4 b1 b2 b3 b4
          go_wp2_with (first
            | (go_at_call 25; (with_reducible refine HSA.out.mono ?_); rintro e w8 ⟨rfl, k8, rfl⟩)
            | fail)
          go_ret
          exact ⟨rfl, dN HB7.out _⟩
        | true =>
          have m3 : (e3 != 0) = false := n3
          clear n3
          cases Sm with
          | false =>
            have m4 : (e4 != 0) = true := n4
            clear n4
            have HSA : Hid (Calls Try.prog 25 #[.slice X1 l1 c1, .slice X2 l2 c2] w7 (RetN (.bool (a == b)) w7)) := by rw [← HIA.out rfl rfl]; exact same_any X1 X2 l1 c1 l2 c2 _ _ w7 G1.out.rd.1 G2.out.rd.1 G1.out.rd.2 G2.out.rd.2
            have b5 : ((a == b) == (a == b)) = true := by simp
            clear HIA
            clear G1 G2 G3 HG4 z1 z2 z3 z4 b1 b2 b3 b4
            go_wp2_with (first
              | (go_at_call 25; (with_reducible refine HSA.out.mono ?_); rintro e w8 ⟨rfl, k8, rfl⟩)
              | fail)
            go_ret
            exact ⟨rfl, dN HB7.out _⟩
          | true =>
            have m4 : (e4 != 0) = false := n4
            clear n4
            have HSA : Hid (Calls Try.prog 25 #[.slice X1 l1 c1, .slice X2 l2 c2] w7 (RetN (.bool (a == b)) w7)) := by rw [← HIA.out rfl rfl]; exact same_any X1 X2 l1 c1 l2 c2 _ _ w7 G1.out.rd.1 G2.out.rd.1 G1.out.rd.2 G2.out.rd.2
            have b5 : ((a == b) == (a == b)) = true := by simp
            have HXM2 := Lib.hid (fun u hu => HXM.out u hu)
            have HSB : Hid (∀ k, Calls Try.prog 25 #[.slice X3 l3 c3, .slice X4 l4 k4] (w7.drewN k) (RetN (.bool (decide (ns = ms))) (w7.drewN k))) := fun k => by rw [← HIN.out rfl rfl]; exact same_any X3 X4 l3 c3 l4 k4 _ _ (w7.drewN k) (G3.out.rd.1.below (dN bl k)) (HG4.out.rd.1.below (dN bl k)) G3.out.rd.2 HG4.out.rd.2
            have HSB0 : Hid (Calls Try.prog 25 #[.slice X3 l3 c3, .slice X4 l4 k4] w7 (RetN (.bool (decide (ns = ms))) w7)) := by show Calls _ _ _ _ _; rw [← HIN.out rfl rfl]; exact same_any X3 X4 l3 c3 l4 k4 _ _ w7 G3.out.rd.1 HG4.out.rd.1 G3.out.rd.2 HG4.out.rd.2
            generalize hD : decide (ns = ms) = D at HSB HSB0 HXM2
            have b6 : (D == D) = true := by simp
            clear hD HIN
            clear HIA
            clear G1 G2 G3 HG4 z1 z2 z3 z4 b1 b2 b3 b4
            go_wp2_with (first
              | (go_at_call 25; (with_reducible refine HSA.out.mono ?_); rintro e w8 ⟨rfl, k8, rfl⟩)
              | (go_at_call 25; (with_reducible refine (HSB.out k8).mono ?_); rintro e w9 ⟨rfl, k9, rfl⟩)
              | (go_at_call 28; (with_reducible refine (HXM2.out (w7.drewN (k8 + k9)) (dN HB7.out _)).mono ?_); rintro e w10 ⟨rfl, k10, rfl⟩)
              | fail)
            go_ret
            exact ⟨rfl, dN HB7.out _⟩
end Go.Proofs.Ytimkdpkhdbiniaa
