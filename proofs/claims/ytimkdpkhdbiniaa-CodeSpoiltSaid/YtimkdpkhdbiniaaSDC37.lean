/- Parts of a proof, joined: CodeB, CodeA, Law15C. -/
import Derived.Test.YtimkdpkhdbiniaaSDM02b
import Derived.Test.YtimkdpkhdbiniaaSDM02c
import Derived.Test.YtimkdpkhdbiniaaSDM02
import Derived.Test.YtimkdpkhdbiniaaSDM03
import Derived.Test.YtimkdpkhdbiniaaSDM01
/- code.blank of an empty fact. -/
namespace Go.Proofs.Ytimkdpkhdbiniaa
open Go.RowKit
set_option maxRecDepth 100000
set_option linter.unusedVariables false

/-- A fact's cells, with nothing in them. -/
def zF : Array Value := #[.slice none 0 0, .int .i64 0, .int .i64 0, .int .i64 0, .int .i64 0, .int .i64 0, .slice none 0 0, .slice none 0 0, .slice none 0 0, .slice none 0 0, .slice none 0 0, .slice none 0 0, .slice none 0 0]
set_option maxHeartbeats 4000000 in
theorem blank0_any (w : World) : Calls Try.prog 60 #[.agg zF] w (RetP (fun v _ => v = .bool true) w) := by
  obtain ⟨w1, hw1⟩ : ∃ w1, w1 = w.alloc (.cells zF 48) := ⟨_, rfl⟩
  obtain ⟨w2, hw2⟩ : ∃ w2, w2 = w1.alloc (.cells #[.slice none 0 0, .slice none 0 0, .slice none 0 0, .slice none 0 0, .slice none 0 0] 46) := ⟨_, rfl⟩
  have hb1 : Below w.heap.size w w1 := by rw [hw1]; exact bl.alloc (Nat.le_refl _) _
  have hb2 : Below w1.heap.size w1 w2 := by rw [hw2]; exact bl.alloc (Nat.le_refl _) _
  have hR : w1.heap[w.heap.size]? = some (.cells zF 48 (0, 0)) := by rw [hw1]; exact heap_alloc_new w _
  have hR2 : w2.heap[w.heap.size]? = some (.cells zF 48 (0, 0)) := (hb2.block _ (Array.getElem?_eq_some_iff.1 hR).1).trans hR
  have hD : w2.heap[w1.heap.size]? = some (.cells #[.slice none 0 0, .slice none 0 0, .slice none 0 0, .slice none 0 0, .slice none 0 0] 46 (0, 0)) := by rw [hw2]; exact heap_alloc_new w1 _
  have x8 : w1.cell? ⟨w.heap.size, 8, none⟩ = some (.slice none 0 0) := (cell_of_row _ _ _ _ _ _ hR).trans rfl
  have x9 : w1.cell? ⟨w.heap.size, 9, none⟩ = some (.slice none 0 0) := (cell_of_row _ _ _ _ _ _ hR).trans rfl
  have x10 : w1.cell? ⟨w.heap.size, 10, none⟩ = some (.slice none 0 0) := (cell_of_row _ _ _ _ _ _ hR).trans rfl
  have x11 : w1.cell? ⟨w.heap.size, 11, none⟩ = some (.slice none 0 0) := (cell_of_row _ _ _ _ _ _ hR).trans rfl
  have x12 : w1.cell? ⟨w.heap.size, 12, none⟩ = some (.slice none 0 0) := (cell_of_row _ _ _ _ _ _ hR).trans rfl
  have y0 : w2.cell? ⟨w.heap.size, 0, none⟩ = some (.slice none 0 0) := (cell_of_row _ _ _ _ _ _ hR2).trans rfl
  have y1 : w2.cell? ⟨w.heap.size, 1, none⟩ = some (.int .i64 0) := (cell_of_row _ _ _ _ _ _ hR2).trans rfl
  have y2 : w2.cell? ⟨w.heap.size, 2, none⟩ = some (.int .i64 0) := (cell_of_row _ _ _ _ _ _ hR2).trans rfl
  have y3 : w2.cell? ⟨w.heap.size, 3, none⟩ = some (.int .i64 0) := (cell_of_row _ _ _ _ _ _ hR2).trans rfl
  have y4 : w2.cell? ⟨w.heap.size, 4, none⟩ = some (.int .i64 0) := (cell_of_row _ _ _ _ _ _ hR2).trans rfl
  have y5 : w2.cell? ⟨w.heap.size, 5, none⟩ = some (.int .i64 0) := (cell_of_row _ _ _ _ _ _ hR2).trans rfl
  have y6 : w2.cell? ⟨w.heap.size, 6, none⟩ = some (.slice none 0 0) := (cell_of_row _ _ _ _ _ _ hR2).trans rfl
  have y7 : w2.cell? ⟨w.heap.size, 7, none⟩ = some (.slice none 0 0) := (cell_of_row _ _ _ _ _ _ hR2).trans rfl
  have z0 : w2.cell? ⟨w1.heap.size, 0, none⟩ = some (.slice none 0 0) := (cell_of_row _ _ _ _ _ _ hD).trans rfl
  have z1 : w2.cell? ⟨w1.heap.size, 1, none⟩ = some (.slice none 0 0) := (cell_of_row _ _ _ _ _ _ hD).trans rfl
  have z2 : w2.cell? ⟨w1.heap.size, 2, none⟩ = some (.slice none 0 0) := (cell_of_row _ _ _ _ _ _ hD).trans rfl
  have z3 : w2.cell? ⟨w1.heap.size, 3, none⟩ = some (.slice none 0 0) := (cell_of_row _ _ _ _ _ _ hD).trans rfl
  have z4 : w2.cell? ⟨w1.heap.size, 4, none⟩ = some (.slice none 0 0) := (cell_of_row _ _ _ _ _ _ hD).trans rfl
  have HB2 : Hid (Below w.heap.size w w2) := nx hb1 hb2
  unfold zF at hw1 ⊢
  clear hb1 hb2 hR hR2 hD
  go_enter Try.func60, Try.ntmps60
  go_upto_region 1 with (fail)
  rw [← hw1]
  clear hw1
  go_upto_region 2 with (fail)
  rw [← hw2]
  clear hw2 x8 x9 x10 x11 x12
  go_wp2
  go_ret
  exact ⟨_, rfl, rfl, HB2.out⟩

end Go.Proofs.Ytimkdpkhdbiniaa

/- code: entries of the kinds 2 and 3 (printed by gen/codea.py). -/
namespace Go.Proofs.Ytimkdpkhdbiniaa
open Go.RowKit
set_option maxRecDepth 100000
set_option linter.unusedVariables false

def en2 (A : Option Addr) (n c : Nat) : Array Value := #[.int .i64 2, .int .i64 0, .slice none 0 0, .int .i64 0, .int .i64 0, .int .i64 0, .int .i64 0, .int .i64 0, .slice none 0 0, .slice none 0 0, .slice none 0 0, .slice none 0 0, .slice none 0 0, .slice none 0 0, .slice none 0 0, .slice A n c]

set_option maxHeartbeats 4000000 in
theorem csound2_any (A : Option Addr) (n c : Nat) (ns : List (List UInt8)) (w : World) {So Si : Nat → Prop} (h : Els encS So Si w A n ns) (hS : ∀ b, So b → b < w.heap.size) (hSi : ∀ b, Si b → b < w.heap.size) (hn : n ≤ 1000000000) : Calls Try.prog 23 #[.agg (en2 A n c)] w (RetP (fun v _ => v = .bool (soundB ns)) w) := by
  obtain ⟨w1, hw1⟩ : ∃ w1, w1 = w.alloc (.cells (en2 A n c) 50) := ⟨_, rfl⟩
  have hb1 : Below w.heap.size w w1 := by rw [hw1]; exact bl.alloc (Nat.le_refl _) _
  have hR : w1.heap[w.heap.size]? = some (.cells (en2 A n c) 50 (0, 0)) := by rw [hw1]; exact heap_alloc_new w _
  have HC : Hid (∀ u, Below w1.heap.size w1 u → (u.cell? ⟨w.heap.size, 0, none⟩ = some (.int .i64 2) ∧ u.cell? ⟨w.heap.size, 1, none⟩ = some (.int .i64 0) ∧ u.cell? ⟨w.heap.size, 2, none⟩ = some (.slice none 0 0) ∧ u.cell? ⟨w.heap.size, 3, none⟩ = some (.int .i64 0) ∧ u.cell? ⟨w.heap.size, 4, none⟩ = some (.int .i64 0) ∧ u.cell? ⟨w.heap.size, 5, none⟩ = some (.int .i64 0) ∧ u.cell? ⟨w.heap.size, 6, none⟩ = some (.int .i64 0) ∧ u.cell? ⟨w.heap.size, 7, none⟩ = some (.int .i64 0) ∧ u.cell? ⟨w.heap.size, 8, none⟩ = some (.slice none 0 0) ∧ u.cell? ⟨w.heap.size, 9, none⟩ = some (.slice none 0 0) ∧ u.cell? ⟨w.heap.size, 10, none⟩ = some (.slice none 0 0) ∧ u.cell? ⟨w.heap.size, 11, none⟩ = some (.slice none 0 0) ∧ u.cell? ⟨w.heap.size, 12, none⟩ = some (.slice none 0 0) ∧ u.cell? ⟨w.heap.size, 13, none⟩ = some (.slice none 0 0) ∧ u.cell? ⟨w.heap.size, 14, none⟩ = some (.slice none 0 0) ∧ u.cell? ⟨w.heap.size, 15, none⟩ = some (.slice A n c))) := fun u hu => by
    have h := (hu.block _ (Array.getElem?_eq_some_iff.1 hR).1).trans hR
    exact ⟨(cell_of_row _ _ _ _ _ _ h).trans rfl, (cell_of_row _ _ _ _ _ _ h).trans rfl, (cell_of_row _ _ _ _ _ _ h).trans rfl, (cell_of_row _ _ _ _ _ _ h).trans rfl, (cell_of_row _ _ _ _ _ _ h).trans rfl, (cell_of_row _ _ _ _ _ _ h).trans rfl, (cell_of_row _ _ _ _ _ _ h).trans rfl, (cell_of_row _ _ _ _ _ _ h).trans rfl, (cell_of_row _ _ _ _ _ _ h).trans rfl, (cell_of_row _ _ _ _ _ _ h).trans rfl, (cell_of_row _ _ _ _ _ _ h).trans rfl, (cell_of_row _ _ _ _ _ _ h).trans rfl, (cell_of_row _ _ _ _ _ _ h).trans rfl, (cell_of_row _ _ _ _ _ _ h).trans rfl, (cell_of_row _ _ _ _ _ _ h).trans rfl, (cell_of_row _ _ _ _ _ _ h).trans rfl⟩
  obtain ⟨x0, x1, x2, x3, x4, x5, x6, x7, x8, x9, x10, x11, x12, x13, x14, x15⟩ := HC.out w1 bl
  have HB1 := Lib.hid hb1
  have HS : Hid (∀ u, Below w1.heap.size w1 u → Calls Try.prog 61 #[.slice A n c] u (Ret (.bool (soundB ns)) u)) := fun u hu => sound_any A n c ns u (h.below (hb1.trans (hu.mono hb1.size)) hS hSi) hn
  unfold en2 at hw1 ⊢
  clear hb1 hR h
  go_enter Try.func23, Try.ntmps23
  go_upto_region 1 with (fail)
  rw [← hw1]
  clear hw1
  go_wp2_with (first
    | (go_at_call 60; refine (blank0_any w1).mono ?_; rintro e w2 ⟨v2, rfl, rfl, hb2⟩; obtain ⟨x0, x1, x2, x3, x4, x5, x6, x7, x8, x9, x10, x11, x12, x13, x14, x15⟩ := HC.out w2 hb2)
    | (go_at_call 61; refine (HS.out w2 hb2).mono ?_; rintro e w3 ⟨rfl, rfl⟩)
    | fail)
  go_ret
  exact ⟨_, rfl, rfl, nx HB1.out hb2⟩

set_option maxHeartbeats 4000000 in
theorem craw2_any (A : Option Addr) (n c : Nat) (ns : List (List UInt8)) (w : World) {So Si : Nat → Prop} (h : Els encS So Si w A n ns) (hS : ∀ b, So b → b < w.heap.size) (hSi : ∀ b, Si b → b < w.heap.size) (hn : n ≤ 1000000000) (hnc : n ≤ c) (hcm : c ≤ maxLen) (hs : soundB ns = true) : Calls Try.prog 56 #[.agg (en2 A n c)] w (RetP (fun v w' => OwnB w' w.heap.size v (fluW ns).b) w) := by
  obtain ⟨w1, hw1⟩ : ∃ w1, w1 = w.alloc (.cells (en2 A n c) 50) := ⟨_, rfl⟩
  have hb1 : Below w.heap.size w w1 := by rw [hw1]; exact bl.alloc (Nat.le_refl _) _
  have hR : w1.heap[w.heap.size]? = some (.cells (en2 A n c) 50 (0, 0)) := by rw [hw1]; exact heap_alloc_new w _
  have HC : Hid (∀ u, Below w1.heap.size w1 u → (u.cell? ⟨w.heap.size, 0, none⟩ = some (.int .i64 2) ∧ u.cell? ⟨w.heap.size, 1, none⟩ = some (.int .i64 0) ∧ u.cell? ⟨w.heap.size, 2, none⟩ = some (.slice none 0 0) ∧ u.cell? ⟨w.heap.size, 3, none⟩ = some (.int .i64 0) ∧ u.cell? ⟨w.heap.size, 4, none⟩ = some (.int .i64 0) ∧ u.cell? ⟨w.heap.size, 5, none⟩ = some (.int .i64 0) ∧ u.cell? ⟨w.heap.size, 6, none⟩ = some (.int .i64 0) ∧ u.cell? ⟨w.heap.size, 7, none⟩ = some (.int .i64 0) ∧ u.cell? ⟨w.heap.size, 8, none⟩ = some (.slice none 0 0) ∧ u.cell? ⟨w.heap.size, 9, none⟩ = some (.slice none 0 0) ∧ u.cell? ⟨w.heap.size, 10, none⟩ = some (.slice none 0 0) ∧ u.cell? ⟨w.heap.size, 11, none⟩ = some (.slice none 0 0) ∧ u.cell? ⟨w.heap.size, 12, none⟩ = some (.slice none 0 0) ∧ u.cell? ⟨w.heap.size, 13, none⟩ = some (.slice none 0 0) ∧ u.cell? ⟨w.heap.size, 14, none⟩ = some (.slice none 0 0) ∧ u.cell? ⟨w.heap.size, 15, none⟩ = some (.slice A n c))) := fun u hu => by
    have h := (hu.block _ (Array.getElem?_eq_some_iff.1 hR).1).trans hR
    exact ⟨(cell_of_row _ _ _ _ _ _ h).trans rfl, (cell_of_row _ _ _ _ _ _ h).trans rfl, (cell_of_row _ _ _ _ _ _ h).trans rfl, (cell_of_row _ _ _ _ _ _ h).trans rfl, (cell_of_row _ _ _ _ _ _ h).trans rfl, (cell_of_row _ _ _ _ _ _ h).trans rfl, (cell_of_row _ _ _ _ _ _ h).trans rfl, (cell_of_row _ _ _ _ _ _ h).trans rfl, (cell_of_row _ _ _ _ _ _ h).trans rfl, (cell_of_row _ _ _ _ _ _ h).trans rfl, (cell_of_row _ _ _ _ _ _ h).trans rfl, (cell_of_row _ _ _ _ _ _ h).trans rfl, (cell_of_row _ _ _ _ _ _ h).trans rfl, (cell_of_row _ _ _ _ _ _ h).trans rfl, (cell_of_row _ _ _ _ _ _ h).trans rfl, (cell_of_row _ _ _ _ _ _ h).trans rfl⟩
  obtain ⟨x0, x1, x2, x3, x4, x5, x6, x7, x8, x9, x10, x11, x12, x13, x14, x15⟩ := HC.out w1 bl
  have HB1 := Lib.hid hb1
  have HL := Lib.hid (flu_le hs)
  have HNS : Hid (∀ u, Below w1.heap.size w1 u → Els encS So Si u A n ns) := fun u hu => h.below (hb1.trans (hu.mono hb1.size)) hS hSi
  have HSO : Hid (∀ b, So b → b < w1.heap.size) := fun b hb => Nat.lt_of_lt_of_le (hS b hb) hb1.size
  have HN : Hid (n ≤ 1000000000 ∧ n ≤ c ∧ c ≤ maxLen) := ⟨hn, hnc, hcm⟩
  unfold en2 at hw1 ⊢
  clear hb1 hR hs h hn hnc hcm
  go_enter Try.func56, Try.ntmps56
  go_upto_region 1 with (fail)
  rw [← hw1]
  clear hw1
  go_upto_region 2 with (first
    | (go_at_call 100; refine (wnew_any w1).mono ?_; rintro e w2 ⟨g, F, rfl, hW2, hb2⟩; obtain ⟨x0, x1, x2, x3, x4, x5, x6, x7, x8, x9, x10, x11, x12, x13, x14, x15⟩ := HC.out w2 hb2; have HW2 := Lib.hid hW2; have HB2 := Lib.hid hb2; clear hW2 hb2)
    | fail)
  go_upto_region 3 with (first
    | (go_at_call 101; refine (wnum_any w2 w1.heap.size g F Wr.nil 2 1 HW2.out (by decide)).mono ?_; rintro e w3 ⟨rfl, F3, hW3, hc3, hF3⟩; have HB3 := Lib.hid (HW2.out.bw HB2.out (Nat.le_refl _) hc3); obtain ⟨x0, x1, x2, x3, x4, x5, x6, x7, x8, x9, x10, x11, x12, x13, x14, x15⟩ := HC.out w3 HB3.out; have HW3 := Lib.hid hW3; clear hW3 hc3 hF3)
    | fail)
  have HD : Hid (∀ b, So b → b < w3.heap.size ∧ ¬ F3 b) := fun b hb => ⟨Nat.lt_of_lt_of_le (HSO.out b hb) HB3.out.size, fun hF => by have := (HW3.out.F_lt b hF).1; have := HSO.out b hb; omega⟩
  go_upto_region 10 with (first
    | (go_at_call 103; refine (name_any w3 w1.heap.size g F3 _ A n c ns false HW3.out (HNS.out w3 HB3.out) HD.out HN.out.1 HN.out.2.1 HN.out.2.2 (by decide) (by decide)).mono ?_; rintro e w4 ⟨rfl, F4, hW4, hc4, hF4⟩; have HB4 := Lib.hid (HW3.out.bw HB3.out (Nat.le_refl _) hc4); have HW4 := Lib.hid hW4; clear hW4 hc4 hF4)
    | fail)
  clear x0 x1 x2 x3 x4 x5 x6 x7 x8 x9 x10 x11 x12 x13 x14 x15
  go_wp2_with (first
    | (go_at_call 104; refine (wbytes_any w4 w1.heap.size g F4 (fluW ns) HW4.out (by have := HL.out; omega)).mono ?_; rintro e w5 ⟨v5, rfl, ho5, hb5⟩; have HB5 := Lib.hid (nx HB4.out hb5))
    | fail)
  go_ret
  exact ⟨_, rfl, ho5.mono (nx HB1.out HB4.out).size, nx HB1.out HB5.out⟩

set_option maxHeartbeats 4000000 in
theorem enc2_yes (A : Option Addr) (n c : Nat) (ns : List (List UInt8)) (w : World) {So Si : Nat → Prop} (h : Els encS So Si w A n ns) (hS : ∀ b, So b → b < w.heap.size) (hSi : ∀ b, Si b → b < w.heap.size) (hn : n ≤ 1000000000) (hnc : n ≤ c) (hcm : c ≤ maxLen) (hs : soundB ns = true) : Calls Try.prog 20 #[.agg (en2 A n c)] w (RetP (fun v w' => ∃ A' c', v = .tuple #[.slice A' (fluW ns).b.length c', .int .i64 0] ∧ OwnB w' w.heap.size (.slice A' (fluW ns).b.length c') (fluW ns).b) w) := by
  obtain ⟨w1, hw1⟩ : ∃ w1, w1 = w.alloc (.cells (en2 A n c) 50) := ⟨_, rfl⟩
  have hb1 : Below w.heap.size w w1 := by rw [hw1]; exact bl.alloc (Nat.le_refl _) _
  have hR : w1.heap[w.heap.size]? = some (.cells (en2 A n c) 50 (0, 0)) := by rw [hw1]; exact heap_alloc_new w _
  have HC : Hid (∀ u, Below w1.heap.size w1 u → (u.cell? ⟨w.heap.size, 0, none⟩ = some (.int .i64 2) ∧ u.cell? ⟨w.heap.size, 1, none⟩ = some (.int .i64 0) ∧ u.cell? ⟨w.heap.size, 2, none⟩ = some (.slice none 0 0) ∧ u.cell? ⟨w.heap.size, 3, none⟩ = some (.int .i64 0) ∧ u.cell? ⟨w.heap.size, 4, none⟩ = some (.int .i64 0) ∧ u.cell? ⟨w.heap.size, 5, none⟩ = some (.int .i64 0) ∧ u.cell? ⟨w.heap.size, 6, none⟩ = some (.int .i64 0) ∧ u.cell? ⟨w.heap.size, 7, none⟩ = some (.int .i64 0) ∧ u.cell? ⟨w.heap.size, 8, none⟩ = some (.slice none 0 0) ∧ u.cell? ⟨w.heap.size, 9, none⟩ = some (.slice none 0 0) ∧ u.cell? ⟨w.heap.size, 10, none⟩ = some (.slice none 0 0) ∧ u.cell? ⟨w.heap.size, 11, none⟩ = some (.slice none 0 0) ∧ u.cell? ⟨w.heap.size, 12, none⟩ = some (.slice none 0 0) ∧ u.cell? ⟨w.heap.size, 13, none⟩ = some (.slice none 0 0) ∧ u.cell? ⟨w.heap.size, 14, none⟩ = some (.slice none 0 0) ∧ u.cell? ⟨w.heap.size, 15, none⟩ = some (.slice A n c))) := fun u hu => by
    have h := (hu.block _ (Array.getElem?_eq_some_iff.1 hR).1).trans hR
    exact ⟨(cell_of_row _ _ _ _ _ _ h).trans rfl, (cell_of_row _ _ _ _ _ _ h).trans rfl, (cell_of_row _ _ _ _ _ _ h).trans rfl, (cell_of_row _ _ _ _ _ _ h).trans rfl, (cell_of_row _ _ _ _ _ _ h).trans rfl, (cell_of_row _ _ _ _ _ _ h).trans rfl, (cell_of_row _ _ _ _ _ _ h).trans rfl, (cell_of_row _ _ _ _ _ _ h).trans rfl, (cell_of_row _ _ _ _ _ _ h).trans rfl, (cell_of_row _ _ _ _ _ _ h).trans rfl, (cell_of_row _ _ _ _ _ _ h).trans rfl, (cell_of_row _ _ _ _ _ _ h).trans rfl, (cell_of_row _ _ _ _ _ _ h).trans rfl, (cell_of_row _ _ _ _ _ _ h).trans rfl, (cell_of_row _ _ _ _ _ _ h).trans rfl, (cell_of_row _ _ _ _ _ _ h).trans rfl⟩
  obtain ⟨x0, x1, x2, x3, x4, x5, x6, x7, x8, x9, x10, x11, x12, x13, x14, x15⟩ := HC.out w1 bl
  have HB1 := Lib.hid hb1
  have HSN : Hid (Calls Try.prog 23 #[.agg (en2 A n c)] w1 (RetP (fun v _ => v = .bool true) w1)) := by rw [← hs]; exact csound2_any A n c ns w1 (h.below hb1 hS hSi) (fun b hb => Nat.lt_of_lt_of_le (hS b hb) hb1.size) (fun b hb => Nat.lt_of_lt_of_le (hSi b hb) hb1.size) hn
  have HRW : Hid (∀ u, Below w1.heap.size w1 u → Calls Try.prog 56 #[.agg (en2 A n c)] u (RetP (fun v w' => OwnB w' u.heap.size v (fluW ns).b) u)) := fun u hu => craw2_any A n c ns u (h.below (hb1.trans (hu.mono hb1.size)) hS hSi) (fun b hb => Nat.lt_of_lt_of_le (hS b hb) (Nat.le_trans hb1.size hu.size)) (fun b hb => Nat.lt_of_lt_of_le (hSi b hb) (Nat.le_trans hb1.size hu.size)) hn hnc hcm hs
  obtain ⟨bs, hbs⟩ : ∃ bs, bs = (fluW ns).b := ⟨_, rfl⟩
  have hl : bs.length ≤ 16384 := by rw [hbs]; have := flu_le hs; omega
  have hld : decide ((16384 : Int) < (bs.length : Int)) = false := decide_eq_false (by omega)
  rw [← hbs] at HRW ⊢
  unfold en2 at hw1 HSN HRW ⊢
  clear hb1 hR hs hbs
  go_enter Try.func20, Try.ntmps20
  go_upto_region 1 with (fail)
  rw [← hw1]
  clear hw1
  go_upto_region 4 with (first
    | (go_at_call 56; refine (HRW.out w2 hb2).mono ?_; rintro e w3 ⟨v3, rfl, ho3, hb3⟩; have HO3 := Lib.hid ho3; obtain ⟨A3, c3, rfl, _, _, _⟩ := OwnB.form ho3; have HB3 := Lib.hid (nx hb2 hb3); have HZ : Hid (w.heap.size ≤ w2.heap.size) := (nx HB1.out hb2).size)
    | (go_at_call 23; refine HSN.out.mono ?_; rintro e w2 ⟨v2, rfl, rfl, hb2⟩; obtain ⟨x0, x1, x2, x3, x4, x5, x6, x7, x8, x9, x10, x11, x12, x13, x14, x15⟩ := HC.out w2 hb2)
    | fail)
  clear x0 x1 x2 x3 x4 x5 x6 x7 x8 x9 x10 x11 x12 x13 x14 x15 ho3
  go_wp2
  go_ret2
  exact ⟨_, rfl, ⟨A3, c3, rfl, HO3.out.mono HZ.out⟩, nx HB1.out HB3.out⟩

end Go.Proofs.Ytimkdpkhdbiniaa

/- CodeClock: the law's walk (printed by gen/law15c.py). -/
namespace Go.Proofs.Ytimkdpkhdbiniaa
open Go.RowKit
set_option maxRecDepth 100000
set_option linter.unusedVariables false

theorem flu_nil : (fluW []).b = [2, 0] := by rw [fluW_b (soundB_true ⟨fun _ h => (List.not_mem_nil h).elim, by decide⟩)]; decide
set_option maxHeartbeats 4000000 in
theorem answers15_any (w : World) : Calls Try.prog 18 #[] w (LawT w) := by
  have HE : Hid (Calls Try.prog 20 #[.agg (en2 none 0 0)] w (RetP (fun v w' => ∃ b' c', v = .tuple #[.slice (some ⟨b', 0, none⟩) 2 c', .int .i64 0] ∧ w'.cell? ⟨b', 0, none⟩ = some (.int .u8 2)) w)) := by
    refine (enc2_yes none 0 0 [] w (Els.nil _ noS noS _ _) (fun _ h => h.elim) (fun _ h => h.elim) (by decide) (Nat.le_refl _) (Nat.zero_le _) (soundB_true ⟨fun _ h => (List.not_mem_nil h).elim, by decide⟩)).mono ?_
    rintro e w2 ⟨v2, rfl, ⟨A', c', rfl, ho⟩, hb2⟩
    rw [flu_nil] at ho ⊢
    obtain ⟨b3, cc3, hv3, _, _, _, _⟩ := OwnB.flat ho (by decide)
    injection hv3 with h1 h2 h3
    subst h1
    exact ⟨_, rfl, ⟨b3, c', rfl, (OwnB.cell ho (k := 0) (by decide)).trans rfl⟩, hb2⟩
  unfold en2 at HE
  go_enter Try.func18, Try.ntmps18
  go_upto_region 2 with (first
    | (go_at_call 20; refine HE.out.mono ?_; rintro e w2 ⟨v2, rfl, ⟨b3, c3, rfl, hc3⟩, hb2⟩)
    | fail)
  have HB2 := Lib.hid hb2
  go_wp2
  go_ret
  exact ⟨rfl, HB2.out⟩

end Go.Proofs.Ytimkdpkhdbiniaa
