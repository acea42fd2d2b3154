/- rdata: may a type say such texts? -/
import Derived.Test.YtjpkddmdhdmhgaaRd1
namespace Go.Proofs.Ytjpkddmdhdmhgaa
open Go.RowKit
set_option maxRecDepth 100000

theorem long_any (l : List UInt8) (w : World) : Calls Try.prog 92 #[.string (bstr l)] w (Ret (.bool (decide (255 < l.length))) w) := by
  have hbs := bstr_size l
  go_enter Try.func92, Try.ntmps92
  go_wp2
  go_ret
  refine ⟨ret_bool ?_, rfl⟩
  rw [Bool.eq_iff_iff, decide_eq_true_iff, decide_eq_true_iff]
  omega
/-- Some text is too long. -/
def LongT (ns : List (List UInt8)) : Prop := ¬ ∀ l ∈ ns, l.length ≤ 255

set_option maxHeartbeats 1000000 in
theorem index2_any (A : Option Addr) (n c : Nat) (ns : List (List UInt8)) (w : World) {So Si : Nat → Prop} (h : Els encS So Si w A n ns) (hn : n ≤ 1000000000) :
    Calls Try.prog 104 #[.slice A n c, .func (.func 92) #[] #[]] w (RetIdx (LongT ns) w) := by
  have hl := h.len
  subst hl
  go_enter Try.func104, Try.ntmps104
  go_wp2
  go_loop [5, 8] (fun _ iv => ∃ k : Nat, iv = .int .i64 k ∧ k ≤ ns.length ∧ Hid (∀ l ∈ ns.take k, l.length ≤ 255)) (fun _ iv => ns.length - (intOf iv).toNat)
  case atStart => exact ⟨0, rfl, Nat.zero_le _, fun l hl => by simp at hl⟩
  case round =>
    obtain ⟨k, rfl, hk, HK⟩ := hrel
    by_cases hlt : k < ns.length
    · obtain ⟨l, hx⟩ : ∃ l, ns[k]? = some l := ⟨_, List.getElem?_eq_getElem hlt⟩
      obtain ⟨b, off, rfl, _, hc, hll⟩ := strs_at h hx
      have HX := Lib.hid hx
      clear hx
      by_cases hb : l.length ≤ 255
      · have hq := Lib.hid (long_any l w)
        rw [show decide (255 < l.length) = false from decide_eq_false (by omega)] at hq
        go_wp2_with (go_at_call 92; refine hq.out.mono ?_; rintro e w1 ⟨rfl, rfl⟩)
        go_round
        case rel => exact ⟨k + 1, by go_num, by omega, fun m hm => by rw [List.take_add_one, HX.out, Option.toList_some, List.mem_append, List.mem_singleton] at hm; exact hm.elim (HK.out m) (fun e => by rw [e]; exact hb)⟩
        case measure => simp [intOf]; omega
      · have hq := Lib.hid (long_any l w)
        rw [show decide (255 < l.length) = true from decide_eq_true (by omega)] at hq
        have HB := Lib.hid hb
        clear hb
        go_wp2_with (go_at_call 92; refine hq.out.mono ?_; rintro e w1 ⟨rfl, rfl⟩)
        go_ret
        exact ⟨_, rfl, ⟨fun _ ha => HB.out (ha l (List.mem_of_getElem? HX.out)), fun _ => Int.natCast_nonneg _⟩, rfl⟩
    · obtain rfl : k = ns.length := by omega
      rw [List.take_length] at HK
      go_wp2
      go_ret
      exact ⟨-1, rfl, ⟨fun h => absurd h (by decide), fun h => absurd HK.out h⟩, rfl⟩

theorem contains2_any (A : Option Addr) (n c : Nat) (ns : List (List UInt8)) (w : World) {So Si : Nat → Prop} (h : Els encS So Si w A n ns) (hn : n ≤ 1000000000) (b : Bool) (hb : b = true ↔ LongT ns) :
    Calls Try.prog 91 #[.slice A n c, .func (.func 92) #[] #[]] w (Ret (.bool b) w) := by
  have HB := Lib.hid hb
  clear hb
  go_enter Try.func91, Try.ntmps91
  go_wp2_with (go_at_call 104; refine (index2_any A n c ns _ h hn).mono ?_; rintro e w1 ⟨i, rfl, hi, rfl⟩; have HI := Lib.hid hi; clear hi)
  go_ret
  refine ⟨ret_bool ?_, rfl⟩
  show decide (0 ≤ i) = b
  rw [Bool.eq_iff_iff, decide_eq_true_iff, HI.out, HB.out]

theorem indexI0_any (f : Value) (w : World) : Calls Try.prog 103 #[.slice none 0 0, f] w (Ret (.int .i64 (-1)) w) := by
  go_enter Try.func103, Try.ntmps103
  go_wp2
  go_loop [8] (fun iv => iv = .int .i64 0) (fun _ => 0)
  case atStart => exact rfl
  case round =>
    obtain rfl := hrel
    go_wp2
    go_ret
    exact ⟨rfl, rfl⟩
theorem containsI0_any (f : Value) (w : World) : Calls Try.prog 89 #[.slice none 0 0, f] w (Ret (.bool false) w) := by
  go_enter Try.func89, Try.ntmps89
  go_wp2_with (first
    | (go_at_call 103; refine (indexI0_any f w).mono ?_; rintro e w1 ⟨rfl, rfl⟩)
    | fail)
  go_ret
  exact ⟨rfl, rfl⟩

set_option maxHeartbeats 2000000 in
theorem soundT_any (A : Option Addr) (n c : Nat) (ts : List (List UInt8)) (w : World) (h : RdE encS w A n ts) (hn1 : 1 ≤ n) (hn : n ≤ 1000000) (b : Bool) (hb : b = true ↔ n ≤ 64 ∧ ¬ LongT ts) :
    Calls Try.prog 61 #[.int .i64 16, .agg #[.slice none 0 0, .slice none 0 0, .slice none 0 0, .slice none 0 0, .slice A n c]] w (RetP (fun v _ => v = .bool b) w) := by
  have hmf : ∀ (fn : Fn) (first cap : Array Value) (w : World), (Instr.makeFunc fn first cap).run Try.prog w = .ok (.func fn first cap) w := fun _ _ _ _ => rfl
  obtain ⟨w1, hw1⟩ : ∃ w1, w1 = w.alloc (.cells #[.slice none 0 0, .slice none 0 0, .slice none 0 0, .slice none 0 0, .slice A n c] 102) := ⟨_, rfl⟩
  have hb1 : Below w.heap.size w w1 := by rw [hw1]; exact bl.alloc (Nat.le_refl _) _
  have hx : ∀ j : Nat, w1.cell? ⟨w.heap.size, j, none⟩ = (#[.slice none 0 0, .slice none 0 0, .slice none 0 0, .slice none 0 0, .slice A n c] : Array Value)[j]? := fun j => by rw [hw1]; exact new_cell w _ _ j
  have x0 : w1.cell? ⟨w.heap.size, 0, none⟩ = some (.slice none 0 0) := hx 0
  have x1 : w1.cell? ⟨w.heap.size, 1, none⟩ = some (.slice none 0 0) := hx 1
  have x2 : w1.cell? ⟨w.heap.size, 2, none⟩ = some (.slice none 0 0) := hx 2
  have x3 : w1.cell? ⟨w.heap.size, 3, none⟩ = some (.slice none 0 0) := hx 3
  have x4 : w1.cell? ⟨w.heap.size, 4, none⟩ = some (.slice A n c) := hx 4
  clear hx
  go_enter Try.func61, Try.ntmps61
  go_upto_region 1 with (fail)
  rw [← hw1]
  clear hw1
  go_upto_region 2 with (first
    | (go_at_call 88; refine (shapesT_any w1).mono ?_; rintro e w2 ⟨v2, rfl, rfl, hb2⟩; unfold shpV shpT)
    | fail)
  obtain ⟨w3, hw3⟩ : ∃ w3, w3 = w2.alloc (.cells #[.int .i64 0, .bool false, .bool false, .bool false, .int .i64 0, .int .i64 0, .bool true, .bool false] 139) := ⟨_, rfl⟩
  have hb3 : Below w2.heap.size w2 w3 := by rw [hw3]; exact bl.alloc (Nat.le_refl _) _
  have hy : ∀ j : Nat, w3.cell? ⟨w2.heap.size, j, none⟩ = (#[Value.int .i64 0, .bool false, .bool false, .bool false, .int .i64 0, .int .i64 0, .bool true, .bool false] : Array Value)[j]? := fun j => by rw [hw3]; exact new_cell w2 _ _ j
  have y0 : w3.cell? ⟨w2.heap.size, 0, none⟩ = some (.int .i64 0) := hy 0
  have y1 : w3.cell? ⟨w2.heap.size, 1, none⟩ = some (.bool false) := hy 1
  have y2 : w3.cell? ⟨w2.heap.size, 2, none⟩ = some (.bool false) := hy 2
  have y4 : w3.cell? ⟨w2.heap.size, 4, none⟩ = some (.int .i64 0) := hy 4
  have y6 : w3.cell? ⟨w2.heap.size, 6, none⟩ = some (.bool true) := hy 6
  have hb23 := nx hb2 hb3
  have z0 := below_cell hb23 x0
  have z1 := below_cell hb23 x1
  have z2 := below_cell hb23 x2
  have z3 := below_cell hb23 x3
  have z4 := below_cell hb23 x4
  have hbA := nx hb1 hb23
  have hts := h.below hbA
  rw [← hw3]
  clear hw3 hy x0 x1 x2 x3 x4
  by_cases h64 : n ≤ 64
  · by_cases hl : LongT ts
    · have hB : b = false := by
        cases b with
        | false => rfl
        | true => exact absurd hl (hb.1 rfl).2
      subst hB
      clear hb
      have hct := Lib.hid (contains2_any A n c ts w3 hts (by omega) true ⟨fun _ => hl, fun _ => rfl⟩)
      clear hl
      go_wp2_with (first
        | (go_at_call 91; refine hct.out.mono ?_; rintro e w4 ⟨rfl, rfl⟩)
        | (go_at_call 89; refine (containsI0_any _ w3).mono ?_; rintro e w4 ⟨rfl, rfl⟩)
        | fail)
      go_ret
      exact ⟨_, rfl, rfl, hbA⟩
    · have hB : b = true := hb.2 ⟨h64, hl⟩
      subst hB
      clear hb
      have hct := Lib.hid (contains2_any A n c ts w3 hts (by omega) false ⟨(fun e => by cases e), fun e => absurd e hl⟩)
      clear hl
      go_wp2_with (first
        | (go_at_call 91; refine hct.out.mono ?_; rintro e w4 ⟨rfl, rfl⟩)
        | (go_at_call 89; refine (containsI0_any _ w3).mono ?_; rintro e w4 ⟨rfl, rfl⟩)
        | fail)
      go_ret
      exact ⟨_, rfl, rfl, hbA⟩
  · have hB : b = false := by
      cases b with
      | false => rfl
      | true => exact absurd (hb.1 rfl).1 h64
    subst hB
    clear hb
    go_wp2_with (first
      | (go_at_call 89; refine (containsI0_any _ w3).mono ?_; rintro e w4 ⟨rfl, rfl⟩)
      | fail)
    go_ret
    exact ⟨_, rfl, rfl, hbA⟩
end Go.Proofs.Ytjpkddmdhdmhgaa
