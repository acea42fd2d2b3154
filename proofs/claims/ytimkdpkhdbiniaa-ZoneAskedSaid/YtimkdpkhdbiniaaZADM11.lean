/- Parts of a proof, joined: RSnd. -/
import Derived.Test.YtimkdpkhdbiniaaZADM02
import Derived.Test.YtimkdpkhdbiniaaZADM05
import Derived.Test.YtimkdpkhdbiniaaZADM03
/- The reference: which data may be (printed by gen/rsound.py). -/
namespace Go.Proofs.Ytimkdpkhdbiniaa
open Go.RowKit
set_option maxRecDepth 100000
set_option linter.unusedVariables false

/-- Is nothing there but what is told? -/
def EmpN (n0 n1 n2 n3 n4 : Nat) (b h m n t : Bool) : Prop := (b = true ∨ n0 = 0) ∧ (h = true ∨ n1 = 0) ∧ (m = true ∨ n2 = 0) ∧ (n = true ∨ n3 = 0) ∧ (t = true ∨ n4 = 0)
instance (n0 n1 n2 n3 n4 : Nat) (b h m n t : Bool) : Decidable (EmpN n0 n1 n2 n3 n4 b h m n t) := by unfold EmpN; infer_instance
set_option maxHeartbeats 2000000 in
theorem empA_any (A0 A1 A2 A3 A4 : Option Addr) (n0 n1 n2 n3 n4 c0 c1 c2 c3 c4 : Nat) (w : World) : Calls Try.prog 129 #[.agg #[.slice A0 n0 c0, .slice A1 n1 c1, .slice A2 n2 c2, .slice A3 n3 c3, .slice A4 n4 c4], .bool true, .bool false, .bool false, .bool false, .bool false] w (RetP (fun v _ => v = .bool (decide (EmpN n0 n1 n2 n3 n4 true false false false false))) w) := by
  obtain ⟨w1, hw1⟩ : ∃ w1, w1 = w.alloc (.cells #[.slice A0 n0 c0, .slice A1 n1 c1, .slice A2 n2 c2, .slice A3 n3 c3, .slice A4 n4 c4] 46) := ⟨_, rfl⟩
  have hb1 : Below w.heap.size w w1 := by rw [hw1]; exact bl.alloc (Nat.le_refl _) _
  have x0 : w1.cell? ⟨w.heap.size, 0, none⟩ = some (.slice A0 n0 c0) := by rw [hw1]; exact new_cell w _ _ 0
  have x1 : w1.cell? ⟨w.heap.size, 1, none⟩ = some (.slice A1 n1 c1) := by rw [hw1]; exact new_cell w _ _ 1
  have x2 : w1.cell? ⟨w.heap.size, 2, none⟩ = some (.slice A2 n2 c2) := by rw [hw1]; exact new_cell w _ _ 2
  have x3 : w1.cell? ⟨w.heap.size, 3, none⟩ = some (.slice A3 n3 c3) := by rw [hw1]; exact new_cell w _ _ 3
  have x4 : w1.cell? ⟨w.heap.size, 4, none⟩ = some (.slice A4 n4 c4) := by rw [hw1]; exact new_cell w _ _ 4
  obtain ⟨eb, heb⟩ : ∃ eb, eb = decide (EmpN n0 n1 n2 n3 n4 true false false false false) := ⟨_, rfl⟩
  have he : eb = true ↔ EmpN n0 n1 n2 n3 n4 true false false false false := by rw [heb]; exact decide_eq_true_iff
  rw [← heb]
  clear heb
  unfold EmpN at he
  have HE : Hid (∀ b : Bool, (b = true → eb = true) → (eb = true → b = true) → eb = b) := fun b h1 h2 => by cases b <;> cases eb <;> simp_all
  go_enter Try.func129, Try.ntmps129
  go_upto_region 1 with (fail)
  rw [← hw1]
  clear hw1
  by_cases h1 : (n1 : Int) = 0
  case neg =>
    obtain rfl : eb = false := HE.out false (fun h => by cases h) (fun h => absurd ((he.1 h).2.1) (fun h => by simp at h; omega))
    clear HE he
    go_wp2
    go_ret
    exact ⟨_, rfl, by first | rfl | exact congrArg Value.bool (decide_eq_false h1), hb1⟩
  by_cases h2 : (n2 : Int) = 0
  case neg =>
    obtain rfl : eb = false := HE.out false (fun h => by cases h) (fun h => absurd ((he.1 h).2.2.1) (fun h => by simp at h; omega))
    clear HE he
    go_wp2
    go_ret
    exact ⟨_, rfl, by first | rfl | exact congrArg Value.bool (decide_eq_false h2), hb1⟩
  by_cases h3 : (n3 : Int) = 0
  case neg =>
    obtain rfl : eb = false := HE.out false (fun h => by cases h) (fun h => absurd ((he.1 h).2.2.2.1) (fun h => by simp at h; omega))
    clear HE he
    go_wp2
    go_ret
    exact ⟨_, rfl, by first | rfl | exact congrArg Value.bool (decide_eq_false h3), hb1⟩
  by_cases h4 : (n4 : Int) = 0
  case neg =>
    obtain rfl : eb = false := HE.out false (fun h => by cases h) (fun h => absurd ((he.1 h).2.2.2.2) (fun h => by simp at h; omega))
    clear HE he
    go_wp2
    go_ret
    exact ⟨_, rfl, by first | rfl | exact congrArg Value.bool (decide_eq_false h4), hb1⟩
  obtain rfl : eb = true := he.2 ⟨.inl rfl, .inr (by omega), .inr (by omega), .inr (by omega), .inr (by omega)⟩
  clear HE he
  go_wp2
  go_ret
  exact ⟨_, rfl, by first | rfl | exact congrArg Value.bool (decide_eq_true h4), hb1⟩

set_option maxHeartbeats 2000000 in
theorem empN_any (A0 A1 A2 A3 A4 : Option Addr) (n0 n1 n2 n3 n4 c0 c1 c2 c3 c4 : Nat) (w : World) : Calls Try.prog 129 #[.agg #[.slice A0 n0 c0, .slice A1 n1 c1, .slice A2 n2 c2, .slice A3 n3 c3, .slice A4 n4 c4], .bool false, .bool true, .bool false, .bool false, .bool false] w (RetP (fun v _ => v = .bool (decide (EmpN n0 n1 n2 n3 n4 false true false false false))) w) := by
  obtain ⟨w1, hw1⟩ : ∃ w1, w1 = w.alloc (.cells #[.slice A0 n0 c0, .slice A1 n1 c1, .slice A2 n2 c2, .slice A3 n3 c3, .slice A4 n4 c4] 46) := ⟨_, rfl⟩
  have hb1 : Below w.heap.size w w1 := by rw [hw1]; exact bl.alloc (Nat.le_refl _) _
  have x0 : w1.cell? ⟨w.heap.size, 0, none⟩ = some (.slice A0 n0 c0) := by rw [hw1]; exact new_cell w _ _ 0
  have x1 : w1.cell? ⟨w.heap.size, 1, none⟩ = some (.slice A1 n1 c1) := by rw [hw1]; exact new_cell w _ _ 1
  have x2 : w1.cell? ⟨w.heap.size, 2, none⟩ = some (.slice A2 n2 c2) := by rw [hw1]; exact new_cell w _ _ 2
  have x3 : w1.cell? ⟨w.heap.size, 3, none⟩ = some (.slice A3 n3 c3) := by rw [hw1]; exact new_cell w _ _ 3
  have x4 : w1.cell? ⟨w.heap.size, 4, none⟩ = some (.slice A4 n4 c4) := by rw [hw1]; exact new_cell w _ _ 4
  obtain ⟨eb, heb⟩ : ∃ eb, eb = decide (EmpN n0 n1 n2 n3 n4 false true false false false) := ⟨_, rfl⟩
  have he : eb = true ↔ EmpN n0 n1 n2 n3 n4 false true false false false := by rw [heb]; exact decide_eq_true_iff
  rw [← heb]
  clear heb
  unfold EmpN at he
  have HE : Hid (∀ b : Bool, (b = true → eb = true) → (eb = true → b = true) → eb = b) := fun b h1 h2 => by cases b <;> cases eb <;> simp_all
  go_enter Try.func129, Try.ntmps129
  go_upto_region 1 with (fail)
  rw [← hw1]
  clear hw1
  by_cases h0 : (n0 : Int) = 0
  case neg =>
    obtain rfl : eb = false := HE.out false (fun h => by cases h) (fun h => absurd ((he.1 h).1) (fun h => by simp at h; omega))
    clear HE he
    go_wp2
    go_ret
    exact ⟨_, rfl, by first | rfl | exact congrArg Value.bool (decide_eq_false h0), hb1⟩
  by_cases h2 : (n2 : Int) = 0
  case neg =>
    obtain rfl : eb = false := HE.out false (fun h => by cases h) (fun h => absurd ((he.1 h).2.2.1) (fun h => by simp at h; omega))
    clear HE he
    go_wp2
    go_ret
    exact ⟨_, rfl, by first | rfl | exact congrArg Value.bool (decide_eq_false h2), hb1⟩
  by_cases h3 : (n3 : Int) = 0
  case neg =>
    obtain rfl : eb = false := HE.out false (fun h => by cases h) (fun h => absurd ((he.1 h).2.2.2.1) (fun h => by simp at h; omega))
    clear HE he
    go_wp2
    go_ret
    exact ⟨_, rfl, by first | rfl | exact congrArg Value.bool (decide_eq_false h3), hb1⟩
  by_cases h4 : (n4 : Int) = 0
  case neg =>
    obtain rfl : eb = false := HE.out false (fun h => by cases h) (fun h => absurd ((he.1 h).2.2.2.2) (fun h => by simp at h; omega))
    clear HE he
    go_wp2
    go_ret
    exact ⟨_, rfl, by first | rfl | exact congrArg Value.bool (decide_eq_false h4), hb1⟩
  obtain rfl : eb = true := he.2 ⟨.inr (by omega), .inl rfl, .inr (by omega), .inr (by omega), .inr (by omega)⟩
  clear HE he
  go_wp2
  go_ret
  exact ⟨_, rfl, by first | rfl | exact congrArg Value.bool (decide_eq_true h4), hb1⟩

set_option maxHeartbeats 2000000 in
theorem empM_any (A0 A1 A2 A3 A4 : Option Addr) (n0 n1 n2 n3 n4 c0 c1 c2 c3 c4 : Nat) (w : World) : Calls Try.prog 129 #[.agg #[.slice A0 n0 c0, .slice A1 n1 c1, .slice A2 n2 c2, .slice A3 n3 c3, .slice A4 n4 c4], .bool false, .bool true, .bool false, .bool true, .bool false] w (RetP (fun v _ => v = .bool (decide (EmpN n0 n1 n2 n3 n4 false true false true false))) w) := by
  obtain ⟨w1, hw1⟩ : ∃ w1, w1 = w.alloc (.cells #[.slice A0 n0 c0, .slice A1 n1 c1, .slice A2 n2 c2, .slice A3 n3 c3, .slice A4 n4 c4] 46) := ⟨_, rfl⟩
  have hb1 : Below w.heap.size w w1 := by rw [hw1]; exact bl.alloc (Nat.le_refl _) _
  have x0 : w1.cell? ⟨w.heap.size, 0, none⟩ = some (.slice A0 n0 c0) := by rw [hw1]; exact new_cell w _ _ 0
  have x1 : w1.cell? ⟨w.heap.size, 1, none⟩ = some (.slice A1 n1 c1) := by rw [hw1]; exact new_cell w _ _ 1
  have x2 : w1.cell? ⟨w.heap.size, 2, none⟩ = some (.slice A2 n2 c2) := by rw [hw1]; exact new_cell w _ _ 2
  have x3 : w1.cell? ⟨w.heap.size, 3, none⟩ = some (.slice A3 n3 c3) := by rw [hw1]; exact new_cell w _ _ 3
  have x4 : w1.cell? ⟨w.heap.size, 4, none⟩ = some (.slice A4 n4 c4) := by rw [hw1]; exact new_cell w _ _ 4
  obtain ⟨eb, heb⟩ : ∃ eb, eb = decide (EmpN n0 n1 n2 n3 n4 false true false true false) := ⟨_, rfl⟩
  have he : eb = true ↔ EmpN n0 n1 n2 n3 n4 false true false true false := by rw [heb]; exact decide_eq_true_iff
  rw [← heb]
  clear heb
  unfold EmpN at he
  have HE : Hid (∀ b : Bool, (b = true → eb = true) → (eb = true → b = true) → eb = b) := fun b h1 h2 => by cases b <;> cases eb <;> simp_all
  go_enter Try.func129, Try.ntmps129
  go_upto_region 1 with (fail)
  rw [← hw1]
  clear hw1
  by_cases h0 : (n0 : Int) = 0
  case neg =>
    obtain rfl : eb = false := HE.out false (fun h => by cases h) (fun h => absurd ((he.1 h).1) (fun h => by simp at h; omega))
    clear HE he
    go_wp2
    go_ret
    exact ⟨_, rfl, by first | rfl | exact congrArg Value.bool (decide_eq_false h0), hb1⟩
  by_cases h2 : (n2 : Int) = 0
  case neg =>
    obtain rfl : eb = false := HE.out false (fun h => by cases h) (fun h => absurd ((he.1 h).2.2.1) (fun h => by simp at h; omega))
    clear HE he
    go_wp2
    go_ret
    exact ⟨_, rfl, by first | rfl | exact congrArg Value.bool (decide_eq_false h2), hb1⟩
  by_cases h4 : (n4 : Int) = 0
  case neg =>
    obtain rfl : eb = false := HE.out false (fun h => by cases h) (fun h => absurd ((he.1 h).2.2.2.2) (fun h => by simp at h; omega))
    clear HE he
    go_wp2
    go_ret
    exact ⟨_, rfl, by first | rfl | exact congrArg Value.bool (decide_eq_false h4), hb1⟩
  obtain rfl : eb = true := he.2 ⟨.inr (by omega), .inl rfl, .inr (by omega), .inl rfl, .inr (by omega)⟩
  clear HE he
  go_wp2
  go_ret
  exact ⟨_, rfl, by first | rfl | exact congrArg Value.bool (decide_eq_true h4), hb1⟩

set_option maxHeartbeats 2000000 in
theorem empS_any (A0 A1 A2 A3 A4 : Option Addr) (n0 n1 n2 n3 n4 c0 c1 c2 c3 c4 : Nat) (w : World) : Calls Try.prog 129 #[.agg #[.slice A0 n0 c0, .slice A1 n1 c1, .slice A2 n2 c2, .slice A3 n3 c3, .slice A4 n4 c4], .bool false, .bool true, .bool true, .bool true, .bool false] w (RetP (fun v _ => v = .bool (decide (EmpN n0 n1 n2 n3 n4 false true true true false))) w) := by
  obtain ⟨w1, hw1⟩ : ∃ w1, w1 = w.alloc (.cells #[.slice A0 n0 c0, .slice A1 n1 c1, .slice A2 n2 c2, .slice A3 n3 c3, .slice A4 n4 c4] 46) := ⟨_, rfl⟩
  have hb1 : Below w.heap.size w w1 := by rw [hw1]; exact bl.alloc (Nat.le_refl _) _
  have x0 : w1.cell? ⟨w.heap.size, 0, none⟩ = some (.slice A0 n0 c0) := by rw [hw1]; exact new_cell w _ _ 0
  have x1 : w1.cell? ⟨w.heap.size, 1, none⟩ = some (.slice A1 n1 c1) := by rw [hw1]; exact new_cell w _ _ 1
  have x2 : w1.cell? ⟨w.heap.size, 2, none⟩ = some (.slice A2 n2 c2) := by rw [hw1]; exact new_cell w _ _ 2
  have x3 : w1.cell? ⟨w.heap.size, 3, none⟩ = some (.slice A3 n3 c3) := by rw [hw1]; exact new_cell w _ _ 3
  have x4 : w1.cell? ⟨w.heap.size, 4, none⟩ = some (.slice A4 n4 c4) := by rw [hw1]; exact new_cell w _ _ 4
  obtain ⟨eb, heb⟩ : ∃ eb, eb = decide (EmpN n0 n1 n2 n3 n4 false true true true false) := ⟨_, rfl⟩
  have he : eb = true ↔ EmpN n0 n1 n2 n3 n4 false true true true false := by rw [heb]; exact decide_eq_true_iff
  rw [← heb]
  clear heb
  unfold EmpN at he
  have HE : Hid (∀ b : Bool, (b = true → eb = true) → (eb = true → b = true) → eb = b) := fun b h1 h2 => by cases b <;> cases eb <;> simp_all
  go_enter Try.func129, Try.ntmps129
  go_upto_region 1 with (fail)
  rw [← hw1]
  clear hw1
  by_cases h0 : (n0 : Int) = 0
  case neg =>
    obtain rfl : eb = false := HE.out false (fun h => by cases h) (fun h => absurd ((he.1 h).1) (fun h => by simp at h; omega))
    clear HE he
    go_wp2
    go_ret
    exact ⟨_, rfl, by first | rfl | exact congrArg Value.bool (decide_eq_false h0), hb1⟩
  by_cases h4 : (n4 : Int) = 0
  case neg =>
    obtain rfl : eb = false := HE.out false (fun h => by cases h) (fun h => absurd ((he.1 h).2.2.2.2) (fun h => by simp at h; omega))
    clear HE he
    go_wp2
    go_ret
    exact ⟨_, rfl, by first | rfl | exact congrArg Value.bool (decide_eq_false h4), hb1⟩
  obtain rfl : eb = true := he.2 ⟨.inr (by omega), .inl rfl, .inl rfl, .inl rfl, .inr (by omega)⟩
  clear HE he
  go_wp2
  go_ret
  exact ⟨_, rfl, by first | rfl | exact congrArg Value.bool (decide_eq_true h4), hb1⟩

set_option maxHeartbeats 2000000 in
theorem empT_any (A0 A1 A2 A3 A4 : Option Addr) (n0 n1 n2 n3 n4 c0 c1 c2 c3 c4 : Nat) (w : World) : Calls Try.prog 129 #[.agg #[.slice A0 n0 c0, .slice A1 n1 c1, .slice A2 n2 c2, .slice A3 n3 c3, .slice A4 n4 c4], .bool false, .bool false, .bool false, .bool false, .bool true] w (RetP (fun v _ => v = .bool (decide (EmpN n0 n1 n2 n3 n4 false false false false true))) w) := by
  obtain ⟨w1, hw1⟩ : ∃ w1, w1 = w.alloc (.cells #[.slice A0 n0 c0, .slice A1 n1 c1, .slice A2 n2 c2, .slice A3 n3 c3, .slice A4 n4 c4] 46) := ⟨_, rfl⟩
  have hb1 : Below w.heap.size w w1 := by rw [hw1]; exact bl.alloc (Nat.le_refl _) _
  have x0 : w1.cell? ⟨w.heap.size, 0, none⟩ = some (.slice A0 n0 c0) := by rw [hw1]; exact new_cell w _ _ 0
  have x1 : w1.cell? ⟨w.heap.size, 1, none⟩ = some (.slice A1 n1 c1) := by rw [hw1]; exact new_cell w _ _ 1
  have x2 : w1.cell? ⟨w.heap.size, 2, none⟩ = some (.slice A2 n2 c2) := by rw [hw1]; exact new_cell w _ _ 2
  have x3 : w1.cell? ⟨w.heap.size, 3, none⟩ = some (.slice A3 n3 c3) := by rw [hw1]; exact new_cell w _ _ 3
  have x4 : w1.cell? ⟨w.heap.size, 4, none⟩ = some (.slice A4 n4 c4) := by rw [hw1]; exact new_cell w _ _ 4
  obtain ⟨eb, heb⟩ : ∃ eb, eb = decide (EmpN n0 n1 n2 n3 n4 false false false false true) := ⟨_, rfl⟩
  have he : eb = true ↔ EmpN n0 n1 n2 n3 n4 false false false false true := by rw [heb]; exact decide_eq_true_iff
  rw [← heb]
  clear heb
  unfold EmpN at he
  have HE : Hid (∀ b : Bool, (b = true → eb = true) → (eb = true → b = true) → eb = b) := fun b h1 h2 => by cases b <;> cases eb <;> simp_all
  go_enter Try.func129, Try.ntmps129
  go_upto_region 1 with (fail)
  rw [← hw1]
  clear hw1
  by_cases h0 : (n0 : Int) = 0
  case neg =>
    obtain rfl : eb = false := HE.out false (fun h => by cases h) (fun h => absurd ((he.1 h).1) (fun h => by simp at h; omega))
    clear HE he
    go_wp2
    go_ret
    exact ⟨_, rfl, by first | rfl | exact congrArg Value.bool (decide_eq_false h0), hb1⟩
  by_cases h1 : (n1 : Int) = 0
  case neg =>
    obtain rfl : eb = false := HE.out false (fun h => by cases h) (fun h => absurd ((he.1 h).2.1) (fun h => by simp at h; omega))
    clear HE he
    go_wp2
    go_ret
    exact ⟨_, rfl, by first | rfl | exact congrArg Value.bool (decide_eq_false h1), hb1⟩
  by_cases h2 : (n2 : Int) = 0
  case neg =>
    obtain rfl : eb = false := HE.out false (fun h => by cases h) (fun h => absurd ((he.1 h).2.2.1) (fun h => by simp at h; omega))
    clear HE he
    go_wp2
    go_ret
    exact ⟨_, rfl, by first | rfl | exact congrArg Value.bool (decide_eq_false h2), hb1⟩
  by_cases h3 : (n3 : Int) = 0
  case neg =>
    obtain rfl : eb = false := HE.out false (fun h => by cases h) (fun h => absurd ((he.1 h).2.2.2.1) (fun h => by simp at h; omega))
    clear HE he
    go_wp2
    go_ret
    exact ⟨_, rfl, by first | rfl | exact congrArg Value.bool (decide_eq_false h3), hb1⟩
  obtain rfl : eb = true := he.2 ⟨.inr (by omega), .inr (by omega), .inr (by omega), .inr (by omega), .inl rfl⟩
  clear HE he
  go_wp2
  go_ret
  exact ⟨_, rfl, by first | rfl | exact congrArg Value.bool (decide_eq_true h3), hb1⟩

/-- Are there so many numbers, and does each fit? -/
def FitI (ns : List Int) (count size : Int) : Prop := (ns.length : Int) = count ∧ ∀ l ∈ ns, fitsB l size = true
instance (ns : List Int) (count size : Int) : Decidable (FitI ns count size) := by unfold FitI; infer_instance
set_option maxHeartbeats 2000000 in
theorem fit_any (A : Option Addr) (n c : Nat) (ns : List Int) (k z : Int) (w : World) {So Si : Nat → Prop} (h : Els encI So Si w A n ns) (hn : n ≤ 1000000000) :
    Calls Try.prog 130 #[.slice A n c, .int .i64 k, .int .i64 z] w (Ret (.bool (decide (FitI ns k z))) w) := by
  have hl := h.len
  subst hl
  by_cases hk : (ns.length : Int) = k
  case neg =>
    have HF : Hid (decide (FitI ns k z) = false) := decide_eq_false (fun h => hk h.1)
    go_enter Try.func130, Try.ntmps130
    go_wp2
    go_ret
    exact ⟨by rw [HF.out]; rfl, rfl⟩
  have HK := Lib.hid hk
  have H := Lib.hid h
  go_enter Try.func130, Try.ntmps130
  go_wp2
  clear hk
  go_loop [7] (fun iv => ∃ j : Nat, iv = .int .i64 j ∧ j ≤ ns.length ∧ Hid (∀ l ∈ ns.take j, fitsB l z = true)) (fun iv => ns.length - (intOf iv).toNat)
  case atStart => exact ⟨0, rfl, Nat.zero_le _, fun l hl => by simp at hl⟩
  case round =>
    obtain ⟨j, rfl, hj, HT⟩ := hrel
    by_cases hlt : j < ns.length
    · obtain ⟨l, hx⟩ : ∃ l, ns[j]? = some l := ⟨_, List.getElem?_eq_getElem hlt⟩
      obtain ⟨b, off, rfl, _, hc, hll⟩ := ints_at H.out hx
      have HX := Lib.hid hx
      have HLL := Lib.hid hll
      clear hx hll
      by_cases hb : fitsB l z = true
      · have HB := Lib.hid hb
        clear hb
        go_wp2_with (first
          | (go_at_call 90; refine (rfits_any l z w HLL.out.2).mono ?_; rw [HB.out]; rintro e w1 ⟨rfl, rfl⟩)
          | fail)
        go_round
        case rel => exact ⟨j + 1, by go_num, by omega, fun m hm => by rw [List.take_add_one, HX.out, Option.toList_some, List.mem_append, List.mem_singleton] at hm; exact hm.elim (HT.out m) (fun e => by rw [e]; exact HB.out)⟩
        case measure => simp [intOf]; omega
      · have HF : Hid (decide (FitI ns k z) = false) := decide_eq_false (fun h => hb (h.2 l (List.mem_of_getElem? HX.out)))
        have HB : Hid (fitsB l z = false) := by show _ = _; simpa using hb
        clear hb
        go_wp2_with (first
          | (go_at_call 90; refine (rfits_any l z w HLL.out.2).mono ?_; rw [HB.out]; rintro e w1 ⟨rfl, rfl⟩)
          | fail)
        go_ret
        exact ⟨by rw [HF.out]; rfl, rfl⟩
    · obtain rfl : j = ns.length := by omega
      rw [List.take_length] at HT
      have HF : Hid (decide (FitI ns k z) = true) := decide_eq_true ⟨HK.out, HT.out⟩
      go_wp2
      go_ret
      exact ⟨by rw [HF.out]; rfl, rfl⟩

set_option maxHeartbeats 4000000 in
theorem rdat1_any (s : DS) (d : Da) (w : World) (hd : DRd w s d) (hbt : d.texts.length ≤ 8796093022208) (hbn : d.nums.length ≤ 1000000000) : Calls Try.prog 76 #[.int .i64 1, dsV s d] w (RetP (fun v _ => v = .bool (fineB 1 d)) w) := by
  have HK : Hid (shapeP 1 = shpA) := rfl
  have HKK : Hid ((1 : Int) ≤ 1 ∧ (1 : Int) ≤ 65535) := ⟨by decide, by decide⟩
  unfold dsV
  obtain ⟨w3, hw3⟩ : ∃ w3, w3 = w.alloc (.cells #[.slice s.A0 d.bytes.length s.c0, .slice s.A1 d.host.length s.c1, .slice s.A2 d.mail.length s.c2, .slice s.A3 d.nums.length s.c3, .slice s.A4 d.texts.length s.c4] 46) := ⟨_, rfl⟩
  have hb1 : Below w.heap.size w w3 := by rw [hw3]; exact bl.alloc (Nat.le_refl _) _
  obtain ⟨x0, x1, x2, x3, x4⟩ : DBox w3 w.heap.size s d := by rw [hw3]; exact DBox.made w s d _
  have HD := Lib.hid (hd.below hb1)
  have HB := Lib.hid hb1
  have HBT := Lib.hid hbt
  have HBN := Lib.hid hbn
  clear hd hb1 hbt hbn
  have HEH : Hid (Els encS (ltS w3) (ltS w3) w3 s.A1 d.host.length d.host) := HD.out.h
  have HEM : Hid (Els encS (ltS w3) (ltS w3) w3 s.A2 d.mail.length d.mail) := HD.out.m
  have HEN : Hid (Els encI (ltS w3) (ltS w3) w3 s.A3 d.nums.length d.nums) := HD.out.n
  have HZ : Hid (∀ l : List (List UInt8), l.length = 0 → l = []) := fun l h => List.eq_nil_of_length_eq_zero h
  go_enter Try.func76, Try.ntmps76
  go_upto_region 1 with (fail)
  rw [← hw3]
  clear hw3
  by_cases hc : (d.bytes.length : Int) = 4
  case neg =>
    have HC := Lib.hid hc
    have HF : Hid (fineB 1 d = false) := fineB_false (fun h => by have h := h.2; rw [HK.out] at h; have h2 : (d.bytes.length : Int) = 4 := h.1 (by decide); have h4 := HC.out; omega)
    go_wp2_with (first
      | fail)
    go_ret
    exact ⟨_, rfl, by rw [HF.out]; first | rfl | exact congrArg Value.bool (decide_eq_false hc), HB.out⟩
  have HC := Lib.hid hc
  by_cases he : EmpN d.bytes.length d.host.length d.mail.length d.nums.length d.texts.length true false false false false
  case neg =>
    have HME := Lib.hid (decide_eq_false he)
    have HE := Lib.hid he
    clear he
    have HF : Hid (fineB 1 d = false) := fineB_false (fun h => by have h := h.2; rw [HK.out] at h; exact HE.out ⟨.inl rfl, .inr (by have h6 : d.host = [] := h.2.2.2.1; rw [h6]; rfl), .inr (by have h6 : d.mail = [] := h.2.2.2.2.1; rw [h6]; rfl), .inr (by have h6 := h.2.2.1; exact Int.ofNat_inj.1 h6), .inr (by have h6 : d.texts = [] := h.2.2.2.2.2.2; rw [h6]; rfl)⟩)
    go_wp2_with (first
      | (go_at_call 129; refine (empA_any _ _ _ _ _ _ _ _ _ _ _ _ _ _ _ w3).mono ?_; rw [HME.out]; rintro e w9 ⟨v9, rfl, rfl, hb9⟩)
      | fail)
    go_ret
    exact ⟨_, rfl, by rw [HF.out]; first | rfl | rfl, HB.out.trans (hb9.mono HB.out.size)⟩
  have HME := Lib.hid (decide_eq_true he)
  have HE := Lib.hid he
  clear he
  have HF : Hid (fineB 1 d = true) := fineB_true ⟨HKK.out, by rw [HK.out]; exact ⟨fun _ => by have h4 := HC.out; show (d.bytes.length : Int) = 4; omega, by have h4 := HC.out; omega, congrArg Int.ofNat ((HE.out.2.2.2.1).resolve_left (by decide)), HZ.out _ ((HE.out.2.1).resolve_left (by decide)), HZ.out _ ((HE.out.2.2.1).resolve_left (by decide)), (fun n hn => by rw [List.eq_nil_of_length_eq_zero ((HE.out.2.2.2.1).resolve_left (by decide))] at hn; cases hn), HZ.out _ ((HE.out.2.2.2.2).resolve_left (by decide))⟩⟩
  go_wp2_with (first
    | (go_at_call 129; refine (empA_any _ _ _ _ _ _ _ _ _ _ _ _ _ _ _ w3).mono ?_; rw [HME.out]; rintro e w9 ⟨v9, rfl, rfl, hb9⟩)
    | fail)
  go_ret
  exact ⟨_, rfl, by rw [HF.out]; first | rfl | exact congrArg Value.bool (decide_eq_true hc), HB.out.trans (hb9.mono HB.out.size)⟩

set_option maxHeartbeats 4000000 in
theorem rdat28_any (s : DS) (d : Da) (w : World) (hd : DRd w s d) (hbt : d.texts.length ≤ 8796093022208) (hbn : d.nums.length ≤ 1000000000) : Calls Try.prog 76 #[.int .i64 28, dsV s d] w (RetP (fun v _ => v = .bool (fineB 28 d)) w) := by
  have HK : Hid (shapeP 28 = shpQ) := rfl
  have HKK : Hid ((1 : Int) ≤ 28 ∧ (28 : Int) ≤ 65535) := ⟨by decide, by decide⟩
  unfold dsV
  obtain ⟨w3, hw3⟩ : ∃ w3, w3 = w.alloc (.cells #[.slice s.A0 d.bytes.length s.c0, .slice s.A1 d.host.length s.c1, .slice s.A2 d.mail.length s.c2, .slice s.A3 d.nums.length s.c3, .slice s.A4 d.texts.length s.c4] 46) := ⟨_, rfl⟩
  have hb1 : Below w.heap.size w w3 := by rw [hw3]; exact bl.alloc (Nat.le_refl _) _
  obtain ⟨x0, x1, x2, x3, x4⟩ : DBox w3 w.heap.size s d := by rw [hw3]; exact DBox.made w s d _
  have HD := Lib.hid (hd.below hb1)
  have HB := Lib.hid hb1
  have HBT := Lib.hid hbt
  have HBN := Lib.hid hbn
  clear hd hb1 hbt hbn
  have HEH : Hid (Els encS (ltS w3) (ltS w3) w3 s.A1 d.host.length d.host) := HD.out.h
  have HEM : Hid (Els encS (ltS w3) (ltS w3) w3 s.A2 d.mail.length d.mail) := HD.out.m
  have HEN : Hid (Els encI (ltS w3) (ltS w3) w3 s.A3 d.nums.length d.nums) := HD.out.n
  have HZ : Hid (∀ l : List (List UInt8), l.length = 0 → l = []) := fun l h => List.eq_nil_of_length_eq_zero h
  go_enter Try.func76, Try.ntmps76
  go_upto_region 1 with (fail)
  rw [← hw3]
  clear hw3
  by_cases hc : (d.bytes.length : Int) = 16
  case neg =>
    have HC := Lib.hid hc
    have HF : Hid (fineB 28 d = false) := fineB_false (fun h => by have h := h.2; rw [HK.out] at h; have h2 : (d.bytes.length : Int) = 16 := h.1 (by decide); have h4 := HC.out; omega)
    go_wp2_with (first
      | fail)
    go_ret
    exact ⟨_, rfl, by rw [HF.out]; first | rfl | exact congrArg Value.bool (decide_eq_false hc), HB.out⟩
  have HC := Lib.hid hc
  by_cases he : EmpN d.bytes.length d.host.length d.mail.length d.nums.length d.texts.length true false false false false
  case neg =>
    have HME := Lib.hid (decide_eq_false he)
    have HE := Lib.hid he
    clear he
    have HF : Hid (fineB 28 d = false) := fineB_false (fun h => by have h := h.2; rw [HK.out] at h; exact HE.out ⟨.inl rfl, .inr (by have h6 : d.host = [] := h.2.2.2.1; rw [h6]; rfl), .inr (by have h6 : d.mail = [] := h.2.2.2.2.1; rw [h6]; rfl), .inr (by have h6 := h.2.2.1; exact Int.ofNat_inj.1 h6), .inr (by have h6 : d.texts = [] := h.2.2.2.2.2.2; rw [h6]; rfl)⟩)
    go_wp2_with (first
      | (go_at_call 129; refine (empA_any _ _ _ _ _ _ _ _ _ _ _ _ _ _ _ w3).mono ?_; rw [HME.out]; rintro e w9 ⟨v9, rfl, rfl, hb9⟩)
      | fail)
    go_ret
    exact ⟨_, rfl, by rw [HF.out]; first | rfl | rfl, HB.out.trans (hb9.mono HB.out.size)⟩
  have HME := Lib.hid (decide_eq_true he)
  have HE := Lib.hid he
  clear he
  have HF : Hid (fineB 28 d = true) := fineB_true ⟨HKK.out, by rw [HK.out]; exact ⟨fun _ => by have h4 := HC.out; show (d.bytes.length : Int) = 16; omega, by have h4 := HC.out; omega, congrArg Int.ofNat ((HE.out.2.2.2.1).resolve_left (by decide)), HZ.out _ ((HE.out.2.1).resolve_left (by decide)), HZ.out _ ((HE.out.2.2.1).resolve_left (by decide)), (fun n hn => by rw [List.eq_nil_of_length_eq_zero ((HE.out.2.2.2.1).resolve_left (by decide))] at hn; cases hn), HZ.out _ ((HE.out.2.2.2.2).resolve_left (by decide))⟩⟩
  go_wp2_with (first
    | (go_at_call 129; refine (empA_any _ _ _ _ _ _ _ _ _ _ _ _ _ _ _ w3).mono ?_; rw [HME.out]; rintro e w9 ⟨v9, rfl, rfl, hb9⟩)
    | fail)
  go_ret
  exact ⟨_, rfl, by rw [HF.out]; first | rfl | exact congrArg Value.bool (decide_eq_true hc), HB.out.trans (hb9.mono HB.out.size)⟩

set_option maxHeartbeats 4000000 in
theorem rdat2_any (s : DS) (d : Da) (w : World) (hd : DRd w s d) (hbt : d.texts.length ≤ 8796093022208) (hbn : d.nums.length ≤ 1000000000) : Calls Try.prog 76 #[.int .i64 2, dsV s d] w (RetP (fun v _ => v = .bool (fineB 2 d)) w) := by
  have HK : Hid (shapeP 2 = shpN) := rfl
  have HKK : Hid ((1 : Int) ≤ 2 ∧ (2 : Int) ≤ 65535) := ⟨by decide, by decide⟩
  unfold dsV
  obtain ⟨w3, hw3⟩ : ∃ w3, w3 = w.alloc (.cells #[.slice s.A0 d.bytes.length s.c0, .slice s.A1 d.host.length s.c1, .slice s.A2 d.mail.length s.c2, .slice s.A3 d.nums.length s.c3, .slice s.A4 d.texts.length s.c4] 46) := ⟨_, rfl⟩
  have hb1 : Below w.heap.size w w3 := by rw [hw3]; exact bl.alloc (Nat.le_refl _) _
  obtain ⟨x0, x1, x2, x3, x4⟩ : DBox w3 w.heap.size s d := by rw [hw3]; exact DBox.made w s d _
  have HD := Lib.hid (hd.below hb1)
  have HB := Lib.hid hb1
  have HBT := Lib.hid hbt
  have HBN := Lib.hid hbn
  clear hd hb1 hbt hbn
  have HEH : Hid (Els encS (ltS w3) (ltS w3) w3 s.A1 d.host.length d.host) := HD.out.h
  have HEM : Hid (Els encS (ltS w3) (ltS w3) w3 s.A2 d.mail.length d.mail) := HD.out.m
  have HEN : Hid (Els encI (ltS w3) (ltS w3) w3 s.A3 d.nums.length d.nums) := HD.out.n
  have HZ : Hid (∀ l : List (List UInt8), l.length = 0 → l = []) := fun l h => List.eq_nil_of_length_eq_zero h
  go_enter Try.func76, Try.ntmps76
  go_upto_region 1 with (fail)
  rw [← hw3]
  clear hw3
  by_cases h5 : SoundN d.host
  case neg =>
    have HMH := Lib.hid (soundB_false h5)
    have H5 := Lib.hid h5
    clear h5
    have HF : Hid (fineB 2 d = false) := fineB_false (fun h => by have h := h.2; rw [HK.out] at h; exact H5.out h.2.2.2.1)
    go_wp2_with (first
      | (go_at_call 27; (with_reducible refine (rsound_any s.A1 _ s.c1 d.host w3 HEH.out).mono ?_); rw [HMH.out]; rintro e w8 ⟨rfl, rfl⟩)
      | fail)
    go_ret
    exact ⟨_, rfl, by rw [HF.out]; first | rfl | rfl, HB.out⟩
  have HMH := Lib.hid (soundB_true h5)
  have H5 := Lib.hid h5
  clear h5
  by_cases he : EmpN d.bytes.length d.host.length d.mail.length d.nums.length d.texts.length false true false false false
  case neg =>
    have HME := Lib.hid (decide_eq_false he)
    have HE := Lib.hid he
    clear he
    have HF : Hid (fineB 2 d = false) := fineB_false (fun h => by have h := h.2; rw [HK.out] at h; exact HE.out ⟨.inr (by have := h.1 (by decide); exact Int.ofNat_inj.1 this), .inl rfl, .inr (by have h6 : d.mail = [] := h.2.2.2.2.1; rw [h6]; rfl), .inr (by have h6 := h.2.2.1; exact Int.ofNat_inj.1 h6), .inr (by have h6 : d.texts = [] := h.2.2.2.2.2.2; rw [h6]; rfl)⟩)
    go_wp2_with (first
      | (go_at_call 129; refine (empN_any _ _ _ _ _ _ _ _ _ _ _ _ _ _ _ w3).mono ?_; rw [HME.out]; rintro e w9 ⟨v9, rfl, rfl, hb9⟩)
      | (go_at_call 27; (with_reducible refine (rsound_any s.A1 _ s.c1 d.host w3 HEH.out).mono ?_); rw [HMH.out]; rintro e w8 ⟨rfl, rfl⟩)
      | fail)
    go_ret
    exact ⟨_, rfl, by rw [HF.out]; first | rfl | rfl, HB.out.trans (hb9.mono HB.out.size)⟩
  have HME := Lib.hid (decide_eq_true he)
  have HE := Lib.hid he
  clear he
  have HF : Hid (fineB 2 d = true) := fineB_true ⟨HKK.out, by rw [HK.out]; exact ⟨fun _ => congrArg Int.ofNat ((HE.out.1).resolve_left (by decide)), by have h3 := (HE.out.1).resolve_left (by decide); omega, congrArg Int.ofNat ((HE.out.2.2.2.1).resolve_left (by decide)), H5.out, HZ.out _ ((HE.out.2.2.1).resolve_left (by decide)), (fun n hn => by rw [List.eq_nil_of_length_eq_zero ((HE.out.2.2.2.1).resolve_left (by decide))] at hn; cases hn), HZ.out _ ((HE.out.2.2.2.2).resolve_left (by decide))⟩⟩
  go_wp2_with (first
    | (go_at_call 129; refine (empN_any _ _ _ _ _ _ _ _ _ _ _ _ _ _ _ w3).mono ?_; rw [HME.out]; rintro e w9 ⟨v9, rfl, rfl, hb9⟩)
    | (go_at_call 27; (with_reducible refine (rsound_any s.A1 _ s.c1 d.host w3 HEH.out).mono ?_); rw [HMH.out]; rintro e w8 ⟨rfl, rfl⟩)
    | fail)
  go_ret
  exact ⟨_, rfl, by rw [HF.out]; first | rfl | exact congrArg Value.bool (decide_eq_true hc), HB.out.trans (hb9.mono HB.out.size)⟩

set_option maxHeartbeats 4000000 in
theorem rdat5_any (s : DS) (d : Da) (w : World) (hd : DRd w s d) (hbt : d.texts.length ≤ 8796093022208) (hbn : d.nums.length ≤ 1000000000) : Calls Try.prog 76 #[.int .i64 5, dsV s d] w (RetP (fun v _ => v = .bool (fineB 5 d)) w) := by
  have HK : Hid (shapeP 5 = shpN) := rfl
  have HKK : Hid ((1 : Int) ≤ 5 ∧ (5 : Int) ≤ 65535) := ⟨by decide, by decide⟩
  unfold dsV
  obtain ⟨w3, hw3⟩ : ∃ w3, w3 = w.alloc (.cells #[.slice s.A0 d.bytes.length s.c0, .slice s.A1 d.host.length s.c1, .slice s.A2 d.mail.length s.c2, .slice s.A3 d.nums.length s.c3, .slice s.A4 d.texts.length s.c4] 46) := ⟨_, rfl⟩
  have hb1 : Below w.heap.size w w3 := by rw [hw3]; exact bl.alloc (Nat.le_refl _) _
  obtain ⟨x0, x1, x2, x3, x4⟩ : DBox w3 w.heap.size s d := by rw [hw3]; exact DBox.made w s d _
  have HD := Lib.hid (hd.below hb1)
  have HB := Lib.hid hb1
  have HBT := Lib.hid hbt
  have HBN := Lib.hid hbn
  clear hd hb1 hbt hbn
  have HEH : Hid (Els encS (ltS w3) (ltS w3) w3 s.A1 d.host.length d.host) := HD.out.h
  have HEM : Hid (Els encS (ltS w3) (ltS w3) w3 s.A2 d.mail.length d.mail) := HD.out.m
  have HEN : Hid (Els encI (ltS w3) (ltS w3) w3 s.A3 d.nums.length d.nums) := HD.out.n
  have HZ : Hid (∀ l : List (List UInt8), l.length = 0 → l = []) := fun l h => List.eq_nil_of_length_eq_zero h
  go_enter Try.func76, Try.ntmps76
  go_upto_region 1 with (fail)
  rw [← hw3]
  clear hw3
  by_cases h5 : SoundN d.host
  case neg =>
    have HMH := Lib.hid (soundB_false h5)
    have H5 := Lib.hid h5
    clear h5
    have HF : Hid (fineB 5 d = false) := fineB_false (fun h => by have h := h.2; rw [HK.out] at h; exact H5.out h.2.2.2.1)
    go_wp2_with (first
      | (go_at_call 27; (with_reducible refine (rsound_any s.A1 _ s.c1 d.host w3 HEH.out).mono ?_); rw [HMH.out]; rintro e w8 ⟨rfl, rfl⟩)
      | fail)
    go_ret
    exact ⟨_, rfl, by rw [HF.out]; first | rfl | rfl, HB.out⟩
  have HMH := Lib.hid (soundB_true h5)
  have H5 := Lib.hid h5
  clear h5
  by_cases he : EmpN d.bytes.length d.host.length d.mail.length d.nums.length d.texts.length false true false false false
  case neg =>
    have HME := Lib.hid (decide_eq_false he)
    have HE := Lib.hid he
    clear he
    have HF : Hid (fineB 5 d = false) := fineB_false (fun h => by have h := h.2; rw [HK.out] at h; exact HE.out ⟨.inr (by have := h.1 (by decide); exact Int.ofNat_inj.1 this), .inl rfl, .inr (by have h6 : d.mail = [] := h.2.2.2.2.1; rw [h6]; rfl), .inr (by have h6 := h.2.2.1; exact Int.ofNat_inj.1 h6), .inr (by have h6 : d.texts = [] := h.2.2.2.2.2.2; rw [h6]; rfl)⟩)
    go_wp2_with (first
      | (go_at_call 129; refine (empN_any _ _ _ _ _ _ _ _ _ _ _ _ _ _ _ w3).mono ?_; rw [HME.out]; rintro e w9 ⟨v9, rfl, rfl, hb9⟩)
      | (go_at_call 27; (with_reducible refine (rsound_any s.A1 _ s.c1 d.host w3 HEH.out).mono ?_); rw [HMH.out]; rintro e w8 ⟨rfl, rfl⟩)
      | fail)
    go_ret
    exact ⟨_, rfl, by rw [HF.out]; first | rfl | rfl, HB.out.trans (hb9.mono HB.out.size)⟩
  have HME := Lib.hid (decide_eq_true he)
  have HE := Lib.hid he
  clear he
  have HF : Hid (fineB 5 d = true) := fineB_true ⟨HKK.out, by rw [HK.out]; exact ⟨fun _ => congrArg Int.ofNat ((HE.out.1).resolve_left (by decide)), by have h3 := (HE.out.1).resolve_left (by decide); omega, congrArg Int.ofNat ((HE.out.2.2.2.1).resolve_left (by decide)), H5.out, HZ.out _ ((HE.out.2.2.1).resolve_left (by decide)), (fun n hn => by rw [List.eq_nil_of_length_eq_zero ((HE.out.2.2.2.1).resolve_left (by decide))] at hn; cases hn), HZ.out _ ((HE.out.2.2.2.2).resolve_left (by decide))⟩⟩
  go_wp2_with (first
    | (go_at_call 129; refine (empN_any _ _ _ _ _ _ _ _ _ _ _ _ _ _ _ w3).mono ?_; rw [HME.out]; rintro e w9 ⟨v9, rfl, rfl, hb9⟩)
    | (go_at_call 27; (with_reducible refine (rsound_any s.A1 _ s.c1 d.host w3 HEH.out).mono ?_); rw [HMH.out]; rintro e w8 ⟨rfl, rfl⟩)
    | fail)
  go_ret
  exact ⟨_, rfl, by rw [HF.out]; first | rfl | exact congrArg Value.bool (decide_eq_true hc), HB.out.trans (hb9.mono HB.out.size)⟩

set_option maxHeartbeats 4000000 in
theorem rdat12_any (s : DS) (d : Da) (w : World) (hd : DRd w s d) (hbt : d.texts.length ≤ 8796093022208) (hbn : d.nums.length ≤ 1000000000) : Calls Try.prog 76 #[.int .i64 12, dsV s d] w (RetP (fun v _ => v = .bool (fineB 12 d)) w) := by
  have HK : Hid (shapeP 12 = shpN) := rfl
  have HKK : Hid ((1 : Int) ≤ 12 ∧ (12 : Int) ≤ 65535) := ⟨by decide, by decide⟩
  unfold dsV
  obtain ⟨w3, hw3⟩ : ∃ w3, w3 = w.alloc (.cells #[.slice s.A0 d.bytes.length s.c0, .slice s.A1 d.host.length s.c1, .slice s.A2 d.mail.length s.c2, .slice s.A3 d.nums.length s.c3, .slice s.A4 d.texts.length s.c4] 46) := ⟨_, rfl⟩
  have hb1 : Below w.heap.size w w3 := by rw [hw3]; exact bl.alloc (Nat.le_refl _) _
  obtain ⟨x0, x1, x2, x3, x4⟩ : DBox w3 w.heap.size s d := by rw [hw3]; exact DBox.made w s d _
  have HD := Lib.hid (hd.below hb1)
  have HB := Lib.hid hb1
  have HBT := Lib.hid hbt
  have HBN := Lib.hid hbn
  clear hd hb1 hbt hbn
  have HEH : Hid (Els encS (ltS w3) (ltS w3) w3 s.A1 d.host.length d.host) := HD.out.h
  have HEM : Hid (Els encS (ltS w3) (ltS w3) w3 s.A2 d.mail.length d.mail) := HD.out.m
  have HEN : Hid (Els encI (ltS w3) (ltS w3) w3 s.A3 d.nums.length d.nums) := HD.out.n
  have HZ : Hid (∀ l : List (List UInt8), l.length = 0 → l = []) := fun l h => List.eq_nil_of_length_eq_zero h
  go_enter Try.func76, Try.ntmps76
  go_upto_region 1 with (fail)
  rw [← hw3]
  clear hw3
  by_cases h5 : SoundN d.host
  case neg =>
    have HMH := Lib.hid (soundB_false h5)
    have H5 := Lib.hid h5
    clear h5
    have HF : Hid (fineB 12 d = false) := fineB_false (fun h => by have h := h.2; rw [HK.out] at h; exact H5.out h.2.2.2.1)
    go_wp2_with (first
      | (go_at_call 27; (with_reducible refine (rsound_any s.A1 _ s.c1 d.host w3 HEH.out).mono ?_); rw [HMH.out]; rintro e w8 ⟨rfl, rfl⟩)
      | fail)
    go_ret
    exact ⟨_, rfl, by rw [HF.out]; first | rfl | rfl, HB.out⟩
  have HMH := Lib.hid (soundB_true h5)
  have H5 := Lib.hid h5
  clear h5
  by_cases he : EmpN d.bytes.length d.host.length d.mail.length d.nums.length d.texts.length false true false false false
  case neg =>
    have HME := Lib.hid (decide_eq_false he)
    have HE := Lib.hid he
    clear he
    have HF : Hid (fineB 12 d = false) := fineB_false (fun h => by have h := h.2; rw [HK.out] at h; exact HE.out ⟨.inr (by have := h.1 (by decide); exact Int.ofNat_inj.1 this), .inl rfl, .inr (by have h6 : d.mail = [] := h.2.2.2.2.1; rw [h6]; rfl), .inr (by have h6 := h.2.2.1; exact Int.ofNat_inj.1 h6), .inr (by have h6 : d.texts = [] := h.2.2.2.2.2.2; rw [h6]; rfl)⟩)
    go_wp2_with (first
      | (go_at_call 129; refine (empN_any _ _ _ _ _ _ _ _ _ _ _ _ _ _ _ w3).mono ?_; rw [HME.out]; rintro e w9 ⟨v9, rfl, rfl, hb9⟩)
      | (go_at_call 27; (with_reducible refine (rsound_any s.A1 _ s.c1 d.host w3 HEH.out).mono ?_); rw [HMH.out]; rintro e w8 ⟨rfl, rfl⟩)
      | fail)
    go_ret
    exact ⟨_, rfl, by rw [HF.out]; first | rfl | rfl, HB.out.trans (hb9.mono HB.out.size)⟩
  have HME := Lib.hid (decide_eq_true he)
  have HE := Lib.hid he
  clear he
  have HF : Hid (fineB 12 d = true) := fineB_true ⟨HKK.out, by rw [HK.out]; exact ⟨fun _ => congrArg Int.ofNat ((HE.out.1).resolve_left (by decide)), by have h3 := (HE.out.1).resolve_left (by decide); omega, congrArg Int.ofNat ((HE.out.2.2.2.1).resolve_left (by decide)), H5.out, HZ.out _ ((HE.out.2.2.1).resolve_left (by decide)), (fun n hn => by rw [List.eq_nil_of_length_eq_zero ((HE.out.2.2.2.1).resolve_left (by decide))] at hn; cases hn), HZ.out _ ((HE.out.2.2.2.2).resolve_left (by decide))⟩⟩
  go_wp2_with (first
    | (go_at_call 129; refine (empN_any _ _ _ _ _ _ _ _ _ _ _ _ _ _ _ w3).mono ?_; rw [HME.out]; rintro e w9 ⟨v9, rfl, rfl, hb9⟩)
    | (go_at_call 27; (with_reducible refine (rsound_any s.A1 _ s.c1 d.host w3 HEH.out).mono ?_); rw [HMH.out]; rintro e w8 ⟨rfl, rfl⟩)
    | fail)
  go_ret
  exact ⟨_, rfl, by rw [HF.out]; first | rfl | exact congrArg Value.bool (decide_eq_true hc), HB.out.trans (hb9.mono HB.out.size)⟩

set_option maxHeartbeats 4000000 in
theorem rdat15_any (s : DS) (d : Da) (w : World) (hd : DRd w s d) (hbt : d.texts.length ≤ 8796093022208) (hbn : d.nums.length ≤ 1000000000) : Calls Try.prog 76 #[.int .i64 15, dsV s d] w (RetP (fun v _ => v = .bool (fineB 15 d)) w) := by
  have HK : Hid (shapeP 15 = shpM) := rfl
  have HKK : Hid ((1 : Int) ≤ 15 ∧ (15 : Int) ≤ 65535) := ⟨by decide, by decide⟩
  unfold dsV
  obtain ⟨w3, hw3⟩ : ∃ w3, w3 = w.alloc (.cells #[.slice s.A0 d.bytes.length s.c0, .slice s.A1 d.host.length s.c1, .slice s.A2 d.mail.length s.c2, .slice s.A3 d.nums.length s.c3, .slice s.A4 d.texts.length s.c4] 46) := ⟨_, rfl⟩
  have hb1 : Below w.heap.size w w3 := by rw [hw3]; exact bl.alloc (Nat.le_refl _) _
  obtain ⟨x0, x1, x2, x3, x4⟩ : DBox w3 w.heap.size s d := by rw [hw3]; exact DBox.made w s d _
  have HD := Lib.hid (hd.below hb1)
  have HB := Lib.hid hb1
  have HBT := Lib.hid hbt
  have HBN := Lib.hid hbn
  clear hd hb1 hbt hbn
  have HEH : Hid (Els encS (ltS w3) (ltS w3) w3 s.A1 d.host.length d.host) := HD.out.h
  have HEM : Hid (Els encS (ltS w3) (ltS w3) w3 s.A2 d.mail.length d.mail) := HD.out.m
  have HEN : Hid (Els encI (ltS w3) (ltS w3) w3 s.A3 d.nums.length d.nums) := HD.out.n
  have HZ : Hid (∀ l : List (List UInt8), l.length = 0 → l = []) := fun l h => List.eq_nil_of_length_eq_zero h
  go_enter Try.func76, Try.ntmps76
  go_upto_region 1 with (fail)
  rw [← hw3]
  clear hw3
  by_cases h5 : SoundN d.host
  case neg =>
    have HMH := Lib.hid (soundB_false h5)
    have H5 := Lib.hid h5
    clear h5
    have HF : Hid (fineB 15 d = false) := fineB_false (fun h => by have h := h.2; rw [HK.out] at h; exact H5.out h.2.2.2.1)
    go_wp2_with (first
      | (go_at_call 27; (with_reducible refine (rsound_any s.A1 _ s.c1 d.host w3 HEH.out).mono ?_); rw [HMH.out]; rintro e w8 ⟨rfl, rfl⟩)
      | fail)
    go_ret
    exact ⟨_, rfl, by rw [HF.out]; first | rfl | rfl, HB.out⟩
  have HMH := Lib.hid (soundB_true h5)
  have H5 := Lib.hid h5
  clear h5
  by_cases h9 : FitI d.nums 1 2
  case neg =>
    have HMF := Lib.hid (decide_eq_false h9)
    have H9 := Lib.hid h9
    clear h9
    have HF : Hid (fineB 15 d = false) := fineB_false (fun h => by have h := h.2; rw [HK.out] at h; exact H9.out ⟨h.2.2.1, h.2.2.2.2.2.1⟩)
    go_wp2_with (first
      | (go_at_call 130; refine (fit_any s.A3 _ s.c3 d.nums 1 2 w3 HEN.out HBN.out).mono ?_; rw [HMF.out]; rintro e w8 ⟨rfl, rfl⟩)
      | (go_at_call 27; (with_reducible refine (rsound_any s.A1 _ s.c1 d.host w3 HEH.out).mono ?_); rw [HMH.out]; rintro e w8 ⟨rfl, rfl⟩)
      | fail)
    go_ret
    exact ⟨_, rfl, by rw [HF.out]; first | rfl | rfl, HB.out⟩
  have HMF := Lib.hid (decide_eq_true h9)
  have H9 := Lib.hid h9
  clear h9
  by_cases he : EmpN d.bytes.length d.host.length d.mail.length d.nums.length d.texts.length false true false true false
  case neg =>
    have HME := Lib.hid (decide_eq_false he)
    have HE := Lib.hid he
    clear he
    have HF : Hid (fineB 15 d = false) := fineB_false (fun h => by have h := h.2; rw [HK.out] at h; exact HE.out ⟨.inr (by have := h.1 (by decide); exact Int.ofNat_inj.1 this), .inl rfl, .inr (by have h6 : d.mail = [] := h.2.2.2.2.1; rw [h6]; rfl), .inl rfl, .inr (by have h6 : d.texts = [] := h.2.2.2.2.2.2; rw [h6]; rfl)⟩)
    go_wp2_with (first
      | (go_at_call 129; refine (empM_any _ _ _ _ _ _ _ _ _ _ _ _ _ _ _ w3).mono ?_; rw [HME.out]; rintro e w9 ⟨v9, rfl, rfl, hb9⟩)
      | (go_at_call 130; refine (fit_any s.A3 _ s.c3 d.nums 1 2 w3 HEN.out HBN.out).mono ?_; rw [HMF.out]; rintro e w8 ⟨rfl, rfl⟩)
      | (go_at_call 27; (with_reducible refine (rsound_any s.A1 _ s.c1 d.host w3 HEH.out).mono ?_); rw [HMH.out]; rintro e w8 ⟨rfl, rfl⟩)
      | fail)
    go_ret
    exact ⟨_, rfl, by rw [HF.out]; first | rfl | rfl, HB.out.trans (hb9.mono HB.out.size)⟩
  have HME := Lib.hid (decide_eq_true he)
  have HE := Lib.hid he
  clear he
  have HF : Hid (fineB 15 d = true) := fineB_true ⟨HKK.out, by rw [HK.out]; exact ⟨fun _ => congrArg Int.ofNat ((HE.out.1).resolve_left (by decide)), by have h3 := (HE.out.1).resolve_left (by decide); omega, H9.out.1, H5.out, HZ.out _ ((HE.out.2.2.1).resolve_left (by decide)), H9.out.2, HZ.out _ ((HE.out.2.2.2.2).resolve_left (by decide))⟩⟩
  go_wp2_with (first
    | (go_at_call 129; refine (empM_any _ _ _ _ _ _ _ _ _ _ _ _ _ _ _ w3).mono ?_; rw [HME.out]; rintro e w9 ⟨v9, rfl, rfl, hb9⟩)
    | (go_at_call 130; refine (fit_any s.A3 _ s.c3 d.nums 1 2 w3 HEN.out HBN.out).mono ?_; rw [HMF.out]; rintro e w8 ⟨rfl, rfl⟩)
    | (go_at_call 27; (with_reducible refine (rsound_any s.A1 _ s.c1 d.host w3 HEH.out).mono ?_); rw [HMH.out]; rintro e w8 ⟨rfl, rfl⟩)
    | fail)
  go_ret
  exact ⟨_, rfl, by rw [HF.out]; first | rfl | exact congrArg Value.bool (decide_eq_true hc), HB.out.trans (hb9.mono HB.out.size)⟩

set_option maxHeartbeats 4000000 in
theorem rdat6_any (s : DS) (d : Da) (w : World) (hd : DRd w s d) (hbt : d.texts.length ≤ 8796093022208) (hbn : d.nums.length ≤ 1000000000) : Calls Try.prog 76 #[.int .i64 6, dsV s d] w (RetP (fun v _ => v = .bool (fineB 6 d)) w) := by
  have HK : Hid (shapeP 6 = shpS) := rfl
  have HKK : Hid ((1 : Int) ≤ 6 ∧ (6 : Int) ≤ 65535) := ⟨by decide, by decide⟩
  unfold dsV
  obtain ⟨w3, hw3⟩ : ∃ w3, w3 = w.alloc (.cells #[.slice s.A0 d.bytes.length s.c0, .slice s.A1 d.host.length s.c1, .slice s.A2 d.mail.length s.c2, .slice s.A3 d.nums.length s.c3, .slice s.A4 d.texts.length s.c4] 46) := ⟨_, rfl⟩
  have hb1 : Below w.heap.size w w3 := by rw [hw3]; exact bl.alloc (Nat.le_refl _) _
  obtain ⟨x0, x1, x2, x3, x4⟩ : DBox w3 w.heap.size s d := by rw [hw3]; exact DBox.made w s d _
  have HD := Lib.hid (hd.below hb1)
  have HB := Lib.hid hb1
  have HBT := Lib.hid hbt
  have HBN := Lib.hid hbn
  clear hd hb1 hbt hbn
  have HEH : Hid (Els encS (ltS w3) (ltS w3) w3 s.A1 d.host.length d.host) := HD.out.h
  have HEM : Hid (Els encS (ltS w3) (ltS w3) w3 s.A2 d.mail.length d.mail) := HD.out.m
  have HEN : Hid (Els encI (ltS w3) (ltS w3) w3 s.A3 d.nums.length d.nums) := HD.out.n
  have HZ : Hid (∀ l : List (List UInt8), l.length = 0 → l = []) := fun l h => List.eq_nil_of_length_eq_zero h
  go_enter Try.func76, Try.ntmps76
  go_upto_region 1 with (fail)
  rw [← hw3]
  clear hw3
  by_cases h5 : SoundN d.host
  case neg =>
    have HMH := Lib.hid (soundB_false h5)
    have H5 := Lib.hid h5
    clear h5
    have HF : Hid (fineB 6 d = false) := fineB_false (fun h => by have h := h.2; rw [HK.out] at h; exact H5.out h.2.2.2.1)
    go_wp2_with (first
      | (go_at_call 27; (with_reducible refine (rsound_any s.A1 _ s.c1 d.host w3 HEH.out).mono ?_); rw [HMH.out]; rintro e w8 ⟨rfl, rfl⟩)
      | fail)
    go_ret
    exact ⟨_, rfl, by rw [HF.out]; first | rfl | rfl, HB.out⟩
  have HMH := Lib.hid (soundB_true h5)
  have H5 := Lib.hid h5
  clear h5
  by_cases h7 : SoundN d.mail
  case neg =>
    have HMM := Lib.hid (soundB_false h7)
    have H7 := Lib.hid h7
    clear h7
    have HF : Hid (fineB 6 d = false) := fineB_false (fun h => by have h := h.2; rw [HK.out] at h; exact H7.out h.2.2.2.2.1)
    go_wp2_with (first
      | (go_at_call 27; (with_reducible refine (rsound_any s.A2 _ s.c2 d.mail w3 HEM.out).mono ?_); rw [HMM.out]; rintro e w8 ⟨rfl, rfl⟩)
      | (go_at_call 27; (with_reducible refine (rsound_any s.A1 _ s.c1 d.host w3 HEH.out).mono ?_); rw [HMH.out]; rintro e w8 ⟨rfl, rfl⟩)
      | fail)
    go_ret
    exact ⟨_, rfl, by rw [HF.out]; first | rfl | rfl, HB.out⟩
  have HMM := Lib.hid (soundB_true h7)
  have H7 := Lib.hid h7
  clear h7
  by_cases h9 : FitI d.nums 5 4
  case neg =>
    have HMF := Lib.hid (decide_eq_false h9)
    have H9 := Lib.hid h9
    clear h9
    have HF : Hid (fineB 6 d = false) := fineB_false (fun h => by have h := h.2; rw [HK.out] at h; exact H9.out ⟨h.2.2.1, h.2.2.2.2.2.1⟩)
    go_wp2_with (first
      | (go_at_call 130; refine (fit_any s.A3 _ s.c3 d.nums 5 4 w3 HEN.out HBN.out).mono ?_; rw [HMF.out]; rintro e w8 ⟨rfl, rfl⟩)
      | (go_at_call 27; (with_reducible refine (rsound_any s.A2 _ s.c2 d.mail w3 HEM.out).mono ?_); rw [HMM.out]; rintro e w8 ⟨rfl, rfl⟩)
      | (go_at_call 27; (with_reducible refine (rsound_any s.A1 _ s.c1 d.host w3 HEH.out).mono ?_); rw [HMH.out]; rintro e w8 ⟨rfl, rfl⟩)
      | fail)
    go_ret
    exact ⟨_, rfl, by rw [HF.out]; first | rfl | rfl, HB.out⟩
  have HMF := Lib.hid (decide_eq_true h9)
  have H9 := Lib.hid h9
  clear h9
  by_cases he : EmpN d.bytes.length d.host.length d.mail.length d.nums.length d.texts.length false true true true false
  case neg =>
    have HME := Lib.hid (decide_eq_false he)
    have HE := Lib.hid he
    clear he
    have HF : Hid (fineB 6 d = false) := fineB_false (fun h => by have h := h.2; rw [HK.out] at h; exact HE.out ⟨.inr (by have := h.1 (by decide); exact Int.ofNat_inj.1 this), .inl rfl, .inl rfl, .inl rfl, .inr (by have h6 : d.texts = [] := h.2.2.2.2.2.2; rw [h6]; rfl)⟩)
    go_wp2_with (first
      | (go_at_call 129; refine (empS_any _ _ _ _ _ _ _ _ _ _ _ _ _ _ _ w3).mono ?_; rw [HME.out]; rintro e w9 ⟨v9, rfl, rfl, hb9⟩)
      | (go_at_call 130; refine (fit_any s.A3 _ s.c3 d.nums 5 4 w3 HEN.out HBN.out).mono ?_; rw [HMF.out]; rintro e w8 ⟨rfl, rfl⟩)
      | (go_at_call 27; (with_reducible refine (rsound_any s.A2 _ s.c2 d.mail w3 HEM.out).mono ?_); rw [HMM.out]; rintro e w8 ⟨rfl, rfl⟩)
      | (go_at_call 27; (with_reducible refine (rsound_any s.A1 _ s.c1 d.host w3 HEH.out).mono ?_); rw [HMH.out]; rintro e w8 ⟨rfl, rfl⟩)
      | fail)
    go_ret
    exact ⟨_, rfl, by rw [HF.out]; first | rfl | rfl, HB.out.trans (hb9.mono HB.out.size)⟩
  have HME := Lib.hid (decide_eq_true he)
  have HE := Lib.hid he
  clear he
  have HF : Hid (fineB 6 d = true) := fineB_true ⟨HKK.out, by rw [HK.out]; exact ⟨fun _ => congrArg Int.ofNat ((HE.out.1).resolve_left (by decide)), by have h3 := (HE.out.1).resolve_left (by decide); omega, H9.out.1, H5.out, H7.out, H9.out.2, HZ.out _ ((HE.out.2.2.2.2).resolve_left (by decide))⟩⟩
  go_wp2_with (first
    | (go_at_call 129; refine (empS_any _ _ _ _ _ _ _ _ _ _ _ _ _ _ _ w3).mono ?_; rw [HME.out]; rintro e w9 ⟨v9, rfl, rfl, hb9⟩)
    | (go_at_call 130; refine (fit_any s.A3 _ s.c3 d.nums 5 4 w3 HEN.out HBN.out).mono ?_; rw [HMF.out]; rintro e w8 ⟨rfl, rfl⟩)
    | (go_at_call 27; (with_reducible refine (rsound_any s.A2 _ s.c2 d.mail w3 HEM.out).mono ?_); rw [HMM.out]; rintro e w8 ⟨rfl, rfl⟩)
    | (go_at_call 27; (with_reducible refine (rsound_any s.A1 _ s.c1 d.host w3 HEH.out).mono ?_); rw [HMH.out]; rintro e w8 ⟨rfl, rfl⟩)
    | fail)
  go_ret
  exact ⟨_, rfl, by rw [HF.out]; first | rfl | exact congrArg Value.bool (decide_eq_true hc), HB.out.trans (hb9.mono HB.out.size)⟩

set_option maxHeartbeats 4000000 in
theorem rdat33_any (s : DS) (d : Da) (w : World) (hd : DRd w s d) (hbt : d.texts.length ≤ 8796093022208) (hbn : d.nums.length ≤ 1000000000) : Calls Try.prog 76 #[.int .i64 33, dsV s d] w (RetP (fun v _ => v = .bool (fineB 33 d)) w) := by
  have HK : Hid (shapeP 33 = shpV3) := rfl
  have HKK : Hid ((1 : Int) ≤ 33 ∧ (33 : Int) ≤ 65535) := ⟨by decide, by decide⟩
  unfold dsV
  obtain ⟨w3, hw3⟩ : ∃ w3, w3 = w.alloc (.cells #[.slice s.A0 d.bytes.length s.c0, .slice s.A1 d.host.length s.c1, .slice s.A2 d.mail.length s.c2, .slice s.A3 d.nums.length s.c3, .slice s.A4 d.texts.length s.c4] 46) := ⟨_, rfl⟩
  have hb1 : Below w.heap.size w w3 := by rw [hw3]; exact bl.alloc (Nat.le_refl _) _
  obtain ⟨x0, x1, x2, x3, x4⟩ : DBox w3 w.heap.size s d := by rw [hw3]; exact DBox.made w s d _
  have HD := Lib.hid (hd.below hb1)
  have HB := Lib.hid hb1
  have HBT := Lib.hid hbt
  have HBN := Lib.hid hbn
  clear hd hb1 hbt hbn
  have HEH : Hid (Els encS (ltS w3) (ltS w3) w3 s.A1 d.host.length d.host) := HD.out.h
  have HEM : Hid (Els encS (ltS w3) (ltS w3) w3 s.A2 d.mail.length d.mail) := HD.out.m
  have HEN : Hid (Els encI (ltS w3) (ltS w3) w3 s.A3 d.nums.length d.nums) := HD.out.n
  have HZ : Hid (∀ l : List (List UInt8), l.length = 0 → l = []) := fun l h => List.eq_nil_of_length_eq_zero h
  go_enter Try.func76, Try.ntmps76
  go_upto_region 1 with (fail)
  rw [← hw3]
  clear hw3
  by_cases h5 : SoundN d.host
  case neg =>
    have HMH := Lib.hid (soundB_false h5)
    have H5 := Lib.hid h5
    clear h5
    have HF : Hid (fineB 33 d = false) := fineB_false (fun h => by have h := h.2; rw [HK.out] at h; exact H5.out h.2.2.2.1)
    go_wp2_with (first
      | (go_at_call 27; (with_reducible refine (rsound_any s.A1 _ s.c1 d.host w3 HEH.out).mono ?_); rw [HMH.out]; rintro e w8 ⟨rfl, rfl⟩)
      | fail)
    go_ret
    exact ⟨_, rfl, by rw [HF.out]; first | rfl | rfl, HB.out⟩
  have HMH := Lib.hid (soundB_true h5)
  have H5 := Lib.hid h5
  clear h5
  by_cases h9 : FitI d.nums 3 2
  case neg =>
    have HMF := Lib.hid (decide_eq_false h9)
    have H9 := Lib.hid h9
    clear h9
    have HF : Hid (fineB 33 d = false) := fineB_false (fun h => by have h := h.2; rw [HK.out] at h; exact H9.out ⟨h.2.2.1, h.2.2.2.2.2.1⟩)
    go_wp2_with (first
      | (go_at_call 130; refine (fit_any s.A3 _ s.c3 d.nums 3 2 w3 HEN.out HBN.out).mono ?_; rw [HMF.out]; rintro e w8 ⟨rfl, rfl⟩)
      | (go_at_call 27; (with_reducible refine (rsound_any s.A1 _ s.c1 d.host w3 HEH.out).mono ?_); rw [HMH.out]; rintro e w8 ⟨rfl, rfl⟩)
      | fail)
    go_ret
    exact ⟨_, rfl, by rw [HF.out]; first | rfl | rfl, HB.out⟩
  have HMF := Lib.hid (decide_eq_true h9)
  have H9 := Lib.hid h9
  clear h9
  by_cases he : EmpN d.bytes.length d.host.length d.mail.length d.nums.length d.texts.length false true false true false
  case neg =>
    have HME := Lib.hid (decide_eq_false he)
    have HE := Lib.hid he
    clear he
    have HF : Hid (fineB 33 d = false) := fineB_false (fun h => by have h := h.2; rw [HK.out] at h; exact HE.out ⟨.inr (by have := h.1 (by decide); exact Int.ofNat_inj.1 this), .inl rfl, .inr (by have h6 : d.mail = [] := h.2.2.2.2.1; rw [h6]; rfl), .inl rfl, .inr (by have h6 : d.texts = [] := h.2.2.2.2.2.2; rw [h6]; rfl)⟩)
    go_wp2_with (first
      | (go_at_call 129; refine (empM_any _ _ _ _ _ _ _ _ _ _ _ _ _ _ _ w3).mono ?_; rw [HME.out]; rintro e w9 ⟨v9, rfl, rfl, hb9⟩)
      | (go_at_call 130; refine (fit_any s.A3 _ s.c3 d.nums 3 2 w3 HEN.out HBN.out).mono ?_; rw [HMF.out]; rintro e w8 ⟨rfl, rfl⟩)
      | (go_at_call 27; (with_reducible refine (rsound_any s.A1 _ s.c1 d.host w3 HEH.out).mono ?_); rw [HMH.out]; rintro e w8 ⟨rfl, rfl⟩)
      | fail)
    go_ret
    exact ⟨_, rfl, by rw [HF.out]; first | rfl | rfl, HB.out.trans (hb9.mono HB.out.size)⟩
  have HME := Lib.hid (decide_eq_true he)
  have HE := Lib.hid he
  clear he
  have HF : Hid (fineB 33 d = true) := fineB_true ⟨HKK.out, by rw [HK.out]; exact ⟨fun _ => congrArg Int.ofNat ((HE.out.1).resolve_left (by decide)), by have h3 := (HE.out.1).resolve_left (by decide); omega, H9.out.1, H5.out, HZ.out _ ((HE.out.2.2.1).resolve_left (by decide)), H9.out.2, HZ.out _ ((HE.out.2.2.2.2).resolve_left (by decide))⟩⟩
  go_wp2_with (first
    | (go_at_call 129; refine (empM_any _ _ _ _ _ _ _ _ _ _ _ _ _ _ _ w3).mono ?_; rw [HME.out]; rintro e w9 ⟨v9, rfl, rfl, hb9⟩)
    | (go_at_call 130; refine (fit_any s.A3 _ s.c3 d.nums 3 2 w3 HEN.out HBN.out).mono ?_; rw [HMF.out]; rintro e w8 ⟨rfl, rfl⟩)
    | (go_at_call 27; (with_reducible refine (rsound_any s.A1 _ s.c1 d.host w3 HEH.out).mono ?_); rw [HMH.out]; rintro e w8 ⟨rfl, rfl⟩)
    | fail)
  go_ret
  exact ⟨_, rfl, by rw [HF.out]; first | rfl | exact congrArg Value.bool (decide_eq_true hc), HB.out.trans (hb9.mono HB.out.size)⟩

set_option maxHeartbeats 4000000 in
theorem rdat16_any (s : DS) (d : Da) (w : World) (hd : DRd w s d) (hbt : d.texts.length ≤ 8796093022208) (hbn : d.nums.length ≤ 1000000000) : Calls Try.prog 76 #[.int .i64 16, dsV s d] w (RetP (fun v _ => v = .bool (fineB 16 d)) w) := by
  have HK : Hid (shapeP 16 = shpT) := rfl
  have HKK : Hid ((1 : Int) ≤ 16 ∧ (16 : Int) ≤ 65535) := ⟨by decide, by decide⟩
  unfold dsV
  obtain ⟨w3, hw3⟩ : ∃ w3, w3 = w.alloc (.cells #[.slice s.A0 d.bytes.length s.c0, .slice s.A1 d.host.length s.c1, .slice s.A2 d.mail.length s.c2, .slice s.A3 d.nums.length s.c3, .slice s.A4 d.texts.length s.c4] 46) := ⟨_, rfl⟩
  have hb1 : Below w.heap.size w w3 := by rw [hw3]; exact bl.alloc (Nat.le_refl _) _
  obtain ⟨x0, x1, x2, x3, x4⟩ : DBox w3 w.heap.size s d := by rw [hw3]; exact DBox.made w s d _
  have HD := Lib.hid (hd.below hb1)
  have HB := Lib.hid hb1
  have HBT := Lib.hid hbt
  have HBN := Lib.hid hbn
  clear hd hb1 hbt hbn
  have HEH : Hid (Els encS (ltS w3) (ltS w3) w3 s.A1 d.host.length d.host) := HD.out.h
  have HEM : Hid (Els encS (ltS w3) (ltS w3) w3 s.A2 d.mail.length d.mail) := HD.out.m
  have HEN : Hid (Els encI (ltS w3) (ltS w3) w3 s.A3 d.nums.length d.nums) := HD.out.n
  have HZ : Hid (∀ l : List (List UInt8), l.length = 0 → l = []) := fun l h => List.eq_nil_of_length_eq_zero h
  go_enter Try.func76, Try.ntmps76
  go_upto_region 1 with (fail)
  rw [← hw3]
  clear hw3
  generalize hnt : d.texts.length = nt at x4 HBT
  have HNT := Lib.hid hnt
  clear hnt
  by_cases h10 : (nt : Int) < 1
  · have H10 := Lib.hid h10
    have HF : Hid (fineB 16 d = false) := fineB_false (fun h => by have h := h.2; rw [HK.out] at h; have h6 : 1 ≤ d.texts.length := h.2.2.2.2.2.2.1; have h7 := H10.out; have h8 := HNT.out; omega)
    go_wp2_with (first
      | fail)
    go_ret
    exact ⟨_, rfl, by rw [HF.out]; first | rfl | rfl, HB.out⟩
  by_cases h11 : 64 < (nt : Int)
  · have H11 := Lib.hid h11
    have HF : Hid (fineB 16 d = false) := fineB_false (fun h => by have h := h.2; rw [HK.out] at h; have h6 : d.texts.length ≤ 64 := h.2.2.2.2.2.2.2.1; have h7 := H11.out; have h8 := HNT.out; omega)
    go_wp2_with (first
      | fail)
    go_ret
    exact ⟨_, rfl, by rw [HF.out]; first | rfl | rfl, HB.out⟩
  have H10 := Lib.hid h10
  have H11 := Lib.hid h11
  by_cases he : EmpN d.bytes.length d.host.length d.mail.length d.nums.length nt false false false false true
  case neg =>
    have HME := Lib.hid (decide_eq_false he)
    have HE := Lib.hid he
    clear he
    have HF : Hid (fineB 16 d = false) := fineB_false (fun h => by have h := h.2; rw [HK.out] at h; exact HE.out ⟨.inr (by have := h.1 (by decide); exact Int.ofNat_inj.1 this), .inr (by have h6 : d.host = [] := h.2.2.2.1; rw [h6]; rfl), .inr (by have h6 : d.mail = [] := h.2.2.2.2.1; rw [h6]; rfl), .inr (by have h6 := h.2.2.1; exact Int.ofNat_inj.1 h6), .inl rfl⟩)
    go_wp2_with (first
      | (go_at_call 129; refine (empT_any _ _ _ _ _ _ _ _ _ _ _ _ _ _ _ w3).mono ?_; rw [HME.out]; rintro e w9 ⟨v9, rfl, rfl, hb9⟩)
      | fail)
    go_ret
    exact ⟨_, rfl, by rw [HF.out]; first | rfl | rfl, HB.out.trans (hb9.mono HB.out.size)⟩
  have HME := Lib.hid (decide_eq_true he)
  have HE := Lib.hid he
  clear he
  have HFT : Hid ((∀ l ∈ d.texts, l.length ≤ 255) → fineB 16 d = true) := fun hl => fineB_true ⟨HKK.out, by rw [HK.out]; exact ⟨fun _ => congrArg Int.ofNat ((HE.out.1).resolve_left (by decide)), by have h3 := (HE.out.1).resolve_left (by decide); omega, congrArg Int.ofNat ((HE.out.2.2.2.1).resolve_left (by decide)), HZ.out _ ((HE.out.2.1).resolve_left (by decide)), HZ.out _ ((HE.out.2.2.1).resolve_left (by decide)), (fun n hn => by rw [List.eq_nil_of_length_eq_zero ((HE.out.2.2.2.1).resolve_left (by decide))] at hn; cases hn), ⟨by have := H10.out; have := HNT.out; omega, by have := H11.out; have := HNT.out; omega, hl⟩⟩⟩
  have HFF : Hid ((¬ ∀ l ∈ d.texts, l.length ≤ 255) → fineB 16 d = false) := fun hl => fineB_false (fun h => by have h := h.2; rw [HK.out] at h; exact hl h.2.2.2.2.2.2.2.2)
  have HT3 : Hid (RdE encS w3 s.A4 nt d.texts) := by show RdE _ _ _ _ _; rw [← HNT.out]; exact HD.out.t
  go_wp2_with (first
    | (go_at_call 129; refine (empT_any _ _ _ _ _ _ _ _ _ _ _ _ _ _ _ w3).mono ?_; rw [HME.out]; rintro e w9 ⟨v9, rfl, rfl, hb9⟩)
    | fail)
  have HT4 := Lib.hid (HT3.out.below hb9)
  have X4 := below_cell hb9 x4
  have HB9 := Lib.hid (HB.out.trans (hb9.mono HB.out.size))
  clear hb9 x0 x1 x2 x3 x4
  go_loopw [5] (fun iv wr => ∃ j : Nat, iv = .int .i64 j ∧ wr = w9 ∧ j ≤ nt ∧ Hid (∀ l ∈ d.texts.take j, l.length ≤ 255)) (fun iv _ => nt - (intOf iv).toNat)
  case atStart => exact ⟨0, rfl, rfl, Nat.zero_le _, fun l hl => by simp at hl⟩
  case round =>
    obtain ⟨j, rfl, rfl, hj, HT⟩ := hrel
    by_cases hlt : j < nt
    · obtain ⟨l, hx⟩ : ∃ l, d.texts[j]? = some l := ⟨_, List.getElem?_eq_getElem (by have := HNT.out; omega)⟩
      obtain ⟨bb, off, hA, _, hc, hll⟩ := strs_at HT4.out hx
      rw [hA] at X4
      have hbs := bstr_size l
      have HX := Lib.hid hx
      clear hx hA
      by_cases hl : 255 < (l.length : Int)
      · have HF := Lib.hid (HFF.out (fun h => by have := h l (List.mem_of_getElem? HX.out); omega))
        go_wp2
        go_ret
        exact ⟨_, rfl, by rw [HF.out]; rfl, HB9.out⟩
      · have HL := Lib.hid hl
        go_wp2
        go_roundw
        case rel => exact ⟨j + 1, by go_num, by first | exact rfl | trivial, by omega, fun m hm => by rw [List.take_add_one, HX.out, Option.toList_some, List.mem_append, List.mem_singleton] at hm; exact hm.elim (HT.out m) (fun e => by rw [e]; have := HL.out; omega)⟩
        case measure => simp [intOf]; omega
    · have hjn : j = nt := by omega
      have HF := Lib.hid (HFT.out (by have h1 := HT.out; rw [hjn, ← HNT.out, List.take_length] at h1; exact h1))
      subst hjn
      go_wp2
      go_ret
      exact ⟨_, rfl, by rw [HF.out]; rfl, HB9.out⟩

set_option maxHeartbeats 4000000 in
theorem rdatO_any (k : Int) (hk1 : 1 ≤ k) (hk2 : k ≤ 65535) (h1 : ¬ k = 1) (h28 : ¬ k = 28) (h2 : ¬ k = 2) (h5 : ¬ k = 5) (h12 : ¬ k = 12) (h15 : ¬ k = 15) (h6 : ¬ k = 6) (h33 : ¬ k = 33) (h16 : ¬ k = 16) (s : DS) (d : Da) (w : World) (hd : DRd w s d) (hbt : d.texts.length ≤ 8796093022208) (hbn : d.nums.length ≤ 1000000000) : Calls Try.prog 76 #[.int .i64 k, dsV s d] w (RetP (fun v _ => v = .bool (fineB k d)) w) := by
  have HK : Hid (shapeP k = shpB) := by show _ = _; unfold shapeP; rw [if_neg h1, if_neg h28, if_neg (by omega), if_neg h15, if_neg h6, if_neg h33, if_neg h16]
  have HKK : Hid (1 ≤ k ∧ k ≤ 65535) := ⟨hk1, hk2⟩
  unfold dsV
  obtain ⟨w3, hw3⟩ : ∃ w3, w3 = w.alloc (.cells #[.slice s.A0 d.bytes.length s.c0, .slice s.A1 d.host.length s.c1, .slice s.A2 d.mail.length s.c2, .slice s.A3 d.nums.length s.c3, .slice s.A4 d.texts.length s.c4] 46) := ⟨_, rfl⟩
  have hb1 : Below w.heap.size w w3 := by rw [hw3]; exact bl.alloc (Nat.le_refl _) _
  obtain ⟨x0, x1, x2, x3, x4⟩ : DBox w3 w.heap.size s d := by rw [hw3]; exact DBox.made w s d _
  have HD := Lib.hid (hd.below hb1)
  have HB := Lib.hid hb1
  have HBT := Lib.hid hbt
  have HBN := Lib.hid hbn
  clear hd hb1 hbt hbn
  have HEH : Hid (Els encS (ltS w3) (ltS w3) w3 s.A1 d.host.length d.host) := HD.out.h
  have HEM : Hid (Els encS (ltS w3) (ltS w3) w3 s.A2 d.mail.length d.mail) := HD.out.m
  have HEN : Hid (Els encI (ltS w3) (ltS w3) w3 s.A3 d.nums.length d.nums) := HD.out.n
  have HZ : Hid (∀ l : List (List UInt8), l.length = 0 → l = []) := fun l h => List.eq_nil_of_length_eq_zero h
  go_enter Try.func76, Try.ntmps76
  go_upto_region 1 with (fail)
  rw [← hw3]
  clear hw3
  have hkl : ¬ k < 1 := by omega
  have hkg : ¬ 65535 < k := by omega
  by_cases hc : (d.bytes.length : Int) ≤ 65535
  case neg =>
    have HC := Lib.hid hc
    have HF : Hid (fineB k d = false) := fineB_false (fun h => by have h := h.2; rw [HK.out] at h; have h2 := h.2.1; have h4 := HC.out; omega)
    go_wp2_with (first
      | fail)
    go_ret
    exact ⟨_, rfl, by rw [HF.out]; first | rfl | exact congrArg Value.bool (decide_eq_false hc), HB.out⟩
  have HC := Lib.hid hc
  by_cases he : EmpN d.bytes.length d.host.length d.mail.length d.nums.length d.texts.length true false false false false
  case neg =>
    have HME := Lib.hid (decide_eq_false he)
    have HE := Lib.hid he
    clear he
    have HF : Hid (fineB k d = false) := fineB_false (fun h => by have h := h.2; rw [HK.out] at h; exact HE.out ⟨.inl rfl, .inr (by have h6 : d.host = [] := h.2.2.2.1; rw [h6]; rfl), .inr (by have h6 : d.mail = [] := h.2.2.2.2.1; rw [h6]; rfl), .inr (by have h6 := h.2.2.1; exact Int.ofNat_inj.1 h6), .inr (by have h6 : d.texts = [] := h.2.2.2.2.2.2; rw [h6]; rfl)⟩)
    go_wp2_with (first
      | (go_at_call 129; refine (empA_any _ _ _ _ _ _ _ _ _ _ _ _ _ _ _ w3).mono ?_; rw [HME.out]; rintro e w9 ⟨v9, rfl, rfl, hb9⟩)
      | fail)
    go_ret
    exact ⟨_, rfl, by rw [HF.out]; first | rfl | rfl, HB.out.trans (hb9.mono HB.out.size)⟩
  have HME := Lib.hid (decide_eq_true he)
  have HE := Lib.hid he
  clear he
  have HF : Hid (fineB k d = true) := fineB_true ⟨HKK.out, by rw [HK.out]; exact ⟨fun h => absurd h (by decide), by have h4 := HC.out; omega, congrArg Int.ofNat ((HE.out.2.2.2.1).resolve_left (by decide)), HZ.out _ ((HE.out.2.1).resolve_left (by decide)), HZ.out _ ((HE.out.2.2.1).resolve_left (by decide)), (fun n hn => by rw [List.eq_nil_of_length_eq_zero ((HE.out.2.2.2.1).resolve_left (by decide))] at hn; cases hn), HZ.out _ ((HE.out.2.2.2.2).resolve_left (by decide))⟩⟩
  go_wp2_with (first
    | (go_at_call 129; refine (empA_any _ _ _ _ _ _ _ _ _ _ _ _ _ _ _ w3).mono ?_; rw [HME.out]; rintro e w9 ⟨v9, rfl, rfl, hb9⟩)
    | fail)
  go_ret
  exact ⟨_, rfl, by rw [HF.out]; first | rfl | exact congrArg Value.bool (decide_eq_true hc), HB.out.trans (hb9.mono HB.out.size)⟩

set_option maxHeartbeats 1000000 in
theorem rdat_bad (k : Int) (hk : k < 1 ∨ 65535 < k) (s : DS) (d : Da) (w : World) : Calls Try.prog 76 #[.int .i64 k, dsV s d] w (RetP (fun v _ => v = .bool (fineB k d)) w) := by
  have HF : Hid (fineB k d = false) := fineB_false (fun h => by have := h.1; omega)
  unfold dsV
  rcases hk with hk | hk
  all_goals
    go_enter Try.func76, Try.ntmps76
    go_wp2
    go_ret
    exact ⟨_, rfl, by rw [HF.out]; rfl, bl.alloc (Nat.le_refl _) _⟩
/-- May a type say so, as the reference has it. -/
theorem rdata_big (k : Int) (s : DS) (d : Da) (w : World) (hd : DRd w s d) (hbt : d.texts.length ≤ 8796093022208) (hbn : d.nums.length ≤ 1000000000) : Calls Try.prog 76 #[.int .i64 k, dsV s d] w (RetP (fun v _ => v = .bool (fineB k d)) w) := by
  by_cases hb : k < 1 ∨ 65535 < k
  · exact rdat_bad k hb s d w
  by_cases h1 : k = 1
  · subst h1
    exact rdat1_any s d w hd hbt hbn
  by_cases h28 : k = 28
  · subst h28
    exact rdat28_any s d w hd hbt hbn
  by_cases h2 : k = 2
  · subst h2
    exact rdat2_any s d w hd hbt hbn
  by_cases h5 : k = 5
  · subst h5
    exact rdat5_any s d w hd hbt hbn
  by_cases h12 : k = 12
  · subst h12
    exact rdat12_any s d w hd hbt hbn
  by_cases h15 : k = 15
  · subst h15
    exact rdat15_any s d w hd hbt hbn
  by_cases h6 : k = 6
  · subst h6
    exact rdat6_any s d w hd hbt hbn
  by_cases h33 : k = 33
  · subst h33
    exact rdat33_any s d w hd hbt hbn
  by_cases h16 : k = 16
  · subst h16
    exact rdat16_any s d w hd hbt hbn
  exact rdatO_any k (by omega) (by omega) h1 h28 h2 h5 h12 h15 h6 h33 h16 s d w hd hbt hbn
theorem rdata_any (k : Int) (s : DS) (d : Da) (w : World) (hd : DRd w s d) (hbt : d.texts.length ≤ 1000000000) (hbn : d.nums.length ≤ 1000000000) : Calls Try.prog 76 #[.int .i64 k, dsV s d] w (RetP (fun v _ => v = .bool (fineB k d)) w) := rdata_big k s d w hd (Nat.le_trans hbt (by decide)) hbn
end Go.Proofs.Ytimkdpkhdbiniaa
