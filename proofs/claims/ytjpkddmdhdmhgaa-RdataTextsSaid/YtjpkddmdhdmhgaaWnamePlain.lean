/- Reading a name, in plain Lean, as the program does it. -/
import Derived.Test.YtjpkddmdhdmhgaaNumPlain
namespace Go.Proofs.Ytjpkddmdhdmhgaa

/-- How many bytes a name has, as it is written. -/
def sizeN : List (List UInt8) → Nat
  | [] => 1
  | l :: n => l.length + 1 + sizeN n
theorem sizeN_append (a b : List (List UInt8)) : sizeN (a ++ b) + 1 = sizeN a + sizeN b := by
  induction a with
  | nil => simp [sizeN]; omega
  | cons x a ih => simp only [List.cons_append, sizeN]; omega
theorem sizeN_snoc (a : List (List UInt8)) (l : List UInt8) : sizeN (a ++ [l]) = sizeN a + l.length + 1 := by
  have := sizeN_append a [l]
  simp only [sizeN] at this
  omega
theorem sizeN_length (n : List (List UInt8)) : n.length + 1 ≤ sizeN n := by
  induction n with
  | nil => simp [sizeN]
  | cons l n ih => simp only [sizeN, List.length_cons]; omega
theorem sizeN_mem {n : List (List UInt8)} {l : List UInt8} (h : l ∈ n) : l.length + 2 ≤ sizeN n := by
  induction n with
  | nil => cases h
  | cons x n ih =>
    simp only [sizeN]
    rcases List.mem_cons.1 h with e | e
    · subst e; have := sizeN_length n; omega
    · have := ih e; omega

def getP (b : List UInt8) (at_ beg nx : Nat) (ls : List (List UInt8)) : List (List UInt8) × Int × Int :=
  match b[at_]? with
  | none => ([], 0, 3)
  | some c =>
    if c.toNat = 0 then (ls, ((max nx (at_ + 1) : Nat) : Int), 0)
    else if 192 ≤ c.toNat then
      match b[at_ + 1]? with
      | none => ([], 0, 3)
      | some d => if (c.toNat * 256 + d.toNat) % 16384 < beg then getP b ((c.toNat * 256 + d.toNat) % 16384) ((c.toNat * 256 + d.toNat) % 16384) (max nx (at_ + 2)) ls else ([], 0, 6)
    else if 63 < c.toNat then ([], 0, 5)
    else if b.length < at_ + 1 + c.toNat then ([], 0, 3)
    else if 255 < sizeN ls + 1 + c.toNat then ([], 0, 5)
    else getP b (at_ + 1 + c.toNat) beg nx (ls ++ [(b.drop (at_ + 1)).take c.toNat])
termination_by (beg, 256 - sizeN ls)
decreasing_by
  · exact Prod.Lex.left _ _ (by omega)
  · refine Prod.Lex.right _ ?_
    rw [sizeN_snoc, List.length_take, List.length_drop]
    omega

section
variable {b : List UInt8} {at_ beg nx : Nat} {ls : List (List UInt8)}
theorem getP_short (h : b.length ≤ at_) : getP b at_ beg nx ls = ([], 0, 3) := by
  rw [getP, List.getElem?_eq_none h]
theorem getP_end {c : UInt8} (h : b[at_]? = some c) (hc : c.toNat = 0) : getP b at_ beg nx ls = (ls, ((max nx (at_ + 1) : Nat) : Int), 0) := by
  rw [getP, h]; simp only; rw [if_pos hc]
theorem getP_short2 {c : UInt8} (h : b[at_]? = some c) (hc : 192 ≤ c.toNat) (h2 : b.length ≤ at_ + 1) : getP b at_ beg nx ls = ([], 0, 3) := by
  rw [getP, h]; simp only; rw [if_neg (by omega), if_pos hc, List.getElem?_eq_none h2]
theorem getP_ptr {c d : UInt8} (h : b[at_]? = some c) (hc : 192 ≤ c.toNat) (h2 : b[at_ + 1]? = some d) (hb : (c.toNat * 256 + d.toNat) % 16384 < beg) :
    getP b at_ beg nx ls = getP b ((c.toNat * 256 + d.toNat) % 16384) ((c.toNat * 256 + d.toNat) % 16384) (max nx (at_ + 2)) ls := by
  rw [getP, h]; simp only; rw [if_neg (by omega), if_pos hc, h2]; simp only; rw [if_pos hb]
theorem getP_loop {c d : UInt8} (h : b[at_]? = some c) (hc : 192 ≤ c.toNat) (h2 : b[at_ + 1]? = some d) (hb : ¬ (c.toNat * 256 + d.toNat) % 16384 < beg) : getP b at_ beg nx ls = ([], 0, 6) := by
  rw [getP, h]; simp only; rw [if_neg (by omega), if_pos hc, h2]; simp only; rw [if_neg hb]
theorem getP_name {c : UInt8} (h : b[at_]? = some c) (hc : 63 < c.toNat) (hc2 : c.toNat < 192) : getP b at_ beg nx ls = ([], 0, 5) := by
  rw [getP, h]; simp only; rw [if_neg (by omega), if_neg (by omega), if_pos hc]
theorem getP_cut {c : UInt8} (h : b[at_]? = some c) (h0 : c.toNat ≠ 0) (hc : c.toNat ≤ 63) (hl : b.length < at_ + 1 + c.toNat) : getP b at_ beg nx ls = ([], 0, 3) := by
  rw [getP, h]; simp only; rw [if_neg h0, if_neg (by omega), if_neg (by omega), if_pos hl]
theorem getP_long {c : UInt8} (h : b[at_]? = some c) (h0 : c.toNat ≠ 0) (hc : c.toNat ≤ 63) (hl : at_ + 1 + c.toNat ≤ b.length) (hs : 255 < sizeN ls + 1 + c.toNat) : getP b at_ beg nx ls = ([], 0, 5) := by
  rw [getP, h]; simp only; rw [if_neg h0, if_neg (by omega), if_neg (by omega), if_neg (by omega), if_pos hs]
theorem getP_label {c : UInt8} (h : b[at_]? = some c) (h0 : c.toNat ≠ 0) (hc : c.toNat ≤ 63) (hl : at_ + 1 + c.toNat ≤ b.length) (hs : sizeN ls + 1 + c.toNat ≤ 255) :
    getP b at_ beg nx ls = getP b (at_ + 1 + c.toNat) beg nx (ls ++ [(b.drop (at_ + 1)).take c.toNat]) := by
  rw [getP, h]; simp only; rw [if_neg h0, if_neg (by omega), if_neg (by omega), if_neg (by omega), if_neg (by omega)]
end

theorem getN_1 {b : List UInt8} {at_ : Nat} : getN b at_ 1 = match b[at_]? with | none => (0, 3) | some c => ((c.toNat : Int), 0) := by
  unfold getN
  rw [if_neg (by omega)]
  by_cases h : at_ < b.length
  · rw [if_neg (by omega), List.getElem?_eq_getElem h]
    simp only [Int.toNat_natCast]
    rw [List.drop_eq_getElem_cons h, show (1 : Int).toNat = 0 + 1 from rfl, List.take_succ_cons, List.take_zero]
    simp [val]
  · rw [if_pos (by omega), List.getElem?_eq_none (by omega)]
theorem getN_2 {b : List UInt8} {at_ : Nat} {c : UInt8} (hc : b[at_]? = some c) : getN b at_ 2 = match b[at_ + 1]? with | none => (0, 3) | some d => (((c.toNat * 256 + d.toNat : Nat) : Int), 0) := by
  have h0 : at_ < b.length := (List.getElem?_eq_some_iff.1 hc).1
  rw [List.getElem?_eq_getElem h0] at hc
  injection hc with hc
  unfold getN
  rw [if_neg (by omega)]
  by_cases h : at_ + 1 < b.length
  · rw [if_neg (by omega), List.getElem?_eq_getElem h]
    simp only [Int.toNat_natCast]
    rw [List.drop_eq_getElem_cons h0, List.drop_eq_getElem_cons h, hc, show (2 : Int).toNat = 0 + 1 + 1 from rfl, List.take_succ_cons, List.take_succ_cons, List.take_zero]
    simp [val]
  · rw [if_pos (by omega), List.getElem?_eq_none (by omega)]
theorem getN_1n {b : List UInt8} {at_ : Nat} (h : b[at_]? = none) : getN b at_ 1 = (0, 3) := by rw [getN_1, h]
theorem getN_1s {b : List UInt8} {at_ : Nat} {c : UInt8} (h : b[at_]? = some c) : getN b at_ 1 = ((c.toNat : Int), 0) := by rw [getN_1, h]
theorem getN_2n {b : List UInt8} {at_ : Nat} {c : UInt8} (hc : b[at_]? = some c) (h : b[at_ + 1]? = none) : getN b at_ 2 = (0, 3) := by rw [getN_2 hc, h]
theorem getN_2s {b : List UInt8} {at_ : Nat} {c d : UInt8} (hc : b[at_]? = some c) (h : b[at_ + 1]? = some d) : getN b at_ 2 = (((c.toNat * 256 + d.toNat : Nat) : Int), 0) := by rw [getN_2 hc, h]
theorem and_16383 (n : Nat) (h : n < 9223372036854775808) : bits .and .i64 (n : Int) 16383 = ((n % 16384 : Nat) : Int) := by
  have h1 := i64_and_nat n 16383 h (by omega)
  rw [show ((16383 : Nat) : Int) = 16383 from rfl] at h1
  rw [h1, show (16383 : Nat) = 2 ^ 14 - 1 from rfl, Nat.and_two_pow_sub_one_eq_mod]
end Go.Proofs.Ytjpkddmdhdmhgaa
