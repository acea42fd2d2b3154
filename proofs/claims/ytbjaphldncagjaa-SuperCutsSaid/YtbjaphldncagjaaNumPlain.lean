/- Numbers as bytes, in plain Lean: what fits, which bytes, what is read back. No program in it. -/
import Derived.Laws.BitsAllLaws
import Derived.Laws.BitsLemmas
import Derived.RowKit
namespace Go.Proofs.Ytbjaphldncagjaa

/-- Has a number so many bytes? -/
def fitsB (n size : Int) : Bool := decide (1 ≤ size ∧ size ≤ 7 ∧ 0 ≤ n ∧ n < 256 ^ size.toNat)
/-- The last k bytes of a number, the greatest first. -/
def be (n : Nat) : Nat → List UInt8
  | 0 => []
  | k + 1 => be (n / 256) k ++ [UInt8.ofNat n]
def putB (bs : List UInt8) (n size : Int) : List UInt8 := if fitsB n size then bs ++ be n.toNat size.toNat else bs
def val (l : List UInt8) : Nat := l.foldl (fun a x => a * 256 + x.toNat) 0
/-- The number at a place, and the error. -/
def getN (bs : List UInt8) (at_ size : Int) : Int × Int :=
  if size < 1 ∨ 7 < size ∨ at_ < 0 then (0, 1)
  else if (bs.length : Int) < at_ ∨ (bs.length : Int) - at_ < size then (0, 3)
  else ((val ((bs.drop at_.toNat).take size.toNat) : Int), 0)

theorem snoc_ind {α : Type} {P : List α → Prop} (h0 : P []) (h1 : ∀ l x, P l → P (l ++ [x])) (l : List α) : P l := by
  have h : ∀ m : List α, P m.reverse := by
    intro m
    induction m with
    | nil => simpa using h0
    | cons x m ih => rw [List.reverse_cons]; exact h1 _ _ ih
  have := h l.reverse
  rwa [List.reverse_reverse] at this

theorem fitsB_true {n size : Int} (h : fitsB n size = true) : 1 ≤ size ∧ size ≤ 7 ∧ 0 ≤ n ∧ n < 256 ^ size.toNat := of_decide_eq_true h

theorem length_be (n k : Nat) : (be n k).length = k := by
  induction k generalizing n with
  | zero => rfl
  | succ k ih => simp [be, ih]

theorem be_step (n j k : Nat) : be (n / 256 ^ j) (k + 1) = be (n / 256 ^ (j + 1)) k ++ [UInt8.ofNat (n / 256 ^ j)] := by
  rw [be, Nat.div_div_eq_div_mul, ← Nat.pow_succ]

theorem val_append (a b : List UInt8) : val (a ++ b) = val a * 256 ^ b.length + val b := by
  refine snoc_ind (P := fun b => val (a ++ b) = val a * 256 ^ b.length + val b) ?_ (fun b x ih => ?_) b
  · simp [val]
  · rw [← List.append_assoc]
    have e : ∀ l : List UInt8, val (l ++ [x]) = val l * 256 + x.toNat := fun l => by simp [val, List.foldl_append]
    rw [e, e, ih, List.length_append, List.length_singleton, Nat.pow_succ, Nat.add_mul, Nat.mul_assoc]
    omega

theorem val_snoc (l : List UInt8) (x : UInt8) : val (l ++ [x]) = val l * 256 + x.toNat := by simp [val, List.foldl_append]

theorem val_lt (l : List UInt8) : val l < 256 ^ l.length := by
  refine snoc_ind (P := fun l => val l < 256 ^ l.length) ?_ (fun l x ih => ?_) l
  · simp [val]
  · rw [val_snoc, List.length_append, List.length_singleton, Nat.pow_succ]
    have := x.toNat_lt
    omega

theorem val_be (n k : Nat) (h : n < 256 ^ k) : val (be n k) = n := by
  induction k generalizing n with
  | zero => simp at h; subst h; rfl
  | succ k ih =>
    rw [be, val_snoc, ih (n / 256) (by rw [Nat.pow_succ] at h; omega)]
    have : (UInt8.ofNat n).toNat = n % 256 := by simp
    omega

theorem be_val (l : List UInt8) : be (val l) l.length = l := by
  refine snoc_ind (P := fun l => be (val l) l.length = l) ?_ (fun l x ih => ?_) l
  · rfl
  · rw [List.length_append, List.length_singleton, be, val_snoc]
    have hx := x.toNat_lt
    have h1 : (val l * 256 + x.toNat) / 256 = val l := by omega
    have h2 : UInt8.ofNat (val l * 256 + x.toNat) = x := by
      apply UInt8.toNat_inj.1
      simp
    rw [h1, h2, ih]

theorem shl_or (n x : Nat) (hx : x < 256) : n <<< 8 ||| x = n * 256 + x := by
  rw [← Nat.shiftLeft_add_eq_or_of_lt (i := 8) (by simpa using hx) n, Nat.shiftLeft_eq]

theorem ofNat_u8 (n : Nat) : ((UInt8.ofNat n).toNat : Int) = (n : Int) % 256 := by simp

theorem shr_byte (q i : Nat) : (q : Int) / 2 ^ (8 * i) % 256 = ((UInt8.ofNat (q / 256 ^ i)).toNat : Int) := by
  rw [Int.pow_mul, ofNat_u8]
  show _ = ((q / 256 ^ i : Nat) : Int) % 256
  rw [Int.natCast_ediv, Int.natCast_pow]
  rfl

theorem be_next (q i z : Nat) (h : i + 1 ≤ z) : be (q / 256 ^ (i + 1)) (z - (i + 1)) ++ [UInt8.ofNat (q / 256 ^ i)] = be (q / 256 ^ i) (z - i) := by
  rw [← be_step]
  congr 1
  omega
theorem be_first (q z : Nat) : be (q / 256 ^ z) (z - z) = [] := by rw [Nat.sub_self]; rfl
theorem be_last (q z : Nat) : be (q / 256 ^ 0) (z - 0) = be q z := by simp

theorem set_last {α : Type} (x y : α) (i : Nat) (s : List α) : (List.replicate (i + 1) x ++ s).set i y = List.replicate i x ++ y :: s := by
  rw [List.set_append_left _ _ (by simp), List.replicate_succ', List.set_append_right _ _ (by simp)]
  simp

theorem val_lt_of {l : List UInt8} {k : Nat} (h : l.length ≤ k) : val l < 256 ^ k := Nat.lt_of_lt_of_le (val_lt l) (Nat.pow_le_pow_right (by decide) h)
theorem val_take (l : List UInt8) (k : Nat) (x : UInt8) (h : l[k]? = some x) : val (l.take (k + 1)) = val (l.take k) * 256 + x.toNat := by
  rw [List.take_add_one, h]; exact val_snoc _ _
theorem pow256_6 : 256 ^ 6 = 281474976710656 := by decide

theorem val_cons (c : UInt8) (l : List UInt8) : val (c :: l) = c.toNat * 256 ^ l.length + val l := by
  have h := val_append [c] l
  rw [show val [c] = c.toNat by simp [val]] at h
  simpa using h
theorem lt_val : ∀ (x y : List UInt8), x.length = y.length → (x < y ↔ val x < val y)
  | [], [], _ => by simp [val]
  | [], _ :: _, h => by simp at h
  | _ :: _, [], h => by simp at h
  | a :: x, b :: y, h => by
    have hl : x.length = y.length := by simpa using h
    have hx := val_lt x
    have hy := val_lt y
    rw [List.cons_lt_cons_iff, lt_val x y hl, val_cons, val_cons, hl]
    rw [hl] at hx
    obtain ⟨P, hP⟩ : ∃ P, P = 256 ^ y.length := ⟨_, rfl⟩
    rw [← hP] at hx hy ⊢
    constructor
    · rintro (h1 | ⟨rfl, h1⟩)
      · have h2 : a.toNat + 1 ≤ b.toNat := h1
        have h3 := Nat.mul_le_mul_right P h2
        rw [Nat.add_mul] at h3
        omega
      · omega
    · intro h1
      by_cases e : a = b
      · subst e; exact .inr ⟨rfl, by omega⟩
      · left
        show a.toNat < b.toNat
        have ne : a.toNat ≠ b.toNat := fun h => e (UInt8.toNat_inj.1 h)
        rcases Nat.lt_or_ge a.toNat b.toNat with h2 | h2
        · exact h2
        · exfalso
          have h3 := Nat.mul_le_mul_right P (show b.toNat + 1 ≤ a.toNat by omega)
          rw [Nat.add_mul] at h3
          omega
theorem be_inj {a b k : Nat} (ha : a < 256 ^ k) (hb : b < 256 ^ k) : be a k = be b k ↔ a = b := by
  constructor
  · intro h
    have := congrArg val h
    rwa [val_be _ _ ha, val_be _ _ hb] at this
  · rintro rfl; rfl
theorem be_lt {a b k : Nat} (ha : a < 256 ^ k) (hb : b < 256 ^ k) : be a k < be b k ↔ a < b := by
  rw [lt_val _ _ (by rw [length_be, length_be]), val_be _ _ ha, val_be _ _ hb]

/-- What was put is got: behind whatever bytes; one place on there is too little. -/
theorem getN_put (bs : List UInt8) (n size : Int) (h : fitsB n size = true) : getN (putB bs n size) bs.length size = (n, 0) := by
  obtain ⟨h1, h2, h3, h4⟩ := fitsB_true h
  obtain ⟨z, rfl⟩ := Int.eq_ofNat_of_zero_le (Int.le_trans (by decide) h1)
  obtain ⟨q, rfl⟩ := Int.eq_ofNat_of_zero_le h3
  unfold getN putB
  rw [if_pos h, if_neg (by omega), if_neg (by rw [List.length_append, length_be]; omega)]
  simp only [Int.toNat_natCast]
  rw [List.drop_left, List.take_of_length_le (by rw [length_be]; omega), val_be _ _ (by
    have : (q : Int) < ((256 ^ z : Nat) : Int) := by rw [Int.natCast_pow]; exact h4
    omega)]
theorem getN_put_next (bs : List UInt8) (n size : Int) (h : fitsB n size = true) : getN (putB bs n size) (bs.length + 1) size = (0, 3) := by
  obtain ⟨h1, h2, h3, h4⟩ := fitsB_true h
  unfold getN putB
  rw [if_pos h, if_neg (by omega), if_pos (by rw [List.length_append, length_be]; omega)]
theorem putB_length (bs : List UInt8) (n size : Int) (h : fitsB n size = true) : ((putB bs n size).length : Int) = bs.length + size := by
  obtain ⟨h1, h2, h3, h4⟩ := fitsB_true h
  unfold putB
  rw [if_pos h, List.length_append, length_be]
  omega
theorem putB_take (bs : List UInt8) (n size : Int) : (putB bs n size).take bs.length = bs := by
  unfold putB
  split
  · exact List.take_left
  · exact List.take_length
theorem putB_le (bs : List UInt8) (n size : Int) : (putB bs n size).length ≤ bs.length + 7 := by
  unfold putB
  split
  · rename_i h
    obtain ⟨h1, h2, h3, h4⟩ := fitsB_true h
    rw [List.length_append, length_be]
    omega
  · omega
theorem putB_ge (bs : List UInt8) (n size : Int) : bs.length ≤ (putB bs n size).length := by
  unfold putB
  split
  · rw [List.length_append]; omega
  · omega

theorem ofInt_i64 (a : Nat) (ha : a < 9223372036854775808) : (BitVec.ofInt 64 (a : Int)).toNat = a := by
  rw [BitVec.ofInt_natCast, BitVec.toNat_ofNat]; exact Nat.mod_eq_of_lt (by omega)
theorem i64_or_nat (a b : Nat) (ha : a < 9223372036854775808) (hb : b < 9223372036854775808) : bits .or .i64 (a : Int) (b : Int) = ((a ||| b : Nat) : Int) := by
  have hx : a ||| b < 2 ^ 63 := Nat.or_lt_two_pow (by omega) (by omega)
  show IntKind.i64.wrap ((BitVec.ofInt 64 (a : Int) ||| BitVec.ofInt 64 (b : Int)).toNat : Int) = _
  rw [BitVec.toNat_or, ofInt_i64 a ha, ofInt_i64 b hb, IntKind.wrap_i64]
  omega
theorem i64_and_nat (a b : Nat) (ha : a < 9223372036854775808) (hb : b < 9223372036854775808) : bits .and .i64 (a : Int) (b : Int) = ((a &&& b : Nat) : Int) := by
  have hx : a &&& b < 2 ^ 63 := Nat.and_lt_two_pow _ (by omega)
  show IntKind.i64.wrap ((BitVec.ofInt 64 (a : Int) &&& BitVec.ofInt 64 (b : Int)).toNat : Int) = _
  rw [BitVec.toNat_and, ofInt_i64 a ha, ofInt_i64 b hb, IntKind.wrap_i64]
  omega
theorem or_byte (v x : Nat) (hv : v < 281474976710656) (hx : x < 256) : bits .or .i64 ((v : Int) * 256) (x : Int) = ((v * 256 + x : Nat) : Int) := by
  have h := i64_or_nat (v * 256) x (by omega) (by omega)
  rw [show ((v * 256 : Nat) : Int) = (v : Int) * 256 from rfl] at h
  rw [h, show v * 256 = v <<< 8 from (Nat.shiftLeft_eq v 8).symm, shl_or _ _ hx, Nat.shiftLeft_eq]

end Go.Proofs.Ytbjaphldncagjaa
