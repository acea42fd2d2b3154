/- wname: many names, one behind the other. No program in it. -/
import Derived.Test.YtjpkddmdhdmhgaaWtrLaws
namespace Go.Proofs.Ytjpkddmdhdmhgaa

/-- The writer when k names were written. -/
def seqX (x0 : Wr) (names : List (List (List UInt8))) (sh : List Bool) : Nat → Wr
  | 0 => x0
  | k + 1 => (seqX x0 names sh k).name (names.getD k []) (sh.getD k false)

section
variable {x0 : Wr} {names : List (List (List UInt8))} {sh : List Bool}
theorem seqX_succ (k : Nat) : seqX x0 names sh (k + 1) = (seqX x0 names sh k).name (names.getD k []) (sh.getD k false) := rfl
theorem getD_sound {k : Nat} (h : ∀ i, i < k → SoundN (names.getD i [])) {i : Nat} (hi : i < k) : ∀ l ∈ names.getD i [], 1 ≤ l.length ∧ l.length ≤ 63 := (h i hi).1
theorem seqX_true (h0 : x0.True) (k : Nat) (h : ∀ i, i < k → SoundN (names.getD i [])) : (seqX x0 names sh k).True := by
  induction k with
  | zero => exact h0
  | succ k ih => exact ((ih fun i hi => h i (by omega)).name (h k (by omega)).1 _).1
theorem seqX_ext (k d : Nat) : ∃ y, (seqX x0 names sh (k + d)).b = (seqX x0 names sh k).b ++ y := by
  induction d with
  | zero => exact ⟨[], by simp⟩
  | succ d ih =>
    obtain ⟨y, hy⟩ := ih
    obtain ⟨z, hz, _⟩ := Wr.name_b (x := seqX x0 names sh (k + d)) (names.getD (k + d) []) (sh.getD (k + d) false)
    exact ⟨y ++ z, by rw [← Nat.add_assoc, seqX_succ, hz, hy, List.append_assoc]⟩
theorem seqX_length (k : Nat) (h : ∀ i, i < k → SoundN (names.getD i [])) : (seqX x0 names sh k).b.length ≤ x0.b.length + 255 * k ∧ (seqX x0 names sh k).rests.length ≤ x0.rests.length + 255 * k := by
  induction k with
  | zero => exact ⟨by simp [seqX], by simp [seqX]⟩
  | succ k ih =>
    obtain ⟨h1, h2⟩ := ih fun i hi => h i (by omega)
    have h3 := (h k (by omega)).2
    have h4 := Wr.name_le (x := seqX x0 names sh k) (names.getD k []) (sh.getD k false)
    have h5 := Wr.name_rests (x := seqX x0 names sh k) (names.getD k []) (sh.getD k false)
    have h6 := sizeN_length (names.getD k [])
    rw [seqX_succ]
    omega
theorem seqX_short {y0 : Wr} (k : Nat) : (seqX x0 names sh k).b.length + y0.b.length ≤ x0.b.length + (seqX y0 names [] k).b.length := by
  induction k with
  | zero => simp [seqX]
  | succ k ih =>
    rw [seqX_succ, seqX_succ]
    have h4 := Wr.name_le (x := seqX x0 names sh k) (names.getD k []) (sh.getD k false)
    have h5 := Wr.name_long (x := seqX y0 names [] k) (names.getD k [])
    have h6 : ([] : List Bool).getD k false = false := by simp
    rw [h6, h5]
    omega
theorem seqX_read (h0 : x0.True) {n : Nat} (h : ∀ i, i < n → SoundN (names.getD i [])) {i : Nat} (hi : i < n) :
    getP (seqX x0 names sh n).b (seqX x0 names sh i).b.length (seqX x0 names sh i).b.length 0 [] = (names.getD i [], ((seqX x0 names sh (i + 1)).b.length : Int), 0) := by
  have ht := seqX_true (sh := sh) h0 i fun j hj => h j (by omega)
  have hs := (ht.name (h i hi).1 (sh.getD i false)).2
  rw [← seqX_succ] at hs
  obtain ⟨y, hy⟩ := seqX_ext (x0 := x0) (names := names) (sh := sh) (i + 1) (n - (i + 1))
  rw [show i + 1 + (n - (i + 1)) = n by omega] at hy
  rw [hy, (hs.ext y).read 0 [] (by simpa using (h i hi).2), List.nil_append, Nat.zero_max]
end
/-- Where names began. -/
def begins (x0 : Wr) (names : List (List (List UInt8))) (sh : List Bool) (k : Nat) : List Int := (List.range k).map fun i => ((seqX x0 names sh i).b.length : Int)
theorem begins_succ (x0 : Wr) (names : List (List (List UInt8))) (sh : List Bool) (k : Nat) : begins x0 names sh (k + 1) = begins x0 names sh k ++ [((seqX x0 names sh k).b.length : Int)] := by simp [begins, List.range_succ]
theorem begins_length (x0 : Wr) (names : List (List (List UInt8))) (sh : List Bool) (k : Nat) : (begins x0 names sh k).length = k := by simp [begins]
theorem begins_at (x0 : Wr) (names : List (List (List UInt8))) (sh : List Bool) {k i : Nat} (h : i < k) : (begins x0 names sh k)[i]? = some ((seqX x0 names sh i).b.length : Int) := by simp [begins, h]
end Go.Proofs.Ytjpkddmdhdmhgaa
