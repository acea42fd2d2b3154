/- Sectors, in plain Lean. -/
import Derived.Test.YtbjaphldncagjaaNumPlain
namespace Go.Proofs.Ytbjaphldncagjaa

def sizesL : List Int := [1, 4, 7, 1, 1, 2]
/-- The first i numbers of a head, as bytes. -/
def hdTo (l : List Int) : Nat → List UInt8
  | 0 => []
  | i + 1 => putB (hdTo l i) (l.getD i 0) (sizesL.getD i 0)
/-- The first i numbers fit. -/
def fitTo (l : List Int) : Nat → Bool
  | 0 => true
  | i + 1 => fitTo l i && fitsB (l.getD i 0) (sizesL.getD i 0)
def sealP (k e s p q : Int) (data : List UInt8) : List UInt8 × Int :=
  if fitTo [k, e, s, p, q, data.length] 5 = true ∧ k ≠ 0 ∧ q ≠ 0 ∧ p < q then
    if 496 < data.length then ([], 4) else (hdTo [k, e, s, p, q, data.length] 6 ++ data ++ List.replicate (496 - data.length) 0, 0)
  else ([], 15)

theorem fitTo_lt {l : List Int} {i j : Nat} (h : fitTo l i = false) (hij : i ≤ j) : fitTo l j = false := by
  induction j with
  | zero => obtain rfl : i = 0 := by omega
            exact h
  | succ j ih =>
    by_cases e : i = j + 1
    · subst e; exact h
    · rw [fitTo, ih (by omega)]; rfl

theorem hdTo_le (l : List Int) (i : Nat) : (hdTo l i).length ≤ 7 * i := by
  induction i with
  | zero => simp [hdTo]
  | succ i ih =>
    rw [hdTo]
    have := putB_le (hdTo l i) (l.getD i 0) (sizesL.getD i 0)
    omega

theorem hdTo_16 (k e s p q n : Int) (h : fitTo [k, e, s, p, q, n] 5 = true) (h0 : 0 ≤ n) (hn : n ≤ 496) : (hdTo [k, e, s, p, q, n] 6).length = 16 := by
  simp only [fitTo, Bool.and_eq_true, Bool.true_and, sizesL, List.getD_cons_zero, List.getD_cons_succ] at h
  obtain ⟨⟨⟨⟨h1, h2⟩, h3⟩, h4⟩, h5⟩ := h
  have h6 : fitsB n 2 = true := decide_eq_true ⟨by omega, by omega, h0, by
    have : (256 : Int) ^ (2 : Int).toNat = 65536 := by decide
    omega⟩
  have g : ∀ bs n z, fitsB n z = true → (putB bs n z).length = bs.length + z.toNat := fun bs n z h => by
    have := putB_length bs n z h
    have := (fitsB_true h).1
    omega
  simp only [hdTo, sizesL, List.getD_cons_zero, List.getD_cons_succ]
  rw [g _ _ _ h6, g _ _ _ h5, g _ _ _ h4, g _ _ _ h3, g _ _ _ h2, g _ _ _ h1]
  rfl
theorem sealP_range {k e s p q : Int} {data : List UInt8} (h : ¬ (fitTo [k, e, s, p, q, data.length] 5 = true ∧ k ≠ 0 ∧ q ≠ 0 ∧ p < q)) : sealP k e s p q data = ([], 15) := by unfold sealP; rw [if_neg h]
theorem sealP_large {k e s p q : Int} {data : List UInt8} (h : fitTo [k, e, s, p, q, data.length] 5 = true ∧ k ≠ 0 ∧ q ≠ 0 ∧ p < q) (hl : 496 < data.length) : sealP k e s p q data = ([], 4) := by unfold sealP; rw [if_pos h, if_pos hl]
theorem sealP_ok {k e s p q : Int} {data : List UInt8} (h : fitTo [k, e, s, p, q, data.length] 5 = true ∧ k ≠ 0 ∧ q ≠ 0 ∧ p < q) (hl : ¬ 496 < data.length) :
    sealP k e s p q data = (hdTo [k, e, s, p, q, data.length] 6 ++ data ++ List.replicate (496 - data.length) 0, 0) := by unfold sealP; rw [if_pos h, if_neg hl]
end Go.Proofs.Ytbjaphldncagjaa
