/- Parts of a proof, joined: Law17H. -/
import Derived.Test.YtimkdpkhdbiniaaZADZ13
import Derived.Test.YtimkdpkhdbiniaaZADM02c
import Derived.Test.YtimkdpkhdbiniaaZADM23r
import Derived.Test.YtimkdpkhdbiniaaZADZ15
/- ZoneHas: the law's walk (printed by gen/law17h.py). -/
namespace Go.Proofs.Ytimkdpkhdbiniaa
open Go.RowKit
set_option maxRecDepth 100000
set_option linter.unusedVariables false

theorem allZ_at {zn : List (List UInt8)} {rs : List RR} : ∀ {n : Nat}, allZ zn rs n = true → ∀ i, i < n → ∀ r, rs[i]? = some r → oneZ zn rs i r = true
  | 0, _, i, hi, _, _ => by omega
  | n + 1, h, i, hi, r, hr => by
    have h1 : (allZ zn rs n && match rs[n]? with | none => true | some r => oneZ zn rs n r) = true := h
    rw [Bool.and_eq_true] at h1
    by_cases e : i = n
    · subst e
      have h2 := h1.2
      rw [hr] at h2
      exact h2
    · exact allZ_at h1.1 i (by omega) r hr
theorem zsound_parts {zn : List (List UInt8)} {rs : List RR} (h : zsoundB zn rs = true) : soundB zn = true ∧ 1 ≤ rs.length ∧ rs.length ≤ 256 ∧ allZ zn rs rs.length = true ∧ soasZ rs rs.length = 1 := by
  unfold zsoundB at h
  simp only [Bool.and_eq_true, decide_eq_true_eq] at h
  exact ⟨h.1, h.2.1, h.2.2.1, h.2.2.2.1, h.2.2.2.2⟩
theorem one_parts {zn : List (List UInt8)} {rs : List RR} {i : Nat} {r : RR} (h : oneZ zn rs i r = true) : fineRB r = true ∧ r.cls = 1 ∧ underB r.name zn = true ∧ r.type ≠ 41 ∧ r.type ≠ 255 ∧ ((rs.take i).any fun o => clashB o r) = false ∧ (r.type = 6 → r.name.length = zn.length) := by
  unfold oneZ at h
  simp only [Bool.and_eq_true, decide_eq_true_eq, Bool.not_eq_true', Bool.or_eq_true, decide_eq_false_iff_not] at h
  exact ⟨h.1, h.2.1, h.2.2.1, h.2.2.2.1, h.2.2.2.2.1, h.2.2.2.2.2.1, fun e => h.2.2.2.2.2.2.elim (fun h => absurd e h) id⟩
end Go.Proofs.Ytimkdpkhdbiniaa
