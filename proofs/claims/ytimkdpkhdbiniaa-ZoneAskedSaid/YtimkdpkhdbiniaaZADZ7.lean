/- Parts of a proof, joined: Zn10. -/
import Derived.Test.YtimkdpkhdbiniaaZADZ6
/- Zone.fill in plain Lean (printed by gen/zn10.py). -/
namespace Go.Proofs.Ytimkdpkhdbiniaa
open Go.RowKit
set_option maxRecDepth 100000
set_option linter.unusedVariables false

def seenB (seen : List (List (List UInt8))) (n : List (List UInt8)) : Bool := seen.any fun x => decide (lowN x = lowN n)
/-- What is answered of a name, with so many rounds at most. -/
def fillP (zn : List (List UInt8)) (rs : List RR) (ty : Int) : Nat → List (List UInt8) → List (List (List UInt8)) → Ms → Ms
  | 0, _, _, m => m
  | f + 1, n, seen, m =>
    match cutP rs zn.length n with
    | some i => referP rs (n.drop i) m
    | none =>
      if ofP rs n ty ≠ [] then { m with an := m.an ++ ofP rs n ty }
      else match ofP rs n 5 with
        | [] => { m with au := ofP rs zn 6, rcode := if (rs.any fun r => underB r.name n) = true then m.rcode else 3 }
        | c :: _ => if underB c.data.host zn = false ∨ seenB seen c.data.host = true then { m with an := m.an ++ [c] } else fillP zn rs ty f c.data.host (seen ++ [c.data.host]) { m with an := m.an ++ [c] }
/-- Names that are apart, each a record's: no more than records. -/
theorem names_few {rs : List RR} : ∀ (l : List (List (List UInt8))), (l.map lowN).Nodup → (∀ x ∈ l, ∃ r ∈ rs, lowN r.name = lowN x) → l.length ≤ rs.length := by
  induction rs with
  | nil =>
    intro l _ h
    match l with
    | [] => exact Nat.le_refl _
    | x :: _ => obtain ⟨r, hr, _⟩ := h x List.mem_cons_self; exact (List.not_mem_nil hr).elim
  | cons r rs ih =>
    intro l hn h
    have h1 : ((l.filter fun x => !decide (lowN r.name = lowN x)).map lowN).Nodup := hn.sublist (List.Sublist.map _ List.filter_sublist)
    have h2 := ih (l.filter fun x => !decide (lowN r.name = lowN x)) h1 (fun x hx => by
      rw [List.mem_filter] at hx
      obtain ⟨r2, hr2, e⟩ := h x hx.1
      rcases List.mem_cons.1 hr2 with rfl | hr2
      · have h3 := hx.2
        rw [decide_eq_true e] at h3
        cases h3
      · exact ⟨r2, hr2, e⟩)
    have h3 : l.length ≤ (l.filter fun x => !decide (lowN r.name = lowN x)).length + 1 := by
      clear ih h h1 h2
      induction l with
      | nil => exact Nat.zero_le _
      | cons x l ih2 =>
        rw [List.map_cons, List.nodup_cons] at hn
        by_cases e : lowN r.name = lowN x
        · have h4 : l.filter (fun x => !decide (lowN r.name = lowN x)) = l := List.filter_eq_self.2 (fun y hy => by
            have h5 : ¬ lowN r.name = lowN y := fun e2 => hn.1 (by rw [← e, e2]; exact List.mem_map_of_mem hy)
            simp [h5])
          rw [List.filter_cons, if_neg (by simp [e]), h4]
          exact Nat.le_refl _
        · rw [List.filter_cons, if_pos (by simp [e]), List.length_cons, List.length_cons]
          have := ih2 hn.2
          omega
    rw [List.length_cons]
    omega
end Go.Proofs.Ytimkdpkhdbiniaa
