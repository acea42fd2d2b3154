/- Parts of a proof, joined: ZAsk. -/
import Derived.Test.YtimkdpkhdbiniaaZADZ16
import Derived.Test.YtimkdpkhdbiniaaZADZ17
/- ZoneAsked, in plain Lean. -/
namespace Go.Proofs.Ytimkdpkhdbiniaa
open Go.RowKit
set_option maxRecDepth 100000
set_option linter.unusedVariables false

theorem zone_of {zn : List (List UInt8)} {rs : List RR} (h : zsoundB zn rs = true) {r : RR} (hr : r ∈ rs) : ∃ i, rs[i]? = some r ∧ oneZ zn rs i r = true := by
  obtain ⟨i, hi⟩ := List.getElem?_of_mem hr
  have hlt : i < rs.length := (List.getElem?_eq_some_iff.1 hi).1
  exact ⟨i, hi, allZ_at (zsound_parts h).2.2.2.1 i hlt r hi⟩
theorem asked_answ {zs : List (List UInt8)} {rs : List RR} (h : zsoundB zs rs = true) {r : RR} (hr : r ∈ rs) (ty : Int) : answB zs rs ⟨r.name, ty, 1⟩ = true := by
  obtain ⟨i, hi, h1⟩ := zone_of h hr
  obtain ⟨p1, p2, p3, p4, p5, p6, p7⟩ := one_parts h1
  unfold answB
  show (zsoundB zs rs && (soundB r.name && (underB r.name zs && decide ((1 : Int) = 1)))) = true
  rw [h, p3, soundB_true (fineRB_iff.1 p1).1]
  rfl
theorem asked_cut {zs : List (List UInt8)} {rs : List RR} {n : List (List UInt8)} {ty : Int} (ha : answB zs rs ⟨n, ty, 1⟩ = true) {i : Nat} (hc : cutP rs zs.length n = some i) : (answerP zs rs ⟨n, ty, 1⟩).aa = false ∧ (answerP zs rs ⟨n, ty, 1⟩).an = [] := by
  unfold answerP
  rw [if_pos ha]
  show (fillP zs rs ty (rs.length + 1) n [n] { msBase ⟨n, ty, 1⟩ with aa := true }).aa = false ∧ (fillP zs rs ty (rs.length + 1) n [n] { msBase ⟨n, ty, 1⟩ with aa := true }).an = []
  rw [fillP]
  simp only [hc]
  exact ⟨rfl, rfl⟩
theorem asked_set {zs : List (List UInt8)} {rs : List RR} {r : RR} (hr : r ∈ rs) (ha : answB zs rs ⟨r.name, r.type, 1⟩ = true) (hc : cutP rs zs.length r.name = none) : (answerP zs rs ⟨r.name, r.type, 1⟩).an = ofP rs r.name r.type ∧ (answerP zs rs ⟨r.name, r.type, 1⟩).aa = true ∧ (answerP zs rs ⟨r.name, r.type, 1⟩).rcode = 0 := by
  have hm : r ∈ ofP rs r.name r.type := List.mem_filter.2 ⟨hr, by unfold selB; simp⟩
  have hne : ofP rs r.name r.type ≠ [] := fun e => by rw [e] at hm; cases hm
  unfold answerP
  rw [if_pos ha]
  show (fillP zs rs r.type (rs.length + 1) r.name [r.name] { msBase ⟨r.name, r.type, 1⟩ with aa := true }).an = _ ∧ (fillP zs rs r.type (rs.length + 1) r.name [r.name] { msBase ⟨r.name, r.type, 1⟩ with aa := true }).aa = true ∧ (fillP zs rs r.type (rs.length + 1) r.name [r.name] { msBase ⟨r.name, r.type, 1⟩ with aa := true }).rcode = 0
  rw [fillP]
  simp only [hc]
  rw [if_pos hne]
  exact ⟨rfl, rfl, rfl⟩
theorem set_of {rs : List RR} {n : List (List UInt8)} {k : Int} (hk : k ≠ 255) (hcl : ∀ r ∈ rs, r.cls = 1) : setP (ofP rs n k) n k = setP rs n k := by
  unfold setP ofP
  rw [List.foldl_filter]
  have : ∀ (l : List RR) (p : List Da × Int), (∀ r ∈ l, r.cls = 1) → l.foldl (fun x y => if selB n k y = true then stepS n k x y else x) p = l.foldl (stepS n k) p := by
    intro l
    induction l with
    | nil => intro p _; rfl
    | cons r l ih =>
      intro p h
      rw [List.foldl_cons, List.foldl_cons]
      have e : (if selB n k r = true then stepS n k p r else p) = stepS n k p r := by
        by_cases hs : selB n k r = true
        · rw [if_pos hs]
        · rw [if_neg hs, stepS_no]
          have hc := h r List.mem_cons_self
          unfold selB at hs
          rw [decide_eq_false hk, Bool.false_or] at hs
          unfold isR
          rw [hc, decide_eq_true rfl, Bool.true_and]
          simpa using hs
      rw [e]
      exact ih _ (fun r' hr' => h r' (List.mem_cons_of_mem _ hr'))
  exact this rs ([], 0) hcl
theorem sameS_refl (a : List Da) : sameS a a = true := by
  have h : subD a a = true := List.all_eq_true.2 fun x hx => List.any_eq_true.2 ⟨x, hx, sameD_refl x⟩
  unfold sameS
  rw [h]
  rfl
theorem under_self {n m : List (List UInt8)} (h : lowN n = lowN m) : underB n m = true := by
  unfold underB
  have hl := congrArg List.length h
  unfold lowN at hl
  rw [List.length_map, List.length_map] at hl
  rw [decide_eq_true (Nat.le_of_eq hl.symm), hl, Nat.sub_self, List.drop_zero, decide_eq_true h]
  rfl
theorem under_cons {l : List UInt8} {n z : List (List UInt8)} (h : underB n z = true) : underB (l :: n) z = true := by
  unfold underB at h ⊢
  rw [Bool.and_eq_true] at h
  have h1 := of_decide_eq_true h.1
  have h2 := of_decide_eq_true h.2
  rw [List.length_cons, decide_eq_true (by omega), show n.length + 1 - z.length = (n.length - z.length) + 1 by omega, List.drop_succ_cons, decide_eq_true h2]
  rfl
theorem of_none {rs : List RR} {n : List (List UInt8)} {k : Int} (h : (rs.any fun r => underB r.name n) = false) : ofP rs n k = [] := by
  refine List.filter_eq_nil_iff.2 fun r hr hs => ?_
  unfold selB at hs
  rw [Bool.and_eq_true] at hs
  have h1 : (rs.any fun r => underB r.name n) = true := List.any_eq_true.2 ⟨r, hr, under_self (of_decide_eq_true hs.2)⟩
  rw [h] at h1
  cases h1
theorem of_soa {zs : List (List UInt8)} {rs : List RR} (h : zsoundB zs rs = true) : ∃ x, ofP rs zs 6 = [x] ∧ x.type = 6 := by
  have hs := (zsound_parts h).2.2.2.2
  have e : ofP rs zs 6 = rs.filter fun r => decide (r.type = 6) := by
    refine List.filter_congr fun r hr => ?_
    obtain ⟨i, hi, h1⟩ := zone_of h hr
    obtain ⟨p1, p2, p3, p4, p5, p6, p7⟩ := one_parts h1
    unfold selB
    by_cases h6 : r.type = 6
    · have hl := (under_len p3).2 (p7 h6)
      rw [decide_eq_true h6, decide_eq_true hl]
      rfl
    · rw [decide_eq_false h6]
      rfl
  have hlen : (ofP rs zs 6).length = 1 := by
    rw [e]
    unfold soasZ at hs
    rw [List.take_length] at hs
    exact hs
  match ho : ofP rs zs 6, hlen with
  | [x], _ =>
    refine ⟨x, rfl, ?_⟩
    have hx : x ∈ rs.filter fun r => decide (r.type = 6) := by rw [← e, ho]; exact List.mem_cons_self
    exact of_decide_eq_true (List.mem_filter.1 hx).2
theorem asked_none {zs : List (List UInt8)} {rs : List RR} (h : zsoundB zs rs = true) {r : RR} (hr : r ∈ rs) {l : List UInt8} (hn : soundB (l :: r.name) = true) (ht : (rs.any fun r' => underB r'.name (l :: r.name)) = false) (hc : cutP rs zs.length (l :: r.name) = none) : (answerP zs rs ⟨l :: r.name, 1, 1⟩).rcode = 3 ∧ ∃ x, (answerP zs rs ⟨l :: r.name, 1, 1⟩).au = [x] ∧ x.type = 6 := by
  obtain ⟨i, hi, h1⟩ := zone_of h hr
  obtain ⟨p1, p2, p3, p4, p5, p6, p7⟩ := one_parts h1
  have ha : answB zs rs ⟨l :: r.name, 1, 1⟩ = true := by
    unfold answB
    show (zsoundB zs rs && (soundB (l :: r.name) && (underB (l :: r.name) zs && decide ((1 : Int) = 1)))) = true
    rw [h, hn, under_cons p3]
    rfl
  unfold answerP
  rw [if_pos ha]
  show (fillP zs rs 1 (rs.length + 1) (l :: r.name) [l :: r.name] { msBase ⟨l :: r.name, 1, 1⟩ with aa := true }).rcode = 3 ∧ ∃ x, (fillP zs rs 1 (rs.length + 1) (l :: r.name) [l :: r.name] { msBase ⟨l :: r.name, 1, 1⟩ with aa := true }).au = [x] ∧ x.type = 6
  rw [fillP]
  simp only [hc, of_none ht]
  rw [if_neg (by simp), ht]
  exact ⟨rfl, of_soa h⟩
end Go.Proofs.Ytimkdpkhdbiniaa
