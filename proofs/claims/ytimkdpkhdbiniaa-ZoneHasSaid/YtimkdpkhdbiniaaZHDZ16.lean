/- Parts of a proof, joined: Law17H. -/
import Derived.Test.YtimkdpkhdbiniaaZHDZ13
import Derived.Test.YtimkdpkhdbiniaaZHDM02c
import Derived.Test.YtimkdpkhdbiniaaZHDM23r
import Derived.Test.YtimkdpkhdbiniaaZHDZ15
/- ZoneHas: the law's walk (printed by gen/law17h.py). -/
namespace Go.Proofs.Ytimkdpkhdbiniaa
open Go.RowKit
set_option maxRecDepth 100000
set_option linter.unusedVariables false

/-- How often a record is there, among the first few. -/
def cntR (rs : List RR) (r : RR) (k : Nat) : Nat := ((rs.take k).filter fun x => exR x r).length
theorem cntR_next {rs : List RR} {r x : RR} {k : Nat} (h : rs[k]? = some x) : cntR rs r (k + 1) = cntR rs r k + (if exR x r = true then 1 else 0) := by
  unfold cntR
  rw [List.take_add_one, h, Option.toList_some, List.filter_append, List.length_append]
  cases hs : exR x r <;> simp [hs]
theorem cntR_le (rs : List RR) (r : RR) (k : Nat) : cntR rs r k ≤ k := by
  unfold cntR
  have h1 := List.length_filter_le (fun x => exR x r) (rs.take k)
  rw [List.length_take] at h1
  omega
theorem cnt_one : ∀ {rs : List RR} {r : RR}, rs.Pairwise (fun a b => a ≠ b) → r ∈ rs → (rs.filter fun x => exR x r).length = 1
  | [], _, _, h => by cases h
  | a :: rs, r, hp, h => by
    rw [List.pairwise_cons] at hp
    by_cases e : a = r
    · subst e
      have h2 : rs.filter (fun x => exR x a) = [] := List.filter_eq_nil_iff.2 (fun x hx => by
        have h3 := hp.1 x hx
        intro h4
        exact h3 (exR_iff.1 h4).symm)
      rw [List.filter_cons, if_pos (exR_iff.2 rfl), h2]
      rfl
    · rw [List.filter_cons, if_neg (by rw [exR_iff]; exact e)]
      rcases List.mem_cons.1 h with e2 | e2
      · exact absurd e2.symm e
      · exact cnt_one hp.2 e2
theorem allZ_at {zn : List (List UInt8)} {rs : List RR} : ∀ {n : Nat}, allZ zn rs n = true → ∀ i, i < n → ∀ r, rs[i]? = some r → oneZ zn rs i r = true
  | 0, _, i, hi, _, _ => by omega
  | n + 1, h, i, hi, r, hr => by
    have h1 : (allZ zn rs n && match rs[n]? with | none => true | some r => oneZ zn rs n r) = true := h
    rw [Bool.and_eq_true] at h1
    by_cases e : i = n
    · subst e
      have h2 := h1.2
      rw [hr] at h2
      exact h2
    · exact allZ_at h1.1 i (by omega) r hr
theorem zsound_parts {zn : List (List UInt8)} {rs : List RR} (h : zsoundB zn rs = true) : soundB zn = true ∧ 1 ≤ rs.length ∧ rs.length ≤ 256 ∧ allZ zn rs rs.length = true ∧ soasZ rs rs.length = 1 := by
  unfold zsoundB at h
  simp only [Bool.and_eq_true, decide_eq_true_eq] at h
  exact ⟨h.1, h.2.1, h.2.2.1, h.2.2.2.1, h.2.2.2.2⟩
theorem one_parts {zn : List (List UInt8)} {rs : List RR} {i : Nat} {r : RR} (h : oneZ zn rs i r = true) : fineRB r = true ∧ r.cls = 1 ∧ underB r.name zn = true ∧ r.type ≠ 41 ∧ r.type ≠ 255 ∧ ((rs.take i).any fun o => clashB o r) = false ∧ (r.type = 6 → r.name.length = zn.length) := by
  unfold oneZ at h
  simp only [Bool.and_eq_true, decide_eq_true_eq, Bool.not_eq_true', Bool.or_eq_true, decide_eq_false_iff_not] at h
  exact ⟨h.1, h.2.1, h.2.2.1, h.2.2.2.1, h.2.2.2.2.1, h.2.2.2.2.2.1, fun e => h.2.2.2.2.2.2.elim (fun h => absurd e h) id⟩
theorem clash_self (r : RR) : clashB r r = true := by
  unfold clashB
  rw [decide_eq_true rfl, if_pos rfl, sameD_refl]
  simp
/-- Two records of a zone are not the same. -/
theorem zsound_apart {zn : List (List UInt8)} {rs : List RR} (h : zsoundB zn rs = true) : rs.Pairwise (fun a b => a ≠ b) := by
  obtain ⟨_, _, _, h4, _⟩ := zsound_parts h
  rw [List.pairwise_iff_getElem]
  intro i j hi hj hij e
  have h5 := (one_parts (allZ_at h4 j hj _ (List.getElem?_eq_getElem hj))).2.2.2.2.2.1
  have h6 : ((rs.take j).any fun o => clashB o rs[j]) = true := any_take_t (List.getElem?_eq_getElem hi) hij (by rw [e]; exact clash_self _)
  rw [h5] at h6
  cases h6
theorem zsound_once {zn : List (List UInt8)} {rs : List RR} (h : zsoundB zn rs = true) {r : RR} (hr : r ∈ rs) : cntR rs r rs.length = 1 := by
  unfold cntR
  rw [List.take_length]
  exact cnt_one (zsound_apart h) hr
theorem cutAt_pos {rs : List RR} {ns : List (List UInt8)} {j : Nat} : ∀ {k : Nat}, cutAt rs ns k = some j → 0 < (ofP rs (ns.drop j) 2).length
  | 0, h => by cases h
  | k + 1, h => by
    have h1 : (if 0 < (ofP rs (ns.drop k) 2).length then some k else cutAt rs ns k) = some j := h
    by_cases e : 0 < (ofP rs (ns.drop k) 2).length
    · rw [if_pos e] at h1
      injection h1 with h1
      subst h1
      exact e
    · rw [if_neg e] at h1
      exact cutAt_pos h1
/-- With an answer that is right AA; or it is led on. -/
def RightA (m : Ms) : Prop := m.aa = true ∨ (m.an = [] ∧ ∃ a al, m.au = a :: al ∧ a.type = 2)
theorem fillP_right (zs : List (List UInt8)) (rs : List RR) (ty : Int) : ∀ (f : Nat) (n : List (List UInt8)) (seen : List (List (List UInt8))) (m : Ms), m.aa = true → RightA (fillP zs rs ty f n seen m)
  | 0, _, _, m, h => .inl h
  | f + 1, n, seen, m, h => by
    rw [fillP]
    split
    · rename_i i hc
      unfold referP
      by_cases e : 0 < m.an.length
      · exact .inl (decide_eq_true e)
      · have hp := cutAt_pos hc
        refine .inr ⟨(show m.an = [] from List.eq_nil_of_length_eq_zero (by omega)), ?_⟩
        show ∃ a al, ofP rs (n.drop i) 2 = a :: al ∧ a.type = 2
        cases hl : ofP rs (n.drop i) 2 with
        | nil => rw [hl] at hp; simp at hp
        | cons a al =>
          refine ⟨a, al, rfl, ?_⟩
          have h1 : a ∈ ofP rs (n.drop i) 2 := by rw [hl]; exact List.mem_cons_self
          have h2 := (List.mem_filter.1 h1).2
          unfold selB at h2
          simp only [Bool.and_eq_true, Bool.or_eq_true, decide_eq_true_eq] at h2
          rcases h2.1 with e | e
          · cases e
          · exact e
    · split
      · exact .inl h
      · split
        · exact .inl h
        · split
          · exact .inl h
          · exact fillP_right zs rs ty f _ _ _ h
theorem fillP_rcode (zs : List (List UInt8)) (rs : List RR) (ty : Int) : ∀ (f : Nat) (n : List (List UInt8)) (seen : List (List (List UInt8))) (m : Ms), m.rcode = 0 → (fillP zs rs ty f n seen m).rcode = 0 ∨ (fillP zs rs ty f n seen m).rcode = 3
  | 0, _, _, m, h => .inl h
  | f + 1, n, seen, m, h => by
    rw [fillP]
    split
    · exact .inl h
    · split
      · exact .inl h
      · split
        · show (if _ then m.rcode else 3) = 0 ∨ (if _ then m.rcode else 3) = 3
          split
          · exact .inl h
          · exact .inr rfl
        · split
          · exact .inl h
          · exact fillP_rcode zs rs ty f _ _ _ h
/-- What each operation of the region leaves. -/
def PsiH (zA RA qA : Option Addr) (zn zc rc qn qc : Nat) (zs : List (List UInt8)) (rs : List RR) (ty cl : Int) (M : Ms) (q : Qu) : Nat → Value → Nat → Nat → World → Prop
  | 0, v, _, _, _ => v = .agg #[.slice zA zn zc, .slice RA rs.length rc]
  | 1, v, lo, hi, u => ∃ A c R k, v = .agg #[.slice A zn c, .slice R rs.length k] ∧ ZIv lo hi u A zn c R rs.length k zs rs
  | 2, v, _, _, _ => v = .agg #[.slice qA qn qc, .int .i64 ty, .int .i64 cl]
  | 3, v, lo, hi, u => ∃ s, v = msV s M ∧ AIv lo hi u s M q
  | 4, v, lo, hi, u => v = .pointer (some ⟨lo, 0, none⟩) ∧ lo < hi ∧ MRow u lo MS.nil msNone
  | _, _, _, _, _ => True
theorem psiH_below {zA RA qA : Option Addr} {zn zc rc qn qc : Nat} {zs : List (List UInt8)} {rs : List RR} {ty cl : Int} {M : Ms} {q : Qu} (j : Nat) (v : Value) (lo hi : Nat) (w w' : World) (hh : hi ≤ w.heap.size) (hb : Below w.heap.size w w') (h : PsiH zA RA qA zn zc rc qn qc zs rs ty cl M q j v lo hi w) : PsiH zA RA qA zn zc rc qn qc zs rs ty cl M q j v lo hi w' := by
  have k : ∀ b, btS lo hi b → w'.heap[b]? = w.heap[b]? := fun b hb' => hb.block b (Nat.lt_of_lt_of_le hb'.2 hh)
  match j, h with
  | 0, h => exact h
  | 1, h => obtain ⟨A, c, R, m, e, h⟩ := h; exact ⟨A, c, R, m, e, h.keep k⟩
  | 2, h => exact h
  | 3, h => obtain ⟨s, e, h⟩ := h; exact ⟨s, e, h.keep k⟩
  | 4, h => exact ⟨h.1, h.2.1, h.2.2.below hb⟩
  | _ + 5, _ => trivial
/-- Refused, or right. -/
theorem answerP_two (zs : List (List UInt8)) (rs : List RR) (q : Qu) : ((answerP zs rs q).rcode = 5 ∧ (answerP zs rs q).an = [] ∧ (answerP zs rs q).au = [] ∧ (answerP zs rs q).ex = [] ∧ (answerP zs rs q).aa = false) ∨ ((answerP zs rs q).rcode ≠ 5 ∧ RightA (answerP zs rs q)) := by
  unfold answerP
  split
  · refine .inr ⟨fun e => ?_, fillP_right _ _ _ _ _ _ _ rfl⟩
    rcases fillP_rcode zs rs q.type (rs.length + 1) q.name [q.name] { msBase q with aa := true } rfl with h | h <;> rw [h] at e <;> cases e
  · exact .inl ⟨rfl, rfl, rfl, rfl, rfl⟩
set_option maxHeartbeats 4000000 in
theorem zZoneHas_heavy (zA RA qA : Option Addr) (zn zc rn rc qn qc : Nat) (zs qs : List (List UInt8)) (rs : List RR) (ty cl : Int) (w : World) (h : RdE encRR w RA rn rs) (hz : RdE encS w zA zn zs) (hq : RdE encS w qA qn qs) (hzc : zn ≤ zc ∧ zc ≤ maxLen) (hrc : rn ≤ rc ∧ rc ≤ maxLen) (hqc : qn ≤ qc ∧ qc ≤ maxLen) (hL : ltZ zs rs = false) :
    Calls Try.prog 10 #[.agg #[.slice zA zn zc, .slice RA rn rc], .agg #[.slice qA qn qc, .int .i64 ty, .int .i64 cl]] w (LawT w) := by
  have er := h.len
  subst er
  have eq := hq.len
  have ez := hz.len
  obtain ⟨w1, hw1⟩ : ∃ w1, w1 = w.alloc (.cells #[.slice zA zn zc, .slice RA rs.length rc] 75) := ⟨_, rfl⟩
  obtain ⟨w2, hw2⟩ : ∃ w2, w2 = w1.alloc (.cells #[.slice qA qn qc, .int .i64 ty, .int .i64 cl] 25) := ⟨_, rfl⟩
  obtain ⟨zb, hzb⟩ : ∃ g, g = w.heap.size := ⟨_, rfl⟩
  obtain ⟨qb, hqb⟩ : ∃ g, g = zb + 1 := ⟨_, rfl⟩
  have hb1 : Below w.heap.size w w1 := by rw [hw1]; exact bl.alloc (Nat.le_refl _) _
  have hb2 : Below w1.heap.size w1 w2 := by rw [hw2]; exact bl.alloc (Nat.le_refl _) _
  have hs1 : w1.heap.size = qb := by rw [hqb, hzb, hw1]; simp
  have hs2 : w2.heap.size = zb + 2 := by rw [hw2]; simp; omega
  have hc0 : w2.cell? ⟨zb, 0, none⟩ = some (.slice zA zn zc) := below_cell hb2 (by rw [hw1, hzb]; exact new_cell w _ _ 0)
  have hc1 : w2.cell? ⟨zb, 1, none⟩ = some (.slice RA rs.length rc) := below_cell hb2 (by rw [hw1, hzb]; exact new_cell w _ _ 1)
  have hc2 : w2.cell? ⟨qb, 0, none⟩ = some (.slice qA qn qc) := by rw [hw2, ← hs1]; exact new_cell w1 _ _ 0
  have hc3 : w2.cell? ⟨qb, 1, none⟩ = some (.int .i64 ty) := by rw [hw2, ← hs1]; exact new_cell w1 _ _ 1
  have hc4 : w2.cell? ⟨qb, 2, none⟩ = some (.int .i64 cl) := by rw [hw2, ← hs1]; exact new_cell w1 _ _ 2
  have HC : Hid (∀ u, Below w2.heap.size w2 u → u.cell? ⟨zb, 0, none⟩ = some (.slice zA zn zc) ∧ u.cell? ⟨zb, 1, none⟩ = some (.slice RA rs.length rc) ∧ u.cell? ⟨qb, 0, none⟩ = some (.slice qA qn qc) ∧ u.cell? ⟨qb, 1, none⟩ = some (.int .i64 ty) ∧ u.cell? ⟨qb, 2, none⟩ = some (.int .i64 cl)) := fun u hu => ⟨below_cell hu hc0, below_cell hu hc1, below_cell hu hc2, below_cell hu hc3, below_cell hu hc4⟩
  have HB2 : Hid (Below w.heap.size w w2) := nx hb1 hb2
  have HS : Hid (zb = w.heap.size ∧ qb = zb + 1 ∧ w2.heap.size = zb + 2) := ⟨hzb, hqb, hs2⟩
  have HR : Hid (∀ u, Below w.heap.size w u → Els encRR (ltS w) (ltS w) u RA rs.length rs) := fun u hu => h.keep (fun b hb => hu.block b hb) (fun b hb => hu.block b hb)
  have HZ : Hid (∀ u, Below w.heap.size w u → Els encS (ltS w) (ltS w) u zA zn zs) := fun u hu => hz.keep (fun b hb => hu.block b hb) (fun b hb => hu.block b hb)
  have HQ : Hid (∀ u, Below w.heap.size w u → Els encS (ltS w) (ltS w) u qA qn qs) := fun u hu => hq.keep (fun b hb => hu.block b hb) (fun b hb => hu.block b hb)
  have HLI : Hid (∀ u, Below w2.heap.size w2 u → Calls Try.prog 39 #[.agg #[.slice zA zn zc, .slice RA rs.length rc]] u (RetP (fun v _ => v = .bool (ltZ zs rs)) u)) := fun u hu => lightZ_any zA RA zn zc rs.length rc zs rs u (HR.out u (nx HB2.out hu)) (fun b hb => Nat.lt_of_lt_of_le hb (nx HB2.out hu).size) ez hrc (Nat.le_trans hzc.1 hzc.2)
  have HLE : Hid (zs.length = zn ∧ qs.length = qn) := ⟨ez, eq⟩
  have HCC : Hid ((zn ≤ zc ∧ zc ≤ maxLen) ∧ (rs.length ≤ rc ∧ rc ≤ maxLen) ∧ (qn ≤ qc ∧ qc ≤ maxLen)) := ⟨hzc, hrc, hqc⟩
  rw [hL] at HLI
  clear h hL hz hq hzc hrc hqc eq ez hb1 hb2 hc0 hc1 hc2 hc3 hc4
  go_enter Try.func10, Try.ntmps10
  go_upto_region 1 with (fail)
  rw [← hw1]
  rw [← hw2]
  clear hw1 hw2
  rw [← hzb]
  rw [← hqb]
  clear hzb hqb hs1 hs2
  obtain ⟨x0, x1, x2, x3, x4⟩ := HC.out w2 bl
  go_wp2_with (first | (go_at_call 38; (with_reducible refine (answers17_any w4).mono ?_); rintro e w5 ⟨rfl, hb5⟩; have HB5 := Lib.hid hb5; clear hb5) | (go_at_call 39; (with_reducible refine (HLI.out w3 HB3.out).mono ?_); rintro e w4 ⟨v4, rfl, rfl, hb4⟩; have HB4 := Lib.hid hb4; obtain ⟨y0, y1, y2, y3, y4⟩ := HC.out w4 (nx HB3.out hb4); clear hb4) | (go_at_call 38; (with_reducible refine (answers17_any w2).mono ?_); rintro e w3 ⟨rfl, hb3⟩; have HB3 := Lib.hid hb3; obtain ⟨a0, a1, a2, a3, a4⟩ := HC.out w3 hb3; clear hb3) | fail)
  go_ret
  exact ⟨rfl, (nx (nx (nx HB2.out HB3.out) HB4.out) HB5.out)⟩
set_option maxHeartbeats 4000000 in
theorem zZoneHas_name (zA RA qA : Option Addr) (zn zc rn rc qn qc : Nat) (zs qs : List (List UInt8)) (rs : List RR) (ty cl : Int) (w : World) (h : RdE encRR w RA rn rs) (hz : RdE encS w zA zn zs) (hq : RdE encS w qA qn qs) (hzc : zn ≤ zc ∧ zc ≤ maxLen) (hrc : rn ≤ rc ∧ rc ≤ maxLen) (hqc : qn ≤ qc ∧ qc ≤ maxLen) (hL : ltZ zs rs = true) (hl : ¬ qn ≤ 130) :
    Calls Try.prog 10 #[.agg #[.slice zA zn zc, .slice RA rn rc], .agg #[.slice qA qn qc, .int .i64 ty, .int .i64 cl]] w (LawT w) := by
  have er := h.len
  subst er
  have eq := hq.len
  have ez := hz.len
  obtain ⟨w1, hw1⟩ : ∃ w1, w1 = w.alloc (.cells #[.slice zA zn zc, .slice RA rs.length rc] 75) := ⟨_, rfl⟩
  obtain ⟨w2, hw2⟩ : ∃ w2, w2 = w1.alloc (.cells #[.slice qA qn qc, .int .i64 ty, .int .i64 cl] 25) := ⟨_, rfl⟩
  obtain ⟨zb, hzb⟩ : ∃ g, g = w.heap.size := ⟨_, rfl⟩
  obtain ⟨qb, hqb⟩ : ∃ g, g = zb + 1 := ⟨_, rfl⟩
  have hb1 : Below w.heap.size w w1 := by rw [hw1]; exact bl.alloc (Nat.le_refl _) _
  have hb2 : Below w1.heap.size w1 w2 := by rw [hw2]; exact bl.alloc (Nat.le_refl _) _
  have hs1 : w1.heap.size = qb := by rw [hqb, hzb, hw1]; simp
  have hs2 : w2.heap.size = zb + 2 := by rw [hw2]; simp; omega
  have hc0 : w2.cell? ⟨zb, 0, none⟩ = some (.slice zA zn zc) := below_cell hb2 (by rw [hw1, hzb]; exact new_cell w _ _ 0)
  have hc1 : w2.cell? ⟨zb, 1, none⟩ = some (.slice RA rs.length rc) := below_cell hb2 (by rw [hw1, hzb]; exact new_cell w _ _ 1)
  have hc2 : w2.cell? ⟨qb, 0, none⟩ = some (.slice qA qn qc) := by rw [hw2, ← hs1]; exact new_cell w1 _ _ 0
  have hc3 : w2.cell? ⟨qb, 1, none⟩ = some (.int .i64 ty) := by rw [hw2, ← hs1]; exact new_cell w1 _ _ 1
  have hc4 : w2.cell? ⟨qb, 2, none⟩ = some (.int .i64 cl) := by rw [hw2, ← hs1]; exact new_cell w1 _ _ 2
  have HC : Hid (∀ u, Below w2.heap.size w2 u → u.cell? ⟨zb, 0, none⟩ = some (.slice zA zn zc) ∧ u.cell? ⟨zb, 1, none⟩ = some (.slice RA rs.length rc) ∧ u.cell? ⟨qb, 0, none⟩ = some (.slice qA qn qc) ∧ u.cell? ⟨qb, 1, none⟩ = some (.int .i64 ty) ∧ u.cell? ⟨qb, 2, none⟩ = some (.int .i64 cl)) := fun u hu => ⟨below_cell hu hc0, below_cell hu hc1, below_cell hu hc2, below_cell hu hc3, below_cell hu hc4⟩
  have HB2 : Hid (Below w.heap.size w w2) := nx hb1 hb2
  have HS : Hid (zb = w.heap.size ∧ qb = zb + 1 ∧ w2.heap.size = zb + 2) := ⟨hzb, hqb, hs2⟩
  have HR : Hid (∀ u, Below w.heap.size w u → Els encRR (ltS w) (ltS w) u RA rs.length rs) := fun u hu => h.keep (fun b hb => hu.block b hb) (fun b hb => hu.block b hb)
  have HZ : Hid (∀ u, Below w.heap.size w u → Els encS (ltS w) (ltS w) u zA zn zs) := fun u hu => hz.keep (fun b hb => hu.block b hb) (fun b hb => hu.block b hb)
  have HQ : Hid (∀ u, Below w.heap.size w u → Els encS (ltS w) (ltS w) u qA qn qs) := fun u hu => hq.keep (fun b hb => hu.block b hb) (fun b hb => hu.block b hb)
  have HLI : Hid (∀ u, Below w2.heap.size w2 u → Calls Try.prog 39 #[.agg #[.slice zA zn zc, .slice RA rs.length rc]] u (RetP (fun v _ => v = .bool (ltZ zs rs)) u)) := fun u hu => lightZ_any zA RA zn zc rs.length rc zs rs u (HR.out u (nx HB2.out hu)) (fun b hb => Nat.lt_of_lt_of_le hb (nx HB2.out hu).size) ez hrc (Nat.le_trans hzc.1 hzc.2)
  have HLE : Hid (zs.length = zn ∧ qs.length = qn) := ⟨ez, eq⟩
  have HCC : Hid ((zn ≤ zc ∧ zc ≤ maxLen) ∧ (rs.length ≤ rc ∧ rc ≤ maxLen) ∧ (qn ≤ qc ∧ qc ≤ maxLen)) := ⟨hzc, hrc, hqc⟩
  rw [hL] at HLI
  have h1d : decide ((130 : Int) < (qn : Int)) = true := decide_eq_true (by omega)
  clear h hL hl hz hq hzc hrc hqc eq ez hb1 hb2 hc0 hc1 hc2 hc3 hc4
  go_enter Try.func10, Try.ntmps10
  go_upto_region 1 with (fail)
  rw [← hw1]
  rw [← hw2]
  clear hw1 hw2
  rw [← hzb]
  rw [← hqb]
  clear hzb hqb hs1 hs2
  obtain ⟨x0, x1, x2, x3, x4⟩ := HC.out w2 bl
  go_wp2_with (first | (go_at_call 38; (with_reducible refine (answers17_any w4).mono ?_); rintro e w5 ⟨rfl, hb5⟩; have HB5 := Lib.hid hb5; clear hb5) | (go_at_call 39; (with_reducible refine (HLI.out w3 HB3.out).mono ?_); rintro e w4 ⟨v4, rfl, rfl, hb4⟩; have HB4 := Lib.hid hb4; obtain ⟨y0, y1, y2, y3, y4⟩ := HC.out w4 (nx HB3.out hb4); clear hb4) | (go_at_call 38; (with_reducible refine (answers17_any w2).mono ?_); rintro e w3 ⟨rfl, hb3⟩; have HB3 := Lib.hid hb3; obtain ⟨a0, a1, a2, a3, a4⟩ := HC.out w3 hb3; clear hb3) | fail)
  go_ret
  exact ⟨rfl, (nx (nx (nx HB2.out HB3.out) HB4.out) HB5.out)⟩
set_option maxHeartbeats 16000000 in
theorem zZoneHas_unsound (zA RA qA : Option Addr) (zn zc rn rc qn qc : Nat) (zs qs : List (List UInt8)) (rs : List RR) (ty cl : Int) (w : World) (h : RdE encRR w RA rn rs) (hz : RdE encS w zA zn zs) (hq : RdE encS w qA qn qs) (hzc : zn ≤ zc ∧ zc ≤ maxLen) (hrc : rn ≤ rc ∧ rc ≤ maxLen) (hqc : qn ≤ qc ∧ qc ≤ maxLen) (hL : LtZ zs rs) (hl : qn ≤ 130) (hso : zsoundB zs rs = false) :
    Calls Try.prog 10 #[.agg #[.slice zA zn zc, .slice RA rn rc], .agg #[.slice qA qn qc, .int .i64 ty, .int .i64 cl]] w (LawT w) := by
  have er := h.len
  subst er
  have eq := hq.len
  have ez := hz.len
  obtain ⟨w1, hw1⟩ : ∃ w1, w1 = w.alloc (.cells #[.slice zA zn zc, .slice RA rs.length rc] 75) := ⟨_, rfl⟩
  obtain ⟨w2, hw2⟩ : ∃ w2, w2 = w1.alloc (.cells #[.slice qA qn qc, .int .i64 ty, .int .i64 cl] 25) := ⟨_, rfl⟩
  obtain ⟨zb, hzb⟩ : ∃ g, g = w.heap.size := ⟨_, rfl⟩
  obtain ⟨qb, hqb⟩ : ∃ g, g = zb + 1 := ⟨_, rfl⟩
  have hb1 : Below w.heap.size w w1 := by rw [hw1]; exact bl.alloc (Nat.le_refl _) _
  have hb2 : Below w1.heap.size w1 w2 := by rw [hw2]; exact bl.alloc (Nat.le_refl _) _
  have hs1 : w1.heap.size = qb := by rw [hqb, hzb, hw1]; simp
  have hs2 : w2.heap.size = zb + 2 := by rw [hw2]; simp; omega
  have hc0 : w2.cell? ⟨zb, 0, none⟩ = some (.slice zA zn zc) := below_cell hb2 (by rw [hw1, hzb]; exact new_cell w _ _ 0)
  have hc1 : w2.cell? ⟨zb, 1, none⟩ = some (.slice RA rs.length rc) := below_cell hb2 (by rw [hw1, hzb]; exact new_cell w _ _ 1)
  have hc2 : w2.cell? ⟨qb, 0, none⟩ = some (.slice qA qn qc) := by rw [hw2, ← hs1]; exact new_cell w1 _ _ 0
  have hc3 : w2.cell? ⟨qb, 1, none⟩ = some (.int .i64 ty) := by rw [hw2, ← hs1]; exact new_cell w1 _ _ 1
  have hc4 : w2.cell? ⟨qb, 2, none⟩ = some (.int .i64 cl) := by rw [hw2, ← hs1]; exact new_cell w1 _ _ 2
  have HC : Hid (∀ u, Below w2.heap.size w2 u → u.cell? ⟨zb, 0, none⟩ = some (.slice zA zn zc) ∧ u.cell? ⟨zb, 1, none⟩ = some (.slice RA rs.length rc) ∧ u.cell? ⟨qb, 0, none⟩ = some (.slice qA qn qc) ∧ u.cell? ⟨qb, 1, none⟩ = some (.int .i64 ty) ∧ u.cell? ⟨qb, 2, none⟩ = some (.int .i64 cl)) := fun u hu => ⟨below_cell hu hc0, below_cell hu hc1, below_cell hu hc2, below_cell hu hc3, below_cell hu hc4⟩
  have HB2 : Hid (Below w.heap.size w w2) := nx hb1 hb2
  have HS : Hid (zb = w.heap.size ∧ qb = zb + 1 ∧ w2.heap.size = zb + 2) := ⟨hzb, hqb, hs2⟩
  have HR : Hid (∀ u, Below w.heap.size w u → Els encRR (ltS w) (ltS w) u RA rs.length rs) := fun u hu => h.keep (fun b hb => hu.block b hb) (fun b hb => hu.block b hb)
  have HZ : Hid (∀ u, Below w.heap.size w u → Els encS (ltS w) (ltS w) u zA zn zs) := fun u hu => hz.keep (fun b hb => hu.block b hb) (fun b hb => hu.block b hb)
  have HQ : Hid (∀ u, Below w.heap.size w u → Els encS (ltS w) (ltS w) u qA qn qs) := fun u hu => hq.keep (fun b hb => hu.block b hb) (fun b hb => hu.block b hb)
  have HLI : Hid (∀ u, Below w2.heap.size w2 u → Calls Try.prog 39 #[.agg #[.slice zA zn zc, .slice RA rs.length rc]] u (RetP (fun v _ => v = .bool (ltZ zs rs)) u)) := fun u hu => lightZ_any zA RA zn zc rs.length rc zs rs u (HR.out u (nx HB2.out hu)) (fun b hb => Nat.lt_of_lt_of_le hb (nx HB2.out hu).size) ez hrc (Nat.le_trans hzc.1 hzc.2)
  have HLE : Hid (zs.length = zn ∧ qs.length = qn) := ⟨ez, eq⟩
  have HCC : Hid ((zn ≤ zc ∧ zc ≤ maxLen) ∧ (rs.length ≤ rc ∧ rc ≤ maxLen) ∧ (qn ≤ qc ∧ qc ≤ maxLen)) := ⟨hzc, hrc, hqc⟩
  have HSO : Hid (∀ u, Below w2.heap.size w2 u → Calls Try.prog 40 #[.agg #[.slice zA zn zc, .slice RA rs.length rc]] u (RetP (fun v _ => v = .bool (zsoundB zs rs)) u)) := fun u hu => rzsound_any zA RA zn zc rs.length rc zs rs u ((HZ.out u (nx HB2.out hu)).mono (fun b hb => Nat.lt_of_lt_of_le hb (nx HB2.out hu).size) (fun b hb => Nat.lt_of_lt_of_le hb (nx HB2.out hu).size)) (HR.out u (nx HB2.out hu)) (fun b hb => Nat.lt_of_lt_of_le hb (nx HB2.out hu).size) (by have := hL.z; omega) hrc.1 (by have := hL.n; omega) (fun r hr => (hL.r r hr).lt9)
  rw [ltZ_yes hL] at HLI
  rw [hso] at HSO
  have h1d : decide ((130 : Int) < (qn : Int)) = false := decide_eq_false (by omega)
  have HL := Lib.hid hL
  have HQL : Hid (qn ≤ 130) := hl
  have HZS := Lib.hid hso
  clear h hL hso hz hq hzc hrc hqc eq ez hb1 hb2 hc0 hc1 hc2 hc3 hc4
  go_enter Try.func10, Try.ntmps10
  go_upto_region 1 with (fail)
  rw [← hw1]
  rw [← hw2]
  clear hw1 hw2
  rw [← hzb]
  rw [← hqb]
  clear hzb hqb hs1 hs2
  obtain ⟨x0, x1, x2, x3, x4⟩ := HC.out w2 bl
  go_wp2_with (first | (go_at_call 38; (with_reducible refine (answers17_any w7).mono ?_); rintro e w8 ⟨rfl, hb8⟩; have HB8 := Lib.hid hb8; clear hb8) | (go_at_call 40; (with_reducible refine (HSO.out w6 (nx (nx HB3.out HB4.out) HB6.out)).mono ?_); rintro e w7 ⟨v7, rfl, rfl, hb7⟩; have HB7 := Lib.hid hb7; clear hb7) | (go_at_call 41; (with_reducible refine (plainZ_any zA RA zn zc rs.length rc w4).mono ?_); rintro e w6 ⟨v6, rfl, rfl, hb6⟩; have HB6 := Lib.hid hb6; clear hb6) | (go_at_call 39; (with_reducible refine (HLI.out w3 HB3.out).mono ?_); rintro e w4 ⟨v4, rfl, rfl, hb4⟩; have HB4 := Lib.hid hb4; obtain ⟨y0, y1, y2, y3, y4⟩ := HC.out w4 (nx HB3.out hb4); clear hb4) | (go_at_call 38; (with_reducible refine (answers17_any w2).mono ?_); rintro e w3 ⟨rfl, hb3⟩; have HB3 := Lib.hid hb3; obtain ⟨a0, a1, a2, a3, a4⟩ := HC.out w3 hb3; clear hb3) | fail)
  go_ret
  exact ⟨rfl, (nx (nx (nx (nx HB2.out (nx HB3.out HB4.out)) HB6.out) HB7.out) HB8.out)⟩
set_option maxHeartbeats 16000000 in
theorem zZoneHas_main (zA RA qA : Option Addr) (zn zc rn rc qn qc : Nat) (zs qs : List (List UInt8)) (rs : List RR) (ty cl : Int) (w : World) (h : RdE encRR w RA rn rs) (hz : RdE encS w zA zn zs) (hq : RdE encS w qA qn qs) (hzc : zn ≤ zc ∧ zc ≤ maxLen) (hrc : rn ≤ rc ∧ rc ≤ maxLen) (hqc : qn ≤ qc ∧ qc ≤ maxLen) (hL : LtZ zs rs) (hl : qn ≤ 130) (hso : zsoundB zs rs = true) :
    Calls Try.prog 10 #[.agg #[.slice zA zn zc, .slice RA rn rc], .agg #[.slice qA qn qc, .int .i64 ty, .int .i64 cl]] w (LawT w) := by
  have er := h.len
  subst er
  have eq := hq.len
  have ez := hz.len
  obtain ⟨w1, hw1⟩ : ∃ w1, w1 = w.alloc (.cells #[.slice zA zn zc, .slice RA rs.length rc] 75) := ⟨_, rfl⟩
  obtain ⟨w2, hw2⟩ : ∃ w2, w2 = w1.alloc (.cells #[.slice qA qn qc, .int .i64 ty, .int .i64 cl] 25) := ⟨_, rfl⟩
  obtain ⟨zb, hzb⟩ : ∃ g, g = w.heap.size := ⟨_, rfl⟩
  obtain ⟨qb, hqb⟩ : ∃ g, g = zb + 1 := ⟨_, rfl⟩
  have hb1 : Below w.heap.size w w1 := by rw [hw1]; exact bl.alloc (Nat.le_refl _) _
  have hb2 : Below w1.heap.size w1 w2 := by rw [hw2]; exact bl.alloc (Nat.le_refl _) _
  have hs1 : w1.heap.size = qb := by rw [hqb, hzb, hw1]; simp
  have hs2 : w2.heap.size = zb + 2 := by rw [hw2]; simp; omega
  have hc0 : w2.cell? ⟨zb, 0, none⟩ = some (.slice zA zn zc) := below_cell hb2 (by rw [hw1, hzb]; exact new_cell w _ _ 0)
  have hc1 : w2.cell? ⟨zb, 1, none⟩ = some (.slice RA rs.length rc) := below_cell hb2 (by rw [hw1, hzb]; exact new_cell w _ _ 1)
  have hc2 : w2.cell? ⟨qb, 0, none⟩ = some (.slice qA qn qc) := by rw [hw2, ← hs1]; exact new_cell w1 _ _ 0
  have hc3 : w2.cell? ⟨qb, 1, none⟩ = some (.int .i64 ty) := by rw [hw2, ← hs1]; exact new_cell w1 _ _ 1
  have hc4 : w2.cell? ⟨qb, 2, none⟩ = some (.int .i64 cl) := by rw [hw2, ← hs1]; exact new_cell w1 _ _ 2
  have HC : Hid (∀ u, Below w2.heap.size w2 u → u.cell? ⟨zb, 0, none⟩ = some (.slice zA zn zc) ∧ u.cell? ⟨zb, 1, none⟩ = some (.slice RA rs.length rc) ∧ u.cell? ⟨qb, 0, none⟩ = some (.slice qA qn qc) ∧ u.cell? ⟨qb, 1, none⟩ = some (.int .i64 ty) ∧ u.cell? ⟨qb, 2, none⟩ = some (.int .i64 cl)) := fun u hu => ⟨below_cell hu hc0, below_cell hu hc1, below_cell hu hc2, below_cell hu hc3, below_cell hu hc4⟩
  have HB2 : Hid (Below w.heap.size w w2) := nx hb1 hb2
  have HS : Hid (zb = w.heap.size ∧ qb = zb + 1 ∧ w2.heap.size = zb + 2) := ⟨hzb, hqb, hs2⟩
  have HR : Hid (∀ u, Below w.heap.size w u → Els encRR (ltS w) (ltS w) u RA rs.length rs) := fun u hu => h.keep (fun b hb => hu.block b hb) (fun b hb => hu.block b hb)
  have HZ : Hid (∀ u, Below w.heap.size w u → Els encS (ltS w) (ltS w) u zA zn zs) := fun u hu => hz.keep (fun b hb => hu.block b hb) (fun b hb => hu.block b hb)
  have HQ : Hid (∀ u, Below w.heap.size w u → Els encS (ltS w) (ltS w) u qA qn qs) := fun u hu => hq.keep (fun b hb => hu.block b hb) (fun b hb => hu.block b hb)
  have HLI : Hid (∀ u, Below w2.heap.size w2 u → Calls Try.prog 39 #[.agg #[.slice zA zn zc, .slice RA rs.length rc]] u (RetP (fun v _ => v = .bool (ltZ zs rs)) u)) := fun u hu => lightZ_any zA RA zn zc rs.length rc zs rs u (HR.out u (nx HB2.out hu)) (fun b hb => Nat.lt_of_lt_of_le hb (nx HB2.out hu).size) ez hrc (Nat.le_trans hzc.1 hzc.2)
  have HLE : Hid (zs.length = zn ∧ qs.length = qn) := ⟨ez, eq⟩
  have HCC : Hid ((zn ≤ zc ∧ zc ≤ maxLen) ∧ (rs.length ≤ rc ∧ rc ≤ maxLen) ∧ (qn ≤ qc ∧ qc ≤ maxLen)) := ⟨hzc, hrc, hqc⟩
  have HSO : Hid (∀ u, Below w2.heap.size w2 u → Calls Try.prog 40 #[.agg #[.slice zA zn zc, .slice RA rs.length rc]] u (RetP (fun v _ => v = .bool (zsoundB zs rs)) u)) := fun u hu => rzsound_any zA RA zn zc rs.length rc zs rs u ((HZ.out u (nx HB2.out hu)).mono (fun b hb => Nat.lt_of_lt_of_le hb (nx HB2.out hu).size) (fun b hb => Nat.lt_of_lt_of_le hb (nx HB2.out hu).size)) (HR.out u (nx HB2.out hu)) (fun b hb => Nat.lt_of_lt_of_le hb (nx HB2.out hu).size) (by have := hL.z; omega) hrc.1 (by have := hL.n; omega) (fun r hr => (hL.r r hr).lt9)
  rw [ltZ_yes hL] at HLI
  rw [hso] at HSO
  have h1d : decide ((130 : Int) < (qn : Int)) = false := decide_eq_false (by omega)
  have HL := Lib.hid hL
  have HQL : Hid (qn ≤ 130) := hl
  have HZS := Lib.hid hso
  clear h hL hso hz hq hzc hrc hqc eq ez hb1 hb2 hc0 hc1 hc2 hc3 hc4
  go_enter Try.func10, Try.ntmps10
  go_upto_region 1 with (fail)
  rw [← hw1]
  rw [← hw2]
  clear hw1 hw2
  rw [← hzb]
  rw [← hqb]
  clear hzb hqb hs1 hs2
  obtain ⟨x0, x1, x2, x3, x4⟩ := HC.out w2 bl
  go_upto_region 3 with (first | (go_at_call 40; (with_reducible refine (HSO.out w6 (nx (nx HB3.out HB4.out) HB6.out)).mono ?_); rintro e w7 ⟨v7, rfl, rfl, hb7⟩; have HB7 := Lib.hid hb7; clear hb7) | (go_at_call 41; (with_reducible refine (plainZ_any zA RA zn zc rs.length rc w4).mono ?_); rintro e w6 ⟨v6, rfl, rfl, hb6⟩; have HB6 := Lib.hid hb6; clear hb6) | (go_at_call 39; (with_reducible refine (HLI.out w3 HB3.out).mono ?_); rintro e w4 ⟨v4, rfl, rfl, hb4⟩; have HB4 := Lib.hid hb4; obtain ⟨y0, y1, y2, y3, y4⟩ := HC.out w4 (nx HB3.out hb4); clear hb4) | (go_at_call 38; (with_reducible refine (answers17_any w2).mono ?_); rintro e w3 ⟨rfl, hb3⟩; have HB3 := Lib.hid hb3; obtain ⟨a0, a1, a2, a3, a4⟩ := HC.out w3 hb3; clear hb3) | fail)
  clear x0 x1 x2 x3 x4 a0 a1 a2 a3 a4 y0 y1 y2 y3 y4 h1d hl
  have HB27 : Hid (Below w2.heap.size w2 w7) := nx (nx (nx HB3.out HB4.out) HB6.out) HB7.out
  have HTK : Hid (Below w.heap.size w w7) := nx HB2.out HB27.out
  obtain ⟨M, hM⟩ : ∃ M, M = answerP zs rs ⟨qs, ty, cl⟩ := ⟨_, rfl⟩
  have HMD : Hid (Made rs (2 * rs.length + 1) M) := by show Made _ _ _; rw [hM]; exact answerP_made zs rs _
  have HTW := answerP_two zs rs ⟨qs, ty, cl⟩
  rw [← hM] at HTW
  have HTWO := Lib.hid HTW
  clear HTW
  have HME := Lib.hid hM
  clear hM
  refine wp_region_iv1 (n := 5) (by kernel_rfl) (by kernel_rfl) (by kernel_rfl) rfl (by kernel_rfl) (fun i => if i < 4 then i + 30 else i + 1) (fun i hi => by show (if i < 4 then i + 30 else i + 1) < 104; split <;> omega) (fun i j hi hj e => by have e2 : (if i < 4 then i + 30 else i + 1) = (if j < 4 then j + 30 else j + 1) := e; split at e2 <;> split at e2 <;> omega) (PsiH zA RA qA zn zc rc qn qc zs rs ty cl M ⟨qs, ty, cl⟩) (fun j v lo hi w1 w2 _ hh hb h => psiH_below j v lo hi w1 w2 hh hb h) ?_ ?_
  · intro i hi a u hbw hsm hdep
    obtain ⟨x0, x1, x2, x3, x4⟩ := HC.out u (nx HB27.out hbw)
    have hwu : Below w.heap.size w u := nx HTK.out hbw
    have hlt : ∀ b, ltS w b → b < u.heap.size := fun b hb => Nat.lt_of_lt_of_le hb hwu.size
    have t2 : a.tmps[2]? = some (.pointer (some ⟨zb, 0, none⟩)) := (hsm.other 2 (fun j hj e => by have e2 : (if j < 4 then j + 30 else j + 1) = 2 := e; split at e2 <;> omega)).trans rfl
    have t3 : a.tmps[3]? = some (.pointer (some ⟨qb, 0, none⟩)) := (hsm.other 3 (fun j hj e => by have e2 : (if j < 4 then j + 30 else j + 1) = 3 := e; split at e2 <;> omega)).trans rfl
    have hcases : i = 0 ∨ i = 1 ∨ i = 2 ∨ i = 3 ∨ i = 4 := by omega
    rcases hcases with rfl | rfl | rfl | rfl | rfl
    · refine wpOp_plain rfl rfl ?_
      exact wp_val (v := .agg #[.slice zA zn zc, .slice RA rs.length rc]) (by simp [t2, go_sem, x0, x1]) ⟨_, rfl, bl, rfl⟩
    · obtain ⟨v0, lo0, hi0, hv0, hp0, _, _⟩ := hdep 0 (by kernel_rfl)
      have hp0' : v0 = .agg #[.slice zA zn zc, .slice RA rs.length rc] := hp0
      subst hp0'
      have hO := zownZ_any zA RA zn zc rs.length rc zs rs u ((HR.out u hwu).mono hlt hlt) ((HZ.out u hwu).mono hlt hlt) HL.out
      clear t2 t3 x0 x1 x2 x3 x4 hdep
      refine wpOp_plain rfl rfl ?_
      generalize hK : (fun (a2 : Act) (w2 : World) => _) = K
      have e1 : a.tmps[30]? = some (.agg #[.slice zA zn zc, .slice RA rs.length rc]) := hv0
      have e2 := eval_tmp e1
      go_simp
      refine hO.mono ?_
      rintro e w' ⟨v', rfl, ⟨A, c, R, m, rfl, ho⟩, hb'⟩
      rw [← hK]
      exact ⟨_, rfl, hb', ⟨A, c, R, m, rfl, ho.iv⟩⟩
    · refine wpOp_plain rfl rfl ?_
      exact wp_val (v := .agg #[.slice qA qn qc, .int .i64 ty, .int .i64 cl]) (by simp [t3, go_sem, x2, x3, x4]) ⟨_, rfl, bl, rfl⟩
    · obtain ⟨v1, lo1, hi1, hv1, hp1, _, hh1⟩ := hdep 1 (by kernel_rfl)
      obtain ⟨v2, lo2, hi2, hv2, hp2, _, _⟩ := hdep 2 (by kernel_rfl)
      obtain ⟨A1, c1, R1, m1, rfl, hz1⟩ := (show ∃ A c R m, v1 = .agg #[.slice A zn c, .slice R rs.length m] ∧ ZIv lo1 hi1 u A zn c R rs.length m zs rs from hp1)
      have hp2' : v2 = .agg #[.slice qA qn qc, .int .i64 ty, .int .i64 cl] := hp2
      subst hp2'
      have hA := zanswer_any A1 R1 qA zn c1 rs.length m1 qn qc zs qs rs ty cl u (hz1.r.mono (fun b hb => Nat.lt_of_lt_of_le hb.2 hh1) (fun b hb => Nat.lt_of_lt_of_le hb.2 hh1)) (hz1.z.mono (fun b hb => Nat.lt_of_lt_of_le hb.2 hh1) (fun b hb => Nat.lt_of_lt_of_le hb.2 hh1)) ((HQ.out u hwu).mono hlt hlt) hz1.cz hz1.cr.1 (by have := HL.out.n; omega) (by have := HL.out.z; have := HLE.out.1; omega) (by have := HQL.out; omega) (fun r hr => (HL.out.r r hr).lightR) (fun r hr => (HL.out.r r hr).lt9) (fun r hr => by have := HL.out.r r hr; exact ⟨by have := this.2.2.1; omega, by have := this.1; omega⟩)
      rw [← HME.out] at hA
      clear t2 t3 x0 x1 x2 x3 x4 hdep
      refine wpOp_plain rfl rfl ?_
      generalize hK : (fun (a2 : Act) (w2 : World) => _) = K
      have e1 : a.tmps[31]? = some (.agg #[.slice A1 zn c1, .slice R1 rs.length m1]) := hv1
      have e2 : a.tmps[32]? = some (.agg #[.slice qA qn qc, .int .i64 ty, .int .i64 cl]) := hv2
      have e3 := eval_tmp e1
      have e4 := eval_tmp e2
      go_simp
      refine hA.mono ?_
      rintro e w' ⟨v', rfl, ⟨s, rfl, ho⟩, hb'⟩
      rw [← hK]
      exact ⟨_, rfl, hb', ⟨s, rfl, ho.iv⟩⟩
    · refine wpOp_plain rfl rfl ?_
      generalize hK : (fun (a2 : Act) (w2 : World) => _) = K
      go_simp
      rw [← hK]
      exact ⟨_, rfl, bl.alloc (Nat.le_refl _) _, rfl, by simp, MRow.made u MS.nil msNone⟩
  · intro a u lo hi hbw hsm hdep hdis
    obtain ⟨v0, hv0, hp0, _⟩ := hdep 0 (by omega)
    obtain ⟨v1, hv1, hp1, _, _⟩ := hdep 1 (by omega)
    obtain ⟨v2, hv2, hp2, _⟩ := hdep 2 (by omega)
    obtain ⟨v3, hv3, hp3, hl3, hh3⟩ := hdep 3 (by omega)
    obtain ⟨v4, hv4, hp4, hl4, hh4⟩ := hdep 4 (by omega)
    have d34 := hdis 3 4 (by omega) (by omega) (by omega)
    have hp0' : v0 = .agg #[.slice zA zn zc, .slice RA rs.length rc] := hp0
    have hp2' : v2 = .agg #[.slice qA qn qc, .int .i64 ty, .int .i64 cl] := hp2
    obtain ⟨A1, c1, R1, m1, rfl, hz1⟩ := (show ∃ A c R m, v1 = .agg #[.slice A zn c, .slice R rs.length m] ∧ ZIv (lo 1) (hi 1) u A zn c R rs.length m zs rs from hp1)
    obtain ⟨s3, rfl, ha3⟩ := (show ∃ s, v3 = msV s M ∧ AIv (lo 3) (hi 3) u s M ⟨qs, ty, cl⟩ from hp3)
    obtain ⟨rfl, g4, hm4⟩ := (show v4 = .pointer (some ⟨lo 4, 0, none⟩) ∧ lo 4 < hi 4 ∧ MRow u (lo 4) MS.nil msNone from hp4)
    subst hp0' hp2'
    have ha := hsm.eq (fun i hi => by show (if i < 4 then i + 30 else i + 1) < 104; split <;> omega) (fun i j hi hj e => by have e2 : (if i < 4 then i + 30 else i + 1) = (if j < 4 then j + 30 else j + 1) := e; split at e2 <;> split at e2 <;> omega) (fun j => ([.agg #[.slice zA zn zc, .slice RA rs.length rc], .agg #[.slice A1 zn c1, .slice R1 rs.length m1], .agg #[.slice qA qn qc, .int .i64 ty, .int .i64 cl], msV s3 M, .pointer (some ⟨lo 4, 0, none⟩)] : List Value).getD j undef) (fun j hj => by
      have hcases : j = 0 ∨ j = 1 ∨ j = 2 ∨ j = 3 ∨ j = 4 := by omega
      rcases hcases with rfl | rfl | rfl | rfl | rfl
      · exact hv0
      · exact hv1
      · exact hv2
      · exact hv3
      · exact hv4)
    have t5 : a.tmps[5]? = some (.pointer (some ⟨lo 4, 0, none⟩)) := hv4
    have t33 : a.tmps[33]? = some (.agg (mCells s3 M)) := hv3
    refine wpOp_plain rfl rfl ?_
    refine wpO_storeR rowMsZ (.tmp 5) (.tmp 33) rfl (lo 4) (eval_tmp t5) (mCells s3 M) (eval_tmp t33) (mCells MS.nil msNone) hm4 rfl rfl (mCells_one _ _) fun u1 hu1 hc1 => ?_
    have HMB : Hid (MRow u1 (lo 4) s3 M) := hu1
    have HA3 : Hid (AIv (lo 3) (hi 3) u1 s3 M ⟨qs, ty, cl⟩) := ha3.keep (fun b hb => hc1.block b (Nat.lt_of_lt_of_le hb.2 hh3) (fun e => by have h1 := hb.1; have h2 := hb.2; have e2 : b = lo 4 := e; omega))
    have HU1 : Hid (Below w7.heap.size w7 u1) := hbw.trans (hc1.below (fun x hx => by have e2 : x = lo 4 := hx; omega) hbw.size)
    have HHI : Hid (hi 3 ≤ u1.heap.size) := Nat.le_trans hh3 hc1.size
    clear hc1 hu1 t5 t33 hv0 hv1 hv2 hv3 hv4 hp0 hp1 hp2 hp3 hp4 d34 hz1 ha3 hm4 hdep hdis hh3 hh4 hl3 hl4 g4
    obtain ⟨mb, hmb⟩ : ∃ b, b = lo 4 := ⟨_, rfl⟩
    rw [← hmb] at HMB ha
    obtain ⟨L3, hL3⟩ : ∃ b, b = lo 3 := ⟨_, rfl⟩
    obtain ⟨H3, hH3⟩ : ∃ b, b = hi 3 := ⟨_, rfl⟩
    rw [← hL3, ← hH3] at HA3
    rw [← hH3] at HHI
    show Exit.then _ _ _ a u1
    rw [ha]
    clear ha hsm hmb hbw hL3 hH3
    simp only [show List.range 5 = [0, 1, 2, 3, 4] from rfl, List.foldl_cons, List.foldl_nil, Nat.reduceLT, ↓reduceIte, Nat.reduceAdd, List.getD_cons_zero, List.getD_cons_succ]
    go_simp
    go_upto_region 4 with (fail)
    have HLa : Hid (M.an.length ≤ 201 ∧ M.au.length ≤ 100 ∧ M.ex.length ≤ 100) := by
      have h1 := HMD.out.la; have h2 := HMD.out.lu; have h3 := HMD.out.lx; have h4 := HL.out.n
      exact ⟨by omega, by omega, by omega⟩
    have HEa : Hid (∀ u, Below u1.heap.size u1 u → Els encRR (btS L3 H3) (btS L3 H3) u s3.A M.an.length M.an ∧ Els encRR (btS L3 H3) (btS L3 H3) u s3.U M.au.length M.au ∧ Els encRR (btS L3 H3) (btS L3 H3) u s3.X M.ex.length M.ex) := fun u hb => by
      have k : ∀ b, btS L3 H3 b → u.heap[b]? = u1.heap[b]? := fun b hb' => hb.block b (Nat.lt_of_lt_of_le hb'.2 HHI.out)
      exact ⟨HA3.out.a.keep k k, HA3.out.u.keep k k, HA3.out.x.keep k k⟩
    have hS9 : MRow u1.drew mb s3 M := HMB.out
    refine wp_region_any (by kernel_rfl) ?_
    change wpAny _ _ _ _ _ _ _ (World.drew u1)
    refine wpAny_of_P (S := fun W => MRow W mb s3 M) (dem := fun _ => true) _ _ _ _ ?_
    refine wpAnyP_take (i := 1) (v := .pointer (some ⟨mb, 9, none⟩)) rfl (by kernel_rfl) (by kernel_rfl) (by kernel_rfl) (by kernel_rfl) (by kernel_rfl) (fun _ _ _ h => h) (Or.inl ⟨by kernel_rfl, by (intro W hW; go_simp)⟩) hS9 ?_
    refine wpAnyP_take (i := 2) (v := .slice s3.A M.an.length s3.ac) rfl (by kernel_rfl) (by kernel_rfl) (by kernel_rfl) (by kernel_rfl) (by kernel_rfl) (fun _ _ _ h => h) (Or.inl ⟨by kernel_rfl, by (intro W hW; have c0 : W.cell? ⟨mb, 9, none⟩ = some (.slice s3.A M.an.length s3.ac) := (MRow.cell hW 9).trans rfl; go_simp)⟩) hS9 ?_
    refine wpAnyP_take (i := 4) (v := .pointer (some ⟨mb, 10, none⟩)) rfl (by kernel_rfl) (by kernel_rfl) (by kernel_rfl) (by kernel_rfl) (by kernel_rfl) (fun _ _ _ h => h) (Or.inl ⟨by kernel_rfl, by (intro W hW; go_simp)⟩) hS9 ?_
    refine wpAnyP_take (i := 5) (v := .slice s3.U M.au.length s3.uc) rfl (by kernel_rfl) (by kernel_rfl) (by kernel_rfl) (by kernel_rfl) (by kernel_rfl) (fun _ _ _ h => h) (Or.inl ⟨by kernel_rfl, by (intro W hW; have c0 : W.cell? ⟨mb, 10, none⟩ = some (.slice s3.U M.au.length s3.uc) := (MRow.cell hW 10).trans rfl; go_simp)⟩) hS9 ?_
    refine wpAnyP_take (i := 7) (v := .pointer (some ⟨mb, 11, none⟩)) rfl (by kernel_rfl) (by kernel_rfl) (by kernel_rfl) (by kernel_rfl) (by kernel_rfl) (fun _ _ _ h => h) (Or.inl ⟨by kernel_rfl, by (intro W hW; go_simp)⟩) hS9 ?_
    refine wpAnyP_take (i := 8) (v := .slice s3.X M.ex.length s3.xc) rfl (by kernel_rfl) (by kernel_rfl) (by kernel_rfl) (by kernel_rfl) (by kernel_rfl) (fun _ _ _ h => h) (Or.inl ⟨by kernel_rfl, by (intro W hW; have c0 : W.cell? ⟨mb, 11, none⟩ = some (.slice s3.X M.ex.length s3.xc) := (MRow.cell hW 11).trans rfl; go_simp)⟩) hS9 ?_
    obtain ⟨b10, hb10⟩ : ∃ b, b = u1.drew.heap.size := ⟨_, rfl⟩
    obtain ⟨w10, hw10⟩ : ∃ u, u = u1.drew.alloc (.cells #[] 84) := ⟨_, rfl⟩
    have HB10 : Hid (Below u1.drew.heap.size u1.drew w10) := by show Below _ _ _; rw [hw10]; exact bl.alloc (Nat.le_refl _) _
    have HO10 : Hid (OwnE encRR 84 noS w10 b10 (.slice (some ⟨b10, 0, none⟩) 0 0) []) := by show OwnE _ _ _ _ _ _ _; rw [hw10, hb10]; exact ownE_lit0 (fun _ h => h.elim) (Nat.le_refl _)
    have HB110 : Hid (Below u1.heap.size u1 w10) := (bl.drew : Below u1.heap.size u1 u1.drew).trans HB10.out
    have HBX : Hid (b10 = u1.heap.size) := hb10
    have HBD := Lib.hid hb10
    have HW10 := Lib.hid hw10
    clear hb10 hw10
    have HSS : Hid (∀ (W : World) (v : Value), Below u1.heap.size u1 W → (∀ k, v.ownBlock = some k → b10 ≤ k) → ∀ b, btS L3 H3 b → b < W.heap.size ∧ some b ≠ v.ownBlock) := fun W v hW hv b hb => ⟨Nat.lt_of_lt_of_le (Nat.lt_of_lt_of_le hb.2 HHI.out) hW.size, fun e => by have h1 := hv b e.symm; have h2 := hb.2; have h3 := HBX.out; have h4 := HHI.out; omega⟩
    refine wpAnyP_one (i := 0) rfl (by kernel_rfl) fun K hK => ?_
    go_simp
    refine hK _ (u1.drew.alloc (.cells #[] 84)) (fun _ => by rw [← HW10.out]; exact MRow.below (w := u1.drew) hS9 HB10.out) ?_
    clear hK
    rw [← HW10.out]
    refine wpAnyP_one (i := 3) rfl (by kernel_rfl) fun K hK => ?_
    refine step_appE (w := w10) elRR (by kernel_rfl) (.tmp 34) (.tmp 36) rfl b10 (.slice (some ⟨b10, 0, none⟩) 0 0) [] (by rw [HBD.out]; rfl) HO10.out s3.A M.an.length s3.ac M.an (HEa.out w10 HB110.out).1 (HSS.out w10 _ HB110.out (fun k hk => (OwnE.lt HO10.out k hk).1)) rfl (by have := HLa.out; simp; omega) (by have := HLa.out; unfold maxLen; simp; omega) (by rw [HBD.out]; exact HB10.out.size) ?_
    intro v11 w11 hown11 hg11 hat11
    have HO11 := Lib.hid hown11
    have HB11 : Hid (Below u1.drew.heap.size u1.drew w11) := Below.grown HB10.out hg11 HB10.out.size (fun k hk => by have := (OwnE.lt HO10.out k hk).1; rw [HBD.out] at this; exact this)
    have HB111 : Hid (Below u1.heap.size u1 w11) := (bl.drew : Below u1.heap.size u1 u1.drew).trans HB11.out
    have HR11 : Hid (MRow w11 mb s3 M) := MRow.below (w := u1.drew) hS9 HB11.out
    refine hK _ _ (fun _ => HR11.out) ?_
    clear hK hown11 hg11 hat11
    refine wpAnyP_one (i := 6) rfl (by kernel_rfl) fun K hK => ?_
    refine step_appE (w := w11) elRR (by kernel_rfl) (.tmp 37) (.tmp 39) rfl b10 v11 ([] ++ M.an) rfl HO11.out s3.U M.au.length s3.uc M.au (HEa.out w11 HB111.out).2.1 (HSS.out w11 _ HB111.out (fun k hk => (OwnE.lt HO11.out k hk).1)) rfl (by have := HLa.out; simp; omega) (by have := HLa.out; unfold maxLen; simp; omega) (by rw [HBD.out]; exact HB11.out.size) ?_
    intro v12 w12 hown12 hg12 hat12
    have HO12 := Lib.hid hown12
    have HB12 : Hid (Below u1.drew.heap.size u1.drew w12) := Below.grown HB11.out hg12 HB11.out.size (fun k hk => by have := (OwnE.lt HO11.out k hk).1; rw [HBD.out] at this; exact this)
    have HB112 : Hid (Below u1.heap.size u1 w12) := (bl.drew : Below u1.heap.size u1 u1.drew).trans HB12.out
    have HR12 : Hid (MRow w12 mb s3 M) := MRow.below (w := u1.drew) hS9 HB12.out
    refine hK _ _ (fun _ => HR12.out) ?_
    clear hK hown12 hg12 hat12
    refine wpAnyP_one (i := 9) rfl (by kernel_rfl) fun K hK => ?_
    refine step_appE (w := w12) elRR (by kernel_rfl) (.tmp 40) (.tmp 42) rfl b10 v12 ([] ++ M.an ++ M.au) rfl HO12.out s3.X M.ex.length s3.xc M.ex (HEa.out w12 HB112.out).2.2 (HSS.out w12 _ HB112.out (fun k hk => (OwnE.lt HO12.out k hk).1)) rfl (by have := HLa.out; simp; omega) (by have := HLa.out; unfold maxLen; simp; omega) (by rw [HBD.out]; exact HB12.out.size) ?_
    intro v13 w13 hown13 hg13 hat13
    have HB13 : Hid (Below u1.drew.heap.size u1.drew w13) := Below.grown HB12.out hg13 HB12.out.size (fun k hk => by have := (OwnE.lt HO12.out k hk).1; rw [HBD.out] at this; exact this)
    have HB113 : Hid (Below u1.heap.size u1 w13) := (bl.drew : Below u1.heap.size u1 u1.drew).trans HB13.out
    have HR13 : Hid (MRow w13 mb s3 M) := MRow.below (w := u1.drew) hS9 HB13.out
    rw [List.nil_append] at hown13
    obtain ⟨all, hall⟩ : ∃ l, l = M.an ++ M.au ++ M.ex := ⟨_, rfl⟩
    rw [← hall] at hown13
    have HALL := Lib.hid hall
    clear hall
    obtain ⟨A13, c13, hv13, he13, hl13, hm13⟩ := OwnE.rdE hown13
    obtain ⟨n, hn⟩ : ∃ n, n = all.length := ⟨_, rfl⟩
    rw [← hn] at hv13 he13 hl13
    have HE13 := Lib.hid he13
    have HNE := Lib.hid hn
    have HL13 : Hid (n ≤ c13 ∧ c13 ≤ maxLen) := ⟨hl13, hm13⟩
    subst hv13
    refine hK _ _ (fun _ => HR13.out) ?_
    clear hK hown13 hg13 hat13 he13 hn hl13 hm13
    refine wpAnyP_one (i := 10) rfl (by kernel_rfl) fun K hK => ?_
    go_simp
    refine hK _ _ (fun h => absurd h (by rw [show needS _ _ _ = false from by kernel_rfl]; decide)) ?_
    clear hK
    refine wpAnyP_done (by kernel_rfl) ?_ _
    clear hS9
    have hnb : n ≤ 1000 := by
      have h1 := HLa.out
      have h2 := HNE.out
      rw [HALL.out, List.length_append, List.length_append] at h2
      omega
    have HW13 : Hid (Below w2.heap.size w2 w13) := nx (nx HB27.out HU1.out) HB113.out
    have HMEM : Hid (∀ r ∈ all, r ∈ rs) := fun r hr => by
      rw [HALL.out] at hr
      rcases List.mem_append.1 hr with e | e
      · rcases List.mem_append.1 e with e | e
        · exact HMD.out.a r e
        · exact HMD.out.u r e
      · exact HMD.out.x r e
    go_upto_region 6 with (fail)
    go_loopw [7] (fun iv wr => ∃ i : Nat, iv = .int .i64 (i : Int) ∧ i ≤ n ∧ Hid (Below w13.heap.size w13 wr)) (fun iv _ => n - (intOf iv).toNat)
    case atStart => exact ⟨0, rfl, Nat.zero_le _, bl⟩
    case round =>
      obtain ⟨i, rfl, hi, HBI⟩ := hrel
      by_cases hin : i < n
      rotate_left
      · have hin' : ¬ (i : Int) < (n : Int) := by omega
        have HRI := Lib.hid (HR13.out.below HBI.out)
        have HEND : Hid (Below w.heap.size w wr) := nx (nx HB2.out HW13.out) HBI.out
        have x3 : wr.cell? ⟨mb, 3, none⟩ = some (.bool M.aa) := (HRI.out.cell 3).trans rfl
        have x7 : wr.cell? ⟨mb, 7, none⟩ = some (.int .i64 M.rcode) := (HRI.out.cell 7).trans rfl
        have x9 : wr.cell? ⟨mb, 9, none⟩ = some (.slice s3.A M.an.length s3.ac) := (HRI.out.cell 9).trans rfl
        have x10 : wr.cell? ⟨mb, 10, none⟩ = some (.slice s3.U M.au.length s3.uc) := (HRI.out.cell 10).trans rfl
        clear hin hi
        rcases HTWO.out with ⟨h1, h2, h3, h4, h5⟩ | ⟨h1, h2⟩
        · have hn0 : n = 0 := by rw [HNE.out, HALL.out, h2, h3, h4]; rfl
          rw [h1] at x7
          rw [h5] at x3
          subst hn0
          clear h1 h2 h3 h4 h5 x9 x10
          go_wp2
          go_ret
          exact ⟨rfl, HEND.out⟩
        · have h1' : (M.rcode == 5) = false := beq_eq_false_iff_ne.2 h1
          by_cases haa : M.aa = true
          · rw [haa] at x3
            clear h1 h2 haa x9 x10
            go_wp2
            go_ret
            exact ⟨rfl, HEND.out⟩
          · have h2' := h2.resolve_left haa
            obtain ⟨h3, a0, al, h4, h5⟩ := h2'
            have haf : M.aa = false := by cases h : M.aa; rfl; exact absurd h haa
            rw [haf] at x3
            rw [h3] at x9
            have x9' : wr.cell? ⟨mb, 9, none⟩ = some (.slice s3.A 0 s3.ac) := x9
            obtain ⟨b', off', t, hA', _, _, hoc⟩ := rr_at (HEa.out wr (nx HB113.out HBI.out)).2.1 (k := 0) (r := a0) (by rw [h4]; rfl)
            obtain ⟨L, hLL⟩ : ∃ L, L = M.au.length := ⟨_, rfl⟩
            have hL0 : 0 < L := by rw [hLL, h4, List.length_cons]; omega
            have hL1 : (0 : Int) < (L : Int) := by omega
            rw [← hLL, hA'] at x10
            have k1 := hoc.2.1
            rw [Nat.zero_mul, Nat.add_zero, h5] at k1
            have hLb : L ≤ 1000 := by rw [hLL]; have := HLa.out; omega
            clear h1 h2 haa h3 h4 h5 haf hA' hoc x9 hLL
            go_wp2
            go_ret
            exact ⟨rfl, HEND.out⟩
      have hin' : (i : Int) < (n : Int) := by omega
      obtain ⟨f, hf⟩ : ∃ f, all[i]? = some f := ⟨_, List.getElem?_eq_getElem (by rw [← HNE.out]; exact hin)⟩
      have HFM := Lib.hid (HMEM.out f (List.mem_of_getElem? hf))
      obtain ⟨bf, of, sf, hA, hbf, hfi, hfc⟩ := rr_at HE13.out hf
      rw [hA]
      have HFC := Lib.hid hfc
      have HFI := Lib.hid hfi
      have HFB : Hid (∀ u, Below w13.heap.size w13 u → RIn (ltS u) u sf f ∧ RCells u bf (of + i * 9) sf f) := fun u hu => ⟨(HFI.out.below hu (fun b hb => hb)).mono (fun b hb => Nat.lt_of_lt_of_le hb hu.size), HFC.out.below hu⟩
      clear hf hA hbf hfi hfc
      have hrn : rs.length ≤ 100 := HL.out.n
      go_upto_region 10 with (fail)
      go_loopw [8, 9] (fun cv kv wy => ∃ k : Nat, kv = .int .i64 (k : Int) ∧ k ≤ rs.length ∧ cv = .int .i64 (cntR rs f k : Int) ∧ Hid (Below w13.heap.size w13 wy)) (fun _ kv _ => rs.length - (intOf kv).toNat)
      case atStart => exact ⟨0, rfl, Nat.zero_le _, rfl, HBI⟩
      case round =>
        clear HBI
        obtain ⟨k, rfl, hk, rfl, HBK⟩ := hrel
        have HWK : Hid (Below w2.heap.size w2 wr) := nx HW13.out HBK.out
        obtain ⟨x0, x1, x2, x3, x4⟩ := HC.out wr HWK.out
        obtain ⟨cn, hcn⟩ : ∃ c, c = cntR rs f k := ⟨_, rfl⟩
        have hcb : cn ≤ 100 := by rw [hcn]; exact Nat.le_trans (cntR_le _ _ _) (Nat.le_trans hk hrn)
        have HCN := Lib.hid hcn
        rw [← hcn]
        clear hcn
        by_cases hkn : k < rs.length
        rotate_left
        · have hkn' : ¬ (k : Int) < (rs.length : Int) := by omega
          obtain rfl : k = rs.length := by omega
          have hc1 : cn = 1 := by rw [HCN.out]; exact zsound_once HZS.out HFM.out
          subst hc1
          clear hkn hk x0 x2 x3 x4
          go_wp2
          go_roundw
          case rel => exact ⟨i + 1, by go_num, by omega, HBK⟩
          case measure => simp [intOf]; omega
        have hkn' : (k : Int) < (rs.length : Int) := by omega
        obtain ⟨r, hr⟩ : ∃ r, rs[k]? = some r := ⟨_, List.getElem?_eq_getElem hkn⟩
        have HCX := Lib.hid (cntR_next (r := f) hr)
        obtain ⟨b, off, t, hA, _, hri, hrc2⟩ := rr_at (HR.out wr (nx HB2.out HWK.out)) hr
        rw [hA] at x1
        have HRI : Hid (RIn (ltS wr) wr t r) := hri.mono (fun b hb => Nat.lt_of_lt_of_le hb (nx HB2.out HWK.out).size)
        have hS : (wr.drew.cell? ⟨zb, 1, none⟩ = some (.slice (some ⟨b, off, none⟩) rs.length rc)) ∧ RCells wr.drew b (off + k * 9) t r ∧ RCells wr.drew bf (of + i * 9) sf f := ⟨x1, hrc2, (HFB.out wr HBK.out).2⟩
        have HSM := Lib.hid (rsameRR_any t sf r f wr.drew (HRI.out.below bl.drew (fun b hb => hb)) ((HFB.out wr.drew HBK.out.drew).1) (fun b hb => hb) (fun b hb => hb))
        obtain ⟨sm, hsm⟩ : ∃ b, b = exR r f := ⟨_, rfl⟩
        rw [← hsm] at HSM HCX
        unfold rrV rrCells at HSM
        clear hr hri hrc2 hA hsm x0 x2 x3 x4
        go_upto_region 12 with (fail)
        clear x1
        refine wp_region_any (by kernel_rfl) ?_
        change wpAny _ _ _ _ _ _ _ (World.drew wr)
        refine wpAny_of_P (S := fun W => (W.cell? ⟨zb, 1, none⟩ = some (.slice (some ⟨b, off, none⟩) rs.length rc)) ∧ RCells W b (off + k * 9) t r ∧ RCells W bf (of + i * 9) sf f) (dem := fun _ => true) _ _ _ _ ?_
        refine wpAnyP_take (i := 0) (v := .pointer (some ⟨zb, 1, none⟩)) rfl (by kernel_rfl) (by kernel_rfl) (by kernel_rfl) (by kernel_rfl) (by kernel_rfl) (fun _ _ _ h => h) (Or.inl ⟨by kernel_rfl, by (intro W hW; go_simp)⟩) hS ?_
        refine wpAnyP_take (i := 1) (v := .slice (some ⟨b, off, none⟩) rs.length rc) rfl (by kernel_rfl) (by kernel_rfl) (by kernel_rfl) (by kernel_rfl) (by kernel_rfl) (fun _ _ _ h => h) (Or.inl ⟨by kernel_rfl, by (intro W hW; have c0 := hW.1; go_simp)⟩) hS ?_
        refine wpAnyP_take (i := 2) (v := .int .i64 (k : Int)) rfl (by kernel_rfl) (by kernel_rfl) (by kernel_rfl) (by kernel_rfl) (by kernel_rfl) (fun _ _ _ h => h) (Or.inl ⟨by kernel_rfl, by (intro W hW; go_simp)⟩) hS ?_
        refine wpAnyP_take (i := 3) (v := .pointer (some ⟨b, off + k * 9, none⟩)) rfl (by kernel_rfl) (by kernel_rfl) (by kernel_rfl) (by kernel_rfl) (by kernel_rfl) (fun _ _ _ h => h) (Or.inl ⟨by kernel_rfl, by (intro W hW; go_simp)⟩) hS ?_
        refine wpAnyP_take (i := 4) (v := .agg #[.slice t.A r.name.length t.c, .int .i64 r.type, .int .i64 r.cls, .int .i64 r.ttl, .slice t.d.A0 r.data.bytes.length t.d.c0, .slice t.d.A1 r.data.host.length t.d.c1, .slice t.d.A2 r.data.mail.length t.d.c2, .slice t.d.A3 r.data.nums.length t.d.c3, .slice t.d.A4 r.data.texts.length t.d.c4]) rfl (by kernel_rfl) (by kernel_rfl) (by kernel_rfl) (by kernel_rfl) (by kernel_rfl) (fun _ _ _ h => h) (Or.inl ⟨by kernel_rfl, by (intro W hW; obtain ⟨c0, c1, c2, c3, c4, c5, c6, c7, c8⟩ := hW.2.1; go_simp)⟩) hS ?_
        refine wpAnyP_take (i := 5) (v := .slice (some ⟨bf, of, none⟩) n c13) rfl (by kernel_rfl) (by kernel_rfl) (by kernel_rfl) (by kernel_rfl) (by kernel_rfl) (fun _ _ _ h => h) (Or.inl ⟨by kernel_rfl, by (intro W hW; go_simp)⟩) hS ?_
        refine wpAnyP_take (i := 6) (v := .int .i64 (i : Int)) rfl (by kernel_rfl) (by kernel_rfl) (by kernel_rfl) (by kernel_rfl) (by kernel_rfl) (fun _ _ _ h => h) (Or.inl ⟨by kernel_rfl, by (intro W hW; go_simp)⟩) hS ?_
        refine wpAnyP_take (i := 7) (v := .pointer (some ⟨bf, of + i * 9, none⟩)) rfl (by kernel_rfl) (by kernel_rfl) (by kernel_rfl) (by kernel_rfl) (by kernel_rfl) (fun _ _ _ h => h) (Or.inl ⟨by kernel_rfl, by (intro W hW; go_simp)⟩) hS ?_
        refine wpAnyP_take (i := 8) (v := .agg #[.slice sf.A f.name.length sf.c, .int .i64 f.type, .int .i64 f.cls, .int .i64 f.ttl, .slice sf.d.A0 f.data.bytes.length sf.d.c0, .slice sf.d.A1 f.data.host.length sf.d.c1, .slice sf.d.A2 f.data.mail.length sf.d.c2, .slice sf.d.A3 f.data.nums.length sf.d.c3, .slice sf.d.A4 f.data.texts.length sf.d.c4]) rfl (by kernel_rfl) (by kernel_rfl) (by kernel_rfl) (by kernel_rfl) (by kernel_rfl) (fun _ _ _ h => h) (Or.inl ⟨by kernel_rfl, by (intro W hW; obtain ⟨c0, c1, c2, c3, c4, c5, c6, c7, c8⟩ := hW.2.2; go_simp)⟩) hS ?_
        refine wpAnyP_one (i := 9) rfl (by kernel_rfl) fun K hK => ?_
        go_simp
        refine HSM.out.mono ?_
        rintro e w15 ⟨v15, rfl, rfl, hb15⟩
        have HB15 : Hid (Below wr.heap.size wr w15) := (bl.drew : Below wr.heap.size wr wr.drew).trans hb15
        clear hb15
        refine hK _ _ (fun h => absurd h (by rw [show needS _ _ _ = false from by kernel_rfl]; decide)) ?_
        clear hK hS
        refine wpAnyP_done (by kernel_rfl) ?_ _
        cases sm with
        | true =>
          have HN : Hid (cntR rs f (k + 1) = cn + 1) := by show _ = _; rw [HCX.out, ← HCN.out]; rfl
          go_wp2
          go_roundw
          case rel => exact ⟨k + 1, by go_num, by omega, by rw [HN.out]; go_num, nx HBK.out HB15.out⟩
          case measure => simp [intOf]; omega
        | false =>
          have HN : Hid (cntR rs f (k + 1) = cn) := by show _ = _; rw [HCX.out, ← HCN.out]; rfl
          go_wp2
          go_roundw
          case rel => exact ⟨k + 1, by go_num, by omega, by rw [HN.out], nx HBK.out HB15.out⟩
          case measure => simp [intOf]; omega
theorem zoneHas_walk (zA RA qA : Option Addr) (zn zc rn rc qn qc : Nat) (zs qs : List (List UInt8)) (rs : List RR) (ty cl : Int) (w : World) (h : RdE encRR w RA rn rs) (hz : RdE encS w zA zn zs) (hq : RdE encS w qA qn qs) (hzc : zn ≤ zc ∧ zc ≤ maxLen) (hrc : rn ≤ rc ∧ rc ≤ maxLen) (hqc : qn ≤ qc ∧ qc ≤ maxLen) :
    Calls Try.prog 10 #[.agg #[.slice zA zn zc, .slice RA rn rc], .agg #[.slice qA qn qc, .int .i64 ty, .int .i64 cl]] w (LawT w) := by
  by_cases hL : LtZ zs rs
  · by_cases hl : qn ≤ 130
    · cases hso : zsoundB zs rs with
      | true => exact zZoneHas_main zA RA qA zn zc rn rc qn qc zs qs rs ty cl w h hz hq hzc hrc hqc hL hl hso
      | false => exact zZoneHas_unsound zA RA qA zn zc rn rc qn qc zs qs rs ty cl w h hz hq hzc hrc hqc hL hl hso
    · exact zZoneHas_name zA RA qA zn zc rn rc qn qc zs qs rs ty cl w h hz hq hzc hrc hqc (ltZ_yes hL) hl
  · exact zZoneHas_heavy zA RA qA zn zc rn rc qn qc zs qs rs ty cl w h hz hq hzc hrc hqc (ltZ_no hL)
end Go.Proofs.Ytimkdpkhdbiniaa
