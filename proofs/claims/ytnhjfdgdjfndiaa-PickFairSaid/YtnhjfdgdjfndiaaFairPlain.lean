/- Servers that never answer: what the counts are after so many questions. No program in it. -/
import Derived.Test.YtnhjfdgdjfndiaaPickPlain
namespace Go.Proofs.Ytnhjfdgdjfndiaa
open Go.RowKit

/-- n servers with one-byte addresses, asked so often. -/
def fair (n : Nat) (cs : Nat → Nat) : List Tr := (List.range n).map fun k => ⟨[UInt8.ofNat k], (cs k : Int), false⟩
def upd (cs : Nat → Nat) (k : Nat) : Nat → Nat := fun j => if j = k then cs j + 1 else cs j
def sumTo (cs : Nat → Nat) : Nat → Nat
  | 0 => 0
  | n + 1 => sumTo cs n + cs n

theorem fair_length (n : Nat) (cs : Nat → Nat) : (fair n cs).length = n := by simp [fair]
theorem fair_at {n : Nat} (cs : Nat → Nat) {k : Nat} (hk : k < n) : (fair n cs)[k]? = some ⟨[UInt8.ofNat k], (cs k : Int), false⟩ := by
  simp [fair, hk]
theorem fair_none {n : Nat} (cs : Nat → Nat) {k : Nat} (hk : n ≤ k) : (fair n cs)[k]? = none := by
  rw [List.getElem?_eq_none_iff, fair_length]; exact hk
theorem fair_succ (n : Nat) (cs : Nat → Nat) : fair (n + 1) cs = fair n cs ++ [⟨[UInt8.ofNat n], (cs n : Int), false⟩] := by
  simp [fair, List.range_succ]
theorem fair_ext {n : Nat} {ts : List Tr} (cs : Nat → Nat) (hl : ts.length = n) (h : ∀ k, k < n → ts[k]? = some ⟨[UInt8.ofNat k], (cs k : Int), false⟩) : ts = fair n cs := by
  apply List.ext_getElem?
  intro k
  by_cases hk : k < n
  · rw [h k hk, fair_at cs hk]
  · rw [fair_none cs (by omega), List.getElem?_eq_none_iff]; omega

theorem bestTo_min (ts : List Tr) (tries : Int) (i : Nat) : (bestTo ts tries i = [] → ∀ j u, j < i → ts[j]? = some u → u.bad = true ∨ tries ≤ u.count) ∧ (∀ b ∈ bestTo ts tries i, ∀ t, ts[b]? = some t → ∀ j u, j < i → ts[j]? = some u → u.bad = true ∨ tries ≤ u.count ∨ t.count ≤ u.count) := by
  induction i with
  | zero => exact ⟨fun _ j u h => by omega, fun b hb => by simp [bestTo] at hb⟩
  | succ i ih =>
    obtain ⟨ih1, ih2⟩ := ih
    rw [bestTo, pstep]
    split
    · rename_i hi
      refine ⟨fun h j u hj hu => ?_, fun b hb t ht j u hj hu => ?_⟩
      · rcases Nat.lt_or_ge j i with h' | h'
        · exact ih1 h j u h' hu
        · obtain rfl : j = i := by omega
          rw [hi] at hu; cases hu
      · rcases Nat.lt_or_ge j i with h' | h'
        · exact ih2 b hb t ht j u h' hu
        · obtain rfl : j = i := by omega
          rw [hi] at hu; cases hu
    · rename_i x hi
      split
      · rename_i hbad
        refine ⟨fun h j u hj hu => ?_, fun b hb t ht j u hj hu => ?_⟩
        · rcases Nat.lt_or_ge j i with h' | h'
          · exact ih1 h j u h' hu
          · obtain rfl : j = i := by omega
            rw [hi] at hu; cases hu
            exact hbad
        · rcases Nat.lt_or_ge j i with h' | h'
          · exact ih2 b hb t ht j u h' hu
          · obtain rfl : j = i := by omega
            rw [hi] at hu; cases hu
            rcases hbad with h | h
            · exact .inl h
            · exact .inr (.inl h)
      · rename_i hgood
        split
        · rename_i he
          refine ⟨fun h => by simp at h, fun b hb t ht j u hj hu => ?_⟩
          rw [List.mem_singleton] at hb
          subst hb
          rw [hi] at ht; cases ht
          rcases Nat.lt_or_ge j b with h' | h'
          · rcases ih1 he j u h' hu with h | h
            · exact .inl h
            · exact .inr (.inl h)
          · obtain rfl : j = b := by omega
            rw [hi] at hu; cases hu
            exact .inr (.inr (Int.le_refl _))
        · rename_i b0 l0 he
          have hall := ih2
          split
          · rename_i hb0
            obtain ⟨t0, h0, _⟩ := bestTo_good ts tries i b0 (by rw [he]; simp)
            rw [hb0] at h0; cases h0
          · rename_i u0 hb0
            have hm0 := ih2 b0 (by rw [he]; simp) u0 hb0
            split
            · rename_i hlt
              refine ⟨fun h => by simp at h, fun b hb t ht j u hj hu => ?_⟩
              rw [List.mem_singleton] at hb
              subst hb
              rw [hi] at ht; cases ht
              rcases Nat.lt_or_ge j b with h' | h'
              · rcases hm0 j u h' hu with h | h | h
                · exact .inl h
                · exact .inr (.inl h)
                · exact .inr (.inr (by omega))
              · obtain rfl : j = b := by omega
                rw [hi] at hu; cases hu
                exact .inr (.inr (Int.le_refl _))
            · rename_i hnlt
              split
              · rename_i heq
                refine ⟨fun h => by simp [he] at h, fun b hb t ht j u hj hu => ?_⟩
                have key : ∀ j u, j < i + 1 → ts[j]? = some u → u.bad = true ∨ tries ≤ u.count ∨ x.count ≤ u.count := by
                  intro j u hj hu
                  rcases Nat.lt_or_ge j i with h' | h'
                  · rcases hm0 j u h' hu with h | h | h
                    · exact .inl h
                    · exact .inr (.inl h)
                    · exact .inr (.inr (by omega))
                  · obtain rfl : j = i := by omega
                    rw [hi] at hu; cases hu
                    exact .inr (.inr (Int.le_refl _))
                rw [List.mem_append, List.mem_singleton] at hb
                rcases hb with hb | hb
                · rcases Nat.lt_or_ge j i with h' | h'
                  · exact ih2 b (by simpa [he] using hb) t ht j u h' hu
                  · obtain rfl : j = i := by omega
                    rw [hi] at hu; cases hu
                    have := bestTo_lt ts tries j b (by simpa [he] using hb)
                    have h1 := ih2 b (by simpa [he] using hb) t ht b0 u0 (bestTo_lt ts tries j b0 (by rw [he]; simp)) hb0
                    obtain ⟨v0, e0, hg1, hg2⟩ := bestTo_good ts tries j b0 (by rw [he]; simp)
                    rw [hb0] at e0; cases e0
                    rcases h1 with h | h | h
                    · rw [h] at hg1; cases hg1
                    · omega
                    · exact .inr (.inr (by omega))
                · subst hb
                  rw [hi] at ht; cases ht
                  exact key j u hj hu
              · rename_i hne
                refine ⟨fun h => by simp [he] at h, fun b hb t ht j u hj hu => ?_⟩
                rcases Nat.lt_or_ge j i with h' | h'
                · exact ih2 b (by simpa [he] using hb) t ht j u h' hu
                · obtain rfl : j = i := by omega
                  rw [hi] at hu; cases hu
                  have h1 := ih2 b (by simpa [he] using hb) t ht b0 u0 (bestTo_lt ts tries j b0 (by rw [he]; simp)) hb0
                  obtain ⟨v0, e0, hg1, hg2⟩ := bestTo_good ts tries j b0 (by rw [he]; simp)
                  rw [hb0] at e0; cases e0
                  rcases h1 with h | h | h
                  · rw [h] at hg1; cases hg1
                  · omega
                  · exact .inr (.inr (by omega))

theorem nextP_min (ts : List Tr) (tries draw : Int) : (nextP ts tries draw = -1 ∧ ∀ (j : Nat) (u : Tr), ts[j]? = some u → u.bad = true ∨ tries ≤ u.count) ∨
    ∃ (k : Nat) (t : Tr), nextP ts tries draw = (k : Int) ∧ ts[k]? = some t ∧ t.bad = false ∧ t.count < tries ∧ ∀ (j : Nat) (u : Tr), ts[j]? = some u → u.bad = true ∨ tries ≤ u.count ∨ t.count ≤ u.count := by
  have hmin := bestTo_min ts tries ts.length
  unfold nextP
  simp only
  split
  · rename_i h
    exact .inl ⟨rfl, fun j u hu => hmin.1 h j u (List.getElem?_eq_some_iff.1 hu).1 hu⟩
  · rename_i hne
    right
    have hpos : 0 < (bestTo ts tries ts.length).length := List.length_pos_iff.2 hne
    have hlt := Nat.mod_lt (max draw 0).toNat hpos
    have hm : (bestTo ts tries ts.length).getD ((max draw 0).toNat % (bestTo ts tries ts.length).length) 0 ∈ bestTo ts tries ts.length := by
      simp only [List.getD]
      rw [List.getElem?_eq_getElem hlt]
      exact List.getElem_mem hlt
    obtain ⟨t, h1, h2, h3⟩ := bestTo_good ts tries ts.length _ hm
    exact ⟨_, t, rfl, h1, h2, h3, fun j u hu => hmin.2 _ hm t h1 j u (List.getElem?_eq_some_iff.1 hu).1 hu⟩

/-- After i questions. -/
def Fair (n most : Nat) (cs : Nat → Nat) (i : Nat) : Prop := (∀ j, j < n → cs j ≤ most) ∧ (∀ a b, a < n → b < n → cs a ≤ cs b + 1) ∧ sumTo cs n = i

theorem sumTo_le {cs : Nat → Nat} {n m : Nat} (h : ∀ j, j < n → cs j ≤ m) : sumTo cs n ≤ n * m := by
  induction n with
  | zero => simp [sumTo]
  | succ n ih => have := ih fun j hj => h j (by omega); have := h n (by omega); rw [sumTo, Nat.succ_mul]; omega
theorem sumTo_ge {cs : Nat → Nat} {n m : Nat} (h : ∀ j, j < n → m ≤ cs j) : n * m ≤ sumTo cs n := by
  induction n with
  | zero => simp
  | succ n ih => have := ih fun j hj => h j (by omega); have := h n (by omega); rw [sumTo, Nat.succ_mul]; omega
theorem sumTo_lt {cs : Nat → Nat} {n m k : Nat} (h : ∀ j, j < n → cs j ≤ m) (hk : k < n) (hc : cs k < m) : sumTo cs n < n * m := by
  induction n with
  | zero => omega
  | succ n ih =>
    rw [sumTo, Nat.succ_mul]
    have h1 := h n (by omega)
    by_cases hkn : k = n
    · subst hkn; have := sumTo_le (cs := cs) (n := k) (m := m) fun j hj => h j (by omega); omega
    · have := ih (fun j hj => h j (by omega)) (by omega); omega
theorem sumTo_upd_ge (cs : Nat → Nat) {n k : Nat} (h : n ≤ k) : sumTo (upd cs k) n = sumTo cs n := by
  induction n with
  | zero => rfl
  | succ n ih => rw [sumTo, sumTo, ih (by omega), upd, if_neg (by omega)]
theorem sumTo_upd (cs : Nat → Nat) {n k : Nat} (h : k < n) : sumTo (upd cs k) n = sumTo cs n + 1 := by
  induction n with
  | zero => omega
  | succ n ih =>
    rw [sumTo, sumTo]
    by_cases hkn : k = n
    · subst hkn; rw [sumTo_upd_ge _ (Nat.le_refl _), upd, if_pos rfl]; omega
    · rw [ih (by omega), upd, if_neg (by omega)]; omega

theorem fair_find {n : Nat} (hn : n ≤ 256) (cs : Nat → Nat) {k : Nat} (hk : k < n) (i : Nat) (hi : i ≤ n) : findT (fair n cs) [UInt8.ofNat k] i = if k < i then some k else none := by
  induction i with
  | zero => rw [if_neg (by omega)]; rfl
  | succ i ih =>
    have ih := ih (by omega)
    rw [findT]
    by_cases h : k < i
    · rw [ih, if_pos h, if_pos (by omega)]
    · rw [ih, if_neg h]
      simp only
      rw [fair_at cs (show i < n by omega)]
      simp only
      by_cases hki : k = i
      · subst hki; rw [if_pos rfl, if_pos (by omega)]
      · rw [if_neg ?_, if_neg (by omega)]
        intro he
        injection he with he
        have := congrArg UInt8.toNat he
        simp only [UInt8.toNat_ofNat'] at this
        omega

theorem fair_note {n : Nat} (hn : n ≤ 256) (cs : Nat → Nat) {k : Nat} (hk : k < n) (hc : cs k < 1000) : noteP (fair n cs) [UInt8.ofNat k] false = fair n (upd cs k) := by
  have hf : findT (fair n cs) [UInt8.ofNat k] (fair n cs).length = some k := by rw [fair_length, fair_find hn cs hk n (Nat.le_refl _), if_pos hk]
  rw [noteP_some hf (fair_at cs hk)]
  refine fair_ext _ (by rw [List.length_set, fair_length]) fun j hj => ?_
  by_cases hjk : j = k
  · subst hjk
    rw [List.getElem?_set_self (by rw [fair_length]; exact hj), noteT, upd, if_pos rfl]
    simp only
    rw [if_pos (by omega)]
    simp
  · rw [List.getElem?_set_ne (Ne.symm hjk), fair_at cs hj, upd, if_neg hjk]

/-- One question more. -/
theorem fair_step {n most i : Nat} {cs : Nat → Nat} (h : Fair n most cs i) (hn : n ≤ 9) (hm : most ≤ 5) (draw : Int) :
    (nextP (fair n cs) (most : Int) draw = -1 ∧ n * most ≤ i) ∨
    ∃ k, k < n ∧ nextP (fair n cs) (most : Int) draw = (k : Int) ∧ i < n * most ∧ noteP (fair n cs) [UInt8.ofNat k] false = fair n (upd cs k) ∧ Fair n most (upd cs k) (i + 1) := by
  obtain ⟨h1, h2, h3⟩ := h
  rcases nextP_min (fair n cs) most draw with ⟨hv, hall⟩ | ⟨k, t, hv, htk, _, hlt, hmin⟩
  · refine .inl ⟨hv, ?_⟩
    rw [← h3]
    refine sumTo_ge fun j hj => ?_
    rcases hall j _ (fair_at cs hj) with h | h
    · cases h
    · simp only at h; omega
  · have hk : k < n := by have := (List.getElem?_eq_some_iff.1 htk).1; rw [fair_length] at this; exact this
    rw [fair_at cs hk] at htk
    cases htk
    simp only at hlt hmin
    have hmin' : ∀ j, j < n → cs k ≤ cs j := fun j hj => by
      rcases hmin j _ (fair_at cs hj) with h | h | h
      · cases h
      · simp only at h; omega
      · simp only at h; omega
    refine .inr ⟨k, hk, hv, by rw [← h3]; exact sumTo_lt h1 hk (by omega), fair_note (by omega) cs hk (by omega), fun j hj => ?_, fun a b ha hb => ?_, by rw [sumTo_upd cs hk, h3]⟩
    · unfold upd
      have := h1 j hj
      by_cases hjk : j = k
      · subst hjk; rw [if_pos rfl]; omega
      · rw [if_neg hjk]; omega
    · unfold upd
      have := h2 a b ha hb
      have := hmin' a ha
      have := hmin' b hb
      by_cases ha' : a = k <;> by_cases hb' : b = k <;> simp only [ha', hb', if_true, if_false] <;> (try subst ha') <;> (try subst hb') <;> omega
end Go.Proofs.Ytnhjfdgdjfndiaa
