/- append onto a row of the call's own whose elements read by an Enc. No program in it. -/
import Derived.Test.YtbjaphldncagjaaEnc
namespace Go.Proofs.Ytbjaphldncagjaa
open Go.RowKit

/-- T is the type of slices of e; an e is so many bytes, and has the Enc's cells. -/
def ElT {α : Type} (P : Program) (T e : TypeId) (E : Enc α) (bytes : Nat) : Prop :=
  P.underlying T = some (.slice e) ∧ ∃ i z, P.info? e = some i ∧ i.zero = some z ∧ i.size = E.size ∧ i.bytes = bytes ∧ z.cells.size = E.size

def orS (S S' : Nat → Prop) : Nat → Prop := fun b => S b ∨ S' b

theorem ElT.mk {α : Type} {P : Program} {T e : TypeId} {E : Enc α} {bytes : Nat} (hT : P.underlying T = some (.slice e)) (z : Value) (n : Nat) (h : (P.info? e).map (fun i => (i.zero, i.size, i.bytes)) = some (some z, n, bytes)) (hn : n = E.size) (hz : z.cells.size = E.size) : ElT P T e E bytes := by
  obtain ⟨i, h1, h2, h3, h4⟩ := info_parts h
  exact ⟨hT, i, z, h1, h2, h3.trans hn, h4, hz⟩

section
variable {α : Type} {P : Program} {T e : TypeId} {E : Enc α} {bytes : Nat} {w : World}

theorem chunk {α : Type} {E : Enc α} {cells r : List Value} {n i : Nat} {xs : List α} {x : α} (hc : cells.length = n * E.size) (hx : xs[i]? = some x) (hn : xs.length = n) :
    ((cells ++ r).drop (i * E.size)).take E.size = (cells.drop (i * E.size)).take E.size := by
  have hi : i < n := by rw [← hn]; exact (List.getElem?_eq_some_iff.1 hx).1
  have h1 : (i + 1) * E.size ≤ n * E.size := Nat.mul_le_mul_right _ hi
  rw [Nat.add_mul, Nat.one_mul] at h1
  rw [List.drop_append_of_le_length (by omega), List.take_append_of_le_length (by rw [List.length_drop]; omega)]

/-- append(s, y): one element, its cells lying in a new block. -/
theorem wpL_pushE (ht : ElT P T e E bytes) {ops : Array Oper} {rest : List Oper} {o : Oper} {a : Act} {Q : Exit → Act → World → Prop} (hgd : Region.wanted o (yielded ops a.tmps) = true) (s x : Operand)
    (ho : o.op = .call { callee := .builtin .append, args := #[s, x], argTypes := #[T, T] })
    (base : Nat) (v : Value) (xs : List α) {S : Nat → Prop} (hs : a.eval s = v) (hown : OwnE E e S w base v xs) (r : List Value) (y : α) {S' : Nat → Prop} (hr : E.R S' w r y) (hS' : ∀ b, S' b → b < w.heap.size ∧ some b ≠ v.ownBlock)
    {g : Nat} (hx : a.eval x = .slice (some ⟨g, 0, none⟩) 1 1) (hb : (xs.length + 1) * bytes ≤ 140737488355328) (hl : xs.length + 1 ≤ maxLen) (hbase : base ≤ w.heap.size)
    (h : ∀ v' w', OwnE E e (orS S S') w' base v' (xs ++ [y]) → w.grownBy w' v.ownBlock → (v'.ownBlock = v.ownBlock ∨ v'.ownBlock = some (w.heap.size + 1)) → wpList P ops Q rest (a.put o.dst v') w') (hgs : g = w.heap.size := by simp) :
    wpList P ops Q (o :: rest) a (w.alloc (.cells r.toArray e)) := by
  subst hgs
  obtain ⟨hT, i, z, hi, hz, hsz, hby, hzc⟩ := ht
  have hlt := hown.lt
  obtain ⟨cells, hw, hread, hS⟩ := hown
  have hrl := E.len hr
  refine wpList_want hgd fun K hK => ?_
  refine wp_append_any (P := P) s x _ ho base e i z E.size bytes hT hi hz hsz hby hzc E.pos v xs.length _ hs (hw.alloc _) _ 1 1 r hx ⟨by rw [hrl, Nat.one_mul], fun _ => ⟨w.heap.size, 0, rfl, fun j u hu => ?_⟩⟩ (E.one hr) hl (by simpa using hb) (by simp; omega) fun v' w' h1 h2 h3 => hK _ _ (h v' w' ?_ ((World.grownBy_alloc w _ _).trans h2) (by simpa using h3))
  · have := (World.ownsRow_lit (base := 0) (e := e) (size := E.size) w r.toArray 1 (Nat.zero_le _) (by simp [maxLen]) (by simp [hrl])).cells (g := w.heap.size) rfl j u (by simpa using hu)
    rwa [add_flat] at this
  · have hbl : ∀ b, b < w.heap.size → some b ≠ v.ownBlock → w'.heap[b]? = w.heap[b]? := fun b hb1 hb2 => ((World.grownBy_alloc w _ _).trans h2).block b hb1 hb2
    have hsize : w.heap.size ≤ w'.heap.size := ((World.grownBy_alloc w _ v.ownBlock).trans h2).size
    refine ⟨cells ++ r, by rw [List.length_append]; exact h1, fun j y' hy => ?_, fun b hb' => ?_⟩
    · by_cases hj : j < xs.length
      · rw [List.getElem?_append_left hj] at hy
        rw [chunk hw.1 hy rfl]
        exact E.mono (fun b hb' => .inl hb') (E.keep (fun b hb' => hbl b (hS b hb').1 (hS b hb').2) (hread j y' hy))
      · rw [List.getElem?_append_right (by omega)] at hy
        have hj0 : j = xs.length := by
          have := (List.getElem?_eq_some_iff.1 hy).1
          simp at this
          omega
        subst hj0
        simp at hy
        subst hy
        rw [List.drop_append_of_le_length (by rw [hw.1]; omega), List.drop_of_length_le (by rw [hw.1]; omega), List.nil_append, List.take_of_length_le (by omega)]
        exact E.mono (fun b hb' => .inr hb') (E.keep (fun b hb' => hbl b (hS' b hb').1 (hS' b hb').2) hr)
    · have hb2 : b < w.heap.size ∧ some b ≠ v.ownBlock := hb'.elim (fun h => hS b h) (fun h => hS' b h)
      refine ⟨Nat.lt_of_lt_of_le hb2.1 hsize, ?_⟩
      rcases h3 with h3 | h3
      · rw [h3]; exact hb2.2
      · rw [h3]
        intro hc
        injection hc with hc
        simp at hc
        omega
end

section
variable {α : Type} {E : Enc α} {e : TypeId} {S : Nat → Prop} {w : World} {base g n c : Nat} {xs : List α}
/-- An owned row that is not empty lies at the head of its block; its cells. -/
theorem OwnE.flat {v : Value} (h : OwnE E e S w base v xs) (hn : 0 < xs.length) : ∃ g c, v = .slice (some ⟨g, 0, none⟩) xs.length c ∧ base ≤ g ∧ g < w.heap.size ∧ xs.length ≤ c ∧ c ≤ maxLen ∧ (∀ b, S b → b ≠ g) ∧
    ∀ i x, xs[i]? = some x → ∃ r, E.R S w r x ∧ ∀ j u, r[j]? = some u → w.cell? ⟨g, i * E.size + j, none⟩ = some u := by
  have hl := h.lt
  obtain ⟨cells, hw, hr, hS⟩ := h
  rcases hw.2 with ⟨rfl, h0⟩ | ⟨g, cap, cur, rfl, h2, h3, h4, h5, h6, h7⟩
  · omega
  · refine ⟨g, cap, rfl, h2, (hl g rfl).2, h4, h5, fun b hb e => (hS b hb).2 (by rw [e]; rfl), fun i x hx => ⟨_, hr i x hx, fun j u hu => ?_⟩⟩
    have hc := hw.cells (g := g) rfl (i * E.size + j) u (by
      rw [List.getElem?_take] at hu
      split at hu
      · rwa [List.getElem?_drop] at hu
      · cases hu)
    rw [add_flat] at hc
    simpa using hc
theorem OwnE.free (h : OwnE E e S w base (.slice (some ⟨g, 0, none⟩) n c) xs) (k : Nat) : w.frozen? ⟨g, k, none⟩ = false := by
  obtain ⟨cells, hw, _⟩ := h
  rcases hw.2 with ⟨h', _⟩ | ⟨g', cap, cur, h1, h2, h3, _⟩
  · cases h'
  · injection h1 with h1 _ _
    injection h1 with h1
    injection h1 with h1 _
    subst h1
    exact frozen_of_row w g k cur e h3
/-- A store into one cell of an element. -/
theorem OwnE.store (h : OwnE E e S w base (.slice (some ⟨g, 0, none⟩) n c) xs) {i j : Nat} {x y : α} {u : Value} (hx : xs[i]? = some x) (hj : j < E.size)
    (hR : ∀ r, E.R S (w.setCell ⟨g, i * E.size + j, none⟩ u) r x → E.R S (w.setCell ⟨g, i * E.size + j, none⟩ u) (r.set j u) y) :
    OwnE E e S (w.setCell ⟨g, i * E.size + j, none⟩ u) base (.slice (some ⟨g, 0, none⟩) n c) (xs.set i y) := by
  have hil : i < xs.length := (List.getElem?_eq_some_iff.1 hx).1
  obtain ⟨cells, hw, hr, hS⟩ := h
  have hne : ∀ b, S b → b ≠ g := fun b hb e => (hS b hb).2 (by rw [e]; rfl)
  have hnl : n = xs.length := by
    rcases hw.2 with ⟨h', _⟩ | ⟨g', cap, cur, h1, _⟩
    · cases h'
    · injection h1
  subst hnl
  have hst := (World.ownsRow.stored hw (i * E.size + j) u).1
  refine ⟨cells.set (i * E.size + j) u, by rw [List.length_set]; exact hst, fun i' x' hx' => ?_, fun b hb => by simpa using hS b hb⟩
  have hkeep : ∀ (r : List Value) (z : α), E.R S w r z → E.R S (w.setCell ⟨g, i * E.size + j, none⟩ u) r z := fun r z hz => E.keep (fun b hb => Below.heap_setCell w _ u b (hne b hb)) hz
  have hpos := E.pos
  by_cases e1 : i' = i
  · subst e1
    rw [List.getElem?_set_self hil] at hx'
    injection hx' with hx'
    subst hx'
    have h2 := hR _ (hkeep _ _ (hr i' x hx))
    have hset : ((cells.set (i' * E.size + j) u).drop (i' * E.size)).take E.size = ((cells.drop (i' * E.size)).take E.size).set j u := by
      rw [List.drop_set]
      rw [if_neg (by omega), show i' * E.size + j - i' * E.size = j by omega, List.take_set]
    rw [hset]
    exact h2
  · rw [List.getElem?_set_ne (by omega)] at hx'
    have hset : ((cells.set (i * E.size + j) u).drop (i' * E.size)).take E.size = (cells.drop (i' * E.size)).take E.size := by
      rw [List.drop_set]
      split
      · rfl
      · rename_i hge
        rw [List.take_set_of_le]
        have h3 : i' * E.size ≤ i * E.size + j := by omega
        rcases Nat.lt_or_ge i i' with h4 | h4
        · have h5 : (i + 1) * E.size ≤ i' * E.size := Nat.mul_le_mul_right _ h4
          rw [Nat.add_mul, Nat.one_mul] at h5
          omega
        · have h5 : (i' + 1) * E.size ≤ i * E.size := Nat.mul_le_mul_right _ (by omega)
          rw [Nat.add_mul, Nat.one_mul] at h5
          omega
    rw [hset]
    exact hkeep _ _ (hr i' x' hx')
end
end Go.Proofs.Ytbjaphldncagjaa
