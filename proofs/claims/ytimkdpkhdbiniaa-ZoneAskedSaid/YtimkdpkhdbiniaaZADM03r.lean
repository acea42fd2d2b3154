/- Parts of a proof, joined: AppE. -/
import Derived.Test.YtimkdpkhdbiniaaZADM03
import Derived.Test.YtimkdpkhdbiniaaZADM02
/- append(s, x...): s a row of the call's own, x whatever elements that read by the Enc. No program in it. -/
namespace Go.Proofs.Ytimkdpkhdbiniaa
open Go.RowKit

section
variable {α : Type} {E : Enc α} {w : World} {So Si : Nat → Prop}
/-- The cells of elements, one behind the other. -/
theorem els_cells {b off : Nat} {ys : List α} (h : ∀ i x, ys[i]? = some x → ∃ r, E.R Si w r x ∧ ∀ j u, r[j]? = some u → w.cell? ⟨b, off + (i * E.size + j), none⟩ = some u) :
    ∃ r : List Value, r.length = ys.length * E.size ∧ (∀ j u, r[j]? = some u → w.cell? ⟨b, off + j, none⟩ = some u) ∧ (∀ i x, ys[i]? = some x → E.R Si w ((r.drop (i * E.size)).take E.size) x) ∧ ∀ u ∈ r, u.oneCell' = true := by
  revert h
  refine snoc_ind (P := fun ys => (∀ i x, ys[i]? = some x → ∃ r, E.R Si w r x ∧ ∀ j u, r[j]? = some u → w.cell? ⟨b, off + (i * E.size + j), none⟩ = some u) → ∃ r : List Value, r.length = ys.length * E.size ∧ (∀ j u, r[j]? = some u → w.cell? ⟨b, off + j, none⟩ = some u) ∧ (∀ i x, ys[i]? = some x → E.R Si w ((r.drop (i * E.size)).take E.size) x) ∧ ∀ u ∈ r, u.oneCell' = true) (fun _ => ⟨[], by simp, fun j u h => by simp at h, fun i x h => by simp at h, fun u h => by simp at h⟩) (fun ys y ih h => ?_) ys
  obtain ⟨r, h1, h2, h3, h4⟩ := ih fun i x hx => h i x (by rw [List.getElem?_append_left (List.getElem?_eq_some_iff.1 hx).1]; exact hx)
  obtain ⟨s, hs, hc⟩ := h ys.length y (by rw [List.getElem?_append_right (Nat.le_refl _), Nat.sub_self]; rfl)
  have hsl := E.len hs
  refine ⟨r ++ s, by rw [List.length_append, List.length_append, List.length_singleton, h1, hsl, Nat.add_mul, Nat.one_mul], fun j u hu => ?_, fun i x hx => ?_, fun u hu => (List.mem_append.1 hu).elim (h4 u) (E.one hs u)⟩
  · by_cases hj : j < r.length
    · rw [List.getElem?_append_left hj] at hu
      exact h2 j u hu
    · rw [List.getElem?_append_right (by omega)] at hu
      have := hc _ u hu
      rw [← h1, show r.length + (j - r.length) = j by omega] at this
      exact this
  · by_cases hi : i < ys.length
    · rw [List.getElem?_append_left hi] at hx
      rw [chunk h1 hx rfl]
      exact h3 i x hx
    · rw [List.getElem?_append_right (by omega)] at hx
      have hi0 : i = ys.length := by
        have := (List.getElem?_eq_some_iff.1 hx).1
        simp at this
        omega
      subst hi0
      rw [Nat.sub_self] at hx
      injection hx with hx
      subst hx
      rw [← h1, List.drop_append_of_le_length (Nat.le_refl _), List.drop_length, List.nil_append, List.take_of_length_le (by omega)]
      exact hs
theorem els_rd {A : Option Addr} {n : Nat} {ys : List α} (h : Els E So Si w A n ys) : ∃ r : List Value, Rd w E.size A n r ∧ (∀ i x, ys[i]? = some x → E.R Si w ((r.drop (i * E.size)).take E.size) x) ∧ ∀ u ∈ r, u.oneCell' = true := by
  by_cases hn : 0 < n
  · obtain ⟨b, off, rfl, _, hx⟩ := h.2 hn
    obtain ⟨r, h1, h2, h3, h4⟩ := els_cells hx
    exact ⟨r, ⟨by rw [h1, h.1], fun _ => ⟨b, off, rfl, h2⟩⟩, h3, h4⟩
  · obtain rfl : n = 0 := by omega
    have : ys = [] := List.eq_nil_of_length_eq_zero h.1
    subst this
    exact ⟨[], Rd.nil _ _ _, fun i x h => by simp at h, fun u h => by simp at h⟩
theorem chunk_r {cells r : List Value} {n i : Nat} (hc : cells.length = n * E.size) :
    ((cells ++ r).drop ((n + i) * E.size)).take E.size = (r.drop (i * E.size)).take E.size := by
  rw [Nat.add_mul, ← hc, List.drop_append, List.drop_of_length_le (by omega), List.nil_append]
  congr 2
  omega
end
/-- append(s, x...), in a drawn region. -/
theorem step_appE {α : Type} {P : Program} {T e : TypeId} {E : Enc α} {bytes : Nat} {w : World} (ht : ElT P T e E bytes) {ops : Array Oper} {o : Oper} {a : Act} {K : Act → World → Prop} {Q : Exit → Act → World → Prop} {X : Prop} (hgd : Region.wanted o (yielded ops a.tmps) = true) (s x : Operand)
    (ho : o.op = .call { callee := .builtin .append, args := #[s, x], argTypes := #[T, T] })
    (base : Nat) (v : Value) (xs : List α) {S : Nat → Prop} (hs : a.eval s = v) (hown : OwnE E e S w base v xs) (A : Option Addr) (n c : Nat) (ys : List α) {So S' : Nat → Prop} (hr : Els E So S' w A n ys) (hS' : ∀ b, S' b → b < w.heap.size ∧ some b ≠ v.ownBlock)
    (hx : a.eval x = .slice A n c) (hb : (xs.length + n) * bytes ≤ 140737488355328) (hl : xs.length + n ≤ maxLen) (hbase : base ≤ w.heap.size)
    (h : ∀ v' w', OwnE E e (orS S S') w' base v' (xs ++ ys) → w.grownBy w' v.ownBlock → (v'.ownBlock = v.ownBlock ∨ v'.ownBlock = some w.heap.size) → K (a.put o.dst v') w') :
    if Region.wanted o (yielded ops a.tmps) = true then Oper.wp P o a w K Q else X := by
  rw [if_pos hgd]
  obtain ⟨hT, i, z, hi, hz, hsz, hby, hzc⟩ := ht
  have hlt := hown.lt
  obtain ⟨cells, hw, hread, hS⟩ := hown
  obtain ⟨r, hrd, hrr, hone⟩ := els_rd hr
  have hyl := hr.len
  refine wp_append_any (P := P) s x _ ho base e i z E.size bytes hT hi hz hsz hby hzc E.pos v xs.length _ hs hw A n c r hx hrd hone hl hb hbase fun v' w' h1 h2 h3 => h v' w' ?_ h2 h3
  have hbl : ∀ b, b < w.heap.size → some b ≠ v.ownBlock → w'.heap[b]? = w.heap[b]? := fun b hb1 hb2 => h2.block b hb1 hb2
  refine ⟨cells ++ r, by rw [List.length_append, hyl]; exact h1, fun j y' hy => ?_, fun b hb' => ?_⟩
  · by_cases hj : j < xs.length
    · rw [List.getElem?_append_left hj] at hy
      rw [chunk hw.1 hy rfl]
      exact E.mono (fun b hb' => .inl hb') (E.keep (fun b hb' => hbl b (hS b hb').1 (hS b hb').2) (hread j y' hy))
    · rw [List.getElem?_append_right (by omega)] at hy
      have hy2 := hy
      have he : j = xs.length + (j - xs.length) := by omega
      rw [he, chunk_r hw.1]
      exact E.mono (fun b hb' => .inr hb') (E.keep (fun b hb' => hbl b (hS' b hb').1 (hS' b hb').2) (hrr _ y' hy2))
  · have hb2 : b < w.heap.size ∧ some b ≠ v.ownBlock := hb'.elim (fun h => hS b h) (fun h => hS' b h)
    refine ⟨Nat.lt_of_lt_of_le hb2.1 h2.size, ?_⟩
    rcases h3 with h3 | h3
    · rw [h3]; exact hb2.2
    · rw [h3]
      intro hc
      injection hc with hc
      omega
/-- A row of no elements. -/
theorem ownE_lit0 {α : Type} {E : Enc α} {e : TypeId} {w : World} {S : Nat → Prop} {base : Nat} (hS : ∀ b, S b → b < w.heap.size) (hb : base ≤ w.heap.size) : OwnE E e S (w.alloc (.cells #[] e)) base (.slice (some ⟨w.heap.size, 0, none⟩) 0 0) [] :=
  ⟨[], World.ownsRow_lit (e := e) (size := E.size) w #[] 0 hb (by simp) (by simp), fun i x h => by simp at h, fun b h => ⟨by have := hS b h; simp; omega, fun he => by have h1 := hS b h; injection he with he; rw [he] at h1; exact Nat.lt_irrefl _ h1⟩⟩
end Go.Proofs.Ytimkdpkhdbiniaa
