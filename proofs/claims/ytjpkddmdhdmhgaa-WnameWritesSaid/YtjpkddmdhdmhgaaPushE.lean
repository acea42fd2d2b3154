/- append(s, y), as a step of a region that draws its order. -/
import Derived.Test.YtjpkddmdhdmhgaaEncLaws
namespace Go.Proofs.Ytjpkddmdhdmhgaa
open Go.RowKit

theorem step_pushE {α : Type} {P : Program} {T e : TypeId} {E : Enc α} {bytes : Nat} {w : World} (ht : ElT P T e E bytes) {ops : Array Oper} {o : Oper} {a : Act} {K : Act → World → Prop} {Q : Exit → Act → World → Prop} {X : Prop} (hgd : Region.wanted o (yielded ops a.tmps) = true) (s x : Operand)
    (ho : o.op = .call { callee := .builtin .append, args := #[s, x], argTypes := #[T, T] })
    (base : Nat) (v : Value) (xs : List α) {S : Nat → Prop} (hs : a.eval s = v) (hown : OwnE E e S w base v xs) (r : List Value) (y : α) {S' : Nat → Prop} (hr : E.R S' w r y) (hS' : ∀ b, S' b → b < w.heap.size ∧ some b ≠ v.ownBlock)
    {g : Nat} (hx : a.eval x = .slice (some ⟨g, 0, none⟩) 1 1) (hb : (xs.length + 1) * bytes ≤ 140737488355328) (hl : xs.length + 1 ≤ maxLen) (hbase : base ≤ w.heap.size)
    (h : ∀ v' w', OwnE E e (orS S S') w' base v' (xs ++ [y]) → w.grownBy w' v.ownBlock → (v'.ownBlock = v.ownBlock ∨ v'.ownBlock = some (w.heap.size + 1)) → K (a.put o.dst v') w') (hgs : g = w.heap.size) :
    if Region.wanted o (yielded ops a.tmps) = true then Oper.wp P o a (w.alloc (.cells r.toArray e)) K Q else X := by
  rw [if_pos hgd]
  subst hgs
  obtain ⟨hT, i, z, hi, hz, hsz, hby, hzc⟩ := ht
  have hlt := hown.lt
  obtain ⟨cells, hw, hread, hS⟩ := hown
  have hrl := E.len hr
  refine wp_append_any (P := P) s x _ ho base e i z E.size bytes hT hi hz hsz hby hzc E.pos v xs.length _ hs (hw.alloc _) _ 1 1 r hx ⟨by rw [hrl, Nat.one_mul], fun _ => ⟨w.heap.size, 0, rfl, fun j u hu => ?_⟩⟩ (E.one hr) hl (by simpa using hb) (by simp; omega) fun v' w' h1 h2 h3 => h v' w' ?_ ((World.grownBy_alloc w _ _).trans h2) (by simpa using h3)
  · have := (World.ownsRow_lit (base := 0) (e := e) (size := E.size) w r.toArray 1 (Nat.zero_le _) (by simp [maxLen]) (by simp [hrl])).cells (g := w.heap.size) rfl j u (by simpa using hu)
    rwa [add_flat] at this
  · have hbl : ∀ b, b < w.heap.size → some b ≠ v.ownBlock → w'.heap[b]? = w.heap[b]? := fun b hb1 hb2 => ((World.grownBy_alloc w _ _).trans h2).block b hb1 hb2
    have hsize : w.heap.size ≤ w'.heap.size := ((World.grownBy_alloc w _ v.ownBlock).trans h2).size
    refine ⟨cells ++ r, by rw [List.length_append]; exact h1, fun j y' hy => ?_, fun b hb' => ?_⟩
    · by_cases hj : j < xs.length
      · rw [List.getElem?_append_left hj] at hy
        rw [chunk hw.1 hy rfl]
        exact E.mono (fun b hb' => .inl hb') (E.keep (fun b hb' => hbl b (hS b hb').1 (hS b hb').2) (hread j y' hy))
      · rw [List.getElem?_append_right (by omega)] at hy
        have hj0 : j = xs.length := by
          have := (List.getElem?_eq_some_iff.1 hy).1
          simp at this
          omega
        subst hj0
        simp at hy
        subst hy
        rw [List.drop_append_of_le_length (by rw [hw.1]; omega), List.drop_of_length_le (by rw [hw.1]; omega), List.nil_append, List.take_of_length_le (by omega)]
        exact E.mono (fun b hb' => .inr hb') (E.keep (fun b hb' => hbl b (hS' b hb').1 (hS' b hb').2) hr)
    · have hb2 : b < w.heap.size ∧ some b ≠ v.ownBlock := hb'.elim (fun h => hS b h) (fun h => hS' b h)
      refine ⟨Nat.lt_of_lt_of_le hb2.1 hsize, ?_⟩
      rcases h3 with h3 | h3
      · rw [h3]; exact hb2.2
      · rw [h3]
        intro hc
        injection hc with hc
        simp at hc
        omega
end Go.Proofs.Ytjpkddmdhdmhgaa
