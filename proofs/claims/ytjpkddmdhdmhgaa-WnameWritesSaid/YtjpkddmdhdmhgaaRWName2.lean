/- The reference's writer: Name. -/
import Derived.Test.YtjpkddmdhdmhgaaRWName
import Derived.Test.YtjpkddmdhdmhgaaPushE
import Derived.Test.YtjpkddmdhdmhgaaWtr3
namespace Go.Proofs.Ytjpkddmdhdmhgaa
open Go.RowKit
set_option maxRecDepth 100000

theorem step_cloneS {w : World} {So Si : Nat → Prop} {ops : Array Oper} {o : Oper} {a : Act} {K : Act → World → Prop} {Q : Exit → Act → World → Prop} {X : Prop} (hgd : Region.wanted o (yielded ops a.tmps) = true) (s x : Operand)
    (ho : o.op = .call { callee := .builtin .append, args := #[s, x], argTypes := #[79, 79] })
    {g : Nat} (hs : a.eval s = .slice (some ⟨g, 0, none⟩) 0 0) (A : Option Addr) (n c : Nat) (ns : List (List UInt8)) (hx : a.eval x = .slice A n c) (hr : Els encS So Si w A n ns) (hn : n ≤ 8796093022208)
    (h : ∀ v' w', OwnS w' w.heap.size v' ns → Below w.heap.size w w' → K (a.put o.dst v') w') (hgs : g = w.heap.size) : if Region.wanted o (yielded ops a.tmps) = true then Oper.wp Try.prog o a (w.alloc (.cells #[] 9)) K Q else X := by
  rw [if_pos hgd]
  subst hgs
  obtain ⟨hT, i, z, hi, hz, hsz, hby, hzc⟩ := elS
  have hl := hr.len
  subst hl
  have hone : ∀ u ∈ ns.map strV, u.oneCell' = true := fun u hu => by
    obtain ⟨y, _, rfl⟩ := List.mem_map.1 hu
    rfl
  have hown0 : (w.alloc (.cells #[] 9)).ownsRow w.heap.size 9 1 (.slice (some ⟨w.heap.size, 0, none⟩) 0 0) 0 [] := World.ownsRow_lit (e := 9) (size := 1) w #[] 0 (Nat.le_refl _) (by simp) rfl
  refine wp_append_any (P := Try.prog) s x _ ho w.heap.size 9 i z 1 16 hT hi hz hsz hby hzc (by decide) _ 0 [] hs hown0 A ns.length c (ns.map strV) hx ((strs_rd hr).below (bl.alloc (Nat.le_refl _) _)) hone (by unfold maxLen; omega) (by omega) (by simp) fun v' w' h1 h2 h3 => (h v' w' ?_ ?_)
  · rw [Nat.zero_add, List.nil_append] at h1
    refine ⟨ns.map strV, h1, fun j y hy => ?_, fun b hb => hb.elim⟩
    obtain ⟨_, _, _, _, _, hm⟩ := strs_at hr hy
    have hjl : j < ns.length := (List.getElem?_eq_some_iff.1 hy).1
    have e : List.take encS.size (List.drop (j * encS.size) (ns.map strV)) = [strV y] := by
      show List.take 1 (List.drop (j * 1) (ns.map strV)) = _
      rw [Nat.mul_one, List.drop_eq_getElem_cons (by rw [List.length_map]; exact hjl), List.take_succ_cons, List.take_zero, List.getElem_map]
      rw [List.getElem?_eq_getElem hjl] at hy
      injection hy with hy
      rw [hy]
    rw [e]
    exact ⟨rfl, hm⟩
  · exact (bl.alloc (Nat.le_refl _) _).grown h2 (by simp) (fun k hk => by simp [Value.ownBlock] at hk; omega)

/-- A row of rests has one more. -/
theorem RWtr.noted {w w4 w5 : World} {B g : Nat} {F S S' : Nat → Prop} {x : RW} {bv rv v5 : Value} {y : Nat × List (List UInt8)} (hg : w.heap[g]? = some (.cells #[bv, rv] 78 (0, 0))) (hbv : OwnB w B bv x.b) (hgF : F g ∧ B ≤ g) (hbF : ∀ k, bv.ownBlock = some k → F k ∧ k ≠ g)
    (hrF : ∀ k, rv.ownBlock = some k → F k ∧ k ≠ g ∧ bv.ownBlock ≠ some k) (hSF : ∀ k, S k → F k ∧ k ≠ g ∧ bv.ownBlock ≠ some k) (hF : ∀ k, F k → B ≤ k ∧ k < w.heap.size) (hb4 : Below w.heap.size w w4) (hown5 : OwnE encRest 131 (orS S S') w5 B v5 (x.rests ++ [y]))
    (hg5 : w4.grownBy w5 rv.ownBlock) (hv5 : v5.ownBlock = rv.ownBlock ∨ v5.ownBlock = some (w4.heap.size + 1)) (hS' : ∀ b, S' b → w.heap.size ≤ b ∧ b < w4.heap.size) :
    RWtr (w5.setCell ⟨g, 1, none⟩ v5) B (fun k => F k ∨ (w.heap.size ≤ k ∧ k < w5.heap.size)) g { x with rests := x.rests ++ [y] } ∧ Chg F w (w5.setCell ⟨g, 1, none⟩ v5) := by
  have hgl := (hF g hgF.1).2
  have hc5 : Chg (fun b => rv.ownBlock = some b) w w5 := (Chg.of_below hb4).grown hg5 (fun k hk => .inl hk)
  have hgw := hc5.heap hg (fun e => (hrF g e).2.1 rfl)
  have hcg : Chg (fun k => k = g) w5 (w5.setCell ⟨g, 1, none⟩ v5) := (Chg.refl (fun k => k = g) w5).setCell (p := ⟨g, 1, none⟩) (Or.inl rfl) v5
  have hz4 := hb4.size
  have hz5 := hg5.size
  have hv : ∀ k, v5.ownBlock = some k → (F k ∨ (w.heap.size ≤ k ∧ k < w5.heap.size)) ∧ k ≠ g ∧ bv.ownBlock ≠ some k := fun k hk => by
    have hl := (hown5.lt k hk).2
    rcases hv5 with e | e
    · rw [e] at hk
      exact ⟨.inl (hrF k hk).1, (hrF k hk).2⟩
    · rw [e] at hk
      injection hk with hk
      exact ⟨.inr ⟨by omega, hl⟩, by omega, fun e => by have := (hF k (hbF k e).1).2; omega⟩
  have hS : ∀ k, orS S S' k → (F k ∨ (w.heap.size ≤ k ∧ k < w5.heap.size)) ∧ k ≠ g ∧ bv.ownBlock ≠ some k := fun k hk => by
    rcases hk with hk | hk
    · exact ⟨.inl (hSF k hk).1, (hSF k hk).2⟩
    · have h1 := hS' k hk
      exact ⟨.inr ⟨h1.1, by omega⟩, by omega, fun e => by have := (hF k (hbF k e).1).2; omega⟩
  refine ⟨⟨bv, v5, orS S S', (heap_setCell_same _ _ _ _ _ _ hgw).trans rfl, (hbv.chgv hc5 (fun k hk e => (hrF k e).2.2 hk)).chgv hcg (fun k hk e => (hbF k hk).2 e), hown5.chg hcg (fun k hk e => (hv k hk).2.1 e) (fun k hk e => (hS k hk).2.1 e), ⟨.inl hgF.1, hgF.2⟩, fun k hk => ⟨.inl (hbF k hk).1, (hbF k hk).2⟩, hv, hS, fun k hk => ?_⟩, ?_⟩
  · have hz : (w5.setCell ⟨g, 1, none⟩ v5).heap.size = w5.heap.size := by simp
    rw [hz]
    rcases hk with hk | hk
    · exact ⟨(hF k hk).1, by have := (hF k hk).2; omega⟩
    · exact ⟨by omega, hk.2⟩
  · exact (hc5.mono (G := F) (fun k hk => .inl (hrF k hk).1)).setCell (p := ⟨g, 1, none⟩) (Or.inl hgF.1) _
end Go.Proofs.Ytjpkddmdhdmhgaa
