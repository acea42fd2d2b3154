/- append([]string{}, s...). -/
import Derived.Test.YtjpkddmdhdmhgaaWtr2
namespace Go.Proofs.Ytjpkddmdhdmhgaa
open Go.RowKit

def strV (l : List UInt8) : Value := .string (bstr l)
theorem strs_rd {So Si : Nat → Prop} {w : World} {A : Option Addr} {n : Nat} {ns : List (List UInt8)} (h : Els encS So Si w A n ns) : Rd w 1 A n (ns.map strV) := by
  have hl := h.len
  refine ⟨by rw [List.length_map, hl, Nat.mul_one], fun hn => ?_⟩
  rw [List.length_map] at hn
  obtain ⟨l, hx⟩ : ∃ l, ns[0]? = some l := ⟨_, List.getElem?_eq_getElem hn⟩
  obtain ⟨b, off, rfl, _⟩ := strs_at h hx
  refine ⟨b, off, rfl, fun j u hu => ?_⟩
  rw [List.getElem?_map] at hu
  obtain ⟨y, hy, rfl⟩ := Option.map_eq_some_iff.1 hu
  obtain ⟨b', off', e, _, hc, _⟩ := strs_at h hy
  injection e with e
  injection e with e1 e2
  subst e1 e2
  exact hc
set_option maxRecDepth 100000 in
theorem wpL_cloneS {w : World} {So Si : Nat → Prop} {ops : Array Oper} {rest : List Oper} {o : Oper} {a : Act} {Q : Exit → Act → World → Prop} (hgd : Region.wanted o (yielded ops a.tmps) = true) (s x : Operand)
    (ho : o.op = .call { callee := .builtin .append, args := #[s, x], argTypes := #[79, 79] })
    {g : Nat} (hs : a.eval s = .slice (some ⟨g, 0, none⟩) 0 0) (A : Option Addr) (n c : Nat) (ns : List (List UInt8)) (hx : a.eval x = .slice A n c) (hr : Els encS So Si w A n ns) (hn : n ≤ 8796093022208)
    (h : ∀ v' w', OwnS w' w.heap.size v' ns → Below w.heap.size w w' → wpList Try.prog ops Q rest (a.put o.dst v') w') (hgs : g = w.heap.size := by simp) : wpList Try.prog ops Q (o :: rest) a (w.alloc (.cells #[] 9)) := by
  subst hgs
  obtain ⟨hT, i, z, hi, hz, hsz, hby, hzc⟩ := elS
  have hl := hr.len
  subst hl
  have hone : ∀ u ∈ ns.map strV, u.oneCell' = true := fun u hu => by
    obtain ⟨y, _, rfl⟩ := List.mem_map.1 hu
    rfl
  have hown0 : (w.alloc (.cells #[] 9)).ownsRow w.heap.size 9 1 (.slice (some ⟨w.heap.size, 0, none⟩) 0 0) 0 [] := World.ownsRow_lit (e := 9) (size := 1) w #[] 0 (Nat.le_refl _) (by simp) rfl
  refine wpList_want hgd fun K hK => ?_
  refine wp_append_any (P := Try.prog) s x _ ho w.heap.size 9 i z 1 16 hT hi hz hsz hby hzc (by decide) _ 0 [] hs hown0 A ns.length c (ns.map strV) hx ((strs_rd hr).below (bl.alloc (Nat.le_refl _) _)) hone (by unfold maxLen; omega) (by omega) (by simp) fun v' w' h1 h2 h3 => hK _ _ (h v' w' ?_ ?_)
  · rw [Nat.zero_add, List.nil_append] at h1
    refine ⟨ns.map strV, h1, fun j y hy => ?_, fun b hb => hb.elim⟩
    obtain ⟨_, _, _, _, _, hm⟩ := strs_at hr hy
    have hjl : j < ns.length := (List.getElem?_eq_some_iff.1 hy).1
    have e : List.take encS.size (List.drop (j * encS.size) (ns.map strV)) = [strV y] := by
      show List.take 1 (List.drop (j * 1) (ns.map strV)) = _
      rw [Nat.mul_one, List.drop_eq_getElem_cons (by rw [List.length_map]; exact hjl), List.take_succ_cons, List.take_zero, List.getElem_map]
      rw [List.getElem?_eq_getElem hjl] at hy
      injection hy with hy
      rw [hy]
    rw [e]
    exact ⟨rfl, hm⟩
  · exact (bl.alloc (Nat.le_refl _) _).grown h2 (by simp) (fun k hk => by simp [Value.ownBlock] at hk; omega)
end Go.Proofs.Ytjpkddmdhdmhgaa
