/- Slices of strings of the call's own, over this seat's type numbers. -/
import Derived.Test.YtjpkddmdhdmhgaaChecked
import Derived.Test.YtjpkddmdhdmhgaaEncLaws
namespace Go.Proofs.Ytjpkddmdhdmhgaa
open Go.RowKit

theorem elS : ElT Try.prog 79 9 encS 16 := ElT.mk Try.underlying79 (.string ByteArray.empty) 1 (by kernel_rfl) rfl rfl

/-- A slice of strings of the call's own. -/
def OwnS (w : World) (base : Nat) (v : Value) (l : List (List UInt8)) : Prop := OwnE encS 9 noS w base v l
theorem OwnS.nil (w : World) (base : Nat) : OwnS w base (.slice none 0 0) [] := OwnE.nil _ _ _ _

/-- append(s, x): one string. -/
theorem wpL_pushS {w : World} {ops : Array Oper} {rest : List Oper} {o : Oper} {a : Act} {Q : Exit → Act → World → Prop} (hgd : Region.wanted o (yielded ops a.tmps) = true) (s x : Operand)
    (ho : o.op = .call { callee := .builtin .append, args := #[s, x], argTypes := #[79, 79] })
    (base : Nat) (v : Value) (xs : List (List UInt8)) (hs : a.eval s = v) (hown : OwnS w base v xs) (y : List UInt8) (hy : y.length ≤ maxLen)
    {g : Nat} (hx : a.eval x = .slice (some ⟨g, 0, none⟩) 1 1) (hb : xs.length + 1 ≤ 8796093022208) (hbase : base ≤ w.heap.size)
    (h : ∀ v' w', OwnS w' base v' (xs ++ [y]) → w.grownBy w' v.ownBlock → (v'.ownBlock = v.ownBlock ∨ v'.ownBlock = some (w.heap.size + 1)) → wpList Try.prog ops Q rest (a.put o.dst v') w') (hgs : g = w.heap.size := by simp) :
    wpList Try.prog ops Q (o :: rest) a (w.alloc (.cells #[.string (bstr y)] 9)) := by
  refine wpL_pushE (S' := noS) elS hgd s x ho base v xs hs hown [.string (bstr y)] y ⟨rfl, hy⟩ (fun b hb => hb.elim) hx (by omega) (by unfold maxLen; omega) hbase (fun v' w' h1 h2 h3 => h v' w' ?_ h2 h3) hgs
  obtain ⟨cells, h4, h5, _⟩ := h1
  exact ⟨cells, h4, fun i x hx => E_noS (h5 i x hx), fun b hb => hb.elim⟩
where
  E_noS {S : Nat → Prop} {w : World} {r : List Value} {x : List UInt8} (h : encS.R S w r x) : encS.R noS w r x := h
end Go.Proofs.Ytjpkddmdhdmhgaa
