/- Parts of a proof, joined: RowLaws. -/
import Derived.Test.YtimkdpkhdbiniaaZADM02
/- A struct that is loaded, stored, handed back as a whole. No program in it. -/
namespace Go.Proofs.Ytimkdpkhdbiniaa
open Go.RowKit

/-- A struct type of n cells. -/
def RowT (P : Program) (T : TypeId) (n : Nat) : Prop := ∃ fs, P.underlying T = some (.struct fs) ∧ (P.info? T).map (·.size) = some n
section
variable {P : Program} {T : TypeId} {n : Nat} {w : World} {ops : Array Oper} {rest : List Oper} {o : Oper} {a : Act} {Q : Exit → Act → World → Prop}
theorem wpL_loadR (hT : RowT P T n) (hgd : Region.wanted o (yielded ops a.tmps) = true) (x : Operand) (ho : o.op = .load T x) (g : Nat) (hx : a.eval x = .pointer (some ⟨g, 0, none⟩)) (cs : Array Value) {t : TypeId} (hg : w.heap[g]? = some (.cells cs t (0, 0))) (hn : cs.size = n)
    (h : wpList P ops Q rest (a.put o.dst (.agg cs)) w) : wpList P ops Q (o :: rest) a w := by
  obtain ⟨fs, hu, hi⟩ := hT
  subst hn
  exact wpList_want hgd fun K hK => wp_load_row T x ho g hx t cs (0, 0) (.struct fs) hg hu rfl hi (hK _ _ h)
theorem wpL_storeR (hT : RowT P T n) (hgd : Region.wanted o (yielded ops a.tmps) = true) (x y : Operand) (ho : o.op = .store T x y) (g : Nat) (hx : a.eval x = .pointer (some ⟨g, 0, none⟩)) (cs : Array Value) (hy : a.eval y = .agg cs) (old : Array Value) {t : TypeId} (hg : w.heap[g]? = some (.cells old t (0, 0))) (hn : cs.size = n) (hold : old.size = n) (h1 : cs.all (·.oneCell') = true)
    (h : ∀ w', w'.heap[g]? = some (.cells cs t (0, 0)) → Chg (fun k => k = g) w w' → wpList P ops Q rest (a.put o.dst undef) w') : wpList P ops Q (o :: rest) a w := by
  obtain ⟨fs, hu, hi⟩ := hT
  subst hn
  exact wpList_want hgd fun K hK => wp_store_row T x y ho g cs hx hy t old hg hi hold h1 (hK _ _ (h _ (setRow_heap w g old cs t (0, 0) hg) ((Chg.refl (fun k => k = g) w).setRow (.inl rfl) cs)))
theorem res_row {fn : Func} {p : Tmp} (hT : RowT P T n) (h : fn.results = #[.cell p T]) (tmps : Array Value) (w : World) (g : Nat) {t : TypeId} (cs : Array Value) (hn : cs.size = n) (hp : tmps.getD p undef = .pointer (some ⟨g, 0, none⟩)) (hg : w.heap[g]? = some (.cells cs t (0, 0))) :
    (results fn tmps).run P w = .ok (.agg cs) w := by
  obtain ⟨fs, hu, hi⟩ := hT
  subst hn
  exact results_cell_row h tmps w g t cs (0, 0) (.struct fs) hp hg hu rfl hi
end
end Go.Proofs.Ytimkdpkhdbiniaa
