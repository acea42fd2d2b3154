/- Parts of a proof, joined: RowLaws, LtEn. -/
import Derived.Test.YtimkdpkhdbiniaaSDM02
import Derived.Test.YtimkdpkhdbiniaaSDF08
import Derived.Test.YtimkdpkhdbiniaaSDF15
import Derived.Test.YtimkdpkhdbiniaaSDF16
/- A struct that is loaded, stored, handed back as a whole. No program in it. -/
namespace Go.Proofs.Ytimkdpkhdbiniaa
open Go.RowKit

/-- A struct type of n cells. -/
def RowT (P : Program) (T : TypeId) (n : Nat) : Prop := ∃ fs, P.underlying T = some (.struct fs) ∧ (P.info? T).map (·.size) = some n
section
variable {P : Program} {T : TypeId} {n : Nat} {w : World} {ops : Array Oper} {rest : List Oper} {o : Oper} {a : Act} {Q : Exit → Act → World → Prop}
theorem wpL_loadR (hT : RowT P T n) (hgd : Region.wanted o (yielded ops a.tmps) = true) (x : Operand) (ho : o.op = .load T x) (g : Nat) (hx : a.eval x = .pointer (some ⟨g, 0, none⟩)) (cs : Array Value) {t : TypeId} (hg : w.heap[g]? = some (.cells cs t (0, 0))) (hn : cs.size = n)
    (h : wpList P ops Q rest (a.put o.dst (.agg cs)) w) : wpList P ops Q (o :: rest) a w := by
  obtain ⟨fs, hu, hi⟩ := hT
  subst hn
  exact wpList_want hgd fun K hK => wp_load_row T x ho g hx t cs (0, 0) (.struct fs) hg hu rfl hi (hK _ _ h)
theorem wpL_storeR (hT : RowT P T n) (hgd : Region.wanted o (yielded ops a.tmps) = true) (x y : Operand) (ho : o.op = .store T x y) (g : Nat) (hx : a.eval x = .pointer (some ⟨g, 0, none⟩)) (cs : Array Value) (hy : a.eval y = .agg cs) (old : Array Value) {t : TypeId} (hg : w.heap[g]? = some (.cells old t (0, 0))) (hn : cs.size = n) (hold : old.size = n) (h1 : cs.all (·.oneCell') = true)
    (h : ∀ w', w'.heap[g]? = some (.cells cs t (0, 0)) → Chg (fun k => k = g) w w' → wpList P ops Q rest (a.put o.dst undef) w') : wpList P ops Q (o :: rest) a w := by
  obtain ⟨fs, hu, hi⟩ := hT
  subst hn
  exact wpList_want hgd fun K hK => wp_store_row T x y ho g cs hx hy t old hg hi hold h1 (hK _ _ (h _ (setRow_heap w g old cs t (0, 0) hg) ((Chg.refl (fun k => k = g) w).setRow (.inl rfl) cs)))
end
end Go.Proofs.Ytimkdpkhdbiniaa

/- What the bounds of layer 15's statements come to. -/
namespace Go.Proofs.Ytimkdpkhdbiniaa
open Go.RowKit
set_option maxRecDepth 100000
set_option linter.unusedVariables false

/-- What the statement's own bounds leave open. -/
structure SoaLt (x : En) : Prop where
  t : x.f.soa.texts.length ≤ 8796093022208
  b : x.f.soa.bytes.length ≤ 140737488355328
theorem LtEn.ltF {x : En} (h : LtEn x) (hs : SoaLt x) : LtF x.f := by
  have h1 := h.n
  have h2 := h.z
  have h3 := h.l
  have h4 := h.h
  have h5 := h.m
  have h6 := h.s
  have h7 := hs.t
  have h8 := hs.b
  refine ⟨by omega, by omega, by omega, fun d hd => ?_, by omega, by omega, by omega, by omega, by omega⟩
  obtain ⟨a1, a2, a3, a4, a5⟩ := h.r d hd
  exact ⟨by omega, by omega, by omega, by omega, by omega⟩
theorem LtEn.ltE {x : En} (h : LtEn x) (hs : SoaLt x) : LtE x := by
  have h1 := h.n
  have h2 := h.z
  have h3 := h.l
  have h4 := h.h
  have h5 := h.m
  have h6 := h.s
  have h7 := hs.t
  have h8 := hs.b
  have h9 := h.Z
  exact ⟨h.ltF hs, ⟨by omega, by omega, by omega, by omega, by omega, by omega, by omega, by omega⟩, by omega⟩
theorem LtEn.ltO {x : En} (h : LtEn x) (hs : SoaLt x) : LtO x.f := by
  have h1 := h.n
  have h2 := h.z
  have h3 := h.l
  have h4 := h.h
  have h5 := h.m
  have h6 := h.s
  have h7 := hs.t
  have h8 := hs.b
  refine ⟨by omega, by omega, by omega, fun d hd => ?_, by omega, by omega, by omega, by omega, by omega⟩
  obtain ⟨a1, a2, a3, a4, a5⟩ := h.r d hd
  exact ⟨by omega, by omega, by omega, by omega, by omega⟩
end Go.Proofs.Ytimkdpkhdbiniaa
