/- Parts of a proof, joined: OwnF. -/
import Derived.Test.YtimkdpkhdbiniaaZDF01
import Derived.Test.YtimkdpkhdbiniaaZDM04
import Derived.Test.YtimkdpkhdbiniaaZDM03
/- The reference's OwnFact: a fact that shares nothing (printed by gen/ownf.py). -/
namespace Go.Proofs.Ytimkdpkhdbiniaa
open Go.RowKit
set_option maxRecDepth 100000
set_option linter.unusedVariables false

def FS.nil : FS := ⟨none, 0, none, 0, none, 0, DS.nil⟩
def put13 (w : World) (q : Nat) (v0 v1 v2 v3 v4 v5 v6 v7 v8 v9 v10 v11 v12 : Value) : World := ((((((((((((w.setCell ⟨q, 0, none⟩ v0).setCell ⟨q, 1, none⟩ v1).setCell ⟨q, 2, none⟩ v2).setCell ⟨q, 3, none⟩ v3).setCell ⟨q, 4, none⟩ v4).setCell ⟨q, 5, none⟩ v5).setCell ⟨q, 6, none⟩ v6).setCell ⟨q, 7, none⟩ v7).setCell ⟨q, 8, none⟩ v8).setCell ⟨q, 9, none⟩ v9).setCell ⟨q, 10, none⟩ v10).setCell ⟨q, 11, none⟩ v11).setCell ⟨q, 12, none⟩ v12
theorem set13 {w : World} {q : Nat} {t : TypeId} {a0 a1 a2 a3 a4 a5 a6 a7 a8 a9 a10 a11 a12 : Value} (h : w.heap[q]? = some (.cells #[a0, a1, a2, a3, a4, a5, a6, a7, a8, a9, a10, a11, a12] t (0, 0))) (v0 v1 v2 v3 v4 v5 v6 v7 v8 v9 v10 v11 v12 : Value) : (put13 w q v0 v1 v2 v3 v4 v5 v6 v7 v8 v9 v10 v11 v12).heap[q]? = some (.cells #[v0, v1, v2, v3, v4, v5, v6, v7, v8, v9, v10, v11, v12] t (0, 0)) := by
  unfold put13
  have h0 : (w.setCell ⟨q, 0, none⟩ v0).heap[q]? = some (.cells #[v0, a1, a2, a3, a4, a5, a6, a7, a8, a9, a10, a11, a12] t (0, 0)) := heap_setCell_same _ _ 0 _ _ v0 h
  have h1 : ((w.setCell ⟨q, 0, none⟩ v0).setCell ⟨q, 1, none⟩ v1).heap[q]? = some (.cells #[v0, v1, a2, a3, a4, a5, a6, a7, a8, a9, a10, a11, a12] t (0, 0)) := heap_setCell_same _ _ 1 _ _ v1 h0
  have h2 : (((w.setCell ⟨q, 0, none⟩ v0).setCell ⟨q, 1, none⟩ v1).setCell ⟨q, 2, none⟩ v2).heap[q]? = some (.cells #[v0, v1, v2, a3, a4, a5, a6, a7, a8, a9, a10, a11, a12] t (0, 0)) := heap_setCell_same _ _ 2 _ _ v2 h1
  have h3 : ((((w.setCell ⟨q, 0, none⟩ v0).setCell ⟨q, 1, none⟩ v1).setCell ⟨q, 2, none⟩ v2).setCell ⟨q, 3, none⟩ v3).heap[q]? = some (.cells #[v0, v1, v2, v3, a4, a5, a6, a7, a8, a9, a10, a11, a12] t (0, 0)) := heap_setCell_same _ _ 3 _ _ v3 h2
  have h4 : (((((w.setCell ⟨q, 0, none⟩ v0).setCell ⟨q, 1, none⟩ v1).setCell ⟨q, 2, none⟩ v2).setCell ⟨q, 3, none⟩ v3).setCell ⟨q, 4, none⟩ v4).heap[q]? = some (.cells #[v0, v1, v2, v3, v4, a5, a6, a7, a8, a9, a10, a11, a12] t (0, 0)) := heap_setCell_same _ _ 4 _ _ v4 h3
  have h5 : ((((((w.setCell ⟨q, 0, none⟩ v0).setCell ⟨q, 1, none⟩ v1).setCell ⟨q, 2, none⟩ v2).setCell ⟨q, 3, none⟩ v3).setCell ⟨q, 4, none⟩ v4).setCell ⟨q, 5, none⟩ v5).heap[q]? = some (.cells #[v0, v1, v2, v3, v4, v5, a6, a7, a8, a9, a10, a11, a12] t (0, 0)) := heap_setCell_same _ _ 5 _ _ v5 h4
  have h6 : (((((((w.setCell ⟨q, 0, none⟩ v0).setCell ⟨q, 1, none⟩ v1).setCell ⟨q, 2, none⟩ v2).setCell ⟨q, 3, none⟩ v3).setCell ⟨q, 4, none⟩ v4).setCell ⟨q, 5, none⟩ v5).setCell ⟨q, 6, none⟩ v6).heap[q]? = some (.cells #[v0, v1, v2, v3, v4, v5, v6, a7, a8, a9, a10, a11, a12] t (0, 0)) := heap_setCell_same _ _ 6 _ _ v6 h5
  have h7 : ((((((((w.setCell ⟨q, 0, none⟩ v0).setCell ⟨q, 1, none⟩ v1).setCell ⟨q, 2, none⟩ v2).setCell ⟨q, 3, none⟩ v3).setCell ⟨q, 4, none⟩ v4).setCell ⟨q, 5, none⟩ v5).setCell ⟨q, 6, none⟩ v6).setCell ⟨q, 7, none⟩ v7).heap[q]? = some (.cells #[v0, v1, v2, v3, v4, v5, v6, v7, a8, a9, a10, a11, a12] t (0, 0)) := heap_setCell_same _ _ 7 _ _ v7 h6
  have h8 : (((((((((w.setCell ⟨q, 0, none⟩ v0).setCell ⟨q, 1, none⟩ v1).setCell ⟨q, 2, none⟩ v2).setCell ⟨q, 3, none⟩ v3).setCell ⟨q, 4, none⟩ v4).setCell ⟨q, 5, none⟩ v5).setCell ⟨q, 6, none⟩ v6).setCell ⟨q, 7, none⟩ v7).setCell ⟨q, 8, none⟩ v8).heap[q]? = some (.cells #[v0, v1, v2, v3, v4, v5, v6, v7, v8, a9, a10, a11, a12] t (0, 0)) := heap_setCell_same _ _ 8 _ _ v8 h7
  have h9 : ((((((((((w.setCell ⟨q, 0, none⟩ v0).setCell ⟨q, 1, none⟩ v1).setCell ⟨q, 2, none⟩ v2).setCell ⟨q, 3, none⟩ v3).setCell ⟨q, 4, none⟩ v4).setCell ⟨q, 5, none⟩ v5).setCell ⟨q, 6, none⟩ v6).setCell ⟨q, 7, none⟩ v7).setCell ⟨q, 8, none⟩ v8).setCell ⟨q, 9, none⟩ v9).heap[q]? = some (.cells #[v0, v1, v2, v3, v4, v5, v6, v7, v8, v9, a10, a11, a12] t (0, 0)) := heap_setCell_same _ _ 9 _ _ v9 h8
  have h10 : (((((((((((w.setCell ⟨q, 0, none⟩ v0).setCell ⟨q, 1, none⟩ v1).setCell ⟨q, 2, none⟩ v2).setCell ⟨q, 3, none⟩ v3).setCell ⟨q, 4, none⟩ v4).setCell ⟨q, 5, none⟩ v5).setCell ⟨q, 6, none⟩ v6).setCell ⟨q, 7, none⟩ v7).setCell ⟨q, 8, none⟩ v8).setCell ⟨q, 9, none⟩ v9).setCell ⟨q, 10, none⟩ v10).heap[q]? = some (.cells #[v0, v1, v2, v3, v4, v5, v6, v7, v8, v9, v10, a11, a12] t (0, 0)) := heap_setCell_same _ _ 10 _ _ v10 h9
  have h11 : ((((((((((((w.setCell ⟨q, 0, none⟩ v0).setCell ⟨q, 1, none⟩ v1).setCell ⟨q, 2, none⟩ v2).setCell ⟨q, 3, none⟩ v3).setCell ⟨q, 4, none⟩ v4).setCell ⟨q, 5, none⟩ v5).setCell ⟨q, 6, none⟩ v6).setCell ⟨q, 7, none⟩ v7).setCell ⟨q, 8, none⟩ v8).setCell ⟨q, 9, none⟩ v9).setCell ⟨q, 10, none⟩ v10).setCell ⟨q, 11, none⟩ v11).heap[q]? = some (.cells #[v0, v1, v2, v3, v4, v5, v6, v7, v8, v9, v10, v11, a12] t (0, 0)) := heap_setCell_same _ _ 11 _ _ v11 h10
  have h12 : (((((((((((((w.setCell ⟨q, 0, none⟩ v0).setCell ⟨q, 1, none⟩ v1).setCell ⟨q, 2, none⟩ v2).setCell ⟨q, 3, none⟩ v3).setCell ⟨q, 4, none⟩ v4).setCell ⟨q, 5, none⟩ v5).setCell ⟨q, 6, none⟩ v6).setCell ⟨q, 7, none⟩ v7).setCell ⟨q, 8, none⟩ v8).setCell ⟨q, 9, none⟩ v9).setCell ⟨q, 10, none⟩ v10).setCell ⟨q, 11, none⟩ v11).setCell ⟨q, 12, none⟩ v12).heap[q]? = some (.cells #[v0, v1, v2, v3, v4, v5, v6, v7, v8, v9, v10, v11, v12] t (0, 0)) := heap_setCell_same _ _ 12 _ _ v12 h11
  exact h12
theorem FaRow.put {w : World} {q : Nat} {s : FS} {f : Fa} (h : FaRow w q s f) (j : Nat) (v : Value) (s' : FS) (f' : Fa) (e : (faCells s f).setIfInBounds j v = faCells s' f') : FaRow (w.setCell ⟨q, j, none⟩ v) q s' f' := by
  unfold FaRow
  rw [← e]
  exact heap_setCell_same _ _ _ _ _ _ h
theorem FaRow.fill {w : World} {q : Nat} {s0 : FS} {f0 : Fa} (h : FaRow w q s0 f0) (s : FS) (f : Fa) : FaRow (put13 w q (.slice s.A f.name.length s.ac) (.int .i64 f.type) (.int .i64 f.kind) (.int .i64 f.rank) (.int .i64 f.got) (.int .i64 f.ttl) (.slice s.S f.set.length s.sc) (.slice s.Z f.zone.length s.zc) (.slice s.d.A0 f.soa.bytes.length s.d.c0) (.slice s.d.A1 f.soa.host.length s.d.c1) (.slice s.d.A2 f.soa.mail.length s.d.c2) (.slice s.d.A3 f.soa.nums.length s.d.c3) (.slice s.d.A4 f.soa.texts.length s.d.c4)) q s f := set13 h _ _ _ _ _ _ _ _ _ _ _ _ _
/-- Where OwnFact stands: its two boxes, and what was ahead of them. -/
structure OwF (w u : World) (q : Nat) (s : FS) (f : Fa) : Prop where
  Q : FaRow u q s f
  P : FaRow u (q + 1) FS.nil Fa.zero
  B : Below q w u
  z : q + 2 ≤ u.heap.size
  e : w.heap.size = q
theorem OwF.below {w u u' : World} {q : Nat} {s : FS} {f : Fa} (h : OwF w u q s f) (hb : Below u.heap.size u u') : OwF w u' q s f :=
  ⟨h.Q.below hb, h.P.below hb, h.B.trans (hb.mono (by have := h.z; omega)), Nat.le_trans h.z hb.size, h.e⟩
theorem OwF.put {w u : World} {q : Nat} {s : FS} {f : Fa} (h : OwF w u q s f) (j : Nat) (v : Value) (s' : FS) (e : (faCells s f).setIfInBounds j v = faCells s' f) : OwF w (u.setCell ⟨q, j, none⟩ v) q s' f :=
  ⟨h.Q.put j v s' f e, (chg_g1 u q j v).heap h.P (by omega), h.B.trans ((chg_g1 u q j v).below (fun x hx => by omega) (by have := h.z; omega)), Nat.le_trans h.z (chg_g1 u q j v).size, h.e⟩
theorem DIn.ge {B : Nat} {u u' : World} {s : DS} {d : Da} {F : Nat → Prop} (h : DIn (geS B u) u s d) (hc : Chg F u u') (hF : ∀ k, B ≤ k → k < u.heap.size → ¬ F k) : DIn (geS B u') u' s d :=
  (h.keep (fun b hb => hc.block b hb.2 (hF b hb.1 hb.2))).mono (fun b hb => ⟨hb.1, Nat.lt_of_lt_of_le hb.2 hc.size⟩)
theorem DIn.put {u : World} {q j : Nat} {v : Value} {s : DS} {d : Da} (h : DIn (geS (q + 2) u) u s d) : DIn (geS (q + 2) (u.setCell ⟨q, j, none⟩ v)) (u.setCell ⟨q, j, none⟩ v) s d := h.ge (chg_g1 u q j v) (fun k h1 _ e => by omega)
end Go.Proofs.Ytimkdpkhdbiniaa
