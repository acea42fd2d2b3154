/- Parts of a proof, joined: OwnF, OwnE. -/
import Derived.Test.YtimkdpkhdbiniaaSDF01
import Derived.Test.YtimkdpkhdbiniaaSDM04
import Derived.Test.YtimkdpkhdbiniaaSDM03
import Derived.Test.YtimkdpkhdbiniaaSDF08
/- The reference's OwnFact: a fact that shares nothing (printed by gen/ownf.py). -/
namespace Go.Proofs.Ytimkdpkhdbiniaa
open Go.RowKit
set_option maxRecDepth 100000
set_option linter.unusedVariables false

def FS.nil : FS := ⟨none, 0, none, 0, none, 0, DS.nil⟩
def put13 (w : World) (q : Nat) (v0 v1 v2 v3 v4 v5 v6 v7 v8 v9 v10 v11 v12 : Value) : World := ((((((((((((w.setCell ⟨q, 0, none⟩ v0).setCell ⟨q, 1, none⟩ v1).setCell ⟨q, 2, none⟩ v2).setCell ⟨q, 3, none⟩ v3).setCell ⟨q, 4, none⟩ v4).setCell ⟨q, 5, none⟩ v5).setCell ⟨q, 6, none⟩ v6).setCell ⟨q, 7, none⟩ v7).setCell ⟨q, 8, none⟩ v8).setCell ⟨q, 9, none⟩ v9).setCell ⟨q, 10, none⟩ v10).setCell ⟨q, 11, none⟩ v11).setCell ⟨q, 12, none⟩ v12
theorem set13 {w : World} {q : Nat} {t : TypeId} {a0 a1 a2 a3 a4 a5 a6 a7 a8 a9 a10 a11 a12 : Value} (h : w.heap[q]? = some (.cells #[a0, a1, a2, a3, a4, a5, a6, a7, a8, a9, a10, a11, a12] t (0, 0))) (v0 v1 v2 v3 v4 v5 v6 v7 v8 v9 v10 v11 v12 : Value) : (put13 w q v0 v1 v2 v3 v4 v5 v6 v7 v8 v9 v10 v11 v12).heap[q]? = some (.cells #[v0, v1, v2, v3, v4, v5, v6, v7, v8, v9, v10, v11, v12] t (0, 0)) := by
  unfold put13
  have h0 : (w.setCell ⟨q, 0, none⟩ v0).heap[q]? = some (.cells #[v0, a1, a2, a3, a4, a5, a6, a7, a8, a9, a10, a11, a12] t (0, 0)) := heap_setCell_same _ _ 0 _ _ v0 h
  have h1 : ((w.setCell ⟨q, 0, none⟩ v0).setCell ⟨q, 1, none⟩ v1).heap[q]? = some (.cells #[v0, v1, a2, a3, a4, a5, a6, a7, a8, a9, a10, a11, a12] t (0, 0)) := heap_setCell_same _ _ 1 _ _ v1 h0
  have h2 : (((w.setCell ⟨q, 0, none⟩ v0).setCell ⟨q, 1, none⟩ v1).setCell ⟨q, 2, none⟩ v2).heap[q]? = some (.cells #[v0, v1, v2, a3, a4, a5, a6, a7, a8, a9, a10, a11, a12] t (0, 0)) := heap_setCell_same _ _ 2 _ _ v2 h1
  have h3 : ((((w.setCell ⟨q, 0, none⟩ v0).setCell ⟨q, 1, none⟩ v1).setCell ⟨q, 2, none⟩ v2).setCell ⟨q, 3, none⟩ v3).heap[q]? = some (.cells #[v0, v1, v2, v3, a4, a5, a6, a7, a8, a9, a10, a11, a12] t (0, 0)) := heap_setCell_same _ _ 3 _ _ v3 h2
  have h4 : (((((w.setCell ⟨q, 0, none⟩ v0).setCell ⟨q, 1, none⟩ v1).setCell ⟨q, 2, none⟩ v2).setCell ⟨q, 3, none⟩ v3).setCell ⟨q, 4, none⟩ v4).heap[q]? = some (.cells #[v0, v1, v2, v3, v4, a5, a6, a7, a8, a9, a10, a11, a12] t (0, 0)) := heap_setCell_same _ _ 4 _ _ v4 h3
  have h5 : ((((((w.setCell ⟨q, 0, none⟩ v0).setCell ⟨q, 1, none⟩ v1).setCell ⟨q, 2, none⟩ v2).setCell ⟨q, 3, none⟩ v3).setCell ⟨q, 4, none⟩ v4).setCell ⟨q, 5, none⟩ v5).heap[q]? = some (.cells #[v0, v1, v2, v3, v4, v5, a6, a7, a8, a9, a10, a11, a12] t (0, 0)) := heap_setCell_same _ _ 5 _ _ v5 h4
  have h6 : (((((((w.setCell ⟨q, 0, none⟩ v0).setCell ⟨q, 1, none⟩ v1).setCell ⟨q, 2, none⟩ v2).setCell ⟨q, 3, none⟩ v3).setCell ⟨q, 4, none⟩ v4).setCell ⟨q, 5, none⟩ v5).setCell ⟨q, 6, none⟩ v6).heap[q]? = some (.cells #[v0, v1, v2, v3, v4, v5, v6, a7, a8, a9, a10, a11, a12] t (0, 0)) := heap_setCell_same _ _ 6 _ _ v6 h5
  have h7 : ((((((((w.setCell ⟨q, 0, none⟩ v0).setCell ⟨q, 1, none⟩ v1).setCell ⟨q, 2, none⟩ v2).setCell ⟨q, 3, none⟩ v3).setCell ⟨q, 4, none⟩ v4).setCell ⟨q, 5, none⟩ v5).setCell ⟨q, 6, none⟩ v6).setCell ⟨q, 7, none⟩ v7).heap[q]? = some (.cells #[v0, v1, v2, v3, v4, v5, v6, v7, a8, a9, a10, a11, a12] t (0, 0)) := heap_setCell_same _ _ 7 _ _ v7 h6
  have h8 : (((((((((w.setCell ⟨q, 0, none⟩ v0).setCell ⟨q, 1, none⟩ v1).setCell ⟨q, 2, none⟩ v2).setCell ⟨q, 3, none⟩ v3).setCell ⟨q, 4, none⟩ v4).setCell ⟨q, 5, none⟩ v5).setCell ⟨q, 6, none⟩ v6).setCell ⟨q, 7, none⟩ v7).setCell ⟨q, 8, none⟩ v8).heap[q]? = some (.cells #[v0, v1, v2, v3, v4, v5, v6, v7, v8, a9, a10, a11, a12] t (0, 0)) := heap_setCell_same _ _ 8 _ _ v8 h7
  have h9 : ((((((((((w.setCell ⟨q, 0, none⟩ v0).setCell ⟨q, 1, none⟩ v1).setCell ⟨q, 2, none⟩ v2).setCell ⟨q, 3, none⟩ v3).setCell ⟨q, 4, none⟩ v4).setCell ⟨q, 5, none⟩ v5).setCell ⟨q, 6, none⟩ v6).setCell ⟨q, 7, none⟩ v7).setCell ⟨q, 8, none⟩ v8).setCell ⟨q, 9, none⟩ v9).heap[q]? = some (.cells #[v0, v1, v2, v3, v4, v5, v6, v7, v8, v9, a10, a11, a12] t (0, 0)) := heap_setCell_same _ _ 9 _ _ v9 h8
  have h10 : (((((((((((w.setCell ⟨q, 0, none⟩ v0).setCell ⟨q, 1, none⟩ v1).setCell ⟨q, 2, none⟩ v2).setCell ⟨q, 3, none⟩ v3).setCell ⟨q, 4, none⟩ v4).setCell ⟨q, 5, none⟩ v5).setCell ⟨q, 6, none⟩ v6).setCell ⟨q, 7, none⟩ v7).setCell ⟨q, 8, none⟩ v8).setCell ⟨q, 9, none⟩ v9).setCell ⟨q, 10, none⟩ v10).heap[q]? = some (.cells #[v0, v1, v2, v3, v4, v5, v6, v7, v8, v9, v10, a11, a12] t (0, 0)) := heap_setCell_same _ _ 10 _ _ v10 h9
  have h11 : ((((((((((((w.setCell ⟨q, 0, none⟩ v0).setCell ⟨q, 1, none⟩ v1).setCell ⟨q, 2, none⟩ v2).setCell ⟨q, 3, none⟩ v3).setCell ⟨q, 4, none⟩ v4).setCell ⟨q, 5, none⟩ v5).setCell ⟨q, 6, none⟩ v6).setCell ⟨q, 7, none⟩ v7).setCell ⟨q, 8, none⟩ v8).setCell ⟨q, 9, none⟩ v9).setCell ⟨q, 10, none⟩ v10).setCell ⟨q, 11, none⟩ v11).heap[q]? = some (.cells #[v0, v1, v2, v3, v4, v5, v6, v7, v8, v9, v10, v11, a12] t (0, 0)) := heap_setCell_same _ _ 11 _ _ v11 h10
  have h12 : (((((((((((((w.setCell ⟨q, 0, none⟩ v0).setCell ⟨q, 1, none⟩ v1).setCell ⟨q, 2, none⟩ v2).setCell ⟨q, 3, none⟩ v3).setCell ⟨q, 4, none⟩ v4).setCell ⟨q, 5, none⟩ v5).setCell ⟨q, 6, none⟩ v6).setCell ⟨q, 7, none⟩ v7).setCell ⟨q, 8, none⟩ v8).setCell ⟨q, 9, none⟩ v9).setCell ⟨q, 10, none⟩ v10).setCell ⟨q, 11, none⟩ v11).setCell ⟨q, 12, none⟩ v12).heap[q]? = some (.cells #[v0, v1, v2, v3, v4, v5, v6, v7, v8, v9, v10, v11, v12] t (0, 0)) := heap_setCell_same _ _ 12 _ _ v12 h11
  exact h12
theorem chg13 (w : World) (q : Nat) (v0 v1 v2 v3 v4 v5 v6 v7 v8 v9 v10 v11 v12 : Value) : Chg (fun k => k = q) w (put13 w q v0 v1 v2 v3 v4 v5 v6 v7 v8 v9 v10 v11 v12) := by
  unfold put13
  have k : ∀ {u : World} (j : Nat) (v : Value), Chg (fun k => k = q) w u → Chg (fun k => k = q) w (u.setCell ⟨q, j, none⟩ v) := fun j v h => h.setCell (p := ⟨q, j, none⟩) (Or.inl rfl) v
  exact k 12 v12 (k 11 v11 (k 10 v10 (k 9 v9 (k 8 v8 (k 7 v7 (k 6 v6 (k 5 v5 (k 4 v4 (k 3 v3 (k 2 v2 (k 1 v1 (k 0 v0 (Chg.refl _ w)))))))))))))
theorem FaRow.put {w : World} {q : Nat} {s : FS} {f : Fa} (h : FaRow w q s f) (j : Nat) (v : Value) (s' : FS) (f' : Fa) (e : (faCells s f).setIfInBounds j v = faCells s' f') : FaRow (w.setCell ⟨q, j, none⟩ v) q s' f' := by
  unfold FaRow
  rw [← e]
  exact heap_setCell_same _ _ _ _ _ _ h
theorem FaRow.fill {w : World} {q : Nat} {s0 : FS} {f0 : Fa} (h : FaRow w q s0 f0) (s : FS) (f : Fa) : FaRow (put13 w q (.slice s.A f.name.length s.ac) (.int .i64 f.type) (.int .i64 f.kind) (.int .i64 f.rank) (.int .i64 f.got) (.int .i64 f.ttl) (.slice s.S f.set.length s.sc) (.slice s.Z f.zone.length s.zc) (.slice s.d.A0 f.soa.bytes.length s.d.c0) (.slice s.d.A1 f.soa.host.length s.d.c1) (.slice s.d.A2 f.soa.mail.length s.d.c2) (.slice s.d.A3 f.soa.nums.length s.d.c3) (.slice s.d.A4 f.soa.texts.length s.d.c4)) q s f := set13 h _ _ _ _ _ _ _ _ _ _ _ _ _
/-- A fact so small that it can be copied. -/
structure LtO (f : Fa) : Prop where
  n : f.name.length ≤ 8796093022208
  z : f.zone.length ≤ 8796093022208
  l : f.set.length ≤ 1000000
  s : ∀ d ∈ f.set, d.bytes.length ≤ 8796093022208 ∧ d.host.length ≤ 8796093022208 ∧ d.mail.length ≤ 8796093022208 ∧ d.nums.length ≤ 8796093022208 ∧ d.texts.length ≤ 8796093022208
  d : f.soa.bytes.length ≤ 140737488355328 ∧ f.soa.host.length ≤ 8796093022208 ∧ f.soa.mail.length ≤ 8796093022208 ∧ f.soa.nums.length ≤ 8796093022208 ∧ f.soa.texts.length ≤ 8796093022208
/-- Where OwnFact stands: its two boxes, and what was ahead of them. -/
structure OwF (w u : World) (q : Nat) (s : FS) (f : Fa) : Prop where
  Q : FaRow u q s f
  P : FaRow u (q + 1) FS.nil Fa.zero
  B : Below q w u
  z : q + 2 ≤ u.heap.size
  e : w.heap.size = q
theorem OwF.below {w u u' : World} {q : Nat} {s : FS} {f : Fa} (h : OwF w u q s f) (hb : Below u.heap.size u u') : OwF w u' q s f :=
  ⟨h.Q.below hb, h.P.below hb, h.B.trans (hb.mono (by have := h.z; omega)), Nat.le_trans h.z hb.size, h.e⟩
theorem OwF.put {w u : World} {q : Nat} {s : FS} {f : Fa} (h : OwF w u q s f) (j : Nat) (v : Value) (s' : FS) (e : (faCells s f).setIfInBounds j v = faCells s' f) : OwF w (u.setCell ⟨q, j, none⟩ v) q s' f :=
  ⟨h.Q.put j v s' f e, (chg_g1 u q j v).heap h.P (by omega), h.B.trans ((chg_g1 u q j v).below (fun x hx => by omega) (by have := h.z; omega)), Nat.le_trans h.z (chg_g1 u q j v).size, h.e⟩
/-- What lies from q + 2 on stays behind a store into the box. -/
theorem els_put {α : Type} {E : Enc α} {u : World} {q j : Nat} {v : Value} {A : Option Addr} {n : Nat} {xs : List α} (h : Els E (geS (q + 2) u) (geS (q + 2) u) u A n xs) : Els E (geS (q + 2) (u.setCell ⟨q, j, none⟩ v)) (geS (q + 2) (u.setCell ⟨q, j, none⟩ v)) (u.setCell ⟨q, j, none⟩ v) A n xs :=
  els_ge h (chg_g1 u q j v) (fun k h1 _ e => by omega)
theorem DIn.ge {B : Nat} {u u' : World} {s : DS} {d : Da} {F : Nat → Prop} (h : DIn (geS B u) u s d) (hc : Chg F u u') (hF : ∀ k, B ≤ k → k < u.heap.size → ¬ F k) : DIn (geS B u') u' s d :=
  (h.keep (fun b hb => hc.block b hb.2 (hF b hb.1 hb.2))).mono (fun b hb => ⟨hb.1, Nat.lt_of_lt_of_le hb.2 hc.size⟩)
theorem DIn.put {u : World} {q j : Nat} {v : Value} {s : DS} {d : Da} (h : DIn (geS (q + 2) u) u s d) : DIn (geS (q + 2) (u.setCell ⟨q, j, none⟩ v)) (u.setCell ⟨q, j, none⟩ v) s d := h.ge (chg_g1 u q j v) (fun k h1 _ e => by omega)
theorem DIn.geB {B : Nat} {u u' : World} {s : DS} {d : Da} (h : DIn (geS B u) u s d) (hb : Below u.heap.size u u') : DIn (geS B u') u' s d := h.ge (Chg.of_below (F := fun _ => False) hb) (fun _ _ _ h => h)

set_option maxHeartbeats 16000000 in
theorem ownFact_any (s : FS) (f : Fa) (w : World) {S : Nat → Prop} (h : FaIn S w s f) (hS : ∀ b, S b → b < w.heap.size) (hL : LtO f) :
    Calls Try.prog 57 #[faV s f] w (RetP (fun v w' => ∃ s', v = faV s' f ∧ FaIn (geS w.heap.size w') w' s' f) w) := by
  obtain ⟨sA, sac, sS, ssc, sZ, szc, sd⟩ := s
  obtain ⟨q, hq⟩ : ∃ q, q = w.heap.size := ⟨_, rfl⟩
  obtain ⟨w1, hw1⟩ : ∃ w1, w1 = w.alloc (.cells (faCells ⟨sA, sac, sS, ssc, sZ, szc, sd⟩ f) 48) := ⟨_, rfl⟩
  obtain ⟨w2, hw2⟩ : ∃ w2, w2 = w1.alloc (.cells (faCells FS.nil Fa.zero) 48) := ⟨_, rfl⟩
  have hb1 : Below w.heap.size w w1 := by rw [hw1]; exact bl.alloc (Nat.le_refl _) _
  have hb2 : Below w1.heap.size w1 w2 := by rw [hw2]; exact bl.alloc (Nat.le_refl _) _
  have hz1 : w1.heap.size = q + 1 := by rw [hw1, hq]; simp
  have hz2 : w2.heap.size = q + 2 := by rw [hw2]; simp; omega
  have O2 : Hid (OwF w w2 q ⟨sA, sac, sS, ssc, sZ, szc, sd⟩ f) := by
    refine ⟨?_, ?_, ?_, by omega, hq.symm⟩
    · have h1 : FaRow w1 q ⟨sA, sac, sS, ssc, sZ, szc, sd⟩ f := by rw [hw1, hq]; exact FaRow.made w _ f
      exact h1.below hb2
    · rw [hw2, ← hz1]; exact FaRow.made w1 FS.nil Fa.zero
    · rw [hq]; exact nx hb1 hb2
  have HIN : Hid (∀ u, Below q w u → FaIn S u ⟨sA, sac, sS, ssc, sZ, szc, sd⟩ f) := fun u hu => h.below (by rw [hq] at hu; exact hu) hS
  have HS : Hid (∀ b, S b → b < q) := fun b hb => by rw [hq]; exact hS b hb
  have HL := Lib.hid hL
  have HQ := Lib.hid hq
  obtain ⟨n, hn⟩ : ∃ n, n = f.set.length := ⟨_, rfl⟩
  have HN := Lib.hid hn
  have hn1 : n ≤ 1000000 := by rw [hn]; exact hL.l
  have HII : Hid (i64S f.type ∧ i64S f.kind ∧ i64S f.rank ∧ i64S f.got ∧ i64S f.ttl) := ⟨h.it, h.ik, h.ir, h.ig, h.il⟩
  obtain ⟨x0, x1, x2, x3, x4, x5, x6, x7, x8, x9, x10, x11, x12⟩ := O2.out.Q.cells
  unfold faV
  unfold faCells at hw1 hw2 ⊢
  simp only [FS.nil, Fa.zero, DS.nil, Da.zero, List.length_nil] at hw2
  clear h hS hL hb1 hb2 hz1 hz2 hn
  go_enter Try.func57, Try.ntmps57
  go_upto_region 1 with (fail)
  rw [← hw1, ← hw2]
  clear hw1 hw2
  rw [← hq]
  clear hq
  have xa := below_cell (bl.alloc (Nat.le_refl _) (.cells #[] 9)) x0
  go_upto_region 2 with (first
    | ((with_reducible show wpList _ _ _ (⟨some 8, _, _, _, _, _⟩ :: _) _ _); refine wpL_cloneS rfl (.tmp 5) (.tmp 7) rfl rfl sA _ sac f.name rfl (HIN.out w2 O2.out.B).n (by have := HL.out.n; omega) ?_; intro v3 w3 hown3 hb3; obtain ⟨A3, c3, rfl, _, _, _⟩ := OwnE.form hown3; have O3 := Lib.hid (O2.out.below hb3); have e0 := O3.out.Q.cells.1; have f0 := O3.out.Q.free 0; have HE3 := Lib.hid (ownE_els hown3 rfl); clear hown3 hb3)
    | fail)
  clear x0 x1 x2 x3 x4 x5 x6 x7 x8 x9 x10 x11 x12 xa e0 f0
  obtain ⟨u3, hu3⟩ : ∃ u, u = w3.setCell ⟨q, 0, none⟩ (.slice A3 f.name.length c3) := ⟨_, rfl⟩
  have P3 : Hid (OwF w u3 q ⟨A3, c3, sS, ssc, sZ, szc, sd⟩ f) := by show OwF _ _ _ _ _; rw [hu3]; exact O3.out.put 0 _ _ rfl
  have N3 : Hid (Els encS (geS (q + 2) u3) (geS (q + 2) u3) u3 A3 f.name.length f.name ∧ f.name.length ≤ c3 ∧ c3 ≤ maxLen) := by
    refine ⟨?_, HE3.out.2⟩
    rw [hu3]
    exact els_put (els_le HE3.out.1 O2.out.z)
  rw [← hu3]
  clear hu3
  obtain ⟨x0, x1, x2, x3, x4, x5, x6, x7, x8, x9, x10, x11, x12⟩ := P3.out.Q.cells
  have xa := below_cell (bl.alloc (Nat.le_refl _) (.cells #[] 9)) x7
  go_upto_region 3 with (first
    | ((with_reducible show wpList _ _ _ (⟨some 13, _, _, _, _, _⟩ :: _) _ _); refine wpL_cloneS rfl (.tmp 10) (.tmp 12) rfl rfl sZ _ szc f.zone rfl (HIN.out u3 P3.out.B).z (by have := HL.out.z; omega) ?_; intro v4 w4 hown4 hb4; obtain ⟨A4, c4, rfl, _, _, _⟩ := OwnE.form hown4; have O4 := Lib.hid (P3.out.below hb4); have e7 : w4.cell? ⟨q, 7, none⟩ = some (.slice sZ f.zone.length szc) := (O4.out.Q.cell 7).trans rfl; have f7 := O4.out.Q.free 7; have HE4 := Lib.hid (ownE_els hown4 rfl); have N4 := Lib.hid (els_geB N3.out.1 hb4); clear hown4 hb4)
    | fail)
  clear x0 x1 x2 x3 x4 x5 x6 x7 x8 x9 x10 x11 x12 xa e7 f7
  obtain ⟨u4, hu4⟩ : ∃ u, u = w4.setCell ⟨q, 7, none⟩ (.slice A4 f.zone.length c4) := ⟨_, rfl⟩
  have P4 : Hid (OwF w u4 q ⟨A3, c3, sS, ssc, A4, c4, sd⟩ f) := by show OwF _ _ _ _ _; rw [hu4]; exact O4.out.put 7 _ _ rfl
  have NN4 : Hid (Els encS (geS (q + 2) u4) (geS (q + 2) u4) u4 A3 f.name.length f.name) := by show Els _ _ _ _ _ _ _; rw [hu4]; exact els_put N4.out
  have ZZ4 : Hid (Els encS (geS (q + 2) u4) (geS (q + 2) u4) u4 A4 f.zone.length f.zone) := by show Els _ _ _ _ _ _ _; rw [hu4]; exact els_put (els_le HE4.out.1 P3.out.z)
  rw [← hu4]
  clear hu4
  obtain ⟨x0, x1, x2, x3, x4, x5, x6, x7, x8, x9, x10, x11, x12⟩ := P4.out.Q.cells
  go_upto_region 4 with (first
    | (go_at_call 105; refine (ownData_big sd f.soa u4 ((HIN.out u4 P4.out.B).d.rd (fun b hb => by have h1 := HS.out b hb; have h2 := P4.out.z; omega)) HL.out.d).mono ?_; rintro e w5 ⟨v5, rfl, ⟨t5, rfl, ho5⟩, hb5⟩; unfold dsV; have O5 := Lib.hid (P4.out.below hb5); have f8 := O5.out.Q.free 8; have f9 := O5.out.Q.free 9; have f10 := O5.out.Q.free 10; have f11 := O5.out.Q.free 11; have f12 := O5.out.Q.free 12; have NN5 := Lib.hid (els_geB NN4.out hb5); have ZZ5 := Lib.hid (els_geB ZZ4.out hb5); have DD5 : Hid (DIn (geS (q + 2) w5) w5 t5 f.soa) := ho5.din.mono (fun b hb => ⟨Nat.le_trans P4.out.z hb.1, hb.2⟩); obtain ⟨x0, x1, x2, x3, x4, x5, x6, x7, x8, x9, x10, x11, x12⟩ := O5.out.Q.cells; clear ho5 hb5)
    | fail)
  clear x0 x1 x2 x3 x4 x5 x6 x7 x8 x9 x10 x11 x12 f8 f9 f10 f11 f12
  obtain ⟨u5, hu5⟩ : ∃ u, u = ((((w5.setCell ⟨q, 8, none⟩ (.slice t5.A0 f.soa.bytes.length t5.c0)).setCell ⟨q, 9, none⟩ (.slice t5.A1 f.soa.host.length t5.c1)).setCell ⟨q, 10, none⟩ (.slice t5.A2 f.soa.mail.length t5.c2)).setCell ⟨q, 11, none⟩ (.slice t5.A3 f.soa.nums.length t5.c3)).setCell ⟨q, 12, none⟩ (.slice t5.A4 f.soa.texts.length t5.c4) := ⟨_, rfl⟩
  have P5 : Hid (OwF w u5 q ⟨A3, c3, sS, ssc, A4, c4, t5⟩ f) := by
    show OwF _ _ _ _ _
    rw [hu5]
    exact ((((O5.out.put 8 _ ⟨A3, c3, sS, ssc, A4, c4, { sd with A0 := t5.A0, c0 := t5.c0 }⟩ rfl).put 9 _ ⟨A3, c3, sS, ssc, A4, c4, { sd with A0 := t5.A0, c0 := t5.c0, A1 := t5.A1, c1 := t5.c1 }⟩ rfl).put 10 _ ⟨A3, c3, sS, ssc, A4, c4, { sd with A0 := t5.A0, c0 := t5.c0, A1 := t5.A1, c1 := t5.c1, A2 := t5.A2, c2 := t5.c2 }⟩ rfl).put 11 _ ⟨A3, c3, sS, ssc, A4, c4, { sd with A0 := t5.A0, c0 := t5.c0, A1 := t5.A1, c1 := t5.c1, A2 := t5.A2, c2 := t5.c2, A3 := t5.A3, c3 := t5.c3 }⟩ rfl).put 12 _ _ rfl
  have NN6 : Hid (Els encS (geS (q + 2) u5) (geS (q + 2) u5) u5 A3 f.name.length f.name) := by show Els _ _ _ _ _ _ _; rw [hu5]; exact els_put (els_put (els_put (els_put (els_put NN5.out))))
  have ZZ6 : Hid (Els encS (geS (q + 2) u5) (geS (q + 2) u5) u5 A4 f.zone.length f.zone) := by show Els _ _ _ _ _ _ _; rw [hu5]; exact els_put (els_put (els_put (els_put (els_put ZZ5.out))))
  have DD6 : Hid (DIn (geS (q + 2) u5) u5 t5 f.soa) := by show DIn _ _ _ _; rw [hu5]; exact DIn.put (DIn.put (DIn.put (DIn.put (DIn.put DD5.out))))
  rw [← hu5]
  clear hu5
  have HCC : Hid ((f.name.length ≤ c3 ∧ c3 ≤ maxLen) ∧ (f.zone.length ≤ c4 ∧ c4 ≤ maxLen)) := ⟨N3.out.2, HE4.out.2⟩
  clear O2 O3 P3 N3 O4 N4 P4 NN4 ZZ4 O5 NN5 ZZ5 DD5 HE3 HE4
  go_wp2
  go_loopw [3, 4] (fun v i wr => ∃ kx : Nat, i = .int .i64 kx ∧ kx ≤ n ∧ NewE encDa 46 u5.heap.size wr v (f.set.take kx) ∧ Hid (Below u5.heap.size u5 wr)) (fun _ i _ => n - (intOf i).toNat)
  case atStart => exact ⟨0, rfl, Nat.zero_le _, NewE.nil _ _ _ _, bl⟩
  case round =>
    obtain ⟨kx, rfl, hk, ⟨SX, hown, hSX⟩, HBW⟩ := hrel
    have OW := Lib.hid (P5.out.below HBW.out)
    have x6 : wr.cell? ⟨q, 6, none⟩ = some (.slice sS n ssc) := by rw [HN.out]; exact (OW.out.Q.cell 6).trans rfl
    by_cases hlt : kx < n
    · obtain ⟨d, hx⟩ : ∃ d, f.set[kx]? = some d := ⟨_, List.getElem?_eq_getElem (by rw [← HN.out]; exact hlt)⟩
      have HX := Lib.hid hx
      have HLD := Lib.hid (HL.out.s d (List.mem_of_getElem? hx))
      obtain ⟨b, off, t, hA, hbS, hdi, hcc⟩ := da_at (HIN.out wr OW.out.B).l hx
      have hA' : sS = some ⟨b, off, none⟩ := hA
      subst hA'
      obtain ⟨d0, d1, d2, d3, d4⟩ := hcc
      have HWZ : Hid (q ≤ wr.heap.size) := by show _ ≤ _; have := OW.out.z; omega
      have HOD : Hid (Calls Try.prog 105 #[.agg #[.slice t.A0 d.bytes.length t.c0, .slice t.A1 d.host.length t.c1, .slice t.A2 d.mail.length t.c2, .slice t.A3 d.nums.length t.c3, .slice t.A4 d.texts.length t.c4]] wr (RetP (fun v w' => ∃ s', v = dsV s' d ∧ DOwn w' wr.heap.size s' d) wr)) := ownData_any t d wr (hdi.rd (fun b hb => Nat.lt_of_lt_of_le (HS.out b hb) HWZ.out)) HLD.out
      have HOWN := Lib.hid hown
      have HSX := Lib.hid hSX
      have hid1 : (kx : Int) < (n : Int) := by omega
      have hid2 : decide ((kx : Int) < (n : Int)) = true := decide_eq_true hid1
      have HLT := Lib.hid hlt
      have HU5 : Hid (u5.heap.size ≤ wr.heap.size) := HBW.out.size
      clear hx hA hbS hdi hown hSX
      go_wp2_with (first
        | ((with_reducible show wpList _ _ _ (⟨some 34, _, _, _, _, _⟩ :: _) _ _); refine wpL_pushE elDa rfl (.tmp 26) (.tmp 33) rfl u5.heap.size _ (f.set.take kx) rfl HOW6.out [.slice t6.A0 d.bytes.length t6.c0, .slice t6.A1 d.host.length t6.c1, .slice t6.A2 d.mail.length t6.c2, .slice t6.A3 d.nums.length t6.c3, .slice t6.A4 d.texts.length t6.c4] d (S' := geS wr.heap.size w6) ⟨t6, rfl, HD6.out⟩ HSS6.out rfl HB6a.out HB6b.out HB6c.out ?_; intro v7 w7 hown7 hg7 hat7)
        | (go_at_call 105; (with_reducible refine HOD.out.mono ?_); rintro e w6 ⟨v6, rfl, ⟨t6, rfl, ho6⟩, hb6⟩; unfold dsV; have HW6 := Lib.hid hb6; have HD6 : Hid (DIn (geS wr.heap.size w6) w6 t6 d) := ho6.din; have HOW6 := Lib.hid (HOWN.out.below hb6); have HSS6 : Hid (∀ x, geS wr.heap.size w6 x → x < w6.heap.size ∧ some x ≠ Value.ownBlock u3) := (fun x hx => ⟨hx.2, fun he => by have h1 := (HOWN.out.lt x he.symm).2; have h2 := hx.1; omega⟩); have HB6a : Hid (((f.set.take kx).length + 1) * 120 ≤ 140737488355328) := (by have h1 := List.length_take_le kx f.set; have h2 := HLT.out; show _ ≤ _; omega); have HB6b : Hid ((f.set.take kx).length + 1 ≤ maxLen) := (by have h1 := List.length_take_le kx f.set; have h2 := HLT.out; show _ ≤ _; unfold maxLen; omega); have HB6c : Hid (u5.heap.size ≤ w6.heap.size) := Nat.le_trans HU5.out hb6.size; clear ho6 hb6)
        | fail)
      go_roundw
      case rel =>
        refine ⟨kx + 1, by go_num, by have := HLT.out; omega, ⟨_, by rw [List.take_add_one, HX.out]; exact hown7, fun x hx => ?_⟩, ?_⟩
        · rcases hx with hx | hx
          · exact HSX.out x hx
          · have h1 := hx.1; have h2 := HU5.out; omega
        · exact (nx HBW.out HW6.out).grown hg7 HB6c.out (fun j hj => (HOW6.out.lt j hj).1)
      case measure => have := HLT.out; simp [intOf]; omega
    · have hkn : kx = n := by omega
      subst hkn
      have htk : f.set.take kx = f.set := by rw [HN.out, List.take_length]
      rw [htk] at hown
      obtain ⟨A7, c7, hv7, he7, hl7, hm7⟩ := NewE.rd ⟨SX, hown, hSX⟩
      rw [← HN.out] at hv7 he7 hl7
      subst hv7
      have HE7 : Hid (Els encDa (geS (q + 2) wr) (geS (q + 2) wr) wr A7 kx f.set) := els_le he7 P5.out.z
      have HL7 : Hid (f.set.length ≤ c7 ∧ c7 ≤ maxLen) := by rw [HN.out] at hl7; exact ⟨hl7, hm7⟩
      have NN7 := Lib.hid (els_geB NN6.out HBW.out)
      have ZZ7 := Lib.hid (els_geB ZZ6.out HBW.out)
      have DD7 := Lib.hid (DIn.geB DD6.out HBW.out)
      have f6 := OW.out.Q.free 6
      clear hown hSX he7 hl7 hm7 htk
      go_upto_region 10 with (fail)
      obtain ⟨u8, hu8⟩ : ∃ u, u = wr.setCell ⟨q, 6, none⟩ (.slice A7 kx c7) := ⟨_, rfl⟩
      have O8 : Hid (OwF w u8 q ⟨A3, c3, A7, c7, A4, c4, t5⟩ f) := by show OwF _ _ _ _ _; rw [hu8]; exact OW.out.put 6 _ _ (by rw [HN.out]; rfl)
      have NN8 : Hid (Els encS (geS (q + 2) u8) (geS (q + 2) u8) u8 A3 f.name.length f.name) := by show Els _ _ _ _ _ _ _; rw [hu8]; exact els_put NN7.out
      have ZZ8 : Hid (Els encS (geS (q + 2) u8) (geS (q + 2) u8) u8 A4 f.zone.length f.zone) := by show Els _ _ _ _ _ _ _; rw [hu8]; exact els_put ZZ7.out
      have SS8 : Hid (Els encDa (geS (q + 2) u8) (geS (q + 2) u8) u8 A7 kx f.set) := by show Els _ _ _ _ _ _ _; rw [hu8]; exact els_put HE7.out
      have DD8 : Hid (DIn (geS (q + 2) u8) u8 t5 f.soa) := by show DIn _ _ _ _; rw [hu8]; exact DIn.put DD7.out
      rw [← hu8]
      clear hu8 x6 f6 NN7 ZZ7 DD7 HE7
      obtain ⟨x0, x1, x2, x3, x4, x5, x6', x7, x8, x9, x10, x11, x12⟩ := O8.out.Q.cells
      have x6 : u8.cell? ⟨q, 6, none⟩ = some (.slice A7 kx c7) := by rw [HN.out]; exact x6'
      clear x6'
      obtain ⟨p0, p1, p2, p3, p4, p5, p6, p7, p8, p9, p10, p11, p12⟩ := O8.out.P.cells
      simp only [FS.nil, Fa.zero, DS.nil, Da.zero, List.length_nil] at p0 p1 p2 p3 p4 p5 p6 p7 p8 p9 p10 p11 p12
      have g0 := O8.out.P.free 0
      have g1 := O8.out.P.free 1
      have g2 := O8.out.P.free 2
      have g3 := O8.out.P.free 3
      have g4 := O8.out.P.free 4
      have g5 := O8.out.P.free 5
      have g6 := O8.out.P.free 6
      have g7 := O8.out.P.free 7
      have g8 := O8.out.P.free 8
      have g9 := O8.out.P.free 9
      have g10 := O8.out.P.free 10
      have g11 := O8.out.P.free 11
      have g12 := O8.out.P.free 12
      go_wp2
      obtain ⟨ym, hym⟩ : ∃ y, y = put13 u8 (q + 1) (.slice A3 f.name.length c3) (.int .i64 f.type) (.int .i64 f.kind) (.int .i64 f.rank) (.int .i64 f.got) (.int .i64 f.ttl) (.slice A7 kx c7) (.slice A4 f.zone.length c4) (.slice t5.A0 f.soa.bytes.length t5.c0) (.slice t5.A1 f.soa.host.length t5.c1) (.slice t5.A2 f.soa.mail.length t5.c2) (.slice t5.A3 f.soa.nums.length t5.c3) (.slice t5.A4 f.soa.texts.length t5.c4) := ⟨_, rfl⟩
      have hcm : Chg (fun z => z = q + 1) u8 ym := by rw [hym]; exact chg13 _ _ _ _ _ _ _ _ _ _ _ _ _ _ _
      have hRm : FaRow ym (q + 1) ⟨A3, c3, A7, c7, A4, c4, t5⟩ f := by rw [hym, HN.out]; exact O8.out.P.fill ⟨A3, c3, A7, c7, A4, c4, t5⟩ f
      unfold put13 at hym
      rw [← hym]
      clear hym x0 x1 x2 x3 x4 x5 x6 x7 x8 x9 x10 x11 x12 p0 p1 p2 p3 p4 p5 p6 p7 p8 p9 p10 p11 p12
      obtain ⟨x0, x1, x2, x3, x4, x5, x6, x7, x8, x9, x10, x11, x12⟩ := hRm.cells
      have hge := fun {α : Type} {E : Enc α} {A : Option Addr} {k : Nat} {xs : List α} (h : Els E (geS (q + 2) u8) (geS (q + 2) u8) u8 A k xs) => els_le (els_ge h hcm (fun k h1 _ e => by omega)) (Nat.le_add_right q 2)
      refine bodyPost_ret (v := faV ⟨A3, c3, A7, c7, A4, c4, t5⟩ f) ?_ rfl ⟨_, rfl, ⟨_, rfl, ?_⟩, ?_⟩
      · simp [results, Try.results57, go_sem, x0, x1, x2, x3, x4, x5, x6, x7, x8, x9, x10, x11, x12]
        rfl
      · rw [← HQ.out]
        have hss := SS8.out
        rw [HN.out] at hss
        exact ⟨hge NN8.out, hge hss, hge ZZ8.out, (DD8.out.ge hcm (fun k h1 _ e => by omega)).mono (fun b hb => ⟨by have := hb.1; omega, hb.2⟩), HCC.out.1, HL7.out, HCC.out.2, HII.out.1, HII.out.2.1, HII.out.2.2.1, HII.out.2.2.2.1, HII.out.2.2.2.2⟩
      · rw [← HQ.out]
        exact O8.out.B.trans (hcm.below (fun z hz => by omega) (by have := O8.out.z; omega))
end Go.Proofs.Ytimkdpkhdbiniaa

/- gazetteerlaw15.own: an entry that shares nothing (printed by gen/owne.py). -/
namespace Go.Proofs.Ytimkdpkhdbiniaa
open Go.RowKit
set_option maxRecDepth 100000
set_option linter.unusedVariables false

def ES.nil : ES := ⟨FS.nil, none, 0⟩
def En.zero : En := ⟨0, 0, Fa.zero, []⟩
def put16 (w : World) (q : Nat) (v0 v1 v2 v3 v4 v5 v6 v7 v8 v9 v10 v11 v12 v13 v14 v15 : Value) : World := (((((((((((((((w.setCell ⟨q, 0, none⟩ v0).setCell ⟨q, 1, none⟩ v1).setCell ⟨q, 2, none⟩ v2).setCell ⟨q, 3, none⟩ v3).setCell ⟨q, 4, none⟩ v4).setCell ⟨q, 5, none⟩ v5).setCell ⟨q, 6, none⟩ v6).setCell ⟨q, 7, none⟩ v7).setCell ⟨q, 8, none⟩ v8).setCell ⟨q, 9, none⟩ v9).setCell ⟨q, 10, none⟩ v10).setCell ⟨q, 11, none⟩ v11).setCell ⟨q, 12, none⟩ v12).setCell ⟨q, 13, none⟩ v13).setCell ⟨q, 14, none⟩ v14).setCell ⟨q, 15, none⟩ v15
theorem set16 {w : World} {q : Nat} {t : TypeId} {a0 a1 a2 a3 a4 a5 a6 a7 a8 a9 a10 a11 a12 a13 a14 a15 : Value} (h : w.heap[q]? = some (.cells #[a0, a1, a2, a3, a4, a5, a6, a7, a8, a9, a10, a11, a12, a13, a14, a15] t (0, 0))) (v0 v1 v2 v3 v4 v5 v6 v7 v8 v9 v10 v11 v12 v13 v14 v15 : Value) : (put16 w q v0 v1 v2 v3 v4 v5 v6 v7 v8 v9 v10 v11 v12 v13 v14 v15).heap[q]? = some (.cells #[v0, v1, v2, v3, v4, v5, v6, v7, v8, v9, v10, v11, v12, v13, v14, v15] t (0, 0)) := by
  unfold put16
  have h0 : (w.setCell ⟨q, 0, none⟩ v0).heap[q]? = some (.cells #[v0, a1, a2, a3, a4, a5, a6, a7, a8, a9, a10, a11, a12, a13, a14, a15] t (0, 0)) := heap_setCell_same _ _ 0 _ _ v0 h
  have h1 : ((w.setCell ⟨q, 0, none⟩ v0).setCell ⟨q, 1, none⟩ v1).heap[q]? = some (.cells #[v0, v1, a2, a3, a4, a5, a6, a7, a8, a9, a10, a11, a12, a13, a14, a15] t (0, 0)) := heap_setCell_same _ _ 1 _ _ v1 h0
  have h2 : (((w.setCell ⟨q, 0, none⟩ v0).setCell ⟨q, 1, none⟩ v1).setCell ⟨q, 2, none⟩ v2).heap[q]? = some (.cells #[v0, v1, v2, a3, a4, a5, a6, a7, a8, a9, a10, a11, a12, a13, a14, a15] t (0, 0)) := heap_setCell_same _ _ 2 _ _ v2 h1
  have h3 : ((((w.setCell ⟨q, 0, none⟩ v0).setCell ⟨q, 1, none⟩ v1).setCell ⟨q, 2, none⟩ v2).setCell ⟨q, 3, none⟩ v3).heap[q]? = some (.cells #[v0, v1, v2, v3, a4, a5, a6, a7, a8, a9, a10, a11, a12, a13, a14, a15] t (0, 0)) := heap_setCell_same _ _ 3 _ _ v3 h2
  have h4 : (((((w.setCell ⟨q, 0, none⟩ v0).setCell ⟨q, 1, none⟩ v1).setCell ⟨q, 2, none⟩ v2).setCell ⟨q, 3, none⟩ v3).setCell ⟨q, 4, none⟩ v4).heap[q]? = some (.cells #[v0, v1, v2, v3, v4, a5, a6, a7, a8, a9, a10, a11, a12, a13, a14, a15] t (0, 0)) := heap_setCell_same _ _ 4 _ _ v4 h3
  have h5 : ((((((w.setCell ⟨q, 0, none⟩ v0).setCell ⟨q, 1, none⟩ v1).setCell ⟨q, 2, none⟩ v2).setCell ⟨q, 3, none⟩ v3).setCell ⟨q, 4, none⟩ v4).setCell ⟨q, 5, none⟩ v5).heap[q]? = some (.cells #[v0, v1, v2, v3, v4, v5, a6, a7, a8, a9, a10, a11, a12, a13, a14, a15] t (0, 0)) := heap_setCell_same _ _ 5 _ _ v5 h4
  have h6 : (((((((w.setCell ⟨q, 0, none⟩ v0).setCell ⟨q, 1, none⟩ v1).setCell ⟨q, 2, none⟩ v2).setCell ⟨q, 3, none⟩ v3).setCell ⟨q, 4, none⟩ v4).setCell ⟨q, 5, none⟩ v5).setCell ⟨q, 6, none⟩ v6).heap[q]? = some (.cells #[v0, v1, v2, v3, v4, v5, v6, a7, a8, a9, a10, a11, a12, a13, a14, a15] t (0, 0)) := heap_setCell_same _ _ 6 _ _ v6 h5
  have h7 : ((((((((w.setCell ⟨q, 0, none⟩ v0).setCell ⟨q, 1, none⟩ v1).setCell ⟨q, 2, none⟩ v2).setCell ⟨q, 3, none⟩ v3).setCell ⟨q, 4, none⟩ v4).setCell ⟨q, 5, none⟩ v5).setCell ⟨q, 6, none⟩ v6).setCell ⟨q, 7, none⟩ v7).heap[q]? = some (.cells #[v0, v1, v2, v3, v4, v5, v6, v7, a8, a9, a10, a11, a12, a13, a14, a15] t (0, 0)) := heap_setCell_same _ _ 7 _ _ v7 h6
  have h8 : (((((((((w.setCell ⟨q, 0, none⟩ v0).setCell ⟨q, 1, none⟩ v1).setCell ⟨q, 2, none⟩ v2).setCell ⟨q, 3, none⟩ v3).setCell ⟨q, 4, none⟩ v4).setCell ⟨q, 5, none⟩ v5).setCell ⟨q, 6, none⟩ v6).setCell ⟨q, 7, none⟩ v7).setCell ⟨q, 8, none⟩ v8).heap[q]? = some (.cells #[v0, v1, v2, v3, v4, v5, v6, v7, v8, a9, a10, a11, a12, a13, a14, a15] t (0, 0)) := heap_setCell_same _ _ 8 _ _ v8 h7
  have h9 : ((((((((((w.setCell ⟨q, 0, none⟩ v0).setCell ⟨q, 1, none⟩ v1).setCell ⟨q, 2, none⟩ v2).setCell ⟨q, 3, none⟩ v3).setCell ⟨q, 4, none⟩ v4).setCell ⟨q, 5, none⟩ v5).setCell ⟨q, 6, none⟩ v6).setCell ⟨q, 7, none⟩ v7).setCell ⟨q, 8, none⟩ v8).setCell ⟨q, 9, none⟩ v9).heap[q]? = some (.cells #[v0, v1, v2, v3, v4, v5, v6, v7, v8, v9, a10, a11, a12, a13, a14, a15] t (0, 0)) := heap_setCell_same _ _ 9 _ _ v9 h8
  have h10 : (((((((((((w.setCell ⟨q, 0, none⟩ v0).setCell ⟨q, 1, none⟩ v1).setCell ⟨q, 2, none⟩ v2).setCell ⟨q, 3, none⟩ v3).setCell ⟨q, 4, none⟩ v4).setCell ⟨q, 5, none⟩ v5).setCell ⟨q, 6, none⟩ v6).setCell ⟨q, 7, none⟩ v7).setCell ⟨q, 8, none⟩ v8).setCell ⟨q, 9, none⟩ v9).setCell ⟨q, 10, none⟩ v10).heap[q]? = some (.cells #[v0, v1, v2, v3, v4, v5, v6, v7, v8, v9, v10, a11, a12, a13, a14, a15] t (0, 0)) := heap_setCell_same _ _ 10 _ _ v10 h9
  have h11 : ((((((((((((w.setCell ⟨q, 0, none⟩ v0).setCell ⟨q, 1, none⟩ v1).setCell ⟨q, 2, none⟩ v2).setCell ⟨q, 3, none⟩ v3).setCell ⟨q, 4, none⟩ v4).setCell ⟨q, 5, none⟩ v5).setCell ⟨q, 6, none⟩ v6).setCell ⟨q, 7, none⟩ v7).setCell ⟨q, 8, none⟩ v8).setCell ⟨q, 9, none⟩ v9).setCell ⟨q, 10, none⟩ v10).setCell ⟨q, 11, none⟩ v11).heap[q]? = some (.cells #[v0, v1, v2, v3, v4, v5, v6, v7, v8, v9, v10, v11, a12, a13, a14, a15] t (0, 0)) := heap_setCell_same _ _ 11 _ _ v11 h10
  have h12 : (((((((((((((w.setCell ⟨q, 0, none⟩ v0).setCell ⟨q, 1, none⟩ v1).setCell ⟨q, 2, none⟩ v2).setCell ⟨q, 3, none⟩ v3).setCell ⟨q, 4, none⟩ v4).setCell ⟨q, 5, none⟩ v5).setCell ⟨q, 6, none⟩ v6).setCell ⟨q, 7, none⟩ v7).setCell ⟨q, 8, none⟩ v8).setCell ⟨q, 9, none⟩ v9).setCell ⟨q, 10, none⟩ v10).setCell ⟨q, 11, none⟩ v11).setCell ⟨q, 12, none⟩ v12).heap[q]? = some (.cells #[v0, v1, v2, v3, v4, v5, v6, v7, v8, v9, v10, v11, v12, a13, a14, a15] t (0, 0)) := heap_setCell_same _ _ 12 _ _ v12 h11
  have h13 : ((((((((((((((w.setCell ⟨q, 0, none⟩ v0).setCell ⟨q, 1, none⟩ v1).setCell ⟨q, 2, none⟩ v2).setCell ⟨q, 3, none⟩ v3).setCell ⟨q, 4, none⟩ v4).setCell ⟨q, 5, none⟩ v5).setCell ⟨q, 6, none⟩ v6).setCell ⟨q, 7, none⟩ v7).setCell ⟨q, 8, none⟩ v8).setCell ⟨q, 9, none⟩ v9).setCell ⟨q, 10, none⟩ v10).setCell ⟨q, 11, none⟩ v11).setCell ⟨q, 12, none⟩ v12).setCell ⟨q, 13, none⟩ v13).heap[q]? = some (.cells #[v0, v1, v2, v3, v4, v5, v6, v7, v8, v9, v10, v11, v12, v13, a14, a15] t (0, 0)) := heap_setCell_same _ _ 13 _ _ v13 h12
  have h14 : (((((((((((((((w.setCell ⟨q, 0, none⟩ v0).setCell ⟨q, 1, none⟩ v1).setCell ⟨q, 2, none⟩ v2).setCell ⟨q, 3, none⟩ v3).setCell ⟨q, 4, none⟩ v4).setCell ⟨q, 5, none⟩ v5).setCell ⟨q, 6, none⟩ v6).setCell ⟨q, 7, none⟩ v7).setCell ⟨q, 8, none⟩ v8).setCell ⟨q, 9, none⟩ v9).setCell ⟨q, 10, none⟩ v10).setCell ⟨q, 11, none⟩ v11).setCell ⟨q, 12, none⟩ v12).setCell ⟨q, 13, none⟩ v13).setCell ⟨q, 14, none⟩ v14).heap[q]? = some (.cells #[v0, v1, v2, v3, v4, v5, v6, v7, v8, v9, v10, v11, v12, v13, v14, a15] t (0, 0)) := heap_setCell_same _ _ 14 _ _ v14 h13
  have h15 : ((((((((((((((((w.setCell ⟨q, 0, none⟩ v0).setCell ⟨q, 1, none⟩ v1).setCell ⟨q, 2, none⟩ v2).setCell ⟨q, 3, none⟩ v3).setCell ⟨q, 4, none⟩ v4).setCell ⟨q, 5, none⟩ v5).setCell ⟨q, 6, none⟩ v6).setCell ⟨q, 7, none⟩ v7).setCell ⟨q, 8, none⟩ v8).setCell ⟨q, 9, none⟩ v9).setCell ⟨q, 10, none⟩ v10).setCell ⟨q, 11, none⟩ v11).setCell ⟨q, 12, none⟩ v12).setCell ⟨q, 13, none⟩ v13).setCell ⟨q, 14, none⟩ v14).setCell ⟨q, 15, none⟩ v15).heap[q]? = some (.cells #[v0, v1, v2, v3, v4, v5, v6, v7, v8, v9, v10, v11, v12, v13, v14, v15] t (0, 0)) := heap_setCell_same _ _ 15 _ _ v15 h14
  exact h15
theorem chg16 (w : World) (q : Nat) (v0 v1 v2 v3 v4 v5 v6 v7 v8 v9 v10 v11 v12 v13 v14 v15 : Value) : Chg (fun k => k = q) w (put16 w q v0 v1 v2 v3 v4 v5 v6 v7 v8 v9 v10 v11 v12 v13 v14 v15) := by
  unfold put16
  have k : ∀ {u : World} (j : Nat) (v : Value), Chg (fun k => k = q) w u → Chg (fun k => k = q) w (u.setCell ⟨q, j, none⟩ v) := fun j v h => h.setCell (p := ⟨q, j, none⟩) (Or.inl rfl) v
  exact k 15 v15 (k 14 v14 (k 13 v13 (k 12 v12 (k 11 v11 (k 10 v10 (k 9 v9 (k 8 v8 (k 7 v7 (k 6 v6 (k 5 v5 (k 4 v4 (k 3 v3 (k 2 v2 (k 1 v1 (k 0 v0 (Chg.refl _ w))))))))))))))))
def putF (w : World) (q : Nat) (v2 v3 v4 v5 v6 v7 v8 v9 v10 v11 v12 v13 v14 : Value) : World := ((((((((((((w.setCell ⟨q, 2, none⟩ v2).setCell ⟨q, 3, none⟩ v3).setCell ⟨q, 4, none⟩ v4).setCell ⟨q, 5, none⟩ v5).setCell ⟨q, 6, none⟩ v6).setCell ⟨q, 7, none⟩ v7).setCell ⟨q, 8, none⟩ v8).setCell ⟨q, 9, none⟩ v9).setCell ⟨q, 10, none⟩ v10).setCell ⟨q, 11, none⟩ v11).setCell ⟨q, 12, none⟩ v12).setCell ⟨q, 13, none⟩ v13).setCell ⟨q, 14, none⟩ v14
theorem setF {w : World} {q : Nat} {t : TypeId} {a0 a1 a2 a3 a4 a5 a6 a7 a8 a9 a10 a11 a12 a13 a14 a15 : Value} (h : w.heap[q]? = some (.cells #[a0, a1, a2, a3, a4, a5, a6, a7, a8, a9, a10, a11, a12, a13, a14, a15] t (0, 0))) (v2 v3 v4 v5 v6 v7 v8 v9 v10 v11 v12 v13 v14 : Value) : (putF w q v2 v3 v4 v5 v6 v7 v8 v9 v10 v11 v12 v13 v14).heap[q]? = some (.cells #[a0, a1, v2, v3, v4, v5, v6, v7, v8, v9, v10, v11, v12, v13, v14, a15] t (0, 0)) := by
  unfold putF
  have h2 : (w.setCell ⟨q, 2, none⟩ v2).heap[q]? = some (.cells #[a0, a1, v2, a3, a4, a5, a6, a7, a8, a9, a10, a11, a12, a13, a14, a15] t (0, 0)) := heap_setCell_same _ _ 2 _ _ v2 h
  have h3 : ((w.setCell ⟨q, 2, none⟩ v2).setCell ⟨q, 3, none⟩ v3).heap[q]? = some (.cells #[a0, a1, v2, v3, a4, a5, a6, a7, a8, a9, a10, a11, a12, a13, a14, a15] t (0, 0)) := heap_setCell_same _ _ 3 _ _ v3 h2
  have h4 : (((w.setCell ⟨q, 2, none⟩ v2).setCell ⟨q, 3, none⟩ v3).setCell ⟨q, 4, none⟩ v4).heap[q]? = some (.cells #[a0, a1, v2, v3, v4, a5, a6, a7, a8, a9, a10, a11, a12, a13, a14, a15] t (0, 0)) := heap_setCell_same _ _ 4 _ _ v4 h3
  have h5 : ((((w.setCell ⟨q, 2, none⟩ v2).setCell ⟨q, 3, none⟩ v3).setCell ⟨q, 4, none⟩ v4).setCell ⟨q, 5, none⟩ v5).heap[q]? = some (.cells #[a0, a1, v2, v3, v4, v5, a6, a7, a8, a9, a10, a11, a12, a13, a14, a15] t (0, 0)) := heap_setCell_same _ _ 5 _ _ v5 h4
  have h6 : (((((w.setCell ⟨q, 2, none⟩ v2).setCell ⟨q, 3, none⟩ v3).setCell ⟨q, 4, none⟩ v4).setCell ⟨q, 5, none⟩ v5).setCell ⟨q, 6, none⟩ v6).heap[q]? = some (.cells #[a0, a1, v2, v3, v4, v5, v6, a7, a8, a9, a10, a11, a12, a13, a14, a15] t (0, 0)) := heap_setCell_same _ _ 6 _ _ v6 h5
  have h7 : ((((((w.setCell ⟨q, 2, none⟩ v2).setCell ⟨q, 3, none⟩ v3).setCell ⟨q, 4, none⟩ v4).setCell ⟨q, 5, none⟩ v5).setCell ⟨q, 6, none⟩ v6).setCell ⟨q, 7, none⟩ v7).heap[q]? = some (.cells #[a0, a1, v2, v3, v4, v5, v6, v7, a8, a9, a10, a11, a12, a13, a14, a15] t (0, 0)) := heap_setCell_same _ _ 7 _ _ v7 h6
  have h8 : (((((((w.setCell ⟨q, 2, none⟩ v2).setCell ⟨q, 3, none⟩ v3).setCell ⟨q, 4, none⟩ v4).setCell ⟨q, 5, none⟩ v5).setCell ⟨q, 6, none⟩ v6).setCell ⟨q, 7, none⟩ v7).setCell ⟨q, 8, none⟩ v8).heap[q]? = some (.cells #[a0, a1, v2, v3, v4, v5, v6, v7, v8, a9, a10, a11, a12, a13, a14, a15] t (0, 0)) := heap_setCell_same _ _ 8 _ _ v8 h7
  have h9 : ((((((((w.setCell ⟨q, 2, none⟩ v2).setCell ⟨q, 3, none⟩ v3).setCell ⟨q, 4, none⟩ v4).setCell ⟨q, 5, none⟩ v5).setCell ⟨q, 6, none⟩ v6).setCell ⟨q, 7, none⟩ v7).setCell ⟨q, 8, none⟩ v8).setCell ⟨q, 9, none⟩ v9).heap[q]? = some (.cells #[a0, a1, v2, v3, v4, v5, v6, v7, v8, v9, a10, a11, a12, a13, a14, a15] t (0, 0)) := heap_setCell_same _ _ 9 _ _ v9 h8
  have h10 : (((((((((w.setCell ⟨q, 2, none⟩ v2).setCell ⟨q, 3, none⟩ v3).setCell ⟨q, 4, none⟩ v4).setCell ⟨q, 5, none⟩ v5).setCell ⟨q, 6, none⟩ v6).setCell ⟨q, 7, none⟩ v7).setCell ⟨q, 8, none⟩ v8).setCell ⟨q, 9, none⟩ v9).setCell ⟨q, 10, none⟩ v10).heap[q]? = some (.cells #[a0, a1, v2, v3, v4, v5, v6, v7, v8, v9, v10, a11, a12, a13, a14, a15] t (0, 0)) := heap_setCell_same _ _ 10 _ _ v10 h9
  have h11 : ((((((((((w.setCell ⟨q, 2, none⟩ v2).setCell ⟨q, 3, none⟩ v3).setCell ⟨q, 4, none⟩ v4).setCell ⟨q, 5, none⟩ v5).setCell ⟨q, 6, none⟩ v6).setCell ⟨q, 7, none⟩ v7).setCell ⟨q, 8, none⟩ v8).setCell ⟨q, 9, none⟩ v9).setCell ⟨q, 10, none⟩ v10).setCell ⟨q, 11, none⟩ v11).heap[q]? = some (.cells #[a0, a1, v2, v3, v4, v5, v6, v7, v8, v9, v10, v11, a12, a13, a14, a15] t (0, 0)) := heap_setCell_same _ _ 11 _ _ v11 h10
  have h12 : (((((((((((w.setCell ⟨q, 2, none⟩ v2).setCell ⟨q, 3, none⟩ v3).setCell ⟨q, 4, none⟩ v4).setCell ⟨q, 5, none⟩ v5).setCell ⟨q, 6, none⟩ v6).setCell ⟨q, 7, none⟩ v7).setCell ⟨q, 8, none⟩ v8).setCell ⟨q, 9, none⟩ v9).setCell ⟨q, 10, none⟩ v10).setCell ⟨q, 11, none⟩ v11).setCell ⟨q, 12, none⟩ v12).heap[q]? = some (.cells #[a0, a1, v2, v3, v4, v5, v6, v7, v8, v9, v10, v11, v12, a13, a14, a15] t (0, 0)) := heap_setCell_same _ _ 12 _ _ v12 h11
  have h13 : ((((((((((((w.setCell ⟨q, 2, none⟩ v2).setCell ⟨q, 3, none⟩ v3).setCell ⟨q, 4, none⟩ v4).setCell ⟨q, 5, none⟩ v5).setCell ⟨q, 6, none⟩ v6).setCell ⟨q, 7, none⟩ v7).setCell ⟨q, 8, none⟩ v8).setCell ⟨q, 9, none⟩ v9).setCell ⟨q, 10, none⟩ v10).setCell ⟨q, 11, none⟩ v11).setCell ⟨q, 12, none⟩ v12).setCell ⟨q, 13, none⟩ v13).heap[q]? = some (.cells #[a0, a1, v2, v3, v4, v5, v6, v7, v8, v9, v10, v11, v12, v13, a14, a15] t (0, 0)) := heap_setCell_same _ _ 13 _ _ v13 h12
  have h14 : (((((((((((((w.setCell ⟨q, 2, none⟩ v2).setCell ⟨q, 3, none⟩ v3).setCell ⟨q, 4, none⟩ v4).setCell ⟨q, 5, none⟩ v5).setCell ⟨q, 6, none⟩ v6).setCell ⟨q, 7, none⟩ v7).setCell ⟨q, 8, none⟩ v8).setCell ⟨q, 9, none⟩ v9).setCell ⟨q, 10, none⟩ v10).setCell ⟨q, 11, none⟩ v11).setCell ⟨q, 12, none⟩ v12).setCell ⟨q, 13, none⟩ v13).setCell ⟨q, 14, none⟩ v14).heap[q]? = some (.cells #[a0, a1, v2, v3, v4, v5, v6, v7, v8, v9, v10, v11, v12, v13, v14, a15] t (0, 0)) := heap_setCell_same _ _ 14 _ _ v14 h13
  exact h14
theorem chgF (w : World) (q : Nat) (v2 v3 v4 v5 v6 v7 v8 v9 v10 v11 v12 v13 v14 : Value) : Chg (fun k => k = q) w (putF w q v2 v3 v4 v5 v6 v7 v8 v9 v10 v11 v12 v13 v14) := by
  unfold putF
  have k : ∀ {u : World} (j : Nat) (v : Value), Chg (fun k => k = q) w u → Chg (fun k => k = q) w (u.setCell ⟨q, j, none⟩ v) := fun j v h => h.setCell (p := ⟨q, j, none⟩) (Or.inl rfl) v
  exact k 14 v14 (k 13 v13 (k 12 v12 (k 11 v11 (k 10 v10 (k 9 v9 (k 8 v8 (k 7 v7 (k 6 v6 (k 5 v5 (k 4 v4 (k 3 v3 (k 2 v2 (Chg.refl _ w)))))))))))))
theorem EnRow.fill {w : World} {q : Nat} {s0 : ES} {x0 : En} (h : EnRow w q s0 x0) (s : ES) (x : En) : EnRow (put16 w q (.int .i64 x.kind) (.int .i64 x.time) (.slice s.f.A x.f.name.length s.f.ac) (.int .i64 x.f.type) (.int .i64 x.f.kind) (.int .i64 x.f.rank) (.int .i64 x.f.got) (.int .i64 x.f.ttl) (.slice s.f.S x.f.set.length s.f.sc) (.slice s.f.Z x.f.zone.length s.f.zc) (.slice s.f.d.A0 x.f.soa.bytes.length s.f.d.c0) (.slice s.f.d.A1 x.f.soa.host.length s.f.d.c1) (.slice s.f.d.A2 x.f.soa.mail.length s.f.d.c2) (.slice s.f.d.A3 x.f.soa.nums.length s.f.d.c3) (.slice s.f.d.A4 x.f.soa.texts.length s.f.d.c4) (.slice s.Z x.zone.length s.zc)) q s x := set16 h _ _ _ _ _ _ _ _ _ _ _ _ _ _ _ _
theorem EnRow.fillF {w : World} {q : Nat} {s : ES} {x : En} (h : EnRow w q s x) (t : FS) : EnRow (putF w q (.slice t.A x.f.name.length t.ac) (.int .i64 x.f.type) (.int .i64 x.f.kind) (.int .i64 x.f.rank) (.int .i64 x.f.got) (.int .i64 x.f.ttl) (.slice t.S x.f.set.length t.sc) (.slice t.Z x.f.zone.length t.zc) (.slice t.d.A0 x.f.soa.bytes.length t.d.c0) (.slice t.d.A1 x.f.soa.host.length t.d.c1) (.slice t.d.A2 x.f.soa.mail.length t.d.c2) (.slice t.d.A3 x.f.soa.nums.length t.d.c3) (.slice t.d.A4 x.f.soa.texts.length t.d.c4)) q { s with f := t } x := setF h _ _ _ _ _ _ _ _ _ _ _ _ _
theorem EnRow.putZ {w : World} {q : Nat} {s : ES} {x : En} (h : EnRow w q s x) (A : Option Addr) (c : Nat) : EnRow (w.setCell ⟨q, 15, none⟩ (.slice A x.zone.length c)) q { s with Z := A, zc := c } x := heap_setCell_same _ _ 15 _ _ _ h

set_option maxHeartbeats 16000000 in
theorem own15_any (s : ES) (x : En) (w : World) {S : Nat → Prop} (h : EnIn S w s x) (hS : ∀ b, S b → b < w.heap.size) (hL : LtO x.f) (hZ : x.zone.length ≤ 8796093022208) :
    Calls Try.prog 21 #[enV s x] w (RetP (fun v w' => ∃ s', v = enV s' x ∧ EnIn (geS w.heap.size w') w' s' x) w) := by
  obtain ⟨q, hq⟩ : ∃ q, q = w.heap.size := ⟨_, rfl⟩
  obtain ⟨w1, hw1⟩ : ∃ w1, w1 = w.alloc (.cells (enCells s x) 50) := ⟨_, rfl⟩
  obtain ⟨w2, hw2⟩ : ∃ w2, w2 = w1.alloc (.cells (enCells ES.nil En.zero) 50) := ⟨_, rfl⟩
  have hb1 : Below w.heap.size w w1 := by rw [hw1]; exact bl.alloc (Nat.le_refl _) _
  have hb2 : Below w1.heap.size w1 w2 := by rw [hw2]; exact bl.alloc (Nat.le_refl _) _
  have hz1 : w1.heap.size = q + 1 := by rw [hw1, hq]; simp
  have hz2 : w2.heap.size = q + 2 := by rw [hw2]; simp; omega
  have HR2 : Hid (EnRow w2 q s x) := by
    have h1 : EnRow w1 q s x := by rw [hw1, hq]; exact EnRow.made w s x
    exact h1.below hb2
  have HP2 : Hid (EnRow w2 (q + 1) ES.nil En.zero) := by show EnRow _ _ _ _; rw [hw2, ← hz1]; exact EnRow.made w1 ES.nil En.zero
  have HB2 : Hid (Below q w w2) := by show Below _ _ _; rw [hq]; exact nx hb1 hb2
  have HZ2 := Lib.hid hz2
  have HIN : Hid (∀ u, Below q w u → EnIn S u s x) := fun u hu => h.below (by rw [hq] at hu; exact hu) hS
  have HS : Hid (∀ b, S b → b < q) := fun b hb => by rw [hq]; exact hS b hb
  have HL := Lib.hid hL
  have HZL := Lib.hid hZ
  have HQ := Lib.hid hq
  have HII : Hid (i64S x.kind ∧ i64S x.time) := ⟨h.ik, h.it⟩
  have HOF : Hid (Calls Try.prog 57 #[faV s.f x.f] w2 (RetP (fun v w' => ∃ s', v = faV s' x.f ∧ FaIn (geS w2.heap.size w') w' s' x.f) w2)) := ownFact_any s.f x.f w2 (HIN.out w2 HB2.out).f (fun b hb => by have h1 := HS.out b hb; omega) hL
  obtain ⟨x0, x1, x2, x3, x4, x5, x6, x7, x8, x9, x10, x11, x12, x13, x14, x15⟩ := HR2.out.cells
  unfold faV at HOF
  unfold faCells at HOF
  unfold enV
  unfold enCells at hw1 hw2 ⊢
  simp only [ES.nil, En.zero, FS.nil, Fa.zero, DS.nil, Da.zero, List.length_nil] at hw2
  clear h hS hL hZ hb1 hb2 hz1 hz2
  go_enter Try.func21, Try.ntmps21
  go_upto_region 1 with (fail)
  rw [← hw1, ← hw2]
  clear hw1 hw2
  rw [← hq]
  clear hq
  go_upto_region 2 with (first
    | (go_at_call 57; (with_reducible refine HOF.out.mono ?_); rintro e w3 ⟨v3, rfl, ⟨t3, rfl, hi3⟩, hb3⟩; have HI3 := Lib.hid hi3; have HB23 := Lib.hid hb3; have HR3 := Lib.hid (HR2.out.below hb3); have f2 := (HR3.out).free 2; have f3 := (HR3.out).free 3; have f4 := (HR3.out).free 4; have f5 := (HR3.out).free 5; have f6 := (HR3.out).free 6; have f7 := (HR3.out).free 7; have f8 := (HR3.out).free 8; have f9 := (HR3.out).free 9; have f10 := (HR3.out).free 10; have f11 := (HR3.out).free 11; have f12 := (HR3.out).free 12; have f13 := (HR3.out).free 13; have f14 := (HR3.out).free 14; obtain ⟨x0, x1, x2, x3, x4, x5, x6, x7, x8, x9, x10, x11, x12, x13, x14, x15⟩ := HR3.out.cells; clear hi3 hb3)
    | fail)
  obtain ⟨y3, hy3⟩ : ∃ y, y = putF w3 q (.slice t3.A x.f.name.length t3.ac) (.int .i64 x.f.type) (.int .i64 x.f.kind) (.int .i64 x.f.rank) (.int .i64 x.f.got) (.int .i64 x.f.ttl) (.slice t3.S x.f.set.length t3.sc) (.slice t3.Z x.f.zone.length t3.zc) (.slice t3.d.A0 x.f.soa.bytes.length t3.d.c0) (.slice t3.d.A1 x.f.soa.host.length t3.d.c1) (.slice t3.d.A2 x.f.soa.mail.length t3.d.c2) (.slice t3.d.A3 x.f.soa.nums.length t3.d.c3) (.slice t3.d.A4 x.f.soa.texts.length t3.d.c4) := ⟨_, rfl⟩
  have HR4 : Hid (EnRow y3 q { s with f := t3 } x) := by show EnRow _ _ _ _; rw [hy3]; exact HR3.out.fillF t3
  have hc3 : Chg (fun k => k = q) w3 y3 := by rw [hy3]; exact chgF _ _ _ _ _ _ _ _ _ _ _ _ _ _ _
  have hz3 : q + 2 ≤ w3.heap.size := by have := HB23.out.size; have := HZ2.out; omega
  have HZ4 : Hid (q + 2 ≤ y3.heap.size) := Nat.le_trans hz3 hc3.size
  have HP4 : Hid (EnRow y3 (q + 1) ES.nil En.zero) := hc3.heap (HP2.out.below HB23.out) (by omega)
  have HB4 : Hid (Below q w y3) := (HB2.out.trans (HB23.out.mono (by have := HZ2.out; omega))).trans (hc3.below (fun z hz => by omega) (by omega))
  have HF4 : Hid (FaIn (geS (q + 2) y3) y3 t3 x.f) := by
    have h1 := HI3.out
    rw [HZ2.out] at h1
    exact (h1.keep (fun b hb => hc3.block b hb.2 (fun e => by have := hb.1; omega))).mono (fun b hb => ⟨hb.1, Nat.lt_of_lt_of_le hb.2 hc3.size⟩)
  unfold putF at hy3
  rw [← hy3]
  clear hy3 hc3 hz3 x0 x1 x2 x3 x4 x5 x6 x7 x8 x9 x10 x11 x12 x13 x14 x15 f2 f3 f4 f5 f6 f7 f8 f9 f10 f11 f12 f13 f14
  obtain ⟨x0, x1, x2, x3, x4, x5, x6, x7, x8, x9, x10, x11, x12, x13, x14, x15⟩ := HR4.out.cells
  have xa := below_cell (bl.alloc (Nat.le_refl _) (.cells #[] 9)) x15
  go_upto_region 3 with (first
    | ((with_reducible show wpList _ _ _ (⟨some 10, _, _, _, _, _⟩ :: _) _ _); refine wpL_cloneS rfl (.tmp 7) (.tmp 9) rfl rfl s.Z _ s.zc x.zone rfl (HIN.out y3 HB4.out).z (by have := HZL.out; omega) ?_; intro v5 w5 hown5 hb5; obtain ⟨A5, c5, rfl, _, _, _⟩ := OwnE.form hown5; have HR5 := Lib.hid (HR4.out.below hb5); have e15 := (HR5.out.cell 15).trans rfl; have e15' : w5.cell? ⟨q, 15, none⟩ = some (.slice s.Z x.zone.length s.zc) := e15; have f15 := HR5.out.free 15; have HE5 := Lib.hid (ownE_els hown5 rfl); have HB5 := Lib.hid hb5; clear hown5 hb5 e15)
    | fail)
  clear x0 x1 x2 x3 x4 x5 x6 x7 x8 x9 x10 x11 x12 x13 x14 x15 xa e15' f15
  obtain ⟨y5, hy5⟩ : ∃ u, u = w5.setCell ⟨q, 15, none⟩ (.slice A5 x.zone.length c5) := ⟨_, rfl⟩
  have hc5 : Chg (fun k => k = q) w5 y5 := by rw [hy5]; exact chg_g1 _ _ _ _
  have HR6 : Hid (EnRow y5 q ⟨t3, A5, c5⟩ x) := by show EnRow _ _ _ _; rw [hy5]; exact HR5.out.putZ A5 c5
  have hz5 : q + 2 ≤ w5.heap.size := Nat.le_trans HZ4.out HB5.out.size
  have HP6 : Hid (EnRow y5 (q + 1) ES.nil En.zero) := hc5.heap (HP4.out.below HB5.out) (by omega)
  have HB6 : Hid (Below q w y5) := (HB4.out.trans (HB5.out.mono (by have := HZ4.out; omega))).trans (hc5.below (fun z hz => by omega) (by omega))
  have HF6 : Hid (FaIn (geS (q + 2) y5) y5 t3 x.f) := by
    have h1 := HF4.out.below HB5.out (fun b hb => hb.2)
    exact (h1.keep (fun b hb => hc5.block b (Nat.lt_of_lt_of_le hb.2 HB5.out.size) (fun e => by have := hb.1; omega))).mono (fun b hb => ⟨hb.1, Nat.lt_of_lt_of_le hb.2 (Nat.le_trans HB5.out.size hc5.size)⟩)
  have HZ6 : Hid (Els encS (geS (q + 2) y5) (geS (q + 2) y5) y5 A5 x.zone.length x.zone ∧ x.zone.length ≤ c5 ∧ c5 ≤ maxLen) := ⟨els_ge (els_le HE5.out.1 HZ4.out) hc5 (fun k h1 _ e => by omega), HE5.out.2⟩
  have HY5 : Hid (q + 2 ≤ y5.heap.size) := Nat.le_trans hz5 hc5.size
  rw [← hy5]
  clear hy5 hc5 hz5
  obtain ⟨x0, x1, x2, x3, x4, x5, x6, x7, x8, x9, x10, x11, x12, x13, x14, x15⟩ := HR6.out.cells
  obtain ⟨p0, p1, p2, p3, p4, p5, p6, p7, p8, p9, p10, p11, p12, p13, p14, p15⟩ := HP6.out.cells
  simp only [ES.nil, En.zero, FS.nil, Fa.zero, DS.nil, Da.zero, List.length_nil] at p0 p1 p2 p3 p4 p5 p6 p7 p8 p9 p10 p11 p12 p13 p14 p15
  have g0 := HP6.out.free 0
  have g1 := HP6.out.free 1
  have g2 := HP6.out.free 2
  have g3 := HP6.out.free 3
  have g4 := HP6.out.free 4
  have g5 := HP6.out.free 5
  have g6 := HP6.out.free 6
  have g7 := HP6.out.free 7
  have g8 := HP6.out.free 8
  have g9 := HP6.out.free 9
  have g10 := HP6.out.free 10
  have g11 := HP6.out.free 11
  have g12 := HP6.out.free 12
  have g13 := HP6.out.free 13
  have g14 := HP6.out.free 14
  have g15 := HP6.out.free 15
  go_wp2
  obtain ⟨ym, hym⟩ : ∃ y, y = put16 y5 (q + 1) (.int .i64 x.kind) (.int .i64 x.time) (.slice t3.A x.f.name.length t3.ac) (.int .i64 x.f.type) (.int .i64 x.f.kind) (.int .i64 x.f.rank) (.int .i64 x.f.got) (.int .i64 x.f.ttl) (.slice t3.S x.f.set.length t3.sc) (.slice t3.Z x.f.zone.length t3.zc) (.slice t3.d.A0 x.f.soa.bytes.length t3.d.c0) (.slice t3.d.A1 x.f.soa.host.length t3.d.c1) (.slice t3.d.A2 x.f.soa.mail.length t3.d.c2) (.slice t3.d.A3 x.f.soa.nums.length t3.d.c3) (.slice t3.d.A4 x.f.soa.texts.length t3.d.c4) (.slice A5 x.zone.length c5) := ⟨_, rfl⟩
  have hcm : Chg (fun z => z = q + 1) y5 ym := by rw [hym]; exact chg16 _ _ _ _ _ _ _ _ _ _ _ _ _ _ _ _ _ _
  have hRm : EnRow ym (q + 1) ⟨t3, A5, c5⟩ x := by rw [hym]; exact HP6.out.fill ⟨t3, A5, c5⟩ x
  unfold put16 at hym
  rw [← hym]
  clear hym x0 x1 x2 x3 x4 x5 x6 x7 x8 x9 x10 x11 x12 x13 x14 x15 p0 p1 p2 p3 p4 p5 p6 p7 p8 p9 p10 p11 p12 p13 p14 p15
  obtain ⟨x0, x1, x2, x3, x4, x5, x6, x7, x8, x9, x10, x11, x12, x13, x14, x15⟩ := hRm.cells
  refine bodyPost_ret (v := enV ⟨t3, A5, c5⟩ x) ?_ rfl ⟨_, rfl, ⟨_, rfl, ?_⟩, ?_⟩
  · simp [results, Try.results21, go_sem, x0, x1, x2, x3, x4, x5, x6, x7, x8, x9, x10, x11, x12, x13, x14, x15]
    rfl
  · rw [← HQ.out]
    have hf := (HF6.out.keep (fun b hb => hcm.block b hb.2 (fun e => by have := hb.1; omega))).mono (S' := geS q ym) (fun b hb => ⟨by have := hb.1; omega, Nat.lt_of_lt_of_le hb.2 hcm.size⟩)
    exact ⟨hf, els_le (els_ge HZ6.out.1 hcm (fun k h1 _ e => by omega)) (Nat.le_add_right q 2), HZ6.out.2, HII.out.1, HII.out.2⟩
  · rw [← HQ.out]
    exact HB6.out.trans (hcm.below (fun z hz => by omega) (by have := HY5.out; omega))
end Go.Proofs.Ytimkdpkhdbiniaa
