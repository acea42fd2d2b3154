/- Parts of a proof, joined: RdG6, RrMem, DIn, Wtr4. -/
import Derived.Test.YtbjaphldncagjaaG05
import Derived.Test.YtbjaphldncagjaaG04
import Derived.Test.YtbjaphldncagjaaG03
/- rdata: the reader's data: where its walk stands. -/
namespace Go.Proofs.Ytbjaphldncagjaa
open Go.RowKit
set_option maxRecDepth 100000

theorem ownB_chg {w w' : World} {base : Nat} {v : Value} {F : Nat → Prop} {bs : List UInt8} (h : OwnB w base v bs) (hc : Chg F w w') (hv : ∀ k, base ≤ k → k < w.heap.size → ¬ F k) : OwnB w' base v bs := by
  have hl := fun k hk => World.ownsRow.lt h k hk
  refine ⟨h.1, ?_⟩
  rcases h.2 with h0 | ⟨g, cap, cur, rfl, h1, h2, h3⟩
  · exact .inl h0
  · exact .inr ⟨g, cap, cur, rfl, h1, (hc.heap h2 (hv g (hl g rfl).1 (hl g rfl).2)), h3⟩
theorem ownE_chg {α : Type} {E : Enc α} {e : TypeId} {w w' : World} {base : Nat} {v : Value} {F : Nat → Prop} {xs : List α} (h : OwnE E e noS w base v xs) (hc : Chg F w w') (hv : ∀ k, base ≤ k → k < w.heap.size → ¬ F k) : OwnE E e noS w' base v xs :=
  OwnE.chg h hc (fun k hk => hv k (OwnE.lt h k hk).1 (OwnE.lt h k hk).2) (fun _ hz => hz.elim)

/-- Data whose slices are rows of the call's own. -/
structure DGot (w : World) (B : Nat) (s : DS) (x : Da) : Prop where
  b : OwnB w B (.slice s.A0 x.bytes.length s.c0) x.bytes
  h : OwnS w B (.slice s.A1 x.host.length s.c1) x.host
  m : OwnS w B (.slice s.A2 x.mail.length s.c2) x.mail
  n : OwnI w B (.slice s.A3 x.nums.length s.c3) x.nums
  t : OwnS w B (.slice s.A4 x.texts.length s.c4) x.texts
def DS.nil : DS := ⟨none, none, none, none, none, 0, 0, 0, 0, 0⟩
theorem DGot.nil (w : World) (B : Nat) : DGot w B DS.nil Da.zero := ⟨OwnB.nil _ _, OwnS.nil _ _, OwnS.nil _ _, OwnI.nil _ _, OwnS.nil _ _⟩
theorem DGot.chg {w w' : World} {B : Nat} {s : DS} {x : Da} {F : Nat → Prop} (h : DGot w B s x) (hc : Chg F w w') (hv : ∀ k, B ≤ k → k < w.heap.size → ¬ F k) : DGot w' B s x :=
  ⟨ownB_chg h.b hc hv, ownE_chg h.h hc hv, ownE_chg h.m hc hv, ownE_chg h.n hc hv, ownE_chg h.t hc hv⟩
theorem DGot.below {w w' : World} {B : Nat} {s : DS} {x : Da} (h : DGot w B s x) (hb : Below w.heap.size w w') : DGot w' B s x := h.chg (Chg.of_below (F := fun _ => False) hb) (fun _ _ _ h => h)
theorem DGot.base_le {w : World} {B B' : Nat} {s : DS} {x : Da} (h : DGot w B s x) (hb : B' ≤ B) : DGot w B' s x :=
  ⟨h.b.mono hb, OwnE.base_le h.h hb, OwnE.base_le h.m hb, OwnE.base_le h.n hb, OwnE.base_le h.t hb⟩
theorem OwnE.slc {α : Type} {E : Enc α} {e : TypeId} {S : Nat → Prop} {w : World} {base : Nat} {A : Option Addr} {n c : Nat} {xs : List α} (h : OwnE E e S w base (.slice A n c) xs) : RdE E w A n xs ∧ n = xs.length ∧ n ≤ c ∧ c ≤ maxLen := by
  obtain ⟨A', c', hv, hr, h1, h2⟩ := h.rdE
  injection hv with e1 e2 e3
  subst e1 e2 e3
  exact ⟨hr, rfl, h1, h2⟩
theorem DGot.rd {w : World} {B : Nat} {s : DS} {x : Da} (h : DGot w B s x) : DRd w s x := by
  obtain ⟨hb, _⟩ := h.b.rd
  obtain ⟨A0, c0, e0, _, hb1, hb2⟩ := h.b.form
  injection e0 with e1 e2 e3
  subst e1 e3
  obtain ⟨h1, _, h2⟩ := OwnE.slc h.h
  obtain ⟨m1, _, m2⟩ := OwnE.slc h.m
  obtain ⟨n1, _, n2⟩ := OwnE.slc h.n
  obtain ⟨t1, _, t2⟩ := OwnE.slc h.t
  exact ⟨hb, h1, m1, n1, t1, ⟨hb1, hb2⟩, h2, m2, n2, t2⟩

def dCells (s : DS) (d : Da) : Array Value := #[.slice s.A0 d.bytes.length s.c0, .slice s.A1 d.host.length s.c1, .slice s.A2 d.mail.length s.c2, .slice s.A3 d.nums.length s.c3, .slice s.A4 d.texts.length s.c4]
def shCells (s : Shp) : Array Value := #[.int .i64 s.bytes, .bool s.host, .bool s.mail, .bool s.short, .int .i64 s.nums, .int .i64 s.size, .bool s.texts, .bool s.first]
structure RdSt (w wr : World) (p : Nat) (bv : Value) (q en : Nat) (sh : Shp) (s : DS) (d : Da) : Prop where
  P : Rdr wr p bv (q : Int) (en : Int)
  S : wr.heap[w.heap.size]? = some (.cells (shCells sh) 146 (0, 0))
  D : wr.heap[w.heap.size + 1]? = some (.cells (dCells s d) 46 (0, 0))
  G : DGot wr (w.heap.size + 2) s d
  C : Chg (fun k => k = p) w wr
  lt : p < w.heap.size
section
variable {w wr w' : World} {p q q' en : Nat} {bv : Value} {sh : Shp} {s : DS} {d : Da}
theorem RdSt.start (h : Rdr w p bv (q : Int) (en : Int)) (sh : Shp) : RdSt w ((w.alloc (.cells (shCells sh) 146)).alloc (.cells (dCells DS.nil Da.zero) 46)) p bv q en sh DS.nil Da.zero := by
  have hb : Below w.heap.size w ((w.alloc (.cells (shCells sh) 146)).alloc (.cells (dCells DS.nil Da.zero) 46)) := nx (bl.alloc (Nat.le_refl _) _) (bl.alloc (Nat.le_refl _) _)
  have hsz : (w.alloc (.cells (shCells sh) 146)).heap.size = w.heap.size + 1 := by simp
  refine ⟨h.below hb, (heap_alloc_old _ _ (by rw [hsz]; omega)).trans (heap_alloc_new w _), ?_, DGot.nil _ _, Chg.of_below hb, h.lt⟩
  rw [← hsz]
  exact heap_alloc_new _ _
theorem RdSt.size (h : RdSt w wr p bv q en sh s d) : w.heap.size + 2 ≤ wr.heap.size := (Array.getElem?_eq_some_iff.1 h.D).1
theorem RdSt.call (h : RdSt w wr p bv q en sh s d) (hp : Rdr w' p bv (q' : Int) (en : Int)) (hc : Chg (fun k => k = p) wr w') : RdSt w w' p bv q' en sh s d := by
  have hl := h.lt
  exact ⟨hp, hc.heap h.S (by omega), hc.heap h.D (by omega), h.G.chg hc (fun k h1 _ => by omega), h.C.trans hc (fun _ h => .inl h), h.lt⟩
theorem RdSt.below (h : RdSt w wr p bv q en sh s d) (hb : Below wr.heap.size wr w') : RdSt w w' p bv q en sh s d := h.call (h.P.below hb) (Chg.of_below hb)
theorem RdSt.shc (h : RdSt w wr p bv q en sh s d) (j : Nat) : wr.cell? ⟨w.heap.size, j, none⟩ = (shCells sh)[j]? := cell_of_row _ _ _ _ _ _ h.S
theorem RdSt.dc (h : RdSt w wr p bv q en sh s d) (j : Nat) : wr.cell? ⟨w.heap.size + 1, j, none⟩ = (dCells s d)[j]? := cell_of_row _ _ _ _ _ _ h.D
theorem RdSt.df (h : RdSt w wr p bv q en sh s d) (j : Nat) : wr.frozen? ⟨w.heap.size + 1, j, none⟩ = false := frozen_of_row _ _ _ _ _ h.D
theorem RdSt.put (h : RdSt w wr p bv q en sh s d) (j : Nat) (v : Value) (s' : DS) (d' : Da) (hd : (dCells s d).setIfInBounds j v = dCells s' d') (hg : DGot wr (w.heap.size + 2) s' d') : RdSt w (wr.setCell ⟨w.heap.size + 1, j, none⟩ v) p bv q en sh s' d' := by
  have hl := h.lt
  have hc : Chg (fun k => k = w.heap.size + 1) wr (wr.setCell ⟨w.heap.size + 1, j, none⟩ v) := chg_g1 _ _ _ _
  refine ⟨hc.heap h.P (by omega), hc.heap h.S (by omega), ?_, hg.chg hc (fun k h1 _ => by omega), h.C.trans hc (fun k hk => .inr (by omega)), h.lt⟩
  rw [← hd]
  exact heap_setCell_same _ _ _ _ _ _ h.D
theorem RdSt.setB (h : RdSt w wr p bv q en sh s d) {A : Option Addr} {c : Nat} {x : List UInt8} (ho : OwnB wr (w.heap.size + 2) (.slice A x.length c) x) : RdSt w (wr.setCell ⟨w.heap.size + 1, 0, none⟩ (.slice A x.length c)) p bv q en sh { s with A0 := A, c0 := c } { d with bytes := x } :=
  h.put 0 _ _ _ rfl ⟨ho, h.G.h, h.G.m, h.G.n, h.G.t⟩
theorem RdSt.setH (h : RdSt w wr p bv q en sh s d) {A : Option Addr} {c : Nat} {x : List (List UInt8)} (ho : OwnS wr (w.heap.size + 2) (.slice A x.length c) x) : RdSt w (wr.setCell ⟨w.heap.size + 1, 1, none⟩ (.slice A x.length c)) p bv q en sh { s with A1 := A, c1 := c } { d with host := x } :=
  h.put 1 _ _ _ rfl ⟨h.G.b, ho, h.G.m, h.G.n, h.G.t⟩
theorem RdSt.setM (h : RdSt w wr p bv q en sh s d) {A : Option Addr} {c : Nat} {x : List (List UInt8)} (ho : OwnS wr (w.heap.size + 2) (.slice A x.length c) x) : RdSt w (wr.setCell ⟨w.heap.size + 1, 2, none⟩ (.slice A x.length c)) p bv q en sh { s with A2 := A, c2 := c } { d with mail := x } :=
  h.put 2 _ _ _ rfl ⟨h.G.b, h.G.h, ho, h.G.n, h.G.t⟩
theorem RdSt.setN (h : RdSt w wr p bv q en sh s d) {A : Option Addr} {c : Nat} {x : List Int} (ho : OwnI wr (w.heap.size + 2) (.slice A x.length c) x) : RdSt w (wr.setCell ⟨w.heap.size + 1, 3, none⟩ (.slice A x.length c)) p bv q en sh { s with A3 := A, c3 := c } { d with nums := x } :=
  h.put 3 _ _ _ rfl ⟨h.G.b, h.G.h, h.G.m, ho, h.G.t⟩
theorem RdSt.setT (h : RdSt w wr p bv q en sh s d) {A : Option Addr} {c : Nat} {x : List (List UInt8)} (ho : OwnS wr (w.heap.size + 2) (.slice A x.length c) x) : RdSt w (wr.setCell ⟨w.heap.size + 1, 4, none⟩ (.slice A x.length c)) p bv q en sh { s with A4 := A, c4 := c } { d with texts := x } :=
  h.put 4 _ _ _ rfl ⟨h.G.b, h.G.h, h.G.m, h.G.n, ho⟩
/-- The end's store of what is there already. -/
theorem RdSt.same (h : RdSt w wr p bv q en sh s d) : RdSt w (((((wr.setCell ⟨w.heap.size + 1, 0, none⟩ (.slice s.A0 d.bytes.length s.c0)).setCell ⟨w.heap.size + 1, 1, none⟩ (.slice s.A1 d.host.length s.c1)).setCell ⟨w.heap.size + 1, 2, none⟩ (.slice s.A2 d.mail.length s.c2)).setCell ⟨w.heap.size + 1, 3, none⟩ (.slice s.A3 d.nums.length s.c3)).setCell ⟨w.heap.size + 1, 4, none⟩ (.slice s.A4 d.texts.length s.c4)) p bv q en sh s d := by
  have k : ∀ {u : World} (j : Nat) (v : Value), (dCells s d).setIfInBounds j v = dCells s d → RdSt w u p bv q en sh s d → RdSt w (u.setCell ⟨w.heap.size + 1, j, none⟩ v) p bv q en sh s d := fun j v e h => h.put j v _ _ e h.G
  exact k 4 _ rfl (k 3 _ rfl (k 2 _ rfl (k 1 _ rfl (k 0 _ rfl h))))
end
/-- What the reader's data says. -/
def dataE (b : List UInt8) (pos en : Nat) (s : Shp) : Except Int (Da × Nat) :=
  match dataR b pos en s with
  | .error e => .error e
  | .ok (d, q) => if q < en then .error 7 else .ok (d, q)
def goodD (B : Nat) (v : Value) (w' : World) (x : Da) : Prop := ∃ s, v = dsV s x ∧ DGot w' B s x
end Go.Proofs.Ytbjaphldncagjaa

/- rr: how records lie in memory. -/
namespace Go.Proofs.Ytbjaphldncagjaa
open Go.RowKit
set_option maxRecDepth 100000

/-- Where a record's slices lead. -/
structure RS where
  A : Option Addr
  c : Nat
  d : DS
def RS.nil : RS := ⟨none, 0, DS.nil⟩
def rrCells (s : RS) (x : RR) : Array Value := #[.slice s.A x.name.length s.c, .int .i64 x.type, .int .i64 x.cls, .int .i64 x.ttl, .slice s.d.A0 x.data.bytes.length s.d.c0, .slice s.d.A1 x.data.host.length s.d.c1, .slice s.d.A2 x.data.mail.length s.d.c2, .slice s.d.A3 x.data.nums.length s.d.c3, .slice s.d.A4 x.data.texts.length s.d.c4]
def rrV (s : RS) (x : RR) : Value := .agg (rrCells s x)
/-- A record whose slices are rows of the call's own. -/
structure RGot (w : World) (B : Nat) (s : RS) (x : RR) : Prop where
  n : OwnS w B (.slice s.A x.name.length s.c) x.name
  d : DGot w B s.d x.data
theorem RGot.nil (w : World) (B : Nat) : RGot w B RS.nil RR.zero := ⟨OwnS.nil _ _, DGot.nil _ _⟩
theorem RGot.chg {w w' : World} {B : Nat} {s : RS} {x : RR} {F : Nat → Prop} (h : RGot w B s x) (hc : Chg F w w') (hv : ∀ k, B ≤ k → k < w.heap.size → ¬ F k) : RGot w' B s x := ⟨ownE_chg h.n hc hv, h.d.chg hc hv⟩
theorem RGot.below {w w' : World} {B : Nat} {s : RS} {x : RR} (h : RGot w B s x) (hb : Below w.heap.size w w') : RGot w' B s x := h.chg (Chg.of_below (F := fun _ => False) hb) (fun _ _ _ h => h)
theorem RGot.base_le {w : World} {B B' : Nat} {s : RS} {x : RR} (h : RGot w B s x) (hb : B' ≤ B) : RGot w B' s x := ⟨OwnE.base_le h.n hb, h.d.base_le hb⟩

/-- A record in a block of its own. -/
def RRow (w : World) (q : Nat) (s : RS) (x : RR) : Prop := w.heap[q]? = some (.cells (rrCells s x) 48 (0, 0))
section
variable {w w' : World} {q : Nat} {s s' : RS} {x x' : RR}
theorem RRow.lt (h : RRow w q s x) : q < w.heap.size := (Array.getElem?_eq_some_iff.1 h).1
theorem RRow.below (h : RRow w q s x) (hb : Below w.heap.size w w') : RRow w' q s x := (hb.block q h.lt).trans h
theorem RRow.cell (h : RRow w q s x) (j : Nat) : w.cell? ⟨q, j, none⟩ = (rrCells s x)[j]? := cell_of_row _ _ _ _ _ _ h
theorem RRow.free (h : RRow w q s x) (j : Nat) : w.frozen? ⟨q, j, none⟩ = false := frozen_of_row _ _ _ _ _ h
theorem RRow.put (h : RRow w q s x) (j : Nat) (v : Value) (s' : RS) (x' : RR) (e : (rrCells s x).setIfInBounds j v = rrCells s' x') : RRow (w.setCell ⟨q, j, none⟩ v) q s' x' := by
  unfold RRow
  rw [← e]
  exact heap_setCell_same _ _ _ _ _ _ h
theorem RRow.cells (h : RRow w q s x) : w.cell? ⟨q, 0, none⟩ = some (.slice s.A x.name.length s.c) ∧ w.cell? ⟨q, 1, none⟩ = some (.int .i64 x.type) ∧ w.cell? ⟨q, 2, none⟩ = some (.int .i64 x.cls) ∧ w.cell? ⟨q, 3, none⟩ = some (.int .i64 x.ttl) ∧
    w.cell? ⟨q, 4, none⟩ = some (.slice s.d.A0 x.data.bytes.length s.d.c0) ∧ w.cell? ⟨q, 5, none⟩ = some (.slice s.d.A1 x.data.host.length s.d.c1) ∧ w.cell? ⟨q, 6, none⟩ = some (.slice s.d.A2 x.data.mail.length s.d.c2) ∧ w.cell? ⟨q, 7, none⟩ = some (.slice s.d.A3 x.data.nums.length s.d.c3) ∧ w.cell? ⟨q, 8, none⟩ = some (.slice s.d.A4 x.data.texts.length s.d.c4) :=
  ⟨(h.cell 0).trans rfl, (h.cell 1).trans rfl, (h.cell 2).trans rfl, (h.cell 3).trans rfl, (h.cell 4).trans rfl, (h.cell 5).trans rfl, (h.cell 6).trans rfl, (h.cell 7).trans rfl, (h.cell 8).trans rfl⟩
end
/-- Nine stores. -/
def put9 (w : World) (q : Nat) (v0 v1 v2 v3 v4 v5 v6 v7 v8 : Value) : World := ((((((((w.setCell ⟨q, 0, none⟩ v0).setCell ⟨q, 1, none⟩ v1).setCell ⟨q, 2, none⟩ v2).setCell ⟨q, 3, none⟩ v3).setCell ⟨q, 4, none⟩ v4).setCell ⟨q, 5, none⟩ v5).setCell ⟨q, 6, none⟩ v6).setCell ⟨q, 7, none⟩ v7).setCell ⟨q, 8, none⟩ v8
theorem set9 {w : World} {g : Nat} {t : TypeId} {a0 a1 a2 a3 a4 a5 a6 a7 a8 : Value} (h : w.heap[g]? = some (.cells #[a0, a1, a2, a3, a4, a5, a6, a7, a8] t (0, 0))) (v0 v1 v2 v3 v4 v5 v6 v7 v8 : Value) : (put9 w g v0 v1 v2 v3 v4 v5 v6 v7 v8).heap[g]? = some (.cells #[v0, v1, v2, v3, v4, v5, v6, v7, v8] t (0, 0)) := by
  unfold put9
  have h0 : (w.setCell ⟨g, 0, none⟩ v0).heap[g]? = some (.cells #[v0, a1, a2, a3, a4, a5, a6, a7, a8] t (0, 0)) := heap_setCell_same _ _ 0 _ _ v0 h
  have h1 : ((w.setCell ⟨g, 0, none⟩ v0).setCell ⟨g, 1, none⟩ v1).heap[g]? = some (.cells #[v0, v1, a2, a3, a4, a5, a6, a7, a8] t (0, 0)) := heap_setCell_same _ _ 1 _ _ v1 h0
  have h2 : (((w.setCell ⟨g, 0, none⟩ v0).setCell ⟨g, 1, none⟩ v1).setCell ⟨g, 2, none⟩ v2).heap[g]? = some (.cells #[v0, v1, v2, a3, a4, a5, a6, a7, a8] t (0, 0)) := heap_setCell_same _ _ 2 _ _ v2 h1
  have h3 : ((((w.setCell ⟨g, 0, none⟩ v0).setCell ⟨g, 1, none⟩ v1).setCell ⟨g, 2, none⟩ v2).setCell ⟨g, 3, none⟩ v3).heap[g]? = some (.cells #[v0, v1, v2, v3, a4, a5, a6, a7, a8] t (0, 0)) := heap_setCell_same _ _ 3 _ _ v3 h2
  have h4 : (((((w.setCell ⟨g, 0, none⟩ v0).setCell ⟨g, 1, none⟩ v1).setCell ⟨g, 2, none⟩ v2).setCell ⟨g, 3, none⟩ v3).setCell ⟨g, 4, none⟩ v4).heap[g]? = some (.cells #[v0, v1, v2, v3, v4, a5, a6, a7, a8] t (0, 0)) := heap_setCell_same _ _ 4 _ _ v4 h3
  have h5 : ((((((w.setCell ⟨g, 0, none⟩ v0).setCell ⟨g, 1, none⟩ v1).setCell ⟨g, 2, none⟩ v2).setCell ⟨g, 3, none⟩ v3).setCell ⟨g, 4, none⟩ v4).setCell ⟨g, 5, none⟩ v5).heap[g]? = some (.cells #[v0, v1, v2, v3, v4, v5, a6, a7, a8] t (0, 0)) := heap_setCell_same _ _ 5 _ _ v5 h4
  have h6 : (((((((w.setCell ⟨g, 0, none⟩ v0).setCell ⟨g, 1, none⟩ v1).setCell ⟨g, 2, none⟩ v2).setCell ⟨g, 3, none⟩ v3).setCell ⟨g, 4, none⟩ v4).setCell ⟨g, 5, none⟩ v5).setCell ⟨g, 6, none⟩ v6).heap[g]? = some (.cells #[v0, v1, v2, v3, v4, v5, v6, a7, a8] t (0, 0)) := heap_setCell_same _ _ 6 _ _ v6 h5
  have h7 : ((((((((w.setCell ⟨g, 0, none⟩ v0).setCell ⟨g, 1, none⟩ v1).setCell ⟨g, 2, none⟩ v2).setCell ⟨g, 3, none⟩ v3).setCell ⟨g, 4, none⟩ v4).setCell ⟨g, 5, none⟩ v5).setCell ⟨g, 6, none⟩ v6).setCell ⟨g, 7, none⟩ v7).heap[g]? = some (.cells #[v0, v1, v2, v3, v4, v5, v6, v7, a8] t (0, 0)) := heap_setCell_same _ _ 7 _ _ v7 h6
  have h8 : (((((((((w.setCell ⟨g, 0, none⟩ v0).setCell ⟨g, 1, none⟩ v1).setCell ⟨g, 2, none⟩ v2).setCell ⟨g, 3, none⟩ v3).setCell ⟨g, 4, none⟩ v4).setCell ⟨g, 5, none⟩ v5).setCell ⟨g, 6, none⟩ v6).setCell ⟨g, 7, none⟩ v7).setCell ⟨g, 8, none⟩ v8).heap[g]? = some (.cells #[v0, v1, v2, v3, v4, v5, v6, v7, v8] t (0, 0)) := heap_setCell_same _ _ 8 _ _ v8 h7
  exact h8
/-- Where rr.Get stands. -/
structure RgSt (w wr : World) (s : RS) (x : RR) : Prop where
  R : RRow wr w.heap.size s x
  G : RGot wr (w.heap.size + 1) s x
  bw : Below w.heap.size w wr
section
variable {w wr w' : World} {s : RS} {x : RR}
theorem RgSt.start (w : World) : RgSt w (w.alloc (.cells (rrCells RS.nil RR.zero) 48)) RS.nil RR.zero := ⟨heap_alloc_new _ _, RGot.nil _ _, bl.alloc (Nat.le_refl _) _⟩
theorem RgSt.below (h : RgSt w wr s x) (hb : Below wr.heap.size wr w') : RgSt w w' s x := ⟨h.R.below hb, h.G.below hb, nx h.bw hb⟩
theorem RgSt.put (h : RgSt w wr s x) (j : Nat) (v : Value) (s' : RS) (x' : RR) (e : (rrCells s x).setIfInBounds j v = rrCells s' x') (hg : RGot wr (w.heap.size + 1) s' x') : RgSt w (wr.setCell ⟨w.heap.size, j, none⟩ v) s' x' := by
  have hc : Chg (fun k => k = w.heap.size) wr (wr.setCell ⟨w.heap.size, j, none⟩ v) := chg_g1 _ _ _ _
  exact ⟨h.R.put j v s' x' e, hg.chg hc (fun k h1 _ => by omega), h.bw.setCell (p := ⟨w.heap.size, j, none⟩) (Nat.le_refl _) v⟩
theorem RgSt.name (h : RgSt w wr s x) {A : Option Addr} {c : Nat} {n : List (List UInt8)} (ho : OwnS wr (w.heap.size + 1) (.slice A n.length c) n) : RgSt w (wr.setCell ⟨w.heap.size, 0, none⟩ (.slice A n.length c)) { s with A := A, c := c } { x with name := n } :=
  h.put 0 _ _ _ rfl ⟨ho, h.G.d⟩
theorem RgSt.type (h : RgSt w wr s x) (n : Int) : RgSt w (wr.setCell ⟨w.heap.size, 1, none⟩ (.int .i64 n)) s { x with type := n } := h.put 1 _ _ _ rfl ⟨h.G.n, h.G.d⟩
theorem RgSt.cls (h : RgSt w wr s x) (n : Int) : RgSt w (wr.setCell ⟨w.heap.size, 2, none⟩ (.int .i64 n)) s { x with cls := n } := h.put 2 _ _ _ rfl ⟨h.G.n, h.G.d⟩
theorem RgSt.ttl (h : RgSt w wr s x) (n : Int) : RgSt w (wr.setCell ⟨w.heap.size, 3, none⟩ (.int .i64 n)) s { x with ttl := n } := h.put 3 _ _ _ rfl ⟨h.G.n, h.G.d⟩
theorem RgSt.data (h : RgSt w wr s x) {t : DS} {d : Da} (hg : DGot wr (w.heap.size + 1) t d) :
    RgSt w (((((wr.setCell ⟨w.heap.size, 4, none⟩ (.slice t.A0 d.bytes.length t.c0)).setCell ⟨w.heap.size, 5, none⟩ (.slice t.A1 d.host.length t.c1)).setCell ⟨w.heap.size, 6, none⟩ (.slice t.A2 d.mail.length t.c2)).setCell ⟨w.heap.size, 7, none⟩ (.slice t.A3 d.nums.length t.c3)).setCell ⟨w.heap.size, 8, none⟩ (.slice t.A4 d.texts.length t.c4)) { s with d := t } { x with data := d } := by
  have hr : RRow (((((wr.setCell ⟨w.heap.size, 4, none⟩ (.slice t.A0 d.bytes.length t.c0)).setCell ⟨w.heap.size, 5, none⟩ (.slice t.A1 d.host.length t.c1)).setCell ⟨w.heap.size, 6, none⟩ (.slice t.A2 d.mail.length t.c2)).setCell ⟨w.heap.size, 7, none⟩ (.slice t.A3 d.nums.length t.c3)).setCell ⟨w.heap.size, 8, none⟩ (.slice t.A4 d.texts.length t.c4)) w.heap.size { s with d := t } { x with data := d } :=
    heap_setCell_same _ _ 8 _ _ _ (heap_setCell_same _ _ 7 _ _ _ (heap_setCell_same _ _ 6 _ _ _ (heap_setCell_same _ _ 5 _ _ _ (heap_setCell_same _ _ 4 _ _ _ h.R))))
  have k : ∀ {u : World} (j : Nat) (v : Value), Chg (fun k => k = w.heap.size) wr u → Chg (fun k => k = w.heap.size) wr (u.setCell ⟨w.heap.size, j, none⟩ v) := fun j v h => h.setCell (p := ⟨w.heap.size, j, none⟩) (Or.inl rfl) v
  have hc := k 8 (.slice t.A4 d.texts.length t.c4) (k 7 (.slice t.A3 d.nums.length t.c3) (k 6 (.slice t.A2 d.mail.length t.c2) (k 5 (.slice t.A1 d.host.length t.c1) (k 4 (.slice t.A0 d.bytes.length t.c0) (Chg.refl _ wr)))))
  exact ⟨hr, ⟨ownE_chg h.G.n hc (fun k h1 _ => by omega), hg.chg hc (fun k h1 _ => by omega)⟩, h.bw.trans (hc.below (fun z hz => by omega) h.bw.size)⟩
theorem RgSt.nine (h : RgSt w wr s x) {s' : RS} {x' : RR} (hg : RGot wr (w.heap.size + 1) s' x') :
    RgSt w (put9 wr w.heap.size (.slice s'.A x'.name.length s'.c) (.int .i64 x'.type) (.int .i64 x'.cls) (.int .i64 x'.ttl) (.slice s'.d.A0 x'.data.bytes.length s'.d.c0) (.slice s'.d.A1 x'.data.host.length s'.d.c1) (.slice s'.d.A2 x'.data.mail.length s'.d.c2) (.slice s'.d.A3 x'.data.nums.length s'.d.c3) (.slice s'.d.A4 x'.data.texts.length s'.d.c4)) s' x' := by
  have hr := set9 h.R (.slice s'.A x'.name.length s'.c) (.int .i64 x'.type) (.int .i64 x'.cls) (.int .i64 x'.ttl) (.slice s'.d.A0 x'.data.bytes.length s'.d.c0) (.slice s'.d.A1 x'.data.host.length s'.d.c1) (.slice s'.d.A2 x'.data.mail.length s'.d.c2) (.slice s'.d.A3 x'.data.nums.length s'.d.c3) (.slice s'.d.A4 x'.data.texts.length s'.d.c4)
  unfold put9 at hr ⊢
  have k : ∀ {u : World} (j : Nat) (v : Value), Chg (fun k => k = w.heap.size) wr u → Chg (fun k => k = w.heap.size) wr (u.setCell ⟨w.heap.size, j, none⟩ v) := fun j v h => h.setCell (p := ⟨w.heap.size, j, none⟩) (Or.inl rfl) v
  have hc := k 8 (.slice s'.d.A4 x'.data.texts.length s'.d.c4) (k 7 (.slice s'.d.A3 x'.data.nums.length s'.d.c3) (k 6 (.slice s'.d.A2 x'.data.mail.length s'.d.c2) (k 5 (.slice s'.d.A1 x'.data.host.length s'.d.c1) (k 4 (.slice s'.d.A0 x'.data.bytes.length s'.d.c0) (k 3 (.int .i64 x'.ttl) (k 2 (.int .i64 x'.cls) (k 1 (.int .i64 x'.type) (k 0 (.slice s'.A x'.name.length s'.c) (Chg.refl _ wr)))))))))
  exact ⟨hr, hg.chg hc (fun k h1 _ => by omega), h.bw.trans (hc.below (fun z hz => by omega) h.bw.size)⟩
end
end Go.Proofs.Ytbjaphldncagjaa

/- Data and records in memory, in blocks of a set; how a list of them lies. -/
namespace Go.Proofs.Ytbjaphldncagjaa
open Go.RowKit
set_option maxRecDepth 100000

structure DIn (S : Nat → Prop) (w : World) (s : DS) (x : Da) : Prop where
  b : Els encB S S w s.A0 x.bytes.length x.bytes
  h : Els encS S S w s.A1 x.host.length x.host
  m : Els encS S S w s.A2 x.mail.length x.mail
  n : Els encI S S w s.A3 x.nums.length x.nums
  t : Els encS S S w s.A4 x.texts.length x.texts
  cb : x.bytes.length ≤ s.c0 ∧ s.c0 ≤ maxLen
  ch : x.host.length ≤ s.c1 ∧ s.c1 ≤ maxLen
  cm : x.mail.length ≤ s.c2 ∧ s.c2 ≤ maxLen
  cn : x.nums.length ≤ s.c3 ∧ s.c3 ≤ maxLen
  ct : x.texts.length ≤ s.c4 ∧ s.c4 ≤ maxLen
section
variable {S S' F : Nat → Prop} {w w' : World} {s : DS} {x : Da} {B : Nat}
theorem DIn.mono (hS : ∀ b, S b → S' b) (h : DIn S w s x) : DIn S' w s x :=
  ⟨h.b.mono hS hS, h.h.mono hS hS, h.m.mono hS hS, h.n.mono hS hS, h.t.mono hS hS, h.cb, h.ch, h.cm, h.cn, h.ct⟩
theorem DIn.keep (hS : ∀ b, S b → w'.heap[b]? = w.heap[b]?) (h : DIn S w s x) : DIn S w' s x :=
  ⟨h.b.keep hS hS, h.h.keep hS hS, h.m.keep hS hS, h.n.keep hS hS, h.t.keep hS hS, h.cb, h.ch, h.cm, h.cn, h.ct⟩
theorem DIn.chg (h : DIn S w s x) (hc : Chg F w w') (hl : ∀ b, S b → b < w.heap.size ∧ ¬ F b) : DIn S w' s x := h.keep fun b hb => hc.block b (hl b hb).1 (hl b hb).2
theorem DIn.below (h : DIn S w s x) (hb : Below w.heap.size w w') (hl : ∀ b, S b → b < w.heap.size) : DIn S w' s x := h.keep fun b hbS => hb.block b (hl b hbS)
theorem DIn.rd (h : DIn S w s x) (hl : ∀ b, S b → b < w.heap.size) : DRd w s x :=
  ⟨els_bytes h.b, h.h.mono hl hl, h.m.mono hl hl, h.n.mono hl hl, h.t.mono hl hl, h.cb, h.ch, h.cm, h.cn, h.ct⟩
theorem DRd.din (h : DRd w s x) : DIn (ltS w) w s x := ⟨bytes_rdE h.b, h.h, h.m, h.n, h.t, h.cb, h.ch, h.cm, h.cn, h.ct⟩
/-- From B on. -/
def geS (B : Nat) (w : World) : Nat → Prop := fun b => B ≤ b ∧ b < w.heap.size
theorem ownB_els {v : Value} {bs : List UInt8} {A : Option Addr} {n c : Nat} (h : OwnB w B v bs) (hv : v = .slice A n c) : Els encB (geS B w) (geS B w) w A n bs ∧ n ≤ c ∧ c ≤ maxLen := by
  subst hv
  obtain ⟨A', c', hv, hr, h1, h2⟩ := h.form
  injection hv with e1 e2 e3
  subst e1 e2 e3
  refine ⟨bytes_els hr fun b off e => ?_, h1, h2⟩
  have hl := World.ownsRow.lt h
  rcases h.2 with ⟨e0, _⟩ | ⟨g, cap, cur, e0, h3, _⟩
  · injection e0 with e0
    rw [e] at e0
    cases e0
  · injection e0 with e0
    rw [e] at e0
    injection e0 with e0
    injection e0 with e0
    subst e0
    subst e
    exact hl _ rfl
theorem ownE_els {α : Type} {E : Enc α} {e : TypeId} {xs : List α} {v : Value} {A : Option Addr} {n c : Nat} (h : OwnE E e noS w B v xs) (hv : v = .slice A n c) : Els E (geS B w) (geS B w) w A n xs ∧ n ≤ c ∧ c ≤ maxLen := by
  subst hv
  have hl := h.lt
  obtain ⟨A', c', hv, hr, h1, h2⟩ := h.form
  injection hv with e1 e2 e3
  subst e1 e2 e3
  exact ⟨hr.mono (fun b hb => hl b hb) (fun b hb => hb.elim), h1, h2⟩
theorem DGot.din (h : DGot w B s x) : DIn (geS B w) w s x := by
  obtain ⟨b1, b2⟩ := ownB_els h.b rfl
  obtain ⟨h1, h2⟩ := ownE_els h.h rfl
  obtain ⟨m1, m2⟩ := ownE_els h.m rfl
  obtain ⟨n1, n2⟩ := ownE_els h.n rfl
  obtain ⟨t1, t2⟩ := ownE_els h.t rfl
  exact ⟨b1, h1, m1, n1, t1, b2, h2, m2, n2, t2⟩
theorem DOwn.din (h : DOwn w B s x) : DIn (geS B w) w s x := by
  obtain ⟨b1, b2⟩ := ownB_els h.b rfl
  obtain ⟨h1, h2⟩ := ownE_els h.h rfl
  obtain ⟨m1, m2⟩ := ownE_els h.m rfl
  obtain ⟨n1, n2⟩ := ownE_els h.n rfl
  obtain ⟨t1, t2⟩ := ownE_els h.t rfl
  exact ⟨b1, h1, m1, n1, t1, b2, h2, m2, n2, t2⟩
end
/-- How data lies in five cells. -/
def encDa : Enc Da where
  size := 5
  R := fun S w r x => ∃ s, r = (dCells s x).toList ∧ DIn S w s x
  pos := by decide
  len := by rintro _ _ r x ⟨s, rfl, _⟩; rfl
  mono := by rintro S S' w r x hS ⟨s, rfl, h⟩; exact ⟨s, rfl, h.mono hS⟩
  keep := by rintro S w w' r x hS ⟨s, rfl, h⟩; exact ⟨s, rfl, h.keep hS⟩
  one := by
    rintro S w r x ⟨s, rfl, _⟩ u hu
    simp [dCells] at hu
    rcases hu with rfl | rfl | rfl | rfl | rfl <;> rfl
structure RIn (S : Nat → Prop) (w : World) (s : RS) (x : RR) : Prop where
  n : Els encS S S w s.A x.name.length x.name
  cn : x.name.length ≤ s.c ∧ s.c ≤ maxLen
  d : DIn S w s.d x.data
  it : -9223372036854775808 ≤ x.type ∧ x.type ≤ 9223372036854775807
  ic : -9223372036854775808 ≤ x.cls ∧ x.cls ≤ 9223372036854775807
  il : -9223372036854775808 ≤ x.ttl ∧ x.ttl ≤ 9223372036854775807
section
variable {S S' F : Nat → Prop} {w w' : World} {s : RS} {x : RR} {B : Nat}
theorem RIn.mono (hS : ∀ b, S b → S' b) (h : RIn S w s x) : RIn S' w s x := ⟨h.n.mono hS hS, h.cn, h.d.mono hS, h.it, h.ic, h.il⟩
theorem RIn.keep (hS : ∀ b, S b → w'.heap[b]? = w.heap[b]?) (h : RIn S w s x) : RIn S w' s x := ⟨h.n.keep hS hS, h.cn, h.d.keep hS, h.it, h.ic, h.il⟩
theorem RIn.chg (h : RIn S w s x) (hc : Chg F w w') (hl : ∀ b, S b → b < w.heap.size ∧ ¬ F b) : RIn S w' s x := h.keep fun b hb => hc.block b (hl b hb).1 (hl b hb).2
theorem RIn.below (h : RIn S w s x) (hb : Below w.heap.size w w') (hl : ∀ b, S b → b < w.heap.size) : RIn S w' s x := h.keep fun b hbS => hb.block b (hl b hbS)
end
/-- How a record lies in nine cells. -/
def encRR : Enc RR where
  size := 9
  R := fun S w r x => ∃ s, r = (rrCells s x).toList ∧ RIn S w s x
  pos := by decide
  len := by rintro _ _ r x ⟨s, rfl, _⟩; rfl
  mono := by rintro S S' w r x hS ⟨s, rfl, h⟩; exact ⟨s, rfl, h.mono hS⟩
  keep := by rintro S w w' r x hS ⟨s, rfl, h⟩; exact ⟨s, rfl, h.keep hS⟩
  one := by
    rintro S w r x ⟨s, rfl, _⟩ u hu
    simp [rrCells] at hu
    rcases hu with rfl | rfl | rfl | rfl | rfl | rfl | rfl | rfl | rfl <;> rfl
/-- A question. -/
structure Qu where
  name : List (List UInt8)
  type : Int
  cls : Int
def encQu : Enc Qu where
  size := 3
  R := fun S w r x => ∃ A c, r = [.slice A x.name.length c, .int .i64 x.type, .int .i64 x.cls] ∧ Els encS S S w A x.name.length x.name ∧ (x.name.length ≤ c ∧ c ≤ maxLen) ∧ (-9223372036854775808 ≤ x.type ∧ x.type ≤ 9223372036854775807) ∧ (-9223372036854775808 ≤ x.cls ∧ x.cls ≤ 9223372036854775807)
  pos := by decide
  len := by rintro _ _ r x ⟨A, c, rfl, _⟩; rfl
  mono := by rintro S S' w r x hS ⟨A, c, rfl, h, h2⟩; exact ⟨A, c, rfl, h.mono hS hS, h2⟩
  keep := by rintro S w w' r x hS ⟨A, c, rfl, h, h2⟩; exact ⟨A, c, rfl, h.keep hS hS, h2⟩
  one := by
    rintro S w r x ⟨A, c, rfl, _⟩ u hu
    simp at hu
    rcases hu with rfl | rfl | rfl <;> rfl
end Go.Proofs.Ytbjaphldncagjaa

/- wname: Name walked. -/
namespace Go.Proofs.Ytbjaphldncagjaa
open Go.RowKit Go.Maps

theorem strs_noS {So Si : Nat → Prop} {w : World} {A : Option Addr} {n : Nat} {ns : List (List UInt8)} (h : Els encS So Si w A n ns) : Els encS So noS w A n ns :=
  ⟨h.1, fun hn => by
    obtain ⟨b, off, e, hb, hx⟩ := h.2 hn
    exact ⟨b, off, e, hb, fun i x hi => by obtain ⟨r, hr, hc⟩ := hx i x hi; exact ⟨r, hr, hc⟩⟩⟩

theorem wpL_look_some {w : World} {mb : Nat} {rs : List (List UInt8 × Nat)} (h : MapIs w mb rs) {k : List UInt8} {p : Nat} (hl : lookR rs k = some p) {ops : Array Oper} {rest : List Oper} {o : Oper} {a : Act} {Q : Exit → Act → World → Prop} (hg : o.guard = none) (m x : Operand) (hop : o.op = Op.lookup 137 m x true)
    (hm : a.eval m = .map (some mb)) (hx : a.eval x = .string (bstr k)) (hk : k.length ≤ maxLen)
    (hK : wpList Try.prog ops Q rest (a.put o.dst (.tuple #[.int .i64 (p : Int), .bool true])) w) : wpList Try.prog ops Q (o :: rest) a w :=
  wpL_look h hg m x hop hm hx hk (fun q hq => by rw [hl] at hq; injection hq with hq; subst hq; exact hK) (fun hn => by rw [hl] at hn; cases hn)
theorem wpL_look_none {w : World} {mb : Nat} {rs : List (List UInt8 × Nat)} (h : MapIs w mb rs) {k : List UInt8} (hl : lookR rs k = none) {ops : Array Oper} {rest : List Oper} {o : Oper} {a : Act} {Q : Exit → Act → World → Prop} (hg : o.guard = none) (m x : Operand) (hop : o.op = Op.lookup 137 m x true)
    (hm : a.eval m = .map (some mb)) (hx : a.eval x = .string (bstr k)) (hk : k.length ≤ maxLen)
    (hK : ∀ c : Int, wpList Try.prog ops Q rest (a.put o.dst (.tuple #[.int .i64 c, .bool false])) w) : wpList Try.prog ops Q (o :: rest) a w :=
  wpL_look h hg m x hop hm hx hk (fun q hq => by rw [hl] at hq; cases hq) (fun _ => hK)

theorem raw_label (x : Wr) (l : List UInt8) : (x.raw [UInt8.ofNat l.length]).raw l = x.label l := by simp [Wr.raw, Wr.label]
theorem Wtr.noted_cells {w w' : World} {B g mb : Nat} {F : Nat → Prop} {bv : Value} (hg : w.heap[g]? = some (.cells #[bv, .map (some mb)] 139 (0, 0))) (hmF : F mb ∧ mb ≠ g) (hF : ∀ k, F k → B ≤ k ∧ k < w.heap.size) (hgF : F g ∧ B ≤ g) (hgr : w.grownBy w' (some mb)) : w'.cell? ⟨g, 0, none⟩ = some bv ∧ w'.cell? ⟨g, 1, none⟩ = some (.map (some mb)) := by
  have h := (hgr.block g (hF g hgF.1).2 (fun e => hmF.2 (by injection e with e; exact e.symm))).trans hg
  exact ⟨(cell_of_row _ _ _ _ _ _ h).trans rfl, (cell_of_row _ _ _ _ _ _ h).trans rfl⟩
theorem Wtr.noted {w w' : World} {B g mb : Nat} {F : Nat → Prop} {x : Wr} {bv : Value} {r : List UInt8} (hn : x.Near) (hg : w.heap[g]? = some (.cells #[bv, .map (some mb)] 139 (0, 0))) (hbv : OwnB w B bv x.b) (hgF : F g ∧ B ≤ g)
    (hbF : ∀ k, bv.ownBlock = some k → F k ∧ k ≠ g ∧ k ≠ mb) (hmF : F mb ∧ mb ≠ g) (hF : ∀ k, F k → B ≤ k ∧ k < w.heap.size) (hl : x.b.length < 16384) (hm : MapIs w' mb ((r, x.b.length) :: x.rests)) (hgr : w.grownBy w' (some mb)) : Wtr w' B F g (x.note r) ∧ Chg F w w' := by
  have hc1 : Chg (fun k => k = mb) w w' := (Chg.refl _ w).grown hgr (fun k hk => .inl (by injection hk with hk; exact hk.symm))
  have e : x.note r = { x with rests := (r, x.b.length) :: x.rests } := by unfold Wr.note; rw [if_pos hl]
  refine ⟨⟨hn.note r, bv, mb, (hc1.block g (hF g hgF.1).2 (fun e => hmF.2 e.symm)).trans hg, ?_, ?_, hgF, hbF, hmF, fun k hk => ⟨(hF k hk).1, Nat.lt_of_lt_of_le (hF k hk).2 hc1.size⟩⟩, hc1.mono (fun k hk => .inl (by subst hk; exact hmF.1))⟩
  · rw [e]; exact hbv.chgv hc1 (fun k hk e => (hbF k hk).2.2 e)
  · rw [e]; exact hm

/-- What a name's writing returns. -/
noncomputable def nameR (ns : List (List UInt8)) : Int := if soundB ns = true then 0 else 5
noncomputable def Wr.nameS (x : Wr) (ns : List (List UInt8)) (short : Bool) : Wr := if soundB ns = true then x.name ns short else x

set_option maxRecDepth 100000 in
set_option maxHeartbeats 4000000 in
theorem name_any (w : World) (B g : Nat) (F : Nat → Prop) (x : Wr) (A : Option Addr) (n c : Nat) (ns : List (List UInt8)) (short : Bool) {So Si : Nat → Prop} (h : Wtr w B F g x) (hns : Els encS So Si w A n ns) (hSo : ∀ b, So b → b < w.heap.size ∧ ¬ F b) (hn : n ≤ 1000000000) (hnc : n ≤ c) (hcm : c ≤ maxLen)
    (hxb : x.b.length ≤ 10000000) (hxr : x.rests.length ≤ 10000000) :
    Calls Try.prog 50 #[.pointer (some ⟨g, 0, none⟩), .slice A n c, .bool short] w (RetX w B F g (x.nameS ns short) (.int .i64 (nameR ns))) := by
  have hl := hns.len
  subst hl
  have H := Lib.hid h
  have hE := strs_noS hns
  clear h hns
  have hcm' : c ≤ 9223372036854775807 := hcm
  clear hcm
  by_cases hs : soundB ns = true
  · have hS := soundB_iff.1 hs
    have hr : nameR ns = 0 := by unfold nameR; rw [if_pos hs]
    have hx : x.nameS ns short = x.name ns short := by unfold Wr.nameS; rw [if_pos hs]
    rw [hr, hx]
    have HSo := Lib.hid hSo
    have hsz := hS.2
    have hsl := sizeN_length ns
    have HS := Lib.hid hS
    clear hr hx hS hSo
    go_enter Try.func50, Try.ntmps50
    go_wp2_with (go_at_call 99; refine (sound_any A ns.length c ns _ hE hn).mono ?_; rw [hs]; rintro e w1 ⟨rfl, rfl⟩)
    clear hs
    go_loopw [21] (fun iv wr => ∃ (k : Nat) (Fk : Nat → Prop) (xk : Wr), iv = .int .i64 k ∧ k ≤ ns.length ∧ Hid (x.name ns short = xk.name (ns.drop k) short) ∧ Hid (Wtr wr B Fk g xk) ∧ Chg F w wr ∧ Hid (∀ z, Fk z → F z ∨ w.heap.size ≤ z) ∧ xk.b.length + sizeN (ns.drop k) ≤ x.b.length + sizeN ns ∧ xk.rests.length ≤ x.rests.length + k) (fun iv _ => ns.length - (intOf iv).toNat)
    case atStart => exact ⟨0, F, x, rfl, Nat.zero_le _, rfl, H, Chg.refl _ _, fun z hz => .inl hz, by simp, Nat.le_refl _⟩
    case round =>
      obtain ⟨k, Fk, xk, rfl, hk, HN, HW, hch, HF, hlb, hlr⟩ := hrel
      by_cases hlt : k < ns.length
      · obtain ⟨l, hx⟩ : ∃ l, ns[k]? = some l := ⟨_, List.getElem?_eq_getElem hlt⟩
        have hdr : ns.drop k = l :: ns.drop (k + 1) := by
          rw [List.drop_eq_getElem_cons hlt]
          rw [List.getElem?_eq_getElem hlt] at hx
          injection hx with hx
          rw [hx]
        obtain ⟨bN, offN, rfl, hsN, hcN, hll⟩ := strs_at hE hx
        have hEr : Els encS So noS wr (some ⟨bN, offN, none⟩) ns.length ns := hE.keep (fun b hb => hch.block b (HSo.out b hb).1 (HSo.out b hb).2) (fun b hb => hb.elim)
        have hcr := hch.cell hcN (HSo.out bN hsN).2
        have hcut := hEr.cut k c (Nat.le_of_lt hlt) hnc
        have hck : ¬ c = k := by omega
        rw [if_neg hck, Option.map_some, add_flat, show encS.size = 1 from rfl, Nat.mul_one] at hcut
        have hsd := (HS.out.drop k)
        have hlab := hsd.1
        have hrl := Lib.hid (restB_length (ns.drop k))
        have hsz2 := hsd.2
        have hl13 : 1 ≤ l.length ∧ l.length ≤ 63 := hlab l (by rw [hdr]; exact List.mem_cons_self ..)
        have HDR := Lib.hid hdr
        have hbs := bstr_size l
        have hl1 := hl13.1
        have hl2 := hl13.2
        have HL := Lib.hid hlab
        clear hx hdr hsd hlab hl13
        have hcb := fun W : World => Lib.run_convert_string_bytes (P := Try.prog) W 9 35 5 (bstr l) Try.underlying9 Try.underlying35 Try.underlying5
        have hkl : (restB (ns.drop k)).length ≤ maxLen := by have := hrl.out; unfold maxLen; omega
        have hsn : sizeN (ns.drop k) = l.length + 1 + sizeN (ns.drop (k + 1)) := by rw [HDR.out]; rfl
        have HSN := Lib.hid hsn
        have hle2 : xk.b.length + (l.length + 1 + sizeN (ns.drop (k + 1))) ≤ x.b.length + sizeN ns := by omega
        clear hsn
        rcases hlk : lookR xk.rests (restB (ns.drop k)) with _ | p
        · have HLK := Lib.hid hlk
          clear hlk
          by_cases h16 : xk.b.length < 16384
          · have HNX : Hid (xk.name (ns.drop k) short = (((xk.note (restB (ns.drop k))).label l).name (ns.drop (k + 1)) short)) := by
              show _ = _
              have := HLK.out
              rw [HDR.out] at this ⊢
              rw [Wr.name, this]
            go_wp2_with (first
              | (go_at_call 100; (with_reducible refine (rest_any _ _ _ (ns.drop k) _ hcut (by omega) (fun y hy => by have := (HL.out y hy).2; omega)).mono ?_); rintro e w2 ⟨_, rfl, rfl, hb2⟩; have HW2 := Lib.hid (HW.out.below hb2); have hch2 := hch.nx hb2; obtain ⟨hn2, bv, mb, hgg, hbv, hm, hgF2, hbF, hmF, hFl⟩ := HW.out.below hb2; obtain ⟨Ab, cb, rfl, _⟩ := hbv.form; have HG := Lib.hid hgg; have e0 : w2.cell? ⟨g, 0, none⟩ = some (.slice Ab xk.b.length cb) := (cell_of_row _ _ _ _ _ _ hgg).trans rfl; have e1 : w2.cell? ⟨g, 1, none⟩ = some (.map (some mb)) := (cell_of_row _ _ _ _ _ _ hgg).trans rfl; clear hgg)
              | ((with_reducible show wpList _ _ _ (⟨some 36, _, _, _, _, _⟩ :: _) _ _); refine wpL_look_none hm HLK.out rfl (.tmp 34) (.tmp 35) rfl rfl rfl hkl ?_; intro cc; have HM := Lib.hid hm; clear hm))
            obtain ⟨w3, hrun, hm3, hg3⟩ := (HM.out.keep (w' := w2.drew) rfl).put (k := restB (ns.drop k)) hkl (p := xk.b.length) (by omega) (by unfold maxLen; omega)
            have hnt := Wtr.noted (w := w2.drew) hn2 HG.out hbv.drew hgF2 hbF hmF hFl h16 hm3 hg3
            have HNT := Lib.hid hnt.1
            have hcn := (hch2.nx bl.drew).trans hnt.2 HF.out
            have HP := Lib.hid (Wtr.noted_cells (w := w2.drew) HG.out hmF hFl hgF2 hg3)
            have hnb := xk.note_b (restB (ns.drop k))
            have hnr := xk.note_rests (restB (ns.drop k))
            have HNB := Lib.hid hnb
            clear hnt hm3 hnb
            go_region_held3 (fun w' => w'.cell? ⟨g, 0, none⟩ = some (.slice (Ab) xk.b.length cb) ∧ w'.cell? ⟨g, 1, none⟩ = some (.map (some mb)))
              (first
                | with_reducible exact ⟨e0, e1⟩
                | with_reducible exact ⟨below_cell bl.drew e0, below_cell bl.drew e1⟩
                | with_reducible exact HP.out)
              (fail)
            go_wp2_with (first
              | (go_at_call 101; refine (wnum_any w3 B g Fk (xk.note (restB (ns.drop k))) l.length 1 HNT.out (by rw [HNB.out]; omega)).mono ?_; rintro e w4 ⟨rfl, F4, h4, hc4, hF4⟩; rw [put_len l hl2] at h4; have H4 := Lib.hid h4; have hr4 := (conv_rd w4 l).1; have hb4 := (conv_rd w4 l).2; clear h4)
              | (go_at_call 58; refine (wraw_any _ B g F4 _ _ _ _ l (H4.out.below hb4) hr4 (by simp only [Wr.raw, List.length_append, List.length_singleton]; rw [HNB.out]; omega)).mono ?_; rintro e w5 ⟨rfl, F5, h5, hc5, hF5⟩))
            go_roundw
            case rel =>
              have hq4 : ∀ z, F4 z → F z ∨ w.heap.size ≤ z := fun z hz => (hF4 z hz).elim (HF.out z) (fun h => .inr (Nat.le_trans hcn.size h))
              have hq5 := (hcn.trans hc4 HF.out).nx hb4
              exact ⟨k + 1, F5, ((xk.note (restB (ns.drop k))).raw [UInt8.ofNat l.length]).raw l, by go_num, by omega, HN.out.trans (HNX.out.trans (by rw [raw_label])), h5, hq5.trans hc5 hq4, fun z hz => (hF5 z hz).elim (hq4 z) (fun h => .inr (Nat.le_trans hq5.size h)), by simp only [Wr.raw, List.length_append, List.length_singleton]; rw [HNB.out]; omega, by show (xk.note (restB (ns.drop k))).rests.length ≤ _; omega⟩
            case measure => simp [intOf]; omega
          · have HNX : Hid (xk.name (ns.drop k) short = (xk.label l).name (ns.drop (k + 1)) short) := by
              show _ = _
              have := HLK.out
              rw [HDR.out] at this ⊢
              rw [Wr.name, this]
              unfold Wr.note
              rw [if_neg h16]
            go_wp2_with (first
              | (go_at_call 100; (with_reducible refine (rest_any _ _ _ (ns.drop k) _ hcut (by omega) (fun y hy => by have := (HL.out y hy).2; omega)).mono ?_); rintro e w2 ⟨_, rfl, rfl, hb2⟩; have HW2 := Lib.hid (HW.out.below hb2); have hch2 := hch.nx hb2; obtain ⟨hn2, bv, mb, hgg, hbv, hm, hgF2, hbF, hmF, hFl⟩ := HW.out.below hb2; obtain ⟨Ab, cb, rfl, _⟩ := hbv.form; have HG := Lib.hid hgg; have e0 : w2.cell? ⟨g, 0, none⟩ = some (.slice Ab xk.b.length cb) := (cell_of_row _ _ _ _ _ _ hgg).trans rfl; have e1 : w2.cell? ⟨g, 1, none⟩ = some (.map (some mb)) := (cell_of_row _ _ _ _ _ _ hgg).trans rfl; clear hgg)
              | ((with_reducible show wpList _ _ _ (⟨some 36, _, _, _, _, _⟩ :: _) _ _); refine wpL_look_none hm HLK.out rfl (.tmp 34) (.tmp 35) rfl rfl rfl hkl ?_; intro cc)
              | (go_at_call 101; refine (wnum_any w2 B g Fk xk l.length 1 HW2.out (by omega)).mono ?_; rintro e w4 ⟨rfl, F4, h4, hc4, hF4⟩; rw [put_len l hl2] at h4; have H4 := Lib.hid h4; have hr4 := (conv_rd w4 l).1; have hb4 := (conv_rd w4 l).2; clear h4)
              | (go_at_call 58; refine (wraw_any _ B g F4 _ _ _ _ l (H4.out.below hb4) hr4 (by simp only [Wr.raw, List.length_append, List.length_singleton]; omega)).mono ?_; rintro e w5 ⟨rfl, F5, h5, hc5, hF5⟩))
            go_roundw
            case rel =>
              have hq4 : ∀ z, F4 z → F z ∨ w.heap.size ≤ z := fun z hz => (hF4 z hz).elim (HF.out z) (fun h => .inr (Nat.le_trans hch2.size h))
              have hq5 := (hch2.trans hc4 HF.out).nx hb4
              exact ⟨k + 1, F5, (xk.raw [UInt8.ofNat l.length]).raw l, by go_num, by omega, HN.out.trans (HNX.out.trans (by rw [raw_label])), h5, hq5.trans hc5 hq4, fun z hz => (hF5 z hz).elim (hq4 z) (fun h => .inr (Nat.le_trans hq5.size h)), by simp only [Wr.raw, List.length_append, List.length_singleton]; omega, by show xk.rests.length ≤ _; omega⟩
            case measure => simp [intOf]; omega
        · have HLK := Lib.hid hlk
          have hp : p < 16384 := HW.out.near _ _ hlk
          have hor := or_ptr p hp
          clear hlk
          rcases short with _ | _
          · have HNX : Hid (xk.name (ns.drop k) false = (xk.label l).name (ns.drop (k + 1)) false) := by
              show _ = _
              have := HLK.out
              rw [HDR.out] at this ⊢
              rw [Wr.name, this]
              rfl
            go_wp2_with (first
              | (go_at_call 100; (with_reducible refine (rest_any _ _ _ (ns.drop k) _ hcut (by omega) (fun y hy => by have := (HL.out y hy).2; omega)).mono ?_); rintro e w2 ⟨_, rfl, rfl, hb2⟩; have HW2 := Lib.hid (HW.out.below hb2); have hch2 := hch.nx hb2; obtain ⟨hn2, bv, mb, hgg, hbv, hm, hgF2, hbF, hmF, hFl⟩ := HW.out.below hb2; obtain ⟨Ab, cb, rfl, _⟩ := hbv.form; have HG := Lib.hid hgg; have e0 : w2.cell? ⟨g, 0, none⟩ = some (.slice Ab xk.b.length cb) := (cell_of_row _ _ _ _ _ _ hgg).trans rfl; have e1 : w2.cell? ⟨g, 1, none⟩ = some (.map (some mb)) := (cell_of_row _ _ _ _ _ _ hgg).trans rfl; clear hgg)
              | ((with_reducible show wpList _ _ _ (⟨some 36, _, _, _, _, _⟩ :: _) _ _); refine wpL_look_some hm HLK.out rfl (.tmp 34) (.tmp 35) rfl rfl rfl hkl ?_)
              | (go_at_call 101; refine (wnum_any w2 B g Fk xk l.length 1 HW2.out (by omega)).mono ?_; rintro e w4 ⟨rfl, F4, h4, hc4, hF4⟩; rw [put_len l hl2] at h4; have H4 := Lib.hid h4; have hr4 := (conv_rd w4 l).1; have hb4 := (conv_rd w4 l).2; clear h4)
              | (go_at_call 58; refine (wraw_any _ B g F4 _ _ _ _ l (H4.out.below hb4) hr4 (by simp only [Wr.raw, List.length_append, List.length_singleton]; omega)).mono ?_; rintro e w5 ⟨rfl, F5, h5, hc5, hF5⟩))
            go_roundw
            case rel =>
              have hq4 : ∀ z, F4 z → F z ∨ w.heap.size ≤ z := fun z hz => (hF4 z hz).elim (HF.out z) (fun h => .inr (Nat.le_trans hch2.size h))
              have hq5 := (hch2.trans hc4 HF.out).nx hb4
              exact ⟨k + 1, F5, (xk.raw [UInt8.ofNat l.length]).raw l, by go_num, by omega, HN.out.trans (HNX.out.trans (by rw [raw_label])), h5, hq5.trans hc5 hq4, fun z hz => (hF5 z hz).elim (hq4 z) (fun h => .inr (Nat.le_trans hq5.size h)), by simp only [Wr.raw, List.length_append, List.length_singleton]; omega, by show xk.rests.length ≤ _; omega⟩
            case measure => simp [intOf]; omega
          · have HNX : Hid (xk.name (ns.drop k) true = xk.raw (ptrB p)) := by
              show _ = _
              have := HLK.out
              rw [HDR.out] at this ⊢
              rw [Wr.name, this]
              rfl
            go_wp2_with (first
              | (go_at_call 100; (with_reducible refine (rest_any _ _ _ (ns.drop k) _ hcut (by omega) (fun y hy => by have := (HL.out y hy).2; omega)).mono ?_); rintro e w2 ⟨_, rfl, rfl, hb2⟩; have HW2 := Lib.hid (HW.out.below hb2); have hch2 := hch.nx hb2; obtain ⟨hn2, bv, mb, hgg, hbv, hm, hgF2, hbF, hmF, hFl⟩ := HW.out.below hb2; obtain ⟨Ab, cb, rfl, _⟩ := hbv.form; have HG := Lib.hid hgg; have e0 : w2.cell? ⟨g, 0, none⟩ = some (.slice Ab xk.b.length cb) := (cell_of_row _ _ _ _ _ _ hgg).trans rfl; have e1 : w2.cell? ⟨g, 1, none⟩ = some (.map (some mb)) := (cell_of_row _ _ _ _ _ _ hgg).trans rfl; clear hgg)
              | ((with_reducible show wpList _ _ _ (⟨some 36, _, _, _, _, _⟩ :: _) _ _); refine wpL_look_some hm HLK.out rfl (.tmp 34) (.tmp 35) rfl rfl rfl hkl ?_)
              | (go_at_call 101; refine (wnum_any w2 B g Fk xk (49152 + (p : Int)) 2 HW2.out (by omega)).mono ?_; rintro e w4 ⟨rfl, F4, h4, hc4, hF4⟩; rw [put_ptr p hp] at h4; have H4 := Lib.hid h4; clear h4))
            go_ret
            refine ⟨rfl, F4, ?_, hch2.trans hc4 HF.out, fun z hz => (hF4 z hz).elim (HF.out z) (fun h => .inr (Nat.le_trans hch2.size h))⟩
            rw [HN.out, HNX.out]
            exact H4.out
      · obtain rfl : k = ns.length := by omega
        have hdn : ns.drop ns.length = [] := List.drop_length
        have HDN := Lib.hid hdn
        have hbl : xk.b.length ≤ 100000000 := by have := sizeN_length (ns.drop ns.length); omega
        clear hdn
        go_wp2_with (go_at_call 101; refine (wnum_any _ B g Fk xk 0 1 HW.out hbl).mono ?_; rintro e w3 ⟨rfl, F3, h3, hc3, hF3⟩)
        go_ret
        refine ⟨rfl, F3, ?_, hch.trans hc3 HF.out, fun z hz => (hF3 z hz).elim (HF.out z) (fun h => .inr (Nat.le_trans hch.size h))⟩
        rw [HN.out, HDN.out]
        rw [put_zero] at h3
        exact h3
  · have hs' : soundB ns = false := by simpa using hs
    have hr : nameR ns = 5 := by unfold nameR; rw [if_neg hs]
    have hx : x.nameS ns short = x := by unfold Wr.nameS; rw [if_neg hs]
    rw [hr, hx]
    clear hr hx hs
    go_enter Try.func50, Try.ntmps50
    go_wp2_with (go_at_call 99; refine (sound_any A ns.length c ns _ hE hn).mono ?_; rw [hs']; rintro e w1 ⟨rfl, rfl⟩)
    go_ret
    exact ⟨rfl, F, H.out, Chg.refl _ _, fun z hz => .inl hz⟩
end Go.Proofs.Ytbjaphldncagjaa
