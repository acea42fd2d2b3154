/- Parts of a proof, joined: RdG6, Shapes, RrMem, DIn, OpenRR, OwnRR, Qs, MsMem, OpenMs, FinePlain. -/
import Derived.Test.YtimkdpkhdbiniaaSDM04
import Derived.Test.YtimkdpkhdbiniaaSDM01
import Derived.Test.YtimkdpkhdbiniaaSDM03
import Derived.Test.YtimkdpkhdbiniaaSDM02
/- rdata: the reader's data: where its walk stands. -/
namespace Go.Proofs.Ytimkdpkhdbiniaa
open Go.RowKit
set_option maxRecDepth 100000

theorem ownB_chg {w w' : World} {base : Nat} {v : Value} {F : Nat → Prop} {bs : List UInt8} (h : OwnB w base v bs) (hc : Chg F w w') (hv : ∀ k, base ≤ k → k < w.heap.size → ¬ F k) : OwnB w' base v bs := by
  have hl := fun k hk => World.ownsRow.lt h k hk
  refine ⟨h.1, ?_⟩
  rcases h.2 with h0 | ⟨g, cap, cur, rfl, h1, h2, h3⟩
  · exact .inl h0
  · exact .inr ⟨g, cap, cur, rfl, h1, (hc.heap h2 (hv g (hl g rfl).1 (hl g rfl).2)), h3⟩
theorem ownE_chg {α : Type} {E : Enc α} {e : TypeId} {w w' : World} {base : Nat} {v : Value} {F : Nat → Prop} {xs : List α} (h : OwnE E e noS w base v xs) (hc : Chg F w w') (hv : ∀ k, base ≤ k → k < w.heap.size → ¬ F k) : OwnE E e noS w' base v xs :=
  OwnE.chg h hc (fun k hk => hv k (OwnE.lt h k hk).1 (OwnE.lt h k hk).2) (fun _ hz => hz.elim)

/-- Data whose slices are rows of the call's own. -/
structure DGot (w : World) (B : Nat) (s : DS) (x : Da) : Prop where
  b : OwnB w B (.slice s.A0 x.bytes.length s.c0) x.bytes
  h : OwnS w B (.slice s.A1 x.host.length s.c1) x.host
  m : OwnS w B (.slice s.A2 x.mail.length s.c2) x.mail
  n : OwnI w B (.slice s.A3 x.nums.length s.c3) x.nums
  t : OwnS w B (.slice s.A4 x.texts.length s.c4) x.texts
def DS.nil : DS := ⟨none, none, none, none, none, 0, 0, 0, 0, 0⟩
theorem DGot.nil (w : World) (B : Nat) : DGot w B DS.nil Da.zero := ⟨OwnB.nil _ _, OwnS.nil _ _, OwnS.nil _ _, OwnI.nil _ _, OwnS.nil _ _⟩
theorem DGot.chg {w w' : World} {B : Nat} {s : DS} {x : Da} {F : Nat → Prop} (h : DGot w B s x) (hc : Chg F w w') (hv : ∀ k, B ≤ k → k < w.heap.size → ¬ F k) : DGot w' B s x :=
  ⟨ownB_chg h.b hc hv, ownE_chg h.h hc hv, ownE_chg h.m hc hv, ownE_chg h.n hc hv, ownE_chg h.t hc hv⟩
theorem DGot.below {w w' : World} {B : Nat} {s : DS} {x : Da} (h : DGot w B s x) (hb : Below w.heap.size w w') : DGot w' B s x := h.chg (Chg.of_below (F := fun _ => False) hb) (fun _ _ _ h => h)
theorem DGot.base_le {w : World} {B B' : Nat} {s : DS} {x : Da} (h : DGot w B s x) (hb : B' ≤ B) : DGot w B' s x :=
  ⟨h.b.mono hb, OwnE.base_le h.h hb, OwnE.base_le h.m hb, OwnE.base_le h.n hb, OwnE.base_le h.t hb⟩
theorem OwnE.slc {α : Type} {E : Enc α} {e : TypeId} {S : Nat → Prop} {w : World} {base : Nat} {A : Option Addr} {n c : Nat} {xs : List α} (h : OwnE E e S w base (.slice A n c) xs) : RdE E w A n xs ∧ n = xs.length ∧ n ≤ c ∧ c ≤ maxLen := by
  obtain ⟨A', c', hv, hr, h1, h2⟩ := h.rdE
  injection hv with e1 e2 e3
  subst e1 e2 e3
  exact ⟨hr, rfl, h1, h2⟩
theorem DGot.rd {w : World} {B : Nat} {s : DS} {x : Da} (h : DGot w B s x) : DRd w s x := by
  obtain ⟨hb, _⟩ := h.b.rd
  obtain ⟨A0, c0, e0, _, hb1, hb2⟩ := h.b.form
  injection e0 with e1 e2 e3
  subst e1 e3
  obtain ⟨h1, _, h2⟩ := OwnE.slc h.h
  obtain ⟨m1, _, m2⟩ := OwnE.slc h.m
  obtain ⟨n1, _, n2⟩ := OwnE.slc h.n
  obtain ⟨t1, _, t2⟩ := OwnE.slc h.t
  exact ⟨hb, h1, m1, n1, t1, ⟨hb1, hb2⟩, h2, m2, n2, t2⟩

def dCells (s : DS) (d : Da) : Array Value := #[.slice s.A0 d.bytes.length s.c0, .slice s.A1 d.host.length s.c1, .slice s.A2 d.mail.length s.c2, .slice s.A3 d.nums.length s.c3, .slice s.A4 d.texts.length s.c4]
def shCells (s : Shp) : Array Value := #[.int .i64 s.bytes, .bool s.host, .bool s.mail, .bool s.short, .int .i64 s.nums, .int .i64 s.size, .bool s.texts, .bool s.first]
structure RdSt (w wr : World) (p : Nat) (bv : Value) (q en : Nat) (sh : Shp) (s : DS) (d : Da) : Prop where
  P : Rdr wr p bv (q : Int) (en : Int)
  S : wr.heap[w.heap.size]? = some (.cells (shCells sh) 182 (0, 0))
  D : wr.heap[w.heap.size + 1]? = some (.cells (dCells s d) 46 (0, 0))
  G : DGot wr (w.heap.size + 2) s d
  C : Chg (fun k => k = p) w wr
  lt : p < w.heap.size
section
variable {w wr w' : World} {p q q' en : Nat} {bv : Value} {sh : Shp} {s : DS} {d : Da}
theorem RdSt.start (h : Rdr w p bv (q : Int) (en : Int)) (sh : Shp) : RdSt w ((w.alloc (.cells (shCells sh) 182)).alloc (.cells (dCells DS.nil Da.zero) 46)) p bv q en sh DS.nil Da.zero := by
  have hb : Below w.heap.size w ((w.alloc (.cells (shCells sh) 182)).alloc (.cells (dCells DS.nil Da.zero) 46)) := nx (bl.alloc (Nat.le_refl _) _) (bl.alloc (Nat.le_refl _) _)
  have hsz : (w.alloc (.cells (shCells sh) 182)).heap.size = w.heap.size + 1 := by simp
  refine ⟨h.below hb, (heap_alloc_old _ _ (by rw [hsz]; omega)).trans (heap_alloc_new w _), ?_, DGot.nil _ _, Chg.of_below hb, h.lt⟩
  rw [← hsz]
  exact heap_alloc_new _ _
theorem RdSt.size (h : RdSt w wr p bv q en sh s d) : w.heap.size + 2 ≤ wr.heap.size := (Array.getElem?_eq_some_iff.1 h.D).1
theorem RdSt.call (h : RdSt w wr p bv q en sh s d) (hp : Rdr w' p bv (q' : Int) (en : Int)) (hc : Chg (fun k => k = p) wr w') : RdSt w w' p bv q' en sh s d := by
  have hl := h.lt
  exact ⟨hp, hc.heap h.S (by omega), hc.heap h.D (by omega), h.G.chg hc (fun k h1 _ => by omega), h.C.trans hc (fun _ h => .inl h), h.lt⟩
theorem RdSt.below (h : RdSt w wr p bv q en sh s d) (hb : Below wr.heap.size wr w') : RdSt w w' p bv q en sh s d := h.call (h.P.below hb) (Chg.of_below hb)
theorem RdSt.shc (h : RdSt w wr p bv q en sh s d) (j : Nat) : wr.cell? ⟨w.heap.size, j, none⟩ = (shCells sh)[j]? := cell_of_row _ _ _ _ _ _ h.S
theorem RdSt.dc (h : RdSt w wr p bv q en sh s d) (j : Nat) : wr.cell? ⟨w.heap.size + 1, j, none⟩ = (dCells s d)[j]? := cell_of_row _ _ _ _ _ _ h.D
theorem RdSt.df (h : RdSt w wr p bv q en sh s d) (j : Nat) : wr.frozen? ⟨w.heap.size + 1, j, none⟩ = false := frozen_of_row _ _ _ _ _ h.D
theorem RdSt.put (h : RdSt w wr p bv q en sh s d) (j : Nat) (v : Value) (s' : DS) (d' : Da) (hd : (dCells s d).setIfInBounds j v = dCells s' d') (hg : DGot wr (w.heap.size + 2) s' d') : RdSt w (wr.setCell ⟨w.heap.size + 1, j, none⟩ v) p bv q en sh s' d' := by
  have hl := h.lt
  have hc : Chg (fun k => k = w.heap.size + 1) wr (wr.setCell ⟨w.heap.size + 1, j, none⟩ v) := chg_g1 _ _ _ _
  refine ⟨hc.heap h.P (by omega), hc.heap h.S (by omega), ?_, hg.chg hc (fun k h1 _ => by omega), h.C.trans hc (fun k hk => .inr (by omega)), h.lt⟩
  rw [← hd]
  exact heap_setCell_same _ _ _ _ _ _ h.D
theorem RdSt.setB (h : RdSt w wr p bv q en sh s d) {A : Option Addr} {c : Nat} {x : List UInt8} (ho : OwnB wr (w.heap.size + 2) (.slice A x.length c) x) : RdSt w (wr.setCell ⟨w.heap.size + 1, 0, none⟩ (.slice A x.length c)) p bv q en sh { s with A0 := A, c0 := c } { d with bytes := x } :=
  h.put 0 _ _ _ rfl ⟨ho, h.G.h, h.G.m, h.G.n, h.G.t⟩
theorem RdSt.setH (h : RdSt w wr p bv q en sh s d) {A : Option Addr} {c : Nat} {x : List (List UInt8)} (ho : OwnS wr (w.heap.size + 2) (.slice A x.length c) x) : RdSt w (wr.setCell ⟨w.heap.size + 1, 1, none⟩ (.slice A x.length c)) p bv q en sh { s with A1 := A, c1 := c } { d with host := x } :=
  h.put 1 _ _ _ rfl ⟨h.G.b, ho, h.G.m, h.G.n, h.G.t⟩
theorem RdSt.setM (h : RdSt w wr p bv q en sh s d) {A : Option Addr} {c : Nat} {x : List (List UInt8)} (ho : OwnS wr (w.heap.size + 2) (.slice A x.length c) x) : RdSt w (wr.setCell ⟨w.heap.size + 1, 2, none⟩ (.slice A x.length c)) p bv q en sh { s with A2 := A, c2 := c } { d with mail := x } :=
  h.put 2 _ _ _ rfl ⟨h.G.b, h.G.h, ho, h.G.n, h.G.t⟩
theorem RdSt.setN (h : RdSt w wr p bv q en sh s d) {A : Option Addr} {c : Nat} {x : List Int} (ho : OwnI wr (w.heap.size + 2) (.slice A x.length c) x) : RdSt w (wr.setCell ⟨w.heap.size + 1, 3, none⟩ (.slice A x.length c)) p bv q en sh { s with A3 := A, c3 := c } { d with nums := x } :=
  h.put 3 _ _ _ rfl ⟨h.G.b, h.G.h, h.G.m, ho, h.G.t⟩
theorem RdSt.setT (h : RdSt w wr p bv q en sh s d) {A : Option Addr} {c : Nat} {x : List (List UInt8)} (ho : OwnS wr (w.heap.size + 2) (.slice A x.length c) x) : RdSt w (wr.setCell ⟨w.heap.size + 1, 4, none⟩ (.slice A x.length c)) p bv q en sh { s with A4 := A, c4 := c } { d with texts := x } :=
  h.put 4 _ _ _ rfl ⟨h.G.b, h.G.h, h.G.m, h.G.n, ho⟩
/-- The end's store of what is there already. -/
theorem RdSt.same (h : RdSt w wr p bv q en sh s d) : RdSt w (((((wr.setCell ⟨w.heap.size + 1, 0, none⟩ (.slice s.A0 d.bytes.length s.c0)).setCell ⟨w.heap.size + 1, 1, none⟩ (.slice s.A1 d.host.length s.c1)).setCell ⟨w.heap.size + 1, 2, none⟩ (.slice s.A2 d.mail.length s.c2)).setCell ⟨w.heap.size + 1, 3, none⟩ (.slice s.A3 d.nums.length s.c3)).setCell ⟨w.heap.size + 1, 4, none⟩ (.slice s.A4 d.texts.length s.c4)) p bv q en sh s d := by
  have k : ∀ {u : World} (j : Nat) (v : Value), (dCells s d).setIfInBounds j v = dCells s d → RdSt w u p bv q en sh s d → RdSt w (u.setCell ⟨w.heap.size + 1, j, none⟩ v) p bv q en sh s d := fun j v e h => h.put j v _ _ e h.G
  exact k 4 _ rfl (k 3 _ rfl (k 2 _ rfl (k 1 _ rfl (k 0 _ rfl h))))
end
/-- What the reader's data says. -/
def dataE (b : List UInt8) (pos en : Nat) (s : Shp) : Except Int (Da × Nat) :=
  match dataR b pos en s with
  | .error e => .error e
  | .ok (d, q) => if q < en then .error 7 else .ok (d, q)
def goodD (B : Nat) (v : Value) (w' : World) (x : Da) : Prop := ∃ s, v = dsV s x ∧ DGot w' B s x
end Go.Proofs.Ytimkdpkhdbiniaa

/- rdata.shapes: which fields a type has. -/
namespace Go.Proofs.Ytimkdpkhdbiniaa
open Go.RowKit
set_option maxRecDepth 100000
set_option linter.unusedVariables false

set_option maxHeartbeats 2000000 in
theorem shapes_any (k : Int) (w : World) : Calls Try.prog 156 #[.int .i64 k] w (RetP (fun v _ => v = shpV (shapeP k)) w) := by
  by_cases h1 : k = 1
  · subst h1
    go_enter Try.func156, Try.ntmps156
    go_wp2
    refine bodyPost_ret (v := shpV shpA) ?_ rfl ⟨_, rfl, rfl, bl.alloc (Nat.le_refl _) _⟩
    simp [results, Try.results156, go_sem]
    rfl
  by_cases h28 : k = 28
  · subst h28
    go_enter Try.func156, Try.ntmps156
    go_wp2
    refine bodyPost_ret (v := shpV shpQ) ?_ rfl ⟨_, rfl, rfl, bl.alloc (Nat.le_refl _) _⟩
    simp [results, Try.results156, go_sem]
    rfl
  by_cases h2 : k = 2
  · subst h2
    go_enter Try.func156, Try.ntmps156
    go_wp2
    refine bodyPost_ret (v := shpV shpN) ?_ rfl ⟨_, rfl, rfl, bl.alloc (Nat.le_refl _) _⟩
    simp [results, Try.results156, go_sem]
    rfl
  by_cases h5 : k = 5
  · subst h5
    go_enter Try.func156, Try.ntmps156
    go_wp2
    refine bodyPost_ret (v := shpV shpN) ?_ rfl ⟨_, rfl, rfl, bl.alloc (Nat.le_refl _) _⟩
    simp [results, Try.results156, go_sem]
    rfl
  by_cases h12 : k = 12
  · subst h12
    go_enter Try.func156, Try.ntmps156
    go_wp2
    refine bodyPost_ret (v := shpV shpN) ?_ rfl ⟨_, rfl, rfl, bl.alloc (Nat.le_refl _) _⟩
    simp [results, Try.results156, go_sem]
    rfl
  by_cases h15 : k = 15
  · subst h15
    go_enter Try.func156, Try.ntmps156
    go_wp2
    refine bodyPost_ret (v := shpV shpM) ?_ rfl ⟨_, rfl, rfl, bl.alloc (Nat.le_refl _) _⟩
    simp [results, Try.results156, go_sem]
    rfl
  by_cases h6 : k = 6
  · subst h6
    go_enter Try.func156, Try.ntmps156
    go_wp2
    refine bodyPost_ret (v := shpV shpS) ?_ rfl ⟨_, rfl, rfl, bl.alloc (Nat.le_refl _) _⟩
    simp [results, Try.results156, go_sem]
    rfl
  by_cases h33 : k = 33
  · subst h33
    go_enter Try.func156, Try.ntmps156
    go_wp2
    refine bodyPost_ret (v := shpV shpV3) ?_ rfl ⟨_, rfl, rfl, bl.alloc (Nat.le_refl _) _⟩
    simp [results, Try.results156, go_sem]
    rfl
  by_cases h16 : k = 16
  · subst h16
    go_enter Try.func156, Try.ntmps156
    go_wp2
    refine bodyPost_ret (v := shpV shpT) ?_ rfl ⟨_, rfl, rfl, bl.alloc (Nat.le_refl _) _⟩
    simp [results, Try.results156, go_sem]
    rfl
  have he : shapeP k = shpB := by unfold shapeP; rw [if_neg h1, if_neg h28, if_neg (by omega), if_neg h15, if_neg h6, if_neg h33, if_neg h16]
  rw [he]
  go_enter Try.func156, Try.ntmps156
  go_wp2
  refine bodyPost_ret (v := shpV shpB) ?_ rfl ⟨_, rfl, rfl, bl.alloc (Nat.le_refl _) _⟩
  simp [results, Try.results156, go_sem]
  rfl
end Go.Proofs.Ytimkdpkhdbiniaa

/- rr: how records lie in memory. -/
namespace Go.Proofs.Ytimkdpkhdbiniaa
open Go.RowKit
set_option maxRecDepth 100000

/-- Where a record's slices lead. -/
structure RS where
  A : Option Addr
  c : Nat
  d : DS
def RS.nil : RS := ⟨none, 0, DS.nil⟩
def rrCells (s : RS) (x : RR) : Array Value := #[.slice s.A x.name.length s.c, .int .i64 x.type, .int .i64 x.cls, .int .i64 x.ttl, .slice s.d.A0 x.data.bytes.length s.d.c0, .slice s.d.A1 x.data.host.length s.d.c1, .slice s.d.A2 x.data.mail.length s.d.c2, .slice s.d.A3 x.data.nums.length s.d.c3, .slice s.d.A4 x.data.texts.length s.d.c4]
/-- A record in a block of its own. -/
def RRow (w : World) (q : Nat) (s : RS) (x : RR) : Prop := w.heap[q]? = some (.cells (rrCells s x) 84 (0, 0))
section
variable {w w' : World} {q : Nat} {s s' : RS} {x x' : RR}
theorem RRow.lt (h : RRow w q s x) : q < w.heap.size := (Array.getElem?_eq_some_iff.1 h).1
theorem RRow.below (h : RRow w q s x) (hb : Below w.heap.size w w') : RRow w' q s x := (hb.block q h.lt).trans h
theorem RRow.cell (h : RRow w q s x) (j : Nat) : w.cell? ⟨q, j, none⟩ = (rrCells s x)[j]? := cell_of_row _ _ _ _ _ _ h
theorem RRow.free (h : RRow w q s x) (j : Nat) : w.frozen? ⟨q, j, none⟩ = false := frozen_of_row _ _ _ _ _ h
theorem RRow.put (h : RRow w q s x) (j : Nat) (v : Value) (s' : RS) (x' : RR) (e : (rrCells s x).setIfInBounds j v = rrCells s' x') : RRow (w.setCell ⟨q, j, none⟩ v) q s' x' := by
  unfold RRow
  rw [← e]
  exact heap_setCell_same _ _ _ _ _ _ h
theorem RRow.cells (h : RRow w q s x) : w.cell? ⟨q, 0, none⟩ = some (.slice s.A x.name.length s.c) ∧ w.cell? ⟨q, 1, none⟩ = some (.int .i64 x.type) ∧ w.cell? ⟨q, 2, none⟩ = some (.int .i64 x.cls) ∧ w.cell? ⟨q, 3, none⟩ = some (.int .i64 x.ttl) ∧
    w.cell? ⟨q, 4, none⟩ = some (.slice s.d.A0 x.data.bytes.length s.d.c0) ∧ w.cell? ⟨q, 5, none⟩ = some (.slice s.d.A1 x.data.host.length s.d.c1) ∧ w.cell? ⟨q, 6, none⟩ = some (.slice s.d.A2 x.data.mail.length s.d.c2) ∧ w.cell? ⟨q, 7, none⟩ = some (.slice s.d.A3 x.data.nums.length s.d.c3) ∧ w.cell? ⟨q, 8, none⟩ = some (.slice s.d.A4 x.data.texts.length s.d.c4) :=
  ⟨(h.cell 0).trans rfl, (h.cell 1).trans rfl, (h.cell 2).trans rfl, (h.cell 3).trans rfl, (h.cell 4).trans rfl, (h.cell 5).trans rfl, (h.cell 6).trans rfl, (h.cell 7).trans rfl, (h.cell 8).trans rfl⟩
end
section
variable {w wr w' : World} {s : RS} {x : RR}
end
end Go.Proofs.Ytimkdpkhdbiniaa

/- Data and records in memory, in blocks of a set; how a list of them lies. -/
namespace Go.Proofs.Ytimkdpkhdbiniaa
open Go.RowKit
set_option maxRecDepth 100000

structure DIn (S : Nat → Prop) (w : World) (s : DS) (x : Da) : Prop where
  b : Els encB S S w s.A0 x.bytes.length x.bytes
  h : Els encS S S w s.A1 x.host.length x.host
  m : Els encS S S w s.A2 x.mail.length x.mail
  n : Els encI S S w s.A3 x.nums.length x.nums
  t : Els encS S S w s.A4 x.texts.length x.texts
  cb : x.bytes.length ≤ s.c0 ∧ s.c0 ≤ maxLen
  ch : x.host.length ≤ s.c1 ∧ s.c1 ≤ maxLen
  cm : x.mail.length ≤ s.c2 ∧ s.c2 ≤ maxLen
  cn : x.nums.length ≤ s.c3 ∧ s.c3 ≤ maxLen
  ct : x.texts.length ≤ s.c4 ∧ s.c4 ≤ maxLen
section
variable {S S' F : Nat → Prop} {w w' : World} {s : DS} {x : Da} {B : Nat}
theorem DIn.mono (hS : ∀ b, S b → S' b) (h : DIn S w s x) : DIn S' w s x :=
  ⟨h.b.mono hS hS, h.h.mono hS hS, h.m.mono hS hS, h.n.mono hS hS, h.t.mono hS hS, h.cb, h.ch, h.cm, h.cn, h.ct⟩
theorem DIn.keep (hS : ∀ b, S b → w'.heap[b]? = w.heap[b]?) (h : DIn S w s x) : DIn S w' s x :=
  ⟨h.b.keep hS hS, h.h.keep hS hS, h.m.keep hS hS, h.n.keep hS hS, h.t.keep hS hS, h.cb, h.ch, h.cm, h.cn, h.ct⟩
theorem DIn.chg (h : DIn S w s x) (hc : Chg F w w') (hl : ∀ b, S b → b < w.heap.size ∧ ¬ F b) : DIn S w' s x := h.keep fun b hb => hc.block b (hl b hb).1 (hl b hb).2
theorem DIn.below (h : DIn S w s x) (hb : Below w.heap.size w w') (hl : ∀ b, S b → b < w.heap.size) : DIn S w' s x := h.keep fun b hbS => hb.block b (hl b hbS)
theorem DIn.rd (h : DIn S w s x) (hl : ∀ b, S b → b < w.heap.size) : DRd w s x :=
  ⟨els_bytes h.b, h.h.mono hl hl, h.m.mono hl hl, h.n.mono hl hl, h.t.mono hl hl, h.cb, h.ch, h.cm, h.cn, h.ct⟩
theorem DRd.din (h : DRd w s x) : DIn (ltS w) w s x := ⟨bytes_rdE h.b, h.h, h.m, h.n, h.t, h.cb, h.ch, h.cm, h.cn, h.ct⟩
/-- From B on. -/
def geS (B : Nat) (w : World) : Nat → Prop := fun b => B ≤ b ∧ b < w.heap.size
theorem ownB_els {v : Value} {bs : List UInt8} {A : Option Addr} {n c : Nat} (h : OwnB w B v bs) (hv : v = .slice A n c) : Els encB (geS B w) (geS B w) w A n bs ∧ n ≤ c ∧ c ≤ maxLen := by
  subst hv
  obtain ⟨A', c', hv, hr, h1, h2⟩ := h.form
  injection hv with e1 e2 e3
  subst e1 e2 e3
  refine ⟨bytes_els hr fun b off e => ?_, h1, h2⟩
  have hl := World.ownsRow.lt h
  rcases h.2 with ⟨e0, _⟩ | ⟨g, cap, cur, e0, h3, _⟩
  · injection e0 with e0
    rw [e] at e0
    cases e0
  · injection e0 with e0
    rw [e] at e0
    injection e0 with e0
    injection e0 with e0
    subst e0
    subst e
    exact hl _ rfl
theorem ownE_els {α : Type} {E : Enc α} {e : TypeId} {xs : List α} {v : Value} {A : Option Addr} {n c : Nat} (h : OwnE E e noS w B v xs) (hv : v = .slice A n c) : Els E (geS B w) (geS B w) w A n xs ∧ n ≤ c ∧ c ≤ maxLen := by
  subst hv
  have hl := h.lt
  obtain ⟨A', c', hv, hr, h1, h2⟩ := h.form
  injection hv with e1 e2 e3
  subst e1 e2 e3
  exact ⟨hr.mono (fun b hb => hl b hb) (fun b hb => hb.elim), h1, h2⟩
theorem DGot.din (h : DGot w B s x) : DIn (geS B w) w s x := by
  obtain ⟨b1, b2⟩ := ownB_els h.b rfl
  obtain ⟨h1, h2⟩ := ownE_els h.h rfl
  obtain ⟨m1, m2⟩ := ownE_els h.m rfl
  obtain ⟨n1, n2⟩ := ownE_els h.n rfl
  obtain ⟨t1, t2⟩ := ownE_els h.t rfl
  exact ⟨b1, h1, m1, n1, t1, b2, h2, m2, n2, t2⟩
theorem DOwn.din (h : DOwn w B s x) : DIn (geS B w) w s x := by
  obtain ⟨b1, b2⟩ := ownB_els h.b rfl
  obtain ⟨h1, h2⟩ := ownE_els h.h rfl
  obtain ⟨m1, m2⟩ := ownE_els h.m rfl
  obtain ⟨n1, n2⟩ := ownE_els h.n rfl
  obtain ⟨t1, t2⟩ := ownE_els h.t rfl
  exact ⟨b1, h1, m1, n1, t1, b2, h2, m2, n2, t2⟩
end
/-- How data lies in five cells. -/
def encDa : Enc Da where
  size := 5
  R := fun S w r x => ∃ s, r = (dCells s x).toList ∧ DIn S w s x
  pos := by decide
  len := by rintro _ _ r x ⟨s, rfl, _⟩; rfl
  mono := by rintro S S' w r x hS ⟨s, rfl, h⟩; exact ⟨s, rfl, h.mono hS⟩
  keep := by rintro S w w' r x hS ⟨s, rfl, h⟩; exact ⟨s, rfl, h.keep hS⟩
  one := by
    rintro S w r x ⟨s, rfl, _⟩ u hu
    simp [dCells] at hu
    rcases hu with rfl | rfl | rfl | rfl | rfl <;> rfl
section
variable {S S' F : Nat → Prop} {w w' : World} {s : RS} {x : RR} {B : Nat}
end
/-- A question. -/
structure Qu where
  name : List (List UInt8)
  type : Int
  cls : Int
end Go.Proofs.Ytimkdpkhdbiniaa

/- Data and records that came in, as elements of a list. -/
namespace Go.Proofs.Ytimkdpkhdbiniaa
open Go.ChangeShapes Go.WideShapes Go.ChangeAt Go.RowKit
set_option maxRecDepth 100000

end Go.Proofs.Ytimkdpkhdbiniaa

/- The reference's OwnRRs: records that share nothing. -/
namespace Go.Proofs.Ytimkdpkhdbiniaa
open Go.RowKit
set_option maxRecDepth 100000

/-- A row of the call's own, all of it new since block number B. -/
def NewE {α : Type} (E : Enc α) (e : TypeId) (B : Nat) (w : World) (v : Value) (xs : List α) : Prop := ∃ S, OwnE E e S w B v xs ∧ ∀ b, S b → B ≤ b
/-- Between two block numbers. -/
def btS (lo hi : Nat) : Nat → Prop := fun b => lo ≤ b ∧ b < hi
theorem NewE.nil {α : Type} (E : Enc α) (e : TypeId) (w : World) (B : Nat) : NewE E e B w (.slice none 0 0) [] := ⟨noS, OwnE.nil _ _ _ _, fun _ h => h.elim⟩
theorem NewE.below {α : Type} {E : Enc α} {e : TypeId} {B : Nat} {w w' : World} {v : Value} {xs : List α} (h : NewE E e B w v xs) (hb : Below w.heap.size w w') : NewE E e B w' v xs := by
  obtain ⟨S, ho, hS⟩ := h
  exact ⟨S, ho.below hb, hS⟩
theorem NewE.rd {α : Type} {E : Enc α} {e : TypeId} {B : Nat} {w : World} {v : Value} {xs : List α} (h : NewE E e B w v xs) : ∃ A c, v = .slice A xs.length c ∧ Els E (geS B w) (geS B w) w A xs.length xs ∧ xs.length ≤ c ∧ c ≤ maxLen := by
  obtain ⟨S, ho, hS⟩ := h
  have hl := ho.lt
  have hSl : ∀ b, S b → b < w.heap.size := by obtain ⟨_, _, _, hb⟩ := ho; exact fun b hb' => (hb b hb').1
  obtain ⟨A, c, rfl, he, h1, h2⟩ := ho.form
  exact ⟨A, c, rfl, he.mono (fun b hb => hl b hb) (fun b hb => ⟨hS b hb, hSl b hb⟩), h1, h2⟩

theorem five {w : World} {q : Nat} {s : RS} {x : RR} (h : RRow w q s x) (t : DS) : RRow (((((w.setCell ⟨q, 4, none⟩ (.slice t.A0 x.data.bytes.length t.c0)).setCell ⟨q, 5, none⟩ (.slice t.A1 x.data.host.length t.c1)).setCell ⟨q, 6, none⟩ (.slice t.A2 x.data.mail.length t.c2)).setCell ⟨q, 7, none⟩ (.slice t.A3 x.data.nums.length t.c3)).setCell ⟨q, 8, none⟩ (.slice t.A4 x.data.texts.length t.c4)) q { s with d := t } x :=
  heap_setCell_same _ _ 8 _ _ _ (heap_setCell_same _ _ 7 _ _ _ (heap_setCell_same _ _ 6 _ _ _ (heap_setCell_same _ _ 5 _ _ _ (heap_setCell_same _ _ 4 _ _ _ h))))
end Go.Proofs.Ytimkdpkhdbiniaa

/- Questions in memory. -/
namespace Go.Proofs.Ytimkdpkhdbiniaa
open Go.RowKit
set_option maxRecDepth 100000

/-- Where a question's name leads. -/
structure QS where
  A : Option Addr
  c : Nat
end Go.Proofs.Ytimkdpkhdbiniaa

/- Messages: in plain Lean, and how one lies in memory. -/
namespace Go.Proofs.Ytimkdpkhdbiniaa
open Go.RowKit
set_option maxRecDepth 100000

/-- A message. -/
structure Ms where
  id : Int
  resp : Bool
  op : Int
  aa : Bool
  tc : Bool
  rd : Bool
  ra : Bool
  rcode : Int
  qs : List Qu
  an : List RR
  au : List RR
  ex : List RR
  edns : Bool
  size : Int
/-- Where a message's lists lie. -/
structure MS where
  Q : Option Addr
  qc : Nat
  A : Option Addr
  ac : Nat
  U : Option Addr
  uc : Nat
  X : Option Addr
  xc : Nat
def MS.nil : MS := ⟨none, 0, none, 0, none, 0, none, 0⟩
def i64S (n : Int) : Prop := -9223372036854775808 ≤ n ∧ n ≤ 9223372036854775807
section
variable {S S' F : Nat → Prop} {w w' : World} {s : MS} {m : Ms} {B : Nat}
end
section
variable {w w' : World} {q : Nat} {s s' : MS} {m m' : Ms}
end

section
variable {w w' : World} {q : Nat} {s s' : QS} {x x' : Qu}
end
def Ms.zero : Ms := ⟨0, false, 0, false, false, false, false, 0, [], [], [], [], false, 0⟩
/-- From B on, all the way. -/
theorem els_ge {α : Type} {E : Enc α} {B : Nat} {w w' : World} {F : Nat → Prop} {A : Option Addr} {n : Nat} {xs : List α} (h : Els E (geS B w) (geS B w) w A n xs) (hc : Chg F w w') (hF : ∀ k, B ≤ k → k < w.heap.size → ¬ F k) : Els E (geS B w') (geS B w') w' A n xs :=
  have hk : ∀ b, geS B w b → w'.heap[b]? = w.heap[b]? := fun b hb => hc.block b hb.2 (hF b hb.1 hb.2)
  have hm : ∀ b, geS B w b → geS B w' b := fun _ hb => ⟨hb.1, Nat.lt_of_lt_of_le hb.2 hc.size⟩
  (h.keep hk hk).mono hm hm
theorem els_geB {α : Type} {E : Enc α} {B : Nat} {w w' : World} {A : Option Addr} {n : Nat} {xs : List α} (h : Els E (geS B w) (geS B w) w A n xs) (hb : Below w.heap.size w w') : Els E (geS B w') (geS B w') w' A n xs :=
  els_ge h (Chg.of_below (F := fun _ => False) hb) (fun _ _ _ h => h)
theorem els_le {α : Type} {E : Enc α} {B C : Nat} {w : World} {A : Option Addr} {n : Nat} {xs : List α} (h : Els E (geS C w) (geS C w) w A n xs) (hB : B ≤ C) : Els E (geS B w) (geS B w) w A n xs :=
  have hm : ∀ b, geS C w b → geS B w b := fun _ hb => ⟨Nat.le_trans hB hb.1, hb.2⟩
  h.mono hm hm
end Go.Proofs.Ytimkdpkhdbiniaa

/- Data, records, questions and messages that came in, with how large they are. -/
namespace Go.Proofs.Ytimkdpkhdbiniaa
open Go.ChangeShapes Go.WideShapes Go.ChangeAt Go.RowKit
set_option maxRecDepth 100000

theorem field_wt {H : Type} {xs : List (DataW H × List MemPlace)} {ts : List TypeId} {i : Nat} {t : TypeId} {y : DataW H × List MemPlace} {k : Nat} (hy : xs[i]? = some y) (ht : ts[i]? = some t) (hw : ∀ n ∈ DataW.weightsEach Try.prog ts (xs.map (·.1)), n ≤ k) : ∀ n ∈ y.1.weights Try.prog t, n ≤ k :=
  fun n hn => hw n (DataW.weights_mem_each ht (by rw [List.getElem?_map, hy]; rfl) n hn)
end Go.Proofs.Ytimkdpkhdbiniaa

/- rdata: which data may be, in plain Lean. -/
namespace Go.Proofs.Ytimkdpkhdbiniaa

def hostP (yes : Bool) (n : List (List UInt8)) : Prop := if yes = true then SoundN n else n = []
def textsP (yes : Bool) (t : List (List UInt8)) : Prop := if yes = true then (1 ≤ t.length ∧ t.length ≤ 64 ∧ ∀ l ∈ t, l.length ≤ 255) else t = []
def FineS (s : Shp) (d : Da) : Prop :=
  (0 ≤ s.bytes → (d.bytes.length : Int) = s.bytes) ∧ d.bytes.length ≤ 65535 ∧ (d.nums.length : Int) = s.nums ∧ hostP s.host d.host ∧ hostP s.mail d.mail ∧ (∀ n ∈ d.nums, fitsB n s.size = true) ∧ textsP s.texts d.texts
/-- May a type say so? -/
def FineD (k : Int) (d : Da) : Prop := (1 ≤ k ∧ k ≤ 65535) ∧ FineS (shapeP k) d
noncomputable def fineB (k : Int) (d : Da) : Bool := @decide (FineD k d) (Classical.propDecidable _)
theorem fineB_true {k : Int} {d : Da} (h : FineD k d) : fineB k d = true := by unfold fineB; simpa using h
theorem fineB_false {k : Int} {d : Da} (h : ¬ FineD k d) : fineB k d = false := by unfold fineB; simpa using h
theorem fineB_iff {k : Int} {d : Da} : fineB k d = true ↔ FineD k d := by unfold fineB; simp
end Go.Proofs.Ytimkdpkhdbiniaa
