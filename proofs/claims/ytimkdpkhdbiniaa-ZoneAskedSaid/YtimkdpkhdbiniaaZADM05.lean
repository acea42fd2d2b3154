/- Parts of a proof, joined: RdG6, Shapes, RrMem, DIn, OpenRR, OwnRR, Qs, MsMem, FinePlain. -/
import Derived.Test.YtimkdpkhdbiniaaZADM04
import Derived.Test.YtimkdpkhdbiniaaZADM01
import Derived.Test.YtimkdpkhdbiniaaZADM03
import Derived.Test.YtimkdpkhdbiniaaZADM02
/- rdata: the reader's data: where its walk stands. -/
namespace Go.Proofs.Ytimkdpkhdbiniaa
open Go.RowKit
set_option maxRecDepth 100000

theorem ownB_chg {w w' : World} {base : Nat} {v : Value} {F : Nat → Prop} {bs : List UInt8} (h : OwnB w base v bs) (hc : Chg F w w') (hv : ∀ k, base ≤ k → k < w.heap.size → ¬ F k) : OwnB w' base v bs := by
  have hl := fun k hk => World.ownsRow.lt h k hk
  refine ⟨h.1, ?_⟩
  rcases h.2 with h0 | ⟨g, cap, cur, rfl, h1, h2, h3⟩
  · exact .inl h0
  · exact .inr ⟨g, cap, cur, rfl, h1, (hc.heap h2 (hv g (hl g rfl).1 (hl g rfl).2)), h3⟩
theorem ownE_chg {α : Type} {E : Enc α} {e : TypeId} {w w' : World} {base : Nat} {v : Value} {F : Nat → Prop} {xs : List α} (h : OwnE E e noS w base v xs) (hc : Chg F w w') (hv : ∀ k, base ≤ k → k < w.heap.size → ¬ F k) : OwnE E e noS w' base v xs :=
  OwnE.chg h hc (fun k hk => hv k (OwnE.lt h k hk).1 (OwnE.lt h k hk).2) (fun _ hz => hz.elim)

/-- Data whose slices are rows of the call's own. -/
structure DGot (w : World) (B : Nat) (s : DS) (x : Da) : Prop where
  b : OwnB w B (.slice s.A0 x.bytes.length s.c0) x.bytes
  h : OwnS w B (.slice s.A1 x.host.length s.c1) x.host
  m : OwnS w B (.slice s.A2 x.mail.length s.c2) x.mail
  n : OwnI w B (.slice s.A3 x.nums.length s.c3) x.nums
  t : OwnS w B (.slice s.A4 x.texts.length s.c4) x.texts
def DS.nil : DS := ⟨none, none, none, none, none, 0, 0, 0, 0, 0⟩
theorem DGot.nil (w : World) (B : Nat) : DGot w B DS.nil Da.zero := ⟨OwnB.nil _ _, OwnS.nil _ _, OwnS.nil _ _, OwnI.nil _ _, OwnS.nil _ _⟩
theorem DGot.chg {w w' : World} {B : Nat} {s : DS} {x : Da} {F : Nat → Prop} (h : DGot w B s x) (hc : Chg F w w') (hv : ∀ k, B ≤ k → k < w.heap.size → ¬ F k) : DGot w' B s x :=
  ⟨ownB_chg h.b hc hv, ownE_chg h.h hc hv, ownE_chg h.m hc hv, ownE_chg h.n hc hv, ownE_chg h.t hc hv⟩
theorem DGot.below {w w' : World} {B : Nat} {s : DS} {x : Da} (h : DGot w B s x) (hb : Below w.heap.size w w') : DGot w' B s x := h.chg (Chg.of_below (F := fun _ => False) hb) (fun _ _ _ h => h)
theorem DGot.base_le {w : World} {B B' : Nat} {s : DS} {x : Da} (h : DGot w B s x) (hb : B' ≤ B) : DGot w B' s x :=
  ⟨h.b.mono hb, OwnE.base_le h.h hb, OwnE.base_le h.m hb, OwnE.base_le h.n hb, OwnE.base_le h.t hb⟩
theorem OwnE.slc {α : Type} {E : Enc α} {e : TypeId} {S : Nat → Prop} {w : World} {base : Nat} {A : Option Addr} {n c : Nat} {xs : List α} (h : OwnE E e S w base (.slice A n c) xs) : RdE E w A n xs ∧ n = xs.length ∧ n ≤ c ∧ c ≤ maxLen := by
  obtain ⟨A', c', hv, hr, h1, h2⟩ := h.rdE
  injection hv with e1 e2 e3
  subst e1 e2 e3
  exact ⟨hr, rfl, h1, h2⟩
theorem DGot.rd {w : World} {B : Nat} {s : DS} {x : Da} (h : DGot w B s x) : DRd w s x := by
  obtain ⟨hb, _⟩ := h.b.rd
  obtain ⟨A0, c0, e0, _, hb1, hb2⟩ := h.b.form
  injection e0 with e1 e2 e3
  subst e1 e3
  obtain ⟨h1, _, h2⟩ := OwnE.slc h.h
  obtain ⟨m1, _, m2⟩ := OwnE.slc h.m
  obtain ⟨n1, _, n2⟩ := OwnE.slc h.n
  obtain ⟨t1, _, t2⟩ := OwnE.slc h.t
  exact ⟨hb, h1, m1, n1, t1, ⟨hb1, hb2⟩, h2, m2, n2, t2⟩

def dCells (s : DS) (d : Da) : Array Value := #[.slice s.A0 d.bytes.length s.c0, .slice s.A1 d.host.length s.c1, .slice s.A2 d.mail.length s.c2, .slice s.A3 d.nums.length s.c3, .slice s.A4 d.texts.length s.c4]
section
variable {w wr w' : World} {p q q' en : Nat} {bv : Value} {sh : Shp} {s : DS} {d : Da}
end
end Go.Proofs.Ytimkdpkhdbiniaa

/- rdata.shapes: which fields a type has. -/
namespace Go.Proofs.Ytimkdpkhdbiniaa
open Go.RowKit
set_option maxRecDepth 100000
set_option linter.unusedVariables false

set_option maxHeartbeats 2000000 in
theorem shapes_any (k : Int) (w : World) : Calls Try.prog 156 #[.int .i64 k] w (RetP (fun v _ => v = shpV (shapeP k)) w) := by
  by_cases h1 : k = 1
  · subst h1
    go_enter Try.func156, Try.ntmps156
    go_wp2
    refine bodyPost_ret (v := shpV shpA) ?_ rfl ⟨_, rfl, rfl, bl.alloc (Nat.le_refl _) _⟩
    simp [results, Try.results156, go_sem]
    rfl
  by_cases h28 : k = 28
  · subst h28
    go_enter Try.func156, Try.ntmps156
    go_wp2
    refine bodyPost_ret (v := shpV shpQ) ?_ rfl ⟨_, rfl, rfl, bl.alloc (Nat.le_refl _) _⟩
    simp [results, Try.results156, go_sem]
    rfl
  by_cases h2 : k = 2
  · subst h2
    go_enter Try.func156, Try.ntmps156
    go_wp2
    refine bodyPost_ret (v := shpV shpN) ?_ rfl ⟨_, rfl, rfl, bl.alloc (Nat.le_refl _) _⟩
    simp [results, Try.results156, go_sem]
    rfl
  by_cases h5 : k = 5
  · subst h5
    go_enter Try.func156, Try.ntmps156
    go_wp2
    refine bodyPost_ret (v := shpV shpN) ?_ rfl ⟨_, rfl, rfl, bl.alloc (Nat.le_refl _) _⟩
    simp [results, Try.results156, go_sem]
    rfl
  by_cases h12 : k = 12
  · subst h12
    go_enter Try.func156, Try.ntmps156
    go_wp2
    refine bodyPost_ret (v := shpV shpN) ?_ rfl ⟨_, rfl, rfl, bl.alloc (Nat.le_refl _) _⟩
    simp [results, Try.results156, go_sem]
    rfl
  by_cases h15 : k = 15
  · subst h15
    go_enter Try.func156, Try.ntmps156
    go_wp2
    refine bodyPost_ret (v := shpV shpM) ?_ rfl ⟨_, rfl, rfl, bl.alloc (Nat.le_refl _) _⟩
    simp [results, Try.results156, go_sem]
    rfl
  by_cases h6 : k = 6
  · subst h6
    go_enter Try.func156, Try.ntmps156
    go_wp2
    refine bodyPost_ret (v := shpV shpS) ?_ rfl ⟨_, rfl, rfl, bl.alloc (Nat.le_refl _) _⟩
    simp [results, Try.results156, go_sem]
    rfl
  by_cases h33 : k = 33
  · subst h33
    go_enter Try.func156, Try.ntmps156
    go_wp2
    refine bodyPost_ret (v := shpV shpV3) ?_ rfl ⟨_, rfl, rfl, bl.alloc (Nat.le_refl _) _⟩
    simp [results, Try.results156, go_sem]
    rfl
  by_cases h16 : k = 16
  · subst h16
    go_enter Try.func156, Try.ntmps156
    go_wp2
    refine bodyPost_ret (v := shpV shpT) ?_ rfl ⟨_, rfl, rfl, bl.alloc (Nat.le_refl _) _⟩
    simp [results, Try.results156, go_sem]
    rfl
  have he : shapeP k = shpB := by unfold shapeP; rw [if_neg h1, if_neg h28, if_neg (by omega), if_neg h15, if_neg h6, if_neg h33, if_neg h16]
  rw [he]
  go_enter Try.func156, Try.ntmps156
  go_wp2
  refine bodyPost_ret (v := shpV shpB) ?_ rfl ⟨_, rfl, rfl, bl.alloc (Nat.le_refl _) _⟩
  simp [results, Try.results156, go_sem]
  rfl
end Go.Proofs.Ytimkdpkhdbiniaa

/- rr: how records lie in memory. -/
namespace Go.Proofs.Ytimkdpkhdbiniaa
open Go.RowKit
set_option maxRecDepth 100000

/-- Where a record's slices lead. -/
structure RS where
  A : Option Addr
  c : Nat
  d : DS
def RS.nil : RS := ⟨none, 0, DS.nil⟩
def rrCells (s : RS) (x : RR) : Array Value := #[.slice s.A x.name.length s.c, .int .i64 x.type, .int .i64 x.cls, .int .i64 x.ttl, .slice s.d.A0 x.data.bytes.length s.d.c0, .slice s.d.A1 x.data.host.length s.d.c1, .slice s.d.A2 x.data.mail.length s.d.c2, .slice s.d.A3 x.data.nums.length s.d.c3, .slice s.d.A4 x.data.texts.length s.d.c4]
def rrV (s : RS) (x : RR) : Value := .agg (rrCells s x)
/-- A record in a block of its own. -/
def RRow (w : World) (q : Nat) (s : RS) (x : RR) : Prop := w.heap[q]? = some (.cells (rrCells s x) 84 (0, 0))
section
variable {w w' : World} {q : Nat} {s s' : RS} {x x' : RR}
theorem RRow.lt (h : RRow w q s x) : q < w.heap.size := (Array.getElem?_eq_some_iff.1 h).1
theorem RRow.below (h : RRow w q s x) (hb : Below w.heap.size w w') : RRow w' q s x := (hb.block q h.lt).trans h
theorem RRow.cell (h : RRow w q s x) (j : Nat) : w.cell? ⟨q, j, none⟩ = (rrCells s x)[j]? := cell_of_row _ _ _ _ _ _ h
theorem RRow.free (h : RRow w q s x) (j : Nat) : w.frozen? ⟨q, j, none⟩ = false := frozen_of_row _ _ _ _ _ h
theorem RRow.put (h : RRow w q s x) (j : Nat) (v : Value) (s' : RS) (x' : RR) (e : (rrCells s x).setIfInBounds j v = rrCells s' x') : RRow (w.setCell ⟨q, j, none⟩ v) q s' x' := by
  unfold RRow
  rw [← e]
  exact heap_setCell_same _ _ _ _ _ _ h
theorem RRow.cells (h : RRow w q s x) : w.cell? ⟨q, 0, none⟩ = some (.slice s.A x.name.length s.c) ∧ w.cell? ⟨q, 1, none⟩ = some (.int .i64 x.type) ∧ w.cell? ⟨q, 2, none⟩ = some (.int .i64 x.cls) ∧ w.cell? ⟨q, 3, none⟩ = some (.int .i64 x.ttl) ∧
    w.cell? ⟨q, 4, none⟩ = some (.slice s.d.A0 x.data.bytes.length s.d.c0) ∧ w.cell? ⟨q, 5, none⟩ = some (.slice s.d.A1 x.data.host.length s.d.c1) ∧ w.cell? ⟨q, 6, none⟩ = some (.slice s.d.A2 x.data.mail.length s.d.c2) ∧ w.cell? ⟨q, 7, none⟩ = some (.slice s.d.A3 x.data.nums.length s.d.c3) ∧ w.cell? ⟨q, 8, none⟩ = some (.slice s.d.A4 x.data.texts.length s.d.c4) :=
  ⟨(h.cell 0).trans rfl, (h.cell 1).trans rfl, (h.cell 2).trans rfl, (h.cell 3).trans rfl, (h.cell 4).trans rfl, (h.cell 5).trans rfl, (h.cell 6).trans rfl, (h.cell 7).trans rfl, (h.cell 8).trans rfl⟩
end
section
variable {w wr w' : World} {s : RS} {x : RR}
end
end Go.Proofs.Ytimkdpkhdbiniaa

/- Data and records in memory, in blocks of a set; how a list of them lies. -/
namespace Go.Proofs.Ytimkdpkhdbiniaa
open Go.RowKit
set_option maxRecDepth 100000

structure DIn (S : Nat → Prop) (w : World) (s : DS) (x : Da) : Prop where
  b : Els encB S S w s.A0 x.bytes.length x.bytes
  h : Els encS S S w s.A1 x.host.length x.host
  m : Els encS S S w s.A2 x.mail.length x.mail
  n : Els encI S S w s.A3 x.nums.length x.nums
  t : Els encS S S w s.A4 x.texts.length x.texts
  cb : x.bytes.length ≤ s.c0 ∧ s.c0 ≤ maxLen
  ch : x.host.length ≤ s.c1 ∧ s.c1 ≤ maxLen
  cm : x.mail.length ≤ s.c2 ∧ s.c2 ≤ maxLen
  cn : x.nums.length ≤ s.c3 ∧ s.c3 ≤ maxLen
  ct : x.texts.length ≤ s.c4 ∧ s.c4 ≤ maxLen
section
variable {S S' F : Nat → Prop} {w w' : World} {s : DS} {x : Da} {B : Nat}
theorem DIn.mono (hS : ∀ b, S b → S' b) (h : DIn S w s x) : DIn S' w s x :=
  ⟨h.b.mono hS hS, h.h.mono hS hS, h.m.mono hS hS, h.n.mono hS hS, h.t.mono hS hS, h.cb, h.ch, h.cm, h.cn, h.ct⟩
theorem DIn.keep (hS : ∀ b, S b → w'.heap[b]? = w.heap[b]?) (h : DIn S w s x) : DIn S w' s x :=
  ⟨h.b.keep hS hS, h.h.keep hS hS, h.m.keep hS hS, h.n.keep hS hS, h.t.keep hS hS, h.cb, h.ch, h.cm, h.cn, h.ct⟩
theorem DIn.chg (h : DIn S w s x) (hc : Chg F w w') (hl : ∀ b, S b → b < w.heap.size ∧ ¬ F b) : DIn S w' s x := h.keep fun b hb => hc.block b (hl b hb).1 (hl b hb).2
theorem DIn.below (h : DIn S w s x) (hb : Below w.heap.size w w') (hl : ∀ b, S b → b < w.heap.size) : DIn S w' s x := h.keep fun b hbS => hb.block b (hl b hbS)
theorem DIn.rd (h : DIn S w s x) (hl : ∀ b, S b → b < w.heap.size) : DRd w s x :=
  ⟨els_bytes h.b, h.h.mono hl hl, h.m.mono hl hl, h.n.mono hl hl, h.t.mono hl hl, h.cb, h.ch, h.cm, h.cn, h.ct⟩
theorem DRd.din (h : DRd w s x) : DIn (ltS w) w s x := ⟨bytes_rdE h.b, h.h, h.m, h.n, h.t, h.cb, h.ch, h.cm, h.cn, h.ct⟩
/-- From B on. -/
def geS (B : Nat) (w : World) : Nat → Prop := fun b => B ≤ b ∧ b < w.heap.size
theorem ownB_els {v : Value} {bs : List UInt8} {A : Option Addr} {n c : Nat} (h : OwnB w B v bs) (hv : v = .slice A n c) : Els encB (geS B w) (geS B w) w A n bs ∧ n ≤ c ∧ c ≤ maxLen := by
  subst hv
  obtain ⟨A', c', hv, hr, h1, h2⟩ := h.form
  injection hv with e1 e2 e3
  subst e1 e2 e3
  refine ⟨bytes_els hr fun b off e => ?_, h1, h2⟩
  have hl := World.ownsRow.lt h
  rcases h.2 with ⟨e0, _⟩ | ⟨g, cap, cur, e0, h3, _⟩
  · injection e0 with e0
    rw [e] at e0
    cases e0
  · injection e0 with e0
    rw [e] at e0
    injection e0 with e0
    injection e0 with e0
    subst e0
    subst e
    exact hl _ rfl
theorem ownE_els {α : Type} {E : Enc α} {e : TypeId} {xs : List α} {v : Value} {A : Option Addr} {n c : Nat} (h : OwnE E e noS w B v xs) (hv : v = .slice A n c) : Els E (geS B w) (geS B w) w A n xs ∧ n ≤ c ∧ c ≤ maxLen := by
  subst hv
  have hl := h.lt
  obtain ⟨A', c', hv, hr, h1, h2⟩ := h.form
  injection hv with e1 e2 e3
  subst e1 e2 e3
  exact ⟨hr.mono (fun b hb => hl b hb) (fun b hb => hb.elim), h1, h2⟩
theorem DGot.din (h : DGot w B s x) : DIn (geS B w) w s x := by
  obtain ⟨b1, b2⟩ := ownB_els h.b rfl
  obtain ⟨h1, h2⟩ := ownE_els h.h rfl
  obtain ⟨m1, m2⟩ := ownE_els h.m rfl
  obtain ⟨n1, n2⟩ := ownE_els h.n rfl
  obtain ⟨t1, t2⟩ := ownE_els h.t rfl
  exact ⟨b1, h1, m1, n1, t1, b2, h2, m2, n2, t2⟩
theorem DOwn.din (h : DOwn w B s x) : DIn (geS B w) w s x := by
  obtain ⟨b1, b2⟩ := ownB_els h.b rfl
  obtain ⟨h1, h2⟩ := ownE_els h.h rfl
  obtain ⟨m1, m2⟩ := ownE_els h.m rfl
  obtain ⟨n1, n2⟩ := ownE_els h.n rfl
  obtain ⟨t1, t2⟩ := ownE_els h.t rfl
  exact ⟨b1, h1, m1, n1, t1, b2, h2, m2, n2, t2⟩
end
/-- How data lies in five cells. -/
def encDa : Enc Da where
  size := 5
  R := fun S w r x => ∃ s, r = (dCells s x).toList ∧ DIn S w s x
  pos := by decide
  len := by rintro _ _ r x ⟨s, rfl, _⟩; rfl
  mono := by rintro S S' w r x hS ⟨s, rfl, h⟩; exact ⟨s, rfl, h.mono hS⟩
  keep := by rintro S w w' r x hS ⟨s, rfl, h⟩; exact ⟨s, rfl, h.keep hS⟩
  one := by
    rintro S w r x ⟨s, rfl, _⟩ u hu
    simp [dCells] at hu
    rcases hu with rfl | rfl | rfl | rfl | rfl <;> rfl
structure RIn (S : Nat → Prop) (w : World) (s : RS) (x : RR) : Prop where
  n : Els encS S S w s.A x.name.length x.name
  cn : x.name.length ≤ s.c ∧ s.c ≤ maxLen
  d : DIn S w s.d x.data
  it : -9223372036854775808 ≤ x.type ∧ x.type ≤ 9223372036854775807
  ic : -9223372036854775808 ≤ x.cls ∧ x.cls ≤ 9223372036854775807
  il : -9223372036854775808 ≤ x.ttl ∧ x.ttl ≤ 9223372036854775807
section
variable {S S' F : Nat → Prop} {w w' : World} {s : RS} {x : RR} {B : Nat}
theorem RIn.mono (hS : ∀ b, S b → S' b) (h : RIn S w s x) : RIn S' w s x := ⟨h.n.mono hS hS, h.cn, h.d.mono hS, h.it, h.ic, h.il⟩
theorem RIn.keep (hS : ∀ b, S b → w'.heap[b]? = w.heap[b]?) (h : RIn S w s x) : RIn S w' s x := ⟨h.n.keep hS hS, h.cn, h.d.keep hS, h.it, h.ic, h.il⟩
theorem RIn.chg (h : RIn S w s x) (hc : Chg F w w') (hl : ∀ b, S b → b < w.heap.size ∧ ¬ F b) : RIn S w' s x := h.keep fun b hb => hc.block b (hl b hb).1 (hl b hb).2
theorem RIn.below (h : RIn S w s x) (hb : Below w.heap.size w w') (hl : ∀ b, S b → b < w.heap.size) : RIn S w' s x := h.keep fun b hbS => hb.block b (hl b hbS)
end
/-- How a record lies in nine cells. -/
def encRR : Enc RR where
  size := 9
  R := fun S w r x => ∃ s, r = (rrCells s x).toList ∧ RIn S w s x
  pos := by decide
  len := by rintro _ _ r x ⟨s, rfl, _⟩; rfl
  mono := by rintro S S' w r x hS ⟨s, rfl, h⟩; exact ⟨s, rfl, h.mono hS⟩
  keep := by rintro S w w' r x hS ⟨s, rfl, h⟩; exact ⟨s, rfl, h.keep hS⟩
  one := by
    rintro S w r x ⟨s, rfl, _⟩ u hu
    simp [rrCells] at hu
    rcases hu with rfl | rfl | rfl | rfl | rfl | rfl | rfl | rfl | rfl <;> rfl
/-- A question. -/
structure Qu where
  name : List (List UInt8)
  type : Int
  cls : Int
def encQu : Enc Qu where
  size := 3
  R := fun S w r x => ∃ A c, r = [.slice A x.name.length c, .int .i64 x.type, .int .i64 x.cls] ∧ Els encS S S w A x.name.length x.name ∧ (x.name.length ≤ c ∧ c ≤ maxLen) ∧ (-9223372036854775808 ≤ x.type ∧ x.type ≤ 9223372036854775807) ∧ (-9223372036854775808 ≤ x.cls ∧ x.cls ≤ 9223372036854775807)
  pos := by decide
  len := by rintro _ _ r x ⟨A, c, rfl, _⟩; rfl
  mono := by rintro S S' w r x hS ⟨A, c, rfl, h, h2⟩; exact ⟨A, c, rfl, h.mono hS hS, h2⟩
  keep := by rintro S w w' r x hS ⟨A, c, rfl, h, h2⟩; exact ⟨A, c, rfl, h.keep hS hS, h2⟩
  one := by
    rintro S w r x ⟨A, c, rfl, _⟩ u hu
    simp at hu
    rcases hu with rfl | rfl | rfl <;> rfl
end Go.Proofs.Ytimkdpkhdbiniaa

/- Data and records that came in, as elements of a list. -/
namespace Go.Proofs.Ytimkdpkhdbiniaa
open Go.ChangeShapes Go.WideShapes Go.ChangeAt Go.RowKit
set_option maxRecDepth 100000

theorem opens_Da : Opens 46 encDa any one := by
  intro H enc W base sp hd fuel cs x h
  obtain ⟨xs, n, hx, hc, hl, hfd, hw⟩ := trod_fields Try.underlying46 h
  rw [show Try.prog.cellsOf 46 = 5 by kernel_rfl] at hc
  obtain ⟨c0, c1, c2, c3, c4, rfl⟩ := len5 hc
  obtain ⟨z0, z1, z2, z3, z4, rfl⟩ := len5 (l := xs) (by rw [hl]; rfl)
  obtain ⟨y0, e0, h0⟩ := hfd 0 _ rfl
  obtain ⟨y1, e1, h1⟩ := hfd 1 _ rfl
  obtain ⟨y2, e2, h2⟩ := hfd 2 _ rfl
  obtain ⟨y3, e3, h3⟩ := hfd 3 _ rfl
  obtain ⟨y4, e4, h4⟩ := hfd 4 _ rfl
  have g0 : DataW.trod enc Try.prog W base sp hd n 22 (([c0, c1, c2, c3, c4].drop 0).take (Try.prog.cellsOf 22)) = some y0 := h0
  have g1 : DataW.trod enc Try.prog W base sp hd n 23 (([c0, c1, c2, c3, c4].drop 1).take (Try.prog.cellsOf 23)) = some y1 := h1
  have g2 : DataW.trod enc Try.prog W base sp hd n 23 (([c0, c1, c2, c3, c4].drop 2).take (Try.prog.cellsOf 23)) = some y2 := h2
  have g3 : DataW.trod enc Try.prog W base sp hd n 44 (([c0, c1, c2, c3, c4].drop 3).take (Try.prog.cellsOf 44)) = some y3 := h3
  have g4 : DataW.trod enc Try.prog W base sp hd n 23 (([c0, c1, c2, c3, c4].drop 4).take (Try.prog.cellsOf 23)) = some y4 := h4
  rw [show Try.prog.cellsOf 22 = 1 by kernel_rfl] at g0
  rw [show Try.prog.cellsOf 23 = 1 by kernel_rfl] at g1 g2 g4
  rw [show Try.prog.cellsOf 44 = 1 by kernel_rfl] at g3
  obtain ⟨a0, ⟨A0, n0, k0, r0, q0, l0, m0⟩, _, _⟩ := opens_sl (t := 22) Try.underlying22 (by kernel_rfl) (opens_u8 Try.underlying5) H enc W base sp hd n _ _ g0
  obtain ⟨a1, ⟨A1, n1, k1, r1, q1, l1, m1⟩, _, _⟩ := opens_sl (t := 23) Try.underlying23 (by kernel_rfl) (opens_str Try.underlying9) H enc W base sp hd n _ _ g1
  obtain ⟨a2, ⟨A2, n2, k2, r2, q2, l2, m2⟩, _, _⟩ := opens_sl (t := 23) Try.underlying23 (by kernel_rfl) (opens_str Try.underlying9) H enc W base sp hd n _ _ g2
  obtain ⟨a3, ⟨A3, n3, k3, r3, q3, l3, m3⟩, _, _⟩ := opens_sl (t := 44) Try.underlying44 (by kernel_rfl) (opens_int Try.underlying3) H enc W base sp hd n _ _ g3
  obtain ⟨a4, ⟨A4, n4, k4, r4, q4, l4, m4⟩, _, _⟩ := opens_sl (t := 23) Try.underlying23 (by kernel_rfl) (opens_str Try.underlying9) H enc W base sp hd n _ _ g4
  simp at r0 r1 r2 r3 r4
  have e0 := q0.1
  have e1 := q1.1
  have e2 := q2.1
  have e3 := q3.1
  have e4 := q4.1
  subst r0 r1 r2 r3 r4 e0 e1 e2 e3 e4
  exact ⟨⟨a0, a1, a2, a3, a4⟩, ⟨⟨A0, A1, A2, A3, A4, k0, k1, k2, k3, k4⟩, rfl, ⟨q0, q1, q2, q3, q4, ⟨l0, m0⟩, ⟨l1, m1⟩, ⟨l2, m2⟩, ⟨l3, m3⟩, ⟨l4, m4⟩⟩⟩, fun _ => trivial, by rw [hx]; simp [one, Rows.uptoBulk]⟩
theorem opens_RR : Opens 84 encRR any one := by
  intro H enc W base sp hd fuel cs x h
  obtain ⟨xs, n, hx, hc, hl, hfd, hw⟩ := trod_fields Try.underlying84 h
  rw [show Try.prog.cellsOf 84 = 9 by kernel_rfl] at hc
  obtain ⟨c0, c1, c2, c3, c4, c5, c6, c7, c8, rfl⟩ := len9 hc
  obtain ⟨y0, e0, h0⟩ := hfd 0 _ rfl
  obtain ⟨y1, e1, h1⟩ := hfd 1 _ rfl
  obtain ⟨y2, e2, h2⟩ := hfd 2 _ rfl
  obtain ⟨y3, e3, h3⟩ := hfd 3 _ rfl
  obtain ⟨y4, e4, h4⟩ := hfd 4 _ rfl
  have g0 : DataW.trod enc Try.prog W base sp hd n 23 (([c0, c1, c2, c3, c4, c5, c6, c7, c8].drop 0).take (Try.prog.cellsOf 23)) = some y0 := h0
  have g1 : DataW.trod enc Try.prog W base sp hd n 3 (([c0, c1, c2, c3, c4, c5, c6, c7, c8].drop 1).take (Try.prog.cellsOf 3)) = some y1 := h1
  have g2 : DataW.trod enc Try.prog W base sp hd n 3 (([c0, c1, c2, c3, c4, c5, c6, c7, c8].drop 2).take (Try.prog.cellsOf 3)) = some y2 := h2
  have g3 : DataW.trod enc Try.prog W base sp hd n 3 (([c0, c1, c2, c3, c4, c5, c6, c7, c8].drop 3).take (Try.prog.cellsOf 3)) = some y3 := h3
  have g4 : DataW.trod enc Try.prog W base sp hd n 46 (([c0, c1, c2, c3, c4, c5, c6, c7, c8].drop 4).take (Try.prog.cellsOf 46)) = some y4 := h4
  rw [show Try.prog.cellsOf 23 = 1 by kernel_rfl] at g0
  rw [show Try.prog.cellsOf 3 = 1 by kernel_rfl] at g1 g2 g3
  rw [show Try.prog.cellsOf 46 = 5 by kernel_rfl] at g4
  obtain ⟨a0, ⟨A0, n0, k0, r0, q0, l0, m0⟩, _, _⟩ := opens_sl (t := 23) Try.underlying23 (by kernel_rfl) (opens_str Try.underlying9) H enc W base sp hd n _ _ g0
  obtain ⟨a1, ⟨r1, b1⟩, _, _⟩ := opens_int Try.underlying3 H enc W base sp hd n _ _ g1
  obtain ⟨a2, ⟨r2, b2⟩, _, _⟩ := opens_int Try.underlying3 H enc W base sp hd n _ _ g2
  obtain ⟨a3, ⟨r3, b3⟩, _, _⟩ := opens_int Try.underlying3 H enc W base sp hd n _ _ g3
  obtain ⟨a4, ⟨s4, r4, q4⟩, _, _⟩ := opens_Da H enc W base sp hd n _ _ g4
  simp [dCells] at r0 r1 r2 r3 r4
  obtain ⟨r4, r5, r6, r7, r8⟩ := r4
  have e0 := q0.1
  subst r0 r1 r2 r3 r4 r5 r6 r7 r8 e0
  exact ⟨⟨a0, a1, a2, a3, a4⟩, ⟨⟨A0, k0, s4⟩, rfl, ⟨q0, ⟨l0, m0⟩, q4, b1, b2, b3⟩⟩, fun _ => trivial, by rw [hx]; simp [one, Rows.uptoBulk]⟩
end Go.Proofs.Ytimkdpkhdbiniaa

/- The reference's OwnRRs: records that share nothing. -/
namespace Go.Proofs.Ytimkdpkhdbiniaa
open Go.RowKit
set_option maxRecDepth 100000

theorem elRR : ElT Try.prog 29 84 encRR 168 := ElT.mk Try.underlying29 (.agg (rrCells RS.nil RR.zero)) 9 (by kernel_rfl) rfl rfl
/-- A record's nine cells, at a place. -/
def RCells (w : World) (b p : Nat) (s : RS) (x : RR) : Prop :=
  w.cell? ⟨b, p, none⟩ = some (.slice s.A x.name.length s.c) ∧ w.cell? ⟨b, p + 1, none⟩ = some (.int .i64 x.type) ∧ w.cell? ⟨b, p + 2, none⟩ = some (.int .i64 x.cls) ∧ w.cell? ⟨b, p + 3, none⟩ = some (.int .i64 x.ttl) ∧
    w.cell? ⟨b, p + 4, none⟩ = some (.slice s.d.A0 x.data.bytes.length s.d.c0) ∧ w.cell? ⟨b, p + 5, none⟩ = some (.slice s.d.A1 x.data.host.length s.d.c1) ∧ w.cell? ⟨b, p + 6, none⟩ = some (.slice s.d.A2 x.data.mail.length s.d.c2) ∧ w.cell? ⟨b, p + 7, none⟩ = some (.slice s.d.A3 x.data.nums.length s.d.c3) ∧ w.cell? ⟨b, p + 8, none⟩ = some (.slice s.d.A4 x.data.texts.length s.d.c4)
theorem RCells.below {w w' : World} {b p : Nat} {s : RS} {x : RR} (h : RCells w b p s x) (hb : Below w.heap.size w w') : RCells w' b p s x := by
  obtain ⟨h0, h1, h2, h3, h4, h5, h6, h7, h8⟩ := h
  exact ⟨below_cell hb h0, below_cell hb h1, below_cell hb h2, below_cell hb h3, below_cell hb h4, below_cell hb h5, below_cell hb h6, below_cell hb h7, below_cell hb h8⟩
/-- A list of records read in memory. -/
theorem rr_at {So Si : Nat → Prop} {w : World} {A : Option Addr} {n : Nat} {xs : List RR} (h : Els encRR So Si w A n xs) {k : Nat} {r : RR} (hx : xs[k]? = some r) :
    ∃ b off s, A = some ⟨b, off, none⟩ ∧ So b ∧ RIn Si w s r ∧ RCells w b (off + k * 9) s r := by
  obtain ⟨b, off, rfl, hb, hat⟩ := Els.flat h (by rw [← h.len]; exact Nat.lt_of_le_of_lt (Nat.zero_le k) (List.getElem?_eq_some_iff.1 hx).1)
  obtain ⟨r', ⟨s, rfl, hr⟩, hc⟩ := hat k r hx
  refine ⟨b, off, s, rfl, hb, hr, ?_⟩
  have hc' : ∀ j u, (rrCells s r).toList[j]? = some u → w.cell? ⟨b, off + k * 9 + j, none⟩ = some u := fun j u hu => by rw [Nat.add_assoc]; exact hc j u hu
  exact ⟨hc' 0 _ rfl, hc' 1 _ rfl, hc' 2 _ rfl, hc' 3 _ rfl, hc' 4 _ rfl, hc' 5 _ rfl, hc' 6 _ rfl, hc' 7 _ rfl, hc' 8 _ rfl⟩
/-- A row of the call's own, all of it new since block number B. -/
def NewE {α : Type} (E : Enc α) (e : TypeId) (B : Nat) (w : World) (v : Value) (xs : List α) : Prop := ∃ S, OwnE E e S w B v xs ∧ ∀ b, S b → B ≤ b
/-- Between two block numbers. -/
def btS (lo hi : Nat) : Nat → Prop := fun b => lo ≤ b ∧ b < hi
theorem NewE.nil {α : Type} (E : Enc α) (e : TypeId) (w : World) (B : Nat) : NewE E e B w (.slice none 0 0) [] := ⟨noS, OwnE.nil _ _ _ _, fun _ h => h.elim⟩
theorem NewE.below {α : Type} {E : Enc α} {e : TypeId} {B : Nat} {w w' : World} {v : Value} {xs : List α} (h : NewE E e B w v xs) (hb : Below w.heap.size w w') : NewE E e B w' v xs := by
  obtain ⟨S, ho, hS⟩ := h
  exact ⟨S, ho.below hb, hS⟩
theorem NewE.rd {α : Type} {E : Enc α} {e : TypeId} {B : Nat} {w : World} {v : Value} {xs : List α} (h : NewE E e B w v xs) : ∃ A c, v = .slice A xs.length c ∧ Els E (geS B w) (geS B w) w A xs.length xs ∧ xs.length ≤ c ∧ c ≤ maxLen := by
  obtain ⟨S, ho, hS⟩ := h
  have hl := ho.lt
  have hSl : ∀ b, S b → b < w.heap.size := by obtain ⟨_, _, _, hb⟩ := ho; exact fun b hb' => (hb b hb').1
  obtain ⟨A, c, rfl, he, h1, h2⟩ := ho.form
  exact ⟨A, c, rfl, he.mono (fun b hb => hl b hb) (fun b hb => ⟨hS b hb, hSl b hb⟩), h1, h2⟩

theorem five {w : World} {q : Nat} {s : RS} {x : RR} (h : RRow w q s x) (t : DS) : RRow (((((w.setCell ⟨q, 4, none⟩ (.slice t.A0 x.data.bytes.length t.c0)).setCell ⟨q, 5, none⟩ (.slice t.A1 x.data.host.length t.c1)).setCell ⟨q, 6, none⟩ (.slice t.A2 x.data.mail.length t.c2)).setCell ⟨q, 7, none⟩ (.slice t.A3 x.data.nums.length t.c3)).setCell ⟨q, 8, none⟩ (.slice t.A4 x.data.texts.length t.c4)) q { s with d := t } x :=
  heap_setCell_same _ _ 8 _ _ _ (heap_setCell_same _ _ 7 _ _ _ (heap_setCell_same _ _ 6 _ _ _ (heap_setCell_same _ _ 5 _ _ _ (heap_setCell_same _ _ 4 _ _ _ h))))
theorem five_chg (w : World) (q : Nat) (v4 v5 v6 v7 v8 : Value) : Chg (fun k => k = q) w (((((w.setCell ⟨q, 4, none⟩ v4).setCell ⟨q, 5, none⟩ v5).setCell ⟨q, 6, none⟩ v6).setCell ⟨q, 7, none⟩ v7).setCell ⟨q, 8, none⟩ v8) := by
  have k : ∀ {u : World} (j : Nat) (v : Value), Chg (fun k => k = q) w u → Chg (fun k => k = q) w (u.setCell ⟨q, j, none⟩ v) := fun j v h => h.setCell (p := ⟨q, j, none⟩) (Or.inl rfl) v
  exact k 8 _ (k 7 _ (k 6 _ (k 5 _ (k 4 _ (Chg.refl _ w)))))
/-- A record so small that it can be copied. -/
def Light9 (r : RR) : Prop := r.name.length ≤ 8796093022208 ∧ r.data.bytes.length ≤ 8796093022208 ∧ r.data.host.length ≤ 8796093022208 ∧ r.data.mail.length ≤ 8796093022208 ∧ r.data.nums.length ≤ 8796093022208 ∧ r.data.texts.length ≤ 8796093022208

set_option maxHeartbeats 4000000 in
theorem ownRRs_any (A : Option Addr) (n c : Nat) (xs : List RR) (w : World) (h : RdE encRR w A n xs) (hn : n ≤ 1000000) (hL : ∀ r ∈ xs, Light9 r) :
    Calls Try.prog 74 #[.slice A n c] w (RetP (fun v w' => NewE encRR 84 w.heap.size w' v xs) w) := by
  have hlt := Lib.hid h.len
  have HL := Lib.hid hL
  have H := Lib.hid h
  clear h hL
  go_enter Try.func74, Try.ntmps74
  go_wp2
  go_loopw [3, 4] (fun v i wr => ∃ k : Nat, i = .int .i64 k ∧ k ≤ n ∧ NewE encRR 84 w.heap.size wr v (xs.take k) ∧ Hid (Below w.heap.size w wr)) (fun _ i _ => n - (intOf i).toNat)
  case atStart => exact ⟨0, rfl, Nat.zero_le _, NewE.nil _ _ _ _, bl⟩
  case round =>
    obtain ⟨k, rfl, hk, ⟨S, hown, hS⟩, HBW⟩ := hrel
    by_cases hlt' : k < n
    · obtain ⟨r, hr⟩ : ∃ r, xs[k]? = some r := ⟨_, List.getElem?_eq_getElem (by rw [hlt.out]; exact hlt')⟩
      have HLR := Lib.hid (HL.out r (List.mem_of_getElem? hr))
      obtain ⟨b, off, s, rfl, hb0, hri, hrc⟩ := rr_at H.out hr
      have HRI := Lib.hid (hri.below HBW.out (fun b hb => hb))
      have HSb : Hid (∀ b, ltS w b → b < wr.heap.size) := fun b (hb : b < w.heap.size) => Nat.lt_of_lt_of_le hb HBW.out.size
      obtain ⟨d0, d1, d2, d3, d4, d5, d6, d7, d8⟩ := hrc.below HBW.out
      have HTK := Lib.hid hr
      have HOWN := Lib.hid hown
      have HS := Lib.hid hS
      clear hr hri hrc hown hS hb0
      obtain ⟨w1, hw1⟩ : ∃ w1, w1 = wr.alloc (.cells #[.slice s.A r.name.length s.c, .int .i64 r.type, .int .i64 r.cls, .int .i64 r.ttl, .slice s.d.A0 r.data.bytes.length s.d.c0, .slice s.d.A1 r.data.host.length s.d.c1, .slice s.d.A2 r.data.mail.length s.d.c2, .slice s.d.A3 r.data.nums.length s.d.c3, .slice s.d.A4 r.data.texts.length s.d.c4] 84) := ⟨_, rfl⟩
      have hb1 : Below wr.heap.size wr w1 := by rw [hw1]; exact bl.alloc (Nat.le_refl _) _
      have hR1 : RRow w1 wr.heap.size s r := by rw [hw1]; exact heap_alloc_new wr _
      have hsz1 : w1.heap.size = wr.heap.size + 1 := by rw [hw1]; simp
      have HB1 := Lib.hid hb1
      have HR1 := Lib.hid hR1
      have HZ1 := Lib.hid hsz1
      clear hb1 hR1 hsz1
      go_upto_region 6 with (fail)
      rw [← hw1]
      clear hw1 d0 d1 d2 d3 d4 d5 d6 d7 d8
      obtain ⟨x0, x1, x2, x3, x4, x5, x6, x7, x8⟩ := HR1.out.cells
      have hfr0 := HR1.out.free 0
      generalize hq : wr.heap.size = q at *
      have HQ := Lib.hid hq
      clear hq
      have xa0 := below_cell (bl.alloc (Nat.le_refl _) (.cells #[] 9)) x0
      go_upto_region 7 with (first
        | ((with_reducible show wpList _ _ _ (⟨some 19, _, _, _, _, _⟩ :: _) _ _); go_must (refine wpL_cloneS rfl (.tmp 16) (.tmp 18) rfl rfl s.A _ s.c r.name rfl (HRI.out.keep (fun b hb => HB1.out.block b (HSb.out b hb))).n (by have := HLR.out.1; omega) ?_; intro v2 w2 hown2 hb2; obtain ⟨A2, c2, rfl, _, hl2, hm2⟩ := OwnE.form hown2; have hR2 := HR1.out.below hb2; have e0 := hR2.cells.1; have f0 := hR2.free 0))
        | fail)
      obtain ⟨u2, hu2⟩ : ∃ u2, u2 = w2.setCell ⟨q, 0, none⟩ (.slice A2 r.name.length c2) := ⟨_, rfl⟩
      have hU2 : RRow u2 q { s with A := A2, c := c2 } r := by rw [hu2]; exact hR2.put 0 _ _ _ rfl
      have hcu2 : Chg (fun z => z = q) w2 u2 := by rw [hu2]; exact chg_g1 w2 q 0 _
      have hown2' : OwnS u2 (q + 1) (.slice A2 r.name.length c2) r.name := by rw [HZ1.out] at hown2; exact ownE_chg hown2 hcu2 (fun z h1 _ e => by omega)
      have hz2 : q + 1 ≤ u2.heap.size := by have h1 := hb2.size; have h2 := hcu2.size; rw [HZ1.out] at h1; omega
      have hbu2 : Below q wr u2 := by
        have h1 : Below q wr w2 := HB1.out.trans (hb2.mono (by rw [HZ1.out]; omega))
        exact h1.trans (hcu2.below (fun z hz => by omega) (by have h2 := hb2.size; rw [HZ1.out] at h2; omega))
      have HU2 := Lib.hid hU2
      have HOW2 := Lib.hid hown2'
      have HZ2 := Lib.hid hz2
      have HBU2 := Lib.hid hbu2
      rw [← hu2]
      clear hu2 hU2 hcu2 hown2 hown2' hz2 hbu2 hR2 e0 f0 xa0 x0 x1 x2 x3 x4 x5 x6 x7 x8 hfr0 hb2
      obtain ⟨x0, x1, x2, x3, x4, x5, x6, x7, x8⟩ := HU2.out.cells
      go_upto_region 8 with (first
        | (go_at_call 105; refine (ownData_any s.d r.data u2 ((HRI.out.keep (fun b hb => HBU2.out.block b (HSb.out b hb))).d.rd (fun b hb => by have h1 := HSb.out b hb; have h2 := HZ2.out; omega)) HLR.out.2).mono ?_; rintro e w3 ⟨v3, rfl, ⟨s3, rfl, ho3⟩, hb3⟩; unfold dsV; have hR3 := HU2.out.below hb3; obtain ⟨e0, e1, e2, e3, e4, e5, e6, e7, e8⟩ := hR3.cells; have f4 := hR3.free 4; have f5 := hR3.free 5; have f6 := hR3.free 6; have f7 := hR3.free 7; have f8 := hR3.free 8)
        | fail)
      obtain ⟨u3', hu3⟩ : ∃ u3', u3' = (((((w3.setCell ⟨q, 4, none⟩ (.slice s3.A0 r.data.bytes.length s3.c0)).setCell ⟨q, 5, none⟩ (.slice s3.A1 r.data.host.length s3.c1)).setCell ⟨q, 6, none⟩ (.slice s3.A2 r.data.mail.length s3.c2)).setCell ⟨q, 7, none⟩ (.slice s3.A3 r.data.nums.length s3.c3)).setCell ⟨q, 8, none⟩ (.slice s3.A4 r.data.texts.length s3.c4)) := ⟨_, rfl⟩
      have hU3 : RRow u3' q { { s with A := A2, c := c2 } with d := s3 } r := by rw [hu3]; exact five hR3 s3
      have hcu3 : Chg (fun z => z = q) w3 u3' := by rw [hu3]; exact five_chg w3 q _ _ _ _ _
      have hz3 : q + 1 ≤ w3.heap.size ∧ w3.heap.size ≤ u3'.heap.size := ⟨Nat.le_trans HZ2.out hb3.size, hcu3.size⟩
      have hbw3 : Below q wr w3 := HBU2.out.trans (hb3.mono (by have := HZ2.out; omega))
      have hbu3 : Below q wr u3' := hbw3.trans (hcu3.below (fun z hz => by omega) (by omega))
      have hrin : RIn (btS (q + 1) u3'.heap.size) u3' { { s with A := A2, c := c2 } with d := s3 } r := by
        have h1 := ownE_els (HOW2.out.below hb3) rfl
        have h2 := ho3.din
        have hk3 : ∀ b, q + 1 ≤ b ∧ b < w3.heap.size → u3'.heap[b]? = w3.heap[b]? := fun b hb => hcu3.block b hb.2 (fun e => by omega)
        have hm : ∀ b, q + 1 ≤ b ∧ b < w3.heap.size → btS (q + 1) u3'.heap.size b := fun b hb => ⟨hb.1, by omega⟩
        have hz := HZ2.out
        exact ⟨(h1.1.keep (fun b hb => hk3 b hb) (fun b hb => hk3 b hb)).mono (fun b hb => hm b hb) (fun b hb => hm b hb), h1.2, (h2.keep (fun b hb => hk3 b ⟨by have := hb.1; omega, hb.2⟩)).mono (fun b hb => hm b ⟨by have := hb.1; omega, hb.2⟩), HRI.out.it, HRI.out.ic, HRI.out.il⟩
      have HBU3 := Lib.hid hbu3
      have HRIN := Lib.hid hrin
      have hsz3 : q + 1 ≤ u3'.heap.size := by omega
      rw [← hu3]
      obtain ⟨y0, y1, y2, y3, y4, y5, y6, y7, y8⟩ := hU3.cells
      have hown : OwnE encRR 84 S u3' w.heap.size u3 (xs.take k) := by have h := HOWN.out; have hb := HBU3.out; rw [← HQ.out] at hb; exact h.below hb
      have hlto := HOWN.out.lt
      have hbase : w.heap.size ≤ q := by rw [← HQ.out]; exact HBW.out.size
      have hrow : encRR.R (btS (q + 1) u3'.heap.size) u3' [.slice A2 r.name.length c2, .int .i64 r.type, .int .i64 r.cls, .int .i64 r.ttl, .slice s3.A0 r.data.bytes.length s3.c0, .slice s3.A1 r.data.host.length s3.c1, .slice s3.A2 r.data.mail.length s3.c2, .slice s3.A3 r.data.nums.length s3.c3, .slice s3.A4 r.data.texts.length s3.c4] r := ⟨_, rfl, hrin⟩
      rw [HQ.out] at hlto
      clear hu3 hU3 hcu3 hz3 hbw3 hbu3 hrin hR3 e0 e1 e2 e3 e4 e5 e6 e7 e8 f4 f5 f6 f7 f8 x0 x1 x2 x3 x4 x5 x6 x7 x8 hb3 ho3
      go_wp2_with (first
        | ((with_reducible show wpList _ _ _ (⟨some 28, _, _, _, _, _⟩ :: _) _ _); refine wpL_pushE elRR rfl (.tmp 25) (.tmp 27) rfl w.heap.size _ (xs.take k) rfl hown _ r hrow ?hS rfl ?hb ?hl ?hbase ?_; rotate_right; intro v4 w4 hown4 hg4 hat4)
        | fail)
      · go_roundw
        case rel =>
          refine ⟨k + 1, by go_num, by omega, ⟨_, by rw [List.take_add_one, HTK.out]; exact hown4, fun x hx => ?_⟩, ?_⟩
          · rcases hx with hx | hx
            · exact HS.out x hx
            · have := hx.1; omega
          · have hb := HBU3.out
            rw [← HQ.out] at hb
            exact (nx HBW.out hb).grown hg4 (by omega) (fun j hj => (hown.lt j hj).1)
        case measure => simp [intOf]; omega
      case hS =>
        intro x hx
        refine ⟨hx.2, fun he => ?_⟩
        have := (hlto x he.symm).2
        have := hx.1
        omega
      case hb => have : min k xs.length ≤ k := Nat.min_le_left _ _; omega
      case hl => have : min k xs.length ≤ k := Nat.min_le_left _ _; unfold maxLen; omega
      case hbase => omega
    · go_wp2
      go_ret
      have hkn : k = n := by omega
      exact ⟨_, rfl, ⟨S, by rw [hkn, List.take_of_length_le (by rw [hlt.out]; omega)] at hown; exact hown, hS⟩, HBW.out⟩
end Go.Proofs.Ytimkdpkhdbiniaa

/- Questions in memory. -/
namespace Go.Proofs.Ytimkdpkhdbiniaa
open Go.RowKit
set_option maxRecDepth 100000

/-- Where a question's name leads. -/
structure QS where
  A : Option Addr
  c : Nat
/-- A question's three cells, at a place. -/
def QCells (w : World) (b p : Nat) (s : QS) (x : Qu) : Prop :=
  w.cell? ⟨b, p, none⟩ = some (.slice s.A x.name.length s.c) ∧ w.cell? ⟨b, p + 1, none⟩ = some (.int .i64 x.type) ∧ w.cell? ⟨b, p + 2, none⟩ = some (.int .i64 x.cls)
theorem QCells.below {w w' : World} {b p : Nat} {s : QS} {x : Qu} (h : QCells w b p s x) (hb : Below w.heap.size w w') : QCells w' b p s x := ⟨below_cell hb h.1, below_cell hb h.2.1, below_cell hb h.2.2⟩
end Go.Proofs.Ytimkdpkhdbiniaa

/- Messages: in plain Lean, and how one lies in memory. -/
namespace Go.Proofs.Ytimkdpkhdbiniaa
open Go.RowKit
set_option maxRecDepth 100000

/-- A message. -/
structure Ms where
  id : Int
  resp : Bool
  op : Int
  aa : Bool
  tc : Bool
  rd : Bool
  ra : Bool
  rcode : Int
  qs : List Qu
  an : List RR
  au : List RR
  ex : List RR
  edns : Bool
  size : Int
/-- Where a message's lists lie. -/
structure MS where
  Q : Option Addr
  qc : Nat
  A : Option Addr
  ac : Nat
  U : Option Addr
  uc : Nat
  X : Option Addr
  xc : Nat
def MS.nil : MS := ⟨none, 0, none, 0, none, 0, none, 0⟩
def mCells (s : MS) (m : Ms) : Array Value := #[.int .i64 m.id, .bool m.resp, .int .i64 m.op, .bool m.aa, .bool m.tc, .bool m.rd, .bool m.ra, .int .i64 m.rcode, .slice s.Q m.qs.length s.qc, .slice s.A m.an.length s.ac, .slice s.U m.au.length s.uc, .slice s.X m.ex.length s.xc, .bool m.edns, .int .i64 m.size]
def msV (s : MS) (m : Ms) : Value := .agg (mCells s m)
def i64S (n : Int) : Prop := -9223372036854775808 ≤ n ∧ n ≤ 9223372036854775807
structure MIn (S : Nat → Prop) (w : World) (s : MS) (m : Ms) : Prop where
  q : Els encQu S S w s.Q m.qs.length m.qs
  a : Els encRR S S w s.A m.an.length m.an
  u : Els encRR S S w s.U m.au.length m.au
  x : Els encRR S S w s.X m.ex.length m.ex
  cq : m.qs.length ≤ s.qc ∧ s.qc ≤ maxLen
  ca : m.an.length ≤ s.ac ∧ s.ac ≤ maxLen
  cu : m.au.length ≤ s.uc ∧ s.uc ≤ maxLen
  cx : m.ex.length ≤ s.xc ∧ s.xc ≤ maxLen
  ii : i64S m.id
  io : i64S m.op
  ir : i64S m.rcode
  is : i64S m.size
section
variable {S S' F : Nat → Prop} {w w' : World} {s : MS} {m : Ms} {B : Nat}
theorem MIn.mono (hS : ∀ b, S b → S' b) (h : MIn S w s m) : MIn S' w s m := ⟨h.q.mono hS hS, h.a.mono hS hS, h.u.mono hS hS, h.x.mono hS hS, h.cq, h.ca, h.cu, h.cx, h.ii, h.io, h.ir, h.is⟩
theorem MIn.keep (hS : ∀ b, S b → w'.heap[b]? = w.heap[b]?) (h : MIn S w s m) : MIn S w' s m := ⟨h.q.keep hS hS, h.a.keep hS hS, h.u.keep hS hS, h.x.keep hS hS, h.cq, h.ca, h.cu, h.cx, h.ii, h.io, h.ir, h.is⟩
theorem MIn.chg (h : MIn S w s m) (hc : Chg F w w') (hl : ∀ b, S b → b < w.heap.size ∧ ¬ F b) : MIn S w' s m := h.keep fun b hb => hc.block b (hl b hb).1 (hl b hb).2
theorem MIn.below (h : MIn S w s m) (hb : Below w.heap.size w w') (hl : ∀ b, S b → b < w.heap.size) : MIn S w' s m := h.keep fun b hbS => hb.block b (hl b hbS)
end
/-- A message in a block of its own. -/
def MRow (w : World) (q : Nat) (s : MS) (m : Ms) : Prop := w.heap[q]? = some (.cells (mCells s m) 31 (0, 0))
def MCells (w : World) (q : Nat) (s : MS) (m : Ms) : Prop := w.cell? ⟨q, 0, none⟩ = some (.int .i64 m.id) ∧ w.cell? ⟨q, 1, none⟩ = some (.bool m.resp) ∧ w.cell? ⟨q, 2, none⟩ = some (.int .i64 m.op) ∧ w.cell? ⟨q, 3, none⟩ = some (.bool m.aa) ∧ w.cell? ⟨q, 4, none⟩ = some (.bool m.tc) ∧ w.cell? ⟨q, 5, none⟩ = some (.bool m.rd) ∧ w.cell? ⟨q, 6, none⟩ = some (.bool m.ra) ∧ w.cell? ⟨q, 7, none⟩ = some (.int .i64 m.rcode) ∧ w.cell? ⟨q, 8, none⟩ = some (.slice s.Q m.qs.length s.qc) ∧ w.cell? ⟨q, 9, none⟩ = some (.slice s.A m.an.length s.ac) ∧ w.cell? ⟨q, 10, none⟩ = some (.slice s.U m.au.length s.uc) ∧ w.cell? ⟨q, 11, none⟩ = some (.slice s.X m.ex.length s.xc) ∧ w.cell? ⟨q, 12, none⟩ = some (.bool m.edns) ∧ w.cell? ⟨q, 13, none⟩ = some (.int .i64 m.size)
section
variable {w w' : World} {q : Nat} {s s' : MS} {m m' : Ms}
theorem MRow.lt (h : MRow w q s m) : q < w.heap.size := (Array.getElem?_eq_some_iff.1 h).1
theorem MRow.below (h : MRow w q s m) (hb : Below w.heap.size w w') : MRow w' q s m := (hb.block q h.lt).trans h
theorem MRow.cell (h : MRow w q s m) (j : Nat) : w.cell? ⟨q, j, none⟩ = (mCells s m)[j]? := cell_of_row _ _ _ _ _ _ h
theorem MRow.free (h : MRow w q s m) (j : Nat) : w.frozen? ⟨q, j, none⟩ = false := frozen_of_row _ _ _ _ _ h
theorem MRow.put (h : MRow w q s m) (j : Nat) (v : Value) (s' : MS) (m' : Ms) (e : (mCells s m).setIfInBounds j v = mCells s' m') : MRow (w.setCell ⟨q, j, none⟩ v) q s' m' := by
  unfold MRow
  rw [← e]
  exact heap_setCell_same _ _ _ _ _ _ h
theorem MRow.cells (h : MRow w q s m) : MCells w q s m :=
  ⟨(h.cell 0).trans rfl, (h.cell 1).trans rfl, (h.cell 2).trans rfl, (h.cell 3).trans rfl, (h.cell 4).trans rfl, (h.cell 5).trans rfl, (h.cell 6).trans rfl, (h.cell 7).trans rfl, (h.cell 8).trans rfl, (h.cell 9).trans rfl, (h.cell 10).trans rfl, (h.cell 11).trans rfl, (h.cell 12).trans rfl, (h.cell 13).trans rfl⟩
theorem MRow.made (w : World) (s : MS) (m : Ms) : MRow (w.alloc (.cells (mCells s m) 31)) w.heap.size s m := heap_alloc_new w _
end

/-- Fourteen stores. -/
def put14 (w : World) (q : Nat) (v0 v1 v2 v3 v4 v5 v6 v7 v8 v9 v10 v11 v12 v13 : Value) : World := ((((((((((((((w.setCell ⟨q, 0, none⟩ v0).setCell ⟨q, 1, none⟩ v1).setCell ⟨q, 2, none⟩ v2).setCell ⟨q, 3, none⟩ v3).setCell ⟨q, 4, none⟩ v4).setCell ⟨q, 5, none⟩ v5).setCell ⟨q, 6, none⟩ v6).setCell ⟨q, 7, none⟩ v7).setCell ⟨q, 8, none⟩ v8).setCell ⟨q, 9, none⟩ v9).setCell ⟨q, 10, none⟩ v10).setCell ⟨q, 11, none⟩ v11).setCell ⟨q, 12, none⟩ v12).setCell ⟨q, 13, none⟩ v13)
theorem set14 {w : World} {q : Nat} {t : TypeId} {a0 a1 a2 a3 a4 a5 a6 a7 a8 a9 a10 a11 a12 a13 : Value} (h : w.heap[q]? = some (.cells #[a0, a1, a2, a3, a4, a5, a6, a7, a8, a9, a10, a11, a12, a13] t (0, 0))) (v0 v1 v2 v3 v4 v5 v6 v7 v8 v9 v10 v11 v12 v13 : Value) : (put14 w q v0 v1 v2 v3 v4 v5 v6 v7 v8 v9 v10 v11 v12 v13).heap[q]? = some (.cells #[v0, v1, v2, v3, v4, v5, v6, v7, v8, v9, v10, v11, v12, v13] t (0, 0)) := by
  unfold put14
  have h0 : (w.setCell ⟨q, 0, none⟩ v0).heap[q]? = some (.cells #[v0, a1, a2, a3, a4, a5, a6, a7, a8, a9, a10, a11, a12, a13] t (0, 0)) := heap_setCell_same _ _ 0 _ _ v0 h
  have h1 : ((w.setCell ⟨q, 0, none⟩ v0).setCell ⟨q, 1, none⟩ v1).heap[q]? = some (.cells #[v0, v1, a2, a3, a4, a5, a6, a7, a8, a9, a10, a11, a12, a13] t (0, 0)) := heap_setCell_same _ _ 1 _ _ v1 h0
  have h2 : (((w.setCell ⟨q, 0, none⟩ v0).setCell ⟨q, 1, none⟩ v1).setCell ⟨q, 2, none⟩ v2).heap[q]? = some (.cells #[v0, v1, v2, a3, a4, a5, a6, a7, a8, a9, a10, a11, a12, a13] t (0, 0)) := heap_setCell_same _ _ 2 _ _ v2 h1
  have h3 : ((((w.setCell ⟨q, 0, none⟩ v0).setCell ⟨q, 1, none⟩ v1).setCell ⟨q, 2, none⟩ v2).setCell ⟨q, 3, none⟩ v3).heap[q]? = some (.cells #[v0, v1, v2, v3, a4, a5, a6, a7, a8, a9, a10, a11, a12, a13] t (0, 0)) := heap_setCell_same _ _ 3 _ _ v3 h2
  have h4 : (((((w.setCell ⟨q, 0, none⟩ v0).setCell ⟨q, 1, none⟩ v1).setCell ⟨q, 2, none⟩ v2).setCell ⟨q, 3, none⟩ v3).setCell ⟨q, 4, none⟩ v4).heap[q]? = some (.cells #[v0, v1, v2, v3, v4, a5, a6, a7, a8, a9, a10, a11, a12, a13] t (0, 0)) := heap_setCell_same _ _ 4 _ _ v4 h3
  have h5 : ((((((w.setCell ⟨q, 0, none⟩ v0).setCell ⟨q, 1, none⟩ v1).setCell ⟨q, 2, none⟩ v2).setCell ⟨q, 3, none⟩ v3).setCell ⟨q, 4, none⟩ v4).setCell ⟨q, 5, none⟩ v5).heap[q]? = some (.cells #[v0, v1, v2, v3, v4, v5, a6, a7, a8, a9, a10, a11, a12, a13] t (0, 0)) := heap_setCell_same _ _ 5 _ _ v5 h4
  have h6 : (((((((w.setCell ⟨q, 0, none⟩ v0).setCell ⟨q, 1, none⟩ v1).setCell ⟨q, 2, none⟩ v2).setCell ⟨q, 3, none⟩ v3).setCell ⟨q, 4, none⟩ v4).setCell ⟨q, 5, none⟩ v5).setCell ⟨q, 6, none⟩ v6).heap[q]? = some (.cells #[v0, v1, v2, v3, v4, v5, v6, a7, a8, a9, a10, a11, a12, a13] t (0, 0)) := heap_setCell_same _ _ 6 _ _ v6 h5
  have h7 : ((((((((w.setCell ⟨q, 0, none⟩ v0).setCell ⟨q, 1, none⟩ v1).setCell ⟨q, 2, none⟩ v2).setCell ⟨q, 3, none⟩ v3).setCell ⟨q, 4, none⟩ v4).setCell ⟨q, 5, none⟩ v5).setCell ⟨q, 6, none⟩ v6).setCell ⟨q, 7, none⟩ v7).heap[q]? = some (.cells #[v0, v1, v2, v3, v4, v5, v6, v7, a8, a9, a10, a11, a12, a13] t (0, 0)) := heap_setCell_same _ _ 7 _ _ v7 h6
  have h8 : (((((((((w.setCell ⟨q, 0, none⟩ v0).setCell ⟨q, 1, none⟩ v1).setCell ⟨q, 2, none⟩ v2).setCell ⟨q, 3, none⟩ v3).setCell ⟨q, 4, none⟩ v4).setCell ⟨q, 5, none⟩ v5).setCell ⟨q, 6, none⟩ v6).setCell ⟨q, 7, none⟩ v7).setCell ⟨q, 8, none⟩ v8).heap[q]? = some (.cells #[v0, v1, v2, v3, v4, v5, v6, v7, v8, a9, a10, a11, a12, a13] t (0, 0)) := heap_setCell_same _ _ 8 _ _ v8 h7
  have h9 : ((((((((((w.setCell ⟨q, 0, none⟩ v0).setCell ⟨q, 1, none⟩ v1).setCell ⟨q, 2, none⟩ v2).setCell ⟨q, 3, none⟩ v3).setCell ⟨q, 4, none⟩ v4).setCell ⟨q, 5, none⟩ v5).setCell ⟨q, 6, none⟩ v6).setCell ⟨q, 7, none⟩ v7).setCell ⟨q, 8, none⟩ v8).setCell ⟨q, 9, none⟩ v9).heap[q]? = some (.cells #[v0, v1, v2, v3, v4, v5, v6, v7, v8, v9, a10, a11, a12, a13] t (0, 0)) := heap_setCell_same _ _ 9 _ _ v9 h8
  have h10 : (((((((((((w.setCell ⟨q, 0, none⟩ v0).setCell ⟨q, 1, none⟩ v1).setCell ⟨q, 2, none⟩ v2).setCell ⟨q, 3, none⟩ v3).setCell ⟨q, 4, none⟩ v4).setCell ⟨q, 5, none⟩ v5).setCell ⟨q, 6, none⟩ v6).setCell ⟨q, 7, none⟩ v7).setCell ⟨q, 8, none⟩ v8).setCell ⟨q, 9, none⟩ v9).setCell ⟨q, 10, none⟩ v10).heap[q]? = some (.cells #[v0, v1, v2, v3, v4, v5, v6, v7, v8, v9, v10, a11, a12, a13] t (0, 0)) := heap_setCell_same _ _ 10 _ _ v10 h9
  have h11 : ((((((((((((w.setCell ⟨q, 0, none⟩ v0).setCell ⟨q, 1, none⟩ v1).setCell ⟨q, 2, none⟩ v2).setCell ⟨q, 3, none⟩ v3).setCell ⟨q, 4, none⟩ v4).setCell ⟨q, 5, none⟩ v5).setCell ⟨q, 6, none⟩ v6).setCell ⟨q, 7, none⟩ v7).setCell ⟨q, 8, none⟩ v8).setCell ⟨q, 9, none⟩ v9).setCell ⟨q, 10, none⟩ v10).setCell ⟨q, 11, none⟩ v11).heap[q]? = some (.cells #[v0, v1, v2, v3, v4, v5, v6, v7, v8, v9, v10, v11, a12, a13] t (0, 0)) := heap_setCell_same _ _ 11 _ _ v11 h10
  have h12 : (((((((((((((w.setCell ⟨q, 0, none⟩ v0).setCell ⟨q, 1, none⟩ v1).setCell ⟨q, 2, none⟩ v2).setCell ⟨q, 3, none⟩ v3).setCell ⟨q, 4, none⟩ v4).setCell ⟨q, 5, none⟩ v5).setCell ⟨q, 6, none⟩ v6).setCell ⟨q, 7, none⟩ v7).setCell ⟨q, 8, none⟩ v8).setCell ⟨q, 9, none⟩ v9).setCell ⟨q, 10, none⟩ v10).setCell ⟨q, 11, none⟩ v11).setCell ⟨q, 12, none⟩ v12).heap[q]? = some (.cells #[v0, v1, v2, v3, v4, v5, v6, v7, v8, v9, v10, v11, v12, a13] t (0, 0)) := heap_setCell_same _ _ 12 _ _ v12 h11
  have h13 : ((((((((((((((w.setCell ⟨q, 0, none⟩ v0).setCell ⟨q, 1, none⟩ v1).setCell ⟨q, 2, none⟩ v2).setCell ⟨q, 3, none⟩ v3).setCell ⟨q, 4, none⟩ v4).setCell ⟨q, 5, none⟩ v5).setCell ⟨q, 6, none⟩ v6).setCell ⟨q, 7, none⟩ v7).setCell ⟨q, 8, none⟩ v8).setCell ⟨q, 9, none⟩ v9).setCell ⟨q, 10, none⟩ v10).setCell ⟨q, 11, none⟩ v11).setCell ⟨q, 12, none⟩ v12).setCell ⟨q, 13, none⟩ v13).heap[q]? = some (.cells #[v0, v1, v2, v3, v4, v5, v6, v7, v8, v9, v10, v11, v12, v13] t (0, 0)) := heap_setCell_same _ _ 13 _ _ v13 h12
  exact h13
theorem MRow.fill {w : World} {q : Nat} {s : MS} {m : Ms} (h : MRow w q s m) (s' : MS) (m' : Ms) : MRow (put14 w q (.int .i64 m'.id) (.bool m'.resp) (.int .i64 m'.op) (.bool m'.aa) (.bool m'.tc) (.bool m'.rd) (.bool m'.ra) (.int .i64 m'.rcode) (.slice s'.Q m'.qs.length s'.qc) (.slice s'.A m'.an.length s'.ac) (.slice s'.U m'.au.length s'.uc) (.slice s'.X m'.ex.length s'.xc) (.bool m'.edns) (.int .i64 m'.size)) q s' m' := set14 h (.int .i64 m'.id) (.bool m'.resp) (.int .i64 m'.op) (.bool m'.aa) (.bool m'.tc) (.bool m'.rd) (.bool m'.ra) (.int .i64 m'.rcode) (.slice s'.Q m'.qs.length s'.qc) (.slice s'.A m'.an.length s'.ac) (.slice s'.U m'.au.length s'.uc) (.slice s'.X m'.ex.length s'.xc) (.bool m'.edns) (.int .i64 m'.size)
section
variable {w w' : World} {q : Nat} {s s' : QS} {x x' : Qu}
end
def Ms.zero : Ms := ⟨0, false, 0, false, false, false, false, 0, [], [], [], [], false, 0⟩
end Go.Proofs.Ytimkdpkhdbiniaa

/- rdata: which data may be, in plain Lean. -/
namespace Go.Proofs.Ytimkdpkhdbiniaa

def hostP (yes : Bool) (n : List (List UInt8)) : Prop := if yes = true then SoundN n else n = []
def textsP (yes : Bool) (t : List (List UInt8)) : Prop := if yes = true then (1 ≤ t.length ∧ t.length ≤ 64 ∧ ∀ l ∈ t, l.length ≤ 255) else t = []
def FineS (s : Shp) (d : Da) : Prop :=
  (0 ≤ s.bytes → (d.bytes.length : Int) = s.bytes) ∧ d.bytes.length ≤ 65535 ∧ (d.nums.length : Int) = s.nums ∧ hostP s.host d.host ∧ hostP s.mail d.mail ∧ (∀ n ∈ d.nums, fitsB n s.size = true) ∧ textsP s.texts d.texts
/-- May a type say so? -/
def FineD (k : Int) (d : Da) : Prop := (1 ≤ k ∧ k ≤ 65535) ∧ FineS (shapeP k) d
noncomputable def fineB (k : Int) (d : Da) : Bool := @decide (FineD k d) (Classical.propDecidable _)
theorem fineB_true {k : Int} {d : Da} (h : FineD k d) : fineB k d = true := by unfold fineB; simpa using h
theorem fineB_false {k : Int} {d : Da} (h : ¬ FineD k d) : fineB k d = false := by unfold fineB; simpa using h
theorem fineB_iff {k : Int} {d : Da} : fineB k d = true ↔ FineD k d := by unfold fineB; simp
end Go.Proofs.Ytimkdpkhdbiniaa
