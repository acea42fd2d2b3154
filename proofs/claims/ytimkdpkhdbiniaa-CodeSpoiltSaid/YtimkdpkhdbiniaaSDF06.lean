/- Parts of a proof, joined: Blank, EnP, OpenEn. -/
import Derived.Test.YtimkdpkhdbiniaaSDF01
import Derived.Test.YtimkdpkhdbiniaaSDM02b
import Derived.Test.YtimkdpkhdbiniaaSDF00
import Derived.Test.YtimkdpkhdbiniaaSDM05
/- Is a fact empty? code.blank and the reference's Blank (printed by gen/blank.py). -/
namespace Go.Proofs.Ytimkdpkhdbiniaa
open Go.RowKit
set_option maxRecDepth 100000
set_option linter.unusedVariables false

/-- Is a fact empty? -/
def blankF (f : Fa) : Bool := (f.type == 0) && (f.kind == 0) && (f.rank == 0) && (f.got == 0) && (f.ttl == 0) && decide (f.name.length + f.set.length + f.zone.length + (f.soa.bytes.length + f.soa.host.length + f.soa.mail.length + f.soa.nums.length + f.soa.texts.length) = 0)
/-- How large the lists of a fact may be. -/
structure LtB (f : Fa) : Prop where
  n : f.name.length ≤ 100000000000000
  l : f.set.length ≤ 100000000000000
  z : f.zone.length ≤ 100000000000000
  b : f.soa.bytes.length ≤ 1000000000000000
  h : f.soa.host.length ≤ 100000000000000
  m : f.soa.mail.length ≤ 100000000000000
  s : f.soa.nums.length ≤ 100000000000000
  t : f.soa.texts.length ≤ 100000000000000

set_option maxHeartbeats 16000000 in
theorem cblank_any (s : FS) (f : Fa) (w : World) (hL : LtB f) : Calls Try.prog 60 #[faV s f] w (RetP (fun v _ => v = .bool (blankF f)) w) := by
  obtain ⟨w1, hw1⟩ : ∃ w1, w1 = w.alloc (.cells (faCells s f) 48) := ⟨_, rfl⟩
  have hb1 : Below w.heap.size w w1 := by rw [hw1]; exact bl.alloc (Nat.le_refl _) _
  have hR1 : FaRow w1 w.heap.size s f := by rw [hw1]; exact FaRow.made w s f
  obtain ⟨w2, hw2⟩ : ∃ w2, w2 = w1.alloc (.cells #[.slice s.d.A0 f.soa.bytes.length s.d.c0, .slice s.d.A1 f.soa.host.length s.d.c1, .slice s.d.A2 f.soa.mail.length s.d.c2, .slice s.d.A3 f.soa.nums.length s.d.c3, .slice s.d.A4 f.soa.texts.length s.d.c4] 46) := ⟨_, rfl⟩
  have hb2 : Below w1.heap.size w1 w2 := by rw [hw2]; exact bl.alloc (Nat.le_refl _) _
  have hD : w2.heap[w1.heap.size]? = some (.cells #[.slice s.d.A0 f.soa.bytes.length s.d.c0, .slice s.d.A1 f.soa.host.length s.d.c1, .slice s.d.A2 f.soa.mail.length s.d.c2, .slice s.d.A3 f.soa.nums.length s.d.c3, .slice s.d.A4 f.soa.texts.length s.d.c4] 46 (0, 0)) := by rw [hw2]; exact heap_alloc_new w1 _
  have z0 : w2.cell? ⟨w1.heap.size, 0, none⟩ = some (.slice s.d.A0 f.soa.bytes.length s.d.c0) := (cell_of_row _ _ _ _ _ _ hD).trans rfl
  have z1 : w2.cell? ⟨w1.heap.size, 1, none⟩ = some (.slice s.d.A1 f.soa.host.length s.d.c1) := (cell_of_row _ _ _ _ _ _ hD).trans rfl
  have z2 : w2.cell? ⟨w1.heap.size, 2, none⟩ = some (.slice s.d.A2 f.soa.mail.length s.d.c2) := (cell_of_row _ _ _ _ _ _ hD).trans rfl
  have z3 : w2.cell? ⟨w1.heap.size, 3, none⟩ = some (.slice s.d.A3 f.soa.nums.length s.d.c3) := (cell_of_row _ _ _ _ _ _ hD).trans rfl
  have z4 : w2.cell? ⟨w1.heap.size, 4, none⟩ = some (.slice s.d.A4 f.soa.texts.length s.d.c4) := (cell_of_row _ _ _ _ _ _ hD).trans rfl
  obtain ⟨x0, x1, x2, x3, x4, x5, x6, x7, x8, x9, x10, x11, x12⟩ := hR1.cells
  obtain ⟨y0, y1, y2, y3, y4, y5, y6, y7, -, -, -, -, -⟩ := (hR1.below hb2).cells
  have HB2 : Hid (Below w.heap.size w w2) := nx hb1 hb2
  have HV : Hid (blankF f = ((f.type == 0) && (f.kind == 0) && (f.rank == 0) && (f.got == 0) && (f.ttl == 0) && decide (f.name.length + f.set.length + f.zone.length + (f.soa.bytes.length + f.soa.host.length + f.soa.mail.length + f.soa.nums.length + f.soa.texts.length) = 0))) := rfl
  have HLB := Lib.hid hL
  unfold faV
  unfold faCells at hw1 ⊢
  obtain ⟨l0, l1, l2, l3, l4, l5, l6, l7⟩ := hL
  generalize f.name.length = n0 at *
  generalize f.set.length = n1 at *
  generalize f.zone.length = n2 at *
  generalize f.soa.bytes.length = n3 at *
  generalize f.soa.host.length = n4 at *
  generalize f.soa.mail.length = n5 at *
  generalize f.soa.nums.length = n6 at *
  generalize f.soa.texts.length = n7 at *
  generalize f.type = a0 at *
  generalize f.kind = a1 at *
  generalize f.rank = a2 at *
  generalize f.got = a3 at *
  generalize f.ttl = a4 at *
  generalize blankF f = R at HV ⊢
  clear hb1 hb2 hR1 hD HLB
  go_enter Try.func60, Try.ntmps60
  go_upto_region 1 with (fail)
  rw [← hw1]
  clear hw1
  go_upto_region 2 with (fail)
  rw [← hw2]
  clear hw2 x0 x1 x2 x3 x4 x5 x6 x7 x8 x9 x10 x11 x12
  cases b0 : (a0 == 0) with
  | false =>
    have HR0 : Hid (R = false) := by show _ = _; rw [HV.out]; simp [b0]
    clear HV
    go_wp2
    go_ret
    exact ⟨_, rfl, congrArg Value.bool (HR0.out.symm), HB2.out⟩
  | true =>
    cases b1 : (a1 == 0) with
    | false =>
      have HR0 : Hid (R = false) := by show _ = _; rw [HV.out]; simp [b1]
      clear HV
      go_wp2
      go_ret
      exact ⟨_, rfl, congrArg Value.bool (HR0.out.symm), HB2.out⟩
    | true =>
      cases b2 : (a2 == 0) with
      | false =>
        have HR0 : Hid (R = false) := by show _ = _; rw [HV.out]; simp [b2]
        clear HV
        go_wp2
        go_ret
        exact ⟨_, rfl, congrArg Value.bool (HR0.out.symm), HB2.out⟩
      | true =>
        cases b3 : (a3 == 0) with
        | false =>
          have HR0 : Hid (R = false) := by show _ = _; rw [HV.out]; simp [b3]
          clear HV
          go_wp2
          go_ret
          exact ⟨_, rfl, congrArg Value.bool (HR0.out.symm), HB2.out⟩
        | true =>
          cases b4 : (a4 == 0) with
          | false =>
            have HR0 : Hid (R = false) := by show _ = _; rw [HV.out]; simp [b4]
            clear HV
            go_wp2
            go_ret
            exact ⟨_, rfl, congrArg Value.bool (HR0.out.symm), HB2.out⟩
          | true =>
            cases b5 : ((n0 : Int) + (n1 : Int) + (n2 : Int) + (n3 : Int) + (n4 : Int) + (n5 : Int) + (n6 : Int) + (n7 : Int) == 0) with
            | false =>
              have HR0 : Hid (R = false) := by show _ = _; rw [HV.out]; have e : ¬ (n0 + n1 + n2 + (n3 + n4 + n5 + n6 + n7) = 0) := fun e => (by simp at b5; omega); rw [decide_eq_false e]; simp
              clear HV
              go_wp2
              go_ret
              exact ⟨_, rfl, congrArg Value.bool (HR0.out.symm), HB2.out⟩
            | true =>
              have HR0 : Hid (R = true) := by show _ = _; rw [HV.out]; have e : n0 + n1 + n2 + (n3 + n4 + n5 + n6 + n7) = 0 := (by simp at b5; omega); rw [decide_eq_true e]; simp [b0, b1, b2, b3, b4]
              clear HV
              go_wp2
              go_ret
              exact ⟨_, rfl, congrArg Value.bool (HR0.out.symm), HB2.out⟩
set_option maxHeartbeats 16000000 in
theorem rblank_any (s : FS) (f : Fa) (w : World) (hL : LtB f) : Calls Try.prog 58 #[faV s f] w (RetP (fun v _ => v = .bool (blankF f)) w) := by
  obtain ⟨w1, hw1⟩ : ∃ w1, w1 = w.alloc (.cells (faCells s f) 48) := ⟨_, rfl⟩
  have hb1 : Below w.heap.size w w1 := by rw [hw1]; exact bl.alloc (Nat.le_refl _) _
  have hR1 : FaRow w1 w.heap.size s f := by rw [hw1]; exact FaRow.made w s f
  obtain ⟨w2, hw2⟩ : ∃ w2, w2 = w1.alloc (.cells #[.slice s.d.A0 f.soa.bytes.length s.d.c0, .slice s.d.A1 f.soa.host.length s.d.c1, .slice s.d.A2 f.soa.mail.length s.d.c2, .slice s.d.A3 f.soa.nums.length s.d.c3, .slice s.d.A4 f.soa.texts.length s.d.c4] 46) := ⟨_, rfl⟩
  have hb2 : Below w1.heap.size w1 w2 := by rw [hw2]; exact bl.alloc (Nat.le_refl _) _
  have hD : w2.heap[w1.heap.size]? = some (.cells #[.slice s.d.A0 f.soa.bytes.length s.d.c0, .slice s.d.A1 f.soa.host.length s.d.c1, .slice s.d.A2 f.soa.mail.length s.d.c2, .slice s.d.A3 f.soa.nums.length s.d.c3, .slice s.d.A4 f.soa.texts.length s.d.c4] 46 (0, 0)) := by rw [hw2]; exact heap_alloc_new w1 _
  have z0 : w2.cell? ⟨w1.heap.size, 0, none⟩ = some (.slice s.d.A0 f.soa.bytes.length s.d.c0) := (cell_of_row _ _ _ _ _ _ hD).trans rfl
  have z1 : w2.cell? ⟨w1.heap.size, 1, none⟩ = some (.slice s.d.A1 f.soa.host.length s.d.c1) := (cell_of_row _ _ _ _ _ _ hD).trans rfl
  have z2 : w2.cell? ⟨w1.heap.size, 2, none⟩ = some (.slice s.d.A2 f.soa.mail.length s.d.c2) := (cell_of_row _ _ _ _ _ _ hD).trans rfl
  have z3 : w2.cell? ⟨w1.heap.size, 3, none⟩ = some (.slice s.d.A3 f.soa.nums.length s.d.c3) := (cell_of_row _ _ _ _ _ _ hD).trans rfl
  have z4 : w2.cell? ⟨w1.heap.size, 4, none⟩ = some (.slice s.d.A4 f.soa.texts.length s.d.c4) := (cell_of_row _ _ _ _ _ _ hD).trans rfl
  obtain ⟨x0, x1, x2, x3, x4, x5, x6, x7, x8, x9, x10, x11, x12⟩ := hR1.cells
  obtain ⟨y0, y1, y2, y3, y4, y5, y6, y7, -, -, -, -, -⟩ := (hR1.below hb2).cells
  have HB2 : Hid (Below w.heap.size w w2) := nx hb1 hb2
  have HV : Hid (blankF f = ((f.type == 0) && (f.kind == 0) && (f.rank == 0) && (f.got == 0) && (f.ttl == 0) && decide (f.name.length + f.set.length + f.zone.length + (f.soa.bytes.length + f.soa.host.length + f.soa.mail.length + f.soa.nums.length + f.soa.texts.length) = 0))) := rfl
  have HLB := Lib.hid hL
  unfold faV
  unfold faCells at hw1 ⊢
  obtain ⟨l0, l1, l2, l3, l4, l5, l6, l7⟩ := hL
  generalize f.name.length = n0 at *
  generalize f.set.length = n1 at *
  generalize f.zone.length = n2 at *
  generalize f.soa.bytes.length = n3 at *
  generalize f.soa.host.length = n4 at *
  generalize f.soa.mail.length = n5 at *
  generalize f.soa.nums.length = n6 at *
  generalize f.soa.texts.length = n7 at *
  generalize f.type = a0 at *
  generalize f.kind = a1 at *
  generalize f.rank = a2 at *
  generalize f.got = a3 at *
  generalize f.ttl = a4 at *
  generalize blankF f = R at HV ⊢
  clear hb1 hb2 hR1 hD HLB
  go_enter Try.func58, Try.ntmps58
  go_upto_region 1 with (fail)
  rw [← hw1]
  clear hw1
  go_upto_region 2 with (fail)
  rw [← hw2]
  clear hw2 x0 x1 x2 x3 x4 x5 x6 x7 x8 x9 x10 x11 x12
  cases b0 : (a0 == 0) with
  | false =>
    have HR0 : Hid (R = false) := by show _ = _; rw [HV.out]; simp [b0]
    clear HV
    go_wp2
    go_ret
    exact ⟨_, rfl, congrArg Value.bool (HR0.out.symm), HB2.out⟩
  | true =>
    cases b1 : (a1 == 0) with
    | false =>
      have HR0 : Hid (R = false) := by show _ = _; rw [HV.out]; simp [b1]
      clear HV
      go_wp2
      go_ret
      exact ⟨_, rfl, congrArg Value.bool (HR0.out.symm), HB2.out⟩
    | true =>
      cases b2 : (a2 == 0) with
      | false =>
        have HR0 : Hid (R = false) := by show _ = _; rw [HV.out]; simp [b2]
        clear HV
        go_wp2
        go_ret
        exact ⟨_, rfl, congrArg Value.bool (HR0.out.symm), HB2.out⟩
      | true =>
        cases b3 : (a3 == 0) with
        | false =>
          have HR0 : Hid (R = false) := by show _ = _; rw [HV.out]; simp [b3]
          clear HV
          go_wp2
          go_ret
          exact ⟨_, rfl, congrArg Value.bool (HR0.out.symm), HB2.out⟩
        | true =>
          cases b4 : (a4 == 0) with
          | false =>
            have HR0 : Hid (R = false) := by show _ = _; rw [HV.out]; simp [b4]
            clear HV
            go_wp2
            go_ret
            exact ⟨_, rfl, congrArg Value.bool (HR0.out.symm), HB2.out⟩
          | true =>
            cases b5 : ((n0 : Int) == 0) with
            | false =>
              have HR0 : Hid (R = false) := by show _ = _; rw [HV.out]; have e : ¬ (n0 + n1 + n2 + (n3 + n4 + n5 + n6 + n7) = 0) := fun e => (by simp at b5; omega); rw [decide_eq_false e]; simp
              clear HV
              go_wp2
              go_ret
              exact ⟨_, rfl, congrArg Value.bool (HR0.out.symm), HB2.out⟩
            | true =>
              cases b6 : ((n1 : Int) == 0) with
              | false =>
                have HR0 : Hid (R = false) := by show _ = _; rw [HV.out]; have e : ¬ (n0 + n1 + n2 + (n3 + n4 + n5 + n6 + n7) = 0) := fun e => (by simp at b6; omega); rw [decide_eq_false e]; simp
                clear HV
                go_wp2
                go_ret
                exact ⟨_, rfl, congrArg Value.bool (HR0.out.symm), HB2.out⟩
              | true =>
                cases b7 : ((n2 : Int) == 0) with
                | false =>
                  have HR0 : Hid (R = false) := by show _ = _; rw [HV.out]; have e : ¬ (n0 + n1 + n2 + (n3 + n4 + n5 + n6 + n7) = 0) := fun e => (by simp at b7; omega); rw [decide_eq_false e]; simp
                  clear HV
                  go_wp2
                  go_ret
                  exact ⟨_, rfl, congrArg Value.bool (HR0.out.symm), HB2.out⟩
                | true =>
                  cases b8 : ((n3 : Int) == 0) with
                  | false =>
                    have HR0 : Hid (R = false) := by show _ = _; rw [HV.out]; have e : ¬ (n0 + n1 + n2 + (n3 + n4 + n5 + n6 + n7) = 0) := fun e => (by simp at b8; omega); rw [decide_eq_false e]; simp
                    clear HV
                    go_wp2
                    go_ret
                    exact ⟨_, rfl, congrArg Value.bool (HR0.out.symm), HB2.out⟩
                  | true =>
                    cases b9 : ((n4 : Int) == 0) with
                    | false =>
                      have HR0 : Hid (R = false) := by show _ = _; rw [HV.out]; have e : ¬ (n0 + n1 + n2 + (n3 + n4 + n5 + n6 + n7) = 0) := fun e => (by simp at b9; omega); rw [decide_eq_false e]; simp
                      clear HV
                      go_wp2
                      go_ret
                      exact ⟨_, rfl, congrArg Value.bool (HR0.out.symm), HB2.out⟩
                    | true =>
                      cases b10 : ((n5 : Int) == 0) with
                      | false =>
                        have HR0 : Hid (R = false) := by show _ = _; rw [HV.out]; have e : ¬ (n0 + n1 + n2 + (n3 + n4 + n5 + n6 + n7) = 0) := fun e => (by simp at b10; omega); rw [decide_eq_false e]; simp
                        clear HV
                        go_wp2
                        go_ret
                        exact ⟨_, rfl, congrArg Value.bool (HR0.out.symm), HB2.out⟩
                      | true =>
                        cases b11 : ((n6 : Int) == 0) with
                        | false =>
                          have HR0 : Hid (R = false) := by show _ = _; rw [HV.out]; have e : ¬ (n0 + n1 + n2 + (n3 + n4 + n5 + n6 + n7) = 0) := fun e => (by simp at b11; omega); rw [decide_eq_false e]; simp
                          clear HV
                          go_wp2
                          go_ret
                          exact ⟨_, rfl, congrArg Value.bool (HR0.out.symm), HB2.out⟩
                        | true =>
                          cases b12 : ((n7 : Int) == 0) with
                          | false =>
                            have HR0 : Hid (R = false) := by show _ = _; rw [HV.out]; have e : ¬ (n0 + n1 + n2 + (n3 + n4 + n5 + n6 + n7) = 0) := fun e => (by simp at b12; omega); rw [decide_eq_false e]; simp
                            clear HV
                            go_wp2
                            go_ret
                            exact ⟨_, rfl, congrArg Value.bool (HR0.out.symm), HB2.out⟩
                          | true =>
                            have HR0 : Hid (R = true) := by show _ = _; rw [HV.out]; have e : n0 + n1 + n2 + (n3 + n4 + n5 + n6 + n7) = 0 := (by simp at b5 b6 b7 b8 b9 b10 b11 b12; omega); rw [decide_eq_true e]; simp [b0, b1, b2, b3, b4]
                            clear HV
                            go_wp2
                            go_ret
                            exact ⟨_, rfl, congrArg Value.bool (HR0.out.symm), HB2.out⟩
end Go.Proofs.Ytimkdpkhdbiniaa

/- Entries, in plain Lean, and how one lies in memory; what a writer has written so far. -/
namespace Go.Proofs.Ytimkdpkhdbiniaa
open Go.RowKit
set_option maxRecDepth 100000
set_option linter.unusedVariables false

/-- What happened. -/
structure En where
  kind : Int
  time : Int
  f : Fa
  zone : List (List UInt8)
structure ES where
  f : FS
  Z : Option Addr
  zc : Nat
def enCells (s : ES) (x : En) : Array Value := #[.int .i64 x.kind, .int .i64 x.time, .slice s.f.A x.f.name.length s.f.ac, .int .i64 x.f.type, .int .i64 x.f.kind, .int .i64 x.f.rank, .int .i64 x.f.got, .int .i64 x.f.ttl, .slice s.f.S x.f.set.length s.f.sc, .slice s.f.Z x.f.zone.length s.f.zc, .slice s.f.d.A0 x.f.soa.bytes.length s.f.d.c0, .slice s.f.d.A1 x.f.soa.host.length s.f.d.c1, .slice s.f.d.A2 x.f.soa.mail.length s.f.d.c2, .slice s.f.d.A3 x.f.soa.nums.length s.f.d.c3, .slice s.f.d.A4 x.f.soa.texts.length s.f.d.c4, .slice s.Z x.zone.length s.zc]
def enV (s : ES) (x : En) : Value := .agg (enCells s x)
structure EnIn (S : Nat → Prop) (w : World) (s : ES) (x : En) : Prop where
  f : FaIn S w s.f x.f
  z : Els encS S S w s.Z x.zone.length x.zone
  cz : x.zone.length ≤ s.zc ∧ s.zc ≤ maxLen
  ik : i64S x.kind
  it : i64S x.time
section
variable {S S' : Nat → Prop} {w w' : World} {s : ES} {x : En}
theorem EnIn.mono (hS : ∀ b, S b → S' b) (h : EnIn S w s x) : EnIn S' w s x := ⟨h.f.mono hS, h.z.mono hS hS, h.cz, h.ik, h.it⟩
theorem EnIn.keep (hS : ∀ b, S b → w'.heap[b]? = w.heap[b]?) (h : EnIn S w s x) : EnIn S w' s x := ⟨h.f.keep hS, h.z.keep hS hS, h.cz, h.ik, h.it⟩
theorem EnIn.below (h : EnIn S w s x) (hb : Below w.heap.size w w') (hl : ∀ b, S b → b < w.heap.size) : EnIn S w' s x := h.keep fun b hbS => hb.block b (hl b hbS)
end
/-- An entry in a block of its own. -/
def EnRow (w : World) (q : Nat) (s : ES) (x : En) : Prop := w.heap[q]? = some (.cells (enCells s x) 50 (0, 0))
section
variable {w w' : World} {q : Nat} {s : ES} {x : En}
theorem EnRow.lt (h : EnRow w q s x) : q < w.heap.size := (Array.getElem?_eq_some_iff.1 h).1
theorem EnRow.below (h : EnRow w q s x) (hb : Below w.heap.size w w') : EnRow w' q s x := (hb.block q h.lt).trans h
theorem EnRow.cell (h : EnRow w q s x) (j : Nat) : w.cell? ⟨q, j, none⟩ = (enCells s x)[j]? := cell_of_row _ _ _ _ _ _ h
theorem EnRow.free (h : EnRow w q s x) (j : Nat) : w.frozen? ⟨q, j, none⟩ = false := frozen_of_row _ _ _ _ _ h
theorem EnRow.made (w : World) (s : ES) (x : En) : EnRow (w.alloc (.cells (enCells s x) 50)) w.heap.size s x := heap_alloc_new w _
end
/-- May an entry be? -/
noncomputable def fineE (x : En) : Bool :=
  if x.kind = 1 then (x.time == 0) && (decide (x.zone.length = 0) && fineF x.f)
  else if x.kind = 2 then (x.time == 0) && (blankF x.f && soundB x.zone)
  else if x.kind = 3 then timeB x.time && (blankF x.f && decide (x.zone.length = 0))
  else false

/-- Data that is written by itself; then with its length. -/
def oneW (k : Int) (d : Da) : Wr := Wr.nil.data (shapeP k) d
def Wr.dat (x : Wr) (k : Int) (d : Da) : Wr := (x.raw (putB [] ((oneW k d).b.length : Int) 2)).raw (oneW k d).b
def Wr.dats (x : Wr) (k : Int) (l : List Da) : Wr := l.foldl (fun x d => x.dat k d) x
noncomputable def Wr.factH (x : Wr) (f : Fa) : Wr := (((((x.nameS f.name false).raw (putB [] f.type 2)).raw (putB [] f.kind 1)).raw (putB [] f.rank 1)).raw (putB [] f.got 7)).raw (putB [] f.ttl 4)
noncomputable def Wr.fact (x : Wr) (f : Fa) : Wr :=
  if f.kind = 1 then ((x.factH f).raw (putB [] (f.set.length : Int) 1)).dats f.type f.set
  else ((x.factH f).nameS f.zone false).dat 6 f.soa
/-- How an entry is written. -/
noncomputable def enW (x : En) : Wr :=
  if x.kind = 1 then (Wr.nil.raw (putB [] 1 1)).fact x.f
  else if x.kind = 2 then fluW x.zone
  else clkW x.time

theorem dats_take (x : Wr) (k : Int) {l : List Da} {i : Nat} {d : Da} (h : l[i]? = some d) : x.dats k (l.take (i + 1)) = (x.dats k (l.take i)).dat k d := foldl_take _ _ h
theorem dats_all (x : Wr) (k : Int) (l : List Da) : x.dats k (l.take l.length) = x.dats k l := by rw [List.take_length]
theorem one_len {k : Int} {d : Da} (h : FineD k d) : (oneW k d).b.length ≤ 83000 := by
  have h1 := Wr.data_len3 Wr.nil h.2
  have h2 : FineR ⟨[], k, 0, 0, d⟩ := ⟨⟨fun _ h => (List.not_mem_nil h).elim, by show sizeN [] ≤ 255; decide⟩, h, by show fitsB 0 2 = true; decide, by show (0 : Int) ≤ 0; omega, by show (0 : Int) < _; omega⟩
  have h3 := rSize_le h2
  have h4 : rSize ⟨[], k, 0, 0, d⟩ = sizeN [] + 10 + dSize d := rfl
  have h5 : Wr.nil.b.length = 0 := rfl
  unfold oneW
  omega
theorem dat_len (x : Wr) {k : Int} {d : Da} (h : FineD k d) : (x.dat k d).b.length ≤ x.b.length + 83007 := by
  have h1 := one_len h
  have h2 := putB_nil_le ((oneW k d).b.length : Int) 2
  unfold Wr.dat Wr.raw
  simp only [List.length_append]
  omega
theorem dat_rests (x : Wr) (k : Int) (d : Da) : (x.dat k d).rests = x.rests := rfl
theorem dats_len (x : Wr) {k : Int} {l : List Da} (h : ∀ d ∈ l, FineD k d) (i : Nat) : (x.dats k (l.take i)).b.length ≤ x.b.length + 83007 * i ∧ (x.dats k (l.take i)).rests = x.rests := by
  induction i with
  | zero => exact ⟨Nat.le_refl _, rfl⟩
  | succ i ih =>
    by_cases hi : i < l.length
    · have hx : l[i]? = some l[i] := List.getElem?_eq_getElem hi
      rw [dats_take x k hx]
      have h1 := dat_len (x.dats k (l.take i)) (h _ (List.getElem_mem hi))
      rw [Nat.mul_succ]
      exact ⟨Nat.le_trans h1 (Nat.le_trans (Nat.add_le_add_right ih.1 83007) (Nat.le_of_eq (Nat.add_assoc _ _ _))), by rw [dat_rests]; exact ih.2⟩
    · rw [List.take_of_length_le (by omega)]
      rw [List.take_of_length_le (by omega)] at ih
      rw [Nat.mul_succ]
      exact ⟨Nat.le_trans ih.1 (by omega), ih.2⟩

/-- What a writer has written since a world. -/
structure WSt (w wr : World) (B g : Nat) (F Fr : Nat → Prop) (y : Wr) : Prop where
  W : Wtr wr B Fr g y
  C : Chg F w wr
  N : ∀ z, Fr z → F z ∨ w.heap.size ≤ z
section
variable {w wr w' : World} {B g : Nat} {F Fr F' G : Nat → Prop} {y y' : Wr}
theorem WSt.start {x : Wr} (h : Wtr w B F g x) : WSt w w B g F F x := ⟨h, Chg.refl _ _, fun _ hz => .inl hz⟩
theorem WSt.step (h : WSt w wr B g F Fr y) (hw : Wtr w' B F' g y') (hc : Chg Fr wr w') (hF : ∀ z, F' z → Fr z ∨ wr.heap.size ≤ z) : WSt w w' B g F F' y' :=
  ⟨hw, h.C.trans hc h.N, fun z hz => (hF z hz).elim (h.N z) (fun h1 => .inr (Nat.le_trans h.C.size h1))⟩
theorem WSt.below (h : WSt w wr B g F Fr y) (hb : Below wr.heap.size wr w') : WSt w w' B g F Fr y := h.step (h.W.below hb) (Chg.of_below hb) (fun _ hz => .inl hz)
theorem WSt.besides (h : WSt w wr B g F Fr y) (hc : Chg G wr w') (hd : ∀ z, Fr z → ¬ G z) (hG : ∀ z, G z → w.heap.size ≤ z) : WSt w w' B g F Fr y :=
  ⟨h.W.chg hc hd, h.C.trans hc (fun z hz => .inr (hG z hz)), h.N⟩
theorem WSt.done (h : WSt w wr B g F Fr y) {v : Value} {u : Wr} (hz : y = u) : RetX w B F g u v (.returned v) wr := by subst hz; exact ⟨rfl, Fr, h.W, h.C, h.N⟩
end
end Go.Proofs.Ytimkdpkhdbiniaa

/- Facts and entries that came in, with how large their data are (printed by gen/openen.py). -/
namespace Go.Proofs.Ytimkdpkhdbiniaa
open Go.ChangeShapes Go.WideShapes Go.ChangeAt Go.RowKit
set_option maxRecDepth 100000

def fitDa3 (x : Da) : Prop := x.bytes.length ≤ reachBytes ∧ x.texts.length * 16 ≤ reachBytes
theorem opens_Da3 : Opens 46 encDa fitDa3 one := by
  intro H enc W base sp hd fuel cs x h
  obtain ⟨xs, n, hx, hc, hl, hfd, hw⟩ := trod_fields Try.underlying46 h
  rw [show Try.prog.cellsOf 46 = 5 by kernel_rfl] at hc
  obtain ⟨c0, c1, c2, c3, c4, rfl⟩ := len5 hc
  obtain ⟨y0, e0, h0⟩ := hfd 0 _ rfl
  obtain ⟨y1, e1, h1⟩ := hfd 1 _ rfl
  obtain ⟨y2, e2, h2⟩ := hfd 2 _ rfl
  obtain ⟨y3, e3, h3⟩ := hfd 3 _ rfl
  obtain ⟨y4, e4, h4⟩ := hfd 4 _ rfl
  have g0 : DataW.trod enc Try.prog W base sp hd n 22 (([c0, c1, c2, c3, c4].drop 0).take (Try.prog.cellsOf 22)) = some y0 := h0
  have g1 : DataW.trod enc Try.prog W base sp hd n 23 (([c0, c1, c2, c3, c4].drop 1).take (Try.prog.cellsOf 23)) = some y1 := h1
  have g2 : DataW.trod enc Try.prog W base sp hd n 23 (([c0, c1, c2, c3, c4].drop 2).take (Try.prog.cellsOf 23)) = some y2 := h2
  have g3 : DataW.trod enc Try.prog W base sp hd n 44 (([c0, c1, c2, c3, c4].drop 3).take (Try.prog.cellsOf 44)) = some y3 := h3
  have g4 : DataW.trod enc Try.prog W base sp hd n 23 (([c0, c1, c2, c3, c4].drop 4).take (Try.prog.cellsOf 23)) = some y4 := h4
  rw [show Try.prog.cellsOf 22 = 1 by kernel_rfl] at g0
  rw [show Try.prog.cellsOf 23 = 1 by kernel_rfl] at g1 g2 g4
  rw [show Try.prog.cellsOf 44 = 1 by kernel_rfl] at g3
  obtain ⟨a0, ⟨A0, n0, k0, r0, q0, l0, m0⟩, f0, w0⟩ := opens_sl (t := 22) Try.underlying22 (by kernel_rfl) (opens_u8 Try.underlying5) H enc W base sp hd n _ _ g0
  obtain ⟨a1, ⟨A1, n1, k1, r1, q1, l1, m1⟩, f1, w1⟩ := opens_sl (t := 23) Try.underlying23 (by kernel_rfl) (opens_str Try.underlying9) H enc W base sp hd n _ _ g1
  obtain ⟨a2, ⟨A2, n2, k2, r2, q2, l2, m2⟩, f2, w2⟩ := opens_sl (t := 23) Try.underlying23 (by kernel_rfl) (opens_str Try.underlying9) H enc W base sp hd n _ _ g2
  obtain ⟨a3, ⟨A3, n3, k3, r3, q3, l3, m3⟩, f3, w3⟩ := opens_sl (t := 44) Try.underlying44 (by kernel_rfl) (opens_int Try.underlying3) H enc W base sp hd n _ _ g3
  obtain ⟨a4, ⟨A4, n4, k4, r4, q4, l4, m4⟩, f4, w4⟩ := opens_sl (t := 23) Try.underlying23 (by kernel_rfl) (opens_str Try.underlying9) H enc W base sp hd n _ _ g4
  have t0 : (∀ n ∈ x.1.weights Try.prog 46, n ≤ reachBytes) → ∀ n ∈ y0.1.weights Try.prog 22, n ≤ reachBytes := fun hh => field_wt e0 rfl (hw _ hh)
  have t4 : (∀ n ∈ x.1.weights Try.prog 46, n ≤ reachBytes) → ∀ n ∈ y4.1.weights Try.prog 23, n ≤ reachBytes := fun hh => field_wt e4 rfl (hw _ hh)
  simp at r0 r1 r2 r3 r4
  have e0 := q0.1
  have e1 := q1.1
  have e2 := q2.1
  have e3 := q3.1
  have e4 := q4.1
  subst r0 r1 r2 r3 r4 e0 e1 e2 e3 e4
  refine ⟨⟨a0, a1, a2, a3, a4⟩, ⟨⟨A0, A1, A2, A3, A4, k0, k1, k2, k3, k4⟩, rfl, ⟨q0, q1, q2, q3, q4, ⟨l0, m0⟩, ⟨l1, m1⟩, ⟨l2, m2⟩, ⟨l3, m3⟩, ⟨l4, m4⟩⟩⟩, fun hh => ?_, ?_⟩
  · have h1 := (f0 (t0 hh)).1
    have h2 := (f4 (t4 hh)).1
    rw [show Try.prog.bytesOf 5 = 1 by kernel_rfl] at h1
    rw [show Try.prog.bytesOf 9 = 16 by kernel_rfl] at h2
    exact ⟨by show a0.length ≤ reachBytes; omega, h2⟩
  · rw [hx]; simp [one, Rows.uptoBulk]
/-- Facts, as they lie in a list or a struct. -/
def encFa : Enc Fa where
  size := 13
  R := fun S w r f => ∃ s, r = (faCells s f).toList ∧ FaIn S w s f
  pos := by decide
  len := by rintro _ _ r f ⟨s, rfl, _⟩; rfl
  mono := by rintro S S' w r f hS ⟨s, rfl, h⟩; exact ⟨s, rfl, h.mono hS⟩
  keep := by rintro S w w' r f hS ⟨s, rfl, h⟩; exact ⟨s, rfl, h.keep hS⟩
  one := by
    rintro S w r f ⟨s, rfl, _⟩ u hu
    simp [faCells] at hu
    rcases hu with rfl | rfl | rfl | rfl | rfl | rfl | rfl | rfl | rfl | rfl | rfl | rfl | rfl <;> rfl
def fitFa (f : Fa) : Prop := f.soa.bytes.length ≤ reachBytes ∧ f.soa.texts.length * 16 ≤ reachBytes
theorem opens_Fa : Opens 48 encFa fitFa one := by
  intro H enc W base sp hd fuel cs x h
  obtain ⟨xs, n, hx, hc, hl, hfd, hw⟩ := trod_fields Try.underlying48 h
  rw [show Try.prog.cellsOf 48 = 13 by kernel_rfl] at hc
  obtain ⟨c0, c1, c2, c3, c4, c5, c6, c7, c8, c9, c10, c11, c12, rfl⟩ := len13 hc
  obtain ⟨y0, e0, h0⟩ := hfd 0 _ rfl
  obtain ⟨y1, e1, h1⟩ := hfd 1 _ rfl
  obtain ⟨y2, e2, h2⟩ := hfd 2 _ rfl
  obtain ⟨y3, e3, h3⟩ := hfd 3 _ rfl
  obtain ⟨y4, e4, h4⟩ := hfd 4 _ rfl
  obtain ⟨y5, e5, h5⟩ := hfd 5 _ rfl
  obtain ⟨y6, e6, h6⟩ := hfd 6 _ rfl
  obtain ⟨y7, e7, h7⟩ := hfd 7 _ rfl
  obtain ⟨y8, e8, h8⟩ := hfd 8 _ rfl
  have g0 : DataW.trod enc Try.prog W base sp hd n 23 (([c0, c1, c2, c3, c4, c5, c6, c7, c8, c9, c10, c11, c12].drop 0).take (Try.prog.cellsOf 23)) = some y0 := h0
  have g1 : DataW.trod enc Try.prog W base sp hd n 3 (([c0, c1, c2, c3, c4, c5, c6, c7, c8, c9, c10, c11, c12].drop 1).take (Try.prog.cellsOf 3)) = some y1 := h1
  have g2 : DataW.trod enc Try.prog W base sp hd n 3 (([c0, c1, c2, c3, c4, c5, c6, c7, c8, c9, c10, c11, c12].drop 2).take (Try.prog.cellsOf 3)) = some y2 := h2
  have g3 : DataW.trod enc Try.prog W base sp hd n 3 (([c0, c1, c2, c3, c4, c5, c6, c7, c8, c9, c10, c11, c12].drop 3).take (Try.prog.cellsOf 3)) = some y3 := h3
  have g4 : DataW.trod enc Try.prog W base sp hd n 3 (([c0, c1, c2, c3, c4, c5, c6, c7, c8, c9, c10, c11, c12].drop 4).take (Try.prog.cellsOf 3)) = some y4 := h4
  have g5 : DataW.trod enc Try.prog W base sp hd n 3 (([c0, c1, c2, c3, c4, c5, c6, c7, c8, c9, c10, c11, c12].drop 5).take (Try.prog.cellsOf 3)) = some y5 := h5
  have g6 : DataW.trod enc Try.prog W base sp hd n 43 (([c0, c1, c2, c3, c4, c5, c6, c7, c8, c9, c10, c11, c12].drop 6).take (Try.prog.cellsOf 43)) = some y6 := h6
  have g7 : DataW.trod enc Try.prog W base sp hd n 23 (([c0, c1, c2, c3, c4, c5, c6, c7, c8, c9, c10, c11, c12].drop 7).take (Try.prog.cellsOf 23)) = some y7 := h7
  have g8 : DataW.trod enc Try.prog W base sp hd n 46 (([c0, c1, c2, c3, c4, c5, c6, c7, c8, c9, c10, c11, c12].drop 8).take (Try.prog.cellsOf 46)) = some y8 := h8
  rw [show Try.prog.cellsOf 23 = 1 by kernel_rfl] at g0 g7
  rw [show Try.prog.cellsOf 3 = 1 by kernel_rfl] at g1 g2 g3 g4 g5
  rw [show Try.prog.cellsOf 43 = 1 by kernel_rfl] at g6
  rw [show Try.prog.cellsOf 46 = 5 by kernel_rfl] at g8
  obtain ⟨a0, ⟨A0, n0, k0, r0, q0, l0, m0⟩, f0, w0⟩ := opens_sl (t := 23) Try.underlying23 (by kernel_rfl) (opens_str Try.underlying9) H enc W base sp hd n _ _ g0
  obtain ⟨a1, ⟨r1, b1⟩, f1, w1⟩ := opens_int Try.underlying3 H enc W base sp hd n _ _ g1
  obtain ⟨a2, ⟨r2, b2⟩, f2, w2⟩ := opens_int Try.underlying3 H enc W base sp hd n _ _ g2
  obtain ⟨a3, ⟨r3, b3⟩, f3, w3⟩ := opens_int Try.underlying3 H enc W base sp hd n _ _ g3
  obtain ⟨a4, ⟨r4, b4⟩, f4, w4⟩ := opens_int Try.underlying3 H enc W base sp hd n _ _ g4
  obtain ⟨a5, ⟨r5, b5⟩, f5, w5⟩ := opens_int Try.underlying3 H enc W base sp hd n _ _ g5
  obtain ⟨a6, ⟨A6, n6, k6, r6, q6, l6, m6⟩, f6, w6⟩ := opens_sl (t := 43) Try.underlying43 (by kernel_rfl) opens_Da3 H enc W base sp hd n _ _ g6
  obtain ⟨a7, ⟨A7, n7, k7, r7, q7, l7, m7⟩, f7, w7⟩ := opens_sl (t := 23) Try.underlying23 (by kernel_rfl) (opens_str Try.underlying9) H enc W base sp hd n _ _ g7
  obtain ⟨a8, ⟨s8, r8, q8⟩, f8, w8⟩ := opens_Da3 H enc W base sp hd n _ _ g8
  have t8 : (∀ n ∈ x.1.weights Try.prog 48, n ≤ reachBytes) → ∀ n ∈ y8.1.weights Try.prog 46, n ≤ reachBytes := fun hh => field_wt e8 rfl (hw _ hh)
  simp [dCells] at r0 r1 r2 r3 r4 r5 r6 r7 r8
  obtain ⟨r8, r9, r10, r11, r12⟩ := r8
  have e0 := q0.1
  have e6 := q6.1
  have e7 := q7.1
  subst r0 r1 r2 r3 r4 r5 r6 r7 r8 r9 r10 r11 r12 e0 e6 e7
  exact ⟨⟨a0, a1, a2, a3, a4, a5, a6, a7, a8⟩, ⟨⟨A0, k0, A6, k6, A7, k7, s8⟩, rfl, ⟨q0, q6, q7, q8, ⟨l0, m0⟩, ⟨l6, m6⟩, ⟨l7, m7⟩, b1, b2, b3, b4, b5⟩⟩, fun hh => f8 (t8 hh), by rw [hx]; simp [one, Rows.uptoBulk]⟩
theorem len16 {α : Type} {l : List α} (h : l.length = 16) : ∃ a0 a1 a2 a3 a4 a5 a6 a7 a8 a9 a10 a11 a12 a13 a14 a15, l = [a0, a1, a2, a3, a4, a5, a6, a7, a8, a9, a10, a11, a12, a13, a14, a15] := by
  match l, h with
  | [a0, a1, a2, a3, a4, a5, a6, a7, a8, a9, a10, a11, a12, a13, a14, a15], _ => exact ⟨a0, a1, a2, a3, a4, a5, a6, a7, a8, a9, a10, a11, a12, a13, a14, a15, rfl⟩
theorem open_en {H : Type} {enc : TypeId × Value → H} {W : World} {base b0 : Nat} {sp : Nat → Bool} {hd : Bool} {r : Reach} {v : Value} {d : DataW H} {p : List MemPlace}
    (hv : Value.okWide Try.prog W r b0 50 v) (h : DataW.Trod enc Try.prog W base sp hd 50 v d p) : ∃ s x, v = enV s x ∧ EnIn (ltS W) W s x ∧ ((∀ n ∈ d.weights Try.prog 50, n ≤ reachBytes) → fitFa x.f) := by
  obtain ⟨cs, rfl, hsz⟩ := okWide_struct Try.underlying50 hv
  rw [show Try.prog.cellsOf 50 = 16 by kernel_rfl] at hsz
  obtain ⟨l⟩ := cs
  obtain ⟨c0, c1, c2, c3, c4, c5, c6, c7, c8, c9, c10, c11, c12, c13, c14, c15, rfl⟩ := len16 (l := l) (by simpa using hsz)
  obtain ⟨fuel, hf⟩ := h
  have hf' : DataW.trod enc Try.prog W base sp hd fuel 50 [c0, c1, c2, c3, c4, c5, c6, c7, c8, c9, c10, c11, c12, c13, c14, c15] = some (d, p) := by simpa [Value.cells] using hf
  obtain ⟨xs, n, hx, hc, hl, hfd, hw⟩ := trod_fields Try.underlying50 hf'
  obtain ⟨y0, e0, h0⟩ := hfd 0 _ rfl
  obtain ⟨y1, e1, h1⟩ := hfd 1 _ rfl
  obtain ⟨y2, e2, h2⟩ := hfd 2 _ rfl
  obtain ⟨y3, e3, h3⟩ := hfd 3 _ rfl
  have g0 : DataW.trod enc Try.prog W base sp hd n 3 (([c0, c1, c2, c3, c4, c5, c6, c7, c8, c9, c10, c11, c12, c13, c14, c15].drop 0).take (Try.prog.cellsOf 3)) = some y0 := h0
  have g1 : DataW.trod enc Try.prog W base sp hd n 3 (([c0, c1, c2, c3, c4, c5, c6, c7, c8, c9, c10, c11, c12, c13, c14, c15].drop 1).take (Try.prog.cellsOf 3)) = some y1 := h1
  have g2 : DataW.trod enc Try.prog W base sp hd n 48 (([c0, c1, c2, c3, c4, c5, c6, c7, c8, c9, c10, c11, c12, c13, c14, c15].drop 2).take (Try.prog.cellsOf 48)) = some y2 := h2
  have g3 : DataW.trod enc Try.prog W base sp hd n 23 (([c0, c1, c2, c3, c4, c5, c6, c7, c8, c9, c10, c11, c12, c13, c14, c15].drop 15).take (Try.prog.cellsOf 23)) = some y3 := h3
  rw [show Try.prog.cellsOf 3 = 1 by kernel_rfl] at g0 g1
  rw [show Try.prog.cellsOf 48 = 13 by kernel_rfl] at g2
  rw [show Try.prog.cellsOf 23 = 1 by kernel_rfl] at g3
  obtain ⟨a0, ⟨r0, b0⟩, f0, w0⟩ := opens_int Try.underlying3 H enc W base sp hd n _ _ g0
  obtain ⟨a1, ⟨r1, b1⟩, f1, w1⟩ := opens_int Try.underlying3 H enc W base sp hd n _ _ g1
  obtain ⟨a2, ⟨s2, r2, q2⟩, f2, w2⟩ := opens_Fa H enc W base sp hd n _ _ g2
  obtain ⟨a3, ⟨A3, n3, k3, r3, q3, l3, m3⟩, f3, w3⟩ := opens_sl (t := 23) Try.underlying23 (by kernel_rfl) (opens_str Try.underlying9) H enc W base sp hd n _ _ g3
  have t2 : (∀ n ∈ d.weights Try.prog 50, n ≤ reachBytes) → ∀ n ∈ y2.1.weights Try.prog 48, n ≤ reachBytes := fun hh => field_wt e2 rfl (hw _ hh)
  simp [faCells] at r0 r1 r2 r3
  obtain ⟨r2, r3', r4, r5, r6, r7, r8, r9, r10, r11, r12, r13, r14⟩ := r2
  have e3 := q3.1
  subst r0 r1 r2 r3' r4 r5 r6 r7 r8 r9 r10 r11 r12 r13 r14 r3 e3
  exact ⟨⟨s2, A3, k3⟩, ⟨a0, a1, a2, a3⟩, rfl, ⟨q2, q3, ⟨l3, m3⟩, b0, b1⟩, fun hh => f2 (t2 hh)⟩
end Go.Proofs.Ytimkdpkhdbiniaa
