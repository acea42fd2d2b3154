/- Parts of a proof, joined: Asked. -/
import Derived.Test.YtimkdpkhdbiniaaZDF01
import Derived.Test.YtimkdpkhdbiniaaZDM12
import Derived.Test.YtimkdpkhdbiniaaZDM02c
import Derived.Test.YtimkdpkhdbiniaaZDM04
/- The teller in memory; teller.asked: is a message a response to the question? -/
namespace Go.Proofs.Ytimkdpkhdbiniaa
open Go.RowKit
set_option maxRecDepth 100000
set_option linter.unusedVariables false

/-- One question, and the same? -/
def qsB (q : Qu) : List Qu → Bool
  | [x] => decide (lowN x.name = lowN q.name) && decide (x.type = q.type) && decide (x.cls = q.cls)
  | _ => false
theorem qsB_no {q : Qu} : ∀ {l : List Qu}, l.length ≠ 1 → qsB q l = false
  | [], _ => rfl
  | [_], h => absurd rfl h
  | _ :: _ :: _, _ => rfl
/-- A response to the question? -/
noncomputable def askB (q : Qu) (m : Ms) : Bool := fineM m && m.resp && decide (m.op = 0) && (decide (m.rcode = 0) || decide (m.rcode = 3)) && qsB q m.qs
/-- The teller's twenty cells. -/
def tCells (sq : QS) (q : Qu) (sm : MS) (m : Ms) (Z : Option Addr) (nz cz : Nat) (now : Int) (out : Value) : Array Value := #[.slice sq.A q.name.length sq.c, .int .i64 q.type, .int .i64 q.cls, .int .i64 m.id, .bool m.resp, .int .i64 m.op, .bool m.aa, .bool m.tc, .bool m.rd, .bool m.ra, .int .i64 m.rcode, .slice sm.Q m.qs.length sm.qc, .slice sm.A m.an.length sm.ac, .slice sm.U m.au.length sm.uc, .slice sm.X m.ex.length sm.xc, .bool m.edns, .int .i64 m.size, .slice Z nz cz, .int .i64 now, out]
def TRow (w : World) (t : Nat) (sq : QS) (q : Qu) (sm : MS) (m : Ms) (Z : Option Addr) (nz cz : Nat) (now : Int) (out : Value) : Prop := w.heap[t]? = some (.cells (tCells sq q sm m Z nz cz now out) 114 (0, 0))
section
variable {w w' : World} {t : Nat} {sq : QS} {q : Qu} {sm : MS} {m : Ms} {Z : Option Addr} {nz cz : Nat} {now : Int} {out : Value}
theorem TRow.lt (h : TRow w t sq q sm m Z nz cz now out) : t < w.heap.size := (Array.getElem?_eq_some_iff.1 h).1
theorem TRow.below (h : TRow w t sq q sm m Z nz cz now out) (hb : Below w.heap.size w w') : TRow w' t sq q sm m Z nz cz now out := (hb.block t h.lt).trans h
theorem TRow.cell (h : TRow w t sq q sm m Z nz cz now out) (j : Nat) : w.cell? ⟨t, j, none⟩ = (tCells sq q sm m Z nz cz now out)[j]? := cell_of_row _ _ _ _ _ _ h
theorem TRow.free (h : TRow w t sq q sm m Z nz cz now out) (j : Nat) : w.frozen? ⟨t, j, none⟩ = false := frozen_of_row _ _ _ _ _ h
end

set_option maxHeartbeats 8000000 in
theorem asked_no_sound (t : Nat) (sq : QS) (q : Qu) (sm : MS) (m : Ms) (Z : Option Addr) (nz cz : Nat) (now : Int) (out : Value) (w : World) {S : Nat → Prop} (hT : TRow w t sq q sm m Z nz cz now out) (hm : MIn S w sm m) (hq : QIn S w sq q) (hS : ∀ b, S b → b < w.heap.size) (hL : LtM m) (hf : fineM m = false) :
    Calls Try.prog 69 #[.pointer (some ⟨t, 0, none⟩)] w (RetP (fun v _ => v = .bool false) w) := by
  obtain ⟨w1, hw1⟩ : ∃ w1, w1 = w.alloc (.cells (mCells sm m) 31) := ⟨_, rfl⟩
  have hb1 : Below w.heap.size w w1 := by rw [hw1]; exact bl.alloc (Nat.le_refl _) _
  have HR1 : Hid (MRow w1 w.heap.size sm m) := by show MRow _ _ _ _; rw [hw1]; exact MRow.made w sm m
  have HB1 := Lib.hid hb1
  have HTW : Hid (∀ u, Below w.heap.size w u → TRow u t sq q sm m Z nz cz now out) := fun u hu => hT.below hu
  have HSN := Lib.hid (mSound_any sm m w1 (hm.below hb1 hS) (fun b hb => Nat.lt_of_lt_of_le (hS b hb) hb1.size) hL)
  have c0 : w.cell? ⟨t, 3, none⟩ = some (.int .i64 m.id) := (hT.cell 3).trans rfl
  have c1 : w.cell? ⟨t, 4, none⟩ = some (.bool m.resp) := (hT.cell 4).trans rfl
  have c2 : w.cell? ⟨t, 5, none⟩ = some (.int .i64 m.op) := (hT.cell 5).trans rfl
  have c3 : w.cell? ⟨t, 6, none⟩ = some (.bool m.aa) := (hT.cell 6).trans rfl
  have c4 : w.cell? ⟨t, 7, none⟩ = some (.bool m.tc) := (hT.cell 7).trans rfl
  have c5 : w.cell? ⟨t, 8, none⟩ = some (.bool m.rd) := (hT.cell 8).trans rfl
  have c6 : w.cell? ⟨t, 9, none⟩ = some (.bool m.ra) := (hT.cell 9).trans rfl
  have c7 : w.cell? ⟨t, 10, none⟩ = some (.int .i64 m.rcode) := (hT.cell 10).trans rfl
  have c8 : w.cell? ⟨t, 11, none⟩ = some (.slice sm.Q m.qs.length sm.qc) := (hT.cell 11).trans rfl
  have c9 : w.cell? ⟨t, 12, none⟩ = some (.slice sm.A m.an.length sm.ac) := (hT.cell 12).trans rfl
  have c10 : w.cell? ⟨t, 13, none⟩ = some (.slice sm.U m.au.length sm.uc) := (hT.cell 13).trans rfl
  have c11 : w.cell? ⟨t, 14, none⟩ = some (.slice sm.X m.ex.length sm.xc) := (hT.cell 14).trans rfl
  have c12 : w.cell? ⟨t, 15, none⟩ = some (.bool m.edns) := (hT.cell 15).trans rfl
  have c13 : w.cell? ⟨t, 16, none⟩ = some (.int .i64 m.size) := (hT.cell 16).trans rfl
  unfold mCells at hw1
  rw [hf] at HSN
  clear hf
  clear hT hm hq hS hb1 hL
  go_enter Try.func69, Try.ntmps69
  go_upto_region 2 with (fail)
  rw [← hw1]
  clear hw1 c0 c1 c2 c3 c4 c5 c6 c7 c8 c9 c10 c11 c12 c13
  obtain ⟨z0, z1, z2, z3, z4, z5, z6, z7, z8, z9, z10, z11, z12, z13⟩ := HR1.out.cells
  unfold msV mCells at HSN
  go_wp2_with (first
    | (go_at_call 119; refine HSN.out.mono ?_; rintro e w2 ⟨v2, rfl, rfl, hb2⟩; obtain ⟨z0, z1, z2, z3, z4, z5, z6, z7, z8, z9, z10, z11, z12, z13⟩ := (HR1.out.below hb2).cells)
    | fail)
  go_ret
  exact ⟨_, rfl, rfl, nx HB1.out hb2⟩
set_option maxHeartbeats 8000000 in
theorem asked_no_resp (t : Nat) (sq : QS) (q : Qu) (sm : MS) (m : Ms) (Z : Option Addr) (nz cz : Nat) (now : Int) (out : Value) (w : World) {S : Nat → Prop} (hT : TRow w t sq q sm m Z nz cz now out) (hm : MIn S w sm m) (hq : QIn S w sq q) (hS : ∀ b, S b → b < w.heap.size) (hL : LtM m) (hf : fineM m = true) (h1 : m.resp = false) :
    Calls Try.prog 69 #[.pointer (some ⟨t, 0, none⟩)] w (RetP (fun v _ => v = .bool false) w) := by
  obtain ⟨w1, hw1⟩ : ∃ w1, w1 = w.alloc (.cells (mCells sm m) 31) := ⟨_, rfl⟩
  have hb1 : Below w.heap.size w w1 := by rw [hw1]; exact bl.alloc (Nat.le_refl _) _
  have HR1 : Hid (MRow w1 w.heap.size sm m) := by show MRow _ _ _ _; rw [hw1]; exact MRow.made w sm m
  have HB1 := Lib.hid hb1
  have HTW : Hid (∀ u, Below w.heap.size w u → TRow u t sq q sm m Z nz cz now out) := fun u hu => hT.below hu
  have HSN := Lib.hid (mSound_any sm m w1 (hm.below hb1 hS) (fun b hb => Nat.lt_of_lt_of_le (hS b hb) hb1.size) hL)
  have c0 : w.cell? ⟨t, 3, none⟩ = some (.int .i64 m.id) := (hT.cell 3).trans rfl
  have c1 : w.cell? ⟨t, 4, none⟩ = some (.bool m.resp) := (hT.cell 4).trans rfl
  have c2 : w.cell? ⟨t, 5, none⟩ = some (.int .i64 m.op) := (hT.cell 5).trans rfl
  have c3 : w.cell? ⟨t, 6, none⟩ = some (.bool m.aa) := (hT.cell 6).trans rfl
  have c4 : w.cell? ⟨t, 7, none⟩ = some (.bool m.tc) := (hT.cell 7).trans rfl
  have c5 : w.cell? ⟨t, 8, none⟩ = some (.bool m.rd) := (hT.cell 8).trans rfl
  have c6 : w.cell? ⟨t, 9, none⟩ = some (.bool m.ra) := (hT.cell 9).trans rfl
  have c7 : w.cell? ⟨t, 10, none⟩ = some (.int .i64 m.rcode) := (hT.cell 10).trans rfl
  have c8 : w.cell? ⟨t, 11, none⟩ = some (.slice sm.Q m.qs.length sm.qc) := (hT.cell 11).trans rfl
  have c9 : w.cell? ⟨t, 12, none⟩ = some (.slice sm.A m.an.length sm.ac) := (hT.cell 12).trans rfl
  have c10 : w.cell? ⟨t, 13, none⟩ = some (.slice sm.U m.au.length sm.uc) := (hT.cell 13).trans rfl
  have c11 : w.cell? ⟨t, 14, none⟩ = some (.slice sm.X m.ex.length sm.xc) := (hT.cell 14).trans rfl
  have c12 : w.cell? ⟨t, 15, none⟩ = some (.bool m.edns) := (hT.cell 15).trans rfl
  have c13 : w.cell? ⟨t, 16, none⟩ = some (.int .i64 m.size) := (hT.cell 16).trans rfl
  unfold mCells at hw1
  rw [hf] at HSN
  have H1 := Lib.hid h1
  clear hf h1
  clear hT hm hq hS hb1 hL
  go_enter Try.func69, Try.ntmps69
  go_upto_region 2 with (fail)
  rw [← hw1]
  clear hw1 c0 c1 c2 c3 c4 c5 c6 c7 c8 c9 c10 c11 c12 c13
  obtain ⟨z0, z1, z2, z3, z4, z5, z6, z7, z8, z9, z10, z11, z12, z13⟩ := HR1.out.cells
  unfold msV mCells at HSN
  go_wp2_with (first
    | (go_at_call 119; refine HSN.out.mono ?_; rintro e w2 ⟨v2, rfl, rfl, hb2⟩; obtain ⟨z0, z1, z2, z3, z4, z5, z6, z7, z8, z9, z10, z11, z12, z13⟩ := (HR1.out.below hb2).cells; rw [H1.out] at z1)
    | fail)
  go_ret
  exact ⟨_, rfl, rfl, nx HB1.out hb2⟩
set_option maxHeartbeats 8000000 in
theorem asked_no_op (t : Nat) (sq : QS) (q : Qu) (sm : MS) (m : Ms) (Z : Option Addr) (nz cz : Nat) (now : Int) (out : Value) (w : World) {S : Nat → Prop} (hT : TRow w t sq q sm m Z nz cz now out) (hm : MIn S w sm m) (hq : QIn S w sq q) (hS : ∀ b, S b → b < w.heap.size) (hL : LtM m) (hf : fineM m = true) (h1 : m.resp = true) (h2 : m.op ≠ 0) :
    Calls Try.prog 69 #[.pointer (some ⟨t, 0, none⟩)] w (RetP (fun v _ => v = .bool false) w) := by
  obtain ⟨w1, hw1⟩ : ∃ w1, w1 = w.alloc (.cells (mCells sm m) 31) := ⟨_, rfl⟩
  have hb1 : Below w.heap.size w w1 := by rw [hw1]; exact bl.alloc (Nat.le_refl _) _
  have HR1 : Hid (MRow w1 w.heap.size sm m) := by show MRow _ _ _ _; rw [hw1]; exact MRow.made w sm m
  have HB1 := Lib.hid hb1
  have HTW : Hid (∀ u, Below w.heap.size w u → TRow u t sq q sm m Z nz cz now out) := fun u hu => hT.below hu
  have HSN := Lib.hid (mSound_any sm m w1 (hm.below hb1 hS) (fun b hb => Nat.lt_of_lt_of_le (hS b hb) hb1.size) hL)
  have c0 : w.cell? ⟨t, 3, none⟩ = some (.int .i64 m.id) := (hT.cell 3).trans rfl
  have c1 : w.cell? ⟨t, 4, none⟩ = some (.bool m.resp) := (hT.cell 4).trans rfl
  have c2 : w.cell? ⟨t, 5, none⟩ = some (.int .i64 m.op) := (hT.cell 5).trans rfl
  have c3 : w.cell? ⟨t, 6, none⟩ = some (.bool m.aa) := (hT.cell 6).trans rfl
  have c4 : w.cell? ⟨t, 7, none⟩ = some (.bool m.tc) := (hT.cell 7).trans rfl
  have c5 : w.cell? ⟨t, 8, none⟩ = some (.bool m.rd) := (hT.cell 8).trans rfl
  have c6 : w.cell? ⟨t, 9, none⟩ = some (.bool m.ra) := (hT.cell 9).trans rfl
  have c7 : w.cell? ⟨t, 10, none⟩ = some (.int .i64 m.rcode) := (hT.cell 10).trans rfl
  have c8 : w.cell? ⟨t, 11, none⟩ = some (.slice sm.Q m.qs.length sm.qc) := (hT.cell 11).trans rfl
  have c9 : w.cell? ⟨t, 12, none⟩ = some (.slice sm.A m.an.length sm.ac) := (hT.cell 12).trans rfl
  have c10 : w.cell? ⟨t, 13, none⟩ = some (.slice sm.U m.au.length sm.uc) := (hT.cell 13).trans rfl
  have c11 : w.cell? ⟨t, 14, none⟩ = some (.slice sm.X m.ex.length sm.xc) := (hT.cell 14).trans rfl
  have c12 : w.cell? ⟨t, 15, none⟩ = some (.bool m.edns) := (hT.cell 15).trans rfl
  have c13 : w.cell? ⟨t, 16, none⟩ = some (.int .i64 m.size) := (hT.cell 16).trans rfl
  unfold mCells at hw1
  rw [hf] at HSN
  have H1 := Lib.hid h1
  have h2b : (m.op != 0) = true := by simp [h2]
  clear hf h1 h2
  clear hT hm hq hS hb1 hL
  go_enter Try.func69, Try.ntmps69
  go_upto_region 2 with (fail)
  rw [← hw1]
  clear hw1 c0 c1 c2 c3 c4 c5 c6 c7 c8 c9 c10 c11 c12 c13
  obtain ⟨z0, z1, z2, z3, z4, z5, z6, z7, z8, z9, z10, z11, z12, z13⟩ := HR1.out.cells
  unfold msV mCells at HSN
  go_wp2_with (first
    | (go_at_call 119; refine HSN.out.mono ?_; rintro e w2 ⟨v2, rfl, rfl, hb2⟩; obtain ⟨z0, z1, z2, z3, z4, z5, z6, z7, z8, z9, z10, z11, z12, z13⟩ := (HR1.out.below hb2).cells; rw [H1.out] at z1)
    | fail)
  go_ret
  exact ⟨_, rfl, rfl, nx HB1.out hb2⟩
set_option maxHeartbeats 8000000 in
theorem asked_no_rcode (t : Nat) (sq : QS) (q : Qu) (sm : MS) (m : Ms) (Z : Option Addr) (nz cz : Nat) (now : Int) (out : Value) (w : World) {S : Nat → Prop} (hT : TRow w t sq q sm m Z nz cz now out) (hm : MIn S w sm m) (hq : QIn S w sq q) (hS : ∀ b, S b → b < w.heap.size) (hL : LtM m) (hf : fineM m = true) (h1 : m.resp = true) (h2 : m.op = 0) (h3 : m.rcode ≠ 0) (h4 : m.rcode ≠ 3) :
    Calls Try.prog 69 #[.pointer (some ⟨t, 0, none⟩)] w (RetP (fun v _ => v = .bool false) w) := by
  obtain ⟨w1, hw1⟩ : ∃ w1, w1 = w.alloc (.cells (mCells sm m) 31) := ⟨_, rfl⟩
  have hb1 : Below w.heap.size w w1 := by rw [hw1]; exact bl.alloc (Nat.le_refl _) _
  have HR1 : Hid (MRow w1 w.heap.size sm m) := by show MRow _ _ _ _; rw [hw1]; exact MRow.made w sm m
  have HB1 := Lib.hid hb1
  have HTW : Hid (∀ u, Below w.heap.size w u → TRow u t sq q sm m Z nz cz now out) := fun u hu => hT.below hu
  have HSN := Lib.hid (mSound_any sm m w1 (hm.below hb1 hS) (fun b hb => Nat.lt_of_lt_of_le (hS b hb) hb1.size) hL)
  have c0 : w.cell? ⟨t, 3, none⟩ = some (.int .i64 m.id) := (hT.cell 3).trans rfl
  have c1 : w.cell? ⟨t, 4, none⟩ = some (.bool m.resp) := (hT.cell 4).trans rfl
  have c2 : w.cell? ⟨t, 5, none⟩ = some (.int .i64 m.op) := (hT.cell 5).trans rfl
  have c3 : w.cell? ⟨t, 6, none⟩ = some (.bool m.aa) := (hT.cell 6).trans rfl
  have c4 : w.cell? ⟨t, 7, none⟩ = some (.bool m.tc) := (hT.cell 7).trans rfl
  have c5 : w.cell? ⟨t, 8, none⟩ = some (.bool m.rd) := (hT.cell 8).trans rfl
  have c6 : w.cell? ⟨t, 9, none⟩ = some (.bool m.ra) := (hT.cell 9).trans rfl
  have c7 : w.cell? ⟨t, 10, none⟩ = some (.int .i64 m.rcode) := (hT.cell 10).trans rfl
  have c8 : w.cell? ⟨t, 11, none⟩ = some (.slice sm.Q m.qs.length sm.qc) := (hT.cell 11).trans rfl
  have c9 : w.cell? ⟨t, 12, none⟩ = some (.slice sm.A m.an.length sm.ac) := (hT.cell 12).trans rfl
  have c10 : w.cell? ⟨t, 13, none⟩ = some (.slice sm.U m.au.length sm.uc) := (hT.cell 13).trans rfl
  have c11 : w.cell? ⟨t, 14, none⟩ = some (.slice sm.X m.ex.length sm.xc) := (hT.cell 14).trans rfl
  have c12 : w.cell? ⟨t, 15, none⟩ = some (.bool m.edns) := (hT.cell 15).trans rfl
  have c13 : w.cell? ⟨t, 16, none⟩ = some (.int .i64 m.size) := (hT.cell 16).trans rfl
  unfold mCells at hw1
  rw [hf] at HSN
  have H1 := Lib.hid h1
  have H2 := Lib.hid h2
  have h3b : (m.rcode != 0) = true := by simp [h3]
  have h4b : (m.rcode != 3) = true := by simp [h4]
  clear hf h1 h2 h3 h4
  clear hT hm hq hS hb1 hL
  go_enter Try.func69, Try.ntmps69
  go_upto_region 2 with (fail)
  rw [← hw1]
  clear hw1 c0 c1 c2 c3 c4 c5 c6 c7 c8 c9 c10 c11 c12 c13
  obtain ⟨z0, z1, z2, z3, z4, z5, z6, z7, z8, z9, z10, z11, z12, z13⟩ := HR1.out.cells
  unfold msV mCells at HSN
  go_wp2_with (first
    | (go_at_call 119; refine HSN.out.mono ?_; rintro e w2 ⟨v2, rfl, rfl, hb2⟩; obtain ⟨z0, z1, z2, z3, z4, z5, z6, z7, z8, z9, z10, z11, z12, z13⟩ := (HR1.out.below hb2).cells; rw [H1.out] at z1; rw [H2.out] at z2)
    | fail)
  go_ret
  exact ⟨_, rfl, rfl, nx HB1.out hb2⟩
set_option maxHeartbeats 8000000 in
theorem asked_no_q0 (t : Nat) (sq : QS) (q : Qu) (sm : MS) (m : Ms) (Z : Option Addr) (nz cz : Nat) (now : Int) (out : Value) (w : World) {S : Nat → Prop} (hT : TRow w t sq q sm m Z nz cz now out) (hm : MIn S w sm m) (hq : QIn S w sq q) (hS : ∀ b, S b → b < w.heap.size) (hL : LtM m) (hf : fineM m = true) (h1 : m.resp = true) (h2 : m.op = 0) (h3 : m.rcode = 0) (h4 : m.qs.length ≠ 1) :
    Calls Try.prog 69 #[.pointer (some ⟨t, 0, none⟩)] w (RetP (fun v _ => v = .bool false) w) := by
  obtain ⟨w1, hw1⟩ : ∃ w1, w1 = w.alloc (.cells (mCells sm m) 31) := ⟨_, rfl⟩
  have hb1 : Below w.heap.size w w1 := by rw [hw1]; exact bl.alloc (Nat.le_refl _) _
  have HR1 : Hid (MRow w1 w.heap.size sm m) := by show MRow _ _ _ _; rw [hw1]; exact MRow.made w sm m
  have HB1 := Lib.hid hb1
  have HTW : Hid (∀ u, Below w.heap.size w u → TRow u t sq q sm m Z nz cz now out) := fun u hu => hT.below hu
  have HSN := Lib.hid (mSound_any sm m w1 (hm.below hb1 hS) (fun b hb => Nat.lt_of_lt_of_le (hS b hb) hb1.size) hL)
  have c0 : w.cell? ⟨t, 3, none⟩ = some (.int .i64 m.id) := (hT.cell 3).trans rfl
  have c1 : w.cell? ⟨t, 4, none⟩ = some (.bool m.resp) := (hT.cell 4).trans rfl
  have c2 : w.cell? ⟨t, 5, none⟩ = some (.int .i64 m.op) := (hT.cell 5).trans rfl
  have c3 : w.cell? ⟨t, 6, none⟩ = some (.bool m.aa) := (hT.cell 6).trans rfl
  have c4 : w.cell? ⟨t, 7, none⟩ = some (.bool m.tc) := (hT.cell 7).trans rfl
  have c5 : w.cell? ⟨t, 8, none⟩ = some (.bool m.rd) := (hT.cell 8).trans rfl
  have c6 : w.cell? ⟨t, 9, none⟩ = some (.bool m.ra) := (hT.cell 9).trans rfl
  have c7 : w.cell? ⟨t, 10, none⟩ = some (.int .i64 m.rcode) := (hT.cell 10).trans rfl
  have c8 : w.cell? ⟨t, 11, none⟩ = some (.slice sm.Q m.qs.length sm.qc) := (hT.cell 11).trans rfl
  have c9 : w.cell? ⟨t, 12, none⟩ = some (.slice sm.A m.an.length sm.ac) := (hT.cell 12).trans rfl
  have c10 : w.cell? ⟨t, 13, none⟩ = some (.slice sm.U m.au.length sm.uc) := (hT.cell 13).trans rfl
  have c11 : w.cell? ⟨t, 14, none⟩ = some (.slice sm.X m.ex.length sm.xc) := (hT.cell 14).trans rfl
  have c12 : w.cell? ⟨t, 15, none⟩ = some (.bool m.edns) := (hT.cell 15).trans rfl
  have c13 : w.cell? ⟨t, 16, none⟩ = some (.int .i64 m.size) := (hT.cell 16).trans rfl
  unfold mCells at hw1
  rw [hf] at HSN
  have H1 := Lib.hid h1
  have H2 := Lib.hid h2
  have H3 := Lib.hid h3
  have h4b : ((m.qs.length : Int) != 1) = true := by simp; omega
  clear hf h1 h2 h3 h4
  clear hT hm hq hS hb1 hL
  go_enter Try.func69, Try.ntmps69
  go_upto_region 2 with (fail)
  rw [← hw1]
  clear hw1 c0 c1 c2 c3 c4 c5 c6 c7 c8 c9 c10 c11 c12 c13
  obtain ⟨z0, z1, z2, z3, z4, z5, z6, z7, z8, z9, z10, z11, z12, z13⟩ := HR1.out.cells
  unfold msV mCells at HSN
  go_wp2_with (first
    | (go_at_call 119; refine HSN.out.mono ?_; rintro e w2 ⟨v2, rfl, rfl, hb2⟩; obtain ⟨z0, z1, z2, z3, z4, z5, z6, z7, z8, z9, z10, z11, z12, z13⟩ := (HR1.out.below hb2).cells; rw [H1.out] at z1; rw [H2.out] at z2; rw [H3.out] at z7)
    | fail)
  go_ret
  exact ⟨_, rfl, rfl, nx HB1.out hb2⟩
set_option maxHeartbeats 8000000 in
theorem asked_no_q3 (t : Nat) (sq : QS) (q : Qu) (sm : MS) (m : Ms) (Z : Option Addr) (nz cz : Nat) (now : Int) (out : Value) (w : World) {S : Nat → Prop} (hT : TRow w t sq q sm m Z nz cz now out) (hm : MIn S w sm m) (hq : QIn S w sq q) (hS : ∀ b, S b → b < w.heap.size) (hL : LtM m) (hf : fineM m = true) (h1 : m.resp = true) (h2 : m.op = 0) (h3 : m.rcode = 3) (h4 : m.qs.length ≠ 1) :
    Calls Try.prog 69 #[.pointer (some ⟨t, 0, none⟩)] w (RetP (fun v _ => v = .bool false) w) := by
  obtain ⟨w1, hw1⟩ : ∃ w1, w1 = w.alloc (.cells (mCells sm m) 31) := ⟨_, rfl⟩
  have hb1 : Below w.heap.size w w1 := by rw [hw1]; exact bl.alloc (Nat.le_refl _) _
  have HR1 : Hid (MRow w1 w.heap.size sm m) := by show MRow _ _ _ _; rw [hw1]; exact MRow.made w sm m
  have HB1 := Lib.hid hb1
  have HTW : Hid (∀ u, Below w.heap.size w u → TRow u t sq q sm m Z nz cz now out) := fun u hu => hT.below hu
  have HSN := Lib.hid (mSound_any sm m w1 (hm.below hb1 hS) (fun b hb => Nat.lt_of_lt_of_le (hS b hb) hb1.size) hL)
  have c0 : w.cell? ⟨t, 3, none⟩ = some (.int .i64 m.id) := (hT.cell 3).trans rfl
  have c1 : w.cell? ⟨t, 4, none⟩ = some (.bool m.resp) := (hT.cell 4).trans rfl
  have c2 : w.cell? ⟨t, 5, none⟩ = some (.int .i64 m.op) := (hT.cell 5).trans rfl
  have c3 : w.cell? ⟨t, 6, none⟩ = some (.bool m.aa) := (hT.cell 6).trans rfl
  have c4 : w.cell? ⟨t, 7, none⟩ = some (.bool m.tc) := (hT.cell 7).trans rfl
  have c5 : w.cell? ⟨t, 8, none⟩ = some (.bool m.rd) := (hT.cell 8).trans rfl
  have c6 : w.cell? ⟨t, 9, none⟩ = some (.bool m.ra) := (hT.cell 9).trans rfl
  have c7 : w.cell? ⟨t, 10, none⟩ = some (.int .i64 m.rcode) := (hT.cell 10).trans rfl
  have c8 : w.cell? ⟨t, 11, none⟩ = some (.slice sm.Q m.qs.length sm.qc) := (hT.cell 11).trans rfl
  have c9 : w.cell? ⟨t, 12, none⟩ = some (.slice sm.A m.an.length sm.ac) := (hT.cell 12).trans rfl
  have c10 : w.cell? ⟨t, 13, none⟩ = some (.slice sm.U m.au.length sm.uc) := (hT.cell 13).trans rfl
  have c11 : w.cell? ⟨t, 14, none⟩ = some (.slice sm.X m.ex.length sm.xc) := (hT.cell 14).trans rfl
  have c12 : w.cell? ⟨t, 15, none⟩ = some (.bool m.edns) := (hT.cell 15).trans rfl
  have c13 : w.cell? ⟨t, 16, none⟩ = some (.int .i64 m.size) := (hT.cell 16).trans rfl
  unfold mCells at hw1
  rw [hf] at HSN
  have H1 := Lib.hid h1
  have H2 := Lib.hid h2
  have H3 := Lib.hid h3
  have h4b : ((m.qs.length : Int) != 1) = true := by simp; omega
  clear hf h1 h2 h3 h4
  clear hT hm hq hS hb1 hL
  go_enter Try.func69, Try.ntmps69
  go_upto_region 2 with (fail)
  rw [← hw1]
  clear hw1 c0 c1 c2 c3 c4 c5 c6 c7 c8 c9 c10 c11 c12 c13
  obtain ⟨z0, z1, z2, z3, z4, z5, z6, z7, z8, z9, z10, z11, z12, z13⟩ := HR1.out.cells
  unfold msV mCells at HSN
  go_wp2_with (first
    | (go_at_call 119; refine HSN.out.mono ?_; rintro e w2 ⟨v2, rfl, rfl, hb2⟩; obtain ⟨z0, z1, z2, z3, z4, z5, z6, z7, z8, z9, z10, z11, z12, z13⟩ := (HR1.out.below hb2).cells; rw [H1.out] at z1; rw [H2.out] at z2; rw [H3.out] at z7)
    | fail)
  go_ret
  exact ⟨_, rfl, rfl, nx HB1.out hb2⟩
set_option maxHeartbeats 8000000 in
theorem asked_one_q0 (t : Nat) (sq : QS) (q : Qu) (sm : MS) (m : Ms) (Z : Option Addr) (nz cz : Nat) (now : Int) (out : Value) (w : World) {S : Nat → Prop} (hT : TRow w t sq q sm m Z nz cz now out) (hm : MIn S w sm m) (hq : QIn S w sq q) (hS : ∀ b, S b → b < w.heap.size) (hL : LtM m) (hf : fineM m = true) (h1 : m.resp = true) (h2 : m.op = 0) (h3 : m.rcode = 0) (x : Qu) (hqs : m.qs = [x]) :
    Calls Try.prog 69 #[.pointer (some ⟨t, 0, none⟩)] w (RetP (fun v _ => v = .bool (decide (lowN x.name = lowN q.name) && decide (x.type = q.type) && decide (x.cls = q.cls))) w) := by
  obtain ⟨w1, hw1⟩ : ∃ w1, w1 = w.alloc (.cells (mCells sm m) 31) := ⟨_, rfl⟩
  have hb1 : Below w.heap.size w w1 := by rw [hw1]; exact bl.alloc (Nat.le_refl _) _
  have HR1 : Hid (MRow w1 w.heap.size sm m) := by show MRow _ _ _ _; rw [hw1]; exact MRow.made w sm m
  have HB1 := Lib.hid hb1
  have HTW : Hid (∀ u, Below w.heap.size w u → TRow u t sq q sm m Z nz cz now out) := fun u hu => hT.below hu
  have HSN := Lib.hid (mSound_any sm m w1 (hm.below hb1 hS) (fun b hb => Nat.lt_of_lt_of_le (hS b hb) hb1.size) hL)
  have c0 : w.cell? ⟨t, 3, none⟩ = some (.int .i64 m.id) := (hT.cell 3).trans rfl
  have c1 : w.cell? ⟨t, 4, none⟩ = some (.bool m.resp) := (hT.cell 4).trans rfl
  have c2 : w.cell? ⟨t, 5, none⟩ = some (.int .i64 m.op) := (hT.cell 5).trans rfl
  have c3 : w.cell? ⟨t, 6, none⟩ = some (.bool m.aa) := (hT.cell 6).trans rfl
  have c4 : w.cell? ⟨t, 7, none⟩ = some (.bool m.tc) := (hT.cell 7).trans rfl
  have c5 : w.cell? ⟨t, 8, none⟩ = some (.bool m.rd) := (hT.cell 8).trans rfl
  have c6 : w.cell? ⟨t, 9, none⟩ = some (.bool m.ra) := (hT.cell 9).trans rfl
  have c7 : w.cell? ⟨t, 10, none⟩ = some (.int .i64 m.rcode) := (hT.cell 10).trans rfl
  have c8 : w.cell? ⟨t, 11, none⟩ = some (.slice sm.Q m.qs.length sm.qc) := (hT.cell 11).trans rfl
  have c9 : w.cell? ⟨t, 12, none⟩ = some (.slice sm.A m.an.length sm.ac) := (hT.cell 12).trans rfl
  have c10 : w.cell? ⟨t, 13, none⟩ = some (.slice sm.U m.au.length sm.uc) := (hT.cell 13).trans rfl
  have c11 : w.cell? ⟨t, 14, none⟩ = some (.slice sm.X m.ex.length sm.xc) := (hT.cell 14).trans rfl
  have c12 : w.cell? ⟨t, 15, none⟩ = some (.bool m.edns) := (hT.cell 15).trans rfl
  have c13 : w.cell? ⟨t, 16, none⟩ = some (.int .i64 m.size) := (hT.cell 16).trans rfl
  unfold mCells at hw1
  rw [hf] at HSN
  have H1 := Lib.hid h1
  have H2 := Lib.hid h2
  have H3 := Lib.hid h3
  have hq1 : m.qs.length = 1 := by rw [hqs]; rfl
  have HQ1 := Lib.hid hq1
  have HI1 := Lib.hid (hm.below hb1 hS)
  have HS1 : Hid (∀ b, S b → b < w1.heap.size) := fun b hb => Nat.lt_of_lt_of_le (hS b hb) hb1.size
  have HQI := Lib.hid (hq.below hb1 hS)
  have HQS := Lib.hid hqs
  have HLN : Hid (x.name.length ≤ 1000000000 ∧ q.name.length ≤ maxLen) := ⟨hL.qn x (by rw [hqs]; exact List.mem_singleton.2 rfl), Nat.le_trans hq.cn.1 hq.cn.2⟩
  clear hf h1 h2 h3 hqs hq1
  clear hT hm hq hS hb1 hL
  go_enter Try.func69, Try.ntmps69
  go_upto_region 2 with (fail)
  rw [← hw1]
  clear hw1 c0 c1 c2 c3 c4 c5 c6 c7 c8 c9 c10 c11 c12 c13
  obtain ⟨z0, z1, z2, z3, z4, z5, z6, z7, z8, z9, z10, z11, z12, z13⟩ := HR1.out.cells
  unfold msV mCells at HSN
  go_upto_region 4 with (first
    | (go_at_call 119; refine HSN.out.mono ?_; rintro e w2 ⟨v2, rfl, rfl, hb2⟩; have HB12 := Lib.hid hb2; have HB2 := Lib.hid (nx HB1.out hb2); obtain ⟨z0, z1, z2, z3, z4, z5, z6, z7, z8, z9, z10, z11, z12, z13⟩ := (HR1.out.below hb2).cells; rw [H1.out] at z1; rw [H2.out] at z2; rw [H3.out] at z7; rw [HQ1.out] at z8; clear hb2)
    | fail)
  obtain ⟨b8, o8, sx, hQA, -, hxi, hxc⟩ := qu_at (HI1.out.below HB12.out HS1.out).q (k := 0) (r := x) (by rw [HQS.out]; rfl)
  rw [show o8 + 0 * 3 = o8 by omega] at hxc
  rw [hQA] at z8
  obtain ⟨e0, e1, e2⟩ := hxc
  have HXI := Lib.hid hxi
  clear hxi hQA z0 z1 z2 z3 z4 z5 z6 z7 z9 z10 z11 z12 z13
  go_upto_region 5 with (fail)
  obtain ⟨w3, hw3⟩ : ∃ u, u = w2.alloc (.cells (qCells sx x) 25) := ⟨_, rfl⟩
  have hb3 : Below w2.heap.size w2 w3 := by rw [hw3]; exact bl.alloc (Nat.le_refl _) _
  have HQR : Hid (QRow w3 w2.heap.size sx x) := by show QRow _ _ _ _; rw [hw3]; exact QRow.made w2 sx x
  have HB23 := Lib.hid hb3
  have HB3 : Hid (Below w.heap.size w w3) := nx HB2.out hb3
  have hS2 : ∀ b, S b → b < w2.heap.size := fun b hb => Nat.lt_of_lt_of_le (HS1.out b hb) HB12.out.size
  have HXE : Hid (RdE encS w3 sx.A x.name.length x.name) := (HXI.out.below hb3 hS2).n.mono (fun b hb => Nat.lt_of_lt_of_le (hS2 b hb) hb3.size) (fun b hb => Nat.lt_of_lt_of_le (hS2 b hb) hb3.size)
  have HQE : Hid (RdE encS w3 sq.A q.name.length q.name) := ((HQI.out.below HB12.out HS1.out).below hb3 hS2).n.mono (fun b hb => Nat.lt_of_lt_of_le (hS2 b hb) hb3.size) (fun b hb => Nat.lt_of_lt_of_le (hS2 b hb) hb3.size)
  unfold qCells at hw3
  rw [← hw3]
  clear hw3 hb3 e0 e1 e2 z8
  generalize w2.heap.size = g3 at HQR ⊢
  have q0 : ∀ w', Below w3.heap.size w3 w' → (w'.cell? ⟨g3, 0, none⟩ = some (.slice sx.A x.name.length sx.c) ∧ w'.cell? ⟨g3, 1, none⟩ = some (.int .i64 x.type) ∧ w'.cell? ⟨g3, 2, none⟩ = some (.int .i64 x.cls) ∧ w'.cell? ⟨t, 0, none⟩ = some (.slice sq.A q.name.length sq.c) ∧ w'.cell? ⟨t, 1, none⟩ = some (.int .i64 q.type) ∧ w'.cell? ⟨t, 2, none⟩ = some (.int .i64 q.cls)) := fun w' hw => by
    obtain ⟨a0, a1, a2⟩ := (HQR.out.below hw).cells
    have h := HTW.out w' (nx HB3.out hw)
    exact ⟨a0, a1, a2, (h.cell 0).trans rfl, (h.cell 1).trans rfl, (h.cell 2).trans rfl⟩
  have q1 := q0 w3 bl
  have q2 := q0 w3.drew bl.drew
  have HQQ := Lib.hid q0
  have HEQ : Hid (∀ u, Below w3.heap.size w3 u → Calls Try.prog 55 #[.slice sx.A x.name.length sx.c, .slice sq.A q.name.length sq.c] u (RetP (fun v _ => v = .bool (decide (lowN x.name = lowN q.name))) u)) := fun u hu => nequal_any sx.A sq.A x.name.length sx.c q.name.length sq.c x.name q.name u (RdE.below HXE.out hu) (RdE.below HQE.out hu) (by have := HLN.out.1; unfold maxLen; omega) HLN.out.2
  have HTB : Hid (decide (x.type = q.type) = (x.type == q.type)) := by show _ = _; by_cases h : x.type = q.type <;> simp [h]
  have HCB : Hid (decide (x.cls = q.cls) = (x.cls == q.cls)) := by show _ = _; by_cases h : x.cls = q.cls <;> simp [h]
  obtain ⟨nb, hnb⟩ : ∃ nb, nb = decide (lowN x.name = lowN q.name) := ⟨_, rfl⟩
  rw [← hnb] at HEQ
  have HNB := Lib.hid hnb
  clear q0 hnb hS2
  cases nb with
  | false =>
    refine wp_region_vals (n := 28) (by kernel_rfl) (by kernel_rfl) (by kernel_rfl) rfl (by kernel_rfl) (fun i => i + 42) (fun i hi => by show i + 42 < 70; omega) (fun i j _ _ e => by have e2 : i + 42 = j + 42 := e; omega) (fun i => ([.pointer (some ⟨g3, 0, none⟩), .slice sx.A x.name.length sx.c, .pointer (some ⟨t, 0, none⟩), .pointer (some ⟨t, 0, none⟩), .pointer (some ⟨t, 0, none⟩), .pointer (some ⟨t, 0, none⟩), .slice sq.A q.name.length sq.c, .bool false, .bool false, undef, undef, undef, undef, undef, undef, undef, undef, .bool false, .bool false, undef, undef, undef, undef, undef, undef, undef, undef, .bool false] : List Value).getD i undef) ?_ ?_
    · intro i hi a w4 hbw hsm hdep
      have hc := HQQ.out w4 hbw
      have hcases : i = 0 ∨ i = 1 ∨ i = 2 ∨ i = 3 ∨ i = 4 ∨ i = 5 ∨ i = 6 ∨ i = 7 ∨ i = 8 ∨ i = 9 ∨ i = 10 ∨ i = 11 ∨ i = 12 ∨ i = 13 ∨ i = 14 ∨ i = 15 ∨ i = 16 ∨ i = 17 ∨ i = 18 ∨ i = 19 ∨ i = 20 ∨ i = 21 ∨ i = 22 ∨ i = 23 ∨ i = 24 ∨ i = 25 ∨ i = 26 ∨ i = 27 := by omega
      rcases hcases with rfl | rfl | rfl | rfl | rfl | rfl | rfl | rfl | rfl | rfl | rfl | rfl | rfl | rfl | rfl | rfl | rfl | rfl | rfl | rfl | rfl | rfl | rfl | rfl | rfl | rfl | rfl | rfl
      · have e4 : a.tmps[4]? = some (.pointer (some ⟨g3, 0, none⟩)) := (hsm.other 4 (fun j hj e => by have e2 : j + 42 = 4 := e; omega)).trans rfl
        refine wpOp_plain rfl rfl ?_
        exact wp_val (by simp [e4, go_sem]) ⟨rfl, bl⟩
      · have e42 : a.tmps[42]? = some (.pointer (some ⟨g3, 0, none⟩)) := hdep 0 (by kernel_rfl)
        refine wpOp_plain rfl rfl ?_
        exact wp_val (by simp [e42, go_sem, hc.1]) ⟨rfl, bl⟩
      · have e0 : a.tmps[0]? = some (.pointer (some ⟨t, 0, none⟩)) := (hsm.other 0 (fun j hj e => by have e2 : j + 42 = 0 := e; omega)).trans rfl
        refine wpOp_plain rfl rfl ?_
        exact wp_val (by simp [e0, go_sem]) ⟨rfl, bl⟩
      · have e44 : a.tmps[44]? = some (.pointer (some ⟨t, 0, none⟩)) := hdep 2 (by kernel_rfl)
        refine wpOp_plain rfl rfl ?_
        exact wp_val (by simp [e44, go_sem]) ⟨rfl, bl⟩
      · have e45 : a.tmps[45]? = some (.pointer (some ⟨t, 0, none⟩)) := hdep 3 (by kernel_rfl)
        refine wpOp_plain rfl rfl ?_
        exact wp_val (by simp [e45, go_sem]) ⟨rfl, bl⟩
      · have e46 : a.tmps[46]? = some (.pointer (some ⟨t, 0, none⟩)) := hdep 4 (by kernel_rfl)
        refine wpOp_plain rfl rfl ?_
        exact wp_val (by simp [e46, go_sem]) ⟨rfl, bl⟩
      · have e47 : a.tmps[47]? = some (.pointer (some ⟨t, 0, none⟩)) := hdep 5 (by kernel_rfl)
        refine wpOp_plain rfl rfl ?_
        exact wp_val (by simp [e47, go_sem, hc.2.2.2.1]) ⟨rfl, bl⟩
      · have e43 : a.tmps[43]? = some (.slice sx.A x.name.length sx.c) := hdep 1 (by kernel_rfl)
        have e48 : a.tmps[48]? = some (.slice sq.A q.name.length sq.c) := hdep 6 (by kernel_rfl)
        refine wpOp_plain rfl rfl ?_
        generalize hK : (fun (a2 : Act) (w2 : World) => _) = K
        have v43 := eval_tmp e43
        have v48 := eval_tmp e48
        go_simp
        refine (HEQ.out w4 hbw).mono ?_
        rintro e w5 ⟨v5, rfl, rfl, hb5⟩
        rw [← hK]
        exact ⟨rfl, hb5⟩
      · have e49 : a.tmps[49]? = some (.bool false) := hdep 7 (by kernel_rfl)
        refine wpOp_plain rfl rfl ?_
        exact wp_val (by simp [e49, go_sem]) ⟨rfl, bl⟩
      · have eg : a.tmps[50]? = some (.bool false) := hdep 8 (by kernel_rfl)
        exact wpOp_no rfl rfl (yields_of rfl eg) (by decide) ⟨rfl, bl⟩
      · have eg : a.tmps[50]? = some (.bool false) := hdep 8 (by kernel_rfl)
        exact wpOp_no rfl rfl (yields_of rfl eg) (by decide) ⟨rfl, bl⟩
      · have eg : a.tmps[50]? = some (.bool false) := hdep 8 (by kernel_rfl)
        exact wpOp_no rfl rfl (yields_of rfl eg) (by decide) ⟨rfl, bl⟩
      · have eg : a.tmps[50]? = some (.bool false) := hdep 8 (by kernel_rfl)
        exact wpOp_no rfl rfl (yields_of rfl eg) (by decide) ⟨rfl, bl⟩
      · have eg : a.tmps[50]? = some (.bool false) := hdep 8 (by kernel_rfl)
        exact wpOp_no rfl rfl (yields_of rfl eg) (by decide) ⟨rfl, bl⟩
      · have eg : a.tmps[50]? = some (.bool false) := hdep 8 (by kernel_rfl)
        exact wpOp_no rfl rfl (yields_of rfl eg) (by decide) ⟨rfl, bl⟩
      · have eg : a.tmps[50]? = some (.bool false) := hdep 8 (by kernel_rfl)
        exact wpOp_no rfl rfl (yields_of rfl eg) (by decide) ⟨rfl, bl⟩
      · have eg : a.tmps[50]? = some (.bool false) := hdep 8 (by kernel_rfl)
        exact wpOp_no rfl rfl (yields_of rfl eg) (by decide) ⟨rfl, bl⟩
      · have e50 : a.tmps[50]? = some (.bool false) := hdep 8 (by kernel_rfl)
        have e58 : a.tmps[58]? = some (undef) := hdep 16 (by kernel_rfl)
        refine wpOp_plain rfl rfl ?_
        exact wp_val (by simp [e50, e58, go_sem]) ⟨rfl, bl⟩
      · have e59 : a.tmps[59]? = some (.bool false) := hdep 17 (by kernel_rfl)
        refine wpOp_plain rfl rfl ?_
        exact wp_val (by simp [e59, go_sem]) ⟨rfl, bl⟩
      · have eg : a.tmps[60]? = some (.bool false) := hdep 18 (by kernel_rfl)
        exact wpOp_no rfl rfl (yields_of rfl eg) (by decide) ⟨rfl, bl⟩
      · have eg : a.tmps[60]? = some (.bool false) := hdep 18 (by kernel_rfl)
        exact wpOp_no rfl rfl (yields_of rfl eg) (by decide) ⟨rfl, bl⟩
      · have eg : a.tmps[60]? = some (.bool false) := hdep 18 (by kernel_rfl)
        exact wpOp_no rfl rfl (yields_of rfl eg) (by decide) ⟨rfl, bl⟩
      · have eg : a.tmps[60]? = some (.bool false) := hdep 18 (by kernel_rfl)
        exact wpOp_no rfl rfl (yields_of rfl eg) (by decide) ⟨rfl, bl⟩
      · have eg : a.tmps[60]? = some (.bool false) := hdep 18 (by kernel_rfl)
        exact wpOp_no rfl rfl (yields_of rfl eg) (by decide) ⟨rfl, bl⟩
      · have eg : a.tmps[60]? = some (.bool false) := hdep 18 (by kernel_rfl)
        exact wpOp_no rfl rfl (yields_of rfl eg) (by decide) ⟨rfl, bl⟩
      · have eg : a.tmps[60]? = some (.bool false) := hdep 18 (by kernel_rfl)
        exact wpOp_no rfl rfl (yields_of rfl eg) (by decide) ⟨rfl, bl⟩
      · have eg : a.tmps[60]? = some (.bool false) := hdep 18 (by kernel_rfl)
        exact wpOp_no rfl rfl (yields_of rfl eg) (by decide) ⟨rfl, bl⟩
      · have e60 : a.tmps[60]? = some (.bool false) := hdep 18 (by kernel_rfl)
        have e68 : a.tmps[68]? = some (undef) := hdep 26 (by kernel_rfl)
        refine wpOp_plain rfl rfl ?_
        exact wp_val (by simp [e60, e68, go_sem]) ⟨rfl, bl⟩
    · intro a w4 hbw hsm hdep
      have e69 : a.tmps[69]? = some (.bool false) := hdep 27 (by decide)
      refine wpOp_plain rfl rfl ?_
      unfold Oper.wp execOp
      simp [e69, go_sem]
      go_wp2
      refine bodyPost_ret (v := .bool false) ?_ hsm.defers ⟨_, rfl, by rw [← HNB.out]; rfl, nx HB3.out hbw⟩
      have hsz : a.tmps.size = 70 := hsm.size.trans rfl
      simp [results, Try.results69, hsz]
  | true =>
    cases htb : (x.type == q.type) with
    | false =>
      have HT := Lib.hid (HTB.out.trans htb)
      refine wp_region_vals (n := 28) (by kernel_rfl) (by kernel_rfl) (by kernel_rfl) rfl (by kernel_rfl) (fun i => i + 42) (fun i hi => by show i + 42 < 70; omega) (fun i j _ _ e => by have e2 : i + 42 = j + 42 := e; omega) (fun i => ([.pointer (some ⟨g3, 0, none⟩), .slice sx.A x.name.length sx.c, .pointer (some ⟨t, 0, none⟩), .pointer (some ⟨t, 0, none⟩), .pointer (some ⟨t, 0, none⟩), .pointer (some ⟨t, 0, none⟩), .slice sq.A q.name.length sq.c, .bool true, .bool true, .pointer (some ⟨g3, 1, none⟩), .int .i64 x.type, .pointer (some ⟨t, 0, none⟩), .pointer (some ⟨t, 0, none⟩), .pointer (some ⟨t, 0, none⟩), .pointer (some ⟨t, 1, none⟩), .int .i64 q.type, .bool false, .bool false, .bool false, undef, undef, undef, undef, undef, undef, undef, undef, .bool false] : List Value).getD i undef) ?_ ?_
      · intro i hi a w4 hbw hsm hdep
        have hc := HQQ.out w4 hbw
        have hcases : i = 0 ∨ i = 1 ∨ i = 2 ∨ i = 3 ∨ i = 4 ∨ i = 5 ∨ i = 6 ∨ i = 7 ∨ i = 8 ∨ i = 9 ∨ i = 10 ∨ i = 11 ∨ i = 12 ∨ i = 13 ∨ i = 14 ∨ i = 15 ∨ i = 16 ∨ i = 17 ∨ i = 18 ∨ i = 19 ∨ i = 20 ∨ i = 21 ∨ i = 22 ∨ i = 23 ∨ i = 24 ∨ i = 25 ∨ i = 26 ∨ i = 27 := by omega
        rcases hcases with rfl | rfl | rfl | rfl | rfl | rfl | rfl | rfl | rfl | rfl | rfl | rfl | rfl | rfl | rfl | rfl | rfl | rfl | rfl | rfl | rfl | rfl | rfl | rfl | rfl | rfl | rfl | rfl
        · have e4 : a.tmps[4]? = some (.pointer (some ⟨g3, 0, none⟩)) := (hsm.other 4 (fun j hj e => by have e2 : j + 42 = 4 := e; omega)).trans rfl
          refine wpOp_plain rfl rfl ?_
          exact wp_val (by simp [e4, go_sem]) ⟨rfl, bl⟩
        · have e42 : a.tmps[42]? = some (.pointer (some ⟨g3, 0, none⟩)) := hdep 0 (by kernel_rfl)
          refine wpOp_plain rfl rfl ?_
          exact wp_val (by simp [e42, go_sem, hc.1]) ⟨rfl, bl⟩
        · have e0 : a.tmps[0]? = some (.pointer (some ⟨t, 0, none⟩)) := (hsm.other 0 (fun j hj e => by have e2 : j + 42 = 0 := e; omega)).trans rfl
          refine wpOp_plain rfl rfl ?_
          exact wp_val (by simp [e0, go_sem]) ⟨rfl, bl⟩
        · have e44 : a.tmps[44]? = some (.pointer (some ⟨t, 0, none⟩)) := hdep 2 (by kernel_rfl)
          refine wpOp_plain rfl rfl ?_
          exact wp_val (by simp [e44, go_sem]) ⟨rfl, bl⟩
        · have e45 : a.tmps[45]? = some (.pointer (some ⟨t, 0, none⟩)) := hdep 3 (by kernel_rfl)
          refine wpOp_plain rfl rfl ?_
          exact wp_val (by simp [e45, go_sem]) ⟨rfl, bl⟩
        · have e46 : a.tmps[46]? = some (.pointer (some ⟨t, 0, none⟩)) := hdep 4 (by kernel_rfl)
          refine wpOp_plain rfl rfl ?_
          exact wp_val (by simp [e46, go_sem]) ⟨rfl, bl⟩
        · have e47 : a.tmps[47]? = some (.pointer (some ⟨t, 0, none⟩)) := hdep 5 (by kernel_rfl)
          refine wpOp_plain rfl rfl ?_
          exact wp_val (by simp [e47, go_sem, hc.2.2.2.1]) ⟨rfl, bl⟩
        · have e43 : a.tmps[43]? = some (.slice sx.A x.name.length sx.c) := hdep 1 (by kernel_rfl)
          have e48 : a.tmps[48]? = some (.slice sq.A q.name.length sq.c) := hdep 6 (by kernel_rfl)
          refine wpOp_plain rfl rfl ?_
          generalize hK : (fun (a2 : Act) (w2 : World) => _) = K
          have v43 := eval_tmp e43
          have v48 := eval_tmp e48
          go_simp
          refine (HEQ.out w4 hbw).mono ?_
          rintro e w5 ⟨v5, rfl, rfl, hb5⟩
          rw [← hK]
          exact ⟨rfl, hb5⟩
        · have e49 : a.tmps[49]? = some (.bool true) := hdep 7 (by kernel_rfl)
          refine wpOp_plain rfl rfl ?_
          exact wp_val (by simp [e49, go_sem]) ⟨rfl, bl⟩
        · have eg : a.tmps[50]? = some (.bool true) := hdep 8 (by kernel_rfl)
          have e4 : a.tmps[4]? = some (.pointer (some ⟨g3, 0, none⟩)) := (hsm.other 4 (fun j hj e => by have e2 : j + 42 = 4 := e; omega)).trans rfl
          refine wpOp_yes rfl rfl (yields_of rfl eg) ?_
          exact wp_val (by simp [e4, go_sem]) ⟨rfl, bl⟩
        · have eg : a.tmps[50]? = some (.bool true) := hdep 8 (by kernel_rfl)
          have e51 : a.tmps[51]? = some (.pointer (some ⟨g3, 1, none⟩)) := hdep 9 (by kernel_rfl)
          refine wpOp_yes rfl rfl (yields_of rfl eg) ?_
          exact wp_val (by simp [e51, go_sem, hc.2.1]) ⟨rfl, bl⟩
        · have eg : a.tmps[50]? = some (.bool true) := hdep 8 (by kernel_rfl)
          have e0 : a.tmps[0]? = some (.pointer (some ⟨t, 0, none⟩)) := (hsm.other 0 (fun j hj e => by have e2 : j + 42 = 0 := e; omega)).trans rfl
          refine wpOp_yes rfl rfl (yields_of rfl eg) ?_
          exact wp_val (by simp [e0, go_sem]) ⟨rfl, bl⟩
        · have eg : a.tmps[50]? = some (.bool true) := hdep 8 (by kernel_rfl)
          have e53 : a.tmps[53]? = some (.pointer (some ⟨t, 0, none⟩)) := hdep 11 (by kernel_rfl)
          refine wpOp_yes rfl rfl (yields_of rfl eg) ?_
          exact wp_val (by simp [e53, go_sem]) ⟨rfl, bl⟩
        · have eg : a.tmps[50]? = some (.bool true) := hdep 8 (by kernel_rfl)
          have e54 : a.tmps[54]? = some (.pointer (some ⟨t, 0, none⟩)) := hdep 12 (by kernel_rfl)
          refine wpOp_yes rfl rfl (yields_of rfl eg) ?_
          exact wp_val (by simp [e54, go_sem]) ⟨rfl, bl⟩
        · have eg : a.tmps[50]? = some (.bool true) := hdep 8 (by kernel_rfl)
          have e55 : a.tmps[55]? = some (.pointer (some ⟨t, 0, none⟩)) := hdep 13 (by kernel_rfl)
          refine wpOp_yes rfl rfl (yields_of rfl eg) ?_
          exact wp_val (by simp [e55, go_sem]) ⟨rfl, bl⟩
        · have eg : a.tmps[50]? = some (.bool true) := hdep 8 (by kernel_rfl)
          have e56 : a.tmps[56]? = some (.pointer (some ⟨t, 1, none⟩)) := hdep 14 (by kernel_rfl)
          refine wpOp_yes rfl rfl (yields_of rfl eg) ?_
          exact wp_val (by simp [e56, go_sem, hc.2.2.2.2.1]) ⟨rfl, bl⟩
        · have eg : a.tmps[50]? = some (.bool true) := hdep 8 (by kernel_rfl)
          have e52 : a.tmps[52]? = some (.int .i64 x.type) := hdep 10 (by kernel_rfl)
          have e57 : a.tmps[57]? = some (.int .i64 q.type) := hdep 15 (by kernel_rfl)
          refine wpOp_yes rfl rfl (yields_of rfl eg) ?_
          exact wp_val (by simp [e52, e57, go_sem, htb]) ⟨rfl, bl⟩
        · have e50 : a.tmps[50]? = some (.bool true) := hdep 8 (by kernel_rfl)
          have e58 : a.tmps[58]? = some (.bool false) := hdep 16 (by kernel_rfl)
          refine wpOp_plain rfl rfl ?_
          exact wp_val (by simp [e50, e58, go_sem]) ⟨rfl, bl⟩
        · have e59 : a.tmps[59]? = some (.bool false) := hdep 17 (by kernel_rfl)
          refine wpOp_plain rfl rfl ?_
          exact wp_val (by simp [e59, go_sem]) ⟨rfl, bl⟩
        · have eg : a.tmps[60]? = some (.bool false) := hdep 18 (by kernel_rfl)
          exact wpOp_no rfl rfl (yields_of rfl eg) (by decide) ⟨rfl, bl⟩
        · have eg : a.tmps[60]? = some (.bool false) := hdep 18 (by kernel_rfl)
          exact wpOp_no rfl rfl (yields_of rfl eg) (by decide) ⟨rfl, bl⟩
        · have eg : a.tmps[60]? = some (.bool false) := hdep 18 (by kernel_rfl)
          exact wpOp_no rfl rfl (yields_of rfl eg) (by decide) ⟨rfl, bl⟩
        · have eg : a.tmps[60]? = some (.bool false) := hdep 18 (by kernel_rfl)
          exact wpOp_no rfl rfl (yields_of rfl eg) (by decide) ⟨rfl, bl⟩
        · have eg : a.tmps[60]? = some (.bool false) := hdep 18 (by kernel_rfl)
          exact wpOp_no rfl rfl (yields_of rfl eg) (by decide) ⟨rfl, bl⟩
        · have eg : a.tmps[60]? = some (.bool false) := hdep 18 (by kernel_rfl)
          exact wpOp_no rfl rfl (yields_of rfl eg) (by decide) ⟨rfl, bl⟩
        · have eg : a.tmps[60]? = some (.bool false) := hdep 18 (by kernel_rfl)
          exact wpOp_no rfl rfl (yields_of rfl eg) (by decide) ⟨rfl, bl⟩
        · have eg : a.tmps[60]? = some (.bool false) := hdep 18 (by kernel_rfl)
          exact wpOp_no rfl rfl (yields_of rfl eg) (by decide) ⟨rfl, bl⟩
        · have e60 : a.tmps[60]? = some (.bool false) := hdep 18 (by kernel_rfl)
          have e68 : a.tmps[68]? = some (undef) := hdep 26 (by kernel_rfl)
          refine wpOp_plain rfl rfl ?_
          exact wp_val (by simp [e60, e68, go_sem]) ⟨rfl, bl⟩
      · intro a w4 hbw hsm hdep
        have e69 : a.tmps[69]? = some (.bool false) := hdep 27 (by decide)
        refine wpOp_plain rfl rfl ?_
        unfold Oper.wp execOp
        simp [e69, go_sem]
        go_wp2
        refine bodyPost_ret (v := .bool false) ?_ hsm.defers ⟨_, rfl, by rw [← HNB.out, HT.out]; rfl, nx HB3.out hbw⟩
        have hsz : a.tmps.size = 70 := hsm.size.trans rfl
        simp [results, Try.results69, hsz]
    | true =>
      have HT := Lib.hid (HTB.out.trans htb)
      cases hcb : (x.cls == q.cls) with
      | false =>
        have HC := Lib.hid (HCB.out.trans hcb)
        refine wp_region_vals (n := 28) (by kernel_rfl) (by kernel_rfl) (by kernel_rfl) rfl (by kernel_rfl) (fun i => i + 42) (fun i hi => by show i + 42 < 70; omega) (fun i j _ _ e => by have e2 : i + 42 = j + 42 := e; omega) (fun i => ([.pointer (some ⟨g3, 0, none⟩), .slice sx.A x.name.length sx.c, .pointer (some ⟨t, 0, none⟩), .pointer (some ⟨t, 0, none⟩), .pointer (some ⟨t, 0, none⟩), .pointer (some ⟨t, 0, none⟩), .slice sq.A q.name.length sq.c, .bool true, .bool true, .pointer (some ⟨g3, 1, none⟩), .int .i64 x.type, .pointer (some ⟨t, 0, none⟩), .pointer (some ⟨t, 0, none⟩), .pointer (some ⟨t, 0, none⟩), .pointer (some ⟨t, 1, none⟩), .int .i64 q.type, .bool true, .bool true, .bool true, .pointer (some ⟨g3, 2, none⟩), .int .i64 x.cls, .pointer (some ⟨t, 0, none⟩), .pointer (some ⟨t, 0, none⟩), .pointer (some ⟨t, 0, none⟩), .pointer (some ⟨t, 2, none⟩), .int .i64 q.cls, .bool false, .bool false] : List Value).getD i undef) ?_ ?_
        · intro i hi a w4 hbw hsm hdep
          have hc := HQQ.out w4 hbw
          have hcases : i = 0 ∨ i = 1 ∨ i = 2 ∨ i = 3 ∨ i = 4 ∨ i = 5 ∨ i = 6 ∨ i = 7 ∨ i = 8 ∨ i = 9 ∨ i = 10 ∨ i = 11 ∨ i = 12 ∨ i = 13 ∨ i = 14 ∨ i = 15 ∨ i = 16 ∨ i = 17 ∨ i = 18 ∨ i = 19 ∨ i = 20 ∨ i = 21 ∨ i = 22 ∨ i = 23 ∨ i = 24 ∨ i = 25 ∨ i = 26 ∨ i = 27 := by omega
          rcases hcases with rfl | rfl | rfl | rfl | rfl | rfl | rfl | rfl | rfl | rfl | rfl | rfl | rfl | rfl | rfl | rfl | rfl | rfl | rfl | rfl | rfl | rfl | rfl | rfl | rfl | rfl | rfl | rfl
          · have e4 : a.tmps[4]? = some (.pointer (some ⟨g3, 0, none⟩)) := (hsm.other 4 (fun j hj e => by have e2 : j + 42 = 4 := e; omega)).trans rfl
            refine wpOp_plain rfl rfl ?_
            exact wp_val (by simp [e4, go_sem]) ⟨rfl, bl⟩
          · have e42 : a.tmps[42]? = some (.pointer (some ⟨g3, 0, none⟩)) := hdep 0 (by kernel_rfl)
            refine wpOp_plain rfl rfl ?_
            exact wp_val (by simp [e42, go_sem, hc.1]) ⟨rfl, bl⟩
          · have e0 : a.tmps[0]? = some (.pointer (some ⟨t, 0, none⟩)) := (hsm.other 0 (fun j hj e => by have e2 : j + 42 = 0 := e; omega)).trans rfl
            refine wpOp_plain rfl rfl ?_
            exact wp_val (by simp [e0, go_sem]) ⟨rfl, bl⟩
          · have e44 : a.tmps[44]? = some (.pointer (some ⟨t, 0, none⟩)) := hdep 2 (by kernel_rfl)
            refine wpOp_plain rfl rfl ?_
            exact wp_val (by simp [e44, go_sem]) ⟨rfl, bl⟩
          · have e45 : a.tmps[45]? = some (.pointer (some ⟨t, 0, none⟩)) := hdep 3 (by kernel_rfl)
            refine wpOp_plain rfl rfl ?_
            exact wp_val (by simp [e45, go_sem]) ⟨rfl, bl⟩
          · have e46 : a.tmps[46]? = some (.pointer (some ⟨t, 0, none⟩)) := hdep 4 (by kernel_rfl)
            refine wpOp_plain rfl rfl ?_
            exact wp_val (by simp [e46, go_sem]) ⟨rfl, bl⟩
          · have e47 : a.tmps[47]? = some (.pointer (some ⟨t, 0, none⟩)) := hdep 5 (by kernel_rfl)
            refine wpOp_plain rfl rfl ?_
            exact wp_val (by simp [e47, go_sem, hc.2.2.2.1]) ⟨rfl, bl⟩
          · have e43 : a.tmps[43]? = some (.slice sx.A x.name.length sx.c) := hdep 1 (by kernel_rfl)
            have e48 : a.tmps[48]? = some (.slice sq.A q.name.length sq.c) := hdep 6 (by kernel_rfl)
            refine wpOp_plain rfl rfl ?_
            generalize hK : (fun (a2 : Act) (w2 : World) => _) = K
            have v43 := eval_tmp e43
            have v48 := eval_tmp e48
            go_simp
            refine (HEQ.out w4 hbw).mono ?_
            rintro e w5 ⟨v5, rfl, rfl, hb5⟩
            rw [← hK]
            exact ⟨rfl, hb5⟩
          · have e49 : a.tmps[49]? = some (.bool true) := hdep 7 (by kernel_rfl)
            refine wpOp_plain rfl rfl ?_
            exact wp_val (by simp [e49, go_sem]) ⟨rfl, bl⟩
          · have eg : a.tmps[50]? = some (.bool true) := hdep 8 (by kernel_rfl)
            have e4 : a.tmps[4]? = some (.pointer (some ⟨g3, 0, none⟩)) := (hsm.other 4 (fun j hj e => by have e2 : j + 42 = 4 := e; omega)).trans rfl
            refine wpOp_yes rfl rfl (yields_of rfl eg) ?_
            exact wp_val (by simp [e4, go_sem]) ⟨rfl, bl⟩
          · have eg : a.tmps[50]? = some (.bool true) := hdep 8 (by kernel_rfl)
            have e51 : a.tmps[51]? = some (.pointer (some ⟨g3, 1, none⟩)) := hdep 9 (by kernel_rfl)
            refine wpOp_yes rfl rfl (yields_of rfl eg) ?_
            exact wp_val (by simp [e51, go_sem, hc.2.1]) ⟨rfl, bl⟩
          · have eg : a.tmps[50]? = some (.bool true) := hdep 8 (by kernel_rfl)
            have e0 : a.tmps[0]? = some (.pointer (some ⟨t, 0, none⟩)) := (hsm.other 0 (fun j hj e => by have e2 : j + 42 = 0 := e; omega)).trans rfl
            refine wpOp_yes rfl rfl (yields_of rfl eg) ?_
            exact wp_val (by simp [e0, go_sem]) ⟨rfl, bl⟩
          · have eg : a.tmps[50]? = some (.bool true) := hdep 8 (by kernel_rfl)
            have e53 : a.tmps[53]? = some (.pointer (some ⟨t, 0, none⟩)) := hdep 11 (by kernel_rfl)
            refine wpOp_yes rfl rfl (yields_of rfl eg) ?_
            exact wp_val (by simp [e53, go_sem]) ⟨rfl, bl⟩
          · have eg : a.tmps[50]? = some (.bool true) := hdep 8 (by kernel_rfl)
            have e54 : a.tmps[54]? = some (.pointer (some ⟨t, 0, none⟩)) := hdep 12 (by kernel_rfl)
            refine wpOp_yes rfl rfl (yields_of rfl eg) ?_
            exact wp_val (by simp [e54, go_sem]) ⟨rfl, bl⟩
          · have eg : a.tmps[50]? = some (.bool true) := hdep 8 (by kernel_rfl)
            have e55 : a.tmps[55]? = some (.pointer (some ⟨t, 0, none⟩)) := hdep 13 (by kernel_rfl)
            refine wpOp_yes rfl rfl (yields_of rfl eg) ?_
            exact wp_val (by simp [e55, go_sem]) ⟨rfl, bl⟩
          · have eg : a.tmps[50]? = some (.bool true) := hdep 8 (by kernel_rfl)
            have e56 : a.tmps[56]? = some (.pointer (some ⟨t, 1, none⟩)) := hdep 14 (by kernel_rfl)
            refine wpOp_yes rfl rfl (yields_of rfl eg) ?_
            exact wp_val (by simp [e56, go_sem, hc.2.2.2.2.1]) ⟨rfl, bl⟩
          · have eg : a.tmps[50]? = some (.bool true) := hdep 8 (by kernel_rfl)
            have e52 : a.tmps[52]? = some (.int .i64 x.type) := hdep 10 (by kernel_rfl)
            have e57 : a.tmps[57]? = some (.int .i64 q.type) := hdep 15 (by kernel_rfl)
            refine wpOp_yes rfl rfl (yields_of rfl eg) ?_
            exact wp_val (by simp [e52, e57, go_sem, htb]) ⟨rfl, bl⟩
          · have e50 : a.tmps[50]? = some (.bool true) := hdep 8 (by kernel_rfl)
            have e58 : a.tmps[58]? = some (.bool true) := hdep 16 (by kernel_rfl)
            refine wpOp_plain rfl rfl ?_
            exact wp_val (by simp [e50, e58, go_sem]) ⟨rfl, bl⟩
          · have e59 : a.tmps[59]? = some (.bool true) := hdep 17 (by kernel_rfl)
            refine wpOp_plain rfl rfl ?_
            exact wp_val (by simp [e59, go_sem]) ⟨rfl, bl⟩
          · have eg : a.tmps[60]? = some (.bool true) := hdep 18 (by kernel_rfl)
            have e4 : a.tmps[4]? = some (.pointer (some ⟨g3, 0, none⟩)) := (hsm.other 4 (fun j hj e => by have e2 : j + 42 = 4 := e; omega)).trans rfl
            refine wpOp_yes rfl rfl (yields_of rfl eg) ?_
            exact wp_val (by simp [e4, go_sem]) ⟨rfl, bl⟩
          · have eg : a.tmps[60]? = some (.bool true) := hdep 18 (by kernel_rfl)
            have e61 : a.tmps[61]? = some (.pointer (some ⟨g3, 2, none⟩)) := hdep 19 (by kernel_rfl)
            refine wpOp_yes rfl rfl (yields_of rfl eg) ?_
            exact wp_val (by simp [e61, go_sem, hc.2.2.1]) ⟨rfl, bl⟩
          · have eg : a.tmps[60]? = some (.bool true) := hdep 18 (by kernel_rfl)
            have e0 : a.tmps[0]? = some (.pointer (some ⟨t, 0, none⟩)) := (hsm.other 0 (fun j hj e => by have e2 : j + 42 = 0 := e; omega)).trans rfl
            refine wpOp_yes rfl rfl (yields_of rfl eg) ?_
            exact wp_val (by simp [e0, go_sem]) ⟨rfl, bl⟩
          · have eg : a.tmps[60]? = some (.bool true) := hdep 18 (by kernel_rfl)
            have e63 : a.tmps[63]? = some (.pointer (some ⟨t, 0, none⟩)) := hdep 21 (by kernel_rfl)
            refine wpOp_yes rfl rfl (yields_of rfl eg) ?_
            exact wp_val (by simp [e63, go_sem]) ⟨rfl, bl⟩
          · have eg : a.tmps[60]? = some (.bool true) := hdep 18 (by kernel_rfl)
            have e64 : a.tmps[64]? = some (.pointer (some ⟨t, 0, none⟩)) := hdep 22 (by kernel_rfl)
            refine wpOp_yes rfl rfl (yields_of rfl eg) ?_
            exact wp_val (by simp [e64, go_sem]) ⟨rfl, bl⟩
          · have eg : a.tmps[60]? = some (.bool true) := hdep 18 (by kernel_rfl)
            have e65 : a.tmps[65]? = some (.pointer (some ⟨t, 0, none⟩)) := hdep 23 (by kernel_rfl)
            refine wpOp_yes rfl rfl (yields_of rfl eg) ?_
            exact wp_val (by simp [e65, go_sem]) ⟨rfl, bl⟩
          · have eg : a.tmps[60]? = some (.bool true) := hdep 18 (by kernel_rfl)
            have e66 : a.tmps[66]? = some (.pointer (some ⟨t, 2, none⟩)) := hdep 24 (by kernel_rfl)
            refine wpOp_yes rfl rfl (yields_of rfl eg) ?_
            exact wp_val (by simp [e66, go_sem, hc.2.2.2.2.2]) ⟨rfl, bl⟩
          · have eg : a.tmps[60]? = some (.bool true) := hdep 18 (by kernel_rfl)
            have e62 : a.tmps[62]? = some (.int .i64 x.cls) := hdep 20 (by kernel_rfl)
            have e67 : a.tmps[67]? = some (.int .i64 q.cls) := hdep 25 (by kernel_rfl)
            refine wpOp_yes rfl rfl (yields_of rfl eg) ?_
            exact wp_val (by simp [e62, e67, go_sem, hcb]) ⟨rfl, bl⟩
          · have e60 : a.tmps[60]? = some (.bool true) := hdep 18 (by kernel_rfl)
            have e68 : a.tmps[68]? = some (.bool false) := hdep 26 (by kernel_rfl)
            refine wpOp_plain rfl rfl ?_
            exact wp_val (by simp [e60, e68, go_sem]) ⟨rfl, bl⟩
        · intro a w4 hbw hsm hdep
          have e69 : a.tmps[69]? = some (.bool false) := hdep 27 (by decide)
          refine wpOp_plain rfl rfl ?_
          unfold Oper.wp execOp
          simp [e69, go_sem]
          go_wp2
          refine bodyPost_ret (v := .bool false) ?_ hsm.defers ⟨_, rfl, by rw [← HNB.out, HT.out, HC.out]; rfl, nx HB3.out hbw⟩
          have hsz : a.tmps.size = 70 := hsm.size.trans rfl
          simp [results, Try.results69, hsz]
      | true =>
        have HC := Lib.hid (HCB.out.trans hcb)
        refine wp_region_vals (n := 28) (by kernel_rfl) (by kernel_rfl) (by kernel_rfl) rfl (by kernel_rfl) (fun i => i + 42) (fun i hi => by show i + 42 < 70; omega) (fun i j _ _ e => by have e2 : i + 42 = j + 42 := e; omega) (fun i => ([.pointer (some ⟨g3, 0, none⟩), .slice sx.A x.name.length sx.c, .pointer (some ⟨t, 0, none⟩), .pointer (some ⟨t, 0, none⟩), .pointer (some ⟨t, 0, none⟩), .pointer (some ⟨t, 0, none⟩), .slice sq.A q.name.length sq.c, .bool true, .bool true, .pointer (some ⟨g3, 1, none⟩), .int .i64 x.type, .pointer (some ⟨t, 0, none⟩), .pointer (some ⟨t, 0, none⟩), .pointer (some ⟨t, 0, none⟩), .pointer (some ⟨t, 1, none⟩), .int .i64 q.type, .bool true, .bool true, .bool true, .pointer (some ⟨g3, 2, none⟩), .int .i64 x.cls, .pointer (some ⟨t, 0, none⟩), .pointer (some ⟨t, 0, none⟩), .pointer (some ⟨t, 0, none⟩), .pointer (some ⟨t, 2, none⟩), .int .i64 q.cls, .bool true, .bool true] : List Value).getD i undef) ?_ ?_
        · intro i hi a w4 hbw hsm hdep
          have hc := HQQ.out w4 hbw
          have hcases : i = 0 ∨ i = 1 ∨ i = 2 ∨ i = 3 ∨ i = 4 ∨ i = 5 ∨ i = 6 ∨ i = 7 ∨ i = 8 ∨ i = 9 ∨ i = 10 ∨ i = 11 ∨ i = 12 ∨ i = 13 ∨ i = 14 ∨ i = 15 ∨ i = 16 ∨ i = 17 ∨ i = 18 ∨ i = 19 ∨ i = 20 ∨ i = 21 ∨ i = 22 ∨ i = 23 ∨ i = 24 ∨ i = 25 ∨ i = 26 ∨ i = 27 := by omega
          rcases hcases with rfl | rfl | rfl | rfl | rfl | rfl | rfl | rfl | rfl | rfl | rfl | rfl | rfl | rfl | rfl | rfl | rfl | rfl | rfl | rfl | rfl | rfl | rfl | rfl | rfl | rfl | rfl | rfl
          · have e4 : a.tmps[4]? = some (.pointer (some ⟨g3, 0, none⟩)) := (hsm.other 4 (fun j hj e => by have e2 : j + 42 = 4 := e; omega)).trans rfl
            refine wpOp_plain rfl rfl ?_
            exact wp_val (by simp [e4, go_sem]) ⟨rfl, bl⟩
          · have e42 : a.tmps[42]? = some (.pointer (some ⟨g3, 0, none⟩)) := hdep 0 (by kernel_rfl)
            refine wpOp_plain rfl rfl ?_
            exact wp_val (by simp [e42, go_sem, hc.1]) ⟨rfl, bl⟩
          · have e0 : a.tmps[0]? = some (.pointer (some ⟨t, 0, none⟩)) := (hsm.other 0 (fun j hj e => by have e2 : j + 42 = 0 := e; omega)).trans rfl
            refine wpOp_plain rfl rfl ?_
            exact wp_val (by simp [e0, go_sem]) ⟨rfl, bl⟩
          · have e44 : a.tmps[44]? = some (.pointer (some ⟨t, 0, none⟩)) := hdep 2 (by kernel_rfl)
            refine wpOp_plain rfl rfl ?_
            exact wp_val (by simp [e44, go_sem]) ⟨rfl, bl⟩
          · have e45 : a.tmps[45]? = some (.pointer (some ⟨t, 0, none⟩)) := hdep 3 (by kernel_rfl)
            refine wpOp_plain rfl rfl ?_
            exact wp_val (by simp [e45, go_sem]) ⟨rfl, bl⟩
          · have e46 : a.tmps[46]? = some (.pointer (some ⟨t, 0, none⟩)) := hdep 4 (by kernel_rfl)
            refine wpOp_plain rfl rfl ?_
            exact wp_val (by simp [e46, go_sem]) ⟨rfl, bl⟩
          · have e47 : a.tmps[47]? = some (.pointer (some ⟨t, 0, none⟩)) := hdep 5 (by kernel_rfl)
            refine wpOp_plain rfl rfl ?_
            exact wp_val (by simp [e47, go_sem, hc.2.2.2.1]) ⟨rfl, bl⟩
          · have e43 : a.tmps[43]? = some (.slice sx.A x.name.length sx.c) := hdep 1 (by kernel_rfl)
            have e48 : a.tmps[48]? = some (.slice sq.A q.name.length sq.c) := hdep 6 (by kernel_rfl)
            refine wpOp_plain rfl rfl ?_
            generalize hK : (fun (a2 : Act) (w2 : World) => _) = K
            have v43 := eval_tmp e43
            have v48 := eval_tmp e48
            go_simp
            refine (HEQ.out w4 hbw).mono ?_
            rintro e w5 ⟨v5, rfl, rfl, hb5⟩
            rw [← hK]
            exact ⟨rfl, hb5⟩
          · have e49 : a.tmps[49]? = some (.bool true) := hdep 7 (by kernel_rfl)
            refine wpOp_plain rfl rfl ?_
            exact wp_val (by simp [e49, go_sem]) ⟨rfl, bl⟩
          · have eg : a.tmps[50]? = some (.bool true) := hdep 8 (by kernel_rfl)
            have e4 : a.tmps[4]? = some (.pointer (some ⟨g3, 0, none⟩)) := (hsm.other 4 (fun j hj e => by have e2 : j + 42 = 4 := e; omega)).trans rfl
            refine wpOp_yes rfl rfl (yields_of rfl eg) ?_
            exact wp_val (by simp [e4, go_sem]) ⟨rfl, bl⟩
          · have eg : a.tmps[50]? = some (.bool true) := hdep 8 (by kernel_rfl)
            have e51 : a.tmps[51]? = some (.pointer (some ⟨g3, 1, none⟩)) := hdep 9 (by kernel_rfl)
            refine wpOp_yes rfl rfl (yields_of rfl eg) ?_
            exact wp_val (by simp [e51, go_sem, hc.2.1]) ⟨rfl, bl⟩
          · have eg : a.tmps[50]? = some (.bool true) := hdep 8 (by kernel_rfl)
            have e0 : a.tmps[0]? = some (.pointer (some ⟨t, 0, none⟩)) := (hsm.other 0 (fun j hj e => by have e2 : j + 42 = 0 := e; omega)).trans rfl
            refine wpOp_yes rfl rfl (yields_of rfl eg) ?_
            exact wp_val (by simp [e0, go_sem]) ⟨rfl, bl⟩
          · have eg : a.tmps[50]? = some (.bool true) := hdep 8 (by kernel_rfl)
            have e53 : a.tmps[53]? = some (.pointer (some ⟨t, 0, none⟩)) := hdep 11 (by kernel_rfl)
            refine wpOp_yes rfl rfl (yields_of rfl eg) ?_
            exact wp_val (by simp [e53, go_sem]) ⟨rfl, bl⟩
          · have eg : a.tmps[50]? = some (.bool true) := hdep 8 (by kernel_rfl)
            have e54 : a.tmps[54]? = some (.pointer (some ⟨t, 0, none⟩)) := hdep 12 (by kernel_rfl)
            refine wpOp_yes rfl rfl (yields_of rfl eg) ?_
            exact wp_val (by simp [e54, go_sem]) ⟨rfl, bl⟩
          · have eg : a.tmps[50]? = some (.bool true) := hdep 8 (by kernel_rfl)
            have e55 : a.tmps[55]? = some (.pointer (some ⟨t, 0, none⟩)) := hdep 13 (by kernel_rfl)
            refine wpOp_yes rfl rfl (yields_of rfl eg) ?_
            exact wp_val (by simp [e55, go_sem]) ⟨rfl, bl⟩
          · have eg : a.tmps[50]? = some (.bool true) := hdep 8 (by kernel_rfl)
            have e56 : a.tmps[56]? = some (.pointer (some ⟨t, 1, none⟩)) := hdep 14 (by kernel_rfl)
            refine wpOp_yes rfl rfl (yields_of rfl eg) ?_
            exact wp_val (by simp [e56, go_sem, hc.2.2.2.2.1]) ⟨rfl, bl⟩
          · have eg : a.tmps[50]? = some (.bool true) := hdep 8 (by kernel_rfl)
            have e52 : a.tmps[52]? = some (.int .i64 x.type) := hdep 10 (by kernel_rfl)
            have e57 : a.tmps[57]? = some (.int .i64 q.type) := hdep 15 (by kernel_rfl)
            refine wpOp_yes rfl rfl (yields_of rfl eg) ?_
            exact wp_val (by simp [e52, e57, go_sem, htb]) ⟨rfl, bl⟩
          · have e50 : a.tmps[50]? = some (.bool true) := hdep 8 (by kernel_rfl)
            have e58 : a.tmps[58]? = some (.bool true) := hdep 16 (by kernel_rfl)
            refine wpOp_plain rfl rfl ?_
            exact wp_val (by simp [e50, e58, go_sem]) ⟨rfl, bl⟩
          · have e59 : a.tmps[59]? = some (.bool true) := hdep 17 (by kernel_rfl)
            refine wpOp_plain rfl rfl ?_
            exact wp_val (by simp [e59, go_sem]) ⟨rfl, bl⟩
          · have eg : a.tmps[60]? = some (.bool true) := hdep 18 (by kernel_rfl)
            have e4 : a.tmps[4]? = some (.pointer (some ⟨g3, 0, none⟩)) := (hsm.other 4 (fun j hj e => by have e2 : j + 42 = 4 := e; omega)).trans rfl
            refine wpOp_yes rfl rfl (yields_of rfl eg) ?_
            exact wp_val (by simp [e4, go_sem]) ⟨rfl, bl⟩
          · have eg : a.tmps[60]? = some (.bool true) := hdep 18 (by kernel_rfl)
            have e61 : a.tmps[61]? = some (.pointer (some ⟨g3, 2, none⟩)) := hdep 19 (by kernel_rfl)
            refine wpOp_yes rfl rfl (yields_of rfl eg) ?_
            exact wp_val (by simp [e61, go_sem, hc.2.2.1]) ⟨rfl, bl⟩
          · have eg : a.tmps[60]? = some (.bool true) := hdep 18 (by kernel_rfl)
            have e0 : a.tmps[0]? = some (.pointer (some ⟨t, 0, none⟩)) := (hsm.other 0 (fun j hj e => by have e2 : j + 42 = 0 := e; omega)).trans rfl
            refine wpOp_yes rfl rfl (yields_of rfl eg) ?_
            exact wp_val (by simp [e0, go_sem]) ⟨rfl, bl⟩
          · have eg : a.tmps[60]? = some (.bool true) := hdep 18 (by kernel_rfl)
            have e63 : a.tmps[63]? = some (.pointer (some ⟨t, 0, none⟩)) := hdep 21 (by kernel_rfl)
            refine wpOp_yes rfl rfl (yields_of rfl eg) ?_
            exact wp_val (by simp [e63, go_sem]) ⟨rfl, bl⟩
          · have eg : a.tmps[60]? = some (.bool true) := hdep 18 (by kernel_rfl)
            have e64 : a.tmps[64]? = some (.pointer (some ⟨t, 0, none⟩)) := hdep 22 (by kernel_rfl)
            refine wpOp_yes rfl rfl (yields_of rfl eg) ?_
            exact wp_val (by simp [e64, go_sem]) ⟨rfl, bl⟩
          · have eg : a.tmps[60]? = some (.bool true) := hdep 18 (by kernel_rfl)
            have e65 : a.tmps[65]? = some (.pointer (some ⟨t, 0, none⟩)) := hdep 23 (by kernel_rfl)
            refine wpOp_yes rfl rfl (yields_of rfl eg) ?_
            exact wp_val (by simp [e65, go_sem]) ⟨rfl, bl⟩
          · have eg : a.tmps[60]? = some (.bool true) := hdep 18 (by kernel_rfl)
            have e66 : a.tmps[66]? = some (.pointer (some ⟨t, 2, none⟩)) := hdep 24 (by kernel_rfl)
            refine wpOp_yes rfl rfl (yields_of rfl eg) ?_
            exact wp_val (by simp [e66, go_sem, hc.2.2.2.2.2]) ⟨rfl, bl⟩
          · have eg : a.tmps[60]? = some (.bool true) := hdep 18 (by kernel_rfl)
            have e62 : a.tmps[62]? = some (.int .i64 x.cls) := hdep 20 (by kernel_rfl)
            have e67 : a.tmps[67]? = some (.int .i64 q.cls) := hdep 25 (by kernel_rfl)
            refine wpOp_yes rfl rfl (yields_of rfl eg) ?_
            exact wp_val (by simp [e62, e67, go_sem, hcb]) ⟨rfl, bl⟩
          · have e60 : a.tmps[60]? = some (.bool true) := hdep 18 (by kernel_rfl)
            have e68 : a.tmps[68]? = some (.bool true) := hdep 26 (by kernel_rfl)
            refine wpOp_plain rfl rfl ?_
            exact wp_val (by simp [e60, e68, go_sem]) ⟨rfl, bl⟩
        · intro a w4 hbw hsm hdep
          have e69 : a.tmps[69]? = some (.bool true) := hdep 27 (by decide)
          refine wpOp_plain rfl rfl ?_
          unfold Oper.wp execOp
          simp [e69, go_sem]
          go_wp2
          refine bodyPost_ret (v := .bool true) ?_ hsm.defers ⟨_, rfl, by rw [← HNB.out, HT.out, HC.out]; rfl, nx HB3.out hbw⟩
          have hsz : a.tmps.size = 70 := hsm.size.trans rfl
          simp [results, Try.results69, hsz]
set_option maxHeartbeats 8000000 in
theorem asked_one_q3 (t : Nat) (sq : QS) (q : Qu) (sm : MS) (m : Ms) (Z : Option Addr) (nz cz : Nat) (now : Int) (out : Value) (w : World) {S : Nat → Prop} (hT : TRow w t sq q sm m Z nz cz now out) (hm : MIn S w sm m) (hq : QIn S w sq q) (hS : ∀ b, S b → b < w.heap.size) (hL : LtM m) (hf : fineM m = true) (h1 : m.resp = true) (h2 : m.op = 0) (h3 : m.rcode = 3) (x : Qu) (hqs : m.qs = [x]) :
    Calls Try.prog 69 #[.pointer (some ⟨t, 0, none⟩)] w (RetP (fun v _ => v = .bool (decide (lowN x.name = lowN q.name) && decide (x.type = q.type) && decide (x.cls = q.cls))) w) := by
  obtain ⟨w1, hw1⟩ : ∃ w1, w1 = w.alloc (.cells (mCells sm m) 31) := ⟨_, rfl⟩
  have hb1 : Below w.heap.size w w1 := by rw [hw1]; exact bl.alloc (Nat.le_refl _) _
  have HR1 : Hid (MRow w1 w.heap.size sm m) := by show MRow _ _ _ _; rw [hw1]; exact MRow.made w sm m
  have HB1 := Lib.hid hb1
  have HTW : Hid (∀ u, Below w.heap.size w u → TRow u t sq q sm m Z nz cz now out) := fun u hu => hT.below hu
  have HSN := Lib.hid (mSound_any sm m w1 (hm.below hb1 hS) (fun b hb => Nat.lt_of_lt_of_le (hS b hb) hb1.size) hL)
  have c0 : w.cell? ⟨t, 3, none⟩ = some (.int .i64 m.id) := (hT.cell 3).trans rfl
  have c1 : w.cell? ⟨t, 4, none⟩ = some (.bool m.resp) := (hT.cell 4).trans rfl
  have c2 : w.cell? ⟨t, 5, none⟩ = some (.int .i64 m.op) := (hT.cell 5).trans rfl
  have c3 : w.cell? ⟨t, 6, none⟩ = some (.bool m.aa) := (hT.cell 6).trans rfl
  have c4 : w.cell? ⟨t, 7, none⟩ = some (.bool m.tc) := (hT.cell 7).trans rfl
  have c5 : w.cell? ⟨t, 8, none⟩ = some (.bool m.rd) := (hT.cell 8).trans rfl
  have c6 : w.cell? ⟨t, 9, none⟩ = some (.bool m.ra) := (hT.cell 9).trans rfl
  have c7 : w.cell? ⟨t, 10, none⟩ = some (.int .i64 m.rcode) := (hT.cell 10).trans rfl
  have c8 : w.cell? ⟨t, 11, none⟩ = some (.slice sm.Q m.qs.length sm.qc) := (hT.cell 11).trans rfl
  have c9 : w.cell? ⟨t, 12, none⟩ = some (.slice sm.A m.an.length sm.ac) := (hT.cell 12).trans rfl
  have c10 : w.cell? ⟨t, 13, none⟩ = some (.slice sm.U m.au.length sm.uc) := (hT.cell 13).trans rfl
  have c11 : w.cell? ⟨t, 14, none⟩ = some (.slice sm.X m.ex.length sm.xc) := (hT.cell 14).trans rfl
  have c12 : w.cell? ⟨t, 15, none⟩ = some (.bool m.edns) := (hT.cell 15).trans rfl
  have c13 : w.cell? ⟨t, 16, none⟩ = some (.int .i64 m.size) := (hT.cell 16).trans rfl
  unfold mCells at hw1
  rw [hf] at HSN
  have H1 := Lib.hid h1
  have H2 := Lib.hid h2
  have H3 := Lib.hid h3
  have hq1 : m.qs.length = 1 := by rw [hqs]; rfl
  have HQ1 := Lib.hid hq1
  have HI1 := Lib.hid (hm.below hb1 hS)
  have HS1 : Hid (∀ b, S b → b < w1.heap.size) := fun b hb => Nat.lt_of_lt_of_le (hS b hb) hb1.size
  have HQI := Lib.hid (hq.below hb1 hS)
  have HQS := Lib.hid hqs
  have HLN : Hid (x.name.length ≤ 1000000000 ∧ q.name.length ≤ maxLen) := ⟨hL.qn x (by rw [hqs]; exact List.mem_singleton.2 rfl), Nat.le_trans hq.cn.1 hq.cn.2⟩
  clear hf h1 h2 h3 hqs hq1
  clear hT hm hq hS hb1 hL
  go_enter Try.func69, Try.ntmps69
  go_upto_region 2 with (fail)
  rw [← hw1]
  clear hw1 c0 c1 c2 c3 c4 c5 c6 c7 c8 c9 c10 c11 c12 c13
  obtain ⟨z0, z1, z2, z3, z4, z5, z6, z7, z8, z9, z10, z11, z12, z13⟩ := HR1.out.cells
  unfold msV mCells at HSN
  go_upto_region 4 with (first
    | (go_at_call 119; refine HSN.out.mono ?_; rintro e w2 ⟨v2, rfl, rfl, hb2⟩; have HB12 := Lib.hid hb2; have HB2 := Lib.hid (nx HB1.out hb2); obtain ⟨z0, z1, z2, z3, z4, z5, z6, z7, z8, z9, z10, z11, z12, z13⟩ := (HR1.out.below hb2).cells; rw [H1.out] at z1; rw [H2.out] at z2; rw [H3.out] at z7; rw [HQ1.out] at z8; clear hb2)
    | fail)
  obtain ⟨b8, o8, sx, hQA, -, hxi, hxc⟩ := qu_at (HI1.out.below HB12.out HS1.out).q (k := 0) (r := x) (by rw [HQS.out]; rfl)
  rw [show o8 + 0 * 3 = o8 by omega] at hxc
  rw [hQA] at z8
  obtain ⟨e0, e1, e2⟩ := hxc
  have HXI := Lib.hid hxi
  clear hxi hQA z0 z1 z2 z3 z4 z5 z6 z7 z9 z10 z11 z12 z13
  go_upto_region 5 with (fail)
  obtain ⟨w3, hw3⟩ : ∃ u, u = w2.alloc (.cells (qCells sx x) 25) := ⟨_, rfl⟩
  have hb3 : Below w2.heap.size w2 w3 := by rw [hw3]; exact bl.alloc (Nat.le_refl _) _
  have HQR : Hid (QRow w3 w2.heap.size sx x) := by show QRow _ _ _ _; rw [hw3]; exact QRow.made w2 sx x
  have HB23 := Lib.hid hb3
  have HB3 : Hid (Below w.heap.size w w3) := nx HB2.out hb3
  have hS2 : ∀ b, S b → b < w2.heap.size := fun b hb => Nat.lt_of_lt_of_le (HS1.out b hb) HB12.out.size
  have HXE : Hid (RdE encS w3 sx.A x.name.length x.name) := (HXI.out.below hb3 hS2).n.mono (fun b hb => Nat.lt_of_lt_of_le (hS2 b hb) hb3.size) (fun b hb => Nat.lt_of_lt_of_le (hS2 b hb) hb3.size)
  have HQE : Hid (RdE encS w3 sq.A q.name.length q.name) := ((HQI.out.below HB12.out HS1.out).below hb3 hS2).n.mono (fun b hb => Nat.lt_of_lt_of_le (hS2 b hb) hb3.size) (fun b hb => Nat.lt_of_lt_of_le (hS2 b hb) hb3.size)
  unfold qCells at hw3
  rw [← hw3]
  clear hw3 hb3 e0 e1 e2 z8
  generalize w2.heap.size = g3 at HQR ⊢
  have q0 : ∀ w', Below w3.heap.size w3 w' → (w'.cell? ⟨g3, 0, none⟩ = some (.slice sx.A x.name.length sx.c) ∧ w'.cell? ⟨g3, 1, none⟩ = some (.int .i64 x.type) ∧ w'.cell? ⟨g3, 2, none⟩ = some (.int .i64 x.cls) ∧ w'.cell? ⟨t, 0, none⟩ = some (.slice sq.A q.name.length sq.c) ∧ w'.cell? ⟨t, 1, none⟩ = some (.int .i64 q.type) ∧ w'.cell? ⟨t, 2, none⟩ = some (.int .i64 q.cls)) := fun w' hw => by
    obtain ⟨a0, a1, a2⟩ := (HQR.out.below hw).cells
    have h := HTW.out w' (nx HB3.out hw)
    exact ⟨a0, a1, a2, (h.cell 0).trans rfl, (h.cell 1).trans rfl, (h.cell 2).trans rfl⟩
  have q1 := q0 w3 bl
  have q2 := q0 w3.drew bl.drew
  have HQQ := Lib.hid q0
  have HEQ : Hid (∀ u, Below w3.heap.size w3 u → Calls Try.prog 55 #[.slice sx.A x.name.length sx.c, .slice sq.A q.name.length sq.c] u (RetP (fun v _ => v = .bool (decide (lowN x.name = lowN q.name))) u)) := fun u hu => nequal_any sx.A sq.A x.name.length sx.c q.name.length sq.c x.name q.name u (RdE.below HXE.out hu) (RdE.below HQE.out hu) (by have := HLN.out.1; unfold maxLen; omega) HLN.out.2
  have HTB : Hid (decide (x.type = q.type) = (x.type == q.type)) := by show _ = _; by_cases h : x.type = q.type <;> simp [h]
  have HCB : Hid (decide (x.cls = q.cls) = (x.cls == q.cls)) := by show _ = _; by_cases h : x.cls = q.cls <;> simp [h]
  obtain ⟨nb, hnb⟩ : ∃ nb, nb = decide (lowN x.name = lowN q.name) := ⟨_, rfl⟩
  rw [← hnb] at HEQ
  have HNB := Lib.hid hnb
  clear q0 hnb hS2
  cases nb with
  | false =>
    refine wp_region_vals (n := 28) (by kernel_rfl) (by kernel_rfl) (by kernel_rfl) rfl (by kernel_rfl) (fun i => i + 42) (fun i hi => by show i + 42 < 70; omega) (fun i j _ _ e => by have e2 : i + 42 = j + 42 := e; omega) (fun i => ([.pointer (some ⟨g3, 0, none⟩), .slice sx.A x.name.length sx.c, .pointer (some ⟨t, 0, none⟩), .pointer (some ⟨t, 0, none⟩), .pointer (some ⟨t, 0, none⟩), .pointer (some ⟨t, 0, none⟩), .slice sq.A q.name.length sq.c, .bool false, .bool false, undef, undef, undef, undef, undef, undef, undef, undef, .bool false, .bool false, undef, undef, undef, undef, undef, undef, undef, undef, .bool false] : List Value).getD i undef) ?_ ?_
    · intro i hi a w4 hbw hsm hdep
      have hc := HQQ.out w4 hbw
      have hcases : i = 0 ∨ i = 1 ∨ i = 2 ∨ i = 3 ∨ i = 4 ∨ i = 5 ∨ i = 6 ∨ i = 7 ∨ i = 8 ∨ i = 9 ∨ i = 10 ∨ i = 11 ∨ i = 12 ∨ i = 13 ∨ i = 14 ∨ i = 15 ∨ i = 16 ∨ i = 17 ∨ i = 18 ∨ i = 19 ∨ i = 20 ∨ i = 21 ∨ i = 22 ∨ i = 23 ∨ i = 24 ∨ i = 25 ∨ i = 26 ∨ i = 27 := by omega
      rcases hcases with rfl | rfl | rfl | rfl | rfl | rfl | rfl | rfl | rfl | rfl | rfl | rfl | rfl | rfl | rfl | rfl | rfl | rfl | rfl | rfl | rfl | rfl | rfl | rfl | rfl | rfl | rfl | rfl
      · have e4 : a.tmps[4]? = some (.pointer (some ⟨g3, 0, none⟩)) := (hsm.other 4 (fun j hj e => by have e2 : j + 42 = 4 := e; omega)).trans rfl
        refine wpOp_plain rfl rfl ?_
        exact wp_val (by simp [e4, go_sem]) ⟨rfl, bl⟩
      · have e42 : a.tmps[42]? = some (.pointer (some ⟨g3, 0, none⟩)) := hdep 0 (by kernel_rfl)
        refine wpOp_plain rfl rfl ?_
        exact wp_val (by simp [e42, go_sem, hc.1]) ⟨rfl, bl⟩
      · have e0 : a.tmps[0]? = some (.pointer (some ⟨t, 0, none⟩)) := (hsm.other 0 (fun j hj e => by have e2 : j + 42 = 0 := e; omega)).trans rfl
        refine wpOp_plain rfl rfl ?_
        exact wp_val (by simp [e0, go_sem]) ⟨rfl, bl⟩
      · have e44 : a.tmps[44]? = some (.pointer (some ⟨t, 0, none⟩)) := hdep 2 (by kernel_rfl)
        refine wpOp_plain rfl rfl ?_
        exact wp_val (by simp [e44, go_sem]) ⟨rfl, bl⟩
      · have e45 : a.tmps[45]? = some (.pointer (some ⟨t, 0, none⟩)) := hdep 3 (by kernel_rfl)
        refine wpOp_plain rfl rfl ?_
        exact wp_val (by simp [e45, go_sem]) ⟨rfl, bl⟩
      · have e46 : a.tmps[46]? = some (.pointer (some ⟨t, 0, none⟩)) := hdep 4 (by kernel_rfl)
        refine wpOp_plain rfl rfl ?_
        exact wp_val (by simp [e46, go_sem]) ⟨rfl, bl⟩
      · have e47 : a.tmps[47]? = some (.pointer (some ⟨t, 0, none⟩)) := hdep 5 (by kernel_rfl)
        refine wpOp_plain rfl rfl ?_
        exact wp_val (by simp [e47, go_sem, hc.2.2.2.1]) ⟨rfl, bl⟩
      · have e43 : a.tmps[43]? = some (.slice sx.A x.name.length sx.c) := hdep 1 (by kernel_rfl)
        have e48 : a.tmps[48]? = some (.slice sq.A q.name.length sq.c) := hdep 6 (by kernel_rfl)
        refine wpOp_plain rfl rfl ?_
        generalize hK : (fun (a2 : Act) (w2 : World) => _) = K
        have v43 := eval_tmp e43
        have v48 := eval_tmp e48
        go_simp
        refine (HEQ.out w4 hbw).mono ?_
        rintro e w5 ⟨v5, rfl, rfl, hb5⟩
        rw [← hK]
        exact ⟨rfl, hb5⟩
      · have e49 : a.tmps[49]? = some (.bool false) := hdep 7 (by kernel_rfl)
        refine wpOp_plain rfl rfl ?_
        exact wp_val (by simp [e49, go_sem]) ⟨rfl, bl⟩
      · have eg : a.tmps[50]? = some (.bool false) := hdep 8 (by kernel_rfl)
        exact wpOp_no rfl rfl (yields_of rfl eg) (by decide) ⟨rfl, bl⟩
      · have eg : a.tmps[50]? = some (.bool false) := hdep 8 (by kernel_rfl)
        exact wpOp_no rfl rfl (yields_of rfl eg) (by decide) ⟨rfl, bl⟩
      · have eg : a.tmps[50]? = some (.bool false) := hdep 8 (by kernel_rfl)
        exact wpOp_no rfl rfl (yields_of rfl eg) (by decide) ⟨rfl, bl⟩
      · have eg : a.tmps[50]? = some (.bool false) := hdep 8 (by kernel_rfl)
        exact wpOp_no rfl rfl (yields_of rfl eg) (by decide) ⟨rfl, bl⟩
      · have eg : a.tmps[50]? = some (.bool false) := hdep 8 (by kernel_rfl)
        exact wpOp_no rfl rfl (yields_of rfl eg) (by decide) ⟨rfl, bl⟩
      · have eg : a.tmps[50]? = some (.bool false) := hdep 8 (by kernel_rfl)
        exact wpOp_no rfl rfl (yields_of rfl eg) (by decide) ⟨rfl, bl⟩
      · have eg : a.tmps[50]? = some (.bool false) := hdep 8 (by kernel_rfl)
        exact wpOp_no rfl rfl (yields_of rfl eg) (by decide) ⟨rfl, bl⟩
      · have eg : a.tmps[50]? = some (.bool false) := hdep 8 (by kernel_rfl)
        exact wpOp_no rfl rfl (yields_of rfl eg) (by decide) ⟨rfl, bl⟩
      · have e50 : a.tmps[50]? = some (.bool false) := hdep 8 (by kernel_rfl)
        have e58 : a.tmps[58]? = some (undef) := hdep 16 (by kernel_rfl)
        refine wpOp_plain rfl rfl ?_
        exact wp_val (by simp [e50, e58, go_sem]) ⟨rfl, bl⟩
      · have e59 : a.tmps[59]? = some (.bool false) := hdep 17 (by kernel_rfl)
        refine wpOp_plain rfl rfl ?_
        exact wp_val (by simp [e59, go_sem]) ⟨rfl, bl⟩
      · have eg : a.tmps[60]? = some (.bool false) := hdep 18 (by kernel_rfl)
        exact wpOp_no rfl rfl (yields_of rfl eg) (by decide) ⟨rfl, bl⟩
      · have eg : a.tmps[60]? = some (.bool false) := hdep 18 (by kernel_rfl)
        exact wpOp_no rfl rfl (yields_of rfl eg) (by decide) ⟨rfl, bl⟩
      · have eg : a.tmps[60]? = some (.bool false) := hdep 18 (by kernel_rfl)
        exact wpOp_no rfl rfl (yields_of rfl eg) (by decide) ⟨rfl, bl⟩
      · have eg : a.tmps[60]? = some (.bool false) := hdep 18 (by kernel_rfl)
        exact wpOp_no rfl rfl (yields_of rfl eg) (by decide) ⟨rfl, bl⟩
      · have eg : a.tmps[60]? = some (.bool false) := hdep 18 (by kernel_rfl)
        exact wpOp_no rfl rfl (yields_of rfl eg) (by decide) ⟨rfl, bl⟩
      · have eg : a.tmps[60]? = some (.bool false) := hdep 18 (by kernel_rfl)
        exact wpOp_no rfl rfl (yields_of rfl eg) (by decide) ⟨rfl, bl⟩
      · have eg : a.tmps[60]? = some (.bool false) := hdep 18 (by kernel_rfl)
        exact wpOp_no rfl rfl (yields_of rfl eg) (by decide) ⟨rfl, bl⟩
      · have eg : a.tmps[60]? = some (.bool false) := hdep 18 (by kernel_rfl)
        exact wpOp_no rfl rfl (yields_of rfl eg) (by decide) ⟨rfl, bl⟩
      · have e60 : a.tmps[60]? = some (.bool false) := hdep 18 (by kernel_rfl)
        have e68 : a.tmps[68]? = some (undef) := hdep 26 (by kernel_rfl)
        refine wpOp_plain rfl rfl ?_
        exact wp_val (by simp [e60, e68, go_sem]) ⟨rfl, bl⟩
    · intro a w4 hbw hsm hdep
      have e69 : a.tmps[69]? = some (.bool false) := hdep 27 (by decide)
      refine wpOp_plain rfl rfl ?_
      unfold Oper.wp execOp
      simp [e69, go_sem]
      go_wp2
      refine bodyPost_ret (v := .bool false) ?_ hsm.defers ⟨_, rfl, by rw [← HNB.out]; rfl, nx HB3.out hbw⟩
      have hsz : a.tmps.size = 70 := hsm.size.trans rfl
      simp [results, Try.results69, hsz]
  | true =>
    cases htb : (x.type == q.type) with
    | false =>
      have HT := Lib.hid (HTB.out.trans htb)
      refine wp_region_vals (n := 28) (by kernel_rfl) (by kernel_rfl) (by kernel_rfl) rfl (by kernel_rfl) (fun i => i + 42) (fun i hi => by show i + 42 < 70; omega) (fun i j _ _ e => by have e2 : i + 42 = j + 42 := e; omega) (fun i => ([.pointer (some ⟨g3, 0, none⟩), .slice sx.A x.name.length sx.c, .pointer (some ⟨t, 0, none⟩), .pointer (some ⟨t, 0, none⟩), .pointer (some ⟨t, 0, none⟩), .pointer (some ⟨t, 0, none⟩), .slice sq.A q.name.length sq.c, .bool true, .bool true, .pointer (some ⟨g3, 1, none⟩), .int .i64 x.type, .pointer (some ⟨t, 0, none⟩), .pointer (some ⟨t, 0, none⟩), .pointer (some ⟨t, 0, none⟩), .pointer (some ⟨t, 1, none⟩), .int .i64 q.type, .bool false, .bool false, .bool false, undef, undef, undef, undef, undef, undef, undef, undef, .bool false] : List Value).getD i undef) ?_ ?_
      · intro i hi a w4 hbw hsm hdep
        have hc := HQQ.out w4 hbw
        have hcases : i = 0 ∨ i = 1 ∨ i = 2 ∨ i = 3 ∨ i = 4 ∨ i = 5 ∨ i = 6 ∨ i = 7 ∨ i = 8 ∨ i = 9 ∨ i = 10 ∨ i = 11 ∨ i = 12 ∨ i = 13 ∨ i = 14 ∨ i = 15 ∨ i = 16 ∨ i = 17 ∨ i = 18 ∨ i = 19 ∨ i = 20 ∨ i = 21 ∨ i = 22 ∨ i = 23 ∨ i = 24 ∨ i = 25 ∨ i = 26 ∨ i = 27 := by omega
        rcases hcases with rfl | rfl | rfl | rfl | rfl | rfl | rfl | rfl | rfl | rfl | rfl | rfl | rfl | rfl | rfl | rfl | rfl | rfl | rfl | rfl | rfl | rfl | rfl | rfl | rfl | rfl | rfl | rfl
        · have e4 : a.tmps[4]? = some (.pointer (some ⟨g3, 0, none⟩)) := (hsm.other 4 (fun j hj e => by have e2 : j + 42 = 4 := e; omega)).trans rfl
          refine wpOp_plain rfl rfl ?_
          exact wp_val (by simp [e4, go_sem]) ⟨rfl, bl⟩
        · have e42 : a.tmps[42]? = some (.pointer (some ⟨g3, 0, none⟩)) := hdep 0 (by kernel_rfl)
          refine wpOp_plain rfl rfl ?_
          exact wp_val (by simp [e42, go_sem, hc.1]) ⟨rfl, bl⟩
        · have e0 : a.tmps[0]? = some (.pointer (some ⟨t, 0, none⟩)) := (hsm.other 0 (fun j hj e => by have e2 : j + 42 = 0 := e; omega)).trans rfl
          refine wpOp_plain rfl rfl ?_
          exact wp_val (by simp [e0, go_sem]) ⟨rfl, bl⟩
        · have e44 : a.tmps[44]? = some (.pointer (some ⟨t, 0, none⟩)) := hdep 2 (by kernel_rfl)
          refine wpOp_plain rfl rfl ?_
          exact wp_val (by simp [e44, go_sem]) ⟨rfl, bl⟩
        · have e45 : a.tmps[45]? = some (.pointer (some ⟨t, 0, none⟩)) := hdep 3 (by kernel_rfl)
          refine wpOp_plain rfl rfl ?_
          exact wp_val (by simp [e45, go_sem]) ⟨rfl, bl⟩
        · have e46 : a.tmps[46]? = some (.pointer (some ⟨t, 0, none⟩)) := hdep 4 (by kernel_rfl)
          refine wpOp_plain rfl rfl ?_
          exact wp_val (by simp [e46, go_sem]) ⟨rfl, bl⟩
        · have e47 : a.tmps[47]? = some (.pointer (some ⟨t, 0, none⟩)) := hdep 5 (by kernel_rfl)
          refine wpOp_plain rfl rfl ?_
          exact wp_val (by simp [e47, go_sem, hc.2.2.2.1]) ⟨rfl, bl⟩
        · have e43 : a.tmps[43]? = some (.slice sx.A x.name.length sx.c) := hdep 1 (by kernel_rfl)
          have e48 : a.tmps[48]? = some (.slice sq.A q.name.length sq.c) := hdep 6 (by kernel_rfl)
          refine wpOp_plain rfl rfl ?_
          generalize hK : (fun (a2 : Act) (w2 : World) => _) = K
          have v43 := eval_tmp e43
          have v48 := eval_tmp e48
          go_simp
          refine (HEQ.out w4 hbw).mono ?_
          rintro e w5 ⟨v5, rfl, rfl, hb5⟩
          rw [← hK]
          exact ⟨rfl, hb5⟩
        · have e49 : a.tmps[49]? = some (.bool true) := hdep 7 (by kernel_rfl)
          refine wpOp_plain rfl rfl ?_
          exact wp_val (by simp [e49, go_sem]) ⟨rfl, bl⟩
        · have eg : a.tmps[50]? = some (.bool true) := hdep 8 (by kernel_rfl)
          have e4 : a.tmps[4]? = some (.pointer (some ⟨g3, 0, none⟩)) := (hsm.other 4 (fun j hj e => by have e2 : j + 42 = 4 := e; omega)).trans rfl
          refine wpOp_yes rfl rfl (yields_of rfl eg) ?_
          exact wp_val (by simp [e4, go_sem]) ⟨rfl, bl⟩
        · have eg : a.tmps[50]? = some (.bool true) := hdep 8 (by kernel_rfl)
          have e51 : a.tmps[51]? = some (.pointer (some ⟨g3, 1, none⟩)) := hdep 9 (by kernel_rfl)
          refine wpOp_yes rfl rfl (yields_of rfl eg) ?_
          exact wp_val (by simp [e51, go_sem, hc.2.1]) ⟨rfl, bl⟩
        · have eg : a.tmps[50]? = some (.bool true) := hdep 8 (by kernel_rfl)
          have e0 : a.tmps[0]? = some (.pointer (some ⟨t, 0, none⟩)) := (hsm.other 0 (fun j hj e => by have e2 : j + 42 = 0 := e; omega)).trans rfl
          refine wpOp_yes rfl rfl (yields_of rfl eg) ?_
          exact wp_val (by simp [e0, go_sem]) ⟨rfl, bl⟩
        · have eg : a.tmps[50]? = some (.bool true) := hdep 8 (by kernel_rfl)
          have e53 : a.tmps[53]? = some (.pointer (some ⟨t, 0, none⟩)) := hdep 11 (by kernel_rfl)
          refine wpOp_yes rfl rfl (yields_of rfl eg) ?_
          exact wp_val (by simp [e53, go_sem]) ⟨rfl, bl⟩
        · have eg : a.tmps[50]? = some (.bool true) := hdep 8 (by kernel_rfl)
          have e54 : a.tmps[54]? = some (.pointer (some ⟨t, 0, none⟩)) := hdep 12 (by kernel_rfl)
          refine wpOp_yes rfl rfl (yields_of rfl eg) ?_
          exact wp_val (by simp [e54, go_sem]) ⟨rfl, bl⟩
        · have eg : a.tmps[50]? = some (.bool true) := hdep 8 (by kernel_rfl)
          have e55 : a.tmps[55]? = some (.pointer (some ⟨t, 0, none⟩)) := hdep 13 (by kernel_rfl)
          refine wpOp_yes rfl rfl (yields_of rfl eg) ?_
          exact wp_val (by simp [e55, go_sem]) ⟨rfl, bl⟩
        · have eg : a.tmps[50]? = some (.bool true) := hdep 8 (by kernel_rfl)
          have e56 : a.tmps[56]? = some (.pointer (some ⟨t, 1, none⟩)) := hdep 14 (by kernel_rfl)
          refine wpOp_yes rfl rfl (yields_of rfl eg) ?_
          exact wp_val (by simp [e56, go_sem, hc.2.2.2.2.1]) ⟨rfl, bl⟩
        · have eg : a.tmps[50]? = some (.bool true) := hdep 8 (by kernel_rfl)
          have e52 : a.tmps[52]? = some (.int .i64 x.type) := hdep 10 (by kernel_rfl)
          have e57 : a.tmps[57]? = some (.int .i64 q.type) := hdep 15 (by kernel_rfl)
          refine wpOp_yes rfl rfl (yields_of rfl eg) ?_
          exact wp_val (by simp [e52, e57, go_sem, htb]) ⟨rfl, bl⟩
        · have e50 : a.tmps[50]? = some (.bool true) := hdep 8 (by kernel_rfl)
          have e58 : a.tmps[58]? = some (.bool false) := hdep 16 (by kernel_rfl)
          refine wpOp_plain rfl rfl ?_
          exact wp_val (by simp [e50, e58, go_sem]) ⟨rfl, bl⟩
        · have e59 : a.tmps[59]? = some (.bool false) := hdep 17 (by kernel_rfl)
          refine wpOp_plain rfl rfl ?_
          exact wp_val (by simp [e59, go_sem]) ⟨rfl, bl⟩
        · have eg : a.tmps[60]? = some (.bool false) := hdep 18 (by kernel_rfl)
          exact wpOp_no rfl rfl (yields_of rfl eg) (by decide) ⟨rfl, bl⟩
        · have eg : a.tmps[60]? = some (.bool false) := hdep 18 (by kernel_rfl)
          exact wpOp_no rfl rfl (yields_of rfl eg) (by decide) ⟨rfl, bl⟩
        · have eg : a.tmps[60]? = some (.bool false) := hdep 18 (by kernel_rfl)
          exact wpOp_no rfl rfl (yields_of rfl eg) (by decide) ⟨rfl, bl⟩
        · have eg : a.tmps[60]? = some (.bool false) := hdep 18 (by kernel_rfl)
          exact wpOp_no rfl rfl (yields_of rfl eg) (by decide) ⟨rfl, bl⟩
        · have eg : a.tmps[60]? = some (.bool false) := hdep 18 (by kernel_rfl)
          exact wpOp_no rfl rfl (yields_of rfl eg) (by decide) ⟨rfl, bl⟩
        · have eg : a.tmps[60]? = some (.bool false) := hdep 18 (by kernel_rfl)
          exact wpOp_no rfl rfl (yields_of rfl eg) (by decide) ⟨rfl, bl⟩
        · have eg : a.tmps[60]? = some (.bool false) := hdep 18 (by kernel_rfl)
          exact wpOp_no rfl rfl (yields_of rfl eg) (by decide) ⟨rfl, bl⟩
        · have eg : a.tmps[60]? = some (.bool false) := hdep 18 (by kernel_rfl)
          exact wpOp_no rfl rfl (yields_of rfl eg) (by decide) ⟨rfl, bl⟩
        · have e60 : a.tmps[60]? = some (.bool false) := hdep 18 (by kernel_rfl)
          have e68 : a.tmps[68]? = some (undef) := hdep 26 (by kernel_rfl)
          refine wpOp_plain rfl rfl ?_
          exact wp_val (by simp [e60, e68, go_sem]) ⟨rfl, bl⟩
      · intro a w4 hbw hsm hdep
        have e69 : a.tmps[69]? = some (.bool false) := hdep 27 (by decide)
        refine wpOp_plain rfl rfl ?_
        unfold Oper.wp execOp
        simp [e69, go_sem]
        go_wp2
        refine bodyPost_ret (v := .bool false) ?_ hsm.defers ⟨_, rfl, by rw [← HNB.out, HT.out]; rfl, nx HB3.out hbw⟩
        have hsz : a.tmps.size = 70 := hsm.size.trans rfl
        simp [results, Try.results69, hsz]
    | true =>
      have HT := Lib.hid (HTB.out.trans htb)
      cases hcb : (x.cls == q.cls) with
      | false =>
        have HC := Lib.hid (HCB.out.trans hcb)
        refine wp_region_vals (n := 28) (by kernel_rfl) (by kernel_rfl) (by kernel_rfl) rfl (by kernel_rfl) (fun i => i + 42) (fun i hi => by show i + 42 < 70; omega) (fun i j _ _ e => by have e2 : i + 42 = j + 42 := e; omega) (fun i => ([.pointer (some ⟨g3, 0, none⟩), .slice sx.A x.name.length sx.c, .pointer (some ⟨t, 0, none⟩), .pointer (some ⟨t, 0, none⟩), .pointer (some ⟨t, 0, none⟩), .pointer (some ⟨t, 0, none⟩), .slice sq.A q.name.length sq.c, .bool true, .bool true, .pointer (some ⟨g3, 1, none⟩), .int .i64 x.type, .pointer (some ⟨t, 0, none⟩), .pointer (some ⟨t, 0, none⟩), .pointer (some ⟨t, 0, none⟩), .pointer (some ⟨t, 1, none⟩), .int .i64 q.type, .bool true, .bool true, .bool true, .pointer (some ⟨g3, 2, none⟩), .int .i64 x.cls, .pointer (some ⟨t, 0, none⟩), .pointer (some ⟨t, 0, none⟩), .pointer (some ⟨t, 0, none⟩), .pointer (some ⟨t, 2, none⟩), .int .i64 q.cls, .bool false, .bool false] : List Value).getD i undef) ?_ ?_
        · intro i hi a w4 hbw hsm hdep
          have hc := HQQ.out w4 hbw
          have hcases : i = 0 ∨ i = 1 ∨ i = 2 ∨ i = 3 ∨ i = 4 ∨ i = 5 ∨ i = 6 ∨ i = 7 ∨ i = 8 ∨ i = 9 ∨ i = 10 ∨ i = 11 ∨ i = 12 ∨ i = 13 ∨ i = 14 ∨ i = 15 ∨ i = 16 ∨ i = 17 ∨ i = 18 ∨ i = 19 ∨ i = 20 ∨ i = 21 ∨ i = 22 ∨ i = 23 ∨ i = 24 ∨ i = 25 ∨ i = 26 ∨ i = 27 := by omega
          rcases hcases with rfl | rfl | rfl | rfl | rfl | rfl | rfl | rfl | rfl | rfl | rfl | rfl | rfl | rfl | rfl | rfl | rfl | rfl | rfl | rfl | rfl | rfl | rfl | rfl | rfl | rfl | rfl | rfl
          · have e4 : a.tmps[4]? = some (.pointer (some ⟨g3, 0, none⟩)) := (hsm.other 4 (fun j hj e => by have e2 : j + 42 = 4 := e; omega)).trans rfl
            refine wpOp_plain rfl rfl ?_
            exact wp_val (by simp [e4, go_sem]) ⟨rfl, bl⟩
          · have e42 : a.tmps[42]? = some (.pointer (some ⟨g3, 0, none⟩)) := hdep 0 (by kernel_rfl)
            refine wpOp_plain rfl rfl ?_
            exact wp_val (by simp [e42, go_sem, hc.1]) ⟨rfl, bl⟩
          · have e0 : a.tmps[0]? = some (.pointer (some ⟨t, 0, none⟩)) := (hsm.other 0 (fun j hj e => by have e2 : j + 42 = 0 := e; omega)).trans rfl
            refine wpOp_plain rfl rfl ?_
            exact wp_val (by simp [e0, go_sem]) ⟨rfl, bl⟩
          · have e44 : a.tmps[44]? = some (.pointer (some ⟨t, 0, none⟩)) := hdep 2 (by kernel_rfl)
            refine wpOp_plain rfl rfl ?_
            exact wp_val (by simp [e44, go_sem]) ⟨rfl, bl⟩
          · have e45 : a.tmps[45]? = some (.pointer (some ⟨t, 0, none⟩)) := hdep 3 (by kernel_rfl)
            refine wpOp_plain rfl rfl ?_
            exact wp_val (by simp [e45, go_sem]) ⟨rfl, bl⟩
          · have e46 : a.tmps[46]? = some (.pointer (some ⟨t, 0, none⟩)) := hdep 4 (by kernel_rfl)
            refine wpOp_plain rfl rfl ?_
            exact wp_val (by simp [e46, go_sem]) ⟨rfl, bl⟩
          · have e47 : a.tmps[47]? = some (.pointer (some ⟨t, 0, none⟩)) := hdep 5 (by kernel_rfl)
            refine wpOp_plain rfl rfl ?_
            exact wp_val (by simp [e47, go_sem, hc.2.2.2.1]) ⟨rfl, bl⟩
          · have e43 : a.tmps[43]? = some (.slice sx.A x.name.length sx.c) := hdep 1 (by kernel_rfl)
            have e48 : a.tmps[48]? = some (.slice sq.A q.name.length sq.c) := hdep 6 (by kernel_rfl)
            refine wpOp_plain rfl rfl ?_
            generalize hK : (fun (a2 : Act) (w2 : World) => _) = K
            have v43 := eval_tmp e43
            have v48 := eval_tmp e48
            go_simp
            refine (HEQ.out w4 hbw).mono ?_
            rintro e w5 ⟨v5, rfl, rfl, hb5⟩
            rw [← hK]
            exact ⟨rfl, hb5⟩
          · have e49 : a.tmps[49]? = some (.bool true) := hdep 7 (by kernel_rfl)
            refine wpOp_plain rfl rfl ?_
            exact wp_val (by simp [e49, go_sem]) ⟨rfl, bl⟩
          · have eg : a.tmps[50]? = some (.bool true) := hdep 8 (by kernel_rfl)
            have e4 : a.tmps[4]? = some (.pointer (some ⟨g3, 0, none⟩)) := (hsm.other 4 (fun j hj e => by have e2 : j + 42 = 4 := e; omega)).trans rfl
            refine wpOp_yes rfl rfl (yields_of rfl eg) ?_
            exact wp_val (by simp [e4, go_sem]) ⟨rfl, bl⟩
          · have eg : a.tmps[50]? = some (.bool true) := hdep 8 (by kernel_rfl)
            have e51 : a.tmps[51]? = some (.pointer (some ⟨g3, 1, none⟩)) := hdep 9 (by kernel_rfl)
            refine wpOp_yes rfl rfl (yields_of rfl eg) ?_
            exact wp_val (by simp [e51, go_sem, hc.2.1]) ⟨rfl, bl⟩
          · have eg : a.tmps[50]? = some (.bool true) := hdep 8 (by kernel_rfl)
            have e0 : a.tmps[0]? = some (.pointer (some ⟨t, 0, none⟩)) := (hsm.other 0 (fun j hj e => by have e2 : j + 42 = 0 := e; omega)).trans rfl
            refine wpOp_yes rfl rfl (yields_of rfl eg) ?_
            exact wp_val (by simp [e0, go_sem]) ⟨rfl, bl⟩
          · have eg : a.tmps[50]? = some (.bool true) := hdep 8 (by kernel_rfl)
            have e53 : a.tmps[53]? = some (.pointer (some ⟨t, 0, none⟩)) := hdep 11 (by kernel_rfl)
            refine wpOp_yes rfl rfl (yields_of rfl eg) ?_
            exact wp_val (by simp [e53, go_sem]) ⟨rfl, bl⟩
          · have eg : a.tmps[50]? = some (.bool true) := hdep 8 (by kernel_rfl)
            have e54 : a.tmps[54]? = some (.pointer (some ⟨t, 0, none⟩)) := hdep 12 (by kernel_rfl)
            refine wpOp_yes rfl rfl (yields_of rfl eg) ?_
            exact wp_val (by simp [e54, go_sem]) ⟨rfl, bl⟩
          · have eg : a.tmps[50]? = some (.bool true) := hdep 8 (by kernel_rfl)
            have e55 : a.tmps[55]? = some (.pointer (some ⟨t, 0, none⟩)) := hdep 13 (by kernel_rfl)
            refine wpOp_yes rfl rfl (yields_of rfl eg) ?_
            exact wp_val (by simp [e55, go_sem]) ⟨rfl, bl⟩
          · have eg : a.tmps[50]? = some (.bool true) := hdep 8 (by kernel_rfl)
            have e56 : a.tmps[56]? = some (.pointer (some ⟨t, 1, none⟩)) := hdep 14 (by kernel_rfl)
            refine wpOp_yes rfl rfl (yields_of rfl eg) ?_
            exact wp_val (by simp [e56, go_sem, hc.2.2.2.2.1]) ⟨rfl, bl⟩
          · have eg : a.tmps[50]? = some (.bool true) := hdep 8 (by kernel_rfl)
            have e52 : a.tmps[52]? = some (.int .i64 x.type) := hdep 10 (by kernel_rfl)
            have e57 : a.tmps[57]? = some (.int .i64 q.type) := hdep 15 (by kernel_rfl)
            refine wpOp_yes rfl rfl (yields_of rfl eg) ?_
            exact wp_val (by simp [e52, e57, go_sem, htb]) ⟨rfl, bl⟩
          · have e50 : a.tmps[50]? = some (.bool true) := hdep 8 (by kernel_rfl)
            have e58 : a.tmps[58]? = some (.bool true) := hdep 16 (by kernel_rfl)
            refine wpOp_plain rfl rfl ?_
            exact wp_val (by simp [e50, e58, go_sem]) ⟨rfl, bl⟩
          · have e59 : a.tmps[59]? = some (.bool true) := hdep 17 (by kernel_rfl)
            refine wpOp_plain rfl rfl ?_
            exact wp_val (by simp [e59, go_sem]) ⟨rfl, bl⟩
          · have eg : a.tmps[60]? = some (.bool true) := hdep 18 (by kernel_rfl)
            have e4 : a.tmps[4]? = some (.pointer (some ⟨g3, 0, none⟩)) := (hsm.other 4 (fun j hj e => by have e2 : j + 42 = 4 := e; omega)).trans rfl
            refine wpOp_yes rfl rfl (yields_of rfl eg) ?_
            exact wp_val (by simp [e4, go_sem]) ⟨rfl, bl⟩
          · have eg : a.tmps[60]? = some (.bool true) := hdep 18 (by kernel_rfl)
            have e61 : a.tmps[61]? = some (.pointer (some ⟨g3, 2, none⟩)) := hdep 19 (by kernel_rfl)
            refine wpOp_yes rfl rfl (yields_of rfl eg) ?_
            exact wp_val (by simp [e61, go_sem, hc.2.2.1]) ⟨rfl, bl⟩
          · have eg : a.tmps[60]? = some (.bool true) := hdep 18 (by kernel_rfl)
            have e0 : a.tmps[0]? = some (.pointer (some ⟨t, 0, none⟩)) := (hsm.other 0 (fun j hj e => by have e2 : j + 42 = 0 := e; omega)).trans rfl
            refine wpOp_yes rfl rfl (yields_of rfl eg) ?_
            exact wp_val (by simp [e0, go_sem]) ⟨rfl, bl⟩
          · have eg : a.tmps[60]? = some (.bool true) := hdep 18 (by kernel_rfl)
            have e63 : a.tmps[63]? = some (.pointer (some ⟨t, 0, none⟩)) := hdep 21 (by kernel_rfl)
            refine wpOp_yes rfl rfl (yields_of rfl eg) ?_
            exact wp_val (by simp [e63, go_sem]) ⟨rfl, bl⟩
          · have eg : a.tmps[60]? = some (.bool true) := hdep 18 (by kernel_rfl)
            have e64 : a.tmps[64]? = some (.pointer (some ⟨t, 0, none⟩)) := hdep 22 (by kernel_rfl)
            refine wpOp_yes rfl rfl (yields_of rfl eg) ?_
            exact wp_val (by simp [e64, go_sem]) ⟨rfl, bl⟩
          · have eg : a.tmps[60]? = some (.bool true) := hdep 18 (by kernel_rfl)
            have e65 : a.tmps[65]? = some (.pointer (some ⟨t, 0, none⟩)) := hdep 23 (by kernel_rfl)
            refine wpOp_yes rfl rfl (yields_of rfl eg) ?_
            exact wp_val (by simp [e65, go_sem]) ⟨rfl, bl⟩
          · have eg : a.tmps[60]? = some (.bool true) := hdep 18 (by kernel_rfl)
            have e66 : a.tmps[66]? = some (.pointer (some ⟨t, 2, none⟩)) := hdep 24 (by kernel_rfl)
            refine wpOp_yes rfl rfl (yields_of rfl eg) ?_
            exact wp_val (by simp [e66, go_sem, hc.2.2.2.2.2]) ⟨rfl, bl⟩
          · have eg : a.tmps[60]? = some (.bool true) := hdep 18 (by kernel_rfl)
            have e62 : a.tmps[62]? = some (.int .i64 x.cls) := hdep 20 (by kernel_rfl)
            have e67 : a.tmps[67]? = some (.int .i64 q.cls) := hdep 25 (by kernel_rfl)
            refine wpOp_yes rfl rfl (yields_of rfl eg) ?_
            exact wp_val (by simp [e62, e67, go_sem, hcb]) ⟨rfl, bl⟩
          · have e60 : a.tmps[60]? = some (.bool true) := hdep 18 (by kernel_rfl)
            have e68 : a.tmps[68]? = some (.bool false) := hdep 26 (by kernel_rfl)
            refine wpOp_plain rfl rfl ?_
            exact wp_val (by simp [e60, e68, go_sem]) ⟨rfl, bl⟩
        · intro a w4 hbw hsm hdep
          have e69 : a.tmps[69]? = some (.bool false) := hdep 27 (by decide)
          refine wpOp_plain rfl rfl ?_
          unfold Oper.wp execOp
          simp [e69, go_sem]
          go_wp2
          refine bodyPost_ret (v := .bool false) ?_ hsm.defers ⟨_, rfl, by rw [← HNB.out, HT.out, HC.out]; rfl, nx HB3.out hbw⟩
          have hsz : a.tmps.size = 70 := hsm.size.trans rfl
          simp [results, Try.results69, hsz]
      | true =>
        have HC := Lib.hid (HCB.out.trans hcb)
        refine wp_region_vals (n := 28) (by kernel_rfl) (by kernel_rfl) (by kernel_rfl) rfl (by kernel_rfl) (fun i => i + 42) (fun i hi => by show i + 42 < 70; omega) (fun i j _ _ e => by have e2 : i + 42 = j + 42 := e; omega) (fun i => ([.pointer (some ⟨g3, 0, none⟩), .slice sx.A x.name.length sx.c, .pointer (some ⟨t, 0, none⟩), .pointer (some ⟨t, 0, none⟩), .pointer (some ⟨t, 0, none⟩), .pointer (some ⟨t, 0, none⟩), .slice sq.A q.name.length sq.c, .bool true, .bool true, .pointer (some ⟨g3, 1, none⟩), .int .i64 x.type, .pointer (some ⟨t, 0, none⟩), .pointer (some ⟨t, 0, none⟩), .pointer (some ⟨t, 0, none⟩), .pointer (some ⟨t, 1, none⟩), .int .i64 q.type, .bool true, .bool true, .bool true, .pointer (some ⟨g3, 2, none⟩), .int .i64 x.cls, .pointer (some ⟨t, 0, none⟩), .pointer (some ⟨t, 0, none⟩), .pointer (some ⟨t, 0, none⟩), .pointer (some ⟨t, 2, none⟩), .int .i64 q.cls, .bool true, .bool true] : List Value).getD i undef) ?_ ?_
        · intro i hi a w4 hbw hsm hdep
          have hc := HQQ.out w4 hbw
          have hcases : i = 0 ∨ i = 1 ∨ i = 2 ∨ i = 3 ∨ i = 4 ∨ i = 5 ∨ i = 6 ∨ i = 7 ∨ i = 8 ∨ i = 9 ∨ i = 10 ∨ i = 11 ∨ i = 12 ∨ i = 13 ∨ i = 14 ∨ i = 15 ∨ i = 16 ∨ i = 17 ∨ i = 18 ∨ i = 19 ∨ i = 20 ∨ i = 21 ∨ i = 22 ∨ i = 23 ∨ i = 24 ∨ i = 25 ∨ i = 26 ∨ i = 27 := by omega
          rcases hcases with rfl | rfl | rfl | rfl | rfl | rfl | rfl | rfl | rfl | rfl | rfl | rfl | rfl | rfl | rfl | rfl | rfl | rfl | rfl | rfl | rfl | rfl | rfl | rfl | rfl | rfl | rfl | rfl
          · have e4 : a.tmps[4]? = some (.pointer (some ⟨g3, 0, none⟩)) := (hsm.other 4 (fun j hj e => by have e2 : j + 42 = 4 := e; omega)).trans rfl
            refine wpOp_plain rfl rfl ?_
            exact wp_val (by simp [e4, go_sem]) ⟨rfl, bl⟩
          · have e42 : a.tmps[42]? = some (.pointer (some ⟨g3, 0, none⟩)) := hdep 0 (by kernel_rfl)
            refine wpOp_plain rfl rfl ?_
            exact wp_val (by simp [e42, go_sem, hc.1]) ⟨rfl, bl⟩
          · have e0 : a.tmps[0]? = some (.pointer (some ⟨t, 0, none⟩)) := (hsm.other 0 (fun j hj e => by have e2 : j + 42 = 0 := e; omega)).trans rfl
            refine wpOp_plain rfl rfl ?_
            exact wp_val (by simp [e0, go_sem]) ⟨rfl, bl⟩
          · have e44 : a.tmps[44]? = some (.pointer (some ⟨t, 0, none⟩)) := hdep 2 (by kernel_rfl)
            refine wpOp_plain rfl rfl ?_
            exact wp_val (by simp [e44, go_sem]) ⟨rfl, bl⟩
          · have e45 : a.tmps[45]? = some (.pointer (some ⟨t, 0, none⟩)) := hdep 3 (by kernel_rfl)
            refine wpOp_plain rfl rfl ?_
            exact wp_val (by simp [e45, go_sem]) ⟨rfl, bl⟩
          · have e46 : a.tmps[46]? = some (.pointer (some ⟨t, 0, none⟩)) := hdep 4 (by kernel_rfl)
            refine wpOp_plain rfl rfl ?_
            exact wp_val (by simp [e46, go_sem]) ⟨rfl, bl⟩
          · have e47 : a.tmps[47]? = some (.pointer (some ⟨t, 0, none⟩)) := hdep 5 (by kernel_rfl)
            refine wpOp_plain rfl rfl ?_
            exact wp_val (by simp [e47, go_sem, hc.2.2.2.1]) ⟨rfl, bl⟩
          · have e43 : a.tmps[43]? = some (.slice sx.A x.name.length sx.c) := hdep 1 (by kernel_rfl)
            have e48 : a.tmps[48]? = some (.slice sq.A q.name.length sq.c) := hdep 6 (by kernel_rfl)
            refine wpOp_plain rfl rfl ?_
            generalize hK : (fun (a2 : Act) (w2 : World) => _) = K
            have v43 := eval_tmp e43
            have v48 := eval_tmp e48
            go_simp
            refine (HEQ.out w4 hbw).mono ?_
            rintro e w5 ⟨v5, rfl, rfl, hb5⟩
            rw [← hK]
            exact ⟨rfl, hb5⟩
          · have e49 : a.tmps[49]? = some (.bool true) := hdep 7 (by kernel_rfl)
            refine wpOp_plain rfl rfl ?_
            exact wp_val (by simp [e49, go_sem]) ⟨rfl, bl⟩
          · have eg : a.tmps[50]? = some (.bool true) := hdep 8 (by kernel_rfl)
            have e4 : a.tmps[4]? = some (.pointer (some ⟨g3, 0, none⟩)) := (hsm.other 4 (fun j hj e => by have e2 : j + 42 = 4 := e; omega)).trans rfl
            refine wpOp_yes rfl rfl (yields_of rfl eg) ?_
            exact wp_val (by simp [e4, go_sem]) ⟨rfl, bl⟩
          · have eg : a.tmps[50]? = some (.bool true) := hdep 8 (by kernel_rfl)
            have e51 : a.tmps[51]? = some (.pointer (some ⟨g3, 1, none⟩)) := hdep 9 (by kernel_rfl)
            refine wpOp_yes rfl rfl (yields_of rfl eg) ?_
            exact wp_val (by simp [e51, go_sem, hc.2.1]) ⟨rfl, bl⟩
          · have eg : a.tmps[50]? = some (.bool true) := hdep 8 (by kernel_rfl)
            have e0 : a.tmps[0]? = some (.pointer (some ⟨t, 0, none⟩)) := (hsm.other 0 (fun j hj e => by have e2 : j + 42 = 0 := e; omega)).trans rfl
            refine wpOp_yes rfl rfl (yields_of rfl eg) ?_
            exact wp_val (by simp [e0, go_sem]) ⟨rfl, bl⟩
          · have eg : a.tmps[50]? = some (.bool true) := hdep 8 (by kernel_rfl)
            have e53 : a.tmps[53]? = some (.pointer (some ⟨t, 0, none⟩)) := hdep 11 (by kernel_rfl)
            refine wpOp_yes rfl rfl (yields_of rfl eg) ?_
            exact wp_val (by simp [e53, go_sem]) ⟨rfl, bl⟩
          · have eg : a.tmps[50]? = some (.bool true) := hdep 8 (by kernel_rfl)
            have e54 : a.tmps[54]? = some (.pointer (some ⟨t, 0, none⟩)) := hdep 12 (by kernel_rfl)
            refine wpOp_yes rfl rfl (yields_of rfl eg) ?_
            exact wp_val (by simp [e54, go_sem]) ⟨rfl, bl⟩
          · have eg : a.tmps[50]? = some (.bool true) := hdep 8 (by kernel_rfl)
            have e55 : a.tmps[55]? = some (.pointer (some ⟨t, 0, none⟩)) := hdep 13 (by kernel_rfl)
            refine wpOp_yes rfl rfl (yields_of rfl eg) ?_
            exact wp_val (by simp [e55, go_sem]) ⟨rfl, bl⟩
          · have eg : a.tmps[50]? = some (.bool true) := hdep 8 (by kernel_rfl)
            have e56 : a.tmps[56]? = some (.pointer (some ⟨t, 1, none⟩)) := hdep 14 (by kernel_rfl)
            refine wpOp_yes rfl rfl (yields_of rfl eg) ?_
            exact wp_val (by simp [e56, go_sem, hc.2.2.2.2.1]) ⟨rfl, bl⟩
          · have eg : a.tmps[50]? = some (.bool true) := hdep 8 (by kernel_rfl)
            have e52 : a.tmps[52]? = some (.int .i64 x.type) := hdep 10 (by kernel_rfl)
            have e57 : a.tmps[57]? = some (.int .i64 q.type) := hdep 15 (by kernel_rfl)
            refine wpOp_yes rfl rfl (yields_of rfl eg) ?_
            exact wp_val (by simp [e52, e57, go_sem, htb]) ⟨rfl, bl⟩
          · have e50 : a.tmps[50]? = some (.bool true) := hdep 8 (by kernel_rfl)
            have e58 : a.tmps[58]? = some (.bool true) := hdep 16 (by kernel_rfl)
            refine wpOp_plain rfl rfl ?_
            exact wp_val (by simp [e50, e58, go_sem]) ⟨rfl, bl⟩
          · have e59 : a.tmps[59]? = some (.bool true) := hdep 17 (by kernel_rfl)
            refine wpOp_plain rfl rfl ?_
            exact wp_val (by simp [e59, go_sem]) ⟨rfl, bl⟩
          · have eg : a.tmps[60]? = some (.bool true) := hdep 18 (by kernel_rfl)
            have e4 : a.tmps[4]? = some (.pointer (some ⟨g3, 0, none⟩)) := (hsm.other 4 (fun j hj e => by have e2 : j + 42 = 4 := e; omega)).trans rfl
            refine wpOp_yes rfl rfl (yields_of rfl eg) ?_
            exact wp_val (by simp [e4, go_sem]) ⟨rfl, bl⟩
          · have eg : a.tmps[60]? = some (.bool true) := hdep 18 (by kernel_rfl)
            have e61 : a.tmps[61]? = some (.pointer (some ⟨g3, 2, none⟩)) := hdep 19 (by kernel_rfl)
            refine wpOp_yes rfl rfl (yields_of rfl eg) ?_
            exact wp_val (by simp [e61, go_sem, hc.2.2.1]) ⟨rfl, bl⟩
          · have eg : a.tmps[60]? = some (.bool true) := hdep 18 (by kernel_rfl)
            have e0 : a.tmps[0]? = some (.pointer (some ⟨t, 0, none⟩)) := (hsm.other 0 (fun j hj e => by have e2 : j + 42 = 0 := e; omega)).trans rfl
            refine wpOp_yes rfl rfl (yields_of rfl eg) ?_
            exact wp_val (by simp [e0, go_sem]) ⟨rfl, bl⟩
          · have eg : a.tmps[60]? = some (.bool true) := hdep 18 (by kernel_rfl)
            have e63 : a.tmps[63]? = some (.pointer (some ⟨t, 0, none⟩)) := hdep 21 (by kernel_rfl)
            refine wpOp_yes rfl rfl (yields_of rfl eg) ?_
            exact wp_val (by simp [e63, go_sem]) ⟨rfl, bl⟩
          · have eg : a.tmps[60]? = some (.bool true) := hdep 18 (by kernel_rfl)
            have e64 : a.tmps[64]? = some (.pointer (some ⟨t, 0, none⟩)) := hdep 22 (by kernel_rfl)
            refine wpOp_yes rfl rfl (yields_of rfl eg) ?_
            exact wp_val (by simp [e64, go_sem]) ⟨rfl, bl⟩
          · have eg : a.tmps[60]? = some (.bool true) := hdep 18 (by kernel_rfl)
            have e65 : a.tmps[65]? = some (.pointer (some ⟨t, 0, none⟩)) := hdep 23 (by kernel_rfl)
            refine wpOp_yes rfl rfl (yields_of rfl eg) ?_
            exact wp_val (by simp [e65, go_sem]) ⟨rfl, bl⟩
          · have eg : a.tmps[60]? = some (.bool true) := hdep 18 (by kernel_rfl)
            have e66 : a.tmps[66]? = some (.pointer (some ⟨t, 2, none⟩)) := hdep 24 (by kernel_rfl)
            refine wpOp_yes rfl rfl (yields_of rfl eg) ?_
            exact wp_val (by simp [e66, go_sem, hc.2.2.2.2.2]) ⟨rfl, bl⟩
          · have eg : a.tmps[60]? = some (.bool true) := hdep 18 (by kernel_rfl)
            have e62 : a.tmps[62]? = some (.int .i64 x.cls) := hdep 20 (by kernel_rfl)
            have e67 : a.tmps[67]? = some (.int .i64 q.cls) := hdep 25 (by kernel_rfl)
            refine wpOp_yes rfl rfl (yields_of rfl eg) ?_
            exact wp_val (by simp [e62, e67, go_sem, hcb]) ⟨rfl, bl⟩
          · have e60 : a.tmps[60]? = some (.bool true) := hdep 18 (by kernel_rfl)
            have e68 : a.tmps[68]? = some (.bool true) := hdep 26 (by kernel_rfl)
            refine wpOp_plain rfl rfl ?_
            exact wp_val (by simp [e60, e68, go_sem]) ⟨rfl, bl⟩
        · intro a w4 hbw hsm hdep
          have e69 : a.tmps[69]? = some (.bool true) := hdep 27 (by decide)
          refine wpOp_plain rfl rfl ?_
          unfold Oper.wp execOp
          simp [e69, go_sem]
          go_wp2
          refine bodyPost_ret (v := .bool true) ?_ hsm.defers ⟨_, rfl, by rw [← HNB.out, HT.out, HC.out]; rfl, nx HB3.out hbw⟩
          have hsz : a.tmps.size = 70 := hsm.size.trans rfl
          simp [results, Try.results69, hsz]
end Go.Proofs.Ytimkdpkhdbiniaa
