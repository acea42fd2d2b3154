/- super: numbers, and what a place says. -/
import Derived.Test.YtbjaphldncagjaaSupMem
import Derived.Test.YtbjaphldncagjaaSOpen
import Derived.Test.YtbjaphldncagjaaFlash6
import Derived.Deep.RegionHeld3
import Derived.StillTailTactics
namespace Go.Proofs.Ytbjaphldncagjaa
open Go.RowKit
set_option maxRecDepth 100000

/-- The places of a block's numbers. -/
def ptrs5 (q : Nat) : Value := .agg #[.pointer (some ⟨q, 0, none⟩), .pointer (some ⟨q, 1, none⟩), .pointer (some ⟨q, 2, none⟩), .pointer (some ⟨q, 3, none⟩), .pointer (some ⟨q, 4, none⟩)]

set_option maxHeartbeats 1000000 in
theorem numbers_any (w : World) (q : Nat) :
    Calls Try.prog 71 #[.pointer (some ⟨q, 0, none⟩)] w (RetP (fun v _ => v = ptrs5 q) w) := by
  go_enter Try.func71, Try.ntmps71
  obtain ⟨w1, hw1⟩ : ∃ w1, w1 = w.alloc (.cells #[.pointer none, .pointer none, .pointer none, .pointer none, .pointer none] 110) := ⟨_, rfl⟩
  go_upto_region 1 with (fail)
  rw [← hw1]
  have hr1 : w1.heap[w.heap.size]? = some (.cells #[.pointer none, .pointer none, .pointer none, .pointer none, .pointer none] 110 (0, 0)) := by rw [hw1]; exact heap_alloc_new _ _
  have hb1 : Below w.heap.size w w1 := by rw [hw1]; exact bl.alloc (Nat.le_refl _) _
  have x0 : w1.cell? ⟨w.heap.size, 0, none⟩ = some (.pointer none) := (cell_of_row _ _ _ _ _ _ hr1).trans rfl
  have x1 : w1.cell? ⟨w.heap.size, 1, none⟩ = some (.pointer none) := (cell_of_row _ _ _ _ _ _ hr1).trans rfl
  have x2 : w1.cell? ⟨w.heap.size, 2, none⟩ = some (.pointer none) := (cell_of_row _ _ _ _ _ _ hr1).trans rfl
  have x3 : w1.cell? ⟨w.heap.size, 3, none⟩ = some (.pointer none) := (cell_of_row _ _ _ _ _ _ hr1).trans rfl
  have x4 : w1.cell? ⟨w.heap.size, 4, none⟩ = some (.pointer none) := (cell_of_row _ _ _ _ _ _ hr1).trans rfl
  have f1 : ∀ k, w1.frozen? ⟨w.heap.size, k, none⟩ = false := fun k => frozen_of_row _ _ _ _ _ hr1
  clear hw1
  go_still_tail 15, (by kernel_rfl)
  change wpList _ _ _ _ _ w1.drew
  go_wp2
  have hr2 := set5 (w := w1) hr1 (.pointer (some ⟨q, 0, none⟩)) (.pointer (some ⟨q, 1, none⟩)) (.pointer (some ⟨q, 2, none⟩)) (.pointer (some ⟨q, 3, none⟩)) (.pointer (some ⟨q, 4, none⟩))
  have hb2 := (below5 hb1 (Nat.le_refl _) (.pointer (some ⟨q, 0, none⟩)) (.pointer (some ⟨q, 1, none⟩)) (.pointer (some ⟨q, 2, none⟩)) (.pointer (some ⟨q, 3, none⟩)) (.pointer (some ⟨q, 4, none⟩))).drew
  obtain ⟨w2, hw2⟩ : ∃ w2, w2 = (((((w1.setCell ⟨w.heap.size, 0, none⟩ (.pointer (some ⟨q, 0, none⟩))).setCell ⟨w.heap.size, 1, none⟩ (.pointer (some ⟨q, 1, none⟩))).setCell ⟨w.heap.size, 2, none⟩ (.pointer (some ⟨q, 2, none⟩))).setCell ⟨w.heap.size, 3, none⟩ (.pointer (some ⟨q, 3, none⟩))).setCell ⟨w.heap.size, 4, none⟩ (.pointer (some ⟨q, 4, none⟩))).drew := ⟨_, rfl⟩
  have hr3 : w2.heap[w.heap.size]? = some (.cells #[.pointer (some ⟨q, 0, none⟩), .pointer (some ⟨q, 1, none⟩), .pointer (some ⟨q, 2, none⟩), .pointer (some ⟨q, 3, none⟩), .pointer (some ⟨q, 4, none⟩)] 110 (0, 0)) := by rw [hw2]; exact hr2
  rw [← hw2] at hb2 ⊢
  clear hw2 hr2 x0 x1 x2 x3 x4
  have hy : ∀ j : Nat, w2.cell? ⟨w.heap.size, j, none⟩ = (#[.pointer (some ⟨q, 0, none⟩), .pointer (some ⟨q, 1, none⟩), .pointer (some ⟨q, 2, none⟩), .pointer (some ⟨q, 3, none⟩), .pointer (some ⟨q, 4, none⟩)] : Array Value)[j]? := fun j => cell_of_row _ _ _ _ _ _ hr3
  have x0 : w2.cell? ⟨w.heap.size, 0, none⟩ = some (.pointer (some ⟨q, 0, none⟩)) := hy 0
  have x1 : w2.cell? ⟨w.heap.size, 1, none⟩ = some (.pointer (some ⟨q, 1, none⟩)) := hy 1
  have x2 : w2.cell? ⟨w.heap.size, 2, none⟩ = some (.pointer (some ⟨q, 2, none⟩)) := hy 2
  have x3 : w2.cell? ⟨w.heap.size, 3, none⟩ = some (.pointer (some ⟨q, 3, none⟩)) := hy 3
  have x4 : w2.cell? ⟨w.heap.size, 4, none⟩ = some (.pointer (some ⟨q, 4, none⟩)) := hy 4
  clear hy
  refine bodyPost_ret (v := ptrs5 q) ?_ rfl ⟨_, rfl, rfl, hb2⟩
  simp [results, Try.results71, go_sem, x0, x1, x2, x3, x4, ptrs5]

theorem OwnB.ge {w : World} {base n c : Nat} {A : Option Addr} {bs : List UInt8} (h : OwnB w base (.slice A n c) bs) : ∀ b off, A = some ⟨b, off, none⟩ → base ≤ b := by
  intro b off e
  rcases h.2 with ⟨h0, _⟩ | ⟨g', cap, cur, e2, h1, _⟩
  · injection h0 with h0
    rw [h0] at e
    cases e
  · injection e2 with e2
    rw [e2] at e
    injection e with e
    injection e with e
    omega
def secR : Option (List UInt8) → List UInt8 × Int
  | some b => (b, 0)
  | none => ([], 9)
theorem Dv.read_sure {d : Dv} {k : Int} {x : Option (List UInt8)} (hd : d.down = false) (hu : d.unsure = []) (hk : 0 ≤ k) (hx : d.sure[k.toNat]? = some x) : d.read k = secR x := by
  have hl := (List.getElem?_eq_some_iff.1 hx).1
  have hc : d.chk k = 0 := by
    unfold Dv.chk
    rw [hd, if_neg (by decide), if_neg (by omega)]
  unfold Dv.read
  rw [hc, if_pos rfl]
  unfold Dv.readV
  rw [hu, hx]
  cases x <;> rfl

/-- The j-th of the places. -/
theorem ptrs_at0 (q : Nat) (W : World) : (Instr.index 110 (.agg #[.pointer (some ⟨q, 0, none⟩), .pointer (some ⟨q, 1, none⟩), .pointer (some ⟨q, 2, none⟩), .pointer (some ⟨q, 3, none⟩), .pointer (some ⟨q, 4, none⟩)]) (.int .i64 0)).run Try.prog W = .ok (.pointer (some ⟨q, 0, none⟩)) W := by kernel_rfl
theorem ptrs_at1 (q : Nat) (W : World) : (Instr.index 110 (.agg #[.pointer (some ⟨q, 0, none⟩), .pointer (some ⟨q, 1, none⟩), .pointer (some ⟨q, 2, none⟩), .pointer (some ⟨q, 3, none⟩), .pointer (some ⟨q, 4, none⟩)]) (.int .i64 1)).run Try.prog W = .ok (.pointer (some ⟨q, 1, none⟩)) W := by kernel_rfl
theorem ptrs_at2 (q : Nat) (W : World) : (Instr.index 110 (.agg #[.pointer (some ⟨q, 0, none⟩), .pointer (some ⟨q, 1, none⟩), .pointer (some ⟨q, 2, none⟩), .pointer (some ⟨q, 3, none⟩), .pointer (some ⟨q, 4, none⟩)]) (.int .i64 2)).run Try.prog W = .ok (.pointer (some ⟨q, 2, none⟩)) W := by kernel_rfl
theorem ptrs_at3 (q : Nat) (W : World) : (Instr.index 110 (.agg #[.pointer (some ⟨q, 0, none⟩), .pointer (some ⟨q, 1, none⟩), .pointer (some ⟨q, 2, none⟩), .pointer (some ⟨q, 3, none⟩), .pointer (some ⟨q, 4, none⟩)]) (.int .i64 3)).run Try.prog W = .ok (.pointer (some ⟨q, 3, none⟩)) W := by kernel_rfl
theorem ptrs_at4 (q : Nat) (W : World) : (Instr.index 110 (.agg #[.pointer (some ⟨q, 0, none⟩), .pointer (some ⟨q, 1, none⟩), .pointer (some ⟨q, 2, none⟩), .pointer (some ⟨q, 3, none⟩), .pointer (some ⟨q, 4, none⟩)]) (.int .i64 4)).run Try.prog W = .ok (.pointer (some ⟨q, 4, none⟩)) W := by kernel_rfl

/-- The first k numbers are there. -/
def bkA (b : Blk) (k : Nat) : Array Value := ((b.nums.take k ++ List.replicate (5 - k) 0).map (Value.int .i64)).toArray
def bkV (o : Option Blk) : Value := .agg (bkA (o.getD Blk.zero) 5)
/-- What a place says. -/
def readR (o : Option Blk) : Value := .tuple #[bkV o, .bool o.isSome, .int .i64 0]


theorem sopen_blk {b : Blk} (hf : b.fits) (w : World) (A : Option Addr) (c : Nat) (hr : RdB w A 512 b.raw) (hc : 512 ≤ c) : Calls Try.prog 120 #[.slice A 512 c] w (fun e w' => ∃ A' c', e = .returned (.tuple #[.agg #[.int .i64 1, .int .i64 0, .int .i64 0, .int .i64 0, .int .i64 1], .slice A' 35 c', .int .i64 0]) ∧ 35 ≤ c' ∧ OwnB w' w.heap.size (.slice A' 35 c') b.data ∧ Below w.heap.size w w') := by
  refine (sopen_any A 512 c b.raw w hr hc (by omega)).mono ?_
  rw [b.open_ hf]
  rintro e w' ⟨v, rfl, ho, hb⟩
  obtain ⟨A', c', rfl, hr, hl, _⟩ := ho.form
  simp only at ho hl
  rw [b.data_len hf] at ho hl ⊢
  exact ⟨A', c', rfl, hl, ho, hb⟩
theorem sopen_zero (w : World) (A : Option Addr) (c : Nat) (hr : RdB w A 512 zero512) (hc : 512 ≤ c) : Calls Try.prog 120 #[.slice A 512 c] w (fun e w' => ∃ v, e = .returned (.tuple #[.agg #[.int .i64 0, .int .i64 0, .int .i64 0, .int .i64 0, .int .i64 0], v, .int .i64 14]) ∧ Below w.heap.size w w') := by
  refine (sopen_any A 512 c zero512 w hr hc (by omega)).mono ?_
  rw [open_zero]
  rintro e w' ⟨v, rfl, _, hb⟩
  exact ⟨v, rfl, hb⟩
end Go.Proofs.Ytbjaphldncagjaa
