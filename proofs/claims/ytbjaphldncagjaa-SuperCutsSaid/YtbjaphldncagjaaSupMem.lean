/- super: how blocks lie in memory. -/
import Derived.Test.YtbjaphldncagjaaSupPlain
import Derived.Test.YtbjaphldncagjaaFlashMem
import Derived.Test.YtbjaphldncagjaaEnc
namespace Go.Proofs.Ytbjaphldncagjaa
open Go.RowKit

def inI (n : Int) : Prop := -9223372036854775808 ≤ n ∧ n ≤ 9223372036854775807
def Blk.in_ (b : Blk) : Prop := inI b.gen ∧ inI b.epoch ∧ inI b.first ∧ inI b.from_ ∧ inI b.count
def Blk.vals (b : Blk) : List Value := [.int .i64 b.gen, .int .i64 b.epoch, .int .i64 b.first, .int .i64 b.from_, .int .i64 b.count]
theorem Blk.vals_at {b : Blk} {k : Nat} {n : Int} (h : b.nums[k]? = some n) : b.vals[k]? = some (.int .i64 n) := by
  rcases k with _ | _ | _ | _ | _ | k <;> first | (simp [Blk.nums] at h; done) | (simp only [Blk.nums, List.getElem?_cons_zero, List.getElem?_cons_succ, Option.some.injEq] at h; subst h; rfl)
def encBk : Enc Blk where
  size := 5
  R := fun _ _ r x => r = x.vals ∧ x.in_
  pos := by decide
  len := by rintro _ _ r x ⟨rfl, _⟩; rfl
  mono := fun _ h => h
  keep := fun _ h => h
  one := by
    rintro S w r x ⟨rfl, _⟩ u hu
    simp [Blk.vals] at hu
    rcases hu with rfl | rfl | rfl | rfl | rfl <;> rfl
theorem bks_at {w : World} {A : Option Addr} {n : Nat} {xs : List Blk} (h : RdE encBk w A n xs) {k : Nat} {x : Blk} (hx : xs[k]? = some x) :
    ∃ b off, A = some ⟨b, off, none⟩ ∧ w.cell? ⟨b, off + k * 5, none⟩ = some (.int .i64 x.gen) ∧ w.cell? ⟨b, off + k * 5 + 1, none⟩ = some (.int .i64 x.epoch) ∧ w.cell? ⟨b, off + k * 5 + 2, none⟩ = some (.int .i64 x.first) ∧
      w.cell? ⟨b, off + k * 5 + 3, none⟩ = some (.int .i64 x.from_) ∧ w.cell? ⟨b, off + k * 5 + 4, none⟩ = some (.int .i64 x.count) ∧ x.in_ := by
  obtain ⟨b, off, rfl, _, hat⟩ := Els.flat h (by rw [← h.len]; exact Nat.lt_of_le_of_lt (Nat.zero_le k) (List.getElem?_eq_some_iff.1 hx).1)
  obtain ⟨r, ⟨rfl, hi⟩, hc⟩ := hat k x hx
  have hq : ∀ (j : Nat) (u : Value), x.vals[j]? = some u → w.cell? ⟨b, off + k * 5 + j, none⟩ = some u := fun j u hu => by
    have := hc j u hu
    rwa [← Nat.add_assoc] at this
  exact ⟨b, off, rfl, hq 0 _ rfl, hq 1 _ rfl, hq 2 _ rfl, hq 3 _ rfl, hq 4 _ rfl, hi⟩

/-- A block in a heap block of its own. -/
def KBox (w : World) (q : Nat) (x : Blk) : Prop :=
  w.cell? ⟨q, 0, none⟩ = some (.int .i64 x.gen) ∧ w.cell? ⟨q, 1, none⟩ = some (.int .i64 x.epoch) ∧ w.cell? ⟨q, 2, none⟩ = some (.int .i64 x.first) ∧ w.cell? ⟨q, 3, none⟩ = some (.int .i64 x.from_) ∧ w.cell? ⟨q, 4, none⟩ = some (.int .i64 x.count)
theorem KBox.made (w : World) (x : Blk) (e : TypeId) : KBox (w.alloc (.cells #[.int .i64 x.gen, .int .i64 x.epoch, .int .i64 x.first, .int .i64 x.from_, .int .i64 x.count] e)) w.heap.size x :=
  ⟨new_cell w _ _ 0, new_cell w _ _ 1, new_cell w _ _ 2, new_cell w _ _ 3, new_cell w _ _ 4⟩
section
variable {w w' : World} {q : Nat} {x : Blk}
theorem KBox.below (h : KBox w q x) (hb : Below w.heap.size w w') : KBox w' q x := by
  obtain ⟨h0, h1, h2, h3, h4⟩ := h
  exact ⟨below_cell hb h0, below_cell hb h1, below_cell hb h2, below_cell hb h3, below_cell hb h4⟩
theorem KBox.chg {F : Nat → Prop} (h : KBox w q x) (hc : Chg F w w') (hq : ¬ F q) : KBox w' q x := by
  obtain ⟨h0, h1, h2, h3, h4⟩ := h
  exact ⟨hc.cell h0 hq, hc.cell h1 hq, hc.cell h2 hq, hc.cell h3 hq, hc.cell h4 hq⟩
theorem KBox.lt (h : KBox w q x) : q < w.heap.size := World.block_lt_of_cell? w _ h.1
end
end Go.Proofs.Ytbjaphldncagjaa
