/- WnameWrites: the program's writer and the reference's, side by side. -/
import Derived.Test.YtjpkddmdhdmhgaaRWMem
namespace Go.Proofs.Ytjpkddmdhdmhgaa
open Go.RowKit

structure PairSt (w wr : World) (g l : Nat) (F G : Nat → Prop) (x : Wr) (y : RW) : Prop where
  W : Wtr wr w.heap.size F g x
  L : RWtr wr w.heap.size G l y
  FG : ∀ b, F b → ¬ G b
  bw : Below w.heap.size w wr
section
variable {w wr w' : World} {g l : Nat} {F G F' : Nat → Prop} {x x' : Wr} {y y' : RW}
theorem PairSt.nx (h : PairSt w wr g l F G x y) (hb : Below wr.heap.size wr w') : PairSt w w' g l F G x y :=
  ⟨h.W.below hb, h.L.below hb, h.FG, Go.Proofs.Ytjpkddmdhdmhgaa.nx h.bw hb⟩
theorem PairSt.stepW (h : PairSt w wr g l F G x y) (hw : Wtr w' w.heap.size F' g x') (hc : Chg F wr w') (hF : ∀ z, F' z → F z ∨ wr.heap.size ≤ z) : PairSt w w' g l F' G x' y :=
  ⟨hw, h.L.chg hc (fun b hb hf => h.FG b hf hb), fun b hb hg => (hF b hb).elim (fun hf => h.FG b hf hg) (fun hl => by have := (h.L.F_lt b hg).2; omega), h.W.bw h.bw (Nat.le_refl _) hc⟩
theorem PairSt.stepL (h : PairSt w wr g l F G x y) (hw : RWtr w' w.heap.size F' l y') (hc : Chg G wr w') (hF : ∀ z, F' z → G z ∨ wr.heap.size ≤ z) : PairSt w w' g l F F' x y' :=
  ⟨h.W.chg hc (fun b hb hf => h.FG b hb hf), hw, fun b hb hg => (hF b hg).elim (fun hf => h.FG b hb hf) (fun hl => by have := (h.W.F_lt b hb).2; omega), h.L.bw h.bw (Nat.le_refl _) hc⟩
/-- The reference's bytes, where they lie. -/
theorem PairSt.bytes (h : PairSt w wr g l F G x y) : ∃ A c, wr.cell? ⟨l, 0, none⟩ = some (.slice A y.b.length c) ∧ RdB wr A y.b.length y.b ∧ y.b.length ≤ c ∧ c ≤ maxLen := by
  obtain ⟨bv, rv, S, hg, hb, _⟩ := h.L
  obtain ⟨A, c, rfl, hr, h1, h2⟩ := hb.form
  exact ⟨A, c, (cell_of_row _ _ _ _ _ _ hg).trans rfl, hr, h1, h2⟩
theorem PairSt.F_lt (h : PairSt w wr g l F G x y) : ∀ b, F b ∨ G b → b < wr.heap.size := fun b hb => hb.elim (fun hf => (h.W.F_lt b hf).2) (fun hg => (h.L.F_lt b hg).2)
/-- What is neither's keeps through a call. -/
theorem PairSt.far (h : PairSt w wr g l F G x y) {b : Nat} (hb : b < w.heap.size) : ¬ F b ∧ ¬ G b :=
  ⟨fun hf => by have := (h.W.F_lt b hf).1; omega, fun hg => by have := (h.L.F_lt b hg).1; omega⟩
end
end Go.Proofs.Ytjpkddmdhdmhgaa
