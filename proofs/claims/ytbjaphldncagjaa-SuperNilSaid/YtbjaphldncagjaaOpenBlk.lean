/- A block that came in by value. -/
import Derived.Test.YtbjaphldncagjaaOpenE
namespace Go.Proofs.Ytbjaphldncagjaa
open Go.ChangeShapes Go.WideShapes Go.ChangeAt Go.RowKit
set_option maxRecDepth 100000

theorem open_blk {H : Type} {enc : TypeId × Value → H} {W : World} {base b0 : Nat} {sp : Nat → Bool} {hd : Bool} {r : Reach} {v : Value} {d : DataW H} {p : List MemPlace}
    (hv : Value.okWide Try.prog W r b0 23 v) (h : DataW.Trod enc Try.prog W base sp hd 23 v d p) :
    ∃ a0 a1 a2 a3 a4 : Int, v = .agg #[.int .i64 a0, .int .i64 a1, .int .i64 a2, .int .i64 a3, .int .i64 a4] ∧ (Lit.int .i64 a0).wf = true ∧ (Lit.int .i64 a1).wf = true ∧ (Lit.int .i64 a2).wf = true ∧ (Lit.int .i64 a3).wf = true ∧ (Lit.int .i64 a4).wf = true := by
  obtain ⟨cs, rfl, hsz⟩ := okWide_struct Try.underlying23 hv
  rw [show Try.prog.cellsOf 23 = 5 by kernel_rfl] at hsz
  obtain ⟨l⟩ := cs
  obtain ⟨c0, c1, c2, c3, c4, rfl⟩ := len5 (l := l) (by simpa using hsz)
  obtain ⟨fuel, hf⟩ := h
  have hf' : DataW.trod enc Try.prog W base sp hd fuel 23 [c0, c1, c2, c3, c4] = some (d, p) := by simpa [Value.cells] using hf
  obtain ⟨xs, n, hx, hc, hl, hfd, hw⟩ := trod_fields Try.underlying23 hf'
  obtain ⟨y0, e0, h0⟩ := hfd 0 _ rfl
  obtain ⟨y1, e1, h1⟩ := hfd 1 _ rfl
  obtain ⟨y2, e2, h2⟩ := hfd 2 _ rfl
  obtain ⟨y3, e3, h3⟩ := hfd 3 _ rfl
  obtain ⟨y4, e4, h4⟩ := hfd 4 _ rfl
  have g0 : DataW.trod enc Try.prog W base sp hd n 3 (([c0, c1, c2, c3, c4].drop 0).take (Try.prog.cellsOf 3)) = some y0 := h0
  have g1 : DataW.trod enc Try.prog W base sp hd n 3 (([c0, c1, c2, c3, c4].drop 1).take (Try.prog.cellsOf 3)) = some y1 := h1
  have g2 : DataW.trod enc Try.prog W base sp hd n 3 (([c0, c1, c2, c3, c4].drop 2).take (Try.prog.cellsOf 3)) = some y2 := h2
  have g3 : DataW.trod enc Try.prog W base sp hd n 3 (([c0, c1, c2, c3, c4].drop 3).take (Try.prog.cellsOf 3)) = some y3 := h3
  have g4 : DataW.trod enc Try.prog W base sp hd n 3 (([c0, c1, c2, c3, c4].drop 4).take (Try.prog.cellsOf 3)) = some y4 := h4
  rw [show Try.prog.cellsOf 3 = 1 by kernel_rfl] at g0 g1 g2 g3 g4
  obtain ⟨a0, q0, _, b0⟩ := DataW.trod_int Try.underlying3 g0
  obtain ⟨a1, q1, _, b1⟩ := DataW.trod_int Try.underlying3 g1
  obtain ⟨a2, q2, _, b2⟩ := DataW.trod_int Try.underlying3 g2
  obtain ⟨a3, q3, _, b3⟩ := DataW.trod_int Try.underlying3 g3
  obtain ⟨a4, q4, _, b4⟩ := DataW.trod_int Try.underlying3 g4
  simp at q0 q1 q2 q3 q4
  subst q0 q1 q2 q3 q4
  exact ⟨a0, a1, a2, a3, a4, rfl, b0, b1, b2, b3, b4⟩
end Go.Proofs.Ytbjaphldncagjaa
