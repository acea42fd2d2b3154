/- A list of blocks that came in. -/
import Derived.Test.YtbjaphldncagjaaOpenE
import Derived.Test.YtbjaphldncagjaaSupMem
namespace Go.Proofs.Ytbjaphldncagjaa
open Go.ChangeShapes Go.WideShapes Go.ChangeAt Go.RowKit

set_option maxRecDepth 100000 in
theorem opens_Bk : Opens 23 encBk any one := by
  intro H enc W base sp hd fuel cs x h
  obtain ⟨xs, n, hx, hc, hl, hf, hw⟩ := trod_fields Try.underlying23 h
  rw [show Try.prog.cellsOf 23 = 5 by kernel_rfl] at hc
  obtain ⟨c0, c1, c2, c3, c4, rfl⟩ := len5 hc
  obtain ⟨z0, z1, z2, z3, z4, rfl⟩ := len5 (l := xs) (by rw [hl]; rfl)
  obtain ⟨y0, e0, h0⟩ := hf 0 _ rfl
  obtain ⟨y1, e1, h1⟩ := hf 1 _ rfl
  obtain ⟨y2, e2, h2⟩ := hf 2 _ rfl
  obtain ⟨y3, e3, h3⟩ := hf 3 _ rfl
  obtain ⟨y4, e4, h4⟩ := hf 4 _ rfl
  have g0 : DataW.trod enc Try.prog W base sp hd n 3 (([c0, c1, c2, c3, c4].drop 0).take (Try.prog.cellsOf 3)) = some y0 := h0
  have g1 : DataW.trod enc Try.prog W base sp hd n 3 (([c0, c1, c2, c3, c4].drop 1).take (Try.prog.cellsOf 3)) = some y1 := h1
  have g2 : DataW.trod enc Try.prog W base sp hd n 3 (([c0, c1, c2, c3, c4].drop 2).take (Try.prog.cellsOf 3)) = some y2 := h2
  have g3 : DataW.trod enc Try.prog W base sp hd n 3 (([c0, c1, c2, c3, c4].drop 3).take (Try.prog.cellsOf 3)) = some y3 := h3
  have g4 : DataW.trod enc Try.prog W base sp hd n 3 (([c0, c1, c2, c3, c4].drop 4).take (Try.prog.cellsOf 3)) = some y4 := h4
  rw [show Try.prog.cellsOf 3 = 1 by kernel_rfl] at g0 g1 g2 g3 g4
  obtain ⟨a0, ⟨r0, b0⟩, _, _⟩ := opens_int Try.underlying3 H enc W base sp hd n _ _ g0
  obtain ⟨a1, ⟨r1, b1⟩, _, _⟩ := opens_int Try.underlying3 H enc W base sp hd n _ _ g1
  obtain ⟨a2, ⟨r2, b2⟩, _, _⟩ := opens_int Try.underlying3 H enc W base sp hd n _ _ g2
  obtain ⟨a3, ⟨r3, b3⟩, _, _⟩ := opens_int Try.underlying3 H enc W base sp hd n _ _ g3
  obtain ⟨a4, ⟨r4, b4⟩, _, _⟩ := opens_int Try.underlying3 H enc W base sp hd n _ _ g4
  simp at r0 r1 r2 r3 r4
  subst r0 r1 r2 r3 r4
  exact ⟨⟨a0, a1, a2, a3, a4⟩, ⟨rfl, b0, b1, b2, b3, b4⟩, fun _ => trivial, by rw [hx]; simp [one, Rows.uptoBulk]⟩
end Go.Proofs.Ytbjaphldncagjaa
