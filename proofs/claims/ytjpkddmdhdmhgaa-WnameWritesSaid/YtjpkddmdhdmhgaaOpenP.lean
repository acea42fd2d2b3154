/- A list of pieces that came in. -/
import Derived.Test.YtjpkddmdhdmhgaaOpenE
import Derived.Test.YtjpkddmdhdmhgaaPiece
namespace Go.Proofs.Ytjpkddmdhdmhgaa
open Go.ChangeShapes Go.WideShapes Go.ChangeAt Go.RowKit

set_option maxRecDepth 100000 in
theorem opens_P : Opens 81 encPc any one := by
  intro H enc W base sp hd fuel cs x h
  obtain ⟨xs, n, hx, hc, hl, hf, hw⟩ := trod_fields Try.underlying81 h
  rw [show Try.prog.cellsOf 81 = 6 by kernel_rfl] at hc
  obtain ⟨c0, c1, c2, c3, c4, c5, rfl⟩ := len6 hc
  obtain ⟨z0, z1, z2, z3, z4, z5, rfl⟩ := len6 (l := xs) (by rw [hl]; rfl)
  obtain ⟨y0, e0, h0⟩ := hf 0 _ rfl
  obtain ⟨y1, e1, h1⟩ := hf 1 _ rfl
  obtain ⟨y2, e2, h2⟩ := hf 2 _ rfl
  obtain ⟨y3, e3, h3⟩ := hf 3 _ rfl
  obtain ⟨y4, e4, h4⟩ := hf 4 _ rfl
  obtain ⟨y5, e5, h5⟩ := hf 5 _ rfl
  have g0 : DataW.trod enc Try.prog W base sp hd n 79 (([c0, c1, c2, c3, c4, c5].drop 0).take (Try.prog.cellsOf 79)) = some y0 := h0
  have g1 : DataW.trod enc Try.prog W base sp hd n 4 (([c0, c1, c2, c3, c4, c5].drop 1).take (Try.prog.cellsOf 4)) = some y1 := h1
  have g2 : DataW.trod enc Try.prog W base sp hd n 22 (([c0, c1, c2, c3, c4, c5].drop 2).take (Try.prog.cellsOf 22)) = some y2 := h2
  have g3 : DataW.trod enc Try.prog W base sp hd n 3 (([c0, c1, c2, c3, c4, c5].drop 3).take (Try.prog.cellsOf 3)) = some y3 := h3
  have g4 : DataW.trod enc Try.prog W base sp hd n 3 (([c0, c1, c2, c3, c4, c5].drop 4).take (Try.prog.cellsOf 3)) = some y4 := h4
  have g5 : DataW.trod enc Try.prog W base sp hd n 3 (([c0, c1, c2, c3, c4, c5].drop 5).take (Try.prog.cellsOf 3)) = some y5 := h5
  rw [show Try.prog.cellsOf 79 = 1 by kernel_rfl] at g0
  rw [show Try.prog.cellsOf 4 = 1 by kernel_rfl] at g1
  rw [show Try.prog.cellsOf 22 = 1 by kernel_rfl] at g2
  rw [show Try.prog.cellsOf 3 = 1 by kernel_rfl] at g3 g4 g5
  obtain ⟨a0, ⟨A0, n0, k0, r0, q0, l0, m0⟩, _, _⟩ := opens_sl (t := 79) Try.underlying79 (by kernel_rfl) (opens_str Try.underlying9) H enc W base sp hd n _ _ g0
  obtain ⟨a1, ⟨r1, _⟩, _, _⟩ := opens_bool Try.underlying4 H enc W base sp hd n _ _ g1
  obtain ⟨a2, ⟨A2, n2, k2, r2, q2, l2, m2⟩, _, _⟩ := opens_sl (t := 22) Try.underlying22 (by kernel_rfl) (opens_u8 Try.underlying5) H enc W base sp hd n _ _ g2
  obtain ⟨a3, ⟨r3, b3⟩, _, _⟩ := opens_int Try.underlying3 H enc W base sp hd n _ _ g3
  obtain ⟨a4, ⟨r4, b4⟩, _, _⟩ := opens_int Try.underlying3 H enc W base sp hd n _ _ g4
  obtain ⟨a5, ⟨r5, b5⟩, _, _⟩ := opens_int Try.underlying3 H enc W base sp hd n _ _ g5
  simp at r0 r1 r2 r3 r4 r5
  have e0 := q0.1
  have e2 := q2.1
  subst r0 r1 r2 r3 r4 r5 e0 e2
  exact ⟨⟨a0, a1, a2, a3, a4, a5⟩, ⟨A0, k0, A2, k2, rfl, q0, l0, m0, q2, l2, m2, b3, b4, b5⟩, fun _ => trivial, by rw [hx]; simp [one, Rows.uptoBulk]⟩
end Go.Proofs.Ytjpkddmdhdmhgaa
