/- What a record says, that came in by value. -/
import Derived.Test.YtjpkddmdhdmhgaaOpenE
import Derived.Test.YtjpkddmdhdmhgaaDa
namespace Go.Proofs.Ytjpkddmdhdmhgaa
open Go.ChangeShapes Go.WideShapes Go.ChangeAt Go.RowKit
set_option maxRecDepth 100000

theorem open_data {H : Type} {enc : TypeId × Value → H} {W : World} {base b0 : Nat} {sp : Nat → Bool} {hd : Bool} {r : Reach} {v : Value} {d : DataW H} {p : List MemPlace}
    (hv : Value.okWide Try.prog W r b0 102 v) (h : DataW.Trod enc Try.prog W base sp hd 102 v d p) : ∃ s x, v = dsV s x ∧ DRd W s x := by
  obtain ⟨cs, rfl, hsz⟩ := okWide_struct Try.underlying102 hv
  rw [show Try.prog.cellsOf 102 = 5 by kernel_rfl] at hsz
  obtain ⟨l⟩ := cs
  obtain ⟨c0, c1, c2, c3, c4, rfl⟩ := len5 (l := l) (by simpa using hsz)
  obtain ⟨fuel, hf⟩ := h
  have hf' : DataW.trod enc Try.prog W base sp hd fuel 102 [c0, c1, c2, c3, c4] = some (d, p) := by simpa [Value.cells] using hf
  obtain ⟨xs, n, hx, hc, hl, hfd, hw⟩ := trod_fields Try.underlying102 hf'
  obtain ⟨y0, e0, h0⟩ := hfd 0 _ rfl
  obtain ⟨y1, e1, h1⟩ := hfd 1 _ rfl
  obtain ⟨y2, e2, h2⟩ := hfd 2 _ rfl
  obtain ⟨y3, e3, h3⟩ := hfd 3 _ rfl
  obtain ⟨y4, e4, h4⟩ := hfd 4 _ rfl
  have g0 : DataW.trod enc Try.prog W base sp hd n 22 (([c0, c1, c2, c3, c4].drop 0).take (Try.prog.cellsOf 22)) = some y0 := h0
  have g1 : DataW.trod enc Try.prog W base sp hd n 79 (([c0, c1, c2, c3, c4].drop 1).take (Try.prog.cellsOf 79)) = some y1 := h1
  have g2 : DataW.trod enc Try.prog W base sp hd n 79 (([c0, c1, c2, c3, c4].drop 2).take (Try.prog.cellsOf 79)) = some y2 := h2
  have g3 : DataW.trod enc Try.prog W base sp hd n 90 (([c0, c1, c2, c3, c4].drop 3).take (Try.prog.cellsOf 90)) = some y3 := h3
  have g4 : DataW.trod enc Try.prog W base sp hd n 79 (([c0, c1, c2, c3, c4].drop 4).take (Try.prog.cellsOf 79)) = some y4 := h4
  rw [show Try.prog.cellsOf 22 = 1 by kernel_rfl] at g0
  rw [show Try.prog.cellsOf 79 = 1 by kernel_rfl] at g1 g2 g4
  rw [show Try.prog.cellsOf 90 = 1 by kernel_rfl] at g3
  obtain ⟨a0, ⟨A0, n0, k0, r0, q0, l0, m0⟩, _, _⟩ := opens_sl (t := 22) Try.underlying22 (by kernel_rfl) (opens_u8 Try.underlying5) H enc W base sp hd n _ _ g0
  obtain ⟨a1, ⟨A1, n1, k1, r1, q1, l1, m1⟩, _, _⟩ := opens_sl (t := 79) Try.underlying79 (by kernel_rfl) (opens_str Try.underlying9) H enc W base sp hd n _ _ g1
  obtain ⟨a2, ⟨A2, n2, k2, r2, q2, l2, m2⟩, _, _⟩ := opens_sl (t := 79) Try.underlying79 (by kernel_rfl) (opens_str Try.underlying9) H enc W base sp hd n _ _ g2
  obtain ⟨a3, ⟨A3, n3, k3, r3, q3, l3, m3⟩, _, _⟩ := opens_sl (t := 90) Try.underlying90 (by kernel_rfl) (opens_int Try.underlying3) H enc W base sp hd n _ _ g3
  obtain ⟨a4, ⟨A4, n4, k4, r4, q4, l4, m4⟩, _, _⟩ := opens_sl (t := 79) Try.underlying79 (by kernel_rfl) (opens_str Try.underlying9) H enc W base sp hd n _ _ g4
  simp at r0 r1 r2 r3 r4
  have e0 := q0.1
  have e1 := q1.1
  have e2 := q2.1
  have e3 := q3.1
  have e4 := q4.1
  subst r0 r1 r2 r3 r4 e0 e1 e2 e3 e4
  exact ⟨⟨A0, A1, A2, A3, A4, k0, k1, k2, k3, k4⟩, ⟨a0, a1, a2, a3, a4⟩, rfl, ⟨els_bytes q0, q1, q2, q3, q4, ⟨l0, m0⟩, ⟨l1, m1⟩, ⟨l2, m2⟩, ⟨l3, m3⟩, ⟨l4, m4⟩⟩⟩
end Go.Proofs.Ytjpkddmdhdmhgaa
