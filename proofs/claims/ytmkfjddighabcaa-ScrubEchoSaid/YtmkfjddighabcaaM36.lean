/- Parts of a proof, joined: OpenOu. -/
import Derived.Test.YtmkfjddighabcaaM05
import Derived.Test.YtmkfjddighabcaaM33
/- A question, and one that is sent, that came in by value. -/
namespace Go.Proofs.Ytmkfjddighabcaa
open Go.ChangeShapes Go.WideShapes Go.ChangeAt Go.RowKit
set_option maxRecDepth 100000

theorem open_qu {H : Type} {enc : TypeId × Value → H} {W : World} {base b0 : Nat} {sp : Nat → Bool} {hd : Bool} {r : Reach} {v : Value} {d : DataW H} {p : List MemPlace}
    (hv : Value.okWide Try.prog W r b0 50 v) (h : DataW.Trod enc Try.prog W base sp hd 50 v d p) : ∃ s x, v = quV s x ∧ QIn (ltS W) W s x := by
  obtain ⟨cs, rfl, hsz⟩ := okWide_struct Try.underlying50 hv
  rw [show Try.prog.cellsOf 50 = 3 by kernel_rfl] at hsz
  obtain ⟨l⟩ := cs
  obtain ⟨c0, c1, c2, rfl⟩ := len3 (l := l) (by simpa using hsz)
  obtain ⟨fuel, hf⟩ := h
  have hf' : DataW.trod enc Try.prog W base sp hd fuel 50 [c0, c1, c2] = some (d, p) := by simpa [Value.cells] using hf
  obtain ⟨x, ⟨A, c, hr, h1, h2, h3, h4⟩, _, _⟩ := opens_Qu _ enc W base sp hd fuel _ _ hf'
  simp at hr
  obtain ⟨rfl, rfl, rfl⟩ := hr
  exact ⟨⟨A, c⟩, x, rfl, ⟨h1, h2, h3, h4⟩⟩
theorem open_ou {H : Type} {enc : TypeId × Value → H} {W : World} {base b0 : Nat} {sp : Nat → Bool} {hd : Bool} {r : Reach} {v : Value} {d : DataW H} {p : List MemPlace}
    (hv : Value.okWide Try.prog W r b0 52 v) (h : DataW.Trod enc Try.prog W base sp hd 52 v d p) : ∃ s x, v = ouV s x ∧ OIn (ltS W) W s x := by
  obtain ⟨cs, rfl, hsz⟩ := okWide_struct Try.underlying52 hv
  rw [show Try.prog.cellsOf 52 = 6 by kernel_rfl] at hsz
  obtain ⟨l⟩ := cs
  obtain ⟨c0, c1, c2, c3, c4, c5, rfl⟩ := len6 (l := l) (by simpa using hsz)
  obtain ⟨fuel, hf⟩ := h
  have hf' : DataW.trod enc Try.prog W base sp hd fuel 52 [c0, c1, c2, c3, c4, c5] = some (d, p) := by simpa [Value.cells] using hf
  obtain ⟨xs, n, hx, hc, hl, hfd, hw⟩ := trod_fields Try.underlying52 hf'
  obtain ⟨y0, e0, h0⟩ := hfd 0 _ rfl
  obtain ⟨y1, e1, h1⟩ := hfd 1 _ rfl
  obtain ⟨y2, e2, h2⟩ := hfd 2 _ rfl
  obtain ⟨y3, e3, h3⟩ := hfd 3 _ rfl
  have g0 : DataW.trod enc Try.prog W base sp hd n 26 (([c0, c1, c2, c3, c4, c5].drop 0).take (Try.prog.cellsOf 26)) = some y0 := h0
  have g1 : DataW.trod enc Try.prog W base sp hd n 3 (([c0, c1, c2, c3, c4, c5].drop 1).take (Try.prog.cellsOf 3)) = some y1 := h1
  have g2 : DataW.trod enc Try.prog W base sp hd n 3 (([c0, c1, c2, c3, c4, c5].drop 2).take (Try.prog.cellsOf 3)) = some y2 := h2
  have g3 : DataW.trod enc Try.prog W base sp hd n 50 (([c0, c1, c2, c3, c4, c5].drop 3).take (Try.prog.cellsOf 50)) = some y3 := h3
  rw [show Try.prog.cellsOf 3 = 1 by kernel_rfl] at g1 g2
  rw [show Try.prog.cellsOf 50 = 3 by kernel_rfl] at g3
  rw [show Try.prog.cellsOf 26 = 1 by kernel_rfl] at g0
  obtain ⟨a0, ⟨A0, n0, k0, r0, q0, l0, m0⟩, f0, w0⟩ := opens_sl (t := 26) Try.underlying26 (by kernel_rfl) (opens_u8 Try.underlying5) H enc W base sp hd n _ _ g0
  obtain ⟨a1, ⟨r1, b1⟩, f1, w1⟩ := opens_int Try.underlying3 H enc W base sp hd n _ _ g1
  obtain ⟨a2, ⟨r2, b2⟩, f2, w2⟩ := opens_int Try.underlying3 H enc W base sp hd n _ _ g2
  obtain ⟨a3, ⟨A3, k3, r3, q3, c3q, b3, d3⟩, f3, w3⟩ := opens_Qu H enc W base sp hd n _ _ g3
  simp at r0 r1 r2 r3
  obtain ⟨r3, r4, r5⟩ := r3
  have e0 := q0.1
  subst r0 r1 r2 r3 r4 r5 e0
  exact ⟨⟨A0, k0, ⟨A3, k3⟩⟩, ⟨a0, a1, a2, a3⟩, rfl, ⟨q0, ⟨l0, m0⟩, b1, b2, ⟨q3, c3q, b3, d3⟩⟩⟩
end Go.Proofs.Ytmkfjddighabcaa
