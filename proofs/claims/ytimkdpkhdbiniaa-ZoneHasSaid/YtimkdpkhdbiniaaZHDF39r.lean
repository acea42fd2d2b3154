/- Parts of a proof, joined: OpenQu. -/
import Derived.Test.YtimkdpkhdbiniaaZHDM05
/- Opening a question that came in. -/
namespace Go.Proofs.Ytimkdpkhdbiniaa
open Go.ChangeShapes Go.WideShapes Go.ChangeAt Go.RowKit
set_option maxRecDepth 100000

theorem open_qu {H : Type} {enc : TypeId × Value → H} {W : World} {base b0 : Nat} {sp : Nat → Bool} {hd : Bool} {r : Reach} {v : Value} {d : DataW H} {p : List MemPlace}
    (hv : Value.okWide Try.prog W r b0 25 v) (h : DataW.Trod enc Try.prog W base sp hd 25 v d p) : ∃ s x, v = quV s x ∧ QIn (ltS W) W s x := by
  obtain ⟨cs, rfl, hsz⟩ := okWide_struct Try.underlying25 hv
  rw [show Try.prog.cellsOf 25 = 3 by kernel_rfl] at hsz
  obtain ⟨l⟩ := cs
  obtain ⟨c0, c1, c2, rfl⟩ := len3 (l := l) (by simpa using hsz)
  obtain ⟨fuel, hf⟩ := h
  have hf' : DataW.trod enc Try.prog W base sp hd fuel 25 [c0, c1, c2] = some (d, p) := by simpa [Value.cells] using hf
  obtain ⟨x, ⟨A, c, hr, h1, h2, h3, h4⟩, _, _⟩ := opens_Qu _ enc W base sp hd fuel _ _ hf'
  simp at hr
  obtain ⟨rfl, rfl, rfl⟩ := hr
  exact ⟨⟨A, c⟩, x, rfl, ⟨h1, h2, h3, h4⟩⟩
end Go.Proofs.Ytimkdpkhdbiniaa
