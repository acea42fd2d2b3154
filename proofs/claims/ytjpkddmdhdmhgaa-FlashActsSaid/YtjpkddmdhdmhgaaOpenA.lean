/- A list of acts that came in. -/
import Derived.Test.YtjpkddmdhdmhgaaOpenE
import Derived.Test.YtjpkddmdhdmhgaaAct
namespace Go.Proofs.Ytjpkddmdhdmhgaa
open Go.ChangeShapes Go.WideShapes Go.ChangeAt Go.RowKit

def encU64 : Enc Nat := flatE (fun n => .int .u64 (n : Int)) (fun n => n < 18446744073709551616) fun _ => rfl
set_option maxRecDepth 100000 in
theorem opens_u64 {t : TypeId} (ht : Try.prog.underlying t = some (.int .u64)) : Opens t encU64 any one := by
  intro H enc W base sp hd fuel cs x h
  obtain ⟨n, rfl, rfl, hw⟩ := DataW.trod_int ht h
  have hb := bounds_u64 hw
  refine ⟨n.toNat, ⟨?_, by omega⟩, fun _ => trivial, by simp [one, Rows.uptoBulk]⟩
  congr 2
  omega
set_option maxRecDepth 100000 in
theorem opens_A : Opens 57 encAc any one := by
  intro H enc W base sp hd fuel cs x h
  obtain ⟨xs, n, hx, hc, hl, hf, hw⟩ := trod_fields Try.underlying57 h
  rw [show Try.prog.cellsOf 57 = 5 by kernel_rfl] at hc
  obtain ⟨c0, c1, c2, c3, c4, rfl⟩ := len5 hc
  obtain ⟨z0, z1, z2, z3, z4, rfl⟩ := len5 (l := xs) (by rw [hl]; rfl)
  obtain ⟨y0, e0, h0⟩ := hf 0 _ rfl
  obtain ⟨y1, e1, h1⟩ := hf 1 _ rfl
  obtain ⟨y2, e2, h2⟩ := hf 2 _ rfl
  obtain ⟨y3, e3, h3⟩ := hf 3 _ rfl
  obtain ⟨y4, e4, h4⟩ := hf 4 _ rfl
  have g0 : DataW.trod enc Try.prog W base sp hd n 3 (([c0, c1, c2, c3, c4].drop 0).take (Try.prog.cellsOf 3)) = some y0 := h0
  have g1 : DataW.trod enc Try.prog W base sp hd n 3 (([c0, c1, c2, c3, c4].drop 1).take (Try.prog.cellsOf 3)) = some y1 := h1
  have g2 : DataW.trod enc Try.prog W base sp hd n 22 (([c0, c1, c2, c3, c4].drop 2).take (Try.prog.cellsOf 22)) = some y2 := h2
  have g3 : DataW.trod enc Try.prog W base sp hd n 40 (([c0, c1, c2, c3, c4].drop 3).take (Try.prog.cellsOf 40)) = some y3 := h3
  have g4 : DataW.trod enc Try.prog W base sp hd n 40 (([c0, c1, c2, c3, c4].drop 4).take (Try.prog.cellsOf 40)) = some y4 := h4
  rw [show Try.prog.cellsOf 3 = 1 by kernel_rfl] at g0 g1
  rw [show Try.prog.cellsOf 22 = 1 by kernel_rfl] at g2
  rw [show Try.prog.cellsOf 40 = 1 by kernel_rfl] at g3 g4
  obtain ⟨a0, ⟨r0, b0⟩, _, _⟩ := opens_int Try.underlying3 H enc W base sp hd n _ _ g0
  obtain ⟨a1, ⟨r1, b1⟩, _, _⟩ := opens_int Try.underlying3 H enc W base sp hd n _ _ g1
  obtain ⟨a2, ⟨A2, n2, k2, r2, q2, l2, m2⟩, _, _⟩ := opens_sl (t := 22) Try.underlying22 (by kernel_rfl) (opens_u8 Try.underlying5) H enc W base sp hd n _ _ g2
  obtain ⟨a3, ⟨r3, b3⟩, _, _⟩ := opens_u64 Try.underlying40 H enc W base sp hd n _ _ g3
  obtain ⟨a4, ⟨r4, b4⟩, _, _⟩ := opens_u64 Try.underlying40 H enc W base sp hd n _ _ g4
  simp at r0 r1 r2 r3 r4
  have e2 := q2.1
  subst r0 r1 r2 r3 r4 e2
  exact ⟨⟨a0, a1, a2, a3, a4⟩, ⟨A2, k2, rfl, q2, l2, m2, b0, b1, b3, b4⟩, fun _ => trivial, by rw [hx]; simp [one, Rows.uptoBulk]⟩
end Go.Proofs.Ytjpkddmdhdmhgaa
