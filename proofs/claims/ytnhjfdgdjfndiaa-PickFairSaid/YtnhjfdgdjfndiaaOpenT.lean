/- A list of servers that came in. -/
import Derived.Test.YtnhjfdgdjfndiaaOpenE
import Derived.Test.YtnhjfdgdjfndiaaPickPlain
namespace Go.Proofs.Ytnhjfdgdjfndiaa
open Go.ChangeShapes Go.WideShapes Go.ChangeAt Go.RowKit

theorem opens_bytes : Opens 22 (slE encB) (fun l => l.length ≤ reachBytes) (wtL one) := by
  have h := opens_sl (t := 22) Try.underlying22 (by kernel_rfl) (opens_u8 Try.underlying5)
  intro H enc W base sp hd fuel cs x hx
  obtain ⟨a, h1, h2, h3⟩ := h H enc W base sp hd fuel cs x hx
  refine ⟨a, h1, fun hw => ?_, h3⟩
  have := (h2 hw).1
  rw [show Try.prog.bytesOf 5 = 1 by kernel_rfl] at this
  omega

theorem opens_T : Opens 36 encT (fun t => t.addr.length ≤ reachBytes) (fun t => wtL one t.addr + 3) := by
  intro H enc W base sp hd fuel cs x h
  obtain ⟨xs, n, hx, hc, hl, hf, hw⟩ := trod_fields Try.underlying36 h
  rw [show Try.prog.cellsOf 36 = 3 by kernel_rfl] at hc
  obtain ⟨c0, c1, c2, rfl⟩ := len3 hc
  obtain ⟨z0, z1, z2, rfl⟩ := len3 (l := xs) (by rw [hl]; rfl)
  obtain ⟨y0, e0, h0⟩ := hf 0 _ rfl
  obtain ⟨y1, e1, h1⟩ := hf 1 _ rfl
  obtain ⟨y2, e2, h2⟩ := hf 2 _ rfl
  have g0 : DataW.trod enc Try.prog W base sp hd n 22 (([c0, c1, c2].drop 0).take (Try.prog.cellsOf 22)) = some y0 := h0
  have g1 : DataW.trod enc Try.prog W base sp hd n 3 (([c0, c1, c2].drop 1).take (Try.prog.cellsOf 3)) = some y1 := h1
  have g2 : DataW.trod enc Try.prog W base sp hd n 4 (([c0, c1, c2].drop 2).take (Try.prog.cellsOf 4)) = some y2 := h2
  rw [show Try.prog.cellsOf 22 = 1 by kernel_rfl] at g0
  rw [show Try.prog.cellsOf 3 = 1 by kernel_rfl] at g1
  rw [show Try.prog.cellsOf 4 = 1 by kernel_rfl] at g2
  obtain ⟨a0, r0, f0, w0⟩ := opens_bytes H enc W base sp hd n _ _ g0
  obtain ⟨a1, ⟨r1, b1⟩, f1, w1⟩ := opens_int Try.underlying3 H enc W base sp hd n _ _ g1
  obtain ⟨a2, ⟨r2, _⟩, f2, w2⟩ := opens_bool Try.underlying4 H enc W base sp hd n _ _ g2
  simp at e0 e1 e2
  subst e0 e1 e2
  simp at r0 r1 r2
  obtain ⟨A, m, c, rr, hE, hb1, hb2⟩ := r0
  simp at rr
  subst rr r1 r2
  refine ⟨⟨a0, a1, a2⟩, ⟨A, m, c, rfl, hE, hb1, hb2, b1⟩, fun hk => f0 fun k hkk => hw _ hk k ?_, ?_⟩
  · simp only [List.map_cons, DataW.weightsEach, List.mem_append]
    exact .inl hkk
  · rw [hx]
    simp only [List.map_cons, List.map_nil, Rows.uptoBulk, Rows.uptoBulkAll, one] at w0 w1 w2 ⊢
    omega
end Go.Proofs.Ytnhjfdgdjfndiaa
