/- Slices of bytes, and slices of those, that came in. -/
import Derived.Test.YtjpkddmdhdmhgaaOpenE
namespace Go.Proofs.Ytjpkddmdhdmhgaa
open Go.ChangeShapes Go.WideShapes Go.ChangeAt Go.RowKit
set_option maxRecDepth 100000

theorem opens_bytes : Opens 22 (slE encB) (fun l => l.length ≤ reachBytes) (wtL one) := by
  have h := opens_sl (t := 22) Try.underlying22 (by kernel_rfl) (opens_u8 Try.underlying5)
  intro H enc W base sp hd fuel cs x hx
  obtain ⟨a, h1, h2, h3⟩ := h H enc W base sp hd fuel cs x hx
  refine ⟨a, h1, fun hw => ?_, h3⟩
  have := (h2 hw).1
  rw [show Try.prog.bytesOf 5 = 1 by kernel_rfl] at this
  omega
end Go.Proofs.Ytjpkddmdhdmhgaa
