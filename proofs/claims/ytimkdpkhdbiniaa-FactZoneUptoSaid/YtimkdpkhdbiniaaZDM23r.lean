/- Parts of a proof, joined: ExD, ExRR, SmMsg. -/
import Derived.Test.YtimkdpkhdbiniaaZDM03
import Derived.Test.YtimkdpkhdbiniaaZDM02
import Derived.Test.YtimkdpkhdbiniaaZDM05
import Derived.Test.YtimkdpkhdbiniaaZDM12
/- The reference's Exact: are data the same, byte by byte? -/
namespace Go.Proofs.Ytimkdpkhdbiniaa
open Go.RowKit
set_option maxRecDepth 100000

theorem sameD_refl (x : Da) : sameD x x = true := sameD_true rfl rfl rfl rfl rfl
end Go.Proofs.Ytimkdpkhdbiniaa

/- The reference's SameRR: are records the same, byte by byte? -/
namespace Go.Proofs.Ytimkdpkhdbiniaa
open Go.RowKit
set_option maxRecDepth 100000

end Go.Proofs.Ytimkdpkhdbiniaa

/- The reference's SameRRs and SameMsg, of what is the same. -/
namespace Go.Proofs.Ytimkdpkhdbiniaa
open Go.RowKit
set_option maxRecDepth 100000
set_option linter.unusedVariables false

end Go.Proofs.Ytimkdpkhdbiniaa
