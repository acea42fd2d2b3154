/- Parts of a proof, joined: ExD, ExRR. -/
import Derived.Test.YtimkdpkhdbiniaaZADM03
import Derived.Test.YtimkdpkhdbiniaaZADM02
import Derived.Test.YtimkdpkhdbiniaaZADM05
/- The reference's Exact: are data the same, byte by byte? -/
namespace Go.Proofs.Ytimkdpkhdbiniaa
open Go.RowKit
set_option maxRecDepth 100000

theorem sameD_refl (x : Da) : sameD x x = true := sameD_true rfl rfl rfl rfl rfl
end Go.Proofs.Ytimkdpkhdbiniaa

/- The reference's SameRR: are records the same, byte by byte? -/
namespace Go.Proofs.Ytimkdpkhdbiniaa
open Go.RowKit
set_option maxRecDepth 100000

end Go.Proofs.Ytimkdpkhdbiniaa
