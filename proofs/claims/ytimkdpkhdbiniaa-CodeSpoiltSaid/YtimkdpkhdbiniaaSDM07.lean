/- Parts of a proof, joined: RWName2, RWName3. -/
import Derived.Deep.RegionLaw
import Derived.Test.YtimkdpkhdbiniaaSDM06
import Derived.Test.YtimkdpkhdbiniaaSDM03
import Derived.Test.YtimkdpkhdbiniaaSDM02b
/- The reference's writer: Name. -/
namespace Go.Proofs.Ytimkdpkhdbiniaa
open Go.RowKit
set_option maxRecDepth 100000

end Go.Proofs.Ytimkdpkhdbiniaa

/- The reference's writer: Name's walk. -/
namespace Go.Proofs.Ytimkdpkhdbiniaa
open Go.RowKit

end Go.Proofs.Ytimkdpkhdbiniaa
