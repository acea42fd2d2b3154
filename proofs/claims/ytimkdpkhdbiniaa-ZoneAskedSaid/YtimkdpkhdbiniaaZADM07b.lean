/- Parts of a proof, joined: RRrPlain, RRests, MsPlain. -/
import Derived.Test.YtimkdpkhdbiniaaZADM06
import Derived.Test.YtimkdpkhdbiniaaZADM05
/- The reference's PutRR, in plain Lean; that both writers write the same. No program in it. -/
namespace Go.Proofs.Ytimkdpkhdbiniaa
set_option maxRecDepth 100000

end Go.Proofs.Ytimkdpkhdbiniaa

/- The reference's writer: how many rests a record notes. No program in it. -/
namespace Go.Proofs.Ytimkdpkhdbiniaa
open Go.RowKit
set_option maxRecDepth 100000

end Go.Proofs.Ytimkdpkhdbiniaa

/- Messages, in plain Lean: which may be, and how one is written. No program in it. -/
namespace Go.Proofs.Ytimkdpkhdbiniaa
open Go.RowKit
set_option maxRecDepth 100000

section
end
end Go.Proofs.Ytimkdpkhdbiniaa
