/- Parts of a proof, joined: RrSnd, MsSnd, OwnMsg, MsSnd2, MsBnd. -/
import Derived.Test.YtimkdpkhdbiniaaSDM06
import Derived.Test.YtimkdpkhdbiniaaSDM05
import Derived.Test.YtimkdpkhdbiniaaSDM10
import Derived.Test.YtimkdpkhdbiniaaSDM11
import Derived.Test.YtimkdpkhdbiniaaSDM02
import Derived.Test.YtimkdpkhdbiniaaSDM07b
import Derived.Test.YtimkdpkhdbiniaaSDM03
/- rr: may a record be? The program's and the reference's. -/
namespace Go.Proofs.Ytimkdpkhdbiniaa
open Go.RowKit
set_option maxRecDepth 100000

theorem RRow.made (w : World) (s : RS) (x : RR) : RRow (w.alloc (.cells (rrCells s x) 84)) w.heap.size s x := heap_alloc_new w _


end Go.Proofs.Ytimkdpkhdbiniaa

/- msg: what may be: a question, a record; the closures; the sections. -/
namespace Go.Proofs.Ytimkdpkhdbiniaa
open Go.RowKit
set_option maxRecDepth 100000

end Go.Proofs.Ytimkdpkhdbiniaa

/- The reference's OwnMsg: a message that shares nothing. -/
namespace Go.Proofs.Ytimkdpkhdbiniaa
open Go.RowKit
set_option maxRecDepth 100000

end Go.Proofs.Ytimkdpkhdbiniaa

/- msg.Sound: may a message be? -/
namespace Go.Proofs.Ytimkdpkhdbiniaa
open Go.RowKit
set_option maxRecDepth 100000

end Go.Proofs.Ytimkdpkhdbiniaa

/- Messages: how much is written of one. No program in it. -/
namespace Go.Proofs.Ytimkdpkhdbiniaa
open Go.RowKit
set_option maxRecDepth 100000

end Go.Proofs.Ytimkdpkhdbiniaa
