/- Parts of a proof, joined: RrSnd, MsSnd, OwnMsg, MsSnd2, MsBnd. -/
import Derived.Test.YtimkdpkhdbiniaaM06
import Derived.Test.YtimkdpkhdbiniaaM05
import Derived.Test.YtimkdpkhdbiniaaM10
import Derived.Test.YtimkdpkhdbiniaaM11
import Derived.Test.YtimkdpkhdbiniaaM02
import Derived.Test.YtimkdpkhdbiniaaM07b
import Derived.Test.YtimkdpkhdbiniaaM03
/- rr: may a record be? The program's and the reference's. -/
namespace Go.Proofs.Ytimkdpkhdbiniaa
open Go.RowKit
set_option maxRecDepth 100000

theorem RRow.made (w : World) (s : RS) (x : RR) : RRow (w.alloc (.cells (rrCells s x) 84)) w.heap.size s x := heap_alloc_new w _


end Go.Proofs.Ytimkdpkhdbiniaa

/- msg: what may be: a question, a record; the closures; the sections. -/
namespace Go.Proofs.Ytimkdpkhdbiniaa
open Go.RowKit
set_option maxRecDepth 100000

end Go.Proofs.Ytimkdpkhdbiniaa

/- The reference's OwnMsg: a message that shares nothing. -/
namespace Go.Proofs.Ytimkdpkhdbiniaa
open Go.RowKit
set_option maxRecDepth 100000

end Go.Proofs.Ytimkdpkhdbiniaa

/- msg.Sound: may a message be? -/
namespace Go.Proofs.Ytimkdpkhdbiniaa
open Go.RowKit
set_option maxRecDepth 100000

end Go.Proofs.Ytimkdpkhdbiniaa

/- Messages: how much is written of one. No program in it. -/
namespace Go.Proofs.Ytimkdpkhdbiniaa
open Go.RowKit
set_option maxRecDepth 100000

end Go.Proofs.Ytimkdpkhdbiniaa
