/- What each law's walk ends with. -/
import Derived.Test.YtbjaphldncagjaaLib
namespace Go.Proofs.Ytbjaphldncagjaa
open Go.RowKit

/-- The law returns true, and what was there is as it was. -/
def LawT (w : World) (e : Ending) (w' : World) : Prop := e = .returned (.bool true) ∧ Below w.heap.size w w'
end Go.Proofs.Ytbjaphldncagjaa
