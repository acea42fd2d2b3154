/- Parts of a proof, joined: RSnd. -/
import Derived.Test.YtimkdpkhdbiniaaZCDM02
import Derived.Test.YtimkdpkhdbiniaaZCDM05
import Derived.Test.YtimkdpkhdbiniaaZCDM03
/- The reference: which data may be (printed by gen/rsound.py). -/
namespace Go.Proofs.Ytimkdpkhdbiniaa
open Go.RowKit
set_option maxRecDepth 100000
set_option linter.unusedVariables false

/-- Is nothing there but what is told? -/
def EmpN (n0 n1 n2 n3 n4 : Nat) (b h m n t : Bool) : Prop := (b = true ∨ n0 = 0) ∧ (h = true ∨ n1 = 0) ∧ (m = true ∨ n2 = 0) ∧ (n = true ∨ n3 = 0) ∧ (t = true ∨ n4 = 0)
instance (n0 n1 n2 n3 n4 : Nat) (b h m n t : Bool) : Decidable (EmpN n0 n1 n2 n3 n4 b h m n t) := by unfold EmpN; infer_instance
/-- Are there so many numbers, and does each fit? -/
def FitI (ns : List Int) (count size : Int) : Prop := (ns.length : Int) = count ∧ ∀ l ∈ ns, fitsB l size = true
instance (ns : List Int) (count size : Int) : Decidable (FitI ns count size) := by unfold FitI; infer_instance
end Go.Proofs.Ytimkdpkhdbiniaa
