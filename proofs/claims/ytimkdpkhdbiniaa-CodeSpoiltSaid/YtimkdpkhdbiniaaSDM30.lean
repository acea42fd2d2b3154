/- Parts of a proof, joined: RPut5, RPut6. -/
import Derived.Test.YtimkdpkhdbiniaaSDM06
import Derived.Test.YtimkdpkhdbiniaaSDM05
import Derived.Test.YtimkdpkhdbiniaaSDM07
import Derived.Test.YtimkdpkhdbiniaaSDM03
/- The reference's PutData: where its walk stands. -/
namespace Go.Proofs.Ytimkdpkhdbiniaa
open Go.RowKit
set_option maxRecDepth 100000

section
variable {w wr w' : World} {B g q : Nat} {F Fr F' S : Nat → Prop} {y y' : RW} {s : DS} {d : Da}
end
theorem RW.name_le {y : RW} (n : List (List UInt8)) (short : Bool) : (y.name n short).b.length ≤ y.b.length + sizeN n + 1 := by
  induction n generalizing y with
  | nil => simp [RW.name, RW.raw, sizeN]
  | cons l n ih =>
    unfold RW.name
    have h1 := sizeN_length n
    split
    · split
      · simp [RW.raw, ptrB, sizeN]; omega
      · have := ih (y := (y.note (l :: n)).label l)
        simp only [RW.label, RW.raw, RW.note_b, List.length_append, List.length_cons, sizeN] at this ⊢
        omega
    · have := ih (y := (y.note (l :: n)).label l)
      simp only [RW.label, RW.raw, RW.note_b, List.length_append, List.length_cons, sizeN] at this ⊢
      omega
end Go.Proofs.Ytimkdpkhdbiniaa

/- The reference: PutData, a walk for each type (printed by gen/rput.py). -/
namespace Go.Proofs.Ytimkdpkhdbiniaa
open Go.RowKit
set_option maxRecDepth 100000
set_option linter.unusedVariables false

end Go.Proofs.Ytimkdpkhdbiniaa
