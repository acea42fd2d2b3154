/-
  No cell of these rows narrows 'for every input' (looked for: loops, veiled, ifaces, maps, wideKeys, modest, calm, conditions, laid).
  DERIVED. THE GIVEN ROWS OF THIS SEAT. 12 by the template 'for every input the law returns true; each argument reads behind the call as it read before'; 0 by the template 'total and deterministic' (their statements: YtnhjfdgdjfndiaaTotals.lean).
  GIVEN WITH THE SEED: the statements are not yours to turn. If you find one false, say at which input.
  Laid BY PROGRAM, IN A SANDBOX (cutbox-rows.mjs): the forced cells as the released guide's own fill.sh prints them over the translation 8173d86724c8c209… (all of the seat's roots in one cut). By AI agents, Wed Nov 11 2026. No macro, syntax, notation, axiom, sorry.
-/
import Derived.Test.YtnhjfdgdjfndiaaChecked
import GoSem.Claim
import GoSem.ClaimJoined
import GoSem.ClaimMapViews
import Derived.JoinedTies
import Derived.KernelRfl
namespace Go.Proofs.Ytnhjfdgdjfndiaa
/- THE CELL 'sum', in the pinned program and in every row, IS THE sha256 OF THE DUMP (.gsa) THAT YtnhjfdgdjfndiaaProg.lean LOADS. Nothing in Lean hashes anything: it is a label: what it is worth is what the hold of that sum in a sandbox is worth. -/
noncomputable def Try.pinned : Pinned := { name := "ytnhjfdgdjfndiaa", sum := "8173d86724c8c209d5d9963d0887de3efaebae7ac0659d08e3154f012b4f4059", checked := Try.checked }
namespace Rows
def none {H : Type} : Left H := { results := [], args := [] }

/-- 'gazetteerlaw01.NumPuts': WHATEVER THE INPUT: true; the input reads as it did. -/
def numPutsSpec : ChangeSpec := { name := "numPuts", fn := fun _ => fun
  | [d1, d2, d3] => { results := [.lit (.bool true)], args := [d1, d2, d3] }
  | _ => none }
def numPutsRow : OpenClaim := { program := "ytnhjfdgdjfndiaa", sum := "8173d86724c8c209d5d9963d0887de3efaebae7ac0659d08e3154f012b4f4059", func := "gazetteer/gazetteerlaw01.NumPuts", spec := "numPuts", apart := false }
def NumPutsSaid : Prop := numPutsRow.holds Try.pinned (OpenSpec.ofChange numPutsSpec)

/-- ITS FALSE NEIGHBOUR: 'it returns false'. Refute it at one input. -/
def numPutsWrong : ChangeSpec := { name := "numPuts", fn := fun _ => fun
  | [d1, d2, d3] => { results := [.lit (.bool false)], args := [d1, d2, d3] }
  | _ => none }
def NumPutsWrongFalsely : Prop := numPutsRow.holds Try.pinned (OpenSpec.ofChange numPutsWrong)

/-- 'gazetteerlaw01.NumOrder': WHATEVER THE INPUT: true; the input reads as it did. -/
def numOrderSpec : ChangeSpec := { name := "numOrder", fn := fun _ => fun
  | [d1, d2, d3] => { results := [.lit (.bool true)], args := [d1, d2, d3] }
  | _ => none }
def numOrderRow : OpenClaim := { program := "ytnhjfdgdjfndiaa", sum := "8173d86724c8c209d5d9963d0887de3efaebae7ac0659d08e3154f012b4f4059", func := "gazetteer/gazetteerlaw01.NumOrder", spec := "numOrder", apart := false }
def NumOrderSaid : Prop := numOrderRow.holds Try.pinned (OpenSpec.ofChange numOrderSpec)

/-- ITS FALSE NEIGHBOUR: 'it returns false'. Refute it at one input. -/
def numOrderWrong : ChangeSpec := { name := "numOrder", fn := fun _ => fun
  | [d1, d2, d3] => { results := [.lit (.bool false)], args := [d1, d2, d3] }
  | _ => none }
def NumOrderWrongFalsely : Prop := numOrderRow.holds Try.pinned (OpenSpec.ofChange numOrderWrong)

/-- 'gazetteerlaw01.NumKeeps': WHATEVER THE INPUT: true; the input reads as it did. -/
def numKeepsSpec : ChangeSpec := { name := "numKeeps", fn := fun _ => fun
  | [d1, d2] => { results := [.lit (.bool true)], args := [d1, d2] }
  | _ => none }
def numKeepsRow : OpenClaim := { program := "ytnhjfdgdjfndiaa", sum := "8173d86724c8c209d5d9963d0887de3efaebae7ac0659d08e3154f012b4f4059", func := "gazetteer/gazetteerlaw01.NumKeeps", spec := "numKeeps", apart := false }
def NumKeepsSaid : Prop := numKeepsRow.holds Try.pinned (OpenSpec.ofChange numKeepsSpec)

/-- ITS FALSE NEIGHBOUR: 'it returns false'. Refute it at one input. -/
def numKeepsWrong : ChangeSpec := { name := "numKeeps", fn := fun _ => fun
  | [d1, d2] => { results := [.lit (.bool false)], args := [d1, d2] }
  | _ => none }
def NumKeepsWrongFalsely : Prop := numKeepsRow.holds Try.pinned (OpenSpec.ofChange numKeepsWrong)

/-- 'gazetteerlaw19.PickNext': WHATEVER THE INPUT: true; the input reads as it did. -/
def pickNextSpec : ChangeSpec := { name := "pickNext", fn := fun _ => fun
  | [d1, d2, d3] => { results := [.lit (.bool true)], args := [d1, d2, d3] }
  | _ => none }
def pickNextRow : OpenClaim := { program := "ytnhjfdgdjfndiaa", sum := "8173d86724c8c209d5d9963d0887de3efaebae7ac0659d08e3154f012b4f4059", func := "gazetteer/gazetteerlaw19.PickNext", spec := "pickNext", apart := false }
def PickNextSaid : Prop := pickNextRow.holds Try.pinned (OpenSpec.ofChange pickNextSpec)

/-- ITS FALSE NEIGHBOUR: 'it returns false'. Refute it at one input. -/
def pickNextWrong : ChangeSpec := { name := "pickNext", fn := fun _ => fun
  | [d1, d2, d3] => { results := [.lit (.bool false)], args := [d1, d2, d3] }
  | _ => none }
def PickNextWrongFalsely : Prop := pickNextRow.holds Try.pinned (OpenSpec.ofChange pickNextWrong)

/-- 'gazetteerlaw01.NumGets': WHATEVER THE INPUT: true; the input reads as it did. -/
def numGetsSpec : ChangeSpec := { name := "numGets", fn := fun _ => fun
  | [d1, d2, d3] => { results := [.lit (.bool true)], args := [d1, d2, d3] }
  | _ => none }
def numGetsRow : OpenClaim := { program := "ytnhjfdgdjfndiaa", sum := "8173d86724c8c209d5d9963d0887de3efaebae7ac0659d08e3154f012b4f4059", func := "gazetteer/gazetteerlaw01.NumGets", spec := "numGets", apart := false }
def NumGetsSaid : Prop := numGetsRow.holds Try.pinned (OpenSpec.ofChange numGetsSpec)

/-- ITS FALSE NEIGHBOUR: 'it returns false'. Refute it at one input. -/
def numGetsWrong : ChangeSpec := { name := "numGets", fn := fun _ => fun
  | [d1, d2, d3] => { results := [.lit (.bool false)], args := [d1, d2, d3] }
  | _ => none }
def NumGetsWrongFalsely : Prop := numGetsRow.holds Try.pinned (OpenSpec.ofChange numGetsWrong)

/-- 'gazetteerlaw01.NumBack': WHATEVER THE INPUT: true; the input reads as it did. -/
def numBackSpec : ChangeSpec := { name := "numBack", fn := fun _ => fun
  | [d1, d2, d3] => { results := [.lit (.bool true)], args := [d1, d2, d3] }
  | _ => none }
def numBackRow : OpenClaim := { program := "ytnhjfdgdjfndiaa", sum := "8173d86724c8c209d5d9963d0887de3efaebae7ac0659d08e3154f012b4f4059", func := "gazetteer/gazetteerlaw01.NumBack", spec := "numBack", apart := false }
def NumBackSaid : Prop := numBackRow.holds Try.pinned (OpenSpec.ofChange numBackSpec)

/-- ITS FALSE NEIGHBOUR: 'it returns false'. Refute it at one input. -/
def numBackWrong : ChangeSpec := { name := "numBack", fn := fun _ => fun
  | [d1, d2, d3] => { results := [.lit (.bool false)], args := [d1, d2, d3] }
  | _ => none }
def NumBackWrongFalsely : Prop := numBackRow.holds Try.pinned (OpenSpec.ofChange numBackWrong)

/-- 'gazetteerlaw09.SectorSeals': WHATEVER THE INPUT: true; the input reads as it did. -/
def sectorSealsSpec : ChangeSpec := { name := "sectorSeals", fn := fun _ => fun
  | [d1, d2] => { results := [.lit (.bool true)], args := [d1, d2] }
  | _ => none }
def sectorSealsRow : OpenClaim := { program := "ytnhjfdgdjfndiaa", sum := "8173d86724c8c209d5d9963d0887de3efaebae7ac0659d08e3154f012b4f4059", func := "gazetteer/gazetteerlaw09.SectorSeals", spec := "sectorSeals", apart := false }
def SectorSealsSaid : Prop := sectorSealsRow.holds Try.pinned (OpenSpec.ofChange sectorSealsSpec)

/-- ITS FALSE NEIGHBOUR: 'it returns false'. Refute it at one input. -/
def sectorSealsWrong : ChangeSpec := { name := "sectorSeals", fn := fun _ => fun
  | [d1, d2] => { results := [.lit (.bool false)], args := [d1, d2] }
  | _ => none }
def SectorSealsWrongFalsely : Prop := sectorSealsRow.holds Try.pinned (OpenSpec.ofChange sectorSealsWrong)

/-- 'gazetteerlaw09.SectorParts': WHATEVER THE INPUT: true; the input reads as it did. -/
def sectorPartsSpec : ChangeSpec := { name := "sectorParts", fn := fun _ => fun
  | [d1, d2, d3] => { results := [.lit (.bool true)], args := [d1, d2, d3] }
  | _ => none }
def sectorPartsRow : OpenClaim := { program := "ytnhjfdgdjfndiaa", sum := "8173d86724c8c209d5d9963d0887de3efaebae7ac0659d08e3154f012b4f4059", func := "gazetteer/gazetteerlaw09.SectorParts", spec := "sectorParts", apart := false }
def SectorPartsSaid : Prop := sectorPartsRow.holds Try.pinned (OpenSpec.ofChange sectorPartsSpec)

/-- ITS FALSE NEIGHBOUR: 'it returns false'. Refute it at one input. -/
def sectorPartsWrong : ChangeSpec := { name := "sectorParts", fn := fun _ => fun
  | [d1, d2, d3] => { results := [.lit (.bool false)], args := [d1, d2, d3] }
  | _ => none }
def SectorPartsWrongFalsely : Prop := sectorPartsRow.holds Try.pinned (OpenSpec.ofChange sectorPartsWrong)

/-- 'gazetteerlaw03.WnameReads': WHATEVER THE INPUT: true; the input reads as it did. -/
def wnameReadsSpec : ChangeSpec := { name := "wnameReads", fn := fun _ => fun
  | [d1, d2] => { results := [.lit (.bool true)], args := [d1, d2] }
  | _ => none }
def wnameReadsRow : OpenClaim := { program := "ytnhjfdgdjfndiaa", sum := "8173d86724c8c209d5d9963d0887de3efaebae7ac0659d08e3154f012b4f4059", func := "gazetteer/gazetteerlaw03.WnameReads", spec := "wnameReads", apart := false }
def WnameReadsSaid : Prop := wnameReadsRow.holds Try.pinned (OpenSpec.ofChange wnameReadsSpec)

/-- ITS FALSE NEIGHBOUR: 'it returns false'. Refute it at one input. -/
def wnameReadsWrong : ChangeSpec := { name := "wnameReads", fn := fun _ => fun
  | [d1, d2] => { results := [.lit (.bool false)], args := [d1, d2] }
  | _ => none }
def WnameReadsWrongFalsely : Prop := wnameReadsRow.holds Try.pinned (OpenSpec.ofChange wnameReadsWrong)

/-- 'gazetteerlaw03.WnameLoops': WHATEVER THE INPUT: true; the input reads as it did. -/
def wnameLoopsSpec : ChangeSpec := { name := "wnameLoops", fn := fun _ => fun
  | [d1, d2, d3] => { results := [.lit (.bool true)], args := [d1, d2, d3] }
  | _ => none }
def wnameLoopsRow : OpenClaim := { program := "ytnhjfdgdjfndiaa", sum := "8173d86724c8c209d5d9963d0887de3efaebae7ac0659d08e3154f012b4f4059", func := "gazetteer/gazetteerlaw03.WnameLoops", spec := "wnameLoops", apart := false }
def WnameLoopsSaid : Prop := wnameLoopsRow.holds Try.pinned (OpenSpec.ofChange wnameLoopsSpec)

/-- ITS FALSE NEIGHBOUR: 'it returns false'. Refute it at one input. -/
def wnameLoopsWrong : ChangeSpec := { name := "wnameLoops", fn := fun _ => fun
  | [d1, d2, d3] => { results := [.lit (.bool false)], args := [d1, d2, d3] }
  | _ => none }
def WnameLoopsWrongFalsely : Prop := wnameLoopsRow.holds Try.pinned (OpenSpec.ofChange wnameLoopsWrong)

/-- 'gazetteerlaw19.PickFair': WHATEVER THE INPUT: true; the input reads as it did. -/
def pickFairSpec : ChangeSpec := { name := "pickFair", fn := fun _ => fun
  | [d1, d2, d3] => { results := [.lit (.bool true)], args := [d1, d2, d3] }
  | _ => none }
def pickFairRow : OpenClaim := { program := "ytnhjfdgdjfndiaa", sum := "8173d86724c8c209d5d9963d0887de3efaebae7ac0659d08e3154f012b4f4059", func := "gazetteer/gazetteerlaw19.PickFair", spec := "pickFair", unfollowed := true, recurses := true, apart := false }
def PickFairSaid : Prop := pickFairRow.holds Try.pinned (OpenSpec.ofChange pickFairSpec)

/-- ITS FALSE NEIGHBOUR: 'it returns false'. Refute it at one input. -/
def pickFairWrong : ChangeSpec := { name := "pickFair", fn := fun _ => fun
  | [d1, d2, d3] => { results := [.lit (.bool false)], args := [d1, d2, d3] }
  | _ => none }
def PickFairWrongFalsely : Prop := pickFairRow.holds Try.pinned (OpenSpec.ofChange pickFairWrong)

/-- 'gazetteerlaw19.PickBad': WHATEVER THE INPUT: true; the input reads as it did. -/
def pickBadSpec : ChangeSpec := { name := "pickBad", fn := fun _ => fun
  | [d1, d2, d3, d4] => { results := [.lit (.bool true)], args := [d1, d2, d3, d4] }
  | _ => none }
def pickBadRow : OpenClaim := { program := "ytnhjfdgdjfndiaa", sum := "8173d86724c8c209d5d9963d0887de3efaebae7ac0659d08e3154f012b4f4059", func := "gazetteer/gazetteerlaw19.PickBad", spec := "pickBad", unfollowed := true, recurses := true, apart := false }
def PickBadSaid : Prop := pickBadRow.holds Try.pinned (OpenSpec.ofChange pickBadSpec)

/-- ITS FALSE NEIGHBOUR: 'it returns false'. Refute it at one input. -/
def pickBadWrong : ChangeSpec := { name := "pickBad", fn := fun _ => fun
  | [d1, d2, d3, d4] => { results := [.lit (.bool false)], args := [d1, d2, d3, d4] }
  | _ => none }
def PickBadWrongFalsely : Prop := pickBadRow.holds Try.pinned (OpenSpec.ofChange pickBadWrong)

/- THE SECOND FORM. 'bulk': how many values and letters a reading holds, each counted each time it is reached (what is shared counts as often as it is met; a slice's spare places count too). A statement '..UptoSaid' is the law's where the arguments, and the package variables that the reading takes, are together of bulk at most 1048576: NARROWER than '..Said'. Prove '..Said' where nothing that the law and all that it calls make is longer than what came in: it says more and counts as full. Else prove '..UptoSaid'. A law counts once. -/
mutual
def uptoBulk {H : Type} : DataW H → Nat
  | .lit (.string bytes) => bytes.length + 1
  | .lit _ => 1
  | .nil => 1
  | .ptr d => uptoBulk d + 1
  | .slice elems spare => uptoBulkAll elems + uptoBulkAll spare + 1
  | .agg parts => uptoBulkAll parts + 1
  | .iface _ d => uptoBulk d + 1
  | .map entries => uptoBulkEntries entries + 1
  | .held _ => 1
def uptoBulkAll {H : Type} : List (DataW H) → Nat
  | [] => 0
  | d :: r => uptoBulk d + uptoBulkAll r
def uptoBulkEntries {H : Type} : List (Lit × DataW H) → Nat
  | [] => 0
  | x :: r => uptoBulkEntry x + uptoBulkEntries r
def uptoBulkEntry {H : Type} : Lit × DataW H → Nat
  | (.string bytes, d) => bytes.length + uptoBulk d + 1
  | (_, d) => uptoBulk d + 1
 end
def uptoSmall : (H : Type) → List (DataW H) → Bool := fun _ ds => decide (uptoBulkAll ds ≤ 1048576)
def OpenSpec.upto (s : _root_.Go.ChangeSpec) : _root_.Go.OpenSpec := { _root_.Go.OpenSpec.ofChange s with cond := some uptoSmall }

/-- 'gazetteerlaw01.NumPuts', WHERE WHAT IT READS IS OF BULK AT MOST 1048576: true; the input reads as it did. -/
def numPutsUptoRow : OpenClaim := { program := "ytnhjfdgdjfndiaa", sum := "8173d86724c8c209d5d9963d0887de3efaebae7ac0659d08e3154f012b4f4059", func := "gazetteer/gazetteerlaw01.NumPuts", spec := "numPuts", apart := false, narrowed := true }
def NumPutsUptoSaid : Prop := numPutsUptoRow.holds Try.pinned (OpenSpec.upto numPutsSpec)

/-- 'gazetteerlaw01.NumOrder', WHERE WHAT IT READS IS OF BULK AT MOST 1048576: true; the input reads as it did. -/
def numOrderUptoRow : OpenClaim := { program := "ytnhjfdgdjfndiaa", sum := "8173d86724c8c209d5d9963d0887de3efaebae7ac0659d08e3154f012b4f4059", func := "gazetteer/gazetteerlaw01.NumOrder", spec := "numOrder", apart := false, narrowed := true }
def NumOrderUptoSaid : Prop := numOrderUptoRow.holds Try.pinned (OpenSpec.upto numOrderSpec)

/-- 'gazetteerlaw01.NumKeeps', WHERE WHAT IT READS IS OF BULK AT MOST 1048576: true; the input reads as it did. -/
def numKeepsUptoRow : OpenClaim := { program := "ytnhjfdgdjfndiaa", sum := "8173d86724c8c209d5d9963d0887de3efaebae7ac0659d08e3154f012b4f4059", func := "gazetteer/gazetteerlaw01.NumKeeps", spec := "numKeeps", apart := false, narrowed := true }
def NumKeepsUptoSaid : Prop := numKeepsUptoRow.holds Try.pinned (OpenSpec.upto numKeepsSpec)

/-- 'gazetteerlaw19.PickNext', WHERE WHAT IT READS IS OF BULK AT MOST 1048576: true; the input reads as it did. -/
def pickNextUptoRow : OpenClaim := { program := "ytnhjfdgdjfndiaa", sum := "8173d86724c8c209d5d9963d0887de3efaebae7ac0659d08e3154f012b4f4059", func := "gazetteer/gazetteerlaw19.PickNext", spec := "pickNext", apart := false, narrowed := true }
def PickNextUptoSaid : Prop := pickNextUptoRow.holds Try.pinned (OpenSpec.upto pickNextSpec)

/-- 'gazetteerlaw01.NumGets', WHERE WHAT IT READS IS OF BULK AT MOST 1048576: true; the input reads as it did. -/
def numGetsUptoRow : OpenClaim := { program := "ytnhjfdgdjfndiaa", sum := "8173d86724c8c209d5d9963d0887de3efaebae7ac0659d08e3154f012b4f4059", func := "gazetteer/gazetteerlaw01.NumGets", spec := "numGets", apart := false, narrowed := true }
def NumGetsUptoSaid : Prop := numGetsUptoRow.holds Try.pinned (OpenSpec.upto numGetsSpec)

/-- 'gazetteerlaw01.NumBack', WHERE WHAT IT READS IS OF BULK AT MOST 1048576: true; the input reads as it did. -/
def numBackUptoRow : OpenClaim := { program := "ytnhjfdgdjfndiaa", sum := "8173d86724c8c209d5d9963d0887de3efaebae7ac0659d08e3154f012b4f4059", func := "gazetteer/gazetteerlaw01.NumBack", spec := "numBack", apart := false, narrowed := true }
def NumBackUptoSaid : Prop := numBackUptoRow.holds Try.pinned (OpenSpec.upto numBackSpec)

/-- 'gazetteerlaw09.SectorSeals', WHERE WHAT IT READS IS OF BULK AT MOST 1048576: true; the input reads as it did. -/
def sectorSealsUptoRow : OpenClaim := { program := "ytnhjfdgdjfndiaa", sum := "8173d86724c8c209d5d9963d0887de3efaebae7ac0659d08e3154f012b4f4059", func := "gazetteer/gazetteerlaw09.SectorSeals", spec := "sectorSeals", apart := false, narrowed := true }
def SectorSealsUptoSaid : Prop := sectorSealsUptoRow.holds Try.pinned (OpenSpec.upto sectorSealsSpec)

/-- 'gazetteerlaw09.SectorParts', WHERE WHAT IT READS IS OF BULK AT MOST 1048576: true; the input reads as it did. -/
def sectorPartsUptoRow : OpenClaim := { program := "ytnhjfdgdjfndiaa", sum := "8173d86724c8c209d5d9963d0887de3efaebae7ac0659d08e3154f012b4f4059", func := "gazetteer/gazetteerlaw09.SectorParts", spec := "sectorParts", apart := false, narrowed := true }
def SectorPartsUptoSaid : Prop := sectorPartsUptoRow.holds Try.pinned (OpenSpec.upto sectorPartsSpec)

/-- 'gazetteerlaw03.WnameReads', WHERE WHAT IT READS IS OF BULK AT MOST 1048576: true; the input reads as it did. -/
def wnameReadsUptoRow : OpenClaim := { program := "ytnhjfdgdjfndiaa", sum := "8173d86724c8c209d5d9963d0887de3efaebae7ac0659d08e3154f012b4f4059", func := "gazetteer/gazetteerlaw03.WnameReads", spec := "wnameReads", apart := false, narrowed := true }
def WnameReadsUptoSaid : Prop := wnameReadsUptoRow.holds Try.pinned (OpenSpec.upto wnameReadsSpec)

/-- 'gazetteerlaw03.WnameLoops', WHERE WHAT IT READS IS OF BULK AT MOST 1048576: true; the input reads as it did. -/
def wnameLoopsUptoRow : OpenClaim := { program := "ytnhjfdgdjfndiaa", sum := "8173d86724c8c209d5d9963d0887de3efaebae7ac0659d08e3154f012b4f4059", func := "gazetteer/gazetteerlaw03.WnameLoops", spec := "wnameLoops", apart := false, narrowed := true }
def WnameLoopsUptoSaid : Prop := wnameLoopsUptoRow.holds Try.pinned (OpenSpec.upto wnameLoopsSpec)

/-- 'gazetteerlaw19.PickFair', WHERE WHAT IT READS IS OF BULK AT MOST 1048576: true; the input reads as it did. -/
def pickFairUptoRow : OpenClaim := { program := "ytnhjfdgdjfndiaa", sum := "8173d86724c8c209d5d9963d0887de3efaebae7ac0659d08e3154f012b4f4059", func := "gazetteer/gazetteerlaw19.PickFair", spec := "pickFair", unfollowed := true, recurses := true, apart := false, narrowed := true }
def PickFairUptoSaid : Prop := pickFairUptoRow.holds Try.pinned (OpenSpec.upto pickFairSpec)

/-- 'gazetteerlaw19.PickBad', WHERE WHAT IT READS IS OF BULK AT MOST 1048576: true; the input reads as it did. -/
def pickBadUptoRow : OpenClaim := { program := "ytnhjfdgdjfndiaa", sum := "8173d86724c8c209d5d9963d0887de3efaebae7ac0659d08e3154f012b4f4059", func := "gazetteer/gazetteerlaw19.PickBad", spec := "pickBad", unfollowed := true, recurses := true, apart := false, narrowed := true }
def PickBadUptoSaid : Prop := pickBadUptoRow.holds Try.pinned (OpenSpec.upto pickBadSpec)

end Rows
end Go.Proofs.Ytnhjfdgdjfndiaa
