/-
  No cell of these rows narrows 'for every input' (looked for: loops, veiled, ifaces, maps, wideKeys, modest, calm, conditions, laid).
  DERIVED. THE GIVEN ROWS OF THIS SEAT. 12 by the template 'for every input the law returns true; each argument reads behind the call as it read before'; 0 by the template 'total and deterministic' (their statements: YtmkfjddighabcaaTotals.lean).
  GIVEN WITH THE SEED: the statements are not yours to turn. If you find one false, say at which input.
  Laid BY PROGRAM, IN A SANDBOX (cutbox-rows.mjs): the forced cells as the released guide's own fill.sh prints them over the translation 2edae68afab686d8… (all of the seat's roots in one cut). By AI agents, Wed Nov 11 2026. No macro, syntax, notation, axiom, sorry.
-/
import Derived.Test.YtmkfjddighabcaaChecked
import GoSem.Claim
import GoSem.ClaimJoined
import GoSem.ClaimMapViews
import Derived.JoinedTies
import Derived.KernelRfl
namespace Go.Proofs.Ytmkfjddighabcaa
/- THE CELL 'sum', in the pinned program and in every row, IS THE sha256 OF THE DUMP (.gsa) THAT YtmkfjddighabcaaProg.lean LOADS. Nothing in Lean hashes anything: it is a label: what it is worth is what the hold of that sum in a sandbox is worth. -/
noncomputable def Try.pinned : Pinned := { name := "ytmkfjddighabcaa", sum := "2edae68afab686d8449a94f5301015d399d665b95dc7839b1966e18f3abef122", checked := Try.checked }
namespace Rows
def none {H : Type} : Left H := { results := [], args := [] }

/-- 'gazetteerlaw06.MsgBack': WHATEVER THE INPUT: true; the input reads as it did. -/
def msgBackSpec : ChangeSpec := { name := "msgBack", fn := fun _ => fun
  | [d1, d2] => { results := [.lit (.bool true)], args := [d1, d2] }
  | _ => none }
def msgBackRow : OpenClaim := { program := "ytmkfjddighabcaa", sum := "2edae68afab686d8449a94f5301015d399d665b95dc7839b1966e18f3abef122", func := "gazetteer/gazetteerlaw06.MsgBack", spec := "msgBack", unfollowed := true, recurses := true, apart := false }
def MsgBackSaid : Prop := msgBackRow.holds Try.pinned (OpenSpec.ofChange msgBackSpec)

/-- ITS FALSE NEIGHBOUR: 'it returns false'. Refute it at one input. -/
def msgBackWrong : ChangeSpec := { name := "msgBack", fn := fun _ => fun
  | [d1, d2] => { results := [.lit (.bool false)], args := [d1, d2] }
  | _ => none }
def MsgBackWrongFalsely : Prop := msgBackRow.holds Try.pinned (OpenSpec.ofChange msgBackWrong)

/-- 'gazetteerlaw06.MsgCuts': WHATEVER THE INPUT: true; the input reads as it did. -/
def msgCutsSpec : ChangeSpec := { name := "msgCuts", fn := fun _ => fun
  | [d1, d2, d3] => { results := [.lit (.bool true)], args := [d1, d2, d3] }
  | _ => none }
def msgCutsRow : OpenClaim := { program := "ytmkfjddighabcaa", sum := "2edae68afab686d8449a94f5301015d399d665b95dc7839b1966e18f3abef122", func := "gazetteer/gazetteerlaw06.MsgCuts", spec := "msgCuts", unfollowed := true, recurses := true, apart := false }
def MsgCutsSaid : Prop := msgCutsRow.holds Try.pinned (OpenSpec.ofChange msgCutsSpec)

/-- ITS FALSE NEIGHBOUR: 'it returns false'. Refute it at one input. -/
def msgCutsWrong : ChangeSpec := { name := "msgCuts", fn := fun _ => fun
  | [d1, d2, d3] => { results := [.lit (.bool false)], args := [d1, d2, d3] }
  | _ => none }
def MsgCutsWrongFalsely : Prop := msgCutsRow.holds Try.pinned (OpenSpec.ofChange msgCutsWrong)

/-- 'gazetteerlaw06.MsgMany': WHATEVER THE INPUT: true; the input reads as it did. -/
def msgManySpec : ChangeSpec := { name := "msgMany", fn := fun _ => fun
  | [d1, d2] => { results := [.lit (.bool true)], args := [d1, d2] }
  | _ => none }
def msgManyRow : OpenClaim := { program := "ytmkfjddighabcaa", sum := "2edae68afab686d8449a94f5301015d399d665b95dc7839b1966e18f3abef122", func := "gazetteer/gazetteerlaw06.MsgMany", spec := "msgMany", unfollowed := true, recurses := true, apart := false }
def MsgManySaid : Prop := msgManyRow.holds Try.pinned (OpenSpec.ofChange msgManySpec)

/-- ITS FALSE NEIGHBOUR: 'it returns false'. Refute it at one input. -/
def msgManyWrong : ChangeSpec := { name := "msgMany", fn := fun _ => fun
  | [d1, d2] => { results := [.lit (.bool false)], args := [d1, d2] }
  | _ => none }
def MsgManyWrongFalsely : Prop := msgManyRow.holds Try.pinned (OpenSpec.ofChange msgManyWrong)

/-- 'gazetteerlaw06.MsgFlags': WHATEVER THE INPUT: true; the input reads as it did. -/
def msgFlagsSpec : ChangeSpec := { name := "msgFlags", fn := fun _ => fun
  | [d1, d2] => { results := [.lit (.bool true)], args := [d1, d2] }
  | _ => none }
def msgFlagsRow : OpenClaim := { program := "ytmkfjddighabcaa", sum := "2edae68afab686d8449a94f5301015d399d665b95dc7839b1966e18f3abef122", func := "gazetteer/gazetteerlaw06.MsgFlags", spec := "msgFlags", unfollowed := true, recurses := true, apart := false }
def MsgFlagsSaid : Prop := msgFlagsRow.holds Try.pinned (OpenSpec.ofChange msgFlagsSpec)

/-- ITS FALSE NEIGHBOUR: 'it returns false'. Refute it at one input. -/
def msgFlagsWrong : ChangeSpec := { name := "msgFlags", fn := fun _ => fun
  | [d1, d2] => { results := [.lit (.bool false)], args := [d1, d2] }
  | _ => none }
def MsgFlagsWrongFalsely : Prop := msgFlagsRow.holds Try.pinned (OpenSpec.ofChange msgFlagsWrong)

/-- 'gazetteerlaw18.ScrubGuess': WHATEVER THE INPUT: true; the input reads as it did. -/
def scrubGuessSpec : ChangeSpec := { name := "scrubGuess", fn := fun _ => fun
  | [d1, d2, d3, d4] => { results := [.lit (.bool true)], args := [d1, d2, d3, d4] }
  | _ => none }
def scrubGuessRow : OpenClaim := { program := "ytmkfjddighabcaa", sum := "2edae68afab686d8449a94f5301015d399d665b95dc7839b1966e18f3abef122", func := "gazetteer/gazetteerlaw18.ScrubGuess", spec := "scrubGuess", unfollowed := true, recurses := true, apart := false }
def ScrubGuessSaid : Prop := scrubGuessRow.holds Try.pinned (OpenSpec.ofChange scrubGuessSpec)

/-- ITS FALSE NEIGHBOUR: 'it returns false'. Refute it at one input. -/
def scrubGuessWrong : ChangeSpec := { name := "scrubGuess", fn := fun _ => fun
  | [d1, d2, d3, d4] => { results := [.lit (.bool false)], args := [d1, d2, d3, d4] }
  | _ => none }
def ScrubGuessWrongFalsely : Prop := scrubGuessRow.holds Try.pinned (OpenSpec.ofChange scrubGuessWrong)

/-- 'gazetteerlaw18.ScrubEcho': WHATEVER THE INPUT: true; the input reads as it did. -/
def scrubEchoSpec : ChangeSpec := { name := "scrubEcho", fn := fun _ => fun
  | [d] => { results := [.lit (.bool true)], args := [d] }
  | _ => none }
def scrubEchoRow : OpenClaim := { program := "ytmkfjddighabcaa", sum := "2edae68afab686d8449a94f5301015d399d665b95dc7839b1966e18f3abef122", func := "gazetteer/gazetteerlaw18.ScrubEcho", spec := "scrubEcho", unfollowed := true, recurses := true, apart := false }
def ScrubEchoSaid : Prop := scrubEchoRow.holds Try.pinned (OpenSpec.ofChange scrubEchoSpec)

/-- ITS FALSE NEIGHBOUR: 'it returns false'. Refute it at one input. -/
def scrubEchoWrong : ChangeSpec := { name := "scrubEcho", fn := fun _ => fun
  | [d] => { results := [.lit (.bool false)], args := [d] }
  | _ => none }
def ScrubEchoWrongFalsely : Prop := scrubEchoRow.holds Try.pinned (OpenSpec.ofChange scrubEchoWrong)

/-- 'gazetteerlaw07.CutFits': WHATEVER THE INPUT: true; the input reads as it did. -/
def cutFitsSpec : ChangeSpec := { name := "cutFits", fn := fun _ => fun
  | [d1, d2] => { results := [.lit (.bool true)], args := [d1, d2] }
  | _ => none }
def cutFitsRow : OpenClaim := { program := "ytmkfjddighabcaa", sum := "2edae68afab686d8449a94f5301015d399d665b95dc7839b1966e18f3abef122", func := "gazetteer/gazetteerlaw07.CutFits", spec := "cutFits", unfollowed := true, recurses := true, apart := false }
def CutFitsSaid : Prop := cutFitsRow.holds Try.pinned (OpenSpec.ofChange cutFitsSpec)

/-- ITS FALSE NEIGHBOUR: 'it returns false'. Refute it at one input. -/
def cutFitsWrong : ChangeSpec := { name := "cutFits", fn := fun _ => fun
  | [d1, d2] => { results := [.lit (.bool false)], args := [d1, d2] }
  | _ => none }
def CutFitsWrongFalsely : Prop := cutFitsRow.holds Try.pinned (OpenSpec.ofChange cutFitsWrong)

/-- 'gazetteerlaw07.CutWhole': WHATEVER THE INPUT: true; the input reads as it did. -/
def cutWholeSpec : ChangeSpec := { name := "cutWhole", fn := fun _ => fun
  | [d1, d2] => { results := [.lit (.bool true)], args := [d1, d2] }
  | _ => none }
def cutWholeRow : OpenClaim := { program := "ytmkfjddighabcaa", sum := "2edae68afab686d8449a94f5301015d399d665b95dc7839b1966e18f3abef122", func := "gazetteer/gazetteerlaw07.CutWhole", spec := "cutWhole", unfollowed := true, recurses := true, apart := false }
def CutWholeSaid : Prop := cutWholeRow.holds Try.pinned (OpenSpec.ofChange cutWholeSpec)

/-- ITS FALSE NEIGHBOUR: 'it returns false'. Refute it at one input. -/
def cutWholeWrong : ChangeSpec := { name := "cutWhole", fn := fun _ => fun
  | [d1, d2] => { results := [.lit (.bool false)], args := [d1, d2] }
  | _ => none }
def CutWholeWrongFalsely : Prop := cutWholeRow.holds Try.pinned (OpenSpec.ofChange cutWholeWrong)

/-- 'gazetteerlaw07.CutMore': WHATEVER THE INPUT: true; the input reads as it did. -/
def cutMoreSpec : ChangeSpec := { name := "cutMore", fn := fun _ => fun
  | [d1, d2, d3] => { results := [.lit (.bool true)], args := [d1, d2, d3] }
  | _ => none }
def cutMoreRow : OpenClaim := { program := "ytmkfjddighabcaa", sum := "2edae68afab686d8449a94f5301015d399d665b95dc7839b1966e18f3abef122", func := "gazetteer/gazetteerlaw07.CutMore", spec := "cutMore", unfollowed := true, recurses := true, apart := false }
def CutMoreSaid : Prop := cutMoreRow.holds Try.pinned (OpenSpec.ofChange cutMoreSpec)

/-- ITS FALSE NEIGHBOUR: 'it returns false'. Refute it at one input. -/
def cutMoreWrong : ChangeSpec := { name := "cutMore", fn := fun _ => fun
  | [d1, d2, d3] => { results := [.lit (.bool false)], args := [d1, d2, d3] }
  | _ => none }
def CutMoreWrongFalsely : Prop := cutMoreRow.holds Try.pinned (OpenSpec.ofChange cutMoreWrong)

/-- 'gazetteerlaw07.CutSets': WHATEVER THE INPUT: true; the input reads as it did. -/
def cutSetsSpec : ChangeSpec := { name := "cutSets", fn := fun _ => fun
  | [d1, d2, d3] => { results := [.lit (.bool true)], args := [d1, d2, d3] }
  | _ => none }
def cutSetsRow : OpenClaim := { program := "ytmkfjddighabcaa", sum := "2edae68afab686d8449a94f5301015d399d665b95dc7839b1966e18f3abef122", func := "gazetteer/gazetteerlaw07.CutSets", spec := "cutSets", unfollowed := true, recurses := true, apart := false }
def CutSetsSaid : Prop := cutSetsRow.holds Try.pinned (OpenSpec.ofChange cutSetsSpec)

/-- ITS FALSE NEIGHBOUR: 'it returns false'. Refute it at one input. -/
def cutSetsWrong : ChangeSpec := { name := "cutSets", fn := fun _ => fun
  | [d1, d2, d3] => { results := [.lit (.bool false)], args := [d1, d2, d3] }
  | _ => none }
def CutSetsWrongFalsely : Prop := cutSetsRow.holds Try.pinned (OpenSpec.ofChange cutSetsWrong)

/-- 'gazetteerlaw13.FactOthers': WHATEVER THE INPUT: true; the input reads as it did. -/
def factOthersSpec : ChangeSpec := { name := "factOthers", fn := fun _ => fun
  | [d1, d2, d3, d4] => { results := [.lit (.bool true)], args := [d1, d2, d3, d4] }
  | _ => none }
def factOthersRow : OpenClaim := { program := "ytmkfjddighabcaa", sum := "2edae68afab686d8449a94f5301015d399d665b95dc7839b1966e18f3abef122", func := "gazetteer/gazetteerlaw13.FactOthers", spec := "factOthers", unfollowed := true, recurses := true, apart := false }
def FactOthersSaid : Prop := factOthersRow.holds Try.pinned (OpenSpec.ofChange factOthersSpec)

/-- ITS FALSE NEIGHBOUR: 'it returns false'. Refute it at one input. -/
def factOthersWrong : ChangeSpec := { name := "factOthers", fn := fun _ => fun
  | [d1, d2, d3, d4] => { results := [.lit (.bool false)], args := [d1, d2, d3, d4] }
  | _ => none }
def FactOthersWrongFalsely : Prop := factOthersRow.holds Try.pinned (OpenSpec.ofChange factOthersWrong)

/-- 'gazetteerlaw15.CodeEncodes': WHATEVER THE INPUT: true; the input reads as it did. -/
def codeEncodesSpec : ChangeSpec := { name := "codeEncodes", fn := fun _ => fun
  | [d] => { results := [.lit (.bool true)], args := [d] }
  | _ => none }
def codeEncodesRow : OpenClaim := { program := "ytmkfjddighabcaa", sum := "2edae68afab686d8449a94f5301015d399d665b95dc7839b1966e18f3abef122", func := "gazetteer/gazetteerlaw15.CodeEncodes", spec := "codeEncodes", unfollowed := true, recurses := true, apart := false }
def CodeEncodesSaid : Prop := codeEncodesRow.holds Try.pinned (OpenSpec.ofChange codeEncodesSpec)

/-- ITS FALSE NEIGHBOUR: 'it returns false'. Refute it at one input. -/
def codeEncodesWrong : ChangeSpec := { name := "codeEncodes", fn := fun _ => fun
  | [d] => { results := [.lit (.bool false)], args := [d] }
  | _ => none }
def CodeEncodesWrongFalsely : Prop := codeEncodesRow.holds Try.pinned (OpenSpec.ofChange codeEncodesWrong)

/- THE SECOND FORM. 'bulk': how many values and letters a reading holds, each counted each time it is reached (what is shared counts as often as it is met; a slice's spare places count too). A statement '..UptoSaid' is the law's where the arguments, and the package variables that the reading takes, are together of bulk at most 1048576: NARROWER than '..Said'. Prove '..Said' where nothing that the law and all that it calls make is longer than what came in: it says more and counts as full. Else prove '..UptoSaid'. A law counts once. -/
mutual
def uptoBulk {H : Type} : DataW H → Nat
  | .lit (.string bytes) => bytes.length + 1
  | .lit _ => 1
  | .nil => 1
  | .ptr d => uptoBulk d + 1
  | .slice elems spare => uptoBulkAll elems + uptoBulkAll spare + 1
  | .agg parts => uptoBulkAll parts + 1
  | .iface _ d => uptoBulk d + 1
  | .map entries => uptoBulkEntries entries + 1
  | .held _ => 1
def uptoBulkAll {H : Type} : List (DataW H) → Nat
  | [] => 0
  | d :: r => uptoBulk d + uptoBulkAll r
def uptoBulkEntries {H : Type} : List (Lit × DataW H) → Nat
  | [] => 0
  | x :: r => uptoBulkEntry x + uptoBulkEntries r
def uptoBulkEntry {H : Type} : Lit × DataW H → Nat
  | (.string bytes, d) => bytes.length + uptoBulk d + 1
  | (_, d) => uptoBulk d + 1
 end
def uptoSmall : (H : Type) → List (DataW H) → Bool := fun _ ds => decide (uptoBulkAll ds ≤ 1048576)
def OpenSpec.upto (s : _root_.Go.ChangeSpec) : _root_.Go.OpenSpec := { _root_.Go.OpenSpec.ofChange s with cond := some uptoSmall }

/-- 'gazetteerlaw06.MsgBack', WHERE WHAT IT READS IS OF BULK AT MOST 1048576: true; the input reads as it did. -/
def msgBackUptoRow : OpenClaim := { program := "ytmkfjddighabcaa", sum := "2edae68afab686d8449a94f5301015d399d665b95dc7839b1966e18f3abef122", func := "gazetteer/gazetteerlaw06.MsgBack", spec := "msgBack", unfollowed := true, recurses := true, apart := false, narrowed := true }
def MsgBackUptoSaid : Prop := msgBackUptoRow.holds Try.pinned (OpenSpec.upto msgBackSpec)

/-- 'gazetteerlaw06.MsgCuts', WHERE WHAT IT READS IS OF BULK AT MOST 1048576: true; the input reads as it did. -/
def msgCutsUptoRow : OpenClaim := { program := "ytmkfjddighabcaa", sum := "2edae68afab686d8449a94f5301015d399d665b95dc7839b1966e18f3abef122", func := "gazetteer/gazetteerlaw06.MsgCuts", spec := "msgCuts", unfollowed := true, recurses := true, apart := false, narrowed := true }
def MsgCutsUptoSaid : Prop := msgCutsUptoRow.holds Try.pinned (OpenSpec.upto msgCutsSpec)

/-- 'gazetteerlaw06.MsgMany', WHERE WHAT IT READS IS OF BULK AT MOST 1048576: true; the input reads as it did. -/
def msgManyUptoRow : OpenClaim := { program := "ytmkfjddighabcaa", sum := "2edae68afab686d8449a94f5301015d399d665b95dc7839b1966e18f3abef122", func := "gazetteer/gazetteerlaw06.MsgMany", spec := "msgMany", unfollowed := true, recurses := true, apart := false, narrowed := true }
def MsgManyUptoSaid : Prop := msgManyUptoRow.holds Try.pinned (OpenSpec.upto msgManySpec)

/-- 'gazetteerlaw06.MsgFlags', WHERE WHAT IT READS IS OF BULK AT MOST 1048576: true; the input reads as it did. -/
def msgFlagsUptoRow : OpenClaim := { program := "ytmkfjddighabcaa", sum := "2edae68afab686d8449a94f5301015d399d665b95dc7839b1966e18f3abef122", func := "gazetteer/gazetteerlaw06.MsgFlags", spec := "msgFlags", unfollowed := true, recurses := true, apart := false, narrowed := true }
def MsgFlagsUptoSaid : Prop := msgFlagsUptoRow.holds Try.pinned (OpenSpec.upto msgFlagsSpec)

/-- 'gazetteerlaw18.ScrubGuess', WHERE WHAT IT READS IS OF BULK AT MOST 1048576: true; the input reads as it did. -/
def scrubGuessUptoRow : OpenClaim := { program := "ytmkfjddighabcaa", sum := "2edae68afab686d8449a94f5301015d399d665b95dc7839b1966e18f3abef122", func := "gazetteer/gazetteerlaw18.ScrubGuess", spec := "scrubGuess", unfollowed := true, recurses := true, apart := false, narrowed := true }
def ScrubGuessUptoSaid : Prop := scrubGuessUptoRow.holds Try.pinned (OpenSpec.upto scrubGuessSpec)

/-- 'gazetteerlaw18.ScrubEcho', WHERE WHAT IT READS IS OF BULK AT MOST 1048576: true; the input reads as it did. -/
def scrubEchoUptoRow : OpenClaim := { program := "ytmkfjddighabcaa", sum := "2edae68afab686d8449a94f5301015d399d665b95dc7839b1966e18f3abef122", func := "gazetteer/gazetteerlaw18.ScrubEcho", spec := "scrubEcho", unfollowed := true, recurses := true, apart := false, narrowed := true }
def ScrubEchoUptoSaid : Prop := scrubEchoUptoRow.holds Try.pinned (OpenSpec.upto scrubEchoSpec)

/-- 'gazetteerlaw07.CutFits', WHERE WHAT IT READS IS OF BULK AT MOST 1048576: true; the input reads as it did. -/
def cutFitsUptoRow : OpenClaim := { program := "ytmkfjddighabcaa", sum := "2edae68afab686d8449a94f5301015d399d665b95dc7839b1966e18f3abef122", func := "gazetteer/gazetteerlaw07.CutFits", spec := "cutFits", unfollowed := true, recurses := true, apart := false, narrowed := true }
def CutFitsUptoSaid : Prop := cutFitsUptoRow.holds Try.pinned (OpenSpec.upto cutFitsSpec)

/-- 'gazetteerlaw07.CutWhole', WHERE WHAT IT READS IS OF BULK AT MOST 1048576: true; the input reads as it did. -/
def cutWholeUptoRow : OpenClaim := { program := "ytmkfjddighabcaa", sum := "2edae68afab686d8449a94f5301015d399d665b95dc7839b1966e18f3abef122", func := "gazetteer/gazetteerlaw07.CutWhole", spec := "cutWhole", unfollowed := true, recurses := true, apart := false, narrowed := true }
def CutWholeUptoSaid : Prop := cutWholeUptoRow.holds Try.pinned (OpenSpec.upto cutWholeSpec)

/-- 'gazetteerlaw07.CutMore', WHERE WHAT IT READS IS OF BULK AT MOST 1048576: true; the input reads as it did. -/
def cutMoreUptoRow : OpenClaim := { program := "ytmkfjddighabcaa", sum := "2edae68afab686d8449a94f5301015d399d665b95dc7839b1966e18f3abef122", func := "gazetteer/gazetteerlaw07.CutMore", spec := "cutMore", unfollowed := true, recurses := true, apart := false, narrowed := true }
def CutMoreUptoSaid : Prop := cutMoreUptoRow.holds Try.pinned (OpenSpec.upto cutMoreSpec)

/-- 'gazetteerlaw07.CutSets', WHERE WHAT IT READS IS OF BULK AT MOST 1048576: true; the input reads as it did. -/
def cutSetsUptoRow : OpenClaim := { program := "ytmkfjddighabcaa", sum := "2edae68afab686d8449a94f5301015d399d665b95dc7839b1966e18f3abef122", func := "gazetteer/gazetteerlaw07.CutSets", spec := "cutSets", unfollowed := true, recurses := true, apart := false, narrowed := true }
def CutSetsUptoSaid : Prop := cutSetsUptoRow.holds Try.pinned (OpenSpec.upto cutSetsSpec)

/-- 'gazetteerlaw13.FactOthers', WHERE WHAT IT READS IS OF BULK AT MOST 1048576: true; the input reads as it did. -/
def factOthersUptoRow : OpenClaim := { program := "ytmkfjddighabcaa", sum := "2edae68afab686d8449a94f5301015d399d665b95dc7839b1966e18f3abef122", func := "gazetteer/gazetteerlaw13.FactOthers", spec := "factOthers", unfollowed := true, recurses := true, apart := false, narrowed := true }
def FactOthersUptoSaid : Prop := factOthersUptoRow.holds Try.pinned (OpenSpec.upto factOthersSpec)

/-- 'gazetteerlaw15.CodeEncodes', WHERE WHAT IT READS IS OF BULK AT MOST 1048576: true; the input reads as it did. -/
def codeEncodesUptoRow : OpenClaim := { program := "ytmkfjddighabcaa", sum := "2edae68afab686d8449a94f5301015d399d665b95dc7839b1966e18f3abef122", func := "gazetteer/gazetteerlaw15.CodeEncodes", spec := "codeEncodes", unfollowed := true, recurses := true, apart := false, narrowed := true }
def CodeEncodesUptoSaid : Prop := codeEncodesUptoRow.holds Try.pinned (OpenSpec.upto codeEncodesSpec)

end Rows
end Go.Proofs.Ytmkfjddighabcaa
