/-
  No cell of these rows narrows 'for every input' (looked for: loops, veiled, ifaces, maps, wideKeys, modest, calm, conditions, laid).
  DERIVED. THE GIVEN ROWS OF THIS SEAT. 11 by the template 'for every input the law returns true; each argument reads behind the call as it read before'; 0 by the template 'total and deterministic' (their statements: YtimkdpkhdbiniaaTotals.lean).
  GIVEN WITH THE SEED: the statements are not yours to turn. If you find one false, say at which input.
  Laid BY PROGRAM, IN A SANDBOX (cutbox-rows.mjs): the forced cells as the released guide's own fill.sh prints them over the translation b0dc6e52b2e34fe5… (all of the seat's roots in one cut). By AI agents, Wed Nov 11 2026. No macro, syntax, notation, axiom, sorry.
-/
import Derived.Test.YtimkdpkhdbiniaaChecked
import GoSem.Claim
import GoSem.ClaimJoined
import GoSem.ClaimMapViews
import Derived.JoinedTies
import Derived.KernelRfl
namespace Go.Proofs.Ytimkdpkhdbiniaa
/- THE CELL 'sum', in the pinned program and in every row, IS THE sha256 OF THE DUMP (.gsa) THAT YtimkdpkhdbiniaaProg.lean LOADS. Nothing in Lean hashes anything: it is a label: what it is worth is what the hold of that sum in a sandbox is worth. -/
noncomputable def Try.pinned : Pinned := { name := "ytimkdpkhdbiniaa", sum := "b0dc6e52b2e34fe500196b68891056866f18aa3b5a8fa73a174a4379f1d1676d", checked := Try.checked }
namespace Rows
def none {H : Type} : Left H := { results := [], args := [] }

/-- 'gazetteerlaw18.ScrubGuess': WHATEVER THE INPUT: true; the input reads as it did. -/
def scrubGuessSpec : ChangeSpec := { name := "scrubGuess", fn := fun _ => fun
  | [d1, d2, d3, d4] => { results := [.lit (.bool true)], args := [d1, d2, d3, d4] }
  | _ => none }
def scrubGuessRow : OpenClaim := { program := "ytimkdpkhdbiniaa", sum := "b0dc6e52b2e34fe500196b68891056866f18aa3b5a8fa73a174a4379f1d1676d", func := "gazetteer/gazetteerlaw18.ScrubGuess", spec := "scrubGuess", unfollowed := true, recurses := true, apart := false }
def ScrubGuessSaid : Prop := scrubGuessRow.holds Try.pinned (OpenSpec.ofChange scrubGuessSpec)

/-- ITS FALSE NEIGHBOUR: 'it returns false'. Refute it at one input. -/
def scrubGuessWrong : ChangeSpec := { name := "scrubGuess", fn := fun _ => fun
  | [d1, d2, d3, d4] => { results := [.lit (.bool false)], args := [d1, d2, d3, d4] }
  | _ => none }
def ScrubGuessWrongFalsely : Prop := scrubGuessRow.holds Try.pinned (OpenSpec.ofChange scrubGuessWrong)

/-- 'gazetteerlaw15.CodeEncodes': WHATEVER THE INPUT: true; the input reads as it did. -/
def codeEncodesSpec : ChangeSpec := { name := "codeEncodes", fn := fun _ => fun
  | [d] => { results := [.lit (.bool true)], args := [d] }
  | _ => none }
def codeEncodesRow : OpenClaim := { program := "ytimkdpkhdbiniaa", sum := "b0dc6e52b2e34fe500196b68891056866f18aa3b5a8fa73a174a4379f1d1676d", func := "gazetteer/gazetteerlaw15.CodeEncodes", spec := "codeEncodes", unfollowed := true, recurses := true, apart := false }
def CodeEncodesSaid : Prop := codeEncodesRow.holds Try.pinned (OpenSpec.ofChange codeEncodesSpec)

/-- ITS FALSE NEIGHBOUR: 'it returns false'. Refute it at one input. -/
def codeEncodesWrong : ChangeSpec := { name := "codeEncodes", fn := fun _ => fun
  | [d] => { results := [.lit (.bool false)], args := [d] }
  | _ => none }
def CodeEncodesWrongFalsely : Prop := codeEncodesRow.holds Try.pinned (OpenSpec.ofChange codeEncodesWrong)

/-- 'gazetteerlaw15.CodeClock': WHATEVER THE INPUT: true; the input reads as it did. -/
def codeClockSpec : ChangeSpec := { name := "codeClock", fn := fun _ => fun
  | [d1, d2, d3, d4] => { results := [.lit (.bool true)], args := [d1, d2, d3, d4] }
  | _ => none }
def codeClockRow : OpenClaim := { program := "ytimkdpkhdbiniaa", sum := "b0dc6e52b2e34fe500196b68891056866f18aa3b5a8fa73a174a4379f1d1676d", func := "gazetteer/gazetteerlaw15.CodeClock", spec := "codeClock", unfollowed := true, recurses := true, apart := false }
def CodeClockSaid : Prop := codeClockRow.holds Try.pinned (OpenSpec.ofChange codeClockSpec)

/-- ITS FALSE NEIGHBOUR: 'it returns false'. Refute it at one input. -/
def codeClockWrong : ChangeSpec := { name := "codeClock", fn := fun _ => fun
  | [d1, d2, d3, d4] => { results := [.lit (.bool false)], args := [d1, d2, d3, d4] }
  | _ => none }
def CodeClockWrongFalsely : Prop := codeClockRow.holds Try.pinned (OpenSpec.ofChange codeClockWrong)

/-- 'gazetteerlaw15.CodeSpoilt': WHATEVER THE INPUT: true; the input reads as it did. -/
def codeSpoiltSpec : ChangeSpec := { name := "codeSpoilt", fn := fun _ => fun
  | [d1, d2, d3] => { results := [.lit (.bool true)], args := [d1, d2, d3] }
  | _ => none }
def codeSpoiltRow : OpenClaim := { program := "ytimkdpkhdbiniaa", sum := "b0dc6e52b2e34fe500196b68891056866f18aa3b5a8fa73a174a4379f1d1676d", func := "gazetteer/gazetteerlaw15.CodeSpoilt", spec := "codeSpoilt", unfollowed := true, recurses := true, apart := false }
def CodeSpoiltSaid : Prop := codeSpoiltRow.holds Try.pinned (OpenSpec.ofChange codeSpoiltSpec)

/-- ITS FALSE NEIGHBOUR: 'it returns false'. Refute it at one input. -/
def codeSpoiltWrong : ChangeSpec := { name := "codeSpoilt", fn := fun _ => fun
  | [d1, d2, d3] => { results := [.lit (.bool false)], args := [d1, d2, d3] }
  | _ => none }
def CodeSpoiltWrongFalsely : Prop := codeSpoiltRow.holds Try.pinned (OpenSpec.ofChange codeSpoiltWrong)

/-- 'gazetteerlaw13.FactZone': WHATEVER THE INPUT: true; the input reads as it did. -/
def factZoneSpec : ChangeSpec := { name := "factZone", fn := fun _ => fun
  | [d1, d2, d3, d4] => { results := [.lit (.bool true)], args := [d1, d2, d3, d4] }
  | _ => none }
def factZoneRow : OpenClaim := { program := "ytimkdpkhdbiniaa", sum := "b0dc6e52b2e34fe500196b68891056866f18aa3b5a8fa73a174a4379f1d1676d", func := "gazetteer/gazetteerlaw13.FactZone", spec := "factZone", unfollowed := true, recurses := true, apart := false }
def FactZoneSaid : Prop := factZoneRow.holds Try.pinned (OpenSpec.ofChange factZoneSpec)

/-- ITS FALSE NEIGHBOUR: 'it returns false'. Refute it at one input. -/
def factZoneWrong : ChangeSpec := { name := "factZone", fn := fun _ => fun
  | [d1, d2, d3, d4] => { results := [.lit (.bool false)], args := [d1, d2, d3, d4] }
  | _ => none }
def FactZoneWrongFalsely : Prop := factZoneRow.holds Try.pinned (OpenSpec.ofChange factZoneWrong)

/-- 'gazetteerlaw13.FactOthers': WHATEVER THE INPUT: true; the input reads as it did. -/
def factOthersSpec : ChangeSpec := { name := "factOthers", fn := fun _ => fun
  | [d1, d2, d3, d4] => { results := [.lit (.bool true)], args := [d1, d2, d3, d4] }
  | _ => none }
def factOthersRow : OpenClaim := { program := "ytimkdpkhdbiniaa", sum := "b0dc6e52b2e34fe500196b68891056866f18aa3b5a8fa73a174a4379f1d1676d", func := "gazetteer/gazetteerlaw13.FactOthers", spec := "factOthers", unfollowed := true, recurses := true, apart := false }
def FactOthersSaid : Prop := factOthersRow.holds Try.pinned (OpenSpec.ofChange factOthersSpec)

/-- ITS FALSE NEIGHBOUR: 'it returns false'. Refute it at one input. -/
def factOthersWrong : ChangeSpec := { name := "factOthers", fn := fun _ => fun
  | [d1, d2, d3, d4] => { results := [.lit (.bool false)], args := [d1, d2, d3, d4] }
  | _ => none }
def FactOthersWrongFalsely : Prop := factOthersRow.holds Try.pinned (OpenSpec.ofChange factOthersWrong)

/-- 'gazetteerlaw13.FactKeeps': WHATEVER THE INPUT: true; the input reads as it did. -/
def factKeepsSpec : ChangeSpec := { name := "factKeeps", fn := fun _ => fun
  | [d1, d2, d3] => { results := [.lit (.bool true)], args := [d1, d2, d3] }
  | _ => none }
def factKeepsRow : OpenClaim := { program := "ytimkdpkhdbiniaa", sum := "b0dc6e52b2e34fe500196b68891056866f18aa3b5a8fa73a174a4379f1d1676d", func := "gazetteer/gazetteerlaw13.FactKeeps", spec := "factKeeps", unfollowed := true, recurses := true, apart := false }
def FactKeepsSaid : Prop := factKeepsRow.holds Try.pinned (OpenSpec.ofChange factKeepsSpec)

/-- ITS FALSE NEIGHBOUR: 'it returns false'. Refute it at one input. -/
def factKeepsWrong : ChangeSpec := { name := "factKeeps", fn := fun _ => fun
  | [d1, d2, d3] => { results := [.lit (.bool false)], args := [d1, d2, d3] }
  | _ => none }
def FactKeepsWrongFalsely : Prop := factKeepsRow.holds Try.pinned (OpenSpec.ofChange factKeepsWrong)

/-- 'gazetteerlaw17.ZoneHas': WHATEVER THE INPUT: true; the input reads as it did. -/
def zoneHasSpec : ChangeSpec := { name := "zoneHas", fn := fun _ => fun
  | [d1, d2] => { results := [.lit (.bool true)], args := [d1, d2] }
  | _ => none }
def zoneHasRow : OpenClaim := { program := "ytimkdpkhdbiniaa", sum := "b0dc6e52b2e34fe500196b68891056866f18aa3b5a8fa73a174a4379f1d1676d", func := "gazetteer/gazetteerlaw17.ZoneHas", spec := "zoneHas", unfollowed := true, recurses := true, apart := false }
def ZoneHasSaid : Prop := zoneHasRow.holds Try.pinned (OpenSpec.ofChange zoneHasSpec)

/-- ITS FALSE NEIGHBOUR: 'it returns false'. Refute it at one input. -/
def zoneHasWrong : ChangeSpec := { name := "zoneHas", fn := fun _ => fun
  | [d1, d2] => { results := [.lit (.bool false)], args := [d1, d2] }
  | _ => none }
def ZoneHasWrongFalsely : Prop := zoneHasRow.holds Try.pinned (OpenSpec.ofChange zoneHasWrong)

/-- 'gazetteerlaw17.ZoneAsked': WHATEVER THE INPUT: true; the input reads as it did. -/
def zoneAskedSpec : ChangeSpec := { name := "zoneAsked", fn := fun _ => fun
  | [d1, d2] => { results := [.lit (.bool true)], args := [d1, d2] }
  | _ => none }
def zoneAskedRow : OpenClaim := { program := "ytimkdpkhdbiniaa", sum := "b0dc6e52b2e34fe500196b68891056866f18aa3b5a8fa73a174a4379f1d1676d", func := "gazetteer/gazetteerlaw17.ZoneAsked", spec := "zoneAsked", unfollowed := true, recurses := true, apart := false }
def ZoneAskedSaid : Prop := zoneAskedRow.holds Try.pinned (OpenSpec.ofChange zoneAskedSpec)

/-- ITS FALSE NEIGHBOUR: 'it returns false'. Refute it at one input. -/
def zoneAskedWrong : ChangeSpec := { name := "zoneAsked", fn := fun _ => fun
  | [d1, d2] => { results := [.lit (.bool false)], args := [d1, d2] }
  | _ => none }
def ZoneAskedWrongFalsely : Prop := zoneAskedRow.holds Try.pinned (OpenSpec.ofChange zoneAskedWrong)

/-- 'gazetteerlaw17.ZoneCases': WHATEVER THE INPUT: true; the input reads as it did. -/
def zoneCasesSpec : ChangeSpec := { name := "zoneCases", fn := fun _ => fun
  | [d1, d2] => { results := [.lit (.bool true)], args := [d1, d2] }
  | _ => none }
def zoneCasesRow : OpenClaim := { program := "ytimkdpkhdbiniaa", sum := "b0dc6e52b2e34fe500196b68891056866f18aa3b5a8fa73a174a4379f1d1676d", func := "gazetteer/gazetteerlaw17.ZoneCases", spec := "zoneCases", unfollowed := true, recurses := true, apart := false }
def ZoneCasesSaid : Prop := zoneCasesRow.holds Try.pinned (OpenSpec.ofChange zoneCasesSpec)

/-- ITS FALSE NEIGHBOUR: 'it returns false'. Refute it at one input. -/
def zoneCasesWrong : ChangeSpec := { name := "zoneCases", fn := fun _ => fun
  | [d1, d2] => { results := [.lit (.bool false)], args := [d1, d2] }
  | _ => none }
def ZoneCasesWrongFalsely : Prop := zoneCasesRow.holds Try.pinned (OpenSpec.ofChange zoneCasesWrong)

/-- 'gazetteerlaw17.ZoneKeeps': WHATEVER THE INPUT: true; the input reads as it did. -/
def zoneKeepsSpec : ChangeSpec := { name := "zoneKeeps", fn := fun _ => fun
  | [d1, d2] => { results := [.lit (.bool true)], args := [d1, d2] }
  | _ => none }
def zoneKeepsRow : OpenClaim := { program := "ytimkdpkhdbiniaa", sum := "b0dc6e52b2e34fe500196b68891056866f18aa3b5a8fa73a174a4379f1d1676d", func := "gazetteer/gazetteerlaw17.ZoneKeeps", spec := "zoneKeeps", unfollowed := true, recurses := true, apart := false }
def ZoneKeepsSaid : Prop := zoneKeepsRow.holds Try.pinned (OpenSpec.ofChange zoneKeepsSpec)

/-- ITS FALSE NEIGHBOUR: 'it returns false'. Refute it at one input. -/
def zoneKeepsWrong : ChangeSpec := { name := "zoneKeeps", fn := fun _ => fun
  | [d1, d2] => { results := [.lit (.bool false)], args := [d1, d2] }
  | _ => none }
def ZoneKeepsWrongFalsely : Prop := zoneKeepsRow.holds Try.pinned (OpenSpec.ofChange zoneKeepsWrong)

/- THE SECOND FORM. 'bulk': how many values and letters a reading holds, each counted each time it is reached (what is shared counts as often as it is met; a slice's spare places count too). A statement '..UptoSaid' is the law's where the arguments, and the package variables that the reading takes, are together of bulk at most 1048576: NARROWER than '..Said'. Prove '..Said' where nothing that the law and all that it calls make is longer than what came in: it says more and counts as full. Else prove '..UptoSaid'. A law counts once. -/
mutual
def uptoBulk {H : Type} : DataW H → Nat
  | .lit (.string bytes) => bytes.length + 1
  | .lit _ => 1
  | .nil => 1
  | .ptr d => uptoBulk d + 1
  | .slice elems spare => uptoBulkAll elems + uptoBulkAll spare + 1
  | .agg parts => uptoBulkAll parts + 1
  | .iface _ d => uptoBulk d + 1
  | .map entries => uptoBulkEntries entries + 1
  | .held _ => 1
def uptoBulkAll {H : Type} : List (DataW H) → Nat
  | [] => 0
  | d :: r => uptoBulk d + uptoBulkAll r
def uptoBulkEntries {H : Type} : List (Lit × DataW H) → Nat
  | [] => 0
  | x :: r => uptoBulkEntry x + uptoBulkEntries r
def uptoBulkEntry {H : Type} : Lit × DataW H → Nat
  | (.string bytes, d) => bytes.length + uptoBulk d + 1
  | (_, d) => uptoBulk d + 1
 end
def uptoSmall : (H : Type) → List (DataW H) → Bool := fun _ ds => decide (uptoBulkAll ds ≤ 1048576)
def OpenSpec.upto (s : _root_.Go.ChangeSpec) : _root_.Go.OpenSpec := { _root_.Go.OpenSpec.ofChange s with cond := some uptoSmall }

/-- 'gazetteerlaw18.ScrubGuess', WHERE WHAT IT READS IS OF BULK AT MOST 1048576: true; the input reads as it did. -/
def scrubGuessUptoRow : OpenClaim := { program := "ytimkdpkhdbiniaa", sum := "b0dc6e52b2e34fe500196b68891056866f18aa3b5a8fa73a174a4379f1d1676d", func := "gazetteer/gazetteerlaw18.ScrubGuess", spec := "scrubGuess", unfollowed := true, recurses := true, apart := false, narrowed := true }
def ScrubGuessUptoSaid : Prop := scrubGuessUptoRow.holds Try.pinned (OpenSpec.upto scrubGuessSpec)

/-- 'gazetteerlaw15.CodeEncodes', WHERE WHAT IT READS IS OF BULK AT MOST 1048576: true; the input reads as it did. -/
def codeEncodesUptoRow : OpenClaim := { program := "ytimkdpkhdbiniaa", sum := "b0dc6e52b2e34fe500196b68891056866f18aa3b5a8fa73a174a4379f1d1676d", func := "gazetteer/gazetteerlaw15.CodeEncodes", spec := "codeEncodes", unfollowed := true, recurses := true, apart := false, narrowed := true }
def CodeEncodesUptoSaid : Prop := codeEncodesUptoRow.holds Try.pinned (OpenSpec.upto codeEncodesSpec)

/-- 'gazetteerlaw15.CodeClock', WHERE WHAT IT READS IS OF BULK AT MOST 1048576: true; the input reads as it did. -/
def codeClockUptoRow : OpenClaim := { program := "ytimkdpkhdbiniaa", sum := "b0dc6e52b2e34fe500196b68891056866f18aa3b5a8fa73a174a4379f1d1676d", func := "gazetteer/gazetteerlaw15.CodeClock", spec := "codeClock", unfollowed := true, recurses := true, apart := false, narrowed := true }
def CodeClockUptoSaid : Prop := codeClockUptoRow.holds Try.pinned (OpenSpec.upto codeClockSpec)

/-- 'gazetteerlaw15.CodeSpoilt', WHERE WHAT IT READS IS OF BULK AT MOST 1048576: true; the input reads as it did. -/
def codeSpoiltUptoRow : OpenClaim := { program := "ytimkdpkhdbiniaa", sum := "b0dc6e52b2e34fe500196b68891056866f18aa3b5a8fa73a174a4379f1d1676d", func := "gazetteer/gazetteerlaw15.CodeSpoilt", spec := "codeSpoilt", unfollowed := true, recurses := true, apart := false, narrowed := true }
def CodeSpoiltUptoSaid : Prop := codeSpoiltUptoRow.holds Try.pinned (OpenSpec.upto codeSpoiltSpec)

/-- 'gazetteerlaw13.FactZone', WHERE WHAT IT READS IS OF BULK AT MOST 1048576: true; the input reads as it did. -/
def factZoneUptoRow : OpenClaim := { program := "ytimkdpkhdbiniaa", sum := "b0dc6e52b2e34fe500196b68891056866f18aa3b5a8fa73a174a4379f1d1676d", func := "gazetteer/gazetteerlaw13.FactZone", spec := "factZone", unfollowed := true, recurses := true, apart := false, narrowed := true }
def FactZoneUptoSaid : Prop := factZoneUptoRow.holds Try.pinned (OpenSpec.upto factZoneSpec)

/-- 'gazetteerlaw13.FactOthers', WHERE WHAT IT READS IS OF BULK AT MOST 1048576: true; the input reads as it did. -/
def factOthersUptoRow : OpenClaim := { program := "ytimkdpkhdbiniaa", sum := "b0dc6e52b2e34fe500196b68891056866f18aa3b5a8fa73a174a4379f1d1676d", func := "gazetteer/gazetteerlaw13.FactOthers", spec := "factOthers", unfollowed := true, recurses := true, apart := false, narrowed := true }
def FactOthersUptoSaid : Prop := factOthersUptoRow.holds Try.pinned (OpenSpec.upto factOthersSpec)

/-- 'gazetteerlaw13.FactKeeps', WHERE WHAT IT READS IS OF BULK AT MOST 1048576: true; the input reads as it did. -/
def factKeepsUptoRow : OpenClaim := { program := "ytimkdpkhdbiniaa", sum := "b0dc6e52b2e34fe500196b68891056866f18aa3b5a8fa73a174a4379f1d1676d", func := "gazetteer/gazetteerlaw13.FactKeeps", spec := "factKeeps", unfollowed := true, recurses := true, apart := false, narrowed := true }
def FactKeepsUptoSaid : Prop := factKeepsUptoRow.holds Try.pinned (OpenSpec.upto factKeepsSpec)

/-- 'gazetteerlaw17.ZoneHas', WHERE WHAT IT READS IS OF BULK AT MOST 1048576: true; the input reads as it did. -/
def zoneHasUptoRow : OpenClaim := { program := "ytimkdpkhdbiniaa", sum := "b0dc6e52b2e34fe500196b68891056866f18aa3b5a8fa73a174a4379f1d1676d", func := "gazetteer/gazetteerlaw17.ZoneHas", spec := "zoneHas", unfollowed := true, recurses := true, apart := false, narrowed := true }
def ZoneHasUptoSaid : Prop := zoneHasUptoRow.holds Try.pinned (OpenSpec.upto zoneHasSpec)

/-- 'gazetteerlaw17.ZoneAsked', WHERE WHAT IT READS IS OF BULK AT MOST 1048576: true; the input reads as it did. -/
def zoneAskedUptoRow : OpenClaim := { program := "ytimkdpkhdbiniaa", sum := "b0dc6e52b2e34fe500196b68891056866f18aa3b5a8fa73a174a4379f1d1676d", func := "gazetteer/gazetteerlaw17.ZoneAsked", spec := "zoneAsked", unfollowed := true, recurses := true, apart := false, narrowed := true }
def ZoneAskedUptoSaid : Prop := zoneAskedUptoRow.holds Try.pinned (OpenSpec.upto zoneAskedSpec)

/-- 'gazetteerlaw17.ZoneCases', WHERE WHAT IT READS IS OF BULK AT MOST 1048576: true; the input reads as it did. -/
def zoneCasesUptoRow : OpenClaim := { program := "ytimkdpkhdbiniaa", sum := "b0dc6e52b2e34fe500196b68891056866f18aa3b5a8fa73a174a4379f1d1676d", func := "gazetteer/gazetteerlaw17.ZoneCases", spec := "zoneCases", unfollowed := true, recurses := true, apart := false, narrowed := true }
def ZoneCasesUptoSaid : Prop := zoneCasesUptoRow.holds Try.pinned (OpenSpec.upto zoneCasesSpec)

/-- 'gazetteerlaw17.ZoneKeeps', WHERE WHAT IT READS IS OF BULK AT MOST 1048576: true; the input reads as it did. -/
def zoneKeepsUptoRow : OpenClaim := { program := "ytimkdpkhdbiniaa", sum := "b0dc6e52b2e34fe500196b68891056866f18aa3b5a8fa73a174a4379f1d1676d", func := "gazetteer/gazetteerlaw17.ZoneKeeps", spec := "zoneKeeps", unfollowed := true, recurses := true, apart := false, narrowed := true }
def ZoneKeepsUptoSaid : Prop := zoneKeepsUptoRow.holds Try.pinned (OpenSpec.upto zoneKeepsSpec)

end Rows
end Go.Proofs.Ytimkdpkhdbiniaa
