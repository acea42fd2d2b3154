/-
  No cell of these rows narrows 'for every input' (looked for: loops, veiled, ifaces, maps, wideKeys, modest, calm, conditions, laid).
  DERIVED. THE GIVEN ROWS OF THIS SEAT. 12 by the template 'for every input the law returns true; each argument reads behind the call as it read before'; 0 by the template 'total and deterministic' (their statements: YtbjaphldncagjaaTotals.lean).
  GIVEN WITH THE SEED: the statements are not yours to turn. If you find one false, say at which input.
  Laid BY PROGRAM, IN A SANDBOX (cutbox-rows.mjs): the forced cells as the released guide's own fill.sh prints them over the translation d5c965af6b40f99f… (all of the seat's roots in one cut). By AI agents, Wed Nov 11 2026. No macro, syntax, notation, axiom, sorry.
-/
import Derived.Test.YtbjaphldncagjaaChecked
import GoSem.Claim
import GoSem.ClaimJoined
import GoSem.ClaimMapViews
import Derived.JoinedTies
import Derived.KernelRfl
namespace Go.Proofs.Ytbjaphldncagjaa
/- THE CELL 'sum', in the pinned program and in every row, IS THE sha256 OF THE DUMP (.gsa) THAT YtbjaphldncagjaaProg.lean LOADS. Nothing in Lean hashes anything: it is a label: what it is worth is what the hold of that sum in a sandbox is worth. -/
noncomputable def Try.pinned : Pinned := { name := "ytbjaphldncagjaa", sum := "d5c965af6b40f99f352130961f7a4e1b11ebfa57d94aa09e6b06e143a60f4940", checked := Try.checked }
namespace Rows
def none {H : Type} : Left H := { results := [], args := [] }

/-- 'gazetteerlaw10.SuperNil': WHATEVER THE INPUT: true; the input reads as it did. -/
def superNilSpec : ChangeSpec := { name := "superNil", fn := fun _ => fun
  | [d] => { results := [.lit (.bool true)], args := [d] }
  | _ => none }
def superNilRow : OpenClaim := { program := "ytbjaphldncagjaa", sum := "d5c965af6b40f99f352130961f7a4e1b11ebfa57d94aa09e6b06e143a60f4940", func := "gazetteer/gazetteerlaw10.SuperNil", spec := "superNil", apart := false }
def SuperNilSaid : Prop := superNilRow.holds Try.pinned (OpenSpec.ofChange superNilSpec)

/-- ITS FALSE NEIGHBOUR: 'it returns false'. Refute it at one input. -/
def superNilWrong : ChangeSpec := { name := "superNil", fn := fun _ => fun
  | [d] => { results := [.lit (.bool false)], args := [d] }
  | _ => none }
def SuperNilWrongFalsely : Prop := superNilRow.holds Try.pinned (OpenSpec.ofChange superNilWrong)

/-- 'gazetteerlaw06.MsgEncodes': WHATEVER THE INPUT: true; the input reads as it did. -/
def msgEncodesSpec : ChangeSpec := { name := "msgEncodes", fn := fun _ => fun
  | [d] => { results := [.lit (.bool true)], args := [d] }
  | _ => none }
def msgEncodesRow : OpenClaim := { program := "ytbjaphldncagjaa", sum := "d5c965af6b40f99f352130961f7a4e1b11ebfa57d94aa09e6b06e143a60f4940", func := "gazetteer/gazetteerlaw06.MsgEncodes", spec := "msgEncodes", unfollowed := true, recurses := true, apart := false }
def MsgEncodesSaid : Prop := msgEncodesRow.holds Try.pinned (OpenSpec.ofChange msgEncodesSpec)

/-- ITS FALSE NEIGHBOUR: 'it returns false'. Refute it at one input. -/
def msgEncodesWrong : ChangeSpec := { name := "msgEncodes", fn := fun _ => fun
  | [d] => { results := [.lit (.bool false)], args := [d] }
  | _ => none }
def MsgEncodesWrongFalsely : Prop := msgEncodesRow.holds Try.pinned (OpenSpec.ofChange msgEncodesWrong)

/-- 'gazetteerlaw06.MsgShort': WHATEVER THE INPUT: true; the input reads as it did. -/
def msgShortSpec : ChangeSpec := { name := "msgShort", fn := fun _ => fun
  | [d1, d2] => { results := [.lit (.bool true)], args := [d1, d2] }
  | _ => none }
def msgShortRow : OpenClaim := { program := "ytbjaphldncagjaa", sum := "d5c965af6b40f99f352130961f7a4e1b11ebfa57d94aa09e6b06e143a60f4940", func := "gazetteer/gazetteerlaw06.MsgShort", spec := "msgShort", unfollowed := true, recurses := true, apart := false }
def MsgShortSaid : Prop := msgShortRow.holds Try.pinned (OpenSpec.ofChange msgShortSpec)

/-- ITS FALSE NEIGHBOUR: 'it returns false'. Refute it at one input. -/
def msgShortWrong : ChangeSpec := { name := "msgShort", fn := fun _ => fun
  | [d1, d2] => { results := [.lit (.bool false)], args := [d1, d2] }
  | _ => none }
def MsgShortWrongFalsely : Prop := msgShortRow.holds Try.pinned (OpenSpec.ofChange msgShortWrong)

/-- 'gazetteerlaw10.SuperCuts': WHATEVER THE INPUT: true; the input reads as it did. -/
def superCutsSpec : ChangeSpec := { name := "superCuts", fn := fun _ => fun
  | [d1, d2, d3, d4] => { results := [.lit (.bool true)], args := [d1, d2, d3, d4] }
  | _ => none }
def superCutsRow : OpenClaim := { program := "ytbjaphldncagjaa", sum := "d5c965af6b40f99f352130961f7a4e1b11ebfa57d94aa09e6b06e143a60f4940", func := "gazetteer/gazetteerlaw10.SuperCuts", spec := "superCuts", apart := false }
def SuperCutsSaid : Prop := superCutsRow.holds Try.pinned (OpenSpec.ofChange superCutsSpec)

/-- ITS FALSE NEIGHBOUR: 'it returns false'. Refute it at one input. -/
def superCutsWrong : ChangeSpec := { name := "superCuts", fn := fun _ => fun
  | [d1, d2, d3, d4] => { results := [.lit (.bool false)], args := [d1, d2, d3, d4] }
  | _ => none }
def SuperCutsWrongFalsely : Prop := superCutsRow.holds Try.pinned (OpenSpec.ofChange superCutsWrong)

/-- 'gazetteerlaw18.ScrubQueries': WHATEVER THE INPUT: true; the input reads as it did. -/
def scrubQueriesSpec : ChangeSpec := { name := "scrubQueries", fn := fun _ => fun
  | [d] => { results := [.lit (.bool true)], args := [d] }
  | _ => none }
def scrubQueriesRow : OpenClaim := { program := "ytbjaphldncagjaa", sum := "d5c965af6b40f99f352130961f7a4e1b11ebfa57d94aa09e6b06e143a60f4940", func := "gazetteer/gazetteerlaw18.ScrubQueries", spec := "scrubQueries", unfollowed := true, recurses := true, apart := false }
def ScrubQueriesSaid : Prop := scrubQueriesRow.holds Try.pinned (OpenSpec.ofChange scrubQueriesSpec)

/-- ITS FALSE NEIGHBOUR: 'it returns false'. Refute it at one input. -/
def scrubQueriesWrong : ChangeSpec := { name := "scrubQueries", fn := fun _ => fun
  | [d] => { results := [.lit (.bool false)], args := [d] }
  | _ => none }
def ScrubQueriesWrongFalsely : Prop := scrubQueriesRow.holds Try.pinned (OpenSpec.ofChange scrubQueriesWrong)

/-- 'gazetteerlaw05.RrSets': WHATEVER THE INPUT: true; the input reads as it did. -/
def rrSetsSpec : ChangeSpec := { name := "rrSets", fn := fun _ => fun
  | [d1, d2, d3, d4] => { results := [.lit (.bool true)], args := [d1, d2, d3, d4] }
  | _ => none }
def rrSetsRow : OpenClaim := { program := "ytbjaphldncagjaa", sum := "d5c965af6b40f99f352130961f7a4e1b11ebfa57d94aa09e6b06e143a60f4940", func := "gazetteer/gazetteerlaw05.RrSets", spec := "rrSets", unfollowed := true, recurses := true, apart := false }
def RrSetsSaid : Prop := rrSetsRow.holds Try.pinned (OpenSpec.ofChange rrSetsSpec)

/-- ITS FALSE NEIGHBOUR: 'it returns false'. Refute it at one input. -/
def rrSetsWrong : ChangeSpec := { name := "rrSets", fn := fun _ => fun
  | [d1, d2, d3, d4] => { results := [.lit (.bool false)], args := [d1, d2, d3, d4] }
  | _ => none }
def RrSetsWrongFalsely : Prop := rrSetsRow.holds Try.pinned (OpenSpec.ofChange rrSetsWrong)

/-- 'gazetteerlaw05.RrOrder': WHATEVER THE INPUT: true; the input reads as it did. -/
def rrOrderSpec : ChangeSpec := { name := "rrOrder", fn := fun _ => fun
  | [d1, d2] => { results := [.lit (.bool true)], args := [d1, d2] }
  | _ => none }
def rrOrderRow : OpenClaim := { program := "ytbjaphldncagjaa", sum := "d5c965af6b40f99f352130961f7a4e1b11ebfa57d94aa09e6b06e143a60f4940", func := "gazetteer/gazetteerlaw05.RrOrder", spec := "rrOrder", unfollowed := true, recurses := true, apart := false }
def RrOrderSaid : Prop := rrOrderRow.holds Try.pinned (OpenSpec.ofChange rrOrderSpec)

/-- ITS FALSE NEIGHBOUR: 'it returns false'. Refute it at one input. -/
def rrOrderWrong : ChangeSpec := { name := "rrOrder", fn := fun _ => fun
  | [d1, d2] => { results := [.lit (.bool false)], args := [d1, d2] }
  | _ => none }
def RrOrderWrongFalsely : Prop := rrOrderRow.holds Try.pinned (OpenSpec.ofChange rrOrderWrong)

/-- 'gazetteerlaw05.RrNames': WHATEVER THE INPUT: true; the input reads as it did. -/
def rrNamesSpec : ChangeSpec := { name := "rrNames", fn := fun _ => fun
  | [d] => { results := [.lit (.bool true)], args := [d] }
  | _ => none }
def rrNamesRow : OpenClaim := { program := "ytbjaphldncagjaa", sum := "d5c965af6b40f99f352130961f7a4e1b11ebfa57d94aa09e6b06e143a60f4940", func := "gazetteer/gazetteerlaw05.RrNames", spec := "rrNames", unfollowed := true, recurses := true, apart := false }
def RrNamesSaid : Prop := rrNamesRow.holds Try.pinned (OpenSpec.ofChange rrNamesSpec)

/-- ITS FALSE NEIGHBOUR: 'it returns false'. Refute it at one input. -/
def rrNamesWrong : ChangeSpec := { name := "rrNames", fn := fun _ => fun
  | [d] => { results := [.lit (.bool false)], args := [d] }
  | _ => none }
def RrNamesWrongFalsely : Prop := rrNamesRow.holds Try.pinned (OpenSpec.ofChange rrNamesWrong)

/-- 'gazetteerlaw04.RdataWrites': WHATEVER THE INPUT: true; the input reads as it did. -/
def rdataWritesSpec : ChangeSpec := { name := "rdataWrites", fn := fun _ => fun
  | [d1, d2, d3] => { results := [.lit (.bool true)], args := [d1, d2, d3] }
  | _ => none }
def rdataWritesRow : OpenClaim := { program := "ytbjaphldncagjaa", sum := "d5c965af6b40f99f352130961f7a4e1b11ebfa57d94aa09e6b06e143a60f4940", func := "gazetteer/gazetteerlaw04.RdataWrites", spec := "rdataWrites", unfollowed := true, recurses := true, apart := false }
def RdataWritesSaid : Prop := rdataWritesRow.holds Try.pinned (OpenSpec.ofChange rdataWritesSpec)

/-- ITS FALSE NEIGHBOUR: 'it returns false'. Refute it at one input. -/
def rdataWritesWrong : ChangeSpec := { name := "rdataWrites", fn := fun _ => fun
  | [d1, d2, d3] => { results := [.lit (.bool false)], args := [d1, d2, d3] }
  | _ => none }
def RdataWritesWrongFalsely : Prop := rdataWritesRow.holds Try.pinned (OpenSpec.ofChange rdataWritesWrong)

/-- 'gazetteerlaw04.RdataBack': WHATEVER THE INPUT: true; the input reads as it did. -/
def rdataBackSpec : ChangeSpec := { name := "rdataBack", fn := fun _ => fun
  | [d1, d2, d3, d4] => { results := [.lit (.bool true)], args := [d1, d2, d3, d4] }
  | _ => none }
def rdataBackRow : OpenClaim := { program := "ytbjaphldncagjaa", sum := "d5c965af6b40f99f352130961f7a4e1b11ebfa57d94aa09e6b06e143a60f4940", func := "gazetteer/gazetteerlaw04.RdataBack", spec := "rdataBack", unfollowed := true, recurses := true, apart := false }
def RdataBackSaid : Prop := rdataBackRow.holds Try.pinned (OpenSpec.ofChange rdataBackSpec)

/-- ITS FALSE NEIGHBOUR: 'it returns false'. Refute it at one input. -/
def rdataBackWrong : ChangeSpec := { name := "rdataBack", fn := fun _ => fun
  | [d1, d2, d3, d4] => { results := [.lit (.bool false)], args := [d1, d2, d3, d4] }
  | _ => none }
def RdataBackWrongFalsely : Prop := rdataBackRow.holds Try.pinned (OpenSpec.ofChange rdataBackWrong)

/-- 'gazetteerlaw05.RrWrites': WHATEVER THE INPUT: true; the input reads as it did. -/
def rrWritesSpec : ChangeSpec := { name := "rrWrites", fn := fun _ => fun
  | [d] => { results := [.lit (.bool true)], args := [d] }
  | _ => none }
def rrWritesRow : OpenClaim := { program := "ytbjaphldncagjaa", sum := "d5c965af6b40f99f352130961f7a4e1b11ebfa57d94aa09e6b06e143a60f4940", func := "gazetteer/gazetteerlaw05.RrWrites", spec := "rrWrites", unfollowed := true, recurses := true, apart := false }
def RrWritesSaid : Prop := rrWritesRow.holds Try.pinned (OpenSpec.ofChange rrWritesSpec)

/-- ITS FALSE NEIGHBOUR: 'it returns false'. Refute it at one input. -/
def rrWritesWrong : ChangeSpec := { name := "rrWrites", fn := fun _ => fun
  | [d] => { results := [.lit (.bool false)], args := [d] }
  | _ => none }
def RrWritesWrongFalsely : Prop := rrWritesRow.holds Try.pinned (OpenSpec.ofChange rrWritesWrong)

/-- 'gazetteerlaw05.RrBack': WHATEVER THE INPUT: true; the input reads as it did. -/
def rrBackSpec : ChangeSpec := { name := "rrBack", fn := fun _ => fun
  | [d] => { results := [.lit (.bool true)], args := [d] }
  | _ => none }
def rrBackRow : OpenClaim := { program := "ytbjaphldncagjaa", sum := "d5c965af6b40f99f352130961f7a4e1b11ebfa57d94aa09e6b06e143a60f4940", func := "gazetteer/gazetteerlaw05.RrBack", spec := "rrBack", unfollowed := true, recurses := true, apart := false }
def RrBackSaid : Prop := rrBackRow.holds Try.pinned (OpenSpec.ofChange rrBackSpec)

/-- ITS FALSE NEIGHBOUR: 'it returns false'. Refute it at one input. -/
def rrBackWrong : ChangeSpec := { name := "rrBack", fn := fun _ => fun
  | [d] => { results := [.lit (.bool false)], args := [d] }
  | _ => none }
def RrBackWrongFalsely : Prop := rrBackRow.holds Try.pinned (OpenSpec.ofChange rrBackWrong)

/- THE SECOND FORM. 'bulk': how many values and letters a reading holds, each counted each time it is reached (what is shared counts as often as it is met; a slice's spare places count too). A statement '..UptoSaid' is the law's where the arguments, and the package variables that the reading takes, are together of bulk at most 1048576: NARROWER than '..Said'. Prove '..Said' where nothing that the law and all that it calls make is longer than what came in: it says more and counts as full. Else prove '..UptoSaid'. A law counts once. -/
mutual
def uptoBulk {H : Type} : DataW H → Nat
  | .lit (.string bytes) => bytes.length + 1
  | .lit _ => 1
  | .nil => 1
  | .ptr d => uptoBulk d + 1
  | .slice elems spare => uptoBulkAll elems + uptoBulkAll spare + 1
  | .agg parts => uptoBulkAll parts + 1
  | .iface _ d => uptoBulk d + 1
  | .map entries => uptoBulkEntries entries + 1
  | .held _ => 1
def uptoBulkAll {H : Type} : List (DataW H) → Nat
  | [] => 0
  | d :: r => uptoBulk d + uptoBulkAll r
def uptoBulkEntries {H : Type} : List (Lit × DataW H) → Nat
  | [] => 0
  | x :: r => uptoBulkEntry x + uptoBulkEntries r
def uptoBulkEntry {H : Type} : Lit × DataW H → Nat
  | (.string bytes, d) => bytes.length + uptoBulk d + 1
  | (_, d) => uptoBulk d + 1
 end
def uptoSmall : (H : Type) → List (DataW H) → Bool := fun _ ds => decide (uptoBulkAll ds ≤ 1048576)
def OpenSpec.upto (s : _root_.Go.ChangeSpec) : _root_.Go.OpenSpec := { _root_.Go.OpenSpec.ofChange s with cond := some uptoSmall }

/-- 'gazetteerlaw10.SuperNil', WHERE WHAT IT READS IS OF BULK AT MOST 1048576: true; the input reads as it did. -/
def superNilUptoRow : OpenClaim := { program := "ytbjaphldncagjaa", sum := "d5c965af6b40f99f352130961f7a4e1b11ebfa57d94aa09e6b06e143a60f4940", func := "gazetteer/gazetteerlaw10.SuperNil", spec := "superNil", apart := false, narrowed := true }
def SuperNilUptoSaid : Prop := superNilUptoRow.holds Try.pinned (OpenSpec.upto superNilSpec)

/-- 'gazetteerlaw06.MsgEncodes', WHERE WHAT IT READS IS OF BULK AT MOST 1048576: true; the input reads as it did. -/
def msgEncodesUptoRow : OpenClaim := { program := "ytbjaphldncagjaa", sum := "d5c965af6b40f99f352130961f7a4e1b11ebfa57d94aa09e6b06e143a60f4940", func := "gazetteer/gazetteerlaw06.MsgEncodes", spec := "msgEncodes", unfollowed := true, recurses := true, apart := false, narrowed := true }
def MsgEncodesUptoSaid : Prop := msgEncodesUptoRow.holds Try.pinned (OpenSpec.upto msgEncodesSpec)

/-- 'gazetteerlaw06.MsgShort', WHERE WHAT IT READS IS OF BULK AT MOST 1048576: true; the input reads as it did. -/
def msgShortUptoRow : OpenClaim := { program := "ytbjaphldncagjaa", sum := "d5c965af6b40f99f352130961f7a4e1b11ebfa57d94aa09e6b06e143a60f4940", func := "gazetteer/gazetteerlaw06.MsgShort", spec := "msgShort", unfollowed := true, recurses := true, apart := false, narrowed := true }
def MsgShortUptoSaid : Prop := msgShortUptoRow.holds Try.pinned (OpenSpec.upto msgShortSpec)

/-- 'gazetteerlaw10.SuperCuts', WHERE WHAT IT READS IS OF BULK AT MOST 1048576: true; the input reads as it did. -/
def superCutsUptoRow : OpenClaim := { program := "ytbjaphldncagjaa", sum := "d5c965af6b40f99f352130961f7a4e1b11ebfa57d94aa09e6b06e143a60f4940", func := "gazetteer/gazetteerlaw10.SuperCuts", spec := "superCuts", apart := false, narrowed := true }
def SuperCutsUptoSaid : Prop := superCutsUptoRow.holds Try.pinned (OpenSpec.upto superCutsSpec)

/-- 'gazetteerlaw18.ScrubQueries', WHERE WHAT IT READS IS OF BULK AT MOST 1048576: true; the input reads as it did. -/
def scrubQueriesUptoRow : OpenClaim := { program := "ytbjaphldncagjaa", sum := "d5c965af6b40f99f352130961f7a4e1b11ebfa57d94aa09e6b06e143a60f4940", func := "gazetteer/gazetteerlaw18.ScrubQueries", spec := "scrubQueries", unfollowed := true, recurses := true, apart := false, narrowed := true }
def ScrubQueriesUptoSaid : Prop := scrubQueriesUptoRow.holds Try.pinned (OpenSpec.upto scrubQueriesSpec)

/-- 'gazetteerlaw05.RrSets', WHERE WHAT IT READS IS OF BULK AT MOST 1048576: true; the input reads as it did. -/
def rrSetsUptoRow : OpenClaim := { program := "ytbjaphldncagjaa", sum := "d5c965af6b40f99f352130961f7a4e1b11ebfa57d94aa09e6b06e143a60f4940", func := "gazetteer/gazetteerlaw05.RrSets", spec := "rrSets", unfollowed := true, recurses := true, apart := false, narrowed := true }
def RrSetsUptoSaid : Prop := rrSetsUptoRow.holds Try.pinned (OpenSpec.upto rrSetsSpec)

/-- 'gazetteerlaw05.RrOrder', WHERE WHAT IT READS IS OF BULK AT MOST 1048576: true; the input reads as it did. -/
def rrOrderUptoRow : OpenClaim := { program := "ytbjaphldncagjaa", sum := "d5c965af6b40f99f352130961f7a4e1b11ebfa57d94aa09e6b06e143a60f4940", func := "gazetteer/gazetteerlaw05.RrOrder", spec := "rrOrder", unfollowed := true, recurses := true, apart := false, narrowed := true }
def RrOrderUptoSaid : Prop := rrOrderUptoRow.holds Try.pinned (OpenSpec.upto rrOrderSpec)

/-- 'gazetteerlaw05.RrNames', WHERE WHAT IT READS IS OF BULK AT MOST 1048576: true; the input reads as it did. -/
def rrNamesUptoRow : OpenClaim := { program := "ytbjaphldncagjaa", sum := "d5c965af6b40f99f352130961f7a4e1b11ebfa57d94aa09e6b06e143a60f4940", func := "gazetteer/gazetteerlaw05.RrNames", spec := "rrNames", unfollowed := true, recurses := true, apart := false, narrowed := true }
def RrNamesUptoSaid : Prop := rrNamesUptoRow.holds Try.pinned (OpenSpec.upto rrNamesSpec)

/-- 'gazetteerlaw04.RdataWrites', WHERE WHAT IT READS IS OF BULK AT MOST 1048576: true; the input reads as it did. -/
def rdataWritesUptoRow : OpenClaim := { program := "ytbjaphldncagjaa", sum := "d5c965af6b40f99f352130961f7a4e1b11ebfa57d94aa09e6b06e143a60f4940", func := "gazetteer/gazetteerlaw04.RdataWrites", spec := "rdataWrites", unfollowed := true, recurses := true, apart := false, narrowed := true }
def RdataWritesUptoSaid : Prop := rdataWritesUptoRow.holds Try.pinned (OpenSpec.upto rdataWritesSpec)

/-- 'gazetteerlaw04.RdataBack', WHERE WHAT IT READS IS OF BULK AT MOST 1048576: true; the input reads as it did. -/
def rdataBackUptoRow : OpenClaim := { program := "ytbjaphldncagjaa", sum := "d5c965af6b40f99f352130961f7a4e1b11ebfa57d94aa09e6b06e143a60f4940", func := "gazetteer/gazetteerlaw04.RdataBack", spec := "rdataBack", unfollowed := true, recurses := true, apart := false, narrowed := true }
def RdataBackUptoSaid : Prop := rdataBackUptoRow.holds Try.pinned (OpenSpec.upto rdataBackSpec)

/-- 'gazetteerlaw05.RrWrites', WHERE WHAT IT READS IS OF BULK AT MOST 1048576: true; the input reads as it did. -/
def rrWritesUptoRow : OpenClaim := { program := "ytbjaphldncagjaa", sum := "d5c965af6b40f99f352130961f7a4e1b11ebfa57d94aa09e6b06e143a60f4940", func := "gazetteer/gazetteerlaw05.RrWrites", spec := "rrWrites", unfollowed := true, recurses := true, apart := false, narrowed := true }
def RrWritesUptoSaid : Prop := rrWritesUptoRow.holds Try.pinned (OpenSpec.upto rrWritesSpec)

/-- 'gazetteerlaw05.RrBack', WHERE WHAT IT READS IS OF BULK AT MOST 1048576: true; the input reads as it did. -/
def rrBackUptoRow : OpenClaim := { program := "ytbjaphldncagjaa", sum := "d5c965af6b40f99f352130961f7a4e1b11ebfa57d94aa09e6b06e143a60f4940", func := "gazetteer/gazetteerlaw05.RrBack", spec := "rrBack", unfollowed := true, recurses := true, apart := false, narrowed := true }
def RrBackUptoSaid : Prop := rrBackUptoRow.holds Try.pinned (OpenSpec.upto rrBackSpec)

end Rows
end Go.Proofs.Ytbjaphldncagjaa
