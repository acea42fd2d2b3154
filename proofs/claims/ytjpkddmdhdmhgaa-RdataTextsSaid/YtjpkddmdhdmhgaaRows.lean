/-
  No cell of these rows narrows 'for every input' (looked for: loops, veiled, ifaces, maps, wideKeys, modest, calm, conditions, laid).
  DERIVED. THE GIVEN ROWS OF THIS SEAT. 12 by the template 'for every input the law returns true; each argument reads behind the call as it read before'; 0 by the template 'total and deterministic' (their statements: YtjpkddmdhdmhgaaTotals.lean).
  GIVEN WITH THE SEED: the statements are not yours to turn. If you find one false, say at which input.
  Laid BY PROGRAM, IN A SANDBOX (cutbox-rows.mjs): the forced cells as the released guide's own fill.sh prints them over the translation f80154cbb23fe363… (all of the seat's roots in one cut). By AI agents, Wed Nov 11 2026. No macro, syntax, notation, axiom, sorry.
-/
import Derived.Test.YtjpkddmdhdmhgaaChecked
import GoSem.Claim
import GoSem.ClaimJoined
import GoSem.ClaimMapViews
import Derived.JoinedTies
import Derived.KernelRfl
namespace Go.Proofs.Ytjpkddmdhdmhgaa
/- THE CELL 'sum', in the pinned program and in every row, IS THE sha256 OF THE DUMP (.gsa) THAT YtjpkddmdhdmhgaaProg.lean LOADS. Nothing in Lean hashes anything: it is a label: what it is worth is what the hold of that sum in a sandbox is worth. -/
noncomputable def Try.pinned : Pinned := { name := "ytjpkddmdhdmhgaa", sum := "f80154cbb23fe3639ee808a5e39334f592e98ca124744fa399e2996829f7ca10", checked := Try.checked }
namespace Rows
def none {H : Type} : Left H := { results := [], args := [] }

/-- 'gazetteerlaw09.SectorOpens': WHATEVER THE INPUT: true; the input reads as it did. -/
def sectorOpensSpec : ChangeSpec := { name := "sectorOpens", fn := fun _ => fun
  | [d1, d2, d3] => { results := [.lit (.bool true)], args := [d1, d2, d3] }
  | _ => none }
def sectorOpensRow : OpenClaim := { program := "ytjpkddmdhdmhgaa", sum := "f80154cbb23fe3639ee808a5e39334f592e98ca124744fa399e2996829f7ca10", func := "gazetteer/gazetteerlaw09.SectorOpens", spec := "sectorOpens", apart := false }
def SectorOpensSaid : Prop := sectorOpensRow.holds Try.pinned (OpenSpec.ofChange sectorOpensSpec)

/-- ITS FALSE NEIGHBOUR: 'it returns false'. Refute it at one input. -/
def sectorOpensWrong : ChangeSpec := { name := "sectorOpens", fn := fun _ => fun
  | [d1, d2, d3] => { results := [.lit (.bool false)], args := [d1, d2, d3] }
  | _ => none }
def SectorOpensWrongFalsely : Prop := sectorOpensRow.holds Try.pinned (OpenSpec.ofChange sectorOpensWrong)

/-- 'gazetteerlaw09.SectorBack': WHATEVER THE INPUT: true; the input reads as it did. -/
def sectorBackSpec : ChangeSpec := { name := "sectorBack", fn := fun _ => fun
  | [d1, d2] => { results := [.lit (.bool true)], args := [d1, d2] }
  | _ => none }
def sectorBackRow : OpenClaim := { program := "ytjpkddmdhdmhgaa", sum := "f80154cbb23fe3639ee808a5e39334f592e98ca124744fa399e2996829f7ca10", func := "gazetteer/gazetteerlaw09.SectorBack", spec := "sectorBack", apart := false }
def SectorBackSaid : Prop := sectorBackRow.holds Try.pinned (OpenSpec.ofChange sectorBackSpec)

/-- ITS FALSE NEIGHBOUR: 'it returns false'. Refute it at one input. -/
def sectorBackWrong : ChangeSpec := { name := "sectorBack", fn := fun _ => fun
  | [d1, d2] => { results := [.lit (.bool false)], args := [d1, d2] }
  | _ => none }
def SectorBackWrongFalsely : Prop := sectorBackRow.holds Try.pinned (OpenSpec.ofChange sectorBackWrong)

/-- 'gazetteerlaw08.FlashSure': WHATEVER THE INPUT: true; the input reads as it did. -/
def flashSureSpec : ChangeSpec := { name := "flashSure", fn := fun _ => fun
  | [d1, d2, d3, d4] => { results := [.lit (.bool true)], args := [d1, d2, d3, d4] }
  | _ => none }
def flashSureRow : OpenClaim := { program := "ytjpkddmdhdmhgaa", sum := "f80154cbb23fe3639ee808a5e39334f592e98ca124744fa399e2996829f7ca10", func := "gazetteer/gazetteerlaw08.FlashSure", spec := "flashSure", apart := false }
def FlashSureSaid : Prop := flashSureRow.holds Try.pinned (OpenSpec.ofChange flashSureSpec)

/-- ITS FALSE NEIGHBOUR: 'it returns false'. Refute it at one input. -/
def flashSureWrong : ChangeSpec := { name := "flashSure", fn := fun _ => fun
  | [d1, d2, d3, d4] => { results := [.lit (.bool false)], args := [d1, d2, d3, d4] }
  | _ => none }
def FlashSureWrongFalsely : Prop := flashSureRow.holds Try.pinned (OpenSpec.ofChange flashSureWrong)

/-- 'gazetteerlaw08.FlashTorn': WHATEVER THE INPUT: true; the input reads as it did. -/
def flashTornSpec : ChangeSpec := { name := "flashTorn", fn := fun _ => fun
  | [d1, d2] => { results := [.lit (.bool true)], args := [d1, d2] }
  | _ => none }
def flashTornRow : OpenClaim := { program := "ytjpkddmdhdmhgaa", sum := "f80154cbb23fe3639ee808a5e39334f592e98ca124744fa399e2996829f7ca10", func := "gazetteer/gazetteerlaw08.FlashTorn", spec := "flashTorn", apart := false }
def FlashTornSaid : Prop := flashTornRow.holds Try.pinned (OpenSpec.ofChange flashTornSpec)

/-- ITS FALSE NEIGHBOUR: 'it returns false'. Refute it at one input. -/
def flashTornWrong : ChangeSpec := { name := "flashTorn", fn := fun _ => fun
  | [d1, d2] => { results := [.lit (.bool false)], args := [d1, d2] }
  | _ => none }
def FlashTornWrongFalsely : Prop := flashTornRow.holds Try.pinned (OpenSpec.ofChange flashTornWrong)

/-- 'gazetteerlaw08.FlashActs': WHATEVER THE INPUT: true; the input reads as it did. -/
def flashActsSpec : ChangeSpec := { name := "flashActs", fn := fun _ => fun
  | [d1, d2] => { results := [.lit (.bool true)], args := [d1, d2] }
  | _ => none }
def flashActsRow : OpenClaim := { program := "ytjpkddmdhdmhgaa", sum := "f80154cbb23fe3639ee808a5e39334f592e98ca124744fa399e2996829f7ca10", func := "gazetteer/gazetteerlaw08.FlashActs", spec := "flashActs", apart := false }
def FlashActsSaid : Prop := flashActsRow.holds Try.pinned (OpenSpec.ofChange flashActsSpec)

/-- ITS FALSE NEIGHBOUR: 'it returns false'. Refute it at one input. -/
def flashActsWrong : ChangeSpec := { name := "flashActs", fn := fun _ => fun
  | [d1, d2] => { results := [.lit (.bool false)], args := [d1, d2] }
  | _ => none }
def FlashActsWrongFalsely : Prop := flashActsRow.holds Try.pinned (OpenSpec.ofChange flashActsWrong)

/-- 'gazetteerlaw08.FlashApart': WHATEVER THE INPUT: true; the input reads as it did. -/
def flashApartSpec : ChangeSpec := { name := "flashApart", fn := fun _ => fun
  | [d1, d2] => { results := [.lit (.bool true)], args := [d1, d2] }
  | _ => none }
def flashApartRow : OpenClaim := { program := "ytjpkddmdhdmhgaa", sum := "f80154cbb23fe3639ee808a5e39334f592e98ca124744fa399e2996829f7ca10", func := "gazetteer/gazetteerlaw08.FlashApart", spec := "flashApart", apart := false }
def FlashApartSaid : Prop := flashApartRow.holds Try.pinned (OpenSpec.ofChange flashApartSpec)

/-- ITS FALSE NEIGHBOUR: 'it returns false'. Refute it at one input. -/
def flashApartWrong : ChangeSpec := { name := "flashApart", fn := fun _ => fun
  | [d1, d2] => { results := [.lit (.bool false)], args := [d1, d2] }
  | _ => none }
def FlashApartWrongFalsely : Prop := flashApartRow.holds Try.pinned (OpenSpec.ofChange flashApartWrong)

/-- 'gazetteerlaw03.WnameWrites': WHATEVER THE INPUT: true; the input reads as it did. -/
def wnameWritesSpec : ChangeSpec := { name := "wnameWrites", fn := fun _ => fun
  | [d] => { results := [.lit (.bool true)], args := [d] }
  | _ => none }
def wnameWritesRow : OpenClaim := { program := "ytjpkddmdhdmhgaa", sum := "f80154cbb23fe3639ee808a5e39334f592e98ca124744fa399e2996829f7ca10", func := "gazetteer/gazetteerlaw03.WnameWrites", spec := "wnameWrites", unfollowed := true, recurses := true, apart := false }
def WnameWritesSaid : Prop := wnameWritesRow.holds Try.pinned (OpenSpec.ofChange wnameWritesSpec)

/-- ITS FALSE NEIGHBOUR: 'it returns false'. Refute it at one input. -/
def wnameWritesWrong : ChangeSpec := { name := "wnameWrites", fn := fun _ => fun
  | [d] => { results := [.lit (.bool false)], args := [d] }
  | _ => none }
def WnameWritesWrongFalsely : Prop := wnameWritesRow.holds Try.pinned (OpenSpec.ofChange wnameWritesWrong)

/-- 'gazetteerlaw03.WnameBack': WHATEVER THE INPUT: true; the input reads as it did. -/
def wnameBackSpec : ChangeSpec := { name := "wnameBack", fn := fun _ => fun
  | [d1, d2, d3] => { results := [.lit (.bool true)], args := [d1, d2, d3] }
  | _ => none }
def wnameBackRow : OpenClaim := { program := "ytjpkddmdhdmhgaa", sum := "f80154cbb23fe3639ee808a5e39334f592e98ca124744fa399e2996829f7ca10", func := "gazetteer/gazetteerlaw03.WnameBack", spec := "wnameBack", unfollowed := true, recurses := true, apart := false }
def WnameBackSaid : Prop := wnameBackRow.holds Try.pinned (OpenSpec.ofChange wnameBackSpec)

/-- ITS FALSE NEIGHBOUR: 'it returns false'. Refute it at one input. -/
def wnameBackWrong : ChangeSpec := { name := "wnameBack", fn := fun _ => fun
  | [d1, d2, d3] => { results := [.lit (.bool false)], args := [d1, d2, d3] }
  | _ => none }
def WnameBackWrongFalsely : Prop := wnameBackRow.holds Try.pinned (OpenSpec.ofChange wnameBackWrong)

/-- 'gazetteerlaw03.WnameReach': WHATEVER THE INPUT: true; the input reads as it did. -/
def wnameReachSpec : ChangeSpec := { name := "wnameReach", fn := fun _ => fun
  | [d1, d2] => { results := [.lit (.bool true)], args := [d1, d2] }
  | _ => none }
def wnameReachRow : OpenClaim := { program := "ytjpkddmdhdmhgaa", sum := "f80154cbb23fe3639ee808a5e39334f592e98ca124744fa399e2996829f7ca10", func := "gazetteer/gazetteerlaw03.WnameReach", spec := "wnameReach", unfollowed := true, recurses := true, apart := false }
def WnameReachSaid : Prop := wnameReachRow.holds Try.pinned (OpenSpec.ofChange wnameReachSpec)

/-- ITS FALSE NEIGHBOUR: 'it returns false'. Refute it at one input. -/
def wnameReachWrong : ChangeSpec := { name := "wnameReach", fn := fun _ => fun
  | [d1, d2] => { results := [.lit (.bool false)], args := [d1, d2] }
  | _ => none }
def WnameReachWrongFalsely : Prop := wnameReachRow.holds Try.pinned (OpenSpec.ofChange wnameReachWrong)

/-- 'gazetteerlaw03.WnameSets': WHATEVER THE INPUT: true; the input reads as it did. -/
def wnameSetsSpec : ChangeSpec := { name := "wnameSets", fn := fun _ => fun
  | [d1, d2, d3, d4] => { results := [.lit (.bool true)], args := [d1, d2, d3, d4] }
  | _ => none }
def wnameSetsRow : OpenClaim := { program := "ytjpkddmdhdmhgaa", sum := "f80154cbb23fe3639ee808a5e39334f592e98ca124744fa399e2996829f7ca10", func := "gazetteer/gazetteerlaw03.WnameSets", spec := "wnameSets", unfollowed := true, recurses := true, apart := false }
def WnameSetsSaid : Prop := wnameSetsRow.holds Try.pinned (OpenSpec.ofChange wnameSetsSpec)

/-- ITS FALSE NEIGHBOUR: 'it returns false'. Refute it at one input. -/
def wnameSetsWrong : ChangeSpec := { name := "wnameSets", fn := fun _ => fun
  | [d1, d2, d3, d4] => { results := [.lit (.bool false)], args := [d1, d2, d3, d4] }
  | _ => none }
def WnameSetsWrongFalsely : Prop := wnameSetsRow.holds Try.pinned (OpenSpec.ofChange wnameSetsWrong)

/-- 'gazetteerlaw04.RdataSame': WHATEVER THE INPUT: true; the input reads as it did. -/
def rdataSameSpec : ChangeSpec := { name := "rdataSame", fn := fun _ => fun
  | [d1, d2] => { results := [.lit (.bool true)], args := [d1, d2] }
  | _ => none }
def rdataSameRow : OpenClaim := { program := "ytjpkddmdhdmhgaa", sum := "f80154cbb23fe3639ee808a5e39334f592e98ca124744fa399e2996829f7ca10", func := "gazetteer/gazetteerlaw04.RdataSame", spec := "rdataSame", unfollowed := true, recurses := true, apart := false }
def RdataSameSaid : Prop := rdataSameRow.holds Try.pinned (OpenSpec.ofChange rdataSameSpec)

/-- ITS FALSE NEIGHBOUR: 'it returns false'. Refute it at one input. -/
def rdataSameWrong : ChangeSpec := { name := "rdataSame", fn := fun _ => fun
  | [d1, d2] => { results := [.lit (.bool false)], args := [d1, d2] }
  | _ => none }
def RdataSameWrongFalsely : Prop := rdataSameRow.holds Try.pinned (OpenSpec.ofChange rdataSameWrong)

/-- 'gazetteerlaw04.RdataTexts': WHATEVER THE INPUT: true; the input reads as it did. -/
def rdataTextsSpec : ChangeSpec := { name := "rdataTexts", fn := fun _ => fun
  | [d1, d2, d3] => { results := [.lit (.bool true)], args := [d1, d2, d3] }
  | _ => none }
def rdataTextsRow : OpenClaim := { program := "ytjpkddmdhdmhgaa", sum := "f80154cbb23fe3639ee808a5e39334f592e98ca124744fa399e2996829f7ca10", func := "gazetteer/gazetteerlaw04.RdataTexts", spec := "rdataTexts", unfollowed := true, recurses := true, apart := false }
def RdataTextsSaid : Prop := rdataTextsRow.holds Try.pinned (OpenSpec.ofChange rdataTextsSpec)

/-- ITS FALSE NEIGHBOUR: 'it returns false'. Refute it at one input. -/
def rdataTextsWrong : ChangeSpec := { name := "rdataTexts", fn := fun _ => fun
  | [d1, d2, d3] => { results := [.lit (.bool false)], args := [d1, d2, d3] }
  | _ => none }
def RdataTextsWrongFalsely : Prop := rdataTextsRow.holds Try.pinned (OpenSpec.ofChange rdataTextsWrong)

/- THE SECOND FORM. 'bulk': how many values and letters a reading holds, each counted each time it is reached (what is shared counts as often as it is met; a slice's spare places count too). A statement '..UptoSaid' is the law's where the arguments, and the package variables that the reading takes, are together of bulk at most 1048576: NARROWER than '..Said'. Prove '..Said' where nothing that the law and all that it calls make is longer than what came in: it says more and counts as full. Else prove '..UptoSaid'. A law counts once. -/
mutual
def uptoBulk {H : Type} : DataW H → Nat
  | .lit (.string bytes) => bytes.length + 1
  | .lit _ => 1
  | .nil => 1
  | .ptr d => uptoBulk d + 1
  | .slice elems spare => uptoBulkAll elems + uptoBulkAll spare + 1
  | .agg parts => uptoBulkAll parts + 1
  | .iface _ d => uptoBulk d + 1
  | .map entries => uptoBulkEntries entries + 1
  | .held _ => 1
def uptoBulkAll {H : Type} : List (DataW H) → Nat
  | [] => 0
  | d :: r => uptoBulk d + uptoBulkAll r
def uptoBulkEntries {H : Type} : List (Lit × DataW H) → Nat
  | [] => 0
  | x :: r => uptoBulkEntry x + uptoBulkEntries r
def uptoBulkEntry {H : Type} : Lit × DataW H → Nat
  | (.string bytes, d) => bytes.length + uptoBulk d + 1
  | (_, d) => uptoBulk d + 1
 end
def uptoSmall : (H : Type) → List (DataW H) → Bool := fun _ ds => decide (uptoBulkAll ds ≤ 1048576)
def OpenSpec.upto (s : _root_.Go.ChangeSpec) : _root_.Go.OpenSpec := { _root_.Go.OpenSpec.ofChange s with cond := some uptoSmall }

/-- 'gazetteerlaw09.SectorOpens', WHERE WHAT IT READS IS OF BULK AT MOST 1048576: true; the input reads as it did. -/
def sectorOpensUptoRow : OpenClaim := { program := "ytjpkddmdhdmhgaa", sum := "f80154cbb23fe3639ee808a5e39334f592e98ca124744fa399e2996829f7ca10", func := "gazetteer/gazetteerlaw09.SectorOpens", spec := "sectorOpens", apart := false, narrowed := true }
def SectorOpensUptoSaid : Prop := sectorOpensUptoRow.holds Try.pinned (OpenSpec.upto sectorOpensSpec)

/-- 'gazetteerlaw09.SectorBack', WHERE WHAT IT READS IS OF BULK AT MOST 1048576: true; the input reads as it did. -/
def sectorBackUptoRow : OpenClaim := { program := "ytjpkddmdhdmhgaa", sum := "f80154cbb23fe3639ee808a5e39334f592e98ca124744fa399e2996829f7ca10", func := "gazetteer/gazetteerlaw09.SectorBack", spec := "sectorBack", apart := false, narrowed := true }
def SectorBackUptoSaid : Prop := sectorBackUptoRow.holds Try.pinned (OpenSpec.upto sectorBackSpec)

/-- 'gazetteerlaw08.FlashSure', WHERE WHAT IT READS IS OF BULK AT MOST 1048576: true; the input reads as it did. -/
def flashSureUptoRow : OpenClaim := { program := "ytjpkddmdhdmhgaa", sum := "f80154cbb23fe3639ee808a5e39334f592e98ca124744fa399e2996829f7ca10", func := "gazetteer/gazetteerlaw08.FlashSure", spec := "flashSure", apart := false, narrowed := true }
def FlashSureUptoSaid : Prop := flashSureUptoRow.holds Try.pinned (OpenSpec.upto flashSureSpec)

/-- 'gazetteerlaw08.FlashTorn', WHERE WHAT IT READS IS OF BULK AT MOST 1048576: true; the input reads as it did. -/
def flashTornUptoRow : OpenClaim := { program := "ytjpkddmdhdmhgaa", sum := "f80154cbb23fe3639ee808a5e39334f592e98ca124744fa399e2996829f7ca10", func := "gazetteer/gazetteerlaw08.FlashTorn", spec := "flashTorn", apart := false, narrowed := true }
def FlashTornUptoSaid : Prop := flashTornUptoRow.holds Try.pinned (OpenSpec.upto flashTornSpec)

/-- 'gazetteerlaw08.FlashActs', WHERE WHAT IT READS IS OF BULK AT MOST 1048576: true; the input reads as it did. -/
def flashActsUptoRow : OpenClaim := { program := "ytjpkddmdhdmhgaa", sum := "f80154cbb23fe3639ee808a5e39334f592e98ca124744fa399e2996829f7ca10", func := "gazetteer/gazetteerlaw08.FlashActs", spec := "flashActs", apart := false, narrowed := true }
def FlashActsUptoSaid : Prop := flashActsUptoRow.holds Try.pinned (OpenSpec.upto flashActsSpec)

/-- 'gazetteerlaw08.FlashApart', WHERE WHAT IT READS IS OF BULK AT MOST 1048576: true; the input reads as it did. -/
def flashApartUptoRow : OpenClaim := { program := "ytjpkddmdhdmhgaa", sum := "f80154cbb23fe3639ee808a5e39334f592e98ca124744fa399e2996829f7ca10", func := "gazetteer/gazetteerlaw08.FlashApart", spec := "flashApart", apart := false, narrowed := true }
def FlashApartUptoSaid : Prop := flashApartUptoRow.holds Try.pinned (OpenSpec.upto flashApartSpec)

/-- 'gazetteerlaw03.WnameWrites', WHERE WHAT IT READS IS OF BULK AT MOST 1048576: true; the input reads as it did. -/
def wnameWritesUptoRow : OpenClaim := { program := "ytjpkddmdhdmhgaa", sum := "f80154cbb23fe3639ee808a5e39334f592e98ca124744fa399e2996829f7ca10", func := "gazetteer/gazetteerlaw03.WnameWrites", spec := "wnameWrites", unfollowed := true, recurses := true, apart := false, narrowed := true }
def WnameWritesUptoSaid : Prop := wnameWritesUptoRow.holds Try.pinned (OpenSpec.upto wnameWritesSpec)

/-- 'gazetteerlaw03.WnameBack', WHERE WHAT IT READS IS OF BULK AT MOST 1048576: true; the input reads as it did. -/
def wnameBackUptoRow : OpenClaim := { program := "ytjpkddmdhdmhgaa", sum := "f80154cbb23fe3639ee808a5e39334f592e98ca124744fa399e2996829f7ca10", func := "gazetteer/gazetteerlaw03.WnameBack", spec := "wnameBack", unfollowed := true, recurses := true, apart := false, narrowed := true }
def WnameBackUptoSaid : Prop := wnameBackUptoRow.holds Try.pinned (OpenSpec.upto wnameBackSpec)

/-- 'gazetteerlaw03.WnameReach', WHERE WHAT IT READS IS OF BULK AT MOST 1048576: true; the input reads as it did. -/
def wnameReachUptoRow : OpenClaim := { program := "ytjpkddmdhdmhgaa", sum := "f80154cbb23fe3639ee808a5e39334f592e98ca124744fa399e2996829f7ca10", func := "gazetteer/gazetteerlaw03.WnameReach", spec := "wnameReach", unfollowed := true, recurses := true, apart := false, narrowed := true }
def WnameReachUptoSaid : Prop := wnameReachUptoRow.holds Try.pinned (OpenSpec.upto wnameReachSpec)

/-- 'gazetteerlaw03.WnameSets', WHERE WHAT IT READS IS OF BULK AT MOST 1048576: true; the input reads as it did. -/
def wnameSetsUptoRow : OpenClaim := { program := "ytjpkddmdhdmhgaa", sum := "f80154cbb23fe3639ee808a5e39334f592e98ca124744fa399e2996829f7ca10", func := "gazetteer/gazetteerlaw03.WnameSets", spec := "wnameSets", unfollowed := true, recurses := true, apart := false, narrowed := true }
def WnameSetsUptoSaid : Prop := wnameSetsUptoRow.holds Try.pinned (OpenSpec.upto wnameSetsSpec)

/-- 'gazetteerlaw04.RdataSame', WHERE WHAT IT READS IS OF BULK AT MOST 1048576: true; the input reads as it did. -/
def rdataSameUptoRow : OpenClaim := { program := "ytjpkddmdhdmhgaa", sum := "f80154cbb23fe3639ee808a5e39334f592e98ca124744fa399e2996829f7ca10", func := "gazetteer/gazetteerlaw04.RdataSame", spec := "rdataSame", unfollowed := true, recurses := true, apart := false, narrowed := true }
def RdataSameUptoSaid : Prop := rdataSameUptoRow.holds Try.pinned (OpenSpec.upto rdataSameSpec)

/-- 'gazetteerlaw04.RdataTexts', WHERE WHAT IT READS IS OF BULK AT MOST 1048576: true; the input reads as it did. -/
def rdataTextsUptoRow : OpenClaim := { program := "ytjpkddmdhdmhgaa", sum := "f80154cbb23fe3639ee808a5e39334f592e98ca124744fa399e2996829f7ca10", func := "gazetteer/gazetteerlaw04.RdataTexts", spec := "rdataTexts", unfollowed := true, recurses := true, apart := false, narrowed := true }
def RdataTextsUptoSaid : Prop := rdataTextsUptoRow.holds Try.pinned (OpenSpec.upto rdataTextsSpec)

end Rows
end Go.Proofs.Ytjpkddmdhdmhgaa
