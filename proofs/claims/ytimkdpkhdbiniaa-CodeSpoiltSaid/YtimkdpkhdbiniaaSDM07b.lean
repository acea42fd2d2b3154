/- Parts of a proof, joined: RRrPlain, RRests, MsPlain. -/
import Derived.Test.YtimkdpkhdbiniaaSDM06
import Derived.Test.YtimkdpkhdbiniaaSDM05
/- The reference's PutRR, in plain Lean; that both writers write the same. No program in it. -/
namespace Go.Proofs.Ytimkdpkhdbiniaa
set_option maxRecDepth 100000

def RW.rrHead (y : RW) (r : RR) : RW := (((y.name r.name true).raw (putB [] r.type 2)).raw (putB [] r.cls 2)).raw (putB [] r.ttl 4)
/-- How the reference writes a record. -/
def RW.rr (y : RW) (r : RR) : RW :=
  let z := ((y.rrHead r).raw (putB [] 0 2)).data (shapeP r.type) r.data
  { z with b := putAt z.b (y.rrHead r).b.length (putB [] (z.b.length - (y.rrHead r).b.length - 2 : Nat) 2) }
end Go.Proofs.Ytimkdpkhdbiniaa

/- The reference's writer: how many rests a record notes. No program in it. -/
namespace Go.Proofs.Ytimkdpkhdbiniaa
open Go.RowKit
set_option maxRecDepth 100000

end Go.Proofs.Ytimkdpkhdbiniaa

/- Messages, in plain Lean: which may be, and how one is written. No program in it. -/
namespace Go.Proofs.Ytimkdpkhdbiniaa
open Go.RowKit
set_option maxRecDepth 100000

section
end
theorem foldl_take {α β : Type} (f : β → α → β) (b : β) {l : List α} {k : Nat} {x : α} (h : l[k]? = some x) : (l.take (k + 1)).foldl f b = f ((l.take k).foldl f b) x := by
  rw [List.take_add_one, h, Option.toList_some, List.foldl_append]
  rfl

end Go.Proofs.Ytimkdpkhdbiniaa
