/- Parts of a proof, joined: RCode. -/
import Derived.Test.YtimkdpkhdbiniaaSDF09
import Derived.Test.YtimkdpkhdbiniaaSDM07b
import Derived.Test.YtimkdpkhdbiniaaSDM30
/- The reference: which bytes an entry is (printed by gen/rcode.py). -/
namespace Go.Proofs.Ytimkdpkhdbiniaa
open Go.RowKit
set_option maxRecDepth 100000
set_option linter.unusedVariables false

def oneR (k : Int) (d : Da) : RW := RW.nil.data (shapeP k) d
def RW.dat (x : RW) (k : Int) (d : Da) : RW := (x.raw (putB [] ((oneR k d).b.length : Int) 2)).raw (oneR k d).b
def RW.dats (x : RW) (k : Int) (l : List Da) : RW := l.foldl (fun x d => x.dat k d) x
def RW.factH (x : RW) (f : Fa) : RW := (((((x.name f.name false).raw (putB [] f.type 2)).raw (putB [] f.kind 1)).raw (putB [] f.rank 1)).raw (putB [] f.got 7)).raw (putB [] f.ttl 4)
def RW.fact (x : RW) (f : Fa) : RW :=
  if f.kind = 1 then ((x.factH f).raw (putB [] (f.set.length : Int) 1)).dats f.type f.set
  else ((x.factH f).name f.zone false).dat 6 f.soa
theorem RW.dats_take (x : RW) (k : Int) {l : List Da} {i : Nat} {d : Da} (h : l[i]? = some d) : x.dats k (l.take (i + 1)) = (x.dats k (l.take i)).dat k d := foldl_take _ _ h
end Go.Proofs.Ytimkdpkhdbiniaa
