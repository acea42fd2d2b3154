/- Parts of a proof, joined: ShortP. -/
import Derived.Test.YtimkdpkhdbiniaaZDM12
/- MsgShort: a message takes no more than its parts, each whole. No program in it. -/
namespace Go.Proofs.Ytimkdpkhdbiniaa
open Go.RowKit
set_option maxRecDepth 100000

theorem QIn.mono {S S' : Nat → Prop} {w : World} {s : QS} {x : Qu} (hS : ∀ b, S b → S' b) (h : QIn S w s x) : QIn S' w s x := ⟨h.n.mono hS hS, h.cn, h.it, h.ic⟩
def textsN (ts : List (List UInt8)) : Nat := (ts.map fun t => 1 + t.length).sum
/-- What fits of a record that may be. -/
structure Fits (r : RR) : Prop where
  n : sizeN r.name ≤ 255
  b : r.data.bytes.length ≤ 65535
  h : sizeN r.data.host ≤ 255
  m : sizeN r.data.mail ≤ 255
  u : r.data.nums.length ≤ 5
  t : r.data.texts.length ≤ 64
  tx : textsN r.data.texts ≤ 16384
end Go.Proofs.Ytimkdpkhdbiniaa
