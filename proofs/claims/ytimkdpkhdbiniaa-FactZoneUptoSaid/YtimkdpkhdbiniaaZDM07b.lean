/- Parts of a proof, joined: RRrPlain, RRests, MsPlain. -/
import Derived.Test.YtimkdpkhdbiniaaZDM06
import Derived.Test.YtimkdpkhdbiniaaZDM05
/- The reference's PutRR, in plain Lean; that both writers write the same. No program in it. -/
namespace Go.Proofs.Ytimkdpkhdbiniaa
set_option maxRecDepth 100000

end Go.Proofs.Ytimkdpkhdbiniaa

/- The reference's writer: how many rests a record notes. No program in it. -/
namespace Go.Proofs.Ytimkdpkhdbiniaa
open Go.RowKit
set_option maxRecDepth 100000

end Go.Proofs.Ytimkdpkhdbiniaa

/- Messages, in plain Lean: which may be, and how one is written. No program in it. -/
namespace Go.Proofs.Ytimkdpkhdbiniaa
open Go.RowKit
set_option maxRecDepth 100000

/-- A question that may be. -/
def FineQ (q : Qu) : Prop := SoundN q.name ∧ 1 ≤ q.type ∧ fitsB q.type 2 = true ∧ fitsB q.cls 2 = true
noncomputable def fineQ (q : Qu) : Bool := soundB q.name && (decide (1 ≤ q.type) && (fitsB q.type 2 && fitsB q.cls 2))
theorem fineQ_iff {q : Qu} : fineQ q = true ↔ FineQ q := by
  unfold fineQ FineQ
  rw [Bool.and_eq_true, Bool.and_eq_true, Bool.and_eq_true, decide_eq_true_iff, soundB_iff]
/-- A record that may be in a message. -/
def FineK (r : RR) : Prop := r.type ≠ 41 ∧ FineR r
noncomputable def fineK (r : RR) : Bool := !(decide (r.type = 41)) && fineRB r
theorem fineK_iff {r : RR} : fineK r = true ↔ FineK r := by
  unfold fineK FineK
  rw [Bool.and_eq_true, fineRB_iff]
  simp
def totM (m : Ms) : Nat := m.qs.length + m.an.length + m.au.length + m.ex.length
structure FineM (m : Ms) : Prop where
  tot : totM m ≤ 512
  id : fitsB m.id 2 = true
  op0 : 0 ≤ m.op
  op : m.op < 16
  rc0 : 0 ≤ m.rcode
  rc : m.rcode < 16
  size : fitsB m.size 2 = true
  edns : m.edns = true ∨ m.size = 0
  qs : ∀ q ∈ m.qs, FineQ q
  an : ∀ r ∈ m.an, FineK r
  au : ∀ r ∈ m.au, FineK r
  ex : ∀ r ∈ m.ex, FineK r
open Classical in
noncomputable def fineM (m : Ms) : Bool := decide (FineM m)
open Classical in
theorem fineM_yes {m : Ms} (h : FineM m) : fineM m = true := by unfold fineM; exact decide_eq_true h
open Classical in
theorem fineM_no {m : Ms} (h : ¬ FineM m) : fineM m = false := by unfold fineM; exact decide_eq_false h

section
/-- How the program writes. -/
def Wr.num2 (x : Wr) (n : Int) : Wr := x.raw (putB [] n 2)
def Wr.qu (x : Wr) (q : Qu) : Wr := ((x.name q.name true).num2 q.type).num2 q.cls
end
end Go.Proofs.Ytimkdpkhdbiniaa
