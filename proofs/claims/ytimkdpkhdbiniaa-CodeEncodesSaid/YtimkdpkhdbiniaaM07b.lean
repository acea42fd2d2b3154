/- Parts of a proof, joined: RRrPlain, RRests, MsPlain. -/
import Derived.Test.YtimkdpkhdbiniaaM06
import Derived.Test.YtimkdpkhdbiniaaM05
/- The reference's PutRR, in plain Lean; that both writers write the same. No program in it. -/
namespace Go.Proofs.Ytimkdpkhdbiniaa
set_option maxRecDepth 100000

def RW.rrHead (y : RW) (r : RR) : RW := (((y.name r.name true).raw (putB [] r.type 2)).raw (putB [] r.cls 2)).raw (putB [] r.ttl 4)
/-- How the reference writes a record. -/
def RW.rr (y : RW) (r : RR) : RW :=
  let z := ((y.rrHead r).raw (putB [] 0 2)).data (shapeP r.type) r.data
  { z with b := putAt z.b (y.rrHead r).b.length (putB [] (z.b.length - (y.rrHead r).b.length - 2 : Nat) 2) }
theorem Alike.rrHead {x : Wr} {y : RW} (h : Alike x y) {r : RR} (hf : FineR r) : Alike (x.rrHead r) (y.rrHead r) :=
  (((Alike.name (small_of_sound hf.1) true h).raw _).raw _).raw _
theorem Alike.rr {x : Wr} {y : RW} (h : Alike x y) {r : RR} (hf : FineR r) : Alike (x.rr r) (y.rr r) := by
  have h1 := h.rrHead hf
  have h2 := (h1.raw (putB [] 0 2)).data hf.2.1.2
  refine ⟨?_, h2.2.1, h2.2.2⟩
  show putAt _ _ _ = putAt _ _ _
  rw [h2.1, h1.1]
theorem RW.Fine.textsP {y : RW} (h : y.Fine) (ts : List (List UInt8)) : (y.texts ts).Fine := by
  refine snoc_ind (P := fun ts => (y.texts ts).Fine) h (fun ts t ih => ?_) ts
  rw [RW.texts_snoc]
  exact (ih.raw _).raw _
theorem RW.Fine.numsP {y : RW} (h : y.Fine) (ns : List Int) (z : Int) : (y.nums ns z).Fine := by
  refine snoc_ind (P := fun ns => (y.nums ns z).Fine) h (fun ns n ih => ?_) ns
  rw [RW.nums_snoc]
  exact ih.raw _
theorem RW.Fine.data {y : RW} (h : y.Fine) {k : Int} {d : Da} (hf : FineS (shapeP k) d) : (y.data (shapeP k) d).Fine := by
  obtain ⟨_, _, _, hh, hm, _, _⟩ := hf
  have h1 := (h.raw d.bytes).textsP d.texts
  unfold RW.data
  simp only
  have h2 : (if (shapeP k).first = true then ((y.raw d.bytes).texts d.texts).nums d.nums (shapeP k).size else (y.raw d.bytes).texts d.texts).Fine := by
    split
    · exact h1.numsP _ _
    · exact h1
  generalize (if (shapeP k).first = true then ((y.raw d.bytes).texts d.texts).nums d.nums (shapeP k).size else (y.raw d.bytes).texts d.texts) = y2 at h2 ⊢
  have h3 : (if (shapeP k).host = true then y2.name d.host (shapeP k).short else y2).Fine := by
    unfold hostP at hh
    split
    · rename_i e
      rw [if_pos e] at hh
      exact RW.Fine.name hh _ h2
    · exact h2
  generalize (if (shapeP k).host = true then y2.name d.host (shapeP k).short else y2) = y3 at h3 ⊢
  have h4 : (if (shapeP k).mail = true then y3.name d.mail (shapeP k).short else y3).Fine := by
    unfold hostP at hm
    split
    · rename_i e
      rw [if_pos e] at hm
      exact RW.Fine.name hm _ h3
    · exact h3
  split
  · exact h4
  · exact h4.numsP _ _
theorem RW.Fine.rr {y : RW} (h : y.Fine) {r : RR} (hf : FineR r) : (y.rr r).Fine := by
  have h1 : (y.rrHead r).Fine := (((RW.Fine.name hf.1 true h).raw _).raw _).raw _
  exact (h1.raw (putB [] 0 2)).data hf.2.1.2
end Go.Proofs.Ytimkdpkhdbiniaa

/- The reference's writer: how many rests a record notes. No program in it. -/
namespace Go.Proofs.Ytimkdpkhdbiniaa
open Go.RowKit
set_option maxRecDepth 100000

end Go.Proofs.Ytimkdpkhdbiniaa

/- Messages, in plain Lean: which may be, and how one is written. No program in it. -/
namespace Go.Proofs.Ytimkdpkhdbiniaa
open Go.RowKit
set_option maxRecDepth 100000

section
end
theorem foldl_take {α β : Type} (f : β → α → β) (b : β) {l : List α} {k : Nat} {x : α} (h : l[k]? = some x) : (l.take (k + 1)).foldl f b = f ((l.take k).foldl f b) x := by
  rw [List.take_add_one, h, Option.toList_some, List.foldl_append]
  rfl

end Go.Proofs.Ytimkdpkhdbiniaa
