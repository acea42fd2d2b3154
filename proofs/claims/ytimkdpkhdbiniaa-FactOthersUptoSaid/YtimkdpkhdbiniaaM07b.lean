/- Parts of a proof, joined: RRrPlain, RRests, MsPlain. -/
import Derived.Test.YtimkdpkhdbiniaaM06
import Derived.Test.YtimkdpkhdbiniaaM05
/- The reference's PutRR, in plain Lean; that both writers write the same. No program in it. -/
namespace Go.Proofs.Ytimkdpkhdbiniaa
set_option maxRecDepth 100000

def RW.rrHead (y : RW) (r : RR) : RW := (((y.name r.name true).raw (putB [] r.type 2)).raw (putB [] r.cls 2)).raw (putB [] r.ttl 4)
/-- How the reference writes a record. -/
def RW.rr (y : RW) (r : RR) : RW :=
  let z := ((y.rrHead r).raw (putB [] 0 2)).data (shapeP r.type) r.data
  { z with b := putAt z.b (y.rrHead r).b.length (putB [] (z.b.length - (y.rrHead r).b.length - 2 : Nat) 2) }
theorem Alike.rrHead {x : Wr} {y : RW} (h : Alike x y) {r : RR} (hf : FineR r) : Alike (x.rrHead r) (y.rrHead r) :=
  (((Alike.name (small_of_sound hf.1) true h).raw _).raw _).raw _
theorem Alike.rr {x : Wr} {y : RW} (h : Alike x y) {r : RR} (hf : FineR r) : Alike (x.rr r) (y.rr r) := by
  have h1 := h.rrHead hf
  have h2 := (h1.raw (putB [] 0 2)).data hf.2.1.2
  refine ⟨?_, h2.2.1, h2.2.2⟩
  show putAt _ _ _ = putAt _ _ _
  rw [h2.1, h1.1]
theorem RW.Fine.textsP {y : RW} (h : y.Fine) (ts : List (List UInt8)) : (y.texts ts).Fine := by
  refine snoc_ind (P := fun ts => (y.texts ts).Fine) h (fun ts t ih => ?_) ts
  rw [RW.texts_snoc]
  exact (ih.raw _).raw _
theorem RW.Fine.numsP {y : RW} (h : y.Fine) (ns : List Int) (z : Int) : (y.nums ns z).Fine := by
  refine snoc_ind (P := fun ns => (y.nums ns z).Fine) h (fun ns n ih => ?_) ns
  rw [RW.nums_snoc]
  exact ih.raw _
theorem RW.Fine.data {y : RW} (h : y.Fine) {k : Int} {d : Da} (hf : FineS (shapeP k) d) : (y.data (shapeP k) d).Fine := by
  obtain ⟨_, _, _, hh, hm, _, _⟩ := hf
  have h1 := (h.raw d.bytes).textsP d.texts
  unfold RW.data
  simp only
  have h2 : (if (shapeP k).first = true then ((y.raw d.bytes).texts d.texts).nums d.nums (shapeP k).size else (y.raw d.bytes).texts d.texts).Fine := by
    split
    · exact h1.numsP _ _
    · exact h1
  generalize (if (shapeP k).first = true then ((y.raw d.bytes).texts d.texts).nums d.nums (shapeP k).size else (y.raw d.bytes).texts d.texts) = y2 at h2 ⊢
  have h3 : (if (shapeP k).host = true then y2.name d.host (shapeP k).short else y2).Fine := by
    unfold hostP at hh
    split
    · rename_i e
      rw [if_pos e] at hh
      exact RW.Fine.name hh _ h2
    · exact h2
  generalize (if (shapeP k).host = true then y2.name d.host (shapeP k).short else y2) = y3 at h3 ⊢
  have h4 : (if (shapeP k).mail = true then y3.name d.mail (shapeP k).short else y3).Fine := by
    unfold hostP at hm
    split
    · rename_i e
      rw [if_pos e] at hm
      exact RW.Fine.name hm _ h3
    · exact h3
  split
  · exact h4
  · exact h4.numsP _ _
theorem RW.Fine.rr {y : RW} (h : y.Fine) {r : RR} (hf : FineR r) : (y.rr r).Fine := by
  have h1 : (y.rrHead r).Fine := (((RW.Fine.name hf.1 true h).raw _).raw _).raw _
  exact (h1.raw (putB [] 0 2)).data hf.2.1.2
theorem put2_bytes {n : Nat} (h : n < 65536) : putB [] (n : Int) 2 = [UInt8.ofNat (n / 256), UInt8.ofNat n] := by
  unfold putB
  rw [if_pos (fits2 h)]
  rfl
theorem set_two (b : List UInt8) (k : Nat) (x y : UInt8) (h : k + 2 ≤ b.length) : (b.set k x).set (k + 1) y = putAt b k [x, y] := by
  apply List.ext_getElem?
  intro i
  unfold putAt
  simp only [List.length_cons, List.length_nil, Nat.zero_add]
  rw [List.getElem?_set, List.getElem?_set, List.getElem?_append]
  simp only [List.length_set, List.length_take]
  rw [Nat.min_eq_left (by omega)]
  by_cases h1 : i < k
  · rw [if_neg (by omega), if_neg (by omega), if_pos h1, List.getElem?_take, if_pos h1]
  · rw [if_neg h1]
    by_cases h2 : i = k
    · subst h2
      rw [if_neg (by omega), if_pos rfl, if_pos (by omega), Nat.sub_self]
      rfl
    · by_cases h3 : i = k + 1
      · subst h3
        rw [if_pos rfl, if_pos (by omega), show k + 1 - k = 1 by omega]
        rfl
      · rw [if_neg (by omega), if_neg (by omega)]
        obtain ⟨j, rfl⟩ : ∃ j, i = k + 2 + j := ⟨i - (k + 2), by omega⟩
        rw [show k + 2 + j - k = j + 2 by omega]
        simp only [List.cons_append, List.nil_append, List.getElem?_cons_succ, List.getElem?_drop]
end Go.Proofs.Ytimkdpkhdbiniaa

/- The reference's writer: how many rests a record notes. No program in it. -/
namespace Go.Proofs.Ytimkdpkhdbiniaa
open Go.RowKit
set_option maxRecDepth 100000

theorem RW.data_rests (y : RW) {k : Int} {d : Da} (hf : FineS (shapeP k) d) : (y.data (shapeP k) d).rests.length ≤ y.rests.length + 510 := by
  obtain ⟨_, _, _, hh, hm, _, _⟩ := hf
  have nm : ∀ (y2 : RW) (n : List (List UInt8)) (b s : Bool), hostP b n → (if b = true then y2.name n s else y2).rests.length ≤ y2.rests.length + 255 := by
    intro y2 n b s h
    unfold hostP at h
    split
    · rename_i e
      rw [if_pos e] at h
      have h1 := RW.name_rests (x := y2) n s
      have h2 := sizeN_length n
      have h3 := h.2
      omega
    · omega
  have nu : ∀ (y2 : RW) (b : Bool), (if b = true then y2.nums d.nums (shapeP k).size else y2).rests = y2.rests := by
    intro y2 b
    split
    · exact (y2.nums_len d.nums _).2
    · rfl
  have nu2 : ∀ (y2 : RW) (b : Bool), (if b = true then y2 else y2.nums d.nums (shapeP k).size).rests = y2.rests := by
    intro y2 b
    split
    · rfl
    · exact (y2.nums_len d.nums _).2
  have ht : ((y.raw d.bytes).texts d.texts).rests = y.rests := by
    have h := snoc_ind (P := fun ts => ((y.raw d.bytes).texts ts).rests = y.rests) rfl (fun ts t ih => by rw [RW.texts_snoc]; exact ih) d.texts
    exact h
  unfold RW.data
  simp only
  rw [nu2]
  have h4 := nm (if (shapeP k).host = true then (if (shapeP k).first = true then ((y.raw d.bytes).texts d.texts).nums d.nums (shapeP k).size else (y.raw d.bytes).texts d.texts).name d.host (shapeP k).short else if (shapeP k).first = true then ((y.raw d.bytes).texts d.texts).nums d.nums (shapeP k).size else (y.raw d.bytes).texts d.texts) d.mail (shapeP k).mail (shapeP k).short hm
  have h3 := nm (if (shapeP k).first = true then ((y.raw d.bytes).texts d.texts).nums d.nums (shapeP k).size else (y.raw d.bytes).texts d.texts) d.host (shapeP k).host (shapeP k).short hh
  rw [nu, ht] at h3
  omega
theorem RW.rr_rests (y : RW) {r : RR} (hf : FineR r) : (y.rr r).rests.length ≤ y.rests.length + 765 := by
  have h1 := RW.data_rests ((y.rrHead r).raw (putB [] 0 2)) hf.2.1.2
  have h2 := RW.name_rests (x := y) r.name true
  have h3 := sizeN_length r.name
  have h4 := hf.1.2
  have h5 : (y.rr r).rests = (((y.rrHead r).raw (putB [] 0 2)).data (shapeP r.type) r.data).rests := rfl
  have h6 : ((y.rrHead r).raw (putB [] 0 2)).rests = (y.name r.name true).rests := rfl
  rw [h6] at h1
  rw [h5]
  omega
end Go.Proofs.Ytimkdpkhdbiniaa

/- Messages, in plain Lean: which may be, and how one is written. No program in it. -/
namespace Go.Proofs.Ytimkdpkhdbiniaa
open Go.RowKit
set_option maxRecDepth 100000

/-- A question that may be. -/
def FineQ (q : Qu) : Prop := SoundN q.name ∧ 1 ≤ q.type ∧ fitsB q.type 2 = true ∧ fitsB q.cls 2 = true
noncomputable def fineQ (q : Qu) : Bool := soundB q.name && (decide (1 ≤ q.type) && (fitsB q.type 2 && fitsB q.cls 2))
theorem fineQ_iff {q : Qu} : fineQ q = true ↔ FineQ q := by
  unfold fineQ FineQ
  rw [Bool.and_eq_true, Bool.and_eq_true, Bool.and_eq_true, decide_eq_true_iff, soundB_iff]
/-- A record that may be in a message. -/
def FineK (r : RR) : Prop := r.type ≠ 41 ∧ FineR r
noncomputable def fineK (r : RR) : Bool := !(decide (r.type = 41)) && fineRB r
theorem fineK_iff {r : RR} : fineK r = true ↔ FineK r := by
  unfold fineK FineK
  rw [Bool.and_eq_true, fineRB_iff]
  simp
def totM (m : Ms) : Nat := m.qs.length + m.an.length + m.au.length + m.ex.length
structure FineM (m : Ms) : Prop where
  tot : totM m ≤ 512
  id : fitsB m.id 2 = true
  op0 : 0 ≤ m.op
  op : m.op < 16
  rc0 : 0 ≤ m.rcode
  rc : m.rcode < 16
  size : fitsB m.size 2 = true
  edns : m.edns = true ∨ m.size = 0
  qs : ∀ q ∈ m.qs, FineQ q
  an : ∀ r ∈ m.an, FineK r
  au : ∀ r ∈ m.au, FineK r
  ex : ∀ r ∈ m.ex, FineK r
open Classical in
noncomputable def fineM (m : Ms) : Bool := decide (FineM m)
open Classical in
theorem fineM_yes {m : Ms} (h : FineM m) : fineM m = true := by unfold fineM; exact decide_eq_true h
open Classical in
theorem fineM_no {m : Ms} (h : ¬ FineM m) : fineM m = false := by unfold fineM; exact decide_eq_false h

theorem Wr.data_len2 (x : Wr) {k : Int} {d : Da} (hf : FineS (shapeP k) d) : (x.data (shapeP k) d).b.length ≤ x.b.length + 16384 + d.bytes.length := by
  rcases shape_cases k with e | e | e | e | e | e | e | e <;> rw [e] at hf ⊢
  · obtain ⟨bs, rfl, hl, e⟩ := data_A (x := x) hf; rw [e]; have := raw_len x bs; show _ ≤ _ + _ + bs.length; omega
  · obtain ⟨bs, rfl, hl, e⟩ := data_Q (x := x) hf; rw [e]; have := raw_len x bs; show _ ≤ _ + _ + bs.length; omega
  · obtain ⟨n, rfl, hn, e⟩ := data_N (x := x) hf; rw [e]
    have h1 := Wr.name_le (x := x) n true; have h5 := hn.2
    omega
  · obtain ⟨ns, n, rfl, hl, hns, hn, e⟩ := data_M (x := x) hf; rw [e]
    have h0 := raw_len x (numsB ns 2); have h00 := numsB_len hns; rw [hl] at h00
    have h1 := Wr.name_le (x := x.raw (numsB ns 2)) n true; have h5 := hn.2
    have h7 : (numsB ns 2).length = 2 := h00
    omega
  · obtain ⟨ns, n, m, rfl, hl, hns, hn, hm, e⟩ := data_S (x := x) hf; rw [e]
    have h0 := raw_len ((x.name n true).name m true) (numsB ns 4); have h00 := numsB_len hns; rw [hl] at h00
    have h1 := Wr.name_le (x := x) n true; have h5 := hn.2
    have h1' := Wr.name_le (x := x.name n true) m true; have h5' := hm.2
    have h7 : (numsB ns 4).length = 20 := h00
    omega
  · obtain ⟨ns, n, rfl, hl, hns, hn, e⟩ := data_V (x := x) hf; rw [e]
    have h0 := raw_len x (numsB ns 2); have h00 := numsB_len hns; rw [hl] at h00
    have h1 := Wr.name_le (x := x.raw (numsB ns 2)) n false; have h5 := hn.2
    have h7 : (numsB ns 2).length = 6 := h00
    omega
  · obtain ⟨ts, rfl, h1, h64, ht, e⟩ := data_T (x := x) hf; rw [e]; have := raw_len x (textsB ts); have := textsB_len ht; omega
  · obtain ⟨bs, he, e⟩ := data_B (x := x) hf
    rw [e, he]; have := raw_len x bs; show _ ≤ _ + _ + bs.length; omega
theorem Wr.rr_len2 (x : Wr) {r : RR} (h : FineR r) : (x.rr r).b.length ≤ x.b.length + 16660 + r.data.bytes.length := by
  have h1 := (x.rr_len h).1
  have h2 := Wr.data_len2 ((x.rrHead r).raw (putB [] 0 2)) h.2.1.2
  have h3 := Wr.name_le (x := x) r.name true
  have h4 := h.1.2
  have h5 := raw_len (x.rrHead r) (putB [] 0 2)
  have h6 := put02_len
  have h7 : x.rrLen r = (((x.rrHead r).raw (putB [] 0 2)).data (shapeP r.type) r.data).b.length - (x.rrHead r).b.length - 2 := rfl
  omega

/-- The second number of a message's head. -/
def bitN (b : Bool) (n : Int) : Int := if b = true then n else 0
def flagsN (m : Ms) : Int := bitN m.resp 32768 + m.op * 2048 + bitN m.aa 1024 + bitN m.tc 512 + bitN m.rd 256 + bitN m.ra 128 + m.rcode
theorem flagsN_fits {m : Ms} (h : FineM m) : 0 ≤ flagsN m ∧ flagsN m < 65536 := by
  have h0 := h.op0; have h1 := h.op; have h2 := h.rc0; have h3 := h.rc
  unfold flagsN bitN
  constructor
  · split <;> split <;> split <;> split <;> split <;> omega
  · split <;> split <;> split <;> split <;> split <;> omega
def headN (m : Ms) : List Int := [m.id, flagsN m, m.qs.length, m.an.length, m.au.length, m.ex.length + bitN m.edns 1]

section
/-- How the program writes. -/
def Wr.num2 (x : Wr) (n : Int) : Wr := x.raw (putB [] n 2)
def Wr.qu (x : Wr) (q : Qu) : Wr := ((x.name q.name true).num2 q.type).num2 q.cls
def Wr.nums2 (x : Wr) (l : List Int) : Wr := l.foldl Wr.num2 x
def Wr.qus (x : Wr) (l : List Qu) : Wr := l.foldl Wr.qu x
def Wr.rrs (x : Wr) (l : List RR) : Wr := l.foldl Wr.rr x
def Wr.opt (x : Wr) (m : Ms) : Wr := if m.edns = true then (((x.raw [0]).num2 41).num2 m.size).raw (putB [] 0 6) else x
def msW (m : Ms) : Wr := (((((Wr.nil.nums2 (headN m)).qus m.qs).rrs m.an).rrs m.au).rrs m.ex).opt m
/-- How the reference writes. -/
def RW.num2 (x : RW) (n : Int) : RW := x.raw (putB [] n 2)
def RW.qu (x : RW) (q : Qu) : RW := ((x.name q.name true).num2 q.type).num2 q.cls
def RW.nums2 (x : RW) (l : List Int) : RW := l.foldl RW.num2 x
def RW.qus (x : RW) (l : List Qu) : RW := l.foldl RW.qu x
def RW.rrs (x : RW) (l : List RR) : RW := l.foldl RW.rr x
def RW.opt (x : RW) (m : Ms) : RW := if m.edns = true then ((x.raw [0, 0, 41]).num2 m.size).raw [0, 0, 0, 0, 0, 0] else x
def msR (m : Ms) : RW := ((((RW.nil.nums2 (headN m)).qus m.qs).rrs (m.an ++ m.au ++ m.ex))).opt m
end
theorem Wr.rrs_append (x : Wr) (l k : List RR) : x.rrs (l ++ k) = (x.rrs l).rrs k := List.foldl_append
theorem foldl_take {α β : Type} (f : β → α → β) (b : β) {l : List α} {k : Nat} {x : α} (h : l[k]? = some x) : (l.take (k + 1)).foldl f b = f ((l.take k).foldl f b) x := by
  rw [List.take_add_one, h, Option.toList_some, List.foldl_append]
  rfl

theorem Alike.num2 {x : Wr} {y : RW} (h : Alike x y) (n : Int) : Alike (x.num2 n) (y.num2 n) := h.raw _
theorem Alike.nums2 {x : Wr} {y : RW} (h : Alike x y) (l : List Int) : Alike (x.nums2 l) (y.nums2 l) := by
  unfold Wr.nums2 RW.nums2
  refine snoc_ind (P := fun l => Alike (l.foldl Wr.num2 x) (l.foldl RW.num2 y)) h (fun l n ih => ?_) l
  rw [List.foldl_append, List.foldl_append]
  exact ih.num2 n
theorem Alike.qu {x : Wr} {y : RW} (h : Alike x y) {q : Qu} (hf : FineQ q) : Alike (x.qu q) (y.qu q) := ((Alike.name (small_of_sound hf.1) true h).num2 _).num2 _
theorem allp_snoc {α : Type} {P : α → Prop} {l : List α} {a : α} (h : ∀ x ∈ l ++ [a], P x) : (∀ x ∈ l, P x) ∧ P a := ⟨fun x hx => h x (List.mem_append_left _ hx), h a (List.mem_append_right _ (List.mem_singleton.2 rfl))⟩
theorem Alike.qus {x : Wr} {y : RW} (h : Alike x y) (l : List Qu) : (∀ q ∈ l, FineQ q) → Alike (x.qus l) (y.qus l) := by
  unfold Wr.qus RW.qus
  refine snoc_ind (P := fun l => (∀ q ∈ l, FineQ q) → Alike (l.foldl Wr.qu x) (l.foldl RW.qu y)) (fun _ => h) (fun l n ih hf => ?_) l
  obtain ⟨h1, h2⟩ := allp_snoc hf
  rw [List.foldl_append, List.foldl_append]
  exact (ih h1).qu h2
theorem Alike.rrs {x : Wr} {y : RW} (h : Alike x y) (l : List RR) : (∀ r ∈ l, FineK r) → Alike (x.rrs l) (y.rrs l) := by
  unfold Wr.rrs RW.rrs
  refine snoc_ind (P := fun l => (∀ r ∈ l, FineK r) → Alike (l.foldl Wr.rr x) (l.foldl RW.rr y)) (fun _ => h) (fun l n ih hf => ?_) l
  obtain ⟨h1, h2⟩ := allp_snoc hf
  rw [List.foldl_append, List.foldl_append]
  exact (ih h1).rr h2.2
theorem Alike.opt {x : Wr} {y : RW} (h : Alike x y) (m : Ms) : Alike (x.opt m) (y.opt m) := by
  unfold Wr.opt RW.opt
  split
  · have h1 := (((h.raw [0, 0, 41]).num2 m.size).raw [0, 0, 0, 0, 0, 0])
    have e : ((((x.raw [0]).num2 41).num2 m.size).raw (putB [] 0 6)) = (((x.raw [0, 0, 41]).num2 m.size).raw [0, 0, 0, 0, 0, 0]) := by
      have e1 : putB [] 41 2 = [0, 41] := by decide
      have e2 : putB [] 0 6 = [0, 0, 0, 0, 0, 0] := by decide
      unfold Wr.num2
      rw [e1, e2]
      simp [Wr.raw]
    rw [e]
    exact h1
  · exact h
/-- Both write the same. -/
theorem ms_alike {m : Ms} (h : FineM m) : Alike (msW m) (msR m) := by
  unfold msW msR
  rw [← Wr.rrs_append, ← Wr.rrs_append, ← List.append_assoc]
  refine (((alike_nil.nums2 _).qus _ h.qs).rrs _ ?_).opt m
  intro r hr
  rcases List.mem_append.1 hr with hr | hr
  · rcases List.mem_append.1 hr with hr | hr
    · exact h.an r hr
    · exact h.au r hr
  · exact h.ex r hr
end Go.Proofs.Ytimkdpkhdbiniaa
