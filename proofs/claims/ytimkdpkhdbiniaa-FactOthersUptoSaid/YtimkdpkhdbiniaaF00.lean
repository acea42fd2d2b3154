/- Parts of a proof, joined: ShortP. -/
import Derived.Test.YtimkdpkhdbiniaaM12
/- MsgShort: a message takes no more than its parts, each whole. No program in it. -/
namespace Go.Proofs.Ytimkdpkhdbiniaa
open Go.RowKit
set_option maxRecDepth 100000

theorem QIn.mono {S S' : Nat → Prop} {w : World} {s : QS} {x : Qu} (hS : ∀ b, S b → S' b) (h : QIn S w s x) : QIn S' w s x := ⟨h.n.mono hS hS, h.cn, h.it, h.ic⟩
theorem one_qu {S : Nat → Prop} {w : World} {s : QS} {q : Qu} (h : QIn S w s q) (hS : ∀ b, S b → b < w.heap.size) : RdE encQu (w.alloc (.cells (qCells s q) 25)) (some ⟨w.heap.size, 0, none⟩) 1 [q] := by
  have hb : Below w.heap.size w (w.alloc (.cells (qCells s q) 25)) := bl.alloc (Nat.le_refl _) _
  refine ⟨rfl, fun _ => ⟨w.heap.size, 0, rfl, by simp [ltS], fun i x hx => ?_⟩⟩
  match i, hx with
  | 0, hx =>
    injection hx with hx
    subst hx
    have h2 := (h.below hb hS).mono (S' := ltS (w.alloc (.cells (qCells s q) 25))) (fun b hb' => Nat.lt_of_lt_of_le (hS b hb') hb.size)
    refine ⟨(qCells s q).toList, ⟨s.A, s.c, rfl, h2.n, h2.cn, h2.it, h2.ic⟩, fun j u hu => ?_⟩
    have := new_cell w (qCells s q) 25 j
    rw [Nat.zero_mul, Nat.zero_add, Nat.zero_add]
    rw [this]
    simpa using hu
def textsN (ts : List (List UInt8)) : Nat := (ts.map fun t => 1 + t.length).sum
theorem textsN_take {ts : List (List UInt8)} {k : Nat} {t : List UInt8} (h : ts[k]? = some t) : textsN (ts.take (k + 1)) = textsN (ts.take k) + (1 + t.length) := by
  unfold textsN
  rw [List.take_add_one, h, Option.toList_some, List.map_append, List.sum_append]
  simp
def dSize (d : Da) : Nat := d.bytes.length + sizeN d.host + sizeN d.mail + 4 * d.nums.length + textsN d.texts
def rSize (r : RR) : Nat := sizeN r.name + 10 + dSize r.data
def rsSize (l : List RR) : Nat := (l.map rSize).sum
theorem rsSize_take {l : List RR} {k : Nat} {r : RR} (h : l[k]? = some r) : rsSize (l.take (k + 1)) = rsSize (l.take k) + rSize r := by
  unfold rsSize
  rw [List.take_add_one, h, Option.toList_some, List.map_append, List.sum_append]
  simp
theorem putB_le2 (n : Int) : (putB [] n 2).length ≤ 2 := by
  by_cases h : fitsB n 2 = true
  · have := putB_len_fit h; rw [this]; decide
  · unfold putB; rw [if_neg h]; simp
theorem sizeN_pos (ns : List (List UInt8)) : 1 ≤ sizeN ns := by have := sizeN_length ns; omega
theorem textsB_len2 {ts : List (List UInt8)} (h : ∀ t ∈ ts, t.length ≤ 255) : (textsB ts).length ≤ textsN ts := by
  induction ts with
  | nil => simp [textsB]
  | cons t ts ih =>
    have h1 := ih fun u hu => h u (List.mem_cons_of_mem _ hu)
    have h2 := h t (List.mem_cons_self ..)
    have h3 : (putB [] (t.length : Int) 1).length = 1 := putB_len_fit (fits_len h2)
    have h4 : textsN (t :: ts) = 1 + t.length + textsN ts := by simp [textsN]
    rw [textsB_cons, h4]
    simp only [List.length_append, h3]
    omega
theorem Wr.data_len3 (x : Wr) {k : Int} {d : Da} (hf : FineS (shapeP k) d) : (x.data (shapeP k) d).b.length ≤ x.b.length + dSize d := by
  have p1 := sizeN_pos d.host
  have p2 := sizeN_pos d.mail
  rcases shape_cases k with e | e | e | e | e | e | e | e <;> rw [e] at hf ⊢
  · obtain ⟨bs, rfl, hl, e⟩ := data_A (x := x) hf; rw [e]; have := raw_len x bs; show _ ≤ _ + (bs.length + _ + _ + _ + _); omega
  · obtain ⟨bs, rfl, hl, e⟩ := data_Q (x := x) hf; rw [e]; have := raw_len x bs; show _ ≤ _ + (bs.length + _ + _ + _ + _); omega
  · obtain ⟨n, rfl, hn, e⟩ := data_N (x := x) hf; rw [e]
    have h1 := Wr.name_le (x := x) n true
    show _ ≤ _ + (_ + sizeN n + _ + _ + _); omega
  · obtain ⟨ns, n, rfl, hl, hns, hn, e⟩ := data_M (x := x) hf; rw [e]
    have h0 := raw_len x (numsB ns 2); have h00 := numsB_len hns; rw [hl] at h00
    have h1 := Wr.name_le (x := x.raw (numsB ns 2)) n true
    have h7 : (numsB ns 2).length = 2 := h00
    show _ ≤ _ + (_ + sizeN n + _ + 4 * ns.length + _); omega
  · obtain ⟨ns, n, m, rfl, hl, hns, hn, hm, e⟩ := data_S (x := x) hf; rw [e]
    have h0 := raw_len ((x.name n true).name m true) (numsB ns 4); have h00 := numsB_len hns; rw [hl] at h00
    have h1 := Wr.name_le (x := x) n true
    have h1' := Wr.name_le (x := x.name n true) m true
    have h7 : (numsB ns 4).length = 20 := h00
    show _ ≤ _ + (_ + sizeN n + sizeN m + 4 * ns.length + _); omega
  · obtain ⟨ns, n, rfl, hl, hns, hn, e⟩ := data_V (x := x) hf; rw [e]
    have h0 := raw_len x (numsB ns 2); have h00 := numsB_len hns; rw [hl] at h00
    have h1 := Wr.name_le (x := x.raw (numsB ns 2)) n false
    have h7 : (numsB ns 2).length = 6 := h00
    show _ ≤ _ + (_ + sizeN n + _ + 4 * ns.length + _); omega
  · obtain ⟨ts, rfl, h1, h64, ht, e⟩ := data_T (x := x) hf; rw [e]; have := raw_len x (textsB ts); have := textsB_len2 ht
    show _ ≤ _ + (_ + _ + _ + _ + textsN ts); omega
  · obtain ⟨bs, he, e⟩ := data_B (x := x) hf
    rw [e, he]; have := raw_len x bs; show _ ≤ _ + (bs.length + _ + _ + _ + _); omega
theorem Wr.rr_len3 (x : Wr) {r : RR} (h : FineR r) : (x.rr r).b.length ≤ x.b.length + rSize r := by
  have h1 := (x.rr_len h).1
  have h2 := Wr.data_len3 ((x.rrHead r).raw (putB [] 0 2)) h.2.1.2
  have h3 := Wr.name_le (x := x) r.name true
  have h5 := raw_len (x.rrHead r) (putB [] 0 2)
  have h6 := put02_len
  have h7 : x.rrLen r = (((x.rrHead r).raw (putB [] 0 2)).data (shapeP r.type) r.data).b.length - (x.rrHead r).b.length - 2 := rfl
  unfold rSize
  omega
theorem rrs_len3 (x : Wr) (l : List RR) : (∀ r ∈ l, FineK r) → (x.rrs l).b.length ≤ x.b.length + rsSize l := by
  unfold Wr.rrs
  refine snoc_ind (P := fun l => (∀ q ∈ l, FineK q) → (l.foldl Wr.rr x).b.length ≤ x.b.length + rsSize l) (fun _ => Nat.le_add_right _ _) (fun l n ih hf => ?_) l
  obtain ⟨h1, h2⟩ := allp_snoc hf
  rw [List.foldl_append]
  have h3 := ih h1
  have h4 := Wr.rr_len3 (l.foldl Wr.rr x) h2.2
  have h5 : rsSize (l ++ [n]) = rsSize l + rSize n := by unfold rsSize; rw [List.map_append, List.sum_append]; simp
  show ((l.foldl Wr.rr x).rr n).b.length ≤ _
  omega
theorem nums2_len3 (x : Wr) (l : List Int) : (x.nums2 l).b.length ≤ x.b.length + 2 * l.length := by
  unfold Wr.nums2
  refine snoc_ind (P := fun l => (l.foldl Wr.num2 x).b.length ≤ x.b.length + 2 * l.length) (Nat.le_refl _) (fun l n ih => ?_) l
  rw [List.foldl_append]
  have h := raw_len (l.foldl Wr.num2 x) (putB [] n 2)
  have h2 := putB_le2 n
  show ((l.foldl Wr.num2 x).raw (putB [] n 2)).b.length ≤ _
  rw [h, List.length_append, List.length_singleton]
  omega
/-- The message of a question and records. -/
def shM (q : Qu) (l : List RR) : Ms := ⟨0, true, 0, false, false, false, false, 0, [q], l, [], [], false, 0⟩
theorem short_len {q : Qu} {l : List RR} (h : FineM (shM q l)) : (msW (shM q l)).b.length ≤ 12 + sizeN q.name + 4 + rsSize l := by
  have h1 := nums2_len3 Wr.nil (headN (shM q l))
  have h2 : (headN (shM q l)).length = 6 := rfl
  have h3 := Wr.name_le (x := Wr.nil.nums2 (headN (shM q l))) q.name true
  have h4 := raw_len ((Wr.nil.nums2 (headN (shM q l))).name q.name true) (putB [] q.type 2)
  have h5 := raw_len (((Wr.nil.nums2 (headN (shM q l))).name q.name true).raw (putB [] q.type 2)) (putB [] q.cls 2)
  have h6 := putB_le2 q.type
  have h7 := putB_le2 q.cls
  have h8 := rrs_len3 ((Wr.nil.nums2 (headN (shM q l))).qu q) l h.an
  have h9 : (Wr.nil.nums2 (headN (shM q l))).qu q = (((Wr.nil.nums2 (headN (shM q l))).name q.name true).raw (putB [] q.type 2)).raw (putB [] q.cls 2) := rfl
  have h10 : msW (shM q l) = ((Wr.nil.nums2 (headN (shM q l))).qu q).rrs l := rfl
  have h11 : Wr.nil.b.length = 0 := rfl
  rw [h10]
  rw [h9] at h8 ⊢
  omega
theorem textsN_le {ts : List (List UInt8)} (h : ∀ t ∈ ts, t.length ≤ 255) : textsN ts ≤ 256 * ts.length := by
  induction ts with
  | nil => simp [textsN]
  | cons t ts ih =>
    have h1 := ih fun u hu => h u (List.mem_cons_of_mem _ hu)
    have h2 := h t (List.mem_cons_self ..)
    have h4 : textsN (t :: ts) = 1 + t.length + textsN ts := by simp [textsN]
    rw [h4, List.length_cons]
    omega
/-- What fits of a record that may be. -/
structure Fits (r : RR) : Prop where
  n : sizeN r.name ≤ 255
  b : r.data.bytes.length ≤ 65535
  h : sizeN r.data.host ≤ 255
  m : sizeN r.data.mail ≤ 255
  u : r.data.nums.length ≤ 5
  t : r.data.texts.length ≤ 64
  tx : textsN r.data.texts ≤ 16384
theorem fine_fits {r : RR} (h : FineR r) : Fits r := by
  obtain ⟨_, hb, hu, hh, hm, _, ht⟩ := h.2.1.2
  have host : ∀ b n, hostP b n → sizeN n ≤ 255 := fun b n hp => by
    unfold hostP at hp
    split at hp
    · exact hp.2
    · rw [hp]; decide
  have hnu : (shapeP r.type).nums ≤ 5 := by rcases shape_cases r.type with e | e | e | e | e | e | e | e <;> rw [e] <;> decide
  have htx : r.data.texts.length ≤ 64 ∧ textsN r.data.texts ≤ 16384 := by
    unfold textsP at ht
    split at ht
    · have := textsN_le ht.2.2; exact ⟨ht.2.1, by omega⟩
    · rw [ht]; decide
  exact ⟨h.1.2, hb, host _ _ hh, host _ _ hm, by omega, htx.1, htx.2⟩
theorem rSize_le {r : RR} (h : FineR r) : rSize r ≤ 83000 := by
  have f := fine_fits h
  have h1 := f.n; have h2 := f.b; have h3 := f.h; have h4 := f.m; have h5 := f.u; have h6 := f.tx
  unfold rSize dSize
  omega
theorem rsSize_le {l : List RR} (h : ∀ r ∈ l, FineK r) : rsSize l ≤ 83000 * l.length := by
  induction l with
  | nil => simp [rsSize]
  | cons r l ih =>
    have h1 := ih fun u hu => h u (List.mem_cons_of_mem _ hu)
    have h2 := rSize_le (h r (List.mem_cons_self ..)).2
    have h4 : rsSize (r :: l) = rSize r + rsSize l := by simp [rsSize]
    rw [h4, List.length_cons]
    omega
end Go.Proofs.Ytimkdpkhdbiniaa
