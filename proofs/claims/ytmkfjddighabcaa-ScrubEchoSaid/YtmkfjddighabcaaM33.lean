/- Parts of a proof, joined: ShortP, Scrub1, Scrub2, Ans18. -/
import Derived.Test.YtmkfjddighabcaaM12
import Derived.Test.YtmkfjddighabcaaM15
import Derived.Test.YtmkfjddighabcaaM21
import Derived.Test.YtmkfjddighabcaaM03
/- MsgShort: a message takes no more than its parts, each whole. No program in it. -/
namespace Go.Proofs.Ytmkfjddighabcaa
open Go.RowKit
set_option maxRecDepth 100000

theorem QIn.mono {S S' : Nat → Prop} {w : World} {s : QS} {x : Qu} (hS : ∀ b, S b → S' b) (h : QIn S w s x) : QIn S' w s x := ⟨h.n.mono hS hS, h.cn, h.it, h.ic⟩
theorem one_qu {S : Nat → Prop} {w : World} {s : QS} {q : Qu} (h : QIn S w s q) (hS : ∀ b, S b → b < w.heap.size) : RdE encQu (w.alloc (.cells (qCells s q) 50)) (some ⟨w.heap.size, 0, none⟩) 1 [q] := by
  have hb : Below w.heap.size w (w.alloc (.cells (qCells s q) 50)) := bl.alloc (Nat.le_refl _) _
  refine ⟨rfl, fun _ => ⟨w.heap.size, 0, rfl, by simp [ltS], fun i x hx => ?_⟩⟩
  match i, hx with
  | 0, hx =>
    injection hx with hx
    subst hx
    have h2 := (h.below hb hS).mono (S' := ltS (w.alloc (.cells (qCells s q) 50))) (fun b hb' => Nat.lt_of_lt_of_le (hS b hb') hb.size)
    refine ⟨(qCells s q).toList, ⟨s.A, s.c, rfl, h2.n, h2.cn, h2.it, h2.ic⟩, fun j u hu => ?_⟩
    have := new_cell w (qCells s q) 50 j
    rw [Nat.zero_mul, Nat.zero_add, Nat.zero_add]
    rw [this]
    simpa using hu
def textsN (ts : List (List UInt8)) : Nat := (ts.map fun t => 1 + t.length).sum
theorem textsN_take {ts : List (List UInt8)} {k : Nat} {t : List UInt8} (h : ts[k]? = some t) : textsN (ts.take (k + 1)) = textsN (ts.take k) + (1 + t.length) := by
  unfold textsN
  rw [List.take_add_one, h, Option.toList_some, List.map_append, List.sum_append]
  simp
def dSize (d : Da) : Nat := d.bytes.length + sizeN d.host + sizeN d.mail + 4 * d.nums.length + textsN d.texts
def rSize (r : RR) : Nat := sizeN r.name + 10 + dSize r.data
def rsSize (l : List RR) : Nat := (l.map rSize).sum
theorem rsSize_take {l : List RR} {k : Nat} {r : RR} (h : l[k]? = some r) : rsSize (l.take (k + 1)) = rsSize (l.take k) + rSize r := by
  unfold rsSize
  rw [List.take_add_one, h, Option.toList_some, List.map_append, List.sum_append]
  simp
theorem putB_le2 (n : Int) : (putB [] n 2).length ≤ 2 := by
  by_cases h : fitsB n 2 = true
  · have := putB_len_fit h; rw [this]; decide
  · unfold putB; rw [if_neg h]; simp
theorem sizeN_pos (ns : List (List UInt8)) : 1 ≤ sizeN ns := by have := sizeN_length ns; omega
theorem textsB_len2 {ts : List (List UInt8)} (h : ∀ t ∈ ts, t.length ≤ 255) : (textsB ts).length ≤ textsN ts := by
  induction ts with
  | nil => simp [textsB]
  | cons t ts ih =>
    have h1 := ih fun u hu => h u (List.mem_cons_of_mem _ hu)
    have h2 := h t (List.mem_cons_self ..)
    have h3 : (putB [] (t.length : Int) 1).length = 1 := putB_len_fit (fits_len h2)
    have h4 : textsN (t :: ts) = 1 + t.length + textsN ts := by simp [textsN]
    rw [textsB_cons, h4]
    simp only [List.length_append, h3]
    omega
theorem Wr.data_len3 (x : Wr) {k : Int} {d : Da} (hf : FineS (shapeP k) d) : (x.data (shapeP k) d).b.length ≤ x.b.length + dSize d := by
  have p1 := sizeN_pos d.host
  have p2 := sizeN_pos d.mail
  rcases shape_cases k with e | e | e | e | e | e | e | e <;> rw [e] at hf ⊢
  · obtain ⟨bs, rfl, hl, e⟩ := data_A (x := x) hf; rw [e]; have := raw_len x bs; show _ ≤ _ + (bs.length + _ + _ + _ + _); omega
  · obtain ⟨bs, rfl, hl, e⟩ := data_Q (x := x) hf; rw [e]; have := raw_len x bs; show _ ≤ _ + (bs.length + _ + _ + _ + _); omega
  · obtain ⟨n, rfl, hn, e⟩ := data_N (x := x) hf; rw [e]
    have h1 := Wr.name_le (x := x) n true
    show _ ≤ _ + (_ + sizeN n + _ + _ + _); omega
  · obtain ⟨ns, n, rfl, hl, hns, hn, e⟩ := data_M (x := x) hf; rw [e]
    have h0 := raw_len x (numsB ns 2); have h00 := numsB_len hns; rw [hl] at h00
    have h1 := Wr.name_le (x := x.raw (numsB ns 2)) n true
    have h7 : (numsB ns 2).length = 2 := h00
    show _ ≤ _ + (_ + sizeN n + _ + 4 * ns.length + _); omega
  · obtain ⟨ns, n, m, rfl, hl, hns, hn, hm, e⟩ := data_S (x := x) hf; rw [e]
    have h0 := raw_len ((x.name n true).name m true) (numsB ns 4); have h00 := numsB_len hns; rw [hl] at h00
    have h1 := Wr.name_le (x := x) n true
    have h1' := Wr.name_le (x := x.name n true) m true
    have h7 : (numsB ns 4).length = 20 := h00
    show _ ≤ _ + (_ + sizeN n + sizeN m + 4 * ns.length + _); omega
  · obtain ⟨ns, n, rfl, hl, hns, hn, e⟩ := data_V (x := x) hf; rw [e]
    have h0 := raw_len x (numsB ns 2); have h00 := numsB_len hns; rw [hl] at h00
    have h1 := Wr.name_le (x := x.raw (numsB ns 2)) n false
    have h7 : (numsB ns 2).length = 6 := h00
    show _ ≤ _ + (_ + sizeN n + _ + 4 * ns.length + _); omega
  · obtain ⟨ts, rfl, h1, h64, ht, e⟩ := data_T (x := x) hf; rw [e]; have := raw_len x (textsB ts); have := textsB_len2 ht
    show _ ≤ _ + (_ + _ + _ + _ + textsN ts); omega
  · obtain ⟨bs, he, e⟩ := data_B (x := x) hf
    rw [e, he]; have := raw_len x bs; show _ ≤ _ + (bs.length + _ + _ + _ + _); omega
theorem Wr.rr_len3 (x : Wr) {r : RR} (h : FineR r) : (x.rr r).b.length ≤ x.b.length + rSize r := by
  have h1 := (x.rr_len h).1
  have h2 := Wr.data_len3 ((x.rrHead r).raw (putB [] 0 2)) h.2.1.2
  have h3 := Wr.name_le (x := x) r.name true
  have h5 := raw_len (x.rrHead r) (putB [] 0 2)
  have h6 := put02_len
  have h7 : x.rrLen r = (((x.rrHead r).raw (putB [] 0 2)).data (shapeP r.type) r.data).b.length - (x.rrHead r).b.length - 2 := rfl
  unfold rSize
  omega
theorem rrs_len3 (x : Wr) (l : List RR) : (∀ r ∈ l, FineK r) → (x.rrs l).b.length ≤ x.b.length + rsSize l := by
  unfold Wr.rrs
  refine snoc_ind (P := fun l => (∀ q ∈ l, FineK q) → (l.foldl Wr.rr x).b.length ≤ x.b.length + rsSize l) (fun _ => Nat.le_add_right _ _) (fun l n ih hf => ?_) l
  obtain ⟨h1, h2⟩ := allp_snoc hf
  rw [List.foldl_append]
  have h3 := ih h1
  have h4 := Wr.rr_len3 (l.foldl Wr.rr x) h2.2
  have h5 : rsSize (l ++ [n]) = rsSize l + rSize n := by unfold rsSize; rw [List.map_append, List.sum_append]; simp
  show ((l.foldl Wr.rr x).rr n).b.length ≤ _
  omega
theorem nums2_len3 (x : Wr) (l : List Int) : (x.nums2 l).b.length ≤ x.b.length + 2 * l.length := by
  unfold Wr.nums2
  refine snoc_ind (P := fun l => (l.foldl Wr.num2 x).b.length ≤ x.b.length + 2 * l.length) (Nat.le_refl _) (fun l n ih => ?_) l
  rw [List.foldl_append]
  have h := raw_len (l.foldl Wr.num2 x) (putB [] n 2)
  have h2 := putB_le2 n
  show ((l.foldl Wr.num2 x).raw (putB [] n 2)).b.length ≤ _
  rw [h, List.length_append, List.length_singleton]
  omega
/-- The message of a question and records. -/
def shM (q : Qu) (l : List RR) : Ms := ⟨0, true, 0, false, false, false, false, 0, [q], l, [], [], false, 0⟩
theorem short_len {q : Qu} {l : List RR} (h : FineM (shM q l)) : (msW (shM q l)).b.length ≤ 12 + sizeN q.name + 4 + rsSize l := by
  have h1 := nums2_len3 Wr.nil (headN (shM q l))
  have h2 : (headN (shM q l)).length = 6 := rfl
  have h3 := Wr.name_le (x := Wr.nil.nums2 (headN (shM q l))) q.name true
  have h4 := raw_len ((Wr.nil.nums2 (headN (shM q l))).name q.name true) (putB [] q.type 2)
  have h5 := raw_len (((Wr.nil.nums2 (headN (shM q l))).name q.name true).raw (putB [] q.type 2)) (putB [] q.cls 2)
  have h6 := putB_le2 q.type
  have h7 := putB_le2 q.cls
  have h8 := rrs_len3 ((Wr.nil.nums2 (headN (shM q l))).qu q) l h.an
  have h9 : (Wr.nil.nums2 (headN (shM q l))).qu q = (((Wr.nil.nums2 (headN (shM q l))).name q.name true).raw (putB [] q.type 2)).raw (putB [] q.cls 2) := rfl
  have h10 : msW (shM q l) = ((Wr.nil.nums2 (headN (shM q l))).qu q).rrs l := rfl
  have h11 : Wr.nil.b.length = 0 := rfl
  rw [h10]
  rw [h9] at h8 ⊢
  omega
theorem textsN_le {ts : List (List UInt8)} (h : ∀ t ∈ ts, t.length ≤ 255) : textsN ts ≤ 256 * ts.length := by
  induction ts with
  | nil => simp [textsN]
  | cons t ts ih =>
    have h1 := ih fun u hu => h u (List.mem_cons_of_mem _ hu)
    have h2 := h t (List.mem_cons_self ..)
    have h4 : textsN (t :: ts) = 1 + t.length + textsN ts := by simp [textsN]
    rw [h4, List.length_cons]
    omega
/-- What fits of a record that may be. -/
structure Fits (r : RR) : Prop where
  n : sizeN r.name ≤ 255
  b : r.data.bytes.length ≤ 65535
  h : sizeN r.data.host ≤ 255
  m : sizeN r.data.mail ≤ 255
  u : r.data.nums.length ≤ 5
  t : r.data.texts.length ≤ 64
  tx : textsN r.data.texts ≤ 16384
theorem fine_fits {r : RR} (h : FineR r) : Fits r := by
  obtain ⟨_, hb, hu, hh, hm, _, ht⟩ := h.2.1.2
  have host : ∀ b n, hostP b n → sizeN n ≤ 255 := fun b n hp => by
    unfold hostP at hp
    split at hp
    · exact hp.2
    · rw [hp]; decide
  have hnu : (shapeP r.type).nums ≤ 5 := by rcases shape_cases r.type with e | e | e | e | e | e | e | e <;> rw [e] <;> decide
  have htx : r.data.texts.length ≤ 64 ∧ textsN r.data.texts ≤ 16384 := by
    unfold textsP at ht
    split at ht
    · have := textsN_le ht.2.2; exact ⟨ht.2.1, by omega⟩
    · rw [ht]; decide
  exact ⟨h.1.2, hb, host _ _ hh, host _ _ hm, by omega, htx.1, htx.2⟩
theorem rSize_le {r : RR} (h : FineR r) : rSize r ≤ 83000 := by
  have f := fine_fits h
  have h1 := f.n; have h2 := f.b; have h3 := f.h; have h4 := f.m; have h5 := f.u; have h6 := f.tx
  unfold rSize dSize
  omega
theorem rsSize_le {l : List RR} (h : ∀ r ∈ l, FineK r) : rsSize l ≤ 83000 * l.length := by
  induction l with
  | nil => simp [rsSize]
  | cons r l ih =>
    have h1 := ih fun u hu => h u (List.mem_cons_of_mem _ hu)
    have h2 := rSize_le (h r (List.mem_cons_self ..)).2
    have h4 : rsSize (r :: l) = rSize r + rsSize l := by simp [rsSize]
    rw [h4, List.length_cons]
    omega
end Go.Proofs.Ytmkfjddighabcaa

/- scrub: questions that are sent: in memory; the law's own. -/
namespace Go.Proofs.Ytmkfjddighabcaa
open Go.RowKit
set_option maxRecDepth 100000

/-- A question that is sent. -/
structure Ou where
  addr : List UInt8
  port : Int
  id : Int
  q : Qu
structure OuS where
  A : Option Addr
  c : Nat
  q : QS
def ouCells (s : OuS) (o : Ou) : Array Value := #[.slice s.A o.addr.length s.c, .int .i64 o.port, .int .i64 o.id, .slice s.q.A o.q.name.length s.q.c, .int .i64 o.q.type, .int .i64 o.q.cls]
def ouV (s : OuS) (o : Ou) : Value := .agg (ouCells s o)
structure OIn (S : Nat → Prop) (w : World) (s : OuS) (o : Ou) : Prop where
  a : Els encB S S w s.A o.addr.length o.addr
  ca : o.addr.length ≤ s.c ∧ s.c ≤ maxLen
  ip : i64S o.port
  ii : i64S o.id
  q : QIn S w s.q o.q
section
variable {S S' F : Nat → Prop} {w w' : World} {s : OuS} {o : Ou}
theorem OIn.mono (hS : ∀ b, S b → S' b) (h : OIn S w s o) : OIn S' w s o := ⟨h.a.mono hS hS, h.ca, h.ip, h.ii, h.q.mono hS⟩
theorem OIn.keep (hS : ∀ b, S b → w'.heap[b]? = w.heap[b]?) (h : OIn S w s o) : OIn S w' s o := ⟨h.a.keep hS hS, h.ca, h.ip, h.ii, h.q.keep hS⟩
theorem OIn.below (h : OIn S w s o) (hb : Below w.heap.size w w') (hl : ∀ b, S b → b < w.heap.size) : OIn S w' s o := h.keep fun b hbS => hb.block b (hl b hbS)
end
def ORow (w : World) (q : Nat) (s : OuS) (o : Ou) : Prop := w.heap[q]? = some (.cells (ouCells s o) 52 (0, 0))
section
variable {w w' : World} {q : Nat} {s : OuS} {o : Ou}
theorem ORow.lt (h : ORow w q s o) : q < w.heap.size := (Array.getElem?_eq_some_iff.1 h).1
theorem ORow.below (h : ORow w q s o) (hb : Below w.heap.size w w') : ORow w' q s o := (hb.block q h.lt).trans h
theorem ORow.cell (h : ORow w q s o) (j : Nat) : w.cell? ⟨q, j, none⟩ = (ouCells s o)[j]? := cell_of_row _ _ _ _ _ _ h
theorem ORow.free (h : ORow w q s o) (j : Nat) : w.frozen? ⟨q, j, none⟩ = false := frozen_of_row _ _ _ _ _ h
theorem ORow.put (h : ORow w q s o) (j : Nat) (v : Value) (s' : OuS) (o' : Ou) (e : (ouCells s o).setIfInBounds j v = ouCells s' o') : ORow (w.setCell ⟨q, j, none⟩ v) q s' o' := by
  unfold ORow
  rw [← e]
  exact heap_setCell_same _ _ _ _ _ _ h
theorem ORow.made (w : World) (s : OuS) (o : Ou) : ORow (w.alloc (.cells (ouCells s o) 52)) w.heap.size s o := heap_alloc_new w _
theorem ORow.cells (h : ORow w q s o) : w.cell? ⟨q, 0, none⟩ = some (.slice s.A o.addr.length s.c) ∧ w.cell? ⟨q, 1, none⟩ = some (.int .i64 o.port) ∧ w.cell? ⟨q, 2, none⟩ = some (.int .i64 o.id) ∧ w.cell? ⟨q, 3, none⟩ = some (.slice s.q.A o.q.name.length s.q.c) ∧ w.cell? ⟨q, 4, none⟩ = some (.int .i64 o.q.type) ∧ w.cell? ⟨q, 5, none⟩ = some (.int .i64 o.q.cls) :=
  ⟨(h.cell 0).trans rfl, (h.cell 1).trans rfl, (h.cell 2).trans rfl, (h.cell 3).trans rfl, (h.cell 4).trans rfl, (h.cell 5).trans rfl⟩
end
def Ou.zero : Ou := ⟨[], 0, 0, ⟨[], 0, 0⟩⟩
def OuS.nil : OuS := ⟨none, 0, ⟨none, 0⟩⟩
def put6 (w : World) (q : Nat) (v0 v1 v2 v3 v4 v5 : Value) : World := (((((w.setCell ⟨q, 0, none⟩ v0).setCell ⟨q, 1, none⟩ v1).setCell ⟨q, 2, none⟩ v2).setCell ⟨q, 3, none⟩ v3).setCell ⟨q, 4, none⟩ v4).setCell ⟨q, 5, none⟩ v5
theorem set6 {w : World} {q : Nat} {t : TypeId} {a0 a1 a2 a3 a4 a5 : Value} (h : w.heap[q]? = some (.cells #[a0, a1, a2, a3, a4, a5] t (0, 0))) (v0 v1 v2 v3 v4 v5 : Value) : (put6 w q v0 v1 v2 v3 v4 v5).heap[q]? = some (.cells #[v0, v1, v2, v3, v4, v5] t (0, 0)) :=
  heap_setCell_same _ _ 5 _ _ _ (heap_setCell_same _ _ 4 _ _ _ (heap_setCell_same _ _ 3 _ _ _ (heap_setCell_same _ _ 2 _ _ _ (heap_setCell_same _ _ 1 _ _ _ (heap_setCell_same _ _ 0 _ _ _ h)))))
theorem chg6 (w : World) (q : Nat) (v0 v1 v2 v3 v4 v5 : Value) : Chg (fun k => k = q) w (put6 w q v0 v1 v2 v3 v4 v5) := by
  unfold put6
  have k : ∀ {u : World} (j : Nat) (v : Value), Chg (fun k => k = q) w u → Chg (fun k => k = q) w (u.setCell ⟨q, j, none⟩ v) := fun j v h => h.setCell (p := ⟨q, j, none⟩) (Or.inl rfl) v
  exact k 5 _ (k 4 _ (k 3 _ (k 2 _ (k 1 _ (k 0 _ (Chg.refl _ w))))))
theorem ORow.fill {w : World} {q : Nat} {s : OuS} {o : Ou} (h : ORow w q s o) (s' : OuS) (o' : Ou) : ORow (put6 w q (.slice s'.A o'.addr.length s'.c) (.int .i64 o'.port) (.int .i64 o'.id) (.slice s'.q.A o'.q.name.length s'.q.c) (.int .i64 o'.q.type) (.int .i64 o'.q.cls)) q s' o' := set6 h _ _ _ _ _ _

set_option maxHeartbeats 4000000 in
theorem own18_any (s : OuS) (o : Ou) (w : World) {S : Nat → Prop} (h : OIn S w s o) (hS : ∀ b, S b → b < w.heap.size) (hn : o.q.name.length ≤ 200) (ha : o.addr.length ≤ 100) :
    Calls Try.prog 27 #[ouV s o] w (RetP (fun v w' => ∃ s', v = ouV s' o ∧ OIn (geS w.heap.size w') w' s' o) w) := by
  obtain ⟨w1, hw1⟩ : ∃ w1, w1 = w.alloc (.cells (ouCells s o) 52) := ⟨_, rfl⟩
  obtain ⟨w2, hw2⟩ : ∃ w2, w2 = w1.alloc (.cells (ouCells OuS.nil Ou.zero) 52) := ⟨_, rfl⟩
  have hb1 : Below w.heap.size w w1 := by rw [hw1]; exact bl.alloc (Nat.le_refl _) _
  have hb2 : Below w1.heap.size w1 w2 := by rw [hw2]; exact bl.alloc (Nat.le_refl _) _
  have hz1 : w1.heap.size = w.heap.size + 1 := by rw [hw1]; simp
  have hz2 : w2.heap.size = w.heap.size + 2 := by rw [hw2]; simp; omega
  have hR1 : ORow w2 w.heap.size s o := by have h : ORow w1 w.heap.size s o := by rw [hw1]; exact ORow.made w s o
                                           exact h.below hb2
  have hR2 : ORow w2 (w.heap.size + 1) OuS.nil Ou.zero := by rw [hw2, ← hz1]; exact ORow.made w1 _ _
  have HR1 := Lib.hid hR1
  have HR2 := Lib.hid hR2
  have HI2 := Lib.hid ((h.below hb1 hS).below hb2 (fun b hb => Nat.lt_of_lt_of_le (hS b hb) hb1.size))
  have HS : Hid (∀ b, S b → b < w.heap.size) := hS
  have HBW : Hid (Below w.heap.size w w2) := nx hb1 hb2
  have HZ2 := Lib.hid hz2
  unfold ouV
  unfold ouCells at hw1 hw2 ⊢
  simp only [OuS.nil, Ou.zero, List.length_nil] at hw2
  clear h hS hb1 hb2 hz1 hz2 hR1 hR2
  go_enter Try.func27, Try.ntmps27
  go_upto_region 1 with (fail)
  rw [← hw1, ← hw2]
  clear hw1 hw2
  generalize hq0 : w.heap.size = q at HR1 HR2 HS ⊢
  have HQ0 := Lib.hid hq0
  clear hq0
  obtain ⟨x0, x1, x2, x3, x4, x5⟩ := HR1.out.cells
  have hbx : Below w2.heap.size w2 (w2.alloc (.cells #[] 5)) := bl.alloc (Nat.le_refl _) _
  have xa0 := below_cell hbx x0
  go_upto_region 2 with (first
    | ((with_reducible show wpList _ _ _ (⟨some 6, _, _, _, _, _⟩ :: _) _ _); go_must (refine wpL_cloneB rfl (.tmp 3) (.tmp 5) rfl rfl s.A _ s.c o.addr rfl (els_bytes HI2.out.a) (by omega) ?_; intro v3 w3 hown3 hb3; obtain ⟨A3, c3, rfl, _, hl3, hm3⟩ := OwnB.form hown3; have hR3 := HR1.out.below hb3; have e0 := hR3.cells.1; have f0 := hR3.free 0))
    | fail)
  obtain ⟨w4, hw4⟩ : ∃ w4, w4 = w3.setCell ⟨q, 0, none⟩ (.slice A3 o.addr.length c3) := ⟨_, rfl⟩
  have hc4 : Chg (fun z => z = q) w3 w4 := by rw [hw4]; exact chg_g1 w3 q 0 _
  have HR4 : Hid (ORow w4 q ⟨A3, c3, s.q⟩ o) := by show ORow _ _ _ _; rw [hw4]; exact hR3.put 0 _ _ _ rfl
  have hqz : q + 2 = w2.heap.size := by rw [HZ2.out, HQ0.out]
  have HA4 : Hid (Els encB (geS w2.heap.size w4) (geS w2.heap.size w4) w4 A3 o.addr.length o.addr) := els_ge (ownB_els hown3 rfl).1 hc4 (fun z h1 _ e => by omega)
  have HCA : Hid (o.addr.length ≤ c3 ∧ c3 ≤ maxLen) := ⟨hl3, hm3⟩
  have HB4 : Hid (Below w2.heap.size w2 w3) := hb3
  have HC4 := Lib.hid hc4
  have HP4 : Hid (ORow w4 (q + 1) OuS.nil Ou.zero) := hc4.heap (HR2.out.below hb3) (by omega)
  have HI4 : Hid (OIn S w4 s o) := (HI2.out.below hb3 (fun b hb => by have := HS.out b hb; omega)).keep (fun b hb => hc4.block b (by have h1 := HS.out b hb; have h2 := hb3.size; omega) (by have h1 := HS.out b hb; omega))
  have HZ4 : Hid (w2.heap.size ≤ w4.heap.size) := Nat.le_trans hb3.size hc4.size
  have HBW4 : Hid (Below w.heap.size w w4) := (HBW.out.trans (hb3.mono HBW.out.size)).trans (hc4.below (fun z hz => by rw [hz, ← HQ0.out]; omega) (by rw [HQ0.out]; have := hb3.size; omega))
  rw [← hw4]
  clear hw4 hc4 hown3 hl3 hm3 hR3 e0 f0 xa0 hbx x0 x1 x2 x3 x4 x5 hb3
  obtain ⟨x0, x1, x2, x3, x4, x5⟩ := HR4.out.cells
  have hbx : Below w4.heap.size w4 (w4.alloc (.cells #[] 9)) := bl.alloc (Nat.le_refl _) _
  have xa3 := below_cell hbx x3
  go_upto_region 3 with (first
    | ((with_reducible show wpList _ _ _ (⟨some 12, _, _, _, _, _⟩ :: _) _ _); go_must (refine wpL_cloneS rfl (.tmp 8) (.tmp 11) rfl rfl s.q.A _ s.q.c o.q.name rfl HI4.out.q.n (by omega) ?_; intro v5 w5 hown5 hb5; obtain ⟨A5, c5, rfl, _, hl5, hm5⟩ := OwnE.form hown5; have hR5 := HR4.out.below hb5; have e3 := hR5.cells.2.2.2.1; have f3 := hR5.free 3))
    | fail)
  obtain ⟨w6, hw6⟩ : ∃ w6, w6 = w5.setCell ⟨q, 3, none⟩ (.slice A5 o.q.name.length c5) := ⟨_, rfl⟩
  have hc6 : Chg (fun z => z = q) w5 w6 := by rw [hw6]; exact chg_g1 w5 q 3 _
  have hR6 : ORow w6 q ⟨A3, c3, ⟨A5, c5⟩⟩ o := by rw [hw6]; exact hR5.put 3 _ _ _ rfl
  have hz4 := HZ4.out
  have hN6 : Els encS (geS w2.heap.size w6) (geS w2.heap.size w6) w6 A5 o.q.name.length o.q.name := els_ge (els_le (ownE_els hown5 rfl).1 hz4) hc6 (fun z h1 _ e => by omega)
  have hA6 : Els encB (geS w2.heap.size w6) (geS w2.heap.size w6) w6 A3 o.addr.length o.addr := els_ge (els_geB HA4.out hb5) hc6 (fun z h1 _ e => by omega)
  have hP6 : ORow w6 (q + 1) OuS.nil Ou.zero := hc6.heap (HP4.out.below hb5) (by omega)
  have hs5 := hb5.size
  have HZ6 : Hid (w2.heap.size ≤ w6.heap.size) := Nat.le_trans (Nat.le_trans hz4 hs5) hc6.size
  have HBW6 : Hid (Below w.heap.size w w6) := (nx HBW4.out hb5).trans (hc6.below (fun z hz => by rw [hz, ← HQ0.out]; omega) (by rw [HQ0.out]; omega))
  have HN6 := Lib.hid (And.intro hN6 (And.intro hl5 hm5))
  have HA6 := Lib.hid hA6
  have HP6 := Lib.hid hP6
  rw [← hw6]
  clear hw6 hc6 hown5 hl5 hm5 hR5 e3 f3 xa3 hbx x0 x1 x2 x3 x4 x5 hb5 hN6 hA6 hP6 hs5 hz4
  obtain ⟨z0, z1, z2, z3, z4, z5⟩ := hR6.cells
  obtain ⟨p0, p1, p2, p3, p4, p5⟩ := HP6.out.cells
  simp only [OuS.nil, Ou.zero, List.length_nil] at p0 p1 p2 p3 p4 p5
  have f0 := HP6.out.free 0
  have f1 := HP6.out.free 1
  have f2 := HP6.out.free 2
  have f3 := HP6.out.free 3
  have f4 := HP6.out.free 4
  have f5 := HP6.out.free 5
  go_wp2
  obtain ⟨ym, hym⟩ : ∃ y, y = put6 w6 (q + 1) (.slice A3 o.addr.length c3) (.int .i64 o.port) (.int .i64 o.id) (.slice A5 o.q.name.length c5) (.int .i64 o.q.type) (.int .i64 o.q.cls) := ⟨_, rfl⟩
  have hRm : ORow ym (q + 1) ⟨A3, c3, ⟨A5, c5⟩⟩ o := by rw [hym]; exact HP6.out.fill ⟨A3, c3, ⟨A5, c5⟩⟩ o
  have hcm : Chg (fun z => z = q + 1) w6 ym := by rw [hym]; exact chg6 _ _ _ _ _ _ _ _
  unfold put6 at hym
  rw [← hym]
  clear hym z0 z1 z2 z3 z4 z5 p0 p1 p2 p3 p4 p5 f0 f1 f2 f3 f4 f5
  obtain ⟨z0, z1, z2, z3, z4, z5⟩ := hRm.cells
  have hz6 := HZ6.out
  have hq0 := HQ0.out
  have hm : ∀ b, geS w2.heap.size ym b → geS q ym b := fun b hb => ⟨by have h1 := hb.1; omega, hb.2⟩
  refine bodyPost_ret (v := ouV ⟨A3, c3, ⟨A5, c5⟩⟩ o) ?_ rfl ⟨_, rfl, ⟨_, rfl, ?_⟩, HBW6.out.trans (hcm.below (fun z hz => by omega) (by omega))⟩
  · simp [results, Try.results27, go_sem, z0, z1, z2, z3, z4, z5]
    rfl
  · rw [HQ0.out]
    exact ⟨(els_ge HA6.out hcm (fun z h1 _ e => by omega)).mono hm hm, HCA.out, HI4.out.ip, HI4.out.ii, ⟨(els_ge HN6.out.1 hcm (fun z h1 _ e => by omega)).mono hm hm, HN6.out.2, HI4.out.q.it, HI4.out.q.ic⟩⟩
end Go.Proofs.Ytmkfjddighabcaa

/- scrub.Query and the reference's: which datagram a question is. -/
namespace Go.Proofs.Ytmkfjddighabcaa
open Go.RowKit
set_option maxRecDepth 100000

/-- The message that asks. -/
def qryM (o : Ou) : Ms := ⟨o.id, false, 0, false, false, false, false, 0, [o.q], [], [], [], true, 1232⟩
structure OkO (o : Ou) : Prop where
  a : o.addr.length = 4
  p : fitsB o.port 2 = true
  e : (encP (qryM o)).2 = 0
theorem i64_0 : i64S 0 := ⟨by decide, by decide⟩
theorem qry_in {S : Nat → Prop} {w : World} {s : QS} {o : Ou} (h : QIn S w s o.q) (hS : ∀ b, S b → b < w.heap.size) (ii : i64S o.id) : MIn (ltS (w.alloc (.cells (qCells s o.q) 50))) (w.alloc (.cells (qCells s o.q) 50)) ⟨some ⟨w.heap.size, 0, none⟩, 1, none, 0, none, 0, none, 0⟩ (qryM o) :=
  ⟨one_qu h hS, Els.nil _ _ _ _ _, Els.nil _ _ _ _ _, Els.nil _ _ _ _ _, ⟨Nat.le_refl _, show (1 : Nat) ≤ maxLen by decide⟩, ⟨Nat.le_refl _, Nat.zero_le _⟩, ⟨Nat.le_refl _, Nat.zero_le _⟩, ⟨Nat.le_refl _, Nat.zero_le _⟩, ii, i64_0, i64_0, ⟨show (-9223372036854775808 : Int) ≤ 1232 by decide, show (1232 : Int) ≤ 9223372036854775807 by decide⟩⟩
theorem qry_lt {o : Ou} (h : o.q.name.length ≤ 1000000000) : LtM (qryM o) := by
  have hs : ∀ j, secL (qryM o) j = [] := fun j => by match j with | 0 => rfl | 1 => rfl | n + 2 => rfl
  exact ⟨by show 1 ≤ _; decide, fun j => by rw [hs j]; decide, fun x hx => (by rw [show x = o.q from List.mem_singleton.1 hx]; exact h), fun j x hx => (by rw [hs j] at hx; cases hx)⟩
theorem qry_bytes (o : Ou) : bytesM (qryM o) ≤ 200000 := by show 0 ≤ _; omega
def dgZ : Value := .agg #[.slice none 0 0, .int .i64 0, .slice none 0 0]
def put3 (w : World) (q : Nat) (v0 v1 v2 : Value) : World := ((w.setCell ⟨q, 0, none⟩ v0).setCell ⟨q, 1, none⟩ v1).setCell ⟨q, 2, none⟩ v2
theorem set3 {w : World} {q : Nat} {t : TypeId} {a0 a1 a2 : Value} (h : w.heap[q]? = some (.cells #[a0, a1, a2] t (0, 0))) (v0 v1 v2 : Value) : (put3 w q v0 v1 v2).heap[q]? = some (.cells #[v0, v1, v2] t (0, 0)) :=
  heap_setCell_same _ _ 2 _ _ _ (heap_setCell_same _ _ 1 _ _ _ (heap_setCell_same _ _ 0 _ _ _ h))
theorem chg3 (w : World) (q : Nat) (v0 v1 v2 : Value) : Chg (fun k => k = q) w (put3 w q v0 v1 v2) := by
  unfold put3
  have k : ∀ {u : World} (j : Nat) (v : Value), Chg (fun k => k = q) w u → Chg (fun k => k = q) w (u.setCell ⟨q, j, none⟩ v) := fun j v h => h.setCell (p := ⟨q, j, none⟩) (Or.inl rfl) v
  exact k 2 _ (k 1 _ (k 0 _ (Chg.refl _ w)))
/-- The datagram of a question. -/
def DgGot (w : World) (B : Nat) (v : Value) (o : Ou) : Prop := ∃ A c A' c', v = .agg #[.slice A o.addr.length c, .int .i64 o.port, .slice A' (encP (qryM o)).1.length c'] ∧ OwnB w B (.slice A o.addr.length c) o.addr ∧ OwnB w B (.slice A' (encP (qryM o)).1.length c') (encP (qryM o)).1 ∧ (∀ b off b' off', A = some ⟨b, off, none⟩ → A' = some ⟨b', off', none⟩ → b ≠ b')
theorem ownB_ends {w : World} {B : Nat} {A : Option Addr} {n c : Nat} {bs : List UInt8} (h : OwnB w B (.slice A n c) bs) : ∀ b off, A = some ⟨b, off, none⟩ → B ≤ b ∧ b < w.heap.size := by
  intro b off e
  subst e
  have hl := World.ownsRow.lt h
  rcases h.2 with ⟨e0, _⟩ | ⟨g, cap, cur, e0, h3, _⟩
  · injection e0 with e0
    cases e0
  · injection e0 with e0
    injection e0 with e0
    injection e0 with e0
    subst e0
    exact hl _ rfl
theorem ownB_ch {w w' : World} {B : Nat} {v : Value} {bs : List UInt8} {F : Nat → Prop} (h : OwnB w B v bs) (hc : Chg F w w') (hF : ∀ k, v.ownBlock = some k → ¬ F k) : OwnB w' B v bs := h.chgv hc hF

set_option maxHeartbeats 4000000 in
theorem squery_bad (s : OuS) (o : Ou) (w : World) {S : Nat → Prop} (h : OIn S w s o) (hS : ∀ b, S b → b < w.heap.size) (hn : o.q.name.length ≤ 1000000000) (hok : ¬ OkO o) :
    Calls Try.prog 28 #[ouV s o] w (RetP (fun v _ => v = .tuple #[dgZ, .int .i64 2]) w) := by
  have HOK := Lib.hid hok
  clear hok
  obtain ⟨w1, hw1⟩ : ∃ w1, w1 = w.alloc (.cells (ouCells s o) 52) := ⟨_, rfl⟩
  obtain ⟨w2, hw2⟩ : ∃ w2, w2 = w1.alloc (.cells #[.slice none 0 0, .int .i64 0, .slice none 0 0] 54) := ⟨_, rfl⟩
  have hb1 : Below w.heap.size w w1 := by rw [hw1]; exact bl.alloc (Nat.le_refl _) _
  have hb2 : Below w1.heap.size w1 w2 := by rw [hw2]; exact bl.alloc (Nat.le_refl _) _
  have hz1 : w1.heap.size = w.heap.size + 1 := by rw [hw1]; simp
  have hz2 : w2.heap.size = w.heap.size + 2 := by rw [hw2]; simp; omega
  have hR1 : ORow w2 w.heap.size s o := by have h : ORow w1 w.heap.size s o := by rw [hw1]; exact ORow.made w s o
                                           exact h.below hb2
  have hD2 : w2.heap[w.heap.size + 1]? = some (.cells #[.slice none 0 0, .int .i64 0, .slice none 0 0] 54 (0, 0)) := by rw [hw2, ← hz1]; exact heap_alloc_new w1 _
  have HI2 := Lib.hid ((h.below hb1 hS).below hb2 (fun b hb => Nat.lt_of_lt_of_le (hS b hb) hb1.size))
  have HS2 : Hid (∀ b, S b → b < w2.heap.size) := fun b hb => by have := hS b hb; omega
  obtain ⟨w3, hw3⟩ : ∃ w3, w3 = w2.alloc (.cells (qCells s.q o.q) 50) := ⟨_, rfl⟩
  have hb3 : Below w2.heap.size w2 w3 := by rw [hw3]; exact bl.alloc (Nat.le_refl _) _
  have hmi := qry_in HI2.out.q HS2.out h.ii
  rw [← hw3] at hmi
  have henc := mEncode_any _ (qryM o) w3 hmi (fun b hb => hb) (qry_lt hn) (qry_bytes o)
  have HENC : Hid (Calls Try.prog 17 #[.agg #[.int .i64 o.id, .bool false, .int .i64 0, .bool false, .bool false, .bool false, .bool false, .int .i64 0, .slice (some ⟨w2.heap.size, 0, none⟩) 1 1, .slice none 0 0, .slice none 0 0, .slice none 0 0, .bool true, .int .i64 1232]] w3 (RetP (fun v w' => ∃ bv, v = .tuple #[bv, .int .i64 (encP (qryM o)).2] ∧ OwnB w' w3.heap.size bv (encP (qryM o)).1) w3)) := henc
  have HR1 := Lib.hid hR1
  have HD2 := Lib.hid hD2
  have HBW3 : Hid (Below w2.heap.size w2 w3) := hb3
  have HBW : Hid (Below w.heap.size w w3) := nx (nx hb1 hb2) hb3
  have HZ2 : Hid (w2.heap.size = w.heap.size + 2 ∧ w2.heap.size ≤ w3.heap.size) := ⟨hz2, hb3.size⟩
  obtain ⟨x0, x1, x2, x3, x4, x5⟩ := hR1.cells
  unfold ouV
  unfold ouCells at hw1 ⊢
  unfold qCells at hw3
  clear h hS hb1 hb2 hb3 hz1 hz2 hR1 hD2 hmi henc hn
  go_enter Try.func28, Try.ntmps28
  go_upto_region 1 with (fail)
  rw [← hw1, ← hw2]
  clear hw1 hw2
  go_upto_region 2 with (first
    | (go_at_call 17; rw [← hw3]; refine HENC.out.mono ?_; rintro e w4 ⟨v4, rfl, ⟨bv, rfl, ho4⟩, hb4⟩; obtain ⟨A4, c4, hv4, _, _, _⟩ := OwnB.form ho4; subst hv4; have HO4 := Lib.hid ho4; have HB4 := Lib.hid hb4; clear ho4 hb4)
    | fail)
  clear hw3 x0 x1 x2 x3 x4 x5
  have HBW4 := Lib.hid (nx HBW.out HB4.out)
  have HB24 := Lib.hid (nx HBW3.out HB4.out)
  have HR4 := Lib.hid (HR1.out.below HB24.out)
  have hD4 := (HB24.out.block _ (Array.getElem?_eq_some_iff.1 HD2.out).1).trans HD2.out
  have HD4 := Lib.hid hD4
  obtain ⟨x0, x1, x2, x3, x4, x5⟩ := HR4.out.cells
  have d0 : w4.cell? ⟨w.heap.size + 1, 0, none⟩ = some (.slice none 0 0) := (cell_of_row _ _ _ _ _ _ hD4).trans rfl
  have d1 : w4.cell? ⟨w.heap.size + 1, 1, none⟩ = some (.int .i64 0) := (cell_of_row _ _ _ _ _ _ hD4).trans rfl
  have d2 : w4.cell? ⟨w.heap.size + 1, 2, none⟩ = some (.slice none 0 0) := (cell_of_row _ _ _ _ _ _ hD4).trans rfl
  have f0 := frozen_of_row w4 (w.heap.size + 1) 0 _ _ hD4
  have f1 := frozen_of_row w4 (w.heap.size + 1) 1 _ _ hD4
  have f2 := frozen_of_row w4 (w.heap.size + 1) 2 _ _ hD4
  by_cases t0 : (o.addr.length : Int) = 4
  · have t0b : ((o.addr.length : Int) != 4) = false := by simp [t0]
    have HT0 := Lib.hid t0
    cases t1 : fitsB o.port 2 with
    | false =>
      have HFP := Lib.hid t1
      clear t1
      go_wp2_with (first
        | (go_at_call 54; refine (fits_any o.port 2 w4).mono ?_; rw [HFP.out]; rintro e w5 ⟨rfl, rfl⟩)
        | fail)
      obtain ⟨ym, hym⟩ : ∃ y, y = put3 w4 (w.heap.size + 1) (.slice none 0 0) (.int .i64 0) (.slice none 0 0) := ⟨_, rfl⟩
      have hRm := set3 HD4.out (.slice none 0 0) (.int .i64 0) (.slice none 0 0)
      have hcm := chg3 w4 (w.heap.size + 1) (.slice none 0 0) (.int .i64 0) (.slice none 0 0)
      rw [← hym] at hRm hcm
      unfold put3 at hym
      rw [← hym]
      clear hym d0 d1 d2 f0 f1 f2 hD4
      have y0 : ym.cell? ⟨w.heap.size + 1, 0, none⟩ = some (.slice none 0 0) := (cell_of_row _ _ _ _ _ _ hRm).trans rfl
      have y1 : ym.cell? ⟨w.heap.size + 1, 1, none⟩ = some (.int .i64 0) := (cell_of_row _ _ _ _ _ _ hRm).trans rfl
      have y2 : ym.cell? ⟨w.heap.size + 1, 2, none⟩ = some (.slice none 0 0) := (cell_of_row _ _ _ _ _ _ hRm).trans rfl
      refine bodyPost_ret (v := .tuple #[dgZ, .int .i64 2]) ?_ rfl ⟨_, rfl, rfl, HBW4.out.trans (hcm.below (fun z hz => by omega) HBW4.out.size)⟩
      simp [results, Try.results28, go_sem, y0, y1, y2]
      rfl
    | true =>
      have HFP := Lib.hid t1
      clear t1
      have t2 : ¬ (encP (qryM o)).2 = 0 := fun he => HOK.out ⟨by have := HT0.out; omega, HFP.out, he⟩
      have t2b : ((encP (qryM o)).2 != 0) = true := by simp [t2]
      go_wp2_with (first
        | (go_at_call 54; refine (fits_any o.port 2 w4).mono ?_; rw [HFP.out]; rintro e w5 ⟨rfl, rfl⟩)
        | fail)
      obtain ⟨ym, hym⟩ : ∃ y, y = put3 w4 (w.heap.size + 1) (.slice none 0 0) (.int .i64 0) (.slice none 0 0) := ⟨_, rfl⟩
      have hRm := set3 HD4.out (.slice none 0 0) (.int .i64 0) (.slice none 0 0)
      have hcm := chg3 w4 (w.heap.size + 1) (.slice none 0 0) (.int .i64 0) (.slice none 0 0)
      rw [← hym] at hRm hcm
      unfold put3 at hym
      rw [← hym]
      clear hym d0 d1 d2 f0 f1 f2 hD4
      have y0 : ym.cell? ⟨w.heap.size + 1, 0, none⟩ = some (.slice none 0 0) := (cell_of_row _ _ _ _ _ _ hRm).trans rfl
      have y1 : ym.cell? ⟨w.heap.size + 1, 1, none⟩ = some (.int .i64 0) := (cell_of_row _ _ _ _ _ _ hRm).trans rfl
      have y2 : ym.cell? ⟨w.heap.size + 1, 2, none⟩ = some (.slice none 0 0) := (cell_of_row _ _ _ _ _ _ hRm).trans rfl
      refine bodyPost_ret (v := .tuple #[dgZ, .int .i64 2]) ?_ rfl ⟨_, rfl, rfl, HBW4.out.trans (hcm.below (fun z hz => by omega) HBW4.out.size)⟩
      simp [results, Try.results28, go_sem, y0, y1, y2]
      rfl
  · have t0b : ((o.addr.length : Int) != 4) = true := by simp [t0]
    go_wp2
    obtain ⟨ym, hym⟩ : ∃ y, y = put3 w4 (w.heap.size + 1) (.slice none 0 0) (.int .i64 0) (.slice none 0 0) := ⟨_, rfl⟩
    have hRm := set3 HD4.out (.slice none 0 0) (.int .i64 0) (.slice none 0 0)
    have hcm := chg3 w4 (w.heap.size + 1) (.slice none 0 0) (.int .i64 0) (.slice none 0 0)
    rw [← hym] at hRm hcm
    unfold put3 at hym
    rw [← hym]
    clear hym d0 d1 d2 f0 f1 f2 hD4
    have y0 : ym.cell? ⟨w.heap.size + 1, 0, none⟩ = some (.slice none 0 0) := (cell_of_row _ _ _ _ _ _ hRm).trans rfl
    have y1 : ym.cell? ⟨w.heap.size + 1, 1, none⟩ = some (.int .i64 0) := (cell_of_row _ _ _ _ _ _ hRm).trans rfl
    have y2 : ym.cell? ⟨w.heap.size + 1, 2, none⟩ = some (.slice none 0 0) := (cell_of_row _ _ _ _ _ _ hRm).trans rfl
    refine bodyPost_ret (v := .tuple #[dgZ, .int .i64 2]) ?_ rfl ⟨_, rfl, rfl, HBW4.out.trans (hcm.below (fun z hz => by omega) HBW4.out.size)⟩
    simp [results, Try.results28, go_sem, y0, y1, y2]
    rfl

set_option maxHeartbeats 4000000 in
theorem squery_ok (s : OuS) (o : Ou) (w : World) {S : Nat → Prop} (h : OIn S w s o) (hS : ∀ b, S b → b < w.heap.size) (hn : o.q.name.length ≤ 1000000000) (hok : OkO o) :
    Calls Try.prog 28 #[ouV s o] w (RetP (fun v w' => ∃ dv, v = .tuple #[dv, .int .i64 0] ∧ DgGot w' w.heap.size dv o) w) := by
  have HOK := Lib.hid hok
  clear hok
  obtain ⟨w1, hw1⟩ : ∃ w1, w1 = w.alloc (.cells (ouCells s o) 52) := ⟨_, rfl⟩
  obtain ⟨w2, hw2⟩ : ∃ w2, w2 = w1.alloc (.cells #[.slice none 0 0, .int .i64 0, .slice none 0 0] 54) := ⟨_, rfl⟩
  have hb1 : Below w.heap.size w w1 := by rw [hw1]; exact bl.alloc (Nat.le_refl _) _
  have hb2 : Below w1.heap.size w1 w2 := by rw [hw2]; exact bl.alloc (Nat.le_refl _) _
  have hz1 : w1.heap.size = w.heap.size + 1 := by rw [hw1]; simp
  have hz2 : w2.heap.size = w.heap.size + 2 := by rw [hw2]; simp; omega
  have hR1 : ORow w2 w.heap.size s o := by have h : ORow w1 w.heap.size s o := by rw [hw1]; exact ORow.made w s o
                                           exact h.below hb2
  have hD2 : w2.heap[w.heap.size + 1]? = some (.cells #[.slice none 0 0, .int .i64 0, .slice none 0 0] 54 (0, 0)) := by rw [hw2, ← hz1]; exact heap_alloc_new w1 _
  have HI2 := Lib.hid ((h.below hb1 hS).below hb2 (fun b hb => Nat.lt_of_lt_of_le (hS b hb) hb1.size))
  have HS2 : Hid (∀ b, S b → b < w2.heap.size) := fun b hb => by have := hS b hb; omega
  obtain ⟨w3, hw3⟩ : ∃ w3, w3 = w2.alloc (.cells (qCells s.q o.q) 50) := ⟨_, rfl⟩
  have hb3 : Below w2.heap.size w2 w3 := by rw [hw3]; exact bl.alloc (Nat.le_refl _) _
  have hmi := qry_in HI2.out.q HS2.out h.ii
  rw [← hw3] at hmi
  have henc := mEncode_any _ (qryM o) w3 hmi (fun b hb => hb) (qry_lt hn) (qry_bytes o)
  have HENC : Hid (Calls Try.prog 17 #[.agg #[.int .i64 o.id, .bool false, .int .i64 0, .bool false, .bool false, .bool false, .bool false, .int .i64 0, .slice (some ⟨w2.heap.size, 0, none⟩) 1 1, .slice none 0 0, .slice none 0 0, .slice none 0 0, .bool true, .int .i64 1232]] w3 (RetP (fun v w' => ∃ bv, v = .tuple #[bv, .int .i64 (encP (qryM o)).2] ∧ OwnB w' w3.heap.size bv (encP (qryM o)).1) w3)) := henc
  have HR1 := Lib.hid hR1
  have HD2 := Lib.hid hD2
  have HBW3 : Hid (Below w2.heap.size w2 w3) := hb3
  have HBW : Hid (Below w.heap.size w w3) := nx (nx hb1 hb2) hb3
  have HZ2 : Hid (w2.heap.size = w.heap.size + 2 ∧ w2.heap.size ≤ w3.heap.size) := ⟨hz2, hb3.size⟩
  obtain ⟨x0, x1, x2, x3, x4, x5⟩ := hR1.cells
  unfold ouV
  unfold ouCells at hw1 ⊢
  unfold qCells at hw3
  clear h hS hb1 hb2 hb3 hz1 hz2 hR1 hD2 hmi henc hn
  go_enter Try.func28, Try.ntmps28
  go_upto_region 1 with (fail)
  rw [← hw1, ← hw2]
  clear hw1 hw2
  go_upto_region 2 with (first
    | (go_at_call 17; rw [← hw3]; refine HENC.out.mono ?_; rintro e w4 ⟨v4, rfl, ⟨bv, rfl, ho4⟩, hb4⟩; obtain ⟨A4, c4, hv4, _, _, _⟩ := OwnB.form ho4; subst hv4; have HO4 := Lib.hid ho4; have HB4 := Lib.hid hb4; clear ho4 hb4)
    | fail)
  clear hw3 x0 x1 x2 x3 x4 x5
  have HBW4 := Lib.hid (nx HBW.out HB4.out)
  have HB24 := Lib.hid (nx HBW3.out HB4.out)
  have HR4 := Lib.hid (HR1.out.below HB24.out)
  have hD4 := (HB24.out.block _ (Array.getElem?_eq_some_iff.1 HD2.out).1).trans HD2.out
  have HD4 := Lib.hid hD4
  obtain ⟨x0, x1, x2, x3, x4, x5⟩ := HR4.out.cells
  have d0 : w4.cell? ⟨w.heap.size + 1, 0, none⟩ = some (.slice none 0 0) := (cell_of_row _ _ _ _ _ _ hD4).trans rfl
  have d1 : w4.cell? ⟨w.heap.size + 1, 1, none⟩ = some (.int .i64 0) := (cell_of_row _ _ _ _ _ _ hD4).trans rfl
  have d2 : w4.cell? ⟨w.heap.size + 1, 2, none⟩ = some (.slice none 0 0) := (cell_of_row _ _ _ _ _ _ hD4).trans rfl
  have f0 := frozen_of_row w4 (w.heap.size + 1) 0 _ _ hD4
  have f1 := frozen_of_row w4 (w.heap.size + 1) 1 _ _ hD4
  have f2 := frozen_of_row w4 (w.heap.size + 1) 2 _ _ hD4
  clear d0 d1 d2 f0 f1 f2 x0 x1 x2 x3 x4 x5
  have HFP := Lib.hid HOK.out.p
  rw [HOK.out.e]
  have ha4 := HOK.out.a
  have t0b : ((o.addr.length : Int) != 4) = false := by rw [ha4]; rfl
  have HA4 := Lib.hid ha4
  clear ha4
  have HBK : Hid (∀ w', Below w4.heap.size w4 w' → w'.cell? ⟨w.heap.size, 0, none⟩ = some (.slice s.A o.addr.length s.c) ∧ w'.cell? ⟨w.heap.size, 1, none⟩ = some (.int .i64 o.port)) := fun w' hw => ⟨(HR4.out.below hw).cells.1, (HR4.out.below hw).cells.2.1⟩
  obtain ⟨x0, x1⟩ := HBK.out w4 bl
  go_upto_region 4 with (first
    | (go_at_call 54; refine (fits_any o.port 2 w4).mono ?_; rw [HFP.out]; rintro e w5 ⟨rfl, rfl⟩)
    | fail)
  have y0 := HBK.out w4 bl
  have y1 := HBK.out w4.drew bl.drew
  have HADR : Hid (RdB w4.drew s.A o.addr.length o.addr) := els_bytes (So := S) (Si := S) ((HI2.out.below HB24.out HS2.out).a.keep (w' := w4.drew) (fun b hb => rfl) (fun b hb => rfl))
  clear x0 x1
  go_region_held3 (fun w' => w'.cell? ⟨w.heap.size, 0, none⟩ = some (.slice s.A o.addr.length s.c) ∧ w'.cell? ⟨w.heap.size, 1, none⟩ = some (.int .i64 o.port))
    (first
      | with_reducible exact y0
      | with_reducible exact y1
      | with_reducible exact y2
      | with_reducible exact y3
      | fail)
    (first
      | (go_at_call 64; refine (bclone_any _ _ _ o.addr w4.drew HADR.out (by have := HA4.out; omega)).mono ?_; rintro e w5 ⟨v5, rfl, ho5, hb5⟩; obtain ⟨A5, c5, hv5, _, _, _⟩ := OwnB.form ho5; subst hv5; have hb45 : Below w4.heap.size w4 w5 := (bl.drew.trans hb5); have y2 := HBK.out w5 hb45; have hD5 := (hb45.block _ (Array.getElem?_eq_some_iff.1 HD4.out).1).trans HD4.out; have d0 : w5.cell? ⟨w.heap.size + 1, 0, none⟩ = some (.slice none 0 0) := (cell_of_row _ _ _ _ _ _ hD5).trans rfl; have d1 : w5.cell? ⟨w.heap.size + 1, 1, none⟩ = some (.int .i64 0) := (cell_of_row _ _ _ _ _ _ hD5).trans rfl; have d2 : w5.cell? ⟨w.heap.size + 1, 2, none⟩ = some (.slice none 0 0) := (cell_of_row _ _ _ _ _ _ hD5).trans rfl; have f0 := frozen_of_row w5 (w.heap.size + 1) 0 _ _ hD5; have f1 := frozen_of_row w5 (w.heap.size + 1) 1 _ _ hD5; have f2 := frozen_of_row w5 (w.heap.size + 1) 2 _ _ hD5; have hcm := chg3 w5 (w.heap.size + 1) (.slice A5 o.addr.length c5) (.int .i64 o.port) (.slice A4 (encP (qryM o)).1.length c4); have y3 : (((w5.setCell ⟨w.heap.size + 1, 0, none⟩ (.slice A5 o.addr.length c5)).setCell ⟨w.heap.size + 1, 1, none⟩ (.int .i64 o.port)).setCell ⟨w.heap.size + 1, 2, none⟩ (.slice A4 (encP (qryM o)).1.length c4)).cell? ⟨w.heap.size, 0, none⟩ = some (.slice s.A o.addr.length s.c) ∧ (((w5.setCell ⟨w.heap.size + 1, 0, none⟩ (.slice A5 o.addr.length c5)).setCell ⟨w.heap.size + 1, 1, none⟩ (.int .i64 o.port)).setCell ⟨w.heap.size + 1, 2, none⟩ (.slice A4 (encP (qryM o)).1.length c4)).cell? ⟨w.heap.size, 1, none⟩ = some (.int .i64 o.port) := ⟨hcm.cell y2.1 (fun e => by simp at e), hcm.cell y2.2 (fun e => by simp at e)⟩)
      | fail)
  clear y0 y1 y2 y3
  have hRm := set3 hD5 (.slice A5 o.addr.length c5) (.int .i64 o.port) (.slice A4 (encP (qryM o)).1.length c4)
  obtain ⟨ym, hym⟩ : ∃ y, y = put3 w5 (w.heap.size + 1) (.slice A5 o.addr.length c5) (.int .i64 o.port) (.slice A4 (encP (qryM o)).1.length c4) := ⟨_, rfl⟩
  rw [← hym] at hRm hcm
  unfold put3 at hym
  rw [← hym]
  clear hym d0 d1 d2 f0 f1 f2 hD5
  have y0 : ym.cell? ⟨w.heap.size + 1, 0, none⟩ = some (.slice A5 o.addr.length c5) := (cell_of_row _ _ _ _ _ _ hRm).trans rfl
  have y1 : ym.cell? ⟨w.heap.size + 1, 1, none⟩ = some (.int .i64 o.port) := (cell_of_row _ _ _ _ _ _ hRm).trans rfl
  have y2 : ym.cell? ⟨w.heap.size + 1, 2, none⟩ = some (.slice A4 (encP (qryM o)).1.length c4) := (cell_of_row _ _ _ _ _ _ hRm).trans rfl
  have hw4 : w2.heap.size = w.heap.size + 2 ∧ w2.heap.size ≤ w3.heap.size := HZ2.out
  have hs34 := HB4.out.size
  have hs45 := hb45.size
  go_wp2
  refine bodyPost_ret (v := .tuple #[.agg #[.slice A5 o.addr.length c5, .int .i64 o.port, .slice A4 (encP (qryM o)).1.length c4], .int .i64 0]) ?_ rfl ⟨_, rfl, ⟨_, rfl, ⟨A5, c5, A4, c4, rfl, ?_, ?_, fun b off b' off' h1 h2 => by have h3 := (ownB_ends ho5 b off h1).1; have h4 := (ownB_ends HO4.out b' off' h2).2; have h5 : w4.drew.heap.size = w4.heap.size := rfl; omega⟩⟩, (nx HBW4.out hb45).trans (hcm.below (fun z hz => by omega) (by have := HBW4.out.size; omega))⟩
  · simp [results, Try.results28, go_sem, y0, y1, y2]
  · exact (ownB_ch ho5 hcm (fun k hk e => by have h1 := World.ownsRow.lt ho5 k hk; have h2 : w4.drew.heap.size = w4.heap.size := rfl; omega)).mono (by have h2 : w4.drew.heap.size = w4.heap.size := rfl; omega)
  · exact (ownB_ch (HO4.out.below hb45) hcm (fun k hk e => by have h1 := World.ownsRow.lt HO4.out k hk; omega)).mono (by omega)

end Go.Proofs.Ytmkfjddighabcaa

/- gazetteerlaw18.answers. -/
namespace Go.Proofs.Ytmkfjddighabcaa
open Go.RowKit
set_option maxRecDepth 100000

def ouA : Ou := ⟨[1, 2, 3, 4], 0, 258, ⟨[], 1, 1⟩⟩
theorem ouA_fine : FineM (qryM ouA) := ⟨by decide, by decide, by decide, by decide, by decide, by decide, by decide, .inl rfl, fun q hq => (by rw [show q = ouA.q from List.mem_singleton.1 hq]; exact ⟨soundB_iff.1 (by unfold soundB; simp [ouA, SoundN, sizeN]), by decide, by decide, by decide⟩), fun _ h => (List.not_mem_nil h).elim, fun _ h => (List.not_mem_nil h).elim, fun _ h => (List.not_mem_nil h).elim⟩
theorem ouA_b : (msW (qryM ouA)).b = [1, 2, 0, 0, 0, 1, 0, 0, 0, 0, 0, 1, 0, 0, 1, 0, 1, 0, 0, 41, 4, 208, 0, 0, 0, 0, 0, 0] := by kernel_rfl
theorem ouA_enc : encP (qryM ouA) = ([1, 2, 0, 0, 0, 1, 0, 0, 0, 0, 0, 1, 0, 0, 1, 0, 1, 0, 0, 41, 4, 208, 0, 0, 0, 0, 0, 0], 0) := by rw [encP_ok (fineM_yes ouA_fine) (by rw [ouA_b]; decide), ouA_b]
theorem ouA_ok : OkO ouA := ⟨rfl, by decide, by rw [ouA_enc]⟩
set_option maxHeartbeats 4000000 in
theorem answers18_any (w : World) : Calls Try.prog 24 #[] w (LawT w) := by
  obtain ⟨w1, hw1⟩ : ∃ w1, w1 = w.alloc (.cells #[.int .u8 1, .int .u8 2, .int .u8 3, .int .u8 4] 5) := ⟨_, rfl⟩
  have hb1 : Below w.heap.size w w1 := by rw [hw1]; exact bl.alloc (Nat.le_refl _) _
  have hlit : RdB w1 (some ⟨w.heap.size, 0, none⟩) 4 [1, 2, 3, 4] := by rw [hw1]; exact lit_rd w [1, 2, 3, 4] (Nat.le_of_ble_eq_true rfl)
  have hin : OIn (ltS w1) w1 ⟨some ⟨w.heap.size, 0, none⟩, 4, ⟨none, 0⟩⟩ ouA := ⟨bytes_rdE hlit, ⟨Nat.le_refl _, show (4 : Nat) ≤ maxLen by decide⟩, i64_0, ⟨show (-9223372036854775808 : Int) ≤ 258 by decide, show (258 : Int) ≤ 9223372036854775807 by decide⟩, ⟨Els.nil _ _ _ _ _, ⟨Nat.le_refl _, Nat.zero_le _⟩, ⟨show (-9223372036854775808 : Int) ≤ 1 by decide, show (1 : Int) ≤ 9223372036854775807 by decide⟩, ⟨show (-9223372036854775808 : Int) ≤ 1 by decide, show (1 : Int) ≤ 9223372036854775807 by decide⟩⟩⟩
  have hq := squery_ok _ ouA w1 hin (fun b hb => hb) (by decide) ouA_ok
  have HC : Hid (Calls Try.prog 28 #[.agg #[.slice (some ⟨w.heap.size, 0, none⟩) 4 4, .int .i64 0, .int .i64 258, .slice none 0 0, .int .i64 1, .int .i64 1]] w1 (RetP (fun v w' => ∃ A2 c2 b3 c3, v = .tuple #[.agg #[.slice A2 4 c2, .int .i64 0, .slice (some ⟨b3, 0, none⟩) 28 c3], .int .i64 0] ∧ w'.cell? ⟨b3, 0, none⟩ = some (.int .u8 1)) w1)) := by
    refine Calls.mono hq ?_
    rintro e w2 ⟨v2, rfl, ⟨dv, rfl, A2, c2, A3, c3, hdv, _, ho3, _⟩, hb2⟩
    rw [ouA_enc] at ho3 hdv
    obtain ⟨b3, cc3, hv3, _, _, _, _⟩ := OwnB.flat ho3 (by decide)
    injection hv3 with h1 h2 h3
    subst h1
    exact ⟨_, rfl, ⟨A2, c2, b3, c3, by rw [hdv]; rfl, (OwnB.cell ho3 (k := 0) (by decide)).trans rfl⟩, hb2⟩
  have HB1 := Lib.hid hb1
  clear hlit hin hb1 hq
  go_enter Try.func24, Try.ntmps24
  go_upto_region 2 with (first
    | (go_at_call 28; rw [← hw1]; refine HC.out.mono ?_; rintro e w2 ⟨v2, rfl, ⟨A2, c2, b3, c3, rfl, hc3⟩, hb2⟩; have HB2 := Lib.hid hb2; have hbd : Below w2.heap.size w2 (w2.alloc (.cells #[.slice A2 4 c2, .int .i64 0, .slice (some ⟨b3, 0, none⟩) 28 c3] 54)) := (bl.alloc (Nat.le_refl _) _); have hcd := below_cell hbd hc3; have e2 : (w2.alloc (.cells #[.slice A2 4 c2, .int .i64 0, .slice (some ⟨b3, 0, none⟩) 28 c3] 54)).cell? ⟨w2.heap.size, 2, none⟩ = some (.slice (some ⟨b3, 0, none⟩) 28 c3) := (new_cell w2 _ _ 2).trans rfl; have HBD := Lib.hid hbd; clear hb2 hbd)
    | fail)
  clear hw1
  go_wp2
  go_ret
  exact ⟨rfl, nx (nx HB1.out HB2.out) HBD.out⟩

end Go.Proofs.Ytmkfjddighabcaa
