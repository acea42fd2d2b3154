/- Parts of a proof, joined: RWPlain, RWFine, PutPlain, DBack, PutAt, RrPutP, RPut, RWMem, RWName. -/
import Derived.Test.YtimkdpkhdbiniaaSDM02b
import Derived.Test.YtimkdpkhdbiniaaSDM05
import Derived.Test.YtimkdpkhdbiniaaSDM02
import Derived.Test.YtimkdpkhdbiniaaSDM04
import Derived.Test.YtimkdpkhdbiniaaSDM01
import Derived.Test.YtimkdpkhdbiniaaSDM03
/- wname: the reference's writer in plain words, and that the program's writes the same bytes. No program in it. -/
namespace Go.Proofs.Ytimkdpkhdbiniaa

/-- What was written, and where rests stand: the eldest one first. -/
structure RW where
  b : List UInt8
  rests : List (Nat × List (List UInt8))
def findR : List (Nat × List (List UInt8)) → List (List UInt8) → Option Nat
  | [], _ => none
  | (p, m) :: rs, n => if m = n then some p else findR rs n
def RW.nil : RW := ⟨[], []⟩
def RW.raw (x : RW) (bs : List UInt8) : RW := { x with b := x.b ++ bs }
def RW.label (x : RW) (l : List UInt8) : RW := x.raw (UInt8.ofNat l.length :: l)
def RW.note (x : RW) (n : List (List UInt8)) : RW := if x.b.length < 16384 then { x with rests := x.rests ++ [(x.b.length, n)] } else x
def RW.name : RW → List (List UInt8) → Bool → RW
  | x, [], _ => x.raw [0]
  | x, l :: n, short => match findR x.rests (l :: n) with
    | some p => if short = true then x.raw (ptrB p) else ((x.note (l :: n)).label l).name n short
    | none => ((x.note (l :: n)).label l).name n short

def Small (n : List (List UInt8)) : Prop := ∀ l ∈ n, l.length < 256
theorem Small.tail {l : List UInt8} {n : List (List UInt8)} (h : Small (l :: n)) : Small n := fun x hx => h x (List.mem_cons_of_mem _ hx)
theorem RW.note_b (x : RW) (n : List (List UInt8)) : (x.note n).b = x.b := by unfold RW.note; split <;> rfl
theorem RW.note_rests (x : RW) (n : List (List UInt8)) : (x.note n).rests.length ≤ x.rests.length + 1 := by unfold RW.note; split <;> simp
theorem RW.name_rests {x : RW} (n : List (List UInt8)) (short : Bool) : (x.name n short).rests.length ≤ x.rests.length + n.length := by
  induction n generalizing x with
  | nil => exact Nat.le_refl _
  | cons l n ih =>
    unfold RW.name
    have h1 := ih (x := (x.note (l :: n)).label l)
    have h2 := x.note_rests (l :: n)
    simp only [RW.label, RW.raw, List.length_cons] at h1 ⊢
    split
    · split
      · exact Nat.le_add_right _ _
      · omega
    · omega
end Go.Proofs.Ytimkdpkhdbiniaa

/- The reference's writer: what is known of rests. No program in it. -/
namespace Go.Proofs.Ytimkdpkhdbiniaa
open Go.RowKit

end Go.Proofs.Ytimkdpkhdbiniaa

/- rdata: how data is written, in plain Lean; that both writers write the same. -/
namespace Go.Proofs.Ytimkdpkhdbiniaa

def Wr.texts (x : Wr) (ts : List (List UInt8)) : Wr := ts.foldl (fun y t => (y.raw (putB [] t.length 1)).raw t) x
def Wr.nums (x : Wr) (ns : List Int) (z : Int) : Wr := ns.foldl (fun y n => y.raw (putB [] n z)) x
def RW.texts (x : RW) (ts : List (List UInt8)) : RW := ts.foldl (fun y t => (y.raw (putB [] t.length 1)).raw t) x
def RW.nums (x : RW) (ns : List Int) (z : Int) : RW := ns.foldl (fun y n => y.raw (putB [] n z)) x
theorem Wr.texts_snoc (x : Wr) (ts : List (List UInt8)) (t : List UInt8) : x.texts (ts ++ [t]) = ((x.texts ts).raw (putB [] t.length 1)).raw t := by simp [Wr.texts, List.foldl_append]
theorem Wr.nums_snoc (x : Wr) (ns : List Int) (n z : Int) : x.nums (ns ++ [n]) z = (x.nums ns z).raw (putB [] n z) := by simp [Wr.nums, List.foldl_append]
theorem RW.texts_snoc (x : RW) (ts : List (List UInt8)) (t : List UInt8) : x.texts (ts ++ [t]) = ((x.texts ts).raw (putB [] t.length 1)).raw t := by simp [RW.texts, List.foldl_append]
theorem RW.nums_snoc (x : RW) (ns : List Int) (n z : Int) : x.nums (ns ++ [n]) z = (x.nums ns z).raw (putB [] n z) := by simp [RW.nums, List.foldl_append]
theorem Wr.raw_nil (x : Wr) : x.raw [] = x := by simp [Wr.raw]
theorem RW.raw_nil (x : RW) : x.raw [] = x := by simp [RW.raw]

/-- How a type's data is written. -/
def Wr.data (x : Wr) (s : Shp) (d : Da) : Wr :=
  let x1 := (x.raw d.bytes).texts d.texts
  let x2 := if s.first = true then x1.nums d.nums s.size else x1
  let x3 := if s.host = true then x2.name d.host s.short else x2
  let x4 := if s.mail = true then x3.name d.mail s.short else x3
  if s.first = true then x4 else x4.nums d.nums s.size
def RW.data (x : RW) (s : Shp) (d : Da) : RW :=
  let x1 := (x.raw d.bytes).texts d.texts
  let x2 := if s.first = true then x1.nums d.nums s.size else x1
  let x3 := if s.host = true then x2.name d.host s.short else x2
  let x4 := if s.mail = true then x3.name d.mail s.short else x3
  if s.first = true then x4 else x4.nums d.nums s.size

theorem putB_len (n z : Int) : (putB [] n z).length ≤ 7 := by
  unfold putB
  split
  · rename_i h
    have h' := fitsB_true h
    rw [List.nil_append, length_be]
    omega
  · simp
theorem Wr.nums_len (x : Wr) (ns : List Int) (z : Int) : (x.nums ns z).b.length ≤ x.b.length + 7 * ns.length ∧ (x.nums ns z).rests = x.rests := by
  refine snoc_ind (P := fun ns => (x.nums ns z).b.length ≤ x.b.length + 7 * ns.length ∧ (x.nums ns z).rests = x.rests) ⟨by simp [Wr.nums], rfl⟩ (fun ns n ih => ?_) ns
  rw [Wr.nums_snoc]
  have := putB_len n z
  refine ⟨?_, ih.2⟩
  simp only [Wr.raw, List.length_append, List.length_singleton]
  have := ih.1
  omega
theorem Wr.texts_len (x : Wr) (ts : List (List UInt8)) (k : Nat) (h : ∀ t ∈ ts, t.length ≤ k) : (x.texts ts).b.length ≤ x.b.length + (7 + k) * ts.length ∧ (x.texts ts).rests = x.rests := by
  revert h
  refine snoc_ind (P := fun ts => (∀ t ∈ ts, t.length ≤ k) → (x.texts ts).b.length ≤ x.b.length + (7 + k) * ts.length ∧ (x.texts ts).rests = x.rests) (fun _ => ⟨by simp [Wr.texts], rfl⟩) (fun ts t ih h => ?_) ts
  rw [Wr.texts_snoc]
  obtain ⟨h1, h2⟩ := ih (fun t ht => h t (List.mem_append_left _ ht))
  have := putB_len t.length 1
  have h3 := h t (List.mem_append_right _ (List.mem_singleton.2 rfl))
  refine ⟨?_, h2⟩
  simp only [Wr.raw, List.length_append, List.length_singleton, Nat.mul_add, Nat.mul_one]
  omega
theorem RW.nums_len (x : RW) (ns : List Int) (z : Int) : (x.nums ns z).b.length ≤ x.b.length + 7 * ns.length ∧ (x.nums ns z).rests = x.rests := by
  refine snoc_ind (P := fun ns => (x.nums ns z).b.length ≤ x.b.length + 7 * ns.length ∧ (x.nums ns z).rests = x.rests) ⟨by simp [RW.nums], rfl⟩ (fun ns n ih => ?_) ns
  rw [RW.nums_snoc]
  have := putB_len n z
  refine ⟨?_, ih.2⟩
  simp only [RW.raw, List.length_append, List.length_singleton]
  have := ih.1
  omega
theorem RW.texts_len (x : RW) (ts : List (List UInt8)) (k : Nat) (h : ∀ t ∈ ts, t.length ≤ k) : (x.texts ts).b.length ≤ x.b.length + (7 + k) * ts.length ∧ (x.texts ts).rests = x.rests := by
  revert h
  refine snoc_ind (P := fun ts => (∀ t ∈ ts, t.length ≤ k) → (x.texts ts).b.length ≤ x.b.length + (7 + k) * ts.length ∧ (x.texts ts).rests = x.rests) (fun _ => ⟨by simp [RW.texts], rfl⟩) (fun ts t ih h => ?_) ts
  rw [RW.texts_snoc]
  obtain ⟨h1, h2⟩ := ih (fun t ht => h t (List.mem_append_left _ ht))
  have := putB_len t.length 1
  have h3 := h t (List.mem_append_right _ (List.mem_singleton.2 rfl))
  refine ⟨?_, h2⟩
  simp only [RW.raw, List.length_append, List.length_singleton, Nat.mul_add, Nat.mul_one]
  omega
end Go.Proofs.Ytimkdpkhdbiniaa

/- rdata: data that was written is read as it is. No program in it. -/
namespace Go.Proofs.Ytimkdpkhdbiniaa

/-- Bytes l stand at p. -/
def Seg (b : List UInt8) (p : Nat) (l : List UInt8) : Prop := ∃ a y, b = a ++ l ++ y ∧ a.length = p
theorem Seg.cut {b l : List UInt8} {p : Nat} (h : Seg b p l) : (b.drop p).take l.length = l := by
  obtain ⟨a, y, rfl, rfl⟩ := h
  rw [List.append_assoc, List.drop_left, List.take_left]
theorem Seg.left {b l m : List UInt8} {p : Nat} (h : Seg b p (l ++ m)) : Seg b p l := by
  obtain ⟨a, y, rfl, rfl⟩ := h
  exact ⟨a, m ++ y, by simp, rfl⟩
theorem Seg.right {b l m : List UInt8} {p : Nat} (h : Seg b p (l ++ m)) : Seg b (p + l.length) m := by
  obtain ⟨a, y, rfl, rfl⟩ := h
  exact ⟨a ++ l, y, by simp, by simp⟩
theorem Seg.mk (a l y : List UInt8) : Seg (a ++ l ++ y) a.length l := ⟨a, y, rfl, rfl⟩

/-- Numbers of a size, one behind the other. -/
def numsB (ns : List Int) (z : Int) : List UInt8 := ns.flatMap fun n => putB [] n z
/-- Texts, one behind the other. -/
def textsB (ts : List (List UInt8)) : List UInt8 := ts.flatMap fun t => putB [] t.length 1 ++ t
theorem Wr.nums_b (x : Wr) (ns : List Int) (z : Int) : x.nums ns z = x.raw (numsB ns z) := by
  refine snoc_ind (P := fun ns => x.nums ns z = x.raw (numsB ns z)) (by simp [Wr.nums, numsB, Wr.raw]) (fun ns n ih => ?_) ns
  rw [Wr.nums_snoc, ih]
  simp [numsB, Wr.raw, List.flatMap_append]
theorem Wr.texts_b (x : Wr) (ts : List (List UInt8)) : x.texts ts = x.raw (textsB ts) := by
  refine snoc_ind (P := fun ts => x.texts ts = x.raw (textsB ts)) (by simp [Wr.texts, textsB, Wr.raw]) (fun ts n ih => ?_) ts
  rw [Wr.texts_snoc, ih]
  simp [textsB, Wr.raw, List.flatMap_append]
theorem numsB_cons (n : Int) (ns : List Int) (z : Int) : numsB (n :: ns) z = putB [] n z ++ numsB ns z := rfl
theorem textsB_cons (t : List UInt8) (ts : List (List UInt8)) : textsB (t :: ts) = putB [] t.length 1 ++ t ++ textsB ts := rfl
theorem putB_len_fit {n z : Int} (h : fitsB n z = true) : (putB [] n z).length = z.toNat := by
  have := putB_length [] n z h
  have h2 := fitsB_true h
  simp at this
  omega
theorem numsB_len {ns : List Int} {z : Int} (h : ∀ n ∈ ns, fitsB n z = true) : (numsB ns z).length = z.toNat * ns.length := by
  induction ns with
  | nil => simp [numsB]
  | cons n ns ih =>
    rw [numsB_cons, List.length_append, putB_len_fit (h n (List.mem_cons_self ..)), ih (fun m hm => h m (List.mem_cons_of_mem _ hm)), List.length_cons, Nat.mul_succ]
    omega
theorem fits_nat {n z : Int} (h : fitsB n z = true) : n.toNat < 256 ^ z.toNat := by
  obtain ⟨h1, h2, h3, h4⟩ := fitsB_true h
  obtain ⟨z, rfl⟩ := Int.eq_ofNat_of_zero_le (Int.le_trans (by decide) h1)
  obtain ⟨q, rfl⟩ := Int.eq_ofNat_of_zero_le h3
  simp only [Int.toNat_natCast] at h4 ⊢
  have : (q : Int) < ((256 ^ z : Nat) : Int) := by rw [Int.natCast_pow]; exact h4
  omega
theorem numR_back {b : List UInt8} {p en : Nat} {n z : Int} (hf : fitsB n z = true) (h : Seg b p (putB [] n z)) (he : p + z.toNat ≤ en) : numR b p en z.toNat = .ok (n.toNat, p + z.toNat) := by
  have h2 := fitsB_true hf
  have hc := h.cut
  rw [putB_len_fit hf] at hc
  unfold numR
  rw [if_neg (by omega), hc]
  unfold putB
  rw [if_pos hf, List.nil_append, val_be _ _ (fits_nat hf)]
theorem bytesR_back {b l : List UInt8} {p en : Nat} (h : Seg b p l) (he : p + l.length ≤ en) : bytesR b p en l.length = .ok (l, p + l.length) := by
  unfold bytesR
  rw [if_neg (by omega), h.cut]
theorem numsR_back {b : List UInt8} {en : Nat} {z : Int} : ∀ {ns : List Int} {p : Nat} {acc : List Int}, (∀ n ∈ ns, fitsB n z = true) → Seg b p (numsB ns z) → p + (numsB ns z).length ≤ en → numsR b en z.toNat ns.length p acc = .ok (acc ++ ns, p + (numsB ns z).length)
  | [], p, acc, _, _, _ => by simp [numsR, numsB]
  | n :: ns, p, acc, hf, h, he => by
    have hn := hf n (List.mem_cons_self ..)
    have hl := putB_len_fit hn
    rw [numsB_cons] at h he ⊢
    rw [List.length_append, hl] at he ⊢
    have h2 := h.right
    rw [hl] at h2
    rw [List.length_cons, numsR, numR_back hn h.left (by omega)]
    simp only
    rw [numsR_back (fun m hm => hf m (List.mem_cons_of_mem _ hm)) h2 (by omega)]
    have := (fitsB_true hn).2.2.1
    rw [Int.toNat_of_nonneg this, List.append_assoc, List.singleton_append, Nat.add_assoc]
theorem fits_len {t : List UInt8} (h : t.length ≤ 255) : fitsB (t.length : Int) 1 = true := by unfold fitsB; simp; omega
theorem textsR_back {b : List UInt8} {en : Nat} {ts : List (List UInt8)} : ∀ {k p : Nat} {acc : List (List UInt8)}, (∀ t ∈ ts, t.length ≤ 255) → ts.length ≤ k → 0 < (acc ++ ts).length → Seg b p (textsB ts) → p + (textsB ts).length = en → textsR b en k p acc = .ok (acc ++ ts, en) := by
  induction ts with
  | nil =>
    intro k p acc _ _ h0 _ he
    have he' : p = en := he
    rw [List.append_nil] at h0 ⊢
    cases k with
    | zero => rw [textsR, if_neg (by omega), if_neg (by omega), he']
    | succ k => rw [textsR, if_neg (by omega), if_neg (by omega), he']
  | cons t ts ih =>
    intro k p acc hf hk h0 h he
    cases k with
    | zero => simp at hk
    | succ k =>
      have ht := hf t (List.mem_cons_self ..)
      have hn := fits_len ht
      have hl : (putB [] (t.length : Int) 1).length = 1 := putB_len_fit hn
      rw [textsB_cons] at h he
      rw [List.length_append, List.length_append, hl] at he
      have h1 := h.left.left
      have h2 := h.left.right
      have h3 := h.right
      rw [List.length_append, hl] at h3
      rw [hl] at h2
      have hr : numR b p en 1 = .ok ((t.length : Int).toNat, p + 1) := numR_back (z := 1) hn h1 (by show p + 1 ≤ en; omega)
      rw [textsR, if_pos (by omega), hr]
      simp only
      rw [Int.toNat_natCast, bytesR_back h2 (by omega)]
      simp only
      rw [ih (acc := acc ++ [t]) (fun m hm => hf m (List.mem_cons_of_mem _ hm)) (by simpa using hk) (by simp; omega) (by rw [show p + 1 + t.length = p + (1 + t.length) by omega]; exact h3) (by omega)]
      simp
theorem nameX_back {b : List UInt8} {p q en : Nat} {n : List (List UInt8)} (hs : SoundN n) (h : Stands b p p q n) (hq : q ≤ en) : nameX b p en = .ok (n, q) := by
  have hr := h.read 0 [] (by simpa using hs.2)
  rw [List.nil_append, Nat.zero_max] at hr
  unfold nameX
  rw [hr]
  simp only
  rw [if_pos trivial, Int.toNat_natCast, if_neg (by omega)]
theorem Da.eta5 (d : Da) {b : List UInt8} {h m : List (List UInt8)} {n : List Int} {t : List (List UInt8)} (e1 : d.bytes = b) (e2 : d.host = h) (e3 : d.mail = m) (e4 : d.nums = n) (e5 : d.texts = t) : d = ⟨b, h, m, n, t⟩ := by
  cases d; simp_all
theorem nil_of_len0 {α : Type} {l : List α} (h : (l.length : Int) = 0) : l = [] := List.eq_nil_of_length_eq_zero (by omega)
section
variable {x : Wr} {d : Da}
theorem data_A (hf : FineS shpA d) : ∃ bs, d = ⟨bs, [], [], [], []⟩ ∧ bs.length = 4 ∧ x.data shpA d = x.raw bs := by
  obtain ⟨h1, h2, h3, h4, h5, h6, h7⟩ := hf
  simp [shpA, hostP, textsP] at h1 h3 h4 h5 h7
  have e := Da.eta5 d rfl h4 h5 h3 h7
  refine ⟨d.bytes, e, by omega, ?_⟩
  rw [e]; simp [Wr.data, shpA, Wr.texts, Wr.nums]
theorem data_Q (hf : FineS shpQ d) : ∃ bs, d = ⟨bs, [], [], [], []⟩ ∧ bs.length = 16 ∧ x.data shpQ d = x.raw bs := by
  obtain ⟨h1, h2, h3, h4, h5, h6, h7⟩ := hf
  simp [shpQ, hostP, textsP] at h1 h3 h4 h5 h7
  have e := Da.eta5 d rfl h4 h5 h3 h7
  refine ⟨d.bytes, e, by omega, ?_⟩
  rw [e]; simp [Wr.data, shpQ, Wr.texts, Wr.nums]
theorem data_B (hf : FineS shpB d) : ∃ bs, d = ⟨bs, [], [], [], []⟩ ∧ x.data shpB d = x.raw bs := by
  obtain ⟨h1, h2, h3, h4, h5, h6, h7⟩ := hf
  simp [shpB, hostP, textsP] at h3 h4 h5 h7
  have e := Da.eta5 d rfl h4 h5 h3 h7
  refine ⟨d.bytes, e, ?_⟩
  rw [e]; simp [Wr.data, shpB, Wr.texts, Wr.nums]
theorem data_T (hf : FineS shpT d) : ∃ ts, d = ⟨[], [], [], [], ts⟩ ∧ 1 ≤ ts.length ∧ ts.length ≤ 64 ∧ (∀ t ∈ ts, t.length ≤ 255) ∧ x.data shpT d = x.raw (textsB ts) := by
  obtain ⟨h1, h2, h3, h4, h5, h6, h7⟩ := hf
  simp only [shpT, hostP, textsP, if_pos, Bool.false_eq_true, ite_false] at h1 h3 h4 h5 h7
  have e := Da.eta5 d (nil_of_len0 (h1 (by decide))) h4 h5 (nil_of_len0 h3) rfl
  refine ⟨d.texts, e, h7.1, h7.2.1, h7.2.2, ?_⟩
  rw [e]; simp [Wr.data, shpT, Wr.texts_b, Wr.nums, Wr.raw]
theorem data_N (hf : FineS shpN d) : ∃ h, d = ⟨[], h, [], [], []⟩ ∧ SoundN h ∧ x.data shpN d = x.name h true := by
  obtain ⟨h1, h2, h3, h4, h5, h6, h7⟩ := hf
  simp only [shpN, hostP, textsP, if_pos, Bool.false_eq_true, ite_false] at h1 h3 h4 h5 h7
  have e := Da.eta5 d (nil_of_len0 (h1 (by decide))) rfl h5 (nil_of_len0 h3) h7
  refine ⟨d.host, e, h4, ?_⟩
  rw [e]; simp [Wr.data, shpN, Wr.texts, Wr.nums, Wr.raw_nil]
theorem data_M (hf : FineS shpM d) : ∃ ns h, d = ⟨[], h, [], ns, []⟩ ∧ ns.length = 1 ∧ (∀ n ∈ ns, fitsB n 2 = true) ∧ SoundN h ∧ x.data shpM d = (x.raw (numsB ns 2)).name h true := by
  obtain ⟨h1, h2, h3, h4, h5, h6, h7⟩ := hf
  simp only [shpM, hostP, textsP, if_pos, Bool.false_eq_true, ite_false] at h1 h3 h4 h5 h6 h7
  have e := Da.eta5 d (nil_of_len0 (h1 (by decide))) rfl h5 rfl h7
  refine ⟨d.nums, d.host, e, by omega, h6, h4, ?_⟩
  rw [e]; simp [Wr.data, shpM, Wr.texts, Wr.nums_b, Wr.raw_nil]
theorem data_V (hf : FineS shpV3 d) : ∃ ns h, d = ⟨[], h, [], ns, []⟩ ∧ ns.length = 3 ∧ (∀ n ∈ ns, fitsB n 2 = true) ∧ SoundN h ∧ x.data shpV3 d = (x.raw (numsB ns 2)).name h false := by
  obtain ⟨h1, h2, h3, h4, h5, h6, h7⟩ := hf
  simp only [shpV3, hostP, textsP, if_pos, Bool.false_eq_true, ite_false] at h1 h3 h4 h5 h6 h7
  have e := Da.eta5 d (nil_of_len0 (h1 (by decide))) rfl h5 rfl h7
  refine ⟨d.nums, d.host, e, by omega, h6, h4, ?_⟩
  rw [e]; simp [Wr.data, shpV3, Wr.texts, Wr.nums_b, Wr.raw_nil]
theorem data_S (hf : FineS shpS d) : ∃ ns h m, d = ⟨[], h, m, ns, []⟩ ∧ ns.length = 5 ∧ (∀ n ∈ ns, fitsB n 4 = true) ∧ SoundN h ∧ SoundN m ∧ x.data shpS d = ((x.name h true).name m true).raw (numsB ns 4) := by
  obtain ⟨h1, h2, h3, h4, h5, h6, h7⟩ := hf
  simp only [shpS, hostP, textsP, if_pos, Bool.false_eq_true, ite_false] at h1 h3 h4 h5 h6 h7
  have e := Da.eta5 d (nil_of_len0 (h1 (by decide))) rfl rfl rfl h7
  refine ⟨d.nums, d.host, d.mail, e, by omega, h6, h4, h5, ?_⟩
  rw [e]; simp [Wr.data, shpS, Wr.texts, Wr.nums_b, Wr.raw_nil]
end
theorem Wr.True.data {x : Wr} (hx : x.True) {k : Int} {d : Da} (hf : FineS (shapeP k) d) : (x.data (shapeP k) d).True := by
  rcases shape_cases k with e | e | e | e | e | e | e | e <;> rw [e] at hf ⊢
  · obtain ⟨_, _, _, e⟩ := data_A (x := x) hf; rw [e]; exact hx.raw _
  · obtain ⟨_, _, _, e⟩ := data_Q (x := x) hf; rw [e]; exact hx.raw _
  · obtain ⟨_, _, h, e⟩ := data_N (x := x) hf; rw [e]; exact (hx.name h.1 _).1
  · obtain ⟨_, _, _, _, _, h, e⟩ := data_M (x := x) hf; rw [e]; exact ((hx.raw _).name h.1 _).1
  · obtain ⟨_, _, _, _, _, _, h, h2, e⟩ := data_S (x := x) hf; rw [e]; exact (((hx.name h.1 _).1.name h2.1 _).1).raw _
  · obtain ⟨_, _, _, _, _, h, e⟩ := data_V (x := x) hf; rw [e]; exact ((hx.raw _).name h.1 _).1
  · obtain ⟨_, _, _, _, _, e⟩ := data_T (x := x) hf; rw [e]; exact hx.raw _
  · obtain ⟨_, _, e⟩ := data_B (x := x) hf; rw [e]; exact hx.raw _

theorem seg_raw (x : Wr) (l y : List UInt8) : Seg ((x.raw l).b ++ y) x.b.length l := Seg.mk _ _ _
theorem raw_len (x : Wr) (l : List UInt8) : (x.raw l).b.length = x.b.length + l.length := by simp [Wr.raw]
theorem seg_name (x : Wr) (l y : List UInt8) (n : List (List UInt8)) (sh : Bool) : Seg (((x.raw l).name n sh).b ++ y) x.b.length l := by
  obtain ⟨z, hz, _⟩ := Wr.name_b (x := x.raw l) n sh
  rw [hz]
  exact ⟨x.b, z ++ y, by simp [Wr.raw], rfl⟩

section
variable (b : List UInt8) (pos en : Nat)
theorem dataR_A : dataR b pos en shpA = (match bytesR b pos en 4 with | .error e => .error e | .ok (x, q) => .ok ({ Da.zero with bytes := x }, q)) := rfl
theorem dataR_Q : dataR b pos en shpQ = (match bytesR b pos en 16 with | .error e => .error e | .ok (x, q) => .ok ({ Da.zero with bytes := x }, q)) := rfl
theorem dataR_B : dataR b pos en shpB = (match bytesR b pos en (en - pos) with | .error e => .error e | .ok (x, q) => .ok ({ Da.zero with bytes := x }, q)) := rfl
theorem dataR_T : dataR b pos en shpT = (match textsR b en 64 pos [] with | .error e => .error e | .ok (x, q) => .ok ({ Da.zero with texts := x }, q)) := rfl
theorem dataR_N : dataR b pos en shpN = (match nameX b pos en with | .error e => .error e | .ok (n, q) => .ok ({ Da.zero with host := n }, q)) := rfl
theorem dataR_M : dataR b pos en shpM = (match numsR b en 2 1 pos [] with
    | .error e => .error e
    | .ok (x, q) => match nameX b q en with
      | .error e => .error e
      | .ok (n, r) => .ok ({ Da.zero with nums := x, host := n }, r)) := rfl
theorem dataR_V : dataR b pos en shpV3 = (match numsR b en 2 3 pos [] with
    | .error e => .error e
    | .ok (x, q) => match nameX b q en with
      | .error e => .error e
      | .ok (n, r) => .ok ({ Da.zero with nums := x, host := n }, r)) := rfl
theorem dataR_S : dataR b pos en shpS = (match nameX b pos en with
    | .error e => .error e
    | .ok (n, q) => match nameX b q en with
      | .error e => .error e
      | .ok (m, r) => match numsR b en 4 5 r [] with
        | .error e => .error e
        | .ok (x, t) => .ok ({ Da.zero with nums := x, host := n, mail := m }, t)) := rfl
end
/-- What was written is read, all of it; and of one byte less nothing, but of bytes and of many texts. -/
theorem data_back {x : Wr} (hx : x.True) {k : Int} {d : Da} (hf : FineS (shapeP k) d) (y : List UInt8) :
    dataR ((x.data (shapeP k) d).b ++ y) x.b.length (x.data (shapeP k) d).b.length (shapeP k) = .ok (d, (x.data (shapeP k) d).b.length) := by
  rcases shape_cases k with e | e | e | e | e | e | e | e <;> rw [e] at hf ⊢
  · obtain ⟨bs, rfl, hl, e⟩ := data_A (x := x) hf
    rw [e]
    have h := bytesR_back (en := (x.raw bs).b.length) (seg_raw x bs y) (by rw [raw_len]; omega)
    rw [hl] at h
    rw [dataR_A]
    rw [h, raw_len, hl]; rfl
  · obtain ⟨bs, rfl, hl, e⟩ := data_Q (x := x) hf
    rw [e]
    have h := bytesR_back (en := (x.raw bs).b.length) (seg_raw x bs y) (by rw [raw_len]; omega)
    rw [hl] at h
    rw [dataR_Q]
    rw [h, raw_len, hl]; rfl
  · obtain ⟨n, rfl, hn, e⟩ := data_N (x := x) hf
    rw [e]
    have h := nameX_back hn ((hx.name hn.1 true).2.ext y) (Nat.le_refl _)
    rw [dataR_N]
    rw [h]; rfl
  · obtain ⟨ns, n, rfl, hl, hns, hn, e⟩ := data_M (x := x) hf
    rw [e]
    have h := nameX_back hn (((hx.raw (numsB ns 2)).name hn.1 true).2.ext y) (Nat.le_refl _)
    obtain ⟨z, hz, _⟩ := Wr.name_b (x := x.raw (numsB ns 2)) n true
    have h2 := numsR_back (en := ((x.raw (numsB ns 2)).name n true).b.length) (acc := []) hns (seg_name x _ y n true) (by rw [hz]; simp [Wr.raw])
    rw [hl] at h2
    rw [raw_len] at h
    rw [dataR_M]
    rw [show numsR _ _ 2 1 _ [] = _ from h2]
    simp only
    rw [h]; rfl
  · obtain ⟨ns, n, m, rfl, hl, hns, hn, hm, e⟩ := data_S (x := x) hf
    rw [e]
    have t1 := hx.name hn.1 true
    have t2 := t1.1.name hm.1 true
    obtain ⟨z, hz, _⟩ := Wr.name_b (x := x.name n true) m true
    have hw : (((x.name n true).name m true).raw (numsB ns 4)).b ++ y = (x.name n true).b ++ (z ++ numsB ns 4 ++ y) := by simp [Wr.raw, hz]
    have hw2 : (((x.name n true).name m true).raw (numsB ns 4)).b ++ y = ((x.name n true).name m true).b ++ (numsB ns 4 ++ y) := by simp [Wr.raw]
    have q1 : (x.name n true).b.length ≤ ((x.name n true).name m true).b.length := by rw [hz]; simp
    have q2 := raw_len ((x.name n true).name m true) (numsB ns 4)
    have h := nameX_back (en := (((x.name n true).name m true).raw (numsB ns 4)).b.length) hn (t1.2.ext (z ++ numsB ns 4 ++ y)) (by omega)
    have h' := nameX_back (en := (((x.name n true).name m true).raw (numsB ns 4)).b.length) hm (t2.2.ext (numsB ns 4 ++ y)) (by omega)
    rw [← hw] at h
    rw [← hw2] at h'
    have h2 := numsR_back (en := (((x.name n true).name m true).raw (numsB ns 4)).b.length) (acc := []) hns (seg_raw ((x.name n true).name m true) _ y) (by omega)
    rw [hl] at h2
    rw [dataR_S]
    rw [h]
    simp only
    rw [h']
    simp only
    rw [show numsR _ _ 4 5 _ [] = _ from h2, q2]; rfl
  · obtain ⟨ns, n, rfl, hl, hns, hn, e⟩ := data_V (x := x) hf
    rw [e]
    have h := nameX_back hn (((hx.raw (numsB ns 2)).name hn.1 false).2.ext y) (Nat.le_refl _)
    obtain ⟨z, hz, _⟩ := Wr.name_b (x := x.raw (numsB ns 2)) n false
    have h2 := numsR_back (en := ((x.raw (numsB ns 2)).name n false).b.length) (acc := []) hns (seg_name x _ y n false) (by rw [hz]; simp [Wr.raw])
    rw [hl] at h2
    rw [raw_len] at h
    rw [dataR_V]
    rw [show numsR _ _ 2 3 _ [] = _ from h2]
    simp only
    rw [h]; rfl
  · obtain ⟨ts, rfl, h1, h64, ht, e⟩ := data_T (x := x) hf
    rw [e]
    have h := textsR_back (en := (x.raw (textsB ts)).b.length) (k := 64) (acc := []) ht h64 (by simp; omega) (seg_raw x _ y) (raw_len _ _).symm
    rw [dataR_T]
    rw [h]; rfl
  · obtain ⟨bs, rfl, e⟩ := data_B (x := x) hf
    rw [e]
    have h := bytesR_back (en := (x.raw bs).b.length) (seg_raw x bs y) (by rw [raw_len]; omega)
    rw [dataR_B]
    rw [raw_len, Nat.add_sub_cancel_left]
    rw [raw_len] at h
    rw [h]; rfl
theorem textsB_len {ts : List (List UInt8)} (h : ∀ t ∈ ts, t.length ≤ 255) : (textsB ts).length ≤ 256 * ts.length := by
  induction ts with
  | nil => simp [textsB]
  | cons t ts ih =>
    have h1 := ih fun u hu => h u (List.mem_cons_of_mem _ hu)
    have h2 := h t (List.mem_cons_self ..)
    have h3 : (putB [] (t.length : Int) 1).length = 1 := putB_len_fit (fits_len h2)
    rw [textsB_cons]
    simp only [List.length_append, List.length_cons, h3]
    omega
/-- Data takes at most so much, and writes down so many rests. -/
theorem Wr.data_len (x : Wr) {k : Int} {d : Da} (hf : FineS (shapeP k) d) : x.b.length ≤ (x.data (shapeP k) d).b.length ∧ (x.data (shapeP k) d).b.length ≤ x.b.length + 65535 ∧ (x.data (shapeP k) d).rests.length ≤ x.rests.length + 510 := by
  have name_b : ∀ (y : Wr) n sh, y.b.length ≤ (y.name n sh).b.length := fun y n sh => by obtain ⟨z, hz, _⟩ := Wr.name_b (x := y) n sh; rw [hz]; simp
  rcases shape_cases k with e | e | e | e | e | e | e | e <;> rw [e] at hf ⊢
  · obtain ⟨bs, rfl, hl, e⟩ := data_A (x := x) hf; rw [e]; have := raw_len x bs; refine ⟨by omega, by omega, by simp [Wr.raw]⟩
  · obtain ⟨bs, rfl, hl, e⟩ := data_Q (x := x) hf; rw [e]; have := raw_len x bs; refine ⟨by omega, by omega, by simp [Wr.raw]⟩
  · obtain ⟨n, rfl, hn, e⟩ := data_N (x := x) hf; rw [e]
    have h1 := Wr.name_le (x := x) n true; have h2 := Wr.name_rests (x := x) n true; have h3 := name_b x n true; have h4 := sizeN_length n; have h5 := hn.2
    exact ⟨h3, by omega, by omega⟩
  · obtain ⟨ns, n, rfl, hl, hns, hn, e⟩ := data_M (x := x) hf; rw [e]
    have h0 := raw_len x (numsB ns 2); have h00 := numsB_len hns; rw [hl] at h00
    have h1 := Wr.name_le (x := x.raw (numsB ns 2)) n true; have h2 := Wr.name_rests (x := x.raw (numsB ns 2)) n true; have h3 := name_b (x.raw (numsB ns 2)) n true; have h4 := sizeN_length n; have h5 := hn.2
    have h6 : (x.raw (numsB ns 2)).rests = x.rests := rfl
    rw [h6] at h2
    have h7 : (numsB ns 2).length = 2 := h00
    exact ⟨by omega, by omega, by omega⟩
  · obtain ⟨ns, n, m, rfl, hl, hns, hn, hm, e⟩ := data_S (x := x) hf; rw [e]
    have h0 := raw_len ((x.name n true).name m true) (numsB ns 4); have h00 := numsB_len hns; rw [hl] at h00
    have h1 := Wr.name_le (x := x) n true; have h2 := Wr.name_rests (x := x) n true; have h3 := name_b x n true; have h4 := sizeN_length n; have h5 := hn.2
    have h1' := Wr.name_le (x := x.name n true) m true; have h2' := Wr.name_rests (x := x.name n true) m true; have h3' := name_b (x.name n true) m true; have h4' := sizeN_length m; have h5' := hm.2
    have h6 : (((x.name n true).name m true).raw (numsB ns 4)).rests = ((x.name n true).name m true).rests := rfl
    have h7 : (numsB ns 4).length = 20 := h00
    rw [h6]
    exact ⟨by omega, by omega, by omega⟩
  · obtain ⟨ns, n, rfl, hl, hns, hn, e⟩ := data_V (x := x) hf; rw [e]
    have h0 := raw_len x (numsB ns 2); have h00 := numsB_len hns; rw [hl] at h00
    have h1 := Wr.name_le (x := x.raw (numsB ns 2)) n false; have h2 := Wr.name_rests (x := x.raw (numsB ns 2)) n false; have h3 := name_b (x.raw (numsB ns 2)) n false; have h4 := sizeN_length n; have h5 := hn.2
    have h6 : (x.raw (numsB ns 2)).rests = x.rests := rfl
    rw [h6] at h2
    have h7 : (numsB ns 2).length = 6 := h00
    exact ⟨by omega, by omega, by omega⟩
  · obtain ⟨ts, rfl, h1, h64, ht, e⟩ := data_T (x := x) hf; rw [e]; have := raw_len x (textsB ts); have := textsB_len ht; exact ⟨by omega, by omega, by simp [Wr.raw]⟩
  · obtain ⟨bs, he, e⟩ := data_B (x := x) hf
    have h6 : bs.length ≤ 65535 := by have := hf.2.1; rw [he] at this; exact this
    rw [e]; have := raw_len x bs; exact ⟨by omega, by omega, by simp [Wr.raw]⟩
theorem getD_back {x : Wr} (hx : x.True) {k : Int} {d : Da} (hf : FineD k d) (y : List UInt8) {z : Nat} (hz : x.b.length + z = (x.data (shapeP k) d).b.length) :
    getD ((x.data (shapeP k) d).b ++ y) (x.b.length : Int) (z : Int) k = (d, 0) := by
  have h1 := hf.1
  unfold getD
  rw [if_neg (by omega), if_neg (by rw [List.length_append]; omega), Int.toNat_natCast, Int.toNat_natCast, hz, data_back hx hf.2 y]
  simp
end Go.Proofs.Ytimkdpkhdbiniaa

/- wname: bytes in the place of bytes, in plain Lean. No program in it. -/
namespace Go.Proofs.Ytimkdpkhdbiniaa

/-- Bytes in the place of bytes. -/
def putAt (bs : List UInt8) (k : Nat) (r : List UInt8) : List UInt8 := bs.take k ++ (r ++ bs.drop (k + r.length))
def Wr.put (x : Wr) (k : Nat) (r : List UInt8) : Wr := { x with b := putAt x.b k r }
end Go.Proofs.Ytimkdpkhdbiniaa

/- rr: how a record is written, and that it is read as it is, in plain Lean. No program in it. -/
namespace Go.Proofs.Ytimkdpkhdbiniaa
set_option maxRecDepth 100000

/-- May a record be? -/
def FineR (r : RR) : Prop := SoundN r.name ∧ FineD r.type r.data ∧ fitsB r.cls 2 = true ∧ 0 ≤ r.ttl ∧ r.ttl < 2147483648
/-- What is appended does not hang on what stands there, but on how much. -/
def Op (f : Wr → Wr) : Prop := ∀ x x' : Wr, x.b.length = x'.b.length → x.rests = x'.rests → ∃ z, (f x).b = x.b ++ z ∧ (f x').b = x'.b ++ z ∧ (f x).rests = (f x').rests
theorem Op.id : Op (fun x => x) := fun _ _ _ hr => ⟨[], by simp, by simp, hr⟩
theorem Op.comp {f g : Wr → Wr} (hf : Op f) (hg : Op g) : Op (fun x => g (f x)) := fun x x' hl hr => by
  obtain ⟨z, h1, h2, h3⟩ := hf x x' hl hr
  obtain ⟨z', h4, h5, h6⟩ := hg (f x) (f x') (by rw [h1, h2]; simp [hl]) h3
  exact ⟨z ++ z', by rw [h4, h1, List.append_assoc], by rw [h5, h2, List.append_assoc], h6⟩
theorem Wr.raw_rests (x : Wr) (l : List UInt8) : (x.raw l).rests = x.rests := rfl
theorem Op.raw (l : List UInt8) : Op (fun x => x.raw l) := fun _ _ _ hr => ⟨l, rfl, rfl, hr⟩
theorem Op.note (r : List UInt8) : Op (fun x => x.note r) := fun x x' hl hr => by
  simp only [Wr.note]
  rw [hl]
  split
  · exact ⟨[], by simp, by simp, by simp [hr]⟩
  · exact ⟨[], by simp, by simp, hr⟩
theorem Op.name (n : List (List UInt8)) (sh : Bool) : Op (fun x => x.name n sh) := by
  induction n with
  | nil => exact Op.raw [0]
  | cons l n ih =>
    intro x x' hl hr
    have h1 := (Op.raw (UInt8.ofNat l.length :: l)).comp ih
    have h2 := (Op.note (restB (l :: n))).comp h1
    simp only [Wr.name]
    rw [hr]
    split
    · split
      · exact Op.raw _ x x' hl hr
      · exact h1 x x' hl hr
    · exact h2 x x' hl hr
theorem Op.ite {f g : Wr → Wr} {c : Prop} [Decidable c] (hf : Op f) (hg : Op g) : Op (fun x => if c then f x else g x) := by
  by_cases h : c
  · simpa [h] using hf
  · simpa [h] using hg
theorem Op.texts (ts : List (List UInt8)) : Op (fun x => x.texts ts) := by
  have : (fun x : Wr => x.texts ts) = fun x => x.raw (textsB ts) := funext fun x => Wr.texts_b x ts
  rw [this]; exact Op.raw _
theorem Op.nums (ns : List Int) (z : Int) : Op (fun x => x.nums ns z) := by
  have : (fun x : Wr => x.nums ns z) = fun x => x.raw (numsB ns z) := funext fun x => Wr.nums_b x ns z
  rw [this]; exact Op.raw _
theorem Op.data (s : Shp) (d : Da) : Op (fun x => x.data s d) := by
  have h1 := (Op.raw d.bytes).comp (Op.texts d.texts)
  have h2 := h1.comp (Op.ite (c := s.first = true) (Op.nums d.nums s.size) Op.id)
  have h3 := h2.comp (Op.ite (c := s.host = true) (Op.name d.host s.short) Op.id)
  have h4 := h3.comp (Op.ite (c := s.mail = true) (Op.name d.mail s.short) Op.id)
  exact h4.comp (Op.ite (c := s.first = true) Op.id (Op.nums d.nums s.size))

/-- The head of a record: its name and what stands ahead of the data's length. -/
def Wr.rrHead (x : Wr) (r : RR) : Wr := (((x.name r.name true).raw (putB [] r.type 2)).raw (putB [] r.cls 2)).raw (putB [] r.ttl 4)
/-- How a record is written: the data's length is put in its place behind the data. -/
def Wr.rr (x : Wr) (r : RR) : Wr :=
  let y := ((x.rrHead r).raw (putB [] 0 2)).data (shapeP r.type) r.data
  y.put (x.rrHead r).b.length (putB [] (y.b.length - (x.rrHead r).b.length - 2 : Nat) 2)
/-- The data's length. -/
def Wr.rrLen (x : Wr) (r : RR) : Nat := (((x.rrHead r).raw (putB [] 0 2)).data (shapeP r.type) r.data).b.length - (x.rrHead r).b.length - 2
theorem fits2 {n : Nat} (h : n < 65536) : fitsB (n : Int) 2 = true := by unfold fitsB; simp; omega
theorem put2_len (n : Nat) (h : n < 65536) : (putB [] (n : Int) 2).length = 2 := by rw [putB_len_fit (fits2 h)]; rfl
theorem put02_len : (putB [] (0 : Int) 2).length = 2 := put2_len 0 (by omega)
theorem putAt_mid (a l l' z : List UInt8) (h : l.length = l'.length) : putAt (a ++ l ++ z) a.length l' = a ++ l' ++ z := by
  unfold putAt
  rw [← h, List.append_assoc, List.take_left, ← List.append_assoc, ← List.append_assoc]
  congr 1
  rw [show a.length + l.length = (a ++ l).length by rw [List.length_append], List.drop_left]
/-- As if the length had been there from the first. -/
theorem Wr.rr_eq (x : Wr) (r : RR) (h : x.rrLen r < 65536) : x.rr r = ((x.rrHead r).raw (putB [] (x.rrLen r : Int) 2)).data (shapeP r.type) r.data := by
  have h0 := put02_len
  have hl := put2_len _ h
  obtain ⟨z, h1, h2, h3⟩ := Op.data (shapeP r.type) r.data ((x.rrHead r).raw (putB [] 0 2)) ((x.rrHead r).raw (putB [] (x.rrLen r : Int) 2)) (by rw [raw_len, raw_len, h0, hl]) (by rw [Wr.raw_rests, Wr.raw_rests])
  have hb : (x.rr r).b = (((x.rrHead r).raw (putB [] (x.rrLen r : Int) 2)).data (shapeP r.type) r.data).b := by
    rw [h2]
    show putAt (((x.rrHead r).raw (putB [] 0 2)).data (shapeP r.type) r.data).b (x.rrHead r).b.length (putB [] (x.rrLen r : Int) 2) = _
    rw [h1]
    exact putAt_mid _ _ _ _ (by rw [h0, hl])
  have hr : (x.rr r).rests = (((x.rrHead r).raw (putB [] (x.rrLen r : Int) 2)).data (shapeP r.type) r.data).rests := h3
  cases hx : x.rr r
  cases hy : ((x.rrHead r).raw (putB [] (x.rrLen r : Int) 2)).data (shapeP r.type) r.data
  rw [hx, hy] at hb hr
  simp only at hb hr
  rw [hb, hr]

theorem Wr.rrLen_lt (x : Wr) {r : RR} (h : FineR r) : x.rrLen r < 65536 := by
  have h1 := Wr.data_len ((x.rrHead r).raw (putB [] 0 2)) h.2.1.2
  have h0 := put02_len
  have h2 := raw_len (x.rrHead r) (putB [] 0 2)
  unfold Wr.rrLen
  omega
theorem fits4 {n : Int} (h0 : 0 ≤ n) (h : n < 2147483648) : fitsB n 4 = true := by unfold fitsB; simp; omega
theorem Wr.True.rr {x : Wr} (hx : x.True) {r : RR} (h : FineR r) : (x.rr r).True := by
  rw [Wr.rr_eq x r (x.rrLen_lt h)]
  exact (((((hx.name h.1.1 true).1.raw _).raw _).raw _).raw _).data h.2.1.2
theorem numA_seg {b : List UInt8} {p : Nat} {n z : Int} (hf : fitsB n z = true) (h : Seg b p (putB [] n z)) : (numA b p z.toNat : Int) = n := by
  have h2 := fitsB_true hf
  have hc := h.cut
  rw [putB_len_fit hf] at hc
  unfold numA
  rw [hc]
  unfold putB
  rw [if_pos hf, List.nil_append, val_be _ _ (fits_nat hf)]
  omega
end Go.Proofs.Ytimkdpkhdbiniaa

/- gazetteerref01.Put: a number behind bytes. -/
namespace Go.Proofs.Ytimkdpkhdbiniaa
open Go.RowKit

end Go.Proofs.Ytimkdpkhdbiniaa

/- The reference's writer in memory: Num, Raw. -/
namespace Go.Proofs.Ytimkdpkhdbiniaa
open Go.RowKit
set_option maxRecDepth 100000

section
variable {w w' w2 : World} {B g : Nat} {F G : Nat → Prop} {x : RW}
end

end Go.Proofs.Ytimkdpkhdbiniaa

/- The reference's writer: find. -/
namespace Go.Proofs.Ytimkdpkhdbiniaa
open Go.RowKit
set_option maxRecDepth 100000

end Go.Proofs.Ytimkdpkhdbiniaa
