/- Parts of a proof, joined: RWPlain, RWFine, PutPlain, DBack, PutAt, RrPutP. -/
import Derived.Test.YtimkdpkhdbiniaaZADM02b
import Derived.Test.YtimkdpkhdbiniaaZADM05
import Derived.Test.YtimkdpkhdbiniaaZADM02
import Derived.Test.YtimkdpkhdbiniaaZADM04
/- wname: the reference's writer in plain words, and that the program's writes the same bytes. No program in it. -/
namespace Go.Proofs.Ytimkdpkhdbiniaa

def Small (n : List (List UInt8)) : Prop := ∀ l ∈ n, l.length < 256
theorem Small.tail {l : List UInt8} {n : List (List UInt8)} (h : Small (l :: n)) : Small n := fun x hx => h x (List.mem_cons_of_mem _ hx)
end Go.Proofs.Ytimkdpkhdbiniaa

/- The reference's writer: what is known of rests. No program in it. -/
namespace Go.Proofs.Ytimkdpkhdbiniaa
open Go.RowKit

end Go.Proofs.Ytimkdpkhdbiniaa

/- rdata: how data is written, in plain Lean; that both writers write the same. -/
namespace Go.Proofs.Ytimkdpkhdbiniaa

def Wr.texts (x : Wr) (ts : List (List UInt8)) : Wr := ts.foldl (fun y t => (y.raw (putB [] t.length 1)).raw t) x
def Wr.nums (x : Wr) (ns : List Int) (z : Int) : Wr := ns.foldl (fun y n => y.raw (putB [] n z)) x
theorem Wr.texts_snoc (x : Wr) (ts : List (List UInt8)) (t : List UInt8) : x.texts (ts ++ [t]) = ((x.texts ts).raw (putB [] t.length 1)).raw t := by simp [Wr.texts, List.foldl_append]
theorem Wr.nums_snoc (x : Wr) (ns : List Int) (n z : Int) : x.nums (ns ++ [n]) z = (x.nums ns z).raw (putB [] n z) := by simp [Wr.nums, List.foldl_append]
theorem Wr.raw_nil (x : Wr) : x.raw [] = x := by simp [Wr.raw]
/-- How a type's data is written. -/
def Wr.data (x : Wr) (s : Shp) (d : Da) : Wr :=
  let x1 := (x.raw d.bytes).texts d.texts
  let x2 := if s.first = true then x1.nums d.nums s.size else x1
  let x3 := if s.host = true then x2.name d.host s.short else x2
  let x4 := if s.mail = true then x3.name d.mail s.short else x3
  if s.first = true then x4 else x4.nums d.nums s.size
end Go.Proofs.Ytimkdpkhdbiniaa

/- rdata: data that was written is read as it is. No program in it. -/
namespace Go.Proofs.Ytimkdpkhdbiniaa

/-- Numbers of a size, one behind the other. -/
def numsB (ns : List Int) (z : Int) : List UInt8 := ns.flatMap fun n => putB [] n z
/-- Texts, one behind the other. -/
def textsB (ts : List (List UInt8)) : List UInt8 := ts.flatMap fun t => putB [] t.length 1 ++ t
theorem Wr.nums_b (x : Wr) (ns : List Int) (z : Int) : x.nums ns z = x.raw (numsB ns z) := by
  refine snoc_ind (P := fun ns => x.nums ns z = x.raw (numsB ns z)) (by simp [Wr.nums, numsB, Wr.raw]) (fun ns n ih => ?_) ns
  rw [Wr.nums_snoc, ih]
  simp [numsB, Wr.raw, List.flatMap_append]
theorem Wr.texts_b (x : Wr) (ts : List (List UInt8)) : x.texts ts = x.raw (textsB ts) := by
  refine snoc_ind (P := fun ts => x.texts ts = x.raw (textsB ts)) (by simp [Wr.texts, textsB, Wr.raw]) (fun ts n ih => ?_) ts
  rw [Wr.texts_snoc, ih]
  simp [textsB, Wr.raw, List.flatMap_append]
theorem numsB_cons (n : Int) (ns : List Int) (z : Int) : numsB (n :: ns) z = putB [] n z ++ numsB ns z := rfl
theorem textsB_cons (t : List UInt8) (ts : List (List UInt8)) : textsB (t :: ts) = putB [] t.length 1 ++ t ++ textsB ts := rfl
theorem putB_len_fit {n z : Int} (h : fitsB n z = true) : (putB [] n z).length = z.toNat := by
  have := putB_length [] n z h
  have h2 := fitsB_true h
  simp at this
  omega
theorem numsB_len {ns : List Int} {z : Int} (h : ∀ n ∈ ns, fitsB n z = true) : (numsB ns z).length = z.toNat * ns.length := by
  induction ns with
  | nil => simp [numsB]
  | cons n ns ih =>
    rw [numsB_cons, List.length_append, putB_len_fit (h n (List.mem_cons_self ..)), ih (fun m hm => h m (List.mem_cons_of_mem _ hm)), List.length_cons, Nat.mul_succ]
    omega
theorem fits_len {t : List UInt8} (h : t.length ≤ 255) : fitsB (t.length : Int) 1 = true := by unfold fitsB; simp; omega
theorem Da.eta5 (d : Da) {b : List UInt8} {h m : List (List UInt8)} {n : List Int} {t : List (List UInt8)} (e1 : d.bytes = b) (e2 : d.host = h) (e3 : d.mail = m) (e4 : d.nums = n) (e5 : d.texts = t) : d = ⟨b, h, m, n, t⟩ := by
  cases d; simp_all
theorem nil_of_len0 {α : Type} {l : List α} (h : (l.length : Int) = 0) : l = [] := List.eq_nil_of_length_eq_zero (by omega)
section
variable {x : Wr} {d : Da}
theorem data_A (hf : FineS shpA d) : ∃ bs, d = ⟨bs, [], [], [], []⟩ ∧ bs.length = 4 ∧ x.data shpA d = x.raw bs := by
  obtain ⟨h1, h2, h3, h4, h5, h6, h7⟩ := hf
  simp [shpA, hostP, textsP] at h1 h3 h4 h5 h7
  have e := Da.eta5 d rfl h4 h5 h3 h7
  refine ⟨d.bytes, e, by omega, ?_⟩
  rw [e]; simp [Wr.data, shpA, Wr.texts, Wr.nums]
theorem data_Q (hf : FineS shpQ d) : ∃ bs, d = ⟨bs, [], [], [], []⟩ ∧ bs.length = 16 ∧ x.data shpQ d = x.raw bs := by
  obtain ⟨h1, h2, h3, h4, h5, h6, h7⟩ := hf
  simp [shpQ, hostP, textsP] at h1 h3 h4 h5 h7
  have e := Da.eta5 d rfl h4 h5 h3 h7
  refine ⟨d.bytes, e, by omega, ?_⟩
  rw [e]; simp [Wr.data, shpQ, Wr.texts, Wr.nums]
theorem data_B (hf : FineS shpB d) : ∃ bs, d = ⟨bs, [], [], [], []⟩ ∧ x.data shpB d = x.raw bs := by
  obtain ⟨h1, h2, h3, h4, h5, h6, h7⟩ := hf
  simp [shpB, hostP, textsP] at h3 h4 h5 h7
  have e := Da.eta5 d rfl h4 h5 h3 h7
  refine ⟨d.bytes, e, ?_⟩
  rw [e]; simp [Wr.data, shpB, Wr.texts, Wr.nums]
theorem data_T (hf : FineS shpT d) : ∃ ts, d = ⟨[], [], [], [], ts⟩ ∧ 1 ≤ ts.length ∧ ts.length ≤ 64 ∧ (∀ t ∈ ts, t.length ≤ 255) ∧ x.data shpT d = x.raw (textsB ts) := by
  obtain ⟨h1, h2, h3, h4, h5, h6, h7⟩ := hf
  simp only [shpT, hostP, textsP, if_pos, Bool.false_eq_true, ite_false] at h1 h3 h4 h5 h7
  have e := Da.eta5 d (nil_of_len0 (h1 (by decide))) h4 h5 (nil_of_len0 h3) rfl
  refine ⟨d.texts, e, h7.1, h7.2.1, h7.2.2, ?_⟩
  rw [e]; simp [Wr.data, shpT, Wr.texts_b, Wr.nums, Wr.raw]
theorem data_N (hf : FineS shpN d) : ∃ h, d = ⟨[], h, [], [], []⟩ ∧ SoundN h ∧ x.data shpN d = x.name h true := by
  obtain ⟨h1, h2, h3, h4, h5, h6, h7⟩ := hf
  simp only [shpN, hostP, textsP, if_pos, Bool.false_eq_true, ite_false] at h1 h3 h4 h5 h7
  have e := Da.eta5 d (nil_of_len0 (h1 (by decide))) rfl h5 (nil_of_len0 h3) h7
  refine ⟨d.host, e, h4, ?_⟩
  rw [e]; simp [Wr.data, shpN, Wr.texts, Wr.nums, Wr.raw_nil]
theorem data_M (hf : FineS shpM d) : ∃ ns h, d = ⟨[], h, [], ns, []⟩ ∧ ns.length = 1 ∧ (∀ n ∈ ns, fitsB n 2 = true) ∧ SoundN h ∧ x.data shpM d = (x.raw (numsB ns 2)).name h true := by
  obtain ⟨h1, h2, h3, h4, h5, h6, h7⟩ := hf
  simp only [shpM, hostP, textsP, if_pos, Bool.false_eq_true, ite_false] at h1 h3 h4 h5 h6 h7
  have e := Da.eta5 d (nil_of_len0 (h1 (by decide))) rfl h5 rfl h7
  refine ⟨d.nums, d.host, e, by omega, h6, h4, ?_⟩
  rw [e]; simp [Wr.data, shpM, Wr.texts, Wr.nums_b, Wr.raw_nil]
theorem data_V (hf : FineS shpV3 d) : ∃ ns h, d = ⟨[], h, [], ns, []⟩ ∧ ns.length = 3 ∧ (∀ n ∈ ns, fitsB n 2 = true) ∧ SoundN h ∧ x.data shpV3 d = (x.raw (numsB ns 2)).name h false := by
  obtain ⟨h1, h2, h3, h4, h5, h6, h7⟩ := hf
  simp only [shpV3, hostP, textsP, if_pos, Bool.false_eq_true, ite_false] at h1 h3 h4 h5 h6 h7
  have e := Da.eta5 d (nil_of_len0 (h1 (by decide))) rfl h5 rfl h7
  refine ⟨d.nums, d.host, e, by omega, h6, h4, ?_⟩
  rw [e]; simp [Wr.data, shpV3, Wr.texts, Wr.nums_b, Wr.raw_nil]
theorem data_S (hf : FineS shpS d) : ∃ ns h m, d = ⟨[], h, m, ns, []⟩ ∧ ns.length = 5 ∧ (∀ n ∈ ns, fitsB n 4 = true) ∧ SoundN h ∧ SoundN m ∧ x.data shpS d = ((x.name h true).name m true).raw (numsB ns 4) := by
  obtain ⟨h1, h2, h3, h4, h5, h6, h7⟩ := hf
  simp only [shpS, hostP, textsP, if_pos, Bool.false_eq_true, ite_false] at h1 h3 h4 h5 h6 h7
  have e := Da.eta5 d (nil_of_len0 (h1 (by decide))) rfl rfl rfl h7
  refine ⟨d.nums, d.host, d.mail, e, by omega, h6, h4, h5, ?_⟩
  rw [e]; simp [Wr.data, shpS, Wr.texts, Wr.nums_b, Wr.raw_nil]
end
theorem Wr.True.data {x : Wr} (hx : x.True) {k : Int} {d : Da} (hf : FineS (shapeP k) d) : (x.data (shapeP k) d).True := by
  rcases shape_cases k with e | e | e | e | e | e | e | e <;> rw [e] at hf ⊢
  · obtain ⟨_, _, _, e⟩ := data_A (x := x) hf; rw [e]; exact hx.raw _
  · obtain ⟨_, _, _, e⟩ := data_Q (x := x) hf; rw [e]; exact hx.raw _
  · obtain ⟨_, _, h, e⟩ := data_N (x := x) hf; rw [e]; exact (hx.name h.1 _).1
  · obtain ⟨_, _, _, _, _, h, e⟩ := data_M (x := x) hf; rw [e]; exact ((hx.raw _).name h.1 _).1
  · obtain ⟨_, _, _, _, _, _, h, h2, e⟩ := data_S (x := x) hf; rw [e]; exact (((hx.name h.1 _).1.name h2.1 _).1).raw _
  · obtain ⟨_, _, _, _, _, h, e⟩ := data_V (x := x) hf; rw [e]; exact ((hx.raw _).name h.1 _).1
  · obtain ⟨_, _, _, _, _, e⟩ := data_T (x := x) hf; rw [e]; exact hx.raw _
  · obtain ⟨_, _, e⟩ := data_B (x := x) hf; rw [e]; exact hx.raw _

theorem raw_len (x : Wr) (l : List UInt8) : (x.raw l).b.length = x.b.length + l.length := by simp [Wr.raw]
section
variable (b : List UInt8) (pos en : Nat)
end
theorem textsB_len {ts : List (List UInt8)} (h : ∀ t ∈ ts, t.length ≤ 255) : (textsB ts).length ≤ 256 * ts.length := by
  induction ts with
  | nil => simp [textsB]
  | cons t ts ih =>
    have h1 := ih fun u hu => h u (List.mem_cons_of_mem _ hu)
    have h2 := h t (List.mem_cons_self ..)
    have h3 : (putB [] (t.length : Int) 1).length = 1 := putB_len_fit (fits_len h2)
    rw [textsB_cons]
    simp only [List.length_append, List.length_cons, h3]
    omega
/-- Data takes at most so much, and writes down so many rests. -/
theorem Wr.data_len (x : Wr) {k : Int} {d : Da} (hf : FineS (shapeP k) d) : x.b.length ≤ (x.data (shapeP k) d).b.length ∧ (x.data (shapeP k) d).b.length ≤ x.b.length + 65535 ∧ (x.data (shapeP k) d).rests.length ≤ x.rests.length + 510 := by
  have name_b : ∀ (y : Wr) n sh, y.b.length ≤ (y.name n sh).b.length := fun y n sh => by obtain ⟨z, hz, _⟩ := Wr.name_b (x := y) n sh; rw [hz]; simp
  rcases shape_cases k with e | e | e | e | e | e | e | e <;> rw [e] at hf ⊢
  · obtain ⟨bs, rfl, hl, e⟩ := data_A (x := x) hf; rw [e]; have := raw_len x bs; refine ⟨by omega, by omega, by simp [Wr.raw]⟩
  · obtain ⟨bs, rfl, hl, e⟩ := data_Q (x := x) hf; rw [e]; have := raw_len x bs; refine ⟨by omega, by omega, by simp [Wr.raw]⟩
  · obtain ⟨n, rfl, hn, e⟩ := data_N (x := x) hf; rw [e]
    have h1 := Wr.name_le (x := x) n true; have h2 := Wr.name_rests (x := x) n true; have h3 := name_b x n true; have h4 := sizeN_length n; have h5 := hn.2
    exact ⟨h3, by omega, by omega⟩
  · obtain ⟨ns, n, rfl, hl, hns, hn, e⟩ := data_M (x := x) hf; rw [e]
    have h0 := raw_len x (numsB ns 2); have h00 := numsB_len hns; rw [hl] at h00
    have h1 := Wr.name_le (x := x.raw (numsB ns 2)) n true; have h2 := Wr.name_rests (x := x.raw (numsB ns 2)) n true; have h3 := name_b (x.raw (numsB ns 2)) n true; have h4 := sizeN_length n; have h5 := hn.2
    have h6 : (x.raw (numsB ns 2)).rests = x.rests := rfl
    rw [h6] at h2
    have h7 : (numsB ns 2).length = 2 := h00
    exact ⟨by omega, by omega, by omega⟩
  · obtain ⟨ns, n, m, rfl, hl, hns, hn, hm, e⟩ := data_S (x := x) hf; rw [e]
    have h0 := raw_len ((x.name n true).name m true) (numsB ns 4); have h00 := numsB_len hns; rw [hl] at h00
    have h1 := Wr.name_le (x := x) n true; have h2 := Wr.name_rests (x := x) n true; have h3 := name_b x n true; have h4 := sizeN_length n; have h5 := hn.2
    have h1' := Wr.name_le (x := x.name n true) m true; have h2' := Wr.name_rests (x := x.name n true) m true; have h3' := name_b (x.name n true) m true; have h4' := sizeN_length m; have h5' := hm.2
    have h6 : (((x.name n true).name m true).raw (numsB ns 4)).rests = ((x.name n true).name m true).rests := rfl
    have h7 : (numsB ns 4).length = 20 := h00
    rw [h6]
    exact ⟨by omega, by omega, by omega⟩
  · obtain ⟨ns, n, rfl, hl, hns, hn, e⟩ := data_V (x := x) hf; rw [e]
    have h0 := raw_len x (numsB ns 2); have h00 := numsB_len hns; rw [hl] at h00
    have h1 := Wr.name_le (x := x.raw (numsB ns 2)) n false; have h2 := Wr.name_rests (x := x.raw (numsB ns 2)) n false; have h3 := name_b (x.raw (numsB ns 2)) n false; have h4 := sizeN_length n; have h5 := hn.2
    have h6 : (x.raw (numsB ns 2)).rests = x.rests := rfl
    rw [h6] at h2
    have h7 : (numsB ns 2).length = 6 := h00
    exact ⟨by omega, by omega, by omega⟩
  · obtain ⟨ts, rfl, h1, h64, ht, e⟩ := data_T (x := x) hf; rw [e]; have := raw_len x (textsB ts); have := textsB_len ht; exact ⟨by omega, by omega, by simp [Wr.raw]⟩
  · obtain ⟨bs, he, e⟩ := data_B (x := x) hf
    have h6 : bs.length ≤ 65535 := by have := hf.2.1; rw [he] at this; exact this
    rw [e]; have := raw_len x bs; exact ⟨by omega, by omega, by simp [Wr.raw]⟩
end Go.Proofs.Ytimkdpkhdbiniaa

/- wname: bytes in the place of bytes, in plain Lean. No program in it. -/
namespace Go.Proofs.Ytimkdpkhdbiniaa

/-- Bytes in the place of bytes. -/
def putAt (bs : List UInt8) (k : Nat) (r : List UInt8) : List UInt8 := bs.take k ++ (r ++ bs.drop (k + r.length))
def Wr.put (x : Wr) (k : Nat) (r : List UInt8) : Wr := { x with b := putAt x.b k r }
end Go.Proofs.Ytimkdpkhdbiniaa

/- rr: how a record is written, and that it is read as it is, in plain Lean. No program in it. -/
namespace Go.Proofs.Ytimkdpkhdbiniaa
set_option maxRecDepth 100000

/-- May a record be? -/
def FineR (r : RR) : Prop := SoundN r.name ∧ FineD r.type r.data ∧ fitsB r.cls 2 = true ∧ 0 ≤ r.ttl ∧ r.ttl < 2147483648
noncomputable def fineRB (r : RR) : Bool := @decide (FineR r) (Classical.propDecidable _)
theorem fineRB_true {r : RR} (h : FineR r) : fineRB r = true := by unfold fineRB; simpa using h
theorem fineRB_false {r : RR} (h : ¬ FineR r) : fineRB r = false := by unfold fineRB; simpa using h
theorem fineRB_iff {r : RR} : fineRB r = true ↔ FineR r := by unfold fineRB; simp

/-- What is appended does not hang on what stands there, but on how much. -/
def Op (f : Wr → Wr) : Prop := ∀ x x' : Wr, x.b.length = x'.b.length → x.rests = x'.rests → ∃ z, (f x).b = x.b ++ z ∧ (f x').b = x'.b ++ z ∧ (f x).rests = (f x').rests
theorem Op.id : Op (fun x => x) := fun _ _ _ hr => ⟨[], by simp, by simp, hr⟩
theorem Op.comp {f g : Wr → Wr} (hf : Op f) (hg : Op g) : Op (fun x => g (f x)) := fun x x' hl hr => by
  obtain ⟨z, h1, h2, h3⟩ := hf x x' hl hr
  obtain ⟨z', h4, h5, h6⟩ := hg (f x) (f x') (by rw [h1, h2]; simp [hl]) h3
  exact ⟨z ++ z', by rw [h4, h1, List.append_assoc], by rw [h5, h2, List.append_assoc], h6⟩
theorem Wr.raw_rests (x : Wr) (l : List UInt8) : (x.raw l).rests = x.rests := rfl
theorem Op.raw (l : List UInt8) : Op (fun x => x.raw l) := fun _ _ _ hr => ⟨l, rfl, rfl, hr⟩
theorem Op.note (r : List UInt8) : Op (fun x => x.note r) := fun x x' hl hr => by
  simp only [Wr.note]
  rw [hl]
  split
  · exact ⟨[], by simp, by simp, by simp [hr]⟩
  · exact ⟨[], by simp, by simp, hr⟩
theorem Op.name (n : List (List UInt8)) (sh : Bool) : Op (fun x => x.name n sh) := by
  induction n with
  | nil => exact Op.raw [0]
  | cons l n ih =>
    intro x x' hl hr
    have h1 := (Op.raw (UInt8.ofNat l.length :: l)).comp ih
    have h2 := (Op.note (restB (l :: n))).comp h1
    simp only [Wr.name]
    rw [hr]
    split
    · split
      · exact Op.raw _ x x' hl hr
      · exact h1 x x' hl hr
    · exact h2 x x' hl hr
theorem Op.ite {f g : Wr → Wr} {c : Prop} [Decidable c] (hf : Op f) (hg : Op g) : Op (fun x => if c then f x else g x) := by
  by_cases h : c
  · simpa [h] using hf
  · simpa [h] using hg
theorem Op.texts (ts : List (List UInt8)) : Op (fun x => x.texts ts) := by
  have : (fun x : Wr => x.texts ts) = fun x => x.raw (textsB ts) := funext fun x => Wr.texts_b x ts
  rw [this]; exact Op.raw _
theorem Op.nums (ns : List Int) (z : Int) : Op (fun x => x.nums ns z) := by
  have : (fun x : Wr => x.nums ns z) = fun x => x.raw (numsB ns z) := funext fun x => Wr.nums_b x ns z
  rw [this]; exact Op.raw _
theorem Op.data (s : Shp) (d : Da) : Op (fun x => x.data s d) := by
  have h1 := (Op.raw d.bytes).comp (Op.texts d.texts)
  have h2 := h1.comp (Op.ite (c := s.first = true) (Op.nums d.nums s.size) Op.id)
  have h3 := h2.comp (Op.ite (c := s.host = true) (Op.name d.host s.short) Op.id)
  have h4 := h3.comp (Op.ite (c := s.mail = true) (Op.name d.mail s.short) Op.id)
  exact h4.comp (Op.ite (c := s.first = true) Op.id (Op.nums d.nums s.size))

/-- The head of a record: its name and what stands ahead of the data's length. -/
def Wr.rrHead (x : Wr) (r : RR) : Wr := (((x.name r.name true).raw (putB [] r.type 2)).raw (putB [] r.cls 2)).raw (putB [] r.ttl 4)
/-- How a record is written: the data's length is put in its place behind the data. -/
def Wr.rr (x : Wr) (r : RR) : Wr :=
  let y := ((x.rrHead r).raw (putB [] 0 2)).data (shapeP r.type) r.data
  y.put (x.rrHead r).b.length (putB [] (y.b.length - (x.rrHead r).b.length - 2 : Nat) 2)
/-- The data's length. -/
def Wr.rrLen (x : Wr) (r : RR) : Nat := (((x.rrHead r).raw (putB [] 0 2)).data (shapeP r.type) r.data).b.length - (x.rrHead r).b.length - 2
theorem fits2 {n : Nat} (h : n < 65536) : fitsB (n : Int) 2 = true := by unfold fitsB; simp; omega
theorem put2_len (n : Nat) (h : n < 65536) : (putB [] (n : Int) 2).length = 2 := by rw [putB_len_fit (fits2 h)]; rfl
theorem put02_len : (putB [] (0 : Int) 2).length = 2 := put2_len 0 (by omega)
theorem putAt_mid (a l l' z : List UInt8) (h : l.length = l'.length) : putAt (a ++ l ++ z) a.length l' = a ++ l' ++ z := by
  unfold putAt
  rw [← h, List.append_assoc, List.take_left, ← List.append_assoc, ← List.append_assoc]
  congr 1
  rw [show a.length + l.length = (a ++ l).length by rw [List.length_append], List.drop_left]
/-- As if the length had been there from the first. -/
theorem Wr.rr_eq (x : Wr) (r : RR) (h : x.rrLen r < 65536) : x.rr r = ((x.rrHead r).raw (putB [] (x.rrLen r : Int) 2)).data (shapeP r.type) r.data := by
  have h0 := put02_len
  have hl := put2_len _ h
  obtain ⟨z, h1, h2, h3⟩ := Op.data (shapeP r.type) r.data ((x.rrHead r).raw (putB [] 0 2)) ((x.rrHead r).raw (putB [] (x.rrLen r : Int) 2)) (by rw [raw_len, raw_len, h0, hl]) (by rw [Wr.raw_rests, Wr.raw_rests])
  have hb : (x.rr r).b = (((x.rrHead r).raw (putB [] (x.rrLen r : Int) 2)).data (shapeP r.type) r.data).b := by
    rw [h2]
    show putAt (((x.rrHead r).raw (putB [] 0 2)).data (shapeP r.type) r.data).b (x.rrHead r).b.length (putB [] (x.rrLen r : Int) 2) = _
    rw [h1]
    exact putAt_mid _ _ _ _ (by rw [h0, hl])
  have hr : (x.rr r).rests = (((x.rrHead r).raw (putB [] (x.rrLen r : Int) 2)).data (shapeP r.type) r.data).rests := h3
  cases hx : x.rr r
  cases hy : ((x.rrHead r).raw (putB [] (x.rrLen r : Int) 2)).data (shapeP r.type) r.data
  rw [hx, hy] at hb hr
  simp only at hb hr
  rw [hb, hr]

theorem Wr.rrLen_lt (x : Wr) {r : RR} (h : FineR r) : x.rrLen r < 65536 := by
  have h1 := Wr.data_len ((x.rrHead r).raw (putB [] 0 2)) h.2.1.2
  have h0 := put02_len
  have h2 := raw_len (x.rrHead r) (putB [] 0 2)
  unfold Wr.rrLen
  omega
theorem Wr.True.rr {x : Wr} (hx : x.True) {r : RR} (h : FineR r) : (x.rr r).True := by
  rw [Wr.rr_eq x r (x.rrLen_lt h)]
  exact (((((hx.name h.1.1 true).1.raw _).raw _).raw _).raw _).data h.2.1.2
end Go.Proofs.Ytimkdpkhdbiniaa
