/- Parts of a proof, joined: RWPlain, RWFine, PutPlain, DBack, PutAt, RrPutP, RPut, RWMem, RWName. -/
import Derived.Test.YtimkdpkhdbiniaaM02b
import Derived.Test.YtimkdpkhdbiniaaM05
import Derived.Test.YtimkdpkhdbiniaaM02
import Derived.Test.YtimkdpkhdbiniaaM04
import Derived.Test.YtimkdpkhdbiniaaM01
import Derived.Test.YtimkdpkhdbiniaaM03
/- wname: the reference's writer in plain words, and that the program's writes the same bytes. No program in it. -/
namespace Go.Proofs.Ytimkdpkhdbiniaa

/-- What was written, and where rests stand: the eldest one first. -/
structure RW where
  b : List UInt8
  rests : List (Nat × List (List UInt8))
def findR : List (Nat × List (List UInt8)) → List (List UInt8) → Option Nat
  | [], _ => none
  | (p, m) :: rs, n => if m = n then some p else findR rs n
def RW.nil : RW := ⟨[], []⟩
def RW.raw (x : RW) (bs : List UInt8) : RW := { x with b := x.b ++ bs }
def RW.label (x : RW) (l : List UInt8) : RW := x.raw (UInt8.ofNat l.length :: l)
def RW.note (x : RW) (n : List (List UInt8)) : RW := if x.b.length < 16384 then { x with rests := x.rests ++ [(x.b.length, n)] } else x
def RW.name : RW → List (List UInt8) → Bool → RW
  | x, [], _ => x.raw [0]
  | x, l :: n, short => match findR x.rests (l :: n) with
    | some p => if short = true then x.raw (ptrB p) else ((x.note (l :: n)).label l).name n short
    | none => ((x.note (l :: n)).label l).name n short

theorem findR_append (rs rs' : List (Nat × List (List UInt8))) (n : List (List UInt8)) : findR (rs ++ rs') n = (findR rs n).or (findR rs' n) := by
  induction rs with
  | nil => simp [findR]
  | cons r rs ih =>
    obtain ⟨p, m⟩ := r
    simp only [List.cons_append, findR]
    split
    · rfl
    · exact ih
def Small (n : List (List UInt8)) : Prop := ∀ l ∈ n, l.length < 256
theorem Small.tail {l : List UInt8} {n : List (List UInt8)} (h : Small (l :: n)) : Small n := fun x hx => h x (List.mem_cons_of_mem _ hx)
theorem small_of_sound {n : List (List UInt8)} (h : SoundN n) : Small n := fun l hl => by have := (h.1 l hl).2; omega

/-- Both know the same. -/
def Alike (x : Wr) (y : RW) : Prop := x.b = y.b ∧ (∀ n, Small n → lookR x.rests (restB n) = findR y.rests n) ∧ ∀ n p, findR y.rests n = some p → p < 16384
theorem alike_nil : Alike Wr.nil RW.nil := ⟨rfl, fun _ _ => rfl, fun _ _ h => by cases h⟩
theorem Alike.raw {x : Wr} {y : RW} (h : Alike x y) (bs : List UInt8) : Alike (x.raw bs) (y.raw bs) := ⟨by simp [Wr.raw, RW.raw, h.1], h.2⟩
theorem Alike.label {x : Wr} {y : RW} (h : Alike x y) (l : List UInt8) : Alike (x.label l) (y.label l) := h.raw _
theorem Alike.note_old {x : Wr} {y : RW} (h : Alike x y) {n : List (List UInt8)} (hf : findR y.rests n ≠ none) : Alike x (y.note n) := by
  unfold RW.note
  split
  · refine ⟨h.1, fun m hm => ?_, fun m p hp => ?_⟩
    · rw [findR_append, h.2.1 m hm]
      cases hfm : findR y.rests m with
      | some p => rfl
      | none =>
        simp only [findR, Option.none_or]
        rw [if_neg (fun e => hf (by rw [e]; exact hfm))]
    · rw [findR_append] at hp
      cases hfm : findR y.rests m with
      | some q => rw [hfm] at hp; exact h.2.2 m p (by rw [hfm]; exact hp)
      | none =>
        rw [hfm, Option.none_or] at hp
        simp only [findR] at hp
        rw [if_neg (fun e => hf (by rw [e]; exact hfm))] at hp
        cases hp
  · exact h
theorem Alike.note_new {x : Wr} {y : RW} (h : Alike x y) {n : List (List UInt8)} (hn : Small n) (hf : findR y.rests n = none) : Alike (x.note (restB n)) (y.note n) := by
  unfold RW.note Wr.note
  rw [h.1]
  split
  · rename_i hl
    refine ⟨rfl, fun m hm => ?_, fun m p hp => ?_⟩
    · rw [findR_append]
      simp only [lookR, findR]
      by_cases e : n = m
      · subst e
        rw [if_pos rfl, if_pos rfl, hf, Option.none_or]
      · rw [if_neg (fun e' => e (restB_inj hn hm e')), if_neg e, h.2.1 m hm]
        cases findR y.rests m <;> rfl
    · rw [findR_append] at hp
      cases hfm : findR y.rests m with
      | some q => rw [hfm] at hp; exact h.2.2 m p (by rw [hfm]; exact hp)
      | none =>
        rw [hfm, Option.none_or] at hp
        simp only [findR] at hp
        split at hp
        · injection hp with hp
          subst hp
          exact hl
        · cases hp
  · exact h
theorem Alike.name {n : List (List UInt8)} (hn : Small n) (short : Bool) {x : Wr} {y : RW} (h : Alike x y) : Alike (x.name n short) (y.name n short) := by
  induction n generalizing x y with
  | nil => exact h.raw _
  | cons l n ih =>
    have e := h.2.1 (l :: n) hn
    unfold Wr.name RW.name
    rw [e]
    cases hp : findR y.rests (l :: n) with
    | some p =>
      simp only
      split
      · exact h.raw _
      · exact ih hn.tail ((h.note_old (by rw [hp]; simp)).label l)
    | none => exact ih hn.tail ((h.note_new hn hp).label l)
theorem RW.note_b (x : RW) (n : List (List UInt8)) : (x.note n).b = x.b := by unfold RW.note; split <;> rfl
theorem RW.note_rests (x : RW) (n : List (List UInt8)) : (x.note n).rests.length ≤ x.rests.length + 1 := by unfold RW.note; split <;> simp
theorem RW.name_rests {x : RW} (n : List (List UInt8)) (short : Bool) : (x.name n short).rests.length ≤ x.rests.length + n.length := by
  induction n generalizing x with
  | nil => exact Nat.le_refl _
  | cons l n ih =>
    unfold RW.name
    have h1 := ih (x := (x.note (l :: n)).label l)
    have h2 := x.note_rests (l :: n)
    simp only [RW.label, RW.raw, List.length_cons] at h1 ⊢
    split
    · split
      · exact Nat.le_add_right _ _
      · omega
    · omega
end Go.Proofs.Ytimkdpkhdbiniaa

/- The reference's writer: what is known of rests. No program in it. -/
namespace Go.Proofs.Ytimkdpkhdbiniaa
open Go.RowKit

/-- What is known of rests may be so. -/
def RW.Fine (x : RW) : Prop := ∀ r ∈ x.rests, r.1 < 16384 ∧ SoundN r.2
theorem RW.fine_nil : RW.nil.Fine := fun _ h => (List.not_mem_nil h).elim
theorem RW.Fine.raw {x : RW} (h : x.Fine) (bs : List UInt8) : (x.raw bs).Fine := h
theorem RW.Fine.note {x : RW} (h : x.Fine) {n : List (List UInt8)} (hn : SoundN n) : (x.note n).Fine := by
  unfold RW.note
  split
  · intro r hr
    rcases List.mem_append.1 hr with hr | hr
    · exact h r hr
    · rw [List.mem_singleton] at hr
      subst hr
      exact ⟨by assumption, hn⟩
  · exact h
theorem RW.Fine.name {n : List (List UInt8)} (hn : SoundN n) (short : Bool) {x : RW} (h : x.Fine) : (x.name n short).Fine := by
  induction n generalizing x with
  | nil => exact h
  | cons l n ih =>
    have h1 := ih hn.tail ((h.note hn).raw (UInt8.ofNat l.length :: l))
    unfold RW.name
    split
    · split
      · exact h
      · exact h1
    · exact h1
end Go.Proofs.Ytimkdpkhdbiniaa

/- rdata: how data is written, in plain Lean; that both writers write the same. -/
namespace Go.Proofs.Ytimkdpkhdbiniaa

def Wr.texts (x : Wr) (ts : List (List UInt8)) : Wr := ts.foldl (fun y t => (y.raw (putB [] t.length 1)).raw t) x
def Wr.nums (x : Wr) (ns : List Int) (z : Int) : Wr := ns.foldl (fun y n => y.raw (putB [] n z)) x
def RW.texts (x : RW) (ts : List (List UInt8)) : RW := ts.foldl (fun y t => (y.raw (putB [] t.length 1)).raw t) x
def RW.nums (x : RW) (ns : List Int) (z : Int) : RW := ns.foldl (fun y n => y.raw (putB [] n z)) x
theorem Wr.texts_snoc (x : Wr) (ts : List (List UInt8)) (t : List UInt8) : x.texts (ts ++ [t]) = ((x.texts ts).raw (putB [] t.length 1)).raw t := by simp [Wr.texts, List.foldl_append]
theorem Wr.nums_snoc (x : Wr) (ns : List Int) (n z : Int) : x.nums (ns ++ [n]) z = (x.nums ns z).raw (putB [] n z) := by simp [Wr.nums, List.foldl_append]
theorem RW.texts_snoc (x : RW) (ts : List (List UInt8)) (t : List UInt8) : x.texts (ts ++ [t]) = ((x.texts ts).raw (putB [] t.length 1)).raw t := by simp [RW.texts, List.foldl_append]
theorem RW.nums_snoc (x : RW) (ns : List Int) (n z : Int) : x.nums (ns ++ [n]) z = (x.nums ns z).raw (putB [] n z) := by simp [RW.nums, List.foldl_append]
theorem Wr.raw_nil (x : Wr) : x.raw [] = x := by simp [Wr.raw]
theorem RW.raw_nil (x : RW) : x.raw [] = x := by simp [RW.raw]

/-- How a type's data is written. -/
def Wr.data (x : Wr) (s : Shp) (d : Da) : Wr :=
  let x1 := (x.raw d.bytes).texts d.texts
  let x2 := if s.first = true then x1.nums d.nums s.size else x1
  let x3 := if s.host = true then x2.name d.host s.short else x2
  let x4 := if s.mail = true then x3.name d.mail s.short else x3
  if s.first = true then x4 else x4.nums d.nums s.size
def RW.data (x : RW) (s : Shp) (d : Da) : RW :=
  let x1 := (x.raw d.bytes).texts d.texts
  let x2 := if s.first = true then x1.nums d.nums s.size else x1
  let x3 := if s.host = true then x2.name d.host s.short else x2
  let x4 := if s.mail = true then x3.name d.mail s.short else x3
  if s.first = true then x4 else x4.nums d.nums s.size

theorem Alike.texts {x : Wr} {y : RW} (h : Alike x y) (ts : List (List UInt8)) : Alike (x.texts ts) (y.texts ts) := by
  refine snoc_ind (P := fun ts => Alike (x.texts ts) (y.texts ts)) h (fun ts t ih => ?_) ts
  rw [Wr.texts_snoc, RW.texts_snoc]
  exact (ih.raw _).raw _
theorem Alike.nums {x : Wr} {y : RW} (h : Alike x y) (ns : List Int) (z : Int) : Alike (x.nums ns z) (y.nums ns z) := by
  refine snoc_ind (P := fun ns => Alike (x.nums ns z) (y.nums ns z)) h (fun ns n ih => ?_) ns
  rw [Wr.nums_snoc, RW.nums_snoc]
  exact ih.raw _
theorem Alike.data {x : Wr} {y : RW} (h : Alike x y) {s : Shp} {d : Da} (hf : FineS s d) : Alike (x.data s d) (y.data s d) := by
  obtain ⟨_, _, _, hh, hm, _, _⟩ := hf
  have h1 := (h.raw d.bytes).texts d.texts
  unfold Wr.data RW.data
  simp only
  have h2 : Alike (if s.first = true then ((x.raw d.bytes).texts d.texts).nums d.nums s.size else (x.raw d.bytes).texts d.texts) (if s.first = true then ((y.raw d.bytes).texts d.texts).nums d.nums s.size else (y.raw d.bytes).texts d.texts) := by
    split
    · exact h1.nums _ _
    · exact h1
  generalize (if s.first = true then ((x.raw d.bytes).texts d.texts).nums d.nums s.size else (x.raw d.bytes).texts d.texts) = x2 at h2 ⊢
  generalize (if s.first = true then ((y.raw d.bytes).texts d.texts).nums d.nums s.size else (y.raw d.bytes).texts d.texts) = y2 at h2 ⊢
  have h3 : Alike (if s.host = true then x2.name d.host s.short else x2) (if s.host = true then y2.name d.host s.short else y2) := by
    unfold hostP at hh
    split
    · rename_i e
      rw [if_pos e] at hh
      exact Alike.name (small_of_sound hh) s.short h2
    · exact h2
  generalize (if s.host = true then x2.name d.host s.short else x2) = x3 at h3 ⊢
  generalize (if s.host = true then y2.name d.host s.short else y2) = y3 at h3 ⊢
  have h4 : Alike (if s.mail = true then x3.name d.mail s.short else x3) (if s.mail = true then y3.name d.mail s.short else y3) := by
    unfold hostP at hm
    split
    · rename_i e
      rw [if_pos e] at hm
      exact Alike.name (small_of_sound hm) s.short h3
    · exact h3
  split
  · exact h4
  · exact h4.nums _ _

theorem putB_len (n z : Int) : (putB [] n z).length ≤ 7 := by
  unfold putB
  split
  · rename_i h
    have h' := fitsB_true h
    rw [List.nil_append, length_be]
    omega
  · simp
theorem Wr.nums_len (x : Wr) (ns : List Int) (z : Int) : (x.nums ns z).b.length ≤ x.b.length + 7 * ns.length ∧ (x.nums ns z).rests = x.rests := by
  refine snoc_ind (P := fun ns => (x.nums ns z).b.length ≤ x.b.length + 7 * ns.length ∧ (x.nums ns z).rests = x.rests) ⟨by simp [Wr.nums], rfl⟩ (fun ns n ih => ?_) ns
  rw [Wr.nums_snoc]
  have := putB_len n z
  refine ⟨?_, ih.2⟩
  simp only [Wr.raw, List.length_append, List.length_singleton]
  have := ih.1
  omega
theorem Wr.texts_len (x : Wr) (ts : List (List UInt8)) (k : Nat) (h : ∀ t ∈ ts, t.length ≤ k) : (x.texts ts).b.length ≤ x.b.length + (7 + k) * ts.length ∧ (x.texts ts).rests = x.rests := by
  revert h
  refine snoc_ind (P := fun ts => (∀ t ∈ ts, t.length ≤ k) → (x.texts ts).b.length ≤ x.b.length + (7 + k) * ts.length ∧ (x.texts ts).rests = x.rests) (fun _ => ⟨by simp [Wr.texts], rfl⟩) (fun ts t ih h => ?_) ts
  rw [Wr.texts_snoc]
  obtain ⟨h1, h2⟩ := ih (fun t ht => h t (List.mem_append_left _ ht))
  have := putB_len t.length 1
  have h3 := h t (List.mem_append_right _ (List.mem_singleton.2 rfl))
  refine ⟨?_, h2⟩
  simp only [Wr.raw, List.length_append, List.length_singleton, Nat.mul_add, Nat.mul_one]
  omega
theorem RW.nums_len (x : RW) (ns : List Int) (z : Int) : (x.nums ns z).b.length ≤ x.b.length + 7 * ns.length ∧ (x.nums ns z).rests = x.rests := by
  refine snoc_ind (P := fun ns => (x.nums ns z).b.length ≤ x.b.length + 7 * ns.length ∧ (x.nums ns z).rests = x.rests) ⟨by simp [RW.nums], rfl⟩ (fun ns n ih => ?_) ns
  rw [RW.nums_snoc]
  have := putB_len n z
  refine ⟨?_, ih.2⟩
  simp only [RW.raw, List.length_append, List.length_singleton]
  have := ih.1
  omega
theorem RW.texts_len (x : RW) (ts : List (List UInt8)) (k : Nat) (h : ∀ t ∈ ts, t.length ≤ k) : (x.texts ts).b.length ≤ x.b.length + (7 + k) * ts.length ∧ (x.texts ts).rests = x.rests := by
  revert h
  refine snoc_ind (P := fun ts => (∀ t ∈ ts, t.length ≤ k) → (x.texts ts).b.length ≤ x.b.length + (7 + k) * ts.length ∧ (x.texts ts).rests = x.rests) (fun _ => ⟨by simp [RW.texts], rfl⟩) (fun ts t ih h => ?_) ts
  rw [RW.texts_snoc]
  obtain ⟨h1, h2⟩ := ih (fun t ht => h t (List.mem_append_left _ ht))
  have := putB_len t.length 1
  have h3 := h t (List.mem_append_right _ (List.mem_singleton.2 rfl))
  refine ⟨?_, h2⟩
  simp only [RW.raw, List.length_append, List.length_singleton, Nat.mul_add, Nat.mul_one]
  omega
end Go.Proofs.Ytimkdpkhdbiniaa

/- rdata: data that was written is read as it is. No program in it. -/
namespace Go.Proofs.Ytimkdpkhdbiniaa

/-- Numbers of a size, one behind the other. -/
def numsB (ns : List Int) (z : Int) : List UInt8 := ns.flatMap fun n => putB [] n z
/-- Texts, one behind the other. -/
def textsB (ts : List (List UInt8)) : List UInt8 := ts.flatMap fun t => putB [] t.length 1 ++ t
theorem Wr.nums_b (x : Wr) (ns : List Int) (z : Int) : x.nums ns z = x.raw (numsB ns z) := by
  refine snoc_ind (P := fun ns => x.nums ns z = x.raw (numsB ns z)) (by simp [Wr.nums, numsB, Wr.raw]) (fun ns n ih => ?_) ns
  rw [Wr.nums_snoc, ih]
  simp [numsB, Wr.raw, List.flatMap_append]
theorem Wr.texts_b (x : Wr) (ts : List (List UInt8)) : x.texts ts = x.raw (textsB ts) := by
  refine snoc_ind (P := fun ts => x.texts ts = x.raw (textsB ts)) (by simp [Wr.texts, textsB, Wr.raw]) (fun ts n ih => ?_) ts
  rw [Wr.texts_snoc, ih]
  simp [textsB, Wr.raw, List.flatMap_append]
theorem numsB_cons (n : Int) (ns : List Int) (z : Int) : numsB (n :: ns) z = putB [] n z ++ numsB ns z := rfl
theorem textsB_cons (t : List UInt8) (ts : List (List UInt8)) : textsB (t :: ts) = putB [] t.length 1 ++ t ++ textsB ts := rfl
theorem putB_len_fit {n z : Int} (h : fitsB n z = true) : (putB [] n z).length = z.toNat := by
  have := putB_length [] n z h
  have h2 := fitsB_true h
  simp at this
  omega
theorem numsB_len {ns : List Int} {z : Int} (h : ∀ n ∈ ns, fitsB n z = true) : (numsB ns z).length = z.toNat * ns.length := by
  induction ns with
  | nil => simp [numsB]
  | cons n ns ih =>
    rw [numsB_cons, List.length_append, putB_len_fit (h n (List.mem_cons_self ..)), ih (fun m hm => h m (List.mem_cons_of_mem _ hm)), List.length_cons, Nat.mul_succ]
    omega
theorem fits_len {t : List UInt8} (h : t.length ≤ 255) : fitsB (t.length : Int) 1 = true := by unfold fitsB; simp; omega
theorem Da.eta5 (d : Da) {b : List UInt8} {h m : List (List UInt8)} {n : List Int} {t : List (List UInt8)} (e1 : d.bytes = b) (e2 : d.host = h) (e3 : d.mail = m) (e4 : d.nums = n) (e5 : d.texts = t) : d = ⟨b, h, m, n, t⟩ := by
  cases d; simp_all
theorem nil_of_len0 {α : Type} {l : List α} (h : (l.length : Int) = 0) : l = [] := List.eq_nil_of_length_eq_zero (by omega)
section
variable {x : Wr} {d : Da}
theorem data_A (hf : FineS shpA d) : ∃ bs, d = ⟨bs, [], [], [], []⟩ ∧ bs.length = 4 ∧ x.data shpA d = x.raw bs := by
  obtain ⟨h1, h2, h3, h4, h5, h6, h7⟩ := hf
  simp [shpA, hostP, textsP] at h1 h3 h4 h5 h7
  have e := Da.eta5 d rfl h4 h5 h3 h7
  refine ⟨d.bytes, e, by omega, ?_⟩
  rw [e]; simp [Wr.data, shpA, Wr.texts, Wr.nums]
theorem data_Q (hf : FineS shpQ d) : ∃ bs, d = ⟨bs, [], [], [], []⟩ ∧ bs.length = 16 ∧ x.data shpQ d = x.raw bs := by
  obtain ⟨h1, h2, h3, h4, h5, h6, h7⟩ := hf
  simp [shpQ, hostP, textsP] at h1 h3 h4 h5 h7
  have e := Da.eta5 d rfl h4 h5 h3 h7
  refine ⟨d.bytes, e, by omega, ?_⟩
  rw [e]; simp [Wr.data, shpQ, Wr.texts, Wr.nums]
theorem data_B (hf : FineS shpB d) : ∃ bs, d = ⟨bs, [], [], [], []⟩ ∧ x.data shpB d = x.raw bs := by
  obtain ⟨h1, h2, h3, h4, h5, h6, h7⟩ := hf
  simp [shpB, hostP, textsP] at h3 h4 h5 h7
  have e := Da.eta5 d rfl h4 h5 h3 h7
  refine ⟨d.bytes, e, ?_⟩
  rw [e]; simp [Wr.data, shpB, Wr.texts, Wr.nums]
theorem data_T (hf : FineS shpT d) : ∃ ts, d = ⟨[], [], [], [], ts⟩ ∧ 1 ≤ ts.length ∧ ts.length ≤ 64 ∧ (∀ t ∈ ts, t.length ≤ 255) ∧ x.data shpT d = x.raw (textsB ts) := by
  obtain ⟨h1, h2, h3, h4, h5, h6, h7⟩ := hf
  simp only [shpT, hostP, textsP, if_pos, Bool.false_eq_true, ite_false] at h1 h3 h4 h5 h7
  have e := Da.eta5 d (nil_of_len0 (h1 (by decide))) h4 h5 (nil_of_len0 h3) rfl
  refine ⟨d.texts, e, h7.1, h7.2.1, h7.2.2, ?_⟩
  rw [e]; simp [Wr.data, shpT, Wr.texts_b, Wr.nums, Wr.raw]
theorem data_N (hf : FineS shpN d) : ∃ h, d = ⟨[], h, [], [], []⟩ ∧ SoundN h ∧ x.data shpN d = x.name h true := by
  obtain ⟨h1, h2, h3, h4, h5, h6, h7⟩ := hf
  simp only [shpN, hostP, textsP, if_pos, Bool.false_eq_true, ite_false] at h1 h3 h4 h5 h7
  have e := Da.eta5 d (nil_of_len0 (h1 (by decide))) rfl h5 (nil_of_len0 h3) h7
  refine ⟨d.host, e, h4, ?_⟩
  rw [e]; simp [Wr.data, shpN, Wr.texts, Wr.nums, Wr.raw_nil]
theorem data_M (hf : FineS shpM d) : ∃ ns h, d = ⟨[], h, [], ns, []⟩ ∧ ns.length = 1 ∧ (∀ n ∈ ns, fitsB n 2 = true) ∧ SoundN h ∧ x.data shpM d = (x.raw (numsB ns 2)).name h true := by
  obtain ⟨h1, h2, h3, h4, h5, h6, h7⟩ := hf
  simp only [shpM, hostP, textsP, if_pos, Bool.false_eq_true, ite_false] at h1 h3 h4 h5 h6 h7
  have e := Da.eta5 d (nil_of_len0 (h1 (by decide))) rfl h5 rfl h7
  refine ⟨d.nums, d.host, e, by omega, h6, h4, ?_⟩
  rw [e]; simp [Wr.data, shpM, Wr.texts, Wr.nums_b, Wr.raw_nil]
theorem data_V (hf : FineS shpV3 d) : ∃ ns h, d = ⟨[], h, [], ns, []⟩ ∧ ns.length = 3 ∧ (∀ n ∈ ns, fitsB n 2 = true) ∧ SoundN h ∧ x.data shpV3 d = (x.raw (numsB ns 2)).name h false := by
  obtain ⟨h1, h2, h3, h4, h5, h6, h7⟩ := hf
  simp only [shpV3, hostP, textsP, if_pos, Bool.false_eq_true, ite_false] at h1 h3 h4 h5 h6 h7
  have e := Da.eta5 d (nil_of_len0 (h1 (by decide))) rfl h5 rfl h7
  refine ⟨d.nums, d.host, e, by omega, h6, h4, ?_⟩
  rw [e]; simp [Wr.data, shpV3, Wr.texts, Wr.nums_b, Wr.raw_nil]
theorem data_S (hf : FineS shpS d) : ∃ ns h m, d = ⟨[], h, m, ns, []⟩ ∧ ns.length = 5 ∧ (∀ n ∈ ns, fitsB n 4 = true) ∧ SoundN h ∧ SoundN m ∧ x.data shpS d = ((x.name h true).name m true).raw (numsB ns 4) := by
  obtain ⟨h1, h2, h3, h4, h5, h6, h7⟩ := hf
  simp only [shpS, hostP, textsP, if_pos, Bool.false_eq_true, ite_false] at h1 h3 h4 h5 h6 h7
  have e := Da.eta5 d (nil_of_len0 (h1 (by decide))) rfl rfl rfl h7
  refine ⟨d.nums, d.host, d.mail, e, by omega, h6, h4, h5, ?_⟩
  rw [e]; simp [Wr.data, shpS, Wr.texts, Wr.nums_b, Wr.raw_nil]
end
theorem Wr.True.data {x : Wr} (hx : x.True) {k : Int} {d : Da} (hf : FineS (shapeP k) d) : (x.data (shapeP k) d).True := by
  rcases shape_cases k with e | e | e | e | e | e | e | e <;> rw [e] at hf ⊢
  · obtain ⟨_, _, _, e⟩ := data_A (x := x) hf; rw [e]; exact hx.raw _
  · obtain ⟨_, _, _, e⟩ := data_Q (x := x) hf; rw [e]; exact hx.raw _
  · obtain ⟨_, _, h, e⟩ := data_N (x := x) hf; rw [e]; exact (hx.name h.1 _).1
  · obtain ⟨_, _, _, _, _, h, e⟩ := data_M (x := x) hf; rw [e]; exact ((hx.raw _).name h.1 _).1
  · obtain ⟨_, _, _, _, _, _, h, h2, e⟩ := data_S (x := x) hf; rw [e]; exact (((hx.name h.1 _).1.name h2.1 _).1).raw _
  · obtain ⟨_, _, _, _, _, h, e⟩ := data_V (x := x) hf; rw [e]; exact ((hx.raw _).name h.1 _).1
  · obtain ⟨_, _, _, _, _, e⟩ := data_T (x := x) hf; rw [e]; exact hx.raw _
  · obtain ⟨_, _, e⟩ := data_B (x := x) hf; rw [e]; exact hx.raw _

theorem raw_len (x : Wr) (l : List UInt8) : (x.raw l).b.length = x.b.length + l.length := by simp [Wr.raw]
section
variable (b : List UInt8) (pos en : Nat)
end
theorem textsB_len {ts : List (List UInt8)} (h : ∀ t ∈ ts, t.length ≤ 255) : (textsB ts).length ≤ 256 * ts.length := by
  induction ts with
  | nil => simp [textsB]
  | cons t ts ih =>
    have h1 := ih fun u hu => h u (List.mem_cons_of_mem _ hu)
    have h2 := h t (List.mem_cons_self ..)
    have h3 : (putB [] (t.length : Int) 1).length = 1 := putB_len_fit (fits_len h2)
    rw [textsB_cons]
    simp only [List.length_append, List.length_cons, h3]
    omega
/-- Data takes at most so much, and writes down so many rests. -/
theorem Wr.data_len (x : Wr) {k : Int} {d : Da} (hf : FineS (shapeP k) d) : x.b.length ≤ (x.data (shapeP k) d).b.length ∧ (x.data (shapeP k) d).b.length ≤ x.b.length + 65535 ∧ (x.data (shapeP k) d).rests.length ≤ x.rests.length + 510 := by
  have name_b : ∀ (y : Wr) n sh, y.b.length ≤ (y.name n sh).b.length := fun y n sh => by obtain ⟨z, hz, _⟩ := Wr.name_b (x := y) n sh; rw [hz]; simp
  rcases shape_cases k with e | e | e | e | e | e | e | e <;> rw [e] at hf ⊢
  · obtain ⟨bs, rfl, hl, e⟩ := data_A (x := x) hf; rw [e]; have := raw_len x bs; refine ⟨by omega, by omega, by simp [Wr.raw]⟩
  · obtain ⟨bs, rfl, hl, e⟩ := data_Q (x := x) hf; rw [e]; have := raw_len x bs; refine ⟨by omega, by omega, by simp [Wr.raw]⟩
  · obtain ⟨n, rfl, hn, e⟩ := data_N (x := x) hf; rw [e]
    have h1 := Wr.name_le (x := x) n true; have h2 := Wr.name_rests (x := x) n true; have h3 := name_b x n true; have h4 := sizeN_length n; have h5 := hn.2
    exact ⟨h3, by omega, by omega⟩
  · obtain ⟨ns, n, rfl, hl, hns, hn, e⟩ := data_M (x := x) hf; rw [e]
    have h0 := raw_len x (numsB ns 2); have h00 := numsB_len hns; rw [hl] at h00
    have h1 := Wr.name_le (x := x.raw (numsB ns 2)) n true; have h2 := Wr.name_rests (x := x.raw (numsB ns 2)) n true; have h3 := name_b (x.raw (numsB ns 2)) n true; have h4 := sizeN_length n; have h5 := hn.2
    have h6 : (x.raw (numsB ns 2)).rests = x.rests := rfl
    rw [h6] at h2
    have h7 : (numsB ns 2).length = 2 := h00
    exact ⟨by omega, by omega, by omega⟩
  · obtain ⟨ns, n, m, rfl, hl, hns, hn, hm, e⟩ := data_S (x := x) hf; rw [e]
    have h0 := raw_len ((x.name n true).name m true) (numsB ns 4); have h00 := numsB_len hns; rw [hl] at h00
    have h1 := Wr.name_le (x := x) n true; have h2 := Wr.name_rests (x := x) n true; have h3 := name_b x n true; have h4 := sizeN_length n; have h5 := hn.2
    have h1' := Wr.name_le (x := x.name n true) m true; have h2' := Wr.name_rests (x := x.name n true) m true; have h3' := name_b (x.name n true) m true; have h4' := sizeN_length m; have h5' := hm.2
    have h6 : (((x.name n true).name m true).raw (numsB ns 4)).rests = ((x.name n true).name m true).rests := rfl
    have h7 : (numsB ns 4).length = 20 := h00
    rw [h6]
    exact ⟨by omega, by omega, by omega⟩
  · obtain ⟨ns, n, rfl, hl, hns, hn, e⟩ := data_V (x := x) hf; rw [e]
    have h0 := raw_len x (numsB ns 2); have h00 := numsB_len hns; rw [hl] at h00
    have h1 := Wr.name_le (x := x.raw (numsB ns 2)) n false; have h2 := Wr.name_rests (x := x.raw (numsB ns 2)) n false; have h3 := name_b (x.raw (numsB ns 2)) n false; have h4 := sizeN_length n; have h5 := hn.2
    have h6 : (x.raw (numsB ns 2)).rests = x.rests := rfl
    rw [h6] at h2
    have h7 : (numsB ns 2).length = 6 := h00
    exact ⟨by omega, by omega, by omega⟩
  · obtain ⟨ts, rfl, h1, h64, ht, e⟩ := data_T (x := x) hf; rw [e]; have := raw_len x (textsB ts); have := textsB_len ht; exact ⟨by omega, by omega, by simp [Wr.raw]⟩
  · obtain ⟨bs, he, e⟩ := data_B (x := x) hf
    have h6 : bs.length ≤ 65535 := by have := hf.2.1; rw [he] at this; exact this
    rw [e]; have := raw_len x bs; exact ⟨by omega, by omega, by simp [Wr.raw]⟩
end Go.Proofs.Ytimkdpkhdbiniaa

/- wname: bytes in the place of bytes, in plain Lean. No program in it. -/
namespace Go.Proofs.Ytimkdpkhdbiniaa

/-- Bytes in the place of bytes. -/
def putAt (bs : List UInt8) (k : Nat) (r : List UInt8) : List UInt8 := bs.take k ++ (r ++ bs.drop (k + r.length))
def Wr.put (x : Wr) (k : Nat) (r : List UInt8) : Wr := { x with b := putAt x.b k r }
end Go.Proofs.Ytimkdpkhdbiniaa

/- rr: how a record is written, and that it is read as it is, in plain Lean. No program in it. -/
namespace Go.Proofs.Ytimkdpkhdbiniaa
set_option maxRecDepth 100000

/-- May a record be? -/
def FineR (r : RR) : Prop := SoundN r.name ∧ FineD r.type r.data ∧ fitsB r.cls 2 = true ∧ 0 ≤ r.ttl ∧ r.ttl < 2147483648
/-- What is appended does not hang on what stands there, but on how much. -/
def Op (f : Wr → Wr) : Prop := ∀ x x' : Wr, x.b.length = x'.b.length → x.rests = x'.rests → ∃ z, (f x).b = x.b ++ z ∧ (f x').b = x'.b ++ z ∧ (f x).rests = (f x').rests
theorem Op.id : Op (fun x => x) := fun _ _ _ hr => ⟨[], by simp, by simp, hr⟩
theorem Op.comp {f g : Wr → Wr} (hf : Op f) (hg : Op g) : Op (fun x => g (f x)) := fun x x' hl hr => by
  obtain ⟨z, h1, h2, h3⟩ := hf x x' hl hr
  obtain ⟨z', h4, h5, h6⟩ := hg (f x) (f x') (by rw [h1, h2]; simp [hl]) h3
  exact ⟨z ++ z', by rw [h4, h1, List.append_assoc], by rw [h5, h2, List.append_assoc], h6⟩
theorem Wr.raw_rests (x : Wr) (l : List UInt8) : (x.raw l).rests = x.rests := rfl
theorem Op.raw (l : List UInt8) : Op (fun x => x.raw l) := fun _ _ _ hr => ⟨l, rfl, rfl, hr⟩
theorem Op.note (r : List UInt8) : Op (fun x => x.note r) := fun x x' hl hr => by
  simp only [Wr.note]
  rw [hl]
  split
  · exact ⟨[], by simp, by simp, by simp [hr]⟩
  · exact ⟨[], by simp, by simp, hr⟩
theorem Op.name (n : List (List UInt8)) (sh : Bool) : Op (fun x => x.name n sh) := by
  induction n with
  | nil => exact Op.raw [0]
  | cons l n ih =>
    intro x x' hl hr
    have h1 := (Op.raw (UInt8.ofNat l.length :: l)).comp ih
    have h2 := (Op.note (restB (l :: n))).comp h1
    simp only [Wr.name]
    rw [hr]
    split
    · split
      · exact Op.raw _ x x' hl hr
      · exact h1 x x' hl hr
    · exact h2 x x' hl hr
theorem Op.ite {f g : Wr → Wr} {c : Prop} [Decidable c] (hf : Op f) (hg : Op g) : Op (fun x => if c then f x else g x) := by
  by_cases h : c
  · simpa [h] using hf
  · simpa [h] using hg
theorem Op.texts (ts : List (List UInt8)) : Op (fun x => x.texts ts) := by
  have : (fun x : Wr => x.texts ts) = fun x => x.raw (textsB ts) := funext fun x => Wr.texts_b x ts
  rw [this]; exact Op.raw _
theorem Op.nums (ns : List Int) (z : Int) : Op (fun x => x.nums ns z) := by
  have : (fun x : Wr => x.nums ns z) = fun x => x.raw (numsB ns z) := funext fun x => Wr.nums_b x ns z
  rw [this]; exact Op.raw _
theorem Op.data (s : Shp) (d : Da) : Op (fun x => x.data s d) := by
  have h1 := (Op.raw d.bytes).comp (Op.texts d.texts)
  have h2 := h1.comp (Op.ite (c := s.first = true) (Op.nums d.nums s.size) Op.id)
  have h3 := h2.comp (Op.ite (c := s.host = true) (Op.name d.host s.short) Op.id)
  have h4 := h3.comp (Op.ite (c := s.mail = true) (Op.name d.mail s.short) Op.id)
  exact h4.comp (Op.ite (c := s.first = true) Op.id (Op.nums d.nums s.size))

/-- The head of a record: its name and what stands ahead of the data's length. -/
def Wr.rrHead (x : Wr) (r : RR) : Wr := (((x.name r.name true).raw (putB [] r.type 2)).raw (putB [] r.cls 2)).raw (putB [] r.ttl 4)
/-- How a record is written: the data's length is put in its place behind the data. -/
def Wr.rr (x : Wr) (r : RR) : Wr :=
  let y := ((x.rrHead r).raw (putB [] 0 2)).data (shapeP r.type) r.data
  y.put (x.rrHead r).b.length (putB [] (y.b.length - (x.rrHead r).b.length - 2 : Nat) 2)
/-- The data's length. -/
def Wr.rrLen (x : Wr) (r : RR) : Nat := (((x.rrHead r).raw (putB [] 0 2)).data (shapeP r.type) r.data).b.length - (x.rrHead r).b.length - 2
theorem fits2 {n : Nat} (h : n < 65536) : fitsB (n : Int) 2 = true := by unfold fitsB; simp; omega
theorem put2_len (n : Nat) (h : n < 65536) : (putB [] (n : Int) 2).length = 2 := by rw [putB_len_fit (fits2 h)]; rfl
theorem put02_len : (putB [] (0 : Int) 2).length = 2 := put2_len 0 (by omega)
theorem putAt_mid (a l l' z : List UInt8) (h : l.length = l'.length) : putAt (a ++ l ++ z) a.length l' = a ++ l' ++ z := by
  unfold putAt
  rw [← h, List.append_assoc, List.take_left, ← List.append_assoc, ← List.append_assoc]
  congr 1
  rw [show a.length + l.length = (a ++ l).length by rw [List.length_append], List.drop_left]
/-- As if the length had been there from the first. -/
theorem Wr.rr_eq (x : Wr) (r : RR) (h : x.rrLen r < 65536) : x.rr r = ((x.rrHead r).raw (putB [] (x.rrLen r : Int) 2)).data (shapeP r.type) r.data := by
  have h0 := put02_len
  have hl := put2_len _ h
  obtain ⟨z, h1, h2, h3⟩ := Op.data (shapeP r.type) r.data ((x.rrHead r).raw (putB [] 0 2)) ((x.rrHead r).raw (putB [] (x.rrLen r : Int) 2)) (by rw [raw_len, raw_len, h0, hl]) (by rw [Wr.raw_rests, Wr.raw_rests])
  have hb : (x.rr r).b = (((x.rrHead r).raw (putB [] (x.rrLen r : Int) 2)).data (shapeP r.type) r.data).b := by
    rw [h2]
    show putAt (((x.rrHead r).raw (putB [] 0 2)).data (shapeP r.type) r.data).b (x.rrHead r).b.length (putB [] (x.rrLen r : Int) 2) = _
    rw [h1]
    exact putAt_mid _ _ _ _ (by rw [h0, hl])
  have hr : (x.rr r).rests = (((x.rrHead r).raw (putB [] (x.rrLen r : Int) 2)).data (shapeP r.type) r.data).rests := h3
  cases hx : x.rr r
  cases hy : ((x.rrHead r).raw (putB [] (x.rrLen r : Int) 2)).data (shapeP r.type) r.data
  rw [hx, hy] at hb hr
  simp only at hb hr
  rw [hb, hr]

theorem Wr.rrLen_lt (x : Wr) {r : RR} (h : FineR r) : x.rrLen r < 65536 := by
  have h1 := Wr.data_len ((x.rrHead r).raw (putB [] 0 2)) h.2.1.2
  have h0 := put02_len
  have h2 := raw_len (x.rrHead r) (putB [] 0 2)
  unfold Wr.rrLen
  omega
theorem Wr.True.rr {x : Wr} (hx : x.True) {r : RR} (h : FineR r) : (x.rr r).True := by
  rw [Wr.rr_eq x r (x.rrLen_lt h)]
  exact (((((hx.name h.1.1 true).1.raw _).raw _).raw _).raw _).data h.2.1.2
end Go.Proofs.Ytimkdpkhdbiniaa

/- gazetteerref01.Put: a number behind bytes. -/
namespace Go.Proofs.Ytimkdpkhdbiniaa
open Go.RowKit

set_option maxHeartbeats 400000 in
theorem rput_any (A : Option Addr) (m c : Nat) (bs : List UInt8) (n size : Int) (w : World) (hb : RdB w A m bs) (hm : m ≤ 140737488355000) (hn : n ≤ 9223372036854775807) :
    Calls Try.prog 113 #[.slice A m c, .int .i64 n, .int .i64 size] w (RetP (fun v w' => OwnB w' w.heap.size v (putB bs n size)) w) := by
  have hlb := Lib.hid hb.len
  by_cases hf : fitsB n size = true
  · obtain ⟨f1, f2, f3, f4⟩ := fitsB_true hf
    have F4 := Lib.hid f4
    clear f4
    obtain ⟨z, rfl⟩ := Int.eq_ofNat_of_zero_le (Int.le_trans (by decide) f1)
    obtain ⟨q, rfl⟩ := Int.eq_ofNat_of_zero_le f3
    have hbl : Hid (putB bs q z = bs ++ be q z) := by unfold putB; rw [if_pos hf]; rfl
    have hmk := mkB z z (Nat.le_refl _) (by omega)
    go_enter Try.func113, Try.ntmps113
    go_wp2_with (first
      | ((with_reducible show wpList _ _ _ (⟨some 12, _, _, _, _, _⟩ :: _) _ _); refine wpL_cloneB rfl (.tmp 10) (.tmp 11) rfl rfl A m c bs rfl hb (by omega) ?_; intro v1 w1 hown1 hb1)
      | (go_at_call 90; refine (rfits_any _ _ _ hn).mono ?_; rintro e w' ⟨rfl, rfl⟩))
    obtain ⟨g, hg⟩ : ∃ g, g = w1.heap.size := ⟨_, rfl⟩
    have hmade := OwnB.made w1 z (by unfold maxLen; omega)
    have hbn : Below g w1 (w1.alloc (.cells (madeCells #[.int .u8 0] z) 5)) := by rw [hg]; exact (Below.refl _ _).alloc (Nat.le_refl _) _
    rw [← hg] at hmade ⊢
    have HG := Lib.hid hg
    clear hg
    go_loopw [1, 9] (fun nn i wr => ∃ j : Nat, ∃ s : List UInt8, i = .int .i64 ((j : Int) - 1) ∧ j ≤ z ∧ nn = .int .i64 ((q / 256 ^ (z - j) : Nat) : Int) ∧
        OwnB wr g (.slice (some ⟨g, 0, none⟩) z z) (List.replicate j 0 ++ s) ∧ be q z = be (q / 256 ^ (z - j)) j ++ s ∧ Below g w1 wr) (fun _ i _ => (intOf i + 1).toNat)
    case atStart => exact ⟨z, [], rfl, Nat.le_refl _, by simp, by simpa using hmade, by simp, hbn⟩
    case round =>
      obtain ⟨j, s, rfl, hj, rfl, hown, hbe, hbw⟩ := hrel
      have HBE := Lib.hid hbe
      clear hbe
      rcases j with _ | i
      · have hrd : RdB wr (some ⟨g, 0, none⟩) z s := by simpa using hown.rd.1
        have hbw1 : Below w1.heap.size w1 wr := by rw [← HG.out]; exact hbw
        have ho1 : OwnB wr w.heap.size v1 bs := hown1.below hbw1
        have hsz : w.heap.size ≤ wr.heap.size := Nat.le_trans hb1.size hbw1.size
        have hbr : Below w.heap.size w wr := hb1.trans (hbw1.mono hb1.size)
        go_wp2_with ((with_reducible show wpList _ _ _ (⟨some 36, _, _, _, _, _⟩ :: _) _ _); refine wpL_appB rfl (.tmp 34) (.tmp 35) rfl w.heap.size v1 bs rfl ho1 _ z z s rfl hrd ?hb hsz ?_; rotate_right; intro v2 w2 hown2 hg2 _)
        case hb => rw [hlb.out]; omega
        go_ret
        refine ⟨_, rfl, ?_, hbr.grown hg2 hsz fun k hk => (World.ownsRow.lt ho1 k hk).1⟩
        rw [hbl.out, HBE.out]
        exact hown2
      · obtain ⟨p, hp⟩ : ∃ p, p = q / 256 ^ (z - (i + 1)) := ⟨_, rfl⟩
        rw [← hp] at HBE ⊢
        have HP := Lib.hid hp
        clear hp
        have hp5 : p ≤ q := by rw [HP.out]; exact Nat.div_le_self _ _
        have hc := hown.cell (k := i) (by simp; omega)
        have hfz := hown.free i
        go_wp2
        go_roundw
        case rel =>
          refine ⟨i, UInt8.ofNat p :: s, rfl, by omega, ?_, ?_, ?_, hbw.setCell (Nat.le_refl _) _⟩
          · rw [HP.out]
            congr 1
            have e : z - i = z - (i + 1) + 1 := by omega
            rw [e, Nat.pow_succ, ← Nat.div_div_eq_div_mul]
            rfl
          · have h := hown.set i (UInt8.ofNat p)
            rw [set_last, ofNat_u8] at h
            exact h
          · have e : z - i = z - (i + 1) + 1 := by omega
            rw [HBE.out, e, Nat.pow_succ, ← Nat.div_div_eq_div_mul, ← HP.out, be]
            simp
        case measure => simp [intOf]
  · have hfe : fitsB n size = false := by simpa using hf
    have hbl : Hid (putB bs n size = bs) := by unfold putB; rw [if_neg hf]; rfl
    clear hf
    go_enter Try.func113, Try.ntmps113
    go_wp2_with (first
      | ((with_reducible show wpList _ _ _ (⟨some 12, _, _, _, _, _⟩ :: _) _ _); refine wpL_cloneB rfl (.tmp 10) (.tmp 11) rfl rfl A m c bs rfl hb (by omega) ?_; intro v1 w1 hown1 hb1)
      | (go_at_call 90; refine (rfits_any _ _ _ hn).mono ?_; rintro e w' ⟨rfl, rfl⟩))
    go_ret
    exact ⟨_, rfl, by rw [hbl.out]; exact hown1, hb1⟩
end Go.Proofs.Ytimkdpkhdbiniaa

/- The reference's writer in memory: Num, Raw. -/
namespace Go.Proofs.Ytimkdpkhdbiniaa
open Go.RowKit
set_option maxRecDepth 100000

/-- Where the rest of a name stands. -/
def encRest : Enc (Nat × List (List UInt8)) where
  size := 2
  R := fun S w r x => ∃ A c, r = [.int .i64 (x.1 : Int), .slice A x.2.length c] ∧ Els encS S S w A x.2.length x.2 ∧ x.2.length ≤ c ∧ c ≤ maxLen
  pos := by decide
  len := by rintro _ _ r x ⟨A, c, rfl, _⟩; rfl
  mono := by rintro S S' w r x h ⟨A, c, rfl, he, h1⟩; exact ⟨A, c, rfl, he.mono h h, h1⟩
  keep := by rintro S w w' r x h ⟨A, c, rfl, he, h1⟩; exact ⟨A, c, rfl, he.keep h h, h1⟩
  one := by
    rintro S w r x ⟨A, c, rfl, _⟩ u hu
    simp at hu
    rcases hu with rfl | rfl <;> rfl
theorem elRest : ElT Try.prog 101 151 encRest 32 := ElT.mk Try.underlying101 (.agg #[.int .i64 0, .slice none 0 0]) 2 (by kernel_rfl) rfl rfl

/-- The reference's writer at block g reads as x; what it leads to lies in blocks of F. -/
def RWtr (w : World) (B : Nat) (F : Nat → Prop) (g : Nat) (x : RW) : Prop :=
  ∃ bv rv S, w.heap[g]? = some (.cells #[bv, rv] 103 (0, 0)) ∧ OwnB w B bv x.b ∧ OwnE encRest 151 S w B rv x.rests ∧ (F g ∧ B ≤ g) ∧ (∀ k, bv.ownBlock = some k → F k ∧ k ≠ g) ∧
    (∀ k, rv.ownBlock = some k → F k ∧ k ≠ g ∧ bv.ownBlock ≠ some k) ∧ (∀ k, S k → F k ∧ k ≠ g ∧ bv.ownBlock ≠ some k) ∧ ∀ k, F k → B ≤ k ∧ k < w.heap.size

section
variable {w w' w2 : World} {B g : Nat} {F G : Nat → Prop} {x : RW}
theorem RWtr.F_lt (h : RWtr w B F g x) : ∀ k, F k → B ≤ k ∧ k < w.heap.size := by obtain ⟨_, _, _, _, _, _, _, _, _, _, h⟩ := h; exact h
theorem RWtr.chg (h : RWtr w B F g x) (hc : Chg G w w') (hd : ∀ k, F k → ¬ G k) : RWtr w' B F g x := by
  obtain ⟨bv, rv, S, hg, hb, hr, hgF, hbF, hrF, hSF, hF⟩ := h
  exact ⟨bv, rv, S, hc.heap hg (hd g hgF.1), hb.chgv hc (fun k hk => hd k (hbF k hk).1), hr.chg hc (fun k hk => hd k (hrF k hk).1) (fun k hk => hd k (hSF k hk).1), hgF, hbF, hrF, hSF, fun k hk => ⟨(hF k hk).1, Nat.lt_of_lt_of_le (hF k hk).2 hc.size⟩⟩
theorem RWtr.below (h : RWtr w B F g x) (hb : Below w.heap.size w w') : RWtr w' B F g x := h.chg (G := fun _ => False) (Chg.of_below hb) (fun _ _ h => h)
theorem RWtr.bw {w0 : World} (hb : Below w0.heap.size w0 w) (h : RWtr w B F g x) (hB : w0.heap.size ≤ B) (hc : Chg F w w') : Below w0.heap.size w0 w' :=
  hb.trans (hc.below (fun x hx => Nat.le_trans hB (h.F_lt x hx).1) hb.size)
end

/-- A call of the reference's writer: what it returns, and what the writer is then. -/
def RetR (w : World) (B : Nat) (F : Nat → Prop) (g : Nat) (y : RW) (v : Value) (e : Ending) (w' : World) : Prop :=
  e = .returned v ∧ ∃ F', RWtr w' B F' g y ∧ Chg F w w' ∧ ∀ z, F' z → F z ∨ w.heap.size ≤ z

/-- A new writer. -/
theorem RWtr.made (w : World) : RWtr (w.alloc (.cells #[.slice none 0 0, .slice none 0 0] 103)) w.heap.size (fun k => k = w.heap.size) w.heap.size RW.nil :=
  ⟨.slice none 0 0, .slice none 0 0, noS, heap_alloc_new w _, OwnB.nil _ _, OwnE.nil _ _ _ _, ⟨rfl, Nat.le_refl _⟩, (fun k hk => by cases hk), (fun k hk => by cases hk), fun k hk => hk.elim, fun k hk => by subst hk; simp⟩

/-- Its bytes are others, in a row of the call's own. -/
theorem RWtr.set_b {w w2 : World} {B g : Nat} {F : Nat → Prop} {x : RW} {v2 r : Value} {bs : List UInt8} (h : RWtr w B F g x) (hown : OwnB w2 w.heap.size v2 bs) (hb : Below w.heap.size w w2) : RetR w B F g { x with b := bs } r (.returned r) (w2.setCell ⟨g, 0, none⟩ v2) := by
  obtain ⟨bv, rv, S, hg, hbv, hr, hgF, hbF, hrF, hSF, hF⟩ := h
  have hgl := (hF g hgF.1).2
  have hgw := (hb.block g hgl).trans hg
  have hcg : Chg (fun k => k = g) w2 (w2.setCell ⟨g, 0, none⟩ v2) := (Chg.refl (fun k => k = g) w2).setCell (p := ⟨g, 0, none⟩) (Or.inl rfl) v2
  have hv2 : ∀ k, v2.ownBlock = some k → w.heap.size ≤ k ∧ k < w2.heap.size := fun k hk => World.ownsRow.lt hown k hk
  have hsz := hb.size
  refine ⟨rfl, fun k => F k ∨ (w.heap.size ≤ k ∧ k < w2.heap.size), ⟨v2, rv, S, (heap_setCell_same _ _ _ _ _ _ hgw).trans rfl, (hown.chgv hcg (fun k hk e => by have := (hv2 k hk).1; omega)).mono (Nat.le_trans hgF.2 (Nat.le_of_lt hgl)), (hr.below hb).chg hcg (fun k hk e => (hrF k hk).2.1 e) (fun k hk e => (hSF k hk).2.1 e), ⟨.inl hgF.1, hgF.2⟩,
    fun k hk => ⟨.inr (hv2 k hk), by have := (hv2 k hk).1; omega⟩, fun k hk => ⟨.inl (hrF k hk).1, (hrF k hk).2.1, fun e => by have := (hv2 k e).1; have := (hF k (hrF k hk).1).2; omega⟩,
    fun k hk => ⟨.inl (hSF k hk).1, (hSF k hk).2.1, fun e => by have := (hv2 k e).1; have := (hF k (hSF k hk).1).2; omega⟩, fun k hk => ?_⟩, (Chg.of_below hb).setCell (p := ⟨g, 0, none⟩) (Or.inl hgF.1) _, fun k hk => hk.imp id (·.1)⟩
  have hz : (w2.setCell ⟨g, 0, none⟩ v2).heap.size = w2.heap.size := by simp
  rw [hz]
  rcases hk with hk | hk
  · exact ⟨(hF k hk).1, by have := (hF k hk).2; omega⟩
  · exact ⟨by omega, hk.2⟩

theorem putB_append (bs : List UInt8) (n size : Int) : putB bs n size = bs ++ putB [] n size := by
  unfold putB
  split <;> simp

set_option maxHeartbeats 400000 in
theorem rwnum_any (w : World) (B g : Nat) (F : Nat → Prop) (x : RW) (n size : Int) (h : RWtr w B F g x) (hx : x.b.length ≤ 1000000000) (hn : n ≤ 9223372036854775807) :
    Calls Try.prog 63 #[.pointer (some ⟨g, 0, none⟩), .int .i64 n, .int .i64 size] w (RetR w B F g (x.raw (putB [] n size)) (.tuple #[])) := by
  have H := Lib.hid h
  obtain ⟨bv, rv, S, hg, hb, _, hgF, hbF, _⟩ := h
  obtain ⟨A, c, rfl, hr, hl, _⟩ := hb.form
  have c0 : w.cell? ⟨g, 0, none⟩ = some (.slice A x.b.length c) := (cell_of_row _ _ _ _ _ _ hg).trans rfl
  have HG := Lib.hid hg
  have hgl := (H.out.F_lt g hgF.1).2
  clear hg hb
  go_enter Try.func63, Try.ntmps63
  go_wp2_with (go_at_call 113; refine (rput_any _ _ _ x.b n size _ hr (by omega) hn).mono ?_; rintro e w2 ⟨v2, rfl, hown2, hb2⟩; obtain ⟨A2, c2, rfl, _⟩ := hown2.form; have hgw := (hb2.block g hgl).trans HG.out; have d0 := (cell_of_row _ _ 0 _ _ _ hgw).trans rfl; have f0 : ∀ k, w2.frozen? ⟨g, k, none⟩ = false := fun k => frozen_of_row _ _ _ _ _ hgw)
  go_end0
  rw [putB_append x.b] at hown2 ⊢
  exact H.out.set_b hown2 hb2

set_option maxHeartbeats 400000 in
theorem rwraw_any (w : World) (B g : Nat) (F : Nat → Prop) (x : RW) (A1 : Option Addr) (n1 c1 : Nat) (bs : List UInt8) (h : RWtr w B F g x) (hbs : RdB w A1 n1 bs) (hx : x.b.length + n1 ≤ 1000000000) :
    Calls Try.prog 94 #[.pointer (some ⟨g, 0, none⟩), .slice A1 n1 c1] w (RetR w B F g (x.raw bs) (.tuple #[])) := by
  have hlb := hbs.len
  subst hlb
  have H := Lib.hid h
  obtain ⟨bv, rv, S, hg, hb, _, hgF, hbF, _⟩ := h
  obtain ⟨A, c, rfl, hr, hl, _⟩ := hb.form
  have c0 : w.cell? ⟨g, 0, none⟩ = some (.slice A x.b.length c) := (cell_of_row _ _ _ _ _ _ hg).trans rfl
  have HG := Lib.hid hg
  have hgl := (H.out.F_lt g hgF.1).2
  clear hg hb
  go_enter Try.func94, Try.ntmps94
  go_wp2_with (first
    | ((with_reducible show wpList _ _ _ (⟨some 10, _, _, _, _, _⟩ :: _) _ _); refine wpL_cloneB rfl (.tmp 5) (.tmp 9) rfl rfl A _ c x.b rfl hr (by omega) ?_; intro v2 w2 hown2 hb2)
    | ((with_reducible show wpList _ _ _ (⟨some 12, _, _, _, _, _⟩ :: _) _ _); refine wpL_appB rfl (.tmp 10) (.tmp 11) rfl w.heap.size v2 x.b rfl hown2 A1 _ c1 bs rfl (hbs.below hb2) (by omega) hb2.size ?_; intro v3 w3 hown3 hg3 hv3; obtain ⟨A3, c3, rfl, _⟩ := hown3.form; have hb3 : Below w.heap.size w w3 := hb2.grown hg3 hb2.size (fun j hj => (World.ownsRow.lt hown2 j hj).1); have hgw := (hb3.block g hgl).trans HG.out; have d0 := (cell_of_row _ _ 0 _ _ _ hgw).trans rfl; have f0 : ∀ k, w3.frozen? ⟨g, k, none⟩ = false := fun k => frozen_of_row _ _ _ _ _ hgw)
    | fail)
  go_end0
  rw [List.length_append] at hown3
  exact H.out.set_b hown3 hb3
end Go.Proofs.Ytimkdpkhdbiniaa

/- The reference's writer: find. -/
namespace Go.Proofs.Ytimkdpkhdbiniaa
open Go.RowKit
set_option maxRecDepth 100000

/-- The place of a rest, or -1. -/
def placeR (o : Option Nat) : Int := match o with
  | some p => (p : Int)
  | none => -1

theorem rests_at {S Si : Nat → Prop} {w : World} {A : Option Addr} {n : Nat} {rs : List (Nat × List (List UInt8))} (h : Els encRest S Si w A n rs) {k : Nat} {x : Nat × List (List UInt8)} (hx : rs[k]? = some x) :
    ∃ b off A' cx, A = some ⟨b, off, none⟩ ∧ w.cell? ⟨b, off + k * 2, none⟩ = some (.int .i64 (x.1 : Int)) ∧ w.cell? ⟨b, off + k * 2 + 1, none⟩ = some (.slice A' x.2.length cx) ∧ Els encS Si Si w A' x.2.length x.2 ∧ x.2.length ≤ cx ∧ cx ≤ maxLen := by
  obtain ⟨b, off, rfl, _, hat⟩ := Els.flat h (by rw [← h.len]; exact Nat.lt_of_le_of_lt (Nat.zero_le k) (List.getElem?_eq_some_iff.1 hx).1)
  obtain ⟨r, ⟨A', cx, rfl, he, h1, h2⟩, hc⟩ := hat k x hx
  exact ⟨b, off, A', cx, rfl, by simpa [encRest] using hc 0 _ rfl, by have := hc 1 _ rfl; rw [← Nat.add_assoc] at this; simpa [encRest] using this, he, h1, h2⟩

theorem findR_take_succ {rs : List (Nat × List (List UInt8))} {k : Nat} {x : Nat × List (List UInt8)} {n : List (List UInt8)} (hx : rs[k]? = some x) (hn : findR (rs.take k) n = none) : findR (rs.take (k + 1)) n = if x.2 = n then some x.1 else none := by
  rw [List.take_add_one, hx, findR_append, hn, Option.none_or]
  rfl
theorem findR_take_some {rs : List (Nat × List (List UInt8))} {k : Nat} {n : List (List UInt8)} {p : Nat} (h : findR (rs.take k) n = some p) : findR rs n = some p := by
  rw [← List.take_append_drop k rs, findR_append, h, Option.some_or]

set_option maxHeartbeats 1000000 in
theorem rwfind_any (w : World) (B g : Nat) (F : Nat → Prop) (x : RW) (A : Option Addr) (n c : Nat) (ns : List (List UInt8)) {So Si : Nat → Prop} (h : RWtr w B F g x) (hns : Els encS So Si w A n ns) (hn : n ≤ maxLen) (hxs : ∀ r ∈ x.rests, r.2.length ≤ maxLen) (hxl : x.rests.length ≤ 1000000000000) (hp : ∀ r ∈ x.rests, r.1 < 16384) :
    Calls Try.prog 114 #[.pointer (some ⟨g, 0, none⟩), .slice A n c] w (RetN (.int .i64 (placeR (findR x.rests ns))) w) := by
  obtain ⟨bv, rv, S, hg, _, hr, _⟩ := h
  obtain ⟨A1, c1, rfl, hel, hl1, _⟩ := hr.form
  have c0 : w.cell? ⟨g, 1, none⟩ = some (.slice A1 x.rests.length c1) := (cell_of_row _ _ _ _ _ _ hg).trans rfl
  clear hg hr
  go_enter Try.func114, Try.ntmps114
  go_wp2
  go_loopw [5] (fun i wr => ∃ k m : Nat, i = .int .i64 k ∧ k ≤ x.rests.length ∧ wr = w.drewN m ∧ Hid (findR (x.rests.take k) ns = none)) (fun i _ => x.rests.length - (intOf i).toNat)
  case atStart => exact ⟨0, 0, rfl, Nat.zero_le _, rfl, rfl⟩
  case round =>
    obtain ⟨k, m, rfl, hk, rfl, HF⟩ := hrel
    by_cases hlt : k < x.rests.length
    · obtain ⟨y, hy⟩ : ∃ y, x.rests[k]? = some y := ⟨_, List.getElem?_eq_getElem hlt⟩
      obtain ⟨b, off, A', cx, rfl, h0, h1, he, h2, h3⟩ := rests_at hel hy
      have hym : y ∈ x.rests := List.mem_of_getElem? hy
      have hyl := hxs y hym
      have hyp := hp y hym
      have HN := Lib.hid (findR_take_succ hy HF.out)
      have HS := Lib.hid (fun p (h : findR (x.rests.take (k + 1)) ns = some p) => findR_take_some h)
      clear hy hym
      have he' : Els encS S S (w.drewN m) A' y.2.length y.2 := he.keep (fun _ _ => rfl) (fun _ _ => rfl)
      have hns' : Els encS So Si (w.drewN m) A n ns := hns.keep (fun _ _ => rfl) (fun _ _ => rfl)
      by_cases e : y.2 = ns
      · have HE := Lib.hid e
        have HN' := Lib.hid (HS.out y.1 (by rw [HN.out, if_pos e]))
        clear e
        go_wp2_with (go_at_call 28; refine (rexact_any _ _ _ _ _ _ y.2 ns (w.drewN m) he' hns' hyl hn).mono ?_; rw [decide_eq_true HE.out]; rintro e w2 ⟨rfl, m2, rfl⟩)
        go_ret
        exact ⟨by rw [HN'.out]; rfl, m + m2, rfl⟩
      · have HE := Lib.hid e
        have HN' := Lib.hid (by rw [HN.out, if_neg e] : findR (x.rests.take (k + 1)) ns = none)
        clear e
        go_wp2_with (go_at_call 28; refine (rexact_any _ _ _ _ _ _ y.2 ns (w.drewN m) he' hns' hyl hn).mono ?_; rw [decide_eq_false HE.out]; rintro e w2 ⟨rfl, m2, rfl⟩)
        go_roundw
        case rel => exact ⟨k + 1, m + m2, by go_num, by omega, rfl, HN'⟩
        case measure => simp [intOf]; omega
    · have hke : k = x.rests.length := by omega
      have HF' : Hid (findR x.rests ns = none) := by
        have := HF.out
        rw [hke, List.take_length] at this
        exact this
      subst hke
      go_wp2
      go_ret
      exact ⟨by rw [HF'.out]; rfl, m, rfl⟩
end Go.Proofs.Ytimkdpkhdbiniaa
