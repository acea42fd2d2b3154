/- Parts of a proof, joined: WtrLaws, RWPlain, PutPlain, Clone1, RegInv, Strs2, OwnD, RrPlain, Get. -/
import Derived.Deep.AppendLies
import Derived.StillTail
import Derived.Test.YtbjaphldncagjaaG02
import Derived.Test.YtbjaphldncagjaaG03
import Derived.Test.YtbjaphldncagjaaG01
/- wname: what is written is read. No program in it. -/
namespace Go.Proofs.Ytbjaphldncagjaa

/-- A name stands at a place: what is behind it, and its labels. -/
inductive Stands (b : List UInt8) : Nat → Nat → Nat → List (List UInt8) → Prop
  | fin {beg p : Nat} (h : b[p]? = some 0) : Stands b beg p (p + 1) []
  | lab {beg p next : Nat} {l : List UInt8} {ls : List (List UInt8)} (c : UInt8) (h : b[p]? = some c) (h1 : 1 ≤ l.length) (h2 : l.length ≤ 63) (hc : c.toNat = l.length) (hl : (b.drop (p + 1)).take l.length = l) (hs : Stands b beg (p + 1 + l.length) next ls) : Stands b beg p next (l :: ls)
  | ptr {beg p q next : Nat} {ls : List (List UInt8)} (c d : UInt8) (h : b[p]? = some c) (hd : b[p + 1]? = some d) (hc : 192 ≤ c.toNat) (hq : (c.toNat * 256 + d.toNat) % 16384 = q) (hb : q < beg) (hn : next ≤ p + 2) (hs : Stands b q q next ls) : Stands b beg p (p + 2) ls

theorem Stands.lt {b : List UInt8} {beg p next : Nat} {ls : List (List UInt8)} (h : Stands b beg p next ls) : p < b.length := by
  cases h with
  | fin h => exact (List.getElem?_eq_some_iff.1 h).1
  | lab c h => exact (List.getElem?_eq_some_iff.1 h).1
  | ptr c d h => exact (List.getElem?_eq_some_iff.1 h).1

theorem get_ext {b : List UInt8} (y : List UInt8) {p : Nat} {c : UInt8} (h : b[p]? = some c) : (b ++ y)[p]? = some c := by
  rw [List.getElem?_append_left (List.getElem?_eq_some_iff.1 h).1, h]
theorem cut_ext {b l : List UInt8} (y : List UInt8) {p : Nat} (h1 : 1 ≤ l.length) (h : (b.drop p).take l.length = l) : ((b ++ y).drop p).take l.length = l := by
  have e := congrArg List.length h
  rw [List.length_take, List.length_drop] at e
  rw [List.drop_append_of_le_length (by omega), List.take_append_of_le_length (by rw [List.length_drop]; omega), h]
theorem Stands.ext {b : List UInt8} {beg p next : Nat} {ls : List (List UInt8)} (h : Stands b beg p next ls) (y : List UInt8) : Stands (b ++ y) beg p next ls := by
  induction h with
  | fin h => exact .fin (get_ext y h)
  | lab c h h1 h2 hc hl _ ih => exact .lab c (get_ext y h) h1 h2 hc (cut_ext y h1 hl) ih
  | ptr c d h hd hc hq hb hn _ ih => exact .ptr c d (get_ext y h) (get_ext y hd) hc hq hb hn ih
theorem Stands.beg_le {b : List UInt8} {beg beg' p next : Nat} {ls : List (List UInt8)} (h : Stands b beg p next ls) (hb : beg ≤ beg') : Stands b beg' p next ls := by
  induction h with
  | fin h => exact .fin h
  | lab c h h1 h2 hc hl _ ih => exact .lab c h h1 h2 hc hl (ih hb)
  | ptr c d h hd hc hq hb' hn hs => exact .ptr c d h hd hc hq (by omega) hn hs
theorem Stands.read {b : List UInt8} {beg p next : Nat} {ls : List (List UInt8)} (h : Stands b beg p next ls) : ∀ (nx : Nat) (acc : List (List UInt8)), sizeN (acc ++ ls) ≤ 255 → getP b p beg nx acc = (acc ++ ls, ((max nx next : Nat) : Int), 0) := by
  induction h with
  | fin h =>
    intro nx acc _
    rw [getP_end h rfl, List.append_nil]
  | @lab beg p next l ls c h h1 h2 hc hl hs ih =>
    intro nx acc hz
    have hlen := congrArg List.length hl
    rw [List.length_take, List.length_drop] at hlen
    have e : acc ++ l :: ls = (acc ++ [l]) ++ ls := by simp
    have e1 := sizeN_snoc acc l
    have e2 := sizeN_append (acc ++ [l]) ls
    have e3 := sizeN_length ls
    rw [e] at hz
    rw [getP_label h (by omega) (by omega) (by omega) (by omega), hc, hl, ih nx (acc ++ [l]) hz, ← e]
  | ptr c d h hd hc hq hb hn hs ih =>
    intro nx acc hz
    rw [getP_ptr h hc hd (by omega), hq, ih _ acc hz]
    congr 2
    omega

theorem ptr_bytes (p : Nat) (hp : p < 16384) : ((UInt8.ofNat (192 + p / 256)).toNat * 256 + (UInt8.ofNat (p % 256)).toNat) % 16384 = p ∧ 192 ≤ (UInt8.ofNat (192 + p / 256)).toNat := by
  simp only [UInt8.toNat_ofNat']
  omega
theorem restB_ne {l : List UInt8} {n : List (List UInt8)} (i : Nat) : restB (l :: n) ≠ restB (n.drop i) := by
  intro h
  have e := congrArg List.length h
  have h1 := restB_length (l :: n)
  have h2 := restB_length (n.drop i)
  have h3 := sizeN_append (n.take i) (n.drop i)
  rw [List.take_append_drop] at h3
  have h4 := sizeN_length (n.take i)
  simp only [sizeN] at h1
  omega

theorem lab_first {x : Wr} {l y : List UInt8} (hl : l.length ≤ 63) : ((x.label l).b ++ y)[x.b.length]? = some (UInt8.ofNat l.length) ∧ (UInt8.ofNat l.length).toNat = l.length ∧ (((x.label l).b ++ y).drop (x.b.length + 1)).take l.length = l ∧ (x.label l).b.length = x.b.length + 1 + l.length := by
  refine ⟨?_, by simp only [UInt8.toNat_ofNat']; omega, ?_, by simp [Wr.label, Wr.raw]; omega⟩
  · simp [Wr.label, Wr.raw]
  · have e : (x.label l).b ++ y = (x.b ++ [UInt8.ofNat l.length]) ++ (l ++ y) := by simp [Wr.label, Wr.raw]
    rw [e, List.drop_left' (by simp), List.take_left' rfl]
theorem label_note_b (x : Wr) (r l : List UInt8) : ((x.note r).label l).b = (x.label l).b := by simp [Wr.label, Wr.raw, Wr.note_b]

theorem Wr.name_stands (n : List (List UInt8)) (short : Bool) : ∀ (x : Wr) (beg : Nat), (∀ l ∈ n, 1 ≤ l.length ∧ l.length ≤ 63) → beg ≤ x.b.length →
    (∀ i, i < n.length → ∀ p, lookR x.rests (restB (n.drop i)) = some p → p < beg ∧ p < 16384 ∧ ∃ nx, nx ≤ beg ∧ Stands x.b p p nx (n.drop i)) →
    Stands (x.name n short).b beg x.b.length (x.name n short).b.length n ∧ ∀ r p, lookR (x.name n short).rests r = some p → lookR x.rests r = some p ∨ (p < 16384 ∧ ∃ i, i < n.length ∧ r = restB (n.drop i) ∧ Stands (x.name n short).b p p (x.name n short).b.length (n.drop i)) := by
  induction n with
  | nil =>
    intro x beg _ _ _
    refine ⟨?_, fun r p h => .inl h⟩
    have h : Stands (x.b ++ [0]) beg x.b.length (x.b.length + 1) [] := .fin (by simp)
    simpa [Wr.name, Wr.raw] using h
  | cons l n ih =>
    intro x beg hlab hbeg hold
    obtain ⟨hl1, hl2⟩ := hlab l (List.mem_cons_self ..)
    have hlab' : ∀ m ∈ n, 1 ≤ m.length ∧ m.length ≤ 63 := fun m hm => hlab m (List.mem_cons_of_mem _ hm)
    have h0 := hold 0 (by simp)
    rw [List.drop_zero] at h0
    have step : ∀ x' : Wr, x'.b = (x.label l).b → (∀ r p, lookR x'.rests r = some p → lookR x.rests r = some p ∨ (r = restB (l :: n) ∧ p = x.b.length ∧ p < 16384)) →
        Stands (x'.name n short).b beg x.b.length (x'.name n short).b.length (l :: n) ∧ ∀ r p, lookR (x'.name n short).rests r = some p → lookR x.rests r = some p ∨ (p < 16384 ∧ ∃ i, i < (l :: n).length ∧ r = restB ((l :: n).drop i) ∧ Stands (x'.name n short).b p p (x'.name n short).b.length ((l :: n).drop i)) := by
      intro x' hx' hr'
      have hlen : x'.b.length = x.b.length + 1 + l.length := by rw [hx']; exact (lab_first (x := x) (y := []) hl2).2.2.2
      obtain ⟨hs, hrs⟩ := ih x' beg hlab' (by omega) (fun i hi p hp => by
        rcases hr' _ _ hp with h | ⟨h, _⟩
        · obtain ⟨a1, a2, nx, a3, a4⟩ := hold (i + 1) (by simp; omega) p (by simpa using h)
          refine ⟨a1, a2, nx, a3, ?_⟩
          have := a4.ext (UInt8.ofNat l.length :: l)
          rw [hx']
          simpa [Wr.label, Wr.raw] using this
        · exact absurd h.symm (restB_ne i))
      obtain ⟨y, hy, _⟩ := Wr.name_b (x := x') n short
      obtain ⟨f1, f2, f3, f4⟩ := lab_first (x := x) (y := y) hl2
      have hst : Stands (x'.name n short).b beg x.b.length (x'.name n short).b.length (l :: n) := by
        refine .lab _ ?_ hl1 hl2 f2 ?_ ?_
        · rw [hy, hx']; exact f1
        · rw [hy, hx']; exact f3
        · rw [← hlen]; exact hs
      refine ⟨hst, fun r p hp => ?_⟩
      rcases hrs r p hp with h | ⟨h1, i, h2, h3, h4⟩
      · rcases hr' _ _ h with h | ⟨e1, e2, e3⟩
        · exact .inl h
        · exact .inr ⟨e3, 0, by simp, by simpa using e1, by subst e2; simpa using hst.beg_le hbeg⟩
      · exact .inr ⟨h1, i + 1, by simp; omega, by simpa using h3, by simpa using h4⟩
    unfold Wr.name
    split
    · rename_i p hp
      by_cases hsh : short = true
      · rw [if_pos hsh]
        obtain ⟨a1, a2, nx, a3, a4⟩ := h0 p hp
        obtain ⟨b1, b2⟩ := ptr_bytes p a2
        refine ⟨?_, fun r p h => .inl h⟩
        have h : Stands (x.b ++ ptrB p) beg x.b.length (x.b.length + 2) (l :: n) := .ptr _ _ (by simp [ptrB]) (by simp [ptrB]) b2 b1 a1 (by omega) (a4.ext _)
        simpa [Wr.raw, ptrB] using h
      · rw [if_neg hsh]
        exact step (x.label l) rfl (fun r p h => .inl h)
    · refine step ((x.note (restB (l :: n))).label l) (label_note_b x _ l) (fun r p h => ?_)
      by_cases hl : x.b.length < 16384
      · have e : ((x.note (restB (l :: n))).label l).rests = (restB (l :: n), x.b.length) :: x.rests := by
          unfold Wr.note
          rw [if_pos hl]
          rfl
        rw [e] at h
        simp only [lookR] at h
        split at h
        · rename_i he
          injection h with h
          exact .inr ⟨he.symm, h.symm, by omega⟩
        · exact .inl h
      · have e : ((x.note (restB (l :: n))).label l).rests = x.rests := by
          unfold Wr.note
          rw [if_neg hl]
          rfl
        rw [e] at h
        exact .inl h

/-- What a writer knows of rests is so. -/
def Wr.True (x : Wr) : Prop := ∀ r p, lookR x.rests r = some p → p < 16384 ∧ ∃ ls nx, r = restB ls ∧ (∀ l ∈ ls, 1 ≤ l.length ∧ l.length ≤ 63) ∧ nx ≤ x.b.length ∧ Stands x.b p p nx ls
theorem Wr.true_nil : Wr.nil.True := fun r p h => by cases h
theorem Wr.True.raw {x : Wr} (h : x.True) (bs : List UInt8) : (x.raw bs).True := fun r p hp => by
  obtain ⟨h1, ls, nx, h2, h3, h4, h5⟩ := h r p hp
  exact ⟨h1, ls, nx, h2, h3, by simp [Wr.raw]; omega, h5.ext bs⟩
theorem Wr.True.name {x : Wr} (h : x.True) {n : List (List UInt8)} (hn : ∀ l ∈ n, 1 ≤ l.length ∧ l.length ≤ 63) (short : Bool) :
    (x.name n short).True ∧ Stands (x.name n short).b x.b.length x.b.length (x.name n short).b.length n := by
  obtain ⟨hs, hr⟩ := Wr.name_stands n short x x.b.length hn (Nat.le_refl _) (fun i hi p hp => by
    obtain ⟨h1, ls, nx, h2, h3, h4, h5⟩ := h _ p hp
    have e : n.drop i = ls := restB_inj (fun l hl => by have := (hn l (List.mem_of_mem_drop hl)).2; omega) (fun l hl => by have := (h3 l hl).2; omega) h2
    rw [e]
    exact ⟨h5.lt, h1, nx, h4, h5⟩)
  refine ⟨fun r p hp => ?_, hs⟩
  obtain ⟨y, hy, _⟩ := Wr.name_b (x := x) n short
  rcases hr r p hp with h' | ⟨h1, i, h2, h3, h4⟩
  · obtain ⟨h1, ls, nx, h2, h3, h4, h5⟩ := h r p h'
    exact ⟨h1, ls, nx, h2, h3, by rw [hy, List.length_append]; omega, by rw [hy]; exact h5.ext y⟩
  · exact ⟨h1, n.drop i, _, h3, fun l hl => hn l (List.mem_of_mem_drop hl), Nat.le_refl _, h4⟩
theorem Wr.name_le {x : Wr} (n : List (List UInt8)) (short : Bool) : (x.name n short).b.length ≤ x.b.length + sizeN n := by
  induction n generalizing x with
  | nil => simp [Wr.name, Wr.raw, sizeN]
  | cons l n ih =>
    unfold Wr.name
    have h1 := sizeN_length n
    split
    · split
      · simp only [Wr.raw, ptrB, sizeN, List.length_append, List.length_cons, List.length_nil]; omega
      · have := ih (x := x.label l)
        simp only [Wr.label, Wr.raw, sizeN, List.length_append, List.length_cons] at this ⊢
        omega
    · have := ih (x := (x.note (restB (l :: n))).label l)
      simp only [Wr.label, Wr.raw, Wr.note_b, sizeN, List.length_append, List.length_cons] at this ⊢
      omega
theorem Wr.name_long {x : Wr} (n : List (List UInt8)) : (x.name n false).b.length = x.b.length + sizeN n := by
  induction n generalizing x with
  | nil => simp [Wr.name, Wr.raw, sizeN]
  | cons l n ih =>
    unfold Wr.name
    split
    · rw [if_neg (by decide), ih]
      simp only [Wr.label, Wr.raw, sizeN, List.length_append, List.length_cons]
      omega
    · rw [ih]
      simp only [Wr.label, Wr.raw, Wr.note_b, sizeN, List.length_append, List.length_cons]
      omega

/-- No rest of a name is known. -/
def Wr.Fresh (x : Wr) (n : List (List UInt8)) : Prop := ∀ i, i < n.length → lookR x.rests (restB (n.drop i)) = none
theorem Wr.name_fresh {x : Wr} (n : List (List UInt8)) (short : Bool) (h : x.Fresh n) : (x.name n short).b.length = x.b.length + sizeN n := by
  induction n generalizing x with
  | nil => simp [Wr.name, Wr.raw, sizeN]
  | cons l n ih =>
    have h0 := h 0 (by simp)
    rw [List.drop_zero] at h0
    unfold Wr.name
    rw [h0]
    have hf : ((x.note (restB (l :: n))).label l).Fresh n := fun i hi => by
      have h1 := h (i + 1) (by simp; omega)
      rw [List.drop_succ_cons] at h1
      show lookR (x.note _).rests _ = none
      unfold Wr.note
      split
      · simp only [lookR]
        rw [if_neg (restB_ne i), h1]
      · exact h1
    show (((x.note (restB (l :: n))).label l).name n short).b.length = _
    rw [ih hf]
    simp only [Wr.label, Wr.raw, Wr.note_b, sizeN, List.length_append, List.length_cons]
    omega
theorem Wr.name_keeps {x : Wr} (n : List (List UInt8)) (short : Bool) {r : List UInt8} (h : lookR x.rests r ≠ none) : lookR (x.name n short).rests r ≠ none := by
  induction n generalizing x with
  | nil => exact h
  | cons l n ih =>
    unfold Wr.name
    split
    · split
      · exact h
      · exact ih h
    · refine ih ?_
      show lookR (x.note _).rests r ≠ none
      unfold Wr.note
      split
      · simp only [lookR]
        split
        · simp
        · exact h
      · exact h
theorem Wr.name_far {x : Wr} (n : List (List UInt8)) (short : Bool) (h : 16384 ≤ x.b.length) : (x.name n short).rests = x.rests := by
  induction n generalizing x with
  | nil => rfl
  | cons l n ih =>
    have hn : ∀ r, x.note r = x := fun r => by unfold Wr.note; rw [if_neg (by omega)]
    have hl : 16384 ≤ (x.label l).b.length := by simp [Wr.label, Wr.raw]; omega
    unfold Wr.name
    split
    · split
      · rfl
      · rw [ih hl]; rfl
    · rw [hn, ih hl]; rfl
/-- Twice the same name behind k bytes. -/
theorem Wr.twice {x : Wr} (hx : x.rests = []) {n : List (List UInt8)} (hn : n ≠ []) :
    (x.name n true).b.length = x.b.length + sizeN n ∧ ((x.name n true).name n true).b.length = (x.name n true).b.length + (if x.b.length < 16384 then 2 else sizeN n) := by
  have hf : x.Fresh n := fun i _ => by rw [hx]; rfl
  refine ⟨Wr.name_fresh n true hf, ?_⟩
  by_cases h : x.b.length < 16384
  · rw [if_pos h]
    obtain ⟨l, n, rfl⟩ := List.exists_cons_of_ne_nil hn
    have h1 : lookR (x.name (l :: n) true).rests (restB (l :: n)) ≠ none := by
      have h0 := hf 0 (by simp)
      rw [List.drop_zero] at h0
      rw [Wr.name, h0]
      refine Wr.name_keeps n true ?_
      show lookR (x.note _).rests _ ≠ none
      unfold Wr.note
      rw [if_pos h]
      simp [lookR]
    generalize x.name (l :: n) true = y at h1
    rw [Wr.name]
    rcases hl : lookR y.rests (restB (l :: n)) with _ | p
    · exact absurd hl h1
    · simp [Wr.raw, ptrB]
  · rw [if_neg h]
    refine Wr.name_fresh n true fun i hi => ?_
    rw [Wr.name_far n true (by omega), hx]
    rfl
end Go.Proofs.Ytbjaphldncagjaa

/- wname: the reference's writer in plain words, and that the program's writes the same bytes. No program in it. -/
namespace Go.Proofs.Ytbjaphldncagjaa

/-- What was written, and where rests stand: the eldest one first. -/
structure RW where
  b : List UInt8
  rests : List (Nat × List (List UInt8))
def findR : List (Nat × List (List UInt8)) → List (List UInt8) → Option Nat
  | [], _ => none
  | (p, m) :: rs, n => if m = n then some p else findR rs n
def RW.nil : RW := ⟨[], []⟩
def RW.raw (x : RW) (bs : List UInt8) : RW := { x with b := x.b ++ bs }
def RW.label (x : RW) (l : List UInt8) : RW := x.raw (UInt8.ofNat l.length :: l)
def RW.note (x : RW) (n : List (List UInt8)) : RW := if x.b.length < 16384 then { x with rests := x.rests ++ [(x.b.length, n)] } else x
def RW.name : RW → List (List UInt8) → Bool → RW
  | x, [], _ => x.raw [0]
  | x, l :: n, short => match findR x.rests (l :: n) with
    | some p => if short = true then x.raw (ptrB p) else ((x.note (l :: n)).label l).name n short
    | none => ((x.note (l :: n)).label l).name n short

theorem findR_append (rs rs' : List (Nat × List (List UInt8))) (n : List (List UInt8)) : findR (rs ++ rs') n = (findR rs n).or (findR rs' n) := by
  induction rs with
  | nil => simp [findR]
  | cons r rs ih =>
    obtain ⟨p, m⟩ := r
    simp only [List.cons_append, findR]
    split
    · rfl
    · exact ih
def Small (n : List (List UInt8)) : Prop := ∀ l ∈ n, l.length < 256
theorem Small.tail {l : List UInt8} {n : List (List UInt8)} (h : Small (l :: n)) : Small n := fun x hx => h x (List.mem_cons_of_mem _ hx)
theorem small_of_sound {n : List (List UInt8)} (h : SoundN n) : Small n := fun l hl => by have := (h.1 l hl).2; omega

/-- Both know the same. -/
def Alike (x : Wr) (y : RW) : Prop := x.b = y.b ∧ (∀ n, Small n → lookR x.rests (restB n) = findR y.rests n) ∧ ∀ n p, findR y.rests n = some p → p < 16384
theorem alike_nil : Alike Wr.nil RW.nil := ⟨rfl, fun _ _ => rfl, fun _ _ h => by cases h⟩
theorem Alike.raw {x : Wr} {y : RW} (h : Alike x y) (bs : List UInt8) : Alike (x.raw bs) (y.raw bs) := ⟨by simp [Wr.raw, RW.raw, h.1], h.2⟩
theorem Alike.label {x : Wr} {y : RW} (h : Alike x y) (l : List UInt8) : Alike (x.label l) (y.label l) := h.raw _
theorem Alike.note_old {x : Wr} {y : RW} (h : Alike x y) {n : List (List UInt8)} (hf : findR y.rests n ≠ none) : Alike x (y.note n) := by
  unfold RW.note
  split
  · refine ⟨h.1, fun m hm => ?_, fun m p hp => ?_⟩
    · rw [findR_append, h.2.1 m hm]
      cases hfm : findR y.rests m with
      | some p => rfl
      | none =>
        simp only [findR, Option.none_or]
        rw [if_neg (fun e => hf (by rw [e]; exact hfm))]
    · rw [findR_append] at hp
      cases hfm : findR y.rests m with
      | some q => rw [hfm] at hp; exact h.2.2 m p (by rw [hfm]; exact hp)
      | none =>
        rw [hfm, Option.none_or] at hp
        simp only [findR] at hp
        rw [if_neg (fun e => hf (by rw [e]; exact hfm))] at hp
        cases hp
  · exact h
theorem Alike.note_new {x : Wr} {y : RW} (h : Alike x y) {n : List (List UInt8)} (hn : Small n) (hf : findR y.rests n = none) : Alike (x.note (restB n)) (y.note n) := by
  unfold RW.note Wr.note
  rw [h.1]
  split
  · rename_i hl
    refine ⟨rfl, fun m hm => ?_, fun m p hp => ?_⟩
    · rw [findR_append]
      simp only [lookR, findR]
      by_cases e : n = m
      · subst e
        rw [if_pos rfl, if_pos rfl, hf, Option.none_or]
      · rw [if_neg (fun e' => e (restB_inj hn hm e')), if_neg e, h.2.1 m hm]
        cases findR y.rests m <;> rfl
    · rw [findR_append] at hp
      cases hfm : findR y.rests m with
      | some q => rw [hfm] at hp; exact h.2.2 m p (by rw [hfm]; exact hp)
      | none =>
        rw [hfm, Option.none_or] at hp
        simp only [findR] at hp
        split at hp
        · injection hp with hp
          subst hp
          exact hl
        · cases hp
  · exact h
theorem Alike.name {n : List (List UInt8)} (hn : Small n) (short : Bool) {x : Wr} {y : RW} (h : Alike x y) : Alike (x.name n short) (y.name n short) := by
  induction n generalizing x y with
  | nil => exact h.raw _
  | cons l n ih =>
    have e := h.2.1 (l :: n) hn
    unfold Wr.name RW.name
    rw [e]
    cases hp : findR y.rests (l :: n) with
    | some p =>
      simp only
      split
      · exact h.raw _
      · exact ih hn.tail ((h.note_old (by rw [hp]; simp)).label l)
    | none => exact ih hn.tail ((h.note_new hn hp).label l)
theorem RW.note_b (x : RW) (n : List (List UInt8)) : (x.note n).b = x.b := by unfold RW.note; split <;> rfl
theorem RW.note_rests (x : RW) (n : List (List UInt8)) : (x.note n).rests.length ≤ x.rests.length + 1 := by unfold RW.note; split <;> simp
theorem RW.name_rests {x : RW} (n : List (List UInt8)) (short : Bool) : (x.name n short).rests.length ≤ x.rests.length + n.length := by
  induction n generalizing x with
  | nil => exact Nat.le_refl _
  | cons l n ih =>
    unfold RW.name
    have h1 := ih (x := (x.note (l :: n)).label l)
    have h2 := x.note_rests (l :: n)
    simp only [RW.label, RW.raw, List.length_cons] at h1 ⊢
    split
    · split
      · exact Nat.le_add_right _ _
      · omega
    · omega
end Go.Proofs.Ytbjaphldncagjaa

/- rdata: how data is written, in plain Lean; that both writers write the same. -/
namespace Go.Proofs.Ytbjaphldncagjaa

def Wr.texts (x : Wr) (ts : List (List UInt8)) : Wr := ts.foldl (fun y t => (y.raw (putB [] t.length 1)).raw t) x
def Wr.nums (x : Wr) (ns : List Int) (z : Int) : Wr := ns.foldl (fun y n => y.raw (putB [] n z)) x
def RW.texts (x : RW) (ts : List (List UInt8)) : RW := ts.foldl (fun y t => (y.raw (putB [] t.length 1)).raw t) x
def RW.nums (x : RW) (ns : List Int) (z : Int) : RW := ns.foldl (fun y n => y.raw (putB [] n z)) x
theorem Wr.texts_snoc (x : Wr) (ts : List (List UInt8)) (t : List UInt8) : x.texts (ts ++ [t]) = ((x.texts ts).raw (putB [] t.length 1)).raw t := by simp [Wr.texts, List.foldl_append]
theorem Wr.nums_snoc (x : Wr) (ns : List Int) (n z : Int) : x.nums (ns ++ [n]) z = (x.nums ns z).raw (putB [] n z) := by simp [Wr.nums, List.foldl_append]
theorem RW.texts_snoc (x : RW) (ts : List (List UInt8)) (t : List UInt8) : x.texts (ts ++ [t]) = ((x.texts ts).raw (putB [] t.length 1)).raw t := by simp [RW.texts, List.foldl_append]
theorem RW.nums_snoc (x : RW) (ns : List Int) (n z : Int) : x.nums (ns ++ [n]) z = (x.nums ns z).raw (putB [] n z) := by simp [RW.nums, List.foldl_append]
theorem Wr.raw_nil (x : Wr) : x.raw [] = x := by simp [Wr.raw]
theorem RW.raw_nil (x : RW) : x.raw [] = x := by simp [RW.raw]

/-- How a type's data is written. -/
def Wr.data (x : Wr) (s : Shp) (d : Da) : Wr :=
  let x1 := (x.raw d.bytes).texts d.texts
  let x2 := if s.first = true then x1.nums d.nums s.size else x1
  let x3 := if s.host = true then x2.name d.host s.short else x2
  let x4 := if s.mail = true then x3.name d.mail s.short else x3
  if s.first = true then x4 else x4.nums d.nums s.size
def RW.data (x : RW) (s : Shp) (d : Da) : RW :=
  let x1 := (x.raw d.bytes).texts d.texts
  let x2 := if s.first = true then x1.nums d.nums s.size else x1
  let x3 := if s.host = true then x2.name d.host s.short else x2
  let x4 := if s.mail = true then x3.name d.mail s.short else x3
  if s.first = true then x4 else x4.nums d.nums s.size

theorem Alike.texts {x : Wr} {y : RW} (h : Alike x y) (ts : List (List UInt8)) : Alike (x.texts ts) (y.texts ts) := by
  refine snoc_ind (P := fun ts => Alike (x.texts ts) (y.texts ts)) h (fun ts t ih => ?_) ts
  rw [Wr.texts_snoc, RW.texts_snoc]
  exact (ih.raw _).raw _
theorem Alike.nums {x : Wr} {y : RW} (h : Alike x y) (ns : List Int) (z : Int) : Alike (x.nums ns z) (y.nums ns z) := by
  refine snoc_ind (P := fun ns => Alike (x.nums ns z) (y.nums ns z)) h (fun ns n ih => ?_) ns
  rw [Wr.nums_snoc, RW.nums_snoc]
  exact ih.raw _
theorem Alike.data {x : Wr} {y : RW} (h : Alike x y) {s : Shp} {d : Da} (hf : FineS s d) : Alike (x.data s d) (y.data s d) := by
  obtain ⟨_, _, _, hh, hm, _, _⟩ := hf
  have h1 := (h.raw d.bytes).texts d.texts
  unfold Wr.data RW.data
  simp only
  have h2 : Alike (if s.first = true then ((x.raw d.bytes).texts d.texts).nums d.nums s.size else (x.raw d.bytes).texts d.texts) (if s.first = true then ((y.raw d.bytes).texts d.texts).nums d.nums s.size else (y.raw d.bytes).texts d.texts) := by
    split
    · exact h1.nums _ _
    · exact h1
  generalize (if s.first = true then ((x.raw d.bytes).texts d.texts).nums d.nums s.size else (x.raw d.bytes).texts d.texts) = x2 at h2 ⊢
  generalize (if s.first = true then ((y.raw d.bytes).texts d.texts).nums d.nums s.size else (y.raw d.bytes).texts d.texts) = y2 at h2 ⊢
  have h3 : Alike (if s.host = true then x2.name d.host s.short else x2) (if s.host = true then y2.name d.host s.short else y2) := by
    unfold hostP at hh
    split
    · rename_i e
      rw [if_pos e] at hh
      exact Alike.name (small_of_sound hh) s.short h2
    · exact h2
  generalize (if s.host = true then x2.name d.host s.short else x2) = x3 at h3 ⊢
  generalize (if s.host = true then y2.name d.host s.short else y2) = y3 at h3 ⊢
  have h4 : Alike (if s.mail = true then x3.name d.mail s.short else x3) (if s.mail = true then y3.name d.mail s.short else y3) := by
    unfold hostP at hm
    split
    · rename_i e
      rw [if_pos e] at hm
      exact Alike.name (small_of_sound hm) s.short h3
    · exact h3
  split
  · exact h4
  · exact h4.nums _ _

theorem putB_len (n z : Int) : (putB [] n z).length ≤ 7 := by
  unfold putB
  split
  · rename_i h
    have h' := fitsB_true h
    rw [List.nil_append, length_be]
    omega
  · simp
theorem Wr.nums_len (x : Wr) (ns : List Int) (z : Int) : (x.nums ns z).b.length ≤ x.b.length + 7 * ns.length ∧ (x.nums ns z).rests = x.rests := by
  refine snoc_ind (P := fun ns => (x.nums ns z).b.length ≤ x.b.length + 7 * ns.length ∧ (x.nums ns z).rests = x.rests) ⟨by simp [Wr.nums], rfl⟩ (fun ns n ih => ?_) ns
  rw [Wr.nums_snoc]
  have := putB_len n z
  refine ⟨?_, ih.2⟩
  simp only [Wr.raw, List.length_append, List.length_singleton]
  have := ih.1
  omega
theorem Wr.texts_len (x : Wr) (ts : List (List UInt8)) (k : Nat) (h : ∀ t ∈ ts, t.length ≤ k) : (x.texts ts).b.length ≤ x.b.length + (7 + k) * ts.length ∧ (x.texts ts).rests = x.rests := by
  revert h
  refine snoc_ind (P := fun ts => (∀ t ∈ ts, t.length ≤ k) → (x.texts ts).b.length ≤ x.b.length + (7 + k) * ts.length ∧ (x.texts ts).rests = x.rests) (fun _ => ⟨by simp [Wr.texts], rfl⟩) (fun ts t ih h => ?_) ts
  rw [Wr.texts_snoc]
  obtain ⟨h1, h2⟩ := ih (fun t ht => h t (List.mem_append_left _ ht))
  have := putB_len t.length 1
  have h3 := h t (List.mem_append_right _ (List.mem_singleton.2 rfl))
  refine ⟨?_, h2⟩
  simp only [Wr.raw, List.length_append, List.length_singleton, Nat.mul_add, Nat.mul_one]
  omega
theorem RW.nums_len (x : RW) (ns : List Int) (z : Int) : (x.nums ns z).b.length ≤ x.b.length + 7 * ns.length ∧ (x.nums ns z).rests = x.rests := by
  refine snoc_ind (P := fun ns => (x.nums ns z).b.length ≤ x.b.length + 7 * ns.length ∧ (x.nums ns z).rests = x.rests) ⟨by simp [RW.nums], rfl⟩ (fun ns n ih => ?_) ns
  rw [RW.nums_snoc]
  have := putB_len n z
  refine ⟨?_, ih.2⟩
  simp only [RW.raw, List.length_append, List.length_singleton]
  have := ih.1
  omega
theorem RW.texts_len (x : RW) (ts : List (List UInt8)) (k : Nat) (h : ∀ t ∈ ts, t.length ≤ k) : (x.texts ts).b.length ≤ x.b.length + (7 + k) * ts.length ∧ (x.texts ts).rests = x.rests := by
  revert h
  refine snoc_ind (P := fun ts => (∀ t ∈ ts, t.length ≤ k) → (x.texts ts).b.length ≤ x.b.length + (7 + k) * ts.length ∧ (x.texts ts).rests = x.rests) (fun _ => ⟨by simp [RW.texts], rfl⟩) (fun ts t ih h => ?_) ts
  rw [RW.texts_snoc]
  obtain ⟨h1, h2⟩ := ih (fun t ht => h t (List.mem_append_left _ ht))
  have := putB_len t.length 1
  have h3 := h t (List.mem_append_right _ (List.mem_singleton.2 rfl))
  refine ⟨?_, h2⟩
  simp only [RW.raw, List.length_append, List.length_singleton, Nat.mul_add, Nat.mul_one]
  omega
end Go.Proofs.Ytbjaphldncagjaa

/- append([]T{}, s...): the call on a row that is empty. No program in it. -/
namespace Go.Proofs.Ytbjaphldncagjaa
open Go.RowKit

theorem setRow_below {w : World} {b : Nat} {cs : Array Value} {e : TypeId} (h : w.heap[b]? = some (.cells cs e (0, 0))) : Below w.heap.size w (w.setRow b cs) :=
  ⟨rfl, rfl, rfl, by simp, fun k hk => by
    by_cases e : k = b
    · subst e; rw [setRow_heap _ _ _ _ _ _ h, h]
    · exact setRow_other w b k cs e⟩
theorem run_clone {P : Program} {w : World} {T e : TypeId} {i : TypeInfo} {z : Value} {bytes : Nat} (ty : TypeId) (hT : P.underlying T = some (.slice e)) (hi : P.info? e = some i) (hz : i.zero = some z) (hsz : i.size = 1) (hby : i.bytes = bytes) (hzc : z.cells.size = 1)
    {base b : Nat} (hbase : base ≤ b) (hb : w.heap[b]? = some (.cells #[] e (0, 0))) (A : Option Addr) (m c : Nat) (news : List Value) (hr : Rd w 1 A m news) (hone : ∀ u ∈ news, u.oneCell' = true) (hm : m ≤ maxLen) (hbt : m * bytes ≤ 140737488355328) :
    ∃ v' w', (Builtin.append_ #[T, T] ty #[.slice (some ⟨b, 0, none⟩) 0 0, .slice A m c]).run P w = .ok v' w' ∧ w'.ownsRow base e 1 v' m news ∧ Below w.heap.size w w' ∧ (news ≠ [] → ∀ k, v'.ownBlock = some k → w.heap.size ≤ k) := by
  have hbl : b < w.heap.size := (Array.getElem?_eq_some_iff.1 hb).1
  have hown : w.ownsRow base e 1 (.slice (some ⟨b, 0, none⟩) 0 0) 0 [] := ⟨rfl, .inr ⟨b, 0, #[], rfl, hbase, hb, Nat.le_refl _, Nat.zero_le _, rfl, rfl⟩⟩
  have hl := hr.1
  rw [Nat.mul_one] at hl
  by_cases h0 : m = 0
  · subst h0
    obtain rfl : news = [] := List.eq_nil_of_length_eq_zero hl
    rcases A with _ | a
    · have hrun : (Builtin.append_ #[T, T] ty #[.slice (some ⟨b, 0, none⟩) 0 0, .slice none 0 c]).run P w = .ok (.slice (some ⟨b, 0, none⟩) 0 0) w := by
        simp [Builtin.append_, run_underlying hT, sizeOf, typeInfo, hi, Builtin.lenOf, Builtin.firstCells, storeCells]
      exact ⟨_, _, hrun, hown, bl, fun h => absurd rfl h⟩
    · have hrun := run_append_room (P := P) w T ty e i hT hi b 0 0 #[] hb a 0 c [] (by simp) (by simp) (by simp) (by omega) (by simp)
      have e0 : (List.take (0 * i.size) (#[] : Array Value).toList ++ [] ++ List.drop (0 * i.size + ([] : List Value).length) (#[] : Array Value).toList).toArray = #[] := by simp
      rw [e0] at hrun
      refine ⟨_, _, hrun, ⟨rfl, .inr ⟨b, 0, #[], rfl, hbase, ?_, Nat.le_refl _, Nat.zero_le _, rfl, rfl⟩⟩, ?_, fun h => absurd rfl h⟩
      · exact setRow_heap w b #[] _ e _ hb
      · exact setRow_below hb
  · obtain ⟨b', off, rfl, hc⟩ := hr.2 (by omega)
    obtain ⟨v', w', hrun, h1, h2⟩ := run_append_arg_grows (P := P) (w := w) T ty e i z 1 bytes hT hi hz hsz hby hzc (by decide) ⟨b, 0, none⟩ 0 0 [] (by simp) (by simp) ⟨b', off, none⟩ m c news (by rw [hl, Nat.mul_one]) (fun j u hu => by rw [add_flat]; exact hc j u hu) (by omega) (by omega) (by rw [Nat.zero_add]; exact hbt)
    rw [Nat.zero_add, List.nil_append] at h1
    refine ⟨v', w', hrun, ⟨h1.1, ?_⟩, ⟨h2.os, h2.tape, h2.output, h2.size, fun k hk => h2.block k hk (by simp)⟩, fun _ k hk => (World.ownsRow.lt h1 k hk).1⟩
    rcases h1.2 with h | ⟨g, cap, cur, e1, h3, h4⟩
    · exact .inl h
    · exact .inr ⟨g, cap, cur, e1, by omega, h4⟩
end Go.Proofs.Ytbjaphldncagjaa

/- A region that draws its order, by what each operation leaves: whichever order, at the end each has left it. No program in it. -/
namespace Go.Proofs.Ytbjaphldncagjaa
open Go.RowKit

section
variable {P : Program} {ops : Array Oper} {Q : Exit → Act → World → Prop} {md : Region.Mode} {n : Nat}

/-- Each operation waits only for such as stand ahead of it in the text. -/
def backB (md : Region.Mode) (ops : Array Oper) : Bool := (List.range ops.size).all fun j => match ops[j]? with
  | some o => o.after.all fun e => !Region.binds md e || decide (e.on < j)
  | none => true
theorem backB_spec (h : backB md ops = true) {j : Nat} {o : Oper} (ho : ops[j]? = some o) : ∀ e ∈ o.after, Region.binds md e = true → e.on < j := by
  intro e he hb
  have hj : j < ops.size := (Array.getElem?_eq_some_iff.1 ho).1
  have h1 := List.all_eq_true.1 h j (List.mem_range.2 hj)
  simp only [ho] at h1
  have h2 := Array.all_eq_true_iff_forall_mem.1 h1 e he
  simp only [hb, Bool.not_true, Bool.false_or, decide_eq_true_eq] at h2
  exact h2

/-- How many have not come up. -/
def unl (N : Nat) (listed : Array Bool) : Nat := ((List.range N).filter fun j => !listed.getD j false).length
theorem filter_le (p q : Nat → Bool) (h : ∀ j, q j = true → p j = true) (N : Nat) : ((List.range N).filter q).length ≤ ((List.range N).filter p).length := by
  induction N with
  | zero => simp
  | succ N ih =>
    rw [List.range_succ, List.filter_append, List.filter_append, List.length_append, List.length_append]
    cases hq : q N <;> cases hp : p N <;> simp [List.filter, hq, hp]
    · omega
    · omega
    · rw [h N hq] at hp; cases hp
    · omega
theorem filter_lt (p q : Nat → Bool) (h : ∀ j, q j = true → p j = true) {i : Nat} (hp : p i = true) (hq : q i = false) : ∀ N, i < N → ((List.range N).filter q).length < ((List.range N).filter p).length := by
  intro N
  induction N with
  | zero => omega
  | succ N ih =>
    intro hi
    rw [List.range_succ, List.filter_append, List.filter_append, List.length_append, List.length_append]
    by_cases e : i = N
    · subst e
      have := filter_le p q h i
      simp [List.filter, hq, hp]
      omega
    · have h1 := ih (by omega)
      cases hq2 : q N <;> cases hp2 : p N <;> simp [List.filter, hq2, hp2]
      · omega
      · omega
      · rw [h N hq2] at hp2; cases hp2
      · omega
theorem unl_set {N i : Nat} {listed : Array Bool} (hi : i < N) (hs : listed.size = N) (hu : listed.getD i false = false) : unl N (listed.setIfInBounds i true) < unl N listed := by
  refine filter_lt _ _ (fun j hj => ?_) (i := i) (by simp only [hu, Bool.not_false]) ?_ N hi
  · by_cases e : i = j
    · subst e; simp only [hu, Bool.not_false]
    · rw [getD_set_ne false e] at hj; exact hj
  · have : (listed.setIfInBounds i true).getD i false = true := by simp [hs, hi]
    rw [this]; rfl
theorem unl_pos {N i : Nat} {listed : Array Bool} (hi : i < N) (hu : listed.getD i false = false) : 0 < unl N listed := by
  unfold unl
  rw [List.length_pos_iff]
  intro h
  have : i ∈ (List.range N).filter fun j => !listed.getD j false := List.mem_filter.2 ⟨List.mem_range.2 hi, by simp only [hu, Bool.not_false]⟩
  rw [h] at this
  cases this

/-- While one has not come up, one may. -/
theorem ready_ne (hb : backB md ops = true) {listed : Array Bool} (hs : listed.size = ops.size) : ∀ (i : Nat), i < ops.size → listed.getD i false = false → Region.ready md ops listed ≠ [] := by
  intro i
  induction i using Nat.strongRecOn with
  | _ i ih =>
    intro hi hu hr
    obtain ⟨o, ho⟩ : ∃ o, ops[i]? = some o := ⟨_, Array.getElem?_eq_getElem hi⟩
    by_cases hall : ∀ e ∈ o.after, Region.binds md e = true → listed.getD e.on false = true
    · have : i ∈ Region.ready md ops listed := mem_ready.2 ⟨getD_in (by omega) hu, o, ho, hall⟩
      rw [hr] at this
      cases this
    · simp only [Classical.not_forall] at hall
      obtain ⟨e, he, hbd, hno⟩ := hall
      have hlt := backB_spec hb ho e he hbd
      exact ih e.on hlt (by omega) (by simpa using hno) hr

/-- The frame but for what the operations leave. -/
structure Same (d : Nat → Tmp) (n : Nat) (a0 a : Act) : Prop where
  defers : a.defers = a0.defers
  size : a.tmps.size = a0.tmps.size
  other : ∀ t, (∀ j, j < n → d j ≠ t) → a.tmps[t]? = a0.tmps[t]?
theorem Same.put {d : Nat → Tmp} {n i : Nat} {a0 a : Act} (h : Same d n a0 a) (hi : i < n) (v : Value) : Same d n a0 (a.put (some (d i)) v) :=
  ⟨h.defers, by simp [Act.put, h.size], fun t ht => by
    show (a.tmps.setIfInBounds (d i) v)[t]? = _
    rw [Array.getElem?_setIfInBounds_ne (ht i hi)]
    exact h.other t ht⟩

theorem wpAny_inv {w0 : World} {a0 : Act} (hs : Region.sinkB md ops n = true) (hc : Region.chainB md ops n = true) (hn : n + 1 = ops.size) (hb : backB md ops = true)
    (d : Nat → Tmp) (hd : ∀ i, i < n → d i < a0.tmps.size) (hinj : ∀ i j, i < n → j < n → d i = d j → i = j)
    (Ψ : Nat → Value → World → Prop) (D : Nat → Nat → Value → Value → Prop) (hstab : ∀ j v w w', w0.heap.size ≤ w.heap.size → Below w.heap.size w w' → Ψ j v w → Ψ j v w')
    (hstep : ∀ i, i < n → ∀ a w, Below w0.heap.size w0 w → Same d n a0 a → (∀ j, Region.waitsFor md ops i j = true → ∃ v, a.tmps[d j]? = some v ∧ Ψ j v w) →
      (∀ i1 j1 v u, Region.waitsFor md ops i i1 = true → Region.waitsFor md ops i j1 = true → i1 ≠ j1 → a.tmps[d i1]? = some v → a.tmps[d j1]? = some u → D i1 j1 v u ∨ D j1 i1 u v) → wpOp P ops Q i (fun a' w' => ∃ v, a' = a.put (some (d i)) v ∧ Below w.heap.size w w' ∧ Ψ i v w' ∧ ∀ j u, j < n → Ψ j u w → D i j v u) a w)
    (hlast : ∀ a w, Below w0.heap.size w0 w → Same d n a0 a → (∀ j, j < n → ∃ v, a.tmps[d j]? = some v ∧ Ψ j v w) → (∀ i j v u, i < n → j < n → i ≠ j → a.tmps[d i]? = some v → a.tmps[d j]? = some u → D i j v u ∨ D j i u v) → wpOp P ops Q n (fun a' w' => Q .normal a' w') a w) :
    ∀ fuel listed a w, HeadInv md ops n listed → unl ops.size listed ≤ fuel → Below w0.heap.size w0 w → Same d n a0 a → (∀ j, j < n → listed.getD j false = true → ∃ v, a.tmps[d j]? = some v ∧ Ψ j v w) →
      (∀ i j v u, i < n → j < n → i ≠ j → listed.getD i false = true → listed.getD j false = true → a.tmps[d i]? = some v → a.tmps[d j]? = some u → D i j v u ∨ D j i u v) → wpAny P md ops Q fuel listed a w := by
  intro fuel
  induction fuel with
  | zero =>
    intro listed a w inv hf _ _ _ _
    have := unl_pos (N := ops.size) (i := n) (by omega) (getD_both (inv.tail n (Nat.le_refl _) (by omega)))
    omega
  | succ fuel ih =>
    intro listed a w inv hf hbw hsm hΨ hD
    refine ⟨fun h0 => absurd h0 (ready_ne hb inv.size n (by omega) (getD_both (inv.tail n (Nat.le_refl _) (by omega)))), fun i hi => ?_⟩
    obtain ⟨hun, oi, hoi, hall⟩ := mem_ready.1 hi
    have hilt : i < ops.size := (Array.getElem?_eq_some_iff.1 hoi).1
    have hback := backB_spec hb hoi
    have hwait : ∀ j, Region.waitsFor md ops i j = true → listed.getD j false = true ∧ j < i := fun j hj => by
      obtain ⟨o', ho', e, he, hbd, hon⟩ := Region.waitsFor_spec hj
      have : o' = oi := Option.some.inj (ho'.symm.trans hoi)
      subst this
      have h1 := hall e he hbd
      have h2 := hback e he hbd
      subst hon
      exact ⟨h1, h2⟩
    by_cases hin : i < n
    · refine wpOp_mono ?_ (hstep i hin a w hbw hsm (fun j hj => hΨ j (by have := (hwait j hj).2; omega) (hwait j hj).1) (fun i1 j1 v1 u1 h1 h2 hne hv1 hu1 => hD i1 j1 v1 u1 (by have := (hwait i1 h1).2; omega) (by have := (hwait j1 h2).2; omega) hne (hwait i1 h1).1 (hwait j1 h2).1 hv1 hu1))
      rintro a' w' ⟨v, rfl, hbb, hv, hDv⟩
      ·
        have hub := unl_set (N := ops.size) hilt inv.size (getD_both hun)
        refine ih (listed.setIfInBounds i true) _ w' (inv.set hi hin) (by omega) (hbw.trans (hbb.mono hbw.size)) (hsm.put hin v) (fun j hj hl => ?_) (fun i1 j1 v1 u1 hi1 hj1 hne hl1 hl2 hv1 hu1 => ?_)
        rotate_left
        · have hself : (a.put (some (d i)) v).tmps[d i]? = some v := by
            show (a.tmps.setIfInBounds (d i) v)[d i]? = some v
            rw [Array.getElem?_setIfInBounds_self_of_lt (by rw [hsm.size]; exact hd i hin)]
          have hoth : ∀ j, j < n → i ≠ j → (a.put (some (d i)) v).tmps[d j]? = a.tmps[d j]? := fun j hj e => by
            show (a.tmps.setIfInBounds (d i) v)[d j]? = _
            rw [Array.getElem?_setIfInBounds_ne (fun e2 => e (hinj i j hin hj e2))]
          by_cases e1 : i = i1
          · subst e1
            rw [hself] at hv1
            injection hv1 with hv1
            subst hv1
            rw [hoth j1 hj1 hne] at hu1
            rw [getD_set_ne false hne] at hl2
            obtain ⟨u', hu', hp'⟩ := hΨ j1 hj1 hl2
            rw [hu1] at hu'
            injection hu' with hu'
            subst hu'
            exact .inl (hDv j1 u1 hj1 hp')
          · rw [hoth i1 hi1 e1] at hv1
            rw [getD_set_ne false e1] at hl1
            by_cases e2 : i = j1
            · subst e2
              rw [hself] at hu1
              injection hu1 with hu1
              subst hu1
              obtain ⟨u', hu', hp'⟩ := hΨ i1 hi1 hl1
              rw [hv1] at hu'
              injection hu' with hu'
              subst hu'
              exact .inr (hDv i1 v1 hi1 hp')
            · rw [hoth j1 hj1 e2] at hu1
              rw [getD_set_ne false e2] at hl2
              exact hD i1 j1 v1 u1 hi1 hj1 hne hl1 hl2 hv1 hu1
        by_cases e : i = j
        · subst e
          exact ⟨v, by
            show (a.tmps.setIfInBounds (d i) v)[d i]? = some v
            rw [Array.getElem?_setIfInBounds_self_of_lt (by rw [hsm.size]; exact hd i hin)], hv⟩
        · rw [getD_set_ne false e] at hl
          obtain ⟨u, hu, hp⟩ := hΨ j hj hl
          exact ⟨u, by
            show (a.tmps.setIfInBounds (d i) v)[d j]? = some u
            rw [Array.getElem?_setIfInBounds_ne (fun e2 => e (hinj i j hin hj e2))]
            exact hu, hstab j u w w' hbw.size hbb hp⟩
    · obtain rfl : i = n := by omega
      have hdone : ∀ j, j < i → listed.getD j false = true := fun j hj => by
        cases h : listed.getD j false with
        | true => rfl
        | false => exact absurd hi (tail_waits hs hc (by omega) inv (i - j) j rfl hj (getD_in (by rw [inv.size]; omega) h) i (Nat.le_refl _))
      refine wpOp_mono ?_ (hlast a w hbw hsm (fun j hj => hΨ j hj (hdone j hj)) (fun i1 j1 v1 u1 hi1 hj1 hne hv1 hu1 => hD i1 j1 v1 u1 hi1 hj1 hne (hdone i1 hi1) (hdone j1 hj1) hv1 hu1))
      intro a' w' hq
      refine wpAny_done ?_ hq fuel
      refine List.eq_nil_iff_forall_not_mem.2 fun j hj => ?_
      obtain ⟨h0, o, ho, _⟩ := mem_ready.1 hj
      have hjl : j < ops.size := (Array.getElem?_eq_some_iff.1 ho).1
      by_cases e : i = j
      · subst e
        simp [inv.size, hjl] at h0
      · rw [getD_set_ne true e] at h0
        have := hdone j (by omega)
        rw [getD_both h0] at this
        cases this

/-- The region as a whole. -/
theorem wp_region_inv {id : Nat} {w0 : World} {a0 : Act} (hm : P.follows .mixedOrders = true) (hs : Region.sinkB .any ops n = true) (hc : Region.chainB .any ops n = true) (hn : n + 1 = ops.size) (hb : backB .any ops = true)
    (d : Nat → Tmp) (hd : ∀ i, i < n → d i < a0.tmps.size) (hinj : ∀ i j, i < n → j < n → d i = d j → i = j)
    (Ψ : Nat → Value → World → Prop) (D : Nat → Nat → Value → Value → Prop) (hstab : ∀ j v w w', w0.heap.size ≤ w.heap.size → Below w.heap.size w w' → Ψ j v w → Ψ j v w')
    (hstep : ∀ i, i < n → ∀ a w, Below w0.heap.size w0 w → Same d n a0 a → (∀ j, Region.waitsFor .any ops i j = true → ∃ v, a.tmps[d j]? = some v ∧ Ψ j v w) →
      (∀ i1 j1 v u, Region.waitsFor .any ops i i1 = true → Region.waitsFor .any ops i j1 = true → i1 ≠ j1 → a.tmps[d i1]? = some v → a.tmps[d j1]? = some u → D i1 j1 v u ∨ D j1 i1 u v) → wpOp P ops Q i (fun a' w' => ∃ v, a' = a.put (some (d i)) v ∧ Below w.heap.size w w' ∧ Ψ i v w' ∧ ∀ j u, j < n → Ψ j u w → D i j v u) a w)
    (hlast : ∀ a w, Below w0.heap.size w0 w → Same d n a0 a → (∀ j, j < n → ∃ v, a.tmps[d j]? = some v ∧ Ψ j v w) → (∀ i j v u, i < n → j < n → i ≠ j → a.tmps[d i]? = some v → a.tmps[d j]? = some u → D i j v u ∨ D j i u v) → wpOp P ops Q n (fun a' w' => Q .normal a' w') a w) :
    (Code.region id ops true).wp P Q a0 w0 := by
  refine wp_region_any hm ?_
  refine wpAny_inv hs hc hn hb d hd hinj Ψ D hstab hstep hlast ops.size _ a0 w0.drew ⟨by simp, fun j oj hj hl => ?_, fun t ht ht' => by simp [ht']⟩ ?_ bl.drew ⟨rfl, rfl, fun _ _ => rfl⟩ (fun j hj hl => ?_) (fun i j v u hi hj hne hl => ?_)
  · rw [getD_replicate_false] at hl; cases hl
  · have := List.length_filter_le (fun j => !(Array.replicate ops.size false).getD j false) (List.range ops.size)
    rw [List.length_range] at this
    exact this
  · rw [getD_replicate_false] at hl; cases hl
  · rw [getD_replicate_false] at hl; cases hl

theorem wpOp_plain {i : Nat} {o : Oper} {K : Act → World → Prop} {a : Act} {w : World} (hi : ops[i]? = some o) (hg : o.guard = none) (h : o.wp P a w K Q) : wpOp P ops Q i K a w := by
  unfold wpOp
  rw [hi]
  show if Region.wanted o (yielded ops a.tmps) = true then _ else _
  rw [if_pos (by simp [Region.wanted, hg])]
  exact .inl h
end
end Go.Proofs.Ytbjaphldncagjaa

/- append([]string{}, s...). -/
namespace Go.Proofs.Ytbjaphldncagjaa
open Go.RowKit

def strV (l : List UInt8) : Value := .string (bstr l)
theorem strs_rd {So Si : Nat → Prop} {w : World} {A : Option Addr} {n : Nat} {ns : List (List UInt8)} (h : Els encS So Si w A n ns) : Rd w 1 A n (ns.map strV) := by
  have hl := h.len
  refine ⟨by rw [List.length_map, hl, Nat.mul_one], fun hn => ?_⟩
  rw [List.length_map] at hn
  obtain ⟨l, hx⟩ : ∃ l, ns[0]? = some l := ⟨_, List.getElem?_eq_getElem hn⟩
  obtain ⟨b, off, rfl, _⟩ := strs_at h hx
  refine ⟨b, off, rfl, fun j u hu => ?_⟩
  rw [List.getElem?_map] at hu
  obtain ⟨y, hy, rfl⟩ := Option.map_eq_some_iff.1 hu
  obtain ⟨b', off', e, _, hc, _⟩ := strs_at h hy
  injection e with e
  injection e with e1 e2
  subst e1 e2
  exact hc
set_option maxRecDepth 100000 in
theorem wpL_cloneS {w : World} {So Si : Nat → Prop} {ops : Array Oper} {rest : List Oper} {o : Oper} {a : Act} {Q : Exit → Act → World → Prop} (hgd : Region.wanted o (yielded ops a.tmps) = true) (s x : Operand)
    (ho : o.op = .call { callee := .builtin .append, args := #[s, x], argTypes := #[40, 40] })
    {g : Nat} (hs : a.eval s = .slice (some ⟨g, 0, none⟩) 0 0) (A : Option Addr) (n c : Nat) (ns : List (List UInt8)) (hx : a.eval x = .slice A n c) (hr : Els encS So Si w A n ns) (hn : n ≤ 8796093022208)
    (h : ∀ v' w', OwnS w' w.heap.size v' ns → Below w.heap.size w w' → wpList Try.prog ops Q rest (a.put o.dst v') w') (hgs : g = w.heap.size := by simp) : wpList Try.prog ops Q (o :: rest) a (w.alloc (.cells #[] 9)) := by
  subst hgs
  obtain ⟨hT, i, z, hi, hz, hsz, hby, hzc⟩ := elS
  have hl := hr.len
  subst hl
  have hone : ∀ u ∈ ns.map strV, u.oneCell' = true := fun u hu => by
    obtain ⟨y, _, rfl⟩ := List.mem_map.1 hu
    rfl
  have hown0 : (w.alloc (.cells #[] 9)).ownsRow w.heap.size 9 1 (.slice (some ⟨w.heap.size, 0, none⟩) 0 0) 0 [] := World.ownsRow_lit (e := 9) (size := 1) w #[] 0 (Nat.le_refl _) (by simp) rfl
  refine wpList_want hgd fun K hK => ?_
  refine wp_append_any (P := Try.prog) s x _ ho w.heap.size 9 i z 1 16 hT hi hz hsz hby hzc (by decide) _ 0 [] hs hown0 A ns.length c (ns.map strV) hx ((strs_rd hr).below (bl.alloc (Nat.le_refl _) _)) hone (by unfold maxLen; omega) (by omega) (by simp) fun v' w' h1 h2 h3 => hK _ _ (h v' w' ?_ ?_)
  · rw [Nat.zero_add, List.nil_append] at h1
    refine ⟨ns.map strV, h1, fun j y hy => ?_, fun b hb => hb.elim⟩
    obtain ⟨_, _, _, _, _, hm⟩ := strs_at hr hy
    have hjl : j < ns.length := (List.getElem?_eq_some_iff.1 hy).1
    have e : List.take encS.size (List.drop (j * encS.size) (ns.map strV)) = [strV y] := by
      show List.take 1 (List.drop (j * 1) (ns.map strV)) = _
      rw [Nat.mul_one, List.drop_eq_getElem_cons (by rw [List.length_map]; exact hjl), List.take_succ_cons, List.take_zero, List.getElem_map]
      rw [List.getElem?_eq_getElem hjl] at hy
      injection hy with hy
      rw [hy]
    rw [e]
    exact ⟨rfl, hm⟩
  · exact (bl.alloc (Nat.le_refl _) _).grown h2 (by simp) (fun k hk => by simp [Value.ownBlock] at hk; omega)
end Go.Proofs.Ytbjaphldncagjaa

/- The reference's OwnData: data that shares nothing. -/
namespace Go.Proofs.Ytbjaphldncagjaa
open Go.RowKit
set_option maxRecDepth 100000

def intV (n : Int) : Value := .int .i64 n
def etyD (g : Nat) : TypeId := if g = 0 then 5 else if g = 3 then 3 else 9
def newsD (x : Da) (g : Nat) : List Value := if g = 0 then x.bytes.map bV else if g = 1 then x.host.map strV else if g = 2 then x.mail.map strV else if g = 3 then x.nums.map intV else x.texts.map strV
def srcD (s : DS) (x : Da) (g : Nat) : Value := if g = 0 then .slice s.A0 x.bytes.length s.c0 else if g = 1 then .slice s.A1 x.host.length s.c1 else if g = 2 then .slice s.A2 x.mail.length s.c2 else if g = 3 then .slice s.A3 x.nums.length s.c3 else .slice s.A4 x.texts.length s.c4
/-- A row is there, empty. -/
def psiA (B g : Nat) (v : Value) (w : World) : Prop := ∃ b, v = .slice (some ⟨b, 0, none⟩) 0 0 ∧ B ≤ b ∧ w.heap[b]? = some (.cells #[] (etyD g) (0, 0))
def psiC (x : Da) (B g : Nat) (v : Value) (w : World) : Prop := w.ownsRow B (etyD g) 1 v (newsD x g).length (newsD x g)
/-- Two rows that are not empty are not one. -/
def sepP (a b : List Value) (v u : Value) : Prop := ∀ k, v.ownBlock = some k → u.ownBlock = some k → a = [] ∨ b = []
def sepV (x : Da) (v0 v1 v2 v3 v4 : Value) : Prop :=
  sepP (newsD x 1) (newsD x 0) v1 v0 ∧ sepP (newsD x 1) (newsD x 2) v1 v2 ∧ sepP (newsD x 1) (newsD x 3) v1 v3 ∧ sepP (newsD x 1) (newsD x 4) v1 v4
/-- What operation j has left. -/
def psiD (s : DS) (x : Da) (q B j : Nat) (v : Value) (w : World) : Prop :=
  if j = 20 then ∃ v0 v1 v2 v3 v4, v = .agg #[v0, v1, v2, v3, v4] ∧ psiC x B 0 v0 w ∧ psiC x B 1 v1 w ∧ psiC x B 2 v2 w ∧ psiC x B 3 v3 w ∧ psiC x B 4 v4 w ∧ sepV x v0 v1 v2 v3 v4
  else if j % 4 = 0 then psiA B (j / 4) v w else if j % 4 = 1 then v = .pointer (some ⟨q, j / 4, none⟩) else if j % 4 = 2 then v = srcD s x (j / 4) else psiC x B (j / 4) v w
def dD (x : Da) (i j : Nat) (v u : Value) : Prop := i % 4 = 3 → j % 4 = 3 → i < 20 → j < 20 → ∀ k, v.ownBlock = some k → u.ownBlock = some k → newsD x (i / 4) = [] ∨ newsD x (j / 4) = []
theorem dD_sep {x : Da} {i j : Nat} {v u : Value} (hi : i < 5) (hj : j < 5) (h : dD x (4 * i + 3) (4 * j + 3) v u ∨ dD x (4 * j + 3) (4 * i + 3) u v) : sepP (newsD x i) (newsD x j) v u := by
  intro k hk hk2
  have e1 : (4 * i + 3) / 4 = i := by omega
  have e2 : (4 * j + 3) / 4 = j := by omega
  rcases h with h | h
  · have := h (by omega) (by omega) (by omega) (by omega) k hk hk2
    rwa [e1, e2] at this
  · have := h (by omega) (by omega) (by omega) (by omega) k hk2 hk
    rw [e1, e2] at this
    exact this.symm
theorem psiA.below {B g : Nat} {v : Value} {w w' : World} (h : psiA B g v w) (hb : Below w.heap.size w w') : psiA B g v w' := by
  obtain ⟨b, e, h1, h2⟩ := h
  exact ⟨b, e, h1, (hb.block b (Array.getElem?_eq_some_iff.1 h2).1).trans h2⟩
theorem ownsRow_below {w w' : World} {B size n : Nat} {e : TypeId} {v : Value} {xs : List Value} (h : w.ownsRow B e size v n xs) (hb : Below w.heap.size w w') : w'.ownsRow B e size v n xs := by
  refine ⟨h.1, ?_⟩
  rcases h.2 with h0 | ⟨g, cap, cur, e1, h2, h3, h4⟩
  · exact .inl h0
  · exact .inr ⟨g, cap, cur, e1, h2, (hb.block g (Array.getElem?_eq_some_iff.1 h3).1).trans h3, h4⟩
theorem psiC.below {x : Da} {B g : Nat} {v : Value} {w w' : World} (h : psiC x B g v w) (hb : Below w.heap.size w w') : psiC x B g v w' := ownsRow_below h hb
theorem psiC_form {x : Da} {B g n : Nat} {v : Value} {w : World} (h : psiC x B g v w) (hn : (newsD x g).length = n) : ∃ A c, v = .slice A n c ∧ n ≤ c ∧ c ≤ maxLen := by
  subst hn
  rcases h.2 with ⟨e, h0⟩ | ⟨g', cap, cur, e, _, _, h1, h2, _⟩
  · exact ⟨none, 0, by rw [e, h0], by rw [h0]; exact Nat.le_refl _, Nat.zero_le _⟩
  · exact ⟨_, cap, e, h1, h2⟩
theorem psiD.below {s : DS} {x : Da} {q B j : Nat} {v : Value} {w w' : World} (h : psiD s x q B j v w) (hb : Below w.heap.size w w') : psiD s x q B j v w' := by
  unfold psiD at *
  split at h
  · rename_i hj
    rw [if_pos hj]
    obtain ⟨v0, v1, v2, v3, v4, e, h0, h1, h2, h3, h4, h5⟩ := h
    exact ⟨v0, v1, v2, v3, v4, e, h0.below hb, h1.below hb, h2.below hb, h3.below hb, h4.below hb, h5⟩
  · rename_i hj
    rw [if_neg hj]
    split at h
    · rename_i hk; rw [if_pos hk]; exact h.below hb
    · rename_i hk
      rw [if_neg hk]
      split at h
      · rename_i hk2; rw [if_pos hk2]; exact h
      · rename_i hk2
        rw [if_neg hk2]
        split at h
        · rename_i hk3; rw [if_pos hk3]; exact h
        · rename_i hk3; rw [if_neg hk3]; exact h.below hb

theorem ints_rd {So Si : Nat → Prop} {w : World} {A : Option Addr} {n : Nat} {ns : List Int} (h : Els encI So Si w A n ns) : Rd w 1 A n (ns.map intV) := by
  have hl := h.len
  refine ⟨by rw [List.length_map, hl, Nat.mul_one], fun hn => ?_⟩
  rw [List.length_map] at hn
  obtain ⟨l, hx⟩ : ∃ l, ns[0]? = some l := ⟨_, List.getElem?_eq_getElem hn⟩
  obtain ⟨b, off, rfl, _⟩ := ints_at h hx
  refine ⟨b, off, rfl, fun j u hu => ?_⟩
  rw [List.getElem?_map] at hu
  obtain ⟨y, hy, rfl⟩ := Option.map_eq_some_iff.1 hu
  obtain ⟨b', off', e, _, hc, _⟩ := ints_at h hy
  injection e with e
  injection e with e1 e2
  subst e1 e2
  exact hc
theorem infoI : (Try.prog.info? 3).map (fun i => (i.zero, i.size, i.bytes)) = some (some (.int .i64 0), 1, 8) := by kernel_rfl
theorem infoS : (Try.prog.info? 9).map (fun i => (i.zero, i.size, i.bytes)) = some (some (.string ByteArray.empty), 1, 16) := by kernel_rfl

/-- A call's own copy: each slice a row of the call's own. -/
structure DOwn (w : World) (B : Nat) (s : DS) (x : Da) : Prop where
  b : OwnB w B (.slice s.A0 x.bytes.length s.c0) x.bytes
  h : OwnS w B (.slice s.A1 x.host.length s.c1) x.host
  m : OwnS w B (.slice s.A2 x.mail.length s.c2) x.mail
  n : OwnE encI 3 noS w B (.slice s.A3 x.nums.length s.c3) x.nums
  t : OwnS w B (.slice s.A4 x.texts.length s.c4) x.texts
  sep : sepV x (.slice s.A0 x.bytes.length s.c0) (.slice s.A1 x.host.length s.c1) (.slice s.A2 x.mail.length s.c2) (.slice s.A3 x.nums.length s.c3) (.slice s.A4 x.texts.length s.c4)

theorem strs_max {So Si : Nat → Prop} {w : World} {A : Option Addr} {n : Nat} {ns : List (List UInt8)} (h : Els encS So Si w A n ns) : ∀ l ∈ ns, l.length ≤ maxLen := fun l hl => by
  obtain ⟨i, hi⟩ := List.mem_iff_getElem?.1 hl
  obtain ⟨_, _, _, _, _, hm⟩ := strs_at h hi
  exact hm
theorem ints_max {So Si : Nat → Prop} {w : World} {A : Option Addr} {n : Nat} {ns : List Int} (h : Els encI So Si w A n ns) : ∀ l ∈ ns, -9223372036854775808 ≤ l ∧ l ≤ 9223372036854775807 := fun l hl => by
  obtain ⟨i, hi⟩ := List.mem_iff_getElem?.1 hl
  obtain ⟨_, _, _, _, _, hm⟩ := ints_at h hi
  exact hm
theorem flat_chunk {α : Type} {f : α → Value} {ns : List α} {j : Nat} {y : α} (hy : ns[j]? = some y) : List.take 1 (List.drop (j * 1) (ns.map f)) = [f y] := by
  have hjl : j < ns.length := (List.getElem?_eq_some_iff.1 hy).1
  rw [Nat.mul_one, List.drop_eq_getElem_cons (by rw [List.length_map]; exact hjl), List.take_succ_cons, List.take_zero, List.getElem_map]
  rw [List.getElem?_eq_getElem hjl] at hy
  injection hy with hy
  rw [hy]
theorem own_strs {w : World} {B : Nat} {v : Value} {ns : List (List UInt8)} (h : w.ownsRow B 9 1 v ns.length (ns.map strV)) (hm : ∀ l ∈ ns, l.length ≤ maxLen) : OwnS w B v ns :=
  ⟨ns.map strV, h, fun j y hy => by
    have e : List.take encS.size (List.drop (j * encS.size) (ns.map strV)) = [strV y] := flat_chunk hy
    rw [e]
    exact ⟨rfl, hm y (List.mem_of_getElem? hy)⟩, fun b hb => hb.elim⟩
theorem own_ints {w : World} {B : Nat} {v : Value} {ns : List Int} (h : w.ownsRow B 3 1 v ns.length (ns.map intV)) (hm : ∀ l ∈ ns, -9223372036854775808 ≤ l ∧ l ≤ 9223372036854775807) : OwnE encI 3 noS w B v ns :=
  ⟨ns.map intV, h, fun j y hy => by
    have e : List.take encI.size (List.drop (j * encI.size) (ns.map intV)) = [intV y] := flat_chunk hy
    rw [e]
    exact ⟨rfl, hm y (List.mem_of_getElem? hy)⟩, fun b hb => hb.elim⟩
theorem eval_tmp {a : Act} {t : Nat} {v : Value} (h : a.tmps[t]? = some v) : a.eval (.tmp t) = v := by
  show a.tmps.getD t undef = v
  rw [Array.getD_eq_getD_getElem?, h]
  rfl
set_option maxHeartbeats 4000000 in
theorem ownData_any (s : DS) (x : Da) (w : World) (hx : DRd w s x) (hbd : x.bytes.length ≤ 8796093022208 ∧ x.host.length ≤ 8796093022208 ∧ x.mail.length ≤ 8796093022208 ∧ x.nums.length ≤ 8796093022208 ∧ x.texts.length ≤ 8796093022208) :
    Calls Try.prog 53 #[dsV s x] w (RetP (fun v w' => ∃ s', v = dsV s' x ∧ DOwn w' w.heap.size s' x) w) := by
  unfold dsV
  obtain ⟨wa, hwa⟩ : ∃ wa, wa = w.alloc (.cells #[.slice s.A0 x.bytes.length s.c0, .slice s.A1 x.host.length s.c1, .slice s.A2 x.mail.length s.c2, .slice s.A3 x.nums.length s.c3, .slice s.A4 x.texts.length s.c4] 46) := ⟨_, rfl⟩
  obtain ⟨w0, hw0⟩ : ∃ w0, w0 = wa.alloc (.cells #[.slice none 0 0, .slice none 0 0, .slice none 0 0, .slice none 0 0, .slice none 0 0] 46) := ⟨_, rfl⟩
  have hba : Below w.heap.size w wa := by rw [hwa]; exact bl.alloc (Nat.le_refl _) _
  have hb0' : Below wa.heap.size wa w0 := by rw [hw0]; exact bl.alloc (Nat.le_refl _) _
  have hb0 := nx hba hb0'
  have hza : wa.heap.size = w.heap.size + 1 := by rw [hwa]; simp
  have BX : Hid (DBox w0 w.heap.size s x) := by show DBox _ _ _ _; exact (by rw [hwa]; exact DBox.made w s x _ : DBox wa w.heap.size s x).below hb0'
  have HD : Hid (w0.heap[w.heap.size + 1]? = some (.cells #[.slice none 0 0, .slice none 0 0, .slice none 0 0, .slice none 0 0, .slice none 0 0] 46 (0, 0))) := by
    show _ = _
    rw [hw0, ← hza]
    exact heap_alloc_new _ _
  have HX := Lib.hid hx
  go_enter Try.func53, Try.ntmps53
  go_upto_region 1 with (fail)
  rw [← hwa, ← hw0]
  clear hwa hw0 hx
  refine wp_region_inv (n := 21) (by kernel_rfl) (by kernel_rfl) (by kernel_rfl) rfl (by kernel_rfl) (fun i => i + 3) (fun i hi => by show i + 3 < 24; omega) (fun i j _ _ e => by have e' : i + 3 = j + 3 := e; omega) (psiD s x w.heap.size w0.heap.size) (dD x) (fun j v w1 w2 _ hb h => h.below hb) ?_ ?_
  · intro i hi a w1 hbw hsm hdep hsp
    have hq1 : a.tmps[1]? = some (.pointer (some ⟨w.heap.size, 0, none⟩)) := (hsm.other 1 (fun j _ e => by have e' : j + 3 = 1 := e; omega)).trans rfl
    have hbw' := nx hb0 hbw
    have hx := HX.out.below hbw'
    obtain ⟨b0, b1, b2, b3, b4⟩ := BX.out.below hbw
    have hcases : i = 0 ∨ i = 1 ∨ i = 2 ∨ i = 3 ∨ i = 4 ∨ i = 5 ∨ i = 6 ∨ i = 7 ∨ i = 8 ∨ i = 9 ∨ i = 10 ∨ i = 11 ∨ i = 12 ∨ i = 13 ∨ i = 14 ∨ i = 15 ∨ i = 16 ∨ i = 17 ∨ i = 18 ∨ i = 19 ∨ i = 20 := by omega
    rcases hcases with rfl | rfl | rfl | rfl | rfl | rfl | rfl | rfl | rfl | rfl | rfl | rfl | rfl | rfl | rfl | rfl | rfl | rfl | rfl | rfl | rfl
    · refine wpOp_plain rfl rfl ?_
      generalize hK : (fun (a' : Act) (w' : World) => _) = K
      go_simp
      rw [← hK]
      exact ⟨_, rfl, bl.alloc (Nat.le_refl _) _, ⟨w1.heap.size, rfl, hbw.size, heap_alloc_new _ _⟩, fun j u _ _ h => by cases h⟩
    · refine wpOp_plain rfl rfl ?_
      generalize hK : (fun (a' : Act) (w' : World) => _) = K
      unfold Oper.wp execOp
      simp [hq1, go_sem]
      rw [← hK]
      exact ⟨_, rfl, bl, rfl, fun j u _ _ h => by cases h⟩
    · refine wpOp_plain rfl rfl ?_
      generalize hK : (fun (a' : Act) (w' : World) => _) = K
      obtain ⟨v, hv, hp⟩ := hdep 1 (by kernel_rfl)
      have hp' : v = .pointer (some ⟨w.heap.size, 0, none⟩) := hp
      subst hp'
      unfold Oper.wp execOp
      simp [hv, go_sem, b0]
      rw [← hK]
      exact ⟨_, rfl, bl, rfl, fun j u _ _ h => by cases h⟩
    · refine wpOp_plain rfl rfl ?_
      generalize hK : (fun (a' : Act) (w' : World) => _) = K
      obtain ⟨v, hv, hp⟩ := hdep 0 (by kernel_rfl)
      obtain ⟨u, hu, hpu⟩ := hdep 2 (by kernel_rfl)
      have hp' : psiA w0.heap.size 0 v w1 := hp
      have hpu' : u = .slice s.A0 x.bytes.length s.c0 := hpu
      obtain ⟨b, rfl, hb1, hb2⟩ := hp'
      subst hpu'
      have e1 := eval_tmp hv
      have e2 := eval_tmp hu
      obtain ⟨i0, hi0, hz0, hs0, hy0⟩ := info_parts infoB
      obtain ⟨v', w', hrun, h1, h2, hfr⟩ := run_clone (P := Try.prog) (w := w1) 35 Try.underlying35 hi0 hz0 hs0 hy0 rfl hb1 hb2 s.A0 x.bytes.length s.c0 (x.bytes.map bV) (hx.b) (fun u hu => by obtain ⟨y, _, rfl⟩ := List.mem_map.1 hu; rfl) (by unfold maxLen; omega) (by omega)
      unfold Oper.wp execOp
      simp only [List.getElem_toArray, List.getElem_cons_succ, List.getElem_cons_zero, resolve, invoke, builtin, Sem.run_bind, Sem.run_pure, Result.andThen_ok, List.map_toArray, List.map_cons, List.map_nil, e1, e2, hrun]
      show K _ _
      rw [← hK]
      refine ⟨v', rfl, h2, ?_, fun j u _ hpj _ hj3 _ hj20 k hk1 hk2 => ?_⟩
      rotate_left
      · by_cases hne : newsD x 0 = []
        · exact .inl hne
        · have h3 := hfr hne k hk1
          have hp3 : psiC x w0.heap.size (j / 4) u w1 := by
            have := hpj
            unfold psiD at this
            rw [if_neg (by omega), if_neg (by omega), if_neg (by omega), if_neg (by omega)] at this
            exact this
          have h4 := (World.ownsRow.lt hp3 k hk2).2
          omega
      show w'.ownsRow w0.heap.size (etyD 0) 1 v' (newsD x 0).length (newsD x 0)
      have hn : newsD x 0 = x.bytes.map bV := rfl
      rw [hn, List.length_map]
      exact h1
    · refine wpOp_plain rfl rfl ?_
      generalize hK : (fun (a' : Act) (w' : World) => _) = K
      go_simp
      rw [← hK]
      exact ⟨_, rfl, bl.alloc (Nat.le_refl _) _, ⟨w1.heap.size, rfl, hbw.size, heap_alloc_new _ _⟩, fun j u _ _ h => by cases h⟩
    · refine wpOp_plain rfl rfl ?_
      generalize hK : (fun (a' : Act) (w' : World) => _) = K
      unfold Oper.wp execOp
      simp [hq1, go_sem]
      rw [← hK]
      exact ⟨_, rfl, bl, rfl, fun j u _ _ h => by cases h⟩
    · refine wpOp_plain rfl rfl ?_
      generalize hK : (fun (a' : Act) (w' : World) => _) = K
      obtain ⟨v, hv, hp⟩ := hdep 5 (by kernel_rfl)
      have hp' : v = .pointer (some ⟨w.heap.size, 1, none⟩) := hp
      subst hp'
      unfold Oper.wp execOp
      simp [hv, go_sem, b1]
      rw [← hK]
      exact ⟨_, rfl, bl, rfl, fun j u _ _ h => by cases h⟩
    · refine wpOp_plain rfl rfl ?_
      generalize hK : (fun (a' : Act) (w' : World) => _) = K
      obtain ⟨v, hv, hp⟩ := hdep 4 (by kernel_rfl)
      obtain ⟨u, hu, hpu⟩ := hdep 6 (by kernel_rfl)
      have hp' : psiA w0.heap.size 1 v w1 := hp
      have hpu' : u = .slice s.A1 x.host.length s.c1 := hpu
      obtain ⟨b, rfl, hb1, hb2⟩ := hp'
      subst hpu'
      have e1 := eval_tmp hv
      have e2 := eval_tmp hu
      obtain ⟨i0, hi0, hz0, hs0, hy0⟩ := info_parts infoS
      obtain ⟨v', w', hrun, h1, h2, hfr⟩ := run_clone (P := Try.prog) (w := w1) 40 Try.underlying40 hi0 hz0 hs0 hy0 rfl hb1 hb2 s.A1 x.host.length s.c1 (x.host.map strV) (strs_rd hx.h) (fun u hu => by obtain ⟨y, _, rfl⟩ := List.mem_map.1 hu; rfl) (by unfold maxLen; omega) (by omega)
      unfold Oper.wp execOp
      simp only [List.getElem_toArray, List.getElem_cons_succ, List.getElem_cons_zero, resolve, invoke, builtin, Sem.run_bind, Sem.run_pure, Result.andThen_ok, List.map_toArray, List.map_cons, List.map_nil, e1, e2, hrun]
      show K _ _
      rw [← hK]
      refine ⟨v', rfl, h2, ?_, fun j u _ hpj _ hj3 _ hj20 k hk1 hk2 => ?_⟩
      rotate_left
      · by_cases hne : newsD x 1 = []
        · exact .inl hne
        · have h3 := hfr hne k hk1
          have hp3 : psiC x w0.heap.size (j / 4) u w1 := by
            have := hpj
            unfold psiD at this
            rw [if_neg (by omega), if_neg (by omega), if_neg (by omega), if_neg (by omega)] at this
            exact this
          have h4 := (World.ownsRow.lt hp3 k hk2).2
          omega
      show w'.ownsRow w0.heap.size (etyD 1) 1 v' (newsD x 1).length (newsD x 1)
      have hn : newsD x 1 = x.host.map strV := rfl
      rw [hn, List.length_map]
      exact h1
    · refine wpOp_plain rfl rfl ?_
      generalize hK : (fun (a' : Act) (w' : World) => _) = K
      go_simp
      rw [← hK]
      exact ⟨_, rfl, bl.alloc (Nat.le_refl _) _, ⟨w1.heap.size, rfl, hbw.size, heap_alloc_new _ _⟩, fun j u _ _ h => by cases h⟩
    · refine wpOp_plain rfl rfl ?_
      generalize hK : (fun (a' : Act) (w' : World) => _) = K
      unfold Oper.wp execOp
      simp [hq1, go_sem]
      rw [← hK]
      exact ⟨_, rfl, bl, rfl, fun j u _ _ h => by cases h⟩
    · refine wpOp_plain rfl rfl ?_
      generalize hK : (fun (a' : Act) (w' : World) => _) = K
      obtain ⟨v, hv, hp⟩ := hdep 9 (by kernel_rfl)
      have hp' : v = .pointer (some ⟨w.heap.size, 2, none⟩) := hp
      subst hp'
      unfold Oper.wp execOp
      simp [hv, go_sem, b2]
      rw [← hK]
      exact ⟨_, rfl, bl, rfl, fun j u _ _ h => by cases h⟩
    · refine wpOp_plain rfl rfl ?_
      generalize hK : (fun (a' : Act) (w' : World) => _) = K
      obtain ⟨v, hv, hp⟩ := hdep 8 (by kernel_rfl)
      obtain ⟨u, hu, hpu⟩ := hdep 10 (by kernel_rfl)
      have hp' : psiA w0.heap.size 2 v w1 := hp
      have hpu' : u = .slice s.A2 x.mail.length s.c2 := hpu
      obtain ⟨b, rfl, hb1, hb2⟩ := hp'
      subst hpu'
      have e1 := eval_tmp hv
      have e2 := eval_tmp hu
      obtain ⟨i0, hi0, hz0, hs0, hy0⟩ := info_parts infoS
      obtain ⟨v', w', hrun, h1, h2, hfr⟩ := run_clone (P := Try.prog) (w := w1) 40 Try.underlying40 hi0 hz0 hs0 hy0 rfl hb1 hb2 s.A2 x.mail.length s.c2 (x.mail.map strV) (strs_rd hx.m) (fun u hu => by obtain ⟨y, _, rfl⟩ := List.mem_map.1 hu; rfl) (by unfold maxLen; omega) (by omega)
      unfold Oper.wp execOp
      simp only [List.getElem_toArray, List.getElem_cons_succ, List.getElem_cons_zero, resolve, invoke, builtin, Sem.run_bind, Sem.run_pure, Result.andThen_ok, List.map_toArray, List.map_cons, List.map_nil, e1, e2, hrun]
      show K _ _
      rw [← hK]
      refine ⟨v', rfl, h2, ?_, fun j u _ hpj _ hj3 _ hj20 k hk1 hk2 => ?_⟩
      rotate_left
      · by_cases hne : newsD x 2 = []
        · exact .inl hne
        · have h3 := hfr hne k hk1
          have hp3 : psiC x w0.heap.size (j / 4) u w1 := by
            have := hpj
            unfold psiD at this
            rw [if_neg (by omega), if_neg (by omega), if_neg (by omega), if_neg (by omega)] at this
            exact this
          have h4 := (World.ownsRow.lt hp3 k hk2).2
          omega
      show w'.ownsRow w0.heap.size (etyD 2) 1 v' (newsD x 2).length (newsD x 2)
      have hn : newsD x 2 = x.mail.map strV := rfl
      rw [hn, List.length_map]
      exact h1
    · refine wpOp_plain rfl rfl ?_
      generalize hK : (fun (a' : Act) (w' : World) => _) = K
      go_simp
      rw [← hK]
      exact ⟨_, rfl, bl.alloc (Nat.le_refl _) _, ⟨w1.heap.size, rfl, hbw.size, heap_alloc_new _ _⟩, fun j u _ _ h => by cases h⟩
    · refine wpOp_plain rfl rfl ?_
      generalize hK : (fun (a' : Act) (w' : World) => _) = K
      unfold Oper.wp execOp
      simp [hq1, go_sem]
      rw [← hK]
      exact ⟨_, rfl, bl, rfl, fun j u _ _ h => by cases h⟩
    · refine wpOp_plain rfl rfl ?_
      generalize hK : (fun (a' : Act) (w' : World) => _) = K
      obtain ⟨v, hv, hp⟩ := hdep 13 (by kernel_rfl)
      have hp' : v = .pointer (some ⟨w.heap.size, 3, none⟩) := hp
      subst hp'
      unfold Oper.wp execOp
      simp [hv, go_sem, b3]
      rw [← hK]
      exact ⟨_, rfl, bl, rfl, fun j u _ _ h => by cases h⟩
    · refine wpOp_plain rfl rfl ?_
      generalize hK : (fun (a' : Act) (w' : World) => _) = K
      obtain ⟨v, hv, hp⟩ := hdep 12 (by kernel_rfl)
      obtain ⟨u, hu, hpu⟩ := hdep 14 (by kernel_rfl)
      have hp' : psiA w0.heap.size 3 v w1 := hp
      have hpu' : u = .slice s.A3 x.nums.length s.c3 := hpu
      obtain ⟨b, rfl, hb1, hb2⟩ := hp'
      subst hpu'
      have e1 := eval_tmp hv
      have e2 := eval_tmp hu
      obtain ⟨i0, hi0, hz0, hs0, hy0⟩ := info_parts infoI
      obtain ⟨v', w', hrun, h1, h2, hfr⟩ := run_clone (P := Try.prog) (w := w1) 44 Try.underlying44 hi0 hz0 hs0 hy0 rfl hb1 hb2 s.A3 x.nums.length s.c3 (x.nums.map intV) (ints_rd hx.n) (fun u hu => by obtain ⟨y, _, rfl⟩ := List.mem_map.1 hu; rfl) (by unfold maxLen; omega) (by omega)
      unfold Oper.wp execOp
      simp only [List.getElem_toArray, List.getElem_cons_succ, List.getElem_cons_zero, resolve, invoke, builtin, Sem.run_bind, Sem.run_pure, Result.andThen_ok, List.map_toArray, List.map_cons, List.map_nil, e1, e2, hrun]
      show K _ _
      rw [← hK]
      refine ⟨v', rfl, h2, ?_, fun j u _ hpj _ hj3 _ hj20 k hk1 hk2 => ?_⟩
      rotate_left
      · by_cases hne : newsD x 3 = []
        · exact .inl hne
        · have h3 := hfr hne k hk1
          have hp3 : psiC x w0.heap.size (j / 4) u w1 := by
            have := hpj
            unfold psiD at this
            rw [if_neg (by omega), if_neg (by omega), if_neg (by omega), if_neg (by omega)] at this
            exact this
          have h4 := (World.ownsRow.lt hp3 k hk2).2
          omega
      show w'.ownsRow w0.heap.size (etyD 3) 1 v' (newsD x 3).length (newsD x 3)
      have hn : newsD x 3 = x.nums.map intV := rfl
      rw [hn, List.length_map]
      exact h1
    · refine wpOp_plain rfl rfl ?_
      generalize hK : (fun (a' : Act) (w' : World) => _) = K
      go_simp
      rw [← hK]
      exact ⟨_, rfl, bl.alloc (Nat.le_refl _) _, ⟨w1.heap.size, rfl, hbw.size, heap_alloc_new _ _⟩, fun j u _ _ h => by cases h⟩
    · refine wpOp_plain rfl rfl ?_
      generalize hK : (fun (a' : Act) (w' : World) => _) = K
      unfold Oper.wp execOp
      simp [hq1, go_sem]
      rw [← hK]
      exact ⟨_, rfl, bl, rfl, fun j u _ _ h => by cases h⟩
    · refine wpOp_plain rfl rfl ?_
      generalize hK : (fun (a' : Act) (w' : World) => _) = K
      obtain ⟨v, hv, hp⟩ := hdep 17 (by kernel_rfl)
      have hp' : v = .pointer (some ⟨w.heap.size, 4, none⟩) := hp
      subst hp'
      unfold Oper.wp execOp
      simp [hv, go_sem, b4]
      rw [← hK]
      exact ⟨_, rfl, bl, rfl, fun j u _ _ h => by cases h⟩
    · refine wpOp_plain rfl rfl ?_
      generalize hK : (fun (a' : Act) (w' : World) => _) = K
      obtain ⟨v, hv, hp⟩ := hdep 16 (by kernel_rfl)
      obtain ⟨u, hu, hpu⟩ := hdep 18 (by kernel_rfl)
      have hp' : psiA w0.heap.size 4 v w1 := hp
      have hpu' : u = .slice s.A4 x.texts.length s.c4 := hpu
      obtain ⟨b, rfl, hb1, hb2⟩ := hp'
      subst hpu'
      have e1 := eval_tmp hv
      have e2 := eval_tmp hu
      obtain ⟨i0, hi0, hz0, hs0, hy0⟩ := info_parts infoS
      obtain ⟨v', w', hrun, h1, h2, hfr⟩ := run_clone (P := Try.prog) (w := w1) 40 Try.underlying40 hi0 hz0 hs0 hy0 rfl hb1 hb2 s.A4 x.texts.length s.c4 (x.texts.map strV) (strs_rd hx.t) (fun u hu => by obtain ⟨y, _, rfl⟩ := List.mem_map.1 hu; rfl) (by unfold maxLen; omega) (by omega)
      unfold Oper.wp execOp
      simp only [List.getElem_toArray, List.getElem_cons_succ, List.getElem_cons_zero, resolve, invoke, builtin, Sem.run_bind, Sem.run_pure, Result.andThen_ok, List.map_toArray, List.map_cons, List.map_nil, e1, e2, hrun]
      show K _ _
      rw [← hK]
      refine ⟨v', rfl, h2, ?_, fun j u _ hpj _ hj3 _ hj20 k hk1 hk2 => ?_⟩
      rotate_left
      · by_cases hne : newsD x 4 = []
        · exact .inl hne
        · have h3 := hfr hne k hk1
          have hp3 : psiC x w0.heap.size (j / 4) u w1 := by
            have := hpj
            unfold psiD at this
            rw [if_neg (by omega), if_neg (by omega), if_neg (by omega), if_neg (by omega)] at this
            exact this
          have h4 := (World.ownsRow.lt hp3 k hk2).2
          omega
      show w'.ownsRow w0.heap.size (etyD 4) 1 v' (newsD x 4).length (newsD x 4)
      have hn : newsD x 4 = x.texts.map strV := rfl
      rw [hn, List.length_map]
      exact h1
    · refine wpOp_plain rfl rfl ?_
      generalize hK : (fun (a' : Act) (w' : World) => _) = K
      obtain ⟨v0, hv0, hp0⟩ := hdep 3 (by kernel_rfl)
      obtain ⟨v1, hv1, hp1⟩ := hdep 7 (by kernel_rfl)
      obtain ⟨v2, hv2, hp2⟩ := hdep 11 (by kernel_rfl)
      obtain ⟨v3, hv3, hp3⟩ := hdep 15 (by kernel_rfl)
      obtain ⟨v4, hv4, hp4⟩ := hdep 19 (by kernel_rfl)
      have hsv : sepV x v0 v1 v2 v3 v4 := ⟨dD_sep (by omega) (by omega) (hsp 7 3 v1 v0 (by kernel_rfl) (by kernel_rfl) (by omega) hv1 hv0), dD_sep (by omega) (by omega) (hsp 7 11 v1 v2 (by kernel_rfl) (by kernel_rfl) (by omega) hv1 hv2), dD_sep (by omega) (by omega) (hsp 7 15 v1 v3 (by kernel_rfl) (by kernel_rfl) (by omega) hv1 hv3), dD_sep (by omega) (by omega) (hsp 7 19 v1 v4 (by kernel_rfl) (by kernel_rfl) (by omega) hv1 hv4)⟩
      unfold Oper.wp execOp
      clear hdep
      obtain ⟨A0, k0, rfl, hl0⟩ := psiC_form (show psiC x w0.heap.size 0 v0 w1 from hp0) (show (newsD x 0).length = x.bytes.length from List.length_map _)
      obtain ⟨A1, k1, rfl, hl1⟩ := psiC_form (show psiC x w0.heap.size 1 v1 w1 from hp1) (show (newsD x 1).length = x.host.length from List.length_map _)
      obtain ⟨A2, k2, rfl, hl2⟩ := psiC_form (show psiC x w0.heap.size 2 v2 w1 from hp2) (show (newsD x 2).length = x.mail.length from List.length_map _)
      obtain ⟨A3, k3, rfl, hl3⟩ := psiC_form (show psiC x w0.heap.size 3 v3 w1 from hp3) (show (newsD x 3).length = x.nums.length from List.length_map _)
      obtain ⟨A4, k4, rfl, hl4⟩ := psiC_form (show psiC x w0.heap.size 4 v4 w1 from hp4) (show (newsD x 4).length = x.texts.length from List.length_map _)
      simp [hv0, hv1, hv2, hv3, hv4, go_sem]
      rw [← hK]
      exact ⟨_, rfl, bl, ⟨_, _, _, _, _, rfl, hp0, hp1, hp2, hp3, hp4, hsv⟩, fun j u _ _ h => by cases h⟩
  · intro a w1 hbw hsm hall _
    obtain ⟨u, hu, hp⟩ := hall 20 (by omega)
    clear hall
    have hp' : ∃ v0 v1 v2 v3 v4, u = .agg #[v0, v1, v2, v3, v4] ∧ psiC x w0.heap.size 0 v0 w1 ∧ psiC x w0.heap.size 1 v1 w1 ∧ psiC x w0.heap.size 2 v2 w1 ∧ psiC x w0.heap.size 3 v3 w1 ∧ psiC x w0.heap.size 4 v4 w1 ∧ sepV x v0 v1 v2 v3 v4 := hp
    obtain ⟨v0, v1, v2, v3, v4, rfl, h0, h1, h2, h3, h4, hsv⟩ := hp'
    obtain ⟨A0, k0, rfl, hl0⟩ := psiC_form h0 (show (newsD x 0).length = x.bytes.length from List.length_map _)
    obtain ⟨A1, k1, rfl, hl1⟩ := psiC_form h1 (show (newsD x 1).length = x.host.length from List.length_map _)
    obtain ⟨A2, k2, rfl, hl2⟩ := psiC_form h2 (show (newsD x 2).length = x.mail.length from List.length_map _)
    obtain ⟨A3, k3, rfl, hl3⟩ := psiC_form h3 (show (newsD x 3).length = x.nums.length from List.length_map _)
    obtain ⟨A4, k4, rfl, hl4⟩ := psiC_form h4 (show (newsD x 4).length = x.texts.length from List.length_map _)
    have hq2 : a.tmps[2]? = some (.pointer (some ⟨w.heap.size + 1, 0, none⟩)) := (hsm.other 2 (fun j _ e => by have e' : j + 3 = 2 := e; omega)).trans rfl
    have hd1 := (hbw.block _ (Array.getElem?_eq_some_iff.1 HD.out).1).trans HD.out
    have x0 : w1.cell? ⟨w.heap.size + 1, 0, none⟩ = some (.slice none 0 0) := (cell_of_row _ _ _ _ _ _ hd1).trans rfl
    have x1 : w1.cell? ⟨w.heap.size + 1, 1, none⟩ = some (.slice none 0 0) := (cell_of_row _ _ _ _ _ _ hd1).trans rfl
    have x2 : w1.cell? ⟨w.heap.size + 1, 2, none⟩ = some (.slice none 0 0) := (cell_of_row _ _ _ _ _ _ hd1).trans rfl
    have x3 : w1.cell? ⟨w.heap.size + 1, 3, none⟩ = some (.slice none 0 0) := (cell_of_row _ _ _ _ _ _ hd1).trans rfl
    have x4 : w1.cell? ⟨w.heap.size + 1, 4, none⟩ = some (.slice none 0 0) := (cell_of_row _ _ _ _ _ _ hd1).trans rfl
    have f1 : ∀ k, w1.frozen? ⟨w.heap.size + 1, k, none⟩ = false := fun k => frozen_of_row _ _ _ _ _ hd1
    refine wpOp_plain rfl rfl ?_
    unfold Oper.wp execOp
    have hu' : a.tmps[23]? = some (.agg #[.slice A0 x.bytes.length k0, .slice A1 x.host.length k1, .slice A2 x.mail.length k2, .slice A3 x.nums.length k3, .slice A4 x.texts.length k4]) := hu
    simp [hu', hq2, go_sem, x0, x1, x2, x3, x4, f1]
    obtain ⟨w2, hw2⟩ : ∃ w2, w2 = ((((w1.setCell ⟨w.heap.size + 1, 0, none⟩ (.slice A0 x.bytes.length k0)).setCell ⟨w.heap.size + 1, 1, none⟩ (.slice A1 x.host.length k1)).setCell ⟨w.heap.size + 1, 2, none⟩ (.slice A2 x.mail.length k2)).setCell ⟨w.heap.size + 1, 3, none⟩ (.slice A3 x.nums.length k3)).setCell ⟨w.heap.size + 1, 4, none⟩ (.slice A4 x.texts.length k4) := ⟨_, rfl⟩
    have hd2 : w2.heap[w.heap.size + 1]? = some (.cells #[.slice A0 x.bytes.length k0, .slice A1 x.host.length k1, .slice A2 x.mail.length k2, .slice A3 x.nums.length k3, .slice A4 x.texts.length k4] 46 (0, 0)) := by
      rw [hw2]
      exact (heap_setCell_same _ _ _ _ _ _ (heap_setCell_same _ _ _ _ _ _ (heap_setCell_same _ _ _ _ _ _ (heap_setCell_same _ _ _ _ _ _ (heap_setCell_same _ _ _ _ _ _ hd1))))).trans rfl
    have hc2 : Chg (fun k => k = w.heap.size + 1) w1 w2 := by
      rw [hw2]
      have h1 : ∀ {u : World} (j : Nat) (v : Value), Chg (fun k => k = w.heap.size + 1) w1 u → Chg (fun k => k = w.heap.size + 1) w1 (u.setCell ⟨w.heap.size + 1, j, none⟩ v) := fun j v h => h.setCell (p := ⟨w.heap.size + 1, j, none⟩) (Or.inl rfl) v
      exact h1 _ _ (h1 _ _ (h1 _ _ (h1 _ _ (h1 _ _ (Chg.refl _ w1)))))
    rw [← hw2]
    clear hw2 x0 x1 x2 x3 x4 hu' hp hu
    have hx : ∀ j : Nat, w2.cell? ⟨w.heap.size + 1, j, none⟩ = (#[.slice A0 x.bytes.length k0, .slice A1 x.host.length k1, .slice A2 x.mail.length k2, .slice A3 x.nums.length k3, .slice A4 x.texts.length k4] : Array Value)[j]? := fun j => cell_of_row _ _ _ _ _ _ hd2
    have x0 : w2.cell? ⟨w.heap.size + 1, 0, none⟩ = some (.slice A0 x.bytes.length k0) := hx 0
    have x1 : w2.cell? ⟨w.heap.size + 1, 1, none⟩ = some (.slice A1 x.host.length k1) := hx 1
    have x2 : w2.cell? ⟨w.heap.size + 1, 2, none⟩ = some (.slice A2 x.mail.length k2) := hx 2
    have x3 : w2.cell? ⟨w.heap.size + 1, 3, none⟩ = some (.slice A3 x.nums.length k3) := hx 3
    have x4 : w2.cell? ⟨w.heap.size + 1, 4, none⟩ = some (.slice A4 x.texts.length k4) := hx 4
    have hz0 : w.heap.size + 1 < w0.heap.size := (Array.getElem?_eq_some_iff.1 HD.out).1
    have hkeep : ∀ {e : TypeId} {v : Value} {n : Nat} {xs : List Value}, w1.ownsRow w0.heap.size e 1 v n xs → w2.ownsRow w.heap.size e 1 v n xs := fun {e v n xs} h => by
      refine ⟨h.1, ?_⟩
      rcases h.2 with h0 | ⟨g, cap, cur, e1, h2, h3, h4⟩
      · exact .inl h0
      · exact .inr ⟨g, cap, cur, e1, by omega, hc2.heap h3 (by omega), h4⟩
    have hbA : Below w.heap.size w w2 := nx hb0 hbw |>.trans (hc2.below (fun k hk => by omega) (by have := hbw.size; omega))
    have hX := HX.out
    go_wp2
    refine bodyPost_ret (v := dsV ⟨A0, A1, A2, A3, A4, k0, k1, k2, k3, k4⟩ x) ?_ hsm.defers ⟨_, rfl, ⟨_, rfl, ⟨?_, ?_, ?_, ?_, ?_, hsv⟩⟩, hbA⟩
    · simp [results, Try.results53, go_sem, hq2, x0, x1, x2, x3, x4]
      rfl
    · have := hkeep h0
      rw [show (newsD x 0).length = x.bytes.length from List.length_map _] at this
      exact this
    · have := hkeep h1
      rw [show (newsD x 1).length = x.host.length from List.length_map _] at this
      exact own_strs this (strs_max hX.h)
    · have := hkeep h2
      rw [show (newsD x 2).length = x.mail.length from List.length_map _] at this
      exact own_strs this (strs_max hX.m)
    · have := hkeep h3
      rw [show (newsD x 3).length = x.nums.length from List.length_map _] at this
      exact own_ints this (ints_max hX.n)
    · have := hkeep h4
      rw [show (newsD x 4).length = x.texts.length from List.length_map _] at this
      exact own_strs this (strs_max hX.t)
end Go.Proofs.Ytbjaphldncagjaa

/- rr: records, in plain Lean; what stands at a place. -/
namespace Go.Proofs.Ytbjaphldncagjaa

structure RR where
  name : List (List UInt8)
  type : Int
  cls : Int
  ttl : Int
  data : Da
def RR.zero : RR := ⟨[], 0, 0, 0, Da.zero⟩
/-- A number of bytes at a place. -/
def numA (b : List UInt8) (p k : Nat) : Nat := val ((b.drop p).take k)
def ttlA (b : List UInt8) (p : Nat) : Int := if 2147483648 ≤ numA b (p + 4) 4 then 0 else (numA b (p + 4) 4 : Int)
/-- Behind the name. -/
def getRR1 (b : List UInt8) (ls : List (List UInt8)) (p : Nat) : RR × Int × Int :=
  if b.length < p + 10 then (RR.zero, 0, 3)
  else if numA b p 2 = 0 then (RR.zero, 0, 2)
  else if (getD b ((p + 10 : Nat) : Int) (numA b (p + 8) 2 : Int) (numA b p 2 : Int)).2 ≠ 0 then (RR.zero, 0, (getD b ((p + 10 : Nat) : Int) (numA b (p + 8) 2 : Int) (numA b p 2 : Int)).2)
  else (⟨ls, (numA b p 2 : Int), (numA b (p + 2) 2 : Int), ttlA b p, (getD b ((p + 10 : Nat) : Int) (numA b (p + 8) 2 : Int) (numA b p 2 : Int)).1⟩, ((p + 10 + numA b (p + 8) 2 : Nat) : Int), 0)
/-- The name at a place, as the program reads it. -/
def nameA (b : List UInt8) (a : Int) : List (List UInt8) × Int × Int := if a < 0 then ([], 0, 1) else getP b a.toNat a.toNat 0 []
/-- The record at a place, the place behind it, and the error. -/
def getRR (b : List UInt8) (a : Int) : RR × Int × Int :=
  if (nameA b a).2.2 ≠ 0 then (RR.zero, 0, (nameA b a).2.2) else getRR1 b (nameA b a).1 (nameA b a).2.1.toNat

theorem numA_get {b : List UInt8} {p k : Nat} (h : p + k ≤ b.length) (h1 : 1 ≤ k) (h7 : k ≤ 7) : getN b (p : Int) (k : Int) = ((numA b p k : Int), 0) := by
  unfold getN numA
  rw [if_neg (by omega), if_neg (by omega)]
  simp
theorem numA_lt {b : List UInt8} {p k : Nat} : numA b p k < 256 ^ k := by
  have h := val_lt ((b.drop p).take k)
  have h2 : 256 ^ ((b.drop p).take k).length ≤ 256 ^ k := Nat.pow_le_pow_right (by decide) (by rw [List.length_take]; omega)
  exact Nat.lt_of_lt_of_le h h2
theorem numA_2 {b : List UInt8} {p : Nat} : numA b p 2 < 65536 := numA_lt (k := 2)
theorem numA_4 {b : List UInt8} {p : Nat} : numA b p 4 < 4294967296 := numA_lt (k := 4)
theorem getP_le (b : List UInt8) (a g n : Nat) (ls : List (List UInt8)) (h : (getP b a g n ls).2.2 = 0) (hn : n ≤ b.length) : (getP b a g n ls).2.1 ≤ (b.length : Int) := by
  fun_induction getP b a g n ls with
  | case1 => simp at h
  | case2 at_ beg nx ls c hc h0 =>
    have := (List.getElem?_eq_some_iff.1 hc).1
    simp only
    omega
  | case3 => simp at h
  | case4 at_ beg nx ls c hc h0 h1 d hd hb ih =>
    have := (List.getElem?_eq_some_iff.1 hd).1
    exact ih h (by omega)
  | case5 => simp at h
  | case6 => simp at h
  | case7 => simp at h
  | case8 => simp at h
  | case9 at_ beg nx ls c hc h0 h1 h2 h3 h4 ih => exact ih h hn
theorem nameA_nn (b : List UInt8) (a : Int) : 0 ≤ (nameA b a).2.1 := by
  unfold nameA
  split
  · simp
  · exact getP_nn _ _ _ _ _
theorem nameA_le (b : List UInt8) (a : Int) (h : (nameA b a).2.2 = 0) : (nameA b a).2.1 ≤ (b.length : Int) := by
  unfold nameA at h ⊢
  split
  · rename_i h0
    rw [if_pos h0] at h
    cases h
  · rename_i h0
    rw [if_neg h0] at h
    exact getP_le _ _ _ _ _ h (Nat.zero_le _)
end Go.Proofs.Ytbjaphldncagjaa

/- num.Get and the reference's: the number at a place. -/
namespace Go.Proofs.Ytbjaphldncagjaa
open Go.RowKit

def RetG (r : Int × Int) (w : World) (e : Ending) (w' : World) : Prop := e = .returned (.tuple #[.int .i64 r.1, .int .i64 r.2]) ∧ w = w'

set_option maxHeartbeats 400000 in
theorem get_any (A : Option Addr) (m c : Nat) (bs : List UInt8) (p size : Int) (w : World) (hb : RdB w A m bs) (hm : m ≤ c) (hc : m ≤ 140737488355328) :
    Calls Try.prog 118 #[.slice A m c, .int .i64 p, .int .i64 size] w (RetG (getN bs p size) w) := by
  have hlb := Lib.hid hb.len
  by_cases h1 : size < 1 ∨ 7 < size ∨ p < 0
  · have hr : Hid (getN bs p size = (0, 1)) := by unfold getN; rw [if_pos h1]; rfl
    by_cases g1 : size < 1
    · clear h1
      go_enter Try.func118, Try.ntmps118
      go_wp2
      go_ret2
      exact ⟨by rw [hr.out]; rfl, rfl⟩
    · by_cases g2 : 7 < size
      · clear h1
        go_enter Try.func118, Try.ntmps118
        go_wp2
        go_ret2
        exact ⟨by rw [hr.out]; rfl, rfl⟩
      · have g3 : p < 0 := by omega
        clear h1
        go_enter Try.func118, Try.ntmps118
        go_wp2
        go_ret2
        exact ⟨by rw [hr.out]; rfl, rfl⟩
  · have g1 : 1 ≤ size := by omega
    have g2 : size ≤ 7 := by omega
    have g3 : 0 ≤ p := by omega
    obtain ⟨z, rfl⟩ := Int.eq_ofNat_of_zero_le (Int.le_trans (by decide) g1)
    obtain ⟨q, rfl⟩ := Int.eq_ofNat_of_zero_le g3
    by_cases h2 : m < q
    · have hr : Hid (getN bs q z = (0, 3)) := by unfold getN; rw [if_neg h1, if_pos (by rw [hlb.out]; omega)]; rfl
      clear h1
      go_enter Try.func118, Try.ntmps118
      go_wp2
      go_ret2
      exact ⟨by rw [hr.out]; rfl, rfl⟩
    · by_cases h3 : m - q < z
      · have hr : Hid (getN bs q z = (0, 3)) := by unfold getN; rw [if_neg h1, if_pos (by rw [hlb.out]; omega)]; rfl
        clear h1
        have h4 : (m : Int) - q < z := by omega
        go_enter Try.func118, Try.ntmps118
        go_wp2
        go_ret2
        exact ⟨by rw [hr.out]; rfl, rfl⟩
      · have hr : Hid (getN bs q z = ((val ((bs.drop q).take z) : Int), 0)) := by unfold getN; rw [if_neg h1, if_neg (by rw [hlb.out]; omega)]; rfl
        clear h1
        have h4 : ¬ (m : Int) - q < z := by omega
        obtain ⟨b, off, rfl, hcell⟩ := hb.flat (by omega)
        have HC := Lib.hid hcell
        clear hcell
        obtain ⟨seg, hseg⟩ : ∃ seg, seg = (bs.drop q).take z := ⟨_, rfl⟩
        rw [← hseg] at hr
        have hsl : Hid (seg.length = z) := by rw [hseg]; show _ = _; rw [List.length_take, List.length_drop, hlb.out]; omega
        have HS := Lib.hid hseg
        clear hseg
        go_enter Try.func118, Try.ntmps118
        go_wp2
        go_loop [8, 10, 42] (fun nn _ i => ∃ k : Nat, k ≤ z ∧ i = .int .i64 k ∧ nn = .int .i64 (val (seg.take k) : Int)) (fun _ _ i => z - (intOf i).toNat)
        case atStart => exact ⟨0, Nat.zero_le _, rfl, rfl⟩
        case round =>
          obtain ⟨k, hk, rfl, rfl⟩ := hrel
          by_cases hlt : k < z
          · obtain ⟨x, hx⟩ : ∃ x, seg[k]? = some x := ⟨_, List.getElem?_eq_getElem (by rw [hsl.out]; exact hlt)⟩
            have hxb : bs[q + k]? = some x := by
              have h := hx
              rw [HS.out, List.getElem?_take, if_pos hlt, List.getElem?_drop] at h
              exact h
            have hc1 := HC.out _ _ hxb
            rw [← Nat.add_assoc] at hc1
            have hv := val_lt_of (l := seg.take k) (k := 6) (by rw [List.length_take]; omega)
            rw [pow256_6] at hv
            have HV := Lib.hid (val_take seg k x hx)
            clear hx hxb
            obtain ⟨v, hv'⟩ : ∃ v, v = val (seg.take k) := ⟨_, rfl⟩
            rw [← hv'] at hv HV ⊢
            clear hv'
            have hx8 := x.toNat_lt
            go_wp2
            go_round
            case rel => exact ⟨k + 1, by omega, by go_num, by rw [or_byte _ _ hv hx8, HV.out]⟩
            case measure => simp [intOf]; omega
          · go_wp2
            go_ret2
            refine ⟨?_, rfl⟩
            obtain rfl : k = z := by omega
            rw [hr.out, List.take_of_length_le (by rw [hsl.out]; omega)]
            rfl
end Go.Proofs.Ytbjaphldncagjaa
