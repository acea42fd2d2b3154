/- wname: the reference's writer in plain words, and that the program's writes the same bytes. No program in it. -/
import Derived.Test.YtjpkddmdhdmhgaaWtrLaws
namespace Go.Proofs.Ytjpkddmdhdmhgaa

/-- What was written, and where rests stand: the eldest one first. -/
structure RW where
  b : List UInt8
  rests : List (Nat × List (List UInt8))
def findR : List (Nat × List (List UInt8)) → List (List UInt8) → Option Nat
  | [], _ => none
  | (p, m) :: rs, n => if m = n then some p else findR rs n
def RW.nil : RW := ⟨[], []⟩
def RW.raw (x : RW) (bs : List UInt8) : RW := { x with b := x.b ++ bs }
def RW.label (x : RW) (l : List UInt8) : RW := x.raw (UInt8.ofNat l.length :: l)
def RW.note (x : RW) (n : List (List UInt8)) : RW := if x.b.length < 16384 then { x with rests := x.rests ++ [(x.b.length, n)] } else x
def RW.name : RW → List (List UInt8) → Bool → RW
  | x, [], _ => x.raw [0]
  | x, l :: n, short => match findR x.rests (l :: n) with
    | some p => if short = true then x.raw (ptrB p) else ((x.note (l :: n)).label l).name n short
    | none => ((x.note (l :: n)).label l).name n short

theorem findR_append (rs rs' : List (Nat × List (List UInt8))) (n : List (List UInt8)) : findR (rs ++ rs') n = (findR rs n).or (findR rs' n) := by
  induction rs with
  | nil => simp [findR]
  | cons r rs ih =>
    obtain ⟨p, m⟩ := r
    simp only [List.cons_append, findR]
    split
    · rfl
    · exact ih
def Small (n : List (List UInt8)) : Prop := ∀ l ∈ n, l.length < 256
theorem Small.tail {l : List UInt8} {n : List (List UInt8)} (h : Small (l :: n)) : Small n := fun x hx => h x (List.mem_cons_of_mem _ hx)
theorem small_of_sound {n : List (List UInt8)} (h : SoundN n) : Small n := fun l hl => by have := (h.1 l hl).2; omega

/-- Both know the same. -/
def Alike (x : Wr) (y : RW) : Prop := x.b = y.b ∧ (∀ n, Small n → lookR x.rests (restB n) = findR y.rests n) ∧ ∀ n p, findR y.rests n = some p → p < 16384
theorem alike_nil : Alike Wr.nil RW.nil := ⟨rfl, fun _ _ => rfl, fun _ _ h => by cases h⟩
theorem Alike.raw {x : Wr} {y : RW} (h : Alike x y) (bs : List UInt8) : Alike (x.raw bs) (y.raw bs) := ⟨by simp [Wr.raw, RW.raw, h.1], h.2⟩
theorem Alike.label {x : Wr} {y : RW} (h : Alike x y) (l : List UInt8) : Alike (x.label l) (y.label l) := h.raw _
theorem Alike.note_old {x : Wr} {y : RW} (h : Alike x y) {n : List (List UInt8)} (hf : findR y.rests n ≠ none) : Alike x (y.note n) := by
  unfold RW.note
  split
  · refine ⟨h.1, fun m hm => ?_, fun m p hp => ?_⟩
    · rw [findR_append, h.2.1 m hm]
      cases hfm : findR y.rests m with
      | some p => rfl
      | none =>
        simp only [findR, Option.none_or]
        rw [if_neg (fun e => hf (by rw [e]; exact hfm))]
    · rw [findR_append] at hp
      cases hfm : findR y.rests m with
      | some q => rw [hfm] at hp; exact h.2.2 m p (by rw [hfm]; exact hp)
      | none =>
        rw [hfm, Option.none_or] at hp
        simp only [findR] at hp
        rw [if_neg (fun e => hf (by rw [e]; exact hfm))] at hp
        cases hp
  · exact h
theorem Alike.note_new {x : Wr} {y : RW} (h : Alike x y) {n : List (List UInt8)} (hn : Small n) (hf : findR y.rests n = none) : Alike (x.note (restB n)) (y.note n) := by
  unfold RW.note Wr.note
  rw [h.1]
  split
  · rename_i hl
    refine ⟨rfl, fun m hm => ?_, fun m p hp => ?_⟩
    · rw [findR_append]
      simp only [lookR, findR]
      by_cases e : n = m
      · subst e
        rw [if_pos rfl, if_pos rfl, hf, Option.none_or]
      · rw [if_neg (fun e' => e (restB_inj hn hm e')), if_neg e, h.2.1 m hm]
        cases findR y.rests m <;> rfl
    · rw [findR_append] at hp
      cases hfm : findR y.rests m with
      | some q => rw [hfm] at hp; exact h.2.2 m p (by rw [hfm]; exact hp)
      | none =>
        rw [hfm, Option.none_or] at hp
        simp only [findR] at hp
        split at hp
        · injection hp with hp
          subst hp
          exact hl
        · cases hp
  · exact h
theorem Alike.name {n : List (List UInt8)} (hn : Small n) (short : Bool) {x : Wr} {y : RW} (h : Alike x y) : Alike (x.name n short) (y.name n short) := by
  induction n generalizing x y with
  | nil => exact h.raw _
  | cons l n ih =>
    have e := h.2.1 (l :: n) hn
    unfold Wr.name RW.name
    rw [e]
    cases hp : findR y.rests (l :: n) with
    | some p =>
      simp only
      split
      · exact h.raw _
      · exact ih hn.tail ((h.note_old (by rw [hp]; simp)).label l)
    | none => exact ih hn.tail ((h.note_new hn hp).label l)
theorem RW.note_b (x : RW) (n : List (List UInt8)) : (x.note n).b = x.b := by unfold RW.note; split <;> rfl
theorem RW.note_rests (x : RW) (n : List (List UInt8)) : (x.note n).rests.length ≤ x.rests.length + 1 := by unfold RW.note; split <;> simp
theorem RW.name_rests {x : RW} (n : List (List UInt8)) (short : Bool) : (x.name n short).rests.length ≤ x.rests.length + n.length := by
  induction n generalizing x with
  | nil => exact Nat.le_refl _
  | cons l n ih =>
    unfold RW.name
    have h1 := ih (x := (x.note (l :: n)).label l)
    have h2 := x.note_rests (l :: n)
    simp only [RW.label, RW.raw, List.length_cons] at h1 ⊢
    split
    · split
      · exact Nat.le_add_right _ _
      · omega
    · omega
end Go.Proofs.Ytjpkddmdhdmhgaa
