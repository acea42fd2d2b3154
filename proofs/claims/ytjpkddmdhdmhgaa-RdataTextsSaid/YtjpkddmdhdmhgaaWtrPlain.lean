/- Writing names, in plain Lean, as the program does it. No program in it. -/
import Derived.Test.YtjpkddmdhdmhgaaWnamePlain
namespace Go.Proofs.Ytjpkddmdhdmhgaa

/-- A name's labels as they are written without pointers. -/
def restB : List (List UInt8) → List UInt8
  | [] => []
  | l :: n => UInt8.ofNat l.length :: (l ++ restB n)
def SoundN (n : List (List UInt8)) : Prop := (∀ l ∈ n, 1 ≤ l.length ∧ l.length ≤ 63) ∧ sizeN n ≤ 255
noncomputable def soundB (n : List (List UInt8)) : Bool := @decide (SoundN n) (Classical.propDecidable _)
theorem soundB_true {n : List (List UInt8)} (h : SoundN n) : soundB n = true := by unfold soundB; simpa using h
theorem soundB_false {n : List (List UInt8)} (h : ¬ SoundN n) : soundB n = false := by unfold soundB; simpa using h
theorem soundB_iff {n : List (List UInt8)} : soundB n = true ↔ SoundN n := by unfold soundB; simp
theorem SoundN.tail {l : List UInt8} {n : List (List UInt8)} (h : SoundN (l :: n)) : SoundN n := ⟨fun x hx => h.1 x (List.mem_cons_of_mem _ hx), by have := h.2; simp only [sizeN] at this; omega⟩
theorem SoundN.head {l : List UInt8} {n : List (List UInt8)} (h : SoundN (l :: n)) : 1 ≤ l.length ∧ l.length ≤ 63 := h.1 l (List.mem_cons_self ..)
theorem SoundN.drop {n : List (List UInt8)} (h : SoundN n) (k : Nat) : SoundN (n.drop k) := by
  induction k generalizing n with
  | zero => exact h
  | succ k ih =>
    cases n with
    | nil => exact h
    | cons l n => exact ih h.tail
theorem restB_length (n : List (List UInt8)) : (restB n).length + 1 = sizeN n := by
  induction n with
  | nil => rfl
  | cons l n ih => simp only [restB, sizeN, List.length_cons, List.length_append]; omega
theorem restB_inj {a b : List (List UInt8)} (ha : ∀ l ∈ a, l.length < 256) (hb : ∀ l ∈ b, l.length < 256) (h : restB a = restB b) : a = b := by
  induction a generalizing b with
  | nil =>
    cases b with
    | nil => rfl
    | cons l b => simp [restB] at h
  | cons l a ih =>
    cases b with
    | nil => simp [restB] at h
    | cons m b =>
      simp only [restB, List.cons.injEq] at h
      have hl := ha l (List.mem_cons_self ..)
      have hm := hb m (List.mem_cons_self ..)
      have e : l.length = m.length := by
        have := congrArg UInt8.toNat h.1
        simp only [UInt8.toNat_ofNat'] at this
        omega
      obtain ⟨e1, e2⟩ := List.append_inj h.2 e
      rw [e1, ih (fun x hx => ha x (List.mem_cons_of_mem _ hx)) (fun x hx => hb x (List.mem_cons_of_mem _ hx)) e2]

/-- What was written, and where rests stand: the newest one first. -/
structure Wr where
  b : List UInt8
  rests : List (List UInt8 × Nat)
def lookR : List (List UInt8 × Nat) → List UInt8 → Option Nat
  | [], _ => none
  | (r, p) :: rs, k => if r = k then some p else lookR rs k
def Wr.nil : Wr := ⟨[], []⟩
def Wr.raw (x : Wr) (bs : List UInt8) : Wr := { x with b := x.b ++ bs }
/-- A number of two bytes that leads to a place. -/
def ptrB (p : Nat) : List UInt8 := [UInt8.ofNat (192 + p / 256), UInt8.ofNat (p % 256)]
def Wr.label (x : Wr) (l : List UInt8) : Wr := x.raw (UInt8.ofNat l.length :: l)
def Wr.note (x : Wr) (r : List UInt8) : Wr := if x.b.length < 16384 then { x with rests := (r, x.b.length) :: x.rests } else x
def Wr.name : Wr → List (List UInt8) → Bool → Wr
  | x, [], _ => x.raw [0]
  | x, l :: n, short => match lookR x.rests (restB (l :: n)) with
    | some p => if short = true then x.raw (ptrB p) else (x.label l).name n short
    | none => ((x.note (restB (l :: n))).label l).name n short

/-- The places that rests stand at may be led to. -/
def Wr.Near (x : Wr) : Prop := ∀ r p, lookR x.rests r = some p → p < 16384
theorem Wr.near_nil : Wr.nil.Near := fun r p h => by cases h
theorem Wr.Near.raw {x : Wr} (h : x.Near) (bs : List UInt8) : (x.raw bs).Near := h
theorem Wr.Near.label {x : Wr} (h : x.Near) (l : List UInt8) : (x.label l).Near := h
theorem Wr.Near.note {x : Wr} (h : x.Near) (r : List UInt8) : (x.note r).Near := by
  unfold Wr.note
  split
  · rename_i hl
    intro r' p hp
    simp only [lookR] at hp
    split at hp
    · injection hp with hp; omega
    · exact h r' p hp
  · exact h
theorem Wr.Near.name {x : Wr} (h : x.Near) (n : List (List UInt8)) (short : Bool) : (x.name n short).Near := by
  induction n generalizing x with
  | nil => exact h
  | cons l n ih =>
    unfold Wr.name
    split
    · split
      · exact h
      · exact ih (h.label l)
    · exact ih ((h.note _).label l)
theorem Wr.note_b (x : Wr) (r : List UInt8) : (x.note r).b = x.b := by unfold Wr.note; split <;> rfl
theorem Wr.note_rests (x : Wr) (r : List UInt8) : (x.note r).rests.length ≤ x.rests.length + 1 := by unfold Wr.note; split <;> simp
theorem Wr.name_b {x : Wr} (n : List (List UInt8)) (short : Bool) : ∃ y, (x.name n short).b = x.b ++ y ∧ y.length ≤ sizeN n + 1 ∧ 1 ≤ y.length := by
  induction n generalizing x with
  | nil => exact ⟨[0], rfl, by simp [sizeN], by simp⟩
  | cons l n ih =>
    unfold Wr.name
    have h1 := sizeN_length n
    split
    · split
      · exact ⟨_, rfl, by simp [ptrB, sizeN]; omega, by simp [ptrB]⟩
      · obtain ⟨y, e, h, h2⟩ := ih (x := x.label l)
        exact ⟨UInt8.ofNat l.length :: l ++ y, by rw [e]; simp [Wr.label, Wr.raw], by simp only [List.length_append, List.length_cons, sizeN]; omega, by simp⟩
    · obtain ⟨y, e, h, h2⟩ := ih (x := (x.note (restB (l :: n))).label l)
      exact ⟨UInt8.ofNat l.length :: l ++ y, by rw [e]; simp [Wr.label, Wr.raw, Wr.note_b], by simp only [List.length_append, List.length_cons, sizeN]; omega, by simp⟩
theorem Wr.name_rests {x : Wr} (n : List (List UInt8)) (short : Bool) : (x.name n short).rests.length ≤ x.rests.length + n.length := by
  induction n generalizing x with
  | nil => exact Nat.le_refl _
  | cons l n ih =>
    unfold Wr.name
    split
    · split
      · exact Nat.le_add_right _ _
      · have := ih (x := x.label l)
        simp only [Wr.label, Wr.raw, List.length_cons] at this ⊢
        omega
    · have h1 := ih (x := (x.note (restB (l :: n))).label l)
      have h2 := x.note_rests (restB (l :: n))
      simp only [Wr.label, Wr.raw, List.length_cons] at h1 ⊢
      omega
end Go.Proofs.Ytjpkddmdhdmhgaa
