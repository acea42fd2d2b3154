/- flash: what a device answers, in plain Lean. No program in it. -/
import Derived.Test.YtbjaphldncagjaaLib
namespace Go.Proofs.Ytbjaphldncagjaa

/-- A device: each sector that is sure (none: torn); the writes that are not; the limit; is the power gone. -/
structure Dv where
  sure : List (Option (List UInt8))
  unsure : List (Int × List UInt8)
  limit : Int
  down : Bool

def pad (bs : List UInt8) : List UInt8 := bs ++ List.replicate (512 - bs.length) 0
def Dv.chk (d : Dv) (k : Int) : Int := if d.down = true then 8 else if k < 0 ∨ (d.sure.length : Int) ≤ k then 1 else 0
/-- The data of the last write to a place. -/
def lastW : List (Int × List UInt8) → Int → Option (List UInt8)
  | [], _ => none
  | (p, b) :: l, k => match lastW l k with
    | some x => some x
    | none => if p = k then some b else none
def Dv.readV (d : Dv) (k : Int) : List UInt8 × Int :=
  match lastW d.unsure k with
  | some b => (b, 0)
  | none => match d.sure[k.toNat]? with
    | some (some b) => (b, 0)
    | some none => ([], 9)
    | none => ([], 1)
def Dv.read (d : Dv) (k : Int) : List UInt8 × Int := if d.chk k = 0 then d.readV k else ([], d.chk k)
/-- Does the power stay? -/
def Dv.stays (d : Dv) : Bool := if d.limit = 0 then true else decide (d.limit ≠ 1)
def Dv.spent (d : Dv) : Dv := if d.limit = 0 then d else { d with limit := d.limit - 1, down := decide (d.limit = 1) }
def Dv.write (d : Dv) (k : Int) (bs : List UInt8) : Dv × Int :=
  if d.chk k = 0 then
    if 512 < bs.length then (d, 1)
    else if d.stays = true then ({ d.spent with unsure := d.unsure ++ [(k, pad bs)] }, 0) else (d.spent, 8)
  else (d, d.chk k)
/-- A write is done; torn: as such. -/
def doneL (s : List (Option (List UInt8))) (k : Int) (b : List UInt8) (torn : Bool) : List (Option (List UInt8)) := s.set k.toNat (if torn = true then none else some b)
def syncL : List (Int × List UInt8) → List (Option (List UInt8)) → List (Option (List UInt8))
  | [], s => s
  | (k, b) :: l, s => syncL l (doneL s k b false)
def Dv.sync (d : Dv) : Dv × Int :=
  if d.down = true then (d, 8)
  else if d.stays = true then ({ d.spent with sure := syncL d.unsure d.sure, unsure := [] }, 0) else (d.spent, 8)
def bitN (x k : Nat) : Bool := x / 2 ^ (k % 64) % 2 == 1
def crashL (mask torn : Nat) : Nat → List (Int × List UInt8) → List (Option (List UInt8)) → List (Option (List UInt8))
  | _, [], s => s
  | k, (p, b) :: l, s => crashL mask torn (k + 1) l (if bitN torn k = true then doneL s p b true else if bitN mask k = true then doneL s p b false else s)
def Dv.crash (d : Dv) (mask torn : Nat) : Dv := { sure := crashL mask torn 0 d.unsure d.sure, unsure := [], limit := 0, down := false }
def zero512 : List UInt8 := List.replicate 512 0
theorem zero512_len : zero512.length = 512 := List.length_replicate
def Dv.new (n : Nat) : Dv := { sure := List.replicate n (some zero512), unsure := [], limit := 0, down := false }

/-- A device that may be: sectors of 512 bytes, places that are there. -/
structure Dv.Fine (d : Dv) : Prop where
  sure : ∀ b, some b ∈ d.sure → b.length = 512
  unsure : ∀ p ∈ d.unsure, 0 ≤ p.1 ∧ p.1 < d.sure.length ∧ p.2.length = 512
  size : d.sure.length ≤ 4096
  limit : 0 ≤ d.limit ∧ d.limit ≤ 9223372036854775807

theorem pad_len {bs : List UInt8} (h : bs.length ≤ 512) : (pad bs).length = 512 := by unfold pad; simp; omega
theorem lastW_snoc (l : List (Int × List UInt8)) (p k : Int) (b : List UInt8) : lastW (l ++ [(p, b)]) k = if p = k then some b else lastW l k := by
  induction l with
  | nil => simp [lastW]
  | cons x l ih =>
    obtain ⟨q, c⟩ := x
    simp only [List.cons_append, lastW, ih]
    by_cases h : p = k <;> simp [h]
theorem lastW_take {l : List (Int × List UInt8)} {k : Int} {i : Nat} {p : Int} {b : List UInt8} (h : l[i]? = some (p, b)) : lastW (l.take (i + 1)) k = if p = k then some b else lastW (l.take i) k := by
  rw [List.take_add_one, h, Option.toList_some, lastW_snoc]
theorem lastW_mem {l : List (Int × List UInt8)} {k : Int} {b : List UInt8} (h : lastW l k = some b) : (k, b) ∈ l := by
  induction l with
  | nil => cases h
  | cons x l ih =>
    obtain ⟨q, c⟩ := x
    simp only [lastW] at h
    cases h1 : lastW l k with
    | some y => rw [h1] at h; simp at h; subst h; exact List.mem_cons_of_mem _ (ih h1)
    | none =>
      rw [h1] at h
      simp only at h
      split at h
      · rename_i e; subst e; injection h with h; subst h; exact List.mem_cons_self ..
      · cases h
theorem syncL_snoc (l : List (Int × List UInt8)) (k : Int) (b : List UInt8) (s : List (Option (List UInt8))) : syncL (l ++ [(k, b)]) s = doneL (syncL l s) k b false := by
  induction l generalizing s with
  | nil => rfl
  | cons x l ih => obtain ⟨q, c⟩ := x; simp only [List.cons_append, syncL]; exact ih _
theorem syncL_take {l : List (Int × List UInt8)} {s : List (Option (List UInt8))} {i : Nat} {p : Int} {b : List UInt8} (h : l[i]? = some (p, b)) : syncL (l.take (i + 1)) s = doneL (syncL (l.take i) s) p b false := by
  rw [List.take_add_one, h, Option.toList_some, syncL_snoc]
def crashS (mask torn k : Nat) (p : Int) (b : List UInt8) (s : List (Option (List UInt8))) : List (Option (List UInt8)) := if bitN torn k = true then doneL s p b true else if bitN mask k = true then doneL s p b false else s
theorem crashL_snoc (mask torn : Nat) (l : List (Int × List UInt8)) (p : Int) (b : List UInt8) (k : Nat) (s : List (Option (List UInt8))) : crashL mask torn k (l ++ [(p, b)]) s = crashS mask torn (k + l.length) p b (crashL mask torn k l s) := by
  induction l generalizing s k with
  | nil => rfl
  | cons x l ih =>
    obtain ⟨q, c⟩ := x
    simp only [List.cons_append, crashL, List.length_cons]
    rw [ih, show k + 1 + l.length = k + (l.length + 1) by omega]
theorem crashL_take {mask torn : Nat} {l : List (Int × List UInt8)} {s : List (Option (List UInt8))} {i : Nat} {p : Int} {b : List UInt8} (h : l[i]? = some (p, b)) : crashL mask torn 0 (l.take (i + 1)) s = crashS mask torn i p b (crashL mask torn 0 (l.take i) s) := by
  have hi : i < l.length := (List.getElem?_eq_some_iff.1 h).1
  rw [List.take_add_one, h, Option.toList_some, crashL_snoc, Nat.zero_add, List.length_take, Nat.min_eq_left (by omega)]

theorem doneL_length (s : List (Option (List UInt8))) (k : Int) (b : List UInt8) (t : Bool) : (doneL s k b t).length = s.length := by simp [doneL]
theorem syncL_length (l : List (Int × List UInt8)) : ∀ s, (syncL l s).length = s.length := by
  induction l with
  | nil => intro s; rfl
  | cons x l ih => intro s; obtain ⟨k, b⟩ := x; simp only [syncL]; rw [ih, doneL_length]
theorem crashS_length (m t k : Nat) (p : Int) (b : List UInt8) (s : List (Option (List UInt8))) : (crashS m t k p b s).length = s.length := by
  unfold crashS; split
  · exact doneL_length ..
  · split
    · exact doneL_length ..
    · rfl
theorem crashL_length (m t : Nat) (l : List (Int × List UInt8)) : ∀ k s, (crashL m t k l s).length = s.length := by
  induction l with
  | nil => intro k s; rfl
  | cons x l ih => intro k s; obtain ⟨p, b⟩ := x; simp only [crashL]; rw [ih]; exact crashS_length m t k p b s
theorem doneL_mem {s : List (Option (List UInt8))} {k : Int} {b x : List UInt8} {t : Bool} (h : some x ∈ doneL s k b t) : x = b ∨ some x ∈ s := by
  unfold doneL at h
  rcases List.mem_or_eq_of_mem_set h with h | h
  · exact .inr h
  · split at h
    · cases h
    · exact .inl (by injection h)
theorem syncL_mem (l : List (Int × List UInt8)) : ∀ {s x}, some x ∈ syncL l s → some x ∈ s ∨ ∃ p ∈ l, p.2 = x := by
  induction l with
  | nil => intro s x h; exact .inl h
  | cons y l ih =>
    intro s x h
    obtain ⟨k, b⟩ := y
    rcases ih h with h | ⟨p, hp, e⟩
    · rcases doneL_mem h with h | h
      · exact .inr ⟨(k, b), List.mem_cons_self .., h.symm⟩
      · exact .inl h
    · exact .inr ⟨p, List.mem_cons_of_mem _ hp, e⟩
theorem crashL_mem (m t : Nat) (l : List (Int × List UInt8)) : ∀ {k s x}, some x ∈ crashL m t k l s → some x ∈ s ∨ ∃ p ∈ l, p.2 = x := by
  induction l with
  | nil => intro k s x h; exact .inl h
  | cons y l ih =>
    intro k s x h
    obtain ⟨p, b⟩ := y
    rcases ih h with h | ⟨q, hp, e⟩
    · split at h
      · rcases doneL_mem h with h | h
        · exact .inr ⟨(p, b), List.mem_cons_self .., h.symm⟩
        · exact .inl h
      · split at h
        · rcases doneL_mem h with h | h
          · exact .inr ⟨(p, b), List.mem_cons_self .., h.symm⟩
          · exact .inl h
        · exact .inl h
    · exact .inr ⟨q, List.mem_cons_of_mem _ hp, e⟩

section
variable {d : Dv}
theorem Dv.chk_cases (d : Dv) (k : Int) : (d.down = true ∧ d.chk k = 8) ∨ (d.down = false ∧ (k < 0 ∨ (d.sure.length : Int) ≤ k) ∧ d.chk k = 1) ∨ (d.down = false ∧ 0 ≤ k ∧ k < d.sure.length ∧ d.chk k = 0) := by
  unfold Dv.chk
  cases h : d.down
  · by_cases h2 : k < 0 ∨ (d.sure.length : Int) ≤ k
    · exact .inr (.inl ⟨rfl, h2, by simp [h2]⟩)
    · exact .inr (.inr ⟨rfl, by omega, by omega, by simp [h2]⟩)
  · exact .inl ⟨rfl, by simp⟩
theorem Dv.Fine.spent (h : d.Fine) : d.spent.Fine := by
  unfold Dv.spent
  split
  · exact h
  · rename_i h0
    have := h.limit
    exact ⟨h.sure, h.unsure, h.size, by show 0 ≤ d.limit - 1 ∧ d.limit - 1 ≤ _; omega⟩
theorem Dv.spent_sure : d.spent.sure = d.sure := by unfold Dv.spent; split <;> rfl
theorem Dv.spent_unsure : d.spent.unsure = d.unsure := by unfold Dv.spent; split <;> rfl
theorem Dv.Fine.write (h : d.Fine) (k : Int) (bs : List UInt8) : (d.write k bs).1.Fine := by
  unfold Dv.write
  split
  · rename_i hc
    split
    · exact h
    · rename_i hl
      split
      · refine ⟨by rw [Dv.spent_sure]; exact h.sure, fun p hp => ?_, by rw [Dv.spent_sure]; exact h.size, h.spent.limit⟩
        show 0 ≤ p.1 ∧ p.1 < (d.spent.sure.length : Int) ∧ _
        rw [Dv.spent_sure]
        rcases List.mem_append.1 hp with hp | hp
        · exact h.unsure p hp
        · simp at hp
          subst hp
          rcases d.chk_cases k with h1 | h1 | h1
          · rw [hc] at h1; simp at h1
          · rw [hc] at h1; simp at h1
          · exact ⟨h1.2.1, h1.2.2.1, pad_len (by omega)⟩
      · exact h.spent
  · exact h
theorem Dv.Fine.sync (h : d.Fine) : d.sync.1.Fine := by
  unfold Dv.sync
  split
  · exact h
  · split
    · refine ⟨fun b hb => ?_, fun p hp => by simp at hp, by show (syncL _ _).length ≤ _; rw [syncL_length]; exact h.size, h.spent.limit⟩
      rcases syncL_mem _ hb with hb | ⟨p, hp, e⟩
      · exact h.sure b hb
      · rw [← e]; exact (h.unsure p hp).2.2
    · exact h.spent
theorem Dv.Fine.crash (h : d.Fine) (m t : Nat) : (d.crash m t).Fine := by
  refine ⟨fun b hb => ?_, fun p hp => by simp [Dv.crash] at hp, by show (crashL _ _ _ _ _).length ≤ _; rw [crashL_length]; exact h.size, by simp [Dv.crash]⟩
  rcases crashL_mem _ _ _ hb with hb | ⟨p, hp, e⟩
  · exact h.sure b hb
  · rw [← e]; exact (h.unsure p hp).2.2
theorem Dv.Fine.new {n : Nat} (h : n ≤ 4096) : (Dv.new n).Fine :=
  ⟨fun b hb => by have h := List.eq_of_mem_replicate (show some b ∈ List.replicate n (some zero512) from hb); injection h with h; rw [h]; exact zero512_len, fun p hp => (List.not_mem_nil hp).elim, by show (List.replicate n (some zero512)).length ≤ _; rw [List.length_replicate]; exact h, by show (0 : Int) ≤ 0 ∧ (0 : Int) ≤ _; omega⟩
theorem Dv.readV_len (h : d.Fine) (k : Int) : (d.readV k).1.length ≤ 512 := by
  unfold Dv.readV
  cases h1 : lastW d.unsure k with
  | some b => simp only; rw [(h.unsure _ (lastW_mem h1)).2.2]; omega
  | none =>
    simp only
    cases h2 : d.sure[k.toNat]? with
    | none => simp
    | some x =>
      cases x with
      | none => simp
      | some b => simp only; rw [h.sure b (List.mem_of_getElem? h2)]; omega
end
end Go.Proofs.Ytbjaphldncagjaa
