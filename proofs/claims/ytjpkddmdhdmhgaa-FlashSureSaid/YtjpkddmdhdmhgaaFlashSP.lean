/- FlashSure in plain Lean: what each sector holds behind the crash. -/
import Derived.Test.YtjpkddmdhdmhgaaFlashLP
namespace Go.Proofs.Ytjpkddmdhdmhgaa

/-- Sectors that hold what is wanted, or are broken. -/
def Agree (s : List (Option (List UInt8))) (want : List (List UInt8)) (broken : List Bool) : Prop :=
  s.length = 8 ∧ want.length = 8 ∧ broken.length = 8 ∧ ∀ (j : Nat) (x : List UInt8) (b : Bool), want[j]? = some x → broken[j]? = some b → s[j]? = some (if b = true then none else some (pad x))

theorem pad_nil : pad [] = zero512 := by unfold pad zero512; rfl
theorem agree_new : Agree (Dv.new 8).sure (List.replicate 8 []) (List.replicate 8 false) := by
  refine ⟨Dv.new_len 8, rfl, rfl, fun j x b hx hb => ?_⟩
  rw [List.getElem?_replicate] at hx hb
  split at hx
  · rename_i hj
    rw [if_pos hj] at hb
    injection hx with hx
    injection hb with hb
    subst hx hb
    show (List.replicate 8 (some zero512))[j]? = _
    rw [List.getElem?_replicate, if_pos hj, if_neg (by decide), pad_nil]
  · cases hx
section
variable {s : List (Option (List UInt8))} {want : List (List UInt8)} {broken : List Bool} {k : Nat} {x : List UInt8}
theorem Agree.tear (h : Agree s want broken) (hk : k < 8) (b : List UInt8) : Agree (doneL s k b true) (want.set k []) (broken.set k true) := by
  obtain ⟨h1, h2, h3, h4⟩ := h
  refine ⟨by rw [doneL_length]; exact h1, by rw [List.length_set]; exact h2, by rw [List.length_set]; exact h3, fun j y c hy hc => ?_⟩
  unfold doneL
  rw [if_pos rfl, Int.toNat_natCast]
  by_cases e : j = k
  · subst e
    rw [List.getElem?_set_self (by omega)] at hc ⊢
    injection hc with hc
    subst hc
    rw [if_pos rfl]
  · rw [List.getElem?_set_ne (by omega)] at hy hc ⊢
    exact h4 j y c hy hc
theorem Agree.lay (h : Agree s want broken) (hk : k < 8) (x : List UInt8) : Agree (doneL s k (pad x) false) (want.set k x) (broken.set k false) := by
  obtain ⟨h1, h2, h3, h4⟩ := h
  refine ⟨by rw [doneL_length]; exact h1, by rw [List.length_set]; exact h2, by rw [List.length_set]; exact h3, fun j y c hy hc => ?_⟩
  unfold doneL
  rw [if_neg (by decide), Int.toNat_natCast]
  by_cases e : j = k
  · subst e
    rw [List.getElem?_set_self (by omega)] at hy hc ⊢
    injection hc with hc
    injection hy with hy
    subst hc hy
    rw [if_neg (by decide)]
  · rw [List.getElem?_set_ne (by omega)] at hy hc ⊢
    exact h4 j y c hy hc
end

/-- A device of eight sectors, its power there, no limit, of which so many writes are not sure. -/
def Eight (n : Nat) (d : Dv) : Prop := d.sure.length = 8 ∧ d.unsure.length = n ∧ d.limit = 0 ∧ d.down = false
section
variable {d : Dv} {n k : Nat} {want : List (List UInt8)} {broken : List Bool} {bs : List UInt8}
theorem eight_new : Eight 0 (Dv.new 8) := ⟨Dv.new_len 8, rfl, rfl, rfl⟩
theorem Eight.write (h : Eight n d) (hk : k < 8) (hb : bs.length ≤ 512) : d.write k bs = ({ d with unsure := d.unsure ++ [((k : Int), pad bs)] }, 0) := by
  obtain ⟨h1, h2, h3, h4⟩ := h
  exact Dv.write_ok h4 (by omega) (by omega) hb h3
theorem Eight.write8 (h : Eight n d) (hk : k < 8) (hb : bs.length ≤ 512) : Eight (n + 1) (d.write k bs).1 ∧ (d.write k bs).2 = 0 := by
  rw [h.write hk hb]
  obtain ⟨h1, h2, h3, h4⟩ := h
  exact ⟨⟨h1, by show (d.unsure ++ [_]).length = _; rw [List.length_append, h2]; rfl, h3, h4⟩, rfl⟩
theorem Eight.sync (h : Eight n d) : Eight 0 d.sync.1 ∧ d.sync.2 = 0 ∧ d.sync.1.sure = syncL d.unsure d.sure ∧ d.sync.1.unsure = [] := by
  obtain ⟨h1, h2, h3, h4⟩ := h
  rw [Dv.sync_ok h4 h3]
  exact ⟨⟨by show (syncL _ _).length = 8; rw [syncL_length]; exact h1, rfl, h3, h4⟩, rfl, rfl, rfl⟩
theorem Eight.lay (h : Eight n d) (hk : k < 8) (hb : bs.length ≤ 512) (ha : Agree (syncL d.unsure d.sure) want (List.replicate 8 false)) : Agree (syncL (d.write k bs).1.unsure (d.write k bs).1.sure) (want.set k bs) (List.replicate 8 false) := by
  rw [h.write hk hb]
  show Agree (syncL (d.unsure ++ [((k : Int), pad bs)]) d.sure) _ _
  rw [syncL_snoc]
  have := ha.lay hk bs
  rwa [show (List.replicate 8 false).set k false = List.replicate 8 false by rw [List.set_replicate_self]] at this
theorem Eight.step (h : Eight n d) (hk : k < 8) (hb : bs.length ≤ 512) (m t : Nat) (ha : Agree (crashL m t 0 d.unsure d.sure) want broken) :
    Agree (crashL m t 0 (d.write k bs).1.unsure (d.write k bs).1.sure) (if bitN t n = true then want.set k [] else if bitN m n = true then want.set k bs else want) (if bitN t n = true then broken.set k true else if bitN m n = true then broken.set k false else broken) := by
  rw [h.write hk hb]
  show Agree (crashL m t 0 (d.unsure ++ [((k : Int), pad bs)]) d.sure) _ _
  rw [crashL_snoc, Nat.zero_add, h.2.1]
  unfold crashS
  split
  · exact ha.tear hk _
  · split
    · exact ha.lay hk bs
    · exact ha
theorem Eight.read (h : Eight 0 d) {x : List UInt8} {b : Bool} (ha : Agree d.sure want broken) (hx : want[k]? = some x) (hb : broken[k]? = some b) : d.read k = if b = true then ([], 9) else (pad x, 0) := by
  obtain ⟨h1, h2, h3, h4⟩ := h
  have hk : k < want.length := (List.getElem?_eq_some_iff.1 hx).1
  rw [Dv.read_ok h4 (by omega) (by rw [h1]; have := ha.2.1; omega)]
  unfold Dv.readV
  rw [List.eq_nil_of_length_eq_zero h2]
  simp only [lastW, Int.toNat_natCast, ha.2.2.2 k x b hx hb]
  cases b <;> rfl
end
end Go.Proofs.Ytjpkddmdhdmhgaa
