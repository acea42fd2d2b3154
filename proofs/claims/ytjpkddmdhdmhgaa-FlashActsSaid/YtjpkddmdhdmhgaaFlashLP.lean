/- flash: what the laws' devices come to, in plain Lean. -/
import Derived.Test.YtjpkddmdhdmhgaaFlashPlain
namespace Go.Proofs.Ytjpkddmdhdmhgaa

theorem Dv.chk_ok {d : Dv} {k : Int} (h1 : d.down = false) (h2 : 0 ≤ k) (h3 : k < d.sure.length) : d.chk k = 0 := by
  unfold Dv.chk
  rw [if_neg (by rw [h1]; decide), if_neg (by omega)]
theorem Dv.write_ok {d : Dv} {k : Int} {bs : List UInt8} (h1 : d.down = false) (h2 : 0 ≤ k) (h3 : k < d.sure.length) (h4 : bs.length ≤ 512) (h5 : d.limit = 0) : d.write k bs = ({ d with unsure := d.unsure ++ [(k, pad bs)] }, 0) := by
  unfold Dv.write
  rw [Dv.chk_ok h1 h2 h3, if_pos rfl, if_neg (by omega)]
  unfold Dv.stays Dv.spent
  rw [if_pos h5, if_pos rfl, if_pos h5]
theorem Dv.read_ok {d : Dv} {k : Int} (h1 : d.down = false) (h2 : 0 ≤ k) (h3 : k < d.sure.length) : d.read k = d.readV k := by
  unfold Dv.read
  rw [Dv.chk_ok h1 h2 h3, if_pos rfl]
theorem Dv.sync_ok {d : Dv} (h1 : d.down = false) (h5 : d.limit = 0) : d.sync = ({ d with sure := syncL d.unsure d.sure, unsure := [] }, 0) := by
  unfold Dv.sync
  rw [if_neg (by rw [h1]; decide)]
  unfold Dv.stays Dv.spent
  rw [if_pos h5, if_pos rfl, if_pos h5]
theorem Dv.new_len (n : Nat) : (Dv.new n).sure.length = n := List.length_replicate

/-- A device of two sectors, its power there, no limit: the second sector, and the writes that are not sure. -/
def Two (s : Option (List UInt8)) (u : List (Int × List UInt8)) (d : Dv) : Prop := d.sure.length = 2 ∧ d.sure[1]? = some s ∧ d.unsure = u ∧ d.limit = 0 ∧ d.down = false
def sureV : Option (List UInt8) → List UInt8 × Int
  | some b => (b, 0)
  | none => ([], 9)
section
variable {d : Dv} {s : Option (List UInt8)} {u : List (Int × List UInt8)} {x : List UInt8}
theorem two_new : Two (some zero512) [] (Dv.new 2) := ⟨Dv.new_len 2, rfl, rfl, rfl, rfl⟩
theorem Two.write (h : Two s u d) {bs : List UInt8} (hb : bs.length ≤ 512) : Two s (u ++ [(1, pad bs)]) (d.write 1 bs).1 ∧ (d.write 1 bs).2 = 0 := by
  obtain ⟨h1, h2, rfl, h4, h5⟩ := h
  rw [Dv.write_ok h5 (by decide) (by rw [h1]; decide) hb h4]
  exact ⟨⟨h1, h2, rfl, h4, h5⟩, rfl⟩
theorem Two.read_unsure (h : Two s (u ++ [(1, x)]) d) : d.read 1 = (x, 0) := by
  obtain ⟨h1, h2, h3, h4, h5⟩ := h
  rw [Dv.read_ok h5 (by decide) (by rw [h1]; decide)]
  unfold Dv.readV
  rw [h3, lastW_snoc, if_pos rfl]
theorem Two.read_sure (h : Two s [] d) : d.read 1 = sureV s := by
  obtain ⟨h1, h2, h3, h4, h5⟩ := h
  rw [Dv.read_ok h5 (by decide) (by rw [h1]; decide)]
  unfold Dv.readV
  rw [h3]
  simp only [lastW]
  rw [show (1 : Int).toNat = 1 from rfl, h2]
  cases s <;> rfl
theorem Two.crash_one (h : Two s [(1, x)] d) (m t : Nat) : Two (if bitN t 0 = true then none else if bitN m 0 = true then some x else s) [] (d.crash m t) := by
  obtain ⟨h1, h2, h3, h4, h5⟩ := h
  refine ⟨by show (crashL m t 0 d.unsure d.sure).length = 2; rw [crashL_length]; exact h1, ?_, rfl, rfl, rfl⟩
  show (crashL m t 0 d.unsure d.sure)[1]? = _
  rw [h3]
  simp only [crashL]
  split
  · unfold doneL; rw [if_pos rfl, show (1 : Int).toNat = 1 from rfl, List.getElem?_set_self (by omega)]
  · split
    · unfold doneL; rw [if_neg (by decide), show (1 : Int).toNat = 1 from rfl, List.getElem?_set_self (by omega)]
    · exact h2
theorem Two.crash_none (h : Two s [] d) (m t : Nat) : Two s [] (d.crash m t) := by
  obtain ⟨h1, h2, h3, h4, h5⟩ := h
  refine ⟨by show (crashL m t 0 d.unsure d.sure).length = 2; rw [crashL_length]; exact h1, ?_, rfl, rfl, rfl⟩
  show (crashL m t 0 d.unsure d.sure)[1]? = _
  rw [h3]
  exact h2
theorem Two.sync_one (h : Two s [(1, x)] d) : Two (some x) [] d.sync.1 ∧ d.sync.2 = 0 := by
  obtain ⟨h1, h2, h3, h4, h5⟩ := h
  rw [Dv.sync_ok h5 h4]
  refine ⟨⟨by show (syncL d.unsure d.sure).length = 2; rw [syncL_length]; exact h1, ?_, rfl, h4, h5⟩, rfl⟩
  show (syncL d.unsure d.sure)[1]? = _
  rw [h3]
  simp only [syncL]
  unfold doneL
  rw [if_neg (by decide), show (1 : Int).toNat = 1 from rfl, List.getElem?_set_self (by omega)]
end
end Go.Proofs.Ytjpkddmdhdmhgaa
