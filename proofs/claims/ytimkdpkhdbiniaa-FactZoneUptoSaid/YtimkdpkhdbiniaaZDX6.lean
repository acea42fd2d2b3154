/- Parts of a proof, joined: SmD. -/
import Derived.Test.YtimkdpkhdbiniaaZDF01
import Derived.Test.YtimkdpkhdbiniaaZDM04
import Derived.Test.YtimkdpkhdbiniaaZDF02
/- Data and facts as large as their types let them be, in plain Lean. No program in it. -/
namespace Go.Proofs.Ytimkdpkhdbiniaa
open Go.RowKit
set_option maxRecDepth 100000

/-- Data as large as a type lets it be. -/
def SmD (d : Da) : Prop := d.host.length ≤ 255 ∧ d.mail.length ≤ 255 ∧ d.nums.length ≤ 5 ∧ d.texts.length ≤ 64 ∧ d.bytes.length ≤ 65535
theorem soundN_short {n : List (List UInt8)} (h : SoundN n) : n.length ≤ 255 := by have := sizeN_length n; have := h.2; omega
theorem hostP_small {b : Bool} {n : List (List UInt8)} (h : hostP b n) : n.length ≤ 255 := by
  unfold hostP at h
  split at h
  · exact soundN_short h
  · rw [h]; simp
theorem FineD.small {k : Int} {d : Da} (h : FineD k d) : SmD d := by
  obtain ⟨_, _, h2, h3, h4, h5, _, h7⟩ := h
  refine ⟨hostP_small h4, hostP_small h5, ?_, ?_, h2⟩
  · rcases shape_cases k with e | e | e | e | e | e | e | e <;> rw [e] at h3
    · have h3' : (d.nums.length : Int) = 0 := h3; omega
    · have h3' : (d.nums.length : Int) = 0 := h3; omega
    · have h3' : (d.nums.length : Int) = 0 := h3; omega
    · have h3' : (d.nums.length : Int) = 1 := h3; omega
    · have h3' : (d.nums.length : Int) = 5 := h3; omega
    · have h3' : (d.nums.length : Int) = 3 := h3; omega
    · have h3' : (d.nums.length : Int) = 0 := h3; omega
    · have h3' : (d.nums.length : Int) = 0 := h3; omega
  · unfold textsP at h7
    split at h7
    · exact h7.2.1
    · rw [h7]; simp
/-- A fact as large as one that was read. -/
structure SmF (f : Fa) : Prop where
  n : f.name.length ≤ 255
  z : f.zone.length ≤ 255
  l : f.set.length ≤ 255
  s : ∀ d ∈ f.set, SmD d
  d : SmD f.soa
theorem smD_zero : SmD Da.zero := ⟨Nat.zero_le _, Nat.zero_le _, Nat.zero_le _, Nat.zero_le _, Nat.zero_le _⟩
theorem SmF.zero : SmF Fa.zero := ⟨Nat.zero_le _, Nat.zero_le _, Nat.zero_le _, fun _ h => (List.not_mem_nil h).elim, smD_zero⟩
theorem SmF.ltF {f : Fa} (h : SmF f) : LtF f := by
  obtain ⟨d1, d2, d3, d4, d5⟩ := h.d
  have h1 := h.n
  have h2 := h.z
  have h3 := h.l
  exact ⟨by omega, by omega, by omega, fun d hd => by obtain ⟨a, b, c, e, g⟩ := h.s d hd; exact ⟨by omega, by omega, by omega, by omega, by omega⟩, ⟨by omega, by omega, by omega, by omega, by omega⟩⟩
end Go.Proofs.Ytimkdpkhdbiniaa
