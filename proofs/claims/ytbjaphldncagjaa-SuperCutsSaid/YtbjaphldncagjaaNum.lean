/- num.Fits, num.Put, num.Get and the reference's, each once: what it computes. -/
import Derived.Test.YtbjaphldncagjaaChecked
import Derived.Test.YtbjaphldncagjaaLib
import Derived.Test.YtbjaphldncagjaaNumPlain
namespace Go.Proofs.Ytbjaphldncagjaa
open Go.RowKit

theorem fits_eq {n size : Int} (h1 : 1 ≤ size) (h2 : size ≤ 7) (h3 : 0 ≤ n) : (n / 2 ^ (8 * size).toNat == 0) = fitsB n size := by
  have e : (8 * size).toNat = 8 * size.toNat := by omega
  have e2 : (2 : Int) ^ (8 * size.toNat) = 256 ^ size.toNat := by rw [Int.pow_mul]; rfl
  rw [e, e2]
  have hp : (0 : Int) < 256 ^ size.toNat := Int.pow_pos (by decide)
  unfold fitsB
  rw [Bool.eq_iff_iff, beq_iff_eq, decide_eq_true_iff]
  constructor
  · intro h
    refine ⟨h1, h2, h3, ?_⟩
    have := Int.emod_add_mul_ediv n (256 ^ size.toNat)
    have h4 := Int.emod_lt_of_pos n hp
    rw [h] at this
    omega
  · rintro ⟨_, _, _, h⟩
    exact Int.ediv_eq_zero_of_lt h3 h

set_option maxHeartbeats 400000 in
theorem fits_any (n size : Int) (w : World) :
    Calls Try.prog 72 #[.int .i64 n, .int .i64 size] w (Ret (.bool (fitsB n size)) w) := by
  by_cases h1 : 1 ≤ size
  · by_cases h2 : size ≤ 7
    · by_cases h3 : 0 ≤ n
      · have he := Lib.hid (fits_eq h1 h2 h3)
        go_enter Try.func72, Try.ntmps72
        go_wp2
        go_ret
        exact ⟨ret_bool he.out, rfl⟩
      · have he : Hid (false = fitsB n size) := by unfold fitsB; exact (decide_eq_false fun h => h3 h.2.2.1).symm
        go_enter Try.func72, Try.ntmps72
        go_wp2
        go_ret
        exact ⟨ret_bool he.out, rfl⟩
    · have he : Hid (false = fitsB n size) := by unfold fitsB; exact (decide_eq_false fun h => h2 h.2.1).symm
      go_enter Try.func72, Try.ntmps72
      go_wp2
      go_ret
      exact ⟨ret_bool he.out, rfl⟩
  · have he : Hid (false = fitsB n size) := by unfold fitsB; exact (decide_eq_false fun h => h1 h.1).symm
    go_enter Try.func72, Try.ntmps72
    go_wp2
    go_ret
    exact ⟨ret_bool he.out, rfl⟩

theorem rfits_eq {n size : Int} (h1 : 1 ≤ size) (h2 : size ≤ 7) (h3 : 0 ≤ n) : (n / 256 ^ size.toNat == 0) = fitsB n size := by
  rw [← fits_eq h1 h2 h3]
  have e : (8 * size).toNat = 8 * size.toNat := by omega
  have e2 : (2 : Int) ^ (8 * size.toNat) = 256 ^ size.toNat := by rw [Int.pow_mul]; rfl
  rw [e, e2]

set_option maxHeartbeats 400000 in
theorem rfits_any (n size : Int) (w : World) (hm : n ≤ 9223372036854775807) :
    Calls Try.prog 28 #[.int .i64 n, .int .i64 size] w (Ret (.bool (fitsB n size)) w) := by
  by_cases h1 : 1 ≤ size
  · by_cases h2 : size ≤ 7
    · by_cases h3 : 0 ≤ n
      · have he := Lib.hid (rfits_eq h1 h2 h3)
        go_enter Try.func28, Try.ntmps28
        go_wp2
        go_loop [0, 5] (fun m i => ∃ k : Nat, i = .int .i64 k ∧ (k : Int) ≤ size ∧ m = .int .i64 (n / 256 ^ k)) (fun _ i => (size - intOf i).toNat)
        case atStart => exact ⟨0, rfl, by omega, by simp⟩
        case round =>
          obtain ⟨k, rfl, hk, rfl⟩ := hrel
          have hp : (0 : Int) < 256 ^ k := Int.pow_pos (by decide)
          have h4 : 0 ≤ n / 256 ^ k := Int.ediv_nonneg h3 (by omega)
          have HS : Hid (n / 256 ^ k / 256 = n / 256 ^ (k + 1)) := by
            show _ = _
            rw [Int.ediv_ediv_of_nonneg (by omega), Int.pow_succ]
          have h5 : n / 256 ^ k ≤ 9223372036854775807 := Int.le_trans (Int.ediv_le_self _ h3) hm
          clear hp
          obtain ⟨q, hq⟩ : ∃ q, q = n / 256 ^ k := ⟨_, rfl⟩
          rw [← hq] at h4 h5 HS ⊢
          have HQ := Lib.hid hq
          clear hq
          by_cases hlt : (k : Int) < size
          · go_wp2
            go_round
            case rel => exact ⟨k + 1, by go_num, by omega, by rw [← HS.out]⟩
            case measure => simp [intOf]; omega
          · go_wp2
            go_ret
            refine ⟨ret_bool ?_, rfl⟩
            rw [← he.out, HQ.out]
            have : size.toNat = k := by omega
            rw [this]
      · have he : Hid (false = fitsB n size) := by unfold fitsB; exact (decide_eq_false fun h => h3 h.2.2.1).symm
        go_enter Try.func28, Try.ntmps28
        go_wp2
        go_ret
        exact ⟨ret_bool he.out, rfl⟩
    · have he : Hid (false = fitsB n size) := by unfold fitsB; exact (decide_eq_false fun h => h2 h.2.1).symm
      go_enter Try.func28, Try.ntmps28
      go_wp2
      go_ret
      exact ⟨ret_bool he.out, rfl⟩
  · have he : Hid (false = fitsB n size) := by unfold fitsB; exact (decide_eq_false fun h => h1 h.1).symm
    go_enter Try.func28, Try.ntmps28
    go_wp2
    go_ret
    exact ⟨ret_bool he.out, rfl⟩
end Go.Proofs.Ytbjaphldncagjaa
