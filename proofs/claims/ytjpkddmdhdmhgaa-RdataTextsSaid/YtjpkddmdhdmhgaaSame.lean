/- gazetteerref01.Same: are two lists of bytes the same. -/
import Derived.Test.YtjpkddmdhdmhgaaChecked
import Derived.Test.YtjpkddmdhdmhgaaLib
namespace Go.Proofs.Ytjpkddmdhdmhgaa
open Go.RowKit

set_option maxHeartbeats 400000 in
theorem same_any (A A' : Option Addr) (n c n' c' : Nat) (xs ys : List UInt8) (w : World) (hx : RdB w A n xs) (hy : RdB w A' n' ys) (hn : n ≤ maxLen) (hn' : n' ≤ maxLen) :
    Calls Try.prog 18 #[.slice A n c, .slice A' n' c'] w (RetN (.bool (decide (xs = ys))) w) := by
  unfold maxLen at hn hn'
  have hlx := Lib.hid hx.len
  have hly := Lib.hid hy.len
  by_cases hnn : n = n'
  · subst hnn
    go_enter Try.func18, Try.ntmps18
    go_wp2
    go_loopw [5] (fun i wr => ∃ k m : Nat, i = .int .i64 k ∧ k ≤ n ∧ wr = w.drewN m ∧ xs.take k = ys.take k) (fun i _ => n - (intOf i).toNat)
    case atStart => exact ⟨0, 0, rfl, Nat.zero_le _, rfl, rfl⟩
    case round =>
      obtain ⟨k, m, rfl, hk, rfl, ht⟩ := hrel
      have HT := Lib.hid ht
      clear ht
      by_cases hlt : k < n
      · obtain ⟨b, off, x, rfl, gx, cx⟩ := hx.at_ hlt
        obtain ⟨b', off', y, rfl, gy, cy⟩ := hy.at_ hlt
        have GX := Lib.hid gx
        have GY := Lib.hid gy
        clear gx gy
        go_wp2
        go_quiet (fail)
        go_wp2
        · have hne : (↑x.toNat != (↑y.toNat : Int)) = true := by assumption
          go_ret
          refine ⟨ret_bool (decide_eq_false (ne_of_get GX.out GY.out fun e => ?_)).symm, _, World.drewN_drewN _ _ _⟩
          rw [e] at hne; simp at hne
        · have heq : (↑x.toNat != (↑y.toNat : Int)) = false := by assumption
          go_roundw
          case rel => exact ⟨k + 1, _, by go_num, by omega, rfl, take_eq_succ HT.out GX.out GY.out (u8_eq (by simpa using heq))⟩
          case measure => simp [intOf]; omega
      · go_wp2
        go_ret
        have hk' : k = n := by omega
        refine ⟨ret_bool (decide_eq_true ?_).symm, _, rfl⟩
        have := HT.out
        rwa [hk', List.take_of_length_le (by rw [hlx.out]; omega), List.take_of_length_le (by rw [hly.out]; omega)] at this
  · have hb : ((n : Int) != (n' : Int)) = true := by rw [bne_iff_ne]; omega
    go_enter Try.func18, Try.ntmps18
    go_wp2
    go_ret
    refine ⟨ret_bool (decide_eq_false ?_).symm, 0, rfl⟩
    rintro rfl
    exact hnn (hlx.out.symm.trans hly.out)
end Go.Proofs.Ytjpkddmdhdmhgaa
