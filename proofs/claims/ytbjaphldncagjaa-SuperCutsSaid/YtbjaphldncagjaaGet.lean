/- num.Get and the reference's: the number at a place. -/
import Derived.Test.YtbjaphldncagjaaBytes
import Derived.Test.YtbjaphldncagjaaNum
namespace Go.Proofs.Ytbjaphldncagjaa
open Go.RowKit

def RetG (r : Int × Int) (w : World) (e : Ending) (w' : World) : Prop := e = .returned (.tuple #[.int .i64 r.1, .int .i64 r.2]) ∧ w = w'

set_option maxHeartbeats 400000 in
theorem get_any (A : Option Addr) (m c : Nat) (bs : List UInt8) (p size : Int) (w : World) (hb : RdB w A m bs) (hm : m ≤ c) (hc : m ≤ 140737488355328) :
    Calls Try.prog 118 #[.slice A m c, .int .i64 p, .int .i64 size] w (RetG (getN bs p size) w) := by
  have hlb := Lib.hid hb.len
  by_cases h1 : size < 1 ∨ 7 < size ∨ p < 0
  · have hr : Hid (getN bs p size = (0, 1)) := by unfold getN; rw [if_pos h1]; rfl
    by_cases g1 : size < 1
    · clear h1
      go_enter Try.func118, Try.ntmps118
      go_wp2
      go_ret2
      exact ⟨by rw [hr.out]; rfl, rfl⟩
    · by_cases g2 : 7 < size
      · clear h1
        go_enter Try.func118, Try.ntmps118
        go_wp2
        go_ret2
        exact ⟨by rw [hr.out]; rfl, rfl⟩
      · have g3 : p < 0 := by omega
        clear h1
        go_enter Try.func118, Try.ntmps118
        go_wp2
        go_ret2
        exact ⟨by rw [hr.out]; rfl, rfl⟩
  · have g1 : 1 ≤ size := by omega
    have g2 : size ≤ 7 := by omega
    have g3 : 0 ≤ p := by omega
    obtain ⟨z, rfl⟩ := Int.eq_ofNat_of_zero_le (Int.le_trans (by decide) g1)
    obtain ⟨q, rfl⟩ := Int.eq_ofNat_of_zero_le g3
    by_cases h2 : m < q
    · have hr : Hid (getN bs q z = (0, 3)) := by unfold getN; rw [if_neg h1, if_pos (by rw [hlb.out]; omega)]; rfl
      clear h1
      go_enter Try.func118, Try.ntmps118
      go_wp2
      go_ret2
      exact ⟨by rw [hr.out]; rfl, rfl⟩
    · by_cases h3 : m - q < z
      · have hr : Hid (getN bs q z = (0, 3)) := by unfold getN; rw [if_neg h1, if_pos (by rw [hlb.out]; omega)]; rfl
        clear h1
        have h4 : (m : Int) - q < z := by omega
        go_enter Try.func118, Try.ntmps118
        go_wp2
        go_ret2
        exact ⟨by rw [hr.out]; rfl, rfl⟩
      · have hr : Hid (getN bs q z = ((val ((bs.drop q).take z) : Int), 0)) := by unfold getN; rw [if_neg h1, if_neg (by rw [hlb.out]; omega)]; rfl
        clear h1
        have h4 : ¬ (m : Int) - q < z := by omega
        obtain ⟨b, off, rfl, hcell⟩ := hb.flat (by omega)
        have HC := Lib.hid hcell
        clear hcell
        obtain ⟨seg, hseg⟩ : ∃ seg, seg = (bs.drop q).take z := ⟨_, rfl⟩
        rw [← hseg] at hr
        have hsl : Hid (seg.length = z) := by rw [hseg]; show _ = _; rw [List.length_take, List.length_drop, hlb.out]; omega
        have HS := Lib.hid hseg
        clear hseg
        go_enter Try.func118, Try.ntmps118
        go_wp2
        go_loop [8, 10, 42] (fun nn _ i => ∃ k : Nat, k ≤ z ∧ i = .int .i64 k ∧ nn = .int .i64 (val (seg.take k) : Int)) (fun _ _ i => z - (intOf i).toNat)
        case atStart => exact ⟨0, Nat.zero_le _, rfl, rfl⟩
        case round =>
          obtain ⟨k, hk, rfl, rfl⟩ := hrel
          by_cases hlt : k < z
          · obtain ⟨x, hx⟩ : ∃ x, seg[k]? = some x := ⟨_, List.getElem?_eq_getElem (by rw [hsl.out]; exact hlt)⟩
            have hxb : bs[q + k]? = some x := by
              have h := hx
              rw [HS.out, List.getElem?_take, if_pos hlt, List.getElem?_drop] at h
              exact h
            have hc1 := HC.out _ _ hxb
            rw [← Nat.add_assoc] at hc1
            have hv := val_lt_of (l := seg.take k) (k := 6) (by rw [List.length_take]; omega)
            rw [pow256_6] at hv
            have HV := Lib.hid (val_take seg k x hx)
            clear hx hxb
            obtain ⟨v, hv'⟩ : ∃ v, v = val (seg.take k) := ⟨_, rfl⟩
            rw [← hv'] at hv HV ⊢
            clear hv'
            have hx8 := x.toNat_lt
            go_wp2
            go_round
            case rel => exact ⟨k + 1, by omega, by go_num, by rw [or_byte _ _ hv hx8, HV.out]⟩
            case measure => simp [intOf]; omega
          · go_wp2
            go_ret2
            refine ⟨?_, rfl⟩
            obtain rfl : k = z := by omega
            rw [hr.out, List.take_of_length_le (by rw [hsl.out]; omega)]
            rfl
end Go.Proofs.Ytbjaphldncagjaa
