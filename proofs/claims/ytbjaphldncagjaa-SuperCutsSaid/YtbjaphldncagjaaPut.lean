/- num.Put: a number behind bytes. -/
import Derived.Test.YtbjaphldncagjaaBytes
import Derived.Test.YtbjaphldncagjaaNum
namespace Go.Proofs.Ytbjaphldncagjaa
open Go.RowKit

set_option maxHeartbeats 400000 in
theorem put_any (A : Option Addr) (m c : Nat) (bs : List UInt8) (n size : Int) (w : World) (hb : RdB w A m bs) (hm : m ≤ 140737488355000) :
    Calls Try.prog 73 #[.slice A m c, .int .i64 n, .int .i64 size] w (RetP (fun v w' => OwnB w' w.heap.size v (putB bs n size)) w) := by
  have hlb := Lib.hid hb.len
  obtain ⟨X, hX⟩ : ∃ X : Array Value, X = madeCells #[.int .u8 0] (m + 7) := ⟨_, rfl⟩
  have hmk := mkB m (m + 7) (by omega) (by omega)
  rw [show ((m + 7 : Nat) : Int) = (m : Int) + 7 from rfl, ← hX] at hmk
  have hXs : Hid (X.size = m + 7) := by rw [hX]; exact mkB_size _
  clear hX
  by_cases hf : fitsB n size = true
  · obtain ⟨f1, f2, f3, f4⟩ := fitsB_true hf
    have F4 := Lib.hid f4
    clear f4
    obtain ⟨z, rfl⟩ := Int.eq_ofNat_of_zero_le (Int.le_trans (by decide) f1)
    obtain ⟨q, rfl⟩ := Int.eq_ofNat_of_zero_le f3
    have hbl : Hid (putB bs q z = bs ++ be q z) := by unfold putB; rw [if_pos hf]; rfl
    go_enter Try.func73, Try.ntmps73
    go_wp2_with (first
      | ((with_reducible show wpList _ _ _ (⟨some 17, _, _, _, _, _⟩ :: _) _ _); refine wpL_copyB rfl (.tmp 15) (.tmp 16) rfl w.heap.size m (m + 7) rfl A c rfl X (heap_alloc_new _ _) hXs.out (by omega) (by unfold maxLen; omega) bs (hb.alloc _) w.heap.size (Nat.le_refl _) ?_
         intro w1 hown1 hg1)
      | (go_at_call 72; refine (fits_any _ _ _).mono ?_; rintro e w' ⟨rfl, rfl⟩))
    have hb1 : Below w.heap.size w w1 := ((Below.refl _ _).alloc (Nat.le_refl _) _).grown hg1 (by simp) (fun k hk => by injection hk; omega)
    clear hg1
    go_loopw [7, 8] (fun v i wr => ∃ j : Nat, i = .int .i64 ((j : Int) - 1) ∧ j ≤ z ∧ OwnB wr w.heap.size v (bs ++ be (q / 256 ^ j) (z - j)) ∧ Below w.heap.size w wr) (fun _ i _ => (intOf i + 1).toNat)
    case atStart => exact ⟨z, by first | rfl | rw [IntWalk.wrap64_in _ (by omega)], Nat.le_refl _, by rw [be_first, List.append_nil, ← hlb.out] at *; exact hown1, hb1⟩
    case round =>
      obtain ⟨j, rfl, hj, hown, hbw⟩ := hrel
      rcases j with _ | i
      · go_wp2
        go_ret
        exact ⟨_, rfl, by rw [hbl.out]; rwa [be_last] at hown, hbw⟩
      · go_wp2_with (at_builtin; refine wpL_pushB rfl (.tmp 29) (.tmp 35) rfl w.heap.size _ _ rfl hown _ (UInt8.ofNat (q / 256 ^ i)) ?hn rfl ?hb hbw.size ?_; rotate_right; intro v2 w2 hown2 hg2 _)
        case hn => exact shr_byte q i
        case hb => rw [List.length_append, length_be, hlb.out]; omega
        have hbw2 : Below w.heap.size w w2 := hbw.grown hg2 hbw.size fun k hk => (World.ownsRow.lt hown k hk).1
        have HO := Lib.hid hown2
        clear hown2 hown hg2
        go_wp2
        go_roundw
        case rel => exact ⟨i, by go_num, by omega, by have := HO.out; rwa [List.append_assoc, be_next _ _ _ hj] at this, hbw2⟩
        case measure => simp [intOf]
  · have hfe : fitsB n size = false := by simpa using hf
    have hbl : Hid (putB bs n size = bs) := by unfold putB; rw [if_neg hf]; rfl
    clear hf
    go_enter Try.func73, Try.ntmps73
    go_wp2_with (first
      | ((with_reducible show wpList _ _ _ (⟨some 17, _, _, _, _, _⟩ :: _) _ _); refine wpL_copyB rfl (.tmp 15) (.tmp 16) rfl w.heap.size m (m + 7) rfl A c rfl X (heap_alloc_new _ _) hXs.out (by omega) (by unfold maxLen; omega) bs (hb.alloc _) w.heap.size (Nat.le_refl _) ?_
         intro w1 hown1 hg1)
      | (go_at_call 72; refine (fits_any _ _ _).mono ?_; rintro e w' ⟨rfl, rfl⟩))
    go_ret
    exact ⟨_, rfl, by rw [hbl.out]; exact hown1, ((Below.refl _ _).alloc (Nat.le_refl _) _).grown hg1 (by simp) (fun k hk => by injection hk; omega)⟩
end Go.Proofs.Ytbjaphldncagjaa
