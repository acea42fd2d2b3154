/- gazetteerref08.Seal. -/
import Derived.Test.YtnhjfdgdjfndiaaRPut
import Derived.Test.YtnhjfdgdjfndiaaSector
namespace Go.Proofs.Ytnhjfdgdjfndiaa
open Go.RowKit

set_option maxRecDepth 100000 in
set_option maxHeartbeats 1000000 in
theorem rseal_bad (k e s p q : Int) (A : Option Addr) (m c : Nat) (bs : List UInt8) (w : World) (i1 : k ≤ 9223372036854775807) (i2 : e ≤ 9223372036854775807) (i3 : s ≤ 9223372036854775807) (i4 : p ≤ 9223372036854775807) (i5 : q ≤ 9223372036854775807)
    (hbad : ¬ (fitTo [k, e, s, p, q, bs.length] 5 = true ∧ k ≠ 0 ∧ q ≠ 0 ∧ p < q)) :
    Calls Try.prog 28 #[.int .i64 k, .int .i64 e, .int .i64 s, .int .i64 p, .int .i64 q, .slice A m c] w
      (RetP2 (fun v n w' => n = (sealP k e s p q bs).2 ∧ OwnB w' w.heap.size v (sealP k e s p q bs).1) w) := by
  have hres := Lib.hid (sealP_range hbad)
  have hft : fitTo [k, e, s, p, q, (bs.length : Int)] 5 = (fitsB k 1 && fitsB e 4 && fitsB s 7 && fitsB p 1 && fitsB q 1) := by simp [fitTo, sizesL]
  rw [hft] at hbad
  have HB := Lib.hid hbad
  clear hft hbad
  cases f1 : fitsB k 1
  · go_enter Try.func28, Try.ntmps28
    go_wp2_with (go_at_call 17; refine (rfits_any _ _ _ (by assumption)).mono ?_; rintro e w' ⟨rfl, rfl⟩)
    go_ret2
    exact ⟨_, _, rfl, by rw [hres.out]; exact ⟨rfl, OwnB.nil _ _⟩, bl⟩
  · cases f2 : fitsB e 4
    · go_enter Try.func28, Try.ntmps28
      go_wp2_with (go_at_call 17; refine (rfits_any _ _ _ (by assumption)).mono ?_; rintro e w' ⟨rfl, rfl⟩)
      go_ret2
      exact ⟨_, _, rfl, by rw [hres.out]; exact ⟨rfl, OwnB.nil _ _⟩, bl⟩
    · cases f3 : fitsB s 7
      · go_enter Try.func28, Try.ntmps28
        go_wp2_with (go_at_call 17; refine (rfits_any _ _ _ (by assumption)).mono ?_; rintro e w' ⟨rfl, rfl⟩)
        go_ret2
        exact ⟨_, _, rfl, by rw [hres.out]; exact ⟨rfl, OwnB.nil _ _⟩, bl⟩
      · cases f4 : fitsB p 1
        · go_enter Try.func28, Try.ntmps28
          go_wp2_with (go_at_call 17; refine (rfits_any _ _ _ (by assumption)).mono ?_; rintro e w' ⟨rfl, rfl⟩)
          go_ret2
          exact ⟨_, _, rfl, by rw [hres.out]; exact ⟨rfl, OwnB.nil _ _⟩, bl⟩
        · cases f5 : fitsB q 1
          · go_enter Try.func28, Try.ntmps28
            go_wp2_with (go_at_call 17; refine (rfits_any _ _ _ (by assumption)).mono ?_; rintro e w' ⟨rfl, rfl⟩)
            go_ret2
            exact ⟨_, _, rfl, by rw [hres.out]; exact ⟨rfl, OwnB.nil _ _⟩, bl⟩
          · by_cases k1 : k = 0
            · have e1 : (k == 0) = true := by rw [beq_iff_eq]; exact k1
              clear k1
              go_enter Try.func28, Try.ntmps28
              go_wp2_with (go_at_call 17; refine (rfits_any _ _ _ (by assumption)).mono ?_; rintro e w' ⟨rfl, rfl⟩)
              go_ret2
              exact ⟨_, _, rfl, by rw [hres.out]; exact ⟨rfl, OwnB.nil _ _⟩, bl⟩
            · have e1 : (k == 0) = false := by rw [beq_eq_false_iff_ne]; exact k1
              by_cases k2 : q = 0
              · have e2 : (q == 0) = true := by rw [beq_iff_eq]; exact k2
                clear k1 k2
                go_enter Try.func28, Try.ntmps28
                go_wp2_with (go_at_call 17; refine (rfits_any _ _ _ (by assumption)).mono ?_; rintro e w' ⟨rfl, rfl⟩)
                go_ret2
                exact ⟨_, _, rfl, by rw [hres.out]; exact ⟨rfl, OwnB.nil _ _⟩, bl⟩
              · have e2 : (q == 0) = false := by rw [beq_eq_false_iff_ne]; exact k2
                have k3 : q ≤ p := by
                  rcases Int.lt_or_le p q with h | h
                  · exact absurd ⟨by rw [f1, f2, f3, f4, f5]; rfl, k1, k2, h⟩ HB.out
                  · exact h
                clear k1 k2
                go_enter Try.func28, Try.ntmps28
                go_wp2_with (go_at_call 17; refine (rfits_any _ _ _ (by assumption)).mono ?_; rintro e w' ⟨rfl, rfl⟩)
                go_ret2
                exact ⟨_, _, rfl, by rw [hres.out]; exact ⟨rfl, OwnB.nil _ _⟩, bl⟩

set_option maxRecDepth 100000 in
set_option maxHeartbeats 1000000 in
theorem rseal_any (k e s p q : Int) (A : Option Addr) (m c : Nat) (bs : List UInt8) (w : World) (hb : RdB w A m bs) (hm : m ≤ 140737488350000) (i1 : k ≤ 9223372036854775807) (i2 : e ≤ 9223372036854775807) (i3 : s ≤ 9223372036854775807) (i4 : p ≤ 9223372036854775807) (i5 : q ≤ 9223372036854775807) :
    Calls Try.prog 28 #[.int .i64 k, .int .i64 e, .int .i64 s, .int .i64 p, .int .i64 q, .slice A m c] w
      (RetP2 (fun v n w' => n = (sealP k e s p q bs).2 ∧ OwnB w' w.heap.size v (sealP k e s p q bs).1) w) := by
  by_cases hcond : fitTo [k, e, s, p, q, bs.length] 5 = true ∧ k ≠ 0 ∧ q ≠ 0 ∧ p < q
  · have hlb := hb.len
    subst hlb
    have hft : fitTo [k, e, s, p, q, (bs.length : Int)] 5 = (fitsB k 1 && fitsB e 4 && fitsB s 7 && fitsB p 1 && fitsB q 1) := by simp [fitTo, sizesL]
    have hc1 := hcond.1
    rw [hft] at hc1
    simp only [Bool.and_eq_true] at hc1
    obtain ⟨⟨⟨⟨f1, f2⟩, f3⟩, f4⟩, f5⟩ := hc1
    have e1 : (k == 0) = false := by rw [beq_eq_false_iff_ne]; exact hcond.2.1
    have e2 : (q == 0) = false := by rw [beq_eq_false_iff_ne]; exact hcond.2.2.1
    have e3 := hcond.2.2.2
    have hbw : Below w.heap.size w w := bl
    by_cases hlen : 496 < bs.length
    · have hres := Lib.hid (sealP_large hcond hlen)
      clear hcond hft
      go_enter Try.func28, Try.ntmps28
      go_wp2_with (go_at_call 17; refine (rfits_any _ _ _ (by assumption)).mono ?_; rintro e w' ⟨rfl, rfl⟩)
      go_ret2
      exact ⟨_, _, rfl, by rw [hres.out]; exact ⟨rfl, OwnB.nil _ _⟩, bl⟩
    · have hres := Lib.hid (sealP_ok hcond hlen)
      have h16 := Lib.hid (hdTo_16 k e s p q bs.length hcond.1 (by omega) (by omega))
      obtain ⟨h1, x1⟩ : ∃ h1, h1 = putB [] k 1 := ⟨_, rfl⟩
      obtain ⟨h2, x2⟩ : ∃ h2, h2 = putB h1 e 4 := ⟨_, rfl⟩
      obtain ⟨h3, x3⟩ : ∃ h3, h3 = putB h2 s 7 := ⟨_, rfl⟩
      obtain ⟨h4, x4⟩ : ∃ h4, h4 = putB h3 p 1 := ⟨_, rfl⟩
      obtain ⟨h5, x5⟩ : ∃ h5, h5 = putB h4 q 1 := ⟨_, rfl⟩
      obtain ⟨h6, x6⟩ : ∃ h6, h6 = putB h5 (bs.length : Int) 2 := ⟨_, rfl⟩
      have hd : hdTo [k, e, s, p, q, (bs.length : Int)] 6 = h6 := by rw [x6, x5, x4, x3, x2, x1]; rfl
      rw [hd] at hres h16
      have l1 : h1.length ≤ 7 := by rw [x1]; exact putB_le _ _ _
      have l2 : h2.length ≤ 14 := by have := putB_le h1 e 4; rw [← x2] at this; omega
      have l3 : h3.length ≤ 21 := by have := putB_le h2 s 7; rw [← x3] at this; omega
      have l4 : h4.length ≤ 28 := by have := putB_le h3 p 1; rw [← x4] at this; omega
      have l5 : h5.length ≤ 35 := by have := putB_le h4 q 1; rw [← x5] at this; omega
      have X1 := Lib.hid x1
      have X2 := Lib.hid x2
      have X3 := Lib.hid x3
      have X4 := Lib.hid x4
      have X5 := Lib.hid x5
      have X6 := Lib.hid x6
      clear hcond hft hd x1 x2 x3 x4 x5 x6
      go_enter Try.func28, Try.ntmps28
      go_wp2_with (first
        | (go_at_call 17; refine (rfits_any _ _ _ (by assumption)).mono ?_; rintro e w' ⟨rfl, rfl⟩)
        | fail)
      refine (rput_any _ _ _ [] _ _ _ (Rd.nil _ _ _) (by omega) i1).mono ?_
      rintro e' w1 ⟨v1, rfl, o1, b1⟩
      rw [← X1.out] at o1
      obtain ⟨A1, c1, rfl, r1, _⟩ := o1.form
      have hbw := nx hbw b1
      go_wp2_with fail
      refine (rput_any _ _ _ h1 _ _ _ r1 (by omega) i2).mono ?_
      rintro e' w2 ⟨v2, rfl, o2, b2⟩
      rw [← X2.out] at o2
      obtain ⟨A2, c2, rfl, r2, _⟩ := o2.form
      have hbw := nx hbw b2
      go_wp2_with fail
      refine (rput_any _ _ _ h2 _ _ _ r2 (by omega) i3).mono ?_
      rintro e' w3 ⟨v3, rfl, o3, b3⟩
      rw [← X3.out] at o3
      obtain ⟨A3, c3, rfl, r3, _⟩ := o3.form
      have hbw := nx hbw b3
      go_wp2_with fail
      refine (rput_any _ _ _ h3 _ _ _ r3 (by omega) i4).mono ?_
      rintro e' w4 ⟨v4, rfl, o4, b4⟩
      rw [← X4.out] at o4
      obtain ⟨A4, c4, rfl, r4, _⟩ := o4.form
      have hbw := nx hbw b4
      go_wp2_with fail
      refine (rput_any _ _ _ h4 _ _ _ r4 (by omega) i5).mono ?_
      rintro e' w5 ⟨v5, rfl, o5, b5⟩
      rw [← X5.out] at o5
      obtain ⟨A5, c5, rfl, r5, _⟩ := o5.form
      have hbw := nx hbw b5
      go_wp2_with fail
      refine (rput_any _ _ _ h5 _ _ _ r5 (by omega) (by omega)).mono ?_
      rintro e' w6 ⟨v6, rfl, o6, b6⟩
      rw [← X6.out] at o6
      have o6 := o6.mono (show w.heap.size ≤ w5.heap.size from hbw.size)
      obtain ⟨A6, c6, rfl, r6, _⟩ := o6.form
      have hbw := nx hbw b6
      go_wp2_with ((with_reducible show wpList _ _ _ (⟨some 74, _, _, _, _, _⟩ :: _) _ _); refine wpL_appB rfl (.tmp 72) (.tmp 73) rfl w.heap.size _ h6 rfl o6 A _ c bs rfl (hb.below hbw) (by rw [h16.out]; omega) hbw.size ?_; intro v7 w7 o7 hg7 _; have hbw := hbw.grown hg7 hbw.size (fun j hj => (World.ownsRow.lt o6 j hj).1))
      have hL : Hid ((h6 ++ bs).length = bs.length + 16) := by show _ = _; rw [List.length_append, h16.out]; omega
      obtain ⟨wa, hwa⟩ : ∃ wa : World, wa = w7 := ⟨_, rfl⟩
      subst hwa
      go_loopw [14] (fun v wr => ∃ j : Nat, bs.length + j ≤ 496 ∧ OwnB wr w.heap.size v (h6 ++ bs ++ List.replicate j 0) ∧ Below w.heap.size w wr ∧ ∃ A c, v = .slice A (bs.length + 16 + j) c) (fun v _ => 512 - (match v with | .slice _ n _ => n | _ => 0))
      case atStart =>
        obtain ⟨A7, c7, hv7, _⟩ := o7.form
        exact ⟨0, by omega, by simpa using o7, hbw, A7, c7, by rw [hv7, hL.out]⟩
      case round =>
        obtain ⟨j, hj, hown, hbr, Av, cv, rfl⟩ := hrel
        have hLj : Hid ((h6 ++ bs ++ List.replicate j (0 : UInt8)).length = bs.length + 16 + j) := by show _ = _; rw [List.length_append, hL.out, List.length_replicate]
        by_cases hlt : bs.length + j < 496
        · go_wp2_with ((with_reducible show wpList _ _ _ (⟨some 80, _, _, _, _, _⟩ :: _) _ _); refine wpL_pushB rfl (.tmp 78) (.tmp 79) rfl w.heap.size _ (h6 ++ bs ++ List.replicate j 0) rfl hown _ 0 rfl rfl ?hb hbr.size ?_; rotate_right; intro v8 w8 o8 hg8 _)
          case hb => rw [hLj.out]; omega
          have hbr8 := hbr.grown hg8 hbr.size (fun j hj => (World.ownsRow.lt hown j hj).1)
          obtain ⟨A8, c8, hv8, _⟩ := o8.form
          rw [List.length_append, hLj.out] at hv8
          subst hv8
          go_roundw
          case rel => exact ⟨j + 1, by omega, by rw [List.replicate_succ', ← List.append_assoc]; exact o8, hbr8, A8, c8, rfl⟩
          case measure => simp; omega
        · have hje : Hid (j = 496 - bs.length) := by show _ = _; omega
          go_wp2
          go_ret2
          exact ⟨_, _, rfl, by rw [hres.out, ← hje.out]; exact ⟨rfl, hown⟩, hbr⟩
  · exact rseal_bad k e s p q A m c bs w i1 i2 i3 i4 i5 hcond
end Go.Proofs.Ytnhjfdgdjfndiaa
