/- flash: FlashApart. -/
import Derived.Test.YtjpkddmdhdmhgaaLaw08
import Derived.Test.YtjpkddmdhdmhgaaFlash8
import Derived.Test.YtjpkddmdhdmhgaaFlashNil
import Derived.RegionTactic
import Derived.BigRegion
namespace Go.Proofs.Ytjpkddmdhdmhgaa
open Go.RowKit

theorem apart_plain {bs : List UInt8} (h : bs.length ≤ 512) : ((Dv.new 3).write 1 bs).1.unsure = [(1, pad bs)] ∧ ((Dv.new 3).write 1 bs).1.read 1 = (pad bs, 0) ∧ (((Dv.new 3).write 1 bs).1.crash 0 0).read 1 = (zero512, 0) ∧ ((Dv.new 3).write 1 bs).2 = 0 ∧ (((Dv.new 3).write 1 bs).1.write 1 [9]).1.unsure.length ≤ 2 := by
  have h3 := Dv.new_len 3
  have e1 : (Dv.new 3).write 1 bs = ({ Dv.new 3 with unsure := [] ++ [(1, pad bs)] }, 0) := Dv.write_ok rfl (by decide) (by rw [h3]; decide) h rfl
  rw [e1]
  refine ⟨rfl, ?_, ?_, rfl, ?_⟩
  · rw [Dv.read_ok rfl (by decide) (by show (1 : Int) < ((Dv.new 3).sure.length : Int); rw [h3]; decide)]
    unfold Dv.readV
    simp only [List.nil_append, lastW, if_pos]
  · rw [Dv.read_ok rfl (by decide) (by show (1 : Int) < ((crashL _ _ _ _ (Dv.new 3).sure).length : Int); rw [crashL_length, h3]; decide)]
    rfl
  · rw [Dv.write_ok rfl (by decide) (by show (1 : Int) < ((Dv.new 3).sure.length : Int); rw [h3]; decide) (by decide) rfl]
    exact Nat.le_refl _

set_option maxRecDepth 100000 in
set_option maxHeartbeats 4000000 in
theorem flashApart_walk (A : Option Addr) (n c : Nat) (bs : List UInt8) (k : Int) (w : World) (hb : RdB w A n bs) :
    Calls Try.prog 8 #[.slice A n c, .int .i64 k] w (LawT w) := by
  have hlb := hb.len
  subst hlb
  have hn : Calls Try.prog 20 #[.int .i64 3] w _ := new_any w 3 (by omega) (by omega)
  have HN := Lib.hid hn
  clear hn
  by_cases hl : 512 < bs.length
  · go_enter Try.func8, Try.ntmps8
    go_wp2_with fail
    refine HN.out.mono ?_
    rintro e w1 ⟨g, F, rfl, hd1, hb1⟩
    clear hd1
    go_wp2_with (go_at_call 21; refine (answers08_any _).mono ?_; rintro e w2 ⟨rfl, hb2⟩; have hb1 := nx hb1 hb2)
    go_ret
    exact ⟨rfl, hb1⟩
  · by_cases hl1 : bs.length < 1
    · go_enter Try.func8, Try.ntmps8
      go_wp2_with fail
      refine HN.out.mono ?_
      rintro e w1 ⟨g, F, rfl, hd1, hb1⟩
      clear hd1
      go_wp2_with (go_at_call 21; refine (answers08_any _).mono ?_; rintro e w2 ⟨rfl, hb2⟩; have hb1 := nx hb1 hb2)
      go_ret
      exact ⟨rfl, hb1⟩
    · have hpl := Lib.hid (apart_plain (bs := bs) (by omega))
      have hpad : (pad bs).length = 512 := pad_len (by omega)
      have HPAD := Lib.hid hpad
      obtain ⟨b0, off0, x, rfl, hx, hc0⟩ := hb.at_ (k := 0) (by omega)
      simp only [Nat.add_zero] at hc0
      have hpx : (pad bs)[0]? = some x := by unfold pad; rw [List.getElem?_append_left (by omega)]; exact hx
      have HX := Lib.hid hx
      have HPX := Lib.hid hpx
      have hlb0 : b0 < w.heap.size := World.block_lt_of_cell? w _ hc0
      clear hpad hx hpx
      go_enter Try.func8, Try.ntmps8
      go_wp2_with fail
      refine HN.out.mono ?_
      rintro e w1 ⟨g, F, rfl, hd1, hb1⟩
      have HD1 := Lib.hid hd1
      clear hd1
      go_wp2_with (first
        | (go_at_call 21; refine (answers08_any _).mono ?_; rintro e w2 ⟨rfl, hb2⟩; have hbw2 := nx hb1 hb2)
        | ((with_reducible show wpList _ _ _ (⟨some 46, _, _, _, _, _⟩ :: _) _ _); refine wpL_cloneB rfl (.tmp 44) (.tmp 45) rfl rfl _ _ c bs rfl (hb.below hbw2) (by omega) ?_; intro v3 w3 hown3 hb3; obtain ⟨g3, c3, rfl, hg3a, hg3b, hl3, hm3, hcell3⟩ := hown3.flat (by omega)))
      have HD3 := Lib.hid ((HD1.out.below hb2).below hb3)
      have hbw3 := nx hbw2 hb3
      have hg2 := (HD1.out.below hb2).g_lt
      refine (write_any _ _ g F (Dv.new 3) 1 _ _ _ bs HD3.out hown3.rd.1 (fun b off e => by injection e with e; injection e with e; omega) (Nat.zero_le _)).mono ?_
      rintro e w4 ⟨rfl, F4, hd4, hc4, _, hF4⟩
      rw [hpl.out.2.2.2.1]
      have HD4 := Lib.hid hd4
      have hbw4 := Dev.bw hbw3 HD3.out (Nat.le_refl _) hc4
      have hng3 : ∀ x, F x → x ≠ g3 := fun x hx => by have := ((HD1.out.below hb2).F_lt x hx).2; omega
      have hown4 := OwnB.chg2 hown3 hc4 hng3
      have hq := hown4.cell (k := 0) (by omega)
      have hqf := hown4.free 0
      clear hd4 hcell3
      go_wp2_with fail
      obtain ⟨w5, hw5⟩ : ∃ w5, w5 = w4.setCell ⟨g3, 0, none⟩ (.int .u8 (((bs[0]'(by omega)).toNat + 1 : Int) % 256)) := ⟨_, rfl⟩
      have hc5 : Chg (fun x => x = g3) w4 w5 := by rw [hw5]; exact (Chg.refl (fun x => x = g3) w4).setCell (p := ⟨g3, 0, none⟩) (Or.inl rfl) _
      have hbw5 : Below w.heap.size w w5 := by rw [hw5]; exact hbw4.setCell (Nat.le_trans hbw2.size hg3a) _
      rw [← hw5]
      have hF4 : ∀ x, F4 x → x ≠ g3 := fun x hx => by
        rcases hF4 x hx with h | h
        · exact hng3 x h
        · omega
      have HD5 := Lib.hid (HD4.out.chg hc5 hF4)
      clear hw5 hq hqf
      refine (copy_any w5 _ g F4 _ HD5.out (by rw [hpl.out.1]; exact Nat.le_of_ble_eq_true rfl)).mono ?_
      rintro e w6 ⟨gc, Fc, rfl, hdc, hb6⟩
      have HDC6 := Lib.hid hdc
      have HD6 := Lib.hid (HD5.out.below hb6)
      have hbw6 := nx hbw5 hb6
      have hFc := Lib.hid hdc.F_lt
      have hF5 := Lib.hid HD5.out.F_lt
      clear hdc
      go_wp2_with fail
      refine (write_any _ _ g F4 _ 1 _ 1 1 [9] (HD6.out.below (bS8 w6 _)) (lit_rd w6 [9] (Nat.le_of_ble_eq_true rfl)) (new_ne HD6.out) (by rw [hpl.out.1]; exact Nat.le_of_ble_eq_true rfl)).mono ?_
      rintro e w7 ⟨rfl, F7, hd7, hc7, _, hF7⟩
      have HD7 := Lib.hid hd7
      have HDC7 := Lib.hid ((HDC6.out.below (bS8 w6 (.cells (List.map bV [9]).toArray 5))).chg hc7 (fun x hx hf => Nat.lt_irrefl _ (Nat.lt_of_lt_of_le (hF5.out x hf).2 (hFc.out x hx).1)))
      have hbw7 := Dev.bw (nx hbw6 (bS8 w6 (.cells (List.map bV [9]).toArray 5))) (HD6.out.below (bS8 w6 _)) (Nat.le_refl _) hc7
      have hz6 : (w6.alloc (.cells (List.map bV [9]).toArray 5)).heap.size = w6.heap.size + 1 := by simp
      have hF7 : ∀ x, Fc x → ¬ F7 x := fun x hx hf => by
        rcases hF7 x hf with h | h
        · exact Nat.lt_irrefl _ (Nat.lt_of_lt_of_le (hF5.out x h).2 (hFc.out x hx).1)
        · have := (hFc.out x hx).2; omega
      have HF7 := Lib.hid hF7
      clear hd7 hF7 hz6
      go_wp2_with fail
      refine (sync_any _ _ g F7 _ HD7.out (Nat.le_trans hpl.out.2.2.2.2 (by decide))).mono ?_
      rintro e w8 ⟨rfl, hd8, hc8⟩
      have HDC8 := Lib.hid (HDC7.out.chg hc8 HF7.out)
      have hbw8 := Dev.bw hbw7 HD7.out (Nat.le_refl _) hc8
      clear hd8
      go_wp2_with fail
      refine (read_any _ _ gc Fc _ 1 HDC8.out (by rw [hpl.out.1]; exact Nat.le_of_ble_eq_true rfl)).mono ?_
      rw [hpl.out.2.1]
      rintro e w9 ⟨v9, rfl, hown9, hb9⟩
      have HDC9 := Lib.hid (HDC8.out.below hb9)
      have hbw9 := nx hbw8 hb9
      obtain ⟨g9, c9, rfl, hg9a, hg9b, hl9, hm9, hcell9⟩ := hown9.flat (by show 0 < (pad bs).length; rw [HPAD.out]; decide)
      have q9 := hcell9 0 x HPX.out
      have d9 := below_cell hbw9 hc0
      simp only [HPAD.out] at hown9 hl9 ⊢
      clear hcell9
      go_wp2
      go_quiet (fail)
      obtain ⟨wA, hwA⟩ : ∃ wA, wA = w9.drewN nq := ⟨_, rfl⟩
      rw [← hwA]
      have hbA : Below w9.heap.size w9 wA := by rw [hwA]; exact dN bl nq
      have HDCA := Lib.hid (HDC9.out.below hbA)
      have hownA := hown9.below hbA
      have hbwA := nx hbw9 hbA
      have hg9A := Nat.lt_of_lt_of_le hg9b hbA.size
      clear hwA
      go_wp2_with fail
      refine (unsure_any _ _ gc Fc _ HDCA.out (by rw [hpl.out.1]; exact Nat.le_of_ble_eq_true rfl)).mono ?_
      rw [hpl.out.1]
      rintro e w10 ⟨v10, S10, rfl, hu10, hS10, hb10⟩
      obtain ⟨u, c10, gd, cd, rfl, hul, _, e0, e1, hod, hcd, hSd⟩ := unsure_own (i := 0) hu10 rfl HPAD.out
      have hSl := (hu10.S_lt gd hSd)
      have hug := (hu10.lt u rfl).1
      have hgdA := hS10 gd hSd
      have hne : gd ≠ u := fun e => hSl.2 (by rw [e]; rfl)
      have hgl := hSl.1
      have HDC10 := Lib.hid (HDCA.out.below hb10)
      have hbw10 := nx hbwA hb10
      have hown10 := hownA.below hb10
      have hfd := hod.free 0
      have hf9 := hown10.free 0
      obtain ⟨bd, od, y, ee, hy, hcy⟩ := hod.rd.1.at_ (k := 0) (by decide)
      injection ee with ee
      injection ee with ee1 ee2
      subst ee1 ee2
      obtain rfl : y = x := by rw [HPX.out] at hy; exact (Option.some.inj hy).symm
      have q10 := below_cell (nx hbA hb10) q9
      have d10 := below_cell hbw10 hc0
      simp only [Nat.zero_mul, Nat.zero_add, Nat.add_zero, List.length_singleton] at e0 e1 hcy ⊢
      have hn9 : g9 ≠ gd := by omega
      have hn9u : g9 ≠ u := by omega
      have hb9n : b0 ≠ g9 := by have := hbw8.size; omega
      clear hSl hy hu10
      go_wp2
      go_quiet (fail)
      go_wp2
      obtain ⟨wC, hwC⟩ : ∃ wC, wC = (w10.drewN nq).setCell ⟨g9, 0, none⟩ (.int .u8 (((y.toNat : Int) + 1) % 256)) := ⟨_, rfl⟩
      have hcC : Chg (fun x => x = g9) w10 wC := by rw [hwC]; exact ((Chg.refl (fun x => x = g9) w10).drewN nq).setCell (p := ⟨g9, 0, none⟩) (Or.inl rfl) _
      rw [← hwC]
      have e1C := hcC.cell e1 (Ne.symm hn9u)
      have hcyC := hcC.cell hcy (Ne.symm hn9)
      have hodC := hod.kept1 (hcC.block gd hgl (Ne.symm hn9))
      have hfdC := hodC.free 0
      have d10C := hcC.cell d10 hb9n
      have HDCC := Lib.hid (HDC10.out.chg hcC (fun x hx e => by have := (HDC8.out.F_lt x hx).2; omega))
      have hbwC : Below w.heap.size w wC := by rw [hwC]; exact (dN hbw10 nq).setCell (Nat.le_trans hbw8.size hg9a) _
      clear hwC q9 d9 q10 d10 e0 e1 hcy hfd hf9
      go_region
      obtain ⟨wD, hwD⟩ : ∃ wD, wD = (wC.setCell ⟨gd, 0, none⟩ (.int .u8 (((y.toNat : Int) + 1) % 256))).drew := ⟨_, rfl⟩
      have hcD : Chg (fun x => x = gd) wC wD := by rw [hwD]; exact ((Chg.refl (fun x => x = gd) wC).setCell (p := ⟨gd, 0, none⟩) (Or.inl rfl) _).drew
      have hbwD : Below w.heap.size w wD := by rw [hwD]; exact (hbwC.setCell (Nat.le_trans hbwA.size hgdA) _).drew
      rw [← hwD]
      have hs98 := hb9.size
      have hsA9 := hbA.size
      have HDCD := Lib.hid (HDCC.out.chg hcD (fun x hx e => by have := (HDC8.out.F_lt x hx).2; omega))
      have hFcl := HDC8.out.F_lt
      have hsD : w8.heap.size ≤ wD.heap.size := by have := hcD.size; have := hcC.size; have := hb10.size; omega
      clear hwD e1C hcyC hfdC d10C
      go_wp2_with fail
      refine (read_any _ _ gc Fc _ 1 HDCD.out (by rw [hpl.out.1]; exact Nat.le_of_ble_eq_true rfl)).mono ?_
      rw [hpl.out.2.1]
      rintro e w11 ⟨v11, rfl, hown11, hb11⟩
      have HDC11 := Lib.hid (HDCD.out.below hb11)
      have hbw11 := nx hbwD hb11
      obtain ⟨g11, c11, rfl, hg11a, hg11b, hl11, hm11, _⟩ := hown11.flat (by show 0 < (pad bs).length; rw [HPAD.out]; decide)
      simp only [HPAD.out] at hown11 hl11 ⊢
      go_wp2_with fail
      refine (crash_any _ _ gc Fc _ 0 0 (by decide) (by decide) HDC11.out (by rw [hpl.out.1]; exact Nat.le_of_ble_eq_true rfl)).mono ?_
      rintro e w12 ⟨rfl, hd12, hc12⟩
      have HDC12 := Lib.hid hd12
      have hbw12 := Dev.bw hbw11 HDC11.out (Nat.le_trans hbw4.size (by have := HD5.out.F_lt; exact Nat.le_of_lt_succ (Nat.lt_succ_of_le hc5.size))) hc12
      have hown12 := OwnB.chg2 hown11 hc12 (fun x hx e => by have := (hFcl x hx).2; omega)
      clear hd12
      go_wp2_with fail
      refine (read_any _ _ gc Fc _ 1 HDC12.out (Nat.zero_le _)).mono ?_
      rw [hpl.out.2.2.1]
      rintro e w13 ⟨v13, rfl, hown13, hb13⟩
      have hbw13 := nx hbw12 hb13
      have hown13' := hown12.below hb13
      obtain ⟨g13, c13, rfl, hg13a, hg13b, hl13, hm13, hcell13⟩ := hown13.flat (by show 0 < zero512.length; rw [zero512_len]; decide)
      have z13 := hcell13 0 0 rfl
      obtain ⟨bd, od, y', ee, hy, hcy⟩ := hown13'.rd.1.at_ (k := 0) (by decide)
      injection ee with ee
      injection ee with ee1 ee2
      subst ee1 ee2
      obtain rfl : y' = y := by rw [HPX.out] at hy; exact (Option.some.inj hy).symm
      have d13 := below_cell hbw13 hc0
      simp only [zero512_len, Nat.add_zero] at hl13 hcy ⊢
      clear hcell13 hy
      have h0l : (0 : Int) < (bs.length : Int) := by omega
      have h0n : 0 < bs.length := by omega
      go_wp2_with (go_at_call 25; refine (nil_read _ _).mono ?_; rintro e w14 ⟨rfl, rfl⟩)
      go_quiet (first
        | (go_at_call 22; exact quiet_ret (nil_write _ _ _ _ _))
        | (go_at_call 23; exact quiet_ret (nil_sync _))
        | (go_at_call 30; exact quiet_ret (nil_limit _ _))
        | (go_at_call 24; exact quiet_ret (nil_crash _ _ _))
        | (go_at_call 34; exact quiet_ret (nil_len _))
        | (go_at_call 33; exact quiet_ret (nil_down _))
        | (go_at_call 36; exact quiet_ret (nil_unsure _))
        | (go_at_call 32; exact quiet_ret (nil_copy _)))
      go_wp2
      go_ret
      exact ⟨rfl, dN hbw13 _⟩
end Go.Proofs.Ytjpkddmdhdmhgaa
