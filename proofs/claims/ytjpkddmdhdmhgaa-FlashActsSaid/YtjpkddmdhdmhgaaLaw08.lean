/- flash: answers of layer 8, and FlashTorn. -/
import Derived.Test.YtjpkddmdhdmhgaaFlash5
import Derived.Test.YtjpkddmdhdmhgaaFlash6
import Derived.Test.YtjpkddmdhdmhgaaFlashLP
import Derived.Test.YtjpkddmdhdmhgaaLawT
import Derived.Test.YtjpkddmdhdmhgaaSame
namespace Go.Proofs.Ytjpkddmdhdmhgaa
open Go.RowKit

theorem bS8 (w : World) (o : Obj) : Below w.heap.size w (w.alloc o) := bl.alloc (Nat.le_refl _) _
theorem Dev.g_lt {w : World} {B g : Nat} {F : Nat → Prop} {d : Dv} (h : Dev w B F g d) : B ≤ g ∧ g < w.heap.size := h.F_lt g h.g_F
theorem new_ne {w : World} {B g : Nat} {F : Nat → Prop} {d : Dv} (h : Dev w B F g d) : ∀ b off, (some ⟨w.heap.size, 0, none⟩ : Option Addr) = some ⟨b, off, none⟩ → b ≠ g := fun b off e => by
  injection e with e
  injection e with e
  subst e
  exact Nat.ne_of_gt h.g_lt.2
/-- What the device's call may have written is the law's own. -/
theorem Dev.bw {w0 w w' : World} {B g : Nat} {F : Nat → Prop} {d : Dv} (hb : Below w0.heap.size w0 w) (h : Dev w B F g d) (hB : w0.heap.size ≤ B) (hc : Chg F w w') : Below w0.heap.size w0 w' :=
  hb.trans (hc.below (fun x hx => Nat.le_trans hB (h.F_lt x hx).1) hb.size)

theorem OwnB.chg2 {w w' : World} {base g n c : Nat} {F : Nat → Prop} {bs : List UInt8} (h : OwnB w base (.slice (some ⟨g, 0, none⟩) n c) bs) (hc : Chg F w w') (hF : ∀ x, F x → x ≠ g) : OwnB w' base (.slice (some ⟨g, 0, none⟩) n c) bs := by
  refine ⟨h.1, ?_⟩
  rcases h.2 with h0 | ⟨g', cap, cur, e, h1, h2, h3⟩
  · exact .inl h0
  · refine .inr ⟨g', cap, cur, e, h1, hc.heap h2 (fun hf => ?_), h3⟩
    injection e with e
    injection e with e
    injection e with e
    exact hF g' hf e.symm

set_option maxHeartbeats 400000 in
theorem zero_any (w : World) : Calls Try.prog 26 #[] w (RetP (fun v w' => ∃ g, v = .slice (some ⟨g, 0, none⟩) 512 512 ∧ OwnB w' w.heap.size v zero512) w) := by
  have hmk : ∀ W : World, (Instr.makeSlice 22 (.int .i64 512) (.int .i64 512)).run Try.prog W = .ok (.slice (some ⟨W.heap.size, 0, none⟩) 512 512) (W.alloc (.cells (madeCells #[.int .u8 0] 512) 5)) := mkB 512 512 (Nat.le_refl _) (by omega)
  have ho1 : OwnB (w.alloc (.cells (madeCells #[.int .u8 0] 512) 5)) w.heap.size (.slice (some ⟨w.heap.size, 0, none⟩) 512 512) zero512 := OwnB.made w 512 (by unfold maxLen; omega)
  go_enter Try.func26, Try.ntmps26
  go_wp2
  go_ret
  exact ⟨_, rfl, ⟨_, rfl, ho1⟩, bS8 _ _⟩

set_option maxRecDepth 100000 in
set_option maxHeartbeats 1000000 in
theorem answers08_any (w : World) : Calls Try.prog 21 #[] w (LawT w) := by
  have hn : Calls Try.prog 20 #[.int .i64 2] w _ := new_any w 2 (by omega) (by omega)
  have HN := Lib.hid hn
  clear hn
  go_enter Try.func21, Try.ntmps21
  go_wp2_with fail
  refine HN.out.mono ?_
  rintro e w1 ⟨g, F, rfl, hd1, hb1⟩
  have HD1 := Lib.hid hd1
  have HT1 := Lib.hid two_new
  clear hd1
  go_wp2_with fail
  refine (write_any _ _ g F (Dv.new 2) 1 _ 1 1 [7] (HD1.out.below (bS8 w1 _)) (lit_rd w1 [7] (by decide)) (new_ne HD1.out) (Nat.zero_le _)).mono ?_
  rintro e w2 ⟨rfl, F2, hd2, hc2, _, hF2⟩
  rw [(HT1.out.write (bs := [7]) (by decide)).2]
  have HD2 := Lib.hid hd2
  have HT2 := Lib.hid (HT1.out.write (bs := [7]) (by decide)).1
  have hbw2 := Dev.bw (nx hb1 (bS8 w1 (.cells #[.int .u8 7] 5))) (HD1.out.below (bS8 w1 _)) (Nat.le_refl _) hc2
  clear hd2
  go_wp2_with fail
  refine (read_any _ _ g F2 _ 1 HD2.out (by rw [HT2.out.2.2.1]; exact Nat.le_of_ble_eq_true rfl)).mono ?_
  rw [HT2.out.read_unsure (u := [])]
  rintro e w3 ⟨v3, rfl, hown3, hb3⟩
  have hpl : (pad [7]).length = 512 := pad_len (by decide)
  obtain ⟨g3, c3, rfl, _, _, hl3, _, hcell⟩ := hown3.flat (by show 0 < (pad [7]).length; rw [hpl]; decide)
  have c0 := hcell 0 7 rfl
  simp only [hpl] at hl3 ⊢
  clear hcell hown3
  go_wp2
  go_ret
  exact ⟨rfl, nx hbw2 hb3⟩

set_option maxRecDepth 100000 in
set_option maxHeartbeats 2000000 in
theorem flashTorn_walk (A : Option Addr) (n c : Nat) (bs : List UInt8) (again : Bool) (w : World) (hb : RdB w A n bs) :
    Calls Try.prog 6 #[.slice A n c, .bool again] w (LawT w) := by
  have hlb := hb.len
  subst hlb
  have hn : Calls Try.prog 20 #[.int .i64 2] w _ := new_any w 2 (by omega) (by omega)
  have HN := Lib.hid hn
  clear hn
  by_cases hl : 512 < bs.length
  · go_enter Try.func6, Try.ntmps6
    go_wp2_with fail
    refine HN.out.mono ?_
    rintro e w1 ⟨g, F, rfl, hd1, hb1⟩
    clear hd1
    go_wp2_with (go_at_call 21; refine (answers08_any _).mono ?_; rintro e w2 ⟨rfl, hb2⟩; have hb1 := nx hb1 hb2)
    go_ret
    exact ⟨rfl, hb1⟩
  · go_enter Try.func6, Try.ntmps6
    go_wp2_with fail
    refine HN.out.mono ?_
    rintro e w1 ⟨g, F, rfl, hd1, hb1⟩
    have HD1 := Lib.hid hd1
    have HT1 := Lib.hid two_new
    clear hd1
    go_wp2_with (go_at_call 21; refine (answers08_any _).mono ?_; rintro e w2 ⟨rfl, hb2⟩)
    have HD2 := Lib.hid (HD1.out.below hb2)
    refine (write_any _ _ g F (Dv.new 2) 1 _ 1 1 [1] (HD2.out.below (bS8 w2 _)) (lit_rd w2 [1] (by decide)) (new_ne HD2.out) (Nat.zero_le _)).mono ?_
    rintro e w3 ⟨rfl, F3, hd3, hc3, _, hF3⟩
    rw [(HT1.out.write (bs := [1]) (by decide)).2]
    have HD3 := Lib.hid hd3
    have HT3 := Lib.hid (HT1.out.write (bs := [1]) (by decide)).1
    have hbw3 := Dev.bw (nx (nx hb1 hb2) (bS8 w2 (.cells #[.int .u8 1] 5))) (HD2.out.below (bS8 w2 _)) (Nat.le_refl _) hc3
    clear hd3
    go_wp2_with fail
    refine (crash_any _ _ g F3 _ 0 1 (by decide) (by decide) HD3.out (by rw [HT3.out.2.2.1]; exact Nat.le_of_ble_eq_true rfl)).mono ?_
    rintro e w4 ⟨rfl, hd4, hc4⟩
    have HD4 := Lib.hid hd4
    have HT4 := Lib.hid (HT3.out.crash_one 0 1)
    rw [if_pos (show bitN 1 0 = true from rfl)] at HT4
    have hbw4 := Dev.bw hbw3 HD3.out (Nat.le_refl _) hc4
    clear hd4
    go_wp2_with fail
    refine (read_any _ _ g F3 _ 1 HD4.out (by rw [HT4.out.2.2.1]; exact Nat.zero_le _)).mono ?_
    rw [HT4.out.read_sure, show sureV none = ([], 9) from rfl]
    rintro e w5 ⟨v5, rfl, hown5, hb5⟩
    have HD5 := Lib.hid (HD4.out.below hb5)
    have hbw5 := nx hbw4 hb5
    obtain ⟨A5, c5, rfl, _⟩ := hown5.form
    go_wp2_with ((with_reducible show wpList _ _ _ (⟨some 46, _, _, _, _, _⟩ :: _) _ _); refine wpL_cloneB rfl (.tmp 44) (.tmp 45) rfl rfl A _ c bs rfl (hb.below hbw5) (by omega) ?_; intro v6 w6 hown6 hb6; obtain ⟨A6, c6, rfl, hr6, hl6, hm6⟩ := hown6.form)
    have HD6 := Lib.hid (HD5.out.below hb6)
    have hbw6 := nx hbw5 hb6
    refine (write_any _ _ g F3 _ 1 _ _ _ bs HD6.out hr6 (fun b off e => by have h1 := (World.ownsRow.lt hown6 b (by rw [e]; rfl)).1; have h2 := HD5.out.g_lt.2; omega) (by rw [HT4.out.2.2.1]; exact Nat.zero_le _)).mono ?_
    rintro e w7 ⟨rfl, F7, hd7, hc7, _, hF7⟩
    rw [(HT4.out.write (bs := bs) (by omega)).2]
    have HD7 := Lib.hid hd7
    have HT7 := Lib.hid (HT4.out.write (bs := bs) (by omega)).1
    have hbw7 := Dev.bw hbw6 HD6.out (Nat.le_refl _) hc7
    clear hd7
    go_wp2_with fail
    refine (read_any _ _ g F7 _ 1 HD7.out (by rw [HT7.out.2.2.1]; exact Nat.le_of_ble_eq_true rfl)).mono ?_
    rw [HT7.out.read_unsure (u := [])]
    rintro e w8 ⟨v8, rfl, hown8, hb8⟩
    have HD8 := Lib.hid (HD7.out.below hb8)
    have hbw8 := nx hbw7 hb8
    have hpl : (pad bs).length = 512 := pad_len (by omega)
    obtain ⟨A8, c8, rfl, hr8, _⟩ := hown8.form
    simp only [hpl] at hr8 ⊢
    go_wp2_with fail
    refine (zero_any _).mono ?_
    rintro e w9 ⟨_, rfl, ⟨g9, rfl, hown9⟩, hb9⟩
    have HD9 := Lib.hid (HD8.out.below hb9)
    have hbw9 := nx hbw8 hb9
    have hr9 := hr8.below hb9
    have hg9 : w8.heap.size ≤ g9 ∧ g9 < w9.heap.size := hown9.lt
    go_wp2_with ((with_reducible show wpList _ _ _ (⟨some 56, _, _, _, _, _⟩ :: _) _ _); refine wpL_copyH rfl (.tmp 54) (.tmp 55) rfl g9 512 512 rfl A _ c rfl _ zero512 hown9 bs (hb.below hbw9) (by omega) ?_; intro w10 hown10 hg10; rw [pad_eq] at hown10)
    have hg90 := HD8.out.F_lt
    have hc10 : Chg (fun x => x = g9) w9 w10 := (Chg.refl _ w9).grown hg10 (fun k hk => .inl (by injection hk with hk; exact hk.symm))
    have HD10 := Lib.hid (HD9.out.chg hc10 (fun x hx e => by have := (hg90 x hx).2; subst e; omega))
    have hr10 : RdB w10 A8 512 (pad bs) := hr9.chg hc10 (fun b off e => by
      obtain ⟨b', off', e', hl'⟩ := hr8.lt (by omega)
      rw [e] at e'
      injection e' with e'
      injection e' with e'
      subst e'
      omega)
    have hbw10 : Below w.heap.size w w10 := hbw9.grown hg10 hbw9.size (fun k hk => by injection hk with hk; have := hbw8.size; omega)
    clear hg90
    refine (same_any _ _ _ _ _ _ (pad bs) (pad bs) _ hr10 hown10.rd.1 (by unfold maxLen; omega) (by unfold maxLen; omega)).mono ?_
    rintro e w11 ⟨rfl, k11, rfl⟩
    have hown11 := hown10.drewN k11
    have HD11 := Lib.hid (HD10.out.chg (G := fun _ => False) ((Chg.refl _ w10).drewN k11) (fun _ _ h => h))
    have hbw11 := dN hbw10 k11
    cases again
    · go_wp2_with fail
      refine (crash_any _ _ g F7 _ 0 0 (by decide) (by decide) HD11.out (by rw [HT7.out.2.2.1]; exact Nat.le_of_ble_eq_true rfl)).mono ?_
      rintro e w12 ⟨rfl, hd12, hc12⟩
      have HD12 := Lib.hid hd12
      have HT12 := Lib.hid (HT7.out.crash_one 0 0)
      rw [if_neg (show ¬ bitN 0 0 = true by decide), if_neg (show ¬ bitN 0 0 = true by decide)] at HT12
      have hbw12 := Dev.bw hbw11 HD11.out (Nat.le_refl _) hc12
      clear hd12
      go_wp2_with fail
      refine (read_any _ _ g F7 _ 1 HD12.out (by rw [HT12.out.2.2.1]; exact Nat.zero_le _)).mono ?_
      rw [HT12.out.read_sure, show sureV none = ([], 9) from rfl]
      rintro e w13 ⟨v13, rfl, hown13, hb13⟩
      obtain ⟨A13, c13, rfl, _⟩ := hown13.form
      go_wp2
      go_ret
      exact ⟨rfl, nx hbw12 hb13⟩
    · go_wp2_with fail
      refine (sync_any _ _ g F7 _ HD11.out (by rw [HT7.out.2.2.1]; exact Nat.le_of_ble_eq_true rfl)).mono ?_
      rintro e w12 ⟨rfl, hd12, hc12⟩
      rw [HT7.out.sync_one.2]
      have HD12 := Lib.hid hd12
      have HT12 := Lib.hid HT7.out.sync_one.1
      have hbw12 := Dev.bw hbw11 HD11.out (Nat.le_refl _) hc12
      have hown12 := OwnB.chg2 hown11 hc12 (fun x hx e => by have := (HD8.out.F_lt x hx).2; subst e; omega)
      clear hd12
      go_wp2_with fail
      refine (crash_any _ _ g F7 _ 0 0 (by decide) (by decide) HD12.out (by rw [HT12.out.2.2.1]; exact Nat.zero_le _)).mono ?_
      rintro e w13 ⟨rfl, hd13, hc13⟩
      have HD13 := Lib.hid hd13
      have HT13 := Lib.hid (HT12.out.crash_none 0 0)
      have hbw13 := Dev.bw hbw12 HD12.out (Nat.le_refl _) hc13
      have hown13 := OwnB.chg2 hown12 hc13 (fun x hx e => by have := (HD8.out.F_lt x hx).2; subst e; omega)
      clear hd13
      go_wp2_with fail
      refine (read_any _ _ g F7 _ 1 HD13.out (by rw [HT13.out.2.2.1]; exact Nat.zero_le _)).mono ?_
      rw [HT13.out.read_sure, show sureV (some (pad bs)) = (pad bs, 0) from rfl]
      rintro e w14 ⟨v14, rfl, hown14, hb14⟩
      obtain ⟨A14, c14, rfl, hr14, _⟩ := hown14.form
      have hbw14 := nx hbw13 hb14
      have hr13 := (hown13.below hb14).rd.1
      simp only [hpl] at hr14 ⊢
      go_wp2_with fail
      refine (same_any _ _ _ _ _ _ (pad bs) (pad bs) _ hr14 hr13 (by unfold maxLen; omega) (by unfold maxLen; omega)).mono ?_
      rintro e w15 ⟨rfl, k15, rfl⟩
      go_wp2
      go_ret
      exact ⟨rfl, dN hbw14 k15⟩
end Go.Proofs.Ytjpkddmdhdmhgaa
