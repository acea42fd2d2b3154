/- WnameSets: the other half of the law's walk. -/
import Derived.Test.YtjpkddmdhdmhgaaLaw03S
namespace Go.Proofs.Ytjpkddmdhdmhgaa
open Go.RowKit

set_option maxRecDepth 100000 in
set_option maxHeartbeats 4000000 in
theorem wnameSets_ok (b0 off c : Nat) (bs : List UInt8) (k z : Nat) (n : Int) (w : World) (hb : RdB w (some ⟨b0, off, none⟩) bs.length bs) (h5 : bs.length ≤ 5000) (hnc : bs.length ≤ c) (hcm : c ≤ maxLen) (hf : fitsB n z = true) (hk : k + z ≤ bs.length) (hn : n ≤ 9223372036854775807) (Ax : Option Addr) (hAx : Ax = if c = k + z then some ⟨b0, off, none⟩ else some ⟨b0, off + (k + z), none⟩) :
    Calls Try.prog 12 #[.slice (some ⟨b0, off, none⟩) bs.length c, .int .i64 (k : Int), .int .i64 n, .int .i64 (z : Int)] w (LawT w) := by
  have hpl := putB_fit_length hf
  obtain ⟨hpl, hp1, hp7⟩ := hpl
  have hplz : (putB [] n z).length = z := by omega
  have HX := Lib.hid (show (Wr.nil.raw bs).b = bs from rfl)
  have HOK := Lib.hid (show setOk (Wr.nil.raw bs) k n z from ⟨hf, by omega, by rw [HX.out]; omega, by rw [HX.out]; omega⟩)
  have hwant : bs.take k ++ putB [] n z ++ bs.drop (k + z) = putAt bs k (putB [] n z) := by unfold putAt; rw [hplz, List.append_assoc]
  have HW := Lib.hid hwant
  have hwl : (putAt bs k (putB [] n z)).length = bs.length := putAt_length (by omega)
  have HPZ := Lib.hid hplz
  have H1 := Lib.hid hf
  have hrt := hb.take (k := k) (by omega)
  have hrx : RdB w Ax (bs.length - (k + z)) (bs.drop (k + z)) := by
    have h := Rd.cut hb (k + z) bs.length c hk (Nat.le_refl _) hnc
    rw [Nat.mul_one, Nat.mul_one, ← List.length_map (f := bV), List.take_length, ← List.map_drop, List.length_map] at h
    rw [Option.map_some, add_flat] at h
    rw [hAx]
    exact h
  have htl : (bs.take k).length = k := by rw [List.length_take]; omega
  generalize hr : putB [] n z = r at HPZ HW hwl
  have HR := Lib.hid hr
  generalize hq : putAt bs k r = q at HW hwl
  have HQ := Lib.hid hq
  have HQL := Lib.hid hwl
  have HP := Lib.hid (show ((Wr.nil.raw bs).put k r).b = q by rw [← hq]; rfl)
  clear hf hpl hplz hwant hr hq hwl
  unfold maxLen at hcm
  generalize he : k + z = e' at hk hrx HW hAx
  have hkz : IntKind.i64.wrap ((k : Int) + (z : Int)) = (e' : Int) := by rw [IntKind.wrap_i64]; omega
  have hkc : (k : Int) ≤ c := by omega
  have hkn : (k : Int) ≤ bs.length := by omega
  have hkn0 : (0 : Int) ≤ k := by omega
  have hkzc : (e' : Int) ≤ (bs.length : Int) := by omega
  have hkz0 : (0 : Int) ≤ e' := by omega
  have hsl : bs.length - e' ≤ 5000 := by omega
  have hzle : (z : Int) ≤ (bs.length : Int) - k := by omega
  generalize bs.take k = tk at hrt HW htl
  have hdl : (bs.drop e').length = bs.length - e' := List.length_drop
  generalize bs.drop e' = dp at hrx HW hdl
  have htk : tk.length ≤ 5000 := by omega
  have HTL := Lib.hid htl
  have hdk : dp.length ≤ 5000 := by omega
  clear htl hdl
  have hrl : r.length ≤ 7 := by have := HPZ.out; omega
  have HE := Lib.hid he
  clear he
  by_cases hce : c = e'
  · rw [if_pos hce] at hAx
    subst hAx
    subst hce
    have hz0 : bs.length - c = 0 := by omega
    rw [hz0] at hrx
    clear hz0
    go_enter Try.func12, Try.ntmps12
    go_wp2_with (first
      | (go_at_call 37; refine (wnew_any _).mono ?_; rintro e w1 ⟨g, F, rfl, hw1, hb1⟩)
      | (go_at_call 38; refine (answers03_any _).mono ?_; rintro e w2 ⟨rfl, hb2⟩; have HW2 := Lib.hid (hw1.below hb2); have hbw2 := nx hb1 hb2)
      | ((with_reducible show wpList _ _ _ (⟨some 35, _, _, _, _, _⟩ :: _) _ _); refine wpL_cloneB rfl (.tmp 33) (.tmp 34) rfl rfl _ _ c bs rfl (hb.below hbw2) (by omega) ?_; intro v3 w3 hown3 hb3; have HW3 := Lib.hid (HW2.out.below hb3); have hbw3 := nx hbw2 hb3; obtain ⟨A3, c3, rfl, hr3, _⟩ := hown3.form)
      | (go_at_call 40; refine (wraw_any _ w.heap.size g F Wr.nil _ _ _ bs HW3.out hr3 (by show 0 + _ ≤ _; omega)).mono ?_; rintro e w4 ⟨rfl, F4, h4, hc4, hF4⟩; have HW4 := Lib.hid h4; have hbw4 := HW3.out.bw hbw3 (Nat.le_refl _) hc4)
      | (go_at_call 52; refine (wset_any _ w.heap.size g F4 _ k n z HW4.out (by rw [HX.out]; omega) HOK.out).mono ?_; rintro e w5 ⟨rfl, F5, h5, hc5, hF5⟩; rw [HR.out] at h5; have HW5 := Lib.hid h5; have hbw5 := HW4.out.bw hbw4 (Nat.le_refl _) hc5; clear h5)
      | (go_at_call 53; refine (rfits_any _ _ _ hn).mono ?_; rw [H1.out]; rintro e w6 ⟨rfl, rfl⟩))
    have hB5 : ∀ W : World, Below w5.heap.size w5 (w5.alloc (.cells #[] 5)).drew := fun _ => (bl.alloc (Nat.le_refl _) _).drew
    go_region_held3 (fun _ => True)
      (with_reducible trivial)
      (first
        | (refine step_appB (by rfl) (.tmp 72) (.tmp 75) (by rfl) w5.heap.size _ [] (by rfl) (own_empty w5).drew (some ⟨b0, off, none⟩) k c tk (by rfl) (hrt.below (nx hbw5 (hB5 w))) (by simp; omega) (by simp) ?_; intro v6 w6 hown6 hg6 _; rw [List.nil_append] at hown6; have hb6 : Below w5.heap.size w5 w6 := ((hB5 w).grown hg6 (by simp) (fun j hj => by simp [Value.ownBlock] at hj; omega)); obtain ⟨A6, c6, rfl, _⟩ := hown6.form)
        | (go_at_call 54; refine (rput_any none 0 0 [] n z w6 (Rd.nil _ _ _) (by omega) hn).mono ?_; rintro e w7 ⟨v7, rfl, hown7, hb7⟩; rw [HR.out] at hown7; obtain ⟨A7, c7, rfl, hr7, _⟩ := hown7.form)
        | (refine step_appB (by rfl) (.tmp 76) (.tmp 79) (by rfl) w5.heap.size (.slice A6 tk.length c6) tk (by rfl) (hown6.below hb7) A7 r.length c7 r (by rfl) hr7 (by omega) (Nat.le_trans hb6.size hb7.size) ?_; intro v8 w8 hown8 hg8 _; have hb8 : Below w5.heap.size w5 w8 := ((nx hb6 hb7).grown hg8 (Nat.le_trans hb6.size hb7.size) (fun j hj => (World.ownsRow.lt hown6 j hj).1)); obtain ⟨A8, c8, rfl, _⟩ := hown8.form; rw [List.length_append] at hown8 ⊢)
        | (refine step_appB (by rfl) (.tmp 80) (.tmp 85) (by rfl) w5.heap.size (.slice A8 (tk.length + r.length) c8) (tk ++ r) (by rfl) hown8 _ 0 0 dp (by rfl) (hrx.below (nx hbw5 hb8)) (by rw [List.length_append]; omega) hb8.size ?_; intro v9 w9 hown9 hg9 _; rw [HW.out] at hown9; have hb9 : Below w5.heap.size w5 w9 := (hb8.grown hg9 hb8.size (fun j hj => (World.ownsRow.lt hown8 j hj).1)); obtain ⟨A9, c9, rfl, hr9, _⟩ := hown9.form)
        | fail)
    have HW9 := Lib.hid (HW5.out.below hb9)
    have hbw9 := nx hbw5 hb9
    go_wp2_with (first
      | (go_at_call 48; refine (wbytes_any w9 w.heap.size g F5 _ HW9.out (by rw [HP.out, HQL.out]; omega)).mono ?_; rintro e w10 ⟨v10, rfl, hown10, hb10⟩; rw [HP.out] at hown10; obtain ⟨A10, c10, rfl, hr10, _⟩ := hown10.form; have hbw10 := nx hbw9 hb10)
      | (go_at_call 18; refine (same_any _ _ _ _ _ _ q q w10 hr10 (hr9.below hb10) (by rw [HQL.out]; unfold maxLen; omega) (by rw [HQL.out]; unfold maxLen; omega)).mono ?_; rw [decide_eq_true rfl]; rintro e w11 ⟨rfl, k11, rfl⟩))
    obtain ⟨L, hL⟩ : ∃ L, L = q.length := ⟨_, rfl⟩
    have hL5 : L ≤ 5000 := by rw [hL, HQL.out]; exact h5
    rw [← hL] at hown10 hr9 ⊢
    have HL := Lib.hid hL
    clear hL
    have hb11 : Below w9.heap.size w9 (w10.drewN k11) := dN hb10 k11
    go_loopw [13] (fun i wr => ∃ j : Nat, ∃ cs : List UInt8, i = .int .i64 j ∧ j ≤ L ∧ cs.length = L ∧ OwnB wr w9.heap.size (.slice A10 L c10) cs ∧ Below w9.heap.size w9 wr) (fun i _ => L - (intOf i).toNat)
    case atStart => exact ⟨0, q, rfl, Nat.zero_le _, HL.out.symm, hown10, hb11⟩
    case round =>
      obtain ⟨j, cs, rfl, hj, hcl, hown, hbr⟩ := hrel
      have HCL := Lib.hid hcl
      clear hcl
      by_cases hlt : j < L
      · obtain ⟨g4, c4', hv, hg4, _, _, _, hcell⟩ := hown.flat (by rw [HCL.out]; omega)
        injection hv with hv1 hv2 hv3
        subst hv1
        have hfz := hown.free j
        obtain ⟨y, hy⟩ : ∃ y, cs[j]? = some y := ⟨_, List.getElem?_eq_getElem (by rw [HCL.out]; exact hlt)⟩
        have hcy := hcell j y hy
        have hy8 := y.toNat_lt
        have HY := Lib.hid hy
        clear hy hv2 hv3 hcell
        go_wp2
        go_roundw
        case rel =>
          refine ⟨j + 1, cs.set j (UInt8.ofNat (y.toNat + 1)), by go_num, by omega, by rw [List.length_set]; exact HCL.out, ?_, hbr.setCell hg4 _⟩
          have h := hown.set j (UInt8.ofNat (y.toNat + 1))
          rw [ofNat_u8] at h
          exact h
        case measure => simp [intOf]; omega
      · have HWr := Lib.hid (HW9.out.below hbr)
        have hbwr := nx hbw9 hbr
        go_wp2_with (first
          | (go_at_call 40; refine (wnil_raw _ _ _ _).mono ?_; rintro e w12 ⟨rfl, rfl⟩)
          | (go_at_call 52; refine (wnil_set _ _ _ _).mono ?_; rintro e w13 ⟨rfl, rfl⟩)
          | (go_at_call 44; refine (wnil_name _ _ _ _ _).mono ?_; rintro e w13 ⟨rfl, rfl⟩)
          | (go_at_call 47; refine (wnil_len _).mono ?_; rintro e w13 ⟨rfl, rfl⟩)
          | (go_at_call 48; refine (wnil_bytes _).mono ?_; rintro e w13 ⟨rfl, rfl⟩)
          | (go_at_call 48; refine (wbytes_any wr w.heap.size g F5 _ HWr.out (by rw [HP.out, HQL.out]; omega)).mono ?_; rintro e w12 ⟨v12, rfl, hown12, hb12⟩; rw [HP.out] at hown12; obtain ⟨A12, c12, rfl, hr12, _⟩ := hown12.form; have hbw12 := nx hbwr hb12)
          | (go_at_call 18; refine (same_any _ _ _ _ _ _ q q w12 hr12 ((hr9.below hbr).below hb12) (by rw [HQL.out]; unfold maxLen; omega) (by unfold maxLen; omega)).mono ?_; rw [decide_eq_true rfl]; rintro e w13 ⟨rfl, k13, rfl⟩; have hbw13 := dN hbw12 k13))
        go_ret
        exact ⟨rfl, hbw13⟩
  · rw [if_neg hce] at hAx
    subst hAx
    have hce' : ¬ (c : Int) = (e' : Int) := by omega
    go_enter Try.func12, Try.ntmps12
    go_wp2_with (first
      | (go_at_call 37; refine (wnew_any _).mono ?_; rintro e w1 ⟨g, F, rfl, hw1, hb1⟩)
      | (go_at_call 38; refine (answers03_any _).mono ?_; rintro e w2 ⟨rfl, hb2⟩; have HW2 := Lib.hid (hw1.below hb2); have hbw2 := nx hb1 hb2)
      | ((with_reducible show wpList _ _ _ (⟨some 35, _, _, _, _, _⟩ :: _) _ _); refine wpL_cloneB rfl (.tmp 33) (.tmp 34) rfl rfl _ _ c bs rfl (hb.below hbw2) (by omega) ?_; intro v3 w3 hown3 hb3; have HW3 := Lib.hid (HW2.out.below hb3); have hbw3 := nx hbw2 hb3; obtain ⟨A3, c3, rfl, hr3, _⟩ := hown3.form)
      | (go_at_call 40; refine (wraw_any _ w.heap.size g F Wr.nil _ _ _ bs HW3.out hr3 (by show 0 + _ ≤ _; omega)).mono ?_; rintro e w4 ⟨rfl, F4, h4, hc4, hF4⟩; have HW4 := Lib.hid h4; have hbw4 := HW3.out.bw hbw3 (Nat.le_refl _) hc4)
      | (go_at_call 52; refine (wset_any _ w.heap.size g F4 _ k n z HW4.out (by rw [HX.out]; omega) HOK.out).mono ?_; rintro e w5 ⟨rfl, F5, h5, hc5, hF5⟩; rw [HR.out] at h5; have HW5 := Lib.hid h5; have hbw5 := HW4.out.bw hbw4 (Nat.le_refl _) hc5; clear h5)
      | (go_at_call 53; refine (rfits_any _ _ _ hn).mono ?_; rw [H1.out]; rintro e w6 ⟨rfl, rfl⟩))
    have hB5 : ∀ W : World, Below w5.heap.size w5 (w5.alloc (.cells #[] 5)).drew := fun _ => (bl.alloc (Nat.le_refl _) _).drew
    go_region_held3 (fun _ => True)
      (with_reducible trivial)
      (first
        | (refine step_appB (by rfl) (.tmp 72) (.tmp 75) (by rfl) w5.heap.size _ [] (by rfl) (own_empty w5).drew (some ⟨b0, off, none⟩) k c tk (by rfl) (hrt.below (nx hbw5 (hB5 w))) (by simp; omega) (by simp) ?_; intro v6 w6 hown6 hg6 _; rw [List.nil_append] at hown6; have hb6 : Below w5.heap.size w5 w6 := ((hB5 w).grown hg6 (by simp) (fun j hj => by simp [Value.ownBlock] at hj; omega)); obtain ⟨A6, c6, rfl, _⟩ := hown6.form)
        | (go_at_call 54; refine (rput_any none 0 0 [] n z w6 (Rd.nil _ _ _) (by omega) hn).mono ?_; rintro e w7 ⟨v7, rfl, hown7, hb7⟩; rw [HR.out] at hown7; obtain ⟨A7, c7, rfl, hr7, _⟩ := hown7.form)
        | (refine step_appB (by rfl) (.tmp 76) (.tmp 79) (by rfl) w5.heap.size (.slice A6 tk.length c6) tk (by rfl) (hown6.below hb7) A7 r.length c7 r (by rfl) hr7 (by omega) (Nat.le_trans hb6.size hb7.size) ?_; intro v8 w8 hown8 hg8 _; have hb8 : Below w5.heap.size w5 w8 := ((nx hb6 hb7).grown hg8 (Nat.le_trans hb6.size hb7.size) (fun j hj => (World.ownsRow.lt hown6 j hj).1)); obtain ⟨A8, c8, rfl, _⟩ := hown8.form; rw [List.length_append] at hown8 ⊢)
        | (refine step_appB (by rfl) (.tmp 80) (.tmp 85) (by rfl) w5.heap.size (.slice A8 (tk.length + r.length) c8) (tk ++ r) (by rfl) hown8 _ (bs.length - e') (c - e') dp (by rfl) (hrx.below (nx hbw5 hb8)) (by rw [List.length_append]; omega) hb8.size ?_; intro v9 w9 hown9 hg9 _; rw [HW.out] at hown9; have hb9 : Below w5.heap.size w5 w9 := (hb8.grown hg9 hb8.size (fun j hj => (World.ownsRow.lt hown8 j hj).1)); obtain ⟨A9, c9, rfl, hr9, _⟩ := hown9.form)
        | fail)
    have HW9 := Lib.hid (HW5.out.below hb9)
    have hbw9 := nx hbw5 hb9
    go_wp2_with (first
      | (go_at_call 48; refine (wbytes_any w9 w.heap.size g F5 _ HW9.out (by rw [HP.out, HQL.out]; omega)).mono ?_; rintro e w10 ⟨v10, rfl, hown10, hb10⟩; rw [HP.out] at hown10; obtain ⟨A10, c10, rfl, hr10, _⟩ := hown10.form; have hbw10 := nx hbw9 hb10)
      | (go_at_call 18; refine (same_any _ _ _ _ _ _ q q w10 hr10 (hr9.below hb10) (by rw [HQL.out]; unfold maxLen; omega) (by rw [HQL.out]; unfold maxLen; omega)).mono ?_; rw [decide_eq_true rfl]; rintro e w11 ⟨rfl, k11, rfl⟩))
    obtain ⟨L, hL⟩ : ∃ L, L = q.length := ⟨_, rfl⟩
    have hL5 : L ≤ 5000 := by rw [hL, HQL.out]; exact h5
    rw [← hL] at hown10 hr9 ⊢
    have HL := Lib.hid hL
    clear hL
    have hb11 : Below w9.heap.size w9 (w10.drewN k11) := dN hb10 k11
    go_loopw [13] (fun i wr => ∃ j : Nat, ∃ cs : List UInt8, i = .int .i64 j ∧ j ≤ L ∧ cs.length = L ∧ OwnB wr w9.heap.size (.slice A10 L c10) cs ∧ Below w9.heap.size w9 wr) (fun i _ => L - (intOf i).toNat)
    case atStart => exact ⟨0, q, rfl, Nat.zero_le _, HL.out.symm, hown10, hb11⟩
    case round =>
      obtain ⟨j, cs, rfl, hj, hcl, hown, hbr⟩ := hrel
      have HCL := Lib.hid hcl
      clear hcl
      by_cases hlt : j < L
      · obtain ⟨g4, c4', hv, hg4, _, _, _, hcell⟩ := hown.flat (by rw [HCL.out]; omega)
        injection hv with hv1 hv2 hv3
        subst hv1
        have hfz := hown.free j
        obtain ⟨y, hy⟩ : ∃ y, cs[j]? = some y := ⟨_, List.getElem?_eq_getElem (by rw [HCL.out]; exact hlt)⟩
        have hcy := hcell j y hy
        have hy8 := y.toNat_lt
        have HY := Lib.hid hy
        clear hy hv2 hv3 hcell
        go_wp2
        go_roundw
        case rel =>
          refine ⟨j + 1, cs.set j (UInt8.ofNat (y.toNat + 1)), by go_num, by omega, by rw [List.length_set]; exact HCL.out, ?_, hbr.setCell hg4 _⟩
          have h := hown.set j (UInt8.ofNat (y.toNat + 1))
          rw [ofNat_u8] at h
          exact h
        case measure => simp [intOf]; omega
      · have HWr := Lib.hid (HW9.out.below hbr)
        have hbwr := nx hbw9 hbr
        go_wp2_with (first
          | (go_at_call 40; refine (wnil_raw _ _ _ _).mono ?_; rintro e w12 ⟨rfl, rfl⟩)
          | (go_at_call 52; refine (wnil_set _ _ _ _).mono ?_; rintro e w13 ⟨rfl, rfl⟩)
          | (go_at_call 44; refine (wnil_name _ _ _ _ _).mono ?_; rintro e w13 ⟨rfl, rfl⟩)
          | (go_at_call 47; refine (wnil_len _).mono ?_; rintro e w13 ⟨rfl, rfl⟩)
          | (go_at_call 48; refine (wnil_bytes _).mono ?_; rintro e w13 ⟨rfl, rfl⟩)
          | (go_at_call 48; refine (wbytes_any wr w.heap.size g F5 _ HWr.out (by rw [HP.out, HQL.out]; omega)).mono ?_; rintro e w12 ⟨v12, rfl, hown12, hb12⟩; rw [HP.out] at hown12; obtain ⟨A12, c12, rfl, hr12, _⟩ := hown12.form; have hbw12 := nx hbwr hb12)
          | (go_at_call 18; refine (same_any _ _ _ _ _ _ q q w12 hr12 ((hr9.below hbr).below hb12) (by rw [HQL.out]; unfold maxLen; omega) (by unfold maxLen; omega)).mono ?_; rw [decide_eq_true rfl]; rintro e w13 ⟨rfl, k13, rfl⟩; have hbw13 := dN hbw12 k13))
        go_ret
        exact ⟨rfl, hbw13⟩
end Go.Proofs.Ytjpkddmdhdmhgaa
