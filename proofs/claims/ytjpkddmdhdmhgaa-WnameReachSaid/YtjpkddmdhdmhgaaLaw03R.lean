/- WnameReach: the law's walk. -/
import Derived.Test.YtjpkddmdhdmhgaaWtr4
import Derived.Test.YtjpkddmdhdmhgaaWtrLaws
import Derived.Test.YtjpkddmdhdmhgaaRName
import Derived.Test.YtjpkddmdhdmhgaaStrs2
import Derived.Test.YtjpkddmdhdmhgaaAns03
namespace Go.Proofs.Ytjpkddmdhdmhgaa
open Go.RowKit

theorem nameS_true {x : Wr} {ns : List (List UInt8)} (s : Bool) (h : soundB ns = true) : x.nameS ns s = x.name ns s ∧ nameR ns = 0 := by
  unfold Wr.nameS nameR
  rw [if_pos h, if_pos h]
  exact ⟨rfl, rfl⟩

set_option maxRecDepth 100000 in
set_option maxHeartbeats 4000000 in
theorem wnameReach_ok (A : Option Addr) (c : Nat) (ns : List (List UInt8)) (a : Nat) (w : World) (h : RdE encS w A ns.length ns) (hnc : ns.length ≤ c) (ha : a < 65536) (hs : soundB ns = true) (hne : ns ≠ []) :
    Calls Try.prog 11 #[.slice A ns.length c, .int .u16 (a : Int)] w (LawT w) := by
  have HS := Lib.hid hs
  have hsn := soundB_iff.1 hs
  have hl := sizeN_length ns
  have hz := hsn.2
  have hn0 : 0 < ns.length := List.length_pos_iff.2 hne
  obtain ⟨k, hk⟩ : ∃ k, k = 16370 + a % 30 := ⟨_, rfl⟩
  have hk1 : 16370 ≤ k ∧ k < 16400 := by omega
  have ek : (16370 : Int) + (a : Int) % 30 = (k : Int) := by omega
  obtain ⟨hk1, hk2⟩ := hk1
  obtain ⟨x0, hx0⟩ : ∃ x0, x0 = Wr.nil.raw (List.replicate k 0) := ⟨_, rfl⟩
  have hb0 : x0.b.length = k := by rw [hx0]; simp [Wr.raw, Wr.nil]
  have hr0 : x0.rests = [] := by rw [hx0]; rfl
  have ht0 : x0.True := by rw [hx0]; exact Wr.true_nil.raw _
  have hr1 := x0.name_rests ns true
  obtain ⟨h1, h2⟩ := Wr.twice hr0 hne
  obtain ⟨t1, _u1⟩ := ht0.name hsn.1 true
  obtain ⟨_u2, t2⟩ := t1.name hsn.1 true
  have hrd := t2.read 0 [] (by simpa using hz)
  have e1 := (nameS_true (x := x0) true hs).1
  have e2 := (nameS_true (x := x0.name ns true) true hs).1
  have e3 := (nameS_true (x := x0) true hs).2
  rw [hb0] at h1 h2
  rw [hr0] at hr1
  generalize hx1 : x0.name ns true = x1 at h1 h2 hr1 t1 t2 hrd e1 e2
  generalize hx2 : x1.name ns true = x2 at h2 t2 hrd e2
  obtain ⟨d, hd⟩ : ∃ d, d = if k < 16384 then 2 else sizeN ns := ⟨_, rfl⟩
  rw [← hd] at h2
  have hd2 : d ≤ 255 := by rw [hd]; split <;> omega
  have HDD := Lib.hid hd
  clear hd
  have HX0 := Lib.hid hx0
  have HB0 := Lib.hid hb0
  have HE1 := Lib.hid e1
  have HE2 := Lib.hid e2
  have HE3 := Lib.hid e3
  have HRD := Lib.hid hrd
  have HL1 := Lib.hid h1
  have HL2 := Lib.hid h2
  have HR0 := Lib.hid hr0
  simp only [List.length_nil, Nat.zero_add] at hr1
  clear _u1 _u2 hs hsn hk hx0 hb0 hr0 ht0 h1 h2 t1 t2 hrd e1 e2 e3 hx1 hx2 hne
  obtain ⟨X, hX⟩ : ∃ X : Array Value, X = madeCells #[.int .u8 0] k := ⟨_, rfl⟩
  have hmk := mkB k k (Nat.le_refl _) (by omega)
  rw [← hX] at hmk
  have HX := Lib.hid hX
  clear hX
  have hnr : ns.length ≤ 255 := by omega
  go_enter Try.func11, Try.ntmps11
  go_wp2_with (first
    | (go_at_call 37; refine (wnew_any _).mono ?_; rintro e w1 ⟨g, F, rfl, hw1, hb1⟩)
    | (go_at_call 38; refine (answers03_any _).mono ?_; rintro e w2 ⟨rfl, hb2⟩; have HW2 := Lib.hid (hw1.below hb2); have hbw2 := nx hb1 hb2)
    | (go_at_call 45; refine (rsound_any _ _ _ ns _ (h.below hbw2)).mono ?_; rw [HS.out]; rintro e w3 ⟨rfl, rfl⟩)
    | ((with_reducible show wpList _ _ _ (⟨some 57, _, _, _, _, _⟩ :: _) _ _); refine wpL_cloneS rfl (.tmp 55) (.tmp 56) rfl rfl A _ c ns rfl (h.below hbw6) (by omega) ?_; intro v8 w8 hown8 hb8; have HW8 := Lib.hid (HW6.out.below hb8); have hbw8 := nx hbw6 hb8; have HLT8 := Lib.hid (show ∀ b, v8.ownBlock = some b → b < w8.heap.size ∧ ¬ F6 b from fun b hb => by have h1 := hown8.lt b hb; exact ⟨h1.2, fun hF => by have := (HW6.out.F_lt b hF).2; omega⟩); obtain ⟨A8, c8, rfl, hel8, hl8, hc8⟩ := hown8.form)
    | (go_at_call 44; refine (name_any w8 w.heap.size g F6 x1 _ _ _ ns true HW8.out hel8 HLT8.out (by omega) hl8 hc8 (by rw [HL1.out]; omega) (by omega)).mono ?_; rw [HE2.out, HE3.out]; rintro e w9 ⟨rfl, F9, h9, hc9, hF9⟩; have HW9 := Lib.hid h9; have hbw9 := HW8.out.bw hbw8 (Nat.le_refl _) hc9; clear h9)
    | (go_at_call 47; refine (wlen_any w9 w.heap.size g F9 x2 HW9.out).mono ?_; rintro e w10 ⟨rfl, rfl⟩; rw [HL2.out, HL1.out])
    | (go_at_call 40; have hmb := OwnB.made w2 k (by unfold maxLen; omega); rw [← HX.out] at hmb; have HW3 := Lib.hid (HW2.out.below ((bl (w := w2)).alloc (Nat.le_refl _) (.cells X 5))); have hbw3 := hbw2.alloc hbw2.size (.cells X 5); refine (wraw_any _ w.heap.size g F Wr.nil _ _ _ (List.replicate k 0) HW3.out hmb.rd.1 (by show 0 + _ ≤ _; omega)).mono ?_; rintro e w4 ⟨rfl, F4, h4, hc4, hF4⟩; rw [← HX0.out] at h4; have HW4 := Lib.hid h4; have hbw4 := HW3.out.bw hbw3 (Nat.le_refl _) hc4; clear h4)
    | ((with_reducible show wpList _ _ _ (⟨some 48, _, _, _, _, _⟩ :: _) _ _); refine wpL_cloneS rfl (.tmp 46) (.tmp 47) rfl rfl A _ c ns rfl (h.below hbw4) (by omega) ?_; intro v5 w5 hown5 hb5; have HW5 := Lib.hid (HW4.out.below hb5); have hbw5 := nx hbw4 hb5; have HLT5 := Lib.hid (show ∀ b, v5.ownBlock = some b → b < w5.heap.size ∧ ¬ F4 b from fun b hb => by have h1 := hown5.lt b hb; exact ⟨h1.2, fun hF => by have := (HW4.out.F_lt b hF).2; omega⟩); obtain ⟨A5, c5, rfl, hel5, hl5, hc5⟩ := hown5.form)
    | (go_at_call 44; refine (name_any w5 w.heap.size g F4 x0 _ _ _ ns true HW5.out hel5 HLT5.out (by omega) hl5 hc5 (by rw [HB0.out]; omega) (by rw [HR0.out]; simp)).mono ?_; rw [HE1.out, HE3.out]; rintro e w6 ⟨rfl, F6, h6, hc6, hF6⟩; have HW6 := Lib.hid h6; have hbw6 := HW5.out.bw hbw5 (Nat.le_refl _) hc6; clear h6)
    | (go_at_call 47; refine (wlen_any w6 w.heap.size g F6 x1 HW6.out).mono ?_; rintro e w7 ⟨rfl, rfl⟩; rw [HL1.out, Int.natCast_add])
    | fail)
  have hbs := hbw9
  go_loopw [9, 10] (fun wv iv wr => ∃ (j m : Nat) (v : Int), iv = .int .i64 ((j : Int) - 1) ∧ j ≤ ns.length ∧ wv = .int .i64 v ∧ Hid (16384 ≤ k → v = sizeN ns) ∧ wr = w9.drewN m) (fun _ iv _ => (intOf iv + 1).toNat)
  case atStart => exact ⟨ns.length, 0, sizeN ns, by go_num, Nat.le_refl _, by congr 1; omega, fun _ => rfl, rfl⟩
  case round =>
    obtain ⟨j, m, v, rfl, hj, rfl, hv, rfl⟩ := hrel
    have hm := h.below hbw9
    rcases j with _ | i
    · have h9 : ∀ q, RdE encS (w9.drewN q) A ns.length ns := fun q => hm.drewN q
      have HW9m := Lib.hid (HW9.out.below (dN bl m))
      have hbwm := dN hbw9 m
      have hl2 := HL2.out
      have hl1 := HL1.out
      have hxl : x2.b.length ≤ 20000 := by omega
      have hex : IntKind.i64.wrap ((k : Int) + ((k : Int) + (sizeN ns : Int) - (k : Int))) = (x1.b.length : Int) := by rw [IntKind.wrap_i64]; omega
      clear hl1 hl2
      have HDk := HDD.out
      by_cases hk14 : (k : Int) < 16384
      · have hd2 : (d : Int) = 2 := by rw [HDk, if_pos (by omega)]; rfl
        clear HDk
        go_wp2_with (first
          | (go_at_call 48; refine (wbytes_any _ w.heap.size g F9 x2 HW9m.out (by omega)).mono ?_; rintro e w10 ⟨v10, rfl, hown10, hb10⟩; obtain ⟨A10, c10, rfl, hr10, hl10, hc10⟩ := hown10.form; have hbw10 := nx hbwm hb10)
          | (go_at_call 49; refine (wget_any _ _ _ x2.b _ _ hr10 hl10 (by omega)).mono ?_; rw [if_neg (by omega), Int.toNat_natCast, HRD.out]; rintro e w11 ⟨v11, rfl, hown11, hb11⟩; rw [List.nil_append] at hown11; obtain ⟨A11, c11, rfl, hel11, _⟩ := hown11.form; have hbw11 := nx hbw10 hb11)
          | (go_at_call 51; refine (rsize_any _ _ _ ns _ (h.below hbw11) (by omega)).mono ?_; rintro e w12 ⟨rfl, rfl⟩)
          | (go_at_call 50; refine (rexact_any _ _ _ _ _ _ ns ns _ hel11 (h.below hbw11) (by unfold maxLen; omega) (by unfold maxLen; omega)).mono ?_; rw [decide_eq_true rfl]; rintro e w13 ⟨rfl, k13, rfl⟩; have hbw13 := dN hbw11 k13)
          | fail)
        go_ret
        exact ⟨rfl, hbw13⟩
      · have hd2 : (d : Int) = sizeN ns := by rw [HDk, if_neg (by omega)]
        have hv' := hv.out (by omega)
        clear HDk
        go_wp2_with (first
          | (go_at_call 48; refine (wbytes_any _ w.heap.size g F9 x2 HW9m.out (by omega)).mono ?_; rintro e w10 ⟨v10, rfl, hown10, hb10⟩; obtain ⟨A10, c10, rfl, hr10, hl10, hc10⟩ := hown10.form; have hbw10 := nx hbwm hb10)
          | (go_at_call 49; refine (wget_any _ _ _ x2.b _ _ hr10 hl10 (by omega)).mono ?_; rw [if_neg (by omega), Int.toNat_natCast, HRD.out]; rintro e w11 ⟨v11, rfl, hown11, hb11⟩; rw [List.nil_append] at hown11; obtain ⟨A11, c11, rfl, hel11, _⟩ := hown11.form; have hbw11 := nx hbw10 hb11)
          | (go_at_call 51; refine (rsize_any _ _ _ ns _ (h.below hbw11) (by omega)).mono ?_; rintro e w12 ⟨rfl, rfl⟩)
          | (go_at_call 50; refine (rexact_any _ _ _ _ _ _ ns ns _ hel11 (h.below hbw11) (by unfold maxLen; omega) (by unfold maxLen; omega)).mono ?_; rw [decide_eq_true rfl]; rintro e w13 ⟨rfl, k13, rfl⟩; have hbw13 := dN hbw11 k13)
          | fail)
        go_ret
        exact ⟨rfl, hbw13⟩
    · rw [show (((i + 1 : Nat) : Int) - 1) = (i : Int) by omega]
      have hcut := fun q => Els.cut (RdE.drewN hm q) i c (by omega) hnc
      have hci : ¬ c = i := by omega
      have hsz := sizeN_append (ns.take i) (ns.drop i)
      rw [List.take_append_drop] at hsz
      have hzt := sizeN_length (ns.take i)
      have hzd := sizeN_length (ns.drop i)
      have hil : i < ns.length := by omega
      have hic : (i : Int) ≤ (ns.length : Int) := by omega
      have hi0 : (0 : Int) ≤ (i : Int) := by omega
      obtain ⟨b, off, rfl, _⟩ := hm.2 (by omega)
      simp only [if_neg hci, Option.map_some, add_flat, show encS.size = 1 from rfl, Nat.mul_one] at hcut
      have hzi : sizeN (ns.drop i) ≤ sizeN ns := by omega
      obtain ⟨t, ht⟩ : ∃ t, t = sizeN ns - sizeN (ns.drop i) := ⟨_, rfl⟩
      have ht255 : t ≤ 255 := by omega
      have hwt : wrap64 ((sizeN ns : Int) - (sizeN (ns.drop i) : Int)) = (t : Int) := by rw [IntWalk.wrap64_in _ (by omega)]; omega
      have hzdi : sizeN (ns.drop i) ≤ 1000 := by omega
      clear ht hsz hzt hzd
      go_wp2
      go_quiet (first
        | (go_at_call 51; exact quiet_retA (rsize_any _ _ _ ns _ (RdE.drewN hm _) (by omega)))
        | (go_at_call 51; exact quiet_retA (rsize_any _ _ _ (ns.drop i) _ (hcut _) (by omega))))
      go_wp2
      · clear hwt
        go_roundw
        case rel => exact ⟨i, _, (sizeN ns : Int) - (sizeN (ns.drop i) : Int) + 2, by go_num, by omega, by go_num, fun h => by omega, rfl⟩
        case measure => simp [intOf]
      · clear hwt
        go_roundw
        case rel => exact ⟨i, _, v, by go_num, by omega, rfl, hv, rfl⟩
        case measure => simp [intOf]
end Go.Proofs.Ytjpkddmdhdmhgaa
