/- Parts of a proof, joined: Law05S. -/
import Derived.Test.YtbjaphldncagjaaG19
import Derived.Test.YtbjaphldncagjaaG12
import Derived.Test.YtbjaphldncagjaaG17
import Derived.Test.YtbjaphldncagjaaG04
/- RrSets: the law's walk. -/
namespace Go.Proofs.Ytbjaphldncagjaa
open Go.RowKit
set_option maxRecDepth 100000

theorem sameS_comm (a b : List Da) : sameS a b = sameS b a := Bool.and_comm _ _
theorem subD_refl (a : List Da) : subD a a = true := by
  unfold subD
  rw [List.all_eq_true]
  intro x hx
  rw [List.any_eq_true]
  exact ⟨x, hx, sameD_refl x⟩
theorem sameS_refl (a : List Da) : sameS a a = true := by unfold sameS; rw [subD_refl]; rfl
set_option maxHeartbeats 8000000 in
theorem rrSets_ok (A A1 A3 : Option Addr) (c c1 c3 : Nat) (xs : List RR) (ns : List (List UInt8)) (kind : Int) (ol : List Da) (w : World) (h : RdE encRR w A xs.length xs) (hn : RdE encS w A1 ns.length ns) (ho : RdE encDa w A3 ol.length ol) (hl : LtL xs) (h200 : ns.length ≤ 200) (h60 : ol.length ≤ 60) :
    Calls Try.prog 8 #[.slice A xs.length c, .slice A1 ns.length c1, .int .i64 kind, .slice A3 ol.length c3] w (LawT w) := by
  have H := Lib.hid h
  have HN := Lib.hid hn
  have HO := Lib.hid ho
  have HL := Lib.hid hl
  have HLD := Lib.hid (decide_eq_true hl)
  have hx60 := hl.2
  have hpl := setP_len xs ns kind
  have HPL : Hid ((setP xs ns kind).1.length ≤ 60) := by show _ ≤ _; omega
  clear h hl hn ho hpl
  go_enter Try.func8, Try.ntmps8
  go_upto_region 5 with (first
    | (go_at_call 39; refine (rset_any A A1 xs.length c ns.length c1 xs ns kind w6 (H.out.below HB6.out) (HN.out.below HB6.out) (by omega) (by unfold maxLen; omega) (fun r hr => (HL.out.1 r hr).light9)).mono ?_; rintro e w7 ⟨v7, rfl, ⟨sv7, rfl, hs7⟩, hb7⟩; obtain ⟨B7, k7, rfl, hr7, _, _⟩ := hs7.rd; have HR7 := Lib.hid hr7; have HR67 := Lib.hid (HR6.out.below hb7); have HB7 := Lib.hid (nx HB6.out hb7); clear hs7 hr7 hb7)
    | (go_at_call 37; refine (pset_any A4 A5 xs.length c4 ns.length c5 xs ns kind w5 (HR4.out.below hb5) HR5.out (by omega) (by unfold maxLen; omega) (fun r hr => (HL.out.1 r hr).light9)).mono ?_; rintro e w6 ⟨v6, rfl, ⟨sv6, rfl, hs6⟩, hb6⟩; obtain ⟨B6, k6, rfl, hr6, _, _⟩ := hs6.rdE; have HR6 := Lib.hid hr6; have HB6 := Lib.hid (nx (nx HB4.out hb5) hb6); clear hs6 hr6 hb6)
    | ((with_reducible show wpList _ _ _ (⟨some 37, _, _, _, _, _⟩ :: _) _ _); refine wpL_cloneS rfl (.tmp 35) (.tmp 36) rfl rfl A1 _ c1 ns rfl (HN.out.below HB4.out) (by omega) ?_; intro v5 w5 hown5 hb5; obtain ⟨A5, c5, rfl, hr5, _, _⟩ := OwnE.rdE hown5; have HR5 := Lib.hid hr5; clear hr5 hown5)
    | (go_at_call 38; refine (ownRRs_any A _ c xs w3 (H.out.below (nx hb2 hb3)) (by omega) (fun r hr => (HL.out.1 r hr).light9)).mono ?_; rintro e w4 ⟨v4, rfl, ho4, hb4⟩; obtain ⟨A4, c4, rfl, hr4, _, _⟩ := NewE.rdE ho4; have HR4 := Lib.hid hr4; have HB4 := Lib.hid (nx (nx hb2 hb3) hb4); clear ho4 hr4 hb4)
    | (go_at_call 36; refine (light05_any A _ c xs w2 (H.out.below hb2) (by unfold maxLen; omega)).mono ?_; rw [HLD.out]; rintro e w3 ⟨v3, rfl, rfl, hb3⟩)
    | (go_at_call 35; refine (answers05_any w).mono ?_; rintro e w2 ⟨rfl, hb2⟩)
    | fail)
  clear hb2 hb3 hb5 HR4 HR5 HR6 HB4 HB6
  generalize setP xs ns kind = P at HR7 HR67 HPL ⊢
  obtain ⟨l, t⟩ := P
  have HO7 := Lib.hid (HO.out.below HB7.out)
  have hl60 : l.length ≤ 60 := HPL.out
  clear HPL
  go_wp2_with fail
  go_loopw [13] (fun iv wr => ∃ j : Nat, iv = .int .i64 j ∧ j ≤ l.length ∧ Hid (Below w7.heap.size w7 wr)) (fun iv _ => l.length - (intOf iv).toNat)
  case atStart => exact ⟨0, rfl, Nat.zero_le _, bl⟩
  case round =>
    obtain ⟨j, rfl, hj, HBK⟩ := hrel
    by_cases hlt : j < l.length
    · obtain ⟨x, hx⟩ : ∃ x, l[j]? = some x := ⟨_, List.getElem?_eq_getElem hlt⟩
      obtain ⟨b, off, s, hA, _, hd, hc⟩ := da_at HR67.out hx
      obtain ⟨b', off', s', hA', _, hd', hc'⟩ := da_at HR7.out hx
      have HQ0 := Lib.hid ((hc.below HBK.out).below bl.drew)
      have HQ1 := Lib.hid ((hc'.below HBK.out).below bl.drew)
      have HD0 := Lib.hid (((hd.rd (fun b hb => hb)).below HBK.out).below bl.drew)
      have HD1 := Lib.hid (((hd'.rd (fun b hb => hb)).below HBK.out).below bl.drew)
      obtain ⟨d0, d1, d2, d3, d4⟩ := hc.below HBK.out
      obtain ⟨e0, e1, e2, e3, e4⟩ := hc'.below HBK.out
      subst hA hA'
      clear hx hd hc hd' hc'
      go_upto_region 10 with (fail)
      have q0 := And.intro d0 (And.intro d1 (And.intro d2 (And.intro d3 (And.intro d4 (And.intro e0 (And.intro e1 (And.intro e2 (And.intro e3 e4))))))))
      have q1 : _ ∧ _ ∧ _ ∧ _ ∧ _ ∧ _ ∧ _ ∧ _ ∧ _ ∧ _ := ⟨HQ0.out.1, HQ0.out.2.1, HQ0.out.2.2.1, HQ0.out.2.2.2.1, HQ0.out.2.2.2.2, HQ1.out.1, HQ1.out.2.1, HQ1.out.2.2.1, HQ1.out.2.2.2.1, HQ1.out.2.2.2.2⟩
      clear d0 d1 d2 d3 d4 e0 e1 e2 e3 e4
      go_region_held3 (fun w' => w'.cell? ⟨b, off + j * 5, none⟩ = some (.slice s.A0 x.bytes.length s.c0) ∧ w'.cell? ⟨b, off + j * 5 + 1, none⟩ = some (.slice s.A1 x.host.length s.c1) ∧ w'.cell? ⟨b, off + j * 5 + 2, none⟩ = some (.slice s.A2 x.mail.length s.c2) ∧ w'.cell? ⟨b, off + j * 5 + 3, none⟩ = some (.slice s.A3 x.nums.length s.c3) ∧ w'.cell? ⟨b, off + j * 5 + 4, none⟩ = some (.slice s.A4 x.texts.length s.c4)
          ∧ w'.cell? ⟨b', off' + j * 5, none⟩ = some (.slice s'.A0 x.bytes.length s'.c0) ∧ w'.cell? ⟨b', off' + j * 5 + 1, none⟩ = some (.slice s'.A1 x.host.length s'.c1) ∧ w'.cell? ⟨b', off' + j * 5 + 2, none⟩ = some (.slice s'.A2 x.mail.length s'.c2) ∧ w'.cell? ⟨b', off' + j * 5 + 3, none⟩ = some (.slice s'.A3 x.nums.length s'.c3) ∧ w'.cell? ⟨b', off' + j * 5 + 4, none⟩ = some (.slice s'.A4 x.texts.length s'.c4))
        (first
          | with_reducible exact q0
          | with_reducible exact q1
          | with_reducible exact q2
          | fail)
        (first
          | (go_at_call 40; refine (rexD_any s s' x x wr.drew HD0.out HD1.out).mono ?_; rw [exD_refl]; rintro e v2 ⟨u2, rfl, rfl, hb2⟩; have a0 := HQ0.out.below hb2; have a1 := HQ1.out.below hb2; have q2 := And.intro a0.1 (And.intro a0.2.1 (And.intro a0.2.2.1 (And.intro a0.2.2.2.1 (And.intro a0.2.2.2.2 (And.intro a1.1 (And.intro a1.2.1 (And.intro a1.2.2.1 (And.intro a1.2.2.2.1 a1.2.2.2.2)))))))); clear a0 a1)
          | fail)
      clear q0 q1 q2
      have HB2 := Lib.hid (nx HBK.out (bl.drew.trans hb2))
      go_wp2
      go_roundw
      case rel => exact ⟨j + 1, by go_num, by omega, HB2⟩
      case measure => simp [intOf]; omega
    · obtain rfl : j = l.length := by omega
      have HB := Lib.hid (nx HB7.out HBK.out)
      have HR := Lib.hid (HR67.out.below HBK.out)
      have HR' := Lib.hid (HR7.out.below HBK.out)
      have HO' := Lib.hid (HO7.out.below HBK.out)
      clear HR67 HR7 HO7
      cases hso : sameS l ol with
      | true =>
        have hos : sameS ol l = true := by rw [sameS_comm]; exact hso
        have HSO := Lib.hid hso
        have HOS := Lib.hid hos
        clear hso hos
        go_wp2_with (first
          | (go_at_call 41; refine (sameS_any B6 B6 _ k6 _ k6 l l v4 (HR.out.below (nx (nx (nx hv1 hv2) hv3) hv4)) (HR.out.below (nx (nx (nx hv1 hv2) hv3) hv4)) (by omega) (by omega)).mono ?_; rw [sameS_refl]; rintro e v5 ⟨u5, rfl, rfl, hv5⟩)
          | (go_at_call 41; refine (sameS_any B6 A3 _ k6 _ c3 l ol v3 (HR.out.below (nx (nx hv1 hv2) hv3)) (HO'.out.below (nx (nx hv1 hv2) hv3)) (by omega) (by omega)).mono ?_; rw [HSO.out]; rintro e v4 ⟨u4, rfl, rfl, hv4⟩)
          | (go_at_call 41; refine (sameS_any A3 B6 _ c3 _ k6 ol l v2 (HO'.out.below (nx hv1 hv2)) (HR.out.below (nx hv1 hv2)) (by omega) (by omega)).mono ?_; rw [HOS.out]; rintro e v3 ⟨u3, rfl, rfl, hv3⟩)
          | (go_at_call 42; refine (rsameSet_any B7 A3 _ k7 _ c3 l ol v1 (HR'.out.below hv1) (HO'.out.below hv1) (by omega) (by omega)).mono ?_; rw [HSO.out]; rintro e v2 ⟨u2, rfl, rfl, hv2⟩)
          | (go_at_call 41; refine (sameS_any B6 A3 _ k6 _ c3 l ol wr HR.out HO'.out (by omega) (by omega)).mono ?_; rw [HSO.out]; rintro e v1 ⟨u1, rfl, rfl, hv1⟩)
          | fail)
        go_ret
        exact ⟨rfl, nx HB.out (nx (nx (nx (nx hv1 hv2) hv3) hv4) hv5)⟩
      | false =>
        have hos : sameS ol l = false := by rw [sameS_comm]; exact hso
        have HSO := Lib.hid hso
        have HOS := Lib.hid hos
        clear hso hos
        go_wp2_with (first
          | (go_at_call 41; refine (sameS_any B6 B6 _ k6 _ k6 l l v4 (HR.out.below (nx (nx (nx hv1 hv2) hv3) hv4)) (HR.out.below (nx (nx (nx hv1 hv2) hv3) hv4)) (by omega) (by omega)).mono ?_; rw [sameS_refl]; rintro e v5 ⟨u5, rfl, rfl, hv5⟩)
          | (go_at_call 41; refine (sameS_any B6 A3 _ k6 _ c3 l ol v3 (HR.out.below (nx (nx hv1 hv2) hv3)) (HO'.out.below (nx (nx hv1 hv2) hv3)) (by omega) (by omega)).mono ?_; rw [HSO.out]; rintro e v4 ⟨u4, rfl, rfl, hv4⟩)
          | (go_at_call 41; refine (sameS_any A3 B6 _ c3 _ k6 ol l v2 (HO'.out.below (nx hv1 hv2)) (HR.out.below (nx hv1 hv2)) (by omega) (by omega)).mono ?_; rw [HOS.out]; rintro e v3 ⟨u3, rfl, rfl, hv3⟩)
          | (go_at_call 42; refine (rsameSet_any B7 A3 _ k7 _ c3 l ol v1 (HR'.out.below hv1) (HO'.out.below hv1) (by omega) (by omega)).mono ?_; rw [HSO.out]; rintro e v2 ⟨u2, rfl, rfl, hv2⟩)
          | (go_at_call 41; refine (sameS_any B6 A3 _ k6 _ c3 l ol wr HR.out HO'.out (by omega) (by omega)).mono ?_; rw [HSO.out]; rintro e v1 ⟨u1, rfl, rfl, hv1⟩)
          | fail)
        go_ret
        exact ⟨rfl, nx HB.out (nx (nx (nx (nx hv1 hv2) hv3) hv4) hv5)⟩

set_option maxHeartbeats 2000000 in
theorem rrSets_heavy (A A1 A3 : Option Addr) (c n1 c1 n3 c3 : Nat) (xs : List RR) (kind : Int) (w : World) (h : RdE encRR w A xs.length xs) (hm : xs.length ≤ maxLen) (hl : ¬ LtL xs) :
    Calls Try.prog 8 #[.slice A xs.length c, .slice A1 n1 c1, .int .i64 kind, .slice A3 n3 c3] w (LawT w) := by
  have H := Lib.hid h
  have HLD := Lib.hid (decide_eq_false hl)
  clear h hl
  go_enter Try.func8, Try.ntmps8
  go_wp2_with (first
    | (go_at_call 35; refine (answers05_any w3).mono ?_; rintro e w4 ⟨rfl, hb4⟩)
    | (go_at_call 36; refine (light05_any A _ c xs w2 (H.out.below hb2) hm).mono ?_; rw [HLD.out]; rintro e w3 ⟨v3, rfl, rfl, hb3⟩)
    | (go_at_call 35; refine (answers05_any w).mono ?_; rintro e w2 ⟨rfl, hb2⟩)
    | fail)
  go_ret
  exact ⟨rfl, nx (nx hb2 hb3) hb4⟩
set_option maxHeartbeats 2000000 in
theorem rrSets_long (A A1 A3 : Option Addr) (c n1 c1 n3 c3 : Nat) (xs : List RR) (kind : Int) (w : World) (h : RdE encRR w A xs.length xs) (hm : xs.length ≤ maxLen) (hl : LtL xs) (hlong : 200 < n1 ∨ 60 < n3) :
    Calls Try.prog 8 #[.slice A xs.length c, .slice A1 n1 c1, .int .i64 kind, .slice A3 n3 c3] w (LawT w) := by
  have H := Lib.hid h
  have HLD := Lib.hid (decide_eq_true hl)
  clear h hl
  go_enter Try.func8, Try.ntmps8
  by_cases h200 : (200 : Int) < (n1 : Int)
  · go_wp2_with (first
      | (go_at_call 35; refine (answers05_any w3).mono ?_; rintro e w4 ⟨rfl, hb4⟩)
      | (go_at_call 36; refine (light05_any A _ c xs w2 (H.out.below hb2) hm).mono ?_; rw [HLD.out]; rintro e w3 ⟨v3, rfl, rfl, hb3⟩)
      | (go_at_call 35; refine (answers05_any w).mono ?_; rintro e w2 ⟨rfl, hb2⟩)
      | fail)
    go_ret
    exact ⟨rfl, nx (nx hb2 hb3) hb4⟩
  · have h60 : (60 : Int) < (n3 : Int) := by omega
    go_wp2_with (first
      | (go_at_call 35; refine (answers05_any w3).mono ?_; rintro e w4 ⟨rfl, hb4⟩)
      | (go_at_call 36; refine (light05_any A _ c xs w2 (H.out.below hb2) hm).mono ?_; rw [HLD.out]; rintro e w3 ⟨v3, rfl, rfl, hb3⟩)
      | (go_at_call 35; refine (answers05_any w).mono ?_; rintro e w2 ⟨rfl, hb2⟩)
      | fail)
    go_ret
    exact ⟨rfl, nx (nx hb2 hb3) hb4⟩
theorem rrSets_walk (A A1 A3 : Option Addr) (n c n1 c1 n3 c3 : Nat) (xs : List RR) (ns : List (List UInt8)) (kind : Int) (ol : List Da) (w : World) (h : RdE encRR w A n xs) (hn : RdE encS w A1 n1 ns) (ho : RdE encDa w A3 n3 ol) (hc : n ≤ c) (hm : c ≤ maxLen) :
    Calls Try.prog 8 #[.slice A n c, .slice A1 n1 c1, .int .i64 kind, .slice A3 n3 c3] w (LawT w) := by
  have hl := h.len
  have hl1 := hn.len
  have hl3 := ho.len
  subst hl hl1 hl3
  by_cases h0 : LtL xs
  · by_cases h1 : ns.length ≤ 200 ∧ ol.length ≤ 60
    · exact rrSets_ok A A1 A3 c c1 c3 xs ns kind ol w h hn ho h0 h1.1 h1.2
    · exact rrSets_long A A1 A3 c _ c1 _ c3 xs kind w h (Nat.le_trans hc hm) h0 (by omega)
  · exact rrSets_heavy A A1 A3 c _ c1 _ c3 xs kind w h (Nat.le_trans hc hm) h0
end Go.Proofs.Ytbjaphldncagjaa
