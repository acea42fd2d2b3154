/- Parts of a proof, joined: PairMem, Law04W. -/
import Derived.Deep.RegionHeld
import Derived.Test.YtbjaphldncagjaaG13
import Derived.Test.YtbjaphldncagjaaG10
import Derived.Test.YtbjaphldncagjaaG14
import Derived.Test.YtbjaphldncagjaaG11
import Derived.Test.YtbjaphldncagjaaG12
import Derived.Test.YtbjaphldncagjaaG02
/- WnameWrites: the program's writer and the reference's, side by side. -/
namespace Go.Proofs.Ytbjaphldncagjaa
open Go.RowKit

structure PairSt (w wr : World) (g l : Nat) (F G : Nat → Prop) (x : Wr) (y : RW) : Prop where
  W : Wtr wr w.heap.size F g x
  L : RWtr wr w.heap.size G l y
  FG : ∀ b, F b → ¬ G b
  bw : Below w.heap.size w wr
section
variable {w wr w' : World} {g l : Nat} {F G F' : Nat → Prop} {x x' : Wr} {y y' : RW}
theorem PairSt.nx (h : PairSt w wr g l F G x y) (hb : Below wr.heap.size wr w') : PairSt w w' g l F G x y :=
  ⟨h.W.below hb, h.L.below hb, h.FG, Go.Proofs.Ytbjaphldncagjaa.nx h.bw hb⟩
theorem PairSt.stepW (h : PairSt w wr g l F G x y) (hw : Wtr w' w.heap.size F' g x') (hc : Chg F wr w') (hF : ∀ z, F' z → F z ∨ wr.heap.size ≤ z) : PairSt w w' g l F' G x' y :=
  ⟨hw, h.L.chg hc (fun b hb hf => h.FG b hf hb), fun b hb hg => (hF b hb).elim (fun hf => h.FG b hf hg) (fun hl => by have := (h.L.F_lt b hg).2; omega), h.W.bw h.bw (Nat.le_refl _) hc⟩
theorem PairSt.stepL (h : PairSt w wr g l F G x y) (hw : RWtr w' w.heap.size F' l y') (hc : Chg G wr w') (hF : ∀ z, F' z → G z ∨ wr.heap.size ≤ z) : PairSt w w' g l F F' x y' :=
  ⟨h.W.chg hc (fun b hb hf => h.FG b hb hf), hw, fun b hb hg => (hF b hg).elim (fun hf => h.FG b hb hf) (fun hl => by have := (h.W.F_lt b hb).2; omega), h.L.bw h.bw (Nat.le_refl _) hc⟩
/-- The reference's bytes, where they lie. -/
theorem PairSt.bytes (h : PairSt w wr g l F G x y) : ∃ A c, wr.cell? ⟨l, 0, none⟩ = some (.slice A y.b.length c) ∧ RdB wr A y.b.length y.b ∧ y.b.length ≤ c ∧ c ≤ maxLen := by
  obtain ⟨bv, rv, S, hg, hb, _⟩ := h.L
  obtain ⟨A, c, rfl, hr, h1, h2⟩ := hb.form
  exact ⟨A, c, (cell_of_row _ _ _ _ _ _ hg).trans rfl, hr, h1, h2⟩
theorem PairSt.F_lt (h : PairSt w wr g l F G x y) : ∀ b, F b ∨ G b → b < wr.heap.size := fun b hb => hb.elim (fun hf => (h.W.F_lt b hf).2) (fun hg => (h.L.F_lt b hg).2)
/-- What is neither's keeps through a call. -/
theorem PairSt.far (h : PairSt w wr g l F G x y) {b : Nat} (hb : b < w.heap.size) : ¬ F b ∧ ¬ G b :=
  ⟨fun hf => by have := (h.W.F_lt b hf).1; omega, fun hg => by have := (h.L.F_lt b hg).1; omega⟩
end
end Go.Proofs.Ytbjaphldncagjaa

/- RdataWrites: the law's walk. -/
namespace Go.Proofs.Ytbjaphldncagjaa
open Go.RowKit
set_option maxRecDepth 100000

/-- Where the walk stands behind some names. -/
def WriN (w wr : World) (g l : Nat) (k : Nat) : Prop := ∃ F G x y, PairSt w wr g l F G x y ∧ Alike x y ∧ y.Fine ∧ y.b.length ≤ 300 * k ∧ x.rests.length ≤ 300 * k ∧ y.rests.length ≤ 300 * k
theorem WriN.nx {w wr w' : World} {g l k : Nat} (h : WriN w wr g l k) (hb : Below wr.heap.size wr w') : WriN w w' g l k := by
  obtain ⟨F, G, x, y, h1, h2⟩ := h
  exact ⟨F, G, x, y, h1.nx hb, h2⟩
theorem WriN.more {w wr : World} {g l k k' : Nat} (h : WriN w wr g l k) (hk : k ≤ k') : WriN w wr g l k' := by
  obtain ⟨F, G, x, y, h1, h2, h3, h4, h5, h6⟩ := h
  exact ⟨F, G, x, y, h1, h2, h3, by omega, by omega, by omega⟩
theorem WriN.bw {w wr : World} {g l k : Nat} (h : WriN w wr g l k) : Below w.heap.size w wr := by
  obtain ⟨F, G, x, y, h1, h2⟩ := h
  exact h1.bw
/-- A list of names read in memory. -/
theorem names_at {w : World} {A : Option Addr} {n : Nat} {data : List (List (List UInt8))} (h : RdE (slE encS) w A n data) {k : Nat} {ns : List (List UInt8)} (hx : data[k]? = some ns) :
    ∃ b off A' cx, A = some ⟨b, off, none⟩ ∧ w.cell? ⟨b, off + k, none⟩ = some (.slice A' ns.length cx) ∧ RdE encS w A' ns.length ns ∧ ns.length ≤ cx ∧ cx ≤ maxLen := by
  obtain ⟨b, off, rfl, _, hat⟩ := Els.flat h (by rw [← h.len]; exact Nat.lt_of_le_of_lt (Nat.zero_le k) (List.getElem?_eq_some_iff.1 hx).1)
  obtain ⟨r, ⟨A', m, cx, rfl, he, h1, h2⟩, hc⟩ := hat k ns hx
  have hl := he.len
  subst hl
  exact ⟨b, off, A', cx, rfl, by simpa [slE] using hc 0 _ rfl, he, h1, h2⟩

set_option maxHeartbeats 8000000 in
theorem rdataWrites_ok (k : Int) (s : DS) (d : Da) (A : Option Addr) (c : Nat) (names : List (List (List UInt8))) (w : World) (hd : DRd w s d) (hn : RdE (slE encS) w A names.length names) (hl : lightD d = true) (h30 : names.length ≤ 30) :
    Calls Try.prog 11 #[.int .i64 k, dsV s d, .slice A names.length c] w (LawT w) := by
  obtain ⟨w1, hw1⟩ : ∃ w1, w1 = w.alloc (.cells #[.slice s.A0 d.bytes.length s.c0, .slice s.A1 d.host.length s.c1, .slice s.A2 d.mail.length s.c2, .slice s.A3 d.nums.length s.c3, .slice s.A4 d.texts.length s.c4] 46) := ⟨_, rfl⟩
  have hb1 : Below w.heap.size w w1 := by rw [hw1]; exact bl.alloc (Nat.le_refl _) _
  have HB1 : Hid (DBox w1 w.heap.size s d) := by show DBox _ _ _ _; rw [hw1]; exact DBox.made w s d _
  have HD := Lib.hid hd
  have HN := Lib.hid hn
  have HL := Lib.hid hl
  have HBW1 := Lib.hid hb1
  unfold dsV
  obtain ⟨x0, x1, x2, x3, x4⟩ := HB1.out
  clear hd hn hl hb1
  go_enter Try.func11, Try.ntmps11
  go_upto_region 1 with (fail)
  rw [← hw1]
  clear hw1
  go_upto_region 3 with (first
    | (go_at_call 47; refine (light04_any s d w2 (HD.out.below (nx HBW1.out hb2))).mono ?_; rw [HL.out]; rintro e w3 ⟨v3, rfl, rfl, hb3⟩)
    | (go_at_call 46; refine (answers04_any w1).mono ?_; rintro e w2 ⟨rfl, hb2⟩; have HB2 := Lib.hid (HB1.out.below hb2); obtain ⟨a0, a1, a2, a3, a4⟩ := HB2.out)
    | fail)
  have HB13 := Lib.hid (nx hb2 hb3)
  have HD1 := Lib.hid (HD.out.below HBW1.out)
  have HN1 := Lib.hid (HN.out.below HBW1.out)
  clear x0 x1 x2 x3 x4 a0 a1 a2 a3 a4 HB2 HD HN hb2 hb3
  go_upto_region 4 with (first
    | (go_at_call 48; refine (wnew_any w3).mono ?_; rintro e w4 ⟨g, F, rfl, hw4, hb4⟩; have HW4 := Lib.hid hw4; have HB14 := Lib.hid (nx HB13.out hb4); clear hw4 hb4)
    | fail)
  obtain ⟨w5, hw5⟩ : ∃ w5, w5 = w4.alloc (.cells #[.slice none 0 0, .slice none 0 0] 86) := ⟨_, rfl⟩
  have HS5 : Hid (WriN w1 w5 g w4.heap.size 0) := by
    have hb5 : Below w4.heap.size w4 w5 := by rw [hw5]; exact bl.alloc (Nat.le_refl _) _
    have hm : RWtr w5 w4.heap.size (fun k => k = w4.heap.size) w4.heap.size RW.nil := by rw [hw5]; exact RWtr.made w4
    exact ⟨F, fun k => k = w4.heap.size, Wr.nil, RW.nil, ⟨(HW4.out.below hb5).base_le HB13.out.size, hm.base_le HB14.out.size, fun b hf hg => by have h1 := (HW4.out.F_lt b hf).2; have h2 : b = w4.heap.size := hg; omega, nx HB14.out hb5⟩, alike_nil, RW.fine_nil, Nat.zero_le _, Nat.le_refl _, Nat.le_refl _⟩
  rw [← hw5]
  clear hw5 HW4 HB14
  generalize w4.heap.size = l at HS5 ⊢
  go_wp2_with fail
  go_loopw [9] (fun iv wr => ∃ j : Nat, iv = .int .i64 j ∧ j ≤ names.length ∧ Hid (WriN w1 wr g l j)) (fun iv _ => names.length - (intOf iv).toNat)
  case atStart => exact ⟨0, rfl, Nat.zero_le _, HS5⟩
  case round =>
    clear HS5
    obtain ⟨j, rfl, hj, HS⟩ := hrel
    by_cases hlt : j < names.length
    · obtain ⟨ns, hns⟩ : ∃ ns, names[j]? = some ns := ⟨_, List.getElem?_eq_getElem hlt⟩
      obtain ⟨b0, off0, A', cx, hA, hc1, hrn1, hnc, hcm⟩ := names_at HN1.out hns
      have hc0 := below_cell HS.out.bw hc1
      have HC1 := Lib.hid hc1
      have hrn := hrn1.below HS.out.bw
      have HRN1 := Lib.hid hrn1
      clear hc1 hrn1
      have HA := Lib.hid hA
      rw [hA]
      clear hns hA
      by_cases hs : SoundN ns
      · have HSN := Lib.hid hs
        have hlen : ns.length ≤ 255 := by have := sizeN_length ns; have := hs.2; omega
        have HSB := Lib.hid (soundB_true hs)
        clear hs
        obtain ⟨F, G, x, y, HP, HAL, HFY, hy1, hr1, hr2⟩ := HS.out
        have hxy : x.b.length = y.b.length := by rw [HAL.1]
        have HPP := Lib.hid HP
        have HALL := Lib.hid HAL
        have HFF := Lib.hid HFY
        have HRN := Lib.hid hrn
        have hj30 : j ≤ 30 := by omega
        have hc2 := below_cell (bl.alloc (Nat.le_refl _) (.cells #[] 9)) hc0
        clear HP HAL HFY hrn
        go_wp2_with (first
          | (go_at_call 51; refine (rwname_any w8 w1.heap.size l G y A' _ cx ns true (So := ltS w1) (Si := ltS w1) HP8.out.L (Els.below HRN1.out HP8.out.bw (fun _ h => h) (fun _ h => h)) (fun b (hb : b < w1.heap.size) => ⟨Nat.lt_of_lt_of_le hb HP8.out.bw.size, (HP8.out.far hb).2⟩) HSN.out HFF.out hnc hcm (by omega) (by omega)).mono ?_; rintro e w9 ⟨rfl, G9, h9, hc9, hG9⟩; have HP9 := Lib.hid (HP8.out.stepL h9 hc9 hG9))
          | (go_at_call 50; refine (name_any w7 w1.heap.size g F x A7 _ c7 ns true HP7.out.W hel7 (fun b hb => ⟨(OwnE.lt hown7 b hb).2, fun hf => by have h1 := (OwnE.lt hown7 b hb).1; have h2 := HPP.out.F_lt b (.inl hf); omega⟩) (by omega) hl7 hm7 (by omega) (by omega)).mono ?_; rw [nameS_sound HSN.out]; rintro e w8 ⟨rfl, F8, h8, hc8, hF8⟩; have HP8 := Lib.hid (HP7.out.stepW h8 hc8 hF8); have g8 := below_cell HP8.out.bw HC1.out)
          | ((with_reducible show wpList _ _ _ (⟨some 45, _, _, _, _, _⟩ :: _) _ _); refine wpL_cloneS rfl (.tmp 40) (.tmp 44) rfl rfl A' _ cx ns rfl HRN.out (by omega) ?_; intro v7 w7 hown7 hb7; have HP7 := Lib.hid (HPP.out.nx hb7); have g7 := below_cell HP7.out.bw HC1.out; obtain ⟨A7, c7, rfl, hel7, hl7, hm7⟩ := OwnE.form hown7)
          | (go_at_call 49; refine (rsound_any A' _ cx ns wr HRN.out).mono ?_; rw [HSB.out]; rintro e w6 ⟨rfl, rfl⟩)
          | fail)
        have HW9 : Hid (WriN w1 w9 g l (j + 1)) := by
          have hb9 := RW.name_le (y := y) ns true
          have hx9 := Wr.name_rests (x := x) ns true
          have hy9 := RW.name_rests (x := y) ns true
          have hs9 := HSN.out.2
          exact ⟨F8, G9, x.name ns true, y.name ns true, HP9.out, HALL.out.name (small_of_sound HSN.out) true, RW.Fine.name HSN.out true HFF.out, by omega, by omega, by omega⟩
        go_roundw
        case rel => exact ⟨j + 1, by go_num, by omega, HW9⟩
        case measure => simp [intOf]; omega
      · have HSB := Lib.hid (soundB_false hs)
        clear hs
        have HRN := Lib.hid hrn
        have HW9 := Lib.hid (HS.out.more (Nat.le_succ j))
        clear hrn
        go_wp2_with (first
          | (go_at_call 49; refine (rsound_any A' _ cx ns wr HRN.out).mono ?_; rw [HSB.out]; rintro e w6 ⟨rfl, rfl⟩)
          | fail)
        go_roundw
        case rel => exact ⟨j + 1, by go_num, by omega, HW9⟩
        case measure => simp [intOf]; omega
    · have HW9 := Lib.hid (HS.out.more (show j ≤ 30 by omega))
      clear HS
      obtain ⟨F, G, x, y, HP, HAL, HFY, hy1, hr1, hr2⟩ := HW9.out
      have hxy : x.b.length = y.b.length := by rw [HAL.1]
      have HPP := Lib.hid HP
      have HALL := Lib.hid HAL
      have HFF := Lib.hid HFY
      have hlim : d.bytes.length ≤ 70000 ∧ d.host.length ≤ 300 ∧ d.mail.length ≤ 300 ∧ d.nums.length ≤ 200 ∧ d.texts.length ≤ 200 := by have h : LightD d := of_decide_eq_true HL.out; exact ⟨h.2.2.2.2.2.2.2, h.2.2.2.1, h.2.2.2.2.1, h.2.2.2.2.2.2.1, h.2.2.2.2.2.1⟩
      have HLIM := Lib.hid hlim
      obtain ⟨x0, x1, x2, x3, x4⟩ := HB1.out.below HP.bw
      clear HP HAL HFY HW9 hlim
      by_cases hf : FineD k d
      · have HFD := Lib.hid hf
        have HFB := Lib.hid (fineB_true hf)
        clear hf
        go_upto_region 11 with (first
          | (go_at_call 52; refine (dput_any k w6 w1.heap.size g F x s6 d (geS wr.heap.size w6) HFD.out HP6.out.W HO6.out.din (fun b hb => ⟨hb.2, fun hf => by have h1 := hb.1; have h2 := HPP.out.F_lt b (.inl hf); omega⟩) (by omega) (by omega)).mono ?_; rintro e w7 ⟨rfl, F7, h7, hc7, hF7⟩; have HP7 := Lib.hid (HP6.out.stepW h7 hc7 hF7))
          | (go_at_call 53; refine (ownData_any s d wr (HD1.out.below HPP.out.bw) (by have := HLIM.out; omega)).mono ?_; rintro e w6 ⟨v6, rfl, ⟨s6, rfl, ho6⟩, hb6⟩; have HO6 := Lib.hid ho6; have HP6 := Lib.hid (HPP.out.nx hb6); clear ho6)
          | fail)
        obtain ⟨y0, y1, y2, y3, y4⟩ := HB1.out.below HP7.out.bw
        clear x0 x1 x2 x3 x4 HO6 HP6 h7 hc7 hF7
        go_upto_region 12 with (first
          | (go_at_call 54; refine (rdata_any k s d w7 (HD1.out.below HP7.out.bw) (by have := HLIM.out; omega) (by have := HLIM.out; omega)).mono ?_; rw [HFB.out]; rintro e w8 ⟨v8, rfl, rfl, hb8⟩; have HP8 := Lib.hid (HP7.out.nx hb8); clear hb8)
          | fail)
        obtain ⟨x0, x1, x2, x3, x4⟩ := HB1.out.below HP8.out.bw
        clear y0 y1 y2 y3 y4
        go_upto_region 14 with (first
          | (go_at_call 55; refine (rputD_any k w8 w1.heap.size l G y s d (ltS w1) HFD.out HP8.out.L HFF.out (DIn.below HD1.out.din HP8.out.bw (fun _ h => h)) (fun b (hb : b < w1.heap.size) => ⟨Nat.lt_of_lt_of_le hb HP8.out.bw.size, (HP8.out.far hb).2⟩) (by omega) (by omega)).mono ?_; rintro e w9 ⟨rfl, G9, h9, hc9, hG9⟩; have HP9 := Lib.hid (HP8.out.stepL h9 hc9 hG9); clear h9 hc9 hG9)
          | fail)
        have HA9 := Lib.hid (HALL.out.data HFD.out.2)
        obtain ⟨y0, y1, y2, y3, y4⟩ := HB1.out.below HP9.out.bw
        obtain ⟨Ay, cy, z0, hzr, hzc, hzm⟩ := HP9.out.bytes
        have HZR := Lib.hid hzr
        have hql := HB1.out.lt
        clear x0 x1 x2 x3 x4 hzr
        have HBZ := Lib.hid HP9.out.bw
        have HXL : Hid ((x.data (shapeP k) d).b.length ≤ 1000000 ∧ (y.data (shapeP k) d).b.length ≤ 1000000) := by
          have h1 := Wr.data_len x HFD.out.2
          have h2 := congrArg List.length HA9.out.1
          exact ⟨by omega, by omega⟩
        first
        | go_region_held (fun w' => w'.cell? ⟨w.heap.size, 0, none⟩ = some (.slice s.A0 d.bytes.length s.c0) ∧ w'.cell? ⟨w.heap.size, 1, none⟩ = some (.slice s.A1 d.host.length s.c1) ∧ w'.cell? ⟨w.heap.size, 2, none⟩ = some (.slice s.A2 d.mail.length s.c2) ∧ w'.cell? ⟨w.heap.size, 3, none⟩ = some (.slice s.A3 d.nums.length s.c3) ∧ w'.cell? ⟨w.heap.size, 4, none⟩ = some (.slice s.A4 d.texts.length s.c4) ∧ w'.cell? ⟨l, 0, none⟩ = some (.slice Ay (y.data (shapeP k) d).b.length cy))
            (first
              | with_reducible exact ⟨y0, y1, y2, y3, y4, z0⟩
              | with_reducible exact ⟨below_cell bl.drew y0, below_cell bl.drew y1, below_cell bl.drew y2, below_cell bl.drew y3, below_cell bl.drew y4, below_cell bl.drew z0⟩
              | with_reducible exact ⟨pa0, pa1, pa2, pa3, pa4, za⟩
              | with_reducible exact ⟨pb0, pb1, pb2, pb3, pb4, zb⟩
              | with_reducible exact ⟨pc0, pc1, pc2, pc3, pc4, zc⟩
              | with_reducible exact ⟨pd0, pd1, pd2, pd3, pd4, zd⟩
              | with_reducible exact ⟨pe0, pe1, pe2, pe3, pe4, ze⟩
              | with_reducible exact ⟨pf0, pf1, pf2, pf3, pf4, zf⟩
              | fail)
            (first
              | (go_at_call 52; refine (dput_nil k we se d).mono ?_; rintro e wf ⟨vf, rfl, rfl, hbf⟩; have pf0 := below_cell hbf pe0; have pf1 := below_cell hbf pe1; have pf2 := below_cell hbf pe2; have pf3 := below_cell hbf pe3; have pf4 := below_cell hbf pe4; have zf := below_cell hbf ze; have hbF := nx hbE hbf)
              | (go_at_call 53; refine (ownData_any s d wd (HD1.out.below (nx HBZ.out hbD)) (by have := HLIM.out; omega)).mono ?_; rintro e we ⟨ve, rfl, ⟨se, rfl, hoe⟩, hbe⟩; have pe0 := below_cell hbe pd0; have pe1 := below_cell hbe pd1; have pe2 := below_cell hbe pd2; have pe3 := below_cell hbe pd3; have pe4 := below_cell hbe pd4; have ze := below_cell hbe zd; have hbE := nx hbD hbe)
              | (go_at_call 25; refine (same_any _ _ _ _ _ _ (x.data (shapeP k) d).b (y.data (shapeP k) d).b wc hrc (HZR.out.below hbC) (by unfold maxLen; have := HXL.out; omega) (by unfold maxLen; have := HXL.out; omega)).mono ?_; rw [decide_eq_true HA9.out.1]; rintro e wd ⟨rfl, md, hwd⟩; have hbd : Below wc.heap.size wc wd := (by rw [hwd]; exact dN bl md); clear hwd; have pd0 := below_cell hbd pc0; have pd1 := below_cell hbd pc1; have pd2 := below_cell hbd pc2; have pd3 := below_cell hbd pc3; have pd4 := below_cell hbd pc4; have zd := below_cell hbd zc; have hbD := nx hbC hbd)
              | (go_at_call 57; refine (wbytes_any wb w1.heap.size g F7 (x.data (shapeP k) d) (HP9.out.W.below hbB) (by have := HXL.out; omega)).mono ?_; rintro e wc ⟨vc, rfl, hownc, hbc⟩; obtain ⟨Ac, cc, rfl, hrc, hlc, hmc⟩ := hownc.form; have pc0 := below_cell hbc pb0; have pc1 := below_cell hbc pb1; have pc2 := below_cell hbc pb2; have pc3 := below_cell hbc pb3; have pc4 := below_cell hbc pb4; have zc := below_cell hbc zb; have hbC := nx hbB hbc)
              | (go_at_call 56; refine (dsound_any k sa d wa (hoa.din.rd (fun b hb => hb.2)) (by have := HLIM.out; omega) (by have := HLIM.out; omega) (by have := HLIM.out; omega) (by have := HLIM.out; omega)).mono ?_; rw [HFB.out]; rintro e wb ⟨vb, rfl, rfl, hbb⟩; have pb0 := below_cell hbb pa0; have pb1 := below_cell hbb pa1; have pb2 := below_cell hbb pa2; have pb3 := below_cell hbb pa3; have pb4 := below_cell hbb pa4; have zb := below_cell hbb za; have hbB := nx hbA hbb)
              | (go_at_call 53; refine (ownData_any s d w9.drew (HD1.out.below (nx HBZ.out bl.drew)) (by have := HLIM.out; omega)).mono ?_; rintro e wa ⟨va, rfl, ⟨sa, rfl, hoa⟩, hba'⟩; have hbA : Below w9.heap.size w9 wa := bl.drew.trans hba'; have pa0 := below_cell hbA y0; have pa1 := below_cell hbA y1; have pa2 := below_cell hbA y2; have pa3 := below_cell hbA y3; have pa4 := below_cell hbA y4; have za := below_cell hbA z0)
              | fail)
        | fail
        go_wp2
        go_ret
        exact ⟨rfl, nx HBW1.out (nx HBZ.out hbF)⟩
      · have HFD := Lib.hid hf
        have HFB := Lib.hid (fineB_false hf)
        clear hf
        go_upto_region 11 with (first
          | (go_at_call 52; refine (dput_bad k w6 s6 d HFD.out g (HO6.out.din.rd (fun b hb => hb.2)) (by have := HLIM.out; omega) (by have := HLIM.out; omega) (by have := HLIM.out; omega) (by have := HLIM.out; omega)).mono ?_; rintro e w7 ⟨v7, rfl, rfl, hb7⟩; have HP7 := Lib.hid (HP6.out.nx hb7); clear hb7)
          | (go_at_call 53; refine (ownData_any s d wr (HD1.out.below HPP.out.bw) (by have := HLIM.out; omega)).mono ?_; rintro e w6 ⟨v6, rfl, ⟨s6, rfl, ho6⟩, hb6⟩; have HO6 := Lib.hid ho6; have HP6 := Lib.hid (HPP.out.nx hb6); clear ho6)
          | fail)
        obtain ⟨y0, y1, y2, y3, y4⟩ := HB1.out.below HP7.out.bw
        clear x0 x1 x2 x3 x4 HO6 HP6
        go_upto_region 12 with (first
          | (go_at_call 54; refine (rdata_any k s d w7 (HD1.out.below HP7.out.bw) (by have := HLIM.out; omega) (by have := HLIM.out; omega)).mono ?_; rw [HFB.out]; rintro e w8 ⟨v8, rfl, rfl, hb8⟩; have HP8 := Lib.hid (HP7.out.nx hb8); clear hb8)
          | fail)
        clear y0 y1 y2 y3 y4
        obtain ⟨y0, y1, y2, y3, y4⟩ := HB1.out.below HP8.out.bw
        go_upto_region 14 with (fail)
        obtain ⟨Ay, cy, z0, hzr, hzc, hzm⟩ := HP8.out.bytes
        have HZR := Lib.hid hzr
        have hql := HB1.out.lt
        clear hzr
        have HBZ := Lib.hid HP8.out.bw
        have HXL : Hid (x.b.length ≤ 1000000 ∧ y.b.length ≤ 1000000) := ⟨by omega, by omega⟩
        clear hxy
        first
        | go_region_held (fun w' => w'.cell? ⟨w.heap.size, 0, none⟩ = some (.slice s.A0 d.bytes.length s.c0) ∧ w'.cell? ⟨w.heap.size, 1, none⟩ = some (.slice s.A1 d.host.length s.c1) ∧ w'.cell? ⟨w.heap.size, 2, none⟩ = some (.slice s.A2 d.mail.length s.c2) ∧ w'.cell? ⟨w.heap.size, 3, none⟩ = some (.slice s.A3 d.nums.length s.c3) ∧ w'.cell? ⟨w.heap.size, 4, none⟩ = some (.slice s.A4 d.texts.length s.c4) ∧ w'.cell? ⟨l, 0, none⟩ = some (.slice Ay y.b.length cy))
            (first
              | with_reducible exact ⟨y0, y1, y2, y3, y4, z0⟩
              | with_reducible exact ⟨below_cell bl.drew y0, below_cell bl.drew y1, below_cell bl.drew y2, below_cell bl.drew y3, below_cell bl.drew y4, below_cell bl.drew z0⟩
              | with_reducible exact ⟨pa0, pa1, pa2, pa3, pa4, za⟩
              | with_reducible exact ⟨pb0, pb1, pb2, pb3, pb4, zb⟩
              | with_reducible exact ⟨pc0, pc1, pc2, pc3, pc4, zc⟩
              | with_reducible exact ⟨pd0, pd1, pd2, pd3, pd4, zd⟩
              | with_reducible exact ⟨pe0, pe1, pe2, pe3, pe4, ze⟩
              | with_reducible exact ⟨pf0, pf1, pf2, pf3, pf4, zf⟩
              | fail)
            (first
              | (go_at_call 52; refine (dput_nil k we se d).mono ?_; rintro e wf ⟨vf, rfl, rfl, hbf⟩; have pf0 := below_cell hbf pe0; have pf1 := below_cell hbf pe1; have pf2 := below_cell hbf pe2; have pf3 := below_cell hbf pe3; have pf4 := below_cell hbf pe4; have zf := below_cell hbf ze; have hbF := nx hbE hbf)
              | (go_at_call 53; refine (ownData_any s d wd (HD1.out.below (nx HBZ.out hbD)) (by have := HLIM.out; omega)).mono ?_; rintro e we ⟨ve, rfl, ⟨se, rfl, hoe⟩, hbe⟩; have pe0 := below_cell hbe pd0; have pe1 := below_cell hbe pd1; have pe2 := below_cell hbe pd2; have pe3 := below_cell hbe pd3; have pe4 := below_cell hbe pd4; have ze := below_cell hbe zd; have hbE := nx hbD hbe)
              | (go_at_call 25; refine (same_any _ _ _ _ _ _ x.b y.b wc hrc (HZR.out.below hbC) (by unfold maxLen; have := HXL.out; omega) (by unfold maxLen; have := HXL.out; omega)).mono ?_; rw [decide_eq_true HALL.out.1]; rintro e wd ⟨rfl, md, hwd⟩; have hbd : Below wc.heap.size wc wd := (by rw [hwd]; exact dN bl md); clear hwd; have pd0 := below_cell hbd pc0; have pd1 := below_cell hbd pc1; have pd2 := below_cell hbd pc2; have pd3 := below_cell hbd pc3; have pd4 := below_cell hbd pc4; have zd := below_cell hbd zc; have hbD := nx hbC hbd)
              | (go_at_call 57; refine (wbytes_any wb w1.heap.size g F x (HP8.out.W.below hbB) (by have := HXL.out; omega)).mono ?_; rintro e wc ⟨vc, rfl, hownc, hbc⟩; obtain ⟨Ac, cc, rfl, hrc, hlc, hmc⟩ := hownc.form; have pc0 := below_cell hbc pb0; have pc1 := below_cell hbc pb1; have pc2 := below_cell hbc pb2; have pc3 := below_cell hbc pb3; have pc4 := below_cell hbc pb4; have zc := below_cell hbc zb; have hbC := nx hbB hbc)
              | (go_at_call 56; refine (dsound_any k sa d wa (hoa.din.rd (fun b hb => hb.2)) (by have := HLIM.out; omega) (by have := HLIM.out; omega) (by have := HLIM.out; omega) (by have := HLIM.out; omega)).mono ?_; rw [HFB.out]; rintro e wb ⟨vb, rfl, rfl, hbb⟩; have pb0 := below_cell hbb pa0; have pb1 := below_cell hbb pa1; have pb2 := below_cell hbb pa2; have pb3 := below_cell hbb pa3; have pb4 := below_cell hbb pa4; have zb := below_cell hbb za; have hbB := nx hbA hbb)
              | (go_at_call 53; refine (ownData_any s d w8.drew (HD1.out.below (nx HBZ.out bl.drew)) (by have := HLIM.out; omega)).mono ?_; rintro e wa ⟨va, rfl, ⟨sa, rfl, hoa⟩, hba'⟩; have hbA : Below w8.heap.size w8 wa := bl.drew.trans hba'; have pa0 := below_cell hbA y0; have pa1 := below_cell hbA y1; have pa2 := below_cell hbA y2; have pa3 := below_cell hbA y3; have pa4 := below_cell hbA y4; have za := below_cell hbA z0)
              | fail)
        | fail
        go_wp2
        go_ret
        exact ⟨rfl, nx HBW1.out (nx HBZ.out hbF)⟩

set_option maxHeartbeats 2000000 in
theorem rdataWrites_heavy (k : Int) (s : DS) (d : Da) (A : Option Addr) (c : Nat) (names : List (List (List UInt8))) (w : World) (hd : DRd w s d) (hl : lightD d = true → 30 < names.length) :
    Calls Try.prog 11 #[.int .i64 k, dsV s d, .slice A names.length c] w (LawT w) := by
  obtain ⟨w1, hw1⟩ : ∃ w1, w1 = w.alloc (.cells #[.slice s.A0 d.bytes.length s.c0, .slice s.A1 d.host.length s.c1, .slice s.A2 d.mail.length s.c2, .slice s.A3 d.nums.length s.c3, .slice s.A4 d.texts.length s.c4] 46) := ⟨_, rfl⟩
  have hb1 : Below w.heap.size w w1 := by rw [hw1]; exact bl.alloc (Nat.le_refl _) _
  have HB1 : Hid (DBox w1 w.heap.size s d) := by show DBox _ _ _ _; rw [hw1]; exact DBox.made w s d _
  have HD := Lib.hid hd
  have HBW1 := Lib.hid hb1
  have HLL := Lib.hid hl
  unfold dsV
  obtain ⟨x0, x1, x2, x3, x4⟩ := HB1.out
  clear hd hb1 hl
  cases hl : lightD d with
  | false =>
    have HL := Lib.hid hl
    clear hl
    go_enter Try.func11, Try.ntmps11
    go_upto_region 1 with (fail)
    rw [← hw1]
    clear hw1
    go_wp2_with (first
      | (go_at_call 46; refine (answers04_any w3).mono ?_; rintro e w4 ⟨rfl, hb4⟩)
      | (go_at_call 47; refine (light04_any s d w2 (HD.out.below (nx HBW1.out hb2))).mono ?_; rw [HL.out]; rintro e w3 ⟨v3, rfl, rfl, hb3⟩)
      | (go_at_call 46; refine (answers04_any w1).mono ?_; rintro e w2 ⟨rfl, hb2⟩; have HB2 := Lib.hid (HB1.out.below hb2); obtain ⟨a0, a1, a2, a3, a4⟩ := HB2.out)
      | fail)
    go_ret
    exact ⟨rfl, nx (nx (nx HBW1.out hb2) hb3) hb4⟩
  | true =>
    have HL := Lib.hid hl
    have h30 : (30 : Int) < (names.length : Int) := by have := HLL.out hl; omega
    clear hl
    go_enter Try.func11, Try.ntmps11
    go_upto_region 1 with (fail)
    rw [← hw1]
    clear hw1
    go_wp2_with (first
      | (go_at_call 46; refine (answers04_any w3).mono ?_; rintro e w4 ⟨rfl, hb4⟩)
      | (go_at_call 47; refine (light04_any s d w2 (HD.out.below (nx HBW1.out hb2))).mono ?_; rw [HL.out]; rintro e w3 ⟨v3, rfl, rfl, hb3⟩)
      | (go_at_call 46; refine (answers04_any w1).mono ?_; rintro e w2 ⟨rfl, hb2⟩; have HB2 := Lib.hid (HB1.out.below hb2); obtain ⟨a0, a1, a2, a3, a4⟩ := HB2.out)
      | fail)
    go_ret
    exact ⟨rfl, nx (nx (nx HBW1.out hb2) hb3) hb4⟩

theorem rdataWrites_walk (k : Int) (s : DS) (d : Da) (A : Option Addr) (n c : Nat) (names : List (List (List UInt8))) (w : World) (hd : DRd w s d) (hn : RdE (slE encS) w A n names) :
    Calls Try.prog 11 #[.int .i64 k, dsV s d, .slice A n c] w (LawT w) := by
  have hl := hn.len
  subst hl
  by_cases h : lightD d = true ∧ names.length ≤ 30
  · exact rdataWrites_ok k s d A c names w hd hn h.1 h.2
  · exact rdataWrites_heavy k s d A c names w hd fun h1 => by
      by_cases h2 : names.length ≤ 30
      · exact absurd ⟨h1, h2⟩ h
      · omega
end Go.Proofs.Ytbjaphldncagjaa
