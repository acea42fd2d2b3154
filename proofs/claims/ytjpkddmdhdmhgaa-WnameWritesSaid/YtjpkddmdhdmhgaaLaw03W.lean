/- WnameWrites: the law's walk. -/
import Derived.Test.YtjpkddmdhdmhgaaPairMem
import Derived.Test.YtjpkddmdhdmhgaaPiece
import Derived.Test.YtjpkddmdhdmhgaaRWName3
import Derived.Test.YtjpkddmdhdmhgaaWtr4
import Derived.Test.YtjpkddmdhdmhgaaRName
import Derived.Test.YtjpkddmdhdmhgaaStrs2
import Derived.Test.YtjpkddmdhdmhgaaAns03
import Derived.Test.YtjpkddmdhdmhgaaSame
namespace Go.Proofs.Ytjpkddmdhdmhgaa
open Go.RowKit

theorem nameS_snd {x : Wr} {ns : List (List UInt8)} (s : Bool) (h : soundB ns = true) : x.nameS ns s = x.name ns s ∧ nameR ns = 0 := by
  unfold Wr.nameS nameR
  rw [if_pos h, if_pos h]
  exact ⟨rfl, rfl⟩

/-- Where the walk stands behind some pieces. -/
def WriSt (w wr : World) (g l : Nat) (k : Nat) : Prop := ∃ F G x y, PairSt w wr g l F G x y ∧ Alike x y ∧ y.Fine ∧ y.b.length ≤ 90000 ∧ x.rests.length ≤ 300 * k ∧ y.rests.length ≤ 300 * k
theorem WriSt.nx {w wr w' : World} {g l k : Nat} (h : WriSt w wr g l k) (hb : Below wr.heap.size wr w') : WriSt w w' g l k := by
  obtain ⟨F, G, x, y, h1, h2⟩ := h
  exact ⟨F, G, x, y, h1.nx hb, h2⟩
theorem WriSt.more {w wr : World} {g l k k' : Nat} (h : WriSt w wr g l k) (hk : k ≤ k') : WriSt w wr g l k' := by
  obtain ⟨F, G, x, y, h1, h2, h3, h4, h5, h6⟩ := h
  exact ⟨F, G, x, y, h1, h2, h3, h4, by omega, by omega⟩
theorem WriSt.bw {w wr : World} {g l k : Nat} (h : WriSt w wr g l k) : Below w.heap.size w wr := by
  obtain ⟨F, G, x, y, h1, h2⟩ := h
  exact h1.bw

set_option maxRecDepth 100000 in
set_option maxHeartbeats 4000000 in
theorem wnameWrites_walk (A : Option Addr) (n c : Nat) (ps : List Pc) (w : World) (h : RdE encPc w A n ps) (hcm : n ≤ 9223372036854775807) :
    Calls Try.prog 9 #[.slice A n c] w (LawT w) := by
  have hl := h.1
  subst hl
  go_enter Try.func9, Try.ntmps9
  go_wp2_with fail
  refine (wnew_any _).mono ?_
  rintro e w1 ⟨g, F, rfl, hw1, hb1⟩
  have HW1 := Lib.hid hw1
  clear hw1
  go_upto_region 3 with (fail)
  obtain ⟨w2, hw2⟩ : ∃ w2, w2 = w1.alloc (.cells #[.slice none 0 0, .slice none 0 0] 78) := ⟨_, rfl⟩
  have HS2 : Hid (WriSt w w2 g w1.heap.size 0) := by
    have hb2 : Below w1.heap.size w1 w2 := by rw [hw2]; exact bl.alloc (Nat.le_refl _) _
    have hm : RWtr w2 w1.heap.size (fun k => k = w1.heap.size) w1.heap.size RW.nil := by rw [hw2]; exact RWtr.made w1
    exact ⟨F, fun k => k = w1.heap.size, Wr.nil, RW.nil, ⟨HW1.out.below hb2, hm.base_le hb1.size, fun b hf hg => by have h1 := (HW1.out.F_lt b hf).2; have h2 : b = w1.heap.size := hg; omega, nx hb1 hb2⟩, alike_nil, RW.fine_nil, Nat.zero_le _, Nat.le_refl _, Nat.le_refl _⟩
  rw [← hw2]
  clear hw2 HW1
  generalize w1.heap.size = l at HS2 ⊢
  go_upto_block 0 with (first
    | (go_at_call 38; refine (answers03_any _).mono ?_; rintro e w3 ⟨rfl, hb3⟩; have HS3 := Lib.hid (HS2.out.nx hb3))
    | fail)
  go_wp2_with fail
  go_loopw [5] (fun iv wr => ∃ k : Nat, iv = .int .i64 k ∧ k ≤ ps.length ∧ k ≤ 60 ∧ Hid (WriSt w wr g l k)) (fun iv _ => ps.length - (intOf iv).toNat)
  case atStart => exact ⟨0, rfl, Nat.zero_le _, Nat.zero_le _, HS3⟩
  case round =>
    clear HS3 HS2
    obtain ⟨k, rfl, hk, hk60, HS⟩ := hrel
    by_cases hlt : k < ps.length ∧ k < 60
    · obtain ⟨hlt, hlt60⟩ := hlt
      obtain ⟨p, hp⟩ : ∃ p, ps[k]? = some p := ⟨_, List.getElem?_eq_getElem hlt⟩
      obtain ⟨b, off, A1, c1, A2, c2, rfl, hc0, hc1, hc2, hc3, hc4, hc5, hrn, hn1, hm1, hrr, hn2, hi1, hi2, hi3⟩ := pcs_at h hp
      have hbw := HS.out.bw
      have d0 := below_cell hbw hc0
      have d1 := below_cell hbw hc1
      have d2 := below_cell hbw hc2
      have d3 := below_cell hbw hc3
      have d4 := below_cell hbw hc4
      have d5 := below_cell hbw hc5
      clear hp hc0 hc1 hc2 hc3 hc4 hc5
      go_upto_region 9 with (fail)
      obtain ⟨wp, hwp⟩ : ∃ wp, wp = wr.alloc (.cells #[.slice A1 p.name.length c1, .bool p.short, .slice A2 p.raw.length c2, .int .i64 p.n, .int .i64 p.size, .int .i64 p.kind] 81) := ⟨_, rfl⟩
      have hbp : Below wr.heap.size wr wp := by rw [hwp]; exact bl.alloc (Nat.le_refl _) _
      have HBX : Hid (Box wp wr.heap.size A1 A2 c1 c2 p) := by show Box _ _ _ _ _ _ _; rw [hwp]; exact Box.made _ _ _ _ _ _ _
      rw [← hwp]
      clear hwp d0 d1 d2 d3 d4 d5
      obtain ⟨F, G, x, y, HP, HA, HFY, hy9, hr1, hr2⟩ := HS.out
      have hqF : ∀ b, F b ∨ G b → b ≠ wr.heap.size := fun b hb e => by have := HP.F_lt b hb; omega
      have HQF := Lib.hid hqF
      have HPp := Lib.hid (HP.nx hbp)
      have HAL := Lib.hid HA
      have HFI := Lib.hid HFY
      have hxy := HA.1
      have hqs : wr.heap.size < wp.heap.size := by have := World.block_lt_of_cell? wp _ HBX.out.1; exact this
      clear HP HA HFY hqF hbp hbw HS
      generalize wr.heap.size = q at HBX HQF hqs ⊢
      obtain ⟨x0, x1, x2, x3, x4, x5⟩ := HBX.out
      obtain ⟨Ay, cy, hay⟩ := HPp.out.bytes
      have HAY := Lib.hid hay
      have y0 := hay.1
      clear hay
      by_cases hlg : lightB p = true
      · have HLG := Lib.hid hlg
        obtain ⟨hg1, hg2, hg3⟩ := lightB_iff.1 hlg
        clear hlg
        by_cases hy6 : y.b.length ≤ 60000
        · go_upto_region 10 with (first
            | (go_at_call 39; refine (light_any A1 A2 c1 c2 p _ (hrn.below HPp.out.bw)).mono ?_; rintro e wl ⟨v, rfl, rfl, hbl⟩; rw [HLG.out]; have y1 := below_cell hbl y0)
            | fail)
          have HPl := Lib.hid (HPp.out.nx hbl)
          have HBl := Lib.hid (HBX.out.below hbl)
          obtain ⟨z0, z1, z2, z3, z4, z5⟩ := HBl.out
          have hql : q < wl.heap.size := Nat.lt_of_lt_of_le hqs hbl.size
          have HRN := Lib.hid hrn
          have HRR := Lib.hid hrr
          have hxyl : x.b.length = y.b.length := by rw [hxy]
          have hx1 : x.b.length ≤ 60000 := by omega
          have hx2 : x.rests.length ≤ 18000 := by omega
          have hx3 : y.rests.length ≤ 18000 := by omega
          clear x0 x1 x2 x3 x4 x5 y0 HBX HPp HAY hqs hrn hrr hxy
          clear y1
          go_upto_block 2 with (fail)
          go_cut [43] (fun _ wc => Hid (WriSt w wc g l (k + 1)))
          case first =>
            by_cases hk1 : p.kind = 1
            · go_wp2_with (first
                | (go_at_call 41; refine (rwraw_any _ w.heap.size l G y _ _ _ p.raw HP5.out.L (HRR.out.below HP5.out.bw) (by omega)).mono ?_; rintro e w6 ⟨rfl, F6, h6, hc6, hF6⟩; have HP6 := Lib.hid (HP5.out.stepL h6 hc6 hF6))
                | ((with_reducible show wpList _ _ _ (⟨some 80, _, _, _, _, _⟩ :: _) _ _); refine wpL_cloneB rfl (.tmp 77) (.tmp 79) rfl rfl A2 _ c2 p.raw rfl (HRR.out.below HPl.out.bw) (by omega) ?_; intro v4 w4 hown4 hb4; have HP4 := Lib.hid (HPl.out.nx hb4); have HB4 := Lib.hid (HBl.out.below hb4); obtain ⟨A4, c4, rfl, hr4, _⟩ := hown4.form)
                | (go_at_call 40; refine (wraw_any _ w.heap.size g F x _ _ _ p.raw HP4.out.W hr4 (by omega)).mono ?_; rintro e w5 ⟨rfl, F5, h5, hc5, hF5⟩; have HP5 := Lib.hid (HP4.out.stepW h5 hc5 hF5); obtain ⟨_, _, s2, _⟩ := HB4.out.chg hc5 (fun hf => HQF.out q (.inl hf) rfl); clear h5)
                | fail)
              go_meet
              case rel => exact ⟨F5, F6, x.raw p.raw, y.raw p.raw, HP6.out, HAL.out.raw _, HFI.out.raw _, by show (y.b ++ p.raw).length ≤ _; rw [List.length_append]; omega, by show x.rests.length ≤ _; omega, by show y.rests.length ≤ _; omega⟩
            · by_cases hk2 : p.kind = 2
              · have hpl := putB_nil_le p.n p.size
                go_wp2_with (first
                  | (go_at_call 43; refine (rwnum_any _ w.heap.size l G y p.n p.size HP5.out.L (by omega) hi1.2).mono ?_; rintro e w6 ⟨rfl, F6, h6, hc6, hF6⟩; have HP6 := Lib.hid (HP5.out.stepL h6 hc6 hF6))
                  | (go_at_call 42; refine (wnum_any _ w.heap.size g F x p.n p.size HPl.out.W (by omega)).mono ?_; rintro e w5 ⟨rfl, F5, h5, hc5, hF5⟩; have HP5 := Lib.hid (HPl.out.stepW h5 hc5 hF5); obtain ⟨_, _, _, s3, s4, _⟩ := HBl.out.chg hc5 (fun hf => HQF.out q (.inl hf) rfl); clear h5)
                  | fail)
                go_meet
                case rel => exact ⟨F5, F6, x.raw _, y.raw _, HP6.out, HAL.out.raw _, HFI.out.raw _, by show (y.b ++ putB [] p.n p.size).length ≤ _; rw [List.length_append]; omega, by show x.rests.length ≤ _; omega, by show y.rests.length ≤ _; omega⟩
              · go_upto_region 11 with (fail)
                have hnl : p.name.length ≤ 8796093022208 := by omega
                have hElS : Els encS (fun b => b < w.heap.size) (fun b => b < w.heap.size) wl.drew A1 p.name.length p.name := Els.below HRN.out (nx HPl.out.bw bl.drew) (fun _ h => h) (fun _ h => h)
                have hw0 : w.heap.size ≤ wl.heap.size := HPl.out.bw.size
                go_region_held3 (fun w' => w'.cell? ⟨q, 0, none⟩ = some (.slice A1 p.name.length c1) ∧ w'.cell? ⟨q, 1, none⟩ = some (.bool p.short))
                  (first
                    | with_reducible exact ⟨z0, z1⟩
                    | with_reducible exact ⟨below_cell bl.drew z0, below_cell bl.drew z1⟩
                    | with_reducible exact ⟨below_cell (bl.alloc (Nat.le_refl _) _) (below_cell bl.drew z0), below_cell (bl.alloc (Nat.le_refl _) _) (below_cell bl.drew z1)⟩
                    | with_reducible exact ⟨below_cell bl.drew (below_cell (bl.alloc (Nat.le_refl _) _) z0), below_cell bl.drew (below_cell (bl.alloc (Nat.le_refl _) _) z1)⟩
                    | with_reducible exact ⟨u0, u1⟩
                    | with_reducible exact ⟨below_cell bl.drew u0, below_cell bl.drew u1⟩
                    | with_reducible exact ⟨v0, v1⟩
                    | fail)
                  (first
                    | (go_at_call 44; refine (name_any w4 w.heap.size g F x _ _ _ p.name p.short HP4.out.W hel4 HLT4.out (by omega) hl4 hm4 (by omega) (by omega)).mono ?_; rintro e w5 ⟨rfl, F5, h5, hc5, hF5⟩; have HP5 := Lib.hid (HP4.out.stepW h5 hc5 hF5); have HB5 := Lib.hid (HB4.out.chg hc5 (fun hf => HQF.out q (.inl hf) rfl)); have v0 := HB5.out.1; have v1 := HB5.out.2.1; clear h5)
                    | (refine step_cloneS (w := wl.drew) (by rfl) (.tmp 45) (.tmp 47) (by rfl) (by rfl) A1 _ c1 p.name (by rfl) hElS hnl ?_ (by rfl); intro v4 w4 hown4 hb4'; have hb4 : Below wl.heap.size wl w4 := bl.drew.trans hb4'; have HP4 := Lib.hid (HPl.out.nx hb4); have HB4 := Lib.hid (HBl.out.below hb4); have u0 := HB4.out.1; have u1 := HB4.out.2.1; have HLT4 := Lib.hid (show ∀ b, v4.ownBlock = some b → b < w4.heap.size ∧ ¬ F b from fun b hb => by have h1 := hown4.lt b hb; exact ⟨h1.2, fun hF => by have h2 := (HPl.out.W.F_lt b hF).2; have h3 : wl.heap.size ≤ b := h1.1; omega⟩); obtain ⟨A4, c4, rfl, hel4, hl4, hm4⟩ := hown4.form; clear hown4)
                    | fail)
                by_cases hs : soundB p.name = true
                · have hnS := nameS_snd (x := x) p.short hs
                  have HN0 := Lib.hid hnS.2
                  have HN1 := Lib.hid hnS.1
                  have HSB := Lib.hid hs
                  have hsn := soundB_iff.1 hs
                  have HSN := Lib.hid hsn
                  have hzl := sizeN_length p.name
                  have hz := hsn.2
                  have hyn := RW.name_rests (x := y) p.name p.short
                  have hxn := Wr.name_rests (x := x) p.name p.short
                  have hxl := Wr.name_le (x := x) p.name p.short
                  have HAN := Lib.hid (HAL.out.name (small_of_sound hsn) p.short)
                  have hxyn := HAN.out.1
                  have hyl : (y.name p.name p.short).b.length ≤ 90000 := by rw [← hxyn]; omega
                  clear hs hsn hnS hxyn hxl
                  rw [HN0.out]
                  go_wp2_with (first
                    | (go_at_call 45; refine (rsound_any _ _ _ p.name _ (HRN.out.below HP5.out.bw)).mono ?_; rw [HSB.out]; rintro e wa ⟨rfl, rfl⟩)
                    | (go_at_call 46; refine (rwname_any _ w.heap.size l G y A1 _ c1 p.name p.short HP5.out.L (Els.below HRN.out HP5.out.bw (fun _ h => h) (fun _ h => h)) (fun b hb => ⟨Nat.lt_of_lt_of_le hb HP5.out.bw.size, (HP5.out.far hb).2⟩) HSN.out HFI.out hn1 hm1 (by omega) (by omega)).mono ?_; rintro e w6 ⟨rfl, F6, h6, hc6, hF6⟩; have HP6 := Lib.hid (HP5.out.stepL h6 hc6 hF6))
                    | fail)
                  go_meet
                  case rel => exact ⟨F5, F6, x.name p.name p.short, y.name p.name p.short, by rw [← HN1.out]; exact HP6.out, HAN.out, HFI.out.name HSN.out p.short, hyl, by omega, by omega⟩
                · have hs' : soundB p.name = false := by simpa using hs
                  have HN0 : Hid (nameR p.name = 5) := by show _ = _; unfold nameR; rw [if_neg hs]
                  have HN1 : Hid (x.nameS p.name p.short = x) := by show _ = _; unfold Wr.nameS; rw [if_neg hs]
                  have HSB := Lib.hid hs'
                  clear hs hs'
                  rw [HN0.out]
                  go_wp2_with (first
                    | (go_at_call 45; refine (rsound_any _ _ _ p.name _ (HRN.out.below HP5.out.bw)).mono ?_; rw [HSB.out]; rintro e wa ⟨rfl, rfl⟩)
                    | fail)
                  go_meet
                  case rel => exact ⟨F5, G, x, y, by have := HP5.out; rw [HN1.out] at this; exact this, HAL.out, HFI.out, hy9, by omega, by omega⟩
          case rest =>
            clear HPl HBl HAL HFI z0 z1 z2 z3 z4 z5 hxyl hx1 hx2 hx3 hr1 hr2 hy9 hy6 HQF hql
            obtain ⟨F, G, x, y, HP, HA, HFY, hy9, hr1, hr2⟩ := hcut
            obtain ⟨Ay, cy, hay⟩ := HP.bytes
            have y0 := hay.1
            have hxyl : x.b.length = y.b.length := by rw [HA.1]
            have HPh := Lib.hid HP
            have hwl := wlen_any wc.drew w.heap.size g F x (HP.W.below bl.drew)
            rw [hxyl] at hwl
            clear HP hay hxyl
            go_upto_region 22 with (fail)
            go_region_held3 (fun w' => w'.cell? ⟨l, 0, none⟩ = some (.slice Ay y.b.length cy))
              (first
                | with_reducible exact y0
                | with_reducible exact below_cell bl.drew y0)
              (first
                | (go_at_call 47; refine hwl.mono ?_; rintro e wa ⟨rfl, rfl⟩)
                | fail)
            go_wp2
            go_roundw
            case rel => exact ⟨k + 1, by go_num, by omega, by omega, F, G, x, y, HPh.out.nx bl.drew, HA, HFY, hy9, hr1, hr2⟩
            case measure => simp [intOf]; omega
        · go_wp2_with (first
            | (go_at_call 39; refine (light_any A1 A2 c1 c2 p _ (hrn.below HPp.out.bw)).mono ?_; rintro e wl ⟨v, rfl, rfl, hbl⟩; rw [HLG.out]; have y1 := below_cell hbl y0)
            | fail)
          go_roundw
          case rel => exact ⟨k + 1, by go_num, by omega, by omega, F, G, x, y, HPp.out.nx hbl, HAL.out, HFI.out, hy9, by omega, by omega⟩
          case measure => simp [intOf]; omega
      · have hlg' : lightB p = false := by simpa using hlg
        have HLG := Lib.hid hlg'
        clear hlg hlg'
        go_wp2_with (first
          | (go_at_call 39; refine (light_any A1 A2 c1 c2 p _ (hrn.below HPp.out.bw)).mono ?_; rintro e wl ⟨v, rfl, rfl, hbl⟩; rw [HLG.out])
          | fail)
        go_roundw
        case rel => exact ⟨k + 1, by go_num, by omega, by omega, F, G, x, y, HPp.out.nx hbl, HAL.out, HFI.out, hy9, by omega, by omega⟩
        case measure => simp [intOf]; omega
    · obtain ⟨F, G, x, y, HP, HA, HFY, hy9, hr1, hr2⟩ := HS.out
      obtain ⟨Ay, cy, hay⟩ := HP.bytes
      have y0 := hay.1
      have HAY := Lib.hid hay.2.1
      have HPh := Lib.hid HP
      have hxy := HA.1
      have hwb := wbytes_any wr.drew w.heap.size g F x (HP.W.below bl.drew) (by rw [hxy]; omega)
      rw [hxy] at hwb
      have hwb' := Lib.hid hwb
      have hbw := HP.bw
      clear HP hay hxy hwb
      by_cases hlt' : k < ps.length
      · have h60 : ¬ k < 60 := fun h => hlt ⟨hlt', h⟩
        clear hlt
        go_upto_region 24 with (fail)
        go_region_held3 (fun w' => w'.cell? ⟨l, 0, none⟩ = some (.slice Ay y.b.length cy))
          (first
            | with_reducible exact y0
            | with_reducible exact below_cell bl.drew y0
            | with_reducible exact y2
            | with_reducible exact below_cell bl.drew y2
            | with_reducible exact y3)
          (first
            | (go_at_call 18; refine (same_any _ _ _ _ _ _ y.b y.b w2 hrb hry (by unfold maxLen; omega) (by unfold maxLen; omega)).mono ?_; rw [decide_eq_true rfl]; rintro e w3 ⟨rfl, m3, hw3⟩; have hb3 : Below w2.heap.size w2 w3 := (by rw [hw3]; exact dN bl m3); clear hw3; have y3 := below_cell hb3 y2)
            | (go_at_call 48; refine hwb'.out.mono ?_; rintro e w2 ⟨v2, rfl, hown2, hb2'⟩; have hb2 : Below wr.heap.size wr w2 := bl.drew.trans hb2'; have y2 := below_cell hb2 y0; obtain ⟨A2, c2, rfl, hrb, _⟩ := hown2.form; have hry := HAY.out.below hb2)
            | fail)
        go_wp2
        go_ret
        exact ⟨rfl, nx hbw (nx hb2 hb3)⟩
      · clear hlt
        go_upto_region 24 with (fail)
        go_region_held3 (fun w' => w'.cell? ⟨l, 0, none⟩ = some (.slice Ay y.b.length cy))
          (first
            | with_reducible exact y0
            | with_reducible exact below_cell bl.drew y0
            | with_reducible exact y2
            | with_reducible exact below_cell bl.drew y2
            | with_reducible exact y3)
          (first
            | (go_at_call 18; refine (same_any _ _ _ _ _ _ y.b y.b w2 hrb hry (by unfold maxLen; omega) (by unfold maxLen; omega)).mono ?_; rw [decide_eq_true rfl]; rintro e w3 ⟨rfl, m3, hw3⟩; have hb3 : Below w2.heap.size w2 w3 := (by rw [hw3]; exact dN bl m3); clear hw3; have y3 := below_cell hb3 y2)
            | (go_at_call 48; refine hwb'.out.mono ?_; rintro e w2 ⟨v2, rfl, hown2, hb2'⟩; have hb2 : Below wr.heap.size wr w2 := bl.drew.trans hb2'; have y2 := below_cell hb2 y0; obtain ⟨A2, c2, rfl, hrb, _⟩ := hown2.form; have hry := HAY.out.below hb2)
            | fail)
        go_wp2
        go_ret
        exact ⟨rfl, nx hbw (nx hb2 hb3)⟩
end Go.Proofs.Ytjpkddmdhdmhgaa
