/- WnameBack: the law's walk. -/
import Derived.Test.YtjpkddmdhdmhgaaWtr4
import Derived.Test.YtjpkddmdhdmhgaaWget
import Derived.Test.YtjpkddmdhdmhgaaBackPlain
import Derived.Test.YtjpkddmdhdmhgaaBackMem
import Derived.Test.YtjpkddmdhdmhgaaRName
import Derived.Test.YtjpkddmdhdmhgaaStrs2
import Derived.Test.YtjpkddmdhdmhgaaAns03
namespace Go.Proofs.Ytjpkddmdhdmhgaa
open Go.RowKit

theorem nameS_sound {x : Wr} {ns : List (List UInt8)} (s : Bool) (h : soundB ns = true) : x.nameS ns s = x.name ns s ∧ nameR ns = 0 := by
  unfold Wr.nameS nameR
  rw [if_pos h, if_pos h]
  exact ⟨rfl, rfl⟩

set_option maxRecDepth 100000 in
set_option maxHeartbeats 4000000 in
theorem wnameBack_ok (A0 A1 A2 : Option Addr) (c0 c1 c2 : Nat) (names : List (List (List UInt8))) (ahead : List UInt8) (sh : List Bool) (w : World) (h : RdE (slE encS) w A0 names.length names) (ha : RdB w A1 ahead.length ahead) (hs : RdE encBool w A2 sh.length sh) (h60 : names.length ≤ 60) (h2 : ahead.length ≤ 20000) :
    Calls Try.prog 10 #[.slice A0 names.length c0, .slice A1 ahead.length c1, .slice A2 sh.length c2] w (LawT w) := by
  obtain ⟨x0, hx0⟩ : ∃ x0, x0 = Wr.nil.raw ahead := ⟨_, rfl⟩
  have hb0 : x0.b.length = ahead.length := by rw [hx0]; simp [Wr.raw, Wr.nil]
  have hr0 : x0.rests.length = 0 := by rw [hx0]; rfl
  have HT0 : Hid x0.True := by rw [hx0]; exact Wr.true_nil.raw _
  have HX0 := Lib.hid hx0
  have HB0 := Lib.hid hb0
  have HR0 := Lib.hid hr0
  clear hx0 hb0 hr0
  go_enter Try.func10, Try.ntmps10
  go_wp2_with fail
  refine (wnew_any _).mono ?_
  rintro e w1 ⟨g, F, rfl, hw1, hb1⟩
  go_wp2_with fail
  refine (wnew_any _).mono ?_
  rintro e w2 ⟨l, G, rfl, hl2, hb2⟩
  have hS2 : BackSt w w2 g l F G Wr.nil Wr.nil (.slice none 0 0) [] := ⟨hw1.below hb2, hl2.base_le hb1.size, OwnE.nil _ _ _ _, fun b hf hg => by have := (hw1.F_lt b hf).2; have := (hl2.F_lt b hg).1; omega, fun b hb => (by cases hb), nx hb1 hb2⟩
  have HS2 := Lib.hid hS2
  clear hS2 hw1 hl2
  go_upto_block 0 with (first
    | (go_at_call 38; refine (answers03_any _).mono ?_; rintro e w3 ⟨rfl, hb3⟩; have HS3 := Lib.hid (HS2.out.nx hb3))
    | ((with_reducible show wpList _ _ _ (⟨some 47, _, _, _, _, _⟩ :: _) _ _); refine wpL_cloneB rfl (.tmp 45) (.tmp 46) rfl rfl A1 _ c1 ahead rfl (ha.below HS3.out.bw) (by omega) ?_; intro v4 w4 hown4 hb4; have HS4 := Lib.hid (HS3.out.nx hb4); obtain ⟨A4, c4, rfl, hr4, _⟩ := hown4.form)
    | (go_at_call 40; refine (wraw_any _ w.heap.size g F Wr.nil _ _ _ ahead HS4.out.W hr4 (by show 0 + _ ≤ _; omega)).mono ?_; rintro e w5 ⟨rfl, F5, h5, hc5, hF5⟩; rw [← HX0.out] at h5; have HS5 := Lib.hid (HS4.out.stepW h5 hc5 hF5); clear h5)
    | fail)
  clear HS2 HS3 HS4 hown4 hr4
  go_cut [9, 10] (fun av _ wr => ∃ F G v, av = v ∧ Hid (BackSt w wr g l F G (seqX x0 names sh names.length) (seqX Wr.nil names [] names.length) v (begins x0 names sh names.length)) ∧ Hid (∀ i, i < names.length → SoundN (names.getD i [])))
  case first =>
    go_wp2_with fail
    go_loopw [9, 10] (fun av iv wr => ∃ (k : Nat) (F G : Nat → Prop) (v : Value), iv = .int .i64 k ∧ k ≤ names.length ∧ av = v ∧ Hid (BackSt w wr g l F G (seqX x0 names sh k) (seqX Wr.nil names [] k) v (begins x0 names sh k)) ∧ Hid (∀ i, i < k → SoundN (names.getD i []))) (fun _ iv _ => names.length - (intOf iv).toNat)
    case atStart => exact ⟨0, F5, G, _, rfl, Nat.zero_le _, rfl, HS5, fun i hi => absurd hi (Nat.not_lt_zero i)⟩
    case round =>
      clear HS5
      obtain ⟨k, F, G, v, rfl, hk, rfl, HS, HN⟩ := hrel
      by_cases hlt : k < names.length
      · obtain ⟨ns, hns⟩ : ∃ ns, names[k]? = some ns := ⟨_, List.getElem?_eq_getElem hlt⟩
        obtain ⟨b0, off0, A', cx, rfl, hc0, hrn, hnc, hcm⟩ := names_at h hns
        have hgd : names.getD k [] = ns := by rw [List.getD_eq_getElem?_getD, hns]; rfl
        have hc := below_cell HS.out.bw hc0
        clear hns
        have HC0 := Lib.hid hc0
        clear hc0
        by_cases hsn : soundB ns = true
        · have hSN := soundB_iff.1 hsn
          have hl := sizeN_length ns
          have hz := hSN.2
          have hn255 : ns.length ≤ 255 := by omega
          have hx := seqX_length (x0 := x0) (sh := sh) k HN.out
          have hy := seqX_length (x0 := Wr.nil) (sh := []) k HN.out
          rw [HB0.out, HR0.out] at hx
          rw [show Wr.nil.b.length = 0 from rfl, show Wr.nil.rests.length = 0 from rfl] at hy
          obtain ⟨hx1, hx2⟩ := hx
          obtain ⟨hy1, hy2⟩ := hy
          have hx1 : (seqX x0 names sh k).b.length ≤ 10000000 := by omega
          have hx2 : (seqX x0 names sh k).rests.length ≤ 10000000 := by omega
          have hy1 : (seqX Wr.nil names [] k).b.length ≤ 10000000 := by omega
          have hy2 : (seqX Wr.nil names [] k).rests.length ≤ 10000000 := by omega
          clear hl hz
          have HN' : Hid (∀ i, i < k + 1 → SoundN (names.getD i [])) := fun i hi => by
            by_cases e : i = k
            · subst e; rw [hgd]; exact hSN
            · exact HN.out i (by omega)
          have HS1 := Lib.hid hsn
          clear hSN hsn
          obtain ⟨s, hs'⟩ : ∃ s, s = sh.getD k false := ⟨_, rfl⟩
          have HE1 : Hid ((seqX x0 names sh k).nameS ns s = seqX x0 names sh (k + 1)) := by show _ = _; rw [(nameS_sound s HS1.out).1, seqX_succ, hgd, hs']
          have HE2 : Hid ((seqX Wr.nil names [] k).nameS ns false = seqX Wr.nil names [] (k + 1)) := by show _ = _; rw [(nameS_sound false HS1.out).1, seqX_succ, hgd]; simp
          have HE3 : Hid (nameR ns = 0) := (nameS_sound (x := x0) false HS1.out).2
          have HEB : Hid (begins x0 names sh k ++ [((seqX x0 names sh k).b.length : Int)] = begins x0 names sh (k + 1)) := (begins_succ _ _ _ _).symm
          have hbl := begins_length x0 names sh k
          clear hgd
          generalize seqX x0 names sh k = x at HS hx1 hx2 HE1 HEB
          generalize seqX Wr.nil names [] k = y at HS hy1 hy2 HE2
          generalize begins x0 names sh k = ats at HS HEB hbl
          by_cases hks : k < sh.length
          · have hsk : sh[k]? = some s := by rw [List.getElem?_eq_getElem hks, hs', List.getD_eq_getElem?_getD, List.getElem?_eq_getElem hks]; rfl
            obtain ⟨b2, off2, rfl, hsc0⟩ := bools_at hs hsk
            have HSC := Lib.hid hsc0
            clear hs' hsk hsc0
            go_wp2_with (first
              | (go_at_call 45; refine (rsound_any _ _ _ ns _ (hrn.below HS.out.bw)).mono ?_; rw [HS1.out]; rintro e wa ⟨rfl, rfl⟩)
              | (go_at_call 47; refine (wlen_any _ w.heap.size g F x HS.out.W).mono ?_; rintro e wa ⟨rfl, rfl⟩)
              | ((with_reducible show wpList _ _ _ (⟨some 65, _, _, _, _, _⟩ :: _) _ _); refine wpL_pushE (S' := noS) elI rfl (.tmp 61) (.tmp 64) rfl w.heap.size _ ats rfl HS.out.A _ (x.b.length : Int) ⟨rfl, by omega, by omega⟩ (fun b hb => hb.elim) rfl (by omega) (by unfold maxLen; omega) HS.out.bw.size ?_; intro v3 w3 hown3 hg3 hat3; have HS3 := Lib.hid (HS.out.push hown3 hg3 hat3); rw [HEB.out] at HS3; have hc3 := below_cell HS3.out.bw HC0.out; have hlt3 : b0 < w3.heap.size := World.block_lt_of_cell? w3 _ hc3; clear hown3 hg3 hat3)
              | ((with_reducible show wpList _ _ _ (⟨some 72, _, _, _, _, _⟩ :: _) _ _); refine wpL_cloneS rfl (.tmp 67) (.tmp 71) rfl rfl A' _ cx ns rfl (hrn.below HS3.out.bw) (by omega) ?_; intro v4 w4 hown4 hb4; have HS4 := Lib.hid (HS3.out.nx hb4); have hc4 := below_cell HS4.out.bw HC0.out; have hsc4 := below_cell HS4.out.bw HSC.out; have hlt4 : b2 < w4.heap.size := World.block_lt_of_cell? w4 _ hsc4; have HLT4 := Lib.hid (show ∀ b, v4.ownBlock = some b → b < w4.heap.size ∧ ¬ F b from fun b hb => by have h1 := hown4.lt b hb; exact ⟨h1.2, fun hF => by have := (HS3.out.W.F_lt b hF).2; omega⟩); obtain ⟨A4, c4, rfl, hel4, hl4, hm4⟩ := hown4.form; clear hown4)
              | (go_at_call 44; refine (name_any w6 w.heap.size l G y _ _ _ ns false HS6.out.L hel6 HLT6.out (by omega) hl6 hm6 hy1 hy2).mono ?_; rw [HE2.out, HE3.out]; rintro e w7 ⟨rfl, F7, h7, hc7, hF7⟩; have HS7 := Lib.hid (HS6.out.stepL h7 hc7 hF7); clear h7)
              | (go_at_call 44; refine (name_any w4 w.heap.size g F x _ _ _ ns s HS4.out.W hel4 HLT4.out (by omega) hl4 hm4 hx1 hx2).mono ?_; rw [HE1.out, HE3.out]; rintro e w5 ⟨rfl, F5, h5, hc5, hF5⟩; have HS5 := Lib.hid (HS4.out.stepW h5 hc5 hF5); have hc5' := below_cell HS5.out.bw HC0.out; have hlt5 : b0 < w5.heap.size := World.block_lt_of_cell? w5 _ hc5'; clear h5)
              | ((with_reducible show wpList _ _ _ (⟨some 90, _, _, _, _, _⟩ :: _) _ _); refine wpL_cloneS rfl (.tmp 85) (.tmp 89) rfl rfl A' _ cx ns rfl (hrn.below HS5.out.bw) (by omega) ?_; intro v6 w6 hown6 hb6; have HS6 := Lib.hid (HS5.out.nx hb6); have hc6 := below_cell HS6.out.bw HC0.out; have HLT6 := Lib.hid (show ∀ b, v6.ownBlock = some b → b < w6.heap.size ∧ ¬ G b from fun b hb => by have h1 := hown6.lt b hb; exact ⟨h1.2, fun hF => by have := (HS5.out.L.F_lt b hF).2; omega⟩); obtain ⟨A6, c6, rfl, hel6, hl6, hm6⟩ := hown6.form; clear hown6)
              | fail)
            go_roundw
            case rel => exact ⟨k + 1, F5, F7, _, by go_num, by omega, rfl, HS7, HN'⟩
            case measure => simp [intOf]; omega
          · have hsf : s = false := by rw [hs', List.getD_eq_getElem?_getD, List.getElem?_eq_none (by omega)]; rfl
            subst hsf
            clear hs'
            go_wp2_with (first
              | (go_at_call 45; refine (rsound_any _ _ _ ns _ (hrn.below HS.out.bw)).mono ?_; rw [HS1.out]; rintro e wa ⟨rfl, rfl⟩)
              | (go_at_call 47; refine (wlen_any _ w.heap.size g F x HS.out.W).mono ?_; rintro e wa ⟨rfl, rfl⟩)
              | ((with_reducible show wpList _ _ _ (⟨some 65, _, _, _, _, _⟩ :: _) _ _); refine wpL_pushE (S' := noS) elI rfl (.tmp 61) (.tmp 64) rfl w.heap.size _ ats rfl HS.out.A _ (x.b.length : Int) ⟨rfl, by omega, by omega⟩ (fun b hb => hb.elim) rfl (by omega) (by unfold maxLen; omega) HS.out.bw.size ?_; intro v3 w3 hown3 hg3 hat3; have HS3 := Lib.hid (HS.out.push hown3 hg3 hat3); rw [HEB.out] at HS3; have hc3 := below_cell HS3.out.bw HC0.out; have hlt3 : b0 < w3.heap.size := World.block_lt_of_cell? w3 _ hc3; clear hown3 hg3 hat3)
              | ((with_reducible show wpList _ _ _ (⟨some 72, _, _, _, _, _⟩ :: _) _ _); refine wpL_cloneS rfl (.tmp 67) (.tmp 71) rfl rfl A' _ cx ns rfl (hrn.below HS3.out.bw) (by omega) ?_; intro v4 w4 hown4 hb4; have HS4 := Lib.hid (HS3.out.nx hb4); have hc4 := below_cell HS4.out.bw HC0.out; have HLT4 := Lib.hid (show ∀ b, v4.ownBlock = some b → b < w4.heap.size ∧ ¬ F b from fun b hb => by have h1 := hown4.lt b hb; exact ⟨h1.2, fun hF => by have := (HS3.out.W.F_lt b hF).2; omega⟩); obtain ⟨A4, c4, rfl, hel4, hl4, hm4⟩ := hown4.form; clear hown4)
              | (go_at_call 44; refine (name_any w6 w.heap.size l G y _ _ _ ns false HS6.out.L hel6 HLT6.out (by omega) hl6 hm6 hy1 hy2).mono ?_; rw [HE2.out, HE3.out]; rintro e w7 ⟨rfl, F7, h7, hc7, hF7⟩; have HS7 := Lib.hid (HS6.out.stepL h7 hc7 hF7); clear h7)
              | (go_at_call 44; refine (name_any w4 w.heap.size g F x _ _ _ ns false HS4.out.W hel4 HLT4.out (by omega) hl4 hm4 hx1 hx2).mono ?_; rw [HE1.out, HE3.out]; rintro e w5 ⟨rfl, F5, h5, hc5, hF5⟩; have HS5 := Lib.hid (HS4.out.stepW h5 hc5 hF5); have hc5' := below_cell HS5.out.bw HC0.out; have hlt5 : b0 < w5.heap.size := World.block_lt_of_cell? w5 _ hc5'; clear h5)
              | ((with_reducible show wpList _ _ _ (⟨some 90, _, _, _, _, _⟩ :: _) _ _); refine wpL_cloneS rfl (.tmp 85) (.tmp 89) rfl rfl A' _ cx ns rfl (hrn.below HS5.out.bw) (by omega) ?_; intro v6 w6 hown6 hb6; have HS6 := Lib.hid (HS5.out.nx hb6); have hc6 := below_cell HS6.out.bw HC0.out; have HLT6 := Lib.hid (show ∀ b, v6.ownBlock = some b → b < w6.heap.size ∧ ¬ G b from fun b hb => by have h1 := hown6.lt b hb; exact ⟨h1.2, fun hF => by have := (HS5.out.L.F_lt b hF).2; omega⟩); obtain ⟨A6, c6, rfl, hel6, hl6, hm6⟩ := hown6.form; clear hown6)
              | fail)
            go_roundw
            case rel => exact ⟨k + 1, F5, F7, _, by go_num, by omega, rfl, HS7, HN'⟩
            case measure => simp [intOf]; omega
        · have hsn' : soundB ns = false := by simpa using hsn
          have HS1 := Lib.hid hsn'
          clear hsn hsn'
          go_wp2_with (first
            | (go_at_call 45; refine (rsound_any _ _ _ ns _ (hrn.below HS.out.bw)).mono ?_; rw [HS1.out]; rintro e wa ⟨rfl, rfl⟩)
            | fail)
          go_ret
          exact ⟨rfl, HS.out.bw⟩
      · have : k = names.length := by omega
        subst this
        go_wp2
        go_meet
        case rel => exact ⟨F, G, _, rfl, HS, HN⟩
  case rest =>
    obtain ⟨F, G, v, rfl, HS, HN⟩ := hcut
    have hx := seqX_length (x0 := x0) (sh := sh) names.length HN.out
    have hy := seqX_length (x0 := Wr.nil) (sh := []) names.length HN.out
    have hxy := seqX_short (x0 := x0) (names := names) (sh := sh) (y0 := Wr.nil) names.length
    rw [HB0.out] at hx hxy
    rw [show Wr.nil.b.length = 0 from rfl] at hy hxy
    have HR : Hid (∀ i, i < names.length → getP (seqX x0 names sh names.length).b (seqX x0 names sh i).b.length (seqX x0 names sh i).b.length 0 [] = (names.getD i [], ((seqX x0 names sh (i + 1)).b.length : Int), 0)) := fun i hi => seqX_read HT0.out HN.out hi
    have HA : Hid (∀ i, i < names.length → (begins x0 names sh names.length)[i]? = some ((seqX x0 names sh i).b.length : Int)) := fun i hi => begins_at x0 names sh hi
    have HXL : Hid (∀ i, i < names.length → (seqX x0 names sh i).b.length ≤ 10000000) := fun i hi => by have := (seqX_length (x0 := x0) (sh := sh) i (fun j hj => HN.out j (by omega))).1; rw [HB0.out] at this; omega
    have HXN : Hid ((seqX x0 names sh names.length).b.length = (seqX x0 names sh names.length).b.length) := rfl
    have hbl := begins_length x0 names sh names.length
    have HNL : Hid (∀ i, i < names.length → (names.getD i []).length ≤ 255) := fun i hi => by have h1 := (HN.out i hi).2; have := sizeN_length (names.getD i []); omega
    generalize hX : seqX x0 names sh names.length = x at HS hx hxy HR HXN
    have HX := Lib.hid hX
    generalize seqX Wr.nil names [] names.length = y at HS hy hxy
    generalize begins x0 names sh names.length = ats at HS HA hbl
    obtain ⟨A9, c9, rfl, hel9, hl9, hm9⟩ := HS.out.A.form
    have hxl : x.b.length ≤ 1000000 := by omega
    have hyl : y.b.length ≤ 1000000 := by omega
    have hcmp : (x.b.length : Int) - (ahead.length : Int) ≤ (y.b.length : Int) := by omega
    clear hx hy hxy hX
    go_upto_block 2 with (first
      | (go_at_call 48; refine (wbytes_any _ w.heap.size g F x HS.out.W (by omega)).mono ?_; rintro e w6 ⟨v6, rfl, hown6, hb6⟩; have HS6 := Lib.hid (HS.out.nx hb6); obtain ⟨A6, c6, rfl, hr6, hl6, hm6⟩ := hown6.form)
      | (go_at_call 47; refine (wlen_any _ w.heap.size l G y HS6.out.L).mono ?_; rintro e wa ⟨rfl, rfl⟩)
      | fail)
    go_wp2_with fail
    go_loopw [12] (fun iv wr => ∃ k : Nat, iv = .int .i64 k ∧ k ≤ names.length ∧ Hid (Below w6.heap.size w6 wr)) (fun iv _ => names.length - (intOf iv).toNat)
    case atStart => exact ⟨0, rfl, Nat.zero_le _, bl⟩
    case round =>
      obtain ⟨k, rfl, hk, HB⟩ := hrel
      by_cases hlt : k < names.length
      · obtain ⟨ns, hns⟩ : ∃ ns, names[k]? = some ns := ⟨_, List.getElem?_eq_getElem hlt⟩
        obtain ⟨b0, off0, A', cx, rfl, hc0, hrn, hnc, hcm⟩ := names_at h hns
        have hgd : names.getD k [] = ns := by rw [List.getD_eq_getElem?_getD, hns]; rfl
        have HC0 := Lib.hid hc0
        have hbw := nx HS6.out.bw HB.out
        have hc := below_cell hbw hc0
        obtain ⟨b9, off9, rfl, h9⟩ := ints_at hel9 (HA.out k hlt)
        have H9 := Lib.hid (below_cell hb6 h9)
        have h9' := below_cell HB.out H9.out
        have HRk := Lib.hid (HR.out k hlt)
        have hp := HXL.out k hlt
        have hnl := HNL.out k hlt
        rw [hgd] at HRk hnl
        clear hns hgd h9 hc0 hbw
        generalize (seqX x0 names sh k).b.length = p at HRk hp h9' H9
        by_cases hlast : k + 1 < names.length
        · obtain ⟨_, _, e9, h10⟩ := ints_at hel9 (HA.out (k + 1) hlast)
          injection e9 with e9
          injection e9 with e9 e10
          subst e9 e10
          have hq := HXL.out (k + 1) hlast
          have H10 := Lib.hid (below_cell hb6 h10)
          clear h10
          generalize (seqX x0 names sh (k + 1)).b.length = q at HRk hq H10
          go_wp2_with (first
            | (go_at_call 49; refine (wget_any _ _ _ x.b _ _ (hr6.below HB.out) hl6 (by omega)).mono ?_; rw [if_neg (by omega), Int.toNat_natCast, HRk.out]; rintro e w7 ⟨v7, rfl, hown7, hb7⟩; obtain ⟨A7, c7, rfl, hel7, _⟩ := hown7.form; have hb7' := HB.out.trans (hb7.mono HB.out.size); have hw7 := nx HS6.out.bw hb7'; have hc7 := below_cell hw7 HC0.out; have hlt7 : b0 < w7.heap.size := World.block_lt_of_cell? w7 _ hc7; have hc10 := below_cell hb7' H10.out; have hlt10 : b9 < w7.heap.size := World.block_lt_of_cell? w7 _ hc10)
            | (go_at_call 50; refine (rexact_any _ _ _ _ _ _ ns ns _ hel7 (hrn.below hw7) (by unfold maxLen; omega) (by unfold maxLen; omega)).mono ?_; rw [decide_eq_true rfl]; rintro e w8 ⟨rfl, k8, rfl⟩)
            | fail)
          go_roundw
          case rel => exact ⟨k + 1, by go_num, by omega, dN hb7' k8⟩
          case measure => simp [intOf]; omega
        · have hke : k + 1 = names.length := by omega
          have hq : (seqX x0 names sh (k + 1)).b.length = x.b.length := by rw [hke, HX.out]
          rw [hq] at HRk
          clear hq hke
          go_wp2_with (first
            | (go_at_call 49; refine (wget_any _ _ _ x.b _ _ (hr6.below HB.out) hl6 (by omega)).mono ?_; rw [if_neg (by omega), Int.toNat_natCast, HRk.out]; rintro e w7 ⟨v7, rfl, hown7, hb7⟩; obtain ⟨A7, c7, rfl, hel7, _⟩ := hown7.form; have hb7' := HB.out.trans (hb7.mono HB.out.size); have hw7 := nx HS6.out.bw hb7'; have hc7 := below_cell hw7 HC0.out; have hlt7 : b0 < w7.heap.size := World.block_lt_of_cell? w7 _ hc7)
            | (go_at_call 50; refine (rexact_any _ _ _ _ _ _ ns ns _ hel7 (hrn.below hw7) (by unfold maxLen; omega) (by unfold maxLen; omega)).mono ?_; rw [decide_eq_true rfl]; rintro e w8 ⟨rfl, k8, rfl⟩)
            | fail)
          go_roundw
          case rel => exact ⟨k + 1, by go_num, by omega, dN hb7' k8⟩
          case measure => simp [intOf]; omega
      · have : k = names.length := by omega
        subst this
        go_wp2
        go_ret
        exact ⟨rfl, nx HS6.out.bw HB.out⟩
end Go.Proofs.Ytjpkddmdhdmhgaa
