/- RdataTexts: the law's walk. -/
import Derived.Test.YtjpkddmdhdmhgaaRd7
import Derived.Test.YtjpkddmdhdmhgaaRd8
import Derived.Test.YtjpkddmdhdmhgaaLawT
namespace Go.Proofs.Ytjpkddmdhdmhgaa
open Go.RowKit
set_option maxRecDepth 100000

def xTexts (k : Nat) : List (List UInt8) := List.replicate k [120]
theorem xTexts_succ (k : Nat) : xTexts (k + 1) = xTexts k ++ [[120]] := by unfold xTexts; rw [List.replicate_succ']
theorem xTexts_len (k : Nat) : (xTexts k).length = k := List.length_replicate
theorem xTexts_short (k : Nat) : ¬ LongT (xTexts k) := fun h => h fun l hl => by
  rw [List.eq_of_mem_replicate hl]
  decide
theorem longT_one (l : List UInt8) : LongT [l] ↔ ¬ l.length ≤ 255 := by
  unfold LongT
  simp
theorem OwnS.one (w : World) (y : List UInt8) (hy : y.length ≤ maxLen) : OwnS (w.alloc (.cells #[.string (bstr y)] 9)) w.heap.size (.slice (some ⟨w.heap.size, 0, none⟩) 1 1) [y] := by
  have h := World.ownsRow_lit (e := 9) (size := 1) w #[.string (bstr y)] 1 (Nat.le_refl _) (by simp [maxLen]) (by simp)
  refine ⟨[.string (bstr y)], h, fun i x hx => ?_, fun b hb => hb.elim⟩
  match i, hx with
  | 0, hx =>
    injection hx with hx
    subst hx
    exact ⟨rfl, hy⟩
theorem OwnS.rdE {w : World} {base n c : Nat} {A : Option Addr} {l : List (List UInt8)} (h : OwnS w base (.slice A n c) l) : RdE encS w A n l := by
  obtain ⟨A', c', e, hr, _⟩ := OwnE.rdE h
  injection e with e1 e2 e3
  subst e1
  subst e2
  exact hr

set_option maxHeartbeats 4000000 in
theorem rdataTexts_walk (nn ll cc : Nat) (hn : nn < 256) (hl : ll < 256) (hc : cc < 256) (w : World) :
    Calls Try.prog 14 #[.int .u8 (nn : Int), .int .u8 (ll : Int), .int .u8 (cc : Int)] w (LawT w) := by
  have h8 : ((nn : Int).tmod 8) = ((nn % 8 : Nat) : Int) := by rw [Int.tmod_eq_emod_of_nonneg (by omega)]; omega
  have h10 : ((ll : Int).tmod 10) = ((ll % 10 : Nat) : Int) := by rw [Int.tmod_eq_emod_of_nonneg (by omega)]; omega
  obtain ⟨K, hK⟩ : ∃ K, K = 60 + nn % 8 := ⟨_, rfl⟩
  obtain ⟨L, hL⟩ : ∃ L, L = 250 + ll % 10 := ⟨_, rfl⟩
  have hK1 : 60 ≤ K ∧ K ≤ 67 := by omega
  have hL1 : 250 ≤ L ∧ L ≤ 259 := by omega
  have HK := Lib.hid (show 60 + (nn : Int) % 8 = (K : Int) by omega)
  have HL := Lib.hid (show 250 + (ll : Int) % 10 = (L : Int) by omega)
  have HC := Lib.hid (show ((UInt8.ofNat cc).toNat : Int) = (cc : Int) by simp [Nat.mod_eq_of_lt hc])
  clear hK hL
  go_enter Try.func14, Try.ntmps14
  go_upto_region 3 with (fail)
  rw [HK.out, HL.out]
  clear h8 h10
  have hmkL := mkB L L (Nat.le_refl _) (by omega)
  have hmkK := mkB K K (Nat.le_refl _) (by omega)
  have HO1 : Hid (OwnB (w.alloc (.cells (madeCells #[.int .u8 0] L) 5)) w.heap.size (.slice (some ⟨w.heap.size, 0, none⟩) L L) (List.replicate L 0)) := OwnB.made w L (by unfold maxLen; omega)
  have HB1 : Hid (Below w.heap.size w (w.alloc (.cells (madeCells #[.int .u8 0] L) 5))) := bl.alloc (Nat.le_refl _) _
  obtain ⟨w1, hw1⟩ : ∃ w1, w1 = w.alloc (.cells (madeCells #[.int .u8 0] L) 5) := ⟨_, rfl⟩
  rw [← hw1] at HO1 HB1
  go_upto_region 4 with (fail)
  rw [← hw1]
  clear hw1
  go_wp2_with fail
  go_loopw [10] (fun iv wr => ∃ (i : Nat) (xs : List UInt8), iv = .int .i64 i ∧ i ≤ L ∧ Hid (xs.length = L) ∧ Hid (OwnB wr w.heap.size (.slice (some ⟨w.heap.size, 0, none⟩) L L) xs) ∧ Hid (Below w.heap.size w wr)) (fun iv _ => L - (intOf iv).toNat)
  case atStart => exact ⟨0, _, rfl, Nat.zero_le _, List.length_replicate, HO1, HB1⟩
  case round =>
    clear HO1 HB1
    obtain ⟨i, xs, rfl, hi, HX, HO, HB⟩ := hrel
    by_cases hlt : i < L
    · have hcx := HO.out.cell (show i < xs.length by rw [HX.out]; exact hlt)
      have hfx := HO.out.free i
      have hset := HO.out.set i (UInt8.ofNat cc)
      rw [HC.out] at hset
      have hbs := HB.out.setCell (p := ⟨w.heap.size, i, none⟩) (Nat.le_refl _) (.int .u8 (cc : Int))
      have HS := Lib.hid hset
      have HBS := Lib.hid hbs
      clear hset hbs
      go_wp2
      go_roundw
      case rel => exact ⟨i + 1, _, by go_num, by omega, by show _ = _; rw [List.length_set]; exact HX.out, HS, HBS⟩
      case measure => simp [intOf]; omega
    · obtain rfl : L = i := by omega
      have HRD := Lib.hid (HO.out.rd).1
      go_upto_region 9 with (fail)
      obtain ⟨w2, hw2⟩ : ∃ w2, w2 = wr.alloc (.cells #[.slice none 0 0, .slice none 0 0, .slice none 0 0, .slice none 0 0, .slice none 0 0] 102) := ⟨_, rfl⟩
      obtain ⟨qd, hqd⟩ : ∃ qd, qd = wr.heap.size := ⟨_, rfl⟩
      have HR2 : Hid (w2.heap[qd]? = some (.cells #[.slice none 0 0, .slice none 0 0, .slice none 0 0, .slice none 0 0, .slice none 0 0] 102 (0, 0))) := by show _ = _; rw [hw2, hqd]; exact heap_alloc_new _ _
      have HB2 : Hid (Below wr.heap.size wr w2) := by show Below _ _ _; rw [hw2]; exact bl.alloc (Nat.le_refl _) _
      rw [← hw2, ← hqd]
      have hqr := Lib.hid hqd
      clear hw2 hqd
      go_wp2_with fail
      go_loopw [12] (fun iv wy => ∃ (k : Nat) (A' : Option Addr) (c' : Nat), iv = .int .i64 k ∧ k ≤ K ∧ Hid (wy.heap[qd]? = some (.cells #[.slice none 0 0, .slice none 0 0, .slice none 0 0, .slice none 0 0, .slice A' k c'] 102 (0, 0))) ∧ Hid (OwnS wy (qd + 1) (.slice A' k c') (xTexts k)) ∧ Hid (Below qd wr wy)) (fun iv _ => K - (intOf iv).toNat)
      case atStart => exact ⟨0, none, 0, rfl, Nat.zero_le _, HR2, OwnS.nil _ _, by show Below _ _ _; rw [hqr.out]; exact HB2.out⟩
      case round =>
        rename World => wy
        clear HR2
        obtain ⟨k, A', c', rfl, hk, HR, HS, HBy⟩ := hrel
        have x4 : wy.cell? ⟨qd, 4, none⟩ = some (.slice A' k c') := (cell_of_row _ _ _ _ _ _ HR.out).trans rfl
        have hqy : qd < wy.heap.size := (Array.getElem?_eq_some_iff.1 HR.out).1
        by_cases hkl : k < K
        · have hsz : qd + 1 ≤ wy.heap.size := hqy
          go_wp2_with (first
            | ((with_reducible show wpList _ _ _ (⟨some 48, _, _, _, _, _⟩ :: _) _ _); refine wpL_pushS rfl (.tmp 46) (.tmp 47) rfl (qd + 1) (.slice A' k c') (xTexts k) rfl HS.out [120] (by decide) rfl (by rw [xTexts_len]; omega) hsz ?_; intro v5 w5 hown5 hg5 hv5; obtain ⟨A5, c5, rfl, _⟩ := OwnE.form hown5; have hr5 : w5.heap[qd]? = some (.cells #[.slice none 0 0, .slice none 0 0, .slice none 0 0, .slice none 0 0, .slice A' k c'] 102 (0, 0)) := (hg5.block qd hqy (fun e => by have := (OwnE.lt HS.out qd e.symm).1; omega)).trans HR.out; have y4 : w5.cell? ⟨qd, 4, none⟩ = some (.slice A' k c') := (cell_of_row _ _ _ _ _ _ hr5).trans rfl; have f5 : ∀ k, w5.frozen? ⟨qd, k, none⟩ = false := fun k => frozen_of_row _ _ _ _ _ hr5)
            | fail)
          have hl5 : (xTexts k ++ [[120]]).length = k + 1 := by rw [List.length_append, xTexts_len]; rfl
          rw [hl5, ← xTexts_succ] at hown5
          rw [xTexts_len]
          have hr6 : (w5.setCell ⟨qd, 4, none⟩ (.slice A5 (k + 1) c5)).heap[qd]? = some (.cells #[.slice none 0 0, .slice none 0 0, .slice none 0 0, .slice none 0 0, .slice A5 (k + 1) c5] 102 (0, 0)) := (heap_setCell_same _ _ 4 _ _ _ hr5).trans rfl
          have hs6 : OwnS (w5.setCell ⟨qd, 4, none⟩ (.slice A5 (k + 1) c5)) (qd + 1) (.slice A5 (k + 1) c5) (xTexts (k + 1)) := OwnE.chg hown5 (F := fun x => x = qd) ((Chg.refl (fun x => x = qd) w5).setCell (p := ⟨qd, 4, none⟩) (Or.inl rfl) _) (fun z hz e => by have := (OwnE.lt hown5 z hz).1; omega) (fun _ hb => hb.elim)
          have hb6 : Below qd wr (w5.setCell ⟨qd, 4, none⟩ (.slice A5 (k + 1) c5)) := (HBy.out.grown hg5 (by omega) (fun j hj => by have := (OwnE.lt HS.out j hj).1; omega)).setCell (p := ⟨qd, 4, none⟩) (Nat.le_refl _) _
          have H1 := Lib.hid hr6
          have H2 := Lib.hid hs6
          have H3 := Lib.hid hb6
          clear hr6 hs6 hb6 hr5 y4 f5 hown5 hg5 hv5
          go_roundw
          case rel => exact ⟨k + 1, A5, c5, by go_num, by omega, H1, H2, H3⟩
          case measure => simp [intOf]; omega
        · obtain rfl : K = k := by omega
          have HRE := Lib.hid HS.out.rdE
          have hqy : qd < wy.heap.size := (Array.getElem?_eq_some_iff.1 HR.out).1
          have hRx : RdB wy (some ⟨w.heap.size, 0, none⟩) L xs := HRD.out.below (by have := HBy.out; rw [hqr.out] at this; exact this)
          have hcv := conv_str (P := Try.prog) _ _ _ Try.underlying22 Try.underlying5 Try.underlying9 wy (some ⟨w.heap.size, 0, none⟩) L L xs hRx
          clear hRx x4
          go_upto_region 14 with (fail)
          obtain ⟨w4, hw4⟩ : ∃ w4, w4 = (wy.alloc (.cells #[.string (bstr xs)] 9)).alloc (.cells #[.slice none 0 0, .slice none 0 0, .slice none 0 0, .slice none 0 0, .slice (some ⟨wy.heap.size, 0, none⟩) 1 1] 102) := ⟨_, rfl⟩
          have hb4 : Below wy.heap.size wy w4 := by rw [hw4]; exact nx (bl.alloc (Nat.le_refl _) _) (bl.alloc (Nat.le_refl _) _)
          have hz4 : (wy.alloc (.cells #[.string (bstr xs)] 9)).heap.size = wy.heap.size + 1 := by simp
          have HE4 : Hid (w4.heap[wy.heap.size + 1]? = some (.cells #[.slice none 0 0, .slice none 0 0, .slice none 0 0, .slice none 0 0, .slice (some ⟨wy.heap.size, 0, none⟩) 1 1] 102 (0, 0))) := by
            show _ = _
            rw [hw4, ← hz4]
            exact heap_alloc_new _ _
          have HS4 : Hid (RdE encS w4 (some ⟨wy.heap.size, 0, none⟩) 1 [xs]) := by
            show RdE _ _ _ _ _
            rw [hw4]
            exact (OwnS.one wy xs (by rw [HX.out]; unfold maxLen; omega)).rdE.below (bl.alloc (Nat.le_refl _) _)
          rw [← hw4]
          clear hw4 hcv hz4
          go_upto_region 15 with (fail)
          have hbB : Below wy.heap.size wy (w4.alloc (.cells (madeCells #[.int .u8 0] K) 5)) := nx hb4 (bl.alloc (Nat.le_refl _) _)
          have HR5 := Lib.hid (OwnB.made w4 K (by unfold maxLen; omega)).rd.1
          have hl4 : w4.heap.size < (w4.alloc (.cells (madeCells #[.int .u8 0] K) 5)).heap.size := by simp
          obtain ⟨w5, hw5⟩ : ∃ w5, w5 = w4.alloc (.cells (madeCells #[.int .u8 0] K) 5) := ⟨_, rfl⟩
          rw [← hw5] at hbB HR5 hl4 ⊢
          have hb45 : Below w4.heap.size w4 w5 := by rw [hw5]; exact bl.alloc (Nat.le_refl _) _
          clear hw5
          have hbw : Below w.heap.size w wy := HB.out.trans ((by have := HBy.out; rw [hqr.out] at this; exact this : Below wr.heap.size wr wy).mono HB.out.size)
          have hXl := HX.out
          generalize wy.heap.size + 1 = qe at HE4 ⊢
          by_cases h64 : K ≤ 64
          · by_cases h255 : L ≤ 255
            · have hs1 := Lib.hid (fun (W : World) (h : RdE encS W A' K (xTexts K)) => soundT_any A' K c' (xTexts K) W h (by omega) (by omega) true ⟨fun _ => ⟨h64, xTexts_short K⟩, fun _ => rfl⟩)
              have hs2 := Lib.hid (fun (W : World) (h : RdE encS W (some ⟨wy.heap.size, 0, none⟩) 1 [xs]) => soundT_any (some ⟨wy.heap.size, 0, none⟩) 1 1 [xs] W h (by omega) (by omega) true ⟨fun _ => ⟨by omega, fun h => (longT_one xs).1 h (by omega)⟩, fun _ => rfl⟩)
              clear hXl
              go_upto_region 19 with (first
                | (go_at_call 60; refine (getT_any w5 w4.heap.size 0 K K HR5.out hl4 (by omega) (Nat.le_refl _) (by omega) h64).mono ?_; rintro e w6 ⟨v6, rfl, ⟨A6, c6, rfl⟩, hb6⟩)
                | fail)
              obtain ⟨w7, hw7⟩ : ∃ w7, w7 = w6.alloc (.cells #[.slice none 0 0, .slice none 0 0, .slice none 0 0, .slice none 0 0, .slice A6 K c6] 102) := ⟨_, rfl⟩
              have hb7 : Below w6.heap.size w6 w7 := by rw [hw7]; exact bl.alloc (Nat.le_refl _) _
              rw [← hw7]
              clear hw7
              go_upto_region 20 with (first
                | (go_at_call 60; refine (getT_none w7).mono ?_; rintro e w8 ⟨v8, rfl, rfl, hb8⟩)
                | fail)
              obtain ⟨w9, hw9⟩ : ∃ w9, w9 = w8.alloc (.cells #[.slice none 0 0, .slice none 0 0, .slice none 0 0, .slice none 0 0, .slice none 0 0] 102) := ⟨_, rfl⟩
              have hb9 : Below w8.heap.size w8 w9 := by rw [hw9]; exact bl.alloc (Nat.le_refl _) _
              rw [← hw9]
              clear hw9
              have hbC := Lib.hid (nx hbB (nx (nx (nx hb6 hb7) hb8) hb9))
              have hbD := Lib.hid (nx hb45 (nx (nx (nx hb6 hb7) hb8) hb9))
              clear hb6 hb7 hb8 hb9
              have hrd9 := (hbC.out.block qd hqy).trans HR.out
              have hre9 := (hbD.out.block qe (Array.getElem?_eq_some_iff.1 HE4.out).1).trans HE4.out
              have HD9 := Lib.hid hrd9
              have HE9 := Lib.hid hre9
              have HSD9 := Lib.hid (HRE.out.below hbC.out)
              have HSE9 := Lib.hid (HS4.out.below hbD.out)
              clear hrd9 hre9 HR HE4
              go_wp2_with (first
                | (go_at_call 61; refine (hs2.out w11 ((HSE9.out.below hb10).below hb11)).mono ?_; rintro e w12 ⟨v12, rfl, rfl, hb12⟩)
                | (go_at_call 61; refine (hs1.out w10 (HSD9.out.below hb10)).mono ?_; rintro e w11 ⟨v11, rfl, rfl, hb11⟩; have hr11 := (hb11.block qe hq10).trans hr10e; have y0 : w11.cell? ⟨qe, 0, none⟩ = some (.slice none 0 0) := (cell_of_row _ _ _ _ _ _ hr11).trans rfl; have y1 : w11.cell? ⟨qe, 1, none⟩ = some (.slice none 0 0) := (cell_of_row _ _ _ _ _ _ hr11).trans rfl; have y2 : w11.cell? ⟨qe, 2, none⟩ = some (.slice none 0 0) := (cell_of_row _ _ _ _ _ _ hr11).trans rfl; have y3 : w11.cell? ⟨qe, 3, none⟩ = some (.slice none 0 0) := (cell_of_row _ _ _ _ _ _ hr11).trans rfl; have y4 : w11.cell? ⟨qe, 4, none⟩ = some (.slice (some ⟨wy.heap.size, 0, none⟩) 1 1) := (cell_of_row _ _ _ _ _ _ hr11).trans rfl)
                | (go_at_call 55; refine (answers04_any w9).mono ?_; rintro e w10 ⟨rfl, hb10⟩; have hr10 := (hb10.block qd (Array.getElem?_eq_some_iff.1 HD9.out).1).trans HD9.out; have hr10e := (hb10.block qe (Array.getElem?_eq_some_iff.1 HE9.out).1).trans HE9.out; have hq10 := (Array.getElem?_eq_some_iff.1 hr10e).1; have z0 : w10.cell? ⟨qd, 0, none⟩ = some (.slice none 0 0) := (cell_of_row _ _ _ _ _ _ hr10).trans rfl; have z1 : w10.cell? ⟨qd, 1, none⟩ = some (.slice none 0 0) := (cell_of_row _ _ _ _ _ _ hr10).trans rfl; have z2 : w10.cell? ⟨qd, 2, none⟩ = some (.slice none 0 0) := (cell_of_row _ _ _ _ _ _ hr10).trans rfl; have z3 : w10.cell? ⟨qd, 3, none⟩ = some (.slice none 0 0) := (cell_of_row _ _ _ _ _ _ hr10).trans rfl; have z4 : w10.cell? ⟨qd, 4, none⟩ = some (.slice A' K c') := (cell_of_row _ _ _ _ _ _ hr10).trans rfl)
                | fail)
              go_ret
              exact ⟨rfl, hbw.trans ((nx (nx (nx hbC.out hb10) hb11) hb12).mono hbw.size)⟩

            · have hs1 := Lib.hid (fun (W : World) (h : RdE encS W A' K (xTexts K)) => soundT_any A' K c' (xTexts K) W h (by omega) (by omega) true ⟨fun _ => ⟨h64, xTexts_short K⟩, fun _ => rfl⟩)
              have hs2 := Lib.hid (fun (W : World) (h : RdE encS W (some ⟨wy.heap.size, 0, none⟩) 1 [xs]) => soundT_any (some ⟨wy.heap.size, 0, none⟩) 1 1 [xs] W h (by omega) (by omega) false ⟨(fun e => by cases e), fun e => absurd ((longT_one xs).2 (by omega)) e.2⟩)
              clear hXl
              go_upto_region 19 with (first
                | (go_at_call 60; refine (getT_any w5 w4.heap.size 0 K K HR5.out hl4 (by omega) (Nat.le_refl _) (by omega) h64).mono ?_; rintro e w6 ⟨v6, rfl, ⟨A6, c6, rfl⟩, hb6⟩)
                | fail)
              obtain ⟨w7, hw7⟩ : ∃ w7, w7 = w6.alloc (.cells #[.slice none 0 0, .slice none 0 0, .slice none 0 0, .slice none 0 0, .slice A6 K c6] 102) := ⟨_, rfl⟩
              have hb7 : Below w6.heap.size w6 w7 := by rw [hw7]; exact bl.alloc (Nat.le_refl _) _
              rw [← hw7]
              clear hw7
              go_upto_region 20 with (first
                | (go_at_call 60; refine (getT_none w7).mono ?_; rintro e w8 ⟨v8, rfl, rfl, hb8⟩)
                | fail)
              obtain ⟨w9, hw9⟩ : ∃ w9, w9 = w8.alloc (.cells #[.slice none 0 0, .slice none 0 0, .slice none 0 0, .slice none 0 0, .slice none 0 0] 102) := ⟨_, rfl⟩
              have hb9 : Below w8.heap.size w8 w9 := by rw [hw9]; exact bl.alloc (Nat.le_refl _) _
              rw [← hw9]
              clear hw9
              have hbC := Lib.hid (nx hbB (nx (nx (nx hb6 hb7) hb8) hb9))
              have hbD := Lib.hid (nx hb45 (nx (nx (nx hb6 hb7) hb8) hb9))
              clear hb6 hb7 hb8 hb9
              have hrd9 := (hbC.out.block qd hqy).trans HR.out
              have hre9 := (hbD.out.block qe (Array.getElem?_eq_some_iff.1 HE4.out).1).trans HE4.out
              have HD9 := Lib.hid hrd9
              have HE9 := Lib.hid hre9
              have HSD9 := Lib.hid (HRE.out.below hbC.out)
              have HSE9 := Lib.hid (HS4.out.below hbD.out)
              clear hrd9 hre9 HR HE4
              go_wp2_with (first
                | (go_at_call 61; refine (hs2.out w11 ((HSE9.out.below hb10).below hb11)).mono ?_; rintro e w12 ⟨v12, rfl, rfl, hb12⟩)
                | (go_at_call 61; refine (hs1.out w10 (HSD9.out.below hb10)).mono ?_; rintro e w11 ⟨v11, rfl, rfl, hb11⟩; have hr11 := (hb11.block qe hq10).trans hr10e; have y0 : w11.cell? ⟨qe, 0, none⟩ = some (.slice none 0 0) := (cell_of_row _ _ _ _ _ _ hr11).trans rfl; have y1 : w11.cell? ⟨qe, 1, none⟩ = some (.slice none 0 0) := (cell_of_row _ _ _ _ _ _ hr11).trans rfl; have y2 : w11.cell? ⟨qe, 2, none⟩ = some (.slice none 0 0) := (cell_of_row _ _ _ _ _ _ hr11).trans rfl; have y3 : w11.cell? ⟨qe, 3, none⟩ = some (.slice none 0 0) := (cell_of_row _ _ _ _ _ _ hr11).trans rfl; have y4 : w11.cell? ⟨qe, 4, none⟩ = some (.slice (some ⟨wy.heap.size, 0, none⟩) 1 1) := (cell_of_row _ _ _ _ _ _ hr11).trans rfl)
                | (go_at_call 55; refine (answers04_any w9).mono ?_; rintro e w10 ⟨rfl, hb10⟩; have hr10 := (hb10.block qd (Array.getElem?_eq_some_iff.1 HD9.out).1).trans HD9.out; have hr10e := (hb10.block qe (Array.getElem?_eq_some_iff.1 HE9.out).1).trans HE9.out; have hq10 := (Array.getElem?_eq_some_iff.1 hr10e).1; have z0 : w10.cell? ⟨qd, 0, none⟩ = some (.slice none 0 0) := (cell_of_row _ _ _ _ _ _ hr10).trans rfl; have z1 : w10.cell? ⟨qd, 1, none⟩ = some (.slice none 0 0) := (cell_of_row _ _ _ _ _ _ hr10).trans rfl; have z2 : w10.cell? ⟨qd, 2, none⟩ = some (.slice none 0 0) := (cell_of_row _ _ _ _ _ _ hr10).trans rfl; have z3 : w10.cell? ⟨qd, 3, none⟩ = some (.slice none 0 0) := (cell_of_row _ _ _ _ _ _ hr10).trans rfl; have z4 : w10.cell? ⟨qd, 4, none⟩ = some (.slice A' K c') := (cell_of_row _ _ _ _ _ _ hr10).trans rfl)
                | fail)
              go_ret
              exact ⟨ret_bool (by simp; omega), hbw.trans ((nx (nx (nx hbC.out hb10) hb11) hb12).mono hbw.size)⟩

          · by_cases h255 : L ≤ 255
            · have hs1 := Lib.hid (fun (W : World) (h : RdE encS W A' K (xTexts K)) => soundT_any A' K c' (xTexts K) W h (by omega) (by omega) false ⟨(fun e => by cases e), fun e => absurd e.1 h64⟩)
              have hs2 := Lib.hid (fun (W : World) (h : RdE encS W (some ⟨wy.heap.size, 0, none⟩) 1 [xs]) => soundT_any (some ⟨wy.heap.size, 0, none⟩) 1 1 [xs] W h (by omega) (by omega) true ⟨fun _ => ⟨by omega, fun h => (longT_one xs).1 h (by omega)⟩, fun _ => rfl⟩)
              clear hXl
              go_upto_region 19 with (first
                | (go_at_call 60; refine (getT_large w5 w4.heap.size 0 K K HR5.out hl4 (by omega) (Nat.le_refl _) (by omega) (by omega)).mono ?_; rintro e w6 ⟨v6, rfl, rfl, hb6⟩)
                | fail)
              obtain ⟨w7, hw7⟩ : ∃ w7, w7 = w6.alloc (.cells #[.slice none 0 0, .slice none 0 0, .slice none 0 0, .slice none 0 0, .slice none 0 0] 102) := ⟨_, rfl⟩
              have hb7 : Below w6.heap.size w6 w7 := by rw [hw7]; exact bl.alloc (Nat.le_refl _) _
              rw [← hw7]
              clear hw7
              go_upto_region 20 with (first
                | (go_at_call 60; refine (getT_none w7).mono ?_; rintro e w8 ⟨v8, rfl, rfl, hb8⟩)
                | fail)
              obtain ⟨w9, hw9⟩ : ∃ w9, w9 = w8.alloc (.cells #[.slice none 0 0, .slice none 0 0, .slice none 0 0, .slice none 0 0, .slice none 0 0] 102) := ⟨_, rfl⟩
              have hb9 : Below w8.heap.size w8 w9 := by rw [hw9]; exact bl.alloc (Nat.le_refl _) _
              rw [← hw9]
              clear hw9
              have hbC := Lib.hid (nx hbB (nx (nx (nx hb6 hb7) hb8) hb9))
              have hbD := Lib.hid (nx hb45 (nx (nx (nx hb6 hb7) hb8) hb9))
              clear hb6 hb7 hb8 hb9
              have hrd9 := (hbC.out.block qd hqy).trans HR.out
              have hre9 := (hbD.out.block qe (Array.getElem?_eq_some_iff.1 HE4.out).1).trans HE4.out
              have HD9 := Lib.hid hrd9
              have HE9 := Lib.hid hre9
              have HSD9 := Lib.hid (HRE.out.below hbC.out)
              have HSE9 := Lib.hid (HS4.out.below hbD.out)
              clear hrd9 hre9 HR HE4
              go_wp2_with (first
                | (go_at_call 61; refine (hs2.out w11 ((HSE9.out.below hb10).below hb11)).mono ?_; rintro e w12 ⟨v12, rfl, rfl, hb12⟩)
                | (go_at_call 61; refine (hs1.out w10 (HSD9.out.below hb10)).mono ?_; rintro e w11 ⟨v11, rfl, rfl, hb11⟩; have hr11 := (hb11.block qe hq10).trans hr10e; have y0 : w11.cell? ⟨qe, 0, none⟩ = some (.slice none 0 0) := (cell_of_row _ _ _ _ _ _ hr11).trans rfl; have y1 : w11.cell? ⟨qe, 1, none⟩ = some (.slice none 0 0) := (cell_of_row _ _ _ _ _ _ hr11).trans rfl; have y2 : w11.cell? ⟨qe, 2, none⟩ = some (.slice none 0 0) := (cell_of_row _ _ _ _ _ _ hr11).trans rfl; have y3 : w11.cell? ⟨qe, 3, none⟩ = some (.slice none 0 0) := (cell_of_row _ _ _ _ _ _ hr11).trans rfl; have y4 : w11.cell? ⟨qe, 4, none⟩ = some (.slice (some ⟨wy.heap.size, 0, none⟩) 1 1) := (cell_of_row _ _ _ _ _ _ hr11).trans rfl)
                | (go_at_call 55; refine (answers04_any w9).mono ?_; rintro e w10 ⟨rfl, hb10⟩; have hr10 := (hb10.block qd (Array.getElem?_eq_some_iff.1 HD9.out).1).trans HD9.out; have hr10e := (hb10.block qe (Array.getElem?_eq_some_iff.1 HE9.out).1).trans HE9.out; have hq10 := (Array.getElem?_eq_some_iff.1 hr10e).1; have z0 : w10.cell? ⟨qd, 0, none⟩ = some (.slice none 0 0) := (cell_of_row _ _ _ _ _ _ hr10).trans rfl; have z1 : w10.cell? ⟨qd, 1, none⟩ = some (.slice none 0 0) := (cell_of_row _ _ _ _ _ _ hr10).trans rfl; have z2 : w10.cell? ⟨qd, 2, none⟩ = some (.slice none 0 0) := (cell_of_row _ _ _ _ _ _ hr10).trans rfl; have z3 : w10.cell? ⟨qd, 3, none⟩ = some (.slice none 0 0) := (cell_of_row _ _ _ _ _ _ hr10).trans rfl; have z4 : w10.cell? ⟨qd, 4, none⟩ = some (.slice A' K c') := (cell_of_row _ _ _ _ _ _ hr10).trans rfl)
                | fail)
              go_ret
              exact ⟨ret_bool (by simp; omega), hbw.trans ((nx (nx (nx hbC.out hb10) hb11) hb12).mono hbw.size)⟩

            · have hs1 := Lib.hid (fun (W : World) (h : RdE encS W A' K (xTexts K)) => soundT_any A' K c' (xTexts K) W h (by omega) (by omega) false ⟨(fun e => by cases e), fun e => absurd e.1 h64⟩)
              have hs2 := Lib.hid (fun (W : World) (h : RdE encS W (some ⟨wy.heap.size, 0, none⟩) 1 [xs]) => soundT_any (some ⟨wy.heap.size, 0, none⟩) 1 1 [xs] W h (by omega) (by omega) false ⟨(fun e => by cases e), fun e => absurd ((longT_one xs).2 (by omega)) e.2⟩)
              clear hXl
              go_upto_region 19 with (first
                | (go_at_call 60; refine (getT_large w5 w4.heap.size 0 K K HR5.out hl4 (by omega) (Nat.le_refl _) (by omega) (by omega)).mono ?_; rintro e w6 ⟨v6, rfl, rfl, hb6⟩)
                | fail)
              obtain ⟨w7, hw7⟩ : ∃ w7, w7 = w6.alloc (.cells #[.slice none 0 0, .slice none 0 0, .slice none 0 0, .slice none 0 0, .slice none 0 0] 102) := ⟨_, rfl⟩
              have hb7 : Below w6.heap.size w6 w7 := by rw [hw7]; exact bl.alloc (Nat.le_refl _) _
              rw [← hw7]
              clear hw7
              go_upto_region 20 with (first
                | (go_at_call 60; refine (getT_none w7).mono ?_; rintro e w8 ⟨v8, rfl, rfl, hb8⟩)
                | fail)
              obtain ⟨w9, hw9⟩ : ∃ w9, w9 = w8.alloc (.cells #[.slice none 0 0, .slice none 0 0, .slice none 0 0, .slice none 0 0, .slice none 0 0] 102) := ⟨_, rfl⟩
              have hb9 : Below w8.heap.size w8 w9 := by rw [hw9]; exact bl.alloc (Nat.le_refl _) _
              rw [← hw9]
              clear hw9
              have hbC := Lib.hid (nx hbB (nx (nx (nx hb6 hb7) hb8) hb9))
              have hbD := Lib.hid (nx hb45 (nx (nx (nx hb6 hb7) hb8) hb9))
              clear hb6 hb7 hb8 hb9
              have hrd9 := (hbC.out.block qd hqy).trans HR.out
              have hre9 := (hbD.out.block qe (Array.getElem?_eq_some_iff.1 HE4.out).1).trans HE4.out
              have HD9 := Lib.hid hrd9
              have HE9 := Lib.hid hre9
              have HSD9 := Lib.hid (HRE.out.below hbC.out)
              have HSE9 := Lib.hid (HS4.out.below hbD.out)
              clear hrd9 hre9 HR HE4
              go_wp2_with (first
                | (go_at_call 61; refine (hs2.out w11 ((HSE9.out.below hb10).below hb11)).mono ?_; rintro e w12 ⟨v12, rfl, rfl, hb12⟩)
                | (go_at_call 61; refine (hs1.out w10 (HSD9.out.below hb10)).mono ?_; rintro e w11 ⟨v11, rfl, rfl, hb11⟩; have hr11 := (hb11.block qe hq10).trans hr10e; have y0 : w11.cell? ⟨qe, 0, none⟩ = some (.slice none 0 0) := (cell_of_row _ _ _ _ _ _ hr11).trans rfl; have y1 : w11.cell? ⟨qe, 1, none⟩ = some (.slice none 0 0) := (cell_of_row _ _ _ _ _ _ hr11).trans rfl; have y2 : w11.cell? ⟨qe, 2, none⟩ = some (.slice none 0 0) := (cell_of_row _ _ _ _ _ _ hr11).trans rfl; have y3 : w11.cell? ⟨qe, 3, none⟩ = some (.slice none 0 0) := (cell_of_row _ _ _ _ _ _ hr11).trans rfl; have y4 : w11.cell? ⟨qe, 4, none⟩ = some (.slice (some ⟨wy.heap.size, 0, none⟩) 1 1) := (cell_of_row _ _ _ _ _ _ hr11).trans rfl)
                | (go_at_call 55; refine (answers04_any w9).mono ?_; rintro e w10 ⟨rfl, hb10⟩; have hr10 := (hb10.block qd (Array.getElem?_eq_some_iff.1 HD9.out).1).trans HD9.out; have hr10e := (hb10.block qe (Array.getElem?_eq_some_iff.1 HE9.out).1).trans HE9.out; have hq10 := (Array.getElem?_eq_some_iff.1 hr10e).1; have z0 : w10.cell? ⟨qd, 0, none⟩ = some (.slice none 0 0) := (cell_of_row _ _ _ _ _ _ hr10).trans rfl; have z1 : w10.cell? ⟨qd, 1, none⟩ = some (.slice none 0 0) := (cell_of_row _ _ _ _ _ _ hr10).trans rfl; have z2 : w10.cell? ⟨qd, 2, none⟩ = some (.slice none 0 0) := (cell_of_row _ _ _ _ _ _ hr10).trans rfl; have z3 : w10.cell? ⟨qd, 3, none⟩ = some (.slice none 0 0) := (cell_of_row _ _ _ _ _ _ hr10).trans rfl; have z4 : w10.cell? ⟨qd, 4, none⟩ = some (.slice A' K c') := (cell_of_row _ _ _ _ _ _ hr10).trans rfl)
                | fail)
              go_ret
              exact ⟨ret_bool (by simp; omega), hbw.trans ((nx (nx (nx hbC.out hb10) hb11) hb12).mono hbw.size)⟩

end Go.Proofs.Ytjpkddmdhdmhgaa
