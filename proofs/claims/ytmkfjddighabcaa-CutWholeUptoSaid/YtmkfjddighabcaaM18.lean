/- Parts of a proof, joined: RrGet. -/
import Derived.Test.YtmkfjddighabcaaM09
import Derived.Test.YtmkfjddighabcaaM05
/- rr.Get, whatever the bytes and the place. -/
namespace Go.Proofs.Ytmkfjddighabcaa
open Go.RowKit
set_option maxRecDepth 100000
set_option linter.unusedVariables false

def goodRR (bs : List UInt8) (a : Int) (w : World) (v : Value) (w' : World) : Prop := ∃ s, v = .tuple #[rrV s (getRR bs a).1, .int .i64 (getRR bs a).2.1, .int .i64 (getRR bs a).2.2] ∧ RGot w' w.heap.size s (getRR bs a).1

set_option maxHeartbeats 8000000 in
theorem rrget_any (w : World) (A : Option Addr) (n c : Nat) (a : Int) (bs : List UInt8) (hr : RdB w A n bs) (hbl : ∀ b off, A = some ⟨b, off, none⟩ → b < w.heap.size) (hn : n ≤ c) (hc : c ≤ 9223372036854775807) (hn2 : n ≤ 100000000) :
    Calls Try.prog 143 #[.slice A n c, .int .i64 a] w (RetP (goodRR bs a w) w) := by
  have hl := hr.len
  obtain ⟨w0, hw0⟩ : ∃ w0, w0 = w.alloc (.cells #[.slice none 0 0, .int .i64 0, .int .i64 0, .int .i64 0, .slice none 0 0, .slice none 0 0, .slice none 0 0, .slice none 0 0, .slice none 0 0] 44) := ⟨_, rfl⟩
  have ST0 : Hid (RgSt w w0 RS.nil RR.zero) := by show RgSt _ _ _ _; rw [hw0]; exact RgSt.start w
  have HR := Lib.hid hr
  have HB := Lib.hid hbl
  clear hr hbl
  have hwg : ∀ w1 : World, RdB w1 A n bs → Calls Try.prog 142 #[.slice A n c, .int .i64 a] w1 (RetW (nameA bs a) w1) := fun w1 h1 => wget_any A n c bs a w1 h1 hn (by omega)
  have hnn := nameA_nn bs a
  have hnl := nameA_le bs a
  obtain ⟨⟨ls, nxt, er⟩, hg⟩ : ∃ g, g = nameA bs a := ⟨_, rfl⟩
  rw [← hg] at hnn hnl hwg
  have HG := Lib.hid hg.symm
  clear hg
  simp only at hnn hnl
  have HW := Lib.hid hwg
  clear hwg
  have x0 := ST0.out.R.free
  go_enter Try.func143, Try.ntmps143
  go_upto_region 1 with (fail)
  rw [← hw0]
  clear hw0
  go_upto_region 2 with (first
    | (go_at_call 142; refine (HW.out w0 (HR.out.below ST0.out.bw)).mono ?_; rintro e w1 ⟨v1, rfl, hown1, hb1⟩; have ST1 := Lib.hid (ST0.out.below hb1); obtain ⟨A1, k1, rfl, _⟩ := OwnE.form hown1; have y0 := ST1.out.R.free; have y1 := ST1.out.R.cells.1)
    | fail)
  obtain ⟨w2, hw2⟩ : ∃ w2, w2 = w1.setCell ⟨w.heap.size, 0, none⟩ (.slice A1 ls.length k1) := ⟨_, rfl⟩
  have hs2 := ST1.out.name (OwnE.base_le hown1 (Nat.succ_le_of_lt ST0.out.R.lt))
  rw [← hw2] at hs2
  have ST2 := Lib.hid hs2
  rw [← hw2]
  clear hw2 hs2 y0 y1 x0 hown1
  by_cases he : er = 0
  · subst he
    obtain ⟨p, rfl⟩ := Int.eq_ofNat_of_zero_le hnn
    have hpl := hnl rfl
    have hpl' : p ≤ n := by omega
    clear hnn hnl
    have hR1 : Hid (getRR bs a = getRR1 bs ls p) := by
      show _ = _
      unfold getRR
      rw [HG.out, if_neg (fun h => h rfl)]
      rfl
    by_cases hlt : n < p + 10
    · have h1 : (n : Int) - (p : Int) < 10 := by omega
      have HEQ : Hid (getRR bs a = (RR.zero, 0, 3)) := by show _ = _; rw [hR1.out]; unfold getRR1; rw [if_pos (by omega)]
      have yf := ST2.out.R.free
      have u0 := ST2.out.R.cell 0
      have u1 := ST2.out.R.cell 1
      have u2 := ST2.out.R.cell 2
      have u3 := ST2.out.R.cell 3
      have u4 := ST2.out.R.cell 4
      have u5 := ST2.out.R.cell 5
      have u6 := ST2.out.R.cell 6
      have u7 := ST2.out.R.cell 7
      have u8 := ST2.out.R.cell 8
      simp only [rrCells, List.getElem?_toArray, List.getElem?_cons_zero, List.getElem?_cons_succ] at u0 u1 u2 u3 u4 u5 u6 u7 u8
      go_wp2
      obtain ⟨wm, hwm⟩ : ∃ u, u = (((((((((w2.setCell ⟨w.heap.size, 0, none⟩ (.slice none 0 0)).setCell ⟨w.heap.size, 1, none⟩ (.int .i64 0)).setCell ⟨w.heap.size, 2, none⟩ (.int .i64 0)).setCell ⟨w.heap.size, 3, none⟩ (.int .i64 0)).setCell ⟨w.heap.size, 4, none⟩ (.slice none 0 0)).setCell ⟨w.heap.size, 5, none⟩ (.slice none 0 0)).setCell ⟨w.heap.size, 6, none⟩ (.slice none 0 0)).setCell ⟨w.heap.size, 7, none⟩ (.slice none 0 0)).setCell ⟨w.heap.size, 8, none⟩ (.slice none 0 0)) := ⟨_, rfl⟩
      have STm : Hid (RgSt w wm RS.nil RR.zero) := by show RgSt _ _ _ _; rw [hwm]; exact ST2.out.nine (s' := RS.nil) (x' := RR.zero) (RGot.nil _ _)
      rw [← hwm]
      clear hwm yf u0 u1 u2 u3 u4 u5 u6 u7 u8
      have z0 : wm.cell? ⟨w.heap.size, 0, none⟩ = some (.slice none 0 0) := (STm.out.R.cell 0).trans rfl
      have z1 : wm.cell? ⟨w.heap.size, 1, none⟩ = some (.int .i64 0) := (STm.out.R.cell 1).trans rfl
      have z2 : wm.cell? ⟨w.heap.size, 2, none⟩ = some (.int .i64 0) := (STm.out.R.cell 2).trans rfl
      have z3 : wm.cell? ⟨w.heap.size, 3, none⟩ = some (.int .i64 0) := (STm.out.R.cell 3).trans rfl
      have z4 : wm.cell? ⟨w.heap.size, 4, none⟩ = some (.slice none 0 0) := (STm.out.R.cell 4).trans rfl
      have z5 : wm.cell? ⟨w.heap.size, 5, none⟩ = some (.slice none 0 0) := (STm.out.R.cell 5).trans rfl
      have z6 : wm.cell? ⟨w.heap.size, 6, none⟩ = some (.slice none 0 0) := (STm.out.R.cell 6).trans rfl
      have z7 : wm.cell? ⟨w.heap.size, 7, none⟩ = some (.slice none 0 0) := (STm.out.R.cell 7).trans rfl
      have z8 : wm.cell? ⟨w.heap.size, 8, none⟩ = some (.slice none 0 0) := (STm.out.R.cell 8).trans rfl
      refine bodyPost_ret (v := .tuple #[.agg #[.slice none 0 0, .int .i64 0, .int .i64 0, .int .i64 0, .slice none 0 0, .slice none 0 0, .slice none 0 0, .slice none 0 0, .slice none 0 0], .int .i64 0, .int .i64 (3)]) ?_ rfl ⟨_, rfl, ?_, STm.out.bw⟩
      · simp [results, Try.results143, go_sem, z0, z1, z2, z3, z4, z5, z6, z7, z8]
      · unfold goodRR
        rw [HEQ.out]
        exact ⟨RS.nil, rfl, STm.out.G.base_le (Nat.le_succ _)⟩
    · have h1 : ¬ (n : Int) - (p : Int) < 10 := by omega
      have hg0 : Hid (getN bs (p : Int) 2 = ((numA bs p 2 : Int), 0)) := numA_get (b := bs) (p := p) (k := 2) (by omega) (by decide) (by decide)
      have hg2 : Hid (getN bs ((p : Int) + 2) 2 = ((numA bs (p + 2) 2 : Int), 0)) := numA_get (b := bs) (p := p + 2) (k := 2) (by omega) (by decide) (by decide)
      have hg4 : Hid (getN bs ((p : Int) + 4) 4 = ((numA bs (p + 4) 4 : Int), 0)) := numA_get (b := bs) (p := p + 4) (k := 4) (by omega) (by decide) (by decide)
      have hg8 : Hid (getN bs ((p : Int) + 8) 2 = ((numA bs (p + 8) 2 : Int), 0)) := numA_get (b := bs) (p := p + 8) (k := 2) (by omega) (by decide) (by decide)
      have hl0 : numA bs p 2 < 65536 := numA_2
      have hl8 : numA bs (p + 8) 2 < 65536 := numA_2
      have hl4 : numA bs (p + 4) 4 < 4294967296 := numA_4
      have HT4 : Hid (ttlA bs p = if 2147483648 ≤ numA bs (p + 4) 4 then 0 else (numA bs (p + 4) 4 : Int)) := rfl
      have hR2 : Hid (getRR bs a = if numA bs p 2 = 0 then (RR.zero, 0, 2) else if (getD bs ((p + 10 : Nat) : Int) (numA bs (p + 8) 2 : Int) (numA bs p 2 : Int)).2 ≠ 0 then (RR.zero, 0, (getD bs ((p + 10 : Nat) : Int) (numA bs (p + 8) 2 : Int) (numA bs p 2 : Int)).2) else (⟨ls, (numA bs p 2 : Int), (numA bs (p + 2) 2 : Int), ttlA bs p, (getD bs ((p + 10 : Nat) : Int) (numA bs (p + 8) 2 : Int) (numA bs p 2 : Int)).1⟩, ((p + 10 + numA bs (p + 8) 2 : Nat) : Int), 0)) := by show _ = _; rw [hR1.out]; unfold getRR1; rw [if_neg (by omega)]
      clear hR1
      generalize numA bs p 2 = T at hg0 hl0 hR2
      generalize numA bs (p + 2) 2 = C at hg2 hR2
      generalize numA bs (p + 4) 4 = L at hg4 hl4 HT4
      generalize numA bs (p + 8) 2 = Z at hg8 hl8 hR2
      obtain ⟨L2, hL2, hL3⟩ : ∃ L2 : Int, ttlA bs p = L2 ∧ ((2147483648 ≤ L ∧ L2 = 0) ∨ (L < 2147483648 ∧ L2 = (L : Int))) := by
        refine ⟨_, rfl, ?_⟩
        rw [HT4.out]
        by_cases h : 2147483648 ≤ L
        · exact .inl ⟨h, by rw [if_pos h]⟩
        · exact .inr ⟨by omega, by rw [if_neg h]⟩
      rw [hL2] at hR2
      clear hL2 HT4
      have y0 := ST2.out.R.free
      have yc := ST2.out.R.cell 1
      simp only [rrCells, List.getElem?_toArray, List.getElem?_cons_zero, List.getElem?_cons_succ] at yc
      go_upto_region 7 with (first
        | (go_at_call 141; refine (get_any A n c bs (p : Int) 2 w2 (HR.out.below ST2.out.bw) hn (by omega)).mono ?_; rw [hg0.out]; rintro e u ⟨rfl, rfl⟩)
        | fail)
      clear y0 yc
      obtain ⟨w3, hwb⟩ : ∃ u, u = w2.setCell ⟨w.heap.size, 1, none⟩ (.int .i64 ((T : Int))) := ⟨_, rfl⟩
      have hsb := ST2.out.type ((T : Int))
      rw [← hwb] at hsb
      have ST3 := Lib.hid hsb
      rw [← hwb]
      clear hwb hsb
      have y0 := ST3.out.R.free
      have yc := ST3.out.R.cell 2
      simp only [rrCells, List.getElem?_toArray, List.getElem?_cons_zero, List.getElem?_cons_succ] at yc
      go_upto_region 8 with (first
        | (go_at_call 141; refine (get_any A n c bs ((p : Int) + 2) 2 w3 (HR.out.below ST3.out.bw) hn (by omega)).mono ?_; rw [hg2.out]; rintro e u ⟨rfl, rfl⟩)
        | fail)
      clear y0 yc
      obtain ⟨w4, hwb⟩ : ∃ u, u = w3.setCell ⟨w.heap.size, 2, none⟩ (.int .i64 ((C : Int))) := ⟨_, rfl⟩
      have hsb := ST3.out.cls ((C : Int))
      rw [← hwb] at hsb
      have ST4 := Lib.hid hsb
      rw [← hwb]
      clear hwb hsb
      have y0 := ST4.out.R.free
      have yc := ST4.out.R.cell 3
      simp only [rrCells, List.getElem?_toArray, List.getElem?_cons_zero, List.getElem?_cons_succ] at yc
      go_upto_region 9 with (first
        | (go_at_call 141; refine (get_any A n c bs ((p : Int) + 4) 4 w4 (HR.out.below ST4.out.bw) hn (by omega)).mono ?_; rw [hg4.out]; rintro e u ⟨rfl, rfl⟩)
        | fail)
      clear y0 yc
      obtain ⟨w5, hwb⟩ : ∃ u, u = w4.setCell ⟨w.heap.size, 3, none⟩ (.int .i64 ((L : Int))) := ⟨_, rfl⟩
      have hsb := ST4.out.ttl ((L : Int))
      rw [← hwb] at hsb
      have ST5 := Lib.hid hsb
      rw [← hwb]
      clear hwb hsb
      have y0 := ST5.out.R.free
      go_upto_region 10 with (first
        | (go_at_call 141; refine (get_any A n c bs ((p : Int) + 8) 2 w5 (HR.out.below ST5.out.bw) hn (by omega)).mono ?_; rw [hg8.out]; rintro e u ⟨rfl, rfl⟩)
        | fail)
      clear y0
      rcases hL3 with ⟨hL3, rfl⟩ | ⟨hL3, rfl⟩
      · have y0 := ST5.out.R.free
        have y3 : w5.cell? ⟨w.heap.size, 3, none⟩ = some (.int .i64 (L : Int)) := ST5.out.R.cells.2.2.2.1
        have hL4 : (2147483648 : Int) ≤ (L : Int) := by omega
        clear hL3
        go_upto_region 12 with (fail)
        clear y0 y3 hL4 hl4
        obtain ⟨w6, hw6⟩ : ∃ u, u = w5.setCell ⟨w.heap.size, 3, none⟩ (.int .i64 0) := ⟨_, rfl⟩
        have hs6 := ST5.out.ttl 0
        rw [← hw6] at hs6 ⊢
        clear hw6
        have ST6 := Lib.hid hs6
        clear hs6 ST5
        clear ST4 ST3 ST2 ST1 ST0 hg0 hg2 hg4 hg8
        have y1 : w6.cell? ⟨w.heap.size, 1, none⟩ = some (.int .i64 (T : Int)) := ST6.out.R.cells.2.1
        by_cases hT : T = 0
        · subst hT
          have HEQ : Hid (getRR bs a = (RR.zero, 0, 2)) := by show _ = _; rw [hR2.out, if_pos rfl]
          have yf := ST6.out.R.free
          have u0 := ST6.out.R.cell 0
          have u1 := ST6.out.R.cell 1
          have u2 := ST6.out.R.cell 2
          have u3 := ST6.out.R.cell 3
          have u4 := ST6.out.R.cell 4
          have u5 := ST6.out.R.cell 5
          have u6 := ST6.out.R.cell 6
          have u7 := ST6.out.R.cell 7
          have u8 := ST6.out.R.cell 8
          simp only [rrCells, List.getElem?_toArray, List.getElem?_cons_zero, List.getElem?_cons_succ] at u0 u1 u2 u3 u4 u5 u6 u7 u8
          go_wp2
          obtain ⟨wm, hwm⟩ : ∃ u, u = (((((((((w6.setCell ⟨w.heap.size, 0, none⟩ (.slice none 0 0)).setCell ⟨w.heap.size, 1, none⟩ (.int .i64 0)).setCell ⟨w.heap.size, 2, none⟩ (.int .i64 0)).setCell ⟨w.heap.size, 3, none⟩ (.int .i64 0)).setCell ⟨w.heap.size, 4, none⟩ (.slice none 0 0)).setCell ⟨w.heap.size, 5, none⟩ (.slice none 0 0)).setCell ⟨w.heap.size, 6, none⟩ (.slice none 0 0)).setCell ⟨w.heap.size, 7, none⟩ (.slice none 0 0)).setCell ⟨w.heap.size, 8, none⟩ (.slice none 0 0)) := ⟨_, rfl⟩
          have STm : Hid (RgSt w wm RS.nil RR.zero) := by show RgSt _ _ _ _; rw [hwm]; exact ST6.out.nine (s' := RS.nil) (x' := RR.zero) (RGot.nil _ _)
          rw [← hwm]
          clear hwm yf u0 u1 u2 u3 u4 u5 u6 u7 u8
          have z0 : wm.cell? ⟨w.heap.size, 0, none⟩ = some (.slice none 0 0) := (STm.out.R.cell 0).trans rfl
          have z1 : wm.cell? ⟨w.heap.size, 1, none⟩ = some (.int .i64 0) := (STm.out.R.cell 1).trans rfl
          have z2 : wm.cell? ⟨w.heap.size, 2, none⟩ = some (.int .i64 0) := (STm.out.R.cell 2).trans rfl
          have z3 : wm.cell? ⟨w.heap.size, 3, none⟩ = some (.int .i64 0) := (STm.out.R.cell 3).trans rfl
          have z4 : wm.cell? ⟨w.heap.size, 4, none⟩ = some (.slice none 0 0) := (STm.out.R.cell 4).trans rfl
          have z5 : wm.cell? ⟨w.heap.size, 5, none⟩ = some (.slice none 0 0) := (STm.out.R.cell 5).trans rfl
          have z6 : wm.cell? ⟨w.heap.size, 6, none⟩ = some (.slice none 0 0) := (STm.out.R.cell 6).trans rfl
          have z7 : wm.cell? ⟨w.heap.size, 7, none⟩ = some (.slice none 0 0) := (STm.out.R.cell 7).trans rfl
          have z8 : wm.cell? ⟨w.heap.size, 8, none⟩ = some (.slice none 0 0) := (STm.out.R.cell 8).trans rfl
          refine bodyPost_ret (v := .tuple #[.agg #[.slice none 0 0, .int .i64 0, .int .i64 0, .int .i64 0, .slice none 0 0, .slice none 0 0, .slice none 0 0, .slice none 0 0, .slice none 0 0], .int .i64 0, .int .i64 (2)]) ?_ rfl ⟨_, rfl, ?_, STm.out.bw⟩
          · simp [results, Try.results143, go_sem, z0, z1, z2, z3, z4, z5, z6, z7, z8]
          · unfold goodRR
            rw [HEQ.out]
            exact ⟨RS.nil, rfl, STm.out.G.base_le (Nat.le_succ _)⟩
        · have hT2 : ¬ (T : Int) = 0 := by omega
          have y0 := ST6.out.R.free
          obtain ⟨⟨D, f⟩, hD⟩ : ∃ g, g = getD bs ((p + 10 : Nat) : Int) (Z : Int) (T : Int) := ⟨_, rfl⟩
          have HD := Lib.hid hD.symm
          rw [← hD, if_neg hT] at hR2
          clear hD
          go_upto_region 15 with (first
            | (go_at_call 164; rw [show ((p : Int) + 10) = ((p + 10 : Nat) : Int) from rfl]; refine (getD_any w6 A n c (p + 10) Z (T : Int) bs (HR.out.below ST6.out.bw) (fun b off e => Nat.lt_of_lt_of_le (HB.out b off e) ST6.out.bw.size) hn hc hn2 (by omega) (by omega) (by omega)).mono ?_; unfold goodG; rw [HD.out]; rintro e w7 ⟨v7, rfl, ⟨s7, rfl, hgot7⟩, hb7⟩; unfold dsV; have ST7 := Lib.hid (ST6.out.below hb7); have z0 := ST7.out.R.free; have z4 := ST7.out.R.cell 4; have z5 := ST7.out.R.cell 5; have z6 := ST7.out.R.cell 6; have z7 := ST7.out.R.cell 7; have z8 := ST7.out.R.cell 8; simp only [rrCells, List.getElem?_toArray, List.getElem?_cons_zero, List.getElem?_cons_succ] at z4 z5 z6 z7 z8)
            | fail)
          obtain ⟨w8, hw8⟩ : ∃ u, u = (((((w7.setCell ⟨w.heap.size, 4, none⟩ (.slice s7.A0 D.bytes.length s7.c0)).setCell ⟨w.heap.size, 5, none⟩ (.slice s7.A1 D.host.length s7.c1)).setCell ⟨w.heap.size, 6, none⟩ (.slice s7.A2 D.mail.length s7.c2)).setCell ⟨w.heap.size, 7, none⟩ (.slice s7.A3 D.nums.length s7.c3)).setCell ⟨w.heap.size, 8, none⟩ (.slice s7.A4 D.texts.length s7.c4)) := ⟨_, rfl⟩
          have hs8 := ST7.out.data (hgot7.base_le (Nat.succ_le_of_lt ST6.out.R.lt))
          rw [← hw8] at hs8
          have ST8 := Lib.hid hs8
          rw [← hw8]
          clear hw8 hs8 z0 z4 z5 z6 z7 z8 y0 y1 ST7 hgot7
          by_cases hf : f = 0
          · subst hf
            have HEQ := Lib.hid (hR2.out.trans (if_neg (fun h => h rfl)))
            have z0 := ST8.out.R.free
            obtain ⟨sF, xF, STF, hxF, hsF⟩ : ∃ sF xF, Hid (RgSt w w8 sF xF) ∧ xF = _ ∧ sF = _ := ⟨_, _, ST8, rfl, rfl⟩
            have HEQ : Hid (getRR bs a = (xF, ((p + 10 + Z : Nat) : Int), 0)) := by show _ = _; rw [hR2.out, if_neg (fun h => h rfl), hxF]
            clear hxF hsF ST8 hR2
            have u0 : w8.cell? ⟨w.heap.size, 0, none⟩ = some (.slice sF.A xF.name.length sF.c) := (STF.out.R.cell 0).trans rfl
            have u1 : w8.cell? ⟨w.heap.size, 1, none⟩ = some (.int .i64 xF.type) := (STF.out.R.cell 1).trans rfl
            have u2 : w8.cell? ⟨w.heap.size, 2, none⟩ = some (.int .i64 xF.cls) := (STF.out.R.cell 2).trans rfl
            have u3 : w8.cell? ⟨w.heap.size, 3, none⟩ = some (.int .i64 xF.ttl) := (STF.out.R.cell 3).trans rfl
            have u4 : w8.cell? ⟨w.heap.size, 4, none⟩ = some (.slice sF.d.A0 xF.data.bytes.length sF.d.c0) := (STF.out.R.cell 4).trans rfl
            have u5 : w8.cell? ⟨w.heap.size, 5, none⟩ = some (.slice sF.d.A1 xF.data.host.length sF.d.c1) := (STF.out.R.cell 5).trans rfl
            have u6 : w8.cell? ⟨w.heap.size, 6, none⟩ = some (.slice sF.d.A2 xF.data.mail.length sF.d.c2) := (STF.out.R.cell 6).trans rfl
            have u7 : w8.cell? ⟨w.heap.size, 7, none⟩ = some (.slice sF.d.A3 xF.data.nums.length sF.d.c3) := (STF.out.R.cell 7).trans rfl
            have u8 : w8.cell? ⟨w.heap.size, 8, none⟩ = some (.slice sF.d.A4 xF.data.texts.length sF.d.c4) := (STF.out.R.cell 8).trans rfl
            go_wp2
            obtain ⟨wm, hwm⟩ : ∃ u, u = (((((((((w8.setCell ⟨w.heap.size, 0, none⟩ (.slice sF.A xF.name.length sF.c)).setCell ⟨w.heap.size, 1, none⟩ (.int .i64 xF.type)).setCell ⟨w.heap.size, 2, none⟩ (.int .i64 xF.cls)).setCell ⟨w.heap.size, 3, none⟩ (.int .i64 xF.ttl)).setCell ⟨w.heap.size, 4, none⟩ (.slice sF.d.A0 xF.data.bytes.length sF.d.c0)).setCell ⟨w.heap.size, 5, none⟩ (.slice sF.d.A1 xF.data.host.length sF.d.c1)).setCell ⟨w.heap.size, 6, none⟩ (.slice sF.d.A2 xF.data.mail.length sF.d.c2)).setCell ⟨w.heap.size, 7, none⟩ (.slice sF.d.A3 xF.data.nums.length sF.d.c3)).setCell ⟨w.heap.size, 8, none⟩ (.slice sF.d.A4 xF.data.texts.length sF.d.c4)) := ⟨_, rfl⟩
            have STm : Hid (RgSt w wm sF xF) := by show RgSt _ _ _ _; rw [hwm]; exact STF.out.nine (s' := sF) (x' := xF) STF.out.G
            rw [← hwm]
            clear hwm z0 u0 u1 u2 u3 u4 u5 u6 u7 u8
            have z0 : wm.cell? ⟨w.heap.size, 0, none⟩ = some (.slice sF.A xF.name.length sF.c) := (STm.out.R.cell 0).trans rfl
            have z1 : wm.cell? ⟨w.heap.size, 1, none⟩ = some (.int .i64 xF.type) := (STm.out.R.cell 1).trans rfl
            have z2 : wm.cell? ⟨w.heap.size, 2, none⟩ = some (.int .i64 xF.cls) := (STm.out.R.cell 2).trans rfl
            have z3 : wm.cell? ⟨w.heap.size, 3, none⟩ = some (.int .i64 xF.ttl) := (STm.out.R.cell 3).trans rfl
            have z4 : wm.cell? ⟨w.heap.size, 4, none⟩ = some (.slice sF.d.A0 xF.data.bytes.length sF.d.c0) := (STm.out.R.cell 4).trans rfl
            have z5 : wm.cell? ⟨w.heap.size, 5, none⟩ = some (.slice sF.d.A1 xF.data.host.length sF.d.c1) := (STm.out.R.cell 5).trans rfl
            have z6 : wm.cell? ⟨w.heap.size, 6, none⟩ = some (.slice sF.d.A2 xF.data.mail.length sF.d.c2) := (STm.out.R.cell 6).trans rfl
            have z7 : wm.cell? ⟨w.heap.size, 7, none⟩ = some (.slice sF.d.A3 xF.data.nums.length sF.d.c3) := (STm.out.R.cell 7).trans rfl
            have z8 : wm.cell? ⟨w.heap.size, 8, none⟩ = some (.slice sF.d.A4 xF.data.texts.length sF.d.c4) := (STm.out.R.cell 8).trans rfl
            refine bodyPost_ret (v := .tuple #[.agg #[.slice sF.A xF.name.length sF.c, .int .i64 xF.type, .int .i64 xF.cls, .int .i64 xF.ttl, .slice sF.d.A0 xF.data.bytes.length sF.d.c0, .slice sF.d.A1 xF.data.host.length sF.d.c1, .slice sF.d.A2 xF.data.mail.length sF.d.c2, .slice sF.d.A3 xF.data.nums.length sF.d.c3, .slice sF.d.A4 xF.data.texts.length sF.d.c4], .int .i64 ((p : Int) + 10 + (Z : Int)), .int .i64 0]) ?_ rfl ⟨_, rfl, ?_, STm.out.bw⟩
            · simp [results, Try.results143, go_sem, z0, z1, z2, z3, z4, z5, z6, z7, z8]
            · unfold goodRR
              rw [HEQ.out]
              exact ⟨sF, rfl, STm.out.G.base_le (Nat.le_succ _)⟩
          · skip
            have HEQ : Hid (getRR bs a = (RR.zero, 0, f)) := by show _ = _; rw [hR2.out, if_pos hf]
            have yf := ST8.out.R.free
            have u0 := ST8.out.R.cell 0
            have u1 := ST8.out.R.cell 1
            have u2 := ST8.out.R.cell 2
            have u3 := ST8.out.R.cell 3
            have u4 := ST8.out.R.cell 4
            have u5 := ST8.out.R.cell 5
            have u6 := ST8.out.R.cell 6
            have u7 := ST8.out.R.cell 7
            have u8 := ST8.out.R.cell 8
            simp only [rrCells, List.getElem?_toArray, List.getElem?_cons_zero, List.getElem?_cons_succ] at u0 u1 u2 u3 u4 u5 u6 u7 u8
            go_wp2
            obtain ⟨wm, hwm⟩ : ∃ u, u = (((((((((w8.setCell ⟨w.heap.size, 0, none⟩ (.slice none 0 0)).setCell ⟨w.heap.size, 1, none⟩ (.int .i64 0)).setCell ⟨w.heap.size, 2, none⟩ (.int .i64 0)).setCell ⟨w.heap.size, 3, none⟩ (.int .i64 0)).setCell ⟨w.heap.size, 4, none⟩ (.slice none 0 0)).setCell ⟨w.heap.size, 5, none⟩ (.slice none 0 0)).setCell ⟨w.heap.size, 6, none⟩ (.slice none 0 0)).setCell ⟨w.heap.size, 7, none⟩ (.slice none 0 0)).setCell ⟨w.heap.size, 8, none⟩ (.slice none 0 0)) := ⟨_, rfl⟩
            have STm : Hid (RgSt w wm RS.nil RR.zero) := by show RgSt _ _ _ _; rw [hwm]; exact ST8.out.nine (s' := RS.nil) (x' := RR.zero) (RGot.nil _ _)
            rw [← hwm]
            clear hwm yf u0 u1 u2 u3 u4 u5 u6 u7 u8
            have z0 : wm.cell? ⟨w.heap.size, 0, none⟩ = some (.slice none 0 0) := (STm.out.R.cell 0).trans rfl
            have z1 : wm.cell? ⟨w.heap.size, 1, none⟩ = some (.int .i64 0) := (STm.out.R.cell 1).trans rfl
            have z2 : wm.cell? ⟨w.heap.size, 2, none⟩ = some (.int .i64 0) := (STm.out.R.cell 2).trans rfl
            have z3 : wm.cell? ⟨w.heap.size, 3, none⟩ = some (.int .i64 0) := (STm.out.R.cell 3).trans rfl
            have z4 : wm.cell? ⟨w.heap.size, 4, none⟩ = some (.slice none 0 0) := (STm.out.R.cell 4).trans rfl
            have z5 : wm.cell? ⟨w.heap.size, 5, none⟩ = some (.slice none 0 0) := (STm.out.R.cell 5).trans rfl
            have z6 : wm.cell? ⟨w.heap.size, 6, none⟩ = some (.slice none 0 0) := (STm.out.R.cell 6).trans rfl
            have z7 : wm.cell? ⟨w.heap.size, 7, none⟩ = some (.slice none 0 0) := (STm.out.R.cell 7).trans rfl
            have z8 : wm.cell? ⟨w.heap.size, 8, none⟩ = some (.slice none 0 0) := (STm.out.R.cell 8).trans rfl
            refine bodyPost_ret (v := .tuple #[.agg #[.slice none 0 0, .int .i64 0, .int .i64 0, .int .i64 0, .slice none 0 0, .slice none 0 0, .slice none 0 0, .slice none 0 0, .slice none 0 0], .int .i64 0, .int .i64 (f)]) ?_ rfl ⟨_, rfl, ?_, STm.out.bw⟩
            · simp [results, Try.results143, go_sem, z0, z1, z2, z3, z4, z5, z6, z7, z8]
            · unfold goodRR
              rw [HEQ.out]
              exact ⟨RS.nil, rfl, STm.out.G.base_le (Nat.le_succ _)⟩
      · have y0 := ST5.out.R.free
        have y3 : w5.cell? ⟨w.heap.size, 3, none⟩ = some (.int .i64 (L : Int)) := ST5.out.R.cells.2.2.2.1
        have hL4 : ¬ (2147483648 : Int) ≤ (L : Int) := by omega
        clear hL3
        go_upto_region 12 with (fail)
        clear y0 y3 hL4 hl4
        clear ST4 ST3 ST2 ST1 ST0 hg0 hg2 hg4 hg8
        have y1 : w5.cell? ⟨w.heap.size, 1, none⟩ = some (.int .i64 (T : Int)) := ST5.out.R.cells.2.1
        by_cases hT : T = 0
        · subst hT
          have HEQ : Hid (getRR bs a = (RR.zero, 0, 2)) := by show _ = _; rw [hR2.out, if_pos rfl]
          have yf := ST5.out.R.free
          have u0 := ST5.out.R.cell 0
          have u1 := ST5.out.R.cell 1
          have u2 := ST5.out.R.cell 2
          have u3 := ST5.out.R.cell 3
          have u4 := ST5.out.R.cell 4
          have u5 := ST5.out.R.cell 5
          have u6 := ST5.out.R.cell 6
          have u7 := ST5.out.R.cell 7
          have u8 := ST5.out.R.cell 8
          simp only [rrCells, List.getElem?_toArray, List.getElem?_cons_zero, List.getElem?_cons_succ] at u0 u1 u2 u3 u4 u5 u6 u7 u8
          go_wp2
          obtain ⟨wm, hwm⟩ : ∃ u, u = (((((((((w5.setCell ⟨w.heap.size, 0, none⟩ (.slice none 0 0)).setCell ⟨w.heap.size, 1, none⟩ (.int .i64 0)).setCell ⟨w.heap.size, 2, none⟩ (.int .i64 0)).setCell ⟨w.heap.size, 3, none⟩ (.int .i64 0)).setCell ⟨w.heap.size, 4, none⟩ (.slice none 0 0)).setCell ⟨w.heap.size, 5, none⟩ (.slice none 0 0)).setCell ⟨w.heap.size, 6, none⟩ (.slice none 0 0)).setCell ⟨w.heap.size, 7, none⟩ (.slice none 0 0)).setCell ⟨w.heap.size, 8, none⟩ (.slice none 0 0)) := ⟨_, rfl⟩
          have STm : Hid (RgSt w wm RS.nil RR.zero) := by show RgSt _ _ _ _; rw [hwm]; exact ST5.out.nine (s' := RS.nil) (x' := RR.zero) (RGot.nil _ _)
          rw [← hwm]
          clear hwm yf u0 u1 u2 u3 u4 u5 u6 u7 u8
          have z0 : wm.cell? ⟨w.heap.size, 0, none⟩ = some (.slice none 0 0) := (STm.out.R.cell 0).trans rfl
          have z1 : wm.cell? ⟨w.heap.size, 1, none⟩ = some (.int .i64 0) := (STm.out.R.cell 1).trans rfl
          have z2 : wm.cell? ⟨w.heap.size, 2, none⟩ = some (.int .i64 0) := (STm.out.R.cell 2).trans rfl
          have z3 : wm.cell? ⟨w.heap.size, 3, none⟩ = some (.int .i64 0) := (STm.out.R.cell 3).trans rfl
          have z4 : wm.cell? ⟨w.heap.size, 4, none⟩ = some (.slice none 0 0) := (STm.out.R.cell 4).trans rfl
          have z5 : wm.cell? ⟨w.heap.size, 5, none⟩ = some (.slice none 0 0) := (STm.out.R.cell 5).trans rfl
          have z6 : wm.cell? ⟨w.heap.size, 6, none⟩ = some (.slice none 0 0) := (STm.out.R.cell 6).trans rfl
          have z7 : wm.cell? ⟨w.heap.size, 7, none⟩ = some (.slice none 0 0) := (STm.out.R.cell 7).trans rfl
          have z8 : wm.cell? ⟨w.heap.size, 8, none⟩ = some (.slice none 0 0) := (STm.out.R.cell 8).trans rfl
          refine bodyPost_ret (v := .tuple #[.agg #[.slice none 0 0, .int .i64 0, .int .i64 0, .int .i64 0, .slice none 0 0, .slice none 0 0, .slice none 0 0, .slice none 0 0, .slice none 0 0], .int .i64 0, .int .i64 (2)]) ?_ rfl ⟨_, rfl, ?_, STm.out.bw⟩
          · simp [results, Try.results143, go_sem, z0, z1, z2, z3, z4, z5, z6, z7, z8]
          · unfold goodRR
            rw [HEQ.out]
            exact ⟨RS.nil, rfl, STm.out.G.base_le (Nat.le_succ _)⟩
        · have hT2 : ¬ (T : Int) = 0 := by omega
          have y0 := ST5.out.R.free
          obtain ⟨⟨D, f⟩, hD⟩ : ∃ g, g = getD bs ((p + 10 : Nat) : Int) (Z : Int) (T : Int) := ⟨_, rfl⟩
          have HD := Lib.hid hD.symm
          rw [← hD, if_neg hT] at hR2
          clear hD
          go_upto_region 15 with (first
            | (go_at_call 164; rw [show ((p : Int) + 10) = ((p + 10 : Nat) : Int) from rfl]; refine (getD_any w5 A n c (p + 10) Z (T : Int) bs (HR.out.below ST5.out.bw) (fun b off e => Nat.lt_of_lt_of_le (HB.out b off e) ST5.out.bw.size) hn hc hn2 (by omega) (by omega) (by omega)).mono ?_; unfold goodG; rw [HD.out]; rintro e w7 ⟨v7, rfl, ⟨s7, rfl, hgot7⟩, hb7⟩; unfold dsV; have ST7 := Lib.hid (ST5.out.below hb7); have z0 := ST7.out.R.free; have z4 := ST7.out.R.cell 4; have z5 := ST7.out.R.cell 5; have z6 := ST7.out.R.cell 6; have z7 := ST7.out.R.cell 7; have z8 := ST7.out.R.cell 8; simp only [rrCells, List.getElem?_toArray, List.getElem?_cons_zero, List.getElem?_cons_succ] at z4 z5 z6 z7 z8)
            | fail)
          obtain ⟨w8, hw8⟩ : ∃ u, u = (((((w7.setCell ⟨w.heap.size, 4, none⟩ (.slice s7.A0 D.bytes.length s7.c0)).setCell ⟨w.heap.size, 5, none⟩ (.slice s7.A1 D.host.length s7.c1)).setCell ⟨w.heap.size, 6, none⟩ (.slice s7.A2 D.mail.length s7.c2)).setCell ⟨w.heap.size, 7, none⟩ (.slice s7.A3 D.nums.length s7.c3)).setCell ⟨w.heap.size, 8, none⟩ (.slice s7.A4 D.texts.length s7.c4)) := ⟨_, rfl⟩
          have hs8 := ST7.out.data (hgot7.base_le (Nat.succ_le_of_lt ST5.out.R.lt))
          rw [← hw8] at hs8
          have ST8 := Lib.hid hs8
          rw [← hw8]
          clear hw8 hs8 z0 z4 z5 z6 z7 z8 y0 y1 ST7 hgot7
          by_cases hf : f = 0
          · subst hf
            have HEQ := Lib.hid (hR2.out.trans (if_neg (fun h => h rfl)))
            have z0 := ST8.out.R.free
            obtain ⟨sF, xF, STF, hxF, hsF⟩ : ∃ sF xF, Hid (RgSt w w8 sF xF) ∧ xF = _ ∧ sF = _ := ⟨_, _, ST8, rfl, rfl⟩
            have HEQ : Hid (getRR bs a = (xF, ((p + 10 + Z : Nat) : Int), 0)) := by show _ = _; rw [hR2.out, if_neg (fun h => h rfl), hxF]
            clear hxF hsF ST8 hR2
            have u0 : w8.cell? ⟨w.heap.size, 0, none⟩ = some (.slice sF.A xF.name.length sF.c) := (STF.out.R.cell 0).trans rfl
            have u1 : w8.cell? ⟨w.heap.size, 1, none⟩ = some (.int .i64 xF.type) := (STF.out.R.cell 1).trans rfl
            have u2 : w8.cell? ⟨w.heap.size, 2, none⟩ = some (.int .i64 xF.cls) := (STF.out.R.cell 2).trans rfl
            have u3 : w8.cell? ⟨w.heap.size, 3, none⟩ = some (.int .i64 xF.ttl) := (STF.out.R.cell 3).trans rfl
            have u4 : w8.cell? ⟨w.heap.size, 4, none⟩ = some (.slice sF.d.A0 xF.data.bytes.length sF.d.c0) := (STF.out.R.cell 4).trans rfl
            have u5 : w8.cell? ⟨w.heap.size, 5, none⟩ = some (.slice sF.d.A1 xF.data.host.length sF.d.c1) := (STF.out.R.cell 5).trans rfl
            have u6 : w8.cell? ⟨w.heap.size, 6, none⟩ = some (.slice sF.d.A2 xF.data.mail.length sF.d.c2) := (STF.out.R.cell 6).trans rfl
            have u7 : w8.cell? ⟨w.heap.size, 7, none⟩ = some (.slice sF.d.A3 xF.data.nums.length sF.d.c3) := (STF.out.R.cell 7).trans rfl
            have u8 : w8.cell? ⟨w.heap.size, 8, none⟩ = some (.slice sF.d.A4 xF.data.texts.length sF.d.c4) := (STF.out.R.cell 8).trans rfl
            go_wp2
            obtain ⟨wm, hwm⟩ : ∃ u, u = (((((((((w8.setCell ⟨w.heap.size, 0, none⟩ (.slice sF.A xF.name.length sF.c)).setCell ⟨w.heap.size, 1, none⟩ (.int .i64 xF.type)).setCell ⟨w.heap.size, 2, none⟩ (.int .i64 xF.cls)).setCell ⟨w.heap.size, 3, none⟩ (.int .i64 xF.ttl)).setCell ⟨w.heap.size, 4, none⟩ (.slice sF.d.A0 xF.data.bytes.length sF.d.c0)).setCell ⟨w.heap.size, 5, none⟩ (.slice sF.d.A1 xF.data.host.length sF.d.c1)).setCell ⟨w.heap.size, 6, none⟩ (.slice sF.d.A2 xF.data.mail.length sF.d.c2)).setCell ⟨w.heap.size, 7, none⟩ (.slice sF.d.A3 xF.data.nums.length sF.d.c3)).setCell ⟨w.heap.size, 8, none⟩ (.slice sF.d.A4 xF.data.texts.length sF.d.c4)) := ⟨_, rfl⟩
            have STm : Hid (RgSt w wm sF xF) := by show RgSt _ _ _ _; rw [hwm]; exact STF.out.nine (s' := sF) (x' := xF) STF.out.G
            rw [← hwm]
            clear hwm z0 u0 u1 u2 u3 u4 u5 u6 u7 u8
            have z0 : wm.cell? ⟨w.heap.size, 0, none⟩ = some (.slice sF.A xF.name.length sF.c) := (STm.out.R.cell 0).trans rfl
            have z1 : wm.cell? ⟨w.heap.size, 1, none⟩ = some (.int .i64 xF.type) := (STm.out.R.cell 1).trans rfl
            have z2 : wm.cell? ⟨w.heap.size, 2, none⟩ = some (.int .i64 xF.cls) := (STm.out.R.cell 2).trans rfl
            have z3 : wm.cell? ⟨w.heap.size, 3, none⟩ = some (.int .i64 xF.ttl) := (STm.out.R.cell 3).trans rfl
            have z4 : wm.cell? ⟨w.heap.size, 4, none⟩ = some (.slice sF.d.A0 xF.data.bytes.length sF.d.c0) := (STm.out.R.cell 4).trans rfl
            have z5 : wm.cell? ⟨w.heap.size, 5, none⟩ = some (.slice sF.d.A1 xF.data.host.length sF.d.c1) := (STm.out.R.cell 5).trans rfl
            have z6 : wm.cell? ⟨w.heap.size, 6, none⟩ = some (.slice sF.d.A2 xF.data.mail.length sF.d.c2) := (STm.out.R.cell 6).trans rfl
            have z7 : wm.cell? ⟨w.heap.size, 7, none⟩ = some (.slice sF.d.A3 xF.data.nums.length sF.d.c3) := (STm.out.R.cell 7).trans rfl
            have z8 : wm.cell? ⟨w.heap.size, 8, none⟩ = some (.slice sF.d.A4 xF.data.texts.length sF.d.c4) := (STm.out.R.cell 8).trans rfl
            refine bodyPost_ret (v := .tuple #[.agg #[.slice sF.A xF.name.length sF.c, .int .i64 xF.type, .int .i64 xF.cls, .int .i64 xF.ttl, .slice sF.d.A0 xF.data.bytes.length sF.d.c0, .slice sF.d.A1 xF.data.host.length sF.d.c1, .slice sF.d.A2 xF.data.mail.length sF.d.c2, .slice sF.d.A3 xF.data.nums.length sF.d.c3, .slice sF.d.A4 xF.data.texts.length sF.d.c4], .int .i64 ((p : Int) + 10 + (Z : Int)), .int .i64 0]) ?_ rfl ⟨_, rfl, ?_, STm.out.bw⟩
            · simp [results, Try.results143, go_sem, z0, z1, z2, z3, z4, z5, z6, z7, z8]
            · unfold goodRR
              rw [HEQ.out]
              exact ⟨sF, rfl, STm.out.G.base_le (Nat.le_succ _)⟩
          · skip
            have HEQ : Hid (getRR bs a = (RR.zero, 0, f)) := by show _ = _; rw [hR2.out, if_pos hf]
            have yf := ST8.out.R.free
            have u0 := ST8.out.R.cell 0
            have u1 := ST8.out.R.cell 1
            have u2 := ST8.out.R.cell 2
            have u3 := ST8.out.R.cell 3
            have u4 := ST8.out.R.cell 4
            have u5 := ST8.out.R.cell 5
            have u6 := ST8.out.R.cell 6
            have u7 := ST8.out.R.cell 7
            have u8 := ST8.out.R.cell 8
            simp only [rrCells, List.getElem?_toArray, List.getElem?_cons_zero, List.getElem?_cons_succ] at u0 u1 u2 u3 u4 u5 u6 u7 u8
            go_wp2
            obtain ⟨wm, hwm⟩ : ∃ u, u = (((((((((w8.setCell ⟨w.heap.size, 0, none⟩ (.slice none 0 0)).setCell ⟨w.heap.size, 1, none⟩ (.int .i64 0)).setCell ⟨w.heap.size, 2, none⟩ (.int .i64 0)).setCell ⟨w.heap.size, 3, none⟩ (.int .i64 0)).setCell ⟨w.heap.size, 4, none⟩ (.slice none 0 0)).setCell ⟨w.heap.size, 5, none⟩ (.slice none 0 0)).setCell ⟨w.heap.size, 6, none⟩ (.slice none 0 0)).setCell ⟨w.heap.size, 7, none⟩ (.slice none 0 0)).setCell ⟨w.heap.size, 8, none⟩ (.slice none 0 0)) := ⟨_, rfl⟩
            have STm : Hid (RgSt w wm RS.nil RR.zero) := by show RgSt _ _ _ _; rw [hwm]; exact ST8.out.nine (s' := RS.nil) (x' := RR.zero) (RGot.nil _ _)
            rw [← hwm]
            clear hwm yf u0 u1 u2 u3 u4 u5 u6 u7 u8
            have z0 : wm.cell? ⟨w.heap.size, 0, none⟩ = some (.slice none 0 0) := (STm.out.R.cell 0).trans rfl
            have z1 : wm.cell? ⟨w.heap.size, 1, none⟩ = some (.int .i64 0) := (STm.out.R.cell 1).trans rfl
            have z2 : wm.cell? ⟨w.heap.size, 2, none⟩ = some (.int .i64 0) := (STm.out.R.cell 2).trans rfl
            have z3 : wm.cell? ⟨w.heap.size, 3, none⟩ = some (.int .i64 0) := (STm.out.R.cell 3).trans rfl
            have z4 : wm.cell? ⟨w.heap.size, 4, none⟩ = some (.slice none 0 0) := (STm.out.R.cell 4).trans rfl
            have z5 : wm.cell? ⟨w.heap.size, 5, none⟩ = some (.slice none 0 0) := (STm.out.R.cell 5).trans rfl
            have z6 : wm.cell? ⟨w.heap.size, 6, none⟩ = some (.slice none 0 0) := (STm.out.R.cell 6).trans rfl
            have z7 : wm.cell? ⟨w.heap.size, 7, none⟩ = some (.slice none 0 0) := (STm.out.R.cell 7).trans rfl
            have z8 : wm.cell? ⟨w.heap.size, 8, none⟩ = some (.slice none 0 0) := (STm.out.R.cell 8).trans rfl
            refine bodyPost_ret (v := .tuple #[.agg #[.slice none 0 0, .int .i64 0, .int .i64 0, .int .i64 0, .slice none 0 0, .slice none 0 0, .slice none 0 0, .slice none 0 0, .slice none 0 0], .int .i64 0, .int .i64 (f)]) ?_ rfl ⟨_, rfl, ?_, STm.out.bw⟩
            · simp [results, Try.results143, go_sem, z0, z1, z2, z3, z4, z5, z6, z7, z8]
            · unfold goodRR
              rw [HEQ.out]
              exact ⟨RS.nil, rfl, STm.out.G.base_le (Nat.le_succ _)⟩
  · have hE : getRR bs a = (RR.zero, 0, er) := by unfold getRR; rw [HG.out, if_pos he]
    have HE0 := Lib.hid hE
    clear hE
    have HEQ : Hid (getRR bs a = (RR.zero, 0, er)) := by show _ = _; exact HE0.out
    have yf := ST2.out.R.free
    have u0 := ST2.out.R.cell 0
    have u1 := ST2.out.R.cell 1
    have u2 := ST2.out.R.cell 2
    have u3 := ST2.out.R.cell 3
    have u4 := ST2.out.R.cell 4
    have u5 := ST2.out.R.cell 5
    have u6 := ST2.out.R.cell 6
    have u7 := ST2.out.R.cell 7
    have u8 := ST2.out.R.cell 8
    simp only [rrCells, List.getElem?_toArray, List.getElem?_cons_zero, List.getElem?_cons_succ] at u0 u1 u2 u3 u4 u5 u6 u7 u8
    go_wp2
    obtain ⟨wm, hwm⟩ : ∃ u, u = (((((((((w2.setCell ⟨w.heap.size, 0, none⟩ (.slice none 0 0)).setCell ⟨w.heap.size, 1, none⟩ (.int .i64 0)).setCell ⟨w.heap.size, 2, none⟩ (.int .i64 0)).setCell ⟨w.heap.size, 3, none⟩ (.int .i64 0)).setCell ⟨w.heap.size, 4, none⟩ (.slice none 0 0)).setCell ⟨w.heap.size, 5, none⟩ (.slice none 0 0)).setCell ⟨w.heap.size, 6, none⟩ (.slice none 0 0)).setCell ⟨w.heap.size, 7, none⟩ (.slice none 0 0)).setCell ⟨w.heap.size, 8, none⟩ (.slice none 0 0)) := ⟨_, rfl⟩
    have STm : Hid (RgSt w wm RS.nil RR.zero) := by show RgSt _ _ _ _; rw [hwm]; exact ST2.out.nine (s' := RS.nil) (x' := RR.zero) (RGot.nil _ _)
    rw [← hwm]
    clear hwm yf u0 u1 u2 u3 u4 u5 u6 u7 u8
    have z0 : wm.cell? ⟨w.heap.size, 0, none⟩ = some (.slice none 0 0) := (STm.out.R.cell 0).trans rfl
    have z1 : wm.cell? ⟨w.heap.size, 1, none⟩ = some (.int .i64 0) := (STm.out.R.cell 1).trans rfl
    have z2 : wm.cell? ⟨w.heap.size, 2, none⟩ = some (.int .i64 0) := (STm.out.R.cell 2).trans rfl
    have z3 : wm.cell? ⟨w.heap.size, 3, none⟩ = some (.int .i64 0) := (STm.out.R.cell 3).trans rfl
    have z4 : wm.cell? ⟨w.heap.size, 4, none⟩ = some (.slice none 0 0) := (STm.out.R.cell 4).trans rfl
    have z5 : wm.cell? ⟨w.heap.size, 5, none⟩ = some (.slice none 0 0) := (STm.out.R.cell 5).trans rfl
    have z6 : wm.cell? ⟨w.heap.size, 6, none⟩ = some (.slice none 0 0) := (STm.out.R.cell 6).trans rfl
    have z7 : wm.cell? ⟨w.heap.size, 7, none⟩ = some (.slice none 0 0) := (STm.out.R.cell 7).trans rfl
    have z8 : wm.cell? ⟨w.heap.size, 8, none⟩ = some (.slice none 0 0) := (STm.out.R.cell 8).trans rfl
    refine bodyPost_ret (v := .tuple #[.agg #[.slice none 0 0, .int .i64 0, .int .i64 0, .int .i64 0, .slice none 0 0, .slice none 0 0, .slice none 0 0, .slice none 0 0, .slice none 0 0], .int .i64 0, .int .i64 (er)]) ?_ rfl ⟨_, rfl, ?_, STm.out.bw⟩
    · simp [results, Try.results143, go_sem, z0, z1, z2, z3, z4, z5, z6, z7, z8]
    · unfold goodRR
      rw [HEQ.out]
      exact ⟨RS.nil, rfl, STm.out.G.base_le (Nat.le_succ _)⟩
end Go.Proofs.Ytmkfjddighabcaa
