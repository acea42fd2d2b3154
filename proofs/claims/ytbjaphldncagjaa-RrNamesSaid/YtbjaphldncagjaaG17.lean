/- Parts of a proof, joined: RrGet, Own5, Ans05, Light5, Law05W. -/
import Derived.Test.YtbjaphldncagjaaG07
import Derived.Test.YtbjaphldncagjaaG05
import Derived.Test.YtbjaphldncagjaaG16
import Derived.Test.YtbjaphldncagjaaG12
import Derived.Test.YtbjaphldncagjaaG02
import Derived.Test.YtbjaphldncagjaaG15
/- rr.Get, whatever the bytes and the place. -/
namespace Go.Proofs.Ytbjaphldncagjaa
open Go.RowKit
set_option maxRecDepth 100000
set_option linter.unusedVariables false

def goodRR (bs : List UInt8) (a : Int) (w : World) (v : Value) (w' : World) : Prop := ∃ s, v = .tuple #[rrV s (getRR bs a).1, .int .i64 (getRR bs a).2.1, .int .i64 (getRR bs a).2.2] ∧ RGot w' w.heap.size s (getRR bs a).1

set_option maxHeartbeats 8000000 in
theorem rrget_any (w : World) (A : Option Addr) (n c : Nat) (a : Int) (bs : List UInt8) (hr : RdB w A n bs) (hbl : ∀ b off, A = some ⟨b, off, none⟩ → b < w.heap.size) (hn : n ≤ c) (hc : c ≤ 9223372036854775807) (hn2 : n ≤ 100000000) :
    Calls Try.prog 66 #[.slice A n c, .int .i64 a] w (RetP (goodRR bs a w) w) := by
  have hl := hr.len
  obtain ⟨w0, hw0⟩ : ∃ w0, w0 = w.alloc (.cells #[.slice none 0 0, .int .i64 0, .int .i64 0, .int .i64 0, .slice none 0 0, .slice none 0 0, .slice none 0 0, .slice none 0 0, .slice none 0 0] 48) := ⟨_, rfl⟩
  have ST0 : Hid (RgSt w w0 RS.nil RR.zero) := by show RgSt _ _ _ _; rw [hw0]; exact RgSt.start w
  have HR := Lib.hid hr
  have HB := Lib.hid hbl
  clear hr hbl
  have hwg : ∀ w1 : World, RdB w1 A n bs → Calls Try.prog 117 #[.slice A n c, .int .i64 a] w1 (RetW (nameA bs a) w1) := fun w1 h1 => wget_any A n c bs a w1 h1 hn (by omega)
  have hnn := nameA_nn bs a
  have hnl := nameA_le bs a
  obtain ⟨⟨ls, nxt, er⟩, hg⟩ : ∃ g, g = nameA bs a := ⟨_, rfl⟩
  rw [← hg] at hnn hnl hwg
  have HG := Lib.hid hg.symm
  clear hg
  simp only at hnn hnl
  have HW := Lib.hid hwg
  clear hwg
  have x0 := ST0.out.R.free
  go_enter Try.func66, Try.ntmps66
  go_upto_region 1 with (fail)
  rw [← hw0]
  clear hw0
  go_upto_region 2 with (first
    | (go_at_call 117; refine (HW.out w0 (HR.out.below ST0.out.bw)).mono ?_; rintro e w1 ⟨v1, rfl, hown1, hb1⟩; have ST1 := Lib.hid (ST0.out.below hb1); obtain ⟨A1, k1, rfl, _⟩ := OwnE.form hown1; have y0 := ST1.out.R.free; have y1 := ST1.out.R.cells.1)
    | fail)
  obtain ⟨w2, hw2⟩ : ∃ w2, w2 = w1.setCell ⟨w.heap.size, 0, none⟩ (.slice A1 ls.length k1) := ⟨_, rfl⟩
  have hs2 := ST1.out.name (OwnE.base_le hown1 (Nat.succ_le_of_lt ST0.out.R.lt))
  rw [← hw2] at hs2
  have ST2 := Lib.hid hs2
  rw [← hw2]
  clear hw2 hs2 y0 y1 x0 hown1
  by_cases he : er = 0
  · subst he
    obtain ⟨p, rfl⟩ := Int.eq_ofNat_of_zero_le hnn
    have hpl := hnl rfl
    have hpl' : p ≤ n := by omega
    clear hnn hnl
    have hR1 : Hid (getRR bs a = getRR1 bs ls p) := by
      show _ = _
      unfold getRR
      rw [HG.out, if_neg (fun h => h rfl)]
      rfl
    by_cases hlt : n < p + 10
    · have h1 : (n : Int) - (p : Int) < 10 := by omega
      have HEQ : Hid (getRR bs a = (RR.zero, 0, 3)) := by show _ = _; rw [hR1.out]; unfold getRR1; rw [if_pos (by omega)]
      have yf := ST2.out.R.free
      have u0 := ST2.out.R.cell 0
      have u1 := ST2.out.R.cell 1
      have u2 := ST2.out.R.cell 2
      have u3 := ST2.out.R.cell 3
      have u4 := ST2.out.R.cell 4
      have u5 := ST2.out.R.cell 5
      have u6 := ST2.out.R.cell 6
      have u7 := ST2.out.R.cell 7
      have u8 := ST2.out.R.cell 8
      simp only [rrCells, List.getElem?_toArray, List.getElem?_cons_zero, List.getElem?_cons_succ] at u0 u1 u2 u3 u4 u5 u6 u7 u8
      go_wp2
      obtain ⟨wm, hwm⟩ : ∃ u, u = (((((((((w2.setCell ⟨w.heap.size, 0, none⟩ (.slice none 0 0)).setCell ⟨w.heap.size, 1, none⟩ (.int .i64 0)).setCell ⟨w.heap.size, 2, none⟩ (.int .i64 0)).setCell ⟨w.heap.size, 3, none⟩ (.int .i64 0)).setCell ⟨w.heap.size, 4, none⟩ (.slice none 0 0)).setCell ⟨w.heap.size, 5, none⟩ (.slice none 0 0)).setCell ⟨w.heap.size, 6, none⟩ (.slice none 0 0)).setCell ⟨w.heap.size, 7, none⟩ (.slice none 0 0)).setCell ⟨w.heap.size, 8, none⟩ (.slice none 0 0)) := ⟨_, rfl⟩
      have STm : Hid (RgSt w wm RS.nil RR.zero) := by show RgSt _ _ _ _; rw [hwm]; exact ST2.out.nine (s' := RS.nil) (x' := RR.zero) (RGot.nil _ _)
      rw [← hwm]
      clear hwm yf u0 u1 u2 u3 u4 u5 u6 u7 u8
      have z0 : wm.cell? ⟨w.heap.size, 0, none⟩ = some (.slice none 0 0) := (STm.out.R.cell 0).trans rfl
      have z1 : wm.cell? ⟨w.heap.size, 1, none⟩ = some (.int .i64 0) := (STm.out.R.cell 1).trans rfl
      have z2 : wm.cell? ⟨w.heap.size, 2, none⟩ = some (.int .i64 0) := (STm.out.R.cell 2).trans rfl
      have z3 : wm.cell? ⟨w.heap.size, 3, none⟩ = some (.int .i64 0) := (STm.out.R.cell 3).trans rfl
      have z4 : wm.cell? ⟨w.heap.size, 4, none⟩ = some (.slice none 0 0) := (STm.out.R.cell 4).trans rfl
      have z5 : wm.cell? ⟨w.heap.size, 5, none⟩ = some (.slice none 0 0) := (STm.out.R.cell 5).trans rfl
      have z6 : wm.cell? ⟨w.heap.size, 6, none⟩ = some (.slice none 0 0) := (STm.out.R.cell 6).trans rfl
      have z7 : wm.cell? ⟨w.heap.size, 7, none⟩ = some (.slice none 0 0) := (STm.out.R.cell 7).trans rfl
      have z8 : wm.cell? ⟨w.heap.size, 8, none⟩ = some (.slice none 0 0) := (STm.out.R.cell 8).trans rfl
      refine bodyPost_ret (v := .tuple #[.agg #[.slice none 0 0, .int .i64 0, .int .i64 0, .int .i64 0, .slice none 0 0, .slice none 0 0, .slice none 0 0, .slice none 0 0, .slice none 0 0], .int .i64 0, .int .i64 (3)]) ?_ rfl ⟨_, rfl, ?_, STm.out.bw⟩
      · simp [results, Try.results66, go_sem, z0, z1, z2, z3, z4, z5, z6, z7, z8]
      · unfold goodRR
        rw [HEQ.out]
        exact ⟨RS.nil, rfl, STm.out.G.base_le (Nat.le_succ _)⟩
    · have h1 : ¬ (n : Int) - (p : Int) < 10 := by omega
      have hg0 : Hid (getN bs (p : Int) 2 = ((numA bs p 2 : Int), 0)) := numA_get (b := bs) (p := p) (k := 2) (by omega) (by decide) (by decide)
      have hg2 : Hid (getN bs ((p : Int) + 2) 2 = ((numA bs (p + 2) 2 : Int), 0)) := numA_get (b := bs) (p := p + 2) (k := 2) (by omega) (by decide) (by decide)
      have hg4 : Hid (getN bs ((p : Int) + 4) 4 = ((numA bs (p + 4) 4 : Int), 0)) := numA_get (b := bs) (p := p + 4) (k := 4) (by omega) (by decide) (by decide)
      have hg8 : Hid (getN bs ((p : Int) + 8) 2 = ((numA bs (p + 8) 2 : Int), 0)) := numA_get (b := bs) (p := p + 8) (k := 2) (by omega) (by decide) (by decide)
      have hl0 : numA bs p 2 < 65536 := numA_2
      have hl8 : numA bs (p + 8) 2 < 65536 := numA_2
      have hl4 : numA bs (p + 4) 4 < 4294967296 := numA_4
      have HT4 : Hid (ttlA bs p = if 2147483648 ≤ numA bs (p + 4) 4 then 0 else (numA bs (p + 4) 4 : Int)) := rfl
      have hR2 : Hid (getRR bs a = if numA bs p 2 = 0 then (RR.zero, 0, 2) else if (getD bs ((p + 10 : Nat) : Int) (numA bs (p + 8) 2 : Int) (numA bs p 2 : Int)).2 ≠ 0 then (RR.zero, 0, (getD bs ((p + 10 : Nat) : Int) (numA bs (p + 8) 2 : Int) (numA bs p 2 : Int)).2) else (⟨ls, (numA bs p 2 : Int), (numA bs (p + 2) 2 : Int), ttlA bs p, (getD bs ((p + 10 : Nat) : Int) (numA bs (p + 8) 2 : Int) (numA bs p 2 : Int)).1⟩, ((p + 10 + numA bs (p + 8) 2 : Nat) : Int), 0)) := by show _ = _; rw [hR1.out]; unfold getRR1; rw [if_neg (by omega)]
      clear hR1
      generalize numA bs p 2 = T at hg0 hl0 hR2
      generalize numA bs (p + 2) 2 = C at hg2 hR2
      generalize numA bs (p + 4) 4 = L at hg4 hl4 HT4
      generalize numA bs (p + 8) 2 = Z at hg8 hl8 hR2
      obtain ⟨L2, hL2, hL3⟩ : ∃ L2 : Int, ttlA bs p = L2 ∧ ((2147483648 ≤ L ∧ L2 = 0) ∨ (L < 2147483648 ∧ L2 = (L : Int))) := by
        refine ⟨_, rfl, ?_⟩
        rw [HT4.out]
        by_cases h : 2147483648 ≤ L
        · exact .inl ⟨h, by rw [if_pos h]⟩
        · exact .inr ⟨by omega, by rw [if_neg h]⟩
      rw [hL2] at hR2
      clear hL2 HT4
      have y0 := ST2.out.R.free
      have yc := ST2.out.R.cell 1
      simp only [rrCells, List.getElem?_toArray, List.getElem?_cons_zero, List.getElem?_cons_succ] at yc
      go_upto_region 7 with (first
        | (go_at_call 118; refine (get_any A n c bs (p : Int) 2 w2 (HR.out.below ST2.out.bw) hn (by omega)).mono ?_; rw [hg0.out]; rintro e u ⟨rfl, rfl⟩)
        | fail)
      clear y0 yc
      obtain ⟨w3, hwb⟩ : ∃ u, u = w2.setCell ⟨w.heap.size, 1, none⟩ (.int .i64 ((T : Int))) := ⟨_, rfl⟩
      have hsb := ST2.out.type ((T : Int))
      rw [← hwb] at hsb
      have ST3 := Lib.hid hsb
      rw [← hwb]
      clear hwb hsb
      have y0 := ST3.out.R.free
      have yc := ST3.out.R.cell 2
      simp only [rrCells, List.getElem?_toArray, List.getElem?_cons_zero, List.getElem?_cons_succ] at yc
      go_upto_region 8 with (first
        | (go_at_call 118; refine (get_any A n c bs ((p : Int) + 2) 2 w3 (HR.out.below ST3.out.bw) hn (by omega)).mono ?_; rw [hg2.out]; rintro e u ⟨rfl, rfl⟩)
        | fail)
      clear y0 yc
      obtain ⟨w4, hwb⟩ : ∃ u, u = w3.setCell ⟨w.heap.size, 2, none⟩ (.int .i64 ((C : Int))) := ⟨_, rfl⟩
      have hsb := ST3.out.cls ((C : Int))
      rw [← hwb] at hsb
      have ST4 := Lib.hid hsb
      rw [← hwb]
      clear hwb hsb
      have y0 := ST4.out.R.free
      have yc := ST4.out.R.cell 3
      simp only [rrCells, List.getElem?_toArray, List.getElem?_cons_zero, List.getElem?_cons_succ] at yc
      go_upto_region 9 with (first
        | (go_at_call 118; refine (get_any A n c bs ((p : Int) + 4) 4 w4 (HR.out.below ST4.out.bw) hn (by omega)).mono ?_; rw [hg4.out]; rintro e u ⟨rfl, rfl⟩)
        | fail)
      clear y0 yc
      obtain ⟨w5, hwb⟩ : ∃ u, u = w4.setCell ⟨w.heap.size, 3, none⟩ (.int .i64 ((L : Int))) := ⟨_, rfl⟩
      have hsb := ST4.out.ttl ((L : Int))
      rw [← hwb] at hsb
      have ST5 := Lib.hid hsb
      rw [← hwb]
      clear hwb hsb
      have y0 := ST5.out.R.free
      go_upto_region 10 with (first
        | (go_at_call 118; refine (get_any A n c bs ((p : Int) + 8) 2 w5 (HR.out.below ST5.out.bw) hn (by omega)).mono ?_; rw [hg8.out]; rintro e u ⟨rfl, rfl⟩)
        | fail)
      clear y0
      rcases hL3 with ⟨hL3, rfl⟩ | ⟨hL3, rfl⟩
      · have y0 := ST5.out.R.free
        have y3 : w5.cell? ⟨w.heap.size, 3, none⟩ = some (.int .i64 (L : Int)) := ST5.out.R.cells.2.2.2.1
        have hL4 : (2147483648 : Int) ≤ (L : Int) := by omega
        clear hL3
        go_upto_region 12 with (fail)
        clear y0 y3 hL4 hl4
        obtain ⟨w6, hw6⟩ : ∃ u, u = w5.setCell ⟨w.heap.size, 3, none⟩ (.int .i64 0) := ⟨_, rfl⟩
        have hs6 := ST5.out.ttl 0
        rw [← hw6] at hs6 ⊢
        clear hw6
        have ST6 := Lib.hid hs6
        clear hs6 ST5
        clear ST4 ST3 ST2 ST1 ST0 hg0 hg2 hg4 hg8
        have y1 : w6.cell? ⟨w.heap.size, 1, none⟩ = some (.int .i64 (T : Int)) := ST6.out.R.cells.2.1
        by_cases hT : T = 0
        · subst hT
          have HEQ : Hid (getRR bs a = (RR.zero, 0, 2)) := by show _ = _; rw [hR2.out, if_pos rfl]
          have yf := ST6.out.R.free
          have u0 := ST6.out.R.cell 0
          have u1 := ST6.out.R.cell 1
          have u2 := ST6.out.R.cell 2
          have u3 := ST6.out.R.cell 3
          have u4 := ST6.out.R.cell 4
          have u5 := ST6.out.R.cell 5
          have u6 := ST6.out.R.cell 6
          have u7 := ST6.out.R.cell 7
          have u8 := ST6.out.R.cell 8
          simp only [rrCells, List.getElem?_toArray, List.getElem?_cons_zero, List.getElem?_cons_succ] at u0 u1 u2 u3 u4 u5 u6 u7 u8
          go_wp2
          obtain ⟨wm, hwm⟩ : ∃ u, u = (((((((((w6.setCell ⟨w.heap.size, 0, none⟩ (.slice none 0 0)).setCell ⟨w.heap.size, 1, none⟩ (.int .i64 0)).setCell ⟨w.heap.size, 2, none⟩ (.int .i64 0)).setCell ⟨w.heap.size, 3, none⟩ (.int .i64 0)).setCell ⟨w.heap.size, 4, none⟩ (.slice none 0 0)).setCell ⟨w.heap.size, 5, none⟩ (.slice none 0 0)).setCell ⟨w.heap.size, 6, none⟩ (.slice none 0 0)).setCell ⟨w.heap.size, 7, none⟩ (.slice none 0 0)).setCell ⟨w.heap.size, 8, none⟩ (.slice none 0 0)) := ⟨_, rfl⟩
          have STm : Hid (RgSt w wm RS.nil RR.zero) := by show RgSt _ _ _ _; rw [hwm]; exact ST6.out.nine (s' := RS.nil) (x' := RR.zero) (RGot.nil _ _)
          rw [← hwm]
          clear hwm yf u0 u1 u2 u3 u4 u5 u6 u7 u8
          have z0 : wm.cell? ⟨w.heap.size, 0, none⟩ = some (.slice none 0 0) := (STm.out.R.cell 0).trans rfl
          have z1 : wm.cell? ⟨w.heap.size, 1, none⟩ = some (.int .i64 0) := (STm.out.R.cell 1).trans rfl
          have z2 : wm.cell? ⟨w.heap.size, 2, none⟩ = some (.int .i64 0) := (STm.out.R.cell 2).trans rfl
          have z3 : wm.cell? ⟨w.heap.size, 3, none⟩ = some (.int .i64 0) := (STm.out.R.cell 3).trans rfl
          have z4 : wm.cell? ⟨w.heap.size, 4, none⟩ = some (.slice none 0 0) := (STm.out.R.cell 4).trans rfl
          have z5 : wm.cell? ⟨w.heap.size, 5, none⟩ = some (.slice none 0 0) := (STm.out.R.cell 5).trans rfl
          have z6 : wm.cell? ⟨w.heap.size, 6, none⟩ = some (.slice none 0 0) := (STm.out.R.cell 6).trans rfl
          have z7 : wm.cell? ⟨w.heap.size, 7, none⟩ = some (.slice none 0 0) := (STm.out.R.cell 7).trans rfl
          have z8 : wm.cell? ⟨w.heap.size, 8, none⟩ = some (.slice none 0 0) := (STm.out.R.cell 8).trans rfl
          refine bodyPost_ret (v := .tuple #[.agg #[.slice none 0 0, .int .i64 0, .int .i64 0, .int .i64 0, .slice none 0 0, .slice none 0 0, .slice none 0 0, .slice none 0 0, .slice none 0 0], .int .i64 0, .int .i64 (2)]) ?_ rfl ⟨_, rfl, ?_, STm.out.bw⟩
          · simp [results, Try.results66, go_sem, z0, z1, z2, z3, z4, z5, z6, z7, z8]
          · unfold goodRR
            rw [HEQ.out]
            exact ⟨RS.nil, rfl, STm.out.G.base_le (Nat.le_succ _)⟩
        · have hT2 : ¬ (T : Int) = 0 := by omega
          have y0 := ST6.out.R.free
          obtain ⟨⟨D, f⟩, hD⟩ : ∃ g, g = getD bs ((p + 10 : Nat) : Int) (Z : Int) (T : Int) := ⟨_, rfl⟩
          have HD := Lib.hid hD.symm
          rw [← hD, if_neg hT] at hR2
          clear hD
          go_upto_region 15 with (first
            | (go_at_call 60; rw [show ((p : Int) + 10) = ((p + 10 : Nat) : Int) from rfl]; refine (getD_any w6 A n c (p + 10) Z (T : Int) bs (HR.out.below ST6.out.bw) (fun b off e => Nat.lt_of_lt_of_le (HB.out b off e) ST6.out.bw.size) hn hc hn2 (by omega) (by omega) (by omega)).mono ?_; unfold goodG; rw [HD.out]; rintro e w7 ⟨v7, rfl, ⟨s7, rfl, hgot7⟩, hb7⟩; unfold dsV; have ST7 := Lib.hid (ST6.out.below hb7); have z0 := ST7.out.R.free; have z4 := ST7.out.R.cell 4; have z5 := ST7.out.R.cell 5; have z6 := ST7.out.R.cell 6; have z7 := ST7.out.R.cell 7; have z8 := ST7.out.R.cell 8; simp only [rrCells, List.getElem?_toArray, List.getElem?_cons_zero, List.getElem?_cons_succ] at z4 z5 z6 z7 z8)
            | fail)
          obtain ⟨w8, hw8⟩ : ∃ u, u = (((((w7.setCell ⟨w.heap.size, 4, none⟩ (.slice s7.A0 D.bytes.length s7.c0)).setCell ⟨w.heap.size, 5, none⟩ (.slice s7.A1 D.host.length s7.c1)).setCell ⟨w.heap.size, 6, none⟩ (.slice s7.A2 D.mail.length s7.c2)).setCell ⟨w.heap.size, 7, none⟩ (.slice s7.A3 D.nums.length s7.c3)).setCell ⟨w.heap.size, 8, none⟩ (.slice s7.A4 D.texts.length s7.c4)) := ⟨_, rfl⟩
          have hs8 := ST7.out.data (hgot7.base_le (Nat.succ_le_of_lt ST6.out.R.lt))
          rw [← hw8] at hs8
          have ST8 := Lib.hid hs8
          rw [← hw8]
          clear hw8 hs8 z0 z4 z5 z6 z7 z8 y0 y1 ST7 hgot7
          by_cases hf : f = 0
          · subst hf
            have HEQ := Lib.hid (hR2.out.trans (if_neg (fun h => h rfl)))
            have z0 := ST8.out.R.free
            obtain ⟨sF, xF, STF, hxF, hsF⟩ : ∃ sF xF, Hid (RgSt w w8 sF xF) ∧ xF = _ ∧ sF = _ := ⟨_, _, ST8, rfl, rfl⟩
            have HEQ : Hid (getRR bs a = (xF, ((p + 10 + Z : Nat) : Int), 0)) := by show _ = _; rw [hR2.out, if_neg (fun h => h rfl), hxF]
            clear hxF hsF ST8 hR2
            have u0 : w8.cell? ⟨w.heap.size, 0, none⟩ = some (.slice sF.A xF.name.length sF.c) := (STF.out.R.cell 0).trans rfl
            have u1 : w8.cell? ⟨w.heap.size, 1, none⟩ = some (.int .i64 xF.type) := (STF.out.R.cell 1).trans rfl
            have u2 : w8.cell? ⟨w.heap.size, 2, none⟩ = some (.int .i64 xF.cls) := (STF.out.R.cell 2).trans rfl
            have u3 : w8.cell? ⟨w.heap.size, 3, none⟩ = some (.int .i64 xF.ttl) := (STF.out.R.cell 3).trans rfl
            have u4 : w8.cell? ⟨w.heap.size, 4, none⟩ = some (.slice sF.d.A0 xF.data.bytes.length sF.d.c0) := (STF.out.R.cell 4).trans rfl
            have u5 : w8.cell? ⟨w.heap.size, 5, none⟩ = some (.slice sF.d.A1 xF.data.host.length sF.d.c1) := (STF.out.R.cell 5).trans rfl
            have u6 : w8.cell? ⟨w.heap.size, 6, none⟩ = some (.slice sF.d.A2 xF.data.mail.length sF.d.c2) := (STF.out.R.cell 6).trans rfl
            have u7 : w8.cell? ⟨w.heap.size, 7, none⟩ = some (.slice sF.d.A3 xF.data.nums.length sF.d.c3) := (STF.out.R.cell 7).trans rfl
            have u8 : w8.cell? ⟨w.heap.size, 8, none⟩ = some (.slice sF.d.A4 xF.data.texts.length sF.d.c4) := (STF.out.R.cell 8).trans rfl
            go_wp2
            obtain ⟨wm, hwm⟩ : ∃ u, u = (((((((((w8.setCell ⟨w.heap.size, 0, none⟩ (.slice sF.A xF.name.length sF.c)).setCell ⟨w.heap.size, 1, none⟩ (.int .i64 xF.type)).setCell ⟨w.heap.size, 2, none⟩ (.int .i64 xF.cls)).setCell ⟨w.heap.size, 3, none⟩ (.int .i64 xF.ttl)).setCell ⟨w.heap.size, 4, none⟩ (.slice sF.d.A0 xF.data.bytes.length sF.d.c0)).setCell ⟨w.heap.size, 5, none⟩ (.slice sF.d.A1 xF.data.host.length sF.d.c1)).setCell ⟨w.heap.size, 6, none⟩ (.slice sF.d.A2 xF.data.mail.length sF.d.c2)).setCell ⟨w.heap.size, 7, none⟩ (.slice sF.d.A3 xF.data.nums.length sF.d.c3)).setCell ⟨w.heap.size, 8, none⟩ (.slice sF.d.A4 xF.data.texts.length sF.d.c4)) := ⟨_, rfl⟩
            have STm : Hid (RgSt w wm sF xF) := by show RgSt _ _ _ _; rw [hwm]; exact STF.out.nine (s' := sF) (x' := xF) STF.out.G
            rw [← hwm]
            clear hwm z0 u0 u1 u2 u3 u4 u5 u6 u7 u8
            have z0 : wm.cell? ⟨w.heap.size, 0, none⟩ = some (.slice sF.A xF.name.length sF.c) := (STm.out.R.cell 0).trans rfl
            have z1 : wm.cell? ⟨w.heap.size, 1, none⟩ = some (.int .i64 xF.type) := (STm.out.R.cell 1).trans rfl
            have z2 : wm.cell? ⟨w.heap.size, 2, none⟩ = some (.int .i64 xF.cls) := (STm.out.R.cell 2).trans rfl
            have z3 : wm.cell? ⟨w.heap.size, 3, none⟩ = some (.int .i64 xF.ttl) := (STm.out.R.cell 3).trans rfl
            have z4 : wm.cell? ⟨w.heap.size, 4, none⟩ = some (.slice sF.d.A0 xF.data.bytes.length sF.d.c0) := (STm.out.R.cell 4).trans rfl
            have z5 : wm.cell? ⟨w.heap.size, 5, none⟩ = some (.slice sF.d.A1 xF.data.host.length sF.d.c1) := (STm.out.R.cell 5).trans rfl
            have z6 : wm.cell? ⟨w.heap.size, 6, none⟩ = some (.slice sF.d.A2 xF.data.mail.length sF.d.c2) := (STm.out.R.cell 6).trans rfl
            have z7 : wm.cell? ⟨w.heap.size, 7, none⟩ = some (.slice sF.d.A3 xF.data.nums.length sF.d.c3) := (STm.out.R.cell 7).trans rfl
            have z8 : wm.cell? ⟨w.heap.size, 8, none⟩ = some (.slice sF.d.A4 xF.data.texts.length sF.d.c4) := (STm.out.R.cell 8).trans rfl
            refine bodyPost_ret (v := .tuple #[.agg #[.slice sF.A xF.name.length sF.c, .int .i64 xF.type, .int .i64 xF.cls, .int .i64 xF.ttl, .slice sF.d.A0 xF.data.bytes.length sF.d.c0, .slice sF.d.A1 xF.data.host.length sF.d.c1, .slice sF.d.A2 xF.data.mail.length sF.d.c2, .slice sF.d.A3 xF.data.nums.length sF.d.c3, .slice sF.d.A4 xF.data.texts.length sF.d.c4], .int .i64 ((p : Int) + 10 + (Z : Int)), .int .i64 0]) ?_ rfl ⟨_, rfl, ?_, STm.out.bw⟩
            · simp [results, Try.results66, go_sem, z0, z1, z2, z3, z4, z5, z6, z7, z8]
            · unfold goodRR
              rw [HEQ.out]
              exact ⟨sF, rfl, STm.out.G.base_le (Nat.le_succ _)⟩
          · skip
            have HEQ : Hid (getRR bs a = (RR.zero, 0, f)) := by show _ = _; rw [hR2.out, if_pos hf]
            have yf := ST8.out.R.free
            have u0 := ST8.out.R.cell 0
            have u1 := ST8.out.R.cell 1
            have u2 := ST8.out.R.cell 2
            have u3 := ST8.out.R.cell 3
            have u4 := ST8.out.R.cell 4
            have u5 := ST8.out.R.cell 5
            have u6 := ST8.out.R.cell 6
            have u7 := ST8.out.R.cell 7
            have u8 := ST8.out.R.cell 8
            simp only [rrCells, List.getElem?_toArray, List.getElem?_cons_zero, List.getElem?_cons_succ] at u0 u1 u2 u3 u4 u5 u6 u7 u8
            go_wp2
            obtain ⟨wm, hwm⟩ : ∃ u, u = (((((((((w8.setCell ⟨w.heap.size, 0, none⟩ (.slice none 0 0)).setCell ⟨w.heap.size, 1, none⟩ (.int .i64 0)).setCell ⟨w.heap.size, 2, none⟩ (.int .i64 0)).setCell ⟨w.heap.size, 3, none⟩ (.int .i64 0)).setCell ⟨w.heap.size, 4, none⟩ (.slice none 0 0)).setCell ⟨w.heap.size, 5, none⟩ (.slice none 0 0)).setCell ⟨w.heap.size, 6, none⟩ (.slice none 0 0)).setCell ⟨w.heap.size, 7, none⟩ (.slice none 0 0)).setCell ⟨w.heap.size, 8, none⟩ (.slice none 0 0)) := ⟨_, rfl⟩
            have STm : Hid (RgSt w wm RS.nil RR.zero) := by show RgSt _ _ _ _; rw [hwm]; exact ST8.out.nine (s' := RS.nil) (x' := RR.zero) (RGot.nil _ _)
            rw [← hwm]
            clear hwm yf u0 u1 u2 u3 u4 u5 u6 u7 u8
            have z0 : wm.cell? ⟨w.heap.size, 0, none⟩ = some (.slice none 0 0) := (STm.out.R.cell 0).trans rfl
            have z1 : wm.cell? ⟨w.heap.size, 1, none⟩ = some (.int .i64 0) := (STm.out.R.cell 1).trans rfl
            have z2 : wm.cell? ⟨w.heap.size, 2, none⟩ = some (.int .i64 0) := (STm.out.R.cell 2).trans rfl
            have z3 : wm.cell? ⟨w.heap.size, 3, none⟩ = some (.int .i64 0) := (STm.out.R.cell 3).trans rfl
            have z4 : wm.cell? ⟨w.heap.size, 4, none⟩ = some (.slice none 0 0) := (STm.out.R.cell 4).trans rfl
            have z5 : wm.cell? ⟨w.heap.size, 5, none⟩ = some (.slice none 0 0) := (STm.out.R.cell 5).trans rfl
            have z6 : wm.cell? ⟨w.heap.size, 6, none⟩ = some (.slice none 0 0) := (STm.out.R.cell 6).trans rfl
            have z7 : wm.cell? ⟨w.heap.size, 7, none⟩ = some (.slice none 0 0) := (STm.out.R.cell 7).trans rfl
            have z8 : wm.cell? ⟨w.heap.size, 8, none⟩ = some (.slice none 0 0) := (STm.out.R.cell 8).trans rfl
            refine bodyPost_ret (v := .tuple #[.agg #[.slice none 0 0, .int .i64 0, .int .i64 0, .int .i64 0, .slice none 0 0, .slice none 0 0, .slice none 0 0, .slice none 0 0, .slice none 0 0], .int .i64 0, .int .i64 (f)]) ?_ rfl ⟨_, rfl, ?_, STm.out.bw⟩
            · simp [results, Try.results66, go_sem, z0, z1, z2, z3, z4, z5, z6, z7, z8]
            · unfold goodRR
              rw [HEQ.out]
              exact ⟨RS.nil, rfl, STm.out.G.base_le (Nat.le_succ _)⟩
      · have y0 := ST5.out.R.free
        have y3 : w5.cell? ⟨w.heap.size, 3, none⟩ = some (.int .i64 (L : Int)) := ST5.out.R.cells.2.2.2.1
        have hL4 : ¬ (2147483648 : Int) ≤ (L : Int) := by omega
        clear hL3
        go_upto_region 12 with (fail)
        clear y0 y3 hL4 hl4
        clear ST4 ST3 ST2 ST1 ST0 hg0 hg2 hg4 hg8
        have y1 : w5.cell? ⟨w.heap.size, 1, none⟩ = some (.int .i64 (T : Int)) := ST5.out.R.cells.2.1
        by_cases hT : T = 0
        · subst hT
          have HEQ : Hid (getRR bs a = (RR.zero, 0, 2)) := by show _ = _; rw [hR2.out, if_pos rfl]
          have yf := ST5.out.R.free
          have u0 := ST5.out.R.cell 0
          have u1 := ST5.out.R.cell 1
          have u2 := ST5.out.R.cell 2
          have u3 := ST5.out.R.cell 3
          have u4 := ST5.out.R.cell 4
          have u5 := ST5.out.R.cell 5
          have u6 := ST5.out.R.cell 6
          have u7 := ST5.out.R.cell 7
          have u8 := ST5.out.R.cell 8
          simp only [rrCells, List.getElem?_toArray, List.getElem?_cons_zero, List.getElem?_cons_succ] at u0 u1 u2 u3 u4 u5 u6 u7 u8
          go_wp2
          obtain ⟨wm, hwm⟩ : ∃ u, u = (((((((((w5.setCell ⟨w.heap.size, 0, none⟩ (.slice none 0 0)).setCell ⟨w.heap.size, 1, none⟩ (.int .i64 0)).setCell ⟨w.heap.size, 2, none⟩ (.int .i64 0)).setCell ⟨w.heap.size, 3, none⟩ (.int .i64 0)).setCell ⟨w.heap.size, 4, none⟩ (.slice none 0 0)).setCell ⟨w.heap.size, 5, none⟩ (.slice none 0 0)).setCell ⟨w.heap.size, 6, none⟩ (.slice none 0 0)).setCell ⟨w.heap.size, 7, none⟩ (.slice none 0 0)).setCell ⟨w.heap.size, 8, none⟩ (.slice none 0 0)) := ⟨_, rfl⟩
          have STm : Hid (RgSt w wm RS.nil RR.zero) := by show RgSt _ _ _ _; rw [hwm]; exact ST5.out.nine (s' := RS.nil) (x' := RR.zero) (RGot.nil _ _)
          rw [← hwm]
          clear hwm yf u0 u1 u2 u3 u4 u5 u6 u7 u8
          have z0 : wm.cell? ⟨w.heap.size, 0, none⟩ = some (.slice none 0 0) := (STm.out.R.cell 0).trans rfl
          have z1 : wm.cell? ⟨w.heap.size, 1, none⟩ = some (.int .i64 0) := (STm.out.R.cell 1).trans rfl
          have z2 : wm.cell? ⟨w.heap.size, 2, none⟩ = some (.int .i64 0) := (STm.out.R.cell 2).trans rfl
          have z3 : wm.cell? ⟨w.heap.size, 3, none⟩ = some (.int .i64 0) := (STm.out.R.cell 3).trans rfl
          have z4 : wm.cell? ⟨w.heap.size, 4, none⟩ = some (.slice none 0 0) := (STm.out.R.cell 4).trans rfl
          have z5 : wm.cell? ⟨w.heap.size, 5, none⟩ = some (.slice none 0 0) := (STm.out.R.cell 5).trans rfl
          have z6 : wm.cell? ⟨w.heap.size, 6, none⟩ = some (.slice none 0 0) := (STm.out.R.cell 6).trans rfl
          have z7 : wm.cell? ⟨w.heap.size, 7, none⟩ = some (.slice none 0 0) := (STm.out.R.cell 7).trans rfl
          have z8 : wm.cell? ⟨w.heap.size, 8, none⟩ = some (.slice none 0 0) := (STm.out.R.cell 8).trans rfl
          refine bodyPost_ret (v := .tuple #[.agg #[.slice none 0 0, .int .i64 0, .int .i64 0, .int .i64 0, .slice none 0 0, .slice none 0 0, .slice none 0 0, .slice none 0 0, .slice none 0 0], .int .i64 0, .int .i64 (2)]) ?_ rfl ⟨_, rfl, ?_, STm.out.bw⟩
          · simp [results, Try.results66, go_sem, z0, z1, z2, z3, z4, z5, z6, z7, z8]
          · unfold goodRR
            rw [HEQ.out]
            exact ⟨RS.nil, rfl, STm.out.G.base_le (Nat.le_succ _)⟩
        · have hT2 : ¬ (T : Int) = 0 := by omega
          have y0 := ST5.out.R.free
          obtain ⟨⟨D, f⟩, hD⟩ : ∃ g, g = getD bs ((p + 10 : Nat) : Int) (Z : Int) (T : Int) := ⟨_, rfl⟩
          have HD := Lib.hid hD.symm
          rw [← hD, if_neg hT] at hR2
          clear hD
          go_upto_region 15 with (first
            | (go_at_call 60; rw [show ((p : Int) + 10) = ((p + 10 : Nat) : Int) from rfl]; refine (getD_any w5 A n c (p + 10) Z (T : Int) bs (HR.out.below ST5.out.bw) (fun b off e => Nat.lt_of_lt_of_le (HB.out b off e) ST5.out.bw.size) hn hc hn2 (by omega) (by omega) (by omega)).mono ?_; unfold goodG; rw [HD.out]; rintro e w7 ⟨v7, rfl, ⟨s7, rfl, hgot7⟩, hb7⟩; unfold dsV; have ST7 := Lib.hid (ST5.out.below hb7); have z0 := ST7.out.R.free; have z4 := ST7.out.R.cell 4; have z5 := ST7.out.R.cell 5; have z6 := ST7.out.R.cell 6; have z7 := ST7.out.R.cell 7; have z8 := ST7.out.R.cell 8; simp only [rrCells, List.getElem?_toArray, List.getElem?_cons_zero, List.getElem?_cons_succ] at z4 z5 z6 z7 z8)
            | fail)
          obtain ⟨w8, hw8⟩ : ∃ u, u = (((((w7.setCell ⟨w.heap.size, 4, none⟩ (.slice s7.A0 D.bytes.length s7.c0)).setCell ⟨w.heap.size, 5, none⟩ (.slice s7.A1 D.host.length s7.c1)).setCell ⟨w.heap.size, 6, none⟩ (.slice s7.A2 D.mail.length s7.c2)).setCell ⟨w.heap.size, 7, none⟩ (.slice s7.A3 D.nums.length s7.c3)).setCell ⟨w.heap.size, 8, none⟩ (.slice s7.A4 D.texts.length s7.c4)) := ⟨_, rfl⟩
          have hs8 := ST7.out.data (hgot7.base_le (Nat.succ_le_of_lt ST5.out.R.lt))
          rw [← hw8] at hs8
          have ST8 := Lib.hid hs8
          rw [← hw8]
          clear hw8 hs8 z0 z4 z5 z6 z7 z8 y0 y1 ST7 hgot7
          by_cases hf : f = 0
          · subst hf
            have HEQ := Lib.hid (hR2.out.trans (if_neg (fun h => h rfl)))
            have z0 := ST8.out.R.free
            obtain ⟨sF, xF, STF, hxF, hsF⟩ : ∃ sF xF, Hid (RgSt w w8 sF xF) ∧ xF = _ ∧ sF = _ := ⟨_, _, ST8, rfl, rfl⟩
            have HEQ : Hid (getRR bs a = (xF, ((p + 10 + Z : Nat) : Int), 0)) := by show _ = _; rw [hR2.out, if_neg (fun h => h rfl), hxF]
            clear hxF hsF ST8 hR2
            have u0 : w8.cell? ⟨w.heap.size, 0, none⟩ = some (.slice sF.A xF.name.length sF.c) := (STF.out.R.cell 0).trans rfl
            have u1 : w8.cell? ⟨w.heap.size, 1, none⟩ = some (.int .i64 xF.type) := (STF.out.R.cell 1).trans rfl
            have u2 : w8.cell? ⟨w.heap.size, 2, none⟩ = some (.int .i64 xF.cls) := (STF.out.R.cell 2).trans rfl
            have u3 : w8.cell? ⟨w.heap.size, 3, none⟩ = some (.int .i64 xF.ttl) := (STF.out.R.cell 3).trans rfl
            have u4 : w8.cell? ⟨w.heap.size, 4, none⟩ = some (.slice sF.d.A0 xF.data.bytes.length sF.d.c0) := (STF.out.R.cell 4).trans rfl
            have u5 : w8.cell? ⟨w.heap.size, 5, none⟩ = some (.slice sF.d.A1 xF.data.host.length sF.d.c1) := (STF.out.R.cell 5).trans rfl
            have u6 : w8.cell? ⟨w.heap.size, 6, none⟩ = some (.slice sF.d.A2 xF.data.mail.length sF.d.c2) := (STF.out.R.cell 6).trans rfl
            have u7 : w8.cell? ⟨w.heap.size, 7, none⟩ = some (.slice sF.d.A3 xF.data.nums.length sF.d.c3) := (STF.out.R.cell 7).trans rfl
            have u8 : w8.cell? ⟨w.heap.size, 8, none⟩ = some (.slice sF.d.A4 xF.data.texts.length sF.d.c4) := (STF.out.R.cell 8).trans rfl
            go_wp2
            obtain ⟨wm, hwm⟩ : ∃ u, u = (((((((((w8.setCell ⟨w.heap.size, 0, none⟩ (.slice sF.A xF.name.length sF.c)).setCell ⟨w.heap.size, 1, none⟩ (.int .i64 xF.type)).setCell ⟨w.heap.size, 2, none⟩ (.int .i64 xF.cls)).setCell ⟨w.heap.size, 3, none⟩ (.int .i64 xF.ttl)).setCell ⟨w.heap.size, 4, none⟩ (.slice sF.d.A0 xF.data.bytes.length sF.d.c0)).setCell ⟨w.heap.size, 5, none⟩ (.slice sF.d.A1 xF.data.host.length sF.d.c1)).setCell ⟨w.heap.size, 6, none⟩ (.slice sF.d.A2 xF.data.mail.length sF.d.c2)).setCell ⟨w.heap.size, 7, none⟩ (.slice sF.d.A3 xF.data.nums.length sF.d.c3)).setCell ⟨w.heap.size, 8, none⟩ (.slice sF.d.A4 xF.data.texts.length sF.d.c4)) := ⟨_, rfl⟩
            have STm : Hid (RgSt w wm sF xF) := by show RgSt _ _ _ _; rw [hwm]; exact STF.out.nine (s' := sF) (x' := xF) STF.out.G
            rw [← hwm]
            clear hwm z0 u0 u1 u2 u3 u4 u5 u6 u7 u8
            have z0 : wm.cell? ⟨w.heap.size, 0, none⟩ = some (.slice sF.A xF.name.length sF.c) := (STm.out.R.cell 0).trans rfl
            have z1 : wm.cell? ⟨w.heap.size, 1, none⟩ = some (.int .i64 xF.type) := (STm.out.R.cell 1).trans rfl
            have z2 : wm.cell? ⟨w.heap.size, 2, none⟩ = some (.int .i64 xF.cls) := (STm.out.R.cell 2).trans rfl
            have z3 : wm.cell? ⟨w.heap.size, 3, none⟩ = some (.int .i64 xF.ttl) := (STm.out.R.cell 3).trans rfl
            have z4 : wm.cell? ⟨w.heap.size, 4, none⟩ = some (.slice sF.d.A0 xF.data.bytes.length sF.d.c0) := (STm.out.R.cell 4).trans rfl
            have z5 : wm.cell? ⟨w.heap.size, 5, none⟩ = some (.slice sF.d.A1 xF.data.host.length sF.d.c1) := (STm.out.R.cell 5).trans rfl
            have z6 : wm.cell? ⟨w.heap.size, 6, none⟩ = some (.slice sF.d.A2 xF.data.mail.length sF.d.c2) := (STm.out.R.cell 6).trans rfl
            have z7 : wm.cell? ⟨w.heap.size, 7, none⟩ = some (.slice sF.d.A3 xF.data.nums.length sF.d.c3) := (STm.out.R.cell 7).trans rfl
            have z8 : wm.cell? ⟨w.heap.size, 8, none⟩ = some (.slice sF.d.A4 xF.data.texts.length sF.d.c4) := (STm.out.R.cell 8).trans rfl
            refine bodyPost_ret (v := .tuple #[.agg #[.slice sF.A xF.name.length sF.c, .int .i64 xF.type, .int .i64 xF.cls, .int .i64 xF.ttl, .slice sF.d.A0 xF.data.bytes.length sF.d.c0, .slice sF.d.A1 xF.data.host.length sF.d.c1, .slice sF.d.A2 xF.data.mail.length sF.d.c2, .slice sF.d.A3 xF.data.nums.length sF.d.c3, .slice sF.d.A4 xF.data.texts.length sF.d.c4], .int .i64 ((p : Int) + 10 + (Z : Int)), .int .i64 0]) ?_ rfl ⟨_, rfl, ?_, STm.out.bw⟩
            · simp [results, Try.results66, go_sem, z0, z1, z2, z3, z4, z5, z6, z7, z8]
            · unfold goodRR
              rw [HEQ.out]
              exact ⟨sF, rfl, STm.out.G.base_le (Nat.le_succ _)⟩
          · skip
            have HEQ : Hid (getRR bs a = (RR.zero, 0, f)) := by show _ = _; rw [hR2.out, if_pos hf]
            have yf := ST8.out.R.free
            have u0 := ST8.out.R.cell 0
            have u1 := ST8.out.R.cell 1
            have u2 := ST8.out.R.cell 2
            have u3 := ST8.out.R.cell 3
            have u4 := ST8.out.R.cell 4
            have u5 := ST8.out.R.cell 5
            have u6 := ST8.out.R.cell 6
            have u7 := ST8.out.R.cell 7
            have u8 := ST8.out.R.cell 8
            simp only [rrCells, List.getElem?_toArray, List.getElem?_cons_zero, List.getElem?_cons_succ] at u0 u1 u2 u3 u4 u5 u6 u7 u8
            go_wp2
            obtain ⟨wm, hwm⟩ : ∃ u, u = (((((((((w8.setCell ⟨w.heap.size, 0, none⟩ (.slice none 0 0)).setCell ⟨w.heap.size, 1, none⟩ (.int .i64 0)).setCell ⟨w.heap.size, 2, none⟩ (.int .i64 0)).setCell ⟨w.heap.size, 3, none⟩ (.int .i64 0)).setCell ⟨w.heap.size, 4, none⟩ (.slice none 0 0)).setCell ⟨w.heap.size, 5, none⟩ (.slice none 0 0)).setCell ⟨w.heap.size, 6, none⟩ (.slice none 0 0)).setCell ⟨w.heap.size, 7, none⟩ (.slice none 0 0)).setCell ⟨w.heap.size, 8, none⟩ (.slice none 0 0)) := ⟨_, rfl⟩
            have STm : Hid (RgSt w wm RS.nil RR.zero) := by show RgSt _ _ _ _; rw [hwm]; exact ST8.out.nine (s' := RS.nil) (x' := RR.zero) (RGot.nil _ _)
            rw [← hwm]
            clear hwm yf u0 u1 u2 u3 u4 u5 u6 u7 u8
            have z0 : wm.cell? ⟨w.heap.size, 0, none⟩ = some (.slice none 0 0) := (STm.out.R.cell 0).trans rfl
            have z1 : wm.cell? ⟨w.heap.size, 1, none⟩ = some (.int .i64 0) := (STm.out.R.cell 1).trans rfl
            have z2 : wm.cell? ⟨w.heap.size, 2, none⟩ = some (.int .i64 0) := (STm.out.R.cell 2).trans rfl
            have z3 : wm.cell? ⟨w.heap.size, 3, none⟩ = some (.int .i64 0) := (STm.out.R.cell 3).trans rfl
            have z4 : wm.cell? ⟨w.heap.size, 4, none⟩ = some (.slice none 0 0) := (STm.out.R.cell 4).trans rfl
            have z5 : wm.cell? ⟨w.heap.size, 5, none⟩ = some (.slice none 0 0) := (STm.out.R.cell 5).trans rfl
            have z6 : wm.cell? ⟨w.heap.size, 6, none⟩ = some (.slice none 0 0) := (STm.out.R.cell 6).trans rfl
            have z7 : wm.cell? ⟨w.heap.size, 7, none⟩ = some (.slice none 0 0) := (STm.out.R.cell 7).trans rfl
            have z8 : wm.cell? ⟨w.heap.size, 8, none⟩ = some (.slice none 0 0) := (STm.out.R.cell 8).trans rfl
            refine bodyPost_ret (v := .tuple #[.agg #[.slice none 0 0, .int .i64 0, .int .i64 0, .int .i64 0, .slice none 0 0, .slice none 0 0, .slice none 0 0, .slice none 0 0, .slice none 0 0], .int .i64 0, .int .i64 (f)]) ?_ rfl ⟨_, rfl, ?_, STm.out.bw⟩
            · simp [results, Try.results66, go_sem, z0, z1, z2, z3, z4, z5, z6, z7, z8]
            · unfold goodRR
              rw [HEQ.out]
              exact ⟨RS.nil, rfl, STm.out.G.base_le (Nat.le_succ _)⟩
  · have hE : getRR bs a = (RR.zero, 0, er) := by unfold getRR; rw [HG.out, if_pos he]
    have HE0 := Lib.hid hE
    clear hE
    have HEQ : Hid (getRR bs a = (RR.zero, 0, er)) := by show _ = _; exact HE0.out
    have yf := ST2.out.R.free
    have u0 := ST2.out.R.cell 0
    have u1 := ST2.out.R.cell 1
    have u2 := ST2.out.R.cell 2
    have u3 := ST2.out.R.cell 3
    have u4 := ST2.out.R.cell 4
    have u5 := ST2.out.R.cell 5
    have u6 := ST2.out.R.cell 6
    have u7 := ST2.out.R.cell 7
    have u8 := ST2.out.R.cell 8
    simp only [rrCells, List.getElem?_toArray, List.getElem?_cons_zero, List.getElem?_cons_succ] at u0 u1 u2 u3 u4 u5 u6 u7 u8
    go_wp2
    obtain ⟨wm, hwm⟩ : ∃ u, u = (((((((((w2.setCell ⟨w.heap.size, 0, none⟩ (.slice none 0 0)).setCell ⟨w.heap.size, 1, none⟩ (.int .i64 0)).setCell ⟨w.heap.size, 2, none⟩ (.int .i64 0)).setCell ⟨w.heap.size, 3, none⟩ (.int .i64 0)).setCell ⟨w.heap.size, 4, none⟩ (.slice none 0 0)).setCell ⟨w.heap.size, 5, none⟩ (.slice none 0 0)).setCell ⟨w.heap.size, 6, none⟩ (.slice none 0 0)).setCell ⟨w.heap.size, 7, none⟩ (.slice none 0 0)).setCell ⟨w.heap.size, 8, none⟩ (.slice none 0 0)) := ⟨_, rfl⟩
    have STm : Hid (RgSt w wm RS.nil RR.zero) := by show RgSt _ _ _ _; rw [hwm]; exact ST2.out.nine (s' := RS.nil) (x' := RR.zero) (RGot.nil _ _)
    rw [← hwm]
    clear hwm yf u0 u1 u2 u3 u4 u5 u6 u7 u8
    have z0 : wm.cell? ⟨w.heap.size, 0, none⟩ = some (.slice none 0 0) := (STm.out.R.cell 0).trans rfl
    have z1 : wm.cell? ⟨w.heap.size, 1, none⟩ = some (.int .i64 0) := (STm.out.R.cell 1).trans rfl
    have z2 : wm.cell? ⟨w.heap.size, 2, none⟩ = some (.int .i64 0) := (STm.out.R.cell 2).trans rfl
    have z3 : wm.cell? ⟨w.heap.size, 3, none⟩ = some (.int .i64 0) := (STm.out.R.cell 3).trans rfl
    have z4 : wm.cell? ⟨w.heap.size, 4, none⟩ = some (.slice none 0 0) := (STm.out.R.cell 4).trans rfl
    have z5 : wm.cell? ⟨w.heap.size, 5, none⟩ = some (.slice none 0 0) := (STm.out.R.cell 5).trans rfl
    have z6 : wm.cell? ⟨w.heap.size, 6, none⟩ = some (.slice none 0 0) := (STm.out.R.cell 6).trans rfl
    have z7 : wm.cell? ⟨w.heap.size, 7, none⟩ = some (.slice none 0 0) := (STm.out.R.cell 7).trans rfl
    have z8 : wm.cell? ⟨w.heap.size, 8, none⟩ = some (.slice none 0 0) := (STm.out.R.cell 8).trans rfl
    refine bodyPost_ret (v := .tuple #[.agg #[.slice none 0 0, .int .i64 0, .int .i64 0, .int .i64 0, .slice none 0 0, .slice none 0 0, .slice none 0 0, .slice none 0 0, .slice none 0 0], .int .i64 0, .int .i64 (er)]) ?_ rfl ⟨_, rfl, ?_, STm.out.bw⟩
    · simp [results, Try.results66, go_sem, z0, z1, z2, z3, z4, z5, z6, z7, z8]
    · unfold goodRR
      rw [HEQ.out]
      exact ⟨RS.nil, rfl, STm.out.G.base_le (Nat.le_succ _)⟩
end Go.Proofs.Ytbjaphldncagjaa

/- gazetteerlaw05: own, answers. -/
namespace Go.Proofs.Ytbjaphldncagjaa
open Go.RowKit
set_option maxRecDepth 100000

theorem RCells.row {w : World} {b p : Nat} {s s' : RS} {x x' : RR} (h1 : RCells w b p s x) (h2 : RCells w b p s' x') : rrCells s x = rrCells s' x' := by
  obtain ⟨a0, a1, a2, a3, a4, a5, a6, a7, a8⟩ := h1
  obtain ⟨b0, b1, b2, b3, b4, b5, b6, b7, b8⟩ := h2
  unfold rrCells
  rw [a0] at b0; rw [a1] at b1; rw [a2] at b2; rw [a3] at b3; rw [a4] at b4; rw [a5] at b5; rw [a6] at b6; rw [a7] at b7; rw [a8] at b8
  injection b0 with b0; injection b1 with b1; injection b2 with b2; injection b3 with b3; injection b4 with b4; injection b5 with b5; injection b6 with b6; injection b7 with b7; injection b8 with b8
  rw [b0, b1, b2, b3, b4, b5, b6, b7, b8]
/-- A row of one record. -/
theorem one_rr {S : Nat → Prop} {w : World} {s : RS} {r : RR} (h : RIn S w s r) (hS : ∀ b, S b → b < w.heap.size) : RdE encRR (w.alloc (.cells (rrCells s r) 48)) (some ⟨w.heap.size, 0, none⟩) 1 [r] := by
  have hb : Below w.heap.size w (w.alloc (.cells (rrCells s r) 48)) := bl.alloc (Nat.le_refl _) _
  refine ⟨rfl, fun _ => ⟨w.heap.size, 0, rfl, by simp [ltS], fun i x hx => ?_⟩⟩
  match i, hx with
  | 0, hx =>
    injection hx with hx
    subst hx
    refine ⟨(rrCells s r).toList, ⟨s, rfl, (h.below hb hS).mono (fun b hb' => Nat.lt_of_lt_of_le (hS b hb') hb.size)⟩, fun j u hu => ?_⟩
    have := new_cell w (rrCells s r) 48 j
    rw [Nat.zero_mul, Nat.zero_add, Nat.zero_add]
    rw [this]
    simpa using hu

set_option maxHeartbeats 4000000 in
theorem own05_any (s : RS) (r : RR) (w : World) {S : Nat → Prop} (h : RIn S w s r) (hS : ∀ b, S b → b < w.heap.size) (hL : Light9 r) :
    Calls Try.prog 62 #[rrV s r] w (RetP (fun v w' => ∃ s', v = rrV s' r ∧ RIn (geS w.heap.size w') w' s' r) w) := by
  obtain ⟨w1, hw1⟩ : ∃ w1, w1 = w.alloc (.cells (rrCells s r) 48) := ⟨_, rfl⟩
  obtain ⟨w2, hw2⟩ : ∃ w2, w2 = w1.alloc (.cells (rrCells RS.nil RR.zero) 48) := ⟨_, rfl⟩
  have hb1 : Below w.heap.size w w1 := by rw [hw1]; exact bl.alloc (Nat.le_refl _) _
  have hb2 : Below w1.heap.size w1 w2 := by rw [hw2]; exact bl.alloc (Nat.le_refl _) _
  have hz1 : w1.heap.size = w.heap.size + 1 := by rw [hw1]; simp
  have hz2 : w2.heap.size = w.heap.size + 2 := by rw [hw2]; simp; omega
  have hR1 : RRow w2 w.heap.size s r := by have h : RRow w1 w.heap.size s r := by rw [hw1]; exact heap_alloc_new w _
                                           exact h.below hb2
  have hR2 : RRow w2 w1.heap.size RS.nil RR.zero := by rw [hw2]; exact heap_alloc_new w1 _
  have hI2 : RIn S w2 s r := (h.below hb1 hS).below hb2 (fun b hb => Nat.lt_of_lt_of_le (hS b hb) hb1.size)
  have hS2 : ∀ b, S b → b < w2.heap.size := fun b hb => by have := hS b hb; omega
  obtain ⟨w3, hw3⟩ : ∃ w3, w3 = w2.alloc (.cells (rrCells s r) 48) := ⟨_, rfl⟩
  have hb3 : Below w2.heap.size w2 w3 := by rw [hw3]; exact bl.alloc (Nat.le_refl _) _
  have hrd : RdE encRR w3 (some ⟨w2.heap.size, 0, none⟩) 1 [r] := by rw [hw3]; exact one_rr hI2 hS2
  have HRD := Lib.hid hrd
  have HR2 := Lib.hid (hR2.below hb3)
  have HBW3 : Hid (Below w.heap.size w w3) := nx (nx hb1 hb2) hb3
  have HL := Lib.hid hL
  have HZ : Hid (w1.heap.size = w.heap.size + 1 ∧ w2.heap.size = w.heap.size + 2 ∧ w3.heap.size = w.heap.size + 3) := ⟨hz1, hz2, by rw [hw3]; simp; omega⟩
  obtain ⟨x0, x1, x2, x3, x4, x5, x6, x7, x8⟩ := hR1.cells
  unfold rrV
  unfold rrCells at hw1 hw2 hw3 ⊢
  simp only [RS.nil, RR.zero, DS.nil, Da.zero, List.length_nil] at hw2
  clear h hS hL hb1 hb2 hz1 hz2 hR1 hR2 hI2 hS2 hb3 hrd
  go_enter Try.func62, Try.ntmps62
  go_upto_region 1 with (fail)
  rw [← hw1, ← hw2]
  clear hw1 hw2
  go_wp2_with fail
  rw [← hw3]
  clear hw3
  refine (ownRRs_any _ 1 1 [r] w3 HRD.out (by decide) (fun x hx => by rw [List.mem_singleton.1 hx]; exact HL.out)).mono ?_
  rintro e w4 ⟨v4, rfl, hnew, hb4⟩
  obtain ⟨A4, c4, rfl, hel, hc1, hc2⟩ := hnew.rd
  obtain ⟨b, off, s4, rfl, hgb, hri, hrc⟩ := rr_at hel (k := 0) (r := r) rfl
  rw [Nat.zero_mul, Nat.add_zero] at hrc
  rw [show [r].length = 1 from rfl] at hc1 ⊢
  have hR4 := HR2.out.below hb4
  rw [HZ.out.1] at hR4
  obtain ⟨d0, d1, d2, d3, d4, d5, d6, d7, d8⟩ := hrc
  obtain ⟨y0, y1, y2, y3, y4, y5, y6, y7, y8⟩ := hR4.cells
  have f0 := hR4.free 0
  have f1 := hR4.free 1
  have f2 := hR4.free 2
  have f3 := hR4.free 3
  have f4 := hR4.free 4
  have f5 := hR4.free 5
  have f6 := hR4.free 6
  have f7 := hR4.free 7
  have f8 := hR4.free 8
  have HR4 := Lib.hid hR4
  have HRI := Lib.hid hri
  have HB4 := Lib.hid (nx HBW3.out hb4)
  have HS4 : Hid (w.heap.size + 3 ≤ w4.heap.size) := by show _ ≤ _; rw [← HZ.out.2.2]; exact hb4.size
  simp only [RS.nil, RR.zero, DS.nil, Da.zero, List.length_nil] at y0 y1 y2 y3 y4 y5 y6 y7 y8
  clear hR4 hri hb4 hel hnew hgb x0 x1 x2 x3 x4 x5 x6 x7 x8
  go_wp2
  obtain ⟨wm, hwm⟩ : ∃ u, u = put9 w4 (w.heap.size + 1) (.slice s4.A r.name.length s4.c) (.int .i64 r.type) (.int .i64 r.cls) (.int .i64 r.ttl) (.slice s4.d.A0 r.data.bytes.length s4.d.c0) (.slice s4.d.A1 r.data.host.length s4.d.c1) (.slice s4.d.A2 r.data.mail.length s4.d.c2) (.slice s4.d.A3 r.data.nums.length s4.d.c3) (.slice s4.d.A4 r.data.texts.length s4.d.c4) := ⟨_, rfl⟩
  have hRm : RRow wm (w.heap.size + 1) s4 r := by rw [hwm]; exact set9 HR4.out _ _ _ _ _ _ _ _ _
  have hcm : Chg (fun z => z = w.heap.size + 1) w4 wm := by
    rw [hwm]
    have k : ∀ {u : World} (j : Nat) (v : Value), Chg (fun k => k = w.heap.size + 1) w4 u → Chg (fun k => k = w.heap.size + 1) w4 (u.setCell ⟨w.heap.size + 1, j, none⟩ v) := fun j v h => h.setCell (p := ⟨w.heap.size + 1, j, none⟩) (Or.inl rfl) v
    unfold put9
    exact k 8 _ (k 7 _ (k 6 _ (k 5 _ (k 4 _ (k 3 _ (k 2 _ (k 1 _ (k 0 _ (Chg.refl _ w4)))))))))
  unfold put9 at hwm
  rw [← hwm]
  obtain ⟨z0, z1, z2, z3, z4, z5, z6, z7, z8⟩ := hRm.cells
  have hs4 := HS4.out
  have hz := HZ.out
  refine bodyPost_ret (v := rrV s4 r) ?_ rfl ⟨_, rfl, ⟨s4, rfl, ?_⟩, HB4.out.trans (hcm.below (fun z hz => by omega) (by omega))⟩
  · simp [results, Try.results62, go_sem, z0, z1, z2, z3, z4, z5, z6, z7, z8]
    rfl
  · have hsm := hcm.size
    exact (HRI.out.keep (fun b hb => hcm.block b hb.2 (fun e => by have := hb.1; omega))).mono (fun b hb => ⟨by have := hb.1; omega, by have := hb.2; omega⟩)
end Go.Proofs.Ytbjaphldncagjaa

/- gazetteerlaw05: what the law asks of a program that does something. -/
namespace Go.Proofs.Ytbjaphldncagjaa
open Go.RowKit
set_option maxRecDepth 100000

def bs15 : List UInt8 := [0, 0, 1, 0, 1, 0, 0, 0, 5, 0, 4, 1, 2, 3, 4]
theorem getRR_15 : getRR bs15 0 = (⟨[], 1, 1, 5, { Da.zero with bytes := [1, 2, 3, 4] }⟩, 15, 0) := by
  have hn : nameA bs15 0 = ([], 1, 0) := by
    unfold nameA
    rw [if_neg (by decide)]
    have := getP_end (b := bs15) (at_ := 0) (beg := 0) (nx := 0) (ls := []) (c := 0) rfl rfl
    exact this
  have hd : getD bs15 ((11 : Nat) : Int) ((4 : Nat) : Int) ((1 : Nat) : Int) = ({ Da.zero with bytes := [1, 2, 3, 4] }, 0) := by
    unfold getD
    rw [if_neg (by decide), if_neg (by decide)]
    rfl
  have h1 : numA bs15 1 2 = 1 := by decide
  have h2 : numA bs15 3 2 = 1 := by decide
  have h3 : ttlA bs15 1 = 5 := by decide
  have h4 : numA bs15 9 2 = 4 := by decide
  unfold getRR
  rw [hn]
  simp only [ne_eq, not_true_eq_false, if_false]
  rw [show (1 : Int).toNat = 1 from rfl]
  unfold getRR1
  rw [show 1 + 10 = 11 from rfl, show 1 + 8 = 9 from rfl, show 1 + 2 = 3 from rfl, h1, h2, h3, h4, hd, if_neg (by decide), if_neg (by decide), if_neg (by simp)]
  rfl

set_option maxHeartbeats 2000000 in
theorem answers05_any (w : World) : Calls Try.prog 35 #[] w (LawT w) := by
  obtain ⟨w1, hw1⟩ : ∃ w1, w1 = w.alloc (.cells #[.int .u8 0, .int .u8 0, .int .u8 1, .int .u8 0, .int .u8 1, .int .u8 0, .int .u8 0, .int .u8 0, .int .u8 5, .int .u8 0, .int .u8 4, .int .u8 1, .int .u8 2, .int .u8 3, .int .u8 4] 5) := ⟨_, rfl⟩
  have hb1 : Below w.heap.size w w1 := by rw [hw1]; exact bl.alloc (Nat.le_refl _) _
  have hr1 : RdB w1 (some ⟨w.heap.size, 0, none⟩) 15 bs15 := by rw [hw1]; exact lit_rd w bs15 (by decide)
  have hlt : w.heap.size < w1.heap.size := by rw [hw1]; simp
  have hget := rrget_any w1 (some ⟨w.heap.size, 0, none⟩) 15 15 0 bs15 hr1 (fun b off e => by injection e with e; injection e with e; omega) (by decide) (by decide) (by decide)
  unfold goodRR at hget
  rw [getRR_15] at hget
  have HG := Lib.hid hget
  clear hget
  go_enter Try.func35, Try.ntmps35
  go_wp2_with fail
  rw [← hw1]
  clear hw1
  refine HG.out.mono ?_
  rintro e w2 ⟨v2, rfl, ⟨s, rfl, hgot⟩, hb2⟩
  unfold rrV rrCells
  clear HG hgot
  have hb12 := nx hb1 hb2
  go_upto_region 2 with (fail)
  obtain ⟨w3, hw3⟩ : ∃ w3, w3 = w2.alloc (.cells #[.slice s.A 0 s.c, .int .i64 1, .int .i64 1, .int .i64 5, .slice s.d.A0 4 s.d.c0, .slice s.d.A1 0 s.d.c1, .slice s.d.A2 0 s.d.c2, .slice s.d.A3 0 s.d.c3, .slice s.d.A4 0 s.d.c4] 48) := ⟨_, rfl⟩
  have hb3 : Below w2.heap.size w2 w3 := by rw [hw3]; exact bl.alloc (Nat.le_refl _) _
  have x1 : w3.cell? ⟨w2.heap.size, 1, none⟩ = some (.int .i64 1) := by rw [hw3]; exact new_cell _ _ _ 1
  have x3 : w3.cell? ⟨w2.heap.size, 3, none⟩ = some (.int .i64 5) := by rw [hw3]; exact new_cell _ _ _ 3
  change Code.wp _ _ _ _ (w2.alloc (.cells #[.slice s.A 0 s.c, .int .i64 1, .int .i64 1, .int .i64 5, .slice s.d.A0 4 s.d.c0, .slice s.d.A1 0 s.d.c1, .slice s.d.A2 0 s.d.c2, .slice s.d.A3 0 s.d.c3, .slice s.d.A4 0 s.d.c4] 48))
  rw [← hw3]
  clear hw3
  go_wp2
  go_ret
  exact ⟨rfl, nx hb12 hb3⟩
end Go.Proofs.Ytbjaphldncagjaa

/- gazetteerlaw05.light: are records not too large? -/
namespace Go.Proofs.Ytbjaphldncagjaa
open Go.RowKit
set_option maxRecDepth 100000

def Lt5 (r : RR) : Prop := r.name.length ≤ 200 ∧ r.data.host.length ≤ 200 ∧ r.data.mail.length ≤ 200 ∧ r.data.texts.length ≤ 100 ∧ r.data.nums.length ≤ 100 ∧ r.data.bytes.length ≤ 66000
instance (r : RR) : Decidable (Lt5 r) := by unfold Lt5; infer_instance
def LtL (xs : List RR) : Prop := (∀ r ∈ xs, Lt5 r) ∧ xs.length ≤ 60
instance (xs : List RR) : Decidable (LtL xs) := by unfold LtL; infer_instance
theorem Lt5.light9 {r : RR} (h : Lt5 r) : Light9 r := ⟨by have := h.1; omega, by have := h.2.2.2.2.2; omega, by have := h.2.1; omega, by have := h.2.2.1; omega, by have := h.2.2.2.2.1; omega, by have := h.2.2.2.1; omega⟩

set_option maxHeartbeats 4000000 in
theorem light05_any (A : Option Addr) (n c : Nat) (xs : List RR) (w : World) (h : RdE encRR w A n xs) (hn : n ≤ maxLen) :
    Calls Try.prog 36 #[.slice A n c] w (RetP (fun v _ => v = .bool (decide (LtL xs))) w) := by
  have hlt := Lib.hid h.len
  have H := Lib.hid h
  unfold maxLen at hn
  clear h
  go_enter Try.func36, Try.ntmps36
  go_wp2
  go_loopw [3] (fun i wr => ∃ k : Nat, i = .int .i64 k ∧ k ≤ n ∧ Hid (∀ j r, j < k → xs[j]? = some r → Lt5 r) ∧ Hid (Below w.heap.size w wr)) (fun i _ => n - (intOf i).toNat)
  case atStart => exact ⟨0, rfl, Nat.zero_le _, fun j r hj => absurd hj (Nat.not_lt_zero _), bl⟩
  case round =>
    obtain ⟨k, rfl, hk, HD, HBW⟩ := hrel
    by_cases hlt' : k < n
    · obtain ⟨r, hr⟩ : ∃ r, xs[k]? = some r := ⟨_, List.getElem?_eq_getElem (by rw [hlt.out]; exact hlt')⟩
      obtain ⟨b, off, s, rfl, hb0, hri, hrc⟩ := rr_at H.out hr
      have hrm := List.mem_of_getElem? hr
      have HRM := Lib.hid hrm
      have HTK := Lib.hid hr
      have hbx : Below wr.heap.size wr (wr.alloc (.cells #[.slice s.d.A0 r.data.bytes.length s.d.c0, .slice s.d.A1 r.data.host.length s.d.c1, .slice s.d.A2 r.data.mail.length s.d.c2, .slice s.d.A3 r.data.nums.length s.d.c3, .slice s.d.A4 r.data.texts.length s.d.c4] 46)) := bl.alloc (Nat.le_refl _) _
      have hrc1 := hrc.below HBW.out
      have hrc2 := hrc1.below hbx
      obtain ⟨d0, d1, d2, d3, d4, d5, d6, d7, d8⟩ := hrc1
      obtain ⟨e0, e1, e2, e3, e4, e5, e6, e7, e8⟩ := hrc2
      have HBX := Lib.hid (nx HBW.out hbx)
      clear hr hri hrc hrm hb0 hbx
      by_cases t0 : (200 : Int) < (r.name.length : Int)
      · go_wp2
        go_ret
        exact ⟨_, rfl, by show Value.bool _ = Value.bool _; rw [decide_eq_false (fun hh : LtL xs => by have := (hh.1 r HRM.out).1; omega)], HBX.out⟩
      · skip
        by_cases t1 : (200 : Int) < (r.data.host.length : Int)
        · go_wp2
          go_ret
          exact ⟨_, rfl, by show Value.bool _ = Value.bool _; rw [decide_eq_false (fun hh : LtL xs => by have := (hh.1 r HRM.out).2.1; omega)], HBX.out⟩
        · skip
          by_cases t2 : (200 : Int) < (r.data.mail.length : Int)
          · go_wp2
            go_ret
            exact ⟨_, rfl, by show Value.bool _ = Value.bool _; rw [decide_eq_false (fun hh : LtL xs => by have := (hh.1 r HRM.out).2.2.1; omega)], HBX.out⟩
          · skip
            by_cases t3 : (100 : Int) < (r.data.texts.length : Int)
            · go_wp2
              go_ret
              exact ⟨_, rfl, by show Value.bool _ = Value.bool _; rw [decide_eq_false (fun hh : LtL xs => by have := (hh.1 r HRM.out).2.2.2.1; omega)], HBX.out⟩
            · skip
              by_cases t4 : (100 : Int) < (r.data.nums.length : Int)
              · go_wp2
                go_ret
                exact ⟨_, rfl, by show Value.bool _ = Value.bool _; rw [decide_eq_false (fun hh : LtL xs => by have := (hh.1 r HRM.out).2.2.2.2.1; omega)], HBX.out⟩
              · skip
                by_cases t5 : (66000 : Int) < (r.data.bytes.length : Int)
                · go_wp2
                  go_ret
                  exact ⟨_, rfl, by show Value.bool _ = Value.bool _; rw [decide_eq_false (fun hh : LtL xs => by have := (hh.1 r HRM.out).2.2.2.2.2; omega)], HBX.out⟩
                · go_wp2
                  go_roundw
                  case rel =>
                    refine ⟨k + 1, by go_num, by omega, ?_, HBX.out⟩
                    intro j r2 hj hr2
                    by_cases hjk : j < k
                    · exact HD.out j r2 hjk hr2
                    · obtain rfl : j = k := by omega
                      have e := HTK.out
                      rw [hr2] at e
                      injection e with e
                      subst e
                      exact ⟨by omega, by omega, by omega, by omega, by omega, by omega⟩
                  case measure => simp [intOf]; omega
    · have hkn : k = n := by omega
      have hall : ∀ r ∈ xs, Lt5 r := fun r hr => by
        obtain ⟨j, hj⟩ := List.mem_iff_getElem?.1 hr
        exact HD.out j r (by rw [hkn, ← hlt.out]; exact (List.getElem?_eq_some_iff.1 hj).1) hj
      have HALL := Lib.hid hall
      clear hall
      go_wp2
      go_ret
      refine ⟨_, rfl, ?_, HBW.out⟩
      show Value.bool _ = Value.bool _
      congr 1
      have hle := hlt.out
      rw [Bool.eq_iff_iff, decide_eq_true_iff, decide_eq_true_iff]
      constructor
      · intro h0; exact ⟨HALL.out, by omega⟩
      · intro h0; have := h0.2; omega
end Go.Proofs.Ytbjaphldncagjaa

/- RrWrites: the law's walk. -/
namespace Go.Proofs.Ytbjaphldncagjaa
open Go.RowKit
set_option maxRecDepth 100000

theorem RW.data_rests (y : RW) {k : Int} {d : Da} (hf : FineS (shapeP k) d) : (y.data (shapeP k) d).rests.length ≤ y.rests.length + 510 := by
  obtain ⟨_, _, _, hh, hm, _, _⟩ := hf
  have nm : ∀ (y2 : RW) (n : List (List UInt8)) (b s : Bool), hostP b n → (if b = true then y2.name n s else y2).rests.length ≤ y2.rests.length + 255 := by
    intro y2 n b s h
    unfold hostP at h
    split
    · rename_i e
      rw [if_pos e] at h
      have h1 := RW.name_rests (x := y2) n s
      have h2 := sizeN_length n
      have h3 := h.2
      omega
    · omega
  have nu : ∀ (y2 : RW) (b : Bool), (if b = true then y2.nums d.nums (shapeP k).size else y2).rests = y2.rests := by
    intro y2 b
    split
    · exact (y2.nums_len d.nums _).2
    · rfl
  have nu2 : ∀ (y2 : RW) (b : Bool), (if b = true then y2 else y2.nums d.nums (shapeP k).size).rests = y2.rests := by
    intro y2 b
    split
    · rfl
    · exact (y2.nums_len d.nums _).2
  have ht : ((y.raw d.bytes).texts d.texts).rests = y.rests := by
    have h := snoc_ind (P := fun ts => ((y.raw d.bytes).texts ts).rests = y.rests) rfl (fun ts t ih => by rw [RW.texts_snoc]; exact ih) d.texts
    exact h
  unfold RW.data
  simp only
  rw [nu2]
  have h4 := nm (if (shapeP k).host = true then (if (shapeP k).first = true then ((y.raw d.bytes).texts d.texts).nums d.nums (shapeP k).size else (y.raw d.bytes).texts d.texts).name d.host (shapeP k).short else if (shapeP k).first = true then ((y.raw d.bytes).texts d.texts).nums d.nums (shapeP k).size else (y.raw d.bytes).texts d.texts) d.mail (shapeP k).mail (shapeP k).short hm
  have h3 := nm (if (shapeP k).first = true then ((y.raw d.bytes).texts d.texts).nums d.nums (shapeP k).size else (y.raw d.bytes).texts d.texts) d.host (shapeP k).host (shapeP k).short hh
  rw [nu, ht] at h3
  omega
theorem RW.rr_rests (y : RW) {r : RR} (hf : FineR r) : (y.rr r).rests.length ≤ y.rests.length + 765 := by
  have h1 := RW.data_rests ((y.rrHead r).raw (putB [] 0 2)) hf.2.1.2
  have h2 := RW.name_rests (x := y) r.name true
  have h3 := sizeN_length r.name
  have h4 := hf.1.2
  have h5 : (y.rr r).rests = (((y.rrHead r).raw (putB [] 0 2)).data (shapeP r.type) r.data).rests := rfl
  have h6 : ((y.rrHead r).raw (putB [] 0 2)).rests = (y.name r.name true).rests := rfl
  rw [h6] at h1
  rw [h5]
  omega
/-- Where the walk stands behind some records. -/
def WriR (w wr : World) (g l : Nat) (k : Nat) : Prop := ∃ F G x y, PairSt w wr g l F G x y ∧ Alike x y ∧ y.Fine ∧ y.b.length ≤ 166000 ∧ x.rests.length ≤ 800 * k ∧ y.rests.length ≤ 800 * k
theorem WriR.nx {w wr w' : World} {g l k : Nat} (h : WriR w wr g l k) (hb : Below wr.heap.size wr w') : WriR w w' g l k := by
  obtain ⟨F, G, x, y, h1, h2⟩ := h
  exact ⟨F, G, x, y, h1.nx hb, h2⟩
theorem WriR.bw {w wr : World} {g l k : Nat} (h : WriR w wr g l k) : Below w.heap.size w wr := by
  obtain ⟨F, G, x, y, h1, h2⟩ := h
  exact h1.bw
theorem rrPut_nil99 (w : World) :
    Calls Try.prog 61 #[.pointer none, .agg #[.slice none 0 0, .int .i64 99, .int .i64 0, .int .i64 0, .slice none 0 0, .slice none 0 0, .slice none 0 0, .slice none 0 0, .slice none 0 0]] w (RetP (fun v _ => v = .int .i64 2) w) :=
  rrPut_nil w RS.nil ⟨[], 99, 0, 0, Da.zero⟩
theorem Lt5.bd {r : RR} (h : Lt5 r) : r.name.length ≤ 1000000000 ∧ r.data.host.length ≤ 1000000000 ∧ r.data.mail.length ≤ 1000000000 ∧ r.data.nums.length ≤ 1000000000 ∧ r.data.texts.length ≤ 1000000000 :=
  ⟨by have := h.1; omega, by have := h.2.1; omega, by have := h.2.2.1; omega, by have := h.2.2.2.2.1; omega, by have := h.2.2.2.1; omega⟩

set_option maxHeartbeats 8000000 in
theorem rrWrites_ok (A : Option Addr) (c : Nat) (xs : List RR) (w : World) (h : RdE encRR w A xs.length xs) (hl : LtL xs) :
    Calls Try.prog 13 #[.slice A xs.length c] w (LawT w) := by
  have H := Lib.hid h
  have HL := Lib.hid hl
  have HLD := Lib.hid (decide_eq_true hl)
  have h60 := hl.2
  clear h hl
  go_enter Try.func13, Try.ntmps13
  go_upto_region 3 with (first
    | (go_at_call 36; refine (light05_any A _ c xs w2 (H.out.below hb2) (by unfold maxLen; omega)).mono ?_; rw [HLD.out]; rintro e w3 ⟨v3, rfl, rfl, hb3⟩)
    | (go_at_call 35; refine (answers05_any w).mono ?_; rintro e w2 ⟨rfl, hb2⟩)
    | fail)
  have HB13 := Lib.hid (nx hb2 hb3)
  clear hb2 hb3
  go_upto_region 4 with (first
    | (go_at_call 48; refine (wnew_any w3).mono ?_; rintro e w4 ⟨g, F, rfl, hw4, hb4⟩; have HW4 := Lib.hid hw4; have HB14 := Lib.hid (nx HB13.out hb4); clear hw4 hb4)
    | fail)
  obtain ⟨w5, hw5⟩ : ∃ w5, w5 = w4.alloc (.cells #[.slice none 0 0, .slice none 0 0] 86) := ⟨_, rfl⟩
  have HS5 : Hid (WriR w w5 g w4.heap.size 0) := by
    have hb5 : Below w4.heap.size w4 w5 := by rw [hw5]; exact bl.alloc (Nat.le_refl _) _
    have hm : RWtr w5 w4.heap.size (fun k => k = w4.heap.size) w4.heap.size RW.nil := by rw [hw5]; exact RWtr.made w4
    exact ⟨F, fun k => k = w4.heap.size, Wr.nil, RW.nil, ⟨(HW4.out.below hb5).base_le HB13.out.size, hm.base_le HB14.out.size, fun b hf hg => by have h1 := (HW4.out.F_lt b hf).2; have h2 : b = w4.heap.size := hg; omega, nx HB14.out hb5⟩, alike_nil, RW.fine_nil, Nat.zero_le _, Nat.le_refl _, Nat.le_refl _⟩
  rw [← hw5]
  clear hw5 HW4 HB14 HB13
  generalize w4.heap.size = l at HS5 ⊢
  go_wp2_with fail
  go_loopw [5] (fun iv wr => ∃ j : Nat, iv = .int .i64 j ∧ j ≤ xs.length ∧ Hid (WriR w wr g l j)) (fun iv _ => xs.length - (intOf iv).toNat)
  case atStart => exact ⟨0, rfl, Nat.zero_le _, HS5⟩
  case round =>
    clear HS5
    obtain ⟨j, rfl, hj, HS⟩ := hrel
    obtain ⟨F, G, x, y, HP, HAL, HFY, hy1, hr1, hr2⟩ := HS.out
    have hxy : x.b.length = y.b.length := by rw [HAL.1]
    obtain ⟨Ay, cy, z0, hzr, hzc, hzm⟩ := HP.bytes
    have HZR := Lib.hid hzr
    have HPP := Lib.hid HP
    have HALL := Lib.hid HAL
    have HFF := Lib.hid HFY
    have HXL : Hid (x.b.length ≤ 166000 ∧ y.b.length ≤ 166000 ∧ x.rests.length ≤ 800 * j ∧ y.rests.length ≤ 800 * j ∧ j ≤ 60) := ⟨by omega, hy1, hr1, hr2, by omega⟩
    clear HP HAL HFY hzr hxy hr1 hr2
    by_cases hgo : j < xs.length ∧ y.b.length < 100000
    · obtain ⟨hlt, hbl'⟩ := hgo
      have hbl : (y.b.length : Int) < 100000 := by omega
      have hltI : (j : Int) < (xs.length : Int) := by omega
      clear hbl' hy1
      obtain ⟨r, hr⟩ : ∃ r, xs[j]? = some r := ⟨_, List.getElem?_eq_getElem hlt⟩
      have HLR := Lib.hid (HL.out.1 r (List.mem_of_getElem? hr))
      obtain ⟨b, off, s, hA, hb0, hri, hrc⟩ := rr_at H.out hr
      have HRC := Lib.hid hrc
      have HRI := Lib.hid hri
      have HA := Lib.hid hA
      rw [hA]
      obtain ⟨d0, d1, d2, d3, d4, d5, d6, d7, d8⟩ := hrc.below HPP.out.bw
      have HSW : Hid (∀ b, ltS w b → b < w.heap.size) := fun b hb => hb
      clear hr hri hrc hA hb0
      by_cases hf : FineR r
      · have HFR := Lib.hid hf
        have HFB := Lib.hid (fineRB_true hf)
        clear hf
        go_upto_region 8 with (first
          | (go_at_call 61; refine (rrPut_any w6 w.heap.size g F x s6 r (geS wr.heap.size w6) HFR.out HP6.out.W HI6.out (fun b hb => ⟨hb.2, fun hf => by have h1 := hb.1; have h2 := HPP.out.F_lt b (.inl hf); omega⟩) (by have := HXL.out; omega) (by have := HXL.out; omega)).mono ?_; rintro e w7 ⟨rfl, F7, h7, hc7, hF7⟩; have HP7 := Lib.hid (HP6.out.stepW h7 hc7 hF7); clear h7 hc7 hF7)
          | (go_at_call 62; refine (own05_any s r wr (HRI.out.below HPP.out.bw HSW.out) (fun b hb => Nat.lt_of_lt_of_le (HSW.out b hb) HPP.out.bw.size) HLR.out.light9).mono ?_; rintro e w6 ⟨v6, rfl, ⟨s6, rfl, hi6⟩, hb6⟩; have HI6 := Lib.hid hi6; have HP6 := Lib.hid (HPP.out.nx hb6); clear hi6 hb6)
          | fail)
        clear d0 d1 d2 d3 d4 d5 d6 d7 d8 HI6 HP6
        obtain ⟨d0, d1, d2, d3, d4, d5, d6, d7, d8⟩ := HRC.out.below HP7.out.bw
        go_upto_region 9 with (first
          | (go_at_call 63; refine (rSound_any s r w7 (HRI.out.below HP7.out.bw HSW.out) (fun b hb => Nat.lt_of_lt_of_le (HSW.out b hb) HP7.out.bw.size) HLR.out.bd.1 HLR.out.bd.2).mono ?_; rw [HFB.out]; rintro e w8 ⟨v8, rfl, rfl, hb8⟩; have HP8 := Lib.hid (HP7.out.nx hb8); clear hb8)
          | fail)
        clear d0 d1 d2 d3 d4 d5 d6 d7 d8
        obtain ⟨d0, d1, d2, d3, d4, d5, d6, d7, d8⟩ := HRC.out.below HP8.out.bw
        go_upto_region 12 with (first
          | (go_at_call 64; refine (rrSound_any s9 r w9 HI9.out (fun b hb => hb.2) HLR.out.bd.1 HLR.out.bd.2).mono ?_; rw [HFB.out]; rintro e w10 ⟨v10, rfl, rfl, hb10⟩; have HP10 := Lib.hid (HP9.out.nx hb10); clear hb10)
          | (go_at_call 62; refine (own05_any s r w8 (HRI.out.below HP8.out.bw HSW.out) (fun b hb => Nat.lt_of_lt_of_le (HSW.out b hb) HP8.out.bw.size) HLR.out.light9).mono ?_; rintro e w9 ⟨v9, rfl, ⟨s9, rfl, hi9⟩, hb9⟩; have HI9 := Lib.hid hi9; have HP9 := Lib.hid (HP8.out.nx hb9); clear hi9 hb9)
          | fail)
        clear d0 d1 d2 d3 d4 d5 d6 d7 d8
        obtain ⟨d0, d1, d2, d3, d4, d5, d6, d7, d8⟩ := HRC.out.below HP10.out.bw
        go_wp2_with (first
          | (go_at_call 65; refine (rputRR_any w10 w.heap.size l G x y s r (ltS w) HALL.out HFR.out HP10.out.L HFF.out (HRI.out.below HP10.out.bw HSW.out) (fun b hb => ⟨Nat.lt_of_lt_of_le (HSW.out b hb) HP10.out.bw.size, (HP10.out.far (HSW.out b hb)).2⟩) (by have := HXL.out; omega) (by have := HXL.out; omega)).mono ?_; rintro e w11 ⟨rfl, G11, h11, hc11, hG11⟩; have HP11 := Lib.hid (HP10.out.stepL h11 hc11 hG11); clear h11 hc11 hG11)
          | fail)
        have HW9 : Hid (WriR w w11 g l (j + 1)) := by
          have ha := HALL.out.rr HFR.out
          have h1 := x.rr_len HFR.out
          have h2 := y.rr_rests HFR.out
          have h3 := congrArg List.length ha.1
          have h4 := x.rrLen_lt HFR.out
          have h5 := Wr.name_le (x := x) r.name true
          have h6 := HFR.out.1.2
          have h7 := HXL.out
          have h8 := congrArg List.length HALL.out.1
          exact ⟨F7, G11, x.rr r, y.rr r, HP11.out, ha, HFF.out.rr HFR.out, by omega, by omega, by omega⟩
        go_roundw
        case rel => exact ⟨j + 1, by go_num, by omega, HW9⟩
        case measure => simp [intOf]; omega
      · have HFR := Lib.hid hf
        have HFB := Lib.hid (fineRB_false hf)
        clear hf
        go_upto_region 8 with (first
          | (go_at_call 61; refine (rrPut_bad w6 s6 r g HFR.out HI6.out (fun b hb => hb.2) HLR.out.bd.1 HLR.out.bd.2).mono ?_; rintro e w7 ⟨v7, rfl, rfl, hb7⟩; have HP7 := Lib.hid (HP6.out.nx hb7); clear hb7)
          | (go_at_call 62; refine (own05_any s r wr (HRI.out.below HPP.out.bw HSW.out) (fun b hb => Nat.lt_of_lt_of_le (HSW.out b hb) HPP.out.bw.size) HLR.out.light9).mono ?_; rintro e w6 ⟨v6, rfl, ⟨s6, rfl, hi6⟩, hb6⟩; have HI6 := Lib.hid hi6; have HP6 := Lib.hid (HPP.out.nx hb6); clear hi6 hb6)
          | fail)
        clear d0 d1 d2 d3 d4 d5 d6 d7 d8 HI6 HP6
        obtain ⟨d0, d1, d2, d3, d4, d5, d6, d7, d8⟩ := HRC.out.below HP7.out.bw
        go_upto_region 9 with (first
          | (go_at_call 63; refine (rSound_any s r w7 (HRI.out.below HP7.out.bw HSW.out) (fun b hb => Nat.lt_of_lt_of_le (HSW.out b hb) HP7.out.bw.size) HLR.out.bd.1 HLR.out.bd.2).mono ?_; rw [HFB.out]; rintro e w8 ⟨v8, rfl, rfl, hb8⟩; have HP8 := Lib.hid (HP7.out.nx hb8); clear hb8)
          | fail)
        clear d0 d1 d2 d3 d4 d5 d6 d7 d8
        obtain ⟨d0, d1, d2, d3, d4, d5, d6, d7, d8⟩ := HRC.out.below HP8.out.bw
        go_wp2_with (first
          | (go_at_call 64; refine (rrSound_any s9 r w9 HI9.out (fun b hb => hb.2) HLR.out.bd.1 HLR.out.bd.2).mono ?_; rw [HFB.out]; rintro e w10 ⟨v10, rfl, rfl, hb10⟩; have HP10 := Lib.hid (HP9.out.nx hb10); clear hb10)
          | (go_at_call 62; refine (own05_any s r w8 (HRI.out.below HP8.out.bw HSW.out) (fun b hb => Nat.lt_of_lt_of_le (HSW.out b hb) HP8.out.bw.size) HLR.out.light9).mono ?_; rintro e w9 ⟨v9, rfl, ⟨s9, rfl, hi9⟩, hb9⟩; have HI9 := Lib.hid hi9; have HP9 := Lib.hid (HP8.out.nx hb9); clear hi9 hb9)
          | fail)
        have HW9 : Hid (WriR w w10 g l (j + 1)) := by
          have h7 := HXL.out
          exact ⟨F, G, x, y, HP10.out, HALL.out, HFF.out, by omega, by omega, by omega⟩
        go_roundw
        case rel => exact ⟨j + 1, by go_num, by omega, HW9⟩
        case measure => simp [intOf]; omega
    · by_cases hlt : j < xs.length
      · have hbl : ¬ (y.b.length : Int) < 100000 := by omega
        have hltI : (j : Int) < (xs.length : Int) := by omega
        clear hgo hy1
        go_upto_region 15 with (fail)
        clear hbl hltI hlt
        go_region_held3 (fun w' => w'.cell? ⟨l, 0, none⟩ = some (.slice Ay y.b.length cy))
          (first
            | with_reducible exact z0
            | with_reducible exact below_cell bl.drew z0
            | with_reducible exact z1
            | with_reducible exact z2
            | with_reducible exact z3
            | fail)
          (first
            | (go_at_call 61; refine (rrPut_nil99 v2).mono ?_; rintro e v3 ⟨u3, rfl, rfl, hb3⟩; have z3 := below_cell hb3 z2; have hB3 := nx hB2 hb3)
            | (go_at_call 25; refine (same_any _ _ _ _ _ _ x.b y.b v1 hrc (HZR.out.below hB1) (by unfold maxLen; have := HXL.out; omega) (by unfold maxLen; have := HXL.out; omega)).mono ?_; rw [decide_eq_true HALL.out.1]; rintro e v2 ⟨rfl, m2, hv2⟩; have hb2 : Below v1.heap.size v1 v2 := (by rw [hv2]; exact dN bl m2); clear hv2; have z2 := below_cell hb2 z1; have hB2 := nx hB1 hb2)
            | (go_at_call 57; refine (wbytes_any wr.drew w.heap.size g F x (HPP.out.W.below bl.drew) (by have := HXL.out; omega)).mono ?_; rintro e v1 ⟨u1, rfl, hown1, hb1⟩; obtain ⟨Ac, cc, rfl, hrc, hlc, hmc⟩ := hown1.form; have hB1 : Below wr.heap.size wr v1 := bl.drew.trans hb1; have z1 := below_cell hB1 z0)
            | fail)
        go_wp2
        go_ret
        exact ⟨rfl, nx HPP.out.bw hB3⟩
      · have hltI : ¬ (j : Int) < (xs.length : Int) := by omega
        clear hgo hy1
        go_upto_region 15 with (fail)
        clear hltI hlt
        go_region_held3 (fun w' => w'.cell? ⟨l, 0, none⟩ = some (.slice Ay y.b.length cy))
          (first
            | with_reducible exact z0
            | with_reducible exact below_cell bl.drew z0
            | with_reducible exact z1
            | with_reducible exact z2
            | with_reducible exact z3
            | fail)
          (first
            | (go_at_call 61; refine (rrPut_nil99 v2).mono ?_; rintro e v3 ⟨u3, rfl, rfl, hb3⟩; have z3 := below_cell hb3 z2; have hB3 := nx hB2 hb3)
            | (go_at_call 25; refine (same_any _ _ _ _ _ _ x.b y.b v1 hrc (HZR.out.below hB1) (by unfold maxLen; have := HXL.out; omega) (by unfold maxLen; have := HXL.out; omega)).mono ?_; rw [decide_eq_true HALL.out.1]; rintro e v2 ⟨rfl, m2, hv2⟩; have hb2 : Below v1.heap.size v1 v2 := (by rw [hv2]; exact dN bl m2); clear hv2; have z2 := below_cell hb2 z1; have hB2 := nx hB1 hb2)
            | (go_at_call 57; refine (wbytes_any wr.drew w.heap.size g F x (HPP.out.W.below bl.drew) (by have := HXL.out; omega)).mono ?_; rintro e v1 ⟨u1, rfl, hown1, hb1⟩; obtain ⟨Ac, cc, rfl, hrc, hlc, hmc⟩ := hown1.form; have hB1 : Below wr.heap.size wr v1 := bl.drew.trans hb1; have z1 := below_cell hB1 z0)
            | fail)
        go_wp2
        go_ret
        exact ⟨rfl, nx HPP.out.bw hB3⟩

set_option maxHeartbeats 2000000 in
theorem rrWrites_heavy (A : Option Addr) (c : Nat) (xs : List RR) (w : World) (h : RdE encRR w A xs.length xs) (hm : xs.length ≤ maxLen) (hl : ¬ LtL xs) :
    Calls Try.prog 13 #[.slice A xs.length c] w (LawT w) := by
  have H := Lib.hid h
  have HLD := Lib.hid (decide_eq_false hl)
  clear h hl
  go_enter Try.func13, Try.ntmps13
  go_wp2_with (first
    | (go_at_call 35; refine (answers05_any w3).mono ?_; rintro e w4 ⟨rfl, hb4⟩)
    | (go_at_call 36; refine (light05_any A _ c xs w2 (H.out.below hb2) hm).mono ?_; rw [HLD.out]; rintro e w3 ⟨v3, rfl, rfl, hb3⟩)
    | (go_at_call 35; refine (answers05_any w).mono ?_; rintro e w2 ⟨rfl, hb2⟩)
    | fail)
  go_ret
  exact ⟨rfl, nx (nx hb2 hb3) hb4⟩
theorem rrWrites_walk (A : Option Addr) (n c : Nat) (xs : List RR) (w : World) (h : RdE encRR w A n xs) (hc : n ≤ c) (hm : c ≤ maxLen) :
    Calls Try.prog 13 #[.slice A n c] w (LawT w) := by
  have hl := h.len
  subst hl
  by_cases h0 : LtL xs
  · exact rrWrites_ok A c xs w h h0
  · exact rrWrites_heavy A c xs w h (Nat.le_trans hc hm) h0
end Go.Proofs.Ytbjaphldncagjaa
