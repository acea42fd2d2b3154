/- Parts of a proof, joined: RdG7. -/
import Derived.Test.YtimkdpkhdbiniaaSDM05
/- rdata: the reader's data, a walk for each shape (printed by gen/rdg.py). -/
namespace Go.Proofs.Ytimkdpkhdbiniaa
open Go.RowKit
set_option maxRecDepth 100000
set_option linter.unusedVariables false

set_option maxHeartbeats 4000000 in
theorem gdataA_any (w : World) (p : Nat) (A : Option Addr) (n c pos en : Nat) (bs : List UInt8) (h : Rdr w p (.slice A n c) (pos : Int) (en : Int)) (hr : RdB w A n bs) (ho : offA A p) (hqpos : pos ≤ en) (hen : en ≤ n) (hn : n ≤ c) (hc : c ≤ 9223372036854775807) (hn2 : n ≤ 100000000) :
    Calls Try.prog 199 #[.pointer (some ⟨p, 0, none⟩), shpV shpA] w (RdX (dataE bs pos en shpA) (goodD w.heap.size) w p (.slice A n c) en) := by
  obtain ⟨w0, hw0⟩ : ∃ w0, w0 = (w.alloc (.cells #[.int .i64 4, .bool false, .bool false, .bool false, .int .i64 0, .int .i64 0, .bool false, .bool false] 182)).alloc (.cells #[.slice none 0 0, .slice none 0 0, .slice none 0 0, .slice none 0 0, .slice none 0 0] 46) := ⟨_, rfl⟩
  have ST0 : Hid (RdSt w w0 p (.slice A n c) pos en shpA DS.nil Da.zero) := by show RdSt _ _ _ _ _ _ _ _ _; rw [hw0]; exact RdSt.start h shpA
  have HR := Lib.hid hr
  clear h hr
  rw [show shpV shpA = .agg #[.int .i64 4, .bool false, .bool false, .bool false, .int .i64 0, .int .i64 0, .bool false, .bool false] from rfl]
  have x0 : w0.cell? ⟨w.heap.size, 0, none⟩ = some (.int .i64 4) := (ST0.out.shc 0).trans rfl
  have x1 : w0.cell? ⟨w.heap.size, 1, none⟩ = some (.bool false) := (ST0.out.shc 1).trans rfl
  have x2 : w0.cell? ⟨w.heap.size, 2, none⟩ = some (.bool false) := (ST0.out.shc 2).trans rfl
  have x3 : w0.cell? ⟨w.heap.size, 3, none⟩ = some (.bool false) := (ST0.out.shc 3).trans rfl
  have x4 : w0.cell? ⟨w.heap.size, 4, none⟩ = some (.int .i64 0) := (ST0.out.shc 4).trans rfl
  have x5 : w0.cell? ⟨w.heap.size, 5, none⟩ = some (.int .i64 0) := (ST0.out.shc 5).trans rfl
  have x6 : w0.cell? ⟨w.heap.size, 6, none⟩ = some (.bool false) := (ST0.out.shc 6).trans rfl
  have x7 : w0.cell? ⟨w.heap.size, 7, none⟩ = some (.bool false) := (ST0.out.shc 7).trans rfl
  go_enter Try.func199, Try.ntmps199
  go_upto_region 1 with (fail)
  rw [← hw0]
  clear hw0
  cases hx1 : bytesR bs pos en 4 with
  | error x =>
    have HE : Hid (dataE bs pos en shpA = .error x) := by show _ = _; simp [dataE, dataR, shpA, hx1]
    have HX := Lib.hid hx1
    clear hx1
    go_wp2_with (first
      | (go_at_call 200; refine (gbytes_any w0 p A n c pos en 4 bs ST0.out.P (RdB.chgP HR.out ST0.out.C ho) ho hqpos hen hn hc hn2 (by decide)).mono ?_; rw [HX.out]; rintro e w9 ⟨rfl, hc9⟩)
      | fail)
    refine ⟨rfl, ?_⟩
    rw [HE.out]
    exact ⟨rfl, ST0.out.C.trans hc9 (fun _ h => .inl h)⟩
  | ok r =>
    obtain ⟨a1, q1⟩ := r
    have hqq1 : q1 ≤ en := (bytesR_le hx1).2
    have HX1 := Lib.hid hx1
    go_upto_region 7 with (first
      | (go_at_call 200; refine (gbytes_any w0 p A n c pos en 4 bs ST0.out.P (RdB.chgP HR.out ST0.out.C ho) ho hqpos hen hn hc hn2 (by decide)).mono ?_; rw [HX1.out]; rintro e w1 ⟨v1, rfl, hown1, hp1, hc1⟩; have ST1 := Lib.hid (ST0.out.call hp1 hc1); obtain ⟨A1, k1, rfl, _⟩ := hown1.form; have y0 : w1.cell? ⟨w.heap.size + 1, 0, none⟩ = some _ := (ST1.out.dc 0).trans rfl; have yf := ST1.out.df)
      | fail)
    obtain ⟨w2, hw2⟩ : ∃ u, u = w1.setCell ⟨w.heap.size + 1, 0, none⟩ (.slice A1 a1.length k1) := ⟨_, rfl⟩
    have hset1 := ST1.out.setB (hown1.mono ST0.out.size)
    rw [← hw2] at hset1
    have ST2 := Lib.hid hset1
    rw [← hw2]
    clear hw2 hset1 yf y0 x0 x1 x2 x3 x4 x5 x6 x7
    have x0 : w2.cell? ⟨w.heap.size, 0, none⟩ = some (.int .i64 4) := (ST2.out.shc 0).trans rfl
    have x1 : w2.cell? ⟨w.heap.size, 1, none⟩ = some (.bool false) := (ST2.out.shc 1).trans rfl
    have x2 : w2.cell? ⟨w.heap.size, 2, none⟩ = some (.bool false) := (ST2.out.shc 2).trans rfl
    have x3 : w2.cell? ⟨w.heap.size, 3, none⟩ = some (.bool false) := (ST2.out.shc 3).trans rfl
    have x4 : w2.cell? ⟨w.heap.size, 4, none⟩ = some (.int .i64 0) := (ST2.out.shc 4).trans rfl
    have x5 : w2.cell? ⟨w.heap.size, 5, none⟩ = some (.int .i64 0) := (ST2.out.shc 5).trans rfl
    have x6 : w2.cell? ⟨w.heap.size, 6, none⟩ = some (.bool false) := (ST2.out.shc 6).trans rfl
    have x7 : w2.cell? ⟨w.heap.size, 7, none⟩ = some (.bool false) := (ST2.out.shc 7).trans rfl
    have HX2 : Hid (numsR bs en 0 0 q1 [] = .ok ([], q1)) := rfl
    go_upto_region 15 with (first
      | (go_at_call 202; refine (gnums_any w2 p A n c q1 en 0 0 bs shpA rfl rfl ST2.out.P (RdB.chgP HR.out ST2.out.C ho) ho hqq1 hen hn hn2 (by decide) (by decide) (by decide)).mono ?_; rw [HX2.out]; rintro e w3 ⟨v2, rfl, hown2, hp2, hc2⟩; have ST3 := Lib.hid (ST2.out.call hp2 hc2); obtain ⟨A2, k2, rfl, _⟩ := OwnE.form hown2; rw [List.length_nil] at hown2 ⊢; have y3 : w3.cell? ⟨w.heap.size + 1, 3, none⟩ = some _ := (ST3.out.dc 3).trans rfl; have yf := ST3.out.df)
      | fail)
    obtain ⟨w4, hw4⟩ : ∃ u, u = w3.setCell ⟨w.heap.size + 1, 3, none⟩ (.slice A2 0 k2) := ⟨_, rfl⟩
    have hset2 := RdSt.setN (x := []) ST3.out (OwnE.base_le hown2 ST2.out.size)
    rw [List.length_nil, ← hw4] at hset2
    have ST4 := Lib.hid hset2
    rw [← hw4]
    clear hw4 hset2 yf y3 x0 x1 x2 x3 x4 x5 x6 x7
    have x0 : w4.cell? ⟨w.heap.size, 0, none⟩ = some (.int .i64 4) := (ST4.out.shc 0).trans rfl
    have x1 : w4.cell? ⟨w.heap.size, 1, none⟩ = some (.bool false) := (ST4.out.shc 1).trans rfl
    have x2 : w4.cell? ⟨w.heap.size, 2, none⟩ = some (.bool false) := (ST4.out.shc 2).trans rfl
    have x3 : w4.cell? ⟨w.heap.size, 3, none⟩ = some (.bool false) := (ST4.out.shc 3).trans rfl
    have x4 : w4.cell? ⟨w.heap.size, 4, none⟩ = some (.int .i64 0) := (ST4.out.shc 4).trans rfl
    have x5 : w4.cell? ⟨w.heap.size, 5, none⟩ = some (.int .i64 0) := (ST4.out.shc 5).trans rfl
    have x6 : w4.cell? ⟨w.heap.size, 6, none⟩ = some (.bool false) := (ST4.out.shc 6).trans rfl
    have x7 : w4.cell? ⟨w.heap.size, 7, none⟩ = some (.bool false) := (ST4.out.shc 7).trans rfl
    obtain ⟨rc0, rc1, rc2, rf⟩ := ST4.out.P.cells
    by_cases hlt : q1 < en
    · have HE : Hid (dataE bs pos en shpA = .error 7) := by show _ = _; simp [dataE, dataR, shpA, hx1, hlt]
      clear hx1
      go_wp2
      go_quiet (fail)
      go_wp2
      refine ⟨rfl, ?_⟩
      rw [HE.out]
      exact ⟨rfl, ST4.out.C.drewN nq⟩
    · have HE : Hid (dataE bs pos en shpA = .ok ({ Da.zero with bytes := a1, nums := [] }, q1)) := by show _ = _; simp [dataE, dataR, shpA, hx1, hlt, Da.zero]
      clear hx1
      obtain ⟨sF, dF, STF, hdF⟩ : ∃ sF dF, Hid (RdSt w w4 p (.slice A n c) q1 en shpA sF dF) ∧ dF = { Da.zero with bytes := a1, nums := [] } := ⟨_, _, ST4, rfl⟩
      rw [← hdF] at HE
      clear hdF x0 x1 x2 x3 x4 x5 x6 x7 ST4
      have x0 : w4.cell? ⟨w.heap.size, 0, none⟩ = some (.int .i64 4) := (STF.out.shc 0).trans rfl
      have x1 : w4.cell? ⟨w.heap.size, 1, none⟩ = some (.bool false) := (STF.out.shc 1).trans rfl
      have x2 : w4.cell? ⟨w.heap.size, 2, none⟩ = some (.bool false) := (STF.out.shc 2).trans rfl
      have x3 : w4.cell? ⟨w.heap.size, 3, none⟩ = some (.bool false) := (STF.out.shc 3).trans rfl
      have x4 : w4.cell? ⟨w.heap.size, 4, none⟩ = some (.int .i64 0) := (STF.out.shc 4).trans rfl
      have x5 : w4.cell? ⟨w.heap.size, 5, none⟩ = some (.int .i64 0) := (STF.out.shc 5).trans rfl
      have x6 : w4.cell? ⟨w.heap.size, 6, none⟩ = some (.bool false) := (STF.out.shc 6).trans rfl
      have x7 : w4.cell? ⟨w.heap.size, 7, none⟩ = some (.bool false) := (STF.out.shc 7).trans rfl
      have y0 : w4.cell? ⟨w.heap.size + 1, 0, none⟩ = some (.slice sF.A0 dF.bytes.length sF.c0) := (STF.out.dc 0).trans rfl
      have y1 : w4.cell? ⟨w.heap.size + 1, 1, none⟩ = some (.slice sF.A1 dF.host.length sF.c1) := (STF.out.dc 1).trans rfl
      have y2 : w4.cell? ⟨w.heap.size + 1, 2, none⟩ = some (.slice sF.A2 dF.mail.length sF.c2) := (STF.out.dc 2).trans rfl
      have y3 : w4.cell? ⟨w.heap.size + 1, 3, none⟩ = some (.slice sF.A3 dF.nums.length sF.c3) := (STF.out.dc 3).trans rfl
      have y4 : w4.cell? ⟨w.heap.size + 1, 4, none⟩ = some (.slice sF.A4 dF.texts.length sF.c4) := (STF.out.dc 4).trans rfl
      have yf := STF.out.df
      go_wp2
      go_quiet (fail)
      go_wp2
      obtain ⟨wm, hwm⟩ : ∃ u, u = ((((((w4.drewN nq).setCell ⟨w.heap.size + 1, 0, none⟩ (.slice sF.A0 dF.bytes.length sF.c0)).setCell ⟨w.heap.size + 1, 1, none⟩ (.slice sF.A1 dF.host.length sF.c1)).setCell ⟨w.heap.size + 1, 2, none⟩ (.slice sF.A2 dF.mail.length sF.c2)).setCell ⟨w.heap.size + 1, 3, none⟩ (.slice sF.A3 dF.nums.length sF.c3)).setCell ⟨w.heap.size + 1, 4, none⟩ (.slice sF.A4 dF.texts.length sF.c4)) := ⟨_, rfl⟩
      have STm : Hid (RdSt w wm p (.slice A n c) q1 en shpA sF dF) := by show RdSt _ _ _ _ _ _ _ _ _; rw [hwm]; exact (STF.out.below (dN bl nq)).same
      rw [← hwm]
      clear hwm y0 y1 y2 y3 y4 yf x0 x1 x2 x3 x4 x5 x6 x7
      have y0 : wm.cell? ⟨w.heap.size + 1, 0, none⟩ = some (.slice sF.A0 dF.bytes.length sF.c0) := (STm.out.dc 0).trans rfl
      have y1 : wm.cell? ⟨w.heap.size + 1, 1, none⟩ = some (.slice sF.A1 dF.host.length sF.c1) := (STm.out.dc 1).trans rfl
      have y2 : wm.cell? ⟨w.heap.size + 1, 2, none⟩ = some (.slice sF.A2 dF.mail.length sF.c2) := (STm.out.dc 2).trans rfl
      have y3 : wm.cell? ⟨w.heap.size + 1, 3, none⟩ = some (.slice sF.A3 dF.nums.length sF.c3) := (STm.out.dc 3).trans rfl
      have y4 : wm.cell? ⟨w.heap.size + 1, 4, none⟩ = some (.slice sF.A4 dF.texts.length sF.c4) := (STm.out.dc 4).trans rfl
      refine bodyPost_ret (v := .agg #[.slice sF.A0 dF.bytes.length sF.c0, .slice sF.A1 dF.host.length sF.c1, .slice sF.A2 dF.mail.length sF.c2, .slice sF.A3 dF.nums.length sF.c3, .slice sF.A4 dF.texts.length sF.c4]) ?_ rfl ?_
      · simp [results, Try.results199, go_sem, y0, y1, y2, y3, y4]
      · rw [HE.out]
        exact ⟨_, rfl, ⟨sF, rfl, STm.out.G.base_le (Nat.le_add_right _ _)⟩, STm.out.P, STm.out.C⟩

set_option maxHeartbeats 4000000 in
theorem gdataQ_any (w : World) (p : Nat) (A : Option Addr) (n c pos en : Nat) (bs : List UInt8) (h : Rdr w p (.slice A n c) (pos : Int) (en : Int)) (hr : RdB w A n bs) (ho : offA A p) (hqpos : pos ≤ en) (hen : en ≤ n) (hn : n ≤ c) (hc : c ≤ 9223372036854775807) (hn2 : n ≤ 100000000) :
    Calls Try.prog 199 #[.pointer (some ⟨p, 0, none⟩), shpV shpQ] w (RdX (dataE bs pos en shpQ) (goodD w.heap.size) w p (.slice A n c) en) := by
  obtain ⟨w0, hw0⟩ : ∃ w0, w0 = (w.alloc (.cells #[.int .i64 16, .bool false, .bool false, .bool false, .int .i64 0, .int .i64 0, .bool false, .bool false] 182)).alloc (.cells #[.slice none 0 0, .slice none 0 0, .slice none 0 0, .slice none 0 0, .slice none 0 0] 46) := ⟨_, rfl⟩
  have ST0 : Hid (RdSt w w0 p (.slice A n c) pos en shpQ DS.nil Da.zero) := by show RdSt _ _ _ _ _ _ _ _ _; rw [hw0]; exact RdSt.start h shpQ
  have HR := Lib.hid hr
  clear h hr
  rw [show shpV shpQ = .agg #[.int .i64 16, .bool false, .bool false, .bool false, .int .i64 0, .int .i64 0, .bool false, .bool false] from rfl]
  have x0 : w0.cell? ⟨w.heap.size, 0, none⟩ = some (.int .i64 16) := (ST0.out.shc 0).trans rfl
  have x1 : w0.cell? ⟨w.heap.size, 1, none⟩ = some (.bool false) := (ST0.out.shc 1).trans rfl
  have x2 : w0.cell? ⟨w.heap.size, 2, none⟩ = some (.bool false) := (ST0.out.shc 2).trans rfl
  have x3 : w0.cell? ⟨w.heap.size, 3, none⟩ = some (.bool false) := (ST0.out.shc 3).trans rfl
  have x4 : w0.cell? ⟨w.heap.size, 4, none⟩ = some (.int .i64 0) := (ST0.out.shc 4).trans rfl
  have x5 : w0.cell? ⟨w.heap.size, 5, none⟩ = some (.int .i64 0) := (ST0.out.shc 5).trans rfl
  have x6 : w0.cell? ⟨w.heap.size, 6, none⟩ = some (.bool false) := (ST0.out.shc 6).trans rfl
  have x7 : w0.cell? ⟨w.heap.size, 7, none⟩ = some (.bool false) := (ST0.out.shc 7).trans rfl
  go_enter Try.func199, Try.ntmps199
  go_upto_region 1 with (fail)
  rw [← hw0]
  clear hw0
  cases hx1 : bytesR bs pos en 16 with
  | error x =>
    have HE : Hid (dataE bs pos en shpQ = .error x) := by show _ = _; simp [dataE, dataR, shpQ, hx1]
    have HX := Lib.hid hx1
    clear hx1
    go_wp2_with (first
      | (go_at_call 200; refine (gbytes_any w0 p A n c pos en 16 bs ST0.out.P (RdB.chgP HR.out ST0.out.C ho) ho hqpos hen hn hc hn2 (by decide)).mono ?_; rw [HX.out]; rintro e w9 ⟨rfl, hc9⟩)
      | fail)
    refine ⟨rfl, ?_⟩
    rw [HE.out]
    exact ⟨rfl, ST0.out.C.trans hc9 (fun _ h => .inl h)⟩
  | ok r =>
    obtain ⟨a1, q1⟩ := r
    have hqq1 : q1 ≤ en := (bytesR_le hx1).2
    have HX1 := Lib.hid hx1
    go_upto_region 7 with (first
      | (go_at_call 200; refine (gbytes_any w0 p A n c pos en 16 bs ST0.out.P (RdB.chgP HR.out ST0.out.C ho) ho hqpos hen hn hc hn2 (by decide)).mono ?_; rw [HX1.out]; rintro e w1 ⟨v1, rfl, hown1, hp1, hc1⟩; have ST1 := Lib.hid (ST0.out.call hp1 hc1); obtain ⟨A1, k1, rfl, _⟩ := hown1.form; have y0 : w1.cell? ⟨w.heap.size + 1, 0, none⟩ = some _ := (ST1.out.dc 0).trans rfl; have yf := ST1.out.df)
      | fail)
    obtain ⟨w2, hw2⟩ : ∃ u, u = w1.setCell ⟨w.heap.size + 1, 0, none⟩ (.slice A1 a1.length k1) := ⟨_, rfl⟩
    have hset1 := ST1.out.setB (hown1.mono ST0.out.size)
    rw [← hw2] at hset1
    have ST2 := Lib.hid hset1
    rw [← hw2]
    clear hw2 hset1 yf y0 x0 x1 x2 x3 x4 x5 x6 x7
    have x0 : w2.cell? ⟨w.heap.size, 0, none⟩ = some (.int .i64 16) := (ST2.out.shc 0).trans rfl
    have x1 : w2.cell? ⟨w.heap.size, 1, none⟩ = some (.bool false) := (ST2.out.shc 1).trans rfl
    have x2 : w2.cell? ⟨w.heap.size, 2, none⟩ = some (.bool false) := (ST2.out.shc 2).trans rfl
    have x3 : w2.cell? ⟨w.heap.size, 3, none⟩ = some (.bool false) := (ST2.out.shc 3).trans rfl
    have x4 : w2.cell? ⟨w.heap.size, 4, none⟩ = some (.int .i64 0) := (ST2.out.shc 4).trans rfl
    have x5 : w2.cell? ⟨w.heap.size, 5, none⟩ = some (.int .i64 0) := (ST2.out.shc 5).trans rfl
    have x6 : w2.cell? ⟨w.heap.size, 6, none⟩ = some (.bool false) := (ST2.out.shc 6).trans rfl
    have x7 : w2.cell? ⟨w.heap.size, 7, none⟩ = some (.bool false) := (ST2.out.shc 7).trans rfl
    have HX2 : Hid (numsR bs en 0 0 q1 [] = .ok ([], q1)) := rfl
    go_upto_region 15 with (first
      | (go_at_call 202; refine (gnums_any w2 p A n c q1 en 0 0 bs shpQ rfl rfl ST2.out.P (RdB.chgP HR.out ST2.out.C ho) ho hqq1 hen hn hn2 (by decide) (by decide) (by decide)).mono ?_; rw [HX2.out]; rintro e w3 ⟨v2, rfl, hown2, hp2, hc2⟩; have ST3 := Lib.hid (ST2.out.call hp2 hc2); obtain ⟨A2, k2, rfl, _⟩ := OwnE.form hown2; rw [List.length_nil] at hown2 ⊢; have y3 : w3.cell? ⟨w.heap.size + 1, 3, none⟩ = some _ := (ST3.out.dc 3).trans rfl; have yf := ST3.out.df)
      | fail)
    obtain ⟨w4, hw4⟩ : ∃ u, u = w3.setCell ⟨w.heap.size + 1, 3, none⟩ (.slice A2 0 k2) := ⟨_, rfl⟩
    have hset2 := RdSt.setN (x := []) ST3.out (OwnE.base_le hown2 ST2.out.size)
    rw [List.length_nil, ← hw4] at hset2
    have ST4 := Lib.hid hset2
    rw [← hw4]
    clear hw4 hset2 yf y3 x0 x1 x2 x3 x4 x5 x6 x7
    have x0 : w4.cell? ⟨w.heap.size, 0, none⟩ = some (.int .i64 16) := (ST4.out.shc 0).trans rfl
    have x1 : w4.cell? ⟨w.heap.size, 1, none⟩ = some (.bool false) := (ST4.out.shc 1).trans rfl
    have x2 : w4.cell? ⟨w.heap.size, 2, none⟩ = some (.bool false) := (ST4.out.shc 2).trans rfl
    have x3 : w4.cell? ⟨w.heap.size, 3, none⟩ = some (.bool false) := (ST4.out.shc 3).trans rfl
    have x4 : w4.cell? ⟨w.heap.size, 4, none⟩ = some (.int .i64 0) := (ST4.out.shc 4).trans rfl
    have x5 : w4.cell? ⟨w.heap.size, 5, none⟩ = some (.int .i64 0) := (ST4.out.shc 5).trans rfl
    have x6 : w4.cell? ⟨w.heap.size, 6, none⟩ = some (.bool false) := (ST4.out.shc 6).trans rfl
    have x7 : w4.cell? ⟨w.heap.size, 7, none⟩ = some (.bool false) := (ST4.out.shc 7).trans rfl
    obtain ⟨rc0, rc1, rc2, rf⟩ := ST4.out.P.cells
    by_cases hlt : q1 < en
    · have HE : Hid (dataE bs pos en shpQ = .error 7) := by show _ = _; simp [dataE, dataR, shpQ, hx1, hlt]
      clear hx1
      go_wp2
      go_quiet (fail)
      go_wp2
      refine ⟨rfl, ?_⟩
      rw [HE.out]
      exact ⟨rfl, ST4.out.C.drewN nq⟩
    · have HE : Hid (dataE bs pos en shpQ = .ok ({ Da.zero with bytes := a1, nums := [] }, q1)) := by show _ = _; simp [dataE, dataR, shpQ, hx1, hlt, Da.zero]
      clear hx1
      obtain ⟨sF, dF, STF, hdF⟩ : ∃ sF dF, Hid (RdSt w w4 p (.slice A n c) q1 en shpQ sF dF) ∧ dF = { Da.zero with bytes := a1, nums := [] } := ⟨_, _, ST4, rfl⟩
      rw [← hdF] at HE
      clear hdF x0 x1 x2 x3 x4 x5 x6 x7 ST4
      have x0 : w4.cell? ⟨w.heap.size, 0, none⟩ = some (.int .i64 16) := (STF.out.shc 0).trans rfl
      have x1 : w4.cell? ⟨w.heap.size, 1, none⟩ = some (.bool false) := (STF.out.shc 1).trans rfl
      have x2 : w4.cell? ⟨w.heap.size, 2, none⟩ = some (.bool false) := (STF.out.shc 2).trans rfl
      have x3 : w4.cell? ⟨w.heap.size, 3, none⟩ = some (.bool false) := (STF.out.shc 3).trans rfl
      have x4 : w4.cell? ⟨w.heap.size, 4, none⟩ = some (.int .i64 0) := (STF.out.shc 4).trans rfl
      have x5 : w4.cell? ⟨w.heap.size, 5, none⟩ = some (.int .i64 0) := (STF.out.shc 5).trans rfl
      have x6 : w4.cell? ⟨w.heap.size, 6, none⟩ = some (.bool false) := (STF.out.shc 6).trans rfl
      have x7 : w4.cell? ⟨w.heap.size, 7, none⟩ = some (.bool false) := (STF.out.shc 7).trans rfl
      have y0 : w4.cell? ⟨w.heap.size + 1, 0, none⟩ = some (.slice sF.A0 dF.bytes.length sF.c0) := (STF.out.dc 0).trans rfl
      have y1 : w4.cell? ⟨w.heap.size + 1, 1, none⟩ = some (.slice sF.A1 dF.host.length sF.c1) := (STF.out.dc 1).trans rfl
      have y2 : w4.cell? ⟨w.heap.size + 1, 2, none⟩ = some (.slice sF.A2 dF.mail.length sF.c2) := (STF.out.dc 2).trans rfl
      have y3 : w4.cell? ⟨w.heap.size + 1, 3, none⟩ = some (.slice sF.A3 dF.nums.length sF.c3) := (STF.out.dc 3).trans rfl
      have y4 : w4.cell? ⟨w.heap.size + 1, 4, none⟩ = some (.slice sF.A4 dF.texts.length sF.c4) := (STF.out.dc 4).trans rfl
      have yf := STF.out.df
      go_wp2
      go_quiet (fail)
      go_wp2
      obtain ⟨wm, hwm⟩ : ∃ u, u = ((((((w4.drewN nq).setCell ⟨w.heap.size + 1, 0, none⟩ (.slice sF.A0 dF.bytes.length sF.c0)).setCell ⟨w.heap.size + 1, 1, none⟩ (.slice sF.A1 dF.host.length sF.c1)).setCell ⟨w.heap.size + 1, 2, none⟩ (.slice sF.A2 dF.mail.length sF.c2)).setCell ⟨w.heap.size + 1, 3, none⟩ (.slice sF.A3 dF.nums.length sF.c3)).setCell ⟨w.heap.size + 1, 4, none⟩ (.slice sF.A4 dF.texts.length sF.c4)) := ⟨_, rfl⟩
      have STm : Hid (RdSt w wm p (.slice A n c) q1 en shpQ sF dF) := by show RdSt _ _ _ _ _ _ _ _ _; rw [hwm]; exact (STF.out.below (dN bl nq)).same
      rw [← hwm]
      clear hwm y0 y1 y2 y3 y4 yf x0 x1 x2 x3 x4 x5 x6 x7
      have y0 : wm.cell? ⟨w.heap.size + 1, 0, none⟩ = some (.slice sF.A0 dF.bytes.length sF.c0) := (STm.out.dc 0).trans rfl
      have y1 : wm.cell? ⟨w.heap.size + 1, 1, none⟩ = some (.slice sF.A1 dF.host.length sF.c1) := (STm.out.dc 1).trans rfl
      have y2 : wm.cell? ⟨w.heap.size + 1, 2, none⟩ = some (.slice sF.A2 dF.mail.length sF.c2) := (STm.out.dc 2).trans rfl
      have y3 : wm.cell? ⟨w.heap.size + 1, 3, none⟩ = some (.slice sF.A3 dF.nums.length sF.c3) := (STm.out.dc 3).trans rfl
      have y4 : wm.cell? ⟨w.heap.size + 1, 4, none⟩ = some (.slice sF.A4 dF.texts.length sF.c4) := (STm.out.dc 4).trans rfl
      refine bodyPost_ret (v := .agg #[.slice sF.A0 dF.bytes.length sF.c0, .slice sF.A1 dF.host.length sF.c1, .slice sF.A2 dF.mail.length sF.c2, .slice sF.A3 dF.nums.length sF.c3, .slice sF.A4 dF.texts.length sF.c4]) ?_ rfl ?_
      · simp [results, Try.results199, go_sem, y0, y1, y2, y3, y4]
      · rw [HE.out]
        exact ⟨_, rfl, ⟨sF, rfl, STm.out.G.base_le (Nat.le_add_right _ _)⟩, STm.out.P, STm.out.C⟩

set_option maxHeartbeats 4000000 in
theorem gdataN_any (w : World) (p : Nat) (A : Option Addr) (n c pos en : Nat) (bs : List UInt8) (h : Rdr w p (.slice A n c) (pos : Int) (en : Int)) (hr : RdB w A n bs) (ho : offA A p) (hqpos : pos ≤ en) (hen : en ≤ n) (hn : n ≤ c) (hc : c ≤ 9223372036854775807) (hn2 : n ≤ 100000000) :
    Calls Try.prog 199 #[.pointer (some ⟨p, 0, none⟩), shpV shpN] w (RdX (dataE bs pos en shpN) (goodD w.heap.size) w p (.slice A n c) en) := by
  obtain ⟨w0, hw0⟩ : ∃ w0, w0 = (w.alloc (.cells #[.int .i64 0, .bool true, .bool false, .bool true, .int .i64 0, .int .i64 0, .bool false, .bool false] 182)).alloc (.cells #[.slice none 0 0, .slice none 0 0, .slice none 0 0, .slice none 0 0, .slice none 0 0] 46) := ⟨_, rfl⟩
  have ST0 : Hid (RdSt w w0 p (.slice A n c) pos en shpN DS.nil Da.zero) := by show RdSt _ _ _ _ _ _ _ _ _; rw [hw0]; exact RdSt.start h shpN
  have HR := Lib.hid hr
  clear h hr
  rw [show shpV shpN = .agg #[.int .i64 0, .bool true, .bool false, .bool true, .int .i64 0, .int .i64 0, .bool false, .bool false] from rfl]
  have x0 : w0.cell? ⟨w.heap.size, 0, none⟩ = some (.int .i64 0) := (ST0.out.shc 0).trans rfl
  have x1 : w0.cell? ⟨w.heap.size, 1, none⟩ = some (.bool true) := (ST0.out.shc 1).trans rfl
  have x2 : w0.cell? ⟨w.heap.size, 2, none⟩ = some (.bool false) := (ST0.out.shc 2).trans rfl
  have x3 : w0.cell? ⟨w.heap.size, 3, none⟩ = some (.bool true) := (ST0.out.shc 3).trans rfl
  have x4 : w0.cell? ⟨w.heap.size, 4, none⟩ = some (.int .i64 0) := (ST0.out.shc 4).trans rfl
  have x5 : w0.cell? ⟨w.heap.size, 5, none⟩ = some (.int .i64 0) := (ST0.out.shc 5).trans rfl
  have x6 : w0.cell? ⟨w.heap.size, 6, none⟩ = some (.bool false) := (ST0.out.shc 6).trans rfl
  have x7 : w0.cell? ⟨w.heap.size, 7, none⟩ = some (.bool false) := (ST0.out.shc 7).trans rfl
  go_enter Try.func199, Try.ntmps199
  go_upto_region 1 with (fail)
  rw [← hw0]
  clear hw0
  cases hx1 : nameX bs pos en with
  | error x =>
    have HE : Hid (dataE bs pos en shpN = .error x) := by show _ = _; simp [dataE, dataR, shpN, hx1]
    have HX := Lib.hid hx1
    clear hx1
    go_wp2_with (first
      | (go_at_call 203; refine (gname_any w0 p A n c pos en bs ST0.out.P (RdB.chgP HR.out ST0.out.C ho) hn hn2).mono ?_; rw [HX.out]; rintro e w9 ⟨rfl, hc9⟩)
      | fail)
    refine ⟨rfl, ?_⟩
    rw [HE.out]
    exact ⟨rfl, ST0.out.C.trans hc9 (fun _ h => .inl h)⟩
  | ok r =>
    obtain ⟨a1, q1⟩ := r
    have hqq1 : q1 ≤ en := nameX_le hx1
    have HX1 := Lib.hid hx1
    go_upto_region 11 with (first
      | (go_at_call 203; refine (gname_any w0 p A n c pos en bs ST0.out.P (RdB.chgP HR.out ST0.out.C ho) hn hn2).mono ?_; rw [HX1.out]; rintro e w1 ⟨v1, rfl, hown1, hp1, hc1⟩; have ST1 := Lib.hid (ST0.out.call hp1 hc1); obtain ⟨A1, k1, rfl, _⟩ := OwnE.form hown1; have y1 : w1.cell? ⟨w.heap.size + 1, 1, none⟩ = some _ := (ST1.out.dc 1).trans rfl; have yf := ST1.out.df)
      | fail)
    obtain ⟨w2, hw2⟩ : ∃ u, u = w1.setCell ⟨w.heap.size + 1, 1, none⟩ (.slice A1 a1.length k1) := ⟨_, rfl⟩
    have hset1 := ST1.out.setH (OwnE.base_le hown1 ST0.out.size)
    rw [← hw2] at hset1
    have ST2 := Lib.hid hset1
    rw [← hw2]
    clear hw2 hset1 yf y1 x0 x1 x2 x3 x4 x5 x6 x7
    have x0 : w2.cell? ⟨w.heap.size, 0, none⟩ = some (.int .i64 0) := (ST2.out.shc 0).trans rfl
    have x1 : w2.cell? ⟨w.heap.size, 1, none⟩ = some (.bool true) := (ST2.out.shc 1).trans rfl
    have x2 : w2.cell? ⟨w.heap.size, 2, none⟩ = some (.bool false) := (ST2.out.shc 2).trans rfl
    have x3 : w2.cell? ⟨w.heap.size, 3, none⟩ = some (.bool true) := (ST2.out.shc 3).trans rfl
    have x4 : w2.cell? ⟨w.heap.size, 4, none⟩ = some (.int .i64 0) := (ST2.out.shc 4).trans rfl
    have x5 : w2.cell? ⟨w.heap.size, 5, none⟩ = some (.int .i64 0) := (ST2.out.shc 5).trans rfl
    have x6 : w2.cell? ⟨w.heap.size, 6, none⟩ = some (.bool false) := (ST2.out.shc 6).trans rfl
    have x7 : w2.cell? ⟨w.heap.size, 7, none⟩ = some (.bool false) := (ST2.out.shc 7).trans rfl
    have HX2 : Hid (numsR bs en 0 0 q1 [] = .ok ([], q1)) := rfl
    go_upto_region 15 with (first
      | (go_at_call 202; refine (gnums_any w2 p A n c q1 en 0 0 bs shpN rfl rfl ST2.out.P (RdB.chgP HR.out ST2.out.C ho) ho hqq1 hen hn hn2 (by decide) (by decide) (by decide)).mono ?_; rw [HX2.out]; rintro e w3 ⟨v2, rfl, hown2, hp2, hc2⟩; have ST3 := Lib.hid (ST2.out.call hp2 hc2); obtain ⟨A2, k2, rfl, _⟩ := OwnE.form hown2; rw [List.length_nil] at hown2 ⊢; have y3 : w3.cell? ⟨w.heap.size + 1, 3, none⟩ = some _ := (ST3.out.dc 3).trans rfl; have yf := ST3.out.df)
      | fail)
    obtain ⟨w4, hw4⟩ : ∃ u, u = w3.setCell ⟨w.heap.size + 1, 3, none⟩ (.slice A2 0 k2) := ⟨_, rfl⟩
    have hset2 := RdSt.setN (x := []) ST3.out (OwnE.base_le hown2 ST2.out.size)
    rw [List.length_nil, ← hw4] at hset2
    have ST4 := Lib.hid hset2
    rw [← hw4]
    clear hw4 hset2 yf y3 x0 x1 x2 x3 x4 x5 x6 x7
    have x0 : w4.cell? ⟨w.heap.size, 0, none⟩ = some (.int .i64 0) := (ST4.out.shc 0).trans rfl
    have x1 : w4.cell? ⟨w.heap.size, 1, none⟩ = some (.bool true) := (ST4.out.shc 1).trans rfl
    have x2 : w4.cell? ⟨w.heap.size, 2, none⟩ = some (.bool false) := (ST4.out.shc 2).trans rfl
    have x3 : w4.cell? ⟨w.heap.size, 3, none⟩ = some (.bool true) := (ST4.out.shc 3).trans rfl
    have x4 : w4.cell? ⟨w.heap.size, 4, none⟩ = some (.int .i64 0) := (ST4.out.shc 4).trans rfl
    have x5 : w4.cell? ⟨w.heap.size, 5, none⟩ = some (.int .i64 0) := (ST4.out.shc 5).trans rfl
    have x6 : w4.cell? ⟨w.heap.size, 6, none⟩ = some (.bool false) := (ST4.out.shc 6).trans rfl
    have x7 : w4.cell? ⟨w.heap.size, 7, none⟩ = some (.bool false) := (ST4.out.shc 7).trans rfl
    obtain ⟨rc0, rc1, rc2, rf⟩ := ST4.out.P.cells
    by_cases hlt : q1 < en
    · have HE : Hid (dataE bs pos en shpN = .error 7) := by show _ = _; simp [dataE, dataR, shpN, hx1, hlt]
      clear hx1
      go_wp2
      go_quiet (fail)
      go_wp2
      refine ⟨rfl, ?_⟩
      rw [HE.out]
      exact ⟨rfl, ST4.out.C.drewN nq⟩
    · have HE : Hid (dataE bs pos en shpN = .ok ({ Da.zero with host := a1, nums := [] }, q1)) := by show _ = _; simp [dataE, dataR, shpN, hx1, hlt, Da.zero]
      clear hx1
      obtain ⟨sF, dF, STF, hdF⟩ : ∃ sF dF, Hid (RdSt w w4 p (.slice A n c) q1 en shpN sF dF) ∧ dF = { Da.zero with host := a1, nums := [] } := ⟨_, _, ST4, rfl⟩
      rw [← hdF] at HE
      clear hdF x0 x1 x2 x3 x4 x5 x6 x7 ST4
      have x0 : w4.cell? ⟨w.heap.size, 0, none⟩ = some (.int .i64 0) := (STF.out.shc 0).trans rfl
      have x1 : w4.cell? ⟨w.heap.size, 1, none⟩ = some (.bool true) := (STF.out.shc 1).trans rfl
      have x2 : w4.cell? ⟨w.heap.size, 2, none⟩ = some (.bool false) := (STF.out.shc 2).trans rfl
      have x3 : w4.cell? ⟨w.heap.size, 3, none⟩ = some (.bool true) := (STF.out.shc 3).trans rfl
      have x4 : w4.cell? ⟨w.heap.size, 4, none⟩ = some (.int .i64 0) := (STF.out.shc 4).trans rfl
      have x5 : w4.cell? ⟨w.heap.size, 5, none⟩ = some (.int .i64 0) := (STF.out.shc 5).trans rfl
      have x6 : w4.cell? ⟨w.heap.size, 6, none⟩ = some (.bool false) := (STF.out.shc 6).trans rfl
      have x7 : w4.cell? ⟨w.heap.size, 7, none⟩ = some (.bool false) := (STF.out.shc 7).trans rfl
      have y0 : w4.cell? ⟨w.heap.size + 1, 0, none⟩ = some (.slice sF.A0 dF.bytes.length sF.c0) := (STF.out.dc 0).trans rfl
      have y1 : w4.cell? ⟨w.heap.size + 1, 1, none⟩ = some (.slice sF.A1 dF.host.length sF.c1) := (STF.out.dc 1).trans rfl
      have y2 : w4.cell? ⟨w.heap.size + 1, 2, none⟩ = some (.slice sF.A2 dF.mail.length sF.c2) := (STF.out.dc 2).trans rfl
      have y3 : w4.cell? ⟨w.heap.size + 1, 3, none⟩ = some (.slice sF.A3 dF.nums.length sF.c3) := (STF.out.dc 3).trans rfl
      have y4 : w4.cell? ⟨w.heap.size + 1, 4, none⟩ = some (.slice sF.A4 dF.texts.length sF.c4) := (STF.out.dc 4).trans rfl
      have yf := STF.out.df
      go_wp2
      go_quiet (fail)
      go_wp2
      obtain ⟨wm, hwm⟩ : ∃ u, u = ((((((w4.drewN nq).setCell ⟨w.heap.size + 1, 0, none⟩ (.slice sF.A0 dF.bytes.length sF.c0)).setCell ⟨w.heap.size + 1, 1, none⟩ (.slice sF.A1 dF.host.length sF.c1)).setCell ⟨w.heap.size + 1, 2, none⟩ (.slice sF.A2 dF.mail.length sF.c2)).setCell ⟨w.heap.size + 1, 3, none⟩ (.slice sF.A3 dF.nums.length sF.c3)).setCell ⟨w.heap.size + 1, 4, none⟩ (.slice sF.A4 dF.texts.length sF.c4)) := ⟨_, rfl⟩
      have STm : Hid (RdSt w wm p (.slice A n c) q1 en shpN sF dF) := by show RdSt _ _ _ _ _ _ _ _ _; rw [hwm]; exact (STF.out.below (dN bl nq)).same
      rw [← hwm]
      clear hwm y0 y1 y2 y3 y4 yf x0 x1 x2 x3 x4 x5 x6 x7
      have y0 : wm.cell? ⟨w.heap.size + 1, 0, none⟩ = some (.slice sF.A0 dF.bytes.length sF.c0) := (STm.out.dc 0).trans rfl
      have y1 : wm.cell? ⟨w.heap.size + 1, 1, none⟩ = some (.slice sF.A1 dF.host.length sF.c1) := (STm.out.dc 1).trans rfl
      have y2 : wm.cell? ⟨w.heap.size + 1, 2, none⟩ = some (.slice sF.A2 dF.mail.length sF.c2) := (STm.out.dc 2).trans rfl
      have y3 : wm.cell? ⟨w.heap.size + 1, 3, none⟩ = some (.slice sF.A3 dF.nums.length sF.c3) := (STm.out.dc 3).trans rfl
      have y4 : wm.cell? ⟨w.heap.size + 1, 4, none⟩ = some (.slice sF.A4 dF.texts.length sF.c4) := (STm.out.dc 4).trans rfl
      refine bodyPost_ret (v := .agg #[.slice sF.A0 dF.bytes.length sF.c0, .slice sF.A1 dF.host.length sF.c1, .slice sF.A2 dF.mail.length sF.c2, .slice sF.A3 dF.nums.length sF.c3, .slice sF.A4 dF.texts.length sF.c4]) ?_ rfl ?_
      · simp [results, Try.results199, go_sem, y0, y1, y2, y3, y4]
      · rw [HE.out]
        exact ⟨_, rfl, ⟨sF, rfl, STm.out.G.base_le (Nat.le_add_right _ _)⟩, STm.out.P, STm.out.C⟩

set_option maxHeartbeats 4000000 in
theorem gdataM_any (w : World) (p : Nat) (A : Option Addr) (n c pos en : Nat) (bs : List UInt8) (h : Rdr w p (.slice A n c) (pos : Int) (en : Int)) (hr : RdB w A n bs) (ho : offA A p) (hqpos : pos ≤ en) (hen : en ≤ n) (hn : n ≤ c) (hc : c ≤ 9223372036854775807) (hn2 : n ≤ 100000000) :
    Calls Try.prog 199 #[.pointer (some ⟨p, 0, none⟩), shpV shpM] w (RdX (dataE bs pos en shpM) (goodD w.heap.size) w p (.slice A n c) en) := by
  obtain ⟨w0, hw0⟩ : ∃ w0, w0 = (w.alloc (.cells #[.int .i64 0, .bool true, .bool false, .bool true, .int .i64 1, .int .i64 2, .bool false, .bool true] 182)).alloc (.cells #[.slice none 0 0, .slice none 0 0, .slice none 0 0, .slice none 0 0, .slice none 0 0] 46) := ⟨_, rfl⟩
  have ST0 : Hid (RdSt w w0 p (.slice A n c) pos en shpM DS.nil Da.zero) := by show RdSt _ _ _ _ _ _ _ _ _; rw [hw0]; exact RdSt.start h shpM
  have HR := Lib.hid hr
  clear h hr
  rw [show shpV shpM = .agg #[.int .i64 0, .bool true, .bool false, .bool true, .int .i64 1, .int .i64 2, .bool false, .bool true] from rfl]
  have x0 : w0.cell? ⟨w.heap.size, 0, none⟩ = some (.int .i64 0) := (ST0.out.shc 0).trans rfl
  have x1 : w0.cell? ⟨w.heap.size, 1, none⟩ = some (.bool true) := (ST0.out.shc 1).trans rfl
  have x2 : w0.cell? ⟨w.heap.size, 2, none⟩ = some (.bool false) := (ST0.out.shc 2).trans rfl
  have x3 : w0.cell? ⟨w.heap.size, 3, none⟩ = some (.bool true) := (ST0.out.shc 3).trans rfl
  have x4 : w0.cell? ⟨w.heap.size, 4, none⟩ = some (.int .i64 1) := (ST0.out.shc 4).trans rfl
  have x5 : w0.cell? ⟨w.heap.size, 5, none⟩ = some (.int .i64 2) := (ST0.out.shc 5).trans rfl
  have x6 : w0.cell? ⟨w.heap.size, 6, none⟩ = some (.bool false) := (ST0.out.shc 6).trans rfl
  have x7 : w0.cell? ⟨w.heap.size, 7, none⟩ = some (.bool true) := (ST0.out.shc 7).trans rfl
  go_enter Try.func199, Try.ntmps199
  go_upto_region 1 with (fail)
  rw [← hw0]
  clear hw0
  cases hx1 : numsR bs en 2 1 pos [] with
  | error x =>
    have HE : Hid (dataE bs pos en shpM = .error x) := by show _ = _; simp [dataE, dataR, shpM, hx1]
    have HX := Lib.hid hx1
    clear hx1
    go_wp2_with (first
      | (go_at_call 202; refine (gnums_any w0 p A n c pos en 1 2 bs shpM rfl rfl ST0.out.P (RdB.chgP HR.out ST0.out.C ho) ho hqpos hen hn hn2 (by decide) (by decide) (by decide)).mono ?_; rw [HX.out]; rintro e w9 ⟨rfl, hc9⟩)
      | fail)
    refine ⟨rfl, ?_⟩
    rw [HE.out]
    exact ⟨rfl, ST0.out.C.trans hc9 (fun _ h => .inl h)⟩
  | ok r =>
    obtain ⟨a1, q1⟩ := r
    have hqq1 : q1 ≤ en := numsR_le hqpos hx1
    have HX1 := Lib.hid hx1
    go_upto_region 9 with (first
      | (go_at_call 202; refine (gnums_any w0 p A n c pos en 1 2 bs shpM rfl rfl ST0.out.P (RdB.chgP HR.out ST0.out.C ho) ho hqpos hen hn hn2 (by decide) (by decide) (by decide)).mono ?_; rw [HX1.out]; rintro e w1 ⟨v1, rfl, hown1, hp1, hc1⟩; have ST1 := Lib.hid (ST0.out.call hp1 hc1); obtain ⟨A1, k1, rfl, _⟩ := OwnE.form hown1; have y3 : w1.cell? ⟨w.heap.size + 1, 3, none⟩ = some _ := (ST1.out.dc 3).trans rfl; have yf := ST1.out.df)
      | fail)
    obtain ⟨w2, hw2⟩ : ∃ u, u = w1.setCell ⟨w.heap.size + 1, 3, none⟩ (.slice A1 a1.length k1) := ⟨_, rfl⟩
    have hset1 := ST1.out.setN (OwnE.base_le hown1 ST0.out.size)
    rw [← hw2] at hset1
    have ST2 := Lib.hid hset1
    rw [← hw2]
    clear hw2 hset1 yf y3 x0 x1 x2 x3 x4 x5 x6 x7
    have x0 : w2.cell? ⟨w.heap.size, 0, none⟩ = some (.int .i64 0) := (ST2.out.shc 0).trans rfl
    have x1 : w2.cell? ⟨w.heap.size, 1, none⟩ = some (.bool true) := (ST2.out.shc 1).trans rfl
    have x2 : w2.cell? ⟨w.heap.size, 2, none⟩ = some (.bool false) := (ST2.out.shc 2).trans rfl
    have x3 : w2.cell? ⟨w.heap.size, 3, none⟩ = some (.bool true) := (ST2.out.shc 3).trans rfl
    have x4 : w2.cell? ⟨w.heap.size, 4, none⟩ = some (.int .i64 1) := (ST2.out.shc 4).trans rfl
    have x5 : w2.cell? ⟨w.heap.size, 5, none⟩ = some (.int .i64 2) := (ST2.out.shc 5).trans rfl
    have x6 : w2.cell? ⟨w.heap.size, 6, none⟩ = some (.bool false) := (ST2.out.shc 6).trans rfl
    have x7 : w2.cell? ⟨w.heap.size, 7, none⟩ = some (.bool true) := (ST2.out.shc 7).trans rfl
    cases hx2 : nameX bs q1 en with
    | error x =>
      have HE : Hid (dataE bs pos en shpM = .error x) := by show _ = _; simp [dataE, dataR, shpM, hx1, hx2]
      have HX := Lib.hid hx2
      clear hx2
      go_wp2_with (first
        | (go_at_call 203; refine (gname_any w2 p A n c q1 en bs ST2.out.P (RdB.chgP HR.out ST2.out.C ho) hn hn2).mono ?_; rw [HX.out]; rintro e w9 ⟨rfl, hc9⟩)
        | fail)
      refine ⟨rfl, ?_⟩
      rw [HE.out]
      exact ⟨rfl, ST2.out.C.trans hc9 (fun _ h => .inl h)⟩
    | ok r =>
      obtain ⟨a2, q2⟩ := r
      have hqq2 : q2 ≤ en := nameX_le hx2
      have HX2 := Lib.hid hx2
      go_upto_region 11 with (first
        | (go_at_call 203; refine (gname_any w2 p A n c q1 en bs ST2.out.P (RdB.chgP HR.out ST2.out.C ho) hn hn2).mono ?_; rw [HX2.out]; rintro e w3 ⟨v2, rfl, hown2, hp2, hc2⟩; have ST3 := Lib.hid (ST2.out.call hp2 hc2); obtain ⟨A2, k2, rfl, _⟩ := OwnE.form hown2; have y1 : w3.cell? ⟨w.heap.size + 1, 1, none⟩ = some _ := (ST3.out.dc 1).trans rfl; have yf := ST3.out.df)
        | fail)
      obtain ⟨w4, hw4⟩ : ∃ u, u = w3.setCell ⟨w.heap.size + 1, 1, none⟩ (.slice A2 a2.length k2) := ⟨_, rfl⟩
      have hset2 := ST3.out.setH (OwnE.base_le hown2 ST2.out.size)
      rw [← hw4] at hset2
      have ST4 := Lib.hid hset2
      rw [← hw4]
      clear hw4 hset2 yf y1 x0 x1 x2 x3 x4 x5 x6 x7
      have x0 : w4.cell? ⟨w.heap.size, 0, none⟩ = some (.int .i64 0) := (ST4.out.shc 0).trans rfl
      have x1 : w4.cell? ⟨w.heap.size, 1, none⟩ = some (.bool true) := (ST4.out.shc 1).trans rfl
      have x2 : w4.cell? ⟨w.heap.size, 2, none⟩ = some (.bool false) := (ST4.out.shc 2).trans rfl
      have x3 : w4.cell? ⟨w.heap.size, 3, none⟩ = some (.bool true) := (ST4.out.shc 3).trans rfl
      have x4 : w4.cell? ⟨w.heap.size, 4, none⟩ = some (.int .i64 1) := (ST4.out.shc 4).trans rfl
      have x5 : w4.cell? ⟨w.heap.size, 5, none⟩ = some (.int .i64 2) := (ST4.out.shc 5).trans rfl
      have x6 : w4.cell? ⟨w.heap.size, 6, none⟩ = some (.bool false) := (ST4.out.shc 6).trans rfl
      have x7 : w4.cell? ⟨w.heap.size, 7, none⟩ = some (.bool true) := (ST4.out.shc 7).trans rfl
      obtain ⟨rc0, rc1, rc2, rf⟩ := ST4.out.P.cells
      by_cases hlt : q2 < en
      · have HE : Hid (dataE bs pos en shpM = .error 7) := by show _ = _; simp [dataE, dataR, shpM, hx1, hx2, hlt]
        clear hx1 hx2
        go_wp2
        go_quiet (fail)
        go_wp2
        refine ⟨rfl, ?_⟩
        rw [HE.out]
        exact ⟨rfl, ST4.out.C.drewN nq⟩
      · have HE : Hid (dataE bs pos en shpM = .ok ({ Da.zero with nums := a1, host := a2 }, q2)) := by show _ = _; simp [dataE, dataR, shpM, hx1, hx2, hlt, Da.zero]
        clear hx1 hx2
        obtain ⟨sF, dF, STF, hdF⟩ : ∃ sF dF, Hid (RdSt w w4 p (.slice A n c) q2 en shpM sF dF) ∧ dF = { Da.zero with nums := a1, host := a2 } := ⟨_, _, ST4, rfl⟩
        rw [← hdF] at HE
        clear hdF x0 x1 x2 x3 x4 x5 x6 x7 ST4
        have x0 : w4.cell? ⟨w.heap.size, 0, none⟩ = some (.int .i64 0) := (STF.out.shc 0).trans rfl
        have x1 : w4.cell? ⟨w.heap.size, 1, none⟩ = some (.bool true) := (STF.out.shc 1).trans rfl
        have x2 : w4.cell? ⟨w.heap.size, 2, none⟩ = some (.bool false) := (STF.out.shc 2).trans rfl
        have x3 : w4.cell? ⟨w.heap.size, 3, none⟩ = some (.bool true) := (STF.out.shc 3).trans rfl
        have x4 : w4.cell? ⟨w.heap.size, 4, none⟩ = some (.int .i64 1) := (STF.out.shc 4).trans rfl
        have x5 : w4.cell? ⟨w.heap.size, 5, none⟩ = some (.int .i64 2) := (STF.out.shc 5).trans rfl
        have x6 : w4.cell? ⟨w.heap.size, 6, none⟩ = some (.bool false) := (STF.out.shc 6).trans rfl
        have x7 : w4.cell? ⟨w.heap.size, 7, none⟩ = some (.bool true) := (STF.out.shc 7).trans rfl
        have y0 : w4.cell? ⟨w.heap.size + 1, 0, none⟩ = some (.slice sF.A0 dF.bytes.length sF.c0) := (STF.out.dc 0).trans rfl
        have y1 : w4.cell? ⟨w.heap.size + 1, 1, none⟩ = some (.slice sF.A1 dF.host.length sF.c1) := (STF.out.dc 1).trans rfl
        have y2 : w4.cell? ⟨w.heap.size + 1, 2, none⟩ = some (.slice sF.A2 dF.mail.length sF.c2) := (STF.out.dc 2).trans rfl
        have y3 : w4.cell? ⟨w.heap.size + 1, 3, none⟩ = some (.slice sF.A3 dF.nums.length sF.c3) := (STF.out.dc 3).trans rfl
        have y4 : w4.cell? ⟨w.heap.size + 1, 4, none⟩ = some (.slice sF.A4 dF.texts.length sF.c4) := (STF.out.dc 4).trans rfl
        have yf := STF.out.df
        go_wp2
        go_quiet (fail)
        go_wp2
        obtain ⟨wm, hwm⟩ : ∃ u, u = ((((((w4.drewN nq).setCell ⟨w.heap.size + 1, 0, none⟩ (.slice sF.A0 dF.bytes.length sF.c0)).setCell ⟨w.heap.size + 1, 1, none⟩ (.slice sF.A1 dF.host.length sF.c1)).setCell ⟨w.heap.size + 1, 2, none⟩ (.slice sF.A2 dF.mail.length sF.c2)).setCell ⟨w.heap.size + 1, 3, none⟩ (.slice sF.A3 dF.nums.length sF.c3)).setCell ⟨w.heap.size + 1, 4, none⟩ (.slice sF.A4 dF.texts.length sF.c4)) := ⟨_, rfl⟩
        have STm : Hid (RdSt w wm p (.slice A n c) q2 en shpM sF dF) := by show RdSt _ _ _ _ _ _ _ _ _; rw [hwm]; exact (STF.out.below (dN bl nq)).same
        rw [← hwm]
        clear hwm y0 y1 y2 y3 y4 yf x0 x1 x2 x3 x4 x5 x6 x7
        have y0 : wm.cell? ⟨w.heap.size + 1, 0, none⟩ = some (.slice sF.A0 dF.bytes.length sF.c0) := (STm.out.dc 0).trans rfl
        have y1 : wm.cell? ⟨w.heap.size + 1, 1, none⟩ = some (.slice sF.A1 dF.host.length sF.c1) := (STm.out.dc 1).trans rfl
        have y2 : wm.cell? ⟨w.heap.size + 1, 2, none⟩ = some (.slice sF.A2 dF.mail.length sF.c2) := (STm.out.dc 2).trans rfl
        have y3 : wm.cell? ⟨w.heap.size + 1, 3, none⟩ = some (.slice sF.A3 dF.nums.length sF.c3) := (STm.out.dc 3).trans rfl
        have y4 : wm.cell? ⟨w.heap.size + 1, 4, none⟩ = some (.slice sF.A4 dF.texts.length sF.c4) := (STm.out.dc 4).trans rfl
        refine bodyPost_ret (v := .agg #[.slice sF.A0 dF.bytes.length sF.c0, .slice sF.A1 dF.host.length sF.c1, .slice sF.A2 dF.mail.length sF.c2, .slice sF.A3 dF.nums.length sF.c3, .slice sF.A4 dF.texts.length sF.c4]) ?_ rfl ?_
        · simp [results, Try.results199, go_sem, y0, y1, y2, y3, y4]
        · rw [HE.out]
          exact ⟨_, rfl, ⟨sF, rfl, STm.out.G.base_le (Nat.le_add_right _ _)⟩, STm.out.P, STm.out.C⟩

set_option maxHeartbeats 4000000 in
theorem gdataS_any (w : World) (p : Nat) (A : Option Addr) (n c pos en : Nat) (bs : List UInt8) (h : Rdr w p (.slice A n c) (pos : Int) (en : Int)) (hr : RdB w A n bs) (ho : offA A p) (hqpos : pos ≤ en) (hen : en ≤ n) (hn : n ≤ c) (hc : c ≤ 9223372036854775807) (hn2 : n ≤ 100000000) :
    Calls Try.prog 199 #[.pointer (some ⟨p, 0, none⟩), shpV shpS] w (RdX (dataE bs pos en shpS) (goodD w.heap.size) w p (.slice A n c) en) := by
  obtain ⟨w0, hw0⟩ : ∃ w0, w0 = (w.alloc (.cells #[.int .i64 0, .bool true, .bool true, .bool true, .int .i64 5, .int .i64 4, .bool false, .bool false] 182)).alloc (.cells #[.slice none 0 0, .slice none 0 0, .slice none 0 0, .slice none 0 0, .slice none 0 0] 46) := ⟨_, rfl⟩
  have ST0 : Hid (RdSt w w0 p (.slice A n c) pos en shpS DS.nil Da.zero) := by show RdSt _ _ _ _ _ _ _ _ _; rw [hw0]; exact RdSt.start h shpS
  have HR := Lib.hid hr
  clear h hr
  rw [show shpV shpS = .agg #[.int .i64 0, .bool true, .bool true, .bool true, .int .i64 5, .int .i64 4, .bool false, .bool false] from rfl]
  have x0 : w0.cell? ⟨w.heap.size, 0, none⟩ = some (.int .i64 0) := (ST0.out.shc 0).trans rfl
  have x1 : w0.cell? ⟨w.heap.size, 1, none⟩ = some (.bool true) := (ST0.out.shc 1).trans rfl
  have x2 : w0.cell? ⟨w.heap.size, 2, none⟩ = some (.bool true) := (ST0.out.shc 2).trans rfl
  have x3 : w0.cell? ⟨w.heap.size, 3, none⟩ = some (.bool true) := (ST0.out.shc 3).trans rfl
  have x4 : w0.cell? ⟨w.heap.size, 4, none⟩ = some (.int .i64 5) := (ST0.out.shc 4).trans rfl
  have x5 : w0.cell? ⟨w.heap.size, 5, none⟩ = some (.int .i64 4) := (ST0.out.shc 5).trans rfl
  have x6 : w0.cell? ⟨w.heap.size, 6, none⟩ = some (.bool false) := (ST0.out.shc 6).trans rfl
  have x7 : w0.cell? ⟨w.heap.size, 7, none⟩ = some (.bool false) := (ST0.out.shc 7).trans rfl
  go_enter Try.func199, Try.ntmps199
  go_upto_region 1 with (fail)
  rw [← hw0]
  clear hw0
  cases hx1 : nameX bs pos en with
  | error x =>
    have HE : Hid (dataE bs pos en shpS = .error x) := by show _ = _; simp [dataE, dataR, shpS, hx1]
    have HX := Lib.hid hx1
    clear hx1
    go_wp2_with (first
      | (go_at_call 203; refine (gname_any w0 p A n c pos en bs ST0.out.P (RdB.chgP HR.out ST0.out.C ho) hn hn2).mono ?_; rw [HX.out]; rintro e w9 ⟨rfl, hc9⟩)
      | fail)
    refine ⟨rfl, ?_⟩
    rw [HE.out]
    exact ⟨rfl, ST0.out.C.trans hc9 (fun _ h => .inl h)⟩
  | ok r =>
    obtain ⟨a1, q1⟩ := r
    have hqq1 : q1 ≤ en := nameX_le hx1
    have HX1 := Lib.hid hx1
    go_upto_region 11 with (first
      | (go_at_call 203; refine (gname_any w0 p A n c pos en bs ST0.out.P (RdB.chgP HR.out ST0.out.C ho) hn hn2).mono ?_; rw [HX1.out]; rintro e w1 ⟨v1, rfl, hown1, hp1, hc1⟩; have ST1 := Lib.hid (ST0.out.call hp1 hc1); obtain ⟨A1, k1, rfl, _⟩ := OwnE.form hown1; have y1 : w1.cell? ⟨w.heap.size + 1, 1, none⟩ = some _ := (ST1.out.dc 1).trans rfl; have yf := ST1.out.df)
      | fail)
    obtain ⟨w2, hw2⟩ : ∃ u, u = w1.setCell ⟨w.heap.size + 1, 1, none⟩ (.slice A1 a1.length k1) := ⟨_, rfl⟩
    have hset1 := ST1.out.setH (OwnE.base_le hown1 ST0.out.size)
    rw [← hw2] at hset1
    have ST2 := Lib.hid hset1
    rw [← hw2]
    clear hw2 hset1 yf y1 x0 x1 x2 x3 x4 x5 x6 x7
    have x0 : w2.cell? ⟨w.heap.size, 0, none⟩ = some (.int .i64 0) := (ST2.out.shc 0).trans rfl
    have x1 : w2.cell? ⟨w.heap.size, 1, none⟩ = some (.bool true) := (ST2.out.shc 1).trans rfl
    have x2 : w2.cell? ⟨w.heap.size, 2, none⟩ = some (.bool true) := (ST2.out.shc 2).trans rfl
    have x3 : w2.cell? ⟨w.heap.size, 3, none⟩ = some (.bool true) := (ST2.out.shc 3).trans rfl
    have x4 : w2.cell? ⟨w.heap.size, 4, none⟩ = some (.int .i64 5) := (ST2.out.shc 4).trans rfl
    have x5 : w2.cell? ⟨w.heap.size, 5, none⟩ = some (.int .i64 4) := (ST2.out.shc 5).trans rfl
    have x6 : w2.cell? ⟨w.heap.size, 6, none⟩ = some (.bool false) := (ST2.out.shc 6).trans rfl
    have x7 : w2.cell? ⟨w.heap.size, 7, none⟩ = some (.bool false) := (ST2.out.shc 7).trans rfl
    cases hx2 : nameX bs q1 en with
    | error x =>
      have HE : Hid (dataE bs pos en shpS = .error x) := by show _ = _; simp [dataE, dataR, shpS, hx1, hx2]
      have HX := Lib.hid hx2
      clear hx2
      go_wp2_with (first
        | (go_at_call 203; refine (gname_any w2 p A n c q1 en bs ST2.out.P (RdB.chgP HR.out ST2.out.C ho) hn hn2).mono ?_; rw [HX.out]; rintro e w9 ⟨rfl, hc9⟩)
        | fail)
      refine ⟨rfl, ?_⟩
      rw [HE.out]
      exact ⟨rfl, ST2.out.C.trans hc9 (fun _ h => .inl h)⟩
    | ok r =>
      obtain ⟨a2, q2⟩ := r
      have hqq2 : q2 ≤ en := nameX_le hx2
      have HX2 := Lib.hid hx2
      go_upto_region 13 with (first
        | (go_at_call 203; refine (gname_any w2 p A n c q1 en bs ST2.out.P (RdB.chgP HR.out ST2.out.C ho) hn hn2).mono ?_; rw [HX2.out]; rintro e w3 ⟨v2, rfl, hown2, hp2, hc2⟩; have ST3 := Lib.hid (ST2.out.call hp2 hc2); obtain ⟨A2, k2, rfl, _⟩ := OwnE.form hown2; have y2 : w3.cell? ⟨w.heap.size + 1, 2, none⟩ = some _ := (ST3.out.dc 2).trans rfl; have yf := ST3.out.df)
        | fail)
      obtain ⟨w4, hw4⟩ : ∃ u, u = w3.setCell ⟨w.heap.size + 1, 2, none⟩ (.slice A2 a2.length k2) := ⟨_, rfl⟩
      have hset2 := ST3.out.setM (OwnE.base_le hown2 ST2.out.size)
      rw [← hw4] at hset2
      have ST4 := Lib.hid hset2
      rw [← hw4]
      clear hw4 hset2 yf y2 x0 x1 x2 x3 x4 x5 x6 x7
      have x0 : w4.cell? ⟨w.heap.size, 0, none⟩ = some (.int .i64 0) := (ST4.out.shc 0).trans rfl
      have x1 : w4.cell? ⟨w.heap.size, 1, none⟩ = some (.bool true) := (ST4.out.shc 1).trans rfl
      have x2 : w4.cell? ⟨w.heap.size, 2, none⟩ = some (.bool true) := (ST4.out.shc 2).trans rfl
      have x3 : w4.cell? ⟨w.heap.size, 3, none⟩ = some (.bool true) := (ST4.out.shc 3).trans rfl
      have x4 : w4.cell? ⟨w.heap.size, 4, none⟩ = some (.int .i64 5) := (ST4.out.shc 4).trans rfl
      have x5 : w4.cell? ⟨w.heap.size, 5, none⟩ = some (.int .i64 4) := (ST4.out.shc 5).trans rfl
      have x6 : w4.cell? ⟨w.heap.size, 6, none⟩ = some (.bool false) := (ST4.out.shc 6).trans rfl
      have x7 : w4.cell? ⟨w.heap.size, 7, none⟩ = some (.bool false) := (ST4.out.shc 7).trans rfl
      cases hx3 : numsR bs en 4 5 q2 [] with
      | error x =>
        have HE : Hid (dataE bs pos en shpS = .error x) := by show _ = _; simp [dataE, dataR, shpS, hx1, hx2, hx3]
        have HX := Lib.hid hx3
        clear hx3
        go_wp2_with (first
          | (go_at_call 202; refine (gnums_any w4 p A n c q2 en 5 4 bs shpS rfl rfl ST4.out.P (RdB.chgP HR.out ST4.out.C ho) ho hqq2 hen hn hn2 (by decide) (by decide) (by decide)).mono ?_; rw [HX.out]; rintro e w9 ⟨rfl, hc9⟩)
          | fail)
        refine ⟨rfl, ?_⟩
        rw [HE.out]
        exact ⟨rfl, ST4.out.C.trans hc9 (fun _ h => .inl h)⟩
      | ok r =>
        obtain ⟨a3, q3⟩ := r
        have hqq3 : q3 ≤ en := numsR_le hqq2 hx3
        have HX3 := Lib.hid hx3
        go_upto_region 15 with (first
          | (go_at_call 202; refine (gnums_any w4 p A n c q2 en 5 4 bs shpS rfl rfl ST4.out.P (RdB.chgP HR.out ST4.out.C ho) ho hqq2 hen hn hn2 (by decide) (by decide) (by decide)).mono ?_; rw [HX3.out]; rintro e w5 ⟨v3, rfl, hown3, hp3, hc3⟩; have ST5 := Lib.hid (ST4.out.call hp3 hc3); obtain ⟨A3, k3, rfl, _⟩ := OwnE.form hown3; have y3 : w5.cell? ⟨w.heap.size + 1, 3, none⟩ = some _ := (ST5.out.dc 3).trans rfl; have yf := ST5.out.df)
          | fail)
        obtain ⟨w6, hw6⟩ : ∃ u, u = w5.setCell ⟨w.heap.size + 1, 3, none⟩ (.slice A3 a3.length k3) := ⟨_, rfl⟩
        have hset3 := ST5.out.setN (OwnE.base_le hown3 ST4.out.size)
        rw [← hw6] at hset3
        have ST6 := Lib.hid hset3
        rw [← hw6]
        clear hw6 hset3 yf y3 x0 x1 x2 x3 x4 x5 x6 x7
        have x0 : w6.cell? ⟨w.heap.size, 0, none⟩ = some (.int .i64 0) := (ST6.out.shc 0).trans rfl
        have x1 : w6.cell? ⟨w.heap.size, 1, none⟩ = some (.bool true) := (ST6.out.shc 1).trans rfl
        have x2 : w6.cell? ⟨w.heap.size, 2, none⟩ = some (.bool true) := (ST6.out.shc 2).trans rfl
        have x3 : w6.cell? ⟨w.heap.size, 3, none⟩ = some (.bool true) := (ST6.out.shc 3).trans rfl
        have x4 : w6.cell? ⟨w.heap.size, 4, none⟩ = some (.int .i64 5) := (ST6.out.shc 4).trans rfl
        have x5 : w6.cell? ⟨w.heap.size, 5, none⟩ = some (.int .i64 4) := (ST6.out.shc 5).trans rfl
        have x6 : w6.cell? ⟨w.heap.size, 6, none⟩ = some (.bool false) := (ST6.out.shc 6).trans rfl
        have x7 : w6.cell? ⟨w.heap.size, 7, none⟩ = some (.bool false) := (ST6.out.shc 7).trans rfl
        obtain ⟨rc0, rc1, rc2, rf⟩ := ST6.out.P.cells
        by_cases hlt : q3 < en
        · have HE : Hid (dataE bs pos en shpS = .error 7) := by show _ = _; simp [dataE, dataR, shpS, hx1, hx2, hx3, hlt]
          clear hx1 hx2 hx3
          go_wp2
          go_quiet (fail)
          go_wp2
          refine ⟨rfl, ?_⟩
          rw [HE.out]
          exact ⟨rfl, ST6.out.C.drewN nq⟩
        · have HE : Hid (dataE bs pos en shpS = .ok ({ Da.zero with host := a1, mail := a2, nums := a3 }, q3)) := by show _ = _; simp [dataE, dataR, shpS, hx1, hx2, hx3, hlt, Da.zero]
          clear hx1 hx2 hx3
          obtain ⟨sF, dF, STF, hdF⟩ : ∃ sF dF, Hid (RdSt w w6 p (.slice A n c) q3 en shpS sF dF) ∧ dF = { Da.zero with host := a1, mail := a2, nums := a3 } := ⟨_, _, ST6, rfl⟩
          rw [← hdF] at HE
          clear hdF x0 x1 x2 x3 x4 x5 x6 x7 ST6
          have x0 : w6.cell? ⟨w.heap.size, 0, none⟩ = some (.int .i64 0) := (STF.out.shc 0).trans rfl
          have x1 : w6.cell? ⟨w.heap.size, 1, none⟩ = some (.bool true) := (STF.out.shc 1).trans rfl
          have x2 : w6.cell? ⟨w.heap.size, 2, none⟩ = some (.bool true) := (STF.out.shc 2).trans rfl
          have x3 : w6.cell? ⟨w.heap.size, 3, none⟩ = some (.bool true) := (STF.out.shc 3).trans rfl
          have x4 : w6.cell? ⟨w.heap.size, 4, none⟩ = some (.int .i64 5) := (STF.out.shc 4).trans rfl
          have x5 : w6.cell? ⟨w.heap.size, 5, none⟩ = some (.int .i64 4) := (STF.out.shc 5).trans rfl
          have x6 : w6.cell? ⟨w.heap.size, 6, none⟩ = some (.bool false) := (STF.out.shc 6).trans rfl
          have x7 : w6.cell? ⟨w.heap.size, 7, none⟩ = some (.bool false) := (STF.out.shc 7).trans rfl
          have y0 : w6.cell? ⟨w.heap.size + 1, 0, none⟩ = some (.slice sF.A0 dF.bytes.length sF.c0) := (STF.out.dc 0).trans rfl
          have y1 : w6.cell? ⟨w.heap.size + 1, 1, none⟩ = some (.slice sF.A1 dF.host.length sF.c1) := (STF.out.dc 1).trans rfl
          have y2 : w6.cell? ⟨w.heap.size + 1, 2, none⟩ = some (.slice sF.A2 dF.mail.length sF.c2) := (STF.out.dc 2).trans rfl
          have y3 : w6.cell? ⟨w.heap.size + 1, 3, none⟩ = some (.slice sF.A3 dF.nums.length sF.c3) := (STF.out.dc 3).trans rfl
          have y4 : w6.cell? ⟨w.heap.size + 1, 4, none⟩ = some (.slice sF.A4 dF.texts.length sF.c4) := (STF.out.dc 4).trans rfl
          have yf := STF.out.df
          go_wp2
          go_quiet (fail)
          go_wp2
          obtain ⟨wm, hwm⟩ : ∃ u, u = ((((((w6.drewN nq).setCell ⟨w.heap.size + 1, 0, none⟩ (.slice sF.A0 dF.bytes.length sF.c0)).setCell ⟨w.heap.size + 1, 1, none⟩ (.slice sF.A1 dF.host.length sF.c1)).setCell ⟨w.heap.size + 1, 2, none⟩ (.slice sF.A2 dF.mail.length sF.c2)).setCell ⟨w.heap.size + 1, 3, none⟩ (.slice sF.A3 dF.nums.length sF.c3)).setCell ⟨w.heap.size + 1, 4, none⟩ (.slice sF.A4 dF.texts.length sF.c4)) := ⟨_, rfl⟩
          have STm : Hid (RdSt w wm p (.slice A n c) q3 en shpS sF dF) := by show RdSt _ _ _ _ _ _ _ _ _; rw [hwm]; exact (STF.out.below (dN bl nq)).same
          rw [← hwm]
          clear hwm y0 y1 y2 y3 y4 yf x0 x1 x2 x3 x4 x5 x6 x7
          have y0 : wm.cell? ⟨w.heap.size + 1, 0, none⟩ = some (.slice sF.A0 dF.bytes.length sF.c0) := (STm.out.dc 0).trans rfl
          have y1 : wm.cell? ⟨w.heap.size + 1, 1, none⟩ = some (.slice sF.A1 dF.host.length sF.c1) := (STm.out.dc 1).trans rfl
          have y2 : wm.cell? ⟨w.heap.size + 1, 2, none⟩ = some (.slice sF.A2 dF.mail.length sF.c2) := (STm.out.dc 2).trans rfl
          have y3 : wm.cell? ⟨w.heap.size + 1, 3, none⟩ = some (.slice sF.A3 dF.nums.length sF.c3) := (STm.out.dc 3).trans rfl
          have y4 : wm.cell? ⟨w.heap.size + 1, 4, none⟩ = some (.slice sF.A4 dF.texts.length sF.c4) := (STm.out.dc 4).trans rfl
          refine bodyPost_ret (v := .agg #[.slice sF.A0 dF.bytes.length sF.c0, .slice sF.A1 dF.host.length sF.c1, .slice sF.A2 dF.mail.length sF.c2, .slice sF.A3 dF.nums.length sF.c3, .slice sF.A4 dF.texts.length sF.c4]) ?_ rfl ?_
          · simp [results, Try.results199, go_sem, y0, y1, y2, y3, y4]
          · rw [HE.out]
            exact ⟨_, rfl, ⟨sF, rfl, STm.out.G.base_le (Nat.le_add_right _ _)⟩, STm.out.P, STm.out.C⟩

set_option maxHeartbeats 4000000 in
theorem gdataV3_any (w : World) (p : Nat) (A : Option Addr) (n c pos en : Nat) (bs : List UInt8) (h : Rdr w p (.slice A n c) (pos : Int) (en : Int)) (hr : RdB w A n bs) (ho : offA A p) (hqpos : pos ≤ en) (hen : en ≤ n) (hn : n ≤ c) (hc : c ≤ 9223372036854775807) (hn2 : n ≤ 100000000) :
    Calls Try.prog 199 #[.pointer (some ⟨p, 0, none⟩), shpV shpV3] w (RdX (dataE bs pos en shpV3) (goodD w.heap.size) w p (.slice A n c) en) := by
  obtain ⟨w0, hw0⟩ : ∃ w0, w0 = (w.alloc (.cells #[.int .i64 0, .bool true, .bool false, .bool false, .int .i64 3, .int .i64 2, .bool false, .bool true] 182)).alloc (.cells #[.slice none 0 0, .slice none 0 0, .slice none 0 0, .slice none 0 0, .slice none 0 0] 46) := ⟨_, rfl⟩
  have ST0 : Hid (RdSt w w0 p (.slice A n c) pos en shpV3 DS.nil Da.zero) := by show RdSt _ _ _ _ _ _ _ _ _; rw [hw0]; exact RdSt.start h shpV3
  have HR := Lib.hid hr
  clear h hr
  rw [show shpV shpV3 = .agg #[.int .i64 0, .bool true, .bool false, .bool false, .int .i64 3, .int .i64 2, .bool false, .bool true] from rfl]
  have x0 : w0.cell? ⟨w.heap.size, 0, none⟩ = some (.int .i64 0) := (ST0.out.shc 0).trans rfl
  have x1 : w0.cell? ⟨w.heap.size, 1, none⟩ = some (.bool true) := (ST0.out.shc 1).trans rfl
  have x2 : w0.cell? ⟨w.heap.size, 2, none⟩ = some (.bool false) := (ST0.out.shc 2).trans rfl
  have x3 : w0.cell? ⟨w.heap.size, 3, none⟩ = some (.bool false) := (ST0.out.shc 3).trans rfl
  have x4 : w0.cell? ⟨w.heap.size, 4, none⟩ = some (.int .i64 3) := (ST0.out.shc 4).trans rfl
  have x5 : w0.cell? ⟨w.heap.size, 5, none⟩ = some (.int .i64 2) := (ST0.out.shc 5).trans rfl
  have x6 : w0.cell? ⟨w.heap.size, 6, none⟩ = some (.bool false) := (ST0.out.shc 6).trans rfl
  have x7 : w0.cell? ⟨w.heap.size, 7, none⟩ = some (.bool true) := (ST0.out.shc 7).trans rfl
  go_enter Try.func199, Try.ntmps199
  go_upto_region 1 with (fail)
  rw [← hw0]
  clear hw0
  cases hx1 : numsR bs en 2 3 pos [] with
  | error x =>
    have HE : Hid (dataE bs pos en shpV3 = .error x) := by show _ = _; simp [dataE, dataR, shpV3, hx1]
    have HX := Lib.hid hx1
    clear hx1
    go_wp2_with (first
      | (go_at_call 202; refine (gnums_any w0 p A n c pos en 3 2 bs shpV3 rfl rfl ST0.out.P (RdB.chgP HR.out ST0.out.C ho) ho hqpos hen hn hn2 (by decide) (by decide) (by decide)).mono ?_; rw [HX.out]; rintro e w9 ⟨rfl, hc9⟩)
      | fail)
    refine ⟨rfl, ?_⟩
    rw [HE.out]
    exact ⟨rfl, ST0.out.C.trans hc9 (fun _ h => .inl h)⟩
  | ok r =>
    obtain ⟨a1, q1⟩ := r
    have hqq1 : q1 ≤ en := numsR_le hqpos hx1
    have HX1 := Lib.hid hx1
    go_upto_region 9 with (first
      | (go_at_call 202; refine (gnums_any w0 p A n c pos en 3 2 bs shpV3 rfl rfl ST0.out.P (RdB.chgP HR.out ST0.out.C ho) ho hqpos hen hn hn2 (by decide) (by decide) (by decide)).mono ?_; rw [HX1.out]; rintro e w1 ⟨v1, rfl, hown1, hp1, hc1⟩; have ST1 := Lib.hid (ST0.out.call hp1 hc1); obtain ⟨A1, k1, rfl, _⟩ := OwnE.form hown1; have y3 : w1.cell? ⟨w.heap.size + 1, 3, none⟩ = some _ := (ST1.out.dc 3).trans rfl; have yf := ST1.out.df)
      | fail)
    obtain ⟨w2, hw2⟩ : ∃ u, u = w1.setCell ⟨w.heap.size + 1, 3, none⟩ (.slice A1 a1.length k1) := ⟨_, rfl⟩
    have hset1 := ST1.out.setN (OwnE.base_le hown1 ST0.out.size)
    rw [← hw2] at hset1
    have ST2 := Lib.hid hset1
    rw [← hw2]
    clear hw2 hset1 yf y3 x0 x1 x2 x3 x4 x5 x6 x7
    have x0 : w2.cell? ⟨w.heap.size, 0, none⟩ = some (.int .i64 0) := (ST2.out.shc 0).trans rfl
    have x1 : w2.cell? ⟨w.heap.size, 1, none⟩ = some (.bool true) := (ST2.out.shc 1).trans rfl
    have x2 : w2.cell? ⟨w.heap.size, 2, none⟩ = some (.bool false) := (ST2.out.shc 2).trans rfl
    have x3 : w2.cell? ⟨w.heap.size, 3, none⟩ = some (.bool false) := (ST2.out.shc 3).trans rfl
    have x4 : w2.cell? ⟨w.heap.size, 4, none⟩ = some (.int .i64 3) := (ST2.out.shc 4).trans rfl
    have x5 : w2.cell? ⟨w.heap.size, 5, none⟩ = some (.int .i64 2) := (ST2.out.shc 5).trans rfl
    have x6 : w2.cell? ⟨w.heap.size, 6, none⟩ = some (.bool false) := (ST2.out.shc 6).trans rfl
    have x7 : w2.cell? ⟨w.heap.size, 7, none⟩ = some (.bool true) := (ST2.out.shc 7).trans rfl
    cases hx2 : nameX bs q1 en with
    | error x =>
      have HE : Hid (dataE bs pos en shpV3 = .error x) := by show _ = _; simp [dataE, dataR, shpV3, hx1, hx2]
      have HX := Lib.hid hx2
      clear hx2
      go_wp2_with (first
        | (go_at_call 203; refine (gname_any w2 p A n c q1 en bs ST2.out.P (RdB.chgP HR.out ST2.out.C ho) hn hn2).mono ?_; rw [HX.out]; rintro e w9 ⟨rfl, hc9⟩)
        | fail)
      refine ⟨rfl, ?_⟩
      rw [HE.out]
      exact ⟨rfl, ST2.out.C.trans hc9 (fun _ h => .inl h)⟩
    | ok r =>
      obtain ⟨a2, q2⟩ := r
      have hqq2 : q2 ≤ en := nameX_le hx2
      have HX2 := Lib.hid hx2
      go_upto_region 11 with (first
        | (go_at_call 203; refine (gname_any w2 p A n c q1 en bs ST2.out.P (RdB.chgP HR.out ST2.out.C ho) hn hn2).mono ?_; rw [HX2.out]; rintro e w3 ⟨v2, rfl, hown2, hp2, hc2⟩; have ST3 := Lib.hid (ST2.out.call hp2 hc2); obtain ⟨A2, k2, rfl, _⟩ := OwnE.form hown2; have y1 : w3.cell? ⟨w.heap.size + 1, 1, none⟩ = some _ := (ST3.out.dc 1).trans rfl; have yf := ST3.out.df)
        | fail)
      obtain ⟨w4, hw4⟩ : ∃ u, u = w3.setCell ⟨w.heap.size + 1, 1, none⟩ (.slice A2 a2.length k2) := ⟨_, rfl⟩
      have hset2 := ST3.out.setH (OwnE.base_le hown2 ST2.out.size)
      rw [← hw4] at hset2
      have ST4 := Lib.hid hset2
      rw [← hw4]
      clear hw4 hset2 yf y1 x0 x1 x2 x3 x4 x5 x6 x7
      have x0 : w4.cell? ⟨w.heap.size, 0, none⟩ = some (.int .i64 0) := (ST4.out.shc 0).trans rfl
      have x1 : w4.cell? ⟨w.heap.size, 1, none⟩ = some (.bool true) := (ST4.out.shc 1).trans rfl
      have x2 : w4.cell? ⟨w.heap.size, 2, none⟩ = some (.bool false) := (ST4.out.shc 2).trans rfl
      have x3 : w4.cell? ⟨w.heap.size, 3, none⟩ = some (.bool false) := (ST4.out.shc 3).trans rfl
      have x4 : w4.cell? ⟨w.heap.size, 4, none⟩ = some (.int .i64 3) := (ST4.out.shc 4).trans rfl
      have x5 : w4.cell? ⟨w.heap.size, 5, none⟩ = some (.int .i64 2) := (ST4.out.shc 5).trans rfl
      have x6 : w4.cell? ⟨w.heap.size, 6, none⟩ = some (.bool false) := (ST4.out.shc 6).trans rfl
      have x7 : w4.cell? ⟨w.heap.size, 7, none⟩ = some (.bool true) := (ST4.out.shc 7).trans rfl
      obtain ⟨rc0, rc1, rc2, rf⟩ := ST4.out.P.cells
      by_cases hlt : q2 < en
      · have HE : Hid (dataE bs pos en shpV3 = .error 7) := by show _ = _; simp [dataE, dataR, shpV3, hx1, hx2, hlt]
        clear hx1 hx2
        go_wp2
        go_quiet (fail)
        go_wp2
        refine ⟨rfl, ?_⟩
        rw [HE.out]
        exact ⟨rfl, ST4.out.C.drewN nq⟩
      · have HE : Hid (dataE bs pos en shpV3 = .ok ({ Da.zero with nums := a1, host := a2 }, q2)) := by show _ = _; simp [dataE, dataR, shpV3, hx1, hx2, hlt, Da.zero]
        clear hx1 hx2
        obtain ⟨sF, dF, STF, hdF⟩ : ∃ sF dF, Hid (RdSt w w4 p (.slice A n c) q2 en shpV3 sF dF) ∧ dF = { Da.zero with nums := a1, host := a2 } := ⟨_, _, ST4, rfl⟩
        rw [← hdF] at HE
        clear hdF x0 x1 x2 x3 x4 x5 x6 x7 ST4
        have x0 : w4.cell? ⟨w.heap.size, 0, none⟩ = some (.int .i64 0) := (STF.out.shc 0).trans rfl
        have x1 : w4.cell? ⟨w.heap.size, 1, none⟩ = some (.bool true) := (STF.out.shc 1).trans rfl
        have x2 : w4.cell? ⟨w.heap.size, 2, none⟩ = some (.bool false) := (STF.out.shc 2).trans rfl
        have x3 : w4.cell? ⟨w.heap.size, 3, none⟩ = some (.bool false) := (STF.out.shc 3).trans rfl
        have x4 : w4.cell? ⟨w.heap.size, 4, none⟩ = some (.int .i64 3) := (STF.out.shc 4).trans rfl
        have x5 : w4.cell? ⟨w.heap.size, 5, none⟩ = some (.int .i64 2) := (STF.out.shc 5).trans rfl
        have x6 : w4.cell? ⟨w.heap.size, 6, none⟩ = some (.bool false) := (STF.out.shc 6).trans rfl
        have x7 : w4.cell? ⟨w.heap.size, 7, none⟩ = some (.bool true) := (STF.out.shc 7).trans rfl
        have y0 : w4.cell? ⟨w.heap.size + 1, 0, none⟩ = some (.slice sF.A0 dF.bytes.length sF.c0) := (STF.out.dc 0).trans rfl
        have y1 : w4.cell? ⟨w.heap.size + 1, 1, none⟩ = some (.slice sF.A1 dF.host.length sF.c1) := (STF.out.dc 1).trans rfl
        have y2 : w4.cell? ⟨w.heap.size + 1, 2, none⟩ = some (.slice sF.A2 dF.mail.length sF.c2) := (STF.out.dc 2).trans rfl
        have y3 : w4.cell? ⟨w.heap.size + 1, 3, none⟩ = some (.slice sF.A3 dF.nums.length sF.c3) := (STF.out.dc 3).trans rfl
        have y4 : w4.cell? ⟨w.heap.size + 1, 4, none⟩ = some (.slice sF.A4 dF.texts.length sF.c4) := (STF.out.dc 4).trans rfl
        have yf := STF.out.df
        go_wp2
        go_quiet (fail)
        go_wp2
        obtain ⟨wm, hwm⟩ : ∃ u, u = ((((((w4.drewN nq).setCell ⟨w.heap.size + 1, 0, none⟩ (.slice sF.A0 dF.bytes.length sF.c0)).setCell ⟨w.heap.size + 1, 1, none⟩ (.slice sF.A1 dF.host.length sF.c1)).setCell ⟨w.heap.size + 1, 2, none⟩ (.slice sF.A2 dF.mail.length sF.c2)).setCell ⟨w.heap.size + 1, 3, none⟩ (.slice sF.A3 dF.nums.length sF.c3)).setCell ⟨w.heap.size + 1, 4, none⟩ (.slice sF.A4 dF.texts.length sF.c4)) := ⟨_, rfl⟩
        have STm : Hid (RdSt w wm p (.slice A n c) q2 en shpV3 sF dF) := by show RdSt _ _ _ _ _ _ _ _ _; rw [hwm]; exact (STF.out.below (dN bl nq)).same
        rw [← hwm]
        clear hwm y0 y1 y2 y3 y4 yf x0 x1 x2 x3 x4 x5 x6 x7
        have y0 : wm.cell? ⟨w.heap.size + 1, 0, none⟩ = some (.slice sF.A0 dF.bytes.length sF.c0) := (STm.out.dc 0).trans rfl
        have y1 : wm.cell? ⟨w.heap.size + 1, 1, none⟩ = some (.slice sF.A1 dF.host.length sF.c1) := (STm.out.dc 1).trans rfl
        have y2 : wm.cell? ⟨w.heap.size + 1, 2, none⟩ = some (.slice sF.A2 dF.mail.length sF.c2) := (STm.out.dc 2).trans rfl
        have y3 : wm.cell? ⟨w.heap.size + 1, 3, none⟩ = some (.slice sF.A3 dF.nums.length sF.c3) := (STm.out.dc 3).trans rfl
        have y4 : wm.cell? ⟨w.heap.size + 1, 4, none⟩ = some (.slice sF.A4 dF.texts.length sF.c4) := (STm.out.dc 4).trans rfl
        refine bodyPost_ret (v := .agg #[.slice sF.A0 dF.bytes.length sF.c0, .slice sF.A1 dF.host.length sF.c1, .slice sF.A2 dF.mail.length sF.c2, .slice sF.A3 dF.nums.length sF.c3, .slice sF.A4 dF.texts.length sF.c4]) ?_ rfl ?_
        · simp [results, Try.results199, go_sem, y0, y1, y2, y3, y4]
        · rw [HE.out]
          exact ⟨_, rfl, ⟨sF, rfl, STm.out.G.base_le (Nat.le_add_right _ _)⟩, STm.out.P, STm.out.C⟩

set_option maxHeartbeats 4000000 in
theorem gdataT_any (w : World) (p : Nat) (A : Option Addr) (n c pos en : Nat) (bs : List UInt8) (h : Rdr w p (.slice A n c) (pos : Int) (en : Int)) (hr : RdB w A n bs) (ho : offA A p) (hqpos : pos ≤ en) (hen : en ≤ n) (hn : n ≤ c) (hc : c ≤ 9223372036854775807) (hn2 : n ≤ 100000000) :
    Calls Try.prog 199 #[.pointer (some ⟨p, 0, none⟩), shpV shpT] w (RdX (dataE bs pos en shpT) (goodD w.heap.size) w p (.slice A n c) en) := by
  obtain ⟨w0, hw0⟩ : ∃ w0, w0 = (w.alloc (.cells #[.int .i64 0, .bool false, .bool false, .bool false, .int .i64 0, .int .i64 0, .bool true, .bool false] 182)).alloc (.cells #[.slice none 0 0, .slice none 0 0, .slice none 0 0, .slice none 0 0, .slice none 0 0] 46) := ⟨_, rfl⟩
  have ST0 : Hid (RdSt w w0 p (.slice A n c) pos en shpT DS.nil Da.zero) := by show RdSt _ _ _ _ _ _ _ _ _; rw [hw0]; exact RdSt.start h shpT
  have HR := Lib.hid hr
  clear h hr
  rw [show shpV shpT = .agg #[.int .i64 0, .bool false, .bool false, .bool false, .int .i64 0, .int .i64 0, .bool true, .bool false] from rfl]
  have x0 : w0.cell? ⟨w.heap.size, 0, none⟩ = some (.int .i64 0) := (ST0.out.shc 0).trans rfl
  have x1 : w0.cell? ⟨w.heap.size, 1, none⟩ = some (.bool false) := (ST0.out.shc 1).trans rfl
  have x2 : w0.cell? ⟨w.heap.size, 2, none⟩ = some (.bool false) := (ST0.out.shc 2).trans rfl
  have x3 : w0.cell? ⟨w.heap.size, 3, none⟩ = some (.bool false) := (ST0.out.shc 3).trans rfl
  have x4 : w0.cell? ⟨w.heap.size, 4, none⟩ = some (.int .i64 0) := (ST0.out.shc 4).trans rfl
  have x5 : w0.cell? ⟨w.heap.size, 5, none⟩ = some (.int .i64 0) := (ST0.out.shc 5).trans rfl
  have x6 : w0.cell? ⟨w.heap.size, 6, none⟩ = some (.bool true) := (ST0.out.shc 6).trans rfl
  have x7 : w0.cell? ⟨w.heap.size, 7, none⟩ = some (.bool false) := (ST0.out.shc 7).trans rfl
  go_enter Try.func199, Try.ntmps199
  go_upto_region 1 with (fail)
  rw [← hw0]
  clear hw0
  cases hx1 : textsR bs en 64 pos [] with
  | error x =>
    have HE : Hid (dataE bs pos en shpT = .error x) := by show _ = _; simp [dataE, dataR, shpT, hx1]
    have HX := Lib.hid hx1
    clear hx1
    go_wp2_with (first
      | (go_at_call 201; refine (gtexts_any w0 p A n c pos en bs ST0.out.P (RdB.chgP HR.out ST0.out.C ho) ho hqpos hen hn hc hn2).mono ?_; rw [HX.out]; rintro e w9 ⟨rfl, hc9⟩)
      | fail)
    refine ⟨rfl, ?_⟩
    rw [HE.out]
    exact ⟨rfl, ST0.out.C.trans hc9 (fun _ h => .inl h)⟩
  | ok r =>
    obtain ⟨a1, q1⟩ := r
    have hqq1 : q1 ≤ en := Nat.le_of_eq (textsR_le hqpos hx1)
    have HX1 := Lib.hid hx1
    go_upto_region 7 with (first
      | (go_at_call 201; refine (gtexts_any w0 p A n c pos en bs ST0.out.P (RdB.chgP HR.out ST0.out.C ho) ho hqpos hen hn hc hn2).mono ?_; rw [HX1.out]; rintro e w1 ⟨v1, rfl, hown1, hp1, hc1⟩; have ST1 := Lib.hid (ST0.out.call hp1 hc1); obtain ⟨A1, k1, rfl, _⟩ := OwnE.form hown1; have y4 : w1.cell? ⟨w.heap.size + 1, 4, none⟩ = some _ := (ST1.out.dc 4).trans rfl; have yf := ST1.out.df)
      | fail)
    obtain ⟨w2, hw2⟩ : ∃ u, u = w1.setCell ⟨w.heap.size + 1, 4, none⟩ (.slice A1 a1.length k1) := ⟨_, rfl⟩
    have hset1 := ST1.out.setT (OwnE.base_le hown1 ST0.out.size)
    rw [← hw2] at hset1
    have ST2 := Lib.hid hset1
    rw [← hw2]
    clear hw2 hset1 yf y4 x0 x1 x2 x3 x4 x5 x6 x7
    have x0 : w2.cell? ⟨w.heap.size, 0, none⟩ = some (.int .i64 0) := (ST2.out.shc 0).trans rfl
    have x1 : w2.cell? ⟨w.heap.size, 1, none⟩ = some (.bool false) := (ST2.out.shc 1).trans rfl
    have x2 : w2.cell? ⟨w.heap.size, 2, none⟩ = some (.bool false) := (ST2.out.shc 2).trans rfl
    have x3 : w2.cell? ⟨w.heap.size, 3, none⟩ = some (.bool false) := (ST2.out.shc 3).trans rfl
    have x4 : w2.cell? ⟨w.heap.size, 4, none⟩ = some (.int .i64 0) := (ST2.out.shc 4).trans rfl
    have x5 : w2.cell? ⟨w.heap.size, 5, none⟩ = some (.int .i64 0) := (ST2.out.shc 5).trans rfl
    have x6 : w2.cell? ⟨w.heap.size, 6, none⟩ = some (.bool true) := (ST2.out.shc 6).trans rfl
    have x7 : w2.cell? ⟨w.heap.size, 7, none⟩ = some (.bool false) := (ST2.out.shc 7).trans rfl
    have HX2 : Hid (numsR bs en 0 0 q1 [] = .ok ([], q1)) := rfl
    go_upto_region 15 with (first
      | (go_at_call 202; refine (gnums_any w2 p A n c q1 en 0 0 bs shpT rfl rfl ST2.out.P (RdB.chgP HR.out ST2.out.C ho) ho hqq1 hen hn hn2 (by decide) (by decide) (by decide)).mono ?_; rw [HX2.out]; rintro e w3 ⟨v2, rfl, hown2, hp2, hc2⟩; have ST3 := Lib.hid (ST2.out.call hp2 hc2); obtain ⟨A2, k2, rfl, _⟩ := OwnE.form hown2; rw [List.length_nil] at hown2 ⊢; have y3 : w3.cell? ⟨w.heap.size + 1, 3, none⟩ = some _ := (ST3.out.dc 3).trans rfl; have yf := ST3.out.df)
      | fail)
    obtain ⟨w4, hw4⟩ : ∃ u, u = w3.setCell ⟨w.heap.size + 1, 3, none⟩ (.slice A2 0 k2) := ⟨_, rfl⟩
    have hset2 := RdSt.setN (x := []) ST3.out (OwnE.base_le hown2 ST2.out.size)
    rw [List.length_nil, ← hw4] at hset2
    have ST4 := Lib.hid hset2
    rw [← hw4]
    clear hw4 hset2 yf y3 x0 x1 x2 x3 x4 x5 x6 x7
    have x0 : w4.cell? ⟨w.heap.size, 0, none⟩ = some (.int .i64 0) := (ST4.out.shc 0).trans rfl
    have x1 : w4.cell? ⟨w.heap.size, 1, none⟩ = some (.bool false) := (ST4.out.shc 1).trans rfl
    have x2 : w4.cell? ⟨w.heap.size, 2, none⟩ = some (.bool false) := (ST4.out.shc 2).trans rfl
    have x3 : w4.cell? ⟨w.heap.size, 3, none⟩ = some (.bool false) := (ST4.out.shc 3).trans rfl
    have x4 : w4.cell? ⟨w.heap.size, 4, none⟩ = some (.int .i64 0) := (ST4.out.shc 4).trans rfl
    have x5 : w4.cell? ⟨w.heap.size, 5, none⟩ = some (.int .i64 0) := (ST4.out.shc 5).trans rfl
    have x6 : w4.cell? ⟨w.heap.size, 6, none⟩ = some (.bool true) := (ST4.out.shc 6).trans rfl
    have x7 : w4.cell? ⟨w.heap.size, 7, none⟩ = some (.bool false) := (ST4.out.shc 7).trans rfl
    obtain ⟨rc0, rc1, rc2, rf⟩ := ST4.out.P.cells
    by_cases hlt : q1 < en
    · have HE : Hid (dataE bs pos en shpT = .error 7) := by show _ = _; simp [dataE, dataR, shpT, hx1, hlt]
      clear hx1
      go_wp2
      go_quiet (fail)
      go_wp2
      refine ⟨rfl, ?_⟩
      rw [HE.out]
      exact ⟨rfl, ST4.out.C.drewN nq⟩
    · have HE : Hid (dataE bs pos en shpT = .ok ({ Da.zero with texts := a1, nums := [] }, q1)) := by show _ = _; simp [dataE, dataR, shpT, hx1, hlt, Da.zero]
      clear hx1
      obtain ⟨sF, dF, STF, hdF⟩ : ∃ sF dF, Hid (RdSt w w4 p (.slice A n c) q1 en shpT sF dF) ∧ dF = { Da.zero with texts := a1, nums := [] } := ⟨_, _, ST4, rfl⟩
      rw [← hdF] at HE
      clear hdF x0 x1 x2 x3 x4 x5 x6 x7 ST4
      have x0 : w4.cell? ⟨w.heap.size, 0, none⟩ = some (.int .i64 0) := (STF.out.shc 0).trans rfl
      have x1 : w4.cell? ⟨w.heap.size, 1, none⟩ = some (.bool false) := (STF.out.shc 1).trans rfl
      have x2 : w4.cell? ⟨w.heap.size, 2, none⟩ = some (.bool false) := (STF.out.shc 2).trans rfl
      have x3 : w4.cell? ⟨w.heap.size, 3, none⟩ = some (.bool false) := (STF.out.shc 3).trans rfl
      have x4 : w4.cell? ⟨w.heap.size, 4, none⟩ = some (.int .i64 0) := (STF.out.shc 4).trans rfl
      have x5 : w4.cell? ⟨w.heap.size, 5, none⟩ = some (.int .i64 0) := (STF.out.shc 5).trans rfl
      have x6 : w4.cell? ⟨w.heap.size, 6, none⟩ = some (.bool true) := (STF.out.shc 6).trans rfl
      have x7 : w4.cell? ⟨w.heap.size, 7, none⟩ = some (.bool false) := (STF.out.shc 7).trans rfl
      have y0 : w4.cell? ⟨w.heap.size + 1, 0, none⟩ = some (.slice sF.A0 dF.bytes.length sF.c0) := (STF.out.dc 0).trans rfl
      have y1 : w4.cell? ⟨w.heap.size + 1, 1, none⟩ = some (.slice sF.A1 dF.host.length sF.c1) := (STF.out.dc 1).trans rfl
      have y2 : w4.cell? ⟨w.heap.size + 1, 2, none⟩ = some (.slice sF.A2 dF.mail.length sF.c2) := (STF.out.dc 2).trans rfl
      have y3 : w4.cell? ⟨w.heap.size + 1, 3, none⟩ = some (.slice sF.A3 dF.nums.length sF.c3) := (STF.out.dc 3).trans rfl
      have y4 : w4.cell? ⟨w.heap.size + 1, 4, none⟩ = some (.slice sF.A4 dF.texts.length sF.c4) := (STF.out.dc 4).trans rfl
      have yf := STF.out.df
      go_wp2
      go_quiet (fail)
      go_wp2
      obtain ⟨wm, hwm⟩ : ∃ u, u = ((((((w4.drewN nq).setCell ⟨w.heap.size + 1, 0, none⟩ (.slice sF.A0 dF.bytes.length sF.c0)).setCell ⟨w.heap.size + 1, 1, none⟩ (.slice sF.A1 dF.host.length sF.c1)).setCell ⟨w.heap.size + 1, 2, none⟩ (.slice sF.A2 dF.mail.length sF.c2)).setCell ⟨w.heap.size + 1, 3, none⟩ (.slice sF.A3 dF.nums.length sF.c3)).setCell ⟨w.heap.size + 1, 4, none⟩ (.slice sF.A4 dF.texts.length sF.c4)) := ⟨_, rfl⟩
      have STm : Hid (RdSt w wm p (.slice A n c) q1 en shpT sF dF) := by show RdSt _ _ _ _ _ _ _ _ _; rw [hwm]; exact (STF.out.below (dN bl nq)).same
      rw [← hwm]
      clear hwm y0 y1 y2 y3 y4 yf x0 x1 x2 x3 x4 x5 x6 x7
      have y0 : wm.cell? ⟨w.heap.size + 1, 0, none⟩ = some (.slice sF.A0 dF.bytes.length sF.c0) := (STm.out.dc 0).trans rfl
      have y1 : wm.cell? ⟨w.heap.size + 1, 1, none⟩ = some (.slice sF.A1 dF.host.length sF.c1) := (STm.out.dc 1).trans rfl
      have y2 : wm.cell? ⟨w.heap.size + 1, 2, none⟩ = some (.slice sF.A2 dF.mail.length sF.c2) := (STm.out.dc 2).trans rfl
      have y3 : wm.cell? ⟨w.heap.size + 1, 3, none⟩ = some (.slice sF.A3 dF.nums.length sF.c3) := (STm.out.dc 3).trans rfl
      have y4 : wm.cell? ⟨w.heap.size + 1, 4, none⟩ = some (.slice sF.A4 dF.texts.length sF.c4) := (STm.out.dc 4).trans rfl
      refine bodyPost_ret (v := .agg #[.slice sF.A0 dF.bytes.length sF.c0, .slice sF.A1 dF.host.length sF.c1, .slice sF.A2 dF.mail.length sF.c2, .slice sF.A3 dF.nums.length sF.c3, .slice sF.A4 dF.texts.length sF.c4]) ?_ rfl ?_
      · simp [results, Try.results199, go_sem, y0, y1, y2, y3, y4]
      · rw [HE.out]
        exact ⟨_, rfl, ⟨sF, rfl, STm.out.G.base_le (Nat.le_add_right _ _)⟩, STm.out.P, STm.out.C⟩

set_option maxHeartbeats 4000000 in
theorem gdataB_any (w : World) (p : Nat) (A : Option Addr) (n c pos en : Nat) (bs : List UInt8) (h : Rdr w p (.slice A n c) (pos : Int) (en : Int)) (hr : RdB w A n bs) (ho : offA A p) (hqpos : pos ≤ en) (hen : en ≤ n) (hn : n ≤ c) (hc : c ≤ 9223372036854775807) (hn2 : n ≤ 100000000) :
    Calls Try.prog 199 #[.pointer (some ⟨p, 0, none⟩), shpV shpB] w (RdX (dataE bs pos en shpB) (goodD w.heap.size) w p (.slice A n c) en) := by
  obtain ⟨w0, hw0⟩ : ∃ w0, w0 = (w.alloc (.cells #[.int .i64 (-1), .bool false, .bool false, .bool false, .int .i64 0, .int .i64 0, .bool false, .bool false] 182)).alloc (.cells #[.slice none 0 0, .slice none 0 0, .slice none 0 0, .slice none 0 0, .slice none 0 0] 46) := ⟨_, rfl⟩
  have ST0 : Hid (RdSt w w0 p (.slice A n c) pos en shpB DS.nil Da.zero) := by show RdSt _ _ _ _ _ _ _ _ _; rw [hw0]; exact RdSt.start h shpB
  have HR := Lib.hid hr
  clear h hr
  rw [show shpV shpB = .agg #[.int .i64 (-1), .bool false, .bool false, .bool false, .int .i64 0, .int .i64 0, .bool false, .bool false] from rfl]
  have x0 : w0.cell? ⟨w.heap.size, 0, none⟩ = some (.int .i64 (-1)) := (ST0.out.shc 0).trans rfl
  have x1 : w0.cell? ⟨w.heap.size, 1, none⟩ = some (.bool false) := (ST0.out.shc 1).trans rfl
  have x2 : w0.cell? ⟨w.heap.size, 2, none⟩ = some (.bool false) := (ST0.out.shc 2).trans rfl
  have x3 : w0.cell? ⟨w.heap.size, 3, none⟩ = some (.bool false) := (ST0.out.shc 3).trans rfl
  have x4 : w0.cell? ⟨w.heap.size, 4, none⟩ = some (.int .i64 0) := (ST0.out.shc 4).trans rfl
  have x5 : w0.cell? ⟨w.heap.size, 5, none⟩ = some (.int .i64 0) := (ST0.out.shc 5).trans rfl
  have x6 : w0.cell? ⟨w.heap.size, 6, none⟩ = some (.bool false) := (ST0.out.shc 6).trans rfl
  have x7 : w0.cell? ⟨w.heap.size, 7, none⟩ = some (.bool false) := (ST0.out.shc 7).trans rfl
  go_enter Try.func199, Try.ntmps199
  go_upto_region 1 with (fail)
  rw [← hw0]
  clear hw0
  cases hx1 : bytesR bs pos en (en - pos) with
  | error x =>
    have HE : Hid (dataE bs pos en shpB = .error x) := by show _ = _; simp [dataE, dataR, shpB, hx1]
    have HX := Lib.hid hx1
    clear hx1
    obtain ⟨rc0, rc1, rc2, rf⟩ := ST0.out.P.cells
    have hsub : ((en : Int) - (pos : Int)) = ((en - pos : Nat) : Int) := by omega
    exact absurd (bytesR_err HX.out).2 (by omega)
  | ok r =>
    obtain ⟨a1, q1⟩ := r
    have hqq1 : q1 ≤ en := (bytesR_le hx1).2
    have HX1 := Lib.hid hx1
    obtain ⟨rc0, rc1, rc2, rf⟩ := ST0.out.P.cells
    have hsub : ((en : Int) - (pos : Int)) = ((en - pos : Nat) : Int) := by omega
    have HWR : Hid (IntKind.i64.wrap ((en - pos : Nat) : Int) = ((en - pos : Nat) : Int)) := by show _ = _; rw [IntKind.wrap_i64]; omega
    go_upto_region 4 with (fail)
    go_region_law
      (first
        | (go_simp; go_at_call 200; rw [HWR.out]; refine (gbytes_any w0.drew p A n c pos en (en - pos) bs (ST0.out.P.below bl.drew) ((RdB.chgP HR.out ST0.out.C ho).below bl.drew) ho hqpos hen hn hc hn2 (by omega)).mono ?_; rw [HX1.out]; rintro e w1 ⟨v1, rfl, hown1, hp1, hc1⟩; have ST1 := Lib.hid ((ST0.out.below bl.drew).call hp1 hc1); obtain ⟨A1, k1, rfl, _⟩ := hown1.form; have y0 : w1.cell? ⟨w.heap.size + 1, 0, none⟩ = some _ := (ST1.out.dc 0).trans rfl; have yf := ST1.out.df)
        | fail)
    all_goals
      obtain ⟨w2, hw2⟩ : ∃ u, u = w1.setCell ⟨w.heap.size + 1, 0, none⟩ (.slice A1 a1.length k1) := ⟨_, rfl⟩
      have hset1 := ST1.out.setB (hown1.mono ST0.out.size)
      rw [← hw2] at hset1
      have ST2 := Lib.hid hset1
      rw [← hw2]
      clear hw2 hset1 yf y0 x0 x1 x2 x3 x4 x5 x6 x7
      have x0 : w2.cell? ⟨w.heap.size, 0, none⟩ = some (.int .i64 (-1)) := (ST2.out.shc 0).trans rfl
      have x1 : w2.cell? ⟨w.heap.size, 1, none⟩ = some (.bool false) := (ST2.out.shc 1).trans rfl
      have x2 : w2.cell? ⟨w.heap.size, 2, none⟩ = some (.bool false) := (ST2.out.shc 2).trans rfl
      have x3 : w2.cell? ⟨w.heap.size, 3, none⟩ = some (.bool false) := (ST2.out.shc 3).trans rfl
      have x4 : w2.cell? ⟨w.heap.size, 4, none⟩ = some (.int .i64 0) := (ST2.out.shc 4).trans rfl
      have x5 : w2.cell? ⟨w.heap.size, 5, none⟩ = some (.int .i64 0) := (ST2.out.shc 5).trans rfl
      have x6 : w2.cell? ⟨w.heap.size, 6, none⟩ = some (.bool false) := (ST2.out.shc 6).trans rfl
      have x7 : w2.cell? ⟨w.heap.size, 7, none⟩ = some (.bool false) := (ST2.out.shc 7).trans rfl
      have HX2 : Hid (numsR bs en 0 0 q1 [] = .ok ([], q1)) := rfl
      go_upto_region 15 with (first
        | (go_at_call 202; refine (gnums_any w2 p A n c q1 en 0 0 bs shpB rfl rfl ST2.out.P (RdB.chgP HR.out ST2.out.C ho) ho hqq1 hen hn hn2 (by decide) (by decide) (by decide)).mono ?_; rw [HX2.out]; rintro e w3 ⟨v2, rfl, hown2, hp2, hc2⟩; have ST3 := Lib.hid (ST2.out.call hp2 hc2); obtain ⟨A2, k2, rfl, _⟩ := OwnE.form hown2; rw [List.length_nil] at hown2 ⊢; have y3 : w3.cell? ⟨w.heap.size + 1, 3, none⟩ = some _ := (ST3.out.dc 3).trans rfl; have yf := ST3.out.df)
        | fail)
      obtain ⟨w4, hw4⟩ : ∃ u, u = w3.setCell ⟨w.heap.size + 1, 3, none⟩ (.slice A2 0 k2) := ⟨_, rfl⟩
      have hset2 := RdSt.setN (x := []) ST3.out (OwnE.base_le hown2 ST2.out.size)
      rw [List.length_nil, ← hw4] at hset2
      have ST4 := Lib.hid hset2
      rw [← hw4]
      clear hw4 hset2 yf y3 x0 x1 x2 x3 x4 x5 x6 x7
      have x0 : w4.cell? ⟨w.heap.size, 0, none⟩ = some (.int .i64 (-1)) := (ST4.out.shc 0).trans rfl
      have x1 : w4.cell? ⟨w.heap.size, 1, none⟩ = some (.bool false) := (ST4.out.shc 1).trans rfl
      have x2 : w4.cell? ⟨w.heap.size, 2, none⟩ = some (.bool false) := (ST4.out.shc 2).trans rfl
      have x3 : w4.cell? ⟨w.heap.size, 3, none⟩ = some (.bool false) := (ST4.out.shc 3).trans rfl
      have x4 : w4.cell? ⟨w.heap.size, 4, none⟩ = some (.int .i64 0) := (ST4.out.shc 4).trans rfl
      have x5 : w4.cell? ⟨w.heap.size, 5, none⟩ = some (.int .i64 0) := (ST4.out.shc 5).trans rfl
      have x6 : w4.cell? ⟨w.heap.size, 6, none⟩ = some (.bool false) := (ST4.out.shc 6).trans rfl
      have x7 : w4.cell? ⟨w.heap.size, 7, none⟩ = some (.bool false) := (ST4.out.shc 7).trans rfl
      obtain ⟨rc0, rc1, rc2, rf⟩ := ST4.out.P.cells
      by_cases hlt : q1 < en
      · have HE : Hid (dataE bs pos en shpB = .error 7) := by show _ = _; simp [dataE, dataR, shpB, hx1, hlt]
        clear hx1
        go_wp2
        go_quiet (fail)
        go_wp2
        refine ⟨rfl, ?_⟩
        rw [HE.out]
        exact ⟨rfl, ST4.out.C.drewN nq⟩
      · have HE : Hid (dataE bs pos en shpB = .ok ({ Da.zero with bytes := a1, nums := [] }, q1)) := by show _ = _; simp [dataE, dataR, shpB, hx1, hlt, Da.zero]
        clear hx1
        obtain ⟨sF, dF, STF, hdF⟩ : ∃ sF dF, Hid (RdSt w w4 p (.slice A n c) q1 en shpB sF dF) ∧ dF = { Da.zero with bytes := a1, nums := [] } := ⟨_, _, ST4, rfl⟩
        rw [← hdF] at HE
        clear hdF x0 x1 x2 x3 x4 x5 x6 x7 ST4
        have x0 : w4.cell? ⟨w.heap.size, 0, none⟩ = some (.int .i64 (-1)) := (STF.out.shc 0).trans rfl
        have x1 : w4.cell? ⟨w.heap.size, 1, none⟩ = some (.bool false) := (STF.out.shc 1).trans rfl
        have x2 : w4.cell? ⟨w.heap.size, 2, none⟩ = some (.bool false) := (STF.out.shc 2).trans rfl
        have x3 : w4.cell? ⟨w.heap.size, 3, none⟩ = some (.bool false) := (STF.out.shc 3).trans rfl
        have x4 : w4.cell? ⟨w.heap.size, 4, none⟩ = some (.int .i64 0) := (STF.out.shc 4).trans rfl
        have x5 : w4.cell? ⟨w.heap.size, 5, none⟩ = some (.int .i64 0) := (STF.out.shc 5).trans rfl
        have x6 : w4.cell? ⟨w.heap.size, 6, none⟩ = some (.bool false) := (STF.out.shc 6).trans rfl
        have x7 : w4.cell? ⟨w.heap.size, 7, none⟩ = some (.bool false) := (STF.out.shc 7).trans rfl
        have y0 : w4.cell? ⟨w.heap.size + 1, 0, none⟩ = some (.slice sF.A0 dF.bytes.length sF.c0) := (STF.out.dc 0).trans rfl
        have y1 : w4.cell? ⟨w.heap.size + 1, 1, none⟩ = some (.slice sF.A1 dF.host.length sF.c1) := (STF.out.dc 1).trans rfl
        have y2 : w4.cell? ⟨w.heap.size + 1, 2, none⟩ = some (.slice sF.A2 dF.mail.length sF.c2) := (STF.out.dc 2).trans rfl
        have y3 : w4.cell? ⟨w.heap.size + 1, 3, none⟩ = some (.slice sF.A3 dF.nums.length sF.c3) := (STF.out.dc 3).trans rfl
        have y4 : w4.cell? ⟨w.heap.size + 1, 4, none⟩ = some (.slice sF.A4 dF.texts.length sF.c4) := (STF.out.dc 4).trans rfl
        have yf := STF.out.df
        go_wp2
        go_quiet (fail)
        go_wp2
        obtain ⟨wm, hwm⟩ : ∃ u, u = ((((((w4.drewN nq).setCell ⟨w.heap.size + 1, 0, none⟩ (.slice sF.A0 dF.bytes.length sF.c0)).setCell ⟨w.heap.size + 1, 1, none⟩ (.slice sF.A1 dF.host.length sF.c1)).setCell ⟨w.heap.size + 1, 2, none⟩ (.slice sF.A2 dF.mail.length sF.c2)).setCell ⟨w.heap.size + 1, 3, none⟩ (.slice sF.A3 dF.nums.length sF.c3)).setCell ⟨w.heap.size + 1, 4, none⟩ (.slice sF.A4 dF.texts.length sF.c4)) := ⟨_, rfl⟩
        have STm : Hid (RdSt w wm p (.slice A n c) q1 en shpB sF dF) := by show RdSt _ _ _ _ _ _ _ _ _; rw [hwm]; exact (STF.out.below (dN bl nq)).same
        rw [← hwm]
        clear hwm y0 y1 y2 y3 y4 yf x0 x1 x2 x3 x4 x5 x6 x7
        have y0 : wm.cell? ⟨w.heap.size + 1, 0, none⟩ = some (.slice sF.A0 dF.bytes.length sF.c0) := (STm.out.dc 0).trans rfl
        have y1 : wm.cell? ⟨w.heap.size + 1, 1, none⟩ = some (.slice sF.A1 dF.host.length sF.c1) := (STm.out.dc 1).trans rfl
        have y2 : wm.cell? ⟨w.heap.size + 1, 2, none⟩ = some (.slice sF.A2 dF.mail.length sF.c2) := (STm.out.dc 2).trans rfl
        have y3 : wm.cell? ⟨w.heap.size + 1, 3, none⟩ = some (.slice sF.A3 dF.nums.length sF.c3) := (STm.out.dc 3).trans rfl
        have y4 : wm.cell? ⟨w.heap.size + 1, 4, none⟩ = some (.slice sF.A4 dF.texts.length sF.c4) := (STm.out.dc 4).trans rfl
        refine bodyPost_ret (v := .agg #[.slice sF.A0 dF.bytes.length sF.c0, .slice sF.A1 dF.host.length sF.c1, .slice sF.A2 dF.mail.length sF.c2, .slice sF.A3 dF.nums.length sF.c3, .slice sF.A4 dF.texts.length sF.c4]) ?_ rfl ?_
        · simp [results, Try.results199, go_sem, y0, y1, y2, y3, y4]
        · rw [HE.out]
          exact ⟨_, rfl, ⟨sF, rfl, STm.out.G.base_le (Nat.le_add_right _ _)⟩, STm.out.P, STm.out.C⟩

end Go.Proofs.Ytimkdpkhdbiniaa
