/- Parts of a proof, joined: RRrPut, RMsRaw, RMsSnd, MsEnc. -/
import Derived.Test.YtimkdpkhdbiniaaQ04
import Derived.Test.YtimkdpkhdbiniaaQ18
import Derived.Test.YtimkdpkhdbiniaaQ07
import Derived.Test.YtimkdpkhdbiniaaQ17
import Derived.Test.YtimkdpkhdbiniaaQ09
/- The reference's PutRR in general. -/
namespace Go.Proofs.Ytimkdpkhdbiniaa
open Go.RowKit
set_option maxRecDepth 100000

structure RRrSt (w wr : World) (B g : Nat) (F Fr : Nat → Prop) (y : RW) (q : Nat) (S : Nat → Prop) (s : RS) (r : RR) : Prop where
  W : RWtr wr B Fr g y
  fine : y.Fine
  C : Chg F w wr
  N : ∀ z, Fr z → F z ∨ w.heap.size ≤ z
  Q : RRow wr q s r
  D : RIn S wr s r
  qF : ¬ Fr q
  SF : ∀ b, S b → b < wr.heap.size ∧ ¬ Fr b
section
variable {w wr w' : World} {B g q : Nat} {F Fr F' S : Nat → Prop} {y y' : RW} {s : RS} {r : RR}
theorem RRrSt.step (h : RRrSt w wr B g F Fr y q S s r) (hw : RWtr w' B F' g y') (hf : y'.Fine) (hc : Chg Fr wr w') (hF : ∀ z, F' z → Fr z ∨ wr.heap.size ≤ z) : RRrSt w w' B g F F' y' q S s r where
  W := hw
  fine := hf
  C := h.C.trans hc h.N
  N := fun k hk => (hF k hk).elim (h.N k) (fun hl => .inr (Nat.le_trans h.C.size hl))
  Q := hc.heap h.Q h.qF
  D := h.D.chg hc h.SF
  qF := fun hq => (hF q hq).elim h.qF (fun hl => by have := (Array.getElem?_eq_some_iff.1 h.Q).1; omega)
  SF := fun b hb => ⟨Nat.lt_of_lt_of_le (h.SF b hb).1 hc.size, fun hq => (hF b hq).elim (h.SF b hb).2 (fun hl => by have := (h.SF b hb).1; omega)⟩
theorem RRrSt.done (h : RRrSt w wr B g F Fr y q S s r) {v : Value} {u : RW} (hz : y = u) : RetR w B F g u v (.returned v) wr := by subst hz; exact ⟨rfl, Fr, h.W, h.C, h.N⟩
theorem RRrSt.start {x : RW} (h : RWtr w B F g x) (hf : x.Fine) (hd : RIn S w s r) (hS : ∀ b, S b → b < w.heap.size ∧ ¬ F b) : RRrSt w (w.alloc (.cells (rrCells s r) 84)) B g F F x w.heap.size S s r := by
  have hb : Below w.heap.size w (w.alloc (.cells (rrCells s r) 84)) := bl.alloc (Nat.le_refl _) _
  exact ⟨h.below hb, hf, Chg.of_below hb, fun _ hz => .inl hz, RRow.made w s r, hd.below hb (fun b hb' => (hS b hb').1), fun hq => by have := (h.F_lt _ hq).2; omega, fun b hb' => ⟨Nat.lt_of_lt_of_le (hS b hb').1 hb.size, (hS b hb').2⟩⟩
theorem RWtr.bytes_len (h : RWtr w B F g y) : ∃ A c, w.cell? ⟨g, 0, none⟩ = some (.slice A y.b.length c) := by
  obtain ⟨bv, rv, S, hg, hb, _⟩ := h
  obtain ⟨A, c, rfl, _⟩ := hb.form
  exact ⟨A, c, (cell_of_row _ _ _ _ _ _ hg).trans rfl⟩
/-- Its bytes, where they lie; what a store there does. -/
theorem RWtr.bytes_at (h : RWtr w B F g y) (h0 : 0 < y.b.length) : ∃ gb cap, w.cell? ⟨g, 0, none⟩ = some (.slice (some ⟨gb, 0, none⟩) y.b.length cap) ∧ y.b.length ≤ cap ∧ cap ≤ maxLen ∧
    (∀ k, k < y.b.length → ∃ c : UInt8, w.cell? ⟨gb, k, none⟩ = some (.int .u8 (c.toNat : Int))) ∧ (∀ k, w.frozen? ⟨gb, k, none⟩ = false) ∧ gb ≠ g ∧
    ∀ (k k2 : Nat) (c c2 : UInt8), RWtr ((w.setCell ⟨gb, k, none⟩ (.int .u8 (c.toNat : Int))).setCell ⟨gb, k2, none⟩ (.int .u8 (c2.toNat : Int))) B F g { y with b := (y.b.set k c).set k2 c2 } ∧ Chg F w ((w.setCell ⟨gb, k, none⟩ (.int .u8 (c.toNat : Int))).setCell ⟨gb, k2, none⟩ (.int .u8 (c2.toNat : Int))) := by
  obtain ⟨bv, rv, S, hg, hb, hr, hgF, hbF, hrF, hSF, hF⟩ := h
  obtain ⟨gb, cap, rfl, hBg, hgs, hl, hm, hc⟩ := hb.flat h0
  have hbg := hbF gb rfl
  refine ⟨gb, cap, (cell_of_row _ _ _ _ _ _ hg).trans rfl, hl, hm, fun k hk => ⟨y.b[k], hc k _ (List.getElem?_eq_getElem hk)⟩, fun k => hb.free k, hbg.2, fun k k2 c c2 => ?_⟩
  have hcg : Chg (fun z => z = gb) w ((w.setCell ⟨gb, k, none⟩ (.int .u8 (c.toNat : Int))).setCell ⟨gb, k2, none⟩ (.int .u8 (c2.toNat : Int))) := ((Chg.refl (fun z => z = gb) w).setCell (p := ⟨gb, k, none⟩) (Or.inl rfl) _).setCell (p := ⟨gb, k2, none⟩) (Or.inl rfl) _
  refine ⟨⟨.slice (some ⟨gb, 0, none⟩) y.b.length cap, rv, S, hcg.heap hg (fun e => hbg.2 e.symm), (hb.set k c).set k2 c2, hr.chg hcg (fun z hz e => (hrF z hz).2.2 (by subst e; rfl)) (fun z hz e => (hSF z hz).2.2 (by subst e; rfl)), hgF, hbF, hrF, hSF, fun z hz => ⟨(hF z hz).1, by simpa using (hF z hz).2⟩⟩, ((Chg.refl F w).setCell (p := ⟨gb, k, none⟩) (Or.inl hbg.1) _).setCell (p := ⟨gb, k2, none⟩) (Or.inl hbg.1) _⟩
end

set_option maxHeartbeats 8000000 in
theorem rputRR_any (w : World) (B g : Nat) (F : Nat → Prop) (xp : Wr) (x : RW) (s : RS) (r : RR) (S : Nat → Prop) (hal : Alike xp x) (hf : FineR r) (h : RWtr w B F g x) (hfx : x.Fine) (hd : RIn S w s r) (hS : ∀ b, S b → b < w.heap.size ∧ ¬ F b) (hx : x.b.length ≤ 8990000) (hxr : x.rests.length ≤ 8990000) :
    Calls Try.prog 93 #[.pointer (some ⟨g, 0, none⟩), rrV s r] w (RetR w B F g (x.rr r) (.bool true)) := by
  have hst := RRrSt.start h hfx hd hS
  obtain ⟨w1, hw1⟩ : ∃ w1, w1 = w.alloc (.cells (rrCells s r) 84) := ⟨_, rfl⟩
  rw [← hw1] at hst
  have ST1 := Lib.hid hst
  obtain ⟨x0, x1, x2, x3, x4, x5, x6, x7, x8⟩ := hst.Q.cells
  have HF := Lib.hid hf
  obtain ⟨y1, hy1⟩ : ∃ y1, y1 = x.name r.name true := ⟨_, rfl⟩
  obtain ⟨y2, hy2⟩ : ∃ y2, y2 = y1.raw (putB [] r.type 2) := ⟨_, rfl⟩
  obtain ⟨y3, hy3⟩ : ∃ y3, y3 = y2.raw (putB [] r.cls 2) := ⟨_, rfl⟩
  obtain ⟨y4, hy4⟩ : ∃ y4, y4 = y3.raw (putB [] r.ttl 4) := ⟨_, rfl⟩
  obtain ⟨y5, hy5⟩ : ∃ y5, y5 = y4.raw (putB [] 0 2) := ⟨_, rfl⟩
  obtain ⟨y6, hy6⟩ : ∃ y6, y6 = y5.data (shapeP r.type) r.data := ⟨_, rfl⟩
  have hhead : y4 = x.rrHead r := by rw [hy4, hy3, hy2, hy1]; rfl
  have rawl : ∀ (y : RW) (l : List UInt8), (y.raw l).b.length = y.b.length + l.length := fun y l => by simp [RW.raw]
  have hl1 := RW.name_le (y := x) r.name true
  have hr1 := RW.name_rests (x := x) r.name true
  have hr0 := sizeN_length r.name
  rw [← hy1] at hl1 hr1
  have hl2 : y2.b.length ≤ y1.b.length + 7 := by rw [hy2, rawl]; have := putB_len r.type 2; omega
  have hl3 : y3.b.length ≤ y2.b.length + 7 := by rw [hy3, rawl]; have := putB_len r.cls 2; omega
  have hl4 : y4.b.length ≤ y3.b.length + 7 := by rw [hy4, rawl]; have := putB_len r.ttl 4; omega
  have hl5 : y5.b.length = y4.b.length + 2 := by rw [hy5, rawl, put02_len]
  have hr5 : y5.rests = y1.rests := by rw [hy5, hy4, hy3, hy2]; rfl
  have hal4 : Alike (xp.rrHead r) y4 := by rw [hhead]; exact hal.rrHead hf
  have hal5 : Alike ((xp.rrHead r).raw (putB [] 0 2)) y5 := by rw [hy5]; exact hal4.raw _
  have hal6 : Alike (((xp.rrHead r).raw (putB [] 0 2)).data (shapeP r.type) r.data) y6 := by rw [hy6]; exact hal5.data hf.2.1.2
  have hl6 := Wr.data_len ((xp.rrHead r).raw (putB [] 0 2)) hf.2.1.2
  rw [hal6.1, hal5.1] at hl6
  have hsz := hf.1.2
  obtain ⟨n, hn⟩ : ∃ n, n = xp.rrLen r := ⟨_, rfl⟩
  have hnl : n < 65536 := by rw [hn]; exact xp.rrLen_lt hf
  have hn2 : y6.b.length = y4.b.length + (2 + n) := by
    have : n = y6.b.length - y4.b.length - 2 := by rw [hn]; unfold Wr.rrLen; rw [hal6.1, hal4.1]
    omega
  have hfn1 : y1.Fine := by rw [hy1]; exact RW.Fine.name hf.1 true hfx
  have hfn6 : y6.Fine := by rw [hy6, hy5, hy4, hy3, hy2]; exact RW.Fine.data ((((hfn1.raw _).raw _).raw _).raw _) hf.2.1.2
  have hbx : y6.rests.length ≤ y6.rests.length := Nat.le_refl _
  have hend : { y6 with b := (y6.b.set y4.b.length (UInt8.ofNat (n / 256))).set (y4.b.length + 1) (UInt8.ofNat n) } = x.rr r := by
    rw [set_two _ _ _ _ (by omega), ← put2_bytes hnl]
    have e : n = y6.b.length - y4.b.length - 2 := by omega
    rw [e, hy6, hy5, hhead]
    rfl
  have HY1 := Lib.hid hy1
  have HY2 := Lib.hid hy2
  have HY3 := Lib.hid hy3
  have HY4 := Lib.hid hy4
  have HY5 := Lib.hid hy5
  have HY6 := Lib.hid hy6
  have HFX : Hid (x.Fine ∧ y1.Fine ∧ y2.Fine ∧ y3.Fine ∧ y4.Fine ∧ y5.Fine ∧ y6.Fine) := by
    refine ⟨hfx, hfn1, ?_, ?_, ?_, ?_, hfn6⟩
    · rw [hy2]; exact hfn1.raw _
    · rw [hy3, hy2]; exact (hfn1.raw _).raw _
    · rw [hy4, hy3, hy2]; exact ((hfn1.raw _).raw _).raw _
    · rw [hy5, hy4, hy3, hy2]; exact (((hfn1.raw _).raw _).raw _).raw _
  have HX : Hid (x.b.length ≤ 8990000 ∧ x.rests.length ≤ 8990000 ∧ y1.b.length ≤ 8990300 ∧ y2.b.length ≤ 8990310 ∧ y3.b.length ≤ 8990320 ∧ y4.b.length ≤ 8990330 ∧ y5.b.length ≤ 8990340 ∧ y5.rests.length ≤ 8990300 ∧ y6.b.length ≤ 9100000) := by
    rw [hr5]
    exact ⟨by omega, by omega, by omega, by omega, by omega, by omega, by omega, by omega, by omega⟩
  have HN2 := Lib.hid hn2
  have HNL := Lib.hid hnl
  have HEND := Lib.hid hend
  unfold rrV
  unfold rrCells at hw1 ⊢
  clear h hd hS hf hst hx hxr hy1 hy2 hy3 hy4 hy5 hy6 hhead hl1 hr1 hl2 hl3 hl4 hl5 hr5 hl6 hsz hn hn2 hnl hal hal4 hal5 hal6 hfn1 hfn6 hbx hend hfx rawl
  go_enter Try.func93, Try.ntmps93
  go_upto_region 1 with (fail)
  rw [← hw1]
  clear hw1
  go_upto_region 2 with (first
    | (go_at_call 64; refine (rwname_any w1 B g F x s.A _ s.c r.name true ST1.out.W ST1.out.D.n ST1.out.SF HF.out.1 ST1.out.fine ST1.out.D.cn.1 ST1.out.D.cn.2 (by have := HX.out; omega) (by have := HX.out; omega)).mono ?_; rw [← HY1.out]; rintro e w3 ⟨rfl, F3, h3, hc3, hF3⟩; have ST3 := Lib.hid (ST1.out.step h3 HFX.out.2.1 hc3 hF3); clear h3 hc3 hF3)
    | fail)
  clear x0 x1 x2 x3 x4 x5 x6 x7 x8
  obtain ⟨x0, x1, x2, x3, x4, x5, x6, x7, x8⟩ := ST3.out.Q.cells
  go_upto_region 3 with (first
    | (go_at_call 63; refine (rwnum_any w3 B g F3 y1 r.type 2 ST3.out.W (by have := HX.out; omega) ST3.out.D.it.2).mono ?_; rw [← HY2.out]; rintro e w4 ⟨rfl, F4, h4, hc4, hF4⟩; have ST4 := Lib.hid (ST3.out.step h4 HFX.out.2.2.1 hc4 hF4); clear h4 hc4 hF4)
    | fail)
  clear x0 x1 x2 x3 x4 x5 x6 x7 x8
  obtain ⟨x0, x1, x2, x3, x4, x5, x6, x7, x8⟩ := ST4.out.Q.cells
  go_upto_region 4 with (first
    | (go_at_call 63; refine (rwnum_any w4 B g F4 y2 r.cls 2 ST4.out.W (by have := HX.out; omega) ST4.out.D.ic.2).mono ?_; rw [← HY3.out]; rintro e w5 ⟨rfl, F5, h5, hc5, hF5⟩; have ST5 := Lib.hid (ST4.out.step h5 HFX.out.2.2.2.1 hc5 hF5); clear h5 hc5 hF5)
    | fail)
  clear x0 x1 x2 x3 x4 x5 x6 x7 x8
  obtain ⟨x0, x1, x2, x3, x4, x5, x6, x7, x8⟩ := ST5.out.Q.cells
  go_upto_region 5 with (first
    | (go_at_call 63; refine (rwnum_any w5 B g F5 y3 r.ttl 4 ST5.out.W (by have := HX.out; omega) ST5.out.D.il.2).mono ?_; rw [← HY4.out]; rintro e w6 ⟨rfl, F6, h6, hc6, hF6⟩; have ST6 := Lib.hid (ST5.out.step h6 HFX.out.2.2.2.2.1 hc6 hF6); clear h6 hc6 hF6)
    | fail)
  clear x0 x1 x2 x3 x4 x5 x6 x7 x8
  obtain ⟨A6, k6, z6⟩ := ST6.out.W.bytes_len
  go_upto_region 7 with (first
    | (go_at_call 63; refine (rwnum_any w6 B g F6 y4 0 2 ST6.out.W (by have := HX.out; omega) (by decide)).mono ?_; rw [← HY5.out]; rintro e w8 ⟨rfl, F8, h8, hc8, hF8⟩; have ST8 := Lib.hid (ST6.out.step h8 HFX.out.2.2.2.2.2.1 hc8 hF8); clear h8 hc8 hF8)
    | fail)
  obtain ⟨x0, x1, x2, x3, x4, x5, x6, x7, x8⟩ := ST8.out.Q.cells
  go_upto_region 8 with (first
    | (go_at_call 115; refine (rputD_any r.type w8 B g F8 y5 s.d r.data S HF.out.2.1 ST8.out.W ST8.out.fine ST8.out.D.d ST8.out.SF (by have := HX.out; omega) (by have := HX.out; omega)).mono ?_; rw [← HY6.out]; rintro e w9 ⟨rfl, F9, h9, hc9, hF9⟩; have ST9 := Lib.hid (ST8.out.step h9 HFX.out.2.2.2.2.2.2 hc9 hF9); clear h9 hc9 hF9)
    | fail)
  clear x0 x1 x2 x3 x4 x5 x6 x7 x8 z6
  have h4l : y4.b.length ≤ 8990330 := HX.out.2.2.2.2.2.1
  have hn65 := HNL.out
  obtain ⟨gb, cap, z0, hcap, hcm, hcell, hfz, hgb, hset⟩ := ST9.out.W.bytes_at (by have := HN2.out; omega)
  have HCAP := Lib.hid hcap
  have HSET := Lib.hid hset
  have HCL := Lib.hid hcell
  rw [HN2.out] at z0
  clear hcap hset hcell
  go_upto_region 11 with fail
  rw [show ((y4.b.length : Int) + (2 + (n : Int)) - (y4.b.length : Int) - 2) = (n : Int) by omega]
  obtain ⟨ca, hca⟩ := HCL.out y4.b.length (by have := HN2.out; omega)
  obtain ⟨cb, hcb⟩ := HCL.out (y4.b.length + 1) (by have := HN2.out; omega)
  have hf1 := hfz y4.b.length
  have hf2 := hfz (y4.b.length + 1)
  go_wp2
  go_ret
  have e1 : ((n : Int) / 256) = ((UInt8.ofNat (n / 256)).toNat : Int) := by rw [ofNat_u8]; omega
  have e2 : ((n : Int) % 256) = ((UInt8.ofNat n).toNat : Int) := by rw [ofNat_u8]
  have hs := HSET.out y4.b.length (y4.b.length + 1) (UInt8.ofNat (n / 256)) (UInt8.ofNat n)
  rw [HEND.out] at hs
  rw [e1, e2]
  exact ⟨rfl, F9, hs.1, ST9.out.C.trans hs.2 ST9.out.N, ST9.out.N⟩
end Go.Proofs.Ytimkdpkhdbiniaa

/- The reference's Raw: a message's bytes. -/
namespace Go.Proofs.Ytimkdpkhdbiniaa
open Go.RowKit
set_option maxRecDepth 100000

/-- A writer of the call's own; blocks beside it that keep. -/
structure RWrS (w wr : World) (g : Nat) (F : Nat → Prop) (y : RW) : Prop where
  W : RWtr wr w.heap.size F g y
  bw : Below w.heap.size w wr
structure RWrP (w u wr : World) (g : Nat) (F : Nat → Prop) (y : RW) (P : Nat → Prop) : Prop extends RWrS w wr g F y where
  kp : ∀ b, P b → wr.heap[b]? = u.heap[b]?
  pF : ∀ b, P b → b < wr.heap.size ∧ ¬ F b
section
variable {w u wr w' : World} {g B : Nat} {F F' P : Nat → Prop} {y y' : RW}
theorem RWrS.nx (h : RWrS w wr g F y) (hb : Below wr.heap.size wr w') : RWrS w w' g F y := ⟨h.W.below hb, Go.Proofs.Ytimkdpkhdbiniaa.nx h.bw hb⟩
theorem RWrS.step (h : RWrS w wr g F y) (hw : RWtr w' w.heap.size F' g y') (hc : Chg F wr w') : RWrS w w' g F' y' := ⟨hw, h.W.bw h.bw (Nat.le_refl _) hc⟩
theorem RWrP.step (h : RWrP w u wr g F y P) (hw : RWtr w' w.heap.size F' g y') (hc : Chg F wr w') (hF : ∀ z, F' z → F z ∨ wr.heap.size ≤ z) : RWrP w u w' g F' y' P :=
  ⟨h.toRWrS.step hw hc, fun b hb => (hc.block b (h.pF b hb).1 (h.pF b hb).2).trans (h.kp b hb), fun b hb => ⟨Nat.lt_of_lt_of_le (h.pF b hb).1 hc.size, fun hf => (hF b hf).elim (h.pF b hb).2 (fun hl => by have := (h.pF b hb).1; omega)⟩⟩
theorem RWrS.far (h : RWrS w wr g F y) {b : Nat} (hb : b < w.heap.size) : b < wr.heap.size ∧ ¬ F b := ⟨Nat.lt_of_lt_of_le hb h.bw.size, fun hf => by have := (h.W.F_lt b hf).1; omega⟩
theorem RWtr.bytesR (h : RWtr w B F g y) : ∃ A c, w.cell? ⟨g, 0, none⟩ = some (.slice A y.b.length c) ∧ RdB w A y.b.length y.b ∧ y.b.length ≤ c ∧ c ≤ maxLen := by
  obtain ⟨bv, rv, S, hg, hb, _⟩ := h
  obtain ⟨A, c, rfl, hr, h1, h2⟩ := hb.form
  exact ⟨A, c, (cell_of_row _ _ _ _ _ _ hg).trans rfl, hr, h1, h2⟩
end
set_option maxHeartbeats 1000000 in
theorem rflag_any (b : Bool) (n : Int) (w : World) : Calls Try.prog 92 #[.bool b, .int .i64 n] w (Ret (.int .i64 (bitN b n)) w) := by
  cases b with
  | false =>
    go_enter Try.func92, Try.ntmps92
    go_wp2
    go_ret
    exact ⟨rfl, rfl⟩
  | true =>
    go_enter Try.func92, Try.ntmps92
    go_wp2
    go_ret
    exact ⟨rfl, rfl⟩
theorem bitN_le (b : Bool) (n : Int) (h : 0 ≤ n) : 0 ≤ bitN b n ∧ bitN b n ≤ n := by cases b <;> simp [bitN] <;> omega

set_option maxHeartbeats 16000000 in
theorem rRaw_any (s : MS) (m : Ms) (w : World) {S : Nat → Prop} (h : MIn S w s m) (hS : ∀ b, S b → b < w.heap.size) (hf : FineM m) (hb : BigOk m) :
    Calls Try.prog 52 #[msV s m] w (RetP (fun v w' => ∃ A c, v = .slice A (msR m).b.length c ∧ RdB w' A (msR m).b.length (msR m).b ∧ (msR m).b.length ≤ c ∧ c ≤ maxLen) w) := by
  obtain ⟨w1, hw1⟩ : ∃ w1, w1 = w.alloc (.cells (mCells s m) 31) := ⟨_, rfl⟩
  have hb1 : Below w.heap.size w w1 := by rw [hw1]; exact bl.alloc (Nat.le_refl _) _
  have HR1 : Hid (MRow w1 w.heap.size s m) := by show MRow _ _ _ _; rw [hw1]; exact MRow.made w s m
  have HI1 := Lib.hid (h.below hb1 hS)
  have HS1 : Hid (∀ b, S b → b < w1.heap.size) := fun b hb => Nat.lt_of_lt_of_le (hS b hb) hb1.size
  have HBOX := Lib.hid hb1
  have HF := Lib.hid hf
  have HB := Lib.hid hb
  have htot := hf.tot
  unfold totM at htot
  have HTOT := Lib.hid htot
  have HMAX := Lib.hid (And.intro h.ii.2 h.is.2)
  have b0 := bitN_le m.resp 32768 (by decide)
  have b2 := bitN_le m.aa 1024 (by decide)
  have b3 := bitN_le m.tc 512 (by decide)
  have b4 := bitN_le m.rd 256 (by decide)
  have b5 := bitN_le m.ra 128 (by decide)
  have o1 := hf.op0
  have o2 := hf.op
  have o3 := hf.rc0
  have o4 := hf.rc
  have W0 : IntKind.i64.wrap (m.op * 2048) = m.op * 2048 := by rw [IntKind.wrap_i64]; omega
  have W1 : IntKind.i64.wrap (bitN m.resp 32768 + m.op * 2048) = bitN m.resp 32768 + m.op * 2048 := by rw [IntKind.wrap_i64]; omega
  have W2 : IntKind.i64.wrap (bitN m.resp 32768 + m.op * 2048 + bitN m.aa 1024) = bitN m.resp 32768 + m.op * 2048 + bitN m.aa 1024 := by rw [IntKind.wrap_i64]; omega
  have W3 : IntKind.i64.wrap (bitN m.resp 32768 + m.op * 2048 + bitN m.aa 1024 + bitN m.tc 512) = bitN m.resp 32768 + m.op * 2048 + bitN m.aa 1024 + bitN m.tc 512 := by rw [IntKind.wrap_i64]; omega
  have W4 : IntKind.i64.wrap (bitN m.resp 32768 + m.op * 2048 + bitN m.aa 1024 + bitN m.tc 512 + bitN m.rd 256) = bitN m.resp 32768 + m.op * 2048 + bitN m.aa 1024 + bitN m.tc 512 + bitN m.rd 256 := by rw [IntKind.wrap_i64]; omega
  have W5 : IntKind.i64.wrap (bitN m.resp 32768 + m.op * 2048 + bitN m.aa 1024 + bitN m.tc 512 + bitN m.rd 256 + bitN m.ra 128) = bitN m.resp 32768 + m.op * 2048 + bitN m.aa 1024 + bitN m.tc 512 + bitN m.rd 256 + bitN m.ra 128 := by rw [IntKind.wrap_i64]; omega
  have W6 : IntKind.i64.wrap (bitN m.resp 32768 + m.op * 2048 + bitN m.aa 1024 + bitN m.tc 512 + bitN m.rd 256 + bitN m.ra 128 + m.rcode) = bitN m.resp 32768 + m.op * 2048 + bitN m.aa 1024 + bitN m.tc 512 + bitN m.rd 256 + bitN m.ra 128 + m.rcode := by rw [IntKind.wrap_i64]; omega
  have HFN : Hid (bitN m.resp 32768 + m.op * 2048 + bitN m.aa 1024 + bitN m.tc 512 + bitN m.rd 256 + bitN m.ra 128 + m.rcode = flagsN m ∧ flagsN m ≤ 9223372036854775807) := ⟨rfl, by have := flagsN_fits hf; omega⟩
  have be := bitN_le m.edns 1 (by decide)
  have WE : IntKind.i64.wrap ((m.ex.length : Int) + bitN m.edns 1) = (m.ex.length : Int) + bitN m.edns 1 := by rw [IntKind.wrap_i64]; omega
  have HEM : Hid ((m.ex.length : Int) + bitN m.edns 1 ≤ 9223372036854775807) := by show _ ≤ _; omega
  have HLM : Hid ((m.qs.length : Int) ≤ 9223372036854775807 ∧ (m.an.length : Int) ≤ 9223372036854775807 ∧ (m.au.length : Int) ≤ 9223372036854775807) := ⟨by omega, by omega, by omega⟩
  unfold msV
  unfold mCells at hw1 ⊢
  clear h hS hb1 hf hb htot b0 b2 b3 b4 b5 o1 o2 o3 o4 be
  go_enter Try.func52, Try.ntmps52
  go_upto_region 1 with (fail)
  rw [← hw1]
  clear hw1
  generalize hq : w.heap.size = q at HR1 ⊢
  have HQ := Lib.hid hq
  clear hq
  obtain ⟨w2, hw2⟩ : ∃ w2, w2 = w1.alloc (.cells #[.slice none 0 0, .slice none 0 0] 103) := ⟨_, rfl⟩
  have HO2 : Hid (RWrS w1 w2 w1.heap.size (fun k => k = w1.heap.size) RW.nil) := ⟨by rw [hw2]; exact RWtr.made w1, by rw [hw2]; exact bl.alloc (Nat.le_refl _) _⟩
  go_upto_region 2 with (fail)
  rw [← hw2]
  clear hw2
  generalize hgg : w1.heap.size = g at HO2 ⊢
  have HGG := Lib.hid hgg
  clear hgg
  generalize (fun k => k = g) = F2 at HO2
  have HKM : Hid (∀ w', Below w1.heap.size w1 w' → MCells w' q s m) := fun w' hw => (HR1.out.below hw).cells
  have y0 : RW.nil.b.length = 0 := rfl
  clear y0
  obtain ⟨x2, hx2⟩ : ∃ x, x = RW.nil.raw (putB [] m.id 2) := ⟨_, rfl⟩
  obtain ⟨x3, hx3⟩ : ∃ x, x = x2.raw (putB [] (flagsN m) 2) := ⟨_, rfl⟩
  obtain ⟨x4, hx4⟩ : ∃ x, x = x3.raw (putB [] (m.qs.length : Int) 2) := ⟨_, rfl⟩
  obtain ⟨x5, hx5⟩ : ∃ x, x = x4.raw (putB [] (m.an.length : Int) 2) := ⟨_, rfl⟩
  obtain ⟨x6, hx6⟩ : ∃ x, x = x5.raw (putB [] (m.au.length : Int) 2) := ⟨_, rfl⟩
  obtain ⟨x7, hx7⟩ : ∃ x, x = x6.raw (putB [] ((m.ex.length : Int) + bitN m.edns 1) 2) := ⟨_, rfl⟩
  have HX7 : Hid (x7 = quY m 0) := by show _ = _; rw [hx7, hx6, hx5, hx4, hx3, hx2]; rfl
  have hl0 : RW.nil.b.length = 0 := rfl
  have hl2 : x2.b.length ≤ 7 := by rw [hx2, rraw_len]; have := putB_len m.id 2; omega
  have hl3 : x3.b.length ≤ 14 := by rw [hx3, rraw_len]; have := putB_len (flagsN m) 2; omega
  have hl4 : x4.b.length ≤ 21 := by rw [hx4, rraw_len]; have := putB_len (m.qs.length : Int) 2; omega
  have hl5 : x5.b.length ≤ 28 := by rw [hx5, rraw_len]; have := putB_len (m.an.length : Int) 2; omega
  have hl6 : x6.b.length ≤ 35 := by rw [hx6, rraw_len]; have := putB_len (m.au.length : Int) 2; omega
  have HX2 := Lib.hid hx2
  have HX3 := Lib.hid hx3
  have HX4 := Lib.hid hx4
  have HX5 := Lib.hid hx5
  have HX6 := Lib.hid hx6
  have HX7' := Lib.hid hx7
  have HLL := Lib.hid (And.intro hl2 (And.intro hl3 (And.intro hl4 (And.intro hl5 hl6))))
  clear hx2 hx3 hx4 hx5 hx6 hx7 hl0 hl2 hl3 hl4 hl5 hl6
  have HG2 : Hid (∀ {wr : World} {F : Nat → Prop} {y : RW}, RWrS w1 wr g F y → Below w1.heap.size w1 wr) := fun h => h.bw
  obtain ⟨z0, z1, z2, z3, z4, z5, z6, z7, z8, z9, z10, z11, z12, z13⟩ := HKM.out w2 HO2.out.bw
  go_upto_region 3 with (first
    | (go_at_call 63; refine (rwnum_any w2 w1.heap.size g F2 RW.nil m.id 2 HO2.out.W (by decide) HMAX.out.1).mono ?_; rw [← HX2.out]; rintro e w3 ⟨rfl, F3, h3, hc3, hF3⟩; have HO3 := Lib.hid (HO2.out.step h3 hc3); clear h3 hc3 hF3)
    | fail)
  clear z0 z1 z2 z3 z4 z5 z6 z7 z8 z9 z10 z11 z12 z13
  have k7 : ∀ w', Below w1.heap.size w1 w' → w'.cell? ⟨q, 1, none⟩ = some (.bool m.resp) ∧ w'.cell? ⟨q, 2, none⟩ = some (.int .i64 m.op) ∧ w'.cell? ⟨q, 3, none⟩ = some (.bool m.aa) ∧ w'.cell? ⟨q, 4, none⟩ = some (.bool m.tc) ∧ w'.cell? ⟨q, 5, none⟩ = some (.bool m.rd) ∧ w'.cell? ⟨q, 6, none⟩ = some (.bool m.ra) ∧ w'.cell? ⟨q, 7, none⟩ = some (.int .i64 m.rcode) := fun w' hw => by
    obtain ⟨z0, z1, z2, z3, z4, z5, z6, z7, z8, z9, z10, z11, z12, z13⟩ := HKM.out w' hw
    exact ⟨z1, z2, z3, z4, z5, z6, z7⟩
  have K7 := Lib.hid k7
  have y0 := k7 w3 HO3.out.bw
  have y1 := k7 w3.drew HO3.out.bw.drew
  have HO3d := Lib.hid (HO3.out.nx bl.drew)
  clear k7
  go_region_held3 (fun w' => w'.cell? ⟨q, 1, none⟩ = some (.bool m.resp) ∧ w'.cell? ⟨q, 2, none⟩ = some (.int .i64 m.op) ∧ w'.cell? ⟨q, 3, none⟩ = some (.bool m.aa) ∧ w'.cell? ⟨q, 4, none⟩ = some (.bool m.tc) ∧ w'.cell? ⟨q, 5, none⟩ = some (.bool m.rd) ∧ w'.cell? ⟨q, 6, none⟩ = some (.bool m.ra) ∧ w'.cell? ⟨q, 7, none⟩ = some (.int .i64 m.rcode))
    (first
      | with_reducible exact y0
      | with_reducible exact y1
      | with_reducible exact y2
      | fail)
    (first
      | (go_at_call 63; refine (rwnum_any w3.drew w1.heap.size g F3 x2 (bitN m.resp 32768 + m.op * 2048 + bitN m.aa 1024 + bitN m.tc 512 + bitN m.rd 256 + bitN m.ra 128 + m.rcode) 2 HO3d.out.W (by have := HLL.out.1; omega) HFN.out.2).mono ?_; rw [HFN.out.1, ← HX3.out]; rintro e w4 ⟨rfl, F4, h4, hc4, hF4⟩; have HO4 := Lib.hid (HO3d.out.step h4 hc4); have y2 := K7.out w4 HO4.out.bw; clear h4 hc4 hF4)
      | (go_at_call 92; (with_reducible refine (rflag_any m.ra 128 _).mono ?_); rintro e wf ⟨rfl, rfl⟩)
      | (go_at_call 92; (with_reducible refine (rflag_any m.rd 256 _).mono ?_); rintro e wf ⟨rfl, rfl⟩)
      | (go_at_call 92; (with_reducible refine (rflag_any m.tc 512 _).mono ?_); rintro e wf ⟨rfl, rfl⟩)
      | (go_at_call 92; (with_reducible refine (rflag_any m.aa 1024 _).mono ?_); rintro e wf ⟨rfl, rfl⟩)
      | (go_at_call 92; (with_reducible refine (rflag_any m.resp 32768 _).mono ?_); rintro e wf ⟨rfl, rfl⟩)
      | fail)
  clear y0 y1 y2 W0 W1 W2 W3 W4 W5 W6 HO3 HO3d
  obtain ⟨z0, z1, z2, z3, z4, z5, z6, z7, z8, z9, z10, z11, z12, z13⟩ := HKM.out w4 HO4.out.bw
  go_upto_region 5 with (first
    | (go_at_call 63; refine (rwnum_any w4 w1.heap.size g F4 x3 (m.qs.length : Int) 2 HO4.out.W (by have := HLL.out; omega) HLM.out.1).mono ?_; rw [← HX4.out]; rintro e w5 ⟨rfl, F5, h5, hc5, hF5⟩; have HO5 := Lib.hid (HO4.out.step h5 hc5); clear h5 hc5 hF5)
    | fail)
  clear z0 z1 z2 z3 z4 z5 z6 z7 z8 z9 z10 z11 z12 z13
  obtain ⟨z0, z1, z2, z3, z4, z5, z6, z7, z8, z9, z10, z11, z12, z13⟩ := HKM.out w5 HO5.out.bw
  go_upto_region 6 with (first
    | (go_at_call 63; refine (rwnum_any w5 w1.heap.size g F5 x4 (m.an.length : Int) 2 HO5.out.W (by have := HLL.out; omega) HLM.out.2.1).mono ?_; rw [← HX5.out]; rintro e w6 ⟨rfl, F6, h6, hc6, hF6⟩; have HO6 := Lib.hid (HO5.out.step h6 hc6); clear h6 hc6 hF6)
    | fail)
  clear z0 z1 z2 z3 z4 z5 z6 z7 z8 z9 z10 z11 z12 z13
  obtain ⟨z0, z1, z2, z3, z4, z5, z6, z7, z8, z9, z10, z11, z12, z13⟩ := HKM.out w6 HO6.out.bw
  go_upto_region 7 with (first
    | (go_at_call 63; refine (rwnum_any w6 w1.heap.size g F6 x5 (m.au.length : Int) 2 HO6.out.W (by have := HLL.out; omega) HLM.out.2.2).mono ?_; rw [← HX6.out]; rintro e w7 ⟨rfl, F7, h7, hc7, hF7⟩; have HO7 := Lib.hid (HO6.out.step h7 hc7); clear h7 hc7 hF7)
    | fail)
  clear z0 z1 z2 z3 z4 z5 z6 z7 z8 z9 z10 z11 z12 z13
  have k2 : ∀ w', Below w1.heap.size w1 w' → w'.cell? ⟨q, 11, none⟩ = some (.slice s.X m.ex.length s.xc) ∧ w'.cell? ⟨q, 12, none⟩ = some (.bool m.edns) := fun w' hw => by
    obtain ⟨z0, z1, z2, z3, z4, z5, z6, z7, z8, z9, z10, z11, z12, z13⟩ := HKM.out w' hw
    exact ⟨z11, z12⟩
  have K2 := Lib.hid k2
  have y0 := k2 w7 HO7.out.bw
  have y1 := k2 w7.drew HO7.out.bw.drew
  have HO7d := Lib.hid (HO7.out.nx bl.drew)
  clear k2
  go_region_held3 (fun w' => w'.cell? ⟨q, 11, none⟩ = some (.slice s.X m.ex.length s.xc) ∧ w'.cell? ⟨q, 12, none⟩ = some (.bool m.edns))
    (first
      | with_reducible exact y0
      | with_reducible exact y1
      | with_reducible exact y2
      | fail)
    (first
      | (go_at_call 63; refine (rwnum_any w7.drew w1.heap.size g F7 x6 ((m.ex.length : Int) + bitN m.edns 1) 2 HO7d.out.W (by have := HLL.out; omega) HEM.out).mono ?_; rw [← HX7'.out, HX7.out]; rintro e w8 ⟨rfl, F8, h8, hc8, hF8⟩; have HO8 := Lib.hid (HO7d.out.step h8 hc8); have y2 := K2.out w8 HO8.out.bw; clear h8 hc8 hF8)
      | (go_at_call 92; (with_reducible refine (rflag_any m.edns 1 _).mono ?_); rintro e wf ⟨rfl, rfl⟩)
      | fail)
  clear y0 y1 y2 WE HO7 HO7d HO4 HO5 HO6 HX2 HX3 HX4 HX5 HX6 HX7 HX7' HLL K7 K2 HFN HEM HLM
  go_wp2_with fail
  go_loopw [4] (fun iv wr => ∃ k : Nat, iv = .int .i64 k ∧ k ≤ m.qs.length ∧ Hid (∃ F, RWrS w1 wr g F (quY m k))) (fun iv _ => m.qs.length - (intOf iv).toNat)
  case atStart => exact ⟨0, rfl, Nat.zero_le _, _, HO8.out⟩
  case round =>
    obtain ⟨k, rfl, hk, HST⟩ := hrel
    obtain ⟨F, hst⟩ := HST.out
    have hql : m.qs.length ≤ 512 := by have := HTOT.out; omega
    by_cases hlt : k < m.qs.length
    · obtain ⟨x, hx⟩ : ∃ x, m.qs[k]? = some x := ⟨_, List.getElem?_eq_getElem hlt⟩
      have HFQ := Lib.hid (HF.out.qs x (List.mem_of_getElem? hx))
      have HTK := Lib.hid (quY_take hx)
      have HOK := Lib.hid (quY_ok HF.out k)
      obtain ⟨b, off, t, hA, _, hd, hc⟩ := qu_at HI1.out.q hx
      have hAA := Lib.hid hA
      have HO := Lib.hid hst
      have HD : Hid (∀ w', Below w1.heap.size w1 w' → QIn S w' t x) := fun w' hw => hd.below hw HS1.out
      have HQC : Hid (∀ w', Below w1.heap.size w1 w' → QCells w' b (off + k * 3) t x ∧ w'.cell? ⟨q, 8, none⟩ = some (.slice (some ⟨b, off, none⟩) m.qs.length s.qc)) := fun w' hw => ⟨hc.below hw, by rw [← hA]; exact ((HR1.out.below hw).cell 8).trans rfl⟩
      have HTM := Lib.hid (And.intro hd.it.2 hd.ic.2)
      clear hx hA hd hc hst HST
      generalize quX m k = xk at HOK
      generalize quY m k = y at HO HTK HOK
      obtain ⟨⟨d0, d1, d2⟩, z8⟩ := HQC.out wr HO.out.bw
      go_upto_region 12 with (first
        | (go_at_call 64; refine (rwname_any wr w1.heap.size g F y t.A _ t.c x.name true HO.out.W (HD.out wr HO.out.bw).n (fun b hb => HO.out.far (HS1.out b hb)) HFQ.out.1 HOK.out.fine (HD.out wr HO.out.bw).cn.1 (HD.out wr HO.out.bw).cn.2 (by have := HOK.out.b; omega) (by have := HOK.out.r; omega)).mono ?_; rintro e w4 ⟨rfl, F4, h4, hc4, hF4⟩; have HO4 := Lib.hid (HO.out.step h4 hc4); clear h4 hc4 hF4)
        | fail)
      clear d0 d1 d2 z8
      obtain ⟨⟨d0, d1, d2⟩, z8⟩ := HQC.out w4 HO4.out.bw
      have HB4 : Hid ((y.name x.name true).b.length ≤ 150000) := by
        show _ ≤ _
        have ha := (Alike.name (small_of_sound HFQ.out.1) true HOK.out.al).1
        rw [← ha]
        have h1 := Wr.name_le (x := xk) x.name true
        have h2 := HFQ.out.1.2
        have h3 := HOK.out.b
        have h4 := congrArg List.length HOK.out.al.1
        omega
      generalize hy4 : y.name x.name true = y4 at HO4 HB4
      have HY4 := Lib.hid hy4
      clear hy4
      go_upto_region 13 with (first
        | (go_at_call 63; refine (rwnum_any w4 w1.heap.size g F4 y4 x.type 2 HO4.out.W (by have := HB4.out; omega) HTM.out.1).mono ?_; rintro e w5 ⟨rfl, F5, h5, hc5, hF5⟩; have HO5 := Lib.hid (HO4.out.step h5 hc5); clear h5 hc5 hF5)
        | fail)
      clear d0 d1 d2 z8
      obtain ⟨⟨d0, d1, d2⟩, z8⟩ := HQC.out w5 HO5.out.bw
      have HB5 : Hid ((y4.raw (putB [] x.type 2)).b.length ≤ 150010) := by show _ ≤ _; have h1 := rraw_len y4 (putB [] x.type 2); have h2 := putB_len x.type 2; have h3 := HB4.out; omega
      go_wp2_with (first
        | (go_at_call 63; refine (rwnum_any w5 w1.heap.size g F5 (y4.raw (putB [] x.type 2)) x.cls 2 HO5.out.W (by have := HB5.out; omega) HTM.out.2).mono ?_; rintro e w6 ⟨rfl, F6, h6, hc6, hF6⟩; have HO6 := Lib.hid (HO5.out.step h6 hc6); clear h6 hc6 hF6)
        | fail)
      go_roundw
      case rel => exact ⟨k + 1, by go_num, by omega, F6, by have h := HO6.out; rw [← HY4.out] at h; rw [HTK.out]; exact h⟩
      case measure => simp [intOf]; omega
    · obtain rfl : k = m.qs.length := by omega
      have HO := Lib.hid hst
      have HRW := Lib.hid (HR1.out.below hst.bw)
      have HI := Lib.hid (HI1.out.below hst.bw HS1.out)
      have HSW : Hid (∀ b, S b → b < wr.heap.size) := fun b hb => (hst.far (HS1.out b hb)).1
      have HLEN : Hid ((m.an.length + m.au.length + m.ex.length) * 168 ≤ 140737488355328) := by show _ ≤ _; have := HTOT.out; omega
      have z8 : wr.cell? ⟨q, 8, none⟩ = some (.slice s.Q m.qs.length s.qc) := (HRW.out.cell 8).trans rfl
      clear hst HST hlt hk
      rename World => wa
      have k0 : ∀ w', Below wa.heap.size wa w' → w'.cell? ⟨q, 9, none⟩ = some (.slice s.A m.an.length s.ac) ∧ w'.cell? ⟨q, 10, none⟩ = some (.slice s.U m.au.length s.uc) ∧ w'.cell? ⟨q, 11, none⟩ = some (.slice s.X m.ex.length s.xc) := fun w' hb => ⟨((HRW.out.below hb).cell 9).trans rfl, ((HRW.out.below hb).cell 10).trans rfl, ((HRW.out.below hb).cell 11).trans rfl⟩
      have z0 := k0 wa bl
      have z1 := k0 wa.drew bl.drew
      have z2 := k0 (wa.alloc (.cells #[] 84)) (bl.alloc (Nat.le_refl _) _)
      have z3 := k0 (wa.alloc (.cells #[] 84)).drew (bl.alloc (Nat.le_refl _) _).drew
      have KK := Lib.hid k0
      have hbase0 : wa.heap.size ≤ (wa.alloc (.cells #[] 84)).drew.heap.size := (bl.alloc (Nat.le_refl _) (.cells #[] 84)).drew.size
      have hown0 : OwnE encRR 84 noS (wa.alloc (.cells #[] 84)).drew wa.heap.size (.slice (some ⟨wa.heap.size, 0, none⟩) 0 0) [] := (ownE_lit0 (fun _ h => h.elim) (Nat.le_refl _)).below bl.drew
      have HBX : Hid (Below wa.heap.size wa (wa.alloc (.cells #[] 84)).drew) := (bl.alloc (Nat.le_refl _) _).drew
      have hsS : ∀ (w' : World) (v : Value), Below wa.heap.size wa w' → (∀ k, v.ownBlock = some k → wa.heap.size ≤ k) → ∀ b, S b → b < w'.heap.size ∧ some b ≠ v.ownBlock := fun w' v hb hv b hs => ⟨Nat.lt_of_lt_of_le (HSW.out b hs) hb.size, fun he => by have h1 := hv b he.symm; have h2 := HSW.out b hs; omega⟩
      have HSS := Lib.hid hsS
      have HHO := Lib.hid hown0
      have hA1 : (([] : List RR).length + m.an.length) * 168 ≤ 140737488355328 := by have := HLEN.out; simp; omega
      have hA2 : ([] ++ m.an).length * 168 + m.au.length * 168 ≤ 140737488355328 := by have := HLEN.out; simp; omega
      have hA3 : ([] ++ m.an ++ m.au).length * 168 + m.ex.length * 168 ≤ 140737488355328 := by have := HLEN.out; simp; omega
      have hM1 : ([] : List RR).length + m.an.length ≤ maxLen := by have := HLEN.out; simp [maxLen]; omega
      have hM2 : ([] ++ m.an).length + m.au.length ≤ maxLen := by have := HLEN.out; simp [maxLen]; omega
      have hM3 : ([] ++ m.an ++ m.au).length + m.ex.length ≤ maxLen := by have := HLEN.out; simp [maxLen]; omega
      have HA := Lib.hid (And.intro hA1 (And.intro hA2 hA3))
      have HM := Lib.hid (And.intro hM1 (And.intro hM2 hM3))
      clear k0 hsS hA1 hA2 hA3 hM1 hM2 hM3
      go_upto_region 14 with (fail)
      go_region_held3 (fun w' => w'.cell? ⟨q, 9, none⟩ = some (.slice s.A m.an.length s.ac) ∧ w'.cell? ⟨q, 10, none⟩ = some (.slice s.U m.au.length s.uc) ∧ w'.cell? ⟨q, 11, none⟩ = some (.slice s.X m.ex.length s.xc))
        (first | with_reducible exact z0 | with_reducible exact z1 | with_reducible exact z2 | with_reducible exact z3 | with_reducible exact z4 | with_reducible exact z5 | with_reducible exact z6 | fail)
        (first
          | (refine step_appE (w := u2) elRR (by rfl) (.tmp 102) (.tmp 104) (by rfl) wa.heap.size v2 ([] ++ m.an ++ m.au) (by rfl) hown2 s.X m.ex.length s.xc m.ex (HI.out.x.keep (fun b hb => HB2.out.block b (HSW.out b hb)) (fun b hb => HB2.out.block b (HSW.out b hb))) (HSS.out _ _ HB2.out (fun k hk => (OwnE.lt hown2 k hk).1)) (by rfl) (by have h := HA.out.2.2; rw [Nat.add_mul]; exact h) HM.out.2.2 (Nat.le_trans (Nat.le_refl _) HB2.out.size) ?_; intro v3 u3 hown3 hg3 hat3; have HB3 : Hid (Below wa.heap.size wa u3) := (Below.grown HB2.out hg3 HB2.out.size (fun k hk => (OwnE.lt hown2 k hk).1)); have z6 := KK.out u3 HB3.out; clear hat3 hg3)
          | (refine step_appE (w := u1) elRR (by rfl) (.tmp 99) (.tmp 101) (by rfl) wa.heap.size v1 ([] ++ m.an) (by rfl) hown1 s.U m.au.length s.uc m.au (HI.out.u.keep (fun b hb => HB1.out.block b (HSW.out b hb)) (fun b hb => HB1.out.block b (HSW.out b hb))) (HSS.out _ _ HB1.out (fun k hk => (OwnE.lt hown1 k hk).1)) (by rfl) (by have h := HA.out.2.1; rw [Nat.add_mul]; exact h) HM.out.2.1 (Nat.le_trans (Nat.le_refl _) HB1.out.size) ?_; intro v2 u2 hown2 hg2 hat2; have HB2 : Hid (Below wa.heap.size wa u2) := (Below.grown HB1.out hg2 HB1.out.size (fun k hk => (OwnE.lt hown1 k hk).1)); have z5 := KK.out u2 HB2.out; clear hat2 hg2)
          | (refine step_appE (w := (wa.alloc (.cells #[] 84)).drew) elRR (by rfl) (.tmp 96) (.tmp 98) (by rfl) wa.heap.size (.slice (some ⟨wa.heap.size, 0, none⟩) 0 0) ([]) (by rfl) HHO.out s.A m.an.length s.ac m.an (HI.out.a.keep (fun b hb => HBX.out.block b (HSW.out b hb)) (fun b hb => HBX.out.block b (HSW.out b hb))) (HSS.out _ _ HBX.out (fun k hk => (OwnE.lt HHO.out k hk).1)) (by rfl) HA.out.1 HM.out.1 (Nat.le_trans (Nat.le_refl _) HBX.out.size) ?_; intro v1 u1 hown1 hg1 hat1; have HB1 : Hid (Below wa.heap.size wa u1) := (Below.grown HBX.out hg1 HBX.out.size (fun k hk => (OwnE.lt HHO.out k hk).1)); have z4 := KK.out u1 HB1.out; clear hat1 hg1)
          | fail)
      rw [List.nil_append] at hown3
      obtain ⟨A3, c3, hv3, hel3, _, _⟩ := OwnE.form hown3
      have hP3 := fun b (hb : v3.ownBlock = some b) => OwnE.lt hown3 b hb
      obtain ⟨n, hn⟩ : ∃ n, n = (allR m).length := ⟨_, rfl⟩
      have hel : Els encRR (fun b => v3.ownBlock = some b) S u3 A3 n (allR m) := by rw [hn]; exact hel3.mono (fun _ h => h) (fun b hb => hb.elim (fun h => h.elim (fun h => h.elim (fun h => h.elim) id) id) id)
      have HN := Lib.hid hn
      have hn5 : n ≤ 512 := by have := HTOT.out; rw [hn]; unfold allR; rw [List.length_append, List.length_append]; omega
      have hv4 : v3 = .slice A3 n c3 := by rw [hv3, hn]; rfl
      obtain ⟨P, hP⟩ : ∃ P : Nat → Prop, P = fun b => v3.ownBlock = some b := ⟨_, rfl⟩
      rw [← hP] at hel
      have HEL := Lib.hid hel
      have HOA := Lib.hid HO.out
      have HO9 : Hid (∃ F, RWrP w1 u3 u3 g F (rrY m 0) P) := ⟨F, (HO.out.nx HB3.out), fun _ _ => rfl, fun b hb => by rw [hP] at hb; have h1 := hP3 b hb; exact ⟨h1.2, fun hf => by have h2 := (HO.out.W.F_lt b hf).2; have h3 := h1.1; omega⟩⟩
      rw [hv4]
      clear z0 z1 z2 z3 z4 z5 z6 z8 hown0 hown1 hown2 hown3 hn HA HHO HSS HBX hbase0 HB1 HB2 hv3 hv4 hel3 hel hP3 hP HO HRW HM
      go_wp2_with fail
      go_loopw [6] (fun iv wr => ∃ k : Nat, iv = .int .i64 k ∧ k ≤ n ∧ Hid (∃ F, RWrP w1 u3 wr g F (rrY m k) P)) (fun iv _ => n - (intOf iv).toNat)
      case atStart => exact ⟨0, rfl, Nat.zero_le _, HO9.out⟩
      case round =>
        obtain ⟨k, rfl, hk, HST⟩ := hrel
        obtain ⟨F, hst⟩ := HST.out
        by_cases hlt : k < n
        · obtain ⟨r, hr⟩ : ∃ r, (allR m)[k]? = some r := ⟨_, List.getElem?_eq_getElem (by rw [← HN.out]; exact hlt)⟩
          have HFR := Lib.hid (allR_fine HF.out r (List.mem_of_getElem? hr)).2
          have HTK := Lib.hid (rrY_take hr)
          have HOK := Lib.hid (rrY_ok HF.out HB.out k)
          have hkeep : ∀ b, S b → wr.heap[b]? = u3.heap[b]? := fun b hb => by
            have h1 := hst.bw.block b (HS1.out b hb)
            have h2 := (nx HOA.out.bw HB3.out).block b (HS1.out b hb)
            rw [h1, h2]
          obtain ⟨b, off, t, hA, _, hd, hc⟩ := rr_at (HEL.out.keep (fun b hb => hst.kp b hb) hkeep) hr
          have hAA := Lib.hid hA
          have HO := Lib.hid hst
          have HD := Lib.hid hd
          obtain ⟨d0, d1, d2, d3, d4, d5, d6, d7, d8⟩ := hc
          rw [hA]
          clear hr hkeep hA hd hst HST
          generalize rrX m k = xk at HOK
          generalize rrY m k = y at HO HTK HOK
          go_wp2_with (first
            | (go_at_call 93; refine (rputRR_any wr w1.heap.size g F xk y t r S HOK.out.al HFR.out HO.out.W HOK.out.fine HD.out (fun b hb => HO.out.far (HS1.out b hb)) (by have := HOK.out.b; omega) (by have := HOK.out.r; omega)).mono ?_; rintro e w4 ⟨rfl, F4, h4, hc4, hF4⟩; have HO4 := Lib.hid (HO.out.step h4 hc4 hF4); clear h4 hc4 hF4)
            | fail)
          go_roundw
          case rel => exact ⟨k + 1, by go_num, by omega, F4, by rw [HTK.out]; exact HO4.out⟩
          case measure => simp [intOf]; omega
        · obtain rfl : k = n := by omega
          have HO := Lib.hid hst.toRWrS
          have HOK := Lib.hid (rrY_ok HF.out HB.out k)
          have HOPT : Hid ((rrY m k).opt m = msR m) := by show _ = _; rw [HN.out]; exact rrY_all m
          have hMC := HKM.out wr hst.bw
          clear hst HST hlt hk HEL HO9 HOA
          generalize rrX m k = xk at HOK
          generalize rrY m k = y at HO HOPT HOK
          obtain ⟨z0, z1, z2, z3, z4, z5, z6, z7, z8, z9, z10, z11, z12, z13⟩ := hMC
          clear z0 z1 z2 z3 z4 z5 z6 z7 z8 z9 z10 z11
          cases he : m.edns with
          | false =>
            have HE := Lib.hid he
            rw [he] at z12
            clear he z13
            have HOPT2 : Hid (y = msR m) := by show _ = _; rw [← HOPT.out]; unfold RW.opt; rw [if_neg (by rw [HE.out]; decide)]
            obtain ⟨A9, c9, x9, hr9, hl9, hm9⟩ := HO.out.W.bytesR
            rw [HOPT2.out] at x9 hr9 hl9
            have HR9 := Lib.hid (And.intro hr9 (And.intro hl9 hm9))
            clear hr9 hl9 hm9
            go_wp2
            go_ret
            exact ⟨_, rfl, ⟨_, _, rfl, HR9.out⟩, nx HBOX.out HO.out.bw⟩
          | true =>
            have HE := Lib.hid he
            rw [he] at z12
            clear he z13
            obtain ⟨y1, hy1⟩ : ∃ y1, y1 = y.raw [0, 0, 41] := ⟨_, rfl⟩
            obtain ⟨y2, hy2⟩ : ∃ y2, y2 = y1.raw (putB [] m.size 2) := ⟨_, rfl⟩
            have HOPT2 : Hid (y2.raw [0, 0, 0, 0, 0, 0] = msR m) := by show _ = _; rw [← HOPT.out, hy2, hy1]; unfold RW.opt; rw [if_pos HE.out]; rfl
            have hl1 : y1.b.length ≤ 8900003 := by have h1 := HOK.out.b; rw [hy1, rraw_len]; simp; omega
            have hl2 : y2.b.length ≤ 8900010 := by rw [hy2, rraw_len]; have := putB_len m.size 2; omega
            have HL := Lib.hid (And.intro hl1 hl2)
            have HY1 := Lib.hid hy1
            have HY2 := Lib.hid hy2
            clear hl1 hl2 hy1 hy2
            have hlit : RdB (wr.alloc (.cells #[.int .u8 0, .int .u8 0, .int .u8 41] 5)) (some ⟨wr.heap.size, 0, none⟩) 3 [0, 0, 41] := lit_rd wr [0, 0, 41] (Nat.le_of_ble_eq_true rfl)
            obtain ⟨w5, hw5⟩ : ∃ w5, w5 = wr.alloc (.cells #[.int .u8 0, .int .u8 0, .int .u8 41] 5) := ⟨_, rfl⟩
            have HO5 : Hid (RWrS w1 w5 g F y) := HO.out.nx (by rw [hw5]; exact bl.alloc (Nat.le_refl _) _)
            rw [← hw5] at hlit
            have HLIT := Lib.hid hlit
            clear hlit
            go_upto_region 21 with (first
              | (go_at_call 94; rw [← hw5]; refine (rwraw_any w5 w1.heap.size g F y _ 3 3 [0, 0, 41] HO5.out.W HLIT.out (by have := HOK.out.b; omega)).mono ?_; rw [← HY1.out]; rintro e w6 ⟨rfl, F6, h6, hc6, hF6⟩; have HO6 := Lib.hid (HO5.out.step h6 hc6); clear h6 hc6 hF6)
              | fail)
            clear hw5
            have z13 : w6.cell? ⟨q, 13, none⟩ = some (.int .i64 m.size) := ((HR1.out.below HO6.out.bw).cell 13).trans rfl
            go_upto_region 22 with (first
              | (go_at_call 63; refine (rwnum_any w6 w1.heap.size g F6 y1 m.size 2 HO6.out.W (by have := HL.out.1; omega) HMAX.out.2).mono ?_; rw [← HY2.out]; rintro e w7 ⟨rfl, F7, h7, hc7, hF7⟩; have HO7 := Lib.hid (HO6.out.step h7 hc7); clear h7 hc7 hF7)
              | fail)
            clear z13
            have hlit : RdB (w7.alloc (.cells #[.int .u8 0, .int .u8 0, .int .u8 0, .int .u8 0, .int .u8 0, .int .u8 0] 5)) (some ⟨w7.heap.size, 0, none⟩) 6 [0, 0, 0, 0, 0, 0] := lit_rd w7 [0, 0, 0, 0, 0, 0] (Nat.le_of_ble_eq_true rfl)
            obtain ⟨w8, hw8⟩ : ∃ w8, w8 = w7.alloc (.cells #[.int .u8 0, .int .u8 0, .int .u8 0, .int .u8 0, .int .u8 0, .int .u8 0] 5) := ⟨_, rfl⟩
            have HO8 : Hid (RWrS w1 w8 g F7 y2) := HO7.out.nx (by rw [hw8]; exact bl.alloc (Nat.le_refl _) _)
            rw [← hw8] at hlit
            have HLIT2 := Lib.hid hlit
            clear hlit
            go_upto_region 23 with (first
              | (go_at_call 94; rw [← hw8]; refine (rwraw_any w8 w1.heap.size g F7 y2 _ 6 6 [0, 0, 0, 0, 0, 0] HO8.out.W HLIT2.out (by have := HL.out.2; omega)).mono ?_; rw [HOPT2.out]; rintro e w9 ⟨rfl, F9, h9, hc9, hF9⟩; have HO9 := Lib.hid (HO8.out.step h9 hc9); clear h9 hc9 hF9)
              | fail)
            clear hw8
            obtain ⟨A9, c9, x9, hr9, hl9, hm9⟩ := HO9.out.W.bytesR
            have HR9 := Lib.hid (And.intro hr9 (And.intro hl9 hm9))
            clear hr9 hl9 hm9
            go_wp2
            go_ret
            exact ⟨_, rfl, ⟨_, _, rfl, HR9.out⟩, nx HBOX.out HO9.out.bw⟩
end Go.Proofs.Ytimkdpkhdbiniaa

/- The reference's Msg: may a message be? -/
namespace Go.Proofs.Ytimkdpkhdbiniaa
open Go.RowKit
set_option maxRecDepth 100000

theorem allp_take {α : Type} {P : α → Prop} {l : List α} {k : Nat} {x : α} (hx : l[k]? = some x) (h : ∀ y ∈ l.take k, P y) (hp : P x) : ∀ y ∈ l.take (k + 1), P y := by
  intro y hy
  rw [List.take_add_one, hx, Option.toList_some] at hy
  rcases List.mem_append.1 hy with hy | hy
  · exact h y hy
  · rw [List.mem_singleton.1 hy]; exact hp
open Classical in
noncomputable def allK (l : List RR) : Bool := decide (∀ r ∈ l, FineK r)
open Classical in
theorem allK_yes {l : List RR} (h : ∀ r ∈ l, FineK r) : allK l = true := by unfold allK; exact decide_eq_true h
open Classical in
theorem allK_no {l : List RR} (h : ¬ ∀ r ∈ l, FineK r) : allK l = false := by unfold allK; exact decide_eq_false h
open Classical in
theorem allK_iff {l : List RR} : allK l = true ↔ ∀ r ∈ l, FineK r := by unfold allK; exact decide_eq_true_iff
set_option maxHeartbeats 4000000 in
theorem rrecords_any (A : Option Addr) (n c : Nat) (xs : List RR) (w : World) (h : RdE encRR w A n xs) (hn : n ≤ 1000000) (hL : ∀ x ∈ xs, Lt9 x) :
    Calls Try.prog 91 #[.slice A n c] w (RetP (fun v _ => v = .bool (allK xs)) w) := by
  have hl := h.len
  subst hl
  have H := Lib.hid h
  have HL := Lib.hid hL
  clear h hL
  go_enter Try.func91, Try.ntmps91
  go_wp2
  go_loopw [3] (fun iv wr => ∃ k : Nat, iv = .int .i64 k ∧ k ≤ xs.length ∧ Hid (∀ r ∈ xs.take k, FineK r) ∧ Hid (Below w.heap.size w wr)) (fun iv _ => xs.length - (intOf iv).toNat)
  case atStart => exact ⟨0, rfl, Nat.zero_le _, fun r hr => by simp at hr, bl⟩
  case round =>
    obtain ⟨k, rfl, hk, HF, HBW⟩ := hrel
    by_cases hlt : k < xs.length
    · obtain ⟨r, hr⟩ : ∃ r, xs[k]? = some r := ⟨_, List.getElem?_eq_getElem hlt⟩
      have HMEM := Lib.hid (List.mem_of_getElem? hr)
      have HR := Lib.hid hr
      have HLR := Lib.hid (HL.out r HMEM.out)
      obtain ⟨b, off, s, hA, _, hri, hrc⟩ := rr_at H.out hr
      have HRI := Lib.hid (hri.below HBW.out (fun b hb => hb))
      obtain ⟨d0, d1, d2, d3, d4, d5, d6, d7, d8⟩ := hrc.below HBW.out
      have HAA := Lib.hid hA
      rw [hA]
      clear hr hri hrc hA
      by_cases ht : r.type = 41
      · have HNO : Hid (allK xs = false) := allK_no (fun hf => (hf r HMEM.out).1 ht)
        rw [ht] at d1
        clear ht
        go_wp2
        go_ret
        exact ⟨_, rfl, by show Value.bool _ = Value.bool _; rw [HNO.out], HBW.out⟩
      · have HT := Lib.hid ht
        have htb : (r.type == 41) = false := by rw [beq_eq_false_iff_ne]; exact ht
        cases hf : fineRB r with
        | false =>
          have HFB := Lib.hid hf
          have HNO : Hid (allK xs = false) := allK_no (fun h => by have h1 := fineRB_true (h r HMEM.out).2; rw [HFB.out] at h1; cases h1)
          clear hf
          go_wp2_with (first
            | (go_at_call 80; refine (rSound_any s r wr HRI.out (fun b hb => Nat.lt_of_lt_of_le hb HBW.out.size) HLR.out.1 HLR.out.2).mono ?_; rw [HFB.out]; rintro e w2 ⟨v2, rfl, rfl, hb2⟩)
            | fail)
          go_ret
          exact ⟨_, rfl, by show Value.bool _ = Value.bool _; rw [HNO.out], nx HBW.out hb2⟩
        | true =>
          have HFB := Lib.hid hf
          clear hf
          go_wp2_with (first
            | (go_at_call 80; refine (rSound_any s r wr HRI.out (fun b hb => Nat.lt_of_lt_of_le hb HBW.out.size) HLR.out.1 HLR.out.2).mono ?_; rw [HFB.out]; rintro e w2 ⟨v2, rfl, rfl, hb2⟩)
            | fail)
          go_roundw
          case rel => exact ⟨k + 1, by go_num, by omega, allp_take HR.out HF.out ⟨HT.out, fineRB_iff.1 HFB.out⟩, nx HBW.out hb2⟩
          case measure => simp [intOf]; omega
    · obtain rfl : k = xs.length := by omega
      rw [List.take_length] at HF
      go_wp2
      go_ret
      exact ⟨_, rfl, by show Value.bool _ = Value.bool _; rw [allK_yes HF.out], HBW.out⟩

theorem ms_last2 {m : Ms} (h0 : totM m ≤ 512) (h1 : fitsB m.id 2 = true) (h2 : 0 ≤ m.op) (h3 : m.op < 16) (h4 : 0 ≤ m.rcode) (h5 : m.rcode < 16) (h6 : fitsB m.size 2 = true) (h7 : m.edns = true ∨ m.size = 0)
    (hq : ∀ q ∈ m.qs, FineQ q) (ha : allK m.an = true) (hu : allK m.au = true) : fineM m = allK m.ex := by
  cases h : allK m.ex with
  | false => exact fineM_no (fun hf => by rw [allK_yes hf.ex] at h; cases h)
  | true => exact fineM_yes ⟨h0, h1, h2, h3, h4, h5, h6, h7, hq, allK_iff.1 ha, allK_iff.1 hu, allK_iff.1 h⟩
theorem ft2 {n : Int} (h1 : 1 ≤ n) (h2 : n ≤ 65535) : fitsB n 2 = true := by unfold fitsB; simp; omega
theorem ft2_le {n : Int} (h : fitsB n 2 = true) : n ≤ 65535 := by unfold fitsB at h; simp at h; omega

set_option maxHeartbeats 16000000 in
theorem rMsg_any (s : MS) (m : Ms) (w : World) {S : Nat → Prop} (h : MIn S w s m) (hS : ∀ b, S b → b < w.heap.size) (hL : LtM m) :
    Calls Try.prog 51 #[msV s m] w (RetP (fun v _ => v = .bool (fineM m)) w) := by
  obtain ⟨w1, hw1⟩ : ∃ w1, w1 = w.alloc (.cells (mCells s m) 31) := ⟨_, rfl⟩
  have hb1 : Below w.heap.size w w1 := by rw [hw1]; exact bl.alloc (Nat.le_refl _) _
  have HR1 : Hid (MRow w1 w.heap.size s m) := by show MRow _ _ _ _; rw [hw1]; exact MRow.made w s m
  have HI1 := Lib.hid (h.below hb1 hS)
  have HS1 : Hid (∀ b, S b → b < w1.heap.size) := fun b hb => Nat.lt_of_lt_of_le (hS b hb) hb1.size
  have HB1 := Lib.hid hb1
  have HL := Lib.hid hL
  unfold msV
  unfold mCells at hw1 ⊢
  clear h hS hL hb1
  go_enter Try.func51, Try.ntmps51
  go_upto_region 1 with (fail)
  rw [← hw1]
  clear hw1
  generalize w.heap.size = q at HR1 ⊢
  obtain ⟨z0, z1, z2, z3, z4, z5, z6, z7, z8, z9, z10, z11, z12, z13⟩ := HR1.out.cells
  have hqs := HL.out.q
  have has := HL.out.s 0
  have hus := HL.out.s 1
  have hxs := HL.out.s 2
  have HSZ0 : Hid (m.an.length ≤ 1000000) := has
  have HSZ1 : Hid (m.au.length ≤ 1000000) := hus
  have HSZ2 : Hid (m.ex.length ≤ 1000000) := hxs
  have HRL0 : Hid (∀ x ∈ m.an, Lt9 x) := fun x hx => (HL.out.r 0 x hx).1
  have HRL1 : Hid (∀ x ∈ m.au, Lt9 x) := fun x hx => (HL.out.r 1 x hx).1
  have HRL2 : Hid (∀ x ∈ m.ex, Lt9 x) := fun x hx => (HL.out.r 2 x hx).1
  change m.an.length ≤ 1000000 at has
  change m.au.length ≤ 1000000 at hus
  change m.ex.length ≤ 1000000 at hxs
  by_cases a0 : (m.qs.length : Int) ≤ 512
  · skip
    by_cases a1 : (m.an.length : Int) ≤ 512
    · skip
      by_cases a2 : (m.au.length : Int) ≤ 512
      · skip
        by_cases a3 : (m.ex.length : Int) ≤ 512
        · skip
          by_cases a4 : (m.qs.length : Int) + (m.an.length : Int) + (m.au.length : Int) + (m.ex.length : Int) ≤ 512
          · skip
            have H512 : Hid (totM m ≤ 512) := by show _ ≤ _; unfold totM; omega
            go_wp2
            clear z0 z1 z2 z3 z4 z5 z6 z7 z8 z9 z10 z11 z12 z13
            go_loopw [3] (fun iv wr => ∃ k : Nat, iv = .int .i64 k ∧ k ≤ m.qs.length ∧ Hid (∀ x ∈ m.qs.take k, FineQ x) ∧ Hid (Below w1.heap.size w1 wr)) (fun iv _ => m.qs.length - (intOf iv).toNat)
            case atStart => exact ⟨0, rfl, Nat.zero_le _, fun r hr => by simp at hr, bl⟩
            case round =>
              obtain ⟨k, rfl, hk, HF, HBW⟩ := hrel
              have HRW := Lib.hid (HR1.out.below HBW.out)
              obtain ⟨z0, z1, z2, z3, z4, z5, z6, z7, z8, z9, z10, z11, z12, z13⟩ := HRW.out.cells
              by_cases hlt : k < m.qs.length
              · obtain ⟨x, hx⟩ : ∃ x, m.qs[k]? = some x := ⟨_, List.getElem?_eq_getElem hlt⟩
                have HX := Lib.hid hx
                have HMEM := Lib.hid (List.mem_of_getElem? hx)
                have HXL := Lib.hid (HL.out.qn x HMEM.out)
                obtain ⟨b, off, t, hA, hb0, hd, hc⟩ := qu_at HI1.out.q hx
                have hAA := Lib.hid hA
                rw [hA] at z8
                obtain ⟨d0, d1, d2⟩ := hc.below HBW.out
                obtain ⟨w3, hw3⟩ : ∃ w3, w3 = wr.alloc (.cells (qCells t x) 25) := ⟨_, rfl⟩
                have hb3 : Below wr.heap.size wr w3 := by rw [hw3]; exact bl.alloc (Nat.le_refl _) _
                have HB3 := Lib.hid hb3
                have HR3 : Hid (QRow w3 wr.heap.size t x) := by show QRow _ _ _ _; rw [hw3]; exact QRow.made wr t x
                have HD := Lib.hid ((hd.below HBW.out HS1.out).below hb3 (fun b hb => Nat.lt_of_lt_of_le (HS1.out b hb) HBW.out.size))
                have hcmax := hd.ic.2
                have HCM := Lib.hid hcmax
                have HBB := Lib.hid (nx HB1.out (nx HBW.out hb3))
                unfold qCells at hw3
                clear hx hA hb0 hd hc hb3 hcmax
                go_upto_region 7 with (fail)
                rw [← hw3]
                clear hw3 d0 d1 d2 z0 z1 z2 z3 z4 z5 z6 z7 z8 z9 z10 z11 z12 z13
                obtain ⟨x0, x1, x2⟩ := HR3.out.cells
                cases t0 : soundB x.name with
                | false =>
                  have HT0 := Lib.hid t0
                  have HNO : Hid (fineM m = false) := fineM_no (fun hf => by have h1 := soundB_iff.2 (hf.qs x HMEM.out).1; rw [HT0.out] at h1; cases h1)
                  clear t0
                  go_wp2_with (first
                    | (go_at_call 27; refine (rsound_any t.A _ t.c x.name w3 HD.out.n).mono ?_; rw [HT0.out]; rintro e w4 ⟨rfl, rfl⟩)
                    | fail)
                  go_ret
                  exact ⟨_, rfl, by show Value.bool _ = Value.bool _; rw [HNO.out], HBB.out⟩
                | true =>
                  have HT0 := Lib.hid t0
                  clear t0
                  by_cases t1 : x.type < 1
                  · have HNO : Hid (fineM m = false) := fineM_no (fun hf => by have h1 := (hf.qs x HMEM.out).2.1; omega)
                    go_wp2_with (first
                      | (go_at_call 27; refine (rsound_any t.A _ t.c x.name w3 HD.out.n).mono ?_; rw [HT0.out]; rintro e w4 ⟨rfl, rfl⟩)
                      | fail)
                    go_ret
                    exact ⟨_, rfl, by show Value.bool _ = Value.bool _; rw [HNO.out], HBB.out⟩
                  · by_cases t2 : 65535 < x.type
                    · have HNO : Hid (fineM m = false) := fineM_no (fun hf => by have h1 := ft2_le (hf.qs x HMEM.out).2.2.1; omega)
                      go_wp2_with (first
                        | (go_at_call 27; refine (rsound_any t.A _ t.c x.name w3 HD.out.n).mono ?_; rw [HT0.out]; rintro e w4 ⟨rfl, rfl⟩)
                        | fail)
                      go_ret
                      exact ⟨_, rfl, by show Value.bool _ = Value.bool _; rw [HNO.out], HBB.out⟩
                    · cases t3 : fitsB x.cls 2 with
                      | false =>
                        have HT3 := Lib.hid t3
                        have HNO : Hid (fineM m = false) := fineM_no (fun hf => by have h1 := (hf.qs x HMEM.out).2.2.2; rw [HT3.out] at h1; cases h1)
                        clear t3
                        go_wp2_with (first
                          | (go_at_call 90; refine (rfits_any x.cls 2 w3 HCM.out).mono ?_; rw [HT3.out]; rintro e w5 ⟨rfl, rfl⟩)
                          | (go_at_call 27; refine (rsound_any t.A _ t.c x.name w3 HD.out.n).mono ?_; rw [HT0.out]; rintro e w4 ⟨rfl, rfl⟩)
                          | fail)
                        go_ret
                        exact ⟨_, rfl, by show Value.bool _ = Value.bool _; rw [HNO.out], HBB.out⟩
                      | true =>
                        have HT3 := Lib.hid t3
                        have HFQ : Hid (FineQ x) := ⟨soundB_iff.1 HT0.out, by omega, ft2 (by omega) (by omega), t3⟩
                        clear t3
                        go_wp2_with (first
                          | (go_at_call 90; refine (rfits_any x.cls 2 w3 HCM.out).mono ?_; rw [HT3.out]; rintro e w5 ⟨rfl, rfl⟩)
                          | (go_at_call 27; refine (rsound_any t.A _ t.c x.name w3 HD.out.n).mono ?_; rw [HT0.out]; rintro e w4 ⟨rfl, rfl⟩)
                          | fail)
                        go_roundw
                        case rel => exact ⟨k + 1, by go_num, by omega, allp_take HX.out HF.out HFQ.out, nx HBW.out HB3.out⟩
                        case measure => simp [intOf]; omega
              · obtain rfl : k = m.qs.length := by omega
                rw [List.take_length] at HF
                have HI := Lib.hid (HI1.out.below HBW.out HS1.out)
                have HSW : Hid (∀ b, S b → b < wr.heap.size) := fun b hb => Nat.lt_of_lt_of_le (HS1.out b hb) HBW.out.size
                have HBB := Lib.hid (nx HB1.out HBW.out)
                have HIM := Lib.hid (And.intro HI1.out.ii.2 HI1.out.is.2)
                have HEa : Hid (RdE encRR wr s.A m.an.length m.an) := HI.out.a.mono HSW.out HSW.out
                have HEu : Hid (RdE encRR wr s.U m.au.length m.au) := HI.out.u.mono HSW.out HSW.out
                have HEx : Hid (RdE encRR wr s.X m.ex.length m.ex) := HI.out.x.mono HSW.out HSW.out
                clear hlt hk a0 a1 a2 a3 a4 hqs has hus hxs
                cases t0 : fitsB m.id 2 with
                | false =>
                  have HT0 := Lib.hid t0
                  clear t0
                  go_wp2_with (first
                    | (go_at_call 90; (with_reducible refine (rfits_any m.id 2 wr HIM.out.1).mono ?_); rw [HT0.out]; rintro e w3 ⟨rfl, rfl⟩)
                    | fail)
                  go_ret
                  exact ⟨_, rfl, by show Value.bool _ = Value.bool _; rw [fineM_no (fun hf => by have h1 := hf.id; rw [HT0.out] at h1; cases h1)], HBB.out⟩
                | true =>
                  have HT0 := Lib.hid t0
                  clear t0
                  by_cases t1 : 0 ≤ m.op
                  · skip
                    by_cases t2 : m.op ≤ 15
                    · skip
                      by_cases t3 : 0 ≤ m.rcode
                      · skip
                        by_cases t4 : m.rcode ≤ 15
                        · skip
                          cases t5 : fitsB m.size 2 with
                          | false =>
                            have HT5 := Lib.hid t5
                            clear t5
                            go_wp2_with (first
                              | (go_at_call 90; (with_reducible refine (rfits_any m.size 2 wr HIM.out.2).mono ?_); rw [HT5.out]; rintro e w4 ⟨rfl, rfl⟩)
                              | (go_at_call 90; (with_reducible refine (rfits_any m.id 2 wr HIM.out.1).mono ?_); rw [HT0.out]; rintro e w3 ⟨rfl, rfl⟩)
                              | fail)
                            go_ret
                            exact ⟨_, rfl, by show Value.bool _ = Value.bool _; rw [fineM_no (fun hf => by have h1 := hf.size; rw [HT5.out] at h1; cases h1)], HBB.out⟩
                          | true =>
                            have HT5 := Lib.hid t5
                            clear t5
                            cases t6 : m.edns with
                            | true =>
                              have HT6 := Lib.hid t6
                              rw [t6] at z12
                              clear t6
                              cases ta : allK m.an with
                              | false =>
                                have HTA := Lib.hid ta
                                clear ta
                                go_wp2_with (first
                                  | (go_at_call 91; (with_reducible refine (rrecords_any s.A m.an.length s.ac m.an wr (HEa.out) HSZ0.out HRL0.out).mono ?_); rw [HTA.out]; rintro e wa ⟨vwa, rfl, rfl, hwa⟩; have y10 := below_cell hwa z10)
                                  | (go_at_call 90; (with_reducible refine (rfits_any m.size 2 wr HIM.out.2).mono ?_); rw [HT5.out]; rintro e w4 ⟨rfl, rfl⟩)
                                  | (go_at_call 90; (with_reducible refine (rfits_any m.id 2 wr HIM.out.1).mono ?_); rw [HT0.out]; rintro e w3 ⟨rfl, rfl⟩)
                                  | fail)
                                go_ret
                                exact ⟨_, rfl, by show Value.bool _ = Value.bool _; rw [fineM_no (fun hf => by have h1 := allK_yes hf.an; rw [HTA.out] at h1; cases h1)], nx HBB.out hwa⟩
                              | true =>
                                have HTA := Lib.hid ta
                                clear ta
                                cases tu : allK m.au with
                                | false =>
                                  have HTU := Lib.hid tu
                                  clear tu
                                  go_wp2_with (first
                                    | (go_at_call 91; (with_reducible refine (rrecords_any s.U m.au.length s.uc m.au wa (RdE.below HEu.out hwa) HSZ1.out HRL1.out).mono ?_); rw [HTU.out]; rintro e wu ⟨vwu, rfl, rfl, hwu⟩; have y11 := below_cell hwu (below_cell hwa z11))
                                    | (go_at_call 91; (with_reducible refine (rrecords_any s.A m.an.length s.ac m.an wr (HEa.out) HSZ0.out HRL0.out).mono ?_); rw [HTA.out]; rintro e wa ⟨vwa, rfl, rfl, hwa⟩; have y10 := below_cell hwa z10)
                                    | (go_at_call 90; (with_reducible refine (rfits_any m.size 2 wr HIM.out.2).mono ?_); rw [HT5.out]; rintro e w4 ⟨rfl, rfl⟩)
                                    | (go_at_call 90; (with_reducible refine (rfits_any m.id 2 wr HIM.out.1).mono ?_); rw [HT0.out]; rintro e w3 ⟨rfl, rfl⟩)
                                    | fail)
                                  go_ret
                                  exact ⟨_, rfl, by show Value.bool _ = Value.bool _; rw [fineM_no (fun hf => by have h1 := allK_yes hf.au; rw [HTU.out] at h1; cases h1)], nx (nx HBB.out hwa) hwu⟩
                                | true =>
                                  have HTU := Lib.hid tu
                                  clear tu
                                  go_wp2_with (first
                                    | (go_at_call 91; (with_reducible refine (rrecords_any s.X m.ex.length s.xc m.ex wu (RdE.below HEx.out (nx hwa hwu)) HSZ2.out HRL2.out).mono ?_); rintro e wx ⟨vwx, rfl, rfl, hwx⟩)
                                    | (go_at_call 91; (with_reducible refine (rrecords_any s.U m.au.length s.uc m.au wa (RdE.below HEu.out hwa) HSZ1.out HRL1.out).mono ?_); rw [HTU.out]; rintro e wu ⟨vwu, rfl, rfl, hwu⟩; have y11 := below_cell hwu (below_cell hwa z11))
                                    | (go_at_call 91; (with_reducible refine (rrecords_any s.A m.an.length s.ac m.an wr (HEa.out) HSZ0.out HRL0.out).mono ?_); rw [HTA.out]; rintro e wa ⟨vwa, rfl, rfl, hwa⟩; have y10 := below_cell hwa z10)
                                    | (go_at_call 90; (with_reducible refine (rfits_any m.size 2 wr HIM.out.2).mono ?_); rw [HT5.out]; rintro e w4 ⟨rfl, rfl⟩)
                                    | (go_at_call 90; (with_reducible refine (rfits_any m.id 2 wr HIM.out.1).mono ?_); rw [HT0.out]; rintro e w3 ⟨rfl, rfl⟩)
                                    | fail)
                                  go_ret
                                  exact ⟨_, rfl, by show Value.bool _ = Value.bool _; rw [ms_last2 H512.out HT0.out t1 (by omega) t3 (by omega) HT5.out (.inl HT6.out) HF.out HTA.out HTU.out], nx (nx (nx HBB.out hwa) hwu) hwx⟩
                            | false =>
                              have HT6 := Lib.hid t6
                              rw [t6] at z12
                              clear t6
                              by_cases t7 : m.size = 0
                              · have HT7 := Lib.hid t7
                                rw [t7] at z13
                                have HZ5 : Hid (fitsB 0 2 = true) := rfl
                                have HM0 : Hid ((0 : Int) ≤ 9223372036854775807) := (by decide : (0 : Int) ≤ 9223372036854775807)
                                clear t7
                                cases ta : allK m.an with
                                | false =>
                                  have HTA := Lib.hid ta
                                  clear ta
                                  go_wp2_with (first
                                    | (go_at_call 91; (with_reducible refine (rrecords_any s.A m.an.length s.ac m.an wr (HEa.out) HSZ0.out HRL0.out).mono ?_); rw [HTA.out]; rintro e wa ⟨vwa, rfl, rfl, hwa⟩; have y10 := below_cell hwa z10)
                                    | (go_at_call 90; (with_reducible refine (rfits_any 0 2 wr HM0.out).mono ?_); rw [HZ5.out]; rintro e w4 ⟨rfl, rfl⟩)
                                    | (go_at_call 90; (with_reducible refine (rfits_any m.id 2 wr HIM.out.1).mono ?_); rw [HT0.out]; rintro e w3 ⟨rfl, rfl⟩)
                                    | fail)
                                  go_ret
                                  exact ⟨_, rfl, by show Value.bool _ = Value.bool _; rw [fineM_no (fun hf => by have h1 := allK_yes hf.an; rw [HTA.out] at h1; cases h1)], nx HBB.out hwa⟩
                                | true =>
                                  have HTA := Lib.hid ta
                                  clear ta
                                  cases tu : allK m.au with
                                  | false =>
                                    have HTU := Lib.hid tu
                                    clear tu
                                    go_wp2_with (first
                                      | (go_at_call 91; (with_reducible refine (rrecords_any s.U m.au.length s.uc m.au wa (RdE.below HEu.out hwa) HSZ1.out HRL1.out).mono ?_); rw [HTU.out]; rintro e wu ⟨vwu, rfl, rfl, hwu⟩; have y11 := below_cell hwu (below_cell hwa z11))
                                      | (go_at_call 91; (with_reducible refine (rrecords_any s.A m.an.length s.ac m.an wr (HEa.out) HSZ0.out HRL0.out).mono ?_); rw [HTA.out]; rintro e wa ⟨vwa, rfl, rfl, hwa⟩; have y10 := below_cell hwa z10)
                                      | (go_at_call 90; (with_reducible refine (rfits_any 0 2 wr HM0.out).mono ?_); rw [HZ5.out]; rintro e w4 ⟨rfl, rfl⟩)
                                      | (go_at_call 90; (with_reducible refine (rfits_any m.id 2 wr HIM.out.1).mono ?_); rw [HT0.out]; rintro e w3 ⟨rfl, rfl⟩)
                                      | fail)
                                    go_ret
                                    exact ⟨_, rfl, by show Value.bool _ = Value.bool _; rw [fineM_no (fun hf => by have h1 := allK_yes hf.au; rw [HTU.out] at h1; cases h1)], nx (nx HBB.out hwa) hwu⟩
                                  | true =>
                                    have HTU := Lib.hid tu
                                    clear tu
                                    go_wp2_with (first
                                      | (go_at_call 91; (with_reducible refine (rrecords_any s.X m.ex.length s.xc m.ex wu (RdE.below HEx.out (nx hwa hwu)) HSZ2.out HRL2.out).mono ?_); rintro e wx ⟨vwx, rfl, rfl, hwx⟩)
                                      | (go_at_call 91; (with_reducible refine (rrecords_any s.U m.au.length s.uc m.au wa (RdE.below HEu.out hwa) HSZ1.out HRL1.out).mono ?_); rw [HTU.out]; rintro e wu ⟨vwu, rfl, rfl, hwu⟩; have y11 := below_cell hwu (below_cell hwa z11))
                                      | (go_at_call 91; (with_reducible refine (rrecords_any s.A m.an.length s.ac m.an wr (HEa.out) HSZ0.out HRL0.out).mono ?_); rw [HTA.out]; rintro e wa ⟨vwa, rfl, rfl, hwa⟩; have y10 := below_cell hwa z10)
                                      | (go_at_call 90; (with_reducible refine (rfits_any 0 2 wr HM0.out).mono ?_); rw [HZ5.out]; rintro e w4 ⟨rfl, rfl⟩)
                                      | (go_at_call 90; (with_reducible refine (rfits_any m.id 2 wr HIM.out.1).mono ?_); rw [HT0.out]; rintro e w3 ⟨rfl, rfl⟩)
                                      | fail)
                                    go_ret
                                    exact ⟨_, rfl, by show Value.bool _ = Value.bool _; rw [ms_last2 H512.out HT0.out t1 (by omega) t3 (by omega) HT5.out (.inr HT7.out) HF.out HTA.out HTU.out], nx (nx (nx HBB.out hwa) hwu) hwx⟩
                              · have t7b : (m.size == 0) = false := by rw [beq_eq_false_iff_ne]; exact t7
                                go_wp2_with (first
                                  | (go_at_call 90; (with_reducible refine (rfits_any m.size 2 wr HIM.out.2).mono ?_); rw [HT5.out]; rintro e w4 ⟨rfl, rfl⟩)
                                  | (go_at_call 90; (with_reducible refine (rfits_any m.id 2 wr HIM.out.1).mono ?_); rw [HT0.out]; rintro e w3 ⟨rfl, rfl⟩)
                                  | fail)
                                go_ret
                                exact ⟨_, rfl, by show Value.bool _ = Value.bool _; rw [fineM_no (fun hf => by have h1 := hf.edns; rw [HT6.out] at h1; exact h1.elim (fun h => by cases h) t7)], HBB.out⟩
                        · skip
                          go_wp2_with (first
                            | (go_at_call 90; (with_reducible refine (rfits_any m.id 2 wr HIM.out.1).mono ?_); rw [HT0.out]; rintro e w3 ⟨rfl, rfl⟩)
                            | fail)
                          go_ret
                          exact ⟨_, rfl, by show Value.bool _ = Value.bool _; rw [fineM_no (fun hf => by have := hf.rc; omega)], HBB.out⟩
                      · skip
                        go_wp2_with (first
                          | (go_at_call 90; (with_reducible refine (rfits_any m.id 2 wr HIM.out.1).mono ?_); rw [HT0.out]; rintro e w3 ⟨rfl, rfl⟩)
                          | fail)
                        go_ret
                        exact ⟨_, rfl, by show Value.bool _ = Value.bool _; rw [fineM_no (fun hf => by have := hf.rc0; omega)], HBB.out⟩
                    · skip
                      go_wp2_with (first
                        | (go_at_call 90; (with_reducible refine (rfits_any m.id 2 wr HIM.out.1).mono ?_); rw [HT0.out]; rintro e w3 ⟨rfl, rfl⟩)
                        | fail)
                      go_ret
                      exact ⟨_, rfl, by show Value.bool _ = Value.bool _; rw [fineM_no (fun hf => by have := hf.op; omega)], HBB.out⟩
                  · skip
                    go_wp2_with (first
                      | (go_at_call 90; (with_reducible refine (rfits_any m.id 2 wr HIM.out.1).mono ?_); rw [HT0.out]; rintro e w3 ⟨rfl, rfl⟩)
                      | fail)
                    go_ret
                    exact ⟨_, rfl, by show Value.bool _ = Value.bool _; rw [fineM_no (fun hf => by have := hf.op0; omega)], HBB.out⟩
          · skip
            have HNO : Hid (fineM m = false) := fineM_no (fun hf => by have h1 := hf.tot; unfold totM at h1; omega)
            go_wp2
            go_ret
            exact ⟨_, rfl, by show Value.bool _ = Value.bool _; rw [HNO.out], HB1.out⟩
        · skip
          have HNO : Hid (fineM m = false) := fineM_no (fun hf => by have h1 := hf.tot; unfold totM at h1; omega)
          go_wp2
          go_ret
          exact ⟨_, rfl, by show Value.bool _ = Value.bool _; rw [HNO.out], HB1.out⟩
      · skip
        have HNO : Hid (fineM m = false) := fineM_no (fun hf => by have h1 := hf.tot; unfold totM at h1; omega)
        go_wp2
        go_ret
        exact ⟨_, rfl, by show Value.bool _ = Value.bool _; rw [HNO.out], HB1.out⟩
    · skip
      have HNO : Hid (fineM m = false) := fineM_no (fun hf => by have h1 := hf.tot; unfold totM at h1; omega)
      go_wp2
      go_ret
      exact ⟨_, rfl, by show Value.bool _ = Value.bool _; rw [HNO.out], HB1.out⟩
  · skip
    have HNO : Hid (fineM m = false) := fineM_no (fun hf => by have h1 := hf.tot; unfold totM at h1; omega)
    go_wp2
    go_ret
    exact ⟨_, rfl, by show Value.bool _ = Value.bool _; rw [HNO.out], HB1.out⟩
end Go.Proofs.Ytimkdpkhdbiniaa

/- The reference's Encode. -/
namespace Go.Proofs.Ytimkdpkhdbiniaa
open Go.RowKit
set_option maxRecDepth 100000

/-- Bytes that a slice leads to. -/
def RdSl (w : World) (v : Value) (bs : List UInt8) : Prop := ∃ A c, v = .slice A bs.length c ∧ RdB w A bs.length bs ∧ bs.length ≤ c ∧ c ≤ maxLen
set_option maxHeartbeats 4000000 in
theorem rEncode_big (s : MS) (m : Ms) (w : World) {S : Nat → Prop} (h : MIn S w s m) (hS : ∀ b, S b → b < w.heap.size) (hL : LtM m) (hb : FineM m → BigOk m) :
    Calls Try.prog 15 #[msV s m] w (RetP (fun v w' => ∃ bv, v = .tuple #[bv, .int .i64 (encP m).2] ∧ RdSl w' bv (encP m).1) w) := by
  obtain ⟨w1, hw1⟩ : ∃ w1, w1 = w.alloc (.cells (mCells s m) 31) := ⟨_, rfl⟩
  have hb1 : Below w.heap.size w w1 := by rw [hw1]; exact bl.alloc (Nat.le_refl _) _
  have HR1 : Hid (MRow w1 w.heap.size s m) := by show MRow _ _ _ _; rw [hw1]; exact MRow.made w s m
  have hS1 : ∀ b, S b → b < w1.heap.size := fun b hb => Nat.lt_of_lt_of_le (hS b hb) hb1.size
  have HS := Lib.hid (rMsg_any s m w1 (h.below hb1 hS) hS1 hL)
  have HI := Lib.hid (h.below hb1 hS)
  have HS1 : Hid (∀ b, S b → b < w1.heap.size) := hS1
  have HB : Hid (FineM m → BigOk m) := hb
  have HB1 := Lib.hid hb1
  have HNIL : Hid (∀ w', RdSl w' (.slice none 0 0) []) := fun w' => ⟨none, 0, rfl, Rd.nil _ _ _, Nat.le_refl _, by unfold maxLen; omega⟩
  obtain ⟨z0, z1, z2, z3, z4, z5, z6, z7, z8, z9, z10, z11, z12, z13⟩ := HR1.out.cells
  unfold msV mCells at HS
  unfold msV
  unfold mCells at hw1 ⊢
  clear h hS hb1 hL hb hS1
  cases hf : fineM m with
  | false =>
    rw [hf] at HS
    have HE := Lib.hid (encP_bad hf)
    clear hf
    go_enter Try.func15, Try.ntmps15
    go_upto_region 1 with (fail)
    rw [← hw1]
    clear hw1
    go_wp2_with (first
      | (go_at_call 51; refine HS.out.mono ?_; rintro e w2 ⟨v2, rfl, rfl, hb2⟩)
      | fail)
    go_ret2
    exact ⟨_, rfl, ⟨_, (by rw [HE.out]; rfl), by rw [HE.out]; exact HNIL.out _⟩, nx HB1.out hb2⟩
  | true =>
    rw [hf] at HS
    have HFT := Lib.hid hf
    clear hf
    have HRAW : Hid (∀ w2, Below w1.heap.size w1 w2 → Calls Try.prog 52 #[.agg #[.int .i64 m.id, .bool m.resp, .int .i64 m.op, .bool m.aa, .bool m.tc, .bool m.rd, .bool m.ra, .int .i64 m.rcode, .slice s.Q m.qs.length s.qc, .slice s.A m.an.length s.ac, .slice s.U m.au.length s.uc, .slice s.X m.ex.length s.xc, .bool m.edns, .int .i64 m.size]] w2 (RetP (fun v w' => RdSl w' v (msW m).b) w2)) := fun w2 hw => by
      have h := rRaw_any s m w2 (HI.out.below hw HS1.out) (fun b hb => Nat.lt_of_lt_of_le (HS1.out b hb) hw.size) (fineM_iff.1 HFT.out) (HB.out (fineM_iff.1 HFT.out))
      rw [ms_bytes (fineM_iff.1 HFT.out)] at h
      exact h
    go_enter Try.func15, Try.ntmps15
    go_upto_region 1 with (fail)
    rw [← hw1]
    clear hw1
    go_upto_region 3 with (first
      | (go_at_call 51; refine HS.out.mono ?_; rintro e w2 ⟨v2, rfl, rfl, hb2⟩)
      | fail)
    have HB2 := Lib.hid hb2
    clear z0 z1 z2 z3 z4 z5 z6 z7 z8 z9 z10 z11 z12 z13 hb2
    obtain ⟨z0, z1, z2, z3, z4, z5, z6, z7, z8, z9, z10, z11, z12, z13⟩ := (HR1.out.below HB2.out).cells
    go_upto_region 4 with (first
      | (go_at_call 52; refine (HRAW.out w2 HB2.out).mono ?_; rintro e w3 ⟨v3, rfl, ho3, hb3⟩; have HO3 := Lib.hid ho3; obtain ⟨A3, c3, hv3, _, _, _⟩ := ho3; subst hv3; have HB3 := Lib.hid (nx HB1.out (nx HB2.out hb3)); clear hb3)
      | fail)
    obtain ⟨n, hn⟩ : ∃ n, n = (msW m).b.length := ⟨_, rfl⟩
    have HN := Lib.hid hn
    rw [← hn] at HO3 ⊢
    clear hn
    by_cases hl : (65535 : Int) < (n : Int)
    · have HE := Lib.hid (encP_large HFT.out (by rw [← HN.out]; omega))
      go_wp2
      go_ret2
      exact ⟨_, rfl, ⟨_, (by rw [HE.out]; rfl), by rw [HE.out]; exact HNIL.out _⟩, HB3.out⟩
    · have HE := Lib.hid (encP_ok HFT.out (by rw [← HN.out]; omega))
      go_wp2
      go_ret2
      exact ⟨_, rfl, ⟨_, (by rw [HE.out]; rfl), by rw [HE.out]; exact HO3.out⟩, HB3.out⟩
end Go.Proofs.Ytimkdpkhdbiniaa
