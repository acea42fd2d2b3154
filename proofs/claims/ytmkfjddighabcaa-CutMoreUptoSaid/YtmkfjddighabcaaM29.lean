/- Parts of a proof, joined: Law07M. -/
import Derived.Test.YtmkfjddighabcaaM27
import Derived.Test.YtmkfjddighabcaaM28
import Derived.Test.YtmkfjddighabcaaM21
import Derived.Test.YtmkfjddighabcaaM16
/- CutMore: the law's walk. -/
namespace Go.Proofs.Ytmkfjddighabcaa
open Go.RowKit
set_option maxRecDepth 100000
set_option linter.unusedVariables false

theorem LtMsg7.lt6 {m : Ms} (h : LtMsg7 m) : LtMsg6 m := ⟨Nat.le_trans h.all (by omega), Nat.le_trans h.qs (by omega), h.r, h.q, h.b⟩
theorem LtMsg7.bytes {m : Ms} (h : LtMsg7 m) : bytesM m ≤ 200000 := by have := h.b; omega
theorem ownB_blt7 {w : World} {B : Nat} {A : Option Addr} {n c : Nat} {bs : List UInt8} (h : OwnB w B (.slice A n c) bs) : ∀ b off, A = some ⟨b, off, none⟩ → b < w.heap.size := by
  intro b off e
  subst e
  have hl := World.ownsRow.lt h
  rcases h.2 with ⟨e0, _⟩ | ⟨g, cap, cur, e0, h3, _⟩
  · injection e0 with e0
    cases e0
  · injection e0 with e0
    injection e0 with e0
    injection e0 with e0
    subst e0
    exact (hl _ rfl).2

set_option maxHeartbeats 8000000 in
theorem cutMore_heavy (s : MS) (m : Ms) (a b : Nat) (w : World) (h : MIn (ltS w) w s m) (hq : m.qs.length ≤ 1048576) (hlen : (m.an.length + m.au.length + m.ex.length) * 168 ≤ 140737488355328) (hby : ∀ r ∈ m.an ++ m.au ++ m.ex, r.data.bytes.length ≤ 140737488355328) (ha : a < 65536) (hb : b < 65536) (hlt : ¬ LtMsg7 m) :
    Calls Try.prog 11 #[msV s m, .int .u16 (a : Int), .int .u16 (b : Int)] w (LawT w) := by
  obtain ⟨w1, hw1⟩ : ∃ w1, w1 = w.alloc (.cells (mCells s m) 25) := ⟨_, rfl⟩
  have hb1 : Below w.heap.size w w1 := by rw [hw1]; exact bl.alloc (Nat.le_refl _) _
  have HR1 : Hid (MRow w1 w.heap.size s m) := by show MRow _ _ _ _; rw [hw1]; exact MRow.made w s m
  have HB1 := Lib.hid hb1
  have HIW : Hid (∀ w', Below w1.heap.size w1 w' → MIn (ltS w) w' s m) := fun w' hw => (h.below hb1 (fun b hb => hb)).below hw (fun b hb => Nat.lt_of_lt_of_le hb hb1.size)
  have HSW : Hid (∀ w', Below w1.heap.size w1 w' → ∀ b, ltS w b → b < w'.heap.size) := fun w' hw b hb => Nat.lt_of_lt_of_le (Nat.lt_of_lt_of_le hb hb1.size) hw.size
  have HK : Hid (∀ w', Below w1.heap.size w1 w' → MCells w' w.heap.size s m) := fun w' hw => (HR1.out.below hw).cells
  have HLT := Lib.hid (fun w2 (hw : Below w1.heap.size w1 w2) => light07_any s m w2 (HIW.out w2 hw) (HSW.out w2 hw) (by omega) hlen hby)
  have HNO := Lib.hid (ltM7_no hlt)
  unfold msV mCells at HLT
  unfold msV
  unfold mCells at hw1 ⊢
  clear h hb1 hlt hq hlen hby
  rw [HNO.out] at HLT
  go_enter Try.func11, Try.ntmps11
  go_upto_region 1 with (fail)
  rw [← hw1]
  clear hw1
  go_wp2_with (first
    | (go_at_call 29; refine (answers07_any w3).mono ?_; rintro e w4 ⟨rfl, hb4⟩)
    | (go_at_call 30; refine (HLT.out w2 hb2).mono ?_; rintro e w3 ⟨v3, rfl, rfl, hb3⟩; have HB3 := Lib.hid (nx hb2 hb3); obtain ⟨z0, z1, z2, z3, z4, z5, z6, z7, z8, z9, z10, z11, z12, z13⟩ := HK.out w3 HB3.out)
    | (go_at_call 29; refine (answers07_any w1).mono ?_; rintro e w2 ⟨rfl, hb2⟩; obtain ⟨z0, z1, z2, z3, z4, z5, z6, z7, z8, z9, z10, z11, z12, z13⟩ := HK.out w2 hb2)
    | fail)
  go_ret
  exact ⟨rfl, nx (nx HB1.out HB3.out) hb4⟩
set_option maxHeartbeats 8000000 in
theorem cutMore_bad (s : MS) (m : Ms) (a b : Nat) (w : World) (h : MIn (ltS w) w s m) (hq : m.qs.length ≤ 1048576) (hlen : (m.an.length + m.au.length + m.ex.length) * 168 ≤ 140737488355328) (hby : ∀ r ∈ m.an ++ m.au ++ m.ex, r.data.bytes.length ≤ 140737488355328) (ha : a < 65536) (hb : b < 65536) (hlt : LtMsg7 m) (hf : fineM m = false) :
    Calls Try.prog 11 #[msV s m, .int .u16 (a : Int), .int .u16 (b : Int)] w (LawT w) := by
  obtain ⟨w1, hw1⟩ : ∃ w1, w1 = w.alloc (.cells (mCells s m) 25) := ⟨_, rfl⟩
  have hb1 : Below w.heap.size w w1 := by rw [hw1]; exact bl.alloc (Nat.le_refl _) _
  have HR1 : Hid (MRow w1 w.heap.size s m) := by show MRow _ _ _ _; rw [hw1]; exact MRow.made w s m
  have HB1 := Lib.hid hb1
  have HIW : Hid (∀ w', Below w1.heap.size w1 w' → MIn (ltS w) w' s m) := fun w' hw => (h.below hb1 (fun b hb => hb)).below hw (fun b hb => Nat.lt_of_lt_of_le hb hb1.size)
  have HSW : Hid (∀ w', Below w1.heap.size w1 w' → ∀ b, ltS w b → b < w'.heap.size) := fun w' hw b hb => Nat.lt_of_lt_of_le (Nat.lt_of_lt_of_le hb hb1.size) hw.size
  have HK : Hid (∀ w', Below w1.heap.size w1 w' → MCells w' w.heap.size s m) := fun w' hw => (HR1.out.below hw).cells
  have HLT := Lib.hid (fun w2 (hw : Below w1.heap.size w1 w2) => light07_any s m w2 (HIW.out w2 hw) (HSW.out w2 hw) (by omega) hlen hby)
  have HYES := Lib.hid (ltM7_yes hlt)
  have HRM := Lib.hid (fun w2 (hw : Below w1.heap.size w1 w2) => rMsg_any s m w2 (HIW.out w2 hw) (HSW.out w2 hw) hlt.lt6.ltM)
  rw [hf] at HRM
  unfold msV mCells at HLT HRM
  unfold msV
  unfold mCells at hw1 ⊢
  clear h hb1 hlt hq hlen hby hf
  rw [HYES.out] at HLT
  go_enter Try.func11, Try.ntmps11
  go_upto_region 1 with (fail)
  rw [← hw1]
  clear hw1
  go_wp2_with (first
    | (go_at_call 29; refine (answers07_any w4).mono ?_; rintro e w5 ⟨rfl, hb5⟩)
    | (go_at_call 22; refine (HRM.out w3 HB3.out).mono ?_; rintro e w4 ⟨v4, rfl, rfl, hb4⟩)
    | (go_at_call 30; refine (HLT.out w2 hb2).mono ?_; rintro e w3 ⟨v3, rfl, rfl, hb3⟩; have HB3 := Lib.hid (nx hb2 hb3); obtain ⟨z0, z1, z2, z3, z4, z5, z6, z7, z8, z9, z10, z11, z12, z13⟩ := HK.out w3 HB3.out)
    | (go_at_call 29; refine (answers07_any w1).mono ?_; rintro e w2 ⟨rfl, hb2⟩; obtain ⟨z0, z1, z2, z3, z4, z5, z6, z7, z8, z9, z10, z11, z12, z13⟩ := HK.out w2 hb2)
    | fail)
  go_ret
  exact ⟨rfl, nx (nx (nx HB1.out HB3.out) hb4) hb5⟩
set_option maxHeartbeats 32000000 in
theorem cutMore_fine (s : MS) (m : Ms) (a b : Nat) (w : World) (h : MIn (ltS w) w s m) (hq : m.qs.length ≤ 1048576) (hlen : (m.an.length + m.au.length + m.ex.length) * 168 ≤ 140737488355328) (hby : ∀ r ∈ m.an ++ m.au ++ m.ex, r.data.bytes.length ≤ 140737488355328) (ha : a < 65536) (hb : b < 65536) (hlt : LtMsg7 m) (hf : fineM m = true) :
    Calls Try.prog 11 #[msV s m, .int .u16 (a : Int), .int .u16 (b : Int)] w (LawT w) := by
  obtain ⟨w1, hw1⟩ : ∃ w1, w1 = w.alloc (.cells (mCells s m) 25) := ⟨_, rfl⟩
  have hb1 : Below w.heap.size w w1 := by rw [hw1]; exact bl.alloc (Nat.le_refl _) _
  have HR1 : Hid (MRow w1 w.heap.size s m) := by show MRow _ _ _ _; rw [hw1]; exact MRow.made w s m
  have HB1 := Lib.hid hb1
  have HIW : Hid (∀ w', Below w1.heap.size w1 w' → MIn (ltS w) w' s m) := fun w' hw => (h.below hb1 (fun b hb => hb)).below hw (fun b hb => Nat.lt_of_lt_of_le hb hb1.size)
  have HSW : Hid (∀ w', Below w1.heap.size w1 w' → ∀ b, ltS w b → b < w'.heap.size) := fun w' hw b hb => Nat.lt_of_lt_of_le (Nat.lt_of_lt_of_le hb hb1.size) hw.size
  have HK : Hid (∀ w', Below w1.heap.size w1 w' → MCells w' w.heap.size s m) := fun w' hw => (HR1.out.below hw).cells
  have HLT := Lib.hid (fun w2 (hw : Below w1.heap.size w1 w2) => light07_any s m w2 (HIW.out w2 hw) (HSW.out w2 hw) (by omega) hlen hby)
  have HYES := Lib.hid (ltM7_yes hlt)
  have HRM := Lib.hid (fun w2 (hw : Below w1.heap.size w1 w2) => rMsg_any s m w2 (HIW.out w2 hw) (HSW.out w2 hw) hlt.lt6.ltM)
  rw [hf] at HRM
  have HL := Lib.hid hlt.lt6.ltM
  have HBM := Lib.hid hlt.bytes
  have HFF := Lib.hid (fineM_iff.1 hf)
  obtain ⟨N, hN⟩ : ∃ N, N = 512 + a % 3000 := ⟨_, rfl⟩
  obtain ⟨K, hK⟩ : ∃ K, K = N + b % 3000 := ⟨_, rfl⟩
  have hN1 : (512 : Int) + (a : Int) % 3000 = (N : Int) := by omega
  have hN2 : (512 : Int) + Int.tmod (a : Int) 3000 = (N : Int) := by rw [show Int.tmod (a : Int) 3000 = ((a % 3000 : Nat) : Int) from rfl]; omega
  have hK1 : (N : Int) + (b : Int) % 3000 = (K : Int) := by omega
  have hK2 : (N : Int) + Int.tmod (b : Int) 3000 = (K : Int) := by rw [show Int.tmod (b : Int) 3000 = ((b % 3000 : Nat) : Int) from rfl]; omega
  have hNb : 512 ≤ N ∧ N ≤ 3512 := by omega
  have hKb : N ≤ K ∧ K ≤ 6512 := by omega
  have HNB := Lib.hid hNb
  have HKB := Lib.hid hKb
  have hNi : (N : Int) ≤ 3512 := by omega
  unfold msV mCells at HLT HRM
  unfold msV
  unfold mCells at hw1 ⊢
  clear h hb1 hlt hq hlen hby hf hN hK hNb hKb
  rw [HYES.out] at HLT
  go_enter Try.func11, Try.ntmps11
  go_upto_region 1 with (fail)
  rw [← hw1]
  clear hw1
  go_upto_region 3 with (fail)
  clear hN1 hN2 hK1 hK2 hNi
  go_upto_region 5 with (first
    | (go_at_call 22; refine (HRM.out w3 HB3.out).mono ?_; rintro e w4 ⟨v4, rfl, rfl, hb4⟩; have HB4 := Lib.hid (nx HB3.out hb4))
    | (go_at_call 30; refine (HLT.out w2 hb2).mono ?_; rintro e w3 ⟨v3, rfl, rfl, hb3⟩; have HB3 := Lib.hid (nx hb2 hb3); obtain ⟨z0, z1, z2, z3, z4, z5, z6, z7, z8, z9, z10, z11, z12, z13⟩ := HK.out w3 HB3.out)
    | (go_at_call 29; refine (answers07_any w1).mono ?_; rintro e w2 ⟨rfl, hb2⟩; obtain ⟨z0, z1, z2, z3, z4, z5, z6, z7, z8, z9, z10, z11, z12, z13⟩ := HK.out w2 hb2)
    | fail)
  clear z0 z1 z2 z3 z4 z5 z6 z7 z8 z9 z10 z11 z12 z13 hb2 hb3 hb4 HLT HRM HYES HB3
  obtain ⟨z0, z1, z2, z3, z4, z5, z6, z7, z8, z9, z10, z11, z12, z13⟩ := HK.out w4 HB4.out
  go_upto_region 6 with (first
    | (go_at_call 31; refine (cutFit_any s5 m (N : Int) w5 HI5.out (fun b hb => hb.2) HL.out HBM.out).mono ?_; rintro e w6 ⟨v6, rfl, ⟨bv6, rfl, ho6⟩, hb6⟩; have HO6 := Lib.hid ho6; obtain ⟨A6, c6, hv6, _, hl6, hm6⟩ := OwnB.form ho6; subst hv6; have HC6 := Lib.hid (And.intro hl6 hm6); have HB6 := Lib.hid (nx HB5.out hb6); clear ho6 hb6 hl6 hm6)
    | (go_at_call 18; refine (ownMsg_any s m w4 (HIW.out w4 HB4.out) (HSW.out w4 HB4.out) HL.out.light).mono ?_; rintro e w5 ⟨v5, rfl, ⟨s5, rfl, hi5⟩, hb5⟩; have HI5 := Lib.hid hi5; have HB5 := Lib.hid (nx HB4.out hb5); clear hi5 hb5)
    | fail)
  clear z0 z1 z2 z3 z4 z5 z6 z7 z8 z9 z10 z11 z12 z13 HI5
  obtain ⟨z0, z1, z2, z3, z4, z5, z6, z7, z8, z9, z10, z11, z12, z13⟩ := HK.out w6 HB6.out
  go_upto_region 7 with (first
    | (go_at_call 31; refine (cutFit_any s7 m (K : Int) w7 HI7.out (fun b hb => hb.2) HL.out HBM.out).mono ?_; rintro e w8 ⟨v8, rfl, ⟨bv8, rfl, ho8⟩, hb8⟩; have HO8 := Lib.hid ho8; obtain ⟨A8, c8, hv8, _, hl8, hm8⟩ := OwnB.form ho8; subst hv8; have HC8 := Lib.hid (And.intro hl8 hm8); have HB8 := Lib.hid (nx HB7.out hb8); have HB68 := Lib.hid (nx HB67.out hb8); clear ho8 hb8 hl8 hm8)
    | (go_at_call 18; refine (ownMsg_any s m w6 (HIW.out w6 HB6.out) (HSW.out w6 HB6.out) HL.out.light).mono ?_; rintro e w7 ⟨v7, rfl, ⟨s7, rfl, hi7⟩, hb7⟩; have HI7 := Lib.hid hi7; have HB7 := Lib.hid (nx HB6.out hb7); have HB67 := Lib.hid hb7; clear hi7 hb7)
    | fail)
  clear z0 z1 z2 z3 z4 z5 z6 z7 z8 z9 z10 z11 z12 z13 HI7 HIW HSW HK
  have hTN := fitP_T HFF.out (show (512 : Int) ≤ (N : Int) by have := HNB.out; omega) (show (N : Int) ≤ 65535 by have := HNB.out; omega)
  have hTK := fitP_T HFF.out (show (512 : Int) ≤ (K : Int) by have h1 := HNB.out; have h2 := HKB.out; omega) (show (K : Int) ≤ 65535 by have := HKB.out; omega)
  cases hx : cutT (N : Int) m with
  | none =>
    rw [hx] at hTN
    rw [hTN]
    clear HO6 HC6 HO8 HC8 hTN hTK hx
    go_wp2
    go_ret
    exact ⟨rfl, nx HB1.out HB8.out⟩
  | some x =>
    obtain ⟨y, hy, hyx, hlen⟩ := cutT_more (show (N : Int) ≤ (K : Int) by have := HKB.out; omega) hx
    rw [hx] at hTN
    rw [hy] at hTK
    dsimp only at hTN hTK
    have hxl := (cutT_part (Part.whole m) hx).2
    have hyl := (cutT_part (Part.whole m) hy).2
    obtain ⟨k', j', i', hp, _, _, _, htc⟩ := (cutT_part (Part.whole y) hyx).1
    obtain ⟨pa, pu, px⟩ := hp.lens
    have hpk := hp.hk
    have hpj := hp.hj
    have hpi := hp.hi
    have hfx := (cutT_fine HFF.out hx).1
    have hfy := (cutT_fine HFF.out hy).1
    rw [hTN] at HO6 HC6
    rw [hTK] at HO8 HC8
    rw [hTN, hTK]
    obtain ⟨X, hX⟩ : ∃ X, X = (msW x).b := ⟨_, rfl⟩
    obtain ⟨Y, hY⟩ : ∃ Y, Y = (msW y).b := ⟨_, rfl⟩
    have hdx := decode_back hfx (by have := HNB.out; omega)
    have hdy := decode_back hfy (by have := HKB.out; omega)
    rw [← hX] at HO6 HC6 hdx hxl hlen ⊢
    rw [← hY] at HO8 HC8 hdy hyl hlen ⊢
    have HDX := Lib.hid (decV_ok hdx)
    have HDY := Lib.hid (decV_ok hdy)
    have hsa : x.an.length ≤ y.an.length := by omega
    have hsu : x.au.length ≤ y.au.length := by omega
    have hsx : x.ex.length ≤ y.ex.length := by omega
    clear hX hY hTN hTK hx hy hyx hp pa pu px hpk hpj hpi hfx hfy hdx hdy
    dsimp only at HO6 HC6 HO8 HC8 ⊢
    obtain ⟨nx', hnx⟩ : ∃ n, n = X.length := ⟨_, rfl⟩
    obtain ⟨ny, hny⟩ : ∃ n, n = Y.length := ⟨_, rfl⟩
    have HRX : Hid (RdB w8 A6 nx' X) := by show RdB _ _ _ _; rw [hnx]; exact (OwnB.rd HO6.out).1.below HB68.out
    have HRY : Hid (RdB w8 A8 ny Y) := by show RdB _ _ _ _; rw [hny]; exact (OwnB.rd HO8.out).1
    have HLX : Hid (∀ b off, A6 = some ⟨b, off, none⟩ → b < w8.heap.size) := fun b off e => Nat.lt_of_lt_of_le (ownB_blt7 HO6.out b off e) HB68.out.size
    have HLY := Lib.hid (ownB_blt7 HO8.out)
    rw [← hnx] at HC6 hxl hlen ⊢
    rw [← hny] at HC8 hyl hlen ⊢
    have hx6 : nx' ≤ 65535 := by have := HNB.out; omega
    have hy6 : ny ≤ 65535 := by have := HKB.out; omega
    clear hnx hny HO6 HO8 hxl hyl
    go_upto_region 10 with (first
      | (go_at_call 19; refine (decode_any w8 A6 nx' c6 X HRX.out HLX.out HC6.out.1 HC6.out.2 (by omega)).mono ?_; unfold goodV; rw [HDX.out]; rintro e w9 ⟨v9, rfl, ⟨s9, rfl, hm9⟩, hb9⟩; unfold msV mCells; have HB9 := Lib.hid hb9; clear hm9 hb9)
      | fail)
    obtain ⟨wx, hwx⟩ : ∃ u, u = w9.alloc (.cells (mCells s9 x) 25) := ⟨_, rfl⟩
    have HRX9 : Hid (MRow wx w9.heap.size s9 x) := by show MRow _ _ _ _; rw [hwx]; exact MRow.made w9 s9 x
    have HBX : Hid (Below w8.heap.size w8 wx) := by show Below _ _ _; rw [hwx]; exact nx HB9.out (bl.alloc (Nat.le_refl _) _)
    unfold mCells at hwx
    rw [← hwx]
    clear hwx HB9
    generalize w9.heap.size = q9 at HRX9 ⊢
    go_upto_region 11 with (first
      | (go_at_call 19; refine (decode_any wx A8 ny c8 Y (HRY.out.below HBX.out) (fun b off e => Nat.lt_of_lt_of_le (HLY.out b off e) HBX.out.size) HC8.out.1 HC8.out.2 (by omega)).mono ?_; unfold goodV; rw [HDY.out]; rintro e wy ⟨vy, rfl, ⟨sy, rfl, hmy⟩, hby⟩; unfold msV mCells; have HBY := Lib.hid hby; clear hmy hby)
      | fail)
    obtain ⟨wz, hwz⟩ : ∃ u, u = wy.alloc (.cells (mCells sy y) 25) := ⟨_, rfl⟩
    have hbz : Below wx.heap.size wx wz := by rw [hwz]; exact nx HBY.out (bl.alloc (Nat.le_refl _) _)
    have hRY := MRow.made wy sy y
    rw [← hwz] at hRY
    have hRX := HRX9.out.below hbz
    have HBZ := Lib.hid (nx HBX.out hbz)
    unfold mCells at hwz
    rw [← hwz]
    clear hwz HBY hbz
    generalize wy.heap.size = qy at hRY ⊢
    have c4 : wz.cell? ⟨q9, 4, none⟩ = some (.bool x.tc) := hRX.cell 4
    have c9 : wz.cell? ⟨q9, 9, none⟩ = some (.slice s9.A x.an.length s9.ac) := hRX.cell 9
    have c10 : wz.cell? ⟨q9, 10, none⟩ = some (.slice s9.U x.au.length s9.uc) := hRX.cell 10
    have c11 : wz.cell? ⟨q9, 11, none⟩ = some (.slice s9.X x.ex.length s9.xc) := hRX.cell 11
    have d4 : wz.cell? ⟨qy, 4, none⟩ = some (.bool y.tc) := hRY.cell 4
    have d9 : wz.cell? ⟨qy, 9, none⟩ = some (.slice sy.A y.an.length sy.ac) := hRY.cell 9
    have d10 : wz.cell? ⟨qy, 10, none⟩ = some (.slice sy.U y.au.length sy.uc) := hRY.cell 10
    have d11 : wz.cell? ⟨qy, 11, none⟩ = some (.slice sy.X y.ex.length sy.xc) := hRY.cell 11
    clear hRX hRY HRX9
    have e1 : decide (nx' ≤ ny) = true := decide_eq_true hlen
    have e2 : decide (x.an.length ≤ y.an.length) = true := decide_eq_true hsa
    have e3 : decide (x.au.length ≤ y.au.length) = true := decide_eq_true hsu
    have e4 : decide (x.ex.length ≤ y.ex.length) = true := decide_eq_true hsx
    cases hxt : x.tc with
    | true =>
      rw [hxt] at c4
      clear htc hxt
      go_wp2
      go_ret
      exact ⟨rfl, nx HB1.out (nx HB8.out HBZ.out)⟩
    | false =>
      have hyt : y.tc = false := by
        cases hyt : y.tc with
        | true => rw [htc hyt] at hxt; cases hxt
        | false => rfl
      rw [hxt] at c4
      rw [hyt] at d4
      clear htc hxt hyt
      go_wp2
      go_ret
      exact ⟨rfl, nx HB1.out (nx HB8.out HBZ.out)⟩
theorem cutMore_walk (s : MS) (m : Ms) (a b : Nat) (w : World) (h : MIn (ltS w) w s m) (hq : m.qs.length ≤ 1048576) (ha1 : m.an.length ≤ 1048576) (hu : m.au.length ≤ 1048576) (hx : m.ex.length ≤ 1048576) (hby : ∀ r ∈ m.an ++ m.au ++ m.ex, r.data.bytes.length ≤ 1048576) (ha : a < 65536) (hb : b < 65536) :
    Calls Try.prog 11 #[msV s m, .int .u16 (a : Int), .int .u16 (b : Int)] w (LawT w) := by
  have hby2 : ∀ r ∈ m.an ++ m.au ++ m.ex, r.data.bytes.length ≤ 140737488355328 := fun r hr => by have := hby r hr; omega
  by_cases h0 : LtMsg7 m
  · cases hf : fineM m with
    | true => exact cutMore_fine s m a b w h hq (by omega) hby2 ha hb h0 hf
    | false => exact cutMore_bad s m a b w h hq (by omega) hby2 ha hb h0 hf
  · exact cutMore_heavy s m a b w h hq (by omega) hby2 ha hb h0
end Go.Proofs.Ytmkfjddighabcaa
