/- Parts of a proof, joined: Law06B. -/
import Derived.Deep.CutBlock
import Derived.Deep.DeepCutAuto
import Derived.Test.YtmkfjddighabcaaM15
import Derived.Test.YtmkfjddighabcaaM21
import Derived.Test.YtmkfjddighabcaaM23
/- MsgBack: the law's walk. -/
namespace Go.Proofs.Ytmkfjddighabcaa
open Go.RowKit
set_option maxRecDepth 100000
set_option linter.unusedVariables false
theorem ownB_blt2 {w : World} {B : Nat} {A : Option Addr} {n c : Nat} {bs : List UInt8} (h : OwnB w B (.slice A n c) bs) : ∀ b off, A = some ⟨b, off, none⟩ → b < w.heap.size := by
  intro b off e
  subst e
  have hl := World.ownsRow.lt h
  rcases h.2 with ⟨e0, _⟩ | ⟨g, cap, cur, e0, h3, _⟩
  · injection e0 with e0
    cases e0
  · injection e0 with e0
    injection e0 with e0
    injection e0 with e0
    subst e0
    exact (hl _ rfl).2

set_option maxHeartbeats 8000000 in
theorem msgBack_heavy (s : MS) (m : Ms) (A1 : Option Addr) (n1 c1 : Nat) (bs : List UInt8) (w : World) (h : MIn (ltS w) w s m) (hq : m.qs.length ≤ 1048576) (hlen : (m.an.length + m.au.length + m.ex.length) * 168 ≤ 140737488355328) (hby : ∀ r ∈ m.an ++ m.au ++ m.ex, r.data.bytes.length ≤ 140737488355328) (hr1 : RdB w A1 n1 bs) (hlt : ¬ LtMsg6 m) :
    Calls Try.prog 3 #[msV s m, .slice A1 n1 c1] w (LawT w) := by
  obtain ⟨w1, hw1⟩ : ∃ w1, w1 = w.alloc (.cells (mCells s m) 25) := ⟨_, rfl⟩
  have hb1 : Below w.heap.size w w1 := by rw [hw1]; exact bl.alloc (Nat.le_refl _) _
  have HR1 : Hid (MRow w1 w.heap.size s m) := by show MRow _ _ _ _; rw [hw1]; exact MRow.made w s m
  have HB1 := Lib.hid hb1
  have HIW : Hid (∀ w', Below w1.heap.size w1 w' → MIn (ltS w) w' s m) := fun w' hw => (h.below hb1 (fun b hb => hb)).below hw (fun b hb => Nat.lt_of_lt_of_le hb hb1.size)
  have HSW : Hid (∀ w', Below w1.heap.size w1 w' → ∀ b, ltS w b → b < w'.heap.size) := fun w' hw b hb => Nat.lt_of_lt_of_le (Nat.lt_of_lt_of_le hb hb1.size) hw.size
  have HK : Hid (∀ w', Below w1.heap.size w1 w' → MCells w' w.heap.size s m) := fun w' hw => (HR1.out.below hw).cells
  have HLT := Lib.hid (fun w2 (hw : Below w1.heap.size w1 w2) => light06_any s m w2 (HIW.out w2 hw) (HSW.out w2 hw) (by omega) hlen hby)
  have HNO := Lib.hid (ltM6_no hlt)
  unfold msV mCells at HLT
  unfold msV
  unfold mCells at hw1 ⊢
  clear h hb1 hlt hq hlen hby
  rw [HNO.out] at HLT
  go_enter Try.func3, Try.ntmps3
  go_upto_region 1 with (fail)
  rw [← hw1]
  clear hw1
  go_wp2_with (first
    | (go_at_call 15; refine (answers06_any w3).mono ?_; rintro e w4 ⟨rfl, hb4⟩)
    | (go_at_call 16; refine (HLT.out w2 hb2).mono ?_; rintro e w3 ⟨v3, rfl, rfl, hb3⟩; have HB3 := Lib.hid (nx hb2 hb3); obtain ⟨z0, z1, z2, z3, z4, z5, z6, z7, z8, z9, z10, z11, z12, z13⟩ := HK.out w3 HB3.out)
    | (go_at_call 15; refine (answers06_any w1).mono ?_; rintro e w2 ⟨rfl, hb2⟩; obtain ⟨z0, z1, z2, z3, z4, z5, z6, z7, z8, z9, z10, z11, z12, z13⟩ := HK.out w2 hb2)
    | fail)
  go_ret
  exact ⟨rfl, nx (nx HB1.out HB3.out) hb4⟩
set_option maxHeartbeats 8000000 in
theorem msgBack_long (s : MS) (m : Ms) (A1 : Option Addr) (n1 c1 : Nat) (bs : List UInt8) (w : World) (h : MIn (ltS w) w s m) (hq : m.qs.length ≤ 1048576) (hlen : (m.an.length + m.au.length + m.ex.length) * 168 ≤ 140737488355328) (hby : ∀ r ∈ m.an ++ m.au ++ m.ex, r.data.bytes.length ≤ 140737488355328) (hr1 : RdB w A1 n1 bs) (hlt : LtMsg6 m) (hlong : 70000 < n1) :
    Calls Try.prog 3 #[msV s m, .slice A1 n1 c1] w (LawT w) := by
  obtain ⟨w1, hw1⟩ : ∃ w1, w1 = w.alloc (.cells (mCells s m) 25) := ⟨_, rfl⟩
  have hb1 : Below w.heap.size w w1 := by rw [hw1]; exact bl.alloc (Nat.le_refl _) _
  have HR1 : Hid (MRow w1 w.heap.size s m) := by show MRow _ _ _ _; rw [hw1]; exact MRow.made w s m
  have HB1 := Lib.hid hb1
  have HIW : Hid (∀ w', Below w1.heap.size w1 w' → MIn (ltS w) w' s m) := fun w' hw => (h.below hb1 (fun b hb => hb)).below hw (fun b hb => Nat.lt_of_lt_of_le hb hb1.size)
  have HSW : Hid (∀ w', Below w1.heap.size w1 w' → ∀ b, ltS w b → b < w'.heap.size) := fun w' hw b hb => Nat.lt_of_lt_of_le (Nat.lt_of_lt_of_le hb hb1.size) hw.size
  have HK : Hid (∀ w', Below w1.heap.size w1 w' → MCells w' w.heap.size s m) := fun w' hw => (HR1.out.below hw).cells
  have HLT := Lib.hid (fun w2 (hw : Below w1.heap.size w1 w2) => light06_any s m w2 (HIW.out w2 hw) (HSW.out w2 hw) (by omega) hlen hby)
  have HYES := Lib.hid (ltM6_yes hlt)
  have hlong' : (70000 : Int) < (n1 : Int) := by omega
  unfold msV mCells at HLT
  unfold msV
  unfold mCells at hw1 ⊢
  clear h hb1 hlt hq hlen hby hlong
  rw [HYES.out] at HLT
  go_enter Try.func3, Try.ntmps3
  go_upto_region 1 with (fail)
  rw [← hw1]
  clear hw1
  go_wp2_with (first
    | (go_at_call 15; refine (answers06_any w3).mono ?_; rintro e w4 ⟨rfl, hb4⟩)
    | (go_at_call 16; refine (HLT.out w2 hb2).mono ?_; rintro e w3 ⟨v3, rfl, rfl, hb3⟩; have HB3 := Lib.hid (nx hb2 hb3); obtain ⟨z0, z1, z2, z3, z4, z5, z6, z7, z8, z9, z10, z11, z12, z13⟩ := HK.out w3 HB3.out)
    | (go_at_call 15; refine (answers06_any w1).mono ?_; rintro e w2 ⟨rfl, hb2⟩; obtain ⟨z0, z1, z2, z3, z4, z5, z6, z7, z8, z9, z10, z11, z12, z13⟩ := HK.out w2 hb2)
    | fail)
  go_ret
  exact ⟨rfl, nx (nx HB1.out HB3.out) hb4⟩
theorem encP_zero {m : Ms} (h : (encP m).2 = 0) : decV (encP m).1 = (m, 0) ∧ (encP m).1.length ≤ 65535 := by
  cases hf : fineM m with
  | false => rw [encP_bad hf] at h; cases h
  | true =>
    by_cases hbl : 65535 < (msW m).b.length
    · rw [encP_large hf hbl] at h; cases h
    · have hb : (msW m).b.length ≤ 65535 := by omega
      rw [encP_ok hf hb]
      exact ⟨decV_ok (decode_back (fineM_iff.1 hf) hb), hb⟩
theorem LtMsg6.bytes2 {m : Ms} (h : LtMsg6 m) : bytesM m ≤ 200000 := by have := h.b; omega
theorem MIn.lt {S : Nat → Prop} {w : World} {B : Nat} : ∀ b, geS B w b → b < w.heap.size := fun _ h => h.2

set_option maxHeartbeats 32000000 in
theorem msgBack_ok (s : MS) (m : Ms) (A1 : Option Addr) (n1 c1 : Nat) (bs : List UInt8) (w : World) (h : MIn (ltS w) w s m) (hq : m.qs.length ≤ 1048576) (hlen : (m.an.length + m.au.length + m.ex.length) * 168 ≤ 140737488355328) (hby : ∀ r ∈ m.an ++ m.au ++ m.ex, r.data.bytes.length ≤ 140737488355328) (hr1 : RdB w A1 n1 bs) (hlt : LtMsg6 m) (hshort : n1 ≤ 70000) :
    Calls Try.prog 3 #[msV s m, .slice A1 n1 c1] w (LawT w) := by
  obtain ⟨w1, hw1⟩ : ∃ w1, w1 = w.alloc (.cells (mCells s m) 25) := ⟨_, rfl⟩
  have hb1 : Below w.heap.size w w1 := by rw [hw1]; exact bl.alloc (Nat.le_refl _) _
  have HR1 : Hid (MRow w1 w.heap.size s m) := by show MRow _ _ _ _; rw [hw1]; exact MRow.made w s m
  have HB1 := Lib.hid hb1
  have HIW : Hid (∀ w', Below w1.heap.size w1 w' → MIn (ltS w) w' s m) := fun w' hw => (h.below hb1 (fun b hb => hb)).below hw (fun b hb => Nat.lt_of_lt_of_le hb hb1.size)
  have HSW : Hid (∀ w', Below w1.heap.size w1 w' → ∀ b, ltS w b → b < w'.heap.size) := fun w' hw b hb => Nat.lt_of_lt_of_le (Nat.lt_of_lt_of_le hb hb1.size) hw.size
  have HK : Hid (∀ w', Below w1.heap.size w1 w' → MCells w' w.heap.size s m) := fun w' hw => (HR1.out.below hw).cells
  have HLT := Lib.hid (fun w2 (hw : Below w1.heap.size w1 w2) => light06_any s m w2 (HIW.out w2 hw) (HSW.out w2 hw) (by omega) hlen hby)
  have HYES := Lib.hid (ltM6_yes hlt)
  have hshort' : ¬ (70000 : Int) < (n1 : Int) := by omega
  have HL := Lib.hid hlt.ltM
  have HBM := Lib.hid hlt.bytes2
  have HRB := Lib.hid (hr1.below hb1)
  unfold msV mCells at HLT
  unfold msV
  unfold mCells at hw1 ⊢
  clear h hb1 hlt hq hlen hby hr1
  rw [HYES.out] at HLT
  go_enter Try.func3, Try.ntmps3
  go_upto_region 1 with (fail)
  rw [← hw1]
  clear hw1
  go_upto_region 3 with (first
    | (go_at_call 16; refine (HLT.out w2 hb2).mono ?_; rintro e w3 ⟨v3, rfl, rfl, hb3⟩; have HB3 := Lib.hid (nx hb2 hb3); obtain ⟨z0, z1, z2, z3, z4, z5, z6, z7, z8, z9, z10, z11, z12, z13⟩ := HK.out w3 HB3.out)
    | (go_at_call 15; refine (answers06_any w1).mono ?_; rintro e w2 ⟨rfl, hb2⟩; obtain ⟨z0, z1, z2, z3, z4, z5, z6, z7, z8, z9, z10, z11, z12, z13⟩ := HK.out w2 hb2)
    | fail)
  clear z0 z1 z2 z3 z4 z5 z6 z7 z8 z9 z10 z11 z12 z13 hb2 hb3 HLT HYES hshort'
  obtain ⟨z0, z1, z2, z3, z4, z5, z6, z7, z8, z9, z10, z11, z12, z13⟩ := HK.out w3 HB3.out
  go_upto_region 4 with (first
    | (go_at_call 17; refine (mEncode_any s5 m w5 HI5.out (fun b hb => hb.2) HL.out HBM.out).mono ?_; rintro e w6 ⟨v6, rfl, ⟨bv6, rfl, ho6⟩, hb6⟩; have HO6 := Lib.hid ho6; obtain ⟨A6, c6, hv6, _, hl6, hm6⟩ := OwnB.form ho6; subst hv6; have HC6 := Lib.hid (And.intro hl6 hm6); have HB6 := Lib.hid (nx HB5.out hb6); clear ho6 hb6 hl6 hm6)
    | (go_at_call 18; refine (ownMsg_any s m w3 (HIW.out w3 HB3.out) (HSW.out w3 HB3.out) HL.out.light).mono ?_; rintro e w5 ⟨v5, rfl, ⟨s5, rfl, hi5⟩, hb5⟩; have HI5 := Lib.hid hi5; have HB5 := Lib.hid (nx HB3.out hb5); clear hi5 hb5)
    | fail)
  clear z0 z1 z2 z3 z4 z5 z6 z7 z8 z9 z10 z11 z12 z13 HI5
  have HEC := Lib.hid (@encP_zero m)
  obtain ⟨B, hB⟩ : ∃ B, B = (encP m).1 := ⟨_, rfl⟩
  obtain ⟨er, her⟩ : ∃ er, er = (encP m).2 := ⟨_, rfl⟩
  rw [← hB, ← her] at HEC
  rw [← hB] at HO6 HC6 ⊢
  rw [← her]
  clear hB her
  obtain ⟨n, hn⟩ : ∃ n, n = B.length := ⟨_, rfl⟩
  have HN := Lib.hid hn
  rw [← hn] at HO6 HC6 HEC ⊢
  clear hn
  go_upto_if 35 with (fail)
  go_cut [] (fun wc => Hid (Below w1.heap.size w1 wc))
  case first =>
    by_cases he0 : er = 0
    rotate_left
    · have heb : (er == 0) = false := by simp [he0]
      clear HO6 HC6 he0
      go_wp2
      go_meet
      case rel => exact HB6.out
    · have heb : (er == 0) = true := by simp [he0]
      · obtain ⟨hdv, hbl2⟩ := HEC.out he0
        have HX := Lib.hid hdv
        have HRB6 : Hid (RdB w6 A6 n B) := (OwnB.rd HO6.out).1
        have HLT6 := Lib.hid (ownB_blt2 HO6.out)
        clear he0 hdv HO6
        go_upto_region 6 with (first
          | (go_at_call 19; refine (decode_any w6 A6 n c6 B HRB6.out HLT6.out HC6.out.1 HC6.out.2 (by omega)).mono ?_; unfold goodV; rw [HX.out]; rintro e w7 ⟨v7, rfl, ⟨s7, rfl, hm7⟩, hb7⟩; unfold msV mCells; have HM7 := Lib.hid hm7; have HB7 := Lib.hid (nx HB6.out hb7); clear hm7 hb7)
          | fail)
        obtain ⟨w8, hw8⟩ : ∃ u, u = w7.alloc (.cells (mCells s7 m) 25) := ⟨_, rfl⟩
        have hb8 : Below w7.heap.size w7 w8 := by rw [hw8]; exact bl.alloc (Nat.le_refl _) _
        have HR8 : Hid (MRow w8 w7.heap.size s7 m) := by show MRow _ _ _ _; rw [hw8]; exact MRow.made w7 s7 m
        have HM8 : Hid (MIn (geS w6.heap.size w7) w8 s7 m) := HM7.out.below hb8 (fun b hb => hb.2)
        have HS8 : Hid (∀ b, geS w6.heap.size w7 b → b < w8.heap.size) := fun b hb => Nat.lt_of_lt_of_le hb.2 hb8.size
        have HB8 := Lib.hid (nx HB7.out hb8)
        unfold mCells at hw8
        rw [← hw8]
        clear hw8 hb8 HM7
        obtain ⟨z0, z1, z2, z3, z4, z5, z6, z7, z8, z9, z10, z11, z12, z13⟩ := HK.out w8 HB8.out
        obtain ⟨y0, y1, y2, y3, y4, y5, y6, y7, y8, y9, y10, y11, y12, y13⟩ := HR8.out.cells
        go_wp2_with (first
          | (go_at_call 20; refine (rsameMsg_eq s7 s m w8 HM8.out (HIW.out w8 HB8.out) HS8.out (HSW.out w8 HB8.out) HL.out.light).mono ?_; rintro e w9 ⟨v9, rfl, rfl, hb9⟩; have HB9 := Lib.hid (nx HB8.out hb9))
          | fail)
        go_meet
        case rel => exact HB9.out
  case rest =>
    clear HIW HSW HK HL HBM HB3 HB5 HB6 HO6 HC6 HR1
    have HBC := Lib.hid hcut
    have HRC : Hid (RdB wc A1 n1 bs) := HRB.out.below HBC.out
    have hbsl := HRC.out.len
    cases hd : decP bs with
    | error x =>
      have HX := Lib.hid (decV_err hd)
      have hx0 := decP_nz hd
      have hxb : (x != 0) = true := by simp [hx0]
      have hxb2 : (x == 0) = false := by simp [hx0]
      clear hd
      go_wp2_with (first
        | (go_at_call 19; refine (decode_any w7 A7 n1 c7 bs HR7.out HLT7.out HC7.out.1 HC7.out.2 (by omega)).mono ?_; unfold goodV; rw [HX.out]; rintro e w8 ⟨v8, rfl, ⟨s8, rfl, hm8⟩, hb8⟩; unfold msV mCells; have HB8 := Lib.hid (nx (HBC.out.trans (HB7.out.mono HBC.out.size)) hb8); clear hm8)
        | ((with_reducible show wpList _ _ _ (⟨some 52, _, _, _, _, _⟩ :: _) _ _); refine wpL_cloneB rfl (.tmp 50) (.tmp 51) rfl rfl A1 n1 c1 bs rfl HRC.out (by omega) ?_; intro v7 w7 hown7 hb7; obtain ⟨A7, c7, hv7, hr7, hl7, hm7⟩ := OwnB.form hown7; rw [hbsl] at hv7 hr7 hl7; subst hv7; have HLT7 := Lib.hid (ownB_blt2 hown7); have HR7 := Lib.hid hr7; have HC7 := Lib.hid (And.intro hl7 hm7); have HB7 := Lib.hid hb7; clear hown7 hr7 hb7 hl7 hm7)
        | fail)
      go_ret
      exact ⟨rfl, nx HB1.out (nx HB8.out (bl.alloc (Nat.le_refl _) _))⟩
    | ok x =>
      have HX := Lib.hid (decV_ok hd)
      have HLX := Lib.hid (decP_ltM hd)
      have HBX : Hid (bytesM x ≤ 200000) := by show _ ≤ _; have := decP_bytes hd; omega
      have HFX : Hid (totM x ≤ 512 → FineM x) := fun ht => decP_fine hd ht
      have HT : Hid (totM x ≤ 513) := (decP_all hd).2.2.2.2.1
      clear hd
      go_upto_region 9 with (first
        | (go_at_call 19; refine (decode_any w7 A7 n1 c7 bs HR7.out HLT7.out HC7.out.1 HC7.out.2 (by omega)).mono ?_; unfold goodV; rw [HX.out]; rintro e w8 ⟨v8, rfl, ⟨s8, rfl, hm8⟩, hb8⟩; unfold msV mCells; have HM8 := Lib.hid hm8; have HB8 := Lib.hid (nx (HBC.out.trans (HB7.out.mono HBC.out.size)) hb8); clear hm8 hb8)
        | ((with_reducible show wpList _ _ _ (⟨some 52, _, _, _, _, _⟩ :: _) _ _); refine wpL_cloneB rfl (.tmp 50) (.tmp 51) rfl rfl A1 n1 c1 bs rfl HRC.out (by omega) ?_; intro v7 w7 hown7 hb7; obtain ⟨A7, c7, hv7, hr7, hl7, hm7⟩ := OwnB.form hown7; rw [hbsl] at hv7 hr7 hl7; subst hv7; have HLT7 := Lib.hid (ownB_blt2 hown7); have HR7 := Lib.hid hr7; have HC7 := Lib.hid (And.intro hl7 hm7); have HB7 := Lib.hid hb7; clear hown7 hr7 hb7 hl7 hm7)
        | fail)
      obtain ⟨w9, hw9⟩ : ∃ u, u = w8.alloc (.cells (mCells s8 x) 25) := ⟨_, rfl⟩
      have hb9 : Below w8.heap.size w8 w9 := by rw [hw9]; exact bl.alloc (Nat.le_refl _) _
      have HR9 : Hid (MRow w9 w8.heap.size s8 x) := by show MRow _ _ _ _; rw [hw9]; exact MRow.made w8 s8 x
      have HM9 : Hid (MIn (ltS w8) w9 s8 x) := MIn.mono (fun b hb => hb.2) (HM8.out.below hb9 (fun b hb => hb.2))
      have HMW : Hid (∀ u, Below w9.heap.size w9 u → MIn (ltS w8) u s8 x) := fun u hu => HM9.out.below hu (fun b hb => Nat.lt_of_lt_of_le hb hb9.size)
      have HS9 : Hid (∀ u, Below w9.heap.size w9 u → ∀ b, ltS w8 b → b < u.heap.size) := fun u hu b hb => Nat.lt_of_lt_of_le (Nat.lt_of_lt_of_le hb hb9.size) hu.size
      have HKX : Hid (∀ u, Below w9.heap.size w9 u → MCells u w8.heap.size s8 x) := fun u hu => (HR9.out.below hu).cells
      have HB9 := Lib.hid (nx HB8.out hb9)
      unfold mCells at hw9
      rw [← hw9]
      clear hw9 hb9 HM8 HM9 HR9
      generalize w8.heap.size = q8 at HKX ⊢
      obtain ⟨z0, z1, z2, z3, z4, z5, z6, z7, z8, z9, z10, z11, z12, z13⟩ := HKX.out w9 bl
      have htl : (x.qs.length : Int) + (x.an.length : Int) + (x.au.length : Int) + (x.ex.length : Int) = (totM x : Int) := by unfold totM; omega
      have hT := HT.out
      have HSN := Lib.hid (fun u hu => mSound_any s8 x u (HMW.out u hu) (HS9.out u hu) HLX.out)
      have HEN := Lib.hid (fun u hu => mEncode_any s8 x u (HMW.out u hu) (HS9.out u hu) HLX.out HBX.out)
      unfold msV mCells at HSN HEN
      by_cases ht : totM x ≤ 512
      · have HF := Lib.hid (HFX.out ht)
        have hle : (x.qs.length : Int) + (x.an.length : Int) + (x.au.length : Int) + (x.ex.length : Int) ≤ 512 := by omega
        have hft := fineM_yes HF.out
        rw [hft] at HSN
        clear ht htl hT
        go_upto_region 13 with (first
          | (go_at_call 21; refine (HSN.out w9 bl).mono ?_; rintro e w10 ⟨v10, rfl, rfl, hb10⟩; have HB10 := Lib.hid hb10)
          | fail)
        clear z0 z1 z2 z3 z4 z5 z6 z7 z8 z9 z10 z11 z12 z13 hle
        obtain ⟨z0, z1, z2, z3, z4, z5, z6, z7, z8, z9, z10, z11, z12, z13⟩ := HKX.out w10 HB10.out
        go_upto_region 14 with (first
          | (go_at_call 17; refine (HEN.out w10 HB10.out).mono ?_; rintro e w11 ⟨v11, rfl, ⟨bv11, rfl, ho11⟩, hb11⟩; have HO11 := Lib.hid ho11; obtain ⟨A11, c11, hv11, _, hl11, hm11⟩ := OwnB.form ho11; subst hv11; have HC11 := Lib.hid (And.intro hl11 hm11); have HB11 := Lib.hid (nx HB10.out hb11); clear ho11 hb11 hl11 hm11)
          | fail)
        clear z0 z1 z2 z3 z4 z5 z6 z7 z8 z9 z10 z11 z12 z13
        by_cases hbl : 65535 < (msW x).b.length
        · rw [encP_large hft hbl]
          clear HO11 HC11 hbl hft
          go_wp2
          go_ret
          exact ⟨rfl, nx HB1.out (nx HB9.out HB11.out)⟩
        · have hbl2 : (msW x).b.length ≤ 65535 := by omega
          have hE := encP_ok hft hbl2
          rw [hE] at HO11 HC11
          rw [hE]
          have hdec := decode_back HF.out hbl2
          obtain ⟨B, hB⟩ : ∃ B, B = (msW x).b := ⟨_, rfl⟩
          rw [← hB] at HO11 HC11 hbl2 hdec ⊢
          have HX2 := Lib.hid (decV_ok hdec)
          clear hB hE hbl hft hdec
          dsimp only at HO11 HC11 ⊢
          obtain ⟨n, hn⟩ : ∃ n, n = B.length := ⟨_, rfl⟩
          have HRB11 : Hid (RdB w11 A11 n B) := by show RdB _ _ _ _; rw [hn]; exact (OwnB.rd HO11.out).1
          have HLT11 := Lib.hid (ownB_blt2 HO11.out)
          rw [← hn] at hbl2 HC11 ⊢
          clear hn HO11
          go_upto_region 17 with (first
            | (go_at_call 19; refine (decode_any w11 A11 n c11 B HRB11.out HLT11.out HC11.out.1 HC11.out.2 (by omega)).mono ?_; unfold goodV; rw [HX2.out]; rintro e w12 ⟨v12, rfl, ⟨s12, rfl, hm12⟩, hb12⟩; unfold msV mCells; have HM12 := Lib.hid hm12; have HB12 := Lib.hid (nx HB11.out hb12); clear hm12 hb12)
            | fail)
          obtain ⟨w13, hw13⟩ : ∃ u, u = w12.alloc (.cells (mCells s12 x) 25) := ⟨_, rfl⟩
          have hb13 : Below w12.heap.size w12 w13 := by rw [hw13]; exact bl.alloc (Nat.le_refl _) _
          have HR13 : Hid (MRow w13 w12.heap.size s12 x) := by show MRow _ _ _ _; rw [hw13]; exact MRow.made w12 s12 x
          have HM13 : Hid (MIn (geS w11.heap.size w12) w13 s12 x) := HM12.out.below hb13 (fun b hb => hb.2)
          have HS13 : Hid (∀ b, geS w11.heap.size w12 b → b < w13.heap.size) := fun b hb => Nat.lt_of_lt_of_le hb.2 hb13.size
          have HB13 := Lib.hid (nx HB12.out hb13)
          unfold mCells at hw13
          rw [← hw13]
          clear hw13 hb13 HM12
          obtain ⟨z0, z1, z2, z3, z4, z5, z6, z7, z8, z9, z10, z11, z12, z13⟩ := HKX.out w13 HB13.out
          obtain ⟨y0, y1, y2, y3, y4, y5, y6, y7, y8, y9, y10, y11, y12, y13⟩ := HR13.out.cells
          go_wp2_with (first
            | (go_at_call 20; refine (rsameMsg_eq s8 s12 x w13 (HMW.out w13 HB13.out) HM13.out (HS9.out w13 HB13.out) HS13.out HLX.out.light).mono ?_; rintro e w14 ⟨v14, rfl, rfl, hb14⟩; have HB14 := Lib.hid (nx HB13.out hb14))
            | fail)
          go_ret
          exact ⟨rfl, nx HB1.out (nx HB9.out HB14.out)⟩
      · have hle : ¬ (x.qs.length : Int) + (x.an.length : Int) + (x.au.length : Int) + (x.ex.length : Int) ≤ 512 := by omega
        have hle2 : (x.qs.length : Int) + (x.an.length : Int) + (x.au.length : Int) + (x.ex.length : Int) ≤ 513 := by omega
        have hff : fineM x = false := fineM_no (fun hf => ht hf.tot)
        have hE := encP_bad hff
        clear ht htl hT HSN hff
        go_upto_region 13 with (fail)
        clear hle hle2
        go_upto_region 14 with (first
          | (go_at_call 17; refine (HEN.out w9 bl).mono ?_; rw [hE]; rintro e w11 ⟨v11, rfl, ⟨bv11, rfl, ho11⟩, hb11⟩; obtain ⟨A11, c11, hv11, _, _, _⟩ := OwnB.form ho11; subst hv11; have HB11 := Lib.hid hb11; clear ho11 hb11)
          | fail)
        clear z0 z1 z2 z3 z4 z5 z6 z7 z8 z9 z10 z11 z12 z13
        go_wp2
        go_ret
        exact ⟨rfl, nx HB1.out (nx HB9.out HB11.out)⟩
theorem msgBack_walk (s : MS) (m : Ms) (A1 : Option Addr) (n1 c1 : Nat) (bs : List UInt8) (w : World) (h : MIn (ltS w) w s m) (hq : m.qs.length ≤ 1048576) (ha1 : m.an.length ≤ 1048576) (hu : m.au.length ≤ 1048576) (hx : m.ex.length ≤ 1048576) (hby : ∀ r ∈ m.an ++ m.au ++ m.ex, r.data.bytes.length ≤ 1048576) (hr1 : RdB w A1 n1 bs) :
    Calls Try.prog 3 #[msV s m, .slice A1 n1 c1] w (LawT w) := by
  have hby2 : ∀ r ∈ m.an ++ m.au ++ m.ex, r.data.bytes.length ≤ 140737488355328 := fun r hr => by have := hby r hr; omega
  by_cases h0 : LtMsg6 m
  · by_cases h1 : n1 ≤ 70000
    · exact msgBack_ok s m A1 n1 c1 bs w h hq (by omega) hby2 hr1 h0 h1
    · exact msgBack_long s m A1 n1 c1 bs w h hq (by omega) hby2 hr1 h0 (by omega)
  · exact msgBack_heavy s m A1 n1 c1 bs w h hq (by omega) hby2 hr1 h0
end Go.Proofs.Ytmkfjddighabcaa
