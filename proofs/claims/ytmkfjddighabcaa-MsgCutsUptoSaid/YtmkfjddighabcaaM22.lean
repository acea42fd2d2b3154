/- Parts of a proof, joined: Law06C. -/
import Derived.Test.YtmkfjddighabcaaM15
import Derived.Test.YtmkfjddighabcaaM21
import Derived.Test.YtmkfjddighabcaaM16
/- MsgCuts: the law's walk. -/
namespace Go.Proofs.Ytmkfjddighabcaa
open Go.RowKit
set_option maxRecDepth 100000
set_option linter.unusedVariables false
theorem decP_12 {b : List UInt8} {m : Ms} (h : decP b = .ok m) : 12 ≤ b.length := by
  unfold decP at h
  split at h
  · cases h
  split at h
  · cases h
  omega
theorem ownB_blt {w : World} {B : Nat} {A : Option Addr} {n c : Nat} {bs : List UInt8} (h : OwnB w B (.slice A n c) bs) : ∀ b off, A = some ⟨b, off, none⟩ → b < w.heap.size := by
  intro b off e
  subst e
  have hl := World.ownsRow.lt h
  rcases h.2 with ⟨e0, _⟩ | ⟨g, cap, cur, e0, h3, _⟩
  · injection e0 with e0
    cases e0
  · injection e0 with e0
    injection e0 with e0
    injection e0 with e0
    subst e0
    exact (hl _ rfl).2

set_option maxHeartbeats 8000000 in
theorem msgCuts_heavy (s : MS) (m : Ms) (a : Nat) (A2 : Option Addr) (n2 c2 : Nat) (ms : List UInt8) (w : World) (h : MIn (ltS w) w s m) (hq : m.qs.length ≤ 1048576) (hlen : (m.an.length + m.au.length + m.ex.length) * 168 ≤ 140737488355328) (hby : ∀ r ∈ m.an ++ m.au ++ m.ex, r.data.bytes.length ≤ 140737488355328) (ha : a < 65536) (hr2 : RdB w A2 n2 ms) (hlt : ¬ LtMsg6 m) :
    Calls Try.prog 4 #[msV s m, .int .u16 (a : Int), .slice A2 n2 c2] w (LawT w) := by
  obtain ⟨w1, hw1⟩ : ∃ w1, w1 = w.alloc (.cells (mCells s m) 25) := ⟨_, rfl⟩
  have hb1 : Below w.heap.size w w1 := by rw [hw1]; exact bl.alloc (Nat.le_refl _) _
  have HR1 : Hid (MRow w1 w.heap.size s m) := by show MRow _ _ _ _; rw [hw1]; exact MRow.made w s m
  have HB1 := Lib.hid hb1
  have HIW : Hid (∀ w', Below w1.heap.size w1 w' → MIn (ltS w) w' s m) := fun w' hw => (h.below hb1 (fun b hb => hb)).below hw (fun b hb => Nat.lt_of_lt_of_le hb hb1.size)
  have HSW : Hid (∀ w', Below w1.heap.size w1 w' → ∀ b, ltS w b → b < w'.heap.size) := fun w' hw b hb => Nat.lt_of_lt_of_le (Nat.lt_of_lt_of_le hb hb1.size) hw.size
  have HK : Hid (∀ w', Below w1.heap.size w1 w' → MCells w' w.heap.size s m) := fun w' hw => (HR1.out.below hw).cells
  have HLT := Lib.hid (fun w2 (hw : Below w1.heap.size w1 w2) => light06_any s m w2 (HIW.out w2 hw) (HSW.out w2 hw) (by omega) hlen hby)
  have HNO := Lib.hid (ltM6_no hlt)
  unfold msV mCells at HLT
  unfold msV
  unfold mCells at hw1 ⊢
  clear h hb1 hlt hq hlen hby
  rw [HNO.out] at HLT
  go_enter Try.func4, Try.ntmps4
  go_upto_region 1 with (fail)
  rw [← hw1]
  clear hw1
  go_wp2_with (first
    | (go_at_call 15; refine (answers06_any w3).mono ?_; rintro e w4 ⟨rfl, hb4⟩)
    | (go_at_call 16; refine (HLT.out w2 hb2).mono ?_; rintro e w3 ⟨v3, rfl, rfl, hb3⟩; have HB3 := Lib.hid (nx hb2 hb3); obtain ⟨z0, z1, z2, z3, z4, z5, z6, z7, z8, z9, z10, z11, z12, z13⟩ := HK.out w3 HB3.out)
    | (go_at_call 15; refine (answers06_any w1).mono ?_; rintro e w2 ⟨rfl, hb2⟩; obtain ⟨z0, z1, z2, z3, z4, z5, z6, z7, z8, z9, z10, z11, z12, z13⟩ := HK.out w2 hb2)
    | fail)
  go_ret
  exact ⟨rfl, nx (nx HB1.out HB3.out) hb4⟩
theorem LtMsg6.bytes {m : Ms} (h : LtMsg6 m) : bytesM m ≤ 200000 := by have := h.b; omega
set_option maxHeartbeats 8000000 in
theorem msgCuts_bad (s : MS) (m : Ms) (a : Nat) (A2 : Option Addr) (n2 c2 : Nat) (ms : List UInt8) (w : World) (h : MIn (ltS w) w s m) (hq : m.qs.length ≤ 1048576) (hlen : (m.an.length + m.au.length + m.ex.length) * 168 ≤ 140737488355328) (hby : ∀ r ∈ m.an ++ m.au ++ m.ex, r.data.bytes.length ≤ 140737488355328) (ha : a < 65536) (hr2 : RdB w A2 n2 ms) (hlt : LtMsg6 m) (hf : fineM m = false) :
    Calls Try.prog 4 #[msV s m, .int .u16 (a : Int), .slice A2 n2 c2] w (LawT w) := by
  obtain ⟨w1, hw1⟩ : ∃ w1, w1 = w.alloc (.cells (mCells s m) 25) := ⟨_, rfl⟩
  have hb1 : Below w.heap.size w w1 := by rw [hw1]; exact bl.alloc (Nat.le_refl _) _
  have HR1 : Hid (MRow w1 w.heap.size s m) := by show MRow _ _ _ _; rw [hw1]; exact MRow.made w s m
  have HB1 := Lib.hid hb1
  have HIW : Hid (∀ w', Below w1.heap.size w1 w' → MIn (ltS w) w' s m) := fun w' hw => (h.below hb1 (fun b hb => hb)).below hw (fun b hb => Nat.lt_of_lt_of_le hb hb1.size)
  have HSW : Hid (∀ w', Below w1.heap.size w1 w' → ∀ b, ltS w b → b < w'.heap.size) := fun w' hw b hb => Nat.lt_of_lt_of_le (Nat.lt_of_lt_of_le hb hb1.size) hw.size
  have HK : Hid (∀ w', Below w1.heap.size w1 w' → MCells w' w.heap.size s m) := fun w' hw => (HR1.out.below hw).cells
  have HLT := Lib.hid (fun w2 (hw : Below w1.heap.size w1 w2) => light06_any s m w2 (HIW.out w2 hw) (HSW.out w2 hw) (by omega) hlen hby)
  have HYES := Lib.hid (ltM6_yes hlt)
  have HRM := Lib.hid (fun w2 (hw : Below w1.heap.size w1 w2) => rMsg_any s m w2 (HIW.out w2 hw) (HSW.out w2 hw) hlt.ltM)
  rw [hf] at HRM
  unfold msV mCells at HLT HRM
  unfold msV
  unfold mCells at hw1 ⊢
  clear h hb1 hlt hq hlen hby hf
  rw [HYES.out] at HLT
  go_enter Try.func4, Try.ntmps4
  go_upto_region 1 with (fail)
  rw [← hw1]
  clear hw1
  go_wp2_with (first
    | (go_at_call 15; refine (answers06_any w4).mono ?_; rintro e w5 ⟨rfl, hb5⟩)
    | (go_at_call 22; refine (HRM.out w3 HB3.out).mono ?_; rintro e w4 ⟨v4, rfl, rfl, hb4⟩)
    | (go_at_call 16; refine (HLT.out w2 hb2).mono ?_; rintro e w3 ⟨v3, rfl, rfl, hb3⟩; have HB3 := Lib.hid (nx hb2 hb3); obtain ⟨z0, z1, z2, z3, z4, z5, z6, z7, z8, z9, z10, z11, z12, z13⟩ := HK.out w3 HB3.out)
    | (go_at_call 15; refine (answers06_any w1).mono ?_; rintro e w2 ⟨rfl, hb2⟩; obtain ⟨z0, z1, z2, z3, z4, z5, z6, z7, z8, z9, z10, z11, z12, z13⟩ := HK.out w2 hb2)
    | fail)
  go_ret
  exact ⟨rfl, nx (nx (nx HB1.out HB3.out) hb4) hb5⟩
set_option maxHeartbeats 16000000 in
theorem msgCuts_fine (s : MS) (m : Ms) (a : Nat) (A2 : Option Addr) (n2 c2 : Nat) (ms : List UInt8) (w : World) (h : MIn (ltS w) w s m) (hq : m.qs.length ≤ 1048576) (hlen : (m.an.length + m.au.length + m.ex.length) * 168 ≤ 140737488355328) (hby : ∀ r ∈ m.an ++ m.au ++ m.ex, r.data.bytes.length ≤ 140737488355328) (ha : a < 65536) (hr2 : RdB w A2 n2 ms) (hlt : LtMsg6 m) (hf : fineM m = true) :
    Calls Try.prog 4 #[msV s m, .int .u16 (a : Int), .slice A2 n2 c2] w (LawT w) := by
  obtain ⟨w1, hw1⟩ : ∃ w1, w1 = w.alloc (.cells (mCells s m) 25) := ⟨_, rfl⟩
  have hb1 : Below w.heap.size w w1 := by rw [hw1]; exact bl.alloc (Nat.le_refl _) _
  have HR1 : Hid (MRow w1 w.heap.size s m) := by show MRow _ _ _ _; rw [hw1]; exact MRow.made w s m
  have HB1 := Lib.hid hb1
  have HIW : Hid (∀ w', Below w1.heap.size w1 w' → MIn (ltS w) w' s m) := fun w' hw => (h.below hb1 (fun b hb => hb)).below hw (fun b hb => Nat.lt_of_lt_of_le hb hb1.size)
  have HSW : Hid (∀ w', Below w1.heap.size w1 w' → ∀ b, ltS w b → b < w'.heap.size) := fun w' hw b hb => Nat.lt_of_lt_of_le (Nat.lt_of_lt_of_le hb hb1.size) hw.size
  have HK : Hid (∀ w', Below w1.heap.size w1 w' → MCells w' w.heap.size s m) := fun w' hw => (HR1.out.below hw).cells
  have HLT := Lib.hid (fun w2 (hw : Below w1.heap.size w1 w2) => light06_any s m w2 (HIW.out w2 hw) (HSW.out w2 hw) (by omega) hlen hby)
  have HYES := Lib.hid (ltM6_yes hlt)
  have HRM := Lib.hid (fun w2 (hw : Below w1.heap.size w1 w2) => rMsg_any s m w2 (HIW.out w2 hw) (HSW.out w2 hw) hlt.ltM)
  rw [hf] at HRM
  have HL := Lib.hid hlt.ltM
  have HBM := Lib.hid hlt.bytes
  have HR2 := Lib.hid (hr2.below hb1)
  have hml := hr2.len
  have HFF := Lib.hid (fineM_iff.1 hf)
  have hf' := hf
  unfold msV mCells at HLT HRM
  unfold msV
  unfold mCells at hw1 ⊢
  clear h hb1 hlt hq hlen hby hr2
  rw [HYES.out] at HLT
  go_enter Try.func4, Try.ntmps4
  go_upto_region 1 with (fail)
  rw [← hw1]
  clear hw1
  go_upto_region 3 with (first
    | (go_at_call 22; refine (HRM.out w3 HB3.out).mono ?_; rintro e w4 ⟨v4, rfl, rfl, hb4⟩; have HB4 := Lib.hid (nx HB3.out hb4))
    | (go_at_call 16; refine (HLT.out w2 hb2).mono ?_; rintro e w3 ⟨v3, rfl, rfl, hb3⟩; have HB3 := Lib.hid (nx hb2 hb3); obtain ⟨z0, z1, z2, z3, z4, z5, z6, z7, z8, z9, z10, z11, z12, z13⟩ := HK.out w3 HB3.out)
    | (go_at_call 15; refine (answers06_any w1).mono ?_; rintro e w2 ⟨rfl, hb2⟩; obtain ⟨z0, z1, z2, z3, z4, z5, z6, z7, z8, z9, z10, z11, z12, z13⟩ := HK.out w2 hb2)
    | fail)
  clear z0 z1 z2 z3 z4 z5 z6 z7 z8 z9 z10 z11 z12 z13 hb2 hb3 hb4 HLT HRM HYES HB3
  obtain ⟨z0, z1, z2, z3, z4, z5, z6, z7, z8, z9, z10, z11, z12, z13⟩ := HK.out w4 HB4.out
  go_upto_region 4 with (first
    | (go_at_call 17; refine (mEncode_any s5 m w5 HI5.out (fun b hb => hb.2) HL.out HBM.out).mono ?_; rintro e w6 ⟨v6, rfl, ⟨bv6, rfl, ho6⟩, hb6⟩; have HO6 := Lib.hid ho6; obtain ⟨A6, c6, hv6, _, hl6, hm6⟩ := OwnB.form ho6; subst hv6; have HLC6 := Lib.hid (And.intro hl6 hm6); clear hl6 hm6; have HB6 := Lib.hid (nx HB5.out hb6); clear ho6 hb6)
    | (go_at_call 18; refine (ownMsg_any s m w4 (HIW.out w4 HB4.out) (HSW.out w4 HB4.out) HL.out.light).mono ?_; rintro e w5 ⟨v5, rfl, ⟨s5, rfl, hi5⟩, hb5⟩; have HI5 := Lib.hid hi5; have HB5 := Lib.hid (nx HB4.out hb5); clear hi5 hb5)
    | fail)
  clear z0 z1 z2 z3 z4 z5 z6 z7 z8 z9 z10 z11 z12 z13 HI5 HIW HSW HK
  by_cases hbl : 65535 < (msW m).b.length
  · rw [encP_large hf' hbl]
    clear hf' hf hbl
    go_wp2
    go_ret
    exact ⟨rfl, nx HB1.out HB6.out⟩
  · have hbl2 : (msW m).b.length ≤ 65535 := by omega
    have hE := encP_ok hf' hbl2
    rw [hE] at HO6
    rw [hE]
    have h12 := decP_12 (decode_back HFF.out hbl2)
    have HCUT := Lib.hid (fun k (hk : k < (msW m).b.length) => decP_cut HFF.out hbl2 hk)
    have HMORE : Hid (∀ z : List UInt8, 0 < z.length → ((msW m).b ++ z).length ≤ 65535 → decP ((msW m).b ++ z) = .error 7) := fun z h1 h2 => decP_ext (decode_back HFF.out hbl2) h1 h2
    clear hbl hf hf'
    obtain ⟨B, hB⟩ : ∃ B, B = (msW m).b := ⟨_, rfl⟩
    rw [hE] at HLC6
    rw [← hB] at HO6 HCUT HMORE HLC6 hbl2 h12 ⊢
    clear hB hE
    dsimp only
    obtain ⟨n, hn⟩ : ∃ n, n = B.length := ⟨_, rfl⟩
    rw [← hn] at hbl2 h12 ⊢
    by_cases h0 : n2 = 0
    · subst h0
      go_wp2
      go_ret
      exact ⟨rfl, nx HB1.out HB6.out⟩
    have h0' : ¬ (n2 : Int) = 0 := by omega
    by_cases h100 : 100 < n2
    · have h100' : (100 : Int) < (n2 : Int) := by omega
      clear h100 h0
      go_wp2
      go_ret
      exact ⟨rfl, nx HB1.out HB6.out⟩
    have h100' : ¬ (100 : Int) < (n2 : Int) := by omega
    by_cases hs : 65535 < n + n2
    · have hs' : (65535 : Int) < (n : Int) + (n2 : Int) := by omega
      clear hs h100 h0
      go_wp2
      go_ret
      exact ⟨rfl, nx HB1.out HB6.out⟩
    have hs' : ¬ (65535 : Int) < (n : Int) + (n2 : Int) := by omega
    have hn0 : ¬ (n : Int) = 0 := by omega
    obtain ⟨k, hk⟩ : ∃ k, k = a % n := ⟨_, rfl⟩
    have hkn : k < n := by rw [hk]; exact Nat.mod_lt _ (by omega)
    have htm : Int.tmod (a : Int) (n : Int) = (k : Int) := by rw [hk]; exact (Int.ofNat_tmod a n).symm
    obtain ⟨x1, hx1, hxe1⟩ := HCUT.out k (by omega)
    have HX1 := Lib.hid (decV_err hx1)
    have HX2 := Lib.hid (decV_err (HMORE.out ms (by omega) (by rw [List.length_append]; omega)))
    have HRB : Hid (RdB w6 A6 n B) := by show RdB _ _ _ _; rw [hn]; exact (OwnB.rd HO6.out).1
    have HRK : Hid (RdB w6 A6 k (B.take k)) := by show RdB _ _ _ _; exact HRB.out.take (by omega)
    have HRM : Hid (RdB w6 A2 n2 ms) := HR2.out.below HB6.out
    have HTL : Hid ((B.take k).length = k) := by show _ = _; rw [List.length_take]; omega
    have HBL : Hid (B.length = n) := hn.symm
    clear hk h0 h100 hs hx1
    obtain ⟨T, hT⟩ : ∃ T, T = B.take k := ⟨_, rfl⟩
    rw [← hT] at HTL HX1 HRK
    clear hT
    have hcn : n ≤ c6 := by have h := HLC6.out.1; rw [hn]; exact h
    have hcm : c6 ≤ 9223372036854775807 := HLC6.out.2
    clear hn HLC6
    obtain ⟨b6, off6, hA6, _⟩ := RdB.flat HRB.out (by omega)
    subst hA6
    have hkc : k ≤ c6 := by omega
    go_upto_region 7 with (first
      | (go_at_call 19; refine (decode_any w7 A7 k c7 T HR7.out HLT7.out HC7.out.1 HC7.out.2 (by omega)).mono ?_; unfold goodV; rw [HX1.out]; rintro e w8 ⟨v8, rfl, ⟨s8, rfl, hm8⟩, hb8⟩; unfold msV mCells; have HB8 := Lib.hid (HB7.out.trans (hb8.mono HB7.out.size)); clear hm8)
      | ((with_reducible show wpList _ _ _ (⟨some 67, _, _, _, _, _⟩ :: _) _ _); refine wpL_cloneB rfl (.tmp 59) (.tmp 66) rfl rfl (some ⟨b6, off6, none⟩) k c6 T rfl HRK.out (by omega) ?_; intro v7 w7 hown7 hb7; obtain ⟨A7, c7, hv7, hr7, hl7, hm7⟩ := OwnB.form hown7; rw [HTL.out] at hv7 hr7 hl7; subst hv7; have HLT7 := Lib.hid (ownB_blt hown7); have HR7 := Lib.hid hr7; have HC7 := Lib.hid (And.intro hl7 hm7); have HB7 := Lib.hid hb7; clear hown7 hr7 hb7 hl7 hm7)
      | fail)
    have hxb : (x1 != 0) = true := by simp [hxe1]
    obtain ⟨X, hX⟩ : ∃ X, X = B ++ ms := ⟨_, rfl⟩
    obtain ⟨N, hN⟩ : ∃ N, N = n + n2 := ⟨_, rfl⟩
    have HXL : Hid (X.length = N) := by show _ = _; rw [hX, List.length_append, HBL.out, hN, hml]
    rw [← hX] at HX2
    have HXE : Hid (B ++ ms = X) := hX.symm
    have hN2 : N ≤ 65535 := by rw [hN]; omega
    clear hX hN
    obtain ⟨w9, hw9⟩ : ∃ u, u = w8.alloc (.cells (mCells s8 Ms.zero) 25) := ⟨_, rfl⟩
    have HB9 : Hid (Below w6.heap.size w6 w9) := by show Below _ _ _; rw [hw9]; exact nx HB8.out (bl.alloc (Nat.le_refl _) _)
    unfold mCells at hw9
    rw [← hw9]
    clear hw9
    go_wp2_with (first
      | (go_at_call 19; refine (decode_any w11 A11 N c11 X HR11.out HLT11.out HC11.out.1 HC11.out.2 (by omega)).mono ?_; unfold goodV; rw [HX2.out]; rintro e w12 ⟨v12, rfl, ⟨s12, rfl, hm12⟩, hb12⟩; unfold msV mCells; have HB12 := Lib.hid (nx HB11.out hb12); clear hm12)
      | ((with_reducible show wpList _ _ _ (⟨some 76, _, _, _, _, _⟩ :: _) _ _); refine wpL_appB rfl (.tmp 74) (.tmp 75) rfl w9.heap.size v10 B rfl HO10.out A2 n2 c2 ms rfl (HRM.out.below (nx HB9.out HB10.out)) (by rw [HBL.out]; omega) HB10.out.size ?_; intro v11 w11 hown11 hg11 _; rw [HXE.out] at hown11; obtain ⟨A11, c11, hv11, hr11, hl11, hm11⟩ := OwnB.form hown11; rw [HXL.out] at hv11 hr11 hl11; subst hv11; have HLT11 := Lib.hid (ownB_blt hown11); have HR11 := Lib.hid hr11; have HC11 := Lib.hid (And.intro hl11 hm11); have HB11 := Lib.hid ((nx HB9.out HB10.out).grown hg11 (nx HB9.out HB10.out).size (fun j hj => Nat.le_trans HB9.out.size (World.ownsRow.lt HO10.out j hj).1)); clear hown11 hg11 hr11 hl11 hm11)
      | ((with_reducible show wpList _ _ _ (⟨some 74, _, _, _, _, _⟩ :: _) _ _); refine wpL_cloneB rfl (.tmp 72) (.tmp 73) rfl rfl (some ⟨b6, off6, none⟩) n c6 B rfl (HRB.out.below HB9.out) (by omega) ?_; intro v10 w10 hown10 hb10; have HO10 := Lib.hid hown10; have HB10 := Lib.hid hb10; clear hown10 hb10)
      | fail)
    go_ret
    exact ⟨rfl, nx HB1.out (HB6.out.trans (Below.mono (nx HB12.out (bl.alloc (Nat.le_refl _) _)) HB6.out.size))⟩
theorem msgCuts_walk (s : MS) (m : Ms) (a : Nat) (A2 : Option Addr) (n2 c2 : Nat) (ms : List UInt8) (w : World) (h : MIn (ltS w) w s m) (hq : m.qs.length ≤ 1048576) (ha1 : m.an.length ≤ 1048576) (hu : m.au.length ≤ 1048576) (hx : m.ex.length ≤ 1048576) (hby : ∀ r ∈ m.an ++ m.au ++ m.ex, r.data.bytes.length ≤ 1048576) (ha : a < 65536) (hr2 : RdB w A2 n2 ms) :
    Calls Try.prog 4 #[msV s m, .int .u16 (a : Int), .slice A2 n2 c2] w (LawT w) := by
  have hby2 : ∀ r ∈ m.an ++ m.au ++ m.ex, r.data.bytes.length ≤ 140737488355328 := fun r hr => by have := hby r hr; omega
  by_cases h0 : LtMsg6 m
  · cases hf : fineM m with
    | true => exact msgCuts_fine s m a A2 n2 c2 ms w h hq (by omega) hby2 ha hr2 h0 hf
    | false => exact msgCuts_bad s m a A2 n2 c2 ms w h hq (by omega) hby2 ha hr2 h0 hf
  · exact msgCuts_heavy s m a A2 n2 c2 ms w h hq (by omega) hby2 ha hr2 h0
end Go.Proofs.Ytmkfjddighabcaa
