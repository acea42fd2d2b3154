/- Parts of a proof, joined: FlagP, Law06F. -/
import Derived.Test.YtmkfjddighabcaaM17
import Derived.Test.YtmkfjddighabcaaM15
import Derived.Test.YtmkfjddighabcaaM21
import Derived.Test.YtmkfjddighabcaaM02
/- A message of a head alone, in plain Lean: its flags. No program in it. -/
namespace Go.Proofs.Ytmkfjddighabcaa
open Go.RowKit
set_option maxRecDepth 100000

def flB (i f : Nat) : List UInt8 := [UInt8.ofNat (i / 256), UInt8.ofNat (i % 256), UInt8.ofNat (f / 256), UInt8.ofNat (f % 256), 0, 0, 0, 0, 0, 0, 0, 0]
def flM (i f : Nat) : Ms := ⟨(i : Int), decide (f / 32768 % 2 = 1), ((f / 2048 % 16 : Nat) : Int), decide (f / 1024 % 2 = 1), decide (f / 512 % 2 = 1), decide (f / 256 % 2 = 1), decide (f / 128 % 2 = 1), ((f % 16 : Nat) : Int), [], [], [], [], false, 0⟩
def flG (f : Nat) : Nat := f / 256 * 256 + (f % 256 / 128 * 128 + f % 16)
theorem ofNat_toNat {n : Nat} (h : n < 256) : (UInt8.ofNat n).toNat = n := by rw [UInt8.toNat_ofNat']; omega
theorem ofNat_mod (n : Nat) : UInt8.ofNat (n % 256) = UInt8.ofNat n := by
  apply UInt8.toNat_inj.1
  rw [UInt8.toNat_ofNat', UInt8.toNat_ofNat']
  omega
theorem numA_fl {i f : Nat} (hi : i < 65536) (hf : f < 65536) : numA (flB i f) 0 2 = i ∧ numA (flB i f) 2 2 = f ∧ numA (flB i f) 4 2 = 0 ∧ numA (flB i f) 6 2 = 0 ∧ numA (flB i f) 8 2 = 0 ∧ numA (flB i f) 10 2 = 0 := by
  refine ⟨?_, ?_, rfl, rfl, rfl, rfl⟩
  · show 0 * 256 + (UInt8.ofNat (i / 256)).toNat |> fun a => a * 256 + (UInt8.ofNat (i % 256)).toNat = i
    show (0 * 256 + (UInt8.ofNat (i / 256)).toNat) * 256 + (UInt8.ofNat (i % 256)).toNat = i
    rw [ofNat_toNat (by omega), ofNat_toNat (by omega)]
    omega
  · show (0 * 256 + (UInt8.ofNat (f / 256)).toNat) * 256 + (UInt8.ofNat (f % 256)).toNat = f
    rw [ofNat_toNat (by omega), ofNat_toNat (by omega)]
    omega
theorem decP_fl {i f : Nat} (hi : i < 65536) (hf : f < 65536) : decP (flB i f) = .ok (flM i f) := by
  obtain ⟨n0, n2, n4, n6, n8, n10⟩ := numA_fl hi hf
  have hl : (flB i f).length = 12 := rfl
  unfold decP
  rw [n4, n6, n8, n10, if_neg (by omega), if_neg (by omega), if_neg (by omega)]
  show (if 12 < (flB i f).length then Except.error 7 else Except.ok (msF (flB i f) [] [] [] [] ⟨false, 0⟩)) = _
  rw [if_neg (by omega)]
  unfold msF bitA flM
  rw [n0, n2]
theorem fine_fl {i f : Nat} (hi : i < 65536) : FineM (flM i f) := by
  refine ⟨Nat.zero_le _, fitsI ⟨by show (0 : Int) ≤ (i : Int); omega, by show (i : Int) < 65536; omega⟩, ?_, ?_, ?_, ?_, (by show fitsB 0 2 = true; decide), .inr rfl, fun _ h => (List.not_mem_nil h).elim, fun _ h => (List.not_mem_nil h).elim, fun _ h => (List.not_mem_nil h).elim, fun _ h => (List.not_mem_nil h).elim⟩
  · show (0 : Int) ≤ ((f / 2048 % 16 : Nat) : Int); omega
  · show ((f / 2048 % 16 : Nat) : Int) < 16; omega
  · show (0 : Int) ≤ ((f % 16 : Nat) : Int); omega
  · show ((f % 16 : Nat) : Int) < 16; omega
theorem bitN_fl (f n : Nat) (k : Int) : bitN (decide (f / n % 2 = 1)) k = ((f / n % 2 : Nat) : Int) * k := by
  unfold bitN
  have h : f / n % 2 = 0 ∨ f / n % 2 = 1 := by omega
  rcases h with h | h <;> rw [h] <;> simp
theorem flags_fl {i f : Nat} (hf : f < 65536) : flagsN (flM i f) = (flG f : Int) := by
  unfold flagsN
  show bitN (decide (f / 32768 % 2 = 1)) 32768 + ((f / 2048 % 16 : Nat) : Int) * 2048 + bitN (decide (f / 1024 % 2 = 1)) 1024 + bitN (decide (f / 512 % 2 = 1)) 512 + bitN (decide (f / 256 % 2 = 1)) 256 + bitN (decide (f / 128 % 2 = 1)) 128 + ((f % 16 : Nat) : Int) = _
  rw [bitN_fl, bitN_fl, bitN_fl, bitN_fl, bitN_fl]
  unfold flG
  omega
theorem putB_2 {n : Nat} (h : n < 65536) : putB [] (n : Int) 2 = [UInt8.ofNat (n / 256), UInt8.ofNat (n % 256)] := by
  unfold putB
  rw [if_pos (fitsI ⟨by omega, by omega⟩), Int.toNat_natCast, ofNat_mod]
  rfl
theorem enc_fl {i f : Nat} (hi : i < 65536) (hf : f < 65536) : (msW (flM i f)).b = flB i (flG f) := by
  have hg : flG f < 65536 := by unfold flG; omega
  show (((((([] ++ putB [] (i : Int) 2) ++ putB [] (flagsN (flM i f)) 2) ++ putB [] ((0 : Nat) : Int) 2) ++ putB [] ((0 : Nat) : Int) 2) ++ putB [] ((0 : Nat) : Int) 2) ++ putB [] ((0 : Nat) + 0 : Int) 2) = _
  rw [flags_fl hf, putB_2 hi, putB_2 hg]
  rfl
theorem set_fl (i f : Nat) : (flB i f).set 3 (UInt8.ofNat (f % 256 / 128 * 128 + f % 16)) = flB i (flG f) := by
  have h1 : flG f / 256 = f / 256 := by unfold flG; omega
  have h2 : flG f % 256 = f % 256 / 128 * 128 + f % 16 := by unfold flG; omega
  unfold flB
  rw [h1, h2]
  rfl
end Go.Proofs.Ytmkfjddighabcaa

/- MsgFlags: the law's walk. -/
namespace Go.Proofs.Ytmkfjddighabcaa
open Go.RowKit
set_option maxRecDepth 100000
set_option linter.unusedVariables false

def fl4 (i f : Nat) : List UInt8 := [UInt8.ofNat (i / 256), UInt8.ofNat (i % 256), UInt8.ofNat (f / 256), UInt8.ofNat (f % 256)]
theorem fl4_rd (w : World) (i f : Nat) (hi : i < 65536) (hf : f < 65536) :
    RdB ((w.alloc (.cells #[] 5)).alloc (.cells #[.int .u8 ((i : Int) / 256), .int .u8 ((i : Int) % 256), .int .u8 ((f : Int) / 256), .int .u8 ((f : Int) % 256)] 5)) (some ⟨w.heap.size + 1, 0, none⟩) 4 (fl4 i f) := by
  have hz : (w.alloc (.cells #[] 5)).heap.size = w.heap.size + 1 := by simp
  have hrow : ((w.alloc (.cells #[] 5)).alloc (.cells #[.int .u8 ((i : Int) / 256), .int .u8 ((i : Int) % 256), .int .u8 ((f : Int) / 256), .int .u8 ((f : Int) % 256)] 5)).heap[w.heap.size + 1]? = some (.cells ((fl4 i f).map bV).toArray 5 (0, 0)) := by
    rw [← hz]
    refine (heap_alloc_new _ _).trans ?_
    have e : ∀ n : Nat, n < 256 → bV (UInt8.ofNat n) = .int .u8 (n : Int) := fun n hn => by unfold bV; rw [ofNat_toNat hn]
    unfold fl4
    simp only [List.map_cons, List.map_nil]
    rw [e (i / 256) (by omega), e (i % 256) (by omega), e (f / 256) (by omega), e (f % 256) (by omega)]
    rfl
  refine ⟨by rfl, fun _ => ⟨w.heap.size + 1, 0, rfl, fun j u hu => ?_⟩⟩
  have h := cell_of_row _ (w.heap.size + 1) j _ _ _ hrow
  rw [Nat.zero_add]
  rw [h]
  simpa using hu
/-- A row of bytes that are there. -/
theorem OwnB.at0 {w : World} {base : Nat} {v : Value} {bs : List UInt8} (h : OwnB w base v bs) (h0 : 0 < bs.length) : ∃ g c, v = .slice (some ⟨g, 0, none⟩) bs.length c ∧ bs.length ≤ c ∧ c ≤ maxLen := by
  obtain ⟨A, c, rfl, hr, h1, h2⟩ := h.form
  rcases h.2 with ⟨e0, h3⟩ | ⟨g, cap, cur, e0, h3, _⟩
  · injection e0 with e0 e1 e2
    omega
  · injection e0 with e0 e1 e2
    subst e0 e2
    exact ⟨g, c, rfl, h1, h2⟩

theorem ownB_bge {w : World} {B : Nat} {A : Option Addr} {n c : Nat} {bs : List UInt8} (h : OwnB w B (.slice A n c) bs) : ∀ b off, A = some ⟨b, off, none⟩ → B ≤ b := by
  intro b off e
  subst e
  have hl := World.ownsRow.lt h
  rcases h.2 with ⟨e0, _⟩ | ⟨g, cap, cur, e0, h3, _⟩
  · injection e0 with e0
    cases e0
  · injection e0 with e0
    injection e0 with e0
    injection e0 with e0
    subst e0
    exact (hl _ rfl).1

set_option maxHeartbeats 8000000 in
theorem msgFlags_walk (f i : Nat) (w : World) (hf : f < 65536) (hi : i < 65536) :
    Calls Try.prog 6 #[.int .u16 (f : Int), .int .u16 (i : Int)] w (LawT w) := by
  have HR4 := Lib.hid (fl4_rd w i f hi hf)
  have HO0 := Lib.hid ((own_empty w).alloc (.cells #[.int .u8 ((i : Int) / 256), .int .u8 ((i : Int) % 256), .int .u8 ((f : Int) / 256), .int .u8 ((f : Int) % 256)] 5))
  have HL4 : Hid ((fl4 i f).length = 4) := rfl
  have HFB : Hid ([] ++ fl4 i f ++ List.replicate 8 0 = flB i f) := rfl
  have HFL : Hid ((flB i f).length = 12) := rfl
  have HBA : Hid (Below w.heap.size w ((w.alloc (.cells #[] 5)).alloc (.cells #[.int .u8 ((i : Int) / 256), .int .u8 ((i : Int) % 256), .int .u8 ((f : Int) / 256), .int .u8 ((f : Int) % 256)] 5))) := nx (bl.alloc (Nat.le_refl _) _) (bl.alloc (Nat.le_refl _) _)
  have HX := Lib.hid (decV_ok (decP_fl hi hf))
  have HF := Lib.hid hf
  have HI := Lib.hid hi
  have hf1 : (f : Int) < 65536 := by omega
  have hi1 : (i : Int) < 65536 := by omega
  clear hf hi
  go_enter Try.func6, Try.ntmps6
  go_upto_region 3 with (first
    | (go_at_call 19; refine (decode_any w3 (some ⟨g3, 0, none⟩) 12 c3 (flB i f) HR3.out HLT3.out HC3.out.1 HC3.out.2 (by omega)).mono ?_; unfold goodV; rw [HX.out]; rintro e w4 ⟨v4, rfl, ⟨s4, rfl, hm4⟩, hb4⟩; unfold msV mCells; have HM4 := Lib.hid hm4; have HB4 := Lib.hid hb4; clear hm4 hb4)
    | ((with_reducible show wpList _ _ _ (⟨some 26, _, _, _, _, _⟩ :: _) _ _); refine wpL_zerosB rfl (.tmp 25) (.const (.int .i64 8)) rfl w.heap.size v2 ([] ++ fl4 i f) rfl HO2.out 8 8 rfl rfl (by rw [List.nil_append, HL4.out]; omega) HB2.out.size ?_; intro v3 w3 hown3 hg3 _; rw [HFB.out] at hown3; obtain ⟨g3, c3, hv3, hl3, hm3⟩ := OwnB.at0 hown3 (by rw [HFL.out]; omega); rw [HFL.out] at hv3 hl3; subst hv3; have HO3 := Lib.hid hown3; have HR3 : Hid (RdB w3 (some ⟨g3, 0, none⟩) 12 (flB i f)) := (OwnB.rd hown3).1; have HLT3 : Hid (∀ b off, some (⟨g3, 0, none⟩ : Addr) = some ⟨b, off, none⟩ → b < w3.heap.size) := (fun b off e => by injection e with e; injection e with e; subst e; exact (OwnB.lt hown3).2); have HC3 : Hid (12 ≤ c3 ∧ c3 ≤ 9223372036854775807) := ⟨hl3, hm3⟩; have HB3 := Lib.hid (HB2.out.grown hg3 HB2.out.size (fun j hj => (World.ownsRow.lt HO2.out j hj).1)); clear hown3 hg3 hl3 hm3)
    | ((with_reducible show wpList _ _ _ (⟨some 25, _, _, _, _, _⟩ :: _) _ _); refine wpL_appB rfl (.tmp 11) (.tmp 24) rfl w.heap.size (.slice (some ⟨w.heap.size, 0, none⟩) 0 0) [] rfl HO0.out (some ⟨w.heap.size + 1, 0, none⟩) 4 4 (fl4 i f) rfl HR4.out (by simp) HBA.out.size ?_; intro v2 w2 hown2 hg2 _; have HO2 := Lib.hid hown2; have HB2 := Lib.hid (HBA.out.grown hg2 HBA.out.size (fun j hj => (World.ownsRow.lt HO0.out j hj).1)); clear hown2 hg2)
    | fail)
  have HLT0 : Hid (LtM (flM i f)) := LtM.short rfl rfl rfl rfl
  have HEN0 : Hid (encP (flM i f) = (flB i (flG f), 0)) := by
    show _ = _
    rw [encP_ok (fineM_yes (fine_fl HI.out)) (by rw [enc_fl HI.out HF.out]; show 12 ≤ 65535; omega), enc_fl HI.out HF.out]
  have HBY0 : Hid (bytesM (flM i f) ≤ 200000) := by show 0 ≤ _; omega
  obtain ⟨m, hm⟩ : ∃ m, m = flM i f := ⟨_, rfl⟩
  rw [← hm] at HM4 HLT0 HEN0 HBY0
  have hF0 := HF.out
  have k0 : m.id = (i : Int) := by rw [hm]; rfl
  have k1 : ((f : Int) / 32768 == 1) = m.resp := by rw [hm, shr_15 hF0]; rfl
  have k2 : Int.tmod ((f : Int) / 2048) 16 = m.op := by rw [hm]; show _ = ((f / 2048 % 16 : Nat) : Int); rw [show ((f : Int) / 2048) = ((f / 2048 : Nat) : Int) from divN f 2048]; rfl
  have kb : ∀ n : Nat, (((n : Nat) : Int) % 2 == 1) = decide (n % 2 = 1) := fun n => by
    have h : (n : Int) % 2 = ((n % 2 : Nat) : Int) := rfl
    rw [h]
    by_cases h3 : n % 2 = 1
    · rw [h3]; rfl
    · have h4 : n % 2 = 0 := by omega
      rw [h4]; rfl
  have k3 : ((f : Int) / 1024 % 2 == 1) = m.aa := by rw [hm, show ((f : Int) / 1024) = ((f / 1024 : Nat) : Int) from divN f 1024, kb]; rfl
  have k4 : ((f : Int) / 512 % 2 == 1) = m.tc := by rw [hm, show ((f : Int) / 512) = ((f / 512 : Nat) : Int) from divN f 512, kb]; rfl
  have k5 : ((f : Int) / 256 % 2 == 1) = m.rd := by rw [hm, show ((f : Int) / 256) = ((f / 256 : Nat) : Int) from divN f 256, kb]; rfl
  have k6 : ((f : Int) / 128 % 2 == 1) = m.ra := by rw [hm, show ((f : Int) / 128) = ((f / 128 : Nat) : Int) from divN f 128, kb]; rfl
  have k7 : Int.tmod (f : Int) 16 = m.rcode := by rw [hm]; rfl
  obtain ⟨w5, hw5⟩ : ∃ u, u = w4.alloc (.cells (mCells s4 m) 25) := ⟨_, rfl⟩
  have hb5 : Below w4.heap.size w4 w5 := by rw [hw5]; exact bl.alloc (Nat.le_refl _) _
  have HR5 : Hid (MRow w5 w4.heap.size s4 m) := by show MRow _ _ _ _; rw [hw5]; exact MRow.made w4 s4 m
  have HMW : Hid (∀ u, Below w5.heap.size w5 u → MIn (ltS w4) u s4 m) := fun u hu => (MIn.mono (fun b hb => hb.2) (HM4.out.below hb5 (fun b hb => hb.2)) : MIn (ltS w4) w5 s4 m).below hu (fun b hb => Nat.lt_of_lt_of_le hb hb5.size)
  have HSW : Hid (∀ u, Below w5.heap.size w5 u → ∀ b, ltS w4 b → b < u.heap.size) := fun u hu b hb => Nat.lt_of_lt_of_le (Nat.lt_of_lt_of_le hb hb5.size) hu.size
  have HKX : Hid (∀ u, Below w5.heap.size w5 u → MCells u w4.heap.size s4 m) := fun u hu => (HR5.out.below hu).cells
  have HB5 := Lib.hid (nx HB4.out hb5)
  rw [← hm]
  unfold mCells at hw5
  rw [← hw5]
  clear hw5 hb5 hm HM4 HR5 hF0 kb HR4 HO0 HX
  generalize w4.heap.size = q4 at HKX ⊢
  have hwf : IntKind.i64.wrap (f : Int) = (f : Int) := by rw [IntKind.wrap_i64]; omega
  have hwi : IntKind.i64.wrap (i : Int) = (i : Int) := by rw [IntKind.wrap_i64]; omega
  clear hf1 hi1
  go_upto_region 6 with (first
    | (go_at_call 15; refine (answers06_any w5).mono ?_; rintro e w6 ⟨rfl, hb6⟩; have HB6 := Lib.hid hb6; obtain ⟨z0, z1, z2, z3, z4, z5, z6, z7, z8, z9, z10, z11, z12, z13⟩ := HKX.out w6 hb6; rw [k0] at z0)
    | fail)
  clear z0 z1 z2 z3 z4 z5 z6 z7 z8 z9 z10 z11 z12 z13
  obtain ⟨z0, z1, z2, z3, z4, z5, z6, z7, z8, z9, z10, z11, z12, z13⟩ := HKX.out w6 HB6.out
  rw [k0] at z0
  have HEN := mEncode_any s4 m w6 (HMW.out w6 HB6.out) (HSW.out w6 HB6.out) HLT0.out HBY0.out
  rw [HEN0.out] at HEN
  unfold msV mCells at HEN
  rw [k0] at HEN
  have HENH := Lib.hid HEN
  clear HEN k0 k1 k2 k3 k4 k5 k6 k7
  go_upto_region 7 with (first
    | (go_at_call 17; refine HENH.out.mono ?_; rintro e w7 ⟨v7, rfl, ⟨bv7, rfl, ho7⟩, hb7⟩; obtain ⟨A7, c7, hv7, hr7, hl7, hm7⟩ := OwnB.form ho7; rw [show (flB i (flG f)).length = 12 from rfl] at hv7 hr7 hl7; subst hv7; have HGE7 := Lib.hid (ownB_bge ho7); have HR7 := Lib.hid hr7; have HB7 := Lib.hid (nx HB5.out (nx HB6.out hb7)); clear ho7 hr7 hb7 hl7 hm7)
    | fail)
  clear z0 z1 z2 z3 z4 z5 z6 z7 z8 z9 z10 z11 z12 z13
  have HO7 := Lib.hid (HO3.out.below HB7.out)
  have x3 : w7.cell? ⟨g3, 3, none⟩ = some (.int .u8 ((((flB i f)[3]'(by show 3 < 12; omega)).toNat : Nat) : Int)) := OwnB.cell HO7.out (k := 3) (by show 3 < 12; omega)
  have f3 := OwnB.free HO7.out 3
  have hc12 : (12 : Nat) ≤ c3 := HC3.out.1
  go_upto_region 8 with (fail)
  obtain ⟨w8, hw8⟩ : ∃ u, u = w7.setCell ⟨g3, 3, none⟩ (.int .u8 ((f : Int) % 256 / 128 * 128 + (f : Int) % 16)) := ⟨_, rfl⟩
  have hv : (.int .u8 ((f : Int) % 256 / 128 * 128 + (f : Int) % 16) : Value) = .int .u8 (((UInt8.ofNat (f % 256 / 128 * 128 + f % 16)).toNat : Nat) : Int) := by
    rw [ofNat_toNat (by omega)]
    congr 1
  have HO8 : Hid (OwnB w8 w.heap.size (.slice (some ⟨g3, 0, none⟩) 12 c3) (flB i (flG f))) := by
    have h := OwnB.set HO7.out 3 (UInt8.ofNat (f % 256 / 128 * 128 + f % 16))
    rw [set_fl] at h
    show OwnB _ _ _ _
    rw [hw8, hv]
    exact h
  have hc8 : Chg (fun k => k = g3) w7 w8 := by rw [hw8]; exact chg_g1 _ _ _ _
  have hg3 := (OwnB.lt HO3.out).2
  have HR8 : Hid (RdB w8 A7 12 (flB i (flG f))) := RdB.chgP HR7.out hc8 (fun b off e => by have h1 := HGE7.out b off e; have h2 := (nx HB5.out HB6.out).size; omega)
  have HR8' : Hid (RdB w8 (some ⟨g3, 0, none⟩) 12 (flB i (flG f))) := (OwnB.rd HO8.out).1
  have HBF : Hid (Below w.heap.size w w8) := ((HB3.out.trans (HB7.out.mono HB3.out.size)).trans (hc8.below (fun z hz => by have h1 := (OwnB.lt HO3.out).1; omega) (Nat.le_trans HB3.out.size HB7.out.size)))
  rw [← hw8]
  clear hw8 hv hc8 x3 f3
  go_wp2_with (first
    | (go_at_call 23; refine (same_any A7 (some ⟨g3, 0, none⟩) 12 c7 12 c3 _ _ w8 HR8.out HR8'.out (by unfold maxLen; omega) (by unfold maxLen; omega)).mono ?_; rw [decide_eq_true rfl]; rintro e w9 ⟨rfl, m9, hw9⟩; have hb9 : Below w8.heap.size w8 w9 := (by rw [hw9]; exact dN bl m9); clear hw9)
    | fail)
  go_ret
  exact ⟨rfl, nx HBF.out hb9⟩
end Go.Proofs.Ytmkfjddighabcaa
