/- Parts of a proof, joined: Law15S. -/
import Derived.Test.YtimkdpkhdbiniaaSDR6
import Derived.Test.YtimkdpkhdbiniaaSDF17
import Derived.Test.YtimkdpkhdbiniaaSDC37
import Derived.Test.YtimkdpkhdbiniaaSDR1
/- CodeSpoilt: the law's walk (printed by gen/law15s.py). -/
namespace Go.Proofs.Ytimkdpkhdbiniaa
open Go.RowKit
set_option maxRecDepth 100000
set_option linter.unusedVariables false

theorem ownB_flat {w : World} {B : Nat} {A : Option Addr} {n c : Nat} {bs : List UInt8} (h : OwnB w B (.slice A n c) bs) : FlatA w A := by
  intro ad e
  subst e
  have hl := World.ownsRow.lt h
  rcases h.2 with ⟨e0, _⟩ | ⟨g, cap, cur, e0, h3, _⟩
  · injection e0 with e0
    cases e0
  · injection e0 with e0
    injection e0 with e0
    subst e0
    exact ⟨rfl, (hl g rfl).2⟩
theorem fine_data {y : En} (hf : fineE y = true) : (y.f.kind = 1 → ∀ d ∈ y.f.set, FineD y.f.type d) ∧ (y.kind = 1 → y.f.kind ≠ 1 → FineD 6 y.f.soa) := by
  have hk := enOk hf
  by_cases h1 : y.kind = 1
  · have h2 := hk.f h1
    exact ⟨fun e => (h2.set e).2, fun _ e => (h2.neg e).2⟩
  · refine ⟨fun e => ?_, fun e => absurd e h1⟩
    unfold fineE at hf
    rw [if_neg h1] at hf
    have hb : blankF y.f = true := by
      split at hf
      · simp only [Bool.and_eq_true] at hf; exact hf.2.1
      · split at hf
        · simp only [Bool.and_eq_true] at hf; exact hf.2.1
        · cases hf
    rw [blank_zero hb] at e
    cases e
theorem enW_pos {x : En} (hf : fineE x = true) : 0 < (enW x).b.length := by
  have h := decE_back hf (fine_data hf).1 (fine_data hf).2
  rcases Nat.eq_zero_or_pos (enW x).b.length with h0 | h0
  · rw [List.eq_nil_of_length_eq_zero h0] at h
    cases h
  · exact h0
theorem spoilt_cut {x : En} (hf : fineE x = true) {k : Nat} (hk : k < (enW x).b.length) : decE ((enW x).b.take k) = none :=
  decE_cut (fun y hy => fine_data hy) hf (List.take_append_drop k (enW x).b).symm (fun e => by have := congrArg List.length e; rw [List.length_drop, List.length_nil] at this; omega)
theorem spoilt_more {x : En} (hf : fineE x = true) {z : List UInt8} (hz : z ≠ []) : decE ((enW x).b ++ z) = none := decE_more hf (fine_data hf).1 (fine_data hf).2 hz

set_option maxHeartbeats 8000000 in
theorem codeSpoilt_heavy (s : ES) (x : En) (a : Nat) (A2 : Option Addr) (n2 c2 : Nat) (ms : List UInt8) (w : World) (h : EnIn (ltS w) w s x) (ha : a < 65536) (hr2 : RdB w A2 n2 ms) (hL : ltEn x = false) :
    Calls Try.prog 6 #[enV s x, .int .u16 (a : Int), .slice A2 n2 c2] w (LawT w) := by
  obtain ⟨w1, hw1⟩ : ∃ w1, w1 = w.alloc (.cells (enCells s x) 50) := ⟨_, rfl⟩
  have hb1 : Below w.heap.size w w1 := by rw [hw1]; exact bl.alloc (Nat.le_refl _) _
  have HR : Hid (EnRow w1 w.heap.size s x) := by show EnRow _ _ _ _; rw [hw1]; exact EnRow.made w s x
  have HB1 := Lib.hid hb1
  have HI : Hid (∀ u, Below w1.heap.size w1 u → EnIn (ltS w) u s x) := fun u hu => (h.below hb1 (fun b hb => hb)).below hu (fun b hb => Nat.lt_of_lt_of_le hb hb1.size)
  have HSW : Hid (∀ u, Below w1.heap.size w1 u → ∀ b, ltS w b → b < u.heap.size) := fun u hu b hb => Nat.lt_of_lt_of_le (Nat.lt_of_lt_of_le hb hb1.size) hu.size
  have HLI : Hid (∀ u, Below w1.heap.size w1 u → Calls Try.prog 19 #[enV s x] u (RetP (fun v _ => v = .bool (ltEn x)) u)) := fun u hu => light15_any s x u (HI.out u hu) (HSW.out u hu)
  have HR2 := Lib.hid (hr2.below hb1)
  obtain ⟨x0, x1, x2, x3, x4, x5, x6, x7, x8, x9, x10, x11, x12, x13, x14, x15⟩ := HR.out.cells
  rw [hL] at HLI
  unfold enV at HLI ⊢
  unfold enCells at hw1 HLI ⊢
  clear h hb1 hL hr2
  go_enter Try.func6, Try.ntmps6
  go_upto_region 1 with (fail)
  rw [← hw1]
  clear hw1
  go_wp2_with (first
    | (go_at_call 18; (with_reducible refine (answers15_any w3).mono ?_); rintro e w5 ⟨rfl, hb5⟩)
    | (go_at_call 19; (with_reducible refine (HLI.out w2 HB2.out).mono ?_); rintro e w3 ⟨v3, rfl, rfl, hb3⟩; have HB3 := Lib.hid (nx HB2.out hb3); obtain ⟨x0, x1, x2, x3, x4, x5, x6, x7, x8, x9, x10, x11, x12, x13, x14, x15⟩ := (HR.out.below HB3.out).cells; clear hb3)
    | (go_at_call 18; (with_reducible refine (answers15_any w1).mono ?_); rintro e w2 ⟨rfl, hb2⟩; have HB2 := Lib.hid hb2; obtain ⟨x0, x1, x2, x3, x4, x5, x6, x7, x8, x9, x10, x11, x12, x13, x14, x15⟩ := (HR.out.below hb2).cells; clear hb2)
    | fail)
  go_ret
  exact ⟨rfl, nx HB1.out (nx HB3.out hb5)⟩

set_option maxHeartbeats 8000000 in
theorem codeSpoilt_bad (s : ES) (x : En) (a : Nat) (A2 : Option Addr) (n2 c2 : Nat) (ms : List UInt8) (w : World) (h : EnIn (ltS w) w s x) (ha : a < 65536) (hr2 : RdB w A2 n2 ms) (hL : LtEn x) (hs : SoaLt x) (hf : fineE x = false) :
    Calls Try.prog 6 #[enV s x, .int .u16 (a : Int), .slice A2 n2 c2] w (LawT w) := by
  obtain ⟨w1, hw1⟩ : ∃ w1, w1 = w.alloc (.cells (enCells s x) 50) := ⟨_, rfl⟩
  have hb1 : Below w.heap.size w w1 := by rw [hw1]; exact bl.alloc (Nat.le_refl _) _
  have HR : Hid (EnRow w1 w.heap.size s x) := by show EnRow _ _ _ _; rw [hw1]; exact EnRow.made w s x
  have HB1 := Lib.hid hb1
  have HI : Hid (∀ u, Below w1.heap.size w1 u → EnIn (ltS w) u s x) := fun u hu => (h.below hb1 (fun b hb => hb)).below hu (fun b hb => Nat.lt_of_lt_of_le hb hb1.size)
  have HSW : Hid (∀ u, Below w1.heap.size w1 u → ∀ b, ltS w b → b < u.heap.size) := fun u hu b hb => Nat.lt_of_lt_of_le (Nat.lt_of_lt_of_le hb hb1.size) hu.size
  have HLI : Hid (∀ u, Below w1.heap.size w1 u → Calls Try.prog 19 #[enV s x] u (RetP (fun v _ => v = .bool (ltEn x)) u)) := fun u hu => light15_any s x u (HI.out u hu) (HSW.out u hu)
  have HR2 := Lib.hid (hr2.below hb1)
  obtain ⟨x0, x1, x2, x3, x4, x5, x6, x7, x8, x9, x10, x11, x12, x13, x14, x15⟩ := HR.out.cells
  rw [ltEn_yes hL] at HLI
  have HLE := Lib.hid (hL.ltE hs)
  have HEN : Hid (∀ u, Below w1.heap.size w1 u → Calls Try.prog 22 #[.int .i64 x.kind, .int .i64 x.time, faV s.f x.f, .slice s.Z x.zone.length s.zc] u (RetP (fun v _ => v = .bool (fineE x)) u)) := fun u hu => rEntry_any s x u (HI.out u hu) (HSW.out u hu) HLE.out
  rw [hf] at HEN
  unfold enV at HLI ⊢
  unfold enCells at hw1 HLI ⊢
  unfold faV faCells at HEN
  clear h hb1 hL hr2 hs hf HLE
  go_enter Try.func6, Try.ntmps6
  go_upto_region 1 with (fail)
  rw [← hw1]
  clear hw1
  go_wp2_with (first
    | (go_at_call 18; (with_reducible refine (answers15_any w4).mono ?_); rintro e w5 ⟨rfl, hb5⟩)
    | (go_at_call 22; (with_reducible refine (HEN.out w3 HB3.out).mono ?_); rintro e w4 ⟨v4, rfl, rfl, hb4⟩; have HB4 := Lib.hid (nx HB3.out hb4); obtain ⟨x0, x1, x2, x3, x4, x5, x6, x7, x8, x9, x10, x11, x12, x13, x14, x15⟩ := (HR.out.below HB4.out).cells; clear hb4)
    | (go_at_call 19; (with_reducible refine (HLI.out w2 HB2.out).mono ?_); rintro e w3 ⟨v3, rfl, rfl, hb3⟩; have HB3 := Lib.hid (nx HB2.out hb3); obtain ⟨x0, x1, x2, x3, x4, x5, x6, x7, x8, x9, x10, x11, x12, x13, x14, x15⟩ := (HR.out.below HB3.out).cells; clear hb3)
    | (go_at_call 18; (with_reducible refine (answers15_any w1).mono ?_); rintro e w2 ⟨rfl, hb2⟩; have HB2 := Lib.hid hb2; obtain ⟨x0, x1, x2, x3, x4, x5, x6, x7, x8, x9, x10, x11, x12, x13, x14, x15⟩ := (HR.out.below hb2).cells; clear hb2)
    | fail)
  go_ret
  exact ⟨rfl, nx HB1.out (nx HB4.out hb5)⟩

set_option maxHeartbeats 16000000 in
theorem codeSpoilt_main (s : ES) (x : En) (a : Nat) (A2 : Option Addr) (n2 c2 : Nat) (ms : List UInt8) (w : World) (h : EnIn (ltS w) w s x) (ha : a < 65536) (hr2 : RdB w A2 n2 ms) (hL : LtEn x) (hs : SoaLt x) (hf : fineE x = true) :
    Calls Try.prog 6 #[enV s x, .int .u16 (a : Int), .slice A2 n2 c2] w (LawT w) := by
  obtain ⟨w1, hw1⟩ : ∃ w1, w1 = w.alloc (.cells (enCells s x) 50) := ⟨_, rfl⟩
  have hb1 : Below w.heap.size w w1 := by rw [hw1]; exact bl.alloc (Nat.le_refl _) _
  have HR : Hid (EnRow w1 w.heap.size s x) := by show EnRow _ _ _ _; rw [hw1]; exact EnRow.made w s x
  have HB1 := Lib.hid hb1
  have HI : Hid (∀ u, Below w1.heap.size w1 u → EnIn (ltS w) u s x) := fun u hu => (h.below hb1 (fun b hb => hb)).below hu (fun b hb => Nat.lt_of_lt_of_le hb hb1.size)
  have HSW : Hid (∀ u, Below w1.heap.size w1 u → ∀ b, ltS w b → b < u.heap.size) := fun u hu b hb => Nat.lt_of_lt_of_le (Nat.lt_of_lt_of_le hb hb1.size) hu.size
  have HLI : Hid (∀ u, Below w1.heap.size w1 u → Calls Try.prog 19 #[enV s x] u (RetP (fun v _ => v = .bool (ltEn x)) u)) := fun u hu => light15_any s x u (HI.out u hu) (HSW.out u hu)
  have HR2 := Lib.hid (hr2.below hb1)
  obtain ⟨x0, x1, x2, x3, x4, x5, x6, x7, x8, x9, x10, x11, x12, x13, x14, x15⟩ := HR.out.cells
  rw [ltEn_yes hL] at HLI
  have HLE := Lib.hid (hL.ltE hs)
  have HEN : Hid (∀ u, Below w1.heap.size w1 u → Calls Try.prog 22 #[.int .i64 x.kind, .int .i64 x.time, faV s.f x.f, .slice s.Z x.zone.length s.zc] u (RetP (fun v _ => v = .bool (fineE x)) u)) := fun u hu => rEntry_any s x u (HI.out u hu) (HSW.out u hu) HLE.out
  rw [hf] at HEN
  have hzo := hL.Z
  have HOW : Hid (∀ u, Below w1.heap.size w1 u → Calls Try.prog 21 #[enV s x] u (RetP (fun v w' => ∃ s', v = enV s' x ∧ EnIn (geS u.heap.size w') w' s' x) u)) := fun u hu => own15_any s x u (HI.out u hu) (HSW.out u hu) (hL.ltO hs) (by omega)
  have HCE : Hid (∀ u t, EnIn (fun b => b < u.heap.size) u t x → Calls Try.prog 20 #[enV t x] u (RetP (fun v w' => ∃ A c, v = .tuple #[.slice A (encE x).1.length c, .int .i64 (encE x).2] ∧ OwnB w' u.heap.size (.slice A (encE x).1.length c) (encE x).1) u)) := fun u t ht => cEncode_any t x u ht (fun b hb => hb) HLE.out
  have HEL := Lib.hid (fun h => encE_large hf h)
  have HEO := Lib.hid (fun h => encE_ok hf h)
  have HPOS := Lib.hid (enW_pos hf)
  have HCUT : Hid (∀ k, k < (enW x).b.length → decE ((enW x).b.take k) = none) := fun k hk => spoilt_cut hf hk
  have HMORE : Hid (∀ z : List UInt8, z ≠ [] → decE ((enW x).b ++ z) = none) := fun z hz => spoilt_more hf hz
  obtain ⟨E, hE⟩ : ∃ E, E = encE x := ⟨_, rfl⟩
  rw [← hE] at HCE HEL HEO
  obtain ⟨B, er⟩ := E
  obtain ⟨n, hn⟩ : ∃ n, n = B.length := ⟨_, rfl⟩
  have HN := Lib.hid hn
  have HCE2 : Hid (∀ u t, EnIn (fun b => b < u.heap.size) u t x → Calls Try.prog 20 #[enV t x] u (RetP (fun v w' => ∃ A c, v = .tuple #[.slice A n c, .int .i64 er] ∧ OwnB w' u.heap.size (.slice A n c) B) u)) := fun u t ht => by rw [hn]; exact HCE.out u t ht
  clear HCE hE hn hzo
  generalize (enW x).b = want at HEL HEO HPOS HCUT HMORE
  unfold enV at HLI HOW HCE2 ⊢
  unfold enCells at hw1 HLI HOW HCE2 ⊢
  unfold faV faCells at HEN
  clear h hb1 hL hs hr2 hf HLE
  go_enter Try.func6, Try.ntmps6
  go_upto_region 1 with (fail)
  rw [← hw1]
  clear hw1
  go_upto_region 3 with (first
    | (go_at_call 22; (with_reducible refine (HEN.out w3 HB3.out).mono ?_); rintro e w4 ⟨v4, rfl, rfl, hb4⟩; have HB4 := Lib.hid (nx HB3.out hb4); obtain ⟨x0, x1, x2, x3, x4, x5, x6, x7, x8, x9, x10, x11, x12, x13, x14, x15⟩ := (HR.out.below HB4.out).cells; clear hb4)
    | (go_at_call 19; (with_reducible refine (HLI.out w2 HB2.out).mono ?_); rintro e w3 ⟨v3, rfl, rfl, hb3⟩; have HB3 := Lib.hid (nx HB2.out hb3); obtain ⟨x0, x1, x2, x3, x4, x5, x6, x7, x8, x9, x10, x11, x12, x13, x14, x15⟩ := (HR.out.below HB3.out).cells; clear hb3)
    | (go_at_call 18; (with_reducible refine (answers15_any w1).mono ?_); rintro e w2 ⟨rfl, hb2⟩; have HB2 := Lib.hid hb2; obtain ⟨x0, x1, x2, x3, x4, x5, x6, x7, x8, x9, x10, x11, x12, x13, x14, x15⟩ := (HR.out.below hb2).cells; clear hb2)
    | fail)
  go_upto_region 4 with (first
    | (go_at_call 20; (with_reducible refine (HCE2.out w5 s5 HI5.out).mono ?_); rintro e w6 ⟨v6, rfl, ⟨A6, c6, rfl, ho6⟩, hb6⟩; have HO6 := Lib.hid ho6; have HB6 := Lib.hid (nx HB5.out hb6); clear ho6 hb6)
    | (go_at_call 21; (with_reducible refine (HOW.out w4 HB4.out).mono ?_); rintro e w5 ⟨v5, rfl, ⟨s5, rfl, hi5⟩, hb5⟩; have HI5 : Hid (EnIn (fun b => b < w5.heap.size) w5 s5 x) := hi5.mono (fun b hb => hb.2); have HB5 := Lib.hid (nx HB4.out hb5); clear hi5 hb5)
    | fail)
  clear x0 x1 x2 x3 x4 x5 x6 x7 x8 x9 x10 x11 x12 x13 x14 x15
  by_cases hl : 16384 < want.length
  · have he := HEL.out hl
    have he2 : er = 4 := congrArg Prod.snd he
    subst he2
    clear HEL HEO he hl HCUT HMORE HPOS
    go_wp2
    go_ret
    exact ⟨rfl, nx HB1.out HB6.out⟩
  have he := HEO.out (by omega)
  have he1 : B = want := congrArg Prod.fst he
  have he2 : er = 0 := congrArg Prod.snd he
  subst he1 he2
  have hnl : n ≤ 16384 := by rw [HN.out]; omega
  have hn0 : 0 < n := by rw [HN.out]; exact HPOS.out
  clear HEL HEO he hl HPOS
  by_cases h0 : n2 = 0
  · subst h0
    go_wp2
    go_ret
    exact ⟨rfl, nx HB1.out HB6.out⟩
  have h0' : ((n2 : Int) == 0) = false := by simp; omega
  by_cases h100 : 100 < n2
  · have h100' : decide ((100 : Int) < (n2 : Int)) = true := by simp; omega
    clear h100 h0
    go_wp2
    go_ret
    exact ⟨rfl, nx HB1.out HB6.out⟩
  have h100' : decide ((100 : Int) < (n2 : Int)) = false := by simp; omega
  have hn0' : ¬ (n : Int) = 0 := by omega
  obtain ⟨k, hk⟩ : ∃ k, k = a % n := ⟨_, rfl⟩
  have hkn : k < n := by rw [hk]; exact Nat.mod_lt _ (by omega)
  have htm : Int.tmod (a : Int) (n : Int) = (k : Int) := by rw [hk]; exact (Int.ofNat_tmod a n).symm
  have hml : ms.length = n2 := HR2.out.len
  have HX1 := Lib.hid (HCUT.out k (by rw [← HN.out]; exact hkn))
  have HX2 := Lib.hid (HMORE.out ms (by intro e; rw [e] at hml; exact h0 hml.symm))
  have HRB : Hid (RdB w6 A6 n B) := by show RdB _ _ _ _; rw [HN.out]; rw [HN.out] at HO6; exact (OwnB.rd HO6.out).1
  have HRK : Hid (RdB w6 A6 k (B.take k)) := by show RdB _ _ _ _; exact HRB.out.take (by omega)
  have HRM : Hid (RdB w6 A2 n2 ms) := HR2.out.below HB6.out
  have HTL : Hid ((B.take k).length = k) := by show _ = _; rw [List.length_take, ← HN.out]; omega
  have HBL : Hid (B.length = n) := HN.out.symm
  have HML := Lib.hid hml
  have hcc : n ≤ c6 ∧ c6 ≤ maxLen := by
    obtain ⟨A', c', e', _, h1, h2⟩ := OwnB.form HO6.out
    injection e' with e1 e2 e3
    subst e3
    rw [← HN.out] at h1
    exact ⟨h1, h2⟩
  have hcn := hcc.1
  have hcm : c6 ≤ 9223372036854775807 := hcc.2
  have HN2S : Hid (n2 ≤ 100) := by show _ ≤ _; omega
  clear hk h0 h100 hml hcc HCUT HMORE HN HO6
  obtain ⟨T, hT⟩ : ∃ T, T = B.take k := ⟨_, rfl⟩
  rw [← hT] at HTL HX1 HRK
  clear hT
  obtain ⟨b6, off6, hA6, _⟩ := RdB.flat HRB.out (by omega)
  subst hA6
  have hkc : k ≤ c6 := by omega
  have hwa : IntKind.i64.wrap (a : Int) = a := by rw [IntKind.wrap_i64]; omega
  go_upto_region 7 with (first
    | (go_at_call 29; refine (cdecode_any w7 A7 k c7 T HR7.out HLT7.out HC7.out.1 HC7.out.2 (by omega)).mono ?_; unfold goodE; rw [HX1.out]; rintro e w8 ⟨v8, rfl, rfl, hb8⟩; unfold enV enCells; have HB8 := Lib.hid (HB7.out.trans (hb8.mono HB7.out.size)))
    | ((with_reducible show wpList _ _ _ (⟨some 66, _, _, _, _, _⟩ :: _) _ _); refine wpL_cloneB rfl (.tmp 58) (.tmp 65) rfl rfl (some ⟨b6, off6, none⟩) k c6 T rfl HRK.out (by omega) ?_; intro v7 w7 hown7 hb7; obtain ⟨A7, c7, hv7, hr7, hl7, hm7⟩ := OwnB.form hown7; rw [HTL.out] at hv7 hr7 hl7; subst hv7; have HLT7 := Lib.hid (ownB_flat hown7); have HR7 := Lib.hid hr7; have HC7 := Lib.hid (And.intro hl7 hm7); have HB7 := Lib.hid hb7; clear hown7 hr7 hb7 hl7 hm7)
    | fail)
  obtain ⟨X, hX⟩ : ∃ X, X = B ++ ms := ⟨_, rfl⟩
  obtain ⟨N, hN⟩ : ∃ N, N = n + n2 := ⟨_, rfl⟩
  have HXL : Hid (X.length = N) := by show _ = _; rw [hX, List.length_append, HBL.out, hN, HML.out]
  rw [← hX] at HX2
  have HXE : Hid (B ++ ms = X) := hX.symm
  have hN2 : N ≤ 16484 := by rw [hN]; have := h100'; simp at this; omega
  clear hX hN
  obtain ⟨w9, hw9⟩ : ∃ u, u = w8.alloc (.cells (enCells ES.nil En.zero) 50) := ⟨_, rfl⟩
  have HB9 : Hid (Below w6.heap.size w6 w9) := by show Below _ _ _; rw [hw9]; exact nx HB8.out (bl.alloc (Nat.le_refl _) _)
  unfold enCells at hw9
  rw [← hw9]
  clear hw9
  go_wp2_with (first
    | (go_at_call 29; refine (cdecode_any w11 A11 N c11 X HR11.out HLT11.out HC11.out.1 HC11.out.2 (by omega)).mono ?_; unfold goodE; rw [HX2.out]; rintro e w12 ⟨v12, rfl, rfl, hb12⟩; unfold enV enCells; have HB12 := Lib.hid (nx HB11.out hb12))
    | ((with_reducible show wpList _ _ _ (⟨some 75, _, _, _, _, _⟩ :: _) _ _); refine wpL_appB rfl (.tmp 73) (.tmp 74) rfl w9.heap.size v10 B rfl HO10.out A2 n2 c2 ms rfl (HRM.out.below (nx HB9.out HB10.out)) (by have h2 := HN2S.out; rw [HBL.out]; omega) HB10.out.size ?_; intro v11 w11 hown11 hg11 _; rw [HXE.out] at hown11; obtain ⟨A11, c11, hv11, hr11, hl11, hm11⟩ := OwnB.form hown11; rw [HXL.out] at hv11 hr11 hl11; subst hv11; have HLT11 := Lib.hid (ownB_flat hown11); have HR11 := Lib.hid hr11; have HC11 := Lib.hid (And.intro hl11 hm11); have HB11 := Lib.hid ((nx HB9.out HB10.out).grown hg11 (nx HB9.out HB10.out).size (fun j hj => Nat.le_trans HB9.out.size (World.ownsRow.lt HO10.out j hj).1)); clear hown11 hg11 hr11 hl11 hm11)
    | ((with_reducible show wpList _ _ _ (⟨some 73, _, _, _, _, _⟩ :: _) _ _); refine wpL_cloneB rfl (.tmp 71) (.tmp 72) rfl rfl (some ⟨b6, off6, none⟩) n c6 B rfl (HRB.out.below HB9.out) (by omega) ?_; intro v10 w10 hown10 hb10; have HO10 := Lib.hid hown10; have HB10 := Lib.hid hb10; clear hown10 hb10)
    | fail)
  go_ret
  exact ⟨rfl, nx HB1.out (HB6.out.trans (Below.mono (nx HB12.out (bl.alloc (Nat.le_refl _) _)) HB6.out.size))⟩
theorem codeSpoilt_walk (s : ES) (x : En) (a : Nat) (A2 : Option Addr) (n2 c2 : Nat) (ms : List UInt8) (w : World) (h : EnIn (ltS w) w s x) (ha : a < 65536) (hr2 : RdB w A2 n2 ms) (hs : SoaLt x) :
    Calls Try.prog 6 #[enV s x, .int .u16 (a : Int), .slice A2 n2 c2] w (LawT w) := by
  by_cases hL : LtEn x
  · cases hf : fineE x with
    | true => exact codeSpoilt_main s x a A2 n2 c2 ms w h ha hr2 hL hs hf
    | false => exact codeSpoilt_bad s x a A2 n2 c2 ms w h ha hr2 hL hs hf
  · exact codeSpoilt_heavy s x a A2 n2 c2 ms w h ha hr2 (ltEn_no hL)
end Go.Proofs.Ytimkdpkhdbiniaa
