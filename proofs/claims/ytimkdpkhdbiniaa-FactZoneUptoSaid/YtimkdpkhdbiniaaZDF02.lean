/- Parts of a proof, joined: Fact2. -/
import Derived.Test.YtimkdpkhdbiniaaZDF01
import Derived.Test.YtimkdpkhdbiniaaZDM10
/- fact.distinct: are all sound, and no two the same? -/
namespace Go.Proofs.Ytimkdpkhdbiniaa
open Go.RowKit
set_option maxRecDepth 100000
set_option linter.unusedVariables false

set_option maxHeartbeats 1000000 in
theorem distinctC_any (q : Nat) (t s : DS) (d x : Da) (w : World) (hq : DBox w q t d) (hd : DRd w t d) (hx : DRd w s x) :
    Calls Try.prog 154 #[dsV s x, .pointer (some ⟨q, 0, none⟩)] w (RetP (fun v _ => v = .bool (sameD x d)) w) := by
  unfold dsV
  obtain ⟨w1, hw1⟩ : ∃ w1, w1 = w.alloc (.cells #[.slice s.A0 x.bytes.length s.c0, .slice s.A1 x.host.length s.c1, .slice s.A2 x.mail.length s.c2, .slice s.A3 x.nums.length s.c3, .slice s.A4 x.texts.length s.c4] 46) := ⟨_, rfl⟩
  have hb1 : Below w.heap.size w w1 := by rw [hw1]; exact bl.alloc (Nat.le_refl _) _
  have HB1 := Lib.hid hb1
  have BX : Hid (DBox w1 w.heap.size s x) := by show DBox _ _ _ _; rw [hw1]; exact DBox.made w s x _
  obtain ⟨a0, a1, a2, a3, a4⟩ := BX.out
  obtain ⟨b0, b1, b2, b3, b4⟩ := hq.below hb1
  have HD := Lib.hid (hd.below hb1)
  have HX := Lib.hid (hx.below hb1)
  clear hq hd hx hb1
  go_enter Try.func154, Try.ntmps154
  go_upto_region 1 with (fail)
  rw [← hw1]
  clear hw1
  go_wp2_with (go_at_call 155; refine (psame_any s t x d w1 HX.out HD.out).mono ?_; rintro e w2 ⟨v2, rfl, rfl, hb2⟩)
  go_ret
  exact ⟨_, rfl, rfl, nx HB1.out hb2⟩
/-- How large data may be to be looked at. -/
def LtD (d : Da) : Prop := d.host.length ≤ 1000000 ∧ d.mail.length ≤ 1000000 ∧ d.nums.length ≤ 1000000 ∧ d.texts.length ≤ 1000000
set_option maxHeartbeats 4000000 in
theorem distinct_any (k : Int) (A : Option Addr) (n c : Nat) (xs : List Da) (w : World) (h : RdE encDa w A n xs) (hn : n ≤ 1000000) (hc : n ≤ c) (hs : ∀ d ∈ xs, LtD d) :
    Calls Try.prog 107 #[.int .i64 k, .slice A n c] w (RetP (fun v _ => v = .bool (distP k xs n)) w) := by
  have hl := h.len
  have H := Lib.hid h
  have HS := Lib.hid hs
  have HL := Lib.hid hl
  clear h hs hl
  go_enter Try.func107, Try.ntmps107
  go_wp2
  go_loopw [9] (fun iv wr => ∃ i : Nat, iv = .int .i64 i ∧ i ≤ n ∧ Hid (distP k xs i = true) ∧ Hid (Below w.heap.size w wr)) (fun iv _ => n - (intOf iv).toNat)
  case atStart => exact ⟨0, rfl, Nat.zero_le _, rfl, bl⟩
  case round =>
    obtain ⟨i, rfl, hi, HD, HBW⟩ := hrel
    by_cases hlt : i < n
    · obtain ⟨d, hx⟩ : ∃ d, xs[i]? = some d := ⟨_, List.getElem?_eq_getElem (by rw [HL.out]; exact hlt)⟩
      have hls := HS.out d (List.mem_of_getElem? hx)
      obtain ⟨b, off, s, rfl, -, hd, hcc⟩ := da_at H.out hx
      obtain ⟨d0, d1, d2, d3, d4⟩ := hcc.below HBW.out
      have HDR := Lib.hid ((hd.rd (fun b hb => hb)).below HBW.out)
      obtain ⟨w1, hw1⟩ : ∃ w1, w1 = wr.alloc (.cells #[.slice s.A0 d.bytes.length s.c0, .slice s.A1 d.host.length s.c1, .slice s.A2 d.mail.length s.c2, .slice s.A3 d.nums.length s.c3, .slice s.A4 d.texts.length s.c4] 46) := ⟨_, rfl⟩
      have hb1 : Below wr.heap.size wr w1 := by rw [hw1]; exact bl.alloc (Nat.le_refl _) _
      have BX : Hid (DBox w1 wr.heap.size s d) := by show DBox _ _ _ _; rw [hw1]; exact DBox.made wr s d _
      have HB1 : Hid (Below wr.heap.size wr w1) := hb1
      have HBT := Lib.hid (nx HBW.out hb1)
      have hsnd := dsound_any k s d w1 (HDR.out.below hb1) (by have := hls.1; omega) (by have := hls.2.1; omega) (by have := hls.2.2.1; omega) (by have := hls.2.2.2; omega)
      have HX := Lib.hid hx
      have HONE := Lib.hid (oneP_at (k := k) hx)
      have hii : (i : Int) < (n : Int) := by omega
      have hid' : decide ((i : Int) < (n : Int)) = true := decide_eq_true hii
      unfold dsV at hsnd
      clear hx hls hd hcc hb1
      go_upto_region 4 with (fail)
      rw [← hw1]
      clear hw1 d0 d1 d2 d3 d4
      generalize wr.heap.size = q at BX ⊢
      obtain ⟨a0, a1, a2, a3, a4⟩ := BX.out
      cases hf : fineB k d with
      | false =>
        rw [hf] at hsnd HONE
        have HSND := Lib.hid hsnd
        clear hsnd hf
        go_wp2_with (first
          | (go_at_call 109; refine HSND.out.mono ?_; rintro e w2 ⟨v2, rfl, rfl, hb2⟩)
          | fail)
        go_ret
        exact ⟨_, rfl, by rw [distP_no (HONE.out.trans rfl) n hlt]; rfl, nx HBT.out hb2⟩
      | true =>
        rw [hf] at hsnd HONE
        have HSND := Lib.hid hsnd
        clear hsnd hf
        have hic : (i : Int) ≤ (c : Int) := by omega
        have HAS : ∀ w2, Below w1.heap.size w1 w2 → Calls Try.prog 153 #[.slice (some ⟨b, off, none⟩) i c, .func (.func 154) #[] #[.pointer (some ⟨q, 0, none⟩)]] w2 (RetP (fun v _ => v = .bool (inD (xs.take i) d)) w2) := fun w2 hb2 =>
          hasDi_any q (fun x => sameD x d) (some ⟨b, off, none⟩) i c (xs.take i) w2 (((RdE.below H.out HBT.out).below hb2).take (by omega)) (by omega) (fun t x W hW hx => distinctC_any q s t d x W ((BX.out.below hb2).below hW) ((((HDR.out.below HB1.out).below hb2)).below hW) hx)
        cases hin : inD (xs.take i) d with
        | true =>
          rw [hin] at HONE
          have HIN := Lib.hid hin
          rw [hin] at HAS
          clear hin
          go_wp2_with (first
            | (go_at_call 109; refine HSND.out.mono ?_; rintro e w2 ⟨v2, rfl, rfl, hb2⟩; have HB2 := Lib.hid hb2)
            | (go_at_call 153; refine (HAS w2 (HB2.out)).mono ?_; rintro e w3 ⟨v3, rfl, rfl, hb3⟩)
            | fail)
          go_ret
          exact ⟨_, rfl, by rw [distP_no (HONE.out.trans rfl) n hlt]; rfl, nx HBT.out (nx HB2.out hb3)⟩
        | false =>
          rw [hin] at HONE
          have HIN := Lib.hid hin
          rw [hin] at HAS
          clear hin
          go_wp2_with (first
            | (go_at_call 109; refine HSND.out.mono ?_; rintro e w2 ⟨v2, rfl, rfl, hb2⟩; have HB2 := Lib.hid hb2)
            | (go_at_call 153; refine (HAS w2 (HB2.out)).mono ?_; rintro e w3 ⟨v3, rfl, rfl, hb3⟩)
            | fail)
          have HN : Hid (distP k xs (i + 1) = true) := by show _ = _; unfold distP; rw [HD.out, HONE.out]; rfl
          go_roundw
          case rel => exact ⟨i + 1, by go_num, by omega, HN.out, nx HBT.out (nx HB2.out hb3)⟩
          case measure => simp [intOf]; omega
    · obtain rfl : i = n := by omega
      go_wp2
      go_ret
      exact ⟨_, rfl, by rw [HD.out]; rfl, HBW.out⟩
end Go.Proofs.Ytimkdpkhdbiniaa
