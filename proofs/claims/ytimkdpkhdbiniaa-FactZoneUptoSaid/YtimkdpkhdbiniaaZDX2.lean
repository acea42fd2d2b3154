/- Parts of a proof, joined: IdxAm, AmongA. -/
import Derived.Test.YtimkdpkhdbiniaaZDF01
/- slices.ContainsFunc over data, for rr.among. -/
namespace Go.Proofs.Ytimkdpkhdbiniaa
open Go.RowKit
set_option maxRecDepth 100000

set_option maxHeartbeats 1000000 in
theorem indexAm_any (q0 : Nat) (p : Da → Bool) (A : Option Addr) (n c : Nat) (xs : List Da) (w : World) (h : RdE encDa w A n xs) (hn : n ≤ 1000000000)
    (hf : ∀ (s : DS) (x : Da) (W : World), Below w.heap.size w W → DRd W s x → Calls Try.prog 192 #[dsV s x, .pointer (some ⟨q0, 0, none⟩)] W (RetP (fun v _ => v = .bool (p x)) W)) :
    Calls Try.prog 185 #[.slice A n c, .func (.func 192) #[] #[.pointer (some ⟨q0, 0, none⟩)]] w (RetP (fun v _ => ∃ i : Int, v = .int .i64 i ∧ (0 ≤ i ↔ xs.any p = true)) w) := by
  have hl := h.len
  subst hl
  have H := Lib.hid h
  have HF := Lib.hid hf
  clear h hf
  go_enter Try.func185, Try.ntmps185
  go_wp2
  go_loopw [5, 8] (fun _ iv wr => ∃ k : Nat, iv = .int .i64 k ∧ k ≤ xs.length ∧ Hid ((xs.take k).any p = false) ∧ Hid (Below w.heap.size w wr)) (fun _ iv _ => xs.length - (intOf iv).toNat)
  case atStart => exact ⟨0, rfl, Nat.zero_le _, rfl, bl⟩
  case round =>
    obtain ⟨k, rfl, hk, HK, HBW⟩ := hrel
    by_cases hlt : k < xs.length
    · obtain ⟨x, hx⟩ : ∃ x, xs[k]? = some x := ⟨_, List.getElem?_eq_getElem hlt⟩
      obtain ⟨b, off, s, rfl, _, hd, hc⟩ := da_at H.out hx
      obtain ⟨d0, d1, d2, d3, d4⟩ := hc.below HBW.out
      have hq := HF.out s x wr HBW.out ((hd.rd (fun b hb => hb)).below HBW.out)
      have HX := Lib.hid hx
      unfold dsV at hq
      clear hx hd hc
      cases hp : p x with
      | false =>
        rw [hp] at hq
        have HQ := Lib.hid hq
        have HP := Lib.hid hp
        clear hq hp
        go_wp2_with (go_at_call 192; refine HQ.out.mono ?_; rintro e w1 ⟨v1, rfl, rfl, hb1⟩)
        go_roundw
        case rel => exact ⟨k + 1, by go_num, by omega, any_take_succ HX.out HK.out HP.out, nx HBW.out hb1⟩
        case measure => simp [intOf]; omega
      | true =>
        rw [hp] at hq
        have HQ := Lib.hid hq
        have HP := Lib.hid hp
        clear hq hp
        go_wp2_with (go_at_call 192; refine HQ.out.mono ?_; rintro e w1 ⟨v1, rfl, rfl, hb1⟩)
        go_ret
        exact ⟨_, rfl, ⟨_, rfl, ⟨fun _ => List.any_eq_true.2 ⟨x, List.mem_of_getElem? HX.out, HP.out⟩, fun _ => Int.natCast_nonneg _⟩⟩, nx HBW.out hb1⟩
    · obtain rfl : k = xs.length := by omega
      rw [List.take_length] at HK
      go_wp2
      go_ret
      exact ⟨_, rfl, ⟨-1, rfl, ⟨fun h => absurd h (by decide), fun h => by rw [HK.out] at h; cases h⟩⟩, HBW.out⟩
theorem hasAm_any (q0 : Nat) (p : Da → Bool) (A : Option Addr) (n c : Nat) (xs : List Da) (w : World) (h : RdE encDa w A n xs) (hn : n ≤ 1000000000)
    (hf : ∀ (s : DS) (x : Da) (W : World), Below w.heap.size w W → DRd W s x → Calls Try.prog 192 #[dsV s x, .pointer (some ⟨q0, 0, none⟩)] W (RetP (fun v _ => v = .bool (p x)) W)) :
    Calls Try.prog 153 #[.slice A n c, .func (.func 192) #[] #[.pointer (some ⟨q0, 0, none⟩)]] w (RetP (fun v _ => v = .bool (xs.any p)) w) := by
  have HQ := Lib.hid (indexAm_any q0 p A n c xs w h hn hf)
  clear h hf
  go_enter Try.func153, Try.ntmps153
  go_wp2_with (go_at_call 185; refine HQ.out.mono ?_; rintro e w1 ⟨v1, rfl, ⟨i, rfl, hi⟩, hb1⟩; have HI := Lib.hid hi; clear hi)
  go_ret
  refine ⟨_, rfl, ?_, hb1⟩
  show Value.bool _ = Value.bool _
  congr 1
  rw [Bool.eq_iff_iff, decide_eq_true_iff, HI.out]
end Go.Proofs.Ytimkdpkhdbiniaa

/- rr.among. -/
namespace Go.Proofs.Ytimkdpkhdbiniaa
open Go.RowKit
set_option maxRecDepth 100000

set_option maxHeartbeats 1000000 in
theorem amongC_any (q : Nat) (t s : DS) (d x : Da) (w : World) (hq : DBox w q t d) (hd : DRd w t d) (hx : DRd w s x) :
    Calls Try.prog 192 #[dsV s x, .pointer (some ⟨q, 0, none⟩)] w (RetP (fun v _ => v = .bool (sameD x d)) w) := by
  unfold dsV
  obtain ⟨w1, hw1⟩ : ∃ w1, w1 = w.alloc (.cells #[.slice s.A0 x.bytes.length s.c0, .slice s.A1 x.host.length s.c1, .slice s.A2 x.mail.length s.c2, .slice s.A3 x.nums.length s.c3, .slice s.A4 x.texts.length s.c4] 46) := ⟨_, rfl⟩
  have hb1 : Below w.heap.size w w1 := by rw [hw1]; exact bl.alloc (Nat.le_refl _) _
  have HB1 := Lib.hid hb1
  have BX : Hid (DBox w1 w.heap.size s x) := by show DBox _ _ _ _; rw [hw1]; exact DBox.made w s x _
  obtain ⟨a0, a1, a2, a3, a4⟩ := BX.out
  obtain ⟨b0, b1, b2, b3, b4⟩ := hq.below hb1
  have HD := Lib.hid (hd.below hb1)
  have HX := Lib.hid (hx.below hb1)
  clear hq hd hx hb1
  go_enter Try.func192, Try.ntmps192
  go_upto_region 1 with (fail)
  rw [← hw1]
  clear hw1
  go_wp2_with (go_at_call 155; refine (psame_any s t x d w1 HX.out HD.out).mono ?_; rintro e w2 ⟨v2, rfl, rfl, hb2⟩)
  go_ret
  exact ⟨_, rfl, rfl, nx HB1.out hb2⟩
set_option maxHeartbeats 1000000 in
theorem among_any (A : Option Addr) (n c : Nat) (xs : List Da) (t : DS) (d : Da) (w : World) (h : RdE encDa w A n xs) (hn : n ≤ 1000000000) (hd : DRd w t d) :
    Calls Try.prog 170 #[.slice A n c, dsV t d] w (RetP (fun v _ => v = .bool (inD xs d)) w) := by
  unfold dsV
  obtain ⟨w1, hw1⟩ : ∃ w1, w1 = w.alloc (.cells #[.slice t.A0 d.bytes.length t.c0, .slice t.A1 d.host.length t.c1, .slice t.A2 d.mail.length t.c2, .slice t.A3 d.nums.length t.c3, .slice t.A4 d.texts.length t.c4] 46) := ⟨_, rfl⟩
  have hb1 : Below w.heap.size w w1 := by rw [hw1]; exact bl.alloc (Nat.le_refl _) _
  have HB1 := Lib.hid hb1
  have BX : Hid (DBox w1 w.heap.size t d) := by show DBox _ _ _ _; rw [hw1]; exact DBox.made w t d _
  have hd1 := hd.below hb1
  have HC := Lib.hid (hasAm_any w.heap.size (fun x => sameD x d) A n c xs w1 (h.below hb1) hn (fun s x W hW hx => amongC_any w.heap.size t s d x W (BX.out.below hW) (hd1.below hW) hx))
  clear h hd hd1 hb1
  go_enter Try.func170, Try.ntmps170
  go_upto_region 1 with (fail)
  rw [← hw1]
  clear hw1
  go_wp2_with (go_at_call 153; refine HC.out.mono ?_; rintro e w2 ⟨v2, rfl, rfl, hb2⟩)
  go_ret
  exact ⟨_, rfl, rfl, nx HB1.out hb2⟩

end Go.Proofs.Ytimkdpkhdbiniaa
