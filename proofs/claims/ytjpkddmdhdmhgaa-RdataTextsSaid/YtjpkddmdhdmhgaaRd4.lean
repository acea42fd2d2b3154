/- rdata: the reader's texts, where it gives up. -/
import Derived.Test.YtjpkddmdhdmhgaaRd3
namespace Go.Proofs.Ytjpkddmdhdmhgaa
open Go.RowKit
set_option maxRecDepth 100000

set_option maxHeartbeats 2000000 in
theorem rdtexts_large (w : World) (p b off n c : Nat) (h : Rdr w p (.slice (some ⟨b, off, none⟩) n c) (0 : Nat) n) (hr : RdB w (some ⟨b, off, none⟩) n (List.replicate n 0)) (hbp : b ≠ p) (hn : n ≤ c) (hc : c ≤ 9223372036854775807) (hn1 : 64 < n) (hn2 : n ≤ 1000000) :
    Calls Try.prog 100 #[.pointer (some ⟨p, 0, none⟩)] w (fun e w' => e = .panicked [{ v := .iface 28 (.int .i64 4), recovered := false }] ∧ Chg (fun k => k = p) w w') := by
  have hpl : p < w.heap.size := (Array.getElem?_eq_some_iff.1 h).1
  have H := Lib.hid h
  have HR := Lib.hid hr
  clear h hr
  go_enter Try.func100, Try.ntmps100
  go_wp2
  go_loopw [3] (fun ov wr => ∃ (k : Nat) (A' : Option Addr) (c' : Nat), ov = .slice A' k c' ∧ Hid (OwnS wr w.heap.size (.slice A' k c') (noTexts k)) ∧ Hid (Rdr wr p (.slice (some ⟨b, off, none⟩) n c) k n) ∧ k ≤ 64 ∧ Chg (fun z => z = p) w wr) (fun ov _ => n - lenOf ov)
  case atStart => exact ⟨0, none, 0, rfl, OwnS.nil _ _, H, Nat.zero_le _, Chg.refl _ _⟩
  case round =>
    obtain ⟨k, A', c', rfl, HO, HP, hk, hch⟩ := hrel
    clear H
    obtain ⟨c0, c1, c2, f0⟩ := HP.out.cells
    have hlt : k < n := by omega
    by_cases hk64 : ¬ k = 64
    · skip
      have hrw := Lib.hid (HR.out.chg hch (fun b' off' e => by injection e with e; injection e with e; rw [← e]; exact hbp))
      have hno : ∀ {wz : World} {v : Value} {ns : List (List UInt8)}, OwnS wz w.heap.size v ns → ∀ z, v.ownBlock = some z → ¬ z = p := fun h z hz e => by have := (OwnE.lt h z hz).1; omega
      have hks : ((k : Int) + 1) = ((k + 1 : Nat) : Int) := by omega
      have HKS := Lib.hid hks
      clear hks
      go_wp2
      go_quiet (fail)
      go_wp2_with (first
        | ((with_reducible show wpList _ _ _ (⟨some 24, _, _, _, _, _⟩ :: _) _ _); refine wpL_pushS rfl (.tmp 17) (.tmp 23) rfl w.heap.size (.slice A' k c') (noTexts k) rfl HO3.out [] (by unfold maxLen; exact Nat.zero_le _) rfl (by rw [noTexts_len]; omega) HSZ.out ?_; intro v5 w5 hown5 hg5 hv5; obtain ⟨A5, c5, rfl, _⟩ := OwnE.form hown5)
        | (go_at_call 99; refine (rbytes0_any w2 p b off n c (k + 1) H2 (by omega) hn hc (by omega)).mono ?_; rintro e w3 ⟨v3, rfl, hown3, H3, hc3⟩; have HC3 := Lib.hid hc3; have HH3 := Lib.hid H3; have HO3 := Lib.hid (OwnE.chg HO2.out hc3 (hno HO2.out) (fun _ hz => hz.elim)); have HSZ := Lib.hid (show w.heap.size ≤ w3.heap.size from Nat.le_trans (Nat.le_trans hch.size HC2.out.size) hc3.size); obtain ⟨A3, c3, rfl, hr3, _⟩ := hown3.form; rw [List.length_nil] at hr3 ⊢; have hcv := conv_str (P := Try.prog) _ _ _ Try.underlying22 Try.underlying5 Try.underlying9 w3 A3 0 c3 [] hr3; clear hc3 H3 hown3 hr3)
        | (go_at_call 105; refine (rnum1_any (wr.drewN nq) p b off n c k (HP.out.below (dN bl nq)) (hrw.out.below (dN bl nq)) hlt hn hc (by omega)).mono ?_; rintro e w2 ⟨rfl, H2, hc2⟩; have HC2 := Lib.hid ((Chg.refl (fun z => z = p) wr).drewN nq |>.trans hc2 (fun _ h => .inl h)); have HO2 := Lib.hid (OwnE.chg HO.out HC2.out (hno HO.out) (fun _ hz => hz.elim)); clear hc2)
        | fail)
      have hge : ∀ z, (Value.slice A' k c').ownBlock = some z → w.heap.size ≤ z := fun z hz => (OwnE.lt HO.out z hz).1
      have hp5 : Rdr w5 p (.slice (some ⟨b, off, none⟩) n c) ((k + 1 : Nat) : Int) n := (hg5.block p (Array.getElem?_eq_some_iff.1 HH3.out).1 (fun e => by have := hge p e.symm; omega)).trans HH3.out
      have hc5 : Chg (fun z => z = p) w w5 := ((hch.trans HC2.out (fun _ h => .inl h)).trans HC3.out (fun _ h => .inl h)).grown hg5 (fun z hz => .inr (hge z hz))
      have hl5 : (noTexts k ++ [[]]).length = k + 1 := by rw [List.length_append, noTexts_len]; rfl
      rw [hl5, ← noTexts_succ] at hown5
      rw [noTexts_len]
      go_roundw
      case rel => exact ⟨k + 1, A5, c5, rfl, hown5, hp5, by omega, hc5⟩
      case measure => simp [lenOf]; omega
    · obtain rfl : k = 64 := by omega
      clear hk64
      go_wp2
      go_quiet (fail)
      go_wp2
      exact ⟨rfl, rfl, hch.drewN nq⟩

set_option maxHeartbeats 1000000 in
theorem rdtexts_none (w : World) (p : Nat) (h : Rdr w p (.slice none 0 0) (0 : Nat) (0 : Nat)) :
    Calls Try.prog 100 #[.pointer (some ⟨p, 0, none⟩)] w (fun e w' => e = .panicked [{ v := .iface 28 (.int .i64 2), recovered := false }] ∧ Chg (fun k => k = p) w w') := by
  obtain ⟨c0, c1, c2, f0⟩ := h.cells
  go_enter Try.func100, Try.ntmps100
  go_wp2
  go_loopw [3] (fun ov wr => ov = .slice none 0 0 ∧ wr = w) (fun _ _ => 0)
  case atStart => exact ⟨rfl, rfl⟩
  case round =>
    obtain ⟨rfl, rfl⟩ := hrel
    go_wp2
    go_quiet (fail)
    go_wp2
    exact ⟨rfl, rfl, (Chg.refl (fun k => k = p) wr).drewN nq⟩
end Go.Proofs.Ytjpkddmdhdmhgaa
