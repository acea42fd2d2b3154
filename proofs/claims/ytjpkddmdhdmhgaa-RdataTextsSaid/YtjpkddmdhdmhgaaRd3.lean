/- rdata: the reader over bytes of 0: num, bytes, texts. -/
import Derived.Test.YtjpkddmdhdmhgaaRd2
import Derived.Test.YtjpkddmdhdmhgaaStrs
namespace Go.Proofs.Ytjpkddmdhdmhgaa
open Go.RowKit
set_option maxRecDepth 100000

theorem getN_zero {n pos : Nat} (h : pos < n) : getN (List.replicate n 0) pos 1 = (0, 0) := by
  unfold getN
  rw [if_neg (by omega), List.length_replicate, if_neg (by omega)]
  rw [Int.toNat_natCast, List.drop_replicate, show (1 : Int).toNat = 1 from rfl]
  obtain ⟨m, hm⟩ : ∃ m, n - pos = m + 1 := ⟨n - pos - 1, by omega⟩
  rw [hm]
  rfl

set_option maxHeartbeats 1000000 in
theorem rnum1_any (w : World) (p b off n c pos : Nat) (h : Rdr w p (.slice (some ⟨b, off, none⟩) n c) pos n) (hr : RdB w (some ⟨b, off, none⟩) n (List.replicate n 0)) (hpos : pos < n) (hn : n ≤ c) (hc : c ≤ 9223372036854775807) (hn2 : n ≤ 1000000) :
    Calls Try.prog 105 #[.pointer (some ⟨p, 0, none⟩), .int .i64 1] w (fun e w' => e = .returned (.int .i64 0) ∧ Rdr w' p (.slice (some ⟨b, off, none⟩) n c) (pos + 1 : Nat) n ∧ Chg (fun k => k = p) w w') := by
  obtain ⟨c0, c1, c2, f0⟩ := h.cells
  have H := Lib.hid h
  have HR := Lib.hid hr
  have hg := Lib.hid (getN_zero hpos)
  clear h hr
  go_enter Try.func105, Try.ntmps105
  go_wp2
  go_region_held3 (fun w' => w'.cell? ⟨p, 0, none⟩ = some (.slice (some ⟨b, off, none⟩) n c) ∧ w'.cell? ⟨p, 1, none⟩ = some (.int .i64 (pos : Int)) ∧ w'.cell? ⟨p, 2, none⟩ = some (.int .i64 (n : Int)))
    (first
      | with_reducible exact ⟨c0, c1, c2⟩
      | with_reducible exact ⟨below_cell bl.drew c0, below_cell bl.drew c1, below_cell bl.drew c2⟩
      | with_reducible exact ⟨y0, y1, y2⟩
      | fail)
    (first
      | (go_at_call 63; refine (get_any (some ⟨b, off, none⟩) n c (List.replicate n 0) (pos : Int) 1 w.drew (HR.out.below bl.drew) hn (by omega)).mono ?_; rw [hg.out]; rintro e w2 ⟨rfl, rfl⟩)
      | fail)
  go_wp2
  go_ret
  rw [show ((pos : Int) + 1) = ((pos + 1 : Nat) : Int) by omega]
  exact ⟨rfl, (H.out.below bl.drew).move _, (Chg.refl (fun k => k = p) w).drew.setCell (p := ⟨p, 1, none⟩) (Or.inl rfl) _⟩

set_option maxHeartbeats 1000000 in
theorem rbytes0_any (w : World) (p b off n c pos : Nat) (h : Rdr w p (.slice (some ⟨b, off, none⟩) n c) pos n) (hpos : pos ≤ n) (hn : n ≤ c) (hc : c ≤ 9223372036854775807) (hn2 : n ≤ 1000000) :
    Calls Try.prog 99 #[.pointer (some ⟨p, 0, none⟩), .int .i64 0] w (fun e w' => ∃ v, e = .returned v ∧ OwnB w' w.heap.size v [] ∧ Rdr w' p (.slice (some ⟨b, off, none⟩) n c) pos n ∧ Chg (fun k => k = p) w w') := by
  obtain ⟨c0, c1, c2, f0⟩ := h.cells
  have H := Lib.hid h
  have h1 : ¬ ((n : Int) - pos < 0) := by omega
  go_enter Try.func99, Try.ntmps99
  go_wp2
  go_quiet (fail)
  go_wp2
  obtain ⟨w1, hw1⟩ : ∃ w1, w1 = (w.drewN nq).setCell ⟨p, 1, none⟩ (.int .i64 (pos : Int)) := ⟨_, rfl⟩
  have H1 : Hid (Rdr w1 p (.slice (some ⟨b, off, none⟩) n c) pos n) := by
    show Rdr _ _ _ _ _
    rw [hw1]
    exact (h.below (dN bl nq)).move _
  have hch : Chg (fun k => k = p) w w1 := by rw [hw1]; exact ((Chg.refl (fun k => k = p) w).drewN nq).setCell (p := ⟨p, 1, none⟩) (Or.inl rfl) _
  rw [← hw1]
  clear hw1 c0 c1 c2 f0 h
  obtain ⟨c0, c1, c2, f0⟩ := H1.out.cells
  have hwp : IntKind.i64.wrap (pos : Int) = pos := by rw [IntKind.wrap_i64]; omega
  have hs1 : (0 : Int) ≤ pos := by omega
  have hs3 : (pos : Int) ≤ c := by omega
  have hs4 : ¬ (c : Int) < pos := by omega
  obtain ⟨A2, hA2⟩ : ∃ A2 : Option Addr, A2 = if c = pos then some ⟨b, off, none⟩ else some ⟨b, off + pos, none⟩ := ⟨_, rfl⟩
  have HA2 := Lib.hid hA2
  clear hA2
  go_region_held3 (fun w' => w'.cell? ⟨p, 0, none⟩ = some (.slice (some ⟨b, off, none⟩) n c) ∧ w'.cell? ⟨p, 1, none⟩ = some (.int .i64 (pos : Int)))
    (first
      | with_reducible exact ⟨c0, c1⟩
      | with_reducible exact ⟨below_cell bl.drew c0, below_cell bl.drew c1⟩
      | with_reducible exact ⟨y0, y1⟩
      | fail)
    (first
      | (go_at_call 72; rw [← HA2.out]; refine (sclone_any A2 0 _ [] w1.drew (Rd.nil _ _ _) (by omega)).mono ?_; rintro e w2 ⟨v2, rfl, hown2, hb2'⟩; have hb2 : Below w1.heap.size w1 w2 := bl.drew.trans hb2'; have y0 := below_cell hb2 c0; have y1 := below_cell hb2 c1)
      | fail)
  go_wp2
  go_ret
  exact ⟨_, rfl, hown2.mono (by have := hch.size; show w.heap.size ≤ w1.heap.size; omega), H1.out.below hb2, hch.nx hb2⟩

def lenOf : Value → Nat
  | .slice _ n _ => n
  | _ => 0
/-- k texts without a letter. -/
def noTexts (k : Nat) : List (List UInt8) := List.replicate k []
theorem noTexts_succ (k : Nat) : noTexts (k + 1) = noTexts k ++ [[]] := by unfold noTexts; rw [List.replicate_succ']
theorem noTexts_len (k : Nat) : (noTexts k).length = k := List.length_replicate

set_option maxHeartbeats 2000000 in
theorem rdtexts_any (w : World) (p b off n c : Nat) (h : Rdr w p (.slice (some ⟨b, off, none⟩) n c) (0 : Nat) n) (hr : RdB w (some ⟨b, off, none⟩) n (List.replicate n 0)) (hbp : b ≠ p) (hn1 : 1 ≤ n) (hn : n ≤ c) (hc : c ≤ 9223372036854775807) (hn2 : n ≤ 64) :
    Calls Try.prog 100 #[.pointer (some ⟨p, 0, none⟩)] w (fun e w' => ∃ v, e = .returned v ∧ OwnS w' w.heap.size v (noTexts n) ∧ Rdr w' p (.slice (some ⟨b, off, none⟩) n c) n n ∧ Chg (fun k => k = p) w w') := by
  have hpl : p < w.heap.size := (Array.getElem?_eq_some_iff.1 h).1
  have H := Lib.hid h
  have HR := Lib.hid hr
  clear h hr
  go_enter Try.func100, Try.ntmps100
  go_wp2
  go_loopw [3] (fun ov wr => ∃ (k : Nat) (A' : Option Addr) (c' : Nat), ov = .slice A' k c' ∧ Hid (OwnS wr w.heap.size (.slice A' k c') (noTexts k)) ∧ Hid (Rdr wr p (.slice (some ⟨b, off, none⟩) n c) k n) ∧ k ≤ n ∧ Chg (fun z => z = p) w wr) (fun ov _ => n - lenOf ov)
  case atStart => exact ⟨0, none, 0, rfl, OwnS.nil _ _, H, Nat.zero_le _, Chg.refl _ _⟩
  case round =>
    obtain ⟨k, A', c', rfl, HO, HP, hk, hch⟩ := hrel
    clear H
    obtain ⟨c0, c1, c2, f0⟩ := HP.out.cells
    by_cases hlt : k < n
    · have hk64 : ¬ k = 64 := by omega
      have hrw := Lib.hid (HR.out.chg hch (fun b' off' e => by injection e with e; injection e with e; rw [← e]; exact hbp))
      have hno : ∀ {wz : World} {v : Value} {ns : List (List UInt8)}, OwnS wz w.heap.size v ns → ∀ z, v.ownBlock = some z → ¬ z = p := fun h z hz e => by have := (OwnE.lt h z hz).1; omega
      have hks : ((k : Int) + 1) = ((k + 1 : Nat) : Int) := by omega
      have HKS := Lib.hid hks
      clear hks
      go_wp2
      go_quiet (fail)
      go_wp2_with (first
        | ((with_reducible show wpList _ _ _ (⟨some 24, _, _, _, _, _⟩ :: _) _ _); refine wpL_pushS rfl (.tmp 17) (.tmp 23) rfl w.heap.size (.slice A' k c') (noTexts k) rfl HO3.out [] (by unfold maxLen; exact Nat.zero_le _) rfl (by rw [noTexts_len]; omega) HSZ.out ?_; intro v5 w5 hown5 hg5 hv5; obtain ⟨A5, c5, rfl, _⟩ := OwnE.form hown5)
        | (go_at_call 99; refine (rbytes0_any w2 p b off n c (k + 1) H2 (by omega) hn hc (by omega)).mono ?_; rintro e w3 ⟨v3, rfl, hown3, H3, hc3⟩; have HC3 := Lib.hid hc3; have HH3 := Lib.hid H3; have HO3 := Lib.hid (OwnE.chg HO2.out hc3 (hno HO2.out) (fun _ hz => hz.elim)); have HSZ := Lib.hid (show w.heap.size ≤ w3.heap.size from Nat.le_trans (Nat.le_trans hch.size HC2.out.size) hc3.size); obtain ⟨A3, c3, rfl, hr3, _⟩ := hown3.form; rw [List.length_nil] at hr3 ⊢; have hcv := conv_str (P := Try.prog) _ _ _ Try.underlying22 Try.underlying5 Try.underlying9 w3 A3 0 c3 [] hr3; clear hc3 H3 hown3 hr3)
        | (go_at_call 105; refine (rnum1_any (wr.drewN nq) p b off n c k (HP.out.below (dN bl nq)) (hrw.out.below (dN bl nq)) hlt hn hc (by omega)).mono ?_; rintro e w2 ⟨rfl, H2, hc2⟩; have HC2 := Lib.hid ((Chg.refl (fun z => z = p) wr).drewN nq |>.trans hc2 (fun _ h => .inl h)); have HO2 := Lib.hid (OwnE.chg HO.out HC2.out (hno HO.out) (fun _ hz => hz.elim)); clear hc2)
        | fail)
      have hge : ∀ z, (Value.slice A' k c').ownBlock = some z → w.heap.size ≤ z := fun z hz => (OwnE.lt HO.out z hz).1
      have hp5 : Rdr w5 p (.slice (some ⟨b, off, none⟩) n c) ((k + 1 : Nat) : Int) n := (hg5.block p (Array.getElem?_eq_some_iff.1 HH3.out).1 (fun e => by have := hge p e.symm; omega)).trans HH3.out
      have hc5 : Chg (fun z => z = p) w w5 := ((hch.trans HC2.out (fun _ h => .inl h)).trans HC3.out (fun _ h => .inl h)).grown hg5 (fun z hz => .inr (hge z hz))
      have hl5 : (noTexts k ++ [[]]).length = k + 1 := by rw [List.length_append, noTexts_len]; rfl
      rw [hl5, ← noTexts_succ] at hown5
      rw [noTexts_len]
      go_roundw
      case rel => exact ⟨k + 1, A5, c5, rfl, hown5, hp5, by omega, hc5⟩
      case measure => simp [lenOf]; omega
    · obtain rfl : k = n := by omega
      go_wp2
      go_quiet (fail)
      go_wp2
      go_ret
      exact ⟨_, rfl, HO.out, HP.out.below (dN bl nq), hch.drewN nq⟩
end Go.Proofs.Ytjpkddmdhdmhgaa
