/- Parts of a proof, joined: There. -/
import Derived.Test.YtimkdpkhdbiniaaZDX7a
import Derived.Test.YtimkdpkhdbiniaaZDM05
import Derived.Test.YtimkdpkhdbiniaaZDM03
/- The law's there: a record that is among others is found (printed by gen/there.py). -/
namespace Go.Proofs.Ytimkdpkhdbiniaa
open Go.RowKit
set_option maxRecDepth 100000
set_option linter.unusedVariables false

set_option maxHeartbeats 8000000 in
theorem there_any (A A' : Option Addr) (n c n' c' : Nat) (l : List RR) (ns : List (List UInt8)) (kind : Int) (sd : DS) (d : Da) (w : World) (h : RdE encRR w A n l) (hns : RdE encS w A' n' ns) (hn : n ≤ 1000000000) (hn' : n' ≤ maxLen) (hd : DRd w sd d) (j : Nat) (r : RR) (hj : l[j]? = some r) (h1 : r.cls = 1) (h2 : r.type = kind) (h3 : lowN r.name = lowN ns) (h4 : sameD r.data d = true) :
    Calls Try.prog 36 #[.slice A n c, .slice A' n' c', .int .i64 kind, dsV sd d] w (RetP (fun v _ => v = .bool true) w) := by
  have hl := h.len
  subst hl
  have hjl : j < l.length := (List.getElem?_eq_some_iff.1 hj).1
  obtain ⟨w1, hw1⟩ : ∃ w1, w1 = w.alloc (.cells #[.slice sd.A0 d.bytes.length sd.c0, .slice sd.A1 d.host.length sd.c1, .slice sd.A2 d.mail.length sd.c2, .slice sd.A3 d.nums.length sd.c3, .slice sd.A4 d.texts.length sd.c4] 46) := ⟨_, rfl⟩
  have hb1 : Below w.heap.size w w1 := by rw [hw1]; exact bl.alloc (Nat.le_refl _) _
  have HB1 := Lib.hid hb1
  have BX : Hid (DBox w1 w.heap.size sd d) := by show DBox _ _ _ _; rw [hw1]; exact DBox.made w sd d _
  have H := Lib.hid h
  have HN := Lib.hid hns
  have HD := Lib.hid hd
  have HNL := Lib.hid hn'
  have HJ := Lib.hid hj
  have HJL := Lib.hid hjl
  have HR : Hid (r.cls = 1 ∧ r.type = kind ∧ lowN r.name = lowN ns ∧ sameD r.data d = true) := ⟨h1, h2, h3, h4⟩
  obtain ⟨q, hq⟩ : ∃ q, q = w.heap.size := ⟨_, rfl⟩
  rw [← hq] at BX
  have HQ := Lib.hid hq
  unfold dsV
  clear h hns hd hn' hj hjl h1 h2 h3 h4 hb1
  go_enter Try.func36, Try.ntmps36
  go_upto_region 1 with (fail)
  rw [← hw1]
  clear hw1
  rw [← hq]
  clear hq
  go_upto_region 2 with (fail)
  go_loopw [9] (fun iv wr => ∃ k : Nat, iv = .int .i64 (k : Int) ∧ k ≤ j ∧ Hid (Below w1.heap.size w1 wr)) (fun iv _ => l.length - (intOf iv).toNat)
  case atStart => exact ⟨0, rfl, Nat.zero_le _, bl⟩
  case round =>
    obtain ⟨k, rfl, hk, HBW⟩ := hrel
    have hlt : k < l.length := Nat.lt_of_le_of_lt hk HJL.out
    have hlt' : (k : Int) < (l.length : Int) := by omega
    obtain ⟨x, hx⟩ : ∃ x, l[k]? = some x := ⟨_, List.getElem?_eq_getElem hlt⟩
    obtain ⟨b, off, s, rfl, hb0, hri, hrc⟩ := rr_at H.out hx
    have HBW2 : Hid (Below w.heap.size w wr.drew) := nx (nx HB1.out HBW.out) bl.drew
    have HRC := Lib.hid (hrc.below HBW2.out)
    have HRI := Lib.hid (hri.below HBW2.out (fun b hb => hb))
    have HLS : Hid (∀ b, ltS w b → b < wr.drew.heap.size) := fun b (hb : b < w.heap.size) => Nat.lt_of_lt_of_le hb HBW2.out.size
    have HX : Hid (k = j → x = r) := fun e => by subst e; exact Option.some.inj (hx.symm.trans HJ.out)
    have hS2 : RCells wr.drew b (off + k * 9) s x ∧ DBox wr.drew q sd d := ⟨HRC.out, BX.out.below (nx HBW.out bl.drew)⟩
    clear hx hb0 hri hrc
    go_wp2
    by_cases hc : x.cls = 1
    rotate_left
    · have hc' : (x.cls == 1) = false := by simp [hc]
      have hne : k ≠ j := fun e => by have h0 := HX.out e; subst h0; exact hc HR.out.1
      refine wp_region_any (by kernel_rfl) ?_
      change wpAny _ _ _ _ _ _ _ (World.drew wr)
      refine wpAny_of_P (S := fun W => RCells W b (off + k * 9) s x ∧ DBox W q sd d) (dem := fun _ => true) _ _ _ _ ?_
      refine wpAnyP_take (i := 0) (v := .slice (some ⟨b, off, none⟩) l.length c) rfl (by kernel_rfl) (by kernel_rfl) (by kernel_rfl) (by kernel_rfl) (by kernel_rfl) (fun _ _ _ h => h) (Or.inl ⟨by kernel_rfl, by (intro W hW; go_simp)⟩) hS2 ?_
      refine wpAnyP_take (i := 1) (v := .int .i64 (k : Int)) rfl (by kernel_rfl) (by kernel_rfl) (by kernel_rfl) (by kernel_rfl) (by kernel_rfl) (fun _ _ _ h => h) (Or.inl ⟨by kernel_rfl, by (intro W hW; go_simp)⟩) hS2 ?_
      refine wpAnyP_take (i := 2) (v := .pointer (some ⟨b, off + k * 9, none⟩)) rfl (by kernel_rfl) (by kernel_rfl) (by kernel_rfl) (by kernel_rfl) (by kernel_rfl) (fun _ _ _ h => h) (Or.inl ⟨by kernel_rfl, by (intro W hW; go_simp)⟩) hS2 ?_
      refine wpAnyP_take (i := 3) (v := .pointer (some ⟨b, off + k * 9 + 2, none⟩)) rfl (by kernel_rfl) (by kernel_rfl) (by kernel_rfl) (by kernel_rfl) (by kernel_rfl) (fun _ _ _ h => h) (Or.inl ⟨by kernel_rfl, by (intro W hW; go_simp)⟩) hS2 ?_
      refine wpAnyP_take (i := 4) (v := .int .i64 x.cls) rfl (by kernel_rfl) (by kernel_rfl) (by kernel_rfl) (by kernel_rfl) (by kernel_rfl) (fun _ _ _ h => h) (Or.inl ⟨by kernel_rfl, by (intro W hW; have c0 := hW.1; obtain ⟨x0, x1, x2, x3, x4, x5, x6, x7, x8⟩ := c0; go_simp)⟩) hS2 ?_
      refine wpAnyP_take (i := 5) (v := .bool false) rfl (by kernel_rfl) (by kernel_rfl) (by kernel_rfl) (by kernel_rfl) (by kernel_rfl) (fun _ _ _ h => h) (Or.inl ⟨by kernel_rfl, by (intro W hW; go_simp)⟩) hS2 ?_
      refine wpAnyP_take (i := 6) (v := .bool false) rfl (by kernel_rfl) (by kernel_rfl) (by kernel_rfl) (by kernel_rfl) (by kernel_rfl) (fun _ _ _ h => h) (Or.inl ⟨by kernel_rfl, by (intro W hW; go_simp)⟩) hS2 ?_
      refine wpAnyP_take (i := 7) (v := undef) rfl (by kernel_rfl) (by kernel_rfl) (by kernel_rfl) (by kernel_rfl) (by kernel_rfl) (fun _ _ _ h => h) (Or.inr ⟨by kernel_rfl, rfl⟩) hS2 ?_
      refine wpAnyP_take (i := 8) (v := undef) rfl (by kernel_rfl) (by kernel_rfl) (by kernel_rfl) (by kernel_rfl) (by kernel_rfl) (fun _ _ _ h => h) (Or.inr ⟨by kernel_rfl, rfl⟩) hS2 ?_
      refine wpAnyP_take (i := 9) (v := undef) rfl (by kernel_rfl) (by kernel_rfl) (by kernel_rfl) (by kernel_rfl) (by kernel_rfl) (fun _ _ _ h => h) (Or.inr ⟨by kernel_rfl, rfl⟩) hS2 ?_
      refine wpAnyP_take (i := 10) (v := undef) rfl (by kernel_rfl) (by kernel_rfl) (by kernel_rfl) (by kernel_rfl) (by kernel_rfl) (fun _ _ _ h => h) (Or.inr ⟨by kernel_rfl, rfl⟩) hS2 ?_
      refine wpAnyP_take (i := 11) (v := undef) rfl (by kernel_rfl) (by kernel_rfl) (by kernel_rfl) (by kernel_rfl) (by kernel_rfl) (fun _ _ _ h => h) (Or.inr ⟨by kernel_rfl, rfl⟩) hS2 ?_
      refine wpAnyP_take (i := 12) (v := undef) rfl (by kernel_rfl) (by kernel_rfl) (by kernel_rfl) (by kernel_rfl) (by kernel_rfl) (fun _ _ _ h => h) (Or.inr ⟨by kernel_rfl, rfl⟩) hS2 ?_
      refine wpAnyP_take (i := 13) (v := undef) rfl (by kernel_rfl) (by kernel_rfl) (by kernel_rfl) (by kernel_rfl) (by kernel_rfl) (fun _ _ _ h => h) (Or.inr ⟨by kernel_rfl, rfl⟩) hS2 ?_
      refine wpAnyP_take (i := 14) (v := .bool false) rfl (by kernel_rfl) (by kernel_rfl) (by kernel_rfl) (by kernel_rfl) (by kernel_rfl) (fun _ _ _ h => h) (Or.inl ⟨by kernel_rfl, by (intro W hW; go_simp)⟩) hS2 ?_
      refine wpAnyP_take (i := 15) (v := .bool false) rfl (by kernel_rfl) (by kernel_rfl) (by kernel_rfl) (by kernel_rfl) (by kernel_rfl) (fun _ _ _ h => h) (Or.inl ⟨by kernel_rfl, by (intro W hW; go_simp)⟩) hS2 ?_
      refine wpAnyP_take (i := 16) (v := undef) rfl (by kernel_rfl) (by kernel_rfl) (by kernel_rfl) (by kernel_rfl) (by kernel_rfl) (fun _ _ _ h => h) (Or.inr ⟨by kernel_rfl, rfl⟩) hS2 ?_
      refine wpAnyP_take (i := 17) (v := undef) rfl (by kernel_rfl) (by kernel_rfl) (by kernel_rfl) (by kernel_rfl) (by kernel_rfl) (fun _ _ _ h => h) (Or.inr ⟨by kernel_rfl, rfl⟩) hS2 ?_
      refine wpAnyP_take (i := 18) (v := undef) rfl (by kernel_rfl) (by kernel_rfl) (by kernel_rfl) (by kernel_rfl) (by kernel_rfl) (fun _ _ _ h => h) (Or.inr ⟨by kernel_rfl, rfl⟩) hS2 ?_
      refine wpAnyP_take (i := 19) (v := undef) rfl (by kernel_rfl) (by kernel_rfl) (by kernel_rfl) (by kernel_rfl) (by kernel_rfl) (fun _ _ _ h => h) (Or.inr ⟨by kernel_rfl, rfl⟩) hS2 ?_
      refine wpAnyP_take (i := 20) (v := undef) rfl (by kernel_rfl) (by kernel_rfl) (by kernel_rfl) (by kernel_rfl) (by kernel_rfl) (fun _ _ _ h => h) (Or.inr ⟨by kernel_rfl, rfl⟩) hS2 ?_
      refine wpAnyP_take (i := 21) (v := undef) rfl (by kernel_rfl) (by kernel_rfl) (by kernel_rfl) (by kernel_rfl) (by kernel_rfl) (fun _ _ _ h => h) (Or.inr ⟨by kernel_rfl, rfl⟩) hS2 ?_
      refine wpAnyP_take (i := 22) (v := undef) rfl (by kernel_rfl) (by kernel_rfl) (by kernel_rfl) (by kernel_rfl) (by kernel_rfl) (fun _ _ _ h => h) (Or.inr ⟨by kernel_rfl, rfl⟩) hS2 ?_
      refine wpAnyP_take (i := 23) (v := .bool false) rfl (by kernel_rfl) (by kernel_rfl) (by kernel_rfl) (by kernel_rfl) (by kernel_rfl) (fun _ _ _ h => h) (Or.inl ⟨by kernel_rfl, by (intro W hW; go_simp)⟩) hS2 ?_
      refine wpAnyP_take (i := 24) (v := .bool false) rfl (by kernel_rfl) (by kernel_rfl) (by kernel_rfl) (by kernel_rfl) (by kernel_rfl) (fun _ _ _ h => h) (Or.inl ⟨by kernel_rfl, by (intro W hW; go_simp)⟩) hS2 ?_
      refine wpAnyP_take (i := 25) (v := undef) rfl (by kernel_rfl) (by kernel_rfl) (by kernel_rfl) (by kernel_rfl) (by kernel_rfl) (fun _ _ _ h => h) (Or.inr ⟨by kernel_rfl, rfl⟩) hS2 ?_
      refine wpAnyP_take (i := 26) (v := undef) rfl (by kernel_rfl) (by kernel_rfl) (by kernel_rfl) (by kernel_rfl) (by kernel_rfl) (fun _ _ _ h => h) (Or.inr ⟨by kernel_rfl, rfl⟩) hS2 ?_
      refine wpAnyP_take (i := 27) (v := undef) rfl (by kernel_rfl) (by kernel_rfl) (by kernel_rfl) (by kernel_rfl) (by kernel_rfl) (fun _ _ _ h => h) (Or.inr ⟨by kernel_rfl, rfl⟩) hS2 ?_
      refine wpAnyP_take (i := 28) (v := undef) rfl (by kernel_rfl) (by kernel_rfl) (by kernel_rfl) (by kernel_rfl) (by kernel_rfl) (fun _ _ _ h => h) (Or.inr ⟨by kernel_rfl, rfl⟩) hS2 ?_
      refine wpAnyP_take (i := 29) (v := undef) rfl (by kernel_rfl) (by kernel_rfl) (by kernel_rfl) (by kernel_rfl) (by kernel_rfl) (fun _ _ _ h => h) (Or.inr ⟨by kernel_rfl, rfl⟩) hS2 ?_
      refine wpAnyP_take (i := 30) (v := undef) rfl (by kernel_rfl) (by kernel_rfl) (by kernel_rfl) (by kernel_rfl) (by kernel_rfl) (fun _ _ _ h => h) (Or.inr ⟨by kernel_rfl, rfl⟩) hS2 ?_
      refine wpAnyP_take (i := 31) (v := undef) rfl (by kernel_rfl) (by kernel_rfl) (by kernel_rfl) (by kernel_rfl) (by kernel_rfl) (fun _ _ _ h => h) (Or.inr ⟨by kernel_rfl, rfl⟩) hS2 ?_
      refine wpAnyP_one (i := 32) rfl (by kernel_rfl) fun K hK => ?_
      go_simp
      refine hK _ _ (fun h => absurd h (by rw [show needS _ _ _ = false from by kernel_rfl]; decide)) ?_
      clear hK
      refine wpAnyP_done (by kernel_rfl) ?_ _
      go_wp2
      go_roundw
      case rel => exact ⟨k + 1, by go_num, by omega, nx HBW.out bl.drew⟩
      case measure => simp [intOf]; omega
    have hc' : (x.cls == 1) = true := by simp [hc]
    by_cases ht : x.type = kind
    rotate_left
    · have ht' : (x.type == kind) = false := by simp [ht]
      have hne : k ≠ j := fun e => by have h0 := HX.out e; subst h0; exact ht HR.out.2.1
      refine wp_region_any (by kernel_rfl) ?_
      change wpAny _ _ _ _ _ _ _ (World.drew wr)
      refine wpAny_of_P (S := fun W => RCells W b (off + k * 9) s x ∧ DBox W q sd d) (dem := fun _ => true) _ _ _ _ ?_
      refine wpAnyP_take (i := 0) (v := .slice (some ⟨b, off, none⟩) l.length c) rfl (by kernel_rfl) (by kernel_rfl) (by kernel_rfl) (by kernel_rfl) (by kernel_rfl) (fun _ _ _ h => h) (Or.inl ⟨by kernel_rfl, by (intro W hW; go_simp)⟩) hS2 ?_
      refine wpAnyP_take (i := 1) (v := .int .i64 (k : Int)) rfl (by kernel_rfl) (by kernel_rfl) (by kernel_rfl) (by kernel_rfl) (by kernel_rfl) (fun _ _ _ h => h) (Or.inl ⟨by kernel_rfl, by (intro W hW; go_simp)⟩) hS2 ?_
      refine wpAnyP_take (i := 2) (v := .pointer (some ⟨b, off + k * 9, none⟩)) rfl (by kernel_rfl) (by kernel_rfl) (by kernel_rfl) (by kernel_rfl) (by kernel_rfl) (fun _ _ _ h => h) (Or.inl ⟨by kernel_rfl, by (intro W hW; go_simp)⟩) hS2 ?_
      refine wpAnyP_take (i := 3) (v := .pointer (some ⟨b, off + k * 9 + 2, none⟩)) rfl (by kernel_rfl) (by kernel_rfl) (by kernel_rfl) (by kernel_rfl) (by kernel_rfl) (fun _ _ _ h => h) (Or.inl ⟨by kernel_rfl, by (intro W hW; go_simp)⟩) hS2 ?_
      refine wpAnyP_take (i := 4) (v := .int .i64 x.cls) rfl (by kernel_rfl) (by kernel_rfl) (by kernel_rfl) (by kernel_rfl) (by kernel_rfl) (fun _ _ _ h => h) (Or.inl ⟨by kernel_rfl, by (intro W hW; have c0 := hW.1; obtain ⟨x0, x1, x2, x3, x4, x5, x6, x7, x8⟩ := c0; go_simp)⟩) hS2 ?_
      refine wpAnyP_take (i := 5) (v := .bool true) rfl (by kernel_rfl) (by kernel_rfl) (by kernel_rfl) (by kernel_rfl) (by kernel_rfl) (fun _ _ _ h => h) (Or.inl ⟨by kernel_rfl, by (intro W hW; go_simp)⟩) hS2 ?_
      refine wpAnyP_take (i := 6) (v := .bool true) rfl (by kernel_rfl) (by kernel_rfl) (by kernel_rfl) (by kernel_rfl) (by kernel_rfl) (fun _ _ _ h => h) (Or.inl ⟨by kernel_rfl, by (intro W hW; go_simp)⟩) hS2 ?_
      refine wpAnyP_take (i := 7) (v := .slice (some ⟨b, off, none⟩) l.length c) rfl (by kernel_rfl) (by kernel_rfl) (by kernel_rfl) (by kernel_rfl) (by kernel_rfl) (fun _ _ _ h => h) (Or.inl ⟨by kernel_rfl, by (intro W hW; go_simp)⟩) hS2 ?_
      refine wpAnyP_take (i := 8) (v := .int .i64 (k : Int)) rfl (by kernel_rfl) (by kernel_rfl) (by kernel_rfl) (by kernel_rfl) (by kernel_rfl) (fun _ _ _ h => h) (Or.inl ⟨by kernel_rfl, by (intro W hW; go_simp)⟩) hS2 ?_
      refine wpAnyP_take (i := 9) (v := .pointer (some ⟨b, off + k * 9, none⟩)) rfl (by kernel_rfl) (by kernel_rfl) (by kernel_rfl) (by kernel_rfl) (by kernel_rfl) (fun _ _ _ h => h) (Or.inl ⟨by kernel_rfl, by (intro W hW; go_simp)⟩) hS2 ?_
      refine wpAnyP_take (i := 10) (v := .pointer (some ⟨b, off + k * 9 + 1, none⟩)) rfl (by kernel_rfl) (by kernel_rfl) (by kernel_rfl) (by kernel_rfl) (by kernel_rfl) (fun _ _ _ h => h) (Or.inl ⟨by kernel_rfl, by (intro W hW; go_simp)⟩) hS2 ?_
      refine wpAnyP_take (i := 11) (v := .int .i64 x.type) rfl (by kernel_rfl) (by kernel_rfl) (by kernel_rfl) (by kernel_rfl) (by kernel_rfl) (fun _ _ _ h => h) (Or.inl ⟨by kernel_rfl, by (intro W hW; have c0 := hW.1; obtain ⟨x0, x1, x2, x3, x4, x5, x6, x7, x8⟩ := c0; go_simp)⟩) hS2 ?_
      refine wpAnyP_take (i := 12) (v := .int .i64 kind) rfl (by kernel_rfl) (by kernel_rfl) (by kernel_rfl) (by kernel_rfl) (by kernel_rfl) (fun _ _ _ h => h) (Or.inl ⟨by kernel_rfl, by (intro W hW; go_simp)⟩) hS2 ?_
      refine wpAnyP_take (i := 13) (v := .bool false) rfl (by kernel_rfl) (by kernel_rfl) (by kernel_rfl) (by kernel_rfl) (by kernel_rfl) (fun _ _ _ h => h) (Or.inl ⟨by kernel_rfl, by (intro W hW; go_simp)⟩) hS2 ?_
      refine wpAnyP_take (i := 14) (v := .bool false) rfl (by kernel_rfl) (by kernel_rfl) (by kernel_rfl) (by kernel_rfl) (by kernel_rfl) (fun _ _ _ h => h) (Or.inl ⟨by kernel_rfl, by (intro W hW; go_simp)⟩) hS2 ?_
      refine wpAnyP_take (i := 15) (v := .bool false) rfl (by kernel_rfl) (by kernel_rfl) (by kernel_rfl) (by kernel_rfl) (by kernel_rfl) (fun _ _ _ h => h) (Or.inl ⟨by kernel_rfl, by (intro W hW; go_simp)⟩) hS2 ?_
      refine wpAnyP_take (i := 16) (v := undef) rfl (by kernel_rfl) (by kernel_rfl) (by kernel_rfl) (by kernel_rfl) (by kernel_rfl) (fun _ _ _ h => h) (Or.inr ⟨by kernel_rfl, rfl⟩) hS2 ?_
      refine wpAnyP_take (i := 17) (v := undef) rfl (by kernel_rfl) (by kernel_rfl) (by kernel_rfl) (by kernel_rfl) (by kernel_rfl) (fun _ _ _ h => h) (Or.inr ⟨by kernel_rfl, rfl⟩) hS2 ?_
      refine wpAnyP_take (i := 18) (v := undef) rfl (by kernel_rfl) (by kernel_rfl) (by kernel_rfl) (by kernel_rfl) (by kernel_rfl) (fun _ _ _ h => h) (Or.inr ⟨by kernel_rfl, rfl⟩) hS2 ?_
      refine wpAnyP_take (i := 19) (v := undef) rfl (by kernel_rfl) (by kernel_rfl) (by kernel_rfl) (by kernel_rfl) (by kernel_rfl) (fun _ _ _ h => h) (Or.inr ⟨by kernel_rfl, rfl⟩) hS2 ?_
      refine wpAnyP_take (i := 20) (v := undef) rfl (by kernel_rfl) (by kernel_rfl) (by kernel_rfl) (by kernel_rfl) (by kernel_rfl) (fun _ _ _ h => h) (Or.inr ⟨by kernel_rfl, rfl⟩) hS2 ?_
      refine wpAnyP_take (i := 21) (v := undef) rfl (by kernel_rfl) (by kernel_rfl) (by kernel_rfl) (by kernel_rfl) (by kernel_rfl) (fun _ _ _ h => h) (Or.inr ⟨by kernel_rfl, rfl⟩) hS2 ?_
      refine wpAnyP_take (i := 22) (v := undef) rfl (by kernel_rfl) (by kernel_rfl) (by kernel_rfl) (by kernel_rfl) (by kernel_rfl) (fun _ _ _ h => h) (Or.inr ⟨by kernel_rfl, rfl⟩) hS2 ?_
      refine wpAnyP_take (i := 23) (v := .bool false) rfl (by kernel_rfl) (by kernel_rfl) (by kernel_rfl) (by kernel_rfl) (by kernel_rfl) (fun _ _ _ h => h) (Or.inl ⟨by kernel_rfl, by (intro W hW; go_simp)⟩) hS2 ?_
      refine wpAnyP_take (i := 24) (v := .bool false) rfl (by kernel_rfl) (by kernel_rfl) (by kernel_rfl) (by kernel_rfl) (by kernel_rfl) (fun _ _ _ h => h) (Or.inl ⟨by kernel_rfl, by (intro W hW; go_simp)⟩) hS2 ?_
      refine wpAnyP_take (i := 25) (v := undef) rfl (by kernel_rfl) (by kernel_rfl) (by kernel_rfl) (by kernel_rfl) (by kernel_rfl) (fun _ _ _ h => h) (Or.inr ⟨by kernel_rfl, rfl⟩) hS2 ?_
      refine wpAnyP_take (i := 26) (v := undef) rfl (by kernel_rfl) (by kernel_rfl) (by kernel_rfl) (by kernel_rfl) (by kernel_rfl) (fun _ _ _ h => h) (Or.inr ⟨by kernel_rfl, rfl⟩) hS2 ?_
      refine wpAnyP_take (i := 27) (v := undef) rfl (by kernel_rfl) (by kernel_rfl) (by kernel_rfl) (by kernel_rfl) (by kernel_rfl) (fun _ _ _ h => h) (Or.inr ⟨by kernel_rfl, rfl⟩) hS2 ?_
      refine wpAnyP_take (i := 28) (v := undef) rfl (by kernel_rfl) (by kernel_rfl) (by kernel_rfl) (by kernel_rfl) (by kernel_rfl) (fun _ _ _ h => h) (Or.inr ⟨by kernel_rfl, rfl⟩) hS2 ?_
      refine wpAnyP_take (i := 29) (v := undef) rfl (by kernel_rfl) (by kernel_rfl) (by kernel_rfl) (by kernel_rfl) (by kernel_rfl) (fun _ _ _ h => h) (Or.inr ⟨by kernel_rfl, rfl⟩) hS2 ?_
      refine wpAnyP_take (i := 30) (v := undef) rfl (by kernel_rfl) (by kernel_rfl) (by kernel_rfl) (by kernel_rfl) (by kernel_rfl) (fun _ _ _ h => h) (Or.inr ⟨by kernel_rfl, rfl⟩) hS2 ?_
      refine wpAnyP_take (i := 31) (v := undef) rfl (by kernel_rfl) (by kernel_rfl) (by kernel_rfl) (by kernel_rfl) (by kernel_rfl) (fun _ _ _ h => h) (Or.inr ⟨by kernel_rfl, rfl⟩) hS2 ?_
      refine wpAnyP_one (i := 32) rfl (by kernel_rfl) fun K hK => ?_
      go_simp
      refine hK _ _ (fun h => absurd h (by rw [show needS _ _ _ = false from by kernel_rfl]; decide)) ?_
      clear hK
      refine wpAnyP_done (by kernel_rfl) ?_ _
      go_wp2
      go_roundw
      case rel => exact ⟨k + 1, by go_num, by omega, nx HBW.out bl.drew⟩
      case measure => simp [intOf]; omega
    have ht' : (x.type == kind) = true := by simp [ht]
    have HEQ := Lib.hid (requal_any s.A A' x.name.length s.c n' c' x.name ns wr.drew (HRI.out.n.mono HLS.out HLS.out) (RdE.below HN.out HBW2.out) (Nat.le_trans HRI.out.cn.1 HRI.out.cn.2) HNL.out)
    by_cases he : lowN x.name = lowN ns
    rotate_left
    · rw [decide_eq_false he] at HEQ
      have hne : k ≠ j := fun e => by have h0 := HX.out e; subst h0; exact he HR.out.2.2.1
      clear he
      refine wp_region_any (by kernel_rfl) ?_
      change wpAny _ _ _ _ _ _ _ (World.drew wr)
      refine wpAny_of_P (S := fun W => RCells W b (off + k * 9) s x ∧ DBox W q sd d) (dem := fun _ => true) _ _ _ _ ?_
      refine wpAnyP_take (i := 0) (v := .slice (some ⟨b, off, none⟩) l.length c) rfl (by kernel_rfl) (by kernel_rfl) (by kernel_rfl) (by kernel_rfl) (by kernel_rfl) (fun _ _ _ h => h) (Or.inl ⟨by kernel_rfl, by (intro W hW; go_simp)⟩) hS2 ?_
      refine wpAnyP_take (i := 1) (v := .int .i64 (k : Int)) rfl (by kernel_rfl) (by kernel_rfl) (by kernel_rfl) (by kernel_rfl) (by kernel_rfl) (fun _ _ _ h => h) (Or.inl ⟨by kernel_rfl, by (intro W hW; go_simp)⟩) hS2 ?_
      refine wpAnyP_take (i := 2) (v := .pointer (some ⟨b, off + k * 9, none⟩)) rfl (by kernel_rfl) (by kernel_rfl) (by kernel_rfl) (by kernel_rfl) (by kernel_rfl) (fun _ _ _ h => h) (Or.inl ⟨by kernel_rfl, by (intro W hW; go_simp)⟩) hS2 ?_
      refine wpAnyP_take (i := 3) (v := .pointer (some ⟨b, off + k * 9 + 2, none⟩)) rfl (by kernel_rfl) (by kernel_rfl) (by kernel_rfl) (by kernel_rfl) (by kernel_rfl) (fun _ _ _ h => h) (Or.inl ⟨by kernel_rfl, by (intro W hW; go_simp)⟩) hS2 ?_
      refine wpAnyP_take (i := 4) (v := .int .i64 x.cls) rfl (by kernel_rfl) (by kernel_rfl) (by kernel_rfl) (by kernel_rfl) (by kernel_rfl) (fun _ _ _ h => h) (Or.inl ⟨by kernel_rfl, by (intro W hW; have c0 := hW.1; obtain ⟨x0, x1, x2, x3, x4, x5, x6, x7, x8⟩ := c0; go_simp)⟩) hS2 ?_
      refine wpAnyP_take (i := 5) (v := .bool true) rfl (by kernel_rfl) (by kernel_rfl) (by kernel_rfl) (by kernel_rfl) (by kernel_rfl) (fun _ _ _ h => h) (Or.inl ⟨by kernel_rfl, by (intro W hW; go_simp)⟩) hS2 ?_
      refine wpAnyP_take (i := 6) (v := .bool true) rfl (by kernel_rfl) (by kernel_rfl) (by kernel_rfl) (by kernel_rfl) (by kernel_rfl) (fun _ _ _ h => h) (Or.inl ⟨by kernel_rfl, by (intro W hW; go_simp)⟩) hS2 ?_
      refine wpAnyP_take (i := 7) (v := .slice (some ⟨b, off, none⟩) l.length c) rfl (by kernel_rfl) (by kernel_rfl) (by kernel_rfl) (by kernel_rfl) (by kernel_rfl) (fun _ _ _ h => h) (Or.inl ⟨by kernel_rfl, by (intro W hW; go_simp)⟩) hS2 ?_
      refine wpAnyP_take (i := 8) (v := .int .i64 (k : Int)) rfl (by kernel_rfl) (by kernel_rfl) (by kernel_rfl) (by kernel_rfl) (by kernel_rfl) (fun _ _ _ h => h) (Or.inl ⟨by kernel_rfl, by (intro W hW; go_simp)⟩) hS2 ?_
      refine wpAnyP_take (i := 9) (v := .pointer (some ⟨b, off + k * 9, none⟩)) rfl (by kernel_rfl) (by kernel_rfl) (by kernel_rfl) (by kernel_rfl) (by kernel_rfl) (fun _ _ _ h => h) (Or.inl ⟨by kernel_rfl, by (intro W hW; go_simp)⟩) hS2 ?_
      refine wpAnyP_take (i := 10) (v := .pointer (some ⟨b, off + k * 9 + 1, none⟩)) rfl (by kernel_rfl) (by kernel_rfl) (by kernel_rfl) (by kernel_rfl) (by kernel_rfl) (fun _ _ _ h => h) (Or.inl ⟨by kernel_rfl, by (intro W hW; go_simp)⟩) hS2 ?_
      refine wpAnyP_take (i := 11) (v := .int .i64 x.type) rfl (by kernel_rfl) (by kernel_rfl) (by kernel_rfl) (by kernel_rfl) (by kernel_rfl) (fun _ _ _ h => h) (Or.inl ⟨by kernel_rfl, by (intro W hW; have c0 := hW.1; obtain ⟨x0, x1, x2, x3, x4, x5, x6, x7, x8⟩ := c0; go_simp)⟩) hS2 ?_
      refine wpAnyP_take (i := 12) (v := .int .i64 kind) rfl (by kernel_rfl) (by kernel_rfl) (by kernel_rfl) (by kernel_rfl) (by kernel_rfl) (fun _ _ _ h => h) (Or.inl ⟨by kernel_rfl, by (intro W hW; go_simp)⟩) hS2 ?_
      refine wpAnyP_take (i := 13) (v := .bool true) rfl (by kernel_rfl) (by kernel_rfl) (by kernel_rfl) (by kernel_rfl) (by kernel_rfl) (fun _ _ _ h => h) (Or.inl ⟨by kernel_rfl, by (intro W hW; go_simp)⟩) hS2 ?_
      refine wpAnyP_take (i := 14) (v := .bool true) rfl (by kernel_rfl) (by kernel_rfl) (by kernel_rfl) (by kernel_rfl) (by kernel_rfl) (fun _ _ _ h => h) (Or.inl ⟨by kernel_rfl, by (intro W hW; go_simp)⟩) hS2 ?_
      refine wpAnyP_take (i := 15) (v := .bool true) rfl (by kernel_rfl) (by kernel_rfl) (by kernel_rfl) (by kernel_rfl) (by kernel_rfl) (fun _ _ _ h => h) (Or.inl ⟨by kernel_rfl, by (intro W hW; go_simp)⟩) hS2 ?_
      refine wpAnyP_take (i := 16) (v := .slice (some ⟨b, off, none⟩) l.length c) rfl (by kernel_rfl) (by kernel_rfl) (by kernel_rfl) (by kernel_rfl) (by kernel_rfl) (fun _ _ _ h => h) (Or.inl ⟨by kernel_rfl, by (intro W hW; go_simp)⟩) hS2 ?_
      refine wpAnyP_take (i := 17) (v := .int .i64 (k : Int)) rfl (by kernel_rfl) (by kernel_rfl) (by kernel_rfl) (by kernel_rfl) (by kernel_rfl) (fun _ _ _ h => h) (Or.inl ⟨by kernel_rfl, by (intro W hW; go_simp)⟩) hS2 ?_
      refine wpAnyP_take (i := 18) (v := .pointer (some ⟨b, off + k * 9, none⟩)) rfl (by kernel_rfl) (by kernel_rfl) (by kernel_rfl) (by kernel_rfl) (by kernel_rfl) (fun _ _ _ h => h) (Or.inl ⟨by kernel_rfl, by (intro W hW; go_simp)⟩) hS2 ?_
      refine wpAnyP_take (i := 19) (v := .pointer (some ⟨b, off + k * 9, none⟩)) rfl (by kernel_rfl) (by kernel_rfl) (by kernel_rfl) (by kernel_rfl) (by kernel_rfl) (fun _ _ _ h => h) (Or.inl ⟨by kernel_rfl, by (intro W hW; go_simp)⟩) hS2 ?_
      refine wpAnyP_take (i := 20) (v := .slice s.A x.name.length s.c) rfl (by kernel_rfl) (by kernel_rfl) (by kernel_rfl) (by kernel_rfl) (by kernel_rfl) (fun _ _ _ h => h) (Or.inl ⟨by kernel_rfl, by (intro W hW; have c0 := hW.1; obtain ⟨x0, x1, x2, x3, x4, x5, x6, x7, x8⟩ := c0; go_simp)⟩) hS2 ?_
      refine wpAnyP_take (i := 21) (v := .slice A' n' c') rfl (by kernel_rfl) (by kernel_rfl) (by kernel_rfl) (by kernel_rfl) (by kernel_rfl) (fun _ _ _ h => h) (Or.inl ⟨by kernel_rfl, by (intro W hW; go_simp)⟩) hS2 ?_
      refine wpAnyP_one (i := 22) rfl (by kernel_rfl) fun K hK => ?_
      go_simp
      refine HEQ.out.mono ?_
      rintro e w3 ⟨v3, rfl, rfl, hb3⟩
      have HB3 : Hid (Below wr.drew.heap.size wr.drew w3) := hb3
      clear hb3
      have hS3 : RCells w3 b (off + k * 9) s x ∧ DBox w3 q sd d := ⟨RCells.below (w := wr.drew) hS2.1 HB3.out, DBox.below (w := wr.drew) hS2.2 HB3.out⟩
      refine hK _ _ (fun _ => hS3) ?_
      clear hK
      refine wpAnyP_take (i := 23) (v := .bool false) rfl (by kernel_rfl) (by kernel_rfl) (by kernel_rfl) (by kernel_rfl) (by kernel_rfl) (fun _ _ _ h => h) (Or.inl ⟨by kernel_rfl, by (intro W hW; go_simp)⟩) hS3 ?_
      refine wpAnyP_take (i := 24) (v := .bool false) rfl (by kernel_rfl) (by kernel_rfl) (by kernel_rfl) (by kernel_rfl) (by kernel_rfl) (fun _ _ _ h => h) (Or.inl ⟨by kernel_rfl, by (intro W hW; go_simp)⟩) hS3 ?_
      refine wpAnyP_take (i := 25) (v := undef) rfl (by kernel_rfl) (by kernel_rfl) (by kernel_rfl) (by kernel_rfl) (by kernel_rfl) (fun _ _ _ h => h) (Or.inr ⟨by kernel_rfl, rfl⟩) hS3 ?_
      refine wpAnyP_take (i := 26) (v := undef) rfl (by kernel_rfl) (by kernel_rfl) (by kernel_rfl) (by kernel_rfl) (by kernel_rfl) (fun _ _ _ h => h) (Or.inr ⟨by kernel_rfl, rfl⟩) hS3 ?_
      refine wpAnyP_take (i := 27) (v := undef) rfl (by kernel_rfl) (by kernel_rfl) (by kernel_rfl) (by kernel_rfl) (by kernel_rfl) (fun _ _ _ h => h) (Or.inr ⟨by kernel_rfl, rfl⟩) hS3 ?_
      refine wpAnyP_take (i := 28) (v := undef) rfl (by kernel_rfl) (by kernel_rfl) (by kernel_rfl) (by kernel_rfl) (by kernel_rfl) (fun _ _ _ h => h) (Or.inr ⟨by kernel_rfl, rfl⟩) hS3 ?_
      refine wpAnyP_take (i := 29) (v := undef) rfl (by kernel_rfl) (by kernel_rfl) (by kernel_rfl) (by kernel_rfl) (by kernel_rfl) (fun _ _ _ h => h) (Or.inr ⟨by kernel_rfl, rfl⟩) hS3 ?_
      refine wpAnyP_take (i := 30) (v := undef) rfl (by kernel_rfl) (by kernel_rfl) (by kernel_rfl) (by kernel_rfl) (by kernel_rfl) (fun _ _ _ h => h) (Or.inr ⟨by kernel_rfl, rfl⟩) hS3 ?_
      refine wpAnyP_take (i := 31) (v := undef) rfl (by kernel_rfl) (by kernel_rfl) (by kernel_rfl) (by kernel_rfl) (by kernel_rfl) (fun _ _ _ h => h) (Or.inr ⟨by kernel_rfl, rfl⟩) hS3 ?_
      refine wpAnyP_one (i := 32) rfl (by kernel_rfl) fun K hK => ?_
      go_simp
      refine hK _ _ (fun h => absurd h (by rw [show needS _ _ _ = false from by kernel_rfl]; decide)) ?_
      clear hK
      refine wpAnyP_done (by kernel_rfl) ?_ _
      go_wp2
      go_roundw
      case rel => exact ⟨k + 1, by go_num, by omega, nx (nx HBW.out bl.drew) HB3.out⟩
      case measure => simp [intOf]; omega
    rw [decide_eq_true he] at HEQ
    clear he
    refine wp_region_any (by kernel_rfl) ?_
    change wpAny _ _ _ _ _ _ _ (World.drew wr)
    refine wpAny_of_P (S := fun W => RCells W b (off + k * 9) s x ∧ DBox W q sd d) (dem := fun _ => true) _ _ _ _ ?_
    refine wpAnyP_take (i := 0) (v := .slice (some ⟨b, off, none⟩) l.length c) rfl (by kernel_rfl) (by kernel_rfl) (by kernel_rfl) (by kernel_rfl) (by kernel_rfl) (fun _ _ _ h => h) (Or.inl ⟨by kernel_rfl, by (intro W hW; go_simp)⟩) hS2 ?_
    refine wpAnyP_take (i := 1) (v := .int .i64 (k : Int)) rfl (by kernel_rfl) (by kernel_rfl) (by kernel_rfl) (by kernel_rfl) (by kernel_rfl) (fun _ _ _ h => h) (Or.inl ⟨by kernel_rfl, by (intro W hW; go_simp)⟩) hS2 ?_
    refine wpAnyP_take (i := 2) (v := .pointer (some ⟨b, off + k * 9, none⟩)) rfl (by kernel_rfl) (by kernel_rfl) (by kernel_rfl) (by kernel_rfl) (by kernel_rfl) (fun _ _ _ h => h) (Or.inl ⟨by kernel_rfl, by (intro W hW; go_simp)⟩) hS2 ?_
    refine wpAnyP_take (i := 3) (v := .pointer (some ⟨b, off + k * 9 + 2, none⟩)) rfl (by kernel_rfl) (by kernel_rfl) (by kernel_rfl) (by kernel_rfl) (by kernel_rfl) (fun _ _ _ h => h) (Or.inl ⟨by kernel_rfl, by (intro W hW; go_simp)⟩) hS2 ?_
    refine wpAnyP_take (i := 4) (v := .int .i64 x.cls) rfl (by kernel_rfl) (by kernel_rfl) (by kernel_rfl) (by kernel_rfl) (by kernel_rfl) (fun _ _ _ h => h) (Or.inl ⟨by kernel_rfl, by (intro W hW; have c0 := hW.1; obtain ⟨x0, x1, x2, x3, x4, x5, x6, x7, x8⟩ := c0; go_simp)⟩) hS2 ?_
    refine wpAnyP_take (i := 5) (v := .bool true) rfl (by kernel_rfl) (by kernel_rfl) (by kernel_rfl) (by kernel_rfl) (by kernel_rfl) (fun _ _ _ h => h) (Or.inl ⟨by kernel_rfl, by (intro W hW; go_simp)⟩) hS2 ?_
    refine wpAnyP_take (i := 6) (v := .bool true) rfl (by kernel_rfl) (by kernel_rfl) (by kernel_rfl) (by kernel_rfl) (by kernel_rfl) (fun _ _ _ h => h) (Or.inl ⟨by kernel_rfl, by (intro W hW; go_simp)⟩) hS2 ?_
    refine wpAnyP_take (i := 7) (v := .slice (some ⟨b, off, none⟩) l.length c) rfl (by kernel_rfl) (by kernel_rfl) (by kernel_rfl) (by kernel_rfl) (by kernel_rfl) (fun _ _ _ h => h) (Or.inl ⟨by kernel_rfl, by (intro W hW; go_simp)⟩) hS2 ?_
    refine wpAnyP_take (i := 8) (v := .int .i64 (k : Int)) rfl (by kernel_rfl) (by kernel_rfl) (by kernel_rfl) (by kernel_rfl) (by kernel_rfl) (fun _ _ _ h => h) (Or.inl ⟨by kernel_rfl, by (intro W hW; go_simp)⟩) hS2 ?_
    refine wpAnyP_take (i := 9) (v := .pointer (some ⟨b, off + k * 9, none⟩)) rfl (by kernel_rfl) (by kernel_rfl) (by kernel_rfl) (by kernel_rfl) (by kernel_rfl) (fun _ _ _ h => h) (Or.inl ⟨by kernel_rfl, by (intro W hW; go_simp)⟩) hS2 ?_
    refine wpAnyP_take (i := 10) (v := .pointer (some ⟨b, off + k * 9 + 1, none⟩)) rfl (by kernel_rfl) (by kernel_rfl) (by kernel_rfl) (by kernel_rfl) (by kernel_rfl) (fun _ _ _ h => h) (Or.inl ⟨by kernel_rfl, by (intro W hW; go_simp)⟩) hS2 ?_
    refine wpAnyP_take (i := 11) (v := .int .i64 x.type) rfl (by kernel_rfl) (by kernel_rfl) (by kernel_rfl) (by kernel_rfl) (by kernel_rfl) (fun _ _ _ h => h) (Or.inl ⟨by kernel_rfl, by (intro W hW; have c0 := hW.1; obtain ⟨x0, x1, x2, x3, x4, x5, x6, x7, x8⟩ := c0; go_simp)⟩) hS2 ?_
    refine wpAnyP_take (i := 12) (v := .int .i64 kind) rfl (by kernel_rfl) (by kernel_rfl) (by kernel_rfl) (by kernel_rfl) (by kernel_rfl) (fun _ _ _ h => h) (Or.inl ⟨by kernel_rfl, by (intro W hW; go_simp)⟩) hS2 ?_
    refine wpAnyP_take (i := 13) (v := .bool true) rfl (by kernel_rfl) (by kernel_rfl) (by kernel_rfl) (by kernel_rfl) (by kernel_rfl) (fun _ _ _ h => h) (Or.inl ⟨by kernel_rfl, by (intro W hW; go_simp)⟩) hS2 ?_
    refine wpAnyP_take (i := 14) (v := .bool true) rfl (by kernel_rfl) (by kernel_rfl) (by kernel_rfl) (by kernel_rfl) (by kernel_rfl) (fun _ _ _ h => h) (Or.inl ⟨by kernel_rfl, by (intro W hW; go_simp)⟩) hS2 ?_
    refine wpAnyP_take (i := 15) (v := .bool true) rfl (by kernel_rfl) (by kernel_rfl) (by kernel_rfl) (by kernel_rfl) (by kernel_rfl) (fun _ _ _ h => h) (Or.inl ⟨by kernel_rfl, by (intro W hW; go_simp)⟩) hS2 ?_
    refine wpAnyP_take (i := 16) (v := .slice (some ⟨b, off, none⟩) l.length c) rfl (by kernel_rfl) (by kernel_rfl) (by kernel_rfl) (by kernel_rfl) (by kernel_rfl) (fun _ _ _ h => h) (Or.inl ⟨by kernel_rfl, by (intro W hW; go_simp)⟩) hS2 ?_
    refine wpAnyP_take (i := 17) (v := .int .i64 (k : Int)) rfl (by kernel_rfl) (by kernel_rfl) (by kernel_rfl) (by kernel_rfl) (by kernel_rfl) (fun _ _ _ h => h) (Or.inl ⟨by kernel_rfl, by (intro W hW; go_simp)⟩) hS2 ?_
    refine wpAnyP_take (i := 18) (v := .pointer (some ⟨b, off + k * 9, none⟩)) rfl (by kernel_rfl) (by kernel_rfl) (by kernel_rfl) (by kernel_rfl) (by kernel_rfl) (fun _ _ _ h => h) (Or.inl ⟨by kernel_rfl, by (intro W hW; go_simp)⟩) hS2 ?_
    refine wpAnyP_take (i := 19) (v := .pointer (some ⟨b, off + k * 9, none⟩)) rfl (by kernel_rfl) (by kernel_rfl) (by kernel_rfl) (by kernel_rfl) (by kernel_rfl) (fun _ _ _ h => h) (Or.inl ⟨by kernel_rfl, by (intro W hW; go_simp)⟩) hS2 ?_
    refine wpAnyP_take (i := 20) (v := .slice s.A x.name.length s.c) rfl (by kernel_rfl) (by kernel_rfl) (by kernel_rfl) (by kernel_rfl) (by kernel_rfl) (fun _ _ _ h => h) (Or.inl ⟨by kernel_rfl, by (intro W hW; have c0 := hW.1; obtain ⟨x0, x1, x2, x3, x4, x5, x6, x7, x8⟩ := c0; go_simp)⟩) hS2 ?_
    refine wpAnyP_take (i := 21) (v := .slice A' n' c') rfl (by kernel_rfl) (by kernel_rfl) (by kernel_rfl) (by kernel_rfl) (by kernel_rfl) (fun _ _ _ h => h) (Or.inl ⟨by kernel_rfl, by (intro W hW; go_simp)⟩) hS2 ?_
    refine wpAnyP_one (i := 22) rfl (by kernel_rfl) fun K hK => ?_
    go_simp
    refine HEQ.out.mono ?_
    rintro e w3 ⟨v3, rfl, rfl, hb3⟩
    have HB3 : Hid (Below wr.drew.heap.size wr.drew w3) := hb3
    clear hb3
    have hS3 : RCells w3 b (off + k * 9) s x ∧ DBox w3 q sd d := ⟨RCells.below (w := wr.drew) hS2.1 HB3.out, DBox.below (w := wr.drew) hS2.2 HB3.out⟩
    refine hK _ _ (fun _ => hS3) ?_
    clear hK
    refine wpAnyP_take (i := 23) (v := .bool true) rfl (by kernel_rfl) (by kernel_rfl) (by kernel_rfl) (by kernel_rfl) (by kernel_rfl) (fun _ _ _ h => h) (Or.inl ⟨by kernel_rfl, by (intro W hW; go_simp)⟩) hS3 ?_
    refine wpAnyP_take (i := 24) (v := .bool true) rfl (by kernel_rfl) (by kernel_rfl) (by kernel_rfl) (by kernel_rfl) (by kernel_rfl) (fun _ _ _ h => h) (Or.inl ⟨by kernel_rfl, by (intro W hW; go_simp)⟩) hS3 ?_
    have HSM := Lib.hid (rsame_any s.d sd x.data d w3 ((HRI.out.d.rd HLS.out).below HB3.out) (HD.out.below (nx HBW2.out HB3.out)))
    unfold dsV at HSM
    by_cases hs : sameD x.data d = true
    rotate_left
    · have hs' : sameD x.data d = false := by simpa using hs
      rw [hs'] at HSM
      have hne : k ≠ j := fun e => by have h0 := HX.out e; subst h0; exact hs HR.out.2.2.2
      clear hs hs'
      refine wpAnyP_take (i := 25) (v := .slice (some ⟨b, off, none⟩) l.length c) rfl (by kernel_rfl) (by kernel_rfl) (by kernel_rfl) (by kernel_rfl) (by kernel_rfl) (fun _ _ _ h => h) (Or.inl ⟨by kernel_rfl, by (intro W hW; go_simp)⟩) hS3 ?_
      refine wpAnyP_take (i := 26) (v := .int .i64 (k : Int)) rfl (by kernel_rfl) (by kernel_rfl) (by kernel_rfl) (by kernel_rfl) (by kernel_rfl) (fun _ _ _ h => h) (Or.inl ⟨by kernel_rfl, by (intro W hW; go_simp)⟩) hS3 ?_
      refine wpAnyP_take (i := 27) (v := .pointer (some ⟨b, off + k * 9, none⟩)) rfl (by kernel_rfl) (by kernel_rfl) (by kernel_rfl) (by kernel_rfl) (by kernel_rfl) (fun _ _ _ h => h) (Or.inl ⟨by kernel_rfl, by (intro W hW; go_simp)⟩) hS3 ?_
      refine wpAnyP_take (i := 28) (v := .pointer (some ⟨b, off + k * 9 + 4, none⟩)) rfl (by kernel_rfl) (by kernel_rfl) (by kernel_rfl) (by kernel_rfl) (by kernel_rfl) (fun _ _ _ h => h) (Or.inl ⟨by kernel_rfl, by (intro W hW; go_simp)⟩) hS3 ?_
      refine wpAnyP_take (i := 29) (v := .agg #[.slice s.d.A0 x.data.bytes.length s.d.c0, .slice s.d.A1 x.data.host.length s.d.c1, .slice s.d.A2 x.data.mail.length s.d.c2, .slice s.d.A3 x.data.nums.length s.d.c3, .slice s.d.A4 x.data.texts.length s.d.c4]) rfl (by kernel_rfl) (by kernel_rfl) (by kernel_rfl) (by kernel_rfl) (by kernel_rfl) (fun _ _ _ h => h) (Or.inl ⟨by kernel_rfl, by (intro W hW; have c0 := hW.1; obtain ⟨x0, x1, x2, x3, x4, x5, x6, x7, x8⟩ := c0; go_simp)⟩) hS3 ?_
      refine wpAnyP_take (i := 30) (v := .agg #[.slice sd.A0 d.bytes.length sd.c0, .slice sd.A1 d.host.length sd.c1, .slice sd.A2 d.mail.length sd.c2, .slice sd.A3 d.nums.length sd.c3, .slice sd.A4 d.texts.length sd.c4]) rfl (by kernel_rfl) (by kernel_rfl) (by kernel_rfl) (by kernel_rfl) (by kernel_rfl) (fun _ _ _ h => h) (Or.inl ⟨by kernel_rfl, by (intro W hW; have c0 := hW.2; obtain ⟨y0, y1, y2, y3, y4⟩ := c0; go_simp)⟩) hS3 ?_
      refine wpAnyP_one (i := 31) rfl (by kernel_rfl) fun K hK => ?_
      go_simp
      refine HSM.out.mono ?_
      rintro e w4 ⟨v4, rfl, rfl, hb4⟩
      have HB4 := Lib.hid hb4
      clear hb4
      refine hK _ _ (fun _ => ⟨RCells.below hS3.1 HB4.out, DBox.below hS3.2 HB4.out⟩) ?_
      clear hK
      refine wpAnyP_one (i := 32) rfl (by kernel_rfl) fun K hK => ?_
      go_simp
      refine hK _ _ (fun h => absurd h (by rw [show needS _ _ _ = false from by kernel_rfl]; decide)) ?_
      clear hK
      refine wpAnyP_done (by kernel_rfl) ?_ _
      go_wp2
      go_roundw
      case rel => exact ⟨k + 1, by go_num, by omega, nx (nx (nx HBW.out bl.drew) HB3.out) HB4.out⟩
      case measure => simp [intOf]; omega
    rw [hs] at HSM
    clear hs
    refine wpAnyP_take (i := 25) (v := .slice (some ⟨b, off, none⟩) l.length c) rfl (by kernel_rfl) (by kernel_rfl) (by kernel_rfl) (by kernel_rfl) (by kernel_rfl) (fun _ _ _ h => h) (Or.inl ⟨by kernel_rfl, by (intro W hW; go_simp)⟩) hS3 ?_
    refine wpAnyP_take (i := 26) (v := .int .i64 (k : Int)) rfl (by kernel_rfl) (by kernel_rfl) (by kernel_rfl) (by kernel_rfl) (by kernel_rfl) (fun _ _ _ h => h) (Or.inl ⟨by kernel_rfl, by (intro W hW; go_simp)⟩) hS3 ?_
    refine wpAnyP_take (i := 27) (v := .pointer (some ⟨b, off + k * 9, none⟩)) rfl (by kernel_rfl) (by kernel_rfl) (by kernel_rfl) (by kernel_rfl) (by kernel_rfl) (fun _ _ _ h => h) (Or.inl ⟨by kernel_rfl, by (intro W hW; go_simp)⟩) hS3 ?_
    refine wpAnyP_take (i := 28) (v := .pointer (some ⟨b, off + k * 9 + 4, none⟩)) rfl (by kernel_rfl) (by kernel_rfl) (by kernel_rfl) (by kernel_rfl) (by kernel_rfl) (fun _ _ _ h => h) (Or.inl ⟨by kernel_rfl, by (intro W hW; go_simp)⟩) hS3 ?_
    refine wpAnyP_take (i := 29) (v := .agg #[.slice s.d.A0 x.data.bytes.length s.d.c0, .slice s.d.A1 x.data.host.length s.d.c1, .slice s.d.A2 x.data.mail.length s.d.c2, .slice s.d.A3 x.data.nums.length s.d.c3, .slice s.d.A4 x.data.texts.length s.d.c4]) rfl (by kernel_rfl) (by kernel_rfl) (by kernel_rfl) (by kernel_rfl) (by kernel_rfl) (fun _ _ _ h => h) (Or.inl ⟨by kernel_rfl, by (intro W hW; have c0 := hW.1; obtain ⟨x0, x1, x2, x3, x4, x5, x6, x7, x8⟩ := c0; go_simp)⟩) hS3 ?_
    refine wpAnyP_take (i := 30) (v := .agg #[.slice sd.A0 d.bytes.length sd.c0, .slice sd.A1 d.host.length sd.c1, .slice sd.A2 d.mail.length sd.c2, .slice sd.A3 d.nums.length sd.c3, .slice sd.A4 d.texts.length sd.c4]) rfl (by kernel_rfl) (by kernel_rfl) (by kernel_rfl) (by kernel_rfl) (by kernel_rfl) (fun _ _ _ h => h) (Or.inl ⟨by kernel_rfl, by (intro W hW; have c0 := hW.2; obtain ⟨y0, y1, y2, y3, y4⟩ := c0; go_simp)⟩) hS3 ?_
    refine wpAnyP_one (i := 31) rfl (by kernel_rfl) fun K hK => ?_
    go_simp
    refine HSM.out.mono ?_
    rintro e w4 ⟨v4, rfl, rfl, hb4⟩
    have HB4 := Lib.hid hb4
    clear hb4
    refine hK _ _ (fun _ => ⟨RCells.below hS3.1 HB4.out, DBox.below hS3.2 HB4.out⟩) ?_
    clear hK
    refine wpAnyP_one (i := 32) rfl (by kernel_rfl) fun K hK => ?_
    go_simp
    refine hK _ _ (fun h => absurd h (by rw [show needS _ _ _ = false from by kernel_rfl]; decide)) ?_
    clear hK
    refine wpAnyP_done (by kernel_rfl) ?_ _
    go_wp2
    go_ret
    exact ⟨_, rfl, rfl, nx (nx HBW2.out HB3.out) HB4.out⟩
end Go.Proofs.Ytimkdpkhdbiniaa
