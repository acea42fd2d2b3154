/- WnameLoops: the law's walk. -/
import Derived.Test.YtnhjfdgdjfndiaaWget
import Derived.Test.YtnhjfdgdjfndiaaLaw01
namespace Go.Proofs.Ytnhjfdgdjfndiaa
open Go.RowKit

set_option maxHeartbeats 1000000 in
theorem answers03_any (w : World) : Calls Try.prog 29 #[] w (LawT w) := by
  have hg : Hid ((if (0 : Int) < 0 then ([], 0, 1) else getP [1, 97, 0] (0 : Int).toNat (0 : Int).toNat 0 []) = ([[97]], 3, 0)) := by
    show _ = _
    rw [if_neg (by decide)]
    rw [getP_label (c := 1) rfl (by decide) (by decide) (by decide) (by simp [sizeN]), getP_end (c := 0) rfl rfl]
    rfl
  go_enter Try.func29, Try.ntmps29
  go_wp2_with (go_at_call 30; refine (wget_any _ _ _ [1, 97, 0] _ _ (lit_rd w [1, 97, 0] (by decide)) (by decide) (by decide)).mono ?_; rintro e w1 ⟨v, rfl, hown, hb⟩; rw [hg.out] at hown ⊢; obtain ⟨A, c, rfl, hel, _⟩ := hown.form; obtain ⟨b, off, rfl, _, hcell⟩ := hel.2 (by decide); obtain ⟨r, ⟨hr, _⟩, hc⟩ := hcell 0 [97] rfl; subst hr; have c0 := hc 0 _ rfl; simp only [Nat.zero_mul, Nat.add_zero] at c0; have hbw := nx (bl.alloc (Nat.le_refl _) _) hb; clear hcell hc)
  go_ret
  exact ⟨ret_bool (by rw [bstr_toList]; rfl), hbw⟩

theorem loop_ptr (bs : List UInt8) (k t : Nat) (hk : k + 1 < bs.length) (ht : t < 16384) (hkt : k ≤ t) (y1 y2 : UInt8) (h1 : y1.toNat = 192 + t / 256) (h2 : y2.toNat = t % 256) :
    getP ((bs.set k y1).set (k + 1) y2) k k 0 [] = ([], 0, 6) := by
  refine getP_loop (c := y1) (d := y2) ?_ (by omega) ?_ (by rw [h1, h2]; omega)
  · rw [List.getElem?_set_ne (by omega), List.getElem?_set_self (by omega)]
  · rw [List.getElem?_set_self (by simp; omega)]

set_option maxHeartbeats 1000000 in
theorem wnameLoops_walk (A : Option Addr) (m c : Nat) (bs : List UInt8) (a b : Nat) (w : World) (hb : RdB w A m bs) (ha : a < 65536) (hb6 : b < 65536) :
    Calls Try.prog 12 #[.slice A m c, .int .u16 (a : Int), .int .u16 (b : Int)] w (LawT w) := by
  have hlb := hb.len
  subst hlb
  have hbw : Below w.heap.size w w := bl
  by_cases h4 : bs.length < 4
  · go_enter Try.func12, Try.ntmps12
    go_wp2_with (go_at_call 29; refine (answers03_any _).mono ?_; rintro e w1 ⟨rfl, hb1⟩; have hbw := nx hbw hb1)
    go_ret
    exact ⟨rfl, hbw⟩
  · by_cases h16 : 16000 < bs.length
    · go_enter Try.func12, Try.ntmps12
      go_wp2_with (go_at_call 29; refine (answers03_any _).mono ?_; rintro e w1 ⟨rfl, hb1⟩; have hbw := nx hbw hb1)
      go_ret
      exact ⟨rfl, hbw⟩
    · obtain ⟨k, hk⟩ : ∃ k, k = a % (bs.length - 1) := ⟨_, rfl⟩
      have hkl : k + 1 < bs.length := by have := Nat.mod_lt a (show 0 < bs.length - 1 by omega); omega
      obtain ⟨t, ht⟩ : ∃ t, t = k + b % (bs.length - k) := ⟨_, rfl⟩
      have htl : t < bs.length := by have := Nat.mod_lt b (show 0 < bs.length - k by omega); omega
      have hkt : k ≤ t := by omega
      have ek : (a : Int) % ((bs.length : Int) - 1) = (k : Int) := by rw [hk, Int.natCast_emod, Int.natCast_sub (by omega)]; rfl
      have et : (k : Int) + (b : Int) % ((bs.length : Int) - (k : Int)) = (t : Int) := by rw [ht, Int.natCast_add, Int.natCast_emod, Int.natCast_sub (by omega)]
      have hy1 : (UInt8.ofNat (192 + t / 256)).toNat = 192 + t / 256 := by simp; omega
      have hy2 : (UInt8.ofNat (t % 256)).toNat = t % 256 := by simp
      have hP := Lib.hid (loop_ptr bs k t hkl (by omega) hkt _ _ hy1 hy2)
      have HK := Lib.hid hk
      have HT := Lib.hid ht
      have HY1 := Lib.hid hy1
      have HY2 := Lib.hid hy2
      clear hk ht hy1 hy2
      go_enter Try.func12, Try.ntmps12
      go_wp2_with (first
        | (go_at_call 29; refine (answers03_any _).mono ?_; rintro e w1 ⟨rfl, hb1⟩; have hbw := nx hbw hb1)
        | ((with_reducible show wpList _ _ _ (⟨some 28, _, _, _, _, _⟩ :: _) _ _); refine wpL_cloneB rfl (.tmp 26) (.tmp 27) rfl rfl A _ c bs rfl (hb.below hbw) (by omega) ?_; intro v2 w2 hown2 hb2; obtain ⟨g, c2, rfl, hg, hgl, hl2, hc2, hcell⟩ := hown2.flat (by omega); obtain ⟨x1, hx1⟩ : ∃ x1, bs[k]? = some x1 := ⟨_, List.getElem?_eq_getElem (by omega)⟩; obtain ⟨x2, hx2⟩ : ∃ x2, bs[k + 1]? = some x2 := ⟨_, List.getElem?_eq_getElem (by omega)⟩; have d1 := hcell k x1 hx1; have d2 := hcell (k + 1) x2 hx2; have f1 := hown2.free k; have f2 := hown2.free (k + 1); have hbw := nx hbw hb2; clear hcell hx1 hx2))
      have o3 := (hown2.set k (UInt8.ofNat (192 + t / 256))).set (k + 1) (UInt8.ofNat (t % 256))
      rw [HY1.out, HY2.out] at o3
      have hl3 : ((bs.set k (UInt8.ofNat (192 + t / 256))).set (k + 1) (UInt8.ofNat (t % 256))).length = bs.length := by simp
      have r3 := o3.rd.1
      have hbw2 : Below w.heap.size w ((w2.setCell ⟨g, k, none⟩ (.int .u8 ((192 + t / 256 : Nat) : Int))).setCell ⟨g, k + 1, none⟩ (.int .u8 ((t % 256 : Nat) : Int))) := by
        have h0 : w.heap.size ≤ g := Nat.le_trans hb1.size hg
        exact (hbw.setCell h0 _).setCell h0 _
      refine (wget_any _ _ _ _ _ _ r3 hl2 (by omega)).mono ?_
      rw [if_neg (by omega), Int.toNat_natCast, hP.out]
      rintro e w3 ⟨v3, rfl, hown3, hb3⟩
      obtain ⟨A3, c3, rfl, _⟩ := hown3.form
      have hbw3 := nx hbw2 hb3
      go_wp2
      go_ret
      exact ⟨rfl, hbw3⟩
end Go.Proofs.Ytnhjfdgdjfndiaa
