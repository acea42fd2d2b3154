/- wname.Get: the name at a place, as the program reads it. -/
import Derived.Test.YtjpkddmdhdmhgaaGet
import Derived.Test.YtjpkddmdhdmhgaaStrs
import Derived.Test.YtjpkddmdhdmhgaaWnamePlain
namespace Go.Proofs.Ytjpkddmdhdmhgaa
open Go.RowKit

def RetW (r : List (List UInt8) × Int × Int) (w : World) (e : Ending) (w' : World) : Prop := ∃ v, e = .returned (.tuple #[v, .int .i64 r.2.1, .int .i64 r.2.2]) ∧ OwnS w' w.heap.size v r.1 ∧ Below w.heap.size w w'

theorem retG_eq {r r' : Int × Int} (h : r = r') {w : World} {e : Ending} {w' : World} (hr : RetG r w e w') : RetG r' w e w' := h ▸ hr

set_option maxRecDepth 100000 in
set_option maxHeartbeats 1000000 in
theorem wget_any (A : Option Addr) (m c : Nat) (bs : List UInt8) (p : Int) (w : World) (hb : RdB w A m bs) (hm : m ≤ c) (hc : m ≤ 140737488355328) :
    Calls Try.prog 49 #[.slice A m c, .int .i64 p] w (RetW (if p < 0 then ([], 0, 1) else getP bs p.toNat p.toNat 0 []) w) := by
  have hlb := hb.len
  subst hlb
  by_cases hp : p < 0
  · rw [if_pos hp]
    go_enter Try.func49, Try.ntmps49
    go_wp2
    go_ret3
    exact ⟨_, rfl, OwnE.nil _ _ _ _, bl⟩
  · rw [if_neg hp]
    obtain ⟨q, rfl⟩ := Int.eq_ofNat_of_zero_le (show 0 ≤ p by omega)
    rw [Int.toNat_natCast]
    obtain ⟨R, hR⟩ : ∃ R, R = getP bs q q 0 [] := ⟨_, rfl⟩
    rw [← hR]
    have HR := Lib.hid hR
    clear hR
    go_enter Try.func49, Try.ntmps49
    go_wp2
    go_loopw [1, 4, 5, 7, 8, 9, 10, 11, 12] (fun at_ n nx bg sz _ _ _ _ wr => ∃ (a0 b0 x0 : Nat) (ls : List (List UInt8)), at_ = .int .i64 a0 ∧ bg = .int .i64 b0 ∧ nx = .int .i64 x0 ∧ sz = .int .i64 (sizeN ls : Nat) ∧ sizeN ls ≤ 255 ∧ R = getP bs a0 b0 x0 ls ∧
        x0 ≤ bs.length + 2 ∧ OwnS wr w.heap.size n ls ∧ Below w.heap.size w wr) (fun _ _ _ bg sz _ _ _ _ _ => (intOf bg).toNat * 256 + (255 - (intOf sz).toNat))
    case atStart => exact ⟨q, q, 0, [], rfl, rfl, rfl, rfl, by simp [sizeN], HR.out, by omega, OwnE.nil _ _ _ _, bl⟩
    case round =>
      obtain ⟨a0, b0, x0, ls, rfl, rfl, rfl, rfl, hsz, hRe, hx0, hown, hbw⟩ := hrel
      have HRE := Lib.hid hRe
      clear hRe
      have hbr := hb.below hbw
      rcases hca : bs[a0]? with _ | ca
      · have hg1 := Lib.hid (getN_1n hca)
        have hl : bs.length ≤ a0 := List.getElem?_eq_none_iff.1 hca
        have hRv : Hid (R = ([], 0, 3)) := HRE.out.trans (getP_short hl)
        rw [hRv.out]
        clear hca
        go_wp2_with (go_at_call 63; refine (get_any _ _ _ bs _ _ _ hbr hm hc).mono ?_; rintro e w' ⟨he, rfl⟩; rw [hg1.out] at he; subst he)
        go_ret3
        exact ⟨_, rfl, OwnE.nil _ _ _ _, hbw⟩
      · have hg1 := getN_1s hca
        have hl : a0 < bs.length := (List.getElem?_eq_some_iff.1 hca).1
        have HCA := Lib.hid hca
        clear hca
        obtain ⟨k, hk⟩ : ∃ k, k = ca.toNat := ⟨_, rfl⟩
        have hk8 : k < 256 := by rw [hk]; exact ca.toNat_lt
        rw [← hk] at hg1
        have hg1 := Lib.hid hg1
        have HK := Lib.hid hk
        clear hk
        by_cases hk0 : k = 0
        · have hRv : Hid (R = (ls, ((max x0 (a0 + 1) : Nat) : Int), 0)) := HRE.out.trans (getP_end HCA.out (by rw [← HK.out]; exact hk0))
          subst hk0
          by_cases hx1 : x0 < a0 + 1
          · rw [show max x0 (a0 + 1) = a0 + 1 by omega] at hRv
            rw [hRv.out]
            go_wp2_with (go_at_call 63; refine (get_any _ _ _ bs _ _ _ hbr hm hc).mono ?_; rintro e w' ⟨he, rfl⟩; rw [hg1.out] at he; subst he)
            go_ret3
            exact ⟨_, rfl, hown, hbw⟩
          · rw [show max x0 (a0 + 1) = x0 by omega] at hRv
            rw [hRv.out]
            go_wp2_with (go_at_call 63; refine (get_any _ _ _ bs _ _ _ hbr hm hc).mono ?_; rintro e w' ⟨he, rfl⟩; rw [hg1.out] at he; subst he)
            go_ret3
            exact ⟨_, rfl, hown, hbw⟩
        · have e0 : ((k : Int) == 0) = false := by rw [beq_eq_false_iff_ne]; omega
          by_cases hk2 : 192 ≤ k
          · rcases hda : bs[a0 + 1]? with _ | da
            · have hg2 := Lib.hid (getN_2n HCA.out hda)
              have hl2 : bs.length ≤ a0 + 1 := List.getElem?_eq_none_iff.1 hda
              have hRv : Hid (R = ([], 0, 3)) := HRE.out.trans (getP_short2 HCA.out (by rw [← HK.out]; exact hk2) hl2)
              rw [hRv.out]
              clear hda hk0
              go_wp2_with (go_at_call 63; refine (get_any _ _ _ bs _ _ _ hbr hm hc).mono ?_; rintro e w' ⟨he, rfl⟩; first | rw [hg1.out] at he | rw [hg2.out] at he; subst he)
              go_ret3
              exact ⟨_, rfl, OwnE.nil _ _ _ _, hbw⟩
            · have hg2 := getN_2s HCA.out hda
              have hl2 : a0 + 1 < bs.length := (List.getElem?_eq_some_iff.1 hda).1
              have HDA := Lib.hid hda
              obtain ⟨t, ht⟩ : ∃ t, t = ca.toNat * 256 + da.toNat := ⟨_, rfl⟩
              have ht6 : t < 65536 := by have := ca.toNat_lt; have := da.toNat_lt; omega
              rw [← ht] at hg2
              have hg2 := Lib.hid hg2
              have HT := Lib.hid ht
              have hand := and_16383 t (by omega)
              obtain ⟨u, hu⟩ : ∃ u, u = t % 16384 := ⟨_, rfl⟩
              rw [← hu] at hand
              have hu2 : u < 16384 := by omega
              have HU := Lib.hid hu
              clear hda hk0 ht hu
              by_cases hub : u < b0
              · have hRv : Hid (R = getP bs u u (max x0 (a0 + 2)) ls) := HRE.out.trans (by
                  have h := getP_ptr (nx := x0) (ls := ls) (beg := b0) HCA.out (by rw [← HK.out]; exact hk2) HDA.out (by rw [← HT.out, ← HU.out]; exact hub)
                  rw [← HT.out, ← HU.out] at h; exact h)
                by_cases hx1 : x0 < a0 + 2
                · rw [show max x0 (a0 + 2) = a0 + 2 by omega] at hRv
                  go_wp2_with (go_at_call 63; refine (get_any _ _ _ bs _ _ _ hbr hm hc).mono ?_; rintro e w' ⟨he, rfl⟩; first | rw [hg1.out] at he | rw [hg2.out] at he; subst he)
                  go_roundw
                  case rel => exact ⟨u, u, a0 + 2, ls, rfl, rfl, rfl, rfl, hsz, hRv.out, by omega, hown, hbw⟩
                  case measure => simp [intOf]; omega
                · rw [show max x0 (a0 + 2) = x0 by omega] at hRv
                  go_wp2_with (go_at_call 63; refine (get_any _ _ _ bs _ _ _ hbr hm hc).mono ?_; rintro e w' ⟨he, rfl⟩; first | rw [hg1.out] at he | rw [hg2.out] at he; subst he)
                  go_roundw
                  case rel => exact ⟨u, u, x0, ls, rfl, rfl, rfl, rfl, hsz, hRv.out, by omega, hown, hbw⟩
                  case measure => simp [intOf]; omega
              · have hRv : Hid (R = ([], 0, 6)) := HRE.out.trans (getP_loop HCA.out (by rw [← HK.out]; exact hk2) HDA.out (by rw [← HT.out, ← HU.out]; exact hub))
                rw [hRv.out]
                by_cases hx1 : x0 < a0 + 2
                · go_wp2_with (go_at_call 63; refine (get_any _ _ _ bs _ _ _ hbr hm hc).mono ?_; rintro e w' ⟨he, rfl⟩; first | rw [hg1.out] at he | rw [hg2.out] at he; subst he)
                  go_ret3
                  exact ⟨_, rfl, OwnE.nil _ _ _ _, hbw⟩
                · go_wp2_with (go_at_call 63; refine (get_any _ _ _ bs _ _ _ hbr hm hc).mono ?_; rintro e w' ⟨he, rfl⟩; first | rw [hg1.out] at he | rw [hg2.out] at he; subst he)
                  go_ret3
                  exact ⟨_, rfl, OwnE.nil _ _ _ _, hbw⟩
          · by_cases hk3 : 63 < k
            · have hRv : Hid (R = ([], 0, 5)) := HRE.out.trans (getP_name HCA.out (by rw [← HK.out]; exact hk3) (by rw [← HK.out]; omega))
              rw [hRv.out]
              clear hk0
              go_wp2_with (go_at_call 63; refine (get_any _ _ _ bs _ _ _ hbr hm hc).mono ?_; rintro e w' ⟨he, rfl⟩; rw [hg1.out] at he; subst he)
              go_ret3
              exact ⟨_, rfl, OwnE.nil _ _ _ _, hbw⟩
            · by_cases hk4 : bs.length < a0 + 1 + k
              · have hRv : Hid (R = ([], 0, 3)) := HRE.out.trans (getP_cut HCA.out (by rw [← HK.out]; exact hk0) (by rw [← HK.out]; omega) (by rw [← HK.out]; exact hk4))
                rw [hRv.out]
                clear hk0
                go_wp2_with (go_at_call 63; refine (get_any _ _ _ bs _ _ _ hbr hm hc).mono ?_; rintro e w' ⟨he, rfl⟩; rw [hg1.out] at he; subst he)
                go_ret3
                exact ⟨_, rfl, OwnE.nil _ _ _ _, hbw⟩
              · by_cases hk5 : 255 < sizeN ls + 1 + k
                · have hRv : Hid (R = ([], 0, 5)) := HRE.out.trans (getP_long HCA.out (by rw [← HK.out]; exact hk0) (by rw [← HK.out]; omega) (by rw [← HK.out]; omega) (by rw [← HK.out]; exact hk5))
                  rw [hRv.out]
                  clear hk0
                  go_wp2_with (go_at_call 63; refine (get_any _ _ _ bs _ _ _ hbr hm hc).mono ?_; rintro e w' ⟨he, rfl⟩; rw [hg1.out] at he; subst he)
                  go_ret3
                  exact ⟨_, rfl, OwnE.nil _ _ _ _, hbw⟩
                · have hRv : Hid (R = getP bs (a0 + 1 + k) b0 x0 (ls ++ [(bs.drop (a0 + 1)).take k])) := HRE.out.trans (by
                    have h := getP_label (nx := x0) (ls := ls) (beg := b0) HCA.out (by rw [← HK.out]; exact hk0) (by rw [← HK.out]; omega) (by rw [← HK.out]; omega) (by rw [← HK.out]; omega)
                    rw [← HK.out] at h; exact h)
                  have hk1 : 1 ≤ k := by omega
                  clear hk0
                  obtain ⟨b, off, rfl, _⟩ := hb.flat (by omega)
                  have hcut := hbr.cut (i := a0 + 1) (k := k) (by omega)
                  obtain ⟨seg, hseg⟩ : ∃ seg, seg = (bs.drop (a0 + 1)).take k := ⟨_, rfl⟩
                  rw [← hseg] at hcut hRv
                  have hsl : seg.length = k := hcut.len
                  have hcv := conv_str (P := Try.prog) _ _ _ Try.underlying22 Try.underlying5 Try.underlying9 wr (some ⟨b, off + (a0 + 1), none⟩) k (c - (a0 + 1)) seg hcut
                  have hsn := sizeN_snoc ls seg
                  have hll := sizeN_length ls
                  have HSL := Lib.hid hsl
                  have HSN := Lib.hid hsn
                  clear hseg hsl hsn hcut
                  go_wp2_with (first
                    | (go_at_call 63; refine (get_any _ _ _ bs _ _ _ hbr hm hc).mono ?_; rintro e w' ⟨he, rfl⟩; rw [hg1.out] at he; subst he)
                    | ((with_reducible show wpList _ _ _ (⟨some 39, _, _, _, _, _⟩ :: _) _ _); refine wpL_pushS rfl (.tmp 28) (.tmp 38) rfl w.heap.size _ ls rfl hown seg ?hy rfl ?hb hbw.size ?_; rotate_right; intro v2 w2 hown2 hg2 _))
                  case hy => rw [HSL.out]; unfold maxLen; omega
                  case hb => omega
                  go_roundw
                  case rel => exact ⟨a0 + 1 + k, b0, x0, ls ++ [seg], by go_num, rfl, rfl, by rw [HSN.out, HSL.out]; go_num, by rw [HSN.out, HSL.out]; omega, hRv.out, hx0, hown2, hbw.grown hg2 hbw.size (fun j hj => (hown.lt j hj).1)⟩
                  case measure => simp [intOf]; omega
end Go.Proofs.Ytjpkddmdhdmhgaa
