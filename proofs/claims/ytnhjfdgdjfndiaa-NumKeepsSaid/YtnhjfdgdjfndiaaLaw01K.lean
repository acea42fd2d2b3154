/- NumKeeps: what is handed in is not changed. -/
import Derived.Test.YtnhjfdgdjfndiaaLaw01
namespace Go.Proofs.Ytnhjfdgdjfndiaa
open Go.RowKit

set_option maxHeartbeats 400000 in
theorem numKeeps_walk (A : Option Addr) (m c : Nat) (bs : List UInt8) (n : Int) (w : World) (hb : RdB w A m bs) :
    Calls Try.prog 5 #[.slice A m c, .int .i64 n] w (LawT w) := by
  have hlb := Lib.hid hb.len
  have hbw : Below w.heap.size w w := bl
  by_cases h5 : 5000 < m
  · go_enter Try.func5, Try.ntmps5
    go_wp2_with (go_at_call 15; refine (answers01_any _).mono ?_; rintro e w1 ⟨rfl, hb1⟩; have hbw := nx hbw hb1)
    go_ret
    exact ⟨rfl, hbw⟩
  · have hL : (bs ++ [7, 8, 9]).length = m + 3 := by rw [List.length_append, hlb.out]; rfl
    have hT : (bs ++ [7, 8, 9]).take m = bs := by rw [← hlb.out]; exact List.take_left
    have h7 : (bs ++ [7, 8, 9])[m]? = some (7 : UInt8) := by rw [← hlb.out]; simp
    have h8 : (bs ++ [7, 8, 9])[m + 1]? = some (8 : UInt8) := by rw [← hlb.out]; simp
    obtain ⟨ls, hls⟩ : ∃ ls, ls = bs ++ [7, 8, 9] := ⟨_, rfl⟩
    rw [← hls] at hL hT h7 h8
    have HL := Lib.hid hL
    have HT := Lib.hid hT
    have H7 := Lib.hid h7
    have H8 := Lib.hid h8
    have HLS := Lib.hid hls
    clear hL hT h7 h8 hls
    go_enter Try.func5, Try.ntmps5
    go_wp2_with (first
      | (go_at_call 15; refine (answers01_any _).mono ?_; rintro e w1 ⟨rfl, hb1⟩; have hbw := nx hbw hb1)
      | ((with_reducible show wpList _ _ _ (⟨some 18, _, _, _, _, _⟩ :: _) _ _); refine wpL_cloneB rfl (.tmp 16) (.tmp 17) rfl rfl A m c bs rfl (hb.below hbw) (by omega) ?_; intro v2 w2 hown2 hb2; have hbw := nx hbw hb2)
      | ((with_reducible show wpList _ _ _ (⟨some 20, _, _, _, _, _⟩ :: _) _ _); refine wpL_appB rfl (.tmp 18) (.tmp 19) rfl w1.heap.size v2 bs rfl (hown2.alloc _) _ 3 3 [7, 8, 9] rfl (lit_rd w2 [7, 8, 9] (by decide)) (by rw [hlb.out]; omega) (by simp; have := hb2.size; omega) ?_; intro v3 w3 hown3 hg3 _; have hbw := (hbw.alloc hbw.size _).grown hg3 (by simp; have := hbw.size; omega) (fun k hk => Nat.le_trans hb1.size (World.ownsRow.lt hown2 k hk).1); have hbw_3 := hbw; rw [← HLS.out] at hown3; obtain ⟨g, c3, rfl, hg1, hg2, hl3, hc3, hcell3⟩ := hown3.flat (by rw [HL.out]; omega); have hr3 := hown3.rd.1; rw [HL.out] at hl3 hr3 ⊢; have hr3m := hr3.take (k := m) (by omega); rw [HT.out] at hr3m; have HC3 := Lib.hid hcell3; clear hcell3)
      | (go_at_call 19; refine (put_any _ _ _ bs _ _ _ hr3m (by omega)).mono ?_; rintro e w4 ⟨v4, rfl, hown4, hb4⟩; have hbw := nx hbw hb4; have hr4 := hr3.below hb4; obtain ⟨ps, hps⟩ : ∃ ps, ps = putB bs n 2 := ⟨_, rfl⟩; have hpl := putB_le bs n 2; rw [← hps, hlb.out] at hpl; rw [← hps] at hown4; obtain ⟨A4, c4, rfl, _, hl4, hc4⟩ := hown4.form; clear hps))
    obtain ⟨L, hLd⟩ : ∃ L, L = ps.length := ⟨_, rfl⟩
    rw [← hLd] at hl4 hpl hown4 ⊢
    have HLP := Lib.hid hLd
    clear hLd
    go_loopw [7] (fun i wr => ∃ k : Nat, ∃ cs : List UInt8, i = .int .i64 k ∧ k ≤ L ∧ cs.length = L ∧ OwnB wr w3.heap.size (.slice A4 L c4) cs ∧ Below w3.heap.size w3 wr) (fun i _ => L - (intOf i).toNat)
    case atStart => exact ⟨0, ps, rfl, Nat.zero_le _, HLP.out.symm, hown4, hb4⟩
    case round =>
      obtain ⟨k, cs, rfl, hk, hcl, hown, hbr⟩ := hrel
      have HCL := Lib.hid hcl
      clear hcl
      by_cases hlt : k < L
      · obtain ⟨g4, c4', hv, hg4, _, _, _, hcell⟩ := hown.flat (by rw [HCL.out]; omega)
        injection hv with hv1 hv2 hv3
        subst hv1
        have hfz := hown.free k
        obtain ⟨x, hx⟩ : ∃ x, cs[k]? = some x := ⟨_, List.getElem?_eq_getElem (by rw [HCL.out]; exact hlt)⟩
        have hc := hcell k x hx
        have hx8 := x.toNat_lt
        have HX := Lib.hid hx
        clear hx hv2 hv3 hcell
        go_wp2
        go_roundw
        case rel =>
          refine ⟨k + 1, cs.set k (UInt8.ofNat (x.toNat + 1)), by go_num, by omega, by rw [List.length_set]; exact HCL.out, ?_, hbr.setCell hg4 _⟩
          have h := hown.set k (UInt8.ofNat (x.toNat + 1))
          rw [ofNat_u8] at h
          exact h
        case measure => simp [intOf]; omega
      · have c7 := below_cell hbr (HC3.out _ _ H7.out)
        have c8 := below_cell hbr (HC3.out _ _ H8.out)
        have hr3r := hr3m.below hbr
        have hbw3 : Below w.heap.size w wr := nx hbw_3 hbr
        go_wp2_with (go_at_call 18; refine (same_any _ _ _ _ _ _ bs bs _ hr3r (hb.below hbw3) (by unfold maxLen; omega) (by unfold maxLen; omega)).mono ?_; rintro e w5 ⟨rfl, k5, rfl⟩; have hbw := dN hbw3 k5)
        go_ret
        exact ⟨rfl, hbw⟩
end Go.Proofs.Ytnhjfdgdjfndiaa
