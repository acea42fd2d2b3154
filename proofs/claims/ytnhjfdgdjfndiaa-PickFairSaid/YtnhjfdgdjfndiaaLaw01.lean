/- The walks of the statements of layer 1 (num). -/
import Derived.Test.YtnhjfdgdjfndiaaBytes
import Derived.Test.YtnhjfdgdjfndiaaNum
import Derived.Test.YtnhjfdgdjfndiaaPut
import Derived.Test.YtnhjfdgdjfndiaaRPut
import Derived.Test.YtnhjfdgdjfndiaaGet
import Derived.Test.YtnhjfdgdjfndiaaSame
namespace Go.Proofs.Ytnhjfdgdjfndiaa
open Go.RowKit

/-- The law returns true, and what was there is as it was. -/
def LawT (w : World) (e : Ending) (w' : World) : Prop := e = .returned (.bool true) ∧ Below w.heap.size w w'

set_option maxHeartbeats 400000 in
theorem answers01_any (w : World) : Calls Try.prog 15 #[] w (LawT w) := by
  have hput : Hid (putB [] 258 2 = [1, 2]) := by show _ = _; decide
  go_enter Try.func15, Try.ntmps15
  go_wp2_with (go_at_call 19; refine (put_any none 0 0 [] _ _ _ (Rd.nil _ _ _) (by omega)).mono ?_; rintro e w1 ⟨v, rfl, hown, hb⟩; rw [hput.out] at hown; obtain ⟨g, c, rfl, hg, hl, hc, hm, hcell⟩ := hown.flat (by decide); have c0 := hcell 0 1 rfl; have c1 := hcell 1 2 rfl; have HC := Lib.hid hcell; clear hcell)
  go_ret
  exact ⟨rfl, hb⟩

set_option maxHeartbeats 400000 in
theorem numPuts_walk (A : Option Addr) (m c : Nat) (bs : List UInt8) (n size : Int) (w : World) (hb : RdB w A m bs) (hn : n ≤ 9223372036854775807) :
    Calls Try.prog 3 #[.slice A m c, .int .i64 n, .int .i64 size] w (LawT w) := by
  have hlb := Lib.hid hb.len
  have hbw : Below w.heap.size w w := bl
  by_cases h5 : 5000 < m
  · go_enter Try.func3, Try.ntmps3
    go_wp2_with (go_at_call 15; refine (answers01_any _).mono ?_; rintro e w1 ⟨rfl, hb1⟩; have hbw := nx hbw hb1)
    go_ret
    exact ⟨rfl, hbw⟩
  · go_enter Try.func3, Try.ntmps3
    go_wp2_with (first
      | (go_at_call 15; refine (answers01_any _).mono ?_; rintro e w1 ⟨rfl, hb1⟩; have hbw := nx hbw hb1)
      | (go_at_call 16; refine (fits_any _ _ _).mono ?_; rintro e w' ⟨rfl, rfl⟩)
      | (go_at_call 17; refine (rfits_any _ _ _ hn).mono ?_; rintro e w' ⟨rfl, rfl⟩)
      | ((with_reducible show wpList _ _ _ (⟨some 24, _, _, _, _, _⟩ :: _) _ _); refine wpL_cloneB rfl (.tmp 22) (.tmp 23) rfl rfl A m c bs rfl (hb.below hbw) (by omega) ?_; intro v2 w2 hown2 hb2; obtain ⟨A2, c2, rfl, hr2, hl2, hc2⟩ := hown2.form; have hbw := nx hbw hb2)
      | (go_at_call 19; refine (put_any _ _ _ bs _ _ _ hr2 (by rw [hlb.out]; omega)).mono ?_; rintro e w3 ⟨v3, rfl, hown3, hb3⟩; obtain ⟨A3, c3, rfl, hr3, hl3, hc3⟩ := hown3.form; have hbw := nx hbw hb3)
      | (go_at_call 20; refine (rput_any _ _ _ bs _ _ _ (hb.below hbw) (by omega) hn).mono ?_; rintro e w4 ⟨v4, rfl, hown4, hb4⟩; obtain ⟨A4, c4, rfl, hr4, hl4, hc4⟩ := hown4.form; have hbw := nx hbw hb4)
      | (go_at_call 18; refine (same_any _ _ _ _ _ _ _ _ _ (hr3.below hb4) hr4 (by omega) (by omega)).mono ?_; rintro e w5 ⟨rfl, k5, rfl⟩; have hbw := dN hbw k5))
    go_ret
    exact ⟨rfl, hbw⟩

set_option maxHeartbeats 400000 in
theorem numGets_walk (A : Option Addr) (m c : Nat) (bs : List UInt8) (p size : Int) (w : World) (hb : RdB w A m bs) (hc : m ≤ 140737488355000) :
    Calls Try.prog 7 #[.slice A m c, .int .i64 p, .int .i64 size] w (LawT w) := by
  have hlb := Lib.hid hb.len
  have hbw : Below w.heap.size w w := bl
  go_enter Try.func7, Try.ntmps7
  go_wp2_with (first
    | ((with_reducible show wpList _ _ _ (⟨some 14, _, _, _, _, _⟩ :: _) _ _); refine wpL_cloneB rfl (.tmp 12) (.tmp 13) rfl rfl A m c bs rfl hb (by omega) ?_; intro v2 w2 hown2 hb2; obtain ⟨A2, c2, rfl, hr2, hl2, hc2⟩ := hown2.form; have hbw := nx hbw hb2)
    | (go_at_call 24; refine (get_any _ _ _ bs _ _ _ hr2 hl2 (by rw [hlb.out]; omega)).mono ?_; rintro e w' ⟨rfl, rfl⟩)
    | (go_at_call 25; refine (rget_any _ _ _ bs _ _ _ (hb.below hbw) (by omega)).mono ?_; rintro e w' ⟨rfl, rfl⟩)
    | (go_at_call 15; refine (answers01_any _).mono ?_; rintro e w1 ⟨rfl, hb1⟩; have hbw := nx hbw hb1))
  go_ret
  exact ⟨rfl, hbw⟩

set_option maxHeartbeats 400000 in
theorem numBack_walk (A : Option Addr) (m c : Nat) (bs : List UInt8) (n size : Int) (w : World) (hb : RdB w A m bs) (hn : n ≤ 9223372036854775807) :
    Calls Try.prog 8 #[.slice A m c, .int .i64 n, .int .i64 size] w (LawT w) := by
  have hlb := Lib.hid hb.len
  have hbw : Below w.heap.size w w := bl
  by_cases h5 : 5000 < m
  · go_enter Try.func8, Try.ntmps8
    go_wp2_with (go_at_call 15; refine (answers01_any _).mono ?_; rintro e w1 ⟨rfl, hb1⟩; have hbw := nx hbw hb1)
    go_ret
    exact ⟨rfl, hbw⟩
  · by_cases hf : fitsB n size = true
    · obtain ⟨f1, f2, _, _⟩ := fitsB_true hf
      have hp1 := Lib.hid (getN_put bs n size hf)
      have hp2 := Lib.hid (getN_put_next bs n size hf)
      have hp3 := putB_length bs n size hf
      have hp4 := Lib.hid (putB_take bs n size)
      have hp5 := putB_le bs n size
      have hp6 := putB_ge bs n size
      rw [hlb.out] at hp1 hp2 hp3 hp4 hp5 hp6
      obtain ⟨ps, hps⟩ : ∃ ps, ps = putB bs n size := ⟨_, rfl⟩
      rw [← hps] at hp1 hp2 hp3 hp4 hp5 hp6
      have HPS := Lib.hid hps
      clear hps
      have hp7 : ((ps.length : Int) == (m : Int) + size) = true := by rw [beq_iff_eq]; exact hp3
      clear hp3
      go_enter Try.func8, Try.ntmps8
      go_wp2_with (first
        | (go_at_call 15; refine (answers01_any _).mono ?_; rintro e w1 ⟨rfl, hb1⟩; have hbw := nx hbw hb1)
        | (go_at_call 17; refine (rfits_any _ _ _ hn).mono ?_; rintro e w' ⟨rfl, rfl⟩)
        | ((with_reducible show wpList _ _ _ (⟨some 28, _, _, _, _, _⟩ :: _) _ _); refine wpL_cloneB rfl (.tmp 26) (.tmp 27) rfl rfl A m c bs rfl (hb.below hbw) (by omega) ?_; intro v2 w2 hown2 hb2; obtain ⟨A2, c2, rfl, hr2, hl2, hc2⟩ := hown2.form; have hbw := nx hbw hb2)
        | (go_at_call 19; refine (put_any _ _ _ bs _ _ _ hr2 (by rw [hlb.out]; omega)).mono ?_; rintro e w3 ⟨v3, rfl, hown3, hb3⟩; rw [← HPS.out] at hown3; obtain ⟨A3, c3, rfl, hr3, hl3, hc3⟩ := hown3.form; have hbw := nx hbw hb3)
        | (go_at_call 24; refine (get_any _ _ _ ps _ _ _ hr3 hl3 (by omega)).mono ?_; rintro e w' ⟨he, rfl⟩; first | rw [hp1.out] at he | rw [hp2.out] at he; subst he)
        | (go_at_call 18; refine (same_any _ _ _ _ _ _ bs bs _ (by have h := hr3.take hp6; rwa [hp4.out] at h) (hb.below hbw) (by unfold maxLen; omega) (by unfold maxLen; omega)).mono ?_; rintro e w5 ⟨rfl, k5, rfl⟩; have hbw := dN hbw k5))
      go_ret
      exact ⟨rfl, hbw⟩
    · have hfe : fitsB n size = false := by simpa using hf
      go_enter Try.func8, Try.ntmps8
      go_wp2_with (first
        | (go_at_call 15; refine (answers01_any _).mono ?_; rintro e w1 ⟨rfl, hb1⟩; have hbw := nx hbw hb1)
        | (go_at_call 17; refine (rfits_any _ _ _ hn).mono ?_; rintro e w' ⟨rfl, rfl⟩))
      go_ret
      exact ⟨rfl, hbw⟩

set_option maxHeartbeats 400000 in
theorem numOrder_walk (a b z : Nat) (w : World) (ha : a < 4294967296) (hb : b < 4294967296) (hz : z < 256) :
    Calls Try.prog 4 #[.int .u32 (a : Int), .int .u32 (b : Int), .int .u8 (z : Int)] w (LawT w) := by
  have hbw : Below w.heap.size w w := bl
  obtain ⟨k, hk⟩ : ∃ k, k = z % 4 + 4 := ⟨_, rfl⟩
  have hk1 : 4 ≤ k := by omega
  have hk2 : k ≤ 7 := by omega
  have hpk : 4294967296 ≤ 256 ^ k := Nat.le_trans (by decide) (Nat.pow_le_pow_right (n := 256) (by decide) hk1)
  have hfit : ∀ x : Nat, x < 4294967296 → fitsB x k = true := fun x hx => by
    unfold fitsB
    refine decide_eq_true ⟨by omega, by omega, by omega, ?_⟩
    have : (x : Int) < ((256 ^ k : Nat) : Int) := by omega
    rwa [Int.natCast_pow] at this
  have hpa : Hid (putB [] a k = be a k) := by unfold putB; rw [if_pos (hfit a ha)]; rfl
  have hpb : Hid (putB [] b k = be b k) := by unfold putB; rw [if_pos (hfit b hb)]; rfl
  have hlt : Op.bytesLess (bstr (be a k)).toList (bstr (be b k)).toList = decide ((a : Int) < (b : Int)) := by
    rw [bytesLess_eq, bstr_toList, bstr_toList, decide_eq_decide, be_lt (by omega) (by omega)]; omega
  have heq : ((bstr (be a k)).toList == (bstr (be b k)).toList) = ((a : Int) == (b : Int)) := by
    rw [bstr_toList, bstr_toList, Bool.eq_iff_iff, beq_iff_eq, beq_iff_eq, be_inj (by omega) (by omega)]; omega
  have hla : (be a k).length = k := length_be _ _
  have hlb : (be b k).length = k := length_be _ _
  obtain ⟨x, hx⟩ : ∃ x, x = be a k := ⟨_, rfl⟩
  obtain ⟨y, hy⟩ : ∃ y, y = be b k := ⟨_, rfl⟩
  rw [← hx, ← hy] at hlt heq
  rw [← hx] at hpa hla
  rw [← hy] at hpb hlb
  have HK := Lib.hid hk
  have HLA := Lib.hid hla
  have HLB := Lib.hid hlb
  clear hx hy hfit hpk hk hla hlb
  go_enter Try.func4, Try.ntmps4
  go_wp2_with fail
  rw [show ((z : Int) % 4 + 4) = (k : Int) by have := HK.out; omega]
  refine (put_any _ _ _ [] _ _ _ (Rd.nil _ _ _) (by omega)).mono ?_
  rintro e w1 ⟨v1, rfl, hown1, hb1⟩
  rw [hpa.out] at hown1
  obtain ⟨A1, c1, rfl, hr1, hl1, hc1⟩ := hown1.form
  rw [HLA.out] at hr1 hl1 ⊢
  have hbw := nx hbw hb1
  clear hown1
  go_wp2_with fail
  refine (put_any _ _ _ [] _ _ _ (Rd.nil _ _ _) (by omega)).mono ?_
  rintro e w2 ⟨v2, rfl, hown2, hb2⟩
  rw [hpb.out] at hown2
  obtain ⟨A2, c2, rfl, hr2, hl2, hc2⟩ := hown2.form
  rw [HLB.out] at hr2 hl2 ⊢
  have hbw := nx hbw hb2
  clear hown2
  go_wp2_with (go_at_call 15; refine (answers01_any _).mono ?_; rintro e w3 ⟨rfl, hb3⟩; have hbw := nx hbw hb3; have cx := conv_str (P := Try.prog) _ _ _ Try.underlying22 Try.underlying5 Try.underlying9 w3 A1 k c1 x ((hr1.below hb2).below hb3); have cy := conv_str (P := Try.prog) _ _ _ Try.underlying22 Try.underlying5 Try.underlying9 w3 A2 k c2 y (hr2.below hb3))
  go_ret
  exact ⟨rfl, hbw⟩
end Go.Proofs.Ytnhjfdgdjfndiaa
