/- gazetteerref01.Put: a number behind bytes. -/
import Derived.Test.YtjpkddmdhdmhgaaBytes
import Derived.Test.YtjpkddmdhdmhgaaNum
namespace Go.Proofs.Ytjpkddmdhdmhgaa
open Go.RowKit

set_option maxHeartbeats 400000 in
theorem rput_any (A : Option Addr) (m c : Nat) (bs : List UInt8) (n size : Int) (w : World) (hb : RdB w A m bs) (hm : m ≤ 140737488355000) (hn : n ≤ 9223372036854775807) :
    Calls Try.prog 54 #[.slice A m c, .int .i64 n, .int .i64 size] w (RetP (fun v w' => OwnB w' w.heap.size v (putB bs n size)) w) := by
  have hlb := Lib.hid hb.len
  by_cases hf : fitsB n size = true
  · obtain ⟨f1, f2, f3, f4⟩ := fitsB_true hf
    have F4 := Lib.hid f4
    clear f4
    obtain ⟨z, rfl⟩ := Int.eq_ofNat_of_zero_le (Int.le_trans (by decide) f1)
    obtain ⟨q, rfl⟩ := Int.eq_ofNat_of_zero_le f3
    have hbl : Hid (putB bs q z = bs ++ be q z) := by unfold putB; rw [if_pos hf]; rfl
    have hmk := mkB z z (Nat.le_refl _) (by omega)
    go_enter Try.func54, Try.ntmps54
    go_wp2_with (first
      | ((with_reducible show wpList _ _ _ (⟨some 12, _, _, _, _, _⟩ :: _) _ _); refine wpL_cloneB rfl (.tmp 10) (.tmp 11) rfl rfl A m c bs rfl hb (by omega) ?_; intro v1 w1 hown1 hb1)
      | (go_at_call 53; refine (rfits_any _ _ _ hn).mono ?_; rintro e w' ⟨rfl, rfl⟩))
    obtain ⟨g, hg⟩ : ∃ g, g = w1.heap.size := ⟨_, rfl⟩
    have hmade := OwnB.made w1 z (by unfold maxLen; omega)
    have hbn : Below g w1 (w1.alloc (.cells (madeCells #[.int .u8 0] z) 5)) := by rw [hg]; exact (Below.refl _ _).alloc (Nat.le_refl _) _
    rw [← hg] at hmade ⊢
    have HG := Lib.hid hg
    clear hg
    go_loopw [1, 9] (fun nn i wr => ∃ j : Nat, ∃ s : List UInt8, i = .int .i64 ((j : Int) - 1) ∧ j ≤ z ∧ nn = .int .i64 ((q / 256 ^ (z - j) : Nat) : Int) ∧
        OwnB wr g (.slice (some ⟨g, 0, none⟩) z z) (List.replicate j 0 ++ s) ∧ be q z = be (q / 256 ^ (z - j)) j ++ s ∧ Below g w1 wr) (fun _ i _ => (intOf i + 1).toNat)
    case atStart => exact ⟨z, [], rfl, Nat.le_refl _, by simp, by simpa using hmade, by simp, hbn⟩
    case round =>
      obtain ⟨j, s, rfl, hj, rfl, hown, hbe, hbw⟩ := hrel
      have HBE := Lib.hid hbe
      clear hbe
      rcases j with _ | i
      · have hrd : RdB wr (some ⟨g, 0, none⟩) z s := by simpa using hown.rd.1
        have hbw1 : Below w1.heap.size w1 wr := by rw [← HG.out]; exact hbw
        have ho1 : OwnB wr w.heap.size v1 bs := hown1.below hbw1
        have hsz : w.heap.size ≤ wr.heap.size := Nat.le_trans hb1.size hbw1.size
        have hbr : Below w.heap.size w wr := hb1.trans (hbw1.mono hb1.size)
        go_wp2_with ((with_reducible show wpList _ _ _ (⟨some 36, _, _, _, _, _⟩ :: _) _ _); refine wpL_appB rfl (.tmp 34) (.tmp 35) rfl w.heap.size v1 bs rfl ho1 _ z z s rfl hrd ?hb hsz ?_; rotate_right; intro v2 w2 hown2 hg2 _)
        case hb => rw [hlb.out]; omega
        go_ret
        refine ⟨_, rfl, ?_, hbr.grown hg2 hsz fun k hk => (World.ownsRow.lt ho1 k hk).1⟩
        rw [hbl.out, HBE.out]
        exact hown2
      · obtain ⟨p, hp⟩ : ∃ p, p = q / 256 ^ (z - (i + 1)) := ⟨_, rfl⟩
        rw [← hp] at HBE ⊢
        have HP := Lib.hid hp
        clear hp
        have hp5 : p ≤ q := by rw [HP.out]; exact Nat.div_le_self _ _
        have hc := hown.cell (k := i) (by simp; omega)
        have hfz := hown.free i
        go_wp2
        go_roundw
        case rel =>
          refine ⟨i, UInt8.ofNat p :: s, rfl, by omega, ?_, ?_, ?_, hbw.setCell (Nat.le_refl _) _⟩
          · rw [HP.out]
            congr 1
            have e : z - i = z - (i + 1) + 1 := by omega
            rw [e, Nat.pow_succ, ← Nat.div_div_eq_div_mul]
            rfl
          · have h := hown.set i (UInt8.ofNat p)
            rw [set_last, ofNat_u8] at h
            exact h
          · have e : z - i = z - (i + 1) + 1 := by omega
            rw [HBE.out, e, Nat.pow_succ, ← Nat.div_div_eq_div_mul, ← HP.out, be]
            simp
        case measure => simp [intOf]
  · have hfe : fitsB n size = false := by simpa using hf
    have hbl : Hid (putB bs n size = bs) := by unfold putB; rw [if_neg hf]; rfl
    clear hf
    go_enter Try.func54, Try.ntmps54
    go_wp2_with (first
      | ((with_reducible show wpList _ _ _ (⟨some 12, _, _, _, _, _⟩ :: _) _ _); refine wpL_cloneB rfl (.tmp 10) (.tmp 11) rfl rfl A m c bs rfl hb (by omega) ?_; intro v1 w1 hown1 hb1)
      | (go_at_call 53; refine (rfits_any _ _ _ hn).mono ?_; rintro e w' ⟨rfl, rfl⟩))
    go_ret
    exact ⟨_, rfl, by rw [hbl.out]; exact hown1, hb1⟩
end Go.Proofs.Ytjpkddmdhdmhgaa
