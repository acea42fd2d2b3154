/- slices.IndexFunc at pick.Note's own test. -/
import Derived.Test.YtnhjfdgdjfndiaaBytesLib
import Derived.Test.YtnhjfdgdjfndiaaPick
namespace Go.Proofs.Ytnhjfdgdjfndiaa
open Go.RowKit

set_option maxHeartbeats 400000 in
theorem note1_any (A : Option Addr) (n c : Nat) (k : Int) (bd : Bool) (xs : List UInt8) (g : Nat) (A' : Option Addr) (n' c' : Nat) (ys : List UInt8) (w : World) (hx : RdB w A n xs) (hg : w.cell? ⟨g, 0, none⟩ = some (.slice A' n' c')) (hy : RdB w A' n' ys) :
    Calls Try.prog 38 #[.agg #[.slice A n c, .int .i64 k, .bool bd], .pointer (some ⟨g, 0, none⟩)] w (RetP (fun v _ => v = .bool (decide (xs = ys))) w) := by
  have hlt := World.block_lt_of_cell? w _ hg
  go_enter Try.func38, Try.ntmps38
  go_wp2_with (go_at_call 39; refine (bequal_any _ _ _ _ _ _ xs ys _ (hx.below (bl.alloc (Nat.le_refl _) _)) (hy.below (bl.alloc (Nat.le_refl _) _))).mono ?_; rintro e w' ⟨rfl, rfl⟩)
  go_ret
  exact ⟨_, rfl, rfl, bl.alloc (Nat.le_refl _) _⟩

set_option maxHeartbeats 400000 in
theorem indexF_any (A : Option Addr) (n c : Nat) (ts : List Tr) (g : Nat) (A' : Option Addr) (n' c' : Nat) (ys : List UInt8) (w : World) {So Si : Nat → Prop} (ht : Els encT So Si w A n ts) (hn : n ≤ 1000000) (hg : w.cell? ⟨g, 0, none⟩ = some (.slice A' n' c')) (hy : RdB w A' n' ys) :
    Calls Try.prog 37 #[.slice A n c, .func (.func 38) #[] #[.pointer (some ⟨g, 0, none⟩)]] w
      (RetP (fun v _ => v = .int .i64 (findV ts ys)) w) := by
  have hlt := Lib.hid ht.len
  go_enter Try.func37, Try.ntmps37
  go_wp2
  go_loopw [5, 8] (fun _ i wr => ∃ k : Nat, i = .int .i64 k ∧ k ≤ n ∧ findT ts ys k = none ∧ Below w.heap.size w wr) (fun _ i _ => n - (intOf i).toNat)
  case atStart => exact ⟨0, rfl, Nat.zero_le _, rfl, bl⟩
  case round =>
    obtain ⟨k, rfl, hk, hf, hbw⟩ := hrel
    have HF := Lib.hid hf
    clear hf
    by_cases hlt' : k < n
    · obtain ⟨b, off, rfl, _, hat⟩ := encT_at ht (by omega)
      obtain ⟨t, htk⟩ : ∃ t, ts[k]? = some t := ⟨_, List.getElem?_eq_getElem (by rw [hlt.out]; exact hlt')⟩
      obtain ⟨A1, n1, c1, c0, c1', c2, hel, _⟩ := hat k t htk
      have d0 := below_cell hbw c0
      have d1 := below_cell hbw c1'
      have d2 := below_cell hbw c2
      have hxb := (els_bytes hel).below hbw
      have hgr := below_cell hbw hg
      have hyr := hy.below hbw
      have HTK := Lib.hid htk
      clear hat htk c0 c1' c2
      by_cases he : t.addr = ys
      · have hres : Hid (findV ts ys = (k : Int)) := findV_some (findT_found HF.out HTK.out he _ (by rw [hlt.out]; omega))
        have hd : decide (t.addr = ys) = true := decide_eq_true he
        clear he
        go_wp2_with (go_at_call 38; refine (note1_any _ _ _ _ _ t.addr _ _ _ _ ys _ hxb hgr hyr).mono ?_; rintro e w2 ⟨v2, rfl, rfl, hb2⟩; rw [hd])
        go_ret
        exact ⟨_, rfl, by rw [hres.out]; rfl, nx hbw hb2⟩
      · have hres : Hid (findT ts ys (k + 1) = none) := findT_next HF.out HTK.out he
        have hd : decide (t.addr = ys) = false := decide_eq_false he
        clear he
        go_wp2_with (go_at_call 38; refine (note1_any _ _ _ _ _ t.addr _ _ _ _ ys _ hxb hgr hyr).mono ?_; rintro e w2 ⟨v2, rfl, rfl, hb2⟩; rw [hd])
        go_roundw
        case rel => exact ⟨k + 1, by go_num, by omega, hres.out, nx hbw hb2⟩
        case measure => simp [intOf]; omega
    · have hres : Hid (findV ts ys = -1) := findV_none (by rw [hlt.out, show n = k by omega]; exact HF.out)
      go_wp2
      go_ret
      exact ⟨_, rfl, by rw [hres.out]; rfl, hbw⟩
end Go.Proofs.Ytnhjfdgdjfndiaa
