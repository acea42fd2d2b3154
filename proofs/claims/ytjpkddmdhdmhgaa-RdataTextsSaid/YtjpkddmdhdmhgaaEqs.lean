/- slices.Equal of bytes, numbers, strings; the reference's Ints and texts. -/
import Derived.Test.YtjpkddmdhdmhgaaRName
import Derived.Test.YtjpkddmdhdmhgaaSame
namespace Go.Proofs.Ytjpkddmdhdmhgaa
open Go.RowKit
set_option maxRecDepth 100000

theorem ints_at {So Si : Nat → Prop} {w : World} {A : Option Addr} {n : Nat} {ns : List Int} (h : Els encI So Si w A n ns) {k : Nat} {l : Int} (hx : ns[k]? = some l) :
    ∃ b off, A = some ⟨b, off, none⟩ ∧ So b ∧ w.cell? ⟨b, off + k, none⟩ = some (.int .i64 l) ∧ -9223372036854775808 ≤ l ∧ l ≤ 9223372036854775807 := by
  obtain ⟨b, off, rfl, hs, hat⟩ := h.flat (by rw [← h.len]; exact Nat.lt_of_le_of_lt (Nat.zero_le k) (List.getElem?_eq_some_iff.1 hx).1)
  obtain ⟨r, ⟨rfl, hl⟩, hc⟩ := hat k l hx
  exact ⟨b, off, rfl, hs, by simpa [encI, flatE] using hc 0 _ rfl, hl⟩

set_option maxHeartbeats 1000000 in
theorem seqB_any (A A' : Option Addr) (n c n' c' : Nat) (xs ys : List UInt8) (w : World) (hx : RdB w A n xs) (hy : RdB w A' n' ys) (hn : n ≤ maxLen) (hn' : n' ≤ maxLen) :
    Calls Try.prog 79 #[.slice A n c, .slice A' n' c'] w (RetN (.bool (decide (xs = ys))) w) := by
  unfold maxLen at hn hn'
  have hlx := Lib.hid hx.len
  have hly := Lib.hid hy.len
  by_cases hnn : n = n'
  · subst hnn
    go_enter Try.func79, Try.ntmps79
    go_wp2
    go_loopw [13] (fun i wr => ∃ k m : Nat, i = .int .i64 k ∧ k ≤ n ∧ wr = w.drewN m ∧ xs.take k = ys.take k) (fun i _ => n - (intOf i).toNat)
    case atStart => exact ⟨0, 0, rfl, Nat.zero_le _, rfl, rfl⟩
    case round =>
      obtain ⟨k, m, rfl, hk, rfl, ht⟩ := hrel
      have HT := Lib.hid ht
      clear ht
      by_cases hlt : k < n
      · obtain ⟨b, off, x, rfl, gx, cx⟩ := hx.at_ hlt
        obtain ⟨b', off', y, rfl, gy, cy⟩ := hy.at_ hlt
        have GX := Lib.hid gx
        have GY := Lib.hid gy
        clear gx gy
        by_cases hxy : x = y
        · subst hxy
          go_wp2
          go_quiet (fail)
          go_wp2
          go_roundw
          case rel => exact ⟨k + 1, _, by go_num, by omega, rfl, take_eq_succ HT.out GX.out GY.out rfl⟩
          case measure => simp [intOf]; omega
        · have hbne : ((x.toNat : Int) != (y.toNat : Int)) = true := by rw [bne_iff_ne]; exact fun e => hxy (u8_eq e)
          go_wp2
          go_quiet (fail)
          go_wp2
          go_ret
          exact ⟨ret_bool (decide_eq_false (ne_of_get GX.out GY.out hxy)).symm, _, World.drewN_drewN _ _ _⟩
      · go_wp2
        go_ret
        have hk' : k = n := by omega
        refine ⟨ret_bool (decide_eq_true ?_).symm, _, rfl⟩
        have := HT.out
        rwa [hk', List.take_of_length_le (by rw [hlx.out]; omega), List.take_of_length_le (by rw [hly.out]; omega)] at this
  · have hb : ((n : Int) != (n' : Int)) = true := by rw [bne_iff_ne]; omega
    go_enter Try.func79, Try.ntmps79
    go_wp2
    go_ret
    refine ⟨ret_bool (decide_eq_false ?_).symm, 0, rfl⟩
    rintro rfl
    exact hnn (hlx.out.symm.trans hly.out)

set_option maxHeartbeats 1000000 in
theorem seqI_any (A A' : Option Addr) (n c n' c' : Nat) (xs ys : List Int) (w : World) {So Si So' Si' : Nat → Prop} (hx : Els encI So Si w A n xs) (hy : Els encI So' Si' w A' n' ys) (hn : n ≤ maxLen) (hn' : n' ≤ maxLen) :
    Calls Try.prog 80 #[.slice A n c, .slice A' n' c'] w (RetN (.bool (decide (xs = ys))) w) := by
  unfold maxLen at hn hn'
  have hlx := Lib.hid hx.len
  have hly := Lib.hid hy.len
  by_cases hnn : n = n'
  · subst hnn
    go_enter Try.func80, Try.ntmps80
    go_wp2
    go_loopw [13] (fun i wr => ∃ k m : Nat, i = .int .i64 k ∧ k ≤ n ∧ wr = w.drewN m ∧ xs.take k = ys.take k) (fun i _ => n - (intOf i).toNat)
    case atStart => exact ⟨0, 0, rfl, Nat.zero_le _, rfl, rfl⟩
    case round =>
      obtain ⟨k, m, rfl, hk, rfl, ht⟩ := hrel
      have HT := Lib.hid ht
      clear ht
      by_cases hlt : k < n
      · obtain ⟨x, gx⟩ : ∃ x, xs[k]? = some x := ⟨_, List.getElem?_eq_getElem (by rw [hlx.out]; exact hlt)⟩
        obtain ⟨y, gy⟩ : ∃ y, ys[k]? = some y := ⟨_, List.getElem?_eq_getElem (by rw [hly.out]; exact hlt)⟩
        obtain ⟨b, off, rfl, _, cx, _⟩ := ints_at hx gx
        obtain ⟨b', off', rfl, _, cy, _⟩ := ints_at hy gy
        have GX := Lib.hid gx
        have GY := Lib.hid gy
        clear gx gy
        by_cases hxy : x = y
        · subst hxy
          go_wp2
          go_quiet (fail)
          go_wp2
          go_roundw
          case rel => exact ⟨k + 1, _, by go_num, by omega, rfl, take_eq_succ HT.out GX.out GY.out rfl⟩
          case measure => simp [intOf]; omega
        · have hbne : (x != y) = true := by rw [bne_iff_ne]; exact hxy
          go_wp2
          go_quiet (fail)
          go_wp2
          go_ret
          exact ⟨ret_bool (decide_eq_false (ne_of_get GX.out GY.out hxy)).symm, _, World.drewN_drewN _ _ _⟩
      · go_wp2
        go_ret
        have hk' : k = n := by omega
        refine ⟨ret_bool (decide_eq_true ?_).symm, _, rfl⟩
        have := HT.out
        rwa [hk', List.take_of_length_le (by rw [hlx.out]; omega), List.take_of_length_le (by rw [hly.out]; omega)] at this
  · have hb : ((n : Int) != (n' : Int)) = true := by rw [bne_iff_ne]; omega
    go_enter Try.func80, Try.ntmps80
    go_wp2
    go_ret
    refine ⟨ret_bool (decide_eq_false ?_).symm, 0, rfl⟩
    rintro rfl
    exact hnn (hlx.out.symm.trans hly.out)

set_option maxHeartbeats 1000000 in
theorem seqS_any (A A' : Option Addr) (n c n' c' : Nat) (xs ys : List (List UInt8)) (w : World) {So Si So' Si' : Nat → Prop} (hx : Els encS So Si w A n xs) (hy : Els encS So' Si' w A' n' ys) (hn : n ≤ maxLen) (hn' : n' ≤ maxLen) :
    Calls Try.prog 81 #[.slice A n c, .slice A' n' c'] w (RetN (.bool (decide (xs = ys))) w) := by
  unfold maxLen at hn hn'
  have hlx := Lib.hid hx.len
  have hly := Lib.hid hy.len
  by_cases hnn : n = n'
  · subst hnn
    go_enter Try.func81, Try.ntmps81
    go_wp2
    go_loopw [13] (fun i wr => ∃ k m : Nat, i = .int .i64 k ∧ k ≤ n ∧ wr = w.drewN m ∧ xs.take k = ys.take k) (fun i _ => n - (intOf i).toNat)
    case atStart => exact ⟨0, 0, rfl, Nat.zero_le _, rfl, rfl⟩
    case round =>
      obtain ⟨k, m, rfl, hk, rfl, ht⟩ := hrel
      have HT := Lib.hid ht
      clear ht
      by_cases hlt : k < n
      · obtain ⟨x, gx⟩ : ∃ x, xs[k]? = some x := ⟨_, List.getElem?_eq_getElem (by rw [hlx.out]; exact hlt)⟩
        obtain ⟨y, gy⟩ : ∃ y, ys[k]? = some y := ⟨_, List.getElem?_eq_getElem (by rw [hly.out]; exact hlt)⟩
        obtain ⟨b, off, rfl, _, cx, _⟩ := strs_at hx gx
        obtain ⟨b', off', rfl, _, cy, _⟩ := strs_at hy gy
        have GX := Lib.hid gx
        have GY := Lib.hid gy
        clear gx gy
        by_cases hxy : x = y
        · subst hxy
          go_wp2
          go_quiet (fail)
          go_wp2
          go_roundw
          case rel => exact ⟨k + 1, _, by go_num, by omega, rfl, take_eq_succ HT.out GX.out GY.out rfl⟩
          case measure => simp [intOf]; omega
        · have hbne : ((bstr x).toList == (bstr y).toList) = false := by rw [bstr_toList, bstr_toList, beq_eq_false_iff_ne]; exact hxy
          go_wp2
          go_quiet (fail)
          go_wp2
          go_ret
          exact ⟨ret_bool (decide_eq_false (ne_of_get GX.out GY.out hxy)).symm, _, World.drewN_drewN _ _ _⟩
      · go_wp2
        go_ret
        have hk' : k = n := by omega
        refine ⟨ret_bool (decide_eq_true ?_).symm, _, rfl⟩
        have := HT.out
        rwa [hk', List.take_of_length_le (by rw [hlx.out]; omega), List.take_of_length_le (by rw [hly.out]; omega)] at this
  · have hb : ((n : Int) != (n' : Int)) = true := by rw [bne_iff_ne]; omega
    go_enter Try.func81, Try.ntmps81
    go_wp2
    go_ret
    refine ⟨ret_bool (decide_eq_false ?_).symm, 0, rfl⟩
    rintro rfl
    exact hnn (hlx.out.symm.trans hly.out)

set_option maxHeartbeats 1000000 in
theorem rints_any (A A' : Option Addr) (n c n' c' : Nat) (xs ys : List Int) (w : World) {So Si So' Si' : Nat → Prop} (hx : Els encI So Si w A n xs) (hy : Els encI So' Si' w A' n' ys) (hn : n ≤ maxLen) (hn' : n' ≤ maxLen) :
    Calls Try.prog 83 #[.slice A n c, .slice A' n' c'] w (RetN (.bool (decide (xs = ys))) w) := by
  unfold maxLen at hn hn'
  have hlx := Lib.hid hx.len
  have hly := Lib.hid hy.len
  by_cases hnn : n = n'
  · subst hnn
    go_enter Try.func83, Try.ntmps83
    go_wp2
    go_loopw [5] (fun i wr => ∃ k m : Nat, i = .int .i64 k ∧ k ≤ n ∧ wr = w.drewN m ∧ xs.take k = ys.take k) (fun i _ => n - (intOf i).toNat)
    case atStart => exact ⟨0, 0, rfl, Nat.zero_le _, rfl, rfl⟩
    case round =>
      obtain ⟨k, m, rfl, hk, rfl, ht⟩ := hrel
      have HT := Lib.hid ht
      clear ht
      by_cases hlt : k < n
      · obtain ⟨x, gx⟩ : ∃ x, xs[k]? = some x := ⟨_, List.getElem?_eq_getElem (by rw [hlx.out]; exact hlt)⟩
        obtain ⟨y, gy⟩ : ∃ y, ys[k]? = some y := ⟨_, List.getElem?_eq_getElem (by rw [hly.out]; exact hlt)⟩
        obtain ⟨b, off, rfl, _, cx, _⟩ := ints_at hx gx
        obtain ⟨b', off', rfl, _, cy, _⟩ := ints_at hy gy
        have GX := Lib.hid gx
        have GY := Lib.hid gy
        clear gx gy
        by_cases hxy : x = y
        · subst hxy
          go_wp2
          go_quiet (fail)
          go_wp2
          go_roundw
          case rel => exact ⟨k + 1, _, by go_num, by omega, rfl, take_eq_succ HT.out GX.out GY.out rfl⟩
          case measure => simp [intOf]; omega
        · have hbne : (x != y) = true := by rw [bne_iff_ne]; exact hxy
          go_wp2
          go_quiet (fail)
          go_wp2
          go_ret
          exact ⟨ret_bool (decide_eq_false (ne_of_get GX.out GY.out hxy)).symm, _, World.drewN_drewN _ _ _⟩
      · go_wp2
        go_ret
        have hk' : k = n := by omega
        refine ⟨ret_bool (decide_eq_true ?_).symm, _, rfl⟩
        have := HT.out
        rwa [hk', List.take_of_length_le (by rw [hlx.out]; omega), List.take_of_length_le (by rw [hly.out]; omega)] at this
  · have hb : ((n : Int) != (n' : Int)) = true := by rw [bne_iff_ne]; omega
    go_enter Try.func83, Try.ntmps83
    go_wp2
    go_ret
    refine ⟨ret_bool (decide_eq_false ?_).symm, 0, rfl⟩
    rintro rfl
    exact hnn (hlx.out.symm.trans hly.out)

theorem rtexts_any (A A' : Option Addr) (n c n' c' : Nat) (xs ys : List (List UInt8)) (w : World) {So Si So' Si' : Nat → Prop} (hx : Els encS So Si w A n xs) (hy : Els encS So' Si' w A' n' ys) (hn : n ≤ maxLen) (hn' : n' ≤ maxLen) :
    Calls Try.prog 84 #[.slice A n c, .slice A' n' c'] w (RetN (.bool (decide (xs = ys))) w) := by
  go_enter Try.func84, Try.ntmps84
  go_wp2_with (go_at_call 50; refine (rexact_any _ _ _ _ _ _ xs ys _ hx hy hn hn').mono ?_; rintro e w1 ⟨rfl, m1, rfl⟩)
  go_ret
  exact ⟨rfl, m1, rfl⟩
end Go.Proofs.Ytjpkddmdhdmhgaa
