/- The reference's Size, Sound, Exact of names. -/
import Derived.Test.YtjpkddmdhdmhgaaWtr2
namespace Go.Proofs.Ytjpkddmdhdmhgaa
open Go.RowKit

set_option maxHeartbeats 400000 in
theorem rsize_any (A : Option Addr) (n c : Nat) (ns : List (List UInt8)) (w : World) {So Si : Nat → Prop} (h : Els encS So Si w A n ns) (hs : sizeN ns ≤ 1000000000000) :
    Calls Try.prog 51 #[.slice A n c] w (Ret (.int .i64 (sizeN ns : Int)) w) := by
  have hl := h.len
  subst hl
  have hsl := sizeN_length ns
  go_enter Try.func51, Try.ntmps51
  go_wp2
  go_loop [3, 4] (fun sv iv => ∃ k : Nat, iv = .int .i64 k ∧ k ≤ ns.length ∧ sv = .int .i64 (sizeN (ns.take k) : Nat)) (fun _ iv => ns.length - (intOf iv).toNat)
  case atStart => exact ⟨0, rfl, Nat.zero_le _, rfl⟩
  case round =>
    obtain ⟨k, rfl, hk, rfl⟩ := hrel
    have ht := sizeN_take_le ns k
    by_cases hlt : k < ns.length
    · obtain ⟨l, hx⟩ : ∃ l, ns[k]? = some l := ⟨_, List.getElem?_eq_getElem hlt⟩
      obtain ⟨b, off, rfl, _, hc, hll⟩ := strs_at h hx
      have hst := sizeN_take hx
      have ht2 := sizeN_take_le ns (k + 1)
      have hle : sizeN (ns.take k) + l.length + 1 ≤ 1000000000000 := by omega
      have HS := Lib.hid hst
      clear hx hst ht2
      generalize sizeN (ns.take k) = z at HS ht hle ⊢
      have hbs := bstr_size l
      go_wp2
      go_round
      case rel => exact ⟨k + 1, by go_num, by omega, by rw [HS.out]; go_num⟩
      case measure => simp [intOf]; omega
    · obtain rfl : k = ns.length := by omega
      rw [List.take_length]
      go_wp2
      go_ret
      exact ⟨rfl, rfl⟩

theorem sizeN_labels (ns : List (List UInt8)) (h : ∀ l ∈ ns, 1 ≤ l.length ∧ l.length ≤ 63) : 2 * ns.length + 1 ≤ sizeN ns ∧ sizeN ns ≤ 64 * ns.length + 1 := by
  induction ns with
  | nil => simp [sizeN]
  | cons l n ih =>
    have h1 := h l (List.mem_cons_self ..)
    have h2 := ih (fun m hm => h m (List.mem_cons_of_mem _ hm))
    simp only [sizeN, List.length_cons]
    omega

set_option maxRecDepth 100000 in
set_option maxHeartbeats 1000000 in
theorem rsound_any (A : Option Addr) (n c : Nat) (ns : List (List UInt8)) (w : World) {So Si : Nat → Prop} (h : Els encS So Si w A n ns) :
    Calls Try.prog 45 #[.slice A n c] w (Ret (.bool (soundB ns)) w) := by
  have hl := h.len
  subst hl
  by_cases h127 : 127 < ns.length
  · have hb : soundB ns = false := soundB_false fun hs => by have := sizeN_labels ns hs.1; have := hs.2; omega
    rw [hb]
    clear hb
    go_enter Try.func45, Try.ntmps45
    go_wp2
    go_ret
    exact ⟨rfl, rfl⟩
  · go_enter Try.func45, Try.ntmps45
    go_wp2
    go_loop [3] (fun iv => ∃ k : Nat, iv = .int .i64 k ∧ k ≤ ns.length ∧ Hid (∀ l ∈ ns.take k, 1 ≤ l.length ∧ l.length ≤ 63)) (fun iv => ns.length - (intOf iv).toNat)
    case atStart => exact ⟨0, rfl, Nat.zero_le _, fun l hl => by simp at hl⟩
    case round =>
      obtain ⟨k, rfl, hk, HK⟩ := hrel
      by_cases hlt : k < ns.length
      · obtain ⟨l, hx⟩ : ∃ l, ns[k]? = some l := ⟨_, List.getElem?_eq_getElem hlt⟩
        obtain ⟨b, off, rfl, _, hc, hll⟩ := strs_at h hx
        have HX := Lib.hid hx
        have hbs := bstr_size l
        clear hx
        by_cases hb : 1 ≤ l.length ∧ l.length ≤ 63
        · obtain ⟨h1, h2⟩ := hb
          go_wp2
          go_round
          case rel => exact ⟨k + 1, by go_num, by omega, fun m hm => by
            rw [List.take_add_one, HX.out, Option.toList_some, List.mem_append, List.mem_singleton] at hm
            rcases hm with hm | rfl
            · exact HK.out m hm
            · exact ⟨h1, h2⟩⟩
          case measure => simp [intOf]; omega
        · have hf : soundB ns = false := soundB_false fun hs => hb (hs.1 l (List.mem_of_getElem? HX.out))
          rw [hf]
          clear hf
          by_cases h1 : l.length < 1
          · go_wp2
            go_ret
            exact ⟨rfl, rfl⟩
          · have h2 : 63 < l.length := by omega
            go_wp2
            go_ret
            exact ⟨rfl, rfl⟩
      · obtain rfl : k = ns.length := by omega
        have hlab := HK.out
        rw [List.take_length] at hlab
        have hz := sizeN_labels ns hlab
        have HB := Lib.hid (show soundB ns = decide ((sizeN ns : Int) ≤ 255) by
          rw [Bool.eq_iff_iff, soundB_iff, decide_eq_true_iff]
          exact ⟨fun hs => by have := hs.2; omega, fun hs => ⟨hlab, by omega⟩⟩)
        clear hlab
        go_wp2_with (go_at_call 51; refine (rsize_any _ _ _ ns _ h (by omega)).mono ?_; rintro e w1 ⟨rfl, rfl⟩)
        go_ret
        exact ⟨ret_bool HB.out.symm, rfl⟩

set_option maxRecDepth 100000 in
set_option maxHeartbeats 1000000 in
theorem rexact_any (A A' : Option Addr) (n c n' c' : Nat) (xs ys : List (List UInt8)) (w : World) {So Si So' Si' : Nat → Prop} (hx : Els encS So Si w A n xs) (hy : Els encS So' Si' w A' n' ys) (hn : n ≤ maxLen) (hn' : n' ≤ maxLen) :
    Calls Try.prog 50 #[.slice A n c, .slice A' n' c'] w (RetN (.bool (decide (xs = ys))) w) := by
  unfold maxLen at hn hn'
  have hlx := Lib.hid hx.len
  have hly := Lib.hid hy.len
  by_cases hnn : n = n'
  · subst hnn
    go_enter Try.func50, Try.ntmps50
    go_wp2
    go_loopw [5] (fun i wr => ∃ k m : Nat, i = .int .i64 k ∧ k ≤ n ∧ wr = w.drewN m ∧ xs.take k = ys.take k) (fun i _ => n - (intOf i).toNat)
    case atStart => exact ⟨0, 0, rfl, Nat.zero_le _, rfl, rfl⟩
    case round =>
      obtain ⟨k, m, rfl, hk, rfl, ht⟩ := hrel
      have HT := Lib.hid ht
      clear ht
      by_cases hlt : k < n
      · obtain ⟨x, gx⟩ : ∃ x, xs[k]? = some x := ⟨_, List.getElem?_eq_getElem (by rw [hlx.out]; exact hlt)⟩
        obtain ⟨y, gy⟩ : ∃ y, ys[k]? = some y := ⟨_, List.getElem?_eq_getElem (by rw [hly.out]; exact hlt)⟩
        obtain ⟨b, off, rfl, _, cx, _⟩ := strs_at hx gx
        obtain ⟨b', off', rfl, _, cy, _⟩ := strs_at hy gy
        have GX := Lib.hid gx
        have GY := Lib.hid gy
        clear gx gy
        by_cases hxy : x = y
        · subst hxy
          go_wp2
          go_quiet (fail)
          go_wp2
          go_roundw
          case rel => exact ⟨k + 1, _, by go_num, by omega, rfl, take_eq_succ HT.out GX.out GY.out rfl⟩
          case measure => simp [intOf]; omega
        · have hbne : ((bstr x).toList == (bstr y).toList) = false := by rw [bstr_toList, bstr_toList, beq_eq_false_iff_ne]; exact hxy
          go_wp2
          go_quiet (fail)
          go_wp2
          go_ret
          exact ⟨ret_bool (decide_eq_false (ne_of_get GX.out GY.out hxy)).symm, _, World.drewN_drewN _ _ _⟩
      · go_wp2
        go_ret
        have hk' : k = n := by omega
        refine ⟨ret_bool (decide_eq_true ?_).symm, _, rfl⟩
        have := HT.out
        rwa [hk', List.take_of_length_le (by rw [hlx.out]; omega), List.take_of_length_le (by rw [hly.out]; omega)] at this
  · have hb : ((n : Int) != (n' : Int)) = true := by rw [bne_iff_ne]; omega
    go_enter Try.func50, Try.ntmps50
    go_wp2
    go_ret
    refine ⟨ret_bool (decide_eq_false ?_).symm, 0, rfl⟩
    rintro rfl
    exact hnn (hlx.out.symm.trans hly.out)
end Go.Proofs.Ytjpkddmdhdmhgaa
