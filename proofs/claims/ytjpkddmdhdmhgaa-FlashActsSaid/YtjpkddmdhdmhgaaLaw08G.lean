/- FlashActs: whatever the number of sectors. -/
import Derived.Test.YtjpkddmdhdmhgaaLaw08F
namespace Go.Proofs.Ytjpkddmdhdmhgaa
open Go.RowKit

set_option maxRecDepth 100000 in
set_option maxHeartbeats 1000000 in
theorem flashActs_bad (s : Int) (hs : s < 1 ∨ 4096 < s) (A : Option Addr) (na c : Nat) (w : World) :
    Calls Try.prog 7 #[.int .i64 s, .slice A na c] w (LawT w) := by
  have hn := new_bad w s hs
  have HN := Lib.hid hn
  clear hn
  by_cases h1 : s < 1
  · have h1' : ¬ (1 : Int) ≤ s := by omega
    clear hs
    go_enter Try.func7, Try.ntmps7
    go_wp2_with (first
      | (go_at_call 20; refine HN.out.mono ?_; rintro e w1 ⟨rfl, rfl⟩)
      | (go_at_call 21; refine (answers08_any _).mono ?_; rintro e w2 ⟨rfl, hb2⟩)
      | fail)
    go_ret
    exact ⟨rfl, hb2⟩
  · have h2 : ¬ s ≤ 4096 := by omega
    have h1' : (1 : Int) ≤ s := by omega
    clear hs h1
    go_enter Try.func7, Try.ntmps7
    go_wp2_with (first
      | (go_at_call 20; refine HN.out.mono ?_; rintro e w1 ⟨rfl, rfl⟩)
      | (go_at_call 21; refine (answers08_any _).mono ?_; rintro e w2 ⟨rfl, hb2⟩)
      | fail)
    go_ret
    exact ⟨rfl, hb2⟩

set_option maxRecDepth 100000 in
set_option maxHeartbeats 1000000 in
theorem flashActs_big (n : Nat) (h1 : 60 < n) (h2 : n ≤ 4096) (A : Option Addr) (na c : Nat) (w : World) :
    Calls Try.prog 7 #[.int .i64 (n : Int), .slice A na c] w (LawT w) := by
  go_enter Try.func7, Try.ntmps7
  go_wp2_with (first
    | (go_at_call 20; refine (new_any w n (by omega) h2).mono ?_; rintro e w1 ⟨g0, F0, rfl, _, hb1⟩)
    | (go_at_call 21; refine (answers08_any _).mono ?_; rintro e w2 ⟨rfl, hb2⟩)
    | fail)
  go_ret
  exact ⟨rfl, nx hb1 hb2⟩

theorem flashActs_any (s : Int) (A : Option Addr) (na c : Nat) (xs : List Ac) (w : World) (h : RdE encAc w A na xs) (hcm : na ≤ 9223372036854775807) :
    Calls Try.prog 7 #[.int .i64 s, .slice A na c] w (LawT w) := by
  by_cases hs : s < 1 ∨ 4096 < s
  · exact flashActs_bad s hs A na c w
  · obtain ⟨n, rfl⟩ := Int.eq_ofNat_of_zero_le (show 0 ≤ s by omega)
    by_cases h60 : n ≤ 60
    · exact flashActs_walk n (by omega) h60 A na c xs w h hcm
    · exact flashActs_big n (by omega) (by omega) A na c w
end Go.Proofs.Ytjpkddmdhdmhgaa
