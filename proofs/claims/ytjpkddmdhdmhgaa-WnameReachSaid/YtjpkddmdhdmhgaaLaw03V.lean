/- WnameReach: the law's walk, whole. -/
import Derived.Test.YtjpkddmdhdmhgaaLaw03R
namespace Go.Proofs.Ytjpkddmdhdmhgaa
open Go.RowKit

set_option maxRecDepth 100000 in
set_option maxHeartbeats 2000000 in
theorem wnameReach_walk (A : Option Addr) (n c : Nat) (ns : List (List UInt8)) (a : Nat) (w : World) (h : RdE encS w A n ns) (hnc : n ≤ c) (ha : a < 65536) :
    Calls Try.prog 11 #[.slice A n c, .int .u16 (a : Int)] w (LawT w) := by
  have hl := h.1
  subst hl
  by_cases hne : ns = []
  · subst hne
    simp only [List.length_nil] at h ⊢
    go_enter Try.func11, Try.ntmps11
    go_wp2_with (first
      | (go_at_call 37; refine (wnew_any _).mono ?_; rintro e w1 ⟨g, F, rfl, hw1, hb1⟩; have hbw := hb1)
      | (go_at_call 38; refine (answers03_any _).mono ?_; rintro e w2 ⟨rfl, hb2⟩; have hbw := nx hbw hb2)
      | (go_at_call 45; refine (rsound_any _ _ _ [] _ (h.below hbw)).mono ?_; rw [soundB_true (n := []) ⟨fun _ h => (List.not_mem_nil h).elim, by decide⟩]; rintro e w3 ⟨rfl, rfl⟩)
      | fail)
    go_ret
    exact ⟨rfl, hbw⟩
  · by_cases hs : soundB ns = true
    · exact wnameReach_ok A c ns a w h hnc ha hs hne
    · have hs' : soundB ns = false := by simpa using hs
      have HS := Lib.hid hs'
      clear hs hs'
      go_enter Try.func11, Try.ntmps11
      go_wp2_with (first
        | (go_at_call 37; refine (wnew_any _).mono ?_; rintro e w1 ⟨g, F, rfl, hw1, hb1⟩; have hbw := hb1)
        | (go_at_call 38; refine (answers03_any _).mono ?_; rintro e w2 ⟨rfl, hb2⟩; have hbw := nx hbw hb2)
        | (go_at_call 45; refine (rsound_any _ _ _ ns _ (h.below hbw)).mono ?_; rw [HS.out]; rintro e w3 ⟨rfl, rfl⟩)
        | fail)
      go_ret
      exact ⟨rfl, hbw⟩
end Go.Proofs.Ytjpkddmdhdmhgaa
