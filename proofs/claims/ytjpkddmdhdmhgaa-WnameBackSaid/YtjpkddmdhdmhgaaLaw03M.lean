/- WnameBack: the law's walk, whole. -/
import Derived.Test.YtjpkddmdhdmhgaaLaw03K
namespace Go.Proofs.Ytjpkddmdhdmhgaa
open Go.RowKit

set_option maxRecDepth 100000 in
set_option maxHeartbeats 2000000 in
theorem wnameBack_walk (A0 A1 A2 : Option Addr) (n0 c0 n1 c1 n2 c2 : Nat) (names : List (List (List UInt8))) (ahead : List UInt8) (sh : List Bool) (w : World) (h : RdE (slE encS) w A0 n0 names) (ha : RdB w A1 n1 ahead) (hs : RdE encBool w A2 n2 sh) :
    Calls Try.prog 10 #[.slice A0 n0 c0, .slice A1 n1 c1, .slice A2 n2 c2] w (LawT w) := by
  have l0 := h.1
  have l1 := ha.len
  have l2 := hs.1
  subst l0 l1 l2
  by_cases h60 : names.length ≤ 60 ∧ ahead.length ≤ 20000
  · exact wnameBack_ok A0 A1 A2 c0 c1 c2 names ahead sh w h ha hs h60.1 h60.2
  · clear h ha hs
    generalize names.length = n at h60 ⊢
    generalize ahead.length = m at h60 ⊢
    go_enter Try.func10, Try.ntmps10
    go_wp2_with fail
    refine (wnew_any _).mono ?_
    rintro e w1 ⟨g, F, rfl, hw1, hb1⟩
    go_wp2_with fail
    refine (wnew_any _).mono ?_
    rintro e w2 ⟨l, G, rfl, hl2, hb2⟩
    have hbw := nx hb1 hb2
    clear hw1 hl2
    by_cases h1 : n ≤ 60
    · have h2 : ¬ m ≤ 20000 := fun h2 => h60 ⟨h1, h2⟩
      clear h60
      go_wp2_with (first
        | (go_at_call 38; refine (answers03_any _).mono ?_; rintro e w3 ⟨rfl, hb3⟩; have hbw := nx hbw hb3)
        | fail)
      go_ret
      exact ⟨rfl, hbw⟩
    · clear h60
      go_wp2_with (first
        | (go_at_call 38; refine (answers03_any _).mono ?_; rintro e w3 ⟨rfl, hb3⟩; have hbw := nx hbw hb3)
        | fail)
      go_ret
      exact ⟨rfl, hbw⟩
end Go.Proofs.Ytjpkddmdhdmhgaa
