/- WnameSets: the law's walk, whole. -/
import Derived.Test.YtjpkddmdhdmhgaaLaw03T
namespace Go.Proofs.Ytjpkddmdhdmhgaa
open Go.RowKit

set_option maxRecDepth 100000 in
set_option maxHeartbeats 2000000 in
theorem wnameSets_walk (A : Option Addr) (m c : Nat) (bs : List UInt8) (at' n size : Int) (w : World) (hb : RdB w A m bs) (hmc : m ≤ c) (hcm : c ≤ maxLen) (hn : n ≤ 9223372036854775807) (hr1 : -9223372036854775808 ≤ size) (hr2 : size ≤ 9223372036854775807) :
    Calls Try.prog 12 #[.slice A m c, .int .i64 at', .int .i64 n, .int .i64 size] w (LawT w) := by
  have hlb := hb.len
  subst hlb
  by_cases h5 : 5000 < bs.length
  · go_enter Try.func12, Try.ntmps12
    go_wp2_with (first
      | (go_at_call 37; refine (wnew_any _).mono ?_; rintro e w1 ⟨g, F, rfl, hw1, hb1⟩; have hbw := hb1)
      | (go_at_call 38; refine (answers03_any _).mono ?_; rintro e w2 ⟨rfl, hb2⟩; have hbw := nx hbw hb2))
    go_ret
    exact ⟨rfl, hbw⟩
  · by_cases hs : setOk (Wr.nil.raw bs) at' n size
    · obtain ⟨hf, h0, h1, h2⟩ := hs
      obtain ⟨_, hp1, hp7⟩ := putB_fit_length hf
      obtain ⟨k, rfl⟩ := Int.eq_ofNat_of_zero_le h0
      obtain ⟨z, rfl⟩ := Int.eq_ofNat_of_zero_le (show 0 ≤ size by omega)
      have hbl : (Wr.nil.raw bs).b.length = bs.length := rfl
      rw [hbl] at h1 h2
      obtain ⟨b0, off, rfl, _⟩ := hb.flat (by omega)
      exact wnameSets_ok b0 off c bs k z n w hb (by omega) hmc hcm hf (by omega) hn _ rfl
    · exact wnameSets_bad A _ c bs at' n size w hb (by omega) hs hn hr1 hr2
end Go.Proofs.Ytjpkddmdhdmhgaa
