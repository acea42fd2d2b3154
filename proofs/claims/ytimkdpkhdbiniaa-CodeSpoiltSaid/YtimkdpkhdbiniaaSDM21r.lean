/- Parts of a proof, joined: BytesLib. -/
import Derived.Test.YtimkdpkhdbiniaaSDM01
/- bytes.Clone, bytes.Equal. -/
namespace Go.Proofs.Ytimkdpkhdbiniaa
open Go.RowKit

set_option maxHeartbeats 400000 in
theorem bequal_any (A A' : Option Addr) (n c n' c' : Nat) (xs ys : List UInt8) (w : World) (hx : RdB w A n xs) (hy : RdB w A' n' ys) :
    Calls Try.prog 53 #[.slice A n c, .slice A' n' c'] w (Ret (.bool (decide (xs = ys))) w) := by
  have cx := conv_str (P := Try.prog) _ _ _ Try.underlying22 Try.underlying5 Try.underlying9 w A n c xs hx
  have cy := conv_str (P := Try.prog) _ _ _ Try.underlying22 Try.underlying5 Try.underlying9 w A' n' c' ys hy
  go_enter Try.func53, Try.ntmps53
  go_wp2
  go_ret
  exact ⟨ret_bool (by rw [bstr_toList, bstr_toList]; by_cases h : xs = ys <;> simp [h]), rfl⟩
end Go.Proofs.Ytimkdpkhdbiniaa
