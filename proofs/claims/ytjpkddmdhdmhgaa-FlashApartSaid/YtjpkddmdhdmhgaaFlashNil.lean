/- flash: a device that is none. -/
import Derived.Test.YtjpkddmdhdmhgaaFlash7
namespace Go.Proofs.Ytjpkddmdhdmhgaa
open Go.RowKit

set_option maxHeartbeats 400000 in
theorem nil_check (w : World) (k : Int) : Calls Try.prog 69 #[.pointer none, .int .i64 k] w (Ret (.int .i64 1) w) := by
  go_enter Try.func69, Try.ntmps69
  go_wp2
  go_ret
  exact ⟨rfl, rfl⟩
set_option maxHeartbeats 400000 in
theorem nil_read (w : World) (k : Int) : Calls Try.prog 25 #[.pointer none, .int .i64 k] w (Ret (.tuple #[.slice none 0 0, .int .i64 1]) w) := by
  go_enter Try.func25, Try.ntmps25
  go_wp2_with (go_at_call 69; refine (nil_check _ _).mono ?_; rintro e w1 ⟨rfl, rfl⟩)
  go_ret2
  exact ⟨rfl, rfl⟩
set_option maxHeartbeats 400000 in
theorem nil_write (w : World) (k : Int) (A : Option Addr) (n c : Nat) : Calls Try.prog 22 #[.pointer none, .int .i64 k, .slice A n c] w (Ret (.int .i64 1) w) := by
  go_enter Try.func22, Try.ntmps22
  go_wp2_with (go_at_call 69; refine (nil_check _ _).mono ?_; rintro e w1 ⟨rfl, rfl⟩)
  go_ret
  exact ⟨rfl, rfl⟩
set_option maxHeartbeats 400000 in
theorem nil_sync (w : World) : Calls Try.prog 23 #[.pointer none] w (Ret (.int .i64 1) w) := by
  go_enter Try.func23, Try.ntmps23
  go_wp2
  go_ret
  exact ⟨rfl, rfl⟩
set_option maxHeartbeats 400000 in
theorem nil_limit (w : World) (k : Int) : Calls Try.prog 30 #[.pointer none, .int .i64 k] w (Ret (.int .i64 1) w) := by
  go_enter Try.func30, Try.ntmps30
  go_wp2
  go_ret
  exact ⟨rfl, rfl⟩
set_option maxHeartbeats 400000 in
theorem nil_crash (w : World) (m t : Int) : Calls Try.prog 24 #[.pointer none, .int .u64 m, .int .u64 t] w (Ret (.int .i64 1) w) := by
  go_enter Try.func24, Try.ntmps24
  go_wp2
  go_ret
  exact ⟨rfl, rfl⟩
set_option maxHeartbeats 400000 in
theorem nil_len (w : World) : Calls Try.prog 34 #[.pointer none] w (Ret (.int .i64 0) w) := by
  go_enter Try.func34, Try.ntmps34
  go_wp2
  go_ret
  exact ⟨rfl, rfl⟩
set_option maxHeartbeats 400000 in
theorem nil_down (w : World) : Calls Try.prog 33 #[.pointer none] w (Ret (.bool true) w) := by
  go_enter Try.func33, Try.ntmps33
  go_wp2
  go_ret
  exact ⟨rfl, rfl⟩
set_option maxHeartbeats 400000 in
theorem nil_unsure (w : World) : Calls Try.prog 36 #[.pointer none] w (Ret (.slice none 0 0) w) := by
  go_enter Try.func36, Try.ntmps36
  go_wp2
  go_ret
  exact ⟨rfl, rfl⟩
set_option maxHeartbeats 400000 in
theorem nil_copy (w : World) : Calls Try.prog 32 #[.pointer none] w (Ret (.pointer none) w) := by
  go_enter Try.func32, Try.ntmps32
  go_wp2
  go_ret
  exact ⟨rfl, rfl⟩
end Go.Proofs.Ytjpkddmdhdmhgaa
