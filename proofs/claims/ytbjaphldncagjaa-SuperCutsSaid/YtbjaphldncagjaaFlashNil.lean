/- flash: a device that is none. -/
import Derived.Test.YtbjaphldncagjaaFlash2
namespace Go.Proofs.Ytbjaphldncagjaa
open Go.RowKit

set_option maxHeartbeats 400000 in
theorem nil_check (w : World) (k : Int) : Calls Try.prog 123 #[.pointer none, .int .i64 k] w (Ret (.int .i64 1) w) := by
  go_enter Try.func123, Try.ntmps123
  go_wp2
  go_ret
  exact ⟨rfl, rfl⟩
set_option maxHeartbeats 400000 in
theorem nil_read (w : World) (k : Int) : Calls Try.prog 119 #[.pointer none, .int .i64 k] w (Ret (.tuple #[.slice none 0 0, .int .i64 1]) w) := by
  go_enter Try.func119, Try.ntmps119
  go_wp2_with (go_at_call 123; refine (nil_check _ _).mono ?_; rintro e w1 ⟨rfl, rfl⟩)
  go_ret2
  exact ⟨rfl, rfl⟩
set_option maxHeartbeats 400000 in
theorem nil_write (w : World) (k : Int) (A : Option Addr) (n c : Nat) : Calls Try.prog 76 #[.pointer none, .int .i64 k, .slice A n c] w (Ret (.int .i64 1) w) := by
  go_enter Try.func76, Try.ntmps76
  go_wp2_with (go_at_call 123; refine (nil_check _ _).mono ?_; rintro e w1 ⟨rfl, rfl⟩)
  go_ret
  exact ⟨rfl, rfl⟩
set_option maxHeartbeats 400000 in
theorem nil_sync (w : World) : Calls Try.prog 75 #[.pointer none] w (Ret (.int .i64 1) w) := by
  go_enter Try.func75, Try.ntmps75
  go_wp2
  go_ret
  exact ⟨rfl, rfl⟩
set_option maxHeartbeats 400000 in
theorem nil_limit (w : World) (k : Int) : Calls Try.prog 29 #[.pointer none, .int .i64 k] w (Ret (.int .i64 1) w) := by
  go_enter Try.func29, Try.ntmps29
  go_wp2
  go_ret
  exact ⟨rfl, rfl⟩
set_option maxHeartbeats 400000 in
theorem nil_crash (w : World) (m t : Int) : Calls Try.prog 30 #[.pointer none, .int .u64 m, .int .u64 t] w (Ret (.int .i64 1) w) := by
  go_enter Try.func30, Try.ntmps30
  go_wp2
  go_ret
  exact ⟨rfl, rfl⟩
set_option maxHeartbeats 400000 in
theorem nil_len (w : World) : Calls Try.prog 68 #[.pointer none] w (Ret (.int .i64 0) w) := by
  go_enter Try.func68, Try.ntmps68
  go_wp2
  go_ret
  exact ⟨rfl, rfl⟩
set_option maxHeartbeats 400000 in
theorem nil_down (w : World) : Calls Try.prog 69 #[.pointer none] w (Ret (.bool true) w) := by
  go_enter Try.func69, Try.ntmps69
  go_wp2
  go_ret
  exact ⟨rfl, rfl⟩
end Go.Proofs.Ytbjaphldncagjaa
