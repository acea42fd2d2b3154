/- Parts of a proof, joined: From0. -/
import Derived.Test.YtimkdpkhdbiniaaZDF04r
/- teller.asked, whatever the message; fact.From where nothing is told. -/
namespace Go.Proofs.Ytimkdpkhdbiniaa
open Go.RowKit
set_option maxRecDepth 100000
set_option linter.unusedVariables false

theorem asked_any (t : Nat) (sq : QS) (q : Qu) (sm : MS) (m : Ms) (Z : Option Addr) (nz cz : Nat) (now : Int) (out : Value) (w : World) {S : Nat → Prop} (hT : TRow w t sq q sm m Z nz cz now out) (hm : MIn S w sm m) (hq : QIn S w sq q) (hS : ∀ b, S b → b < w.heap.size) (hL : LtM m) :
    Calls Try.prog 69 #[.pointer (some ⟨t, 0, none⟩)] w (RetP (fun v _ => v = .bool (askB q m)) w) := by
  cases hf : fineM m with
  | false =>
    have e : askB q m = false := by unfold askB; rw [hf]; simp
    rw [e]
    exact asked_no_sound t sq q sm m Z nz cz now out w hT hm hq hS hL hf
  | true =>
    cases h1 : m.resp with
    | false =>
      have e : askB q m = false := by unfold askB; rw [h1]; simp
      rw [e]
      exact asked_no_resp t sq q sm m Z nz cz now out w hT hm hq hS hL hf h1
    | true =>
      by_cases h2 : m.op = 0
      rotate_left
      · have e : askB q m = false := by unfold askB; simp [h2]
        rw [e]
        exact asked_no_op t sq q sm m Z nz cz now out w hT hm hq hS hL hf h1 h2
      · by_cases h3 : m.rcode = 0 ∨ m.rcode = 3
        rotate_left
        · have e : askB q m = false := by unfold askB; simp [show ¬ m.rcode = 0 from fun h => h3 (.inl h), show ¬ m.rcode = 3 from fun h => h3 (.inr h)]
          rw [e]
          exact asked_no_rcode t sq q sm m Z nz cz now out w hT hm hq hS hL hf h1 h2 (fun h => h3 (.inl h)) (fun h => h3 (.inr h))
        · have hrc : (decide (m.rcode = 0) || decide (m.rcode = 3)) = true := by rcases h3 with h | h <;> simp [h]
          by_cases h4 : m.qs.length = 1
          rotate_left
          · have e : askB q m = false := by
              unfold askB
              rw [qsB_no h4, Bool.and_false]
            rw [e]
            rcases h3 with h | h
            · exact asked_no_q0 t sq q sm m Z nz cz now out w hT hm hq hS hL hf h1 h2 h h4
            · exact asked_no_q3 t sq q sm m Z nz cz now out w hT hm hq hS hL hf h1 h2 h h4
          · obtain ⟨x, hx⟩ : ∃ x, m.qs = [x] := by
              match hqs : m.qs with
              | [] => rw [hqs] at h4; cases h4
              | [x] => exact ⟨x, rfl⟩
              | x :: y :: l => rw [hqs] at h4; simp at h4
            have e : askB q m = (decide (lowN x.name = lowN q.name) && decide (x.type = q.type) && decide (x.cls = q.cls)) := by
              unfold askB
              rw [hf, h1, hrc, hx, h2]
              simp [qsB]
            rw [e]
            rcases h3 with h | h
            · exact asked_one_q0 t sq q sm m Z nz cz now out w hT hm hq hS hL hf h1 h2 h x hx
            · exact asked_one_q3 t sq q sm m Z nz cz now out w hT hm hq hS hL hf h1 h2 h x hx
set_option maxHeartbeats 8000000 in
theorem from_none (sq : QS) (q : Qu) (sm : MS) (m : Ms) (Z : Option Addr) (nz cz : Nat) (zs : List (List UInt8)) (now : Int) (w : World) {S : Nat → Prop} (hm : MIn S w sm m) (hq : QIn S w sq q) (hz : Els encS S S w Z nz zs) (hS : ∀ b, S b → b < w.heap.size) (hL : LtM m) (hqn : q.name.length ≤ 1000000000) (hzn : nz ≤ 1000000000)
    (hno : soundB q.name = false ∨ soundB zs = false ∨ timeB now = false ∨ askB q m = false) :
    Calls Try.prog 32 #[quV sq q, msV sm m, .slice Z nz cz, .int .i64 now] w (RetP (fun v _ => v = .slice none 0 0) w) := by
  obtain ⟨w1, hw1⟩ : ∃ w1, w1 = w.alloc (.cells (qCells sq q) 25) := ⟨_, rfl⟩
  obtain ⟨w2, hw2⟩ : ∃ w2, w2 = w1.alloc (.cells (mCells sm m) 31) := ⟨_, rfl⟩
  obtain ⟨w3, hw3⟩ : ∃ w3, w3 = w2.alloc (.cells (tCells sq q sm m Z nz cz now (.slice none 0 0)) 114) := ⟨_, rfl⟩
  have hb1 : Below w.heap.size w w1 := by rw [hw1]; exact bl.alloc (Nat.le_refl _) _
  have hb2 : Below w1.heap.size w1 w2 := by rw [hw2]; exact bl.alloc (Nat.le_refl _) _
  have hb3 : Below w2.heap.size w2 w3 := by rw [hw3]; exact bl.alloc (Nat.le_refl _) _
  have hbw : Below w.heap.size w w3 := nx (nx hb1 hb2) hb3
  have hz1 : w1.heap.size = w.heap.size + 1 := by rw [hw1]; simp
  have hz2 : w2.heap.size = w.heap.size + 2 := by rw [hw2]; simp; omega
  have HT : Hid (TRow w3 (w.heap.size + 2) sq q sm m Z nz cz now (.slice none 0 0)) := by show TRow _ _ _ _ _ _ _ _ _ _ _; rw [hw3, ← hz2]; exact heap_alloc_new w2 _
  have HQR : Hid (QRow w3 w.heap.size sq q) := by
    have h : QRow w1 w.heap.size sq q := by rw [hw1]; exact QRow.made w sq q
    exact (h.below hb2).below hb3
  have hMR : MRow w2 (w.heap.size + 1) sm m := by rw [hw2, ← hz1]; exact MRow.made w1 sm m
  have hQ2 : QRow w2 w.heap.size sq q := by
    have h : QRow w1 w.heap.size sq q := by rw [hw1]; exact QRow.made w sq q
    exact h.below hb2
  have hS3 : ∀ b, S b → b < w3.heap.size := fun b hb => Nat.lt_of_lt_of_le (hS b hb) hbw.size
  have HA := Lib.hid (asked_any (w.heap.size + 2) sq q sm m Z nz cz now (.slice none 0 0) w3 HT.out (hm.below hbw hS) (hq.below hbw hS) hS3 hL)
  have HA2 : Hid (Calls Try.prog 69 #[.pointer (some ⟨w.heap.size + 1 + 1, 0, none⟩)] w3 (RetP (fun v _ => v = .bool (askB q m)) w3)) := HA.out
  have HA3 : Hid (Calls Try.prog 69 #[.pointer (some ⟨w2.heap.size, 0, none⟩)] w3 (RetP (fun v _ => v = .bool (askB q m)) w3)) := by show Calls _ _ _ _ _; rw [hz2]; exact HA.out
  have HNS := Lib.hid (sound_any sq.A q.name.length sq.c q.name w3 (hq.below hbw hS).n hqn)
  have HZS := Lib.hid (sound_any Z nz cz zs w3 (hz.below hbw hS hS) hzn)
  have HTT := Lib.hid (ttime_any now w3)
  have HBW := Lib.hid hbw
  have HNO := Lib.hid hno
  obtain ⟨x0, x1, x2⟩ := hQ2.cells
  obtain ⟨y0, y1, y2⟩ := HQR.out.cells
  obtain ⟨z0, z1, z2, z3, z4, z5, z6, z7, z8, z9, z10, z11, z12, z13⟩ := hMR.cells
  obtain ⟨B0, hB0⟩ : ∃ b, b = soundB q.name := ⟨_, rfl⟩
  obtain ⟨B1, hB1⟩ : ∃ b, b = soundB zs := ⟨_, rfl⟩
  obtain ⟨B2, hB2⟩ : ∃ b, b = timeB now := ⟨_, rfl⟩
  obtain ⟨B3, hB3⟩ : ∃ b, b = askB q m := ⟨_, rfl⟩
  rw [← hB0] at HNS HNO
  rw [← hB1] at HZS HNO
  rw [← hB2] at HTT HNO
  rw [← hB3] at HA HA2 HA3 HNO
  clear hB0 hB1 hB2 hB3
  unfold quV msV
  unfold qCells at hw1
  unfold mCells at hw2 ⊢
  unfold tCells at hw3
  clear hm hq hz hS hL hqn hzn hno hb1 hb2 hb3 hbw hz1 hz2 hMR hQ2 hS3
  go_enter Try.func32, Try.ntmps32
  go_upto_region 1 with (fail)
  rw [← hw1, ← hw2]
  clear hw1 hw2
  go_upto_region 2 with (fail)
  rw [← hw3]
  clear hw3 x0 x1 x2 z0 z1 z2 z3 z4 z5 z6 z7 z8 z9 z10 z11 z12 z13
  cases B0 with
  | false =>
    go_wp2_with (first
      | (go_at_call 61; (with_reducible refine HNS.out.mono ?_); rintro e w0 ⟨rfl, rfl⟩)
      | fail)
    go_ret
    exact ⟨_, rfl, rfl, HBW.out⟩
  | true =>
    cases B1 with
    | false =>
      go_wp2_with (first
        | (go_at_call 61; (with_reducible refine HNS.out.mono ?_); rintro e w0 ⟨rfl, rfl⟩)
        | (go_at_call 61; (with_reducible refine HZS.out.mono ?_); rintro e w0 ⟨rfl, rfl⟩)
        | fail)
      go_ret
      exact ⟨_, rfl, rfl, HBW.out⟩
    | true =>
      cases B2 with
      | false =>
        go_wp2_with (first
          | (go_at_call 62; refine HTT.out.mono ?_; rintro e w0 ⟨rfl, rfl⟩)
          | (go_at_call 61; (with_reducible refine HNS.out.mono ?_); rintro e w0 ⟨rfl, rfl⟩)
          | (go_at_call 61; (with_reducible refine HZS.out.mono ?_); rintro e w0 ⟨rfl, rfl⟩)
          | fail)
        go_ret
        exact ⟨_, rfl, rfl, HBW.out⟩
      | true =>
        cases B3 with
        | false =>
          go_wp2_with (first
            | (go_at_call 69; (first | (with_reducible refine HA.out.mono ?_) | (with_reducible refine HA2.out.mono ?_) | (with_reducible refine HA3.out.mono ?_)); rintro e w4 ⟨v4, rfl, rfl, hb4⟩)
            | (go_at_call 62; refine HTT.out.mono ?_; rintro e w0 ⟨rfl, rfl⟩)
            | (go_at_call 61; (with_reducible refine HNS.out.mono ?_); rintro e w0 ⟨rfl, rfl⟩)
            | (go_at_call 61; (with_reducible refine HZS.out.mono ?_); rintro e w0 ⟨rfl, rfl⟩)
            | fail)
          go_ret
          exact ⟨_, rfl, rfl, nx HBW.out hb4⟩
        | true => rcases HNO.out with h | h | h | h <;> cases h
end Go.Proofs.Ytimkdpkhdbiniaa
