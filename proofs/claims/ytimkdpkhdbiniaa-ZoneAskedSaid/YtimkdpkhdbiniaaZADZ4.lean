/- Parts of a proof, joined: IdxZf. -/
import Derived.Test.YtimkdpkhdbiniaaZADF01
import Derived.Test.YtimkdpkhdbiniaaZADM03
/- slices.ContainsFunc over names, for zone.fill (printed by gen/idxn.py). -/
namespace Go.Proofs.Ytimkdpkhdbiniaa
open Go.RowKit
set_option maxRecDepth 100000
set_option linter.unusedVariables false

theorem nms_at {So Si : Nat → Prop} {w : World} {A : Option Addr} {n : Nat} {xs : List (List (List UInt8))} (h : Els (slE encS) So Si w A n xs) {k : Nat} {x : List (List UInt8)} (hx : xs[k]? = some x) :
    ∃ b off A' c', A = some ⟨b, off, none⟩ ∧ So b ∧ Els encS Si Si w A' x.length x ∧ x.length ≤ c' ∧ c' ≤ maxLen ∧ w.cell? ⟨b, off + k, none⟩ = some (.slice A' x.length c') := by
  obtain ⟨b, off, rfl, hb, hat⟩ := Els.flat h (by rw [← h.len]; exact Nat.lt_of_le_of_lt (Nat.zero_le k) (List.getElem?_eq_some_iff.1 hx).1)
  obtain ⟨r, ⟨A', n', c', rfl, he, h1, h2⟩, hc⟩ := hat k x hx
  have hl := he.len
  subst hl
  have h3 := hc 0 _ rfl
  have e : off + (k * (slE encS).size + 0) = off + k := by show off + (k * 1 + 0) = _; omega
  rw [e] at h3
  exact ⟨b, off, A', c', rfl, hb, he, h1, h2, h3⟩

set_option maxHeartbeats 1000000 in
theorem indexZf_any (q0 : Nat) (p : List (List UInt8) → Bool) (A : Option Addr) (n c : Nat) (xs : List (List (List UInt8))) (w : World) (h : RdE (slE encS) w A n xs) (hn : n ≤ 1000000000)
    (hf : ∀ (A' : Option Addr) (c' : Nat) (x : List (List UInt8)) (W : World), Below w.heap.size w W → RdE encS W A' x.length x → x.length ≤ maxLen → Calls Try.prog 142 #[.slice A' x.length c', .pointer (some ⟨q0, 0, none⟩)] W (RetP (fun v _ => v = .bool (p x)) W)) :
    Calls Try.prog 172 #[.slice A n c, .func (.func 142) #[] #[.pointer (some ⟨q0, 0, none⟩)]] w (RetP (fun v _ => ∃ i : Int, v = .int .i64 i ∧ (0 ≤ i ↔ xs.any p = true)) w) := by
  have hl := h.len
  subst hl
  have H := Lib.hid h
  have HF := Lib.hid hf
  clear h hf
  go_enter Try.func172, Try.ntmps172
  go_wp2
  go_loopw [5, 8] (fun _ iv wr => ∃ k : Nat, iv = .int .i64 k ∧ k ≤ xs.length ∧ Hid ((xs.take k).any p = false) ∧ Hid (Below w.heap.size w wr)) (fun _ iv _ => xs.length - (intOf iv).toNat)
  case atStart => exact ⟨0, rfl, Nat.zero_le _, rfl, bl⟩
  case round =>
    obtain ⟨k, rfl, hk, HK, HBW⟩ := hrel
    by_cases hlt : k < xs.length
    · obtain ⟨x, hx⟩ : ∃ x, xs[k]? = some x := ⟨_, List.getElem?_eq_getElem hlt⟩
      obtain ⟨b, off, A', c', rfl, _, hd, hc1, hc2, hc⟩ := nms_at H.out hx
      have d0 := below_cell HBW.out hc
      have hq := HF.out A' c' x wr HBW.out (RdE.below (w := w) hd HBW.out) (Nat.le_trans hc1 hc2)
      have HX := Lib.hid hx
      obtain ⟨m, hm⟩ : ∃ m, m = x.length := ⟨_, rfl⟩
      rw [← hm] at hq d0
      clear hx hd hc hc1 hc2 hm
      cases hp : p x with
      | false =>
        rw [hp] at hq
        have HQ := Lib.hid hq
        have HP := Lib.hid hp
        clear hq hp
        go_wp2_with (go_at_call 142; refine HQ.out.mono ?_; rintro e w1 ⟨v1, rfl, rfl, hb1⟩)
        go_roundw
        case rel => exact ⟨k + 1, by go_num, by omega, any_take_succ HX.out HK.out HP.out, nx HBW.out hb1⟩
        case measure => simp [intOf]; omega
      | true =>
        rw [hp] at hq
        have HQ := Lib.hid hq
        have HP := Lib.hid hp
        clear hq hp
        go_wp2_with (go_at_call 142; refine HQ.out.mono ?_; rintro e w1 ⟨v1, rfl, rfl, hb1⟩)
        go_ret
        exact ⟨_, rfl, ⟨_, rfl, ⟨fun _ => List.any_eq_true.2 ⟨x, List.mem_of_getElem? HX.out, HP.out⟩, fun _ => Int.natCast_nonneg _⟩⟩, nx HBW.out hb1⟩
    · obtain rfl : k = xs.length := by omega
      rw [List.take_length] at HK
      go_wp2
      go_ret
      exact ⟨_, rfl, ⟨-1, rfl, ⟨fun h => absurd h (by decide), fun h => by rw [HK.out] at h; cases h⟩⟩, HBW.out⟩
theorem hasZf_any (q0 : Nat) (p : List (List UInt8) → Bool) (A : Option Addr) (n c : Nat) (xs : List (List (List UInt8))) (w : World) (h : RdE (slE encS) w A n xs) (hn : n ≤ 1000000000)
    (hf : ∀ (A' : Option Addr) (c' : Nat) (x : List (List UInt8)) (W : World), Below w.heap.size w W → RdE encS W A' x.length x → x.length ≤ maxLen → Calls Try.prog 142 #[.slice A' x.length c', .pointer (some ⟨q0, 0, none⟩)] W (RetP (fun v _ => v = .bool (p x)) W)) :
    Calls Try.prog 123 #[.slice A n c, .func (.func 142) #[] #[.pointer (some ⟨q0, 0, none⟩)]] w (RetP (fun v _ => v = .bool (xs.any p)) w) := by
  have HQ := Lib.hid (indexZf_any q0 p A n c xs w h hn hf)
  clear h hf
  go_enter Try.func123, Try.ntmps123
  go_wp2_with (go_at_call 172; refine HQ.out.mono ?_; rintro e w1 ⟨v1, rfl, ⟨i, rfl, hi⟩, hb1⟩; have HI := Lib.hid hi; clear hi)
  go_ret
  refine ⟨_, rfl, ?_, hb1⟩
  show Value.bool _ = Value.bool _
  congr 1
  rw [Bool.eq_iff_iff, decide_eq_true_iff, HI.out]
/-- The closure: is a name the one in the box? -/
theorem eqZf_any (q0 : Nat) (A A' : Option Addr) (n n' c c' : Nat) (x ys : List (List UInt8)) (w : World) (hb : w.cell? ⟨q0, 0, none⟩ = some (.slice A' n' c')) (hx : RdE encS w A n x) (hy : RdE encS w A' n' ys) (hn : n ≤ maxLen) (hn' : n' ≤ maxLen) :
    Calls Try.prog 142 #[.slice A n c, .pointer (some ⟨q0, 0, none⟩)] w (RetP (fun v _ => v = .bool (decide (lowN x = lowN ys))) w) := by
  have HE := Lib.hid (nequal_any A A' n c n' c' x ys w hx hy hn hn')
  clear hx hy
  go_enter Try.func142, Try.ntmps142
  go_wp2_with (go_at_call 55; refine HE.out.mono ?_; rintro e w1 ⟨v1, rfl, rfl, hb1⟩)
  go_ret
  exact ⟨_, rfl, rfl, hb1⟩
end Go.Proofs.Ytimkdpkhdbiniaa
