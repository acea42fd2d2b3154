/- Parts of a proof, joined: IdxZs, IdxZr, IdxZt, Zn1. -/
import Derived.Test.YtimkdpkhdbiniaaZADF01
import Derived.Test.YtimkdpkhdbiniaaZADM05
import Derived.Test.YtimkdpkhdbiniaaZADX7a
import Derived.Test.YtimkdpkhdbiniaaZADM03
/- slices.ContainsFunc over records, for zone.Sound (printed by gen/idxn.py). -/
namespace Go.Proofs.Ytimkdpkhdbiniaa
open Go.RowKit
set_option maxRecDepth 100000
set_option linter.unusedVariables false

set_option maxHeartbeats 1000000 in
theorem indexZs_any (q0 : Nat) (p : RR → Bool) (A : Option Addr) (n c : Nat) (xs : List RR) (w : World) {S : Nat → Prop} (h : Els encRR S S w A n xs) (hS : ∀ b, S b → b < w.heap.size) (hn : n ≤ 1000000000)
    (hf : ∀ (s : RS) (x : RR) (W : World), x ∈ xs → Below w.heap.size w W → RIn S W s x → Calls Try.prog 136 #[rrV s x, .pointer (some ⟨q0, 0, none⟩)] W (RetP (fun v _ => v = .bool (p x)) W)) :
    Calls Try.prog 176 #[.slice A n c, .func (.func 136) #[] #[.pointer (some ⟨q0, 0, none⟩)]] w (RetP (fun v _ => ∃ i : Int, v = .int .i64 i ∧ (0 ≤ i ↔ xs.any p = true)) w) := by
  have hl := h.len
  subst hl
  have H := Lib.hid h
  have HS := Lib.hid hS
  have HF := Lib.hid hf
  clear h hf hS
  go_enter Try.func176, Try.ntmps176
  go_wp2
  go_loopw [5, 8] (fun _ iv wr => ∃ k : Nat, iv = .int .i64 k ∧ k ≤ xs.length ∧ Hid ((xs.take k).any p = false) ∧ Hid (Below w.heap.size w wr)) (fun _ iv _ => xs.length - (intOf iv).toNat)
  case atStart => exact ⟨0, rfl, Nat.zero_le _, rfl, bl⟩
  case round =>
    obtain ⟨k, rfl, hk, HK, HBW⟩ := hrel
    by_cases hlt : k < xs.length
    · obtain ⟨x, hx⟩ : ∃ x, xs[k]? = some x := ⟨_, List.getElem?_eq_getElem hlt⟩
      obtain ⟨b, off, s, rfl, _, hd, hc⟩ := rr_at H.out hx
      obtain ⟨d0, d1, d2, d3, d4, d5, d6, d7, d8⟩ := hc.below HBW.out
      have hq := HF.out s x wr (List.mem_of_getElem? hx) HBW.out (hd.below HBW.out HS.out)
      have HX := Lib.hid hx
      unfold rrV rrCells at hq
      clear hx hd hc
      cases hp : p x with
      | false =>
        rw [hp] at hq
        have HQ := Lib.hid hq
        have HP := Lib.hid hp
        clear hq hp
        go_wp2_with (go_at_call 136; refine HQ.out.mono ?_; rintro e w1 ⟨v1, rfl, rfl, hb1⟩)
        go_roundw
        case rel => exact ⟨k + 1, by go_num, by omega, any_take_succ HX.out HK.out HP.out, nx HBW.out hb1⟩
        case measure => simp [intOf]; omega
      | true =>
        rw [hp] at hq
        have HQ := Lib.hid hq
        have HP := Lib.hid hp
        clear hq hp
        go_wp2_with (go_at_call 136; refine HQ.out.mono ?_; rintro e w1 ⟨v1, rfl, rfl, hb1⟩)
        go_ret
        exact ⟨_, rfl, ⟨_, rfl, ⟨fun _ => List.any_eq_true.2 ⟨x, List.mem_of_getElem? HX.out, HP.out⟩, fun _ => Int.natCast_nonneg _⟩⟩, nx HBW.out hb1⟩
    · obtain rfl : k = xs.length := by omega
      rw [List.take_length] at HK
      go_wp2
      go_ret
      exact ⟨_, rfl, ⟨-1, rfl, ⟨fun h => absurd h (by decide), fun h => by rw [HK.out] at h; cases h⟩⟩, HBW.out⟩
theorem hasZs_any (q0 : Nat) (p : RR → Bool) (A : Option Addr) (n c : Nat) (xs : List RR) (w : World) {S : Nat → Prop} (h : Els encRR S S w A n xs) (hS : ∀ b, S b → b < w.heap.size) (hn : n ≤ 1000000000)
    (hf : ∀ (s : RS) (x : RR) (W : World), x ∈ xs → Below w.heap.size w W → RIn S W s x → Calls Try.prog 136 #[rrV s x, .pointer (some ⟨q0, 0, none⟩)] W (RetP (fun v _ => v = .bool (p x)) W)) :
    Calls Try.prog 135 #[.slice A n c, .func (.func 136) #[] #[.pointer (some ⟨q0, 0, none⟩)]] w (RetP (fun v _ => v = .bool (xs.any p)) w) := by
  have HQ := Lib.hid (indexZs_any q0 p A n c xs w h hS hn hf)
  clear h hf hS
  go_enter Try.func135, Try.ntmps135
  go_wp2_with (go_at_call 176; refine HQ.out.mono ?_; rintro e w1 ⟨v1, rfl, ⟨i, rfl, hi⟩, hb1⟩; have HI := Lib.hid hi; clear hi)
  go_ret
  refine ⟨_, rfl, ?_, hb1⟩
  show Value.bool _ = Value.bool _
  congr 1
  rw [Bool.eq_iff_iff, decide_eq_true_iff, HI.out]
end Go.Proofs.Ytimkdpkhdbiniaa

/- slices.ContainsFunc over records, for zone.refer (printed by gen/idxn.py). -/
namespace Go.Proofs.Ytimkdpkhdbiniaa
open Go.RowKit
set_option maxRecDepth 100000
set_option linter.unusedVariables false

set_option maxHeartbeats 1000000 in
theorem indexZr_any (q0 : Nat) (p : RR → Bool) (A : Option Addr) (n c : Nat) (xs : List RR) (w : World) {S : Nat → Prop} (h : Els encRR S S w A n xs) (hS : ∀ b, S b → b < w.heap.size) (hn : n ≤ 1000000000)
    (hf : ∀ (s : RS) (x : RR) (W : World), x ∈ xs → Below w.heap.size w W → RIn S W s x → Calls Try.prog 177 #[rrV s x, .pointer (some ⟨q0, 0, none⟩)] W (RetP (fun v _ => v = .bool (p x)) W)) :
    Calls Try.prog 176 #[.slice A n c, .func (.func 177) #[] #[.pointer (some ⟨q0, 0, none⟩)]] w (RetP (fun v _ => ∃ i : Int, v = .int .i64 i ∧ (0 ≤ i ↔ xs.any p = true)) w) := by
  have hl := h.len
  subst hl
  have H := Lib.hid h
  have HS := Lib.hid hS
  have HF := Lib.hid hf
  clear h hf hS
  go_enter Try.func176, Try.ntmps176
  go_wp2
  go_loopw [5, 8] (fun _ iv wr => ∃ k : Nat, iv = .int .i64 k ∧ k ≤ xs.length ∧ Hid ((xs.take k).any p = false) ∧ Hid (Below w.heap.size w wr)) (fun _ iv _ => xs.length - (intOf iv).toNat)
  case atStart => exact ⟨0, rfl, Nat.zero_le _, rfl, bl⟩
  case round =>
    obtain ⟨k, rfl, hk, HK, HBW⟩ := hrel
    by_cases hlt : k < xs.length
    · obtain ⟨x, hx⟩ : ∃ x, xs[k]? = some x := ⟨_, List.getElem?_eq_getElem hlt⟩
      obtain ⟨b, off, s, rfl, _, hd, hc⟩ := rr_at H.out hx
      obtain ⟨d0, d1, d2, d3, d4, d5, d6, d7, d8⟩ := hc.below HBW.out
      have hq := HF.out s x wr (List.mem_of_getElem? hx) HBW.out (hd.below HBW.out HS.out)
      have HX := Lib.hid hx
      unfold rrV rrCells at hq
      clear hx hd hc
      cases hp : p x with
      | false =>
        rw [hp] at hq
        have HQ := Lib.hid hq
        have HP := Lib.hid hp
        clear hq hp
        go_wp2_with (go_at_call 177; refine HQ.out.mono ?_; rintro e w1 ⟨v1, rfl, rfl, hb1⟩)
        go_roundw
        case rel => exact ⟨k + 1, by go_num, by omega, any_take_succ HX.out HK.out HP.out, nx HBW.out hb1⟩
        case measure => simp [intOf]; omega
      | true =>
        rw [hp] at hq
        have HQ := Lib.hid hq
        have HP := Lib.hid hp
        clear hq hp
        go_wp2_with (go_at_call 177; refine HQ.out.mono ?_; rintro e w1 ⟨v1, rfl, rfl, hb1⟩)
        go_ret
        exact ⟨_, rfl, ⟨_, rfl, ⟨fun _ => List.any_eq_true.2 ⟨x, List.mem_of_getElem? HX.out, HP.out⟩, fun _ => Int.natCast_nonneg _⟩⟩, nx HBW.out hb1⟩
    · obtain rfl : k = xs.length := by omega
      rw [List.take_length] at HK
      go_wp2
      go_ret
      exact ⟨_, rfl, ⟨-1, rfl, ⟨fun h => absurd h (by decide), fun h => by rw [HK.out] at h; cases h⟩⟩, HBW.out⟩
theorem hasZr_any (q0 : Nat) (p : RR → Bool) (A : Option Addr) (n c : Nat) (xs : List RR) (w : World) {S : Nat → Prop} (h : Els encRR S S w A n xs) (hS : ∀ b, S b → b < w.heap.size) (hn : n ≤ 1000000000)
    (hf : ∀ (s : RS) (x : RR) (W : World), x ∈ xs → Below w.heap.size w W → RIn S W s x → Calls Try.prog 177 #[rrV s x, .pointer (some ⟨q0, 0, none⟩)] W (RetP (fun v _ => v = .bool (p x)) W)) :
    Calls Try.prog 135 #[.slice A n c, .func (.func 177) #[] #[.pointer (some ⟨q0, 0, none⟩)]] w (RetP (fun v _ => v = .bool (xs.any p)) w) := by
  have HQ := Lib.hid (indexZr_any q0 p A n c xs w h hS hn hf)
  clear h hf hS
  go_enter Try.func135, Try.ntmps135
  go_wp2_with (go_at_call 176; refine HQ.out.mono ?_; rintro e w1 ⟨v1, rfl, ⟨i, rfl, hi⟩, hb1⟩; have HI := Lib.hid hi; clear hi)
  go_ret
  refine ⟨_, rfl, ?_, hb1⟩
  show Value.bool _ = Value.bool _
  congr 1
  rw [Bool.eq_iff_iff, decide_eq_true_iff, HI.out]
end Go.Proofs.Ytimkdpkhdbiniaa

/- slices.ContainsFunc over records, for zone.there (printed by gen/idxn.py). -/
namespace Go.Proofs.Ytimkdpkhdbiniaa
open Go.RowKit
set_option maxRecDepth 100000
set_option linter.unusedVariables false

set_option maxHeartbeats 1000000 in
theorem indexZt_any (q0 : Nat) (p : RR → Bool) (A : Option Addr) (n c : Nat) (xs : List RR) (w : World) {S : Nat → Prop} (h : Els encRR S S w A n xs) (hS : ∀ b, S b → b < w.heap.size) (hn : n ≤ 1000000000)
    (hf : ∀ (s : RS) (x : RR) (W : World), x ∈ xs → Below w.heap.size w W → RIn S W s x → Calls Try.prog 179 #[rrV s x, .pointer (some ⟨q0, 0, none⟩)] W (RetP (fun v _ => v = .bool (p x)) W)) :
    Calls Try.prog 176 #[.slice A n c, .func (.func 179) #[] #[.pointer (some ⟨q0, 0, none⟩)]] w (RetP (fun v _ => ∃ i : Int, v = .int .i64 i ∧ (0 ≤ i ↔ xs.any p = true)) w) := by
  have hl := h.len
  subst hl
  have H := Lib.hid h
  have HS := Lib.hid hS
  have HF := Lib.hid hf
  clear h hf hS
  go_enter Try.func176, Try.ntmps176
  go_wp2
  go_loopw [5, 8] (fun _ iv wr => ∃ k : Nat, iv = .int .i64 k ∧ k ≤ xs.length ∧ Hid ((xs.take k).any p = false) ∧ Hid (Below w.heap.size w wr)) (fun _ iv _ => xs.length - (intOf iv).toNat)
  case atStart => exact ⟨0, rfl, Nat.zero_le _, rfl, bl⟩
  case round =>
    obtain ⟨k, rfl, hk, HK, HBW⟩ := hrel
    by_cases hlt : k < xs.length
    · obtain ⟨x, hx⟩ : ∃ x, xs[k]? = some x := ⟨_, List.getElem?_eq_getElem hlt⟩
      obtain ⟨b, off, s, rfl, _, hd, hc⟩ := rr_at H.out hx
      obtain ⟨d0, d1, d2, d3, d4, d5, d6, d7, d8⟩ := hc.below HBW.out
      have hq := HF.out s x wr (List.mem_of_getElem? hx) HBW.out (hd.below HBW.out HS.out)
      have HX := Lib.hid hx
      unfold rrV rrCells at hq
      clear hx hd hc
      cases hp : p x with
      | false =>
        rw [hp] at hq
        have HQ := Lib.hid hq
        have HP := Lib.hid hp
        clear hq hp
        go_wp2_with (go_at_call 179; refine HQ.out.mono ?_; rintro e w1 ⟨v1, rfl, rfl, hb1⟩)
        go_roundw
        case rel => exact ⟨k + 1, by go_num, by omega, any_take_succ HX.out HK.out HP.out, nx HBW.out hb1⟩
        case measure => simp [intOf]; omega
      | true =>
        rw [hp] at hq
        have HQ := Lib.hid hq
        have HP := Lib.hid hp
        clear hq hp
        go_wp2_with (go_at_call 179; refine HQ.out.mono ?_; rintro e w1 ⟨v1, rfl, rfl, hb1⟩)
        go_ret
        exact ⟨_, rfl, ⟨_, rfl, ⟨fun _ => List.any_eq_true.2 ⟨x, List.mem_of_getElem? HX.out, HP.out⟩, fun _ => Int.natCast_nonneg _⟩⟩, nx HBW.out hb1⟩
    · obtain rfl : k = xs.length := by omega
      rw [List.take_length] at HK
      go_wp2
      go_ret
      exact ⟨_, rfl, ⟨-1, rfl, ⟨fun h => absurd h (by decide), fun h => by rw [HK.out] at h; cases h⟩⟩, HBW.out⟩
theorem hasZt_any (q0 : Nat) (p : RR → Bool) (A : Option Addr) (n c : Nat) (xs : List RR) (w : World) {S : Nat → Prop} (h : Els encRR S S w A n xs) (hS : ∀ b, S b → b < w.heap.size) (hn : n ≤ 1000000000)
    (hf : ∀ (s : RS) (x : RR) (W : World), x ∈ xs → Below w.heap.size w W → RIn S W s x → Calls Try.prog 179 #[rrV s x, .pointer (some ⟨q0, 0, none⟩)] W (RetP (fun v _ => v = .bool (p x)) W)) :
    Calls Try.prog 135 #[.slice A n c, .func (.func 179) #[] #[.pointer (some ⟨q0, 0, none⟩)]] w (RetP (fun v _ => v = .bool (xs.any p)) w) := by
  have HQ := Lib.hid (indexZt_any q0 p A n c xs w h hS hn hf)
  clear h hf hS
  go_enter Try.func135, Try.ntmps135
  go_wp2_with (go_at_call 176; refine HQ.out.mono ?_; rintro e w1 ⟨v1, rfl, ⟨i, rfl, hi⟩, hb1⟩; have HI := Lib.hid hi; clear hi)
  go_ret
  refine ⟨_, rfl, ?_, hb1⟩
  show Value.bool _ = Value.bool _
  congr 1
  rw [Bool.eq_iff_iff, decide_eq_true_iff, HI.out]
end Go.Proofs.Ytimkdpkhdbiniaa

/- zone.clash (printed by gen/zn1.py). -/
namespace Go.Proofs.Ytimkdpkhdbiniaa
open Go.RowKit
set_option maxRecDepth 100000
set_option linter.unusedVariables false

/-- May two records not be in one zone? -/
def clashB (a b : RR) : Bool := decide (lowN a.name = lowN b.name) && (if a.type = b.type then decide (a.type = 5) || (decide (a.ttl ≠ b.ttl) || sameD a.data b.data) else decide (a.type = 5) || decide (b.type = 5))
theorem rowRR : RowT Try.prog 84 9 := ⟨_, Try.underlying84, by kernel_rfl⟩

set_option maxHeartbeats 8000000 in
theorem clash_any (s t : RS) (a b : RR) (w : World) {S T : Nat → Prop} (ha : RIn S w s a) (hb : RIn T w t b) (hS : ∀ k, S k → k < w.heap.size) (hT : ∀ k, T k → k < w.heap.size) :
    Calls Try.prog 137 #[rrV s a, rrV t b] w (RetP (fun v _ => v = .bool (clashB a b)) w) := by
  obtain ⟨w1, hw1⟩ : ∃ w1, w1 = w.alloc (.cells #[.slice s.A a.name.length s.c, .int .i64 a.type, .int .i64 a.cls, .int .i64 a.ttl, .slice s.d.A0 a.data.bytes.length s.d.c0, .slice s.d.A1 a.data.host.length s.d.c1, .slice s.d.A2 a.data.mail.length s.d.c2, .slice s.d.A3 a.data.nums.length s.d.c3, .slice s.d.A4 a.data.texts.length s.d.c4] 84) := ⟨_, rfl⟩
  obtain ⟨w2, hw2⟩ : ∃ w2, w2 = w1.alloc (.cells #[.slice t.A b.name.length t.c, .int .i64 b.type, .int .i64 b.cls, .int .i64 b.ttl, .slice t.d.A0 b.data.bytes.length t.d.c0, .slice t.d.A1 b.data.host.length t.d.c1, .slice t.d.A2 b.data.mail.length t.d.c2, .slice t.d.A3 b.data.nums.length t.d.c3, .slice t.d.A4 b.data.texts.length t.d.c4] 84) := ⟨_, rfl⟩
  have hb1 : Below w.heap.size w w1 := by rw [hw1]; exact bl.alloc (Nat.le_refl _) _
  have hb2 : Below w1.heap.size w1 w2 := by rw [hw2]; exact bl.alloc (Nat.le_refl _) _
  have hz1 : w1.heap.size = w.heap.size + 1 := by rw [hw1]; simp
  have HA : Hid (RRow w2 w.heap.size s a) := by
    have h : RRow w1 w.heap.size s a := by show _ = _; rw [hw1]; exact heap_alloc_new w _
    exact RRow.below h hb2
  have HB : Hid (RRow w2 (w.heap.size + 1) t b) := by show _ = _; rw [hw2, ← hz1]; exact heap_alloc_new w1 _
  have HW : Hid (Below w.heap.size w w2) := nx hb1 hb2
  have HIA : Hid (∀ u, Below w.heap.size w u → RIn (ltS u) u s a) := fun u hu => (ha.below hu hS).mono (fun k hk => Nat.lt_of_lt_of_le (hS k hk) hu.size)
  have HIB : Hid (∀ u, Below w.heap.size w u → RIn (ltS u) u t b) := fun u hu => (hb.below hu hT).mono (fun k hk => Nat.lt_of_lt_of_le (hT k hk) hu.size)
  have HEQ := Lib.hid (nequal_any s.A t.A a.name.length s.c b.name.length t.c a.name b.name w2 (HIA.out w2 HW.out).n (HIB.out w2 HW.out).n (Nat.le_trans ha.cn.1 ha.cn.2) (Nat.le_trans hb.cn.1 hb.cn.2))
  have HSM : Hid (∀ u, Below w.heap.size w u → Calls Try.prog 155 #[dsV s.d a.data, dsV t.d b.data] u (RetP (fun v _ => v = .bool (sameD a.data b.data)) u)) := fun u hu => psame_any s.d t.d a.data b.data u ((HIA.out u hu).d.rd (fun k hk => hk)) ((HIB.out u hu).d.rd (fun k hk => hk))
  obtain ⟨x0, x1, x2, x3, x4, x5, x6, x7, x8⟩ := HA.out.cells
  obtain ⟨y0, y1, y2, y3, y4, y5, y6, y7, y8⟩ := HB.out.cells
  unfold dsV at HSM
  unfold rrV rrCells
  clear ha hb hS hT hb1 hb2 hz1
  have HC : Hid (∀ (c : Bool) (u : World), clashB a b = c → Below w.heap.size w u → RetP (fun v _ => v = .bool (clashB a b)) w (.returned (.bool c)) u) := fun c u h hu => ⟨_, rfl, by rw [h], hu⟩
  by_cases he : lowN a.name = lowN b.name
  rotate_left
  · have HE := Lib.hid he
    rw [decide_eq_false he] at HEQ
    clear he
    go_enter Try.func137, Try.ntmps137
    go_upto_region 1 with (fail)
    rw [← hw1, ← hw2]
    clear hw1 hw2
    go_wp2_with (go_at_call 55; refine HEQ.out.mono ?_; rintro e w3 ⟨v3, rfl, rfl, hb3⟩)
    go_ret
    exact HC.out false w3 (by unfold clashB; rw [decide_eq_false HE.out]; rfl) (nx HW.out hb3)
  have HE := Lib.hid he
  rw [decide_eq_true he] at HEQ
  clear he
  have HK : Hid (∀ u, Below w2.heap.size w2 u → (u.cell? ⟨w.heap.size, 1, none⟩ = some (.int .i64 a.type) ∧ u.cell? ⟨w.heap.size + 1, 1, none⟩ = some (.int .i64 b.type) ∧ u.cell? ⟨w.heap.size, 3, none⟩ = some (.int .i64 a.ttl) ∧ u.cell? ⟨w.heap.size + 1, 3, none⟩ = some (.int .i64 b.ttl) ∧ RRow u w.heap.size s a ∧ RRow u (w.heap.size + 1) t b)) := fun u hu => ⟨(RRow.below HA.out hu).cells.2.1, (RRow.below HB.out hu).cells.2.1, (RRow.below HA.out hu).cells.2.2.2.1, (RRow.below HB.out hu).cells.2.2.2.1, RRow.below HA.out hu, RRow.below HB.out hu⟩
  go_enter Try.func137, Try.ntmps137
  go_upto_region 1 with (fail)
  rw [← hw1, ← hw2]
  clear hw1 hw2
  go_upto_region 3 with (go_at_call 55; refine HEQ.out.mono ?_; rintro e w3 ⟨v3, rfl, rfl, hb3⟩; have HB3 := Lib.hid hb3; clear hb3)
  clear x0 x1 x2 x3 x4 x5 x6 x7 x8 y0 y1 y2 y3 y4 y5 y6 y7 y8
  obtain ⟨p1, p2, p3, p4, hra, hrb⟩ := HK.out w3 HB3.out
  by_cases ht : a.type = b.type
  rotate_left
  · have ht' : (a.type != b.type) = true := by simp [ht]
    have HCB : Hid (clashB a b = (decide (a.type = 5) || decide (b.type = 5))) := by show _ = _; unfold clashB; rw [decide_eq_true HE.out, if_neg ht]; rfl
    by_cases h5 : a.type = 5
    · have h5' : (a.type == 5) = true := beq_iff_eq.2 h5
      have HR := HC.out true w3 (by rw [HCB.out, decide_eq_true h5]; rfl) (nx HW.out HB3.out)
      clear h5 ht
      go_wp2
      go_ret
      exact HR
    · have h5' : (a.type == 5) = false := beq_eq_false_iff_ne.2 h5
      by_cases h6 : b.type = 5
      · have h6' : (b.type == 5) = true := beq_iff_eq.2 h6
        have HR := HC.out true w3 (by rw [HCB.out, decide_eq_true h6, Bool.or_true]) (nx HW.out HB3.out)
        clear h5 h6 ht
        go_wp2
        go_ret
        exact HR
      · have h6' : (b.type == 5) = false := beq_eq_false_iff_ne.2 h6
        have HR := HC.out false w3 (by rw [HCB.out, decide_eq_false h5, decide_eq_false h6]; rfl) (nx HW.out HB3.out)
        clear h5 h6 ht
        go_wp2
        go_ret
        exact HR
  have HCB : Hid (clashB a b = (decide (a.type = 5) || (decide (a.ttl ≠ b.ttl) || sameD a.data b.data))) := by show _ = _; unfold clashB; rw [decide_eq_true HE.out, if_pos ht]; rfl
  have ht' : (a.type != b.type) = false := by simp [ht]
  clear ht
  by_cases h5 : a.type = 5
  · have h5' : (a.type == 5) = true := beq_iff_eq.2 h5
    have HR := HC.out true w3 (by rw [HCB.out, decide_eq_true h5]; rfl) (nx HW.out HB3.out)
    clear h5
    go_wp2
    go_ret
    exact HR
  have h5' : (a.type == 5) = false := beq_eq_false_iff_ne.2 h5
  by_cases h7 : a.ttl = b.ttl
  rotate_left
  · have h7' : (a.ttl != b.ttl) = true := by simp [h7]
    have HR := HC.out true w3 (by rw [HCB.out, decide_eq_true h7, Bool.true_or, Bool.or_true]) (nx HW.out HB3.out)
    clear h5 h7
    go_wp2
    go_ret
    exact HR
  have h7' : (a.ttl != b.ttl) = false := by simp [h7]
  have HR : Hid (∀ u, Below w3.heap.size w3 u → RetP (fun v _ => v = .bool (clashB a b)) w (.returned (.bool (sameD a.data b.data))) u) := fun u hu => HC.out _ u (by rw [HCB.out, decide_eq_false h5, decide_eq_false (fun h => h h7)]; rfl) (nx (nx HW.out HB3.out) hu)
  have HS3 := Lib.hid (HSM.out w3 (nx HW.out HB3.out))
  clear h5 h7
  obtain ⟨x0, x1, x2, x3, x4, x5, x6, x7, x8⟩ := hra.cells
  obtain ⟨y0, y1, y2, y3, y4, y5, y6, y7, y8⟩ := hrb.cells
  clear p1 p2 p3 p4
  go_wp2_with (go_at_call 155; refine HS3.out.mono ?_; rintro e w4 ⟨v4, rfl, rfl, hb4⟩)
  go_ret
  exact HR.out w4 hb4

set_option maxHeartbeats 2000000 in
theorem zsoundC_any (q : Nat) (s t : RS) (a b : RR) (w : World) {S T : Nat → Prop} (ha : RIn S w s a) (hb : RIn T w t b) (hS : ∀ k, S k → k < w.heap.size) (hT : ∀ k, T k → k < w.heap.size) (hq : RRow w q t b) :
    Calls Try.prog 136 #[rrV s a, .pointer (some ⟨q, 0, none⟩)] w (RetP (fun v _ => v = .bool (clashB a b)) w) := by
  obtain ⟨w1, hw1⟩ : ∃ w1, w1 = w.alloc (.cells #[.slice s.A a.name.length s.c, .int .i64 a.type, .int .i64 a.cls, .int .i64 a.ttl, .slice s.d.A0 a.data.bytes.length s.d.c0, .slice s.d.A1 a.data.host.length s.d.c1, .slice s.d.A2 a.data.mail.length s.d.c2, .slice s.d.A3 a.data.nums.length s.d.c3, .slice s.d.A4 a.data.texts.length s.d.c4] 84) := ⟨_, rfl⟩
  have hb1 : Below w.heap.size w w1 := by rw [hw1]; exact bl.alloc (Nat.le_refl _) _
  have HW := Lib.hid hb1
  have HA : Hid (RRow w1 w.heap.size s a) := by show _ = _; rw [hw1]; exact heap_alloc_new w _
  obtain ⟨x0, x1, x2, x3, x4, x5, x6, x7, x8⟩ := HA.out.cells
  obtain ⟨y0, y1, y2, y3, y4, y5, y6, y7, y8⟩ := (RRow.below hq hb1).cells
  have HC := Lib.hid (clash_any s t a b w1 (ha.below hb1 hS) (hb.below hb1 hT) (fun k hk => Nat.lt_of_lt_of_le (hS k hk) hb1.size) (fun k hk => Nat.lt_of_lt_of_le (hT k hk) hb1.size))
  unfold rrV rrCells at HC
  unfold rrV rrCells
  clear ha hb hS hT hb1 hq
  go_enter Try.func136, Try.ntmps136
  go_upto_region 1 with (fail)
  rw [← hw1]
  clear hw1
  go_wp2_with (go_at_call 137; refine HC.out.mono ?_; rintro e w2 ⟨v2, rfl, rfl, hb2⟩)
  go_ret
  exact ⟨_, rfl, rfl, nx HW.out hb2⟩
end Go.Proofs.Ytimkdpkhdbiniaa
