/- Parts of a proof, joined: RrSnd, MsSnd, OwnMsg. -/
import Derived.Test.YtimkdpkhdbiniaaZADM06
import Derived.Test.YtimkdpkhdbiniaaZADM05
import Derived.Test.YtimkdpkhdbiniaaZADM10
import Derived.Test.YtimkdpkhdbiniaaZADM11
import Derived.Test.YtimkdpkhdbiniaaZADM02
import Derived.Test.YtimkdpkhdbiniaaZADM07b
import Derived.Test.YtimkdpkhdbiniaaZADM03
/- rr: may a record be? The program's and the reference's. -/
namespace Go.Proofs.Ytimkdpkhdbiniaa
open Go.RowKit
set_option maxRecDepth 100000

theorem fineR_name {r : RR} (h : soundB r.name = false) : fineRB r = false := fineRB_false fun hf => by rw [soundB_true hf.1] at h; cases h
theorem fineR_data {r : RR} (h : fineB r.type r.data = false) : fineRB r = false := fineRB_false fun hf => by rw [fineB_true hf.2.1] at h; cases h
theorem fineR_cls {r : RR} (h : fitsB r.cls 2 = false) : fineRB r = false := fineRB_false fun hf => by rw [hf.2.2.1] at h; cases h
theorem fineR_neg {r : RR} (h : r.ttl < 0) : fineRB r = false := fineRB_false fun hf => by have := hf.2.2.2.1; omega
theorem fineR_last {r : RR} (h1 : soundB r.name = true) (h2 : fineB r.type r.data = true) (h3 : fitsB r.cls 2 = true) (h4 : 0 ≤ r.ttl) : fineRB r = decide (r.ttl < 2147483648) := by
  by_cases h : r.ttl < 2147483648
  · rw [fineRB_true ⟨soundB_iff.1 h1, fineB_iff.1 h2, h3, h4, h⟩, decide_eq_true h]
  · rw [fineRB_false (fun hf => h hf.2.2.2.2), decide_eq_false h]
theorem RRow.made (w : World) (s : RS) (x : RR) : RRow (w.alloc (.cells (rrCells s x) 84)) w.heap.size s x := heap_alloc_new w _


set_option maxHeartbeats 4000000 in
theorem rrSound_any (s : RS) (r : RR) (w : World) {S : Nat → Prop} (h : RIn S w s r) (hS : ∀ b, S b → b < w.heap.size) (hbn : r.name.length ≤ 1000000000) (hbd : r.data.host.length ≤ 1000000000 ∧ r.data.mail.length ≤ 1000000000 ∧ r.data.nums.length ≤ 1000000000 ∧ r.data.texts.length ≤ 1000000000) :
    Calls Try.prog 134 #[rrV s r] w (RetP (fun v _ => v = .bool (fineRB r)) w) := by
  obtain ⟨w1, hw1⟩ : ∃ w1, w1 = w.alloc (.cells (rrCells s r) 84) := ⟨_, rfl⟩
  have hb1 : Below w.heap.size w w1 := by rw [hw1]; exact bl.alloc (Nat.le_refl _) _
  have HR : Hid (RRow w1 w.heap.size s r) := by show RRow _ _ _ _; rw [hw1]; exact RRow.made w s r
  have HI := Lib.hid (h.below hb1 hS)
  have HS1 : Hid (∀ b, S b → b < w1.heap.size) := fun b hb => Nat.lt_of_lt_of_le (hS b hb) hb1.size
  have HBW1 := Lib.hid hb1
  have HBN := Lib.hid hbn
  have HBD := Lib.hid hbd
  obtain ⟨ic1, ic2⟩ := h.ic
  have HIC := Lib.hid ic2
  obtain ⟨x0, x1, x2, x3, x4, x5, x6, x7, x8⟩ := HR.out.cells
  unfold rrV
  unfold rrCells at hw1 ⊢
  clear h hS hb1 hbn hbd ic1 ic2

  cases hn : soundB r.name with
  | false =>
    have HN := Lib.hid hn
    clear hn
    go_enter Try.func134, Try.ntmps134
    go_upto_region 1 with (fail)
    rw [← hw1]
    clear hw1
    go_wp2_with (first
      | (go_at_call 61; refine (sound_any s.A _ s.c r.name w1 HI.out.n HBN.out).mono ?_; rw [HN.out]; rintro e w2 ⟨rfl, rfl⟩)
      | fail)
    go_ret
    exact ⟨_, rfl, by show Value.bool _ = Value.bool _; rw [fineR_name HN.out], HBW1.out⟩
  | true =>
    have HN := Lib.hid hn
    clear hn
    cases hd : fineB r.type r.data with
    | false =>
      have HD := Lib.hid hd
      clear hd
      go_enter Try.func134, Try.ntmps134
      go_upto_region 1 with (fail)
      rw [← hw1]
      clear hw1
      go_wp2_with (first
        | (go_at_call 109; refine (dsound_any r.type s.d r.data w1 (HI.out.d.rd HS1.out) HBD.out.1 HBD.out.2.1 HBD.out.2.2.1 HBD.out.2.2.2).mono ?_; rw [HD.out]; rintro e w3 ⟨v3, rfl, rfl, hb3⟩; obtain ⟨y0, y1, y2, y3, y4, y5, y6, y7, y8⟩ := (HR.out.below hb3).cells)
        | (go_at_call 61; refine (sound_any s.A _ s.c r.name w1 HI.out.n HBN.out).mono ?_; rw [HN.out]; rintro e w2 ⟨rfl, rfl⟩)
        | fail)
      go_ret
      exact ⟨_, rfl, by show Value.bool _ = Value.bool _; rw [fineR_data HD.out], nx HBW1.out hb3⟩
    | true =>
      have HD := Lib.hid hd
      clear hd
      cases hc : fitsB r.cls 2 with
      | false =>
        have HC := Lib.hid hc
        clear hc
        go_enter Try.func134, Try.ntmps134
        go_upto_region 1 with (fail)
        rw [← hw1]
        clear hw1
        go_wp2_with (first
          | (go_at_call 88; refine (fits_any r.cls 2 w3).mono ?_; rw [HC.out]; rintro e w4 ⟨rfl, rfl⟩)
          | (go_at_call 109; refine (dsound_any r.type s.d r.data w1 (HI.out.d.rd HS1.out) HBD.out.1 HBD.out.2.1 HBD.out.2.2.1 HBD.out.2.2.2).mono ?_; rw [HD.out]; rintro e w3 ⟨v3, rfl, rfl, hb3⟩; obtain ⟨y0, y1, y2, y3, y4, y5, y6, y7, y8⟩ := (HR.out.below hb3).cells)
          | (go_at_call 61; refine (sound_any s.A _ s.c r.name w1 HI.out.n HBN.out).mono ?_; rw [HN.out]; rintro e w2 ⟨rfl, rfl⟩)
          | fail)
        go_ret
        exact ⟨_, rfl, by show Value.bool _ = Value.bool _; rw [fineR_cls HC.out], nx HBW1.out hb3⟩
      | true =>
        have HC := Lib.hid hc
        clear hc
        by_cases h0 : 0 ≤ r.ttl
        · have H0 := Lib.hid h0
          go_enter Try.func134, Try.ntmps134
          go_upto_region 1 with (fail)
          rw [← hw1]
          clear hw1
          go_wp2_with (first
            | (go_at_call 88; refine (fits_any r.cls 2 w3).mono ?_; rw [HC.out]; rintro e w4 ⟨rfl, rfl⟩)
            | (go_at_call 109; refine (dsound_any r.type s.d r.data w1 (HI.out.d.rd HS1.out) HBD.out.1 HBD.out.2.1 HBD.out.2.2.1 HBD.out.2.2.2).mono ?_; rw [HD.out]; rintro e w3 ⟨v3, rfl, rfl, hb3⟩; obtain ⟨y0, y1, y2, y3, y4, y5, y6, y7, y8⟩ := (HR.out.below hb3).cells)
            | (go_at_call 61; refine (sound_any s.A _ s.c r.name w1 HI.out.n HBN.out).mono ?_; rw [HN.out]; rintro e w2 ⟨rfl, rfl⟩)
            | fail)
          go_ret
          exact ⟨_, rfl, by show Value.bool _ = Value.bool _; rw [fineR_last HN.out HD.out HC.out H0.out], nx HBW1.out hb3⟩
        · have H0 : Hid (r.ttl < 0) := by show _ < _; omega
          go_enter Try.func134, Try.ntmps134
          go_upto_region 1 with (fail)
          rw [← hw1]
          clear hw1
          go_wp2_with (first
            | (go_at_call 88; refine (fits_any r.cls 2 w3).mono ?_; rw [HC.out]; rintro e w4 ⟨rfl, rfl⟩)
            | (go_at_call 109; refine (dsound_any r.type s.d r.data w1 (HI.out.d.rd HS1.out) HBD.out.1 HBD.out.2.1 HBD.out.2.2.1 HBD.out.2.2.2).mono ?_; rw [HD.out]; rintro e w3 ⟨v3, rfl, rfl, hb3⟩; obtain ⟨y0, y1, y2, y3, y4, y5, y6, y7, y8⟩ := (HR.out.below hb3).cells)
            | (go_at_call 61; refine (sound_any s.A _ s.c r.name w1 HI.out.n HBN.out).mono ?_; rw [HN.out]; rintro e w2 ⟨rfl, rfl⟩)
            | fail)
          go_ret
          exact ⟨_, rfl, by show Value.bool _ = Value.bool _; rw [fineR_neg H0.out], nx HBW1.out hb3⟩

set_option maxHeartbeats 4000000 in
theorem rSound_any (s : RS) (r : RR) (w : World) {S : Nat → Prop} (h : RIn S w s r) (hS : ∀ b, S b → b < w.heap.size) (hbn : r.name.length ≤ 1000000000) (hbd : r.data.host.length ≤ 1000000000 ∧ r.data.mail.length ≤ 1000000000 ∧ r.data.nums.length ≤ 1000000000 ∧ r.data.texts.length ≤ 1000000000) :
    Calls Try.prog 80 #[rrV s r] w (RetP (fun v _ => v = .bool (fineRB r)) w) := by
  obtain ⟨w1, hw1⟩ : ∃ w1, w1 = w.alloc (.cells (rrCells s r) 84) := ⟨_, rfl⟩
  have hb1 : Below w.heap.size w w1 := by rw [hw1]; exact bl.alloc (Nat.le_refl _) _
  have HR : Hid (RRow w1 w.heap.size s r) := by show RRow _ _ _ _; rw [hw1]; exact RRow.made w s r
  have HI := Lib.hid (h.below hb1 hS)
  have HS1 : Hid (∀ b, S b → b < w1.heap.size) := fun b hb => Nat.lt_of_lt_of_le (hS b hb) hb1.size
  have HBW1 := Lib.hid hb1
  have HBN := Lib.hid hbn
  have HBD := Lib.hid hbd
  obtain ⟨ic1, ic2⟩ := h.ic
  have HIC := Lib.hid ic2
  obtain ⟨x0, x1, x2, x3, x4, x5, x6, x7, x8⟩ := HR.out.cells
  unfold rrV
  unfold rrCells at hw1 ⊢
  clear h hS hb1 hbn hbd ic1 ic2

  cases hn : soundB r.name with
  | false =>
    have HN := Lib.hid hn
    clear hn
    go_enter Try.func80, Try.ntmps80
    go_upto_region 1 with (fail)
    rw [← hw1]
    clear hw1
    go_wp2_with (first
      | (go_at_call 27; refine (rsound_any s.A _ s.c r.name w1 HI.out.n).mono ?_; rw [HN.out]; rintro e w2 ⟨rfl, rfl⟩)
      | fail)
    go_ret
    exact ⟨_, rfl, by show Value.bool _ = Value.bool _; rw [fineR_name HN.out], HBW1.out⟩
  | true =>
    have HN := Lib.hid hn
    clear hn
    cases hd : fineB r.type r.data with
    | false =>
      have HD := Lib.hid hd
      clear hd
      go_enter Try.func80, Try.ntmps80
      go_upto_region 1 with (fail)
      rw [← hw1]
      clear hw1
      go_wp2_with (first
        | (go_at_call 76; refine (rdata_any r.type s.d r.data w1 (HI.out.d.rd HS1.out) HBD.out.2.2.2 HBD.out.2.2.1).mono ?_; rw [HD.out]; rintro e w3 ⟨v3, rfl, rfl, hb3⟩; obtain ⟨y0, y1, y2, y3, y4, y5, y6, y7, y8⟩ := (HR.out.below hb3).cells)
        | (go_at_call 27; refine (rsound_any s.A _ s.c r.name w1 HI.out.n).mono ?_; rw [HN.out]; rintro e w2 ⟨rfl, rfl⟩)
        | fail)
      go_ret
      exact ⟨_, rfl, by show Value.bool _ = Value.bool _; rw [fineR_data HD.out], nx HBW1.out hb3⟩
    | true =>
      have HD := Lib.hid hd
      clear hd
      cases hc : fitsB r.cls 2 with
      | false =>
        have HC := Lib.hid hc
        clear hc
        go_enter Try.func80, Try.ntmps80
        go_upto_region 1 with (fail)
        rw [← hw1]
        clear hw1
        go_wp2_with (first
          | (go_at_call 90; refine (rfits_any r.cls 2 w3 HIC.out).mono ?_; rw [HC.out]; rintro e w4 ⟨rfl, rfl⟩)
          | (go_at_call 76; refine (rdata_any r.type s.d r.data w1 (HI.out.d.rd HS1.out) HBD.out.2.2.2 HBD.out.2.2.1).mono ?_; rw [HD.out]; rintro e w3 ⟨v3, rfl, rfl, hb3⟩; obtain ⟨y0, y1, y2, y3, y4, y5, y6, y7, y8⟩ := (HR.out.below hb3).cells)
          | (go_at_call 27; refine (rsound_any s.A _ s.c r.name w1 HI.out.n).mono ?_; rw [HN.out]; rintro e w2 ⟨rfl, rfl⟩)
          | fail)
        go_ret
        exact ⟨_, rfl, by show Value.bool _ = Value.bool _; rw [fineR_cls HC.out], nx HBW1.out hb3⟩
      | true =>
        have HC := Lib.hid hc
        clear hc
        by_cases h0 : 0 ≤ r.ttl
        · have H0 := Lib.hid h0
          go_enter Try.func80, Try.ntmps80
          go_upto_region 1 with (fail)
          rw [← hw1]
          clear hw1
          go_wp2_with (first
            | (go_at_call 90; refine (rfits_any r.cls 2 w3 HIC.out).mono ?_; rw [HC.out]; rintro e w4 ⟨rfl, rfl⟩)
            | (go_at_call 76; refine (rdata_any r.type s.d r.data w1 (HI.out.d.rd HS1.out) HBD.out.2.2.2 HBD.out.2.2.1).mono ?_; rw [HD.out]; rintro e w3 ⟨v3, rfl, rfl, hb3⟩; obtain ⟨y0, y1, y2, y3, y4, y5, y6, y7, y8⟩ := (HR.out.below hb3).cells)
            | (go_at_call 27; refine (rsound_any s.A _ s.c r.name w1 HI.out.n).mono ?_; rw [HN.out]; rintro e w2 ⟨rfl, rfl⟩)
            | fail)
          go_ret
          exact ⟨_, rfl, by show Value.bool _ = Value.bool _; rw [fineR_last HN.out HD.out HC.out H0.out], nx HBW1.out hb3⟩
        · have H0 : Hid (r.ttl < 0) := by show _ < _; omega
          go_enter Try.func80, Try.ntmps80
          go_upto_region 1 with (fail)
          rw [← hw1]
          clear hw1
          go_wp2_with (first
            | (go_at_call 90; refine (rfits_any r.cls 2 w3 HIC.out).mono ?_; rw [HC.out]; rintro e w4 ⟨rfl, rfl⟩)
            | (go_at_call 76; refine (rdata_any r.type s.d r.data w1 (HI.out.d.rd HS1.out) HBD.out.2.2.2 HBD.out.2.2.1).mono ?_; rw [HD.out]; rintro e w3 ⟨v3, rfl, rfl, hb3⟩; obtain ⟨y0, y1, y2, y3, y4, y5, y6, y7, y8⟩ := (HR.out.below hb3).cells)
            | (go_at_call 27; refine (rsound_any s.A _ s.c r.name w1 HI.out.n).mono ?_; rw [HN.out]; rintro e w2 ⟨rfl, rfl⟩)
            | fail)
          go_ret
          exact ⟨_, rfl, by show Value.bool _ = Value.bool _; rw [fineR_neg H0.out], nx HBW1.out hb3⟩
end Go.Proofs.Ytimkdpkhdbiniaa

/- msg: what may be: a question, a record; the closures; the sections. -/
namespace Go.Proofs.Ytimkdpkhdbiniaa
open Go.RowKit
set_option maxRecDepth 100000

/-- A record's lists are not too long to be looked at. -/
def Lt9 (r : RR) : Prop := r.name.length ≤ 1000000000 ∧ r.data.host.length ≤ 1000000000 ∧ r.data.mail.length ≤ 1000000000 ∧ r.data.nums.length ≤ 1000000000 ∧ r.data.texts.length ≤ 1000000000
end Go.Proofs.Ytimkdpkhdbiniaa

/- The reference's OwnMsg: a message that shares nothing. -/
namespace Go.Proofs.Ytimkdpkhdbiniaa
open Go.RowKit
set_option maxRecDepth 100000

end Go.Proofs.Ytimkdpkhdbiniaa
