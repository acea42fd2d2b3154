/- Parts of a proof, joined: RrSnd, MsSnd, OwnMsg, MsSnd2, MsBnd, MsFlag, Wtr4, Put4, Put5. -/
import Derived.Test.YtimkdpkhdbiniaaQ04
import Derived.Test.YtimkdpkhdbiniaaQ03
import Derived.Test.YtimkdpkhdbiniaaQ05
import Derived.Test.YtimkdpkhdbiniaaQ06
import Derived.Test.YtimkdpkhdbiniaaQ02
/- rr: may a record be? The program's and the reference's. -/
namespace Go.Proofs.Ytimkdpkhdbiniaa
open Go.RowKit
set_option maxRecDepth 100000

theorem fineR_name {r : RR} (h : soundB r.name = false) : fineRB r = false := fineRB_false fun hf => by rw [soundB_true hf.1] at h; cases h
theorem fineR_data {r : RR} (h : fineB r.type r.data = false) : fineRB r = false := fineRB_false fun hf => by rw [fineB_true hf.2.1] at h; cases h
theorem fineR_cls {r : RR} (h : fitsB r.cls 2 = false) : fineRB r = false := fineRB_false fun hf => by rw [hf.2.2.1] at h; cases h
theorem fineR_neg {r : RR} (h : r.ttl < 0) : fineRB r = false := fineRB_false fun hf => by have := hf.2.2.2.1; omega
theorem fineR_last {r : RR} (h1 : soundB r.name = true) (h2 : fineB r.type r.data = true) (h3 : fitsB r.cls 2 = true) (h4 : 0 ≤ r.ttl) : fineRB r = decide (r.ttl < 2147483648) := by
  by_cases h : r.ttl < 2147483648
  · rw [fineRB_true ⟨soundB_iff.1 h1, fineB_iff.1 h2, h3, h4, h⟩, decide_eq_true h]
  · rw [fineRB_false (fun hf => h hf.2.2.2.2), decide_eq_false h]
theorem RRow.made (w : World) (s : RS) (x : RR) : RRow (w.alloc (.cells (rrCells s x) 84)) w.heap.size s x := heap_alloc_new w _


set_option maxHeartbeats 4000000 in
theorem rrSound_any (s : RS) (r : RR) (w : World) {S : Nat → Prop} (h : RIn S w s r) (hS : ∀ b, S b → b < w.heap.size) (hbn : r.name.length ≤ 1000000000) (hbd : r.data.host.length ≤ 1000000000 ∧ r.data.mail.length ≤ 1000000000 ∧ r.data.nums.length ≤ 1000000000 ∧ r.data.texts.length ≤ 1000000000) :
    Calls Try.prog 134 #[rrV s r] w (RetP (fun v _ => v = .bool (fineRB r)) w) := by
  obtain ⟨w1, hw1⟩ : ∃ w1, w1 = w.alloc (.cells (rrCells s r) 84) := ⟨_, rfl⟩
  have hb1 : Below w.heap.size w w1 := by rw [hw1]; exact bl.alloc (Nat.le_refl _) _
  have HR : Hid (RRow w1 w.heap.size s r) := by show RRow _ _ _ _; rw [hw1]; exact RRow.made w s r
  have HI := Lib.hid (h.below hb1 hS)
  have HS1 : Hid (∀ b, S b → b < w1.heap.size) := fun b hb => Nat.lt_of_lt_of_le (hS b hb) hb1.size
  have HBW1 := Lib.hid hb1
  have HBN := Lib.hid hbn
  have HBD := Lib.hid hbd
  obtain ⟨ic1, ic2⟩ := h.ic
  have HIC := Lib.hid ic2
  obtain ⟨x0, x1, x2, x3, x4, x5, x6, x7, x8⟩ := HR.out.cells
  unfold rrV
  unfold rrCells at hw1 ⊢
  clear h hS hb1 hbn hbd ic1 ic2

  cases hn : soundB r.name with
  | false =>
    have HN := Lib.hid hn
    clear hn
    go_enter Try.func134, Try.ntmps134
    go_upto_region 1 with (fail)
    rw [← hw1]
    clear hw1
    go_wp2_with (first
      | (go_at_call 61; refine (sound_any s.A _ s.c r.name w1 HI.out.n HBN.out).mono ?_; rw [HN.out]; rintro e w2 ⟨rfl, rfl⟩)
      | fail)
    go_ret
    exact ⟨_, rfl, by show Value.bool _ = Value.bool _; rw [fineR_name HN.out], HBW1.out⟩
  | true =>
    have HN := Lib.hid hn
    clear hn
    cases hd : fineB r.type r.data with
    | false =>
      have HD := Lib.hid hd
      clear hd
      go_enter Try.func134, Try.ntmps134
      go_upto_region 1 with (fail)
      rw [← hw1]
      clear hw1
      go_wp2_with (first
        | (go_at_call 109; refine (dsound_any r.type s.d r.data w1 (HI.out.d.rd HS1.out) HBD.out.1 HBD.out.2.1 HBD.out.2.2.1 HBD.out.2.2.2).mono ?_; rw [HD.out]; rintro e w3 ⟨v3, rfl, rfl, hb3⟩; obtain ⟨y0, y1, y2, y3, y4, y5, y6, y7, y8⟩ := (HR.out.below hb3).cells)
        | (go_at_call 61; refine (sound_any s.A _ s.c r.name w1 HI.out.n HBN.out).mono ?_; rw [HN.out]; rintro e w2 ⟨rfl, rfl⟩)
        | fail)
      go_ret
      exact ⟨_, rfl, by show Value.bool _ = Value.bool _; rw [fineR_data HD.out], nx HBW1.out hb3⟩
    | true =>
      have HD := Lib.hid hd
      clear hd
      cases hc : fitsB r.cls 2 with
      | false =>
        have HC := Lib.hid hc
        clear hc
        go_enter Try.func134, Try.ntmps134
        go_upto_region 1 with (fail)
        rw [← hw1]
        clear hw1
        go_wp2_with (first
          | (go_at_call 88; refine (fits_any r.cls 2 w3).mono ?_; rw [HC.out]; rintro e w4 ⟨rfl, rfl⟩)
          | (go_at_call 109; refine (dsound_any r.type s.d r.data w1 (HI.out.d.rd HS1.out) HBD.out.1 HBD.out.2.1 HBD.out.2.2.1 HBD.out.2.2.2).mono ?_; rw [HD.out]; rintro e w3 ⟨v3, rfl, rfl, hb3⟩; obtain ⟨y0, y1, y2, y3, y4, y5, y6, y7, y8⟩ := (HR.out.below hb3).cells)
          | (go_at_call 61; refine (sound_any s.A _ s.c r.name w1 HI.out.n HBN.out).mono ?_; rw [HN.out]; rintro e w2 ⟨rfl, rfl⟩)
          | fail)
        go_ret
        exact ⟨_, rfl, by show Value.bool _ = Value.bool _; rw [fineR_cls HC.out], nx HBW1.out hb3⟩
      | true =>
        have HC := Lib.hid hc
        clear hc
        by_cases h0 : 0 ≤ r.ttl
        · have H0 := Lib.hid h0
          go_enter Try.func134, Try.ntmps134
          go_upto_region 1 with (fail)
          rw [← hw1]
          clear hw1
          go_wp2_with (first
            | (go_at_call 88; refine (fits_any r.cls 2 w3).mono ?_; rw [HC.out]; rintro e w4 ⟨rfl, rfl⟩)
            | (go_at_call 109; refine (dsound_any r.type s.d r.data w1 (HI.out.d.rd HS1.out) HBD.out.1 HBD.out.2.1 HBD.out.2.2.1 HBD.out.2.2.2).mono ?_; rw [HD.out]; rintro e w3 ⟨v3, rfl, rfl, hb3⟩; obtain ⟨y0, y1, y2, y3, y4, y5, y6, y7, y8⟩ := (HR.out.below hb3).cells)
            | (go_at_call 61; refine (sound_any s.A _ s.c r.name w1 HI.out.n HBN.out).mono ?_; rw [HN.out]; rintro e w2 ⟨rfl, rfl⟩)
            | fail)
          go_ret
          exact ⟨_, rfl, by show Value.bool _ = Value.bool _; rw [fineR_last HN.out HD.out HC.out H0.out], nx HBW1.out hb3⟩
        · have H0 : Hid (r.ttl < 0) := by show _ < _; omega
          go_enter Try.func134, Try.ntmps134
          go_upto_region 1 with (fail)
          rw [← hw1]
          clear hw1
          go_wp2_with (first
            | (go_at_call 88; refine (fits_any r.cls 2 w3).mono ?_; rw [HC.out]; rintro e w4 ⟨rfl, rfl⟩)
            | (go_at_call 109; refine (dsound_any r.type s.d r.data w1 (HI.out.d.rd HS1.out) HBD.out.1 HBD.out.2.1 HBD.out.2.2.1 HBD.out.2.2.2).mono ?_; rw [HD.out]; rintro e w3 ⟨v3, rfl, rfl, hb3⟩; obtain ⟨y0, y1, y2, y3, y4, y5, y6, y7, y8⟩ := (HR.out.below hb3).cells)
            | (go_at_call 61; refine (sound_any s.A _ s.c r.name w1 HI.out.n HBN.out).mono ?_; rw [HN.out]; rintro e w2 ⟨rfl, rfl⟩)
            | fail)
          go_ret
          exact ⟨_, rfl, by show Value.bool _ = Value.bool _; rw [fineR_neg H0.out], nx HBW1.out hb3⟩

set_option maxHeartbeats 4000000 in
theorem rSound_any (s : RS) (r : RR) (w : World) {S : Nat → Prop} (h : RIn S w s r) (hS : ∀ b, S b → b < w.heap.size) (hbn : r.name.length ≤ 1000000000) (hbd : r.data.host.length ≤ 1000000000 ∧ r.data.mail.length ≤ 1000000000 ∧ r.data.nums.length ≤ 1000000000 ∧ r.data.texts.length ≤ 1000000000) :
    Calls Try.prog 80 #[rrV s r] w (RetP (fun v _ => v = .bool (fineRB r)) w) := by
  obtain ⟨w1, hw1⟩ : ∃ w1, w1 = w.alloc (.cells (rrCells s r) 84) := ⟨_, rfl⟩
  have hb1 : Below w.heap.size w w1 := by rw [hw1]; exact bl.alloc (Nat.le_refl _) _
  have HR : Hid (RRow w1 w.heap.size s r) := by show RRow _ _ _ _; rw [hw1]; exact RRow.made w s r
  have HI := Lib.hid (h.below hb1 hS)
  have HS1 : Hid (∀ b, S b → b < w1.heap.size) := fun b hb => Nat.lt_of_lt_of_le (hS b hb) hb1.size
  have HBW1 := Lib.hid hb1
  have HBN := Lib.hid hbn
  have HBD := Lib.hid hbd
  obtain ⟨ic1, ic2⟩ := h.ic
  have HIC := Lib.hid ic2
  obtain ⟨x0, x1, x2, x3, x4, x5, x6, x7, x8⟩ := HR.out.cells
  unfold rrV
  unfold rrCells at hw1 ⊢
  clear h hS hb1 hbn hbd ic1 ic2

  cases hn : soundB r.name with
  | false =>
    have HN := Lib.hid hn
    clear hn
    go_enter Try.func80, Try.ntmps80
    go_upto_region 1 with (fail)
    rw [← hw1]
    clear hw1
    go_wp2_with (first
      | (go_at_call 27; refine (rsound_any s.A _ s.c r.name w1 HI.out.n).mono ?_; rw [HN.out]; rintro e w2 ⟨rfl, rfl⟩)
      | fail)
    go_ret
    exact ⟨_, rfl, by show Value.bool _ = Value.bool _; rw [fineR_name HN.out], HBW1.out⟩
  | true =>
    have HN := Lib.hid hn
    clear hn
    cases hd : fineB r.type r.data with
    | false =>
      have HD := Lib.hid hd
      clear hd
      go_enter Try.func80, Try.ntmps80
      go_upto_region 1 with (fail)
      rw [← hw1]
      clear hw1
      go_wp2_with (first
        | (go_at_call 76; refine (rdata_any r.type s.d r.data w1 (HI.out.d.rd HS1.out) HBD.out.2.2.2 HBD.out.2.2.1).mono ?_; rw [HD.out]; rintro e w3 ⟨v3, rfl, rfl, hb3⟩; obtain ⟨y0, y1, y2, y3, y4, y5, y6, y7, y8⟩ := (HR.out.below hb3).cells)
        | (go_at_call 27; refine (rsound_any s.A _ s.c r.name w1 HI.out.n).mono ?_; rw [HN.out]; rintro e w2 ⟨rfl, rfl⟩)
        | fail)
      go_ret
      exact ⟨_, rfl, by show Value.bool _ = Value.bool _; rw [fineR_data HD.out], nx HBW1.out hb3⟩
    | true =>
      have HD := Lib.hid hd
      clear hd
      cases hc : fitsB r.cls 2 with
      | false =>
        have HC := Lib.hid hc
        clear hc
        go_enter Try.func80, Try.ntmps80
        go_upto_region 1 with (fail)
        rw [← hw1]
        clear hw1
        go_wp2_with (first
          | (go_at_call 90; refine (rfits_any r.cls 2 w3 HIC.out).mono ?_; rw [HC.out]; rintro e w4 ⟨rfl, rfl⟩)
          | (go_at_call 76; refine (rdata_any r.type s.d r.data w1 (HI.out.d.rd HS1.out) HBD.out.2.2.2 HBD.out.2.2.1).mono ?_; rw [HD.out]; rintro e w3 ⟨v3, rfl, rfl, hb3⟩; obtain ⟨y0, y1, y2, y3, y4, y5, y6, y7, y8⟩ := (HR.out.below hb3).cells)
          | (go_at_call 27; refine (rsound_any s.A _ s.c r.name w1 HI.out.n).mono ?_; rw [HN.out]; rintro e w2 ⟨rfl, rfl⟩)
          | fail)
        go_ret
        exact ⟨_, rfl, by show Value.bool _ = Value.bool _; rw [fineR_cls HC.out], nx HBW1.out hb3⟩
      | true =>
        have HC := Lib.hid hc
        clear hc
        by_cases h0 : 0 ≤ r.ttl
        · have H0 := Lib.hid h0
          go_enter Try.func80, Try.ntmps80
          go_upto_region 1 with (fail)
          rw [← hw1]
          clear hw1
          go_wp2_with (first
            | (go_at_call 90; refine (rfits_any r.cls 2 w3 HIC.out).mono ?_; rw [HC.out]; rintro e w4 ⟨rfl, rfl⟩)
            | (go_at_call 76; refine (rdata_any r.type s.d r.data w1 (HI.out.d.rd HS1.out) HBD.out.2.2.2 HBD.out.2.2.1).mono ?_; rw [HD.out]; rintro e w3 ⟨v3, rfl, rfl, hb3⟩; obtain ⟨y0, y1, y2, y3, y4, y5, y6, y7, y8⟩ := (HR.out.below hb3).cells)
            | (go_at_call 27; refine (rsound_any s.A _ s.c r.name w1 HI.out.n).mono ?_; rw [HN.out]; rintro e w2 ⟨rfl, rfl⟩)
            | fail)
          go_ret
          exact ⟨_, rfl, by show Value.bool _ = Value.bool _; rw [fineR_last HN.out HD.out HC.out H0.out], nx HBW1.out hb3⟩
        · have H0 : Hid (r.ttl < 0) := by show _ < _; omega
          go_enter Try.func80, Try.ntmps80
          go_upto_region 1 with (fail)
          rw [← hw1]
          clear hw1
          go_wp2_with (first
            | (go_at_call 90; refine (rfits_any r.cls 2 w3 HIC.out).mono ?_; rw [HC.out]; rintro e w4 ⟨rfl, rfl⟩)
            | (go_at_call 76; refine (rdata_any r.type s.d r.data w1 (HI.out.d.rd HS1.out) HBD.out.2.2.2 HBD.out.2.2.1).mono ?_; rw [HD.out]; rintro e w3 ⟨v3, rfl, rfl, hb3⟩; obtain ⟨y0, y1, y2, y3, y4, y5, y6, y7, y8⟩ := (HR.out.below hb3).cells)
            | (go_at_call 27; refine (rsound_any s.A _ s.c r.name w1 HI.out.n).mono ?_; rw [HN.out]; rintro e w2 ⟨rfl, rfl⟩)
            | fail)
          go_ret
          exact ⟨_, rfl, by show Value.bool _ = Value.bool _; rw [fineR_neg H0.out], nx HBW1.out hb3⟩
end Go.Proofs.Ytimkdpkhdbiniaa

/- msg: what may be: a question, a record; the closures; the sections. -/
namespace Go.Proofs.Ytimkdpkhdbiniaa
open Go.RowKit
set_option maxRecDepth 100000

theorem fineQ_false {q : Qu} (h : ¬ FineQ q) : fineQ q = false := by rw [← Bool.not_eq_true, fineQ_iff]; exact h
theorem fineQ_val {q : Qu} (h1 : soundB q.name = true) (h2 : 1 ≤ q.type) (h3 : fitsB q.type 2 = true) : fineQ q = fitsB q.cls 2 := by unfold fineQ; rw [h1, decide_eq_true h2, h3]; rfl
set_option maxHeartbeats 2000000 in
theorem mquestion_any (s : QS) (x : Qu) (S : Nat → Prop) (w : World) (h : QIn S w s x) (hS : ∀ b, S b → b < w.heap.size) (hn : x.name.length ≤ 1000000000) :
    Calls Try.prog 169 #[quV s x] w (RetP (fun v _ => v = .bool (fineQ x)) w) := by
  obtain ⟨w1, hw1⟩ : ∃ w1, w1 = w.alloc (.cells (qCells s x) 25) := ⟨_, rfl⟩
  have hb1 : Below w.heap.size w w1 := by rw [hw1]; exact bl.alloc (Nat.le_refl _) _
  have HR : Hid (QRow w1 w.heap.size s x) := by show QRow _ _ _ _; rw [hw1]; exact QRow.made w s x
  have HI := Lib.hid (h.below hb1 hS)
  have HB1 := Lib.hid hb1
  have HN := Lib.hid hn
  obtain ⟨x0, x1, x2⟩ := HR.out.cells
  unfold quV
  unfold qCells at hw1
  clear h hS hb1 hn
  cases h0 : soundB x.name with
  | false =>
    have HT0 := Lib.hid h0
    clear h0
    go_enter Try.func169, Try.ntmps169
    go_upto_region 1 with (fail)
    rw [← hw1]
    clear hw1
    go_wp2_with (first
      | (go_at_call 61; refine (sound_any s.A _ s.c x.name w1 HI.out.n HN.out).mono ?_; rw [HT0.out]; rintro e w2 ⟨rfl, rfl⟩)
      | fail)
    go_ret
    exact ⟨_, rfl, by show Value.bool _ = Value.bool _; rw [fineQ_false (fun hf => by have h1 := soundB_iff.2 hf.1; rw [HT0.out] at h1; cases h1)], HB1.out⟩
  | true =>
    have HT0 := Lib.hid h0
    clear h0
    by_cases h1 : 1 ≤ x.type
    · cases h2 : fitsB x.type 2 with
      | false =>
        have HT2 := Lib.hid h2
        clear h2
        go_enter Try.func169, Try.ntmps169
        go_upto_region 1 with (fail)
        rw [← hw1]
        clear hw1
        go_wp2_with (first
          | (go_at_call 61; refine (sound_any s.A _ s.c x.name w1 HI.out.n HN.out).mono ?_; rw [HT0.out]; rintro e w2 ⟨rfl, rfl⟩)
          | (go_at_call 88; refine (fits_any x.type 2 w1).mono ?_; rw [HT2.out]; rintro e w3 ⟨rfl, rfl⟩)
          | fail)
        go_ret
        exact ⟨_, rfl, by show Value.bool _ = Value.bool _; rw [fineQ_false (fun hf => by have h1 := hf.2.2.1; rw [HT2.out] at h1; cases h1)], HB1.out⟩
      | true =>
        have HT2 := Lib.hid h2
        clear h2
        go_enter Try.func169, Try.ntmps169
        go_upto_region 1 with (fail)
        rw [← hw1]
        clear hw1
        go_wp2_with (first
          | (go_at_call 61; refine (sound_any s.A _ s.c x.name w1 HI.out.n HN.out).mono ?_; rw [HT0.out]; rintro e w2 ⟨rfl, rfl⟩)
          | (go_at_call 88; (with_reducible refine (fits_any x.type 2 w1).mono ?_); rw [HT2.out]; rintro e w3 ⟨rfl, rfl⟩)
          | (go_at_call 88; (with_reducible refine (fits_any x.cls 2 w1).mono ?_); rintro e w4 ⟨rfl, rfl⟩)
          | fail)
        go_ret
        exact ⟨_, rfl, by show Value.bool _ = Value.bool _; rw [fineQ_val HT0.out h1 HT2.out], HB1.out⟩
    · skip
      go_enter Try.func169, Try.ntmps169
      go_upto_region 1 with (fail)
      rw [← hw1]
      clear hw1
      go_wp2_with (first
        | (go_at_call 61; refine (sound_any s.A _ s.c x.name w1 HI.out.n HN.out).mono ?_; rw [HT0.out]; rintro e w2 ⟨rfl, rfl⟩)
        | fail)
      go_ret
      exact ⟨_, rfl, by show Value.bool _ = Value.bool _; rw [fineQ_false (fun hf => by have := hf.2.1; omega)], HB1.out⟩

theorem fineK_false {r : RR} (h : ¬ FineK r) : fineK r = false := by rw [← Bool.not_eq_true, fineK_iff]; exact h
theorem fineK_val {r : RR} (h : ¬ r.type = 41) : fineK r = fineRB r := by unfold fineK; rw [decide_eq_false h]; rfl
/-- A record's lists are not too long to be looked at. -/
def Lt9 (r : RR) : Prop := r.name.length ≤ 1000000000 ∧ r.data.host.length ≤ 1000000000 ∧ r.data.mail.length ≤ 1000000000 ∧ r.data.nums.length ≤ 1000000000 ∧ r.data.texts.length ≤ 1000000000
set_option maxHeartbeats 2000000 in
theorem mrecord_any (s : RS) (r : RR) (w : World) {S : Nat → Prop} (h : RIn S w s r) (hS : ∀ b, S b → b < w.heap.size) (hb : Lt9 r) :
    Calls Try.prog 166 #[rrV s r] w (RetP (fun v _ => v = .bool (fineK r)) w) := by
  obtain ⟨w1, hw1⟩ : ∃ w1, w1 = w.alloc (.cells (rrCells s r) 84) := ⟨_, rfl⟩
  have hb1 : Below w.heap.size w w1 := by rw [hw1]; exact bl.alloc (Nat.le_refl _) _
  have HR : Hid (RRow w1 w.heap.size s r) := by show RRow _ _ _ _; rw [hw1]; exact RRow.made w s r
  have HI := Lib.hid (h.below hb1 hS)
  have HS1 : Hid (∀ b, S b → b < w1.heap.size) := fun b hb => Nat.lt_of_lt_of_le (hS b hb) hb1.size
  have HBW1 := Lib.hid hb1
  have HB := Lib.hid hb
  obtain ⟨x0, x1, x2, x3, x4, x5, x6, x7, x8⟩ := HR.out.cells
  unfold rrV
  unfold rrCells at hw1 ⊢
  clear h hS hb1 hb
  by_cases ht : r.type = 41
  · have HT := Lib.hid ht
    rw [ht] at hw1 x1 ⊢
    clear ht
    go_enter Try.func166, Try.ntmps166
    go_upto_region 1 with (fail)
    rw [← hw1]
    clear hw1
    go_wp2
    go_ret
    exact ⟨_, rfl, by show Value.bool _ = Value.bool _; rw [fineK_false (fun hf => hf.1 HT.out)], HBW1.out⟩
  · have htb : (r.type != 41) = true := by simp [ht]
    go_enter Try.func166, Try.ntmps166
    go_upto_region 1 with (fail)
    rw [← hw1]
    clear hw1
    go_wp2_with (first
      | (go_at_call 134; refine (rrSound_any s r w1 HI.out HS1.out HB.out.1 HB.out.2).mono ?_; rintro e w2 ⟨v2, rfl, rfl, hb2⟩)
      | fail)
    go_ret
    exact ⟨_, rfl, by show Value.bool _ = Value.bool _; rw [fineK_val ht], nx HBW1.out hb2⟩
set_option maxHeartbeats 2000000 in
theorem mS1_any (s : RS) (r : RR) (w : World) {S : Nat → Prop} (h : RIn S w s r) (hS : ∀ b, S b → b < w.heap.size) (hb : Lt9 r) :
    Calls Try.prog 165 #[rrV s r] w (RetP (fun v _ => v = .bool (!fineK r)) w) := by
  obtain ⟨w1, hw1⟩ : ∃ w1, w1 = w.alloc (.cells (rrCells s r) 84) := ⟨_, rfl⟩
  have hb1 : Below w.heap.size w w1 := by rw [hw1]; exact bl.alloc (Nat.le_refl _) _
  have HR : Hid (RRow w1 w.heap.size s r) := by show RRow _ _ _ _; rw [hw1]; exact RRow.made w s r
  have HC := Lib.hid (mrecord_any s r w1 (h.below hb1 hS) (fun b hb => Nat.lt_of_lt_of_le (hS b hb) hb1.size) hb)
  have HBW1 := Lib.hid hb1
  obtain ⟨x0, x1, x2, x3, x4, x5, x6, x7, x8⟩ := HR.out.cells
  unfold rrV rrCells at HC
  unfold rrV
  unfold rrCells at hw1 ⊢
  clear h hS hb1 hb
  go_enter Try.func165, Try.ntmps165
  go_upto_region 1 with (fail)
  rw [← hw1]
  clear hw1
  go_wp2_with (first
    | (go_at_call 166; refine HC.out.mono ?_; rintro e w2 ⟨v2, rfl, rfl, hb2⟩)
    | fail)
  go_ret
  exact ⟨_, rfl, rfl, nx HBW1.out hb2⟩
set_option maxHeartbeats 2000000 in
theorem mS2_any (s : QS) (x : Qu) (S : Nat → Prop) (w : World) (h : QIn S w s x) (hS : ∀ b, S b → b < w.heap.size) (hn : x.name.length ≤ 1000000000) :
    Calls Try.prog 168 #[quV s x] w (RetP (fun v _ => v = .bool (!fineQ x)) w) := by
  obtain ⟨w1, hw1⟩ : ∃ w1, w1 = w.alloc (.cells (qCells s x) 25) := ⟨_, rfl⟩
  have hb1 : Below w.heap.size w w1 := by rw [hw1]; exact bl.alloc (Nat.le_refl _) _
  have HR : Hid (QRow w1 w.heap.size s x) := by show QRow _ _ _ _; rw [hw1]; exact QRow.made w s x
  have HC := Lib.hid (mquestion_any s x S w1 (h.below hb1 hS) (fun b hb => Nat.lt_of_lt_of_le (hS b hb) hb1.size) hn)
  have HB1 := Lib.hid hb1
  obtain ⟨x0, x1, x2⟩ := HR.out.cells
  unfold quV at HC ⊢
  unfold qCells at hw1
  clear h hS hb1 hn
  go_enter Try.func168, Try.ntmps168
  go_upto_region 1 with (fail)
  rw [← hw1]
  clear hw1
  go_wp2_with (first
    | (go_at_call 169; refine HC.out.mono ?_; rintro e w2 ⟨v2, rfl, rfl, hb2⟩)
    | fail)
  go_ret
  exact ⟨_, rfl, rfl, nx HB1.out hb2⟩

set_option maxHeartbeats 1000000 in
theorem indexMr_any (p : RR → Bool) (A : Option Addr) (n c : Nat) (xs : List RR) (w : World) (h : RdE encRR w A n xs) (hn : n ≤ 1000000000)
    (hf : ∀ (s : RS) (x : RR) (W : World), x ∈ xs → Below w.heap.size w W → RIn (ltS w) W s x → Calls Try.prog 165 #[rrV s x] W (RetP (fun v _ => v = .bool (p x)) W)) :
    Calls Try.prog 176 #[.slice A n c, .func (.func 165) #[] #[]] w (RetP (fun v _ => ∃ i : Int, v = .int .i64 i ∧ (0 ≤ i ↔ xs.any p = true)) w) := by
  have hl := h.len
  subst hl
  have H := Lib.hid h
  have HF := Lib.hid hf
  clear h hf
  go_enter Try.func176, Try.ntmps176
  go_wp2
  go_loopw [5, 8] (fun _ iv wr => ∃ k : Nat, iv = .int .i64 k ∧ k ≤ xs.length ∧ Hid ((xs.take k).any p = false) ∧ Hid (Below w.heap.size w wr)) (fun _ iv _ => xs.length - (intOf iv).toNat)
  case atStart => exact ⟨0, rfl, Nat.zero_le _, rfl, bl⟩
  case round =>
    obtain ⟨k, rfl, hk, HK, HBW⟩ := hrel
    by_cases hlt : k < xs.length
    · obtain ⟨x, hx⟩ : ∃ x, xs[k]? = some x := ⟨_, List.getElem?_eq_getElem hlt⟩
      obtain ⟨b, off, s, rfl, _, hd, hc⟩ := rr_at H.out hx
      obtain ⟨d0, d1, d2, d3, d4, d5, d6, d7, d8⟩ := hc.below HBW.out
      have hq := HF.out s x wr (List.mem_of_getElem? hx) HBW.out (hd.below HBW.out (fun b hb => hb))
      have HX := Lib.hid hx
      unfold rrV rrCells at hq
      clear hx hd hc
      cases hp : p x with
      | false =>
        rw [hp] at hq
        have HQ := Lib.hid hq
        have HP := Lib.hid hp
        clear hq hp
        go_wp2_with (go_at_call 165; refine HQ.out.mono ?_; rintro e w1 ⟨v1, rfl, rfl, hb1⟩)
        go_roundw
        case rel => exact ⟨k + 1, by go_num, by omega, any_take_s HX.out HK.out HP.out, nx HBW.out hb1⟩
        case measure => simp [intOf]; omega
      | true =>
        rw [hp] at hq
        have HQ := Lib.hid hq
        have HP := Lib.hid hp
        clear hq hp
        go_wp2_with (go_at_call 165; refine HQ.out.mono ?_; rintro e w1 ⟨v1, rfl, rfl, hb1⟩)
        go_ret
        exact ⟨_, rfl, ⟨_, rfl, ⟨fun _ => List.any_eq_true.2 ⟨x, List.mem_of_getElem? HX.out, HP.out⟩, fun _ => Int.natCast_nonneg _⟩⟩, nx HBW.out hb1⟩
    · obtain rfl : k = xs.length := by omega
      rw [List.take_length] at HK
      go_wp2
      go_ret
      exact ⟨_, rfl, ⟨-1, rfl, ⟨fun h => absurd h (by decide), fun h => by rw [HK.out] at h; cases h⟩⟩, HBW.out⟩
theorem hasMr_any (p : RR → Bool) (A : Option Addr) (n c : Nat) (xs : List RR) (w : World) (h : RdE encRR w A n xs) (hn : n ≤ 1000000000)
    (hf : ∀ (s : RS) (x : RR) (W : World), x ∈ xs → Below w.heap.size w W → RIn (ltS w) W s x → Calls Try.prog 165 #[rrV s x] W (RetP (fun v _ => v = .bool (p x)) W)) :
    Calls Try.prog 135 #[.slice A n c, .func (.func 165) #[] #[]] w (RetP (fun v _ => v = .bool (xs.any p)) w) := by
  have HQ := Lib.hid (indexMr_any p A n c xs w h hn hf)
  clear h hf
  go_enter Try.func135, Try.ntmps135
  go_wp2_with (go_at_call 176; refine HQ.out.mono ?_; rintro e w1 ⟨v1, rfl, ⟨i, rfl, hi⟩, hb1⟩; have HI := Lib.hid hi; clear hi)
  go_ret
  refine ⟨_, rfl, ?_, hb1⟩
  show Value.bool _ = Value.bool _
  congr 1
  rw [Bool.eq_iff_iff, decide_eq_true_iff, HI.out]


set_option maxHeartbeats 1000000 in
theorem indexMq_any (p : Qu → Bool) (A : Option Addr) (n c : Nat) (xs : List Qu) (w : World) (h : RdE encQu w A n xs) (hn : n ≤ 1000000000)
    (hf : ∀ (s : QS) (x : Qu) (W : World), x ∈ xs → Below w.heap.size w W → QIn (ltS w) W s x → Calls Try.prog 168 #[quV s x] W (RetP (fun v _ => v = .bool (p x)) W)) :
    Calls Try.prog 191 #[.slice A n c, .func (.func 168) #[] #[]] w (RetP (fun v _ => ∃ i : Int, v = .int .i64 i ∧ (0 ≤ i ↔ xs.any p = true)) w) := by
  have hl := h.len
  subst hl
  have H := Lib.hid h
  have HF := Lib.hid hf
  clear h hf
  go_enter Try.func191, Try.ntmps191
  go_wp2
  go_loopw [5, 8] (fun _ iv wr => ∃ k : Nat, iv = .int .i64 k ∧ k ≤ xs.length ∧ Hid ((xs.take k).any p = false) ∧ Hid (Below w.heap.size w wr)) (fun _ iv _ => xs.length - (intOf iv).toNat)
  case atStart => exact ⟨0, rfl, Nat.zero_le _, rfl, bl⟩
  case round =>
    obtain ⟨k, rfl, hk, HK, HBW⟩ := hrel
    by_cases hlt : k < xs.length
    · obtain ⟨x, hx⟩ : ∃ x, xs[k]? = some x := ⟨_, List.getElem?_eq_getElem hlt⟩
      obtain ⟨b, off, s, rfl, _, hd, hc⟩ := qu_at H.out hx
      obtain ⟨d0, d1, d2⟩ := hc.below HBW.out
      have hq := HF.out s x wr (List.mem_of_getElem? hx) HBW.out (hd.below HBW.out (fun b hb => hb))
      have HX := Lib.hid hx
      unfold quV at hq
      clear hx hd hc
      cases hp : p x with
      | false =>
        rw [hp] at hq
        have HQ := Lib.hid hq
        have HP := Lib.hid hp
        clear hq hp
        go_wp2_with (go_at_call 168; refine HQ.out.mono ?_; rintro e w1 ⟨v1, rfl, rfl, hb1⟩)
        go_roundw
        case rel => exact ⟨k + 1, by go_num, by omega, any_take_s HX.out HK.out HP.out, nx HBW.out hb1⟩
        case measure => simp [intOf]; omega
      | true =>
        rw [hp] at hq
        have HQ := Lib.hid hq
        have HP := Lib.hid hp
        clear hq hp
        go_wp2_with (go_at_call 168; refine HQ.out.mono ?_; rintro e w1 ⟨v1, rfl, rfl, hb1⟩)
        go_ret
        exact ⟨_, rfl, ⟨_, rfl, ⟨fun _ => List.any_eq_true.2 ⟨x, List.mem_of_getElem? HX.out, HP.out⟩, fun _ => Int.natCast_nonneg _⟩⟩, nx HBW.out hb1⟩
    · obtain rfl : k = xs.length := by omega
      rw [List.take_length] at HK
      go_wp2
      go_ret
      exact ⟨_, rfl, ⟨-1, rfl, ⟨fun h => absurd h (by decide), fun h => by rw [HK.out] at h; cases h⟩⟩, HBW.out⟩
theorem hasMq_any (p : Qu → Bool) (A : Option Addr) (n c : Nat) (xs : List Qu) (w : World) (h : RdE encQu w A n xs) (hn : n ≤ 1000000000)
    (hf : ∀ (s : QS) (x : Qu) (W : World), x ∈ xs → Below w.heap.size w W → QIn (ltS w) W s x → Calls Try.prog 168 #[quV s x] W (RetP (fun v _ => v = .bool (p x)) W)) :
    Calls Try.prog 167 #[.slice A n c, .func (.func 168) #[] #[]] w (RetP (fun v _ => v = .bool (xs.any p)) w) := by
  have HQ := Lib.hid (indexMq_any p A n c xs w h hn hf)
  clear h hf
  go_enter Try.func167, Try.ntmps167
  go_wp2_with (go_at_call 191; refine HQ.out.mono ?_; rintro e w1 ⟨v1, rfl, ⟨i, rfl, hi⟩, hb1⟩; have HI := Lib.hid hi; clear hi)
  go_ret
  refine ⟨_, rfl, ?_, hb1⟩
  show Value.bool _ = Value.bool _
  congr 1
  rw [Bool.eq_iff_iff, decide_eq_true_iff, HI.out]


/-- The three lists of records, by their places. -/
def secL (m : Ms) : Nat → List RR
  | 0 => m.an
  | 1 => m.au
  | _ => m.ex
def secA (s : MS) : Nat → Option Addr
  | 0 => s.A
  | 1 => s.U
  | _ => s.X
def secC (s : MS) : Nat → Nat
  | 0 => s.ac
  | 1 => s.uc
  | _ => s.xc
theorem MRow.sec {w : World} {q : Nat} {s : MS} {m : Ms} (h : MRow w q s m) {j : Nat} (hj : j < 3) : w.cell? ⟨q, 9 + j, none⟩ = some (.slice (secA s j) (secL m j).length (secC s j)) := by
  match j, hj with
  | 0, _ => exact (h.cell 9).trans rfl
  | 1, _ => exact (h.cell 10).trans rfl
  | 2, _ => exact (h.cell 11).trans rfl
theorem MIn.sec {S : Nat → Prop} {w : World} {s : MS} {m : Ms} (h : MIn S w s m) (j : Nat) : Els encRR S S w (secA s j) (secL m j).length (secL m j) := by
  match j with
  | 0 => exact h.a
  | 1 => exact h.u
  | n + 2 => exact h.x
/-- The pointers to the three lists. -/
def secP (q : Nat) : Array Value := #[.pointer (some ⟨q, 9, none⟩), .pointer (some ⟨q, 10, none⟩), .pointer (some ⟨q, 11, none⟩)]
theorem secP_cell {w : World} {g q : Nat} (h : w.heap[g]? = some (.cells (secP q) 172 (0, 0))) {j : Nat} (hj : j < 3) : w.cell? ⟨g, j, none⟩ = some (.pointer (some ⟨q, 9 + j, none⟩)) := by
  have h0 := fun k => cell_of_row w g k _ _ _ h
  match j, hj with
  | 0, _ => exact (h0 0).trans rfl
  | 1, _ => exact (h0 1).trans rfl
  | 2, _ => exact (h0 2).trans rfl
set_option maxHeartbeats 2000000 in
theorem sections_any (q : Nat) (w : World) : Calls Try.prog 146 #[.pointer (some ⟨q, 0, none⟩)] w (fun e w' => ∃ g, e = .returned (.slice (some ⟨g, 0, none⟩) 3 3) ∧ w'.heap[g]? = some (.cells (secP q) 172 (0, 0)) ∧ w.heap.size ≤ g ∧ Below w.heap.size w w') := by
  go_enter Try.func146, Try.ntmps146
  go_upto_region 1 with (fail)
  go_region
  go_wp2
  go_ret
  exact ⟨_, rfl, heap_alloc_new w _, Nat.le_refl _, (bl.alloc (Nat.le_refl _) _).drew⟩
end Go.Proofs.Ytimkdpkhdbiniaa

/- The reference's OwnMsg: a message that shares nothing. -/
namespace Go.Proofs.Ytimkdpkhdbiniaa
open Go.RowKit
set_option maxRecDepth 100000

theorem quRow_R {S : Nat → Prop} {w : World} {A : Option Addr} {c : Nat} {x : Qu} (h1 : Els encS S S w A x.name.length x.name) (h2 : x.name.length ≤ c ∧ c ≤ maxLen) (h3 : -9223372036854775808 ≤ x.type ∧ x.type ≤ 9223372036854775807) (h4 : -9223372036854775808 ≤ x.cls ∧ x.cls ≤ 9223372036854775807) : encQu.R S w [.slice A x.name.length c, .int .i64 x.type, .int .i64 x.cls] x := ⟨A, c, rfl, h1, h2, h3, h4⟩

end Go.Proofs.Ytimkdpkhdbiniaa

/- msg.Sound: may a message be? -/
namespace Go.Proofs.Ytimkdpkhdbiniaa
open Go.RowKit
set_option maxRecDepth 100000

/-- A message whose lists can be looked at. -/
structure LtM (m : Ms) : Prop where
  q : m.qs.length ≤ 1000000
  s : ∀ j, (secL m j).length ≤ 1000000
  qn : ∀ x ∈ m.qs, x.name.length ≤ 1000000000
  r : ∀ j, ∀ x ∈ secL m j, Lt9 x ∧ x.data.bytes.length ≤ 1000000000
def totS (m : Ms) : Nat → Nat
  | 0 => m.qs.length
  | j + 1 => totS m j + (secL m j).length
theorem totS_le {m : Ms} (h : LtM m) (j : Nat) : totS m j ≤ 1000000 * (j + 1) := by
  induction j with
  | zero => have := h.q; show m.qs.length ≤ _; omega
  | succ j ih => have := h.s j; show totS m j + (secL m j).length ≤ _; omega
theorem FineM.sec {m : Ms} (h : FineM m) : ∀ j, ∀ r ∈ secL m j, FineK r
  | 0 => h.an
  | 1 => h.au
  | _ + 2 => h.ex
theorem totS_mono (m : Ms) {i j : Nat} (h : i ≤ j) : totS m i ≤ totS m j := by
  induction h with
  | refl => exact Nat.le_refl _
  | step _ ih => exact Nat.le_trans ih (Nat.le_add_right _ _)
theorem totS_3 (m : Ms) : totS m 3 = totM m := rfl
theorem any_bad {m : Ms} {j : Nat} (h : (secL m j).any (fun r => !fineK r) = true) : ¬ FineM m := fun hf => by
  obtain ⟨r, hr, h1⟩ := List.any_eq_true.1 h
  rw [fineK_iff.2 (hf.sec j r hr)] at h1
  cases h1
theorem any_good {m : Ms} {j : Nat} (h : (secL m j).any (fun r => !fineK r) = false) : ∀ r ∈ secL m j, FineK r := fun r hr => by
  rw [List.any_eq_false] at h
  have h1 := h r hr
  rw [← fineK_iff]
  simpa using h1
theorem anyq_bad {m : Ms} (h : m.qs.any (fun q => !fineQ q) = true) : ¬ FineM m := fun hf => by
  obtain ⟨r, hr, h1⟩ := List.any_eq_true.1 h
  rw [fineQ_iff.2 (hf.qs r hr)] at h1
  cases h1
theorem anyq_good {m : Ms} (h : m.qs.any (fun q => !fineQ q) = false) : ∀ q ∈ m.qs, FineQ q := fun q hq => by
  rw [List.any_eq_false] at h
  have h1 := h q hq
  rw [← fineQ_iff]
  simpa using h1
theorem ms_last {m : Ms} (h0 : totM m ≤ 512) (h1 : fitsB m.id 2 = true) (h2 : 0 ≤ m.op) (h3 : m.op < 16) (h4 : 0 ≤ m.rcode) (h5 : m.rcode < 16) (h6 : fitsB m.size 2 = true) (h7 : m.edns = true ∨ m.size = 0)
    (hs : ∀ j, j < 3 → ∀ r ∈ secL m j, FineK r) : fineM m = !(m.qs.any (fun q => !fineQ q)) := by
  cases h : m.qs.any (fun q => !fineQ q) with
  | true => exact fineM_no (anyq_bad h)
  | false => exact fineM_yes ⟨h0, h1, h2, h3, h4, h5, h6, h7, anyq_good h, hs 0 (by decide), hs 1 (by decide), hs 2 (by decide)⟩

set_option maxHeartbeats 16000000 in
theorem mSound_any (s : MS) (m : Ms) (w : World) {S : Nat → Prop} (h : MIn S w s m) (hS : ∀ b, S b → b < w.heap.size) (hL : LtM m) :
    Calls Try.prog 119 #[msV s m] w (RetP (fun v _ => v = .bool (fineM m)) w) := by
  obtain ⟨w1, hw1⟩ : ∃ w1, w1 = w.alloc (.cells (mCells s m) 31) := ⟨_, rfl⟩
  have hb1 : Below w.heap.size w w1 := by rw [hw1]; exact bl.alloc (Nat.le_refl _) _
  have HR1 : Hid (MRow w1 w.heap.size s m) := by show MRow _ _ _ _; rw [hw1]; exact MRow.made w s m
  have HI1 := Lib.hid (h.below hb1 hS)
  have HS1 : Hid (∀ b, S b → b < w1.heap.size) := fun b hb => Nat.lt_of_lt_of_le (hS b hb) hb1.size
  have HB1 := Lib.hid hb1
  have HL := Lib.hid hL
  unfold msV
  unfold mCells at hw1 ⊢
  clear h hS hL hb1
  go_enter Try.func119, Try.ntmps119
  go_upto_region 1 with (fail)
  rw [← hw1]
  clear hw1
  generalize w.heap.size = q at HR1 ⊢
  obtain ⟨z0, z1, z2, z3, z4, z5, z6, z7, z8, z9, z10, z11, z12, z13⟩ := HR1.out.cells
  have hqs := HL.out.q
  go_wp2_with (first
    | (go_at_call 146; refine (sections_any q w1).mono ?_; rintro e w2 ⟨g, rfl, hg2, hl2, hb2⟩; have HG2 := Lib.hid hg2; have HB2 := Lib.hid hb2; clear hg2 hl2 hb2)
    | fail)
  go_loopw [3, 11] (fun av iv wr => ∃ j : Nat, iv = .int .i64 j ∧ j ≤ 3 ∧ av = .int .i64 (totS m j : Int) ∧ Hid (j = 0 ∨ totS m j ≤ 512) ∧ Hid (∀ i, i < j → ∀ r ∈ secL m i, FineK r) ∧ Hid (Below w2.heap.size w2 wr)) (fun _ iv _ => 3 - (intOf iv).toNat)
  case atStart => exact ⟨0, rfl, by decide, rfl, .inl rfl, fun i hi => absurd hi (Nat.not_lt_zero i), bl⟩
  case round =>
    obtain ⟨j, rfl, hj, rfl, HT, HF, HBR⟩ := hrel
    have HBW := Lib.hid (HB2.out.trans (HBR.out.mono HB2.out.size))
    have HRW := Lib.hid (HR1.out.below HBW.out)
    have htl := totS_le HL.out j
    by_cases hlt : j < 3
    · have y0 := secP_cell ((HBR.out.block _ (Array.getElem?_eq_some_iff.1 HG2.out).1).trans HG2.out) hlt
      have y1 := HRW.out.sec hlt
      have hsl := HL.out.s j
      have HTE : Hid (totS m (j + 1) = totS m j + (secL m j).length) := rfl
      have HSC := Lib.hid ((HI1.out.sec j).mono HS1.out HS1.out |> fun h => RdE.below h HBW.out)
      have HSL := Lib.hid hsl
      have HRL := Lib.hid (HL.out.r j)
      have HBAD : Hid ((secL m j).any (fun r => !fineK r) = true → ¬ FineM m) := any_bad
      have HGOOD : Hid ((secL m j).any (fun r => !fineK r) = false → ∀ r ∈ secL m j, FineK r) := any_good
      clear z0 z1 z2 z3 z4 z5 z6 z7 z8 z9 z10 z11 z12 z13
      obtain ⟨l, hl⟩ : ∃ l, l = secL m j := ⟨_, rfl⟩
      have HLJ := Lib.hid hl
      rw [← hl] at y1 hsl HTE HSC HSL HRL HBAD HGOOD
      obtain ⟨n, hn⟩ : ∃ n, n = totS m j := ⟨_, rfl⟩
      have HNJ := Lib.hid hn
      rw [← hn] at HTE htl ⊢
      clear hl hn
      by_cases hbig : (512 : Int) < (n : Int) + (l.length : Int)
      · have hno : fineM m = false := fineM_no (fun hf => by have h1 := hf.tot; rw [← totS_3] at h1; have h2 := totS_mono m (show j + 1 ≤ 3 by omega); rw [HTE.out] at h2; omega)
        have HNO := Lib.hid hno
        clear hno
        go_wp2
        go_ret
        exact ⟨_, rfl, by show Value.bool _ = Value.bool _; rw [HNO.out], nx HB1.out HBW.out⟩
      · have HCF := Lib.hid (hasMr_any (fun r => !fineK r) (secA s j) l.length (secC s j) l wr HSC.out (by omega) (fun s' x W hx hW hi => mS1_any s' x W hi (fun b hb => Nat.lt_of_lt_of_le hb hW.size) (HRL.out x hx).1))
        cases ha : l.any (fun r => !fineK r) with
        | true =>
          rw [ha] at HCF
          have HNO := Lib.hid (fineM_no (HBAD.out ha))
          clear ha
          go_wp2_with (first
            | (go_at_call 135; refine HCF.out.mono ?_; rintro e w3 ⟨v3, rfl, rfl, hb3⟩)
            | fail)
          go_ret
          exact ⟨_, rfl, by show Value.bool _ = Value.bool _; rw [HNO.out], nx HB1.out (nx HBW.out hb3)⟩
        | false =>
          rw [ha] at HCF
          have HOK := Lib.hid (HGOOD.out ha)
          clear ha
          go_wp2_with (first
            | (go_at_call 135; refine HCF.out.mono ?_; rintro e w3 ⟨v3, rfl, rfl, hb3⟩)
            | fail)
          go_roundw
          case rel =>
            refine ⟨j + 1, by go_num, by omega, ?_, .inr ?_, ?_, nx HBR.out hb3⟩
            · rw [HTE.out]; go_num
            · rw [HTE.out]; omega
            · intro i hi
              by_cases hij : i < j
              · exact HF.out i hij
              · obtain rfl : i = j := by omega
                rw [← HLJ.out]
                exact HOK.out
          case measure => simp [intOf]; omega
    · obtain rfl : j = 3 := by omega
      have h512 : totM m ≤ 512 := by have h := HT.out; rw [totS_3] at h; omega
      have h512' : (totM m : Int) ≤ 512 := by omega
      have H512 := Lib.hid h512
      rw [totS_3]
      have HI := Lib.hid (HI1.out.below HBW.out HS1.out)
      have HSW : Hid (∀ b, S b → b < wr.heap.size) := fun b hb => Nat.lt_of_lt_of_le (HS1.out b hb) HBW.out.size
      have HBB := Lib.hid (nx HB1.out HBW.out)
      clear htl hlt hj h512
      clear z0 z1 z2 z3 z4 z5 z6 z7 z8 z9 z10 z11 z12 z13
      obtain ⟨z0, z1, z2, z3, z4, z5, z6, z7, z8, z9, z10, z11, z12, z13⟩ := HRW.out.cells
      generalize totM m = n at h512' ⊢
      cases t0 : fitsB m.id 2 with
      | false =>
        have HT0 := Lib.hid t0
        clear t0
        go_wp2_with (first
          | (go_at_call 88; (with_reducible refine (fits_any m.id 2 wr).mono ?_); rw [HT0.out]; rintro e w3 ⟨rfl, rfl⟩)
          | fail)
        go_ret
        exact ⟨_, rfl, by show Value.bool _ = Value.bool _; rw [fineM_no (fun hf => by have h1 := hf.id; rw [HT0.out] at h1; cases h1)], HBB.out⟩
      | true =>
        have HT0 := Lib.hid t0
        clear t0
        by_cases t1 : 0 ≤ m.op
        · skip
          by_cases t2 : m.op < 16
          · skip
            by_cases t3 : 0 ≤ m.rcode
            · skip
              by_cases t4 : m.rcode < 16
              · skip
                cases t5 : fitsB m.size 2 with
                | false =>
                  have HT5 := Lib.hid t5
                  clear t5
                  go_wp2_with (first
                    | (go_at_call 88; (with_reducible refine (fits_any m.size 2 wr).mono ?_); rw [HT5.out]; rintro e w4 ⟨rfl, rfl⟩)
                    | (go_at_call 88; (with_reducible refine (fits_any m.id 2 wr).mono ?_); rw [HT0.out]; rintro e w3 ⟨rfl, rfl⟩)
                    | fail)
                  go_ret
                  exact ⟨_, rfl, by show Value.bool _ = Value.bool _; rw [fineM_no (fun hf => by have h1 := hf.size; rw [HT5.out] at h1; cases h1)], HBB.out⟩
                | true =>
                  have HT5 := Lib.hid t5
                  clear t5
                  cases t6 : m.edns with
                  | true =>
                    have HT6 := Lib.hid t6
                    rw [t6] at z12
                    clear t6
                    go_wp2_with (first
                      | (go_at_call 167; refine (hasMq_any (fun q => !fineQ q) s.Q m.qs.length s.qc m.qs wr (HI.out.q.mono HSW.out HSW.out) (by omega) (fun s' x W hx hW hi => mS2_any s' x _ W hi (fun b hb => Nat.lt_of_lt_of_le hb hW.size) (HL.out.qn x hx))).mono ?_; rintro e w5 ⟨v5, rfl, rfl, hb5⟩)
                      | (go_at_call 88; (with_reducible refine (fits_any m.size 2 wr).mono ?_); rw [HT5.out]; rintro e w4 ⟨rfl, rfl⟩)
                      | (go_at_call 88; (with_reducible refine (fits_any m.id 2 wr).mono ?_); rw [HT0.out]; rintro e w3 ⟨rfl, rfl⟩)
                      | fail)
                    go_ret
                    exact ⟨_, rfl, by show Value.bool _ = Value.bool _; rw [ms_last H512.out HT0.out t1 t2 t3 t4 HT5.out (.inl HT6.out) HF.out], nx HBB.out hb5⟩
                  | false =>
                    have HT6 := Lib.hid t6
                    rw [t6] at z12
                    clear t6
                    by_cases t7 : m.size = 0
                    · have HT7 := Lib.hid t7
                      rw [t7] at z13
                      have HZ5 : Hid (fitsB 0 2 = true) := rfl
                      clear t7
                      go_wp2_with (first
                        | (go_at_call 167; refine (hasMq_any (fun q => !fineQ q) s.Q m.qs.length s.qc m.qs wr (HI.out.q.mono HSW.out HSW.out) (by omega) (fun s' x W hx hW hi => mS2_any s' x _ W hi (fun b hb => Nat.lt_of_lt_of_le hb hW.size) (HL.out.qn x hx))).mono ?_; rintro e w5 ⟨v5, rfl, rfl, hb5⟩)
                        | (go_at_call 88; (with_reducible refine (fits_any 0 2 wr).mono ?_); rw [HZ5.out]; rintro e w4 ⟨rfl, rfl⟩)
                        | (go_at_call 88; (with_reducible refine (fits_any m.id 2 wr).mono ?_); rw [HT0.out]; rintro e w3 ⟨rfl, rfl⟩)
                        | fail)
                      go_ret
                      exact ⟨_, rfl, by show Value.bool _ = Value.bool _; rw [ms_last H512.out HT0.out t1 t2 t3 t4 HT5.out (.inr HT7.out) HF.out], nx HBB.out hb5⟩
                    · have t7b : (m.size == 0) = false := by rw [beq_eq_false_iff_ne]; exact t7
                      go_wp2_with (first
                        | (go_at_call 88; (with_reducible refine (fits_any m.size 2 wr).mono ?_); rw [HT5.out]; rintro e w4 ⟨rfl, rfl⟩)
                        | (go_at_call 88; (with_reducible refine (fits_any m.id 2 wr).mono ?_); rw [HT0.out]; rintro e w3 ⟨rfl, rfl⟩)
                        | fail)
                      go_ret
                      exact ⟨_, rfl, by show Value.bool _ = Value.bool _; rw [fineM_no (fun hf => by have h1 := hf.edns; rw [HT6.out] at h1; exact h1.elim (fun h => by cases h) t7)], HBB.out⟩
              · skip
                go_wp2_with (first
                  | (go_at_call 88; (with_reducible refine (fits_any m.id 2 wr).mono ?_); rw [HT0.out]; rintro e w3 ⟨rfl, rfl⟩)
                  | fail)
                go_ret
                exact ⟨_, rfl, by show Value.bool _ = Value.bool _; rw [fineM_no (fun hf => by have := hf.rc; omega)], HBB.out⟩
            · skip
              go_wp2_with (first
                | (go_at_call 88; (with_reducible refine (fits_any m.id 2 wr).mono ?_); rw [HT0.out]; rintro e w3 ⟨rfl, rfl⟩)
                | fail)
              go_ret
              exact ⟨_, rfl, by show Value.bool _ = Value.bool _; rw [fineM_no (fun hf => by have := hf.rc0; omega)], HBB.out⟩
          · skip
            go_wp2_with (first
              | (go_at_call 88; (with_reducible refine (fits_any m.id 2 wr).mono ?_); rw [HT0.out]; rintro e w3 ⟨rfl, rfl⟩)
              | fail)
            go_ret
            exact ⟨_, rfl, by show Value.bool _ = Value.bool _; rw [fineM_no (fun hf => by have := hf.op; omega)], HBB.out⟩
        · skip
          go_wp2_with (first
            | (go_at_call 88; (with_reducible refine (fits_any m.id 2 wr).mono ?_); rw [HT0.out]; rintro e w3 ⟨rfl, rfl⟩)
            | fail)
          go_ret
          exact ⟨_, rfl, by show Value.bool _ = Value.bool _; rw [fineM_no (fun hf => by have := hf.op0; omega)], HBB.out⟩
end Go.Proofs.Ytimkdpkhdbiniaa

/- Messages: how much is written of one. No program in it. -/
namespace Go.Proofs.Ytimkdpkhdbiniaa
open Go.RowKit
set_option maxRecDepth 100000

def bytesL (l : List RR) : Nat := (l.map fun r => r.data.bytes.length).sum
theorem bytesL_append (l k : List RR) : bytesL (l ++ k) = bytesL l + bytesL k := by unfold bytesL; rw [List.map_append, List.sum_append]
theorem bytesL_take (l : List RR) (k : Nat) : bytesL (l.take k) ≤ bytesL l := by
  have h := bytesL_append (l.take k) (l.drop k)
  rw [List.take_append_drop] at h
  omega
theorem fineQ_take {l : List Qu} (h : ∀ q ∈ l, FineQ q) (k : Nat) : ∀ q ∈ l.take k, FineQ q := fun q hq => h q (List.mem_of_mem_take hq)
theorem fineK_take {l : List RR} (h : ∀ r ∈ l, FineK r) (k : Nat) : ∀ r ∈ l.take k, FineK r := fun r hr => h r (List.mem_of_mem_take hr)
theorem nums2_bnd (x : Wr) (l : List Int) : (x.nums2 l).b.length ≤ x.b.length + 7 * l.length ∧ (x.nums2 l).rests = x.rests := by
  unfold Wr.nums2
  refine snoc_ind (P := fun l => (l.foldl Wr.num2 x).b.length ≤ x.b.length + 7 * l.length ∧ (l.foldl Wr.num2 x).rests = x.rests) ⟨Nat.le_refl _, rfl⟩ (fun l n ih => ?_) l
  rw [List.foldl_append]
  have h := raw_len (l.foldl Wr.num2 x) (putB [] n 2)
  have h2 := putB_len n 2
  refine ⟨?_, ih.2⟩
  show ((l.foldl Wr.num2 x).raw (putB [] n 2)).b.length ≤ _
  rw [h, List.length_append, List.length_singleton]
  omega
theorem qu_bnd (x : Wr) {q : Qu} (h : FineQ q) : (x.qu q).b.length ≤ x.b.length + 270 ∧ (x.qu q).rests.length ≤ x.rests.length + 255 := by
  have h1 := Wr.name_le (x := x) q.name true
  have h2 := Wr.name_rests (x := x) q.name true
  have h3 := h.1.2
  have h4 := sizeN_length q.name
  have h5 := raw_len (x.name q.name true) (putB [] q.type 2)
  have h6 := raw_len ((x.name q.name true).raw (putB [] q.type 2)) (putB [] q.cls 2)
  have h7 := putB_len q.type 2
  have h8 := putB_len q.cls 2
  refine ⟨?_, ?_⟩
  · show (((x.name q.name true).raw (putB [] q.type 2)).raw (putB [] q.cls 2)).b.length ≤ _
    omega
  · show (x.name q.name true).rests.length ≤ _
    omega
theorem qus_bnd (x : Wr) (l : List Qu) : (∀ q ∈ l, FineQ q) → (x.qus l).b.length ≤ x.b.length + 270 * l.length ∧ (x.qus l).rests.length ≤ x.rests.length + 255 * l.length := by
  unfold Wr.qus
  refine snoc_ind (P := fun l => (∀ q ∈ l, FineQ q) → (l.foldl Wr.qu x).b.length ≤ x.b.length + 270 * l.length ∧ (l.foldl Wr.qu x).rests.length ≤ x.rests.length + 255 * l.length) (fun _ => ⟨Nat.le_refl _, Nat.le_refl _⟩) (fun l n ih hf => ?_) l
  obtain ⟨h1, h2⟩ := allp_snoc hf
  rw [List.foldl_append]
  have h3 := ih h1
  have h4 := qu_bnd (l.foldl Wr.qu x) h2
  show ((l.foldl Wr.qu x).qu n).b.length ≤ _ ∧ ((l.foldl Wr.qu x).qu n).rests.length ≤ _
  rw [List.length_append, List.length_singleton]
  omega
theorem rrs_bnd (x : Wr) (l : List RR) : (∀ r ∈ l, FineK r) → (x.rrs l).b.length ≤ x.b.length + 16660 * l.length + bytesL l ∧ (x.rrs l).rests.length ≤ x.rests.length + 765 * l.length := by
  unfold Wr.rrs
  refine snoc_ind (P := fun l => (∀ q ∈ l, FineK q) → (l.foldl Wr.rr x).b.length ≤ x.b.length + 16660 * l.length + bytesL l ∧ (l.foldl Wr.rr x).rests.length ≤ x.rests.length + 765 * l.length) (fun _ => ⟨Nat.le_add_right _ _, Nat.le_refl _⟩) (fun l n ih hf => ?_) l
  obtain ⟨h1, h2⟩ := allp_snoc hf
  rw [List.foldl_append]
  have h3 := ih h1
  have h4 := Wr.rr_len2 (l.foldl Wr.rr x) h2.2
  have h5 := ((l.foldl Wr.rr x).rr_len h2.2).2
  have h6 : bytesL [n] = n.data.bytes.length := by simp [bytesL]
  show ((l.foldl Wr.rr x).rr n).b.length ≤ _ ∧ ((l.foldl Wr.rr x).rr n).rests.length ≤ _
  rw [List.length_append, List.length_singleton, bytesL_append, h6]
  omega
/-- What is written ahead of a section. -/
def secW (m : Ms) : Nat → Wr
  | 0 => (Wr.nil.nums2 (headN m)).qus m.qs
  | j + 1 => (secW m j).rrs (secL m j)
def bytesM (m : Ms) : Nat := bytesL m.an + bytesL m.au + bytesL m.ex
theorem head_bnd (m : Ms) (k : Nat) : (Wr.nil.nums2 ((headN m).take k)).b.length ≤ 42 ∧ (Wr.nil.nums2 ((headN m).take k)).rests.length = 0 := by
  have h := nums2_bnd Wr.nil ((headN m).take k)
  have h1 : ((headN m).take k).length ≤ 6 := by rw [List.length_take]; exact Nat.le_trans (Nat.min_le_right _ _) (Nat.le_of_eq rfl)
  have h2 : Wr.nil.b.length = 0 := rfl
  refine ⟨by omega, by rw [h.2]; rfl⟩
theorem head_all (m : Ms) : (headN m).take 6 = headN m := rfl
theorem quW_bnd {m : Ms} (hf : FineM m) (k : Nat) : ((Wr.nil.nums2 (headN m)).qus (m.qs.take k)).b.length ≤ 140000 ∧ ((Wr.nil.nums2 (headN m)).qus (m.qs.take k)).rests.length ≤ 131000 := by
  have h := qus_bnd (Wr.nil.nums2 (headN m)) (m.qs.take k) (fineQ_take hf.qs k)
  have h0 := head_bnd m 6
  rw [head_all] at h0
  have h1 : (m.qs.take k).length ≤ m.qs.length := List.length_take_le' _ _
  have h2 := hf.tot
  unfold totM at h2
  omega
theorem sec_bnd {m : Ms} (hf : FineM m) (hb : bytesM m ≤ 200000) {j : Nat} (hj : j < 3) (k : Nat) : ((secW m j).rrs ((secL m j).take k)).b.length ≤ 8900000 ∧ ((secW m j).rrs ((secL m j).take k)).rests.length ≤ 600000 := by
  have hq := qus_bnd (Wr.nil.nums2 (headN m)) m.qs hf.qs
  have h0 := head_bnd m 6
  rw [head_all] at h0
  have h2 := hf.tot
  unfold totM at h2
  unfold bytesM at hb
  have ha := rrs_bnd (secW m 0) m.an hf.an
  have hu := rrs_bnd (secW m 1) m.au hf.au
  have e1 : secW m 1 = (secW m 0).rrs m.an := rfl
  have e2 : secW m 2 = (secW m 1).rrs m.au := rfl
  have e0 : secW m 0 = (Wr.nil.nums2 (headN m)).qus m.qs := rfl
  rw [← e0] at hq
  rw [← e1] at ha
  rw [← e2] at hu
  match j, hj with
  | 0, _ =>
    have h := rrs_bnd (secW m 0) (m.an.take k) (fineK_take hf.an k)
    have h3 : (m.an.take k).length ≤ m.an.length := List.length_take_le' _ _
    have h4 := bytesL_take m.an k
    show ((secW m 0).rrs (m.an.take k)).b.length ≤ _ ∧ ((secW m 0).rrs (m.an.take k)).rests.length ≤ _
    omega
  | 1, _ =>
    have h := rrs_bnd (secW m 1) (m.au.take k) (fineK_take hf.au k)
    have h3 : (m.au.take k).length ≤ m.au.length := List.length_take_le' _ _
    have h4 := bytesL_take m.au k
    show ((secW m 1).rrs (m.au.take k)).b.length ≤ _ ∧ ((secW m 1).rrs (m.au.take k)).rests.length ≤ _
    omega
  | 2, _ =>
    have h := rrs_bnd (secW m 2) (m.ex.take k) (fineK_take hf.ex k)
    have h3 : (m.ex.take k).length ≤ m.ex.length := List.length_take_le' _ _
    have h4 := bytesL_take m.ex k
    show ((secW m 2).rrs (m.ex.take k)).b.length ≤ _ ∧ ((secW m 2).rrs (m.ex.take k)).rests.length ≤ _
    omega
theorem sec_bnd3 {m : Ms} (hf : FineM m) (hb : bytesM m ≤ 200000) : (secW m 3).b.length ≤ 8900000 := by
  have h := (sec_bnd hf hb (j := 2) (by decide) m.ex.length).1
  have e : (secL m 2).take m.ex.length = m.ex := List.take_length
  rw [e] at h
  exact h
theorem rrs_take (x : Wr) {l : List RR} {k : Nat} {r : RR} (h : l[k]? = some r) : x.rrs (l.take (k + 1)) = (x.rrs (l.take k)).rr r := foldl_take _ _ h
theorem qus_take (x : Wr) {l : List Qu} {k : Nat} {r : Qu} (h : l[k]? = some r) : x.qus (l.take (k + 1)) = (x.qus (l.take k)).qu r := foldl_take _ _ h
theorem nums2_take (x : Wr) {l : List Int} {k : Nat} {r : Int} (h : l[k]? = some r) : x.nums2 (l.take (k + 1)) = (x.nums2 (l.take k)).num2 r := foldl_take _ _ h
end Go.Proofs.Ytimkdpkhdbiniaa

/- msg: the flags as a number. -/
namespace Go.Proofs.Ytimkdpkhdbiniaa
open Go.RowKit
set_option maxRecDepth 100000

theorem or_sum (i : Nat) (x y : Int) (hi : i ≤ 62) (h0 : 0 ≤ x) (hm : x % 2 ^ i = 0) (hx : x < 4611686018427387904) (hy0 : 0 ≤ y) (hy : y < 2 ^ i) : bits .or .i64 x y = x + y := by
  have h1 : (2 : Int) ^ i ≤ 4611686018427387904 := by
    have h2 : 2 ^ i ≤ 2 ^ 62 := Nat.pow_le_pow_right (by decide) hi
    have h3 : ((2 ^ i : Nat) : Int) ≤ ((2 ^ 62 : Nat) : Int) := Int.ofNat_le.2 h2
    simpa using h3
  rw [bits_join .i64 63 (by decide) (fun n h0 h1 => by rw [IntKind.wrap_i64]; omega) i x y h0 hm (by omega) hy0 hy (by omega)]
set_option maxHeartbeats 1000000 in
theorem bit15_any (b : Bool) (w : World) : Calls Try.prog 195 #[.bool b, .int .i64 15] w (Ret (.int .i64 (bitN b 32768)) w) := by
  cases b with
  | false =>
    go_enter Try.func195, Try.ntmps195
    go_wp2
    go_ret
    exact ⟨rfl, rfl⟩
  | true =>
    go_enter Try.func195, Try.ntmps195
    go_wp2
    go_ret
    exact ⟨by show Ending.returned (.int .i64 _) = Ending.returned (.int .i64 _); congr 2, rfl⟩
set_option maxHeartbeats 1000000 in
theorem bit10_any (b : Bool) (w : World) : Calls Try.prog 195 #[.bool b, .int .i64 10] w (Ret (.int .i64 (bitN b 1024)) w) := by
  cases b with
  | false =>
    go_enter Try.func195, Try.ntmps195
    go_wp2
    go_ret
    exact ⟨rfl, rfl⟩
  | true =>
    go_enter Try.func195, Try.ntmps195
    go_wp2
    go_ret
    exact ⟨by show Ending.returned (.int .i64 _) = Ending.returned (.int .i64 _); congr 2, rfl⟩
set_option maxHeartbeats 1000000 in
theorem bit9_any (b : Bool) (w : World) : Calls Try.prog 195 #[.bool b, .int .i64 9] w (Ret (.int .i64 (bitN b 512)) w) := by
  cases b with
  | false =>
    go_enter Try.func195, Try.ntmps195
    go_wp2
    go_ret
    exact ⟨rfl, rfl⟩
  | true =>
    go_enter Try.func195, Try.ntmps195
    go_wp2
    go_ret
    exact ⟨by show Ending.returned (.int .i64 _) = Ending.returned (.int .i64 _); congr 2, rfl⟩
set_option maxHeartbeats 1000000 in
theorem bit8_any (b : Bool) (w : World) : Calls Try.prog 195 #[.bool b, .int .i64 8] w (Ret (.int .i64 (bitN b 256)) w) := by
  cases b with
  | false =>
    go_enter Try.func195, Try.ntmps195
    go_wp2
    go_ret
    exact ⟨rfl, rfl⟩
  | true =>
    go_enter Try.func195, Try.ntmps195
    go_wp2
    go_ret
    exact ⟨by show Ending.returned (.int .i64 _) = Ending.returned (.int .i64 _); congr 2, rfl⟩
set_option maxHeartbeats 1000000 in
theorem bit7_any (b : Bool) (w : World) : Calls Try.prog 195 #[.bool b, .int .i64 7] w (Ret (.int .i64 (bitN b 128)) w) := by
  cases b with
  | false =>
    go_enter Try.func195, Try.ntmps195
    go_wp2
    go_ret
    exact ⟨rfl, rfl⟩
  | true =>
    go_enter Try.func195, Try.ntmps195
    go_wp2
    go_ret
    exact ⟨by show Ending.returned (.int .i64 _) = Ending.returned (.int .i64 _); congr 2, rfl⟩
theorem flags_or {m : Ms} (h0 : 0 ≤ m.op) (h1 : m.op < 16) (h2 : 0 ≤ m.rcode) (h3 : m.rcode < 16) :
    bits .or .i64 (bits .or .i64 (bits .or .i64 (bits .or .i64 (bits .or .i64 (bits .or .i64 (bitN m.resp 32768) (m.op * 2048)) (bitN m.aa 1024)) (bitN m.tc 512)) (bitN m.rd 256)) (bitN m.ra 128)) m.rcode = flagsN m := by
  have k : ∀ (b : Bool) (n : Int), bitN b n = 0 ∨ bitN b n = n := fun b n => by cases b <;> simp [bitN]
  have e15 := k m.resp 32768
  have e10 := k m.aa 1024
  have e9 := k m.tc 512
  have e8 := k m.rd 256
  have e7 := k m.ra 128
  unfold flagsN
  generalize bitN m.resp 32768 = a at *
  generalize bitN m.aa 1024 = b at *
  generalize bitN m.tc 512 = c at *
  generalize bitN m.rd 256 = d at *
  generalize bitN m.ra 128 = e at *
  rw [or_sum 15 a (m.op * 2048) (by decide) (by omega) (by rw [show (2 : Int) ^ 15 = 32768 by decide]; omega) (by omega) (by omega) (by rw [show (2 : Int) ^ 15 = 32768 by decide]; omega)]
  rw [or_sum 11 _ b (by decide) (by omega) (by rw [show (2 : Int) ^ 11 = 2048 by decide]; omega) (by omega) (by omega) (by rw [show (2 : Int) ^ 11 = 2048 by decide]; omega)]
  rw [or_sum 10 _ c (by decide) (by omega) (by rw [show (2 : Int) ^ 10 = 1024 by decide]; omega) (by omega) (by omega) (by rw [show (2 : Int) ^ 10 = 1024 by decide]; omega)]
  rw [or_sum 9 _ d (by decide) (by omega) (by rw [show (2 : Int) ^ 9 = 512 by decide]; omega) (by omega) (by omega) (by rw [show (2 : Int) ^ 9 = 512 by decide]; omega)]
  rw [or_sum 8 _ e (by decide) (by omega) (by rw [show (2 : Int) ^ 8 = 256 by decide]; omega) (by omega) (by omega) (by rw [show (2 : Int) ^ 8 = 256 by decide]; omega)]
  rw [or_sum 7 _ m.rcode (by decide) (by omega) (by rw [show (2 : Int) ^ 7 = 128 by decide]; omega) (by omega) (by omega) (by rw [show (2 : Int) ^ 7 = 128 by decide]; omega)]
set_option maxHeartbeats 4000000 in
theorem mflags_any (q : Nat) (s : MS) (m : Ms) (w : World) (h : MRow w q s m) (h0 : 0 ≤ m.op) (h1 : m.op < 16) (h2 : 0 ≤ m.rcode) (h3 : m.rcode < 16) : Calls Try.prog 180 #[.pointer (some ⟨q, 0, none⟩)] w (RetN (.int .i64 (flagsN m)) w) := by
  have HE := Lib.hid (flags_or h0 h1 h2 h3)
  have HW : IntKind.i64.wrap (m.op * 2048) = m.op * 2048 := by rw [IntKind.wrap_i64]; omega
  have zz : ∀ w', Below w.heap.size w w' → w'.cell? ⟨q, 1, none⟩ = some (.bool m.resp) ∧ w'.cell? ⟨q, 2, none⟩ = some (.int .i64 m.op) ∧ w'.cell? ⟨q, 3, none⟩ = some (.bool m.aa) ∧ w'.cell? ⟨q, 4, none⟩ = some (.bool m.tc) ∧ w'.cell? ⟨q, 5, none⟩ = some (.bool m.rd) ∧ w'.cell? ⟨q, 6, none⟩ = some (.bool m.ra) ∧ w'.cell? ⟨q, 7, none⟩ = some (.int .i64 m.rcode) := fun w' hb => by
    obtain ⟨z0, z1, z2, z3, z4, z5, z6, z7, _, _, _, _, _, _⟩ := (h.below hb).cells
    exact ⟨z1, z2, z3, z4, z5, z6, z7⟩
  have y0 := zz w bl
  have y1 := zz w.drew bl.drew
  clear zz h h0 h1 h2 h3
  go_enter Try.func180, Try.ntmps180
  go_upto_region 1 with (fail)
  go_region_held3 (fun w' => w'.cell? ⟨q, 1, none⟩ = some (.bool m.resp) ∧ w'.cell? ⟨q, 2, none⟩ = some (.int .i64 m.op) ∧ w'.cell? ⟨q, 3, none⟩ = some (.bool m.aa) ∧ w'.cell? ⟨q, 4, none⟩ = some (.bool m.tc) ∧ w'.cell? ⟨q, 5, none⟩ = some (.bool m.rd) ∧ w'.cell? ⟨q, 6, none⟩ = some (.bool m.ra) ∧ w'.cell? ⟨q, 7, none⟩ = some (.int .i64 m.rcode))
    (first | with_reducible exact y0 | with_reducible exact y1 | fail)
    (first
      | (go_at_call 195; (with_reducible refine (bit7_any m.ra _).mono ?_); rintro e w7 ⟨rfl, rfl⟩)
      | (go_at_call 195; (with_reducible refine (bit8_any m.rd _).mono ?_); rintro e w8 ⟨rfl, rfl⟩)
      | (go_at_call 195; (with_reducible refine (bit9_any m.tc _).mono ?_); rintro e w9 ⟨rfl, rfl⟩)
      | (go_at_call 195; (with_reducible refine (bit10_any m.aa _).mono ?_); rintro e w10 ⟨rfl, rfl⟩)
      | (go_at_call 195; (with_reducible refine (bit15_any m.resp _).mono ?_); rintro e w15 ⟨rfl, rfl⟩)
      | fail)
  go_wp2
  go_ret
  exact ⟨congrArg (fun z => Ending.returned (Value.int .i64 z)) HE.out, 1, rfl⟩
end Go.Proofs.Ytimkdpkhdbiniaa

/- wname: Name walked. -/
namespace Go.Proofs.Ytimkdpkhdbiniaa
open Go.RowKit Go.Maps

theorem strs_noS {So Si : Nat → Prop} {w : World} {A : Option Addr} {n : Nat} {ns : List (List UInt8)} (h : Els encS So Si w A n ns) : Els encS So noS w A n ns :=
  ⟨h.1, fun hn => by
    obtain ⟨b, off, e, hb, hx⟩ := h.2 hn
    exact ⟨b, off, e, hb, fun i x hi => by obtain ⟨r, hr, hc⟩ := hx i x hi; exact ⟨r, hr, hc⟩⟩⟩

theorem wpL_look_some {w : World} {mb : Nat} {rs : List (List UInt8 × Nat)} (h : MapIs w mb rs) {k : List UInt8} {p : Nat} (hl : lookR rs k = some p) {ops : Array Oper} {rest : List Oper} {o : Oper} {a : Act} {Q : Exit → Act → World → Prop} (hg : o.guard = none) (m x : Operand) (hop : o.op = Op.lookup 174 m x true)
    (hm : a.eval m = .map (some mb)) (hx : a.eval x = .string (bstr k)) (hk : k.length ≤ maxLen)
    (hK : wpList Try.prog ops Q rest (a.put o.dst (.tuple #[.int .i64 (p : Int), .bool true])) w) : wpList Try.prog ops Q (o :: rest) a w :=
  wpL_look h hg m x hop hm hx hk (fun q hq => by rw [hl] at hq; injection hq with hq; subst hq; exact hK) (fun hn => by rw [hl] at hn; cases hn)
theorem wpL_look_none {w : World} {mb : Nat} {rs : List (List UInt8 × Nat)} (h : MapIs w mb rs) {k : List UInt8} (hl : lookR rs k = none) {ops : Array Oper} {rest : List Oper} {o : Oper} {a : Act} {Q : Exit → Act → World → Prop} (hg : o.guard = none) (m x : Operand) (hop : o.op = Op.lookup 174 m x true)
    (hm : a.eval m = .map (some mb)) (hx : a.eval x = .string (bstr k)) (hk : k.length ≤ maxLen)
    (hK : ∀ c : Int, wpList Try.prog ops Q rest (a.put o.dst (.tuple #[.int .i64 c, .bool false])) w) : wpList Try.prog ops Q (o :: rest) a w :=
  wpL_look h hg m x hop hm hx hk (fun q hq => by rw [hl] at hq; cases hq) (fun _ => hK)

theorem raw_label (x : Wr) (l : List UInt8) : (x.raw [UInt8.ofNat l.length]).raw l = x.label l := by simp [Wr.raw, Wr.label]
theorem Wtr.noted_cells {w w' : World} {B g mb : Nat} {F : Nat → Prop} {bv : Value} (hg : w.heap[g]? = some (.cells #[bv, .map (some mb)] 176 (0, 0))) (hmF : F mb ∧ mb ≠ g) (hF : ∀ k, F k → B ≤ k ∧ k < w.heap.size) (hgF : F g ∧ B ≤ g) (hgr : w.grownBy w' (some mb)) : w'.cell? ⟨g, 0, none⟩ = some bv ∧ w'.cell? ⟨g, 1, none⟩ = some (.map (some mb)) := by
  have h := (hgr.block g (hF g hgF.1).2 (fun e => hmF.2 (by injection e with e; exact e.symm))).trans hg
  exact ⟨(cell_of_row _ _ _ _ _ _ h).trans rfl, (cell_of_row _ _ _ _ _ _ h).trans rfl⟩
theorem Wtr.noted {w w' : World} {B g mb : Nat} {F : Nat → Prop} {x : Wr} {bv : Value} {r : List UInt8} (hn : x.Near) (hg : w.heap[g]? = some (.cells #[bv, .map (some mb)] 176 (0, 0))) (hbv : OwnB w B bv x.b) (hgF : F g ∧ B ≤ g)
    (hbF : ∀ k, bv.ownBlock = some k → F k ∧ k ≠ g ∧ k ≠ mb) (hmF : F mb ∧ mb ≠ g) (hF : ∀ k, F k → B ≤ k ∧ k < w.heap.size) (hl : x.b.length < 16384) (hm : MapIs w' mb ((r, x.b.length) :: x.rests)) (hgr : w.grownBy w' (some mb)) : Wtr w' B F g (x.note r) ∧ Chg F w w' := by
  have hc1 : Chg (fun k => k = mb) w w' := (Chg.refl _ w).grown hgr (fun k hk => .inl (by injection hk with hk; exact hk.symm))
  have e : x.note r = { x with rests := (r, x.b.length) :: x.rests } := by unfold Wr.note; rw [if_pos hl]
  refine ⟨⟨hn.note r, bv, mb, (hc1.block g (hF g hgF.1).2 (fun e => hmF.2 e.symm)).trans hg, ?_, ?_, hgF, hbF, hmF, fun k hk => ⟨(hF k hk).1, Nat.lt_of_lt_of_le (hF k hk).2 hc1.size⟩⟩, hc1.mono (fun k hk => .inl (by subst hk; exact hmF.1))⟩
  · rw [e]; exact hbv.chgv hc1 (fun k hk e => (hbF k hk).2.2 e)
  · rw [e]; exact hm

/-- What a name's writing returns. -/
noncomputable def nameR (ns : List (List UInt8)) : Int := if soundB ns = true then 0 else 5
noncomputable def Wr.nameS (x : Wr) (ns : List (List UInt8)) (short : Bool) : Wr := if soundB ns = true then x.name ns short else x

set_option maxRecDepth 100000 in
set_option maxHeartbeats 4000000 in
theorem name_any (w : World) (B g : Nat) (F : Nat → Prop) (x : Wr) (A : Option Addr) (n c : Nat) (ns : List (List UInt8)) (short : Bool) {So Si : Nat → Prop} (h : Wtr w B F g x) (hns : Els encS So Si w A n ns) (hSo : ∀ b, So b → b < w.heap.size ∧ ¬ F b) (hn : n ≤ 1000000000) (hnc : n ≤ c) (hcm : c ≤ maxLen)
    (hxb : x.b.length ≤ 10000000) (hxr : x.rests.length ≤ 10000000) :
    Calls Try.prog 103 #[.pointer (some ⟨g, 0, none⟩), .slice A n c, .bool short] w (RetX w B F g (x.nameS ns short) (.int .i64 (nameR ns))) := by
  have hl := hns.len
  subst hl
  have H := Lib.hid h
  have hE := strs_noS hns
  clear h hns
  have hcm' : c ≤ 9223372036854775807 := hcm
  clear hcm
  by_cases hs : soundB ns = true
  · have hS := soundB_iff.1 hs
    have hr : nameR ns = 0 := by unfold nameR; rw [if_pos hs]
    have hx : x.nameS ns short = x.name ns short := by unfold Wr.nameS; rw [if_pos hs]
    rw [hr, hx]
    have HSo := Lib.hid hSo
    have hsz := hS.2
    have hsl := sizeN_length ns
    have HS := Lib.hid hS
    clear hr hx hS hSo
    go_enter Try.func103, Try.ntmps103
    go_wp2_with (go_at_call 61; refine (sound_any A ns.length c ns _ hE hn).mono ?_; rw [hs]; rintro e w1 ⟨rfl, rfl⟩)
    clear hs
    go_loopw [21] (fun iv wr => ∃ (k : Nat) (Fk : Nat → Prop) (xk : Wr), iv = .int .i64 k ∧ k ≤ ns.length ∧ Hid (x.name ns short = xk.name (ns.drop k) short) ∧ Hid (Wtr wr B Fk g xk) ∧ Chg F w wr ∧ Hid (∀ z, Fk z → F z ∨ w.heap.size ≤ z) ∧ xk.b.length + sizeN (ns.drop k) ≤ x.b.length + sizeN ns ∧ xk.rests.length ≤ x.rests.length + k) (fun iv _ => ns.length - (intOf iv).toNat)
    case atStart => exact ⟨0, F, x, rfl, Nat.zero_le _, rfl, H, Chg.refl _ _, fun z hz => .inl hz, by simp, Nat.le_refl _⟩
    case round =>
      obtain ⟨k, Fk, xk, rfl, hk, HN, HW, hch, HF, hlb, hlr⟩ := hrel
      by_cases hlt : k < ns.length
      · obtain ⟨l, hx⟩ : ∃ l, ns[k]? = some l := ⟨_, List.getElem?_eq_getElem hlt⟩
        have hdr : ns.drop k = l :: ns.drop (k + 1) := by
          rw [List.drop_eq_getElem_cons hlt]
          rw [List.getElem?_eq_getElem hlt] at hx
          injection hx with hx
          rw [hx]
        obtain ⟨bN, offN, rfl, hsN, hcN, hll⟩ := strs_at hE hx
        have hEr : Els encS So noS wr (some ⟨bN, offN, none⟩) ns.length ns := hE.keep (fun b hb => hch.block b (HSo.out b hb).1 (HSo.out b hb).2) (fun b hb => hb.elim)
        have hcr := hch.cell hcN (HSo.out bN hsN).2
        have hcut := hEr.cut k c (Nat.le_of_lt hlt) hnc
        have hck : ¬ c = k := by omega
        rw [if_neg hck, Option.map_some, add_flat, show encS.size = 1 from rfl, Nat.mul_one] at hcut
        have hsd := (HS.out.drop k)
        have hlab := hsd.1
        have hrl := Lib.hid (restB_length (ns.drop k))
        have hsz2 := hsd.2
        have hl13 : 1 ≤ l.length ∧ l.length ≤ 63 := hlab l (by rw [hdr]; exact List.mem_cons_self ..)
        have HDR := Lib.hid hdr
        have hbs := bstr_size l
        have hl1 := hl13.1
        have hl2 := hl13.2
        have HL := Lib.hid hlab
        clear hx hdr hsd hlab hl13
        have hcb := fun W : World => Lib.run_convert_string_bytes (P := Try.prog) W 9 22 5 (bstr l) Try.underlying9 Try.underlying22 Try.underlying5
        have hkl : (restB (ns.drop k)).length ≤ maxLen := by have := hrl.out; unfold maxLen; omega
        have hsn : sizeN (ns.drop k) = l.length + 1 + sizeN (ns.drop (k + 1)) := by rw [HDR.out]; rfl
        have HSN := Lib.hid hsn
        have hle2 : xk.b.length + (l.length + 1 + sizeN (ns.drop (k + 1))) ≤ x.b.length + sizeN ns := by omega
        clear hsn
        rcases hlk : lookR xk.rests (restB (ns.drop k)) with _ | p
        · have HLK := Lib.hid hlk
          clear hlk
          by_cases h16 : xk.b.length < 16384
          · have HNX : Hid (xk.name (ns.drop k) short = (((xk.note (restB (ns.drop k))).label l).name (ns.drop (k + 1)) short)) := by
              show _ = _
              have := HLK.out
              rw [HDR.out] at this ⊢
              rw [Wr.name, this]
            go_wp2_with (first
              | (go_at_call 151; (with_reducible refine (rest_any _ _ _ (ns.drop k) _ hcut (by omega) (fun y hy => by have := (HL.out y hy).2; omega)).mono ?_); rintro e w2 ⟨_, rfl, rfl, hb2⟩; have HW2 := Lib.hid (HW.out.below hb2); have hch2 := hch.nx hb2; obtain ⟨hn2, bv, mb, hgg, hbv, hm, hgF2, hbF, hmF, hFl⟩ := HW.out.below hb2; obtain ⟨Ab, cb, rfl, _⟩ := hbv.form; have HG := Lib.hid hgg; have e0 : w2.cell? ⟨g, 0, none⟩ = some (.slice Ab xk.b.length cb) := (cell_of_row _ _ _ _ _ _ hgg).trans rfl; have e1 : w2.cell? ⟨g, 1, none⟩ = some (.map (some mb)) := (cell_of_row _ _ _ _ _ _ hgg).trans rfl; clear hgg)
              | ((with_reducible show wpList _ _ _ (⟨some 36, _, _, _, _, _⟩ :: _) _ _); refine wpL_look_none hm HLK.out rfl (.tmp 34) (.tmp 35) rfl rfl rfl hkl ?_; intro cc; have HM := Lib.hid hm; clear hm))
            obtain ⟨w3, hrun, hm3, hg3⟩ := (HM.out.keep (w' := w2.drew) rfl).put (k := restB (ns.drop k)) hkl (p := xk.b.length) (by omega) (by unfold maxLen; omega)
            have hnt := Wtr.noted (w := w2.drew) hn2 HG.out hbv.drew hgF2 hbF hmF hFl h16 hm3 hg3
            have HNT := Lib.hid hnt.1
            have hcn := (hch2.nx bl.drew).trans hnt.2 HF.out
            have HP := Lib.hid (Wtr.noted_cells (w := w2.drew) HG.out hmF hFl hgF2 hg3)
            have hnb := xk.note_b (restB (ns.drop k))
            have hnr := xk.note_rests (restB (ns.drop k))
            have HNB := Lib.hid hnb
            clear hnt hm3 hnb
            go_region_held3 (fun w' => w'.cell? ⟨g, 0, none⟩ = some (.slice (Ab) xk.b.length cb) ∧ w'.cell? ⟨g, 1, none⟩ = some (.map (some mb)))
              (first
                | with_reducible exact ⟨e0, e1⟩
                | with_reducible exact ⟨below_cell bl.drew e0, below_cell bl.drew e1⟩
                | with_reducible exact HP.out)
              (fail)
            go_wp2_with (first
              | (go_at_call 101; refine (wnum_any w3 B g Fk (xk.note (restB (ns.drop k))) l.length 1 HNT.out (by rw [HNB.out]; omega)).mono ?_; rintro e w4 ⟨rfl, F4, h4, hc4, hF4⟩; rw [put_len l hl2] at h4; have H4 := Lib.hid h4; have hr4 := (conv_rd w4 l).1; have hb4 := (conv_rd w4 l).2; clear h4)
              | (go_at_call 148; refine (wraw_any _ B g F4 _ _ _ _ l (H4.out.below hb4) hr4 (by simp only [Wr.raw, List.length_append, List.length_singleton]; rw [HNB.out]; omega)).mono ?_; rintro e w5 ⟨rfl, F5, h5, hc5, hF5⟩))
            go_roundw
            case rel =>
              have hq4 : ∀ z, F4 z → F z ∨ w.heap.size ≤ z := fun z hz => (hF4 z hz).elim (HF.out z) (fun h => .inr (Nat.le_trans hcn.size h))
              have hq5 := (hcn.trans hc4 HF.out).nx hb4
              exact ⟨k + 1, F5, ((xk.note (restB (ns.drop k))).raw [UInt8.ofNat l.length]).raw l, by go_num, by omega, HN.out.trans (HNX.out.trans (by rw [raw_label])), h5, hq5.trans hc5 hq4, fun z hz => (hF5 z hz).elim (hq4 z) (fun h => .inr (Nat.le_trans hq5.size h)), by simp only [Wr.raw, List.length_append, List.length_singleton]; rw [HNB.out]; omega, by show (xk.note (restB (ns.drop k))).rests.length ≤ _; omega⟩
            case measure => simp [intOf]; omega
          · have HNX : Hid (xk.name (ns.drop k) short = (xk.label l).name (ns.drop (k + 1)) short) := by
              show _ = _
              have := HLK.out
              rw [HDR.out] at this ⊢
              rw [Wr.name, this]
              unfold Wr.note
              rw [if_neg h16]
            go_wp2_with (first
              | (go_at_call 151; (with_reducible refine (rest_any _ _ _ (ns.drop k) _ hcut (by omega) (fun y hy => by have := (HL.out y hy).2; omega)).mono ?_); rintro e w2 ⟨_, rfl, rfl, hb2⟩; have HW2 := Lib.hid (HW.out.below hb2); have hch2 := hch.nx hb2; obtain ⟨hn2, bv, mb, hgg, hbv, hm, hgF2, hbF, hmF, hFl⟩ := HW.out.below hb2; obtain ⟨Ab, cb, rfl, _⟩ := hbv.form; have HG := Lib.hid hgg; have e0 : w2.cell? ⟨g, 0, none⟩ = some (.slice Ab xk.b.length cb) := (cell_of_row _ _ _ _ _ _ hgg).trans rfl; have e1 : w2.cell? ⟨g, 1, none⟩ = some (.map (some mb)) := (cell_of_row _ _ _ _ _ _ hgg).trans rfl; clear hgg)
              | ((with_reducible show wpList _ _ _ (⟨some 36, _, _, _, _, _⟩ :: _) _ _); refine wpL_look_none hm HLK.out rfl (.tmp 34) (.tmp 35) rfl rfl rfl hkl ?_; intro cc)
              | (go_at_call 101; refine (wnum_any w2 B g Fk xk l.length 1 HW2.out (by omega)).mono ?_; rintro e w4 ⟨rfl, F4, h4, hc4, hF4⟩; rw [put_len l hl2] at h4; have H4 := Lib.hid h4; have hr4 := (conv_rd w4 l).1; have hb4 := (conv_rd w4 l).2; clear h4)
              | (go_at_call 148; refine (wraw_any _ B g F4 _ _ _ _ l (H4.out.below hb4) hr4 (by simp only [Wr.raw, List.length_append, List.length_singleton]; omega)).mono ?_; rintro e w5 ⟨rfl, F5, h5, hc5, hF5⟩))
            go_roundw
            case rel =>
              have hq4 : ∀ z, F4 z → F z ∨ w.heap.size ≤ z := fun z hz => (hF4 z hz).elim (HF.out z) (fun h => .inr (Nat.le_trans hch2.size h))
              have hq5 := (hch2.trans hc4 HF.out).nx hb4
              exact ⟨k + 1, F5, (xk.raw [UInt8.ofNat l.length]).raw l, by go_num, by omega, HN.out.trans (HNX.out.trans (by rw [raw_label])), h5, hq5.trans hc5 hq4, fun z hz => (hF5 z hz).elim (hq4 z) (fun h => .inr (Nat.le_trans hq5.size h)), by simp only [Wr.raw, List.length_append, List.length_singleton]; omega, by show xk.rests.length ≤ _; omega⟩
            case measure => simp [intOf]; omega
        · have HLK := Lib.hid hlk
          have hp : p < 16384 := HW.out.near _ _ hlk
          have hor := or_ptr p hp
          clear hlk
          rcases short with _ | _
          · have HNX : Hid (xk.name (ns.drop k) false = (xk.label l).name (ns.drop (k + 1)) false) := by
              show _ = _
              have := HLK.out
              rw [HDR.out] at this ⊢
              rw [Wr.name, this]
              rfl
            go_wp2_with (first
              | (go_at_call 151; (with_reducible refine (rest_any _ _ _ (ns.drop k) _ hcut (by omega) (fun y hy => by have := (HL.out y hy).2; omega)).mono ?_); rintro e w2 ⟨_, rfl, rfl, hb2⟩; have HW2 := Lib.hid (HW.out.below hb2); have hch2 := hch.nx hb2; obtain ⟨hn2, bv, mb, hgg, hbv, hm, hgF2, hbF, hmF, hFl⟩ := HW.out.below hb2; obtain ⟨Ab, cb, rfl, _⟩ := hbv.form; have HG := Lib.hid hgg; have e0 : w2.cell? ⟨g, 0, none⟩ = some (.slice Ab xk.b.length cb) := (cell_of_row _ _ _ _ _ _ hgg).trans rfl; have e1 : w2.cell? ⟨g, 1, none⟩ = some (.map (some mb)) := (cell_of_row _ _ _ _ _ _ hgg).trans rfl; clear hgg)
              | ((with_reducible show wpList _ _ _ (⟨some 36, _, _, _, _, _⟩ :: _) _ _); refine wpL_look_some hm HLK.out rfl (.tmp 34) (.tmp 35) rfl rfl rfl hkl ?_)
              | (go_at_call 101; refine (wnum_any w2 B g Fk xk l.length 1 HW2.out (by omega)).mono ?_; rintro e w4 ⟨rfl, F4, h4, hc4, hF4⟩; rw [put_len l hl2] at h4; have H4 := Lib.hid h4; have hr4 := (conv_rd w4 l).1; have hb4 := (conv_rd w4 l).2; clear h4)
              | (go_at_call 148; refine (wraw_any _ B g F4 _ _ _ _ l (H4.out.below hb4) hr4 (by simp only [Wr.raw, List.length_append, List.length_singleton]; omega)).mono ?_; rintro e w5 ⟨rfl, F5, h5, hc5, hF5⟩))
            go_roundw
            case rel =>
              have hq4 : ∀ z, F4 z → F z ∨ w.heap.size ≤ z := fun z hz => (hF4 z hz).elim (HF.out z) (fun h => .inr (Nat.le_trans hch2.size h))
              have hq5 := (hch2.trans hc4 HF.out).nx hb4
              exact ⟨k + 1, F5, (xk.raw [UInt8.ofNat l.length]).raw l, by go_num, by omega, HN.out.trans (HNX.out.trans (by rw [raw_label])), h5, hq5.trans hc5 hq4, fun z hz => (hF5 z hz).elim (hq4 z) (fun h => .inr (Nat.le_trans hq5.size h)), by simp only [Wr.raw, List.length_append, List.length_singleton]; omega, by show xk.rests.length ≤ _; omega⟩
            case measure => simp [intOf]; omega
          · have HNX : Hid (xk.name (ns.drop k) true = xk.raw (ptrB p)) := by
              show _ = _
              have := HLK.out
              rw [HDR.out] at this ⊢
              rw [Wr.name, this]
              rfl
            go_wp2_with (first
              | (go_at_call 151; (with_reducible refine (rest_any _ _ _ (ns.drop k) _ hcut (by omega) (fun y hy => by have := (HL.out y hy).2; omega)).mono ?_); rintro e w2 ⟨_, rfl, rfl, hb2⟩; have HW2 := Lib.hid (HW.out.below hb2); have hch2 := hch.nx hb2; obtain ⟨hn2, bv, mb, hgg, hbv, hm, hgF2, hbF, hmF, hFl⟩ := HW.out.below hb2; obtain ⟨Ab, cb, rfl, _⟩ := hbv.form; have HG := Lib.hid hgg; have e0 : w2.cell? ⟨g, 0, none⟩ = some (.slice Ab xk.b.length cb) := (cell_of_row _ _ _ _ _ _ hgg).trans rfl; have e1 : w2.cell? ⟨g, 1, none⟩ = some (.map (some mb)) := (cell_of_row _ _ _ _ _ _ hgg).trans rfl; clear hgg)
              | ((with_reducible show wpList _ _ _ (⟨some 36, _, _, _, _, _⟩ :: _) _ _); refine wpL_look_some hm HLK.out rfl (.tmp 34) (.tmp 35) rfl rfl rfl hkl ?_)
              | (go_at_call 101; refine (wnum_any w2 B g Fk xk (49152 + (p : Int)) 2 HW2.out (by omega)).mono ?_; rintro e w4 ⟨rfl, F4, h4, hc4, hF4⟩; rw [put_ptr p hp] at h4; have H4 := Lib.hid h4; clear h4))
            go_ret
            refine ⟨rfl, F4, ?_, hch2.trans hc4 HF.out, fun z hz => (hF4 z hz).elim (HF.out z) (fun h => .inr (Nat.le_trans hch2.size h))⟩
            rw [HN.out, HNX.out]
            exact H4.out
      · obtain rfl : k = ns.length := by omega
        have hdn : ns.drop ns.length = [] := List.drop_length
        have HDN := Lib.hid hdn
        have hbl : xk.b.length ≤ 100000000 := by have := sizeN_length (ns.drop ns.length); omega
        clear hdn
        go_wp2_with (go_at_call 101; refine (wnum_any _ B g Fk xk 0 1 HW.out hbl).mono ?_; rintro e w3 ⟨rfl, F3, h3, hc3, hF3⟩)
        go_ret
        refine ⟨rfl, F3, ?_, hch.trans hc3 HF.out, fun z hz => (hF3 z hz).elim (HF.out z) (fun h => .inr (Nat.le_trans hch.size h))⟩
        rw [HN.out, HDN.out]
        rw [put_zero] at h3
        exact h3
  · have hs' : soundB ns = false := by simpa using hs
    have hr : nameR ns = 5 := by unfold nameR; rw [if_neg hs]
    have hx : x.nameS ns short = x := by unfold Wr.nameS; rw [if_neg hs]
    rw [hr, hx]
    clear hr hx hs
    go_enter Try.func103, Try.ntmps103
    go_wp2_with (go_at_call 61; refine (sound_any A ns.length c ns _ hE hn).mono ?_; rw [hs']; rintro e w1 ⟨rfl, rfl⟩)
    go_ret
    exact ⟨rfl, F, H.out, Chg.refl _ _, fun z hz => .inl hz⟩
end Go.Proofs.Ytimkdpkhdbiniaa

/- rdata.Put: the numbers. -/
namespace Go.Proofs.Ytimkdpkhdbiniaa
open Go.RowKit
set_option maxRecDepth 100000

theorem RetX.trans {w w1 w2 : World} {F F1 : Nat → Prop} (hc : Chg F w w1) (hF : ∀ z, F1 z → F z ∨ w.heap.size ≤ z) (hc2 : Chg F1 w1 w2) : Chg F w w2 := hc.trans hc2 hF
theorem new_trans {w w1 : World} {F F1 F2 : Nat → Prop} (hc : Chg F w w1) (hF : ∀ z, F1 z → F z ∨ w.heap.size ≤ z) (hF2 : ∀ z, F2 z → F1 z ∨ w1.heap.size ≤ z) : ∀ z, F2 z → F z ∨ w.heap.size ≤ z :=
  fun z hz => (hF2 z hz).elim (hF z) (fun h => .inr (Nat.le_trans hc.size h))

set_option maxHeartbeats 1000000 in
theorem wnums_any (w : World) (B g : Nat) (F : Nat → Prop) (x : Wr) (A : Option Addr) (n c : Nat) (ns : List Int) (z : Int) {S : Nat → Prop} (h : Wtr w B F g x) (hns : Els encI S S w A n ns) (hS : ∀ b, S b → b < w.heap.size ∧ ¬ F b) (hn : n ≤ 1000) (hx : x.b.length ≤ 10000000) :
    Calls Try.prog 197 #[.pointer (some ⟨g, 0, none⟩), .slice A n c, .int .i64 z] w (RetX w B F g (x.nums ns z) (.tuple #[])) := by
  have hl := hns.len
  subst hl
  have H := Lib.hid h
  have HN := Lib.hid hns
  have HS := Lib.hid hS
  have HX : Hid (∀ k, k ≤ ns.length → (x.nums (ns.take k) z).b.length ≤ 100000000) := fun k hk => by
    have := (x.nums_len (ns.take k) z).1
    rw [List.length_take] at this
    omega
  clear h hns hS hx
  go_enter Try.func197, Try.ntmps197
  go_wp2
  go_loopw [10] (fun iv wr => ∃ (j : Nat) (F1 : Nat → Prop), iv = .int .i64 j ∧ j ≤ ns.length ∧ Hid (Wtr wr B F1 g (x.nums (ns.take j) z)) ∧ Hid (Chg F w wr) ∧ Hid (∀ k, F1 k → F k ∨ w.heap.size ≤ k)) (fun iv _ => ns.length - (intOf iv).toNat)
  case atStart => exact ⟨0, F, rfl, Nat.zero_le _, H, Chg.refl _ _, fun k hk => .inl hk⟩
  case round =>
    obtain ⟨j, F1, rfl, hj, HW, HC, HF⟩ := hrel
    by_cases hlt : j < ns.length
    · obtain ⟨l, hl⟩ : ∃ l, ns[j]? = some l := ⟨_, List.getElem?_eq_getElem hlt⟩
      have hk := Els.keep (fun b hb => HC.out.block b (HS.out b hb).1 (HS.out b hb).2) (fun b hb => HC.out.block b (HS.out b hb).1 (HS.out b hb).2) HN.out
      obtain ⟨b, off, rfl, _, hcell, _⟩ := ints_at hk hl
      have HL := Lib.hid hl
      clear hk hl
      have HTK : Hid (x.nums (ns.take (j + 1)) z = (x.nums (ns.take j) z).raw (putB [] l z)) := by show _ = _; rw [List.take_add_one, HL.out]; exact Wr.nums_snoc _ _ _ _
      go_wp2_with (first
        | (go_at_call 101; refine (wnum_any wr B g F1 (x.nums (ns.take j) z) l z HW.out (HX.out j hj)).mono ?_; rintro e w2 ⟨rfl, F2, h2, hc2, hF2⟩)
        | fail)
      have HW2 : Hid (Wtr w2 B F2 g (x.nums (ns.take (j + 1)) z)) := by show Wtr _ _ _ _ _; rw [HTK.out]; exact h2
      have HC2 := Lib.hid (HC.out.trans hc2 HF.out)
      have HF3 := Lib.hid (new_trans HC.out HF.out hF2)
      go_roundw
      case rel => exact ⟨j + 1, F2, by go_num, by omega, HW2, HC2, HF3⟩
      case measure => simp [intOf]; omega
    · obtain rfl : j = ns.length := by omega
      have HW2 := HW.out
      rw [List.take_length] at HW2
      have HW3 := Lib.hid HW2
      clear HW2
      go_wp2
      refine bodyPost_ret (v := .tuple #[]) ?_ rfl ?_
      · simp [results, Try.results197]
      exact ⟨rfl, F1, HW3.out, HC.out, HF.out⟩
end Go.Proofs.Ytimkdpkhdbiniaa

/- rdata.Put: where its walk stands. -/
namespace Go.Proofs.Ytimkdpkhdbiniaa
open Go.RowKit
set_option maxRecDepth 100000

theorem nameS_sound {x : Wr} {ns : List (List UInt8)} (h : SoundN ns) (short : Bool) : x.nameS ns short = x.name ns short := by unfold Wr.nameS; rw [if_pos (soundB_true h)]
structure PutSt (w wr : World) (B g : Nat) (F Fr : Nat → Prop) (y : Wr) (q p : Nat) (S : Nat → Prop) (s : DS) (d : Da) (sh : Shp) : Prop where
  W : Wtr wr B Fr g y
  C : Chg F w wr
  N : ∀ z, Fr z → F z ∨ w.heap.size ≤ z
  Q : wr.heap[q]? = some (.cells (dCells s d) 46 (0, 0))
  P : wr.heap[p]? = some (.cells (shCells sh) 182 (0, 0))
  D : DIn S wr s d
  qF : ¬ Fr q
  pF : ¬ Fr p
  SF : ∀ b, S b → b < wr.heap.size ∧ ¬ Fr b
section
variable {w wr w' : World} {B g q p : Nat} {F Fr F' S : Nat → Prop} {y y' : Wr} {s : DS} {d : Da} {sh : Shp}
theorem PutSt.step (h : PutSt w wr B g F Fr y q p S s d sh) (hw : Wtr w' B F' g y') (hc : Chg Fr wr w') (hF : ∀ z, F' z → Fr z ∨ wr.heap.size ≤ z) : PutSt w w' B g F F' y' q p S s d sh where
  W := hw
  C := h.C.trans hc h.N
  N := new_trans h.C h.N hF
  Q := hc.heap h.Q h.qF
  P := hc.heap h.P h.pF
  D := h.D.chg hc h.SF
  qF := fun hq => (hF q hq).elim h.qF (fun hl => by have := (Array.getElem?_eq_some_iff.1 h.Q).1; omega)
  pF := fun hq => (hF p hq).elim h.pF (fun hl => by have := (Array.getElem?_eq_some_iff.1 h.P).1; omega)
  SF := fun b hb => ⟨Nat.lt_of_lt_of_le (h.SF b hb).1 hc.size, fun hq => (hF b hq).elim (h.SF b hb).2 (fun hl => by have := (h.SF b hb).1; omega)⟩
theorem PutSt.below (h : PutSt w wr B g F Fr y q p S s d sh) (hb : Below wr.heap.size wr w') : PutSt w w' B g F Fr y q p S s d sh := h.step (h.W.below hb) (Chg.of_below hb) (fun _ hz => .inl hz)
theorem PutSt.dc (h : PutSt w wr B g F Fr y q p S s d sh) (j : Nat) : wr.cell? ⟨q, j, none⟩ = (dCells s d)[j]? := cell_of_row _ _ _ _ _ _ h.Q
theorem PutSt.shc (h : PutSt w wr B g F Fr y q p S s d sh) (j : Nat) : wr.cell? ⟨p, j, none⟩ = (shCells sh)[j]? := cell_of_row _ _ _ _ _ _ h.P
theorem PutSt.done (h : PutSt w wr B g F Fr y q p S s d sh) {v : Value} {z : Wr} (hz : y = z) : RetX w B F g z v (.returned v) wr := by subst hz; exact ⟨rfl, Fr, h.W, h.C, h.N⟩
end
end Go.Proofs.Ytimkdpkhdbiniaa
