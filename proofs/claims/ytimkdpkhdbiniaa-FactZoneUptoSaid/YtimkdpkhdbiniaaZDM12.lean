/- Parts of a proof, joined: RrSnd, MsSnd, OwnMsg, MsSnd2, MsBnd. -/
import Derived.Test.YtimkdpkhdbiniaaZDM06
import Derived.Test.YtimkdpkhdbiniaaZDM05
import Derived.Test.YtimkdpkhdbiniaaZDM10
import Derived.Test.YtimkdpkhdbiniaaZDM11
import Derived.Test.YtimkdpkhdbiniaaZDM02
import Derived.Test.YtimkdpkhdbiniaaZDM07b
import Derived.Test.YtimkdpkhdbiniaaZDM03
/- rr: may a record be? The program's and the reference's. -/
namespace Go.Proofs.Ytimkdpkhdbiniaa
open Go.RowKit
set_option maxRecDepth 100000

theorem fineR_name {r : RR} (h : soundB r.name = false) : fineRB r = false := fineRB_false fun hf => by rw [soundB_true hf.1] at h; cases h
theorem fineR_data {r : RR} (h : fineB r.type r.data = false) : fineRB r = false := fineRB_false fun hf => by rw [fineB_true hf.2.1] at h; cases h
theorem fineR_cls {r : RR} (h : fitsB r.cls 2 = false) : fineRB r = false := fineRB_false fun hf => by rw [hf.2.2.1] at h; cases h
theorem fineR_neg {r : RR} (h : r.ttl < 0) : fineRB r = false := fineRB_false fun hf => by have := hf.2.2.2.1; omega
theorem fineR_last {r : RR} (h1 : soundB r.name = true) (h2 : fineB r.type r.data = true) (h3 : fitsB r.cls 2 = true) (h4 : 0 ≤ r.ttl) : fineRB r = decide (r.ttl < 2147483648) := by
  by_cases h : r.ttl < 2147483648
  · rw [fineRB_true ⟨soundB_iff.1 h1, fineB_iff.1 h2, h3, h4, h⟩, decide_eq_true h]
  · rw [fineRB_false (fun hf => h hf.2.2.2.2), decide_eq_false h]
theorem RRow.made (w : World) (s : RS) (x : RR) : RRow (w.alloc (.cells (rrCells s x) 84)) w.heap.size s x := heap_alloc_new w _


set_option maxHeartbeats 4000000 in
theorem rrSound_any (s : RS) (r : RR) (w : World) {S : Nat → Prop} (h : RIn S w s r) (hS : ∀ b, S b → b < w.heap.size) (hbn : r.name.length ≤ 1000000000) (hbd : r.data.host.length ≤ 1000000000 ∧ r.data.mail.length ≤ 1000000000 ∧ r.data.nums.length ≤ 1000000000 ∧ r.data.texts.length ≤ 1000000000) :
    Calls Try.prog 134 #[rrV s r] w (RetP (fun v _ => v = .bool (fineRB r)) w) := by
  obtain ⟨w1, hw1⟩ : ∃ w1, w1 = w.alloc (.cells (rrCells s r) 84) := ⟨_, rfl⟩
  have hb1 : Below w.heap.size w w1 := by rw [hw1]; exact bl.alloc (Nat.le_refl _) _
  have HR : Hid (RRow w1 w.heap.size s r) := by show RRow _ _ _ _; rw [hw1]; exact RRow.made w s r
  have HI := Lib.hid (h.below hb1 hS)
  have HS1 : Hid (∀ b, S b → b < w1.heap.size) := fun b hb => Nat.lt_of_lt_of_le (hS b hb) hb1.size
  have HBW1 := Lib.hid hb1
  have HBN := Lib.hid hbn
  have HBD := Lib.hid hbd
  obtain ⟨ic1, ic2⟩ := h.ic
  have HIC := Lib.hid ic2
  obtain ⟨x0, x1, x2, x3, x4, x5, x6, x7, x8⟩ := HR.out.cells
  unfold rrV
  unfold rrCells at hw1 ⊢
  clear h hS hb1 hbn hbd ic1 ic2

  cases hn : soundB r.name with
  | false =>
    have HN := Lib.hid hn
    clear hn
    go_enter Try.func134, Try.ntmps134
    go_upto_region 1 with (fail)
    rw [← hw1]
    clear hw1
    go_wp2_with (first
      | (go_at_call 61; refine (sound_any s.A _ s.c r.name w1 HI.out.n HBN.out).mono ?_; rw [HN.out]; rintro e w2 ⟨rfl, rfl⟩)
      | fail)
    go_ret
    exact ⟨_, rfl, by show Value.bool _ = Value.bool _; rw [fineR_name HN.out], HBW1.out⟩
  | true =>
    have HN := Lib.hid hn
    clear hn
    cases hd : fineB r.type r.data with
    | false =>
      have HD := Lib.hid hd
      clear hd
      go_enter Try.func134, Try.ntmps134
      go_upto_region 1 with (fail)
      rw [← hw1]
      clear hw1
      go_wp2_with (first
        | (go_at_call 109; refine (dsound_any r.type s.d r.data w1 (HI.out.d.rd HS1.out) HBD.out.1 HBD.out.2.1 HBD.out.2.2.1 HBD.out.2.2.2).mono ?_; rw [HD.out]; rintro e w3 ⟨v3, rfl, rfl, hb3⟩; obtain ⟨y0, y1, y2, y3, y4, y5, y6, y7, y8⟩ := (HR.out.below hb3).cells)
        | (go_at_call 61; refine (sound_any s.A _ s.c r.name w1 HI.out.n HBN.out).mono ?_; rw [HN.out]; rintro e w2 ⟨rfl, rfl⟩)
        | fail)
      go_ret
      exact ⟨_, rfl, by show Value.bool _ = Value.bool _; rw [fineR_data HD.out], nx HBW1.out hb3⟩
    | true =>
      have HD := Lib.hid hd
      clear hd
      cases hc : fitsB r.cls 2 with
      | false =>
        have HC := Lib.hid hc
        clear hc
        go_enter Try.func134, Try.ntmps134
        go_upto_region 1 with (fail)
        rw [← hw1]
        clear hw1
        go_wp2_with (first
          | (go_at_call 88; refine (fits_any r.cls 2 w3).mono ?_; rw [HC.out]; rintro e w4 ⟨rfl, rfl⟩)
          | (go_at_call 109; refine (dsound_any r.type s.d r.data w1 (HI.out.d.rd HS1.out) HBD.out.1 HBD.out.2.1 HBD.out.2.2.1 HBD.out.2.2.2).mono ?_; rw [HD.out]; rintro e w3 ⟨v3, rfl, rfl, hb3⟩; obtain ⟨y0, y1, y2, y3, y4, y5, y6, y7, y8⟩ := (HR.out.below hb3).cells)
          | (go_at_call 61; refine (sound_any s.A _ s.c r.name w1 HI.out.n HBN.out).mono ?_; rw [HN.out]; rintro e w2 ⟨rfl, rfl⟩)
          | fail)
        go_ret
        exact ⟨_, rfl, by show Value.bool _ = Value.bool _; rw [fineR_cls HC.out], nx HBW1.out hb3⟩
      | true =>
        have HC := Lib.hid hc
        clear hc
        by_cases h0 : 0 ≤ r.ttl
        · have H0 := Lib.hid h0
          go_enter Try.func134, Try.ntmps134
          go_upto_region 1 with (fail)
          rw [← hw1]
          clear hw1
          go_wp2_with (first
            | (go_at_call 88; refine (fits_any r.cls 2 w3).mono ?_; rw [HC.out]; rintro e w4 ⟨rfl, rfl⟩)
            | (go_at_call 109; refine (dsound_any r.type s.d r.data w1 (HI.out.d.rd HS1.out) HBD.out.1 HBD.out.2.1 HBD.out.2.2.1 HBD.out.2.2.2).mono ?_; rw [HD.out]; rintro e w3 ⟨v3, rfl, rfl, hb3⟩; obtain ⟨y0, y1, y2, y3, y4, y5, y6, y7, y8⟩ := (HR.out.below hb3).cells)
            | (go_at_call 61; refine (sound_any s.A _ s.c r.name w1 HI.out.n HBN.out).mono ?_; rw [HN.out]; rintro e w2 ⟨rfl, rfl⟩)
            | fail)
          go_ret
          exact ⟨_, rfl, by show Value.bool _ = Value.bool _; rw [fineR_last HN.out HD.out HC.out H0.out], nx HBW1.out hb3⟩
        · have H0 : Hid (r.ttl < 0) := by show _ < _; omega
          go_enter Try.func134, Try.ntmps134
          go_upto_region 1 with (fail)
          rw [← hw1]
          clear hw1
          go_wp2_with (first
            | (go_at_call 88; refine (fits_any r.cls 2 w3).mono ?_; rw [HC.out]; rintro e w4 ⟨rfl, rfl⟩)
            | (go_at_call 109; refine (dsound_any r.type s.d r.data w1 (HI.out.d.rd HS1.out) HBD.out.1 HBD.out.2.1 HBD.out.2.2.1 HBD.out.2.2.2).mono ?_; rw [HD.out]; rintro e w3 ⟨v3, rfl, rfl, hb3⟩; obtain ⟨y0, y1, y2, y3, y4, y5, y6, y7, y8⟩ := (HR.out.below hb3).cells)
            | (go_at_call 61; refine (sound_any s.A _ s.c r.name w1 HI.out.n HBN.out).mono ?_; rw [HN.out]; rintro e w2 ⟨rfl, rfl⟩)
            | fail)
          go_ret
          exact ⟨_, rfl, by show Value.bool _ = Value.bool _; rw [fineR_neg H0.out], nx HBW1.out hb3⟩

end Go.Proofs.Ytimkdpkhdbiniaa

/- msg: what may be: a question, a record; the closures; the sections. -/
namespace Go.Proofs.Ytimkdpkhdbiniaa
open Go.RowKit
set_option maxRecDepth 100000

theorem fineQ_false {q : Qu} (h : ¬ FineQ q) : fineQ q = false := by rw [← Bool.not_eq_true, fineQ_iff]; exact h
theorem fineQ_val {q : Qu} (h1 : soundB q.name = true) (h2 : 1 ≤ q.type) (h3 : fitsB q.type 2 = true) : fineQ q = fitsB q.cls 2 := by unfold fineQ; rw [h1, decide_eq_true h2, h3]; rfl
set_option maxHeartbeats 2000000 in
theorem mquestion_any (s : QS) (x : Qu) (S : Nat → Prop) (w : World) (h : QIn S w s x) (hS : ∀ b, S b → b < w.heap.size) (hn : x.name.length ≤ 1000000000) :
    Calls Try.prog 169 #[quV s x] w (RetP (fun v _ => v = .bool (fineQ x)) w) := by
  obtain ⟨w1, hw1⟩ : ∃ w1, w1 = w.alloc (.cells (qCells s x) 25) := ⟨_, rfl⟩
  have hb1 : Below w.heap.size w w1 := by rw [hw1]; exact bl.alloc (Nat.le_refl _) _
  have HR : Hid (QRow w1 w.heap.size s x) := by show QRow _ _ _ _; rw [hw1]; exact QRow.made w s x
  have HI := Lib.hid (h.below hb1 hS)
  have HB1 := Lib.hid hb1
  have HN := Lib.hid hn
  obtain ⟨x0, x1, x2⟩ := HR.out.cells
  unfold quV
  unfold qCells at hw1
  clear h hS hb1 hn
  cases h0 : soundB x.name with
  | false =>
    have HT0 := Lib.hid h0
    clear h0
    go_enter Try.func169, Try.ntmps169
    go_upto_region 1 with (fail)
    rw [← hw1]
    clear hw1
    go_wp2_with (first
      | (go_at_call 61; refine (sound_any s.A _ s.c x.name w1 HI.out.n HN.out).mono ?_; rw [HT0.out]; rintro e w2 ⟨rfl, rfl⟩)
      | fail)
    go_ret
    exact ⟨_, rfl, by show Value.bool _ = Value.bool _; rw [fineQ_false (fun hf => by have h1 := soundB_iff.2 hf.1; rw [HT0.out] at h1; cases h1)], HB1.out⟩
  | true =>
    have HT0 := Lib.hid h0
    clear h0
    by_cases h1 : 1 ≤ x.type
    · cases h2 : fitsB x.type 2 with
      | false =>
        have HT2 := Lib.hid h2
        clear h2
        go_enter Try.func169, Try.ntmps169
        go_upto_region 1 with (fail)
        rw [← hw1]
        clear hw1
        go_wp2_with (first
          | (go_at_call 61; refine (sound_any s.A _ s.c x.name w1 HI.out.n HN.out).mono ?_; rw [HT0.out]; rintro e w2 ⟨rfl, rfl⟩)
          | (go_at_call 88; refine (fits_any x.type 2 w1).mono ?_; rw [HT2.out]; rintro e w3 ⟨rfl, rfl⟩)
          | fail)
        go_ret
        exact ⟨_, rfl, by show Value.bool _ = Value.bool _; rw [fineQ_false (fun hf => by have h1 := hf.2.2.1; rw [HT2.out] at h1; cases h1)], HB1.out⟩
      | true =>
        have HT2 := Lib.hid h2
        clear h2
        go_enter Try.func169, Try.ntmps169
        go_upto_region 1 with (fail)
        rw [← hw1]
        clear hw1
        go_wp2_with (first
          | (go_at_call 61; refine (sound_any s.A _ s.c x.name w1 HI.out.n HN.out).mono ?_; rw [HT0.out]; rintro e w2 ⟨rfl, rfl⟩)
          | (go_at_call 88; (with_reducible refine (fits_any x.type 2 w1).mono ?_); rw [HT2.out]; rintro e w3 ⟨rfl, rfl⟩)
          | (go_at_call 88; (with_reducible refine (fits_any x.cls 2 w1).mono ?_); rintro e w4 ⟨rfl, rfl⟩)
          | fail)
        go_ret
        exact ⟨_, rfl, by show Value.bool _ = Value.bool _; rw [fineQ_val HT0.out h1 HT2.out], HB1.out⟩
    · skip
      go_enter Try.func169, Try.ntmps169
      go_upto_region 1 with (fail)
      rw [← hw1]
      clear hw1
      go_wp2_with (first
        | (go_at_call 61; refine (sound_any s.A _ s.c x.name w1 HI.out.n HN.out).mono ?_; rw [HT0.out]; rintro e w2 ⟨rfl, rfl⟩)
        | fail)
      go_ret
      exact ⟨_, rfl, by show Value.bool _ = Value.bool _; rw [fineQ_false (fun hf => by have := hf.2.1; omega)], HB1.out⟩

theorem fineK_false {r : RR} (h : ¬ FineK r) : fineK r = false := by rw [← Bool.not_eq_true, fineK_iff]; exact h
theorem fineK_val {r : RR} (h : ¬ r.type = 41) : fineK r = fineRB r := by unfold fineK; rw [decide_eq_false h]; rfl
/-- A record's lists are not too long to be looked at. -/
def Lt9 (r : RR) : Prop := r.name.length ≤ 1000000000 ∧ r.data.host.length ≤ 1000000000 ∧ r.data.mail.length ≤ 1000000000 ∧ r.data.nums.length ≤ 1000000000 ∧ r.data.texts.length ≤ 1000000000
set_option maxHeartbeats 2000000 in
theorem mrecord_any (s : RS) (r : RR) (w : World) {S : Nat → Prop} (h : RIn S w s r) (hS : ∀ b, S b → b < w.heap.size) (hb : Lt9 r) :
    Calls Try.prog 166 #[rrV s r] w (RetP (fun v _ => v = .bool (fineK r)) w) := by
  obtain ⟨w1, hw1⟩ : ∃ w1, w1 = w.alloc (.cells (rrCells s r) 84) := ⟨_, rfl⟩
  have hb1 : Below w.heap.size w w1 := by rw [hw1]; exact bl.alloc (Nat.le_refl _) _
  have HR : Hid (RRow w1 w.heap.size s r) := by show RRow _ _ _ _; rw [hw1]; exact RRow.made w s r
  have HI := Lib.hid (h.below hb1 hS)
  have HS1 : Hid (∀ b, S b → b < w1.heap.size) := fun b hb => Nat.lt_of_lt_of_le (hS b hb) hb1.size
  have HBW1 := Lib.hid hb1
  have HB := Lib.hid hb
  obtain ⟨x0, x1, x2, x3, x4, x5, x6, x7, x8⟩ := HR.out.cells
  unfold rrV
  unfold rrCells at hw1 ⊢
  clear h hS hb1 hb
  by_cases ht : r.type = 41
  · have HT := Lib.hid ht
    rw [ht] at hw1 x1 ⊢
    clear ht
    go_enter Try.func166, Try.ntmps166
    go_upto_region 1 with (fail)
    rw [← hw1]
    clear hw1
    go_wp2
    go_ret
    exact ⟨_, rfl, by show Value.bool _ = Value.bool _; rw [fineK_false (fun hf => hf.1 HT.out)], HBW1.out⟩
  · have htb : (r.type != 41) = true := by simp [ht]
    go_enter Try.func166, Try.ntmps166
    go_upto_region 1 with (fail)
    rw [← hw1]
    clear hw1
    go_wp2_with (first
      | (go_at_call 134; refine (rrSound_any s r w1 HI.out HS1.out HB.out.1 HB.out.2).mono ?_; rintro e w2 ⟨v2, rfl, rfl, hb2⟩)
      | fail)
    go_ret
    exact ⟨_, rfl, by show Value.bool _ = Value.bool _; rw [fineK_val ht], nx HBW1.out hb2⟩
set_option maxHeartbeats 2000000 in
theorem mS1_any (s : RS) (r : RR) (w : World) {S : Nat → Prop} (h : RIn S w s r) (hS : ∀ b, S b → b < w.heap.size) (hb : Lt9 r) :
    Calls Try.prog 165 #[rrV s r] w (RetP (fun v _ => v = .bool (!fineK r)) w) := by
  obtain ⟨w1, hw1⟩ : ∃ w1, w1 = w.alloc (.cells (rrCells s r) 84) := ⟨_, rfl⟩
  have hb1 : Below w.heap.size w w1 := by rw [hw1]; exact bl.alloc (Nat.le_refl _) _
  have HR : Hid (RRow w1 w.heap.size s r) := by show RRow _ _ _ _; rw [hw1]; exact RRow.made w s r
  have HC := Lib.hid (mrecord_any s r w1 (h.below hb1 hS) (fun b hb => Nat.lt_of_lt_of_le (hS b hb) hb1.size) hb)
  have HBW1 := Lib.hid hb1
  obtain ⟨x0, x1, x2, x3, x4, x5, x6, x7, x8⟩ := HR.out.cells
  unfold rrV rrCells at HC
  unfold rrV
  unfold rrCells at hw1 ⊢
  clear h hS hb1 hb
  go_enter Try.func165, Try.ntmps165
  go_upto_region 1 with (fail)
  rw [← hw1]
  clear hw1
  go_wp2_with (first
    | (go_at_call 166; refine HC.out.mono ?_; rintro e w2 ⟨v2, rfl, rfl, hb2⟩)
    | fail)
  go_ret
  exact ⟨_, rfl, rfl, nx HBW1.out hb2⟩
set_option maxHeartbeats 2000000 in
theorem mS2_any (s : QS) (x : Qu) (S : Nat → Prop) (w : World) (h : QIn S w s x) (hS : ∀ b, S b → b < w.heap.size) (hn : x.name.length ≤ 1000000000) :
    Calls Try.prog 168 #[quV s x] w (RetP (fun v _ => v = .bool (!fineQ x)) w) := by
  obtain ⟨w1, hw1⟩ : ∃ w1, w1 = w.alloc (.cells (qCells s x) 25) := ⟨_, rfl⟩
  have hb1 : Below w.heap.size w w1 := by rw [hw1]; exact bl.alloc (Nat.le_refl _) _
  have HR : Hid (QRow w1 w.heap.size s x) := by show QRow _ _ _ _; rw [hw1]; exact QRow.made w s x
  have HC := Lib.hid (mquestion_any s x S w1 (h.below hb1 hS) (fun b hb => Nat.lt_of_lt_of_le (hS b hb) hb1.size) hn)
  have HB1 := Lib.hid hb1
  obtain ⟨x0, x1, x2⟩ := HR.out.cells
  unfold quV at HC ⊢
  unfold qCells at hw1
  clear h hS hb1 hn
  go_enter Try.func168, Try.ntmps168
  go_upto_region 1 with (fail)
  rw [← hw1]
  clear hw1
  go_wp2_with (first
    | (go_at_call 169; refine HC.out.mono ?_; rintro e w2 ⟨v2, rfl, rfl, hb2⟩)
    | fail)
  go_ret
  exact ⟨_, rfl, rfl, nx HB1.out hb2⟩

set_option maxHeartbeats 1000000 in
theorem indexMr_any (p : RR → Bool) (A : Option Addr) (n c : Nat) (xs : List RR) (w : World) (h : RdE encRR w A n xs) (hn : n ≤ 1000000000)
    (hf : ∀ (s : RS) (x : RR) (W : World), x ∈ xs → Below w.heap.size w W → RIn (ltS w) W s x → Calls Try.prog 165 #[rrV s x] W (RetP (fun v _ => v = .bool (p x)) W)) :
    Calls Try.prog 176 #[.slice A n c, .func (.func 165) #[] #[]] w (RetP (fun v _ => ∃ i : Int, v = .int .i64 i ∧ (0 ≤ i ↔ xs.any p = true)) w) := by
  have hl := h.len
  subst hl
  have H := Lib.hid h
  have HF := Lib.hid hf
  clear h hf
  go_enter Try.func176, Try.ntmps176
  go_wp2
  go_loopw [5, 8] (fun _ iv wr => ∃ k : Nat, iv = .int .i64 k ∧ k ≤ xs.length ∧ Hid ((xs.take k).any p = false) ∧ Hid (Below w.heap.size w wr)) (fun _ iv _ => xs.length - (intOf iv).toNat)
  case atStart => exact ⟨0, rfl, Nat.zero_le _, rfl, bl⟩
  case round =>
    obtain ⟨k, rfl, hk, HK, HBW⟩ := hrel
    by_cases hlt : k < xs.length
    · obtain ⟨x, hx⟩ : ∃ x, xs[k]? = some x := ⟨_, List.getElem?_eq_getElem hlt⟩
      obtain ⟨b, off, s, rfl, _, hd, hc⟩ := rr_at H.out hx
      obtain ⟨d0, d1, d2, d3, d4, d5, d6, d7, d8⟩ := hc.below HBW.out
      have hq := HF.out s x wr (List.mem_of_getElem? hx) HBW.out (hd.below HBW.out (fun b hb => hb))
      have HX := Lib.hid hx
      unfold rrV rrCells at hq
      clear hx hd hc
      cases hp : p x with
      | false =>
        rw [hp] at hq
        have HQ := Lib.hid hq
        have HP := Lib.hid hp
        clear hq hp
        go_wp2_with (go_at_call 165; refine HQ.out.mono ?_; rintro e w1 ⟨v1, rfl, rfl, hb1⟩)
        go_roundw
        case rel => exact ⟨k + 1, by go_num, by omega, any_take_s HX.out HK.out HP.out, nx HBW.out hb1⟩
        case measure => simp [intOf]; omega
      | true =>
        rw [hp] at hq
        have HQ := Lib.hid hq
        have HP := Lib.hid hp
        clear hq hp
        go_wp2_with (go_at_call 165; refine HQ.out.mono ?_; rintro e w1 ⟨v1, rfl, rfl, hb1⟩)
        go_ret
        exact ⟨_, rfl, ⟨_, rfl, ⟨fun _ => List.any_eq_true.2 ⟨x, List.mem_of_getElem? HX.out, HP.out⟩, fun _ => Int.natCast_nonneg _⟩⟩, nx HBW.out hb1⟩
    · obtain rfl : k = xs.length := by omega
      rw [List.take_length] at HK
      go_wp2
      go_ret
      exact ⟨_, rfl, ⟨-1, rfl, ⟨fun h => absurd h (by decide), fun h => by rw [HK.out] at h; cases h⟩⟩, HBW.out⟩
theorem hasMr_any (p : RR → Bool) (A : Option Addr) (n c : Nat) (xs : List RR) (w : World) (h : RdE encRR w A n xs) (hn : n ≤ 1000000000)
    (hf : ∀ (s : RS) (x : RR) (W : World), x ∈ xs → Below w.heap.size w W → RIn (ltS w) W s x → Calls Try.prog 165 #[rrV s x] W (RetP (fun v _ => v = .bool (p x)) W)) :
    Calls Try.prog 135 #[.slice A n c, .func (.func 165) #[] #[]] w (RetP (fun v _ => v = .bool (xs.any p)) w) := by
  have HQ := Lib.hid (indexMr_any p A n c xs w h hn hf)
  clear h hf
  go_enter Try.func135, Try.ntmps135
  go_wp2_with (go_at_call 176; refine HQ.out.mono ?_; rintro e w1 ⟨v1, rfl, ⟨i, rfl, hi⟩, hb1⟩; have HI := Lib.hid hi; clear hi)
  go_ret
  refine ⟨_, rfl, ?_, hb1⟩
  show Value.bool _ = Value.bool _
  congr 1
  rw [Bool.eq_iff_iff, decide_eq_true_iff, HI.out]


set_option maxHeartbeats 1000000 in
theorem indexMq_any (p : Qu → Bool) (A : Option Addr) (n c : Nat) (xs : List Qu) (w : World) (h : RdE encQu w A n xs) (hn : n ≤ 1000000000)
    (hf : ∀ (s : QS) (x : Qu) (W : World), x ∈ xs → Below w.heap.size w W → QIn (ltS w) W s x → Calls Try.prog 168 #[quV s x] W (RetP (fun v _ => v = .bool (p x)) W)) :
    Calls Try.prog 191 #[.slice A n c, .func (.func 168) #[] #[]] w (RetP (fun v _ => ∃ i : Int, v = .int .i64 i ∧ (0 ≤ i ↔ xs.any p = true)) w) := by
  have hl := h.len
  subst hl
  have H := Lib.hid h
  have HF := Lib.hid hf
  clear h hf
  go_enter Try.func191, Try.ntmps191
  go_wp2
  go_loopw [5, 8] (fun _ iv wr => ∃ k : Nat, iv = .int .i64 k ∧ k ≤ xs.length ∧ Hid ((xs.take k).any p = false) ∧ Hid (Below w.heap.size w wr)) (fun _ iv _ => xs.length - (intOf iv).toNat)
  case atStart => exact ⟨0, rfl, Nat.zero_le _, rfl, bl⟩
  case round =>
    obtain ⟨k, rfl, hk, HK, HBW⟩ := hrel
    by_cases hlt : k < xs.length
    · obtain ⟨x, hx⟩ : ∃ x, xs[k]? = some x := ⟨_, List.getElem?_eq_getElem hlt⟩
      obtain ⟨b, off, s, rfl, _, hd, hc⟩ := qu_at H.out hx
      obtain ⟨d0, d1, d2⟩ := hc.below HBW.out
      have hq := HF.out s x wr (List.mem_of_getElem? hx) HBW.out (hd.below HBW.out (fun b hb => hb))
      have HX := Lib.hid hx
      unfold quV at hq
      clear hx hd hc
      cases hp : p x with
      | false =>
        rw [hp] at hq
        have HQ := Lib.hid hq
        have HP := Lib.hid hp
        clear hq hp
        go_wp2_with (go_at_call 168; refine HQ.out.mono ?_; rintro e w1 ⟨v1, rfl, rfl, hb1⟩)
        go_roundw
        case rel => exact ⟨k + 1, by go_num, by omega, any_take_s HX.out HK.out HP.out, nx HBW.out hb1⟩
        case measure => simp [intOf]; omega
      | true =>
        rw [hp] at hq
        have HQ := Lib.hid hq
        have HP := Lib.hid hp
        clear hq hp
        go_wp2_with (go_at_call 168; refine HQ.out.mono ?_; rintro e w1 ⟨v1, rfl, rfl, hb1⟩)
        go_ret
        exact ⟨_, rfl, ⟨_, rfl, ⟨fun _ => List.any_eq_true.2 ⟨x, List.mem_of_getElem? HX.out, HP.out⟩, fun _ => Int.natCast_nonneg _⟩⟩, nx HBW.out hb1⟩
    · obtain rfl : k = xs.length := by omega
      rw [List.take_length] at HK
      go_wp2
      go_ret
      exact ⟨_, rfl, ⟨-1, rfl, ⟨fun h => absurd h (by decide), fun h => by rw [HK.out] at h; cases h⟩⟩, HBW.out⟩
theorem hasMq_any (p : Qu → Bool) (A : Option Addr) (n c : Nat) (xs : List Qu) (w : World) (h : RdE encQu w A n xs) (hn : n ≤ 1000000000)
    (hf : ∀ (s : QS) (x : Qu) (W : World), x ∈ xs → Below w.heap.size w W → QIn (ltS w) W s x → Calls Try.prog 168 #[quV s x] W (RetP (fun v _ => v = .bool (p x)) W)) :
    Calls Try.prog 167 #[.slice A n c, .func (.func 168) #[] #[]] w (RetP (fun v _ => v = .bool (xs.any p)) w) := by
  have HQ := Lib.hid (indexMq_any p A n c xs w h hn hf)
  clear h hf
  go_enter Try.func167, Try.ntmps167
  go_wp2_with (go_at_call 191; refine HQ.out.mono ?_; rintro e w1 ⟨v1, rfl, ⟨i, rfl, hi⟩, hb1⟩; have HI := Lib.hid hi; clear hi)
  go_ret
  refine ⟨_, rfl, ?_, hb1⟩
  show Value.bool _ = Value.bool _
  congr 1
  rw [Bool.eq_iff_iff, decide_eq_true_iff, HI.out]


/-- The three lists of records, by their places. -/
def secL (m : Ms) : Nat → List RR
  | 0 => m.an
  | 1 => m.au
  | _ => m.ex
def secA (s : MS) : Nat → Option Addr
  | 0 => s.A
  | 1 => s.U
  | _ => s.X
def secC (s : MS) : Nat → Nat
  | 0 => s.ac
  | 1 => s.uc
  | _ => s.xc
theorem MRow.sec {w : World} {q : Nat} {s : MS} {m : Ms} (h : MRow w q s m) {j : Nat} (hj : j < 3) : w.cell? ⟨q, 9 + j, none⟩ = some (.slice (secA s j) (secL m j).length (secC s j)) := by
  match j, hj with
  | 0, _ => exact (h.cell 9).trans rfl
  | 1, _ => exact (h.cell 10).trans rfl
  | 2, _ => exact (h.cell 11).trans rfl
theorem MIn.sec {S : Nat → Prop} {w : World} {s : MS} {m : Ms} (h : MIn S w s m) (j : Nat) : Els encRR S S w (secA s j) (secL m j).length (secL m j) := by
  match j with
  | 0 => exact h.a
  | 1 => exact h.u
  | n + 2 => exact h.x
/-- The pointers to the three lists. -/
def secP (q : Nat) : Array Value := #[.pointer (some ⟨q, 9, none⟩), .pointer (some ⟨q, 10, none⟩), .pointer (some ⟨q, 11, none⟩)]
theorem secP_cell {w : World} {g q : Nat} (h : w.heap[g]? = some (.cells (secP q) 172 (0, 0))) {j : Nat} (hj : j < 3) : w.cell? ⟨g, j, none⟩ = some (.pointer (some ⟨q, 9 + j, none⟩)) := by
  have h0 := fun k => cell_of_row w g k _ _ _ h
  match j, hj with
  | 0, _ => exact (h0 0).trans rfl
  | 1, _ => exact (h0 1).trans rfl
  | 2, _ => exact (h0 2).trans rfl
set_option maxHeartbeats 2000000 in
theorem sections_any (q : Nat) (w : World) : Calls Try.prog 146 #[.pointer (some ⟨q, 0, none⟩)] w (fun e w' => ∃ g, e = .returned (.slice (some ⟨g, 0, none⟩) 3 3) ∧ w'.heap[g]? = some (.cells (secP q) 172 (0, 0)) ∧ w.heap.size ≤ g ∧ Below w.heap.size w w') := by
  go_enter Try.func146, Try.ntmps146
  go_upto_region 1 with (fail)
  go_region
  go_wp2
  go_ret
  exact ⟨_, rfl, heap_alloc_new w _, Nat.le_refl _, (bl.alloc (Nat.le_refl _) _).drew⟩
end Go.Proofs.Ytimkdpkhdbiniaa

/- The reference's OwnMsg: a message that shares nothing. -/
namespace Go.Proofs.Ytimkdpkhdbiniaa
open Go.RowKit
set_option maxRecDepth 100000

/-- A message whose records are so small that they can be copied. -/
def LightM (m : Ms) : Prop := m.qs.length ≤ 1000000 ∧ m.an.length ≤ 1000000 ∧ m.au.length ≤ 1000000 ∧ m.ex.length ≤ 1000000 ∧ (∀ q ∈ m.qs, q.name.length ≤ 8796093022208) ∧ (∀ r ∈ m.an, Light9 r) ∧ (∀ r ∈ m.au, Light9 r) ∧ (∀ r ∈ m.ex, Light9 r)
theorem quRow_R {S : Nat → Prop} {w : World} {A : Option Addr} {c : Nat} {x : Qu} (h1 : Els encS S S w A x.name.length x.name) (h2 : x.name.length ≤ c ∧ c ≤ maxLen) (h3 : -9223372036854775808 ≤ x.type ∧ x.type ≤ 9223372036854775807) (h4 : -9223372036854775808 ≤ x.cls ∧ x.cls ≤ 9223372036854775807) : encQu.R S w [.slice A x.name.length c, .int .i64 x.type, .int .i64 x.cls] x := ⟨A, c, rfl, h1, h2, h3, h4⟩

set_option maxHeartbeats 8000000 in
theorem ownMsg_any (s : MS) (m : Ms) (w : World) {S : Nat → Prop} (h : MIn S w s m) (hS : ∀ b, S b → b < w.heap.size) (hL : LightM m) :
    Calls Try.prog 33 #[msV s m] w (RetP (fun v w' => ∃ s', v = msV s' m ∧ MIn (geS w.heap.size w') w' s' m) w) := by
  obtain ⟨w1, hw1⟩ : ∃ w1, w1 = w.alloc (.cells (mCells s m) 31) := ⟨_, rfl⟩
  obtain ⟨w2, hw2⟩ : ∃ w2, w2 = w1.alloc (.cells (mCells MS.nil Ms.zero) 31) := ⟨_, rfl⟩
  have hb1 : Below w.heap.size w w1 := by rw [hw1]; exact bl.alloc (Nat.le_refl _) _
  have hb2 : Below w1.heap.size w1 w2 := by rw [hw2]; exact bl.alloc (Nat.le_refl _) _
  have hz1 : w1.heap.size = w.heap.size + 1 := by rw [hw1]; simp
  have hz2 : w2.heap.size = w.heap.size + 2 := by rw [hw2]; simp; omega
  have hR1 : MRow w2 w.heap.size s m := by have h : MRow w1 w.heap.size s m := by rw [hw1]; exact MRow.made w s m
                                           exact h.below hb2
  have hR2 : MRow w2 (w.heap.size + 1) MS.nil Ms.zero := by rw [hw2, ← hz1]; exact MRow.made w1 _ _
  have hI2 : MIn S w2 s m := (h.below hb1 hS).below hb2 (fun b hb => Nat.lt_of_lt_of_le (hS b hb) hb1.size)
  have HR1 := Lib.hid hR1
  have HR2 := Lib.hid hR2
  have HI2 := Lib.hid hI2
  have HS : Hid (∀ b, S b → b < w.heap.size) := hS
  have HL := Lib.hid hL
  have HBW : Hid (Below w.heap.size w w2) := nx hb1 hb2
  have HZ2 := Lib.hid hz2
  unfold msV
  unfold mCells at hw1 hw2 ⊢
  simp only [MS.nil, Ms.zero, List.length_nil] at hw2
  clear h hS hL hb1 hb2 hz1 hz2 hR1 hR2 hI2
  go_enter Try.func33, Try.ntmps33
  go_upto_region 1 with (fail)
  rw [← hw1, ← hw2]
  clear hw1 hw2
  generalize hq0 : w.heap.size = q at HR1 HR2 ⊢
  have HQ0 := Lib.hid hq0
  clear hq0
  go_wp2_with fail
  go_loopw [3, 4] (fun v i wr => ∃ k : Nat, i = .int .i64 k ∧ k ≤ m.qs.length ∧ Hid (NewE encQu 25 w2.heap.size wr v (m.qs.take k)) ∧ Hid (Below w2.heap.size w2 wr)) (fun _ i _ => m.qs.length - (intOf i).toNat)
  case atStart => exact ⟨0, rfl, Nat.zero_le _, NewE.nil _ _ _ _, bl⟩
  case round =>
    obtain ⟨k, rfl, hk, HOWN, HBR⟩ := hrel
    have hqs := HL.out.1
    have HRW := Lib.hid (HR1.out.below HBR.out)
    obtain ⟨z0, z1, z2, z3, z4, z5, z6, z7, z8, z9, z10, z11, z12, z13⟩ := HRW.out.cells
    by_cases hlt : k < m.qs.length
    · obtain ⟨x, hx⟩ : ∃ x, m.qs[k]? = some x := ⟨_, List.getElem?_eq_getElem hlt⟩
      have HX := Lib.hid hx
      have hxl := HL.out.2.2.2.2.1 x (List.mem_of_getElem? hx)
      have HXL := Lib.hid hxl
      obtain ⟨b, off, t, hA, hb0, hd, hc⟩ := qu_at HI2.out.q hx
      have hAA := Lib.hid hA
      rw [hA] at z8
      have HSR : Hid (∀ b, S b → b < wr.heap.size) := fun b hb => by have h1 := HS.out b hb; have h2 := HBW.out.size; have h3 := HBR.out.size; omega
      have HD := Lib.hid (hd.below HBR.out (fun b hb => by have h1 := HS.out b hb; have h2 := HBW.out.size; omega))
      obtain ⟨d0, d1, d2⟩ := hc.below HBR.out
      have HTK : Hid (m.qs.take (k + 1) = m.qs.take k ++ [x]) := by show _ = _; rw [List.take_add_one, hx]; rfl
      obtain ⟨w3, hw3⟩ : ∃ w3, w3 = wr.alloc (.cells (qCells t x) 25) := ⟨_, rfl⟩
      have HB3 : Hid (Below wr.heap.size wr w3) := by show Below _ _ _; rw [hw3]; exact bl.alloc (Nat.le_refl _) _
      have HR3 : Hid (QRow w3 wr.heap.size t x) := by show QRow _ _ _ _; rw [hw3]; exact QRow.made wr t x
      have HZ3 : Hid (w3.heap.size = wr.heap.size + 1) := by show _ = _; rw [hw3]; simp
      have hpl : (m.qs.take k).length ≤ 1000000 := by rw [List.length_take]; omega
      have HPL := Lib.hid hpl
      unfold qCells at hw3
      clear hx hxl hA hb0 hd hc hpl
      generalize m.qs.take k = l at HOWN HTK HPL
      go_upto_region 6 with (fail)
      rw [← hw3]
      clear hw3 d0 d1 d2 z0 z1 z2 z3 z4 z5 z6 z7 z8 z9 z10 z11 z12 z13
      generalize hq3 : wr.heap.size = q3 at HR3 HZ3 ⊢
      have HQ3 := Lib.hid hq3
      clear hq3
      obtain ⟨x0, x1, x2⟩ := HR3.out.cells
      have xa0 := below_cell (bl.alloc (Nat.le_refl _) (.cells #[] 9)) x0
      go_upto_region 7 with (first
        | ((with_reducible show wpList _ _ _ (⟨some 21, _, _, _, _, _⟩ :: _) _ _); go_must (refine wpL_cloneS rfl (.tmp 18) (.tmp 20) rfl rfl t.A _ t.c x.name rfl (HD.out.keep (fun b hb => HB3.out.block b (HSR.out b hb))).n (by have := HXL.out; omega) ?_; intro v4 w4 hown4 hb4; obtain ⟨A4, c4, rfl, _, hl4, hm4⟩ := OwnE.form hown4; have hR4 := HR3.out.below hb4; have e0 := hR4.cells.1; have f0 := hR4.free 0))
        | fail)
      obtain ⟨w5, hw5⟩ : ∃ w5, w5 = w4.setCell ⟨q3, 0, none⟩ (.slice A4 x.name.length c4) := ⟨_, rfl⟩
      have hU5 : QRow w5 q3 ⟨A4, c4⟩ x := by rw [hw5]; exact hR4.put 0 _ _ _ rfl
      have hcu5 : Chg (fun z => z = q3) w4 w5 := by rw [hw5]; exact chg_g1 w4 q3 0 _
      have hown5 : OwnS w5 (q3 + 1) (.slice A4 x.name.length c4) x.name := by rw [HZ3.out] at hown4; exact ownE_chg hown4 hcu5 (fun z h1 _ e => by omega)
      have hz5 : q3 + 1 ≤ w5.heap.size := by have h1 := hb4.size; have h2 := hcu5.size; rw [HZ3.out] at h1; omega
      have hbu5 : Below q3 wr w5 := by
        have h1 : Below q3 wr w4 := by have h := HB3.out; rw [HQ3.out] at h; exact h.trans (hb4.mono (by rw [HZ3.out]; omega))
        exact h1.trans (hcu5.below (fun z hz => by omega) (by have h2 := hb4.size; rw [HZ3.out] at h2; omega))
      have HU5 := Lib.hid hU5
      have HOW5 := Lib.hid hown5
      have HZ5 := Lib.hid hz5
      have HBU5 := Lib.hid hbu5
      rw [← hw5]
      clear hw5 hU5 hcu5 hown4 hown5 hz5 hbu5 hR4 e0 f0 x0 x1 x2 xa0 hb4
      obtain ⟨x0, x1, x2⟩ := HU5.out.cells
      obtain ⟨SO, hso, hSO⟩ := HOWN.out
      have hown : OwnE encQu 25 SO w5 w2.heap.size u3 l := by have hb := HBU5.out; rw [← HQ3.out] at hb; exact hso.below hb
      have hlto := hso.lt
      rw [HQ3.out] at hlto
      have hbase : w2.heap.size ≤ q3 := by rw [← HQ3.out]; exact HBR.out.size
      have hels := ownE_els HOW5.out rfl
      have hrow : encQu.R (geS (q3 + 1) w5) w5 [.slice A4 x.name.length c4, .int .i64 x.type, .int .i64 x.cls] x := quRow_R hels.1 hels.2 HD.out.it HD.out.ic
      have HPB := Lib.hid (And.intro hlto hbase)
      clear hels hso
      go_wp2_with (first
        | ((with_reducible show wpList _ _ _ (⟨some 26, _, _, _, _, _⟩ :: _) _ _); refine wpL_pushE elQu rfl (.tmp 23) (.tmp 25) rfl w2.heap.size _ l rfl hown _ x hrow ?hS rfl ?hb ?hl ?hbase ?_; rotate_right; intro v6 w6 hown6 hg6 hat6)
        | fail)
      · go_roundw
        case rel =>
          refine ⟨k + 1, by go_num, by omega, ⟨_, by rw [HTK.out]; exact hown6, fun z hz => ?_⟩, ?_⟩
          · rcases hz with hz | hz
            · exact hSO z hz
            · have := hz.1; omega
          · have hb := HBU5.out
            rw [← HQ3.out] at hb
            exact (nx HBR.out hb).grown hg6 (by have := HZ5.out; omega) (fun j hj => (hown.lt j hj).1)
        case measure => simp [intOf]; omega
      case hS =>
        intro z hz
        refine ⟨hz.2, fun he => ?_⟩
        have h1 := (hlto z he.symm).2
        have h2 := hz.1
        omega
      case hb => have := HPL.out; omega
      case hl => have := HPL.out; unfold maxLen; omega
      case hbase => have := HZ5.out; omega
    · obtain rfl : k = m.qs.length := by omega
      rw [List.take_length] at HOWN
      obtain ⟨A8, c8, rfl, hel8, hl8, hm8⟩ := HOWN.out.rd
      have hcq : q + 1 < w2.heap.size := by rw [HZ2.out, HQ0.out]; omega
      have HCQ := Lib.hid hcq
      have hf8 := HRW.out.free 8
      have HR2W := Lib.hid (HR2.out.below HBR.out)
      have HSW : Hid (∀ b, S b → b < q) := fun b hb => by have := HS.out b hb; rw [← HQ0.out]; exact this
      clear HOWN hk hlt
      go_upto_region 9 with (fail)
      obtain ⟨y8, hy8⟩ : ∃ y8, y8 = wr.setCell ⟨q, 8, none⟩ (.slice A8 m.qs.length c8) := ⟨_, rfl⟩
      have HY8 : Hid (MRow y8 q ⟨A8, c8, s.A, s.ac, s.U, s.uc, s.X, s.xc⟩ m) := by show MRow _ _ _ _; rw [hy8]; exact HRW.out.put 8 _ _ _ rfl
      have hc8 : Chg (fun z => z = q) wr y8 := by rw [hy8]; exact chg_g1 wr q 8 _
      have HP8 : Hid (MRow y8 (q + 1) MS.nil Ms.zero) := hc8.heap HR2W.out (by omega)
      have HQ8 : Hid (Els encQu (geS w2.heap.size y8) (geS w2.heap.size y8) y8 A8 m.qs.length m.qs) := els_ge hel8 hc8 (fun z h1 _ e => by omega)
      have HI8 : Hid (MIn S y8 s m) := (HI2.out.below HBR.out (fun b hb => by have h1 := HSW.out b hb; omega)).chg hc8 (fun b hb => by have h1 := HSW.out b hb; have h2 := HBR.out.size; exact ⟨by omega, by omega⟩)
      have HB8 : Hid (Below w.heap.size w y8) := by have h1 := HBR.out.mono HBW.out.size; exact (HBW.out.trans h1).trans (hc8.below (fun z hz => by rw [hz, ← HQ0.out]; omega) (Nat.le_trans HBW.out.size HBR.out.size))
      have HG8 : Hid (w2.heap.size ≤ y8.heap.size) := Nat.le_trans HBR.out.size hc8.size
      rw [← hy8]
      clear hy8 hc8 hel8 HRW HR2W hf8 z0 z1 z2 z3 z4 z5 z6 z7 z8 z9 z10 z11 z12 z13
      obtain ⟨z0, z1, z2, z3, z4, z5, z6, z7, z8, z9, z10, z11, z12, z13⟩ := HY8.out.cells
      have hls9 := HL.out.2.1
      go_upto_region 10 with (first
        | (go_at_call 74; refine (ownRRs_any s.A m.an.length s.ac m.an y8 (HI8.out.a.mono (fun b hb => by have h1 := HSW.out b hb; have h2 := HCQ.out; have h3 := HG8.out; show b < _; omega) (fun b hb => by have h1 := HSW.out b hb; have h2 := HCQ.out; have h3 := HG8.out; show b < _; omega)) hls9 HL.out.2.2.2.2.2.1).mono ?_; rintro e x9 ⟨v9, rfl, ho9, hb9⟩; obtain ⟨A9, c9, rfl, hel9, hl9, hm9⟩ := NewE.rd ho9; have hR9 := HY8.out.below hb9; have e9 := hR9.cells.2.2.2.2.2.2.2.2.2.1; have f9 := hR9.free 9)
        | fail)
      obtain ⟨y9, hy9⟩ : ∃ y, y = x9.setCell ⟨q, 9, none⟩ (.slice A9 m.an.length c9) := ⟨_, rfl⟩
      have HY9 : Hid (MRow y9 q ⟨A8, c8, A9, c9, s.U, s.uc, s.X, s.xc⟩ m) := by show MRow _ _ _ _; rw [hy9]; exact hR9.put 9 _ _ _ rfl
      have hc9 : Chg (fun z => z = q) x9 y9 := by rw [hy9]; exact chg_g1 x9 q 9 _
      have hcq := HCQ.out
      have hg := HG8.out
      have hbs := hb9.size
      have HP9 : Hid (MRow y9 (q + 1) MS.nil Ms.zero) := hc9.heap (HP8.out.below hb9) (by omega)
      have HI9 : Hid (MIn S y9 s m) := (HI8.out.below hb9 (fun b hb => by have h1 := HSW.out b hb; omega)).chg hc9 (fun b hb => by have h1 := HSW.out b hb; exact ⟨by omega, by omega⟩)
      have HB9 : Hid (Below w.heap.size w y9) := (nx HB8.out hb9).trans (hc9.below (fun z hz => by rw [hz, ← HQ0.out]; omega) (by rw [HQ0.out]; omega))
      have HG9 : Hid (w2.heap.size ≤ y9.heap.size) := Nat.le_trans hg (Nat.le_trans hbs hc9.size)
      have HQ9 := Lib.hid (els_ge (els_geB HQ8.out hb9) hc9 (fun z h1 _ e => by omega))
      have HA9 := Lib.hid (els_ge (els_le hel9 hg) hc9 (fun z h1 _ e => by omega))
      have HCP9 : Hid (m.an.length ≤ c9 ∧ c9 ≤ maxLen) := ⟨hl9, hm9⟩
      rw [← hy9]
      clear hy9 hc9 hcq hg hbs hel9 hl9 hm9 ho9 hb9 hR9 e9 f9 hls9 z0 z1 z2 z3 z4 z5 z6 z7 z8 z9 z10 z11 z12 z13
      obtain ⟨z0, z1, z2, z3, z4, z5, z6, z7, z8, z9, z10, z11, z12, z13⟩ := HY9.out.cells
      have hls10 := HL.out.2.2.1
      go_upto_region 11 with (first
        | (go_at_call 74; refine (ownRRs_any s.U m.au.length s.uc m.au y9 (HI9.out.u.mono (fun b hb => by have h1 := HSW.out b hb; have h2 := HCQ.out; have h3 := HG9.out; show b < _; omega) (fun b hb => by have h1 := HSW.out b hb; have h2 := HCQ.out; have h3 := HG9.out; show b < _; omega)) hls10 HL.out.2.2.2.2.2.2.1).mono ?_; rintro e x10 ⟨v10, rfl, ho10, hb10⟩; obtain ⟨A10, c10, rfl, hel10, hl10, hm10⟩ := NewE.rd ho10; have hR10 := HY9.out.below hb10; have e10 := hR10.cells.2.2.2.2.2.2.2.2.2.2.1; have f10 := hR10.free 10)
        | fail)
      obtain ⟨y10, hy10⟩ : ∃ y, y = x10.setCell ⟨q, 10, none⟩ (.slice A10 m.au.length c10) := ⟨_, rfl⟩
      have HY10 : Hid (MRow y10 q ⟨A8, c8, A9, c9, A10, c10, s.X, s.xc⟩ m) := by show MRow _ _ _ _; rw [hy10]; exact hR10.put 10 _ _ _ rfl
      have hc10 : Chg (fun z => z = q) x10 y10 := by rw [hy10]; exact chg_g1 x10 q 10 _
      have hcq := HCQ.out
      have hg := HG9.out
      have hbs := hb10.size
      have HP10 : Hid (MRow y10 (q + 1) MS.nil Ms.zero) := hc10.heap (HP9.out.below hb10) (by omega)
      have HI10 : Hid (MIn S y10 s m) := (HI9.out.below hb10 (fun b hb => by have h1 := HSW.out b hb; omega)).chg hc10 (fun b hb => by have h1 := HSW.out b hb; exact ⟨by omega, by omega⟩)
      have HB10 : Hid (Below w.heap.size w y10) := (nx HB9.out hb10).trans (hc10.below (fun z hz => by rw [hz, ← HQ0.out]; omega) (by rw [HQ0.out]; omega))
      have HG10 : Hid (w2.heap.size ≤ y10.heap.size) := Nat.le_trans hg (Nat.le_trans hbs hc10.size)
      have HQ10 := Lib.hid (els_ge (els_geB HQ9.out hb10) hc10 (fun z h1 _ e => by omega))
      have HA10 := Lib.hid (els_ge (els_geB HA9.out hb10) hc10 (fun z h1 _ e => by omega))
      have HU10 := Lib.hid (els_ge (els_le hel10 hg) hc10 (fun z h1 _ e => by omega))
      have HCP10 : Hid (m.au.length ≤ c10 ∧ c10 ≤ maxLen) := ⟨hl10, hm10⟩
      rw [← hy10]
      clear hy10 hc10 hcq hg hbs hel10 hl10 hm10 ho10 hb10 hR10 e10 f10 hls10 z0 z1 z2 z3 z4 z5 z6 z7 z8 z9 z10 z11 z12 z13
      obtain ⟨z0, z1, z2, z3, z4, z5, z6, z7, z8, z9, z10, z11, z12, z13⟩ := HY10.out.cells
      have hls11 := HL.out.2.2.2.1
      go_upto_region 12 with (first
        | (go_at_call 74; refine (ownRRs_any s.X m.ex.length s.xc m.ex y10 (HI10.out.x.mono (fun b hb => by have h1 := HSW.out b hb; have h2 := HCQ.out; have h3 := HG10.out; show b < _; omega) (fun b hb => by have h1 := HSW.out b hb; have h2 := HCQ.out; have h3 := HG10.out; show b < _; omega)) hls11 HL.out.2.2.2.2.2.2.2).mono ?_; rintro e x11 ⟨v11, rfl, ho11, hb11⟩; obtain ⟨A11, c11, rfl, hel11, hl11, hm11⟩ := NewE.rd ho11; have hR11 := HY10.out.below hb11; have e11 := hR11.cells.2.2.2.2.2.2.2.2.2.2.2.1; have f11 := hR11.free 11)
        | fail)
      obtain ⟨y11, hy11⟩ : ∃ y, y = x11.setCell ⟨q, 11, none⟩ (.slice A11 m.ex.length c11) := ⟨_, rfl⟩
      have HY11 : Hid (MRow y11 q ⟨A8, c8, A9, c9, A10, c10, A11, c11⟩ m) := by show MRow _ _ _ _; rw [hy11]; exact hR11.put 11 _ _ _ rfl
      have hc11 : Chg (fun z => z = q) x11 y11 := by rw [hy11]; exact chg_g1 x11 q 11 _
      have hcq := HCQ.out
      have hg := HG10.out
      have hbs := hb11.size
      have HP11 : Hid (MRow y11 (q + 1) MS.nil Ms.zero) := hc11.heap (HP10.out.below hb11) (by omega)
      have HI11 : Hid (MIn S y11 s m) := (HI10.out.below hb11 (fun b hb => by have h1 := HSW.out b hb; omega)).chg hc11 (fun b hb => by have h1 := HSW.out b hb; exact ⟨by omega, by omega⟩)
      have HB11 : Hid (Below w.heap.size w y11) := (nx HB10.out hb11).trans (hc11.below (fun z hz => by rw [hz, ← HQ0.out]; omega) (by rw [HQ0.out]; omega))
      have HG11 : Hid (w2.heap.size ≤ y11.heap.size) := Nat.le_trans hg (Nat.le_trans hbs hc11.size)
      have HQ11 := Lib.hid (els_ge (els_geB HQ10.out hb11) hc11 (fun z h1 _ e => by omega))
      have HA11 := Lib.hid (els_ge (els_geB HA10.out hb11) hc11 (fun z h1 _ e => by omega))
      have HU11 := Lib.hid (els_ge (els_geB HU10.out hb11) hc11 (fun z h1 _ e => by omega))
      have HX11 := Lib.hid (els_ge (els_le hel11 hg) hc11 (fun z h1 _ e => by omega))
      have HCP11 : Hid (m.ex.length ≤ c11 ∧ c11 ≤ maxLen) := ⟨hl11, hm11⟩
      rw [← hy11]
      clear hy11 hc11 hcq hg hbs hel11 hl11 hm11 ho11 hb11 hR11 e11 f11 hls11 z0 z1 z2 z3 z4 z5 z6 z7 z8 z9 z10 z11 z12 z13
      obtain ⟨z0, z1, z2, z3, z4, z5, z6, z7, z8, z9, z10, z11, z12, z13⟩ := HY11.out.cells
      obtain ⟨p0, p1, p2, p3, p4, p5, p6, p7, p8, p9, p10, p11, p12, p13⟩ := HP11.out.cells
      simp only [MS.nil, Ms.zero, List.length_nil] at p0 p1 p2 p3 p4 p5 p6 p7 p8 p9 p10 p11 p12 p13
      have f0 := HP11.out.free 0
      have f1 := HP11.out.free 1
      have f2 := HP11.out.free 2
      have f3 := HP11.out.free 3
      have f4 := HP11.out.free 4
      have f5 := HP11.out.free 5
      have f6 := HP11.out.free 6
      have f7 := HP11.out.free 7
      have f8 := HP11.out.free 8
      have f9 := HP11.out.free 9
      have f10 := HP11.out.free 10
      have f11 := HP11.out.free 11
      have f12 := HP11.out.free 12
      have f13 := HP11.out.free 13
      go_wp2
      obtain ⟨ym, hym⟩ : ∃ y, y = put14 y11 (q + 1) (.int .i64 m.id) (.bool m.resp) (.int .i64 m.op) (.bool m.aa) (.bool m.tc) (.bool m.rd) (.bool m.ra) (.int .i64 m.rcode) (.slice A8 m.qs.length c8) (.slice A9 m.an.length c9) (.slice A10 m.au.length c10) (.slice A11 m.ex.length c11) (.bool m.edns) (.int .i64 m.size) := ⟨_, rfl⟩
      have hRm : MRow ym (q + 1) ⟨A8, c8, A9, c9, A10, c10, A11, c11⟩ m := by rw [hym]; exact HP11.out.fill ⟨A8, c8, A9, c9, A10, c10, A11, c11⟩ m
      have hcm : Chg (fun z => z = q + 1) y11 ym := by rw [hym]; exact chg14 _ _ _ _ _ _ _ _ _ _ _ _ _ _ _ _
      unfold put14 at hym
      rw [← hym]
      clear hym z0 z1 z2 z3 z4 z5 z6 z7 z8 z9 z10 z11 z12 z13 f0 f1 f2 f3 f4 f5 f6 f7 f8 f9 f10 f11 f12 f13 p0 p1 p2 p3 p4 p5 p6 p7 p8 p9 p10 p11 p12 p13
      obtain ⟨z0, z1, z2, z3, z4, z5, z6, z7, z8, z9, z10, z11, z12, z13⟩ := hRm.cells
      have hcq := HCQ.out
      have hg := HG11.out
      have hq0 := HQ0.out
      have hm : ∀ b, geS w2.heap.size ym b → geS q ym b := fun b hb => ⟨by have h1 := hb.1; omega, hb.2⟩
      refine bodyPost_ret (v := msV ⟨A8, c8, A9, c9, A10, c10, A11, c11⟩ m) ?_ rfl ⟨_, rfl, ⟨_, rfl, ?_⟩, HB11.out.trans (hcm.below (fun z hz => by omega) (by omega))⟩
      · simp [results, Try.results33, go_sem, z0, z1, z2, z3, z4, z5, z6, z7, z8, z9, z10, z11, z12, z13]
        rfl
      · rw [HQ0.out]
        exact ⟨(els_ge HQ11.out hcm (fun z h1 _ e => by omega)).mono hm hm, (els_ge HA11.out hcm (fun z h1 _ e => by omega)).mono hm hm, (els_ge HU11.out hcm (fun z h1 _ e => by omega)).mono hm hm, (els_ge HX11.out hcm (fun z h1 _ e => by omega)).mono hm hm, ⟨hl8, hm8⟩, HCP9.out, HCP10.out, HCP11.out, HI11.out.ii, HI11.out.io, HI11.out.ir, HI11.out.is⟩
end Go.Proofs.Ytimkdpkhdbiniaa

/- msg.Sound: may a message be? -/
namespace Go.Proofs.Ytimkdpkhdbiniaa
open Go.RowKit
set_option maxRecDepth 100000

/-- A message whose lists can be looked at. -/
structure LtM (m : Ms) : Prop where
  q : m.qs.length ≤ 1000000
  s : ∀ j, (secL m j).length ≤ 1000000
  qn : ∀ x ∈ m.qs, x.name.length ≤ 1000000000
  r : ∀ j, ∀ x ∈ secL m j, Lt9 x ∧ x.data.bytes.length ≤ 1000000000
theorem LtM.light {m : Ms} (h : LtM m) : LightM m := by
  have k : ∀ j, ∀ x ∈ secL m j, Light9 x := fun j x hx => by
    obtain ⟨⟨h1, h2, h3, h4, h5⟩, h6⟩ := h.r j x hx
    exact ⟨by omega, by omega, by omega, by omega, by omega, by omega⟩
  exact ⟨h.q, h.s 0, h.s 1, h.s 2, fun x hx => by have := h.qn x hx; omega, k 0, k 1, k 2⟩
def totS (m : Ms) : Nat → Nat
  | 0 => m.qs.length
  | j + 1 => totS m j + (secL m j).length
theorem totS_le {m : Ms} (h : LtM m) (j : Nat) : totS m j ≤ 1000000 * (j + 1) := by
  induction j with
  | zero => have := h.q; show m.qs.length ≤ _; omega
  | succ j ih => have := h.s j; show totS m j + (secL m j).length ≤ _; omega
theorem FineM.sec {m : Ms} (h : FineM m) : ∀ j, ∀ r ∈ secL m j, FineK r
  | 0 => h.an
  | 1 => h.au
  | _ + 2 => h.ex
theorem totS_mono (m : Ms) {i j : Nat} (h : i ≤ j) : totS m i ≤ totS m j := by
  induction h with
  | refl => exact Nat.le_refl _
  | step _ ih => exact Nat.le_trans ih (Nat.le_add_right _ _)
theorem totS_3 (m : Ms) : totS m 3 = totM m := rfl
theorem any_bad {m : Ms} {j : Nat} (h : (secL m j).any (fun r => !fineK r) = true) : ¬ FineM m := fun hf => by
  obtain ⟨r, hr, h1⟩ := List.any_eq_true.1 h
  rw [fineK_iff.2 (hf.sec j r hr)] at h1
  cases h1
theorem any_good {m : Ms} {j : Nat} (h : (secL m j).any (fun r => !fineK r) = false) : ∀ r ∈ secL m j, FineK r := fun r hr => by
  rw [List.any_eq_false] at h
  have h1 := h r hr
  rw [← fineK_iff]
  simpa using h1
theorem anyq_bad {m : Ms} (h : m.qs.any (fun q => !fineQ q) = true) : ¬ FineM m := fun hf => by
  obtain ⟨r, hr, h1⟩ := List.any_eq_true.1 h
  rw [fineQ_iff.2 (hf.qs r hr)] at h1
  cases h1
theorem anyq_good {m : Ms} (h : m.qs.any (fun q => !fineQ q) = false) : ∀ q ∈ m.qs, FineQ q := fun q hq => by
  rw [List.any_eq_false] at h
  have h1 := h q hq
  rw [← fineQ_iff]
  simpa using h1
theorem ms_last {m : Ms} (h0 : totM m ≤ 512) (h1 : fitsB m.id 2 = true) (h2 : 0 ≤ m.op) (h3 : m.op < 16) (h4 : 0 ≤ m.rcode) (h5 : m.rcode < 16) (h6 : fitsB m.size 2 = true) (h7 : m.edns = true ∨ m.size = 0)
    (hs : ∀ j, j < 3 → ∀ r ∈ secL m j, FineK r) : fineM m = !(m.qs.any (fun q => !fineQ q)) := by
  cases h : m.qs.any (fun q => !fineQ q) with
  | true => exact fineM_no (anyq_bad h)
  | false => exact fineM_yes ⟨h0, h1, h2, h3, h4, h5, h6, h7, anyq_good h, hs 0 (by decide), hs 1 (by decide), hs 2 (by decide)⟩

set_option maxHeartbeats 16000000 in
theorem mSound_any (s : MS) (m : Ms) (w : World) {S : Nat → Prop} (h : MIn S w s m) (hS : ∀ b, S b → b < w.heap.size) (hL : LtM m) :
    Calls Try.prog 119 #[msV s m] w (RetP (fun v _ => v = .bool (fineM m)) w) := by
  obtain ⟨w1, hw1⟩ : ∃ w1, w1 = w.alloc (.cells (mCells s m) 31) := ⟨_, rfl⟩
  have hb1 : Below w.heap.size w w1 := by rw [hw1]; exact bl.alloc (Nat.le_refl _) _
  have HR1 : Hid (MRow w1 w.heap.size s m) := by show MRow _ _ _ _; rw [hw1]; exact MRow.made w s m
  have HI1 := Lib.hid (h.below hb1 hS)
  have HS1 : Hid (∀ b, S b → b < w1.heap.size) := fun b hb => Nat.lt_of_lt_of_le (hS b hb) hb1.size
  have HB1 := Lib.hid hb1
  have HL := Lib.hid hL
  unfold msV
  unfold mCells at hw1 ⊢
  clear h hS hL hb1
  go_enter Try.func119, Try.ntmps119
  go_upto_region 1 with (fail)
  rw [← hw1]
  clear hw1
  generalize w.heap.size = q at HR1 ⊢
  obtain ⟨z0, z1, z2, z3, z4, z5, z6, z7, z8, z9, z10, z11, z12, z13⟩ := HR1.out.cells
  have hqs := HL.out.q
  go_wp2_with (first
    | (go_at_call 146; refine (sections_any q w1).mono ?_; rintro e w2 ⟨g, rfl, hg2, hl2, hb2⟩; have HG2 := Lib.hid hg2; have HB2 := Lib.hid hb2; clear hg2 hl2 hb2)
    | fail)
  go_loopw [3, 11] (fun av iv wr => ∃ j : Nat, iv = .int .i64 j ∧ j ≤ 3 ∧ av = .int .i64 (totS m j : Int) ∧ Hid (j = 0 ∨ totS m j ≤ 512) ∧ Hid (∀ i, i < j → ∀ r ∈ secL m i, FineK r) ∧ Hid (Below w2.heap.size w2 wr)) (fun _ iv _ => 3 - (intOf iv).toNat)
  case atStart => exact ⟨0, rfl, by decide, rfl, .inl rfl, fun i hi => absurd hi (Nat.not_lt_zero i), bl⟩
  case round =>
    obtain ⟨j, rfl, hj, rfl, HT, HF, HBR⟩ := hrel
    have HBW := Lib.hid (HB2.out.trans (HBR.out.mono HB2.out.size))
    have HRW := Lib.hid (HR1.out.below HBW.out)
    have htl := totS_le HL.out j
    by_cases hlt : j < 3
    · have y0 := secP_cell ((HBR.out.block _ (Array.getElem?_eq_some_iff.1 HG2.out).1).trans HG2.out) hlt
      have y1 := HRW.out.sec hlt
      have hsl := HL.out.s j
      have HTE : Hid (totS m (j + 1) = totS m j + (secL m j).length) := rfl
      have HSC := Lib.hid ((HI1.out.sec j).mono HS1.out HS1.out |> fun h => RdE.below h HBW.out)
      have HSL := Lib.hid hsl
      have HRL := Lib.hid (HL.out.r j)
      have HBAD : Hid ((secL m j).any (fun r => !fineK r) = true → ¬ FineM m) := any_bad
      have HGOOD : Hid ((secL m j).any (fun r => !fineK r) = false → ∀ r ∈ secL m j, FineK r) := any_good
      clear z0 z1 z2 z3 z4 z5 z6 z7 z8 z9 z10 z11 z12 z13
      obtain ⟨l, hl⟩ : ∃ l, l = secL m j := ⟨_, rfl⟩
      have HLJ := Lib.hid hl
      rw [← hl] at y1 hsl HTE HSC HSL HRL HBAD HGOOD
      obtain ⟨n, hn⟩ : ∃ n, n = totS m j := ⟨_, rfl⟩
      have HNJ := Lib.hid hn
      rw [← hn] at HTE htl ⊢
      clear hl hn
      by_cases hbig : (512 : Int) < (n : Int) + (l.length : Int)
      · have hno : fineM m = false := fineM_no (fun hf => by have h1 := hf.tot; rw [← totS_3] at h1; have h2 := totS_mono m (show j + 1 ≤ 3 by omega); rw [HTE.out] at h2; omega)
        have HNO := Lib.hid hno
        clear hno
        go_wp2
        go_ret
        exact ⟨_, rfl, by show Value.bool _ = Value.bool _; rw [HNO.out], nx HB1.out HBW.out⟩
      · have HCF := Lib.hid (hasMr_any (fun r => !fineK r) (secA s j) l.length (secC s j) l wr HSC.out (by omega) (fun s' x W hx hW hi => mS1_any s' x W hi (fun b hb => Nat.lt_of_lt_of_le hb hW.size) (HRL.out x hx).1))
        cases ha : l.any (fun r => !fineK r) with
        | true =>
          rw [ha] at HCF
          have HNO := Lib.hid (fineM_no (HBAD.out ha))
          clear ha
          go_wp2_with (first
            | (go_at_call 135; refine HCF.out.mono ?_; rintro e w3 ⟨v3, rfl, rfl, hb3⟩)
            | fail)
          go_ret
          exact ⟨_, rfl, by show Value.bool _ = Value.bool _; rw [HNO.out], nx HB1.out (nx HBW.out hb3)⟩
        | false =>
          rw [ha] at HCF
          have HOK := Lib.hid (HGOOD.out ha)
          clear ha
          go_wp2_with (first
            | (go_at_call 135; refine HCF.out.mono ?_; rintro e w3 ⟨v3, rfl, rfl, hb3⟩)
            | fail)
          go_roundw
          case rel =>
            refine ⟨j + 1, by go_num, by omega, ?_, .inr ?_, ?_, nx HBR.out hb3⟩
            · rw [HTE.out]; go_num
            · rw [HTE.out]; omega
            · intro i hi
              by_cases hij : i < j
              · exact HF.out i hij
              · obtain rfl : i = j := by omega
                rw [← HLJ.out]
                exact HOK.out
          case measure => simp [intOf]; omega
    · obtain rfl : j = 3 := by omega
      have h512 : totM m ≤ 512 := by have h := HT.out; rw [totS_3] at h; omega
      have h512' : (totM m : Int) ≤ 512 := by omega
      have H512 := Lib.hid h512
      rw [totS_3]
      have HI := Lib.hid (HI1.out.below HBW.out HS1.out)
      have HSW : Hid (∀ b, S b → b < wr.heap.size) := fun b hb => Nat.lt_of_lt_of_le (HS1.out b hb) HBW.out.size
      have HBB := Lib.hid (nx HB1.out HBW.out)
      clear htl hlt hj h512
      clear z0 z1 z2 z3 z4 z5 z6 z7 z8 z9 z10 z11 z12 z13
      obtain ⟨z0, z1, z2, z3, z4, z5, z6, z7, z8, z9, z10, z11, z12, z13⟩ := HRW.out.cells
      generalize totM m = n at h512' ⊢
      cases t0 : fitsB m.id 2 with
      | false =>
        have HT0 := Lib.hid t0
        clear t0
        go_wp2_with (first
          | (go_at_call 88; (with_reducible refine (fits_any m.id 2 wr).mono ?_); rw [HT0.out]; rintro e w3 ⟨rfl, rfl⟩)
          | fail)
        go_ret
        exact ⟨_, rfl, by show Value.bool _ = Value.bool _; rw [fineM_no (fun hf => by have h1 := hf.id; rw [HT0.out] at h1; cases h1)], HBB.out⟩
      | true =>
        have HT0 := Lib.hid t0
        clear t0
        by_cases t1 : 0 ≤ m.op
        · skip
          by_cases t2 : m.op < 16
          · skip
            by_cases t3 : 0 ≤ m.rcode
            · skip
              by_cases t4 : m.rcode < 16
              · skip
                cases t5 : fitsB m.size 2 with
                | false =>
                  have HT5 := Lib.hid t5
                  clear t5
                  go_wp2_with (first
                    | (go_at_call 88; (with_reducible refine (fits_any m.size 2 wr).mono ?_); rw [HT5.out]; rintro e w4 ⟨rfl, rfl⟩)
                    | (go_at_call 88; (with_reducible refine (fits_any m.id 2 wr).mono ?_); rw [HT0.out]; rintro e w3 ⟨rfl, rfl⟩)
                    | fail)
                  go_ret
                  exact ⟨_, rfl, by show Value.bool _ = Value.bool _; rw [fineM_no (fun hf => by have h1 := hf.size; rw [HT5.out] at h1; cases h1)], HBB.out⟩
                | true =>
                  have HT5 := Lib.hid t5
                  clear t5
                  cases t6 : m.edns with
                  | true =>
                    have HT6 := Lib.hid t6
                    rw [t6] at z12
                    clear t6
                    go_wp2_with (first
                      | (go_at_call 167; refine (hasMq_any (fun q => !fineQ q) s.Q m.qs.length s.qc m.qs wr (HI.out.q.mono HSW.out HSW.out) (by omega) (fun s' x W hx hW hi => mS2_any s' x _ W hi (fun b hb => Nat.lt_of_lt_of_le hb hW.size) (HL.out.qn x hx))).mono ?_; rintro e w5 ⟨v5, rfl, rfl, hb5⟩)
                      | (go_at_call 88; (with_reducible refine (fits_any m.size 2 wr).mono ?_); rw [HT5.out]; rintro e w4 ⟨rfl, rfl⟩)
                      | (go_at_call 88; (with_reducible refine (fits_any m.id 2 wr).mono ?_); rw [HT0.out]; rintro e w3 ⟨rfl, rfl⟩)
                      | fail)
                    go_ret
                    exact ⟨_, rfl, by show Value.bool _ = Value.bool _; rw [ms_last H512.out HT0.out t1 t2 t3 t4 HT5.out (.inl HT6.out) HF.out], nx HBB.out hb5⟩
                  | false =>
                    have HT6 := Lib.hid t6
                    rw [t6] at z12
                    clear t6
                    by_cases t7 : m.size = 0
                    · have HT7 := Lib.hid t7
                      rw [t7] at z13
                      have HZ5 : Hid (fitsB 0 2 = true) := rfl
                      clear t7
                      go_wp2_with (first
                        | (go_at_call 167; refine (hasMq_any (fun q => !fineQ q) s.Q m.qs.length s.qc m.qs wr (HI.out.q.mono HSW.out HSW.out) (by omega) (fun s' x W hx hW hi => mS2_any s' x _ W hi (fun b hb => Nat.lt_of_lt_of_le hb hW.size) (HL.out.qn x hx))).mono ?_; rintro e w5 ⟨v5, rfl, rfl, hb5⟩)
                        | (go_at_call 88; (with_reducible refine (fits_any 0 2 wr).mono ?_); rw [HZ5.out]; rintro e w4 ⟨rfl, rfl⟩)
                        | (go_at_call 88; (with_reducible refine (fits_any m.id 2 wr).mono ?_); rw [HT0.out]; rintro e w3 ⟨rfl, rfl⟩)
                        | fail)
                      go_ret
                      exact ⟨_, rfl, by show Value.bool _ = Value.bool _; rw [ms_last H512.out HT0.out t1 t2 t3 t4 HT5.out (.inr HT7.out) HF.out], nx HBB.out hb5⟩
                    · have t7b : (m.size == 0) = false := by rw [beq_eq_false_iff_ne]; exact t7
                      go_wp2_with (first
                        | (go_at_call 88; (with_reducible refine (fits_any m.size 2 wr).mono ?_); rw [HT5.out]; rintro e w4 ⟨rfl, rfl⟩)
                        | (go_at_call 88; (with_reducible refine (fits_any m.id 2 wr).mono ?_); rw [HT0.out]; rintro e w3 ⟨rfl, rfl⟩)
                        | fail)
                      go_ret
                      exact ⟨_, rfl, by show Value.bool _ = Value.bool _; rw [fineM_no (fun hf => by have h1 := hf.edns; rw [HT6.out] at h1; exact h1.elim (fun h => by cases h) t7)], HBB.out⟩
              · skip
                go_wp2_with (first
                  | (go_at_call 88; (with_reducible refine (fits_any m.id 2 wr).mono ?_); rw [HT0.out]; rintro e w3 ⟨rfl, rfl⟩)
                  | fail)
                go_ret
                exact ⟨_, rfl, by show Value.bool _ = Value.bool _; rw [fineM_no (fun hf => by have := hf.rc; omega)], HBB.out⟩
            · skip
              go_wp2_with (first
                | (go_at_call 88; (with_reducible refine (fits_any m.id 2 wr).mono ?_); rw [HT0.out]; rintro e w3 ⟨rfl, rfl⟩)
                | fail)
              go_ret
              exact ⟨_, rfl, by show Value.bool _ = Value.bool _; rw [fineM_no (fun hf => by have := hf.rc0; omega)], HBB.out⟩
          · skip
            go_wp2_with (first
              | (go_at_call 88; (with_reducible refine (fits_any m.id 2 wr).mono ?_); rw [HT0.out]; rintro e w3 ⟨rfl, rfl⟩)
              | fail)
            go_ret
            exact ⟨_, rfl, by show Value.bool _ = Value.bool _; rw [fineM_no (fun hf => by have := hf.op; omega)], HBB.out⟩
        · skip
          go_wp2_with (first
            | (go_at_call 88; (with_reducible refine (fits_any m.id 2 wr).mono ?_); rw [HT0.out]; rintro e w3 ⟨rfl, rfl⟩)
            | fail)
          go_ret
          exact ⟨_, rfl, by show Value.bool _ = Value.bool _; rw [fineM_no (fun hf => by have := hf.op0; omega)], HBB.out⟩
end Go.Proofs.Ytimkdpkhdbiniaa

/- Messages: how much is written of one. No program in it. -/
namespace Go.Proofs.Ytimkdpkhdbiniaa
open Go.RowKit
set_option maxRecDepth 100000

end Go.Proofs.Ytimkdpkhdbiniaa
