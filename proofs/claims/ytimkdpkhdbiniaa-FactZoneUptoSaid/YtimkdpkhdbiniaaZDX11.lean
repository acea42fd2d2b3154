/- Parts of a proof, joined: NamesA. -/
import Derived.Test.YtimkdpkhdbiniaaZDF01
import Derived.Test.YtimkdpkhdbiniaaZDM05
import Derived.Test.YtimkdpkhdbiniaaZDX3
import Derived.Test.YtimkdpkhdbiniaaZDM03
/- rr.Names' program half, over IdxA (printed by gen/namesa.py). -/
namespace Go.Proofs.Ytimkdpkhdbiniaa
open Go.RowKit
set_option maxRecDepth 100000



set_option maxHeartbeats 1000000 in
theorem indexQNm_any (q0 : Nat) (p : Qu → Bool) (A : Option Addr) (n c : Nat) (xs : List Qu) (w : World) (h : RdE encQu w A n xs) (hn : n ≤ 1000000000)
    (hf : ∀ (s : QS) (x : Qu) (W : World), Below w.heap.size w W → QIn (ltS w) W s x → Calls Try.prog 173 #[quV s x, .pointer (some ⟨q0, 0, none⟩)] W (RetP (fun v _ => v = .bool (p x)) W)) :
    Calls Try.prog 191 #[.slice A n c, .func (.func 173) #[] #[.pointer (some ⟨q0, 0, none⟩)]] w (RetP (fun v _ => ∃ i : Int, v = .int .i64 i ∧ (0 ≤ i ↔ xs.any p = true)) w) := by
  have hl := h.len
  subst hl
  have H := Lib.hid h
  have HF := Lib.hid hf
  clear h hf
  go_enter Try.func191, Try.ntmps191
  go_wp2
  go_loopw [5, 8] (fun _ iv wr => ∃ k : Nat, iv = .int .i64 k ∧ k ≤ xs.length ∧ Hid ((xs.take k).any p = false) ∧ Hid (Below w.heap.size w wr)) (fun _ iv _ => xs.length - (intOf iv).toNat)
  case atStart => exact ⟨0, rfl, Nat.zero_le _, rfl, bl⟩
  case round =>
    obtain ⟨k, rfl, hk, HK, HBW⟩ := hrel
    by_cases hlt : k < xs.length
    · obtain ⟨x, hx⟩ : ∃ x, xs[k]? = some x := ⟨_, List.getElem?_eq_getElem hlt⟩
      obtain ⟨b, off, s, rfl, _, hd, hc⟩ := qu_at H.out hx
      obtain ⟨d0, d1, d2⟩ := hc.below HBW.out
      have hq := HF.out s x wr HBW.out (hd.below HBW.out (fun b hb => hb))
      have HX := Lib.hid hx
      unfold quV at hq
      clear hx hd hc
      cases hp : p x with
      | false =>
        rw [hp] at hq
        have HQ := Lib.hid hq
        have HP := Lib.hid hp
        clear hq hp
        go_wp2_with (go_at_call 173; refine HQ.out.mono ?_; rintro e w1 ⟨v1, rfl, rfl, hb1⟩)
        go_roundw
        case rel => exact ⟨k + 1, by go_num, by omega, any_take_succ HX.out HK.out HP.out, nx HBW.out hb1⟩
        case measure => simp [intOf]; omega
      | true =>
        rw [hp] at hq
        have HQ := Lib.hid hq
        have HP := Lib.hid hp
        clear hq hp
        go_wp2_with (go_at_call 173; refine HQ.out.mono ?_; rintro e w1 ⟨v1, rfl, rfl, hb1⟩)
        go_ret
        exact ⟨_, rfl, ⟨_, rfl, ⟨fun _ => List.any_eq_true.2 ⟨x, List.mem_of_getElem? HX.out, HP.out⟩, fun _ => Int.natCast_nonneg _⟩⟩, nx HBW.out hb1⟩
    · obtain rfl : k = xs.length := by omega
      rw [List.take_length] at HK
      go_wp2
      go_ret
      exact ⟨_, rfl, ⟨-1, rfl, ⟨fun h => absurd h (by decide), fun h => by rw [HK.out] at h; cases h⟩⟩, HBW.out⟩
theorem hasQNm_any (q0 : Nat) (p : Qu → Bool) (A : Option Addr) (n c : Nat) (xs : List Qu) (w : World) (h : RdE encQu w A n xs) (hn : n ≤ 1000000000)
    (hf : ∀ (s : QS) (x : Qu) (W : World), Below w.heap.size w W → QIn (ltS w) W s x → Calls Try.prog 173 #[quV s x, .pointer (some ⟨q0, 0, none⟩)] W (RetP (fun v _ => v = .bool (p x)) W)) :
    Calls Try.prog 167 #[.slice A n c, .func (.func 173) #[] #[.pointer (some ⟨q0, 0, none⟩)]] w (RetP (fun v _ => v = .bool (xs.any p)) w) := by
  have HQ := Lib.hid (indexQNm_any q0 p A n c xs w h hn hf)
  clear h hf
  go_enter Try.func167, Try.ntmps167
  go_wp2_with (go_at_call 191; refine HQ.out.mono ?_; rintro e w1 ⟨v1, rfl, ⟨i, rfl, hi⟩, hb1⟩; have HI := Lib.hid hi; clear hi)
  go_ret
  refine ⟨_, rfl, ?_, hb1⟩
  show Value.bool _ = Value.bool _
  congr 1
  rw [Bool.eq_iff_iff, decide_eq_true_iff, HI.out]


/-- Does a question ask for a record's name and type? -/
def asksQ (r : RR) (q : Qu) : Bool := decide (q.type = r.type) && decide (lowN q.name = lowN r.name)
def stepN (out : List Qu) (r : RR) : List Qu := if decide (r.cls = 1) && !(out.any (asksQ r)) then out ++ [⟨r.name, r.type, 1⟩] else out
/-- The names and types of records. -/
def namesP (l : List RR) : List Qu := l.foldl stepN []
theorem namesP_take {l : List RR} {j : Nat} {r : RR} (h : l[j]? = some r) : namesP (l.take (j + 1)) = stepN (namesP (l.take j)) r := by
  unfold namesP
  rw [List.take_add_one, h, Option.toList_some, List.foldl_append]
  rfl
theorem namesP_snoc (l : List RR) (r : RR) : namesP (l ++ [r]) = stepN (namesP l) r := by unfold namesP; rw [List.foldl_append]; rfl
theorem namesP_len (l : List RR) : (namesP l).length ≤ l.length := by
  refine snoc_ind (P := fun l => (namesP l).length ≤ l.length) (Nat.le_refl _) (fun l r ih => ?_) l
  rw [namesP_snoc]
  unfold stepN
  split
  · simp only [List.length_append, List.length_singleton]; omega
  · simp only [List.length_append, List.length_singleton]; omega
theorem namesP_mem (l : List RR) : ∀ q, q ∈ namesP l → ∃ r, r ∈ l ∧ r.cls = 1 ∧ q = ⟨r.name, r.type, 1⟩ := by
  refine snoc_ind (P := fun l => ∀ q, q ∈ namesP l → ∃ r, r ∈ l ∧ r.cls = 1 ∧ q = ⟨r.name, r.type, 1⟩) (fun q hq => absurd hq List.not_mem_nil) (fun l r ih q hq => ?_) l
  rw [namesP_snoc] at hq
  have old : q ∈ namesP l → ∃ x, x ∈ l ++ [r] ∧ x.cls = 1 ∧ q = ⟨x.name, x.type, 1⟩ := fun h => by
    obtain ⟨x, hx, h1, h2⟩ := ih q h
    exact ⟨x, List.mem_append_left _ hx, h1, h2⟩
  unfold stepN at hq
  split at hq
  · rename_i hc
    rcases List.mem_append.1 hq with h1 | h1
    · exact old h1
    · rw [Bool.and_eq_true, decide_eq_true_eq] at hc
      exact ⟨r, List.mem_append_right _ (List.mem_singleton.2 rfl), hc.1, List.mem_singleton.1 h1⟩
  · exact old hq


set_option maxHeartbeats 2000000 in
theorem namesC_any (q0 : Nat) (t : RS) (r : RR) (s : QS) (x : Qu) (S1 S2 : Nat → Prop) (w : World) (hq : RRow w q0 t r) (hr : RIn S1 w t r) (h1 : ∀ b, S1 b → b < w.heap.size) (hx : QIn S2 w s x) (h2 : ∀ b, S2 b → b < w.heap.size) :
    Calls Try.prog 173 #[quV s x, .pointer (some ⟨q0, 0, none⟩)] w (RetP (fun v _ => v = .bool (asksQ r x)) w) := by
  unfold quV
  obtain ⟨w1, hw1⟩ : ∃ w1, w1 = w.alloc (.cells #[.slice s.A x.name.length s.c, .int .i64 x.type, .int .i64 x.cls] 25) := ⟨_, rfl⟩
  have hb1 : Below w.heap.size w w1 := by rw [hw1]; exact bl.alloc (Nat.le_refl _) _
  have HB1 := Lib.hid hb1
  have a0 : w1.cell? ⟨w.heap.size, 0, none⟩ = some (.slice s.A x.name.length s.c) := by rw [hw1]; exact new_cell w _ _ 0
  have a1 : w1.cell? ⟨w.heap.size, 1, none⟩ = some (.int .i64 x.type) := by rw [hw1]; exact new_cell w _ _ 1
  obtain ⟨b0, b1, _, _, _, _, _, _, _⟩ := (hq.below hb1).cells
  have hn1 : RdE encS w s.A x.name.length x.name := hx.n.mono h2 h2
  have hn2 : RdE encS w t.A r.name.length r.name := hr.n.mono h1 h1
  have HN1 := Lib.hid (RdE.below hn1 hb1)
  have HN2 := Lib.hid (RdE.below hn2 hb1)
  have HL1 := Lib.hid (Nat.le_trans hx.cn.1 hx.cn.2)
  have HL2 := Lib.hid (Nat.le_trans hr.cn.1 hr.cn.2)
  clear hq hr hx h1 h2 hb1 hn1 hn2
  go_enter Try.func173, Try.ntmps173
  go_upto_region 1 with (fail)
  rw [← hw1]
  clear hw1
  by_cases ht : x.type = r.type
  · have HA : Hid (decide (lowN x.name = lowN r.name) = asksQ r x) := by show _ = _; unfold asksQ; rw [decide_eq_true ht]; rfl
    go_wp2_with (go_at_call 55; refine (nequal_any s.A t.A x.name.length s.c r.name.length t.c x.name r.name w1 HN1.out HN2.out HL1.out HL2.out).mono ?_; rw [HA.out]; rintro e w2 ⟨v2, rfl, rfl, hb2⟩)
    go_ret
    exact ⟨_, rfl, rfl, nx HB1.out hb2⟩
  · have HA : Hid (asksQ r x = false) := by show _ = _; unfold asksQ; rw [decide_eq_false ht]; rfl
    go_wp2
    go_ret
    exact ⟨_, rfl, congrArg Value.bool HA.out.symm, HB1.out⟩
set_option maxHeartbeats 8000000 in
theorem pnames_any (A : Option Addr) (n c : Nat) (xs : List RR) (w : World) (h : RdE encRR w A n xs) (hn : n ≤ 1000000) (hL : ∀ r ∈ xs, Light9 r) :
    Calls Try.prog 125 #[.slice A n c] w (RetP (fun v w' => NewE encQu 25 w.heap.size w' v (namesP xs)) w) := by
  have hl := h.len
  subst hl
  have H := Lib.hid h
  have HL := Lib.hid hL
  clear h hL
  go_enter Try.func125, Try.ntmps125
  go_wp2
  go_loopw [3, 9] (fun sv iv wr => ∃ k : Nat, iv = .int .i64 k ∧ k ≤ xs.length ∧ Hid (NewE encQu 25 w.heap.size wr sv (namesP (xs.take k))) ∧ Hid (Below w.heap.size w wr)) (fun _ iv _ => xs.length - (intOf iv).toNat)
  case atStart => exact ⟨0, rfl, Nat.zero_le _, NewE.nil _ _ _ _, bl⟩
  case round =>
    obtain ⟨k, rfl, hk, HOWN, HBW⟩ := hrel
    by_cases hlt : k < xs.length
    · obtain ⟨r, hr⟩ : ∃ r, xs[k]? = some r := ⟨_, List.getElem?_eq_getElem hlt⟩
      have HLR := Lib.hid (HL.out r (List.mem_of_getElem? hr))
      obtain ⟨b, off, s, hA, hb0, hri, hrc⟩ := rr_at H.out hr
      have HEQ := Lib.hid (namesP_take hr)
      have HRI : Hid (RIn (ltS w) wr s r) := hri.below HBW.out (fun b hb => hb)
      have hAA := Lib.hid hA
      rw [hA]
      have HPL : Hid ((namesP (xs.take k)).length ≤ k) := by show _ ≤ _; have h1 := namesP_len (xs.take k); rw [List.length_take] at h1; omega
      obtain ⟨d0, d1, d2, d3, d4, d5, d6, d7, d8⟩ := hrc.below HBW.out
      obtain ⟨w1, hw1⟩ : ∃ w1, w1 = wr.alloc (.cells #[.slice s.A r.name.length s.c, .int .i64 r.type, .int .i64 r.cls, .int .i64 r.ttl, .slice s.d.A0 r.data.bytes.length s.d.c0, .slice s.d.A1 r.data.host.length s.d.c1, .slice s.d.A2 r.data.mail.length s.d.c2, .slice s.d.A3 r.data.nums.length s.d.c3, .slice s.d.A4 r.data.texts.length s.d.c4] 84) := ⟨_, rfl⟩
      have hb1 : Below wr.heap.size wr w1 := by rw [hw1]; exact bl.alloc (Nat.le_refl _) _
      have HR1 : Hid (RRow w1 wr.heap.size s r) := by show RRow _ _ _ _; rw [hw1]; exact heap_alloc_new wr _
      have HB1 := Lib.hid hb1
      clear hr hri hrc hA hb0 hb1
      generalize namesP (xs.take k) = out at HOWN HEQ HPL ⊢
      go_upto_region 6 with (fail)
      rw [← hw1]
      clear hw1 d0 d1 d2 d3 d4 d5 d6 d7 d8
      obtain ⟨x0, x1, x2, x3, x4, x5, x6, x7, x8⟩ := HR1.out.cells
      have HW1 := Lib.hid (nx HBW.out HB1.out)
      have HLS : Hid (∀ b, ltS w b → b < w1.heap.size) := fun b (hb : b < w.heap.size) => Nat.lt_of_lt_of_le hb HW1.out.size
      have HI1 : Hid (RIn (ltS w) w1 s r) := HRI.out.below HB1.out (fun b (hb : b < w.heap.size) => Nat.lt_of_lt_of_le hb HBW.out.size)
      by_cases hc : r.cls = 1
      · obtain ⟨B, kb, hsv, hrb, _, _⟩ := HOWN.out.rdE
        have HRB := Lib.hid (hrb.below HB1.out)
        subst hsv
        have HF := Lib.hid (hasQNm_any wr.heap.size (asksQ r) B _ kb out w1 HRB.out (by have := HPL.out; omega) (fun t x W hW hx => namesC_any wr.heap.size s r t x (ltS w) (ltS w1) W (HR1.out.below hW) (HI1.out.below hW HLS.out) (fun b hb => Nat.lt_of_lt_of_le (HLS.out b hb) hW.size) hx (fun b hb => Nat.lt_of_lt_of_le hb hW.size)))
        clear hrb
        cases ha : out.any (asksQ r) with
        | true =>
          rw [ha] at HF
          have HNO : Hid (stepN out r = out) := by show _ = _; unfold stepN; rw [decide_eq_true hc, ha]; rfl
          clear ha
          go_wp2_with (go_at_call 167; refine HF.out.mono ?_; rintro e w2 ⟨v2, rfl, rfl, hb2⟩)
          go_roundw
          case rel => exact ⟨k + 1, by go_num, by omega, by rw [HEQ.out, HNO.out]; exact HOWN.out.below (nx HB1.out hb2), nx HW1.out hb2⟩
          case measure => simp [intOf]; omega
        | false =>
          rw [ha] at HF
          have HNO : Hid (stepN out r = out ++ [⟨r.name, r.type, 1⟩]) := by show _ = _; unfold stepN; rw [decide_eq_true hc, ha]; rfl
          clear ha
          go_upto_region 7 with (go_at_call 167; refine HF.out.mono ?_; rintro e w2 ⟨v2, rfl, rfl, hb2⟩)
          have HB2 := Lib.hid (nx HB1.out hb2)
          have HW2 := Lib.hid (nx HW1.out hb2)
          have HR2 := Lib.hid (HR1.out.below hb2)
          have HI2 := Lib.hid (HI1.out.below hb2 HLS.out)
          clear x0 x1 x2 x3 x4 x5 x6 x7 x8 hb2
          have HN2 : Hid (Els encS (ltS w) (ltS w) w2.drew s.A r.name.length r.name) := HI2.out.n.keep (fun b hb => rfl) (fun b hb => rfl)
          have HNL : Hid (r.name.length ≤ 8796093022208) := by show _ ≤ _; have := HLR.out.1; omega
          have z0 := And.intro HR2.out.cells.1 HR2.out.cells.2.1
          have z1 := And.intro (HR2.out.below bl.drew).cells.1 (HR2.out.below bl.drew).cells.2.1
          go_region_held3 (fun w' => w'.cell? ⟨wr.heap.size, 0, none⟩ = some (.slice s.A r.name.length s.c) ∧ w'.cell? ⟨wr.heap.size, 1, none⟩ = some (.int .i64 r.type))
            (first
              | with_reducible exact z0
              | with_reducible exact z1
              | with_reducible exact z2
              | with_reducible exact z3
              | with_reducible exact z4
              | fail)
            (first
              | (refine step_pushE elQu (by rfl) (.tmp 23) (.tmp 30) (by rfl) w.heap.size (.slice B out.length kb) out (by rfl) hown _ ⟨r.name, r.type, 1⟩ hrow hS3 (by rfl) (by omega) (by unfold maxLen; omega) hbase3 ?_ (by rfl); intro v5 w5 hown5 hg5 hat5; have hc5 : Chg (fun b => (Value.slice B out.length kb).ownBlock = some b) w3 w5 := (Chg.refl _ _).grown hg5 (fun k hk => .inl hk); have hR3 := (HR2.out.below bl.drew).below hb3; have hR5 : RRow w5 wr.heap.size s r := (hc5.block _ hR3.lt (fun h => by have h1 := (hlto _ h).2; omega)).trans hR3; have z4 := And.intro hR5.cells.1 hR5.cells.2.1)
              | (go_at_call 81; refine (cloneS_any s.A r.name.length s.c r.name w2.drew HN2.out HNL.out).mono ?_; rintro e w3 ⟨v3, rfl, ho3, hb3⟩; have z2 := And.intro ((HR2.out.below bl.drew).below hb3).cells.1 ((HR2.out.below bl.drew).below hb3).cells.2.1; obtain ⟨A3, c3, rfl, hel3, hl3, hm3⟩ := OwnE.form ho3; have z3 := And.intro (below_cell (bl.alloc (Nat.le_refl _) (.cells #[.slice A3 r.name.length c3, .int .i64 r.type, .int .i64 1] 25)) z2.1) (below_cell (bl.alloc (Nat.le_refl _) (.cells #[.slice A3 r.name.length c3, .int .i64 r.type, .int .i64 1] 25)) z2.2); have HB3 := Lib.hid (nx HB2.out (bl.drew.trans hb3)); obtain ⟨S0, hoS, hSS⟩ := HOWN.out; have hown := OwnE.below hoS HB3.out; have hlto := hoS.lt; have hrow : encQu.R (geS w2.heap.size w3) w3 [.slice A3 r.name.length c3, .int .i64 r.type, .int .i64 1] ⟨r.name, r.type, 1⟩ := ⟨A3, c3, rfl, (ownE_els ho3 rfl).1, (ownE_els ho3 rfl).2, HI2.out.it, ⟨show (-9223372036854775808 : Int) ≤ 1 by decide, show (1 : Int) ≤ 9223372036854775807 by decide⟩⟩; have hpl := HPL.out; have hz3 : wr.heap.size ≤ w2.heap.size := HB2.out.size; have hbase3 : w.heap.size ≤ w3.heap.size := Nat.le_trans HBW.out.size HB3.out.size; have hS3 : ∀ b, geS w2.heap.size w3 b → b < w3.heap.size ∧ some b ≠ (Value.slice B out.length kb).ownBlock := fun b hb => ⟨hb.2, fun he => by have h1 := (hlto b he.symm).2; have h2 := hb.1; omega⟩)
              | fail)
          go_wp2
          go_roundw
          case rel => exact ⟨k + 1, by go_num, by omega, by rw [HEQ.out, HNO.out]; exact ⟨_, hown5, fun b hb => hb.elim (hSS b) (fun h => by have h1 := h.1; have h2 := HBW.out.size; omega)⟩, (nx HBW.out HB3.out).grown hg5 (by omega) (fun j hj => (hown.lt j hj).1)⟩
          case measure => simp [intOf]; omega
      · have HNO : Hid (stepN out r = out) := by show _ = _; unfold stepN; rw [decide_eq_false hc]; rfl
        go_wp2
        go_roundw
        case rel => exact ⟨k + 1, by go_num, by omega, by rw [HEQ.out, HNO.out]; exact HOWN.out.below HB1.out, HW1.out⟩
        case measure => simp [intOf]; omega
    · obtain rfl : k = xs.length := by omega
      rw [List.take_length] at HOWN
      go_wp2
      go_ret
      exact ⟨_, rfl, HOWN.out, HBW.out⟩
end Go.Proofs.Ytimkdpkhdbiniaa
