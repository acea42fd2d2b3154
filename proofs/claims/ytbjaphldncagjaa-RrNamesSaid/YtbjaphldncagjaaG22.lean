/- Parts of a proof, joined: IdxQ, NamesP, NamesW, NamesR, Law05N. -/
import Derived.Test.YtbjaphldncagjaaG19
import Derived.Test.YtbjaphldncagjaaG21
import Derived.Test.YtbjaphldncagjaaG13
import Derived.Test.YtbjaphldncagjaaG17
import Derived.Test.YtbjaphldncagjaaG04
/- slices.IndexFunc and ContainsFunc over questions. -/
namespace Go.Proofs.Ytbjaphldncagjaa
open Go.RowKit
set_option maxRecDepth 100000

/-- Where a question's name leads. -/
structure QS where
  A : Option Addr
  c : Nat
def quV (s : QS) (x : Qu) : Value := .agg #[.slice s.A x.name.length s.c, .int .i64 x.type, .int .i64 x.cls]
structure QIn (S : Nat → Prop) (w : World) (s : QS) (x : Qu) : Prop where
  n : Els encS S S w s.A x.name.length x.name
  cn : x.name.length ≤ s.c ∧ s.c ≤ maxLen
  it : -9223372036854775808 ≤ x.type ∧ x.type ≤ 9223372036854775807
  ic : -9223372036854775808 ≤ x.cls ∧ x.cls ≤ 9223372036854775807
theorem QIn.keep {S : Nat → Prop} {w w' : World} {s : QS} {x : Qu} (hS : ∀ b, S b → w'.heap[b]? = w.heap[b]?) (h : QIn S w s x) : QIn S w' s x := ⟨h.n.keep hS hS, h.cn, h.it, h.ic⟩
theorem QIn.below {S : Nat → Prop} {w w' : World} {s : QS} {x : Qu} (h : QIn S w s x) (hb : Below w.heap.size w w') (hl : ∀ b, S b → b < w.heap.size) : QIn S w' s x := h.keep fun b hbS => hb.block b (hl b hbS)
/-- A question's three cells, at a place. -/
def QCells (w : World) (b p : Nat) (s : QS) (x : Qu) : Prop :=
  w.cell? ⟨b, p, none⟩ = some (.slice s.A x.name.length s.c) ∧ w.cell? ⟨b, p + 1, none⟩ = some (.int .i64 x.type) ∧ w.cell? ⟨b, p + 2, none⟩ = some (.int .i64 x.cls)
theorem QCells.below {w w' : World} {b p : Nat} {s : QS} {x : Qu} (h : QCells w b p s x) (hb : Below w.heap.size w w') : QCells w' b p s x := ⟨below_cell hb h.1, below_cell hb h.2.1, below_cell hb h.2.2⟩
theorem qu_at {So Si : Nat → Prop} {w : World} {A : Option Addr} {n : Nat} {xs : List Qu} (h : Els encQu So Si w A n xs) {k : Nat} {r : Qu} (hx : xs[k]? = some r) :
    ∃ b off s, A = some ⟨b, off, none⟩ ∧ So b ∧ QIn Si w s r ∧ QCells w b (off + k * 3) s r := by
  obtain ⟨b, off, rfl, hb, hat⟩ := Els.flat h (by rw [← h.len]; exact Nat.lt_of_le_of_lt (Nat.zero_le k) (List.getElem?_eq_some_iff.1 hx).1)
  obtain ⟨r', ⟨A1, c1, rfl, h1, h2, h3, h4⟩, hc⟩ := hat k r hx
  refine ⟨b, off, ⟨A1, c1⟩, rfl, hb, ⟨h1, h2, h3, h4⟩, ?_⟩
  have hc' : ∀ j u, ([.slice A1 r.name.length c1, .int .i64 r.type, .int .i64 r.cls] : List Value)[j]? = some u → w.cell? ⟨b, off + k * 3 + j, none⟩ = some u := fun j u hu => by rw [Nat.add_assoc]; exact hc j u hu
  exact ⟨hc' 0 _ rfl, hc' 1 _ rfl, hc' 2 _ rfl⟩

set_option maxHeartbeats 1000000 in
theorem indexQNm_any (q0 : Nat) (p : Qu → Bool) (A : Option Addr) (n c : Nat) (xs : List Qu) (w : World) (h : RdE encQu w A n xs) (hn : n ≤ 1000000000)
    (hf : ∀ (s : QS) (x : Qu) (W : World), Below w.heap.size w W → QIn (ltS w) W s x → Calls Try.prog 97 #[quV s x, .pointer (some ⟨q0, 0, none⟩)] W (RetP (fun v _ => v = .bool (p x)) W)) :
    Calls Try.prog 127 #[.slice A n c, .func (.func 97) #[] #[.pointer (some ⟨q0, 0, none⟩)]] w (RetP (fun v _ => ∃ i : Int, v = .int .i64 i ∧ (0 ≤ i ↔ xs.any p = true)) w) := by
  have hl := h.len
  subst hl
  have H := Lib.hid h
  have HF := Lib.hid hf
  clear h hf
  go_enter Try.func127, Try.ntmps127
  go_wp2
  go_loopw [5, 8] (fun _ iv wr => ∃ k : Nat, iv = .int .i64 k ∧ k ≤ xs.length ∧ Hid ((xs.take k).any p = false) ∧ Hid (Below w.heap.size w wr)) (fun _ iv _ => xs.length - (intOf iv).toNat)
  case atStart => exact ⟨0, rfl, Nat.zero_le _, rfl, bl⟩
  case round =>
    obtain ⟨k, rfl, hk, HK, HBW⟩ := hrel
    by_cases hlt : k < xs.length
    · obtain ⟨x, hx⟩ : ∃ x, xs[k]? = some x := ⟨_, List.getElem?_eq_getElem hlt⟩
      obtain ⟨b, off, s, rfl, _, hd, hc⟩ := qu_at H.out hx
      obtain ⟨d0, d1, d2⟩ := hc.below HBW.out
      have hq := HF.out s x wr HBW.out (hd.below HBW.out (fun b hb => hb))
      have HX := Lib.hid hx
      unfold quV at hq
      clear hx hd hc
      cases hp : p x with
      | false =>
        rw [hp] at hq
        have HQ := Lib.hid hq
        have HP := Lib.hid hp
        clear hq hp
        go_wp2_with (go_at_call 97; refine HQ.out.mono ?_; rintro e w1 ⟨v1, rfl, rfl, hb1⟩)
        go_roundw
        case rel => exact ⟨k + 1, by go_num, by omega, any_take_succ HX.out HK.out HP.out, nx HBW.out hb1⟩
        case measure => simp [intOf]; omega
      | true =>
        rw [hp] at hq
        have HQ := Lib.hid hq
        have HP := Lib.hid hp
        clear hq hp
        go_wp2_with (go_at_call 97; refine HQ.out.mono ?_; rintro e w1 ⟨v1, rfl, rfl, hb1⟩)
        go_ret
        exact ⟨_, rfl, ⟨_, rfl, ⟨fun _ => List.any_eq_true.2 ⟨x, List.mem_of_getElem? HX.out, HP.out⟩, fun _ => Int.natCast_nonneg _⟩⟩, nx HBW.out hb1⟩
    · obtain rfl : k = xs.length := by omega
      rw [List.take_length] at HK
      go_wp2
      go_ret
      exact ⟨_, rfl, ⟨-1, rfl, ⟨fun h => absurd h (by decide), fun h => by rw [HK.out] at h; cases h⟩⟩, HBW.out⟩
theorem hasQNm_any (q0 : Nat) (p : Qu → Bool) (A : Option Addr) (n c : Nat) (xs : List Qu) (w : World) (h : RdE encQu w A n xs) (hn : n ≤ 1000000000)
    (hf : ∀ (s : QS) (x : Qu) (W : World), Below w.heap.size w W → QIn (ltS w) W s x → Calls Try.prog 97 #[quV s x, .pointer (some ⟨q0, 0, none⟩)] W (RetP (fun v _ => v = .bool (p x)) W)) :
    Calls Try.prog 83 #[.slice A n c, .func (.func 97) #[] #[.pointer (some ⟨q0, 0, none⟩)]] w (RetP (fun v _ => v = .bool (xs.any p)) w) := by
  have HQ := Lib.hid (indexQNm_any q0 p A n c xs w h hn hf)
  clear h hf
  go_enter Try.func83, Try.ntmps83
  go_wp2_with (go_at_call 127; refine HQ.out.mono ?_; rintro e w1 ⟨v1, rfl, ⟨i, rfl, hi⟩, hb1⟩; have HI := Lib.hid hi; clear hi)
  go_ret
  refine ⟨_, rfl, ?_, hb1⟩
  show Value.bool _ = Value.bool _
  congr 1
  rw [Bool.eq_iff_iff, decide_eq_true_iff, HI.out]
end Go.Proofs.Ytbjaphldncagjaa

/- rr.Names: the names and types that records say something of; in plain Lean, and the closure that looks for one. -/
namespace Go.Proofs.Ytbjaphldncagjaa
open Go.RowKit
set_option maxRecDepth 100000

/-- Does a question ask for a record's name and type? -/
def asksQ (r : RR) (q : Qu) : Bool := decide (q.type = r.type) && decide (lowN q.name = lowN r.name)
def stepN (out : List Qu) (r : RR) : List Qu := if decide (r.cls = 1) && !(out.any (asksQ r)) then out ++ [⟨r.name, r.type, 1⟩] else out
/-- The names and types of records. -/
def namesP (l : List RR) : List Qu := l.foldl stepN []
theorem namesP_take {l : List RR} {j : Nat} {r : RR} (h : l[j]? = some r) : namesP (l.take (j + 1)) = stepN (namesP (l.take j)) r := by
  unfold namesP
  rw [List.take_add_one, h, Option.toList_some, List.foldl_append]
  rfl
theorem namesP_snoc (l : List RR) (r : RR) : namesP (l ++ [r]) = stepN (namesP l) r := by unfold namesP; rw [List.foldl_append]; rfl
theorem namesP_len (l : List RR) : (namesP l).length ≤ l.length := by
  refine snoc_ind (P := fun l => (namesP l).length ≤ l.length) (Nat.le_refl _) (fun l r ih => ?_) l
  rw [namesP_snoc]
  unfold stepN
  split
  · simp only [List.length_append, List.length_singleton]; omega
  · simp only [List.length_append, List.length_singleton]; omega
theorem namesP_mem (l : List RR) : ∀ q, q ∈ namesP l → ∃ r, r ∈ l ∧ r.cls = 1 ∧ q = ⟨r.name, r.type, 1⟩ := by
  refine snoc_ind (P := fun l => ∀ q, q ∈ namesP l → ∃ r, r ∈ l ∧ r.cls = 1 ∧ q = ⟨r.name, r.type, 1⟩) (fun q hq => absurd hq List.not_mem_nil) (fun l r ih q hq => ?_) l
  rw [namesP_snoc] at hq
  have old : q ∈ namesP l → ∃ x, x ∈ l ++ [r] ∧ x.cls = 1 ∧ q = ⟨x.name, x.type, 1⟩ := fun h => by
    obtain ⟨x, hx, h1, h2⟩ := ih q h
    exact ⟨x, List.mem_append_left _ hx, h1, h2⟩
  unfold stepN at hq
  split at hq
  · rename_i hc
    rcases List.mem_append.1 hq with h1 | h1
    · exact old h1
    · rw [Bool.and_eq_true, decide_eq_true_eq] at hc
      exact ⟨r, List.mem_append_right _ (List.mem_singleton.2 rfl), hc.1, List.mem_singleton.1 h1⟩
  · exact old hq
theorem namesP_set (l : List RR) {q : Qu} (h : q ∈ namesP l) : (setP l q.name q.type).1 ≠ [] := by
  obtain ⟨r, hr, hc, rfl⟩ := namesP_mem l q h
  intro he
  have h1 := (setP_ok l r.name r.type).all r hr (by unfold isR; simp [hc])
  rw [he] at h1
  cases h1
end Go.Proofs.Ytbjaphldncagjaa

/- rr.Names: the closure that looks for a name and a type. -/
namespace Go.Proofs.Ytbjaphldncagjaa
open Go.RowKit
set_option maxRecDepth 100000

set_option maxHeartbeats 2000000 in
theorem namesC_any (q0 : Nat) (t : RS) (r : RR) (s : QS) (x : Qu) (S1 S2 : Nat → Prop) (w : World) (hq : RRow w q0 t r) (hr : RIn S1 w t r) (h1 : ∀ b, S1 b → b < w.heap.size) (hx : QIn S2 w s x) (h2 : ∀ b, S2 b → b < w.heap.size) :
    Calls Try.prog 97 #[quV s x, .pointer (some ⟨q0, 0, none⟩)] w (RetP (fun v _ => v = .bool (asksQ r x)) w) := by
  unfold quV
  obtain ⟨w1, hw1⟩ : ∃ w1, w1 = w.alloc (.cells #[.slice s.A x.name.length s.c, .int .i64 x.type, .int .i64 x.cls] 42) := ⟨_, rfl⟩
  have hb1 : Below w.heap.size w w1 := by rw [hw1]; exact bl.alloc (Nat.le_refl _) _
  have HB1 := Lib.hid hb1
  have a0 : w1.cell? ⟨w.heap.size, 0, none⟩ = some (.slice s.A x.name.length s.c) := by rw [hw1]; exact new_cell w _ _ 0
  have a1 : w1.cell? ⟨w.heap.size, 1, none⟩ = some (.int .i64 x.type) := by rw [hw1]; exact new_cell w _ _ 1
  obtain ⟨b0, b1, _, _, _, _, _, _, _⟩ := (hq.below hb1).cells
  have hn1 : RdE encS w s.A x.name.length x.name := hx.n.mono h2 h2
  have hn2 : RdE encS w t.A r.name.length r.name := hr.n.mono h1 h1
  have HN1 := Lib.hid (RdE.below hn1 hb1)
  have HN2 := Lib.hid (RdE.below hn2 hb1)
  have HL1 := Lib.hid (Nat.le_trans hx.cn.1 hx.cn.2)
  have HL2 := Lib.hid (Nat.le_trans hr.cn.1 hr.cn.2)
  clear hq hr hx h1 h2 hb1 hn1 hn2
  go_enter Try.func97, Try.ntmps97
  go_upto_region 1 with (fail)
  rw [← hw1]
  clear hw1
  by_cases ht : x.type = r.type
  · have HA : Hid (decide (lowN x.name = lowN r.name) = asksQ r x) := by show _ = _; unfold asksQ; rw [decide_eq_true ht]; rfl
    go_wp2_with (go_at_call 89; refine (nequal_any s.A t.A x.name.length s.c r.name.length t.c x.name r.name w1 HN1.out HN2.out HL1.out HL2.out).mono ?_; rw [HA.out]; rintro e w2 ⟨v2, rfl, rfl, hb2⟩)
    go_ret
    exact ⟨_, rfl, rfl, nx HB1.out hb2⟩
  · have HA : Hid (asksQ r x = false) := by show _ = _; unfold asksQ; rw [decide_eq_false ht]; rfl
    go_wp2
    go_ret
    exact ⟨_, rfl, congrArg Value.bool HA.out.symm, HB1.out⟩
theorem elQu : ElT Try.prog 30 42 encQu 40 := ElT.mk Try.underlying30 (.agg #[.slice none 0 0, .int .i64 0, .int .i64 0]) 3 (by kernel_rfl) rfl rfl
set_option maxHeartbeats 8000000 in
theorem pnames_any (A : Option Addr) (n c : Nat) (xs : List RR) (w : World) (h : RdE encRR w A n xs) (hn : n ≤ 1000000) (hL : ∀ r ∈ xs, Light9 r) :
    Calls Try.prog 43 #[.slice A n c] w (RetP (fun v w' => NewE encQu 42 w.heap.size w' v (namesP xs)) w) := by
  have hl := h.len
  subst hl
  have H := Lib.hid h
  have HL := Lib.hid hL
  clear h hL
  go_enter Try.func43, Try.ntmps43
  go_wp2
  go_loopw [3, 9] (fun sv iv wr => ∃ k : Nat, iv = .int .i64 k ∧ k ≤ xs.length ∧ Hid (NewE encQu 42 w.heap.size wr sv (namesP (xs.take k))) ∧ Hid (Below w.heap.size w wr)) (fun _ iv _ => xs.length - (intOf iv).toNat)
  case atStart => exact ⟨0, rfl, Nat.zero_le _, NewE.nil _ _ _ _, bl⟩
  case round =>
    obtain ⟨k, rfl, hk, HOWN, HBW⟩ := hrel
    by_cases hlt : k < xs.length
    · obtain ⟨r, hr⟩ : ∃ r, xs[k]? = some r := ⟨_, List.getElem?_eq_getElem hlt⟩
      have HLR := Lib.hid (HL.out r (List.mem_of_getElem? hr))
      obtain ⟨b, off, s, hA, hb0, hri, hrc⟩ := rr_at H.out hr
      have HEQ := Lib.hid (namesP_take hr)
      have HRI : Hid (RIn (ltS w) wr s r) := hri.below HBW.out (fun b hb => hb)
      have hAA := Lib.hid hA
      rw [hA]
      have HPL : Hid ((namesP (xs.take k)).length ≤ k) := by show _ ≤ _; have h1 := namesP_len (xs.take k); rw [List.length_take] at h1; omega
      obtain ⟨d0, d1, d2, d3, d4, d5, d6, d7, d8⟩ := hrc.below HBW.out
      obtain ⟨w1, hw1⟩ : ∃ w1, w1 = wr.alloc (.cells #[.slice s.A r.name.length s.c, .int .i64 r.type, .int .i64 r.cls, .int .i64 r.ttl, .slice s.d.A0 r.data.bytes.length s.d.c0, .slice s.d.A1 r.data.host.length s.d.c1, .slice s.d.A2 r.data.mail.length s.d.c2, .slice s.d.A3 r.data.nums.length s.d.c3, .slice s.d.A4 r.data.texts.length s.d.c4] 48) := ⟨_, rfl⟩
      have hb1 : Below wr.heap.size wr w1 := by rw [hw1]; exact bl.alloc (Nat.le_refl _) _
      have HR1 : Hid (RRow w1 wr.heap.size s r) := by show RRow _ _ _ _; rw [hw1]; exact heap_alloc_new wr _
      have HB1 := Lib.hid hb1
      clear hr hri hrc hA hb0 hb1
      generalize namesP (xs.take k) = out at HOWN HEQ HPL ⊢
      go_upto_region 6 with (fail)
      rw [← hw1]
      clear hw1 d0 d1 d2 d3 d4 d5 d6 d7 d8
      obtain ⟨x0, x1, x2, x3, x4, x5, x6, x7, x8⟩ := HR1.out.cells
      have HW1 := Lib.hid (nx HBW.out HB1.out)
      have HLS : Hid (∀ b, ltS w b → b < w1.heap.size) := fun b (hb : b < w.heap.size) => Nat.lt_of_lt_of_le hb HW1.out.size
      have HI1 : Hid (RIn (ltS w) w1 s r) := HRI.out.below HB1.out (fun b (hb : b < w.heap.size) => Nat.lt_of_lt_of_le hb HBW.out.size)
      by_cases hc : r.cls = 1
      · obtain ⟨B, kb, hsv, hrb, _, _⟩ := HOWN.out.rdE
        have HRB := Lib.hid (hrb.below HB1.out)
        subst hsv
        have HF := Lib.hid (hasQNm_any wr.heap.size (asksQ r) B _ kb out w1 HRB.out (by have := HPL.out; omega) (fun t x W hW hx => namesC_any wr.heap.size s r t x (ltS w) (ltS w1) W (HR1.out.below hW) (HI1.out.below hW HLS.out) (fun b hb => Nat.lt_of_lt_of_le (HLS.out b hb) hW.size) hx (fun b hb => Nat.lt_of_lt_of_le hb hW.size)))
        clear hrb
        cases ha : out.any (asksQ r) with
        | true =>
          rw [ha] at HF
          have HNO : Hid (stepN out r = out) := by show _ = _; unfold stepN; rw [decide_eq_true hc, ha]; rfl
          clear ha
          go_wp2_with (go_at_call 83; refine HF.out.mono ?_; rintro e w2 ⟨v2, rfl, rfl, hb2⟩)
          go_roundw
          case rel => exact ⟨k + 1, by go_num, by omega, by rw [HEQ.out, HNO.out]; exact HOWN.out.below (nx HB1.out hb2), nx HW1.out hb2⟩
          case measure => simp [intOf]; omega
        | false =>
          rw [ha] at HF
          have HNO : Hid (stepN out r = out ++ [⟨r.name, r.type, 1⟩]) := by show _ = _; unfold stepN; rw [decide_eq_true hc, ha]; rfl
          clear ha
          go_upto_region 7 with (go_at_call 83; refine HF.out.mono ?_; rintro e w2 ⟨v2, rfl, rfl, hb2⟩)
          have HB2 := Lib.hid (nx HB1.out hb2)
          have HW2 := Lib.hid (nx HW1.out hb2)
          have HR2 := Lib.hid (HR1.out.below hb2)
          have HI2 := Lib.hid (HI1.out.below hb2 HLS.out)
          clear x0 x1 x2 x3 x4 x5 x6 x7 x8 hb2
          have HN2 : Hid (Els encS (ltS w) (ltS w) w2.drew s.A r.name.length r.name) := HI2.out.n.keep (fun b hb => rfl) (fun b hb => rfl)
          have HNL : Hid (r.name.length ≤ 8796093022208) := by show _ ≤ _; have := HLR.out.1; omega
          have z0 := And.intro HR2.out.cells.1 HR2.out.cells.2.1
          have z1 := And.intro (HR2.out.below bl.drew).cells.1 (HR2.out.below bl.drew).cells.2.1
          go_region_held3 (fun w' => w'.cell? ⟨wr.heap.size, 0, none⟩ = some (.slice s.A r.name.length s.c) ∧ w'.cell? ⟨wr.heap.size, 1, none⟩ = some (.int .i64 r.type))
            (first
              | with_reducible exact z0
              | with_reducible exact z1
              | with_reducible exact z2
              | with_reducible exact z3
              | with_reducible exact z4
              | fail)
            (first
              | (refine step_pushE elQu (by rfl) (.tmp 23) (.tmp 30) (by rfl) w.heap.size (.slice B out.length kb) out (by rfl) hown _ ⟨r.name, r.type, 1⟩ hrow hS3 (by rfl) (by omega) (by unfold maxLen; omega) hbase3 ?_ (by rfl); intro v5 w5 hown5 hg5 hat5; have hc5 : Chg (fun b => (Value.slice B out.length kb).ownBlock = some b) w3 w5 := (Chg.refl _ _).grown hg5 (fun k hk => .inl hk); have hR3 := (HR2.out.below bl.drew).below hb3; have hR5 : RRow w5 wr.heap.size s r := (hc5.block _ hR3.lt (fun h => by have h1 := (hlto _ h).2; omega)).trans hR3; have z4 := And.intro hR5.cells.1 hR5.cells.2.1)
              | (go_at_call 98; refine (cloneS_any s.A r.name.length s.c r.name w2.drew HN2.out HNL.out).mono ?_; rintro e w3 ⟨v3, rfl, ho3, hb3⟩; have z2 := And.intro ((HR2.out.below bl.drew).below hb3).cells.1 ((HR2.out.below bl.drew).below hb3).cells.2.1; obtain ⟨A3, c3, rfl, hel3, hl3, hm3⟩ := OwnE.form ho3; have z3 := And.intro (below_cell (bl.alloc (Nat.le_refl _) (.cells #[.slice A3 r.name.length c3, .int .i64 r.type, .int .i64 1] 42)) z2.1) (below_cell (bl.alloc (Nat.le_refl _) (.cells #[.slice A3 r.name.length c3, .int .i64 r.type, .int .i64 1] 42)) z2.2); have HB3 := Lib.hid (nx HB2.out (bl.drew.trans hb3)); obtain ⟨S0, hoS, hSS⟩ := HOWN.out; have hown := OwnE.below hoS HB3.out; have hlto := hoS.lt; have hrow : encQu.R (geS w2.heap.size w3) w3 [.slice A3 r.name.length c3, .int .i64 r.type, .int .i64 1] ⟨r.name, r.type, 1⟩ := ⟨A3, c3, rfl, (ownE_els ho3 rfl).1, (ownE_els ho3 rfl).2, HI2.out.it, ⟨show (-9223372036854775808 : Int) ≤ 1 by decide, show (1 : Int) ≤ 9223372036854775807 by decide⟩⟩; have hpl := HPL.out; have hz3 : wr.heap.size ≤ w2.heap.size := HB2.out.size; have hbase3 : w.heap.size ≤ w3.heap.size := Nat.le_trans HBW.out.size HB3.out.size; have hS3 : ∀ b, geS w2.heap.size w3 b → b < w3.heap.size ∧ some b ≠ (Value.slice B out.length kb).ownBlock := fun b hb => ⟨hb.2, fun he => by have h1 := (hlto b he.symm).2; have h2 := hb.1; omega⟩)
              | fail)
          go_wp2
          go_roundw
          case rel => exact ⟨k + 1, by go_num, by omega, by rw [HEQ.out, HNO.out]; exact ⟨_, hown5, fun b hb => hb.elim (hSS b) (fun h => by have h1 := h.1; have h2 := HBW.out.size; omega)⟩, (nx HBW.out HB3.out).grown hg5 (by omega) (fun j hj => (hown.lt j hj).1)⟩
          case measure => simp [intOf]; omega
      · have HNO : Hid (stepN out r = out) := by show _ = _; unfold stepN; rw [decide_eq_false hc]; rfl
        go_wp2
        go_roundw
        case rel => exact ⟨k + 1, by go_num, by omega, by rw [HEQ.out, HNO.out]; exact HOWN.out.below HB1.out, HW1.out⟩
        case measure => simp [intOf]; omega
    · obtain rfl : k = xs.length := by omega
      rw [List.take_length] at HOWN
      go_wp2
      go_ret
      exact ⟨_, rfl, HOWN.out, HBW.out⟩
end Go.Proofs.Ytbjaphldncagjaa

/- The reference's Names. -/
namespace Go.Proofs.Ytbjaphldncagjaa
open Go.RowKit
set_option maxRecDepth 100000

theorem ownQ_push {w wr : World} {v : Value} {l : List Qu} {r : Qu} (h : OwnE encQu 42 (orS (ltS w) (ltS w)) wr w.heap.size v (l ++ [r])) : OwnE encQu 42 (ltS w) wr w.heap.size v (l ++ [r]) := by
  have hS : orS (ltS w) (ltS w) = ltS w := by funext b; simp [orS]
  rwa [hS] at h
theorem ownQ_none {w wr : World} (hb : Below w.heap.size w wr) : OwnE encQu 42 (ltS w) wr w.heap.size (.slice none 0 0) [] := ⟨[], World.ownsRow_nil _ _ _ _, fun i x h => by simp at h, fun b (hl : b < w.heap.size) => ⟨Nat.lt_of_lt_of_le hl hb.size, by simp [Value.ownBlock]⟩⟩
theorem or_take {l : List Qu} {p : Qu → Bool} {c : Bool} {j : Nat} {q : Qu} (h : l[j]? = some q) : (c || (l.take (j + 1)).any p) = ((c || (l.take j).any p) || p q) := by
  rw [List.take_add_one, h, Option.toList_some, List.any_append]
  simp [Bool.or_assoc]
set_option maxHeartbeats 8000000 in
theorem rnames_any (A : Option Addr) (n c : Nat) (xs : List RR) (w : World) (h : RdE encRR w A n xs) (hn : n ≤ 1000000) (hL : ∀ r ∈ xs, Light9 r) :
    Calls Try.prog 44 #[.slice A n c] w (RetP (fun v w' => OwnE encQu 42 (ltS w) w' w.heap.size v (namesP xs)) w) := by
  have hl := h.len
  subst hl
  have H := Lib.hid h
  have HL := Lib.hid hL
  clear h hL
  go_enter Try.func44, Try.ntmps44
  go_wp2
  go_loopw [3, 4] (fun sv iv wr => ∃ k : Nat, iv = .int .i64 k ∧ k ≤ xs.length ∧ Hid (OwnE encQu 42 (ltS w) wr w.heap.size sv (namesP (xs.take k))) ∧ Hid (Below w.heap.size w wr)) (fun _ iv _ => xs.length - (intOf iv).toNat)
  case atStart => exact ⟨0, rfl, Nat.zero_le _, ownQ_none bl, bl⟩
  case round =>
    obtain ⟨k, rfl, hk, HOWN, HBW⟩ := hrel
    rename World => wk
    by_cases hlt : k < xs.length
    · obtain ⟨r, hr⟩ : ∃ r, xs[k]? = some r := ⟨_, List.getElem?_eq_getElem hlt⟩
      have HLR := Lib.hid (HL.out r (List.mem_of_getElem? hr))
      obtain ⟨b, off, s, hA, hb0, hri, hrc⟩ := rr_at H.out hr
      have HEQ := Lib.hid (namesP_take hr)
      have HRI : Hid (RIn (ltS w) wk s r) := hri.below HBW.out (fun b hb => hb)
      have HRC := Lib.hid (hrc.below HBW.out)
      have hAA := Lib.hid hA
      have HB0 : Hid (b < w.heap.size) := hb0
      rw [hA]
      have HPL : Hid ((namesP (xs.take k)).length ≤ k) := by show _ ≤ _; have h1 := namesP_len (xs.take k); rw [List.length_take] at h1; omega
      generalize namesP (xs.take k) = out at HOWN HEQ HPL ⊢
      obtain ⟨B, kb, hsv, hrb, _, _⟩ := OwnE.rdE HOWN.out
      subst hsv
      have HRB := Lib.hid hrb
      obtain ⟨d0, d1, d2, d3, d4, d5, d6, d7, d8⟩ := HRC.out
      clear hr hri hrc hA hb0 hrb
      have HLS : Hid (∀ b, ltS w b → b < wk.heap.size) := fun b (hb : b < w.heap.size) => Nat.lt_of_lt_of_le hb HBW.out.size
      go_upto_region 6 with (fail)
      clear d0 d1 d2 d3 d4 d5 d6 d7 d8
      go_wp2
      go_loopw [5, 6] (fun tv jv wr => ∃ j : Nat, jv = .int .i64 j ∧ j ≤ out.length ∧ tv = .bool (!(decide (r.cls = 1)) || (out.take j).any (asksQ r)) ∧ Hid (Below wk.heap.size wk wr)) (fun _ jv _ => out.length - (intOf jv).toNat)
      case atStart => exact ⟨0, rfl, Nat.zero_le _, by rw [List.take_zero, List.any_nil, Bool.or_false]; rfl, bl⟩
      case round =>
        obtain ⟨j, rfl, hj, rfl, HBK⟩ := hrel
        by_cases hlj : j < out.length
        · obtain ⟨q, hq⟩ : ∃ q, out[j]? = some q := ⟨_, List.getElem?_eq_getElem hlj⟩
          have HOR := Lib.hid (or_take (p := asksQ r) (c := !(decide (r.cls = 1))) hq)
          obtain ⟨b', off', t, hB, _, hqi, hqc⟩ := qu_at HRB.out hq
          have hBB := Lib.hid hB
          rw [hB]
          have HQC := Lib.hid (hqc.below HBK.out)
          have HRC' := Lib.hid (HRC.out.below HBK.out)
          have HQI := Lib.hid ((hqi.below HBK.out (fun b hb => hb)).keep (w := wr) (w' := wr.drew) (fun b hb => rfl))
          have HRI' := Lib.hid ((HRI.out.below HBK.out HLS.out).keep (w := wr) (w' := wr.drew) (fun b hb => rfl))
          have HQS : Hid (∀ b, b < wk.heap.size → b < wr.drew.heap.size) := fun b hb => Nat.lt_of_lt_of_le hb HBK.out.size
          have HRS : Hid (∀ b, ltS w b → b < wr.drew.heap.size) := fun b hb => Nat.lt_of_lt_of_le (HLS.out b hb) HBK.out.size
          have hn1 : RdE encS wr.drew t.A q.name.length q.name := HQI.out.n.mono HQS.out HQS.out
          have hn2 : RdE encS wr.drew s.A r.name.length r.name := HRI'.out.n.mono HRS.out HRS.out
          have HN1 := Lib.hid hn1
          have HN2 := Lib.hid hn2
          have HL1 := Lib.hid (Nat.le_trans HQI.out.cn.1 HQI.out.cn.2)
          have HL2 := Lib.hid (Nat.le_trans HRI'.out.cn.1 HRI'.out.cn.2)
          clear hq hB hqi hqc hn1 hn2
          generalize (!(decide (r.cls = 1)) || (out.take j).any (asksQ r)) = tb at HOR ⊢
          have z0 := And.intro HQC.out.1 (And.intro HQC.out.2.1 (And.intro HRC'.out.1 HRC'.out.2.1))
          have z1 := And.intro (HQC.out.below bl.drew).1 (And.intro (HQC.out.below bl.drew).2.1 (And.intro (HRC'.out.below bl.drew).1 (HRC'.out.below bl.drew).2.1))
          go_upto_region 9 with (fail)
          by_cases hty : q.type = r.type
          · have HA : Hid (decide (lowN q.name = lowN r.name) = asksQ r q) := by show _ = _; unfold asksQ; rw [decide_eq_true hty]; rfl
            cases ha : asksQ r q with
            | true =>
              rw [ha] at HA
              have HAA := Lib.hid ha
              clear ha
              go_region_held3 (fun w' => w'.cell? ⟨b', off' + j * 3, none⟩ = some (.slice t.A q.name.length t.c) ∧ w'.cell? ⟨b', off' + j * 3 + 1, none⟩ = some (.int .i64 q.type) ∧ w'.cell? ⟨b, off + k * 9, none⟩ = some (.slice s.A r.name.length s.c) ∧ w'.cell? ⟨b, off + k * 9 + 1, none⟩ = some (.int .i64 r.type))
                (first | with_reducible exact z0 | with_reducible exact z1 | with_reducible exact z2 | fail)
                (first
                  | (go_at_call 92; refine (requal_any t.A s.A q.name.length t.c r.name.length s.c q.name r.name wr.drew HN1.out HN2.out HL1.out HL2.out).mono ?_; rw [HA.out]; rintro e w2 ⟨v2, rfl, rfl, hb2⟩; have z2 := And.intro ((HQC.out.below bl.drew).below hb2).1 (And.intro ((HQC.out.below bl.drew).below hb2).2.1 (And.intro ((HRC'.out.below bl.drew).below hb2).1 ((HRC'.out.below bl.drew).below hb2).2.1)))
                  | fail)
              clear z0 z1 z2
              have hpl := HPL.out
              go_wp2
              go_roundw
              case rel => exact ⟨j + 1, by go_num, by omega, by rw [HOR.out, HAA.out, Bool.or_true], nx HBK.out (bl.drew.trans hb2)⟩
              case measure => simp [intOf]; omega
            | false =>
              rw [ha] at HA
              have HAA := Lib.hid ha
              clear ha
              go_region_held3 (fun w' => w'.cell? ⟨b', off' + j * 3, none⟩ = some (.slice t.A q.name.length t.c) ∧ w'.cell? ⟨b', off' + j * 3 + 1, none⟩ = some (.int .i64 q.type) ∧ w'.cell? ⟨b, off + k * 9, none⟩ = some (.slice s.A r.name.length s.c) ∧ w'.cell? ⟨b, off + k * 9 + 1, none⟩ = some (.int .i64 r.type))
                (first | with_reducible exact z0 | with_reducible exact z1 | with_reducible exact z2 | fail)
                (first
                  | (go_at_call 92; refine (requal_any t.A s.A q.name.length t.c r.name.length s.c q.name r.name wr.drew HN1.out HN2.out HL1.out HL2.out).mono ?_; rw [HA.out]; rintro e w2 ⟨v2, rfl, rfl, hb2⟩; have z2 := And.intro ((HQC.out.below bl.drew).below hb2).1 (And.intro ((HQC.out.below bl.drew).below hb2).2.1 (And.intro ((HRC'.out.below bl.drew).below hb2).1 ((HRC'.out.below bl.drew).below hb2).2.1)))
                  | fail)
              clear z0 z1 z2
              have hpl := HPL.out
              go_wp2
              go_roundw
              case rel => exact ⟨j + 1, by go_num, by omega, by rw [HOR.out, HAA.out, Bool.or_false], nx HBK.out (bl.drew.trans hb2)⟩
              case measure => simp [intOf]; omega
          · have HA : Hid (asksQ r q = false) := by show _ = _; unfold asksQ; rw [decide_eq_false hty]; rfl
            have hpl := HPL.out
            have htb : (q.type == r.type) = false := by rw [beq_eq_false_iff_ne]; exact hty
            go_quiet (fail)
            clear z0 z1
            go_wp2
            go_roundw
            case rel => exact ⟨j + 1, by go_num, by omega, by rw [HOR.out, HA.out, Bool.or_false], dN HBK.out _⟩
            case measure => simp [intOf]; omega
        · obtain rfl : j = out.length := by omega
          rw [List.take_length]
          cases ht : (!(decide (r.cls = 1)) || out.any (asksQ r)) with
          | true =>
            have HNO : Hid (stepN out r = out) := by
              show _ = _
              unfold stepN
              rw [if_neg]
              intro h2
              rw [Bool.and_eq_true] at h2
              rw [h2.1] at ht
              rw [Bool.not_eq_true'] at h2
              rw [h2.2] at ht
              cases ht
            clear ht
            go_wp2
            go_roundw
            case rel => exact ⟨k + 1, by go_num, by omega, by rw [HEQ.out, HNO.out]; exact HOWN.out.below HBK.out, nx HBW.out HBK.out⟩
            case measure => simp [intOf]; omega
          | false =>
            have HNO : Hid (stepN out r = out ++ [⟨r.name, r.type, 1⟩]) := by
              show _ = _
              unfold stepN
              rw [if_pos]
              rw [Bool.or_eq_false_iff] at ht
              rw [ht.2]
              simpa using ht.1
            clear ht
            have HRC2 := Lib.hid (HRC.out.below HBK.out)
            have HRI2 := Lib.hid ((HRI.out.below HBK.out HLS.out).keep (w := wr) (w' := wr.drew) (fun b hb => rfl))
            have HOWN2 := Lib.hid ((OwnE.below HOWN.out HBK.out).below bl.drew)
            have hpl := HPL.out
            have HBW2 := Lib.hid (nx HBW.out HBK.out)
            have hown := HOWN2.out
            have hrow : encQu.R (ltS w) wr.drew [.slice s.A r.name.length s.c, .int .i64 r.type, .int .i64 1] ⟨r.name, r.type, 1⟩ := ⟨s.A, s.c, rfl, HRI2.out.n, HRI2.out.cn, HRI2.out.it, ⟨show (-9223372036854775808 : Int) ≤ 1 by decide, show (1 : Int) ≤ 9223372036854775807 by decide⟩⟩
            have hbase : w.heap.size ≤ wr.drew.heap.size := HBW2.out.size
            have hS3 : ∀ b, ltS w b → b < wr.drew.heap.size ∧ some b ≠ (Value.slice B out.length kb).ownBlock := fun b hb => ⟨Nat.lt_of_lt_of_le hb hbase, fun he => by have h1 := (hown.lt b he.symm).1; have h2 : b < w.heap.size := hb; omega⟩
            have z0 := And.intro HRC2.out.1 HRC2.out.2.1
            have z1 := And.intro (HRC2.out.below bl.drew).1 (HRC2.out.below bl.drew).2.1
            have z2 := And.intro (below_cell (bl.alloc (Nat.le_refl _) (.cells #[.slice s.A r.name.length s.c, .int .i64 r.type, .int .i64 1] 42)) z0.1) (below_cell (bl.alloc (Nat.le_refl _) (.cells #[.slice s.A r.name.length s.c, .int .i64 r.type, .int .i64 1] 42)) z0.2)
            have z3 := And.intro (below_cell bl.drew z2.1) (below_cell bl.drew z2.2)
            go_upto_region 12 with (fail)
            go_region_held3 (fun w' => w'.cell? ⟨b, off + k * 9, none⟩ = some (.slice s.A r.name.length s.c) ∧ w'.cell? ⟨b, off + k * 9 + 1, none⟩ = some (.int .i64 r.type))
              (first | with_reducible exact z0 | with_reducible exact z1 | with_reducible exact z2 | with_reducible exact z3 | with_reducible exact z4 | fail)
              (first
                | (refine step_pushE (w := wr.drew) elQu (by rfl) (.tmp 51) (.tmp 63) (by rfl) w.heap.size (.slice B out.length kb) out (by rfl) hown _ ⟨r.name, r.type, 1⟩ hrow hS3 (by rfl) (by omega) (by unfold maxLen; omega) hbase ?_ (by rfl); intro v5 w5 hown5 hg5 hat5; have hc5 : Chg (fun x => (Value.slice B out.length kb).ownBlock = some x) wr.drew w5 := (Chg.refl _ _).grown hg5 (fun k hk => .inl hk); have hbb := hc5.block b (Nat.lt_of_lt_of_le HB0.out hbase) (fun h => by have h1 := (hown.lt b h).1; have h2 := HB0.out; omega); have z4 := And.intro ((World.cell?_of_block (a := ⟨b, off + k * 9, none⟩) hbb).trans z1.1) ((World.cell?_of_block (a := ⟨b, off + k * 9 + 1, none⟩) hbb).trans z1.2))
                | fail)
            go_wp2
            go_roundw
            case rel => exact ⟨k + 1, by go_num, by omega, by rw [HEQ.out, HNO.out]; exact ownQ_push hown5, HBW2.out.drew.grown hg5 hbase (fun j hj => (hown.lt j hj).1)⟩
            case measure => simp [intOf]; omega
    · obtain rfl : k = xs.length := by omega
      rw [List.take_length] at HOWN
      go_wp2
      go_ret
      exact ⟨_, rfl, HOWN.out, HBW.out⟩
end Go.Proofs.Ytbjaphldncagjaa

/- RrNames: the law's walk. -/
namespace Go.Proofs.Ytbjaphldncagjaa
open Go.RowKit
set_option maxRecDepth 100000

set_option maxHeartbeats 8000000 in
theorem rrNames_ok (A : Option Addr) (c : Nat) (xs : List RR) (w : World) (h : RdE encRR w A xs.length xs) (hl : LtL xs) :
    Calls Try.prog 10 #[.slice A xs.length c] w (LawT w) := by
  have H := Lib.hid h
  have HL := Lib.hid hl
  have HLD := Lib.hid (decide_eq_true hl)
  have hx60 := hl.2
  have hpl := namesP_len xs
  have HPL : Hid ((namesP xs).length ≤ 60) := by show _ ≤ _; omega
  have HMEM : Hid (∀ q, q ∈ namesP xs → q.cls = 1 ∧ q.name.length ≤ 200 ∧ (setP xs q.name q.type).1 ≠ []) := fun q hq => by
    obtain ⟨r, hr, _, rfl⟩ := namesP_mem xs q hq
    exact ⟨rfl, (hl.1 r hr).1, namesP_set xs hq⟩
  clear h hl hpl
  go_enter Try.func10, Try.ntmps10
  go_upto_region 4 with (first
    | (go_at_call 44; refine (rnames_any A xs.length c xs w6 (H.out.below HB6.out) (by omega) (fun r hr => (HL.out.1 r hr).light9)).mono ?_; rintro e w7 ⟨v7, rfl, hs7, hb7⟩; obtain ⟨B7, k7, rfl, hr7, _, _⟩ := OwnE.rdE hs7; have HR7 := Lib.hid hr7; have HR67 := Lib.hid (HR6.out.below hb7); have HB7 := Lib.hid (nx HB6.out hb7); clear hs7 hr7 hb7)
    | (go_at_call 43; refine (pnames_any A4 xs.length c4 xs w4 HR4.out (by omega) (fun r hr => (HL.out.1 r hr).light9)).mono ?_; rintro e w6 ⟨v6, rfl, hs6, hb6⟩; obtain ⟨B6, k6, rfl, hr6, _, _⟩ := NewE.rdE hs6; have HR6 := Lib.hid hr6; have HB6 := Lib.hid (nx HB4.out hb6); clear hs6 hr6 hb6)
    | (go_at_call 38; refine (ownRRs_any A _ c xs w3 (H.out.below (nx hb2 hb3)) (by omega) (fun r hr => (HL.out.1 r hr).light9)).mono ?_; rintro e w4 ⟨v4, rfl, ho4, hb4⟩; obtain ⟨A4, c4, rfl, hr4, _, _⟩ := NewE.rdE ho4; have HR4 := Lib.hid hr4; have HB4 := Lib.hid (nx (nx hb2 hb3) hb4); clear ho4 hr4 hb4)
    | (go_at_call 36; refine (light05_any A _ c xs w2 (H.out.below hb2) (by unfold maxLen; omega)).mono ?_; rw [HLD.out]; rintro e w3 ⟨v3, rfl, rfl, hb3⟩)
    | (go_at_call 35; refine (answers05_any w).mono ?_; rintro e w2 ⟨rfl, hb2⟩)
    | fail)
  clear hb2 hb3 HR4 HR6 HB4 HB6
  generalize namesP xs = l at HR7 HR67 HPL HMEM ⊢
  have hl60 : l.length ≤ 60 := HPL.out
  clear HPL
  go_wp2_with fail
  go_loopw [5] (fun iv wr => ∃ j : Nat, iv = .int .i64 j ∧ j ≤ l.length ∧ Hid (Below w7.heap.size w7 wr)) (fun iv _ => l.length - (intOf iv).toNat)
  case atStart => exact ⟨0, rfl, Nat.zero_le _, bl⟩
  case round =>
    obtain ⟨j, rfl, hj, HBK⟩ := hrel
    by_cases hlt : j < l.length
    · obtain ⟨x, hx⟩ : ∃ x, l[j]? = some x := ⟨_, List.getElem?_eq_getElem hlt⟩
      obtain ⟨hcls, hn200, hne⟩ := HMEM.out x (List.mem_of_getElem? hx)
      obtain ⟨b, off, s, hA, _, hd, hc⟩ := qu_at HR67.out hx
      obtain ⟨b', off', s', hA', _, hd', hc'⟩ := qu_at HR7.out hx
      obtain ⟨nm, ty, cl⟩ := x
      simp only at hcls hn200 hne
      subst hcls
      obtain ⟨P, hP⟩ : ∃ P, P = setP xs nm ty := ⟨_, rfl⟩
      have HP := Lib.hid hP
      rw [← hP] at hne
      have hpn : ((P.1.length : Int) == 0) = false := by rw [beq_eq_false_iff_ne]; intro h0; exact hne (List.eq_nil_of_length_eq_zero (by omega))
      have HQ0 := Lib.hid (hc.below HBK.out)
      have HQ1 := Lib.hid (hc'.below HBK.out)
      have hS : ∀ b, ltS w7 b → b < wr.drew.heap.size := fun b hb => Nat.lt_of_lt_of_le hb HBK.out.size
      have HN0 : Hid (RdE encS wr.drew s.A nm.length nm) := ((hd.below HBK.out (fun b hb => hb)).n.keep (w' := wr.drew) (fun b hb => rfl) (fun b hb => rfl)).mono hS hS
      have HN1 : Hid (RdE encS wr.drew s'.A nm.length nm) := ((hd'.below HBK.out (fun b hb => hb)).n.keep (w' := wr.drew) (fun b hb => rfl) (fun b hb => rfl)).mono hS hS
      obtain ⟨d0, d1, d2⟩ := HQ0.out
      obtain ⟨e0, e1, e2⟩ := HQ1.out
      subst hA hA'
      have hnm : nm.length ≤ maxLen := by unfold maxLen; omega
      simp only at d0 d1 d2 e0 e1 e2
      have q0 := And.intro d0 (And.intro d1 (And.intro d2 (And.intro e0 e1)))
      have q1 := And.intro (below_cell bl.drew d0) (And.intro (below_cell bl.drew d1) (And.intro (below_cell bl.drew d2) (And.intro (below_cell bl.drew e0) (below_cell bl.drew e1))))
      clear hx hd hc hd' hc' d0 d1 d2 e0 e1 e2 hP hne hn200 hS
      go_upto_region 9 with (fail)
      go_region_held3 (fun w' => w'.cell? ⟨b, off + j * 3, none⟩ = some (.slice s.A nm.length s.c) ∧ w'.cell? ⟨b, off + j * 3 + 1, none⟩ = some (.int .i64 ty) ∧ w'.cell? ⟨b, off + j * 3 + 2, none⟩ = some (.int .i64 1) ∧ w'.cell? ⟨b', off' + j * 3, none⟩ = some (.slice s'.A nm.length s'.c) ∧ w'.cell? ⟨b', off' + j * 3 + 1, none⟩ = some (.int .i64 ty))
        (first
          | with_reducible exact q0
          | with_reducible exact q1
          | with_reducible exact q2
          | fail)
        (first
          | (go_at_call 45; refine (rexact_any s.A s'.A nm.length s.c nm.length s'.c nm nm wr.drew HN0.out HN1.out hnm hnm).mono ?_; rw [decide_eq_true rfl]; rintro e v2 ⟨rfl, m2, hv2⟩; have hb2 : Below wr.drew.heap.size wr.drew v2 := (by rw [hv2]; exact dN bl m2); clear hv2; have q2 := And.intro (below_cell hb2 q1.1) (And.intro (below_cell hb2 q1.2.1) (And.intro (below_cell hb2 q1.2.2.1) (And.intro (below_cell hb2 q1.2.2.2.1) (below_cell hb2 q1.2.2.2.2)))))
          | fail)
      have HB2 := Lib.hid (nx HBK.out (bl.drew.trans hb2))
      have HBV := Lib.hid hb2
      have z0 := And.intro q2.1 q2.2.1
      clear q0 q1 q2 hb2
      go_upto_region 11 with (fail)
      have HNV := Lib.hid ((HN0.out.below HBV.out).below bl.drew)
      have HXV := Lib.hid ((H.out.below (nx HB7.out HB2.out)).below bl.drew)
      have z1 := And.intro (below_cell bl.drew z0.1) (below_cell bl.drew z0.2)
      go_region_held3 (fun w' => w'.cell? ⟨b, off + j * 3, none⟩ = some (.slice s.A nm.length s.c) ∧ w'.cell? ⟨b, off + j * 3 + 1, none⟩ = some (.int .i64 ty))
        (first
          | with_reducible exact z0
          | with_reducible exact z1
          | with_reducible exact z2
          | fail)
        (first
          | (go_at_call 37; refine (pset_any A s.A xs.length c nm.length s.c xs nm ty v2.drew HXV.out HNV.out (by omega) hnm (fun r hr => (HL.out.1 r hr).light9)).mono ?_; rw [← HP.out]; rintro e v3 ⟨u3, rfl, ⟨sv3, rfl, hs3⟩, hb3⟩; obtain ⟨B3, k3, rfl, _, _, _⟩ := NewE.rdE hs3; have HB3 := Lib.hid (nx HB2.out (bl.drew.trans hb3)); have z2 := And.intro (below_cell hb3 z1.1) (below_cell hb3 z1.2); clear hs3 hb3)
          | fail)
      clear z0 z1 z2
      go_wp2
      go_roundw
      case rel => exact ⟨j + 1, by go_num, by omega, HB3⟩
      case measure => simp [intOf]; omega
    · obtain rfl : j = l.length := by omega
      go_wp2
      go_ret
      exact ⟨rfl, nx HB7.out HBK.out⟩

set_option maxHeartbeats 2000000 in
theorem rrNames_heavy (A : Option Addr) (c : Nat) (xs : List RR) (w : World) (h : RdE encRR w A xs.length xs) (hm : xs.length ≤ maxLen) (hl : ¬ LtL xs) :
    Calls Try.prog 10 #[.slice A xs.length c] w (LawT w) := by
  have H := Lib.hid h
  have HLD := Lib.hid (decide_eq_false hl)
  clear h hl
  go_enter Try.func10, Try.ntmps10
  go_wp2_with (first
    | (go_at_call 35; refine (answers05_any w3).mono ?_; rintro e w4 ⟨rfl, hb4⟩)
    | (go_at_call 36; refine (light05_any A _ c xs w2 (H.out.below hb2) hm).mono ?_; rw [HLD.out]; rintro e w3 ⟨v3, rfl, rfl, hb3⟩)
    | (go_at_call 35; refine (answers05_any w).mono ?_; rintro e w2 ⟨rfl, hb2⟩)
    | fail)
  go_ret
  exact ⟨rfl, nx (nx hb2 hb3) hb4⟩
theorem rrNames_walk (A : Option Addr) (n c : Nat) (xs : List RR) (w : World) (h : RdE encRR w A n xs) (hc : n ≤ c) (hm : c ≤ maxLen) :
    Calls Try.prog 10 #[.slice A n c] w (LawT w) := by
  have hl := h.len
  subst hl
  by_cases h0 : LtL xs
  · exact rrNames_ok A c xs w h h0
  · exact rrNames_heavy A c xs w h (Nat.le_trans hc hm) h0
end Go.Proofs.Ytbjaphldncagjaa
