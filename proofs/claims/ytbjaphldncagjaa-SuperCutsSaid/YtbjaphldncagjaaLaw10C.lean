/- SuperCuts: the law's walk. -/
import Derived.Test.YtbjaphldncagjaaAns10
import Derived.Test.YtbjaphldncagjaaFlash5
namespace Go.Proofs.Ytbjaphldncagjaa
open Go.RowKit
set_option maxRecDepth 100000

theorem bestO_none {o0 o1 : Option Blk} (h : bestO o0 o1 = none) : o0 = none ∧ o1 = none := by
  cases o0 with
  | none => exact ⟨rfl, h⟩
  | some a =>
    cases o1 with
    | none => cases h
    | some b =>
      simp only [bestO] at h
      split at h <;> cases h
theorem best_next {o0 o1 : Option Blk} {nb : Blk} (h : nextOk o0 o1 nb) : bestO (putO o0 o1 (nb.gen % 2) (some nb)).1 (putO o0 o1 (nb.gen % 2) (some nb)).2 = some nb := by
  unfold nextOk at h
  cases hb : bestO o0 o1 with
  | none =>
    obtain ⟨rfl, rfl⟩ := bestO_none hb
    exact bestO_put (mod2 _) (fun c hc => by cases hc) (fun c hc => by cases hc)
  | some a =>
    rw [hb] at h
    obtain ⟨h0, h1⟩ := bestO_le hb
    exact bestO_put (mod2 _) (fun c hc => by have := h0 c hc; omega) (fun c hc => by have := h1 c hc; omega)
theorem fits_of {n : Int} (h0 : 0 ≤ n) (h1 : n < 72057594037927936) : fitsB n 7 = true := by
  have e : (256 : Int) ^ (7 : Int).toNat = 72057594037927936 := by decide
  exact decide_eq_true ⟨by omega, by omega, h0, by rw [e]; exact h1⟩
def Blk.at_ (b : Blk) (i : Nat) : Blk := { b with gen := (i : Int) }
theorem Blk.at_fits {b : Blk} {i : Nat} (hi : i < 20) (h1 : fitsB b.epoch 7 = true) (h2 : fitsB b.first 7 = true) (h3 : fitsB b.from_ 7 = true) (h4 : fitsB b.count 7 = true) : (b.at_ i).fits := by
  intro n hn
  have hn : n ∈ [(i : Int), b.epoch, b.first, b.from_, b.count] := hn
  simp only [List.mem_cons, List.not_mem_nil, or_false] at hn
  rcases hn with rfl | rfl | rfl | rfl | rfl
  · exact fits_of (by omega) (by omega)
  · exact h1
  · exact h2
  · exact h3
  · exact h4
def nblk (n : Int) : Blk := ⟨n, 3, 0, 0, 0⟩
theorem nblk_fits {n : Int} (h0 : 0 ≤ n) (h1 : n ≤ 1000) : (nblk n).fits := by
  intro k hk
  have hk : k ∈ [n, 3, 0, 0, 0] := hk
  simp only [List.mem_cons, List.not_mem_nil, or_false] at hk
  rcases hk with rfl | rfl | rfl | rfl | rfl
  · exact fits_of (by omega) (by omega)
  all_goals exact fits_of (by omega) (by omega)

theorem SupSt.save_unsure {d : Dv} {o0 o1 : Option Blk} (h : SupSt d o0 o1) {b : Blk} (hb : b.fits) (h0 : 0 ≤ d.limit) (h4 : d.limit ≤ 4) : (d.save b).1.unsure.length ≤ 1000000 := by
  have h2 := h.two
  have hd := h.down
  have hu := h.unsure
  obtain ⟨sure, unsure, limit, down⟩ := d
  simp only at h0 h4 h2 hd hu
  subst hd hu
  obtain ⟨e0, e1, e3, e4⟩ := save_at sure limit b hb h2
  by_cases k0 : limit = 0
  · rw [e0 k0]; simp
  by_cases k1 : limit = 1 ∨ limit = 2
  · rw [e1 k1]; simp
  by_cases k3 : limit = 3
  · rw [e3 k3]; simp
  · rw [e4 (by omega)]; simp
/-- What stands behind the last Save, which may have been cut off, and the crash. -/
theorem cut_end {d : Dv} {o0 o1 : Option Blk} {i : Nat} {a b : Blk} (L : LogSt o0 o1 i a) (S : SupSt d o0 o1) (hb : b.gen = (i : Int)) (hf : b.fits) {k : Int} (hk0 : 0 ≤ k) (hk4 : k ≤ 4) (m t : Nat) :
    SupSt { d with limit := k } o0 o1 ∧ (({ d with limit := k } : Dv).save b).1.unsure.length ≤ 1000000 ∧ ((({ d with limit := k } : Dv).save b).1.crash m t).limit = 0 ∧
    ∃ p0 p1, SupSt ((({ d with limit := k } : Dv).save b).1.crash m t) p0 p1 ∧
      (((({ d with limit := k } : Dv).save b).2 = 0 ∧ bestO p0 p1 = some b) ∨ ((({ d with limit := k } : Dv).save b).2 = 8 ∧ i = 0 ∧ bestO p0 p1 = some b) ∨ ((({ d with limit := k } : Dv).save b).2 = 8 ∧ 0 < i ∧ bestO p0 p1 = some b) ∨ ((({ d with limit := k } : Dv).save b).2 = 8 ∧ 0 < i ∧ bestO p0 p1 = some a) ∨ ((({ d with limit := k } : Dv).save b).2 = 8 ∧ i = 0 ∧ bestO p0 p1 = none)) := by
  have S1 : SupSt { d with limit := k } o0 o1 := S.same S.down S.unsure rfl
  obtain ⟨p0, p1, hs, hc⟩ := L.cut S1 hb hf (show 0 ≤ k from hk0) (show k ≤ 4 from hk4) m t
  refine ⟨S1, S1.save_unsure hf hk0 hk4, (S1.save_crash hf hk0 hk4 m t).1, p0, p1, hs, ?_⟩
  rcases hc with h | ⟨h, h2 | ⟨h2, h3⟩ | ⟨h2, h3⟩⟩
  · exact .inl h
  · rcases Nat.eq_zero_or_pos i with e | e
    · exact .inr (.inl ⟨h, e, h2⟩)
    · exact .inr (.inr (.inl ⟨h, e, h2⟩))
  · exact .inr (.inr (.inr (.inl ⟨h, by omega, h3⟩)))
  · exact .inr (.inr (.inr (.inr ⟨h, h2, h3⟩)))
theorem next_some {o0 o1 : Option Blk} {x : Blk} (h : bestO o0 o1 = some x) : nextOk o0 o1 (nblk (x.gen + 1)) := by unfold nextOk; rw [h]; rfl
theorem next_none {o0 o1 : Option Blk} (h : bestO o0 o1 = none) : nextOk o0 o1 (nblk 0) := by unfold nextOk; rw [h]; rfl

theorem load_some (w : World) (B g : Nat) (F : Nat → Prop) (d : Dv) (o0 o1 : Option Blk) (x : Blk) (h : Dev w B F g d) (hs : SupSt d o0 o1) (hb : bestO o0 o1 = some x) :
    Calls Try.prog 15 #[.pointer (some ⟨g, 0, none⟩)] w (RetP (fun v _ => v = .tuple #[.agg #[.int .i64 x.gen, .int .i64 x.epoch, .int .i64 x.first, .int .i64 x.from_, .int .i64 x.count], .int .i64 0]) w) := by
  have := load_any w B g F d o0 o1 h hs
  rw [hb] at this
  exact this
theorem load_none (w : World) (B g : Nat) (F : Nat → Prop) (d : Dv) (o0 o1 : Option Blk) (h : Dev w B F g d) (hs : SupSt d o0 o1) (hb : bestO o0 o1 = none) :
    Calls Try.prog 15 #[.pointer (some ⟨g, 0, none⟩)] w (RetP (fun v _ => v = .tuple #[.agg #[.int .i64 0, .int .i64 0, .int .i64 0, .int .i64 0, .int .i64 0], .int .i64 11]) w) := by
  have := load_any w B g F d o0 o1 h hs
  rw [hb] at this
  exact this
theorem save_nblk (w : World) (B g : Nat) (F : Nat → Prop) (d : Dv) (o0 o1 : Option Blk) (n : Int) (h : Dev w B F g d) (hs : SupSt d o0 o1) (h0 : 0 ≤ n ∧ n ≤ 1000) (hn : nextOk o0 o1 (nblk n)) (hl : d.limit = 0) :
    Calls Try.prog 17 #[.pointer (some ⟨g, 0, none⟩), .agg #[.int .i64 n, .int .i64 3, .int .i64 0, .int .i64 0, .int .i64 0]] w
      (fun e w' => e = .returned (.int .i64 0) ∧ ∃ F' p0 p1, Dev w' B F' g (d.save (nblk n)).1 ∧ SupSt (d.save (nblk n)).1 p0 p1 ∧ bestO p0 p1 = some (nblk n) ∧ Chg F w w' ∧ ∀ x, F' x → F x ∨ w.heap.size ≤ x) := by
  have hf := nblk_fits h0.1 h0.2
  have hsv := hs.save_free hf hl
  refine (save_any w B g F d o0 o1 (nblk n) h hs hf hn).mono ?_
  rintro e w' ⟨rfl, F', h1, h2, _, h4⟩
  rw [hsv.1]
  exact ⟨rfl, F', _, _, h1, hsv.2.2, best_next hn, h2, h4⟩

theorem nblk_box {w : World} {q : Nat} {n : Int} (h : KRow w q (nblk n)) : w.cell? ⟨q, 0, none⟩ = some (.int .i64 n) ∧ w.cell? ⟨q, 1, none⟩ = some (.int .i64 3) ∧ w.cell? ⟨q, 2, none⟩ = some (.int .i64 0) ∧ w.cell? ⟨q, 3, none⟩ = some (.int .i64 0) ∧ w.cell? ⟨q, 4, none⟩ = some (.int .i64 0) := h.box

/-- Where the law's walk stands behind the crash. -/
structure CutEnd (w wr : World) (g q q13 : Nat) (F : Nat → Prop) (d : Dv) (a b : Blk) : Prop where
  D : Dev wr w.heap.size F g d
  K : KRow wr q a
  KB : KRow wr q13 b
  nq : ∀ x, F x → x ≠ q ∧ x ≠ q13
  bw : Below w.heap.size w wr
theorem CutEnd.step {w wr w' : World} {g q q13 : Nat} {F F' : Nat → Prop} {d d' : Dv} {a b : Blk} (h : CutEnd w wr g q q13 F d a b) (hD : Dev w' w.heap.size F' g d') (hc : Chg F wr w') (hF : ∀ x, F' x → F x ∨ wr.heap.size ≤ x) : CutEnd w w' g q q13 F' d' a b where
  D := hD
  K := hc.heap h.K (fun hk => (h.nq q hk).1 rfl)
  KB := hc.heap h.KB (fun hk => (h.nq q13 hk).2 rfl)
  nq := fun x hx => (hF x hx).elim (h.nq x) (fun hl => ⟨fun e => by have := h.K.lt; omega, fun e => by have := h.KB.lt; omega⟩)
  bw := h.bw.trans (hc.below (fun x hx => (h.D.F_lt x hx).1) h.bw.size)
theorem CutEnd.below {w wr w' : World} {g q q13 : Nat} {F : Nat → Prop} {d : Dv} {a b : Blk} (h : CutEnd w wr g q q13 F d a b) (hb : Below wr.heap.size wr w') : CutEnd w w' g q q13 F d a b :=
  h.step (h.D.below hb) (Chg.of_below hb) (fun _ hx => .inl hx)

/-- Where the law's walk stands ahead of block i. -/
structure CutSt (w wr : World) (g q i : Nat) (F : Nat → Prop) (d : Dv) (o0 o1 : Option Blk) (a : Blk) : Prop where
  D : Dev wr w.heap.size F g d
  lim : d.limit = 0
  S : SupSt d o0 o1
  L : LogSt o0 o1 i a
  K : KRow wr q a
  nq : ∀ x, F x → x ≠ q
  bw : Below w.heap.size w wr
  ql : w.heap.size ≤ q

set_option maxHeartbeats 8000000 in
theorem superCuts_walk (A : Option Addr) (n c : Nat) (l : List Blk) (lim m t : Nat) (w : World) (h : RdE encBk w A n l) (hcm : n ≤ 9223372036854775807) (hlim : lim < 256) (hm : m < 18446744073709551616) (ht : t < 18446744073709551616) :
    Calls Try.prog 6 #[.slice A n c, .int .u8 (lim : Int), .int .u64 (m : Int), .int .u64 (t : Int)] w (LawT w) := by
  have hl := h.len
  subst hl
  by_cases hlen : 1 ≤ l.length ∧ l.length ≤ 20
  · obtain ⟨hl1, hl20⟩ := hlen
    go_enter Try.func6, Try.ntmps6
    go_upto_region 4 with (first
      | (go_at_call 16; refine (answers10_any w1).mono ?_; rintro e w2 ⟨rfl, hb2⟩; have HD2 := Lib.hid (HD1.out.below hb2))
      | (go_at_call 27; refine (new_any w 4 (by omega) (by omega)).mono ?_; rintro e w1 ⟨g, F, rfl, h1, hb1⟩; have HD1 := Lib.hid h1; clear h1)
      | fail)
    obtain ⟨w3, hw3⟩ : ∃ w3, w3 = w2.alloc (.cells #[.int .i64 0, .int .i64 0, .int .i64 0, .int .i64 0, .int .i64 0] 23) := ⟨_, rfl⟩
    have HK3 : Hid (KRow w3 w2.heap.size Blk.zero) := by show KRow _ _ _; rw [hw3]; exact KRow.made w2 Blk.zero
    have hb3 : Below w2.heap.size w2 w3 := by rw [hw3]; exact bl.alloc (Nat.le_refl _) _
    have HS3 : Hid (CutSt w w3 g w2.heap.size 0 F (Dv.new 4) none none Blk.zero) :=
      ⟨HD2.out.below hb3, rfl, SupSt.new 4 (by omega), LogSt.none_, HK3.out, fun x hx e => by have := (HD2.out.F_lt x hx).2; omega, nx (nx hb1 hb2) hb3, (nx hb1 hb2).size⟩
    go_upto_region 5 with (fail)
    rw [← hw3]
    clear hw3 HD1 HD2 HK3 hb1 hb2 hb3
    generalize w2.heap.size = q at HS3 ⊢
    go_wp2_with fail
    go_loopw [12] (fun iv wr => ∃ (i : Nat) (F : Nat → Prop) (d : Dv) (o0 o1 : Option Blk) (a : Blk), iv = .int .i64 i ∧ i < l.length ∧ Hid (CutSt w wr g q i F d o0 o1 a)) (fun iv _ => l.length - (intOf iv).toNat)
    case atStart => exact ⟨0, F, _, none, none, Blk.zero, rfl, by omega, HS3⟩
    case round =>
      clear HS3
      obtain ⟨i, F, d, o0, o1, a, rfl, hi, HS⟩ := hrel
      obtain ⟨b0, hx⟩ : ∃ b0, l[i]? = some b0 := ⟨_, List.getElem?_eq_getElem hi⟩
      obtain ⟨bb, off, rfl, y0, y1, y2, y3, y4, hin⟩ := bks_at h hx
      have hbw := HS.out.bw
      have d0 := below_cell hbw y0
      have d1 := below_cell hbw y1
      have d2 := below_cell hbw y2
      have d3 := below_cell hbw y3
      have d4 := below_cell hbw y4
      clear hx y0 y1 y2 y3 y4
      go_upto_region 9 with (fail)
      obtain ⟨w2, hw2⟩ : ∃ w2, w2 = wr.alloc (.cells #[.int .i64 b0.gen, .int .i64 b0.epoch, .int .i64 b0.first, .int .i64 b0.from_, .int .i64 b0.count] 23) := ⟨_, rfl⟩
      have hk2 : KRow w2 wr.heap.size b0 := by rw [hw2]; exact KRow.made wr b0
      have hb2 : Below wr.heap.size wr w2 := by rw [hw2]; exact bl.alloc (Nat.le_refl _) _
      rw [← hw2]
      clear hw2 d0 d1 d2 d3 d4
      have hql := HS.out.K.lt
      obtain ⟨x0, x1, x2, x3, x4⟩ := hk2.box
      have f2 := hk2.free
      go_upto_region 10 with (fail)
      obtain ⟨w3, hw3⟩ : ∃ w3, w3 = w2.setCell ⟨wr.heap.size, 0, none⟩ (.int .i64 (i : Int)) := ⟨_, rfl⟩
      have hk3 : KRow w3 wr.heap.size (b0.at_ i) := by rw [hw3]; exact (heap_setCell_same _ _ 0 _ _ (.int .i64 (i : Int)) hk2).trans rfl
      have hb3 : Below wr.heap.size wr w3 := by rw [hw3]; exact hb2.setCell (p := ⟨wr.heap.size, 0, none⟩) (Nat.le_refl _) _
      rw [← hw3]
      clear hw3 x0 x1 x2 x3 x4 f2 hk2 hb2
      have HK3 := Lib.hid hk3
      have HS3 : Hid (CutSt w w3 g q i F d o0 o1 a) :=
        ⟨HS.out.D.below hb3, HS.out.lim, HS.out.S, HS.out.L, HS.out.K.below hb3, HS.out.nq, HS.out.bw.trans (hb3.mono HS.out.bw.size), HS.out.ql⟩
      have hq3 : Hid (q ≠ wr.heap.size) := Nat.ne_of_lt hql
      have hqF : Hid (∀ x, F x → x ≠ wr.heap.size) := fun x hx e => by have := (HS.out.D.F_lt x hx).2; omega
      obtain ⟨x0, x1, x2, x3, x4⟩ := hk3.box
      have x1 : w3.cell? ⟨wr.heap.size, 1, none⟩ = some (.int .i64 b0.epoch) := x1
      have x2 : w3.cell? ⟨wr.heap.size, 2, none⟩ = some (.int .i64 b0.first) := x2
      have x3 : w3.cell? ⟨wr.heap.size, 3, none⟩ = some (.int .i64 b0.from_) := x3
      have x4 : w3.cell? ⟨wr.heap.size, 4, none⟩ = some (.int .i64 b0.count) := x4
      have hbd : b0.epoch ≤ 9223372036854775807 ∧ b0.first ≤ 9223372036854775807 ∧ b0.from_ ≤ 9223372036854775807 ∧ b0.count ≤ 9223372036854775807 := ⟨hin.2.1.2, hin.2.2.1.2, hin.2.2.2.1.2, hin.2.2.2.2.2⟩
      have HBD := Lib.hid hbd
      clear hk3 hb3 HS hql hin hbw hbd x0
      generalize wr.heap.size = q13 at HK3 hq3 hqF x1 x2 x3 x4 ⊢
      cases hf0 : fitsB b0.epoch 7 with
      | false =>
        have HF0 := Lib.hid hf0
        clear hf0
        go_wp2_with (first
          | (go_at_call 28; refine (rfits_any _ 7 w3 ?hbd).mono ?_; (case hbd => first | with_reducible exact HBD.out.1); (first | rw [HF0.out]); rintro e w4 ⟨rfl, rfl⟩)
          | fail)
        go_ret
        exact ⟨rfl, HS3.out.bw⟩
      | true =>
        have HF0 := Lib.hid hf0
        clear hf0
        cases hf1 : fitsB b0.first 7 with
        | false =>
          have HF1 := Lib.hid hf1
          clear hf1
          go_wp2_with (first
            | (go_at_call 28; refine (rfits_any _ 7 w3 ?hbd).mono ?_; (case hbd => first | with_reducible exact HBD.out.1 | with_reducible exact HBD.out.2.1); (first | rw [HF0.out] | rw [HF1.out]); rintro e w4 ⟨rfl, rfl⟩)
            | fail)
          go_ret
          exact ⟨rfl, HS3.out.bw⟩
        | true =>
          have HF1 := Lib.hid hf1
          clear hf1
          cases hf2 : fitsB b0.from_ 7 with
          | false =>
            have HF2 := Lib.hid hf2
            clear hf2
            go_wp2_with (first
              | (go_at_call 28; refine (rfits_any _ 7 w3 ?hbd).mono ?_; (case hbd => first | with_reducible exact HBD.out.1 | with_reducible exact HBD.out.2.1 | with_reducible exact HBD.out.2.2.1); (first | rw [HF0.out] | rw [HF1.out] | rw [HF2.out]); rintro e w4 ⟨rfl, rfl⟩)
              | fail)
            go_ret
            exact ⟨rfl, HS3.out.bw⟩
          | true =>
            have HF2 := Lib.hid hf2
            clear hf2
            cases hf3 : fitsB b0.count 7 with
            | false =>
              have HF3 := Lib.hid hf3
              clear hf3
              go_wp2_with (first
                | (go_at_call 28; refine (rfits_any _ 7 w3 ?hbd).mono ?_; (case hbd => first | with_reducible exact HBD.out.1 | with_reducible exact HBD.out.2.1 | with_reducible exact HBD.out.2.2.1 | with_reducible exact HBD.out.2.2.2); (first | rw [HF0.out] | rw [HF1.out] | rw [HF2.out] | rw [HF3.out]); rintro e w4 ⟨rfl, rfl⟩)
                | fail)
              go_ret
              exact ⟨rfl, HS3.out.bw⟩
            | true =>
              have HF3 := Lib.hid hf3
              clear hf3
              go_upto_region 12 with (first
                | (go_at_call 28; refine (rfits_any _ 7 w3 ?hbd).mono ?_; (case hbd => first | with_reducible exact HBD.out.1 | with_reducible exact HBD.out.2.1 | with_reducible exact HBD.out.2.2.1 | with_reducible exact HBD.out.2.2.2); (first | rw [HF0.out] | rw [HF1.out] | rw [HF2.out] | rw [HF3.out]); rintro e w4 ⟨rfl, rfl⟩)
                | fail)
              have HBF := Lib.hid (Blk.at_fits (b := b0) (i := i) (by omega) HF0.out HF1.out HF2.out HF3.out)
              clear HF0 HF1 HF2 HF3 HBD x1 x2 x3 x4
              obtain ⟨bi, hbi⟩ : ∃ bi, bi = b0.at_ i := ⟨_, rfl⟩
              have hgi : bi.gen = (i : Int) := by rw [hbi]; rfl
              rw [← hbi] at HBF HK3
              clear hbi
              have HG := Lib.hid hgi
              clear hgi
              have HN := Lib.hid (HS3.out.L.next HG.out)
              obtain ⟨x0, x1, x2, x3, x4⟩ := HK3.out.box
              by_cases hlast : i + 1 < l.length
              · have HSV := Lib.hid (HS3.out.S.save_free HBF.out HS3.out.lim)
                go_upto_region 15 with (first
                  | (go_at_call 17; refine (save_any w3 w.heap.size g F d o0 o1 bi HS3.out.D HS3.out.S HBF.out HN.out).mono ?_; rintro e w4 ⟨rfl, F4, h4, hc4, hF4, hG4⟩; rw [HSV.out.1])
                  | fail)
                have hk4 : KRow w4 q13 bi := hc4.heap HK3.out (fun hk => hqF.out q13 hk rfl)
                have hq4 : KRow w4 q a := hc4.heap HS3.out.K (fun hk => HS3.out.nq q hk rfl)
                have hq4l := hq4.lt
                have HQ4 := Lib.hid hq4
                obtain ⟨z0, z1, z2, z3, z4⟩ := hk4.box
                obtain ⟨v0, v1, v2, v3, v4⟩ := hq4.box
                have f4 := hq4.free
                have hn4 : ∀ x, F4 x → x ≠ q := fun x hx e => (hG4 x hx).elim (fun h => HS3.out.nq x h e) (fun h => by have := HS3.out.K.lt; omega)
                have h5 : Dev (((((w4.setCell ⟨q, 0, none⟩ (.int .i64 bi.gen)).setCell ⟨q, 1, none⟩ (.int .i64 bi.epoch)).setCell ⟨q, 2, none⟩ (.int .i64 bi.first)).setCell ⟨q, 3, none⟩ (.int .i64 bi.from_)).setCell ⟨q, 4, none⟩ (.int .i64 bi.count)) w.heap.size F4 g (d.save bi).1 :=
                  h4.chg (chg5 w4 q _ _ _ _ _) (fun x hx e => hn4 x hx e)
                have hbw4 : Below w.heap.size w w4 := HS3.out.bw.trans (hc4.below (fun x hx => (HS3.out.D.F_lt x hx).1) HS3.out.bw.size)
                have HS5 : Hid (CutSt w (((((w4.setCell ⟨q, 0, none⟩ (.int .i64 bi.gen)).setCell ⟨q, 1, none⟩ (.int .i64 bi.epoch)).setCell ⟨q, 2, none⟩ (.int .i64 bi.first)).setCell ⟨q, 3, none⟩ (.int .i64 bi.from_)).setCell ⟨q, 4, none⟩ (.int .i64 bi.count)) g q (i + 1) F4 (d.save bi).1 (putO o0 o1 (bi.gen % 2) (some bi)).1 (putO o0 o1 (bi.gen % 2) (some bi)).2 bi) :=
                  ⟨h5, HSV.out.2.1, HSV.out.2.2, HS3.out.L.put HG.out, hq4.put bi, hn4, below5 hbw4 HS3.out.ql _ _ _ _ _, HS3.out.ql⟩
                clear hk4 hq4 h4 hc4 hF4 hG4 h5 hbw4 hn4 x0 x1 x2 x3 x4
                go_wp2
                go_roundw
                case rel => exact ⟨i + 1, F4, _, _, _, bi, by go_num, by omega, HS5⟩
                case measure => simp [intOf]; omega
              · obtain hil : i + 1 = l.length := by omega
                have hk0 : (0 : Int) ≤ (lim : Int) % 5 := by omega
                have hk4 : (lim : Int) % 5 ≤ 4 := by omega
                have hCE := cut_end HS3.out.L HS3.out.S HG.out HBF.out hk0 hk4 m t
                obtain ⟨k, hkk⟩ : ∃ k, k = (lim : Int) % 5 := ⟨_, rfl⟩
                have HK := Lib.hid hkk
                rw [← hkk] at hCE
                clear hkk hk0 hk4
                obtain ⟨S1, hun, hl0, p0, p1, S2, hcase⟩ := hCE
                have S1 := Lib.hid S1
                have hun := Lib.hid hun
                have hl0 := Lib.hid hl0
                have S2 := Lib.hid S2
                have HE3 : Hid (CutEnd w w3 g q q13 F d a bi) := ⟨HS3.out.D, HS3.out.K, HK3.out, fun x hx => ⟨HS3.out.nq x hx, hqF.out x hx⟩, HS3.out.bw⟩
                obtain ⟨ce, ob, hce⟩ : ∃ (ce : Int) (ob : Option Blk), (({ d with limit := k } : Dv).save bi).2 = ce ∧ bestO p0 p1 = ob := ⟨_, _, rfl, rfl⟩
                rw [hce.1, hce.2] at hcase
                have HC := Lib.hid hcase
                have HCE := Lib.hid hce
                clear hce hcase
                go_upto_region 17 with (first
                  | (go_at_call 29; rw [← HK.out]; refine (limit_any w3 w.heap.size g F d k HE3.out.D (by rw [HK.out]; omega) (by rw [HK.out]; omega)).mono ?_; rintro e w4 ⟨rfl, h4, hc4⟩; have HE4 := Lib.hid (HE3.out.step h4 (hc4.mono (fun x hx => .inl (hx ▸ HE3.out.D.g_F))) (fun _ hx => .inl hx)))
                  | fail)
                clear HE3 x0 x1 x2 x3 x4
                obtain ⟨x0, x1, x2, x3, x4⟩ := HE4.out.KB.box
                have HA : Hid (0 < i → a.gen = (i : Int) - 1) := fun hi0 => by
                  have := HS3.out.L
                  unfold LogSt at this
                  rw [if_neg (by omega)] at this
                  exact this.2
                clear h4 hc4 HS3 HK3 HK
                go_upto_region 18 with (first
                  | (go_at_call 17; refine (save_any w4 w.heap.size g F _ o0 o1 bi HE4.out.D S1.out HBF.out HN.out).mono ?_; rintro e w5 ⟨rfl, F5, h5, hc5, _, hG5⟩; rw [HCE.out.1]; have HE5 := Lib.hid (HE4.out.step h5 hc5 hG5); clear h5 hc5 hG5)
                  | fail)
                clear HE4 x0 x1 x2 x3 x4
                go_upto_region 19 with (first
                  | (go_at_call 30; refine (crash_any w5 w.heap.size g F5 _ m t hm ht HE5.out.D hun.out).mono ?_; rintro e w6 ⟨rfl, h6, hc6⟩; have HE6 := Lib.hid (HE5.out.step h6 hc6 (fun _ hx => .inl hx)); clear h6 hc6)
                  | fail)
                clear HE5
                generalize (({ d with limit := k } : Dv).save bi).1.crash m t = d6 at S2 hl0 HE6
                rcases HC.out with ⟨he, ho⟩ | ⟨he, hi0, ho⟩ | ⟨he, hi0, ho⟩ | ⟨he, hi0, ho⟩ | ⟨he, hi0, ho⟩
                · subst he ho
                  have hb := Lib.hid HCE.out.2
                  have hx0 : 0 ≤ bi.gen ∧ bi.gen ≤ 900 := by have := HG.out; omega
                  have HX0 : Hid (0 ≤ bi.gen + 1 ∧ bi.gen + 1 ≤ 1000) := (show 0 ≤ bi.gen + 1 ∧ bi.gen + 1 ≤ 1000 by omega)
                  clear HC HCE
                  go_upto_region 20 with (first
                    | (go_at_call 15; refine (load_some w6 w.heap.size g F5 d6 p0 p1 bi HE6.out.D S2.out hb.out).mono ?_; rintro e w7 ⟨v7, rfl, rfl, hb7⟩; have HE7 := Lib.hid (HE6.out.below hb7); clear hb7)
                    | fail)
                  clear HE6
                  obtain ⟨w8, hw8⟩ : ∃ w8, w8 = w7.alloc (.cells #[.int .i64 bi.gen, .int .i64 bi.epoch, .int .i64 bi.first, .int .i64 bi.from_, .int .i64 bi.count] 23) := ⟨_, rfl⟩
                  have HX8 : Hid (KRow w8 w7.heap.size bi) := by show KRow _ _ _; rw [hw8]; exact KRow.made w7 bi
                  have hb8 : Below w7.heap.size w7 w8 := by rw [hw8]; exact bl.alloc (Nat.le_refl _) _
                  rw [← hw8]
                  have HE8 := Lib.hid (HE7.out.below hb8)
                  clear hw8 hb8 HE7
                  generalize w7.heap.size = q8 at HX8 ⊢
                  obtain ⟨x0, x1, x2, x3, x4⟩ := HE8.out.KB.box
                  obtain ⟨u0, u1, u2, u3, u4⟩ := HE8.out.K.box
                  obtain ⟨z0, z1, z2, z3, z4⟩ := HX8.out.box
                  go_upto_region 25 with (fail)
                  clear x0 x1 x2 x3 x4 u0 u1 u2 u3 u4 z0 z1 z2 z3 z4
                  obtain ⟨w9, hw9⟩ : ∃ w9, w9 = w8.alloc (.cells #[.int .i64 0, .int .i64 3, .int .i64 0, .int .i64 0, .int .i64 0] 23) := ⟨_, rfl⟩
                  have HY9 : Hid (KRow w9 w8.heap.size (nblk 0)) := by show KRow _ _ _; rw [hw9]; exact KRow.made w8 (nblk 0)
                  have hb9 : Below w8.heap.size w8 w9 := by rw [hw9]; exact bl.alloc (Nat.le_refl _) _
                  rw [← hw9]
                  have HE9 := Lib.hid (HE8.out.below hb9)
                  have HX9 := Lib.hid (HX8.out.below hb9)
                  have HF9 : Hid (∀ x, F5 x → x ≠ w8.heap.size) := fun x hx e => by have := (HE8.out.D.F_lt x hx).2; omega
                  have HQ8 : Hid (w8.heap.size ≠ q ∧ w8.heap.size ≠ q13) := ⟨fun e => by have := HE8.out.K.lt; omega, fun e => by have := HE8.out.KB.lt; omega⟩
                  have HQ9 : Hid (w.heap.size ≤ w8.heap.size) := HE8.out.bw.size
                  clear hw9 hb9 HE8 HX8
                  generalize w8.heap.size = q9 at HY9 HF9 HQ9 HQ8 ⊢
                  obtain ⟨z0, z1, z2, z3, z4⟩ := HX9.out.box
                  obtain ⟨y0, y1, y2, y3, y4⟩ := HY9.out.box
                  have f9 := HY9.out.free
                  go_upto_region 27 with (fail)
                  obtain ⟨w10, hw10⟩ : ∃ w10, w10 = w9.setCell ⟨q9, 0, none⟩ (.int .i64 (bi.gen + 1)) := ⟨_, rfl⟩
                  have HY10 : Hid (KRow w10 q9 (nblk (bi.gen + 1))) := by show KRow _ _ _; rw [hw10]; exact (heap_setCell_same _ _ 0 _ _ (.int .i64 (bi.gen + 1)) HY9.out).trans rfl
                  have HE10 : Hid (CutEnd w w10 g q q13 F5 d6 a bi) := by
                    have hc : Chg (fun k => k = q9) w9 w10 := by rw [hw10]; exact chg_g1 w9 q9 0 _
                    exact ⟨HE9.out.D.chg hc (fun x hx e => HF9.out x hx e), hc.heap HE9.out.K (fun e => HQ8.out.1 e.symm), hc.heap HE9.out.KB (fun e => HQ8.out.2 e.symm), HE9.out.nq, HE9.out.bw.trans (hc.below (fun x hx => hx ▸ HQ9.out) HE9.out.bw.size)⟩
                  rw [← hw10]
                  clear hw10 HE9 HY9 HX9 y0 y1 y2 y3 y4 z0 z1 z2 z3 z4 f9
                  obtain ⟨y0, y1, y2, y3, y4⟩ := nblk_box HY10.out
                  go_upto_region 28 with (first
                    | (go_at_call 17; refine (save_nblk w10 w.heap.size g F5 d6 p0 p1 (bi.gen + 1) HE10.out.D S2.out HX0.out (next_some hb.out) hl0.out).mono ?_; rintro e w11 ⟨rfl, F11, r0, r1, h11, hS11, hb11, hc11, hG11⟩; have HE11 := Lib.hid (HE10.out.step h11 hc11 hG11); have HY11 : Hid (KRow w11 q9 (nblk (bi.gen + 1))) := hc11.heap HY10.out (fun hk => HF9.out q9 hk rfl); have HB11 := Lib.hid hb11; have HS11 := Lib.hid hS11; clear h11 hc11 hG11 hb11 hS11)
                    | fail)
                  clear HE10 HY10 y0 y1 y2 y3 y4
                  go_upto_region 29 with (first
                    | (go_at_call 15; refine (load_some w11 w.heap.size g F11 _ r0 r1 (nblk (bi.gen + 1)) HE11.out.D HS11.out HB11.out).mono ?_; unfold nblk; rintro e w12 ⟨v12, rfl, rfl, hb12⟩; have HE12 := Lib.hid (HE11.out.below hb12); have HY12 := Lib.hid (HY11.out.below hb12); clear hb12)
                    | fail)
                  clear HE11 HY11
                  obtain ⟨w13, hw13⟩ : ∃ w13, w13 = w12.alloc (.cells #[.int .i64 (bi.gen + 1), .int .i64 3, .int .i64 0, .int .i64 0, .int .i64 0] 23) := ⟨_, rfl⟩
                  have hz13 : KRow w13 w12.heap.size (nblk (bi.gen + 1)) := by rw [hw13]; exact KRow.made w12 (nblk (bi.gen + 1))
                  have hb13 : Below w12.heap.size w12 w13 := by rw [hw13]; exact bl.alloc (Nat.le_refl _) _
                  rw [← hw13]
                  have HE13 := Lib.hid (HE12.out.below hb13)
                  have hy13 := HY12.out.below hb13
                  clear hw13 hb13 HE12 HY12
                  generalize w12.heap.size = q13 at hz13 ⊢
                  obtain ⟨y0, y1, y2, y3, y4⟩ := nblk_box hy13
                  obtain ⟨z0, z1, z2, z3, z4⟩ := nblk_box hz13
                  clear hy13 hz13
                  go_wp2
                  go_ret
                  exact ⟨rfl, HE13.out.bw⟩
                · subst he ho
                  have hb := Lib.hid HCE.out.2
                  have hx0 : 0 ≤ bi.gen ∧ bi.gen ≤ 900 := by have := HG.out; omega
                  have HX0 : Hid (0 ≤ bi.gen + 1 ∧ bi.gen + 1 ≤ 1000) := (show 0 ≤ bi.gen + 1 ∧ bi.gen + 1 ≤ 1000 by omega)
                  clear HC HCE
                  go_upto_region 20 with (first
                    | (go_at_call 15; refine (load_some w6 w.heap.size g F5 d6 p0 p1 bi HE6.out.D S2.out hb.out).mono ?_; rintro e w7 ⟨v7, rfl, rfl, hb7⟩; have HE7 := Lib.hid (HE6.out.below hb7); clear hb7)
                    | fail)
                  clear HE6
                  obtain ⟨w8, hw8⟩ : ∃ w8, w8 = w7.alloc (.cells #[.int .i64 bi.gen, .int .i64 bi.epoch, .int .i64 bi.first, .int .i64 bi.from_, .int .i64 bi.count] 23) := ⟨_, rfl⟩
                  have HX8 : Hid (KRow w8 w7.heap.size bi) := by show KRow _ _ _; rw [hw8]; exact KRow.made w7 bi
                  have hb8 : Below w7.heap.size w7 w8 := by rw [hw8]; exact bl.alloc (Nat.le_refl _) _
                  rw [← hw8]
                  have HE8 := Lib.hid (HE7.out.below hb8)
                  clear hw8 hb8 HE7
                  generalize w7.heap.size = q8 at HX8 ⊢
                  obtain ⟨x0, x1, x2, x3, x4⟩ := HE8.out.KB.box
                  obtain ⟨u0, u1, u2, u3, u4⟩ := HE8.out.K.box
                  obtain ⟨z0, z1, z2, z3, z4⟩ := HX8.out.box
                  go_upto_region 25 with (fail)
                  clear x0 x1 x2 x3 x4 u0 u1 u2 u3 u4 z0 z1 z2 z3 z4
                  obtain ⟨w9, hw9⟩ : ∃ w9, w9 = w8.alloc (.cells #[.int .i64 0, .int .i64 3, .int .i64 0, .int .i64 0, .int .i64 0] 23) := ⟨_, rfl⟩
                  have HY9 : Hid (KRow w9 w8.heap.size (nblk 0)) := by show KRow _ _ _; rw [hw9]; exact KRow.made w8 (nblk 0)
                  have hb9 : Below w8.heap.size w8 w9 := by rw [hw9]; exact bl.alloc (Nat.le_refl _) _
                  rw [← hw9]
                  have HE9 := Lib.hid (HE8.out.below hb9)
                  have HX9 := Lib.hid (HX8.out.below hb9)
                  have HF9 : Hid (∀ x, F5 x → x ≠ w8.heap.size) := fun x hx e => by have := (HE8.out.D.F_lt x hx).2; omega
                  have HQ8 : Hid (w8.heap.size ≠ q ∧ w8.heap.size ≠ q13) := ⟨fun e => by have := HE8.out.K.lt; omega, fun e => by have := HE8.out.KB.lt; omega⟩
                  have HQ9 : Hid (w.heap.size ≤ w8.heap.size) := HE8.out.bw.size
                  clear hw9 hb9 HE8 HX8
                  generalize w8.heap.size = q9 at HY9 HF9 HQ9 HQ8 ⊢
                  obtain ⟨z0, z1, z2, z3, z4⟩ := HX9.out.box
                  obtain ⟨y0, y1, y2, y3, y4⟩ := HY9.out.box
                  have f9 := HY9.out.free
                  go_upto_region 27 with (fail)
                  obtain ⟨w10, hw10⟩ : ∃ w10, w10 = w9.setCell ⟨q9, 0, none⟩ (.int .i64 (bi.gen + 1)) := ⟨_, rfl⟩
                  have HY10 : Hid (KRow w10 q9 (nblk (bi.gen + 1))) := by show KRow _ _ _; rw [hw10]; exact (heap_setCell_same _ _ 0 _ _ (.int .i64 (bi.gen + 1)) HY9.out).trans rfl
                  have HE10 : Hid (CutEnd w w10 g q q13 F5 d6 a bi) := by
                    have hc : Chg (fun k => k = q9) w9 w10 := by rw [hw10]; exact chg_g1 w9 q9 0 _
                    exact ⟨HE9.out.D.chg hc (fun x hx e => HF9.out x hx e), hc.heap HE9.out.K (fun e => HQ8.out.1 e.symm), hc.heap HE9.out.KB (fun e => HQ8.out.2 e.symm), HE9.out.nq, HE9.out.bw.trans (hc.below (fun x hx => hx ▸ HQ9.out) HE9.out.bw.size)⟩
                  rw [← hw10]
                  clear hw10 HE9 HY9 HX9 y0 y1 y2 y3 y4 z0 z1 z2 z3 z4 f9
                  obtain ⟨y0, y1, y2, y3, y4⟩ := nblk_box HY10.out
                  go_upto_region 28 with (first
                    | (go_at_call 17; refine (save_nblk w10 w.heap.size g F5 d6 p0 p1 (bi.gen + 1) HE10.out.D S2.out HX0.out (next_some hb.out) hl0.out).mono ?_; rintro e w11 ⟨rfl, F11, r0, r1, h11, hS11, hb11, hc11, hG11⟩; have HE11 := Lib.hid (HE10.out.step h11 hc11 hG11); have HY11 : Hid (KRow w11 q9 (nblk (bi.gen + 1))) := hc11.heap HY10.out (fun hk => HF9.out q9 hk rfl); have HB11 := Lib.hid hb11; have HS11 := Lib.hid hS11; clear h11 hc11 hG11 hb11 hS11)
                    | fail)
                  clear HE10 HY10 y0 y1 y2 y3 y4
                  go_upto_region 29 with (first
                    | (go_at_call 15; refine (load_some w11 w.heap.size g F11 _ r0 r1 (nblk (bi.gen + 1)) HE11.out.D HS11.out HB11.out).mono ?_; unfold nblk; rintro e w12 ⟨v12, rfl, rfl, hb12⟩; have HE12 := Lib.hid (HE11.out.below hb12); have HY12 := Lib.hid (HY11.out.below hb12); clear hb12)
                    | fail)
                  clear HE11 HY11
                  obtain ⟨w13, hw13⟩ : ∃ w13, w13 = w12.alloc (.cells #[.int .i64 (bi.gen + 1), .int .i64 3, .int .i64 0, .int .i64 0, .int .i64 0] 23) := ⟨_, rfl⟩
                  have hz13 : KRow w13 w12.heap.size (nblk (bi.gen + 1)) := by rw [hw13]; exact KRow.made w12 (nblk (bi.gen + 1))
                  have hb13 : Below w12.heap.size w12 w13 := by rw [hw13]; exact bl.alloc (Nat.le_refl _) _
                  rw [← hw13]
                  have HE13 := Lib.hid (HE12.out.below hb13)
                  have hy13 := HY12.out.below hb13
                  clear hw13 hb13 HE12 HY12
                  generalize w12.heap.size = q13 at hz13 ⊢
                  obtain ⟨y0, y1, y2, y3, y4⟩ := nblk_box hy13
                  obtain ⟨z0, z1, z2, z3, z4⟩ := nblk_box hz13
                  clear hy13 hz13
                  go_wp2
                  go_ret
                  exact ⟨rfl, HE13.out.bw⟩
                · subst he ho
                  have hb := Lib.hid HCE.out.2
                  have hx0 : 0 ≤ bi.gen ∧ bi.gen ≤ 900 := by have := HG.out; omega
                  have HX0 : Hid (0 ≤ bi.gen + 1 ∧ bi.gen + 1 ≤ 1000) := (show 0 ≤ bi.gen + 1 ∧ bi.gen + 1 ≤ 1000 by omega)
                  clear HC HCE
                  go_upto_region 20 with (first
                    | (go_at_call 15; refine (load_some w6 w.heap.size g F5 d6 p0 p1 bi HE6.out.D S2.out hb.out).mono ?_; rintro e w7 ⟨v7, rfl, rfl, hb7⟩; have HE7 := Lib.hid (HE6.out.below hb7); clear hb7)
                    | fail)
                  clear HE6
                  obtain ⟨w8, hw8⟩ : ∃ w8, w8 = w7.alloc (.cells #[.int .i64 bi.gen, .int .i64 bi.epoch, .int .i64 bi.first, .int .i64 bi.from_, .int .i64 bi.count] 23) := ⟨_, rfl⟩
                  have HX8 : Hid (KRow w8 w7.heap.size bi) := by show KRow _ _ _; rw [hw8]; exact KRow.made w7 bi
                  have hb8 : Below w7.heap.size w7 w8 := by rw [hw8]; exact bl.alloc (Nat.le_refl _) _
                  rw [← hw8]
                  have HE8 := Lib.hid (HE7.out.below hb8)
                  clear hw8 hb8 HE7
                  generalize w7.heap.size = q8 at HX8 ⊢
                  obtain ⟨x0, x1, x2, x3, x4⟩ := HE8.out.KB.box
                  obtain ⟨u0, u1, u2, u3, u4⟩ := HE8.out.K.box
                  obtain ⟨z0, z1, z2, z3, z4⟩ := HX8.out.box
                  go_upto_region 25 with (fail)
                  clear x0 x1 x2 x3 x4 u0 u1 u2 u3 u4 z0 z1 z2 z3 z4
                  obtain ⟨w9, hw9⟩ : ∃ w9, w9 = w8.alloc (.cells #[.int .i64 0, .int .i64 3, .int .i64 0, .int .i64 0, .int .i64 0] 23) := ⟨_, rfl⟩
                  have HY9 : Hid (KRow w9 w8.heap.size (nblk 0)) := by show KRow _ _ _; rw [hw9]; exact KRow.made w8 (nblk 0)
                  have hb9 : Below w8.heap.size w8 w9 := by rw [hw9]; exact bl.alloc (Nat.le_refl _) _
                  rw [← hw9]
                  have HE9 := Lib.hid (HE8.out.below hb9)
                  have HX9 := Lib.hid (HX8.out.below hb9)
                  have HF9 : Hid (∀ x, F5 x → x ≠ w8.heap.size) := fun x hx e => by have := (HE8.out.D.F_lt x hx).2; omega
                  have HQ8 : Hid (w8.heap.size ≠ q ∧ w8.heap.size ≠ q13) := ⟨fun e => by have := HE8.out.K.lt; omega, fun e => by have := HE8.out.KB.lt; omega⟩
                  have HQ9 : Hid (w.heap.size ≤ w8.heap.size) := HE8.out.bw.size
                  clear hw9 hb9 HE8 HX8
                  generalize w8.heap.size = q9 at HY9 HF9 HQ9 HQ8 ⊢
                  obtain ⟨z0, z1, z2, z3, z4⟩ := HX9.out.box
                  obtain ⟨y0, y1, y2, y3, y4⟩ := HY9.out.box
                  have f9 := HY9.out.free
                  go_upto_region 27 with (fail)
                  obtain ⟨w10, hw10⟩ : ∃ w10, w10 = w9.setCell ⟨q9, 0, none⟩ (.int .i64 (bi.gen + 1)) := ⟨_, rfl⟩
                  have HY10 : Hid (KRow w10 q9 (nblk (bi.gen + 1))) := by show KRow _ _ _; rw [hw10]; exact (heap_setCell_same _ _ 0 _ _ (.int .i64 (bi.gen + 1)) HY9.out).trans rfl
                  have HE10 : Hid (CutEnd w w10 g q q13 F5 d6 a bi) := by
                    have hc : Chg (fun k => k = q9) w9 w10 := by rw [hw10]; exact chg_g1 w9 q9 0 _
                    exact ⟨HE9.out.D.chg hc (fun x hx e => HF9.out x hx e), hc.heap HE9.out.K (fun e => HQ8.out.1 e.symm), hc.heap HE9.out.KB (fun e => HQ8.out.2 e.symm), HE9.out.nq, HE9.out.bw.trans (hc.below (fun x hx => hx ▸ HQ9.out) HE9.out.bw.size)⟩
                  rw [← hw10]
                  clear hw10 HE9 HY9 HX9 y0 y1 y2 y3 y4 z0 z1 z2 z3 z4 f9
                  obtain ⟨y0, y1, y2, y3, y4⟩ := nblk_box HY10.out
                  go_upto_region 28 with (first
                    | (go_at_call 17; refine (save_nblk w10 w.heap.size g F5 d6 p0 p1 (bi.gen + 1) HE10.out.D S2.out HX0.out (next_some hb.out) hl0.out).mono ?_; rintro e w11 ⟨rfl, F11, r0, r1, h11, hS11, hb11, hc11, hG11⟩; have HE11 := Lib.hid (HE10.out.step h11 hc11 hG11); have HY11 : Hid (KRow w11 q9 (nblk (bi.gen + 1))) := hc11.heap HY10.out (fun hk => HF9.out q9 hk rfl); have HB11 := Lib.hid hb11; have HS11 := Lib.hid hS11; clear h11 hc11 hG11 hb11 hS11)
                    | fail)
                  clear HE10 HY10 y0 y1 y2 y3 y4
                  go_upto_region 29 with (first
                    | (go_at_call 15; refine (load_some w11 w.heap.size g F11 _ r0 r1 (nblk (bi.gen + 1)) HE11.out.D HS11.out HB11.out).mono ?_; unfold nblk; rintro e w12 ⟨v12, rfl, rfl, hb12⟩; have HE12 := Lib.hid (HE11.out.below hb12); have HY12 := Lib.hid (HY11.out.below hb12); clear hb12)
                    | fail)
                  clear HE11 HY11
                  obtain ⟨w13, hw13⟩ : ∃ w13, w13 = w12.alloc (.cells #[.int .i64 (bi.gen + 1), .int .i64 3, .int .i64 0, .int .i64 0, .int .i64 0] 23) := ⟨_, rfl⟩
                  have hz13 : KRow w13 w12.heap.size (nblk (bi.gen + 1)) := by rw [hw13]; exact KRow.made w12 (nblk (bi.gen + 1))
                  have hb13 : Below w12.heap.size w12 w13 := by rw [hw13]; exact bl.alloc (Nat.le_refl _) _
                  rw [← hw13]
                  have HE13 := Lib.hid (HE12.out.below hb13)
                  have hy13 := HY12.out.below hb13
                  clear hw13 hb13 HE12 HY12
                  generalize w12.heap.size = q13 at hz13 ⊢
                  obtain ⟨y0, y1, y2, y3, y4⟩ := nblk_box hy13
                  obtain ⟨z0, z1, z2, z3, z4⟩ := nblk_box hz13
                  clear hy13 hz13
                  go_wp2
                  go_ret
                  exact ⟨rfl, HE13.out.bw⟩
                · subst he ho
                  have hb := Lib.hid HCE.out.2
                  have hx0 : 0 ≤ a.gen ∧ a.gen ≤ 900 := by have := HA.out hi0; omega
                  have hne : a.gen ≠ bi.gen := by have := HG.out; have := HA.out hi0; omega
                  have HX0 : Hid (0 ≤ a.gen + 1 ∧ a.gen + 1 ≤ 1000) := (show 0 ≤ a.gen + 1 ∧ a.gen + 1 ≤ 1000 by omega)
                  clear HC HCE
                  go_upto_region 20 with (first
                    | (go_at_call 15; refine (load_some w6 w.heap.size g F5 d6 p0 p1 a HE6.out.D S2.out hb.out).mono ?_; rintro e w7 ⟨v7, rfl, rfl, hb7⟩; have HE7 := Lib.hid (HE6.out.below hb7); clear hb7)
                    | fail)
                  clear HE6
                  obtain ⟨w8, hw8⟩ : ∃ w8, w8 = w7.alloc (.cells #[.int .i64 a.gen, .int .i64 a.epoch, .int .i64 a.first, .int .i64 a.from_, .int .i64 a.count] 23) := ⟨_, rfl⟩
                  have HX8 : Hid (KRow w8 w7.heap.size a) := by show KRow _ _ _; rw [hw8]; exact KRow.made w7 a
                  have hb8 : Below w7.heap.size w7 w8 := by rw [hw8]; exact bl.alloc (Nat.le_refl _) _
                  rw [← hw8]
                  have HE8 := Lib.hid (HE7.out.below hb8)
                  clear hw8 hb8 HE7
                  generalize w7.heap.size = q8 at HX8 ⊢
                  obtain ⟨x0, x1, x2, x3, x4⟩ := HE8.out.KB.box
                  obtain ⟨u0, u1, u2, u3, u4⟩ := HE8.out.K.box
                  obtain ⟨z0, z1, z2, z3, z4⟩ := HX8.out.box
                  go_upto_region 25 with (fail)
                  clear x0 x1 x2 x3 x4 u0 u1 u2 u3 u4 z0 z1 z2 z3 z4
                  obtain ⟨w9, hw9⟩ : ∃ w9, w9 = w8.alloc (.cells #[.int .i64 0, .int .i64 3, .int .i64 0, .int .i64 0, .int .i64 0] 23) := ⟨_, rfl⟩
                  have HY9 : Hid (KRow w9 w8.heap.size (nblk 0)) := by show KRow _ _ _; rw [hw9]; exact KRow.made w8 (nblk 0)
                  have hb9 : Below w8.heap.size w8 w9 := by rw [hw9]; exact bl.alloc (Nat.le_refl _) _
                  rw [← hw9]
                  have HE9 := Lib.hid (HE8.out.below hb9)
                  have HX9 := Lib.hid (HX8.out.below hb9)
                  have HF9 : Hid (∀ x, F5 x → x ≠ w8.heap.size) := fun x hx e => by have := (HE8.out.D.F_lt x hx).2; omega
                  have HQ8 : Hid (w8.heap.size ≠ q ∧ w8.heap.size ≠ q13) := ⟨fun e => by have := HE8.out.K.lt; omega, fun e => by have := HE8.out.KB.lt; omega⟩
                  have HQ9 : Hid (w.heap.size ≤ w8.heap.size) := HE8.out.bw.size
                  clear hw9 hb9 HE8 HX8
                  generalize w8.heap.size = q9 at HY9 HF9 HQ9 HQ8 ⊢
                  obtain ⟨z0, z1, z2, z3, z4⟩ := HX9.out.box
                  obtain ⟨y0, y1, y2, y3, y4⟩ := HY9.out.box
                  have f9 := HY9.out.free
                  go_upto_region 27 with (fail)
                  obtain ⟨w10, hw10⟩ : ∃ w10, w10 = w9.setCell ⟨q9, 0, none⟩ (.int .i64 (a.gen + 1)) := ⟨_, rfl⟩
                  have HY10 : Hid (KRow w10 q9 (nblk (a.gen + 1))) := by show KRow _ _ _; rw [hw10]; exact (heap_setCell_same _ _ 0 _ _ (.int .i64 (a.gen + 1)) HY9.out).trans rfl
                  have HE10 : Hid (CutEnd w w10 g q q13 F5 d6 a bi) := by
                    have hc : Chg (fun k => k = q9) w9 w10 := by rw [hw10]; exact chg_g1 w9 q9 0 _
                    exact ⟨HE9.out.D.chg hc (fun x hx e => HF9.out x hx e), hc.heap HE9.out.K (fun e => HQ8.out.1 e.symm), hc.heap HE9.out.KB (fun e => HQ8.out.2 e.symm), HE9.out.nq, HE9.out.bw.trans (hc.below (fun x hx => hx ▸ HQ9.out) HE9.out.bw.size)⟩
                  rw [← hw10]
                  clear hw10 HE9 HY9 HX9 y0 y1 y2 y3 y4 z0 z1 z2 z3 z4 f9
                  obtain ⟨y0, y1, y2, y3, y4⟩ := nblk_box HY10.out
                  go_upto_region 28 with (first
                    | (go_at_call 17; refine (save_nblk w10 w.heap.size g F5 d6 p0 p1 (a.gen + 1) HE10.out.D S2.out HX0.out (next_some hb.out) hl0.out).mono ?_; rintro e w11 ⟨rfl, F11, r0, r1, h11, hS11, hb11, hc11, hG11⟩; have HE11 := Lib.hid (HE10.out.step h11 hc11 hG11); have HY11 : Hid (KRow w11 q9 (nblk (a.gen + 1))) := hc11.heap HY10.out (fun hk => HF9.out q9 hk rfl); have HB11 := Lib.hid hb11; have HS11 := Lib.hid hS11; clear h11 hc11 hG11 hb11 hS11)
                    | fail)
                  clear HE10 HY10 y0 y1 y2 y3 y4
                  go_upto_region 29 with (first
                    | (go_at_call 15; refine (load_some w11 w.heap.size g F11 _ r0 r1 (nblk (a.gen + 1)) HE11.out.D HS11.out HB11.out).mono ?_; unfold nblk; rintro e w12 ⟨v12, rfl, rfl, hb12⟩; have HE12 := Lib.hid (HE11.out.below hb12); have HY12 := Lib.hid (HY11.out.below hb12); clear hb12)
                    | fail)
                  clear HE11 HY11
                  obtain ⟨w13, hw13⟩ : ∃ w13, w13 = w12.alloc (.cells #[.int .i64 (a.gen + 1), .int .i64 3, .int .i64 0, .int .i64 0, .int .i64 0] 23) := ⟨_, rfl⟩
                  have hz13 : KRow w13 w12.heap.size (nblk (a.gen + 1)) := by rw [hw13]; exact KRow.made w12 (nblk (a.gen + 1))
                  have hb13 : Below w12.heap.size w12 w13 := by rw [hw13]; exact bl.alloc (Nat.le_refl _) _
                  rw [← hw13]
                  have HE13 := Lib.hid (HE12.out.below hb13)
                  have hy13 := HY12.out.below hb13
                  clear hw13 hb13 HE12 HY12
                  generalize w12.heap.size = q13 at hz13 ⊢
                  obtain ⟨y0, y1, y2, y3, y4⟩ := nblk_box hy13
                  obtain ⟨z0, z1, z2, z3, z4⟩ := nblk_box hz13
                  clear hy13 hz13
                  go_wp2
                  go_ret
                  exact ⟨rfl, HE13.out.bw⟩
                · subst he ho
                  have hb := Lib.hid HCE.out.2
                  have HX0 : Hid (0 ≤ Blk.zero.gen + 1 ∧ Blk.zero.gen + 1 ≤ 1000) := (show 0 ≤ Blk.zero.gen + 1 ∧ Blk.zero.gen + 1 ≤ 1000 by decide)
                  clear HC HCE
                  go_upto_region 20 with (first
                    | (go_at_call 15; refine (load_none w6 w.heap.size g F5 d6 p0 p1 HE6.out.D S2.out hb.out).mono ?_; rintro e w7 ⟨v7, rfl, rfl, hb7⟩; have HE7 := Lib.hid (HE6.out.below hb7); clear hb7)
                    | fail)
                  clear HE6
                  obtain ⟨w8, hw8⟩ : ∃ w8, w8 = w7.alloc (.cells #[.int .i64 0, .int .i64 0, .int .i64 0, .int .i64 0, .int .i64 0] 23) := ⟨_, rfl⟩
                  have HX8 : Hid (KRow w8 w7.heap.size Blk.zero) := by show KRow _ _ _; rw [hw8]; exact KRow.made w7 Blk.zero
                  have hb8 : Below w7.heap.size w7 w8 := by rw [hw8]; exact bl.alloc (Nat.le_refl _) _
                  rw [← hw8]
                  have HE8 := Lib.hid (HE7.out.below hb8)
                  clear hw8 hb8 HE7
                  generalize w7.heap.size = q8 at HX8 ⊢
                  obtain ⟨x0, x1, x2, x3, x4⟩ := HE8.out.KB.box
                  obtain ⟨u0, u1, u2, u3, u4⟩ := HE8.out.K.box
                  obtain ⟨z0, z1, z2, z3, z4⟩ := HX8.out.box
                  go_upto_region 25 with (fail)
                  clear x0 x1 x2 x3 x4 u0 u1 u2 u3 u4 z0 z1 z2 z3 z4
                  obtain ⟨w9, hw9⟩ : ∃ w9, w9 = w8.alloc (.cells #[.int .i64 0, .int .i64 3, .int .i64 0, .int .i64 0, .int .i64 0] 23) := ⟨_, rfl⟩
                  have HY9 : Hid (KRow w9 w8.heap.size (nblk 0)) := by show KRow _ _ _; rw [hw9]; exact KRow.made w8 (nblk 0)
                  have hb9 : Below w8.heap.size w8 w9 := by rw [hw9]; exact bl.alloc (Nat.le_refl _) _
                  rw [← hw9]
                  have HE9 := Lib.hid (HE8.out.below hb9)
                  have HX9 := Lib.hid (HX8.out.below hb9)
                  have HF9 : Hid (∀ x, F5 x → x ≠ w8.heap.size) := fun x hx e => by have := (HE8.out.D.F_lt x hx).2; omega
                  have HQ8 : Hid (w8.heap.size ≠ q ∧ w8.heap.size ≠ q13) := ⟨fun e => by have := HE8.out.K.lt; omega, fun e => by have := HE8.out.KB.lt; omega⟩
                  have HQ9 : Hid (w.heap.size ≤ w8.heap.size) := HE8.out.bw.size
                  clear hw9 hb9 HE8 HX8
                  generalize w8.heap.size = q9 at HY9 HF9 HQ9 HQ8 ⊢
                  have HE10 := HE9
                  have HY10 := HY9
                  clear HE9 HY9
                  go_upto_region 27 with (fail)
                  obtain ⟨y0, y1, y2, y3, y4⟩ := nblk_box HY10.out
                  go_upto_region 28 with (first
                    | (go_at_call 17; refine (save_nblk w9 w.heap.size g F5 d6 p0 p1 0 HE10.out.D S2.out ⟨by decide, by decide⟩ (next_none hb.out) hl0.out).mono ?_; rintro e w11 ⟨rfl, F11, r0, r1, h11, hS11, hb11, hc11, hG11⟩; have HE11 := Lib.hid (HE10.out.step h11 hc11 hG11); have HY11 : Hid (KRow w11 q9 (nblk 0)) := hc11.heap HY10.out (fun hk => HF9.out q9 hk rfl); have HB11 := Lib.hid hb11; have HS11 := Lib.hid hS11; clear h11 hc11 hG11 hb11 hS11)
                    | fail)
                  clear HE10 HY10 y0 y1 y2 y3 y4
                  go_upto_region 29 with (first
                    | (go_at_call 15; refine (load_some w11 w.heap.size g F11 _ r0 r1 (nblk 0) HE11.out.D HS11.out HB11.out).mono ?_; unfold nblk; rintro e w12 ⟨v12, rfl, rfl, hb12⟩; have HE12 := Lib.hid (HE11.out.below hb12); have HY12 := Lib.hid (HY11.out.below hb12); clear hb12)
                    | fail)
                  clear HE11 HY11
                  obtain ⟨w13, hw13⟩ : ∃ w13, w13 = w12.alloc (.cells #[.int .i64 0, .int .i64 3, .int .i64 0, .int .i64 0, .int .i64 0] 23) := ⟨_, rfl⟩
                  have hz13 : KRow w13 w12.heap.size (nblk 0) := by rw [hw13]; exact KRow.made w12 (nblk 0)
                  have hb13 : Below w12.heap.size w12 w13 := by rw [hw13]; exact bl.alloc (Nat.le_refl _) _
                  rw [← hw13]
                  have HE13 := Lib.hid (HE12.out.below hb13)
                  have hy13 := HY12.out.below hb13
                  clear hw13 hb13 HE12 HY12
                  generalize w12.heap.size = q13 at hz13 ⊢
                  obtain ⟨y0, y1, y2, y3, y4⟩ := nblk_box hy13
                  obtain ⟨z0, z1, z2, z3, z4⟩ := nblk_box hz13
                  clear hy13 hz13
                  go_wp2
                  go_ret
                  exact ⟨rfl, HE13.out.bw⟩
  · have hcs : l.length < 1 ∨ 20 < l.length := by omega
    rcases hcs with hc | hc
    · go_enter Try.func6, Try.ntmps6
      go_wp2_with (first
        | (go_at_call 16; refine (answers10_any w2).mono ?_; rintro e w3 ⟨rfl, hb3⟩)
        | (go_at_call 16; refine (answers10_any w1).mono ?_; rintro e w2 ⟨rfl, hb2⟩)
        | (go_at_call 27; refine (new_any w 4 (by omega) (by omega)).mono ?_; rintro e w1 ⟨g, F, rfl, h1, hb1⟩)
        | fail)
      go_ret
      exact ⟨rfl, nx (nx hb1 hb2) hb3⟩
    · go_enter Try.func6, Try.ntmps6
      go_wp2_with (first
        | (go_at_call 16; refine (answers10_any w2).mono ?_; rintro e w3 ⟨rfl, hb3⟩)
        | (go_at_call 16; refine (answers10_any w1).mono ?_; rintro e w2 ⟨rfl, hb2⟩)
        | (go_at_call 27; refine (new_any w 4 (by omega) (by omega)).mono ?_; rintro e w1 ⟨g, F, rfl, h1, hb1⟩)
        | fail)
      go_ret
      exact ⟨rfl, nx (nx hb1 hb2) hb3⟩
end Go.Proofs.Ytbjaphldncagjaa
