/- super: Load. -/
import Derived.Test.YtbjaphldncagjaaSuper2
namespace Go.Proofs.Ytbjaphldncagjaa
open Go.RowKit
set_option maxRecDepth 100000

def blkV (b : Blk) : Value := .agg #[.int .i64 b.gen, .int .i64 b.epoch, .int .i64 b.first, .int .i64 b.from_, .int .i64 b.count]
/-- What Load says. -/
def loadV (o : Option Blk) : Value := .tuple #[blkV (o.getD Blk.zero), .int .i64 (if o.isSome then 0 else 11)]
/-- A block's row. -/
def KRow (w : World) (q : Nat) (b : Blk) : Prop := w.heap[q]? = some (.cells #[.int .i64 b.gen, .int .i64 b.epoch, .int .i64 b.first, .int .i64 b.from_, .int .i64 b.count] 23 (0, 0))
section
variable {w w' : World} {q : Nat} {b : Blk}
theorem KRow.made (w : World) (b : Blk) : KRow (w.alloc (.cells #[.int .i64 b.gen, .int .i64 b.epoch, .int .i64 b.first, .int .i64 b.from_, .int .i64 b.count] 23)) w.heap.size b := heap_alloc_new _ _
theorem KRow.lt (h : KRow w q b) : q < w.heap.size := (Array.getElem?_eq_some_iff.1 h).1
theorem KRow.below (h : KRow w q b) (hb : Below w.heap.size w w') : KRow w' q b := (hb.block q h.lt).trans h
theorem KRow.box (h : KRow w q b) : KBox w q b :=
  ⟨(cell_of_row _ _ _ _ _ _ h).trans rfl, (cell_of_row _ _ _ _ _ _ h).trans rfl, (cell_of_row _ _ _ _ _ _ h).trans rfl, (cell_of_row _ _ _ _ _ _ h).trans rfl, (cell_of_row _ _ _ _ _ _ h).trans rfl⟩
theorem KRow.free (h : KRow w q b) (k : Nat) : w.frozen? ⟨q, k, none⟩ = false := frozen_of_row _ _ _ _ _ h
theorem KRow.put (h : KRow w q b) (c : Blk) : KRow (((((w.setCell ⟨q, 0, none⟩ (.int .i64 c.gen)).setCell ⟨q, 1, none⟩ (.int .i64 c.epoch)).setCell ⟨q, 2, none⟩ (.int .i64 c.first)).setCell ⟨q, 3, none⟩ (.int .i64 c.from_)).setCell ⟨q, 4, none⟩ (.int .i64 c.count)) q c :=
  set5 h _ _ _ _ _
theorem KRow.past (h : KRow w q b) {p : Nat} (hp : q ≠ p) (v0 v1 v2 v3 v4 : Value) : KRow (((((w.setCell ⟨p, 0, none⟩ v0).setCell ⟨p, 1, none⟩ v1).setCell ⟨p, 2, none⟩ v2).setCell ⟨p, 3, none⟩ v3).setCell ⟨p, 4, none⟩ v4) q b :=
  (heap5 w hp _ _ _ _ _).trans h
end

theorem pread_none (w : World) (B g : Nat) (F : Nat → Prop) (d : Dv) (k : Int) (x : Option (List UInt8)) (h : Dev w B F g d) (hd : d.down = false) (hu : d.unsure = []) (hk : k = 0 ∨ k = 1) (hx : d.sure[k.toNat]? = some x) (hs : SecO x none) :
    Calls Try.prog 70 #[.pointer (some ⟨g, 0, none⟩), .int .i64 k] w (RetP (fun v _ => v = .tuple #[.agg #[.int .i64 0, .int .i64 0, .int .i64 0, .int .i64 0, .int .i64 0], .bool false, .int .i64 0]) w) :=
  pread_any w B g F d k x none h hd hu hk hx hs (fun b h => by cases h)
theorem pread_some (w : World) (B g : Nat) (F : Nat → Prop) (d : Dv) (k : Int) (x : Option (List UInt8)) (b : Blk) (h : Dev w B F g d) (hd : d.down = false) (hu : d.unsure = []) (hk : k = 0 ∨ k = 1) (hx : d.sure[k.toNat]? = some x) (hs : SecO x (some b)) (hp : b.gen % 2 = k) :
    Calls Try.prog 70 #[.pointer (some ⟨g, 0, none⟩), .int .i64 k] w (RetP (fun v _ => v = .tuple #[.agg #[.int .i64 b.gen, .int .i64 b.epoch, .int .i64 b.first, .int .i64 b.from_, .int .i64 b.count], .bool true, .int .i64 0]) w) :=
  pread_any w B g F d k x (some b) h hd hu hk hx hs (fun c h => by injection h with h; rw [← h]; exact hp)

theorem chg5 (w : World) (p : Nat) (v0 v1 v2 v3 v4 : Value) : Chg (fun k => k = p) w (((((w.setCell ⟨p, 0, none⟩ v0).setCell ⟨p, 1, none⟩ v1).setCell ⟨p, 2, none⟩ v2).setCell ⟨p, 3, none⟩ v3).setCell ⟨p, 4, none⟩ v4) := by
  have h1 : ∀ {u : World} (j : Nat) (v : Value), Chg (fun k => k = p) w u → Chg (fun k => k = p) w (u.setCell ⟨p, j, none⟩ v) := fun j v h => h.setCell (p := ⟨p, j, none⟩) (Or.inl rfl) v
  exact h1 _ _ (h1 _ _ (h1 _ _ (h1 _ _ (h1 _ _ (Chg.refl _ w)))))

/-- The best of the first i places. -/
def bestTo (o0 o1 : Option Blk) (i : Nat) : Option Blk := if i = 0 then none else if i = 1 then o0 else bestO o0 o1

set_option maxHeartbeats 4000000 in
theorem load_any (w : World) (B g : Nat) (F : Nat → Prop) (d : Dv) (o0 o1 : Option Blk) (h : Dev w B F g d) (hs : SupSt d o0 o1) :
    Calls Try.prog 15 #[.pointer (some ⟨g, 0, none⟩)] w (RetP (fun v _ => v = loadV (bestO o0 o1)) w) := by
  have h2 := hs.two
  have HDN := Lib.hid hs.down
  have HS := Lib.hid hs
  clear hs
  obtain ⟨w1, hw1⟩ : ∃ w1, w1 = w.alloc (.cells #[.int .i64 0, .int .i64 0, .int .i64 0, .int .i64 0, .int .i64 0] 23) := ⟨_, rfl⟩
  have hb1 : Below w.heap.size w w1 := by rw [hw1]; exact bl.alloc (Nat.le_refl _) _
  have HQ1 : Hid (KRow w1 w.heap.size Blk.zero) := by show KRow _ _ _; rw [hw1]; exact KRow.made w Blk.zero
  have H1 := Lib.hid (h.below hb1)
  clear h
  go_enter Try.func15, Try.ntmps15
  go_upto_region 1 with (fail)
  rw [← hw1]
  clear hw1
  go_upto_region 6 with (first
    | (go_at_call 69; refine (down_any w1 B g F d H1.out).mono ?_; rw [HDN.out]; rintro e w2 ⟨rfl, rfl⟩)
    | (go_at_call 68; refine (len_any w1 B g F d H1.out).mono ?_; rintro e w2 ⟨rfl, rfl⟩)
    | fail)
  obtain ⟨w2, hw2⟩ : ∃ w2, w2 = w1.alloc (.cells #[.int .i64 0, .int .i64 0, .int .i64 0, .int .i64 0, .int .i64 0] 23) := ⟨_, rfl⟩
  have hb2 : Below w1.heap.size w1 w2 := by rw [hw2]; exact bl.alloc (Nat.le_refl _) _
  have HB2 := Lib.hid (nx hb1 hb2)
  have HQ2 := Lib.hid (HQ1.out.below hb2)
  have HK2 : Hid (KRow w2 w1.heap.size Blk.zero) := by show KRow _ _ _; rw [hw2]; exact KRow.made w1 Blk.zero
  have H2 := Lib.hid (H1.out.below hb2)
  have hlt := HQ1.out.lt
  have hF4 : Hid (∀ k, F k → ¬ k = w1.heap.size) := fun k hk e => by have := (H1.out.F_lt k hk).2; omega
  rw [← hw2]
  clear hw2 H1 HQ1 hb1 hb2
  generalize w1.heap.size = q4 at HK2 hlt hF4 ⊢
  have HF := hF4
  generalize hq2 : w.heap.size = q2 at HQ2 HB2 hlt ⊢
  obtain ⟨x0, hx0, hs0⟩ := HS.out.s0
  obtain ⟨x1, hx1, hs1⟩ := HS.out.s1
  have hp0 := HS.out.p0
  have hp1 := HS.out.p1
  have hun := HS.out.unsure
  have HX0 := Lib.hid hx0
  have HX1 := Lib.hid hx1
  have HU := Lib.hid hun
  clear hx0 hx1 hun
  have HQ := Lib.hid hq2
  clear hq2
  go_wp2_with fail
  go_loopw [5, 19] (fun fv iv wr => ∃ i : Nat, iv = .int .i64 i ∧ i ≤ 2 ∧ fv = .bool (bestTo o0 o1 i).isSome ∧ Hid (KRow wr q4 ((bestTo o0 o1 i).getD Blk.zero)) ∧ Hid (KRow wr q2 Blk.zero) ∧ Hid (Dev wr B F g d) ∧ Hid (Below q2 w wr)) (fun _ iv _ => 2 - (intOf iv).toNat)
  case atStart => exact ⟨0, rfl, by omega, rfl, HK2, HQ2, H2, HB2⟩
  case round =>
    clear HK2 HQ2 H2 HB2
    obtain ⟨i, rfl, hi, rfl, HK, HQ2, H, HB⟩ := hrel
    by_cases hi0 : i = 0
    · subst hi0
      cases o0 with
      | none => 
        have hk4 : KRow wr q4 Blk.zero := HK.out
        clear HK
        go_upto_region 11 with (first
          | (go_at_call 70; refine (pread_none wr B g F d 0 x0 H.out HDN.out HU.out (.inl rfl) HX0.out hs0).mono ?_; rintro e w3 ⟨v3, rfl, rfl, hb3⟩)
          | fail)
        obtain ⟨w4, hw4⟩ : ∃ w4, w4 = w3.alloc (.cells #[.int .i64 0, .int .i64 0, .int .i64 0, .int .i64 0, .int .i64 0] 23) := ⟨_, rfl⟩
        have hb4 : Below w3.heap.size w3 w4 := by rw [hw4]; exact bl.alloc (Nat.le_refl _) _
        have hn4 : KRow w4 w3.heap.size Blk.zero := by rw [hw4]; exact KRow.made w3 Blk.zero
        rw [← hw4]
        clear hw4
        have hk5 := (hk4.below hb3).below hb4
        have hne : w3.heap.size ≠ q4 := Nat.ne_of_gt (Nat.lt_of_lt_of_le hk4.lt hb3.size)
        have HB5 := Lib.hid (HB.out.trans ((nx hb3 hb4).mono (Nat.le_of_lt HQ2.out.lt)))
        have HQ5 := Lib.hid ((HQ2.out.below hb3).below hb4)
        have H5 := Lib.hid ((H.out.below hb3).below hb4)
        obtain ⟨c0, c1, c2, c3, c4⟩ := hk5.box
        obtain ⟨d0, d1, d2, d3, d4⟩ := hn4.box
        have f4 := hk5.free
        have HK5 := Lib.hid hk5
        clear hk5 hk4 hn4
        go_wp2
        go_roundw
        case rel => exact ⟨1, by rfl, by omega, by simp [bestTo], HK5, HQ5, H5, HB5⟩
        case measure => simp [intOf]
      | some a => 
        have hk4 : KRow wr q4 Blk.zero := HK.out
        clear HK
        go_upto_region 11 with (first
          | (go_at_call 70; refine (pread_some wr B g F d 0 x0 a H.out HDN.out HU.out (.inl rfl) HX0.out hs0 (hp0 a rfl)).mono ?_; rintro e w3 ⟨v3, rfl, rfl, hb3⟩)
          | fail)
        obtain ⟨w4, hw4⟩ : ∃ w4, w4 = w3.alloc (.cells #[.int .i64 a.gen, .int .i64 a.epoch, .int .i64 a.first, .int .i64 a.from_, .int .i64 a.count] 23) := ⟨_, rfl⟩
        have hb4 : Below w3.heap.size w3 w4 := by rw [hw4]; exact bl.alloc (Nat.le_refl _) _
        have hn4 : KRow w4 w3.heap.size a := by rw [hw4]; exact KRow.made w3 a
        rw [← hw4]
        clear hw4
        have hk5 := (hk4.below hb3).below hb4
        have hne : w3.heap.size ≠ q4 := Nat.ne_of_gt (Nat.lt_of_lt_of_le hk4.lt hb3.size)
        have HB5 := Lib.hid (HB.out.trans ((nx hb3 hb4).mono (Nat.le_of_lt HQ2.out.lt)))
        have HQ5 := Lib.hid ((HQ2.out.below hb3).below hb4)
        have H5 := Lib.hid ((H.out.below hb3).below hb4)
        obtain ⟨c0, c1, c2, c3, c4⟩ := hk5.box
        obtain ⟨d0, d1, d2, d3, d4⟩ := hn4.box
        have f4 := hk5.free
        have HK5 := Lib.hid hk5
        clear hk5 hk4 hn4
        go_wp2
        have HKN := Lib.hid (HK5.out.put a)
        have HQN := Lib.hid (HQ5.out.past (p := q4) (Nat.ne_of_lt hlt) (.int .i64 a.gen) (.int .i64 a.epoch) (.int .i64 a.first) (.int .i64 a.from_) (.int .i64 a.count))
        have HBN := Lib.hid (below5 HB5.out (Nat.le_of_lt hlt) (.int .i64 a.gen) (.int .i64 a.epoch) (.int .i64 a.first) (.int .i64 a.from_) (.int .i64 a.count))
        have HDN5 : Hid (Dev _ B F g d) := Lib.hid (H5.out.chg (chg5 _ q4 (.int .i64 a.gen) (.int .i64 a.epoch) (.int .i64 a.first) (.int .i64 a.from_) (.int .i64 a.count)) (fun k hk e => HF.out k hk e))
        go_roundw
        case rel => exact ⟨1, by rfl, by omega, by simp [bestTo], HKN, HQN, HDN5, HBN⟩
        case measure => simp [intOf]
    by_cases hi1 : i = 1
    · subst hi1
      cases o0 with
      | none =>
        cases o1 with
        | none => 
          have hk4 : KRow wr q4 Blk.zero := HK.out
          clear HK
          go_upto_region 11 with (first
            | (go_at_call 70; refine (pread_none wr B g F d 1 x1 H.out HDN.out HU.out (.inr rfl) HX1.out hs1).mono ?_; rintro e w3 ⟨v3, rfl, rfl, hb3⟩)
            | fail)
          obtain ⟨w4, hw4⟩ : ∃ w4, w4 = w3.alloc (.cells #[.int .i64 0, .int .i64 0, .int .i64 0, .int .i64 0, .int .i64 0] 23) := ⟨_, rfl⟩
          have hb4 : Below w3.heap.size w3 w4 := by rw [hw4]; exact bl.alloc (Nat.le_refl _) _
          have hn4 : KRow w4 w3.heap.size Blk.zero := by rw [hw4]; exact KRow.made w3 Blk.zero
          rw [← hw4]
          clear hw4
          have hk5 := (hk4.below hb3).below hb4
          have hne : w3.heap.size ≠ q4 := Nat.ne_of_gt (Nat.lt_of_lt_of_le hk4.lt hb3.size)
          have HB5 := Lib.hid (HB.out.trans ((nx hb3 hb4).mono (Nat.le_of_lt HQ2.out.lt)))
          have HQ5 := Lib.hid ((HQ2.out.below hb3).below hb4)
          have H5 := Lib.hid ((H.out.below hb3).below hb4)
          obtain ⟨c0, c1, c2, c3, c4⟩ := hk5.box
          obtain ⟨d0, d1, d2, d3, d4⟩ := hn4.box
          have f4 := hk5.free
          have HK5 := Lib.hid hk5
          clear hk5 hk4 hn4
          go_wp2
          go_roundw
          case rel => exact ⟨2, by rfl, by omega, by simp [bestTo, bestO], HK5, HQ5, H5, HB5⟩
          case measure => simp [intOf]
        | some b => 
          have hk4 : KRow wr q4 Blk.zero := HK.out
          clear HK
          go_upto_region 11 with (first
            | (go_at_call 70; refine (pread_some wr B g F d 1 x1 b H.out HDN.out HU.out (.inr rfl) HX1.out hs1 (hp1 b rfl)).mono ?_; rintro e w3 ⟨v3, rfl, rfl, hb3⟩)
            | fail)
          obtain ⟨w4, hw4⟩ : ∃ w4, w4 = w3.alloc (.cells #[.int .i64 b.gen, .int .i64 b.epoch, .int .i64 b.first, .int .i64 b.from_, .int .i64 b.count] 23) := ⟨_, rfl⟩
          have hb4 : Below w3.heap.size w3 w4 := by rw [hw4]; exact bl.alloc (Nat.le_refl _) _
          have hn4 : KRow w4 w3.heap.size b := by rw [hw4]; exact KRow.made w3 b
          rw [← hw4]
          clear hw4
          have hk5 := (hk4.below hb3).below hb4
          have hne : w3.heap.size ≠ q4 := Nat.ne_of_gt (Nat.lt_of_lt_of_le hk4.lt hb3.size)
          have HB5 := Lib.hid (HB.out.trans ((nx hb3 hb4).mono (Nat.le_of_lt HQ2.out.lt)))
          have HQ5 := Lib.hid ((HQ2.out.below hb3).below hb4)
          have H5 := Lib.hid ((H.out.below hb3).below hb4)
          obtain ⟨c0, c1, c2, c3, c4⟩ := hk5.box
          obtain ⟨d0, d1, d2, d3, d4⟩ := hn4.box
          have f4 := hk5.free
          have HK5 := Lib.hid hk5
          clear hk5 hk4 hn4
          go_wp2
          have HKN := Lib.hid (HK5.out.put b)
          have HQN := Lib.hid (HQ5.out.past (p := q4) (Nat.ne_of_lt hlt) (.int .i64 b.gen) (.int .i64 b.epoch) (.int .i64 b.first) (.int .i64 b.from_) (.int .i64 b.count))
          have HBN := Lib.hid (below5 HB5.out (Nat.le_of_lt hlt) (.int .i64 b.gen) (.int .i64 b.epoch) (.int .i64 b.first) (.int .i64 b.from_) (.int .i64 b.count))
          have HDN5 : Hid (Dev _ B F g d) := Lib.hid (H5.out.chg (chg5 _ q4 (.int .i64 b.gen) (.int .i64 b.epoch) (.int .i64 b.first) (.int .i64 b.from_) (.int .i64 b.count)) (fun k hk e => HF.out k hk e))
          go_roundw
          case rel => exact ⟨2, by rfl, by omega, by simp [bestTo, bestO], HKN, HQN, HDN5, HBN⟩
          case measure => simp [intOf]
      | some a =>
        cases o1 with
        | none => 
          have hk4 : KRow wr q4 a := HK.out
          clear HK
          go_upto_region 11 with (first
            | (go_at_call 70; refine (pread_none wr B g F d 1 x1 H.out HDN.out HU.out (.inr rfl) HX1.out hs1).mono ?_; rintro e w3 ⟨v3, rfl, rfl, hb3⟩)
            | fail)
          obtain ⟨w4, hw4⟩ : ∃ w4, w4 = w3.alloc (.cells #[.int .i64 0, .int .i64 0, .int .i64 0, .int .i64 0, .int .i64 0] 23) := ⟨_, rfl⟩
          have hb4 : Below w3.heap.size w3 w4 := by rw [hw4]; exact bl.alloc (Nat.le_refl _) _
          have hn4 : KRow w4 w3.heap.size Blk.zero := by rw [hw4]; exact KRow.made w3 Blk.zero
          rw [← hw4]
          clear hw4
          have hk5 := (hk4.below hb3).below hb4
          have hne : w3.heap.size ≠ q4 := Nat.ne_of_gt (Nat.lt_of_lt_of_le hk4.lt hb3.size)
          have HB5 := Lib.hid (HB.out.trans ((nx hb3 hb4).mono (Nat.le_of_lt HQ2.out.lt)))
          have HQ5 := Lib.hid ((HQ2.out.below hb3).below hb4)
          have H5 := Lib.hid ((H.out.below hb3).below hb4)
          obtain ⟨c0, c1, c2, c3, c4⟩ := hk5.box
          obtain ⟨d0, d1, d2, d3, d4⟩ := hn4.box
          have f4 := hk5.free
          have HK5 := Lib.hid hk5
          clear hk5 hk4 hn4
          go_wp2
          go_roundw
          case rel => exact ⟨2, by rfl, by omega, by simp [bestTo, bestO], HK5, HQ5, H5, HB5⟩
          case measure => simp [intOf]
        | some b =>
          rw [show bestTo (some a) (some b) 1 = some a from rfl]
          by_cases hab : a.gen < b.gen
          · have hk4 : KRow wr q4 a := HK.out
            clear HK
            go_upto_region 11 with (first
              | (go_at_call 70; refine (pread_some wr B g F d 1 x1 b H.out HDN.out HU.out (.inr rfl) HX1.out hs1 (hp1 b rfl)).mono ?_; rintro e w3 ⟨v3, rfl, rfl, hb3⟩)
              | fail)
            obtain ⟨w4, hw4⟩ : ∃ w4, w4 = w3.alloc (.cells #[.int .i64 b.gen, .int .i64 b.epoch, .int .i64 b.first, .int .i64 b.from_, .int .i64 b.count] 23) := ⟨_, rfl⟩
            have hb4 : Below w3.heap.size w3 w4 := by rw [hw4]; exact bl.alloc (Nat.le_refl _) _
            have hn4 : KRow w4 w3.heap.size b := by rw [hw4]; exact KRow.made w3 b
            rw [← hw4]
            clear hw4
            have hk5 := (hk4.below hb3).below hb4
            have hne : w3.heap.size ≠ q4 := Nat.ne_of_gt (Nat.lt_of_lt_of_le hk4.lt hb3.size)
            have HB5 := Lib.hid (HB.out.trans ((nx hb3 hb4).mono (Nat.le_of_lt HQ2.out.lt)))
            have HQ5 := Lib.hid ((HQ2.out.below hb3).below hb4)
            have H5 := Lib.hid ((H.out.below hb3).below hb4)
            obtain ⟨c0, c1, c2, c3, c4⟩ := hk5.box
            obtain ⟨d0, d1, d2, d3, d4⟩ := hn4.box
            have f4 := hk5.free
            have HK5 := Lib.hid hk5
            clear hk5 hk4 hn4
            go_wp2
            have HKN := Lib.hid (HK5.out.put b)
            have HQN := Lib.hid (HQ5.out.past (p := q4) (Nat.ne_of_lt hlt) (.int .i64 b.gen) (.int .i64 b.epoch) (.int .i64 b.first) (.int .i64 b.from_) (.int .i64 b.count))
            have HBN := Lib.hid (below5 HB5.out (Nat.le_of_lt hlt) (.int .i64 b.gen) (.int .i64 b.epoch) (.int .i64 b.first) (.int .i64 b.from_) (.int .i64 b.count))
            have HDN5 : Hid (Dev _ B F g d) := Lib.hid (H5.out.chg (chg5 _ q4 (.int .i64 b.gen) (.int .i64 b.epoch) (.int .i64 b.first) (.int .i64 b.from_) (.int .i64 b.count)) (fun k hk e => HF.out k hk e))
            go_roundw
            case rel =>
              have hbt : bestTo (some a) (some b) 2 = some b := if_pos hab
              exact ⟨2, by rfl, by omega, by rw [hbt]; rfl, by rw [hbt]; exact HKN, HQN, HDN5, HBN⟩
            case measure => simp [intOf]
          · have hk4 : KRow wr q4 a := HK.out
            clear HK
            go_upto_region 11 with (first
              | (go_at_call 70; refine (pread_some wr B g F d 1 x1 b H.out HDN.out HU.out (.inr rfl) HX1.out hs1 (hp1 b rfl)).mono ?_; rintro e w3 ⟨v3, rfl, rfl, hb3⟩)
              | fail)
            obtain ⟨w4, hw4⟩ : ∃ w4, w4 = w3.alloc (.cells #[.int .i64 b.gen, .int .i64 b.epoch, .int .i64 b.first, .int .i64 b.from_, .int .i64 b.count] 23) := ⟨_, rfl⟩
            have hb4 : Below w3.heap.size w3 w4 := by rw [hw4]; exact bl.alloc (Nat.le_refl _) _
            have hn4 : KRow w4 w3.heap.size b := by rw [hw4]; exact KRow.made w3 b
            rw [← hw4]
            clear hw4
            have hk5 := (hk4.below hb3).below hb4
            have hne : w3.heap.size ≠ q4 := Nat.ne_of_gt (Nat.lt_of_lt_of_le hk4.lt hb3.size)
            have HB5 := Lib.hid (HB.out.trans ((nx hb3 hb4).mono (Nat.le_of_lt HQ2.out.lt)))
            have HQ5 := Lib.hid ((HQ2.out.below hb3).below hb4)
            have H5 := Lib.hid ((H.out.below hb3).below hb4)
            obtain ⟨c0, c1, c2, c3, c4⟩ := hk5.box
            obtain ⟨d0, d1, d2, d3, d4⟩ := hn4.box
            have f4 := hk5.free
            have HK5 := Lib.hid hk5
            clear hk5 hk4 hn4
            go_wp2
            go_roundw
            case rel =>
              have hbt : bestTo (some a) (some b) 2 = some a := if_neg (Int.not_lt.2 hab)
              exact ⟨2, by rfl, by omega, by rw [hbt]; rfl, by rw [hbt]; exact HK5, HQ5, H5, HB5⟩
            case measure => simp [intOf]
    · obtain rfl : i = 2 := by omega
      clear hi0 hi1
      have hbt : bestTo o0 o1 2 = bestO o0 o1 := rfl
      rw [hbt] at HK ⊢
      clear hbt
      obtain ⟨e0, e1, e2, e3, e4⟩ := HQ2.out.box
      have f2 := HQ2.out.free
      cases hbo : bestO o0 o1 with
      | none =>
        rw [hbo] at HK
        have HBO := Lib.hid hbo
        clear hbo
        go_wp2
        have hr := HQ2.out.put Blk.zero
        have hbn := below5 HB.out (Nat.le_refl _) (.int .i64 0) (.int .i64 0) (.int .i64 0) (.int .i64 0) (.int .i64 0)
        obtain ⟨w6, hw6⟩ : ∃ w6, w6 = (((((wr.setCell ⟨q2, 0, none⟩ (.int .i64 0)).setCell ⟨q2, 1, none⟩ (.int .i64 0)).setCell ⟨q2, 2, none⟩ (.int .i64 0)).setCell ⟨q2, 3, none⟩ (.int .i64 0)).setCell ⟨q2, 4, none⟩ (.int .i64 0)) := ⟨_, rfl⟩
        rw [← hw6] at hbn ⊢
        have hr6 : KRow w6 q2 Blk.zero := by rw [hw6]; exact hr
        clear hw6 hr e0 e1 e2 e3 e4
        obtain ⟨e0, e1, e2, e3, e4⟩ := hr6.box
        refine bodyPost_ret (v := loadV none) ?_ rfl ⟨_, rfl, congrArg loadV HBO.out.symm, by rw [HQ.out]; exact hbn⟩
        simp [results, Try.results15, go_sem, e0, e1, e2, e3, e4, loadV, blkV]
      | some b =>
        rw [hbo] at HK
        have HBO := Lib.hid hbo
        clear hbo
        obtain ⟨c0, c1, c2, c3, c4⟩ := (show KRow wr q4 b from HK.out).box
        go_wp2
        have hr := HQ2.out.put b
        have hbn := below5 HB.out (Nat.le_refl _) (.int .i64 b.gen) (.int .i64 b.epoch) (.int .i64 b.first) (.int .i64 b.from_) (.int .i64 b.count)
        obtain ⟨w6, hw6⟩ : ∃ w6, w6 = (((((wr.setCell ⟨q2, 0, none⟩ (.int .i64 b.gen)).setCell ⟨q2, 1, none⟩ (.int .i64 b.epoch)).setCell ⟨q2, 2, none⟩ (.int .i64 b.first)).setCell ⟨q2, 3, none⟩ (.int .i64 b.from_)).setCell ⟨q2, 4, none⟩ (.int .i64 b.count)) := ⟨_, rfl⟩
        rw [← hw6] at hbn ⊢
        have hr6 : KRow w6 q2 b := by rw [hw6]; exact hr
        clear hw6 hr e0 e1 e2 e3 e4
        obtain ⟨e0, e1, e2, e3, e4⟩ := hr6.box
        refine bodyPost_ret (v := loadV (some b)) ?_ rfl ⟨_, rfl, congrArg loadV HBO.out.symm, by rw [HQ.out]; exact hbn⟩
        simp [results, Try.results15, go_sem, e0, e1, e2, e3, e4, loadV, blkV]
end Go.Proofs.Ytbjaphldncagjaa
