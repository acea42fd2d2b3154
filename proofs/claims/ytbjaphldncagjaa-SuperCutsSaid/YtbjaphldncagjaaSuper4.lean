/- super: Save. -/
import Derived.Test.YtbjaphldncagjaaSuper3
import Derived.Test.YtbjaphldncagjaaFlash4
import Derived.Test.YtbjaphldncagjaaPut
namespace Go.Proofs.Ytbjaphldncagjaa
open Go.RowKit
set_option maxRecDepth 100000

theorem Dv.sync_cases (d : Dv) : d.sync.2 = 0 ∨ d.sync.2 = 8 := by
  unfold Dv.sync
  split
  · exact .inr rfl
  · split
    · exact .inl rfl
    · exact .inr rfl
theorem Dv.write_cases (d : Dv) (k : Int) (bs : List UInt8) (hk : 0 ≤ k) (hk2 : k < d.sure.length) (hl : bs.length = 512) : (d.write k bs).2 = 0 ∨ (d.write k bs).2 = 8 := by
  unfold Dv.write
  rcases d.chk_cases k with ⟨_, h⟩ | ⟨_, h1, h⟩ | ⟨_, _, _, h⟩
  · rw [h, if_neg (by decide)]
    exact .inr rfl
  · omega
  · rw [h, if_pos rfl, if_neg (by omega)]
    split
    · exact .inl rfl
    · exact .inr rfl
theorem Dv.sync_sure (d : Dv) : d.sync.1.sure.length = d.sure.length := by
  unfold Dv.sync
  split
  · rfl
  · split
    · exact syncL_length _ _
    · rw [Dv.spent_sure]
theorem Dv.sync_unsure (d : Dv) (h : d.unsure = []) : d.sync.1.unsure = [] := by
  unfold Dv.sync
  split
  · exact h
  · split
    · rfl
    · rw [Dv.spent_unsure]; exact h
theorem Dv.write_unsure (d : Dv) (k : Int) (bs : List UInt8) (h : d.unsure = []) : (d.write k bs).1.unsure.length ≤ 1 := by
  unfold Dv.write
  split
  · split
    · rw [h]; simp
    · split
      · simp [h]
      · rw [Dv.spent_unsure, h]; simp
  · rw [h]; simp
theorem dataTo_len {b : Blk} (hf : b.fits) : ∀ j, j ≤ 5 → (dataTo b.nums j).length = 7 * j
  | 0, _ => rfl
  | j + 1, hj => by
    have ih := dataTo_len hf j (by omega)
    obtain ⟨n, hn⟩ : ∃ n, b.nums[j]? = some n := ⟨_, List.getElem?_eq_getElem (by show j < 5; omega)⟩
    have hg : b.nums.getD j 0 = n := by rw [List.getD_eq_getElem?_getD, hn]; rfl
    show (putB (dataTo b.nums j) (b.nums.getD j 0) 7).length = _
    rw [hg, putB_fit _ (hf n (List.mem_of_getElem? hn)), List.length_append, length_be, ih]
    omega

theorem nxq {q : Nat} {w w1 w2 : World} (h : Below q w w1) (hq : q < w1.heap.size) (h2 : Below w1.heap.size w1 w2) : Below q w w2 := h.trans (h2.mono (Nat.le_of_lt hq))

/-- Behind Save the device is what Save's work leaves. -/
def RetS (d : Dv) (b : Blk) (w : World) (B g : Nat) (F : Nat → Prop) (e : Ending) (w' : World) : Prop :=
  e = .returned (.int .i64 (d.save b).2) ∧ ∃ F', Dev w' B F' g (d.save b).1 ∧ Chg F w w' ∧ (∀ x, F x → F' x) ∧ ∀ x, F' x → F x ∨ w.heap.size ≤ x

set_option maxHeartbeats 8000000 in
theorem save_any (w : World) (B g : Nat) (F : Nat → Prop) (d : Dv) (o0 o1 : Option Blk) (b : Blk) (h : Dev w B F g d) (hs : SupSt d o0 o1) (hf : b.fits) (hn : nextOk o0 o1 b) :
    Calls Try.prog 17 #[.pointer (some ⟨g, 0, none⟩), .agg #[.int .i64 b.gen, .int .i64 b.epoch, .int .i64 b.first, .int .i64 b.from_, .int .i64 b.count]] w (RetS d b w B g F) := by
  have h2 := hs.two
  have hg0 := fitsB_true (hf b.gen (by simp [Blk.nums]))
  have hg1 : 0 ≤ b.gen ∧ b.gen < 72057594037927936 := ⟨hg0.2.2.1, by have := hg0.2.2.2; rwa [show (256 : Int) ^ (7 : Int).toNat = 72057594037927936 by decide] at this⟩
  clear hg0
  obtain ⟨w1, hw1⟩ : ∃ w1, w1 = w.alloc (.cells #[.int .i64 b.gen, .int .i64 b.epoch, .int .i64 b.first, .int .i64 b.from_, .int .i64 b.count] 23) := ⟨_, rfl⟩
  have hb1 : Below w.heap.size w w1 := by rw [hw1]; exact bl.alloc (Nat.le_refl _) _
  have HQ1 : Hid (KRow w1 w.heap.size b) := by show KRow _ _ _; rw [hw1]; exact KRow.made w b
  have H1 := Lib.hid (h.below hb1)
  have hFl := Lib.hid (fun k hk => (h.F_lt k hk).2)
  clear h
  have HS := Lib.hid hs
  have HF := Lib.hid hf
  clear hs hf
  obtain ⟨ob, oe, hl, hnb⟩ : ∃ (ob : Blk) (oe : Int), loadV (bestO o0 o1) = .tuple #[blkV ob, .int .i64 oe] ∧ ((oe = 0 ∧ b.gen = ob.gen + 1) ∨ (oe = 11 ∧ b.gen = 0)) := by
    unfold nextOk at hn
    unfold loadV
    cases ho : bestO o0 o1 with
    | none => rw [ho] at hn; exact ⟨_, _, rfl, .inr ⟨rfl, hn⟩⟩
    | some a => rw [ho] at hn; exact ⟨_, _, rfl, .inl ⟨rfl, hn⟩⟩
  have HL := Lib.hid hl
  have HNB := Lib.hid hnb
  clear hl hn hnb
  go_enter Try.func17, Try.ntmps17
  go_upto_region 1 with (fail)
  rw [← hw1]
  clear hw1
  go_upto_region 2 with (first
    | (go_at_call 15; refine (load_any w1 B g F d o0 o1 H1.out HS.out).mono ?_; rw [HL.out]; unfold blkV; rintro e w2 ⟨v2, rfl, rfl, hb2⟩)
    | fail)
  obtain ⟨w3, hw3⟩ : ∃ w3, w3 = w2.alloc (.cells #[.int .i64 ob.gen, .int .i64 ob.epoch, .int .i64 ob.first, .int .i64 ob.from_, .int .i64 ob.count] 23) := ⟨_, rfl⟩
  have hb3 : Below w2.heap.size w2 w3 := by rw [hw3]; exact bl.alloc (Nat.le_refl _) _
  have HO3 : Hid (KRow w3 w2.heap.size ob) := by show KRow _ _ _; rw [hw3]; exact KRow.made w2 ob
  have HQ3 := Lib.hid ((HQ1.out.below hb2).below hb3)
  have H3 := Lib.hid ((H1.out.below hb2).below hb3)
  have HB3 := Lib.hid (nx (nx hb1 hb2) hb3)
  rw [← hw3]
  clear hw3 HQ1 H1
  generalize w2.heap.size = qo at HO3 ⊢
  have hcase : oe = 0 ∨ oe = 11 := HNB.out.elim (fun h => .inl h.1) (fun h => .inr h.1)
  rcases hcase with rfl | rfl
  · clear HL
    go_wp2_with (first
      | (go_at_call 71; refine (numbers_any w3 w.heap.size).mono ?_; rintro e w4 ⟨v4, rfl, rfl, hb4⟩; unfold ptrs5; have HB4 := Lib.hid (nx HB3.out hb4); have HQ4 := Lib.hid (HQ3.out.below hb4); have HO4 := Lib.hid (HO3.out.below hb4); have H4 := Lib.hid (H3.out.below hb4))
      | fail)
    clear HB3 HQ3 HO3 H3
    go_loopw [7, 27] (fun dv iv wr => ∃ (j : Nat) (A : Option Addr) (c : Nat), dv = .slice A (7 * j) c ∧ iv = .int .i64 j ∧ j ≤ 5 ∧ Hid (RdB wr A (7 * j) (dataTo b.nums j)) ∧ 7 * j ≤ c ∧ Hid (KRow wr w.heap.size b) ∧ Hid (KRow wr qo ob) ∧ Hid (Dev wr B F g d) ∧ Hid (Below w.heap.size w wr)) (fun _ iv _ => 5 - (intOf iv).toNat)
    case atStart => exact ⟨0, none, 0, rfl, rfl, by omega, Rd.nil _ _ _, by omega, HQ4, HO4, H4, HB4⟩
    case round =>
      clear HQ4 HO4 H4 HB4
      obtain ⟨j, A, c, rfl, rfl, hj, HR, hjc, HQ, HO, H, HB⟩ := hrel
      by_cases h0 : j = 0
      · subst h0
        have hix := ptrs_at0 w.heap.size
        obtain ⟨x0, x1, x2, x3, x4⟩ := HQ.out.box
        have hfit : fitsB b.gen 7 = true := HF.out b.gen (by simp [Blk.nums])
        have HFT := Lib.hid hfit
        have hlen := dataTo_len HF.out 1 (by omega)
        have hlen := Lib.hid hlen
        clear hfit
        go_wp2_with (first
          | (go_at_call 73; refine (put_any A 0 c (dataTo b.nums 0) b.gen 7 wr HR.out (by omega)).mono ?_; rintro e w6 ⟨v6, rfl, hown6, hb6⟩; have hown6 : OwnB w6 wr.heap.size v6 (dataTo b.nums 1) := hown6; obtain ⟨A6, c6, rfl, hr6, hl6, _⟩ := hown6.form; rw [hlen.out] at hr6 hl6 ⊢; have HR6 := Lib.hid hr6; have HB6 := Lib.hid (nxq HB.out HQ.out.lt hb6); have HQ6 := Lib.hid (HQ.out.below hb6); have HO6 := Lib.hid (HO.out.below hb6); have H6 := Lib.hid (H.out.below hb6); clear hr6 hb6 hown6)
          | (go_at_call 72; refine (fits_any b.gen 7 wr).mono ?_; rw [HFT.out]; rintro e w5 ⟨rfl, rfl⟩)
          | fail)
        go_roundw
        case rel => exact ⟨1, A6, c6, rfl, by rfl, by omega, HR6, hl6, HQ6, HO6, H6, HB6⟩
        case measure => simp [intOf]
      by_cases h1 : j = 1
      · subst h1
        have hix := ptrs_at1 w.heap.size
        obtain ⟨x0, x1, x2, x3, x4⟩ := HQ.out.box
        have hfit : fitsB b.epoch 7 = true := HF.out b.epoch (by simp [Blk.nums])
        have HFT := Lib.hid hfit
        have hlen := dataTo_len HF.out 2 (by omega)
        have hlen := Lib.hid hlen
        clear hfit
        go_wp2_with (first
          | (go_at_call 73; refine (put_any A 7 c (dataTo b.nums 1) b.epoch 7 wr HR.out (by omega)).mono ?_; rintro e w6 ⟨v6, rfl, hown6, hb6⟩; have hown6 : OwnB w6 wr.heap.size v6 (dataTo b.nums 2) := hown6; obtain ⟨A6, c6, rfl, hr6, hl6, _⟩ := hown6.form; rw [hlen.out] at hr6 hl6 ⊢; have HR6 := Lib.hid hr6; have HB6 := Lib.hid (nxq HB.out HQ.out.lt hb6); have HQ6 := Lib.hid (HQ.out.below hb6); have HO6 := Lib.hid (HO.out.below hb6); have H6 := Lib.hid (H.out.below hb6); clear hr6 hb6 hown6)
          | (go_at_call 72; refine (fits_any b.epoch 7 wr).mono ?_; rw [HFT.out]; rintro e w5 ⟨rfl, rfl⟩)
          | fail)
        go_roundw
        case rel => exact ⟨2, A6, c6, rfl, by rfl, by omega, HR6, hl6, HQ6, HO6, H6, HB6⟩
        case measure => simp [intOf]
      by_cases h2 : j = 2
      · subst h2
        have hix := ptrs_at2 w.heap.size
        obtain ⟨x0, x1, x2, x3, x4⟩ := HQ.out.box
        have hfit : fitsB b.first 7 = true := HF.out b.first (by simp [Blk.nums])
        have HFT := Lib.hid hfit
        have hlen := dataTo_len HF.out 3 (by omega)
        have hlen := Lib.hid hlen
        clear hfit
        go_wp2_with (first
          | (go_at_call 73; refine (put_any A 14 c (dataTo b.nums 2) b.first 7 wr HR.out (by omega)).mono ?_; rintro e w6 ⟨v6, rfl, hown6, hb6⟩; have hown6 : OwnB w6 wr.heap.size v6 (dataTo b.nums 3) := hown6; obtain ⟨A6, c6, rfl, hr6, hl6, _⟩ := hown6.form; rw [hlen.out] at hr6 hl6 ⊢; have HR6 := Lib.hid hr6; have HB6 := Lib.hid (nxq HB.out HQ.out.lt hb6); have HQ6 := Lib.hid (HQ.out.below hb6); have HO6 := Lib.hid (HO.out.below hb6); have H6 := Lib.hid (H.out.below hb6); clear hr6 hb6 hown6)
          | (go_at_call 72; refine (fits_any b.first 7 wr).mono ?_; rw [HFT.out]; rintro e w5 ⟨rfl, rfl⟩)
          | fail)
        go_roundw
        case rel => exact ⟨3, A6, c6, rfl, by rfl, by omega, HR6, hl6, HQ6, HO6, H6, HB6⟩
        case measure => simp [intOf]
      by_cases h3 : j = 3
      · subst h3
        have hix := ptrs_at3 w.heap.size
        obtain ⟨x0, x1, x2, x3, x4⟩ := HQ.out.box
        have hfit : fitsB b.from_ 7 = true := HF.out b.from_ (by simp [Blk.nums])
        have HFT := Lib.hid hfit
        have hlen := dataTo_len HF.out 4 (by omega)
        have hlen := Lib.hid hlen
        clear hfit
        go_wp2_with (first
          | (go_at_call 73; refine (put_any A 21 c (dataTo b.nums 3) b.from_ 7 wr HR.out (by omega)).mono ?_; rintro e w6 ⟨v6, rfl, hown6, hb6⟩; have hown6 : OwnB w6 wr.heap.size v6 (dataTo b.nums 4) := hown6; obtain ⟨A6, c6, rfl, hr6, hl6, _⟩ := hown6.form; rw [hlen.out] at hr6 hl6 ⊢; have HR6 := Lib.hid hr6; have HB6 := Lib.hid (nxq HB.out HQ.out.lt hb6); have HQ6 := Lib.hid (HQ.out.below hb6); have HO6 := Lib.hid (HO.out.below hb6); have H6 := Lib.hid (H.out.below hb6); clear hr6 hb6 hown6)
          | (go_at_call 72; refine (fits_any b.from_ 7 wr).mono ?_; rw [HFT.out]; rintro e w5 ⟨rfl, rfl⟩)
          | fail)
        go_roundw
        case rel => exact ⟨4, A6, c6, rfl, by rfl, by omega, HR6, hl6, HQ6, HO6, H6, HB6⟩
        case measure => simp [intOf]
      by_cases h4 : j = 4
      · subst h4
        have hix := ptrs_at4 w.heap.size
        obtain ⟨x0, x1, x2, x3, x4⟩ := HQ.out.box
        have hfit : fitsB b.count 7 = true := HF.out b.count (by simp [Blk.nums])
        have HFT := Lib.hid hfit
        have hlen := dataTo_len HF.out 5 (by omega)
        have hlen := Lib.hid hlen
        clear hfit
        go_wp2_with (first
          | (go_at_call 73; refine (put_any A 28 c (dataTo b.nums 4) b.count 7 wr HR.out (by omega)).mono ?_; rintro e w6 ⟨v6, rfl, hown6, hb6⟩; have hown6 : OwnB w6 wr.heap.size v6 (dataTo b.nums 5) := hown6; obtain ⟨A6, c6, rfl, hr6, hl6, _⟩ := hown6.form; rw [hlen.out] at hr6 hl6 ⊢; have HR6 := Lib.hid hr6; have HB6 := Lib.hid (nxq HB.out HQ.out.lt hb6); have HQ6 := Lib.hid (HQ.out.below hb6); have HO6 := Lib.hid (HO.out.below hb6); have H6 := Lib.hid (H.out.below hb6); clear hr6 hb6 hown6)
          | (go_at_call 72; refine (fits_any b.count 7 wr).mono ?_; rw [HFT.out]; rintro e w5 ⟨rfl, rfl⟩)
          | fail)
        go_roundw
        case rel => exact ⟨5, A6, c6, rfl, by rfl, by omega, HR6, hl6, HQ6, HO6, H6, HB6⟩
        case measure => simp [intOf]
      obtain rfl : j = 5 := by omega
      clear h0 h1 h2 h3 h4
      have hgn : b.gen = ob.gen + 1 := HNB.out.elim (fun h => h.2) (fun h => absurd h.1 (by decide))
      have hgo : -1 ≤ ob.gen ∧ ob.gen < 72057594037927936 := by omega
      have hgt : (b.gen != ob.gen + 1) = false := by rw [hgn]; simp
      have HGN := Lib.hid hgn
      clear hgn
      clear HNB
      have hR5 : RdB wr A 35 b.data := HR.out
      have HR5 := Lib.hid hR5
      clear hR5 HR
      obtain ⟨x0, x1, x2, x3, x4⟩ := HQ.out.box
      obtain ⟨y0, y1, y2, y3, y4⟩ := HO.out.box
      have HSL := Lib.hid (Blk.seal HF.out)
      have HLR := Lib.hid (Blk.raw_len HF.out)
      have hgl := (H.out.F_lt g H.out.g_F).2
      go_upto_region 15 with (first
        | (go_at_call 74; refine (seal_any 1 0 0 0 1 A 35 c b.data wr HR5.out (by omega)).mono ?_; rw [HSL.out]; rintro e w6 ⟨v6, n6, rfl, ⟨rfl, hown6⟩, hb6⟩)
        | fail)
      obtain ⟨A6, c6, rfl, hr6, _⟩ := hown6.form
      rw [HLR.out] at hr6 hown6 ⊢
      have hge6 := Lib.hid hown6.ge
      have HR6 := Lib.hid hr6
      have HQ6 := Lib.hid (HQ.out.below hb6)
      have H6 := Lib.hid (H.out.below hb6)
      have hwr : w.heap.size < wr.heap.size := HQ.out.lt
      have HB6 := Lib.hid (nxq HB.out hwr hb6)
      clear hr6 hown6 HR5 HO y0 y1 y2 y3 y4 x0 x1 x2 x3 x4 HQ H
      have hun : d.unsure.length ≤ 1000000 := by rw [HS.out.unsure]; exact Nat.zero_le _
      have hun1 : d.sync.1.unsure = [] := d.sync_unsure HS.out.unsure
      have HU1 := Lib.hid hun1
      clear hun1
      have hnF : Hid (¬ F w.heap.size) := fun hk => by have := hFl.out _ hk; omega
      rcases d.sync_cases with e1 | e1
      · have HE1 := Lib.hid e1
        clear e1
        have hin : 0 ≤ b.gen % 2 ∧ b.gen % 2 < d.sync.1.sure.length := by rw [d.sync_sure]; omega
        rcases d.sync.1.write_cases (b.gen % 2) b.raw hin.1 hin.2 HLR.out with e2 | e2
        · have HE2 := Lib.hid e2
          have hsave : d.save b = (d.sync.1.write (b.gen % 2) b.raw).1.sync := by unfold Dv.save; rw [if_pos HE1.out, if_pos e2]
          have HSV := Lib.hid hsave
          clear e2 hin hsave
          have hmod : b.gen.tmod 2 = b.gen % 2 := Int.tmod_eq_emod_of_nonneg hg1.1
          go_upto_region 18 with (first
            | (go_at_call 75; refine (sync_any w6 B g F d H6.out hun).mono ?_; rw [HE1.out]; rintro e w7 ⟨rfl, h7, hc7⟩)
            | fail)
          have HQ7 := Lib.hid (show KRow w7 w.heap.size b from hc7.heap HQ6.out hnF.out)
          have HR7 := Lib.hid (HR6.out.chg hc7 (fun b' off e hk => by have h1 := hge6.out b' off e; have h2 := hFl.out b' hk; omega))
          have H7 := Lib.hid h7
          have HC7 := Lib.hid hc7
          clear h7 hc7
          obtain ⟨x0, x1, x2, x3, x4⟩ := HQ7.out.box
          go_wp2_with (first
            | (go_at_call 75; refine (sync_any w8 B g F8 _ H8.out hu8).mono ?_; rintro e w9 ⟨rfl, h9, hc9⟩)
            | (go_at_call 76; refine (write_any w7 B g F d.sync.1 (b.gen % 2) A6 512 c6 b.raw H7.out HR7.out (fun b' off e e2 => by have h1 := hge6.out b' off e; omega) (by rw [HU1.out]; exact Nat.zero_le _)).mono ?_; rw [HE2.out]; rintro e w8 ⟨rfl, F8, h8, hc8, hF8, hG8⟩; have H8 := Lib.hid h8; have HC8 := Lib.hid hc8; have HF8 := Lib.hid hF8; have HG8 := Lib.hid hG8; have hu8 := Nat.le_trans (Dv.write_unsure d.sync.1 (b.gen % 2) b.raw HU1.out) (show 1 ≤ 1000000 by omega); clear h8 hc8 hF8 hG8)
            | fail)
          go_ret
          refine ⟨by rw [HSV.out]; rfl, F8, by rw [HSV.out]; exact h9, ?_, HF8.out, fun x hx => (HG8.out x hx).imp id (fun h => by have h1 := HC7.out.size; have h2 := hb6.size; omega)⟩
          exact (((Chg.of_below HB6.out).trans HC7.out (fun _ h => .inl h)).trans HC8.out (fun _ h => .inl h)).trans hc9 (fun x hx => (HG8.out x hx).imp id (fun h => by have h1 := HC7.out.size; have h2 := hb6.size; omega))
        · have HE2 := Lib.hid e2
          have hsave : d.save b = d.sync.1.write (b.gen % 2) b.raw := by unfold Dv.save; rw [if_pos HE1.out, if_neg (by rw [e2]; decide)]
          have HSV := Lib.hid hsave
          clear e2 hin hsave
          have hmod : b.gen.tmod 2 = b.gen % 2 := Int.tmod_eq_emod_of_nonneg hg1.1
          go_upto_region 18 with (first
            | (go_at_call 75; refine (sync_any w6 B g F d H6.out hun).mono ?_; rw [HE1.out]; rintro e w7 ⟨rfl, h7, hc7⟩)
            | fail)
          have HQ7 := Lib.hid (show KRow w7 w.heap.size b from hc7.heap HQ6.out hnF.out)
          have HR7 := Lib.hid (HR6.out.chg hc7 (fun b' off e hk => by have h1 := hge6.out b' off e; have h2 := hFl.out b' hk; omega))
          have H7 := Lib.hid h7
          have HC7 := Lib.hid hc7
          clear h7 hc7
          obtain ⟨x0, x1, x2, x3, x4⟩ := HQ7.out.box
          go_wp2_with (first
            | (go_at_call 76; refine (write_any w7 B g F d.sync.1 (b.gen % 2) A6 512 c6 b.raw H7.out HR7.out (fun b' off e e2 => by have h1 := hge6.out b' off e; omega) (by rw [HU1.out]; exact Nat.zero_le _)).mono ?_; rw [HE2.out]; rintro e w8 ⟨rfl, F8, h8, hc8, hF8, hG8⟩; have H8 := Lib.hid h8; have HC8 := Lib.hid hc8; have HF8 := Lib.hid hF8; have HG8 := Lib.hid hG8; clear h8 hc8 hF8 hG8)
            | fail)
          go_ret
          refine ⟨by rw [HSV.out, HE2.out]; rfl, F8, by rw [HSV.out]; exact H8.out, ?_, HF8.out, fun x hx => (HG8.out x hx).imp id (fun h => by have h1 := HC7.out.size; have h2 := hb6.size; omega)⟩
          exact ((Chg.of_below HB6.out).trans HC7.out (fun _ h => .inl h)).trans HC8.out (fun _ h => .inl h)
      · have HE1 := Lib.hid e1
        have hsave : d.save b = d.sync := by unfold Dv.save; rw [if_neg (by rw [e1]; decide)]
        have HSV := Lib.hid hsave
        clear e1 hsave
        go_wp2_with (first
          | (go_at_call 75; refine (sync_any w6 B g F d H6.out hun).mono ?_; rw [HE1.out]; rintro e w7 ⟨rfl, h7, hc7⟩)
          | fail)
        go_ret
        exact ⟨by rw [HSV.out, HE1.out]; rfl, F, by rw [HSV.out]; exact h7, (Chg.of_below HB6.out).trans hc7 (fun _ h => .inl h), fun _ h => h, fun _ h => .inl h⟩
  · clear HL
    go_wp2_with (first
      | (go_at_call 71; refine (numbers_any w3 w.heap.size).mono ?_; rintro e w4 ⟨v4, rfl, rfl, hb4⟩; unfold ptrs5; have HB4 := Lib.hid (nx HB3.out hb4); have HQ4 := Lib.hid (HQ3.out.below hb4); have HO4 := Lib.hid (HO3.out.below hb4); have H4 := Lib.hid (H3.out.below hb4))
      | fail)
    clear HB3 HQ3 HO3 H3
    go_loopw [7, 27] (fun dv iv wr => ∃ (j : Nat) (A : Option Addr) (c : Nat), dv = .slice A (7 * j) c ∧ iv = .int .i64 j ∧ j ≤ 5 ∧ Hid (RdB wr A (7 * j) (dataTo b.nums j)) ∧ 7 * j ≤ c ∧ Hid (KRow wr w.heap.size b) ∧ Hid (KRow wr qo ob) ∧ Hid (Dev wr B F g d) ∧ Hid (Below w.heap.size w wr)) (fun _ iv _ => 5 - (intOf iv).toNat)
    case atStart => exact ⟨0, none, 0, rfl, rfl, by omega, Rd.nil _ _ _, by omega, HQ4, HO4, H4, HB4⟩
    case round =>
      clear HQ4 HO4 H4 HB4
      obtain ⟨j, A, c, rfl, rfl, hj, HR, hjc, HQ, HO, H, HB⟩ := hrel
      by_cases h0 : j = 0
      · subst h0
        have hix := ptrs_at0 w.heap.size
        obtain ⟨x0, x1, x2, x3, x4⟩ := HQ.out.box
        have hfit : fitsB b.gen 7 = true := HF.out b.gen (by simp [Blk.nums])
        have HFT := Lib.hid hfit
        have hlen := dataTo_len HF.out 1 (by omega)
        have hlen := Lib.hid hlen
        clear hfit
        go_wp2_with (first
          | (go_at_call 73; refine (put_any A 0 c (dataTo b.nums 0) b.gen 7 wr HR.out (by omega)).mono ?_; rintro e w6 ⟨v6, rfl, hown6, hb6⟩; have hown6 : OwnB w6 wr.heap.size v6 (dataTo b.nums 1) := hown6; obtain ⟨A6, c6, rfl, hr6, hl6, _⟩ := hown6.form; rw [hlen.out] at hr6 hl6 ⊢; have HR6 := Lib.hid hr6; have HB6 := Lib.hid (nxq HB.out HQ.out.lt hb6); have HQ6 := Lib.hid (HQ.out.below hb6); have HO6 := Lib.hid (HO.out.below hb6); have H6 := Lib.hid (H.out.below hb6); clear hr6 hb6 hown6)
          | (go_at_call 72; refine (fits_any b.gen 7 wr).mono ?_; rw [HFT.out]; rintro e w5 ⟨rfl, rfl⟩)
          | fail)
        go_roundw
        case rel => exact ⟨1, A6, c6, rfl, by rfl, by omega, HR6, hl6, HQ6, HO6, H6, HB6⟩
        case measure => simp [intOf]
      by_cases h1 : j = 1
      · subst h1
        have hix := ptrs_at1 w.heap.size
        obtain ⟨x0, x1, x2, x3, x4⟩ := HQ.out.box
        have hfit : fitsB b.epoch 7 = true := HF.out b.epoch (by simp [Blk.nums])
        have HFT := Lib.hid hfit
        have hlen := dataTo_len HF.out 2 (by omega)
        have hlen := Lib.hid hlen
        clear hfit
        go_wp2_with (first
          | (go_at_call 73; refine (put_any A 7 c (dataTo b.nums 1) b.epoch 7 wr HR.out (by omega)).mono ?_; rintro e w6 ⟨v6, rfl, hown6, hb6⟩; have hown6 : OwnB w6 wr.heap.size v6 (dataTo b.nums 2) := hown6; obtain ⟨A6, c6, rfl, hr6, hl6, _⟩ := hown6.form; rw [hlen.out] at hr6 hl6 ⊢; have HR6 := Lib.hid hr6; have HB6 := Lib.hid (nxq HB.out HQ.out.lt hb6); have HQ6 := Lib.hid (HQ.out.below hb6); have HO6 := Lib.hid (HO.out.below hb6); have H6 := Lib.hid (H.out.below hb6); clear hr6 hb6 hown6)
          | (go_at_call 72; refine (fits_any b.epoch 7 wr).mono ?_; rw [HFT.out]; rintro e w5 ⟨rfl, rfl⟩)
          | fail)
        go_roundw
        case rel => exact ⟨2, A6, c6, rfl, by rfl, by omega, HR6, hl6, HQ6, HO6, H6, HB6⟩
        case measure => simp [intOf]
      by_cases h2 : j = 2
      · subst h2
        have hix := ptrs_at2 w.heap.size
        obtain ⟨x0, x1, x2, x3, x4⟩ := HQ.out.box
        have hfit : fitsB b.first 7 = true := HF.out b.first (by simp [Blk.nums])
        have HFT := Lib.hid hfit
        have hlen := dataTo_len HF.out 3 (by omega)
        have hlen := Lib.hid hlen
        clear hfit
        go_wp2_with (first
          | (go_at_call 73; refine (put_any A 14 c (dataTo b.nums 2) b.first 7 wr HR.out (by omega)).mono ?_; rintro e w6 ⟨v6, rfl, hown6, hb6⟩; have hown6 : OwnB w6 wr.heap.size v6 (dataTo b.nums 3) := hown6; obtain ⟨A6, c6, rfl, hr6, hl6, _⟩ := hown6.form; rw [hlen.out] at hr6 hl6 ⊢; have HR6 := Lib.hid hr6; have HB6 := Lib.hid (nxq HB.out HQ.out.lt hb6); have HQ6 := Lib.hid (HQ.out.below hb6); have HO6 := Lib.hid (HO.out.below hb6); have H6 := Lib.hid (H.out.below hb6); clear hr6 hb6 hown6)
          | (go_at_call 72; refine (fits_any b.first 7 wr).mono ?_; rw [HFT.out]; rintro e w5 ⟨rfl, rfl⟩)
          | fail)
        go_roundw
        case rel => exact ⟨3, A6, c6, rfl, by rfl, by omega, HR6, hl6, HQ6, HO6, H6, HB6⟩
        case measure => simp [intOf]
      by_cases h3 : j = 3
      · subst h3
        have hix := ptrs_at3 w.heap.size
        obtain ⟨x0, x1, x2, x3, x4⟩ := HQ.out.box
        have hfit : fitsB b.from_ 7 = true := HF.out b.from_ (by simp [Blk.nums])
        have HFT := Lib.hid hfit
        have hlen := dataTo_len HF.out 4 (by omega)
        have hlen := Lib.hid hlen
        clear hfit
        go_wp2_with (first
          | (go_at_call 73; refine (put_any A 21 c (dataTo b.nums 3) b.from_ 7 wr HR.out (by omega)).mono ?_; rintro e w6 ⟨v6, rfl, hown6, hb6⟩; have hown6 : OwnB w6 wr.heap.size v6 (dataTo b.nums 4) := hown6; obtain ⟨A6, c6, rfl, hr6, hl6, _⟩ := hown6.form; rw [hlen.out] at hr6 hl6 ⊢; have HR6 := Lib.hid hr6; have HB6 := Lib.hid (nxq HB.out HQ.out.lt hb6); have HQ6 := Lib.hid (HQ.out.below hb6); have HO6 := Lib.hid (HO.out.below hb6); have H6 := Lib.hid (H.out.below hb6); clear hr6 hb6 hown6)
          | (go_at_call 72; refine (fits_any b.from_ 7 wr).mono ?_; rw [HFT.out]; rintro e w5 ⟨rfl, rfl⟩)
          | fail)
        go_roundw
        case rel => exact ⟨4, A6, c6, rfl, by rfl, by omega, HR6, hl6, HQ6, HO6, H6, HB6⟩
        case measure => simp [intOf]
      by_cases h4 : j = 4
      · subst h4
        have hix := ptrs_at4 w.heap.size
        obtain ⟨x0, x1, x2, x3, x4⟩ := HQ.out.box
        have hfit : fitsB b.count 7 = true := HF.out b.count (by simp [Blk.nums])
        have HFT := Lib.hid hfit
        have hlen := dataTo_len HF.out 5 (by omega)
        have hlen := Lib.hid hlen
        clear hfit
        go_wp2_with (first
          | (go_at_call 73; refine (put_any A 28 c (dataTo b.nums 4) b.count 7 wr HR.out (by omega)).mono ?_; rintro e w6 ⟨v6, rfl, hown6, hb6⟩; have hown6 : OwnB w6 wr.heap.size v6 (dataTo b.nums 5) := hown6; obtain ⟨A6, c6, rfl, hr6, hl6, _⟩ := hown6.form; rw [hlen.out] at hr6 hl6 ⊢; have HR6 := Lib.hid hr6; have HB6 := Lib.hid (nxq HB.out HQ.out.lt hb6); have HQ6 := Lib.hid (HQ.out.below hb6); have HO6 := Lib.hid (HO.out.below hb6); have H6 := Lib.hid (H.out.below hb6); clear hr6 hb6 hown6)
          | (go_at_call 72; refine (fits_any b.count 7 wr).mono ?_; rw [HFT.out]; rintro e w5 ⟨rfl, rfl⟩)
          | fail)
        go_roundw
        case rel => exact ⟨5, A6, c6, rfl, by rfl, by omega, HR6, hl6, HQ6, HO6, H6, HB6⟩
        case measure => simp [intOf]
      obtain rfl : j = 5 := by omega
      clear h0 h1 h2 h3 h4
      have hgn : b.gen = 0 := HNB.out.elim (fun h => absurd h.1 (by decide)) (fun h => h.2)
      have hgt : (b.gen != 0) = false := by rw [hgn]; rfl
      have HGN := Lib.hid hgn
      clear hgn
      clear HNB
      have hR5 : RdB wr A 35 b.data := HR.out
      have HR5 := Lib.hid hR5
      clear hR5 HR
      obtain ⟨x0, x1, x2, x3, x4⟩ := HQ.out.box
      obtain ⟨y0, y1, y2, y3, y4⟩ := HO.out.box
      have HSL := Lib.hid (Blk.seal HF.out)
      have HLR := Lib.hid (Blk.raw_len HF.out)
      have hgl := (H.out.F_lt g H.out.g_F).2
      go_upto_region 15 with (first
        | (go_at_call 74; refine (seal_any 1 0 0 0 1 A 35 c b.data wr HR5.out (by omega)).mono ?_; rw [HSL.out]; rintro e w6 ⟨v6, n6, rfl, ⟨rfl, hown6⟩, hb6⟩)
        | fail)
      obtain ⟨A6, c6, rfl, hr6, _⟩ := hown6.form
      rw [HLR.out] at hr6 hown6 ⊢
      have hge6 := Lib.hid hown6.ge
      have HR6 := Lib.hid hr6
      have HQ6 := Lib.hid (HQ.out.below hb6)
      have H6 := Lib.hid (H.out.below hb6)
      have hwr : w.heap.size < wr.heap.size := HQ.out.lt
      have HB6 := Lib.hid (nxq HB.out hwr hb6)
      clear hr6 hown6 HR5 HO y0 y1 y2 y3 y4 x0 x1 x2 x3 x4 HQ H
      have hun : d.unsure.length ≤ 1000000 := by rw [HS.out.unsure]; exact Nat.zero_le _
      have hun1 : d.sync.1.unsure = [] := d.sync_unsure HS.out.unsure
      have HU1 := Lib.hid hun1
      clear hun1
      have hnF : Hid (¬ F w.heap.size) := fun hk => by have := hFl.out _ hk; omega
      rcases d.sync_cases with e1 | e1
      · have HE1 := Lib.hid e1
        clear e1
        have hin : 0 ≤ b.gen % 2 ∧ b.gen % 2 < d.sync.1.sure.length := by rw [d.sync_sure]; omega
        rcases d.sync.1.write_cases (b.gen % 2) b.raw hin.1 hin.2 HLR.out with e2 | e2
        · have HE2 := Lib.hid e2
          have hsave : d.save b = (d.sync.1.write (b.gen % 2) b.raw).1.sync := by unfold Dv.save; rw [if_pos HE1.out, if_pos e2]
          have HSV := Lib.hid hsave
          clear e2 hin hsave
          have hmod : b.gen.tmod 2 = b.gen % 2 := Int.tmod_eq_emod_of_nonneg hg1.1
          go_upto_region 18 with (first
            | (go_at_call 75; refine (sync_any w6 B g F d H6.out hun).mono ?_; rw [HE1.out]; rintro e w7 ⟨rfl, h7, hc7⟩)
            | fail)
          have HQ7 := Lib.hid (show KRow w7 w.heap.size b from hc7.heap HQ6.out hnF.out)
          have HR7 := Lib.hid (HR6.out.chg hc7 (fun b' off e hk => by have h1 := hge6.out b' off e; have h2 := hFl.out b' hk; omega))
          have H7 := Lib.hid h7
          have HC7 := Lib.hid hc7
          clear h7 hc7
          obtain ⟨x0, x1, x2, x3, x4⟩ := HQ7.out.box
          go_wp2_with (first
            | (go_at_call 75; refine (sync_any w8 B g F8 _ H8.out hu8).mono ?_; rintro e w9 ⟨rfl, h9, hc9⟩)
            | (go_at_call 76; refine (write_any w7 B g F d.sync.1 (b.gen % 2) A6 512 c6 b.raw H7.out HR7.out (fun b' off e e2 => by have h1 := hge6.out b' off e; omega) (by rw [HU1.out]; exact Nat.zero_le _)).mono ?_; rw [HE2.out]; rintro e w8 ⟨rfl, F8, h8, hc8, hF8, hG8⟩; have H8 := Lib.hid h8; have HC8 := Lib.hid hc8; have HF8 := Lib.hid hF8; have HG8 := Lib.hid hG8; have hu8 := Nat.le_trans (Dv.write_unsure d.sync.1 (b.gen % 2) b.raw HU1.out) (show 1 ≤ 1000000 by omega); clear h8 hc8 hF8 hG8)
            | fail)
          go_ret
          refine ⟨by rw [HSV.out]; rfl, F8, by rw [HSV.out]; exact h9, ?_, HF8.out, fun x hx => (HG8.out x hx).imp id (fun h => by have h1 := HC7.out.size; have h2 := hb6.size; omega)⟩
          exact (((Chg.of_below HB6.out).trans HC7.out (fun _ h => .inl h)).trans HC8.out (fun _ h => .inl h)).trans hc9 (fun x hx => (HG8.out x hx).imp id (fun h => by have h1 := HC7.out.size; have h2 := hb6.size; omega))
        · have HE2 := Lib.hid e2
          have hsave : d.save b = d.sync.1.write (b.gen % 2) b.raw := by unfold Dv.save; rw [if_pos HE1.out, if_neg (by rw [e2]; decide)]
          have HSV := Lib.hid hsave
          clear e2 hin hsave
          have hmod : b.gen.tmod 2 = b.gen % 2 := Int.tmod_eq_emod_of_nonneg hg1.1
          go_upto_region 18 with (first
            | (go_at_call 75; refine (sync_any w6 B g F d H6.out hun).mono ?_; rw [HE1.out]; rintro e w7 ⟨rfl, h7, hc7⟩)
            | fail)
          have HQ7 := Lib.hid (show KRow w7 w.heap.size b from hc7.heap HQ6.out hnF.out)
          have HR7 := Lib.hid (HR6.out.chg hc7 (fun b' off e hk => by have h1 := hge6.out b' off e; have h2 := hFl.out b' hk; omega))
          have H7 := Lib.hid h7
          have HC7 := Lib.hid hc7
          clear h7 hc7
          obtain ⟨x0, x1, x2, x3, x4⟩ := HQ7.out.box
          go_wp2_with (first
            | (go_at_call 76; refine (write_any w7 B g F d.sync.1 (b.gen % 2) A6 512 c6 b.raw H7.out HR7.out (fun b' off e e2 => by have h1 := hge6.out b' off e; omega) (by rw [HU1.out]; exact Nat.zero_le _)).mono ?_; rw [HE2.out]; rintro e w8 ⟨rfl, F8, h8, hc8, hF8, hG8⟩; have H8 := Lib.hid h8; have HC8 := Lib.hid hc8; have HF8 := Lib.hid hF8; have HG8 := Lib.hid hG8; clear h8 hc8 hF8 hG8)
            | fail)
          go_ret
          refine ⟨by rw [HSV.out, HE2.out]; rfl, F8, by rw [HSV.out]; exact H8.out, ?_, HF8.out, fun x hx => (HG8.out x hx).imp id (fun h => by have h1 := HC7.out.size; have h2 := hb6.size; omega)⟩
          exact ((Chg.of_below HB6.out).trans HC7.out (fun _ h => .inl h)).trans HC8.out (fun _ h => .inl h)
      · have HE1 := Lib.hid e1
        have hsave : d.save b = d.sync := by unfold Dv.save; rw [if_neg (by rw [e1]; decide)]
        have HSV := Lib.hid hsave
        clear e1 hsave
        go_wp2_with (first
          | (go_at_call 75; refine (sync_any w6 B g F d H6.out hun).mono ?_; rw [HE1.out]; rintro e w7 ⟨rfl, h7, hc7⟩)
          | fail)
        go_ret
        exact ⟨by rw [HSV.out, HE1.out]; rfl, F, by rw [HSV.out]; exact h7, (Chg.of_below HB6.out).trans hc7 (fun _ h => .inl h), fun _ h => h, fun _ h => .inl h⟩
end Go.Proofs.Ytbjaphldncagjaa
