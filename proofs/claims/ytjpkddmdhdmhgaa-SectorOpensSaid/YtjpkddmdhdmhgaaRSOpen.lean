/- gazetteerref08.Open walked. -/
import Derived.Test.YtjpkddmdhdmhgaaSOpen
import Derived.Deep.Cut
import Derived.Deep.RegionHeld3
namespace Go.Proofs.Ytjpkddmdhdmhgaa
open Go.RowKit

set_option maxRecDepth 100000 in
set_option maxHeartbeats 4000000 in
theorem rsopen_any (A : Option Addr) (m c : Nat) (bs : List UInt8) (w : World) (hb : RdB w A m bs) (hm : m ≤ c) (hc : m ≤ 100000) :
    Calls Try.prog 17 #[.slice A m c] w (RetO (openP bs) w) := by
  have hlb := hb.len
  subst hlb
  obtain ⟨w1, hw1⟩ : ∃ w1 : World, w1 = (w.alloc (.cells #[.int .i64 0, .int .i64 0, .int .i64 0, .int .i64 0, .int .i64 0] 31)).alloc (.cells #[.int .i64 0, .int .i64 0, .int .i64 0, .int .i64 0, .int .i64 0] 31) := ⟨_, rfl⟩
  have hH1 : w1.heap[w.heap.size]? = some (.cells #[.int .i64 0, .int .i64 0, .int .i64 0, .int .i64 0, .int .i64 0] 31 (0, 0)) := by rw [hw1]; exact heap_alloc2_old _ _ _
  have hL1 : w1.heap[w.heap.size + 1]? = some (.cells #[.int .i64 0, .int .i64 0, .int .i64 0, .int .i64 0, .int .i64 0] 31 (0, 0)) := by rw [hw1]; exact heap_alloc2_new _ _ _
  have hb1 : Below w.heap.size w w1 := by rw [hw1]; exact (bl.alloc (Nat.le_refl _) _).alloc (by simp) _
  have hsz1 : Hid (w1.heap.size = w.heap.size + 2) := by show _ = _; rw [hw1]; simp
  have f0 : ∀ k, w1.frozen? ⟨w.heap.size, k, none⟩ = false := fun k => frozen_of_row _ _ _ _ _ hH1
  have f1 : ∀ k, w1.frozen? ⟨w.heap.size + 1, k, none⟩ = false := fun k => frozen_of_row _ _ _ _ _ hL1
  have z0 : w1.cell? ⟨w.heap.size, 0, none⟩ = some (.int .i64 0) := (cell_of_row _ _ _ _ _ _ hH1).trans rfl
  have z1 : w1.cell? ⟨w.heap.size, 1, none⟩ = some (.int .i64 0) := (cell_of_row _ _ _ _ _ _ hH1).trans rfl
  have z2 : w1.cell? ⟨w.heap.size, 2, none⟩ = some (.int .i64 0) := (cell_of_row _ _ _ _ _ _ hH1).trans rfl
  have z3 : w1.cell? ⟨w.heap.size, 3, none⟩ = some (.int .i64 0) := (cell_of_row _ _ _ _ _ _ hH1).trans rfl
  have z4 : w1.cell? ⟨w.heap.size, 4, none⟩ = some (.int .i64 0) := (cell_of_row _ _ _ _ _ _ hH1).trans rfl
  have y0 : w1.cell? ⟨w.heap.size + 1, 0, none⟩ = some (.int .i64 0) := (cell_of_row _ _ _ _ _ _ hL1).trans rfl
  have y1 : w1.cell? ⟨w.heap.size + 1, 1, none⟩ = some (.int .i64 0) := (cell_of_row _ _ _ _ _ _ hL1).trans rfl
  have y2 : w1.cell? ⟨w.heap.size + 1, 2, none⟩ = some (.int .i64 0) := (cell_of_row _ _ _ _ _ _ hL1).trans rfl
  have y3 : w1.cell? ⟨w.heap.size + 1, 3, none⟩ = some (.int .i64 0) := (cell_of_row _ _ _ _ _ _ hL1).trans rfl
  have y4 : w1.cell? ⟨w.heap.size + 1, 4, none⟩ = some (.int .i64 0) := (cell_of_row _ _ _ _ _ _ hL1).trans rfl
  have H0 := Lib.hid hH1
  have L0 := Lib.hid hL1
  clear hH1 hL1
  by_cases h512 : bs.length = 512
  · have h5 : ((bs.length : Int) != 512) = false := by rw [h512]; rfl
    have H512 := Lib.hid h512
    have hc512 : (512 : Int) ≤ (c : Int) := by omega
    obtain ⟨b, off, rfl, hat⟩ := hb.flat (by omega)
    have i0 : Hid (getN bs 0 1 = ((fld bs 0 1 : Int), 0)) := get_fld (b := bs) 0 1 (by omega) (by omega) (by omega)
    have i1 : Hid (getN bs 1 4 = ((fld bs 1 4 : Int), 0)) := get_fld (b := bs) 1 4 (by omega) (by omega) (by omega)
    have i2 : Hid (getN bs 5 7 = ((fld bs 5 7 : Int), 0)) := get_fld (b := bs) 5 7 (by omega) (by omega) (by omega)
    have i3 : Hid (getN bs 12 1 = ((fld bs 12 1 : Int), 0)) := get_fld (b := bs) 12 1 (by omega) (by omega) (by omega)
    have i4 : Hid (getN bs 13 1 = ((fld bs 13 1 : Int), 0)) := get_fld (b := bs) 13 1 (by omega) (by omega) (by omega)
    have i5 : Hid (getN bs 14 2 = ((lenP bs : Int), 0)) := get_fld (b := bs) 14 2 (by omega) (by omega) (by omega)
    clear h512
    go_enter Try.func17, Try.ntmps17
    go_upto_region 4 with (fail)
    rw [← hw1]
    clear hw1
    go_upto_region 10 with ((go_at_call 66; refine (rget_any _ _ _ bs _ _ _ (hb.below (by repeat (first | exact hb1 | refine Below.setCell ?_ (by simp) _))) (by omega)).mono ?_; rintro e w3 ⟨rfl, rfl⟩; (first | rw [i0.out] | rw [i1.out] | rw [i2.out] | rw [i3.out] | rw [i4.out] | rw [i5.out])))
    go_upto_region 11 with (fail)
    have hT1 := (below5 hb1 (show w.heap.size ≤ w.heap.size + 1 by omega) (.int .i64 (fld bs 0 1 : Int)) (.int .i64 (fld bs 1 4 : Int)) (.int .i64 (fld bs 5 7 : Int)) (.int .i64 (fld bs 12 1 : Int)) (.int .i64 (fld bs 13 1 : Int)))
    have hT2 := (heap5 w1 (show w.heap.size ≠ w.heap.size + 1 by omega) (.int .i64 (fld bs 0 1 : Int)) (.int .i64 (fld bs 1 4 : Int)) (.int .i64 (fld bs 5 7 : Int)) (.int .i64 (fld bs 12 1 : Int)) (.int .i64 (fld bs 13 1 : Int))).trans H0.out
    have hT3 := set5 L0.out (.int .i64 (fld bs 0 1 : Int)) (.int .i64 (fld bs 1 4 : Int)) (.int .i64 (fld bs 5 7 : Int)) (.int .i64 (fld bs 12 1 : Int)) (.int .i64 (fld bs 13 1 : Int))
    have hT4 : (((((w1.setCell ⟨w.heap.size + 1, 0, none⟩ (.int .i64 (fld bs 0 1 : Int))).setCell ⟨w.heap.size + 1, 1, none⟩ (.int .i64 (fld bs 1 4 : Int))).setCell ⟨w.heap.size + 1, 2, none⟩ (.int .i64 (fld bs 5 7 : Int))).setCell ⟨w.heap.size + 1, 3, none⟩ (.int .i64 (fld bs 12 1 : Int))).setCell ⟨w.heap.size + 1, 4, none⟩ (.int .i64 (fld bs 13 1 : Int))).heap.size = w1.heap.size := by simp
    generalize (World.setCell _ ⟨w.heap.size + 1, 4, none⟩ _) = wt at hT1 hT2 hT3 hT4 ⊢
    have hb2' := hT1.alloc (by rw [hT4, hsz1.out]; omega) (.cells #[.int .i64 0, .int .i64 0, .int .i64 0, .int .i64 0, .int .i64 0] 31)
    have H2' := (Below.heap_alloc wt (.cells #[.int .i64 0, .int .i64 0, .int .i64 0, .int .i64 0, .int .i64 0] 31) _ (lt_of_heap hT2)).trans hT2
    have L2' := (Below.heap_alloc wt (.cells #[.int .i64 0, .int .i64 0, .int .i64 0, .int .i64 0, .int .i64 0] 31) _ (lt_of_heap hT3)).trans hT3
    have N2' := heap_alloc_new wt (.cells #[.int .i64 0, .int .i64 0, .int .i64 0, .int .i64 0, .int .i64 0] 31)
    rw [hT4] at N2'
    generalize (World.alloc wt _) = w2 at hb2' H2' L2' N2' ⊢
    have g2 : ∀ k, w2.frozen? ⟨w.heap.size, k, none⟩ = false := fun k => frozen_of_row _ _ _ _ _ H2'
    have p0 : w2.cell? ⟨w.heap.size, 0, none⟩ = some (.int .i64 0) := (cell_of_row _ _ _ _ _ _ H2').trans rfl
    have p1 : w2.cell? ⟨w.heap.size, 1, none⟩ = some (.int .i64 0) := (cell_of_row _ _ _ _ _ _ H2').trans rfl
    have p2 : w2.cell? ⟨w.heap.size, 2, none⟩ = some (.int .i64 0) := (cell_of_row _ _ _ _ _ _ H2').trans rfl
    have p3 : w2.cell? ⟨w.heap.size, 3, none⟩ = some (.int .i64 0) := (cell_of_row _ _ _ _ _ _ H2').trans rfl
    have p4 : w2.cell? ⟨w.heap.size, 4, none⟩ = some (.int .i64 0) := (cell_of_row _ _ _ _ _ _ H2').trans rfl
    have q0 : w2.cell? ⟨w.heap.size + 1, 0, none⟩ = some (.int .i64 (fld bs 0 1 : Int)) := (cell_of_row _ _ _ _ _ _ L2').trans rfl
    have q1 : w2.cell? ⟨w.heap.size + 1, 1, none⟩ = some (.int .i64 (fld bs 1 4 : Int)) := (cell_of_row _ _ _ _ _ _ L2').trans rfl
    have q2 : w2.cell? ⟨w.heap.size + 1, 2, none⟩ = some (.int .i64 (fld bs 5 7 : Int)) := (cell_of_row _ _ _ _ _ _ L2').trans rfl
    have q3 : w2.cell? ⟨w.heap.size + 1, 3, none⟩ = some (.int .i64 (fld bs 12 1 : Int)) := (cell_of_row _ _ _ _ _ _ L2').trans rfl
    have q4 : w2.cell? ⟨w.heap.size + 1, 4, none⟩ = some (.int .i64 (fld bs 13 1 : Int)) := (cell_of_row _ _ _ _ _ _ L2').trans rfl
    have r0 : w2.cell? ⟨w1.heap.size, 0, none⟩ = some (.int .i64 0) := (cell_of_row _ _ _ _ _ _ N2').trans rfl
    have r1 : w2.cell? ⟨w1.heap.size, 1, none⟩ = some (.int .i64 0) := (cell_of_row _ _ _ _ _ _ N2').trans rfl
    have r2 : w2.cell? ⟨w1.heap.size, 2, none⟩ = some (.int .i64 0) := (cell_of_row _ _ _ _ _ _ N2').trans rfl
    have r3 : w2.cell? ⟨w1.heap.size, 3, none⟩ = some (.int .i64 0) := (cell_of_row _ _ _ _ _ _ N2').trans rfl
    have r4 : w2.cell? ⟨w1.heap.size, 4, none⟩ = some (.int .i64 0) := (cell_of_row _ _ _ _ _ _ N2').trans rfl
    have H2 := Lib.hid H2'
    have hb2 := hb2'
    clear hT1 hT2 hT3 hT4 H2' L2' N2' z0 z1 z2 z3 z4 y0 y1 y2 y3 y4 f0 f1 hb1 hb2' H0 L0 hsz1 i0 i1 i2 i3 i4 i5
    have hbr := hb.below hb2
    by_cases hn : 496 < lenP bs
    · have hP := Lib.hid (openP_bad H512.out (fun h => by have := h.1; omega))
      go_wp2
      refine bodyPost_ret (results_cell3 rfl _ _ w.heap.size _ _ _ _ rfl (set5 H2.out _ _ _ _ _) Try.underlying31 rfl (by kernel_rfl)) rfl ?_
      exact ⟨_, by rw [hP.out]; rfl, by rw [hP.out]; exact OwnB.nil _ _, below5 hb2 (Nat.le_refl _) _ _ _ _ _⟩
    · by_cases hk : fld bs 0 1 = 0
      · have hP := Lib.hid (openP_bad H512.out (fun h => h.2.1.1 hk))
        have hk2 : ((fld bs 0 1 : Int) == 0) = true := by rw [beq_iff_eq]; omega
        clear hk
        go_wp2
        refine bodyPost_ret (results_cell3 rfl _ _ w.heap.size _ _ _ _ rfl (set5 H2.out _ _ _ _ _) Try.underlying31 rfl (by kernel_rfl)) rfl ?_
        exact ⟨_, by rw [hP.out]; rfl, by rw [hP.out]; exact OwnB.nil _ _, below5 hb2 (Nat.le_refl _) _ _ _ _ _⟩
      · have hk2 : ((fld bs 0 1 : Int) == 0) = false := by rw [beq_eq_false_iff_ne]; omega
        by_cases hq : fld bs 13 1 = 0
        · have hP := Lib.hid (openP_bad H512.out (fun h => h.2.1.2.1 hq))
          have hq2 : ((fld bs 13 1 : Int) == 0) = true := by rw [beq_iff_eq]; omega
          clear hk hq
          go_wp2
          refine bodyPost_ret (results_cell3 rfl _ _ w.heap.size _ _ _ _ rfl (set5 H2.out _ _ _ _ _) Try.underlying31 rfl (by kernel_rfl)) rfl ?_
          exact ⟨_, by rw [hP.out]; rfl, by rw [hP.out]; exact OwnB.nil _ _, below5 hb2 (Nat.le_refl _) _ _ _ _ _⟩
        · have hq2 : ((fld bs 13 1 : Int) == 0) = false := by rw [beq_eq_false_iff_ne]; omega
          by_cases hpq : fld bs 12 1 < fld bs 13 1
          · have hpart : Hid (partsP bs) := ⟨hk, hq, hpq⟩
            have hpq2 : decide ((fld bs 13 1 : Int) ≤ (fld bs 12 1 : Int)) = false := by rw [decide_eq_false_iff_not]; omega
            have hn2 : (lenP bs : Int) ≤ 496 := by omega
            clear hk hq
            go_upto_region 14 with (fail)
            go_loopw [9] (fun v wr => ∃ k : Nat, v = .int .i64 k ∧ 16 + lenP bs ≤ k ∧ k ≤ 512 ∧ wr = w2 ∧ ∀ i, 16 + lenP bs ≤ i → i < k → bs[i]? = some 0) (fun v _ => 512 - (intOf v).toNat)
            case atStart => exact ⟨16 + lenP bs, by go_num, Nat.le_refl _, by omega, rfl, fun i h1 h2 => by omega⟩
            case round =>
              obtain ⟨k, rfl, hk1, hk2, rfl, hz⟩ := hrel
              by_cases hlt : k < 512
              · obtain ⟨b', off', x, e, hx, hcx⟩ := hbr.at_ (k := k) (by rw [H512.out]; exact hlt)
                cases e
                have HZ := Lib.hid hz
                have HX := Lib.hid hx
                have hlk : (k : Int) < (bs.length : Int) := by rw [H512.out]; omega
                clear hz hx
                by_cases hx0 : x = 0
                · subst hx0
                  rw [show ((0 : UInt8).toNat : Int) = 0 by rfl] at hcx
                  go_wp2
                  go_roundw
                  case rel =>
                    refine ⟨k + 1, by go_num, by omega, by omega, by first | rfl | trivial, fun i h1 h2 => ?_⟩
                    rcases Nat.lt_or_ge i k with h3 | h3
                    · exact HZ.out i h1 h3
                    · obtain rfl : i = k := by omega
                      exact HX.out
                  case measure => simp [intOf]; omega
                · have hP := Lib.hid (openP_bad H512.out (fun h => by have := h.2.2 k hk1 hlt; rw [HX.out] at this; exact hx0 (Option.some.inj this)))
                  have hx1 : ((x.toNat : Int) != 0) = true := by
                    rw [bne_iff_ne]; intro h; apply hx0; apply UInt8.toNat_inj.1; have : (0 : UInt8).toNat = 0 := rfl; omega
                  clear hx0
                  go_wp2
                  refine bodyPost_ret (results_cell3 rfl _ _ w.heap.size _ _ _ _ rfl (set5 H2.out _ _ _ _ _) Try.underlying31 rfl (by kernel_rfl)) rfl ?_
                  exact ⟨_, by rw [hP.out]; rfl, by rw [hP.out]; exact OwnB.nil _ _, below5 hb2 (Nat.le_refl _) _ _ _ _ _⟩
              · obtain rfl : k = 512 := by omega
                have hP := Lib.hid (openP_ok H512.out ⟨by omega, hpart.out, hz⟩)
                clear hz
                have hn16 : (16 : Int) + (lenP bs : Int) ≤ (c : Int) := by omega
                have hw16 : IntKind.i64.wrap (16 + (lenP bs : Int)) = 16 + (lenP bs : Int) := IntWalk.i64_in _ (by omega)
                have hn17 : (16 : Int) ≤ 16 + (lenP bs : Int) := by omega
                have hn18 : (0 : Int) ≤ 16 + (lenP bs : Int) := by omega
                have hn19 : ((16 : Int) + (lenP bs : Int)).toNat = 16 + lenP bs := by omega
                have hc16 : ¬ c = 16 := by omega
                have hs16 := rd_sub hbr 16 (lenP bs) (by rw [H512.out]; omega)
                have hdl := Lib.hid (dataP_len H512.out (by omega))
                have hlt0 : w.heap.size < wr.heap.size := World.block_lt_of_cell? wr _ p0
                have HROW := Lib.hid (show ∀ (w3 : World) (x0 x1 x2 x3 x4 : Value) k u, w3.cell? ⟨w.heap.size + 1, k, none⟩ = some u → (((((w3.setCell ⟨w.heap.size, 0, none⟩ x0).setCell ⟨w.heap.size, 1, none⟩ x1).setCell ⟨w.heap.size, 2, none⟩ x2).setCell ⟨w.heap.size, 3, none⟩ x3).setCell ⟨w.heap.size, 4, none⟩ x4).cell? ⟨w.heap.size + 1, k, none⟩ = some u from fun w3 x0 x1 x2 x3 x4 k u h => (World.cell?_of_block (a := ⟨w.heap.size + 1, k, none⟩) (heap5 w3 (by simp) x0 x1 x2 x3 x4)).trans h)
                have HFZ := Lib.hid (show ∀ w3, Below wr.heap.size wr w3 → ∀ k, w3.frozen? ⟨w.heap.size, k, none⟩ = false from fun w3 hb k => (hb.frozen (p := ⟨w.heap.size, k, none⟩) hlt0).trans (g2 k))
                clear r0 r1 r2 r3 r4 hat
                go_wp2
                go_region_held3 (fun w' => w'.cell? ⟨w.heap.size + 1, 0, none⟩ = some (.int .i64 (fld bs 0 1 : Int)) ∧ w'.cell? ⟨w.heap.size + 1, 1, none⟩ = some (.int .i64 (fld bs 1 4 : Int)) ∧ w'.cell? ⟨w.heap.size + 1, 2, none⟩ = some (.int .i64 (fld bs 5 7 : Int)) ∧ w'.cell? ⟨w.heap.size + 1, 3, none⟩ = some (.int .i64 (fld bs 12 1 : Int)) ∧ w'.cell? ⟨w.heap.size + 1, 4, none⟩ = some (.int .i64 (fld bs 13 1 : Int)))
                  (first
                    | with_reducible exact ⟨e0, e1, e2, e3, e4⟩
                    | with_reducible exact ⟨HROW.out _ _ _ _ _ _ _ _ e0, HROW.out _ _ _ _ _ _ _ _ e1, HROW.out _ _ _ _ _ _ _ _ e2, HROW.out _ _ _ _ _ _ _ _ e3, HROW.out _ _ _ _ _ _ _ _ e4⟩
                    | with_reducible exact ⟨q0, q1, q2, q3, q4⟩
                    | with_reducible exact ⟨below_cell bl.drew q0, below_cell bl.drew q1, below_cell bl.drew q2, below_cell bl.drew q3, below_cell bl.drew q4⟩
                    | with_reducible exact ⟨below_cell (bl.alloc (Nat.le_refl _) _).drew q0, below_cell (bl.alloc (Nat.le_refl _) _).drew q1, below_cell (bl.alloc (Nat.le_refl _) _).drew q2, below_cell (bl.alloc (Nat.le_refl _) _).drew q3, below_cell (bl.alloc (Nat.le_refl _) _).drew q4⟩)
                  (first
                    | (refine step_appB (by rfl) (.tmp 82) (.tmp 86) (by rfl) wr.heap.size (.slice (some ⟨wr.heap.size, 0, none⟩) 0 0) [] (by rfl) (own_empty wr).drew (some ⟨b, off + 16, none⟩) _ _ (dataP bs) (by rfl) (hs16.below (bl.alloc (Nat.le_refl _) _).drew) (by simp; omega) (by simp) ?_; intro v3 w3 hown3 hg3 _; rw [List.nil_append] at hown3; have hb3 : Below wr.heap.size wr w3 := ((bl.alloc (Nat.le_refl _) _).drew.grown hg3 (by simp) (fun j hj => by simp [Value.ownBlock] at hj; omega)); have e0 := below_cell hb3 q0; have e1 := below_cell hb3 q1; have e2 := below_cell hb3 q2; have e3 := below_cell hb3 q3; have e4 := below_cell hb3 q4; have u0 := below_cell hb3 p0; have u1 := below_cell hb3 p1; have u2 := below_cell hb3 p2; have u3 := below_cell hb3 p3; have u4 := below_cell hb3 p4; have gg := HFZ.out w3 hb3; clear p0 p1 p2 p3 p4 q0 q1 q2 q3 q4 g2))
                go_wp2
                refine bodyPost_ret (results_cell3 rfl _ _ w.heap.size _ _ _ _ rfl (set5 ((hb3.block _ hlt0).trans H2.out) _ _ _ _ _) Try.underlying31 rfl (by kernel_rfl)) rfl ?_
                exact ⟨_, by rw [hP.out]; rfl, by rw [hP.out]; exact (hown3.heq (fun k hk => heap5 w3 (Nat.ne_of_gt (Nat.lt_of_lt_of_le hlt0 hk)) _ _ _ _ _)).mono (Nat.le_of_lt hlt0), below5 (nx hb2 hb3) (Nat.le_refl _) _ _ _ _ _⟩
          · have hP := Lib.hid (openP_bad H512.out (fun h => hpq h.2.1.2.2))
            have hpq2 : (fld bs 13 1 : Int) ≤ (fld bs 12 1 : Int) := by omega
            clear hk hq hpq
            go_wp2
            refine bodyPost_ret (results_cell3 rfl _ _ w.heap.size _ _ _ _ rfl (set5 H2.out _ _ _ _ _) Try.underlying31 rfl (by kernel_rfl)) rfl ?_
            exact ⟨_, by rw [hP.out]; rfl, by rw [hP.out]; exact OwnB.nil _ _, below5 hb2 (Nat.le_refl _) _ _ _ _ _⟩
  · have hP := Lib.hid (openP_short h512)
    go_enter Try.func17, Try.ntmps17
    go_upto_region 2 with (fail)
    rw [← hw1]
    clear hw1
    go_wp2
    refine bodyPost_ret (results_cell3 rfl _ _ w.heap.size _ _ _ _ rfl (set5 H0.out _ _ _ _ _) Try.underlying31 rfl (by kernel_rfl)) rfl ?_
    exact ⟨_, by rw [hP.out]; rfl, by rw [hP.out]; exact OwnB.nil _ _, below5 hb1 (Nat.le_refl _) _ _ _ _ _⟩
end Go.Proofs.Ytjpkddmdhdmhgaa
