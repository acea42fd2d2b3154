/- The walks of the statements of layer 9 (sector): SectorSeals, SectorParts. -/
import Derived.Test.YtnhjfdgdjfndiaaRSeal
import Derived.Test.YtnhjfdgdjfndiaaSame
import Derived.Test.YtnhjfdgdjfndiaaLaw01
import Derived.Deep.RegionHeld3
namespace Go.Proofs.Ytnhjfdgdjfndiaa
open Go.RowKit

theorem bS (w : World) (o : Obj) : Below w.heap.size w (w.alloc o) := bl.alloc (Nat.le_refl _) _

set_option maxRecDepth 100000 in
set_option maxHeartbeats 1000000 in
theorem answers09_any (w : World) : Calls Try.prog 26 #[] w (LawT w) := by
  have hs1 : (sealP 1 0 0 0 1 [9]).2 = 0 := by
    rw [sealP_ok (by decide) (by decide)]
  have hs2 : (sealP 1 0 0 0 1 [9]).1.length = 512 := by
    rw [sealP_ok (by decide) (by decide)]
    simp only [List.length_append, List.length_replicate]
    rw [hdTo_16 _ _ _ _ _ _ (by decide) (by decide) (by decide)]; rfl
  have hs3 : (sealP 1 0 0 0 1 [9]).1[0]? = some 1 := by
    rw [sealP_ok (by decide) (by decide)]
    show (hdTo [1, 0, 0, 0, 1, 1] 6 ++ [9] ++ _)[0]? = _
    rw [List.getElem?_append_left (by decide)]
    decide
  have hs4 : (sealP 1 0 0 0 1 [9]).1[16]? = some 9 := by
    rw [sealP_ok (by decide) (by decide)]
    show (hdTo [1, 0, 0, 0, 1, 1] 6 ++ [9] ++ _)[16]? = _
    rw [List.getElem?_append_left (by decide)]
    decide
  obtain ⟨r, hr⟩ : ∃ r, r = sealP 1 0 0 0 1 [9] := ⟨_, rfl⟩
  rw [← hr] at hs1 hs2 hs3 hs4
  have HR := Lib.hid hr
  have H1 := Lib.hid hs1
  have H2 := Lib.hid hs2
  have H3 := Lib.hid hs3
  have H4 := Lib.hid hs4
  clear hr hs1 hs2 hs3 hs4
  go_enter Try.func26, Try.ntmps26
  go_wp2_with (go_at_call 27; refine (seal_any _ _ _ _ _ _ _ _ [9] _ (lit_rd w [9] (by decide)) (by decide)).mono ?_; rintro e w1 ⟨v, n, rfl, ⟨hn, hown⟩, hb⟩; rw [← HR.out] at hn hown; rw [H1.out] at hn; subst hn; obtain ⟨g, c, rfl, hg, hl, hc, hm, hcell⟩ := hown.flat (by rw [H2.out]; omega); rw [H2.out] at hc ⊢; have c0 := hcell 0 1 H3.out; have c1 := hcell 16 9 H4.out; clear hcell hown)
  go_ret
  exact ⟨rfl, nx (bS _ _) hb⟩

set_option maxRecDepth 100000 in
set_option maxHeartbeats 1000000 in
theorem sectorSeals_walk (k e0 s p q : Int) (A : Option Addr) (m c : Nat) (bs : List UInt8) (w : World) (hb : RdB w A m bs) (i1 : k ≤ 9223372036854775807) (i2 : e0 ≤ 9223372036854775807) (i3 : s ≤ 9223372036854775807) (i4 : p ≤ 9223372036854775807) (i5 : q ≤ 9223372036854775807) :
    Calls Try.prog 9 #[.agg #[.int .i64 k, .int .i64 e0, .int .i64 s, .int .i64 p, .int .i64 q], .slice A m c] w (LawT w) := by
  have hlb := hb.len
  subst hlb
  have hbw := bS w (.cells #[.int .i64 k, .int .i64 e0, .int .i64 s, .int .i64 p, .int .i64 q] 42)
  have hbox : Row (w.alloc (.cells #[.int .i64 k, .int .i64 e0, .int .i64 s, .int .i64 p, .int .i64 q] 42)) w.heap.size [k, e0, s, p, q] := by
    have h := row_new w 42 [k, e0, s, p, q]
    simpa using h
  by_cases h5 : 5000 < bs.length
  · go_enter Try.func9, Try.ntmps9
    go_wp2_with (go_at_call 26; refine (answers09_any _).mono ?_; rintro e w1 ⟨rfl, hb1⟩; have hbw := nx hbw hb1)
    go_ret
    exact ⟨rfl, hbw⟩
  · go_enter Try.func9, Try.ntmps9
    go_wp2_with (first
      | (go_at_call 26; refine (answers09_any _).mono ?_; rintro e w1 ⟨rfl, hb1⟩; have c0 := below_cell hb1 (hbox 0 k rfl); have c1 := below_cell hb1 (hbox 1 e0 rfl); have c2 := below_cell hb1 (hbox 2 s rfl); have c3 := below_cell hb1 (hbox 3 p rfl); have c4 := below_cell hb1 (hbox 4 q rfl); have hbw := nx hbw hb1)
      | fail)
    have hw1 : w.heap.size < w1.heap.size := World.block_lt_of_cell? w1 _ c0
    go_region_held3 (fun w' => w'.cell? ⟨w.heap.size, 0, none⟩ = some (.int .i64 k) ∧ w'.cell? ⟨w.heap.size, 1, none⟩ = some (.int .i64 e0) ∧ w'.cell? ⟨w.heap.size, 2, none⟩ = some (.int .i64 s) ∧ w'.cell? ⟨w.heap.size, 3, none⟩ = some (.int .i64 p) ∧ w'.cell? ⟨w.heap.size, 4, none⟩ = some (.int .i64 q))
      (first
        | exact ⟨below_cell hb3 d0, below_cell hb3 d1, below_cell hb3 d2, below_cell hb3 d3, below_cell hb3 d4⟩
        | exact ⟨d0, d1, d2, d3, d4⟩
        | go_keep)
      (first
        | (refine step_appB (by rfl) (.tmp 19) (.tmp 20) (by rfl) w1.heap.size _ [] (by rfl) (own_empty w1).drew A _ c bs (by rfl) (hb.below (nx hbw (bS w1 _).drew)) (by simp; omega) (by simp) ?_; intro v2 w2 hown2 hg2 _; rw [List.nil_append] at hown2; have hb2 : Below w1.heap.size w1 w2 := (((bS w1 _)).drew.grown hg2 (by simp) (fun j hj => by simp [Value.ownBlock] at hj; omega)); have d0 := below_cell hb2 c0; have d1 := below_cell hb2 c1; have d2 := below_cell hb2 c2; have d3 := below_cell hb2 c3; have d4 := below_cell hb2 c4; obtain ⟨A2, cc2, rfl, hr2, _⟩ := hown2.form)
        | (go_at_call 27; refine (seal_any _ _ _ _ _ _ _ _ bs _ hr2 (by omega)).mono ?_; rintro e w3 ⟨v3, n3, rfl, ⟨rfl, hown3⟩, hb3⟩))
    have hbw3 := nx (nx hbw hb2) hb3
    obtain ⟨r, hr⟩ : ∃ r, r = sealP k e0 s p q bs := ⟨_, rfl⟩
    rw [← hr] at hown3 ⊢
    have HR := Lib.hid hr
    clear hr hg2
    have hrl : r.1.length ≤ 6000 := by
      rw [HR.out]
      unfold sealP
      split
      · split
        · simp
        · have := hdTo_le [k, e0, s, p, q, (bs.length : Int)] 6
          simp only [List.length_append, List.length_replicate]
          omega
      · simp
    go_wp2_with (first
      | (go_at_call 28; refine (rseal_any _ _ _ _ _ _ _ _ bs _ (hb.below hbw3) (by omega) i1 i2 i3 i4 i5).mono ?_; rintro e w4 ⟨v4, n4, rfl, ⟨hn4, hown4⟩, hb4⟩; rw [← HR.out] at hn4 hown4; subst hn4; obtain ⟨A4, c4, rfl, hr4, _⟩ := hown4.form; obtain ⟨A3, c3, rfl, hr3, _⟩ := (hown3.below hb4).form; have hbw4 := nx hbw3 hb4)
      | (go_at_call 18; refine (same_any _ _ _ _ _ _ r.1 r.1 _ hr3 hr4 (by unfold maxLen; omega) (by unfold maxLen; omega)).mono ?_; rintro e w5 ⟨rfl, k5, rfl⟩; have hbw5 := dN hbw4 k5))
    go_ret
    exact ⟨rfl, hbw5⟩

theorem parts_fits (a b : Nat) (data : List UInt8) : (fitTo [1, 0, 0, a, b, data.length] 5 = true ∧ (1 : Int) ≠ 0 ∧ (b : Int) ≠ 0 ∧ (a : Int) < b) ↔ (a < 256 ∧ b < 256 ∧ 0 < b ∧ a < b) := by
  have hft : fitTo [1, 0, 0, a, b, (data.length : Int)] 5 = (fitsB 1 1 && fitsB 0 4 && fitsB 0 7 && fitsB a 1 && fitsB b 1) := by simp [fitTo, sizesL]
  rw [hft, show fitsB 1 1 = true by decide, show fitsB 0 4 = true by decide, show fitsB 0 7 = true by decide]
  have h256 : (256 : Int) ^ (1 : Int).toNat = 256 := by decide
  have hf : ∀ x : Nat, fitsB x 1 = true ↔ x < 256 := fun x => by
    unfold fitsB
    rw [decide_eq_true_iff, h256]
    omega
  simp only [Bool.true_and, Bool.and_eq_true, hf]
  omega
theorem parts_eq (a b : Nat) (data : List UInt8) : (sealP 1 0 0 a b data).2 = if a < 256 ∧ b < 256 ∧ 0 < b ∧ a < b then (if 496 < data.length then 4 else 0) else 15 := by
  by_cases h : a < 256 ∧ b < 256 ∧ 0 < b ∧ a < b
  · rw [if_pos h]
    have h' := (parts_fits a b data).2 h
    by_cases hl : 496 < data.length
    · rw [sealP_large h' hl, if_pos hl]
    · rw [sealP_ok h' hl, if_neg hl]
  · rw [if_neg h, sealP_range (fun h' => h ((parts_fits a b data).1 h'))]

set_option maxRecDepth 100000 in
set_option maxHeartbeats 1000000 in
theorem sectorParts_walk (a b n : Nat) (w : World) (ha : a < 65536) (hb : b < 65536) (hn : n < 65536) :
    Calls Try.prog 10 #[.int .u16 (a : Int), .int .u16 (b : Int), .int .u16 (n : Int)] w (LawT w) := by
  obtain ⟨m, hm⟩ : ∃ m, m = n % 600 := ⟨_, rfl⟩
  have hm6 : m < 600 := by omega
  have hpe := Lib.hid (parts_eq a b (List.replicate m 0))
  have hmk := mkB m m (Nat.le_refl _) (by omega)
  have hwr : IntKind.i64.wrap (n : Int) = (n : Int) := IntWalk.i64_in _ (by omega)
  have htm : (n : Int).tmod 600 = (m : Int) := by rw [Int.tmod_eq_emod_of_nonneg (by omega), hm]; rfl
  have hbox : Row (w.alloc (.cells #[.int .i64 1, .int .i64 0, .int .i64 0, .int .i64 (a : Int), .int .i64 (b : Int)] 42)) w.heap.size [1, 0, 0, (a : Int), (b : Int)] := by
    have h := row_new w 42 [1, 0, 0, (a : Int), (b : Int)]
    simpa using h
  obtain ⟨w1, hw1⟩ : ∃ w1, w1 = w.alloc (.cells #[.int .i64 1, .int .i64 0, .int .i64 0, .int .i64 (a : Int), .int .i64 (b : Int)] 42) := ⟨_, rfl⟩
  have hbw : Below w.heap.size w w1 := by rw [hw1]; exact bS w _
  rw [← hw1] at hbox
  have c0 := hbox 0 1 rfl
  have c1 := hbox 1 0 rfl
  have c2 := hbox 2 0 rfl
  have c3 := hbox 3 a rfl
  have c4 := hbox 4 b rfl
  have hlt := World.block_lt_of_cell? w1 _ c0
  have HM := Lib.hid hm
  clear hm hbox
  go_enter Try.func10, Try.ntmps10
  go_wp2_with fail
  rw [← hw1]
  clear hw1
  go_region_held3 (fun w' => w'.cell? ⟨w.heap.size, 0, none⟩ = some (.int .i64 1) ∧ w'.cell? ⟨w.heap.size, 1, none⟩ = some (.int .i64 0) ∧ w'.cell? ⟨w.heap.size, 2, none⟩ = some (.int .i64 0) ∧ w'.cell? ⟨w.heap.size, 3, none⟩ = some (.int .i64 a) ∧ w'.cell? ⟨w.heap.size, 4, none⟩ = some (.int .i64 b))
    (first
      | exact ⟨below_cell hb3 d0, below_cell hb3 d1, below_cell hb3 d2, below_cell hb3 d3, below_cell hb3 d4⟩
      | go_keep)
    (first
      | (go_at_call 27; have d0 := below_cell (bS w1 (.cells (madeCells #[.int .u8 0] m) 5)) c0; have d1 := below_cell (bS w1 (.cells (madeCells #[.int .u8 0] m) 5)) c1; have d2 := below_cell (bS w1 (.cells (madeCells #[.int .u8 0] m) 5)) c2; have d3 := below_cell (bS w1 (.cells (madeCells #[.int .u8 0] m) 5)) c3; have d4 := below_cell (bS w1 (.cells (madeCells #[.int .u8 0] m) 5)) c4; refine (seal_any _ _ _ _ _ _ _ _ (List.replicate m 0) _ (OwnB.made w1 m (by unfold maxLen; omega)).drew.rd.1 (by omega)).mono ?_; rintro e w3 ⟨v3, n3, rfl, ⟨rfl, hown3⟩, hb3⟩))
  have hbw3 := nx (nx hbw (bS w1 (.cells (madeCells #[.int .u8 0] m) 5)).drew) hb3
  obtain ⟨z, hz⟩ : ∃ z, z = (sealP 1 0 0 a b (List.replicate m 0)).2 := ⟨_, rfl⟩
  rw [← hz] at hpe ⊢
  clear hz hown3
  have hwr2 : wrap64 (n : Int) = (n : Int) := IntWalk.wrap64_in _ (by omega)
  have hmz : (n : Int) % 600 = (m : Int) := by rw [HM.out]; rfl
  by_cases hc : a < 256 ∧ b < 256 ∧ 0 < b ∧ a < b
  · obtain ⟨g1, g2, g3, g4⟩ := hc
    by_cases hl : 496 < m
    · have hz : Hid (z = 4) := by show _ = _; rw [hpe.out, if_pos ⟨g1, g2, g3, g4⟩, if_pos (by simpa using hl)]
      rw [hz.out]
      clear hmk hmz hwr htm
      have hl2 : 496 < (n : Int) % 600 := by have := HM.out; omega
      go_wp2_with (go_at_call 26; refine (answers09_any _).mono ?_; rintro e w4 ⟨rfl, hb4⟩; have hbw4 := nx hbw3 hb4)
      go_ret
      exact ⟨rfl, hbw4⟩
    · have hz : Hid (z = 0) := by show _ = _; rw [hpe.out, if_pos ⟨g1, g2, g3, g4⟩, if_neg (by simpa using hl)]
      rw [hz.out]
      clear hmk hmz hwr htm
      have hl2 : (n : Int) % 600 ≤ 496 := by have := HM.out; omega
      go_wp2_with (go_at_call 26; refine (answers09_any _).mono ?_; rintro e w4 ⟨rfl, hb4⟩; have hbw4 := nx hbw3 hb4)
      go_ret
      exact ⟨rfl, hbw4⟩
  · have hz : Hid (z = 15) := by show _ = _; rw [hpe.out, if_neg hc]
    rw [hz.out]
    clear hmk hmz hwr htm
    by_cases g1 : a < 256
    · by_cases g2 : b < 256
      · by_cases g3 : 0 < b
        · have g4 : b ≤ a := by omega
          have g5 : decide (a < b) = false := by simpa using g4
          clear hc
          by_cases hl2 : 496 < (n : Int) % 600
          · go_wp2_with (go_at_call 26; refine (answers09_any _).mono ?_; rintro e w4 ⟨rfl, hb4⟩; have hbw4 := nx hbw3 hb4)
            go_ret
            exact ⟨rfl, hbw4⟩
          · go_wp2_with (go_at_call 26; refine (answers09_any _).mono ?_; rintro e w4 ⟨rfl, hb4⟩; have hbw4 := nx hbw3 hb4)
            go_ret
            exact ⟨rfl, hbw4⟩
        · clear hc
          by_cases hl2 : 496 < (n : Int) % 600
          · go_wp2_with (go_at_call 26; refine (answers09_any _).mono ?_; rintro e w4 ⟨rfl, hb4⟩; have hbw4 := nx hbw3 hb4)
            go_ret
            exact ⟨rfl, hbw4⟩
          · go_wp2_with (go_at_call 26; refine (answers09_any _).mono ?_; rintro e w4 ⟨rfl, hb4⟩; have hbw4 := nx hbw3 hb4)
            go_ret
            exact ⟨rfl, hbw4⟩
      · clear hc
        by_cases hl2 : 496 < (n : Int) % 600
        · go_wp2_with (go_at_call 26; refine (answers09_any _).mono ?_; rintro e w4 ⟨rfl, hb4⟩; have hbw4 := nx hbw3 hb4)
          go_ret
          exact ⟨rfl, hbw4⟩
        · go_wp2_with (go_at_call 26; refine (answers09_any _).mono ?_; rintro e w4 ⟨rfl, hb4⟩; have hbw4 := nx hbw3 hb4)
          go_ret
          exact ⟨rfl, hbw4⟩
    · clear hc
      by_cases hl2 : 496 < (n : Int) % 600
      · go_wp2_with (go_at_call 26; refine (answers09_any _).mono ?_; rintro e w4 ⟨rfl, hb4⟩; have hbw4 := nx hbw3 hb4)
        go_ret
        exact ⟨rfl, hbw4⟩
      · go_wp2_with (go_at_call 26; refine (answers09_any _).mono ?_; rintro e w4 ⟨rfl, hb4⟩; have hbw4 := nx hbw3 hb4)
        go_ret
        exact ⟨rfl, hbw4⟩
end Go.Proofs.Ytnhjfdgdjfndiaa
