/- The walk of SectorBack. -/
import Derived.Test.YtjpkddmdhdmhgaaSOpen
import Derived.Test.YtjpkddmdhdmhgaaSame
import Derived.Test.YtjpkddmdhdmhgaaAns09
import Derived.Deep.RegionHeld3
import Derived.Deep.CutBlock
import Derived.Deep.DeepCutAuto
namespace Go.Proofs.Ytjpkddmdhdmhgaa
open Go.RowKit

theorem sealP_cases (k e s p q : Int) (data : List UInt8) : (∃ f : Int, f ≠ 0 ∧ sealP k e s p q data = ([], f)) ∨ ∃ l, l.length = 512 ∧ sealP k e s p q data = (l, 0) ∧ openP l = ([k, e, s, p, q], data, 0) := by
  by_cases h : fitTo [k, e, s, p, q, data.length] 5 = true ∧ k ≠ 0 ∧ q ≠ 0 ∧ p < q
  · by_cases hl : 496 < data.length
    · exact .inl ⟨4, by decide, sealP_large h hl⟩
    · refine .inr ⟨(sealP k e s p q data).1, ?_, ?_, open_seal (by rw [sealP_ok h hl])⟩
      · rw [sealP_ok h hl]
        simp only [List.length_append, List.length_replicate]
        rw [hdTo_16 _ _ _ _ _ _ h.1 (by omega) (by omega)]
        omega
      · rw [sealP_ok h hl]
  · exact .inl ⟨15, by decide, sealP_range h⟩

set_option maxRecDepth 100000 in
set_option maxHeartbeats 2000000 in
theorem sectorBack_walk (k e0 s p q : Int) (A : Option Addr) (m c : Nat) (bs : List UInt8) (w : World) (hb : RdB w A m bs) :
    Calls Try.prog 4 #[.agg #[.int .i64 k, .int .i64 e0, .int .i64 s, .int .i64 p, .int .i64 q], .slice A m c] w (LawT w) := by
  have hlb := hb.len
  subst hlb
  have hbw := bS w (.cells #[.int .i64 k, .int .i64 e0, .int .i64 s, .int .i64 p, .int .i64 q] 27)
  have hbox : Row (w.alloc (.cells #[.int .i64 k, .int .i64 e0, .int .i64 s, .int .i64 p, .int .i64 q] 27)) w.heap.size [k, e0, s, p, q] := by
    have h := row_new w 27 [k, e0, s, p, q]
    simpa using h
  by_cases h5 : 5000 < bs.length
  · go_enter Try.func4, Try.ntmps4
    go_wp2_with (go_at_call 15; refine (answers09_any _).mono ?_; rintro e w1 ⟨rfl, hb1⟩; have hbw := nx hbw hb1)
    go_ret
    exact ⟨rfl, hbw⟩
  · go_enter Try.func4, Try.ntmps4
    go_wp2_with (first
      | (go_at_call 15; refine (answers09_any _).mono ?_; rintro e w1 ⟨rfl, hb1⟩; have c0 := below_cell hb1 (hbox 0 k rfl); have c1 := below_cell hb1 (hbox 1 e0 rfl); have c2 := below_cell hb1 (hbox 2 s rfl); have c3 := below_cell hb1 (hbox 3 p rfl); have c4 := below_cell hb1 (hbox 4 q rfl); have hbw := nx hbw hb1)
      | fail)
    have hw1 : w.heap.size < w1.heap.size := World.block_lt_of_cell? w1 _ c0
    go_region_held3 (fun w' => w'.cell? ⟨w.heap.size, 0, none⟩ = some (.int .i64 k) ∧ w'.cell? ⟨w.heap.size, 1, none⟩ = some (.int .i64 e0) ∧ w'.cell? ⟨w.heap.size, 2, none⟩ = some (.int .i64 s) ∧ w'.cell? ⟨w.heap.size, 3, none⟩ = some (.int .i64 p) ∧ w'.cell? ⟨w.heap.size, 4, none⟩ = some (.int .i64 q))
      (first
        | exact ⟨below_cell hb3 d0, below_cell hb3 d1, below_cell hb3 d2, below_cell hb3 d3, below_cell hb3 d4⟩
        | exact ⟨d0, d1, d2, d3, d4⟩
        | go_keep)
      (first
        | (refine step_appB (by rfl) (.tmp 21) (.tmp 22) (by rfl) w1.heap.size _ [] (by rfl) (own_empty w1).drew A _ c bs (by rfl) (hb.below (nx hbw (bS w1 _).drew)) (by simp; omega) (by simp) ?_; intro v2 w2 hown2 hg2 _; rw [List.nil_append] at hown2; have hb2 : Below w1.heap.size w1 w2 := (((bS w1 _)).drew.grown hg2 (by simp) (fun j hj => by simp [Value.ownBlock] at hj; omega)); have d0 := below_cell hb2 c0; have d1 := below_cell hb2 c1; have d2 := below_cell hb2 c2; have d3 := below_cell hb2 c3; have d4 := below_cell hb2 c4; obtain ⟨A2, cc2, rfl, hr2, _⟩ := hown2.form)
        | (go_at_call 19; refine (seal_any _ _ _ _ _ _ _ _ bs _ hr2 (by omega)).mono ?_; rintro e w3 ⟨v3, n3, rfl, ⟨rfl, hown3⟩, hb3⟩))
    have hbw3 := nx (nx hbw hb2) hb3
    have g0 := below_cell hb3 d0
    have g1 := below_cell hb3 d1
    have g2 := below_cell hb3 d2
    have g3 := below_cell hb3 d3
    have g4 := below_cell hb3 d4
    rcases sealP_cases k e0 s p q bs with ⟨f, hf, hs⟩ | ⟨l, hl, hs, ho⟩
    · rw [hs] at hown3 ⊢
      have hf3 : (f != 0) = true := by rw [bne_iff_ne]; exact hf
      clear hs hf hg2
      obtain ⟨A3, c3', rfl, hr3, _⟩ := hown3.form
      go_wp2
      go_ret
      exact ⟨rfl, hbw3⟩
    · rw [hs] at hown3 ⊢
      have HO := Lib.hid ho
      have hl512 : l.length ≤ 512 := by omega
      have HL := Lib.hid hl
      clear hs ho hl hg2
      obtain ⟨g, c3', rfl, hg1', hg2', hl3, hcm3, hcell⟩ := hown3.flat (by rw [HL.out]; omega)
      have hr3 := hown3.rd.1
      clear hcell
      go_wp2_with (go_at_call 16; refine (sopen_any _ _ _ l _ hr3 hl3 (by rw [HL.out]; omega)).mono ?_; rw [HO.out]; rintro e w4 ⟨v4, rfl, hown4, hb4⟩; obtain ⟨A4, c4', rfl, hr4, _⟩ := hown4.form; have hbw4 := nx hbw3 hb4)
      have hg0 : w.heap.size < g := Nat.lt_of_lt_of_le hw1 (Nat.le_trans hb2.size hg1')
      have hg4 : g < w4.heap.size := Nat.lt_of_lt_of_le hg2' hb4.size
      have ho5 := (hown3.below hb4).alloc (.cells #[.int .i64 k, .int .i64 e0, .int .i64 s, .int .i64 p, .int .i64 q] 27)
      have hb5 := hbw4.alloc hbw4.size (.cells #[.int .i64 k, .int .i64 e0, .int .i64 s, .int .i64 p, .int .i64 q] 27)
      have x0 := new_cell w4 #[.int .i64 k, .int .i64 e0, .int .i64 s, .int .i64 p, .int .i64 q] 27 0
      have x1 := new_cell w4 #[.int .i64 k, .int .i64 e0, .int .i64 s, .int .i64 p, .int .i64 q] 27 1
      have x2 := new_cell w4 #[.int .i64 k, .int .i64 e0, .int .i64 s, .int .i64 p, .int .i64 q] 27 2
      have x3 := new_cell w4 #[.int .i64 k, .int .i64 e0, .int .i64 s, .int .i64 p, .int .i64 q] 27 3
      have x4 := new_cell w4 #[.int .i64 k, .int .i64 e0, .int .i64 s, .int .i64 p, .int .i64 q] 27 4
      have y0 := below_cell (nx hb4 (bS w4 (.cells #[.int .i64 k, .int .i64 e0, .int .i64 s, .int .i64 p, .int .i64 q] 27))) g0
      have y1 := below_cell (nx hb4 (bS w4 (.cells #[.int .i64 k, .int .i64 e0, .int .i64 s, .int .i64 p, .int .i64 q] 27))) g1
      have y2 := below_cell (nx hb4 (bS w4 (.cells #[.int .i64 k, .int .i64 e0, .int .i64 s, .int .i64 p, .int .i64 q] 27))) g2
      have y3 := below_cell (nx hb4 (bS w4 (.cells #[.int .i64 k, .int .i64 e0, .int .i64 s, .int .i64 p, .int .i64 q] 27))) g3
      have y4 := below_cell (nx hb4 (bS w4 (.cells #[.int .i64 k, .int .i64 e0, .int .i64 s, .int .i64 p, .int .i64 q] 27))) g4
      have hr5 := hr4.below (bS w4 (.cells #[.int .i64 k, .int .i64 e0, .int .i64 s, .int .i64 p, .int .i64 q] 27))
      have hlt5 : ∀ b off, A4 = some ⟨b, off, none⟩ → b ≠ g := by
        intro b off e
        subst e
        rcases hown4.2 with ⟨h, _⟩ | ⟨gg, _, _, h, h2, _⟩
        · cases h
        · injection h with h
          injection h with h
          injection h with h
          omega
      generalize World.alloc w4 _ = w5 at ho5 hb5 x0 x1 x2 x3 x4 y0 y1 y2 y3 y4 hr5 ⊢
      have HL5 := Lib.hid hlt5
      clear hlt5 c0 c1 c2 c3 c4 d0 d1 d2 d3 d4 g0 g1 g2 g3 g4
      go_loopw [10] (fun i wr => ∃ (j : Nat) (xs : List UInt8), i = .int .i64 j ∧ j ≤ l.length ∧ Hid (xs.length = l.length) ∧ OwnB wr w2.heap.size (.slice (some ⟨g, 0, none⟩) l.length c3') xs ∧ Hid (∀ h, h ≠ g → wr.heap[h]? = w5.heap[h]?) ∧ Below w.heap.size w wr) (fun i _ => l.length - (intOf i).toNat)
      case atStart => exact ⟨0, l, rfl, Nat.zero_le _, rfl, ho5, fun _ _ => rfl, hb5⟩
      case round =>
        obtain ⟨j, xs, rfl, hj, hxl, hown, hsame, hbw⟩ := hrel
        by_cases hlt : j < l.length
        · have hq := hown.cell (k := j) (by rw [hxl.out]; exact hlt)
          have hf := hown.free j
          go_wp2
          go_roundw
          case rel => exact ⟨j + 1, xs.set j 7, by go_num, by omega, by show _ = _; rw [List.length_set]; exact hxl.out, hown.set j 7, fun h hh => (heap_setCell_other _ _ _ _ hh).trans (hsame.out h hh), hbw.setCell (Nat.le_of_lt hg0) _⟩
          case measure => simp [intOf]; omega
        · have hs1 := hsame.out w4.heap.size (by omega)
          have hs2 := hsame.out w.heap.size (by omega)
          have z0 := (World.cell?_of_block (a := ⟨w4.heap.size, 0, none⟩) hs1).trans x0
          have z1 := (World.cell?_of_block (a := ⟨w4.heap.size, 1, none⟩) hs1).trans x1
          have z2 := (World.cell?_of_block (a := ⟨w4.heap.size, 2, none⟩) hs1).trans x2
          have z3 := (World.cell?_of_block (a := ⟨w4.heap.size, 3, none⟩) hs1).trans x3
          have z4 := (World.cell?_of_block (a := ⟨w4.heap.size, 4, none⟩) hs1).trans x4
          have v0 := (World.cell?_of_block (a := ⟨w.heap.size, 0, none⟩) hs2).trans y0
          have v1 := (World.cell?_of_block (a := ⟨w.heap.size, 1, none⟩) hs2).trans y1
          have v2 := (World.cell?_of_block (a := ⟨w.heap.size, 2, none⟩) hs2).trans y2
          have v3 := (World.cell?_of_block (a := ⟨w.heap.size, 3, none⟩) hs2).trans y3
          have v4 := (World.cell?_of_block (a := ⟨w.heap.size, 4, none⟩) hs2).trans y4
          have hr6 : RdB wr A4 bs.length bs := ⟨hr5.1, fun hn => by
            obtain ⟨b, off, e, hc⟩ := hr5.2 hn
            exact ⟨b, off, e, fun j u hu => (World.cell?_of_block (a := ⟨b, off + j, none⟩) (hsame.out b (HL5.out b off e))).trans (hc j u hu)⟩⟩
          clear hs1 hs2 x0 x1 x2 x3 x4 y0 y1 y2 y3 y4
          go_wp2_with (go_at_call 18; refine (same_any _ _ _ _ _ _ bs bs _ hr6 (hb.below hbw) (by unfold maxLen; omega) (by unfold maxLen; omega)).mono ?_; rintro e w8 ⟨rfl, k8, rfl⟩)
          go_ret
          exact ⟨rfl, dN hbw k8⟩
end Go.Proofs.Ytjpkddmdhdmhgaa
