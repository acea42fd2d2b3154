/- The reference's device: Crash. -/
import Derived.Test.YtjpkddmdhdmhgaaRDev4
namespace Go.Proofs.Ytjpkddmdhdmhgaa
open Go.RowKit

theorem rbit_one (t k : Nat) : ((t : Int) / 2 ^ (k % 64)).tmod 2 = if bitN t k = true then 1 else 0 := by
  rw [show ((t : Int) / 2 ^ (k % 64)) = ((t / 2 ^ (k % 64) : Nat) : Int) by rw [Int.natCast_ediv, Int.natCast_pow]; rfl]
  rw [Int.tmod_eq_emod_of_nonneg (Int.natCast_nonneg _)]
  unfold bitN
  rcases Nat.mod_two_eq_zero_or_one (t / 2 ^ (k % 64)) with h | h
  · rw [if_neg (by rw [h]; decide)]; omega
  · rw [if_pos (by rw [h]; decide)]; omega

set_option maxRecDepth 100000 in
set_option maxHeartbeats 2000000 in
theorem rcrash_any (w : World) (B g : Nat) (F : Nat → Prop) (d : Dv) (m t : Nat) (h : RDev w B F g d) (hun : d.unsure.length ≤ 1000000) :
    Calls Try.prog 31 #[.pointer (some ⟨g, 0, none⟩), .int .u64 (m : Int), .int .u64 (t : Int)] w (fun e w' => e = .returned (.tuple #[]) ∧ ∃ F', RDev w' B F' g (d.crash m t) ∧ Chg F w w' ∧ ∀ x, F' x → F x ∨ w.heap.size ≤ x) := by
  have hfc := Lib.hid (h.fine.crash m t)
  have HF := Lib.hid h.fine.unsure
  have hsz := h.fine.size
  obtain ⟨hf1, sv, uv, S, hgg, hs1, hu1, hgF, hs1F, hu1F, hSF, hFl⟩ := h
  obtain ⟨Au, cu, rfl, _, hucl, hucm⟩ := hu1.form
  have HG := Lib.hid hgg
  have hgl : g < w.heap.size := (hFl g hgF.1).2
  have c1 : w.cell? ⟨g, 1, none⟩ = some _ := (cell_of_row _ _ _ _ _ _ hgg).trans rfl
  clear hgg
  go_enter Try.func31, Try.ntmps31
  go_wp2
  go_loopw [6] (fun iv wr => ∃ (k : Nat) (S' : Nat → Prop), iv = .int .i64 k ∧ k ≤ d.unsure.length ∧ OwnE encRS 123 S' wr B sv (crashL m t 0 (d.unsure.take k) d.sure) ∧ (∀ b, S' b → S b ∨ w.heap.size ≤ b) ∧ Chg (fun x => sv.ownBlock = some x) w wr) (fun iv _ => d.unsure.length - (intOf iv).toNat)
  case atStart => exact ⟨0, S, rfl, Nat.zero_le _, hs1, fun b hb => .inl hb, Chg.refl _ _⟩
  case round =>
    obtain ⟨k, S', rfl, hk, hown, hS', hch⟩ := hrel
    by_cases hlt : k < d.unsure.length
    · obtain ⟨x, hx⟩ : ∃ x, d.unsure[k]? = some x := ⟨_, List.getElem?_eq_getElem hlt⟩
      obtain ⟨p, b⟩ := x
      obtain ⟨hp0, hp1, hbl⟩ := HF.out (p, b) (List.mem_of_getElem? hx)
      have huw := hu1.chg hch (fun x hx hx2 => (hu1F x hx).2.2 hx2) (fun x hx hx2 => (hs1.S_lt x hx).2 hx2.symm)
      obtain ⟨u, c, gd, cd, e, hul, _, e0, e1, hob, hcd, hAS⟩ := unsure_own huw hx hbl
      injection e with ea eb ec
      subst ea
      have hst1 := crashL_take (mask := m) (torn := t) (s := d.sure) hx
      have HX := Lib.hid hst1
      have hcl := crashL_length m t (d.unsure.take k) 0 d.sure
      have hpk : p < (crashL m t 0 (d.unsure.take k) d.sure).length := by rw [hcl]; exact hp1
      obtain ⟨x0, hx0⟩ : ∃ x, (crashL m t 0 (d.unsure.take k) d.sure)[p.toNat]? = some x := ⟨_, List.getElem?_eq_getElem (by omega)⟩
      obtain ⟨s, cs, _, _, _, esv, hsl, hsb, f0, f1, _⟩ := rsure_at hown hx0
      rw [hcl] at esv
      subst esv
      have hgw := hch.heap HG.out (fun e => (hs1F g e).2 rfl)
      have c0w : wr.cell? ⟨g, 0, none⟩ = some (.slice (some ⟨s, 0, none⟩) d.sure.length cs) := (cell_of_row _ _ _ _ _ _ hgw).trans rfl
      have c1w : wr.cell? ⟨g, 1, none⟩ = some (.slice (some ⟨u, 0, none⟩) d.unsure.length cu) := (cell_of_row _ _ _ _ _ _ hgw).trans rfl
      obtain ⟨_, _, cur, ee, _, _, hcur, _, _⟩ := hown.row (by omega)
      injection ee with ee eb2 ec2
      injection ee with ee
      injection ee with ee
      subst ee
      clear eb2 ec2
      have hnS : ¬ S' s := fun h => (hown.S_lt s h).2 rfl
      have HOB := Lib.hid hob
      have hglw : g < wr.heap.size := Nat.lt_of_lt_of_le hgl hch.size
      have HB := Lib.hid hbl
      clear hx hst1 hbl eb ec hcl hx0 hgw
      have hba := (bl (w := wr)).alloc (Nat.le_refl _) (.cells #[.int .i64 p, .slice (some ⟨gd, 0, none⟩) 512 cd] 69)
      obtain ⟨w1, hw1⟩ : ∃ w1, w1 = wr.alloc (.cells #[.int .i64 p, .slice (some ⟨gd, 0, none⟩) 512 cd] 69) := ⟨_, rfl⟩
      have hb1 : Below wr.heap.size wr w1 := by rw [hw1]; exact hba
      have x0' : w1.cell? ⟨wr.heap.size, 0, none⟩ = some (.int .i64 p) := by rw [hw1]; exact new_cell wr _ _ 0
      have x1' : w1.cell? ⟨wr.heap.size, 1, none⟩ = some (.slice (some ⟨gd, 0, none⟩) 512 cd) := by rw [hw1]; exact new_cell wr _ _ 1
      have b1 := rbit_one t k
      have b2 := rbit_one m k
      go_upto_region 4 with (fail)
      rw [← hw1]
      have hown1 := hown.below hb1
      have hob1 : OwnB w1 0 (.slice (some ⟨gd, 0, none⟩) 512 cd) b := HOB.out.below hb1
      have z0 := below_cell hb1 c0w
      have hcur1 := (hb1.block s hsl).trans hcur
      have fs : ∀ j, w1.frozen? ⟨s, j, none⟩ = false := fun j => frozen_of_row _ _ _ _ _ hcur1
      have y0 := below_cell hb1 f0
      have y1 := below_cell hb1 f1
      have hnegs : g ≠ s := fun e => (hs1F s rfl).2 e.symm
      have hneqs : wr.heap.size ≠ s := Nat.ne_of_gt hsl
      have hch1 := hch.nx hb1
      have hB : B ≤ w1.heap.size := Nat.le_trans (Nat.le_trans hgF.2 (Nat.le_of_lt hgl)) hch1.size
      clear hw1 hba c0w e0 e1 f0 f1 c1w
      by_cases h1 : bitN t k = true
      · rw [if_pos h1] at b1
        have H1 := Lib.hid h1
        clear b2 h1
        go_upto_region 6 with (fail)
        go_region_held3 (fun w' => w'.cell? ⟨g, 0, none⟩ = some (.slice (some ⟨s, 0, none⟩) d.sure.length cs) ∧ w'.cell? ⟨wr.heap.size, 0, none⟩ = some (.int .i64 p))
          (first
            | with_reducible exact ⟨z0, x0'⟩
            | with_reducible exact ⟨below_cell bl.drew z0, below_cell bl.drew x0'⟩
            | with_reducible exact ⟨u0, u1⟩
            | with_reducible exact ⟨(chg_g2 w2 s _ _ _ _).cell u0 hnegs, (chg_g2 w2 s _ _ _ _).cell u1 hneqs⟩
            | fail)
          (first
            | (go_at_call 26; refine (rzero_any _).mono ?_; rintro e w2 ⟨g2, rfl, hown2, hb2⟩; have hb12 : Below w1.heap.size w1 w2 := nx bl.drew hb2; have u0 := below_cell hb12 z0; have u1 := below_cell hb12 x0'; have u2 := below_cell hb12 y0; have u3 := below_cell hb12 y1; have u4 : ∀ j, w2.frozen? ⟨s, j, none⟩ = false := fun j => frozen_of_row _ _ _ _ _ ((hb12.block s (Nat.lt_of_lt_of_le hsl hb1.size)).trans hcur1))
            | fail)
        have hg2 := hown2.lt
        have hg2' : w1.heap.size ≤ g2 := hg2.1
        have hown2' := (hown1.below hb12).widen (S' := orS S' fun b => b = g2) (fun b hb => .inl hb) (fun b hb => hb.elim (fun h => (hown1.below hb12).S_lt b h) (fun e => ⟨by rw [e]; exact hg2.2, fun e2 => by subst e; have := (hown1.lt _ e2.symm).2; omega⟩))
        have hnew := rput_done (b := b) (torn := true) hown2' hp0 hpk (fun h => h.elim hnS (fun e => by have := hb1.size; omega)) (v := .slice (some ⟨g2, 0, none⟩) 512 512) ⟨g2, 512, zero512, rfl, .inr rfl, hown2.mono (Nat.zero_le _), zero512_len, fun y e => by cases e⟩
        have hcn : Chg (fun x => (Value.slice (some ⟨s, 0, none⟩) d.sure.length cs).ownBlock = some x) w _ := ((hch1.nx hb12).setCell (p := ⟨s, p.toNat * 2, none⟩) (Or.inl rfl) (.slice (some ⟨g2, 0, none⟩) 512 512)).setCell (p := ⟨s, p.toNat * 2 + 1, none⟩) (Or.inl rfl) (.bool true)
        go_wp2
        go_roundw
        case rel => exact ⟨k + 1, orS S' fun b => b = g2, by go_num, by omega, by rw [HX.out]; unfold crashS; rw [if_pos H1.out]; exact hnew, fun b hb => hb.elim (hS' b) (fun e => .inr (by have := hch1.size; subst e; omega)), hcn⟩
        case measure => simp [intOf]; omega
      · rw [if_neg h1] at b1
        have H1 := Lib.hid h1
        clear h1
        by_cases h2 : bitN m k = true
        · rw [if_pos h2] at b2
          have H2 := Lib.hid h2
          clear h2
          go_upto_region 8 with (fail)
          go_still_tail 10, (by kernel_rfl)
          change wpList _ _ _ _ _ w1.drew
          go_wp2
          have hnew := (rput_done (b := b) (torn := false) (hown1.widen (S' := orS S' S) (fun b hb => .inl hb) (fun b hb => hb.elim (hown1.S_lt b) (fun h => ⟨Nat.lt_of_lt_of_le (hFl b (hSF b h).1).2 hch1.size, fun e => (hs1.S_lt b h).2 e⟩))) hp0 hpk (fun h => h.elim hnS (fun h => (hs1.S_lt s h).2 rfl)) (encRS_at hob1 (.inr hAS))).below bl.drew
          have hcn : Chg (fun x => (Value.slice (some ⟨s, 0, none⟩) d.sure.length cs).ownBlock = some x) w _ := ((hch1.setCell (p := ⟨s, p.toNat * 2, none⟩) (Or.inl rfl) (.slice (some ⟨gd, 0, none⟩) 512 cd)).setCell (p := ⟨s, p.toNat * 2 + 1, none⟩) (Or.inl rfl) (.bool false)).drew
          go_roundw
          case rel => exact ⟨k + 1, orS S' S, by go_num, by omega, by rw [HX.out]; unfold crashS; rw [if_neg H1.out, if_pos H2.out]; exact hnew, fun b hb => hb.elim (hS' b) .inl, hcn⟩
          case measure => simp [intOf]; omega
        · rw [if_neg h2] at b2
          have H2 := Lib.hid h2
          clear h2
          go_wp2
          go_roundw
          case rel => exact ⟨k + 1, S', by go_num, by omega, by rw [HX.out]; unfold crashS; rw [if_neg H1.out, if_neg H2.out]; exact hown1, hS', hch1⟩
          case measure => simp [intOf]; omega
    · obtain rfl : k = d.unsure.length := by omega
      have hgw := hch.heap HG.out (fun e => (hs1F g e).2 rfl)
      have c1w : wr.cell? ⟨g, 1, none⟩ = some _ := (cell_of_row _ _ _ _ _ _ hgw).trans rfl
      have c2w : wr.cell? ⟨g, 2, none⟩ = some _ := (cell_of_row _ _ _ _ _ _ hgw).trans rfl
      have c3w : wr.cell? ⟨g, 3, none⟩ = some _ := (cell_of_row _ _ _ _ _ _ hgw).trans rfl
      have f1w : ∀ j, wr.frozen? ⟨g, j, none⟩ = false := fun j => frozen_of_row _ _ _ _ _ hgw
      have HGW := Lib.hid hgw
      rw [List.take_length] at hown
      clear hgw
      go_wp2
      go_end0
      have hcF : Chg F w wr := hch.mono (fun x hx => .inl (hs1F x hx).1)
      have hc2 := (chg_g2 wr g 1 2 (.slice none 0 0) (.int .i64 0)).setCell (p := ⟨g, 3, none⟩) (Or.inl rfl) (.bool false)
      have hsz2 := hch.size
      refine ⟨rfl, fun x => F x ∨ (w.heap.size ≤ x ∧ x < wr.heap.size), RDev.own_cells (w := wr) (sv := sv) (S := S') hfc.out ((heap_setCell_same _ _ _ _ _ _ (heap_setCell_same _ _ _ _ _ _ (heap_setCell_same _ _ _ _ _ _ HGW.out))).trans rfl) hc2 hown ((OwnE.nil encW 69 wr B).widen (fun b hb => hb.elim) (fun b hb => ⟨(hown.S_lt b hb).1, by simp [Value.ownBlock]⟩)) ⟨.inl hgF.1, hgF.2⟩ (fun x hx => ⟨.inl (hs1F x hx).1, (hs1F x hx).2⟩) (fun x hx => by simp [Value.ownBlock] at hx) (fun x hx => ?_) (fun x hx => ?_), hcF.trans hc2 (fun x hx => by subst hx; exact .inl hgF.1), fun x hx => hx.imp id (·.1)⟩
      · rcases hS' x hx with h | h
        · exact ⟨.inl (hSF x h).1, (hSF x h).2⟩
        · exact ⟨.inr ⟨h, (hown.S_lt x hx).1⟩, by omega⟩
      · rcases hx with hx | hx
        · exact ⟨(hFl x hx).1, Nat.lt_of_lt_of_le (hFl x hx).2 hsz2⟩
        · exact ⟨by have := hgF.2; omega, hx.2⟩
end Go.Proofs.Ytjpkddmdhdmhgaa
