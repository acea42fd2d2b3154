/- The reference's device: Zero, spend, New. -/
import Derived.Test.YtjpkddmdhdmhgaaRDevMem
import Derived.Test.YtjpkddmdhdmhgaaFlash8
import Derived.Test.YtjpkddmdhdmhgaaTac
import Derived.Deep.RegionLaw
namespace Go.Proofs.Ytjpkddmdhdmhgaa
open Go.RowKit

set_option maxHeartbeats 400000 in
theorem rzero_any (w : World) : Calls Try.prog 26 #[] w (fun e w' => ∃ g, e = .returned (.slice (some ⟨g, 0, none⟩) 512 512) ∧ OwnB w' w.heap.size (.slice (some ⟨g, 0, none⟩) 512 512) zero512 ∧ Below w.heap.size w w') := by
  have hmk : ∀ W : World, (Instr.makeSlice 22 (.int .i64 512) (.int .i64 512)).run Try.prog W = .ok (.slice (some ⟨W.heap.size, 0, none⟩) 512 512) (W.alloc (.cells (madeCells #[.int .u8 0] 512) 5)) := mkB 512 512 (Nat.le_refl _) (by omega)
  have ho1 : OwnB (w.alloc (.cells (madeCells #[.int .u8 0] 512) 5)) w.heap.size (.slice (some ⟨w.heap.size, 0, none⟩) 512 512) zero512 := OwnB.made w 512 (by unfold maxLen; omega)
  go_enter Try.func26, Try.ntmps26
  go_wp2
  go_ret
  exact ⟨_, rfl, ho1, bl.alloc (Nat.le_refl _) _⟩

set_option maxHeartbeats 400000 in
theorem rspend_any (w : World) (B g : Nat) (F : Nat → Prop) (d : Dv) (h : RDev w B F g d) (hd : d.down = false) :
    Calls Try.prog 73 #[.pointer (some ⟨g, 0, none⟩)] w (fun e w' => e = .returned (.bool d.stays) ∧ RDev w' B F g d.spent ∧ Chg (fun k => k = g) w w') := by
  obtain ⟨hf, sv, uv, S, hg, hs, hu, hg1, hs1, hu1, hS, hF⟩ := h
  have c2 : w.cell? ⟨g, 2, none⟩ = some (.int .i64 d.limit) := (cell_of_row _ _ _ _ _ _ hg).trans rfl
  have c3 : w.cell? ⟨g, 3, none⟩ = some (.bool false) := by rw [← hd]; exact (cell_of_row _ _ _ _ _ _ hg).trans rfl
  have f2 : ∀ k, w.frozen? ⟨g, k, none⟩ = false := fun k => frozen_of_row _ _ _ _ _ hg
  have hl0 := hf.limit.1
  have hl1 := hf.limit.2
  by_cases h0 : d.limit = 0
  · have e1 : d.stays = true := by unfold Dv.stays; rw [if_pos h0]
    have e2 : d.spent = d := by unfold Dv.spent; rw [if_pos h0]
    rw [e1, e2]
    have h0' : (d.limit == 0) = true := by rw [beq_iff_eq]; exact h0
    have HD : Hid (RDev w B F g d) := ⟨hf, sv, uv, S, hg, hs, hu, hg1, hs1, hu1, hS, hF⟩
    clear hg hs hu hg1 hs1 hu1 hS hF hf e1 e2 h0
    go_enter Try.func73, Try.ntmps73
    go_wp2
    go_ret
    exact ⟨rfl, HD.out, Chg.refl _ _⟩
  · have h0' : (d.limit == 0) = false := by rw [beq_eq_false_iff_ne]; exact h0
    have hge : 1 ≤ d.limit := by omega
    have hfs := hf.spent
    have HG := Lib.hid hg
    have HD := Lib.hid hd
    have hu2 : d.spent.unsure = d.unsure := Dv.spent_unsure
    have hs2 : d.spent.sure = d.sure := Dv.spent_sure
    by_cases h1 : d.limit = 1
    · have e1 : d.stays = false := by unfold Dv.stays; rw [if_neg h0]; simp [h1]
      have e2 : Hid (d.spent = { d with limit := d.limit - 1, down := true }) := by show _ = _; unfold Dv.spent; rw [if_neg h0]; simp [h1]
      rw [e1]
      have h1' : (d.limit - 1 == 0) = true := by rw [beq_iff_eq]; omega
      clear hg h0 h1 e1
      go_enter Try.func73, Try.ntmps73
      go_wp2
      go_ret
      refine ⟨rfl, RDev.own_cells (sv := sv) (uv := uv) (S := S) hfs ?_ (chg_g2 w g 2 3 _ _) (by rw [hs2]; exact hs) (by rw [hu2]; exact hu) hg1 hs1 hu1 hS hF, chg_g2 w g 2 3 _ _⟩
      rw [e2.out]
      exact (heap_setCell_same _ _ _ _ _ _ (heap_setCell_same _ _ _ _ _ _ HG.out)).trans rfl
    · have e1 : d.stays = true := by unfold Dv.stays; rw [if_neg h0]; simp [h1]
      have e2 : Hid (d.spent = { d with limit := d.limit - 1, down := false }) := by show _ = _; unfold Dv.spent; rw [if_neg h0]; simp [h1]
      rw [e1]
      have h1' : (d.limit - 1 == 0) = false := by rw [beq_eq_false_iff_ne]; omega
      clear hg h0 h1 e1
      go_enter Try.func73, Try.ntmps73
      go_wp2
      go_ret
      refine ⟨rfl, RDev.own_cells (sv := sv) (uv := uv) (S := S) hfs ?_ (chg_g1 w g 2 _) (by rw [hs2]; exact hs) (by rw [hu2]; exact hu) hg1 hs1 hu1 hS hF, chg_g1 w g 2 _⟩
      rw [e2.out]
      rw [heap_setCell_same _ _ _ _ _ _ HG.out, HD.out]
      rfl

theorem encRS_own {w : World} {base gd c : Nat} {bs : List UInt8} (h : OwnB w base (.slice (some ⟨gd, 0, none⟩) 512 c) bs) : encRS.R (fun b => b = gd) w [.slice (some ⟨gd, 0, none⟩) 512 c, .bool false] (some bs) :=
  ⟨gd, c, bs, rfl, rfl, h.mono (Nat.zero_le _), h.rd.2.symm, fun y e => by injection e with e; exact e.symm⟩

theorem RDev.made (w : World) : RDev (w.alloc (.cells #[.slice none 0 0, .slice none 0 0, .int .i64 0, .bool false] 62)) w.heap.size (fun k => k = w.heap.size) w.heap.size (Dv.new 0) :=
  ⟨Dv.Fine.new (Nat.zero_le _), .slice none 0 0, .slice none 0 0, noS, heap_alloc_new w _, OwnE.nil _ _ _ _, OwnE.nil _ _ _ _, ⟨rfl, Nat.le_refl _⟩, (fun k hk => by cases hk), (fun k hk => by cases hk), fun k hk => hk.elim, fun k hk => by subst hk; simp⟩

/-- One sector more. -/
theorem RDev.pushed {w w4 w5 : World} {B g : Nat} {F S S' : Nat → Prop} {d : Dv} {sv uv v5 : Value} {y : Option (List UInt8)} (hg : w.heap[g]? = some (.cells #[sv, uv, .int .i64 d.limit, .bool d.down] 62 (0, 0))) (hu : OwnE encW 69 S w B uv d.unsure)
    (hg1 : F g ∧ B ≤ g) (hs1 : ∀ k, sv.ownBlock = some k → F k ∧ k ≠ g) (hu1 : ∀ k, uv.ownBlock = some k → F k ∧ k ≠ g ∧ sv.ownBlock ≠ some k) (hS : ∀ k, S k → F k ∧ k ≠ g ∧ sv.ownBlock ≠ some k) (hF : ∀ k, F k → B ≤ k ∧ k < w.heap.size)
    (hf : Dv.Fine { d with sure := d.sure ++ [y] }) (hb4 : Below w.heap.size w w4) (hown5 : OwnE encRS 123 (orS S S') w5 B v5 (d.sure ++ [y])) (hg5 : w4.grownBy w5 sv.ownBlock) (hv5 : v5.ownBlock = sv.ownBlock ∨ v5.ownBlock = some (w4.heap.size + 1)) (hS' : ∀ b, S' b → w.heap.size ≤ b ∧ b < w4.heap.size) :
    RDev (w5.setCell ⟨g, 0, none⟩ v5) B (fun k => F k ∨ (w.heap.size ≤ k ∧ k < w5.heap.size)) g { d with sure := d.sure ++ [y] } ∧ Chg F w (w5.setCell ⟨g, 0, none⟩ v5) := by
  have hgl := (hF g hg1.1).2
  have hc5 : Chg (fun b => sv.ownBlock = some b) w w5 := (Chg.of_below hb4).grown hg5 (fun k hk => .inl hk)
  have hgw := hc5.heap hg (fun e => (hs1 g e).2 rfl)
  have hz4 := hb4.size
  have hz5 := hg5.size
  have hSl : ∀ k, S k → k < w.heap.size := fun k hk => (hF k (hS k hk).1).2
  have hu5 := (hu.chg hc5 (fun k hk e => (hu1 k hk).2.2 e) (fun b hb e => (hS b hb).2.2 e))
  refine ⟨RDev.own_cells (w := w5) (sv := v5) (uv := uv) (S := orS S S') hf ((heap_setCell_same _ _ _ _ _ _ hgw).trans rfl) (chg_g1 w5 g 0 _) hown5 (hu5.widen (fun b hb => .inl hb) (fun b hb => ?_)) ⟨.inl hg1.1, hg1.2⟩ (fun k hk => ?_) (fun k hk => ?_) (fun k hk => ?_) (fun k hk => ?_), (hc5.mono (G := F) (fun k hk => .inl (hs1 k hk).1)).setCell (p := ⟨g, 0, none⟩) (Or.inl hg1.1) _⟩
  · rcases hb with hb | hb
    · exact ⟨by have := hSl b hb; omega, (hu5.S_lt b hb).2⟩
    · have h1 := hS' b hb
      exact ⟨by omega, fun e => by have := (hu.lt b e.symm).2; omega⟩
  · have hl := (hown5.lt k hk).2
    rcases hv5 with e | e
    · rw [e] at hk
      exact ⟨.inl (hs1 k hk).1, (hs1 k hk).2⟩
    · rw [e] at hk
      injection hk with hk
      exact ⟨.inr ⟨by omega, hl⟩, by omega⟩
  · refine ⟨.inl (hu1 k hk).1, (hu1 k hk).2.1, fun e => ?_⟩
    rcases hv5 with e5 | e5
    · rw [e5] at e
      exact (hu1 k hk).2.2 e
    · rw [e5] at e
      injection e with e
      have := (hu.lt k hk).2
      omega
  · rcases hk with hk | hk
    · exact ⟨.inl (hS k hk).1, (hS k hk).2.1⟩
    · have h1 := hS' k hk
      exact ⟨.inr ⟨h1.1, by omega⟩, by omega⟩
  · rcases hk with hk | hk
    · exact ⟨(hF k hk).1, by have := (hF k hk).2; omega⟩
    · exact ⟨by omega, hk.2⟩

theorem RDev.cells0 {w w4 w5 : World} {g : Nat} {F : Nat → Prop} {sv uv l dn : Value} (hg : w.heap[g]? = some (.cells #[sv, uv, l, dn] 62 (0, 0))) (hs1 : ∀ k, sv.ownBlock = some k → F k ∧ k ≠ g)
    (hb4 : Below w.heap.size w w4) (hg5 : w4.grownBy w5 sv.ownBlock) : w5.cell? ⟨g, 0, none⟩ = some sv ∧ ∀ k, w5.frozen? ⟨g, k, none⟩ = false := by
  have hc5 : Chg (fun b => sv.ownBlock = some b) w w5 := (Chg.of_below hb4).grown hg5 (fun k hk => .inl hk)
  have hgw := hc5.heap hg (fun e => (hs1 g e).2 rfl)
  exact ⟨(cell_of_row _ _ _ _ _ _ hgw).trans rfl, fun k => frozen_of_row _ _ _ _ _ hgw⟩

theorem Dv.new_succ (k : Nat) : { Dv.new k with sure := (Dv.new k).sure ++ [some zero512] } = Dv.new (k + 1) := by
  simp only [Dv.new, List.replicate_succ']

set_option maxRecDepth 100000 in
set_option maxHeartbeats 1000000 in
theorem rnew_any (w : World) (n : Nat) (hn : n ≤ 4096) :
    Calls Try.prog 27 #[.int .i64 (n : Int)] w (fun e w' => ∃ g F, e = .returned (.pointer (some ⟨g, 0, none⟩)) ∧ RDev w' w.heap.size F g (Dv.new n) ∧ Below w.heap.size w w') := by
  go_enter Try.func27, Try.ntmps27
  go_upto_region 2 with (fail)
  obtain ⟨w1, hw1⟩ : ∃ w1, w1 = w.alloc (.cells #[.slice none 0 0, .slice none 0 0, .int .i64 0, .bool false] 62) := ⟨_, rfl⟩
  have H1 : Hid (RDev w1 w.heap.size (fun k => k = w.heap.size) w.heap.size (Dv.new 0)) := by show RDev _ _ _ _ _; rw [hw1]; exact RDev.made w
  have hb1 : Below w.heap.size w w1 := by rw [hw1]; exact bl.alloc (Nat.le_refl _) _
  rw [← hw1]
  clear hw1
  go_wp2
  go_loopw [4] (fun iv wr => ∃ (k : Nat) (F : Nat → Prop), iv = .int .i64 k ∧ k ≤ n ∧ Hid (RDev wr w.heap.size F w.heap.size (Dv.new k)) ∧ Below w.heap.size w wr) (fun iv _ => n - (intOf iv).toNat)
  case atStart => exact ⟨0, _, rfl, Nat.zero_le _, H1, hb1⟩
  case round =>
    obtain ⟨k, F, rfl, hk, HD, hbw⟩ := hrel
    clear H1 hb1
    by_cases hlt : k < n
    · have HS := Lib.hid (Dv.new_succ k)
      obtain ⟨hf, sv, uv, S, hgg, hs, hu, hg1, hs1, hu1, hS, hF⟩ := HD.out
      obtain ⟨A, c, rfl, _, hlc, hcm⟩ := hs.form
      have hsl : (Dv.new k).sure.length = k := List.length_replicate
      rw [hsl] at hs hgg hs1 hu1 hlc
      have hsl2 : (Dv.new k).sure.length + 1 = k + 1 := by rw [hsl]
      have HSL := Lib.hid hsl2
      have HSL1 := Lib.hid hsl
      clear hsl hsl2
      have e0 : wr.cell? ⟨w.heap.size, 0, none⟩ = some _ := (cell_of_row _ _ _ _ _ _ hgg).trans rfl
      have HG := Lib.hid hgg
      have hgl := (hF _ hg1.1).2
      have hS2 : ∀ b, S b → F b ∧ b ≠ w.heap.size ∧ (Value.slice A k c).ownBlock ≠ some b := fun b hb => ⟨(hS b hb).1, (hS b hb).2, fun e => (hs.S_lt b hb).2 e.symm⟩
      clear hgg
      go_upto_region 5 with (fail)
      go_region_law
        (first
          | (go_simp; go_at_call 26; refine (rzero_any _).mono ?_; rintro e w2 ⟨g2, rfl, hown2, hb2⟩; have hb4 : Below wr.heap.size wr w2 := nx bl.drew hb2; have y0 := below_cell hb4 e0; have hg2 := hown2.lt; have hgl2 := Nat.lt_of_lt_of_le hgl hb4.size; have hS3 : ∀ b, (fun b => b = g2) b → b < w2.heap.size ∧ some b ≠ (Value.slice A k c).ownBlock := fun b hb => by subst hb; exact ⟨hg2.2, fun e => Nat.lt_irrefl _ (Nat.lt_of_lt_of_le (hs.lt _ e.symm).2 hg2.1)⟩)
          | (refine step_pushE elRS (by rfl) (.tmp 16) (.tmp 19) (by rfl) w.heap.size (.slice A k c) (Dv.new k).sure (by rfl) (hs.below hb4) [.slice (some ⟨g2, 0, none⟩) 512 512, .bool false] (some zero512) (S' := fun b => b = g2) (encRS_own hown2) hS3 (by rfl) (by rw [HSL.out]; omega) (by rw [HSL.out]; unfold maxLen; omega) (Nat.le_trans hbw.size hb4.size) ?_ (by rfl); intro v5 w5 hown5 hg5 hv5; obtain ⟨A5, c5, rfl, _⟩ := hown5.form; rw [List.length_append, HSL1.out] at hown5 hv5 ⊢; have hcells := RDev.cells0 HG.out hs1 hb4 hg5; have z0 := hcells.1; have z2 := hcells.2)
          | fail)
      all_goals
        have hnt := RDev.pushed HG.out hu hg1 hs1 hu1 hS2 hF (by rw [HS.out]; exact Dv.Fine.new (by omega)) hb4 hown5 hg5 hv5 (fun b hb => by subst hb; exact ⟨hg2.1, hg2.2⟩)
        rw [HS.out] at hnt
        obtain ⟨hnt1, hnt2⟩ := hnt
        have HNT := Lib.hid hnt1
        clear hnt1
        go_wp2
        go_roundw
        case rel => exact ⟨k + 1, _, by go_num, by omega, HNT, RDev.bw hbw HD.out (Nat.le_refl _) hnt2⟩
        case measure => simp [intOf]; omega
    · obtain rfl : k = n := by omega
      go_wp2
      go_ret
      exact ⟨_, _, rfl, HD.out, hbw⟩
end Go.Proofs.Ytjpkddmdhdmhgaa
