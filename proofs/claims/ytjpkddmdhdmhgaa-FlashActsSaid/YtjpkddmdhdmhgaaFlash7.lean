/- flash: Unsure. -/
import Derived.Test.YtjpkddmdhdmhgaaFlash4
import Derived.Test.YtjpkddmdhdmhgaaPushE
namespace Go.Proofs.Ytjpkddmdhdmhgaa
open Go.RowKit

/-- A list of writes of the call's own. -/
def RetU (l : List (Int × List UInt8)) (w : World) (e : Ending) (w' : World) : Prop := ∃ v S, e = .returned v ∧ OwnE encW 69 S w' w.heap.size v l ∧ (∀ b, S b → w.heap.size ≤ b) ∧ Below w.heap.size w w'

set_option maxRecDepth 100000 in
set_option maxHeartbeats 2000000 in
theorem unsure_any (w : World) (B g : Nat) (F : Nat → Prop) (d : Dv) (h : Dev w B F g d) (hun : d.unsure.length ≤ 1000000) :
    Calls Try.prog 36 #[.pointer (some ⟨g, 0, none⟩)] w (RetU d.unsure w) := by
  have HF := Lib.hid h.fine.unsure
  obtain ⟨hf1, sv, uv, S, hgg, hs1, hu1, hgF, hs1F, hu1F, hSF, hFl⟩ := h
  obtain ⟨Au, cu, rfl, _, hucl, hucm⟩ := hu1.form
  have c1 : w.cell? ⟨g, 1, none⟩ = some _ := (cell_of_row _ _ _ _ _ _ hgg).trans rfl
  clear hgg
  go_enter Try.func36, Try.ntmps36
  go_wp2
  go_loopw [3, 13] (fun v iv wr => ∃ (k : Nat) (S : Nat → Prop), iv = .int .i64 k ∧ k ≤ d.unsure.length ∧ OwnE encW 69 S wr w.heap.size v (d.unsure.take k) ∧ (∀ b, S b → w.heap.size ≤ b) ∧ Below w.heap.size w wr) (fun _ iv _ => d.unsure.length - (intOf iv).toNat)
  case atStart => exact ⟨0, noS, rfl, Nat.zero_le _, OwnE.nil _ _ _ _, fun _ hb => hb.elim, bl⟩
  case round =>
    obtain ⟨k, S2, rfl, hk, hown, hS2, hbw⟩ := hrel
    by_cases hlt : k < d.unsure.length
    · obtain ⟨x, hx⟩ : ∃ x, d.unsure[k]? = some x := ⟨_, List.getElem?_eq_getElem hlt⟩
      obtain ⟨p, b⟩ := x
      obtain ⟨hp0, hp1, hbl⟩ := HF.out (p, b) (List.mem_of_getElem? hx)
      obtain ⟨u, c, A, cd, e, hul, _, e0, e1, hrb, hcd, hAS⟩ := unsure_at (hu1.below hbw) hx hbl
      injection e with ea eb ec
      subst ea
      have htk : d.unsure.take (k + 1) = d.unsure.take k ++ [(p, b)] := by rw [List.take_add_one, hx]; rfl
      have HTK := Lib.hid htk
      have htl : (d.unsure.take k).length = k := by rw [List.length_take]; omega
      have HTL := Lib.hid htl
      have HB := Lib.hid hbl
      clear hx hbl eb ec htk htl
      obtain ⟨w1, hw1⟩ : ∃ w1, w1 = wr.alloc (.cells #[.int .i64 p, .slice A 512 cd] 69) := ⟨_, rfl⟩
      have hb1 : Below wr.heap.size wr w1 := by rw [hw1]; exact bl.alloc (Nat.le_refl _) _
      have x0 : w1.cell? ⟨wr.heap.size, 0, none⟩ = some (.int .i64 p) := by rw [hw1]; exact new_cell wr _ _ 0
      have x1 : w1.cell? ⟨wr.heap.size, 1, none⟩ = some (.slice A 512 cd) := by rw [hw1]; exact new_cell wr _ _ 1
      have hrb1 := hrb.below hb1
      have hown1 := hown.below hb1
      have hne3 : some wr.heap.size ≠ u3.ownBlock := fun e => Nat.lt_irrefl _ (hown.lt _ e.symm).2
      have hws1 := Nat.le_trans hbw.size hb1.size
      go_upto_region 7 with (fail)
      rw [← hw1]
      clear hw1
      go_region_held3 (fun w' => w'.cell? ⟨wr.heap.size, 0, none⟩ = some (.int .i64 p) ∧ w'.cell? ⟨wr.heap.size, 1, none⟩ = some (.slice A 512 cd))
        (first
          | with_reducible exact ⟨x0, x1⟩
          | with_reducible exact ⟨below_cell bl.drew x0, below_cell bl.drew x1⟩
          | with_reducible exact ⟨y0, y1⟩
          | with_reducible exact ⟨below_cell (bl.alloc (Nat.le_refl _) _) y0, below_cell (bl.alloc (Nat.le_refl _) _) y1⟩
          | with_reducible exact ⟨z0, z1⟩)
        (first
          | (go_at_call 72; refine (sclone_any _ _ _ b _ (hrb1.below bl.drew) (by omega)).mono ?_; rintro e w2 ⟨v2, rfl, hown2, hb2⟩; have y0 := below_cell (bl.drew.trans hb2) x0; have y1 := below_cell (bl.drew.trans hb2) x1; obtain ⟨g2, c2, rfl, hg2a, hg2b, hl2, hm2, _⟩ := hown2.flat (by rw [HB.out]; omega); rw [HB.out] at hown2 ⊢; have hS3 : ∀ b, (fun b => b = g2) b → b < w2.heap.size ∧ some b ≠ u3.ownBlock := fun b hb => by subst hb; exact ⟨hg2b, fun e => Nat.lt_irrefl _ (Nat.lt_of_lt_of_le (hown1.lt _ e.symm).2 hg2a)⟩)
          | (refine step_pushE elW (by rfl) (.tmp 17) (.tmp 24) (by rfl) w.heap.size _ (d.unsure.take k) (by rfl) (hown1.below (bl.drew.trans hb2)) [.int .i64 p, .slice (some ⟨g2, 0, none⟩) 512 c2] (p, b) (S' := fun b => b = g2) (encW_own hown2) hS3 (by rfl) (by rw [HTL.out]; omega) (by rw [HTL.out]; unfold maxLen; omega) (Nat.le_trans hws1 hb2.size) ?_ (by rfl); intro v3 w3 hown3 hg3 hv3; have z0 := hg3.cell y0 hne3; have z1 := hg3.cell y1 hne3))
      have hbw3 : Below w.heap.size w w3 := (nx (nx (nx hbw hb1) bl.drew) hb2).grown hg3 (Nat.le_trans hws1 hb2.size) (fun j hj => (hown.lt j hj).1)
      have hbg2 : w.heap.size ≤ g2 := Nat.le_trans hws1 hg2a
      rw [← HTK.out] at hown3
      go_wp2
      go_roundw
      case rel => exact ⟨k + 1, _, by go_num, by omega, hown3, fun b hb => hb.elim (hS2 b) (fun e => by rw [e]; exact hbg2), hbw3⟩
      case measure => simp [intOf]; omega
    · obtain rfl : k = d.unsure.length := by omega
      rw [List.take_length] at hown
      go_wp2
      go_ret
      exact ⟨_, _, rfl, hown, hS2, hbw⟩
end Go.Proofs.Ytjpkddmdhdmhgaa
