/- The reference's device: how it lies in memory. -/
import Derived.Test.YtjpkddmdhdmhgaaFlash6
import Derived.Test.YtjpkddmdhdmhgaaPushE
namespace Go.Proofs.Ytjpkddmdhdmhgaa
open Go.RowKit

/-- A sector of the reference: where its bytes lie, and whether it is torn. -/
def encRS : Enc (Option (List UInt8)) where
  size := 2
  R := fun S w r x => ∃ gd c b, r = [.slice (some ⟨gd, 0, none⟩) 512 c, .bool x.isNone] ∧ S gd ∧ OwnB w 0 (.slice (some ⟨gd, 0, none⟩) 512 c) b ∧ b.length = 512 ∧ ∀ y, x = some y → y = b
  pos := by decide
  len := by rintro _ _ r x ⟨gd, c, b, rfl, _⟩; rfl
  mono := by rintro S S' w r x h ⟨gd, c, b, rfl, hs, ho⟩; exact ⟨gd, c, b, rfl, h gd hs, ho⟩
  keep := by rintro S w w' r x h ⟨gd, c, b, rfl, hs, ho, h1⟩; exact ⟨gd, c, b, rfl, hs, ho.kept1 (h gd hs), h1⟩
  one := by
    rintro S w r x ⟨gd, c, b, rfl, _⟩ u hu
    simp at hu
    rcases hu with rfl | rfl <;> rfl
theorem elRS : ElT Try.prog 59 123 encRS 32 := ElT.mk Try.underlying59 (.agg #[.slice none 0 0, .bool false]) 2 (by kernel_rfl) rfl rfl

/-- The reference's device at block g reads as d; what it leads to lies in blocks of F. -/
def RDev (w : World) (B : Nat) (F : Nat → Prop) (g : Nat) (d : Dv) : Prop :=
  d.Fine ∧ ∃ sv uv S, w.heap[g]? = some (.cells #[sv, uv, .int .i64 d.limit, .bool d.down] 62 (0, 0)) ∧ OwnE encRS 123 S w B sv d.sure ∧ OwnE encW 69 S w B uv d.unsure ∧
    (F g ∧ B ≤ g) ∧ (∀ k, sv.ownBlock = some k → F k ∧ k ≠ g) ∧ (∀ k, uv.ownBlock = some k → F k ∧ k ≠ g ∧ sv.ownBlock ≠ some k) ∧ (∀ k, S k → F k ∧ k ≠ g) ∧ ∀ k, F k → B ≤ k ∧ k < w.heap.size

section
variable {w w' : World} {B g : Nat} {F G : Nat → Prop} {d : Dv}
theorem RDev.fine (h : RDev w B F g d) : d.Fine := h.1
theorem RDev.F_lt (h : RDev w B F g d) : ∀ k, F k → B ≤ k ∧ k < w.heap.size := by obtain ⟨_, _, _, _, _, _, _, _, _, _, _, h⟩ := h; exact h
theorem RDev.g_F (h : RDev w B F g d) : F g ∧ B ≤ g := by obtain ⟨_, _, _, _, _, _, _, h, _⟩ := h; exact h
theorem RDev.chg (h : RDev w B F g d) (hc : Chg G w w') (hd : ∀ k, F k → ¬ G k) : RDev w' B F g d := by
  obtain ⟨hf, sv, uv, S, hg, hs, hu, hg1, hs1, hu1, hS, hF⟩ := h
  exact ⟨hf, sv, uv, S, hc.heap hg (hd g hg1.1), hs.chg hc (fun k hk => hd k (hs1 k hk).1) (fun b hb => hd b (hS b hb).1), hu.chg hc (fun k hk => hd k (hu1 k hk).1) (fun b hb => hd b (hS b hb).1), hg1, hs1, hu1, hS, fun k hk => ⟨(hF k hk).1, Nat.lt_of_lt_of_le (hF k hk).2 hc.size⟩⟩
theorem RDev.below (h : RDev w B F g d) (hb : Below w.heap.size w w') : RDev w' B F g d := h.chg (G := fun _ => False) (Chg.of_below hb) (fun _ _ h => h)
theorem RDev.base_le {B' : Nat} (h : RDev w B F g d) (hB : B' ≤ B) : RDev w B' F g d := by
  obtain ⟨hf, sv, uv, S, hg, hs, hu, hg1, hs1, hu1, hS, hF⟩ := h
  exact ⟨hf, sv, uv, S, hg, hs.base_le hB, hu.base_le hB, ⟨hg1.1, by omega⟩, hs1, hu1, hS, fun k hk => ⟨Nat.le_trans hB (hF k hk).1, (hF k hk).2⟩⟩
/-- Only the device's own four cells have turned. -/
theorem RDev.own_cells {d' : Dv} {sv uv : Value} {S : Nat → Prop} (hf : d'.Fine) (hg : w'.heap[g]? = some (.cells #[sv, uv, .int .i64 d'.limit, .bool d'.down] 62 (0, 0))) (hc : Chg (fun k => k = g) w w')
    (hs : OwnE encRS 123 S w B sv d'.sure) (hu : OwnE encW 69 S w B uv d'.unsure) (hg1 : F g ∧ B ≤ g) (hs1 : ∀ k, sv.ownBlock = some k → F k ∧ k ≠ g) (hu1 : ∀ k, uv.ownBlock = some k → F k ∧ k ≠ g ∧ sv.ownBlock ≠ some k) (hS : ∀ k, S k → F k ∧ k ≠ g) (hF : ∀ k, F k → B ≤ k ∧ k < w.heap.size) : RDev w' B F g d' :=
  ⟨hf, sv, uv, S, hg, hs.chg hc (fun k hk => (hs1 k hk).2) (fun b hb => (hS b hb).2), hu.chg hc (fun k hk => (hu1 k hk).2.1) (fun b hb => (hS b hb).2), hg1, hs1, hu1, hS, fun k hk => ⟨(hF k hk).1, Nat.lt_of_lt_of_le (hF k hk).2 hc.size⟩⟩
theorem RDev.bw {w0 : World} (hb : Below w0.heap.size w0 w) (h : RDev w B F g d) (hB : w0.heap.size ≤ B) (hc : Chg F w w') : Below w0.heap.size w0 w' :=
  hb.trans (hc.below (fun x hx => Nat.le_trans hB (h.F_lt x hx).1) hb.size)
end

/-- A sector of the reference, in its row. -/
theorem rsure_at {w : World} {B : Nat} {S : Nat → Prop} {sv : Value} {l : List (Option (List UInt8))} (h : OwnE encRS 123 S w B sv l) {i : Nat} {x : Option (List UInt8)} (hx : l[i]? = some x) :
    ∃ s c gd cd b, sv = .slice (some ⟨s, 0, none⟩) l.length c ∧ s < w.heap.size ∧ sv.ownBlock = some s ∧ w.cell? ⟨s, i * 2, none⟩ = some (.slice (some ⟨gd, 0, none⟩) 512 cd) ∧ w.cell? ⟨s, i * 2 + 1, none⟩ = some (.bool x.isNone) ∧ OwnB w 0 (.slice (some ⟨gd, 0, none⟩) 512 cd) b ∧ b.length = 512 ∧ 512 ≤ cd ∧ S gd ∧ ∀ y, x = some y → y = b := by
  obtain ⟨s, c, rfl, _, hul, _, _, _, hat⟩ := h.flat (Nat.lt_of_le_of_lt (Nat.zero_le i) (List.getElem?_eq_some_iff.1 hx).1)
  obtain ⟨r, ⟨gd, cd, b, rfl, hs, ho, hbl, hy⟩, hc⟩ := hat i x hx
  have e0 := hc 0 _ rfl
  have e1 := hc 1 _ rfl
  obtain ⟨_, _, e, _, h1, _⟩ := ho.form
  injection e with _ _ e
  subst e
  rw [hbl] at h1
  exact ⟨s, c, gd, cd, b, rfl, hul, rfl, e0, e1, ho, hbl, h1, hs, hy⟩

/-- Two cells of a row are set: a sector is another. -/
theorem set_two (l : List Value) (i : Nat) (a b : Value) (h : i + 2 ≤ l.length) : (l.set i a).set (i + 1) b = l.take i ++ ([a, b] ++ l.drop (i + 2)) := by
  apply List.ext_getElem?
  intro j
  rw [List.getElem?_set, List.getElem?_set]
  by_cases h1 : j < i
  · rw [List.getElem?_append_left (by rw [List.length_take]; omega), List.getElem?_take, if_pos h1, if_neg (by omega), if_neg (by omega)]
  · rw [List.getElem?_append_right (by rw [List.length_take]; omega), List.length_take, Nat.min_eq_left (by omega)]
    by_cases h2 : j = i
    · subst h2
      rw [if_neg (by omega), if_pos rfl, if_pos (by omega), Nat.sub_self]
      rfl
    · by_cases h3 : j = i + 1
      · subst h3
        rw [if_pos rfl, List.length_set, if_pos (by omega), show i + 1 - i = 1 by omega]
        rfl
      · rw [if_neg (by omega), if_neg (by omega), List.getElem?_append_right (by simp; omega), List.getElem?_drop]
        congr 1
        simp
        omega
theorem rput {w : World} {B s n c i : Nat} {S : Nat → Prop} {l : List (Option (List UInt8))} {y : Option (List UInt8)} {v : Value} (h : OwnE encRS 123 S w B (.slice (some ⟨s, 0, none⟩) n c) l) (hi : i < l.length) (hS : ¬ S s) (hR : encRS.R S w [v, .bool y.isNone] y) :
    OwnE encRS 123 S ((w.setCell ⟨s, i * 2, none⟩ v).setCell ⟨s, i * 2 + 1, none⟩ (.bool y.isNone)) B (.slice (some ⟨s, 0, none⟩) n c) (l.set i y) := by
  obtain ⟨g, cc, cur, e, _, hlc, hcur, hcs, _⟩ := h.row (by omega)
  injection e with e1 e2 e3
  injection e1 with e1
  injection e1 with e1
  subst e1 e3
  have hi2 : (i + 1) * 2 ≤ l.length * 2 := Nat.mul_le_mul_right _ hi
  have hl2 : l.length * 2 ≤ c * 2 := Nat.mul_le_mul_right _ hlc
  have hcs' : cur.size = c * 2 := hcs
  have hch : Chg (fun k => k = s) w ((w.setCell ⟨s, i * 2, none⟩ v).setCell ⟨s, i * 2 + 1, none⟩ (.bool y.isNone)) := chg_g2 w s (i * 2) (i * 2 + 1) _ _
  refine h.splice (r := [v, .bool y.isNone]) (x := l[i]) (List.getElem?_eq_getElem hi) hcur (heap_setCell_same _ _ _ _ _ _ (heap_setCell_same _ _ _ _ _ _ hcur)) rfl ?_ hch.size (fun b hb => hch.block b (h.S_lt b hb).1 (fun e => hS (by subst e; exact hb))) (encRS.keep (fun b hb => hch.block b (h.S_lt b hb).1 (fun e => hS (by subst e; exact hb))) hR)
  simp only [Array.toList_setIfInBounds]
  rw [show (i + 1) * encRS.size = i * 2 + 2 by show (i + 1) * 2 = _; omega, show i * encRS.size = i * 2 from rfl]
  exact set_two _ _ _ _ (by rw [Array.length_toList]; omega)
end Go.Proofs.Ytjpkddmdhdmhgaa
