/- flash: how a device lies in memory. -/
import Derived.Test.YtbjaphldncagjaaBytes
import Derived.Test.YtbjaphldncagjaaFoot
import Derived.Test.YtbjaphldncagjaaFlashPlain
namespace Go.Proofs.Ytbjaphldncagjaa
open Go.RowKit

/-- A sector: 512 bytes, and whether it is torn (then the bytes are any). -/
def encSec : Enc (Option (List UInt8)) where
  size := 513
  R := fun _ _ r x => r.length = 513 ∧ r[512]? = some (.bool x.isNone) ∧ (∀ j, j < 512 → ∃ u : UInt8, r[j]? = some (bV u)) ∧ ∀ b, x = some b → r.take 512 = b.map bV
  pos := by decide
  len := fun h => h.1
  mono := fun _ h => h
  keep := fun _ h => h
  one := by
    rintro _ _ r x ⟨hl, hb, hu, _⟩ u hmem
    obtain ⟨j, hj, e⟩ := List.mem_iff_getElem.1 hmem
    by_cases h : j < 512
    · obtain ⟨y, hy⟩ := hu j h
      rw [List.getElem?_eq_getElem hj, e] at hy
      injection hy with hy
      rw [hy]; rfl
    · have : j = 512 := by omega
      subst this
      rw [List.getElem?_eq_getElem hj, e] at hb
      injection hb with hb
      rw [hb]; rfl
theorem OwnB.kept1 {w w' : World} {base gd n c : Nat} {bs : List UInt8} (h : OwnB w base (.slice (some ⟨gd, 0, none⟩) n c) bs) (he : w'.heap[gd]? = w.heap[gd]?) : OwnB w' base (.slice (some ⟨gd, 0, none⟩) n c) bs := by
  refine ⟨h.1, ?_⟩
  rcases h.2 with h0 | ⟨g', cap, cur, e, h1, h2, h3⟩
  · exact .inl h0
  · refine .inr ⟨g', cap, cur, e, h1, ?_, h3⟩
    injection e with e
    injection e with e
    injection e with e
    subst e
    exact he.trans h2

/-- A write that is not sure: its data is a row of its own. -/
def encW : Enc (Int × List UInt8) where
  size := 2
  R := fun S w r x => ∃ gd c, r = [.int .i64 x.1, .slice (some ⟨gd, 0, none⟩) x.2.length c] ∧ S gd ∧ OwnB w 0 (.slice (some ⟨gd, 0, none⟩) x.2.length c) x.2
  pos := by decide
  len := by rintro _ _ r x ⟨gd, c, rfl, _⟩; rfl
  mono := by rintro S S' w r x h ⟨gd, c, rfl, hs, ho⟩; exact ⟨gd, c, rfl, h gd hs, ho⟩
  keep := by rintro S w w' r x h ⟨gd, c, rfl, hs, ho⟩; exact ⟨gd, c, rfl, hs, ho.kept1 (h gd hs)⟩
  one := by
    rintro S w r x ⟨gd, c, rfl, _⟩ u hu
    simp at hu
    rcases hu with rfl | rfl <;> rfl

theorem elW : ElT Try.prog 127 131 encW 32 := ElT.mk Try.underlying127 (.agg #[.int .i64 0, .slice none 0 0]) 2 (by kernel_rfl) rfl rfl

/-- The device at block g reads as d; what it leads to lies in blocks of F. -/
def Dev (w : World) (B : Nat) (F : Nat → Prop) (g : Nat) (d : Dv) : Prop :=
  d.Fine ∧ ∃ sv uv S, w.heap[g]? = some (.cells #[sv, uv, .int .i64 d.limit, .bool d.down] 129 (0, 0)) ∧ OwnE encSec 177 noS w B sv d.sure ∧ OwnE encW 131 S w B uv d.unsure ∧
    (F g ∧ B ≤ g) ∧ (∀ k, sv.ownBlock = some k → F k ∧ k ≠ g) ∧ (∀ k, uv.ownBlock = some k → F k ∧ k ≠ g ∧ sv.ownBlock ≠ some k) ∧ (∀ k, S k → F k ∧ k ≠ g ∧ sv.ownBlock ≠ some k) ∧ ∀ k, F k → B ≤ k ∧ k < w.heap.size

section
variable {w w' : World} {B g : Nat} {F G : Nat → Prop} {d : Dv}
theorem Dev.fine (h : Dev w B F g d) : d.Fine := h.1
theorem Dev.F_lt (h : Dev w B F g d) : ∀ k, F k → B ≤ k ∧ k < w.heap.size := by obtain ⟨_, _, _, _, _, _, _, _, _, _, _, h⟩ := h; exact h
theorem Dev.g_F (h : Dev w B F g d) : F g := by obtain ⟨_, _, _, _, _, _, _, h, _⟩ := h; exact h.1
theorem Dev.chg (h : Dev w B F g d) (hc : Chg G w w') (hd : ∀ k, F k → ¬ G k) : Dev w' B F g d := by
  obtain ⟨hf, sv, uv, S, hg, hs, hu, hg1, hs1, hu1, hS, hF⟩ := h
  exact ⟨hf, sv, uv, S, hc.heap hg (hd g hg1.1), hs.chg hc (fun k hk => hd k (hs1 k hk).1) (fun _ hb => hb.elim), hu.chg hc (fun k hk => hd k (hu1 k hk).1) (fun b hb => hd b (hS b hb).1), hg1, hs1, hu1, hS, fun k hk => ⟨(hF k hk).1, Nat.lt_of_lt_of_le (hF k hk).2 hc.size⟩⟩
theorem Dev.below (h : Dev w B F g d) (hb : Below w.heap.size w w') : Dev w' B F g d := h.chg (G := fun _ => False) (Chg.of_below hb) (fun _ _ h => h)
theorem Dev.base_le {B' : Nat} (h : Dev w B F g d) (hB : B' ≤ B) : Dev w B' F g d := by
  obtain ⟨hf, sv, uv, S, hg, hs, hu, hg1, hs1, hu1, hS, hF⟩ := h
  exact ⟨hf, sv, uv, S, hg, hs.base_le hB, hu.base_le hB, ⟨hg1.1, by omega⟩, hs1, hu1, hS, fun k hk => ⟨Nat.le_trans hB (hF k hk).1, (hF k hk).2⟩⟩
/-- Only the device's own four cells have turned. -/
theorem Dev.own_cells {d' : Dv} {sv uv : Value} {S : Nat → Prop} (hf : d'.Fine) (hg : w'.heap[g]? = some (.cells #[sv, uv, .int .i64 d'.limit, .bool d'.down] 129 (0, 0))) (hc : Chg (fun k => k = g) w w')
    (hs : OwnE encSec 177 noS w B sv d'.sure) (hu : OwnE encW 131 S w B uv d'.unsure) (hg1 : F g ∧ B ≤ g) (hs1 : ∀ k, sv.ownBlock = some k → F k ∧ k ≠ g) (hu1 : ∀ k, uv.ownBlock = some k → F k ∧ k ≠ g ∧ sv.ownBlock ≠ some k) (hS : ∀ k, S k → F k ∧ k ≠ g ∧ sv.ownBlock ≠ some k) (hF : ∀ k, F k → B ≤ k ∧ k < w.heap.size) : Dev w' B F g d' :=
  ⟨hf, sv, uv, S, hg, hs.chg hc (fun k hk => (hs1 k hk).2) (fun _ hb => hb.elim), hu.chg hc (fun k hk => (hu1 k hk).2.1) (fun b hb => (hS b hb).2.1), hg1, hs1, hu1, hS, fun k hk => ⟨(hF k hk).1, Nat.lt_of_lt_of_le (hF k hk).2 hc.size⟩⟩
theorem chg_g1 (w : World) (g k : Nat) (u : Value) : Chg (fun k => k = g) w (w.setCell ⟨g, k, none⟩ u) := (Chg.refl (fun k => k = g) w).setCell (p := ⟨g, k, none⟩) (Or.inl rfl) u
theorem chg_g2 (w : World) (g k k2 : Nat) (u u2 : Value) : Chg (fun k => k = g) w ((w.setCell ⟨g, k, none⟩ u).setCell ⟨g, k2, none⟩ u2) := (chg_g1 w g k u).setCell (p := ⟨g, k2, none⟩) (Or.inl rfl) u2
end
end Go.Proofs.Ytbjaphldncagjaa
