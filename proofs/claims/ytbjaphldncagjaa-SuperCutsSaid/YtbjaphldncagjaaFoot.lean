/- What a call may have written: the blocks of a set, and new ones. No program in it. -/
import Derived.Test.YtbjaphldncagjaaEncLaws
namespace Go.Proofs.Ytbjaphldncagjaa
open Go.RowKit

/-- Whatever was there and is not of F is as it was. -/
structure Chg (F : Nat → Prop) (w w' : World) : Prop where
  os : w'.os = w.os
  tape : w'.tape = w.tape
  output : w'.output = w.output
  size : w.heap.size ≤ w'.heap.size
  block : ∀ k, k < w.heap.size → ¬ F k → w'.heap[k]? = w.heap[k]?

section
variable {F G : Nat → Prop} {a b c : World}
theorem Chg.refl (F : Nat → Prop) (a : World) : Chg F a a := ⟨rfl, rfl, rfl, Nat.le_refl _, fun _ _ _ => rfl⟩
theorem Chg.trans (h : Chg F a b) (k : Chg G b c) (hG : ∀ x, G x → F x ∨ a.heap.size ≤ x) : Chg F a c :=
  ⟨k.os.trans h.os, k.tape.trans h.tape, k.output.trans h.output, Nat.le_trans h.size k.size, fun i hi hF =>
    (k.block i (Nat.lt_of_lt_of_le hi h.size) (fun hg => (hG i hg).elim hF (fun h => by omega))).trans (h.block i hi hF)⟩
theorem Chg.mono (h : Chg F a b) (hF : ∀ x, F x → G x ∨ a.heap.size ≤ x) : Chg G a b :=
  ⟨h.os, h.tape, h.output, h.size, fun i hi hG => h.block i hi (fun hf => (hF i hf).elim hG (fun h => by omega))⟩
theorem Chg.of_below (h : Below a.heap.size a b) : Chg F a b := ⟨h.os, h.tape, h.output, h.size, fun i hi _ => h.block i hi⟩
theorem Chg.below {B : Nat} (h : Chg F a b) (hF : ∀ x, F x → B ≤ x) (hB : B ≤ a.heap.size) : Below B a b :=
  ⟨h.os, h.tape, h.output, h.size, fun i hi => h.block i (by omega) (fun hf => by have := hF i hf; omega)⟩
theorem Chg.setCell (h : Chg F a b) {p : Addr} (hp : F p.block ∨ a.heap.size ≤ p.block) (u : Value) : Chg F a (b.setCell p u) :=
  ⟨h.os, h.tape, h.output, by simp [World.setCell]; exact h.size, fun i hi hF => by
    have hne : i ≠ p.block := fun e => by subst e; exact hp.elim hF (fun h => by omega)
    exact (Below.heap_setCell b p u i hne).trans (h.block i hi hF)⟩
theorem Chg.setRow (h : Chg F a b) {g : Nat} (hp : F g ∨ a.heap.size ≤ g) (cs : Array Value) : Chg F a (b.setRow g cs) :=
  ⟨h.os, h.tape, h.output, by simp; exact h.size, fun i hi hF => by
    have hne : i ≠ g := fun e => by subst e; exact hp.elim hF (fun h => by omega)
    exact (setRow_other b g i cs hne).trans (h.block i hi hF)⟩
theorem Chg.alloc (h : Chg F a b) (o : Obj) : Chg F a (b.alloc o) :=
  h.trans (G := fun _ => False) (Chg.of_below ((Below.refl _ _).alloc (Nat.le_refl _) o)) (fun _ h => h.elim)
theorem Chg.drew (h : Chg F a b) : Chg F a b.drew := ⟨h.os, h.tape, h.output, h.size, h.block⟩
theorem Chg.drewN (h : Chg F a b) (k : Nat) : Chg F a (b.drewN k) := ⟨h.os, h.tape, h.output, h.size, h.block⟩
theorem Chg.grown (h : Chg F a b) {row : Option Nat} (hg : b.grownBy c row) (hr : ∀ k, row = some k → F k ∨ a.heap.size ≤ k) : Chg F a c :=
  ⟨hg.os.trans h.os, hg.tape.trans h.tape, hg.output.trans h.output, Nat.le_trans h.size hg.size, fun i hi hF =>
    (hg.block i (Nat.lt_of_lt_of_le hi h.size) (fun e => (hr i e.symm).elim hF (fun h => by omega))).trans (h.block i hi hF)⟩
theorem Chg.nx (h : Chg F a b) (k : Below b.heap.size b c) : Chg F a c := h.trans (G := fun _ => False) (Chg.of_below k) (fun _ h => h.elim)
theorem Chg.cell (h : Chg F a b) {p : Addr} {u : Value} (hc : a.cell? p = some u) (hF : ¬ F p.block) : b.cell? p = some u :=
  (World.cell?_of_block (h.block _ (World.block_lt_of_cell? a p hc) hF)).trans hc
theorem Chg.heap (h : Chg F a b) {g : Nat} {o : Obj} (hc : a.heap[g]? = some o) (hF : ¬ F g) : b.heap[g]? = some o :=
  (h.block g (Array.getElem?_eq_some_iff.1 hc).1 hF).trans hc
end

section
variable {F : Nat → Prop} {w w' : World} {A : Option Addr} {n : Nat} {bs : List UInt8}
theorem RdB.chg (h : RdB w A n bs) (hc : Chg F w w') (hF : ∀ b off, A = some ⟨b, off, none⟩ → ¬ F b) : RdB w' A n bs :=
  ⟨h.1, fun hn => by
    obtain ⟨b, off, e, hr⟩ := h.2 hn
    exact ⟨b, off, e, fun j u hu => hc.cell (hr j u hu) (hF b off e)⟩⟩
theorem RdB.lt (h : RdB w A n bs) (hn : 0 < n) : ∃ b off, A = some ⟨b, off, none⟩ ∧ b < w.heap.size := by
  obtain ⟨b, off, x, e, _, hc⟩ := h.at_ hn
  exact ⟨b, off, e, World.block_lt_of_cell? w _ hc⟩
end

section
variable {α : Type} {E : Enc α} {e : TypeId} {S S' : Nat → Prop} {F : Nat → Prop} {w w' : World} {base : Nat} {v : Value} {xs : List α}
theorem OwnE.chg (h : OwnE E e S w base v xs) (hc : Chg F w w') (hv : ∀ k, v.ownBlock = some k → ¬ F k) (hS : ∀ b, S b → ¬ F b) : OwnE E e S w' base v xs := by
  have hl := h.lt
  have hb : ∀ b, S b → b < w.heap.size := by
    obtain ⟨_, _, _, hb⟩ := h
    exact fun b hb' => (hb b hb').1
  exact h.keep hc.size (fun k hk => hc.block k (hl k hk).2 (hv k hk)) (fun b hb' => hc.block b (hb b hb') (hS b hb'))
theorem OwnE.widen (h : OwnE E e S w base v xs) (hS : ∀ b, S b → S' b) (hb : ∀ b, S' b → b < w.heap.size ∧ some b ≠ v.ownBlock) : OwnE E e S' w base v xs := by
  obtain ⟨cells, h1, h2, _⟩ := h
  exact ⟨cells, h1, fun i x hx => E.mono hS (h2 i x hx), hb⟩
theorem OwnE.S_lt (h : OwnE E e S w base v xs) : ∀ b, S b → b < w.heap.size ∧ some b ≠ v.ownBlock := by
  obtain ⟨_, _, _, hb⟩ := h
  exact hb
/-- An element's cells are replaced. -/
theorem OwnE.splice {g n c : Nat} (h : OwnE E e S w base (.slice (some ⟨g, 0, none⟩) n c) xs) {i : Nat} {x y : α} {r : List Value} {cur cur' : Array Value} (hx : xs[i]? = some x) (hg : w.heap[g]? = some (.cells cur e (0, 0))) (hg' : w'.heap[g]? = some (.cells cur' e (0, 0)))
    (hr : r.length = E.size) (hcur : cur'.toList = cur.toList.take (i * E.size) ++ (r ++ cur.toList.drop ((i + 1) * E.size))) (hs : w.heap.size ≤ w'.heap.size) (hS : ∀ b, S b → w'.heap[b]? = w.heap[b]?) (hR : E.R S w' r y) :
    OwnE E e S w' base (.slice (some ⟨g, 0, none⟩) n c) (xs.set i y) := by
  have hil : i < xs.length := (List.getElem?_eq_some_iff.1 hx).1
  obtain ⟨cells, hw, hread, hSb⟩ := h
  obtain ⟨hl, h2⟩ := hw
  rcases h2 with ⟨h0, _⟩ | ⟨g', cap, cur0, e0, hbg, hg0, hnc, hcm, hcs, htake⟩
  · cases h0
  · injection e0 with e1 e2 e3
    injection e1 with e1
    injection e1 with e1
    subst e1 e2 e3
    rw [hg] at hg0
    injection hg0 with hg0
    injection hg0 with hg0
    subst hg0
    have hi1 : (i + 1) * E.size ≤ xs.length * E.size := Nat.mul_le_mul_right _ hil
    have hi2 : xs.length * E.size ≤ c * E.size := Nat.mul_le_mul_right _ hnc
    have hi3 : (i + 1) * E.size = i * E.size + E.size := by rw [Nat.add_mul, Nat.one_mul]
    have hcl : cur.toList.length = c * E.size := by rw [Array.length_toList]; exact hcs
    have hcl' : cur'.toList.length = c * E.size := by
      rw [hcur]; simp only [List.length_append, List.length_take, List.length_drop, hr, hcl]; omega
    refine ⟨cells.take (i * E.size) ++ (r ++ cells.drop ((i + 1) * E.size)), ⟨?_, .inr ⟨g, c, cur', by rw [List.length_set], hbg, hg', by rw [List.length_set]; exact hnc, hcm, by rw [← Array.length_toList]; exact hcl', ?_⟩⟩, fun j z hz => ?_, fun b hb => ⟨Nat.lt_of_lt_of_le (hSb b hb).1 hs, (hSb b hb).2⟩⟩
    · simp only [List.length_append, List.length_take, List.length_drop, hr, hl, List.length_set]; omega
    · rw [hcur, List.length_set, List.take_append, List.take_append]
      simp only [List.length_take, hcl, hr]
      rw [show min (i * E.size) (c * E.size) = i * E.size by omega, List.take_of_length_le (i := xs.length * E.size) (by rw [List.length_take, hcl]; omega), List.take_of_length_le (l := r) (by omega)]
      rw [← htake]
      congr 1
      · rw [List.take_take]; congr 1; omega
      · congr 1
        rw [List.drop_take]
        congr 1
        omega
    · have hsz : (cells.take (i * E.size)).length = i * E.size := by rw [List.length_take, hl]; omega
      by_cases e1 : j = i
      · subst e1
        rw [List.getElem?_set_self hil] at hz
        injection hz with hz
        subst hz
        rw [List.drop_append_of_le_length (by omega), List.drop_of_length_le (by omega), List.nil_append, List.take_append_of_le_length (by omega), List.take_of_length_le (by omega)]
        exact hR
      · rw [List.getElem?_set_ne (by omega)] at hz
        have hjl : j < xs.length := (List.getElem?_eq_some_iff.1 hz).1
        have hj1 : (j + 1) * E.size ≤ xs.length * E.size := Nat.mul_le_mul_right _ hjl
        have hj3 : (j + 1) * E.size = j * E.size + E.size := by rw [Nat.add_mul, Nat.one_mul]
        have hk := E.keep hS (hread j z hz)
        rcases Nat.lt_or_ge j i with h1 | h1
        · have h3 : (j + 1) * E.size ≤ i * E.size := Nat.mul_le_mul_right _ h1
          rw [List.drop_append_of_le_length (by omega), List.take_append_of_le_length (by rw [List.length_drop]; omega), List.drop_take, List.take_take, show min E.size (i * E.size - j * E.size) = E.size by omega]
          exact hk
        · have h3 : (i + 1) * E.size ≤ j * E.size := Nat.mul_le_mul_right _ (by omega)
          have h4 : (cells.take (i * E.size) ++ (r ++ cells.drop ((i + 1) * E.size))).drop (j * E.size) = cells.drop (j * E.size) := by
            rw [List.drop_append, List.drop_of_length_le (by omega), List.nil_append, List.drop_append, List.drop_of_length_le (by omega), List.nil_append, List.drop_drop]
            congr 1
            omega
          rw [h4]
          exact hk
end
end Go.Proofs.Ytbjaphldncagjaa
