/- Parts of a proof, joined: FaOwn1. -/
import Derived.Test.YtimkdpkhdbiniaaZADF01
import Derived.Test.YtimkdpkhdbiniaaZADM03r
import Derived.Test.YtimkdpkhdbiniaaZADX1
/- What a call has made that may be written into; slices.Clone of data; one place of a row of data laid anew. -/
namespace Go.Proofs.Ytimkdpkhdbiniaa
open Go.RowKit
set_option maxRecDepth 100000
set_option linter.unusedVariables false

/-- A block of plain cells. -/
def Loose (w : World) (b : Nat) : Prop := ∃ cs t, w.heap[b]? = some (.cells cs t (0, 0))
/-- Blocks from B on that may be written into. -/
def lsS (B : Nat) (w : World) : Nat → Prop := fun b => B ≤ b ∧ b < w.heap.size ∧ Loose w b
theorem Loose.keep {w w' : World} {b : Nat} (h : Loose w b) (e : w'.heap[b]? = w.heap[b]?) : Loose w' b := by
  obtain ⟨cs, t, h⟩ := h
  exact ⟨cs, t, e.trans h⟩
theorem Loose.free {w : World} {b : Nat} (h : Loose w b) (j : Nat) : w.frozen? ⟨b, j, none⟩ = false := by
  obtain ⟨cs, t, h⟩ := h
  exact frozen_of_row _ _ _ _ _ h
theorem lsS.ge {B : Nat} {w : World} {b : Nat} (h : lsS B w b) : geS B w b := ⟨h.1, h.2.1⟩
theorem lsS.keep {B : Nat} {w w' : World} {b : Nat} (h : lsS B w b) (hs : w.heap.size ≤ w'.heap.size) (e : w'.heap[b]? = w.heap[b]?) : lsS B w' b := ⟨h.1, Nat.lt_of_lt_of_le h.2.1 hs, h.2.2.keep e⟩
theorem own_loose {w : World} {base : Nat} {e : TypeId} {size n : Nat} {v : Value} {cs : List Value} (h : w.ownsRow base e size v n cs) {b : Nat} (hb : v.ownBlock = some b) : lsS base w b := by
  have hl := World.ownsRow.lt h b hb
  rcases h.2 with ⟨rfl, _⟩ | ⟨g, cap, cur, rfl, h1, h2, h3⟩
  · cases hb
  · have e0 : g = b := by injection hb
    subst e0
    exact ⟨hl.1, hl.2, cur, e, h2⟩
section
variable {w : World} {B : Nat}
theorem ownB_ls {v : Value} {bs : List UInt8} {A : Option Addr} {n c : Nat} (h : OwnB w B v bs) (hv : v = .slice A n c) : Els encB (lsS B w) (lsS B w) w A n bs ∧ n ≤ c ∧ c ≤ maxLen := by
  subst hv
  obtain ⟨A', c', hv, hr, h1, h2⟩ := h.form
  injection hv with e1 e2 e3
  subst e1 e2 e3
  refine ⟨bytes_els hr fun b off e => ?_, h1, h2⟩
  subst e
  rcases h.2 with ⟨e0, _⟩ | ⟨g, cap, cur, e0, h3, _⟩
  · injection e0 with e0
    cases e0
  · injection e0 with e0
    injection e0 with e0
    injection e0 with e0
    subst e0
    exact own_loose h rfl
theorem ownE_ls {α : Type} {E : Enc α} {e : TypeId} {xs : List α} {v : Value} {A : Option Addr} {n c : Nat} (h : OwnE E e noS w B v xs) (hv : v = .slice A n c) : Els E (lsS B w) (lsS B w) w A n xs ∧ n ≤ c ∧ c ≤ maxLen := by
  subst hv
  obtain ⟨A', c', hv, hr, h1, h2⟩ := h.form
  injection hv with e1 e2 e3
  subst e1 e2 e3
  obtain ⟨cells, ho, _⟩ := h
  exact ⟨hr.mono (fun b hb => own_loose ho hb) (fun b hb => hb.elim), h1, h2⟩
end
theorem DGot.ls {w : World} {B : Nat} {s : DS} {x : Da} (h : DGot w B s x) : DIn (lsS B w) w s x := by
  obtain ⟨b1, b2⟩ := ownB_ls h.b rfl
  obtain ⟨h1, h2⟩ := ownE_ls h.h rfl
  obtain ⟨m1, m2⟩ := ownE_ls h.m rfl
  obtain ⟨n1, n2⟩ := ownE_ls h.n rfl
  obtain ⟨t1, t2⟩ := ownE_ls h.t rfl
  exact ⟨b1, h1, m1, n1, t1, b2, h2, m2, n2, t2⟩
end Go.Proofs.Ytimkdpkhdbiniaa
