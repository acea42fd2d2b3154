/- How values of a type lie in cells, told once for each type: what a row of cells reads as, in which blocks. No program in it. -/
import Derived.Test.YtbjaphldncagjaaLib
namespace Go.Proofs.Ytbjaphldncagjaa
open Go.RowKit

theorem new_cell (w : World) (cs : Array Value) (e : TypeId) (j : Nat) : (w.alloc (.cells cs e)).cell? ⟨w.heap.size, j, none⟩ = cs[j]? := cell_of_row _ _ _ _ _ _ (heap_alloc_new w _)

/-- A type's reading: so many cells read as x, all that they lead to lying in blocks of S. -/
structure Enc (α : Type) where
  size : Nat
  R : (Nat → Prop) → World → List Value → α → Prop
  pos : 0 < size
  len : ∀ {S : Nat → Prop} {w : World} {r : List Value} {x : α}, R S w r x → r.length = size
  mono : ∀ {S S' : Nat → Prop} {w : World} {r : List Value} {x : α}, (∀ b, S b → S' b) → R S w r x → R S' w r x
  keep : ∀ {S : Nat → Prop} {w w' : World} {r : List Value} {x : α}, (∀ b, S b → w'.heap[b]? = w.heap[b]?) → R S w r x → R S w' r x
  one : ∀ {S : Nat → Prop} {w : World} {r : List Value} {x : α}, R S w r x → ∀ u ∈ r, u.oneCell' = true

def noS : Nat → Prop := fun _ => False
def ltS (w : World) : Nat → Prop := fun b => b < w.heap.size

/-- n elements lie where a slice leads: the row in a block of So, what they lead to in blocks of Si. -/
def Els {α : Type} (E : Enc α) (So Si : Nat → Prop) (w : World) (A : Option Addr) (n : Nat) (xs : List α) : Prop :=
  xs.length = n ∧ (0 < n → ∃ b off, A = some ⟨b, off, none⟩ ∧ So b ∧ ∀ i x, xs[i]? = some x → ∃ r, E.R Si w r x ∧ ∀ j u, r[j]? = some u → w.cell? ⟨b, off + (i * E.size + j), none⟩ = some u)

section
variable {α : Type} {E : Enc α} {So Si So' Si' : Nat → Prop} {w w' : World} {A : Option Addr} {n : Nat} {xs : List α}
theorem Els.nil (E : Enc α) (So Si : Nat → Prop) (w : World) (A : Option Addr) : Els E So Si w A 0 [] := ⟨rfl, fun h => absurd h (by omega)⟩
theorem Els.len (h : Els E So Si w A n xs) : xs.length = n := h.1
theorem Els.mono (ho : ∀ b, So b → So' b) (hi : ∀ b, Si b → Si' b) (h : Els E So Si w A n xs) : Els E So' Si' w A n xs :=
  ⟨h.1, fun hn => by
    obtain ⟨b, off, e, hb, hx⟩ := h.2 hn
    exact ⟨b, off, e, ho b hb, fun i x hi' => by obtain ⟨r, hr, hc⟩ := hx i x hi'; exact ⟨r, E.mono hi hr, hc⟩⟩⟩
theorem Els.keep (ho : ∀ b, So b → w'.heap[b]? = w.heap[b]?) (hi : ∀ b, Si b → w'.heap[b]? = w.heap[b]?) (h : Els E So Si w A n xs) : Els E So Si w' A n xs :=
  ⟨h.1, fun hn => by
    obtain ⟨b, off, e, hb, hx⟩ := h.2 hn
    refine ⟨b, off, e, hb, fun i x hi' => ?_⟩
    obtain ⟨r, hr, hc⟩ := hx i x hi'
    exact ⟨r, E.keep hi hr, fun j u hu => (World.cell?_of_block (a := ⟨b, off + (i * E.size + j), none⟩) (ho b hb)).trans (hc j u hu)⟩⟩
theorem Els.flat (h : Els E So Si w A n xs) (hn : 0 < n) : ∃ b off, A = some ⟨b, off, none⟩ ∧ So b ∧ ∀ i x, xs[i]? = some x → ∃ r, E.R Si w r x ∧ ∀ j u, r[j]? = some u → w.cell? ⟨b, off + (i * E.size + j), none⟩ = some u := h.2 hn
theorem Els.below {B : Nat} (h : Els E So Si w A n xs) (hb : Below B w w') (ho : ∀ b, So b → b < B) (hi : ∀ b, Si b → b < B) : Els E So Si w' A n xs :=
  h.keep (fun b hb' => hb.block b (ho b hb')) (fun b hb' => hb.block b (hi b hb'))
theorem Els.take (h : Els E So Si w A n xs) {k : Nat} (hk : k ≤ n) : Els E So Si w A k (xs.take k) := by
  refine ⟨by rw [List.length_take, h.1]; omega, fun hn => ?_⟩
  obtain ⟨b, off, e, hb, hx⟩ := h.2 (by omega)
  refine ⟨b, off, e, hb, fun i x hi => hx i x ?_⟩
  rw [List.getElem?_take] at hi
  split at hi
  · exact hi
  · cases hi
theorem Els.cut (h : Els E So Si w A n xs) (k c : Nat) (hk : k ≤ n) (hc : n ≤ c) : Els E So Si w (if c = k then A else A.map (·.add (k * E.size))) (n - k) (xs.drop k) := by
  refine ⟨by rw [List.length_drop, h.1], fun hn => ?_⟩
  obtain ⟨b, off, rfl, hb, hx⟩ := h.2 (by omega)
  rw [if_neg (by omega)]
  refine ⟨b, off + k * E.size, by simp only [Option.map_some]; rw [add_flat], hb, fun i x hi => ?_⟩
  rw [List.getElem?_drop] at hi
  obtain ⟨r, hr, hcell⟩ := hx _ x hi
  refine ⟨r, hr, fun j u hu => ?_⟩
  have := hcell j u hu
  rw [Nat.add_mul] at this
  rw [← this]
  congr 2
  omega
end

/-- Deeply there: all of it lies in blocks that are there now. -/
def RdE {α : Type} (E : Enc α) (w : World) (A : Option Addr) (n : Nat) (xs : List α) : Prop := Els E (ltS w) (ltS w) w A n xs
theorem RdE.below {α : Type} {E : Enc α} {w w' : World} {A : Option Addr} {n : Nat} {xs : List α} (h : RdE E w A n xs) (hb : Below w.heap.size w w') : RdE E w' A n xs :=
  (Els.below h hb (fun _ h => h) (fun _ h => h)).mono (fun b (h : b < w.heap.size) => Nat.lt_of_lt_of_le h hb.size) (fun b (h : b < w.heap.size) => Nat.lt_of_lt_of_le h hb.size)
theorem RdE.drewN {α : Type} {E : Enc α} {w : World} {A : Option Addr} {n : Nat} {xs : List α} (h : RdE E w A n xs) (k : Nat) : RdE E (w.drewN k) A n xs := h.below (dN bl k)

/-- A type of one cell, which leads nowhere. -/
def flatE {α : Type} (f : α → Value) (ok : α → Prop) (h1 : ∀ x, (f x).oneCell' = true) : Enc α where
  size := 1
  R := fun _ _ r x => r = [f x] ∧ ok x
  pos := by decide
  len := by rintro _ _ _ _ ⟨rfl, _⟩; rfl
  mono := fun _ h => h
  keep := fun _ h => h
  one := by rintro _ _ _ x ⟨rfl, _⟩ u hu; simp at hu; subst hu; exact h1 x

/-- A slice as an element. -/
def slE {α : Type} (E : Enc α) : Enc (List α) where
  size := 1
  R := fun S w r xs => ∃ A n c, r = [.slice A n c] ∧ Els E S S w A n xs ∧ n ≤ c ∧ c ≤ maxLen
  pos := by decide
  len := by rintro _ _ _ _ ⟨A, n, c, rfl, _⟩; rfl
  mono := by rintro S S' w r xs h ⟨A, n, c, rfl, he, h1, h2⟩; exact ⟨A, n, c, rfl, he.mono h h, h1, h2⟩
  keep := by rintro S w w' r xs h ⟨A, n, c, rfl, he, h1, h2⟩; exact ⟨A, n, c, rfl, he.keep h h, h1, h2⟩
  one := by rintro S w r xs ⟨A, n, c, rfl, _⟩ u hu; simp at hu; subst hu; rfl

def encB : Enc UInt8 := flatE bV (fun _ => True) fun _ => rfl
def encI : Enc Int := flatE (fun n => .int .i64 n) (fun n => -9223372036854775808 ≤ n ∧ n ≤ 9223372036854775807) fun _ => rfl
def encBool : Enc Bool := flatE (fun b => .bool b) (fun _ => True) fun _ => rfl
def encU16 : Enc Nat := flatE (fun n => .int .u16 (n : Int)) (fun n => n < 65536) fun _ => rfl
/-- A string, as its bytes. -/
def encS : Enc (List UInt8) := flatE (fun l => .string (bstr l)) (fun l => l.length ≤ maxLen) fun _ => rfl

/-- A row of the call's own, of elements of type e that read by E; what they lead to lies in blocks of S, none of them the row's. -/
def OwnE {α : Type} (E : Enc α) (e : TypeId) (S : Nat → Prop) (w : World) (base : Nat) (v : Value) (xs : List α) : Prop :=
  ∃ cells, w.ownsRow base e E.size v xs.length cells ∧ (∀ i x, xs[i]? = some x → E.R S w ((cells.drop (i * E.size)).take E.size) x) ∧ ∀ b, S b → b < w.heap.size ∧ some b ≠ v.ownBlock

section
variable {α : Type} {E : Enc α} {e : TypeId} {S S' : Nat → Prop} {w w' : World} {base : Nat} {v : Value} {xs : List α}
theorem OwnE.nil (E : Enc α) (e : TypeId) (w : World) (base : Nat) : OwnE E e noS w base (.slice none 0 0) [] :=
  ⟨[], World.ownsRow_nil _ _ _ _, fun i x h => by simp at h, fun b h => h.elim⟩
theorem OwnE.lt (h : OwnE E e S w base v xs) : ∀ k, v.ownBlock = some k → base ≤ k ∧ k < w.heap.size := by
  obtain ⟨cells, ho, _⟩ := h
  exact ho.lt
theorem OwnE.keep (h : OwnE E e S w base v xs) (hs : w.heap.size ≤ w'.heap.size) (ho : ∀ k, v.ownBlock = some k → w'.heap[k]? = w.heap[k]?) (hi : ∀ b, S b → w'.heap[b]? = w.heap[b]?) : OwnE E e S w' base v xs := by
  obtain ⟨cells, hw, hr, hb⟩ := h
  refine ⟨cells, ⟨hw.1, ?_⟩, fun i x hx => E.keep hi (hr i x hx), fun b hb' => ⟨Nat.lt_of_lt_of_le (hb b hb').1 hs, (hb b hb').2⟩⟩
  rcases hw.2 with h0 | ⟨g, cap, cur, rfl, h1, h2, h3⟩
  · exact .inl h0
  · exact .inr ⟨g, cap, cur, rfl, h1, (ho g rfl).trans h2, h3⟩
theorem OwnE.below (h : OwnE E e S w base v xs) (hb : Below w.heap.size w w') : OwnE E e S w' base v xs := by
  have hl := h.lt
  obtain ⟨cells, hw, hr, hS⟩ := h
  exact OwnE.keep ⟨cells, hw, hr, hS⟩ hb.size (fun k hk => hb.block k (hl k hk).2) (fun b hb' => hb.block b (hS b hb').1)
theorem OwnE.alloc (h : OwnE E e S w base v xs) (o : Obj) : OwnE E e S (w.alloc o) base v xs := h.below ((Below.refl _ _).alloc (Nat.le_refl _) o)
theorem OwnE.base_le {base' : Nat} (h : OwnE E e S w base v xs) (hb : base' ≤ base) : OwnE E e S w base' v xs := by
  obtain ⟨cells, ⟨h1, h2⟩, h3⟩ := h
  refine ⟨cells, ⟨h1, ?_⟩, h3⟩
  rcases h2 with h2 | ⟨g, cap, cur, h1, h2, h3⟩
  · exact .inl h2
  · exact .inr ⟨g, cap, cur, h1, by omega, h3⟩
/-- An owned row as a slice value, and how it reads. -/
theorem OwnE.form (h : OwnE E e S w base v xs) : ∃ A c, v = .slice A xs.length c ∧ Els E (fun b => v.ownBlock = some b) S w A xs.length xs ∧ xs.length ≤ c ∧ c ≤ maxLen := by
  obtain ⟨cells, hw, hr, hb⟩ := h
  rcases hw.2 with ⟨rfl, h0⟩ | ⟨g, cap, cur, rfl, h2, h3, h4, h5, h6, h7⟩
  · have : xs = [] := List.eq_nil_of_length_eq_zero h0
    subst this
    exact ⟨none, 0, rfl, Els.nil _ _ _ _ _, Nat.le_refl _, by simp [maxLen]⟩
  · refine ⟨_, cap, rfl, ⟨rfl, fun hn => ⟨g, 0, rfl, rfl, fun i x hx => ⟨_, hr i x hx, fun j u hu => ?_⟩⟩⟩, h4, h5⟩
    have hc := World.ownsRow.cells ⟨hw.1, .inr ⟨g, cap, cur, rfl, h2, h3, h4, h5, h6, h7⟩⟩ (g := g) rfl (i * E.size + j) u (by
      rw [List.getElem?_take] at hu
      split at hu
      · rwa [List.getElem?_drop] at hu
      · cases hu)
    rwa [add_flat] at hc
theorem OwnE.rdE (h : OwnE E e S w base v xs) : ∃ A c, v = .slice A xs.length c ∧ RdE E w A xs.length xs ∧ xs.length ≤ c ∧ c ≤ maxLen := by
  have hl := h.lt
  have hS : ∀ b, S b → b < w.heap.size := by
    obtain ⟨_, _, _, hb⟩ := h
    exact fun b hb' => (hb b hb').1
  obtain ⟨A, c, rfl, he, h1, h2⟩ := h.form
  exact ⟨A, c, rfl, he.mono (fun b hb => (hl b hb).2) hS, h1, h2⟩
end

theorem els_bytes {So Si : Nat → Prop} {w : World} {A : Option Addr} {n : Nat} {bs : List UInt8} (h : Els encB So Si w A n bs) : RdB w A n bs := by
  refine ⟨by simp [h.1], fun hn => ?_⟩
  obtain ⟨b, off, e, _, hx⟩ := h.2 (by simp at hn; rw [← h.1]; exact hn)
  refine ⟨b, off, e, fun j u hu => ?_⟩
  rw [List.getElem?_map] at hu
  cases hj : bs[j]? with
  | none => rw [hj] at hu; cases hu
  | some x =>
    rw [hj] at hu
    simp at hu
    subst hu
    obtain ⟨r, ⟨rfl, _⟩, hc⟩ := hx j x hj
    simpa [encB, flatE] using hc 0 _ rfl
theorem bytes_els {S : Nat → Prop} {Si : Nat → Prop} {w : World} {A : Option Addr} {n : Nat} {bs : List UInt8} (h : RdB w A n bs) (hS : ∀ b off, A = some ⟨b, off, none⟩ → S b) : Els encB S Si w A n bs := by
  refine ⟨h.len, fun hn => ?_⟩
  obtain ⟨b, off, e, hc⟩ := h.flat hn
  refine ⟨b, off, e, hS b off e, fun i x hx => ⟨[bV x], ⟨rfl, trivial⟩, fun j u hu => ?_⟩⟩
  match j, hu with
  | 0, hu =>
    simp at hu
    subst hu
    simpa [encB, flatE, bV] using hc i x hx
theorem bytes_rdE {w : World} {A : Option Addr} {n : Nat} {bs : List UInt8} (h : RdB w A n bs) : RdE encB w A n bs := by
  by_cases hn : 0 < n
  · obtain ⟨b, off, e, hc⟩ := h.flat hn
    refine bytes_els h fun b' off' e' => ?_
    rw [e] at e'
    injection e' with e'
    injection e' with e1 e2
    subst e1
    have hl : 0 < bs.length := by rw [h.len]; exact hn
    exact World.block_lt_of_cell? w _ (hc 0 bs[0] (List.getElem?_eq_getElem hl))
  · obtain rfl : n = 0 := by omega
    have : bs = [] := List.eq_nil_of_length_eq_zero h.len
    subst this
    exact Els.nil _ _ _ _ _
end Go.Proofs.Ytbjaphldncagjaa
