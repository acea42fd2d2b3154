/- Who is asked next, in plain Lean. -/
import Derived.Test.YtnhjfdgdjfndiaaEnc
namespace Go.Proofs.Ytnhjfdgdjfndiaa
open Go.RowKit

/-- A server, and how often it was asked. -/
structure Tr where
  addr : List UInt8
  count : Int
  bad : Bool

/-- One round: the best so far, and place i. -/
def pstep (ts : List Tr) (tries : Int) (best : List Nat) (i : Nat) : List Nat :=
  match ts[i]? with
  | none => best
  | some t =>
    if t.bad = true ∨ tries ≤ t.count then best
    else match best with
      | [] => [i]
      | b :: _ => match ts[b]? with
        | none => best
        | some u => if t.count < u.count then [i] else if t.count = u.count then best ++ [i] else best
def bestTo (ts : List Tr) (tries : Int) : Nat → List Nat
  | 0 => []
  | i + 1 => pstep ts tries (bestTo ts tries i) i
def nextP (ts : List Tr) (tries draw : Int) : Int :=
  let best := bestTo ts tries ts.length
  if best = [] then -1 else ((best.getD ((max draw 0).toNat % best.length) 0 : Nat) : Int)

theorem bestTo_lt (ts : List Tr) (tries : Int) (i : Nat) : ∀ b ∈ bestTo ts tries i, b < i := by
  induction i with
  | zero => intro b hb; simp [bestTo] at hb
  | succ i ih =>
    intro b hb
    have hw : ∀ b ∈ bestTo ts tries i, b < i + 1 := fun b h => by have := ih b h; omega
    rw [bestTo, pstep] at hb
    split at hb
    · exact hw b hb
    · split at hb
      · exact hw b hb
      · split at hb
        · simp at hb; omega
        · rename_i u l hl
          split at hb
          · exact hw b hb
          · split at hb
            · simp at hb; omega
            · split at hb
              · rw [List.mem_append, List.mem_singleton] at hb
                rcases hb with h | h
                · exact hw b h
                · omega
              · exact hw b hb
theorem bestTo_length (ts : List Tr) (tries : Int) (i : Nat) : (bestTo ts tries i).length ≤ i := by
  induction i with
  | zero => simp [bestTo]
  | succ i ih =>
    rw [bestTo, pstep]
    split
    · omega
    · split
      · omega
      · split
        · simp
        · rename_i u l hl
          split
          · omega
          · split
            · simp
            · split
              · rw [List.length_append]; simp; omega
              · omega
theorem bestTo_skip {ts : List Tr} {tries : Int} {k : Nat} {t : Tr} (ht : ts[k]? = some t) (h : t.bad = true ∨ tries ≤ t.count) : bestTo ts tries (k + 1) = bestTo ts tries k := by
  rw [bestTo, pstep, ht]; simp only; rw [if_pos h]
theorem bestTo_first {ts : List Tr} {tries : Int} {k : Nat} {t : Tr} (ht : ts[k]? = some t) (h1 : ¬ t.bad = true) (h2 : t.count < tries) (hb : bestTo ts tries k = []) : bestTo ts tries (k + 1) = [k] := by
  rw [bestTo, pstep, ht]; simp only; rw [if_neg (by rintro (h | h); exact h1 h; omega), hb]
theorem bestTo_next {ts : List Tr} {tries : Int} {k b : Nat} {l : List Nat} {t u : Tr} (ht : ts[k]? = some t) (h1 : ¬ t.bad = true) (h2 : t.count < tries) (hb : bestTo ts tries k = b :: l) (hu : ts[b]? = some u) :
    bestTo ts tries (k + 1) = if t.count < u.count then [k] else if t.count = u.count then bestTo ts tries k ++ [k] else bestTo ts tries k := by
  rw [bestTo, pstep, ht]; simp only; rw [if_neg (by rintro (h | h); exact h1 h; omega), hb]; simp only; rw [hu]

def encT : Enc Tr where
  size := 3
  R := fun S w r t => ∃ A n c, r = [.slice A n c, .int .i64 t.count, .bool t.bad] ∧ Els encB S S w A n t.addr ∧ n ≤ c ∧ c ≤ maxLen ∧ -9223372036854775808 ≤ t.count ∧ t.count ≤ 9223372036854775807
  pos := by decide
  len := by rintro _ _ _ _ ⟨A, n, c, rfl, _⟩; rfl
  mono := by rintro S S' w r t h ⟨A, n, c, rfl, he, h1⟩; exact ⟨A, n, c, rfl, he.mono h h, h1⟩
  keep := by rintro S w w' r t h ⟨A, n, c, rfl, he, h1⟩; exact ⟨A, n, c, rfl, he.keep h h, h1⟩
  one := by
    rintro S w r t ⟨A, n, c, rfl, _⟩ u hu
    simp at hu
    rcases hu with rfl | rfl | rfl <;> rfl
/-- A server's cells. -/
theorem encT_at {So Si : Nat → Prop} {w : World} {A : Option Addr} {n : Nat} {ts : List Tr} (h : Els encT So Si w A n ts) (hn : 0 < n) :
    ∃ b off, A = some ⟨b, off, none⟩ ∧ So b ∧ ∀ i t, ts[i]? = some t → ∃ A' n' c', w.cell? ⟨b, off + i * 3, none⟩ = some (.slice A' n' c') ∧ w.cell? ⟨b, off + i * 3 + 1, none⟩ = some (.int .i64 t.count) ∧
      w.cell? ⟨b, off + i * 3 + 2, none⟩ = some (.bool t.bad) ∧ Els encB Si Si w A' n' t.addr ∧ n' ≤ c' ∧ c' ≤ maxLen ∧ -9223372036854775808 ≤ t.count ∧ t.count ≤ 9223372036854775807 := by
  obtain ⟨b, off, e, hb, hx⟩ := h.flat hn
  refine ⟨b, off, e, hb, fun i t ht => ?_⟩
  obtain ⟨r, ⟨A', n', c', rfl, h1, h2, h3, h4⟩, hc⟩ := hx i t ht
  exact ⟨A', n', c', hc 0 _ rfl, hc 1 _ rfl, hc 2 _ rfl, h1, h2, h3, h4⟩
end Go.Proofs.Ytnhjfdgdjfndiaa
