/- Who is asked next, in plain Lean. -/
import Derived.Test.YtnhjfdgdjfndiaaEnc
namespace Go.Proofs.Ytnhjfdgdjfndiaa
open Go.RowKit

/-- A server, and how often it was asked. -/
structure Tr where
  addr : List UInt8
  count : Int
  bad : Bool

/-- One round: the best so far, and place i. -/
def pstep (ts : List Tr) (tries : Int) (best : List Nat) (i : Nat) : List Nat :=
  match ts[i]? with
  | none => best
  | some t =>
    if t.bad = true ∨ tries ≤ t.count then best
    else match best with
      | [] => [i]
      | b :: _ => match ts[b]? with
        | none => best
        | some u => if t.count < u.count then [i] else if t.count = u.count then best ++ [i] else best
def bestTo (ts : List Tr) (tries : Int) : Nat → List Nat
  | 0 => []
  | i + 1 => pstep ts tries (bestTo ts tries i) i
def nextP (ts : List Tr) (tries draw : Int) : Int :=
  let best := bestTo ts tries ts.length
  if best = [] then -1 else ((best.getD ((max draw 0).toNat % best.length) 0 : Nat) : Int)

theorem bestTo_lt (ts : List Tr) (tries : Int) (i : Nat) : ∀ b ∈ bestTo ts tries i, b < i := by
  induction i with
  | zero => intro b hb; simp [bestTo] at hb
  | succ i ih =>
    intro b hb
    have hw : ∀ b ∈ bestTo ts tries i, b < i + 1 := fun b h => by have := ih b h; omega
    rw [bestTo, pstep] at hb
    split at hb
    · exact hw b hb
    · split at hb
      · exact hw b hb
      · split at hb
        · simp at hb; omega
        · rename_i u l hl
          split at hb
          · exact hw b hb
          · split at hb
            · simp at hb; omega
            · split at hb
              · rw [List.mem_append, List.mem_singleton] at hb
                rcases hb with h | h
                · exact hw b h
                · omega
              · exact hw b hb
theorem bestTo_length (ts : List Tr) (tries : Int) (i : Nat) : (bestTo ts tries i).length ≤ i := by
  induction i with
  | zero => simp [bestTo]
  | succ i ih =>
    rw [bestTo, pstep]
    split
    · omega
    · split
      · omega
      · split
        · simp
        · rename_i u l hl
          split
          · omega
          · split
            · simp
            · split
              · rw [List.length_append]; simp; omega
              · omega
theorem bestTo_skip {ts : List Tr} {tries : Int} {k : Nat} {t : Tr} (ht : ts[k]? = some t) (h : t.bad = true ∨ tries ≤ t.count) : bestTo ts tries (k + 1) = bestTo ts tries k := by
  rw [bestTo, pstep, ht]; simp only; rw [if_pos h]
theorem bestTo_first {ts : List Tr} {tries : Int} {k : Nat} {t : Tr} (ht : ts[k]? = some t) (h1 : ¬ t.bad = true) (h2 : t.count < tries) (hb : bestTo ts tries k = []) : bestTo ts tries (k + 1) = [k] := by
  rw [bestTo, pstep, ht]; simp only; rw [if_neg (by rintro (h | h); exact h1 h; omega), hb]
theorem bestTo_next {ts : List Tr} {tries : Int} {k b : Nat} {l : List Nat} {t u : Tr} (ht : ts[k]? = some t) (h1 : ¬ t.bad = true) (h2 : t.count < tries) (hb : bestTo ts tries k = b :: l) (hu : ts[b]? = some u) :
    bestTo ts tries (k + 1) = if t.count < u.count then [k] else if t.count = u.count then bestTo ts tries k ++ [k] else bestTo ts tries k := by
  rw [bestTo, pstep, ht]; simp only; rw [if_neg (by rintro (h | h); exact h1 h; omega), hb]; simp only; rw [hu]

def encT : Enc Tr where
  size := 3
  R := fun S w r t => ∃ A n c, r = [.slice A n c, .int .i64 t.count, .bool t.bad] ∧ Els encB S S w A n t.addr ∧ n ≤ c ∧ c ≤ maxLen ∧ -9223372036854775808 ≤ t.count ∧ t.count ≤ 9223372036854775807
  pos := by decide
  len := by rintro _ _ _ _ ⟨A, n, c, rfl, _⟩; rfl
  mono := by rintro S S' w r t h ⟨A, n, c, rfl, he, h1⟩; exact ⟨A, n, c, rfl, he.mono h h, h1⟩
  keep := by rintro S w w' r t h ⟨A, n, c, rfl, he, h1⟩; exact ⟨A, n, c, rfl, he.keep h h, h1⟩
  one := by
    rintro S w r t ⟨A, n, c, rfl, _⟩ u hu
    simp at hu
    rcases hu with rfl | rfl | rfl <;> rfl
/-- A server's cells. -/
theorem encT_at {So Si : Nat → Prop} {w : World} {A : Option Addr} {n : Nat} {ts : List Tr} (h : Els encT So Si w A n ts) (hn : 0 < n) :
    ∃ b off, A = some ⟨b, off, none⟩ ∧ So b ∧ ∀ i t, ts[i]? = some t → ∃ A' n' c', w.cell? ⟨b, off + i * 3, none⟩ = some (.slice A' n' c') ∧ w.cell? ⟨b, off + i * 3 + 1, none⟩ = some (.int .i64 t.count) ∧
      w.cell? ⟨b, off + i * 3 + 2, none⟩ = some (.bool t.bad) ∧ Els encB Si Si w A' n' t.addr ∧ n' ≤ c' ∧ c' ≤ maxLen ∧ -9223372036854775808 ≤ t.count ∧ t.count ≤ 9223372036854775807 := by
  obtain ⟨b, off, e, hb, hx⟩ := h.flat hn
  refine ⟨b, off, e, hb, fun i t ht => ?_⟩
  obtain ⟨r, ⟨A', n', c', rfl, h1, h2, h3, h4⟩, hc⟩ := hx i t ht
  exact ⟨A', n', c', hc 0 _ rfl, hc 1 _ rfl, hc 2 _ rfl, h1, h2, h3, h4⟩

theorem bestTo_good (ts : List Tr) (tries : Int) (i : Nat) : ∀ b ∈ bestTo ts tries i, ∃ t, ts[b]? = some t ∧ t.bad = false ∧ t.count < tries := by
  induction i with
  | zero => intro b hb; simp [bestTo] at hb
  | succ i ih =>
    intro b hb
    rw [bestTo, pstep] at hb
    split at hb
    · exact ih b hb
    · rename_i t ht
      split at hb
      · exact ih b hb
      · rename_i hg
        have hgi : ∃ t, ts[i]? = some t ∧ t.bad = false ∧ t.count < tries := ⟨t, ht, by simpa using fun h => hg (.inl h), by
          rcases Int.lt_or_le t.count tries with h | h
          · exact h
          · exact absurd (.inr h) hg⟩
        split at hb
        · simp at hb; subst hb; exact hgi
        · split at hb
          · exact ih b hb
          · split at hb
            · simp at hb; subst hb; exact hgi
            · split at hb
              · rw [List.mem_append, List.mem_singleton] at hb
                rcases hb with h | h
                · exact ih b h
                · subst h; exact hgi
              · exact ih b hb
/-- Who is next is one of them, and not bad. -/
theorem nextP_good (ts : List Tr) (tries draw : Int) : nextP ts tries draw = -1 ∨ ∃ k t, nextP ts tries draw = ((k : Nat) : Int) ∧ ts[k]? = some t ∧ t.bad = false ∧ t.count < tries := by
  unfold nextP
  simp only
  split
  · exact .inl rfl
  · rename_i hne
    right
    have hpos : 0 < (bestTo ts tries ts.length).length := List.length_pos_iff.2 hne
    have hlt := Nat.mod_lt (max draw 0).toNat hpos
    have hm : (bestTo ts tries ts.length).getD ((max draw 0).toNat % (bestTo ts tries ts.length).length) 0 ∈ bestTo ts tries ts.length := by
      simp only [List.getD]
      rw [List.getElem?_eq_getElem hlt]
      exact List.getElem_mem hlt
    obtain ⟨t, h1, h2, h3⟩ := bestTo_good ts tries ts.length _ hm
    exact ⟨_, t, rfl, h1, h2, h3⟩

/-- The place of the first with this address. -/
def findT (ts : List Tr) (addr : List UInt8) : Nat → Option Nat
  | 0 => none
  | i + 1 => match findT ts addr i with
    | some k => some k
    | none => match ts[i]? with
      | some t => if t.addr = addr then some i else none
      | none => none
def findV (ts : List Tr) (addr : List UInt8) : Int := match findT ts addr ts.length with | some k => (k : Int) | none => -1
theorem findV_some {ts : List Tr} {addr : List UInt8} {k : Nat} (h : findT ts addr ts.length = some k) : findV ts addr = (k : Int) := by rw [findV, h]
theorem findV_none {ts : List Tr} {addr : List UInt8} (h : findT ts addr ts.length = none) : findV ts addr = -1 := by rw [findV, h]
def noteT (t : Tr) (bad : Bool) : Tr := ⟨t.addr, if t.count < 9223372036854775807 then t.count + 1 else t.count, t.bad || bad⟩
def noteP (ts : List Tr) (addr : List UInt8) (bad : Bool) : List Tr :=
  match findT ts addr ts.length with
  | none => ts ++ [⟨addr, 1, bad⟩]
  | some k => match ts[k]? with
    | some t => ts.set k (noteT t bad)
    | none => ts
theorem findT_lt {ts : List Tr} {addr : List UInt8} {i k : Nat} (h : findT ts addr i = some k) : k < i := by
  induction i with
  | zero => cases h
  | succ i ih =>
    rw [findT] at h
    cases hf : findT ts addr i with
    | some k' =>
      rw [hf] at h
      simp at h
      subst h
      have := ih hf
      omega
    | none =>
      rw [hf] at h
      simp only at h
      split at h
      · split at h
        · simp at h; omega
        · cases h
      · cases h
theorem noteP_some {ts : List Tr} {addr : List UInt8} {bad : Bool} {k : Nat} {t : Tr} (h : findT ts addr ts.length = some k) (ht : ts[k]? = some t) : noteP ts addr bad = ts.set k (noteT t bad) := by rw [noteP, h]; simp only; rw [ht]
theorem noteP_none {ts : List Tr} {addr : List UInt8} {bad : Bool} (h : findT ts addr ts.length = none) : noteP ts addr bad = ts ++ [⟨addr, 1, bad⟩] := by rw [noteP, h]
theorem noteP_length (ts : List Tr) (addr : List UInt8) (bad : Bool) : (noteP ts addr bad).length ≤ ts.length + 1 := by
  unfold noteP
  split
  · simp
  · split <;> simp
theorem findT_found {ts : List Tr} {addr : List UInt8} {i : Nat} {t : Tr} (h : findT ts addr i = none) (ht : ts[i]? = some t) (he : t.addr = addr) (j : Nat) (hj : i + 1 ≤ j) : findT ts addr j = some i := by
  induction j with
  | zero => omega
  | succ j ih =>
    rw [findT]
    by_cases e : i = j
    · subst e; rw [h, ht]; simp [he]
    · rw [ih (by omega)]
theorem findT_next {ts : List Tr} {addr : List UInt8} {i : Nat} {t : Tr} (h : findT ts addr i = none) (ht : ts[i]? = some t) (he : ¬ t.addr = addr) : findT ts addr (i + 1) = none := by
  rw [findT, h, ht]; simp [he]

end Go.Proofs.Ytnhjfdgdjfndiaa
