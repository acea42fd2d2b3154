/- wname: how a writer lies in memory. -/
import Derived.Test.YtjpkddmdhdmhgaaBytes
import Derived.Test.YtjpkddmdhdmhgaaFoot
import Derived.Test.YtjpkddmdhdmhgaaWtrPlain
import Derived.Maps.Own
import Derived.Maps.OwnSet
import Derived.Maps.Views
import Derived.StringKeys
namespace Go.Proofs.Ytjpkddmdhdmhgaa
open Go.RowKit Go.Maps
set_option maxRecDepth 100000

theorem OwnB.chgv {w w' : World} {base : Nat} {v : Value} {F : Nat → Prop} {bs : List UInt8} (h : OwnB w base v bs) (hc : Chg F w w') (hv : ∀ k, v.ownBlock = some k → ¬ F k) : OwnB w' base v bs := by
  refine ⟨h.1, ?_⟩
  rcases h.2 with h0 | ⟨g, cap, cur, rfl, h1, h2, h3⟩
  · exact .inl h0
  · exact .inr ⟨g, cap, cur, rfl, h1, hc.heap h2 (hv g rfl), h3⟩

/-- Block mb is a map from strings to ints that says what rs says. -/
def MapIs (w : World) (mb : Nat) (rs : List (List UInt8 × Nat)) : Prop :=
  ∃ D : DataW Unit, w.ownsMap Try.prog 9 (plainElem Try.prog 3) mb rs.length D ∧ IsMap D ∧ ∀ k, Maps.has D (.string k) = (lookR rs k).isSome ∧ ∀ p, lookR rs k = some p → ∀ z, D.atKey (.string k) z = .lit (.int .i64 (p : Int))

theorem MapIs.keep {w w' : World} {mb : Nat} {rs : List (List UInt8 × Nat)} (h : MapIs w mb rs) (hk : w'.heap[mb]? = w.heap[mb]?) : MapIs w' mb rs := by
  obtain ⟨D, ⟨es, clock, h1, h2⟩, h3⟩ := h
  exact ⟨D, ⟨es, clock, hk.trans h1, h2⟩, h3⟩
theorem MapIs.made (w : World) : MapIs (w.alloc (.map #[] 0)) w.heap.size [] :=
  ⟨.map [], World.ownsMap_made _ _ _ _, isMap_empty, fun k => ⟨rfl, fun p h => by cases h⟩⟩
theorem MapIs.lt {w : World} {mb : Nat} {rs : List (List UInt8 × Nat)} (h : MapIs w mb rs) : mb < w.heap.size := by
  obtain ⟨D, h1, _⟩ := h
  exact h1.lt

theorem str_keyed : Keyed Try.prog 9 := string_keyed Try.underlying9
theorem int_zero (w : World) : (zeroValue 3).run Try.prog w = .ok (.int .i64 0) w := by kernel_rfl
theorem key_str {k : List UInt8} (hk : k.length ≤ maxLen) : keyOf Try.prog 9 (.string (bstr k)) = some (.string k) := by
  have := Go.WideMaps.keyOf_string_mk (P := Try.prog) Try.underlying9 (s := bstr k) (by rw [bstr_size]; exact hk)
  rw [this]
  congr 2
theorem isKey_str (k : List UInt8) : WideAt.IsKeyLit (.string k) := by trivial

/-- m[k] = p. -/
theorem MapIs.put {w : World} {mb : Nat} {rs : List (List UInt8 × Nat)} (h : MapIs w mb rs) {k : List UInt8} (hk : k.length ≤ maxLen) {p : Nat} (hp : p ≤ 1000000000000) (hn : rs.length < maxLen) :
    ∃ w', (Instr.mapUpdate 125 (.map (some mb)) (.string (bstr k)) (.int .i64 (p : Int))).run Try.prog w = .ok () w' ∧ MapIs w' mb ((k, p) :: rs) ∧ w.grownBy w' (some mb) := by
  obtain ⟨D, h1, h2, h3⟩ := h
  obtain ⟨w', hrun, ho, hg⟩ := h1.update str_keyed Try.underlying125 hn (key_str hk) (plainElem_int Try.underlying3 (a := (p : Int)) (WalkArith.wf_i64 ⟨by omega, by omega⟩))
  refine ⟨w', hrun, ⟨_, ho, h2.put _ _, fun k' => ?_⟩, hg⟩
  by_cases e : k' = k
  · subst e
    refine ⟨by rw [has_put_same h2 (isKey_str _)]; simp [lookR], fun q hq z => ?_⟩
    simp only [lookR, if_pos] at hq
    injection hq with hq
    subst hq
    exact atKey_put_same h2 (isKey_str _) _ _
  · have hne : (Lit.string k') ≠ .string k := fun h => e (by injection h)
    have hl : lookR ((k, p) :: rs) k' = lookR rs k' := by simp only [lookR]; rw [if_neg (fun h => e h.symm)]
    rw [hl, has_put_other hne]
    exact ⟨(h3 k').1, fun q hq z => by rw [atKey_put_other hne]; exact (h3 k').2 q hq z⟩

/-- p, there := m[k]. -/
theorem wpL_look {w : World} {mb : Nat} {rs : List (List UInt8 × Nat)} (h : MapIs w mb rs) {ops : Array Oper} {rest : List Oper} {o : Oper} {a : Act} {Q : Exit → Act → World → Prop} (hg : o.guard = none) (m x : Operand) (hop : o.op = Op.lookup 125 m x true)
    (hm : a.eval m = .map (some mb)) {k : List UInt8} (hx : a.eval x = .string (bstr k)) (hk : k.length ≤ maxLen)
    (hsome : ∀ p, lookR rs k = some p → wpList Try.prog ops Q rest (a.put o.dst (.tuple #[.int .i64 (p : Int), .bool true])) w)
    (hnone : lookR rs k = none → ∀ c : Int, wpList Try.prog ops Q rest (a.put o.dst (.tuple #[.int .i64 c, .bool false])) w) : wpList Try.prog ops Q (o :: rest) a w := by
  obtain ⟨D, h1, h2, h3⟩ := h
  refine wpList_lookup_own_ok_int w hg m x 125 hop 9 3 .i64 str_keyed Try.underlying125 Try.underlying3 (int_zero w) mb rs.length D hm h1 (.string (bstr k)) (.string k) hx (key_str hk) (fun c hc _ => ?_)
  rw [(h3 k).1]
  cases hl : lookR rs k with
  | none => exact hnone hl c
  | some p =>
    rw [(h3 k).2 p hl] at hc
    injection hc with hc
    injection hc with _ hc
    rw [← hc]
    exact hsome p hl

/-- The writer at block g reads as x; what it leads to lies in blocks of F. -/
def Wtr (w : World) (B : Nat) (F : Nat → Prop) (g : Nat) (x : Wr) : Prop :=
  x.Near ∧ ∃ bv mb, w.heap[g]? = some (.cells #[bv, .map (some mb)] 127 (0, 0)) ∧ OwnB w B bv x.b ∧ MapIs w mb x.rests ∧ (F g ∧ B ≤ g) ∧ (∀ k, bv.ownBlock = some k → F k ∧ k ≠ g ∧ k ≠ mb) ∧ (F mb ∧ mb ≠ g) ∧ ∀ k, F k → B ≤ k ∧ k < w.heap.size

section
variable {w w' : World} {B g : Nat} {F G : Nat → Prop} {x : Wr}
theorem Wtr.near (h : Wtr w B F g x) : x.Near := h.1
theorem Wtr.F_lt (h : Wtr w B F g x) : ∀ k, F k → B ≤ k ∧ k < w.heap.size := by obtain ⟨_, _, _, _, _, _, _, _, _, h⟩ := h; exact h
theorem Wtr.g_F (h : Wtr w B F g x) : F g := by obtain ⟨_, _, _, _, _, _, h, _⟩ := h; exact h.1
theorem Wtr.chg (h : Wtr w B F g x) (hc : Chg G w w') (hd : ∀ k, F k → ¬ G k) : Wtr w' B F g x := by
  obtain ⟨hn, bv, mb, hg, hb, hm, hgF, hbF, hmF, hF⟩ := h
  exact ⟨hn, bv, mb, hc.heap hg (hd g hgF.1), hb.chgv hc (fun k hk => hd k (hbF k hk).1), hm.keep (hc.block mb hm.lt (hd mb hmF.1)), hgF, hbF, hmF, fun k hk => ⟨(hF k hk).1, Nat.lt_of_lt_of_le (hF k hk).2 hc.size⟩⟩
theorem Wtr.below (h : Wtr w B F g x) (hb : Below w.heap.size w w') : Wtr w' B F g x := h.chg (G := fun _ => False) (Chg.of_below hb) (fun _ _ h => h)
theorem Wtr.base_le {B' : Nat} (h : Wtr w B F g x) (hB : B' ≤ B) : Wtr w B' F g x := by
  obtain ⟨hn, bv, mb, hg, hb, hm, hgF, hbF, hmF, hF⟩ := h
  exact ⟨hn, bv, mb, hg, hb.mono hB, hm, ⟨hgF.1, by omega⟩, hbF, hmF, fun k hk => ⟨Nat.le_trans hB (hF k hk).1, (hF k hk).2⟩⟩
theorem Wtr.bw {w0 : World} (hb : Below w0.heap.size w0 w) (h : Wtr w B F g x) (hB : w0.heap.size ≤ B) (hc : Chg F w w') : Below w0.heap.size w0 w' :=
  hb.trans (hc.below (fun x hx => Nat.le_trans hB (h.F_lt x hx).1) hb.size)
end

/-- A writer's call: what it returns, and what the writer is then. -/
def RetX (w : World) (B : Nat) (F : Nat → Prop) (g : Nat) (y : Wr) (v : Value) (e : Ending) (w' : World) : Prop :=
  e = .returned v ∧ ∃ F', Wtr w' B F' g y ∧ Chg F w w' ∧ ∀ z, F' z → F z ∨ w.heap.size ≤ z
end Go.Proofs.Ytjpkddmdhdmhgaa
