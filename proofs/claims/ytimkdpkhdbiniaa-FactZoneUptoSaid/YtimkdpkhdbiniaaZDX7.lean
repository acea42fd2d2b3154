/- Parts of a proof, joined: FaOwn1, FaOwn2, FaOwn3. -/
import Derived.Deep.DeepMust
import Derived.Test.YtimkdpkhdbiniaaZDF01
import Derived.Test.YtimkdpkhdbiniaaZDM03r
import Derived.Test.YtimkdpkhdbiniaaZDX1
import Derived.Test.YtimkdpkhdbiniaaZDF15a
import Derived.Test.YtimkdpkhdbiniaaZDX7a
import Derived.Test.YtimkdpkhdbiniaaZDR1
/- What a call has made that may be written into; slices.Clone of data; one place of a row of data laid anew. -/
namespace Go.Proofs.Ytimkdpkhdbiniaa
open Go.RowKit
set_option maxRecDepth 100000
set_option linter.unusedVariables false

/-- A block of plain cells. -/
def Loose (w : World) (b : Nat) : Prop := ∃ cs t, w.heap[b]? = some (.cells cs t (0, 0))
/-- Blocks from B on that may be written into. -/
def lsS (B : Nat) (w : World) : Nat → Prop := fun b => B ≤ b ∧ b < w.heap.size ∧ Loose w b
theorem Loose.keep {w w' : World} {b : Nat} (h : Loose w b) (e : w'.heap[b]? = w.heap[b]?) : Loose w' b := by
  obtain ⟨cs, t, h⟩ := h
  exact ⟨cs, t, e.trans h⟩
theorem Loose.free {w : World} {b : Nat} (h : Loose w b) (j : Nat) : w.frozen? ⟨b, j, none⟩ = false := by
  obtain ⟨cs, t, h⟩ := h
  exact frozen_of_row _ _ _ _ _ h
theorem lsS.ge {B : Nat} {w : World} {b : Nat} (h : lsS B w b) : geS B w b := ⟨h.1, h.2.1⟩
theorem lsS.le {B B' : Nat} {w : World} {b : Nat} (h : lsS B w b) (hB : B' ≤ B) : lsS B' w b := ⟨Nat.le_trans hB h.1, h.2⟩
theorem lsS.keep {B : Nat} {w w' : World} {b : Nat} (h : lsS B w b) (hs : w.heap.size ≤ w'.heap.size) (e : w'.heap[b]? = w.heap[b]?) : lsS B w' b := ⟨h.1, Nat.lt_of_lt_of_le h.2.1 hs, h.2.2.keep e⟩
theorem own_loose {w : World} {base : Nat} {e : TypeId} {size n : Nat} {v : Value} {cs : List Value} (h : w.ownsRow base e size v n cs) {b : Nat} (hb : v.ownBlock = some b) : lsS base w b := by
  have hl := World.ownsRow.lt h b hb
  rcases h.2 with ⟨rfl, _⟩ | ⟨g, cap, cur, rfl, h1, h2, h3⟩
  · cases hb
  · have e0 : g = b := by injection hb
    subst e0
    exact ⟨hl.1, hl.2, cur, e, h2⟩
section
variable {w : World} {B : Nat}
theorem ownB_ls {v : Value} {bs : List UInt8} {A : Option Addr} {n c : Nat} (h : OwnB w B v bs) (hv : v = .slice A n c) : Els encB (lsS B w) (lsS B w) w A n bs ∧ n ≤ c ∧ c ≤ maxLen := by
  subst hv
  obtain ⟨A', c', hv, hr, h1, h2⟩ := h.form
  injection hv with e1 e2 e3
  subst e1 e2 e3
  refine ⟨bytes_els hr fun b off e => ?_, h1, h2⟩
  subst e
  rcases h.2 with ⟨e0, _⟩ | ⟨g, cap, cur, e0, h3, _⟩
  · injection e0 with e0
    cases e0
  · injection e0 with e0
    injection e0 with e0
    injection e0 with e0
    subst e0
    exact own_loose h rfl
theorem ownE_ls {α : Type} {E : Enc α} {e : TypeId} {xs : List α} {v : Value} {A : Option Addr} {n c : Nat} (h : OwnE E e noS w B v xs) (hv : v = .slice A n c) : Els E (lsS B w) (lsS B w) w A n xs ∧ n ≤ c ∧ c ≤ maxLen := by
  subst hv
  obtain ⟨A', c', hv, hr, h1, h2⟩ := h.form
  injection hv with e1 e2 e3
  subst e1 e2 e3
  obtain ⟨cells, ho, _⟩ := h
  exact ⟨hr.mono (fun b hb => own_loose ho hb) (fun b hb => hb.elim), h1, h2⟩
end
theorem DGot.ls {w : World} {B : Nat} {s : DS} {x : Da} (h : DGot w B s x) : DIn (lsS B w) w s x := by
  obtain ⟨b1, b2⟩ := ownB_ls h.b rfl
  obtain ⟨h1, h2⟩ := ownE_ls h.h rfl
  obtain ⟨m1, m2⟩ := ownE_ls h.m rfl
  obtain ⟨n1, n2⟩ := ownE_ls h.n rfl
  obtain ⟨t1, t2⟩ := ownE_ls h.t rfl
  exact ⟨b1, h1, m1, n1, t1, b2, h2, m2, n2, t2⟩
/-- What was made stays, and may be written into, where nothing of it is changed. -/
theorem DIn.lsC {w w' : World} {B : Nat} {s : DS} {x : Da} {F : Nat → Prop} (h : DIn (lsS B w) w s x) (hc : Chg F w w') (hF : ∀ k, B ≤ k → k < w.heap.size → ¬ F k) : DIn (lsS B w') w' s x :=
  (h.keep (fun b hb => hc.block b hb.2.1 (hF b hb.1 hb.2.1))).mono (fun b hb => hb.keep hc.size (hc.block b hb.2.1 (hF b hb.1 hb.2.1)))

theorem din_nil (S : Nat → Prop) (w : World) : DIn S w DS.nil Da.zero := ((DGot.nil w w.heap.size).din).mono (fun b hb => absurd hb.2 (by have := hb.1; omega))
/-- Data of which some have been laid anew: what these lead to is from B on and may be written into. -/
def encDt (B : Nat) : Enc (Bool × Da) where
  size := 5
  R := fun S w r x => ∃ s, r = (dCells s x.2).toList ∧ DIn (fun b => S b ∧ (x.1 = true → B ≤ b ∧ Loose w b)) w s x.2
  pos := by decide
  len := by rintro _ _ r x ⟨s, rfl, _⟩; rfl
  mono := by rintro S S' w r x hS ⟨s, rfl, h⟩; exact ⟨s, rfl, h.mono (fun b hb => ⟨hS b hb.1, hb.2⟩)⟩
  keep := by
    rintro S w w' r x hS ⟨s, rfl, h⟩
    exact ⟨s, rfl, (h.keep (fun b hb => hS b hb.1)).mono (fun b hb => ⟨hb.1, fun e => ⟨(hb.2 e).1, (hb.2 e).2.keep (hS b hb.1)⟩⟩)⟩
  one := by
    rintro S w r x ⟨s, rfl, _⟩ u hu
    simp [dCells] at hu
    rcases hu with rfl | rfl | rfl | rfl | rfl <;> rfl
theorem els_dt {B : Nat} {So Si : Nat → Prop} {w : World} {A : Option Addr} {n : Nat} {xs : List Da} (h : Els encDa So Si w A n xs) : Els (encDt B) So Si w A n (xs.map fun x => (false, x)) := by
  refine ⟨by rw [List.length_map]; exact h.1, fun hn => ?_⟩
  obtain ⟨b, off, e, hb, hx⟩ := h.2 hn
  refine ⟨b, off, e, hb, fun i x hi => ?_⟩
  rw [List.getElem?_map] at hi
  obtain ⟨d, hd, rfl⟩ := Option.map_eq_some_iff.1 hi
  obtain ⟨r, ⟨s, rfl, hs⟩, hc⟩ := hx i d hd
  exact ⟨_, ⟨s, rfl, hs.mono (fun b hb => ⟨hb, fun e => by cases e⟩)⟩, hc⟩
/-- Once all have been laid anew. -/
theorem own_dt {B : Nat} {w : World} {e : TypeId} {S : Nat → Prop} {base : Nat} {A : Option Addr} {n c : Nat} {xs : List Da} (hB : B ≤ base) (h : OwnE (encDt B) e S w base (.slice A n c) (xs.map fun x => (true, x))) : Els encDa (lsS B w) (lsS B w) w A n xs ∧ n ≤ c ∧ c ≤ maxLen := by
  have hSl := h.S_lt
  obtain ⟨A', c', hv, hr, h1, h2⟩ := h.form
  injection hv with e1 e2 e3
  rw [List.length_map] at e2 h1 hr
  subst e1 e2 e3
  obtain ⟨cells, ho, _⟩ := h
  refine ⟨⟨rfl, fun hn => ?_⟩, h1, h2⟩
  obtain ⟨b, off, eA, hb, hx⟩ := hr.2 hn
  refine ⟨b, off, eA, (own_loose ho hb).le hB, fun i x hi => ?_⟩
  obtain ⟨r, ⟨s, rfl, hs⟩, hc⟩ := hx i (true, x) (by rw [List.getElem?_map, hi]; rfl)
  exact ⟨_, ⟨s, rfl, hs.mono (fun b hb => ⟨(hb.2 rfl).1, (hSl b hb.1).1, (hb.2 rfl).2⟩)⟩, hc⟩

theorem elDt (B : Nat) : ElT Try.prog 43 46 (encDt B) 120 := ElT.mk Try.underlying43 (.agg #[.slice none 0 0, .slice none 0 0, .slice none 0 0, .slice none 0 0, .slice none 0 0]) 5 (by kernel_rfl) rfl rfl
/-- append([]api.Data{}, x...) -/
theorem wpL_cloneDt {B : Nat} {w : World} {So Si : Nat → Prop} {ops : Array Oper} {rest : List Oper} {o : Oper} {a : Act} {Q : Exit → Act → World → Prop} (hgd : Region.wanted o (yielded ops a.tmps) = true) (s x : Operand)
    (ho : o.op = .call { callee := .builtin .append, args := #[s, x], argTypes := #[43, 43] })
    {g : Nat} (hs : a.eval s = .slice (some ⟨g, 0, none⟩) 0 0) (A : Option Addr) (n c : Nat) (xs : List (Bool × Da)) (hx : a.eval x = .slice A n c) (hr : Els (encDt B) So Si w A n xs) (hSo : ∀ b, So b → b < w.heap.size) (hSi : ∀ b, Si b → b < w.heap.size) (hn : n ≤ 1000000)
    (h : ∀ v' w', OwnE (encDt B) 46 Si w' w.heap.size v' xs → Below w.heap.size w w' → wpList Try.prog ops Q rest (a.put o.dst v') w') (hgs : g = w.heap.size := by simp) : wpList Try.prog ops Q (o :: rest) a (w.alloc (.cells #[] 46)) := by
  subst hgs
  refine wpList_want hgd fun K hK => ?_
  have hb : Below w.heap.size w (w.alloc (.cells #[] 46)) := bl.alloc (Nat.le_refl _) _
  have h0 : OwnE (encDt B) 46 noS (w.alloc (.cells #[] 46)) w.heap.size (.slice (some ⟨w.heap.size, 0, none⟩) 0 0) [] := ownE_lit0 (fun b hb => hb.elim) (Nat.le_refl _)
  have hstep := step_appE (P := Try.prog) (K := K) (Q := Q) (X := True) (elDt B) hgd s x ho w.heap.size _ [] hs h0 A n c xs (hr.below hb hSo hSi) (fun b hb2 => ⟨by have := hSi b hb2; simp; omega, fun e => by have h1 := hSi b hb2; injection e with e; rw [e] at h1; exact Nat.lt_irrefl _ h1⟩) hx (by simp; omega) (by unfold maxLen; simp; omega) (by simp)
    (fun v' w' h1 h2 h3 => hK _ _ (h v' w' ?_ ?_))
  · rw [if_pos hgd] at hstep
    exact hstep
  · rw [List.nil_append] at h1
    have h4 := h1.S_lt
    exact h1.widen (fun b hb => hb.elim (fun h => h.elim) id) (fun b hb => h4 b (.inr hb))
  · exact hb.grown h2 (by simp) (fun k hk => by simp [Value.ownBlock] at hk; omega)
end Go.Proofs.Ytimkdpkhdbiniaa

/- fact.Own, whatever the fact. -/
namespace Go.Proofs.Ytimkdpkhdbiniaa
open Go.RowKit
set_option maxRecDepth 100000
set_option linter.unusedVariables false

set_option maxHeartbeats 1000000 in
theorem cloneDt_any {B : Nat} {So Si : Nat → Prop} (A : Option Addr) (n c : Nat) (xs : List (Bool × Da)) (w : World) (h : Els (encDt B) So Si w A n xs) (hSo : ∀ b, So b → b < w.heap.size) (hSi : ∀ b, Si b → b < w.heap.size) (hm : n ≤ 1000000) :
    Calls Try.prog 194 #[.slice A n c] w (RetP (fun v w' => OwnE (encDt B) 46 Si w' w.heap.size v xs) w) := by
  have hl := h.len
  subst hl
  rcases A with _ | ad
  · have hn : xs = [] := by
      rcases xs with _ | ⟨x, xs⟩
      · rfl
      · obtain ⟨b, off, e, _⟩ := h.flat (by simp); cases e
    subst hn
    have he := fun W : World => Lib.run_eql_slice_nil (P := Try.prog) W 43 46 none ([] : List (Bool × Da)).length c 0 0 Try.underlying43
    simp only [List.length_nil, Option.isNone_none] at he
    go_enter Try.func194, Try.ntmps194
    go_wp2
    go_ret
    exact ⟨_, rfl, (OwnE.nil _ _ _ _).widen (fun b hb => hb.elim) (fun b hb => ⟨hSi b hb, fun e => by cases e⟩), bl⟩
  · have he := fun W : World => Lib.run_eql_slice_nil (P := Try.prog) W 43 46 (some ad) xs.length c 0 0 Try.underlying43
    simp only [Option.isNone_some] at he
    go_enter Try.func194, Try.ntmps194
    go_wp2_with ((with_reducible show wpList _ _ _ (⟨some 7, _, _, _, _, _⟩ :: _) _ _); refine wpL_cloneDt rfl (.tmp 5) (.tmp 6) rfl rfl _ _ c xs rfl h hSo hSi hm ?_; intro v2 w2 hown2 hb2)
    go_ret
    exact ⟨_, rfl, hown2, hb2⟩

/-- The first k are laid anew. -/
def tagD (k : Nat) (xs : List Da) : List (Bool × Da) := (xs.take k).map (fun x => (true, x)) ++ (xs.drop k).map (fun x => (false, x))
theorem tagD_0 (xs : List Da) : tagD 0 xs = xs.map (fun x => (false, x)) := by unfold tagD; simp
theorem tagD_n (xs : List Da) : tagD xs.length xs = xs.map (fun x => (true, x)) := by unfold tagD; simp
theorem tagD_len (k : Nat) (xs : List Da) : (tagD k xs).length = xs.length := by unfold tagD; simp; omega
theorem tagD_at {k : Nat} {xs : List Da} {x : Da} (h : xs[k]? = some x) : (tagD k xs)[k]? = some (false, x) := by
  have hk : k < xs.length := (List.getElem?_eq_some_iff.1 h).1
  unfold tagD
  rw [List.getElem?_append_right (by simp; omega)]
  simp [h, Nat.min_eq_left (Nat.le_of_lt hk)]
theorem tagD_set {k : Nat} {xs : List Da} {x : Da} (h : xs[k]? = some x) : (tagD k xs).set k (true, x) = tagD (k + 1) xs := by
  have hk : k < xs.length := (List.getElem?_eq_some_iff.1 h).1
  have hx : xs.drop k = x :: xs.drop (k + 1) := by
    rw [List.drop_eq_getElem_cons hk]
    congr 1
    exact Option.some.inj ((List.getElem?_eq_getElem hk).symm.trans h)
  unfold tagD
  rw [hx, List.map_cons, List.take_add_one, h, Option.toList_some, List.map_append, List.set_append_right _ _ (by simp; omega)]
  simp [Nat.min_eq_left (Nat.le_of_lt hk)]

/-- Five stores, one behind the other, put one element in the place of another. -/
theorem set_five {α : Type} {l : List α} {p : Nat} (h : p + 5 ≤ l.length) (v0 v1 v2 v3 v4 : α) : ((((l.set p v0).set (p + 1) v1).set (p + 2) v2).set (p + 3) v3).set (p + 4) v4 = l.take p ++ ([v0, v1, v2, v3, v4] ++ l.drop (p + 5)) := by
  apply List.ext_getElem?
  intro i
  have hlt : (l.take p).length = p := by rw [List.length_take]; omega
  by_cases h0 : i < p
  · rw [List.getElem?_append_left (by omega), List.getElem?_take]
    rw [List.getElem?_set_ne (by omega), List.getElem?_set_ne (by omega), List.getElem?_set_ne (by omega), List.getElem?_set_ne (by omega), List.getElem?_set_ne (by omega), if_pos h0]
  · obtain ⟨j, rfl⟩ := Nat.exists_eq_add_of_le (Nat.le_of_not_lt h0)
    rw [List.getElem?_append_right (by omega), hlt, Nat.add_sub_cancel_left]
    rcases j with _ | _ | _ | _ | _ | j
    · rw [List.getElem?_set_ne (by omega), List.getElem?_set_ne (by omega), List.getElem?_set_ne (by omega), List.getElem?_set_ne (by omega), List.getElem?_set]
      simp; omega
    · rw [List.getElem?_set_ne (by omega), List.getElem?_set_ne (by omega), List.getElem?_set_ne (by omega), List.getElem?_set]
      simp; omega
    · rw [List.getElem?_set_ne (by omega), List.getElem?_set_ne (by omega), List.getElem?_set]
      simp; omega
    · rw [List.getElem?_set_ne (by omega), List.getElem?_set]
      simp; omega
    · rw [List.getElem?_set]
      simp; omega
    · rw [List.getElem?_set_ne (by omega), List.getElem?_set_ne (by omega), List.getElem?_set_ne (by omega), List.getElem?_set_ne (by omega), List.getElem?_set_ne (by omega)]
      rw [List.getElem?_append_right (by simp), List.getElem?_drop]
      congr 1
      simp
      omega
def put5at (w : World) (g p : Nat) (v0 v1 v2 v3 v4 : Value) : World := ((((w.setCell ⟨g, p, none⟩ v0).setCell ⟨g, p + 1, none⟩ v1).setCell ⟨g, p + 2, none⟩ v2).setCell ⟨g, p + 3, none⟩ v3).setCell ⟨g, p + 4, none⟩ v4
theorem chg5at (w : World) (g p : Nat) (v0 v1 v2 v3 v4 : Value) : Chg (fun k => k = g) w (put5at w g p v0 v1 v2 v3 v4) := by
  have k : ∀ {u : World} (j : Nat) (v : Value), Chg (fun k => k = g) w u → Chg (fun k => k = g) w (u.setCell ⟨g, j, none⟩ v) := fun j v h => h.setCell (p := ⟨g, j, none⟩) (Or.inl rfl) v
  exact k _ _ (k _ _ (k _ _ (k _ _ (k _ _ (Chg.refl _ w)))))
theorem put5at_heap {w : World} {g p : Nat} {cur : Array Value} {t : TypeId} (h : w.heap[g]? = some (.cells cur t (0, 0))) (hp : p + 5 ≤ cur.size) (v0 v1 v2 v3 v4 : Value) :
    ∃ cur', (put5at w g p v0 v1 v2 v3 v4).heap[g]? = some (.cells cur' t (0, 0)) ∧ cur'.toList = cur.toList.take p ++ ([v0, v1, v2, v3, v4] ++ cur.toList.drop (p + 5)) := by
  refine ⟨_, heap_setCell_same _ _ _ _ _ _ (heap_setCell_same _ _ _ _ _ _ (heap_setCell_same _ _ _ _ _ _ (heap_setCell_same _ _ _ _ _ _ (heap_setCell_same _ _ _ _ _ _ h)))), ?_⟩
  simp only [Array.toList_setIfInBounds]
  exact set_five (by rw [Array.length_toList]; exact hp) _ _ _ _ _
/-- A row of data: one of them is laid anew. -/
theorem own_place {B : Nat} {w w' : World} {S : Nat → Prop} {base g n c k : Nat} {xs : List Da} {x : Da} {s : DS} (h : OwnE (encDt B) 46 S w base (.slice (some ⟨g, 0, none⟩) n c) (tagD k xs)) (hx : xs[k]? = some x) (hd : DIn (fun b => S b ∧ B ≤ b ∧ Loose w b) w s x)
    (e : w' = put5at w g (k * 5) (.slice s.A0 x.bytes.length s.c0) (.slice s.A1 x.host.length s.c1) (.slice s.A2 x.mail.length s.c2) (.slice s.A3 x.nums.length s.c3) (.slice s.A4 x.texts.length s.c4)) :
    OwnE (encDt B) 46 S w' base (.slice (some ⟨g, 0, none⟩) n c) (tagD (k + 1) xs) := by
  have hSl := h.S_lt
  have hk : k < xs.length := (List.getElem?_eq_some_iff.1 hx).1
  obtain ⟨cells, ⟨hl, h2⟩, h3⟩ := h
  rcases h2 with ⟨h0, _⟩ | ⟨g', cap, cur, e0, hbg, hg, hnc, hcm, hcs, htk⟩
  · cases h0
  injection e0 with e1 e2 e3
  injection e1 with e1
  injection e1 with e1
  subst e1 e2 e3
  have hnx : (tagD k xs).length = xs.length := tagD_len k xs
  have hpc : k * 5 + 5 ≤ cur.size := by rw [hcs]; rw [hnx] at hnc; show k * 5 + 5 ≤ c * 5; omega
  obtain ⟨cur', hg', hcl⟩ := put5at_heap hg hpc (.slice s.A0 x.bytes.length s.c0) (.slice s.A1 x.host.length s.c1) (.slice s.A2 x.mail.length s.c2) (.slice s.A3 x.nums.length s.c3) (.slice s.A4 x.texts.length s.c4)
  have hch := chg5at w g (k * 5) (.slice s.A0 x.bytes.length s.c0) (.slice s.A1 x.host.length s.c1) (.slice s.A2 x.mail.length s.c2) (.slice s.A3 x.nums.length s.c3) (.slice s.A4 x.texts.length s.c4)
  rw [← e] at hg' hch
  have hne : ∀ b, S b → b ≠ g := fun b hb e => (hSl b hb).2 (by rw [e]; rfl)
  have hkeep : ∀ b, S b → w'.heap[b]? = w.heap[b]? := fun b hb => hch.block b (hSl b hb).1 (hne b hb)
  rw [← tagD_set hx]
  refine OwnE.splice (cur := cur) (cur' := cur') (r := (dCells s x).toList) (x := (false, x)) ⟨cells, ⟨hl, .inr ⟨g, c, cur, rfl, hbg, hg, hnc, hcm, hcs, htk⟩⟩, h3⟩ (tagD_at hx) hg hg' rfl ?_ hch.size hkeep ?_
  · rw [hcl]
    show _ = cur.toList.take (k * 5) ++ ((dCells s x).toList ++ cur.toList.drop ((k + 1) * 5))
    rw [Nat.add_mul]
    rfl
  · exact ⟨s, rfl, (hd.keep (fun b hb => hkeep b hb.1)).mono (fun b hb => ⟨hb.1, fun _ => ⟨hb.2.1, hb.2.2.keep (hkeep b hb.1)⟩⟩)⟩
end Go.Proofs.Ytimkdpkhdbiniaa

/- fact.Own, whatever the fact: its walk (printed by gen/faown.py). -/
namespace Go.Proofs.Ytimkdpkhdbiniaa
open Go.RowKit
set_option maxRecDepth 100000
set_option linter.unusedVariables false

/-- How large a fact may be to be owned. -/
structure LtG (f : Fa) : Prop where
  n : f.name.length ≤ 8796093022208
  z : f.zone.length ≤ 8796093022208
  l : f.set.length ≤ 1000000
  s : ∀ d ∈ f.set, LightB d
  d : LightB f.soa
theorem OwF.seven {w u : World} {q : Nat} {sA sS sZ : Option Addr} {sac ssc szc : Nat} {sd : DS} {f : Fa} (h : OwF w u q ⟨sA, sac, sS, ssc, sZ, szc, sd⟩ f) : u.cell? ⟨q, 0, none⟩ = some (.slice sA f.name.length sac) ∧ u.cell? ⟨q, 7, none⟩ = some (.slice sZ f.zone.length szc) ∧ u.cell? ⟨q, 8, none⟩ = some (.slice sd.A0 f.soa.bytes.length sd.c0) ∧ u.cell? ⟨q, 9, none⟩ = some (.slice sd.A1 f.soa.host.length sd.c1) ∧ u.cell? ⟨q, 10, none⟩ = some (.slice sd.A2 f.soa.mail.length sd.c2) ∧ u.cell? ⟨q, 11, none⟩ = some (.slice sd.A3 f.soa.nums.length sd.c3) ∧ u.cell? ⟨q, 12, none⟩ = some (.slice sd.A4 f.soa.texts.length sd.c4) := by
  obtain ⟨x0, x1, x2, x3, x4, x5, x6, x7, x8, x9, x10, x11, x12⟩ := h.Q.cells
  exact ⟨x0, x7, x8, x9, x10, x11, x12⟩
theorem Els.lsC {α : Type} {E : Enc α} {w w' : World} {B : Nat} {A : Option Addr} {n : Nat} {xs : List α} {F : Nat → Prop} (h : Els E (lsS B w) (lsS B w) w A n xs) (hc : Chg F w w') (hF : ∀ k, B ≤ k → k < w.heap.size → ¬ F k) : Els E (lsS B w') (lsS B w') w' A n xs :=
  have k : ∀ b, lsS B w b → w'.heap[b]? = w.heap[b]? := fun b hb => hc.block b hb.2.1 (hF b hb.1 hb.2.1)
  (h.keep k k).mono (fun b hb => hb.keep hc.size (k b hb)) (fun b hb => hb.keep hc.size (k b hb))
/-- The seven stores behind the three calls. -/
def putG (w : World) (q : Nat) (a z v8 v9 v10 v11 v12 : Value) : World := ((((((w.setCell ⟨q, 0, none⟩ a).setCell ⟨q, 7, none⟩ z).setCell ⟨q, 8, none⟩ v8).setCell ⟨q, 9, none⟩ v9).setCell ⟨q, 10, none⟩ v10).setCell ⟨q, 11, none⟩ v11).setCell ⟨q, 12, none⟩ v12
theorem chgG (w : World) (q : Nat) (a z v8 v9 v10 v11 v12 : Value) : Chg (fun k => k = q) w (putG w q a z v8 v9 v10 v11 v12) := by
  have k : ∀ {u : World} (j : Nat) (v : Value), Chg (fun k => k = q) w u → Chg (fun k => k = q) w (u.setCell ⟨q, j, none⟩ v) := fun j v h => h.setCell (p := ⟨q, j, none⟩) (Or.inl rfl) v
  exact k _ _ (k _ _ (k _ _ (k _ _ (k _ _ (k _ _ (k _ _ (Chg.refl _ w)))))))
theorem OwF.putG {w u : World} {q : Nat} {sA sS sZ : Option Addr} {sac ssc szc : Nat} {sd : DS} {f : Fa} (h : OwF w u q ⟨sA, sac, sS, ssc, sZ, szc, sd⟩ f) (A : Option Addr) (c : Nat) (Z : Option Addr) (k : Nat) (t : DS) : OwF w (putG u q (.slice A f.name.length c) (.slice Z f.zone.length k) (.slice t.A0 f.soa.bytes.length t.c0) (.slice t.A1 f.soa.host.length t.c1) (.slice t.A2 f.soa.mail.length t.c2) (.slice t.A3 f.soa.nums.length t.c3) (.slice t.A4 f.soa.texts.length t.c4)) q ⟨A, c, sS, ssc, Z, k, t⟩ f :=
  ((((((h.put 0 _ ⟨A, c, sS, ssc, sZ, szc, sd⟩ rfl).put 7 _ ⟨A, c, sS, ssc, Z, k, sd⟩ rfl).put 8 _ ⟨A, c, sS, ssc, Z, k, { sd with A0 := t.A0, c0 := t.c0 }⟩ rfl).put 9 _ ⟨A, c, sS, ssc, Z, k, { sd with A0 := t.A0, c0 := t.c0, A1 := t.A1, c1 := t.c1 }⟩ rfl).put 10 _ ⟨A, c, sS, ssc, Z, k, { sd with A0 := t.A0, c0 := t.c0, A1 := t.A1, c1 := t.c1, A2 := t.A2, c2 := t.c2 }⟩ rfl).put 11 _ ⟨A, c, sS, ssc, Z, k, { sd with A0 := t.A0, c0 := t.c0, A1 := t.A1, c1 := t.c1, A2 := t.A2, c2 := t.c2, A3 := t.A3, c3 := t.c3 }⟩ rfl).put 12 _ _ rfl
/-- Blocks between two that may be written into. -/
def btL (lo hi : Nat) (w : World) : Nat → Prop := fun b => lo ≤ b ∧ b < hi ∧ Loose w b
/-- What fact.Own has made ahead of its loop. -/
structure OwG (q B : Nat) (u : World) (s : FS) (f : Fa) : Prop where
  n : Els encS (btL (q + 2) B u) (btL (q + 2) B u) u s.A f.name.length f.name
  z : Els encS (btL (q + 2) B u) (btL (q + 2) B u) u s.Z f.zone.length f.zone
  d : DIn (btL (q + 2) B u) u s.d f.soa
  cn : f.name.length ≤ s.ac ∧ s.ac ≤ maxLen
  cz : f.zone.length ≤ s.zc ∧ s.zc ≤ maxLen
theorem OwG.lsC {q B : Nat} {u u' : World} {s : FS} {f : Fa} {F : Nat → Prop} (h : OwG q B u s f) (hc : Chg F u u') (hB : B ≤ u.heap.size) (hF : ∀ k, q + 2 ≤ k → k < B → ¬ F k) : OwG q B u' s f :=
  have k : ∀ b, btL (q + 2) B u b → u'.heap[b]? = u.heap[b]? := fun b hb => hc.block b (Nat.lt_of_lt_of_le hb.2.1 hB) (hF b hb.1 hb.2.1)
  have m : ∀ b, btL (q + 2) B u b → btL (q + 2) B u' b := fun b hb => ⟨hb.1, hb.2.1, hb.2.2.keep (k b hb)⟩
  ⟨(h.n.keep k k).mono m m, (h.z.keep k k).mono m m, (h.d.keep k).mono m, h.cn, h.cz⟩
theorem rowFa : RowT Try.prog 48 13 := ⟨_, Try.underlying48, by kernel_rfl⟩
theorem fa_one (s : FS) (f : Fa) : (faCells s f).all (·.oneCell') = true := by simp [faCells, Value.oneCell']

set_option maxHeartbeats 16000000 in
theorem pownF_any (s : FS) (f : Fa) (w : World) {S : Nat → Prop} (h : FaIn S w s f) (hS : ∀ b, S b → b < w.heap.size) (hL : LtG f) :
    Calls Try.prog 175 #[faV s f] w (RetP (fun v w' => ∃ s', v = faV s' f ∧ FaIn (lsS w.heap.size w') w' s' f) w) := by
  obtain ⟨sA, sac, sS, ssc, sZ, szc, sd⟩ := s
  obtain ⟨q, hq⟩ : ∃ q, q = w.heap.size := ⟨_, rfl⟩
  obtain ⟨w1, hw1⟩ : ∃ w1, w1 = w.alloc (.cells (faCells ⟨sA, sac, sS, ssc, sZ, szc, sd⟩ f) 48) := ⟨_, rfl⟩
  obtain ⟨w2, hw2⟩ : ∃ w2, w2 = w1.alloc (.cells (faCells FS.nil Fa.zero) 48) := ⟨_, rfl⟩
  have hb1 : Below w.heap.size w w1 := by rw [hw1]; exact bl.alloc (Nat.le_refl _) _
  have hb2 : Below w1.heap.size w1 w2 := by rw [hw2]; exact bl.alloc (Nat.le_refl _) _
  have hz1 : w1.heap.size = q + 1 := by rw [hw1, hq]; simp
  have hz2 : w2.heap.size = q + 2 := by rw [hw2]; simp; omega
  have O2 : Hid (OwF w w2 q ⟨sA, sac, sS, ssc, sZ, szc, sd⟩ f) := by
    refine ⟨?_, ?_, ?_, by omega, hq.symm⟩
    · have h1 : FaRow w1 q ⟨sA, sac, sS, ssc, sZ, szc, sd⟩ f := by rw [hw1, hq]; exact FaRow.made w _ f
      exact h1.below hb2
    · rw [hw2, ← hz1]; exact FaRow.made w1 FS.nil Fa.zero
    · rw [hq]; exact nx hb1 hb2
  have HIN : Hid (∀ u, Below q w u → FaIn S u ⟨sA, sac, sS, ssc, sZ, szc, sd⟩ f) := fun u hu => h.below (by rw [hq] at hu; exact hu) hS
  have HS : Hid (∀ b, S b → b < q) := fun b hb => by rw [hq]; exact hS b hb
  have HL := Lib.hid hL
  have HQ := Lib.hid hq
  have HZ2 := Lib.hid hz2
  obtain ⟨n, hn⟩ : ∃ n, n = f.set.length := ⟨_, rfl⟩
  have HN := Lib.hid hn
  have hn1 : n ≤ 1000000 := by rw [hn]; exact hL.l
  have HII : Hid (i64S f.type ∧ i64S f.kind ∧ i64S f.rank ∧ i64S f.got ∧ i64S f.ttl) := ⟨h.it, h.ik, h.ir, h.ig, h.il⟩
  have p0 : _ ∧ _ := O2.out.seven
  have p1 : _ ∧ _ := (O2.out.below (bl.drew)).seven
  unfold faV
  unfold faCells at hw1 hw2 ⊢
  simp only [FS.nil, Fa.zero, DS.nil, Da.zero, List.length_nil] at hw2
  clear h hS hL hb1 hb2 hz1 hz2 hn
  go_enter Try.func175, Try.ntmps175
  go_upto_region 1 with (fail)
  rw [← hw1, ← hw2]
  clear hw1 hw2
  rw [← hq]
  clear hq
  have HD2 : Hid (Below w2.heap.size w2 w2.drew) := bl.drew
  have KF : Hid (∀ u, Below w2.heap.size w2 u → ∀ k, u.frozen? ⟨q, k, none⟩ = false) := fun u hu k => (O2.out.below hu).Q.free k
  refine wp_region_any (by kernel_rfl) ?_
  change wpAny _ _ _ _ _ _ _ (World.drew w2)
  refine wpAny_of_P (S := fun w' => w'.cell? ⟨q, 0, none⟩ = some (.slice sA f.name.length sac) ∧ w'.cell? ⟨q, 7, none⟩ = some (.slice sZ f.zone.length szc) ∧ w'.cell? ⟨q, 8, none⟩ = some (.slice sd.A0 f.soa.bytes.length sd.c0) ∧ w'.cell? ⟨q, 9, none⟩ = some (.slice sd.A1 f.soa.host.length sd.c1) ∧ w'.cell? ⟨q, 10, none⟩ = some (.slice sd.A2 f.soa.mail.length sd.c2) ∧ w'.cell? ⟨q, 11, none⟩ = some (.slice sd.A3 f.soa.nums.length sd.c3) ∧ w'.cell? ⟨q, 12, none⟩ = some (.slice sd.A4 f.soa.texts.length sd.c4)) (dem := fun j => j == 1 || j == 2 || j == 4 || j == 5 || j == 7 || j == 8) _ _ _ _ ?_
  refine wpAnyP_pure (i := 0) (v := .pointer (some ⟨q, 0, none⟩)) rfl (by kernel_rfl) (by kernel_rfl) (by kernel_rfl) rfl (fun _ _ _ h => h) (Or.inl ⟨by rfl, by (intro w _; go_simp)⟩) (fun _ => p1) ?_
  refine wpAnyP_pure (i := 3) (v := .pointer (some ⟨q, 7, none⟩)) rfl (by kernel_rfl) (by kernel_rfl) (by kernel_rfl) rfl (fun _ _ _ h => h) (Or.inl ⟨by rfl, by (intro w _; go_simp)⟩) (fun _ => p1) ?_
  refine wpAnyP_pure (i := 6) (v := .pointer (some ⟨q, 8, none⟩)) rfl (by kernel_rfl) (by kernel_rfl) (by kernel_rfl) rfl (fun _ _ _ h => h) (Or.inl ⟨by rfl, by (intro w _; go_simp)⟩) (fun _ => p1) ?_
  refine wpAnyP_take (i := 1) (v := .slice sA f.name.length sac) rfl (by kernel_rfl) (by kernel_rfl) (by kernel_rfl) (by kernel_rfl) (by kernel_rfl) (fun _ _ _ h => h) (Or.inl ⟨by rfl, by (rintro W ⟨c0, c7, c8, c9, c10, c11, c12⟩; go_simp)⟩) p1 ?_
  refine wpAnyP_take (i := 4) (v := .slice sZ f.zone.length szc) rfl (by kernel_rfl) (by kernel_rfl) (by kernel_rfl) (by kernel_rfl) (by kernel_rfl) (fun _ _ _ h => h) (Or.inl ⟨by rfl, by (rintro W ⟨c0, c7, c8, c9, c10, c11, c12⟩; go_simp)⟩) p1 ?_
  refine wpAnyP_take (i := 7) (v := .agg #[.slice sd.A0 f.soa.bytes.length sd.c0, .slice sd.A1 f.soa.host.length sd.c1, .slice sd.A2 f.soa.mail.length sd.c2, .slice sd.A3 f.soa.nums.length sd.c3, .slice sd.A4 f.soa.texts.length sd.c4]) rfl (by kernel_rfl) (by kernel_rfl) (by kernel_rfl) (by kernel_rfl) (by kernel_rfl) (fun _ _ _ h => h) (Or.inl ⟨by rfl, by (rintro W ⟨c0, c7, c8, c9, c10, c11, c12⟩; go_simp)⟩) p1 ?_
  refine wpAnyP_one (i := 2) rfl (by kernel_rfl) fun K hK => ?_
  go_simp
  refine (cloneS_any sA _ sac f.name w2.drew (HIN.out w2.drew (O2.out.below HD2.out).B).n HL.out.n).mono ?_
  rintro e w3 ⟨v3, rfl, ho3, hb3⟩
  have HO3 := Lib.hid ho3
  obtain ⟨A3, c3, rfl, _⟩ := OwnE.form ho3
  have HB3 := Lib.hid (HD2.out.trans hb3)
  have p3 : _ ∧ _ := (O2.out.below HB3.out).seven
  clear ho3 hb3
  refine hK _ _ (fun _ => p3) ?_
  clear hK
  refine wpAnyP_pure (i := 9) (v := .pointer (some ⟨q, 0, none⟩)) rfl (by kernel_rfl) (by kernel_rfl) (by kernel_rfl) rfl (fun _ _ _ h => h) (Or.inl ⟨by rfl, by (intro w _; go_simp)⟩) (fun _ => p3) ?_
  refine wpAnyP_one (i := 5) rfl (by kernel_rfl) fun K hK => ?_
  go_simp
  refine (cloneS_any sZ _ szc f.zone w3 (HIN.out w3 (O2.out.below HB3.out).B).z HL.out.z).mono ?_
  rintro e w4 ⟨v4, rfl, ho4, hb4⟩
  have HO4 := Lib.hid ho4
  obtain ⟨A4, c4, rfl, _⟩ := OwnE.form ho4
  have HB4 := Lib.hid (nx HB3.out hb4)
  have HBB4 := Lib.hid hb4
  have p4 : _ ∧ _ := (O2.out.below HB4.out).seven
  clear ho4 hb4
  refine hK _ _ (fun _ => p4) ?_
  clear hK
  refine wpAnyP_one (i := 8) rfl (by kernel_rfl) fun K hK => ?_
  go_simp
  refine (pown_got sd f.soa w4 (HIN.out w4 (O2.out.below HB4.out).B).d (fun b hb => by have h1 := HS.out b hb; have h2 := HZ2.out; have h3 := HB4.out.size; omega) HL.out.d).mono ?_
  rintro e w5 ⟨v5, rfl, ⟨t5, rfl, hg5⟩, hb5⟩
  unfold dsV
  have HB5 := Lib.hid (nx HB4.out hb5)
  have HG5 := Lib.hid hg5
  have HBB5 := Lib.hid hb5
  have p5 : _ ∧ _ := (O2.out.below HB5.out).seven
  have kf := KF.out w5 HB5.out
  clear hg5 hb5
  refine hK _ _ (fun _ => p5) ?_
  clear hK
  obtain ⟨c0, c7, c8, c9, c10, c11, c12⟩ := p5
  refine wpAnyP_one (i := 10) rfl (by kernel_rfl) fun K hK => ?_
  go_simp
  refine hK _ _ (fun h => absurd h (by rw [show needS _ _ _ = false from by kernel_rfl]; decide)) ?_
  clear hK
  refine wpAnyP_one (i := 11) rfl (by kernel_rfl) fun K hK => ?_
  go_simp
  refine hK _ _ (fun h => absurd h (by rw [show needS _ _ _ = false from by kernel_rfl]; decide)) ?_
  clear hK
  refine wpAnyP_one (i := 12) rfl (by kernel_rfl) fun K hK => ?_
  go_simp
  refine hK _ _ (fun h => absurd h (by rw [show needS _ _ _ = false from by kernel_rfl]; decide)) ?_
  clear hK
  refine wpAnyP_one (i := 13) rfl (by kernel_rfl) fun K hK => ?_
  go_simp
  refine hK _ _ (fun h => absurd h (by rw [show needS _ _ _ = false from by kernel_rfl]; decide)) ?_
  clear hK
  refine wpAnyP_one (i := 14) rfl (by kernel_rfl) fun K hK => ?_
  go_simp
  refine hK _ _ (fun h => absurd h (by rw [show needS _ _ _ = false from by kernel_rfl]; decide)) ?_
  clear hK
  refine wpAnyP_done (by kernel_rfl) ?_ _
  obtain ⟨u5, hu5⟩ : ∃ u, u = putG w5 q (.slice A3 f.name.length c3) (.slice A4 f.zone.length c4) (.slice t5.A0 f.soa.bytes.length t5.c0) (.slice t5.A1 f.soa.host.length t5.c1) (.slice t5.A2 f.soa.mail.length t5.c2) (.slice t5.A3 f.soa.nums.length t5.c3) (.slice t5.A4 f.soa.texts.length t5.c4) := ⟨_, rfl⟩
  have hcu5 : Chg (fun k => k = q) w5 u5 := by rw [hu5]; exact chgG _ _ _ _ _ _ _ _ _
  have O5 : Hid (OwF w u5 q ⟨A3, c3, sS, ssc, A4, c4, t5⟩ f) := by show OwF _ _ _ _ _; rw [hu5]; exact (O2.out.below HB5.out).putG A3 c3 A4 c4 t5
  have G5 : Hid (OwG q u5.heap.size u5 ⟨A3, c3, sS, ssc, A4, c4, t5⟩ f) := by
    have hz := HZ2.out
    have hn3 := ownE_ls (OwnE.base_le (base' := q + 2) ((HO3.out.below HBB4.out).below HBB5.out) (by show q + 2 ≤ w2.heap.size; omega)) rfl
    have hz4 := ownE_ls (OwnE.base_le (base' := q + 2) (HO4.out.below HBB5.out) (by have := HB3.out.size; omega)) rfl
    have hd5 := (HG5.out.base_le (B' := q + 2) (by have := HB4.out.size; omega)).ls
    have m : ∀ b, lsS (q + 2) w5 b → btL (q + 2) u5.heap.size w5 b := fun b hb => ⟨hb.1, Nat.lt_of_lt_of_le hb.2.1 hcu5.size, hb.2.2⟩
    have hs5 : u5.heap.size = w5.heap.size := by rw [hu5]; unfold putG; simp
    exact OwG.lsC ⟨hn3.1.mono m m, hz4.1.mono m m, hd5.mono m, hn3.2, hz4.2⟩ hcu5 (by omega) (fun k h1 _ e => by omega)
  have HB5w : Hid (Below q w u5) := O5.out.B
  unfold putG at hu5
  rw [← hu5]
  clear hu5 hcu5 p0 p1 p3 p4 c0 c7 c8 c9 c10 c11 c12 kf HB3 HB4 HB5 HBB4 HBB5 HO3 HO4 HG5 HD2 KF O2
  have x6 : u5.cell? ⟨q, 6, none⟩ = some (.slice sS n ssc) := by rw [HN.out]; exact (O5.out.Q.cell 6).trans rfl
  obtain ⟨B, hB⟩ : ∃ B, B = u5.heap.size := ⟨_, rfl⟩
  have HBE := Lib.hid hB
  go_upto_region 3 with (first
    | (go_at_call 194; refine (cloneDt_any (B := q + 2) sS n ssc (tagD 0 f.set) u5 (by rw [tagD_0, HN.out]; exact els_dt (HIN.out u5 HB5w.out).l) (fun b hb => by have h1 := HS.out b hb; have h2 := O5.out.z; omega) (fun b hb => by have h1 := HS.out b hb; have h2 := O5.out.z; omega) hn1).mono ?_; rintro e w6 ⟨v6, rfl, ho6, hb6⟩; rw [← HBE.out] at ho6 hb6; have HO6 := Lib.hid ho6; have hlt6 := HO6.out.lt; obtain ⟨A6, c6, hv6, _, hc6a, hc6b⟩ := OwnE.form ho6; rw [tagD_len, ← HN.out] at hv6 hc6a; subst hv6; have HC6 : Hid (n ≤ c6 ∧ c6 ≤ maxLen) := ⟨hc6a, hc6b⟩; have HB6 := Lib.hid hb6; have y6 : w6.cell? ⟨q, 6, none⟩ = some (.slice sS n ssc) := below_cell (by rw [HBE.out] at hb6; exact hb6) x6; have kf6 := (O5.out.below (by rw [HBE.out] at hb6; exact hb6)).Q.free; have HLT6 := Lib.hid hlt6; clear ho6 hb6 hlt6 hc6a hc6b)
    | fail)
  obtain ⟨u6, hu6⟩ : ∃ u, u = w6.setCell ⟨q, 6, none⟩ (.slice A6 n c6) := ⟨_, rfl⟩
  have hcu6 : Chg (fun k => k = q) w6 u6 := by rw [hu6]; exact chg_g1 _ _ _ _
  have hqB : q + 2 ≤ B := by rw [hB]; exact O5.out.z
  have hbl6 : Below B u5 w6 := HB6.out
  have hO5w : OwF w w6 q ⟨A3, c3, sS, ssc, A4, c4, t5⟩ f := O5.out.below (by rw [← hB]; exact hbl6)
  have O6 : Hid (OwF w u6 q ⟨A3, c3, A6, c6, A4, c4, t5⟩ f) := by
    show OwF _ _ _ _ _
    rw [hu6]
    refine hO5w.put 6 _ _ ?_
    rw [HN.out]
    rfl
  have G6 : Hid (OwG q B u6 ⟨A3, c3, A6, c6, A4, c4, t5⟩ f) := by
    have g5 := G5.out
    rw [← hB] at g5
    have g := g5.lsC (F := fun _ => False) (Chg.of_below (by rw [← hB]; exact hbl6)) (by rw [hB]; exact Nat.le_refl _) (fun _ _ _ h => h)
    have g2 := g.lsC hcu6 (by rw [hB]; rw [hB] at hbl6; exact hbl6.size) (fun k h1 _ e => by omega)
    exact ⟨g2.n, g2.z, g2.d, g2.cn, g2.cz⟩
  have R6 : Hid (∃ S', OwnE (encDt (q + 2)) 46 S' u6 B (.slice A6 n c6) (tagD 0 f.set)) := by
    refine ⟨S, HO6.out.chg hcu6 (fun k hk e => by have h1 := (HLT6.out k hk).1; omega) (fun b hb e => by have h1 := HS.out b hb; omega)⟩
  have HSZ6 : Hid (B ≤ u6.heap.size) := Nat.le_trans (by rw [hB]; exact hbl6.size) hcu6.size
  have HQB := Lib.hid hqB
  have HBG : Hid (∀ g, A6 = some ⟨g, 0, none⟩ → B ≤ g) := fun g e => (HLT6.out g (by rw [e]; rfl)).1
  rw [← hu6]
  clear hu6 hcu6 hqB hbl6 hO5w hB HBE HO6 HLT6 HB6 x6 y6 kf6 O5 G5 HB5w
  have x6 : u6.cell? ⟨q, 6, none⟩ = some (.slice A6 n c6) := by
    have h : u6.cell? ⟨q, 6, none⟩ = some (.slice A6 f.set.length c6) := (O6.out.Q.cell 6).trans rfl
    rw [← HN.out] at h
    exact h
  have HX6 := Lib.hid x6
  obtain ⟨BB, hBB⟩ : ∃ BB, BB = u6.heap.size := ⟨_, rfl⟩
  have HBB := Lib.hid hBB
  clear hBB
  go_wp2
  go_loopw [23] (fun iv wr => ∃ k : Nat, iv = .int .i64 (k : Int) ∧ k ≤ n ∧ Hid (∃ S', OwnE (encDt (q + 2)) 46 S' wr B (.slice A6 n c6) (tagD k f.set)) ∧ Hid (Chg (fun b => B ≤ b) u6 wr)) (fun iv _ => n - (intOf iv).toNat)
  case atStart => exact ⟨0, rfl, Nat.zero_le _, R6.out, Chg.refl _ _⟩
  case round =>
    clear x6
    obtain ⟨k, rfl, hk, HROW, HCH⟩ := hrel
    have hOr : OwF w wr q ⟨A3, c3, A6, c6, A4, c4, t5⟩ f := by
      have hqB := HQB.out
      have o := O6.out
      exact ⟨HCH.out.heap o.Q (by omega), HCH.out.heap o.P (by omega), o.B.trans (HCH.out.below (fun x hx => by omega) (by have := o.z; omega)), Nat.le_trans o.z HCH.out.size, o.e⟩
    have HOR := Lib.hid hOr
    have x6 : wr.cell? ⟨q, 6, none⟩ = some (.slice A6 n c6) := HCH.out.cell HX6.out (by have := HQB.out; show ¬ B ≤ q; omega)
    clear hOr
    by_cases hlt : k < n
    · obtain ⟨d, hd⟩ : ∃ d, f.set[k]? = some d := ⟨_, List.getElem?_eq_getElem (by rw [← HN.out]; exact hlt)⟩
      have HD := Lib.hid hd
      have hLd := HL.out.s d (List.mem_of_getElem? hd)
      have HLD := Lib.hid hLd
      obtain ⟨SR, hrow⟩ := HROW.out
      have HSL := Lib.hid hrow.S_lt
      have HRW := Lib.hid hrow
      obtain ⟨g, cg, hvg, hgB, hgl, -, -, hSg, hat⟩ := OwnE.flat hrow (by rw [tagD_len, ← HN.out]; omega)
      injection hvg with e1 e2 e3
      subst e1
      clear e2 e3
      obtain ⟨r, ⟨sx, rfl, hdin⟩, hcell⟩ := hat k (false, d) (tagD_at hd)
      have hdi : DIn SR wr sx d := hdin.mono (fun b hb => hb.1)
      have HDI := Lib.hid hdi
      have d0 : wr.cell? ⟨g, k * 5, none⟩ = some (.slice sx.A0 d.bytes.length sx.c0) := hcell 0 _ rfl
      have d1 : wr.cell? ⟨g, k * 5 + 1, none⟩ = some (.slice sx.A1 d.host.length sx.c1) := hcell 1 _ rfl
      have d2 : wr.cell? ⟨g, k * 5 + 2, none⟩ = some (.slice sx.A2 d.mail.length sx.c2) := hcell 2 _ rfl
      have d3 : wr.cell? ⟨g, k * 5 + 3, none⟩ = some (.slice sx.A3 d.nums.length sx.c3) := hcell 3 _ rfl
      have d4 : wr.cell? ⟨g, k * 5 + 4, none⟩ = some (.slice sx.A4 d.texts.length sx.c4) := hcell 4 _ rfl
      have dd0 : wr.drew.cell? ⟨g, k * 5, none⟩ = some (.slice sx.A0 d.bytes.length sx.c0) := d0
      have dd1 : wr.drew.cell? ⟨g, k * 5 + 1, none⟩ = some (.slice sx.A1 d.host.length sx.c1) := d1
      have dd2 : wr.drew.cell? ⟨g, k * 5 + 2, none⟩ = some (.slice sx.A2 d.mail.length sx.c2) := d2
      have dd3 : wr.drew.cell? ⟨g, k * 5 + 3, none⟩ = some (.slice sx.A3 d.nums.length sx.c3) := d3
      have dd4 : wr.drew.cell? ⟨g, k * 5 + 4, none⟩ = some (.slice sx.A4 d.texts.length sx.c4) := d4
      have x6d : wr.drew.cell? ⟨q, 6, none⟩ = some (.slice (some ⟨g, 0, none⟩) n c6) := x6
      have hk0 : (0 : Int) ≤ (k : Int) := by omega
      have hkn : (k : Int) < (n : Int) := by omega
      have HGQ : Hid (q + 2 ≤ g) := Nat.le_trans HQB.out hgB
      have HGB : Hid (B ≤ g) := hgB
      go_upto_region 6 with (fail)
      refine wp_region_any (by kernel_rfl) ?_
      change wpAny _ _ _ _ _ _ _ (World.drew wr)
      refine wpAny_of_P (S := fun w' => w'.cell? ⟨q, 6, none⟩ = some (.slice (some ⟨g, 0, none⟩) n c6)) (dem := fun _ => true) _ _ _ _ ?_
      refine wpAnyP_take (i := 0) (v := .pointer (some ⟨q, 6, none⟩)) rfl (by kernel_rfl) (by kernel_rfl) (by kernel_rfl) (by kernel_rfl) (by kernel_rfl) (fun _ _ _ h => h) (Or.inl ⟨by rfl, by (intro W hW; go_simp)⟩) x6d ?_
      refine wpAnyP_take (i := 1) (v := .slice (some ⟨g, 0, none⟩) n c6) rfl (by kernel_rfl) (by kernel_rfl) (by kernel_rfl) (by kernel_rfl) (by kernel_rfl) (fun _ _ _ h => h) (Or.inl ⟨by rfl, by (intro W hW; go_simp)⟩) x6d ?_
      refine wpAnyP_take (i := 2) (v := .int .i64 (k : Int)) rfl (by kernel_rfl) (by kernel_rfl) (by kernel_rfl) (by kernel_rfl) (by kernel_rfl) (fun _ _ _ h => h) (Or.inl ⟨by rfl, by (intro W hW; go_simp)⟩) x6d ?_
      refine wpAnyP_take (i := 3) (v := .pointer (some ⟨q, 6, none⟩)) rfl (by kernel_rfl) (by kernel_rfl) (by kernel_rfl) (by kernel_rfl) (by kernel_rfl) (fun _ _ _ h => h) (Or.inl ⟨by rfl, by (intro W hW; go_simp)⟩) x6d ?_
      refine wpAnyP_take (i := 4) (v := .slice (some ⟨g, 0, none⟩) n c6) rfl (by kernel_rfl) (by kernel_rfl) (by kernel_rfl) (by kernel_rfl) (by kernel_rfl) (fun _ _ _ h => h) (Or.inl ⟨by rfl, by (intro W hW; go_simp)⟩) x6d ?_
      refine wpAnyP_take (i := 5) (v := .int .i64 (k : Int)) rfl (by kernel_rfl) (by kernel_rfl) (by kernel_rfl) (by kernel_rfl) (by kernel_rfl) (fun _ _ _ h => h) (Or.inl ⟨by rfl, by (intro W hW; go_simp)⟩) x6d ?_
      refine wpAnyP_take (i := 6) (v := .pointer (some ⟨g, k * 5, none⟩)) rfl (by kernel_rfl) (by kernel_rfl) (by kernel_rfl) (by kernel_rfl) (by kernel_rfl) (fun _ _ _ h => h) (Or.inl ⟨by rfl, by (intro W hW; go_simp)⟩) x6d ?_
      refine wpAnyP_one (i := 7) rfl (by kernel_rfl) fun K hK => ?_
      go_simp
      refine hK _ _ (fun _ => x6d) ?_
      clear hK
      refine wpAnyP_one (i := 8) rfl (by kernel_rfl) fun K hK => ?_
      go_simp
      refine (pown_got sx d wr.drew (HDI.out.below bl.drew (fun b hb => (HSL.out b hb).1)) (fun b hb => (HSL.out b hb).1) HLD.out).mono ?_
      rintro e w7 ⟨v7, rfl, ⟨t7, rfl, hg7⟩, hb7'⟩
      unfold dsV
      have hb7 : Below wr.heap.size wr w7 := bl.drew.trans hb7'
      have x67 : w7.cell? ⟨q, 6, none⟩ = some (.slice (some ⟨g, 0, none⟩) n c6) := below_cell hb7 x6
      refine hK _ _ (fun _ => x67) ?_
      clear hK
      have hrow7 : OwnE (encDt (q + 2)) 46 (fun b => b < w7.heap.size ∧ b ≠ g) w7 B (.slice (some ⟨g, 0, none⟩) n c6) (tagD k f.set) := (HRW.out.below hb7).widen (fun b hb => ⟨Nat.lt_of_lt_of_le (HSL.out b hb).1 hb7.size, fun e => (HSL.out b hb).2 (by rw [e]; rfl)⟩) (fun b hb => ⟨hb.1, fun e => hb.2 (by injection e)⟩)
      have HR7 := Lib.hid hrow7
      have hgw : g < wr.heap.size := hgl
      have HD7 : Hid (DIn (fun b => (b < w7.heap.size ∧ b ≠ g) ∧ q + 2 ≤ b ∧ Loose w7 b) w7 t7 d) := hg7.ls.mono (fun b hb => ⟨⟨hb.2.1, by have h1 := hb.1; have h2 : wr.drew.heap.size = wr.heap.size := rfl; omega⟩, by have h1 := hb.1; have h2 : wr.drew.heap.size = wr.heap.size := rfl; have h3 := HGQ.out; omega, hb.2.2⟩)
      have kg : ∀ j, w7.frozen? ⟨g, j, none⟩ = false := fun j => OwnE.free HR7.out j
      have e0 := below_cell hb7 d0
      have e1 := below_cell hb7 d1
      have e2 := below_cell hb7 d2
      have e3 := below_cell hb7 d3
      have e4 := below_cell hb7 d4
      have HB7 := Lib.hid hb7
      have hne : ∀ j : Nat, (⟨g, j, none⟩ : Addr) ≠ ⟨q, 6, none⟩ := fun j e => by injection e with e; have h3 := HGQ.out; omega
      clear hg7 hb7 hb7' hrow7 d0 d1 d2 d3 d4 dd0 dd1 dd2 dd3 dd4 x6 x6d hcell hSg
      refine wpAnyP_one (i := 9) rfl (by kernel_rfl) fun K hK => ?_
      go_simp
      refine hK _ _ (fun _ => x67) ?_
      clear hK
      refine wpAnyP_one (i := 10) rfl (by kernel_rfl) fun K hK => ?_
      go_simp
      refine hK _ _ (fun h => absurd h (by rw [show needS _ _ _ = false from by kernel_rfl]; decide)) ?_
      clear hK
      refine wpAnyP_done (by kernel_rfl) ?_ _
      obtain ⟨w8, hw8⟩ : ∃ u, u = put5at w7 g (k * 5) (.slice t7.A0 d.bytes.length t7.c0) (.slice t7.A1 d.host.length t7.c1) (.slice t7.A2 d.mail.length t7.c2) (.slice t7.A3 d.nums.length t7.c3) (.slice t7.A4 d.texts.length t7.c4) := ⟨_, rfl⟩
      have HR8 : Hid (OwnE (encDt (q + 2)) 46 (fun b => b < w7.heap.size ∧ b ≠ g) w8 B (.slice (some ⟨g, 0, none⟩) n c6) (tagD (k + 1) f.set)) := own_place HR7.out HD.out HD7.out hw8
      have HC8 : Hid (Chg (fun b => B ≤ b) u6 w8) := by
        show Chg _ _ _
        rw [hw8]
        exact (HCH.out.nx HB7.out).trans (chg5at _ _ _ _ _ _ _ _) (fun z hz => .inl (by have h1 := HGB.out; omega))
      unfold put5at at hw8
      rw [← hw8]
      clear hw8 e0 e1 e2 e3 e4 kg x67 HR7 HD7 HB7 hne HDI HRW HSL
      go_wp2
      go_roundw
      case rel => exact ⟨k + 1, by go_num, by omega, ⟨_, HR8.out⟩, HC8.out⟩
      case measure => simp [intOf]; omega
    · have hke : k = n := by omega
      subst hke
      obtain ⟨SR, hrow⟩ := HROW.out
      rw [HN.out, tagD_n] at hrow
      have HDT := Lib.hid (own_dt (B := q + 2) HQB.out hrow)
      have HGR := Lib.hid (G6.out.lsC HCH.out HSZ6.out (fun b h1 h2 e => by omega))
      clear x6 hrow
      go_wp2_with (first
        | ((with_reducible show wpList _ _ _ (⟨some 37, _, _, _, _, _⟩ :: _) _ _); refine wpL_loadR rowFa rfl (.tmp 1) rfl q rfl (faCells ⟨A3, c3, A6, c6, A4, c4, t5⟩ f) HOR.out.Q rfl ?_)
        | ((with_reducible show wpList _ _ _ (⟨none, _, _, _, _, _⟩ :: _) _ _); refine wpL_storeR rowFa rfl (.tmp 2) (.tmp 37) rfl (q + 1) rfl (faCells ⟨A3, c3, A6, c6, A4, c4, t5⟩ f) rfl (faCells FS.nil Fa.zero) HOR.out.P rfl rfl (fa_one _ _) ?_; intro w9 hr9 hc9)
        | fail)
      have hR9 : FaRow w9 (q + 1) ⟨A3, c3, A6, c6, A4, c4, t5⟩ f := hr9
      obtain ⟨x0, x1, x2, x3, x4, x5, x6, x7, x8, x9, x10, x11, x12⟩ := hR9.cells
      have hbA : Below q w w9 := HOR.out.B.trans (hc9.below (fun x hx => by omega) (by have := HOR.out.z; omega))
      have hqB := HQB.out
      have hBs : B ≤ wr.heap.size := Nat.le_trans HSZ6.out HCH.out.size
      have g9 := HGR.out.lsC hc9 hBs (fun b h1 h2 e => by omega)
      have l9 := HDT.out.1.lsC hc9 (fun b h1 h2 e => by omega)
      have m1 : ∀ b, btL (q + 2) B w9 b → lsS q w9 b := fun b hb => ⟨by have := hb.1; omega, Nat.lt_of_lt_of_le hb.2.1 (Nat.le_trans hBs hc9.size), hb.2.2⟩
      have m2 : ∀ b, lsS (q + 2) w9 b → lsS q w9 b := fun b hb => hb.le (by omega)
      have hI9 : FaIn (lsS q w9) w9 ⟨A3, c3, A6, c6, A4, c4, t5⟩ f := by
        have hl : f.set.length ≤ c6 ∧ c6 ≤ maxLen := by rw [← HN.out]; exact HC6.out
        have le : Els encDa (lsS (q + 2) w9) (lsS (q + 2) w9) w9 A6 f.set.length f.set := l9
        exact ⟨g9.n.mono m1 m1, le.mono m2 m2, g9.z.mono m1 m1, g9.d.mono m1, g9.cn, hl, g9.cz, HII.out.1, HII.out.2.1, HII.out.2.2.1, HII.out.2.2.2.1, HII.out.2.2.2.2⟩
      refine bodyPost_ret (v := faV ⟨A3, c3, A6, c6, A4, c4, t5⟩ f) ?_ rfl ⟨_, rfl, ⟨_, rfl, by rw [← HQ.out]; exact hI9⟩, by rw [← HQ.out]; exact hbA⟩
      simp [results, Try.results175, go_sem, faV, faCells, x0, x1, x2, x3, x4, x5, x6, x7, x8, x9, x10, x11, x12]
end Go.Proofs.Ytimkdpkhdbiniaa
