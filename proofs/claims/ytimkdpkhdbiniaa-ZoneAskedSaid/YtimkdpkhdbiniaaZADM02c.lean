/- Parts of a proof, joined: RegInv, RegVal. -/
import Derived.StillTail
import Derived.Test.YtimkdpkhdbiniaaZADM01
/- A region that draws its order, by what each operation leaves: whichever order, at the end each has left it. No program in it. -/
namespace Go.Proofs.Ytimkdpkhdbiniaa
open Go.RowKit

section
variable {P : Program} {ops : Array Oper} {Q : Exit → Act → World → Prop} {md : Region.Mode} {n : Nat}

/-- Each operation waits only for such as stand ahead of it in the text. -/
def backB (md : Region.Mode) (ops : Array Oper) : Bool := (List.range ops.size).all fun j => match ops[j]? with
  | some o => o.after.all fun e => !Region.binds md e || decide (e.on < j)
  | none => true
theorem backB_spec (h : backB md ops = true) {j : Nat} {o : Oper} (ho : ops[j]? = some o) : ∀ e ∈ o.after, Region.binds md e = true → e.on < j := by
  intro e he hb
  have hj : j < ops.size := (Array.getElem?_eq_some_iff.1 ho).1
  have h1 := List.all_eq_true.1 h j (List.mem_range.2 hj)
  simp only [ho] at h1
  have h2 := Array.all_eq_true_iff_forall_mem.1 h1 e he
  simp only [hb, Bool.not_true, Bool.false_or, decide_eq_true_eq] at h2
  exact h2

/-- How many have not come up. -/
def unl (N : Nat) (listed : Array Bool) : Nat := ((List.range N).filter fun j => !listed.getD j false).length
theorem filter_le (p q : Nat → Bool) (h : ∀ j, q j = true → p j = true) (N : Nat) : ((List.range N).filter q).length ≤ ((List.range N).filter p).length := by
  induction N with
  | zero => simp
  | succ N ih =>
    rw [List.range_succ, List.filter_append, List.filter_append, List.length_append, List.length_append]
    cases hq : q N <;> cases hp : p N <;> simp [List.filter, hq, hp]
    · omega
    · omega
    · rw [h N hq] at hp; cases hp
    · omega
theorem filter_lt (p q : Nat → Bool) (h : ∀ j, q j = true → p j = true) {i : Nat} (hp : p i = true) (hq : q i = false) : ∀ N, i < N → ((List.range N).filter q).length < ((List.range N).filter p).length := by
  intro N
  induction N with
  | zero => omega
  | succ N ih =>
    intro hi
    rw [List.range_succ, List.filter_append, List.filter_append, List.length_append, List.length_append]
    by_cases e : i = N
    · subst e
      have := filter_le p q h i
      simp [List.filter, hq, hp]
      omega
    · have h1 := ih (by omega)
      cases hq2 : q N <;> cases hp2 : p N <;> simp [List.filter, hq2, hp2]
      · omega
      · omega
      · rw [h N hq2] at hp2; cases hp2
      · omega
theorem unl_set {N i : Nat} {listed : Array Bool} (hi : i < N) (hs : listed.size = N) (hu : listed.getD i false = false) : unl N (listed.setIfInBounds i true) < unl N listed := by
  refine filter_lt _ _ (fun j hj => ?_) (i := i) (by simp only [hu, Bool.not_false]) ?_ N hi
  · by_cases e : i = j
    · subst e; simp only [hu, Bool.not_false]
    · rw [getD_set_ne false e] at hj; exact hj
  · have : (listed.setIfInBounds i true).getD i false = true := by simp [hs, hi]
    rw [this]; rfl
theorem unl_pos {N i : Nat} {listed : Array Bool} (hi : i < N) (hu : listed.getD i false = false) : 0 < unl N listed := by
  unfold unl
  rw [List.length_pos_iff]
  intro h
  have : i ∈ (List.range N).filter fun j => !listed.getD j false := List.mem_filter.2 ⟨List.mem_range.2 hi, by simp only [hu, Bool.not_false]⟩
  rw [h] at this
  cases this

/-- While one has not come up, one may. -/
theorem ready_ne (hb : backB md ops = true) {listed : Array Bool} (hs : listed.size = ops.size) : ∀ (i : Nat), i < ops.size → listed.getD i false = false → Region.ready md ops listed ≠ [] := by
  intro i
  induction i using Nat.strongRecOn with
  | _ i ih =>
    intro hi hu hr
    obtain ⟨o, ho⟩ : ∃ o, ops[i]? = some o := ⟨_, Array.getElem?_eq_getElem hi⟩
    by_cases hall : ∀ e ∈ o.after, Region.binds md e = true → listed.getD e.on false = true
    · have : i ∈ Region.ready md ops listed := mem_ready.2 ⟨getD_in (by omega) hu, o, ho, hall⟩
      rw [hr] at this
      cases this
    · simp only [Classical.not_forall] at hall
      obtain ⟨e, he, hbd, hno⟩ := hall
      have hlt := backB_spec hb ho e he hbd
      exact ih e.on hlt (by omega) (by simpa using hno) hr

/-- The frame but for what the operations leave. -/
structure Same (d : Nat → Tmp) (n : Nat) (a0 a : Act) : Prop where
  defers : a.defers = a0.defers
  size : a.tmps.size = a0.tmps.size
  other : ∀ t, (∀ j, j < n → d j ≠ t) → a.tmps[t]? = a0.tmps[t]?
theorem Same.put {d : Nat → Tmp} {n i : Nat} {a0 a : Act} (h : Same d n a0 a) (hi : i < n) (v : Value) : Same d n a0 (a.put (some (d i)) v) :=
  ⟨h.defers, by simp [Act.put, h.size], fun t ht => by
    show (a.tmps.setIfInBounds (d i) v)[t]? = _
    rw [Array.getElem?_setIfInBounds_ne (ht i hi)]
    exact h.other t ht⟩

theorem wpAny_inv {w0 : World} {a0 : Act} (hs : Region.sinkB md ops n = true) (hc : Region.chainB md ops n = true) (hn : n + 1 = ops.size) (hb : backB md ops = true)
    (d : Nat → Tmp) (hd : ∀ i, i < n → d i < a0.tmps.size) (hinj : ∀ i j, i < n → j < n → d i = d j → i = j)
    (Ψ : Nat → Value → World → Prop) (D : Nat → Nat → Value → Value → Prop) (hstab : ∀ j v w w', w0.heap.size ≤ w.heap.size → Below w.heap.size w w' → Ψ j v w → Ψ j v w')
    (hstep : ∀ i, i < n → ∀ a w, Below w0.heap.size w0 w → Same d n a0 a → (∀ j, Region.waitsFor md ops i j = true → ∃ v, a.tmps[d j]? = some v ∧ Ψ j v w) →
      (∀ i1 j1 v u, Region.waitsFor md ops i i1 = true → Region.waitsFor md ops i j1 = true → i1 ≠ j1 → a.tmps[d i1]? = some v → a.tmps[d j1]? = some u → D i1 j1 v u ∨ D j1 i1 u v) → wpOp P ops Q i (fun a' w' => ∃ v, a' = a.put (some (d i)) v ∧ Below w.heap.size w w' ∧ Ψ i v w' ∧ ∀ j u, j < n → Ψ j u w → D i j v u) a w)
    (hlast : ∀ a w, Below w0.heap.size w0 w → Same d n a0 a → (∀ j, j < n → ∃ v, a.tmps[d j]? = some v ∧ Ψ j v w) → (∀ i j v u, i < n → j < n → i ≠ j → a.tmps[d i]? = some v → a.tmps[d j]? = some u → D i j v u ∨ D j i u v) → wpOp P ops Q n (fun a' w' => Q .normal a' w') a w) :
    ∀ fuel listed a w, HeadInv md ops n listed → unl ops.size listed ≤ fuel → Below w0.heap.size w0 w → Same d n a0 a → (∀ j, j < n → listed.getD j false = true → ∃ v, a.tmps[d j]? = some v ∧ Ψ j v w) →
      (∀ i j v u, i < n → j < n → i ≠ j → listed.getD i false = true → listed.getD j false = true → a.tmps[d i]? = some v → a.tmps[d j]? = some u → D i j v u ∨ D j i u v) → wpAny P md ops Q fuel listed a w := by
  intro fuel
  induction fuel with
  | zero =>
    intro listed a w inv hf _ _ _ _
    have := unl_pos (N := ops.size) (i := n) (by omega) (getD_both (inv.tail n (Nat.le_refl _) (by omega)))
    omega
  | succ fuel ih =>
    intro listed a w inv hf hbw hsm hΨ hD
    refine ⟨fun h0 => absurd h0 (ready_ne hb inv.size n (by omega) (getD_both (inv.tail n (Nat.le_refl _) (by omega)))), fun i hi => ?_⟩
    obtain ⟨hun, oi, hoi, hall⟩ := mem_ready.1 hi
    have hilt : i < ops.size := (Array.getElem?_eq_some_iff.1 hoi).1
    have hback := backB_spec hb hoi
    have hwait : ∀ j, Region.waitsFor md ops i j = true → listed.getD j false = true ∧ j < i := fun j hj => by
      obtain ⟨o', ho', e, he, hbd, hon⟩ := Region.waitsFor_spec hj
      have : o' = oi := Option.some.inj (ho'.symm.trans hoi)
      subst this
      have h1 := hall e he hbd
      have h2 := hback e he hbd
      subst hon
      exact ⟨h1, h2⟩
    by_cases hin : i < n
    · refine wpOp_mono ?_ (hstep i hin a w hbw hsm (fun j hj => hΨ j (by have := (hwait j hj).2; omega) (hwait j hj).1) (fun i1 j1 v1 u1 h1 h2 hne hv1 hu1 => hD i1 j1 v1 u1 (by have := (hwait i1 h1).2; omega) (by have := (hwait j1 h2).2; omega) hne (hwait i1 h1).1 (hwait j1 h2).1 hv1 hu1))
      rintro a' w' ⟨v, rfl, hbb, hv, hDv⟩
      ·
        have hub := unl_set (N := ops.size) hilt inv.size (getD_both hun)
        refine ih (listed.setIfInBounds i true) _ w' (inv.set hi hin) (by omega) (hbw.trans (hbb.mono hbw.size)) (hsm.put hin v) (fun j hj hl => ?_) (fun i1 j1 v1 u1 hi1 hj1 hne hl1 hl2 hv1 hu1 => ?_)
        rotate_left
        · have hself : (a.put (some (d i)) v).tmps[d i]? = some v := by
            show (a.tmps.setIfInBounds (d i) v)[d i]? = some v
            rw [Array.getElem?_setIfInBounds_self_of_lt (by rw [hsm.size]; exact hd i hin)]
          have hoth : ∀ j, j < n → i ≠ j → (a.put (some (d i)) v).tmps[d j]? = a.tmps[d j]? := fun j hj e => by
            show (a.tmps.setIfInBounds (d i) v)[d j]? = _
            rw [Array.getElem?_setIfInBounds_ne (fun e2 => e (hinj i j hin hj e2))]
          by_cases e1 : i = i1
          · subst e1
            rw [hself] at hv1
            injection hv1 with hv1
            subst hv1
            rw [hoth j1 hj1 hne] at hu1
            rw [getD_set_ne false hne] at hl2
            obtain ⟨u', hu', hp'⟩ := hΨ j1 hj1 hl2
            rw [hu1] at hu'
            injection hu' with hu'
            subst hu'
            exact .inl (hDv j1 u1 hj1 hp')
          · rw [hoth i1 hi1 e1] at hv1
            rw [getD_set_ne false e1] at hl1
            by_cases e2 : i = j1
            · subst e2
              rw [hself] at hu1
              injection hu1 with hu1
              subst hu1
              obtain ⟨u', hu', hp'⟩ := hΨ i1 hi1 hl1
              rw [hv1] at hu'
              injection hu' with hu'
              subst hu'
              exact .inr (hDv i1 v1 hi1 hp')
            · rw [hoth j1 hj1 e2] at hu1
              rw [getD_set_ne false e2] at hl2
              exact hD i1 j1 v1 u1 hi1 hj1 hne hl1 hl2 hv1 hu1
        by_cases e : i = j
        · subst e
          exact ⟨v, by
            show (a.tmps.setIfInBounds (d i) v)[d i]? = some v
            rw [Array.getElem?_setIfInBounds_self_of_lt (by rw [hsm.size]; exact hd i hin)], hv⟩
        · rw [getD_set_ne false e] at hl
          obtain ⟨u, hu, hp⟩ := hΨ j hj hl
          exact ⟨u, by
            show (a.tmps.setIfInBounds (d i) v)[d j]? = some u
            rw [Array.getElem?_setIfInBounds_ne (fun e2 => e (hinj i j hin hj e2))]
            exact hu, hstab j u w w' hbw.size hbb hp⟩
    · obtain rfl : i = n := by omega
      have hdone : ∀ j, j < i → listed.getD j false = true := fun j hj => by
        cases h : listed.getD j false with
        | true => rfl
        | false => exact absurd hi (tail_waits hs hc (by omega) inv (i - j) j rfl hj (getD_in (by rw [inv.size]; omega) h) i (Nat.le_refl _))
      refine wpOp_mono ?_ (hlast a w hbw hsm (fun j hj => hΨ j hj (hdone j hj)) (fun i1 j1 v1 u1 hi1 hj1 hne hv1 hu1 => hD i1 j1 v1 u1 hi1 hj1 hne (hdone i1 hi1) (hdone j1 hj1) hv1 hu1))
      intro a' w' hq
      refine wpAny_done ?_ hq fuel
      refine List.eq_nil_iff_forall_not_mem.2 fun j hj => ?_
      obtain ⟨h0, o, ho, _⟩ := mem_ready.1 hj
      have hjl : j < ops.size := (Array.getElem?_eq_some_iff.1 ho).1
      by_cases e : i = j
      · subst e
        simp [inv.size, hjl] at h0
      · rw [getD_set_ne true e] at h0
        have := hdone j (by omega)
        rw [getD_both h0] at this
        cases this

/-- The region as a whole. -/
theorem wp_region_inv {id : Nat} {w0 : World} {a0 : Act} (hm : P.follows .mixedOrders = true) (hs : Region.sinkB .any ops n = true) (hc : Region.chainB .any ops n = true) (hn : n + 1 = ops.size) (hb : backB .any ops = true)
    (d : Nat → Tmp) (hd : ∀ i, i < n → d i < a0.tmps.size) (hinj : ∀ i j, i < n → j < n → d i = d j → i = j)
    (Ψ : Nat → Value → World → Prop) (D : Nat → Nat → Value → Value → Prop) (hstab : ∀ j v w w', w0.heap.size ≤ w.heap.size → Below w.heap.size w w' → Ψ j v w → Ψ j v w')
    (hstep : ∀ i, i < n → ∀ a w, Below w0.heap.size w0 w → Same d n a0 a → (∀ j, Region.waitsFor .any ops i j = true → ∃ v, a.tmps[d j]? = some v ∧ Ψ j v w) →
      (∀ i1 j1 v u, Region.waitsFor .any ops i i1 = true → Region.waitsFor .any ops i j1 = true → i1 ≠ j1 → a.tmps[d i1]? = some v → a.tmps[d j1]? = some u → D i1 j1 v u ∨ D j1 i1 u v) → wpOp P ops Q i (fun a' w' => ∃ v, a' = a.put (some (d i)) v ∧ Below w.heap.size w w' ∧ Ψ i v w' ∧ ∀ j u, j < n → Ψ j u w → D i j v u) a w)
    (hlast : ∀ a w, Below w0.heap.size w0 w → Same d n a0 a → (∀ j, j < n → ∃ v, a.tmps[d j]? = some v ∧ Ψ j v w) → (∀ i j v u, i < n → j < n → i ≠ j → a.tmps[d i]? = some v → a.tmps[d j]? = some u → D i j v u ∨ D j i u v) → wpOp P ops Q n (fun a' w' => Q .normal a' w') a w) :
    (Code.region id ops true).wp P Q a0 w0 := by
  refine wp_region_any hm ?_
  refine wpAny_inv hs hc hn hb d hd hinj Ψ D hstab hstep hlast ops.size _ a0 w0.drew ⟨by simp, fun j oj hj hl => ?_, fun t ht ht' => by simp [ht']⟩ ?_ bl.drew ⟨rfl, rfl, fun _ _ => rfl⟩ (fun j hj hl => ?_) (fun i j v u hi hj hne hl => ?_)
  · rw [getD_replicate_false] at hl; cases hl
  · have := List.length_filter_le (fun j => !(Array.replicate ops.size false).getD j false) (List.range ops.size)
    rw [List.length_range] at this
    exact this
  · rw [getD_replicate_false] at hl; cases hl
  · rw [getD_replicate_false] at hl; cases hl

theorem wpOp_plain {i : Nat} {o : Oper} {K : Act → World → Prop} {a : Act} {w : World} (hi : ops[i]? = some o) (hg : o.guard = none) (h : o.wp P a w K Q) : wpOp P ops Q i K a w := by
  unfold wpOp
  rw [hi]
  show if Region.wanted o (yielded ops a.tmps) = true then _ else _
  rw [if_pos (by simp [Region.wanted, hg])]
  exact .inl h
end
end Go.Proofs.Ytimkdpkhdbiniaa

/- A region that draws its order and whose operations each leave one known value, whichever order: reads, moves, calls that only make memory. No program in it. -/
namespace Go.Proofs.Ytimkdpkhdbiniaa
open Go.RowKit

section
variable {P : Program} {ops : Array Oper} {Q : Exit → Act → World → Prop} {n : Nat}
theorem wp_val {o : Oper} {a : Act} {w : World} {v : Value} {K : Act → World → Prop} (h : (execOp a.eval o).run P w = .ok (.value v) w) (hk : K (a.put o.dst v) w) : o.wp P a w K Q := by
  unfold Oper.wp
  rw [h]
  exact hk
end
end Go.Proofs.Ytimkdpkhdbiniaa
