/- Parts of a proof, joined: RegPh. -/
import Derived.StillTail
import Derived.OrdersHeld
import Derived.RegionTactic
import Derived.Test.YtimkdpkhdbiniaaZADR0
/- A region that draws its order: loads of cells that only the last stores of the region write may be taken first. No program in it. -/
namespace Go.Proofs.Ytimkdpkhdbiniaa
open Go.RowKit

section
variable {P : Program} {ops : Array Oper} {Q : Exit → Act → World → Prop} {md : Region.Mode} {S : World → Prop} {dem : Nat → Bool}

/-- What has come up waited for nothing that has not. -/
structure Clo (md : Region.Mode) (ops : Array Oper) (listed : Array Bool) : Prop where
  size : listed.size = ops.size
  closed : ∀ j oj, ops[j]? = some oj → listed.getD j false = true → ∀ e ∈ oj.after, Region.binds md e = true → listed.getD e.on false = true
theorem Clo.waits {listed : Array Bool} (h : Clo md ops listed) {j i : Nat} (hw : Region.waitsFor md ops j i = true) (hj : listed.getD j false = true) : listed.getD i false = true := by
  obtain ⟨oj, hoj, e, he, hb, rfl⟩ := Region.waitsFor_spec hw
  exact h.closed j oj hoj hj e he hb
theorem ready_waits {listed : Array Bool} {j i : Nat} (hr : j ∈ Region.ready md ops listed) (hw : Region.waitsFor md ops j i = true) : listed.getD i false = true := by
  obtain ⟨_, oj, hoj, hall⟩ := mem_ready.1 hr
  obtain ⟨o', ho', e, he, hb, rfl⟩ := Region.waitsFor_spec hw
  have : o' = oj := Option.some.inj (ho'.symm.trans hoj)
  subst this
  exact hall e he hb
theorem Clo.set {listed : Array Bool} (h : Clo md ops listed) {i : Nat} (hi : i ∈ Region.ready md ops listed) : Clo md ops (listed.setIfInBounds i true) := by
  obtain ⟨_, oi, hoi, hall⟩ := mem_ready.1 hi
  refine ⟨by simp [h.size], fun j oj hj hl e he hb => ?_⟩
  by_cases hij : i = j
  · subst hij
    have : oj = oi := Option.some.inj (hj.symm.trans hoi)
    subst this
    exact getD_set_true (hall e he hb)
  · rw [getD_set_ne false hij] at hl
    exact getD_set_true (h.closed j oj hj hl e he hb)
/-- Closed, to be decided. -/
def cloB (md : Region.Mode) (ops : Array Oper) (listed : Array Bool) : Bool := decide (listed.size = ops.size) && (List.range ops.size).all fun j => !listed.getD j false || match ops[j]? with
  | some o => o.after.all fun e => !Region.binds md e || listed.getD e.on false
  | none => true
theorem cloB_spec {listed : Array Bool} (h : cloB md ops listed = true) : Clo md ops listed := by
  unfold cloB at h
  simp only [Bool.and_eq_true, decide_eq_true_eq] at h
  refine ⟨h.1, fun j oj hj hl e he hb => ?_⟩
  have h1 := List.all_eq_true.1 h.2 j (List.mem_range.2 (Array.getElem?_eq_some_iff.1 hj).1)
  rw [hl] at h1
  simp only [hj, Bool.not_true, Bool.false_or] at h1
  have h2 := Array.all_eq_true_iff_forall_mem.1 h1 e he
  rw [hb] at h2
  simpa using h2

/-- One of those for which S is wanted has not come up. -/
def needS (ops : Array Oper) (dem : Nat → Bool) (listed : Array Bool) : Bool := (List.range ops.size).any fun j => dem j && !listed.getD j false
theorem needS_at {listed : Array Bool} {j : Nat} (hj : j < ops.size) (hd : dem j = true) (hu : listed.getD j false = false) : needS ops dem listed = true :=
  List.any_eq_true.2 ⟨j, List.mem_range.2 hj, by simp only [hd, hu, Bool.not_false, Bool.and_self]⟩
theorem needS_set {listed : Array Bool} {i : Nat} (hi : dem i = false) (h : needS ops dem listed = true) : needS ops dem (listed.setIfInBounds i true) = true := by
  obtain ⟨j, hj, h1⟩ := List.any_eq_true.1 h
  simp only [Bool.and_eq_true, Bool.not_eq_true'] at h1
  have hij : i ≠ j := fun e => by rw [e, h1.1] at hi; cases hi
  exact needS_at (List.mem_range.1 hj) h1.1 (by rw [getD_set_ne false hij]; exact h1.2)
/-- One of those waits for it. -/
def usedB (md : Region.Mode) (ops : Array Oper) (dem : Nat → Bool) (i : Nat) : Bool := (List.range ops.size).any fun j => dem j && Region.waitsFor md ops j i

/-- Whichever order: S holds till all of those have come up. -/
def wpAnyP (P : Program) (md : Region.Mode) (ops : Array Oper) (Q : Exit → Act → World → Prop) (S : World → Prop) (dem : Nat → Bool) : Nat → Array Bool → Act → World → Prop
  | 0, listed, a, w => Region.ready md ops listed = [] ∧ Q .normal a w
  | fuel + 1, listed, a, w => (Region.ready md ops listed = [] → Q .normal a w) ∧
      ∀ i ∈ Region.ready md ops listed, wpOp P ops Q i (fun a' w' => (needS ops dem (listed.setIfInBounds i true) = true → S w') ∧ wpAnyP P md ops Q S dem fuel (listed.setIfInBounds i true) a' w') a w
theorem wpAny_of_P : ∀ (fuel : Nat) (listed : Array Bool) (a : Act) (w : World), wpAnyP P md ops Q S dem fuel listed a w → wpAny P md ops Q fuel listed a w
  | 0, _, _, _, h => h
  | fuel + 1, _, _, _, h => ⟨h.1, fun i hi => wpOp_mono (fun a' w' h' => wpAny_of_P fuel _ a' w' h'.2) (h.2 i hi)⟩

theorem wpAnyP_first {i : Nat} {oi : Oper} {v : Value} (hi : ops[i]? = some oi) (hsel : ∀ (j : Nat) (o : Oper) cs b, ops[j]? = some o → o.op ≠ .select cs b)
    (hQ : ∀ c a w, Q (.panic c) (a.put oi.dst v) w → Q (.panic c) a w) (hused : usedB md ops dem i = true) :
    ∀ (fuel : Nat) (listed : Array Bool) (a : Act) (w : World), Clo md ops listed →
      (∀ j oj, ops[j]? = some oj → j ≠ i → listed.getD j true = false → (∀ e ∈ oj.after, Region.binds md e = true → e.on ≠ i) → oi.apart ops oj = true) →
      i ∈ Region.ready md ops listed → YieldsIf P ops S oi v a → S w →
      wpAnyP P md ops Q S dem fuel (listed.setIfInBounds i true) (a.put oi.dst v) w → wpAnyP P md ops Q S dem (fuel + 1) listed a w := by
  intro fuel
  induction fuel with
  | zero =>
    intro listed a w hclo _ hr hy hS H
    refine ⟨fun h => (by rw [h] at hr; cases hr), fun j hj => ?_⟩
    by_cases hji : j = i
    · subst hji; exact hy.wpOp hi hS ⟨fun _ => hS, H⟩
    · have := ready_mono hj hji
      rw [H.1] at this
      cases this
  | succ fuel ih =>
    intro listed a w hclo hfree hr hy hS H
    have hun := getD_both (mem_ready.1 hr).1
    refine ⟨fun h => (by rw [h] at hr; cases hr), fun j hj => ?_⟩
    by_cases hji : j = i
    · subst hji; exact hy.wpOp hi hS ⟨fun _ => hS, H⟩
    obtain ⟨hjun0, oj, hoj, hall⟩ := mem_ready.1 hj
    have h1 := H.2 j (ready_mono hj hji)
    have hnot : ∀ e ∈ oj.after, Region.binds md e = true → e.on ≠ i := fun e he hb heq => by
      have h1 := hall e he hb
      rw [heq, hun] at h1
      cases h1
    have h2 := wpOp_putIf hoj (hfree j oj hoj hji hjun0 hnot) (fun cs b => hsel i oi cs b hi) (fun cs b => hsel j oj cs b hoj) hQ hy h1
    have hfree' : ∀ k ok, ops[k]? = some ok → k ≠ i → (listed.setIfInBounds j true).getD k true = false →
        (∀ e ∈ ok.after, Region.binds md e = true → e.on ≠ i) → oi.apart ops ok = true := fun k ok hk hki hun hno => by
      refine hfree k ok hk hki ?_ hno
      by_cases hjk : j = k
      · subst hjk; exact hjun0
      · rw [getD_set_ne true hjk] at hun; exact hun
    have hmore : needS ops dem ((listed.setIfInBounds i true).setIfInBounds j true) = true := by
      obtain ⟨k, hk, hk2⟩ := List.any_eq_true.1 hused
      simp only [Bool.and_eq_true] at hk2
      refine needS_at (j := k) (List.mem_range.1 hk) hk2.1 ?_
      have hku : listed.getD k false = false := by
        cases h : listed.getD k false with
        | false => rfl
        | true => have := hclo.waits hk2.2 h; rw [hun] at this; cases this
      have hkj : k ≠ j := fun e => by
        subst e
        have := ready_waits hj hk2.2
        rw [hun] at this
        cases this
      have hki : k ≠ i := fun e => by
        subst e
        have := ready_waits hr hk2.2
        rw [hun] at this
        cases this
      rw [getD_set_ne false (Ne.symm hkj), getD_set_ne false (Ne.symm hki)]
      exact hku
    refine wpOp_mono (fun a' w' h3 => ⟨fun _ => h3.2.1 hmore, ih (listed.setIfInBounds j true) a' w' (hclo.set hj) hfree' (ready_mono hr (Ne.symm hji)) h3.1 (h3.2.1 hmore) ?_⟩) h2
    rw [Array.setIfInBounds_comm _ _ hji]
    exact h3.2.2
theorem wpAnyP_pureF {i : Nat} {oi : Oper} {v : Value} (hi : ops[i]? = some oi) (hsel : ∀ (j : Nat) (o : Oper) cs b, ops[j]? = some o → o.op ≠ .select cs b)
    (hQ : ∀ c a w, Q (.panic c) (a.put oi.dst v) w → Q (.panic c) a w) (hdi : dem i = false) :
    ∀ (fuel : Nat) (listed : Array Bool) (a : Act) (w : World),
      (∀ j oj, ops[j]? = some oj → j ≠ i → listed.getD j true = false → (∀ e ∈ oj.after, Region.binds md e = true → e.on ≠ i) → oi.apart ops oj = true) →
      i ∈ Region.ready md ops listed → YieldsIf P ops (fun _ => True) oi v a → (needS ops dem listed = true → S w) →
      wpAnyP P md ops Q S dem fuel (listed.setIfInBounds i true) (a.put oi.dst v) w → wpAnyP P md ops Q S dem (fuel + 1) listed a w := by
  have hset : ∀ {listed : Array Bool} {w : World}, (needS ops dem listed = true → S w) → needS ops dem (listed.setIfInBounds i true) = true → S w := fun {listed w} h h0 => by
    refine h ?_
    obtain ⟨j, hj, h1⟩ := List.any_eq_true.1 h0
    simp only [Bool.and_eq_true, Bool.not_eq_true'] at h1
    have hij : i ≠ j := fun e => by rw [e, h1.1] at hdi; cases hdi
    exact needS_at (List.mem_range.1 hj) h1.1 (by rw [getD_set_ne false hij] at h1; exact h1.2)
  intro fuel
  induction fuel with
  | zero =>
    intro listed a w _ hr hy hS H
    refine ⟨fun h => (by rw [h] at hr; cases hr), fun j hj => ?_⟩
    by_cases hji : j = i
    · subst hji; exact hy.wpOp hi trivial ⟨hset hS, H⟩
    · have := ready_mono hj hji
      rw [H.1] at this
      cases this
  | succ fuel ih =>
    intro listed a w hfree hr hy hS H
    have hun := getD_both (mem_ready.1 hr).1
    refine ⟨fun h => (by rw [h] at hr; cases hr), fun j hj => ?_⟩
    by_cases hji : j = i
    · subst hji; exact hy.wpOp hi trivial ⟨hset hS, H⟩
    obtain ⟨hjun0, oj, hoj, hall⟩ := mem_ready.1 hj
    have h1 := H.2 j (ready_mono hj hji)
    have hnot : ∀ e ∈ oj.after, Region.binds md e = true → e.on ≠ i := fun e he hb heq => by
      have h1 := hall e he hb
      rw [heq, hun] at h1
      cases h1
    have h2 := wpOp_putIf hoj (hfree j oj hoj hji hjun0 hnot) (fun cs b => hsel i oi cs b hi) (fun cs b => hsel j oj cs b hoj) hQ hy h1
    have hfree' : ∀ k ok, ops[k]? = some ok → k ≠ i → (listed.setIfInBounds j true).getD k true = false →
        (∀ e ∈ ok.after, Region.binds md e = true → e.on ≠ i) → oi.apart ops ok = true := fun k ok hk hki hun hno => by
      refine hfree k ok hk hki ?_ hno
      by_cases hjk : j = k
      · subst hjk; exact hjun0
      · rw [getD_set_ne true hjk] at hun; exact hun
    have hback : ∀ {w' : World}, (needS ops dem ((listed.setIfInBounds i true).setIfInBounds j true) = true → S w') → needS ops dem (listed.setIfInBounds j true) = true → S w' := fun {w'} h h0 => by
      refine h ?_
      rw [Array.setIfInBounds_comm _ _ (Ne.symm hji)]
      exact needS_set hdi h0
    refine wpOp_mono (fun a' w' h3 => ⟨hback h3.2.1, ih (listed.setIfInBounds j true) a' w' hfree' (ready_mono hr (Ne.symm hji)) h3.1 (hback h3.2.1) ?_⟩) h2
    rw [Array.setIfInBounds_comm _ _ hji]
    exact h3.2.2
/-- A load whose cell only stores behind all of 'dem' write may be taken first. -/
theorem wpAnyP_take {i : Nat} {oi : Oper} {v : Value} {fuel : Nat} {listed : Array Bool} {a : Act} {w : World} (hi : ops[i]? = some oi)
    (hs : Region.noSelect ops = true) (hf : Region.free md ops listed i = true) (hr : (Region.ready md ops listed).contains i = true) (hused : usedB md ops dem i = true) (hc : cloB md ops listed = true)
    (hQ : ∀ c a w, Q (.panic c) (a.put oi.dst v) w → Q (.panic c) a w) (hy : YieldsIf P ops S oi v a) (hS : S w)
    (h : wpAnyP P md ops Q S dem fuel (listed.setIfInBounds i true) (a.put oi.dst v) w) : wpAnyP P md ops Q S dem (fuel + 1) listed a w :=
  wpAnyP_first hi (Region.noSelect_spec hs) hQ hused fuel listed a w (cloB_spec hc) (Region.free_spec hi hf) (by simpa using hr) hy hS h
/-- An address, a copy: whatever the world. -/
theorem wpAnyP_pure {i : Nat} {oi : Oper} {v : Value} {fuel : Nat} {listed : Array Bool} {a : Act} {w : World} (hi : ops[i]? = some oi)
    (hs : Region.noSelect ops = true) (hf : Region.free md ops listed i = true) (hr : (Region.ready md ops listed).contains i = true) (hdi : dem i = false)
    (hQ : ∀ c a w, Q (.panic c) (a.put oi.dst v) w → Q (.panic c) a w) (hy : YieldsIf P ops (fun _ => True) oi v a) (hS : needS ops dem listed = true → S w)
    (h : wpAnyP P md ops Q S dem fuel (listed.setIfInBounds i true) (a.put oi.dst v) w) : wpAnyP P md ops Q S dem (fuel + 1) listed a w :=
  wpAnyP_pureF hi (Region.noSelect_spec hs) hQ hdi fuel listed a w (Region.free_spec hi hf) (by simpa using hr) hy hS h
/-- The one that may come up; S is to be shown behind it, while one of 'dem' has not come up. -/
theorem wpAnyP_one {i : Nat} {o : Oper} {fuel : Nat} {listed : Array Bool} {a : Act} {w : World} (ho : ops[i]? = some o) (hr : Region.ready md ops listed = [i])
    (h : ∀ K : Act → World → Prop, (∀ a w, (needS ops dem (listed.setIfInBounds i true) = true → S w) → wpAnyP P md ops Q S dem fuel (listed.setIfInBounds i true) a w → K a w) → if Region.wanted o (yielded ops a.tmps) = true then Oper.wp P o a w K Q else K (a.put o.dst undef) w) :
    wpAnyP P md ops Q S dem (fuel + 1) listed a w := by
  refine ⟨fun h0 => (by rw [h0] at hr; cases hr), fun j hj => ?_⟩
  rw [hr] at hj
  obtain rfl : j = i := by simpa using hj
  exact wpOp_step ho fun K' hK' => h K' fun a w h1 h2 => hK' a w ⟨h1, h2⟩
theorem wpAnyP_done {listed : Array Bool} {a : Act} {w : World} (hr : Region.ready md ops listed = []) (h : Q .normal a w) : ∀ fuel, wpAnyP P md ops Q S dem fuel listed a w
  | 0 => ⟨hr, h⟩
  | _ + 1 => ⟨fun _ => h, by rw [hr]; simp⟩
/-- The load of a whole struct, in every world that meets S. -/
theorem yields_row {T : TypeId} {n : Nat} {o : Oper} {a : Act} (hT : RowT P T n) (hgd : Region.wanted o (yielded ops a.tmps) = true) (x : Operand) (ho : o.op = .load T x) (g : Nat) (hx : a.eval x = .pointer (some ⟨g, 0, none⟩)) (cs : Array Value) {t : TypeId} (hS : ∀ w, S w → w.heap[g]? = some (.cells cs t (0, 0))) (hn : cs.size = n) : YieldsIf P ops S o (.agg cs) a := by
  obtain ⟨fs, hu, hi⟩ := hT
  subst hn
  refine .inl ⟨hgd, fun w hw => ?_⟩
  unfold execOp
  simp only [ho, hx, Instr.loadAt, Instr.sureAddr, Sem.run_bind, Sem.run_pure, Result.andThen_ok, run_loadVar_row w g t T cs (0, 0) (.struct fs) (hS w hw) hu rfl hi]
end
end Go.Proofs.Ytimkdpkhdbiniaa
