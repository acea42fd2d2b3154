/- Parts of a proof, joined: UpS, ZAns, RegIv, RegIv1. -/
import Derived.Test.YtimkdpkhdbiniaaZADZ11
import Derived.Test.YtimkdpkhdbiniaaZADM12
import Derived.Test.YtimkdpkhdbiniaaZADM02c
import Derived.Test.YtimkdpkhdbiniaaZADR0
/- Capital letters, in plain Lean; what a zone answers of names that are alike. -/
namespace Go.Proofs.Ytimkdpkhdbiniaa
open Go.RowKit
set_option maxRecDepth 100000
set_option linter.unusedVariables false

end Go.Proofs.Ytimkdpkhdbiniaa

/- What zone.Answer gives, read, in blocks between two numbers; a zone of one's own, likewise. -/
namespace Go.Proofs.Ytimkdpkhdbiniaa
open Go.RowKit
set_option maxRecDepth 100000
set_option linter.unusedVariables false

/-- Between two numbers. -/
structure ZIv (lo hi : Nat) (w : World) (A : Option Addr) (n c : Nat) (R : Option Addr) (m k : Nat) (zs : List (List UInt8)) (rs : List RR) : Prop where
  z : Els encS (btS lo hi) (btS lo hi) w A n zs
  r : Els encRR (btS lo hi) (btS lo hi) w R m rs
  cz : n ≤ c ∧ c ≤ maxLen
  cr : m ≤ k ∧ k ≤ maxLen
theorem ZOwn.iv {B : Nat} {w : World} {A : Option Addr} {n c : Nat} {R : Option Addr} {m k : Nat} {zs : List (List UInt8)} {rs : List RR} (h : ZOwn B w A n c R m k zs rs) : ZIv B w.heap.size w A n c R m k zs rs := ⟨h.z, h.r, h.cz, h.cr⟩
theorem ZIv.keep {lo hi : Nat} {w w' : World} {A : Option Addr} {n c : Nat} {R : Option Addr} {m k : Nat} {zs : List (List UInt8)} {rs : List RR} (h : ZIv lo hi w A n c R m k zs rs) (k' : ∀ b, btS lo hi b → w'.heap[b]? = w.heap[b]?) : ZIv lo hi w' A n c R m k zs rs := ⟨h.z.keep k' k', h.r.keep k' k', h.cz, h.cr⟩
structure AIv (lo hi : Nat) (w : World) (s : MS) (m : Ms) (q : Qu) : Prop where
  a : Els encRR (btS lo hi) (btS lo hi) w s.A m.an.length m.an
  u : Els encRR (btS lo hi) (btS lo hi) w s.U m.au.length m.au
  x : Els encRR (btS lo hi) (btS lo hi) w s.X m.ex.length m.ex
  ca : m.an.length ≤ s.ac ∧ s.ac ≤ maxLen
  cu : m.au.length ≤ s.uc ∧ s.uc ≤ maxLen
  cx : m.ex.length ≤ s.xc ∧ s.xc ≤ maxLen
  q : ∃ g A c, s.Q = some ⟨g, 0, none⟩ ∧ s.qc = 1 ∧ m.qs = [q] ∧ lo ≤ g ∧ g < hi ∧ QCells w g 0 ⟨A, c⟩ q ∧ Els encS (btS lo hi) (btS lo hi) w A q.name.length q.name ∧ q.name.length ≤ c ∧ c ≤ maxLen
theorem RB.iv {B : Nat} {w : World} {A : Option Addr} {c : Nat} {xs : List RR} {S : Nat → Prop} (h : RB B w (.slice A xs.length c) xs S) : Els encRR (btS B w.heap.size) (btS B w.heap.size) w A xs.length xs ∧ xs.length ≤ c ∧ c ≤ maxLen := by
  obtain ⟨A', c', hv, he, h1, h2⟩ := LsE.rd ⟨S, h.o⟩
  injection hv with e1 e2 e3
  subst e1 e3
  exact ⟨he, h1, h2⟩
theorem MOwn.iv {B : Nat} {w : World} {s : MS} {m : Ms} {q : Qu} (h : MOwn B w s m q) : AIv B w.heap.size w s m q := by
  obtain ⟨Sa, Su, Sx, h1, h2, h3, _⟩ := h.L
  obtain ⟨g, A, c, q1, q2, q3, q4, q5, q6, q7, q8, q9⟩ := h.q
  have a1 := h1.iv
  have a2 := h2.iv
  have a3 := h3.iv
  exact ⟨a1.1, a2.1, a3.1, a1.2, a2.2, a3.2, g, A, c, q1, q2, q3, q4, q5, q6, q7.mono (fun b hb => ⟨hb.1, hb.2.1⟩) (fun b hb => ⟨hb.1, hb.2.1⟩), q8, q9⟩
theorem AIv.keep {lo hi : Nat} {w w' : World} {s : MS} {m : Ms} {q : Qu} (h : AIv lo hi w s m q) (k : ∀ b, btS lo hi b → w'.heap[b]? = w.heap[b]?) : AIv lo hi w' s m q := by
  obtain ⟨g, A, c, q1, q2, q3, q4, q5, q6, q7, q8, q9⟩ := h.q
  have kc : ∀ j, w'.cell? ⟨g, j, none⟩ = w.cell? ⟨g, j, none⟩ := fun j => World.cell?_of_block (a := ⟨g, j, none⟩) (k g ⟨q4, q5⟩)
  exact ⟨h.a.keep k k, h.u.keep k k, h.x.keep k k, h.ca, h.cu, h.cx, g, A, c, q1, q2, q3, q4, q5, ⟨(kc _).trans q6.1, (kc _).trans q6.2.1, (kc _).trans q6.2.2⟩, q7.keep k k, q8, q9⟩
/-- Numbers that are small. -/
structure Nums (m : Ms) : Prop where
  i : m.id = 0
  o : m.op = 0
  s : m.size = 0
  r : m.rcode = 0 ∨ m.rcode = 3 ∨ m.rcode = 5
  e : m.edns = false
  rs : m.resp = true
theorem AIv.min {lo hi : Nat} {w : World} {s : MS} {m : Ms} {q : Qu} (h : AIv lo hi w s m q) (hn : Nums m) (ht : -9223372036854775808 ≤ q.type ∧ q.type ≤ 9223372036854775807) (hc : -9223372036854775808 ≤ q.cls ∧ q.cls ≤ 9223372036854775807) : MIn (btS lo hi) w s m := by
  obtain ⟨g, A, c, q1, q2, q3, q4, q5, q6, q7, q8, q9⟩ := h.q
  refine ⟨?_, h.a, h.u, h.x, ?_, h.ca, h.cu, h.cx, ?_, ?_, ?_, ?_⟩
  · rw [q3, q1]
    refine ⟨rfl, fun _ => ⟨g, 0, rfl, ⟨q4, q5⟩, fun i x hx => ?_⟩⟩
    match i, hx with
    | 0, hx =>
      injection hx with hx
      subst hx
      refine ⟨_, ⟨A, c, rfl, q7, ⟨q8, q9⟩, ht, hc⟩, fun j u hu => ?_⟩
      match j, hu with
      | 0, hu => injection hu with hu; subst hu; exact q6.1
      | 1, hu => injection hu with hu; subst hu; exact q6.2.1
      | 2, hu => injection hu with hu; subst hu; exact q6.2.2
  · rw [q3, q2]; exact ⟨Nat.le_refl _, by show (1 : Nat) ≤ maxLen; decide⟩
  · rw [hn.i]; exact ⟨by omega, by omega⟩
  · rw [hn.o]; exact ⟨by omega, by omega⟩
  · rcases hn.r with e | e | e <;> rw [e] <;> exact ⟨by omega, by omega⟩
  · rw [hn.s]; exact ⟨by omega, by omega⟩
end Go.Proofs.Ytimkdpkhdbiniaa

/- A region that draws its order, and whose last two operations come last: what each operation makes lies in blocks of its own, from where the heap ended. No program in it. -/
namespace Go.Proofs.Ytimkdpkhdbiniaa
open Go.RowKit

section
variable {P : Program} {ops : Array Oper} {Q : Exit → Act → World → Prop} {md : Region.Mode} {n : Nat}

/-- The frame, from what was there and what each operation has left. -/
theorem Same.eq {d : Nat → Tmp} {n : Nat} {a0 a : Act} (h : Same d n a0 a) (hd : ∀ i, i < n → d i < a0.tmps.size) (hinj : ∀ i j, i < n → j < n → d i = d j → i = j) (vs : Nat → Value) (hv : ∀ j, j < n → a.tmps[d j]? = some (vs j)) :
    a = (List.range n).foldl (fun b j => b.put (some (d j)) (vs j)) a0 := by
  have key : ∀ m, m ≤ n → ((List.range m).foldl (fun b j => b.put (some (d j)) (vs j)) a0).defers = a0.defers ∧ ((List.range m).foldl (fun b j => b.put (some (d j)) (vs j)) a0).tmps.size = a0.tmps.size ∧ (∀ j, j < m → ((List.range m).foldl (fun b j => b.put (some (d j)) (vs j)) a0).tmps[d j]? = some (vs j)) ∧ ∀ t, (∀ j, j < m → d j ≠ t) → ((List.range m).foldl (fun b j => b.put (some (d j)) (vs j)) a0).tmps[t]? = a0.tmps[t]? := by
    intro m
    induction m with
    | zero => intro _; exact ⟨rfl, rfl, fun j hj => by omega, fun t _ => rfl⟩
    | succ m ih =>
      intro hm
      obtain ⟨h1, h2, h3, h4⟩ := ih (by omega)
      rw [List.range_succ, List.foldl_append]
      generalize (List.range m).foldl (fun b j => b.put (some (d j)) (vs j)) a0 = b at h1 h2 h3 h4 ⊢
      refine ⟨h1, ?_, fun j hj => ?_, fun t ht => ?_⟩
      · show (b.tmps.setIfInBounds (d m) (vs m)).size = _
        rw [Array.size_setIfInBounds]; exact h2
      · show (b.tmps.setIfInBounds (d m) (vs m))[d j]? = _
        by_cases e : j = m
        · subst e
          rw [Array.getElem?_setIfInBounds_self_of_lt (by rw [h2]; exact hd j (by omega))]
        · rw [Array.getElem?_setIfInBounds_ne (fun e2 => e (hinj m j (by omega) (by omega) e2).symm)]
          exact h3 j (by omega)
      · show (b.tmps.setIfInBounds (d m) (vs m))[t]? = _
        rw [Array.getElem?_setIfInBounds_ne (ht m (by omega))]
        exact h4 t (fun j hj => ht j (by omega))
  obtain ⟨h1, h2, h3, h4⟩ := key n (Nat.le_refl _)
  generalize (List.range n).foldl (fun b j => b.put (some (d j)) (vs j)) a0 = b at h1 h2 h3 h4 ⊢
  have e1 : a.tmps = b.tmps := by
    apply Array.ext_getElem?
    intro t
    by_cases e : ∃ j, j < n ∧ d j = t
    · obtain ⟨j, hj, rfl⟩ := e
      rw [hv j hj, h3 j hj]
    · have e2 : ∀ j, j < n → d j ≠ t := fun j hj e3 => e ⟨j, hj, e3⟩
      rw [h.other t e2, h4 t e2]
  have e2 : a.defers = b.defers := h.defers.trans h1.symm
  cases a
  cases b
  simp only at e1 e2
  rw [e1, e2]
/-- The store of a whole struct. -/
theorem wpO_storeR {T : TypeId} {w : World} {o : Oper} {a : Act} {K : Act → World → Prop} (hT : RowT P T n) (x y : Operand) (ho : o.op = .store T x y) (g : Nat) (hx : a.eval x = .pointer (some ⟨g, 0, none⟩)) (cs : Array Value) (hy : a.eval y = .agg cs) (old : Array Value) {t : TypeId} (hg : w.heap[g]? = some (.cells old t (0, 0))) (hn : cs.size = n) (hold : old.size = n) (h1 : cs.all (·.oneCell') = true)
    (h : ∀ w', w'.heap[g]? = some (.cells cs t (0, 0)) → Chg (fun k => k = g) w w' → K (a.put o.dst undef) w') : o.wp P a w K Q := by
  obtain ⟨fs, hu, hi⟩ := hT
  subst hn
  exact wp_store_row T x y ho g cs hx hy t old hg hi hold h1 (h _ (setRow_heap w g old cs t (0, 0) hg) ((Chg.refl (fun k => k = g) w).setRow (.inl rfl) cs))
end
end Go.Proofs.Ytimkdpkhdbiniaa

/- As RegIv, for a region with one last operation. No program in it. -/
namespace Go.Proofs.Ytimkdpkhdbiniaa
open Go.RowKit

section
variable {P : Program} {ops : Array Oper} {Q : Exit → Act → World → Prop} {md : Region.Mode} {n : Nat}

theorem wpAny_iv1 {w0 : World} {a0 : Act} (hs : Region.sinkB md ops n = true) (hc : Region.chainB md ops n = true) (hn : n + 1 = ops.size) (hb : backB md ops = true)
    (d : Nat → Tmp) (hd : ∀ i, i < n → d i < a0.tmps.size) (hinj : ∀ i j, i < n → j < n → d i = d j → i = j)
    (Ψ : Nat → Value → Nat → Nat → World → Prop) (hstab : ∀ j v lo hi w w', w0.heap.size ≤ lo → hi ≤ w.heap.size → Below w.heap.size w w' → Ψ j v lo hi w → Ψ j v lo hi w')
    (hstep : ∀ i, i < n → ∀ a w, Below w0.heap.size w0 w → Same d n a0 a → (∀ j, Region.waitsFor md ops i j = true → ∃ v lo hi, a.tmps[d j]? = some v ∧ Ψ j v lo hi w ∧ w0.heap.size ≤ lo ∧ hi ≤ w.heap.size) →
      wpOp P ops Q i (fun a' w' => ∃ v, a' = a.put (some (d i)) v ∧ Below w.heap.size w w' ∧ Ψ i v w.heap.size w'.heap.size w') a w)
    (hlast : ∀ a w (lo hi : Nat → Nat), Below w0.heap.size w0 w → Same d n a0 a → (∀ j, j < n → ∃ v, a.tmps[d j]? = some v ∧ Ψ j v (lo j) (hi j) w ∧ w0.heap.size ≤ lo j ∧ hi j ≤ w.heap.size) → (∀ i j, i < n → j < n → i ≠ j → hi i ≤ lo j ∨ hi j ≤ lo i) → wpOp P ops Q n (fun a' w' => Q .normal a' w') a w) :
    ∀ fuel listed a w (lo hi : Nat → Nat), HeadInv md ops n listed → unl ops.size listed ≤ fuel → Below w0.heap.size w0 w → Same d n a0 a → (∀ j, j < n → listed.getD j false = true → ∃ v, a.tmps[d j]? = some v ∧ Ψ j v (lo j) (hi j) w ∧ w0.heap.size ≤ lo j ∧ hi j ≤ w.heap.size) →
      (∀ i j, i < n → j < n → i ≠ j → listed.getD i false = true → listed.getD j false = true → hi i ≤ lo j ∨ hi j ≤ lo i) → wpAny P md ops Q fuel listed a w := by
  intro fuel
  induction fuel with
  | zero =>
    intro listed a w lo hi inv hf _ _ _ _
    have := unl_pos (N := ops.size) (i := n) (by omega) (getD_both (inv.tail n (Nat.le_refl _) (by omega)))
    omega
  | succ fuel ih =>
    intro listed a w lo hi inv hf hbw hsm hΨ hD
    refine ⟨fun h0 => absurd h0 (ready_ne hb inv.size n (by omega) (getD_both (inv.tail n (Nat.le_refl _) (by omega)))), fun i hi' => ?_⟩
    obtain ⟨hun, oi, hoi, hall⟩ := mem_ready.1 hi'
    have hilt : i < ops.size := (Array.getElem?_eq_some_iff.1 hoi).1
    have hback := backB_spec hb hoi
    have hwait : ∀ j, Region.waitsFor md ops i j = true → listed.getD j false = true ∧ j < i := fun j hj => by
      obtain ⟨o', ho', e, he, hbd, hon⟩ := Region.waitsFor_spec hj
      have : o' = oi := Option.some.inj (ho'.symm.trans hoi)
      subst this
      have h1 := hall e he hbd
      have h2 := hback e he hbd
      subst hon
      exact ⟨h1, h2⟩
    by_cases hin : i < n
    · refine wpOp_mono ?_ (hstep i hin a w hbw hsm (fun j hj => by
        obtain ⟨v, h1, h2, h3, h4⟩ := hΨ j (by have := (hwait j hj).2; omega) (hwait j hj).1
        exact ⟨v, _, _, h1, h2, h3, h4⟩))
      rintro a' w' ⟨v, rfl, hbb, hv⟩
      have hub := unl_set (N := ops.size) hilt inv.size (getD_both hun)
      have hsz := hbb.size
      refine ih (listed.setIfInBounds i true) _ w' (fun k => if k = i then w.heap.size else lo k) (fun k => if k = i then w'.heap.size else hi k) (inv.set hi' hin) (by omega) (hbw.trans (hbb.mono hbw.size)) (hsm.put hin v) (fun j hj hl => ?_) (fun i1 j1 hi1 hj1 hne hl1 hl2 => ?_)
      · by_cases e : j = i
        · subst e
          refine ⟨v, ?_, ?_, ?_, ?_⟩
          · show (a.tmps.setIfInBounds (d j) v)[d j]? = some v
            rw [Array.getElem?_setIfInBounds_self_of_lt (by rw [hsm.size]; exact hd j hin)]
          · simp only [if_pos]; exact hv
          · simp only [if_pos]; exact hbw.size
          · simp only [if_pos]; exact Nat.le_refl _
        · rw [getD_set_ne false (Ne.symm e)] at hl
          obtain ⟨u, hu, hp, h3, h4⟩ := hΨ j hj hl
          refine ⟨u, ?_, ?_, ?_, ?_⟩
          · show (a.tmps.setIfInBounds (d i) v)[d j]? = some u
            rw [Array.getElem?_setIfInBounds_ne (fun e2 => e (hinj i j hin hj e2).symm)]
            exact hu
          · simp only [if_neg e]; exact hstab j u _ _ w w' h3 h4 hbb hp
          · simp only [if_neg e]; exact h3
          · simp only [if_neg e]; omega
      · by_cases e1 : i1 = i
        · have e2 : j1 ≠ i := fun e => hne (e1.trans e.symm)
          rw [getD_set_ne false (Ne.symm e2)] at hl2
          obtain ⟨u, _, _, _, h4⟩ := hΨ j1 hj1 hl2
          simp only [if_pos e1, if_neg e2]
          exact .inr h4
        · rw [getD_set_ne false (Ne.symm e1)] at hl1
          by_cases e2 : j1 = i
          · obtain ⟨u, _, _, _, h4⟩ := hΨ i1 hi1 hl1
            simp only [if_pos e2, if_neg e1]
            exact .inl h4
          · rw [getD_set_ne false (Ne.symm e2)] at hl2
            simp only [if_neg e1, if_neg e2]
            exact hD i1 j1 hi1 hj1 hne hl1 hl2
    · have hdone : ∀ j, j < n → listed.getD j false = true := fun j hj => by
        cases h : listed.getD j false with
        | true => rfl
        | false => exact absurd hi' (tail_waits hs hc (by omega) inv (n - j) j rfl hj (getD_in (by rw [inv.size]; omega) h) i (by omega))
      obtain rfl : i = n := by omega
      refine wpOp_mono ?_ (hlast a w lo hi hbw hsm (fun j hj => hΨ j hj (hdone j hj)) (fun i1 j1 hi1 hj1 hne => hD i1 j1 hi1 hj1 hne (hdone i1 hi1) (hdone j1 hj1)))
      intro a' w' hq
      refine wpAny_done ?_ hq fuel
      refine List.eq_nil_iff_forall_not_mem.2 fun j hj => ?_
      obtain ⟨h0, o, ho, _⟩ := mem_ready.1 hj
      have hjl : j < ops.size := (Array.getElem?_eq_some_iff.1 ho).1
      by_cases e : j = i
      · subst e
        simp [inv.size, hjl] at h0
      · rw [getD_set_ne true (Ne.symm e)] at h0
        have := hdone j (by omega)
        rw [getD_both h0] at this
        cases this

/-- The region as a whole. -/
theorem wp_region_iv1 {id : Nat} {w0 : World} {a0 : Act} (hm : P.follows .mixedOrders = true) (hs : Region.sinkB .any ops n = true) (hc : Region.chainB .any ops n = true) (hn : n + 1 = ops.size) (hb : backB .any ops = true)
    (d : Nat → Tmp) (hd : ∀ i, i < n → d i < a0.tmps.size) (hinj : ∀ i j, i < n → j < n → d i = d j → i = j)
    (Ψ : Nat → Value → Nat → Nat → World → Prop) (hstab : ∀ j v lo hi w w', w0.heap.size ≤ lo → hi ≤ w.heap.size → Below w.heap.size w w' → Ψ j v lo hi w → Ψ j v lo hi w')
    (hstep : ∀ i, i < n → ∀ a w, Below w0.heap.size w0 w → Same d n a0 a → (∀ j, Region.waitsFor .any ops i j = true → ∃ v lo hi, a.tmps[d j]? = some v ∧ Ψ j v lo hi w ∧ w0.heap.size ≤ lo ∧ hi ≤ w.heap.size) →
      wpOp P ops Q i (fun a' w' => ∃ v, a' = a.put (some (d i)) v ∧ Below w.heap.size w w' ∧ Ψ i v w.heap.size w'.heap.size w') a w)
    (hlast : ∀ a w (lo hi : Nat → Nat), Below w0.heap.size w0 w → Same d n a0 a → (∀ j, j < n → ∃ v, a.tmps[d j]? = some v ∧ Ψ j v (lo j) (hi j) w ∧ w0.heap.size ≤ lo j ∧ hi j ≤ w.heap.size) → (∀ i j, i < n → j < n → i ≠ j → hi i ≤ lo j ∨ hi j ≤ lo i) → wpOp P ops Q n (fun a' w' => Q .normal a' w') a w) :
    (Code.region id ops true).wp P Q a0 w0 := by
  refine wp_region_any hm ?_
  refine wpAny_iv1 hs hc hn hb d hd hinj Ψ hstab hstep hlast ops.size _ a0 w0.drew (fun _ => 0) (fun _ => 0) ⟨by simp, fun j oj hj hl => ?_, fun t ht ht' => by simp [ht']⟩ ?_ bl.drew ⟨rfl, rfl, fun _ _ => rfl⟩ (fun j hj hl => ?_) (fun i j hi hj hne hl => ?_)
  · rw [getD_replicate_false] at hl; cases hl
  · have := List.length_filter_le (fun j => !(Array.replicate ops.size false).getD j false) (List.range ops.size)
    rw [List.length_range] at this
    exact this
  · rw [getD_replicate_false] at hl; cases hl
  · rw [getD_replicate_false] at hl; cases hl
end
end Go.Proofs.Ytimkdpkhdbiniaa
