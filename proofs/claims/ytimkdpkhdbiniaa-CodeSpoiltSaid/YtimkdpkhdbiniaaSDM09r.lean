/- Parts of a proof, joined: RdG8, RdG9. -/
import Derived.Test.YtimkdpkhdbiniaaSDM08r
import Derived.Test.YtimkdpkhdbiniaaSDM05
/- rdata.Get, whatever the bytes, the place, the size and the type. -/
namespace Go.Proofs.Ytimkdpkhdbiniaa
open Go.RowKit
set_option maxRecDepth 100000
set_option linter.unusedVariables false

set_option maxHeartbeats 400000 in
theorem getCatch_idle (a b : Value) (w : World) : CallsD Try.prog 198 #[a, b] .returning w fun e u' w' => e = .returned (.tuple #[]) ∧ u' = .returning ∧ w' = w := by
  refine callsD_of_wpS Try.func198 rfl fun c₀ cs hu => ?_
  apply wpS_seq
  apply wpS_region
  simp [wpOpsS, go_sem, recoverD, hu, Try.ntmps198, Exit.thenS]
  apply wpS_seq
  apply wpS_region
  simp [wpOpsS, go_sem, Exit.thenS]
  refine wpS_cond (t := false) (by simp [Act.eval, Array.replicate]) ?_
  simp only [Bool.false_eq_true, if_false]
  refine wpS_of_wp (wp_skip ?_)
  cases c₀
  simp_all [bodyPostS, results, Try.results198]

set_option maxHeartbeats 400000 in
theorem getCatch_panic (D E : Nat) (f z : Int) (v0 v1 v2 v3 v4 : Value) (older : List PanicEntry) (w : World) (hD : w.heap[D]? = some (.cells #[v0, v1, v2, v3, v4] 46 (0, 0))) (hE : w.heap[E]? = some (.cells #[.int .i64 z] 34 (0, 0))) (hne : D ≠ E) :
    CallsD Try.prog 198 #[.pointer (some ⟨D, 0, none⟩), .pointer (some ⟨E, 0, none⟩)] (.panicking ({ v := .iface 34 (.int .i64 f), recovered := false } :: older)) w fun e u' w' =>
      e = .returned (.tuple #[]) ∧ u' = .panicking ({ v := .iface 34 (.int .i64 f), recovered := true } :: older) ∧ w'.heap[D]? = some (.cells #[.slice none 0 0, .slice none 0 0, .slice none 0 0, .slice none 0 0, .slice none 0 0] 46 (0, 0)) ∧ w'.heap[E]? = some (.cells #[.int .i64 f] 34 (0, 0)) ∧ Chg (fun k => k = D ∨ k = E) w w' := by
  have x0 : w.cell? ⟨D, 0, none⟩ = some v0 := (cell_of_row _ _ _ _ _ _ hD).trans rfl
  have x1 : w.cell? ⟨D, 1, none⟩ = some v1 := (cell_of_row _ _ _ _ _ _ hD).trans rfl
  have x2 : w.cell? ⟨D, 2, none⟩ = some v2 := (cell_of_row _ _ _ _ _ _ hD).trans rfl
  have x3 : w.cell? ⟨D, 3, none⟩ = some v3 := (cell_of_row _ _ _ _ _ _ hD).trans rfl
  have x4 : w.cell? ⟨D, 4, none⟩ = some v4 := (cell_of_row _ _ _ _ _ _ hD).trans rfl
  have x5 : w.cell? ⟨E, 0, none⟩ = some (.int .i64 z) := (cell_of_row _ _ _ _ _ _ hE).trans rfl
  have f1 : ∀ k, w.frozen? ⟨D, k, none⟩ = false := fun k => frozen_of_row _ _ _ _ _ hD
  have f2 : ∀ k, w.frozen? ⟨E, k, none⟩ = false := fun k => frozen_of_row _ _ _ _ _ hE
  have hta : ∀ (xT : TypeId) (v : Value) (W : World), (Instr.typeAssert (.iface 34 v) xT 34 true).run Try.prog W = .ok (.tuple #[v, .bool true]) W := fun xT v W => by kernel_rfl
  refine callsD_of_wpS Try.func198 rfl fun c₀ cs hu => ?_
  apply wpS_seq
  apply wpS_region
  simp [wpOpsS, go_sem, recoverD, hu, Try.ntmps198, Exit.thenS]
  apply wpS_seq
  apply wpS_region
  simp [wpOpsS, go_sem, Exit.thenS]
  refine wpS_cond (t := true) (by simp [Act.eval, Array.replicate]) ?_
  simp only [if_true]
  refine wpS_of_wp ?_
  change Code.wp _ _ _ { tmps := #[.pointer (some ⟨D, 0, none⟩), .pointer (some ⟨E, 0, none⟩), .iface 34 (.int .i64 f), undef, undef, .iface 34 (.int .i64 f), .iface 34 (.int .i64 f), .bool true, undef, undef, undef, undef, undef, undef, undef, undef, undef, undef], defers := [] } w
  go_wp2
  obtain ⟨w5, hw5⟩ : ∃ w5, w5 = (((((w.setCell ⟨D, 0, none⟩ (.slice none 0 0)).setCell ⟨D, 1, none⟩ (.slice none 0 0)).setCell ⟨D, 2, none⟩ (.slice none 0 0)).setCell ⟨D, 3, none⟩ (.slice none 0 0)).setCell ⟨D, 4, none⟩ (.slice none 0 0)).setCell ⟨E, 0, none⟩ (.int .i64 f) := ⟨_, rfl⟩
  have hd5 : w5.heap[D]? = some (.cells #[.slice none 0 0, .slice none 0 0, .slice none 0 0, .slice none 0 0, .slice none 0 0] 46 (0, 0)) := by
    rw [hw5]
    exact (heap_setCell_other _ ⟨E, 0, none⟩ _ _ hne).trans ((heap_setCell_same _ _ _ _ _ _ (heap_setCell_same _ _ _ _ _ _ (heap_setCell_same _ _ _ _ _ _ (heap_setCell_same _ _ _ _ _ _ (heap_setCell_same _ _ _ _ _ _ hD))))).trans rfl)
  have he5 : w5.heap[E]? = some (.cells #[.int .i64 f] 34 (0, 0)) := by
    rw [hw5]
    have h1 : ∀ {u : World} (j : Nat) (v : Value), u.heap[E]? = some (.cells #[.int .i64 z] 34 (0, 0)) → (u.setCell ⟨D, j, none⟩ v).heap[E]? = some (.cells #[.int .i64 z] 34 (0, 0)) := fun j v h => (heap_setCell_other _ ⟨D, j, none⟩ _ v (Ne.symm hne)).trans h
    exact (heap_setCell_same _ _ 0 _ _ (.int .i64 f) (h1 4 (.slice none 0 0) (h1 3 (.slice none 0 0) (h1 2 (.slice none 0 0) (h1 1 (.slice none 0 0) (h1 0 (.slice none 0 0) hE)))))).trans rfl
  have hc5 : Chg (fun k => k = D ∨ k = E) w w5 := by
    rw [hw5]
    have h1 : ∀ {u : World} (j : Nat) (v : Value), Chg (fun k => k = D ∨ k = E) w u → Chg (fun k => k = D ∨ k = E) w (u.setCell ⟨D, j, none⟩ v) := fun j v h => h.setCell (p := ⟨D, j, none⟩) (Or.inl (.inl rfl)) v
    exact (h1 _ _ (h1 _ _ (h1 _ _ (h1 _ _ (h1 _ _ (Chg.refl _ w)))))).setCell (p := ⟨E, 0, none⟩) (Or.inl (.inr rfl)) _
  rw [← hw5]
  clear hw5
  simp [bodyPostS, results, Try.results198]
  exact ⟨hd5, he5, hc5⟩


theorem gdata_any (w : World) (p : Nat) (A : Option Addr) (n c pos en : Nat) (k : Int) (bs : List UInt8) (h : Rdr w p (.slice A n c) (pos : Int) (en : Int)) (hr : RdB w A n bs) (ho : offA A p) (hpe : pos ≤ en) (hen : en ≤ n) (hn : n ≤ c) (hc : c ≤ 9223372036854775807) (hn2 : n ≤ 100000000) :
    Calls Try.prog 199 #[.pointer (some ⟨p, 0, none⟩), shpV (shapeP k)] w (RdX (dataE bs pos en (shapeP k)) (goodD w.heap.size) w p (.slice A n c) en) := by
  rcases shape_cases k with e | e | e | e | e | e | e | e <;> rw [e]
  · exact gdataA_any w p A n c pos en bs h hr ho hpe hen hn hc hn2
  · exact gdataQ_any w p A n c pos en bs h hr ho hpe hen hn hc hn2
  · exact gdataN_any w p A n c pos en bs h hr ho hpe hen hn hc hn2
  · exact gdataM_any w p A n c pos en bs h hr ho hpe hen hn hc hn2
  · exact gdataS_any w p A n c pos en bs h hr ho hpe hen hn hc hn2
  · exact gdataV3_any w p A n c pos en bs h hr ho hpe hen hn hc hn2
  · exact gdataT_any w p A n c pos en bs h hr ho hpe hen hn hc hn2
  · exact gdataB_any w p A n c pos en bs h hr ho hpe hen hn hc hn2

/-- The result's two boxes, and the reader, as Get lays them. -/
structure GetSt (w wr : World) (bv : Value) (q en : Nat) : Prop where
  D : wr.heap[w.heap.size]? = some (.cells (dCells DS.nil Da.zero) 46 (0, 0))
  E : wr.heap[w.heap.size + 1]? = some (.cells #[.int .i64 0] 34 (0, 0))
  P : Rdr wr (w.heap.size + 2) bv (q : Int) (en : Int)
  bw : Below w.heap.size w wr
theorem GetSt.made (w : World) (bv : Value) (q en : Nat) : GetSt w (((w.alloc (.cells (dCells DS.nil Da.zero) 46)).alloc (.cells #[.int .i64 0] 34)).alloc (.cells #[bv, .int .i64 (q : Int), .int .i64 (en : Int)] 213)) bv q en := by
  have hz1 : (w.alloc (.cells (dCells DS.nil Da.zero) 46)).heap.size = w.heap.size + 1 := by simp
  have hz2 : ((w.alloc (.cells (dCells DS.nil Da.zero) 46)).alloc (.cells #[.int .i64 0] 34)).heap.size = w.heap.size + 2 := by simp
  refine ⟨(heap_alloc_old _ _ (by rw [hz2]; omega)).trans ((heap_alloc_old _ _ (by rw [hz1]; omega)).trans (heap_alloc_new w _)), ?_, ?_, nx (nx (bl.alloc (Nat.le_refl _) _) (bl.alloc (Nat.le_refl _) _)) (bl.alloc (Nat.le_refl _) _)⟩
  · refine (heap_alloc_old _ _ (by rw [hz2]; omega)).trans ?_
    rw [← hz1]
    exact heap_alloc_new _ _
  · unfold Rdr
    rw [← hz2]
    exact heap_alloc_new _ _
theorem GetSt.below {w wr w' : World} {bv : Value} {q en : Nat} (h : GetSt w wr bv q en) (hb : Below wr.heap.size wr w') : GetSt w w' bv q en :=
  ⟨(hb.block _ (Array.getElem?_eq_some_iff.1 h.D).1).trans h.D, (hb.block _ (Array.getElem?_eq_some_iff.1 h.E).1).trans h.E, h.P.below hb, nx h.bw hb⟩

def goodG (bs : List UInt8) (a z k : Int) (w : World) (v : Value) (w' : World) : Prop := ∃ s, v = .tuple #[dsV s (getD bs a z k).1, .int .i64 (getD bs a z k).2] ∧ DGot w' w.heap.size s (getD bs a z k).1
theorem dataE_get {bs : List UInt8} {a z : Nat} {k : Int} (hk : ¬ (k < 1 ∨ 65535 < k)) (hz : a + z ≤ bs.length) : getD bs a z k = match dataE bs a (a + z) (shapeP k) with | .error e => (Da.zero, e) | .ok (d, _) => (d, 0) := by
  unfold getD dataE
  rw [if_neg (by omega), if_neg (by omega), Int.toNat_natCast, Int.toNat_natCast]
  cases dataR bs a (a + z) (shapeP k) with
  | error e => rfl
  | ok r =>
    obtain ⟨d, q⟩ := r
    simp only
    by_cases h : q < a + z
    · rw [if_pos h, if_pos h]
    · rw [if_neg h, if_neg h]

set_option maxHeartbeats 2000000 in
theorem getD_ok (w : World) (A : Option Addr) (n c a z : Nat) (k : Int) (bs : List UInt8) (hr : RdB w A n bs) (hbl : ∀ b off, A = some ⟨b, off, none⟩ → b < w.heap.size) (hn : n ≤ c) (hc : c ≤ 9223372036854775807) (hn2 : n ≤ 100000000) (hk1 : 1 ≤ k) (hk2 : k ≤ 65535) (hz : a + z ≤ n) :
    Calls Try.prog 190 #[.slice A n c, .int .i64 (a : Int), .int .i64 (z : Int), .int .i64 k] w (RetP (goodG bs a z k w) w) := by
  have hmf : ∀ (fn : Fn) (first cap : Array Value) (w : World), (Instr.makeFunc fn first cap).run Try.prog w = .ok (.func fn first cap) w := fun _ _ _ _ => rfl
  have hg := Lib.hid (dataE_get (bs := bs) (a := a) (z := z) (k := k) (by omega) (by rw [hr.len]; omega))
  obtain ⟨w1, hw1⟩ : ∃ w1, w1 = ((w.alloc (.cells #[.slice none 0 0, .slice none 0 0, .slice none 0 0, .slice none 0 0, .slice none 0 0] 46)).alloc (.cells #[.int .i64 0] 34)).alloc (.cells #[.slice A n c, .int .i64 (a : Int), .int .i64 ((a : Int) + (z : Int))] 213) := ⟨_, rfl⟩
  have ST1 : Hid (GetSt w w1 (.slice A n c) a (a + z)) := by show GetSt _ _ _ _ _; rw [hw1]; exact GetSt.made w _ _ _
  have HR := Lib.hid (hr.below ST1.out.bw)
  have HO : Hid (offA A (w.heap.size + 2)) := fun b off e => by have := hbl b off e; omega
  clear hr hbl
  go_enter_defers Try.func190, Try.ntmps190
  go_upto_region 7 with (fail)
  rw [← hw1]
  clear hw1
  cases hx : dataE bs a (a + z) (shapeP k) with
  | error x =>
    have HX := Lib.hid hx
    clear hx
    go_wp2_with (first
      | (go_at_call 199; refine (gdata_any w2 (w.heap.size + 2) A n c a (a + z) k bs ST2.out.P (HR.out.below hb2) HO.out (Nat.le_add_right _ _) hz hn hc hn2).mono ?_; rw [HX.out]; rintro e w3 ⟨rfl, hc3⟩; have HD3 := Lib.hid (hc3.heap ST2.out.D (by omega)); have HE3 := Lib.hid (hc3.heap ST2.out.E (by omega)))
      | (go_at_call 156; refine (shapes_any k w1).mono ?_; rintro e w2 ⟨v2, rfl, rfl, hb2⟩; have ST2 := Lib.hid (ST1.out.below hb2))
      | fail)
    have e0 : getD bs a z k = (Da.zero, x) := by rw [hg.out, HX.out]
    have HEQ := Lib.hid e0
    clear e0
    refine leaves_cons (f := 198) (args := #[.pointer (some ⟨w.heap.size, 0, none⟩), .pointer (some ⟨w.heap.size + 1, 0, none⟩)]) (by simp) (by simp [go_sem]) ?_
    refine (getCatch_panic w.heap.size (w.heap.size + 1) x 0 _ _ _ _ _ [] w3 HD3.out HE3.out (by omega)).mono ?_
    rintro e u' w5 ⟨rfl, rfl, hd5, he5', hc5⟩
    have he5 : w5.cell? ⟨w.heap.size + 1, 0, none⟩ = some (.int .i64 x) := (cell_of_row _ _ _ _ _ _ he5').trans rfl
    have hx : ∀ j : Nat, w5.cell? ⟨w.heap.size, j, none⟩ = (#[.slice none 0 0, .slice none 0 0, .slice none 0 0, .slice none 0 0, .slice none 0 0] : Array Value)[j]? := fun j => cell_of_row _ _ _ _ _ _ hd5
    have x0 : w5.cell? ⟨w.heap.size, 0, none⟩ = some (.slice none 0 0) := hx 0
    have x1 : w5.cell? ⟨w.heap.size, 1, none⟩ = some (.slice none 0 0) := hx 1
    have x2 : w5.cell? ⟨w.heap.size, 2, none⟩ = some (.slice none 0 0) := hx 2
    have x3 : w5.cell? ⟨w.heap.size, 3, none⟩ = some (.slice none 0 0) := hx 3
    have x4 : w5.cell? ⟨w.heap.size, 4, none⟩ = some (.slice none 0 0) := hx 4
    have hbA : Below w.heap.size w w5 := by
      have h2 : Chg (fun k => k = w.heap.size ∨ k = w.heap.size + 1 ∨ k = w.heap.size + 2) w2 w5 := (hc3.mono (G := fun k => k = w.heap.size ∨ k = w.heap.size + 1 ∨ k = w.heap.size + 2) (fun _ h => .inl (.inr (.inr h)))).trans hc5 (fun _ h => .inl (h.elim .inl (fun h => .inr (.inl h))))
      exact ST2.out.bw.trans (h2.below (fun x hx => by omega) ST2.out.bw.size)
    simp [Leaves, settle, results, Try.results190, go_sem, x0, x1, x2, x3, x4, he5]
    refine ⟨_, rfl, ?_, hbA⟩
    unfold goodG
    rw [HEQ.out]
    exact ⟨DS.nil, rfl, DGot.nil _ _⟩
  | ok r =>
    obtain ⟨d, q⟩ := r
    have HX := Lib.hid hx
    clear hx
    go_wp2_with (first
      | (go_at_call 199; refine (gdata_any w2 (w.heap.size + 2) A n c a (a + z) k bs ST2.out.P (HR.out.below hb2) HO.out (Nat.le_add_right _ _) hz hn hc hn2).mono ?_; rw [HX.out]; rintro e w3 ⟨v3, rfl, ⟨s3, rfl, hgot3⟩, hp3, hc3⟩; unfold dsV; have HD3 := Lib.hid (hc3.heap ST2.out.D (by omega)); have HE3 := Lib.hid (hc3.heap ST2.out.E (by omega)); have x0 : w3.cell? ⟨w.heap.size, 0, none⟩ = some (.slice none 0 0) := (cell_of_row _ _ _ _ _ _ HD3.out).trans rfl; have x1 : w3.cell? ⟨w.heap.size, 1, none⟩ = some (.slice none 0 0) := (cell_of_row _ _ _ _ _ _ HD3.out).trans rfl; have x2 : w3.cell? ⟨w.heap.size, 2, none⟩ = some (.slice none 0 0) := (cell_of_row _ _ _ _ _ _ HD3.out).trans rfl; have x3 : w3.cell? ⟨w.heap.size, 3, none⟩ = some (.slice none 0 0) := (cell_of_row _ _ _ _ _ _ HD3.out).trans rfl; have x4 : w3.cell? ⟨w.heap.size, 4, none⟩ = some (.slice none 0 0) := (cell_of_row _ _ _ _ _ _ HD3.out).trans rfl; have x5 : w3.cell? ⟨w.heap.size + 1, 0, none⟩ = some (.int .i64 0) := (cell_of_row _ _ _ _ _ _ HE3.out).trans rfl; have f3 : ∀ k, w3.frozen? ⟨w.heap.size, k, none⟩ = false := fun k => frozen_of_row _ _ _ _ _ HD3.out; have f4 : ∀ k, w3.frozen? ⟨w.heap.size + 1, k, none⟩ = false := fun k => frozen_of_row _ _ _ _ _ HE3.out)
      | (go_at_call 156; refine (shapes_any k w1).mono ?_; rintro e w2 ⟨v2, rfl, rfl, hb2⟩; have ST2 := Lib.hid (ST1.out.below hb2))
      | fail)
    have e0 : getD bs a z k = (d, 0) := by rw [hg.out, HX.out]
    have HEQ := Lib.hid e0
    clear e0
    obtain ⟨w5, hw5⟩ : ∃ w5, w5 = (((((w3.setCell ⟨w.heap.size, 0, none⟩ (.slice s3.A0 d.bytes.length s3.c0)).setCell ⟨w.heap.size, 1, none⟩ (.slice s3.A1 d.host.length s3.c1)).setCell ⟨w.heap.size, 2, none⟩ (.slice s3.A2 d.mail.length s3.c2)).setCell ⟨w.heap.size, 3, none⟩ (.slice s3.A3 d.nums.length s3.c3)).setCell ⟨w.heap.size, 4, none⟩ (.slice s3.A4 d.texts.length s3.c4)).setCell ⟨w.heap.size + 1, 0, none⟩ (.int .i64 0) := ⟨_, rfl⟩
    have hd5 : w5.heap[w.heap.size]? = some (.cells (dCells s3 d) 46 (0, 0)) := by
      rw [hw5]
      exact (heap_setCell_other _ ⟨w.heap.size + 1, 0, none⟩ _ _ (Nat.ne_of_lt (Nat.lt_succ_self _))).trans ((heap_setCell_same _ _ _ _ _ _ (heap_setCell_same _ _ _ _ _ _ (heap_setCell_same _ _ _ _ _ _ (heap_setCell_same _ _ _ _ _ _ (heap_setCell_same _ _ _ _ _ _ HD3.out))))).trans rfl)
    have hc5 : Chg (fun k => k = w.heap.size ∨ k = w.heap.size + 1) w3 w5 := by
      rw [hw5]
      have h1 : ∀ {u : World} (j : Nat) (v : Value), Chg (fun k => k = w.heap.size ∨ k = w.heap.size + 1) w3 u → Chg (fun k => k = w.heap.size ∨ k = w.heap.size + 1) w3 (u.setCell ⟨w.heap.size, j, none⟩ v) := fun j v h => h.setCell (p := ⟨w.heap.size, j, none⟩) (Or.inl (.inl rfl)) v
      exact (h1 _ _ (h1 _ _ (h1 _ _ (h1 _ _ (h1 _ _ (Chg.refl _ w3)))))).setCell (p := ⟨w.heap.size + 1, 0, none⟩) (Or.inl (.inr rfl)) _
    have he5 : w5.cell? ⟨w.heap.size + 1, 0, none⟩ = some (.int .i64 0) := by
      rw [hw5]
      have h1 : ∀ {u : World} (j : Nat) (v : Value), u.heap[w.heap.size + 1]? = some (.cells #[.int .i64 0] 34 (0, 0)) → (u.setCell ⟨w.heap.size, j, none⟩ v).heap[w.heap.size + 1]? = some (.cells #[.int .i64 0] 34 (0, 0)) := fun j v h => (heap_setCell_other _ ⟨w.heap.size, j, none⟩ _ v (Nat.ne_of_gt (Nat.lt_succ_self _))).trans h
      have h2 := heap_setCell_same _ _ 0 _ _ (.int .i64 0) (h1 4 (.slice s3.A4 d.texts.length s3.c4) (h1 3 (.slice s3.A3 d.nums.length s3.c3) (h1 2 (.slice s3.A2 d.mail.length s3.c2) (h1 1 (.slice s3.A1 d.host.length s3.c1) (h1 0 (.slice s3.A0 d.bytes.length s3.c0) HE3.out)))))
      exact (cell_of_row _ _ _ _ _ _ h2).trans rfl
    rw [← hw5]
    clear hw5 x0 x1 x2 x3 x4 x5 f3 f4
    have hx : ∀ j : Nat, w5.cell? ⟨w.heap.size, j, none⟩ = (dCells s3 d)[j]? := fun j => cell_of_row _ _ _ _ _ _ hd5
    have x0 : w5.cell? ⟨w.heap.size, 0, none⟩ = some (.slice s3.A0 d.bytes.length s3.c0) := hx 0
    have x1 : w5.cell? ⟨w.heap.size, 1, none⟩ = some (.slice s3.A1 d.host.length s3.c1) := hx 1
    have x2 : w5.cell? ⟨w.heap.size, 2, none⟩ = some (.slice s3.A2 d.mail.length s3.c2) := hx 2
    have x3 : w5.cell? ⟨w.heap.size, 3, none⟩ = some (.slice s3.A3 d.nums.length s3.c3) := hx 3
    have x4 : w5.cell? ⟨w.heap.size, 4, none⟩ = some (.slice s3.A4 d.texts.length s3.c4) := hx 4
    have hz2 : w.heap.size + 2 < w2.heap.size := ST2.out.P.lt
    have hgot : DGot w5 w.heap.size s3 d := (hgot3.chg hc5 (fun k h1 _ h2 => by omega)).base_le (by omega)
    have hbA : Below w.heap.size w w5 := by
      have h2 : Chg (fun k => k = w.heap.size ∨ k = w.heap.size + 1 ∨ k = w.heap.size + 2) w2 w5 := (hc3.mono (G := fun k => k = w.heap.size ∨ k = w.heap.size + 1 ∨ k = w.heap.size + 2) (fun _ h => .inl (.inr (.inr h)))).trans hc5 (fun _ h => .inl (h.elim .inl (fun h => .inr (.inl h))))
      exact ST2.out.bw.trans (h2.below (fun x hx => by omega) ST2.out.bw.size)
    refine leaves_cons (f := 198) (args := #[.pointer (some ⟨w.heap.size, 0, none⟩), .pointer (some ⟨w.heap.size + 1, 0, none⟩)]) (by simp) (by simp [go_sem]) ?_
    refine (getCatch_idle _ _ _).mono ?_
    rintro e u' w'' ⟨rfl, rfl, rfl⟩
    simp [Leaves, settle, results, Try.results190, go_sem, x0, x1, x2, x3, x4, he5]
    refine ⟨_, rfl, ?_, hbA⟩
    unfold goodG
    rw [HEQ.out]
    exact ⟨s3, rfl, hgot⟩
end Go.Proofs.Ytimkdpkhdbiniaa

/- rdata.Get where the bytes end too early; at any place. -/
namespace Go.Proofs.Ytimkdpkhdbiniaa
open Go.RowKit
set_option maxRecDepth 100000
set_option linter.unusedVariables false

set_option maxHeartbeats 2000000 in
theorem getD_short (w : World) (A : Option Addr) (n c a z : Nat) (k : Int) (bs : List UInt8) (hl : bs.length = n) (ha : a ≤ 1000000000) (hn2 : n ≤ 100000000) (hk1 : 1 ≤ k) (hk2 : k ≤ 65535) (hz : n < a + z) :
    Calls Try.prog 190 #[.slice A n c, .int .i64 (a : Int), .int .i64 (z : Int), .int .i64 k] w (RetP (goodG bs a z k w) w) := by
  have hg : Hid (getD bs a z k = (Da.zero, 3)) := by
    show _ = _
    unfold getD
    rw [if_neg (by omega), if_pos (by omega)]
  by_cases han : n < a
  · go_enter_defers Try.func190, Try.ntmps190
    go_wp2
    obtain ⟨w1, hw1⟩ : ∃ w1, w1 = (w.alloc (.cells #[.slice none 0 0, .slice none 0 0, .slice none 0 0, .slice none 0 0, .slice none 0 0] 46)).alloc (.cells #[.int .i64 3] 34) := ⟨_, rfl⟩
    have hD : w1.heap[w.heap.size]? = some (.cells #[.slice none 0 0, .slice none 0 0, .slice none 0 0, .slice none 0 0, .slice none 0 0] 46 (0, 0)) := by
      rw [hw1]
      exact (heap_alloc_old _ _ (by simp)).trans (heap_alloc_new w _)
    have hE : w1.heap[w.heap.size + 1]? = some (.cells #[.int .i64 3] 34 (0, 0)) := by
      rw [hw1, show w.heap.size + 1 = (w.alloc (.cells #[.slice none 0 0, .slice none 0 0, .slice none 0 0, .slice none 0 0, .slice none 0 0] 46)).heap.size by simp]
      exact heap_alloc_new _ _
    have hb1 : Below w.heap.size w w1 := by rw [hw1]; exact nx (bl.alloc (Nat.le_refl _) _) (bl.alloc (Nat.le_refl _) _)
    rw [← hw1]
    have hx : ∀ j : Nat, w1.cell? ⟨w.heap.size, j, none⟩ = (#[.slice none 0 0, .slice none 0 0, .slice none 0 0, .slice none 0 0, .slice none 0 0] : Array Value)[j]? := fun j => cell_of_row _ _ _ _ _ _ hD
    have x0 : w1.cell? ⟨w.heap.size, 0, none⟩ = some (.slice none 0 0) := hx 0
    have x1 : w1.cell? ⟨w.heap.size, 1, none⟩ = some (.slice none 0 0) := hx 1
    have x2 : w1.cell? ⟨w.heap.size, 2, none⟩ = some (.slice none 0 0) := hx 2
    have x3 : w1.cell? ⟨w.heap.size, 3, none⟩ = some (.slice none 0 0) := hx 3
    have x4 : w1.cell? ⟨w.heap.size, 4, none⟩ = some (.slice none 0 0) := hx 4
    have he : w1.cell? ⟨w.heap.size + 1, 0, none⟩ = some (.int .i64 3) := (cell_of_row _ _ _ _ _ _ hE).trans rfl
    clear hx
    simp [bodyPostD, Leaves, results, Try.results190, go_sem, x0, x1, x2, x3, x4, he]
    refine ⟨_, rfl, ?_, hb1⟩
    unfold goodG
    rw [hg.out]
    exact ⟨DS.nil, rfl, DGot.nil _ _⟩
  · have hq1 : (n : Int) - (a : Int) < (z : Int) := by omega
    go_enter_defers Try.func190, Try.ntmps190
    go_wp2
    obtain ⟨w1, hw1⟩ : ∃ w1, w1 = (w.alloc (.cells #[.slice none 0 0, .slice none 0 0, .slice none 0 0, .slice none 0 0, .slice none 0 0] 46)).alloc (.cells #[.int .i64 3] 34) := ⟨_, rfl⟩
    have hD : w1.heap[w.heap.size]? = some (.cells #[.slice none 0 0, .slice none 0 0, .slice none 0 0, .slice none 0 0, .slice none 0 0] 46 (0, 0)) := by
      rw [hw1]
      exact (heap_alloc_old _ _ (by simp)).trans (heap_alloc_new w _)
    have hE : w1.heap[w.heap.size + 1]? = some (.cells #[.int .i64 3] 34 (0, 0)) := by
      rw [hw1, show w.heap.size + 1 = (w.alloc (.cells #[.slice none 0 0, .slice none 0 0, .slice none 0 0, .slice none 0 0, .slice none 0 0] 46)).heap.size by simp]
      exact heap_alloc_new _ _
    have hb1 : Below w.heap.size w w1 := by rw [hw1]; exact nx (bl.alloc (Nat.le_refl _) _) (bl.alloc (Nat.le_refl _) _)
    rw [← hw1]
    have hx : ∀ j : Nat, w1.cell? ⟨w.heap.size, j, none⟩ = (#[.slice none 0 0, .slice none 0 0, .slice none 0 0, .slice none 0 0, .slice none 0 0] : Array Value)[j]? := fun j => cell_of_row _ _ _ _ _ _ hD
    have x0 : w1.cell? ⟨w.heap.size, 0, none⟩ = some (.slice none 0 0) := hx 0
    have x1 : w1.cell? ⟨w.heap.size, 1, none⟩ = some (.slice none 0 0) := hx 1
    have x2 : w1.cell? ⟨w.heap.size, 2, none⟩ = some (.slice none 0 0) := hx 2
    have x3 : w1.cell? ⟨w.heap.size, 3, none⟩ = some (.slice none 0 0) := hx 3
    have x4 : w1.cell? ⟨w.heap.size, 4, none⟩ = some (.slice none 0 0) := hx 4
    have he : w1.cell? ⟨w.heap.size + 1, 0, none⟩ = some (.int .i64 3) := (cell_of_row _ _ _ _ _ _ hE).trans rfl
    clear hx
    simp [bodyPostD, Leaves, results, Try.results190, go_sem, x0, x1, x2, x3, x4, he]
    refine ⟨_, rfl, ?_, hb1⟩
    unfold goodG
    rw [hg.out]
    exact ⟨DS.nil, rfl, DGot.nil _ _⟩

theorem getD_any (w : World) (A : Option Addr) (n c a z : Nat) (k : Int) (bs : List UInt8) (hr : RdB w A n bs) (hbl : ∀ b off, A = some ⟨b, off, none⟩ → b < w.heap.size) (hn : n ≤ c) (hc : c ≤ 9223372036854775807) (hn2 : n ≤ 100000000) (hk1 : 1 ≤ k) (hk2 : k ≤ 65535) (ha : a ≤ 1000000000) :
    Calls Try.prog 190 #[.slice A n c, .int .i64 (a : Int), .int .i64 (z : Int), .int .i64 k] w (RetP (goodG bs a z k w) w) := by
  by_cases hz : a + z ≤ n
  · exact getD_ok w A n c a z k bs hr hbl hn hc hn2 hk1 hk2 hz
  · exact getD_short w A n c a z k bs hr.len ha hn2 hk1 hk2 (by omega)
end Go.Proofs.Ytimkdpkhdbiniaa
