/- Parts of a proof, joined: RdG8, RdG9, RrGet, MRd1, DecP, MRd2. -/
import Derived.Test.YtimkdpkhdbiniaaQ11
import Derived.Test.YtimkdpkhdbiniaaQ04
import Derived.Test.YtimkdpkhdbiniaaQ03
import Derived.Test.YtimkdpkhdbiniaaQ07
/- rdata.Get, whatever the bytes, the place, the size and the type. -/
namespace Go.Proofs.Ytimkdpkhdbiniaa
open Go.RowKit
set_option maxRecDepth 100000
set_option linter.unusedVariables false

set_option maxHeartbeats 400000 in
theorem getCatch_idle (a b : Value) (w : World) : CallsD Try.prog 198 #[a, b] .returning w fun e u' w' => e = .returned (.tuple #[]) ∧ u' = .returning ∧ w' = w := by
  refine callsD_of_wpS Try.func198 rfl fun c₀ cs hu => ?_
  apply wpS_seq
  apply wpS_region
  simp [wpOpsS, go_sem, recoverD, hu, Try.ntmps198, Exit.thenS]
  apply wpS_seq
  apply wpS_region
  simp [wpOpsS, go_sem, Exit.thenS]
  refine wpS_cond (t := false) (by simp [Act.eval, Array.replicate]) ?_
  simp only [Bool.false_eq_true, if_false]
  refine wpS_of_wp (wp_skip ?_)
  cases c₀
  simp_all [bodyPostS, results, Try.results198]

set_option maxHeartbeats 400000 in
theorem getCatch_panic (D E : Nat) (f z : Int) (v0 v1 v2 v3 v4 : Value) (older : List PanicEntry) (w : World) (hD : w.heap[D]? = some (.cells #[v0, v1, v2, v3, v4] 46 (0, 0))) (hE : w.heap[E]? = some (.cells #[.int .i64 z] 34 (0, 0))) (hne : D ≠ E) :
    CallsD Try.prog 198 #[.pointer (some ⟨D, 0, none⟩), .pointer (some ⟨E, 0, none⟩)] (.panicking ({ v := .iface 34 (.int .i64 f), recovered := false } :: older)) w fun e u' w' =>
      e = .returned (.tuple #[]) ∧ u' = .panicking ({ v := .iface 34 (.int .i64 f), recovered := true } :: older) ∧ w'.heap[D]? = some (.cells #[.slice none 0 0, .slice none 0 0, .slice none 0 0, .slice none 0 0, .slice none 0 0] 46 (0, 0)) ∧ w'.heap[E]? = some (.cells #[.int .i64 f] 34 (0, 0)) ∧ Chg (fun k => k = D ∨ k = E) w w' := by
  have x0 : w.cell? ⟨D, 0, none⟩ = some v0 := (cell_of_row _ _ _ _ _ _ hD).trans rfl
  have x1 : w.cell? ⟨D, 1, none⟩ = some v1 := (cell_of_row _ _ _ _ _ _ hD).trans rfl
  have x2 : w.cell? ⟨D, 2, none⟩ = some v2 := (cell_of_row _ _ _ _ _ _ hD).trans rfl
  have x3 : w.cell? ⟨D, 3, none⟩ = some v3 := (cell_of_row _ _ _ _ _ _ hD).trans rfl
  have x4 : w.cell? ⟨D, 4, none⟩ = some v4 := (cell_of_row _ _ _ _ _ _ hD).trans rfl
  have x5 : w.cell? ⟨E, 0, none⟩ = some (.int .i64 z) := (cell_of_row _ _ _ _ _ _ hE).trans rfl
  have f1 : ∀ k, w.frozen? ⟨D, k, none⟩ = false := fun k => frozen_of_row _ _ _ _ _ hD
  have f2 : ∀ k, w.frozen? ⟨E, k, none⟩ = false := fun k => frozen_of_row _ _ _ _ _ hE
  have hta : ∀ (xT : TypeId) (v : Value) (W : World), (Instr.typeAssert (.iface 34 v) xT 34 true).run Try.prog W = .ok (.tuple #[v, .bool true]) W := fun xT v W => by kernel_rfl
  refine callsD_of_wpS Try.func198 rfl fun c₀ cs hu => ?_
  apply wpS_seq
  apply wpS_region
  simp [wpOpsS, go_sem, recoverD, hu, Try.ntmps198, Exit.thenS]
  apply wpS_seq
  apply wpS_region
  simp [wpOpsS, go_sem, Exit.thenS]
  refine wpS_cond (t := true) (by simp [Act.eval, Array.replicate]) ?_
  simp only [if_true]
  refine wpS_of_wp ?_
  change Code.wp _ _ _ { tmps := #[.pointer (some ⟨D, 0, none⟩), .pointer (some ⟨E, 0, none⟩), .iface 34 (.int .i64 f), undef, undef, .iface 34 (.int .i64 f), .iface 34 (.int .i64 f), .bool true, undef, undef, undef, undef, undef, undef, undef, undef, undef, undef], defers := [] } w
  go_wp2
  obtain ⟨w5, hw5⟩ : ∃ w5, w5 = (((((w.setCell ⟨D, 0, none⟩ (.slice none 0 0)).setCell ⟨D, 1, none⟩ (.slice none 0 0)).setCell ⟨D, 2, none⟩ (.slice none 0 0)).setCell ⟨D, 3, none⟩ (.slice none 0 0)).setCell ⟨D, 4, none⟩ (.slice none 0 0)).setCell ⟨E, 0, none⟩ (.int .i64 f) := ⟨_, rfl⟩
  have hd5 : w5.heap[D]? = some (.cells #[.slice none 0 0, .slice none 0 0, .slice none 0 0, .slice none 0 0, .slice none 0 0] 46 (0, 0)) := by
    rw [hw5]
    exact (heap_setCell_other _ ⟨E, 0, none⟩ _ _ hne).trans ((heap_setCell_same _ _ _ _ _ _ (heap_setCell_same _ _ _ _ _ _ (heap_setCell_same _ _ _ _ _ _ (heap_setCell_same _ _ _ _ _ _ (heap_setCell_same _ _ _ _ _ _ hD))))).trans rfl)
  have he5 : w5.heap[E]? = some (.cells #[.int .i64 f] 34 (0, 0)) := by
    rw [hw5]
    have h1 : ∀ {u : World} (j : Nat) (v : Value), u.heap[E]? = some (.cells #[.int .i64 z] 34 (0, 0)) → (u.setCell ⟨D, j, none⟩ v).heap[E]? = some (.cells #[.int .i64 z] 34 (0, 0)) := fun j v h => (heap_setCell_other _ ⟨D, j, none⟩ _ v (Ne.symm hne)).trans h
    exact (heap_setCell_same _ _ 0 _ _ (.int .i64 f) (h1 4 (.slice none 0 0) (h1 3 (.slice none 0 0) (h1 2 (.slice none 0 0) (h1 1 (.slice none 0 0) (h1 0 (.slice none 0 0) hE)))))).trans rfl
  have hc5 : Chg (fun k => k = D ∨ k = E) w w5 := by
    rw [hw5]
    have h1 : ∀ {u : World} (j : Nat) (v : Value), Chg (fun k => k = D ∨ k = E) w u → Chg (fun k => k = D ∨ k = E) w (u.setCell ⟨D, j, none⟩ v) := fun j v h => h.setCell (p := ⟨D, j, none⟩) (Or.inl (.inl rfl)) v
    exact (h1 _ _ (h1 _ _ (h1 _ _ (h1 _ _ (h1 _ _ (Chg.refl _ w)))))).setCell (p := ⟨E, 0, none⟩) (Or.inl (.inr rfl)) _
  rw [← hw5]
  clear hw5
  simp [bodyPostS, results, Try.results198]
  exact ⟨hd5, he5, hc5⟩


theorem gdata_any (w : World) (p : Nat) (A : Option Addr) (n c pos en : Nat) (k : Int) (bs : List UInt8) (h : Rdr w p (.slice A n c) (pos : Int) (en : Int)) (hr : RdB w A n bs) (ho : offA A p) (hpe : pos ≤ en) (hen : en ≤ n) (hn : n ≤ c) (hc : c ≤ 9223372036854775807) (hn2 : n ≤ 100000000) :
    Calls Try.prog 199 #[.pointer (some ⟨p, 0, none⟩), shpV (shapeP k)] w (RdX (dataE bs pos en (shapeP k)) (goodD w.heap.size) w p (.slice A n c) en) := by
  rcases shape_cases k with e | e | e | e | e | e | e | e <;> rw [e]
  · exact gdataA_any w p A n c pos en bs h hr ho hpe hen hn hc hn2
  · exact gdataQ_any w p A n c pos en bs h hr ho hpe hen hn hc hn2
  · exact gdataN_any w p A n c pos en bs h hr ho hpe hen hn hc hn2
  · exact gdataM_any w p A n c pos en bs h hr ho hpe hen hn hc hn2
  · exact gdataS_any w p A n c pos en bs h hr ho hpe hen hn hc hn2
  · exact gdataV3_any w p A n c pos en bs h hr ho hpe hen hn hc hn2
  · exact gdataT_any w p A n c pos en bs h hr ho hpe hen hn hc hn2
  · exact gdataB_any w p A n c pos en bs h hr ho hpe hen hn hc hn2

/-- The result's two boxes, and the reader, as Get lays them. -/
structure GetSt (w wr : World) (bv : Value) (q en : Nat) : Prop where
  D : wr.heap[w.heap.size]? = some (.cells (dCells DS.nil Da.zero) 46 (0, 0))
  E : wr.heap[w.heap.size + 1]? = some (.cells #[.int .i64 0] 34 (0, 0))
  P : Rdr wr (w.heap.size + 2) bv (q : Int) (en : Int)
  bw : Below w.heap.size w wr
theorem GetSt.made (w : World) (bv : Value) (q en : Nat) : GetSt w (((w.alloc (.cells (dCells DS.nil Da.zero) 46)).alloc (.cells #[.int .i64 0] 34)).alloc (.cells #[bv, .int .i64 (q : Int), .int .i64 (en : Int)] 213)) bv q en := by
  have hz1 : (w.alloc (.cells (dCells DS.nil Da.zero) 46)).heap.size = w.heap.size + 1 := by simp
  have hz2 : ((w.alloc (.cells (dCells DS.nil Da.zero) 46)).alloc (.cells #[.int .i64 0] 34)).heap.size = w.heap.size + 2 := by simp
  refine ⟨(heap_alloc_old _ _ (by rw [hz2]; omega)).trans ((heap_alloc_old _ _ (by rw [hz1]; omega)).trans (heap_alloc_new w _)), ?_, ?_, nx (nx (bl.alloc (Nat.le_refl _) _) (bl.alloc (Nat.le_refl _) _)) (bl.alloc (Nat.le_refl _) _)⟩
  · refine (heap_alloc_old _ _ (by rw [hz2]; omega)).trans ?_
    rw [← hz1]
    exact heap_alloc_new _ _
  · unfold Rdr
    rw [← hz2]
    exact heap_alloc_new _ _
theorem GetSt.below {w wr w' : World} {bv : Value} {q en : Nat} (h : GetSt w wr bv q en) (hb : Below wr.heap.size wr w') : GetSt w w' bv q en :=
  ⟨(hb.block _ (Array.getElem?_eq_some_iff.1 h.D).1).trans h.D, (hb.block _ (Array.getElem?_eq_some_iff.1 h.E).1).trans h.E, h.P.below hb, nx h.bw hb⟩

def goodG (bs : List UInt8) (a z k : Int) (w : World) (v : Value) (w' : World) : Prop := ∃ s, v = .tuple #[dsV s (getD bs a z k).1, .int .i64 (getD bs a z k).2] ∧ DGot w' w.heap.size s (getD bs a z k).1
theorem dataE_get {bs : List UInt8} {a z : Nat} {k : Int} (hk : ¬ (k < 1 ∨ 65535 < k)) (hz : a + z ≤ bs.length) : getD bs a z k = match dataE bs a (a + z) (shapeP k) with | .error e => (Da.zero, e) | .ok (d, _) => (d, 0) := by
  unfold getD dataE
  rw [if_neg (by omega), if_neg (by omega), Int.toNat_natCast, Int.toNat_natCast]
  cases dataR bs a (a + z) (shapeP k) with
  | error e => rfl
  | ok r =>
    obtain ⟨d, q⟩ := r
    simp only
    by_cases h : q < a + z
    · rw [if_pos h, if_pos h]
    · rw [if_neg h, if_neg h]

set_option maxHeartbeats 2000000 in
theorem getD_ok (w : World) (A : Option Addr) (n c a z : Nat) (k : Int) (bs : List UInt8) (hr : RdB w A n bs) (hbl : ∀ b off, A = some ⟨b, off, none⟩ → b < w.heap.size) (hn : n ≤ c) (hc : c ≤ 9223372036854775807) (hn2 : n ≤ 100000000) (hk1 : 1 ≤ k) (hk2 : k ≤ 65535) (hz : a + z ≤ n) :
    Calls Try.prog 190 #[.slice A n c, .int .i64 (a : Int), .int .i64 (z : Int), .int .i64 k] w (RetP (goodG bs a z k w) w) := by
  have hmf : ∀ (fn : Fn) (first cap : Array Value) (w : World), (Instr.makeFunc fn first cap).run Try.prog w = .ok (.func fn first cap) w := fun _ _ _ _ => rfl
  have hg := Lib.hid (dataE_get (bs := bs) (a := a) (z := z) (k := k) (by omega) (by rw [hr.len]; omega))
  obtain ⟨w1, hw1⟩ : ∃ w1, w1 = ((w.alloc (.cells #[.slice none 0 0, .slice none 0 0, .slice none 0 0, .slice none 0 0, .slice none 0 0] 46)).alloc (.cells #[.int .i64 0] 34)).alloc (.cells #[.slice A n c, .int .i64 (a : Int), .int .i64 ((a : Int) + (z : Int))] 213) := ⟨_, rfl⟩
  have ST1 : Hid (GetSt w w1 (.slice A n c) a (a + z)) := by show GetSt _ _ _ _ _; rw [hw1]; exact GetSt.made w _ _ _
  have HR := Lib.hid (hr.below ST1.out.bw)
  have HO : Hid (offA A (w.heap.size + 2)) := fun b off e => by have := hbl b off e; omega
  clear hr hbl
  go_enter_defers Try.func190, Try.ntmps190
  go_upto_region 7 with (fail)
  rw [← hw1]
  clear hw1
  cases hx : dataE bs a (a + z) (shapeP k) with
  | error x =>
    have HX := Lib.hid hx
    clear hx
    go_wp2_with (first
      | (go_at_call 199; refine (gdata_any w2 (w.heap.size + 2) A n c a (a + z) k bs ST2.out.P (HR.out.below hb2) HO.out (Nat.le_add_right _ _) hz hn hc hn2).mono ?_; rw [HX.out]; rintro e w3 ⟨rfl, hc3⟩; have HD3 := Lib.hid (hc3.heap ST2.out.D (by omega)); have HE3 := Lib.hid (hc3.heap ST2.out.E (by omega)))
      | (go_at_call 156; refine (shapes_any k w1).mono ?_; rintro e w2 ⟨v2, rfl, rfl, hb2⟩; have ST2 := Lib.hid (ST1.out.below hb2))
      | fail)
    have e0 : getD bs a z k = (Da.zero, x) := by rw [hg.out, HX.out]
    have HEQ := Lib.hid e0
    clear e0
    refine leaves_cons (f := 198) (args := #[.pointer (some ⟨w.heap.size, 0, none⟩), .pointer (some ⟨w.heap.size + 1, 0, none⟩)]) (by simp) (by simp [go_sem]) ?_
    refine (getCatch_panic w.heap.size (w.heap.size + 1) x 0 _ _ _ _ _ [] w3 HD3.out HE3.out (by omega)).mono ?_
    rintro e u' w5 ⟨rfl, rfl, hd5, he5', hc5⟩
    have he5 : w5.cell? ⟨w.heap.size + 1, 0, none⟩ = some (.int .i64 x) := (cell_of_row _ _ _ _ _ _ he5').trans rfl
    have hx : ∀ j : Nat, w5.cell? ⟨w.heap.size, j, none⟩ = (#[.slice none 0 0, .slice none 0 0, .slice none 0 0, .slice none 0 0, .slice none 0 0] : Array Value)[j]? := fun j => cell_of_row _ _ _ _ _ _ hd5
    have x0 : w5.cell? ⟨w.heap.size, 0, none⟩ = some (.slice none 0 0) := hx 0
    have x1 : w5.cell? ⟨w.heap.size, 1, none⟩ = some (.slice none 0 0) := hx 1
    have x2 : w5.cell? ⟨w.heap.size, 2, none⟩ = some (.slice none 0 0) := hx 2
    have x3 : w5.cell? ⟨w.heap.size, 3, none⟩ = some (.slice none 0 0) := hx 3
    have x4 : w5.cell? ⟨w.heap.size, 4, none⟩ = some (.slice none 0 0) := hx 4
    have hbA : Below w.heap.size w w5 := by
      have h2 : Chg (fun k => k = w.heap.size ∨ k = w.heap.size + 1 ∨ k = w.heap.size + 2) w2 w5 := (hc3.mono (G := fun k => k = w.heap.size ∨ k = w.heap.size + 1 ∨ k = w.heap.size + 2) (fun _ h => .inl (.inr (.inr h)))).trans hc5 (fun _ h => .inl (h.elim .inl (fun h => .inr (.inl h))))
      exact ST2.out.bw.trans (h2.below (fun x hx => by omega) ST2.out.bw.size)
    simp [Leaves, settle, results, Try.results190, go_sem, x0, x1, x2, x3, x4, he5]
    refine ⟨_, rfl, ?_, hbA⟩
    unfold goodG
    rw [HEQ.out]
    exact ⟨DS.nil, rfl, DGot.nil _ _⟩
  | ok r =>
    obtain ⟨d, q⟩ := r
    have HX := Lib.hid hx
    clear hx
    go_wp2_with (first
      | (go_at_call 199; refine (gdata_any w2 (w.heap.size + 2) A n c a (a + z) k bs ST2.out.P (HR.out.below hb2) HO.out (Nat.le_add_right _ _) hz hn hc hn2).mono ?_; rw [HX.out]; rintro e w3 ⟨v3, rfl, ⟨s3, rfl, hgot3⟩, hp3, hc3⟩; unfold dsV; have HD3 := Lib.hid (hc3.heap ST2.out.D (by omega)); have HE3 := Lib.hid (hc3.heap ST2.out.E (by omega)); have x0 : w3.cell? ⟨w.heap.size, 0, none⟩ = some (.slice none 0 0) := (cell_of_row _ _ _ _ _ _ HD3.out).trans rfl; have x1 : w3.cell? ⟨w.heap.size, 1, none⟩ = some (.slice none 0 0) := (cell_of_row _ _ _ _ _ _ HD3.out).trans rfl; have x2 : w3.cell? ⟨w.heap.size, 2, none⟩ = some (.slice none 0 0) := (cell_of_row _ _ _ _ _ _ HD3.out).trans rfl; have x3 : w3.cell? ⟨w.heap.size, 3, none⟩ = some (.slice none 0 0) := (cell_of_row _ _ _ _ _ _ HD3.out).trans rfl; have x4 : w3.cell? ⟨w.heap.size, 4, none⟩ = some (.slice none 0 0) := (cell_of_row _ _ _ _ _ _ HD3.out).trans rfl; have x5 : w3.cell? ⟨w.heap.size + 1, 0, none⟩ = some (.int .i64 0) := (cell_of_row _ _ _ _ _ _ HE3.out).trans rfl; have f3 : ∀ k, w3.frozen? ⟨w.heap.size, k, none⟩ = false := fun k => frozen_of_row _ _ _ _ _ HD3.out; have f4 : ∀ k, w3.frozen? ⟨w.heap.size + 1, k, none⟩ = false := fun k => frozen_of_row _ _ _ _ _ HE3.out)
      | (go_at_call 156; refine (shapes_any k w1).mono ?_; rintro e w2 ⟨v2, rfl, rfl, hb2⟩; have ST2 := Lib.hid (ST1.out.below hb2))
      | fail)
    have e0 : getD bs a z k = (d, 0) := by rw [hg.out, HX.out]
    have HEQ := Lib.hid e0
    clear e0
    obtain ⟨w5, hw5⟩ : ∃ w5, w5 = (((((w3.setCell ⟨w.heap.size, 0, none⟩ (.slice s3.A0 d.bytes.length s3.c0)).setCell ⟨w.heap.size, 1, none⟩ (.slice s3.A1 d.host.length s3.c1)).setCell ⟨w.heap.size, 2, none⟩ (.slice s3.A2 d.mail.length s3.c2)).setCell ⟨w.heap.size, 3, none⟩ (.slice s3.A3 d.nums.length s3.c3)).setCell ⟨w.heap.size, 4, none⟩ (.slice s3.A4 d.texts.length s3.c4)).setCell ⟨w.heap.size + 1, 0, none⟩ (.int .i64 0) := ⟨_, rfl⟩
    have hd5 : w5.heap[w.heap.size]? = some (.cells (dCells s3 d) 46 (0, 0)) := by
      rw [hw5]
      exact (heap_setCell_other _ ⟨w.heap.size + 1, 0, none⟩ _ _ (Nat.ne_of_lt (Nat.lt_succ_self _))).trans ((heap_setCell_same _ _ _ _ _ _ (heap_setCell_same _ _ _ _ _ _ (heap_setCell_same _ _ _ _ _ _ (heap_setCell_same _ _ _ _ _ _ (heap_setCell_same _ _ _ _ _ _ HD3.out))))).trans rfl)
    have hc5 : Chg (fun k => k = w.heap.size ∨ k = w.heap.size + 1) w3 w5 := by
      rw [hw5]
      have h1 : ∀ {u : World} (j : Nat) (v : Value), Chg (fun k => k = w.heap.size ∨ k = w.heap.size + 1) w3 u → Chg (fun k => k = w.heap.size ∨ k = w.heap.size + 1) w3 (u.setCell ⟨w.heap.size, j, none⟩ v) := fun j v h => h.setCell (p := ⟨w.heap.size, j, none⟩) (Or.inl (.inl rfl)) v
      exact (h1 _ _ (h1 _ _ (h1 _ _ (h1 _ _ (h1 _ _ (Chg.refl _ w3)))))).setCell (p := ⟨w.heap.size + 1, 0, none⟩) (Or.inl (.inr rfl)) _
    have he5 : w5.cell? ⟨w.heap.size + 1, 0, none⟩ = some (.int .i64 0) := by
      rw [hw5]
      have h1 : ∀ {u : World} (j : Nat) (v : Value), u.heap[w.heap.size + 1]? = some (.cells #[.int .i64 0] 34 (0, 0)) → (u.setCell ⟨w.heap.size, j, none⟩ v).heap[w.heap.size + 1]? = some (.cells #[.int .i64 0] 34 (0, 0)) := fun j v h => (heap_setCell_other _ ⟨w.heap.size, j, none⟩ _ v (Nat.ne_of_gt (Nat.lt_succ_self _))).trans h
      have h2 := heap_setCell_same _ _ 0 _ _ (.int .i64 0) (h1 4 (.slice s3.A4 d.texts.length s3.c4) (h1 3 (.slice s3.A3 d.nums.length s3.c3) (h1 2 (.slice s3.A2 d.mail.length s3.c2) (h1 1 (.slice s3.A1 d.host.length s3.c1) (h1 0 (.slice s3.A0 d.bytes.length s3.c0) HE3.out)))))
      exact (cell_of_row _ _ _ _ _ _ h2).trans rfl
    rw [← hw5]
    clear hw5 x0 x1 x2 x3 x4 x5 f3 f4
    have hx : ∀ j : Nat, w5.cell? ⟨w.heap.size, j, none⟩ = (dCells s3 d)[j]? := fun j => cell_of_row _ _ _ _ _ _ hd5
    have x0 : w5.cell? ⟨w.heap.size, 0, none⟩ = some (.slice s3.A0 d.bytes.length s3.c0) := hx 0
    have x1 : w5.cell? ⟨w.heap.size, 1, none⟩ = some (.slice s3.A1 d.host.length s3.c1) := hx 1
    have x2 : w5.cell? ⟨w.heap.size, 2, none⟩ = some (.slice s3.A2 d.mail.length s3.c2) := hx 2
    have x3 : w5.cell? ⟨w.heap.size, 3, none⟩ = some (.slice s3.A3 d.nums.length s3.c3) := hx 3
    have x4 : w5.cell? ⟨w.heap.size, 4, none⟩ = some (.slice s3.A4 d.texts.length s3.c4) := hx 4
    have hz2 : w.heap.size + 2 < w2.heap.size := ST2.out.P.lt
    have hgot : DGot w5 w.heap.size s3 d := (hgot3.chg hc5 (fun k h1 _ h2 => by omega)).base_le (by omega)
    have hbA : Below w.heap.size w w5 := by
      have h2 : Chg (fun k => k = w.heap.size ∨ k = w.heap.size + 1 ∨ k = w.heap.size + 2) w2 w5 := (hc3.mono (G := fun k => k = w.heap.size ∨ k = w.heap.size + 1 ∨ k = w.heap.size + 2) (fun _ h => .inl (.inr (.inr h)))).trans hc5 (fun _ h => .inl (h.elim .inl (fun h => .inr (.inl h))))
      exact ST2.out.bw.trans (h2.below (fun x hx => by omega) ST2.out.bw.size)
    refine leaves_cons (f := 198) (args := #[.pointer (some ⟨w.heap.size, 0, none⟩), .pointer (some ⟨w.heap.size + 1, 0, none⟩)]) (by simp) (by simp [go_sem]) ?_
    refine (getCatch_idle _ _ _).mono ?_
    rintro e u' w'' ⟨rfl, rfl, rfl⟩
    simp [Leaves, settle, results, Try.results190, go_sem, x0, x1, x2, x3, x4, he5]
    refine ⟨_, rfl, ?_, hbA⟩
    unfold goodG
    rw [HEQ.out]
    exact ⟨s3, rfl, hgot⟩
end Go.Proofs.Ytimkdpkhdbiniaa

/- rdata.Get where the bytes end too early; at any place. -/
namespace Go.Proofs.Ytimkdpkhdbiniaa
open Go.RowKit
set_option maxRecDepth 100000
set_option linter.unusedVariables false

set_option maxHeartbeats 2000000 in
theorem getD_short (w : World) (A : Option Addr) (n c a z : Nat) (k : Int) (bs : List UInt8) (hl : bs.length = n) (ha : a ≤ 1000000000) (hn2 : n ≤ 100000000) (hk1 : 1 ≤ k) (hk2 : k ≤ 65535) (hz : n < a + z) :
    Calls Try.prog 190 #[.slice A n c, .int .i64 (a : Int), .int .i64 (z : Int), .int .i64 k] w (RetP (goodG bs a z k w) w) := by
  have hg : Hid (getD bs a z k = (Da.zero, 3)) := by
    show _ = _
    unfold getD
    rw [if_neg (by omega), if_pos (by omega)]
  by_cases han : n < a
  · go_enter_defers Try.func190, Try.ntmps190
    go_wp2
    obtain ⟨w1, hw1⟩ : ∃ w1, w1 = (w.alloc (.cells #[.slice none 0 0, .slice none 0 0, .slice none 0 0, .slice none 0 0, .slice none 0 0] 46)).alloc (.cells #[.int .i64 3] 34) := ⟨_, rfl⟩
    have hD : w1.heap[w.heap.size]? = some (.cells #[.slice none 0 0, .slice none 0 0, .slice none 0 0, .slice none 0 0, .slice none 0 0] 46 (0, 0)) := by
      rw [hw1]
      exact (heap_alloc_old _ _ (by simp)).trans (heap_alloc_new w _)
    have hE : w1.heap[w.heap.size + 1]? = some (.cells #[.int .i64 3] 34 (0, 0)) := by
      rw [hw1, show w.heap.size + 1 = (w.alloc (.cells #[.slice none 0 0, .slice none 0 0, .slice none 0 0, .slice none 0 0, .slice none 0 0] 46)).heap.size by simp]
      exact heap_alloc_new _ _
    have hb1 : Below w.heap.size w w1 := by rw [hw1]; exact nx (bl.alloc (Nat.le_refl _) _) (bl.alloc (Nat.le_refl _) _)
    rw [← hw1]
    have hx : ∀ j : Nat, w1.cell? ⟨w.heap.size, j, none⟩ = (#[.slice none 0 0, .slice none 0 0, .slice none 0 0, .slice none 0 0, .slice none 0 0] : Array Value)[j]? := fun j => cell_of_row _ _ _ _ _ _ hD
    have x0 : w1.cell? ⟨w.heap.size, 0, none⟩ = some (.slice none 0 0) := hx 0
    have x1 : w1.cell? ⟨w.heap.size, 1, none⟩ = some (.slice none 0 0) := hx 1
    have x2 : w1.cell? ⟨w.heap.size, 2, none⟩ = some (.slice none 0 0) := hx 2
    have x3 : w1.cell? ⟨w.heap.size, 3, none⟩ = some (.slice none 0 0) := hx 3
    have x4 : w1.cell? ⟨w.heap.size, 4, none⟩ = some (.slice none 0 0) := hx 4
    have he : w1.cell? ⟨w.heap.size + 1, 0, none⟩ = some (.int .i64 3) := (cell_of_row _ _ _ _ _ _ hE).trans rfl
    clear hx
    simp [bodyPostD, Leaves, results, Try.results190, go_sem, x0, x1, x2, x3, x4, he]
    refine ⟨_, rfl, ?_, hb1⟩
    unfold goodG
    rw [hg.out]
    exact ⟨DS.nil, rfl, DGot.nil _ _⟩
  · have hq1 : (n : Int) - (a : Int) < (z : Int) := by omega
    go_enter_defers Try.func190, Try.ntmps190
    go_wp2
    obtain ⟨w1, hw1⟩ : ∃ w1, w1 = (w.alloc (.cells #[.slice none 0 0, .slice none 0 0, .slice none 0 0, .slice none 0 0, .slice none 0 0] 46)).alloc (.cells #[.int .i64 3] 34) := ⟨_, rfl⟩
    have hD : w1.heap[w.heap.size]? = some (.cells #[.slice none 0 0, .slice none 0 0, .slice none 0 0, .slice none 0 0, .slice none 0 0] 46 (0, 0)) := by
      rw [hw1]
      exact (heap_alloc_old _ _ (by simp)).trans (heap_alloc_new w _)
    have hE : w1.heap[w.heap.size + 1]? = some (.cells #[.int .i64 3] 34 (0, 0)) := by
      rw [hw1, show w.heap.size + 1 = (w.alloc (.cells #[.slice none 0 0, .slice none 0 0, .slice none 0 0, .slice none 0 0, .slice none 0 0] 46)).heap.size by simp]
      exact heap_alloc_new _ _
    have hb1 : Below w.heap.size w w1 := by rw [hw1]; exact nx (bl.alloc (Nat.le_refl _) _) (bl.alloc (Nat.le_refl _) _)
    rw [← hw1]
    have hx : ∀ j : Nat, w1.cell? ⟨w.heap.size, j, none⟩ = (#[.slice none 0 0, .slice none 0 0, .slice none 0 0, .slice none 0 0, .slice none 0 0] : Array Value)[j]? := fun j => cell_of_row _ _ _ _ _ _ hD
    have x0 : w1.cell? ⟨w.heap.size, 0, none⟩ = some (.slice none 0 0) := hx 0
    have x1 : w1.cell? ⟨w.heap.size, 1, none⟩ = some (.slice none 0 0) := hx 1
    have x2 : w1.cell? ⟨w.heap.size, 2, none⟩ = some (.slice none 0 0) := hx 2
    have x3 : w1.cell? ⟨w.heap.size, 3, none⟩ = some (.slice none 0 0) := hx 3
    have x4 : w1.cell? ⟨w.heap.size, 4, none⟩ = some (.slice none 0 0) := hx 4
    have he : w1.cell? ⟨w.heap.size + 1, 0, none⟩ = some (.int .i64 3) := (cell_of_row _ _ _ _ _ _ hE).trans rfl
    clear hx
    simp [bodyPostD, Leaves, results, Try.results190, go_sem, x0, x1, x2, x3, x4, he]
    refine ⟨_, rfl, ?_, hb1⟩
    unfold goodG
    rw [hg.out]
    exact ⟨DS.nil, rfl, DGot.nil _ _⟩

theorem getD_any (w : World) (A : Option Addr) (n c a z : Nat) (k : Int) (bs : List UInt8) (hr : RdB w A n bs) (hbl : ∀ b off, A = some ⟨b, off, none⟩ → b < w.heap.size) (hn : n ≤ c) (hc : c ≤ 9223372036854775807) (hn2 : n ≤ 100000000) (hk1 : 1 ≤ k) (hk2 : k ≤ 65535) (ha : a ≤ 1000000000) :
    Calls Try.prog 190 #[.slice A n c, .int .i64 (a : Int), .int .i64 (z : Int), .int .i64 k] w (RetP (goodG bs a z k w) w) := by
  by_cases hz : a + z ≤ n
  · exact getD_ok w A n c a z k bs hr hbl hn hc hn2 hk1 hk2 hz
  · exact getD_short w A n c a z k bs hr.len ha hn2 hk1 hk2 (by omega)
end Go.Proofs.Ytimkdpkhdbiniaa

/- rr.Get, whatever the bytes and the place. -/
namespace Go.Proofs.Ytimkdpkhdbiniaa
open Go.RowKit
set_option maxRecDepth 100000
set_option linter.unusedVariables false

def goodRR (bs : List UInt8) (a : Int) (w : World) (v : Value) (w' : World) : Prop := ∃ s, v = .tuple #[rrV s (getRR bs a).1, .int .i64 (getRR bs a).2.1, .int .i64 (getRR bs a).2.2] ∧ RGot w' w.heap.size s (getRR bs a).1

set_option maxHeartbeats 8000000 in
theorem rrget_any (w : World) (A : Option Addr) (n c : Nat) (a : Int) (bs : List UInt8) (hr : RdB w A n bs) (hbl : ∀ b off, A = some ⟨b, off, none⟩ → b < w.heap.size) (hn : n ≤ c) (hc : c ≤ 9223372036854775807) (hn2 : n ≤ 100000000) :
    Calls Try.prog 182 #[.slice A n c, .int .i64 a] w (RetP (goodRR bs a w) w) := by
  have hl := hr.len
  obtain ⟨w0, hw0⟩ : ∃ w0, w0 = w.alloc (.cells #[.slice none 0 0, .int .i64 0, .int .i64 0, .int .i64 0, .slice none 0 0, .slice none 0 0, .slice none 0 0, .slice none 0 0, .slice none 0 0] 84) := ⟨_, rfl⟩
  have ST0 : Hid (RgSt w w0 RS.nil RR.zero) := by show RgSt _ _ _ _; rw [hw0]; exact RgSt.start w
  have HR := Lib.hid hr
  have HB := Lib.hid hbl
  clear hr hbl
  have hwg : ∀ w1 : World, RdB w1 A n bs → Calls Try.prog 164 #[.slice A n c, .int .i64 a] w1 (RetW (nameA bs a) w1) := fun w1 h1 => wget_any A n c bs a w1 h1 hn (by omega)
  have hnn := nameA_nn bs a
  have hnl := nameA_le bs a
  obtain ⟨⟨ls, nxt, er⟩, hg⟩ : ∃ g, g = nameA bs a := ⟨_, rfl⟩
  rw [← hg] at hnn hnl hwg
  have HG := Lib.hid hg.symm
  clear hg
  simp only at hnn hnl
  have HW := Lib.hid hwg
  clear hwg
  have x0 := ST0.out.R.free
  go_enter Try.func182, Try.ntmps182
  go_upto_region 1 with (fail)
  rw [← hw0]
  clear hw0
  go_upto_region 2 with (first
    | (go_at_call 164; refine (HW.out w0 (HR.out.below ST0.out.bw)).mono ?_; rintro e w1 ⟨v1, rfl, hown1, hb1⟩; have ST1 := Lib.hid (ST0.out.below hb1); obtain ⟨A1, k1, rfl, _⟩ := OwnE.form hown1; have y0 := ST1.out.R.free; have y1 := ST1.out.R.cells.1)
    | fail)
  obtain ⟨w2, hw2⟩ : ∃ w2, w2 = w1.setCell ⟨w.heap.size, 0, none⟩ (.slice A1 ls.length k1) := ⟨_, rfl⟩
  have hs2 := ST1.out.name (OwnE.base_le hown1 (Nat.succ_le_of_lt ST0.out.R.lt))
  rw [← hw2] at hs2
  have ST2 := Lib.hid hs2
  rw [← hw2]
  clear hw2 hs2 y0 y1 x0 hown1
  by_cases he : er = 0
  · subst he
    obtain ⟨p, rfl⟩ := Int.eq_ofNat_of_zero_le hnn
    have hpl := hnl rfl
    have hpl' : p ≤ n := by omega
    clear hnn hnl
    have hR1 : Hid (getRR bs a = getRR1 bs ls p) := by
      show _ = _
      unfold getRR
      rw [HG.out, if_neg (fun h => h rfl)]
      rfl
    by_cases hlt : n < p + 10
    · have h1 : (n : Int) - (p : Int) < 10 := by omega
      have HEQ : Hid (getRR bs a = (RR.zero, 0, 3)) := by show _ = _; rw [hR1.out]; unfold getRR1; rw [if_pos (by omega)]
      have yf := ST2.out.R.free
      have u0 := ST2.out.R.cell 0
      have u1 := ST2.out.R.cell 1
      have u2 := ST2.out.R.cell 2
      have u3 := ST2.out.R.cell 3
      have u4 := ST2.out.R.cell 4
      have u5 := ST2.out.R.cell 5
      have u6 := ST2.out.R.cell 6
      have u7 := ST2.out.R.cell 7
      have u8 := ST2.out.R.cell 8
      simp only [rrCells, List.getElem?_toArray, List.getElem?_cons_zero, List.getElem?_cons_succ] at u0 u1 u2 u3 u4 u5 u6 u7 u8
      go_wp2
      obtain ⟨wm, hwm⟩ : ∃ u, u = (((((((((w2.setCell ⟨w.heap.size, 0, none⟩ (.slice none 0 0)).setCell ⟨w.heap.size, 1, none⟩ (.int .i64 0)).setCell ⟨w.heap.size, 2, none⟩ (.int .i64 0)).setCell ⟨w.heap.size, 3, none⟩ (.int .i64 0)).setCell ⟨w.heap.size, 4, none⟩ (.slice none 0 0)).setCell ⟨w.heap.size, 5, none⟩ (.slice none 0 0)).setCell ⟨w.heap.size, 6, none⟩ (.slice none 0 0)).setCell ⟨w.heap.size, 7, none⟩ (.slice none 0 0)).setCell ⟨w.heap.size, 8, none⟩ (.slice none 0 0)) := ⟨_, rfl⟩
      have STm : Hid (RgSt w wm RS.nil RR.zero) := by show RgSt _ _ _ _; rw [hwm]; exact ST2.out.nine (s' := RS.nil) (x' := RR.zero) (RGot.nil _ _)
      rw [← hwm]
      clear hwm yf u0 u1 u2 u3 u4 u5 u6 u7 u8
      have z0 : wm.cell? ⟨w.heap.size, 0, none⟩ = some (.slice none 0 0) := (STm.out.R.cell 0).trans rfl
      have z1 : wm.cell? ⟨w.heap.size, 1, none⟩ = some (.int .i64 0) := (STm.out.R.cell 1).trans rfl
      have z2 : wm.cell? ⟨w.heap.size, 2, none⟩ = some (.int .i64 0) := (STm.out.R.cell 2).trans rfl
      have z3 : wm.cell? ⟨w.heap.size, 3, none⟩ = some (.int .i64 0) := (STm.out.R.cell 3).trans rfl
      have z4 : wm.cell? ⟨w.heap.size, 4, none⟩ = some (.slice none 0 0) := (STm.out.R.cell 4).trans rfl
      have z5 : wm.cell? ⟨w.heap.size, 5, none⟩ = some (.slice none 0 0) := (STm.out.R.cell 5).trans rfl
      have z6 : wm.cell? ⟨w.heap.size, 6, none⟩ = some (.slice none 0 0) := (STm.out.R.cell 6).trans rfl
      have z7 : wm.cell? ⟨w.heap.size, 7, none⟩ = some (.slice none 0 0) := (STm.out.R.cell 7).trans rfl
      have z8 : wm.cell? ⟨w.heap.size, 8, none⟩ = some (.slice none 0 0) := (STm.out.R.cell 8).trans rfl
      refine bodyPost_ret (v := .tuple #[.agg #[.slice none 0 0, .int .i64 0, .int .i64 0, .int .i64 0, .slice none 0 0, .slice none 0 0, .slice none 0 0, .slice none 0 0, .slice none 0 0], .int .i64 0, .int .i64 (3)]) ?_ rfl ⟨_, rfl, ?_, STm.out.bw⟩
      · simp [results, Try.results182, go_sem, z0, z1, z2, z3, z4, z5, z6, z7, z8]
      · unfold goodRR
        rw [HEQ.out]
        exact ⟨RS.nil, rfl, STm.out.G.base_le (Nat.le_succ _)⟩
    · have h1 : ¬ (n : Int) - (p : Int) < 10 := by omega
      have hg0 : Hid (getN bs (p : Int) 2 = ((numA bs p 2 : Int), 0)) := numA_get (b := bs) (p := p) (k := 2) (by omega) (by decide) (by decide)
      have hg2 : Hid (getN bs ((p : Int) + 2) 2 = ((numA bs (p + 2) 2 : Int), 0)) := numA_get (b := bs) (p := p + 2) (k := 2) (by omega) (by decide) (by decide)
      have hg4 : Hid (getN bs ((p : Int) + 4) 4 = ((numA bs (p + 4) 4 : Int), 0)) := numA_get (b := bs) (p := p + 4) (k := 4) (by omega) (by decide) (by decide)
      have hg8 : Hid (getN bs ((p : Int) + 8) 2 = ((numA bs (p + 8) 2 : Int), 0)) := numA_get (b := bs) (p := p + 8) (k := 2) (by omega) (by decide) (by decide)
      have hl0 : numA bs p 2 < 65536 := numA_2
      have hl8 : numA bs (p + 8) 2 < 65536 := numA_2
      have hl4 : numA bs (p + 4) 4 < 4294967296 := numA_4
      have HT4 : Hid (ttlA bs p = if 2147483648 ≤ numA bs (p + 4) 4 then 0 else (numA bs (p + 4) 4 : Int)) := rfl
      have hR2 : Hid (getRR bs a = if numA bs p 2 = 0 then (RR.zero, 0, 2) else if (getD bs ((p + 10 : Nat) : Int) (numA bs (p + 8) 2 : Int) (numA bs p 2 : Int)).2 ≠ 0 then (RR.zero, 0, (getD bs ((p + 10 : Nat) : Int) (numA bs (p + 8) 2 : Int) (numA bs p 2 : Int)).2) else (⟨ls, (numA bs p 2 : Int), (numA bs (p + 2) 2 : Int), ttlA bs p, (getD bs ((p + 10 : Nat) : Int) (numA bs (p + 8) 2 : Int) (numA bs p 2 : Int)).1⟩, ((p + 10 + numA bs (p + 8) 2 : Nat) : Int), 0)) := by show _ = _; rw [hR1.out]; unfold getRR1; rw [if_neg (by omega)]
      clear hR1
      generalize numA bs p 2 = T at hg0 hl0 hR2
      generalize numA bs (p + 2) 2 = C at hg2 hR2
      generalize numA bs (p + 4) 4 = L at hg4 hl4 HT4
      generalize numA bs (p + 8) 2 = Z at hg8 hl8 hR2
      obtain ⟨L2, hL2, hL3⟩ : ∃ L2 : Int, ttlA bs p = L2 ∧ ((2147483648 ≤ L ∧ L2 = 0) ∨ (L < 2147483648 ∧ L2 = (L : Int))) := by
        refine ⟨_, rfl, ?_⟩
        rw [HT4.out]
        by_cases h : 2147483648 ≤ L
        · exact .inl ⟨h, by rw [if_pos h]⟩
        · exact .inr ⟨by omega, by rw [if_neg h]⟩
      rw [hL2] at hR2
      clear hL2 HT4
      have y0 := ST2.out.R.free
      have yc := ST2.out.R.cell 1
      simp only [rrCells, List.getElem?_toArray, List.getElem?_cons_zero, List.getElem?_cons_succ] at yc
      go_upto_region 7 with (first
        | (go_at_call 161; refine (get_any A n c bs (p : Int) 2 w2 (HR.out.below ST2.out.bw) hn (by omega)).mono ?_; rw [hg0.out]; rintro e u ⟨rfl, rfl⟩)
        | fail)
      clear y0 yc
      obtain ⟨w3, hwb⟩ : ∃ u, u = w2.setCell ⟨w.heap.size, 1, none⟩ (.int .i64 ((T : Int))) := ⟨_, rfl⟩
      have hsb := ST2.out.type ((T : Int))
      rw [← hwb] at hsb
      have ST3 := Lib.hid hsb
      rw [← hwb]
      clear hwb hsb
      have y0 := ST3.out.R.free
      have yc := ST3.out.R.cell 2
      simp only [rrCells, List.getElem?_toArray, List.getElem?_cons_zero, List.getElem?_cons_succ] at yc
      go_upto_region 8 with (first
        | (go_at_call 161; refine (get_any A n c bs ((p : Int) + 2) 2 w3 (HR.out.below ST3.out.bw) hn (by omega)).mono ?_; rw [hg2.out]; rintro e u ⟨rfl, rfl⟩)
        | fail)
      clear y0 yc
      obtain ⟨w4, hwb⟩ : ∃ u, u = w3.setCell ⟨w.heap.size, 2, none⟩ (.int .i64 ((C : Int))) := ⟨_, rfl⟩
      have hsb := ST3.out.cls ((C : Int))
      rw [← hwb] at hsb
      have ST4 := Lib.hid hsb
      rw [← hwb]
      clear hwb hsb
      have y0 := ST4.out.R.free
      have yc := ST4.out.R.cell 3
      simp only [rrCells, List.getElem?_toArray, List.getElem?_cons_zero, List.getElem?_cons_succ] at yc
      go_upto_region 9 with (first
        | (go_at_call 161; refine (get_any A n c bs ((p : Int) + 4) 4 w4 (HR.out.below ST4.out.bw) hn (by omega)).mono ?_; rw [hg4.out]; rintro e u ⟨rfl, rfl⟩)
        | fail)
      clear y0 yc
      obtain ⟨w5, hwb⟩ : ∃ u, u = w4.setCell ⟨w.heap.size, 3, none⟩ (.int .i64 ((L : Int))) := ⟨_, rfl⟩
      have hsb := ST4.out.ttl ((L : Int))
      rw [← hwb] at hsb
      have ST5 := Lib.hid hsb
      rw [← hwb]
      clear hwb hsb
      have y0 := ST5.out.R.free
      go_upto_region 10 with (first
        | (go_at_call 161; refine (get_any A n c bs ((p : Int) + 8) 2 w5 (HR.out.below ST5.out.bw) hn (by omega)).mono ?_; rw [hg8.out]; rintro e u ⟨rfl, rfl⟩)
        | fail)
      clear y0
      rcases hL3 with ⟨hL3, rfl⟩ | ⟨hL3, rfl⟩
      · have y0 := ST5.out.R.free
        have y3 : w5.cell? ⟨w.heap.size, 3, none⟩ = some (.int .i64 (L : Int)) := ST5.out.R.cells.2.2.2.1
        have hL4 : (2147483648 : Int) ≤ (L : Int) := by omega
        clear hL3
        go_upto_region 12 with (fail)
        clear y0 y3 hL4 hl4
        obtain ⟨w6, hw6⟩ : ∃ u, u = w5.setCell ⟨w.heap.size, 3, none⟩ (.int .i64 0) := ⟨_, rfl⟩
        have hs6 := ST5.out.ttl 0
        rw [← hw6] at hs6 ⊢
        clear hw6
        have ST6 := Lib.hid hs6
        clear hs6 ST5
        clear ST4 ST3 ST2 ST1 ST0 hg0 hg2 hg4 hg8
        have y1 : w6.cell? ⟨w.heap.size, 1, none⟩ = some (.int .i64 (T : Int)) := ST6.out.R.cells.2.1
        by_cases hT : T = 0
        · subst hT
          have HEQ : Hid (getRR bs a = (RR.zero, 0, 2)) := by show _ = _; rw [hR2.out, if_pos rfl]
          have yf := ST6.out.R.free
          have u0 := ST6.out.R.cell 0
          have u1 := ST6.out.R.cell 1
          have u2 := ST6.out.R.cell 2
          have u3 := ST6.out.R.cell 3
          have u4 := ST6.out.R.cell 4
          have u5 := ST6.out.R.cell 5
          have u6 := ST6.out.R.cell 6
          have u7 := ST6.out.R.cell 7
          have u8 := ST6.out.R.cell 8
          simp only [rrCells, List.getElem?_toArray, List.getElem?_cons_zero, List.getElem?_cons_succ] at u0 u1 u2 u3 u4 u5 u6 u7 u8
          go_wp2
          obtain ⟨wm, hwm⟩ : ∃ u, u = (((((((((w6.setCell ⟨w.heap.size, 0, none⟩ (.slice none 0 0)).setCell ⟨w.heap.size, 1, none⟩ (.int .i64 0)).setCell ⟨w.heap.size, 2, none⟩ (.int .i64 0)).setCell ⟨w.heap.size, 3, none⟩ (.int .i64 0)).setCell ⟨w.heap.size, 4, none⟩ (.slice none 0 0)).setCell ⟨w.heap.size, 5, none⟩ (.slice none 0 0)).setCell ⟨w.heap.size, 6, none⟩ (.slice none 0 0)).setCell ⟨w.heap.size, 7, none⟩ (.slice none 0 0)).setCell ⟨w.heap.size, 8, none⟩ (.slice none 0 0)) := ⟨_, rfl⟩
          have STm : Hid (RgSt w wm RS.nil RR.zero) := by show RgSt _ _ _ _; rw [hwm]; exact ST6.out.nine (s' := RS.nil) (x' := RR.zero) (RGot.nil _ _)
          rw [← hwm]
          clear hwm yf u0 u1 u2 u3 u4 u5 u6 u7 u8
          have z0 : wm.cell? ⟨w.heap.size, 0, none⟩ = some (.slice none 0 0) := (STm.out.R.cell 0).trans rfl
          have z1 : wm.cell? ⟨w.heap.size, 1, none⟩ = some (.int .i64 0) := (STm.out.R.cell 1).trans rfl
          have z2 : wm.cell? ⟨w.heap.size, 2, none⟩ = some (.int .i64 0) := (STm.out.R.cell 2).trans rfl
          have z3 : wm.cell? ⟨w.heap.size, 3, none⟩ = some (.int .i64 0) := (STm.out.R.cell 3).trans rfl
          have z4 : wm.cell? ⟨w.heap.size, 4, none⟩ = some (.slice none 0 0) := (STm.out.R.cell 4).trans rfl
          have z5 : wm.cell? ⟨w.heap.size, 5, none⟩ = some (.slice none 0 0) := (STm.out.R.cell 5).trans rfl
          have z6 : wm.cell? ⟨w.heap.size, 6, none⟩ = some (.slice none 0 0) := (STm.out.R.cell 6).trans rfl
          have z7 : wm.cell? ⟨w.heap.size, 7, none⟩ = some (.slice none 0 0) := (STm.out.R.cell 7).trans rfl
          have z8 : wm.cell? ⟨w.heap.size, 8, none⟩ = some (.slice none 0 0) := (STm.out.R.cell 8).trans rfl
          refine bodyPost_ret (v := .tuple #[.agg #[.slice none 0 0, .int .i64 0, .int .i64 0, .int .i64 0, .slice none 0 0, .slice none 0 0, .slice none 0 0, .slice none 0 0, .slice none 0 0], .int .i64 0, .int .i64 (2)]) ?_ rfl ⟨_, rfl, ?_, STm.out.bw⟩
          · simp [results, Try.results182, go_sem, z0, z1, z2, z3, z4, z5, z6, z7, z8]
          · unfold goodRR
            rw [HEQ.out]
            exact ⟨RS.nil, rfl, STm.out.G.base_le (Nat.le_succ _)⟩
        · have hT2 : ¬ (T : Int) = 0 := by omega
          have y0 := ST6.out.R.free
          obtain ⟨⟨D, f⟩, hD⟩ : ∃ g, g = getD bs ((p + 10 : Nat) : Int) (Z : Int) (T : Int) := ⟨_, rfl⟩
          have HD := Lib.hid hD.symm
          rw [← hD, if_neg hT] at hR2
          clear hD
          go_upto_region 15 with (first
            | (go_at_call 190; rw [show ((p : Int) + 10) = ((p + 10 : Nat) : Int) from rfl]; refine (getD_any w6 A n c (p + 10) Z (T : Int) bs (HR.out.below ST6.out.bw) (fun b off e => Nat.lt_of_lt_of_le (HB.out b off e) ST6.out.bw.size) hn hc hn2 (by omega) (by omega) (by omega)).mono ?_; unfold goodG; rw [HD.out]; rintro e w7 ⟨v7, rfl, ⟨s7, rfl, hgot7⟩, hb7⟩; unfold dsV; have ST7 := Lib.hid (ST6.out.below hb7); have z0 := ST7.out.R.free; have z4 := ST7.out.R.cell 4; have z5 := ST7.out.R.cell 5; have z6 := ST7.out.R.cell 6; have z7 := ST7.out.R.cell 7; have z8 := ST7.out.R.cell 8; simp only [rrCells, List.getElem?_toArray, List.getElem?_cons_zero, List.getElem?_cons_succ] at z4 z5 z6 z7 z8)
            | fail)
          obtain ⟨w8, hw8⟩ : ∃ u, u = (((((w7.setCell ⟨w.heap.size, 4, none⟩ (.slice s7.A0 D.bytes.length s7.c0)).setCell ⟨w.heap.size, 5, none⟩ (.slice s7.A1 D.host.length s7.c1)).setCell ⟨w.heap.size, 6, none⟩ (.slice s7.A2 D.mail.length s7.c2)).setCell ⟨w.heap.size, 7, none⟩ (.slice s7.A3 D.nums.length s7.c3)).setCell ⟨w.heap.size, 8, none⟩ (.slice s7.A4 D.texts.length s7.c4)) := ⟨_, rfl⟩
          have hs8 := ST7.out.data (hgot7.base_le (Nat.succ_le_of_lt ST6.out.R.lt))
          rw [← hw8] at hs8
          have ST8 := Lib.hid hs8
          rw [← hw8]
          clear hw8 hs8 z0 z4 z5 z6 z7 z8 y0 y1 ST7 hgot7
          by_cases hf : f = 0
          · subst hf
            have HEQ := Lib.hid (hR2.out.trans (if_neg (fun h => h rfl)))
            have z0 := ST8.out.R.free
            obtain ⟨sF, xF, STF, hxF, hsF⟩ : ∃ sF xF, Hid (RgSt w w8 sF xF) ∧ xF = _ ∧ sF = _ := ⟨_, _, ST8, rfl, rfl⟩
            have HEQ : Hid (getRR bs a = (xF, ((p + 10 + Z : Nat) : Int), 0)) := by show _ = _; rw [hR2.out, if_neg (fun h => h rfl), hxF]
            clear hxF hsF ST8 hR2
            have u0 : w8.cell? ⟨w.heap.size, 0, none⟩ = some (.slice sF.A xF.name.length sF.c) := (STF.out.R.cell 0).trans rfl
            have u1 : w8.cell? ⟨w.heap.size, 1, none⟩ = some (.int .i64 xF.type) := (STF.out.R.cell 1).trans rfl
            have u2 : w8.cell? ⟨w.heap.size, 2, none⟩ = some (.int .i64 xF.cls) := (STF.out.R.cell 2).trans rfl
            have u3 : w8.cell? ⟨w.heap.size, 3, none⟩ = some (.int .i64 xF.ttl) := (STF.out.R.cell 3).trans rfl
            have u4 : w8.cell? ⟨w.heap.size, 4, none⟩ = some (.slice sF.d.A0 xF.data.bytes.length sF.d.c0) := (STF.out.R.cell 4).trans rfl
            have u5 : w8.cell? ⟨w.heap.size, 5, none⟩ = some (.slice sF.d.A1 xF.data.host.length sF.d.c1) := (STF.out.R.cell 5).trans rfl
            have u6 : w8.cell? ⟨w.heap.size, 6, none⟩ = some (.slice sF.d.A2 xF.data.mail.length sF.d.c2) := (STF.out.R.cell 6).trans rfl
            have u7 : w8.cell? ⟨w.heap.size, 7, none⟩ = some (.slice sF.d.A3 xF.data.nums.length sF.d.c3) := (STF.out.R.cell 7).trans rfl
            have u8 : w8.cell? ⟨w.heap.size, 8, none⟩ = some (.slice sF.d.A4 xF.data.texts.length sF.d.c4) := (STF.out.R.cell 8).trans rfl
            go_wp2
            obtain ⟨wm, hwm⟩ : ∃ u, u = (((((((((w8.setCell ⟨w.heap.size, 0, none⟩ (.slice sF.A xF.name.length sF.c)).setCell ⟨w.heap.size, 1, none⟩ (.int .i64 xF.type)).setCell ⟨w.heap.size, 2, none⟩ (.int .i64 xF.cls)).setCell ⟨w.heap.size, 3, none⟩ (.int .i64 xF.ttl)).setCell ⟨w.heap.size, 4, none⟩ (.slice sF.d.A0 xF.data.bytes.length sF.d.c0)).setCell ⟨w.heap.size, 5, none⟩ (.slice sF.d.A1 xF.data.host.length sF.d.c1)).setCell ⟨w.heap.size, 6, none⟩ (.slice sF.d.A2 xF.data.mail.length sF.d.c2)).setCell ⟨w.heap.size, 7, none⟩ (.slice sF.d.A3 xF.data.nums.length sF.d.c3)).setCell ⟨w.heap.size, 8, none⟩ (.slice sF.d.A4 xF.data.texts.length sF.d.c4)) := ⟨_, rfl⟩
            have STm : Hid (RgSt w wm sF xF) := by show RgSt _ _ _ _; rw [hwm]; exact STF.out.nine (s' := sF) (x' := xF) STF.out.G
            rw [← hwm]
            clear hwm z0 u0 u1 u2 u3 u4 u5 u6 u7 u8
            have z0 : wm.cell? ⟨w.heap.size, 0, none⟩ = some (.slice sF.A xF.name.length sF.c) := (STm.out.R.cell 0).trans rfl
            have z1 : wm.cell? ⟨w.heap.size, 1, none⟩ = some (.int .i64 xF.type) := (STm.out.R.cell 1).trans rfl
            have z2 : wm.cell? ⟨w.heap.size, 2, none⟩ = some (.int .i64 xF.cls) := (STm.out.R.cell 2).trans rfl
            have z3 : wm.cell? ⟨w.heap.size, 3, none⟩ = some (.int .i64 xF.ttl) := (STm.out.R.cell 3).trans rfl
            have z4 : wm.cell? ⟨w.heap.size, 4, none⟩ = some (.slice sF.d.A0 xF.data.bytes.length sF.d.c0) := (STm.out.R.cell 4).trans rfl
            have z5 : wm.cell? ⟨w.heap.size, 5, none⟩ = some (.slice sF.d.A1 xF.data.host.length sF.d.c1) := (STm.out.R.cell 5).trans rfl
            have z6 : wm.cell? ⟨w.heap.size, 6, none⟩ = some (.slice sF.d.A2 xF.data.mail.length sF.d.c2) := (STm.out.R.cell 6).trans rfl
            have z7 : wm.cell? ⟨w.heap.size, 7, none⟩ = some (.slice sF.d.A3 xF.data.nums.length sF.d.c3) := (STm.out.R.cell 7).trans rfl
            have z8 : wm.cell? ⟨w.heap.size, 8, none⟩ = some (.slice sF.d.A4 xF.data.texts.length sF.d.c4) := (STm.out.R.cell 8).trans rfl
            refine bodyPost_ret (v := .tuple #[.agg #[.slice sF.A xF.name.length sF.c, .int .i64 xF.type, .int .i64 xF.cls, .int .i64 xF.ttl, .slice sF.d.A0 xF.data.bytes.length sF.d.c0, .slice sF.d.A1 xF.data.host.length sF.d.c1, .slice sF.d.A2 xF.data.mail.length sF.d.c2, .slice sF.d.A3 xF.data.nums.length sF.d.c3, .slice sF.d.A4 xF.data.texts.length sF.d.c4], .int .i64 ((p : Int) + 10 + (Z : Int)), .int .i64 0]) ?_ rfl ⟨_, rfl, ?_, STm.out.bw⟩
            · simp [results, Try.results182, go_sem, z0, z1, z2, z3, z4, z5, z6, z7, z8]
            · unfold goodRR
              rw [HEQ.out]
              exact ⟨sF, rfl, STm.out.G.base_le (Nat.le_succ _)⟩
          · skip
            have HEQ : Hid (getRR bs a = (RR.zero, 0, f)) := by show _ = _; rw [hR2.out, if_pos hf]
            have yf := ST8.out.R.free
            have u0 := ST8.out.R.cell 0
            have u1 := ST8.out.R.cell 1
            have u2 := ST8.out.R.cell 2
            have u3 := ST8.out.R.cell 3
            have u4 := ST8.out.R.cell 4
            have u5 := ST8.out.R.cell 5
            have u6 := ST8.out.R.cell 6
            have u7 := ST8.out.R.cell 7
            have u8 := ST8.out.R.cell 8
            simp only [rrCells, List.getElem?_toArray, List.getElem?_cons_zero, List.getElem?_cons_succ] at u0 u1 u2 u3 u4 u5 u6 u7 u8
            go_wp2
            obtain ⟨wm, hwm⟩ : ∃ u, u = (((((((((w8.setCell ⟨w.heap.size, 0, none⟩ (.slice none 0 0)).setCell ⟨w.heap.size, 1, none⟩ (.int .i64 0)).setCell ⟨w.heap.size, 2, none⟩ (.int .i64 0)).setCell ⟨w.heap.size, 3, none⟩ (.int .i64 0)).setCell ⟨w.heap.size, 4, none⟩ (.slice none 0 0)).setCell ⟨w.heap.size, 5, none⟩ (.slice none 0 0)).setCell ⟨w.heap.size, 6, none⟩ (.slice none 0 0)).setCell ⟨w.heap.size, 7, none⟩ (.slice none 0 0)).setCell ⟨w.heap.size, 8, none⟩ (.slice none 0 0)) := ⟨_, rfl⟩
            have STm : Hid (RgSt w wm RS.nil RR.zero) := by show RgSt _ _ _ _; rw [hwm]; exact ST8.out.nine (s' := RS.nil) (x' := RR.zero) (RGot.nil _ _)
            rw [← hwm]
            clear hwm yf u0 u1 u2 u3 u4 u5 u6 u7 u8
            have z0 : wm.cell? ⟨w.heap.size, 0, none⟩ = some (.slice none 0 0) := (STm.out.R.cell 0).trans rfl
            have z1 : wm.cell? ⟨w.heap.size, 1, none⟩ = some (.int .i64 0) := (STm.out.R.cell 1).trans rfl
            have z2 : wm.cell? ⟨w.heap.size, 2, none⟩ = some (.int .i64 0) := (STm.out.R.cell 2).trans rfl
            have z3 : wm.cell? ⟨w.heap.size, 3, none⟩ = some (.int .i64 0) := (STm.out.R.cell 3).trans rfl
            have z4 : wm.cell? ⟨w.heap.size, 4, none⟩ = some (.slice none 0 0) := (STm.out.R.cell 4).trans rfl
            have z5 : wm.cell? ⟨w.heap.size, 5, none⟩ = some (.slice none 0 0) := (STm.out.R.cell 5).trans rfl
            have z6 : wm.cell? ⟨w.heap.size, 6, none⟩ = some (.slice none 0 0) := (STm.out.R.cell 6).trans rfl
            have z7 : wm.cell? ⟨w.heap.size, 7, none⟩ = some (.slice none 0 0) := (STm.out.R.cell 7).trans rfl
            have z8 : wm.cell? ⟨w.heap.size, 8, none⟩ = some (.slice none 0 0) := (STm.out.R.cell 8).trans rfl
            refine bodyPost_ret (v := .tuple #[.agg #[.slice none 0 0, .int .i64 0, .int .i64 0, .int .i64 0, .slice none 0 0, .slice none 0 0, .slice none 0 0, .slice none 0 0, .slice none 0 0], .int .i64 0, .int .i64 (f)]) ?_ rfl ⟨_, rfl, ?_, STm.out.bw⟩
            · simp [results, Try.results182, go_sem, z0, z1, z2, z3, z4, z5, z6, z7, z8]
            · unfold goodRR
              rw [HEQ.out]
              exact ⟨RS.nil, rfl, STm.out.G.base_le (Nat.le_succ _)⟩
      · have y0 := ST5.out.R.free
        have y3 : w5.cell? ⟨w.heap.size, 3, none⟩ = some (.int .i64 (L : Int)) := ST5.out.R.cells.2.2.2.1
        have hL4 : ¬ (2147483648 : Int) ≤ (L : Int) := by omega
        clear hL3
        go_upto_region 12 with (fail)
        clear y0 y3 hL4 hl4
        clear ST4 ST3 ST2 ST1 ST0 hg0 hg2 hg4 hg8
        have y1 : w5.cell? ⟨w.heap.size, 1, none⟩ = some (.int .i64 (T : Int)) := ST5.out.R.cells.2.1
        by_cases hT : T = 0
        · subst hT
          have HEQ : Hid (getRR bs a = (RR.zero, 0, 2)) := by show _ = _; rw [hR2.out, if_pos rfl]
          have yf := ST5.out.R.free
          have u0 := ST5.out.R.cell 0
          have u1 := ST5.out.R.cell 1
          have u2 := ST5.out.R.cell 2
          have u3 := ST5.out.R.cell 3
          have u4 := ST5.out.R.cell 4
          have u5 := ST5.out.R.cell 5
          have u6 := ST5.out.R.cell 6
          have u7 := ST5.out.R.cell 7
          have u8 := ST5.out.R.cell 8
          simp only [rrCells, List.getElem?_toArray, List.getElem?_cons_zero, List.getElem?_cons_succ] at u0 u1 u2 u3 u4 u5 u6 u7 u8
          go_wp2
          obtain ⟨wm, hwm⟩ : ∃ u, u = (((((((((w5.setCell ⟨w.heap.size, 0, none⟩ (.slice none 0 0)).setCell ⟨w.heap.size, 1, none⟩ (.int .i64 0)).setCell ⟨w.heap.size, 2, none⟩ (.int .i64 0)).setCell ⟨w.heap.size, 3, none⟩ (.int .i64 0)).setCell ⟨w.heap.size, 4, none⟩ (.slice none 0 0)).setCell ⟨w.heap.size, 5, none⟩ (.slice none 0 0)).setCell ⟨w.heap.size, 6, none⟩ (.slice none 0 0)).setCell ⟨w.heap.size, 7, none⟩ (.slice none 0 0)).setCell ⟨w.heap.size, 8, none⟩ (.slice none 0 0)) := ⟨_, rfl⟩
          have STm : Hid (RgSt w wm RS.nil RR.zero) := by show RgSt _ _ _ _; rw [hwm]; exact ST5.out.nine (s' := RS.nil) (x' := RR.zero) (RGot.nil _ _)
          rw [← hwm]
          clear hwm yf u0 u1 u2 u3 u4 u5 u6 u7 u8
          have z0 : wm.cell? ⟨w.heap.size, 0, none⟩ = some (.slice none 0 0) := (STm.out.R.cell 0).trans rfl
          have z1 : wm.cell? ⟨w.heap.size, 1, none⟩ = some (.int .i64 0) := (STm.out.R.cell 1).trans rfl
          have z2 : wm.cell? ⟨w.heap.size, 2, none⟩ = some (.int .i64 0) := (STm.out.R.cell 2).trans rfl
          have z3 : wm.cell? ⟨w.heap.size, 3, none⟩ = some (.int .i64 0) := (STm.out.R.cell 3).trans rfl
          have z4 : wm.cell? ⟨w.heap.size, 4, none⟩ = some (.slice none 0 0) := (STm.out.R.cell 4).trans rfl
          have z5 : wm.cell? ⟨w.heap.size, 5, none⟩ = some (.slice none 0 0) := (STm.out.R.cell 5).trans rfl
          have z6 : wm.cell? ⟨w.heap.size, 6, none⟩ = some (.slice none 0 0) := (STm.out.R.cell 6).trans rfl
          have z7 : wm.cell? ⟨w.heap.size, 7, none⟩ = some (.slice none 0 0) := (STm.out.R.cell 7).trans rfl
          have z8 : wm.cell? ⟨w.heap.size, 8, none⟩ = some (.slice none 0 0) := (STm.out.R.cell 8).trans rfl
          refine bodyPost_ret (v := .tuple #[.agg #[.slice none 0 0, .int .i64 0, .int .i64 0, .int .i64 0, .slice none 0 0, .slice none 0 0, .slice none 0 0, .slice none 0 0, .slice none 0 0], .int .i64 0, .int .i64 (2)]) ?_ rfl ⟨_, rfl, ?_, STm.out.bw⟩
          · simp [results, Try.results182, go_sem, z0, z1, z2, z3, z4, z5, z6, z7, z8]
          · unfold goodRR
            rw [HEQ.out]
            exact ⟨RS.nil, rfl, STm.out.G.base_le (Nat.le_succ _)⟩
        · have hT2 : ¬ (T : Int) = 0 := by omega
          have y0 := ST5.out.R.free
          obtain ⟨⟨D, f⟩, hD⟩ : ∃ g, g = getD bs ((p + 10 : Nat) : Int) (Z : Int) (T : Int) := ⟨_, rfl⟩
          have HD := Lib.hid hD.symm
          rw [← hD, if_neg hT] at hR2
          clear hD
          go_upto_region 15 with (first
            | (go_at_call 190; rw [show ((p : Int) + 10) = ((p + 10 : Nat) : Int) from rfl]; refine (getD_any w5 A n c (p + 10) Z (T : Int) bs (HR.out.below ST5.out.bw) (fun b off e => Nat.lt_of_lt_of_le (HB.out b off e) ST5.out.bw.size) hn hc hn2 (by omega) (by omega) (by omega)).mono ?_; unfold goodG; rw [HD.out]; rintro e w7 ⟨v7, rfl, ⟨s7, rfl, hgot7⟩, hb7⟩; unfold dsV; have ST7 := Lib.hid (ST5.out.below hb7); have z0 := ST7.out.R.free; have z4 := ST7.out.R.cell 4; have z5 := ST7.out.R.cell 5; have z6 := ST7.out.R.cell 6; have z7 := ST7.out.R.cell 7; have z8 := ST7.out.R.cell 8; simp only [rrCells, List.getElem?_toArray, List.getElem?_cons_zero, List.getElem?_cons_succ] at z4 z5 z6 z7 z8)
            | fail)
          obtain ⟨w8, hw8⟩ : ∃ u, u = (((((w7.setCell ⟨w.heap.size, 4, none⟩ (.slice s7.A0 D.bytes.length s7.c0)).setCell ⟨w.heap.size, 5, none⟩ (.slice s7.A1 D.host.length s7.c1)).setCell ⟨w.heap.size, 6, none⟩ (.slice s7.A2 D.mail.length s7.c2)).setCell ⟨w.heap.size, 7, none⟩ (.slice s7.A3 D.nums.length s7.c3)).setCell ⟨w.heap.size, 8, none⟩ (.slice s7.A4 D.texts.length s7.c4)) := ⟨_, rfl⟩
          have hs8 := ST7.out.data (hgot7.base_le (Nat.succ_le_of_lt ST5.out.R.lt))
          rw [← hw8] at hs8
          have ST8 := Lib.hid hs8
          rw [← hw8]
          clear hw8 hs8 z0 z4 z5 z6 z7 z8 y0 y1 ST7 hgot7
          by_cases hf : f = 0
          · subst hf
            have HEQ := Lib.hid (hR2.out.trans (if_neg (fun h => h rfl)))
            have z0 := ST8.out.R.free
            obtain ⟨sF, xF, STF, hxF, hsF⟩ : ∃ sF xF, Hid (RgSt w w8 sF xF) ∧ xF = _ ∧ sF = _ := ⟨_, _, ST8, rfl, rfl⟩
            have HEQ : Hid (getRR bs a = (xF, ((p + 10 + Z : Nat) : Int), 0)) := by show _ = _; rw [hR2.out, if_neg (fun h => h rfl), hxF]
            clear hxF hsF ST8 hR2
            have u0 : w8.cell? ⟨w.heap.size, 0, none⟩ = some (.slice sF.A xF.name.length sF.c) := (STF.out.R.cell 0).trans rfl
            have u1 : w8.cell? ⟨w.heap.size, 1, none⟩ = some (.int .i64 xF.type) := (STF.out.R.cell 1).trans rfl
            have u2 : w8.cell? ⟨w.heap.size, 2, none⟩ = some (.int .i64 xF.cls) := (STF.out.R.cell 2).trans rfl
            have u3 : w8.cell? ⟨w.heap.size, 3, none⟩ = some (.int .i64 xF.ttl) := (STF.out.R.cell 3).trans rfl
            have u4 : w8.cell? ⟨w.heap.size, 4, none⟩ = some (.slice sF.d.A0 xF.data.bytes.length sF.d.c0) := (STF.out.R.cell 4).trans rfl
            have u5 : w8.cell? ⟨w.heap.size, 5, none⟩ = some (.slice sF.d.A1 xF.data.host.length sF.d.c1) := (STF.out.R.cell 5).trans rfl
            have u6 : w8.cell? ⟨w.heap.size, 6, none⟩ = some (.slice sF.d.A2 xF.data.mail.length sF.d.c2) := (STF.out.R.cell 6).trans rfl
            have u7 : w8.cell? ⟨w.heap.size, 7, none⟩ = some (.slice sF.d.A3 xF.data.nums.length sF.d.c3) := (STF.out.R.cell 7).trans rfl
            have u8 : w8.cell? ⟨w.heap.size, 8, none⟩ = some (.slice sF.d.A4 xF.data.texts.length sF.d.c4) := (STF.out.R.cell 8).trans rfl
            go_wp2
            obtain ⟨wm, hwm⟩ : ∃ u, u = (((((((((w8.setCell ⟨w.heap.size, 0, none⟩ (.slice sF.A xF.name.length sF.c)).setCell ⟨w.heap.size, 1, none⟩ (.int .i64 xF.type)).setCell ⟨w.heap.size, 2, none⟩ (.int .i64 xF.cls)).setCell ⟨w.heap.size, 3, none⟩ (.int .i64 xF.ttl)).setCell ⟨w.heap.size, 4, none⟩ (.slice sF.d.A0 xF.data.bytes.length sF.d.c0)).setCell ⟨w.heap.size, 5, none⟩ (.slice sF.d.A1 xF.data.host.length sF.d.c1)).setCell ⟨w.heap.size, 6, none⟩ (.slice sF.d.A2 xF.data.mail.length sF.d.c2)).setCell ⟨w.heap.size, 7, none⟩ (.slice sF.d.A3 xF.data.nums.length sF.d.c3)).setCell ⟨w.heap.size, 8, none⟩ (.slice sF.d.A4 xF.data.texts.length sF.d.c4)) := ⟨_, rfl⟩
            have STm : Hid (RgSt w wm sF xF) := by show RgSt _ _ _ _; rw [hwm]; exact STF.out.nine (s' := sF) (x' := xF) STF.out.G
            rw [← hwm]
            clear hwm z0 u0 u1 u2 u3 u4 u5 u6 u7 u8
            have z0 : wm.cell? ⟨w.heap.size, 0, none⟩ = some (.slice sF.A xF.name.length sF.c) := (STm.out.R.cell 0).trans rfl
            have z1 : wm.cell? ⟨w.heap.size, 1, none⟩ = some (.int .i64 xF.type) := (STm.out.R.cell 1).trans rfl
            have z2 : wm.cell? ⟨w.heap.size, 2, none⟩ = some (.int .i64 xF.cls) := (STm.out.R.cell 2).trans rfl
            have z3 : wm.cell? ⟨w.heap.size, 3, none⟩ = some (.int .i64 xF.ttl) := (STm.out.R.cell 3).trans rfl
            have z4 : wm.cell? ⟨w.heap.size, 4, none⟩ = some (.slice sF.d.A0 xF.data.bytes.length sF.d.c0) := (STm.out.R.cell 4).trans rfl
            have z5 : wm.cell? ⟨w.heap.size, 5, none⟩ = some (.slice sF.d.A1 xF.data.host.length sF.d.c1) := (STm.out.R.cell 5).trans rfl
            have z6 : wm.cell? ⟨w.heap.size, 6, none⟩ = some (.slice sF.d.A2 xF.data.mail.length sF.d.c2) := (STm.out.R.cell 6).trans rfl
            have z7 : wm.cell? ⟨w.heap.size, 7, none⟩ = some (.slice sF.d.A3 xF.data.nums.length sF.d.c3) := (STm.out.R.cell 7).trans rfl
            have z8 : wm.cell? ⟨w.heap.size, 8, none⟩ = some (.slice sF.d.A4 xF.data.texts.length sF.d.c4) := (STm.out.R.cell 8).trans rfl
            refine bodyPost_ret (v := .tuple #[.agg #[.slice sF.A xF.name.length sF.c, .int .i64 xF.type, .int .i64 xF.cls, .int .i64 xF.ttl, .slice sF.d.A0 xF.data.bytes.length sF.d.c0, .slice sF.d.A1 xF.data.host.length sF.d.c1, .slice sF.d.A2 xF.data.mail.length sF.d.c2, .slice sF.d.A3 xF.data.nums.length sF.d.c3, .slice sF.d.A4 xF.data.texts.length sF.d.c4], .int .i64 ((p : Int) + 10 + (Z : Int)), .int .i64 0]) ?_ rfl ⟨_, rfl, ?_, STm.out.bw⟩
            · simp [results, Try.results182, go_sem, z0, z1, z2, z3, z4, z5, z6, z7, z8]
            · unfold goodRR
              rw [HEQ.out]
              exact ⟨sF, rfl, STm.out.G.base_le (Nat.le_succ _)⟩
          · skip
            have HEQ : Hid (getRR bs a = (RR.zero, 0, f)) := by show _ = _; rw [hR2.out, if_pos hf]
            have yf := ST8.out.R.free
            have u0 := ST8.out.R.cell 0
            have u1 := ST8.out.R.cell 1
            have u2 := ST8.out.R.cell 2
            have u3 := ST8.out.R.cell 3
            have u4 := ST8.out.R.cell 4
            have u5 := ST8.out.R.cell 5
            have u6 := ST8.out.R.cell 6
            have u7 := ST8.out.R.cell 7
            have u8 := ST8.out.R.cell 8
            simp only [rrCells, List.getElem?_toArray, List.getElem?_cons_zero, List.getElem?_cons_succ] at u0 u1 u2 u3 u4 u5 u6 u7 u8
            go_wp2
            obtain ⟨wm, hwm⟩ : ∃ u, u = (((((((((w8.setCell ⟨w.heap.size, 0, none⟩ (.slice none 0 0)).setCell ⟨w.heap.size, 1, none⟩ (.int .i64 0)).setCell ⟨w.heap.size, 2, none⟩ (.int .i64 0)).setCell ⟨w.heap.size, 3, none⟩ (.int .i64 0)).setCell ⟨w.heap.size, 4, none⟩ (.slice none 0 0)).setCell ⟨w.heap.size, 5, none⟩ (.slice none 0 0)).setCell ⟨w.heap.size, 6, none⟩ (.slice none 0 0)).setCell ⟨w.heap.size, 7, none⟩ (.slice none 0 0)).setCell ⟨w.heap.size, 8, none⟩ (.slice none 0 0)) := ⟨_, rfl⟩
            have STm : Hid (RgSt w wm RS.nil RR.zero) := by show RgSt _ _ _ _; rw [hwm]; exact ST8.out.nine (s' := RS.nil) (x' := RR.zero) (RGot.nil _ _)
            rw [← hwm]
            clear hwm yf u0 u1 u2 u3 u4 u5 u6 u7 u8
            have z0 : wm.cell? ⟨w.heap.size, 0, none⟩ = some (.slice none 0 0) := (STm.out.R.cell 0).trans rfl
            have z1 : wm.cell? ⟨w.heap.size, 1, none⟩ = some (.int .i64 0) := (STm.out.R.cell 1).trans rfl
            have z2 : wm.cell? ⟨w.heap.size, 2, none⟩ = some (.int .i64 0) := (STm.out.R.cell 2).trans rfl
            have z3 : wm.cell? ⟨w.heap.size, 3, none⟩ = some (.int .i64 0) := (STm.out.R.cell 3).trans rfl
            have z4 : wm.cell? ⟨w.heap.size, 4, none⟩ = some (.slice none 0 0) := (STm.out.R.cell 4).trans rfl
            have z5 : wm.cell? ⟨w.heap.size, 5, none⟩ = some (.slice none 0 0) := (STm.out.R.cell 5).trans rfl
            have z6 : wm.cell? ⟨w.heap.size, 6, none⟩ = some (.slice none 0 0) := (STm.out.R.cell 6).trans rfl
            have z7 : wm.cell? ⟨w.heap.size, 7, none⟩ = some (.slice none 0 0) := (STm.out.R.cell 7).trans rfl
            have z8 : wm.cell? ⟨w.heap.size, 8, none⟩ = some (.slice none 0 0) := (STm.out.R.cell 8).trans rfl
            refine bodyPost_ret (v := .tuple #[.agg #[.slice none 0 0, .int .i64 0, .int .i64 0, .int .i64 0, .slice none 0 0, .slice none 0 0, .slice none 0 0, .slice none 0 0, .slice none 0 0], .int .i64 0, .int .i64 (f)]) ?_ rfl ⟨_, rfl, ?_, STm.out.bw⟩
            · simp [results, Try.results182, go_sem, z0, z1, z2, z3, z4, z5, z6, z7, z8]
            · unfold goodRR
              rw [HEQ.out]
              exact ⟨RS.nil, rfl, STm.out.G.base_le (Nat.le_succ _)⟩
  · have hE : getRR bs a = (RR.zero, 0, er) := by unfold getRR; rw [HG.out, if_pos he]
    have HE0 := Lib.hid hE
    clear hE
    have HEQ : Hid (getRR bs a = (RR.zero, 0, er)) := by show _ = _; exact HE0.out
    have yf := ST2.out.R.free
    have u0 := ST2.out.R.cell 0
    have u1 := ST2.out.R.cell 1
    have u2 := ST2.out.R.cell 2
    have u3 := ST2.out.R.cell 3
    have u4 := ST2.out.R.cell 4
    have u5 := ST2.out.R.cell 5
    have u6 := ST2.out.R.cell 6
    have u7 := ST2.out.R.cell 7
    have u8 := ST2.out.R.cell 8
    simp only [rrCells, List.getElem?_toArray, List.getElem?_cons_zero, List.getElem?_cons_succ] at u0 u1 u2 u3 u4 u5 u6 u7 u8
    go_wp2
    obtain ⟨wm, hwm⟩ : ∃ u, u = (((((((((w2.setCell ⟨w.heap.size, 0, none⟩ (.slice none 0 0)).setCell ⟨w.heap.size, 1, none⟩ (.int .i64 0)).setCell ⟨w.heap.size, 2, none⟩ (.int .i64 0)).setCell ⟨w.heap.size, 3, none⟩ (.int .i64 0)).setCell ⟨w.heap.size, 4, none⟩ (.slice none 0 0)).setCell ⟨w.heap.size, 5, none⟩ (.slice none 0 0)).setCell ⟨w.heap.size, 6, none⟩ (.slice none 0 0)).setCell ⟨w.heap.size, 7, none⟩ (.slice none 0 0)).setCell ⟨w.heap.size, 8, none⟩ (.slice none 0 0)) := ⟨_, rfl⟩
    have STm : Hid (RgSt w wm RS.nil RR.zero) := by show RgSt _ _ _ _; rw [hwm]; exact ST2.out.nine (s' := RS.nil) (x' := RR.zero) (RGot.nil _ _)
    rw [← hwm]
    clear hwm yf u0 u1 u2 u3 u4 u5 u6 u7 u8
    have z0 : wm.cell? ⟨w.heap.size, 0, none⟩ = some (.slice none 0 0) := (STm.out.R.cell 0).trans rfl
    have z1 : wm.cell? ⟨w.heap.size, 1, none⟩ = some (.int .i64 0) := (STm.out.R.cell 1).trans rfl
    have z2 : wm.cell? ⟨w.heap.size, 2, none⟩ = some (.int .i64 0) := (STm.out.R.cell 2).trans rfl
    have z3 : wm.cell? ⟨w.heap.size, 3, none⟩ = some (.int .i64 0) := (STm.out.R.cell 3).trans rfl
    have z4 : wm.cell? ⟨w.heap.size, 4, none⟩ = some (.slice none 0 0) := (STm.out.R.cell 4).trans rfl
    have z5 : wm.cell? ⟨w.heap.size, 5, none⟩ = some (.slice none 0 0) := (STm.out.R.cell 5).trans rfl
    have z6 : wm.cell? ⟨w.heap.size, 6, none⟩ = some (.slice none 0 0) := (STm.out.R.cell 6).trans rfl
    have z7 : wm.cell? ⟨w.heap.size, 7, none⟩ = some (.slice none 0 0) := (STm.out.R.cell 7).trans rfl
    have z8 : wm.cell? ⟨w.heap.size, 8, none⟩ = some (.slice none 0 0) := (STm.out.R.cell 8).trans rfl
    refine bodyPost_ret (v := .tuple #[.agg #[.slice none 0 0, .int .i64 0, .int .i64 0, .int .i64 0, .slice none 0 0, .slice none 0 0, .slice none 0 0, .slice none 0 0, .slice none 0 0], .int .i64 0, .int .i64 (er)]) ?_ rfl ⟨_, rfl, ?_, STm.out.bw⟩
    · simp [results, Try.results182, go_sem, z0, z1, z2, z3, z4, z5, z6, z7, z8]
    · unfold goodRR
      rw [HEQ.out]
      exact ⟨RS.nil, rfl, STm.out.G.base_le (Nat.le_succ _)⟩
end Go.Proofs.Ytimkdpkhdbiniaa

/- msg's reader, whatever the bytes: a number. -/
namespace Go.Proofs.Ytimkdpkhdbiniaa
open Go.RowKit
set_option maxRecDepth 100000
set_option linter.unusedVariables false

/-- A message's reader, in its block. -/
def MRd (w : World) (p : Nat) (v : Value) (pos : Int) : Prop := w.heap[p]? = some (.cells #[v, .int .i64 pos] 134 (0, 0))
section
variable {w w' : World} {p : Nat} {v : Value} {pos : Int}
theorem MRd.cells (h : MRd w p v pos) : w.cell? ⟨p, 0, none⟩ = some v ∧ w.cell? ⟨p, 1, none⟩ = some (.int .i64 pos) ∧ ∀ k, w.frozen? ⟨p, k, none⟩ = false :=
  ⟨(cell_of_row _ _ _ _ _ _ h).trans rfl, (cell_of_row _ _ _ _ _ _ h).trans rfl, fun _ => frozen_of_row _ _ _ _ _ h⟩
theorem MRd.lt (h : MRd w p v pos) : p < w.heap.size := (Array.getElem?_eq_some_iff.1 h).1
theorem MRd.below (h : MRd w p v pos) (hb : Below w.heap.size w w') : MRd w' p v pos := (hb.block p h.lt).trans h
theorem MRd.move (h : MRd w p v pos) (q : Int) : MRd (w.setCell ⟨p, 1, none⟩ (.int .i64 q)) p v q := (heap_setCell_same _ _ _ _ _ _ h).trans rfl
end
/-- A call of the reader: it says what the plain law says, or gives up with its error. -/
def MdX {α : Type} (r : Except Int (α × Nat)) (good : Value → World → α → Prop) (w : World) (p : Nat) (bv : Value) (e : Ending) (w' : World) : Prop :=
  match r with
  | .ok (a, q) => ∃ v, e = .returned v ∧ good v w' a ∧ MRd w' p bv (q : Int) ∧ Chg (fun k => k = p) w w'
  | .error x => e = .panicked (pnc x) ∧ Chg (fun k => k = p) w w'
def num2P (b : List UInt8) (p : Nat) : Except Int (Nat × Nat) := if b.length < p + 2 then .error 3 else .ok (numA b p 2, p + 2)
theorem num2P_ok {b : List UInt8} {p : Nat} (h : p + 2 ≤ b.length) : num2P b p = .ok (numA b p 2, p + 2) := by unfold num2P; rw [if_neg (by omega)]
theorem num2P_err {b : List UInt8} {p : Nat} (h : b.length < p + 2) : num2P b p = .error 3 := by unfold num2P; rw [if_pos h]
theorem getN_short {b : List UInt8} {p : Nat} (h : b.length < p + 2) : getN b (p : Int) 2 = (0, 3) := by
  unfold getN
  rw [if_neg (by omega), if_pos (by omega)]

set_option maxHeartbeats 1000000 in
theorem mnum_any (w : World) (p : Nat) (A : Option Addr) (n c pos : Nat) (bs : List UInt8) (h : MRd w p (.slice A n c) (pos : Int)) (hr : RdB w A n bs) (hn : n ≤ c) (hn2 : n ≤ 100000000) :
    Calls Try.prog 144 #[.pointer (some ⟨p, 0, none⟩)] w (MdX (num2P bs pos) (fun v _ a => v = .int .i64 (a : Int)) w p (.slice A n c)) := by
  obtain ⟨c0, c1, f0⟩ := h.cells
  have H := Lib.hid h
  have hl := hr.len
  have HR := Lib.hid hr
  clear h hr
  by_cases hs : bs.length < pos + 2
  · rw [num2P_err hs]
    have HG := Lib.hid (getN_short hs)
    clear hs
    go_enter Try.func144, Try.ntmps144
    go_wp2
    go_region_held3 (fun w' => w'.cell? ⟨p, 0, none⟩ = some (.slice A n c) ∧ w'.cell? ⟨p, 1, none⟩ = some (.int .i64 (pos : Int)))
      (first
        | with_reducible exact ⟨c0, c1⟩
        | with_reducible exact ⟨below_cell bl.drew c0, below_cell bl.drew c1⟩
        | fail)
      (first
        | (go_at_call 161; refine (get_any A n c bs (pos : Int) 2 w.drew (HR.out.below bl.drew) hn (by omega)).mono ?_; rw [HG.out]; rintro e w2 ⟨rfl, rfl⟩)
        | fail)
    go_wp2
    exact ⟨rfl, rfl, (Chg.refl (fun k => k = p) w).drew⟩
  · have hs' : pos + 2 ≤ bs.length := by omega
    rw [num2P_ok hs']
    have HG : Hid (getN bs (pos : Int) 2 = ((numA bs pos 2 : Int), 0)) := numA_get (b := bs) (p := pos) (k := 2) hs' (by decide) (by decide)
    have hp2 : pos ≤ 100000000 := by omega
    clear hs hs'
    generalize numA bs pos 2 = m at HG ⊢
    go_enter Try.func144, Try.ntmps144
    go_wp2
    go_region_held3 (fun w' => w'.cell? ⟨p, 0, none⟩ = some (.slice A n c) ∧ w'.cell? ⟨p, 1, none⟩ = some (.int .i64 (pos : Int)))
      (first
        | with_reducible exact ⟨c0, c1⟩
        | with_reducible exact ⟨below_cell bl.drew c0, below_cell bl.drew c1⟩
        | fail)
      (first
        | (go_at_call 161; refine (get_any A n c bs (pos : Int) 2 w.drew (HR.out.below bl.drew) hn (by omega)).mono ?_; rw [HG.out]; rintro e w2 ⟨rfl, rfl⟩)
        | fail)
    go_wp2
    go_ret
    exact ⟨_, rfl, rfl, (H.out.below bl.drew).move _, (Chg.refl (fun k => k = p) w).drew.setCell (p := ⟨p, 1, none⟩) (Or.inl rfl) _⟩
end Go.Proofs.Ytimkdpkhdbiniaa

/- msg.Decode, in plain Lean; that a message's bytes are read as it is. No program in it. -/
namespace Go.Proofs.Ytimkdpkhdbiniaa
open Go.RowKit
set_option maxRecDepth 100000

/-- A question at a place. -/
def dQu (b : List UInt8) (p : Nat) : Except Int (Qu × Nat) :=
  if (nameA b p).2.2 ≠ 0 then .error (nameA b p).2.2
  else if b.length < (nameA b p).2.1.toNat + 4 then .error 3
  else if numA b (nameA b p).2.1.toNat 2 = 0 then .error 2
  else .ok (⟨(nameA b p).1, (numA b (nameA b p).2.1.toNat 2 : Int), (numA b ((nameA b p).2.1.toNat + 2) 2 : Int)⟩, (nameA b p).2.1.toNat + 4)
def dQus (b : List UInt8) : Nat → Nat → List Qu → Except Int (List Qu × Nat)
  | 0, p, acc => .ok (acc, p)
  | k + 1, p, acc => match dQu b p with
    | .error e => .error e
    | .ok (q, p') => dQus b k p' (acc ++ [q])
/-- Whether there was an OPT record, and what it said. -/
structure Opt where
  edns : Bool
  size : Int
def dRRs (b : List UInt8) (x : Bool) : Nat → Nat → Opt → List RR → Except Int (List RR × Nat × Opt)
  | 0, p, o, acc => .ok (acc, p, o)
  | k + 1, p, o, acc =>
    if (getRR b p).2.2 ≠ 0 then .error (getRR b p).2.2
    else if (getRR b p).1.type = 41 then
      (if x = false ∨ o.edns = true ∨ (getRR b p).1.name ≠ [] then .error 2 else dRRs b x k (getRR b p).2.1.toNat ⟨true, (getRR b p).1.cls⟩ acc)
    else dRRs b x k (getRR b p).2.1.toNat o (acc ++ [(getRR b p).1])
/-- A bit of the second number. -/
def bitA (b : List UInt8) (n : Nat) : Bool := decide (numA b 2 2 / n % 2 = 1)
def msF (b : List UInt8) (qs : List Qu) (an au ex : List RR) (o : Opt) : Ms :=
  ⟨(numA b 0 2 : Int), bitA b 32768, ((numA b 2 2 / 2048 % 16 : Nat) : Int), bitA b 1024, bitA b 512, bitA b 256, bitA b 128, ((numA b 2 2 % 16 : Nat) : Int), qs, an, au, ex, o.edns, o.size⟩
/-- The message of bytes, or the error. -/
def decP (b : List UInt8) : Except Int Ms :=
  if 65535 < b.length then .error 4
  else if b.length < 12 then .error 3
  else if 513 < numA b 4 2 + numA b 6 2 + numA b 8 2 + numA b 10 2 then .error 4
  else match dQus b (numA b 4 2) 12 [] with
    | .error e => .error e
    | .ok (qs, p1) => match dRRs b false (numA b 6 2) p1 ⟨false, 0⟩ [] with
      | .error e => .error e
      | .ok (an, p2, o2) => match dRRs b false (numA b 8 2) p2 o2 [] with
        | .error e => .error e
        | .ok (au, p3, o3) => match dRRs b true (numA b 10 2) p3 o3 [] with
          | .error e => .error e
          | .ok (ex, p4, o4) => if p4 < b.length then .error 7 else .ok (msF b qs an au ex o4)

theorem Wr.True.qu {x : Wr} (hx : x.True) {q : Qu} (h : FineQ q) : (x.qu q).True := ((hx.name h.1.1 true).1.raw _).raw _
theorem Wr.qu_ext (x : Wr) (q : Qu) : ∃ z, (x.qu q).b = x.b ++ z := by
  obtain ⟨z, hz, _⟩ := Wr.name_b (x := x) q.name true
  exact ⟨z ++ (putB [] q.type 2 ++ putB [] q.cls 2), by show ((x.name q.name true).b ++ putB [] q.type 2) ++ putB [] q.cls 2 = _; rw [hz]; simp only [List.append_assoc]⟩
theorem Wr.qus_ext (x : Wr) (l : List Qu) : ∃ z, (x.qus l).b = x.b ++ z := by
  induction l generalizing x with
  | nil => exact ⟨[], by simp [Wr.qus]⟩
  | cons q l ih =>
    obtain ⟨z, hz⟩ := ih (x.qu q)
    obtain ⟨z2, hz2⟩ := x.qu_ext q
    exact ⟨z2 ++ z, by show ((x.qu q).qus l).b = _; rw [hz, hz2, List.append_assoc]⟩
theorem Wr.rrs_ext (x : Wr) (l : List RR) : (∀ r ∈ l, FineK r) → ∃ z, (x.rrs l).b = x.b ++ z := by
  induction l generalizing x with
  | nil => exact fun _ => ⟨[], by simp [Wr.rrs]⟩
  | cons r l ih =>
    intro h
    obtain ⟨z, hz⟩ := ih (x.rr r) (fun u hu => h u (List.mem_cons_of_mem _ hu))
    obtain ⟨z2, hz2⟩ := x.rr_ext (h r (List.mem_cons_self ..)).2
    exact ⟨z2 ++ z, by show ((x.rr r).rrs l).b = _; rw [hz, hz2, List.append_assoc]⟩
theorem Wr.True.qus {x : Wr} (hx : x.True) (l : List Qu) (h : ∀ q ∈ l, FineQ q) : (x.qus l).True := by
  induction l generalizing x with
  | nil => exact hx
  | cons q l ih => exact ih (hx.qu (h q (List.mem_cons_self ..))) (fun u hu => h u (List.mem_cons_of_mem _ hu))
theorem Wr.True.rrs {x : Wr} (hx : x.True) (l : List RR) (h : ∀ r ∈ l, FineK r) : (x.rrs l).True := by
  induction l generalizing x with
  | nil => exact hx
  | cons q l ih => exact ih (hx.rr (h q (List.mem_cons_self ..)).2) (fun u hu => h u (List.mem_cons_of_mem _ hu))
/-- What was written of a question is read. -/
theorem dQu_back {x : Wr} (hx : x.True) {q : Qu} (h : FineQ q) (y : List UInt8) : dQu ((x.qu q).b ++ y) x.b.length = .ok (q, (x.qu q).b.length) := by
  have ht := hx.name h.1.1 true
  have l1 := putB_len_fit h.2.2.1
  have l2 := putB_len_fit h.2.2.2
  obtain ⟨p, hp⟩ : ∃ p, p = (x.name q.name true).b.length := ⟨_, rfl⟩
  have hB : (x.qu q).b ++ y = (x.name q.name true).b ++ (putB [] q.type 2 ++ putB [] q.cls 2 ++ y) := by
    show ((x.name q.name true).b ++ putB [] q.type 2) ++ putB [] q.cls 2 ++ y = _
    simp only [List.append_assoc]
  have hname : nameA ((x.qu q).b ++ y) (x.b.length : Int) = (q.name, (p : Int), 0) := by
    unfold nameA
    rw [if_neg (by omega), Int.toNat_natCast, hB, (ht.2.ext _).read 0 [] (by simpa using h.1.2), List.nil_append, Nat.zero_max, hp]
  have sg : Seg ((x.qu q).b ++ y) p (putB [] q.type 2 ++ putB [] q.cls 2) := ⟨(x.name q.name true).b, y, by rw [hB]; simp only [List.append_assoc], hp.symm⟩
  have s1 := numA_seg h.2.2.1 sg.left
  have s2 := numA_seg h.2.2.2 sg.right
  rw [l1] at s2
  have s1' : (numA ((x.qu q).b ++ y) p 2 : Int) = q.type := s1
  have s2' : (numA ((x.qu q).b ++ y) (p + 2) 2 : Int) = q.cls := s2
  have hlen : (x.qu q).b.length = p + 4 := by
    have e1 := raw_len (x.name q.name true) (putB [] q.type 2)
    have e2 := raw_len ((x.name q.name true).raw (putB [] q.type 2)) (putB [] q.cls 2)
    have l1' : (putB [] q.type 2).length = 2 := l1
    have l2' : (putB [] q.cls 2).length = 2 := l2
    show (((x.name q.name true).raw (putB [] q.type 2)).raw (putB [] q.cls 2)).b.length = _
    omega
  have h1 := h.2.1
  unfold dQu
  rw [hname]
  simp only [ne_eq, not_true_eq_false, if_false, Int.toNat_natCast]
  rw [if_neg (by rw [List.length_append]; omega), if_neg (by omega), s1', s2', hlen]
theorem dQus_back (l : List Qu) : ∀ {x : Wr}, x.True → (∀ q ∈ l, FineQ q) → ∀ (acc : List Qu) (y : List UInt8), dQus ((x.qus l).b ++ y) l.length x.b.length acc = .ok (acc ++ l, (x.qus l).b.length) := by
  induction l with
  | nil => intro x _ _ acc y; simp [dQus, Wr.qus]
  | cons q l ih =>
    intro x hx h acc y
    have hq := h q (List.mem_cons_self ..)
    obtain ⟨z, hz⟩ := (x.qu q).qus_ext l
    have e : (x.qus (q :: l)).b = (x.qu q).b ++ z := hz
    have h1 := dQu_back hx hq (z ++ y)
    have h2 := ih (hx.qu hq) (fun u hu => h u (List.mem_cons_of_mem _ hu)) (acc ++ [q]) y
    have e2 : (x.qus (q :: l)).b ++ y = ((x.qu q).qus l).b ++ y := rfl
    rw [List.length_cons, dQus]
    rw [show dQu ((x.qus (q :: l)).b ++ y) x.b.length = .ok (q, (x.qu q).b.length) by rw [e, List.append_assoc]; exact h1]
    show dQus ((x.qus (q :: l)).b ++ y) l.length (x.qu q).b.length (acc ++ [q]) = _
    rw [e2, h2]
    simp
    rfl
theorem dRRs_back (e : Bool) (l : List RR) : ∀ {x : Wr}, x.True → (∀ r ∈ l, FineK r) → ∀ (k : Nat) (o : Opt) (acc : List RR) (y : List UInt8), dRRs ((x.rrs l).b ++ y) e (l.length + k) x.b.length o acc = dRRs ((x.rrs l).b ++ y) e k (x.rrs l).b.length o (acc ++ l) := by
  induction l with
  | nil => intro x _ _ k o acc y; simp [Wr.rrs]
  | cons r l ih =>
    intro x hx h k o acc y
    have hr := h r (List.mem_cons_self ..)
    obtain ⟨z, hz⟩ := (x.rr r).rrs_ext l (fun u hu => h u (List.mem_cons_of_mem _ hu))
    have e1 : (x.rrs (r :: l)).b = (x.rr r).b ++ z := hz
    have h1 := getRR_back hx hr.2 (z ++ y)
    have h2 := ih (hx.rr hr.2) (fun u hu => h u (List.mem_cons_of_mem _ hu)) k o (acc ++ [r]) y
    have e2 : (x.rrs (r :: l)).b ++ y = ((x.rr r).rrs l).b ++ y := rfl
    have h3 : getRR ((x.rrs (r :: l)).b ++ y) (x.b.length : Int) = (r, ((x.rr r).b.length : Int), 0) := by rw [e1, List.append_assoc]; exact h1
    rw [List.length_cons, show l.length + 1 + k = (l.length + k) + 1 by omega, dRRs, h3]
    simp only [ne_eq, not_true_eq_false, if_false, Int.toNat_natCast]
    rw [if_neg hr.1, e2, h2]
    simp
    rfl
/-- The OPT record. -/
def optR (m : Ms) : RR := ⟨[], 41, m.size, 0, Da.zero⟩
end Go.Proofs.Ytimkdpkhdbiniaa

/- msg's reader, whatever the bytes: a question. -/
namespace Go.Proofs.Ytimkdpkhdbiniaa
open Go.RowKit
set_option maxRecDepth 100000
set_option linter.unusedVariables false

/-- A question whose name is a row of the call's own. -/
def QGot (w : World) (B : Nat) (s : QS) (x : Qu) : Prop := OwnS w B (.slice s.A x.name.length s.c) x.name
theorem dQu_name {b : List UInt8} {p : Nat} (h : (nameA b p).2.2 ≠ 0) : dQu b p = .error (nameA b p).2.2 := by unfold dQu; rw [if_pos h]
theorem dQu_short {b : List UInt8} {p p' : Nat} {ls : List (List UInt8)} (h : nameA b p = (ls, (p' : Int), 0)) (hs : b.length < p' + 4) : dQu b p = .error 3 := by
  unfold dQu
  rw [h]
  simp only [ne_eq, not_true_eq_false, if_false, Int.toNat_natCast]
  rw [if_pos hs]
theorem dQu_zero {b : List UInt8} {p p' : Nat} {ls : List (List UInt8)} (h : nameA b p = (ls, (p' : Int), 0)) (hs : p' + 4 ≤ b.length) (h0 : numA b p' 2 = 0) : dQu b p = .error 2 := by
  unfold dQu
  rw [h]
  simp only [ne_eq, not_true_eq_false, if_false, Int.toNat_natCast]
  rw [if_neg (by omega), if_pos h0]
theorem dQu_ok {b : List UInt8} {p p' : Nat} {ls : List (List UInt8)} (h : nameA b p = (ls, (p' : Int), 0)) (hs : p' + 4 ≤ b.length) (h0 : ¬ numA b p' 2 = 0) : dQu b p = .ok (⟨ls, (numA b p' 2 : Int), (numA b (p' + 2) 2 : Int)⟩, p' + 4) := by
  unfold dQu
  rw [h]
  simp only [ne_eq, not_true_eq_false, if_false, Int.toNat_natCast]
  rw [if_neg (by omega), if_neg h0]

set_option maxHeartbeats 4000000 in
theorem mquest_any (w : World) (p : Nat) (A : Option Addr) (n c pos : Nat) (bs : List UInt8) (h : MRd w p (.slice A n c) (pos : Int)) (hr : RdB w A n bs) (ho : offA A p) (hbl : ∀ b off, A = some ⟨b, off, none⟩ → b < w.heap.size) (hn : n ≤ c) (hn2 : n ≤ 100000000) :
    Calls Try.prog 145 #[.pointer (some ⟨p, 0, none⟩)] w (MdX (dQu bs pos) (fun v w' q => ∃ s, v = quV s q ∧ QGot w' w.heap.size s q) w p (.slice A n c)) := by
  have hpl := h.lt
  have hl := hr.len
  obtain ⟨w0, hw0⟩ : ∃ w0, w0 = w.alloc (.cells #[.slice none 0 0, .int .i64 0, .int .i64 0] 25) := ⟨_, rfl⟩
  have hb0 : Below w.heap.size w w0 := by rw [hw0]; exact bl.alloc (Nat.le_refl _) _
  have HQ0 : Hid (QRow w0 w.heap.size ⟨none, 0⟩ ⟨[], 0, 0⟩) := by show QRow _ _ _ _; rw [hw0]; exact QRow.made w ⟨none, 0⟩ ⟨[], 0, 0⟩
  have hz0 : w0.heap.size = w.heap.size + 1 := by rw [hw0]; simp
  have H0 := Lib.hid (h.below hb0)
  have HR0 := Lib.hid (hr.below hb0)
  have HB0 := Lib.hid hb0
  have HZ0 := Lib.hid hz0
  have HBL := Lib.hid hbl
  have hwg : ∀ w1 : World, RdB w1 A n bs → Calls Try.prog 164 #[.slice A n c, .int .i64 (pos : Int)] w1 (RetW (nameA bs pos) w1) := fun w1 h1 => wget_any A n c bs (pos : Int) w1 h1 hn (by omega)
  have hnn := nameA_nn bs pos
  have hnl := nameA_le bs pos
  obtain ⟨⟨ls, nxt, er⟩, hg⟩ : ∃ g, g = nameA bs pos := ⟨_, rfl⟩
  rw [← hg] at hnn hnl hwg
  have HG := Lib.hid hg.symm
  simp only at hnn hnl
  have HW := Lib.hid hwg
  obtain ⟨c0, c1, f0⟩ := H0.out.cells
  have d0 := below_cell bl.drew c0
  have d1 := below_cell bl.drew c1
  clear h hr hg hwg hb0 hz0 hbl
  by_cases he : er = 0
  · subst he
    obtain ⟨p1, rfl⟩ := Int.eq_ofNat_of_zero_le hnn
    have hp1 := hnl rfl
    clear hnn hnl
    go_enter Try.func145, Try.ntmps145
    go_upto_region 1 with (fail)
    rw [← hw0]
    clear hw0
    go_region_held3 (fun w' => w'.cell? ⟨p, 0, none⟩ = some (.slice A n c) ∧ w'.cell? ⟨p, 1, none⟩ = some (.int .i64 (pos : Int)))
      (first
        | with_reducible exact ⟨c0, c1⟩
        | with_reducible exact ⟨d0, d1⟩
        | with_reducible exact ⟨y0, y1⟩
        | fail)
      (first
        | (go_at_call 164; refine (HW.out w0.drew (HR0.out.below bl.drew)).mono ?_; rintro e w2 ⟨v2, rfl, hown2', hb2'⟩; have hb2 : Below w0.heap.size w0 w2 := bl.drew.trans hb2'; have y0 := below_cell hb2 c0; have y1 := below_cell hb2 c1)
        | fail)
    have H2 := Lib.hid (H0.out.below hb2)
    have HR2 := Lib.hid (HR0.out.below hb2)
    have HB2 := Lib.hid (nx HB0.out hb2)
    have HQ2 := Lib.hid (HQ0.out.below hb2)
    obtain ⟨A2, k2, hv2, _⟩ := OwnE.form hown2'
    subst hv2
    have HOW2 : Hid (OwnS w2 w0.heap.size (.slice A2 ls.length k2) ls) := hown2'
    have HZ2 : Hid (w.heap.size + 1 ≤ w2.heap.size) := by show _ ≤ _; have := hb2.size; rw [HZ0.out] at this; exact this
    have HPL : Hid (p < w.heap.size) := hpl
    have fp := H2.out.cells.2.2
    go_upto_region 5 with (fail)
    obtain ⟨w3, hw3⟩ : ∃ u, u = w2.setCell ⟨p, 1, none⟩ (.int .i64 (p1 : Int)) := ⟨_, rfl⟩
    have hc3 : Chg (fun k => k = p) w2 w3 := by rw [hw3]; exact chg_g1 _ _ _ _
    have H3 : Hid (MRd w3 p (.slice A n c) (p1 : Int)) := by show MRd _ _ _ _; rw [hw3]; exact H2.out.move _
    have HR3 := Lib.hid (RdB.chgP HR2.out hc3 ho)
    have HC3 : Hid (Chg (fun k => k = p) w w3) := (Chg.of_below (F := fun k => k = p) HB2.out).trans hc3 (fun _ h => .inl h)
    have HOW3 : Hid (OwnS w3 w0.heap.size (.slice A2 ls.length k2) ls) := OwnE.chg HOW2.out hc3 (fun z hz e => by have h1 := (OwnE.lt HOW2.out z hz).1; rw [HZ0.out] at h1; have h2 := HPL.out; omega) (fun _ hz => hz.elim)
    have HQ3 : Hid (QRow w3 w.heap.size ⟨none, 0⟩ ⟨[], 0, 0⟩) := hc3.heap HQ2.out (by have h2 := HPL.out; omega)
    have HZ3 : Hid (w.heap.size + 1 ≤ w3.heap.size) := by show _ ≤ _; have h1 := hc3.size; have h2 := HZ2.out; omega
    rw [← hw3]
    clear hw3 hc3 H2 HR2 HQ2 HOW2 y0 y1 d0 d1 c0 c1 f0 fp hb2' hown2' H0 HR0 HQ0 HW
    by_cases hs2 : bs.length < p1 + 2
    · have HE := Lib.hid (dQu_short HG.out (show bs.length < p1 + 4 by omega))
      have HN1 := Lib.hid (num2P_err hs2)
      clear hs2
      go_wp2_with (first
        | (go_at_call 144; refine (mnum_any w3 p A n c p1 bs H3.out HR3.out hn hn2).mono ?_; rw [HN1.out]; rintro e w4 ⟨rfl, hc4⟩)
        | fail)
      refine ⟨rfl, ?_⟩
      rw [HE.out]
      exact ⟨rfl, HC3.out.trans hc4 (fun _ h => .inl h)⟩
    have HN1 := Lib.hid (num2P_ok (show p1 + 2 ≤ bs.length by omega))
    go_upto_region 6 with (first
      | (go_at_call 144; refine (mnum_any w3 p A n c p1 bs H3.out HR3.out hn hn2).mono ?_; rw [HN1.out]; rintro e w4 ⟨v4, rfl, rfl, h4, hc4⟩; have H4 := Lib.hid h4; have HC4 := Lib.hid hc4; clear h4 hc4)
      | fail)
    obtain ⟨w5, hw5⟩ : ∃ u, u = w4.alloc (.cells #[.slice A2 ls.length k2, .int .i64 (numA bs p1 2 : Int), .int .i64 0] 25) := ⟨_, rfl⟩
    have hb5 : Below w4.heap.size w4 w5 := by rw [hw5]; exact bl.alloc (Nat.le_refl _) _
    have HQ5 : Hid (QRow w5 w4.heap.size ⟨A2, k2⟩ ⟨ls, (numA bs p1 2 : Int), 0⟩) := by show QRow _ _ _ _; rw [hw5]; exact QRow.made w4 ⟨A2, k2⟩ ⟨ls, (numA bs p1 2 : Int), 0⟩
    have H5 := Lib.hid (H4.out.below hb5)
    have HR5 := Lib.hid ((RdB.chgP HR3.out HC4.out ho).below hb5)
    have HC5 : Hid (Chg (fun k => k = p) w w5) := (HC3.out.trans HC4.out (fun _ h => .inl h)).nx hb5
    have HOW4 : Hid (OwnS w4 w0.heap.size (.slice A2 ls.length k2) ls) := OwnE.chg HOW3.out HC4.out (fun z hz e => by have h1 := (OwnE.lt HOW3.out z hz).1; rw [HZ0.out] at h1; have h2 := HPL.out; omega) (fun _ hz => hz.elim)
    have HOW5 := Lib.hid (OwnE.below HOW4.out hb5)
    have HOL : Hid (∀ z, (Value.slice A2 ls.length k2).ownBlock = some z → z < w4.heap.size) := fun z hz => (OwnE.lt HOW4.out z hz).2
    have HG5 : Hid (QRow w5 w.heap.size ⟨none, 0⟩ ⟨[], 0, 0⟩) := QRow.below (HC4.out.heap HQ3.out (by have h2 := HPL.out; omega)) hb5
    have HZ4 : Hid (w.heap.size + 1 ≤ w4.heap.size) := by show _ ≤ _; have h1 := HC4.out.size; have h2 := HZ3.out; omega
    rw [← hw5]
    clear hw5 hb5 H3 HR3 HQ3 HOW3 HN1 H4 HOW4
    generalize hq4 : w4.heap.size = q4 at HQ5 HZ4 HOL ⊢
    have HQ4 := Lib.hid hq4
    clear hq4
    by_cases hs4 : bs.length < p1 + 2 + 2
    · have HE := Lib.hid (dQu_short HG.out (show bs.length < p1 + 4 by omega))
      have HN2 := Lib.hid (num2P_err hs4)
      clear hs4
      go_wp2_with (first
        | (go_at_call 144; refine (mnum_any w5 p A n c (p1 + 2) bs H5.out HR5.out hn hn2).mono ?_; rw [HN2.out]; rintro e w6 ⟨rfl, hc6⟩)
        | fail)
      refine ⟨rfl, ?_⟩
      rw [HE.out]
      exact ⟨rfl, HC5.out.trans hc6 (fun _ h => .inl h)⟩
    have HN2 := Lib.hid (num2P_ok (show p1 + 2 + 2 ≤ bs.length by omega))
    go_upto_region 7 with (first
      | (go_at_call 144; refine (mnum_any w5 p A n c (p1 + 2) bs H5.out HR5.out hn hn2).mono ?_; rw [HN2.out]; rintro e w6 ⟨v6, rfl, rfl, h6, hc6⟩; have H6 := Lib.hid h6; have HC6 := Lib.hid hc6; have hq6 : QRow w6 q4 ⟨A2, k2⟩ ⟨ls, (numA bs p1 2 : Int), 0⟩ := hc6.heap HQ5.out (by have h2 := HPL.out; have h3 := HZ4.out; omega); have e2 := hq6.cell 2; have f2 := hq6.free 2; clear h6 hc6)
      | fail)
    obtain ⟨w7, hw7⟩ : ∃ u, u = w6.setCell ⟨q4, 2, none⟩ (.int .i64 (numA bs (p1 + 2) 2 : Int)) := ⟨_, rfl⟩
    have hc7 : Chg (fun k => k = q4) w6 w7 := by rw [hw7]; exact chg_g1 _ _ _ _
    have HQ7 : Hid (QRow w7 q4 ⟨A2, k2⟩ ⟨ls, (numA bs p1 2 : Int), (numA bs (p1 + 2) 2 : Int)⟩) := by show QRow _ _ _ _; rw [hw7]; exact hq6.put 2 _ _ _ rfl
    have HG7 : Hid (QRow w7 w.heap.size ⟨none, 0⟩ ⟨[], 0, 0⟩) := hc7.heap (HC6.out.heap HG5.out (by have h2 := HPL.out; omega)) (by have h3 := HZ4.out; omega)
    have H7 : Hid (MRd w7 p (.slice A n c) ((p1 + 2 + 2 : Nat) : Int)) := hc7.heap H6.out (by have h2 := HPL.out; have h3 := HZ4.out; omega)
    have HOW7 : Hid (OwnS w7 w0.heap.size (.slice A2 ls.length k2) ls) := by
      have hge : ∀ z, (Value.slice A2 ls.length k2).ownBlock = some z → w.heap.size + 1 ≤ z ∧ z < q4 := fun z hz => ⟨by have h1 := (OwnE.lt HOW5.out z hz).1; rw [HZ0.out] at h1; exact h1, HOL.out z hz⟩
      exact OwnE.chg (OwnE.chg HOW5.out HC6.out (fun z hz e => by have h1 := hge z hz; have h2 := HPL.out; omega) (fun _ hz => hz.elim)) hc7 (fun z hz e => by have h1 := hge z hz; omega) (fun _ hz => hz.elim)
    have HC7 : Hid (Chg (fun k => k = p) w w7) := (HC5.out.trans HC6.out (fun _ h => .inl h)).trans hc7 (fun z h => .inr (by have h3 := HZ4.out; omega))
    rw [← hw7]
    clear hw7 hc7 hq6 e2 f2 H5 HR5 HG5 HOW5 HC5 H6 HC6 HQ5 HN2
    obtain ⟨x0, x1, x2⟩ := HQ7.out.cells
    by_cases h0 : numA bs p1 2 = 0
    · have HE := Lib.hid (dQu_zero HG.out (show p1 + 4 ≤ bs.length by omega) h0)
      rw [h0] at x1
      have x1' : w7.cell? ⟨q4, 1, none⟩ = some (.int .i64 0) := x1
      clear x1
      go_wp2
      refine ⟨rfl, ?_⟩
      rw [HE.out]
      exact ⟨rfl, HC7.out⟩
    have HE := Lib.hid (dQu_ok HG.out (show p1 + 4 ≤ bs.length by omega) h0)
    have hT : ¬ ((numA bs p1 2 : Nat) : Int) = 0 := by omega
    obtain ⟨g0, g1, g2⟩ := HG7.out.cells
    have k0 := HG7.out.free 0
    have k1 := HG7.out.free 1
    have k2' := HG7.out.free 2
    generalize numA bs p1 2 = T at HE HQ7 x1 hT ⊢
    generalize numA bs (p1 + 2) 2 = C at HE HQ7 x2 ⊢
    simp only [List.length_nil] at g0
    go_wp2
    obtain ⟨w8, hw8⟩ : ∃ u, u = ((w7.setCell ⟨w.heap.size, 0, none⟩ (.slice A2 ls.length k2)).setCell ⟨w.heap.size, 1, none⟩ (.int .i64 (T : Int))).setCell ⟨w.heap.size, 2, none⟩ (.int .i64 (C : Int)) := ⟨_, rfl⟩
    have hQ8 : QRow w8 w.heap.size ⟨A2, k2⟩ ⟨ls, (T : Int), (C : Int)⟩ := by
      rw [hw8]
      exact ((HG7.out.put 0 (.slice A2 ls.length k2) ⟨A2, k2⟩ ⟨ls, 0, 0⟩ rfl).put 1 (.int .i64 (T : Int)) ⟨A2, k2⟩ ⟨ls, (T : Int), 0⟩ rfl).put 2 (.int .i64 (C : Int)) ⟨A2, k2⟩ ⟨ls, (T : Int), (C : Int)⟩ rfl
    have hc8 : Chg (fun k => k = w.heap.size) w7 w8 := by
      rw [hw8]
      have k : ∀ {u : World} (j : Nat) (v : Value), Chg (fun k => k = w.heap.size) w7 u → Chg (fun k => k = w.heap.size) w7 (u.setCell ⟨w.heap.size, j, none⟩ v) := fun j v h => h.setCell (p := ⟨w.heap.size, j, none⟩) (Or.inl rfl) v
      exact k 2 _ (k 1 _ (k 0 _ (Chg.refl _ w7)))
    rw [← hw8]
    clear hw8 x0 x1 x2 g0 g1 g2 k0 k1 k2'
    obtain ⟨x0, x1, x2⟩ := hQ8.cells
    have x0' : w8.cell? ⟨w.heap.size, 0, none⟩ = some (.slice A2 ls.length k2) := x0
    have x1' : w8.cell? ⟨w.heap.size, 1, none⟩ = some (.int .i64 (T : Int)) := x1
    have x2' : w8.cell? ⟨w.heap.size, 2, none⟩ = some (.int .i64 (C : Int)) := x2
    have hA : QGot w8 w.heap.size ⟨A2, k2⟩ ⟨ls, (T : Int), (C : Int)⟩ := OwnE.base_le (OwnE.chg HOW7.out hc8 (fun z hz e => by have h1 := (OwnE.lt HOW7.out z hz).1; rw [HZ0.out] at h1; omega) (fun _ hz => hz.elim)) (by rw [HZ0.out]; omega)
    have hB : MRd w8 p (.slice A n c) ((p1 + 4 : Nat) : Int) := hc8.heap H7.out (by have h2 := HPL.out; omega)
    have hC : Chg (fun k => k = p) w w8 := HC7.out.trans hc8 (fun z h => .inr (by omega))
    refine bodyPost_ret (v := .agg #[.slice A2 ls.length k2, .int .i64 (T : Int), .int .i64 (C : Int)]) ?_ rfl (by rw [HE.out]; exact ⟨_, rfl, ⟨⟨A2, k2⟩, rfl, hA⟩, hB, hC⟩)
    simp [results, Try.results145, go_sem, x0', x1', x2']
  · clear hnn hnl
    go_enter Try.func145, Try.ntmps145
    go_upto_region 1 with (fail)
    rw [← hw0]
    clear hw0
    go_region_held3 (fun w' => w'.cell? ⟨p, 0, none⟩ = some (.slice A n c) ∧ w'.cell? ⟨p, 1, none⟩ = some (.int .i64 (pos : Int)))
      (first
        | with_reducible exact ⟨c0, c1⟩
        | with_reducible exact ⟨d0, d1⟩
        | with_reducible exact ⟨y0, y1⟩
        | fail)
      (first
        | (go_at_call 164; refine (HW.out w0.drew (HR0.out.below bl.drew)).mono ?_; rintro e w2 ⟨v2, rfl, hown2', hb2'⟩; have hb2 : Below w0.heap.size w0 w2 := bl.drew.trans hb2'; have y0 := below_cell hb2 c0; have y1 := below_cell hb2 c1)
        | fail)
    have HE := Lib.hid (dQu_name (b := bs) (p := pos) (by rw [HG.out]; exact he))
    go_wp2
    refine ⟨rfl, ?_⟩
    rw [HE.out, HG.out]
    exact ⟨rfl, Chg.of_below (nx HB0.out hb2)⟩
end Go.Proofs.Ytimkdpkhdbiniaa
