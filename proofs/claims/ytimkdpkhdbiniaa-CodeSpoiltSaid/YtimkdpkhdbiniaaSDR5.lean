/- Parts of a proof, joined: CdDec, CdDec2. -/
import Derived.Test.YtimkdpkhdbiniaaSDR4
import Derived.Test.YtimkdpkhdbiniaaSDF09
import Derived.Test.YtimkdpkhdbiniaaSDM21r
import Derived.Test.YtimkdpkhdbiniaaSDR1
/- code.Decode, whatever the bytes (printed by gen/cddec.py). -/
namespace Go.Proofs.Ytimkdpkhdbiniaa
open Go.RowKit
set_option maxRecDepth 100000
set_option linter.unusedVariables false

theorem rowEn : RowT Try.prog 50 16 := ⟨_, Try.underlying50, by kernel_rfl⟩
theorem en_one (s : ES) (x : En) : (enCells s x).all (·.oneCell') = true := by simp [enCells, Value.oneCell']
set_option maxHeartbeats 400000 in
theorem cdCatch_idle (a b : Value) (w : World) : CallsD Try.prog 67 #[a, b] .returning w fun e u' w' => e = .returned (.tuple #[]) ∧ u' = .returning ∧ w' = w := by
  refine callsD_of_wpS Try.func67 rfl fun c₀ cs hu => ?_
  apply wpS_seq
  apply wpS_region
  simp [wpOpsS, go_sem, recoverD, hu, Try.ntmps67, Exit.thenS]
  refine wpS_of_wp ?_
  change Code.wp _ _ _ { tmps := #[a, b, undef, undef, undef, .nilIface, undef, undef, undef, undef, undef, undef, undef], defers := [] } w
  go_wp2
  cases c₀
  simp_all [bodyPostS, results, Try.results67]

set_option maxHeartbeats 1000000 in
theorem cdCatch_panic (D E : Nat) (f z : Int) (s : ES) (m : En) (older : List PanicEntry) (w : World) (hD : EnRow w D s m) (hE : w.heap[E]? = some (.cells #[.int .i64 z] 34 (0, 0))) (hne : D ≠ E) :
    CallsD Try.prog 67 #[.pointer (some ⟨D, 0, none⟩), .pointer (some ⟨E, 0, none⟩)] (.panicking ({ v := .iface 34 (.int .i64 f), recovered := false } :: older)) w fun e u' w' =>
      e = .returned (.tuple #[]) ∧ u' = .panicking ({ v := .iface 34 (.int .i64 f), recovered := true } :: older) ∧ EnRow w' D ES.nil En.zero ∧ w'.heap[E]? = some (.cells #[.int .i64 f] 34 (0, 0)) ∧ Chg (fun k => k = D ∨ k = E) w w' := by
  obtain ⟨x0, x1, x2, x3, x4, x5, x6, x7, x8, x9, x10, x11, x12, x13, x14, x15⟩ := hD.cells
  have kf := hD.free
  have xe : w.cell? ⟨E, 0, none⟩ = some (.int .i64 z) := (cell_of_row _ _ _ _ _ _ hE).trans rfl
  have f2 : ∀ k, w.frozen? ⟨E, k, none⟩ = false := fun k => frozen_of_row _ _ _ _ _ hE
  have hta : ∀ (xT : TypeId) (v : Value) (W : World), (Instr.typeAssert (.iface 34 v) xT 34 true).run Try.prog W = .ok (.tuple #[v, .bool true]) W := fun xT v W => by kernel_rfl
  refine callsD_of_wpS Try.func67 rfl fun c₀ cs hu => ?_
  apply wpS_seq
  apply wpS_region
  simp [wpOpsS, go_sem, recoverD, hu, Try.ntmps67, Exit.thenS]
  refine wpS_of_wp ?_
  change Code.wp _ _ _ { tmps := #[.pointer (some ⟨D, 0, none⟩), .pointer (some ⟨E, 0, none⟩), undef, undef, undef, .iface 34 (.int .i64 f), undef, undef, undef, undef, undef, undef, undef], defers := [] } w
  go_wp2
  obtain ⟨w4, hw4⟩ : ∃ u, u = putEC w D ES.nil En.zero := ⟨_, rfl⟩
  have hr4 : EnRow w4 D ES.nil En.zero := by rw [hw4]; exact EnRow.fillC hD ES.nil En.zero
  have hc4 : Chg (fun k => k = D) w w4 := by rw [hw4]; exact chgEC _ _ _ _
  unfold putEC put16 at hw4
  simp only [ES.nil, FS.nil, DS.nil, En.zero, Fa.zero, Da.zero, List.length_nil] at hw4
  rw [← hw4]
  clear hw4
  have hE4 := hc4.heap hE (fun e => hne e.symm)
  obtain ⟨w5, hw5⟩ : ∃ u, u = w4.setCell ⟨E, 0, none⟩ (.int .i64 f) := ⟨_, rfl⟩
  have hc5 : Chg (fun k => k = E) w4 w5 := by rw [hw5]; exact chg_g1 _ _ _ _
  have hr5 : EnRow w5 D ES.nil En.zero := hc5.heap hr4 hne
  have he5 : w5.heap[E]? = some (.cells #[.int .i64 f] 34 (0, 0)) := by rw [hw5]; exact (heap_setCell_same _ _ _ _ _ _ hE4).trans rfl
  have hc : Chg (fun k => k = D ∨ k = E) w w5 := (hc4.mono (G := fun k => k = D ∨ k = E) (fun _ h => .inl (.inl h))).trans hc5 (fun _ h => .inl (.inr h))
  rw [← hw5]
  clear hw5
  simp [bodyPostS, results, Try.results67]
  exact ⟨hr5, he5, hc⟩

/-- What code.Decode hands back. -/
def goodE (bs : List UInt8) (w : World) (v : Value) (w' : World) : Prop :=
  match decE bs with
  | some x => ∃ s, v = .tuple #[enV s x, .int .i64 0] ∧ EnIn (geS w.heap.size w') w' s x
  | none => v = .tuple #[enV ES.nil En.zero, .int .i64 14]
/-- The result's two boxes, and the reader, as Decode lays them. -/
structure CdSt (w wr : World) (bv : Value) : Prop where
  D : EnRow wr w.heap.size ES.nil En.zero
  E : wr.heap[w.heap.size + 1]? = some (.cells #[.int .i64 0] 34 (0, 0))
  P : CRd wr (w.heap.size + 2) bv 0
  bw : Below w.heap.size w wr
  z : wr.heap.size = w.heap.size + 3
theorem CdSt.made (w : World) (bv : Value) : CdSt w (((w.alloc (.cells (enCells ES.nil En.zero) 50)).alloc (.cells #[.int .i64 0] 34)).alloc (.cells #[bv, .int .i64 0] 110)) bv := by
  have hz1 : (w.alloc (.cells (enCells ES.nil En.zero) 50)).heap.size = w.heap.size + 1 := by simp
  have hz2 : ((w.alloc (.cells (enCells ES.nil En.zero) 50)).alloc (.cells #[.int .i64 0] 34)).heap.size = w.heap.size + 2 := by simp
  refine ⟨(heap_alloc_old _ _ (by rw [hz2]; omega)).trans ((heap_alloc_old _ _ (by rw [hz1]; omega)).trans (heap_alloc_new w _)), ?_, ?_, nx (nx (bl.alloc (Nat.le_refl _) _) (bl.alloc (Nat.le_refl _) _)) (bl.alloc (Nat.le_refl _) _), by simp⟩
  · refine (heap_alloc_old _ _ (by rw [hz2]; omega)).trans ?_
    rw [← hz1]
    exact heap_alloc_new _ _
  · unfold CRd
    rw [← hz2]
    exact heap_alloc_new _ _
theorem decE_none {bs : List UInt8} (h : entryP bs = none) : decE bs = none := by unfold decE; rw [h]
theorem decE_unfine {bs : List UInt8} {x : En} (h : entryP bs = some x) (hf : fineE x = false) : decE bs = none := by
  unfold decE; rw [h]; simp only; rw [if_neg (by rw [hf]; rintro ⟨h, _⟩; cases h)]
theorem decE_other {bs : List UInt8} {x : En} (h : entryP bs = some x) (hn : ¬ (enW x).b = bs) : decE bs = none := by
  unfold decE; rw [h]; simp only; rw [if_neg (fun e => hn e.2)]
theorem decE_same {bs : List UInt8} {x : En} (h : entryP bs = some x) (hf : fineE x = true) (hn : (enW x).b = bs) : decE bs = some x := by
  unfold decE; rw [h]; simp only; rw [if_pos ⟨hf, hn⟩]
theorem goodE_none {bs : List UInt8} {w w' : World} {v : Value} (h : decE bs = none) (hv : v = .tuple #[enV ES.nil En.zero, .int .i64 14]) : goodE bs w v w' := by unfold goodE; rw [h]; exact hv
theorem goodE_some {bs : List UInt8} {w w' : World} {x : En} {s : ES} (h : decE bs = some x) (hi : EnIn (geS w.heap.size w') w' s x) : goodE bs w (.tuple #[enV s x, .int .i64 0]) w' := by unfold goodE; rw [h]; exact ⟨s, rfl, hi⟩

set_option maxHeartbeats 8000000 in
theorem cdecode_none (w : World) (A : Option Addr) (n c : Nat) (bs : List UInt8) (hr : RdB w A n bs) (hfl : FlatA w A) (hn : n ≤ c) (hc : c ≤ 9223372036854775807) (hn2 : n ≤ 100000000) (hx : entryQ bs = none) :
    Calls Try.prog 29 #[.slice A n c] w (RetP (goodE bs w) w) := by
  have HX := Lib.hid hx
  have HE : Hid (decE bs = none) := decE_none (by rw [entryQ_P, hx]; rfl)
  clear hx
  have hl := hr.len
  have hmf : ∀ (fn : Fn) (first cap : Array Value) (w : World), (Instr.makeFunc fn first cap).run Try.prog w = .ok (.func fn first cap) w := fun _ _ _ _ => rfl
  obtain ⟨w1, hw1⟩ : ∃ w1, w1 = ((w.alloc (.cells #[.int .i64 0, .int .i64 0, .slice none 0 0, .int .i64 0, .int .i64 0, .int .i64 0, .int .i64 0, .int .i64 0, .slice none 0 0, .slice none 0 0, .slice none 0 0, .slice none 0 0, .slice none 0 0, .slice none 0 0, .slice none 0 0, .slice none 0 0] 50)).alloc (.cells #[.int .i64 0] 34)).alloc (.cells #[.slice A n c, .int .i64 0] 110) := ⟨_, rfl⟩
  have ST1 : Hid (CdSt w w1 (.slice A n c)) := by show CdSt _ _ _; rw [hw1]; exact CdSt.made w _
  have HR := Lib.hid (hr.below ST1.out.bw)
  have HO : Hid (offA A (w.heap.size + 2)) := fun b off e => by have := hfl.blk b off e; omega
  have HFL := Lib.hid (hfl.le ST1.out.bw.size)
  clear hr hfl
  go_enter_defers Try.func29, Try.ntmps29
  go_upto_region 2 with (fail)
  go_wp2_with (first
    | (go_at_call 68; rw [← hw1]; clear hw1; refine (centry_any w1 (w.heap.size + 2) A n c bs ST1.out.P HR.out HO.out HFL.out hn hc hn2).mono ?_; rw [HX.out]; rintro e w3 ⟨rfl, hc3⟩; have HD3 : Hid (EnRow w3 w.heap.size ES.nil En.zero) := hc3.heap ST1.out.D (by omega); have HE3 := Lib.hid (hc3.heap ST1.out.E (by omega)))
    | fail)
  refine leaves_cons (f := 67) (args := #[.pointer (some ⟨w.heap.size, 0, none⟩), .pointer (some ⟨w.heap.size + 1, 0, none⟩)]) (by simp) (by simp [go_sem]) ?_
  refine (cdCatch_panic w.heap.size (w.heap.size + 1) 14 0 _ _ [] w3 HD3.out HE3.out (by omega)).mono ?_
  rintro e u' w5 ⟨rfl, rfl, hd5, he5', hc5⟩
  have he5 : w5.cell? ⟨w.heap.size + 1, 0, none⟩ = some (.int .i64 14) := (cell_of_row _ _ _ _ _ _ he5').trans rfl
  obtain ⟨x0, x1, x2, x3, x4, x5, x6, x7, x8, x9, x10, x11, x12, x13, x14, x15⟩ := hd5.cells
  have hbA : Below w.heap.size w w5 := by
    have h2 : Chg (fun k => k = w.heap.size ∨ k = w.heap.size + 1 ∨ k = w.heap.size + 2) w1 w5 := (hc3.mono (G := fun k => k = w.heap.size ∨ k = w.heap.size + 1 ∨ k = w.heap.size + 2) (fun _ h => .inl (.inr (.inr h)))).trans hc5 (fun _ h => .inl (h.elim .inl (fun h => .inr (.inl h))))
    exact ST1.out.bw.trans (h2.below (fun x hx => by omega) ST1.out.bw.size)
  simp only [ES.nil, FS.nil, DS.nil, En.zero, Fa.zero, Da.zero, List.length_nil] at x0 x1 x2 x3 x4 x5 x6 x7 x8 x9 x10 x11 x12 x13 x14 x15
  simp [Leaves, settle, results, Try.results29, go_sem, x0, x1, x2, x3, x4, x5, x6, x7, x8, x9, x10, x11, x12, x13, x14, x15, he5]
  exact ⟨_, rfl, goodE_none HE.out rfl, hbA⟩

theorem below_heap {w w' : World} {g : Nat} {o : Obj} (h : w.heap[g]? = some o) (hb : Below w.heap.size w w') : w'.heap[g]? = some o := (hb.block g (Array.getElem?_eq_some_iff.1 h).1).trans h

set_option maxHeartbeats 16000000 in
theorem cdecode_unfine (w : World) (A : Option Addr) (n c : Nat) (bs : List UInt8) (hr : RdB w A n bs) (hfl : FlatA w A) (hn : n ≤ c) (hc : c ≤ 9223372036854775807) (hn2 : n ≤ 100000000) {x : En} {q : Nat} (hx : entryQ bs = some (x, q)) (hf : fineE x = false) :
    Calls Try.prog 29 #[.slice A n c] w (RetP (goodE bs w) w) := by
  have HX := Lib.hid hx
  have hp : entryP bs = some x := by rw [entryQ_P, hx]; rfl
  have HE := Lib.hid (decE_unfine hp hf)
  have HLT := Lib.hid (entryP_lt hp)
  have HF := Lib.hid hf
  clear hf
  clear hx hp
  have hl := hr.len
  have hmf : ∀ (fn : Fn) (first cap : Array Value) (w : World), (Instr.makeFunc fn first cap).run Try.prog w = .ok (.func fn first cap) w := fun _ _ _ _ => rfl
  obtain ⟨w1, hw1⟩ : ∃ w1, w1 = ((w.alloc (.cells #[.int .i64 0, .int .i64 0, .slice none 0 0, .int .i64 0, .int .i64 0, .int .i64 0, .int .i64 0, .int .i64 0, .slice none 0 0, .slice none 0 0, .slice none 0 0, .slice none 0 0, .slice none 0 0, .slice none 0 0, .slice none 0 0, .slice none 0 0] 50)).alloc (.cells #[.int .i64 0] 34)).alloc (.cells #[.slice A n c, .int .i64 0] 110) := ⟨_, rfl⟩
  have ST1 : Hid (CdSt w w1 (.slice A n c)) := by show CdSt _ _ _; rw [hw1]; exact CdSt.made w _
  have HR := Lib.hid (hr.below ST1.out.bw)
  have HO : Hid (offA A (w.heap.size + 2)) := fun b off e => by have := hfl.blk b off e; omega
  have HFL := Lib.hid (hfl.le ST1.out.bw.size)
  clear hr hfl
  go_enter_defers Try.func29, Try.ntmps29
  go_upto_region 2 with (fail)
  go_upto_region 3 with (first
    | (go_at_call 68; rw [← hw1]; clear hw1; refine (centry_any w1 (w.heap.size + 2) A n c bs ST1.out.P HR.out HO.out HFL.out hn hc hn2).mono ?_; rw [HX.out]; rintro e w3 ⟨v3, rfl, ⟨s, rfl, hi3⟩, hp3, hc3⟩; have HI3 := Lib.hid hi3; have HC3 := Lib.hid hc3; have HD3 : Hid (EnRow w3 w.heap.size ES.nil En.zero) := hc3.heap ST1.out.D (by omega); have HE3 := Lib.hid (hc3.heap ST1.out.E (by omega)); clear hi3 hp3 hc3)
    | ((with_reducible show wpList _ _ _ (⟨none, _, _, _, _, _⟩ :: _) _ _); refine wpL_storeR rowEn rfl (.tmp 2) (.tmp 8) rfl w.heap.size rfl (enCells s x) rfl (enCells ES.nil En.zero) HD3.out rfl rfl (en_one _ _) ?_; intro w4 hr4 hc4; have HR4 : Hid (EnRow w4 w.heap.size s x) := hr4; have HC4 := Lib.hid hc4; clear hr4 hc4)
    | fail)
  have HI4 : Hid (EnIn (fun b => w.heap.size + 3 ≤ b ∧ b < w4.heap.size) w4 s x) := by
    have h := HI3.out.ge HC4.out (fun k h1 _ e => by have := ST1.out.z; omega)
    exact h.mono (fun b hb => ⟨by have := hb.1; have := ST1.out.z; omega, hb.2⟩)
  have HE4 := Lib.hid (HC4.out.heap HE3.out (by omega))
  have HB4 : Hid (Below w.heap.size w w4) := by
    have h2 : Chg (fun k => k = w.heap.size ∨ k = w.heap.size + 2) w1 w4 := (HC3.out.mono (G := fun k => k = w.heap.size ∨ k = w.heap.size + 2) (fun _ h => .inl (.inr h))).trans HC4.out (fun _ h => .inl (.inl h))
    exact ST1.out.bw.trans (h2.below (fun x hx => by omega) ST1.out.bw.size)
  have HCW : Hid (Chg (fun k => k = w.heap.size ∨ k = w.heap.size + 2) w1 w4) := (HC3.out.mono (G := fun k => k = w.heap.size ∨ k = w.heap.size + 2) (fun _ h => .inl (.inr h))).trans HC4.out (fun _ h => .inl (.inl h))
  clear HD3 HE3 HI3 HC3 HC4
  have HSN : Hid (Calls Try.prog 23 #[enV s x] w4 (RetP (fun v _ => v = .bool (fineE x)) w4)) := csound_any s x w4 HI4.out (fun b hb => hb.2) HLT.out
  rw [HF.out] at HSN
  unfold enV at HSN
  go_upto_region 4 with (first
    | ((with_reducible show wpList _ _ _ (⟨some 13, _, _, _, _, _⟩ :: _) _ _); refine wpL_loadR rowEn rfl (.tmp 2) rfl w.heap.size rfl (enCells s x) (HR4.out.below HB5.out) rfl ?_)
    | ((with_reducible show wpList _ _ _ (⟨some 9, _, _, _, _, _⟩ :: _) _ _); refine wpL_loadR rowEn rfl (.tmp 2) rfl w.heap.size rfl (enCells s x) HR4.out rfl ?_)
    | (go_at_call 23; (with_reducible refine HSN.out.mono ?_); rintro e w5 ⟨v5, rfl, rfl, hb5⟩; have HB5 := Lib.hid hb5; clear hb5)
    | fail)
  go_wp2_with (first
    | ((with_reducible show wpList _ _ _ (⟨none, _, _, _, _, _⟩ :: _) _ _); refine wpL_storeR rowEn rfl (.tmp 2) (.tmp 19) rfl w.heap.size rfl (enCells ES.nil En.zero) rfl (enCells s x) (HR4.out.below HB5.out) rfl rfl (en_one _ _) ?_; intro w8 hr8 hc8; have he8 := hc8.heap (below_heap HE4.out HB5.out) (by omega); have ye8 : w8.cell? ⟨w.heap.size + 1, 0, none⟩ = some (.int .i64 0) := (cell_of_row _ _ _ _ _ _ he8).trans rfl; have ke8 : ∀ k, w8.frozen? ⟨w.heap.size + 1, k, none⟩ = false := fun k => frozen_of_row _ _ _ _ _ he8)
    | fail)
  obtain ⟨w9, hw9⟩ : ∃ u, u = w8.setCell ⟨w.heap.size + 1, 0, none⟩ (.int .i64 14) := ⟨_, rfl⟩
  have hc9 : Chg (fun k => k = w.heap.size + 1) w8 w9 := by rw [hw9]; exact chg_g1 _ _ _ _
  have hr9 : EnRow w9 w.heap.size ES.nil En.zero := hc9.heap hr8 (by omega)
  have he9' : w9.heap[w.heap.size + 1]? = some (.cells #[.int .i64 14] 34 (0, 0)) := by rw [hw9]; exact (heap_setCell_same _ _ _ _ _ _ he8).trans rfl
  rw [← hw9]
  clear hw9 ye8 ke8
  have he9 : w9.cell? ⟨w.heap.size + 1, 0, none⟩ = some (.int .i64 14) := (cell_of_row _ _ _ _ _ _ he9').trans rfl
  obtain ⟨x0, x1, x2, x3, x4, x5, x6, x7, x8, x9, x10, x11, x12, x13, x14, x15⟩ := hr9.cells
  simp only [ES.nil, FS.nil, DS.nil, En.zero, Fa.zero, Da.zero, List.length_nil] at x0 x1 x2 x3 x4 x5 x6 x7 x8 x9 x10 x11 x12 x13 x14 x15
  have hbA : Below w.heap.size w w9 := by
    have h2 : Chg (fun k => k = w.heap.size ∨ k = w.heap.size + 1) w5 w9 := (hc8.mono (G := fun k => k = w.heap.size ∨ k = w.heap.size + 1) (fun _ h => .inl (.inl h))).trans hc9 (fun _ h => .inl (.inr h))
    exact (nx HB4.out HB5.out).trans (h2.below (fun x hx => by omega) (nx HB4.out HB5.out).size)
  refine leaves_cons (f := 67) (args := #[.pointer (some ⟨w.heap.size, 0, none⟩), .pointer (some ⟨w.heap.size + 1, 0, none⟩)]) (by simp) (by simp [go_sem]) ?_
  refine (cdCatch_idle _ _ _).mono ?_
  rintro e u' w'' ⟨rfl, rfl, rfl⟩
  simp [Leaves, settle, results, Try.results29, go_sem, x0, x1, x2, x3, x4, x5, x6, x7, x8, x9, x10, x11, x12, x13, x14, x15, he9]
  exact ⟨_, rfl, goodE_none HE.out rfl, hbA⟩

end Go.Proofs.Ytimkdpkhdbiniaa

/- code.Decode, whatever the bytes: bytes that are not its own (printed by gen/cddec.py). -/
namespace Go.Proofs.Ytimkdpkhdbiniaa
open Go.RowKit
set_option maxRecDepth 100000
set_option linter.unusedVariables false


set_option maxHeartbeats 16000000 in
theorem cdecode_other (w : World) (A : Option Addr) (n c : Nat) (bs : List UInt8) (hr : RdB w A n bs) (hfl : FlatA w A) (hn : n ≤ c) (hc : c ≤ 9223372036854775807) (hn2 : n ≤ 100000000) {x : En} {q : Nat} (hx : entryQ bs = some (x, q)) (hf : fineE x = true) (hne : ¬ (enW x).b = bs) :
    Calls Try.prog 29 #[.slice A n c] w (RetP (goodE bs w) w) := by
  have HX := Lib.hid hx
  have hp : entryP bs = some x := by rw [entryQ_P, hx]; rfl
  have HE := Lib.hid (decE_other hp hne)
  have HLT := Lib.hid (entryP_lt hp)
  have HF := Lib.hid hf
  have HN := Lib.hid hne
  have HFL0 : Hid (∀ b off, A = some ⟨b, off, none⟩ → b < w.heap.size) := hfl.blk
  clear hf hne
  clear hx hp
  have hl := hr.len
  have hmf : ∀ (fn : Fn) (first cap : Array Value) (w : World), (Instr.makeFunc fn first cap).run Try.prog w = .ok (.func fn first cap) w := fun _ _ _ _ => rfl
  obtain ⟨w1, hw1⟩ : ∃ w1, w1 = ((w.alloc (.cells #[.int .i64 0, .int .i64 0, .slice none 0 0, .int .i64 0, .int .i64 0, .int .i64 0, .int .i64 0, .int .i64 0, .slice none 0 0, .slice none 0 0, .slice none 0 0, .slice none 0 0, .slice none 0 0, .slice none 0 0, .slice none 0 0, .slice none 0 0] 50)).alloc (.cells #[.int .i64 0] 34)).alloc (.cells #[.slice A n c, .int .i64 0] 110) := ⟨_, rfl⟩
  have ST1 : Hid (CdSt w w1 (.slice A n c)) := by show CdSt _ _ _; rw [hw1]; exact CdSt.made w _
  have HR := Lib.hid (hr.below ST1.out.bw)
  have HO : Hid (offA A (w.heap.size + 2)) := fun b off e => by have := hfl.blk b off e; omega
  have HFL := Lib.hid (hfl.le ST1.out.bw.size)
  clear hr hfl
  go_enter_defers Try.func29, Try.ntmps29
  go_upto_region 2 with (fail)
  go_upto_region 3 with (first
    | (go_at_call 68; rw [← hw1]; clear hw1; refine (centry_any w1 (w.heap.size + 2) A n c bs ST1.out.P HR.out HO.out HFL.out hn hc hn2).mono ?_; rw [HX.out]; rintro e w3 ⟨v3, rfl, ⟨s, rfl, hi3⟩, hp3, hc3⟩; have HI3 := Lib.hid hi3; have HC3 := Lib.hid hc3; have HD3 : Hid (EnRow w3 w.heap.size ES.nil En.zero) := hc3.heap ST1.out.D (by omega); have HE3 := Lib.hid (hc3.heap ST1.out.E (by omega)); clear hi3 hp3 hc3)
    | ((with_reducible show wpList _ _ _ (⟨none, _, _, _, _, _⟩ :: _) _ _); refine wpL_storeR rowEn rfl (.tmp 2) (.tmp 8) rfl w.heap.size rfl (enCells s x) rfl (enCells ES.nil En.zero) HD3.out rfl rfl (en_one _ _) ?_; intro w4 hr4 hc4; have HR4 : Hid (EnRow w4 w.heap.size s x) := hr4; have HC4 := Lib.hid hc4; clear hr4 hc4)
    | fail)
  have HI4 : Hid (EnIn (fun b => w.heap.size + 3 ≤ b ∧ b < w4.heap.size) w4 s x) := by
    have h := HI3.out.ge HC4.out (fun k h1 _ e => by have := ST1.out.z; omega)
    exact h.mono (fun b hb => ⟨by have := hb.1; have := ST1.out.z; omega, hb.2⟩)
  have HE4 := Lib.hid (HC4.out.heap HE3.out (by omega))
  have HB4 : Hid (Below w.heap.size w w4) := by
    have h2 : Chg (fun k => k = w.heap.size ∨ k = w.heap.size + 2) w1 w4 := (HC3.out.mono (G := fun k => k = w.heap.size ∨ k = w.heap.size + 2) (fun _ h => .inl (.inr h))).trans HC4.out (fun _ h => .inl (.inl h))
    exact ST1.out.bw.trans (h2.below (fun x hx => by omega) ST1.out.bw.size)
  have HCW : Hid (Chg (fun k => k = w.heap.size ∨ k = w.heap.size + 2) w1 w4) := (HC3.out.mono (G := fun k => k = w.heap.size ∨ k = w.heap.size + 2) (fun _ h => .inl (.inr h))).trans HC4.out (fun _ h => .inl (.inl h))
  clear HD3 HE3 HI3 HC3 HC4
  have HSN : Hid (Calls Try.prog 23 #[enV s x] w4 (RetP (fun v _ => v = .bool (fineE x)) w4)) := csound_any s x w4 HI4.out (fun b hb => hb.2) HLT.out
  rw [HF.out] at HSN
  unfold enV at HSN
  have HRW : Hid (∀ u, Below w4.heap.size w4 u → Calls Try.prog 56 #[enV s x] u (RetP (fun v w' => OwnB w' u.heap.size v (enW x).b) u)) := fun u hu => craw_any s x u (HI4.out.below hu (fun b hb => hb.2)) (fun b hb => Nat.lt_of_lt_of_le hb.2 hu.size) (enOk HF.out)
  unfold enV at HRW
  have HRB : Hid (∀ u, Below w4.heap.size w4 u → RdB u A n bs) := fun u hu => (HR.out.chg HCW.out (fun b off e h => by have h1 := HFL0.out b off e; omega)).below hu
  go_upto_region 4 with (first
    | (go_at_call 53; refine (bequal_any A6 A _ _ n c (enW x).b bs w6 HR6.out (HRB.out w6 HB6.out)).mono ?_; rw [decide_eq_false HN.out]; rintro e w7 ⟨rfl, rfl⟩)
    | (go_at_call 56; (with_reducible refine (HRW.out w5 HB5.out).mono ?_); rintro e w6 ⟨v6, rfl, ho6, hb6⟩; obtain ⟨A6, c6, rfl, hr6, _, _⟩ := OwnB.form ho6; have HR6 := Lib.hid hr6; have HB6 := Lib.hid (nx HB5.out hb6); clear hr6 ho6 hb6)
    | ((with_reducible show wpList _ _ _ (⟨some 13, _, _, _, _, _⟩ :: _) _ _); refine wpL_loadR rowEn rfl (.tmp 2) rfl w.heap.size rfl (enCells s x) (HR4.out.below HB5.out) rfl ?_)
    | ((with_reducible show wpList _ _ _ (⟨some 9, _, _, _, _, _⟩ :: _) _ _); refine wpL_loadR rowEn rfl (.tmp 2) rfl w.heap.size rfl (enCells s x) HR4.out rfl ?_)
    | (go_at_call 23; (with_reducible refine HSN.out.mono ?_); rintro e w5 ⟨v5, rfl, rfl, hb5⟩; have HB5 := Lib.hid hb5; clear hb5)
    | fail)
  go_wp2_with (first
    | ((with_reducible show wpList _ _ _ (⟨none, _, _, _, _, _⟩ :: _) _ _); refine wpL_storeR rowEn rfl (.tmp 2) (.tmp 19) rfl w.heap.size rfl (enCells ES.nil En.zero) rfl (enCells s x) (HR4.out.below HB6.out) rfl rfl (en_one _ _) ?_; intro w8 hr8 hc8; have he8 := hc8.heap (below_heap HE4.out HB6.out) (by omega); have ye8 : w8.cell? ⟨w.heap.size + 1, 0, none⟩ = some (.int .i64 0) := (cell_of_row _ _ _ _ _ _ he8).trans rfl; have ke8 : ∀ k, w8.frozen? ⟨w.heap.size + 1, k, none⟩ = false := fun k => frozen_of_row _ _ _ _ _ he8)
    | fail)
  obtain ⟨w9, hw9⟩ : ∃ u, u = w8.setCell ⟨w.heap.size + 1, 0, none⟩ (.int .i64 14) := ⟨_, rfl⟩
  have hc9 : Chg (fun k => k = w.heap.size + 1) w8 w9 := by rw [hw9]; exact chg_g1 _ _ _ _
  have hr9 : EnRow w9 w.heap.size ES.nil En.zero := hc9.heap hr8 (by omega)
  have he9' : w9.heap[w.heap.size + 1]? = some (.cells #[.int .i64 14] 34 (0, 0)) := by rw [hw9]; exact (heap_setCell_same _ _ _ _ _ _ he8).trans rfl
  rw [← hw9]
  clear hw9 ye8 ke8
  have he9 : w9.cell? ⟨w.heap.size + 1, 0, none⟩ = some (.int .i64 14) := (cell_of_row _ _ _ _ _ _ he9').trans rfl
  obtain ⟨x0, x1, x2, x3, x4, x5, x6, x7, x8, x9, x10, x11, x12, x13, x14, x15⟩ := hr9.cells
  simp only [ES.nil, FS.nil, DS.nil, En.zero, Fa.zero, Da.zero, List.length_nil] at x0 x1 x2 x3 x4 x5 x6 x7 x8 x9 x10 x11 x12 x13 x14 x15
  have hbA : Below w.heap.size w w9 := by
    have h2 : Chg (fun k => k = w.heap.size ∨ k = w.heap.size + 1) w6 w9 := (hc8.mono (G := fun k => k = w.heap.size ∨ k = w.heap.size + 1) (fun _ h => .inl (.inl h))).trans hc9 (fun _ h => .inl (.inr h))
    exact (nx HB4.out HB6.out).trans (h2.below (fun x hx => by omega) (nx HB4.out HB6.out).size)
  refine leaves_cons (f := 67) (args := #[.pointer (some ⟨w.heap.size, 0, none⟩), .pointer (some ⟨w.heap.size + 1, 0, none⟩)]) (by simp) (by simp [go_sem]) ?_
  refine (cdCatch_idle _ _ _).mono ?_
  rintro e u' w'' ⟨rfl, rfl, rfl⟩
  simp [Leaves, settle, results, Try.results29, go_sem, x0, x1, x2, x3, x4, x5, x6, x7, x8, x9, x10, x11, x12, x13, x14, x15, he9]
  exact ⟨_, rfl, goodE_none HE.out rfl, hbA⟩

end Go.Proofs.Ytimkdpkhdbiniaa
