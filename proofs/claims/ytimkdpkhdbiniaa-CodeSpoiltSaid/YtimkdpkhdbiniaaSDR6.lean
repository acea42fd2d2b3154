/- Parts of a proof, joined: CdDec3. -/
import Derived.Test.YtimkdpkhdbiniaaSDR5
/- code.Decode, whatever the bytes: its own bytes (printed by gen/cddec.py). -/
namespace Go.Proofs.Ytimkdpkhdbiniaa
open Go.RowKit
set_option maxRecDepth 100000
set_option linter.unusedVariables false


set_option maxHeartbeats 16000000 in
theorem cdecode_same (w : World) (A : Option Addr) (n c : Nat) (bs : List UInt8) (hr : RdB w A n bs) (hfl : FlatA w A) (hn : n ≤ c) (hc : c ≤ 9223372036854775807) (hn2 : n ≤ 100000000) {x : En} {q : Nat} (hx : entryQ bs = some (x, q)) (hf : fineE x = true) (hne : (enW x).b = bs) :
    Calls Try.prog 29 #[.slice A n c] w (RetP (goodE bs w) w) := by
  have HX := Lib.hid hx
  have hp : entryP bs = some x := by rw [entryQ_P, hx]; rfl
  have HE := Lib.hid (decE_same hp hf hne)
  have HLT := Lib.hid (entryP_lt hp)
  have HF := Lib.hid hf
  have HN := Lib.hid hne
  have HFL0 : Hid (∀ b off, A = some ⟨b, off, none⟩ → b < w.heap.size) := hfl.blk
  clear hf hne
  clear hx hp
  have hl := hr.len
  have hmf : ∀ (fn : Fn) (first cap : Array Value) (w : World), (Instr.makeFunc fn first cap).run Try.prog w = .ok (.func fn first cap) w := fun _ _ _ _ => rfl
  obtain ⟨w1, hw1⟩ : ∃ w1, w1 = ((w.alloc (.cells #[.int .i64 0, .int .i64 0, .slice none 0 0, .int .i64 0, .int .i64 0, .int .i64 0, .int .i64 0, .int .i64 0, .slice none 0 0, .slice none 0 0, .slice none 0 0, .slice none 0 0, .slice none 0 0, .slice none 0 0, .slice none 0 0, .slice none 0 0] 50)).alloc (.cells #[.int .i64 0] 34)).alloc (.cells #[.slice A n c, .int .i64 0] 110) := ⟨_, rfl⟩
  have ST1 : Hid (CdSt w w1 (.slice A n c)) := by show CdSt _ _ _; rw [hw1]; exact CdSt.made w _
  have HR := Lib.hid (hr.below ST1.out.bw)
  have HO : Hid (offA A (w.heap.size + 2)) := fun b off e => by have := hfl.blk b off e; omega
  have HFL := Lib.hid (hfl.le ST1.out.bw.size)
  clear hr hfl
  go_enter_defers Try.func29, Try.ntmps29
  go_upto_region 2 with (fail)
  go_upto_region 3 with (first
    | (go_at_call 68; rw [← hw1]; clear hw1; refine (centry_any w1 (w.heap.size + 2) A n c bs ST1.out.P HR.out HO.out HFL.out hn hc hn2).mono ?_; rw [HX.out]; rintro e w3 ⟨v3, rfl, ⟨s, rfl, hi3⟩, hp3, hc3⟩; have HI3 := Lib.hid hi3; have HC3 := Lib.hid hc3; have HD3 : Hid (EnRow w3 w.heap.size ES.nil En.zero) := hc3.heap ST1.out.D (by omega); have HE3 := Lib.hid (hc3.heap ST1.out.E (by omega)); clear hi3 hp3 hc3)
    | ((with_reducible show wpList _ _ _ (⟨none, _, _, _, _, _⟩ :: _) _ _); refine wpL_storeR rowEn rfl (.tmp 2) (.tmp 8) rfl w.heap.size rfl (enCells s x) rfl (enCells ES.nil En.zero) HD3.out rfl rfl (en_one _ _) ?_; intro w4 hr4 hc4; have HR4 : Hid (EnRow w4 w.heap.size s x) := hr4; have HC4 := Lib.hid hc4; clear hr4 hc4)
    | fail)
  have HI4 : Hid (EnIn (fun b => w.heap.size + 3 ≤ b ∧ b < w4.heap.size) w4 s x) := by
    have h := HI3.out.ge HC4.out (fun k h1 _ e => by have := ST1.out.z; omega)
    exact h.mono (fun b hb => ⟨by have := hb.1; have := ST1.out.z; omega, hb.2⟩)
  have HE4 := Lib.hid (HC4.out.heap HE3.out (by omega))
  have HB4 : Hid (Below w.heap.size w w4) := by
    have h2 : Chg (fun k => k = w.heap.size ∨ k = w.heap.size + 2) w1 w4 := (HC3.out.mono (G := fun k => k = w.heap.size ∨ k = w.heap.size + 2) (fun _ h => .inl (.inr h))).trans HC4.out (fun _ h => .inl (.inl h))
    exact ST1.out.bw.trans (h2.below (fun x hx => by omega) ST1.out.bw.size)
  have HCW : Hid (Chg (fun k => k = w.heap.size ∨ k = w.heap.size + 2) w1 w4) := (HC3.out.mono (G := fun k => k = w.heap.size ∨ k = w.heap.size + 2) (fun _ h => .inl (.inr h))).trans HC4.out (fun _ h => .inl (.inl h))
  clear HD3 HE3 HI3 HC3 HC4
  have HSN : Hid (Calls Try.prog 23 #[enV s x] w4 (RetP (fun v _ => v = .bool (fineE x)) w4)) := csound_any s x w4 HI4.out (fun b hb => hb.2) HLT.out
  rw [HF.out] at HSN
  unfold enV at HSN
  have HRW : Hid (∀ u, Below w4.heap.size w4 u → Calls Try.prog 56 #[enV s x] u (RetP (fun v w' => OwnB w' u.heap.size v (enW x).b) u)) := fun u hu => craw_any s x u (HI4.out.below hu (fun b hb => hb.2)) (fun b hb => Nat.lt_of_lt_of_le hb.2 hu.size) (enOk HF.out)
  unfold enV at HRW
  have HRB : Hid (∀ u, Below w4.heap.size w4 u → RdB u A n bs) := fun u hu => (HR.out.chg HCW.out (fun b off e h => by have h1 := HFL0.out b off e; omega)).below hu
  go_upto_region 5 with (first
    | (go_at_call 53; refine (bequal_any A6 A _ _ n c (enW x).b bs w6 HR6.out (HRB.out w6 HB6.out)).mono ?_; rw [decide_eq_true HN.out]; rintro e w7 ⟨rfl, rfl⟩)
    | (go_at_call 56; (with_reducible refine (HRW.out w5 HB5.out).mono ?_); rintro e w6 ⟨v6, rfl, ho6, hb6⟩; obtain ⟨A6, c6, rfl, hr6, _, _⟩ := OwnB.form ho6; have HR6 := Lib.hid hr6; have HB6 := Lib.hid (nx HB5.out hb6); clear hr6 ho6 hb6)
    | ((with_reducible show wpList _ _ _ (⟨some 13, _, _, _, _, _⟩ :: _) _ _); refine wpL_loadR rowEn rfl (.tmp 2) rfl w.heap.size rfl (enCells s x) (HR4.out.below HB5.out) rfl ?_)
    | ((with_reducible show wpList _ _ _ (⟨some 9, _, _, _, _, _⟩ :: _) _ _); refine wpL_loadR rowEn rfl (.tmp 2) rfl w.heap.size rfl (enCells s x) HR4.out rfl ?_)
    | (go_at_call 23; (with_reducible refine HSN.out.mono ?_); rintro e w5 ⟨v5, rfl, rfl, hb5⟩; have HB5 := Lib.hid hb5; clear hb5)
    | fail)
  go_wp2_with (first
    | ((with_reducible show wpList _ _ _ (⟨some 20, _, _, _, _, _⟩ :: _) _ _); refine wpL_loadR rowEn rfl (.tmp 2) rfl w.heap.size rfl (enCells s x) (HR4.out.below HB6.out) rfl ?_)
    | ((with_reducible show wpList _ _ _ (⟨none, _, _, _, _, _⟩ :: _) _ _); refine wpL_storeR rowEn rfl (.tmp 2) (.tmp 20) rfl w.heap.size rfl (enCells s x) rfl (enCells s x) (HR4.out.below HB6.out) rfl rfl (en_one _ _) ?_; intro w8 hr8 hc8; have he8 := hc8.heap (below_heap HE4.out HB6.out) (by omega); have ye8 : w8.cell? ⟨w.heap.size + 1, 0, none⟩ = some (.int .i64 0) := (cell_of_row _ _ _ _ _ _ he8).trans rfl; have ke8 : ∀ k, w8.frozen? ⟨w.heap.size + 1, k, none⟩ = false := fun k => frozen_of_row _ _ _ _ _ he8)
    | fail)
  obtain ⟨w9, hw9⟩ : ∃ u, u = w8.setCell ⟨w.heap.size + 1, 0, none⟩ (.int .i64 0) := ⟨_, rfl⟩
  have hc9 : Chg (fun k => k = w.heap.size + 1) w8 w9 := by rw [hw9]; exact chg_g1 _ _ _ _
  have hr9 : EnRow w9 w.heap.size s x := hc9.heap hr8 (by omega)
  have he9' : w9.heap[w.heap.size + 1]? = some (.cells #[.int .i64 0] 34 (0, 0)) := by rw [hw9]; exact (heap_setCell_same _ _ _ _ _ _ he8).trans rfl
  rw [← hw9]
  clear hw9 ye8 ke8
  have he9 : w9.cell? ⟨w.heap.size + 1, 0, none⟩ = some (.int .i64 0) := (cell_of_row _ _ _ _ _ _ he9').trans rfl
  obtain ⟨x0, x1, x2, x3, x4, x5, x6, x7, x8, x9, x10, x11, x12, x13, x14, x15⟩ := hr9.cells
  have hc89 : Chg (fun k => k = w.heap.size ∨ k = w.heap.size + 1) w6 w9 := (hc8.mono (G := fun k => k = w.heap.size ∨ k = w.heap.size + 1) (fun _ h => .inl (.inl h))).trans hc9 (fun _ h => .inl (.inr h))
  have hbA : Below w.heap.size w w9 := (nx HB4.out HB6.out).trans (hc89.below (fun x hx => by omega) (nx HB4.out HB6.out).size)
  have hi9 : EnIn (geS w.heap.size w9) w9 s x := by
    have h6 := HI4.out.below HB6.out (fun b hb => hb.2)
    refine (h6.keep (fun b hb => hc89.block b (Nat.lt_of_lt_of_le hb.2 HB6.out.size) (by have := hb.1; omega))).mono (fun b hb => ⟨by have := hb.1; omega, ?_⟩)
    exact Nat.lt_of_lt_of_le hb.2 (Nat.le_trans HB6.out.size hc89.size)
  refine leaves_cons (f := 67) (args := #[.pointer (some ⟨w.heap.size, 0, none⟩), .pointer (some ⟨w.heap.size + 1, 0, none⟩)]) (by simp) (by simp [go_sem]) ?_
  refine (cdCatch_idle _ _ _).mono ?_
  rintro e u' w'' ⟨rfl, rfl, rfl⟩
  simp [Leaves, settle, results, Try.results29, go_sem, x0, x1, x2, x3, x4, x5, x6, x7, x8, x9, x10, x11, x12, x13, x14, x15, he9]
  exact ⟨_, rfl, goodE_some HE.out hi9, hbA⟩

theorem cdecode_any (w : World) (A : Option Addr) (n c : Nat) (bs : List UInt8) (hr : RdB w A n bs) (hfl : FlatA w A) (hn : n ≤ c) (hc : c ≤ 9223372036854775807) (hn2 : n ≤ 100000000) :
    Calls Try.prog 29 #[.slice A n c] w (RetP (goodE bs w) w) := by
  cases hx : entryQ bs with
  | none => exact cdecode_none w A n c bs hr hfl hn hc hn2 hx
  | some r =>
    obtain ⟨x, q⟩ := r
    cases hf : fineE x with
    | false => exact cdecode_unfine w A n c bs hr hfl hn hc hn2 hx hf
    | true =>
      by_cases hne : (enW x).b = bs
      · exact cdecode_same w A n c bs hr hfl hn hc hn2 hx hf hne
      · exact cdecode_other w A n c bs hr hfl hn hc hn2 hx hf hne
end Go.Proofs.Ytimkdpkhdbiniaa
