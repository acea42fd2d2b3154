/- Parts of a proof, joined: ManyP, Law06M. -/
import Derived.Test.YtmkfjddighabcaaM17
import Derived.Test.YtmkfjddighabcaaM15
import Derived.Test.YtmkfjddighabcaaM21
import Derived.Test.YtmkfjddighabcaaM05
/- Messages of many small records, in plain Lean. No program in it. -/
namespace Go.Proofs.Ytmkfjddighabcaa
open Go.RowKit
set_option maxRecDepth 100000

def mnR (j : Nat) : RR := ⟨[], 99, 1, (j : Int), Da.zero⟩
def mnL (k : Nat) : List RR := (List.range k).map mnR
def mnM (k : Nat) (e : Bool) : Ms := ⟨0, false, 0, false, false, false, false, 0, [], [], [], mnL k, e, 0⟩
theorem mnL_len (k : Nat) : (mnL k).length = k := by unfold mnL; rw [List.length_map, List.length_range]
theorem mnL_succ (k : Nat) : mnL (k + 1) = mnL k ++ [mnR k] := by unfold mnL; rw [List.range_succ, List.map_append]; rfl
theorem mnL_at {k j : Nat} (h : j < k) : (mnL k)[j]? = some (mnR j) := by unfold mnL; rw [List.getElem?_map, List.getElem?_range h]; rfl
theorem mnR_fine {j : Nat} (h : j < 2147483648) : FineR (mnR j) := by
  refine ⟨⟨fun _ h => (List.not_mem_nil h).elim, by show sizeN [] ≤ 255; decide⟩, ⟨⟨by show (1 : Int) ≤ 99; decide, by show (99 : Int) ≤ 65535; decide⟩, ?_⟩, by show fitsB 1 2 = true; decide, by show (0 : Int) ≤ (j : Int); omega, by show (j : Int) < 2147483648; omega⟩
  show FineS shpB Da.zero
  exact ⟨fun h => absurd h (by decide), by decide, rfl, rfl, rfl, fun _ h => (List.not_mem_nil h).elim, rfl⟩
theorem mnR_fineK {j : Nat} (h : j < 2147483648) : FineK (mnR j) := ⟨by show (99 : Int) ≠ 41; decide, mnR_fine h⟩
theorem mnL_fine {k : Nat} (h : k ≤ 100000) : ∀ r ∈ mnL k, FineK r := fun r hr => by
  unfold mnL at hr
  obtain ⟨j, hj, rfl⟩ := List.mem_map.1 hr
  exact mnR_fineK (by have := List.mem_range.1 hj; omega)
theorem mnM_fine {k : Nat} {e : Bool} (h : k ≤ 512) : FineM (mnM k e) :=
  ⟨by show 0 + 0 + 0 + (mnL k).length ≤ 512; rw [mnL_len]; omega, by show fitsB 0 2 = true; decide, Int.le_refl _, by show (0 : Int) < 16; decide, Int.le_refl _, by show (0 : Int) < 16; decide, by show fitsB 0 2 = true; decide, .inr rfl, fun _ h => (List.not_mem_nil h).elim, fun _ h => (List.not_mem_nil h).elim, fun _ h => (List.not_mem_nil h).elim, mnL_fine (by omega)⟩
theorem mnM_bad {k : Nat} {e : Bool} (h : 512 < k) : fineM (mnM k e) = false := fineM_no fun hf => by
  have h1 : 0 + 0 + 0 + (mnL k).length ≤ 512 := hf.tot
  rw [mnL_len] at h1
  omega
theorem mnR_len (x : Wr) {j : Nat} (h : j < 2147483648) : (x.rr (mnR j)).b.length = x.b.length + 11 := by
  have h1 := (x.rr_len (mnR_fine h)).1
  have h2 : x.rrLen (mnR j) = 0 := by
    unfold Wr.rrLen
    obtain ⟨bs, hb, e⟩ := data_B (x := (x.rrHead (mnR j)).raw (putB [] 0 2)) (d := Da.zero) (mnR_fine h).2.1.2
    have hb0 : bs = [] := by injection hb with hb; exact hb.symm
    show (((x.rrHead (mnR j)).raw (putB [] 0 2)).data shpB Da.zero).b.length - _ - 2 = 0
    rw [e, hb0, raw_len, raw_len, put02_len]
    simp
  have h3 : (x.name (mnR j).name true).b.length = x.b.length + 1 := by
    show (x.name [] true).b.length = _
    unfold Wr.name
    rw [raw_len]
    rfl
  rw [h1, h2, h3]
theorem mnL_bytes (x : Wr) (k : Nat) (h : k ≤ 100000) : (x.rrs (mnL k)).b.length = x.b.length + 11 * k := by
  induction k with
  | zero => rfl
  | succ k ih =>
    rw [mnL_succ, Wr.rrs_append]
    show (((x.rrs (mnL k)).rr (mnR k)).b.length) = _
    rw [mnR_len _ (by omega), ih (by omega)]
    omega
theorem mnM_len {k : Nat} {e : Bool} (h : k ≤ 512) : (msW (mnM k e)).b.length ≤ 6000 := by
  have h0 := (head_bnd (mnM k e) 6).1
  rw [head_all] at h0
  have h1 := mnL_bytes (Wr.nil.nums2 (headN (mnM k e))) k (by omega)
  obtain ⟨y, hy⟩ : ∃ y, y = (Wr.nil.nums2 (headN (mnM k e))).rrs (mnL k) := ⟨_, rfl⟩
  have hw : msW (mnM k e) = y.opt (mnM k e) := by
    rw [hy]
    unfold msW
    rw [show (mnM k e).qs = [] from rfl, show (mnM k e).an = [] from rfl, show (mnM k e).au = [] from rfl, show (mnM k e).ex = mnL k from rfl]
    simp only [Wr.qus, Wr.rrs, List.foldl_nil]
  rw [← hy] at h1
  rw [hw]
  cases e with
  | false => show y.b.length ≤ _; omega
  | true =>
    rw [opt_b (mnM_fine h) y rfl]
    have hf : FineR (optR (mnM k true)) := optR_fine (mnM_fine h)
    have h2 := (y.rr_len hf).1
    have h3 : (y.name (optR (mnM k true)).name true).b.length = y.b.length + 1 := by
      show (y.name [] true).b.length = _
      unfold Wr.name
      rw [raw_len]
      rfl
    have h4 := y.rrLen_lt hf
    have h5 : y.rrLen (optR (mnM k true)) = 0 := by
      unfold Wr.rrLen
      obtain ⟨bs, hb, e⟩ := data_B (x := (y.rrHead (optR (mnM k true))).raw (putB [] 0 2)) (d := Da.zero) hf.2.1.2
      have hb0 : bs = [] := by injection hb with hb; exact hb.symm
      show (((y.rrHead (optR (mnM k true))).raw (putB [] 0 2)).data shpB Da.zero).b.length - _ - 2 = 0
      rw [e, hb0, raw_len, raw_len, put02_len]
      simp
    omega
theorem mnM_bytes (k : Nat) (e : Bool) : bytesM (mnM k e) = 0 := by
  show bytesL [] + bytesL [] + bytesL (mnL k) = 0
  have h : bytesL (mnL k) = 0 := by
    induction k with
    | zero => rfl
    | succ k ih => rw [mnL_succ, bytesL_append, ih]; rfl
  rw [h]
  rfl
theorem mnM_lt {k : Nat} {e : Bool} (h : k ≤ 1000000) : LtM (mnM k e) := by
  have hx : ∀ j, ∀ r ∈ secL (mnM k e) j, r ∈ mnL k := fun j r hr => by
    match j, hr with
    | 0, hr => cases hr
    | 1, hr => cases hr
    | n + 2, hr => exact hr
  refine ⟨by show 0 ≤ _; omega, fun j => ?_, (fun x hx => (by cases hx)), fun j r hr => ?_⟩
  · match j with
    | 0 => show 0 ≤ _; omega
    | 1 => show 0 ≤ _; omega
    | n + 2 => show (mnL k).length ≤ _; rw [mnL_len]; exact h
  · have h1 := hx j r hr
    unfold mnL at h1
    obtain ⟨i, _, rfl⟩ := List.mem_map.1 h1
    exact ⟨⟨by show 0 ≤ _; omega, by show 0 ≤ _; omega, by show 0 ≤ _; omega, by show 0 ≤ _; omega, by show 0 ≤ _; omega⟩, by show 0 ≤ _; omega⟩
end Go.Proofs.Ytmkfjddighabcaa

/- MsgMany: the law's walk. -/
namespace Go.Proofs.Ytmkfjddighabcaa
open Go.RowKit
set_option maxRecDepth 100000
set_option linter.unusedVariables false

def mnM0 (e : Bool) : Ms := ⟨0, false, 0, false, false, false, false, 0, [], [], [], [], e, 0⟩
theorem ownB_blt4 {w : World} {B : Nat} {A : Option Addr} {n c : Nat} {bs : List UInt8} (h : OwnB w B (.slice A n c) bs) : ∀ b off, A = some ⟨b, off, none⟩ → b < w.heap.size := by
  intro b off e
  subst e
  have hl := World.ownsRow.lt h
  rcases h.2 with ⟨e0, _⟩ | ⟨g, cap, cur, e0, h3, _⟩
  · injection e0 with e0
    cases e0
  · injection e0 with e0
    injection e0 with e0
    injection e0 with e0
    subst e0
    exact (hl _ rfl).2
/-- The message while its records are appended. -/
structure MnSt (w wr : World) (q : Nat) (A : Option Addr) (c j : Nat) (e : Bool) : Prop where
  R : MRow wr q ⟨none, 0, none, 0, none, 0, A, c⟩ (mnM j e)
  O : NewE encRR 44 (q + 1) wr (.slice A j c) (mnL j)
  bw : Below w.heap.size w wr
  ge : w.heap.size ≤ q

theorem mnR_row (w : World) (j : Nat) (hj : j < 100000) : encRR.R noS w [.slice none 0 0, .int .i64 99, .int .i64 1, .int .i64 (j : Int), .slice none 0 0, .slice none 0 0, .slice none 0 0, .slice none 0 0, .slice none 0 0] (mnR j) := by
  have l : (0 : Nat) ≤ 0 ∧ 0 ≤ maxLen := ⟨Nat.le_refl _, Nat.zero_le _⟩
  refine ⟨RS.nil, rfl, ⟨Els.nil _ _ _ _ _, l, ⟨Els.nil _ _ _ _ _, Els.nil _ _ _ _ _, Els.nil _ _ _ _ _, Els.nil _ _ _ _ _, Els.nil _ _ _ _ _, l, l, l, l, l⟩, ?_, ?_, ?_⟩⟩
  · exact ⟨by show (-9223372036854775808 : Int) ≤ 99; omega, by show (99 : Int) ≤ 9223372036854775807; omega⟩
  · exact ⟨by show (-9223372036854775808 : Int) ≤ 1; omega, by show (1 : Int) ≤ 9223372036854775807; omega⟩
  · exact ⟨by show (-9223372036854775808 : Int) ≤ (j : Int); omega, by show (j : Int) ≤ 9223372036854775807; omega⟩
theorem MnSt.cells {w wr : World} {q : Nat} {A : Option Addr} {c j : Nat} {e : Bool} (h : MnSt w wr q A c j e) : wr.cell? ⟨q, 11, none⟩ = some (.slice A j c) ∧ wr.frozen? ⟨q, 11, none⟩ = false := by
  have h1 := h.R.cell 11
  have h2 : (mCells ⟨none, 0, none, 0, none, 0, A, c⟩ (mnM j e))[11]? = some (.slice A (mnL j).length c) := rfl
  rw [h2, mnL_len] at h1
  exact ⟨h1, h.R.free 11⟩
theorem MnSt.push {w wr w5 : World} {q : Nat} {A A5 : Option Addr} {c c5 j : Nat} {e : Bool} {S : Nat → Prop} (h : MnSt w wr q A c j e) (ho : OwnE encRR 44 S wr (q + 1) (.slice A j c) (mnL j)) (hS : ∀ b, S b → q + 1 ≤ b) (hown5 : OwnE encRR 44 (orS S noS) w5 (q + 1) (.slice A5 (j + 1) c5) (mnL j ++ [mnR j])) (hg5 : wr.grownBy w5 (Value.slice A j c).ownBlock) :
    MnSt w (w5.setCell ⟨q, 11, none⟩ (.slice A5 (j + 1) c5)) q A5 c5 (j + 1) e := by
  have hch : Chg (fun z => (Value.slice A j c).ownBlock = some z) wr w5 := (Chg.refl _ _).grown hg5 (fun k hk => .inl hk)
  have hlt := ho.lt
  have hR5 : MRow w5 q ⟨none, 0, none, 0, none, 0, A, c⟩ (mnM j e) := hch.heap h.R (fun e1 => by have := (hlt q e1).1; omega)
  have hcu : Chg (fun z => z = q) w5 (w5.setCell ⟨q, 11, none⟩ (.slice A5 (j + 1) c5)) := chg_g1 _ _ _ _
  have hS5 : ∀ b, orS S noS b → q + 1 ≤ b := fun b hb => hb.elim (hS b) (fun h => h.elim)
  refine ⟨hR5.put 11 _ _ _ ?_, ⟨orS S noS, ?_, hS5⟩, ?_, h.ge⟩
  · show (mCells _ (mnM j e)).setIfInBounds 11 _ = mCells _ (mnM (j + 1) e)
    unfold mCells mnM
    simp only [mnL_len]
    rfl
  · rw [mnL_succ]
    exact hown5.chg hcu (fun z hz e1 => by have := (hown5.lt z hz).1; omega) (fun z hz e1 => by have := hS5 z hz; omega)
  · have h1 := h.ge
    exact (h.bw.trans (hch.below (fun z hz => by have := (hlt z hz).1; omega) h.bw.size)).trans (hcu.below (fun z hz => by omega) (Nat.le_trans h.bw.size hch.size))
theorem mnM_in {w wr : World} {q : Nat} {A : Option Addr} {c k : Nat} {e : Bool} (h : MnSt w wr q A c k e) : MIn (geS (q + 1) wr) wr ⟨none, 0, none, 0, none, 0, A, c⟩ (mnM k e) := by
  obtain ⟨A', c', hv, hel, h1, h2⟩ := h.O.rd
  rw [mnL_len] at hv hel h1
  injection hv with e1 e2 e3
  subst e1 e3
  have l : (0 : Nat) ≤ 0 ∧ 0 ≤ maxLen := ⟨Nat.le_refl _, Nat.zero_le _⟩
  have z : i64S 0 := ⟨by omega, by omega⟩
  exact ⟨Els.nil _ _ _ _ _, Els.nil _ _ _ _ _, Els.nil _ _ _ _ _, by show Els encRR _ _ wr A (mnL k).length (mnL k); rw [mnL_len]; exact hel, l, l, l, by show (mnL k).length ≤ c ∧ c ≤ maxLen; rw [mnL_len]; exact ⟨h1, h2⟩, z, z, z, z⟩

theorem MnSt.all {w wr : World} {q : Nat} {A : Option Addr} {c k : Nat} {e : Bool} (h : MnSt w wr q A c k e) : wr.cell? ⟨q, 0, none⟩ = some (.int .i64 0) ∧ wr.cell? ⟨q, 1, none⟩ = some (.bool false) ∧ wr.cell? ⟨q, 2, none⟩ = some (.int .i64 0) ∧ wr.cell? ⟨q, 3, none⟩ = some (.bool false) ∧ wr.cell? ⟨q, 4, none⟩ = some (.bool false) ∧ wr.cell? ⟨q, 5, none⟩ = some (.bool false) ∧ wr.cell? ⟨q, 6, none⟩ = some (.bool false) ∧ wr.cell? ⟨q, 7, none⟩ = some (.int .i64 0) ∧ wr.cell? ⟨q, 8, none⟩ = some (.slice none 0 0) ∧ wr.cell? ⟨q, 9, none⟩ = some (.slice none 0 0) ∧ wr.cell? ⟨q, 10, none⟩ = some (.slice none 0 0) ∧ wr.cell? ⟨q, 11, none⟩ = some (.slice A k c) ∧ wr.cell? ⟨q, 12, none⟩ = some (.bool e) ∧ wr.cell? ⟨q, 13, none⟩ = some (.int .i64 0) := ⟨(h.R.cell 0).trans rfl, (h.R.cell 1).trans rfl, (h.R.cell 2).trans rfl, (h.R.cell 3).trans rfl, (h.R.cell 4).trans rfl, (h.R.cell 5).trans rfl, (h.R.cell 6).trans rfl, (h.R.cell 7).trans rfl, (h.R.cell 8).trans rfl, (h.R.cell 9).trans rfl, (h.R.cell 10).trans rfl, h.cells.1, (h.R.cell 12).trans rfl, (h.R.cell 13).trans rfl⟩
theorem mnEnc {w wr : World} {q : Nat} {A : Option Addr} {c k : Nat} {e : Bool} (h : MnSt w wr q A c k e) (hk : k ≤ 1000000) : Calls Try.prog 17 #[.agg #[.int .i64 0, .bool false, .int .i64 0, .bool false, .bool false, .bool false, .bool false, .int .i64 0, .slice none 0 0, .slice none 0 0, .slice none 0 0, .slice A (k) c, .bool e, .int .i64 0]] wr (RetP (fun v w' => ∃ bv, v = .tuple #[bv, .int .i64 (encP (mnM k e)).2] ∧ OwnB w' wr.heap.size bv (encP (mnM k e)).1) wr) := by
  have h1 := mEncode_any ⟨none, 0, none, 0, none, 0, A, c⟩ (mnM k e) wr (mnM_in h) (fun b hb => hb.2) (mnM_lt hk) (by rw [mnM_bytes]; omega)
  unfold msV mCells at h1
  have el : (mnM k e).ex.length = k := mnL_len k
  rw [el] at h1
  exact h1

set_option maxHeartbeats 16000000 in
theorem msgMany_walk (n : Nat) (e : Bool) (w : World) (hn : n < 256) :
    Calls Try.prog 5 #[.int .u8 (n : Int), .bool e] w (LawT w) := by
  obtain ⟨k1, hk⟩ : ∃ k1, k1 + 1 = 506 + n % 10 := ⟨505 + n % 10, by omega⟩
  have hkl : k1 ≤ 514 ∧ 505 ≤ k1 := by omega
  have hkv : (506 : Int) + ((n : Int) % 10) = (k1 : Int) + 1 := by omega
  obtain ⟨w1, hw1⟩ : ∃ w1, w1 = w.alloc (.cells (mCells MS.nil (mnM0 e)) 25) := ⟨_, rfl⟩
  have HST1 : Hid (MnSt w w1 w.heap.size none 0 0 e) := by
    show MnSt _ _ _ _ _ _ _
    refine ⟨by rw [hw1]; exact MRow.made w _ _, NewE.nil _ _ _ _, by rw [hw1]; exact bl.alloc (Nat.le_refl _) _, Nat.le_refl _⟩
  unfold mCells at hw1
  simp only [MS.nil, mnM0, List.length_nil] at hw1
  clear hk
  go_enter Try.func5, Try.ntmps5
  go_upto_region 3 with (fail)
  rw [← hw1]
  clear hw1 hkv hn
  have HWS : Hid (∃ q, q = w.heap.size) := ⟨_, rfl⟩
  generalize hq : w.heap.size = q at HST1 ⊢
  have HQ := Lib.hid hq
  clear hq
  go_wp2
  go_loopw [7] (fun i wr => ∃ (j : Nat) (A : Option Addr) (c : Nat), i = .int .i64 (j : Int) ∧ j ≤ k1 + 1 ∧ Hid (MnSt w wr q A c j e)) (fun i _ => k1 + 1 - (intOf i).toNat)
  case atStart => exact ⟨0, none, 0, rfl, Nat.zero_le _, HST1⟩
  case round =>
    clear HST1
    obtain ⟨j, A, c, rfl, hj, HST⟩ := hrel
    by_cases hlt : j < k1 + 1
    · obtain ⟨e11, f11⟩ := HST.out.cells
      obtain ⟨S, hown, hS⟩ := HST.out.O
      have HOW := Lib.hid hown
      have HS : Hid (∀ b, S b → q + 1 ≤ b) := hS
      have HLT := Lib.hid hown.lt
      have hrow := mnR_row wr j (by omega)
      have hqs : q + 1 ≤ wr.heap.size := HST.out.R.lt
      clear hS
      go_wp2_with (first
        | ((with_reducible show wpList _ _ _ (⟨some 28, _, _, _, _, _⟩ :: _) _ _); refine wpL_pushE elRR rfl (.tmp 24) (.tmp 27) rfl (q + 1) _ (mnL j) rfl hown _ (mnR j) hrow ?hS rfl ?hb ?hl ?hbase ?_; rotate_right; intro v5 w5 hown5 hg5 hat5; have hch5 : Chg (fun z => (Value.slice A j c).ownBlock = some z) wr w5 := (Chg.refl _ _).grown hg5 (fun k hk => .inl hk); have y11 := hch5.cell e11 (fun e1 => by have h1 : q + 1 ≤ q := (HLT.out _ e1).1; omega); have g11 : w5.frozen? ⟨q, 11, none⟩ = false := frozen_of_row _ _ _ _ _ (hch5.heap HST.out.R (fun e1 => by have h1 : q + 1 ≤ q := (HLT.out _ e1).1; omega)); obtain ⟨A5, c5, hv5, _⟩ := hown5.form; rw [List.length_append, mnL_len, List.length_singleton] at hv5; subst hv5)
        | fail)
      · have HN := Lib.hid (HST.out.push HOW.out HS.out hown5 hg5)
        clear hown5 hg5 hat5 y11 g11 hch5 e11 f11 hown hrow
        go_roundw
        case rel => exact ⟨j + 1, A5, c5, by go_num, by omega, HN.out⟩
        case measure => simp [intOf]; omega
      case hS => exact fun b hb => hb.elim
      case hb => rw [mnL_len]; omega
      case hl => rw [mnL_len]; unfold maxLen; omega
      case hbase => exact hqs
    · obtain rfl : j = k1 + 1 := by omega
      obtain ⟨z0, z1, z2, z3, z4, z5, z6, z7, z8, z9, z10, z11, z12, z13⟩ := HST.out.all
      have HEN := Lib.hid (mnEnc HST.out (by omega))
      by_cases hb : k1 + 1 ≤ 512
      rotate_left
      · have hE := encP_bad (mnM_bad (e := e) (show 512 < k1 + 1 by omega))
        rw [hE] at HEN
        have hb2 : (512 : Int) < (k1 : Int) + 1 := by omega
        clear hE hb hlt hj hkl
        go_upto_region 8 with (first
          | (go_at_call 17; refine HEN.out.mono ?_; rintro e1 w7 ⟨v7, rfl, ⟨bv7, rfl, ho7⟩, hb7⟩; obtain ⟨A7, c7, hv7, _, _, _⟩ := OwnB.form ho7; rw [show (([] : List UInt8), (2 : Int)).1.length = 0 from rfl] at hv7; subst hv7; have HB7 := Lib.hid (nx HST.out.bw hb7); clear ho7)
          | fail)
        clear z0 z1 z2 z3 z4 z5 z6 z7 z8 z9 z10 z11 z12 z13
        go_wp2_with (first
          | (go_at_call 15; refine (answers06_any w7).mono ?_; rintro e1 w8 ⟨rfl, hb8⟩)
          | fail)
        go_ret
        exact ⟨rfl, nx HB7.out hb8⟩
      · have hlen := mnM_len (e := e) hb
        have hE := encP_ok (fineM_yes (mnM_fine (e := e) hb)) (by omega)
        have hdec := decode_back (mnM_fine (e := e) hb) (by omega)
        rw [hE] at HEN
        obtain ⟨B, hB⟩ : ∃ B, B = (msW (mnM (k1 + 1) e)).b := ⟨_, rfl⟩
        rw [← hB] at HEN hdec hlen
        have HX := Lib.hid (decV_ok hdec)
        obtain ⟨n7, hn7⟩ : ∃ n7, n7 = B.length := ⟨_, rfl⟩
        have HN7 := Lib.hid hn7
        have hn7l : n7 ≤ 6000 := by omega
        have hb2 : ¬ (512 : Int) < (k1 : Int) + 1 := by omega
        clear hE hdec hB hlen hn7 hlt hj
        go_upto_region 8 with (first
          | (go_at_call 17; refine HEN.out.mono ?_; rintro e1 w7 ⟨v7, rfl, ⟨bv7, rfl, ho7⟩, hb7⟩; obtain ⟨A7, c7, hv7, hr7, hl7, hm7⟩ := OwnB.form ho7; dsimp only at hv7 hr7 hl7; rw [← HN7.out] at hv7 hr7 hl7; subst hv7; have HR7 := Lib.hid hr7; have HLT7 := Lib.hid (ownB_blt4 ho7); have HC7 := Lib.hid (And.intro hl7 hm7); have HB7 := Lib.hid (nx HST.out.bw hb7); clear ho7 hr7 hb7 hl7 hm7)
          | fail)
        clear z0 z1 z2 z3 z4 z5 z6 z7 z8 z9 z10 z11 z12 z13
        go_upto_region 11 with (first
          | (go_at_call 19; refine (decode_any w7 A7 n7 c7 B HR7.out HLT7.out HC7.out.1 HC7.out.2 (by omega)).mono ?_; unfold goodV; rw [HX.out]; rintro e1 w8 ⟨v8, rfl, ⟨s8, rfl, hm8⟩, hb8⟩; unfold msV mCells; have HM8 := Lib.hid hm8; have HB8 := Lib.hid (nx HB7.out hb8); clear hm8 hb8)
          | fail)
        obtain ⟨w9, hw9⟩ : ∃ u, u = w8.alloc (.cells (mCells s8 (mnM (k1 + 1) e)) 25) := ⟨_, rfl⟩
        have hb9 : Below w8.heap.size w8 w9 := by rw [hw9]; exact bl.alloc (Nat.le_refl _) _
        have HR9 : Hid (MRow w9 w8.heap.size s8 (mnM (k1 + 1) e)) := by show MRow _ _ _ _; rw [hw9]; exact MRow.made w8 _ _
        have HM9 : Hid (MIn (geS w7.heap.size w8) w9 s8 (mnM (k1 + 1) e)) := HM8.out.below hb9 (fun b hb => hb.2)
        have HS9 : Hid (∀ b, geS w7.heap.size w8 b → b < w9.heap.size) := fun b hb => Nat.lt_of_lt_of_le hb.2 hb9.size
        have HB9 := Lib.hid (nx HB8.out hb9)
        unfold mCells at hw9
        rw [← hw9]
        clear hw9 hb9 HM8 HEN HST
        generalize w8.heap.size = q8 at HR9 ⊢
        obtain ⟨b3, o3, t3, hA3, _, _, hc3⟩ := rr_at (HM9.out.below (bl : Below w9.heap.size w9 w9) HS9.out).x (mnL_at (show k1 < k1 + 1 by omega))
        have HCR : Hid (∀ u, Below w9.heap.size w9 u → u.cell? ⟨b3, o3 + k1 * 9 + 3, none⟩ = some (.int .i64 (k1 : Int))) := fun u hu => (hc3.below hu).2.2.2.1
        have HCM : Hid (∀ u, Below w9.heap.size w9 u → u.cell? ⟨q8, 11, none⟩ = some (.slice (some ⟨b3, o3, none⟩) (k1 + 1) s8.xc) ∧ u.cell? ⟨q8, 12, none⟩ = some (.bool e)) := fun u hu => by
          have h1 := (HR9.out.below hu).cell 11
          have h2 := (HR9.out.below hu).cell 12
          have h3 : (mCells s8 (mnM (k1 + 1) e))[11]? = some (.slice s8.X (mnL (k1 + 1)).length s8.xc) := rfl
          rw [h3, mnL_len, hA3] at h1
          exact ⟨h1, h2⟩
        clear hc3 hA3
        go_wp2_with (first
          | (go_at_call 15; refine (answers06_any w9).mono ?_; rintro e1 w10 ⟨rfl, hb10⟩; have HB10 := Lib.hid (nx HB9.out hb10); obtain ⟨y11, y12⟩ := HCM.out w10 hb10; have y3 := HCR.out w10 hb10)
          | fail)
        go_ret
        exact ⟨rfl, HB10.out⟩
end Go.Proofs.Ytmkfjddighabcaa
