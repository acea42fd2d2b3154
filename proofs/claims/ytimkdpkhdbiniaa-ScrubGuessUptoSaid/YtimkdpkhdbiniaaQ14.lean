/- Parts of a proof, joined: MRd4. -/
import Derived.Deep.RegionLaw
import Derived.Deep.RegionWith
import Derived.Test.YtimkdpkhdbiniaaQ12
import Derived.Test.YtimkdpkhdbiniaaQ13
import Derived.Test.YtimkdpkhdbiniaaQ07
/- msg's reader, whatever the bytes: a message. -/
namespace Go.Proofs.Ytimkdpkhdbiniaa
open Go.RowKit
set_option maxRecDepth 100000
set_option linter.unusedVariables false

/-- Where the reader of a message stands. -/
structure MmS (w wr : World) (p : Nat) (bv : Value) (s : MS) (m : Ms) (pk : Nat) : Prop where
  R : MRow wr w.heap.size s m
  P : MRd wr p bv (pk : Int)
  C : Chg (fun z => z = p) w wr
section
variable {w wr w' : World} {p : Nat} {bv : Value} {s : MS} {m : Ms} {pk : Nat}
theorem MmS.below (h : MmS w wr p bv s m pk) (hb : Below wr.heap.size wr w') : MmS w w' p bv s m pk := ⟨h.R.below hb, h.P.below hb, h.C.nx hb⟩
theorem MmS.num (h : MmS w wr p bv s m pk) {pk' : Nat} (hc : Chg (fun z => z = p) wr w') (hp : MRd w' p bv (pk' : Int)) (hpl : p < w.heap.size) : MmS w w' p bv s m pk' :=
  ⟨hc.heap h.R (by omega), hp, h.C.trans hc (fun _ h => .inl h)⟩
theorem MmS.put (h : MmS w wr p bv s m pk) (hpl : p < w.heap.size) (j : Nat) (v : Value) (s' : MS) (m' : Ms) (e : (mCells s m).setIfInBounds j v = mCells s' m') : MmS w (wr.setCell ⟨w.heap.size, j, none⟩ v) p bv s' m' pk := by
  have hc : Chg (fun z => z = w.heap.size) wr (wr.setCell ⟨w.heap.size, j, none⟩ v) := chg_g1 _ _ _ _
  exact ⟨h.R.put j v s' m' e, hc.heap h.P (by omega), h.C.trans hc (fun z h => .inr (by omega))⟩
theorem MmS.rd (h : MmS w wr p bv s m pk) {A : Option Addr} {n : Nat} {bs : List UInt8} (hr : RdB w A n bs) (ho : offA A p) : RdB wr A n bs := RdB.chgP hr h.C ho
end
theorem and_15 {n : Nat} (h : n < 65536) : bits BinOp.and IntKind.i64 (n : Int) 15 = ((n % 16 : Nat) : Int) := by
  have h1 := i64_and_nat n 15 (by omega) (by omega)
  rw [show (15 : Nat) = 2 ^ 4 - 1 from rfl, Nat.and_two_pow_sub_one_eq_mod] at h1
  exact h1
theorem and_1 {n : Nat} (h : n < 65536) : (bits BinOp.and IntKind.i64 (n : Int) 1 == 1) = decide (n % 2 = 1) := by
  have h1 := i64_and_nat n 1 (by omega) (by omega)
  rw [show (1 : Nat) = 2 ^ 1 - 1 from rfl, Nat.and_two_pow_sub_one_eq_mod] at h1
  have h2 : bits BinOp.and IntKind.i64 (n : Int) 1 = ((n % 2 : Nat) : Int) := h1
  rw [h2]
  by_cases h3 : n % 2 = 1
  · rw [h3]; rfl
  · have h4 : n % 2 = 0 := by omega
    rw [h4]; rfl
theorem shr_15 {n : Nat} (h : n < 65536) : (((n : Int) / 32768) == 1) = decide (n / 32768 % 2 = 1) := by
  have h1 : ((n : Int) / 32768) = ((n / 32768 : Nat) : Int) := by omega
  have h2 : n / 32768 % 2 = n / 32768 := by omega
  rw [h1, h2]
  by_cases h3 : n / 32768 = 1
  · rw [h3]; rfl
  · have h4 : n / 32768 = 0 := by omega
    rw [h4]; rfl
theorem divN (n k : Nat) : ((n : Int) / (k : Int)) = ((n / k : Nat) : Int) := (Int.natCast_ediv n k).symm
/-- What is read behind the questions, and behind each section. -/
def rest3 (b : List UInt8) (qs : List Qu) (an au ex : List RR) (p : Nat) (o : Opt) : Except Int Ms := if p < b.length then .error 7 else .ok (msF b qs an au ex o)
def rest2 (b : List UInt8) (qs : List Qu) (an au : List RR) (p : Nat) (o : Opt) : Except Int Ms := match dRRs b true (numA b 10 2) p o [] with
  | .error e => .error e
  | .ok (ex, p', o') => rest3 b qs an au ex p' o'
def rest1 (b : List UInt8) (qs : List Qu) (an : List RR) (p : Nat) (o : Opt) : Except Int Ms := match dRRs b false (numA b 8 2) p o [] with
  | .error e => .error e
  | .ok (au, p', o') => rest2 b qs an au p' o'
def rest0 (b : List UInt8) (qs : List Qu) (p : Nat) (o : Opt) : Except Int Ms := match dRRs b false (numA b 6 2) p o [] with
  | .error e => .error e
  | .ok (an, p', o') => rest1 b qs an p' o'
def restQ (b : List UInt8) (k p : Nat) (acc : List Qu) : Except Int Ms := match dQus b k p acc with
  | .error e => .error e
  | .ok (qs, p1) => rest0 b qs p1 ⟨false, 0⟩
theorem decP_many {b : List UInt8} (h1 : b.length ≤ 65535) (h2 : 12 ≤ b.length) (h : 513 < numA b 4 2 + numA b 6 2 + numA b 8 2 + numA b 10 2) : decP b = .error 4 := by
  unfold decP
  rw [if_neg (by omega), if_neg (by omega), if_pos h]
theorem decP_go {b : List UInt8} (h1 : b.length ≤ 65535) (h2 : 12 ≤ b.length) (h : ¬ 513 < numA b 4 2 + numA b 6 2 + numA b 8 2 + numA b 10 2) : decP b = restQ b (numA b 4 2) 12 [] := by
  unfold decP
  rw [if_neg (by omega), if_neg (by omega), if_neg h]
  rfl
theorem restQ_ok {b : List UInt8} {k p p' : Nat} {acc : List Qu} {q : Qu} (h : dQu b p = .ok (q, p')) : restQ b (k + 1) p acc = restQ b k p' (acc ++ [q]) := by
  unfold restQ
  rw [dQus, h]
theorem restQ_err {b : List UInt8} {k p : Nat} {acc : List Qu} {e : Int} (h : dQu b p = .error e) : restQ b (k + 1) p acc = .error e := by
  unfold restQ
  rw [dQus, h]
theorem quGot_R {w : World} {B : Nat} {t : QS} {x : Qu} (h : QGot w B t x) (hf : FineQ x) : encQu.R (geS B w) w [.slice t.A x.name.length t.c, .int .i64 x.type, .int .i64 x.cls] x := by
  obtain ⟨h1, h2⟩ := ownE_els h rfl
  have h3 := hf.2.1
  have h4 := fitsB_true hf.2.2.1
  have h5 : x.type < 65536 := h4.2.2.2
  have h6 := fitsB_true hf.2.2.2
  have h7 : x.cls < 65536 := h6.2.2.2
  exact quRow_R h1 h2 ⟨by omega, by omega⟩ ⟨by omega, by omega⟩
/-- A call of the reader's message. -/
def MmX (r : Except Int Ms) (w : World) (p : Nat) (e : Ending) (w' : World) : Prop :=
  match r with
  | .ok m => ∃ s, e = .returned (msV s m) ∧ MIn (geS w.heap.size w') w' s m ∧ Chg (fun z => z = p) w w'
  | .error x => e = .panicked (pnc x) ∧ Chg (fun z => z = p) w w'

set_option maxHeartbeats 8000000 in
theorem mmessage_any (w : World) (p : Nat) (A : Option Addr) (n c : Nat) (bs : List UInt8) (h : MRd w p (.slice A n c) 0) (hr : RdB w A n bs) (ho : offA A p) (hbl : ∀ b off, A = some ⟨b, off, none⟩ → b < w.heap.size) (hn : n ≤ c) (hc : c ≤ 9223372036854775807) (hn2 : n ≤ 65535) (h12 : 12 ≤ n) :
    Calls Try.prog 96 #[.pointer (some ⟨p, 0, none⟩)] w (MmX (decP bs) w p) := by
  have hpl := h.lt
  have HPL := Lib.hid hpl
  have hl := hr.len
  have HR := Lib.hid hr
  obtain ⟨w1, hw1⟩ : ∃ w1, w1 = w.alloc (.cells (mCells MS.nil Ms.zero) 31) := ⟨_, rfl⟩
  have hb1 : Below w.heap.size w w1 := by rw [hw1]; exact bl.alloc (Nat.le_refl _) _
  have H1 : Hid (MmS w w1 p (.slice A n c) MS.nil Ms.zero 0) := by
    show MmS _ _ _ _ _ _ _
    exact ⟨by rw [hw1]; exact MRow.made w _ _, h.below hb1, Chg.of_below hb1⟩
  have HN0 : Hid (num2P bs 0 = .ok (numA bs 0 2, 2)) := num2P_ok (by omega)
  have HN2 : Hid (num2P bs 2 = .ok (numA bs 2 2, 4)) := num2P_ok (by omega)
  have HN4 : Hid (num2P bs 4 = .ok (numA bs 4 2, 6)) := num2P_ok (by omega)
  have HN6 : Hid (num2P bs 6 = .ok (numA bs 6 2, 8)) := num2P_ok (by omega)
  have HN8 : Hid (num2P bs 8 = .ok (numA bs 8 2, 10)) := num2P_ok (by omega)
  have HN10 : Hid (num2P bs 10 = .ok (numA bs 10 2, 12)) := num2P_ok (by omega)
  have HL2 : Hid (∀ k, numA bs k 2 < 65536) := fun k => numA_2
  unfold mCells at hw1
  simp only [MS.nil, Ms.zero, List.length_nil] at hw1
  clear h hr hb1
  go_enter Try.func96, Try.ntmps96
  go_upto_region 1 with (fail)
  rw [← hw1]
  clear hw1
  go_upto_region 2 with (first
    | (go_at_call 144; refine (mnum_any w1 p A n c 0 bs H1.out.P (H1.out.rd HR.out ho) hn (by omega)).mono ?_; rw [HN0.out]; rintro e w2 ⟨v2, rfl, rfl, h2, hc2⟩; have H2 := Lib.hid (H1.out.num hc2 h2 HPL.out); have e0 := H2.out.R.cell 0; have f0 := H2.out.R.free 0; clear hc2 h2)
    | fail)
  obtain ⟨w3, hw3⟩ : ∃ u, u = w2.setCell ⟨w.heap.size, 0, none⟩ (.int .i64 (numA bs 0 2 : Int)) := ⟨_, rfl⟩
  have H3 : Hid (MmS w w3 p (.slice A n c) MS.nil { Ms.zero with id := (numA bs 0 2 : Int) } 2) := by
    show MmS _ _ _ _ _ _ _
    rw [hw3]
    exact H2.out.put HPL.out 0 _ _ _ rfl
  rw [← hw3]
  clear hw3 H1 H2 e0 f0
  go_upto_region 3 with (first
    | (go_at_call 144; refine (mnum_any w3 p A n c 2 bs H3.out.P (H3.out.rd HR.out ho) hn (by omega)).mono ?_; rw [HN2.out]; rintro e w4 ⟨v4, rfl, rfl, h4, hc4⟩; have H4 := Lib.hid (H3.out.num hc4 h4 HPL.out); clear hc4 h4)
    | fail)
  have hF := HL2.out 2
  obtain ⟨F, hFe⟩ : ∃ F, F = numA bs 2 2 := ⟨_, rfl⟩
  rw [← hFe] at hF ⊢
  have HFE := Lib.hid hFe
  clear hFe H3
  have e1 := H4.out.R.cell 1
  have e2 := H4.out.R.cell 2
  have e3 := H4.out.R.cell 3
  have e4 := H4.out.R.cell 4
  have e5 := H4.out.R.cell 5
  have e6 := H4.out.R.cell 6
  have e7 := H4.out.R.cell 7
  have f0 := H4.out.R.free
  simp only [mCells, List.getElem?_toArray, List.getElem?_cons_zero, List.getElem?_cons_succ] at e1 e2 e3 e4 e5 e6 e7
  go_upto_region 4 with (fail)
  rw [shr_15 hF, show ((F : Int) / 2048) = ((F / 2048 : Nat) : Int) from divN F 2048, show ((F : Int) / 1024) = ((F / 1024 : Nat) : Int) from divN F 1024, show ((F : Int) / 512) = ((F / 512 : Nat) : Int) from divN F 512, show ((F : Int) / 256) = ((F / 256 : Nat) : Int) from divN F 256, show ((F : Int) / 128) = ((F / 128 : Nat) : Int) from divN F 128, and_15 (n := F / 2048) (by omega), and_1 (n := F / 1024) (by omega), and_1 (n := F / 512) (by omega), and_1 (n := F / 256) (by omega), and_1 (n := F / 128) (by omega), and_15 (n := F) hF]
  obtain ⟨w5, hw5⟩ : ∃ u, u = ((((((w4.setCell ⟨w.heap.size, 1, none⟩ (.bool (decide (F / 32768 % 2 = 1)))).setCell ⟨w.heap.size, 2, none⟩ (.int .i64 ((F / 2048 % 16 : Nat) : Int))).setCell ⟨w.heap.size, 3, none⟩ (.bool (decide (F / 1024 % 2 = 1)))).setCell ⟨w.heap.size, 4, none⟩ (.bool (decide (F / 512 % 2 = 1)))).setCell ⟨w.heap.size, 5, none⟩ (.bool (decide (F / 256 % 2 = 1)))).setCell ⟨w.heap.size, 6, none⟩ (.bool (decide (F / 128 % 2 = 1)))).setCell ⟨w.heap.size, 7, none⟩ (.int .i64 ((F % 16 : Nat) : Int)) := ⟨_, rfl⟩
  have H5 : Hid (MmS w w5 p (.slice A n c) MS.nil (msF bs [] [] [] [] ⟨false, 0⟩) 4) := by
    show MmS _ _ _ _ _ _ _
    have hz : msF bs [] [] [] [] ⟨false, 0⟩ = { Ms.zero with id := (numA bs 0 2 : Int), resp := decide (F / 32768 % 2 = 1), op := ((F / 2048 % 16 : Nat) : Int), aa := decide (F / 1024 % 2 = 1), tc := decide (F / 512 % 2 = 1), rd := decide (F / 256 % 2 = 1), ra := decide (F / 128 % 2 = 1), rcode := ((F % 16 : Nat) : Int) } := by rw [HFE.out]; rfl
    rw [hw5, hz]
    exact ((((((H4.out.put HPL.out 1 _ MS.nil { Ms.zero with id := (numA bs 0 2 : Int), resp := decide (F / 32768 % 2 = 1) } rfl).put HPL.out 2 _ MS.nil { Ms.zero with id := (numA bs 0 2 : Int), resp := decide (F / 32768 % 2 = 1), op := ((F / 2048 % 16 : Nat) : Int) } rfl).put HPL.out 3 _ MS.nil { Ms.zero with id := (numA bs 0 2 : Int), resp := decide (F / 32768 % 2 = 1), op := ((F / 2048 % 16 : Nat) : Int), aa := decide (F / 1024 % 2 = 1) } rfl).put HPL.out 4 _ MS.nil { Ms.zero with id := (numA bs 0 2 : Int), resp := decide (F / 32768 % 2 = 1), op := ((F / 2048 % 16 : Nat) : Int), aa := decide (F / 1024 % 2 = 1), tc := decide (F / 512 % 2 = 1) } rfl).put HPL.out 5 _ MS.nil { Ms.zero with id := (numA bs 0 2 : Int), resp := decide (F / 32768 % 2 = 1), op := ((F / 2048 % 16 : Nat) : Int), aa := decide (F / 1024 % 2 = 1), tc := decide (F / 512 % 2 = 1), rd := decide (F / 256 % 2 = 1) } rfl).put HPL.out 6 _ MS.nil { Ms.zero with id := (numA bs 0 2 : Int), resp := decide (F / 32768 % 2 = 1), op := ((F / 2048 % 16 : Nat) : Int), aa := decide (F / 1024 % 2 = 1), tc := decide (F / 512 % 2 = 1), rd := decide (F / 256 % 2 = 1), ra := decide (F / 128 % 2 = 1) } rfl).put HPL.out 7 _ MS.nil _ rfl
  rw [← hw5]
  clear hw5 H4 e1 e2 e3 e4 e5 e6 e7 f0
  have hN0 := HL2.out 4
  have hN1 := HL2.out 6
  have hN2 := HL2.out 8
  have hN3 := HL2.out 10
  go_upto_region 5 with (first
    | (go_at_call 144; refine (mnum_any w8 p A n c 10 bs H8.out.P (H8.out.rd HR.out ho) hn (by omega)).mono ?_; rw [HN10.out]; rintro e w9 ⟨v9, rfl, rfl, h9, hc9⟩; have H9 := Lib.hid (H8.out.num hc9 h9 HPL.out); clear hc9 h9)
    | (go_at_call 144; refine (mnum_any w7 p A n c 8 bs H7.out.P (H7.out.rd HR.out ho) hn (by omega)).mono ?_; rw [HN8.out]; rintro e w8 ⟨v8, rfl, rfl, h8, hc8⟩; have H8 := Lib.hid (H7.out.num hc8 h8 HPL.out); clear hc8 h8)
    | (go_at_call 144; refine (mnum_any w6 p A n c 6 bs H6.out.P (H6.out.rd HR.out ho) hn (by omega)).mono ?_; rw [HN6.out]; rintro e w7 ⟨v7, rfl, rfl, h7, hc7⟩; have H7 := Lib.hid (H6.out.num hc7 h7 HPL.out); clear hc7 h7)
    | (go_at_call 144; refine (mnum_any w5 p A n c 4 bs H5.out.P (H5.out.rd HR.out ho) hn (by omega)).mono ?_; rw [HN4.out]; rintro e w6 ⟨v6, rfl, rfl, h6, hc6⟩; have H6 := Lib.hid (H5.out.num hc6 h6 HPL.out); clear hc6 h6)
    | fail)
  clear H5 H6 H7 H8
  have HDM : Hid (513 < numA bs 4 2 + numA bs 6 2 + numA bs 8 2 + numA bs 10 2 → decP bs = .error 4) := fun h => decP_many (by omega) (by omega) h
  have HDG : Hid (¬ 513 < numA bs 4 2 + numA bs 6 2 + numA bs 8 2 + numA bs 10 2 → decP bs = restQ bs (numA bs 4 2) 12 []) := fun h => decP_go (by omega) (by omega) h
  have HM0 : Hid (numA bs 6 2 = numA bs 6 2) := rfl
  obtain ⟨N0, hN0e⟩ : ∃ N, N = numA bs 4 2 := ⟨_, rfl⟩
  obtain ⟨N1, hN1e⟩ : ∃ N, N = numA bs 6 2 := ⟨_, rfl⟩
  obtain ⟨N2, hN2e⟩ : ∃ N, N = numA bs 8 2 := ⟨_, rfl⟩
  obtain ⟨N3, hN3e⟩ : ∃ N, N = numA bs 10 2 := ⟨_, rfl⟩
  rw [← hN0e] at hN0 HDM HDG ⊢
  rw [← hN1e] at hN1 HDM HDG ⊢
  rw [← hN2e] at hN2 HDM HDG ⊢
  rw [← hN3e] at hN3 HDM HDG ⊢
  have E1 := Lib.hid hN1e
  have E2 := Lib.hid hN2e
  have E3 := Lib.hid hN3e
  clear hN0e hN1e hN2e hN3e HM0 HN0 HN2 HN4 HN6 HN8 HN10 HL2
  obtain ⟨wa, hwa⟩ : ∃ u, u = w9.alloc (.cells #[.int .i64 (N0 : Int), .int .i64 (N1 : Int), .int .i64 (N2 : Int), .int .i64 (N3 : Int)] 3) := ⟨_, rfl⟩
  have hba : Below w9.heap.size w9 wa := by rw [hwa]; exact bl.alloc (Nat.le_refl _) _
  have HA := Lib.hid (H9.out.below hba)
  have HNR : Hid (wa.heap[w9.heap.size]? = some (.cells #[.int .i64 (N0 : Int), .int .i64 (N1 : Int), .int .i64 (N2 : Int), .int .i64 (N3 : Int)] 3 (0, 0))) := by show _ = _; rw [hwa]; exact heap_alloc_new w9 _
  have HGN : Hid (w.heap.size < w9.heap.size) := H9.out.R.lt
  rw [← hwa]
  clear hwa hba H9
  generalize w9.heap.size = gn at HNR HGN ⊢
  have n0 : wa.cell? ⟨gn, 0, none⟩ = some (.int .i64 (N0 : Int)) := (cell_of_row _ _ _ _ _ _ HNR.out).trans rfl
  have n1 : wa.cell? ⟨gn, 1, none⟩ = some (.int .i64 (N1 : Int)) := (cell_of_row _ _ _ _ _ _ HNR.out).trans rfl
  have n2 : wa.cell? ⟨gn, 2, none⟩ = some (.int .i64 (N2 : Int)) := (cell_of_row _ _ _ _ _ _ HNR.out).trans rfl
  have n3 : wa.cell? ⟨gn, 3, none⟩ = some (.int .i64 (N3 : Int)) := (cell_of_row _ _ _ _ _ _ HNR.out).trans rfl
  by_cases hm : 513 < N0 + N1 + N2 + N3
  · have HE := Lib.hid (HDM.out hm)
    have hm' : (513 : Int) < (N0 : Int) + (N1 : Int) + (N2 : Int) + (N3 : Int) := by omega
    clear hm
    go_quiet (fail)
    go_wp2
    refine ⟨rfl, ?_⟩
    rw [HE.out]
    exact ⟨rfl, HA.out.C.drewN nq⟩
  · have HE := Lib.hid (HDG.out hm)
    have hm' : ¬ (513 : Int) < (N0 : Int) + (N1 : Int) + (N2 : Int) + (N3 : Int) := by omega
    have hm2 : N0 ≤ 513 := by omega
    clear hm HDM HDG
    go_quiet (fail)
    clear hm'
    go_wp2
    go_loopw [72] (fun i wr => ∃ (a b pk : Nat) (acc : List Qu) (A8 : Option Addr) (c8 : Nat), i = .int .i64 (a : Int) ∧ a + b = N0 ∧ Hid (MmS w wr p (.slice A n c) ⟨A8, c8, none, 0, none, 0, none, 0⟩ (msF bs acc [] [] [] ⟨false, 0⟩) pk) ∧ Hid (NewE encQu 25 (gn + 1) wr (.slice A8 acc.length c8) acc) ∧ Hid (wr.heap[gn]? = some (.cells #[.int .i64 (N0 : Int), .int .i64 (N1 : Int), .int .i64 (N2 : Int), .int .i64 (N3 : Int)] 3 (0, 0))) ∧ Hid (acc.length ≤ a) ∧ Hid (decP bs = restQ bs b pk acc)) (fun i _ => N0 - (intOf i).toNat)
    case atStart => exact ⟨0, N0, 12, [], none, 0, rfl, Nat.zero_add _, HA.out.below (dN bl nq), NewE.nil _ _ _ _, HNR.out, Nat.le_refl _, HE.out⟩
    case round =>
      clear n0 n1 n2 n3 HA HNR HE
      obtain ⟨a, b, pk, acc, A8, c8, rfl, hab, HM, HOWN, HNR, HAL, HE⟩ := hrel
      rcases b with _ | b
      · have haN : ¬ (a : Int) < (N0 : Int) := by omega
        have HE0 : Hid (decP bs = rest0 bs acc pk ⟨false, 0⟩) := HE.out
        obtain ⟨A8', c8', hv8, hel8, hl8, hm8⟩ := HOWN.out.rd
        injection hv8 with e1 e2 e3
        subst e1 e3
        have hwl : w.heap.size + 1 ≤ wr.heap.size := HM.out.R.lt
        have HMI : Hid (MIn (geS (w.heap.size + 1) wr) wr ⟨A8, c8, none, 0, none, 0, none, 0⟩ (msF bs acc [] [] [] ⟨false, 0⟩)) := by
          have hid := @numA_2 bs 0
          have hfl := @numA_2 bs 2
          exact ⟨els_le hel8 (by have := HGN.out; omega), Els.nil _ _ _ _ _, Els.nil _ _ _ _ _, Els.nil _ _ _ _ _, ⟨hl8, hm8⟩, ⟨Nat.le_refl _, by show 0 ≤ maxLen; unfold maxLen; omega⟩, ⟨Nat.le_refl _, by show 0 ≤ maxLen; unfold maxLen; omega⟩, ⟨Nat.le_refl _, by show 0 ≤ maxLen; unfold maxLen; omega⟩, ⟨by show -9223372036854775808 ≤ (numA bs 0 2 : Int); omega, by show (numA bs 0 2 : Int) ≤ 9223372036854775807; omega⟩, ⟨by show -9223372036854775808 ≤ ((numA bs 2 2 / 2048 % 16 : Nat) : Int); omega, by show ((numA bs 2 2 / 2048 % 16 : Nat) : Int) ≤ 9223372036854775807; omega⟩, ⟨by show -9223372036854775808 ≤ ((numA bs 2 2 % 16 : Nat) : Int); omega, by show ((numA bs 2 2 % 16 : Nat) : Int) ≤ 9223372036854775807; omega⟩, ⟨by show (-9223372036854775808 : Int) ≤ 0; omega, by show (0 : Int) ≤ 9223372036854775807; omega⟩⟩
        clear hel8 hl8 hm8 HOWN HE HAL
        go_wp2_with (first
          | (go_at_call 146; refine (sections_any w.heap.size wr).mono ?_; rintro e w7 ⟨gs, rfl, hg7, hl7, hb7⟩; have HM7 := Lib.hid (HM.out.below hb7); have HG7 := Lib.hid hg7; have HMI7 : Hid (MIn (geS (w.heap.size + 1) w7) w7 ⟨A8, c8, none, 0, none, 0, none, 0⟩ (msF bs acc [] [] [] ⟨false, 0⟩)) := MIn.mono (fun b hb => ⟨hb.1, Nat.lt_of_lt_of_le hb.2 hb7.size⟩) (HMI.out.below hb7 (fun b hb => hb.2)); have HN7 : Hid (w7.heap[gn]? = some (.cells #[.int .i64 (N0 : Int), .int .i64 (N1 : Int), .int .i64 (N2 : Int), .int .i64 (N3 : Int)] 3 (0, 0))) := (hb7.block gn (Array.getElem?_eq_some_iff.1 HNR.out).1).trans HNR.out; have HGS : Hid (w.heap.size < gs) := Nat.lt_of_lt_of_le hwl hl7; clear hg7 hl7 hb7)
          | fail)
        clear HM HMI HNR
        go_loopw [84] (fun i wr => ∃ (j : Nat) (an au ex : List RR) (pk : Nat) (o : Opt) (s : MS), i = .int .i64 (j : Int) ∧ j ≤ 3 ∧ Hid (MmS w wr p (.slice A n c) s (msF bs acc an au ex o) pk) ∧ Hid (MIn (geS (w.heap.size + 1) wr) wr s (msF bs acc an au ex o)) ∧ Hid (wr.heap[gn]? = some (.cells #[.int .i64 (N0 : Int), .int .i64 (N1 : Int), .int .i64 (N2 : Int), .int .i64 (N3 : Int)] 3 (0, 0))) ∧ Hid (wr.heap[gs]? = some (.cells (secP w.heap.size) 172 (0, 0))) ∧ Hid (fitsB o.size 2 = true ∧ (o.edns = true ∨ o.size = 0)) ∧ Hid ((j = 0 ∧ an = [] ∧ au = [] ∧ ex = [] ∧ decP bs = rest0 bs acc pk o) ∨ (j = 1 ∧ au = [] ∧ ex = [] ∧ decP bs = rest1 bs acc an pk o) ∨ (j = 2 ∧ ex = [] ∧ decP bs = rest2 bs acc an au pk o) ∨ (j = 3 ∧ decP bs = rest3 bs acc an au ex pk o))) (fun i _ => 3 - (intOf i).toNat)
        case atStart => exact ⟨0, [], [], [], pk, ⟨false, 0⟩, _, rfl, by omega, HM7.out, HMI7.out, HN7.out, HG7.out, ⟨by decide, .inr rfl⟩, .inl ⟨rfl, rfl, rfl, rfl, HE0.out⟩⟩
        case round =>
          obtain ⟨j, an, au, ex, pj, o, s, rfl, hj3, HM, HMI, HNR, HGR, HOF, HSEC⟩ := hrel
          clear HM7 HMI7 HN7 HG7 HE0
          have HRR := Lib.hid (HM.out.rd HR.out ho)
          have HBL : Hid (∀ b off, A = some ⟨b, off, none⟩ → b < wr.heap.size) := fun b off e => Nat.lt_of_lt_of_le (hbl b off e) HM.out.C.size
          have hoq : offA A w.heap.size := fun b off e => by have := hbl b off e; omega
          have n0 : wr.cell? ⟨gn, 0, none⟩ = some (.int .i64 (N0 : Int)) := (cell_of_row _ _ _ _ _ _ HNR.out).trans rfl
          have n1 : wr.cell? ⟨gn, 1, none⟩ = some (.int .i64 (N1 : Int)) := (cell_of_row _ _ _ _ _ _ HNR.out).trans rfl
          have n2 : wr.cell? ⟨gn, 2, none⟩ = some (.int .i64 (N2 : Int)) := (cell_of_row _ _ _ _ _ _ HNR.out).trans rfl
          have n3 : wr.cell? ⟨gn, 3, none⟩ = some (.int .i64 (N3 : Int)) := (cell_of_row _ _ _ _ _ _ HNR.out).trans rfl
          have g0 : wr.cell? ⟨gs, 0, none⟩ = some (.pointer (some ⟨w.heap.size, 9, none⟩)) := (cell_of_row _ _ _ _ _ _ HGR.out).trans rfl
          have g1 : wr.cell? ⟨gs, 1, none⟩ = some (.pointer (some ⟨w.heap.size, 10, none⟩)) := (cell_of_row _ _ _ _ _ _ HGR.out).trans rfl
          have g2 : wr.cell? ⟨gs, 2, none⟩ = some (.pointer (some ⟨w.heap.size, 11, none⟩)) := (cell_of_row _ _ _ _ _ _ HGR.out).trans rfl
          rcases HSEC.out with hs | hs | hs | hs
          · obtain ⟨rfl, rfl, rfl, rfl, hE⟩ := hs
            have HEJ := Lib.hid hE
            clear hE HSEC
            rw [show ((0 : Nat) : Int) = 0 from rfl]
            cases hx : dRRs bs false N1 pj ⟨o.edns, o.size⟩ [] with
            | error e =>
              have HX := Lib.hid hx
              have HE2 : Hid (decP bs = .error e) := by
                show _ = _
                rw [HEJ.out]
                unfold rest0
                rw [← E1.out]
                have hx' : dRRs bs false N1 pj o [] = .error e := hx
                rw [hx']
              clear hx
              go_wp2_with (first
                | (go_at_call 147; refine (mrecs_any wr p w.heap.size A n c pj bs s (msF bs acc [] [] [] o) N1 false HM.out.P HM.out.R (by have := HPL.out; omega) HRR.out ho hoq HBL.out hn hc (by omega) (by omega)).mono ?_; unfold msF; rw [HX.out]; rintro e' w8 ⟨rfl, hc8⟩)
                | fail)
              refine ⟨rfl, ?_⟩
              rw [HE2.out]
              exact ⟨rfl, HM.out.C.trans hc8 (fun z hz => hz.elim .inl (fun hz => .inr (by omega)))⟩
            | ok r =>
              obtain ⟨lj, pj2, oj⟩ := r
              have HX := Lib.hid hx
              have HE2 : Hid (decP bs = rest1 bs acc lj pj2 oj) := by
                show _ = _
                rw [HEJ.out]
                unfold rest0
                rw [← E1.out]
                have hx' : dRRs bs false N1 pj o [] = .ok (lj, pj2, oj) := hx
                rw [hx']
              have HOF2 := Lib.hid (dRRs_sound (b := bs) (e := false) N1 (o := o) (by simp) HOF.out hx).2
              clear hx
              go_upto_region 15 with (first
                | (go_at_call 147; refine (mrecs_any wr p w.heap.size A n c pj bs s (msF bs acc [] [] [] o) N1 false HM.out.P HM.out.R (by have := HPL.out; omega) HRR.out ho hoq HBL.out hn hc (by omega) (by omega)).mono ?_; unfold msF; rw [HX.out]; rintro e' w8 ⟨v8, rfl, ho8, h8, hr8, hc8⟩; have HR8 : Hid (MRow w8 w.heap.size s (msF bs acc [] [] [] oj)) := hr8; have HO8 := Lib.hid ho8; obtain ⟨Aj, cj, rfl, _⟩ := NewE.rd ho8; have HP8 := Lib.hid h8; have HC8 := Lib.hid hc8; have e8 := HR8.out.cell 9; have f8 := HR8.out.free 9; clear h8 hr8 hc8 ho8)
                | fail)
              obtain ⟨w9, hw9⟩ : ∃ u, u = w8.setCell ⟨w.heap.size, 9, none⟩ (.slice Aj lj.length cj) := ⟨_, rfl⟩
              have hM8 : MmS w w8 p (.slice A n c) s (msF bs acc [] [] [] oj) pj2 := ⟨HR8.out, HP8.out, HM.out.C.trans HC8.out (fun z hz => hz.elim .inl (fun hz => .inr (by omega)))⟩
              have HM9 : Hid (MmS w w9 p (.slice A n c) ⟨s.Q, s.qc, Aj, cj, s.U, s.uc, s.X, s.xc⟩ (msF bs acc lj [] [] oj) pj2) := by
                show MmS _ _ _ _ _ _ _
                rw [hw9]
                exact hM8.put HPL.out 9 _ _ _ rfl
              have hc9 : Chg (fun z => z = w.heap.size) w8 w9 := by rw [hw9]; exact chg_g1 _ _ _ _
              obtain ⟨Aj', cj', hvj, helj, hlj, hmj⟩ := HO8.out.rd
              injection hvj with e1 e2 e3
              subst e1 e3
              have hwl8 : w.heap.size + 1 ≤ wr.heap.size := HM.out.R.lt
              have HMI9 : Hid (MIn (geS (w.heap.size + 1) w9) w9 ⟨s.Q, s.qc, Aj, cj, s.U, s.uc, s.X, s.xc⟩ (msF bs acc lj [] [] oj)) := by
                have els2 := els_le helj hwl8
                have els3 := els_ge els2 hc9 (fun k h1 _ h2 => by omega)
                have hs0 := fitsB_true HOF2.out.1
                have hs1 : oj.size < 65536 := hs0.2.2.2
                have hsz : i64S oj.size := ⟨by have := hs0.2.2.1; omega, by omega⟩
                have hch : Chg (fun z => z = p ∨ z = w.heap.size) wr w9 := HC8.out.trans hc9 (fun z h => .inl (.inr h))
                have h1 : MIn (geS (w.heap.size + 1) w9) w9 s (msF bs acc [] [] [] o) := MIn.mono (fun b hb => ⟨hb.1, Nat.lt_of_lt_of_le hb.2 hch.size⟩) (HMI.out.chg hch (fun b hb => ⟨hb.2, fun h => by have h3 := hb.1; have h2 := HPL.out; omega⟩))
                exact ⟨h1.q, els3, h1.u, h1.x, h1.cq, ⟨hlj, hmj⟩, h1.cu, h1.cx, h1.ii, h1.io, h1.ir, hsz⟩
              have HN9 : Hid (w9.heap[gn]? = some (.cells #[.int .i64 (N0 : Int), .int .i64 (N1 : Int), .int .i64 (N2 : Int), .int .i64 (N3 : Int)] 3 (0, 0))) := hc9.heap (HC8.out.heap HNR.out (fun h => by have h2 := HPL.out; have h3 := HGN.out; omega)) (by have h3 := HGN.out; omega)
              have HG9 : Hid (w9.heap[gs]? = some (.cells (secP w.heap.size) 172 (0, 0))) := hc9.heap (HC8.out.heap HGR.out (fun h => by have h2 := HPL.out; have h3 := HGS.out; omega)) (by have h3 := HGS.out; omega)
              rw [← hw9]
              clear hw9 hM8 hc9 e8 f8 helj hlj hmj HM HMI HNR HGR n0 n1 n2 n3 g0 g1 g2
              go_wp2
              go_roundw
              case rel => exact ⟨1, lj, [], [], pj2, oj, _, by go_num, by omega, HM9.out, HMI9.out, HN9.out, HG9.out, HOF2.out, (.inr (.inl ⟨rfl, rfl, rfl, HE2.out⟩))⟩
              case measure => simp [intOf]
          · obtain ⟨rfl, rfl, rfl, hE⟩ := hs
            have HEJ := Lib.hid hE
            clear hE HSEC
            rw [show ((1 : Nat) : Int) = 1 from rfl]
            cases hx : dRRs bs false N2 pj ⟨o.edns, o.size⟩ [] with
            | error e =>
              have HX := Lib.hid hx
              have HE2 : Hid (decP bs = .error e) := by
                show _ = _
                rw [HEJ.out]
                unfold rest1
                rw [← E2.out]
                have hx' : dRRs bs false N2 pj o [] = .error e := hx
                rw [hx']
              clear hx
              go_wp2_with (first
                | (go_at_call 147; refine (mrecs_any wr p w.heap.size A n c pj bs s (msF bs acc an [] [] o) N2 false HM.out.P HM.out.R (by have := HPL.out; omega) HRR.out ho hoq HBL.out hn hc (by omega) (by omega)).mono ?_; unfold msF; rw [HX.out]; rintro e' w8 ⟨rfl, hc8⟩)
                | fail)
              refine ⟨rfl, ?_⟩
              rw [HE2.out]
              exact ⟨rfl, HM.out.C.trans hc8 (fun z hz => hz.elim .inl (fun hz => .inr (by omega)))⟩
            | ok r =>
              obtain ⟨lj, pj2, oj⟩ := r
              have HX := Lib.hid hx
              have HE2 : Hid (decP bs = rest2 bs acc an lj pj2 oj) := by
                show _ = _
                rw [HEJ.out]
                unfold rest1
                rw [← E2.out]
                have hx' : dRRs bs false N2 pj o [] = .ok (lj, pj2, oj) := hx
                rw [hx']
              have HOF2 := Lib.hid (dRRs_sound (b := bs) (e := false) N2 (o := o) (by simp) HOF.out hx).2
              clear hx
              go_upto_region 15 with (first
                | (go_at_call 147; refine (mrecs_any wr p w.heap.size A n c pj bs s (msF bs acc an [] [] o) N2 false HM.out.P HM.out.R (by have := HPL.out; omega) HRR.out ho hoq HBL.out hn hc (by omega) (by omega)).mono ?_; unfold msF; rw [HX.out]; rintro e' w8 ⟨v8, rfl, ho8, h8, hr8, hc8⟩; have HR8 : Hid (MRow w8 w.heap.size s (msF bs acc an [] [] oj)) := hr8; have HO8 := Lib.hid ho8; obtain ⟨Aj, cj, rfl, _⟩ := NewE.rd ho8; have HP8 := Lib.hid h8; have HC8 := Lib.hid hc8; have e8 := HR8.out.cell 10; have f8 := HR8.out.free 10; clear h8 hr8 hc8 ho8)
                | fail)
              obtain ⟨w9, hw9⟩ : ∃ u, u = w8.setCell ⟨w.heap.size, 10, none⟩ (.slice Aj lj.length cj) := ⟨_, rfl⟩
              have hM8 : MmS w w8 p (.slice A n c) s (msF bs acc an [] [] oj) pj2 := ⟨HR8.out, HP8.out, HM.out.C.trans HC8.out (fun z hz => hz.elim .inl (fun hz => .inr (by omega)))⟩
              have HM9 : Hid (MmS w w9 p (.slice A n c) ⟨s.Q, s.qc, s.A, s.ac, Aj, cj, s.X, s.xc⟩ (msF bs acc an lj [] oj) pj2) := by
                show MmS _ _ _ _ _ _ _
                rw [hw9]
                exact hM8.put HPL.out 10 _ _ _ rfl
              have hc9 : Chg (fun z => z = w.heap.size) w8 w9 := by rw [hw9]; exact chg_g1 _ _ _ _
              obtain ⟨Aj', cj', hvj, helj, hlj, hmj⟩ := HO8.out.rd
              injection hvj with e1 e2 e3
              subst e1 e3
              have hwl8 : w.heap.size + 1 ≤ wr.heap.size := HM.out.R.lt
              have HMI9 : Hid (MIn (geS (w.heap.size + 1) w9) w9 ⟨s.Q, s.qc, s.A, s.ac, Aj, cj, s.X, s.xc⟩ (msF bs acc an lj [] oj)) := by
                have els2 := els_le helj hwl8
                have els3 := els_ge els2 hc9 (fun k h1 _ h2 => by omega)
                have hs0 := fitsB_true HOF2.out.1
                have hs1 : oj.size < 65536 := hs0.2.2.2
                have hsz : i64S oj.size := ⟨by have := hs0.2.2.1; omega, by omega⟩
                have hch : Chg (fun z => z = p ∨ z = w.heap.size) wr w9 := HC8.out.trans hc9 (fun z h => .inl (.inr h))
                have h1 : MIn (geS (w.heap.size + 1) w9) w9 s (msF bs acc an [] [] o) := MIn.mono (fun b hb => ⟨hb.1, Nat.lt_of_lt_of_le hb.2 hch.size⟩) (HMI.out.chg hch (fun b hb => ⟨hb.2, fun h => by have h3 := hb.1; have h2 := HPL.out; omega⟩))
                exact ⟨h1.q, h1.a, els3, h1.x, h1.cq, h1.ca, ⟨hlj, hmj⟩, h1.cx, h1.ii, h1.io, h1.ir, hsz⟩
              have HN9 : Hid (w9.heap[gn]? = some (.cells #[.int .i64 (N0 : Int), .int .i64 (N1 : Int), .int .i64 (N2 : Int), .int .i64 (N3 : Int)] 3 (0, 0))) := hc9.heap (HC8.out.heap HNR.out (fun h => by have h2 := HPL.out; have h3 := HGN.out; omega)) (by have h3 := HGN.out; omega)
              have HG9 : Hid (w9.heap[gs]? = some (.cells (secP w.heap.size) 172 (0, 0))) := hc9.heap (HC8.out.heap HGR.out (fun h => by have h2 := HPL.out; have h3 := HGS.out; omega)) (by have h3 := HGS.out; omega)
              rw [← hw9]
              clear hw9 hM8 hc9 e8 f8 helj hlj hmj HM HMI HNR HGR n0 n1 n2 n3 g0 g1 g2
              go_wp2
              go_roundw
              case rel => exact ⟨2, an, lj, [], pj2, oj, _, by go_num, by omega, HM9.out, HMI9.out, HN9.out, HG9.out, HOF2.out, (.inr (.inr (.inl ⟨rfl, rfl, HE2.out⟩)))⟩
              case measure => simp [intOf]
          · obtain ⟨rfl, rfl, hE⟩ := hs
            have HEJ := Lib.hid hE
            clear hE HSEC
            rw [show ((2 : Nat) : Int) = 2 from rfl]
            cases hx : dRRs bs true N3 pj ⟨o.edns, o.size⟩ [] with
            | error e =>
              have HX := Lib.hid hx
              have HE2 : Hid (decP bs = .error e) := by
                show _ = _
                rw [HEJ.out]
                unfold rest2
                rw [← E3.out]
                have hx' : dRRs bs true N3 pj o [] = .error e := hx
                rw [hx']
              clear hx
              go_wp2_with (first
                | (go_at_call 147; refine (mrecs_any wr p w.heap.size A n c pj bs s (msF bs acc an au [] o) N3 true HM.out.P HM.out.R (by have := HPL.out; omega) HRR.out ho hoq HBL.out hn hc (by omega) (by omega)).mono ?_; unfold msF; rw [HX.out]; rintro e' w8 ⟨rfl, hc8⟩)
                | fail)
              refine ⟨rfl, ?_⟩
              rw [HE2.out]
              exact ⟨rfl, HM.out.C.trans hc8 (fun z hz => hz.elim .inl (fun hz => .inr (by omega)))⟩
            | ok r =>
              obtain ⟨lj, pj2, oj⟩ := r
              have HX := Lib.hid hx
              have HE2 : Hid (decP bs = rest3 bs acc an au lj pj2 oj) := by
                show _ = _
                rw [HEJ.out]
                unfold rest2
                rw [← E3.out]
                have hx' : dRRs bs true N3 pj o [] = .ok (lj, pj2, oj) := hx
                rw [hx']
              have HOF2 := Lib.hid (dRRs_sound (b := bs) (e := true) N3 (o := o) (by simp) HOF.out hx).2
              clear hx
              go_upto_region 15 with (first
                | (go_at_call 147; refine (mrecs_any wr p w.heap.size A n c pj bs s (msF bs acc an au [] o) N3 true HM.out.P HM.out.R (by have := HPL.out; omega) HRR.out ho hoq HBL.out hn hc (by omega) (by omega)).mono ?_; unfold msF; rw [HX.out]; rintro e' w8 ⟨v8, rfl, ho8, h8, hr8, hc8⟩; have HR8 : Hid (MRow w8 w.heap.size s (msF bs acc an au [] oj)) := hr8; have HO8 := Lib.hid ho8; obtain ⟨Aj, cj, rfl, _⟩ := NewE.rd ho8; have HP8 := Lib.hid h8; have HC8 := Lib.hid hc8; have e8 := HR8.out.cell 11; have f8 := HR8.out.free 11; clear h8 hr8 hc8 ho8)
                | fail)
              obtain ⟨w9, hw9⟩ : ∃ u, u = w8.setCell ⟨w.heap.size, 11, none⟩ (.slice Aj lj.length cj) := ⟨_, rfl⟩
              have hM8 : MmS w w8 p (.slice A n c) s (msF bs acc an au [] oj) pj2 := ⟨HR8.out, HP8.out, HM.out.C.trans HC8.out (fun z hz => hz.elim .inl (fun hz => .inr (by omega)))⟩
              have HM9 : Hid (MmS w w9 p (.slice A n c) ⟨s.Q, s.qc, s.A, s.ac, s.U, s.uc, Aj, cj⟩ (msF bs acc an au lj oj) pj2) := by
                show MmS _ _ _ _ _ _ _
                rw [hw9]
                exact hM8.put HPL.out 11 _ _ _ rfl
              have hc9 : Chg (fun z => z = w.heap.size) w8 w9 := by rw [hw9]; exact chg_g1 _ _ _ _
              obtain ⟨Aj', cj', hvj, helj, hlj, hmj⟩ := HO8.out.rd
              injection hvj with e1 e2 e3
              subst e1 e3
              have hwl8 : w.heap.size + 1 ≤ wr.heap.size := HM.out.R.lt
              have HMI9 : Hid (MIn (geS (w.heap.size + 1) w9) w9 ⟨s.Q, s.qc, s.A, s.ac, s.U, s.uc, Aj, cj⟩ (msF bs acc an au lj oj)) := by
                have els2 := els_le helj hwl8
                have els3 := els_ge els2 hc9 (fun k h1 _ h2 => by omega)
                have hs0 := fitsB_true HOF2.out.1
                have hs1 : oj.size < 65536 := hs0.2.2.2
                have hsz : i64S oj.size := ⟨by have := hs0.2.2.1; omega, by omega⟩
                have hch : Chg (fun z => z = p ∨ z = w.heap.size) wr w9 := HC8.out.trans hc9 (fun z h => .inl (.inr h))
                have h1 : MIn (geS (w.heap.size + 1) w9) w9 s (msF bs acc an au [] o) := MIn.mono (fun b hb => ⟨hb.1, Nat.lt_of_lt_of_le hb.2 hch.size⟩) (HMI.out.chg hch (fun b hb => ⟨hb.2, fun h => by have h3 := hb.1; have h2 := HPL.out; omega⟩))
                exact ⟨h1.q, h1.a, h1.u, els3, h1.cq, h1.ca, h1.cu, ⟨hlj, hmj⟩, h1.ii, h1.io, h1.ir, hsz⟩
              have HN9 : Hid (w9.heap[gn]? = some (.cells #[.int .i64 (N0 : Int), .int .i64 (N1 : Int), .int .i64 (N2 : Int), .int .i64 (N3 : Int)] 3 (0, 0))) := hc9.heap (HC8.out.heap HNR.out (fun h => by have h2 := HPL.out; have h3 := HGN.out; omega)) (by have h3 := HGN.out; omega)
              have HG9 : Hid (w9.heap[gs]? = some (.cells (secP w.heap.size) 172 (0, 0))) := hc9.heap (HC8.out.heap HGR.out (fun h => by have h2 := HPL.out; have h3 := HGS.out; omega)) (by have h3 := HGS.out; omega)
              rw [← hw9]
              clear hw9 hM8 hc9 e8 f8 helj hlj hmj HM HMI HNR HGR n0 n1 n2 n3 g0 g1 g2
              go_wp2
              go_roundw
              case rel => exact ⟨3, an, au, lj, pj2, oj, _, by go_num, by omega, HM9.out, HMI9.out, HN9.out, HG9.out, HOF2.out, (.inr (.inr (.inr ⟨rfl, HE2.out⟩)))⟩
              case measure => simp [intOf]
          · obtain ⟨rfl, hE⟩ := hs
            have HEJ := Lib.hid hE
            clear hE HSEC n0 n1 n2 n3 g0 g1 g2
            rw [show ((3 : Nat) : Int) = 3 from rfl]
            obtain ⟨c0, c1, _⟩ := HM.out.P.cells
            by_cases hlt : pj < bs.length
            · have HE2 : Hid (decP bs = .error 7) := by show _ = _; rw [HEJ.out]; unfold rest3; rw [if_pos hlt]
              have hlt2 : (pj : Int) < (n : Int) := by omega
              clear hlt
              go_wp2
              go_quiet (fail)
              go_wp2
              refine ⟨rfl, ?_⟩
              rw [HE2.out]
              exact ⟨rfl, HM.out.C.drewN nq⟩
            · have HE2 : Hid (decP bs = .ok (msF bs acc an au ex o)) := by show _ = _; rw [HEJ.out]; unfold rest3; rw [if_neg hlt]
              have hlt2 : ¬ (pj : Int) < (n : Int) := by omega
              clear hlt HEJ
              obtain ⟨m, hmd⟩ : ∃ m, m = msF bs acc an au ex o := ⟨_, rfl⟩
              rw [← hmd] at HM HMI HE2
              clear hmd
              go_wp2
              go_quiet (fail)
              go_upto_region 18 with (fail)
              clear hlt2 c0 c1
              have HMd := Lib.hid (HM.out.below (dN bl nq))
              have HMId : Hid (MIn (geS (w.heap.size + 1) (wr.drewN nq)) (wr.drewN nq) s m) := HMI.out.below (dN bl nq) (fun b hb => hb.2)
              obtain ⟨z0, z1, z2, z3, z4, z5, z6, z7, z8, z9, z10, z11, z12, z13⟩ := HMd.out.R.cells
              have f0 := HMd.out.R.free 0
              have f1 := HMd.out.R.free 1
              have f2 := HMd.out.R.free 2
              have f3 := HMd.out.R.free 3
              have f4 := HMd.out.R.free 4
              have f5 := HMd.out.R.free 5
              have f6 := HMd.out.R.free 6
              have f7 := HMd.out.R.free 7
              have f8 := HMd.out.R.free 8
              have f9 := HMd.out.R.free 9
              have f10 := HMd.out.R.free 10
              have f11 := HMd.out.R.free 11
              have f12 := HMd.out.R.free 12
              have f13 := HMd.out.R.free 13
              generalize hwd : wr.drewN nq = wd at HMd HMId z0 f0 z1 f1 z2 f2 z3 f3 z4 f4 z5 f5 z6 f6 z7 f7 z8 f8 z9 f9 z10 f10 z11 f11 z12 f12 z13 f13 ⊢
              clear hwd
              go_wp2
              obtain ⟨ym, hym⟩ : ∃ y, y = put14 wd w.heap.size (.int .i64 m.id) (.bool m.resp) (.int .i64 m.op) (.bool m.aa) (.bool m.tc) (.bool m.rd) (.bool m.ra) (.int .i64 m.rcode) (.slice s.Q m.qs.length s.qc) (.slice s.A m.an.length s.ac) (.slice s.U m.au.length s.uc) (.slice s.X m.ex.length s.xc) (.bool m.edns) (.int .i64 m.size) := ⟨_, rfl⟩
              have hRm : MRow ym w.heap.size s m := by rw [hym]; exact HMd.out.R.fill s m
              have hcm : Chg (fun z => z = w.heap.size) wd ym := by rw [hym]; exact chg14 _ _ _ _ _ _ _ _ _ _ _ _ _ _ _ _
              unfold put14 at hym
              rw [← hym]
              clear hym z0 f0 z1 f1 z2 f2 z3 f3 z4 f4 z5 f5 z6 f6 z7 f7 z8 f8 z9 f9 z10 f10 z11 f11 z12 f12 z13 f13
              obtain ⟨z0, z1, z2, z3, z4, z5, z6, z7, z8, z9, z10, z11, z12, z13⟩ := hRm.cells
              have hm : ∀ b, geS (w.heap.size + 1) wd b → geS w.heap.size ym b := fun b hb => ⟨by have h1 := hb.1; omega, Nat.lt_of_lt_of_le hb.2 hcm.size⟩
              have hF : MIn (geS w.heap.size ym) ym s m := MIn.mono hm (HMId.out.chg hcm (fun b hb => ⟨hb.2, fun h => by have h1 := hb.1; omega⟩))
              have hC : Chg (fun z => z = p) w ym := HMd.out.C.trans hcm (fun z h => .inr (by omega))
              refine bodyPost_ret (v := msV s m) ?_ rfl (by rw [HE2.out]; exact ⟨s, rfl, hF, hC⟩)
              simp [results, Try.results96, go_sem, z0, z1, z2, z3, z4, z5, z6, z7, z8, z9, z10, z11, z12, z13]
              rfl
      · have haN : (a : Int) < (N0 : Int) := by omega
        have e8 := HM.out.R.cell 8
        have f8 := HM.out.R.free 8
        simp only [mCells, msF, List.getElem?_toArray, List.getElem?_cons_zero, List.getElem?_cons_succ] at e8
        have HRR := Lib.hid (HM.out.rd HR.out ho)
        have HBL : Hid (∀ b off, A = some ⟨b, off, none⟩ → b < wr.heap.size) := fun b off e => Nat.lt_of_lt_of_le (hbl b off e) HM.out.C.size
        cases hx : dQu bs pk with
        | error x =>
          have HX := Lib.hid hx
          have HE2 := Lib.hid (HE.out.trans (restQ_err hx))
          clear hx
          go_upto_region 9 with (fail)
          have HFIN : Hid (∀ w2, Chg (fun z => z = p) wr.drew w2 → MmX (decP bs) w p (.panicked (pnc x)) w2) := fun w2 h2 => by
            rw [HE2.out]
            exact ⟨rfl, HM.out.C.drew.trans h2 (fun _ h => .inl h)⟩
          refine wp_region_any (by kernel_rfl) ?_
          change wpAny _ _ _ _ _ _ _ (World.drew wr)
          refine wpAny_take (i := 0) (v := .pointer (some ⟨w.heap.size, 8, none⟩)) rfl (by kernel_rfl) (by kernel_rfl) (by kernel_rfl) (fun _ _ _ h => h) (Or.inl ⟨by rfl, by (intro w; go_simp)⟩) ?_
          refine wpAny_take (i := 2) (v := .pointer (some ⟨p, 0, none⟩)) rfl (by kernel_rfl) (by kernel_rfl) (by kernel_rfl) (fun _ _ _ h => h) (Or.inl ⟨by rfl, by (intro w; go_simp)⟩) ?_
          refine wpAny_ready (rs := [1, 3]) (by kernel_rfl) (by simp) ?_
          refine AllReady.cons rfl (fun K hK => ?_) (AllReady.cons rfl (fun K hK => ?_) AllReady.nil)
          · go_simp
            refine hK _ _ ?_
            refine wpAny_ready (rs := [3]) (by kernel_rfl) (by simp) ?_
            refine AllReady.cons rfl (fun K hK => ?_) AllReady.nil
            go_simp
            refine (mquest_any _ p A n c pk bs (HM.out.P.below bl.drew) (HRR.out.below bl.drew) ho HBL.out hn (by omega)).mono ?_
            rw [HX.out]
            rintro e w2 ⟨rfl, hc2⟩
            exact ⟨rfl, HFIN.out w2 hc2⟩
          · go_simp
            refine (mquest_any _ p A n c pk bs (HM.out.P.below bl.drew) (HRR.out.below bl.drew) ho HBL.out hn (by omega)).mono ?_
            rw [HX.out]
            rintro e w2 ⟨rfl, hc2⟩
            exact ⟨rfl, HFIN.out w2 hc2⟩
        | ok r =>
          obtain ⟨x, pk'⟩ := r
          have HX := Lib.hid hx
          have HE2 := Lib.hid (HE.out.trans (restQ_ok hx))
          have HFQ := Lib.hid (dQu_sound hx)
          clear hx
          have hal : acc.length ≤ 513 := by have := HAL.out; omega
          have HAL2 := Lib.hid hal
          obtain ⟨SO, hso, hSO⟩ := HOWN.out
          have HSO : Hid (∀ b, SO b → gn + 1 ≤ b) := hSO
          have HLT := Lib.hid hso.lt
          have hge : gn + 1 ≤ wr.heap.size := (Array.getElem?_eq_some_iff.1 HNR.out).1
          have HGE := Lib.hid hge
          have hown1 : ∀ w2, Chg (fun z => z = p) wr w2 → OwnE encQu 25 SO w2 (gn + 1) (.slice A8 acc.length c8) acc := fun w2 h2 => hso.chg h2 (fun z hz e => by have h1 := (HLT.out z hz).1; have h2 := HPL.out; have h3 := HGN.out; omega) (fun z hz e => by have h1 := HSO.out z hz; have h2 := HPL.out; have h3 := HGN.out; omega)
          have HOW1 := Lib.hid hown1
          clear hal hso hSO hge hown1
          go_upto_region 9 with (fail)
          go_region_law
            (first
              | (go_simp; go_at_call 145; refine (mquest_any _ p A n c pk bs (HM.out.P.below bl.drew) (HRR.out.below bl.drew) ho HBL.out hn (by omega)).mono ?_; rw [HX.out]; rintro e w2 ⟨v2, rfl, ⟨t, rfl, hq2⟩, h2, hc2'⟩; unfold quV; have hc2 : Chg (fun z => z = p) wr w2 := (Chg.refl _ _).drew.trans hc2' (fun _ h => .inl h); have HC2 := Lib.hid hc2; have HP2 := Lib.hid h2; have hrow : encQu.R (geS wr.heap.size w2) w2 [.slice t.A x.name.length t.c, .int .i64 x.type, .int .i64 x.cls] x := quGot_R hq2 HFQ.out; have y8 := hc2.cell e8 (by have h1 := HPL.out; show ¬ w.heap.size = p; omega); have ya8 := below_cell (bl.alloc (Nat.le_refl _) (.cells #[.slice t.A x.name.length t.c, .int .i64 x.type, .int .i64 x.cls] 25)) y8; have hown2 := HOW1.out w2 hc2; have hS3 : ∀ b, geS wr.heap.size w2 b → b < w2.heap.size ∧ some b ≠ (Value.slice A8 acc.length c8).ownBlock := (fun b hb => ⟨hb.2, fun e => by have h1 := (HLT.out b e.symm).2; have h2 := hb.1; omega⟩); clear hq2 h2 hc2')
              | (go_must (refine step_pushE elQu (by rfl) (.tmp 75) (.tmp 78) (by rfl) (gn + 1) (.slice A8 acc.length c8) acc (by rfl) hown2 [.slice t.A x.name.length t.c, .int .i64 x.type, .int .i64 x.cls] x (S' := geS wr.heap.size w2) hrow hS3 (by rfl) (by have := HAL2.out; omega) (by have := HAL2.out; unfold maxLen; omega) (Nat.le_trans HGE.out hc2.size) ?_ (by rfl); intro v5 w5 hown5 hg5 hv5; have hch5 : Chg (fun z => (Value.slice A8 acc.length c8).ownBlock = some z) w2 w5 := (Chg.refl _ _).grown hg5 (fun k hk => .inl hk); have z8 := hch5.cell y8 (fun e => by have h1 : gn + 1 ≤ w.heap.size := (HLT.out _ e).1; have h3 := HGN.out; omega); obtain ⟨A5, c5, rfl, _⟩ := hown5.form; have f8' : w5.frozen? ⟨w.heap.size, 8, none⟩ = false := frozen_of_row _ _ _ _ _ (hch5.heap (hc2.heap HM.out.R (by have h1 := HPL.out; show ¬ w.heap.size = p; omega)) (fun e => by have h1 : gn + 1 ≤ w.heap.size := (HLT.out _ e).1; have h3 := HGN.out; omega))))
              | fail)
          all_goals
            have hM2 := HM.out.num HC2.out HP2.out HPL.out
            have hM5 : MmS w w5 p (.slice A n c) ⟨A8, c8, none, 0, none, 0, none, 0⟩ (msF bs acc [] [] [] ⟨false, 0⟩) pk' := ⟨hch5.heap hM2.R (fun e => by have h1 : gn + 1 ≤ w.heap.size := (HLT.out _ e).1; have h3 := HGN.out; omega), hch5.heap hM2.P (fun e => by have h1 : gn + 1 ≤ p := (HLT.out _ e).1; have h2 := HPL.out; have h3 := HGN.out; omega), hM2.C.trans hch5 (fun z hz => .inr (by have h1 := (HLT.out _ hz).1; have h3 := HGN.out; omega))⟩
            have hlen : (acc ++ [x]).length = acc.length + 1 := by rw [List.length_append, List.length_singleton]
            have hM6 := hM5.put HPL.out 8 (.slice A5 (acc.length + 1) c5) ⟨A5, c5, none, 0, none, 0, none, 0⟩ (msF bs (acc ++ [x]) [] [] [] ⟨false, 0⟩) (by show _ = mCells _ _; unfold mCells msF; simp only [hlen]; rfl)
            have hcu : Chg (fun z => z = w.heap.size) w5 (w5.setCell ⟨w.heap.size, 8, none⟩ (.slice A5 (acc.length + 1) c5)) := chg_g1 _ _ _ _
            have hNR6 : (w5.setCell ⟨w.heap.size, 8, none⟩ (.slice A5 (acc.length + 1) c5)).heap[gn]? = some (.cells #[.int .i64 (N0 : Int), .int .i64 (N1 : Int), .int .i64 (N2 : Int), .int .i64 (N3 : Int)] 3 (0, 0)) := hcu.heap (hch5.heap (HC2.out.heap HNR.out (by have h2 := HPL.out; have h3 := HGN.out; omega)) (fun e => by have h1 : gn + 1 ≤ gn := (HLT.out _ e).1; omega)) (by have h3 := HGN.out; omega)
            have hO6 : NewE encQu 25 (gn + 1) (w5.setCell ⟨w.heap.size, 8, none⟩ (.slice A5 (acc.length + 1) c5)) (.slice A5 (acc ++ [x]).length c5) (acc ++ [x]) := by
              have hS6 : ∀ b, (orS SO (geS wr.heap.size w2)) b → gn + 1 ≤ b := fun z hz => by
                rcases hz with hz | hz
                · exact HSO.out z hz
                · have h1 := hz.1; have h2 := HGE.out; omega
              exact ⟨_, hown5.chg hcu (fun z hz e => by have h1 := (hown5.lt z hz).1; have h3 := HGN.out; omega) (fun z hz e => by have h1 := hS6 z hz; have h3 := HGN.out; omega), hS6⟩
            have hl6 : (acc ++ [x]).length ≤ a + 1 := by rw [hlen]; have := HAL.out; omega
            have HF1 := Lib.hid hM6
            have HF2 := Lib.hid hO6
            have HF3 := Lib.hid hNR6
            have HF4 := Lib.hid hl6
            clear hM2 hM5 hM6 hO6 hNR6 hl6 hcu y8 ya8 z8 f8' e8 f8 hown2 hown5 hrow hS3 hg5 hv5 hlen
            go_wp2
            go_roundw
            case rel => exact ⟨a + 1, b, pk', acc ++ [x], A5, c5, by go_num, by omega, HF1.out, HF2.out, HF3.out, HF4.out, HE2.out⟩
            case measure => simp [intOf]; omega
end Go.Proofs.Ytimkdpkhdbiniaa
