/- Parts of a proof, joined: Cut4, Law07F. -/
import Derived.Test.YtmkfjddighabcaaM27
import Derived.Test.YtmkfjddighabcaaM31
import Derived.Test.YtmkfjddighabcaaM28
import Derived.Test.YtmkfjddighabcaaM02
/- The reference's Fit. -/
namespace Go.Proofs.Ytmkfjddighabcaa
open Go.RowKit
set_option maxRecDepth 100000
set_option linter.unusedVariables false

theorem sameNT_refl (x : RR) : sameNT x x = true := by unfold sameNT; simp
theorem lastK_self {l : List RR} {x : RR} {k : Nat} (h : l[k]? = some x) : lastK l x (k + 1) = lastK l x k := lastK_go h (sameNT_refl x)

theorem keep_cells11 (s : MS) (m : Ms) (k : Nat) (h : m.ex.length = k + 1) : (mCells s m).setIfInBounds 11 (.slice s.X k s.xc) = mCells s { m with ex := m.ex.take k } := by
  have hlen : (m.ex.take k).length = k := by rw [List.length_take]; omega
  show _ = mCells _ _
  unfold mCells
  simp only [hlen]
  rfl
theorem keep_cells10 (s : MS) (m : Ms) (k : Nat) (h : m.au.length = k + 1) : (mCells s { m with tc := true }).setIfInBounds 10 (.slice s.U k s.uc) = mCells s { m with tc := true, au := m.au.take k } := by
  have hlen : (m.au.take k).length = k := by rw [List.length_take]; omega
  show _ = mCells _ _
  unfold mCells
  simp only [hlen]
  rfl
theorem keep_cells9 (s : MS) (m : Ms) (k : Nat) (h : k ≤ m.an.length) : (mCells s { m with tc := true }).setIfInBounds 9 (.slice s.A k s.ac) = mCells s { m with tc := true, an := m.an.take k } := by
  have hlen : (m.an.take k).length = k := by rw [List.length_take]; omega
  show _ = mCells _ _
  unfold mCells
  simp only [hlen]
  rfl

set_option maxHeartbeats 16000000 in
theorem rFit_any (s : MS) (m : Ms) (size : Int) (w : World) {S : Nat → Prop} (h : MIn S w s m) (hS : ∀ b, S b → b < w.heap.size) (hL : LtM m) (hb : bytesM m ≤ 200000) :
    Calls Try.prog 32 #[msV s m, .int .i64 size] w (RetP (fun v w' => ∃ bv, v = .tuple #[bv, .int .i64 (fitP m size).2] ∧ RdSl w' bv (fitP m size).1) w) := by
  obtain ⟨w1, hw1⟩ : ∃ w1, w1 = w.alloc (.cells (mCells s m) 25) := ⟨_, rfl⟩
  have hb1 : Below w.heap.size w w1 := by rw [hw1]; exact bl.alloc (Nat.le_refl _) _
  have HR1 : Hid (MRow w1 w.heap.size s m) := by show MRow _ _ _ _; rw [hw1]; exact MRow.made w s m
  have HB1 := Lib.hid hb1
  have HI1 := Lib.hid (h.below hb1 hS)
  have HSQ : Hid (∀ b, S b → b < w.heap.size) := hS
  have hS1 : ∀ b, S b → b < w1.heap.size := fun b hb => Nat.lt_of_lt_of_le (hS b hb) hb1.size
  have HSND := Lib.hid (rMsg_any s m w1 HI1.out hS1 hL)
  have HBY := Lib.hid hb
  have HNIL : Hid (∀ w', RdSl w' (.slice none 0 0) []) := fun w' => ⟨none, 0, rfl, Rd.nil _ _ _, Nat.le_refl _, by unfold maxLen; omega⟩
  obtain ⟨z0, z1, z2, z3, z4, z5, z6, z7, z8, z9, z10, z11, z12, z13⟩ := HR1.out.cells
  unfold msV mCells at HSND
  unfold msV
  unfold mCells at hw1 ⊢
  clear h hS hb1 hL hb hS1
  by_cases hz1 : size < 512
  · have HF : Hid (fitP m size = ([], 1)) := by show _ = _; unfold fitP; rw [if_pos (.inl hz1)]
    clear HSND
    go_enter Try.func32, Try.ntmps32
    go_upto_region 1 with (fail)
    rw [← hw1]
    clear hw1
    go_wp2
    go_ret2
    exact ⟨_, rfl, ⟨_, (by rw [HF.out]; rfl), by rw [HF.out]; exact HNIL.out _⟩, HB1.out⟩
  by_cases hz2 : 65535 < size
  · have HF : Hid (fitP m size = ([], 1)) := by show _ = _; unfold fitP; rw [if_pos (.inr hz2)]
    clear HSND
    go_enter Try.func32, Try.ntmps32
    go_upto_region 1 with (fail)
    rw [← hw1]
    clear hw1
    go_wp2
    go_ret2
    exact ⟨_, rfl, ⟨_, (by rw [HF.out]; rfl), by rw [HF.out]; exact HNIL.out _⟩, HB1.out⟩
  cases hf : fineM m with
  | false =>
    have HF : Hid (fitP m size = ([], 2)) := by show _ = _; unfold fitP; rw [if_neg (by omega), hf]; rfl
    rw [hf] at HSND
    clear hf
    go_enter Try.func32, Try.ntmps32
    go_upto_region 1 with (fail)
    rw [← hw1]
    clear hw1
    go_wp2_with (first
      | (go_at_call 22; refine HSND.out.mono ?_; rintro e w2 ⟨v2, rfl, rfl, hb2⟩)
      | fail)
    go_ret2
    exact ⟨_, rfl, ⟨_, (by rw [HF.out]; rfl), by rw [HF.out]; exact HNIL.out _⟩, nx HB1.out hb2⟩
  | true =>
    have HF : Hid (fitP m size = cutM size m) := by show _ = _; unfold fitP; rw [if_neg (by omega), if_pos hf]
    have HFM := Lib.hid (fineM_iff.1 hf)
    rw [hf] at HSND
    clear hf
    go_enter Try.func32, Try.ntmps32
    go_upto_region 1 with (fail)
    rw [← hw1]
    clear hw1
    generalize hq : w.heap.size = q at HR1 ⊢
    have HQ := Lib.hid hq
    clear hq z0 z1 z2 z3 z4 z5 z6 z7 z8 z9 z10 z11 z12 z13
    obtain ⟨z0, z1, z2, z3, z4, z5, z6, z7, z8, z9, z10, z11, z12, z13⟩ := HR1.out.cells
    go_wp2_with (first
      | (go_at_call 22; refine HSND.out.mono ?_; rintro e w2 ⟨v2, rfl, rfl, hb2⟩; have HB2 := Lib.hid hb2; clear hb2)
      | fail)
    go_loopw [6] (fun bv wr => ∃ (s' : MS) (m' : Ms), Hid (MRow wr q s' m') ∧ Hid (MIn S wr s' m') ∧ Hid (FineM m') ∧ Hid (bytesM m' ≤ 200000) ∧ Hid (Below w.heap.size w wr) ∧ Hid (cutM size m = cutM size m')) (fun _ wr => cntW q wr)
    case atStart => exact ⟨s, m, HR1.out.below HB2.out, HI1.out.below HB2.out (fun b hb => Nat.lt_of_lt_of_le (HSQ.out b hb) HB1.out.size), HFM.out, HBY.out, nx HB1.out HB2.out, rfl⟩
    case round =>
      clear z0 z1 z2 z3 z4 z5 z6 z7 z8 z9 z10 z11 z12 z13 HR1 HI1 HSND HB2 HB1 HFM HBY
      obtain ⟨s', m', HR, HI, HFM, HBY, HB, HE⟩ := hrel
      have HSR : Hid (∀ b, S b → b < wr.heap.size) := fun b hb => Nat.lt_of_lt_of_le (HSQ.out b hb) HB.out.size
      have HRAW : Hid (Calls Try.prog 61 #[msV s' m'] wr (RetP (fun v w' => RdSl w' v (msW m').b) wr)) := by
        have h := rRaw_any s' m' wr HI.out HSR.out HFM.out HBY.out
        rw [ms_bytes HFM.out] at h
        exact h
      have htot := HFM.out.tot
      unfold totM at htot
      obtain ⟨z0, z1, z2, z3, z4, z5, z6, z7, z8, z9, z10, z11, z12, z13⟩ := HR.out.cells
      unfold msV mCells at HRAW
      obtain ⟨n, hn⟩ : ∃ n, n = (msW m').b.length := ⟨_, rfl⟩
      have HN := Lib.hid hn
      have HCN := Lib.hid (cntW_eq HR.out)
      by_cases hfit : (n : Int) ≤ size
      · have HC := Lib.hid (HE.out.trans (cutM_fits (by rw [← HN.out]; exact hfit)))
        clear hn
        go_wp2_with (first
          | (go_at_call 61; refine HRAW.out.mono ?_; rintro e w3 ⟨v3, rfl, ho3, hb3⟩; have HO3 := Lib.hid ho3; obtain ⟨A3, c3, hv3, _, _, _⟩ := ho3; rw [← HN.out] at hv3; subst hv3; have HB3 := Lib.hid (nx HB.out hb3); clear hb3)
          | fail)
        go_ret2
        exact ⟨_, rfl, ⟨_, (by rw [HF.out, HC.out]; rfl), by rw [HF.out, HC.out]; exact HO3.out⟩, HB3.out⟩
      · have hnf : ¬ ((msW m').b.length : Int) ≤ size := by rw [← HN.out]; exact hfit
        have HCL : Hid (∀ m2, lessM m' = some m2 → cutM size m' = cutM size m2) := fun m2 h => cutM_less hnf h
        have HCN0 : Hid (lessM m' = none → cutM size m' = ([], 4)) := fun h => cutM_none hnf h
        have HFL : Hid (∀ m2, lessM m' = some m2 → FineM m2 ∧ bytesM m2 ≤ 200000) := fun m2 h => ⟨(lessM_fine HFM.out h).1, Nat.le_trans (lessM_fine HFM.out h).2 HBY.out⟩
        have HFC : Hid (∀ m2, lessM m' = some m2 → cntM m2 < cntM m') := fun m2 h => lessM_cnt h
        clear hn hnf
        go_upto_region 8 with (first
          | (go_at_call 61; refine HRAW.out.mono ?_; rintro e w3 ⟨v3, rfl, ho3, hb3⟩; obtain ⟨A3, c3, hv3, _, _, _⟩ := ho3; rw [← HN.out] at hv3; subst hv3; have HB3 := Lib.hid hb3; clear hb3)
          | fail)
        clear z0 z1 z2 z3 z4 z5 z6 z7 z8 z9 z10 z11 z12 z13 hfit
        have HR3 := Lib.hid (HR.out.below HB3.out)
        have HI3 := Lib.hid (HI.out.below HB3.out HSR.out)
        have HBW := Lib.hid (nx HB.out HB3.out)
        have HS3 : Hid (∀ b, S b → b < w3.heap.size ∧ b ≠ q) := fun b hb => ⟨Nat.lt_of_lt_of_le (HSR.out b hb) HB3.out.size, fun e => by have h1 := HSQ.out b hb; have h2 := HQ.out; omega⟩
        have HBQ : Hid (∀ u, Chg (fun z => z = q) w3 u → Below w.heap.size w u) := fun u hu => HBW.out.trans (hu.below (fun z hz => by rw [hz, HQ.out]; exact Nat.le_refl _) HBW.out.size)
        obtain ⟨_, _, _, _, z4, _, _, _, _, z9, z10, z11, _, _⟩ := HR3.out.cells
        have ff := HR3.out.free
        clear HR HI HB3 HRAW
        by_cases h0 : m'.ex.length = 0
        rotate_left
        · obtain ⟨k, hk⟩ : ∃ k, m'.ex.length = k + 1 := ⟨m'.ex.length - 1, by omega⟩
          have HL := Lib.hid (lessM_ex hk)
          have hcap := HI3.out.cx.1
          rw [hk] at z11 hcap
          have hkc : k ≤ s'.xc := by omega
          have hkc2 : (k : Int) ≤ (s'.xc : Int) := by omega
          have hk0 : (0 : Int) < (k : Int) + 1 := by omega
          have hk5 : k ≤ 512 := by omega
          have HK := Lib.hid hk
          clear h0 hk htot z4 z9 z10
          go_wp2
          have hR' : MRow (w3.setCell ⟨q, 11, none⟩ (.slice s'.X k s'.xc)) q s' { m' with ex := m'.ex.take k } := HR3.out.put 11 _ _ _ (keep_cells11 s' m' k HK.out)
          have hc : Chg (fun z => z = q) w3 (w3.setCell ⟨q, 11, none⟩ (.slice s'.X k s'.xc)) := chg_g1 _ _ _ _
          have h1 := HI3.out.chg hc (fun b hb => HS3.out b hb)
          have hlen : (m'.ex.take k).length = k := by rw [List.length_take]; have := HK.out; omega
          have hI' : MIn S (w3.setCell ⟨q, 11, none⟩ (.slice s'.X k s'.xc)) s' { m' with ex := m'.ex.take k } := by
            refine ⟨h1.q, h1.a, h1.u, ?_, h1.cq, h1.ca, h1.cu, ?_, h1.ii, h1.io, h1.ir, h1.is⟩
            · show Els encRR S S _ s'.X (m'.ex.take k).length (m'.ex.take k)
              rw [hlen]
              exact h1.x.take (by have := HK.out; omega)
            · show (m'.ex.take k).length ≤ s'.xc ∧ s'.xc ≤ maxLen
              rw [hlen]
              exact ⟨hkc, h1.cx.2⟩
          have HR' := Lib.hid hR'
          have HI' := Lib.hid hI'
          have HCC := Lib.hid hc
          clear hR' hI' hc h1 hlen
          go_roundw
          case rel => exact ⟨_, _, HR'.out, HI'.out, (HFL.out _ HL.out).1, (HFL.out _ HL.out).2, HBQ.out _ HCC.out, HE.out.trans (HCL.out _ HL.out)⟩
          case measure =>
            rw [cntW_eq HR'.out, HCN.out]
            exact HFC.out _ HL.out
        · rw [h0] at z11
          obtain ⟨w4, hw4⟩ : ∃ u, u = w3.setCell ⟨q, 4, none⟩ (.bool true) := ⟨_, rfl⟩
          have hR4 : MRow w4 q s' { m' with tc := true } := by rw [hw4]; exact HR3.out.put 4 _ _ _ rfl
          have hc4 : Chg (fun z => z = q) w3 w4 := by rw [hw4]; exact chg_g1 _ _ _ _
          have HR4 := Lib.hid hR4
          have HC4 := Lib.hid hc4
          have HI4 := Lib.hid (HI3.out.chg hc4 (fun b hb => HS3.out b hb))
          have HS4 : Hid (∀ b, S b → b < w4.heap.size) := fun b hb => Nat.lt_of_lt_of_le (HS3.out b hb).1 hc4.size
          have x9 : w4.cell? ⟨q, 9, none⟩ = some (.slice s'.A m'.an.length s'.ac) := hR4.cell 9
          have x10 : w4.cell? ⟨q, 10, none⟩ = some (.slice s'.U m'.au.length s'.uc) := hR4.cell 10
          have gg := hR4.free
          go_upto_region 11 with (fail)
          rw [← hw4]
          clear hR4 hc4 hw4 z4 z9 z10 z11 ff
          by_cases h1 : m'.au.length = 0
          rotate_left
          · obtain ⟨k, hk⟩ : ∃ k, m'.au.length = k + 1 := ⟨m'.au.length - 1, by omega⟩
            have HL := Lib.hid (lessM_au h0 hk)
            have hcap := HI3.out.cu.1
            rw [hk] at x10 hcap
            have hkc : k ≤ s'.uc := by omega
            have hkc2 : (k : Int) ≤ (s'.uc : Int) := by omega
            have hk0 : (0 : Int) < (k : Int) + 1 := by omega
            have hk5 : k ≤ 512 := by omega
            have HK := Lib.hid hk
            clear h0 h1 hk htot x9
            go_wp2
            have HR' : Hid (MRow (w4.setCell ⟨q, 10, none⟩ (.slice s'.U k s'.uc)) q s' { m' with tc := true, au := m'.au.take k }) := HR4.out.put 10 _ _ _ (keep_cells10 s' m' k HK.out)
            have hc : Chg (fun z => z = q) w3 (w4.setCell ⟨q, 10, none⟩ (.slice s'.U k s'.uc)) := HC4.out.trans (chg_g1 _ _ _ _) (fun _ h => .inl h)
            have h1 := HI3.out.chg hc (fun b hb => HS3.out b hb)
            have hlen : (m'.au.take k).length = k := by rw [List.length_take]; have := HK.out; omega
            have HI' : Hid (MIn S (w4.setCell ⟨q, 10, none⟩ (.slice s'.U k s'.uc)) s' { m' with tc := true, au := m'.au.take k }) := by
              refine ⟨h1.q, h1.a, ?_, h1.x, h1.cq, h1.ca, ?_, h1.cx, h1.ii, h1.io, h1.ir, h1.is⟩
              · show Els encRR S S _ s'.U (m'.au.take k).length (m'.au.take k)
                rw [hlen]
                exact h1.u.take (by have := HK.out; omega)
              · show (m'.au.take k).length ≤ s'.uc ∧ s'.uc ≤ maxLen
                rw [hlen]
                exact ⟨hkc, h1.cu.2⟩
            have HCC := Lib.hid hc
            clear hc h1 hlen
            go_roundw
            case rel => exact ⟨_, _, HR'.out, HI'.out, (HFL.out _ HL.out).1, (HFL.out _ HL.out).2, HBQ.out _ HCC.out, HE.out.trans (HCL.out _ HL.out)⟩
            case measure =>
              rw [cntW_eq HR'.out, HCN.out]
              exact HFC.out _ HL.out
          · rw [h1] at x10
            by_cases h2 : m'.an.length = 0
            · have HC := Lib.hid (HE.out.trans (HCN0.out (lessM_no h0 h1 h2)))
              rw [h2] at x9
              clear h0 h1 h2 htot
              go_wp2
              go_ret2
              exact ⟨_, rfl, ⟨_, (by rw [HF.out, HC.out]; rfl), by rw [HF.out, HC.out]; exact HNIL.out _⟩, HBQ.out _ HC4.out⟩
            · obtain ⟨k, hk⟩ : ∃ k, m'.an.length = k + 1 := ⟨m'.an.length - 1, by omega⟩
              obtain ⟨x, hxx⟩ : ∃ x, m'.an[k]? = some x := ⟨_, List.getElem?_eq_getElem (by omega)⟩
              have HL := Lib.hid (lessM_an h0 h1 hk hxx)
              have HSELF := Lib.hid (lastK_self hxx)
              have hcap := HI3.out.ca.1
              have hlk := lastK_le m'.an x k
              have HEL : Hid (Els encRR S S w4 s'.A (k + 1) m'.an) := by have h := HI4.out.a; rw [hk] at h; exact h
              rw [hk] at x9 hcap
              obtain ⟨g, off, t, hA, hg, hri, hrc⟩ := rr_at HEL.out hxx
              rw [hA] at x9 HEL
              have HA := Lib.hid hA
              have HRX := Lib.hid hri
              obtain ⟨e0, e1, e2, e3, e4, e5, e6, e7, e8⟩ := hrc
              have hk0 : ¬ (k : Int) + 1 = 0 := by omega
              have hk0b : ((k : Int) + 1 == 0) = false := by simp; omega
              have hk5 : k ≤ 512 := by omega
              have hkn : (k : Int) < (k : Int) + 1 := by omega
              have hkn2 : k < k + 1 := by omega
              have HK := Lib.hid hk
              have HXX := Lib.hid hxx
              obtain ⟨w5, hw5⟩ : ∃ u, u = w4.alloc (.cells (rrCells t x) 44) := ⟨_, rfl⟩
              have hb5 : Below w4.heap.size w4 w5 := by rw [hw5]; exact bl.alloc (Nat.le_refl _) _
              have HRR5 : Hid (RRow w5 w4.heap.size t x) := by show RRow _ _ _ _; rw [hw5]; exact heap_alloc_new w4 _
              have HB5 := Lib.hid hb5
              unfold rrCells at hw5
              clear h0 h1 h2 hk htot hxx hA hri hg hb5
              go_upto_region 17 with (fail)
              rw [← hw5]
              clear hw5 e0 e1 e2 e3 e4 e5 e6 e7 e8 x9 x10 gg
              have HB45 : Hid (∀ u, Below w5.heap.size w5 u → Below w4.heap.size w4 u) := fun u hu => nx HB5.out hu
              have HQ9 : Hid (∀ u, Below w5.heap.size w5 u → u.cell? ⟨q, 9, none⟩ = some (.slice (some ⟨g, off, none⟩) (k + 1) s'.ac)) := fun u hu => by
                have h1 : u.cell? ⟨q, 9, none⟩ = some (.slice s'.A m'.an.length s'.ac) := (HR4.out.below (HB45.out u hu)).cell 9
                rw [HK.out, HA.out] at h1
                exact h1
              have HFR : Hid (∀ u, Below w5.heap.size w5 u → ∀ j, u.frozen? ⟨q, j, none⟩ = false) := fun u hu => (HR4.out.below (HB45.out u hu)).free
              have HFIN : Hid (∀ (b : Nat) (u : World), b ≤ k + 1 → Below w5.heap.size w5 u → MRow (u.setCell ⟨q, 9, none⟩ (.slice (some ⟨g, off, none⟩) b s'.ac)) q s' { m' with tc := true, an := m'.an.take b } ∧ MIn S (u.setCell ⟨q, 9, none⟩ (.slice (some ⟨g, off, none⟩) b s'.ac)) s' { m' with tc := true, an := m'.an.take b } ∧ Chg (fun z => z = q) w3 (u.setCell ⟨q, 9, none⟩ (.slice (some ⟨g, off, none⟩) b s'.ac))) := fun b u hbk hu => by
                rw [← HA.out]
                have hc : Chg (fun z => z = q) w3 (u.setCell ⟨q, 9, none⟩ (.slice s'.A b s'.ac)) := (HC4.out.nx (HB45.out u hu)).trans (chg_g1 _ _ _ _) (fun _ h => .inl h)
                have h1 := HI3.out.chg hc (fun b hb => HS3.out b hb)
                have hlen : (m'.an.take b).length = b := by rw [List.length_take]; have := HK.out; omega
                refine ⟨(HR4.out.below (HB45.out u hu)).put 9 _ _ _ (keep_cells9 s' m' b (by have := HK.out; omega)), ⟨h1.q, ?_, h1.u, h1.x, h1.cq, ?_, h1.cu, h1.cx, h1.ii, h1.io, h1.ir, h1.is⟩, hc⟩
                · show Els encRR S S _ s'.A (m'.an.take b).length (m'.an.take b)
                  rw [hlen]
                  exact h1.a.take (by have := HK.out; omega)
                · show (m'.an.take b).length ≤ s'.ac ∧ s'.ac ≤ maxLen
                  rw [hlen]
                  exact ⟨by have h2 := h1.ca.1; have h3 := HK.out; omega, h1.ca.2⟩
              generalize w4.heap.size = gx at HRR5 ⊢
              go_loopw [7] (fun i wi => ∃ b : Nat, i = .int .i64 (b : Int) ∧ b ≤ k + 1 ∧ Hid (lastK m'.an x (k + 1) = lastK m'.an x b) ∧ Hid (Below w5.heap.size w5 wi)) (fun i _ => (intOf i).toNat)
              case atStart => exact ⟨k + 1, by show Value.int _ _ = Value.int _ _; congr 1, Nat.le_refl _, rfl, bl⟩
              case round =>
                obtain ⟨b, rfl, hbk, HLK, HBI⟩ := hrel
                rcases b with _ | b
                · have HLB : Hid (lessM m' = some { m' with tc := true, an := m'.an.take 0 }) := by show _ = _; rw [HL.out, ← HSELF.out, HLK.out]; rfl
                  have hb0 : decide ((0 : Int) < ((0 : Nat) : Int)) = false := by decide
                  have y9 := HQ9.out wr HBI.out
                  have gg := HFR.out wr HBI.out
                  rw [show ((0 : Nat) : Int) = 0 from rfl]
                  go_wp2
                  go_quiet (fail)
                  go_wp2
                  have hf0 := HFIN.out 0 _ (by omega) (dN HBI.out nq)
                  have HF1 := Lib.hid hf0.1
                  have HF2 := Lib.hid hf0.2.1
                  have HF3 := Lib.hid hf0.2.2
                  clear hf0
                  go_roundw
                  case rel => exact ⟨_, _, HF1.out, HF2.out, (HFL.out _ HLB.out).1, (HFL.out _ HLB.out).2, HBQ.out _ HF3.out, HE.out.trans (HCL.out _ HLB.out)⟩
                  case measure =>
                    rw [cntW_eq HF1.out, HCN.out]
                    exact HFC.out _ HLB.out
                · obtain ⟨r, hr⟩ : ∃ r, m'.an[b]? = some r := ⟨_, List.getElem?_eq_getElem (by rw [HK.out]; omega)⟩
                  obtain ⟨g', off', tr, he, _, hri, hrc⟩ := rr_at HEL.out hr
                  injection he with he
                  injection he with he1 he2
                  subst he1 he2
                  have HBI4 : Hid (Below w4.heap.size w4 wr) := HB45.out wr HBI.out
                  have HRR := Lib.hid (hri.below HBI4.out HS4.out)
                  have HRX2 := Lib.hid (HRX.out.below HBI4.out HS4.out)
                  have HSW : Hid (∀ b, S b → b < wr.heap.size) := fun b hb => Nat.lt_of_lt_of_le (HS4.out b hb) HBI4.out.size
                  obtain ⟨d0, d1, _⟩ := hrc.below HBI4.out
                  have y9 := HQ9.out wr HBI.out
                  have gg := HFR.out wr HBI.out
                  have hxr := HRR5.out.below HBI.out
                  have x0 : wr.cell? ⟨gx, 0, none⟩ = some (.slice t.A x.name.length t.c) := hxr.cell 0
                  have x1 : wr.cell? ⟨gx, 1, none⟩ = some (.int .i64 x.type) := hxr.cell 1
                  have HR := Lib.hid hr
                  have hb1 : (0 : Int) < (b : Int) + 1 := by omega
                  have hbd : decide ((0 : Int) < (b : Int) + 1) = true := decide_eq_true hb1
                  have hbn : b < k + 1 := by omega
                  have hbi : (b : Int) < (k : Int) + 1 := by omega
                  have hb0 : (0 : Int) ≤ (b : Int) := by omega
                  have htb1 : (b : Int).toNat = b := by omega
                  clear hr hri hrc hxr
                  by_cases hty : r.type = x.type
                  rotate_left
                  · have hst : sameNT r x = false := by unfold sameNT; simp [hty]
                    have HLB : Hid (lessM m' = some { m' with tc := true, an := m'.an.take (b + 1) }) := by show _ = _; rw [HL.out, ← HSELF.out, HLK.out, lastK_stop HR.out hst]
                    have htb : (r.type == x.type) = false := by simp [hty]
                    clear hst hty
                    go_wp2
                    go_quiet (fail)
                    go_wp2
                    have hf0 := HFIN.out (b + 1) _ (by omega) (dN HBI.out nq)
                    have HF1 := Lib.hid hf0.1
                    have HF2 := Lib.hid hf0.2.1
                    have HF3 := Lib.hid hf0.2.2
                    clear hf0
                    go_roundw
                    case rel => exact ⟨_, _, HF1.out, HF2.out, (HFL.out _ HLB.out).1, (HFL.out _ HLB.out).2, HBQ.out _ HF3.out, HE.out.trans (HCL.out _ HLB.out)⟩
                    case measure =>
                      rw [cntW_eq HF1.out, HCN.out]
                      exact HFC.out _ HLB.out
                  · have htb : (r.type == x.type) = true := by simp [hty]
                    have hw1 : IntKind.i64.wrap (b : Int) = (b : Int) := by rw [IntKind.wrap_i64]; omega
                    have hw3 : wrap64 (b : Int) = (b : Int) := by unfold wrap64; omega
                    have q0 : ∀ w', Below wr.heap.size wr w' → (w'.cell? ⟨q, 9, none⟩ = some (.slice (some ⟨g, off, none⟩) (k + 1) s'.ac) ∧ w'.cell? ⟨gx, 1, none⟩ = some (.int .i64 x.type) ∧ w'.cell? ⟨gx, 0, none⟩ = some (.slice t.A x.name.length t.c) ∧ w'.cell? ⟨g, off + b * 9 + 1, none⟩ = some (.int .i64 r.type) ∧ w'.cell? ⟨g, off + b * 9, none⟩ = some (.slice tr.A r.name.length tr.c)) := fun w' hb => ⟨below_cell hb y9, below_cell hb x1, below_cell hb x0, below_cell hb d1, below_cell hb d0⟩
                    have q1 := q0 wr bl
                    have q2 := q0 wr.drew bl.drew
                    have HQQ := Lib.hid q0
                    obtain ⟨bn, hbn2⟩ : ∃ bn, bn = decide (lowN r.name = lowN x.name) := ⟨_, rfl⟩
                    have HBN := Lib.hid hbn2
                    have HTY := Lib.hid hty
                    have HNR : Hid (RdE encS wr tr.A r.name.length r.name) := HRR.out.n.mono HSW.out HSW.out
                    have HNX : Hid (RdE encS wr t.A x.name.length x.name) := HRX2.out.n.mono HSW.out HSW.out
                    clear q0 y9 x0 x1 d0 d1 gg hbn2 hty
                    go_wp2
                    go_region_held3 (fun w' => w'.cell? ⟨q, 9, none⟩ = some (.slice (some ⟨g, off, none⟩) (k + 1) s'.ac) ∧ w'.cell? ⟨gx, 1, none⟩ = some (.int .i64 x.type) ∧ w'.cell? ⟨gx, 0, none⟩ = some (.slice t.A x.name.length t.c) ∧ w'.cell? ⟨g, off + b * 9 + 1, none⟩ = some (.int .i64 r.type) ∧ w'.cell? ⟨g, off + b * 9, none⟩ = some (.slice tr.A r.name.length tr.c))
                      (first
                        | with_reducible exact q1
                        | with_reducible exact q2
                        | with_reducible exact q3
                        | fail)
                      (first
                        | (go_at_call 34; go_must (refine (requal_any tr.A t.A r.name.length tr.c x.name.length t.c r.name x.name wr.drew (RdE.below HNR.out bl.drew) (RdE.below HNX.out bl.drew) (Nat.le_trans HRR.out.cn.1 HRR.out.cn.2) (Nat.le_trans HRX2.out.cn.1 HRX2.out.cn.2)).mono ?_; rw [← HBN.out]; rintro e w7 ⟨v7, rfl, rfl, hb7⟩; have q3 := HQQ.out w7 (bl.drew.trans hb7)))
                        | fail)
                    have HB7 := Lib.hid (nx HBI.out (bl.drew.trans hb7))
                    have y9 := q3.1
                    have gg := HFR.out w7 HB7.out
                    clear q1 q2 q3 hw1 hw3
                    cases bn with
                    | false =>
                      have hst : sameNT r x = false := by unfold sameNT; rw [← HBN.out]; simp
                      have HLB : Hid (lessM m' = some { m' with tc := true, an := m'.an.take (b + 1) }) := by show _ = _; rw [HL.out, ← HSELF.out, HLK.out, lastK_stop HR.out hst]
                      clear hst
                      go_wp2
                      have hf0 := HFIN.out (b + 1) _ (by omega) (HB7.out)
                      have HF1 := Lib.hid hf0.1
                      have HF2 := Lib.hid hf0.2.1
                      have HF3 := Lib.hid hf0.2.2
                      clear hf0
                      go_roundw
                      case rel => exact ⟨_, _, HF1.out, HF2.out, (HFL.out _ HLB.out).1, (HFL.out _ HLB.out).2, HBQ.out _ HF3.out, HE.out.trans (HCL.out _ HLB.out)⟩
                      case measure =>
                        rw [cntW_eq HF1.out, HCN.out]
                        exact HFC.out _ HLB.out
                    | true =>
                      have hst : sameNT r x = true := by unfold sameNT; rw [← HBN.out, HTY.out]; simp
                      have HK2 := Lib.hid (HLK.out.trans (lastK_go HR.out hst))
                      clear hst
                      go_wp2
                      go_roundw
                      case rel => exact ⟨b, by go_num, by omega, HK2.out, HB7.out⟩
                      case measure => simp [intOf]
end Go.Proofs.Ytmkfjddighabcaa

/- CutFits: the law's walk. -/
namespace Go.Proofs.Ytmkfjddighabcaa
open Go.RowKit
set_option maxRecDepth 100000
set_option linter.unusedVariables false

theorem bytesL_mem7 {l : List RR} {r : RR} (h : r ∈ l) : r.data.bytes.length ≤ bytesL l := by
  obtain ⟨k, hk⟩ := List.mem_iff_getElem?.1 h
  have h1 := bytesL_succ hk
  have h2 := bytesL_take l (k + 1)
  omega
theorem LtMsg6.ltM7 {m : Ms} (h : LtMsg6 m) : LtM m := by
  have hl : m.an.length + m.au.length + m.ex.length ≤ 600 := by have := h.all; rw [List.length_append, List.length_append] at this; exact this
  have hsub : ∀ j, ∀ x ∈ secL m j, x ∈ m.an ++ m.au ++ m.ex := fun j x hx => by
    match j, hx with
    | 0, hx => exact List.mem_append_left _ (List.mem_append_left _ hx)
    | 1, hx => exact List.mem_append_left _ (List.mem_append_right _ hx)
    | n + 2, hx => exact List.mem_append_right _ hx
  refine ⟨by have := h.qs; omega, fun j => ?_, fun x hx => by have := h.q x hx; omega, fun j x hx => ?_⟩
  · match j with
    | 0 => show m.an.length ≤ _; omega
    | 1 => show m.au.length ≤ _; omega
    | n + 2 => show m.ex.length ≤ _; omega
  · obtain ⟨h1, h2, h3, h4, h5⟩ := h.r x (hsub j x hx)
    have h6 := bytesL_mem7 (hsub j x hx)
    have h7 := h.b
    rw [bytesM_all6] at h7
    exact ⟨⟨by omega, by omega, by omega, by omega, by omega⟩, by omega⟩
theorem LtMsg7.lt6 {m : Ms} (h : LtMsg7 m) : LtMsg6 m := ⟨Nat.le_trans h.all (by omega), Nat.le_trans h.qs (by omega), h.r, h.q, h.b⟩
theorem LtMsg7.bytes {m : Ms} (h : LtMsg7 m) : bytesM m ≤ 200000 := by have := h.b; omega
set_option maxHeartbeats 8000000 in
theorem cutFits_heavy (s : MS) (m : Ms) (sz : Int) (w : World) (h : MIn (ltS w) w s m) (hq : m.qs.length ≤ 1048576) (hlen : (m.an.length + m.au.length + m.ex.length) * 168 ≤ 140737488355328) (hby : ∀ r ∈ m.an ++ m.au ++ m.ex, r.data.bytes.length ≤ 140737488355328) (hlt : ¬ LtMsg7 m) :
    Calls Try.prog 9 #[msV s m, .int .i64 sz] w (LawT w) := by
  obtain ⟨w1, hw1⟩ : ∃ w1, w1 = w.alloc (.cells (mCells s m) 25) := ⟨_, rfl⟩
  have hb1 : Below w.heap.size w w1 := by rw [hw1]; exact bl.alloc (Nat.le_refl _) _
  have HR1 : Hid (MRow w1 w.heap.size s m) := by show MRow _ _ _ _; rw [hw1]; exact MRow.made w s m
  have HB1 := Lib.hid hb1
  have HIW : Hid (∀ w', Below w1.heap.size w1 w' → MIn (ltS w) w' s m) := fun w' hw => (h.below hb1 (fun b hb => hb)).below hw (fun b hb => Nat.lt_of_lt_of_le hb hb1.size)
  have HSW : Hid (∀ w', Below w1.heap.size w1 w' → ∀ b, ltS w b → b < w'.heap.size) := fun w' hw b hb => Nat.lt_of_lt_of_le (Nat.lt_of_lt_of_le hb hb1.size) hw.size
  have HK : Hid (∀ w', Below w1.heap.size w1 w' → MCells w' w.heap.size s m) := fun w' hw => (HR1.out.below hw).cells
  have HLT := Lib.hid (fun w2 (hw : Below w1.heap.size w1 w2) => light07_any s m w2 (HIW.out w2 hw) (HSW.out w2 hw) (by omega) hlen hby)
  have HNO := Lib.hid (ltM7_no hlt)
  unfold msV mCells at HLT
  unfold msV
  unfold mCells at hw1 ⊢
  clear h hb1 hlt hq hlen hby
  rw [HNO.out] at HLT
  go_enter Try.func9, Try.ntmps9
  go_upto_region 1 with (fail)
  rw [← hw1]
  clear hw1
  go_wp2_with (first
    | (go_at_call 29; refine (answers07_any w3).mono ?_; rintro e w4 ⟨rfl, hb4⟩)
    | (go_at_call 30; refine (HLT.out w2 hb2).mono ?_; rintro e w3 ⟨v3, rfl, rfl, hb3⟩; have HB3 := Lib.hid (nx hb2 hb3); obtain ⟨z0, z1, z2, z3, z4, z5, z6, z7, z8, z9, z10, z11, z12, z13⟩ := HK.out w3 HB3.out)
    | (go_at_call 29; refine (answers07_any w1).mono ?_; rintro e w2 ⟨rfl, hb2⟩; obtain ⟨z0, z1, z2, z3, z4, z5, z6, z7, z8, z9, z10, z11, z12, z13⟩ := HK.out w2 hb2)
    | fail)
  go_ret
  exact ⟨rfl, nx (nx HB1.out HB3.out) hb4⟩
theorem fitP_len (m : Ms) (sz : Int) : (fitP m sz).1.length ≤ 65535 := by
  by_cases h1 : sz < 512 ∨ 65535 < sz
  · unfold fitP; rw [if_pos h1]; show 0 ≤ _; omega
  · cases hf : fineM m with
    | false => unfold fitP; rw [if_neg h1, hf]; show 0 ≤ _; omega
    | true =>
      rw [fitP_T (fineM_iff.1 hf) (by omega) (by omega)]
      cases hx : cutT sz m with
      | none => show 0 ≤ _; omega
      | some x =>
        have := (cutT_part (Part.whole m) hx).2
        show (msW x).b.length ≤ _
        omega
set_option maxHeartbeats 16000000 in
theorem cutFits_ok (s : MS) (m : Ms) (sz : Int) (w : World) (h : MIn (ltS w) w s m) (hq : m.qs.length ≤ 1048576) (hlen : (m.an.length + m.au.length + m.ex.length) * 168 ≤ 140737488355328) (hby : ∀ r ∈ m.an ++ m.au ++ m.ex, r.data.bytes.length ≤ 140737488355328) (hlt : LtMsg7 m) :
    Calls Try.prog 9 #[msV s m, .int .i64 sz] w (LawT w) := by
  obtain ⟨w1, hw1⟩ : ∃ w1, w1 = w.alloc (.cells (mCells s m) 25) := ⟨_, rfl⟩
  have hb1 : Below w.heap.size w w1 := by rw [hw1]; exact bl.alloc (Nat.le_refl _) _
  have HR1 : Hid (MRow w1 w.heap.size s m) := by show MRow _ _ _ _; rw [hw1]; exact MRow.made w s m
  have HB1 := Lib.hid hb1
  have HIW : Hid (∀ w', Below w1.heap.size w1 w' → MIn (ltS w) w' s m) := fun w' hw => (h.below hb1 (fun b hb => hb)).below hw (fun b hb => Nat.lt_of_lt_of_le hb hb1.size)
  have HSW : Hid (∀ w', Below w1.heap.size w1 w' → ∀ b, ltS w b → b < w'.heap.size) := fun w' hw b hb => Nat.lt_of_lt_of_le (Nat.lt_of_lt_of_le hb hb1.size) hw.size
  have HK : Hid (∀ w', Below w1.heap.size w1 w' → MCells w' w.heap.size s m) := fun w' hw => (HR1.out.below hw).cells
  have HLT := Lib.hid (fun w2 (hw : Below w1.heap.size w1 w2) => light07_any s m w2 (HIW.out w2 hw) (HSW.out w2 hw) (by omega) hlen hby)
  have HYES := Lib.hid (ltM7_yes hlt)
  have HL := Lib.hid hlt.lt6.ltM7
  have HBM := Lib.hid hlt.bytes
  have HFL := Lib.hid (fitP_len m sz)
  unfold msV mCells at HLT
  unfold msV
  unfold mCells at hw1 ⊢
  clear h hb1 hlt hq hlen hby
  rw [HYES.out] at HLT
  go_enter Try.func9, Try.ntmps9
  go_upto_region 1 with (fail)
  rw [← hw1]
  clear hw1
  go_upto_region 3 with (first
    | (go_at_call 30; refine (HLT.out w2 hb2).mono ?_; rintro e w3 ⟨v3, rfl, rfl, hb3⟩; have HB3 := Lib.hid (nx hb2 hb3); obtain ⟨z0, z1, z2, z3, z4, z5, z6, z7, z8, z9, z10, z11, z12, z13⟩ := HK.out w3 HB3.out)
    | (go_at_call 29; refine (answers07_any w1).mono ?_; rintro e w2 ⟨rfl, hb2⟩; obtain ⟨z0, z1, z2, z3, z4, z5, z6, z7, z8, z9, z10, z11, z12, z13⟩ := HK.out w2 hb2)
    | fail)
  clear z0 z1 z2 z3 z4 z5 z6 z7 z8 z9 z10 z11 z12 z13 hb2 hb3 HLT HYES
  obtain ⟨z0, z1, z2, z3, z4, z5, z6, z7, z8, z9, z10, z11, z12, z13⟩ := HK.out w3 HB3.out
  go_upto_region 4 with (first
    | (go_at_call 31; refine (cutFit_any s5 m sz w5 HI5.out (fun b hb => hb.2) HL.out HBM.out).mono ?_; rintro e w6 ⟨v6, rfl, ⟨bv6, rfl, ho6⟩, hb6⟩; have HO6 := Lib.hid ho6; obtain ⟨A6, c6, hv6, _, hl6, hm6⟩ := OwnB.form ho6; subst hv6; have HC6 := Lib.hid (And.intro hl6 hm6); have HB6 := Lib.hid (nx HB5.out hb6); clear ho6 hb6 hl6 hm6)
    | (go_at_call 18; refine (ownMsg_any s m w3 (HIW.out w3 HB3.out) (HSW.out w3 HB3.out) HL.out.light).mono ?_; rintro e w5 ⟨v5, rfl, ⟨s5, rfl, hi5⟩, hb5⟩; have HI5 := Lib.hid hi5; have HB5 := Lib.hid (nx HB3.out hb5); clear hi5 hb5)
    | fail)
  clear z0 z1 z2 z3 z4 z5 z6 z7 z8 z9 z10 z11 z12 z13 HI5
  obtain ⟨z0, z1, z2, z3, z4, z5, z6, z7, z8, z9, z10, z11, z12, z13⟩ := HK.out w6 HB6.out
  go_upto_region 5 with (first
    | (go_at_call 32; refine (rFit_any s m sz w6 (HIW.out w6 HB6.out) (HSW.out w6 HB6.out) HL.out HBM.out).mono ?_; rintro e w7 ⟨v7, rfl, ⟨bv7, rfl, ho7⟩, hb7⟩; have HO7 := Lib.hid ho7; obtain ⟨A7, c7, hv7, hr7, hl7, hm7⟩ := ho7; subst hv7; have HR7 := Lib.hid hr7; have HR6 := Lib.hid ((OwnB.rd HO6.out).1.below hb7); have HB7 := Lib.hid (nx HB6.out hb7); clear hr7 hb7 hl7 hm7)
    | fail)
  clear z0 z1 z2 z3 z4 z5 z6 z7 z8 z9 z10 z11 z12 z13 HIW HSW HK HO6 HO7 HC6
  generalize fitP m sz = E at HR6 HR7 HFL ⊢
  obtain ⟨B, er⟩ := E
  dsimp only at HR6 HR7 HFL ⊢
  obtain ⟨n, hn⟩ : ∃ n, n = B.length := ⟨_, rfl⟩
  rw [← hn] at HR6 HR7 HFL ⊢
  have hnl := HFL.out
  clear hn
  go_wp2_with (first
    | (go_at_call 23; refine (same_any A6 A7 n c6 n c7 B B w7 HR6.out HR7.out (by unfold maxLen; omega) (by unfold maxLen; omega)).mono ?_; rw [decide_eq_true rfl]; rintro e w8 ⟨rfl, m8, hw8⟩; have hb8 : Below w7.heap.size w7 w8 := (by rw [hw8]; exact dN bl m8); clear hw8)
    | fail)
  go_ret
  exact ⟨rfl, nx HB1.out (nx HB7.out hb8)⟩
theorem cutFits_walk (s : MS) (m : Ms) (sz : Int) (w : World) (h : MIn (ltS w) w s m) (hq : m.qs.length ≤ 1048576) (ha1 : m.an.length ≤ 1048576) (hu : m.au.length ≤ 1048576) (hx : m.ex.length ≤ 1048576) (hby : ∀ r ∈ m.an ++ m.au ++ m.ex, r.data.bytes.length ≤ 1048576) :
    Calls Try.prog 9 #[msV s m, .int .i64 sz] w (LawT w) := by
  have hby2 : ∀ r ∈ m.an ++ m.au ++ m.ex, r.data.bytes.length ≤ 140737488355328 := fun r hr => by have := hby r hr; omega
  by_cases h0 : LtMsg7 m
  · exact cutFits_ok s m sz w h hq (by omega) hby2 h0
  · exact cutFits_heavy s m sz w h hq (by omega) hby2 h0
end Go.Proofs.Ytmkfjddighabcaa
