/- Parts of a proof, joined: Zn13. -/
import Derived.Test.YtimkdpkhdbiniaaZADZ8
import Derived.Test.YtimkdpkhdbiniaaZADZ5
import Derived.Test.YtimkdpkhdbiniaaZADR0
/- zone.Answer (printed by gen/zn13.py). -/
namespace Go.Proofs.Ytimkdpkhdbiniaa
open Go.RowKit
set_option maxRecDepth 100000
set_option linter.unusedVariables false

theorem rowMsZ : RowT Try.prog 31 14 := ⟨_, Try.underlying31, by kernel_rfl⟩
def msBase (q : Qu) : Ms := ⟨0, true, 0, false, false, false, false, 0, [q], [], [], [], false, 0⟩
def msNone : Ms := ⟨0, false, 0, false, false, false, false, 0, [], [], [], [], false, 0⟩
noncomputable def answB (zs : List (List UInt8)) (rs : List RR) (q : Qu) : Bool := zsoundB zs rs && (soundB q.name && (underB q.name zs && decide (q.cls = 1)))
/-- What a zone's server answers. -/
noncomputable def answerP (zs : List (List UInt8)) (rs : List RR) (q : Qu) : Ms := if answB zs rs q = true then fillP zs rs q.type (rs.length + 1) q.name [q.name] { msBase q with aa := true } else { msBase q with rcode := 5 }
/-- A message of the program's own making: what it leads to lies from B on, and may be written into. -/
structure MOwn (B : Nat) (w : World) (s : MS) (m : Ms) (q : Qu) : Prop where
  L : ZL B w (.slice s.A m.an.length s.ac) (.slice s.U m.au.length s.uc) (.slice s.X m.ex.length s.xc) m
  q : ∃ g A c, s.Q = some ⟨g, 0, none⟩ ∧ s.qc = 1 ∧ m.qs = [q] ∧ B ≤ g ∧ g < w.heap.size ∧ QCells w g 0 ⟨A, c⟩ q ∧ Els encS (lsS B w) (lsS B w) w A q.name.length q.name ∧ q.name.length ≤ c ∧ c ≤ maxLen
theorem mCells_one (s : MS) (m : Ms) : (mCells s m).all (·.oneCell') = true := by simp [mCells, Value.oneCell']
theorem fillP_qs (zs : List (List UInt8)) (rs : List RR) (ty : Int) : ∀ (f : Nat) (n : List (List UInt8)) (seen : List (List (List UInt8))) (m : Ms), (fillP zs rs ty f n seen m).qs = m.qs
  | 0, _, _, _ => rfl
  | f + 1, n, seen, m => by
    rw [fillP]
    split
    · rfl
    · split
      · rfl
      · split
        · rfl
        · split
          · rfl
          · rw [fillP_qs zs rs ty f]

set_option maxHeartbeats 16000000 in
theorem zanswer_any (zA RA qA : Option Addr) (zn zc rn rc qn qc : Nat) (zs qs : List (List UInt8)) (rs : List RR) (ty cl : Int) (w : World)
    (h : RdE encRR w RA rn rs) (hz : RdE encS w zA zn zs) (hq : RdE encS w qA qn qs) (hzc : zn ≤ zc ∧ zc ≤ maxLen) (hrc : rn ≤ rc) (hn : rn ≤ 1000) (hzl : zn ≤ 1000) (hql : qn ≤ 1000) (hL : ∀ r ∈ rs, LightR r) (h9 : ∀ r ∈ rs, Lt9 r) (hH : ∀ r ∈ rs, r.data.host.length ≤ 1000 ∧ r.name.length ≤ 1000) :
    Calls Try.prog 42 #[.agg #[.slice zA zn zc, .slice RA rn rc], .agg #[.slice qA qn qc, .int .i64 ty, .int .i64 cl]] w (RetP (fun v w' => ∃ s, v = msV s (answerP zs rs ⟨qs, ty, cl⟩) ∧ MOwn w.heap.size w' s (answerP zs rs ⟨qs, ty, cl⟩) ⟨qs, ty, cl⟩) w) := by
  have er := h.len
  subst er
  have eq := hq.len
  subst eq
  have ez := hz.len
  obtain ⟨w1, hw1⟩ : ∃ w1, w1 = w.alloc (.cells #[.slice zA zn zc, .slice RA rs.length rc] 75) := ⟨_, rfl⟩
  obtain ⟨w2, hw2⟩ : ∃ w2, w2 = w1.alloc (.cells #[.slice qA qs.length qc, .int .i64 ty, .int .i64 cl] 25) := ⟨_, rfl⟩
  obtain ⟨w3, hw3⟩ : ∃ w3, w3 = w2.alloc (.cells (mCells MS.nil msNone) 31) := ⟨_, rfl⟩
  obtain ⟨zb, hzb⟩ : ∃ g, g = w.heap.size := ⟨_, rfl⟩
  obtain ⟨qb, hqb⟩ : ∃ g, g = zb + 1 := ⟨_, rfl⟩
  obtain ⟨rb, hrb⟩ : ∃ g, g = qb + 1 := ⟨_, rfl⟩
  have hb1 : Below w.heap.size w w1 := by rw [hw1]; exact bl.alloc (Nat.le_refl _) _
  have hb2 : Below w1.heap.size w1 w2 := by rw [hw2]; exact bl.alloc (Nat.le_refl _) _
  have hb3 : Below w2.heap.size w2 w3 := by rw [hw3]; exact bl.alloc (Nat.le_refl _) _
  have hs1 : w1.heap.size = qb := by rw [hqb, hzb, hw1]; simp
  have hs2 : w2.heap.size = rb := by rw [hrb, hqb, hzb, hw2, hw1]; simp
  have hs3 : w3.heap.size = zb + 3 := by rw [hw3]; simp; omega
  have z0 : w3.cell? ⟨zb, 0, none⟩ = some (.slice zA zn zc) := below_cell (nx hb2 hb3) (by rw [hw1, hzb]; exact new_cell w _ _ 0)
  have z1 : w3.cell? ⟨zb, 1, none⟩ = some (.slice RA rs.length rc) := below_cell (nx hb2 hb3) (by rw [hw1, hzb]; exact new_cell w _ _ 1)
  have q0 : w3.cell? ⟨qb, 0, none⟩ = some (.slice qA qs.length qc) := below_cell hb3 (by rw [hw2, ← hs1]; exact new_cell w1 _ _ 0)
  have q1 : w3.cell? ⟨qb, 1, none⟩ = some (.int .i64 ty) := below_cell hb3 (by rw [hw2, ← hs1]; exact new_cell w1 _ _ 1)
  have q2 : w3.cell? ⟨qb, 2, none⟩ = some (.int .i64 cl) := below_cell hb3 (by rw [hw2, ← hs1]; exact new_cell w1 _ _ 2)
  have HQB : Hid (w3.heap[qb]? = some (.cells #[.slice qA qs.length qc, .int .i64 ty, .int .i64 cl] 25 (0, 0))) := (hb3.block qb (by omega)).trans (by rw [hw2, ← hs1]; exact heap_alloc_new w1 _)
  have HRB : Hid (MRow w3 rb MS.nil msNone) := by show MRow _ _ _ _; rw [hw3, ← hs2]; exact MRow.made w2 _ _
  have HB3 : Hid (Below w.heap.size w w3) := nx hb1 (nx hb2 hb3)
  have HS : Hid (zb = w.heap.size ∧ qb = zb + 1 ∧ rb = zb + 2 ∧ w3.heap.size = zb + 3) := ⟨hzb, hqb, by omega, hs3⟩
  have HR := Lib.hid h
  have HZ := Lib.hid hz
  have HQ := Lib.hid hq
  have HN : Hid (zn ≤ 1000 ∧ rs.length ≤ 1000 ∧ qs.length ≤ 1000 ∧ zn ≤ zc ∧ zc ≤ maxLen ∧ rs.length ≤ rc) := ⟨hzl, hn, hql, hzc.1, hzc.2, hrc⟩
  have HL : Hid ((∀ r ∈ rs, LightR r) ∧ (∀ r ∈ rs, Lt9 r) ∧ ∀ r ∈ rs, r.data.host.length ≤ 1000 ∧ r.name.length ≤ 1000) := ⟨hL, h9, hH⟩
  have HEZ := Lib.hid ez
  have HCL := Lib.hid (cloneS_any qA qs.length qc qs w3 (hq.below (nx hb1 (nx hb2 hb3))) (by omega))
  simp only [mCells, MS.nil, msNone, List.length_nil] at hw3
  have hqd : qb ≠ zb := by omega
  clear h hz hq hzc hrc hn hzl hql hL h9 hH ez hb1 hb2 hb3
  go_enter Try.func42, Try.ntmps42
  go_upto_region 1 with (fail)
  rw [← hw1]
  rw [← hw2]
  rw [← hw3]
  clear hw1 hw2 hw3
  first | rw [hs2] | skip
  rw [← hzb, ← hqb, ← hrb]
  clear hs1 hs2 hs3 hzb hrb hqb
  go_upto_region 2 with (go_at_call 81; refine HCL.out.mono ?_; rintro e w4 ⟨v4, rfl, ho4, hb4⟩; obtain ⟨A4, c4, hv4, _⟩ := OwnE.form ho4; obtain ⟨qn, hqn⟩ : ∃ k, k = qs.length := ⟨_, rfl⟩; rw [← hqn] at hv4; have HQN := Lib.hid hqn; have HO4 := Lib.hid ho4; have HB4 := Lib.hid hb4; have f4 : w4.frozen? ⟨qb, 0, none⟩ = false := frozen_of_row _ _ 0 _ _ ((hb4.block qb (Array.getElem?_eq_some_iff.1 HQB.out).1).trans HQB.out); have y0 := below_cell hb4 q0; clear ho4 hb4 hqn; subst hv4)
  obtain ⟨w5, hw5⟩ : ∃ u, u = w4.setCell ⟨qb, 0, none⟩ (.slice A4 qn c4) := ⟨_, rfl⟩
  have HQ5 : Hid (w5.heap[qb]? = some (.cells #[.slice A4 qn c4, .int .i64 ty, .int .i64 cl] 25 (0, 0))) := by
    show _ = _
    rw [hw5]
    exact (heap_setCell_same _ _ _ _ _ _ ((HB4.out.block qb (Array.getElem?_eq_some_iff.1 HQB.out).1).trans HQB.out)).trans rfl
  have v0 : w5.cell? ⟨qb, 0, none⟩ = some (.slice A4 qn c4) := (cell_of_row _ _ _ _ _ _ HQ5.out).trans rfl
  have v1 : w5.cell? ⟨qb, 1, none⟩ = some (.int .i64 ty) := (cell_of_row _ _ _ _ _ _ HQ5.out).trans rfl
  have v2 : w5.cell? ⟨qb, 2, none⟩ = some (.int .i64 cl) := (cell_of_row _ _ _ _ _ _ HQ5.out).trans rfl
  have hC5 : Chg (fun k => k = qb) w4 w5 := by rw [hw5]; exact chg_g1 _ _ _ _
  obtain ⟨w6, hw6⟩ : ∃ u, u = w5.alloc (.cells #[.slice A4 qn c4, .int .i64 ty, .int .i64 cl] 25) := ⟨_, rfl⟩
  obtain ⟨g, hg⟩ : ∃ g, g = w5.heap.size := ⟨_, rfl⟩
  obtain ⟨pm, hpm⟩ : ∃ g, g = w6.heap.size := ⟨_, rfl⟩
  obtain ⟨s0, hs0⟩ : ∃ s : MS, s = ⟨some ⟨g, 0, none⟩, 1, none, 0, none, 0, none, 0⟩ := ⟨_, rfl⟩
  obtain ⟨w7, hw7⟩ : ∃ u, u = w6.alloc (.cells (mCells s0 (msBase ⟨qs, ty, cl⟩)) 31) := ⟨_, rfl⟩
  have hb6 : Below w5.heap.size w5 w6 := by rw [hw6]; exact bl.alloc (Nat.le_refl _) _
  have hb7 : Below w6.heap.size w6 w7 := by rw [hw7]; exact bl.alloc (Nat.le_refl _) _
  have HM7 : Hid (MRow w7 pm s0 (msBase ⟨qs, ty, cl⟩)) := by show MRow _ _ _ _; rw [hw7, hpm]; exact MRow.made w6 _ _
  have HG : Hid (g = w5.heap.size ∧ pm = w6.heap.size ∧ w6.heap.size = w5.heap.size + 1 ∧ w7.heap.size = pm + 1 ∧ w4.heap.size ≤ w5.heap.size ∧ w3.heap.size ≤ w4.heap.size ∧ s0 = ⟨some ⟨g, 0, none⟩, 1, none, 0, none, 0, none, 0⟩) := ⟨hg, hpm, by rw [hw6]; simp, by rw [hw7, hpm]; simp, hC5.size, HB4.out.size, hs0⟩
  -- whatever keeps the blocks from w3 up to w6 keeps the question
  have HQU : Hid (∀ u : World, (∀ b, w3.heap.size ≤ b → b < w6.heap.size → u.heap[b]? = w6.heap[b]?) → w6.heap.size ≤ u.heap.size → QCells u g 0 ⟨A4, c4⟩ ⟨qs, ty, cl⟩ ∧ Els encS (lsS w.heap.size u) (lsS w.heap.size u) u A4 qs.length qs ∧ qs.length ≤ c4 ∧ c4 ≤ maxLen) := fun u hu hsz => by
    have e4 := ownE_ls HO4.out rfl
    have hrow : w6.heap[g]? = some (.cells #[.slice A4 qn c4, .int .i64 ty, .int .i64 cl] 25 (0, 0)) := by rw [hw6, hg]; exact heap_alloc_new w5 _
    have h34 := HG.out
    have hru := (hu g (by omega) (by omega)).trans hrow
    have hS := HS.out
    refine ⟨⟨?_, ?_, ?_⟩, ?_, ?_⟩
    · rw [← HQN.out]; exact (cell_of_row _ _ _ _ _ _ hru).trans rfl
    · exact (cell_of_row _ _ _ _ _ _ hru).trans rfl
    · exact (cell_of_row _ _ _ _ _ _ hru).trans rfl
    · rw [← HQN.out]
      have k : ∀ b, lsS w3.heap.size w4 b → u.heap[b]? = w4.heap[b]? := fun b hb => by
        have h1 := hb.1
        have h2 := hb.2.1
        rw [hu b h1 (by omega), hb6.block b (by omega)]
        exact hC5.block b h2 (by omega)
      have k2 : ∀ b, lsS w3.heap.size w4 b → lsS w.heap.size u b := fun b hb => by
        have h1 := hb.1
        have h2 := hb.2.1
        exact ⟨by omega, by omega, hb.2.2.keep (k b hb)⟩
      exact (e4.1.keep k k).mono k2 k2
    · rw [← HQN.out]; exact e4.2
  have HC45 : Hid (Chg (fun k => k = qb) w4 w5) := hC5
  have HB57 : Hid (Below w5.heap.size w5 w7) := nx hb6 hb7
  have HC37 : Hid (Chg (fun k => k = qb) w3 w7) := ((Chg.of_below HB4.out).trans hC5 (fun z hz => .inl hz)).trans (Chg.of_below (F := fun _ => False) (nx hb6 hb7)) (fun _ h => h.elim)
  have HW7 : Hid (Below w.heap.size w w7) := by
    have h1 : Chg (fun k => k = qb) w w7 := (Chg.of_below HB3.out).trans HC37.out (fun z hz => .inl hz)
    have h2 := HS.out
    exact h1.below (fun x hx => by omega) (Nat.le_refl _)
  have hZ0 : w7.cell? ⟨zb, 0, none⟩ = some (.slice zA zn zc) := HC37.out.cell z0 (show ¬ zb = qb by have := HS.out; omega)
  have hZ1 : w7.cell? ⟨zb, 1, none⟩ = some (.slice RA rs.length rc) := HC37.out.cell z1 (show ¬ zb = qb by have := HS.out; omega)
  have hV0 : w7.cell? ⟨qb, 0, none⟩ = some (.slice A4 qn c4) := below_cell HB57.out v0
  have hV1 : w7.cell? ⟨qb, 1, none⟩ = some (.int .i64 ty) := below_cell HB57.out v1
  have hV2 : w7.cell? ⟨qb, 2, none⟩ = some (.int .i64 cl) := below_cell HB57.out v2
  have HZV : Hid (∀ u, Below w7.heap.size w7 u → (u.cell? ⟨zb, 0, none⟩ = some (.slice zA zn zc) ∧ u.cell? ⟨zb, 1, none⟩ = some (.slice RA rs.length rc)) ∧ u.cell? ⟨qb, 0, none⟩ = some (.slice A4 qn c4) ∧ u.cell? ⟨qb, 1, none⟩ = some (.int .i64 ty) ∧ u.cell? ⟨qb, 2, none⟩ = some (.int .i64 cl)) := fun u hu => ⟨⟨below_cell hu hZ0, below_cell hu hZ1⟩, below_cell hu hV0, below_cell hu hV1, below_cell hu hV2⟩
  have HQE : Hid (∀ u, Below w7.heap.size w7 u → RdE encS u A4 qn qs ∧ qn ≤ c4 ∧ c4 ≤ maxLen) := fun u hu => by
    have h34 := HG.out
    have h1 := HQU.out u (fun b hb1 hb2 => (hu.block b (by omega)).trans (hb7.block b hb2)) (by have := hu.size; omega)
    rw [← HQN.out] at h1
    exact ⟨h1.2.1.mono (fun b hb => hb.2.1) (fun b hb => hb.2.1), h1.2.2⟩
  have HR7 : Hid (∀ u, Below w7.heap.size w7 u → RdE encRR u RA rs.length rs ∧ RdE encS u zA zn zs) := fun u hu => ⟨HR.out.below (HW7.out.trans (hu.mono HW7.out.size)), HZ.out.below (HW7.out.trans (hu.mono HW7.out.size))⟩
  have HSD := Lib.hid (zsound_any zA RA zn zc rs.length rc zs rs w7 (HR7.out w7 bl).2 (HR7.out w7 bl).1 (fun b hb => hb) (by have := HN.out; omega) HN.out.2.2.2.2.2 (by have := HN.out; omega) HL.out.2.1)
  have HSN : Hid (∀ u, Below w7.heap.size w7 u → Calls Try.prog 61 #[.slice A4 qn c4] u (Ret (.bool (soundB qs)) u)) := fun u hu => sound_any A4 qn c4 qs u (HQE.out u hu).1 (by have := HN.out; have := HQN.out; omega)
  have HUN : Hid (∀ u, Below w7.heap.size w7 u → Calls Try.prog 83 #[.slice A4 qn c4, .slice zA zn zc] u (RetP (fun v _ => v = .bool (underB qs zs)) u)) := fun u hu => nunder_any A4 zA qn c4 zn zc qs zs u (HQE.out u hu).1 (HR7.out u hu).2 (by have := HN.out; have := HQN.out; omega) (by have := HN.out; omega) (HQE.out u hu).2.1
  obtain ⟨sb, hsb⟩ : ∃ b, b = zsoundB zs rs := ⟨_, rfl⟩
  obtain ⟨nb, hnb⟩ : ∃ b, b = soundB qs := ⟨_, rfl⟩
  obtain ⟨ub, hub⟩ : ∃ b, b = underB qs zs := ⟨_, rfl⟩
  rw [← hsb] at HSD
  rw [← hnb] at HSN
  rw [← hub] at HUN
  have HAB : Hid (answB zs rs ⟨qs, ty, cl⟩ = (sb && (nb && (ub && decide (cl = 1))))) := by show _ = _; unfold answB; rw [← hsb, ← hnb, ← hub]
  have HR37 : Hid (MRow w7 rb MS.nil msNone) := HC37.out.heap HRB.out (by have := HS.out; omega)
  have HEND : Hid (∀ (u : World) (s' : MS) (M : Ms), answerP zs rs ⟨qs, ty, cl⟩ = M → M.qs = [⟨qs, ty, cl⟩] → s'.Q = s0.Q → s'.qc = s0.qc → ZL w.heap.size u (.slice s'.A M.an.length s'.ac) (.slice s'.U M.au.length s'.uc) (.slice s'.X M.ex.length s'.xc) M → Chg (fun k => k = pm ∨ k = rb ∨ w7.heap.size ≤ k) w7 u → RetP (fun v w' => ∃ s, v = msV s (answerP zs rs ⟨qs, ty, cl⟩) ∧ MOwn w.heap.size w' s (answerP zs rs ⟨qs, ty, cl⟩) ⟨qs, ty, cl⟩) w (.returned (msV s' M)) u) := fun u s' M hM hqs hq1 hq2 hz hc => by
    have hG := HG.out
    have hS := HS.out
    have hQ := HQU.out u (fun b hb1 hb2 => (hc.block b (by omega) (by omega)).trans (hb7.block b hb2)) (by have := hc.size; omega)
    subst hM
    refine ⟨_, rfl, ⟨s', rfl, hz, g, A4, c4, ?_, ?_, hqs, by omega, by have := hc.size; omega, hQ.1, hQ.2⟩, ?_⟩
    · rw [hq1, hG.2.2.2.2.2.2]
    · rw [hq2, hG.2.2.2.2.2.2]
    · exact HW7.out.trans (hc.below (fun x hx => by omega) (by have := HW7.out.size; omega))
  have HENR : Hid (∀ u : World, answB zs rs ⟨qs, ty, cl⟩ = false → Chg (fun k => k = pm ∨ k = rb ∨ w7.heap.size ≤ k) w7 u → RetP (fun v w' => ∃ s, v = msV s (answerP zs rs ⟨qs, ty, cl⟩) ∧ MOwn w.heap.size w' s (answerP zs rs ⟨qs, ty, cl⟩) ⟨qs, ty, cl⟩) w (.returned (msV s0 { msBase ⟨qs, ty, cl⟩ with rcode := 5 })) u) := fun u ha hc => by
    refine HEND.out u s0 _ (by unfold answerP; rw [ha]; rfl) rfl rfl rfl ?_ hc
    rw [HG.out.2.2.2.2.2.2]
    exact ⟨noS, noS, noS, RB.nil _ _, RB.nil _ _, RB.nil _ _, fun b _ => not_blk_nil, fun b _ => not_blk_nil, fun b _ => not_blk_nil⟩
  have HPG : Hid (pm = g + 1) := by show _ = _; have := HG.out; omega
  rw [hs0] at hw7
  simp only [mCells, msBase, List.length_nil, List.length_singleton] at hw7
  clear hsb hnb hub hb6 hb7 hC5 hs0 z0 z1 q0 q1 q2 y0 f4
  rw [← hw5]
  clear hw5
  go_upto_region 3 with (fail)
  rw [← hw6]
  clear hw6
  rw [← hg]
  clear hg
  rw [← hw7]
  clear hw7
  rw [← HPG.out]
  clear hpm v0 v1 v2
  cases sb with
  | false =>
    obtain ⟨⟨a0, a1⟩, a2, a3, a4⟩ := HZV.out w7 bl
    have HNO : Hid (answB zs rs ⟨qs, ty, cl⟩ = false) := by show _ = _; rw [HAB.out]; rfl
    go_upto_region 4 with (go_at_call 82; refine HSD.out.mono ?_; rintro e w8 ⟨v8, rfl, rfl, hb8⟩; have HB8 := Lib.hid hb8; obtain ⟨⟨u0, u1⟩, u2, u3, u4⟩ := HZV.out w8 hb8; clear hb8)
    have HMR : Hid (MRow w8 pm s0 (msBase ⟨qs, ty, cl⟩)) := HM7.out.below HB8.out
    have x7 : w8.cell? ⟨pm, 7, none⟩ = some (.int .i64 0) := (HMR.out.cell 7).trans rfl
    have f7 : w8.frozen? ⟨pm, 7, none⟩ = false := MRow.free HMR.out 7
    obtain ⟨w10, hw10⟩ : ∃ u, u = w8.setCell ⟨pm, 7, none⟩ (.int .i64 5) := ⟨_, rfl⟩
    have HM10 : Hid (MRow w10 pm s0 { msBase ⟨qs, ty, cl⟩ with rcode := 5 }) := by show MRow _ _ _ _; rw [hw10]; exact MRow.put HMR.out 7 _ _ _ rfl
    have HC10 : Hid (Chg (fun k => k = pm) w7 w10) := by show Chg _ _ _; rw [hw10]; exact (Chg.of_below HB8.out).trans (chg_g1 _ _ _ _) (fun z hz => .inl hz)
    go_upto_region 5 with (fail)
    rw [← hw10]
    clear hw10 x7 f7 u0 u1 u2 u3 u4 a0 a1 a2 a3 a4
    have HR10 : Hid (MRow w10 rb MS.nil msNone) := HC10.out.heap HR37.out (by have := HS.out; have := HG.out; omega)
    go_wp2_with (first | ((with_reducible show wpList _ _ _ (⟨some 36, _, _, _, _, _⟩ :: _) _ _); refine wpL_loadR rowMsZ rfl (.tmp 5) rfl pm rfl (mCells s0 { msBase ⟨qs, ty, cl⟩ with rcode := 5 }) HM10.out rfl ?_) | ((with_reducible show wpList _ _ _ (⟨none, _, _, _, _, _⟩ :: _) _ _); refine wpL_storeR rowMsZ rfl (.tmp 4) (.tmp 36) rfl rb rfl (mCells s0 { msBase ⟨qs, ty, cl⟩ with rcode := 5 }) rfl (mCells MS.nil msNone) HR10.out rfl rfl (mCells_one _ _) ?_; intro w11 hr11 hc11; have HR11 : Hid (MRow w11 rb s0 { msBase ⟨qs, ty, cl⟩ with rcode := 5 }) := hr11; have HC11 := Lib.hid hc11; clear hr11 hc11) | fail)
    refine bodyPost_ret (v := msV s0 { msBase ⟨qs, ty, cl⟩ with rcode := 5 }) ?_ rfl (HENR.out w11 HNO.out ((HC10.out.mono (fun z hz => .inl (.inl hz))).trans HC11.out (fun z hz => .inl (.inr (.inl hz)))))
    exact res_row rowMsZ rfl _ _ rb _ rfl rfl HR11.out
  | true =>
  cases nb with
  | false =>
    obtain ⟨⟨a0, a1⟩, a2, a3, a4⟩ := HZV.out w7 bl
    have HNO : Hid (answB zs rs ⟨qs, ty, cl⟩ = false) := by show _ = _; rw [HAB.out]; rfl
    go_upto_region 4 with (first | (go_at_call 61; refine (HSN.out w8 HB8.out).mono ?_; rintro e w9 ⟨rfl, rfl⟩) | (go_at_call 82; refine HSD.out.mono ?_; rintro e w8 ⟨v8, rfl, rfl, hb8⟩; have HB8 := Lib.hid hb8; obtain ⟨⟨u0, u1⟩, u2, u3, u4⟩ := HZV.out w8 hb8; clear hb8) | fail)
    have HMR : Hid (MRow w8 pm s0 (msBase ⟨qs, ty, cl⟩)) := HM7.out.below HB8.out
    have x7 : w8.cell? ⟨pm, 7, none⟩ = some (.int .i64 0) := (HMR.out.cell 7).trans rfl
    have f7 : w8.frozen? ⟨pm, 7, none⟩ = false := MRow.free HMR.out 7
    obtain ⟨w10, hw10⟩ : ∃ u, u = w8.setCell ⟨pm, 7, none⟩ (.int .i64 5) := ⟨_, rfl⟩
    have HM10 : Hid (MRow w10 pm s0 { msBase ⟨qs, ty, cl⟩ with rcode := 5 }) := by show MRow _ _ _ _; rw [hw10]; exact MRow.put HMR.out 7 _ _ _ rfl
    have HC10 : Hid (Chg (fun k => k = pm) w7 w10) := by show Chg _ _ _; rw [hw10]; exact (Chg.of_below HB8.out).trans (chg_g1 _ _ _ _) (fun z hz => .inl hz)
    go_upto_region 5 with (fail)
    rw [← hw10]
    clear hw10 x7 f7 u0 u1 u2 u3 u4 a0 a1 a2 a3 a4
    have HR10 : Hid (MRow w10 rb MS.nil msNone) := HC10.out.heap HR37.out (by have := HS.out; have := HG.out; omega)
    go_wp2_with (first | ((with_reducible show wpList _ _ _ (⟨some 36, _, _, _, _, _⟩ :: _) _ _); refine wpL_loadR rowMsZ rfl (.tmp 5) rfl pm rfl (mCells s0 { msBase ⟨qs, ty, cl⟩ with rcode := 5 }) HM10.out rfl ?_) | ((with_reducible show wpList _ _ _ (⟨none, _, _, _, _, _⟩ :: _) _ _); refine wpL_storeR rowMsZ rfl (.tmp 4) (.tmp 36) rfl rb rfl (mCells s0 { msBase ⟨qs, ty, cl⟩ with rcode := 5 }) rfl (mCells MS.nil msNone) HR10.out rfl rfl (mCells_one _ _) ?_; intro w11 hr11 hc11; have HR11 : Hid (MRow w11 rb s0 { msBase ⟨qs, ty, cl⟩ with rcode := 5 }) := hr11; have HC11 := Lib.hid hc11; clear hr11 hc11) | fail)
    refine bodyPost_ret (v := msV s0 { msBase ⟨qs, ty, cl⟩ with rcode := 5 }) ?_ rfl (HENR.out w11 HNO.out ((HC10.out.mono (fun z hz => .inl (.inl hz))).trans HC11.out (fun z hz => .inl (.inr (.inl hz)))))
    exact res_row rowMsZ rfl _ _ rb _ rfl rfl HR11.out
  | true =>
  cases ub with
  | false =>
    obtain ⟨⟨a0, a1⟩, a2, a3, a4⟩ := HZV.out w7 bl
    have HNO : Hid (answB zs rs ⟨qs, ty, cl⟩ = false) := by show _ = _; rw [HAB.out]; rfl
    go_upto_region 4 with (first | (go_at_call 83; refine (HUN.out w8 HB8.out).mono ?_; rintro e w9 ⟨v9, rfl, rfl, hb9⟩; have HB9 := Lib.hid hb9; obtain ⟨⟨x0, x1⟩, x2, x3, x4⟩ := HZV.out w9 (nx HB8.out hb9); clear hb9) | (go_at_call 61; refine (HSN.out w8 HB8.out).mono ?_; rintro e w9 ⟨rfl, rfl⟩) | (go_at_call 82; refine HSD.out.mono ?_; rintro e w8 ⟨v8, rfl, rfl, hb8⟩; have HB8 := Lib.hid hb8; obtain ⟨⟨u0, u1⟩, u2, u3, u4⟩ := HZV.out w8 hb8; clear hb8) | fail)
    have HMR : Hid (MRow w9 pm s0 (msBase ⟨qs, ty, cl⟩)) := HM7.out.below (nx HB8.out HB9.out)
    have x7 : w9.cell? ⟨pm, 7, none⟩ = some (.int .i64 0) := (HMR.out.cell 7).trans rfl
    have f7 : w9.frozen? ⟨pm, 7, none⟩ = false := MRow.free HMR.out 7
    obtain ⟨w10, hw10⟩ : ∃ u, u = w9.setCell ⟨pm, 7, none⟩ (.int .i64 5) := ⟨_, rfl⟩
    have HM10 : Hid (MRow w10 pm s0 { msBase ⟨qs, ty, cl⟩ with rcode := 5 }) := by show MRow _ _ _ _; rw [hw10]; exact MRow.put HMR.out 7 _ _ _ rfl
    have HC10 : Hid (Chg (fun k => k = pm) w7 w10) := by show Chg _ _ _; rw [hw10]; exact (Chg.of_below (nx HB8.out HB9.out)).trans (chg_g1 _ _ _ _) (fun z hz => .inl hz)
    go_upto_region 5 with (fail)
    rw [← hw10]
    clear hw10 x7 f7 u0 u1 u2 u3 u4 a0 a1 a2 a3 a4 x0 x1 x2 x3 x4
    have HR10 : Hid (MRow w10 rb MS.nil msNone) := HC10.out.heap HR37.out (by have := HS.out; have := HG.out; omega)
    go_wp2_with (first | ((with_reducible show wpList _ _ _ (⟨some 36, _, _, _, _, _⟩ :: _) _ _); refine wpL_loadR rowMsZ rfl (.tmp 5) rfl pm rfl (mCells s0 { msBase ⟨qs, ty, cl⟩ with rcode := 5 }) HM10.out rfl ?_) | ((with_reducible show wpList _ _ _ (⟨none, _, _, _, _, _⟩ :: _) _ _); refine wpL_storeR rowMsZ rfl (.tmp 4) (.tmp 36) rfl rb rfl (mCells s0 { msBase ⟨qs, ty, cl⟩ with rcode := 5 }) rfl (mCells MS.nil msNone) HR10.out rfl rfl (mCells_one _ _) ?_; intro w11 hr11 hc11; have HR11 : Hid (MRow w11 rb s0 { msBase ⟨qs, ty, cl⟩ with rcode := 5 }) := hr11; have HC11 := Lib.hid hc11; clear hr11 hc11) | fail)
    refine bodyPost_ret (v := msV s0 { msBase ⟨qs, ty, cl⟩ with rcode := 5 }) ?_ rfl (HENR.out w11 HNO.out ((HC10.out.mono (fun z hz => .inl (.inl hz))).trans HC11.out (fun z hz => .inl (.inr (.inl hz)))))
    exact res_row rowMsZ rfl _ _ rb _ rfl rfl HR11.out
  | true =>
  by_cases hcl : cl = 1
  rotate_left
  · have hcd : (cl != 1) = true := by simp [hcl]
    obtain ⟨⟨a0, a1⟩, a2, a3, a4⟩ := HZV.out w7 bl
    have HNO : Hid (answB zs rs ⟨qs, ty, cl⟩ = false) := by show _ = _; rw [HAB.out]; rw [decide_eq_false hcl]; rfl
    go_upto_region 4 with (first | (go_at_call 83; refine (HUN.out w8 HB8.out).mono ?_; rintro e w9 ⟨v9, rfl, rfl, hb9⟩; have HB9 := Lib.hid hb9; obtain ⟨⟨x0, x1⟩, x2, x3, x4⟩ := HZV.out w9 (nx HB8.out hb9); clear hb9) | (go_at_call 61; refine (HSN.out w8 HB8.out).mono ?_; rintro e w9 ⟨rfl, rfl⟩) | (go_at_call 82; refine HSD.out.mono ?_; rintro e w8 ⟨v8, rfl, rfl, hb8⟩; have HB8 := Lib.hid hb8; obtain ⟨⟨u0, u1⟩, u2, u3, u4⟩ := HZV.out w8 hb8; clear hb8) | fail)
    have HMR : Hid (MRow w9 pm s0 (msBase ⟨qs, ty, cl⟩)) := HM7.out.below (nx HB8.out HB9.out)
    have x7 : w9.cell? ⟨pm, 7, none⟩ = some (.int .i64 0) := (HMR.out.cell 7).trans rfl
    have f7 : w9.frozen? ⟨pm, 7, none⟩ = false := MRow.free HMR.out 7
    obtain ⟨w10, hw10⟩ : ∃ u, u = w9.setCell ⟨pm, 7, none⟩ (.int .i64 5) := ⟨_, rfl⟩
    have HM10 : Hid (MRow w10 pm s0 { msBase ⟨qs, ty, cl⟩ with rcode := 5 }) := by show MRow _ _ _ _; rw [hw10]; exact MRow.put HMR.out 7 _ _ _ rfl
    have HC10 : Hid (Chg (fun k => k = pm) w7 w10) := by show Chg _ _ _; rw [hw10]; exact (Chg.of_below (nx HB8.out HB9.out)).trans (chg_g1 _ _ _ _) (fun z hz => .inl hz)
    go_upto_region 5 with (fail)
    rw [← hw10]
    clear hw10 x7 f7 u0 u1 u2 u3 u4 a0 a1 a2 a3 a4 x0 x1 x2 x3 x4 hcl hcd
    have HR10 : Hid (MRow w10 rb MS.nil msNone) := HC10.out.heap HR37.out (by have := HS.out; have := HG.out; omega)
    go_wp2_with (first | ((with_reducible show wpList _ _ _ (⟨some 36, _, _, _, _, _⟩ :: _) _ _); refine wpL_loadR rowMsZ rfl (.tmp 5) rfl pm rfl (mCells s0 { msBase ⟨qs, ty, cl⟩ with rcode := 5 }) HM10.out rfl ?_) | ((with_reducible show wpList _ _ _ (⟨none, _, _, _, _, _⟩ :: _) _ _); refine wpL_storeR rowMsZ rfl (.tmp 4) (.tmp 36) rfl rb rfl (mCells s0 { msBase ⟨qs, ty, cl⟩ with rcode := 5 }) rfl (mCells MS.nil msNone) HR10.out rfl rfl (mCells_one _ _) ?_; intro w11 hr11 hc11; have HR11 : Hid (MRow w11 rb s0 { msBase ⟨qs, ty, cl⟩ with rcode := 5 }) := hr11; have HC11 := Lib.hid hc11; clear hr11 hc11) | fail)
    refine bodyPost_ret (v := msV s0 { msBase ⟨qs, ty, cl⟩ with rcode := 5 }) ?_ rfl (HENR.out w11 HNO.out ((HC10.out.mono (fun z hz => .inl (.inl hz))).trans HC11.out (fun z hz => .inl (.inr (.inl hz)))))
    exact res_row rowMsZ rfl _ _ rb _ rfl rfl HR11.out
  obtain rfl := hcl
  have HYS : Hid (answB zs rs ⟨qs, ty, 1⟩ = true) := by show _ = _; rw [HAB.out]; rfl
  obtain ⟨⟨a0, a1⟩, a2, a3, a4⟩ := HZV.out w7 bl
  go_upto_region 6 with (first | (go_at_call 83; refine (HUN.out w8 HB8.out).mono ?_; rintro e w9 ⟨v9, rfl, rfl, hb9⟩; have HB9 := Lib.hid hb9; obtain ⟨⟨x0, x1⟩, x2, x3, x4⟩ := HZV.out w9 (nx HB8.out hb9); clear hb9) | (go_at_call 61; refine (HSN.out w8 HB8.out).mono ?_; rintro e w9 ⟨rfl, rfl⟩) | (go_at_call 82; refine HSD.out.mono ?_; rintro e w8 ⟨v8, rfl, rfl, hb8⟩; have HB8 := Lib.hid hb8; obtain ⟨⟨u0, u1⟩, u2, u3, u4⟩ := HZV.out w8 hb8; clear hb8) | fail)
  clear u0 u1 u2 u3 u4 a0 a1 a2 a3 a4 x0 x1 x2 x3 x4
  have HMR : Hid (MRow w9 pm s0 (msBase ⟨qs, ty, 1⟩)) := HM7.out.below (nx HB8.out HB9.out)
  have x3 : w9.cell? ⟨pm, 3, none⟩ = some (.bool false) := (HMR.out.cell 3).trans rfl
  have f3 : w9.frozen? ⟨pm, 3, none⟩ = false := MRow.free HMR.out 3
  obtain ⟨w10, hw10⟩ : ∃ u, u = w9.setCell ⟨pm, 3, none⟩ (.bool true) := ⟨_, rfl⟩
  have HM10 : Hid (MRow w10 pm s0 { msBase ⟨qs, ty, 1⟩ with aa := true }) := by show MRow _ _ _ _; rw [hw10]; exact MRow.put HMR.out 3 _ _ _ rfl
  have HC9 : Hid (Chg (fun k => k = pm) w9 w10) := by show Chg _ _ _; rw [hw10]; exact chg_g1 _ _ _ _
  have HC10 : Hid (Chg (fun k => k = pm) w7 w10) := (Chg.of_below (nx HB8.out HB9.out)).trans HC9.out (fun z hz => .inl hz)
  go_upto_region 7 with (fail)
  rw [← hw10]
  clear hw10 x3 f3
  obtain ⟨⟨a0, a1⟩, a2, a3, a4⟩ := HZV.out w9 (nx HB8.out HB9.out)
  have b0 : w10.cell? ⟨zb, 0, none⟩ = some (.slice zA zn zc) := HC9.out.cell a0 (show ¬ zb = pm by have := HS.out; have := HG.out; omega)
  have b1 : w10.cell? ⟨zb, 1, none⟩ = some (.slice RA rs.length rc) := HC9.out.cell a1 (show ¬ zb = pm by have := HS.out; have := HG.out; omega)
  have b2 : w10.cell? ⟨qb, 0, none⟩ = some (.slice A4 qn c4) := HC9.out.cell a2 (show ¬ qb = pm by have := HS.out; have := HG.out; omega)
  have b3 : w10.cell? ⟨qb, 1, none⟩ = some (.int .i64 ty) := HC9.out.cell a3 (show ¬ qb = pm by have := HS.out; have := HG.out; omega)
  have b4 : w10.cell? ⟨qb, 2, none⟩ = some (.int .i64 1) := HC9.out.cell a4 (show ¬ qb = pm by have := HS.out; have := HG.out; omega)
  have HSZ : Hid (w7.heap.size ≤ w10.heap.size) := HC10.out.size
  have HRI : Hid (∀ b, b < w.heap.size → w10.heap[b]? = w.heap[b]?) := fun b hb => (HC10.out.block b (by have := HS.out; have := HG.out; omega) (by have := HS.out; have := HG.out; omega)).trans (HW7.out.block b hb)
  have HK : Hid (∀ b, b < w.heap.size → b < w10.heap.size ∧ b ≠ pm) := fun b hb => ⟨by have := HS.out; have := HG.out; have := HSZ.out; omega, by have := HS.out; have := HG.out; omega⟩
  have HQ10 : Hid (Els encS (fun b => b < w10.heap.size ∧ b ≠ pm) (fun b => b < w10.heap.size ∧ b ≠ pm) w10 A4 qn qs ∧ qn ≤ c4 ∧ c4 ≤ maxLen) := by
    have hG := HG.out
    have hS := HS.out
    have e4 := ownE_ls HO4.out rfl
    have k : ∀ b, lsS w3.heap.size w4 b → w10.heap[b]? = w4.heap[b]? := fun b hb => by
      have h1 := hb.1
      have h2 := hb.2.1
      rw [HC10.out.block b (by omega) (by omega), HB57.out.block b (by omega)]
      exact HC45.out.block b h2 (by omega)
    have k2 : ∀ b, lsS w3.heap.size w4 b → b < w10.heap.size ∧ b ≠ pm := fun b hb => by
      have h1 := hb.2.1
      have h2 := HSZ.out
      exact ⟨by omega, by omega⟩
    exact ⟨(e4.1.keep k k).mono k2 k2, e4.2⟩
  have HFL := Lib.hid (fill_any zA RA A4 zn zc rs.length rc qn c4 zs qs rs ty 1 pm s0 { msBase ⟨qs, ty, 1⟩ with aa := true } w10 ((HR.out.keep HRI.out HRI.out).mono HK.out HK.out) ((HZ.out.keep HRI.out HRI.out).mono HK.out HK.out) HQ10.out.1 HM10.out (by rw [HG.out.2.2.2.2.2.2]; exact ⟨rfl, rfl, rfl, rfl, rfl, rfl⟩) ⟨rfl, rfl, rfl⟩ (by have := HN.out; exact ⟨this.2.2.2.1, this.2.2.2.2.1⟩) HQ10.out.2 HN.out.2.1 HN.out.1 (by have := HN.out; have := HQN.out; omega) HL.out.1 HL.out.2.2)
  obtain ⟨M, hM⟩ : ∃ M, M = fillP zs rs ty (rs.length + 1) qs [qs] { msBase ⟨qs, ty, 1⟩ with aa := true } := ⟨_, rfl⟩
  rw [← hM] at HFL
  have HMM := Lib.hid hM
  clear hM a0 a1 a2 a3 a4
  go_upto_region 8 with (go_at_call 84; refine HFL.out.mono ?_; rintro e w11 ⟨s', rfl, hz11, hc11, hq11⟩; have HZ11 := Lib.hid hz11; have HC11 := Lib.hid hc11; have HQ11 := Lib.hid hq11; clear hz11 hc11 hq11)
  clear b0 b1 b2 b3 b4
  have HC711 : Hid (Chg (fun k => k = pm ∨ k = rb ∨ w7.heap.size ≤ k) w7 w11) := (HC10.out.mono (fun z hz => .inl (.inl hz))).trans HC11.out (fun z hz => .inl (hz.elim .inl (fun e => .inr (.inr (Nat.le_trans HSZ.out e)))))
  have HR11 : Hid (MRow w11 rb MS.nil msNone) := HC11.out.heap (HC10.out.heap HR37.out (by have := HS.out; have := HG.out; omega)) (by have := HS.out; have := HG.out; have := HSZ.out; omega)
  go_wp2_with (first | ((with_reducible show wpList _ _ _ (⟨some 41, _, _, _, _, _⟩ :: _) _ _); refine wpL_loadR rowMsZ rfl (.tmp 5) rfl pm rfl (mCells s' M) HZ11.out.row rfl ?_) | ((with_reducible show wpList _ _ _ (⟨none, _, _, _, _, _⟩ :: _) _ _); refine wpL_storeR rowMsZ rfl (.tmp 4) (.tmp 41) rfl rb rfl (mCells s' M) rfl (mCells MS.nil msNone) HR11.out rfl rfl (mCells_one _ _) ?_; intro w12 hr12 hc12; have HR12 : Hid (MRow w12 rb s' M) := hr12; have HC12 := Lib.hid hc12; clear hr12 hc12) | fail)
  refine bodyPost_ret (v := msV s' M) ?_ rfl (HEND.out w12 s' M ?_ ?_ HQ11.out.1 HQ11.out.2 ?_ (HC711.out.trans HC12.out (fun z hz => .inl (.inr (.inl hz)))))
  · exact res_row rowMsZ rfl _ _ rb _ rfl rfl HR12.out
  · rw [HMM.out]; unfold answerP; rw [HYS.out]; rfl
  · rw [HMM.out, fillP_qs]; rfl
  · obtain ⟨Sa, Su, Sx, h1, h2, h3, h4⟩ := HZ11.out.L
    have hlo : w.heap.size ≤ w10.heap.size := by have := HK.out; have := HSZ.out; have := HW7.out.size; omega
    have n1 : ∀ {v : Value} {xs : List RR} {S : Nat → Prop}, RB w10.heap.size w11 v xs S → ∀ b, Blk v S b → ¬ b = rb := fun h b hb e => by
      have h5 := h.geB hb
      have := HS.out; have := HG.out; have := HSZ.out; omega
    exact ⟨Sa, Su, Sx, (h1.chg HC12.out (n1 h1)).base_le hlo, (h2.chg HC12.out (n1 h2)).base_le hlo, (h3.chg HC12.out (n1 h3)).base_le hlo, h4⟩
end Go.Proofs.Ytimkdpkhdbiniaa
