/- Parts of a proof, joined: RMsSnd. -/
import Derived.Test.YtimkdpkhdbiniaaM12
/- The reference's Msg: may a message be? -/
namespace Go.Proofs.Ytimkdpkhdbiniaa
open Go.RowKit
set_option maxRecDepth 100000

theorem allp_take {α : Type} {P : α → Prop} {l : List α} {k : Nat} {x : α} (hx : l[k]? = some x) (h : ∀ y ∈ l.take k, P y) (hp : P x) : ∀ y ∈ l.take (k + 1), P y := by
  intro y hy
  rw [List.take_add_one, hx, Option.toList_some] at hy
  rcases List.mem_append.1 hy with hy | hy
  · exact h y hy
  · rw [List.mem_singleton.1 hy]; exact hp
open Classical in
noncomputable def allK (l : List RR) : Bool := decide (∀ r ∈ l, FineK r)
open Classical in
theorem allK_yes {l : List RR} (h : ∀ r ∈ l, FineK r) : allK l = true := by unfold allK; exact decide_eq_true h
open Classical in
theorem allK_no {l : List RR} (h : ¬ ∀ r ∈ l, FineK r) : allK l = false := by unfold allK; exact decide_eq_false h
open Classical in
theorem allK_iff {l : List RR} : allK l = true ↔ ∀ r ∈ l, FineK r := by unfold allK; exact decide_eq_true_iff
set_option maxHeartbeats 4000000 in
theorem rrecords_any (A : Option Addr) (n c : Nat) (xs : List RR) (w : World) (h : RdE encRR w A n xs) (hn : n ≤ 1000000) (hL : ∀ x ∈ xs, Lt9 x) :
    Calls Try.prog 91 #[.slice A n c] w (RetP (fun v _ => v = .bool (allK xs)) w) := by
  have hl := h.len
  subst hl
  have H := Lib.hid h
  have HL := Lib.hid hL
  clear h hL
  go_enter Try.func91, Try.ntmps91
  go_wp2
  go_loopw [3] (fun iv wr => ∃ k : Nat, iv = .int .i64 k ∧ k ≤ xs.length ∧ Hid (∀ r ∈ xs.take k, FineK r) ∧ Hid (Below w.heap.size w wr)) (fun iv _ => xs.length - (intOf iv).toNat)
  case atStart => exact ⟨0, rfl, Nat.zero_le _, fun r hr => by simp at hr, bl⟩
  case round =>
    obtain ⟨k, rfl, hk, HF, HBW⟩ := hrel
    by_cases hlt : k < xs.length
    · obtain ⟨r, hr⟩ : ∃ r, xs[k]? = some r := ⟨_, List.getElem?_eq_getElem hlt⟩
      have HMEM := Lib.hid (List.mem_of_getElem? hr)
      have HR := Lib.hid hr
      have HLR := Lib.hid (HL.out r HMEM.out)
      obtain ⟨b, off, s, hA, _, hri, hrc⟩ := rr_at H.out hr
      have HRI := Lib.hid (hri.below HBW.out (fun b hb => hb))
      obtain ⟨d0, d1, d2, d3, d4, d5, d6, d7, d8⟩ := hrc.below HBW.out
      have HAA := Lib.hid hA
      rw [hA]
      clear hr hri hrc hA
      by_cases ht : r.type = 41
      · have HNO : Hid (allK xs = false) := allK_no (fun hf => (hf r HMEM.out).1 ht)
        rw [ht] at d1
        clear ht
        go_wp2
        go_ret
        exact ⟨_, rfl, by show Value.bool _ = Value.bool _; rw [HNO.out], HBW.out⟩
      · have HT := Lib.hid ht
        have htb : (r.type == 41) = false := by rw [beq_eq_false_iff_ne]; exact ht
        cases hf : fineRB r with
        | false =>
          have HFB := Lib.hid hf
          have HNO : Hid (allK xs = false) := allK_no (fun h => by have h1 := fineRB_true (h r HMEM.out).2; rw [HFB.out] at h1; cases h1)
          clear hf
          go_wp2_with (first
            | (go_at_call 80; refine (rSound_any s r wr HRI.out (fun b hb => Nat.lt_of_lt_of_le hb HBW.out.size) HLR.out.1 HLR.out.2).mono ?_; rw [HFB.out]; rintro e w2 ⟨v2, rfl, rfl, hb2⟩)
            | fail)
          go_ret
          exact ⟨_, rfl, by show Value.bool _ = Value.bool _; rw [HNO.out], nx HBW.out hb2⟩
        | true =>
          have HFB := Lib.hid hf
          clear hf
          go_wp2_with (first
            | (go_at_call 80; refine (rSound_any s r wr HRI.out (fun b hb => Nat.lt_of_lt_of_le hb HBW.out.size) HLR.out.1 HLR.out.2).mono ?_; rw [HFB.out]; rintro e w2 ⟨v2, rfl, rfl, hb2⟩)
            | fail)
          go_roundw
          case rel => exact ⟨k + 1, by go_num, by omega, allp_take HR.out HF.out ⟨HT.out, fineRB_iff.1 HFB.out⟩, nx HBW.out hb2⟩
          case measure => simp [intOf]; omega
    · obtain rfl : k = xs.length := by omega
      rw [List.take_length] at HF
      go_wp2
      go_ret
      exact ⟨_, rfl, by show Value.bool _ = Value.bool _; rw [allK_yes HF.out], HBW.out⟩

theorem ms_last2 {m : Ms} (h0 : totM m ≤ 512) (h1 : fitsB m.id 2 = true) (h2 : 0 ≤ m.op) (h3 : m.op < 16) (h4 : 0 ≤ m.rcode) (h5 : m.rcode < 16) (h6 : fitsB m.size 2 = true) (h7 : m.edns = true ∨ m.size = 0)
    (hq : ∀ q ∈ m.qs, FineQ q) (ha : allK m.an = true) (hu : allK m.au = true) : fineM m = allK m.ex := by
  cases h : allK m.ex with
  | false => exact fineM_no (fun hf => by rw [allK_yes hf.ex] at h; cases h)
  | true => exact fineM_yes ⟨h0, h1, h2, h3, h4, h5, h6, h7, hq, allK_iff.1 ha, allK_iff.1 hu, allK_iff.1 h⟩
theorem ft2 {n : Int} (h1 : 1 ≤ n) (h2 : n ≤ 65535) : fitsB n 2 = true := by unfold fitsB; simp; omega
theorem ft2_le {n : Int} (h : fitsB n 2 = true) : n ≤ 65535 := by unfold fitsB at h; simp at h; omega

set_option maxHeartbeats 16000000 in
theorem rMsg_any (s : MS) (m : Ms) (w : World) {S : Nat → Prop} (h : MIn S w s m) (hS : ∀ b, S b → b < w.heap.size) (hL : LtM m) :
    Calls Try.prog 51 #[msV s m] w (RetP (fun v _ => v = .bool (fineM m)) w) := by
  obtain ⟨w1, hw1⟩ : ∃ w1, w1 = w.alloc (.cells (mCells s m) 31) := ⟨_, rfl⟩
  have hb1 : Below w.heap.size w w1 := by rw [hw1]; exact bl.alloc (Nat.le_refl _) _
  have HR1 : Hid (MRow w1 w.heap.size s m) := by show MRow _ _ _ _; rw [hw1]; exact MRow.made w s m
  have HI1 := Lib.hid (h.below hb1 hS)
  have HS1 : Hid (∀ b, S b → b < w1.heap.size) := fun b hb => Nat.lt_of_lt_of_le (hS b hb) hb1.size
  have HB1 := Lib.hid hb1
  have HL := Lib.hid hL
  unfold msV
  unfold mCells at hw1 ⊢
  clear h hS hL hb1
  go_enter Try.func51, Try.ntmps51
  go_upto_region 1 with (fail)
  rw [← hw1]
  clear hw1
  generalize w.heap.size = q at HR1 ⊢
  obtain ⟨z0, z1, z2, z3, z4, z5, z6, z7, z8, z9, z10, z11, z12, z13⟩ := HR1.out.cells
  have hqs := HL.out.q
  have has := HL.out.s 0
  have hus := HL.out.s 1
  have hxs := HL.out.s 2
  have HSZ0 : Hid (m.an.length ≤ 1000000) := has
  have HSZ1 : Hid (m.au.length ≤ 1000000) := hus
  have HSZ2 : Hid (m.ex.length ≤ 1000000) := hxs
  have HRL0 : Hid (∀ x ∈ m.an, Lt9 x) := fun x hx => (HL.out.r 0 x hx).1
  have HRL1 : Hid (∀ x ∈ m.au, Lt9 x) := fun x hx => (HL.out.r 1 x hx).1
  have HRL2 : Hid (∀ x ∈ m.ex, Lt9 x) := fun x hx => (HL.out.r 2 x hx).1
  change m.an.length ≤ 1000000 at has
  change m.au.length ≤ 1000000 at hus
  change m.ex.length ≤ 1000000 at hxs
  by_cases a0 : (m.qs.length : Int) ≤ 512
  · skip
    by_cases a1 : (m.an.length : Int) ≤ 512
    · skip
      by_cases a2 : (m.au.length : Int) ≤ 512
      · skip
        by_cases a3 : (m.ex.length : Int) ≤ 512
        · skip
          by_cases a4 : (m.qs.length : Int) + (m.an.length : Int) + (m.au.length : Int) + (m.ex.length : Int) ≤ 512
          · skip
            have H512 : Hid (totM m ≤ 512) := by show _ ≤ _; unfold totM; omega
            go_wp2
            clear z0 z1 z2 z3 z4 z5 z6 z7 z8 z9 z10 z11 z12 z13
            go_loopw [3] (fun iv wr => ∃ k : Nat, iv = .int .i64 k ∧ k ≤ m.qs.length ∧ Hid (∀ x ∈ m.qs.take k, FineQ x) ∧ Hid (Below w1.heap.size w1 wr)) (fun iv _ => m.qs.length - (intOf iv).toNat)
            case atStart => exact ⟨0, rfl, Nat.zero_le _, fun r hr => by simp at hr, bl⟩
            case round =>
              obtain ⟨k, rfl, hk, HF, HBW⟩ := hrel
              have HRW := Lib.hid (HR1.out.below HBW.out)
              obtain ⟨z0, z1, z2, z3, z4, z5, z6, z7, z8, z9, z10, z11, z12, z13⟩ := HRW.out.cells
              by_cases hlt : k < m.qs.length
              · obtain ⟨x, hx⟩ : ∃ x, m.qs[k]? = some x := ⟨_, List.getElem?_eq_getElem hlt⟩
                have HX := Lib.hid hx
                have HMEM := Lib.hid (List.mem_of_getElem? hx)
                have HXL := Lib.hid (HL.out.qn x HMEM.out)
                obtain ⟨b, off, t, hA, hb0, hd, hc⟩ := qu_at HI1.out.q hx
                have hAA := Lib.hid hA
                rw [hA] at z8
                obtain ⟨d0, d1, d2⟩ := hc.below HBW.out
                obtain ⟨w3, hw3⟩ : ∃ w3, w3 = wr.alloc (.cells (qCells t x) 25) := ⟨_, rfl⟩
                have hb3 : Below wr.heap.size wr w3 := by rw [hw3]; exact bl.alloc (Nat.le_refl _) _
                have HB3 := Lib.hid hb3
                have HR3 : Hid (QRow w3 wr.heap.size t x) := by show QRow _ _ _ _; rw [hw3]; exact QRow.made wr t x
                have HD := Lib.hid ((hd.below HBW.out HS1.out).below hb3 (fun b hb => Nat.lt_of_lt_of_le (HS1.out b hb) HBW.out.size))
                have hcmax := hd.ic.2
                have HCM := Lib.hid hcmax
                have HBB := Lib.hid (nx HB1.out (nx HBW.out hb3))
                unfold qCells at hw3
                clear hx hA hb0 hd hc hb3 hcmax
                go_upto_region 7 with (fail)
                rw [← hw3]
                clear hw3 d0 d1 d2 z0 z1 z2 z3 z4 z5 z6 z7 z8 z9 z10 z11 z12 z13
                obtain ⟨x0, x1, x2⟩ := HR3.out.cells
                cases t0 : soundB x.name with
                | false =>
                  have HT0 := Lib.hid t0
                  have HNO : Hid (fineM m = false) := fineM_no (fun hf => by have h1 := soundB_iff.2 (hf.qs x HMEM.out).1; rw [HT0.out] at h1; cases h1)
                  clear t0
                  go_wp2_with (first
                    | (go_at_call 27; refine (rsound_any t.A _ t.c x.name w3 HD.out.n).mono ?_; rw [HT0.out]; rintro e w4 ⟨rfl, rfl⟩)
                    | fail)
                  go_ret
                  exact ⟨_, rfl, by show Value.bool _ = Value.bool _; rw [HNO.out], HBB.out⟩
                | true =>
                  have HT0 := Lib.hid t0
                  clear t0
                  by_cases t1 : x.type < 1
                  · have HNO : Hid (fineM m = false) := fineM_no (fun hf => by have h1 := (hf.qs x HMEM.out).2.1; omega)
                    go_wp2_with (first
                      | (go_at_call 27; refine (rsound_any t.A _ t.c x.name w3 HD.out.n).mono ?_; rw [HT0.out]; rintro e w4 ⟨rfl, rfl⟩)
                      | fail)
                    go_ret
                    exact ⟨_, rfl, by show Value.bool _ = Value.bool _; rw [HNO.out], HBB.out⟩
                  · by_cases t2 : 65535 < x.type
                    · have HNO : Hid (fineM m = false) := fineM_no (fun hf => by have h1 := ft2_le (hf.qs x HMEM.out).2.2.1; omega)
                      go_wp2_with (first
                        | (go_at_call 27; refine (rsound_any t.A _ t.c x.name w3 HD.out.n).mono ?_; rw [HT0.out]; rintro e w4 ⟨rfl, rfl⟩)
                        | fail)
                      go_ret
                      exact ⟨_, rfl, by show Value.bool _ = Value.bool _; rw [HNO.out], HBB.out⟩
                    · cases t3 : fitsB x.cls 2 with
                      | false =>
                        have HT3 := Lib.hid t3
                        have HNO : Hid (fineM m = false) := fineM_no (fun hf => by have h1 := (hf.qs x HMEM.out).2.2.2; rw [HT3.out] at h1; cases h1)
                        clear t3
                        go_wp2_with (first
                          | (go_at_call 90; refine (rfits_any x.cls 2 w3 HCM.out).mono ?_; rw [HT3.out]; rintro e w5 ⟨rfl, rfl⟩)
                          | (go_at_call 27; refine (rsound_any t.A _ t.c x.name w3 HD.out.n).mono ?_; rw [HT0.out]; rintro e w4 ⟨rfl, rfl⟩)
                          | fail)
                        go_ret
                        exact ⟨_, rfl, by show Value.bool _ = Value.bool _; rw [HNO.out], HBB.out⟩
                      | true =>
                        have HT3 := Lib.hid t3
                        have HFQ : Hid (FineQ x) := ⟨soundB_iff.1 HT0.out, by omega, ft2 (by omega) (by omega), t3⟩
                        clear t3
                        go_wp2_with (first
                          | (go_at_call 90; refine (rfits_any x.cls 2 w3 HCM.out).mono ?_; rw [HT3.out]; rintro e w5 ⟨rfl, rfl⟩)
                          | (go_at_call 27; refine (rsound_any t.A _ t.c x.name w3 HD.out.n).mono ?_; rw [HT0.out]; rintro e w4 ⟨rfl, rfl⟩)
                          | fail)
                        go_roundw
                        case rel => exact ⟨k + 1, by go_num, by omega, allp_take HX.out HF.out HFQ.out, nx HBW.out HB3.out⟩
                        case measure => simp [intOf]; omega
              · obtain rfl : k = m.qs.length := by omega
                rw [List.take_length] at HF
                have HI := Lib.hid (HI1.out.below HBW.out HS1.out)
                have HSW : Hid (∀ b, S b → b < wr.heap.size) := fun b hb => Nat.lt_of_lt_of_le (HS1.out b hb) HBW.out.size
                have HBB := Lib.hid (nx HB1.out HBW.out)
                have HIM := Lib.hid (And.intro HI1.out.ii.2 HI1.out.is.2)
                have HEa : Hid (RdE encRR wr s.A m.an.length m.an) := HI.out.a.mono HSW.out HSW.out
                have HEu : Hid (RdE encRR wr s.U m.au.length m.au) := HI.out.u.mono HSW.out HSW.out
                have HEx : Hid (RdE encRR wr s.X m.ex.length m.ex) := HI.out.x.mono HSW.out HSW.out
                clear hlt hk a0 a1 a2 a3 a4 hqs has hus hxs
                cases t0 : fitsB m.id 2 with
                | false =>
                  have HT0 := Lib.hid t0
                  clear t0
                  go_wp2_with (first
                    | (go_at_call 90; (with_reducible refine (rfits_any m.id 2 wr HIM.out.1).mono ?_); rw [HT0.out]; rintro e w3 ⟨rfl, rfl⟩)
                    | fail)
                  go_ret
                  exact ⟨_, rfl, by show Value.bool _ = Value.bool _; rw [fineM_no (fun hf => by have h1 := hf.id; rw [HT0.out] at h1; cases h1)], HBB.out⟩
                | true =>
                  have HT0 := Lib.hid t0
                  clear t0
                  by_cases t1 : 0 ≤ m.op
                  · skip
                    by_cases t2 : m.op ≤ 15
                    · skip
                      by_cases t3 : 0 ≤ m.rcode
                      · skip
                        by_cases t4 : m.rcode ≤ 15
                        · skip
                          cases t5 : fitsB m.size 2 with
                          | false =>
                            have HT5 := Lib.hid t5
                            clear t5
                            go_wp2_with (first
                              | (go_at_call 90; (with_reducible refine (rfits_any m.size 2 wr HIM.out.2).mono ?_); rw [HT5.out]; rintro e w4 ⟨rfl, rfl⟩)
                              | (go_at_call 90; (with_reducible refine (rfits_any m.id 2 wr HIM.out.1).mono ?_); rw [HT0.out]; rintro e w3 ⟨rfl, rfl⟩)
                              | fail)
                            go_ret
                            exact ⟨_, rfl, by show Value.bool _ = Value.bool _; rw [fineM_no (fun hf => by have h1 := hf.size; rw [HT5.out] at h1; cases h1)], HBB.out⟩
                          | true =>
                            have HT5 := Lib.hid t5
                            clear t5
                            cases t6 : m.edns with
                            | true =>
                              have HT6 := Lib.hid t6
                              rw [t6] at z12
                              clear t6
                              cases ta : allK m.an with
                              | false =>
                                have HTA := Lib.hid ta
                                clear ta
                                go_wp2_with (first
                                  | (go_at_call 91; (with_reducible refine (rrecords_any s.A m.an.length s.ac m.an wr (HEa.out) HSZ0.out HRL0.out).mono ?_); rw [HTA.out]; rintro e wa ⟨vwa, rfl, rfl, hwa⟩; have y10 := below_cell hwa z10)
                                  | (go_at_call 90; (with_reducible refine (rfits_any m.size 2 wr HIM.out.2).mono ?_); rw [HT5.out]; rintro e w4 ⟨rfl, rfl⟩)
                                  | (go_at_call 90; (with_reducible refine (rfits_any m.id 2 wr HIM.out.1).mono ?_); rw [HT0.out]; rintro e w3 ⟨rfl, rfl⟩)
                                  | fail)
                                go_ret
                                exact ⟨_, rfl, by show Value.bool _ = Value.bool _; rw [fineM_no (fun hf => by have h1 := allK_yes hf.an; rw [HTA.out] at h1; cases h1)], nx HBB.out hwa⟩
                              | true =>
                                have HTA := Lib.hid ta
                                clear ta
                                cases tu : allK m.au with
                                | false =>
                                  have HTU := Lib.hid tu
                                  clear tu
                                  go_wp2_with (first
                                    | (go_at_call 91; (with_reducible refine (rrecords_any s.U m.au.length s.uc m.au wa (RdE.below HEu.out hwa) HSZ1.out HRL1.out).mono ?_); rw [HTU.out]; rintro e wu ⟨vwu, rfl, rfl, hwu⟩; have y11 := below_cell hwu (below_cell hwa z11))
                                    | (go_at_call 91; (with_reducible refine (rrecords_any s.A m.an.length s.ac m.an wr (HEa.out) HSZ0.out HRL0.out).mono ?_); rw [HTA.out]; rintro e wa ⟨vwa, rfl, rfl, hwa⟩; have y10 := below_cell hwa z10)
                                    | (go_at_call 90; (with_reducible refine (rfits_any m.size 2 wr HIM.out.2).mono ?_); rw [HT5.out]; rintro e w4 ⟨rfl, rfl⟩)
                                    | (go_at_call 90; (with_reducible refine (rfits_any m.id 2 wr HIM.out.1).mono ?_); rw [HT0.out]; rintro e w3 ⟨rfl, rfl⟩)
                                    | fail)
                                  go_ret
                                  exact ⟨_, rfl, by show Value.bool _ = Value.bool _; rw [fineM_no (fun hf => by have h1 := allK_yes hf.au; rw [HTU.out] at h1; cases h1)], nx (nx HBB.out hwa) hwu⟩
                                | true =>
                                  have HTU := Lib.hid tu
                                  clear tu
                                  go_wp2_with (first
                                    | (go_at_call 91; (with_reducible refine (rrecords_any s.X m.ex.length s.xc m.ex wu (RdE.below HEx.out (nx hwa hwu)) HSZ2.out HRL2.out).mono ?_); rintro e wx ⟨vwx, rfl, rfl, hwx⟩)
                                    | (go_at_call 91; (with_reducible refine (rrecords_any s.U m.au.length s.uc m.au wa (RdE.below HEu.out hwa) HSZ1.out HRL1.out).mono ?_); rw [HTU.out]; rintro e wu ⟨vwu, rfl, rfl, hwu⟩; have y11 := below_cell hwu (below_cell hwa z11))
                                    | (go_at_call 91; (with_reducible refine (rrecords_any s.A m.an.length s.ac m.an wr (HEa.out) HSZ0.out HRL0.out).mono ?_); rw [HTA.out]; rintro e wa ⟨vwa, rfl, rfl, hwa⟩; have y10 := below_cell hwa z10)
                                    | (go_at_call 90; (with_reducible refine (rfits_any m.size 2 wr HIM.out.2).mono ?_); rw [HT5.out]; rintro e w4 ⟨rfl, rfl⟩)
                                    | (go_at_call 90; (with_reducible refine (rfits_any m.id 2 wr HIM.out.1).mono ?_); rw [HT0.out]; rintro e w3 ⟨rfl, rfl⟩)
                                    | fail)
                                  go_ret
                                  exact ⟨_, rfl, by show Value.bool _ = Value.bool _; rw [ms_last2 H512.out HT0.out t1 (by omega) t3 (by omega) HT5.out (.inl HT6.out) HF.out HTA.out HTU.out], nx (nx (nx HBB.out hwa) hwu) hwx⟩
                            | false =>
                              have HT6 := Lib.hid t6
                              rw [t6] at z12
                              clear t6
                              by_cases t7 : m.size = 0
                              · have HT7 := Lib.hid t7
                                rw [t7] at z13
                                have HZ5 : Hid (fitsB 0 2 = true) := rfl
                                have HM0 : Hid ((0 : Int) ≤ 9223372036854775807) := (by decide : (0 : Int) ≤ 9223372036854775807)
                                clear t7
                                cases ta : allK m.an with
                                | false =>
                                  have HTA := Lib.hid ta
                                  clear ta
                                  go_wp2_with (first
                                    | (go_at_call 91; (with_reducible refine (rrecords_any s.A m.an.length s.ac m.an wr (HEa.out) HSZ0.out HRL0.out).mono ?_); rw [HTA.out]; rintro e wa ⟨vwa, rfl, rfl, hwa⟩; have y10 := below_cell hwa z10)
                                    | (go_at_call 90; (with_reducible refine (rfits_any 0 2 wr HM0.out).mono ?_); rw [HZ5.out]; rintro e w4 ⟨rfl, rfl⟩)
                                    | (go_at_call 90; (with_reducible refine (rfits_any m.id 2 wr HIM.out.1).mono ?_); rw [HT0.out]; rintro e w3 ⟨rfl, rfl⟩)
                                    | fail)
                                  go_ret
                                  exact ⟨_, rfl, by show Value.bool _ = Value.bool _; rw [fineM_no (fun hf => by have h1 := allK_yes hf.an; rw [HTA.out] at h1; cases h1)], nx HBB.out hwa⟩
                                | true =>
                                  have HTA := Lib.hid ta
                                  clear ta
                                  cases tu : allK m.au with
                                  | false =>
                                    have HTU := Lib.hid tu
                                    clear tu
                                    go_wp2_with (first
                                      | (go_at_call 91; (with_reducible refine (rrecords_any s.U m.au.length s.uc m.au wa (RdE.below HEu.out hwa) HSZ1.out HRL1.out).mono ?_); rw [HTU.out]; rintro e wu ⟨vwu, rfl, rfl, hwu⟩; have y11 := below_cell hwu (below_cell hwa z11))
                                      | (go_at_call 91; (with_reducible refine (rrecords_any s.A m.an.length s.ac m.an wr (HEa.out) HSZ0.out HRL0.out).mono ?_); rw [HTA.out]; rintro e wa ⟨vwa, rfl, rfl, hwa⟩; have y10 := below_cell hwa z10)
                                      | (go_at_call 90; (with_reducible refine (rfits_any 0 2 wr HM0.out).mono ?_); rw [HZ5.out]; rintro e w4 ⟨rfl, rfl⟩)
                                      | (go_at_call 90; (with_reducible refine (rfits_any m.id 2 wr HIM.out.1).mono ?_); rw [HT0.out]; rintro e w3 ⟨rfl, rfl⟩)
                                      | fail)
                                    go_ret
                                    exact ⟨_, rfl, by show Value.bool _ = Value.bool _; rw [fineM_no (fun hf => by have h1 := allK_yes hf.au; rw [HTU.out] at h1; cases h1)], nx (nx HBB.out hwa) hwu⟩
                                  | true =>
                                    have HTU := Lib.hid tu
                                    clear tu
                                    go_wp2_with (first
                                      | (go_at_call 91; (with_reducible refine (rrecords_any s.X m.ex.length s.xc m.ex wu (RdE.below HEx.out (nx hwa hwu)) HSZ2.out HRL2.out).mono ?_); rintro e wx ⟨vwx, rfl, rfl, hwx⟩)
                                      | (go_at_call 91; (with_reducible refine (rrecords_any s.U m.au.length s.uc m.au wa (RdE.below HEu.out hwa) HSZ1.out HRL1.out).mono ?_); rw [HTU.out]; rintro e wu ⟨vwu, rfl, rfl, hwu⟩; have y11 := below_cell hwu (below_cell hwa z11))
                                      | (go_at_call 91; (with_reducible refine (rrecords_any s.A m.an.length s.ac m.an wr (HEa.out) HSZ0.out HRL0.out).mono ?_); rw [HTA.out]; rintro e wa ⟨vwa, rfl, rfl, hwa⟩; have y10 := below_cell hwa z10)
                                      | (go_at_call 90; (with_reducible refine (rfits_any 0 2 wr HM0.out).mono ?_); rw [HZ5.out]; rintro e w4 ⟨rfl, rfl⟩)
                                      | (go_at_call 90; (with_reducible refine (rfits_any m.id 2 wr HIM.out.1).mono ?_); rw [HT0.out]; rintro e w3 ⟨rfl, rfl⟩)
                                      | fail)
                                    go_ret
                                    exact ⟨_, rfl, by show Value.bool _ = Value.bool _; rw [ms_last2 H512.out HT0.out t1 (by omega) t3 (by omega) HT5.out (.inr HT7.out) HF.out HTA.out HTU.out], nx (nx (nx HBB.out hwa) hwu) hwx⟩
                              · have t7b : (m.size == 0) = false := by rw [beq_eq_false_iff_ne]; exact t7
                                go_wp2_with (first
                                  | (go_at_call 90; (with_reducible refine (rfits_any m.size 2 wr HIM.out.2).mono ?_); rw [HT5.out]; rintro e w4 ⟨rfl, rfl⟩)
                                  | (go_at_call 90; (with_reducible refine (rfits_any m.id 2 wr HIM.out.1).mono ?_); rw [HT0.out]; rintro e w3 ⟨rfl, rfl⟩)
                                  | fail)
                                go_ret
                                exact ⟨_, rfl, by show Value.bool _ = Value.bool _; rw [fineM_no (fun hf => by have h1 := hf.edns; rw [HT6.out] at h1; exact h1.elim (fun h => by cases h) t7)], HBB.out⟩
                        · skip
                          go_wp2_with (first
                            | (go_at_call 90; (with_reducible refine (rfits_any m.id 2 wr HIM.out.1).mono ?_); rw [HT0.out]; rintro e w3 ⟨rfl, rfl⟩)
                            | fail)
                          go_ret
                          exact ⟨_, rfl, by show Value.bool _ = Value.bool _; rw [fineM_no (fun hf => by have := hf.rc; omega)], HBB.out⟩
                      · skip
                        go_wp2_with (first
                          | (go_at_call 90; (with_reducible refine (rfits_any m.id 2 wr HIM.out.1).mono ?_); rw [HT0.out]; rintro e w3 ⟨rfl, rfl⟩)
                          | fail)
                        go_ret
                        exact ⟨_, rfl, by show Value.bool _ = Value.bool _; rw [fineM_no (fun hf => by have := hf.rc0; omega)], HBB.out⟩
                    · skip
                      go_wp2_with (first
                        | (go_at_call 90; (with_reducible refine (rfits_any m.id 2 wr HIM.out.1).mono ?_); rw [HT0.out]; rintro e w3 ⟨rfl, rfl⟩)
                        | fail)
                      go_ret
                      exact ⟨_, rfl, by show Value.bool _ = Value.bool _; rw [fineM_no (fun hf => by have := hf.op; omega)], HBB.out⟩
                  · skip
                    go_wp2_with (first
                      | (go_at_call 90; (with_reducible refine (rfits_any m.id 2 wr HIM.out.1).mono ?_); rw [HT0.out]; rintro e w3 ⟨rfl, rfl⟩)
                      | fail)
                    go_ret
                    exact ⟨_, rfl, by show Value.bool _ = Value.bool _; rw [fineM_no (fun hf => by have := hf.op0; omega)], HBB.out⟩
          · skip
            have HNO : Hid (fineM m = false) := fineM_no (fun hf => by have h1 := hf.tot; unfold totM at h1; omega)
            go_wp2
            go_ret
            exact ⟨_, rfl, by show Value.bool _ = Value.bool _; rw [HNO.out], HB1.out⟩
        · skip
          have HNO : Hid (fineM m = false) := fineM_no (fun hf => by have h1 := hf.tot; unfold totM at h1; omega)
          go_wp2
          go_ret
          exact ⟨_, rfl, by show Value.bool _ = Value.bool _; rw [HNO.out], HB1.out⟩
      · skip
        have HNO : Hid (fineM m = false) := fineM_no (fun hf => by have h1 := hf.tot; unfold totM at h1; omega)
        go_wp2
        go_ret
        exact ⟨_, rfl, by show Value.bool _ = Value.bool _; rw [HNO.out], HB1.out⟩
    · skip
      have HNO : Hid (fineM m = false) := fineM_no (fun hf => by have h1 := hf.tot; unfold totM at h1; omega)
      go_wp2
      go_ret
      exact ⟨_, rfl, by show Value.bool _ = Value.bool _; rw [HNO.out], HB1.out⟩
  · skip
    have HNO : Hid (fineM m = false) := fineM_no (fun hf => by have h1 := hf.tot; unfold totM at h1; omega)
    go_wp2
    go_ret
    exact ⟨_, rfl, by show Value.bool _ = Value.bool _; rw [HNO.out], HB1.out⟩
end Go.Proofs.Ytimkdpkhdbiniaa
