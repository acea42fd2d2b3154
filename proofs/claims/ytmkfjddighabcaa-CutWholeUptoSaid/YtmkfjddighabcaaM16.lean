/- Parts of a proof, joined: RMsSnd, Light6. -/
import Derived.Test.YtmkfjddighabcaaM12
import Derived.Test.YtmkfjddighabcaaM15
/- The reference's Msg: may a message be? -/
namespace Go.Proofs.Ytmkfjddighabcaa
open Go.RowKit
set_option maxRecDepth 100000

theorem allp_take {α : Type} {P : α → Prop} {l : List α} {k : Nat} {x : α} (hx : l[k]? = some x) (h : ∀ y ∈ l.take k, P y) (hp : P x) : ∀ y ∈ l.take (k + 1), P y := by
  intro y hy
  rw [List.take_add_one, hx, Option.toList_some] at hy
  rcases List.mem_append.1 hy with hy | hy
  · exact h y hy
  · rw [List.mem_singleton.1 hy]; exact hp
open Classical in
noncomputable def allK (l : List RR) : Bool := decide (∀ r ∈ l, FineK r)
open Classical in
theorem allK_yes {l : List RR} (h : ∀ r ∈ l, FineK r) : allK l = true := by unfold allK; exact decide_eq_true h
open Classical in
theorem allK_no {l : List RR} (h : ¬ ∀ r ∈ l, FineK r) : allK l = false := by unfold allK; exact decide_eq_false h
open Classical in
theorem allK_iff {l : List RR} : allK l = true ↔ ∀ r ∈ l, FineK r := by unfold allK; exact decide_eq_true_iff
set_option maxHeartbeats 4000000 in
theorem rrecords_any (A : Option Addr) (n c : Nat) (xs : List RR) (w : World) (h : RdE encRR w A n xs) (hn : n ≤ 1000000) (hL : ∀ x ∈ xs, Lt9 x) :
    Calls Try.prog 60 #[.slice A n c] w (RetP (fun v _ => v = .bool (allK xs)) w) := by
  have hl := h.len
  subst hl
  have H := Lib.hid h
  have HL := Lib.hid hL
  clear h hL
  go_enter Try.func60, Try.ntmps60
  go_wp2
  go_loopw [3] (fun iv wr => ∃ k : Nat, iv = .int .i64 k ∧ k ≤ xs.length ∧ Hid (∀ r ∈ xs.take k, FineK r) ∧ Hid (Below w.heap.size w wr)) (fun iv _ => xs.length - (intOf iv).toNat)
  case atStart => exact ⟨0, rfl, Nat.zero_le _, fun r hr => by simp at hr, bl⟩
  case round =>
    obtain ⟨k, rfl, hk, HF, HBW⟩ := hrel
    by_cases hlt : k < xs.length
    · obtain ⟨r, hr⟩ : ∃ r, xs[k]? = some r := ⟨_, List.getElem?_eq_getElem hlt⟩
      have HMEM := Lib.hid (List.mem_of_getElem? hr)
      have HR := Lib.hid hr
      have HLR := Lib.hid (HL.out r HMEM.out)
      obtain ⟨b, off, s, hA, _, hri, hrc⟩ := rr_at H.out hr
      have HRI := Lib.hid (hri.below HBW.out (fun b hb => hb))
      obtain ⟨d0, d1, d2, d3, d4, d5, d6, d7, d8⟩ := hrc.below HBW.out
      have HAA := Lib.hid hA
      rw [hA]
      clear hr hri hrc hA
      by_cases ht : r.type = 41
      · have HNO : Hid (allK xs = false) := allK_no (fun hf => (hf r HMEM.out).1 ht)
        rw [ht] at d1
        clear ht
        go_wp2
        go_ret
        exact ⟨_, rfl, by show Value.bool _ = Value.bool _; rw [HNO.out], HBW.out⟩
      · have HT := Lib.hid ht
        have htb : (r.type == 41) = false := by rw [beq_eq_false_iff_ne]; exact ht
        cases hf : fineRB r with
        | false =>
          have HFB := Lib.hid hf
          have HNO : Hid (allK xs = false) := allK_no (fun h => by have h1 := fineRB_true (h r HMEM.out).2; rw [HFB.out] at h1; cases h1)
          clear hf
          go_wp2_with (first
            | (go_at_call 100; refine (rSound_any s r wr HRI.out (fun b hb => Nat.lt_of_lt_of_le hb HBW.out.size) HLR.out.1 HLR.out.2).mono ?_; rw [HFB.out]; rintro e w2 ⟨v2, rfl, rfl, hb2⟩)
            | fail)
          go_ret
          exact ⟨_, rfl, by show Value.bool _ = Value.bool _; rw [HNO.out], nx HBW.out hb2⟩
        | true =>
          have HFB := Lib.hid hf
          clear hf
          go_wp2_with (first
            | (go_at_call 100; refine (rSound_any s r wr HRI.out (fun b hb => Nat.lt_of_lt_of_le hb HBW.out.size) HLR.out.1 HLR.out.2).mono ?_; rw [HFB.out]; rintro e w2 ⟨v2, rfl, rfl, hb2⟩)
            | fail)
          go_roundw
          case rel => exact ⟨k + 1, by go_num, by omega, allp_take HR.out HF.out ⟨HT.out, fineRB_iff.1 HFB.out⟩, nx HBW.out hb2⟩
          case measure => simp [intOf]; omega
    · obtain rfl : k = xs.length := by omega
      rw [List.take_length] at HF
      go_wp2
      go_ret
      exact ⟨_, rfl, by show Value.bool _ = Value.bool _; rw [allK_yes HF.out], HBW.out⟩

theorem ms_last2 {m : Ms} (h0 : totM m ≤ 512) (h1 : fitsB m.id 2 = true) (h2 : 0 ≤ m.op) (h3 : m.op < 16) (h4 : 0 ≤ m.rcode) (h5 : m.rcode < 16) (h6 : fitsB m.size 2 = true) (h7 : m.edns = true ∨ m.size = 0)
    (hq : ∀ q ∈ m.qs, FineQ q) (ha : allK m.an = true) (hu : allK m.au = true) : fineM m = allK m.ex := by
  cases h : allK m.ex with
  | false => exact fineM_no (fun hf => by rw [allK_yes hf.ex] at h; cases h)
  | true => exact fineM_yes ⟨h0, h1, h2, h3, h4, h5, h6, h7, hq, allK_iff.1 ha, allK_iff.1 hu, allK_iff.1 h⟩
theorem ft2 {n : Int} (h1 : 1 ≤ n) (h2 : n ≤ 65535) : fitsB n 2 = true := by unfold fitsB; simp; omega
theorem ft2_le {n : Int} (h : fitsB n 2 = true) : n ≤ 65535 := by unfold fitsB at h; simp at h; omega

set_option maxHeartbeats 16000000 in
theorem rMsg_any (s : MS) (m : Ms) (w : World) {S : Nat → Prop} (h : MIn S w s m) (hS : ∀ b, S b → b < w.heap.size) (hL : LtM m) :
    Calls Try.prog 22 #[msV s m] w (RetP (fun v _ => v = .bool (fineM m)) w) := by
  obtain ⟨w1, hw1⟩ : ∃ w1, w1 = w.alloc (.cells (mCells s m) 25) := ⟨_, rfl⟩
  have hb1 : Below w.heap.size w w1 := by rw [hw1]; exact bl.alloc (Nat.le_refl _) _
  have HR1 : Hid (MRow w1 w.heap.size s m) := by show MRow _ _ _ _; rw [hw1]; exact MRow.made w s m
  have HI1 := Lib.hid (h.below hb1 hS)
  have HS1 : Hid (∀ b, S b → b < w1.heap.size) := fun b hb => Nat.lt_of_lt_of_le (hS b hb) hb1.size
  have HB1 := Lib.hid hb1
  have HL := Lib.hid hL
  unfold msV
  unfold mCells at hw1 ⊢
  clear h hS hL hb1
  go_enter Try.func22, Try.ntmps22
  go_upto_region 1 with (fail)
  rw [← hw1]
  clear hw1
  generalize w.heap.size = q at HR1 ⊢
  obtain ⟨z0, z1, z2, z3, z4, z5, z6, z7, z8, z9, z10, z11, z12, z13⟩ := HR1.out.cells
  have hqs := HL.out.q
  have has := HL.out.s 0
  have hus := HL.out.s 1
  have hxs := HL.out.s 2
  have HSZ0 : Hid (m.an.length ≤ 1000000) := has
  have HSZ1 : Hid (m.au.length ≤ 1000000) := hus
  have HSZ2 : Hid (m.ex.length ≤ 1000000) := hxs
  have HRL0 : Hid (∀ x ∈ m.an, Lt9 x) := fun x hx => (HL.out.r 0 x hx).1
  have HRL1 : Hid (∀ x ∈ m.au, Lt9 x) := fun x hx => (HL.out.r 1 x hx).1
  have HRL2 : Hid (∀ x ∈ m.ex, Lt9 x) := fun x hx => (HL.out.r 2 x hx).1
  change m.an.length ≤ 1000000 at has
  change m.au.length ≤ 1000000 at hus
  change m.ex.length ≤ 1000000 at hxs
  by_cases a0 : (m.qs.length : Int) ≤ 512
  · skip
    by_cases a1 : (m.an.length : Int) ≤ 512
    · skip
      by_cases a2 : (m.au.length : Int) ≤ 512
      · skip
        by_cases a3 : (m.ex.length : Int) ≤ 512
        · skip
          by_cases a4 : (m.qs.length : Int) + (m.an.length : Int) + (m.au.length : Int) + (m.ex.length : Int) ≤ 512
          · skip
            have H512 : Hid (totM m ≤ 512) := by show _ ≤ _; unfold totM; omega
            go_wp2
            clear z0 z1 z2 z3 z4 z5 z6 z7 z8 z9 z10 z11 z12 z13
            go_loopw [3] (fun iv wr => ∃ k : Nat, iv = .int .i64 k ∧ k ≤ m.qs.length ∧ Hid (∀ x ∈ m.qs.take k, FineQ x) ∧ Hid (Below w1.heap.size w1 wr)) (fun iv _ => m.qs.length - (intOf iv).toNat)
            case atStart => exact ⟨0, rfl, Nat.zero_le _, fun r hr => by simp at hr, bl⟩
            case round =>
              obtain ⟨k, rfl, hk, HF, HBW⟩ := hrel
              have HRW := Lib.hid (HR1.out.below HBW.out)
              obtain ⟨z0, z1, z2, z3, z4, z5, z6, z7, z8, z9, z10, z11, z12, z13⟩ := HRW.out.cells
              by_cases hlt : k < m.qs.length
              · obtain ⟨x, hx⟩ : ∃ x, m.qs[k]? = some x := ⟨_, List.getElem?_eq_getElem hlt⟩
                have HX := Lib.hid hx
                have HMEM := Lib.hid (List.mem_of_getElem? hx)
                have HXL := Lib.hid (HL.out.qn x HMEM.out)
                obtain ⟨b, off, t, hA, hb0, hd, hc⟩ := qu_at HI1.out.q hx
                have hAA := Lib.hid hA
                rw [hA] at z8
                obtain ⟨d0, d1, d2⟩ := hc.below HBW.out
                obtain ⟨w3, hw3⟩ : ∃ w3, w3 = wr.alloc (.cells (qCells t x) 50) := ⟨_, rfl⟩
                have hb3 : Below wr.heap.size wr w3 := by rw [hw3]; exact bl.alloc (Nat.le_refl _) _
                have HB3 := Lib.hid hb3
                have HR3 : Hid (QRow w3 wr.heap.size t x) := by show QRow _ _ _ _; rw [hw3]; exact QRow.made wr t x
                have HD := Lib.hid ((hd.below HBW.out HS1.out).below hb3 (fun b hb => Nat.lt_of_lt_of_le (HS1.out b hb) HBW.out.size))
                have hcmax := hd.ic.2
                have HCM := Lib.hid hcmax
                have HBB := Lib.hid (nx HB1.out (nx HBW.out hb3))
                unfold qCells at hw3
                clear hx hA hb0 hd hc hb3 hcmax
                go_upto_region 7 with (fail)
                rw [← hw3]
                clear hw3 d0 d1 d2 z0 z1 z2 z3 z4 z5 z6 z7 z8 z9 z10 z11 z12 z13
                obtain ⟨x0, x1, x2⟩ := HR3.out.cells
                cases t0 : soundB x.name with
                | false =>
                  have HT0 := Lib.hid t0
                  have HNO : Hid (fineM m = false) := fineM_no (fun hf => by have h1 := soundB_iff.2 (hf.qs x HMEM.out).1; rw [HT0.out] at h1; cases h1)
                  clear t0
                  go_wp2_with (first
                    | (go_at_call 58; refine (rsound_any t.A _ t.c x.name w3 HD.out.n).mono ?_; rw [HT0.out]; rintro e w4 ⟨rfl, rfl⟩)
                    | fail)
                  go_ret
                  exact ⟨_, rfl, by show Value.bool _ = Value.bool _; rw [HNO.out], HBB.out⟩
                | true =>
                  have HT0 := Lib.hid t0
                  clear t0
                  by_cases t1 : x.type < 1
                  · have HNO : Hid (fineM m = false) := fineM_no (fun hf => by have h1 := (hf.qs x HMEM.out).2.1; omega)
                    go_wp2_with (first
                      | (go_at_call 58; refine (rsound_any t.A _ t.c x.name w3 HD.out.n).mono ?_; rw [HT0.out]; rintro e w4 ⟨rfl, rfl⟩)
                      | fail)
                    go_ret
                    exact ⟨_, rfl, by show Value.bool _ = Value.bool _; rw [HNO.out], HBB.out⟩
                  · by_cases t2 : 65535 < x.type
                    · have HNO : Hid (fineM m = false) := fineM_no (fun hf => by have h1 := ft2_le (hf.qs x HMEM.out).2.2.1; omega)
                      go_wp2_with (first
                        | (go_at_call 58; refine (rsound_any t.A _ t.c x.name w3 HD.out.n).mono ?_; rw [HT0.out]; rintro e w4 ⟨rfl, rfl⟩)
                        | fail)
                      go_ret
                      exact ⟨_, rfl, by show Value.bool _ = Value.bool _; rw [HNO.out], HBB.out⟩
                    · cases t3 : fitsB x.cls 2 with
                      | false =>
                        have HT3 := Lib.hid t3
                        have HNO : Hid (fineM m = false) := fineM_no (fun hf => by have h1 := (hf.qs x HMEM.out).2.2.2; rw [HT3.out] at h1; cases h1)
                        clear t3
                        go_wp2_with (first
                          | (go_at_call 59; refine (rfits_any x.cls 2 w3 HCM.out).mono ?_; rw [HT3.out]; rintro e w5 ⟨rfl, rfl⟩)
                          | (go_at_call 58; refine (rsound_any t.A _ t.c x.name w3 HD.out.n).mono ?_; rw [HT0.out]; rintro e w4 ⟨rfl, rfl⟩)
                          | fail)
                        go_ret
                        exact ⟨_, rfl, by show Value.bool _ = Value.bool _; rw [HNO.out], HBB.out⟩
                      | true =>
                        have HT3 := Lib.hid t3
                        have HFQ : Hid (FineQ x) := ⟨soundB_iff.1 HT0.out, by omega, ft2 (by omega) (by omega), t3⟩
                        clear t3
                        go_wp2_with (first
                          | (go_at_call 59; refine (rfits_any x.cls 2 w3 HCM.out).mono ?_; rw [HT3.out]; rintro e w5 ⟨rfl, rfl⟩)
                          | (go_at_call 58; refine (rsound_any t.A _ t.c x.name w3 HD.out.n).mono ?_; rw [HT0.out]; rintro e w4 ⟨rfl, rfl⟩)
                          | fail)
                        go_roundw
                        case rel => exact ⟨k + 1, by go_num, by omega, allp_take HX.out HF.out HFQ.out, nx HBW.out HB3.out⟩
                        case measure => simp [intOf]; omega
              · obtain rfl : k = m.qs.length := by omega
                rw [List.take_length] at HF
                have HI := Lib.hid (HI1.out.below HBW.out HS1.out)
                have HSW : Hid (∀ b, S b → b < wr.heap.size) := fun b hb => Nat.lt_of_lt_of_le (HS1.out b hb) HBW.out.size
                have HBB := Lib.hid (nx HB1.out HBW.out)
                have HIM := Lib.hid (And.intro HI1.out.ii.2 HI1.out.is.2)
                have HEa : Hid (RdE encRR wr s.A m.an.length m.an) := HI.out.a.mono HSW.out HSW.out
                have HEu : Hid (RdE encRR wr s.U m.au.length m.au) := HI.out.u.mono HSW.out HSW.out
                have HEx : Hid (RdE encRR wr s.X m.ex.length m.ex) := HI.out.x.mono HSW.out HSW.out
                clear hlt hk a0 a1 a2 a3 a4 hqs has hus hxs
                cases t0 : fitsB m.id 2 with
                | false =>
                  have HT0 := Lib.hid t0
                  clear t0
                  go_wp2_with (first
                    | (go_at_call 59; (with_reducible refine (rfits_any m.id 2 wr HIM.out.1).mono ?_); rw [HT0.out]; rintro e w3 ⟨rfl, rfl⟩)
                    | fail)
                  go_ret
                  exact ⟨_, rfl, by show Value.bool _ = Value.bool _; rw [fineM_no (fun hf => by have h1 := hf.id; rw [HT0.out] at h1; cases h1)], HBB.out⟩
                | true =>
                  have HT0 := Lib.hid t0
                  clear t0
                  by_cases t1 : 0 ≤ m.op
                  · skip
                    by_cases t2 : m.op ≤ 15
                    · skip
                      by_cases t3 : 0 ≤ m.rcode
                      · skip
                        by_cases t4 : m.rcode ≤ 15
                        · skip
                          cases t5 : fitsB m.size 2 with
                          | false =>
                            have HT5 := Lib.hid t5
                            clear t5
                            go_wp2_with (first
                              | (go_at_call 59; (with_reducible refine (rfits_any m.size 2 wr HIM.out.2).mono ?_); rw [HT5.out]; rintro e w4 ⟨rfl, rfl⟩)
                              | (go_at_call 59; (with_reducible refine (rfits_any m.id 2 wr HIM.out.1).mono ?_); rw [HT0.out]; rintro e w3 ⟨rfl, rfl⟩)
                              | fail)
                            go_ret
                            exact ⟨_, rfl, by show Value.bool _ = Value.bool _; rw [fineM_no (fun hf => by have h1 := hf.size; rw [HT5.out] at h1; cases h1)], HBB.out⟩
                          | true =>
                            have HT5 := Lib.hid t5
                            clear t5
                            cases t6 : m.edns with
                            | true =>
                              have HT6 := Lib.hid t6
                              rw [t6] at z12
                              clear t6
                              cases ta : allK m.an with
                              | false =>
                                have HTA := Lib.hid ta
                                clear ta
                                go_wp2_with (first
                                  | (go_at_call 60; (with_reducible refine (rrecords_any s.A m.an.length s.ac m.an wr (HEa.out) HSZ0.out HRL0.out).mono ?_); rw [HTA.out]; rintro e wa ⟨vwa, rfl, rfl, hwa⟩; have y10 := below_cell hwa z10)
                                  | (go_at_call 59; (with_reducible refine (rfits_any m.size 2 wr HIM.out.2).mono ?_); rw [HT5.out]; rintro e w4 ⟨rfl, rfl⟩)
                                  | (go_at_call 59; (with_reducible refine (rfits_any m.id 2 wr HIM.out.1).mono ?_); rw [HT0.out]; rintro e w3 ⟨rfl, rfl⟩)
                                  | fail)
                                go_ret
                                exact ⟨_, rfl, by show Value.bool _ = Value.bool _; rw [fineM_no (fun hf => by have h1 := allK_yes hf.an; rw [HTA.out] at h1; cases h1)], nx HBB.out hwa⟩
                              | true =>
                                have HTA := Lib.hid ta
                                clear ta
                                cases tu : allK m.au with
                                | false =>
                                  have HTU := Lib.hid tu
                                  clear tu
                                  go_wp2_with (first
                                    | (go_at_call 60; (with_reducible refine (rrecords_any s.U m.au.length s.uc m.au wa (RdE.below HEu.out hwa) HSZ1.out HRL1.out).mono ?_); rw [HTU.out]; rintro e wu ⟨vwu, rfl, rfl, hwu⟩; have y11 := below_cell hwu (below_cell hwa z11))
                                    | (go_at_call 60; (with_reducible refine (rrecords_any s.A m.an.length s.ac m.an wr (HEa.out) HSZ0.out HRL0.out).mono ?_); rw [HTA.out]; rintro e wa ⟨vwa, rfl, rfl, hwa⟩; have y10 := below_cell hwa z10)
                                    | (go_at_call 59; (with_reducible refine (rfits_any m.size 2 wr HIM.out.2).mono ?_); rw [HT5.out]; rintro e w4 ⟨rfl, rfl⟩)
                                    | (go_at_call 59; (with_reducible refine (rfits_any m.id 2 wr HIM.out.1).mono ?_); rw [HT0.out]; rintro e w3 ⟨rfl, rfl⟩)
                                    | fail)
                                  go_ret
                                  exact ⟨_, rfl, by show Value.bool _ = Value.bool _; rw [fineM_no (fun hf => by have h1 := allK_yes hf.au; rw [HTU.out] at h1; cases h1)], nx (nx HBB.out hwa) hwu⟩
                                | true =>
                                  have HTU := Lib.hid tu
                                  clear tu
                                  go_wp2_with (first
                                    | (go_at_call 60; (with_reducible refine (rrecords_any s.X m.ex.length s.xc m.ex wu (RdE.below HEx.out (nx hwa hwu)) HSZ2.out HRL2.out).mono ?_); rintro e wx ⟨vwx, rfl, rfl, hwx⟩)
                                    | (go_at_call 60; (with_reducible refine (rrecords_any s.U m.au.length s.uc m.au wa (RdE.below HEu.out hwa) HSZ1.out HRL1.out).mono ?_); rw [HTU.out]; rintro e wu ⟨vwu, rfl, rfl, hwu⟩; have y11 := below_cell hwu (below_cell hwa z11))
                                    | (go_at_call 60; (with_reducible refine (rrecords_any s.A m.an.length s.ac m.an wr (HEa.out) HSZ0.out HRL0.out).mono ?_); rw [HTA.out]; rintro e wa ⟨vwa, rfl, rfl, hwa⟩; have y10 := below_cell hwa z10)
                                    | (go_at_call 59; (with_reducible refine (rfits_any m.size 2 wr HIM.out.2).mono ?_); rw [HT5.out]; rintro e w4 ⟨rfl, rfl⟩)
                                    | (go_at_call 59; (with_reducible refine (rfits_any m.id 2 wr HIM.out.1).mono ?_); rw [HT0.out]; rintro e w3 ⟨rfl, rfl⟩)
                                    | fail)
                                  go_ret
                                  exact ⟨_, rfl, by show Value.bool _ = Value.bool _; rw [ms_last2 H512.out HT0.out t1 (by omega) t3 (by omega) HT5.out (.inl HT6.out) HF.out HTA.out HTU.out], nx (nx (nx HBB.out hwa) hwu) hwx⟩
                            | false =>
                              have HT6 := Lib.hid t6
                              rw [t6] at z12
                              clear t6
                              by_cases t7 : m.size = 0
                              · have HT7 := Lib.hid t7
                                rw [t7] at z13
                                have HZ5 : Hid (fitsB 0 2 = true) := rfl
                                have HM0 : Hid ((0 : Int) ≤ 9223372036854775807) := (by decide : (0 : Int) ≤ 9223372036854775807)
                                clear t7
                                cases ta : allK m.an with
                                | false =>
                                  have HTA := Lib.hid ta
                                  clear ta
                                  go_wp2_with (first
                                    | (go_at_call 60; (with_reducible refine (rrecords_any s.A m.an.length s.ac m.an wr (HEa.out) HSZ0.out HRL0.out).mono ?_); rw [HTA.out]; rintro e wa ⟨vwa, rfl, rfl, hwa⟩; have y10 := below_cell hwa z10)
                                    | (go_at_call 59; (with_reducible refine (rfits_any 0 2 wr HM0.out).mono ?_); rw [HZ5.out]; rintro e w4 ⟨rfl, rfl⟩)
                                    | (go_at_call 59; (with_reducible refine (rfits_any m.id 2 wr HIM.out.1).mono ?_); rw [HT0.out]; rintro e w3 ⟨rfl, rfl⟩)
                                    | fail)
                                  go_ret
                                  exact ⟨_, rfl, by show Value.bool _ = Value.bool _; rw [fineM_no (fun hf => by have h1 := allK_yes hf.an; rw [HTA.out] at h1; cases h1)], nx HBB.out hwa⟩
                                | true =>
                                  have HTA := Lib.hid ta
                                  clear ta
                                  cases tu : allK m.au with
                                  | false =>
                                    have HTU := Lib.hid tu
                                    clear tu
                                    go_wp2_with (first
                                      | (go_at_call 60; (with_reducible refine (rrecords_any s.U m.au.length s.uc m.au wa (RdE.below HEu.out hwa) HSZ1.out HRL1.out).mono ?_); rw [HTU.out]; rintro e wu ⟨vwu, rfl, rfl, hwu⟩; have y11 := below_cell hwu (below_cell hwa z11))
                                      | (go_at_call 60; (with_reducible refine (rrecords_any s.A m.an.length s.ac m.an wr (HEa.out) HSZ0.out HRL0.out).mono ?_); rw [HTA.out]; rintro e wa ⟨vwa, rfl, rfl, hwa⟩; have y10 := below_cell hwa z10)
                                      | (go_at_call 59; (with_reducible refine (rfits_any 0 2 wr HM0.out).mono ?_); rw [HZ5.out]; rintro e w4 ⟨rfl, rfl⟩)
                                      | (go_at_call 59; (with_reducible refine (rfits_any m.id 2 wr HIM.out.1).mono ?_); rw [HT0.out]; rintro e w3 ⟨rfl, rfl⟩)
                                      | fail)
                                    go_ret
                                    exact ⟨_, rfl, by show Value.bool _ = Value.bool _; rw [fineM_no (fun hf => by have h1 := allK_yes hf.au; rw [HTU.out] at h1; cases h1)], nx (nx HBB.out hwa) hwu⟩
                                  | true =>
                                    have HTU := Lib.hid tu
                                    clear tu
                                    go_wp2_with (first
                                      | (go_at_call 60; (with_reducible refine (rrecords_any s.X m.ex.length s.xc m.ex wu (RdE.below HEx.out (nx hwa hwu)) HSZ2.out HRL2.out).mono ?_); rintro e wx ⟨vwx, rfl, rfl, hwx⟩)
                                      | (go_at_call 60; (with_reducible refine (rrecords_any s.U m.au.length s.uc m.au wa (RdE.below HEu.out hwa) HSZ1.out HRL1.out).mono ?_); rw [HTU.out]; rintro e wu ⟨vwu, rfl, rfl, hwu⟩; have y11 := below_cell hwu (below_cell hwa z11))
                                      | (go_at_call 60; (with_reducible refine (rrecords_any s.A m.an.length s.ac m.an wr (HEa.out) HSZ0.out HRL0.out).mono ?_); rw [HTA.out]; rintro e wa ⟨vwa, rfl, rfl, hwa⟩; have y10 := below_cell hwa z10)
                                      | (go_at_call 59; (with_reducible refine (rfits_any 0 2 wr HM0.out).mono ?_); rw [HZ5.out]; rintro e w4 ⟨rfl, rfl⟩)
                                      | (go_at_call 59; (with_reducible refine (rfits_any m.id 2 wr HIM.out.1).mono ?_); rw [HT0.out]; rintro e w3 ⟨rfl, rfl⟩)
                                      | fail)
                                    go_ret
                                    exact ⟨_, rfl, by show Value.bool _ = Value.bool _; rw [ms_last2 H512.out HT0.out t1 (by omega) t3 (by omega) HT5.out (.inr HT7.out) HF.out HTA.out HTU.out], nx (nx (nx HBB.out hwa) hwu) hwx⟩
                              · have t7b : (m.size == 0) = false := by rw [beq_eq_false_iff_ne]; exact t7
                                go_wp2_with (first
                                  | (go_at_call 59; (with_reducible refine (rfits_any m.size 2 wr HIM.out.2).mono ?_); rw [HT5.out]; rintro e w4 ⟨rfl, rfl⟩)
                                  | (go_at_call 59; (with_reducible refine (rfits_any m.id 2 wr HIM.out.1).mono ?_); rw [HT0.out]; rintro e w3 ⟨rfl, rfl⟩)
                                  | fail)
                                go_ret
                                exact ⟨_, rfl, by show Value.bool _ = Value.bool _; rw [fineM_no (fun hf => by have h1 := hf.edns; rw [HT6.out] at h1; exact h1.elim (fun h => by cases h) t7)], HBB.out⟩
                        · skip
                          go_wp2_with (first
                            | (go_at_call 59; (with_reducible refine (rfits_any m.id 2 wr HIM.out.1).mono ?_); rw [HT0.out]; rintro e w3 ⟨rfl, rfl⟩)
                            | fail)
                          go_ret
                          exact ⟨_, rfl, by show Value.bool _ = Value.bool _; rw [fineM_no (fun hf => by have := hf.rc; omega)], HBB.out⟩
                      · skip
                        go_wp2_with (first
                          | (go_at_call 59; (with_reducible refine (rfits_any m.id 2 wr HIM.out.1).mono ?_); rw [HT0.out]; rintro e w3 ⟨rfl, rfl⟩)
                          | fail)
                        go_ret
                        exact ⟨_, rfl, by show Value.bool _ = Value.bool _; rw [fineM_no (fun hf => by have := hf.rc0; omega)], HBB.out⟩
                    · skip
                      go_wp2_with (first
                        | (go_at_call 59; (with_reducible refine (rfits_any m.id 2 wr HIM.out.1).mono ?_); rw [HT0.out]; rintro e w3 ⟨rfl, rfl⟩)
                        | fail)
                      go_ret
                      exact ⟨_, rfl, by show Value.bool _ = Value.bool _; rw [fineM_no (fun hf => by have := hf.op; omega)], HBB.out⟩
                  · skip
                    go_wp2_with (first
                      | (go_at_call 59; (with_reducible refine (rfits_any m.id 2 wr HIM.out.1).mono ?_); rw [HT0.out]; rintro e w3 ⟨rfl, rfl⟩)
                      | fail)
                    go_ret
                    exact ⟨_, rfl, by show Value.bool _ = Value.bool _; rw [fineM_no (fun hf => by have := hf.op0; omega)], HBB.out⟩
          · skip
            have HNO : Hid (fineM m = false) := fineM_no (fun hf => by have h1 := hf.tot; unfold totM at h1; omega)
            go_wp2
            go_ret
            exact ⟨_, rfl, by show Value.bool _ = Value.bool _; rw [HNO.out], HB1.out⟩
        · skip
          have HNO : Hid (fineM m = false) := fineM_no (fun hf => by have h1 := hf.tot; unfold totM at h1; omega)
          go_wp2
          go_ret
          exact ⟨_, rfl, by show Value.bool _ = Value.bool _; rw [HNO.out], HB1.out⟩
      · skip
        have HNO : Hid (fineM m = false) := fineM_no (fun hf => by have h1 := hf.tot; unfold totM at h1; omega)
        go_wp2
        go_ret
        exact ⟨_, rfl, by show Value.bool _ = Value.bool _; rw [HNO.out], HB1.out⟩
    · skip
      have HNO : Hid (fineM m = false) := fineM_no (fun hf => by have h1 := hf.tot; unfold totM at h1; omega)
      go_wp2
      go_ret
      exact ⟨_, rfl, by show Value.bool _ = Value.bool _; rw [HNO.out], HB1.out⟩
  · skip
    have HNO : Hid (fineM m = false) := fineM_no (fun hf => by have h1 := hf.tot; unfold totM at h1; omega)
    go_wp2
    go_ret
    exact ⟨_, rfl, by show Value.bool _ = Value.bool _; rw [HNO.out], HB1.out⟩
end Go.Proofs.Ytmkfjddighabcaa

/- gazetteerlaw06.light: is a message not too large? -/
namespace Go.Proofs.Ytmkfjddighabcaa
open Go.RowKit
set_option maxRecDepth 100000


def Lt6 (r : RR) : Prop := r.name.length ≤ 200 ∧ r.data.host.length ≤ 200 ∧ r.data.mail.length ≤ 200 ∧ r.data.texts.length ≤ 100 ∧ r.data.nums.length ≤ 100
theorem bytesL_succ {l : List RR} {k : Nat} {r : RR} (h : l[k]? = some r) : bytesL (l.take (k + 1)) = bytesL (l.take k) + r.data.bytes.length := by
  rw [List.take_add_one, h, Option.toList_some, bytesL_append]
  simp [bytesL]
theorem bytesL_bnd {l : List RR} {B : Nat} (h : ∀ r ∈ l, r.data.bytes.length ≤ B) : bytesL l ≤ B * l.length := by
  induction l with
  | nil => simp [bytesL]
  | cons r l ih =>
    have h1 := ih fun x hx => h x (List.mem_cons_of_mem _ hx)
    have h2 := h r (List.mem_cons_self ..)
    have h3 : bytesL (r :: l) = r.data.bytes.length + bytesL l := by simp [bytesL]
    rw [h3, List.length_cons, Nat.mul_add, Nat.mul_one]
    omega


structure LtMsg6 (m : Ms) : Prop where
  all : (m.an ++ m.au ++ m.ex).length ≤ 600
  qs : m.qs.length ≤ 600
  r : ∀ r ∈ m.an ++ m.au ++ m.ex, Lt6 r
  q : ∀ q ∈ m.qs, q.name.length ≤ 200
  b : bytesM m < 200000
open Classical in
noncomputable def ltM6 (m : Ms) : Bool := decide (LtMsg6 m)
open Classical in
theorem ltM6_yes {m : Ms} (h : LtMsg6 m) : ltM6 m = true := decide_eq_true h
open Classical in
theorem ltM6_no {m : Ms} (h : ¬ LtMsg6 m) : ltM6 m = false := decide_eq_false h
open Classical in
theorem ltM6_iff {m : Ms} : ltM6 m = true ↔ LtMsg6 m := decide_eq_true_iff
theorem bytesM_all6 (m : Ms) : bytesM m = bytesL (m.an ++ m.au ++ m.ex) := by unfold bytesM; rw [bytesL_append, bytesL_append]

set_option maxHeartbeats 8000000 in
theorem light06_any (s : MS) (m : Ms) (w : World) {S : Nat → Prop} (h : MIn S w s m) (hS : ∀ b, S b → b < w.heap.size) (hq : m.qs.length ≤ 140737488355328) (hlen : (m.an.length + m.au.length + m.ex.length) * 168 ≤ 140737488355328) (hby : ∀ r ∈ m.an ++ m.au ++ m.ex, r.data.bytes.length ≤ 140737488355328) :
    Calls Try.prog 16 #[msV s m] w (RetP (fun v _ => v = .bool (ltM6 m)) w) := by
  obtain ⟨w1, hw1⟩ : ∃ w1, w1 = w.alloc (.cells (mCells s m) 25) := ⟨_, rfl⟩
  have hb1 : Below w.heap.size w w1 := by rw [hw1]; exact bl.alloc (Nat.le_refl _) _
  have HRW : Hid (MRow w1 w.heap.size s m) := by show MRow _ _ _ _; rw [hw1]; exact MRow.made w s m
  have HI := Lib.hid (h.below hb1 hS)
  have HSW : Hid (∀ b, S b → b < w1.heap.size) := fun b hb => Nat.lt_of_lt_of_le (hS b hb) hb1.size
  have HBW1 := Lib.hid hb1
  have HLEN := Lib.hid hlen
  have HBY := Lib.hid hby
  unfold msV
  unfold mCells at hw1 ⊢
  clear h hS hb1 hlen hby
  go_enter Try.func16, Try.ntmps16
  go_upto_region 1 with (fail)
  rw [← hw1]
  clear hw1
  generalize w.heap.size = q at HRW ⊢
  have k0 : ∀ w', Below w1.heap.size w1 w' → w'.cell? ⟨q, 9, none⟩ = some (.slice s.A m.an.length s.ac) ∧ w'.cell? ⟨q, 10, none⟩ = some (.slice s.U m.au.length s.uc) ∧ w'.cell? ⟨q, 11, none⟩ = some (.slice s.X m.ex.length s.xc) := fun w' hb => ⟨((HRW.out.below hb).cell 9).trans rfl, ((HRW.out.below hb).cell 10).trans rfl, ((HRW.out.below hb).cell 11).trans rfl⟩
  have z0 := k0 w1 bl
  have z1 := k0 w1.drew bl.drew
  have z2 := k0 (w1.alloc (.cells #[] 44)) (bl.alloc (Nat.le_refl _) _)
  have z3 := k0 (w1.alloc (.cells #[] 44)).drew (bl.alloc (Nat.le_refl _) _).drew
  have KK := Lib.hid k0
  have hbase0 : w1.heap.size ≤ (w1.alloc (.cells #[] 44)).drew.heap.size := (bl.alloc (Nat.le_refl _) (.cells #[] 44)).drew.size
  have hown0 : OwnE encRR 44 noS (w1.alloc (.cells #[] 44)).drew w1.heap.size (.slice (some ⟨w1.heap.size, 0, none⟩) 0 0) [] := (ownE_lit0 (fun _ h => h.elim) (Nat.le_refl _)).below bl.drew
  have HBX : Hid (Below w1.heap.size w1 (w1.alloc (.cells #[] 44)).drew) := (bl.alloc (Nat.le_refl _) _).drew
  have hsS : ∀ (w' : World) (v : Value), Below w1.heap.size w1 w' → (∀ k, v.ownBlock = some k → w1.heap.size ≤ k) → ∀ b, S b → b < w'.heap.size ∧ some b ≠ v.ownBlock := fun w' v hb hv b hs => ⟨Nat.lt_of_lt_of_le (HSW.out b hs) hb.size, fun he => by have h1 := hv b he.symm; have h2 := HSW.out b hs; omega⟩
  have HSS := Lib.hid hsS
  have HHO := Lib.hid hown0
  have hA1 : (([] : List RR).length + m.an.length) * 168 ≤ 140737488355328 := by have := HLEN.out; simp; omega
  have hA2 : ([] ++ m.an).length * 168 + m.au.length * 168 ≤ 140737488355328 := by have := HLEN.out; simp; omega
  have hA3 : ([] ++ m.an ++ m.au).length * 168 + m.ex.length * 168 ≤ 140737488355328 := by have := HLEN.out; simp; omega
  have hM1 : ([] : List RR).length + m.an.length ≤ maxLen := by have := HLEN.out; simp [maxLen]; omega
  have hM2 : ([] ++ m.an).length + m.au.length ≤ maxLen := by have := HLEN.out; simp [maxLen]; omega
  have hM3 : ([] ++ m.an ++ m.au).length + m.ex.length ≤ maxLen := by have := HLEN.out; simp [maxLen]; omega
  have HA := Lib.hid (And.intro hA1 (And.intro hA2 hA3))
  have HM := Lib.hid (And.intro hM1 (And.intro hM2 hM3))
  clear k0 hsS hA1 hA2 hA3 hM1 hM2 hM3
  go_upto_region 1 with (fail)
  go_region_held3 (fun w' => w'.cell? ⟨q, 9, none⟩ = some (.slice s.A m.an.length s.ac) ∧ w'.cell? ⟨q, 10, none⟩ = some (.slice s.U m.au.length s.uc) ∧ w'.cell? ⟨q, 11, none⟩ = some (.slice s.X m.ex.length s.xc))
    (first | with_reducible exact z0 | with_reducible exact z1 | with_reducible exact z2 | with_reducible exact z3 | with_reducible exact z4 | with_reducible exact z5 | with_reducible exact z6 | fail)
    (first
      | (refine step_appE (w := u2) elRR (by rfl) (.tmp 14) (.tmp 16) (by rfl) w1.heap.size v2 ([] ++ m.an ++ m.au) (by rfl) hown2 s.X m.ex.length s.xc m.ex (HI.out.x.keep (fun b hb => HB2.out.block b (HSW.out b hb)) (fun b hb => HB2.out.block b (HSW.out b hb))) (HSS.out _ _ HB2.out (fun k hk => (OwnE.lt hown2 k hk).1)) (by rfl) (by have h := HA.out.2.2; rw [Nat.add_mul]; exact h) HM.out.2.2 (Nat.le_trans (Nat.le_refl _) HB2.out.size) ?_; intro v3 u3 hown3 hg3 hat3; have HB3 : Hid (Below w1.heap.size w1 u3) := (Below.grown HB2.out hg3 HB2.out.size (fun k hk => (OwnE.lt hown2 k hk).1)); have z6 := KK.out u3 HB3.out; clear hat3 hg3)
      | (refine step_appE (w := u1) elRR (by rfl) (.tmp 11) (.tmp 13) (by rfl) w1.heap.size v1 ([] ++ m.an) (by rfl) hown1 s.U m.au.length s.uc m.au (HI.out.u.keep (fun b hb => HB1.out.block b (HSW.out b hb)) (fun b hb => HB1.out.block b (HSW.out b hb))) (HSS.out _ _ HB1.out (fun k hk => (OwnE.lt hown1 k hk).1)) (by rfl) (by have h := HA.out.2.1; rw [Nat.add_mul]; exact h) HM.out.2.1 (Nat.le_trans (Nat.le_refl _) HB1.out.size) ?_; intro v2 u2 hown2 hg2 hat2; have HB2 : Hid (Below w1.heap.size w1 u2) := (Below.grown HB1.out hg2 HB1.out.size (fun k hk => (OwnE.lt hown1 k hk).1)); have z5 := KK.out u2 HB2.out; clear hat2 hg2)
      | (refine step_appE (w := (w1.alloc (.cells #[] 44)).drew) elRR (by rfl) (.tmp 8) (.tmp 10) (by rfl) w1.heap.size (.slice (some ⟨w1.heap.size, 0, none⟩) 0 0) ([]) (by rfl) HHO.out s.A m.an.length s.ac m.an (HI.out.a.keep (fun b hb => HBX.out.block b (HSW.out b hb)) (fun b hb => HBX.out.block b (HSW.out b hb))) (HSS.out _ _ HBX.out (fun k hk => (OwnE.lt HHO.out k hk).1)) (by rfl) HA.out.1 HM.out.1 (Nat.le_trans (Nat.le_refl _) HBX.out.size) ?_; intro v1 u1 hown1 hg1 hat1; have HB1 : Hid (Below w1.heap.size w1 u1) := (Below.grown HBX.out hg1 HBX.out.size (fun k hk => (OwnE.lt HHO.out k hk).1)); have z4 := KK.out u1 HB1.out; clear hat1 hg1)
      | fail)
  rw [List.nil_append] at hown3
  obtain ⟨A3, c3, hv3, hr3, _, _⟩ := OwnE.rdE hown3
  obtain ⟨n, hn⟩ : ∃ n, n = (m.an ++ m.au ++ m.ex).length := ⟨_, rfl⟩
  have HN := Lib.hid hn
  have hn2 : n * 168 ≤ 140737488355328 := by rw [hn, List.length_append, List.length_append]; exact HLEN.out
  rw [← hn] at hv3 hr3
  subst hv3
  have HR3 := Lib.hid hr3
  have HALL := Lib.hid (bytesM_all6 m)
  have HLT : Hid (∀ h : LtMsg6 m, ∀ r ∈ m.an ++ m.au ++ m.ex, Lt6 r) := fun h => h.r
  have HLA : Hid (LtMsg6 m → n ≤ 600) := fun h => by rw [hn]; exact h.all
  have HYES : Hid (n ≤ 600 → m.qs.length ≤ 600 → (∀ r ∈ m.an ++ m.au ++ m.ex, Lt6 r) → (∀ q ∈ m.qs, q.name.length ≤ 200) → bytesL (m.an ++ m.au ++ m.ex) < 200000 → LtMsg6 m) := fun h1 h2 h3 h4 h5 => ⟨by rw [← hn]; exact h1, h2, h3, h4, by rw [bytesM_all6]; exact h5⟩
  clear z0 z1 z2 z3 z4 z5 z6 hown0 hown1 hown2 hown3 hr3 hn HA HHO HSS HBX hbase0 HB1 HB2
  generalize m.an ++ m.au ++ m.ex = l at HBY HN HR3 HALL HLT HYES

  clear HLEN
  have HB0 := Lib.hid (nx HBW1.out HB3.out)
  have HR1 := Lib.hid (HRW.out.below HB3.out)
  obtain ⟨z0, z1, z2, z3, z4, z5, z6, z7, z8, z9, z10, z11, z12, z13⟩ := HR1.out.cells
  by_cases a0 : (n : Int) ≤ 600
  · by_cases a1 : (m.qs.length : Int) ≤ 600
    · go_wp2
      clear z0 z1 z2 z3 z4 z5 z6 z7 z8 z9 z10 z11 z12 z13
      go_loopw [4, 5] (fun sv iv wr => ∃ k : Nat, iv = .int .i64 k ∧ k ≤ n ∧ sv = .int .i64 (bytesL (l.take k) : Int) ∧ Hid (∀ r ∈ l.take k, Lt6 r) ∧ Hid (Below u3.heap.size u3 wr)) (fun _ iv _ => n - (intOf iv).toNat)
      case atStart => exact ⟨0, rfl, Nat.zero_le _, rfl, fun r hr => by simp at hr, bl⟩
      case round =>
        obtain ⟨k, rfl, hk, rfl, HF, HBR⟩ := hrel
        have hbk : bytesL (l.take k) ≤ 140737488355328 * k := by
          have h1 := bytesL_bnd (l := l.take k) (B := 140737488355328) (fun r hr => HBY.out r (List.mem_of_mem_take hr))
          have h2 : (l.take k).length ≤ k := List.length_take_le _ _
          exact Nat.le_trans h1 (Nat.mul_le_mul_left _ h2)
        by_cases hlt : k < n
        · obtain ⟨r, hr⟩ : ∃ r, l[k]? = some r := ⟨_, List.getElem?_eq_getElem (by rw [← HN.out]; exact hlt)⟩
          have HX := Lib.hid hr
          have HMEM := Lib.hid (List.mem_of_getElem? hr)
          have HSU := Lib.hid (bytesL_succ hr)
          have hbr := HBY.out r HMEM.out
          have HBRR := Lib.hid hbr
          obtain ⟨b, off, t, hA, hb0, hri, hrc⟩ := rr_at HR3.out hr
          have hAA := Lib.hid hA
          rw [hA]
          have hbx : Below wr.heap.size wr (wr.alloc (.cells #[.slice t.d.A0 r.data.bytes.length t.d.c0, .slice t.d.A1 r.data.host.length t.d.c1, .slice t.d.A2 r.data.mail.length t.d.c2, .slice t.d.A3 r.data.nums.length t.d.c3, .slice t.d.A4 r.data.texts.length t.d.c4] 42)) := bl.alloc (Nat.le_refl _) _
          have hrc1 := hrc.below HBR.out
          have hrc2 := hrc1.below hbx
          obtain ⟨d0, d1, d2, d3, d4, d5, d6, d7, d8⟩ := hrc1
          obtain ⟨e0, e1, e2, e3, e4, e5, e6, e7, e8⟩ := hrc2
          have HBX := Lib.hid (nx HBR.out hbx)
          have HBB := Lib.hid (nx HB0.out (nx HBR.out hbx))
          clear hr hri hrc hA hb0 hbx hbr
          generalize bytesL (l.take k) = z at hbk HSU ⊢
          by_cases t0 : (r.name.length : Int) ≤ 200
          · skip
            by_cases t1 : (r.data.host.length : Int) ≤ 200
            · skip
              by_cases t2 : (r.data.mail.length : Int) ≤ 200
              · skip
                by_cases t3 : (r.data.texts.length : Int) ≤ 100
                · skip
                  by_cases t4 : (r.data.nums.length : Int) ≤ 100
                  · skip
                    have hbr2 := HBRR.out
                    go_wp2
                    go_roundw
                    case rel =>
                      refine ⟨k + 1, by go_num, by omega, by rw [HSU.out]; go_num, allp_take HX.out HF.out ⟨by omega, by omega, by omega, by omega, by omega⟩, HBX.out⟩
                    case measure => simp [intOf]; omega
                  · skip
                    have HNO : Hid (¬ LtMsg6 m) := fun h => by have h1 := (HLT.out h r HMEM.out).2.2.2.2; omega
                    go_wp2
                    go_ret
                    exact ⟨_, rfl, by show Value.bool _ = Value.bool _; rw [ltM6_no HNO.out], HBB.out⟩
                · skip
                  have HNO : Hid (¬ LtMsg6 m) := fun h => by have h1 := (HLT.out h r HMEM.out).2.2.2.1; omega
                  go_wp2
                  go_ret
                  exact ⟨_, rfl, by show Value.bool _ = Value.bool _; rw [ltM6_no HNO.out], HBB.out⟩
              · skip
                have HNO : Hid (¬ LtMsg6 m) := fun h => by have h1 := (HLT.out h r HMEM.out).2.2.1; omega
                go_wp2
                go_ret
                exact ⟨_, rfl, by show Value.bool _ = Value.bool _; rw [ltM6_no HNO.out], HBB.out⟩
            · skip
              have HNO : Hid (¬ LtMsg6 m) := fun h => by have h1 := (HLT.out h r HMEM.out).2.1; omega
              go_wp2
              go_ret
              exact ⟨_, rfl, by show Value.bool _ = Value.bool _; rw [ltM6_no HNO.out], HBB.out⟩
          · skip
            have HNO : Hid (¬ LtMsg6 m) := fun h => by have h1 := (HLT.out h r HMEM.out).1; omega
            go_wp2
            go_ret
            exact ⟨_, rfl, by show Value.bool _ = Value.bool _; rw [ltM6_no HNO.out], HBB.out⟩
        · obtain rfl : k = n := by omega
          have htk : l.take k = l := by rw [HN.out, List.take_length]
          rw [htk] at HF hbk ⊢
          have HFA := Lib.hid HF.out
          have hk6 : k ≤ 600 := by omega
          have HK6 := Lib.hid hk6
          rename World => wa
          have HRB := Lib.hid (HR1.out.below HBR.out)
          generalize bytesL l = z at hbk HALL HYES ⊢
          clear htk hlt hk
          go_wp2_with fail
          go_loopw [7] (fun iv wr => ∃ j : Nat, iv = .int .i64 j ∧ j ≤ m.qs.length ∧ Hid (∀ q ∈ m.qs.take j, q.name.length ≤ 200) ∧ Hid (Below wa.heap.size wa wr)) (fun iv _ => m.qs.length - (intOf iv).toNat)
          case atStart => exact ⟨0, rfl, Nat.zero_le _, fun r hr => by simp at hr, bl⟩
          case round =>
            obtain ⟨j, rfl, hj, HG, HBA⟩ := hrel
            have z8 : wr.cell? ⟨q, 8, none⟩ = some (.slice s.Q m.qs.length s.qc) := ((HRB.out.below HBA.out).cell 8).trans rfl
            have HBB := Lib.hid (nx (nx HB0.out HBR.out) HBA.out)
            by_cases hlj : j < m.qs.length
            · obtain ⟨x, hx⟩ : ∃ x, m.qs[j]? = some x := ⟨_, List.getElem?_eq_getElem hlj⟩
              obtain ⟨b, off, t, hA, _, hd, hc⟩ := qu_at HI.out.q hx
              have HXX := Lib.hid hx
              rw [hA] at z8
              obtain ⟨d0, d1, d2⟩ := (hc.below (nx HB3.out (nx HBR.out HBA.out)))
              have HMQ := Lib.hid (List.mem_of_getElem? hx)
              clear hx hA hd hc
              by_cases t0 : (x.name.length : Int) ≤ 200
              · go_wp2
                go_roundw
                case rel => exact ⟨j + 1, by go_num, by omega, allp_take HXX.out HG.out (by omega), HBA.out⟩
                case measure => simp [intOf]; omega
              · have HNO : Hid (¬ LtMsg6 m) := fun h => by have h1 := h.q x HMQ.out; omega
                go_wp2
                go_ret
                exact ⟨_, rfl, by show Value.bool _ = Value.bool _; rw [ltM6_no HNO.out], HBB.out⟩
            · obtain rfl : j = m.qs.length := by omega
              rw [List.take_length] at HG
              by_cases hz : (z : Int) < 200000
              · have HY := Lib.hid (HYES.out HK6.out (by omega) HFA.out HG.out (by omega))
                go_wp2
                go_ret
                exact ⟨_, rfl, by show Value.bool _ = Value.bool _; rw [ltM6_yes HY.out], HBB.out⟩
              · have HNO : Hid (¬ LtMsg6 m) := fun h => by have h1 := h.b; rw [HALL.out] at h1; omega
                go_wp2
                go_ret
                exact ⟨_, rfl, by show Value.bool _ = Value.bool _; rw [ltM6_no HNO.out], HBB.out⟩
    · have HNO : Hid (¬ LtMsg6 m) := fun h => by have h1 := h.qs; omega
      go_wp2
      go_ret
      exact ⟨_, rfl, by show Value.bool _ = Value.bool _; rw [ltM6_no HNO.out], HB0.out⟩
  · have HNO : Hid (¬ LtMsg6 m) := fun h => by have h1 := HLA.out h; omega
    go_wp2
    go_ret
    exact ⟨_, rfl, by show Value.bool _ = Value.bool _; rw [ltM6_no HNO.out], HB0.out⟩
end Go.Proofs.Ytmkfjddighabcaa
