/- Parts of a proof, joined: Law07W. -/
import Derived.Test.YtmkfjddighabcaaM38
/- CutWhole: the law's walk. -/
namespace Go.Proofs.Ytmkfjddighabcaa
open Go.RowKit
set_option maxRecDepth 100000
set_option linter.unusedVariables false


set_option maxHeartbeats 32000000 in
theorem cutWhole_fine (s : MS) (m : Ms) (a : Nat) (w : World) (h : MIn (ltS w) w s m) (hq : m.qs.length ≤ 1048576) (hlen : (m.an.length + m.au.length + m.ex.length) * 168 ≤ 140737488355328) (hby : ∀ r ∈ m.an ++ m.au ++ m.ex, r.data.bytes.length ≤ 140737488355328) (ha : a < 65536) (hlt : LtMsg7 m) (hf : fineM m = true) :
    Calls Try.prog 10 #[msV s m, .int .u16 (a : Int)] w (LawT w) := by
  obtain ⟨w1, hw1⟩ : ∃ w1, w1 = w.alloc (.cells (mCells s m) 25) := ⟨_, rfl⟩
  have hb1 : Below w.heap.size w w1 := by rw [hw1]; exact bl.alloc (Nat.le_refl _) _
  have HR1 : Hid (MRow w1 w.heap.size s m) := by show MRow _ _ _ _; rw [hw1]; exact MRow.made w s m
  have HB1 := Lib.hid hb1
  have HIW : Hid (∀ w', Below w1.heap.size w1 w' → MIn (ltS w) w' s m) := fun w' hw => (h.below hb1 (fun b hb => hb)).below hw (fun b hb => Nat.lt_of_lt_of_le hb hb1.size)
  have HSW : Hid (∀ w', Below w1.heap.size w1 w' → ∀ b, ltS w b → b < w'.heap.size) := fun w' hw b hb => Nat.lt_of_lt_of_le (Nat.lt_of_lt_of_le hb hb1.size) hw.size
  have HK : Hid (∀ w', Below w1.heap.size w1 w' → MCells w' w.heap.size s m) := fun w' hw => (HR1.out.below hw).cells
  have HLT := Lib.hid (fun w2 (hw : Below w1.heap.size w1 w2) => light07_any s m w2 (HIW.out w2 hw) (HSW.out w2 hw) (by omega) hlen hby)
  have HYES := Lib.hid (ltM7_yes hlt)
  have HRM := Lib.hid (fun w2 (hw : Below w1.heap.size w1 w2) => rMsg_any s m w2 (HIW.out w2 hw) (HSW.out w2 hw) hlt.lt6.ltM)
  rw [hf] at HRM
  have HL := Lib.hid hlt.lt6.ltM
  have HBM := Lib.hid hlt.bytes
  have HFF := Lib.hid (fineM_iff.1 hf)
  obtain ⟨N, hN⟩ : ∃ N, N = 512 + a % 4000 := ⟨_, rfl⟩
  have hN1 : (512 : Int) + (a : Int) % 4000 = (N : Int) := by omega
  have hN2 : (512 : Int) + Int.tmod (a : Int) 4000 = (N : Int) := by rw [show Int.tmod (a : Int) 4000 = ((a % 4000 : Nat) : Int) from rfl]; omega
  have hNb : 512 ≤ N ∧ N ≤ 4512 := by omega
  have HNB := Lib.hid hNb
  unfold msV mCells at HLT HRM
  unfold msV
  unfold mCells at hw1 ⊢
  clear h hb1 hlt hq hlen hby hf hN hNb
  rw [HYES.out] at HLT
  go_enter Try.func10, Try.ntmps10
  go_upto_region 1 with (fail)
  rw [← hw1]
  clear hw1
  go_upto_region 2 with (fail)
  clear hN1 hN2
  go_upto_region 4 with (first
    | (go_at_call 22; refine (HRM.out w3 HB3.out).mono ?_; rintro e w4 ⟨v4, rfl, rfl, hb4⟩; have HB4 := Lib.hid (nx HB3.out hb4))
    | (go_at_call 30; refine (HLT.out w2 hb2).mono ?_; rintro e w3 ⟨v3, rfl, rfl, hb3⟩; have HB3 := Lib.hid (nx hb2 hb3); obtain ⟨z0, z1, z2, z3, z4, z5, z6, z7, z8, z9, z10, z11, z12, z13⟩ := HK.out w3 HB3.out)
    | (go_at_call 29; refine (answers07_any w1).mono ?_; rintro e w2 ⟨rfl, hb2⟩; obtain ⟨z0, z1, z2, z3, z4, z5, z6, z7, z8, z9, z10, z11, z12, z13⟩ := HK.out w2 hb2)
    | fail)
  clear z0 z1 z2 z3 z4 z5 z6 z7 z8 z9 z10 z11 z12 z13 hb2 hb3 hb4 HLT HRM HYES HB3
  obtain ⟨z0, z1, z2, z3, z4, z5, z6, z7, z8, z9, z10, z11, z12, z13⟩ := HK.out w4 HB4.out
  go_upto_region 5 with (first
    | (go_at_call 31; refine (cutFit_any s5 m (N : Int) w5 HI5.out (fun b hb => hb.2) HL.out HBM.out).mono ?_; rintro e w6 ⟨v6, rfl, ⟨bv6, rfl, ho6⟩, hb6⟩; have HO6 := Lib.hid ho6; obtain ⟨A6, c6, hv6, -, hl6, hm6⟩ := OwnB.form ho6; subst hv6; have HC6 := Lib.hid (And.intro hl6 hm6); have HB6 := Lib.hid (nx HB5.out hb6); clear ho6 hb6 hl6 hm6)
    | (go_at_call 18; refine (ownMsg_any s m w4 (HIW.out w4 HB4.out) (HSW.out w4 HB4.out) HL.out.light).mono ?_; rintro e w5 ⟨v5, rfl, ⟨s5, rfl, hi5⟩, hb5⟩; have HI5 := Lib.hid hi5; have HB5 := Lib.hid (nx HB4.out hb5); clear hi5 hb5)
    | fail)
  clear z0 z1 z2 z3 z4 z5 z6 z7 z8 z9 z10 z11 z12 z13 HI5
  have hTN := fitP_T HFF.out (show (512 : Int) ≤ (N : Int) by have := HNB.out; omega) (show (N : Int) ≤ 65535 by have := HNB.out; omega)
  cases hx : cutT (N : Int) m with
  | none =>
    rw [hx] at hTN
    rw [hTN]
    clear HO6 HC6 hTN hx
    go_wp2
    go_ret
    exact ⟨rfl, nx HB1.out HB6.out⟩
  | some x =>
    rw [hx] at hTN
    dsimp only at hTN
    have hxl := (cutT_part (Part.whole m) hx).2
    obtain ⟨k, j, i, hp, -, -, -, -⟩ := (cutT_part (Part.whole m) hx).1
    obtain ⟨pa, pu, px⟩ := hp.lens
    have HP := Lib.hid hp
    have hfx := (cutT_fine HFF.out hx).1
    rw [hTN] at HO6 HC6
    rw [hTN]
    obtain ⟨X, hX⟩ : ∃ X, X = (msW x).b := ⟨_, rfl⟩
    have hdx := decode_back hfx (by have := HNB.out; omega)
    rw [← hX] at HO6 HC6 hdx hxl ⊢
    have HDX := Lib.hid (decV_ok hdx)
    have eid : x.id = m.id := by rw [hp.e]
    have erc : x.rcode = m.rcode := by rw [hp.e]
    have eqs : x.qs.length = m.qs.length := by rw [hp.e]
    have eed : x.edns = m.edns := by rw [hp.e]
    have ean : x.an = m.an.take k := by rw [hp.e]
    have eau : x.au = m.au.take j := by rw [hp.e]
    have eex : x.ex = m.ex.take i := by rw [hp.e]
    have HAN := Lib.hid ean
    have HAU := Lib.hid eau
    have HEX := Lib.hid eex
    have hk : k ≤ m.an.length := hp.hk
    have hj : j ≤ m.au.length := hp.hj
    have hi : i ≤ m.ex.length := hp.hi
    clear hX hTN hx hfx hdx hp ean eau eex
    dsimp only at HO6 HC6 ⊢
    obtain ⟨n, hn⟩ : ∃ n, n = X.length := ⟨_, rfl⟩
    have HRX : Hid (RdB w6 A6 n X) := by show RdB _ _ _ _; rw [hn]; exact (OwnB.rd HO6.out).1
    have HLX := Lib.hid (ownB_blt7 HO6.out)
    rw [← hn] at HC6 hxl ⊢
    have hnN : n ≤ N := by omega
    have hnd : decide (N < n) = false := decide_eq_false (by omega)
    have hn6 : n ≤ 65535 := by have := HNB.out; omega
    have hkd : decide (m.an.length < k) = false := decide_eq_false (by omega)
    have hjd : decide (m.au.length < j) = false := decide_eq_false (by omega)
    have hid : decide (m.ex.length < i) = false := decide_eq_false (by omega)
    clear hn HO6 hxl
    go_upto_region 10 with (first
      | (go_at_call 19; refine (decode_any w6 A6 n c6 X HRX.out HLX.out HC6.out.1 HC6.out.2 (by omega)).mono ?_; unfold goodV; rw [HDX.out]; rintro e w8 ⟨v8, rfl, ⟨s8, rfl, hm8⟩, hb8⟩; unfold msV mCells; rw [eid, erc, eqs, eed, pa, pu, px]; have HM8 := Lib.hid hm8; have HB8 := Lib.hid (nx HB6.out hb8); have hz := HK.out (w8.alloc (.cells #[.int .i64 m.id, .bool x.resp, .int .i64 x.op, .bool x.aa, .bool x.tc, .bool x.rd, .bool x.ra, .int .i64 m.rcode, .slice s8.Q m.qs.length s8.qc, .slice s8.A k s8.ac, .slice s8.U j s8.uc, .slice s8.X i s8.xc, .bool m.edns, .int .i64 x.size] 25)) (nx HB8.out (bl.alloc (Nat.le_refl _) _)); obtain ⟨z0, z1, z2, z3, z4, z5, z6, z7, z8, z9, z10, z11, z12, z13⟩ := hz; clear hm8 hb8)
      | fail)
    obtain ⟨w9, hw9⟩ : ∃ u, u = w8.alloc (.cells #[.int .i64 m.id, .bool x.resp, .int .i64 x.op, .bool x.aa, .bool x.tc, .bool x.rd, .bool x.ra, .int .i64 m.rcode, .slice s8.Q m.qs.length s8.qc, .slice s8.A k s8.ac, .slice s8.U j s8.uc, .slice s8.X i s8.xc, .bool m.edns, .int .i64 x.size] 25) := ⟨_, rfl⟩
    have hb9 : Below w8.heap.size w8 w9 := by rw [hw9]; exact bl.alloc (Nat.le_refl _) _
    have hrow : w9.heap[w8.heap.size]? = some (.cells #[.int .i64 m.id, .bool x.resp, .int .i64 x.op, .bool x.aa, .bool x.tc, .bool x.rd, .bool x.ra, .int .i64 m.rcode, .slice s8.Q m.qs.length s8.qc, .slice s8.A k s8.ac, .slice s8.U j s8.uc, .slice s8.X i s8.xc, .bool m.edns, .int .i64 x.size] 25 (0, 0)) := by rw [hw9]; exact heap_alloc_new w8 _
    have HB9 := Lib.hid (nx HB8.out hb9)
    have HXE : Hid (∀ u, Below w9.heap.size w9 u → Els encRR (ltS w8) (ltS w8) u s8.A k (m.an.take k) ∧ Els encRR (ltS w8) (ltS w8) u s8.U j (m.au.take j) ∧ Els encRR (ltS w8) (ltS w8) u s8.X i (m.ex.take i)) := fun u hu => by
      have hb : Below w8.heap.size w8 u := nx hb9 hu
      have h1 := (MIn.mono (fun b hb => hb.2) HM8.out : MIn (ltS w8) w8 s8 x).below hb (fun b hb => hb)
      have h2 := h1.a
      have h3 := h1.u
      have h4 := h1.x
      rw [pa, HAN.out] at h2
      rw [pu, HAU.out] at h3
      rw [px, HEX.out] at h4
      exact ⟨h2, h3, h4⟩
    have HXS : Hid (∀ u, Below w9.heap.size w9 u → ∀ b, ltS w8 b → b < u.heap.size) := fun u hu b hb => Nat.lt_of_lt_of_le (Nat.lt_of_lt_of_le hb hb9.size) hu.size
    have HYE : Hid (∀ u, Below w9.heap.size w9 u → Els encRR (ltS w) (ltS w) u s.A k (m.an.take k) ∧ Els encRR (ltS w) (ltS w) u s.U j (m.au.take j) ∧ Els encRR (ltS w) (ltS w) u s.X i (m.ex.take i)) := fun u hu => by
      have h1 := HIW.out u (nx HB9.out hu)
      exact ⟨h1.a.take hk, h1.u.take hj, h1.x.take hi⟩
    have HYS : Hid (∀ u, Below w9.heap.size w9 u → ∀ b, ltS w b → b < u.heap.size) := fun u hu => HSW.out u (nx HB9.out hu)
    have hin := HIW.out w9 HB9.out
    have hka : k ≤ s.ac := Nat.le_trans hk hin.ca.1
    have hju : j ≤ s.uc := Nat.le_trans hj hin.cu.1
    have hix : i ≤ s.xc := Nat.le_trans hi hin.cx.1
    have hka2 : (k : Int) ≤ (s.ac : Int) := by omega
    have hju2 : (j : Int) ≤ (s.uc : Int) := by omega
    have hix2 : (i : Int) ≤ (s.xc : Int) := by omega
    have hLL := HL.out.light
    have hkb : k ≤ 1000000 := by have := hLL.2.1; omega
    have hjb : j ≤ 1000000 := by have := hLL.2.2.1; omega
    have hib : i ≤ 1000000 := by have := hLL.2.2.2.1; omega
    rw [← hw9]
    clear hw9 hb9 z0 z1 z2 z3 z4 z5 z6 z7 z8 z9 z10 z11 z12 z13 HC6 HRX HLX HDX HM8 hin hLL hnN hnd hn6
    generalize w8.heap.size = q9 at hrow ⊢
    have q0 : ∀ w', Below w9.heap.size w9 w' → (w'.cell? ⟨q9, 9, none⟩ = some (.slice s8.A k s8.ac) ∧ w'.cell? ⟨q9, 10, none⟩ = some (.slice s8.U j s8.uc) ∧ w'.cell? ⟨q9, 11, none⟩ = some (.slice s8.X i s8.xc) ∧ w'.cell? ⟨w.heap.size, 9, none⟩ = some (.slice s.A m.an.length s.ac) ∧ w'.cell? ⟨w.heap.size, 10, none⟩ = some (.slice s.U m.au.length s.uc) ∧ w'.cell? ⟨w.heap.size, 11, none⟩ = some (.slice s.X m.ex.length s.xc)) := fun w' hb => by
      obtain ⟨_, _, _, _, _, _, _, _, _, y9, y10, y11, _, _⟩ := HK.out w' (nx HB9.out hb)
      have hr := (hb.block q9 (Array.getElem?_eq_some_iff.1 hrow).1).trans hrow
      exact ⟨(cell_of_row _ _ _ _ _ _ hr).trans rfl, (cell_of_row _ _ _ _ _ _ hr).trans rfl, (cell_of_row _ _ _ _ _ _ hr).trans rfl, y9, y10, y11⟩
    have q4 : ∀ w', Below w9.heap.size w9 w' → w'.cell? ⟨q9, 4, none⟩ = some (.bool x.tc) ∧ w'.cell? ⟨w.heap.size, 4, none⟩ = some (.bool m.tc) := fun w' hb => by
      have hr := (hb.block q9 (Array.getElem?_eq_some_iff.1 hrow).1).trans hrow
      exact ⟨(cell_of_row _ _ _ _ _ _ hr).trans rfl, (HK.out w' (nx HB9.out hb)).2.2.2.2.1⟩
    have q1 := q0 w9 bl
    have q2 := q0 w9.drew bl.drew
    have HQ := Lib.hid q0
    have HQ4 := Lib.hid q4
    clear q0 q4 hrow
    go_region_held3 (fun w' => w'.cell? ⟨q9, 9, none⟩ = some (.slice s8.A k s8.ac) ∧ w'.cell? ⟨q9, 10, none⟩ = some (.slice s8.U j s8.uc) ∧ w'.cell? ⟨q9, 11, none⟩ = some (.slice s8.X i s8.xc) ∧ w'.cell? ⟨w.heap.size, 9, none⟩ = some (.slice s.A m.an.length s.ac) ∧ w'.cell? ⟨w.heap.size, 10, none⟩ = some (.slice s.U m.au.length s.uc) ∧ w'.cell? ⟨w.heap.size, 11, none⟩ = some (.slice s.X m.ex.length s.xc))
      (first
        | with_reducible exact q1
        | with_reducible exact q2
        | with_reducible exact qa
        | with_reducible exact qb
        | with_reducible exact qc
        | fail)
      (first
        | (go_at_call 33; refine (rsameRRs_eq s8.X s.X i s8.xc s.xc (m.ex.take i) wb (HXE.out wb HBb.out).2.2 (HYE.out wb HBb.out).2.2 (HXS.out wb HBb.out) (HYS.out wb HBb.out) (by omega)).mono ?_; rintro e wc ⟨vc, rfl, rfl, hbc⟩; have HBc := Lib.hid (nx HBb.out hbc); have qc := HQ.out wc HBc.out)
        | (go_at_call 33; refine (rsameRRs_eq s8.U s.U j s8.uc s.uc (m.au.take j) wa (HXE.out wa HBa.out).2.1 (HYE.out wa HBa.out).2.1 (HXS.out wa HBa.out) (HYS.out wa HBa.out) (by omega)).mono ?_; rintro e wb ⟨vb, rfl, rfl, hbb⟩; have HBb := Lib.hid (nx HBa.out hbb); have qb := HQ.out wb HBb.out)
        | (go_at_call 33; go_must (refine (rsameRRs_eq s8.A s.A k s8.ac s.ac (m.an.take k) w9.drew (HXE.out w9.drew bl.drew).1 (HYE.out w9.drew bl.drew).1 (HXS.out w9.drew bl.drew) (HYS.out w9.drew bl.drew) (by omega)).mono ?_; rintro e wa ⟨va, rfl, rfl, hba⟩; have HBa : Hid (Below w9.heap.size w9 wa) := bl.drew.trans hba; have qa := HQ.out wa HBa.out))
        | fail)
    clear q1 q2 qa qb qc
    obtain ⟨y9, y10, y11, z9, z10, z11⟩ := HQ.out wc HBc.out
    obtain ⟨y4, z4⟩ := HQ4.out wc HBc.out
    have htc := HP.out.tc
    have hxx := HP.out.ex
    have hau := HP.out.au
    have hbnd := HP.out.bnd
    clear z0 z1 z2 z3 z5 z6 z7 z8 z12 z13 HK
    rename (wc.cell? ⟨q9, 9, none⟩ = _ ∧ _) => hcj
    clear hcj
    have HPB : Hid (∀ a b, k ≠ m.an.length → k ≠ 0 → m.an[k]? = some a → m.an[k - 1]? = some b → sameNT a b = false) := fun a b h1 h2 => by
      rcases hbnd with h | h | h
      · exact absurd h h1
      · exact absurd h h2
      · exact h a b
    have HHX := Lib.hid hxx
    have HHU := Lib.hid hau
    have HTC := Lib.hid htc
    have HKL : Hid (k ≤ m.an.length ∧ j ≤ m.au.length ∧ i ≤ m.ex.length ∧ m.an.length ≤ 1000000 ∧ m.au.length ≤ 1000000) := ⟨hk, hj, hi, by have := HL.out.light.2.1; omega, by have := HL.out.light.2.2.1; omega⟩
    clear HR1 HL HBM HFF HNB HB4 HB5 HB6 HP eid erc eqs eed pa pu px HAN HAU HEX hkd hjd hid hka hju hix hka2 hju2 hix2 hkb hjb hib HXE HXS HYE HYS HB8 HQ HQ4 HBa HBb hbnd hau hxx htc hk hj hi
    obtain ⟨na, hna⟩ : ∃ n, n = m.an.length := ⟨_, rfl⟩
    obtain ⟨nu, hnu⟩ : ∃ n, n = m.au.length := ⟨_, rfl⟩
    rw [← hna] at z9 HPB HHX HHU HTC HKL
    rw [← hnu] at z10 HHX HTC HKL
    have HNA := Lib.hid hna
    clear hna hnu
    by_cases hkA : k = na
    · subst hkA
      by_cases hjA : j = nu
      · subst hjA
        have htc2 : x.tc = m.tc := by rw [HTC.out]; simp
        clear HPB HHX HHU HTC
        cases hmt : m.tc with
        | true => as_aux_lemma =>
          rw [htc2, hmt] at y4
          rw [hmt] at z4
          clear htc2 hmt
          by_cases i0 : i = 0
          · subst i0
            by_cases j0 : j = 0
            · subst j0
              go_upto_region 16 with (fail)
              go_quiet (fail)
              go_wp2
              go_ret
              exact ⟨rfl, nx HB1.out (nx HB9.out (dN HBc.out nq))⟩
            · have jp : 0 < j := Nat.pos_of_ne_zero j0
              have jq : (0 : Int) < (j : Int) := by omega
              have jr : decide ((0 : Int) < (j : Int)) = true := decide_eq_true jq
              have js : decide (0 < j) = true := decide_eq_true jp
              go_upto_region 16 with (fail)
              go_quiet (fail)
              go_wp2
              go_ret
              exact ⟨rfl, nx HB1.out (nx HB9.out (dN HBc.out nq))⟩
          · have ip : 0 < i := Nat.pos_of_ne_zero i0
            have iq : (0 : Int) < (i : Int) := by omega
            have ir : decide ((0 : Int) < (i : Int)) = true := decide_eq_true iq
            have is : decide (0 < i) = true := decide_eq_true ip
            by_cases j0 : j = 0
            · subst j0
              go_upto_region 16 with (fail)
              go_quiet (fail)
              go_wp2
              go_ret
              exact ⟨rfl, nx HB1.out (nx HB9.out (dN HBc.out nq))⟩
            · have jp : 0 < j := Nat.pos_of_ne_zero j0
              have jq : (0 : Int) < (j : Int) := by omega
              have jr : decide ((0 : Int) < (j : Int)) = true := decide_eq_true jq
              have js : decide (0 < j) = true := decide_eq_true jp
              go_upto_region 16 with (fail)
              go_quiet (fail)
              go_wp2
              go_ret
              exact ⟨rfl, nx HB1.out (nx HB9.out (dN HBc.out nq))⟩
        | false => as_aux_lemma =>
          rw [htc2, hmt] at y4
          rw [hmt] at z4
          clear htc2 hmt
          by_cases i0 : i = 0
          · subst i0
            by_cases j0 : j = 0
            · subst j0
              go_upto_region 16 with (fail)
              go_quiet (fail)
              go_wp2
              go_ret
              exact ⟨rfl, nx HB1.out (nx HB9.out (dN HBc.out nq))⟩
            · have jp : 0 < j := Nat.pos_of_ne_zero j0
              have jq : (0 : Int) < (j : Int) := by omega
              have jr : decide ((0 : Int) < (j : Int)) = true := decide_eq_true jq
              have js : decide (0 < j) = true := decide_eq_true jp
              go_upto_region 16 with (fail)
              go_quiet (fail)
              go_wp2
              go_ret
              exact ⟨rfl, nx HB1.out (nx HB9.out (dN HBc.out nq))⟩
          · have ip : 0 < i := Nat.pos_of_ne_zero i0
            have iq : (0 : Int) < (i : Int) := by omega
            have ir : decide ((0 : Int) < (i : Int)) = true := decide_eq_true iq
            have is : decide (0 < i) = true := decide_eq_true ip
            by_cases j0 : j = 0
            · subst j0
              go_upto_region 16 with (fail)
              go_quiet (fail)
              go_wp2
              go_ret
              exact ⟨rfl, nx HB1.out (nx HB9.out (dN HBc.out nq))⟩
            · have jp : 0 < j := Nat.pos_of_ne_zero j0
              have jq : (0 : Int) < (j : Int) := by omega
              have jr : decide ((0 : Int) < (j : Int)) = true := decide_eq_true jq
              have js : decide (0 < j) = true := decide_eq_true jp
              go_upto_region 16 with (fail)
              go_quiet (fail)
              go_wp2
              go_ret
              exact ⟨rfl, nx HB1.out (nx HB9.out (dN HBc.out nq))⟩
      · have hi0 : i = 0 := Nat.eq_zero_of_not_pos (fun h => hjA (HHX.out h).1)
        subst hi0
        have htc2 : x.tc = true := by rw [HTC.out]; simp [hjA]
        have hjb : ((j : Int) == (nu : Int)) = false := by simp; omega
        have hjb2 : (j == nu) = false := by simp [hjA]
        clear HPB HHX HHU HTC
        cases hmt : m.tc with
        | true => as_aux_lemma =>
          rw [htc2] at y4
          rw [hmt] at z4
          clear htc2 hmt
          by_cases j0 : j = 0
          · subst j0
            go_upto_region 14 with (fail)
            clear hjb hjb2 hjA
            go_upto_region 16 with (fail)
            go_quiet (fail)
            go_wp2
            go_ret
            exact ⟨rfl, nx HB1.out (nx HB9.out (dN HBc.out nq))⟩
          · have jp : 0 < j := Nat.pos_of_ne_zero j0
            have jq : (0 : Int) < (j : Int) := by omega
            have jr : decide ((0 : Int) < (j : Int)) = true := decide_eq_true jq
            have js : decide (0 < j) = true := decide_eq_true jp
            go_upto_region 14 with (fail)
            clear hjb hjb2 hjA
            go_upto_region 16 with (fail)
            go_quiet (fail)
            go_wp2
            go_ret
            exact ⟨rfl, nx HB1.out (nx HB9.out (dN HBc.out nq))⟩
        | false => as_aux_lemma =>
          rw [htc2] at y4
          rw [hmt] at z4
          clear htc2 hmt
          by_cases j0 : j = 0
          · subst j0
            go_upto_region 14 with (fail)
            clear hjb hjb2 hjA
            go_upto_region 16 with (fail)
            go_quiet (fail)
            go_wp2
            go_ret
            exact ⟨rfl, nx HB1.out (nx HB9.out (dN HBc.out nq))⟩
          · have jp : 0 < j := Nat.pos_of_ne_zero j0
            have jq : (0 : Int) < (j : Int) := by omega
            have jr : decide ((0 : Int) < (j : Int)) = true := decide_eq_true jq
            have js : decide (0 < j) = true := decide_eq_true jp
            go_upto_region 14 with (fail)
            clear hjb hjb2 hjA
            go_upto_region 16 with (fail)
            go_quiet (fail)
            go_wp2
            go_ret
            exact ⟨rfl, nx HB1.out (nx HB9.out (dN HBc.out nq))⟩
    · have hj0 : j = 0 := Nat.eq_zero_of_not_pos (fun h => hkA (HHU.out h))
      have hi0 : i = 0 := Nat.eq_zero_of_not_pos (fun h => hkA (HHX.out h).2)
      subst hj0 hi0
      have htc2 : x.tc = true := by rw [HTC.out]; simp [hkA]
      have hkb : ((k : Int) == (na : Int)) = false := by simp; omega
      have hkb2 : (k == na) = false := by simp [hkA]
      have hkl : k < na := by have := HKL.out.1; omega
      clear HHX HHU HTC
      by_cases hk0 : k = 0
      · subst hk0
        have hnp : ((0 : Int) == (na : Int)) = false := by simp; omega
        clear HPB hkA hkb hkb2 hkl
        cases hmt : m.tc with
        | true => as_aux_lemma =>
          rw [htc2] at y4
          rw [hmt] at z4
          clear htc2 hmt
          go_upto_region 16 with (fail)
          go_quiet (fail)
          go_wp2
          go_ret
          exact ⟨rfl, nx HB1.out (nx HB9.out (dN HBc.out nq))⟩
        | false => as_aux_lemma =>
          rw [htc2] at y4
          rw [hmt] at z4
          clear htc2 hmt
          go_upto_region 16 with (fail)
          go_quiet (fail)
          go_wp2
          go_ret
          exact ⟨rfl, nx HB1.out (nx HB9.out (dN HBc.out nq))⟩
      · have hlen : na = m.an.length := HNA.out
        obtain ⟨r, hr⟩ : ∃ r, m.an[k]? = some r := ⟨_, List.getElem?_eq_getElem (by omega)⟩
        obtain ⟨k1, hk1⟩ : ∃ k1, k = k1 + 1 := ⟨k - 1, by omega⟩
        obtain ⟨u, hu⟩ : ∃ u, m.an[k1]? = some u := ⟨_, List.getElem?_eq_getElem (by omega)⟩
        have HST := Lib.hid (HPB.out r u hkA hk0 hr (by rw [hk1]; exact hu))
        have hmin := HIW.out wc (nx HB9.out HBc.out)
        have HSC := Lib.hid (HSW.out wc (nx HB9.out HBc.out))
        obtain ⟨g, off, t, hsA, -, hri, hrc⟩ := rr_at hmin.a hr
        obtain ⟨g', off', t', he, -, hui, huc⟩ := rr_at hmin.a hu
        have hca : na ≤ s.ac := by have := hmin.ca.1; omega
        rw [hsA] at he z9
        injection he with he
        injection he with he1 he2
        subst he1 he2
        obtain ⟨d0, d1, -⟩ := hrc
        obtain ⟨e0, e1, -⟩ := huc
        have HRI := Lib.hid hri
        have HUI := Lib.hid hui
        have hsub : (k : Int) - 1 = (k1 : Int) := by omega
        have hk0b : ((k : Int) == 0) = false := by simp; omega
        have hki : (k : Int) < (na : Int) := by omega
        have hk1i : (k1 : Int) < (na : Int) := by omega
        have hkn : k < na := hkl
        have hk1n : k1 < na := by omega
        have HKM : Hid (k ≤ 1000000 ∧ k1 ≤ 1000000) := by have := HKL.out; exact ⟨by omega, by omega⟩
        clear HPB hkA hkb2 hkl hk0 hlen hk1 hr hu hmin hri hui HKL
        cases hmt : m.tc with
        | true => as_aux_lemma =>
          rw [htc2] at y4
          rw [hmt] at z4
          clear htc2 hmt
          go_upto_region 16 with (fail)
          clear y4 y9 y10 y11 z4 z10 z11
          have hkM : k ≤ 1000000 := HKM.out.1
          by_cases hty : r.type = u.type
          rotate_left
          · have htb : (r.type == u.type) = false := by simp [hty]
            clear hty
            go_quiet (fail)
            go_wp2
            go_ret
            exact ⟨rfl, nx HB1.out (nx HB9.out (dN HBc.out nq))⟩
          · have htb : (r.type == u.type) = true := by simp [hty]
            have HNN : Hid (decide (lowN r.name = lowN u.name) = false) := decide_eq_false (fun e => by have h := HST.out; unfold sameNT at h; simp [hty, e] at h)
            have q0 : ∀ w', Below wc.heap.size wc w' → (w'.cell? ⟨w.heap.size, 9, none⟩ = some (.slice (some ⟨g, off, none⟩) na s.ac) ∧ w'.cell? ⟨g, off + k * 9 + 1, none⟩ = some (.int .i64 r.type) ∧ w'.cell? ⟨g, off + k1 * 9 + 1, none⟩ = some (.int .i64 u.type) ∧ w'.cell? ⟨g, off + k * 9, none⟩ = some (.slice t.A r.name.length t.c) ∧ w'.cell? ⟨g, off + k1 * 9, none⟩ = some (.slice t'.A u.name.length t'.c)) := fun w' hb => ⟨below_cell hb z9, below_cell hb d1, below_cell hb e1, below_cell hb d0, below_cell hb e0⟩
            have q1 := q0 wc bl
            have q2 := q0 wc.drew bl.drew
            have HQ := Lib.hid q0
            have hw1 : IntKind.i64.wrap (k1 : Int) = (k1 : Int) := by rw [IntKind.wrap_i64]; have := HKM.out; omega
            have hw3 : wrap64 (k1 : Int) = (k1 : Int) := by unfold wrap64; have := HKM.out; omega
            have HNR : Hid (RdE encS wc t.A r.name.length r.name) := HRI.out.n.mono HSC.out HSC.out
            have HNX : Hid (RdE encS wc t'.A u.name.length u.name) := HUI.out.n.mono HSC.out HSC.out
            have hb0 : (0 : Int) ≤ (k1 : Int) := by omega
            have hN0 : (0 : Int) ≤ (k : Int) := by omega
            have htb1 : (k1 : Int).toNat = k1 := by omega
            have htN1 : (k : Int).toNat = k := by omega
            clear q0 z9 d0 d1 e0 e1 hty
            go_region_held3 (fun w' => w'.cell? ⟨w.heap.size, 9, none⟩ = some (.slice (some ⟨g, off, none⟩) na s.ac) ∧ w'.cell? ⟨g, off + k * 9 + 1, none⟩ = some (.int .i64 r.type) ∧ w'.cell? ⟨g, off + k1 * 9 + 1, none⟩ = some (.int .i64 u.type) ∧ w'.cell? ⟨g, off + k * 9, none⟩ = some (.slice t.A r.name.length t.c) ∧ w'.cell? ⟨g, off + k1 * 9, none⟩ = some (.slice t'.A u.name.length t'.c))
              (first
                | with_reducible exact q1
                | with_reducible exact q2
                | with_reducible exact q3
                | fail)
              (first
                | (go_at_call 34; go_must (refine (requal_any t.A t'.A r.name.length t.c u.name.length t'.c r.name u.name wc.drew (RdE.below HNR.out bl.drew) (RdE.below HNX.out bl.drew) (Nat.le_trans HRI.out.cn.1 HRI.out.cn.2) (Nat.le_trans HUI.out.cn.1 HUI.out.cn.2)).mono ?_; rw [HNN.out]; rintro e w7 ⟨v7, rfl, rfl, hb7⟩; have q3 := HQ.out w7 (bl.drew.trans hb7)))
                | fail)
            have HB7 := Lib.hid (nx HBc.out (bl.drew.trans hb7))
            clear q1 q2 q3
            go_wp2
            go_ret
            exact ⟨rfl, nx HB1.out (nx HB9.out HB7.out)⟩
        | false => as_aux_lemma =>
          rw [htc2] at y4
          rw [hmt] at z4
          clear htc2 hmt
          go_upto_region 16 with (fail)
          clear y4 y9 y10 y11 z4 z10 z11
          have hkM : k ≤ 1000000 := HKM.out.1
          by_cases hty : r.type = u.type
          rotate_left
          · have htb : (r.type == u.type) = false := by simp [hty]
            clear hty
            go_quiet (fail)
            go_wp2
            go_ret
            exact ⟨rfl, nx HB1.out (nx HB9.out (dN HBc.out nq))⟩
          · have htb : (r.type == u.type) = true := by simp [hty]
            have HNN : Hid (decide (lowN r.name = lowN u.name) = false) := decide_eq_false (fun e => by have h := HST.out; unfold sameNT at h; simp [hty, e] at h)
            have q0 : ∀ w', Below wc.heap.size wc w' → (w'.cell? ⟨w.heap.size, 9, none⟩ = some (.slice (some ⟨g, off, none⟩) na s.ac) ∧ w'.cell? ⟨g, off + k * 9 + 1, none⟩ = some (.int .i64 r.type) ∧ w'.cell? ⟨g, off + k1 * 9 + 1, none⟩ = some (.int .i64 u.type) ∧ w'.cell? ⟨g, off + k * 9, none⟩ = some (.slice t.A r.name.length t.c) ∧ w'.cell? ⟨g, off + k1 * 9, none⟩ = some (.slice t'.A u.name.length t'.c)) := fun w' hb => ⟨below_cell hb z9, below_cell hb d1, below_cell hb e1, below_cell hb d0, below_cell hb e0⟩
            have q1 := q0 wc bl
            have q2 := q0 wc.drew bl.drew
            have HQ := Lib.hid q0
            have hw1 : IntKind.i64.wrap (k1 : Int) = (k1 : Int) := by rw [IntKind.wrap_i64]; have := HKM.out; omega
            have hw3 : wrap64 (k1 : Int) = (k1 : Int) := by unfold wrap64; have := HKM.out; omega
            have HNR : Hid (RdE encS wc t.A r.name.length r.name) := HRI.out.n.mono HSC.out HSC.out
            have HNX : Hid (RdE encS wc t'.A u.name.length u.name) := HUI.out.n.mono HSC.out HSC.out
            have hb0 : (0 : Int) ≤ (k1 : Int) := by omega
            have hN0 : (0 : Int) ≤ (k : Int) := by omega
            have htb1 : (k1 : Int).toNat = k1 := by omega
            have htN1 : (k : Int).toNat = k := by omega
            clear q0 z9 d0 d1 e0 e1 hty
            go_region_held3 (fun w' => w'.cell? ⟨w.heap.size, 9, none⟩ = some (.slice (some ⟨g, off, none⟩) na s.ac) ∧ w'.cell? ⟨g, off + k * 9 + 1, none⟩ = some (.int .i64 r.type) ∧ w'.cell? ⟨g, off + k1 * 9 + 1, none⟩ = some (.int .i64 u.type) ∧ w'.cell? ⟨g, off + k * 9, none⟩ = some (.slice t.A r.name.length t.c) ∧ w'.cell? ⟨g, off + k1 * 9, none⟩ = some (.slice t'.A u.name.length t'.c))
              (first
                | with_reducible exact q1
                | with_reducible exact q2
                | with_reducible exact q3
                | fail)
              (first
                | (go_at_call 34; go_must (refine (requal_any t.A t'.A r.name.length t.c u.name.length t'.c r.name u.name wc.drew (RdE.below HNR.out bl.drew) (RdE.below HNX.out bl.drew) (Nat.le_trans HRI.out.cn.1 HRI.out.cn.2) (Nat.le_trans HUI.out.cn.1 HUI.out.cn.2)).mono ?_; rw [HNN.out]; rintro e w7 ⟨v7, rfl, rfl, hb7⟩; have q3 := HQ.out w7 (bl.drew.trans hb7)))
                | fail)
            have HB7 := Lib.hid (nx HBc.out (bl.drew.trans hb7))
            clear q1 q2 q3
            go_wp2
            go_ret
            exact ⟨rfl, nx HB1.out (nx HB9.out HB7.out)⟩
theorem cutWhole_walk (s : MS) (m : Ms) (a : Nat) (w : World) (h : MIn (ltS w) w s m) (hq : m.qs.length ≤ 1048576) (ha1 : m.an.length ≤ 1048576) (hu : m.au.length ≤ 1048576) (hx : m.ex.length ≤ 1048576) (hby : ∀ r ∈ m.an ++ m.au ++ m.ex, r.data.bytes.length ≤ 1048576) (ha : a < 65536) :
    Calls Try.prog 10 #[msV s m, .int .u16 (a : Int)] w (LawT w) := by
  have hby2 : ∀ r ∈ m.an ++ m.au ++ m.ex, r.data.bytes.length ≤ 140737488355328 := fun r hr => by have := hby r hr; omega
  by_cases h0 : LtMsg7 m
  · cases hf : fineM m with
    | true => exact cutWhole_fine s m a w h hq (by omega) hby2 ha h0 hf
    | false => exact cutWhole_bad s m a w h hq (by omega) hby2 ha h0 hf
  · exact cutWhole_heavy s m a w h hq (by omega) hby2 ha h0
end Go.Proofs.Ytmkfjddighabcaa
