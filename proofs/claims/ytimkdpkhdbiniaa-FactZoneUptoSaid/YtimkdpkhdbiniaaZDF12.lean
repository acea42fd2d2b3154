/- Parts of a proof, joined: RFact3. -/
import Derived.Test.YtimkdpkhdbiniaaZDF11
/- The reference: which facts of kind 2 and 3 may be; Sound of any fact (printed by gen/rfact3.py). -/
namespace Go.Proofs.Ytimkdpkhdbiniaa
open Go.RowKit
set_option maxRecDepth 100000
set_option linter.unusedVariables false

section
variable {P : Program} {ops : Array Oper} {Q : Exit → Act → World → Prop}
/-- An operation behind a guard that was passed over itself. -/
theorem wpOp_und {i : Nat} {o : Oper} {K : Act → World → Prop} {a : Act} {w : World} (hi : ops[i]? = some o) {g : Nat} {b : Bool} (hg : o.guard = some (g, b)) (hy : yielded ops a.tmps g = none) (h : K (a.put o.dst undef) w) : wpOp P ops Q i K a w := by
  unfold wpOp
  rw [hi]
  show if Region.wanted o (yielded ops a.tmps) = true then _ else _
  rw [if_neg (by simp [Region.wanted, hg, hy])]
  exact h
theorem yields_undef {g : Nat} {a : Act} {t : Nat} (hd : (ops[g]?).bind (·.dst) = some t) (h : a.tmps[t]? = some undef) : yielded ops a.tmps g = none := by
  unfold yielded
  rw [hd]
  show (match a.tmps[t]? with | some (.bool b) => some b | _ => none) = _
  rw [h]
  rfl
end

set_option maxHeartbeats 16000000 in
theorem rsoundF_k2 (sA : Option Addr) (sac : Nat) (sS : Option Addr) (ssc : Nat) (sZ : Option Addr) (szc : Nat) (sd : DS) (f : Fa) (w : World) {S : Nat → Prop} (h : FaIn S w ⟨sA, sac, sS, ssc, sZ, szc, sd⟩ f) (hS : ∀ b, S b → b < w.heap.size) (hL : LtF f) (hh : headF f = true) (h1 : f.kind = 2) :
    Calls Try.prog 34 #[faV ⟨sA, sac, sS, ssc, sZ, szc, sd⟩ f] w (RetP (fun v _ => v = .bool (fineN f)) w) := by
  obtain ⟨n, hn⟩ : ∃ n, n = f.set.length := ⟨_, rfl⟩
  obtain ⟨w1, hw1⟩ : ∃ w1, w1 = w.alloc (.cells (faCells ⟨sA, sac, sS, ssc, sZ, szc, sd⟩ f) 48) := ⟨_, rfl⟩
  have hb1 : Below w.heap.size w w1 := by rw [hw1]; exact bl.alloc (Nat.le_refl _) _
  have hR : FaRow w1 w.heap.size ⟨sA, sac, sS, ssc, sZ, szc, sd⟩ f := by rw [hw1]; exact FaRow.made w _ f
  have HR := Lib.hid hR
  have HI := Lib.hid (h.below hb1 hS)
  have HSW : Hid (∀ b, S b → b < w1.heap.size) := fun b hb => Nat.lt_of_lt_of_le (hS b hb) hb1.size
  have HB1 := Lib.hid hb1
  have HN := Lib.hid hn
  have HL := Lib.hid hL
  have HKK : Hid (∀ u, Below w1.heap.size w1 u → (u.cell? ⟨w.heap.size, 0, none⟩ = some (.slice sA f.name.length sac) ∧ u.cell? ⟨w.heap.size, 1, none⟩ = some (.int .i64 f.type) ∧ u.cell? ⟨w.heap.size, 2, none⟩ = some (.int .i64 f.kind) ∧ u.cell? ⟨w.heap.size, 3, none⟩ = some (.int .i64 f.rank) ∧ u.cell? ⟨w.heap.size, 4, none⟩ = some (.int .i64 f.got) ∧ u.cell? ⟨w.heap.size, 5, none⟩ = some (.int .i64 f.ttl) ∧ u.cell? ⟨w.heap.size, 6, none⟩ = some (.slice sS n ssc) ∧ u.cell? ⟨w.heap.size, 7, none⟩ = some (.slice sZ f.zone.length szc) ∧ u.cell? ⟨w.heap.size, 8, none⟩ = some (.slice sd.A0 f.soa.bytes.length sd.c0) ∧ u.cell? ⟨w.heap.size, 9, none⟩ = some (.slice sd.A1 f.soa.host.length sd.c1) ∧ u.cell? ⟨w.heap.size, 10, none⟩ = some (.slice sd.A2 f.soa.mail.length sd.c2) ∧ u.cell? ⟨w.heap.size, 11, none⟩ = some (.slice sd.A3 f.soa.nums.length sd.c3) ∧ u.cell? ⟨w.heap.size, 12, none⟩ = some (.slice sd.A4 f.soa.texts.length sd.c4))) := fun u hu => by
    have h := hR.below hu
    rw [hn]
    exact ⟨(h.cell 0).trans rfl, (h.cell 1).trans rfl, (h.cell 2).trans rfl, (h.cell 3).trans rfl, (h.cell 4).trans rfl, (h.cell 5).trans rfl, (h.cell 6).trans rfl, (h.cell 7).trans rfl, (h.cell 8).trans rfl, (h.cell 9).trans rfl, (h.cell 10).trans rfl, (h.cell 11).trans rfl, (h.cell 12).trans rfl⟩
  have HNS : Hid (∀ u, Below w1.heap.size w1 u → Calls Try.prog 27 #[.slice sA f.name.length sac] u (Ret (.bool (soundB f.name)) u)) := fun u hu => rsound_any sA f.name.length sac f.name u (HI.out.below hu HSW.out).n
  have HZS : Hid (∀ u, Below w1.heap.size w1 u → Calls Try.prog 27 #[.slice sZ f.zone.length szc] u (Ret (.bool (soundB f.zone)) u)) := fun u hu => rsound_any sZ f.zone.length szc f.zone u (HI.out.below hu HSW.out).z
  have HRT : Hid (∀ u, Calls Try.prog 26 #[.int .i64 f.got] u (Ret (.bool (timeB f.got)) u)) := fun u => rtime_any f.got u
  have HTY : Hid (∀ u, Calls Try.prog 75 #[.int .i64 f.type] u (Ret (.bool (typedB f.type)) u)) := fun u => rtyped_any f.type u
  obtain ⟨x0, x1, x2, x3, x4, x5, x6, x7, x8, x9, x10, x11, x12⟩ := HKK.out w1 bl
  unfold faV
  unfold faCells at hw1 ⊢
  rw [← hn] at hw1
  rw [← hn]
  have HD0 : Hid (soundB f.name = true ∧ 1 ≤ f.rank ∧ f.rank ≤ 4 ∧ timeB f.got = true ∧ 0 ≤ f.ttl ∧ f.ttl ≤ 604800) := by
    unfold headF at hh
    simp only [Bool.and_eq_true, decide_eq_true_eq] at hh
    obtain ⟨⟨⟨⟨⟨a1, a2⟩, a3⟩, a4⟩, a5⟩, a6⟩ := hh
    exact ⟨a1, a2, a3, a4, a5, a6⟩
  have r1d : decide (f.rank < 1) = false := decide_eq_false (by have := HD0.out.2.1; omega)
  have r2d : decide (4 < f.rank) = false := decide_eq_false (by have := HD0.out.2.2.1; omega)
  have r3d : decide (f.ttl < 0) = false := decide_eq_false (by have := HD0.out.2.2.2.2.1; omega)
  have r4d : decide (604800 < f.ttl) = false := decide_eq_false (by have := HD0.out.2.2.2.2.2; omega)
  rw [HD0.out.1] at HNS
  rw [HD0.out.2.2.2.1] at HRT
  obtain ⟨w2, hw2⟩ : ∃ w2, w2 = w1.alloc (.cells #[.slice sd.A0 f.soa.bytes.length sd.c0, .slice sd.A1 f.soa.host.length sd.c1, .slice sd.A2 f.soa.mail.length sd.c2, .slice sd.A3 f.soa.nums.length sd.c3, .slice sd.A4 f.soa.texts.length sd.c4] 46) := ⟨_, rfl⟩
  have hb2 : Below w1.heap.size w1 w2 := by rw [hw2]; exact bl.alloc (Nat.le_refl _) _
  have hDB : DBox w2 w1.heap.size sd f.soa := by rw [hw2]; exact DBox.made w1 sd f.soa _
  have HB2 : Hid (Below w.heap.size w w2) := nx hb1 hb2
  have HK2 : Hid (∀ u, Below w2.heap.size w2 u → ((u.cell? ⟨w.heap.size, 0, none⟩ = some (.slice sA f.name.length sac) ∧ u.cell? ⟨w.heap.size, 1, none⟩ = some (.int .i64 f.type) ∧ u.cell? ⟨w.heap.size, 2, none⟩ = some (.int .i64 f.kind) ∧ u.cell? ⟨w.heap.size, 3, none⟩ = some (.int .i64 f.rank) ∧ u.cell? ⟨w.heap.size, 4, none⟩ = some (.int .i64 f.got) ∧ u.cell? ⟨w.heap.size, 5, none⟩ = some (.int .i64 f.ttl) ∧ u.cell? ⟨w.heap.size, 6, none⟩ = some (.slice sS n ssc) ∧ u.cell? ⟨w.heap.size, 7, none⟩ = some (.slice sZ f.zone.length szc) ∧ u.cell? ⟨w.heap.size, 8, none⟩ = some (.slice sd.A0 f.soa.bytes.length sd.c0) ∧ u.cell? ⟨w.heap.size, 9, none⟩ = some (.slice sd.A1 f.soa.host.length sd.c1) ∧ u.cell? ⟨w.heap.size, 10, none⟩ = some (.slice sd.A2 f.soa.mail.length sd.c2) ∧ u.cell? ⟨w.heap.size, 11, none⟩ = some (.slice sd.A3 f.soa.nums.length sd.c3) ∧ u.cell? ⟨w.heap.size, 12, none⟩ = some (.slice sd.A4 f.soa.texts.length sd.c4)) ∧ (u.cell? ⟨w1.heap.size, 0, none⟩ = some (.slice sd.A0 f.soa.bytes.length sd.c0) ∧ u.cell? ⟨w1.heap.size, 1, none⟩ = some (.slice sd.A1 f.soa.host.length sd.c1) ∧ u.cell? ⟨w1.heap.size, 2, none⟩ = some (.slice sd.A2 f.soa.mail.length sd.c2) ∧ u.cell? ⟨w1.heap.size, 3, none⟩ = some (.slice sd.A3 f.soa.nums.length sd.c3) ∧ u.cell? ⟨w1.heap.size, 4, none⟩ = some (.slice sd.A4 f.soa.texts.length sd.c4)))) := fun u hu => ⟨HKK.out u (nx hb2 hu), hDB.below hu⟩
  have HI2 := Lib.hid (HI.out.below hb2 HSW.out)
  have HS2 : Hid (∀ b, S b → b < w2.heap.size) := fun b hb => Nat.lt_of_lt_of_le (HSW.out b hb) hb2.size
  have HB12 := Lib.hid hb2
  have k1 : (f.kind == 1) = false := by simp [h1]
  have k2 : (f.kind == 2) = true := by simp [h1]
  have hszc : f.zone.length ≤ szc := h.cz.1
  have hsac : f.name.length ≤ sac := h.cn.1
  obtain ⟨R, hR0⟩ : ∃ R, R = fineN f := ⟨_, rfl⟩
  have HV : Hid (R = (decide (f.ttl ≤ 10800) && decide (n = 0) && soundB f.zone && underB f.name f.zone && fineB 6 f.soa && typedB f.type)) := by show _ = _; rw [hR0, hn]; unfold fineN; rw [h1]; simp
  rw [← hR0]
  have HT0 : Hid (typedB f.type = true → decide (f.type = 0) = false) := fun ht => by
    unfold typedB at ht
    simp only [Bool.and_eq_true, decide_eq_true_eq] at ht
    exact decide_eq_false (by omega)
  have HZS2 : Hid (∀ u, Below w2.heap.size w2 u → Calls Try.prog 27 #[.slice sZ f.zone.length szc] u (Ret (.bool (soundB f.zone)) u)) := fun u hu => HZS.out u (nx hb2 hu)
  have HUN : Hid (∀ u, Below w2.heap.size w2 u → Calls Try.prog 35 #[.slice sA f.name.length sac, .slice sZ f.zone.length szc] u (RetP (fun v _ => v = .bool (underB f.name f.zone)) u)) := fun u hu => by
    have hi := HI2.out.below hu HS2.out
    have hm : ∀ b, S b → b < u.heap.size := fun b hb => Nat.lt_of_lt_of_le (HS2.out b hb) hu.size
    have h1 := HL.out.n
    have h2 := HL.out.z
    exact runder_any sA sZ f.name.length sac f.zone.length szc f.name f.zone u (hi.n.mono hm hm) (hi.z.mono hm hm) (by omega) (by omega) hsac
  have HFD : Hid (∀ u, Below w2.heap.size w2 u → Calls Try.prog 76 #[.int .i64 6, .agg #[.slice sd.A0 f.soa.bytes.length sd.c0, .slice sd.A1 f.soa.host.length sd.c1, .slice sd.A2 f.soa.mail.length sd.c2, .slice sd.A3 f.soa.nums.length sd.c3, .slice sd.A4 f.soa.texts.length sd.c4]] u (RetP (fun v _ => v = .bool (fineB 6 f.soa)) u)) := fun u hu => rdata_big 6 sd f.soa u ((HI2.out.below hu HS2.out).d.rd (fun b hb => Nat.lt_of_lt_of_le (HS2.out b hb) hu.size)) (by have := HL.out.d; omega) (by have := HL.out.d; omega)
  generalize typedB f.type = TY at HTY HV HT0
  generalize soundB f.zone = SZ at HZS2 HV
  generalize underB f.name f.zone = UN at HUN HV
  generalize fineB 6 f.soa = FD at HFD HV
  clear HZS hszc hsac hR0 h1
  clear h hS hL hn hb1 hR hh hb2 hDB
  go_enter Try.func34, Try.ntmps34
  go_upto_region 1 with (fail)
  rw [← hw1]
  clear hw1
  go_upto_region 4 with (first
    | (go_at_call 26; (with_reducible refine (HRT.out w1).mono ?_); rintro e w0 ⟨rfl, rfl⟩)
    | (go_at_call 27; (with_reducible refine (HNS.out w1 bl).mono ?_); rintro e w0 ⟨rfl, rfl⟩)
    | fail)
  rw [← hw2]
  clear hw2 x0 x1 x2 x3 x4 x5 x6 x7 x8 x9 x10 x11 x12
  obtain ⟨⟨x0, x1, x2, x3, x4, x5, x6, x7, x8, x9, x10, x11, x12⟩, z0, z1, z2, z3, z4⟩ := HK2.out w2 bl
  clear x0 x1 x2 x3 x4 x5 x6 x7 x8 x9 x10 x11 x12 z0 z1 z2 z3 z4
  obtain ⟨⟨-, x1, x2, -, -, -, -, -, -, -, -, -, -⟩, -⟩ := HK2.out w2 bl
  go_upto_region 16 with (fail)
  clear x1 x2 k1
  cases TY with
  | false =>
    have HNO : Hid (R = false) := by show _ = _; rw [HV.out]; simp
    clear HV
    refine wp_region_vals (n := 44) (by kernel_rfl) (by kernel_rfl) (by kernel_rfl) rfl (by kernel_rfl) (fun i => i + 124) (fun i hi => by show i + 124 < 168; omega) (fun i j _ _ e => by have e2 : i + 124 = j + 124 := e; omega) (fun i => ([.pointer (some ⟨w.heap.size, 2, none⟩), .int .i64 f.kind, .bool true, .pointer (some ⟨w.heap.size, 1, none⟩), .int .i64 f.type, .bool false, .bool false, .bool false, undef, undef, undef, undef, undef, undef, undef, undef, .bool false, .bool false, undef, undef, undef, undef, .bool false, .bool false, undef, undef, undef, .bool false, .bool false, undef, undef, undef, .bool false, .bool false, undef, undef, undef, undef, undef, .bool false, .bool false, undef, undef, .bool false] : List Value).getD i undef) ?_ ?_
    · intro i hi a w4 hbw hsm hdep
      have hc := HK2.out w4 hbw
      have hcases : i = 0 ∨ i = 1 ∨ i = 2 ∨ i = 3 ∨ i = 4 ∨ i = 5 ∨ i = 6 ∨ i = 7 ∨ i = 8 ∨ i = 9 ∨ i = 10 ∨ i = 11 ∨ i = 12 ∨ i = 13 ∨ i = 14 ∨ i = 15 ∨ i = 16 ∨ i = 17 ∨ i = 18 ∨ i = 19 ∨ i = 20 ∨ i = 21 ∨ i = 22 ∨ i = 23 ∨ i = 24 ∨ i = 25 ∨ i = 26 ∨ i = 27 ∨ i = 28 ∨ i = 29 ∨ i = 30 ∨ i = 31 ∨ i = 32 ∨ i = 33 ∨ i = 34 ∨ i = 35 ∨ i = 36 ∨ i = 37 ∨ i = 38 ∨ i = 39 ∨ i = 40 ∨ i = 41 ∨ i = 42 ∨ i = 43 := by omega
      rcases hcases with rfl | rfl | rfl | rfl | rfl | rfl | rfl | rfl | rfl | rfl | rfl | rfl | rfl | rfl | rfl | rfl | rfl | rfl | rfl | rfl | rfl | rfl | rfl | rfl | rfl | rfl | rfl | rfl | rfl | rfl | rfl | rfl | rfl | rfl | rfl | rfl | rfl | rfl | rfl | rfl | rfl | rfl | rfl | rfl
      · have e1 : a.tmps[1]? = some (.pointer (some ⟨w.heap.size, 0, none⟩)) := (hsm.other 1 (fun j hj e => by have e2 : j + 124 = 1 := e; omega)).trans rfl
        refine wpOp_plain rfl rfl ?_
        exact wp_val (by simp [e1, go_sem]) ⟨rfl, bl⟩
      · have e124 : a.tmps[124]? = some (.pointer (some ⟨w.heap.size, 2, none⟩)) := hdep 0 (by kernel_rfl)
        refine wpOp_plain rfl rfl ?_
        exact wp_val (by simp [e124, go_sem, hc.1.2.2.1]) ⟨rfl, bl⟩
      · have e125 : a.tmps[125]? = some (.int .i64 f.kind) := hdep 1 (by kernel_rfl)
        refine wpOp_plain rfl rfl ?_
        exact wp_val (by simp [e125, go_sem, k2]) ⟨rfl, bl⟩
      · have e1 : a.tmps[1]? = some (.pointer (some ⟨w.heap.size, 0, none⟩)) := (hsm.other 1 (fun j hj e => by have e2 : j + 124 = 1 := e; omega)).trans rfl
        refine wpOp_plain rfl rfl ?_
        exact wp_val (by simp [e1, go_sem]) ⟨rfl, bl⟩
      · have e127 : a.tmps[127]? = some (.pointer (some ⟨w.heap.size, 1, none⟩)) := hdep 3 (by kernel_rfl)
        refine wpOp_plain rfl rfl ?_
        exact wp_val (by simp [e127, go_sem, hc.1.2.1]) ⟨rfl, bl⟩
      · have e128 : a.tmps[128]? = some (.int .i64 f.type) := hdep 4 (by kernel_rfl)
        refine wpOp_plain rfl rfl ?_
        generalize hK : (fun (a2 : Act) (w2 : World) => _) = K
        have v128 := eval_tmp e128
        go_simp
        refine (HTY.out w4).mono ?_
        rintro e w5 ⟨rfl, rfl⟩
        rw [← hK]
        exact ⟨rfl, bl⟩
      · have e126 : a.tmps[126]? = some (.bool true) := hdep 2 (by kernel_rfl)
        have e129 : a.tmps[129]? = some (.bool false) := hdep 5 (by kernel_rfl)
        refine wpOp_plain rfl rfl ?_
        exact wp_val (by simp [e126, e129, go_sem]) ⟨rfl, bl⟩
      · have e130 : a.tmps[130]? = some (.bool false) := hdep 6 (by kernel_rfl)
        refine wpOp_plain rfl rfl ?_
        exact wp_val (by simp [e130, go_sem]) ⟨rfl, bl⟩
      · have eg : a.tmps[131]? = some (.bool false) := hdep 7 (by kernel_rfl)
        exact wpOp_no rfl rfl (yields_of rfl eg) (by decide) ⟨rfl, bl⟩
      · have eg : a.tmps[131]? = some (.bool false) := hdep 7 (by kernel_rfl)
        exact wpOp_no rfl rfl (yields_of rfl eg) (by decide) ⟨rfl, bl⟩
      · have eg : a.tmps[131]? = some (.bool false) := hdep 7 (by kernel_rfl)
        exact wpOp_no rfl rfl (yields_of rfl eg) (by decide) ⟨rfl, bl⟩
      · have eg : a.tmps[131]? = some (.bool false) := hdep 7 (by kernel_rfl)
        exact wpOp_no rfl rfl (yields_of rfl eg) (by decide) ⟨rfl, bl⟩
      · exact wpOp_und rfl rfl (yields_undef rfl (hdep 11 (by kernel_rfl))) ⟨rfl, bl⟩
      · exact wpOp_und rfl rfl (yields_undef rfl (hdep 11 (by kernel_rfl))) ⟨rfl, bl⟩
      · exact wpOp_und rfl rfl (yields_undef rfl (hdep 11 (by kernel_rfl))) ⟨rfl, bl⟩
      · have eg : a.tmps[131]? = some (.bool false) := hdep 7 (by kernel_rfl)
        exact wpOp_no rfl rfl (yields_of rfl eg) (by decide) ⟨rfl, bl⟩
      · have e131 : a.tmps[131]? = some (.bool false) := hdep 7 (by kernel_rfl)
        have e139 : a.tmps[139]? = some (undef) := hdep 15 (by kernel_rfl)
        refine wpOp_plain rfl rfl ?_
        exact wp_val (by simp [e131, e139, go_sem]) ⟨rfl, bl⟩
      · have e140 : a.tmps[140]? = some (.bool false) := hdep 16 (by kernel_rfl)
        refine wpOp_plain rfl rfl ?_
        exact wp_val (by simp [e140, go_sem]) ⟨rfl, bl⟩
      · have eg : a.tmps[141]? = some (.bool false) := hdep 17 (by kernel_rfl)
        exact wpOp_no rfl rfl (yields_of rfl eg) (by decide) ⟨rfl, bl⟩
      · have eg : a.tmps[141]? = some (.bool false) := hdep 17 (by kernel_rfl)
        exact wpOp_no rfl rfl (yields_of rfl eg) (by decide) ⟨rfl, bl⟩
      · have eg : a.tmps[141]? = some (.bool false) := hdep 17 (by kernel_rfl)
        exact wpOp_no rfl rfl (yields_of rfl eg) (by decide) ⟨rfl, bl⟩
      · have eg : a.tmps[141]? = some (.bool false) := hdep 17 (by kernel_rfl)
        exact wpOp_no rfl rfl (yields_of rfl eg) (by decide) ⟨rfl, bl⟩
      · have e141 : a.tmps[141]? = some (.bool false) := hdep 17 (by kernel_rfl)
        have e145 : a.tmps[145]? = some (undef) := hdep 21 (by kernel_rfl)
        refine wpOp_plain rfl rfl ?_
        exact wp_val (by simp [e141, e145, go_sem]) ⟨rfl, bl⟩
      · have e146 : a.tmps[146]? = some (.bool false) := hdep 22 (by kernel_rfl)
        refine wpOp_plain rfl rfl ?_
        exact wp_val (by simp [e146, go_sem]) ⟨rfl, bl⟩
      · have eg : a.tmps[147]? = some (.bool false) := hdep 23 (by kernel_rfl)
        exact wpOp_no rfl rfl (yields_of rfl eg) (by decide) ⟨rfl, bl⟩
      · have eg : a.tmps[147]? = some (.bool false) := hdep 23 (by kernel_rfl)
        exact wpOp_no rfl rfl (yields_of rfl eg) (by decide) ⟨rfl, bl⟩
      · have eg : a.tmps[147]? = some (.bool false) := hdep 23 (by kernel_rfl)
        exact wpOp_no rfl rfl (yields_of rfl eg) (by decide) ⟨rfl, bl⟩
      · have e147 : a.tmps[147]? = some (.bool false) := hdep 23 (by kernel_rfl)
        have e150 : a.tmps[150]? = some (undef) := hdep 26 (by kernel_rfl)
        refine wpOp_plain rfl rfl ?_
        exact wp_val (by simp [e147, e150, go_sem]) ⟨rfl, bl⟩
      · have e151 : a.tmps[151]? = some (.bool false) := hdep 27 (by kernel_rfl)
        refine wpOp_plain rfl rfl ?_
        exact wp_val (by simp [e151, go_sem]) ⟨rfl, bl⟩
      · have eg : a.tmps[152]? = some (.bool false) := hdep 28 (by kernel_rfl)
        exact wpOp_no rfl rfl (yields_of rfl eg) (by decide) ⟨rfl, bl⟩
      · have eg : a.tmps[152]? = some (.bool false) := hdep 28 (by kernel_rfl)
        exact wpOp_no rfl rfl (yields_of rfl eg) (by decide) ⟨rfl, bl⟩
      · have eg : a.tmps[152]? = some (.bool false) := hdep 28 (by kernel_rfl)
        exact wpOp_no rfl rfl (yields_of rfl eg) (by decide) ⟨rfl, bl⟩
      · have e152 : a.tmps[152]? = some (.bool false) := hdep 28 (by kernel_rfl)
        have e155 : a.tmps[155]? = some (undef) := hdep 31 (by kernel_rfl)
        refine wpOp_plain rfl rfl ?_
        exact wp_val (by simp [e152, e155, go_sem]) ⟨rfl, bl⟩
      · have e156 : a.tmps[156]? = some (.bool false) := hdep 32 (by kernel_rfl)
        refine wpOp_plain rfl rfl ?_
        exact wp_val (by simp [e156, go_sem]) ⟨rfl, bl⟩
      · have eg : a.tmps[157]? = some (.bool false) := hdep 33 (by kernel_rfl)
        exact wpOp_no rfl rfl (yields_of rfl eg) (by decide) ⟨rfl, bl⟩
      · have eg : a.tmps[157]? = some (.bool false) := hdep 33 (by kernel_rfl)
        exact wpOp_no rfl rfl (yields_of rfl eg) (by decide) ⟨rfl, bl⟩
      · have eg : a.tmps[157]? = some (.bool false) := hdep 33 (by kernel_rfl)
        exact wpOp_no rfl rfl (yields_of rfl eg) (by decide) ⟨rfl, bl⟩
      · have eg : a.tmps[157]? = some (.bool false) := hdep 33 (by kernel_rfl)
        exact wpOp_no rfl rfl (yields_of rfl eg) (by decide) ⟨rfl, bl⟩
      · have eg : a.tmps[157]? = some (.bool false) := hdep 33 (by kernel_rfl)
        exact wpOp_no rfl rfl (yields_of rfl eg) (by decide) ⟨rfl, bl⟩
      · have e157 : a.tmps[157]? = some (.bool false) := hdep 33 (by kernel_rfl)
        have e162 : a.tmps[162]? = some (undef) := hdep 38 (by kernel_rfl)
        refine wpOp_plain rfl rfl ?_
        exact wp_val (by simp [e157, e162, go_sem]) ⟨rfl, bl⟩
      · have e163 : a.tmps[163]? = some (.bool false) := hdep 39 (by kernel_rfl)
        refine wpOp_plain rfl rfl ?_
        exact wp_val (by simp [e163, go_sem]) ⟨rfl, bl⟩
      · have eg : a.tmps[164]? = some (.bool false) := hdep 40 (by kernel_rfl)
        exact wpOp_no rfl rfl (yields_of rfl eg) (by decide) ⟨rfl, bl⟩
      · have eg : a.tmps[164]? = some (.bool false) := hdep 40 (by kernel_rfl)
        exact wpOp_no rfl rfl (yields_of rfl eg) (by decide) ⟨rfl, bl⟩
      · have e164 : a.tmps[164]? = some (.bool false) := hdep 40 (by kernel_rfl)
        have e166 : a.tmps[166]? = some (undef) := hdep 42 (by kernel_rfl)
        refine wpOp_plain rfl rfl ?_
        exact wp_val (by simp [e164, e166, go_sem]) ⟨rfl, bl⟩
    · intro a w4 hbw hsm hdep
      have e167 : a.tmps[167]? = some (.bool false) := hdep 43 (by decide)
      refine wpOp_plain rfl rfl ?_
      unfold Oper.wp execOp
      simp [e167, go_sem]
      go_wp2
      refine bodyPost_ret (v := .bool false) ?_ hsm.defers ⟨_, rfl, congrArg Value.bool HNO.out.symm, nx HB2.out hbw⟩
      have hsz : a.tmps.size = 168 := hsm.size.trans rfl
      simp [results, Try.results34, hsz]
  | true =>
    by_cases tn : n = 0
    rotate_left
    · have nb : ((n : Int) == 0) = false := by simp; omega
      have HNO : Hid (R = false) := by show _ = _; rw [HV.out]; rw [decide_eq_false tn]; simp
      clear HV
      clear tn
      refine wp_region_vals (n := 44) (by kernel_rfl) (by kernel_rfl) (by kernel_rfl) rfl (by kernel_rfl) (fun i => i + 124) (fun i hi => by show i + 124 < 168; omega) (fun i j _ _ e => by have e2 : i + 124 = j + 124 := e; omega) (fun i => ([.pointer (some ⟨w.heap.size, 2, none⟩), .int .i64 f.kind, .bool true, .pointer (some ⟨w.heap.size, 1, none⟩), .int .i64 f.type, .bool true, .bool true, .bool true, .pointer (some ⟨w.heap.size, 2, none⟩), .int .i64 f.kind, .bool true, .bool true, undef, undef, undef, .bool true, .bool true, .bool true, .pointer (some ⟨w.heap.size, 6, none⟩), .slice sS n ssc, .int .i64 (n : Int), .bool false, .bool false, .bool false, undef, undef, undef, .bool false, .bool false, undef, undef, undef, .bool false, .bool false, undef, undef, undef, undef, undef, .bool false, .bool false, undef, undef, .bool false] : List Value).getD i undef) ?_ ?_
      · intro i hi a w4 hbw hsm hdep
        have hc := HK2.out w4 hbw
        have hcases : i = 0 ∨ i = 1 ∨ i = 2 ∨ i = 3 ∨ i = 4 ∨ i = 5 ∨ i = 6 ∨ i = 7 ∨ i = 8 ∨ i = 9 ∨ i = 10 ∨ i = 11 ∨ i = 12 ∨ i = 13 ∨ i = 14 ∨ i = 15 ∨ i = 16 ∨ i = 17 ∨ i = 18 ∨ i = 19 ∨ i = 20 ∨ i = 21 ∨ i = 22 ∨ i = 23 ∨ i = 24 ∨ i = 25 ∨ i = 26 ∨ i = 27 ∨ i = 28 ∨ i = 29 ∨ i = 30 ∨ i = 31 ∨ i = 32 ∨ i = 33 ∨ i = 34 ∨ i = 35 ∨ i = 36 ∨ i = 37 ∨ i = 38 ∨ i = 39 ∨ i = 40 ∨ i = 41 ∨ i = 42 ∨ i = 43 := by omega
        rcases hcases with rfl | rfl | rfl | rfl | rfl | rfl | rfl | rfl | rfl | rfl | rfl | rfl | rfl | rfl | rfl | rfl | rfl | rfl | rfl | rfl | rfl | rfl | rfl | rfl | rfl | rfl | rfl | rfl | rfl | rfl | rfl | rfl | rfl | rfl | rfl | rfl | rfl | rfl | rfl | rfl | rfl | rfl | rfl | rfl
        · have e1 : a.tmps[1]? = some (.pointer (some ⟨w.heap.size, 0, none⟩)) := (hsm.other 1 (fun j hj e => by have e2 : j + 124 = 1 := e; omega)).trans rfl
          refine wpOp_plain rfl rfl ?_
          exact wp_val (by simp [e1, go_sem]) ⟨rfl, bl⟩
        · have e124 : a.tmps[124]? = some (.pointer (some ⟨w.heap.size, 2, none⟩)) := hdep 0 (by kernel_rfl)
          refine wpOp_plain rfl rfl ?_
          exact wp_val (by simp [e124, go_sem, hc.1.2.2.1]) ⟨rfl, bl⟩
        · have e125 : a.tmps[125]? = some (.int .i64 f.kind) := hdep 1 (by kernel_rfl)
          refine wpOp_plain rfl rfl ?_
          exact wp_val (by simp [e125, go_sem, k2]) ⟨rfl, bl⟩
        · have e1 : a.tmps[1]? = some (.pointer (some ⟨w.heap.size, 0, none⟩)) := (hsm.other 1 (fun j hj e => by have e2 : j + 124 = 1 := e; omega)).trans rfl
          refine wpOp_plain rfl rfl ?_
          exact wp_val (by simp [e1, go_sem]) ⟨rfl, bl⟩
        · have e127 : a.tmps[127]? = some (.pointer (some ⟨w.heap.size, 1, none⟩)) := hdep 3 (by kernel_rfl)
          refine wpOp_plain rfl rfl ?_
          exact wp_val (by simp [e127, go_sem, hc.1.2.1]) ⟨rfl, bl⟩
        · have e128 : a.tmps[128]? = some (.int .i64 f.type) := hdep 4 (by kernel_rfl)
          refine wpOp_plain rfl rfl ?_
          generalize hK : (fun (a2 : Act) (w2 : World) => _) = K
          have v128 := eval_tmp e128
          go_simp
          refine (HTY.out w4).mono ?_
          rintro e w5 ⟨rfl, rfl⟩
          rw [← hK]
          exact ⟨rfl, bl⟩
        · have e126 : a.tmps[126]? = some (.bool true) := hdep 2 (by kernel_rfl)
          have e129 : a.tmps[129]? = some (.bool true) := hdep 5 (by kernel_rfl)
          refine wpOp_plain rfl rfl ?_
          exact wp_val (by simp [e126, e129, go_sem]) ⟨rfl, bl⟩
        · have e130 : a.tmps[130]? = some (.bool true) := hdep 6 (by kernel_rfl)
          refine wpOp_plain rfl rfl ?_
          exact wp_val (by simp [e130, go_sem]) ⟨rfl, bl⟩
        · have eg : a.tmps[131]? = some (.bool true) := hdep 7 (by kernel_rfl)
          have e1 : a.tmps[1]? = some (.pointer (some ⟨w.heap.size, 0, none⟩)) := (hsm.other 1 (fun j hj e => by have e2 : j + 124 = 1 := e; omega)).trans rfl
          refine wpOp_yes rfl rfl (yields_of rfl eg) ?_
          exact wp_val (by simp [e1, go_sem]) ⟨rfl, bl⟩
        · have eg : a.tmps[131]? = some (.bool true) := hdep 7 (by kernel_rfl)
          have e132 : a.tmps[132]? = some (.pointer (some ⟨w.heap.size, 2, none⟩)) := hdep 8 (by kernel_rfl)
          refine wpOp_yes rfl rfl (yields_of rfl eg) ?_
          exact wp_val (by simp [e132, go_sem, hc.1.2.2.1]) ⟨rfl, bl⟩
        · have eg : a.tmps[131]? = some (.bool true) := hdep 7 (by kernel_rfl)
          have e133 : a.tmps[133]? = some (.int .i64 f.kind) := hdep 9 (by kernel_rfl)
          refine wpOp_yes rfl rfl (yields_of rfl eg) ?_
          exact wp_val (by simp [e133, go_sem, k2]) ⟨rfl, bl⟩
        · have eg : a.tmps[131]? = some (.bool true) := hdep 7 (by kernel_rfl)
          have e134 : a.tmps[134]? = some (.bool true) := hdep 10 (by kernel_rfl)
          refine wpOp_yes rfl rfl (yields_of rfl eg) ?_
          exact wp_val (by simp [e134, go_sem]) ⟨rfl, bl⟩
        · have eg : a.tmps[135]? = some (.bool true) := hdep 11 (by kernel_rfl)
          exact wpOp_no rfl rfl (yields_of rfl eg) (by decide) ⟨rfl, bl⟩
        · have eg : a.tmps[135]? = some (.bool true) := hdep 11 (by kernel_rfl)
          exact wpOp_no rfl rfl (yields_of rfl eg) (by decide) ⟨rfl, bl⟩
        · have eg : a.tmps[135]? = some (.bool true) := hdep 11 (by kernel_rfl)
          exact wpOp_no rfl rfl (yields_of rfl eg) (by decide) ⟨rfl, bl⟩
        · have eg : a.tmps[131]? = some (.bool true) := hdep 7 (by kernel_rfl)
          have e135 : a.tmps[135]? = some (.bool true) := hdep 11 (by kernel_rfl)
          have e138 : a.tmps[138]? = some (undef) := hdep 14 (by kernel_rfl)
          refine wpOp_yes rfl rfl (yields_of rfl eg) ?_
          exact wp_val (by simp [e135, e138, go_sem]) ⟨rfl, bl⟩
        · have e131 : a.tmps[131]? = some (.bool true) := hdep 7 (by kernel_rfl)
          have e139 : a.tmps[139]? = some (.bool true) := hdep 15 (by kernel_rfl)
          refine wpOp_plain rfl rfl ?_
          exact wp_val (by simp [e131, e139, go_sem]) ⟨rfl, bl⟩
        · have e140 : a.tmps[140]? = some (.bool true) := hdep 16 (by kernel_rfl)
          refine wpOp_plain rfl rfl ?_
          exact wp_val (by simp [e140, go_sem]) ⟨rfl, bl⟩
        · have eg : a.tmps[141]? = some (.bool true) := hdep 17 (by kernel_rfl)
          have e1 : a.tmps[1]? = some (.pointer (some ⟨w.heap.size, 0, none⟩)) := (hsm.other 1 (fun j hj e => by have e2 : j + 124 = 1 := e; omega)).trans rfl
          refine wpOp_yes rfl rfl (yields_of rfl eg) ?_
          exact wp_val (by simp [e1, go_sem]) ⟨rfl, bl⟩
        · have eg : a.tmps[141]? = some (.bool true) := hdep 17 (by kernel_rfl)
          have e142 : a.tmps[142]? = some (.pointer (some ⟨w.heap.size, 6, none⟩)) := hdep 18 (by kernel_rfl)
          refine wpOp_yes rfl rfl (yields_of rfl eg) ?_
          exact wp_val (by simp [e142, go_sem, hc.1.2.2.2.2.2.2.1]) ⟨rfl, bl⟩
        · have eg : a.tmps[141]? = some (.bool true) := hdep 17 (by kernel_rfl)
          have e143 : a.tmps[143]? = some (.slice sS n ssc) := hdep 19 (by kernel_rfl)
          refine wpOp_yes rfl rfl (yields_of rfl eg) ?_
          exact wp_val (by simp [e143, go_sem]) ⟨rfl, bl⟩
        · have eg : a.tmps[141]? = some (.bool true) := hdep 17 (by kernel_rfl)
          have e144 : a.tmps[144]? = some (.int .i64 (n : Int)) := hdep 20 (by kernel_rfl)
          refine wpOp_yes rfl rfl (yields_of rfl eg) ?_
          exact wp_val (by simp [e144, go_sem, nb]) ⟨rfl, bl⟩
        · have e141 : a.tmps[141]? = some (.bool true) := hdep 17 (by kernel_rfl)
          have e145 : a.tmps[145]? = some (.bool false) := hdep 21 (by kernel_rfl)
          refine wpOp_plain rfl rfl ?_
          exact wp_val (by simp [e141, e145, go_sem]) ⟨rfl, bl⟩
        · have e146 : a.tmps[146]? = some (.bool false) := hdep 22 (by kernel_rfl)
          refine wpOp_plain rfl rfl ?_
          exact wp_val (by simp [e146, go_sem]) ⟨rfl, bl⟩
        · have eg : a.tmps[147]? = some (.bool false) := hdep 23 (by kernel_rfl)
          exact wpOp_no rfl rfl (yields_of rfl eg) (by decide) ⟨rfl, bl⟩
        · have eg : a.tmps[147]? = some (.bool false) := hdep 23 (by kernel_rfl)
          exact wpOp_no rfl rfl (yields_of rfl eg) (by decide) ⟨rfl, bl⟩
        · have eg : a.tmps[147]? = some (.bool false) := hdep 23 (by kernel_rfl)
          exact wpOp_no rfl rfl (yields_of rfl eg) (by decide) ⟨rfl, bl⟩
        · have e147 : a.tmps[147]? = some (.bool false) := hdep 23 (by kernel_rfl)
          have e150 : a.tmps[150]? = some (undef) := hdep 26 (by kernel_rfl)
          refine wpOp_plain rfl rfl ?_
          exact wp_val (by simp [e147, e150, go_sem]) ⟨rfl, bl⟩
        · have e151 : a.tmps[151]? = some (.bool false) := hdep 27 (by kernel_rfl)
          refine wpOp_plain rfl rfl ?_
          exact wp_val (by simp [e151, go_sem]) ⟨rfl, bl⟩
        · have eg : a.tmps[152]? = some (.bool false) := hdep 28 (by kernel_rfl)
          exact wpOp_no rfl rfl (yields_of rfl eg) (by decide) ⟨rfl, bl⟩
        · have eg : a.tmps[152]? = some (.bool false) := hdep 28 (by kernel_rfl)
          exact wpOp_no rfl rfl (yields_of rfl eg) (by decide) ⟨rfl, bl⟩
        · have eg : a.tmps[152]? = some (.bool false) := hdep 28 (by kernel_rfl)
          exact wpOp_no rfl rfl (yields_of rfl eg) (by decide) ⟨rfl, bl⟩
        · have e152 : a.tmps[152]? = some (.bool false) := hdep 28 (by kernel_rfl)
          have e155 : a.tmps[155]? = some (undef) := hdep 31 (by kernel_rfl)
          refine wpOp_plain rfl rfl ?_
          exact wp_val (by simp [e152, e155, go_sem]) ⟨rfl, bl⟩
        · have e156 : a.tmps[156]? = some (.bool false) := hdep 32 (by kernel_rfl)
          refine wpOp_plain rfl rfl ?_
          exact wp_val (by simp [e156, go_sem]) ⟨rfl, bl⟩
        · have eg : a.tmps[157]? = some (.bool false) := hdep 33 (by kernel_rfl)
          exact wpOp_no rfl rfl (yields_of rfl eg) (by decide) ⟨rfl, bl⟩
        · have eg : a.tmps[157]? = some (.bool false) := hdep 33 (by kernel_rfl)
          exact wpOp_no rfl rfl (yields_of rfl eg) (by decide) ⟨rfl, bl⟩
        · have eg : a.tmps[157]? = some (.bool false) := hdep 33 (by kernel_rfl)
          exact wpOp_no rfl rfl (yields_of rfl eg) (by decide) ⟨rfl, bl⟩
        · have eg : a.tmps[157]? = some (.bool false) := hdep 33 (by kernel_rfl)
          exact wpOp_no rfl rfl (yields_of rfl eg) (by decide) ⟨rfl, bl⟩
        · have eg : a.tmps[157]? = some (.bool false) := hdep 33 (by kernel_rfl)
          exact wpOp_no rfl rfl (yields_of rfl eg) (by decide) ⟨rfl, bl⟩
        · have e157 : a.tmps[157]? = some (.bool false) := hdep 33 (by kernel_rfl)
          have e162 : a.tmps[162]? = some (undef) := hdep 38 (by kernel_rfl)
          refine wpOp_plain rfl rfl ?_
          exact wp_val (by simp [e157, e162, go_sem]) ⟨rfl, bl⟩
        · have e163 : a.tmps[163]? = some (.bool false) := hdep 39 (by kernel_rfl)
          refine wpOp_plain rfl rfl ?_
          exact wp_val (by simp [e163, go_sem]) ⟨rfl, bl⟩
        · have eg : a.tmps[164]? = some (.bool false) := hdep 40 (by kernel_rfl)
          exact wpOp_no rfl rfl (yields_of rfl eg) (by decide) ⟨rfl, bl⟩
        · have eg : a.tmps[164]? = some (.bool false) := hdep 40 (by kernel_rfl)
          exact wpOp_no rfl rfl (yields_of rfl eg) (by decide) ⟨rfl, bl⟩
        · have e164 : a.tmps[164]? = some (.bool false) := hdep 40 (by kernel_rfl)
          have e166 : a.tmps[166]? = some (undef) := hdep 42 (by kernel_rfl)
          refine wpOp_plain rfl rfl ?_
          exact wp_val (by simp [e164, e166, go_sem]) ⟨rfl, bl⟩
      · intro a w4 hbw hsm hdep
        have e167 : a.tmps[167]? = some (.bool false) := hdep 43 (by decide)
        refine wpOp_plain rfl rfl ?_
        unfold Oper.wp execOp
        simp [e167, go_sem]
        go_wp2
        refine bodyPost_ret (v := .bool false) ?_ hsm.defers ⟨_, rfl, congrArg Value.bool HNO.out.symm, nx HB2.out hbw⟩
        have hsz : a.tmps.size = 168 := hsm.size.trans rfl
        simp [results, Try.results34, hsz]
    have nb : ((n : Int) == 0) = true := by simp; omega
    by_cases tl : f.ttl ≤ 10800
    rotate_left
    · have lb : decide (f.ttl ≤ 10800) = false := decide_eq_false tl
      have HNO : Hid (R = false) := by show _ = _; rw [HV.out]; rw [lb]; simp
      clear HV
      clear tl tn
      refine wp_region_vals (n := 44) (by kernel_rfl) (by kernel_rfl) (by kernel_rfl) rfl (by kernel_rfl) (fun i => i + 124) (fun i hi => by show i + 124 < 168; omega) (fun i j _ _ e => by have e2 : i + 124 = j + 124 := e; omega) (fun i => ([.pointer (some ⟨w.heap.size, 2, none⟩), .int .i64 f.kind, .bool true, .pointer (some ⟨w.heap.size, 1, none⟩), .int .i64 f.type, .bool true, .bool true, .bool true, .pointer (some ⟨w.heap.size, 2, none⟩), .int .i64 f.kind, .bool true, .bool true, undef, undef, undef, .bool true, .bool true, .bool true, .pointer (some ⟨w.heap.size, 6, none⟩), .slice sS n ssc, .int .i64 (n : Int), .bool true, .bool true, .bool true, .pointer (some ⟨w.heap.size, 5, none⟩), .int .i64 f.ttl, .bool false, .bool false, .bool false, undef, undef, undef, .bool false, .bool false, undef, undef, undef, undef, undef, .bool false, .bool false, undef, undef, .bool false] : List Value).getD i undef) ?_ ?_
      · intro i hi a w4 hbw hsm hdep
        have hc := HK2.out w4 hbw
        have hcases : i = 0 ∨ i = 1 ∨ i = 2 ∨ i = 3 ∨ i = 4 ∨ i = 5 ∨ i = 6 ∨ i = 7 ∨ i = 8 ∨ i = 9 ∨ i = 10 ∨ i = 11 ∨ i = 12 ∨ i = 13 ∨ i = 14 ∨ i = 15 ∨ i = 16 ∨ i = 17 ∨ i = 18 ∨ i = 19 ∨ i = 20 ∨ i = 21 ∨ i = 22 ∨ i = 23 ∨ i = 24 ∨ i = 25 ∨ i = 26 ∨ i = 27 ∨ i = 28 ∨ i = 29 ∨ i = 30 ∨ i = 31 ∨ i = 32 ∨ i = 33 ∨ i = 34 ∨ i = 35 ∨ i = 36 ∨ i = 37 ∨ i = 38 ∨ i = 39 ∨ i = 40 ∨ i = 41 ∨ i = 42 ∨ i = 43 := by omega
        rcases hcases with rfl | rfl | rfl | rfl | rfl | rfl | rfl | rfl | rfl | rfl | rfl | rfl | rfl | rfl | rfl | rfl | rfl | rfl | rfl | rfl | rfl | rfl | rfl | rfl | rfl | rfl | rfl | rfl | rfl | rfl | rfl | rfl | rfl | rfl | rfl | rfl | rfl | rfl | rfl | rfl | rfl | rfl | rfl | rfl
        · have e1 : a.tmps[1]? = some (.pointer (some ⟨w.heap.size, 0, none⟩)) := (hsm.other 1 (fun j hj e => by have e2 : j + 124 = 1 := e; omega)).trans rfl
          refine wpOp_plain rfl rfl ?_
          exact wp_val (by simp [e1, go_sem]) ⟨rfl, bl⟩
        · have e124 : a.tmps[124]? = some (.pointer (some ⟨w.heap.size, 2, none⟩)) := hdep 0 (by kernel_rfl)
          refine wpOp_plain rfl rfl ?_
          exact wp_val (by simp [e124, go_sem, hc.1.2.2.1]) ⟨rfl, bl⟩
        · have e125 : a.tmps[125]? = some (.int .i64 f.kind) := hdep 1 (by kernel_rfl)
          refine wpOp_plain rfl rfl ?_
          exact wp_val (by simp [e125, go_sem, k2]) ⟨rfl, bl⟩
        · have e1 : a.tmps[1]? = some (.pointer (some ⟨w.heap.size, 0, none⟩)) := (hsm.other 1 (fun j hj e => by have e2 : j + 124 = 1 := e; omega)).trans rfl
          refine wpOp_plain rfl rfl ?_
          exact wp_val (by simp [e1, go_sem]) ⟨rfl, bl⟩
        · have e127 : a.tmps[127]? = some (.pointer (some ⟨w.heap.size, 1, none⟩)) := hdep 3 (by kernel_rfl)
          refine wpOp_plain rfl rfl ?_
          exact wp_val (by simp [e127, go_sem, hc.1.2.1]) ⟨rfl, bl⟩
        · have e128 : a.tmps[128]? = some (.int .i64 f.type) := hdep 4 (by kernel_rfl)
          refine wpOp_plain rfl rfl ?_
          generalize hK : (fun (a2 : Act) (w2 : World) => _) = K
          have v128 := eval_tmp e128
          go_simp
          refine (HTY.out w4).mono ?_
          rintro e w5 ⟨rfl, rfl⟩
          rw [← hK]
          exact ⟨rfl, bl⟩
        · have e126 : a.tmps[126]? = some (.bool true) := hdep 2 (by kernel_rfl)
          have e129 : a.tmps[129]? = some (.bool true) := hdep 5 (by kernel_rfl)
          refine wpOp_plain rfl rfl ?_
          exact wp_val (by simp [e126, e129, go_sem]) ⟨rfl, bl⟩
        · have e130 : a.tmps[130]? = some (.bool true) := hdep 6 (by kernel_rfl)
          refine wpOp_plain rfl rfl ?_
          exact wp_val (by simp [e130, go_sem]) ⟨rfl, bl⟩
        · have eg : a.tmps[131]? = some (.bool true) := hdep 7 (by kernel_rfl)
          have e1 : a.tmps[1]? = some (.pointer (some ⟨w.heap.size, 0, none⟩)) := (hsm.other 1 (fun j hj e => by have e2 : j + 124 = 1 := e; omega)).trans rfl
          refine wpOp_yes rfl rfl (yields_of rfl eg) ?_
          exact wp_val (by simp [e1, go_sem]) ⟨rfl, bl⟩
        · have eg : a.tmps[131]? = some (.bool true) := hdep 7 (by kernel_rfl)
          have e132 : a.tmps[132]? = some (.pointer (some ⟨w.heap.size, 2, none⟩)) := hdep 8 (by kernel_rfl)
          refine wpOp_yes rfl rfl (yields_of rfl eg) ?_
          exact wp_val (by simp [e132, go_sem, hc.1.2.2.1]) ⟨rfl, bl⟩
        · have eg : a.tmps[131]? = some (.bool true) := hdep 7 (by kernel_rfl)
          have e133 : a.tmps[133]? = some (.int .i64 f.kind) := hdep 9 (by kernel_rfl)
          refine wpOp_yes rfl rfl (yields_of rfl eg) ?_
          exact wp_val (by simp [e133, go_sem, k2]) ⟨rfl, bl⟩
        · have eg : a.tmps[131]? = some (.bool true) := hdep 7 (by kernel_rfl)
          have e134 : a.tmps[134]? = some (.bool true) := hdep 10 (by kernel_rfl)
          refine wpOp_yes rfl rfl (yields_of rfl eg) ?_
          exact wp_val (by simp [e134, go_sem]) ⟨rfl, bl⟩
        · have eg : a.tmps[135]? = some (.bool true) := hdep 11 (by kernel_rfl)
          exact wpOp_no rfl rfl (yields_of rfl eg) (by decide) ⟨rfl, bl⟩
        · have eg : a.tmps[135]? = some (.bool true) := hdep 11 (by kernel_rfl)
          exact wpOp_no rfl rfl (yields_of rfl eg) (by decide) ⟨rfl, bl⟩
        · have eg : a.tmps[135]? = some (.bool true) := hdep 11 (by kernel_rfl)
          exact wpOp_no rfl rfl (yields_of rfl eg) (by decide) ⟨rfl, bl⟩
        · have eg : a.tmps[131]? = some (.bool true) := hdep 7 (by kernel_rfl)
          have e135 : a.tmps[135]? = some (.bool true) := hdep 11 (by kernel_rfl)
          have e138 : a.tmps[138]? = some (undef) := hdep 14 (by kernel_rfl)
          refine wpOp_yes rfl rfl (yields_of rfl eg) ?_
          exact wp_val (by simp [e135, e138, go_sem]) ⟨rfl, bl⟩
        · have e131 : a.tmps[131]? = some (.bool true) := hdep 7 (by kernel_rfl)
          have e139 : a.tmps[139]? = some (.bool true) := hdep 15 (by kernel_rfl)
          refine wpOp_plain rfl rfl ?_
          exact wp_val (by simp [e131, e139, go_sem]) ⟨rfl, bl⟩
        · have e140 : a.tmps[140]? = some (.bool true) := hdep 16 (by kernel_rfl)
          refine wpOp_plain rfl rfl ?_
          exact wp_val (by simp [e140, go_sem]) ⟨rfl, bl⟩
        · have eg : a.tmps[141]? = some (.bool true) := hdep 17 (by kernel_rfl)
          have e1 : a.tmps[1]? = some (.pointer (some ⟨w.heap.size, 0, none⟩)) := (hsm.other 1 (fun j hj e => by have e2 : j + 124 = 1 := e; omega)).trans rfl
          refine wpOp_yes rfl rfl (yields_of rfl eg) ?_
          exact wp_val (by simp [e1, go_sem]) ⟨rfl, bl⟩
        · have eg : a.tmps[141]? = some (.bool true) := hdep 17 (by kernel_rfl)
          have e142 : a.tmps[142]? = some (.pointer (some ⟨w.heap.size, 6, none⟩)) := hdep 18 (by kernel_rfl)
          refine wpOp_yes rfl rfl (yields_of rfl eg) ?_
          exact wp_val (by simp [e142, go_sem, hc.1.2.2.2.2.2.2.1]) ⟨rfl, bl⟩
        · have eg : a.tmps[141]? = some (.bool true) := hdep 17 (by kernel_rfl)
          have e143 : a.tmps[143]? = some (.slice sS n ssc) := hdep 19 (by kernel_rfl)
          refine wpOp_yes rfl rfl (yields_of rfl eg) ?_
          exact wp_val (by simp [e143, go_sem]) ⟨rfl, bl⟩
        · have eg : a.tmps[141]? = some (.bool true) := hdep 17 (by kernel_rfl)
          have e144 : a.tmps[144]? = some (.int .i64 (n : Int)) := hdep 20 (by kernel_rfl)
          refine wpOp_yes rfl rfl (yields_of rfl eg) ?_
          exact wp_val (by simp [e144, go_sem, nb]) ⟨rfl, bl⟩
        · have e141 : a.tmps[141]? = some (.bool true) := hdep 17 (by kernel_rfl)
          have e145 : a.tmps[145]? = some (.bool true) := hdep 21 (by kernel_rfl)
          refine wpOp_plain rfl rfl ?_
          exact wp_val (by simp [e141, e145, go_sem]) ⟨rfl, bl⟩
        · have e146 : a.tmps[146]? = some (.bool true) := hdep 22 (by kernel_rfl)
          refine wpOp_plain rfl rfl ?_
          exact wp_val (by simp [e146, go_sem]) ⟨rfl, bl⟩
        · have eg : a.tmps[147]? = some (.bool true) := hdep 23 (by kernel_rfl)
          have e1 : a.tmps[1]? = some (.pointer (some ⟨w.heap.size, 0, none⟩)) := (hsm.other 1 (fun j hj e => by have e2 : j + 124 = 1 := e; omega)).trans rfl
          refine wpOp_yes rfl rfl (yields_of rfl eg) ?_
          exact wp_val (by simp [e1, go_sem]) ⟨rfl, bl⟩
        · have eg : a.tmps[147]? = some (.bool true) := hdep 23 (by kernel_rfl)
          have e148 : a.tmps[148]? = some (.pointer (some ⟨w.heap.size, 5, none⟩)) := hdep 24 (by kernel_rfl)
          refine wpOp_yes rfl rfl (yields_of rfl eg) ?_
          exact wp_val (by simp [e148, go_sem, hc.1.2.2.2.2.2.1]) ⟨rfl, bl⟩
        · have eg : a.tmps[147]? = some (.bool true) := hdep 23 (by kernel_rfl)
          have e149 : a.tmps[149]? = some (.int .i64 f.ttl) := hdep 25 (by kernel_rfl)
          refine wpOp_yes rfl rfl (yields_of rfl eg) ?_
          exact wp_val (by simp [e149, go_sem, lb]) ⟨rfl, bl⟩
        · have e147 : a.tmps[147]? = some (.bool true) := hdep 23 (by kernel_rfl)
          have e150 : a.tmps[150]? = some (.bool false) := hdep 26 (by kernel_rfl)
          refine wpOp_plain rfl rfl ?_
          exact wp_val (by simp [e147, e150, go_sem]) ⟨rfl, bl⟩
        · have e151 : a.tmps[151]? = some (.bool false) := hdep 27 (by kernel_rfl)
          refine wpOp_plain rfl rfl ?_
          exact wp_val (by simp [e151, go_sem]) ⟨rfl, bl⟩
        · have eg : a.tmps[152]? = some (.bool false) := hdep 28 (by kernel_rfl)
          exact wpOp_no rfl rfl (yields_of rfl eg) (by decide) ⟨rfl, bl⟩
        · have eg : a.tmps[152]? = some (.bool false) := hdep 28 (by kernel_rfl)
          exact wpOp_no rfl rfl (yields_of rfl eg) (by decide) ⟨rfl, bl⟩
        · have eg : a.tmps[152]? = some (.bool false) := hdep 28 (by kernel_rfl)
          exact wpOp_no rfl rfl (yields_of rfl eg) (by decide) ⟨rfl, bl⟩
        · have e152 : a.tmps[152]? = some (.bool false) := hdep 28 (by kernel_rfl)
          have e155 : a.tmps[155]? = some (undef) := hdep 31 (by kernel_rfl)
          refine wpOp_plain rfl rfl ?_
          exact wp_val (by simp [e152, e155, go_sem]) ⟨rfl, bl⟩
        · have e156 : a.tmps[156]? = some (.bool false) := hdep 32 (by kernel_rfl)
          refine wpOp_plain rfl rfl ?_
          exact wp_val (by simp [e156, go_sem]) ⟨rfl, bl⟩
        · have eg : a.tmps[157]? = some (.bool false) := hdep 33 (by kernel_rfl)
          exact wpOp_no rfl rfl (yields_of rfl eg) (by decide) ⟨rfl, bl⟩
        · have eg : a.tmps[157]? = some (.bool false) := hdep 33 (by kernel_rfl)
          exact wpOp_no rfl rfl (yields_of rfl eg) (by decide) ⟨rfl, bl⟩
        · have eg : a.tmps[157]? = some (.bool false) := hdep 33 (by kernel_rfl)
          exact wpOp_no rfl rfl (yields_of rfl eg) (by decide) ⟨rfl, bl⟩
        · have eg : a.tmps[157]? = some (.bool false) := hdep 33 (by kernel_rfl)
          exact wpOp_no rfl rfl (yields_of rfl eg) (by decide) ⟨rfl, bl⟩
        · have eg : a.tmps[157]? = some (.bool false) := hdep 33 (by kernel_rfl)
          exact wpOp_no rfl rfl (yields_of rfl eg) (by decide) ⟨rfl, bl⟩
        · have e157 : a.tmps[157]? = some (.bool false) := hdep 33 (by kernel_rfl)
          have e162 : a.tmps[162]? = some (undef) := hdep 38 (by kernel_rfl)
          refine wpOp_plain rfl rfl ?_
          exact wp_val (by simp [e157, e162, go_sem]) ⟨rfl, bl⟩
        · have e163 : a.tmps[163]? = some (.bool false) := hdep 39 (by kernel_rfl)
          refine wpOp_plain rfl rfl ?_
          exact wp_val (by simp [e163, go_sem]) ⟨rfl, bl⟩
        · have eg : a.tmps[164]? = some (.bool false) := hdep 40 (by kernel_rfl)
          exact wpOp_no rfl rfl (yields_of rfl eg) (by decide) ⟨rfl, bl⟩
        · have eg : a.tmps[164]? = some (.bool false) := hdep 40 (by kernel_rfl)
          exact wpOp_no rfl rfl (yields_of rfl eg) (by decide) ⟨rfl, bl⟩
        · have e164 : a.tmps[164]? = some (.bool false) := hdep 40 (by kernel_rfl)
          have e166 : a.tmps[166]? = some (undef) := hdep 42 (by kernel_rfl)
          refine wpOp_plain rfl rfl ?_
          exact wp_val (by simp [e164, e166, go_sem]) ⟨rfl, bl⟩
      · intro a w4 hbw hsm hdep
        have e167 : a.tmps[167]? = some (.bool false) := hdep 43 (by decide)
        refine wpOp_plain rfl rfl ?_
        unfold Oper.wp execOp
        simp [e167, go_sem]
        go_wp2
        refine bodyPost_ret (v := .bool false) ?_ hsm.defers ⟨_, rfl, congrArg Value.bool HNO.out.symm, nx HB2.out hbw⟩
        have hsz : a.tmps.size = 168 := hsm.size.trans rfl
        simp [results, Try.results34, hsz]
    have lb : decide (f.ttl ≤ 10800) = true := decide_eq_true tl
    cases SZ with
    | false =>
      have HNO : Hid (R = false) := by show _ = _; rw [HV.out]; simp
      clear HV
      clear tl tn
      refine wp_region_vals (n := 44) (by kernel_rfl) (by kernel_rfl) (by kernel_rfl) rfl (by kernel_rfl) (fun i => i + 124) (fun i hi => by show i + 124 < 168; omega) (fun i j _ _ e => by have e2 : i + 124 = j + 124 := e; omega) (fun i => ([.pointer (some ⟨w.heap.size, 2, none⟩), .int .i64 f.kind, .bool true, .pointer (some ⟨w.heap.size, 1, none⟩), .int .i64 f.type, .bool true, .bool true, .bool true, .pointer (some ⟨w.heap.size, 2, none⟩), .int .i64 f.kind, .bool true, .bool true, undef, undef, undef, .bool true, .bool true, .bool true, .pointer (some ⟨w.heap.size, 6, none⟩), .slice sS n ssc, .int .i64 (n : Int), .bool true, .bool true, .bool true, .pointer (some ⟨w.heap.size, 5, none⟩), .int .i64 f.ttl, .bool true, .bool true, .bool true, .pointer (some ⟨w.heap.size, 7, none⟩), .slice sZ f.zone.length szc, .bool false, .bool false, .bool false, undef, undef, undef, undef, undef, .bool false, .bool false, undef, undef, .bool false] : List Value).getD i undef) ?_ ?_
      · intro i hi a w4 hbw hsm hdep
        have hc := HK2.out w4 hbw
        have hcases : i = 0 ∨ i = 1 ∨ i = 2 ∨ i = 3 ∨ i = 4 ∨ i = 5 ∨ i = 6 ∨ i = 7 ∨ i = 8 ∨ i = 9 ∨ i = 10 ∨ i = 11 ∨ i = 12 ∨ i = 13 ∨ i = 14 ∨ i = 15 ∨ i = 16 ∨ i = 17 ∨ i = 18 ∨ i = 19 ∨ i = 20 ∨ i = 21 ∨ i = 22 ∨ i = 23 ∨ i = 24 ∨ i = 25 ∨ i = 26 ∨ i = 27 ∨ i = 28 ∨ i = 29 ∨ i = 30 ∨ i = 31 ∨ i = 32 ∨ i = 33 ∨ i = 34 ∨ i = 35 ∨ i = 36 ∨ i = 37 ∨ i = 38 ∨ i = 39 ∨ i = 40 ∨ i = 41 ∨ i = 42 ∨ i = 43 := by omega
        rcases hcases with rfl | rfl | rfl | rfl | rfl | rfl | rfl | rfl | rfl | rfl | rfl | rfl | rfl | rfl | rfl | rfl | rfl | rfl | rfl | rfl | rfl | rfl | rfl | rfl | rfl | rfl | rfl | rfl | rfl | rfl | rfl | rfl | rfl | rfl | rfl | rfl | rfl | rfl | rfl | rfl | rfl | rfl | rfl | rfl
        · have e1 : a.tmps[1]? = some (.pointer (some ⟨w.heap.size, 0, none⟩)) := (hsm.other 1 (fun j hj e => by have e2 : j + 124 = 1 := e; omega)).trans rfl
          refine wpOp_plain rfl rfl ?_
          exact wp_val (by simp [e1, go_sem]) ⟨rfl, bl⟩
        · have e124 : a.tmps[124]? = some (.pointer (some ⟨w.heap.size, 2, none⟩)) := hdep 0 (by kernel_rfl)
          refine wpOp_plain rfl rfl ?_
          exact wp_val (by simp [e124, go_sem, hc.1.2.2.1]) ⟨rfl, bl⟩
        · have e125 : a.tmps[125]? = some (.int .i64 f.kind) := hdep 1 (by kernel_rfl)
          refine wpOp_plain rfl rfl ?_
          exact wp_val (by simp [e125, go_sem, k2]) ⟨rfl, bl⟩
        · have e1 : a.tmps[1]? = some (.pointer (some ⟨w.heap.size, 0, none⟩)) := (hsm.other 1 (fun j hj e => by have e2 : j + 124 = 1 := e; omega)).trans rfl
          refine wpOp_plain rfl rfl ?_
          exact wp_val (by simp [e1, go_sem]) ⟨rfl, bl⟩
        · have e127 : a.tmps[127]? = some (.pointer (some ⟨w.heap.size, 1, none⟩)) := hdep 3 (by kernel_rfl)
          refine wpOp_plain rfl rfl ?_
          exact wp_val (by simp [e127, go_sem, hc.1.2.1]) ⟨rfl, bl⟩
        · have e128 : a.tmps[128]? = some (.int .i64 f.type) := hdep 4 (by kernel_rfl)
          refine wpOp_plain rfl rfl ?_
          generalize hK : (fun (a2 : Act) (w2 : World) => _) = K
          have v128 := eval_tmp e128
          go_simp
          refine (HTY.out w4).mono ?_
          rintro e w5 ⟨rfl, rfl⟩
          rw [← hK]
          exact ⟨rfl, bl⟩
        · have e126 : a.tmps[126]? = some (.bool true) := hdep 2 (by kernel_rfl)
          have e129 : a.tmps[129]? = some (.bool true) := hdep 5 (by kernel_rfl)
          refine wpOp_plain rfl rfl ?_
          exact wp_val (by simp [e126, e129, go_sem]) ⟨rfl, bl⟩
        · have e130 : a.tmps[130]? = some (.bool true) := hdep 6 (by kernel_rfl)
          refine wpOp_plain rfl rfl ?_
          exact wp_val (by simp [e130, go_sem]) ⟨rfl, bl⟩
        · have eg : a.tmps[131]? = some (.bool true) := hdep 7 (by kernel_rfl)
          have e1 : a.tmps[1]? = some (.pointer (some ⟨w.heap.size, 0, none⟩)) := (hsm.other 1 (fun j hj e => by have e2 : j + 124 = 1 := e; omega)).trans rfl
          refine wpOp_yes rfl rfl (yields_of rfl eg) ?_
          exact wp_val (by simp [e1, go_sem]) ⟨rfl, bl⟩
        · have eg : a.tmps[131]? = some (.bool true) := hdep 7 (by kernel_rfl)
          have e132 : a.tmps[132]? = some (.pointer (some ⟨w.heap.size, 2, none⟩)) := hdep 8 (by kernel_rfl)
          refine wpOp_yes rfl rfl (yields_of rfl eg) ?_
          exact wp_val (by simp [e132, go_sem, hc.1.2.2.1]) ⟨rfl, bl⟩
        · have eg : a.tmps[131]? = some (.bool true) := hdep 7 (by kernel_rfl)
          have e133 : a.tmps[133]? = some (.int .i64 f.kind) := hdep 9 (by kernel_rfl)
          refine wpOp_yes rfl rfl (yields_of rfl eg) ?_
          exact wp_val (by simp [e133, go_sem, k2]) ⟨rfl, bl⟩
        · have eg : a.tmps[131]? = some (.bool true) := hdep 7 (by kernel_rfl)
          have e134 : a.tmps[134]? = some (.bool true) := hdep 10 (by kernel_rfl)
          refine wpOp_yes rfl rfl (yields_of rfl eg) ?_
          exact wp_val (by simp [e134, go_sem]) ⟨rfl, bl⟩
        · have eg : a.tmps[135]? = some (.bool true) := hdep 11 (by kernel_rfl)
          exact wpOp_no rfl rfl (yields_of rfl eg) (by decide) ⟨rfl, bl⟩
        · have eg : a.tmps[135]? = some (.bool true) := hdep 11 (by kernel_rfl)
          exact wpOp_no rfl rfl (yields_of rfl eg) (by decide) ⟨rfl, bl⟩
        · have eg : a.tmps[135]? = some (.bool true) := hdep 11 (by kernel_rfl)
          exact wpOp_no rfl rfl (yields_of rfl eg) (by decide) ⟨rfl, bl⟩
        · have eg : a.tmps[131]? = some (.bool true) := hdep 7 (by kernel_rfl)
          have e135 : a.tmps[135]? = some (.bool true) := hdep 11 (by kernel_rfl)
          have e138 : a.tmps[138]? = some (undef) := hdep 14 (by kernel_rfl)
          refine wpOp_yes rfl rfl (yields_of rfl eg) ?_
          exact wp_val (by simp [e135, e138, go_sem]) ⟨rfl, bl⟩
        · have e131 : a.tmps[131]? = some (.bool true) := hdep 7 (by kernel_rfl)
          have e139 : a.tmps[139]? = some (.bool true) := hdep 15 (by kernel_rfl)
          refine wpOp_plain rfl rfl ?_
          exact wp_val (by simp [e131, e139, go_sem]) ⟨rfl, bl⟩
        · have e140 : a.tmps[140]? = some (.bool true) := hdep 16 (by kernel_rfl)
          refine wpOp_plain rfl rfl ?_
          exact wp_val (by simp [e140, go_sem]) ⟨rfl, bl⟩
        · have eg : a.tmps[141]? = some (.bool true) := hdep 17 (by kernel_rfl)
          have e1 : a.tmps[1]? = some (.pointer (some ⟨w.heap.size, 0, none⟩)) := (hsm.other 1 (fun j hj e => by have e2 : j + 124 = 1 := e; omega)).trans rfl
          refine wpOp_yes rfl rfl (yields_of rfl eg) ?_
          exact wp_val (by simp [e1, go_sem]) ⟨rfl, bl⟩
        · have eg : a.tmps[141]? = some (.bool true) := hdep 17 (by kernel_rfl)
          have e142 : a.tmps[142]? = some (.pointer (some ⟨w.heap.size, 6, none⟩)) := hdep 18 (by kernel_rfl)
          refine wpOp_yes rfl rfl (yields_of rfl eg) ?_
          exact wp_val (by simp [e142, go_sem, hc.1.2.2.2.2.2.2.1]) ⟨rfl, bl⟩
        · have eg : a.tmps[141]? = some (.bool true) := hdep 17 (by kernel_rfl)
          have e143 : a.tmps[143]? = some (.slice sS n ssc) := hdep 19 (by kernel_rfl)
          refine wpOp_yes rfl rfl (yields_of rfl eg) ?_
          exact wp_val (by simp [e143, go_sem]) ⟨rfl, bl⟩
        · have eg : a.tmps[141]? = some (.bool true) := hdep 17 (by kernel_rfl)
          have e144 : a.tmps[144]? = some (.int .i64 (n : Int)) := hdep 20 (by kernel_rfl)
          refine wpOp_yes rfl rfl (yields_of rfl eg) ?_
          exact wp_val (by simp [e144, go_sem, nb]) ⟨rfl, bl⟩
        · have e141 : a.tmps[141]? = some (.bool true) := hdep 17 (by kernel_rfl)
          have e145 : a.tmps[145]? = some (.bool true) := hdep 21 (by kernel_rfl)
          refine wpOp_plain rfl rfl ?_
          exact wp_val (by simp [e141, e145, go_sem]) ⟨rfl, bl⟩
        · have e146 : a.tmps[146]? = some (.bool true) := hdep 22 (by kernel_rfl)
          refine wpOp_plain rfl rfl ?_
          exact wp_val (by simp [e146, go_sem]) ⟨rfl, bl⟩
        · have eg : a.tmps[147]? = some (.bool true) := hdep 23 (by kernel_rfl)
          have e1 : a.tmps[1]? = some (.pointer (some ⟨w.heap.size, 0, none⟩)) := (hsm.other 1 (fun j hj e => by have e2 : j + 124 = 1 := e; omega)).trans rfl
          refine wpOp_yes rfl rfl (yields_of rfl eg) ?_
          exact wp_val (by simp [e1, go_sem]) ⟨rfl, bl⟩
        · have eg : a.tmps[147]? = some (.bool true) := hdep 23 (by kernel_rfl)
          have e148 : a.tmps[148]? = some (.pointer (some ⟨w.heap.size, 5, none⟩)) := hdep 24 (by kernel_rfl)
          refine wpOp_yes rfl rfl (yields_of rfl eg) ?_
          exact wp_val (by simp [e148, go_sem, hc.1.2.2.2.2.2.1]) ⟨rfl, bl⟩
        · have eg : a.tmps[147]? = some (.bool true) := hdep 23 (by kernel_rfl)
          have e149 : a.tmps[149]? = some (.int .i64 f.ttl) := hdep 25 (by kernel_rfl)
          refine wpOp_yes rfl rfl (yields_of rfl eg) ?_
          exact wp_val (by simp [e149, go_sem, lb]) ⟨rfl, bl⟩
        · have e147 : a.tmps[147]? = some (.bool true) := hdep 23 (by kernel_rfl)
          have e150 : a.tmps[150]? = some (.bool true) := hdep 26 (by kernel_rfl)
          refine wpOp_plain rfl rfl ?_
          exact wp_val (by simp [e147, e150, go_sem]) ⟨rfl, bl⟩
        · have e151 : a.tmps[151]? = some (.bool true) := hdep 27 (by kernel_rfl)
          refine wpOp_plain rfl rfl ?_
          exact wp_val (by simp [e151, go_sem]) ⟨rfl, bl⟩
        · have eg : a.tmps[152]? = some (.bool true) := hdep 28 (by kernel_rfl)
          have e1 : a.tmps[1]? = some (.pointer (some ⟨w.heap.size, 0, none⟩)) := (hsm.other 1 (fun j hj e => by have e2 : j + 124 = 1 := e; omega)).trans rfl
          refine wpOp_yes rfl rfl (yields_of rfl eg) ?_
          exact wp_val (by simp [e1, go_sem]) ⟨rfl, bl⟩
        · have eg : a.tmps[152]? = some (.bool true) := hdep 28 (by kernel_rfl)
          have e153 : a.tmps[153]? = some (.pointer (some ⟨w.heap.size, 7, none⟩)) := hdep 29 (by kernel_rfl)
          refine wpOp_yes rfl rfl (yields_of rfl eg) ?_
          exact wp_val (by simp [e153, go_sem, hc.1.2.2.2.2.2.2.2.1]) ⟨rfl, bl⟩
        · have eg : a.tmps[152]? = some (.bool true) := hdep 28 (by kernel_rfl)
          have e154 : a.tmps[154]? = some (.slice sZ f.zone.length szc) := hdep 30 (by kernel_rfl)
          refine wpOp_yes rfl rfl (yields_of rfl eg) ?_
          generalize hK : (fun (a2 : Act) (w2 : World) => _) = K
          have v154 := eval_tmp e154
          go_simp
          refine (HZS2.out w4 hbw).mono ?_
          rintro e w5 ⟨rfl, rfl⟩
          rw [← hK]
          exact ⟨rfl, bl⟩
        · have e152 : a.tmps[152]? = some (.bool true) := hdep 28 (by kernel_rfl)
          have e155 : a.tmps[155]? = some (.bool false) := hdep 31 (by kernel_rfl)
          refine wpOp_plain rfl rfl ?_
          exact wp_val (by simp [e152, e155, go_sem]) ⟨rfl, bl⟩
        · have e156 : a.tmps[156]? = some (.bool false) := hdep 32 (by kernel_rfl)
          refine wpOp_plain rfl rfl ?_
          exact wp_val (by simp [e156, go_sem]) ⟨rfl, bl⟩
        · have eg : a.tmps[157]? = some (.bool false) := hdep 33 (by kernel_rfl)
          exact wpOp_no rfl rfl (yields_of rfl eg) (by decide) ⟨rfl, bl⟩
        · have eg : a.tmps[157]? = some (.bool false) := hdep 33 (by kernel_rfl)
          exact wpOp_no rfl rfl (yields_of rfl eg) (by decide) ⟨rfl, bl⟩
        · have eg : a.tmps[157]? = some (.bool false) := hdep 33 (by kernel_rfl)
          exact wpOp_no rfl rfl (yields_of rfl eg) (by decide) ⟨rfl, bl⟩
        · have eg : a.tmps[157]? = some (.bool false) := hdep 33 (by kernel_rfl)
          exact wpOp_no rfl rfl (yields_of rfl eg) (by decide) ⟨rfl, bl⟩
        · have eg : a.tmps[157]? = some (.bool false) := hdep 33 (by kernel_rfl)
          exact wpOp_no rfl rfl (yields_of rfl eg) (by decide) ⟨rfl, bl⟩
        · have e157 : a.tmps[157]? = some (.bool false) := hdep 33 (by kernel_rfl)
          have e162 : a.tmps[162]? = some (undef) := hdep 38 (by kernel_rfl)
          refine wpOp_plain rfl rfl ?_
          exact wp_val (by simp [e157, e162, go_sem]) ⟨rfl, bl⟩
        · have e163 : a.tmps[163]? = some (.bool false) := hdep 39 (by kernel_rfl)
          refine wpOp_plain rfl rfl ?_
          exact wp_val (by simp [e163, go_sem]) ⟨rfl, bl⟩
        · have eg : a.tmps[164]? = some (.bool false) := hdep 40 (by kernel_rfl)
          exact wpOp_no rfl rfl (yields_of rfl eg) (by decide) ⟨rfl, bl⟩
        · have eg : a.tmps[164]? = some (.bool false) := hdep 40 (by kernel_rfl)
          exact wpOp_no rfl rfl (yields_of rfl eg) (by decide) ⟨rfl, bl⟩
        · have e164 : a.tmps[164]? = some (.bool false) := hdep 40 (by kernel_rfl)
          have e166 : a.tmps[166]? = some (undef) := hdep 42 (by kernel_rfl)
          refine wpOp_plain rfl rfl ?_
          exact wp_val (by simp [e164, e166, go_sem]) ⟨rfl, bl⟩
      · intro a w4 hbw hsm hdep
        have e167 : a.tmps[167]? = some (.bool false) := hdep 43 (by decide)
        refine wpOp_plain rfl rfl ?_
        unfold Oper.wp execOp
        simp [e167, go_sem]
        go_wp2
        refine bodyPost_ret (v := .bool false) ?_ hsm.defers ⟨_, rfl, congrArg Value.bool HNO.out.symm, nx HB2.out hbw⟩
        have hsz : a.tmps.size = 168 := hsm.size.trans rfl
        simp [results, Try.results34, hsz]
    | true =>
      cases UN with
      | false =>
        have HNO : Hid (R = false) := by show _ = _; rw [HV.out]; simp
        clear HV
        clear tl tn
        refine wp_region_vals (n := 44) (by kernel_rfl) (by kernel_rfl) (by kernel_rfl) rfl (by kernel_rfl) (fun i => i + 124) (fun i hi => by show i + 124 < 168; omega) (fun i j _ _ e => by have e2 : i + 124 = j + 124 := e; omega) (fun i => ([.pointer (some ⟨w.heap.size, 2, none⟩), .int .i64 f.kind, .bool true, .pointer (some ⟨w.heap.size, 1, none⟩), .int .i64 f.type, .bool true, .bool true, .bool true, .pointer (some ⟨w.heap.size, 2, none⟩), .int .i64 f.kind, .bool true, .bool true, undef, undef, undef, .bool true, .bool true, .bool true, .pointer (some ⟨w.heap.size, 6, none⟩), .slice sS n ssc, .int .i64 (n : Int), .bool true, .bool true, .bool true, .pointer (some ⟨w.heap.size, 5, none⟩), .int .i64 f.ttl, .bool true, .bool true, .bool true, .pointer (some ⟨w.heap.size, 7, none⟩), .slice sZ f.zone.length szc, .bool true, .bool true, .bool true, .pointer (some ⟨w.heap.size, 0, none⟩), .slice sA f.name.length sac, .pointer (some ⟨w.heap.size, 7, none⟩), .slice sZ f.zone.length szc, .bool false, .bool false, .bool false, undef, undef, .bool false] : List Value).getD i undef) ?_ ?_
        · intro i hi a w4 hbw hsm hdep
          have hc := HK2.out w4 hbw
          have hcases : i = 0 ∨ i = 1 ∨ i = 2 ∨ i = 3 ∨ i = 4 ∨ i = 5 ∨ i = 6 ∨ i = 7 ∨ i = 8 ∨ i = 9 ∨ i = 10 ∨ i = 11 ∨ i = 12 ∨ i = 13 ∨ i = 14 ∨ i = 15 ∨ i = 16 ∨ i = 17 ∨ i = 18 ∨ i = 19 ∨ i = 20 ∨ i = 21 ∨ i = 22 ∨ i = 23 ∨ i = 24 ∨ i = 25 ∨ i = 26 ∨ i = 27 ∨ i = 28 ∨ i = 29 ∨ i = 30 ∨ i = 31 ∨ i = 32 ∨ i = 33 ∨ i = 34 ∨ i = 35 ∨ i = 36 ∨ i = 37 ∨ i = 38 ∨ i = 39 ∨ i = 40 ∨ i = 41 ∨ i = 42 ∨ i = 43 := by omega
          rcases hcases with rfl | rfl | rfl | rfl | rfl | rfl | rfl | rfl | rfl | rfl | rfl | rfl | rfl | rfl | rfl | rfl | rfl | rfl | rfl | rfl | rfl | rfl | rfl | rfl | rfl | rfl | rfl | rfl | rfl | rfl | rfl | rfl | rfl | rfl | rfl | rfl | rfl | rfl | rfl | rfl | rfl | rfl | rfl | rfl
          · have e1 : a.tmps[1]? = some (.pointer (some ⟨w.heap.size, 0, none⟩)) := (hsm.other 1 (fun j hj e => by have e2 : j + 124 = 1 := e; omega)).trans rfl
            refine wpOp_plain rfl rfl ?_
            exact wp_val (by simp [e1, go_sem]) ⟨rfl, bl⟩
          · have e124 : a.tmps[124]? = some (.pointer (some ⟨w.heap.size, 2, none⟩)) := hdep 0 (by kernel_rfl)
            refine wpOp_plain rfl rfl ?_
            exact wp_val (by simp [e124, go_sem, hc.1.2.2.1]) ⟨rfl, bl⟩
          · have e125 : a.tmps[125]? = some (.int .i64 f.kind) := hdep 1 (by kernel_rfl)
            refine wpOp_plain rfl rfl ?_
            exact wp_val (by simp [e125, go_sem, k2]) ⟨rfl, bl⟩
          · have e1 : a.tmps[1]? = some (.pointer (some ⟨w.heap.size, 0, none⟩)) := (hsm.other 1 (fun j hj e => by have e2 : j + 124 = 1 := e; omega)).trans rfl
            refine wpOp_plain rfl rfl ?_
            exact wp_val (by simp [e1, go_sem]) ⟨rfl, bl⟩
          · have e127 : a.tmps[127]? = some (.pointer (some ⟨w.heap.size, 1, none⟩)) := hdep 3 (by kernel_rfl)
            refine wpOp_plain rfl rfl ?_
            exact wp_val (by simp [e127, go_sem, hc.1.2.1]) ⟨rfl, bl⟩
          · have e128 : a.tmps[128]? = some (.int .i64 f.type) := hdep 4 (by kernel_rfl)
            refine wpOp_plain rfl rfl ?_
            generalize hK : (fun (a2 : Act) (w2 : World) => _) = K
            have v128 := eval_tmp e128
            go_simp
            refine (HTY.out w4).mono ?_
            rintro e w5 ⟨rfl, rfl⟩
            rw [← hK]
            exact ⟨rfl, bl⟩
          · have e126 : a.tmps[126]? = some (.bool true) := hdep 2 (by kernel_rfl)
            have e129 : a.tmps[129]? = some (.bool true) := hdep 5 (by kernel_rfl)
            refine wpOp_plain rfl rfl ?_
            exact wp_val (by simp [e126, e129, go_sem]) ⟨rfl, bl⟩
          · have e130 : a.tmps[130]? = some (.bool true) := hdep 6 (by kernel_rfl)
            refine wpOp_plain rfl rfl ?_
            exact wp_val (by simp [e130, go_sem]) ⟨rfl, bl⟩
          · have eg : a.tmps[131]? = some (.bool true) := hdep 7 (by kernel_rfl)
            have e1 : a.tmps[1]? = some (.pointer (some ⟨w.heap.size, 0, none⟩)) := (hsm.other 1 (fun j hj e => by have e2 : j + 124 = 1 := e; omega)).trans rfl
            refine wpOp_yes rfl rfl (yields_of rfl eg) ?_
            exact wp_val (by simp [e1, go_sem]) ⟨rfl, bl⟩
          · have eg : a.tmps[131]? = some (.bool true) := hdep 7 (by kernel_rfl)
            have e132 : a.tmps[132]? = some (.pointer (some ⟨w.heap.size, 2, none⟩)) := hdep 8 (by kernel_rfl)
            refine wpOp_yes rfl rfl (yields_of rfl eg) ?_
            exact wp_val (by simp [e132, go_sem, hc.1.2.2.1]) ⟨rfl, bl⟩
          · have eg : a.tmps[131]? = some (.bool true) := hdep 7 (by kernel_rfl)
            have e133 : a.tmps[133]? = some (.int .i64 f.kind) := hdep 9 (by kernel_rfl)
            refine wpOp_yes rfl rfl (yields_of rfl eg) ?_
            exact wp_val (by simp [e133, go_sem, k2]) ⟨rfl, bl⟩
          · have eg : a.tmps[131]? = some (.bool true) := hdep 7 (by kernel_rfl)
            have e134 : a.tmps[134]? = some (.bool true) := hdep 10 (by kernel_rfl)
            refine wpOp_yes rfl rfl (yields_of rfl eg) ?_
            exact wp_val (by simp [e134, go_sem]) ⟨rfl, bl⟩
          · have eg : a.tmps[135]? = some (.bool true) := hdep 11 (by kernel_rfl)
            exact wpOp_no rfl rfl (yields_of rfl eg) (by decide) ⟨rfl, bl⟩
          · have eg : a.tmps[135]? = some (.bool true) := hdep 11 (by kernel_rfl)
            exact wpOp_no rfl rfl (yields_of rfl eg) (by decide) ⟨rfl, bl⟩
          · have eg : a.tmps[135]? = some (.bool true) := hdep 11 (by kernel_rfl)
            exact wpOp_no rfl rfl (yields_of rfl eg) (by decide) ⟨rfl, bl⟩
          · have eg : a.tmps[131]? = some (.bool true) := hdep 7 (by kernel_rfl)
            have e135 : a.tmps[135]? = some (.bool true) := hdep 11 (by kernel_rfl)
            have e138 : a.tmps[138]? = some (undef) := hdep 14 (by kernel_rfl)
            refine wpOp_yes rfl rfl (yields_of rfl eg) ?_
            exact wp_val (by simp [e135, e138, go_sem]) ⟨rfl, bl⟩
          · have e131 : a.tmps[131]? = some (.bool true) := hdep 7 (by kernel_rfl)
            have e139 : a.tmps[139]? = some (.bool true) := hdep 15 (by kernel_rfl)
            refine wpOp_plain rfl rfl ?_
            exact wp_val (by simp [e131, e139, go_sem]) ⟨rfl, bl⟩
          · have e140 : a.tmps[140]? = some (.bool true) := hdep 16 (by kernel_rfl)
            refine wpOp_plain rfl rfl ?_
            exact wp_val (by simp [e140, go_sem]) ⟨rfl, bl⟩
          · have eg : a.tmps[141]? = some (.bool true) := hdep 17 (by kernel_rfl)
            have e1 : a.tmps[1]? = some (.pointer (some ⟨w.heap.size, 0, none⟩)) := (hsm.other 1 (fun j hj e => by have e2 : j + 124 = 1 := e; omega)).trans rfl
            refine wpOp_yes rfl rfl (yields_of rfl eg) ?_
            exact wp_val (by simp [e1, go_sem]) ⟨rfl, bl⟩
          · have eg : a.tmps[141]? = some (.bool true) := hdep 17 (by kernel_rfl)
            have e142 : a.tmps[142]? = some (.pointer (some ⟨w.heap.size, 6, none⟩)) := hdep 18 (by kernel_rfl)
            refine wpOp_yes rfl rfl (yields_of rfl eg) ?_
            exact wp_val (by simp [e142, go_sem, hc.1.2.2.2.2.2.2.1]) ⟨rfl, bl⟩
          · have eg : a.tmps[141]? = some (.bool true) := hdep 17 (by kernel_rfl)
            have e143 : a.tmps[143]? = some (.slice sS n ssc) := hdep 19 (by kernel_rfl)
            refine wpOp_yes rfl rfl (yields_of rfl eg) ?_
            exact wp_val (by simp [e143, go_sem]) ⟨rfl, bl⟩
          · have eg : a.tmps[141]? = some (.bool true) := hdep 17 (by kernel_rfl)
            have e144 : a.tmps[144]? = some (.int .i64 (n : Int)) := hdep 20 (by kernel_rfl)
            refine wpOp_yes rfl rfl (yields_of rfl eg) ?_
            exact wp_val (by simp [e144, go_sem, nb]) ⟨rfl, bl⟩
          · have e141 : a.tmps[141]? = some (.bool true) := hdep 17 (by kernel_rfl)
            have e145 : a.tmps[145]? = some (.bool true) := hdep 21 (by kernel_rfl)
            refine wpOp_plain rfl rfl ?_
            exact wp_val (by simp [e141, e145, go_sem]) ⟨rfl, bl⟩
          · have e146 : a.tmps[146]? = some (.bool true) := hdep 22 (by kernel_rfl)
            refine wpOp_plain rfl rfl ?_
            exact wp_val (by simp [e146, go_sem]) ⟨rfl, bl⟩
          · have eg : a.tmps[147]? = some (.bool true) := hdep 23 (by kernel_rfl)
            have e1 : a.tmps[1]? = some (.pointer (some ⟨w.heap.size, 0, none⟩)) := (hsm.other 1 (fun j hj e => by have e2 : j + 124 = 1 := e; omega)).trans rfl
            refine wpOp_yes rfl rfl (yields_of rfl eg) ?_
            exact wp_val (by simp [e1, go_sem]) ⟨rfl, bl⟩
          · have eg : a.tmps[147]? = some (.bool true) := hdep 23 (by kernel_rfl)
            have e148 : a.tmps[148]? = some (.pointer (some ⟨w.heap.size, 5, none⟩)) := hdep 24 (by kernel_rfl)
            refine wpOp_yes rfl rfl (yields_of rfl eg) ?_
            exact wp_val (by simp [e148, go_sem, hc.1.2.2.2.2.2.1]) ⟨rfl, bl⟩
          · have eg : a.tmps[147]? = some (.bool true) := hdep 23 (by kernel_rfl)
            have e149 : a.tmps[149]? = some (.int .i64 f.ttl) := hdep 25 (by kernel_rfl)
            refine wpOp_yes rfl rfl (yields_of rfl eg) ?_
            exact wp_val (by simp [e149, go_sem, lb]) ⟨rfl, bl⟩
          · have e147 : a.tmps[147]? = some (.bool true) := hdep 23 (by kernel_rfl)
            have e150 : a.tmps[150]? = some (.bool true) := hdep 26 (by kernel_rfl)
            refine wpOp_plain rfl rfl ?_
            exact wp_val (by simp [e147, e150, go_sem]) ⟨rfl, bl⟩
          · have e151 : a.tmps[151]? = some (.bool true) := hdep 27 (by kernel_rfl)
            refine wpOp_plain rfl rfl ?_
            exact wp_val (by simp [e151, go_sem]) ⟨rfl, bl⟩
          · have eg : a.tmps[152]? = some (.bool true) := hdep 28 (by kernel_rfl)
            have e1 : a.tmps[1]? = some (.pointer (some ⟨w.heap.size, 0, none⟩)) := (hsm.other 1 (fun j hj e => by have e2 : j + 124 = 1 := e; omega)).trans rfl
            refine wpOp_yes rfl rfl (yields_of rfl eg) ?_
            exact wp_val (by simp [e1, go_sem]) ⟨rfl, bl⟩
          · have eg : a.tmps[152]? = some (.bool true) := hdep 28 (by kernel_rfl)
            have e153 : a.tmps[153]? = some (.pointer (some ⟨w.heap.size, 7, none⟩)) := hdep 29 (by kernel_rfl)
            refine wpOp_yes rfl rfl (yields_of rfl eg) ?_
            exact wp_val (by simp [e153, go_sem, hc.1.2.2.2.2.2.2.2.1]) ⟨rfl, bl⟩
          · have eg : a.tmps[152]? = some (.bool true) := hdep 28 (by kernel_rfl)
            have e154 : a.tmps[154]? = some (.slice sZ f.zone.length szc) := hdep 30 (by kernel_rfl)
            refine wpOp_yes rfl rfl (yields_of rfl eg) ?_
            generalize hK : (fun (a2 : Act) (w2 : World) => _) = K
            have v154 := eval_tmp e154
            go_simp
            refine (HZS2.out w4 hbw).mono ?_
            rintro e w5 ⟨rfl, rfl⟩
            rw [← hK]
            exact ⟨rfl, bl⟩
          · have e152 : a.tmps[152]? = some (.bool true) := hdep 28 (by kernel_rfl)
            have e155 : a.tmps[155]? = some (.bool true) := hdep 31 (by kernel_rfl)
            refine wpOp_plain rfl rfl ?_
            exact wp_val (by simp [e152, e155, go_sem]) ⟨rfl, bl⟩
          · have e156 : a.tmps[156]? = some (.bool true) := hdep 32 (by kernel_rfl)
            refine wpOp_plain rfl rfl ?_
            exact wp_val (by simp [e156, go_sem]) ⟨rfl, bl⟩
          · have eg : a.tmps[157]? = some (.bool true) := hdep 33 (by kernel_rfl)
            have e1 : a.tmps[1]? = some (.pointer (some ⟨w.heap.size, 0, none⟩)) := (hsm.other 1 (fun j hj e => by have e2 : j + 124 = 1 := e; omega)).trans rfl
            refine wpOp_yes rfl rfl (yields_of rfl eg) ?_
            exact wp_val (by simp [e1, go_sem]) ⟨rfl, bl⟩
          · have eg : a.tmps[157]? = some (.bool true) := hdep 33 (by kernel_rfl)
            have e158 : a.tmps[158]? = some (.pointer (some ⟨w.heap.size, 0, none⟩)) := hdep 34 (by kernel_rfl)
            refine wpOp_yes rfl rfl (yields_of rfl eg) ?_
            exact wp_val (by simp [e158, go_sem, hc.1.1]) ⟨rfl, bl⟩
          · have eg : a.tmps[157]? = some (.bool true) := hdep 33 (by kernel_rfl)
            have e1 : a.tmps[1]? = some (.pointer (some ⟨w.heap.size, 0, none⟩)) := (hsm.other 1 (fun j hj e => by have e2 : j + 124 = 1 := e; omega)).trans rfl
            refine wpOp_yes rfl rfl (yields_of rfl eg) ?_
            exact wp_val (by simp [e1, go_sem]) ⟨rfl, bl⟩
          · have eg : a.tmps[157]? = some (.bool true) := hdep 33 (by kernel_rfl)
            have e160 : a.tmps[160]? = some (.pointer (some ⟨w.heap.size, 7, none⟩)) := hdep 36 (by kernel_rfl)
            refine wpOp_yes rfl rfl (yields_of rfl eg) ?_
            exact wp_val (by simp [e160, go_sem, hc.1.2.2.2.2.2.2.2.1]) ⟨rfl, bl⟩
          · have eg : a.tmps[157]? = some (.bool true) := hdep 33 (by kernel_rfl)
            have e159 : a.tmps[159]? = some (.slice sA f.name.length sac) := hdep 35 (by kernel_rfl)
            have e161 : a.tmps[161]? = some (.slice sZ f.zone.length szc) := hdep 37 (by kernel_rfl)
            refine wpOp_yes rfl rfl (yields_of rfl eg) ?_
            generalize hK : (fun (a2 : Act) (w2 : World) => _) = K
            have v159 := eval_tmp e159
            have v161 := eval_tmp e161
            go_simp
            refine (HUN.out w4 hbw).mono ?_
            rintro e w5 ⟨v5, rfl, rfl, hb5⟩
            rw [← hK]
            exact ⟨rfl, hb5⟩
          · have e157 : a.tmps[157]? = some (.bool true) := hdep 33 (by kernel_rfl)
            have e162 : a.tmps[162]? = some (.bool false) := hdep 38 (by kernel_rfl)
            refine wpOp_plain rfl rfl ?_
            exact wp_val (by simp [e157, e162, go_sem]) ⟨rfl, bl⟩
          · have e163 : a.tmps[163]? = some (.bool false) := hdep 39 (by kernel_rfl)
            refine wpOp_plain rfl rfl ?_
            exact wp_val (by simp [e163, go_sem]) ⟨rfl, bl⟩
          · have eg : a.tmps[164]? = some (.bool false) := hdep 40 (by kernel_rfl)
            exact wpOp_no rfl rfl (yields_of rfl eg) (by decide) ⟨rfl, bl⟩
          · have eg : a.tmps[164]? = some (.bool false) := hdep 40 (by kernel_rfl)
            exact wpOp_no rfl rfl (yields_of rfl eg) (by decide) ⟨rfl, bl⟩
          · have e164 : a.tmps[164]? = some (.bool false) := hdep 40 (by kernel_rfl)
            have e166 : a.tmps[166]? = some (undef) := hdep 42 (by kernel_rfl)
            refine wpOp_plain rfl rfl ?_
            exact wp_val (by simp [e164, e166, go_sem]) ⟨rfl, bl⟩
        · intro a w4 hbw hsm hdep
          have e167 : a.tmps[167]? = some (.bool false) := hdep 43 (by decide)
          refine wpOp_plain rfl rfl ?_
          unfold Oper.wp execOp
          simp [e167, go_sem]
          go_wp2
          refine bodyPost_ret (v := .bool false) ?_ hsm.defers ⟨_, rfl, congrArg Value.bool HNO.out.symm, nx HB2.out hbw⟩
          have hsz : a.tmps.size = 168 := hsm.size.trans rfl
          simp [results, Try.results34, hsz]
      | true =>
        have HNO : Hid (R = FD) := by show _ = _; rw [HV.out, lb, decide_eq_true tn]; simp
        clear HV tl tn
        refine wp_region_vals (n := 44) (by kernel_rfl) (by kernel_rfl) (by kernel_rfl) rfl (by kernel_rfl) (fun i => i + 124) (fun i hi => by show i + 124 < 168; omega) (fun i j _ _ e => by have e2 : i + 124 = j + 124 := e; omega) (fun i => ([.pointer (some ⟨w.heap.size, 2, none⟩), .int .i64 f.kind, .bool true, .pointer (some ⟨w.heap.size, 1, none⟩), .int .i64 f.type, .bool true, .bool true, .bool true, .pointer (some ⟨w.heap.size, 2, none⟩), .int .i64 f.kind, .bool true, .bool true, undef, undef, undef, .bool true, .bool true, .bool true, .pointer (some ⟨w.heap.size, 6, none⟩), .slice sS n ssc, .int .i64 (n : Int), .bool true, .bool true, .bool true, .pointer (some ⟨w.heap.size, 5, none⟩), .int .i64 f.ttl, .bool true, .bool true, .bool true, .pointer (some ⟨w.heap.size, 7, none⟩), .slice sZ f.zone.length szc, .bool true, .bool true, .bool true, .pointer (some ⟨w.heap.size, 0, none⟩), .slice sA f.name.length sac, .pointer (some ⟨w.heap.size, 7, none⟩), .slice sZ f.zone.length szc, .bool true, .bool true, .bool true, .agg #[.slice sd.A0 f.soa.bytes.length sd.c0, .slice sd.A1 f.soa.host.length sd.c1, .slice sd.A2 f.soa.mail.length sd.c2, .slice sd.A3 f.soa.nums.length sd.c3, .slice sd.A4 f.soa.texts.length sd.c4], .bool FD, .bool FD] : List Value).getD i undef) ?_ ?_
        · intro i hi a w4 hbw hsm hdep
          have hc := HK2.out w4 hbw
          have hcases : i = 0 ∨ i = 1 ∨ i = 2 ∨ i = 3 ∨ i = 4 ∨ i = 5 ∨ i = 6 ∨ i = 7 ∨ i = 8 ∨ i = 9 ∨ i = 10 ∨ i = 11 ∨ i = 12 ∨ i = 13 ∨ i = 14 ∨ i = 15 ∨ i = 16 ∨ i = 17 ∨ i = 18 ∨ i = 19 ∨ i = 20 ∨ i = 21 ∨ i = 22 ∨ i = 23 ∨ i = 24 ∨ i = 25 ∨ i = 26 ∨ i = 27 ∨ i = 28 ∨ i = 29 ∨ i = 30 ∨ i = 31 ∨ i = 32 ∨ i = 33 ∨ i = 34 ∨ i = 35 ∨ i = 36 ∨ i = 37 ∨ i = 38 ∨ i = 39 ∨ i = 40 ∨ i = 41 ∨ i = 42 ∨ i = 43 := by omega
          rcases hcases with rfl | rfl | rfl | rfl | rfl | rfl | rfl | rfl | rfl | rfl | rfl | rfl | rfl | rfl | rfl | rfl | rfl | rfl | rfl | rfl | rfl | rfl | rfl | rfl | rfl | rfl | rfl | rfl | rfl | rfl | rfl | rfl | rfl | rfl | rfl | rfl | rfl | rfl | rfl | rfl | rfl | rfl | rfl | rfl
          · have e1 : a.tmps[1]? = some (.pointer (some ⟨w.heap.size, 0, none⟩)) := (hsm.other 1 (fun j hj e => by have e2 : j + 124 = 1 := e; omega)).trans rfl
            refine wpOp_plain rfl rfl ?_
            exact wp_val (by simp [e1, go_sem]) ⟨rfl, bl⟩
          · have e124 : a.tmps[124]? = some (.pointer (some ⟨w.heap.size, 2, none⟩)) := hdep 0 (by kernel_rfl)
            refine wpOp_plain rfl rfl ?_
            exact wp_val (by simp [e124, go_sem, hc.1.2.2.1]) ⟨rfl, bl⟩
          · have e125 : a.tmps[125]? = some (.int .i64 f.kind) := hdep 1 (by kernel_rfl)
            refine wpOp_plain rfl rfl ?_
            exact wp_val (by simp [e125, go_sem, k2]) ⟨rfl, bl⟩
          · have e1 : a.tmps[1]? = some (.pointer (some ⟨w.heap.size, 0, none⟩)) := (hsm.other 1 (fun j hj e => by have e2 : j + 124 = 1 := e; omega)).trans rfl
            refine wpOp_plain rfl rfl ?_
            exact wp_val (by simp [e1, go_sem]) ⟨rfl, bl⟩
          · have e127 : a.tmps[127]? = some (.pointer (some ⟨w.heap.size, 1, none⟩)) := hdep 3 (by kernel_rfl)
            refine wpOp_plain rfl rfl ?_
            exact wp_val (by simp [e127, go_sem, hc.1.2.1]) ⟨rfl, bl⟩
          · have e128 : a.tmps[128]? = some (.int .i64 f.type) := hdep 4 (by kernel_rfl)
            refine wpOp_plain rfl rfl ?_
            generalize hK : (fun (a2 : Act) (w2 : World) => _) = K
            have v128 := eval_tmp e128
            go_simp
            refine (HTY.out w4).mono ?_
            rintro e w5 ⟨rfl, rfl⟩
            rw [← hK]
            exact ⟨rfl, bl⟩
          · have e126 : a.tmps[126]? = some (.bool true) := hdep 2 (by kernel_rfl)
            have e129 : a.tmps[129]? = some (.bool true) := hdep 5 (by kernel_rfl)
            refine wpOp_plain rfl rfl ?_
            exact wp_val (by simp [e126, e129, go_sem]) ⟨rfl, bl⟩
          · have e130 : a.tmps[130]? = some (.bool true) := hdep 6 (by kernel_rfl)
            refine wpOp_plain rfl rfl ?_
            exact wp_val (by simp [e130, go_sem]) ⟨rfl, bl⟩
          · have eg : a.tmps[131]? = some (.bool true) := hdep 7 (by kernel_rfl)
            have e1 : a.tmps[1]? = some (.pointer (some ⟨w.heap.size, 0, none⟩)) := (hsm.other 1 (fun j hj e => by have e2 : j + 124 = 1 := e; omega)).trans rfl
            refine wpOp_yes rfl rfl (yields_of rfl eg) ?_
            exact wp_val (by simp [e1, go_sem]) ⟨rfl, bl⟩
          · have eg : a.tmps[131]? = some (.bool true) := hdep 7 (by kernel_rfl)
            have e132 : a.tmps[132]? = some (.pointer (some ⟨w.heap.size, 2, none⟩)) := hdep 8 (by kernel_rfl)
            refine wpOp_yes rfl rfl (yields_of rfl eg) ?_
            exact wp_val (by simp [e132, go_sem, hc.1.2.2.1]) ⟨rfl, bl⟩
          · have eg : a.tmps[131]? = some (.bool true) := hdep 7 (by kernel_rfl)
            have e133 : a.tmps[133]? = some (.int .i64 f.kind) := hdep 9 (by kernel_rfl)
            refine wpOp_yes rfl rfl (yields_of rfl eg) ?_
            exact wp_val (by simp [e133, go_sem, k2]) ⟨rfl, bl⟩
          · have eg : a.tmps[131]? = some (.bool true) := hdep 7 (by kernel_rfl)
            have e134 : a.tmps[134]? = some (.bool true) := hdep 10 (by kernel_rfl)
            refine wpOp_yes rfl rfl (yields_of rfl eg) ?_
            exact wp_val (by simp [e134, go_sem]) ⟨rfl, bl⟩
          · have eg : a.tmps[135]? = some (.bool true) := hdep 11 (by kernel_rfl)
            exact wpOp_no rfl rfl (yields_of rfl eg) (by decide) ⟨rfl, bl⟩
          · have eg : a.tmps[135]? = some (.bool true) := hdep 11 (by kernel_rfl)
            exact wpOp_no rfl rfl (yields_of rfl eg) (by decide) ⟨rfl, bl⟩
          · have eg : a.tmps[135]? = some (.bool true) := hdep 11 (by kernel_rfl)
            exact wpOp_no rfl rfl (yields_of rfl eg) (by decide) ⟨rfl, bl⟩
          · have eg : a.tmps[131]? = some (.bool true) := hdep 7 (by kernel_rfl)
            have e135 : a.tmps[135]? = some (.bool true) := hdep 11 (by kernel_rfl)
            have e138 : a.tmps[138]? = some (undef) := hdep 14 (by kernel_rfl)
            refine wpOp_yes rfl rfl (yields_of rfl eg) ?_
            exact wp_val (by simp [e135, e138, go_sem]) ⟨rfl, bl⟩
          · have e131 : a.tmps[131]? = some (.bool true) := hdep 7 (by kernel_rfl)
            have e139 : a.tmps[139]? = some (.bool true) := hdep 15 (by kernel_rfl)
            refine wpOp_plain rfl rfl ?_
            exact wp_val (by simp [e131, e139, go_sem]) ⟨rfl, bl⟩
          · have e140 : a.tmps[140]? = some (.bool true) := hdep 16 (by kernel_rfl)
            refine wpOp_plain rfl rfl ?_
            exact wp_val (by simp [e140, go_sem]) ⟨rfl, bl⟩
          · have eg : a.tmps[141]? = some (.bool true) := hdep 17 (by kernel_rfl)
            have e1 : a.tmps[1]? = some (.pointer (some ⟨w.heap.size, 0, none⟩)) := (hsm.other 1 (fun j hj e => by have e2 : j + 124 = 1 := e; omega)).trans rfl
            refine wpOp_yes rfl rfl (yields_of rfl eg) ?_
            exact wp_val (by simp [e1, go_sem]) ⟨rfl, bl⟩
          · have eg : a.tmps[141]? = some (.bool true) := hdep 17 (by kernel_rfl)
            have e142 : a.tmps[142]? = some (.pointer (some ⟨w.heap.size, 6, none⟩)) := hdep 18 (by kernel_rfl)
            refine wpOp_yes rfl rfl (yields_of rfl eg) ?_
            exact wp_val (by simp [e142, go_sem, hc.1.2.2.2.2.2.2.1]) ⟨rfl, bl⟩
          · have eg : a.tmps[141]? = some (.bool true) := hdep 17 (by kernel_rfl)
            have e143 : a.tmps[143]? = some (.slice sS n ssc) := hdep 19 (by kernel_rfl)
            refine wpOp_yes rfl rfl (yields_of rfl eg) ?_
            exact wp_val (by simp [e143, go_sem]) ⟨rfl, bl⟩
          · have eg : a.tmps[141]? = some (.bool true) := hdep 17 (by kernel_rfl)
            have e144 : a.tmps[144]? = some (.int .i64 (n : Int)) := hdep 20 (by kernel_rfl)
            refine wpOp_yes rfl rfl (yields_of rfl eg) ?_
            exact wp_val (by simp [e144, go_sem, nb]) ⟨rfl, bl⟩
          · have e141 : a.tmps[141]? = some (.bool true) := hdep 17 (by kernel_rfl)
            have e145 : a.tmps[145]? = some (.bool true) := hdep 21 (by kernel_rfl)
            refine wpOp_plain rfl rfl ?_
            exact wp_val (by simp [e141, e145, go_sem]) ⟨rfl, bl⟩
          · have e146 : a.tmps[146]? = some (.bool true) := hdep 22 (by kernel_rfl)
            refine wpOp_plain rfl rfl ?_
            exact wp_val (by simp [e146, go_sem]) ⟨rfl, bl⟩
          · have eg : a.tmps[147]? = some (.bool true) := hdep 23 (by kernel_rfl)
            have e1 : a.tmps[1]? = some (.pointer (some ⟨w.heap.size, 0, none⟩)) := (hsm.other 1 (fun j hj e => by have e2 : j + 124 = 1 := e; omega)).trans rfl
            refine wpOp_yes rfl rfl (yields_of rfl eg) ?_
            exact wp_val (by simp [e1, go_sem]) ⟨rfl, bl⟩
          · have eg : a.tmps[147]? = some (.bool true) := hdep 23 (by kernel_rfl)
            have e148 : a.tmps[148]? = some (.pointer (some ⟨w.heap.size, 5, none⟩)) := hdep 24 (by kernel_rfl)
            refine wpOp_yes rfl rfl (yields_of rfl eg) ?_
            exact wp_val (by simp [e148, go_sem, hc.1.2.2.2.2.2.1]) ⟨rfl, bl⟩
          · have eg : a.tmps[147]? = some (.bool true) := hdep 23 (by kernel_rfl)
            have e149 : a.tmps[149]? = some (.int .i64 f.ttl) := hdep 25 (by kernel_rfl)
            refine wpOp_yes rfl rfl (yields_of rfl eg) ?_
            exact wp_val (by simp [e149, go_sem, lb]) ⟨rfl, bl⟩
          · have e147 : a.tmps[147]? = some (.bool true) := hdep 23 (by kernel_rfl)
            have e150 : a.tmps[150]? = some (.bool true) := hdep 26 (by kernel_rfl)
            refine wpOp_plain rfl rfl ?_
            exact wp_val (by simp [e147, e150, go_sem]) ⟨rfl, bl⟩
          · have e151 : a.tmps[151]? = some (.bool true) := hdep 27 (by kernel_rfl)
            refine wpOp_plain rfl rfl ?_
            exact wp_val (by simp [e151, go_sem]) ⟨rfl, bl⟩
          · have eg : a.tmps[152]? = some (.bool true) := hdep 28 (by kernel_rfl)
            have e1 : a.tmps[1]? = some (.pointer (some ⟨w.heap.size, 0, none⟩)) := (hsm.other 1 (fun j hj e => by have e2 : j + 124 = 1 := e; omega)).trans rfl
            refine wpOp_yes rfl rfl (yields_of rfl eg) ?_
            exact wp_val (by simp [e1, go_sem]) ⟨rfl, bl⟩
          · have eg : a.tmps[152]? = some (.bool true) := hdep 28 (by kernel_rfl)
            have e153 : a.tmps[153]? = some (.pointer (some ⟨w.heap.size, 7, none⟩)) := hdep 29 (by kernel_rfl)
            refine wpOp_yes rfl rfl (yields_of rfl eg) ?_
            exact wp_val (by simp [e153, go_sem, hc.1.2.2.2.2.2.2.2.1]) ⟨rfl, bl⟩
          · have eg : a.tmps[152]? = some (.bool true) := hdep 28 (by kernel_rfl)
            have e154 : a.tmps[154]? = some (.slice sZ f.zone.length szc) := hdep 30 (by kernel_rfl)
            refine wpOp_yes rfl rfl (yields_of rfl eg) ?_
            generalize hK : (fun (a2 : Act) (w2 : World) => _) = K
            have v154 := eval_tmp e154
            go_simp
            refine (HZS2.out w4 hbw).mono ?_
            rintro e w5 ⟨rfl, rfl⟩
            rw [← hK]
            exact ⟨rfl, bl⟩
          · have e152 : a.tmps[152]? = some (.bool true) := hdep 28 (by kernel_rfl)
            have e155 : a.tmps[155]? = some (.bool true) := hdep 31 (by kernel_rfl)
            refine wpOp_plain rfl rfl ?_
            exact wp_val (by simp [e152, e155, go_sem]) ⟨rfl, bl⟩
          · have e156 : a.tmps[156]? = some (.bool true) := hdep 32 (by kernel_rfl)
            refine wpOp_plain rfl rfl ?_
            exact wp_val (by simp [e156, go_sem]) ⟨rfl, bl⟩
          · have eg : a.tmps[157]? = some (.bool true) := hdep 33 (by kernel_rfl)
            have e1 : a.tmps[1]? = some (.pointer (some ⟨w.heap.size, 0, none⟩)) := (hsm.other 1 (fun j hj e => by have e2 : j + 124 = 1 := e; omega)).trans rfl
            refine wpOp_yes rfl rfl (yields_of rfl eg) ?_
            exact wp_val (by simp [e1, go_sem]) ⟨rfl, bl⟩
          · have eg : a.tmps[157]? = some (.bool true) := hdep 33 (by kernel_rfl)
            have e158 : a.tmps[158]? = some (.pointer (some ⟨w.heap.size, 0, none⟩)) := hdep 34 (by kernel_rfl)
            refine wpOp_yes rfl rfl (yields_of rfl eg) ?_
            exact wp_val (by simp [e158, go_sem, hc.1.1]) ⟨rfl, bl⟩
          · have eg : a.tmps[157]? = some (.bool true) := hdep 33 (by kernel_rfl)
            have e1 : a.tmps[1]? = some (.pointer (some ⟨w.heap.size, 0, none⟩)) := (hsm.other 1 (fun j hj e => by have e2 : j + 124 = 1 := e; omega)).trans rfl
            refine wpOp_yes rfl rfl (yields_of rfl eg) ?_
            exact wp_val (by simp [e1, go_sem]) ⟨rfl, bl⟩
          · have eg : a.tmps[157]? = some (.bool true) := hdep 33 (by kernel_rfl)
            have e160 : a.tmps[160]? = some (.pointer (some ⟨w.heap.size, 7, none⟩)) := hdep 36 (by kernel_rfl)
            refine wpOp_yes rfl rfl (yields_of rfl eg) ?_
            exact wp_val (by simp [e160, go_sem, hc.1.2.2.2.2.2.2.2.1]) ⟨rfl, bl⟩
          · have eg : a.tmps[157]? = some (.bool true) := hdep 33 (by kernel_rfl)
            have e159 : a.tmps[159]? = some (.slice sA f.name.length sac) := hdep 35 (by kernel_rfl)
            have e161 : a.tmps[161]? = some (.slice sZ f.zone.length szc) := hdep 37 (by kernel_rfl)
            refine wpOp_yes rfl rfl (yields_of rfl eg) ?_
            generalize hK : (fun (a2 : Act) (w2 : World) => _) = K
            have v159 := eval_tmp e159
            have v161 := eval_tmp e161
            go_simp
            refine (HUN.out w4 hbw).mono ?_
            rintro e w5 ⟨v5, rfl, rfl, hb5⟩
            rw [← hK]
            exact ⟨rfl, hb5⟩
          · have e157 : a.tmps[157]? = some (.bool true) := hdep 33 (by kernel_rfl)
            have e162 : a.tmps[162]? = some (.bool true) := hdep 38 (by kernel_rfl)
            refine wpOp_plain rfl rfl ?_
            exact wp_val (by simp [e157, e162, go_sem]) ⟨rfl, bl⟩
          · have e163 : a.tmps[163]? = some (.bool true) := hdep 39 (by kernel_rfl)
            refine wpOp_plain rfl rfl ?_
            exact wp_val (by simp [e163, go_sem]) ⟨rfl, bl⟩
          · have eg : a.tmps[164]? = some (.bool true) := hdep 40 (by kernel_rfl)
            have e3 : a.tmps[3]? = some (.pointer (some ⟨w1.heap.size, 0, none⟩)) := (hsm.other 3 (fun j hj e => by have e2 : j + 124 = 3 := e; omega)).trans rfl
            refine wpOp_yes rfl rfl (yields_of rfl eg) ?_
            generalize hK : (fun (a2 : Act) (w2 : World) => _) = K
            have hz := hc.2
            obtain ⟨z0, z1, z2, z3, z4⟩ := hz
            have v3 := eval_tmp e3
            go_simp
            rw [← hK]
            exact ⟨rfl, bl⟩
          · have eg : a.tmps[164]? = some (.bool true) := hdep 40 (by kernel_rfl)
            have e165 : a.tmps[165]? = some (.agg #[.slice sd.A0 f.soa.bytes.length sd.c0, .slice sd.A1 f.soa.host.length sd.c1, .slice sd.A2 f.soa.mail.length sd.c2, .slice sd.A3 f.soa.nums.length sd.c3, .slice sd.A4 f.soa.texts.length sd.c4]) := hdep 41 (by kernel_rfl)
            refine wpOp_yes rfl rfl (yields_of rfl eg) ?_
            generalize hK : (fun (a2 : Act) (w2 : World) => _) = K
            have v165 := eval_tmp e165
            go_simp
            refine (HFD.out w4 hbw).mono ?_
            rintro e w5 ⟨v5, rfl, rfl, hb5⟩
            rw [← hK]
            exact ⟨rfl, hb5⟩
          · have e164 : a.tmps[164]? = some (.bool true) := hdep 40 (by kernel_rfl)
            have e166 : a.tmps[166]? = some (.bool FD) := hdep 42 (by kernel_rfl)
            refine wpOp_plain rfl rfl ?_
            exact wp_val (by simp [e164, e166, go_sem]) ⟨rfl, bl⟩
        · intro a w4 hbw hsm hdep
          have e167 : a.tmps[167]? = some (.bool FD) := hdep 43 (by decide)
          refine wpOp_plain rfl rfl ?_
          unfold Oper.wp execOp
          simp [e167, go_sem]
          go_wp2
          refine bodyPost_ret (v := .bool FD) ?_ hsm.defers ⟨_, rfl, congrArg Value.bool HNO.out.symm, nx HB2.out hbw⟩
          have hsz : a.tmps.size = 168 := hsm.size.trans rfl
          simp [results, Try.results34, hsz]
end Go.Proofs.Ytimkdpkhdbiniaa
