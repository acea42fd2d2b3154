/- Parts of a proof, joined: RFact2. -/
import Derived.Test.YtimkdpkhdbiniaaZDF10
import Derived.Test.YtimkdpkhdbiniaaZDM02c
/- The reference: which facts may be (printed by gen/rfact2.py). -/
namespace Go.Proofs.Ytimkdpkhdbiniaa
open Go.RowKit
set_option maxRecDepth 100000
set_option linter.unusedVariables false

theorem distP_next {k : Int} {l : List Da} {i : Nat} {d : Da} (h : distP k l i = true) (hx : l[i]? = some d) (h1 : fineB k d = true) (h2 : inD (l.take i) d = false) : distP k l (i + 1) = true := by
  unfold distP
  rw [h, oneP_at hx, h1, h2]
  rfl

/-- What is asked of every fact. -/
noncomputable def headF (f : Fa) : Bool := soundB f.name && decide (1 ≤ f.rank) && decide (f.rank ≤ 4) && timeB f.got && decide (0 ≤ f.ttl) && decide (f.ttl ≤ 604800)
theorem fineF_head {f : Fa} (h : headF f = false) : fineF f = false := by unfold fineF; unfold headF at h; rw [h]; rfl
theorem fineF_tail {f : Fa} (h : headF f = true) : fineF f = if f.kind = 1 then fineH f else fineN f := by unfold fineF; unfold headF at h; rw [h]; rfl
set_option maxHeartbeats 16000000 in
theorem rsoundF_head (sA : Option Addr) (sac : Nat) (sS : Option Addr) (ssc : Nat) (sZ : Option Addr) (szc : Nat) (sd : DS) (f : Fa) (w : World) {S : Nat → Prop} (h : FaIn S w ⟨sA, sac, sS, ssc, sZ, szc, sd⟩ f) (hS : ∀ b, S b → b < w.heap.size) (hL : LtF f) (hh : headF f = false) :
    Calls Try.prog 34 #[faV ⟨sA, sac, sS, ssc, sZ, szc, sd⟩ f] w (RetP (fun v _ => v = .bool false) w) := by
  obtain ⟨n, hn⟩ : ∃ n, n = f.set.length := ⟨_, rfl⟩
  obtain ⟨w1, hw1⟩ : ∃ w1, w1 = w.alloc (.cells (faCells ⟨sA, sac, sS, ssc, sZ, szc, sd⟩ f) 48) := ⟨_, rfl⟩
  have hb1 : Below w.heap.size w w1 := by rw [hw1]; exact bl.alloc (Nat.le_refl _) _
  have hR : FaRow w1 w.heap.size ⟨sA, sac, sS, ssc, sZ, szc, sd⟩ f := by rw [hw1]; exact FaRow.made w _ f
  have HR := Lib.hid hR
  have HI := Lib.hid (h.below hb1 hS)
  have HSW : Hid (∀ b, S b → b < w1.heap.size) := fun b hb => Nat.lt_of_lt_of_le (hS b hb) hb1.size
  have HB1 := Lib.hid hb1
  have HN := Lib.hid hn
  have HL := Lib.hid hL
  have HKK : Hid (∀ u, Below w1.heap.size w1 u → (u.cell? ⟨w.heap.size, 0, none⟩ = some (.slice sA f.name.length sac) ∧ u.cell? ⟨w.heap.size, 1, none⟩ = some (.int .i64 f.type) ∧ u.cell? ⟨w.heap.size, 2, none⟩ = some (.int .i64 f.kind) ∧ u.cell? ⟨w.heap.size, 3, none⟩ = some (.int .i64 f.rank) ∧ u.cell? ⟨w.heap.size, 4, none⟩ = some (.int .i64 f.got) ∧ u.cell? ⟨w.heap.size, 5, none⟩ = some (.int .i64 f.ttl) ∧ u.cell? ⟨w.heap.size, 6, none⟩ = some (.slice sS n ssc) ∧ u.cell? ⟨w.heap.size, 7, none⟩ = some (.slice sZ f.zone.length szc) ∧ u.cell? ⟨w.heap.size, 8, none⟩ = some (.slice sd.A0 f.soa.bytes.length sd.c0) ∧ u.cell? ⟨w.heap.size, 9, none⟩ = some (.slice sd.A1 f.soa.host.length sd.c1) ∧ u.cell? ⟨w.heap.size, 10, none⟩ = some (.slice sd.A2 f.soa.mail.length sd.c2) ∧ u.cell? ⟨w.heap.size, 11, none⟩ = some (.slice sd.A3 f.soa.nums.length sd.c3) ∧ u.cell? ⟨w.heap.size, 12, none⟩ = some (.slice sd.A4 f.soa.texts.length sd.c4))) := fun u hu => by
    have h := hR.below hu
    rw [hn]
    exact ⟨(h.cell 0).trans rfl, (h.cell 1).trans rfl, (h.cell 2).trans rfl, (h.cell 3).trans rfl, (h.cell 4).trans rfl, (h.cell 5).trans rfl, (h.cell 6).trans rfl, (h.cell 7).trans rfl, (h.cell 8).trans rfl, (h.cell 9).trans rfl, (h.cell 10).trans rfl, (h.cell 11).trans rfl, (h.cell 12).trans rfl⟩
  have HNS : Hid (∀ u, Below w1.heap.size w1 u → Calls Try.prog 27 #[.slice sA f.name.length sac] u (Ret (.bool (soundB f.name)) u)) := fun u hu => rsound_any sA f.name.length sac f.name u (HI.out.below hu HSW.out).n
  have HZS : Hid (∀ u, Below w1.heap.size w1 u → Calls Try.prog 27 #[.slice sZ f.zone.length szc] u (Ret (.bool (soundB f.zone)) u)) := fun u hu => rsound_any sZ f.zone.length szc f.zone u (HI.out.below hu HSW.out).z
  have HRT : Hid (∀ u, Calls Try.prog 26 #[.int .i64 f.got] u (Ret (.bool (timeB f.got)) u)) := fun u => rtime_any f.got u
  have HTY : Hid (∀ u, Calls Try.prog 75 #[.int .i64 f.type] u (Ret (.bool (typedB f.type)) u)) := fun u => rtyped_any f.type u
  obtain ⟨x0, x1, x2, x3, x4, x5, x6, x7, x8, x9, x10, x11, x12⟩ := HKK.out w1 bl
  unfold faV
  unfold faCells at hw1 ⊢
  rw [← hn] at hw1
  rw [← hn]
  have HH : Hid (headF f = false) := hh
  have HV : Hid (headF f = (soundB f.name && decide (1 ≤ f.rank) && decide (f.rank ≤ 4) && timeB f.got && decide (0 ≤ f.ttl) && decide (f.ttl ≤ 604800))) := rfl
  clear h hS hL hn hb1 hR hh
  generalize headF f = HD at HH HV
  generalize soundB f.name = SN at HNS HV
  generalize timeB f.got = TT at HRT HV
  go_enter Try.func34, Try.ntmps34
  go_upto_region 1 with (fail)
  rw [← hw1]
  clear hw1
  cases SN with
  | false =>
    go_wp2_with (first
      | (go_at_call 27; (with_reducible refine (HNS.out w1 bl).mono ?_); rintro e w0 ⟨rfl, rfl⟩)
      | fail)
    go_ret
    exact ⟨_, rfl, rfl, HB1.out⟩
  | true =>
    by_cases r1 : f.rank < 1
    · have r1d : decide (f.rank < 1) = true := decide_eq_true r1
      clear r1
      go_wp2_with (first
        | (go_at_call 27; (with_reducible refine (HNS.out w1 bl).mono ?_); rintro e w0 ⟨rfl, rfl⟩)
        | fail)
      go_ret
      exact ⟨_, rfl, rfl, HB1.out⟩
    have r1d : decide (f.rank < 1) = false := decide_eq_false r1
    by_cases r2 : 4 < f.rank
    · have r2d : decide (4 < f.rank) = true := decide_eq_true r2
      clear r1 r2
      go_wp2_with (first
        | (go_at_call 27; (with_reducible refine (HNS.out w1 bl).mono ?_); rintro e w0 ⟨rfl, rfl⟩)
        | fail)
      go_ret
      exact ⟨_, rfl, rfl, HB1.out⟩
    have r2d : decide (4 < f.rank) = false := decide_eq_false r2
    cases TT with
    | false =>
      clear r1 r2
      go_wp2_with (first
        | (go_at_call 26; (with_reducible refine (HRT.out w1).mono ?_); rintro e w0 ⟨rfl, rfl⟩)
        | (go_at_call 27; (with_reducible refine (HNS.out w1 bl).mono ?_); rintro e w0 ⟨rfl, rfl⟩)
        | fail)
      go_ret
      exact ⟨_, rfl, rfl, HB1.out⟩
    | true =>
      by_cases r3 : f.ttl < 0
      · have r3d : decide (f.ttl < 0) = true := decide_eq_true r3
        clear r1 r2 r3
        go_wp2_with (first
          | (go_at_call 26; (with_reducible refine (HRT.out w1).mono ?_); rintro e w0 ⟨rfl, rfl⟩)
          | (go_at_call 27; (with_reducible refine (HNS.out w1 bl).mono ?_); rintro e w0 ⟨rfl, rfl⟩)
          | fail)
        go_ret
        exact ⟨_, rfl, rfl, HB1.out⟩
      have r3d : decide (f.ttl < 0) = false := decide_eq_false r3
      by_cases r4 : 604800 < f.ttl
      · have r4d : decide (604800 < f.ttl) = true := decide_eq_true r4
        clear r1 r2 r3 r4
        go_wp2_with (first
          | (go_at_call 26; (with_reducible refine (HRT.out w1).mono ?_); rintro e w0 ⟨rfl, rfl⟩)
          | (go_at_call 27; (with_reducible refine (HNS.out w1 bl).mono ?_); rintro e w0 ⟨rfl, rfl⟩)
          | fail)
        go_ret
        exact ⟨_, rfl, rfl, HB1.out⟩
      exfalso
      have h := HV.out
      rw [HH.out, decide_eq_true (show 1 ≤ f.rank by omega), decide_eq_true (show f.rank ≤ 4 by omega), decide_eq_true (show 0 ≤ f.ttl by omega), decide_eq_true (show f.ttl ≤ 604800 by omega)] at h
      cases h
set_option maxHeartbeats 16000000 in
theorem rsoundF_else (sA : Option Addr) (sac : Nat) (sS : Option Addr) (ssc : Nat) (sZ : Option Addr) (szc : Nat) (sd : DS) (f : Fa) (w : World) {S : Nat → Prop} (h : FaIn S w ⟨sA, sac, sS, ssc, sZ, szc, sd⟩ f) (hS : ∀ b, S b → b < w.heap.size) (hL : LtF f) (hh : headF f = true) (h1 : ¬ f.kind = 1) (h2 : ¬ f.kind = 2) (h3 : ¬ f.kind = 3) :
    Calls Try.prog 34 #[faV ⟨sA, sac, sS, ssc, sZ, szc, sd⟩ f] w (RetP (fun v _ => v = .bool false) w) := by
  obtain ⟨n, hn⟩ : ∃ n, n = f.set.length := ⟨_, rfl⟩
  obtain ⟨w1, hw1⟩ : ∃ w1, w1 = w.alloc (.cells (faCells ⟨sA, sac, sS, ssc, sZ, szc, sd⟩ f) 48) := ⟨_, rfl⟩
  have hb1 : Below w.heap.size w w1 := by rw [hw1]; exact bl.alloc (Nat.le_refl _) _
  have hR : FaRow w1 w.heap.size ⟨sA, sac, sS, ssc, sZ, szc, sd⟩ f := by rw [hw1]; exact FaRow.made w _ f
  have HR := Lib.hid hR
  have HI := Lib.hid (h.below hb1 hS)
  have HSW : Hid (∀ b, S b → b < w1.heap.size) := fun b hb => Nat.lt_of_lt_of_le (hS b hb) hb1.size
  have HB1 := Lib.hid hb1
  have HN := Lib.hid hn
  have HL := Lib.hid hL
  have HKK : Hid (∀ u, Below w1.heap.size w1 u → (u.cell? ⟨w.heap.size, 0, none⟩ = some (.slice sA f.name.length sac) ∧ u.cell? ⟨w.heap.size, 1, none⟩ = some (.int .i64 f.type) ∧ u.cell? ⟨w.heap.size, 2, none⟩ = some (.int .i64 f.kind) ∧ u.cell? ⟨w.heap.size, 3, none⟩ = some (.int .i64 f.rank) ∧ u.cell? ⟨w.heap.size, 4, none⟩ = some (.int .i64 f.got) ∧ u.cell? ⟨w.heap.size, 5, none⟩ = some (.int .i64 f.ttl) ∧ u.cell? ⟨w.heap.size, 6, none⟩ = some (.slice sS n ssc) ∧ u.cell? ⟨w.heap.size, 7, none⟩ = some (.slice sZ f.zone.length szc) ∧ u.cell? ⟨w.heap.size, 8, none⟩ = some (.slice sd.A0 f.soa.bytes.length sd.c0) ∧ u.cell? ⟨w.heap.size, 9, none⟩ = some (.slice sd.A1 f.soa.host.length sd.c1) ∧ u.cell? ⟨w.heap.size, 10, none⟩ = some (.slice sd.A2 f.soa.mail.length sd.c2) ∧ u.cell? ⟨w.heap.size, 11, none⟩ = some (.slice sd.A3 f.soa.nums.length sd.c3) ∧ u.cell? ⟨w.heap.size, 12, none⟩ = some (.slice sd.A4 f.soa.texts.length sd.c4))) := fun u hu => by
    have h := hR.below hu
    rw [hn]
    exact ⟨(h.cell 0).trans rfl, (h.cell 1).trans rfl, (h.cell 2).trans rfl, (h.cell 3).trans rfl, (h.cell 4).trans rfl, (h.cell 5).trans rfl, (h.cell 6).trans rfl, (h.cell 7).trans rfl, (h.cell 8).trans rfl, (h.cell 9).trans rfl, (h.cell 10).trans rfl, (h.cell 11).trans rfl, (h.cell 12).trans rfl⟩
  have HNS : Hid (∀ u, Below w1.heap.size w1 u → Calls Try.prog 27 #[.slice sA f.name.length sac] u (Ret (.bool (soundB f.name)) u)) := fun u hu => rsound_any sA f.name.length sac f.name u (HI.out.below hu HSW.out).n
  have HZS : Hid (∀ u, Below w1.heap.size w1 u → Calls Try.prog 27 #[.slice sZ f.zone.length szc] u (Ret (.bool (soundB f.zone)) u)) := fun u hu => rsound_any sZ f.zone.length szc f.zone u (HI.out.below hu HSW.out).z
  have HRT : Hid (∀ u, Calls Try.prog 26 #[.int .i64 f.got] u (Ret (.bool (timeB f.got)) u)) := fun u => rtime_any f.got u
  have HTY : Hid (∀ u, Calls Try.prog 75 #[.int .i64 f.type] u (Ret (.bool (typedB f.type)) u)) := fun u => rtyped_any f.type u
  obtain ⟨x0, x1, x2, x3, x4, x5, x6, x7, x8, x9, x10, x11, x12⟩ := HKK.out w1 bl
  unfold faV
  unfold faCells at hw1 ⊢
  rw [← hn] at hw1
  rw [← hn]
  have HD0 : Hid (soundB f.name = true ∧ 1 ≤ f.rank ∧ f.rank ≤ 4 ∧ timeB f.got = true ∧ 0 ≤ f.ttl ∧ f.ttl ≤ 604800) := by
    unfold headF at hh
    simp only [Bool.and_eq_true, decide_eq_true_eq] at hh
    obtain ⟨⟨⟨⟨⟨a1, a2⟩, a3⟩, a4⟩, a5⟩, a6⟩ := hh
    exact ⟨a1, a2, a3, a4, a5, a6⟩
  have r1d : decide (f.rank < 1) = false := decide_eq_false (by have := HD0.out.2.1; omega)
  have r2d : decide (4 < f.rank) = false := decide_eq_false (by have := HD0.out.2.2.1; omega)
  have r3d : decide (f.ttl < 0) = false := decide_eq_false (by have := HD0.out.2.2.2.2.1; omega)
  have r4d : decide (604800 < f.ttl) = false := decide_eq_false (by have := HD0.out.2.2.2.2.2; omega)
  rw [HD0.out.1] at HNS
  rw [HD0.out.2.2.2.1] at HRT
  obtain ⟨w2, hw2⟩ : ∃ w2, w2 = w1.alloc (.cells #[.slice sd.A0 f.soa.bytes.length sd.c0, .slice sd.A1 f.soa.host.length sd.c1, .slice sd.A2 f.soa.mail.length sd.c2, .slice sd.A3 f.soa.nums.length sd.c3, .slice sd.A4 f.soa.texts.length sd.c4] 46) := ⟨_, rfl⟩
  have hb2 : Below w1.heap.size w1 w2 := by rw [hw2]; exact bl.alloc (Nat.le_refl _) _
  have hDB : DBox w2 w1.heap.size sd f.soa := by rw [hw2]; exact DBox.made w1 sd f.soa _
  have HB2 : Hid (Below w.heap.size w w2) := nx hb1 hb2
  have HK2 : Hid (∀ u, Below w2.heap.size w2 u → ((u.cell? ⟨w.heap.size, 0, none⟩ = some (.slice sA f.name.length sac) ∧ u.cell? ⟨w.heap.size, 1, none⟩ = some (.int .i64 f.type) ∧ u.cell? ⟨w.heap.size, 2, none⟩ = some (.int .i64 f.kind) ∧ u.cell? ⟨w.heap.size, 3, none⟩ = some (.int .i64 f.rank) ∧ u.cell? ⟨w.heap.size, 4, none⟩ = some (.int .i64 f.got) ∧ u.cell? ⟨w.heap.size, 5, none⟩ = some (.int .i64 f.ttl) ∧ u.cell? ⟨w.heap.size, 6, none⟩ = some (.slice sS n ssc) ∧ u.cell? ⟨w.heap.size, 7, none⟩ = some (.slice sZ f.zone.length szc) ∧ u.cell? ⟨w.heap.size, 8, none⟩ = some (.slice sd.A0 f.soa.bytes.length sd.c0) ∧ u.cell? ⟨w.heap.size, 9, none⟩ = some (.slice sd.A1 f.soa.host.length sd.c1) ∧ u.cell? ⟨w.heap.size, 10, none⟩ = some (.slice sd.A2 f.soa.mail.length sd.c2) ∧ u.cell? ⟨w.heap.size, 11, none⟩ = some (.slice sd.A3 f.soa.nums.length sd.c3) ∧ u.cell? ⟨w.heap.size, 12, none⟩ = some (.slice sd.A4 f.soa.texts.length sd.c4)) ∧ (u.cell? ⟨w1.heap.size, 0, none⟩ = some (.slice sd.A0 f.soa.bytes.length sd.c0) ∧ u.cell? ⟨w1.heap.size, 1, none⟩ = some (.slice sd.A1 f.soa.host.length sd.c1) ∧ u.cell? ⟨w1.heap.size, 2, none⟩ = some (.slice sd.A2 f.soa.mail.length sd.c2) ∧ u.cell? ⟨w1.heap.size, 3, none⟩ = some (.slice sd.A3 f.soa.nums.length sd.c3) ∧ u.cell? ⟨w1.heap.size, 4, none⟩ = some (.slice sd.A4 f.soa.texts.length sd.c4)))) := fun u hu => ⟨HKK.out u (nx hb2 hu), hDB.below hu⟩
  have HI2 := Lib.hid (HI.out.below hb2 HSW.out)
  have HS2 : Hid (∀ b, S b → b < w2.heap.size) := fun b hb => Nat.lt_of_lt_of_le (HSW.out b hb) hb2.size
  have HB12 := Lib.hid hb2
  have k1 : (f.kind == 1) = false := by simp [h1]
  have k2 : (f.kind == 2) = false := by simp [h2]
  have k3 : (f.kind == 3) = false := by simp [h3]
  clear h1 h2 h3
  clear h hS hL hn hb1 hR hh hb2 hDB
  go_enter Try.func34, Try.ntmps34
  go_upto_region 1 with (fail)
  rw [← hw1]
  clear hw1
  go_upto_region 4 with (first
    | (go_at_call 26; (with_reducible refine (HRT.out w1).mono ?_); rintro e w0 ⟨rfl, rfl⟩)
    | (go_at_call 27; (with_reducible refine (HNS.out w1 bl).mono ?_); rintro e w0 ⟨rfl, rfl⟩)
    | fail)
  rw [← hw2]
  clear hw2 x0 x1 x2 x3 x4 x5 x6 x7 x8 x9 x10 x11 x12
  obtain ⟨⟨x0, x1, x2, x3, x4, x5, x6, x7, x8, x9, x10, x11, x12⟩, z0, z1, z2, z3, z4⟩ := HK2.out w2 bl
  go_wp2
  go_ret
  exact ⟨_, rfl, rfl, HB2.out⟩

set_option maxHeartbeats 16000000 in
theorem rsoundF_has (sA : Option Addr) (sac : Nat) (sS : Option Addr) (ssc : Nat) (sZ : Option Addr) (szc : Nat) (sd : DS) (f : Fa) (w : World) {S : Nat → Prop} (h : FaIn S w ⟨sA, sac, sS, ssc, sZ, szc, sd⟩ f) (hS : ∀ b, S b → b < w.heap.size) (hL : LtF f) (hh : headF f = true) (h1 : f.kind = 1) :
    Calls Try.prog 34 #[faV ⟨sA, sac, sS, ssc, sZ, szc, sd⟩ f] w (RetP (fun v _ => v = .bool (fineH f)) w) := by
  obtain ⟨n, hn⟩ : ∃ n, n = f.set.length := ⟨_, rfl⟩
  obtain ⟨w1, hw1⟩ : ∃ w1, w1 = w.alloc (.cells (faCells ⟨sA, sac, sS, ssc, sZ, szc, sd⟩ f) 48) := ⟨_, rfl⟩
  have hb1 : Below w.heap.size w w1 := by rw [hw1]; exact bl.alloc (Nat.le_refl _) _
  have hR : FaRow w1 w.heap.size ⟨sA, sac, sS, ssc, sZ, szc, sd⟩ f := by rw [hw1]; exact FaRow.made w _ f
  have HR := Lib.hid hR
  have HI := Lib.hid (h.below hb1 hS)
  have HSW : Hid (∀ b, S b → b < w1.heap.size) := fun b hb => Nat.lt_of_lt_of_le (hS b hb) hb1.size
  have HB1 := Lib.hid hb1
  have HN := Lib.hid hn
  have HL := Lib.hid hL
  have HKK : Hid (∀ u, Below w1.heap.size w1 u → (u.cell? ⟨w.heap.size, 0, none⟩ = some (.slice sA f.name.length sac) ∧ u.cell? ⟨w.heap.size, 1, none⟩ = some (.int .i64 f.type) ∧ u.cell? ⟨w.heap.size, 2, none⟩ = some (.int .i64 f.kind) ∧ u.cell? ⟨w.heap.size, 3, none⟩ = some (.int .i64 f.rank) ∧ u.cell? ⟨w.heap.size, 4, none⟩ = some (.int .i64 f.got) ∧ u.cell? ⟨w.heap.size, 5, none⟩ = some (.int .i64 f.ttl) ∧ u.cell? ⟨w.heap.size, 6, none⟩ = some (.slice sS n ssc) ∧ u.cell? ⟨w.heap.size, 7, none⟩ = some (.slice sZ f.zone.length szc) ∧ u.cell? ⟨w.heap.size, 8, none⟩ = some (.slice sd.A0 f.soa.bytes.length sd.c0) ∧ u.cell? ⟨w.heap.size, 9, none⟩ = some (.slice sd.A1 f.soa.host.length sd.c1) ∧ u.cell? ⟨w.heap.size, 10, none⟩ = some (.slice sd.A2 f.soa.mail.length sd.c2) ∧ u.cell? ⟨w.heap.size, 11, none⟩ = some (.slice sd.A3 f.soa.nums.length sd.c3) ∧ u.cell? ⟨w.heap.size, 12, none⟩ = some (.slice sd.A4 f.soa.texts.length sd.c4))) := fun u hu => by
    have h := hR.below hu
    rw [hn]
    exact ⟨(h.cell 0).trans rfl, (h.cell 1).trans rfl, (h.cell 2).trans rfl, (h.cell 3).trans rfl, (h.cell 4).trans rfl, (h.cell 5).trans rfl, (h.cell 6).trans rfl, (h.cell 7).trans rfl, (h.cell 8).trans rfl, (h.cell 9).trans rfl, (h.cell 10).trans rfl, (h.cell 11).trans rfl, (h.cell 12).trans rfl⟩
  have HNS : Hid (∀ u, Below w1.heap.size w1 u → Calls Try.prog 27 #[.slice sA f.name.length sac] u (Ret (.bool (soundB f.name)) u)) := fun u hu => rsound_any sA f.name.length sac f.name u (HI.out.below hu HSW.out).n
  have HZS : Hid (∀ u, Below w1.heap.size w1 u → Calls Try.prog 27 #[.slice sZ f.zone.length szc] u (Ret (.bool (soundB f.zone)) u)) := fun u hu => rsound_any sZ f.zone.length szc f.zone u (HI.out.below hu HSW.out).z
  have HRT : Hid (∀ u, Calls Try.prog 26 #[.int .i64 f.got] u (Ret (.bool (timeB f.got)) u)) := fun u => rtime_any f.got u
  have HTY : Hid (∀ u, Calls Try.prog 75 #[.int .i64 f.type] u (Ret (.bool (typedB f.type)) u)) := fun u => rtyped_any f.type u
  obtain ⟨x0, x1, x2, x3, x4, x5, x6, x7, x8, x9, x10, x11, x12⟩ := HKK.out w1 bl
  unfold faV
  unfold faCells at hw1 ⊢
  rw [← hn] at hw1
  rw [← hn]
  have HD0 : Hid (soundB f.name = true ∧ 1 ≤ f.rank ∧ f.rank ≤ 4 ∧ timeB f.got = true ∧ 0 ≤ f.ttl ∧ f.ttl ≤ 604800) := by
    unfold headF at hh
    simp only [Bool.and_eq_true, decide_eq_true_eq] at hh
    obtain ⟨⟨⟨⟨⟨a1, a2⟩, a3⟩, a4⟩, a5⟩, a6⟩ := hh
    exact ⟨a1, a2, a3, a4, a5, a6⟩
  have r1d : decide (f.rank < 1) = false := decide_eq_false (by have := HD0.out.2.1; omega)
  have r2d : decide (4 < f.rank) = false := decide_eq_false (by have := HD0.out.2.2.1; omega)
  have r3d : decide (f.ttl < 0) = false := decide_eq_false (by have := HD0.out.2.2.2.2.1; omega)
  have r4d : decide (604800 < f.ttl) = false := decide_eq_false (by have := HD0.out.2.2.2.2.2; omega)
  rw [HD0.out.1] at HNS
  rw [HD0.out.2.2.2.1] at HRT
  obtain ⟨w2, hw2⟩ : ∃ w2, w2 = w1.alloc (.cells #[.slice sd.A0 f.soa.bytes.length sd.c0, .slice sd.A1 f.soa.host.length sd.c1, .slice sd.A2 f.soa.mail.length sd.c2, .slice sd.A3 f.soa.nums.length sd.c3, .slice sd.A4 f.soa.texts.length sd.c4] 46) := ⟨_, rfl⟩
  have hb2 : Below w1.heap.size w1 w2 := by rw [hw2]; exact bl.alloc (Nat.le_refl _) _
  have hDB : DBox w2 w1.heap.size sd f.soa := by rw [hw2]; exact DBox.made w1 sd f.soa _
  have HB2 : Hid (Below w.heap.size w w2) := nx hb1 hb2
  have HK2 : Hid (∀ u, Below w2.heap.size w2 u → ((u.cell? ⟨w.heap.size, 0, none⟩ = some (.slice sA f.name.length sac) ∧ u.cell? ⟨w.heap.size, 1, none⟩ = some (.int .i64 f.type) ∧ u.cell? ⟨w.heap.size, 2, none⟩ = some (.int .i64 f.kind) ∧ u.cell? ⟨w.heap.size, 3, none⟩ = some (.int .i64 f.rank) ∧ u.cell? ⟨w.heap.size, 4, none⟩ = some (.int .i64 f.got) ∧ u.cell? ⟨w.heap.size, 5, none⟩ = some (.int .i64 f.ttl) ∧ u.cell? ⟨w.heap.size, 6, none⟩ = some (.slice sS n ssc) ∧ u.cell? ⟨w.heap.size, 7, none⟩ = some (.slice sZ f.zone.length szc) ∧ u.cell? ⟨w.heap.size, 8, none⟩ = some (.slice sd.A0 f.soa.bytes.length sd.c0) ∧ u.cell? ⟨w.heap.size, 9, none⟩ = some (.slice sd.A1 f.soa.host.length sd.c1) ∧ u.cell? ⟨w.heap.size, 10, none⟩ = some (.slice sd.A2 f.soa.mail.length sd.c2) ∧ u.cell? ⟨w.heap.size, 11, none⟩ = some (.slice sd.A3 f.soa.nums.length sd.c3) ∧ u.cell? ⟨w.heap.size, 12, none⟩ = some (.slice sd.A4 f.soa.texts.length sd.c4)) ∧ (u.cell? ⟨w1.heap.size, 0, none⟩ = some (.slice sd.A0 f.soa.bytes.length sd.c0) ∧ u.cell? ⟨w1.heap.size, 1, none⟩ = some (.slice sd.A1 f.soa.host.length sd.c1) ∧ u.cell? ⟨w1.heap.size, 2, none⟩ = some (.slice sd.A2 f.soa.mail.length sd.c2) ∧ u.cell? ⟨w1.heap.size, 3, none⟩ = some (.slice sd.A3 f.soa.nums.length sd.c3) ∧ u.cell? ⟨w1.heap.size, 4, none⟩ = some (.slice sd.A4 f.soa.texts.length sd.c4)))) := fun u hu => ⟨HKK.out u (nx hb2 hu), hDB.below hu⟩
  have HI2 := Lib.hid (HI.out.below hb2 HSW.out)
  have HS2 : Hid (∀ b, S b → b < w2.heap.size) := fun b hb => Nat.lt_of_lt_of_le (HSW.out b hb) hb2.size
  have HB12 := Lib.hid hb2
  have k1 : (f.kind == 1) = true := by simp [h1]
  have hssc : n ≤ ssc := by rw [hn]; exact h.cl.1
  obtain ⟨R, hR0⟩ : ∃ R, R = fineH f := ⟨_, rfl⟩
  have HV : Hid (R = (typedB f.type && decide (1 ≤ n) && decide (n ≤ 64) && distP f.type f.set n && decide (f.zone.length = 0) && decide (f.soa.bytes.length + f.soa.host.length + f.soa.mail.length + f.soa.nums.length + f.soa.texts.length = 0))) := by show _ = _; rw [hR0, hn]; rfl
  rw [← hR0]
  clear hR0 h1
  generalize hzl : f.zone.length = zl at *
  generalize hd0 : f.soa.bytes.length = d0 at *
  generalize hd1 : f.soa.host.length = d1 at *
  generalize hd2 : f.soa.mail.length = d2 at *
  generalize hd3 : f.soa.nums.length = d3 at *
  generalize hd4 : f.soa.texts.length = d4 at *
  clear hzl hd0 hd1 hd2 hd3 hd4
  generalize typedB f.type = TY at HTY HV
  clear h hS hL hn hb1 hR hh hb2 hDB
  go_enter Try.func34, Try.ntmps34
  go_upto_region 1 with (fail)
  rw [← hw1]
  clear hw1
  go_upto_region 4 with (first
    | (go_at_call 26; (with_reducible refine (HRT.out w1).mono ?_); rintro e w0 ⟨rfl, rfl⟩)
    | (go_at_call 27; (with_reducible refine (HNS.out w1 bl).mono ?_); rintro e w0 ⟨rfl, rfl⟩)
    | fail)
  rw [← hw2]
  clear hw2 x0 x1 x2 x3 x4 x5 x6 x7 x8 x9 x10 x11 x12
  obtain ⟨⟨x0, x1, x2, x3, x4, x5, x6, x7, x8, x9, x10, x11, x12⟩, z0, z1, z2, z3, z4⟩ := HK2.out w2 bl
  cases TY with
  | false =>
    have HNO : Hid (R = false) := by show _ = _; rw [HV.out]; simp
    clear HV
    go_wp2_with (first
      | (go_at_call 75; (with_reducible refine (HTY.out w2).mono ?_); rintro e w0 ⟨rfl, rfl⟩)
      | fail)
    go_ret
    exact ⟨_, rfl, congrArg Value.bool HNO.out.symm, HB2.out⟩
  | true =>
    by_cases t0 : n < 1
    · have u0 : decide ((n : Int) < 1) = true := decide_eq_true (by omega)
      have v0 : (n : Int) < 1 := by omega
      have HNO : Hid (R = false) := by show _ = _; rw [HV.out]; rw [decide_eq_false (show ¬ 1 ≤ n by omega)]; simp
      clear HV
      go_wp2_with (first
        | (go_at_call 75; (with_reducible refine (HTY.out w2).mono ?_); rintro e w0 ⟨rfl, rfl⟩)
        | fail)
      go_ret
      exact ⟨_, rfl, congrArg Value.bool HNO.out.symm, HB2.out⟩
    have u0 : decide ((n : Int) < 1) = false := decide_eq_false (by omega)
    have v0 : ¬ (n : Int) < 1 := by omega
    by_cases t1 : 64 < n
    · have u1 : decide (64 < (n : Int)) = true := decide_eq_true (by omega)
      have v1 : 64 < (n : Int) := by omega
      have HNO : Hid (R = false) := by show _ = _; rw [HV.out]; rw [decide_eq_false (show ¬ n ≤ 64 by omega)]; simp
      clear HV
      go_wp2_with (first
        | (go_at_call 75; (with_reducible refine (HTY.out w2).mono ?_); rintro e w0 ⟨rfl, rfl⟩)
        | fail)
      go_ret
      exact ⟨_, rfl, congrArg Value.bool HNO.out.symm, HB2.out⟩
    have u1 : decide (64 < (n : Int)) = false := decide_eq_false (by omega)
    have v1 : ¬ 64 < (n : Int) := by omega
    by_cases t2 : 0 < zl
    · have u2 : decide (0 < (zl : Int)) = true := decide_eq_true (by omega)
      have v2 : 0 < (zl : Int) := by omega
      have HNO : Hid (R = false) := by show _ = _; rw [HV.out]; rw [decide_eq_false (show ¬ zl = 0 by omega)]; simp
      clear HV
      go_wp2_with (first
        | (go_at_call 75; (with_reducible refine (HTY.out w2).mono ?_); rintro e w0 ⟨rfl, rfl⟩)
        | fail)
      go_ret
      exact ⟨_, rfl, congrArg Value.bool HNO.out.symm, HB2.out⟩
    obtain rfl : zl = 0 := by omega
    by_cases t3 : 0 < d0
    · have u3 : decide (0 < (d0 : Int)) = true := decide_eq_true (by omega)
      have v3 : 0 < (d0 : Int) := by omega
      have HNO : Hid (R = false) := by show _ = _; rw [HV.out]; rw [decide_eq_false (show ¬ (d0 + d1 + d2 + d3 + d4 = 0) by omega)]; simp
      clear HV
      go_wp2_with (first
        | (go_at_call 75; (with_reducible refine (HTY.out w2).mono ?_); rintro e w0 ⟨rfl, rfl⟩)
        | fail)
      go_ret
      exact ⟨_, rfl, congrArg Value.bool HNO.out.symm, HB2.out⟩
    obtain rfl : d0 = 0 := by omega
    by_cases t4 : 0 < d1
    · have u4 : decide (0 < (d1 : Int)) = true := decide_eq_true (by omega)
      have v4 : 0 < (d1 : Int) := by omega
      have HNO : Hid (R = false) := by show _ = _; rw [HV.out]; rw [decide_eq_false (show ¬ (0 + d1 + d2 + d3 + d4 = 0) by omega)]; simp
      clear HV
      go_wp2_with (first
        | (go_at_call 75; (with_reducible refine (HTY.out w2).mono ?_); rintro e w0 ⟨rfl, rfl⟩)
        | fail)
      go_ret
      exact ⟨_, rfl, congrArg Value.bool HNO.out.symm, HB2.out⟩
    obtain rfl : d1 = 0 := by omega
    by_cases t5 : 0 < d2
    · have u5 : decide (0 < (d2 : Int)) = true := decide_eq_true (by omega)
      have v5 : 0 < (d2 : Int) := by omega
      have HNO : Hid (R = false) := by show _ = _; rw [HV.out]; rw [decide_eq_false (show ¬ (0 + 0 + d2 + d3 + d4 = 0) by omega)]; simp
      clear HV
      go_wp2_with (first
        | (go_at_call 75; (with_reducible refine (HTY.out w2).mono ?_); rintro e w0 ⟨rfl, rfl⟩)
        | fail)
      go_ret
      exact ⟨_, rfl, congrArg Value.bool HNO.out.symm, HB2.out⟩
    obtain rfl : d2 = 0 := by omega
    by_cases t6 : 0 < d3
    · have u6 : decide (0 < (d3 : Int)) = true := decide_eq_true (by omega)
      have v6 : 0 < (d3 : Int) := by omega
      have HNO : Hid (R = false) := by show _ = _; rw [HV.out]; rw [decide_eq_false (show ¬ (0 + 0 + 0 + d3 + d4 = 0) by omega)]; simp
      clear HV
      go_wp2_with (first
        | (go_at_call 75; (with_reducible refine (HTY.out w2).mono ?_); rintro e w0 ⟨rfl, rfl⟩)
        | fail)
      go_ret
      exact ⟨_, rfl, congrArg Value.bool HNO.out.symm, HB2.out⟩
    obtain rfl : d3 = 0 := by omega
    by_cases t7 : 0 < d4
    · have u7 : decide (0 < (d4 : Int)) = true := decide_eq_true (by omega)
      have v7 : 0 < (d4 : Int) := by omega
      have HNO : Hid (R = false) := by show _ = _; rw [HV.out]; rw [decide_eq_false (show ¬ (0 + 0 + 0 + 0 + d4 = 0) by omega)]; simp
      clear HV
      go_wp2_with (first
        | (go_at_call 75; (with_reducible refine (HTY.out w2).mono ?_); rintro e w0 ⟨rfl, rfl⟩)
        | fail)
      go_ret
      exact ⟨_, rfl, congrArg Value.bool HNO.out.symm, HB2.out⟩
    obtain rfl : d4 = 0 := by omega
    have HV2 : Hid (R = distP f.type f.set n) := by show _ = _; rw [HV.out, decide_eq_true (show 1 ≤ n by omega), decide_eq_true (show n ≤ 64 by omega)]; simp
    have HN64 : Hid (n ≤ 64) := by show _ ≤ _; omega
    clear HV t2 t3 t4 t5 t6 t7
    go_upto_region 8 with (first
      | (go_at_call 75; (with_reducible refine (HTY.out w2).mono ?_); rintro e w0 ⟨rfl, rfl⟩)
      | fail)
    clear x0 x1 x2 x3 x4 x5 x6 x7 x8 x9 x10 x11 x12 z0 z1 z2 z3 z4 u0 u1 v0 v1 t0 t1
    go_wp2
    go_loopw [4] (fun iv wr => ∃ kx : Nat, iv = .int .i64 kx ∧ kx ≤ n ∧ Hid (distP f.type f.set kx = true) ∧ Hid (Below w2.heap.size w2 wr)) (fun iv _ => n - (intOf iv).toNat)
    case atStart => exact ⟨0, rfl, Nat.zero_le _, rfl, bl⟩
    case round =>
      obtain ⟨kx, rfl, hi, HDP, HBR⟩ := hrel
      obtain ⟨⟨-, x1, -, -, -, -, x6, -, -, -, -, -, -⟩, -⟩ := HK2.out wr HBR.out
      have hn64 : n ≤ 64 := HN64.out
      by_cases hlt : kx < n
      · obtain ⟨d, hx⟩ : ∃ d, f.set[kx]? = some d := ⟨_, List.getElem?_eq_getElem (by rw [← HN.out]; exact hlt)⟩
        have HX := Lib.hid hx
        have hls := HL.out.s d (List.mem_of_getElem? hx)
        obtain ⟨b, off, t, hA, -, hdi, hcc⟩ := da_at HI2.out.l hx
        have hA' : sS = some ⟨b, off, none⟩ := hA
        subst hA'
        have HCC := Lib.hid hcc
        have HDR : Hid (∀ u, Below w2.heap.size w2 u → DRd u t d) := fun u hu => (hdi.rd HS2.out).below hu
        have HK7 : Hid (∀ u, Below wr.heap.size wr u → (u.cell? ⟨w.heap.size, 1, none⟩ = some (.int .i64 f.type) ∧ u.cell? ⟨w.heap.size, 6, none⟩ = some (.slice (some ⟨b, off, none⟩) n ssc) ∧ u.cell? ⟨b, off + kx * 5, none⟩ = some (.slice t.A0 d.bytes.length t.c0) ∧ u.cell? ⟨b, off + kx * 5 + 1, none⟩ = some (.slice t.A1 d.host.length t.c1) ∧ u.cell? ⟨b, off + kx * 5 + 2, none⟩ = some (.slice t.A2 d.mail.length t.c2) ∧ u.cell? ⟨b, off + kx * 5 + 3, none⟩ = some (.slice t.A3 d.nums.length t.c3) ∧ u.cell? ⟨b, off + kx * 5 + 4, none⟩ = some (.slice t.A4 d.texts.length t.c4))) := fun u hu => ⟨(HK2.out u (nx HBR.out hu)).1.2.1, (HK2.out u (nx HBR.out hu)).1.2.2.2.2.2.2.1, HCC.out.below (nx HBR.out hu)⟩
        have HDT : Hid (∀ u, Below wr.heap.size wr u → Calls Try.prog 76 #[.int .i64 f.type, .agg #[.slice t.A0 d.bytes.length t.c0, .slice t.A1 d.host.length t.c1, .slice t.A2 d.mail.length t.c2, .slice t.A3 d.nums.length t.c3, .slice t.A4 d.texts.length t.c4]] u (RetP (fun v _ => v = .bool (fineB f.type d)) u)) := fun u hu => rdata_any f.type t d u (HDR.out u (nx HBR.out hu)) (by have := hls.2.2.2.1; omega) (by have := hls.2.2.1; omega)
        have HIN : Hid (∀ u, Below wr.heap.size wr u → Calls Try.prog 77 #[.slice (some ⟨b, off, none⟩) kx ssc, .agg #[.slice t.A0 d.bytes.length t.c0, .slice t.A1 d.host.length t.c1, .slice t.A2 d.mail.length t.c2, .slice t.A3 d.nums.length t.c3, .slice t.A4 d.texts.length t.c4]] u (RetP (fun v _ => v = .bool (inD (f.set.take kx) d)) u)) := fun u hu => by
          have h1 : Els encDa S S w2 (some ⟨b, off, none⟩) n f.set := by have := HI2.out.l; rw [HN.out]; exact this
          have h2 : RdE encDa u (some ⟨b, off, none⟩) n f.set := Els.mono (fun b hb => Nat.lt_of_lt_of_le (HS2.out b hb) (nx HBR.out hu).size) (fun b hb => Nat.lt_of_lt_of_le (HS2.out b hb) (nx HBR.out hu).size) (h1.below (nx HBR.out hu) HS2.out HS2.out)
          exact rin_any (some ⟨b, off, none⟩) kx ssc (f.set.take kx) t d u (h2.take (by omega)) (by omega) (HDR.out u (nx HBR.out hu))
        have HONE := Lib.hid (oneP_at (k := f.type) hx)
        have HLT := Lib.hid hlt
        have hid1 : (kx : Int) < (n : Int) := by omega
        have hid2 : decide ((kx : Int) < (n : Int)) = true := decide_eq_true hid1
        have hic : (kx : Int) ≤ (ssc : Int) := by omega
        clear hx hls hA hdi hcc x1 x6
        have y0 := HK7.out wr bl
        have y1 := HK7.out wr.drew bl.drew
        obtain ⟨a1, a6, c0, c1, c2, c3, c4⟩ := HK7.out wr bl
        cases hf : fineB f.type d with
        | false =>
          rw [hf] at HDT HONE
          have HNO : Hid (R = false) := by show _ = _; rw [HV2.out]; exact distP_no (HONE.out.trans rfl) n HLT.out
          clear hf
          clear a1 a6 c0 c1 c2 c3 c4
          go_upto_region 11 with (fail)
          refine wp_region_vals (n := 20) (by kernel_rfl) (by kernel_rfl) (by kernel_rfl) rfl (by kernel_rfl) (fun i => i + 100) (fun i hi => by show i + 100 < 168; omega) (fun i j _ _ e => by have e2 : i + 100 = j + 100 := e; omega) (fun i => ([.pointer (some ⟨w.heap.size, 1, none⟩), .int .i64 f.type, .pointer (some ⟨w.heap.size, 6, none⟩), .slice (some ⟨b, off, none⟩) n ssc, .int .i64 (kx : Int), .pointer (some ⟨b, off + kx * 5, none⟩), .agg #[.slice t.A0 d.bytes.length t.c0, .slice t.A1 d.host.length t.c1, .slice t.A2 d.mail.length t.c2, .slice t.A3 d.nums.length t.c3, .slice t.A4 d.texts.length t.c4], .bool false, .bool true, .bool true, undef, undef, undef, undef, undef, undef, undef, undef, undef, undef] : List Value).getD i undef) ?_ ?_
          · intro i hi a w4 hbw hsm hdep
            have hc := HK7.out w4 hbw
            have hcases : i = 0 ∨ i = 1 ∨ i = 2 ∨ i = 3 ∨ i = 4 ∨ i = 5 ∨ i = 6 ∨ i = 7 ∨ i = 8 ∨ i = 9 ∨ i = 10 ∨ i = 11 ∨ i = 12 ∨ i = 13 ∨ i = 14 ∨ i = 15 ∨ i = 16 ∨ i = 17 ∨ i = 18 ∨ i = 19 := by omega
            rcases hcases with rfl | rfl | rfl | rfl | rfl | rfl | rfl | rfl | rfl | rfl | rfl | rfl | rfl | rfl | rfl | rfl | rfl | rfl | rfl | rfl
            · have e1 : a.tmps[1]? = some (.pointer (some ⟨w.heap.size, 0, none⟩)) := (hsm.other 1 (fun j hj e => by have e2 : j + 100 = 1 := e; omega)).trans rfl
              refine wpOp_plain rfl rfl ?_
              exact wp_val (by simp [e1, go_sem]) ⟨rfl, bl⟩
            · have e100 : a.tmps[100]? = some (.pointer (some ⟨w.heap.size, 1, none⟩)) := hdep 0 (by kernel_rfl)
              refine wpOp_plain rfl rfl ?_
              exact wp_val (by simp [e100, go_sem, hc.1]) ⟨rfl, bl⟩
            · have e1 : a.tmps[1]? = some (.pointer (some ⟨w.heap.size, 0, none⟩)) := (hsm.other 1 (fun j hj e => by have e2 : j + 100 = 1 := e; omega)).trans rfl
              refine wpOp_plain rfl rfl ?_
              exact wp_val (by simp [e1, go_sem]) ⟨rfl, bl⟩
            · have e102 : a.tmps[102]? = some (.pointer (some ⟨w.heap.size, 6, none⟩)) := hdep 2 (by kernel_rfl)
              refine wpOp_plain rfl rfl ?_
              exact wp_val (by simp [e102, go_sem, hc.2.1]) ⟨rfl, bl⟩
            · have e4 : a.tmps[4]? = some (.int .i64 (kx : Int)) := (hsm.other 4 (fun j hj e => by have e2 : j + 100 = 4 := e; omega)).trans rfl
              refine wpOp_plain rfl rfl ?_
              exact wp_val (by simp [e4, go_sem]) ⟨rfl, bl⟩
            · have e103 : a.tmps[103]? = some (.slice (some ⟨b, off, none⟩) n ssc) := hdep 3 (by kernel_rfl)
              have e104 : a.tmps[104]? = some (.int .i64 (kx : Int)) := hdep 4 (by kernel_rfl)
              refine wpOp_plain rfl rfl ?_
              generalize hK : (fun (a2 : Act) (w2 : World) => _) = K
              have v103 := eval_tmp e103
              have v104 := eval_tmp e104
              go_simp
              rw [← hK]
              exact ⟨rfl, bl⟩
            · have e105 : a.tmps[105]? = some (.pointer (some ⟨b, off + kx * 5, none⟩)) := hdep 5 (by kernel_rfl)
              refine wpOp_plain rfl rfl ?_
              generalize hK : (fun (a2 : Act) (w2 : World) => _) = K
              have v105 := eval_tmp e105
              obtain ⟨c0, c1, c2, c3, c4⟩ := hc.2.2
              go_simp
              rw [← hK]
              exact ⟨rfl, bl⟩
            · have e101 : a.tmps[101]? = some (.int .i64 f.type) := hdep 1 (by kernel_rfl)
              have e106 : a.tmps[106]? = some (.agg #[.slice t.A0 d.bytes.length t.c0, .slice t.A1 d.host.length t.c1, .slice t.A2 d.mail.length t.c2, .slice t.A3 d.nums.length t.c3, .slice t.A4 d.texts.length t.c4]) := hdep 6 (by kernel_rfl)
              refine wpOp_plain rfl rfl ?_
              generalize hK : (fun (a2 : Act) (w2 : World) => _) = K
              have v101 := eval_tmp e101
              have v106 := eval_tmp e106
              go_simp
              refine (HDT.out w4 hbw).mono ?_
              rintro e w5 ⟨v5, rfl, rfl, hb5⟩
              rw [← hK]
              exact ⟨rfl, hb5⟩
            · have e107 : a.tmps[107]? = some (.bool false) := hdep 7 (by kernel_rfl)
              refine wpOp_plain rfl rfl ?_
              exact wp_val (by simp [e107, go_sem]) ⟨rfl, bl⟩
            · have e108 : a.tmps[108]? = some (.bool true) := hdep 8 (by kernel_rfl)
              refine wpOp_plain rfl rfl ?_
              exact wp_val (by simp [e108, go_sem]) ⟨rfl, bl⟩
            · have eg : a.tmps[109]? = some (.bool true) := hdep 9 (by kernel_rfl)
              exact wpOp_no rfl rfl (yields_of rfl eg) (by decide) ⟨rfl, bl⟩
            · have eg : a.tmps[109]? = some (.bool true) := hdep 9 (by kernel_rfl)
              exact wpOp_no rfl rfl (yields_of rfl eg) (by decide) ⟨rfl, bl⟩
            · have eg : a.tmps[109]? = some (.bool true) := hdep 9 (by kernel_rfl)
              exact wpOp_no rfl rfl (yields_of rfl eg) (by decide) ⟨rfl, bl⟩
            · have eg : a.tmps[109]? = some (.bool true) := hdep 9 (by kernel_rfl)
              exact wpOp_no rfl rfl (yields_of rfl eg) (by decide) ⟨rfl, bl⟩
            · have eg : a.tmps[109]? = some (.bool true) := hdep 9 (by kernel_rfl)
              exact wpOp_no rfl rfl (yields_of rfl eg) (by decide) ⟨rfl, bl⟩
            · have eg : a.tmps[109]? = some (.bool true) := hdep 9 (by kernel_rfl)
              exact wpOp_no rfl rfl (yields_of rfl eg) (by decide) ⟨rfl, bl⟩
            · have eg : a.tmps[109]? = some (.bool true) := hdep 9 (by kernel_rfl)
              exact wpOp_no rfl rfl (yields_of rfl eg) (by decide) ⟨rfl, bl⟩
            · have eg : a.tmps[109]? = some (.bool true) := hdep 9 (by kernel_rfl)
              exact wpOp_no rfl rfl (yields_of rfl eg) (by decide) ⟨rfl, bl⟩
            · have eg : a.tmps[109]? = some (.bool true) := hdep 9 (by kernel_rfl)
              exact wpOp_no rfl rfl (yields_of rfl eg) (by decide) ⟨rfl, bl⟩
            · have eg : a.tmps[109]? = some (.bool true) := hdep 9 (by kernel_rfl)
              exact wpOp_no rfl rfl (yields_of rfl eg) (by decide) ⟨rfl, bl⟩
          · intro a w4 hbw hsm hdep
            have e109 : a.tmps[109]? = some (.bool true) := hdep 9 (by decide)
            have e119 : a.tmps[119]? = some (undef) := hdep 19 (by decide)
            refine wpOp_plain rfl rfl ?_
            unfold Oper.wp execOp
            simp [e109, e119, go_sem]
            go_wp2
            have hsz : a.tmps.size = 168 := hsm.size.trans rfl
            refine wp_cond_true (by show (a.tmps.setIfInBounds 120 (.bool true)).getD 120 undef = _; simp [Array.getD_eq_getD_getElem?, hsz]) ?_
            go_wp2
            refine bodyPost_ret (v := .bool false) ?_ hsm.defers ⟨_, rfl, congrArg Value.bool HNO.out.symm, nx HB2.out (nx HBR.out hbw)⟩
            simp [results, Try.results34, hsz]
        | true =>
          rw [hf] at HDT HONE
          have HFT := Lib.hid hf
          clear hf a1 a6 c0 c1 c2 c3 c4
          cases hin : inD (f.set.take kx) d with
          | true =>
            rw [hin] at HIN HONE
            have HNO : Hid (R = false) := by show _ = _; rw [HV2.out]; exact distP_no (HONE.out.trans rfl) n HLT.out
            clear hin
            go_upto_region 11 with (fail)
            go_region_held3 (fun w' => w'.cell? ⟨w.heap.size, 1, none⟩ = some (.int .i64 f.type) ∧ w'.cell? ⟨w.heap.size, 6, none⟩ = some (.slice (some ⟨b, off, none⟩) n ssc) ∧ w'.cell? ⟨b, off + kx * 5, none⟩ = some (.slice t.A0 d.bytes.length t.c0) ∧ w'.cell? ⟨b, off + kx * 5 + 1, none⟩ = some (.slice t.A1 d.host.length t.c1) ∧ w'.cell? ⟨b, off + kx * 5 + 2, none⟩ = some (.slice t.A2 d.mail.length t.c2) ∧ w'.cell? ⟨b, off + kx * 5 + 3, none⟩ = some (.slice t.A3 d.nums.length t.c3) ∧ w'.cell? ⟨b, off + kx * 5 + 4, none⟩ = some (.slice t.A4 d.texts.length t.c4))
              (first | with_reducible exact y0 | with_reducible exact y1 | with_reducible exact y2 | with_reducible exact y3 | fail)
              (first
                | (go_at_call 77; (with_reducible refine (HIN.out w5 HB5.out).mono ?_); rintro e w6 ⟨v6, rfl, rfl, hb6⟩; have HB6 : Hid (Below wr.heap.size wr w6) := (nx HB5.out hb6); have y3 := HK7.out w6 HB6.out)
                | (go_at_call 76; (first | (with_reducible refine (HDT.out wr.drew bl.drew).mono ?_) | (with_reducible refine (HDT.out wr bl).mono ?_)); rintro e w5 ⟨v5, rfl, rfl, hb5⟩; have HB5 : Hid (Below wr.heap.size wr w5) := (nx bl.drew hb5); have y2 := HK7.out w5 HB5.out)
                | fail)
            go_wp2
            go_ret
            exact ⟨_, rfl, congrArg Value.bool HNO.out.symm, nx HB2.out (nx HBR.out HB6.out)⟩
          | false =>
            have HDN : Hid (distP f.type f.set (kx + 1) = true) := distP_next HDP.out HX.out HFT.out hin
            rw [hin] at HIN
            clear hin
            go_upto_region 11 with (fail)
            go_region_held3 (fun w' => w'.cell? ⟨w.heap.size, 1, none⟩ = some (.int .i64 f.type) ∧ w'.cell? ⟨w.heap.size, 6, none⟩ = some (.slice (some ⟨b, off, none⟩) n ssc) ∧ w'.cell? ⟨b, off + kx * 5, none⟩ = some (.slice t.A0 d.bytes.length t.c0) ∧ w'.cell? ⟨b, off + kx * 5 + 1, none⟩ = some (.slice t.A1 d.host.length t.c1) ∧ w'.cell? ⟨b, off + kx * 5 + 2, none⟩ = some (.slice t.A2 d.mail.length t.c2) ∧ w'.cell? ⟨b, off + kx * 5 + 3, none⟩ = some (.slice t.A3 d.nums.length t.c3) ∧ w'.cell? ⟨b, off + kx * 5 + 4, none⟩ = some (.slice t.A4 d.texts.length t.c4))
              (first | with_reducible exact y0 | with_reducible exact y1 | with_reducible exact y2 | with_reducible exact y3 | fail)
              (first
                | (go_at_call 77; (with_reducible refine (HIN.out w5 HB5.out).mono ?_); rintro e w6 ⟨v6, rfl, rfl, hb6⟩; have HB6 : Hid (Below wr.heap.size wr w6) := (nx HB5.out hb6); have y3 := HK7.out w6 HB6.out)
                | (go_at_call 76; (first | (with_reducible refine (HDT.out wr.drew bl.drew).mono ?_) | (with_reducible refine (HDT.out wr bl).mono ?_)); rintro e w5 ⟨v5, rfl, rfl, hb5⟩; have HB5 : Hid (Below wr.heap.size wr w5) := (nx bl.drew hb5); have y2 := HK7.out w5 HB5.out)
                | fail)
            go_wp2
            go_roundw
            case rel => exact ⟨kx + 1, by go_num, by have := HLT.out; omega, HDN.out, nx HBR.out HB6.out⟩
            case measure => have := HLT.out; simp [intOf]; omega
      · have hie : kx = n := by omega
        subst hie
        have HYES : Hid (R = true) := by show _ = _; rw [HV2.out]; exact HDP.out
        go_wp2
        go_ret
        exact ⟨_, rfl, congrArg Value.bool HYES.out.symm, nx HB2.out HBR.out⟩

end Go.Proofs.Ytimkdpkhdbiniaa
