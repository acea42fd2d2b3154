/- Parts of a proof, joined: CdR4. -/
import Derived.Deep.DeepMust
import Derived.Test.YtimkdpkhdbiniaaSDR2
import Derived.Test.YtimkdpkhdbiniaaSDF01
/- code's reader, whatever the bytes: a fact (printed by gen/cdr4.py). -/
namespace Go.Proofs.Ytimkdpkhdbiniaa
open Go.RowKit
set_option maxRecDepth 100000
set_option linter.unusedVariables false

def rf6 (b : List UInt8) (ls : List (List UInt8)) (t k r g l : Int) (p : Nat) : Option (Fa × Nat) :=
  if k = 1 then
    (if typedB t then (rdN b p 1).bind fun x7 => (rdDatas b t x7.1.toNat x7.2 []).bind fun x8 => some (⟨ls, t, k, r, g, l, x8.1, [], Da.zero⟩, x8.2)
     else none)
  else (rdName b p).bind fun x7 => (rdData b x7.2 6).bind fun x8 => some (⟨ls, t, k, r, g, l, [], x7.1, x8.1⟩, x8.2)
def rf5 (b : List UInt8) (ls : List (List UInt8)) (t k r g : Int) (p : Nat) : Option (Fa × Nat) := (rdN b p 4).bind fun x => rf6 b ls t k r g x.1 x.2
def rf4 (b : List UInt8) (ls : List (List UInt8)) (t k r : Int) (p : Nat) : Option (Fa × Nat) := (rdN b p 7).bind fun x => rf5 b ls t k r x.1 x.2
def rf3 (b : List UInt8) (ls : List (List UInt8)) (t k : Int) (p : Nat) : Option (Fa × Nat) := (rdN b p 1).bind fun x => rf4 b ls t k x.1 x.2
def rf2 (b : List UInt8) (ls : List (List UInt8)) (t : Int) (p : Nat) : Option (Fa × Nat) := (rdN b p 1).bind fun x => rf3 b ls t x.1 x.2
def rf1 (b : List UInt8) (ls : List (List UInt8)) (p : Nat) : Option (Fa × Nat) := (rdN b p 2).bind fun x => rf2 b ls x.1 x.2
theorem rdFact_eq (b : List UInt8) (p : Nat) : rdFact b p = (rdName b p).bind fun x => rf1 b x.1 x.2 := rfl
theorem rdDatas_none {b : List UInt8} {k : Int} {n p : Nat} {acc : List Da} (h : rdData b p k = none) : rdDatas b k (n + 1) p acc = none := by rw [rdDatas, h]; rfl
theorem rdDatas_some {b : List UInt8} {k : Int} {n p q : Nat} {acc : List Da} {d : Da} (h : rdData b p k = some (d, q)) : rdDatas b k (n + 1) p acc = rdDatas b k n q (acc ++ [d]) := by rw [rdDatas, h]; rfl
theorem bind_none {α β : Type} {x : Option α} {f : α → Option β} (h : x = none) : x.bind f = none := by rw [h]; rfl
theorem bind_some {α β : Type} {x : Option α} {f : α → Option β} {a : α} (h : x = some a) : x.bind f = f a := by rw [h]; rfl
theorem typed_lt {k : Int} (h : typedB k = true) : 1 ≤ k ∧ k ≤ 65535 := by
  unfold typedB at h
  simp only [Bool.and_eq_true, decide_eq_true_eq] at h
  exact ⟨h.1.1.1, by omega⟩
theorem rdN_val {b : List UInt8} {p k q : Nat} {n : Int} (h7 : k ≤ 7) (h : rdN b p k = some (n, q)) : i64S n := by
  unfold rdN at h
  split at h
  · cases h
  · injection h with h
    injection h with h1 h2
    rw [← h1]
    exact rdN_i64 h7
theorem rdN_nat {b : List UInt8} {p k q : Nat} {n : Int} (h : rdN b p k = some (n, q)) : ∃ m : Nat, n = (m : Int) ∧ m < 256 ^ k := by
  unfold rdN at h
  split at h
  · cases h
  · injection h with h
    injection h with h1 h2
    exact ⟨_, h1.symm, numA_lt⟩

/-- What a call of the reader for a fact leaves. -/
def FaGot (B : Nat) (v : Value) (w' : World) (f : Fa) : Prop := ∃ s, v = faV s f ∧ FaIn (geS B w') w' s f
set_option maxHeartbeats 400000 in
theorem cfact_end {w w4 : World} {p q : Nat} {bv : Value} {s : FS} {f : Fa} (h : CfSt w w4 p bv q s f) :
    ∃ w5, w5 = put13 w4 w.heap.size (.slice s.A f.name.length s.ac) (.int .i64 f.type) (.int .i64 f.kind) (.int .i64 f.rank) (.int .i64 f.got) (.int .i64 f.ttl) (.slice s.S f.set.length s.sc) (.slice s.Z f.zone.length s.zc) (.slice s.d.A0 f.soa.bytes.length s.d.c0) (.slice s.d.A1 f.soa.host.length s.d.c1) (.slice s.d.A2 f.soa.mail.length s.d.c2) (.slice s.d.A3 f.soa.nums.length s.d.c3) (.slice s.d.A4 f.soa.texts.length s.d.c4) ∧ FaRow w5 w.heap.size s f ∧ FaGot w.heap.size (faV s f) w5 f ∧ CRd w5 p bv (q : Int) ∧ Chg (fun k => k = p) w w5 := by
  refine ⟨_, rfl, FaRow.fill h.R s f, ⟨s, rfl, ?_⟩, (chg13 _ _ _ _ _ _ _ _ _ _ _ _ _ _ _).heap h.P (by have := h.lt; omega), h.C.trans (chg13 _ _ _ _ _ _ _ _ _ _ _ _ _ _ _) (fun z hz => .inr (by omega))⟩
  exact (h.I.ge (chg13 _ _ _ _ _ _ _ _ _ _ _ _ _ _ _) (fun k h1 _ e => by omega)).mono (fun b hb => ⟨by have := hb.1; omega, hb.2⟩)


set_option maxHeartbeats 16000000 in
theorem cfact_any (w : World) (p : Nat) (A : Option Addr) (n c pos : Nat) (bs : List UInt8) (h : CRd w p (.slice A n c) (pos : Int)) (hr : RdB w A n bs) (ho : offA A p) (hfl : FlatA w A) (hn : n ≤ c) (hc : c ≤ 9223372036854775807) (hn2 : n ≤ 100000000) :
    Calls Try.prog 117 #[.pointer (some ⟨p, 0, none⟩)] w (CdX (rdFact bs pos) (FaGot w.heap.size) w p (.slice A n c)) := by
  obtain ⟨w0, hw0⟩ : ∃ w0, w0 = w.alloc (.cells (faCells FS.nil Fa.zero) 48) := ⟨_, rfl⟩
  have ST0 : Hid (CfSt w w0 p (.slice A n c) pos FS.nil Fa.zero) := by show CfSt _ _ _ _ _ _ _; rw [hw0]; exact CfSt.start h
  have HPL := Lib.hid h.lt
  have HRD : Hid (∀ u, Chg (fun k => k = p) w u → RdB u A n bs) := fun u hu => RdB.chgP hr hu ho
  have HFL : Hid (∀ u, w.heap.size ≤ u.heap.size → FlatA u A) := fun u hu => hfl.le hu
  have HO := Lib.hid ho
  have HE0 := Lib.hid (rdFact_eq bs pos)
  unfold faCells at hw0
  clear h hr ho hfl
  go_enter Try.func117, Try.ntmps117
  go_upto_region 1 with (fail)
  simp only [FS.nil, Fa.zero, Da.zero, DS.nil, List.length_nil] at hw0
  rw [← hw0]
  clear hw0
  have kf := ST0.out.R.free
  cases hx : rdName bs pos with
  | none =>
    have HX := Lib.hid hx
    have HE : Hid (rdFact bs pos = none) := HE0.out.trans (bind_none hx)
    clear hx
    go_wp2_with (first
      | (go_at_call 118; refine (cname_any w0 p A n c pos bs ST0.out.P (HRD.out _ ST0.out.C) hn hn2).mono ?_; rw [HX.out]; rintro e w1 ⟨rfl, hc1⟩)
      | fail)
    rw [HE.out]
    exact ⟨rfl, rfl, ST0.out.C.trans hc1 (fun _ h => .inl h)⟩
  | some r1 =>
  obtain ⟨ls, q1⟩ := r1
  have HX := Lib.hid hx
  have HE1 : Hid (rdFact bs pos = rf1 bs ls q1) := HE0.out.trans (bind_some hx)
  clear hx
  go_upto_region 2 with (first
    | (go_at_call 118; refine (cname_any w0 p A n c pos bs ST0.out.P (HRD.out _ ST0.out.C) hn hn2).mono ?_; rw [HX.out]; rintro e w1 ⟨v1, rfl, ho1, h1, hc1⟩; have ST1 := Lib.hid (ST0.out.call h1 hc1); have HO1 := Lib.hid ho1; have kf1 := ST1.out.R.free; have g0 : w1.cell? ⟨w.heap.size, 0, none⟩ = some (.slice none 0 0) := (ST1.out.R.cell 0).trans rfl; obtain ⟨A1, k1, hv1, _⟩ := OwnE.form ho1; subst hv1; clear ho1 h1 hc1)
    | fail)
  obtain ⟨u1, hu1⟩ : ∃ u, u = w1.setCell ⟨w.heap.size, 0, none⟩ (.slice A1 ls.length k1) := ⟨_, rfl⟩
  have SU1 : Hid (CfSt w u1 p (.slice A n c) q1 ⟨A1, k1, none, 0, none, 0, DS.nil⟩ ⟨ls, 0, 0, 0, 0, 0, [], [], Da.zero⟩) := by show CfSt _ _ _ _ _ _ _; rw [hu1]; exact ST1.out.putN (by have := ST0.out.size; omega) HO1.out
  rw [← hu1]
  clear hu1 g0 kf kf1 HO1 ST1 ST0 HX HE0
  cases hx : rdN bs q1 2 with
  | none =>
    have HX := Lib.hid hx
    have HE : Hid (rdFact bs pos = none) := HE1.out.trans (bind_none hx)
    clear hx
    go_wp2_with (first
      | (go_at_call 116; refine (cnum_any u1 p A n c q1 bs 2 2 rfl (by decide) (by decide) SU1.out.P (HRD.out _ SU1.out.C) hn hn2).mono ?_; rw [HX.out]; rintro e w1 ⟨rfl, hc1⟩)
      | fail)
    rw [HE.out]
    exact ⟨rfl, rfl, SU1.out.C.trans hc1 (fun _ h => .inl h)⟩
  | some r2 =>
  obtain ⟨t, q2⟩ := r2
  have HX := Lib.hid hx
  have HV2 := Lib.hid (rdN_val (by decide) hx)
  have HE2 : Hid (rdFact bs pos = rf2 bs ls t q2) := HE1.out.trans (bind_some hx)
  clear hx
  go_upto_region 3 with (first
    | (go_at_call 116; refine (cnum_any u1 p A n c q1 bs 2 2 rfl (by decide) (by decide) SU1.out.P (HRD.out _ SU1.out.C) hn hn2).mono ?_; rw [HX.out]; rintro e w2 ⟨v1, rfl, rfl, h1, hc1⟩; have ST2 := Lib.hid (SU1.out.call h1 hc1); have kf2 := ST2.out.R.free; have g0 : w2.cell? ⟨w.heap.size, 1, none⟩ = some (.int .i64 0) := (ST2.out.R.cell 1).trans rfl; clear h1 hc1)
    | fail)
  obtain ⟨u2, hu2⟩ : ∃ u, u = w2.setCell ⟨w.heap.size, 1, none⟩ (.int .i64 t) := ⟨_, rfl⟩
  have SU2 : Hid (CfSt w u2 p (.slice A n c) q2 ⟨A1, k1, none, 0, none, 0, DS.nil⟩ ⟨ls, t, 0, 0, 0, 0, [], [], Da.zero⟩) := by show CfSt _ _ _ _ _ _ _; rw [hu2]; exact ST2.out.put1 HV2.out
  rw [← hu2]
  clear hu2 g0 kf2 ST2 SU1 HX HV2 HE1
  cases hx : rdN bs q2 1 with
  | none =>
    have HX := Lib.hid hx
    have HE : Hid (rdFact bs pos = none) := HE2.out.trans (bind_none hx)
    clear hx
    go_wp2_with (first
      | (go_at_call 116; refine (cnum_any u2 p A n c q2 bs 1 1 rfl (by decide) (by decide) SU2.out.P (HRD.out _ SU2.out.C) hn hn2).mono ?_; rw [HX.out]; rintro e w1 ⟨rfl, hc1⟩)
      | fail)
    rw [HE.out]
    exact ⟨rfl, rfl, SU2.out.C.trans hc1 (fun _ h => .inl h)⟩
  | some r3 =>
  obtain ⟨k, q3⟩ := r3
  have HX := Lib.hid hx
  have HV3 := Lib.hid (rdN_val (by decide) hx)
  have HE3 : Hid (rdFact bs pos = rf3 bs ls t k q3) := HE2.out.trans (bind_some hx)
  clear hx
  go_upto_region 4 with (first
    | (go_at_call 116; refine (cnum_any u2 p A n c q2 bs 1 1 rfl (by decide) (by decide) SU2.out.P (HRD.out _ SU2.out.C) hn hn2).mono ?_; rw [HX.out]; rintro e w3 ⟨v1, rfl, rfl, h1, hc1⟩; have ST3 := Lib.hid (SU2.out.call h1 hc1); have kf3 := ST3.out.R.free; have g0 : w3.cell? ⟨w.heap.size, 2, none⟩ = some (.int .i64 0) := (ST3.out.R.cell 2).trans rfl; clear h1 hc1)
    | fail)
  obtain ⟨u3, hu3⟩ : ∃ u, u = w3.setCell ⟨w.heap.size, 2, none⟩ (.int .i64 k) := ⟨_, rfl⟩
  have SU3 : Hid (CfSt w u3 p (.slice A n c) q3 ⟨A1, k1, none, 0, none, 0, DS.nil⟩ ⟨ls, t, k, 0, 0, 0, [], [], Da.zero⟩) := by show CfSt _ _ _ _ _ _ _; rw [hu3]; exact ST3.out.put2 HV3.out
  rw [← hu3]
  clear hu3 g0 kf3 ST3 SU2 HX HV3 HE2
  cases hx : rdN bs q3 1 with
  | none =>
    have HX := Lib.hid hx
    have HE : Hid (rdFact bs pos = none) := HE3.out.trans (bind_none hx)
    clear hx
    go_wp2_with (first
      | (go_at_call 116; refine (cnum_any u3 p A n c q3 bs 1 1 rfl (by decide) (by decide) SU3.out.P (HRD.out _ SU3.out.C) hn hn2).mono ?_; rw [HX.out]; rintro e w1 ⟨rfl, hc1⟩)
      | fail)
    rw [HE.out]
    exact ⟨rfl, rfl, SU3.out.C.trans hc1 (fun _ h => .inl h)⟩
  | some r4 =>
  obtain ⟨r, q4⟩ := r4
  have HX := Lib.hid hx
  have HV4 := Lib.hid (rdN_val (by decide) hx)
  have HE4 : Hid (rdFact bs pos = rf4 bs ls t k r q4) := HE3.out.trans (bind_some hx)
  clear hx
  go_upto_region 5 with (first
    | (go_at_call 116; refine (cnum_any u3 p A n c q3 bs 1 1 rfl (by decide) (by decide) SU3.out.P (HRD.out _ SU3.out.C) hn hn2).mono ?_; rw [HX.out]; rintro e w4 ⟨v1, rfl, rfl, h1, hc1⟩; have ST4 := Lib.hid (SU3.out.call h1 hc1); have kf4 := ST4.out.R.free; have g0 : w4.cell? ⟨w.heap.size, 3, none⟩ = some (.int .i64 0) := (ST4.out.R.cell 3).trans rfl; clear h1 hc1)
    | fail)
  obtain ⟨u4, hu4⟩ : ∃ u, u = w4.setCell ⟨w.heap.size, 3, none⟩ (.int .i64 r) := ⟨_, rfl⟩
  have SU4 : Hid (CfSt w u4 p (.slice A n c) q4 ⟨A1, k1, none, 0, none, 0, DS.nil⟩ ⟨ls, t, k, r, 0, 0, [], [], Da.zero⟩) := by show CfSt _ _ _ _ _ _ _; rw [hu4]; exact ST4.out.put3 HV4.out
  rw [← hu4]
  clear hu4 g0 kf4 ST4 SU3 HX HV4 HE3
  cases hx : rdN bs q4 7 with
  | none =>
    have HX := Lib.hid hx
    have HE : Hid (rdFact bs pos = none) := HE4.out.trans (bind_none hx)
    clear hx
    go_wp2_with (first
      | (go_at_call 116; refine (cnum_any u4 p A n c q4 bs 7 7 rfl (by decide) (by decide) SU4.out.P (HRD.out _ SU4.out.C) hn hn2).mono ?_; rw [HX.out]; rintro e w1 ⟨rfl, hc1⟩)
      | fail)
    rw [HE.out]
    exact ⟨rfl, rfl, SU4.out.C.trans hc1 (fun _ h => .inl h)⟩
  | some r5 =>
  obtain ⟨g, q5⟩ := r5
  have HX := Lib.hid hx
  have HV5 := Lib.hid (rdN_val (by decide) hx)
  have HE5 : Hid (rdFact bs pos = rf5 bs ls t k r g q5) := HE4.out.trans (bind_some hx)
  clear hx
  go_upto_region 6 with (first
    | (go_at_call 116; refine (cnum_any u4 p A n c q4 bs 7 7 rfl (by decide) (by decide) SU4.out.P (HRD.out _ SU4.out.C) hn hn2).mono ?_; rw [HX.out]; rintro e w5 ⟨v1, rfl, rfl, h1, hc1⟩; have ST5 := Lib.hid (SU4.out.call h1 hc1); have kf5 := ST5.out.R.free; have g0 : w5.cell? ⟨w.heap.size, 4, none⟩ = some (.int .i64 0) := (ST5.out.R.cell 4).trans rfl; clear h1 hc1)
    | fail)
  obtain ⟨u5, hu5⟩ : ∃ u, u = w5.setCell ⟨w.heap.size, 4, none⟩ (.int .i64 g) := ⟨_, rfl⟩
  have SU5 : Hid (CfSt w u5 p (.slice A n c) q5 ⟨A1, k1, none, 0, none, 0, DS.nil⟩ ⟨ls, t, k, r, g, 0, [], [], Da.zero⟩) := by show CfSt _ _ _ _ _ _ _; rw [hu5]; exact ST5.out.put4 HV5.out
  rw [← hu5]
  clear hu5 g0 kf5 ST5 SU4 HX HV5 HE4
  cases hx : rdN bs q5 4 with
  | none =>
    have HX := Lib.hid hx
    have HE : Hid (rdFact bs pos = none) := HE5.out.trans (bind_none hx)
    clear hx
    go_wp2_with (first
      | (go_at_call 116; refine (cnum_any u5 p A n c q5 bs 4 4 rfl (by decide) (by decide) SU5.out.P (HRD.out _ SU5.out.C) hn hn2).mono ?_; rw [HX.out]; rintro e w1 ⟨rfl, hc1⟩)
      | fail)
    rw [HE.out]
    exact ⟨rfl, rfl, SU5.out.C.trans hc1 (fun _ h => .inl h)⟩
  | some r6 =>
  obtain ⟨l, q6⟩ := r6
  have HX := Lib.hid hx
  have HV6 := Lib.hid (rdN_val (by decide) hx)
  have HE6 : Hid (rdFact bs pos = rf6 bs ls t k r g l q6) := HE5.out.trans (bind_some hx)
  clear hx
  go_upto_region 7 with (first
    | (go_at_call 116; refine (cnum_any u5 p A n c q5 bs 4 4 rfl (by decide) (by decide) SU5.out.P (HRD.out _ SU5.out.C) hn hn2).mono ?_; rw [HX.out]; rintro e w6 ⟨v1, rfl, rfl, h1, hc1⟩; have ST6 := Lib.hid (SU5.out.call h1 hc1); have kf6 := ST6.out.R.free; have g0 : w6.cell? ⟨w.heap.size, 5, none⟩ = some (.int .i64 0) := (ST6.out.R.cell 5).trans rfl; clear h1 hc1)
    | fail)
  obtain ⟨u6, hu6⟩ : ∃ u, u = w6.setCell ⟨w.heap.size, 5, none⟩ (.int .i64 l) := ⟨_, rfl⟩
  have SU6 : Hid (CfSt w u6 p (.slice A n c) q6 ⟨A1, k1, none, 0, none, 0, DS.nil⟩ ⟨ls, t, k, r, g, l, [], [], Da.zero⟩) := by show CfSt _ _ _ _ _ _ _; rw [hu6]; exact ST6.out.put5 HV6.out
  rw [← hu6]
  clear hu6 g0 kf6 ST6 SU5 HX HV6 HE5
  have x2 : u6.cell? ⟨w.heap.size, 2, none⟩ = some (.int .i64 k) := (SU6.out.R.cell 2).trans rfl
  by_cases hk : k = 1
  · have hkb : (k != 1) = false := by simp [hk]
    have HE7 : Hid (rdFact bs pos = if typedB t then (rdN bs q6 1).bind fun x7 => (rdDatas bs t x7.1.toNat x7.2 []).bind fun x8 => some (⟨ls, t, k, r, g, l, x8.1, [], Da.zero⟩, x8.2) else none) := HE6.out.trans (by unfold rf6; rw [if_pos hk])
    clear hk HE6
    have x1 : u6.cell? ⟨w.heap.size, 1, none⟩ = some (.int .i64 t) := (SU6.out.R.cell 1).trans rfl
    cases hty : typedB t with
    | false =>
      have HTY := Lib.hid hty
      have HE : Hid (rdFact bs pos = none) := HE7.out.trans (by rw [hty]; rfl)
      clear hty
      go_wp2_with (first
        | (go_at_call 106; refine (typed_any t u6).mono ?_; rw [HTY.out]; rintro e w1 ⟨rfl, rfl⟩)
        | (go_at_call 162; refine (cmust_bad _ 2 (by decide)).mono ?_; rintro e w3 ⟨rfl, rfl⟩)
        | fail)
      rw [HE.out]
      exact ⟨rfl, rfl, SU6.out.C⟩
    | true =>
    have HTY := Lib.hid hty
    have HTL := Lib.hid (typed_lt hty)
    cases hx : rdN bs q6 1 with
    | none =>
      have HX := Lib.hid hx
      have HE : Hid (rdFact bs pos = none) := HE7.out.trans (by rw [hty, hx]; rfl)
      clear hx hty
      go_wp2_with (first
        | (go_at_call 106; refine (typed_any t u6).mono ?_; rw [HTY.out]; rintro e w1 ⟨rfl, rfl⟩)
        | (go_at_call 116; refine (cnum_any u6 p A n c q6 bs 1 1 rfl (by decide) (by decide) SU6.out.P (HRD.out _ SU6.out.C) hn hn2).mono ?_; rw [HX.out]; rintro e w1 ⟨rfl, hc1⟩)
        | fail)
      rw [HE.out]
      exact ⟨rfl, rfl, SU6.out.C.trans hc1 (fun _ h => .inl h)⟩
    | some r7 =>
    obtain ⟨N', q7⟩ := r7
    obtain ⟨N, hNN, hN⟩ := rdN_nat hx
    subst hNN
    have hN : N < 256 := hN
    have HX := Lib.hid hx
    have HE8 : Hid (rdFact bs pos = (rdDatas bs t N q7 []).bind fun x8 => some (⟨ls, t, k, r, g, l, x8.1, [], Da.zero⟩, x8.2)) := HE7.out.trans (by rw [hty, hx]; rfl)
    clear hx hty HE7
    go_upto_region 14 with (first
      | (go_at_call 106; refine (typed_any t u6).mono ?_; rw [HTY.out]; rintro e w1 ⟨rfl, rfl⟩)
      | (go_at_call 116; refine (cnum_any u6 p A n c q6 bs 1 1 rfl (by decide) (by decide) SU6.out.P (HRD.out _ SU6.out.C) hn hn2).mono ?_; rw [HX.out]; rintro e w7 ⟨v1, rfl, rfl, h1, hc1⟩; have ST7 := Lib.hid (SU6.out.call h1 hc1); clear h1 hc1)
      | fail)
    clear x1 x2 HX
    have HL7 : Hid (CfL w w7 p (.slice A n c) q7 w7.heap.size ⟨A1, k1, none, 0, none, 0, DS.nil⟩ ⟨ls, t, k, r, g, l, [], [], Da.zero⟩ none 0 []) := CfL.start (f := ⟨ls, t, k, r, g, l, [], [], Da.zero⟩) ST7.out
    obtain ⟨B, hB⟩ : ∃ B, B = w7.heap.size := ⟨_, rfl⟩
    rw [← hB] at HL7
    clear hB ST7
    go_loopw [38] (fun iv wr => ∃ (a b pk : Nat) (acc : List Da) (A8 : Option Addr) (c8 : Nat), iv = .int .i64 (a : Int) ∧ a + b = N ∧ Hid (CfL w wr p (.slice A n c) pk B ⟨A1, k1, none, 0, none, 0, DS.nil⟩ ⟨ls, t, k, r, g, l, [], [], Da.zero⟩ A8 c8 acc) ∧ Hid (NewE encDa 46 B wr (.slice A8 acc.length c8) acc) ∧ Hid (acc.length ≤ a) ∧ Hid (rdDatas bs t N q7 [] = rdDatas bs t b pk acc)) (fun iv _ => N - (intOf iv).toNat)
    case atStart => exact ⟨0, N, q7, [], none, 0, rfl, Nat.zero_add _, HL7.out, NewE.nil _ _ _ _, Nat.le_refl _, rfl⟩
    case round =>
      obtain ⟨a, b, pk, acc, A8, c8, rfl, hab, HS, HOWN, HAL, HD⟩ := hrel
      rcases b with _ | b
      · have haN : ¬ (a : Int) < (N : Int) := by omega
        have HE9 : Hid (rdFact bs pos = some (⟨ls, t, k, r, g, l, acc, [], Da.zero⟩, pk)) := HE8.out.trans (bind_some HD.out)
        have HS9 : Hid (CfSt w wr p (.slice A n c) pk ⟨A1, k1, A8, c8, none, 0, DS.nil⟩ ⟨ls, t, k, r, g, l, acc, [], Da.zero⟩) := HS.out.done HOWN.out
        clear HS HOWN
        obtain ⟨x0, x1, x2, x3, x4, x5, x6, x7, x8, x9, x10, x11, x12⟩ := HS9.out.R.cells
        have kf := HS9.out.R.free
        simp only [DS.nil, Da.zero, List.length_nil] at x0 x6 x7 x8 x9 x10 x11 x12
        go_wp2
        obtain ⟨w5, hw5, hR5, hG5, hP5, hC5⟩ := cfact_end HS9.out
        unfold put13 at hw5
        simp only [DS.nil, Da.zero, List.length_nil] at hw5
        rw [← hw5]
        clear hw5 x0 x1 x2 x3 x4 x5 x6 x7 x8 x9 x10 x11 x12 kf
        obtain ⟨x0, x1, x2, x3, x4, x5, x6, x7, x8, x9, x10, x11, x12⟩ := hR5.cells
        refine bodyPost_ret (v := faV ⟨A1, k1, A8, c8, none, 0, DS.nil⟩ ⟨ls, t, k, r, g, l, acc, [], Da.zero⟩) ?_ rfl (by rw [HE9.out]; exact ⟨_, rfl, hG5, hP5, hC5⟩)
        simp [results, Try.results117, go_sem, faV, faCells, DS.nil, Da.zero, x0, x1, x2, x3, x4, x5, x6, x7, x8, x9, x10, x11, x12]
      · have haN : (a : Int) < (N : Int) := by omega
        have x1 : wr.cell? ⟨w.heap.size, 1, none⟩ = some (.int .i64 t) := (HS.out.R.cell 1).trans rfl
        have x6 : wr.cell? ⟨w.heap.size, 6, none⟩ = some (.slice A8 acc.length c8) := (HS.out.R.cell 6).trans rfl
        have d1 := below_cell bl.drew x1
        have d6 := below_cell bl.drew x6
        cases hx : rdData bs pk t with
        | none =>
          have HX := Lib.hid hx
          have HE : Hid (rdFact bs pos = none) := HE8.out.trans (bind_none (HD.out.trans (rdDatas_none hx)))
          clear hx
          have HFIN : Hid (∀ w2, Chg (fun z => z = p) wr.drew w2 → CdX (rdFact bs pos) (FaGot w.heap.size) w p (.slice A n c) (.panicked (pnc 14)) w2) := fun w2 h2 => by
            rw [HE.out]
            exact ⟨rfl, HS.out.C.drew.trans h2 (fun _ h => .inl h)⟩
          go_upto_region 15 with (fail)
          refine wp_region_any (by kernel_rfl) ?_
          change wpAny _ _ _ _ _ _ _ (World.drew wr)
          refine wpAny_take (i := 0) (v := .pointer (some ⟨w.heap.size, 6, none⟩)) rfl (by kernel_rfl) (by kernel_rfl) (by kernel_rfl) (fun _ _ _ h => h) (Or.inl ⟨by rfl, by (intro w; go_simp)⟩) ?_
          refine wpAny_take (i := 2) (v := .pointer (some ⟨p, 0, none⟩)) rfl (by kernel_rfl) (by kernel_rfl) (by kernel_rfl) (fun _ _ _ h => h) (Or.inl ⟨by rfl, by (intro w; go_simp)⟩) ?_
          refine wpAny_take (i := 3) (v := .pointer (some ⟨w.heap.size, 1, none⟩)) rfl (by kernel_rfl) (by kernel_rfl) (by kernel_rfl) (fun _ _ _ h => h) (Or.inl ⟨by rfl, by (intro w; go_simp)⟩) ?_
          refine wpAny_ready (rs := [1, 4]) (by kernel_rfl) (by simp) ?_
          refine AllReady.cons rfl (fun K hK => ?_) (AllReady.cons rfl (fun K hK => ?_) AllReady.nil)
          · go_simp
            refine hK _ _ ?_
            refine wpAny_ready (rs := [4]) (by kernel_rfl) (by simp) ?_
            refine AllReady.cons rfl (fun K hK => ?_) AllReady.nil
            go_simp
            refine hK _ _ ?_
            refine wpAny_ready (rs := [5]) (by kernel_rfl) (by simp) ?_
            refine AllReady.cons rfl (fun K hK => ?_) AllReady.nil
            go_simp
            refine (cdat_any _ p A n c pk bs t HTL.out.1 HTL.out.2 (HS.out.P.below bl.drew) ((HRD.out _ HS.out.C).below bl.drew) HO.out (HFL.out _ HS.out.C.size) hn hc hn2).mono ?_
            rw [HX.out]
            rintro e w2 ⟨rfl, hc2⟩
            exact ⟨rfl, HFIN.out w2 hc2⟩
          · go_simp
            refine hK _ _ ?_
            refine wpAny_ready (rs := [1, 5]) (by kernel_rfl) (by simp) ?_
            refine AllReady.cons rfl (fun K hK => ?_) (AllReady.cons rfl (fun K hK => ?_) AllReady.nil)
            · go_simp
              refine hK _ _ ?_
              refine wpAny_ready (rs := [5]) (by kernel_rfl) (by simp) ?_
              refine AllReady.cons rfl (fun K hK => ?_) AllReady.nil
              go_simp
              refine (cdat_any _ p A n c pk bs t HTL.out.1 HTL.out.2 (HS.out.P.below bl.drew) ((HRD.out _ HS.out.C).below bl.drew) HO.out (HFL.out _ HS.out.C.size) hn hc hn2).mono ?_
              rw [HX.out]
              rintro e w2 ⟨rfl, hc2⟩
              exact ⟨rfl, HFIN.out w2 hc2⟩
            · go_simp
              refine (cdat_any _ p A n c pk bs t HTL.out.1 HTL.out.2 (HS.out.P.below bl.drew) ((HRD.out _ HS.out.C).below bl.drew) HO.out (HFL.out _ HS.out.C.size) hn hc hn2).mono ?_
              rw [HX.out]
              rintro e w2 ⟨rfl, hc2⟩
              exact ⟨rfl, HFIN.out w2 hc2⟩
        | some r8 =>
          obtain ⟨d, pk'⟩ := r8
          have HX := Lib.hid hx
          have HD2 := Lib.hid (HD.out.trans (rdDatas_some hx))
          clear hx
          have hal : acc.length ≤ 255 := by have := HAL.out; omega
          have HAL2 := Lib.hid hal
          obtain ⟨SO, hso, hSO⟩ := HOWN.out
          have HSO : Hid (∀ b, SO b → B ≤ b) := hSO
          have HLT := Lib.hid hso.lt
          have HGE := Lib.hid HS.out.hi
          have HLO := Lib.hid HS.out.lo
          have HOW1 : Hid (∀ w2, Chg (fun z => z = p) wr w2 → OwnE encDa 46 SO w2 B (.slice A8 acc.length c8) acc) := fun w2 h2 => hso.chg h2 (fun z hz e => by have h1 := (HLT.out z hz).1; have h2 := HPL.out; have h3 := HLO.out; omega) (fun z hz e => by have h1 := HSO.out z hz; have h2 := HPL.out; have h3 := HLO.out; omega)
          clear hal hso hSO
          go_upto_region 15 with (fail)
          go_region_law
            (first
              | (go_simp; go_at_call 163; refine (cdat_any _ p A n c pk bs t HTL.out.1 HTL.out.2 (HS.out.P.below bl.drew) ((HRD.out _ HS.out.C).below bl.drew) HO.out (HFL.out _ HS.out.C.size) hn hc hn2).mono ?_; rw [HX.out]; rintro e w2 ⟨v2, rfl, ⟨tt, rfl, hq2⟩, h2, hc2'⟩; unfold dsV; have hc2 : Chg (fun z => z = p) wr w2 := (Chg.refl _ _).drew.trans hc2' (fun _ h => .inl h); have HC2 := Lib.hid hc2; have HP2 := Lib.hid h2; have hrow : encDa.R (geS wr.heap.size w2) w2 [.slice tt.A0 d.bytes.length tt.c0, .slice tt.A1 d.host.length tt.c1, .slice tt.A2 d.mail.length tt.c2, .slice tt.A3 d.nums.length tt.c3, .slice tt.A4 d.texts.length tt.c4] d := ⟨tt, rfl, hq2.din⟩; have y6 := hc2.cell x6 (by have h1 := HPL.out; show ¬ w.heap.size = p; omega); have ya6 := below_cell (bl.alloc (Nat.le_refl _) (.cells #[.slice tt.A0 d.bytes.length tt.c0, .slice tt.A1 d.host.length tt.c1, .slice tt.A2 d.mail.length tt.c2, .slice tt.A3 d.nums.length tt.c3, .slice tt.A4 d.texts.length tt.c4] 46)) y6; have hown2 := HOW1.out w2 hc2; have hS3 : ∀ b, geS wr.heap.size w2 b → b < w2.heap.size ∧ some b ≠ (Value.slice A8 acc.length c8).ownBlock := (fun b hb => ⟨hb.2, fun e => by have h1 := (HLT.out b e.symm).2; have h2 := hb.1; omega⟩); clear hq2 h2 hc2')
              | (go_must (refine step_pushE elDa (by rfl) (.tmp 41) (.tmp 46) (by rfl) B (.slice A8 acc.length c8) acc (by rfl) hown2 [.slice tt.A0 d.bytes.length tt.c0, .slice tt.A1 d.host.length tt.c1, .slice tt.A2 d.mail.length tt.c2, .slice tt.A3 d.nums.length tt.c3, .slice tt.A4 d.texts.length tt.c4] d (S' := geS wr.heap.size w2) hrow hS3 (by rfl) (by have := HAL2.out; omega) (by have := HAL2.out; unfold maxLen; omega) (Nat.le_trans HGE.out hc2.size) ?_ (by rfl); intro v5 w5 hown5 hg5 hv5; have hch5 : Chg (fun z => (Value.slice A8 acc.length c8).ownBlock = some z) w2 w5 := (Chg.refl _ _).grown hg5 (fun k hk => .inl hk); have z6 := hch5.cell y6 (fun e => by have h1 : B ≤ w.heap.size := (HLT.out _ e).1; have h3 := HLO.out; omega); obtain ⟨A5, c5, rfl, _⟩ := hown5.form; have f6' : w5.frozen? ⟨w.heap.size, 6, none⟩ = false := frozen_of_row _ _ _ _ _ (hch5.heap (hc2.heap HS.out.R (by have h1 := HPL.out; show ¬ w.heap.size = p; omega)) (fun e => by have h1 : B ≤ w.heap.size := (HLT.out _ e).1; have h3 := HLO.out; omega))))
              | fail)
          all_goals
            have hlen : (acc ++ [d]).length = acc.length + 1 := by rw [List.length_append, List.length_singleton]
            have hS2 := HS.out.call HP2.out HC2.out
            have hS6 := hS2.grow (A5 := A5) (c5 := c5) (acc' := acc ++ [d]) hch5 (fun z hz => (HLT.out z hz).1)
            have hcu : Chg (fun z => z = w.heap.size) w5 (w5.setCell ⟨w.heap.size, 6, none⟩ (.slice A5 (acc ++ [d]).length c5)) := chg_g1 _ _ _ _
            have hO6 : NewE encDa 46 B (w5.setCell ⟨w.heap.size, 6, none⟩ (.slice A5 (acc ++ [d]).length c5)) (.slice A5 (acc ++ [d]).length c5) (acc ++ [d]) := by
              have hS6 : ∀ b, (orS SO (geS wr.heap.size w2)) b → B ≤ b := fun z hz => by
                rcases hz with hz | hz
                · exact HSO.out z hz
                · have h1 := hz.1; have h2 := HGE.out; omega
              exact ⟨orS SO (geS wr.heap.size w2), hown5.chg hcu (fun z hz e => by have h1 := (hown5.lt z hz).1; have h3 := HLO.out; omega) (fun z hz e => by have h1 := hS6 z hz; have h3 := HLO.out; omega), hS6⟩
            rw [hlen] at hS6 hO6
            have HS6 := Lib.hid hS6
            have HO6 := Lib.hid hO6
            clear hS6 hO6 hcu hS2 hown5 hg5 hv5 hch5 hown2 hS3 hrow y6 ya6 z6 f6' x1 x6 d1 d6 HOW1
            go_wp2
            go_roundw
            case rel => exact ⟨a + 1, b, pk', acc ++ [d], A5, c5, by go_num, by omega, HS6.out, by show NewE _ _ _ _ _ _; rw [hlen]; exact HO6.out, by show _ ≤ _; rw [hlen]; have := HAL.out; omega, HD2.out⟩
            case measure => simp [intOf]; omega
  · have hkb : (k != 1) = true := by simp [hk]
    have HE7 : Hid (rdFact bs pos = (rdName bs q6).bind fun x7 => (rdData bs x7.2 6).bind fun x8 => some (⟨ls, t, k, r, g, l, [], x7.1, x8.1⟩, x8.2)) := HE6.out.trans (by unfold rf6; rw [if_neg hk])
    clear hk HE6
    cases hx : rdName bs q6 with
    | none =>
      have HX := Lib.hid hx
      have HE : Hid (rdFact bs pos = none) := HE7.out.trans (bind_none hx)
      clear hx
      go_wp2_with (first
        | (go_at_call 118; refine (cname_any u6 p A n c q6 bs SU6.out.P (HRD.out _ SU6.out.C) hn hn2).mono ?_; rw [HX.out]; rintro e w1 ⟨rfl, hc1⟩)
        | fail)
      rw [HE.out]
      exact ⟨rfl, rfl, SU6.out.C.trans hc1 (fun _ h => .inl h)⟩
    | some r7 =>
    obtain ⟨zs, q7⟩ := r7
    have HX := Lib.hid hx
    have HE8 : Hid (rdFact bs pos = (rdData bs q7 6).bind fun x8 => some (⟨ls, t, k, r, g, l, [], zs, x8.1⟩, x8.2)) := HE7.out.trans (bind_some hx)
    clear hx HE7
    go_upto_region 9 with (first
      | (go_at_call 118; refine (cname_any u6 p A n c q6 bs SU6.out.P (HRD.out _ SU6.out.C) hn hn2).mono ?_; rw [HX.out]; rintro e w7 ⟨v1, rfl, ho1, h1, hc1⟩; have ST7 := Lib.hid (SU6.out.call h1 hc1); have HO7 := Lib.hid ho1; have kf7 := ST7.out.R.free; have g0 : w7.cell? ⟨w.heap.size, 7, none⟩ = some (.slice none 0 0) := (ST7.out.R.cell 7).trans rfl; obtain ⟨A7, k7, hv1, _⟩ := OwnE.form ho1; subst hv1; clear ho1 h1 hc1)
      | fail)
    obtain ⟨u7, hu7⟩ : ∃ u, u = w7.setCell ⟨w.heap.size, 7, none⟩ (.slice A7 zs.length k7) := ⟨_, rfl⟩
    have SU7 : Hid (CfSt w u7 p (.slice A n c) q7 ⟨A1, k1, none, 0, A7, k7, DS.nil⟩ ⟨ls, t, k, r, g, l, [], zs, Da.zero⟩) := by show CfSt _ _ _ _ _ _ _; rw [hu7]; exact ST7.out.putZ SU6.out.size HO7.out
    rw [← hu7]
    clear hu7 g0 kf7 ST7 HO7 HX x2
    cases hx : rdData bs q7 6 with
    | none =>
      have HX := Lib.hid hx
      have HE : Hid (rdFact bs pos = none) := HE8.out.trans (bind_none hx)
      clear hx
      go_wp2_with (first
        | (go_at_call 163; refine (cdat_any u7 p A n c q7 bs 6 (by decide) (by decide) SU7.out.P (HRD.out _ SU7.out.C) HO.out (HFL.out _ SU7.out.C.size) hn hc hn2).mono ?_; rw [HX.out]; rintro e w1 ⟨rfl, hc1⟩)
        | fail)
      rw [HE.out]
      exact ⟨rfl, rfl, SU7.out.C.trans hc1 (fun _ h => .inl h)⟩
    | some r8 =>
    obtain ⟨d, q8⟩ := r8
    have HX := Lib.hid hx
    have HE9 : Hid (rdFact bs pos = some (⟨ls, t, k, r, g, l, [], zs, d⟩, q8)) := HE8.out.trans (bind_some hx)
    clear hx HE8
    go_upto_region 10 with (first
      | (go_at_call 163; refine (cdat_any u7 p A n c q7 bs 6 (by decide) (by decide) SU7.out.P (HRD.out _ SU7.out.C) HO.out (HFL.out _ SU7.out.C.size) hn hc hn2).mono ?_; rw [HX.out]; rintro e w8 ⟨v1, rfl, ⟨t8, rfl, hd8⟩, h1, hc1⟩; unfold dsV; have ST8 := Lib.hid (SU7.out.call h1 hc1); have HD8 := Lib.hid hd8; have kf8 := ST8.out.R.free; have g8 : w8.cell? ⟨w.heap.size, 8, none⟩ = some (.slice none 0 0) := (ST8.out.R.cell 8).trans rfl; have g9 : w8.cell? ⟨w.heap.size, 9, none⟩ = some (.slice none 0 0) := (ST8.out.R.cell 9).trans rfl; have g10 : w8.cell? ⟨w.heap.size, 10, none⟩ = some (.slice none 0 0) := (ST8.out.R.cell 10).trans rfl; have g11 : w8.cell? ⟨w.heap.size, 11, none⟩ = some (.slice none 0 0) := (ST8.out.R.cell 11).trans rfl; have g12 : w8.cell? ⟨w.heap.size, 12, none⟩ = some (.slice none 0 0) := (ST8.out.R.cell 12).trans rfl; clear hd8 h1 hc1)
      | fail)
    obtain ⟨u8, hu8⟩ : ∃ u, u = putD w8 w.heap.size (.slice t8.A0 d.bytes.length t8.c0) (.slice t8.A1 d.host.length t8.c1) (.slice t8.A2 d.mail.length t8.c2) (.slice t8.A3 d.nums.length t8.c3) (.slice t8.A4 d.texts.length t8.c4) := ⟨_, rfl⟩
    have SU8 : Hid (CfSt w u8 p (.slice A n c) q8 ⟨A1, k1, none, 0, A7, k7, t8⟩ ⟨ls, t, k, r, g, l, [], zs, d⟩) := by show CfSt _ _ _ _ _ _ _; rw [hu8]; exact ST8.out.putSoa SU7.out.size HD8.out
    unfold putD at hu8
    rw [← hu8]
    clear hu8 kf8 ST8 HD8 HX g8 g9 g10 g11 g12
    obtain ⟨x0, x1, x2, x3, x4, x5, x6, x7, x8, x9, x10, x11, x12⟩ := SU8.out.R.cells
    have kf := SU8.out.R.free
    simp only [List.length_nil] at x0 x6 x7 x8 x9 x10 x11 x12
    go_wp2
    obtain ⟨w5, hw5, hR5, hG5, hP5, hC5⟩ := cfact_end SU8.out
    unfold put13 at hw5
    simp only [List.length_nil] at hw5
    rw [← hw5]
    clear hw5 x0 x1 x2 x3 x4 x5 x6 x7 x8 x9 x10 x11 x12 kf
    obtain ⟨x0, x1, x2, x3, x4, x5, x6, x7, x8, x9, x10, x11, x12⟩ := hR5.cells
    refine bodyPost_ret (v := faV ⟨A1, k1, none, 0, A7, k7, t8⟩ ⟨ls, t, k, r, g, l, [], zs, d⟩) ?_ rfl (by rw [HE9.out]; exact ⟨_, rfl, hG5, hP5, hC5⟩)
    simp [results, Try.results117, go_sem, faV, faCells, x0, x1, x2, x3, x4, x5, x6, x7, x8, x9, x10, x11, x12]
end Go.Proofs.Ytimkdpkhdbiniaa
