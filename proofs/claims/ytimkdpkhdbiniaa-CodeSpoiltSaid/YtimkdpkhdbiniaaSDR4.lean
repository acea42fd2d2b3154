/- Parts of a proof, joined: CdB, CdR5. -/
import Derived.Test.YtimkdpkhdbiniaaSDR3
import Derived.Test.YtimkdpkhdbiniaaSDM17r
import Derived.Test.YtimkdpkhdbiniaaSDF08
import Derived.Test.YtimkdpkhdbiniaaSDF15
/- How large an entry is that was read, in plain Lean. No program in it. -/
namespace Go.Proofs.Ytimkdpkhdbiniaa
open Go.RowKit
set_option maxRecDepth 100000
set_option linter.unusedVariables false

/-- Data as large as a type lets it be. -/
def SmD (d : Da) : Prop := d.host.length ≤ 255 ∧ d.mail.length ≤ 255 ∧ d.nums.length ≤ 5 ∧ d.texts.length ≤ 64 ∧ d.bytes.length ≤ 65535
theorem soundN_short {n : List (List UInt8)} (h : SoundN n) : n.length ≤ 255 := by have := sizeN_length n; have := h.2; omega
theorem hostP_small {b : Bool} {n : List (List UInt8)} (h : hostP b n) : n.length ≤ 255 := by
  unfold hostP at h
  split at h
  · exact soundN_short h
  · rw [h]; simp
theorem FineD.small {k : Int} {d : Da} (h : FineD k d) : SmD d := by
  obtain ⟨_, _, h2, h3, h4, h5, _, h7⟩ := h
  refine ⟨hostP_small h4, hostP_small h5, ?_, ?_, h2⟩
  · rcases shape_cases k with e | e | e | e | e | e | e | e <;> rw [e] at h3
    · have h3' : (d.nums.length : Int) = 0 := h3; omega
    · have h3' : (d.nums.length : Int) = 0 := h3; omega
    · have h3' : (d.nums.length : Int) = 0 := h3; omega
    · have h3' : (d.nums.length : Int) = 1 := h3; omega
    · have h3' : (d.nums.length : Int) = 5 := h3; omega
    · have h3' : (d.nums.length : Int) = 3 := h3; omega
    · have h3' : (d.nums.length : Int) = 0 := h3; omega
    · have h3' : (d.nums.length : Int) = 0 := h3; omega
  · unfold textsP at h7
    split at h7
    · exact h7.2.1
    · rw [h7]; simp
theorem rdName_short {b : List UInt8} {p q : Nat} {ls : List (List UInt8)} (h : rdName b p = some (ls, q)) : ls.length ≤ 255 := by
  unfold rdName at h
  split at h
  · cases h
  · injection h with h
    injection h with h1 h2
    rw [← h1]
    exact soundN_short (nameA_sound _ _)
theorem rdData_small {b : List UInt8} {p q : Nat} {k : Int} {d : Da} (h : rdData b p k = some (d, q)) : SmD d := by
  unfold rdData at h
  obtain ⟨⟨z, p1⟩, h1, h2⟩ := Option.bind_eq_some_iff.1 h
  obtain ⟨m, rfl, hm⟩ := rdN_nat h1
  have hm : m < 65536 := hm
  unfold rdCut at h2
  split at h2
  · cases h2
  · split at h2
    · cases h2
    · rename_i hz
      injection h2 with h2
      injection h2 with h3 h4
      rw [← h3]
      refine (getD_sound (k := k) (by simp only [Int.toNat_natCast]; omega) ?_).small
      exact Classical.not_not.1 hz
theorem rdDatas_small {b : List UInt8} {k : Int} : ∀ (n p : Nat) (acc : List Da) {l : List Da} {q : Nat}, (∀ d ∈ acc, SmD d) → rdDatas b k n p acc = some (l, q) → (∀ d ∈ l, SmD d) ∧ l.length = acc.length + n
  | 0, p, acc, l, q, ha, h => by
    rw [rdDatas] at h
    injection h with h
    injection h with h1 h2
    subst h1
    exact ⟨ha, rfl⟩
  | n + 1, p, acc, l, q, ha, h => by
    rw [rdDatas] at h
    obtain ⟨⟨d, p1⟩, h1, h2⟩ := Option.bind_eq_some_iff.1 h
    obtain ⟨h3, h4⟩ := rdDatas_small n p1 (acc ++ [d]) (fun x hx => by
      rcases List.mem_append.1 hx with hx | hx
      · exact ha x hx
      · rw [List.mem_singleton.1 hx]; exact rdData_small h1) h2
    exact ⟨h3, by rw [h4, List.length_append, List.length_singleton]; omega⟩
/-- A fact as large as one that was read. -/
structure SmF (f : Fa) : Prop where
  n : f.name.length ≤ 255
  z : f.zone.length ≤ 255
  l : f.set.length ≤ 255
  s : ∀ d ∈ f.set, SmD d
  d : SmD f.soa
theorem smD_zero : SmD Da.zero := ⟨Nat.zero_le _, Nat.zero_le _, Nat.zero_le _, Nat.zero_le _, Nat.zero_le _⟩
theorem SmF.zero : SmF Fa.zero := ⟨Nat.zero_le _, Nat.zero_le _, Nat.zero_le _, fun _ h => (List.not_mem_nil h).elim, smD_zero⟩
theorem rdFact_small {b : List UInt8} {p q : Nat} {f : Fa} (h : rdFact b p = some (f, q)) : SmF f := by
  unfold rdFact at h
  obtain ⟨⟨ls, p1⟩, h1, h⟩ := Option.bind_eq_some_iff.1 h
  obtain ⟨⟨t, p2⟩, h2, h⟩ := Option.bind_eq_some_iff.1 h
  obtain ⟨⟨k, p3⟩, h3, h⟩ := Option.bind_eq_some_iff.1 h
  obtain ⟨⟨r, p4⟩, h4, h⟩ := Option.bind_eq_some_iff.1 h
  obtain ⟨⟨g, p5⟩, h5, h⟩ := Option.bind_eq_some_iff.1 h
  obtain ⟨⟨l, p6⟩, h6, h⟩ := Option.bind_eq_some_iff.1 h
  have hn := rdName_short h1
  split at h
  · split at h
    · obtain ⟨⟨m, p7⟩, h7, h⟩ := Option.bind_eq_some_iff.1 h
      obtain ⟨m', hm', hm⟩ := rdN_nat h7
      have hm : m' < 256 := hm
      obtain ⟨⟨s, p8⟩, h8, h⟩ := Option.bind_eq_some_iff.1 h
      rw [hm'] at h8
      obtain ⟨h9, h10⟩ := rdDatas_small _ _ [] (fun _ h => (List.not_mem_nil h).elim) h8
      simp only [Option.some.injEq, Prod.mk.injEq] at h
      obtain ⟨h, _⟩ := h
      subst h
      refine ⟨hn, Nat.zero_le _, ?_, h9, smD_zero⟩
      simp only [Int.toNat_natCast, List.length_nil, Nat.zero_add] at h10
      show s.length ≤ 255
      omega
    · cases h
  · obtain ⟨⟨z, p7⟩, h7, h⟩ := Option.bind_eq_some_iff.1 h
    obtain ⟨⟨s, p8⟩, h8, h⟩ := Option.bind_eq_some_iff.1 h
    simp only [Option.some.injEq, Prod.mk.injEq] at h
    obtain ⟨h, _⟩ := h
    subst h
    exact ⟨hn, rdName_short h7, Nat.zero_le _, fun _ h => (List.not_mem_nil h).elim, rdData_small h8⟩
theorem entryP_small {b : List UInt8} {x : En} (h : entryP b = some x) : SmF x.f ∧ x.zone.length ≤ 255 := by
  unfold entryP at h
  obtain ⟨⟨k, p1⟩, h1, h⟩ := Option.bind_eq_some_iff.1 h
  split at h
  · obtain ⟨⟨f, p2⟩, h2, h⟩ := Option.bind_eq_some_iff.1 h
    simp only [Option.some.injEq] at h
    subst h
    exact ⟨rdFact_small h2, Nat.zero_le _⟩
  · split at h
    · obtain ⟨⟨z, p2⟩, h2, h⟩ := Option.bind_eq_some_iff.1 h
      simp only [Option.some.injEq] at h
      subst h
      exact ⟨SmF.zero, rdName_short h2⟩
    · split at h
      · obtain ⟨⟨z, p2⟩, h2, h⟩ := Option.bind_eq_some_iff.1 h
        simp only [Option.some.injEq] at h
        subst h
        exact ⟨SmF.zero, Nat.zero_le _⟩
      · injection h with h
        subst h
        exact ⟨SmF.zero, Nat.zero_le _⟩
theorem SmF.ltF {f : Fa} (h : SmF f) : LtF f := by
  obtain ⟨d1, d2, d3, d4, d5⟩ := h.d
  have h1 := h.n
  have h2 := h.z
  have h3 := h.l
  exact ⟨by omega, by omega, by omega, fun d hd => by obtain ⟨a, b, c, e, g⟩ := h.s d hd; exact ⟨by omega, by omega, by omega, by omega, by omega⟩, ⟨by omega, by omega, by omega, by omega, by omega⟩⟩
theorem entryP_lt {b : List UInt8} {x : En} (h : entryP b = some x) : LtE x := by
  obtain ⟨h1, h2⟩ := entryP_small h
  obtain ⟨d1, d2, d3, d4, d5⟩ := h1.d
  have a1 := h1.n
  have a2 := h1.z
  have a3 := h1.l
  exact ⟨h1.ltF, ⟨by omega, by omega, by omega, by omega, by omega, by omega, by omega, by omega⟩, by omega⟩
end Go.Proofs.Ytimkdpkhdbiniaa

/- code's reader, whatever the bytes: an entry (printed by gen/cdr5.py). -/
namespace Go.Proofs.Ytimkdpkhdbiniaa
open Go.RowKit
set_option maxRecDepth 100000
set_option linter.unusedVariables false

/-- All cells of an entry's box, one by one. -/
def putEC (w : World) (q : Nat) (s : ES) (x : En) : World := put16 w q (.int .i64 x.kind) (.int .i64 x.time) (.slice s.f.A x.f.name.length s.f.ac) (.int .i64 x.f.type) (.int .i64 x.f.kind) (.int .i64 x.f.rank) (.int .i64 x.f.got) (.int .i64 x.f.ttl) (.slice s.f.S x.f.set.length s.f.sc) (.slice s.f.Z x.f.zone.length s.f.zc) (.slice s.f.d.A0 x.f.soa.bytes.length s.f.d.c0) (.slice s.f.d.A1 x.f.soa.host.length s.f.d.c1) (.slice s.f.d.A2 x.f.soa.mail.length s.f.d.c2) (.slice s.f.d.A3 x.f.soa.nums.length s.f.d.c3) (.slice s.f.d.A4 x.f.soa.texts.length s.f.d.c4) (.slice s.Z x.zone.length s.zc)
/-- The cells of an entry's fact. -/
def putFC (w : World) (q : Nat) (t : FS) (f : Fa) : World := putF w q (.slice t.A f.name.length t.ac) (.int .i64 f.type) (.int .i64 f.kind) (.int .i64 f.rank) (.int .i64 f.got) (.int .i64 f.ttl) (.slice t.S f.set.length t.sc) (.slice t.Z f.zone.length t.zc) (.slice t.d.A0 f.soa.bytes.length t.d.c0) (.slice t.d.A1 f.soa.host.length t.d.c1) (.slice t.d.A2 f.soa.mail.length t.d.c2) (.slice t.d.A3 f.soa.nums.length t.d.c3) (.slice t.d.A4 f.soa.texts.length t.d.c4)
theorem EnRow.fillC {w : World} {q : Nat} {s0 : ES} {x0 : En} (h : EnRow w q s0 x0) (s : ES) (x : En) : EnRow (putEC w q s x) q s x := h.fill s x
theorem EnRow.fillFC {w : World} {q : Nat} {s0 : ES} {x0 : En} (h : EnRow w q s0 x0) (t : FS) (f : Fa) : EnRow (putFC w q t f) q { s0 with f := t } { x0 with f := f } := setF h _ _ _ _ _ _ _ _ _ _ _ _ _
theorem chgEC (w : World) (g : Nat) (s : ES) (x : En) : Chg (fun k => k = g) w (putEC w g s x) := chg16 _ _ _ _ _ _ _ _ _ _ _ _ _ _ _ _ _ _
theorem chgFC (w : World) (g : Nat) (t : FS) (f : Fa) : Chg (fun k => k = g) w (putFC w g t f) := chgF _ _ _ _ _ _ _ _ _ _ _ _ _ _ _

theorem EnRow.put {w : World} {q : Nat} {s : ES} {x : En} (h : EnRow w q s x) (j : Nat) (v : Value) (s' : ES) (x' : En) (e : (enCells s x).setIfInBounds j v = enCells s' x') : EnRow (w.setCell ⟨q, j, none⟩ v) q s' x' := by
  unfold EnRow
  rw [← e]
  exact heap_setCell_same _ _ _ _ _ _ h
theorem EnIn.zero (S : Nat → Prop) (w : World) : EnIn S w ES.nil En.zero :=
  have k : i64S 0 := ⟨by omega, by omega⟩
  have l : (0 : Nat) ≤ 0 ∧ 0 ≤ maxLen := ⟨Nat.le_refl _, Nat.zero_le _⟩
  ⟨FaIn.zero _ _, Els.nil _ _ _ _ _, l, k, k⟩
theorem EnIn.ge {B : Nat} {u u' : World} {s : ES} {x : En} {F : Nat → Prop} (h : EnIn (geS B u) u s x) (hc : Chg F u u') (hF : ∀ k, B ≤ k → k < u.heap.size → ¬ F k) : EnIn (geS B u') u' s x :=
  (h.keep (fun b hb => hc.block b hb.2 (hF b hb.1 hb.2))).mono (fun b hb => ⟨hb.1, Nat.lt_of_lt_of_le hb.2 hc.size⟩)
/-- An entry under way. -/
structure CeSt (w wr : World) (p : Nat) (bv : Value) (q : Nat) (s : ES) (x : En) : Prop where
  P : CRd wr p bv (q : Int)
  R : EnRow wr w.heap.size s x
  I : EnIn (geS (w.heap.size + 1) wr) wr s x
  C : Chg (fun k => k = p) w wr
  lt : p < w.heap.size
section
variable {w wr w2 w' : World} {p q q' : Nat} {bv : Value} {s : ES} {x : En}
theorem CeSt.start (h : CRd w p bv (q : Int)) : CeSt w (w.alloc (.cells (enCells ES.nil En.zero) 50)) p bv q ES.nil En.zero :=
  ⟨h.below (bl.alloc (Nat.le_refl _) _), EnRow.made w _ _, EnIn.zero _ _, Chg.of_below (bl.alloc (Nat.le_refl _) _), h.lt⟩
theorem CeSt.size (h : CeSt w wr p bv q s x) : w.heap.size + 1 ≤ wr.heap.size := h.R.lt
theorem CeSt.call (h : CeSt w wr p bv q s x) (hp : CRd w' p bv (q' : Int)) (hc : Chg (fun k => k = p) wr w') : CeSt w w' p bv q' s x :=
  ⟨hp, hc.heap h.R (by have := h.lt; omega), h.I.ge hc (fun k h1 _ e => by have := h.lt; omega), h.C.trans hc (fun _ h => .inl h), h.lt⟩
theorem CeSt.to {u : World} {s' : ES} {x' : En} (h : CeSt w wr p bv q s x) (hc : Chg (fun k => k = w.heap.size) wr u) (hr : EnRow u w.heap.size s' x') (hi : EnIn (geS (w.heap.size + 1) u) u s' x') : CeSt w u p bv q s' x' :=
  ⟨hc.heap h.P (by have := h.lt; omega), hr, hi, h.C.trans hc (fun z hz => .inr (by omega)), h.lt⟩
theorem CeSt.put0 (h : CeSt w wr p bv q s x) {n : Int} (hn : i64S n) : CeSt w (wr.setCell ⟨w.heap.size, 0, none⟩ (.int .i64 n)) p bv q s { x with kind := n } := by
  have I := h.I.ge (chg_g1 wr w.heap.size 0 (.int .i64 n)) (fun k h1 _ e => by omega)
  exact h.to (chg_g1 _ _ _ _) (h.R.put 0 _ _ _ rfl) ⟨I.f, I.z, I.cz, hn, I.it⟩
theorem CeSt.put1 (h : CeSt w wr p bv q s x) {n : Int} (hn : i64S n) : CeSt w (wr.setCell ⟨w.heap.size, 1, none⟩ (.int .i64 n)) p bv q s { x with time := n } := by
  have I := h.I.ge (chg_g1 wr w.heap.size 1 (.int .i64 n)) (fun k h1 _ e => by omega)
  exact h.to (chg_g1 _ _ _ _) (h.R.put 1 _ _ _ rfl) ⟨I.f, I.z, I.cz, I.ik, hn⟩
theorem CeSt.putZ (h : CeSt w wr p bv q s x) {A : Option Addr} {k : Nat} {ls : List (List UInt8)} {B : Nat} (hB : w.heap.size + 1 ≤ B) (ho : OwnS wr B (.slice A ls.length k) ls) : CeSt w (wr.setCell ⟨w.heap.size, 15, none⟩ (.slice A ls.length k)) p bv q { s with Z := A, zc := k } { x with zone := ls } := by
  have hc := chg_g1 wr w.heap.size 15 (.slice A ls.length k)
  have I := h.I.ge hc (fun k h1 _ e => by omega)
  obtain ⟨h1, h2⟩ := ownE_els (OwnE.base_le (OwnE.chg ho hc (fun x hx e => by have h1 := (OwnE.lt ho x hx).1; omega) (fun _ hz => hz.elim)) hB) rfl
  exact h.to hc (h.R.put 15 _ _ _ rfl) ⟨I.f, h1, h2, I.ik, I.it⟩
theorem CeSt.putFact (h : CeSt w wr p bv q s x) {t : FS} {f : Fa} {B : Nat} (hB : w.heap.size + 1 ≤ B) (hf : FaIn (geS B wr) wr t f) : CeSt w (putFC wr w.heap.size t f) p bv q { s with f := t } { x with f := f } := by
  have hc := chgFC wr w.heap.size t f
  have I := h.I.ge hc (fun k h1 _ e => by omega)
  have F := (hf.ge hc (fun k h1 _ e => by omega)).mono (S' := geS (w.heap.size + 1) (putFC wr w.heap.size t f)) (fun b hb => ⟨Nat.le_trans hB hb.1, hb.2⟩)
  exact h.to hc (h.R.fillFC t f) ⟨F, I.z, I.cz, I.ik, I.it⟩
end
/-- What a call of the reader for an entry leaves. -/
def EnGot (B : Nat) (v : Value) (w' : World) (x : En) : Prop := ∃ s, v = enV s x ∧ EnIn (geS B w') w' s x
theorem centry_end {w w4 : World} {p q : Nat} {bv : Value} {s : ES} {x : En} (h : CeSt w w4 p bv q s x) :
    ∃ w5, w5 = putEC w4 w.heap.size s x ∧ EnRow w5 w.heap.size s x ∧ EnGot w.heap.size (enV s x) w5 x ∧ CRd w5 p bv (q : Int) ∧ Chg (fun k => k = p) w w5 := by
  refine ⟨_, rfl, h.R.fillC s x, ⟨s, rfl, ?_⟩, (chgEC _ _ _ _).heap h.P (by have := h.lt; omega), h.C.trans (chgEC _ _ _ _) (fun z hz => .inr (by omega))⟩
  exact (h.I.ge (chgEC _ _ _ _) (fun k h1 _ e => by omega)).mono (fun b hb => ⟨by have := hb.1; omega, hb.2⟩)

/-- What the reader reads, and where it stands then. -/
def entryQ (b : List UInt8) : Option (En × Nat) :=
  (rdN b 0 1).bind fun x =>
    if x.1 = 1 then (rdFact b x.2).bind fun y => some (⟨x.1, 0, y.1, []⟩, y.2)
    else if x.1 = 2 then (rdName b x.2).bind fun y => some (⟨x.1, 0, Fa.zero, y.1⟩, y.2)
    else if x.1 = 3 then (rdN b x.2 7).bind fun y => some (⟨x.1, y.1, Fa.zero, []⟩, y.2)
    else some (⟨x.1, 0, Fa.zero, []⟩, x.2)
theorem entryQ_P (b : List UInt8) : entryP b = (entryQ b).map (·.1) := by
  unfold entryP entryQ
  cases rdN b 0 1 with
  | none => rfl
  | some x =>
    show (if _ then _ else _) = Option.map _ (if _ then _ else _)
    split
    · cases rdFact b x.2 <;> rfl
    · split
      · cases rdName b x.2 <;> rfl
      · split
        · cases rdN b x.2 7 <;> rfl
        · rfl

set_option maxHeartbeats 16000000 in
theorem centry_none (w : World) (p : Nat) (A : Option Addr) (n c : Nat) (bs : List UInt8) (h : CRd w p (.slice A n c) 0) (hr : RdB w A n bs) (ho : offA A p) (hfl : FlatA w A) (hn : n ≤ c) (hc : c ≤ 9223372036854775807) (hn2 : n ≤ 100000000) (hx : rdN bs 0 1 = none) :
    Calls Try.prog 68 #[.pointer (some ⟨p, 0, none⟩)] w (CdX (entryQ bs) (EnGot w.heap.size) w p (.slice A n c)) := by
  obtain ⟨w0, hw0⟩ : ∃ w0, w0 = w.alloc (.cells (enCells ES.nil En.zero) 50) := ⟨_, rfl⟩
  have ST0 : Hid (CeSt w w0 p (.slice A n c) 0 ES.nil En.zero) := by show CeSt _ _ _ _ _ _ _; rw [hw0]; exact CeSt.start h
  have HPL := Lib.hid h.lt
  have HRD : Hid (∀ u, Chg (fun k => k = p) w u → RdB u A n bs) := fun u hu => RdB.chgP hr hu ho
  have HFL : Hid (∀ u, w.heap.size ≤ u.heap.size → FlatA u A) := fun u hu => hfl.le hu
  have HO := Lib.hid ho
  unfold enCells at hw0
  clear h hr ho hfl
  go_enter Try.func68, Try.ntmps68
  go_upto_region 1 with (fail)
  simp only [ES.nil, FS.nil, DS.nil, En.zero, Fa.zero, Da.zero, List.length_nil] at hw0
  rw [← hw0]
  clear hw0
  have kf := ST0.out.R.free
  have HX := Lib.hid hx
  have HE : Hid (entryQ bs = none) := bind_none hx
  clear hx
  go_wp2_with (first
    | (go_at_call 116; refine (cnum_any w0 p A n c 0 bs 1 1 rfl (by decide) (by decide) ST0.out.P (HRD.out _ ST0.out.C) hn hn2).mono ?_; rw [HX.out]; rintro e w1 ⟨rfl, hc1⟩)
    | fail)
  rw [HE.out]
  exact ⟨rfl, rfl, ST0.out.C.trans hc1 (fun _ h => .inl h)⟩

set_option maxHeartbeats 16000000 in
theorem centry_1 (w : World) (p : Nat) (A : Option Addr) (n c : Nat) (bs : List UInt8) (h : CRd w p (.slice A n c) 0) (hr : RdB w A n bs) (ho : offA A p) (hfl : FlatA w A) (hn : n ≤ c) (hc : c ≤ 9223372036854775807) (hn2 : n ≤ 100000000) {q1 : Nat} (hx : rdN bs 0 1 = some (1, q1)) :
    Calls Try.prog 68 #[.pointer (some ⟨p, 0, none⟩)] w (CdX (entryQ bs) (EnGot w.heap.size) w p (.slice A n c)) := by
  obtain ⟨w0, hw0⟩ : ∃ w0, w0 = w.alloc (.cells (enCells ES.nil En.zero) 50) := ⟨_, rfl⟩
  have ST0 : Hid (CeSt w w0 p (.slice A n c) 0 ES.nil En.zero) := by show CeSt _ _ _ _ _ _ _; rw [hw0]; exact CeSt.start h
  have HPL := Lib.hid h.lt
  have HRD : Hid (∀ u, Chg (fun k => k = p) w u → RdB u A n bs) := fun u hu => RdB.chgP hr hu ho
  have HFL : Hid (∀ u, w.heap.size ≤ u.heap.size → FlatA u A) := fun u hu => hfl.le hu
  have HO := Lib.hid ho
  unfold enCells at hw0
  clear h hr ho hfl
  go_enter Try.func68, Try.ntmps68
  go_upto_region 1 with (fail)
  simp only [ES.nil, FS.nil, DS.nil, En.zero, Fa.zero, Da.zero, List.length_nil] at hw0
  rw [← hw0]
  clear hw0
  have kf := ST0.out.R.free
  have HX := Lib.hid hx
  have HV1 := Lib.hid (rdN_val (by decide) hx)
  have HE1 : Hid (entryQ bs = if (1 : Int) = 1 then (rdFact bs q1).bind fun y => some (⟨1, 0, y.1, []⟩, y.2)
    else if (1 : Int) = 2 then (rdName bs q1).bind fun y => some (⟨1, 0, Fa.zero, y.1⟩, y.2)
    else if (1 : Int) = 3 then (rdN bs q1 7).bind fun y => some (⟨1, y.1, Fa.zero, []⟩, y.2)
    else some (⟨1, 0, Fa.zero, []⟩, q1)) := bind_some hx
  clear hx
  go_upto_region 2 with (first
    | (go_at_call 116; refine (cnum_any w0 p A n c 0 bs 1 1 rfl (by decide) (by decide) ST0.out.P (HRD.out _ ST0.out.C) hn hn2).mono ?_; rw [HX.out]; rintro e w1 ⟨v1, rfl, rfl, h1, hc1⟩; have ST1 := Lib.hid (ST0.out.call h1 hc1); have kf1 := ST1.out.R.free; have g0 : w1.cell? ⟨w.heap.size, 0, none⟩ = some (.int .i64 0) := (ST1.out.R.cell 0).trans rfl; clear h1 hc1)
    | fail)
  obtain ⟨u1, hu1⟩ : ∃ u, u = w1.setCell ⟨w.heap.size, 0, none⟩ (.int .i64 1) := ⟨_, rfl⟩
  have SU1 : Hid (CeSt w u1 p (.slice A n c) q1 ES.nil ⟨1, 0, Fa.zero, []⟩) := by show CeSt _ _ _ _ _ _ _; rw [hu1]; exact ST1.out.put0 HV1.out
  have HGE : Hid (w.heap.size + 1 ≤ w1.heap.size) := ST1.out.size
  rw [← hu1]
  clear hu1 kf kf1 g0 ST1 ST0 HX HV1
  have x0 : u1.cell? ⟨w.heap.size, 0, none⟩ = some (.int .i64 1) := (SU1.out.R.cell 0).trans rfl
  cases hx : rdFact bs q1 with
  | none =>
    have HX := Lib.hid hx
    have HE : Hid (entryQ bs = none) := HE1.out.trans (bind_none hx)
    clear hx
    go_wp2_with (first
      | (go_at_call 117; refine (cfact_any u1 p A n c q1 bs SU1.out.P (HRD.out _ SU1.out.C) HO.out (HFL.out _ SU1.out.C.size) hn hc hn2).mono ?_; rw [HX.out]; rintro e w1 ⟨rfl, hc1⟩)
      | fail)
    rw [HE.out]
    exact ⟨rfl, rfl, SU1.out.C.trans hc1 (fun _ h => .inl h)⟩
  | some r2 =>
  obtain ⟨f, q2⟩ := r2
  have HX := Lib.hid hx
  have HE9 : Hid (entryQ bs = some (⟨1, 0, f, []⟩, q2)) := HE1.out.trans (bind_some hx)
  clear hx HE1
  go_upto_region 9 with (first
    | (go_at_call 117; refine (cfact_any u1 p A n c q1 bs SU1.out.P (HRD.out _ SU1.out.C) HO.out (HFL.out _ SU1.out.C.size) hn hc hn2).mono ?_; rw [HX.out]; rintro e w2 ⟨v2, rfl, ⟨t2, rfl, hf2⟩, h1, hc1⟩; unfold faV faCells; have HF2 := Lib.hid hf2; have ST2 := Lib.hid (SU1.out.call h1 hc1); have kf2 := ST2.out.R.free; obtain ⟨y0, y1, y2, y3, y4, y5, y6, y7, y8, y9, y10, y11, y12, y13, y14, y15⟩ := ST2.out.R.cells; clear hf2 h1 hc1)
    | fail)
  obtain ⟨u2, hu2⟩ : ∃ u, u = putFC w2 w.heap.size t2 f := ⟨_, rfl⟩
  have SU2 : Hid (CeSt w u2 p (.slice A n c) q2 ⟨t2, none, 0⟩ ⟨1, 0, f, []⟩) := by show CeSt _ _ _ _ _ _ _; rw [hu2]; exact ST2.out.putFact SU1.out.size HF2.out
  unfold putFC putF at hu2
  rw [← hu2]
  clear hu2 kf2 ST2 HF2 HX x0 y0 y1 y2 y3 y4 y5 y6 y7 y8 y9 y10 y11 y12 y13 y14 y15
  obtain ⟨x0, x1, x2, x3, x4, x5, x6, x7, x8, x9, x10, x11, x12, x13, x14, x15⟩ := SU2.out.R.cells
  have kf := SU2.out.R.free
  simp only [List.length_nil] at x0 x1 x2 x3 x4 x5 x6 x7 x8 x9 x10 x11 x12 x13 x14 x15
  go_wp2
  obtain ⟨w5, hw5, hR5, hG5, hP5, hC5⟩ := centry_end SU2.out
  unfold putEC put16 at hw5
  simp only [List.length_nil] at hw5
  rw [← hw5]
  clear hw5 x0 x1 x2 x3 x4 x5 x6 x7 x8 x9 x10 x11 x12 x13 x14 x15 kf
  obtain ⟨x0, x1, x2, x3, x4, x5, x6, x7, x8, x9, x10, x11, x12, x13, x14, x15⟩ := hR5.cells
  refine bodyPost_ret (v := enV ⟨t2, none, 0⟩ ⟨1, 0, f, []⟩) ?_ rfl (by rw [HE9.out]; exact ⟨_, rfl, hG5, hP5, hC5⟩)
  simp [results, Try.results68, go_sem, enV, enCells, x0, x1, x2, x3, x4, x5, x6, x7, x8, x9, x10, x11, x12, x13, x14, x15]

set_option maxHeartbeats 16000000 in
theorem centry_2 (w : World) (p : Nat) (A : Option Addr) (n c : Nat) (bs : List UInt8) (h : CRd w p (.slice A n c) 0) (hr : RdB w A n bs) (ho : offA A p) (hfl : FlatA w A) (hn : n ≤ c) (hc : c ≤ 9223372036854775807) (hn2 : n ≤ 100000000) {q1 : Nat} (hx : rdN bs 0 1 = some (2, q1)) :
    Calls Try.prog 68 #[.pointer (some ⟨p, 0, none⟩)] w (CdX (entryQ bs) (EnGot w.heap.size) w p (.slice A n c)) := by
  obtain ⟨w0, hw0⟩ : ∃ w0, w0 = w.alloc (.cells (enCells ES.nil En.zero) 50) := ⟨_, rfl⟩
  have ST0 : Hid (CeSt w w0 p (.slice A n c) 0 ES.nil En.zero) := by show CeSt _ _ _ _ _ _ _; rw [hw0]; exact CeSt.start h
  have HPL := Lib.hid h.lt
  have HRD : Hid (∀ u, Chg (fun k => k = p) w u → RdB u A n bs) := fun u hu => RdB.chgP hr hu ho
  have HFL : Hid (∀ u, w.heap.size ≤ u.heap.size → FlatA u A) := fun u hu => hfl.le hu
  have HO := Lib.hid ho
  unfold enCells at hw0
  clear h hr ho hfl
  go_enter Try.func68, Try.ntmps68
  go_upto_region 1 with (fail)
  simp only [ES.nil, FS.nil, DS.nil, En.zero, Fa.zero, Da.zero, List.length_nil] at hw0
  rw [← hw0]
  clear hw0
  have kf := ST0.out.R.free
  have HX := Lib.hid hx
  have HV1 := Lib.hid (rdN_val (by decide) hx)
  have HE1 : Hid (entryQ bs = if (2 : Int) = 1 then (rdFact bs q1).bind fun y => some (⟨2, 0, y.1, []⟩, y.2)
    else if (2 : Int) = 2 then (rdName bs q1).bind fun y => some (⟨2, 0, Fa.zero, y.1⟩, y.2)
    else if (2 : Int) = 3 then (rdN bs q1 7).bind fun y => some (⟨2, y.1, Fa.zero, []⟩, y.2)
    else some (⟨2, 0, Fa.zero, []⟩, q1)) := bind_some hx
  clear hx
  go_upto_region 2 with (first
    | (go_at_call 116; refine (cnum_any w0 p A n c 0 bs 1 1 rfl (by decide) (by decide) ST0.out.P (HRD.out _ ST0.out.C) hn hn2).mono ?_; rw [HX.out]; rintro e w1 ⟨v1, rfl, rfl, h1, hc1⟩; have ST1 := Lib.hid (ST0.out.call h1 hc1); have kf1 := ST1.out.R.free; have g0 : w1.cell? ⟨w.heap.size, 0, none⟩ = some (.int .i64 0) := (ST1.out.R.cell 0).trans rfl; clear h1 hc1)
    | fail)
  obtain ⟨u1, hu1⟩ : ∃ u, u = w1.setCell ⟨w.heap.size, 0, none⟩ (.int .i64 2) := ⟨_, rfl⟩
  have SU1 : Hid (CeSt w u1 p (.slice A n c) q1 ES.nil ⟨2, 0, Fa.zero, []⟩) := by show CeSt _ _ _ _ _ _ _; rw [hu1]; exact ST1.out.put0 HV1.out
  have HGE : Hid (w.heap.size + 1 ≤ w1.heap.size) := ST1.out.size
  rw [← hu1]
  clear hu1 kf kf1 g0 ST1 ST0 HX HV1
  have x0 : u1.cell? ⟨w.heap.size, 0, none⟩ = some (.int .i64 2) := (SU1.out.R.cell 0).trans rfl
  cases hx : rdName bs q1 with
  | none =>
    have HX := Lib.hid hx
    have HE : Hid (entryQ bs = none) := HE1.out.trans (bind_none hx)
    clear hx
    go_wp2_with (first
      | (go_at_call 118; refine (cname_any u1 p A n c q1 bs SU1.out.P (HRD.out _ SU1.out.C) hn hn2).mono ?_; rw [HX.out]; rintro e w1 ⟨rfl, hc1⟩)
      | fail)
    rw [HE.out]
    exact ⟨rfl, rfl, SU1.out.C.trans hc1 (fun _ h => .inl h)⟩
  | some r2 =>
  obtain ⟨zs, q2⟩ := r2
  have HX := Lib.hid hx
  have HE9 : Hid (entryQ bs = some (⟨2, 0, Fa.zero, zs⟩, q2)) := HE1.out.trans (bind_some hx)
  clear hx HE1
  go_upto_region 9 with (first
    | (go_at_call 118; refine (cname_any u1 p A n c q1 bs SU1.out.P (HRD.out _ SU1.out.C) hn hn2).mono ?_; rw [HX.out]; rintro e w2 ⟨v2, rfl, ho2, h1, hc1⟩; have HO2 := Lib.hid ho2; obtain ⟨A2, c2, hv2, _⟩ := OwnE.form ho2; subst hv2; have ST2 := Lib.hid (SU1.out.call h1 hc1); have kf2 := ST2.out.R.free; have g0 : w2.cell? ⟨w.heap.size, 15, none⟩ = some (.slice none 0 0) := (ST2.out.R.cell 15).trans rfl; clear ho2 h1 hc1)
    | fail)
  obtain ⟨u2, hu2⟩ : ∃ u, u = w2.setCell ⟨w.heap.size, 15, none⟩ (.slice A2 zs.length c2) := ⟨_, rfl⟩
  have SU2 : Hid (CeSt w u2 p (.slice A n c) q2 ⟨FS.nil, A2, c2⟩ ⟨2, 0, Fa.zero, zs⟩) := by show CeSt _ _ _ _ _ _ _; rw [hu2]; exact ST2.out.putZ SU1.out.size HO2.out
  rw [← hu2]
  clear hu2 kf2 ST2 HO2 HX x0 g0
  obtain ⟨x0, x1, x2, x3, x4, x5, x6, x7, x8, x9, x10, x11, x12, x13, x14, x15⟩ := SU2.out.R.cells
  have kf := SU2.out.R.free
  simp only [FS.nil, DS.nil, Fa.zero, Da.zero, List.length_nil] at x0 x1 x2 x3 x4 x5 x6 x7 x8 x9 x10 x11 x12 x13 x14 x15
  go_wp2
  obtain ⟨w5, hw5, hR5, hG5, hP5, hC5⟩ := centry_end SU2.out
  unfold putEC put16 at hw5
  simp only [FS.nil, DS.nil, Fa.zero, Da.zero, List.length_nil] at hw5
  rw [← hw5]
  clear hw5 x0 x1 x2 x3 x4 x5 x6 x7 x8 x9 x10 x11 x12 x13 x14 x15 kf
  obtain ⟨x0, x1, x2, x3, x4, x5, x6, x7, x8, x9, x10, x11, x12, x13, x14, x15⟩ := hR5.cells
  refine bodyPost_ret (v := enV ⟨FS.nil, A2, c2⟩ ⟨2, 0, Fa.zero, zs⟩) ?_ rfl (by rw [HE9.out]; exact ⟨_, rfl, hG5, hP5, hC5⟩)
  simp [results, Try.results68, go_sem, enV, enCells, FS.nil, DS.nil, Fa.zero, Da.zero, x0, x1, x2, x3, x4, x5, x6, x7, x8, x9, x10, x11, x12, x13, x14, x15]

set_option maxHeartbeats 16000000 in
theorem centry_3 (w : World) (p : Nat) (A : Option Addr) (n c : Nat) (bs : List UInt8) (h : CRd w p (.slice A n c) 0) (hr : RdB w A n bs) (ho : offA A p) (hfl : FlatA w A) (hn : n ≤ c) (hc : c ≤ 9223372036854775807) (hn2 : n ≤ 100000000) {q1 : Nat} (hx : rdN bs 0 1 = some (3, q1)) :
    Calls Try.prog 68 #[.pointer (some ⟨p, 0, none⟩)] w (CdX (entryQ bs) (EnGot w.heap.size) w p (.slice A n c)) := by
  obtain ⟨w0, hw0⟩ : ∃ w0, w0 = w.alloc (.cells (enCells ES.nil En.zero) 50) := ⟨_, rfl⟩
  have ST0 : Hid (CeSt w w0 p (.slice A n c) 0 ES.nil En.zero) := by show CeSt _ _ _ _ _ _ _; rw [hw0]; exact CeSt.start h
  have HPL := Lib.hid h.lt
  have HRD : Hid (∀ u, Chg (fun k => k = p) w u → RdB u A n bs) := fun u hu => RdB.chgP hr hu ho
  have HFL : Hid (∀ u, w.heap.size ≤ u.heap.size → FlatA u A) := fun u hu => hfl.le hu
  have HO := Lib.hid ho
  unfold enCells at hw0
  clear h hr ho hfl
  go_enter Try.func68, Try.ntmps68
  go_upto_region 1 with (fail)
  simp only [ES.nil, FS.nil, DS.nil, En.zero, Fa.zero, Da.zero, List.length_nil] at hw0
  rw [← hw0]
  clear hw0
  have kf := ST0.out.R.free
  have HX := Lib.hid hx
  have HV1 := Lib.hid (rdN_val (by decide) hx)
  have HE1 : Hid (entryQ bs = if (3 : Int) = 1 then (rdFact bs q1).bind fun y => some (⟨3, 0, y.1, []⟩, y.2)
    else if (3 : Int) = 2 then (rdName bs q1).bind fun y => some (⟨3, 0, Fa.zero, y.1⟩, y.2)
    else if (3 : Int) = 3 then (rdN bs q1 7).bind fun y => some (⟨3, y.1, Fa.zero, []⟩, y.2)
    else some (⟨3, 0, Fa.zero, []⟩, q1)) := bind_some hx
  clear hx
  go_upto_region 2 with (first
    | (go_at_call 116; refine (cnum_any w0 p A n c 0 bs 1 1 rfl (by decide) (by decide) ST0.out.P (HRD.out _ ST0.out.C) hn hn2).mono ?_; rw [HX.out]; rintro e w1 ⟨v1, rfl, rfl, h1, hc1⟩; have ST1 := Lib.hid (ST0.out.call h1 hc1); have kf1 := ST1.out.R.free; have g0 : w1.cell? ⟨w.heap.size, 0, none⟩ = some (.int .i64 0) := (ST1.out.R.cell 0).trans rfl; clear h1 hc1)
    | fail)
  obtain ⟨u1, hu1⟩ : ∃ u, u = w1.setCell ⟨w.heap.size, 0, none⟩ (.int .i64 3) := ⟨_, rfl⟩
  have SU1 : Hid (CeSt w u1 p (.slice A n c) q1 ES.nil ⟨3, 0, Fa.zero, []⟩) := by show CeSt _ _ _ _ _ _ _; rw [hu1]; exact ST1.out.put0 HV1.out
  have HGE : Hid (w.heap.size + 1 ≤ w1.heap.size) := ST1.out.size
  rw [← hu1]
  clear hu1 kf kf1 g0 ST1 ST0 HX HV1
  have x0 : u1.cell? ⟨w.heap.size, 0, none⟩ = some (.int .i64 3) := (SU1.out.R.cell 0).trans rfl
  cases hx : rdN bs q1 7 with
  | none =>
    have HX := Lib.hid hx
    have HE : Hid (entryQ bs = none) := HE1.out.trans (bind_none hx)
    clear hx
    go_wp2_with (first
      | (go_at_call 116; refine (cnum_any u1 p A n c q1 bs 7 7 rfl (by decide) (by decide) SU1.out.P (HRD.out _ SU1.out.C) hn hn2).mono ?_; rw [HX.out]; rintro e w1 ⟨rfl, hc1⟩)
      | fail)
    rw [HE.out]
    exact ⟨rfl, rfl, SU1.out.C.trans hc1 (fun _ h => .inl h)⟩
  | some r2 =>
  obtain ⟨tm, q2⟩ := r2
  have HX := Lib.hid hx
  have HV2 := Lib.hid (rdN_val (by decide) hx)
  have HE9 : Hid (entryQ bs = some (⟨3, tm, Fa.zero, []⟩, q2)) := HE1.out.trans (bind_some hx)
  clear hx HE1
  go_upto_region 9 with (first
    | (go_at_call 116; refine (cnum_any u1 p A n c q1 bs 7 7 rfl (by decide) (by decide) SU1.out.P (HRD.out _ SU1.out.C) hn hn2).mono ?_; rw [HX.out]; rintro e w2 ⟨v2, rfl, rfl, h1, hc1⟩; have ST2 := Lib.hid (SU1.out.call h1 hc1); have kf2 := ST2.out.R.free; have g0 : w2.cell? ⟨w.heap.size, 1, none⟩ = some (.int .i64 0) := (ST2.out.R.cell 1).trans rfl; clear h1 hc1)
    | fail)
  obtain ⟨u2, hu2⟩ : ∃ u, u = w2.setCell ⟨w.heap.size, 1, none⟩ (.int .i64 tm) := ⟨_, rfl⟩
  have SU2 : Hid (CeSt w u2 p (.slice A n c) q2 ES.nil ⟨3, tm, Fa.zero, []⟩) := by show CeSt _ _ _ _ _ _ _; rw [hu2]; exact ST2.out.put1 HV2.out
  rw [← hu2]
  clear hu2 kf2 ST2 HV2 HX x0 g0
  obtain ⟨x0, x1, x2, x3, x4, x5, x6, x7, x8, x9, x10, x11, x12, x13, x14, x15⟩ := SU2.out.R.cells
  have kf := SU2.out.R.free
  simp only [ES.nil, FS.nil, DS.nil, Fa.zero, Da.zero, List.length_nil] at x0 x1 x2 x3 x4 x5 x6 x7 x8 x9 x10 x11 x12 x13 x14 x15
  go_wp2
  obtain ⟨w5, hw5, hR5, hG5, hP5, hC5⟩ := centry_end SU2.out
  unfold putEC put16 at hw5
  simp only [ES.nil, FS.nil, DS.nil, Fa.zero, Da.zero, List.length_nil] at hw5
  rw [← hw5]
  clear hw5 x0 x1 x2 x3 x4 x5 x6 x7 x8 x9 x10 x11 x12 x13 x14 x15 kf
  obtain ⟨x0, x1, x2, x3, x4, x5, x6, x7, x8, x9, x10, x11, x12, x13, x14, x15⟩ := hR5.cells
  refine bodyPost_ret (v := enV ES.nil ⟨3, tm, Fa.zero, []⟩) ?_ rfl (by rw [HE9.out]; exact ⟨_, rfl, hG5, hP5, hC5⟩)
  simp [results, Try.results68, go_sem, enV, enCells, ES.nil, FS.nil, DS.nil, Fa.zero, Da.zero, x0, x1, x2, x3, x4, x5, x6, x7, x8, x9, x10, x11, x12, x13, x14, x15]

set_option maxHeartbeats 16000000 in
theorem centry_4 (w : World) (p : Nat) (A : Option Addr) (n c : Nat) (bs : List UInt8) (h : CRd w p (.slice A n c) 0) (hr : RdB w A n bs) (ho : offA A p) (hfl : FlatA w A) (hn : n ≤ c) (hc : c ≤ 9223372036854775807) (hn2 : n ≤ 100000000) {q1 : Nat} {k : Int} (hx : rdN bs 0 1 = some (k, q1)) (k1 : ¬ k = 1) (k2 : ¬ k = 2) (k3 : ¬ k = 3) :
    Calls Try.prog 68 #[.pointer (some ⟨p, 0, none⟩)] w (CdX (entryQ bs) (EnGot w.heap.size) w p (.slice A n c)) := by
  obtain ⟨w0, hw0⟩ : ∃ w0, w0 = w.alloc (.cells (enCells ES.nil En.zero) 50) := ⟨_, rfl⟩
  have ST0 : Hid (CeSt w w0 p (.slice A n c) 0 ES.nil En.zero) := by show CeSt _ _ _ _ _ _ _; rw [hw0]; exact CeSt.start h
  have HPL := Lib.hid h.lt
  have HRD : Hid (∀ u, Chg (fun k => k = p) w u → RdB u A n bs) := fun u hu => RdB.chgP hr hu ho
  have HFL : Hid (∀ u, w.heap.size ≤ u.heap.size → FlatA u A) := fun u hu => hfl.le hu
  have HO := Lib.hid ho
  unfold enCells at hw0
  clear h hr ho hfl
  go_enter Try.func68, Try.ntmps68
  go_upto_region 1 with (fail)
  simp only [ES.nil, FS.nil, DS.nil, En.zero, Fa.zero, Da.zero, List.length_nil] at hw0
  rw [← hw0]
  clear hw0
  have kf := ST0.out.R.free
  have HX := Lib.hid hx
  have HV1 := Lib.hid (rdN_val (by decide) hx)
  have HE1 : Hid (entryQ bs = if k = 1 then (rdFact bs q1).bind fun y => some (⟨k, 0, y.1, []⟩, y.2)
    else if k = 2 then (rdName bs q1).bind fun y => some (⟨k, 0, Fa.zero, y.1⟩, y.2)
    else if k = 3 then (rdN bs q1 7).bind fun y => some (⟨k, y.1, Fa.zero, []⟩, y.2)
    else some (⟨k, 0, Fa.zero, []⟩, q1)) := bind_some hx
  clear hx
  go_upto_region 2 with (first
    | (go_at_call 116; refine (cnum_any w0 p A n c 0 bs 1 1 rfl (by decide) (by decide) ST0.out.P (HRD.out _ ST0.out.C) hn hn2).mono ?_; rw [HX.out]; rintro e w1 ⟨v1, rfl, rfl, h1, hc1⟩; have ST1 := Lib.hid (ST0.out.call h1 hc1); have kf1 := ST1.out.R.free; have g0 : w1.cell? ⟨w.heap.size, 0, none⟩ = some (.int .i64 0) := (ST1.out.R.cell 0).trans rfl; clear h1 hc1)
    | fail)
  obtain ⟨u1, hu1⟩ : ∃ u, u = w1.setCell ⟨w.heap.size, 0, none⟩ (.int .i64 k) := ⟨_, rfl⟩
  have SU1 : Hid (CeSt w u1 p (.slice A n c) q1 ES.nil ⟨k, 0, Fa.zero, []⟩) := by show CeSt _ _ _ _ _ _ _; rw [hu1]; exact ST1.out.put0 HV1.out
  have HGE : Hid (w.heap.size + 1 ≤ w1.heap.size) := ST1.out.size
  rw [← hu1]
  clear hu1 kf kf1 g0 ST1 ST0 HX HV1
  have x0 : u1.cell? ⟨w.heap.size, 0, none⟩ = some (.int .i64 k) := (SU1.out.R.cell 0).trans rfl
  have hkb1 : (k == 1) = false := by simp [k1]
  have hkb2 : (k == 2) = false := by simp [k2]
  have hkb3 : (k == 3) = false := by simp [k3]
  have HE9 : Hid (entryQ bs = some (⟨k, 0, Fa.zero, []⟩, q1)) := by
    have h := HE1.out
    rw [if_neg k1, if_neg k2, if_neg k3] at h
    exact h
  clear HE1 k1 k2 k3
  go_upto_region 9 with (fail)
  clear x0
  obtain ⟨x0, x1, x2, x3, x4, x5, x6, x7, x8, x9, x10, x11, x12, x13, x14, x15⟩ := SU1.out.R.cells
  have kf := SU1.out.R.free
  simp only [ES.nil, FS.nil, DS.nil, Fa.zero, Da.zero, List.length_nil] at x0 x1 x2 x3 x4 x5 x6 x7 x8 x9 x10 x11 x12 x13 x14 x15
  go_wp2
  obtain ⟨w5, hw5, hR5, hG5, hP5, hC5⟩ := centry_end SU1.out
  unfold putEC put16 at hw5
  simp only [ES.nil, FS.nil, DS.nil, Fa.zero, Da.zero, List.length_nil] at hw5
  rw [← hw5]
  clear hw5 x0 x1 x2 x3 x4 x5 x6 x7 x8 x9 x10 x11 x12 x13 x14 x15 kf
  obtain ⟨x0, x1, x2, x3, x4, x5, x6, x7, x8, x9, x10, x11, x12, x13, x14, x15⟩ := hR5.cells
  refine bodyPost_ret (v := enV ES.nil ⟨k, 0, Fa.zero, []⟩) ?_ rfl (by rw [HE9.out]; exact ⟨_, rfl, hG5, hP5, hC5⟩)
  simp [results, Try.results68, go_sem, enV, enCells, ES.nil, FS.nil, DS.nil, Fa.zero, Da.zero, x0, x1, x2, x3, x4, x5, x6, x7, x8, x9, x10, x11, x12, x13, x14, x15]

theorem centry_any (w : World) (p : Nat) (A : Option Addr) (n c : Nat) (bs : List UInt8) (h : CRd w p (.slice A n c) 0) (hr : RdB w A n bs) (ho : offA A p) (hfl : FlatA w A) (hn : n ≤ c) (hc : c ≤ 9223372036854775807) (hn2 : n ≤ 100000000) :
    Calls Try.prog 68 #[.pointer (some ⟨p, 0, none⟩)] w (CdX (entryQ bs) (EnGot w.heap.size) w p (.slice A n c)) := by
  cases hx : rdN bs 0 1 with
  | none => exact centry_none w p A n c bs h hr ho hfl hn hc hn2 hx
  | some r =>
    obtain ⟨k, q1⟩ := r
    by_cases k1 : k = 1
    · subst k1; exact centry_1 w p A n c bs h hr ho hfl hn hc hn2 hx
    by_cases k2 : k = 2
    · subst k2; exact centry_2 w p A n c bs h hr ho hfl hn hc hn2 hx
    by_cases k3 : k = 3
    · subst k3; exact centry_3 w p A n c bs h hr ho hfl hn hc hn2 hx
    exact centry_4 w p A n c bs h hr ho hfl hn hc hn2 hx k1 k2 k3
end Go.Proofs.Ytimkdpkhdbiniaa
