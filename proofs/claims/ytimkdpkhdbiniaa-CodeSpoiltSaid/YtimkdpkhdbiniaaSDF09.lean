/- Parts of a proof, joined: CodeF, CodeE. -/
import Derived.Test.YtimkdpkhdbiniaaSDF07
import Derived.Test.YtimkdpkhdbiniaaSDF03
import Derived.Test.YtimkdpkhdbiniaaSDF08
/- code.facts: a fact as it is written (printed by gen/codef.py). -/
namespace Go.Proofs.Ytimkdpkhdbiniaa
open Go.RowKit
set_option maxRecDepth 100000
set_option linter.unusedVariables false

theorem FaIn.chg {S F : Nat → Prop} {w w' : World} {s : FS} {f : Fa} (h : FaIn S w s f) (hc : Chg F w w') (hl : ∀ b, S b → b < w.heap.size ∧ ¬ F b) : FaIn S w' s f := h.keep fun b hb => hc.block b (hl b hb).1 (hl b hb).2
structure FaSt (w wr : World) (B g : Nat) (F Fr : Nat → Prop) (y : Wr) (q : Nat) (S : Nat → Prop) (s : FS) (f : Fa) : Prop where
  W : Wtr wr B Fr g y
  C : Chg F w wr
  N : ∀ z, Fr z → F z ∨ w.heap.size ≤ z
  Q : FaRow wr q s f
  D : FaIn S wr s f
  qF : ¬ Fr q
  SF : ∀ b, S b → b < wr.heap.size ∧ ¬ Fr b
section
variable {w wr w' : World} {B g q : Nat} {F Fr F' S : Nat → Prop} {y y' : Wr} {s : FS} {f : Fa}
theorem FaSt.step (h : FaSt w wr B g F Fr y q S s f) (hw : Wtr w' B F' g y') (hc : Chg Fr wr w') (hF : ∀ z, F' z → Fr z ∨ wr.heap.size ≤ z) : FaSt w w' B g F F' y' q S s f where
  W := hw
  C := h.C.trans hc h.N
  N := fun z hz => (hF z hz).elim (h.N z) (fun h1 => .inr (Nat.le_trans h.C.size h1))
  Q := hc.heap h.Q h.qF
  D := h.D.chg hc h.SF
  qF := fun hq => (hF q hq).elim h.qF (fun hl => by have := (Array.getElem?_eq_some_iff.1 h.Q).1; omega)
  SF := fun b hb => ⟨Nat.lt_of_lt_of_le (h.SF b hb).1 hc.size, fun hq => (hF b hq).elim (h.SF b hb).2 (fun hl => by have := (h.SF b hb).1; omega)⟩
theorem FaSt.below (h : FaSt w wr B g F Fr y q S s f) (hb : Below wr.heap.size wr w') : FaSt w w' B g F Fr y q S s f := h.step (h.W.below hb) (Chg.of_below hb) (fun _ hz => .inl hz)
theorem FaSt.done (h : FaSt w wr B g F Fr y q S s f) {v : Value} {u : Wr} (hz : y = u) : RetX w B F g u v (.returned v) wr := by subst hz; exact ⟨rfl, Fr, h.W, h.C, h.N⟩
theorem FaSt.start {x : Wr} (h : Wtr w B F g x) (hd : FaIn S w s f) (hS : ∀ b, S b → b < w.heap.size ∧ ¬ F b) : FaSt w (w.alloc (.cells (faCells s f) 48)) B g F F x w.heap.size S s f := by
  have hb : Below w.heap.size w (w.alloc (.cells (faCells s f) 48)) := bl.alloc (Nat.le_refl _) _
  exact ⟨h.below hb, Chg.of_below hb, fun _ hz => .inl hz, FaRow.made w s f, hd.below hb (fun b hb' => (hS b hb').1), fun hq => by have := (h.F_lt _ hq).2; omega, fun b hb' => ⟨Nat.lt_of_lt_of_le (hS b hb').1 hb.size, (hS b hb').2⟩⟩
end
theorem distP_all {k : Int} {l : List Da} {n : Nat} (h : distP k l n = true) : ∀ i d, i < n → l[i]? = some d → FineD k d := by
  induction n with
  | zero => intro i d hi; omega
  | succ n ih =>
    intro i d hi hd
    unfold distP at h
    rw [Bool.and_eq_true] at h
    by_cases he : i = n
    · subst he
      have h2 := h.2
      rw [oneP_at hd, Bool.and_eq_true] at h2
      exact fineB_iff.1 h2.1
    · exact ih h.1 i d (by omega) hd
/-- What a sound fact has. -/
structure FactOk (f : Fa) : Prop where
  n : soundB f.name = true
  set : f.kind = 1 → f.set.length ≤ 64 ∧ ∀ d ∈ f.set, FineD f.type d
  neg : f.kind ≠ 1 → soundB f.zone = true ∧ FineD 6 f.soa
theorem factOk {f : Fa} (h : fineF f = true) : FactOk f := by
  unfold fineF at h
  simp only [Bool.and_eq_true, decide_eq_true_eq] at h
  obtain ⟨⟨⟨⟨⟨⟨h1, _⟩, _⟩, _⟩, _⟩, _⟩, h2⟩ := h
  refine ⟨h1, fun hk => ?_, fun hk => ?_⟩
  · rw [if_pos hk] at h2
    unfold fineH at h2
    simp only [Bool.and_eq_true, decide_eq_true_eq] at h2
    obtain ⟨⟨⟨⟨_, h4⟩, h5⟩, _⟩, _⟩ := h2
    refine ⟨h4, fun d hd => ?_⟩
    obtain ⟨i, hi⟩ := List.mem_iff_getElem?.1 hd
    exact distP_all h5 i d (List.getElem?_eq_some_iff.1 hi).1 hi
  · rw [if_neg hk] at h2
    unfold fineN at h2
    simp only [Bool.and_eq_true, decide_eq_true_eq] at h2
    obtain ⟨⟨⟨⟨⟨_, _⟩, h3⟩, _⟩, h5⟩, _⟩ := h2
    exact ⟨h3, fineB_iff.1 h5⟩
theorem sound_len {n : List (List UInt8)} (h : soundB n = true) : n.length ≤ 255 := by have h1 := sizeN_length n; have h2 := (soundB_iff.1 h).2; omega
theorem nameS_len {x : Wr} {n : List (List UInt8)} (h : soundB n = true) : (x.nameS n false).b.length ≤ x.b.length + 255 ∧ (x.nameS n false).rests.length ≤ x.rests.length + 255 := by
  unfold Wr.nameS
  rw [if_pos h]
  have h1 := Wr.name_le (x := x) n false
  have h2 := Wr.name_rests (x := x) n false
  have h3 := (soundB_iff.1 h).2
  have h4 := sound_len h
  exact ⟨by omega, by omega⟩
theorem raw_len7 (x : Wr) (n z : Int) : (x.raw (putB [] n z)).b.length ≤ x.b.length + 7 := by
  have h := putB_nil_le n z
  show (x.b ++ _).length ≤ _
  rw [List.length_append]
  omega
theorem factH_len {x : Wr} {f : Fa} (h : soundB f.name = true) : (x.factH f).b.length ≤ x.b.length + 290 ∧ (x.factH f).rests.length ≤ x.rests.length + 255 := by
  obtain ⟨h1, h2⟩ := nameS_len (x := x) h
  have a1 := raw_len7 (x.nameS f.name false) f.type 2
  have a2 := raw_len7 ((x.nameS f.name false).raw (putB [] f.type 2)) f.kind 1
  have a3 := raw_len7 (((x.nameS f.name false).raw (putB [] f.type 2)).raw (putB [] f.kind 1)) f.rank 1
  have a4 := raw_len7 ((((x.nameS f.name false).raw (putB [] f.type 2)).raw (putB [] f.kind 1)).raw (putB [] f.rank 1)) f.got 7
  have a5 := raw_len7 (((((x.nameS f.name false).raw (putB [] f.type 2)).raw (putB [] f.kind 1)).raw (putB [] f.rank 1)).raw (putB [] f.got 7)) f.ttl 4
  unfold Wr.factH
  exact ⟨by omega, h2⟩

set_option maxHeartbeats 16000000 in
theorem cfacts_any (w : World) (B g : Nat) (F : Nat → Prop) (x : Wr) (s : FS) (f : Fa) (S : Nat → Prop) (hf : FactOk f) (h : Wtr w B F g x) (hd : FaIn S w s f) (hS : ∀ b, S b → b < w.heap.size ∧ ¬ F b) (hx : x.b.length ≤ 1000) (hxr : x.rests.length ≤ 1000) :
    Calls Try.prog 102 #[.pointer (some ⟨g, 0, none⟩), faV s f] w (RetX w B F g (x.fact f) (.tuple #[])) := by
  obtain ⟨sA, sac, sS, ssc, sZ, szc, sd⟩ := s
  have hst := FaSt.start h hd hS
  obtain ⟨w1, hw1⟩ : ∃ w1, w1 = w.alloc (.cells (faCells ⟨sA, sac, sS, ssc, sZ, szc, sd⟩ f) 48) := ⟨_, rfl⟩
  rw [← hw1] at hst
  have ST1 := Lib.hid hst
  have HF := Lib.hid hf
  have HLN : Hid (f.name.length ≤ 255) := sound_len hf.n
  obtain ⟨y1, hy1⟩ : ∃ y, y = x.nameS f.name false := ⟨_, rfl⟩
  obtain ⟨y2, hy2⟩ : ∃ y, y = y1.raw (putB [] f.type 2) := ⟨_, rfl⟩
  obtain ⟨y3, hy3⟩ : ∃ y, y = y2.raw (putB [] f.kind 1) := ⟨_, rfl⟩
  obtain ⟨y4, hy4⟩ : ∃ y, y = y3.raw (putB [] f.rank 1) := ⟨_, rfl⟩
  obtain ⟨y5, hy5⟩ : ∃ y, y = y4.raw (putB [] f.got 7) := ⟨_, rfl⟩
  obtain ⟨y6, hy6⟩ : ∃ y, y = y5.raw (putB [] f.ttl 4) := ⟨_, rfl⟩
  have hhead : y6 = x.factH f := by rw [hy6, hy5, hy4, hy3, hy2, hy1]; rfl
  have b1 := nameS_len (x := x) hf.n
  rw [← hy1] at b1
  have b2 := raw_len7 y1 f.type 2
  rw [← hy2] at b2
  have b3 := raw_len7 y2 f.kind 1
  rw [← hy3] at b3
  have b4 := raw_len7 y3 f.rank 1
  rw [← hy4] at b4
  have b5 := raw_len7 y4 f.got 7
  rw [← hy5] at b5
  have b6 := factH_len (x := x) hf.n
  rw [← hhead] at b6
  have HX : Hid (x.b.length ≤ 1000 ∧ x.rests.length ≤ 1000 ∧ y1.b.length ≤ 1300 ∧ y2.b.length ≤ 1310 ∧ y3.b.length ≤ 1320 ∧ y4.b.length ≤ 1330 ∧ y5.b.length ≤ 1340 ∧ y6.b.length ≤ 1300 ∧ y6.rests.length ≤ 1300) := ⟨by omega, by omega, by omega, by omega, by omega, by omega, by omega, by omega, by omega⟩
  have HY1 := Lib.hid hy1
  have HY2 := Lib.hid hy2
  have HY3 := Lib.hid hy3
  have HY4 := Lib.hid hy4
  have HY5 := Lib.hid hy5
  have HY6 := Lib.hid hy6
  have HHEAD := Lib.hid hhead
  obtain ⟨x0, x1, x2, x3, x4, x5, x6, x7, x8, x9, x10, x11, x12⟩ := hst.Q.cells
  unfold faV
  unfold faCells at hw1 ⊢
  clear h hd hS hf hst hx hxr hy1 hy2 hy3 hy4 hy5 hy6 hhead b1 b2 b3 b4 b5 b6
  go_enter Try.func102, Try.ntmps102
  go_upto_region 1 with (fail)
  rw [← hw1]
  clear hw1
  go_upto_region 2 with (first
    | (go_at_call 103; refine (name_any w1 B g F x sA _ sac f.name false ST1.out.W ST1.out.D.n ST1.out.SF (by have := HLN.out; omega) ST1.out.D.cn.1 ST1.out.D.cn.2 (by have := HX.out; omega) (by have := HX.out; omega)).mono ?_; rw [← HY1.out]; rintro e w2 ⟨rfl, F2, h2, hc2, hF2⟩; have ST2 := Lib.hid (ST1.out.step h2 hc2 hF2); clear h2 hc2 hF2)
    | fail)
  clear x0 x1 x2 x3 x4 x5 x6 x7 x8 x9 x10 x11 x12
  obtain ⟨x0, x1, x2, x3, x4, x5, x6, x7, x8, x9, x10, x11, x12⟩ := ST2.out.Q.cells
  go_upto_region 3 with (first
    | (go_at_call 101; refine (wnum_any w2 B g F2 y1 (f.type) 2 ST2.out.W (by have := HX.out; omega)).mono ?_; rw [← HY2.out]; rintro e w3 ⟨rfl, F3, h3, hc3, hF3⟩; have ST3 := Lib.hid (ST2.out.step h3 hc3 hF3); clear h3 hc3 hF3)
    | fail)
  clear x0 x1 x2 x3 x4 x5 x6 x7 x8 x9 x10 x11 x12
  obtain ⟨x0, x1, x2, x3, x4, x5, x6, x7, x8, x9, x10, x11, x12⟩ := ST3.out.Q.cells
  go_upto_region 4 with (first
    | (go_at_call 101; refine (wnum_any w3 B g F3 y2 (f.kind) 1 ST3.out.W (by have := HX.out; omega)).mono ?_; rw [← HY3.out]; rintro e w4 ⟨rfl, F4, h4, hc4, hF4⟩; have ST4 := Lib.hid (ST3.out.step h4 hc4 hF4); clear h4 hc4 hF4)
    | fail)
  clear x0 x1 x2 x3 x4 x5 x6 x7 x8 x9 x10 x11 x12
  obtain ⟨x0, x1, x2, x3, x4, x5, x6, x7, x8, x9, x10, x11, x12⟩ := ST4.out.Q.cells
  go_upto_region 5 with (first
    | (go_at_call 101; refine (wnum_any w4 B g F4 y3 (f.rank) 1 ST4.out.W (by have := HX.out; omega)).mono ?_; rw [← HY4.out]; rintro e w5 ⟨rfl, F5, h5, hc5, hF5⟩; have ST5 := Lib.hid (ST4.out.step h5 hc5 hF5); clear h5 hc5 hF5)
    | fail)
  clear x0 x1 x2 x3 x4 x5 x6 x7 x8 x9 x10 x11 x12
  obtain ⟨x0, x1, x2, x3, x4, x5, x6, x7, x8, x9, x10, x11, x12⟩ := ST5.out.Q.cells
  go_upto_region 6 with (first
    | (go_at_call 101; refine (wnum_any w5 B g F5 y4 (f.got) 7 ST5.out.W (by have := HX.out; omega)).mono ?_; rw [← HY5.out]; rintro e w6 ⟨rfl, F6, h6, hc6, hF6⟩; have ST6 := Lib.hid (ST5.out.step h6 hc6 hF6); clear h6 hc6 hF6)
    | fail)
  clear x0 x1 x2 x3 x4 x5 x6 x7 x8 x9 x10 x11 x12
  obtain ⟨x0, x1, x2, x3, x4, x5, x6, x7, x8, x9, x10, x11, x12⟩ := ST6.out.Q.cells
  go_upto_region 7 with (first
    | (go_at_call 101; refine (wnum_any w6 B g F6 y5 (f.ttl) 4 ST6.out.W (by have := HX.out; omega)).mono ?_; rw [← HY6.out]; rintro e w7 ⟨rfl, F7, h7, hc7, hF7⟩; have ST7 := Lib.hid (ST6.out.step h7 hc7 hF7); clear h7 hc7 hF7)
    | fail)
  clear x0 x1 x2 x3 x4 x5 x6 x7 x8 x9 x10 x11 x12
  obtain ⟨x0, x1, x2, x3, x4, x5, x6, x7, x8, x9, x10, x11, x12⟩ := ST7.out.Q.cells
  by_cases hk : f.kind = 1
  · have hkb : (f.kind != 1) = false := by simp [hk]
    have HSET := Lib.hid (HF.out.set hk)
    have HEND : Hid (x.fact f = (y6.raw (putB [] (f.set.length : Int) 1)).dats f.type f.set) := by
      show _ = _
      unfold Wr.fact
      rw [if_pos hk, HHEAD.out]
    clear hk
    obtain ⟨n, hn⟩ : ∃ n, n = f.set.length := ⟨_, rfl⟩
    have HN := Lib.hid hn
    obtain ⟨y7, hy7⟩ : ∃ y, y = y6.raw (putB [] (n : Int) 1) := ⟨_, rfl⟩
    have HY7 := Lib.hid hy7
    have HX7 : Hid (y7.b.length ≤ 1310 ∧ y7.rests.length ≤ 1300) := ⟨by have h1 := raw_len7 y6 (n : Int) 1; rw [← hy7] at h1; have := HX.out; omega, by rw [hy7]; exact HX.out.2.2.2.2.2.2.2.2⟩
    rw [← hn] at x6 HEND
    rw [← hn]
    rw [← hy7] at HEND
    clear hn hy7
    go_upto_region 11 with (first
      | (go_at_call 101; refine (wnum_any w7 B g F7 y6 (n : Int) 1 ST7.out.W (by have := HX.out; omega)).mono ?_; rw [← HY7.out]; rintro e w8 ⟨rfl, F8, h8, hc8, hF8⟩; have ST8 := Lib.hid (ST7.out.step h8 hc8 hF8); clear h8 hc8 hF8)
      | fail)
    clear x0 x1 x2 x3 x4 x5 x6 x7 x8 x9 x10 x11 x12
    have x6 : w8.cell? ⟨w.heap.size, 6, none⟩ = some (.slice sS n ssc) := by rw [HN.out]; exact (ST8.out.Q.cell 6).trans rfl
    have HNL : Hid (n ≤ 64) := by show _ ≤ _; rw [HN.out]; exact HSET.out.1
    have x1 : w8.cell? ⟨w.heap.size, 1, none⟩ = some (.int .i64 f.type) := (ST8.out.Q.cell 1).trans rfl
    go_wp2
    go_loopw [49] (fun iv wr => ∃ (i : Nat) (Fk : Nat → Prop), iv = .int .i64 i ∧ i ≤ n ∧ Hid (FaSt w wr B g F Fk (y7.dats f.type (f.set.take i)) w.heap.size S ⟨sA, sac, sS, ssc, sZ, szc, sd⟩ f)) (fun iv _ => n - (intOf iv).toNat)
    case atStart => exact ⟨0, F8, rfl, Nat.zero_le _, ST8.out⟩
    case round =>
      obtain ⟨i, Fk, rfl, hi, HK⟩ := hrel
      by_cases hlt : i < n
      · obtain ⟨d, hx⟩ : ∃ d, f.set[i]? = some d := ⟨_, List.getElem?_eq_getElem (by rw [← HN.out]; exact hlt)⟩
        have HX1 := Lib.hid hx
        have HFD : Hid (FineD f.type d) := HSET.out.2 d (List.mem_of_getElem? hx)
        obtain ⟨b, off, t, hA, -, hdi, hcc⟩ := da_at HK.out.D.l hx
        have hA' : sS = some ⟨b, off, none⟩ := hA
        subst hA'
        obtain ⟨d0, d1, d2, d3, d4⟩ := hcc
        have hbx : Below wr.heap.size wr (wr.alloc (.cells #[.slice t.A0 d.bytes.length t.c0, .slice t.A1 d.host.length t.c1, .slice t.A2 d.mail.length t.c2, .slice t.A3 d.nums.length t.c3, .slice t.A4 d.texts.length t.c4] 46)) := bl.alloc (Nat.le_refl _) _
        obtain ⟨e0, e1, e2, e3, e4⟩ := DBox.made wr t d 46
        have HKB := Lib.hid (HK.out.below hbx)
        have HDI := Lib.hid (hdi.below hbx (fun b hb => (HK.out.SF b hb).1))
        have y1t : (wr.alloc (.cells #[.slice t.A0 d.bytes.length t.c0, .slice t.A1 d.host.length t.c1, .slice t.A2 d.mail.length t.c2, .slice t.A3 d.nums.length t.c3, .slice t.A4 d.texts.length t.c4] 46)).cell? ⟨w.heap.size, 1, none⟩ = some (.int .i64 f.type) := (HKB.out.Q.cell 1).trans rfl
        have HLB : Hid ((y7.dats f.type (f.set.take i)).b.length ≤ 8000000) := by
          have a1 := (dats_len y7 HSET.out.2 i).1
          have a2 : 83007 * i ≤ 83007 * 64 := Nat.mul_le_mul_left _ (by have := HNL.out; omega)
          have a3 : 83007 * 64 = 5312448 := by decide
          rw [a3] at a2
          have a4 := HX7.out.1
          show _ ≤ _
          exact Nat.le_trans a1 (Nat.le_trans (Nat.add_le_add a4 a2) (by decide))
        have hid1 : (i : Int) < (n : Int) := by omega
        have HI6 : Hid (n ≤ 64) := HNL.out
        have hn64 : n ≤ 64 := HNL.out
        clear hx hA hdi hbx x1 x6
        go_wp2_with (first
          | (go_at_call 150; refine (cdata_any f.type _ B g Fk _ t d S HFD.out HKB.out.W HDI.out HKB.out.SF HLB.out).mono ?_; rintro e w9 ⟨rfl, F9, h9, hc9, hF9⟩; have ST9 := Lib.hid (HKB.out.step h9 hc9 hF9); clear h9 hc9 hF9)
          | fail)
        go_roundw
        case rel => exact ⟨i + 1, F9, by go_num, by omega, by rw [dats_take y7 f.type HX1.out]; exact ST9.out⟩
        case measure => simp [intOf]; omega
      · have hie : i = n := by omega
        subst hie
        have HFIN : Hid (y7.dats f.type (f.set.take i) = x.fact f) := by show _ = _; rw [HEND.out, HN.out, dats_all]
        go_wp2
        go_end0
        exact HK.out.done HFIN.out
  · have hkb : (f.kind != 1) = true := by simp [hk]
    have HNEG := Lib.hid (HF.out.neg hk)
    have HEND : Hid ((y6.nameS f.zone false).dat 6 f.soa = x.fact f) := by
      show _ = _
      unfold Wr.fact
      rw [if_neg hk, HHEAD.out]
    clear hk
    have HX8 := Lib.hid (nameS_len (x := y6) HNEG.out.1)
    have HLZ : Hid (f.zone.length ≤ 255) := sound_len HNEG.out.1
    go_upto_region 9 with (first
      | (go_at_call 103; refine (name_any w7 B g F7 y6 sZ _ szc f.zone false ST7.out.W ST7.out.D.z ST7.out.SF (by have := HLZ.out; omega) ST7.out.D.cz.1 ST7.out.D.cz.2 (by have := HX.out; omega) (by have := HX.out; omega)).mono ?_; rintro e w8 ⟨rfl, F8, h8, hc8, hF8⟩; have ST8 := Lib.hid (ST7.out.step h8 hc8 hF8); clear h8 hc8 hF8)
      | fail)
    clear x0 x1 x2 x3 x4 x5 x6 x7 x8 x9 x10 x11 x12
    obtain ⟨x0, x1, x2, x3, x4, x5, x6, x7, x8, x9, x10, x11, x12⟩ := ST8.out.Q.cells
    go_wp2_with (first
      | (go_at_call 150; refine (cdata_any 6 w8 B g F8 (y6.nameS f.zone false) sd f.soa S HNEG.out.2 ST8.out.W ST8.out.D.d ST8.out.SF (by have := HX.out; have := HX8.out; omega)).mono ?_; rintro e w9 ⟨rfl, F9, h9, hc9, hF9⟩; have ST9 := Lib.hid (ST8.out.step h9 hc9 hF9); clear h9 hc9 hF9)
      | fail)
    go_end0
    exact ST9.out.done HEND.out

end Go.Proofs.Ytimkdpkhdbiniaa

/- code.raw and code.Encode, of any entry (printed by gen/codee.py). -/
namespace Go.Proofs.Ytimkdpkhdbiniaa
open Go.RowKit
set_option maxRecDepth 100000
set_option linter.unusedVariables false

/-- What an entry must have to be written. -/
structure EnOk (x : En) : Prop where
  k : x.kind = 1 ∨ x.kind = 2 ∨ x.kind = 3
  f : x.kind = 1 → FactOk x.f
  z : x.kind = 2 → soundB x.zone = true
theorem enOk {x : En} (h : fineE x = true) : EnOk x := by
  unfold fineE at h
  by_cases h1 : x.kind = 1
  · rw [if_pos h1] at h
    simp only [Bool.and_eq_true] at h
    exact ⟨.inl h1, fun _ => factOk h.2.2, fun h2 => by omega⟩
  · rw [if_neg h1] at h
    by_cases h2 : x.kind = 2
    · rw [if_pos h2] at h
      simp only [Bool.and_eq_true] at h
      exact ⟨.inr (.inl h2), fun h => absurd h h1, fun _ => h.2.2⟩
    · rw [if_neg h2] at h
      by_cases h3 : x.kind = 3
      · exact ⟨.inr (.inr h3), fun h => absurd h h1, fun h => absurd h h2⟩
      · rw [if_neg h3] at h; cases h
theorem enW_len {x : En} (h : EnOk x) : (enW x).b.length ≤ 6000000 := by
  unfold enW
  by_cases h1 : x.kind = 1
  · rw [if_pos h1]
    have hf := h.f h1
    have a1 := raw_len7 Wr.nil 1 1
    have a2 := factH_len (x := Wr.nil.raw (putB [] 1 1)) hf.n
    have a0 : Wr.nil.b.length = 0 := rfl
    unfold Wr.fact
    by_cases hk : x.f.kind = 1
    · rw [if_pos hk]
      obtain ⟨hl, hs⟩ := hf.set hk
      have a3 := raw_len7 ((Wr.nil.raw (putB [] 1 1)).factH x.f) (x.f.set.length : Int) 1
      have a4 := (dats_len (((Wr.nil.raw (putB [] 1 1)).factH x.f).raw (putB [] (x.f.set.length : Int) 1)) hs x.f.set.length).1
      rw [dats_all] at a4
      have a5 : 83007 * x.f.set.length ≤ 83007 * 64 := Nat.mul_le_mul_left _ hl
      refine Nat.le_trans a4 ?_
      have a6 : 83007 * 64 = 5312448 := by decide
      rw [a6] at a5
      refine Nat.le_trans (Nat.add_le_add a3 a5) ?_
      omega
    · rw [if_neg hk]
      obtain ⟨hz, hd⟩ := hf.neg hk
      have a3 := nameS_len (x := (Wr.nil.raw (putB [] 1 1)).factH x.f) hz
      have a4 := dat_len (((Wr.nil.raw (putB [] 1 1)).factH x.f).nameS x.f.zone false) hd
      omega
  · rw [if_neg h1]
    by_cases h2 : x.kind = 2
    · rw [if_pos h2]
      have := flu_le (h.z h2)
      omega
    · rw [if_neg h2]
      have a1 := putB_nil_le 3 1
      have a2 := putB_nil_le x.time 7
      rw [clkW_b, List.length_append]
      omega

set_option maxHeartbeats 16000000 in
theorem craw_any (s : ES) (x : En) (w : World) {S : Nat → Prop} (h : EnIn S w s x) (hS : ∀ b, S b → b < w.heap.size) (hf : EnOk x) :
    Calls Try.prog 56 #[enV s x] w (RetP (fun v w' => OwnB w' w.heap.size v (enW x).b) w) := by
  obtain ⟨w1, hw1⟩ : ∃ w1, w1 = w.alloc (.cells (enCells s x) 50) := ⟨_, rfl⟩
  have hb1 : Below w.heap.size w w1 := by rw [hw1]; exact bl.alloc (Nat.le_refl _) _
  have HR : Hid (EnRow w1 w.heap.size s x) := by show EnRow _ _ _ _; rw [hw1]; exact EnRow.made w s x
  have HB1 := Lib.hid hb1
  have HI : Hid (∀ u, Below w1.heap.size w1 u → EnIn S u s x) := fun u hu => (h.below hb1 hS).below hu (fun b hb => Nat.lt_of_lt_of_le (hS b hb) hb1.size)
  have HSO : Hid (∀ b, S b → b < w1.heap.size) := fun b hb => Nat.lt_of_lt_of_le (hS b hb) hb1.size
  obtain ⟨x0, x1, x2, x3, x4, x5, x6, x7, x8, x9, x10, x11, x12, x13, x14, x15⟩ := HR.out.cells
  have HF := Lib.hid hf
  have HLEN := Lib.hid (enW_len hf)
  have HKK : Hid (x.kind = 1 ∨ x.kind = 2 ∨ x.kind = 3) := hf.k
  have HE1 : Hid (x.kind = 1 → (Wr.nil.raw (putB [] x.kind 1)).fact x.f = enW x) := fun hk => by unfold enW; rw [if_pos hk, hk]
  have HE2 : Hid (x.kind = 2 → (Wr.nil.raw (putB [] x.kind 1)).nameS x.zone false = enW x) := fun hk => by unfold enW; rw [if_neg (by omega), if_pos hk, hk]; rfl
  have HE3 : Hid (x.kind = 3 → (Wr.nil.raw (putB [] x.kind 1)).raw (putB [] x.time 7) = enW x) := fun hk => by unfold enW; rw [if_neg (by omega), if_neg (by omega), hk]; rfl
  unfold enV
  unfold enCells at hw1 ⊢
  clear h hS hb1 hf
  go_enter Try.func56, Try.ntmps56
  go_upto_region 1 with (fail)
  rw [← hw1]
  clear hw1
  go_upto_region 2 with (first
    | (go_at_call 100; refine (wnew_any w1).mono ?_; rintro e w2 ⟨g, F, rfl, hW2, hb2⟩; obtain ⟨x0, x1, x2, x3, x4, x5, x6, x7, x8, x9, x10, x11, x12, x13, x14, x15⟩ := (HR.out.below hb2).cells; have HW2 := Lib.hid hW2; have HB2 := Lib.hid hb2; clear hW2 hb2)
    | fail)
  go_upto_region 3 with (first
    | (go_at_call 101; refine (wnum_any w2 w1.heap.size g F Wr.nil x.kind 1 HW2.out (by decide)).mono ?_; rintro e w3 ⟨rfl, F3, hW3, hc3, hF3⟩; have HB3 := Lib.hid (HW2.out.bw HB2.out (Nat.le_refl _) hc3); obtain ⟨x0, x1, x2, x3, x4, x5, x6, x7, x8, x9, x10, x11, x12, x13, x14, x15⟩ := (HR.out.below HB3.out).cells; have HW3 := Lib.hid hW3; clear hW3 hc3 hF3)
    | fail)
  have HD : Hid (∀ b, S b → b < w3.heap.size ∧ ¬ F3 b) := fun b hb => ⟨Nat.lt_of_lt_of_le (HSO.out b hb) HB3.out.size, fun hF => by have h1 := (HW3.out.F_lt b hF).1; have h2 := HSO.out b hb; omega⟩
  have HL3 : Hid ((Wr.nil.raw (putB [] x.kind 1)).b.length ≤ 1000 ∧ (Wr.nil.raw (putB [] x.kind 1)).rests.length ≤ 1000) := ⟨by have h1 := raw_len7 Wr.nil x.kind 1; have h2 : Wr.nil.b.length = 0 := rfl; omega, Nat.zero_le _⟩
  by_cases h1 : x.kind = 1
  · have hk : (x.kind == 1) = true := by simp [h1]
    have HEND := Lib.hid (HE1.out h1)
    have HFO := Lib.hid (HF.out.f h1)
    clear h1 HE1 HE2 HE3
    go_upto_region 10 with (first
      | (go_at_call 102; refine (cfacts_any w3 w1.heap.size g F3 _ s.f x.f S HFO.out HW3.out (HI.out w3 HB3.out).f HD.out HL3.out.1 HL3.out.2).mono ?_; rintro e w4 ⟨rfl, F4, hW4, hc4, hF4⟩; have HB4 := Lib.hid (HW3.out.bw HB3.out (Nat.le_refl _) hc4); have HW4 := Lib.hid hW4; clear hW4 hc4 hF4)
      | fail)
    clear x0 x1 x2 x3 x4 x5 x6 x7 x8 x9 x10 x11 x12 x13 x14 x15
    rw [HEND.out] at HW4
    go_wp2_with (first
      | (go_at_call 104; refine (wbytes_any w4 w1.heap.size g F4 (enW x) HW4.out (by have := HLEN.out; omega)).mono ?_; rintro e w5 ⟨v5, rfl, ho5, hb5⟩; have HB5 := Lib.hid (nx HB4.out hb5))
      | fail)
    go_ret
    exact ⟨_, rfl, ho5.mono (nx HB1.out HB4.out).size, nx HB1.out HB5.out⟩
  by_cases h2 : x.kind = 2
  · have hk0 : (x.kind == 1) = false := by simp [h1]
    have hk : (x.kind == 2) = true := by simp [h2]
    have HEND := Lib.hid (HE2.out h2)
    have HNL := Lib.hid (sound_len (HF.out.z h2))
    clear h1 h2 HE1 HE2 HE3
    go_upto_region 10 with (first
      | (go_at_call 103; refine (name_any w3 w1.heap.size g F3 _ s.Z _ s.zc x.zone false HW3.out (HI.out w3 HB3.out).z HD.out (by have := HNL.out; omega) (HI.out w3 HB3.out).cz.1 (HI.out w3 HB3.out).cz.2 (by have := HL3.out; omega) (by have := HL3.out; omega)).mono ?_; rintro e w4 ⟨rfl, F4, hW4, hc4, hF4⟩; have HB4 := Lib.hid (HW3.out.bw HB3.out (Nat.le_refl _) hc4); have HW4 := Lib.hid hW4; clear hW4 hc4 hF4)
      | fail)
    clear x0 x1 x2 x3 x4 x5 x6 x7 x8 x9 x10 x11 x12 x13 x14 x15
    rw [HEND.out] at HW4
    go_wp2_with (first
      | (go_at_call 104; refine (wbytes_any w4 w1.heap.size g F4 (enW x) HW4.out (by have := HLEN.out; omega)).mono ?_; rintro e w5 ⟨v5, rfl, ho5, hb5⟩; have HB5 := Lib.hid (nx HB4.out hb5))
      | fail)
    go_ret
    exact ⟨_, rfl, ho5.mono (nx HB1.out HB4.out).size, nx HB1.out HB5.out⟩
  have h3 : x.kind = 3 := by rcases HKK.out with h | h | h; exact absurd h h1; exact absurd h h2; exact h
  have hk0 : (x.kind == 1) = false := by simp [h1]
  have hk1 : (x.kind == 2) = false := by simp [h2]
  have hk : (x.kind == 3) = true := by simp [h3]
  have HEND := Lib.hid (HE3.out h3)
  clear h1 h2 h3 HE1 HE2 HE3
  go_upto_region 10 with (first
    | (go_at_call 101; refine (wnum_any w3 w1.heap.size g F3 _ x.time 7 HW3.out (by have := HL3.out; omega)).mono ?_; rintro e w4 ⟨rfl, F4, hW4, hc4, hF4⟩; have HB4 := Lib.hid (HW3.out.bw HB3.out (Nat.le_refl _) hc4); have HW4 := Lib.hid hW4; clear hW4 hc4 hF4)
    | fail)
  clear x0 x1 x2 x3 x4 x5 x6 x7 x8 x9 x10 x11 x12 x13 x14 x15
  rw [HEND.out] at HW4
  go_wp2_with (first
    | (go_at_call 104; refine (wbytes_any w4 w1.heap.size g F4 (enW x) HW4.out (by have := HLEN.out; omega)).mono ?_; rintro e w5 ⟨v5, rfl, ho5, hb5⟩; have HB5 := Lib.hid (nx HB4.out hb5))
    | fail)
  go_ret
  exact ⟨_, rfl, ho5.mono (nx HB1.out HB4.out).size, nx HB1.out HB5.out⟩

/-- What Encode answers. -/
noncomputable def encE (x : En) : List UInt8 × Int := if fineE x = true then if (enW x).b.length ≤ 16384 then ((enW x).b, 0) else ([], 4) else ([], 2)
theorem encE_bad {x : En} (h : fineE x = false) : encE x = ([], 2) := by unfold encE; rw [if_neg (by rw [h]; decide)]
theorem encE_large {x : En} (h : fineE x = true) (hl : 16384 < (enW x).b.length) : encE x = ([], 4) := by unfold encE; rw [if_pos h, if_neg (by omega)]
theorem encE_ok {x : En} (h : fineE x = true) (hl : (enW x).b.length ≤ 16384) : encE x = ((enW x).b, 0) := by unfold encE; rw [if_pos h, if_pos hl]
set_option maxHeartbeats 16000000 in
theorem cEncode_any (s : ES) (x : En) (w : World) {S : Nat → Prop} (h : EnIn S w s x) (hS : ∀ b, S b → b < w.heap.size) (hL : LtE x) :
    Calls Try.prog 20 #[enV s x] w (RetP (fun v w' => ∃ A c, v = .tuple #[.slice A (encE x).1.length c, .int .i64 (encE x).2] ∧ OwnB w' w.heap.size (.slice A (encE x).1.length c) (encE x).1) w) := by
  obtain ⟨w1, hw1⟩ : ∃ w1, w1 = w.alloc (.cells (enCells s x) 50) := ⟨_, rfl⟩
  have hb1 : Below w.heap.size w w1 := by rw [hw1]; exact bl.alloc (Nat.le_refl _) _
  have HR : Hid (EnRow w1 w.heap.size s x) := by show EnRow _ _ _ _; rw [hw1]; exact EnRow.made w s x
  have HB1 := Lib.hid hb1
  have HI : Hid (∀ u, Below w1.heap.size w1 u → EnIn S u s x) := fun u hu => (h.below hb1 hS).below hu (fun b hb => Nat.lt_of_lt_of_le (hS b hb) hb1.size)
  have HSO : Hid (∀ b, S b → b < w1.heap.size) := fun b hb => Nat.lt_of_lt_of_le (hS b hb) hb1.size
  obtain ⟨x0, x1, x2, x3, x4, x5, x6, x7, x8, x9, x10, x11, x12, x13, x14, x15⟩ := HR.out.cells
  have HSN := Lib.hid (csound_any s x w1 (HI.out w1 bl) HSO.out hL)
  have HRW : Hid (fineE x = true → ∀ u, Below w1.heap.size w1 u → Calls Try.prog 56 #[enV s x] u (RetP (fun v w' => OwnB w' u.heap.size v (enW x).b) u)) := fun hf u hu => craw_any s x u (HI.out u hu) (fun b hb => Nat.lt_of_lt_of_le (HSO.out b hb) hu.size) (enOk hf)
  have HEB := Lib.hid (@encE_bad x)
  have HEL := Lib.hid (@encE_large x)
  have HEO := Lib.hid (@encE_ok x)
  generalize encE x = E at HEB HEL HEO ⊢
  generalize fineE x = R at HSN HRW HEB HEL HEO
  obtain ⟨bs, hbs⟩ : ∃ bs, bs = (enW x).b := ⟨_, rfl⟩
  rw [← hbs] at HRW HEL HEO
  unfold enV at HSN HRW ⊢
  unfold enCells at hw1 HSN HRW ⊢
  clear h hS hb1 hL hbs
  cases R with
  | false =>
    obtain rfl : E = ([], 2) := HEB.out rfl
    clear HEB HEL HEO HRW
    go_enter Try.func20, Try.ntmps20
    go_upto_region 1 with (fail)
    rw [← hw1]
    clear hw1
    go_wp2_with (first
      | (go_at_call 23; refine HSN.out.mono ?_; rintro e w2 ⟨v2, rfl, rfl, hb2⟩)
      | fail)
    go_ret2
    exact ⟨_, rfl, ⟨none, 0, rfl, ⟨rfl, .inl ⟨rfl, rfl⟩⟩⟩, nx HB1.out hb2⟩
  | true =>
    have HRW' := Lib.hid (HRW.out rfl)
    clear HRW
    go_enter Try.func20, Try.ntmps20
    go_upto_region 1 with (fail)
    rw [← hw1]
    clear hw1
    go_upto_region 4 with (first
      | (go_at_call 56; refine (HRW'.out w2 hb2).mono ?_; rintro e w3 ⟨v3, rfl, ho3, hb3⟩; have HO3 := Lib.hid ho3; obtain ⟨A3, c3, rfl, _, _, _⟩ := OwnB.form ho3; have HB3 := Lib.hid (nx hb2 hb3); have HZ : Hid (w.heap.size ≤ w2.heap.size) := (nx HB1.out hb2).size)
      | (go_at_call 23; refine HSN.out.mono ?_; rintro e w2 ⟨v2, rfl, rfl, hb2⟩; obtain ⟨x0, x1, x2, x3, x4, x5, x6, x7, x8, x9, x10, x11, x12, x13, x14, x15⟩ := (HR.out.below hb2).cells)
      | fail)
    clear x0 x1 x2 x3 x4 x5 x6 x7 x8 x9 x10 x11 x12 x13 x14 x15 ho3
    by_cases hl : bs.length ≤ 16384
    · obtain rfl : E = (bs, 0) := HEO.out (by first | rfl | trivial) hl
      have hld : decide ((16384 : Int) < (bs.length : Int)) = false := decide_eq_false (by omega)
      clear HEB HEL HEO hl
      go_wp2
      go_ret2
      exact ⟨_, rfl, ⟨A3, c3, rfl, HO3.out.mono HZ.out⟩, nx HB1.out HB3.out⟩
    · obtain rfl : E = ([], 4) := HEL.out (by first | rfl | trivial) (by omega)
      have hld : decide ((16384 : Int) < (bs.length : Int)) = true := decide_eq_true (by omega)
      clear HEB HEL HEO hl
      go_wp2
      go_ret2
      exact ⟨_, rfl, ⟨none, 0, rfl, ⟨rfl, .inl ⟨rfl, rfl⟩⟩⟩, nx HB1.out HB3.out⟩
end Go.Proofs.Ytimkdpkhdbiniaa
