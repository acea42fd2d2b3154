/- Parts of a proof, joined: RCode. -/
import Derived.Test.YtimkdpkhdbiniaaF09
import Derived.Test.YtimkdpkhdbiniaaM07b
import Derived.Test.YtimkdpkhdbiniaaM30
/- The reference: which bytes an entry is (printed by gen/rcode.py). -/
namespace Go.Proofs.Ytimkdpkhdbiniaa
open Go.RowKit
set_option maxRecDepth 100000
set_option linter.unusedVariables false

def oneR (k : Int) (d : Da) : RW := RW.nil.data (shapeP k) d
def RW.dat (x : RW) (k : Int) (d : Da) : RW := (x.raw (putB [] ((oneR k d).b.length : Int) 2)).raw (oneR k d).b
def RW.dats (x : RW) (k : Int) (l : List Da) : RW := l.foldl (fun x d => x.dat k d) x
def RW.factH (x : RW) (f : Fa) : RW := (((((x.name f.name false).raw (putB [] f.type 2)).raw (putB [] f.kind 1)).raw (putB [] f.rank 1)).raw (putB [] f.got 7)).raw (putB [] f.ttl 4)
def RW.fact (x : RW) (f : Fa) : RW :=
  if f.kind = 1 then ((x.factH f).raw (putB [] (f.set.length : Int) 1)).dats f.type f.set
  else ((x.factH f).name f.zone false).dat 6 f.soa
def enR (x : En) : RW :=
  if x.kind = 1 then (RW.nil.raw (putB [] x.kind 1)).fact x.f
  else if x.kind = 2 then (RW.nil.raw (putB [] x.kind 1)).name x.zone false
  else (RW.nil.raw (putB [] x.kind 1)).raw (putB [] x.time 7)
theorem RW.dats_take (x : RW) (k : Int) {l : List Da} {i : Nat} {d : Da} (h : l[i]? = some d) : x.dats k (l.take (i + 1)) = (x.dats k (l.take i)).dat k d := foldl_take _ _ h
theorem one_alike {k : Int} {d : Da} (h : FineD k d) : (oneR k d).b = (oneW k d).b := ((alike_nil.data h.2).1).symm
theorem Alike.dat {x : Wr} {y : RW} (h : Alike x y) {k : Int} {d : Da} (hf : FineD k d) : Alike (x.dat k d) (y.dat k d) := by
  unfold Wr.dat RW.dat
  rw [one_alike hf]
  exact (h.raw _).raw _
theorem Alike.dats {x : Wr} {y : RW} (h : Alike x y) {k : Int} : ∀ {l : List Da}, (∀ d ∈ l, FineD k d) → Alike (x.dats k l) (y.dats k l) := by
  intro l
  induction l generalizing x y with
  | nil => intro _; exact h
  | cons d l ih => intro hf; exact ih (h.dat (hf d (List.mem_cons_self ..))) (fun z hz => hf z (List.mem_cons_of_mem _ hz))
theorem Alike.nameS {x : Wr} {y : RW} (h : Alike x y) {n : List (List UInt8)} (hn : soundB n = true) : Alike (x.nameS n false) (y.name n false) := by
  unfold Wr.nameS
  rw [if_pos hn]
  exact Alike.name (small_of_sound (soundB_iff.1 hn)) false h
theorem Alike.factH {x : Wr} {y : RW} (h : Alike x y) {f : Fa} (hn : soundB f.name = true) : Alike (x.factH f) (y.factH f) := (((((h.nameS hn).raw _).raw _).raw _).raw _).raw _
theorem Alike.fact {x : Wr} {y : RW} (h : Alike x y) {f : Fa} (hf : FactOk f) : Alike (x.fact f) (y.fact f) := by
  unfold Wr.fact RW.fact
  by_cases hk : f.kind = 1
  · rw [if_pos hk, if_pos hk]
    exact ((h.factH hf.n).raw _).dats (hf.set hk).2
  · rw [if_neg hk, if_neg hk]
    exact ((h.factH hf.n).nameS (hf.neg hk).1).dat (hf.neg hk).2
theorem RW.Fine.dat {y : RW} (h : y.Fine) {k : Int} {d : Da} (hf : FineD k d) : (y.dat k d).Fine := (h.raw _).raw _
/-- What a writer of the reference's has written since a world. -/
structure RFaSt (w wr : World) (B g : Nat) (F Fr : Nat → Prop) (y : RW) (q : Nat) (S : Nat → Prop) (s : FS) (f : Fa) : Prop where
  W : RWtr wr B Fr g y
  fine : y.Fine
  C : Chg F w wr
  N : ∀ z, Fr z → F z ∨ w.heap.size ≤ z
  Q : FaRow wr q s f
  D : FaIn S wr s f
  qF : ¬ Fr q
  SF : ∀ b, S b → b < wr.heap.size ∧ ¬ Fr b
theorem RFaSt.step {w wr w' : World} {B g q : Nat} {F Fr F' S : Nat → Prop} {y y' : RW} {s : FS} {f : Fa} (h : RFaSt w wr B g F Fr y q S s f) (hw : RWtr w' B F' g y') (hf : y'.Fine) (hc : Chg Fr wr w') (hF : ∀ z, F' z → Fr z ∨ wr.heap.size ≤ z) : RFaSt w w' B g F F' y' q S s f where
  W := hw
  fine := hf
  C := h.C.trans hc h.N
  N := fun k hk => (hF k hk).elim (h.N k) (fun hl => .inr (Nat.le_trans h.C.size hl))
  Q := hc.heap h.Q h.qF
  D := h.D.chg hc h.SF
  qF := fun hq => (hF q hq).elim h.qF (fun hl => by have := (Array.getElem?_eq_some_iff.1 h.Q).1; omega)
  SF := fun b hb => ⟨Nat.lt_of_lt_of_le (h.SF b hb).1 hc.size, fun hq => (hF b hq).elim (h.SF b hb).2 (fun hl => by have := (h.SF b hb).1; omega)⟩
theorem RFaSt.below {w wr w' : World} {B g q : Nat} {F Fr S : Nat → Prop} {y : RW} {s : FS} {f : Fa} (h : RFaSt w wr B g F Fr y q S s f) (hb : Below wr.heap.size wr w') : RFaSt w w' B g F Fr y q S s f := h.step (h.W.chg (G := fun _ => False) (Chg.of_below hb) (fun _ _ h => h)) h.fine (Chg.of_below hb) (fun _ hz => .inl hz)

set_option maxHeartbeats 8000000 in
theorem rdat_any (k : Int) (w : World) (B g : Nat) (F : Nat → Prop) (x : RW) (s : DS) (d : Da) (S : Nat → Prop) (hf : FineD k d) (h : RWtr w B F g x) (hd : DIn S w s d) (hS : ∀ b, S b → b < w.heap.size ∧ ¬ F b) (hx : x.b.length ≤ 8000000) :
    Calls Try.prog 65 #[.pointer (some ⟨g, 0, none⟩), .int .i64 k, dsV s d] w (RetR w B F g (x.dat k d) (.tuple #[])) := by
  obtain ⟨w1, hw1⟩ : ∃ w1, w1 = w.alloc (.cells #[.slice s.A0 d.bytes.length s.c0, .slice s.A1 d.host.length s.c1, .slice s.A2 d.mail.length s.c2, .slice s.A3 d.nums.length s.c3, .slice s.A4 d.texts.length s.c4] 46) := ⟨_, rfl⟩
  obtain ⟨w2, hw2⟩ : ∃ w2, w2 = w1.alloc (.cells #[.slice none 0 0, .slice none 0 0] 103) := ⟨_, rfl⟩
  have hb1 : Below w.heap.size w w1 := by rw [hw1]; exact bl.alloc (Nat.le_refl _) _
  have hb2 : Below w1.heap.size w1 w2 := by rw [hw2]; exact bl.alloc (Nat.le_refl _) _
  have hD1 : DBox w1 w.heap.size s d := by rw [hw1]; exact DBox.made w s d _
  obtain ⟨x0, x1, x2, x3, x4⟩ := hD1.below hb2
  have HW2 : Hid (RWtr w2 w1.heap.size (fun k => k = w1.heap.size) w1.heap.size RW.nil) := by show RWtr _ _ _ _ _; rw [hw2]; exact RWtr.made w1
  have hz1 : w1.heap.size = w.heap.size + 1 := by rw [hw1]; simp
  have hFl : ∀ z, F z → z < w.heap.size := fun z hz => (h.F_lt z hz).2
  have HX2 : Hid (RWtr w2 B F g x) := h.chg (G := fun _ => False) (Chg.of_below (nx hb1 hb2)) (fun _ _ h => h)
  have HB2 : Hid (Below w.heap.size w w2) := nx hb1 hb2
  have HD2 : Hid (DIn S w2 s d) := hd.below (nx hb1 hb2) (fun b hb => (hS b hb).1)
  have HS2 : Hid (∀ b, S b → b < w2.heap.size ∧ ¬ b = w1.heap.size) := fun b hb => ⟨Nat.lt_of_lt_of_le (hS b hb).1 (nx hb1 hb2).size, fun e => by have := (hS b hb).1; omega⟩
  have HF := Lib.hid hf
  have HOL : Hid ((oneR k d).b.length ≤ 83000) := by show _ ≤ _; rw [one_alike hf]; exact one_len hf
  have HX := Lib.hid hx
  have HFL := Lib.hid hFl
  have HZ1 := Lib.hid hz1
  unfold dsV
  clear h hd hS hf hx hb1 hb2 hD1 hFl hz1
  go_enter Try.func65, Try.ntmps65
  go_upto_region 1 with (fail)
  rw [← hw1]
  clear hw1
  go_upto_region 2 with (fail)
  rw [← hw2]
  clear hw2
  go_upto_region 3 with (first
    | (go_at_call 115; refine (rputD_any k w2 w1.heap.size w1.heap.size (fun k => k = w1.heap.size) RW.nil s d S HF.out HW2.out RW.fine_nil HD2.out HS2.out (by decide) (by decide)).mono ?_; rintro e w3 ⟨rfl, F3, hW3, hc3, hF3⟩; have HW3 : Hid (RWtr w3 w1.heap.size F3 w1.heap.size (oneR k d)) := hW3; have HC3 := Lib.hid hc3; clear hW3 hc3 hF3)
    | fail)
  clear x0 x1 x2 x3 x4
  have HX3 : Hid (RWtr w3 B F g x) := HX2.out.chg HC3.out (fun z hz e => by have h1 := HFL.out z hz; have h2 := HZ1.out; omega)
  have HC03 : Hid (Chg F w w3) := (Chg.of_below HB2.out).trans HC3.out (fun z hz => .inr (by have h2 := HZ1.out; omega))
  obtain ⟨n, hn⟩ : ∃ n, n = (oneR k d).b.length := ⟨_, rfl⟩
  have HN := Lib.hid hn
  have hdat : x.dat k d = (x.raw (putB [] (n : Int) 2)).raw (oneR k d).b := by rw [hn]; rfl
  have HDAT := Lib.hid hdat
  have hbl : ∃ A c, w3.cell? ⟨w1.heap.size, 0, none⟩ = some (.slice A n c) := by
    obtain ⟨bv, rv, S, hg, hb, _⟩ := HW3.out
    obtain ⟨A, c, rfl, _⟩ := hb.form
    rw [hn]
    exact ⟨A, c, (cell_of_row _ _ _ _ _ _ hg).trans rfl⟩
  obtain ⟨A3, c3, y0⟩ := hbl
  clear hn hdat
  have hnb : n ≤ 83000 := by rw [HN.out]; exact HOL.out
  go_upto_region 4 with (first
    | (go_at_call 63; refine (rwnum_any w3 B g F x (n : Int) 2 HX3.out (by have := HX.out; omega) (by omega)).mono ?_; rintro e w4 ⟨rfl, F4, hW4, hc4, hF4⟩; have HW4 := Lib.hid hW4; have HC4 := Lib.hid hc4; have HF4 := Lib.hid hF4; clear hW4 hc4 hF4)
    | fail)
  clear y0
  have HO4 : Hid (RWtr w4 w1.heap.size F3 w1.heap.size (oneR k d)) := HW3.out.chg HC4.out (fun z hz h2 => by have h3 := (HW3.out.F_lt z hz).1; have h4 := HFL.out z h2; have h5 := HZ1.out; omega)
  have hbl : ∃ A c, w4.cell? ⟨w1.heap.size, 0, none⟩ = some (.slice A n c) ∧ Hid (RdB w4 A n (oneR k d).b) := by
    obtain ⟨bv, rv, S, hg, hb, _⟩ := HO4.out
    obtain ⟨A, c, rfl, hr, _, _⟩ := hb.form
    rw [HN.out]
    exact ⟨A, c, (cell_of_row _ _ _ _ _ _ hg).trans rfl, hr⟩
  obtain ⟨A4, c4, y0, HR4⟩ := hbl
  go_wp2_with (first
    | (go_at_call 94; refine (rwraw_any w4 B g F4 (x.raw (putB [] (n : Int) 2)) A4 n c4 (oneR k d).b HW4.out HR4.out (by have h1 := HX.out; have h2 := putB_nil_le (n : Int) 2; show (x.b ++ _).length + n ≤ _; rw [List.length_append]; omega)).mono ?_; rintro e w5 ⟨rfl, F5, hW5, hc5, hF5⟩)
    | fail)
  go_end0
  rw [HDAT.out]
  exact ⟨rfl, F5, hW5, (HC03.out.trans HC4.out (fun z hz => .inl hz)).trans hc5 (fun z hz => (HF4.out z hz).elim .inl (fun h => .inr (Nat.le_trans HC03.out.size h))), fun z hz => (hF5 z hz).elim (fun h => (HF4.out z h).elim .inl (fun h => .inr (Nat.le_trans HC03.out.size h))) (fun h => .inr (Nat.le_trans (Nat.le_trans HC03.out.size HC4.out.size) h))⟩

set_option maxHeartbeats 16000000 in
theorem rBytes1_any (kind time : Int) (s : FS) (f : Fa) (Z : Option Addr) (zn zc : Nat) (w : World) {S : Nat → Prop} (hk : kind = 1) (hf : FactOk f) (hd : FaIn S w s f) (hS : ∀ b, S b → b < w.heap.size) :
    Calls Try.prog 24 #[.int .i64 kind, .int .i64 time, faV s f, .slice Z zn zc] w (RetP (fun v w' => ∃ A c, v = .slice A ((RW.nil.raw (putB [] kind 1)).fact f).b.length c ∧ RdB w' A ((RW.nil.raw (putB [] kind 1)).fact f).b.length ((RW.nil.raw (putB [] kind 1)).fact f).b ∧ ((RW.nil.raw (putB [] kind 1)).fact f).b.length ≤ c ∧ c ≤ maxLen) w) := by
  subst hk
  obtain ⟨sA, sac, sS, ssc, sZ, szc, sd⟩ := s
  obtain ⟨w1, hw1⟩ : ∃ w1, w1 = w.alloc (.cells (faCells ⟨sA, sac, sS, ssc, sZ, szc, sd⟩ f) 48) := ⟨_, rfl⟩
  obtain ⟨w2, hw2⟩ : ∃ w2, w2 = w1.alloc (.cells #[.slice none 0 0, .slice none 0 0] 103) := ⟨_, rfl⟩
  have hb1 : Below w.heap.size w w1 := by rw [hw1]; exact bl.alloc (Nat.le_refl _) _
  have hb2 : Below w1.heap.size w1 w2 := by rw [hw2]; exact bl.alloc (Nat.le_refl _) _
  have hz1 : w1.heap.size = w.heap.size + 1 := by rw [hw1]; simp
  obtain ⟨g0, hg0⟩ : ∃ g, g = w1.heap.size := ⟨_, rfl⟩
  have hQ1 : FaRow w1 w.heap.size ⟨sA, sac, sS, ssc, sZ, szc, sd⟩ f := by rw [hw1]; exact FaRow.made w _ f
  have hW2 : RWtr w2 g0 (fun k => k = g0) g0 RW.nil := by rw [hw2, hg0]; exact RWtr.made w1
  have ST2 : Hid (RFaSt w2 w2 g0 g0 (fun k => k = g0) (fun k => k = g0) RW.nil w.heap.size S ⟨sA, sac, sS, ssc, sZ, szc, sd⟩ f) := ⟨hW2, RW.fine_nil, Chg.refl _ _, fun _ h => .inl h, hQ1.below hb2, hd.below (nx hb1 hb2) hS, fun e => by omega, fun b hb => ⟨Nat.lt_of_lt_of_le (hS b hb) (nx hb1 hb2).size, fun e => by have := hS b hb; omega⟩⟩
  have HB2 : Hid (Below w.heap.size w w2) := nx hb1 hb2
  have HG0 : Hid (w.heap.size ≤ g0 ∧ g0 < w2.heap.size) := ⟨by omega, by have := hW2.F_lt g0 rfl; exact this.2⟩
  have HF := Lib.hid hf
  obtain ⟨y0, hy0⟩ : ∃ y, y = RW.nil.raw (putB [] 1 1) := ⟨_, rfl⟩
  obtain ⟨y1, hy1⟩ : ∃ y, y = y0.name f.name false := ⟨_, rfl⟩
  obtain ⟨y2, hy2⟩ : ∃ y, y = y1.raw (putB [] f.type 2) := ⟨_, rfl⟩
  obtain ⟨y3, hy3⟩ : ∃ y, y = y2.raw (putB [] f.kind 1) := ⟨_, rfl⟩
  obtain ⟨y4, hy4⟩ : ∃ y, y = y3.raw (putB [] f.rank 1) := ⟨_, rfl⟩
  obtain ⟨y5, hy5⟩ : ∃ y, y = y4.raw (putB [] f.got 7) := ⟨_, rfl⟩
  obtain ⟨y6, hy6⟩ : ∃ y, y = y5.raw (putB [] f.ttl 4) := ⟨_, rfl⟩
  have hhead : y6 = y0.factH f := by rw [hy6, hy5, hy4, hy3, hy2, hy1]; rfl
  -- how long: as the program's writer
  have al0 : Alike (Wr.nil.raw (putB [] 1 1)) y0 := by rw [hy0]; exact alike_nil.raw _
  have al1 : Alike ((Wr.nil.raw (putB [] 1 1)).nameS f.name false) y1 := by rw [hy1]; exact al0.nameS hf.n
  have al6 : Alike ((Wr.nil.raw (putB [] 1 1)).factH f) y6 := by rw [hhead]; exact al0.factH hf.n
  have c0 := raw_len7 Wr.nil 1 1
  have c00 : Wr.nil.b.length = 0 := rfl
  have c1 := nameS_len (x := Wr.nil.raw (putB [] 1 1)) hf.n
  rw [al1.1] at c1
  have c6 := factH_len (x := Wr.nil.raw (putB [] 1 1)) hf.n
  rw [al6.1] at c6
  have d2 : y2.b.length ≤ y1.b.length + 7 := by rw [hy2]; have := putB_nil_le f.type 2; show (y1.b ++ _).length ≤ _; rw [List.length_append]; omega
  have d3 : y3.b.length ≤ y2.b.length + 7 := by rw [hy3]; have := putB_nil_le f.kind 1; show (y2.b ++ _).length ≤ _; rw [List.length_append]; omega
  have d4 : y4.b.length ≤ y3.b.length + 7 := by rw [hy4]; have := putB_nil_le f.rank 1; show (y3.b ++ _).length ≤ _; rw [List.length_append]; omega
  have d5 : y5.b.length ≤ y4.b.length + 7 := by rw [hy5]; have := putB_nil_le f.got 7; show (y4.b ++ _).length ≤ _; rw [List.length_append]; omega
  have hrest : y6.rests.length ≤ 255 := by
    have h1 := RW.name_rests (x := y0) f.name false
    have h2 : y0.rests.length = 0 := by rw [hy0]; rfl
    have h3 : y6.rests = y1.rests := by rw [hy6, hy5, hy4, hy3, hy2]; rfl
    have h4 := sound_len hf.n
    rw [h3, hy1]
    omega
  have r0 : y0.rests.length = 0 := by rw [hy0]; rfl
  have e0 : y0.b.length ≤ 7 := by rw [← al0.1]; omega
  have HX : Hid (y0.b.length ≤ 1000 ∧ y0.rests.length ≤ 1000 ∧ y1.b.length ≤ 1300 ∧ y2.b.length ≤ 1310 ∧ y3.b.length ≤ 1320 ∧ y4.b.length ≤ 1330 ∧ y5.b.length ≤ 1340 ∧ y6.b.length ≤ 1300 ∧ y6.rests.length ≤ 1300) := ⟨by omega, by omega, by omega, by omega, by omega, by omega, by omega, by omega, by omega⟩
  have HY0 := Lib.hid hy0
  have HY1 := Lib.hid hy1
  have HY2 := Lib.hid hy2
  have HY3 := Lib.hid hy3
  have HY4 := Lib.hid hy4
  have HY5 := Lib.hid hy5
  have HY6 := Lib.hid hy6
  have HHEAD := Lib.hid hhead
  have HAL6 := Lib.hid al6
  have HRES : Hid ((RW.nil.raw (putB [] 1 1)).fact f = y0.fact f) := by show _ = _; rw [hy0]
  have HII : Hid (f.type ≤ 9223372036854775807 ∧ f.kind ≤ 9223372036854775807 ∧ f.rank ≤ 9223372036854775807 ∧ f.got ≤ 9223372036854775807 ∧ f.ttl ≤ 9223372036854775807) := ⟨hd.it.2, hd.ik.2, hd.ir.2, hd.ig.2, hd.il.2⟩
  obtain ⟨x0, x1, x2, x3, x4, x5, x6, x7, x8, x9, x10, x11, x12⟩ := ST2.out.Q.cells
  unfold faV
  unfold faCells at hw1 ⊢
  rw [HRES.out]
  clear hd hS hf hb1 hb2 hz1 hQ1 hW2 hy0 hy1 hy2 hy3 hy4 hy5 hy6 hhead al0 al1 al6 c0 c00 c1 c6 d2 d3 d4 d5 hrest r0 e0
  go_enter Try.func24, Try.ntmps24
  go_upto_region 1 with (fail)
  rw [← hw1]
  clear hw1
  go_upto_region 2 with (fail)
  rw [← hw2, ← hg0]
  clear hw2 hg0
  go_upto_region 3 with (first
    | (go_at_call 63; refine (rwnum_any w2 g0 g0 (fun k => k = g0) RW.nil (1) 1 ST2.out.W (by decide) (by decide)).mono ?_; rw [← HY0.out]; rintro e w3 ⟨rfl, F3, h3, hc3, hF3⟩; have ST3 := Lib.hid (ST2.out.step h3 (by rw [HY0.out]; exact ST2.out.fine.raw _) hc3 hF3); clear h3 hc3 hF3)
    | fail)
  clear x0 x1 x2 x3 x4 x5 x6 x7 x8 x9 x10 x11 x12
  obtain ⟨x0, x1, x2, x3, x4, x5, x6, x7, x8, x9, x10, x11, x12⟩ := ST3.out.Q.cells
  go_upto_region 10 with (first
    | (go_at_call 64; refine (rwname_any w3 g0 g0 F3 y0 sA _ sac f.name false ST3.out.W ST3.out.D.n ST3.out.SF (soundB_iff.1 HF.out.n) ST3.out.fine ST3.out.D.cn.1 ST3.out.D.cn.2 (by have := HX.out; omega) (by have := HX.out; omega)).mono ?_; rw [← HY1.out]; rintro e w4 ⟨rfl, F4, h4, hc4, hF4⟩; have ST4 := Lib.hid (ST3.out.step h4 (by rw [HY1.out]; exact RW.Fine.name (soundB_iff.1 HF.out.n) false ST3.out.fine) hc4 hF4); clear h4 hc4 hF4)
    | fail)
  clear x0 x1 x2 x3 x4 x5 x6 x7 x8 x9 x10 x11 x12
  obtain ⟨x0, x1, x2, x3, x4, x5, x6, x7, x8, x9, x10, x11, x12⟩ := ST4.out.Q.cells
  go_upto_region 11 with (first
    | (go_at_call 63; refine (rwnum_any w4 g0 g0 F4 y1 (f.type) 2 ST4.out.W (by have := HX.out; omega) (HII.out.1)).mono ?_; rw [← HY2.out]; rintro e w5 ⟨rfl, F5, h5, hc5, hF5⟩; have ST5 := Lib.hid (ST4.out.step h5 (by rw [HY2.out]; exact ST4.out.fine.raw _) hc5 hF5); clear h5 hc5 hF5)
    | fail)
  clear x0 x1 x2 x3 x4 x5 x6 x7 x8 x9 x10 x11 x12
  obtain ⟨x0, x1, x2, x3, x4, x5, x6, x7, x8, x9, x10, x11, x12⟩ := ST5.out.Q.cells
  go_upto_region 12 with (first
    | (go_at_call 63; refine (rwnum_any w5 g0 g0 F5 y2 (f.kind) 1 ST5.out.W (by have := HX.out; omega) (HII.out.2.1)).mono ?_; rw [← HY3.out]; rintro e w6 ⟨rfl, F6, h6, hc6, hF6⟩; have ST6 := Lib.hid (ST5.out.step h6 (by rw [HY3.out]; exact ST5.out.fine.raw _) hc6 hF6); clear h6 hc6 hF6)
    | fail)
  clear x0 x1 x2 x3 x4 x5 x6 x7 x8 x9 x10 x11 x12
  obtain ⟨x0, x1, x2, x3, x4, x5, x6, x7, x8, x9, x10, x11, x12⟩ := ST6.out.Q.cells
  go_upto_region 13 with (first
    | (go_at_call 63; refine (rwnum_any w6 g0 g0 F6 y3 (f.rank) 1 ST6.out.W (by have := HX.out; omega) (HII.out.2.2.1)).mono ?_; rw [← HY4.out]; rintro e w7 ⟨rfl, F7, h7, hc7, hF7⟩; have ST7 := Lib.hid (ST6.out.step h7 (by rw [HY4.out]; exact ST6.out.fine.raw _) hc7 hF7); clear h7 hc7 hF7)
    | fail)
  clear x0 x1 x2 x3 x4 x5 x6 x7 x8 x9 x10 x11 x12
  obtain ⟨x0, x1, x2, x3, x4, x5, x6, x7, x8, x9, x10, x11, x12⟩ := ST7.out.Q.cells
  go_upto_region 14 with (first
    | (go_at_call 63; refine (rwnum_any w7 g0 g0 F7 y4 (f.got) 7 ST7.out.W (by have := HX.out; omega) (HII.out.2.2.2.1)).mono ?_; rw [← HY5.out]; rintro e w8 ⟨rfl, F8, h8, hc8, hF8⟩; have ST8 := Lib.hid (ST7.out.step h8 (by rw [HY5.out]; exact ST7.out.fine.raw _) hc8 hF8); clear h8 hc8 hF8)
    | fail)
  clear x0 x1 x2 x3 x4 x5 x6 x7 x8 x9 x10 x11 x12
  obtain ⟨x0, x1, x2, x3, x4, x5, x6, x7, x8, x9, x10, x11, x12⟩ := ST8.out.Q.cells
  go_upto_region 15 with (first
    | (go_at_call 63; refine (rwnum_any w8 g0 g0 F8 y5 (f.ttl) 4 ST8.out.W (by have := HX.out; omega) (HII.out.2.2.2.2)).mono ?_; rw [← HY6.out]; rintro e w9 ⟨rfl, F9, h9, hc9, hF9⟩; have ST9 := Lib.hid (ST8.out.step h9 (by rw [HY6.out]; exact ST8.out.fine.raw _) hc9 hF9); clear h9 hc9 hF9)
    | fail)
  clear x0 x1 x2 x3 x4 x5 x6 x7 x8 x9 x10 x11 x12
  obtain ⟨x0, x1, x2, x3, x4, x5, x6, x7, x8, x9, x10, x11, x12⟩ := ST9.out.Q.cells
  by_cases hk : f.kind = 1
  · have hkb : (f.kind == 1) = true := by simp [hk]
    have HSET := Lib.hid (HF.out.set hk)
    have HEND : Hid (y0.fact f = (y6.raw (putB [] (f.set.length : Int) 1)).dats f.type f.set) := by
      show _ = _
      unfold RW.fact
      rw [if_pos hk, HHEAD.out]
    clear hk
    obtain ⟨n, hn⟩ : ∃ n, n = f.set.length := ⟨_, rfl⟩
    have HN := Lib.hid hn
    have hn64 : n ≤ 64 := by rw [hn]; exact HSET.out.1
    have HNL : Hid (n ≤ 64) := hn64
    obtain ⟨y7, hy7⟩ : ∃ y, y = y6.raw (putB [] (n : Int) 1) := ⟨_, rfl⟩
    have HY7 := Lib.hid hy7
    have HAL7 : Hid (Alike (((Wr.nil.raw (putB [] 1 1)).factH f).raw (putB [] (n : Int) 1)) y7) := by show Alike _ _; rw [hy7]; exact HAL6.out.raw _
    rw [← hn] at x6 HEND
    rw [← hn]
    rw [← hy7] at HEND
    have hlen7 : y7.b.length ≤ 1310 := by rw [hy7]; have h1 := putB_nil_le (n : Int) 1; have h2 := HX.out; show (y6.b ++ _).length ≤ _; rw [List.length_append]; omega
    have HL7 := Lib.hid hlen7
    have HP7 : Hid ((((Wr.nil.raw (putB [] 1 1)).factH f).raw (putB [] (n : Int) 1)).b.length ≤ 1310) := by show _ ≤ _; rw [HAL7.out.1]; exact hlen7
    clear hn hy7 hlen7
    go_upto_region 17 with (first
      | (go_at_call 63; refine (rwnum_any w9 g0 g0 F9 y6 (n : Int) 1 ST9.out.W (by have := HX.out; omega) (by omega)).mono ?_; rw [← HY7.out]; rintro e w10 ⟨rfl, F10, h10, hc10, hF10⟩; have ST10 := Lib.hid (ST9.out.step h10 (by rw [HY7.out]; exact ST9.out.fine.raw _) hc10 hF10); clear h10 hc10 hF10)
      | fail)
    clear x0 x1 x2 x3 x4 x5 x6 x7 x8 x9 x10 x11 x12
    go_wp2
    go_loopw [10] (fun iv wr => ∃ (kx : Nat) (Fk : Nat → Prop), iv = .int .i64 kx ∧ kx ≤ n ∧ Hid (RFaSt w2 wr g0 g0 (fun k => k = g0) Fk (y7.dats f.type (f.set.take kx)) w.heap.size S ⟨sA, sac, sS, ssc, sZ, szc, sd⟩ f)) (fun iv _ => n - (intOf iv).toNat)
    case atStart => exact ⟨0, F10, rfl, Nat.zero_le _, ST10.out⟩
    case round =>
      obtain ⟨kx, Fk, rfl, hi, HK⟩ := hrel
      have x1 : wr.cell? ⟨w.heap.size, 1, none⟩ = some (.int .i64 f.type) := (HK.out.Q.cell 1).trans rfl
      have x6 : wr.cell? ⟨w.heap.size, 6, none⟩ = some (.slice sS n ssc) := by rw [HN.out]; exact (HK.out.Q.cell 6).trans rfl
      by_cases hlt : kx < n
      · obtain ⟨d, hx⟩ : ∃ d, f.set[kx]? = some d := ⟨_, List.getElem?_eq_getElem (by rw [← HN.out]; exact hlt)⟩
        have HX1 := Lib.hid hx
        have HFD : Hid (FineD f.type d) := HSET.out.2 d (List.mem_of_getElem? hx)
        obtain ⟨b, off, t, hA, hbS, hdi, hcc⟩ := da_at HK.out.D.l hx
        have hA' : sS = some ⟨b, off, none⟩ := hA
        subst hA'
        have HDI := Lib.hid hdi
        have HK7 : Hid (∀ u, Below wr.heap.size wr u → (u.cell? ⟨w.heap.size, 1, none⟩ = some (.int .i64 f.type) ∧ u.cell? ⟨w.heap.size, 6, none⟩ = some (.slice (some ⟨b, off, none⟩) n ssc) ∧ u.cell? ⟨b, off + kx * 5, none⟩ = some (.slice t.A0 d.bytes.length t.c0) ∧ u.cell? ⟨b, off + kx * 5 + 1, none⟩ = some (.slice t.A1 d.host.length t.c1) ∧ u.cell? ⟨b, off + kx * 5 + 2, none⟩ = some (.slice t.A2 d.mail.length t.c2) ∧ u.cell? ⟨b, off + kx * 5 + 3, none⟩ = some (.slice t.A3 d.nums.length t.c3) ∧ u.cell? ⟨b, off + kx * 5 + 4, none⟩ = some (.slice t.A4 d.texts.length t.c4))) := fun u hu => by
          have h := hcc.below hu
          exact ⟨below_cell hu x1, below_cell hu x6, h.1, h.2.1, h.2.2.1, h.2.2.2.1, h.2.2.2.2⟩
        have HG7 : Hid (∀ u, Chg Fk wr.drew u → (u.cell? ⟨w.heap.size, 1, none⟩ = some (.int .i64 f.type) ∧ u.cell? ⟨w.heap.size, 6, none⟩ = some (.slice (some ⟨b, off, none⟩) n ssc) ∧ u.cell? ⟨b, off + kx * 5, none⟩ = some (.slice t.A0 d.bytes.length t.c0) ∧ u.cell? ⟨b, off + kx * 5 + 1, none⟩ = some (.slice t.A1 d.host.length t.c1) ∧ u.cell? ⟨b, off + kx * 5 + 2, none⟩ = some (.slice t.A2 d.mail.length t.c2) ∧ u.cell? ⟨b, off + kx * 5 + 3, none⟩ = some (.slice t.A3 d.nums.length t.c3) ∧ u.cell? ⟨b, off + kx * 5 + 4, none⟩ = some (.slice t.A4 d.texts.length t.c4))) := fun u hu => by
          obtain ⟨a1, a6, k0, k1, k2, k3, k4⟩ := HK7.out wr.drew bl.drew
          have hq := HK.out.qF
          have hb := (HK.out.SF b hbS).2
          exact ⟨hu.cell a1 hq, hu.cell a6 hq, hu.cell k0 hb, hu.cell k1 hb, hu.cell k2 hb, hu.cell k3 hb, hu.cell k4 hb⟩
        have z0 := HK7.out wr bl
        have z1 := HK7.out wr.drew bl.drew
        have HKD : Hid (RFaSt w2 wr.drew g0 g0 (fun k => k = g0) Fk (y7.dats f.type (f.set.take kx)) w.heap.size S ⟨sA, sac, some ⟨b, off, none⟩, ssc, sZ, szc, sd⟩ f) := HK.out.below bl.drew
        have HDD : Hid (DIn S wr.drew t d) := HDI.out.below bl.drew (fun b hb => (HK.out.SF b hb).1)
        have HLB : Hid ((y7.dats f.type (f.set.take kx)).b.length ≤ 8000000) := by
          show _ ≤ _
          rw [← (HAL7.out.dats (fun d hd => HSET.out.2 d (List.mem_of_mem_take hd))).1]
          have a1 := (dats_len (((Wr.nil.raw (putB [] 1 1)).factH f).raw (putB [] (n : Int) 1)) HSET.out.2 kx).1
          have a2 : 83007 * kx ≤ 83007 * 64 := Nat.mul_le_mul_left _ (by have := HNL.out; omega)
          have a3 : 83007 * 64 = 5312448 := by decide
          rw [a3] at a2
          exact Nat.le_trans a1 (Nat.le_trans (Nat.add_le_add HP7.out a2) (by decide))
        have HDA : Hid (Calls Try.prog 65 #[.pointer (some ⟨g0, 0, none⟩), .int .i64 f.type, .agg #[.slice t.A0 d.bytes.length t.c0, .slice t.A1 d.host.length t.c1, .slice t.A2 d.mail.length t.c2, .slice t.A3 d.nums.length t.c3, .slice t.A4 d.texts.length t.c4]] wr.drew (RetR wr.drew g0 Fk g0 ((y7.dats f.type (f.set.take kx)).dat f.type d) (.tuple #[]))) := rdat_any f.type wr.drew g0 g0 Fk _ t d S HFD.out HKD.out.W HDD.out HKD.out.SF HLB.out
        have hid1 : (kx : Int) < (n : Int) := by omega
        have hid2 : decide ((kx : Int) < (n : Int)) = true := decide_eq_true hid1
        have HLT := Lib.hid hlt
        clear hx hA hdi hcc hbS x1 x6
        obtain ⟨x1, x6, -, -, -, -, -⟩ := HK7.out wr bl
        go_upto_region 20 with (fail)
        clear x1 x6
        go_region_held3 (fun w' => w'.cell? ⟨w.heap.size, 1, none⟩ = some (.int .i64 f.type) ∧ w'.cell? ⟨w.heap.size, 6, none⟩ = some (.slice (some ⟨b, off, none⟩) n ssc) ∧ w'.cell? ⟨b, off + kx * 5, none⟩ = some (.slice t.A0 d.bytes.length t.c0) ∧ w'.cell? ⟨b, off + kx * 5 + 1, none⟩ = some (.slice t.A1 d.host.length t.c1) ∧ w'.cell? ⟨b, off + kx * 5 + 2, none⟩ = some (.slice t.A2 d.mail.length t.c2) ∧ w'.cell? ⟨b, off + kx * 5 + 3, none⟩ = some (.slice t.A3 d.nums.length t.c3) ∧ w'.cell? ⟨b, off + kx * 5 + 4, none⟩ = some (.slice t.A4 d.texts.length t.c4))
          (first | with_reducible exact z0 | with_reducible exact z1 | with_reducible exact z2 | fail)
          (first
            | (go_at_call 65; (with_reducible refine HDA.out.mono ?_); rintro e w11 ⟨rfl, F11, h11, hc11, hF11⟩; have ST11 := Lib.hid (HKD.out.step h11 (HKD.out.fine.dat HFD.out) hc11 hF11); have z2 : w11.cell? ⟨w.heap.size, 1, none⟩ = some (.int .i64 f.type) ∧ w11.cell? ⟨w.heap.size, 6, none⟩ = some (.slice (some ⟨b, off, none⟩) n ssc) ∧ w11.cell? ⟨b, off + kx * 5, none⟩ = some (.slice t.A0 d.bytes.length t.c0) ∧ w11.cell? ⟨b, off + kx * 5 + 1, none⟩ = some (.slice t.A1 d.host.length t.c1) ∧ w11.cell? ⟨b, off + kx * 5 + 2, none⟩ = some (.slice t.A2 d.mail.length t.c2) ∧ w11.cell? ⟨b, off + kx * 5 + 3, none⟩ = some (.slice t.A3 d.nums.length t.c3) ∧ w11.cell? ⟨b, off + kx * 5 + 4, none⟩ = some (.slice t.A4 d.texts.length t.c4) := HG7.out w11 hc11; clear h11 hc11 hF11)
            | fail)
        go_wp2
        go_roundw
        case rel => exact ⟨kx + 1, F11, by go_num, by have := HLT.out; omega, by rw [RW.dats_take y7 f.type HX1.out]; exact ST11.out⟩
        case measure => have := HLT.out; simp [intOf]; omega
      · have hie : kx = n := by omega
        subst hie
        have HFN : Hid (y7.dats f.type (f.set.take kx) = y0.fact f) := by show _ = _; rw [HEND.out, HN.out, List.take_length]
        rw [HFN.out] at HK
        have HFIN : Hid (∃ A c, wr.cell? ⟨g0, 0, none⟩ = some (.slice A (y0.fact f).b.length c) ∧ RdB wr A (y0.fact f).b.length (y0.fact f).b ∧ (y0.fact f).b.length ≤ c ∧ c ≤ maxLen) := by
          obtain ⟨bv, rv, SS, hg, hb, _⟩ := HK.out.W
          obtain ⟨A, c, rfl, hr, h1, h2⟩ := hb.form
          exact ⟨A, c, (cell_of_row _ _ _ _ _ _ hg).trans rfl, hr, h1, h2⟩
        obtain ⟨A9, c9, y9, hr9, hl9, hm9⟩ := HFIN.out
        have HR9 : Hid (RdB wr A9 (y0.fact f).b.length (y0.fact f).b ∧ (y0.fact f).b.length ≤ c9 ∧ c9 ≤ maxLen) := ⟨hr9, hl9, hm9⟩
        have HBE : Hid (Below w.heap.size w wr) := HB2.out.trans (HK.out.C.below (fun z hz => by have := HG0.out; omega) HB2.out.size)
        clear hr9 hl9 hm9
        go_wp2
        go_ret
        exact ⟨_, rfl, ⟨A9, c9, rfl, HR9.out.1, HR9.out.2.1, HR9.out.2.2⟩, HBE.out⟩
  · have hkb : (f.kind == 1) = false := by simp [hk]
    have HNEG := Lib.hid (HF.out.neg hk)
    have HEND : Hid ((y6.name f.zone false).dat 6 f.soa = y0.fact f) := by
      show _ = _
      unfold RW.fact
      rw [if_neg hk, HHEAD.out]
    clear hk
    have HX8 : Hid ((y6.name f.zone false).b.length ≤ 2000) := by
      have h1 := nameS_len (x := (Wr.nil.raw (putB [] 1 1)).factH f) HNEG.out.1
      have h2 := (HAL6.out.nameS HNEG.out.1).1
      rw [h2] at h1
      have h3 := HAL6.out.1
      have h4 := HX.out
      rw [h3] at h1
      show _ ≤ _
      omega
    go_upto_region 22 with (first
      | (go_at_call 64; refine (rwname_any w9 g0 g0 F9 y6 sZ _ szc f.zone false ST9.out.W ST9.out.D.z ST9.out.SF (soundB_iff.1 HNEG.out.1) ST9.out.fine ST9.out.D.cz.1 ST9.out.D.cz.2 (by have := HX.out; omega) (by have := HX.out; omega)).mono ?_; rintro e w10 ⟨rfl, F10, h10, hc10, hF10⟩; have ST10 := Lib.hid (ST9.out.step h10 (RW.Fine.name (soundB_iff.1 HNEG.out.1) false ST9.out.fine) hc10 hF10); clear h10 hc10 hF10)
      | fail)
    clear x0 x1 x2 x3 x4 x5 x6 x7 x8 x9 x10 x11 x12
    obtain ⟨x0, x1, x2, x3, x4, x5, x6, x7, x8, x9, x10, x11, x12⟩ := ST10.out.Q.cells
    go_upto_region 23 with (first
      | (go_at_call 65; refine (rdat_any 6 w10 g0 g0 F10 (y6.name f.zone false) sd f.soa S HNEG.out.2 ST10.out.W ST10.out.D.d ST10.out.SF (by have := HX8.out; omega)).mono ?_; rw [HEND.out]; rintro e w11 ⟨rfl, F11, h11, hc11, hF11⟩; have HW11 := Lib.hid h11; have HC11 : Hid (Chg (fun k => k = g0) w2 w11) := ST10.out.C.trans hc11 ST10.out.N; clear h11 hc11 hF11)
      | fail)
    clear x0 x1 x2 x3 x4 x5 x6 x7 x8 x9 x10 x11 x12
    have HFIN : Hid (∃ A c, w11.cell? ⟨g0, 0, none⟩ = some (.slice A (y0.fact f).b.length c) ∧ RdB w11 A (y0.fact f).b.length (y0.fact f).b ∧ (y0.fact f).b.length ≤ c ∧ c ≤ maxLen) := by
      obtain ⟨bv, rv, SS, hg, hb, _⟩ := HW11.out
      obtain ⟨A, c, rfl, hr, h1, h2⟩ := hb.form
      exact ⟨A, c, (cell_of_row _ _ _ _ _ _ hg).trans rfl, hr, h1, h2⟩
    obtain ⟨A9, c9, y9, hr9, hl9, hm9⟩ := HFIN.out
    have HR9 : Hid (RdB w11 A9 (y0.fact f).b.length (y0.fact f).b ∧ (y0.fact f).b.length ≤ c9 ∧ c9 ≤ maxLen) := ⟨hr9, hl9, hm9⟩
    have HBE : Hid (Below w.heap.size w w11) := HB2.out.trans (HC11.out.below (fun z hz => by have := HG0.out; omega) HB2.out.size)
    clear hr9 hl9 hm9
    go_wp2
    go_ret
    exact ⟨_, rfl, ⟨A9, c9, rfl, HR9.out.1, HR9.out.2.1, HR9.out.2.2⟩, HBE.out⟩

end Go.Proofs.Ytimkdpkhdbiniaa
