/- Parts of a proof, joined: RPut5, RPut6. -/
import Derived.Test.YtimkdpkhdbiniaaM06
import Derived.Test.YtimkdpkhdbiniaaM05
import Derived.Test.YtimkdpkhdbiniaaM07
import Derived.Test.YtimkdpkhdbiniaaM03
/- The reference's PutData: where its walk stands. -/
namespace Go.Proofs.Ytimkdpkhdbiniaa
open Go.RowKit
set_option maxRecDepth 100000

structure RPutSt (w wr : World) (B g : Nat) (F Fr : Nat → Prop) (y : RW) (q : Nat) (S : Nat → Prop) (s : DS) (d : Da) : Prop where
  W : RWtr wr B Fr g y
  fine : y.Fine
  C : Chg F w wr
  N : ∀ k, Fr k → F k ∨ w.heap.size ≤ k
  Q : wr.heap[q]? = some (.cells (dCells s d) 46 (0, 0))
  D : DIn S wr s d
  qF : ¬ Fr q
  SF : ∀ b, S b → b < wr.heap.size ∧ ¬ Fr b
section
variable {w wr w' : World} {B g q : Nat} {F Fr F' S : Nat → Prop} {y y' : RW} {s : DS} {d : Da}
theorem RPutSt.step (h : RPutSt w wr B g F Fr y q S s d) (hw : RWtr w' B F' g y') (hf : y'.Fine) (hc : Chg Fr wr w') (hF : ∀ k, F' k → Fr k ∨ wr.heap.size ≤ k) : RPutSt w w' B g F F' y' q S s d where
  W := hw
  fine := hf
  C := h.C.trans hc h.N
  N := fun k hk => (hF k hk).elim (h.N k) (fun hl => .inr (Nat.le_trans h.C.size hl))
  Q := hc.heap h.Q h.qF
  D := h.D.chg hc h.SF
  qF := fun hq => (hF q hq).elim h.qF (fun hl => by have := (Array.getElem?_eq_some_iff.1 h.Q).1; omega)
  SF := fun b hb => ⟨Nat.lt_of_lt_of_le (h.SF b hb).1 hc.size, fun hq => (hF b hq).elim (h.SF b hb).2 (fun hl => by have := (h.SF b hb).1; omega)⟩
theorem RPutSt.below (h : RPutSt w wr B g F Fr y q S s d) (hb : Below wr.heap.size wr w') : RPutSt w w' B g F Fr y q S s d := h.step (h.W.below hb) h.fine (Chg.of_below hb) (fun _ hk => .inl hk)
theorem RPutSt.dc (h : RPutSt w wr B g F Fr y q S s d) (j : Nat) : wr.cell? ⟨q, j, none⟩ = (dCells s d)[j]? := cell_of_row _ _ _ _ _ _ h.Q
theorem RPutSt.done (h : RPutSt w wr B g F Fr y q S s d) {v : Value} {u : RW} (hz : y = u) : RetR w B F g u v (.returned v) wr := by subst hz; exact ⟨rfl, Fr, h.W, h.C, h.N⟩
end
theorem RW.Fine.texts {y : RW} (h : y.Fine) (ts : List (List UInt8)) : (y.texts ts).Fine := by
  refine snoc_ind (P := fun ts => (y.texts ts).Fine) h (fun ts t ih => ?_) ts
  rw [RW.texts_snoc]
  exact (ih.raw _).raw _
theorem RW.Fine.nums {y : RW} (h : y.Fine) (ns : List Int) (z : Int) : (y.nums ns z).Fine := by
  refine snoc_ind (P := fun ns => (y.nums ns z).Fine) h (fun ns n ih => ?_) ns
  rw [RW.nums_snoc]
  exact ih.raw _
theorem RW.name_le {y : RW} (n : List (List UInt8)) (short : Bool) : (y.name n short).b.length ≤ y.b.length + sizeN n + 1 := by
  induction n generalizing y with
  | nil => simp [RW.name, RW.raw, sizeN]
  | cons l n ih =>
    unfold RW.name
    have h1 := sizeN_length n
    split
    · split
      · simp [RW.raw, ptrB, sizeN]; omega
      · have := ih (y := (y.note (l :: n)).label l)
        simp only [RW.label, RW.raw, RW.note_b, List.length_append, List.length_cons, sizeN] at this ⊢
        omega
    · have := ih (y := (y.note (l :: n)).label l)
      simp only [RW.label, RW.raw, RW.note_b, List.length_append, List.length_cons, sizeN] at this ⊢
      omega
end Go.Proofs.Ytimkdpkhdbiniaa

/- The reference: PutData, a walk for each type (printed by gen/rput.py). -/
namespace Go.Proofs.Ytimkdpkhdbiniaa
open Go.RowKit
set_option maxRecDepth 100000
set_option linter.unusedVariables false

set_option maxHeartbeats 8000000 in
theorem rput1_any (w : World) (B g : Nat) (F : Nat → Prop) (x : RW) (s : DS) (d : Da) (S : Nat → Prop) (hf : FineS shpA d) (h : RWtr w B F g x) (hfx : x.Fine) (hd : DIn S w s d) (hS : ∀ b, S b → b < w.heap.size ∧ ¬ F b) (hx : x.b.length ≤ 9000000) (hxr : x.rests.length ≤ 9000000) :
    Calls Try.prog 115 #[.pointer (some ⟨g, 0, none⟩), .int .i64 1, dsV s d] w (RetR w B F g (x.data shpA d) (.tuple #[])) := by
  obtain ⟨f1, f2, f3, f4, f5, f6, f7⟩ := hf
  obtain ⟨db, dh, dm, dn, dt⟩ := d
  obtain rfl : dn = [] := List.eq_nil_of_length_eq_zero (Int.ofNat_inj.1 f3)
  obtain rfl : dh = [] := (show dh = [] from f4)
  obtain rfl : dm = [] := (show dm = [] from f5)
  obtain rfl : dt = [] := (show dt = [] from f7)
  have F2 : Hid (db.length ≤ 65535) := f2
  have HX := Lib.hid hx
  have HXR := Lib.hid hxr
  have hFl := h.F_lt
  clear f1 f2 f3 f4 f5 f6 f7 hx hxr
  rw [show dsV s ⟨db, [], [], [], []⟩ = .agg #[.slice s.A0 db.length s.c0, .slice s.A1 0 s.c1, .slice s.A2 0 s.c2, .slice s.A3 0 s.c3, .slice s.A4 0 s.c4] from rfl]
  obtain ⟨w1, hw1⟩ : ∃ w1, w1 = w.alloc (.cells #[.slice s.A0 db.length s.c0, .slice s.A1 0 s.c1, .slice s.A2 0 s.c2, .slice s.A3 0 s.c3, .slice s.A4 0 s.c4] 46) := ⟨_, rfl⟩
  have hb1 : Below w.heap.size w w1 := by rw [hw1]; exact bl.alloc (Nat.le_refl _) _
  have ST1 : Hid (RPutSt w w1 B g F F x w.heap.size S s ⟨db, [], [], [], []⟩) := ⟨h.below hb1, hfx, Chg.of_below hb1, fun k hk => .inl hk, by rw [hw1]; exact heap_alloc_new w _, hd.below hb1 (fun b hb => (hS b hb).1), fun e => by have := (hFl _ e).2; omega, fun b hb => ⟨Nat.lt_of_lt_of_le (hS b hb).1 hb1.size, (hS b hb).2⟩⟩
  clear hd h hfx hS hFl
  have x0 : w1.cell? ⟨w.heap.size, 0, none⟩ = some (.slice s.A0 db.length s.c0) := (ST1.out.dc 0).trans rfl
  have x1 : w1.cell? ⟨w.heap.size, 1, none⟩ = some (.slice s.A1 0 s.c1) := (ST1.out.dc 1).trans rfl
  have x2 : w1.cell? ⟨w.heap.size, 2, none⟩ = some (.slice s.A2 0 s.c2) := (ST1.out.dc 2).trans rfl
  have x3 : w1.cell? ⟨w.heap.size, 3, none⟩ = some (.slice s.A3 0 s.c3) := (ST1.out.dc 3).trans rfl
  have x4 : w1.cell? ⟨w.heap.size, 4, none⟩ = some (.slice s.A4 0 s.c4) := (ST1.out.dc 4).trans rfl
  go_enter Try.func115, Try.ntmps115
  go_upto_region 1 with (fail)
  rw [← hw1]
  clear hw1 hb1
  go_upto_region 2 with (first
    | (go_at_call 94; refine (rwraw_any w1 B g F x s.A0 db.length s.c0 db ST1.out.W (els_bytes ST1.out.D.b) (by have := HX.out; have := F2.out; omega)).mono ?_; rintro e w5 ⟨rfl, F5r, h5, hc5, hF5⟩; have ST5 := Lib.hid (ST1.out.step h5 (ST1.out.fine.raw _) hc5 hF5); clear h5 hc5 hF5)
    | fail)
  clear x0 x1 x2 x3 x4
  have x0 : w5.cell? ⟨w.heap.size, 0, none⟩ = some (.slice s.A0 db.length s.c0) := (ST5.out.dc 0).trans rfl
  have x1 : w5.cell? ⟨w.heap.size, 1, none⟩ = some (.slice s.A1 0 s.c1) := (ST5.out.dc 1).trans rfl
  have x2 : w5.cell? ⟨w.heap.size, 2, none⟩ = some (.slice s.A2 0 s.c2) := (ST5.out.dc 2).trans rfl
  have x3 : w5.cell? ⟨w.heap.size, 3, none⟩ = some (.slice s.A3 0 s.c3) := (ST5.out.dc 3).trans rfl
  have x4 : w5.cell? ⟨w.heap.size, 4, none⟩ = some (.slice s.A4 0 s.c4) := (ST5.out.dc 4).trans rfl
  have HY : Hid ((x.raw db).b.length ≤ 9100000 ∧ (x.raw db).rests.length ≤ 9000000) := ⟨by have := HX.out; have := F2.out; simp only [RW.raw, List.length_append] at *; omega, HXR.out⟩
  generalize hy : x.raw db = y at ST5 HY
  have HYE := Lib.hid hy
  clear hy ST1
  go_wp2
  go_loopw [6] (fun iv wr => iv = .int .i64 0 ∧ wr = w5) (fun _ _ => 0)
  case atStart => exact ⟨rfl, rfl⟩
  case round =>
    obtain ⟨rfl, rfl⟩ := hrel
    go_wp2
    go_end0
    refine RPutSt.done ST5.out ?_
    rw [← HYE.out]
    rfl

set_option maxHeartbeats 8000000 in
theorem rput28_any (w : World) (B g : Nat) (F : Nat → Prop) (x : RW) (s : DS) (d : Da) (S : Nat → Prop) (hf : FineS shpQ d) (h : RWtr w B F g x) (hfx : x.Fine) (hd : DIn S w s d) (hS : ∀ b, S b → b < w.heap.size ∧ ¬ F b) (hx : x.b.length ≤ 9000000) (hxr : x.rests.length ≤ 9000000) :
    Calls Try.prog 115 #[.pointer (some ⟨g, 0, none⟩), .int .i64 28, dsV s d] w (RetR w B F g (x.data shpQ d) (.tuple #[])) := by
  obtain ⟨f1, f2, f3, f4, f5, f6, f7⟩ := hf
  obtain ⟨db, dh, dm, dn, dt⟩ := d
  obtain rfl : dn = [] := List.eq_nil_of_length_eq_zero (Int.ofNat_inj.1 f3)
  obtain rfl : dh = [] := (show dh = [] from f4)
  obtain rfl : dm = [] := (show dm = [] from f5)
  obtain rfl : dt = [] := (show dt = [] from f7)
  have F2 : Hid (db.length ≤ 65535) := f2
  have HX := Lib.hid hx
  have HXR := Lib.hid hxr
  have hFl := h.F_lt
  clear f1 f2 f3 f4 f5 f6 f7 hx hxr
  rw [show dsV s ⟨db, [], [], [], []⟩ = .agg #[.slice s.A0 db.length s.c0, .slice s.A1 0 s.c1, .slice s.A2 0 s.c2, .slice s.A3 0 s.c3, .slice s.A4 0 s.c4] from rfl]
  obtain ⟨w1, hw1⟩ : ∃ w1, w1 = w.alloc (.cells #[.slice s.A0 db.length s.c0, .slice s.A1 0 s.c1, .slice s.A2 0 s.c2, .slice s.A3 0 s.c3, .slice s.A4 0 s.c4] 46) := ⟨_, rfl⟩
  have hb1 : Below w.heap.size w w1 := by rw [hw1]; exact bl.alloc (Nat.le_refl _) _
  have ST1 : Hid (RPutSt w w1 B g F F x w.heap.size S s ⟨db, [], [], [], []⟩) := ⟨h.below hb1, hfx, Chg.of_below hb1, fun k hk => .inl hk, by rw [hw1]; exact heap_alloc_new w _, hd.below hb1 (fun b hb => (hS b hb).1), fun e => by have := (hFl _ e).2; omega, fun b hb => ⟨Nat.lt_of_lt_of_le (hS b hb).1 hb1.size, (hS b hb).2⟩⟩
  clear hd h hfx hS hFl
  have x0 : w1.cell? ⟨w.heap.size, 0, none⟩ = some (.slice s.A0 db.length s.c0) := (ST1.out.dc 0).trans rfl
  have x1 : w1.cell? ⟨w.heap.size, 1, none⟩ = some (.slice s.A1 0 s.c1) := (ST1.out.dc 1).trans rfl
  have x2 : w1.cell? ⟨w.heap.size, 2, none⟩ = some (.slice s.A2 0 s.c2) := (ST1.out.dc 2).trans rfl
  have x3 : w1.cell? ⟨w.heap.size, 3, none⟩ = some (.slice s.A3 0 s.c3) := (ST1.out.dc 3).trans rfl
  have x4 : w1.cell? ⟨w.heap.size, 4, none⟩ = some (.slice s.A4 0 s.c4) := (ST1.out.dc 4).trans rfl
  go_enter Try.func115, Try.ntmps115
  go_upto_region 1 with (fail)
  rw [← hw1]
  clear hw1 hb1
  go_upto_region 2 with (first
    | (go_at_call 94; refine (rwraw_any w1 B g F x s.A0 db.length s.c0 db ST1.out.W (els_bytes ST1.out.D.b) (by have := HX.out; have := F2.out; omega)).mono ?_; rintro e w5 ⟨rfl, F5r, h5, hc5, hF5⟩; have ST5 := Lib.hid (ST1.out.step h5 (ST1.out.fine.raw _) hc5 hF5); clear h5 hc5 hF5)
    | fail)
  clear x0 x1 x2 x3 x4
  have x0 : w5.cell? ⟨w.heap.size, 0, none⟩ = some (.slice s.A0 db.length s.c0) := (ST5.out.dc 0).trans rfl
  have x1 : w5.cell? ⟨w.heap.size, 1, none⟩ = some (.slice s.A1 0 s.c1) := (ST5.out.dc 1).trans rfl
  have x2 : w5.cell? ⟨w.heap.size, 2, none⟩ = some (.slice s.A2 0 s.c2) := (ST5.out.dc 2).trans rfl
  have x3 : w5.cell? ⟨w.heap.size, 3, none⟩ = some (.slice s.A3 0 s.c3) := (ST5.out.dc 3).trans rfl
  have x4 : w5.cell? ⟨w.heap.size, 4, none⟩ = some (.slice s.A4 0 s.c4) := (ST5.out.dc 4).trans rfl
  have HY : Hid ((x.raw db).b.length ≤ 9100000 ∧ (x.raw db).rests.length ≤ 9000000) := ⟨by have := HX.out; have := F2.out; simp only [RW.raw, List.length_append] at *; omega, HXR.out⟩
  generalize hy : x.raw db = y at ST5 HY
  have HYE := Lib.hid hy
  clear hy ST1
  go_wp2
  go_loopw [6] (fun iv wr => iv = .int .i64 0 ∧ wr = w5) (fun _ _ => 0)
  case atStart => exact ⟨rfl, rfl⟩
  case round =>
    obtain ⟨rfl, rfl⟩ := hrel
    go_wp2
    go_end0
    refine RPutSt.done ST5.out ?_
    rw [← HYE.out]
    rfl

set_option maxHeartbeats 8000000 in
theorem rput2_any (w : World) (B g : Nat) (F : Nat → Prop) (x : RW) (s : DS) (d : Da) (S : Nat → Prop) (hf : FineS shpN d) (h : RWtr w B F g x) (hfx : x.Fine) (hd : DIn S w s d) (hS : ∀ b, S b → b < w.heap.size ∧ ¬ F b) (hx : x.b.length ≤ 9000000) (hxr : x.rests.length ≤ 9000000) :
    Calls Try.prog 115 #[.pointer (some ⟨g, 0, none⟩), .int .i64 2, dsV s d] w (RetR w B F g (x.data shpN d) (.tuple #[])) := by
  obtain ⟨f1, f2, f3, f4, f5, f6, f7⟩ := hf
  obtain ⟨db, dh, dm, dn, dt⟩ := d
  obtain rfl : db = [] := List.eq_nil_of_length_eq_zero (Int.ofNat_inj.1 (f1 (by decide)))
  obtain rfl : dn = [] := List.eq_nil_of_length_eq_zero (Int.ofNat_inj.1 f3)
  obtain rfl : dm = [] := (show dm = [] from f5)
  obtain rfl : dt = [] := (show dt = [] from f7)
  have F2 : Hid (0 ≤ 65535) := Nat.zero_le _
  have F4 : Hid (SoundN dh) := f4
  have HX := Lib.hid hx
  have HXR := Lib.hid hxr
  have hFl := h.F_lt
  clear f1 f2 f3 f4 f5 f6 f7 hx hxr
  rw [show dsV s ⟨[], dh, [], [], []⟩ = .agg #[.slice s.A0 0 s.c0, .slice s.A1 dh.length s.c1, .slice s.A2 0 s.c2, .slice s.A3 0 s.c3, .slice s.A4 0 s.c4] from rfl]
  obtain ⟨w1, hw1⟩ : ∃ w1, w1 = w.alloc (.cells #[.slice s.A0 0 s.c0, .slice s.A1 dh.length s.c1, .slice s.A2 0 s.c2, .slice s.A3 0 s.c3, .slice s.A4 0 s.c4] 46) := ⟨_, rfl⟩
  have hb1 : Below w.heap.size w w1 := by rw [hw1]; exact bl.alloc (Nat.le_refl _) _
  have ST1 : Hid (RPutSt w w1 B g F F x w.heap.size S s ⟨[], dh, [], [], []⟩) := ⟨h.below hb1, hfx, Chg.of_below hb1, fun k hk => .inl hk, by rw [hw1]; exact heap_alloc_new w _, hd.below hb1 (fun b hb => (hS b hb).1), fun e => by have := (hFl _ e).2; omega, fun b hb => ⟨Nat.lt_of_lt_of_le (hS b hb).1 hb1.size, (hS b hb).2⟩⟩
  clear hd h hfx hS hFl
  have x0 : w1.cell? ⟨w.heap.size, 0, none⟩ = some (.slice s.A0 0 s.c0) := (ST1.out.dc 0).trans rfl
  have x1 : w1.cell? ⟨w.heap.size, 1, none⟩ = some (.slice s.A1 dh.length s.c1) := (ST1.out.dc 1).trans rfl
  have x2 : w1.cell? ⟨w.heap.size, 2, none⟩ = some (.slice s.A2 0 s.c2) := (ST1.out.dc 2).trans rfl
  have x3 : w1.cell? ⟨w.heap.size, 3, none⟩ = some (.slice s.A3 0 s.c3) := (ST1.out.dc 3).trans rfl
  have x4 : w1.cell? ⟨w.heap.size, 4, none⟩ = some (.slice s.A4 0 s.c4) := (ST1.out.dc 4).trans rfl
  go_enter Try.func115, Try.ntmps115
  go_upto_region 1 with (fail)
  rw [← hw1]
  clear hw1 hb1
  go_upto_region 2 with (first
    | (go_at_call 94; refine (rwraw_any w1 B g F x s.A0 0 s.c0 [] ST1.out.W (els_bytes ST1.out.D.b) (by have := HX.out; have := F2.out; omega)).mono ?_; rintro e w5 ⟨rfl, F5r, h5, hc5, hF5⟩; have ST5 := Lib.hid (ST1.out.step h5 (ST1.out.fine.raw _) hc5 hF5); clear h5 hc5 hF5)
    | fail)
  clear x0 x1 x2 x3 x4
  have x0 : w5.cell? ⟨w.heap.size, 0, none⟩ = some (.slice s.A0 0 s.c0) := (ST5.out.dc 0).trans rfl
  have x1 : w5.cell? ⟨w.heap.size, 1, none⟩ = some (.slice s.A1 dh.length s.c1) := (ST5.out.dc 1).trans rfl
  have x2 : w5.cell? ⟨w.heap.size, 2, none⟩ = some (.slice s.A2 0 s.c2) := (ST5.out.dc 2).trans rfl
  have x3 : w5.cell? ⟨w.heap.size, 3, none⟩ = some (.slice s.A3 0 s.c3) := (ST5.out.dc 3).trans rfl
  have x4 : w5.cell? ⟨w.heap.size, 4, none⟩ = some (.slice s.A4 0 s.c4) := (ST5.out.dc 4).trans rfl
  have HY : Hid ((x.raw []).b.length ≤ 9100000 ∧ (x.raw []).rests.length ≤ 9000000) := ⟨by have := HX.out; have := F2.out; simp only [RW.raw, List.length_append] at *; simp; omega, HXR.out⟩
  generalize hy : x.raw [] = y at ST5 HY
  have HYE := Lib.hid hy
  clear hy ST1
  go_wp2
  go_loopw [6] (fun iv wr => iv = .int .i64 0 ∧ wr = w5) (fun _ _ => 0)
  case atStart => exact ⟨rfl, rfl⟩
  case round =>
    obtain ⟨rfl, rfl⟩ := hrel
    go_upto_region 14 with (first
      | (go_at_call 64; refine (rwname_any wr B g F5r y s.A1 _ s.c1 dh true ST5.out.W ST5.out.D.h ST5.out.SF F4.out ST5.out.fine ST5.out.D.ch.1 ST5.out.D.ch.2 (by have := HY.out.1; omega) (by have := HY.out.2; omega)).mono ?_; rintro e wa1 ⟨rfl, Fa1, ha, hca, hFa⟩; have STa1 := Lib.hid (ST5.out.step ha (RW.Fine.name F4.out true ST5.out.fine) hca hFa); clear ha hca hFa)
      | fail)
    clear x0 x1 x2 x3 x4
    have HYa1 : Hid ((y.name dh true).b.length ≤ 9400000 ∧ (y.name dh true).rests.length ≤ 9201000) := ⟨by have h1 := RW.name_le (y := y) dh true; have h2 := HY.out.1; have h3 := F4.out.2; omega, by have h1 := RW.name_rests (x := y) dh true; have h2 := HY.out.2; have h3 := F4.out.2; have h4 := sizeN_length dh; omega⟩
    generalize hya : y.name dh true = ya1 at STa1 HYa1
    have HYEa1 := Lib.hid hya
    clear hya ST5
    have x0 : wa1.cell? ⟨w.heap.size, 0, none⟩ = some (.slice s.A0 0 s.c0) := (STa1.out.dc 0).trans rfl
    have x1 : wa1.cell? ⟨w.heap.size, 1, none⟩ = some (.slice s.A1 dh.length s.c1) := (STa1.out.dc 1).trans rfl
    have x2 : wa1.cell? ⟨w.heap.size, 2, none⟩ = some (.slice s.A2 0 s.c2) := (STa1.out.dc 2).trans rfl
    have x3 : wa1.cell? ⟨w.heap.size, 3, none⟩ = some (.slice s.A3 0 s.c3) := (STa1.out.dc 3).trans rfl
    have x4 : wa1.cell? ⟨w.heap.size, 4, none⟩ = some (.slice s.A4 0 s.c4) := (STa1.out.dc 4).trans rfl
    go_wp2
    go_end0
    refine RPutSt.done STa1.out ?_
    rw [← HYEa1.out, ← HYE.out]
    rfl

set_option maxHeartbeats 8000000 in
theorem rput5_any (w : World) (B g : Nat) (F : Nat → Prop) (x : RW) (s : DS) (d : Da) (S : Nat → Prop) (hf : FineS shpN d) (h : RWtr w B F g x) (hfx : x.Fine) (hd : DIn S w s d) (hS : ∀ b, S b → b < w.heap.size ∧ ¬ F b) (hx : x.b.length ≤ 9000000) (hxr : x.rests.length ≤ 9000000) :
    Calls Try.prog 115 #[.pointer (some ⟨g, 0, none⟩), .int .i64 5, dsV s d] w (RetR w B F g (x.data shpN d) (.tuple #[])) := by
  obtain ⟨f1, f2, f3, f4, f5, f6, f7⟩ := hf
  obtain ⟨db, dh, dm, dn, dt⟩ := d
  obtain rfl : db = [] := List.eq_nil_of_length_eq_zero (Int.ofNat_inj.1 (f1 (by decide)))
  obtain rfl : dn = [] := List.eq_nil_of_length_eq_zero (Int.ofNat_inj.1 f3)
  obtain rfl : dm = [] := (show dm = [] from f5)
  obtain rfl : dt = [] := (show dt = [] from f7)
  have F2 : Hid (0 ≤ 65535) := Nat.zero_le _
  have F4 : Hid (SoundN dh) := f4
  have HX := Lib.hid hx
  have HXR := Lib.hid hxr
  have hFl := h.F_lt
  clear f1 f2 f3 f4 f5 f6 f7 hx hxr
  rw [show dsV s ⟨[], dh, [], [], []⟩ = .agg #[.slice s.A0 0 s.c0, .slice s.A1 dh.length s.c1, .slice s.A2 0 s.c2, .slice s.A3 0 s.c3, .slice s.A4 0 s.c4] from rfl]
  obtain ⟨w1, hw1⟩ : ∃ w1, w1 = w.alloc (.cells #[.slice s.A0 0 s.c0, .slice s.A1 dh.length s.c1, .slice s.A2 0 s.c2, .slice s.A3 0 s.c3, .slice s.A4 0 s.c4] 46) := ⟨_, rfl⟩
  have hb1 : Below w.heap.size w w1 := by rw [hw1]; exact bl.alloc (Nat.le_refl _) _
  have ST1 : Hid (RPutSt w w1 B g F F x w.heap.size S s ⟨[], dh, [], [], []⟩) := ⟨h.below hb1, hfx, Chg.of_below hb1, fun k hk => .inl hk, by rw [hw1]; exact heap_alloc_new w _, hd.below hb1 (fun b hb => (hS b hb).1), fun e => by have := (hFl _ e).2; omega, fun b hb => ⟨Nat.lt_of_lt_of_le (hS b hb).1 hb1.size, (hS b hb).2⟩⟩
  clear hd h hfx hS hFl
  have x0 : w1.cell? ⟨w.heap.size, 0, none⟩ = some (.slice s.A0 0 s.c0) := (ST1.out.dc 0).trans rfl
  have x1 : w1.cell? ⟨w.heap.size, 1, none⟩ = some (.slice s.A1 dh.length s.c1) := (ST1.out.dc 1).trans rfl
  have x2 : w1.cell? ⟨w.heap.size, 2, none⟩ = some (.slice s.A2 0 s.c2) := (ST1.out.dc 2).trans rfl
  have x3 : w1.cell? ⟨w.heap.size, 3, none⟩ = some (.slice s.A3 0 s.c3) := (ST1.out.dc 3).trans rfl
  have x4 : w1.cell? ⟨w.heap.size, 4, none⟩ = some (.slice s.A4 0 s.c4) := (ST1.out.dc 4).trans rfl
  go_enter Try.func115, Try.ntmps115
  go_upto_region 1 with (fail)
  rw [← hw1]
  clear hw1 hb1
  go_upto_region 2 with (first
    | (go_at_call 94; refine (rwraw_any w1 B g F x s.A0 0 s.c0 [] ST1.out.W (els_bytes ST1.out.D.b) (by have := HX.out; have := F2.out; omega)).mono ?_; rintro e w5 ⟨rfl, F5r, h5, hc5, hF5⟩; have ST5 := Lib.hid (ST1.out.step h5 (ST1.out.fine.raw _) hc5 hF5); clear h5 hc5 hF5)
    | fail)
  clear x0 x1 x2 x3 x4
  have x0 : w5.cell? ⟨w.heap.size, 0, none⟩ = some (.slice s.A0 0 s.c0) := (ST5.out.dc 0).trans rfl
  have x1 : w5.cell? ⟨w.heap.size, 1, none⟩ = some (.slice s.A1 dh.length s.c1) := (ST5.out.dc 1).trans rfl
  have x2 : w5.cell? ⟨w.heap.size, 2, none⟩ = some (.slice s.A2 0 s.c2) := (ST5.out.dc 2).trans rfl
  have x3 : w5.cell? ⟨w.heap.size, 3, none⟩ = some (.slice s.A3 0 s.c3) := (ST5.out.dc 3).trans rfl
  have x4 : w5.cell? ⟨w.heap.size, 4, none⟩ = some (.slice s.A4 0 s.c4) := (ST5.out.dc 4).trans rfl
  have HY : Hid ((x.raw []).b.length ≤ 9100000 ∧ (x.raw []).rests.length ≤ 9000000) := ⟨by have := HX.out; have := F2.out; simp only [RW.raw, List.length_append] at *; simp; omega, HXR.out⟩
  generalize hy : x.raw [] = y at ST5 HY
  have HYE := Lib.hid hy
  clear hy ST1
  go_wp2
  go_loopw [6] (fun iv wr => iv = .int .i64 0 ∧ wr = w5) (fun _ _ => 0)
  case atStart => exact ⟨rfl, rfl⟩
  case round =>
    obtain ⟨rfl, rfl⟩ := hrel
    go_upto_region 14 with (first
      | (go_at_call 64; refine (rwname_any wr B g F5r y s.A1 _ s.c1 dh true ST5.out.W ST5.out.D.h ST5.out.SF F4.out ST5.out.fine ST5.out.D.ch.1 ST5.out.D.ch.2 (by have := HY.out.1; omega) (by have := HY.out.2; omega)).mono ?_; rintro e wa1 ⟨rfl, Fa1, ha, hca, hFa⟩; have STa1 := Lib.hid (ST5.out.step ha (RW.Fine.name F4.out true ST5.out.fine) hca hFa); clear ha hca hFa)
      | fail)
    clear x0 x1 x2 x3 x4
    have HYa1 : Hid ((y.name dh true).b.length ≤ 9400000 ∧ (y.name dh true).rests.length ≤ 9201000) := ⟨by have h1 := RW.name_le (y := y) dh true; have h2 := HY.out.1; have h3 := F4.out.2; omega, by have h1 := RW.name_rests (x := y) dh true; have h2 := HY.out.2; have h3 := F4.out.2; have h4 := sizeN_length dh; omega⟩
    generalize hya : y.name dh true = ya1 at STa1 HYa1
    have HYEa1 := Lib.hid hya
    clear hya ST5
    have x0 : wa1.cell? ⟨w.heap.size, 0, none⟩ = some (.slice s.A0 0 s.c0) := (STa1.out.dc 0).trans rfl
    have x1 : wa1.cell? ⟨w.heap.size, 1, none⟩ = some (.slice s.A1 dh.length s.c1) := (STa1.out.dc 1).trans rfl
    have x2 : wa1.cell? ⟨w.heap.size, 2, none⟩ = some (.slice s.A2 0 s.c2) := (STa1.out.dc 2).trans rfl
    have x3 : wa1.cell? ⟨w.heap.size, 3, none⟩ = some (.slice s.A3 0 s.c3) := (STa1.out.dc 3).trans rfl
    have x4 : wa1.cell? ⟨w.heap.size, 4, none⟩ = some (.slice s.A4 0 s.c4) := (STa1.out.dc 4).trans rfl
    go_wp2
    go_end0
    refine RPutSt.done STa1.out ?_
    rw [← HYEa1.out, ← HYE.out]
    rfl

set_option maxHeartbeats 8000000 in
theorem rput12_any (w : World) (B g : Nat) (F : Nat → Prop) (x : RW) (s : DS) (d : Da) (S : Nat → Prop) (hf : FineS shpN d) (h : RWtr w B F g x) (hfx : x.Fine) (hd : DIn S w s d) (hS : ∀ b, S b → b < w.heap.size ∧ ¬ F b) (hx : x.b.length ≤ 9000000) (hxr : x.rests.length ≤ 9000000) :
    Calls Try.prog 115 #[.pointer (some ⟨g, 0, none⟩), .int .i64 12, dsV s d] w (RetR w B F g (x.data shpN d) (.tuple #[])) := by
  obtain ⟨f1, f2, f3, f4, f5, f6, f7⟩ := hf
  obtain ⟨db, dh, dm, dn, dt⟩ := d
  obtain rfl : db = [] := List.eq_nil_of_length_eq_zero (Int.ofNat_inj.1 (f1 (by decide)))
  obtain rfl : dn = [] := List.eq_nil_of_length_eq_zero (Int.ofNat_inj.1 f3)
  obtain rfl : dm = [] := (show dm = [] from f5)
  obtain rfl : dt = [] := (show dt = [] from f7)
  have F2 : Hid (0 ≤ 65535) := Nat.zero_le _
  have F4 : Hid (SoundN dh) := f4
  have HX := Lib.hid hx
  have HXR := Lib.hid hxr
  have hFl := h.F_lt
  clear f1 f2 f3 f4 f5 f6 f7 hx hxr
  rw [show dsV s ⟨[], dh, [], [], []⟩ = .agg #[.slice s.A0 0 s.c0, .slice s.A1 dh.length s.c1, .slice s.A2 0 s.c2, .slice s.A3 0 s.c3, .slice s.A4 0 s.c4] from rfl]
  obtain ⟨w1, hw1⟩ : ∃ w1, w1 = w.alloc (.cells #[.slice s.A0 0 s.c0, .slice s.A1 dh.length s.c1, .slice s.A2 0 s.c2, .slice s.A3 0 s.c3, .slice s.A4 0 s.c4] 46) := ⟨_, rfl⟩
  have hb1 : Below w.heap.size w w1 := by rw [hw1]; exact bl.alloc (Nat.le_refl _) _
  have ST1 : Hid (RPutSt w w1 B g F F x w.heap.size S s ⟨[], dh, [], [], []⟩) := ⟨h.below hb1, hfx, Chg.of_below hb1, fun k hk => .inl hk, by rw [hw1]; exact heap_alloc_new w _, hd.below hb1 (fun b hb => (hS b hb).1), fun e => by have := (hFl _ e).2; omega, fun b hb => ⟨Nat.lt_of_lt_of_le (hS b hb).1 hb1.size, (hS b hb).2⟩⟩
  clear hd h hfx hS hFl
  have x0 : w1.cell? ⟨w.heap.size, 0, none⟩ = some (.slice s.A0 0 s.c0) := (ST1.out.dc 0).trans rfl
  have x1 : w1.cell? ⟨w.heap.size, 1, none⟩ = some (.slice s.A1 dh.length s.c1) := (ST1.out.dc 1).trans rfl
  have x2 : w1.cell? ⟨w.heap.size, 2, none⟩ = some (.slice s.A2 0 s.c2) := (ST1.out.dc 2).trans rfl
  have x3 : w1.cell? ⟨w.heap.size, 3, none⟩ = some (.slice s.A3 0 s.c3) := (ST1.out.dc 3).trans rfl
  have x4 : w1.cell? ⟨w.heap.size, 4, none⟩ = some (.slice s.A4 0 s.c4) := (ST1.out.dc 4).trans rfl
  go_enter Try.func115, Try.ntmps115
  go_upto_region 1 with (fail)
  rw [← hw1]
  clear hw1 hb1
  go_upto_region 2 with (first
    | (go_at_call 94; refine (rwraw_any w1 B g F x s.A0 0 s.c0 [] ST1.out.W (els_bytes ST1.out.D.b) (by have := HX.out; have := F2.out; omega)).mono ?_; rintro e w5 ⟨rfl, F5r, h5, hc5, hF5⟩; have ST5 := Lib.hid (ST1.out.step h5 (ST1.out.fine.raw _) hc5 hF5); clear h5 hc5 hF5)
    | fail)
  clear x0 x1 x2 x3 x4
  have x0 : w5.cell? ⟨w.heap.size, 0, none⟩ = some (.slice s.A0 0 s.c0) := (ST5.out.dc 0).trans rfl
  have x1 : w5.cell? ⟨w.heap.size, 1, none⟩ = some (.slice s.A1 dh.length s.c1) := (ST5.out.dc 1).trans rfl
  have x2 : w5.cell? ⟨w.heap.size, 2, none⟩ = some (.slice s.A2 0 s.c2) := (ST5.out.dc 2).trans rfl
  have x3 : w5.cell? ⟨w.heap.size, 3, none⟩ = some (.slice s.A3 0 s.c3) := (ST5.out.dc 3).trans rfl
  have x4 : w5.cell? ⟨w.heap.size, 4, none⟩ = some (.slice s.A4 0 s.c4) := (ST5.out.dc 4).trans rfl
  have HY : Hid ((x.raw []).b.length ≤ 9100000 ∧ (x.raw []).rests.length ≤ 9000000) := ⟨by have := HX.out; have := F2.out; simp only [RW.raw, List.length_append] at *; simp; omega, HXR.out⟩
  generalize hy : x.raw [] = y at ST5 HY
  have HYE := Lib.hid hy
  clear hy ST1
  go_wp2
  go_loopw [6] (fun iv wr => iv = .int .i64 0 ∧ wr = w5) (fun _ _ => 0)
  case atStart => exact ⟨rfl, rfl⟩
  case round =>
    obtain ⟨rfl, rfl⟩ := hrel
    go_upto_region 14 with (first
      | (go_at_call 64; refine (rwname_any wr B g F5r y s.A1 _ s.c1 dh true ST5.out.W ST5.out.D.h ST5.out.SF F4.out ST5.out.fine ST5.out.D.ch.1 ST5.out.D.ch.2 (by have := HY.out.1; omega) (by have := HY.out.2; omega)).mono ?_; rintro e wa1 ⟨rfl, Fa1, ha, hca, hFa⟩; have STa1 := Lib.hid (ST5.out.step ha (RW.Fine.name F4.out true ST5.out.fine) hca hFa); clear ha hca hFa)
      | fail)
    clear x0 x1 x2 x3 x4
    have HYa1 : Hid ((y.name dh true).b.length ≤ 9400000 ∧ (y.name dh true).rests.length ≤ 9201000) := ⟨by have h1 := RW.name_le (y := y) dh true; have h2 := HY.out.1; have h3 := F4.out.2; omega, by have h1 := RW.name_rests (x := y) dh true; have h2 := HY.out.2; have h3 := F4.out.2; have h4 := sizeN_length dh; omega⟩
    generalize hya : y.name dh true = ya1 at STa1 HYa1
    have HYEa1 := Lib.hid hya
    clear hya ST5
    have x0 : wa1.cell? ⟨w.heap.size, 0, none⟩ = some (.slice s.A0 0 s.c0) := (STa1.out.dc 0).trans rfl
    have x1 : wa1.cell? ⟨w.heap.size, 1, none⟩ = some (.slice s.A1 dh.length s.c1) := (STa1.out.dc 1).trans rfl
    have x2 : wa1.cell? ⟨w.heap.size, 2, none⟩ = some (.slice s.A2 0 s.c2) := (STa1.out.dc 2).trans rfl
    have x3 : wa1.cell? ⟨w.heap.size, 3, none⟩ = some (.slice s.A3 0 s.c3) := (STa1.out.dc 3).trans rfl
    have x4 : wa1.cell? ⟨w.heap.size, 4, none⟩ = some (.slice s.A4 0 s.c4) := (STa1.out.dc 4).trans rfl
    go_wp2
    go_end0
    refine RPutSt.done STa1.out ?_
    rw [← HYEa1.out, ← HYE.out]
    rfl

set_option maxHeartbeats 8000000 in
theorem rput15_any (w : World) (B g : Nat) (F : Nat → Prop) (x : RW) (s : DS) (d : Da) (S : Nat → Prop) (hf : FineS shpM d) (h : RWtr w B F g x) (hfx : x.Fine) (hd : DIn S w s d) (hS : ∀ b, S b → b < w.heap.size ∧ ¬ F b) (hx : x.b.length ≤ 9000000) (hxr : x.rests.length ≤ 9000000) :
    Calls Try.prog 115 #[.pointer (some ⟨g, 0, none⟩), .int .i64 15, dsV s d] w (RetR w B F g (x.data shpM d) (.tuple #[])) := by
  obtain ⟨f1, f2, f3, f4, f5, f6, f7⟩ := hf
  obtain ⟨db, dh, dm, dn, dt⟩ := d
  obtain rfl : db = [] := List.eq_nil_of_length_eq_zero (Int.ofNat_inj.1 (f1 (by decide)))
  obtain rfl : dm = [] := (show dm = [] from f5)
  obtain rfl : dt = [] := (show dt = [] from f7)
  have F2 : Hid (0 ≤ 65535) := Nat.zero_le _
  have F4 : Hid (SoundN dh) := f4
  have F3 : Hid ((dn.length : Int) = 1) := f3
  have HX := Lib.hid hx
  have HXR := Lib.hid hxr
  have hFl := h.F_lt
  clear f1 f2 f3 f4 f5 f6 f7 hx hxr
  rw [show dsV s ⟨[], dh, [], dn, []⟩ = .agg #[.slice s.A0 0 s.c0, .slice s.A1 dh.length s.c1, .slice s.A2 0 s.c2, .slice s.A3 dn.length s.c3, .slice s.A4 0 s.c4] from rfl]
  obtain ⟨w1, hw1⟩ : ∃ w1, w1 = w.alloc (.cells #[.slice s.A0 0 s.c0, .slice s.A1 dh.length s.c1, .slice s.A2 0 s.c2, .slice s.A3 dn.length s.c3, .slice s.A4 0 s.c4] 46) := ⟨_, rfl⟩
  have hb1 : Below w.heap.size w w1 := by rw [hw1]; exact bl.alloc (Nat.le_refl _) _
  have ST1 : Hid (RPutSt w w1 B g F F x w.heap.size S s ⟨[], dh, [], dn, []⟩) := ⟨h.below hb1, hfx, Chg.of_below hb1, fun k hk => .inl hk, by rw [hw1]; exact heap_alloc_new w _, hd.below hb1 (fun b hb => (hS b hb).1), fun e => by have := (hFl _ e).2; omega, fun b hb => ⟨Nat.lt_of_lt_of_le (hS b hb).1 hb1.size, (hS b hb).2⟩⟩
  clear hd h hfx hS hFl
  have x0 : w1.cell? ⟨w.heap.size, 0, none⟩ = some (.slice s.A0 0 s.c0) := (ST1.out.dc 0).trans rfl
  have x1 : w1.cell? ⟨w.heap.size, 1, none⟩ = some (.slice s.A1 dh.length s.c1) := (ST1.out.dc 1).trans rfl
  have x2 : w1.cell? ⟨w.heap.size, 2, none⟩ = some (.slice s.A2 0 s.c2) := (ST1.out.dc 2).trans rfl
  have x3 : w1.cell? ⟨w.heap.size, 3, none⟩ = some (.slice s.A3 dn.length s.c3) := (ST1.out.dc 3).trans rfl
  have x4 : w1.cell? ⟨w.heap.size, 4, none⟩ = some (.slice s.A4 0 s.c4) := (ST1.out.dc 4).trans rfl
  go_enter Try.func115, Try.ntmps115
  go_upto_region 1 with (fail)
  rw [← hw1]
  clear hw1 hb1
  go_upto_region 2 with (first
    | (go_at_call 94; refine (rwraw_any w1 B g F x s.A0 0 s.c0 [] ST1.out.W (els_bytes ST1.out.D.b) (by have := HX.out; have := F2.out; omega)).mono ?_; rintro e w5 ⟨rfl, F5r, h5, hc5, hF5⟩; have ST5 := Lib.hid (ST1.out.step h5 (ST1.out.fine.raw _) hc5 hF5); clear h5 hc5 hF5)
    | fail)
  clear x0 x1 x2 x3 x4
  have x0 : w5.cell? ⟨w.heap.size, 0, none⟩ = some (.slice s.A0 0 s.c0) := (ST5.out.dc 0).trans rfl
  have x1 : w5.cell? ⟨w.heap.size, 1, none⟩ = some (.slice s.A1 dh.length s.c1) := (ST5.out.dc 1).trans rfl
  have x2 : w5.cell? ⟨w.heap.size, 2, none⟩ = some (.slice s.A2 0 s.c2) := (ST5.out.dc 2).trans rfl
  have x3 : w5.cell? ⟨w.heap.size, 3, none⟩ = some (.slice s.A3 dn.length s.c3) := (ST5.out.dc 3).trans rfl
  have x4 : w5.cell? ⟨w.heap.size, 4, none⟩ = some (.slice s.A4 0 s.c4) := (ST5.out.dc 4).trans rfl
  have HY : Hid ((x.raw []).b.length ≤ 9100000 ∧ (x.raw []).rests.length ≤ 9000000) := ⟨by have := HX.out; have := F2.out; simp only [RW.raw, List.length_append] at *; simp; omega, HXR.out⟩
  generalize hy : x.raw [] = y at ST5 HY
  have HYE := Lib.hid hy
  clear hy ST1
  go_wp2
  go_loopw [6] (fun iv wr => iv = .int .i64 0 ∧ wr = w5) (fun _ _ => 0)
  case atStart => exact ⟨rfl, rfl⟩
  case round =>
    obtain ⟨rfl, rfl⟩ := hrel
    go_wp2
    clear x0 x1 x2 x3 x4
    have HN0 : Hid (∀ j, j ≤ dn.length → (y.nums (dn.take j) 2).b.length ≤ 9900000) := fun j hj => by have h1 := (y.nums_len (dn.take j) 2).1; rw [List.length_take] at h1; have h2 := HY.out.1; have h3 := F3.out; omega
    have hdn : dn.length ≤ 5 := by have := F3.out; omega
    go_loopw [7] (fun iv wr => ∃ (j : Nat) (Fr : Nat → Prop), iv = .int .i64 j ∧ j ≤ dn.length ∧ Hid (RPutSt w wr B g F Fr (y.nums (dn.take j) 2) w.heap.size S s ⟨[], dh, [], dn, []⟩)) (fun iv _ => dn.length - (intOf iv).toNat)
    case atStart => exact ⟨0, F5r, rfl, Nat.zero_le _, ST5⟩
    case round =>
      clear ST5
      rename World => wk
      obtain ⟨j, Fk, rfl, hj, STJ⟩ := hrel
      have x0 : wk.cell? ⟨w.heap.size, 0, none⟩ = some (.slice s.A0 0 s.c0) := (STJ.out.dc 0).trans rfl
      have x1 : wk.cell? ⟨w.heap.size, 1, none⟩ = some (.slice s.A1 dh.length s.c1) := (STJ.out.dc 1).trans rfl
      have x2 : wk.cell? ⟨w.heap.size, 2, none⟩ = some (.slice s.A2 0 s.c2) := (STJ.out.dc 2).trans rfl
      have x3 : wk.cell? ⟨w.heap.size, 3, none⟩ = some (.slice s.A3 dn.length s.c3) := (STJ.out.dc 3).trans rfl
      have x4 : wk.cell? ⟨w.heap.size, 4, none⟩ = some (.slice s.A4 0 s.c4) := (STJ.out.dc 4).trans rfl
      by_cases hlt : j < dn.length
      · obtain ⟨l, hl⟩ : ∃ l, dn[j]? = some l := ⟨_, List.getElem?_eq_getElem hlt⟩
        obtain ⟨bb, off, hA, _, hcell, hll⟩ := ints_at STJ.out.D.n hl
        have HL := Lib.hid hl
        have HLL := Lib.hid hll
        have HTK : Hid (y.nums (dn.take (j + 1)) 2 = (y.nums (dn.take j) 2).raw (putB [] l 2)) := by show _ = _; rw [List.take_add_one, HL.out]; exact RW.nums_snoc _ _ _ _
        rw [hA] at x3
        clear hl hll hA
        go_wp2_with (first
          | (go_at_call 63; refine (rwnum_any wk B g Fk _ l 2 STJ.out.W (by have := HN0.out j hj; omega) HLL.out.2).mono ?_; rintro e w9 ⟨rfl, F9r, h9, hc9, hF9⟩; have ST9 := Lib.hid (STJ.out.step h9 (STJ.out.fine.raw _) hc9 hF9); clear h9 hc9 hF9)
          | fail)
        rw [← HTK.out] at ST9
        go_roundw
        case rel => exact ⟨j + 1, F9r, by go_num, by omega, ST9⟩
        case measure => simp [intOf]; omega
      · obtain rfl : j = dn.length := by omega
        have STK := STJ.out
        rw [List.take_length] at STK
        have STa1 := Lib.hid STK
        clear STK STJ
        have HYa1 : Hid ((y.nums dn 2).b.length ≤ 9400000 ∧ (y.nums dn 2).rests.length ≤ 9201000) := ⟨by have h1 := (y.nums_len dn 2).1; have h2 := HY.out.1; have h3 := F3.out; omega, by rw [(y.nums_len dn 2).2]; have := HY.out.2; omega⟩
        generalize hya : y.nums dn 2 = ya1 at STa1 HYa1
        have HYEa1 := Lib.hid hya
        clear hya
        go_upto_region 14 with (first
          | (go_at_call 64; refine (rwname_any wk B g Fk ya1 s.A1 _ s.c1 dh true STa1.out.W STa1.out.D.h STa1.out.SF F4.out STa1.out.fine STa1.out.D.ch.1 STa1.out.D.ch.2 (by have := HYa1.out.1; omega) (by have := HYa1.out.2; omega)).mono ?_; rintro e wa2 ⟨rfl, Fa2, ha, hca, hFa⟩; have STa2 := Lib.hid (STa1.out.step ha (RW.Fine.name F4.out true STa1.out.fine) hca hFa); clear ha hca hFa)
          | fail)
        clear x0 x1 x2 x3 x4
        have HYa2 : Hid ((ya1.name dh true).b.length ≤ 9500000 ∧ (ya1.name dh true).rests.length ≤ 9202000) := ⟨by have h1 := RW.name_le (y := ya1) dh true; have h2 := HYa1.out.1; have h3 := F4.out.2; omega, by have h1 := RW.name_rests (x := ya1) dh true; have h2 := HYa1.out.2; have h3 := F4.out.2; have h4 := sizeN_length dh; omega⟩
        generalize hya : ya1.name dh true = ya2 at STa2 HYa2
        have HYEa2 := Lib.hid hya
        clear hya STa1
        have x0 : wa2.cell? ⟨w.heap.size, 0, none⟩ = some (.slice s.A0 0 s.c0) := (STa2.out.dc 0).trans rfl
        have x1 : wa2.cell? ⟨w.heap.size, 1, none⟩ = some (.slice s.A1 dh.length s.c1) := (STa2.out.dc 1).trans rfl
        have x2 : wa2.cell? ⟨w.heap.size, 2, none⟩ = some (.slice s.A2 0 s.c2) := (STa2.out.dc 2).trans rfl
        have x3 : wa2.cell? ⟨w.heap.size, 3, none⟩ = some (.slice s.A3 dn.length s.c3) := (STa2.out.dc 3).trans rfl
        have x4 : wa2.cell? ⟨w.heap.size, 4, none⟩ = some (.slice s.A4 0 s.c4) := (STa2.out.dc 4).trans rfl
        go_wp2
        go_end0
        refine RPutSt.done STa2.out ?_
        rw [← HYEa2.out, ← HYEa1.out, ← HYE.out]
        rfl

set_option maxHeartbeats 8000000 in
theorem rput6_any (w : World) (B g : Nat) (F : Nat → Prop) (x : RW) (s : DS) (d : Da) (S : Nat → Prop) (hf : FineS shpS d) (h : RWtr w B F g x) (hfx : x.Fine) (hd : DIn S w s d) (hS : ∀ b, S b → b < w.heap.size ∧ ¬ F b) (hx : x.b.length ≤ 9000000) (hxr : x.rests.length ≤ 9000000) :
    Calls Try.prog 115 #[.pointer (some ⟨g, 0, none⟩), .int .i64 6, dsV s d] w (RetR w B F g (x.data shpS d) (.tuple #[])) := by
  obtain ⟨f1, f2, f3, f4, f5, f6, f7⟩ := hf
  obtain ⟨db, dh, dm, dn, dt⟩ := d
  obtain rfl : db = [] := List.eq_nil_of_length_eq_zero (Int.ofNat_inj.1 (f1 (by decide)))
  obtain rfl : dt = [] := (show dt = [] from f7)
  have F2 : Hid (0 ≤ 65535) := Nat.zero_le _
  have F4 : Hid (SoundN dh) := f4
  have F5 : Hid (SoundN dm) := f5
  have F3 : Hid ((dn.length : Int) = 5) := f3
  have HX := Lib.hid hx
  have HXR := Lib.hid hxr
  have hFl := h.F_lt
  clear f1 f2 f3 f4 f5 f6 f7 hx hxr
  rw [show dsV s ⟨[], dh, dm, dn, []⟩ = .agg #[.slice s.A0 0 s.c0, .slice s.A1 dh.length s.c1, .slice s.A2 dm.length s.c2, .slice s.A3 dn.length s.c3, .slice s.A4 0 s.c4] from rfl]
  obtain ⟨w1, hw1⟩ : ∃ w1, w1 = w.alloc (.cells #[.slice s.A0 0 s.c0, .slice s.A1 dh.length s.c1, .slice s.A2 dm.length s.c2, .slice s.A3 dn.length s.c3, .slice s.A4 0 s.c4] 46) := ⟨_, rfl⟩
  have hb1 : Below w.heap.size w w1 := by rw [hw1]; exact bl.alloc (Nat.le_refl _) _
  have ST1 : Hid (RPutSt w w1 B g F F x w.heap.size S s ⟨[], dh, dm, dn, []⟩) := ⟨h.below hb1, hfx, Chg.of_below hb1, fun k hk => .inl hk, by rw [hw1]; exact heap_alloc_new w _, hd.below hb1 (fun b hb => (hS b hb).1), fun e => by have := (hFl _ e).2; omega, fun b hb => ⟨Nat.lt_of_lt_of_le (hS b hb).1 hb1.size, (hS b hb).2⟩⟩
  clear hd h hfx hS hFl
  have x0 : w1.cell? ⟨w.heap.size, 0, none⟩ = some (.slice s.A0 0 s.c0) := (ST1.out.dc 0).trans rfl
  have x1 : w1.cell? ⟨w.heap.size, 1, none⟩ = some (.slice s.A1 dh.length s.c1) := (ST1.out.dc 1).trans rfl
  have x2 : w1.cell? ⟨w.heap.size, 2, none⟩ = some (.slice s.A2 dm.length s.c2) := (ST1.out.dc 2).trans rfl
  have x3 : w1.cell? ⟨w.heap.size, 3, none⟩ = some (.slice s.A3 dn.length s.c3) := (ST1.out.dc 3).trans rfl
  have x4 : w1.cell? ⟨w.heap.size, 4, none⟩ = some (.slice s.A4 0 s.c4) := (ST1.out.dc 4).trans rfl
  go_enter Try.func115, Try.ntmps115
  go_upto_region 1 with (fail)
  rw [← hw1]
  clear hw1 hb1
  go_upto_region 2 with (first
    | (go_at_call 94; refine (rwraw_any w1 B g F x s.A0 0 s.c0 [] ST1.out.W (els_bytes ST1.out.D.b) (by have := HX.out; have := F2.out; omega)).mono ?_; rintro e w5 ⟨rfl, F5r, h5, hc5, hF5⟩; have ST5 := Lib.hid (ST1.out.step h5 (ST1.out.fine.raw _) hc5 hF5); clear h5 hc5 hF5)
    | fail)
  clear x0 x1 x2 x3 x4
  have x0 : w5.cell? ⟨w.heap.size, 0, none⟩ = some (.slice s.A0 0 s.c0) := (ST5.out.dc 0).trans rfl
  have x1 : w5.cell? ⟨w.heap.size, 1, none⟩ = some (.slice s.A1 dh.length s.c1) := (ST5.out.dc 1).trans rfl
  have x2 : w5.cell? ⟨w.heap.size, 2, none⟩ = some (.slice s.A2 dm.length s.c2) := (ST5.out.dc 2).trans rfl
  have x3 : w5.cell? ⟨w.heap.size, 3, none⟩ = some (.slice s.A3 dn.length s.c3) := (ST5.out.dc 3).trans rfl
  have x4 : w5.cell? ⟨w.heap.size, 4, none⟩ = some (.slice s.A4 0 s.c4) := (ST5.out.dc 4).trans rfl
  have HY : Hid ((x.raw []).b.length ≤ 9100000 ∧ (x.raw []).rests.length ≤ 9000000) := ⟨by have := HX.out; have := F2.out; simp only [RW.raw, List.length_append] at *; simp; omega, HXR.out⟩
  generalize hy : x.raw [] = y at ST5 HY
  have HYE := Lib.hid hy
  clear hy ST1
  go_wp2
  go_loopw [6] (fun iv wr => iv = .int .i64 0 ∧ wr = w5) (fun _ _ => 0)
  case atStart => exact ⟨rfl, rfl⟩
  case round =>
    obtain ⟨rfl, rfl⟩ := hrel
    go_upto_region 14 with (first
      | (go_at_call 64; refine (rwname_any wr B g F5r y s.A1 _ s.c1 dh true ST5.out.W ST5.out.D.h ST5.out.SF F4.out ST5.out.fine ST5.out.D.ch.1 ST5.out.D.ch.2 (by have := HY.out.1; omega) (by have := HY.out.2; omega)).mono ?_; rintro e wa1 ⟨rfl, Fa1, ha, hca, hFa⟩; have STa1 := Lib.hid (ST5.out.step ha (RW.Fine.name F4.out true ST5.out.fine) hca hFa); clear ha hca hFa)
      | fail)
    clear x0 x1 x2 x3 x4
    have HYa1 : Hid ((y.name dh true).b.length ≤ 9400000 ∧ (y.name dh true).rests.length ≤ 9201000) := ⟨by have h1 := RW.name_le (y := y) dh true; have h2 := HY.out.1; have h3 := F4.out.2; omega, by have h1 := RW.name_rests (x := y) dh true; have h2 := HY.out.2; have h3 := F4.out.2; have h4 := sizeN_length dh; omega⟩
    generalize hya : y.name dh true = ya1 at STa1 HYa1
    have HYEa1 := Lib.hid hya
    clear hya ST5
    have x0 : wa1.cell? ⟨w.heap.size, 0, none⟩ = some (.slice s.A0 0 s.c0) := (STa1.out.dc 0).trans rfl
    have x1 : wa1.cell? ⟨w.heap.size, 1, none⟩ = some (.slice s.A1 dh.length s.c1) := (STa1.out.dc 1).trans rfl
    have x2 : wa1.cell? ⟨w.heap.size, 2, none⟩ = some (.slice s.A2 dm.length s.c2) := (STa1.out.dc 2).trans rfl
    have x3 : wa1.cell? ⟨w.heap.size, 3, none⟩ = some (.slice s.A3 dn.length s.c3) := (STa1.out.dc 3).trans rfl
    have x4 : wa1.cell? ⟨w.heap.size, 4, none⟩ = some (.slice s.A4 0 s.c4) := (STa1.out.dc 4).trans rfl
    go_upto_region 18 with (first
      | (go_at_call 64; refine (rwname_any wa1 B g Fa1 ya1 s.A2 _ s.c2 dm true STa1.out.W STa1.out.D.m STa1.out.SF F5.out STa1.out.fine STa1.out.D.cm.1 STa1.out.D.cm.2 (by have := HYa1.out.1; omega) (by have := HYa1.out.2; omega)).mono ?_; rintro e wa2 ⟨rfl, Fa2, ha, hca, hFa⟩; have STa2 := Lib.hid (STa1.out.step ha (RW.Fine.name F5.out true STa1.out.fine) hca hFa); clear ha hca hFa)
      | fail)
    clear x0 x1 x2 x3 x4
    have HYa2 : Hid ((ya1.name dm true).b.length ≤ 9500000 ∧ (ya1.name dm true).rests.length ≤ 9202000) := ⟨by have h1 := RW.name_le (y := ya1) dm true; have h2 := HYa1.out.1; have h3 := F5.out.2; omega, by have h1 := RW.name_rests (x := ya1) dm true; have h2 := HYa1.out.2; have h3 := F5.out.2; have h4 := sizeN_length dm; omega⟩
    generalize hya : ya1.name dm true = ya2 at STa2 HYa2
    have HYEa2 := Lib.hid hya
    clear hya STa1
    have x0 : wa2.cell? ⟨w.heap.size, 0, none⟩ = some (.slice s.A0 0 s.c0) := (STa2.out.dc 0).trans rfl
    have x1 : wa2.cell? ⟨w.heap.size, 1, none⟩ = some (.slice s.A1 dh.length s.c1) := (STa2.out.dc 1).trans rfl
    have x2 : wa2.cell? ⟨w.heap.size, 2, none⟩ = some (.slice s.A2 dm.length s.c2) := (STa2.out.dc 2).trans rfl
    have x3 : wa2.cell? ⟨w.heap.size, 3, none⟩ = some (.slice s.A3 dn.length s.c3) := (STa2.out.dc 3).trans rfl
    have x4 : wa2.cell? ⟨w.heap.size, 4, none⟩ = some (.slice s.A4 0 s.c4) := (STa2.out.dc 4).trans rfl
    go_wp2
    clear x0 x1 x2 x3 x4
    have HN0 : Hid (∀ j, j ≤ dn.length → (ya2.nums (dn.take j) 4).b.length ≤ 9900000) := fun j hj => by have h1 := (ya2.nums_len (dn.take j) 4).1; rw [List.length_take] at h1; have h2 := HYa2.out.1; have h3 := F3.out; omega
    have hdn : dn.length ≤ 5 := by have := F3.out; omega
    go_loopw [8] (fun iv wr => ∃ (j : Nat) (Fr : Nat → Prop), iv = .int .i64 j ∧ j ≤ dn.length ∧ Hid (RPutSt w wr B g F Fr (ya2.nums (dn.take j) 4) w.heap.size S s ⟨[], dh, dm, dn, []⟩)) (fun iv _ => dn.length - (intOf iv).toNat)
    case atStart => exact ⟨0, Fa2, rfl, Nat.zero_le _, STa2⟩
    case round =>
      clear STa2
      rename World => wk
      obtain ⟨j, Fk, rfl, hj, STJ⟩ := hrel
      have x0 : wk.cell? ⟨w.heap.size, 0, none⟩ = some (.slice s.A0 0 s.c0) := (STJ.out.dc 0).trans rfl
      have x1 : wk.cell? ⟨w.heap.size, 1, none⟩ = some (.slice s.A1 dh.length s.c1) := (STJ.out.dc 1).trans rfl
      have x2 : wk.cell? ⟨w.heap.size, 2, none⟩ = some (.slice s.A2 dm.length s.c2) := (STJ.out.dc 2).trans rfl
      have x3 : wk.cell? ⟨w.heap.size, 3, none⟩ = some (.slice s.A3 dn.length s.c3) := (STJ.out.dc 3).trans rfl
      have x4 : wk.cell? ⟨w.heap.size, 4, none⟩ = some (.slice s.A4 0 s.c4) := (STJ.out.dc 4).trans rfl
      by_cases hlt : j < dn.length
      · obtain ⟨l, hl⟩ : ∃ l, dn[j]? = some l := ⟨_, List.getElem?_eq_getElem hlt⟩
        obtain ⟨bb, off, hA, _, hcell, hll⟩ := ints_at STJ.out.D.n hl
        have HL := Lib.hid hl
        have HLL := Lib.hid hll
        have HTK : Hid (ya2.nums (dn.take (j + 1)) 4 = (ya2.nums (dn.take j) 4).raw (putB [] l 4)) := by show _ = _; rw [List.take_add_one, HL.out]; exact RW.nums_snoc _ _ _ _
        rw [hA] at x3
        clear hl hll hA
        go_wp2_with (first
          | (go_at_call 63; refine (rwnum_any wk B g Fk _ l 4 STJ.out.W (by have := HN0.out j hj; omega) HLL.out.2).mono ?_; rintro e w9 ⟨rfl, F9r, h9, hc9, hF9⟩; have ST9 := Lib.hid (STJ.out.step h9 (STJ.out.fine.raw _) hc9 hF9); clear h9 hc9 hF9)
          | fail)
        rw [← HTK.out] at ST9
        go_roundw
        case rel => exact ⟨j + 1, F9r, by go_num, by omega, ST9⟩
        case measure => simp [intOf]; omega
      · obtain rfl : j = dn.length := by omega
        have STK := STJ.out
        rw [List.take_length] at STK
        have STa3 := Lib.hid STK
        clear STK STJ
        have HYa3 : Hid ((ya2.nums dn 4).b.length ≤ 9600000 ∧ (ya2.nums dn 4).rests.length ≤ 9203000) := ⟨by have h1 := (ya2.nums_len dn 4).1; have h2 := HYa2.out.1; have h3 := F3.out; omega, by rw [(ya2.nums_len dn 4).2]; have := HYa2.out.2; omega⟩
        generalize hya : ya2.nums dn 4 = ya3 at STa3 HYa3
        have HYEa3 := Lib.hid hya
        clear hya
        go_wp2
        go_end0
        refine RPutSt.done STa3.out ?_
        rw [← HYEa3.out, ← HYEa2.out, ← HYEa1.out, ← HYE.out]
        rfl

set_option maxHeartbeats 8000000 in
theorem rput33_any (w : World) (B g : Nat) (F : Nat → Prop) (x : RW) (s : DS) (d : Da) (S : Nat → Prop) (hf : FineS shpV3 d) (h : RWtr w B F g x) (hfx : x.Fine) (hd : DIn S w s d) (hS : ∀ b, S b → b < w.heap.size ∧ ¬ F b) (hx : x.b.length ≤ 9000000) (hxr : x.rests.length ≤ 9000000) :
    Calls Try.prog 115 #[.pointer (some ⟨g, 0, none⟩), .int .i64 33, dsV s d] w (RetR w B F g (x.data shpV3 d) (.tuple #[])) := by
  obtain ⟨f1, f2, f3, f4, f5, f6, f7⟩ := hf
  obtain ⟨db, dh, dm, dn, dt⟩ := d
  obtain rfl : db = [] := List.eq_nil_of_length_eq_zero (Int.ofNat_inj.1 (f1 (by decide)))
  obtain rfl : dm = [] := (show dm = [] from f5)
  obtain rfl : dt = [] := (show dt = [] from f7)
  have F2 : Hid (0 ≤ 65535) := Nat.zero_le _
  have F4 : Hid (SoundN dh) := f4
  have F3 : Hid ((dn.length : Int) = 3) := f3
  have HX := Lib.hid hx
  have HXR := Lib.hid hxr
  have hFl := h.F_lt
  clear f1 f2 f3 f4 f5 f6 f7 hx hxr
  rw [show dsV s ⟨[], dh, [], dn, []⟩ = .agg #[.slice s.A0 0 s.c0, .slice s.A1 dh.length s.c1, .slice s.A2 0 s.c2, .slice s.A3 dn.length s.c3, .slice s.A4 0 s.c4] from rfl]
  obtain ⟨w1, hw1⟩ : ∃ w1, w1 = w.alloc (.cells #[.slice s.A0 0 s.c0, .slice s.A1 dh.length s.c1, .slice s.A2 0 s.c2, .slice s.A3 dn.length s.c3, .slice s.A4 0 s.c4] 46) := ⟨_, rfl⟩
  have hb1 : Below w.heap.size w w1 := by rw [hw1]; exact bl.alloc (Nat.le_refl _) _
  have ST1 : Hid (RPutSt w w1 B g F F x w.heap.size S s ⟨[], dh, [], dn, []⟩) := ⟨h.below hb1, hfx, Chg.of_below hb1, fun k hk => .inl hk, by rw [hw1]; exact heap_alloc_new w _, hd.below hb1 (fun b hb => (hS b hb).1), fun e => by have := (hFl _ e).2; omega, fun b hb => ⟨Nat.lt_of_lt_of_le (hS b hb).1 hb1.size, (hS b hb).2⟩⟩
  clear hd h hfx hS hFl
  have x0 : w1.cell? ⟨w.heap.size, 0, none⟩ = some (.slice s.A0 0 s.c0) := (ST1.out.dc 0).trans rfl
  have x1 : w1.cell? ⟨w.heap.size, 1, none⟩ = some (.slice s.A1 dh.length s.c1) := (ST1.out.dc 1).trans rfl
  have x2 : w1.cell? ⟨w.heap.size, 2, none⟩ = some (.slice s.A2 0 s.c2) := (ST1.out.dc 2).trans rfl
  have x3 : w1.cell? ⟨w.heap.size, 3, none⟩ = some (.slice s.A3 dn.length s.c3) := (ST1.out.dc 3).trans rfl
  have x4 : w1.cell? ⟨w.heap.size, 4, none⟩ = some (.slice s.A4 0 s.c4) := (ST1.out.dc 4).trans rfl
  go_enter Try.func115, Try.ntmps115
  go_upto_region 1 with (fail)
  rw [← hw1]
  clear hw1 hb1
  go_upto_region 2 with (first
    | (go_at_call 94; refine (rwraw_any w1 B g F x s.A0 0 s.c0 [] ST1.out.W (els_bytes ST1.out.D.b) (by have := HX.out; have := F2.out; omega)).mono ?_; rintro e w5 ⟨rfl, F5r, h5, hc5, hF5⟩; have ST5 := Lib.hid (ST1.out.step h5 (ST1.out.fine.raw _) hc5 hF5); clear h5 hc5 hF5)
    | fail)
  clear x0 x1 x2 x3 x4
  have x0 : w5.cell? ⟨w.heap.size, 0, none⟩ = some (.slice s.A0 0 s.c0) := (ST5.out.dc 0).trans rfl
  have x1 : w5.cell? ⟨w.heap.size, 1, none⟩ = some (.slice s.A1 dh.length s.c1) := (ST5.out.dc 1).trans rfl
  have x2 : w5.cell? ⟨w.heap.size, 2, none⟩ = some (.slice s.A2 0 s.c2) := (ST5.out.dc 2).trans rfl
  have x3 : w5.cell? ⟨w.heap.size, 3, none⟩ = some (.slice s.A3 dn.length s.c3) := (ST5.out.dc 3).trans rfl
  have x4 : w5.cell? ⟨w.heap.size, 4, none⟩ = some (.slice s.A4 0 s.c4) := (ST5.out.dc 4).trans rfl
  have HY : Hid ((x.raw []).b.length ≤ 9100000 ∧ (x.raw []).rests.length ≤ 9000000) := ⟨by have := HX.out; have := F2.out; simp only [RW.raw, List.length_append] at *; simp; omega, HXR.out⟩
  generalize hy : x.raw [] = y at ST5 HY
  have HYE := Lib.hid hy
  clear hy ST1
  go_wp2
  go_loopw [6] (fun iv wr => iv = .int .i64 0 ∧ wr = w5) (fun _ _ => 0)
  case atStart => exact ⟨rfl, rfl⟩
  case round =>
    obtain ⟨rfl, rfl⟩ := hrel
    go_wp2
    clear x0 x1 x2 x3 x4
    have HN0 : Hid (∀ j, j ≤ dn.length → (y.nums (dn.take j) 2).b.length ≤ 9900000) := fun j hj => by have h1 := (y.nums_len (dn.take j) 2).1; rw [List.length_take] at h1; have h2 := HY.out.1; have h3 := F3.out; omega
    have hdn : dn.length ≤ 5 := by have := F3.out; omega
    go_loopw [7] (fun iv wr => ∃ (j : Nat) (Fr : Nat → Prop), iv = .int .i64 j ∧ j ≤ dn.length ∧ Hid (RPutSt w wr B g F Fr (y.nums (dn.take j) 2) w.heap.size S s ⟨[], dh, [], dn, []⟩)) (fun iv _ => dn.length - (intOf iv).toNat)
    case atStart => exact ⟨0, F5r, rfl, Nat.zero_le _, ST5⟩
    case round =>
      clear ST5
      rename World => wk
      obtain ⟨j, Fk, rfl, hj, STJ⟩ := hrel
      have x0 : wk.cell? ⟨w.heap.size, 0, none⟩ = some (.slice s.A0 0 s.c0) := (STJ.out.dc 0).trans rfl
      have x1 : wk.cell? ⟨w.heap.size, 1, none⟩ = some (.slice s.A1 dh.length s.c1) := (STJ.out.dc 1).trans rfl
      have x2 : wk.cell? ⟨w.heap.size, 2, none⟩ = some (.slice s.A2 0 s.c2) := (STJ.out.dc 2).trans rfl
      have x3 : wk.cell? ⟨w.heap.size, 3, none⟩ = some (.slice s.A3 dn.length s.c3) := (STJ.out.dc 3).trans rfl
      have x4 : wk.cell? ⟨w.heap.size, 4, none⟩ = some (.slice s.A4 0 s.c4) := (STJ.out.dc 4).trans rfl
      by_cases hlt : j < dn.length
      · obtain ⟨l, hl⟩ : ∃ l, dn[j]? = some l := ⟨_, List.getElem?_eq_getElem hlt⟩
        obtain ⟨bb, off, hA, _, hcell, hll⟩ := ints_at STJ.out.D.n hl
        have HL := Lib.hid hl
        have HLL := Lib.hid hll
        have HTK : Hid (y.nums (dn.take (j + 1)) 2 = (y.nums (dn.take j) 2).raw (putB [] l 2)) := by show _ = _; rw [List.take_add_one, HL.out]; exact RW.nums_snoc _ _ _ _
        rw [hA] at x3
        clear hl hll hA
        go_wp2_with (first
          | (go_at_call 63; refine (rwnum_any wk B g Fk _ l 2 STJ.out.W (by have := HN0.out j hj; omega) HLL.out.2).mono ?_; rintro e w9 ⟨rfl, F9r, h9, hc9, hF9⟩; have ST9 := Lib.hid (STJ.out.step h9 (STJ.out.fine.raw _) hc9 hF9); clear h9 hc9 hF9)
          | fail)
        rw [← HTK.out] at ST9
        go_roundw
        case rel => exact ⟨j + 1, F9r, by go_num, by omega, ST9⟩
        case measure => simp [intOf]; omega
      · obtain rfl : j = dn.length := by omega
        have STK := STJ.out
        rw [List.take_length] at STK
        have STa1 := Lib.hid STK
        clear STK STJ
        have HYa1 : Hid ((y.nums dn 2).b.length ≤ 9400000 ∧ (y.nums dn 2).rests.length ≤ 9201000) := ⟨by have h1 := (y.nums_len dn 2).1; have h2 := HY.out.1; have h3 := F3.out; omega, by rw [(y.nums_len dn 2).2]; have := HY.out.2; omega⟩
        generalize hya : y.nums dn 2 = ya1 at STa1 HYa1
        have HYEa1 := Lib.hid hya
        clear hya
        go_upto_region 16 with (first
          | (go_at_call 64; refine (rwname_any wk B g Fk ya1 s.A1 _ s.c1 dh false STa1.out.W STa1.out.D.h STa1.out.SF F4.out STa1.out.fine STa1.out.D.ch.1 STa1.out.D.ch.2 (by have := HYa1.out.1; omega) (by have := HYa1.out.2; omega)).mono ?_; rintro e wa2 ⟨rfl, Fa2, ha, hca, hFa⟩; have STa2 := Lib.hid (STa1.out.step ha (RW.Fine.name F4.out false STa1.out.fine) hca hFa); clear ha hca hFa)
          | fail)
        clear x0 x1 x2 x3 x4
        have HYa2 : Hid ((ya1.name dh false).b.length ≤ 9500000 ∧ (ya1.name dh false).rests.length ≤ 9202000) := ⟨by have h1 := RW.name_le (y := ya1) dh false; have h2 := HYa1.out.1; have h3 := F4.out.2; omega, by have h1 := RW.name_rests (x := ya1) dh false; have h2 := HYa1.out.2; have h3 := F4.out.2; have h4 := sizeN_length dh; omega⟩
        generalize hya : ya1.name dh false = ya2 at STa2 HYa2
        have HYEa2 := Lib.hid hya
        clear hya STa1
        have x0 : wa2.cell? ⟨w.heap.size, 0, none⟩ = some (.slice s.A0 0 s.c0) := (STa2.out.dc 0).trans rfl
        have x1 : wa2.cell? ⟨w.heap.size, 1, none⟩ = some (.slice s.A1 dh.length s.c1) := (STa2.out.dc 1).trans rfl
        have x2 : wa2.cell? ⟨w.heap.size, 2, none⟩ = some (.slice s.A2 0 s.c2) := (STa2.out.dc 2).trans rfl
        have x3 : wa2.cell? ⟨w.heap.size, 3, none⟩ = some (.slice s.A3 dn.length s.c3) := (STa2.out.dc 3).trans rfl
        have x4 : wa2.cell? ⟨w.heap.size, 4, none⟩ = some (.slice s.A4 0 s.c4) := (STa2.out.dc 4).trans rfl
        go_wp2
        go_end0
        refine RPutSt.done STa2.out ?_
        rw [← HYEa2.out, ← HYEa1.out, ← HYE.out]
        rfl

set_option maxHeartbeats 8000000 in
theorem rput16_any (w : World) (B g : Nat) (F : Nat → Prop) (x : RW) (s : DS) (d : Da) (S : Nat → Prop) (hf : FineS shpT d) (h : RWtr w B F g x) (hfx : x.Fine) (hd : DIn S w s d) (hS : ∀ b, S b → b < w.heap.size ∧ ¬ F b) (hx : x.b.length ≤ 9000000) (hxr : x.rests.length ≤ 9000000) :
    Calls Try.prog 115 #[.pointer (some ⟨g, 0, none⟩), .int .i64 16, dsV s d] w (RetR w B F g (x.data shpT d) (.tuple #[])) := by
  obtain ⟨f1, f2, f3, f4, f5, f6, f7⟩ := hf
  obtain ⟨db, dh, dm, dn, dt⟩ := d
  obtain rfl : db = [] := List.eq_nil_of_length_eq_zero (Int.ofNat_inj.1 (f1 (by decide)))
  obtain rfl : dn = [] := List.eq_nil_of_length_eq_zero (Int.ofNat_inj.1 f3)
  obtain rfl : dh = [] := (show dh = [] from f4)
  obtain rfl : dm = [] := (show dm = [] from f5)
  have F2 : Hid (0 ≤ 65535) := Nat.zero_le _
  have F7 : Hid (1 ≤ dt.length ∧ dt.length ≤ 64 ∧ ∀ l ∈ dt, l.length ≤ 255) := f7
  have HX := Lib.hid hx
  have HXR := Lib.hid hxr
  have hFl := h.F_lt
  clear f1 f2 f3 f4 f5 f6 f7 hx hxr
  rw [show dsV s ⟨[], [], [], [], dt⟩ = .agg #[.slice s.A0 0 s.c0, .slice s.A1 0 s.c1, .slice s.A2 0 s.c2, .slice s.A3 0 s.c3, .slice s.A4 dt.length s.c4] from rfl]
  obtain ⟨w1, hw1⟩ : ∃ w1, w1 = w.alloc (.cells #[.slice s.A0 0 s.c0, .slice s.A1 0 s.c1, .slice s.A2 0 s.c2, .slice s.A3 0 s.c3, .slice s.A4 dt.length s.c4] 46) := ⟨_, rfl⟩
  have hb1 : Below w.heap.size w w1 := by rw [hw1]; exact bl.alloc (Nat.le_refl _) _
  have ST1 : Hid (RPutSt w w1 B g F F x w.heap.size S s ⟨[], [], [], [], dt⟩) := ⟨h.below hb1, hfx, Chg.of_below hb1, fun k hk => .inl hk, by rw [hw1]; exact heap_alloc_new w _, hd.below hb1 (fun b hb => (hS b hb).1), fun e => by have := (hFl _ e).2; omega, fun b hb => ⟨Nat.lt_of_lt_of_le (hS b hb).1 hb1.size, (hS b hb).2⟩⟩
  clear hd h hfx hS hFl
  have x0 : w1.cell? ⟨w.heap.size, 0, none⟩ = some (.slice s.A0 0 s.c0) := (ST1.out.dc 0).trans rfl
  have x1 : w1.cell? ⟨w.heap.size, 1, none⟩ = some (.slice s.A1 0 s.c1) := (ST1.out.dc 1).trans rfl
  have x2 : w1.cell? ⟨w.heap.size, 2, none⟩ = some (.slice s.A2 0 s.c2) := (ST1.out.dc 2).trans rfl
  have x3 : w1.cell? ⟨w.heap.size, 3, none⟩ = some (.slice s.A3 0 s.c3) := (ST1.out.dc 3).trans rfl
  have x4 : w1.cell? ⟨w.heap.size, 4, none⟩ = some (.slice s.A4 dt.length s.c4) := (ST1.out.dc 4).trans rfl
  go_enter Try.func115, Try.ntmps115
  go_upto_region 1 with (fail)
  rw [← hw1]
  clear hw1 hb1
  go_upto_region 2 with (first
    | (go_at_call 94; refine (rwraw_any w1 B g F x s.A0 0 s.c0 [] ST1.out.W (els_bytes ST1.out.D.b) (by have := HX.out; have := F2.out; omega)).mono ?_; rintro e w5 ⟨rfl, F5r, h5, hc5, hF5⟩; have ST5 := Lib.hid (ST1.out.step h5 (ST1.out.fine.raw _) hc5 hF5); clear h5 hc5 hF5)
    | fail)
  clear x0 x1 x2 x3 x4
  have x0 : w5.cell? ⟨w.heap.size, 0, none⟩ = some (.slice s.A0 0 s.c0) := (ST5.out.dc 0).trans rfl
  have x1 : w5.cell? ⟨w.heap.size, 1, none⟩ = some (.slice s.A1 0 s.c1) := (ST5.out.dc 1).trans rfl
  have x2 : w5.cell? ⟨w.heap.size, 2, none⟩ = some (.slice s.A2 0 s.c2) := (ST5.out.dc 2).trans rfl
  have x3 : w5.cell? ⟨w.heap.size, 3, none⟩ = some (.slice s.A3 0 s.c3) := (ST5.out.dc 3).trans rfl
  have x4 : w5.cell? ⟨w.heap.size, 4, none⟩ = some (.slice s.A4 dt.length s.c4) := (ST5.out.dc 4).trans rfl
  have HY : Hid ((x.raw []).b.length ≤ 9100000 ∧ (x.raw []).rests.length ≤ 9000000) := ⟨by have := HX.out; have := F2.out; simp only [RW.raw, List.length_append] at *; simp; omega, HXR.out⟩
  generalize hy : x.raw [] = y at ST5 HY
  have HYE := Lib.hid hy
  clear hy ST1
  go_wp2
  clear x0 x1 x2 x3 x4
  have HT0 : Hid (∀ j, j ≤ dt.length → (y.texts (dt.take j)).b.length ≤ 9200000) := fun j hj => by have h1 := (y.texts_len (dt.take j) 255 (fun t ht => F7.out.2.2 t (List.mem_of_mem_take ht))).1; rw [List.length_take] at h1; have h2 := HY.out.1; have h3 := F7.out.2.1; have h4 : min j dt.length ≤ 64 := (by omega); have h5 : (7 + 255) * min j dt.length ≤ (7 + 255) * 64 := Nat.mul_le_mul_left _ h4; omega
  have hdl : dt.length ≤ 64 := F7.out.2.1
  go_loopw [6] (fun iv wr => ∃ (j : Nat) (Fr : Nat → Prop), iv = .int .i64 j ∧ j ≤ dt.length ∧ Hid (RPutSt w wr B g F Fr (y.texts (dt.take j)) w.heap.size S s ⟨[], [], [], [], dt⟩)) (fun iv _ => dt.length - (intOf iv).toNat)
  case atStart => exact ⟨0, F5r, rfl, Nat.zero_le _, ST5⟩
  case round =>
    clear ST5
    obtain ⟨j, Fr, rfl, hj, STJ⟩ := hrel
    have x0 : wr.cell? ⟨w.heap.size, 0, none⟩ = some (.slice s.A0 0 s.c0) := (STJ.out.dc 0).trans rfl
    have x1 : wr.cell? ⟨w.heap.size, 1, none⟩ = some (.slice s.A1 0 s.c1) := (STJ.out.dc 1).trans rfl
    have x2 : wr.cell? ⟨w.heap.size, 2, none⟩ = some (.slice s.A2 0 s.c2) := (STJ.out.dc 2).trans rfl
    have x3 : wr.cell? ⟨w.heap.size, 3, none⟩ = some (.slice s.A3 0 s.c3) := (STJ.out.dc 3).trans rfl
    have x4 : wr.cell? ⟨w.heap.size, 4, none⟩ = some (.slice s.A4 dt.length s.c4) := (STJ.out.dc 4).trans rfl
    by_cases hlt : j < dt.length
    · obtain ⟨l, hl⟩ : ∃ l, dt[j]? = some l := ⟨_, List.getElem?_eq_getElem hlt⟩
      obtain ⟨bb, off, hA, _, hcell, _⟩ := strs_at STJ.out.D.t hl
      have HA : Hid (s.A4 = some ⟨bb, off, none⟩) := hA
      have HL := Lib.hid hl
      have hll := F7.out.2.2 l (List.mem_of_getElem? hl)
      have HLL := Lib.hid hll
      have hbs := bstr_size l
      have HTK : Hid (y.texts (dt.take (j + 1)) = ((y.texts (dt.take j)).raw (putB [] l.length 1)).raw l) := by show _ = _; rw [List.take_add_one, HL.out]; exact RW.texts_snoc _ _ _
      have hpl := putB_len l.length 1
      have HPL := Lib.hid hpl
      have hcb := fun W : World => Lib.run_convert_string_bytes (P := Try.prog) W 9 22 5 (bstr l) Try.underlying9 Try.underlying22 Try.underlying5
      rw [hA] at x4
      clear hl hll hpl hA
      go_wp2_with (first
        | (go_at_call 94; refine (rwraw_any _ B g F7r _ _ _ _ l ST8.out.W hr8 (by have := HT0.out j hj; have := HPL.out; have := HLL.out; simp only [RW.raw, List.length_append]; omega)).mono ?_; rintro e w9 ⟨rfl, F9r, h9, hc9, hF9⟩; have ST9 := Lib.hid (ST8.out.step h9 (ST8.out.fine.raw _) hc9 hF9); clear h9 hc9 hF9)
        | (go_at_call 63; refine (rwnum_any wr B g Fr _ l.length 1 STJ.out.W (by have := HT0.out j hj; omega) (by have := HLL.out; omega)).mono ?_; rintro e w7 ⟨rfl, F7r, h7, hc7, hF7⟩; have ST7 := Lib.hid (STJ.out.step h7 (STJ.out.fine.raw _) hc7 hF7); have hr8 := (conv_rd w7 l).1; have ST8 := Lib.hid (ST7.out.below (conv_rd w7 l).2); have u4 : w7.cell? ⟨w.heap.size, 4, none⟩ = some (.slice (some ⟨bb, off, none⟩) dt.length s.c4) := (by rw [← HA.out]; exact (ST7.out.dc 4).trans rfl); obtain ⟨bb2, off2, hA2, _, hcell2, _⟩ := strs_at ST7.out.D.t HL.out; rw [HA.out] at hA2; injection hA2 with hA2; injection hA2 with e1 e2; subst e1; subst e2; clear h7 hc7 hF7)
        | fail)
      rw [← HTK.out] at ST9
      go_roundw
      case rel => exact ⟨j + 1, F9r, by go_num, by omega, ST9⟩
      case measure => simp [intOf]; omega
    · obtain rfl : j = dt.length := by omega
      have STK := STJ.out
      rw [List.take_length] at STK
      have STL := Lib.hid STK
      clear STK STJ
      generalize hy2 : y.texts dt = y2 at STL
      have HYE2 := Lib.hid hy2
      clear hy2
      go_wp2
      go_end0
      refine RPutSt.done STL.out ?_
      rw [← HYE2.out, ← HYE.out]
      rfl

set_option maxHeartbeats 8000000 in
theorem rputO_any (k : Int) (k2 : ¬ k = 2) (k5 : ¬ k = 5) (k12 : ¬ k = 12) (k15 : ¬ k = 15) (k6 : ¬ k = 6) (k33 : ¬ k = 33) (w : World) (B g : Nat) (F : Nat → Prop) (x : RW) (s : DS) (d : Da) (S : Nat → Prop) (hf : FineS shpB d) (h : RWtr w B F g x) (hfx : x.Fine) (hd : DIn S w s d) (hS : ∀ b, S b → b < w.heap.size ∧ ¬ F b) (hx : x.b.length ≤ 9000000) (hxr : x.rests.length ≤ 9000000) :
    Calls Try.prog 115 #[.pointer (some ⟨g, 0, none⟩), .int .i64 k, dsV s d] w (RetR w B F g (x.data shpB d) (.tuple #[])) := by
  obtain ⟨f1, f2, f3, f4, f5, f6, f7⟩ := hf
  obtain ⟨db, dh, dm, dn, dt⟩ := d
  obtain rfl : dn = [] := List.eq_nil_of_length_eq_zero (Int.ofNat_inj.1 f3)
  obtain rfl : dh = [] := (show dh = [] from f4)
  obtain rfl : dm = [] := (show dm = [] from f5)
  obtain rfl : dt = [] := (show dt = [] from f7)
  have F2 : Hid (db.length ≤ 65535) := f2
  have HX := Lib.hid hx
  have HXR := Lib.hid hxr
  have hFl := h.F_lt
  clear f1 f2 f3 f4 f5 f6 f7 hx hxr
  rw [show dsV s ⟨db, [], [], [], []⟩ = .agg #[.slice s.A0 db.length s.c0, .slice s.A1 0 s.c1, .slice s.A2 0 s.c2, .slice s.A3 0 s.c3, .slice s.A4 0 s.c4] from rfl]
  obtain ⟨w1, hw1⟩ : ∃ w1, w1 = w.alloc (.cells #[.slice s.A0 db.length s.c0, .slice s.A1 0 s.c1, .slice s.A2 0 s.c2, .slice s.A3 0 s.c3, .slice s.A4 0 s.c4] 46) := ⟨_, rfl⟩
  have hb1 : Below w.heap.size w w1 := by rw [hw1]; exact bl.alloc (Nat.le_refl _) _
  have ST1 : Hid (RPutSt w w1 B g F F x w.heap.size S s ⟨db, [], [], [], []⟩) := ⟨h.below hb1, hfx, Chg.of_below hb1, fun k hk => .inl hk, by rw [hw1]; exact heap_alloc_new w _, hd.below hb1 (fun b hb => (hS b hb).1), fun e => by have := (hFl _ e).2; omega, fun b hb => ⟨Nat.lt_of_lt_of_le (hS b hb).1 hb1.size, (hS b hb).2⟩⟩
  clear hd h hfx hS hFl
  have x0 : w1.cell? ⟨w.heap.size, 0, none⟩ = some (.slice s.A0 db.length s.c0) := (ST1.out.dc 0).trans rfl
  have x1 : w1.cell? ⟨w.heap.size, 1, none⟩ = some (.slice s.A1 0 s.c1) := (ST1.out.dc 1).trans rfl
  have x2 : w1.cell? ⟨w.heap.size, 2, none⟩ = some (.slice s.A2 0 s.c2) := (ST1.out.dc 2).trans rfl
  have x3 : w1.cell? ⟨w.heap.size, 3, none⟩ = some (.slice s.A3 0 s.c3) := (ST1.out.dc 3).trans rfl
  have x4 : w1.cell? ⟨w.heap.size, 4, none⟩ = some (.slice s.A4 0 s.c4) := (ST1.out.dc 4).trans rfl
  have e2 : (k == 2) = false := by simpa using k2
  have e5 : (k == 5) = false := by simpa using k5
  have e12 : (k == 12) = false := by simpa using k12
  have e15 : (k == 15) = false := by simpa using k15
  have e6 : (k == 6) = false := by simpa using k6
  have e33 : (k == 33) = false := by simpa using k33
  go_enter Try.func115, Try.ntmps115
  go_upto_region 1 with (fail)
  rw [← hw1]
  clear hw1 hb1
  go_upto_region 2 with (first
    | (go_at_call 94; refine (rwraw_any w1 B g F x s.A0 db.length s.c0 db ST1.out.W (els_bytes ST1.out.D.b) (by have := HX.out; have := F2.out; omega)).mono ?_; rintro e w5 ⟨rfl, F5r, h5, hc5, hF5⟩; have ST5 := Lib.hid (ST1.out.step h5 (ST1.out.fine.raw _) hc5 hF5); clear h5 hc5 hF5)
    | fail)
  clear x0 x1 x2 x3 x4
  have x0 : w5.cell? ⟨w.heap.size, 0, none⟩ = some (.slice s.A0 db.length s.c0) := (ST5.out.dc 0).trans rfl
  have x1 : w5.cell? ⟨w.heap.size, 1, none⟩ = some (.slice s.A1 0 s.c1) := (ST5.out.dc 1).trans rfl
  have x2 : w5.cell? ⟨w.heap.size, 2, none⟩ = some (.slice s.A2 0 s.c2) := (ST5.out.dc 2).trans rfl
  have x3 : w5.cell? ⟨w.heap.size, 3, none⟩ = some (.slice s.A3 0 s.c3) := (ST5.out.dc 3).trans rfl
  have x4 : w5.cell? ⟨w.heap.size, 4, none⟩ = some (.slice s.A4 0 s.c4) := (ST5.out.dc 4).trans rfl
  have HY : Hid ((x.raw db).b.length ≤ 9100000 ∧ (x.raw db).rests.length ≤ 9000000) := ⟨by have := HX.out; have := F2.out; simp only [RW.raw, List.length_append] at *; omega, HXR.out⟩
  generalize hy : x.raw db = y at ST5 HY
  have HYE := Lib.hid hy
  clear hy ST1
  go_wp2
  go_loopw [6] (fun iv wr => iv = .int .i64 0 ∧ wr = w5) (fun _ _ => 0)
  case atStart => exact ⟨rfl, rfl⟩
  case round =>
    obtain ⟨rfl, rfl⟩ := hrel
    go_wp2
    go_end0
    refine RPutSt.done ST5.out ?_
    rw [← HYE.out]
    rfl

theorem rputD_any (k : Int) (w : World) (B g : Nat) (F : Nat → Prop) (x : RW) (s : DS) (d : Da) (S : Nat → Prop) (hf : FineD k d) (h : RWtr w B F g x) (hfx : x.Fine) (hd : DIn S w s d) (hS : ∀ b, S b → b < w.heap.size ∧ ¬ F b) (hx : x.b.length ≤ 9000000) (hxr : x.rests.length ≤ 9000000) :
    Calls Try.prog 115 #[.pointer (some ⟨g, 0, none⟩), .int .i64 k, dsV s d] w (RetR w B F g (x.data (shapeP k) d) (.tuple #[])) := by
  obtain ⟨_, hs⟩ := hf
  by_cases k1 : k = 1
  · subst k1
    exact rput1_any w B g F x s d S hs h hfx hd hS hx hxr
  by_cases k28 : k = 28
  · subst k28
    exact rput28_any w B g F x s d S hs h hfx hd hS hx hxr
  by_cases k2 : k = 2
  · subst k2
    exact rput2_any w B g F x s d S hs h hfx hd hS hx hxr
  by_cases k5 : k = 5
  · subst k5
    exact rput5_any w B g F x s d S hs h hfx hd hS hx hxr
  by_cases k12 : k = 12
  · subst k12
    exact rput12_any w B g F x s d S hs h hfx hd hS hx hxr
  by_cases k15 : k = 15
  · subst k15
    exact rput15_any w B g F x s d S hs h hfx hd hS hx hxr
  by_cases k6 : k = 6
  · subst k6
    exact rput6_any w B g F x s d S hs h hfx hd hS hx hxr
  by_cases k33 : k = 33
  · subst k33
    exact rput33_any w B g F x s d S hs h hfx hd hS hx hxr
  by_cases k16 : k = 16
  · subst k16
    exact rput16_any w B g F x s d S hs h hfx hd hS hx hxr
  have e : shapeP k = shpB := by unfold shapeP; rw [if_neg k1, if_neg k28, if_neg (by omega), if_neg k15, if_neg k6, if_neg k33, if_neg k16]
  rw [e] at hs ⊢
  exact rputO_any k k2 k5 k12 k15 k6 k33 w B g F x s d S hs h hfx hd hS hx hxr
end Go.Proofs.Ytimkdpkhdbiniaa
