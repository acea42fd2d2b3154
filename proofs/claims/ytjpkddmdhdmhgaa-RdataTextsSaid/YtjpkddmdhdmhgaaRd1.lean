/- rdata: shapes; the reader's parts; Get of an address. -/
import Derived.Test.YtjpkddmdhdmhgaaDa
import Derived.Test.YtjpkddmdhdmhgaaGet
import Derived.Test.YtjpkddmdhdmhgaaFlash2
import Derived.Defers
import Derived.Recover
import Derived.StillTailTactics
namespace Go.Proofs.Ytjpkddmdhdmhgaa
open Go.RowKit
set_option maxRecDepth 100000

/-- A type's shape. -/
structure Shp where
  bytes : Int
  host : Bool
  mail : Bool
  short : Bool
  nums : Int
  size : Int
  texts : Bool
  first : Bool
def shpV (s : Shp) : Value := .agg #[.int .i64 s.bytes, .bool s.host, .bool s.mail, .bool s.short, .int .i64 s.nums, .int .i64 s.size, .bool s.texts, .bool s.first]
def shpA : Shp := ⟨4, false, false, false, 0, 0, false, false⟩
def shpT : Shp := ⟨0, false, false, false, 0, 0, true, false⟩

theorem shapesA_any (w : World) : Calls Try.prog 88 #[.int .i64 1] w (RetP (fun v _ => v = shpV shpA) w) := by
  go_enter Try.func88, Try.ntmps88
  go_wp2
  refine bodyPost_ret (v := shpV shpA) ?_ rfl ⟨_, rfl, rfl, bl.alloc (Nat.le_refl _) _⟩
  simp [results, Try.results88, go_sem]
  rfl
theorem shapesT_any (w : World) : Calls Try.prog 88 #[.int .i64 16] w (RetP (fun v _ => v = shpV shpT) w) := by
  go_enter Try.func88, Try.ntmps88
  go_wp2
  refine bodyPost_ret (v := shpV shpT) ?_ rfl ⟨_, rfl, rfl, bl.alloc (Nat.le_refl _) _⟩
  simp [results, Try.results88, go_sem]
  rfl

/-- A reader, in its block. -/
def Rdr (w : World) (p : Nat) (v : Value) (pos en : Int) : Prop := w.heap[p]? = some (.cells #[v, .int .i64 pos, .int .i64 en] 136 (0, 0))
theorem Rdr.cells {w : World} {p : Nat} {v : Value} {pos en : Int} (h : Rdr w p v pos en) : w.cell? ⟨p, 0, none⟩ = some v ∧ w.cell? ⟨p, 1, none⟩ = some (.int .i64 pos) ∧ w.cell? ⟨p, 2, none⟩ = some (.int .i64 en) ∧ ∀ k, w.frozen? ⟨p, k, none⟩ = false :=
  ⟨(cell_of_row _ _ _ _ _ _ h).trans rfl, (cell_of_row _ _ _ _ _ _ h).trans rfl, (cell_of_row _ _ _ _ _ _ h).trans rfl, fun _ => frozen_of_row _ _ _ _ _ h⟩
theorem Rdr.below {w w' : World} {p : Nat} {v : Value} {pos en : Int} (h : Rdr w p v pos en) (hb : Below w.heap.size w w') : Rdr w' p v pos en := (hb.block p (Array.getElem?_eq_some_iff.1 h).1).trans h
theorem Rdr.move {w : World} {p : Nat} {v : Value} {pos en : Int} (h : Rdr w p v pos en) (q : Int) : Rdr (w.setCell ⟨p, 1, none⟩ (.int .i64 q)) p v q en := (heap_setCell_same _ _ _ _ _ _ h).trans rfl

set_option maxHeartbeats 1000000 in
theorem rbytes_any (w : World) (p b off n c : Nat) (pos en m : Nat) (bs : List UInt8) (h : Rdr w p (.slice (some ⟨b, off, none⟩) n c) pos en) (hr : RdB w (some ⟨b, off, none⟩) n bs) (hbp : b ≠ p) (hm : pos + m ≤ en) (hm0 : 0 < m) (hen : en ≤ n) (hn : n ≤ c) (hc : c ≤ 9223372036854775807) (hn2 : n ≤ 1000000) :
    Calls Try.prog 99 #[.pointer (some ⟨p, 0, none⟩), .int .i64 (m : Int)] w (fun e w' => ∃ v, e = .returned v ∧ OwnB w' w.heap.size v ((bs.drop pos).take m) ∧ Rdr w' p (.slice (some ⟨b, off, none⟩) n c) (pos + m : Nat) en ∧ Chg (fun k => k = p) w w') := by
  obtain ⟨c0, c1, c2, f0⟩ := h.cells
  have H := Lib.hid h
  go_enter Try.func99, Try.ntmps99
  go_wp2
  go_quiet (fail)
  go_wp2
  obtain ⟨w1, hw1⟩ : ∃ w1, w1 = (w.drewN nq).setCell ⟨p, 1, none⟩ (.int .i64 ((pos + m : Nat) : Int)) := ⟨_, rfl⟩
  have H1 : Hid (Rdr w1 p (.slice (some ⟨b, off, none⟩) n c) ((pos + m : Nat) : Int) en) := by
    show Rdr _ _ _ _ _
    rw [hw1]
    exact (h.below (dN bl nq)).move _
  have hch : Chg (fun k => k = p) w w1 := by rw [hw1]; exact ((Chg.refl (fun k => k = p) w).drewN nq).setCell (p := ⟨p, 1, none⟩) (Or.inl rfl) _
  have hr1 := hr.chg hch (fun b' off' e => by injection e with e; injection e with e; rw [← e]; exact hbp)
  rw [show ((pos : Int) + m) = ((pos + m : Nat) : Int) by omega, ← hw1]
  clear hw1
  have hcut := hr1.cut (i := pos) (k := m) (by omega)
  have HC := Lib.hid hcut
  clear hr1 hcut c0 c1 c2 f0 h hr
  obtain ⟨c0, c1, c2, f0⟩ := H1.out.cells
  rw [show ((pos + m : Nat) : Int) = (pos : Int) + m by omega] at c1
  have hwp : IntKind.i64.wrap (pos : Int) = pos := by rw [IntKind.wrap_i64]; omega
  have hs1 : (0 : Int) ≤ pos := by omega
  have hs2 : (pos : Int) ≤ (pos : Int) + m := by omega
  have hs3 : ((pos : Int) + m) ≤ c := by omega
  go_region_held3 (fun w' => w'.cell? ⟨p, 0, none⟩ = some (.slice (some ⟨b, off, none⟩) n c) ∧ w'.cell? ⟨p, 1, none⟩ = some (.int .i64 ((pos : Int) + m)))
    (first
      | with_reducible exact ⟨c0, c1⟩
      | with_reducible exact ⟨below_cell bl.drew c0, below_cell bl.drew c1⟩
      | with_reducible exact ⟨y0, y1⟩
      | fail)
    (first
      | (go_at_call 72; rw [if_neg (show ¬ c = pos by omega), show ((pos : Int) + m).toNat - pos = m by omega]; refine (sclone_any _ m _ _ w1.drew (HC.out.below bl.drew) (by omega)).mono ?_; rintro e w2 ⟨v2, rfl, hown2, hb2'⟩; have hb2 : Below w1.heap.size w1 w2 := bl.drew.trans hb2'; have y0 := below_cell hb2 c0; have y1 := below_cell hb2 c1)
      | fail)
  go_wp2
  go_ret
  exact ⟨_, rfl, hown2.mono (by have := hch.size; show w.heap.size ≤ w1.heap.size; omega), H1.out.below hb2, hch.nx hb2⟩

theorem own_ge {w : World} {base n c : Nat} {A : Option Addr} {bs : List UInt8} (h : OwnB w base (.slice A n c) bs) : ∀ b off, A = some ⟨b, off, none⟩ → base ≤ b := by
  intro b off e
  rcases h.2 with ⟨h0, _⟩ | ⟨g', cap, cur, e2, h1, _⟩
  · injection h0 with h0
    rw [h0] at e
    cases e
  · injection e2 with e2
    rw [e2] at e
    injection e with e
    injection e with e
    omega
theorem own_off {w : World} {base n c g : Nat} {A : Option Addr} {bs : List UInt8} (h : OwnB w base (.slice A n c) bs) (hg : g < base) : ∀ b off, A = some ⟨b, off, none⟩ → b ≠ g :=
  fun b off e e2 => by have := own_ge h b off e; omega
theorem rnums0_any (p : Nat) (s : Shp) (h0 : s.nums = 0) (w : World) : Calls Try.prog 101 #[.pointer (some ⟨p, 0, none⟩), shpV s] w (RetP (fun v _ => v = .slice none 0 0) w) := by
  unfold shpV
  rw [h0]
  go_enter Try.func101, Try.ntmps101
  go_wp2
  go_loopw [5, 8] (fun ov iv wr => ov = .slice none 0 0 ∧ iv = .int .i64 0 ∧ Below w.heap.size w wr) (fun _ _ _ => 0)
  case atStart => exact ⟨rfl, rfl, bl.alloc (Nat.le_refl _) _⟩
  case round =>
    obtain ⟨rfl, rfl, hb⟩ := hrel
    go_wp2
    go_ret
    exact ⟨_, rfl, rfl, hb⟩

set_option maxHeartbeats 1000000 in
theorem rdataA_any (w : World) (p b off c : Nat) (bs : List UInt8) (h : Rdr w p (.slice (some ⟨b, off, none⟩) 4 c) (0 : Nat) (4 : Nat)) (hr : RdB w (some ⟨b, off, none⟩) 4 bs) (hbp : b ≠ p) (hn : 4 ≤ c) (hc : c ≤ 9223372036854775807) :
    Calls Try.prog 87 #[.pointer (some ⟨p, 0, none⟩), shpV shpA] w (fun e w' => ∃ A c', e = .returned (.agg #[.slice A 4 c', .slice none 0 0, .slice none 0 0, .slice none 0 0, .slice none 0 0]) ∧ RdB w' A 4 bs ∧ Chg (fun k => k = p) w w' ∧ ∀ b' off', A = some ⟨b', off', none⟩ → w.heap.size ≤ b') := by
  unfold shpV shpA
  have hpl : p < w.heap.size := (Array.getElem?_eq_some_iff.1 h).1
  obtain ⟨w0, hw0⟩ : ∃ w0, w0 = (w.alloc (.cells #[.int .i64 4, .bool false, .bool false, .bool false, .int .i64 0, .int .i64 0, .bool false, .bool false] 139)).alloc (.cells #[.slice none 0 0, .slice none 0 0, .slice none 0 0, .slice none 0 0, .slice none 0 0] 102) := ⟨_, rfl⟩
  have hb0 : Below w.heap.size w w0 := by rw [hw0]; exact nx (bl.alloc (Nat.le_refl _) _) (bl.alloc (Nat.le_refl _) _)
  have H := Lib.hid (h.below hb0)
  have HR := Lib.hid (hr.below hb0)
  go_enter Try.func87, Try.ntmps87
  go_upto_region 1 with (fail)
  rw [← hw0]
  have hsz : (w.alloc (.cells #[.int .i64 4, .bool false, .bool false, .bool false, .int .i64 0, .int .i64 0, .bool false, .bool false] 139)).heap.size = w.heap.size + 1 := by simp
  have hs : w0.heap[w.heap.size]? = some (.cells #[.int .i64 4, .bool false, .bool false, .bool false, .int .i64 0, .int .i64 0, .bool false, .bool false] 139 (0, 0)) := by
    rw [hw0]
    exact (heap_alloc_old _ _ (by rw [hsz]; omega)).trans (heap_alloc_new w _)
  have hd : w0.heap[w.heap.size + 1]? = some (.cells #[.slice none 0 0, .slice none 0 0, .slice none 0 0, .slice none 0 0, .slice none 0 0] 102 (0, 0)) := by
    rw [hw0, ← hsz]
    exact heap_alloc_new _ _
  have hx : ∀ j : Nat, w0.cell? ⟨w.heap.size, j, none⟩ = (#[Value.int .i64 4, .bool false, .bool false, .bool false, .int .i64 0, .int .i64 0, .bool false, .bool false] : Array Value)[j]? := fun j => cell_of_row _ _ _ _ _ _ hs
  have x0 := hx 0
  have x6 := hx 6
  have x7 := hx 7
  have x1 := hx 1
  have x2 := hx 2
  have HS := Lib.hid hs
  have HD := Lib.hid hd
  have hw0l : w.heap.size + 1 < w0.heap.size := (Array.getElem?_eq_some_iff.1 hd).1
  have hpw : w.heap.size ≠ p := by omega
  have hpw2 : w.heap.size + 1 ≠ p := by omega
  clear hw0 hx hs hd hsz h
  have hbl := hr.len
  go_upto_region 7 with (first
    | (go_at_call 99; refine (rbytes_any w0 p b off 4 c 0 4 4 bs H.out HR.out hbp (by omega) (by omega) (by omega) hn hc (by omega)).mono ?_; rintro e w1 ⟨v1, rfl, hown1, H1, hc1⟩; rw [List.drop_zero, List.take_of_length_le (by omega)] at hown1; have HD1 := Lib.hid (hc1.heap HD.out hpw2); have HS1 := Lib.hid (hc1.heap HS.out hpw); obtain ⟨A1, k1, rfl, hr1, _⟩ := hown1.form; rw [hbl] at hown1 hr1 ⊢; have y0 : w1.cell? ⟨w.heap.size + 1, 0, none⟩ = some _ := (cell_of_row _ _ _ _ _ _ HD1.out).trans rfl; have y1 : ∀ k, w1.frozen? ⟨w.heap.size + 1, k, none⟩ = false := fun k => frozen_of_row _ _ _ _ _ HD1.out)
    | fail)
  obtain ⟨w2, hw2⟩ : ∃ w2, w2 = w1.setCell ⟨w.heap.size + 1, 0, none⟩ (.slice A1 4 k1) := ⟨_, rfl⟩
  have HD2 : Hid (w2.heap[w.heap.size + 1]? = some (.cells #[.slice A1 4 k1, .slice none 0 0, .slice none 0 0, .slice none 0 0, .slice none 0 0] 102 (0, 0))) := by show _ = _; rw [hw2]; exact (heap_setCell_same _ _ _ _ _ _ HD1.out).trans rfl
  have hc2 : Chg (fun k => k = w.heap.size + 1) w1 w2 := by rw [hw2]; exact chg_g1 _ _ _ _
  have HS2 := Lib.hid (hc2.heap HS1.out (by omega))
  have H2 : Hid (Rdr w2 p (.slice (some ⟨b, off, none⟩) 4 c) ((4 : Nat) : Int) ((4 : Nat) : Int)) := hc2.heap H1 (by omega)
  have hr2 := hr1.chg hc2 (fun b' off' e => fun e2 => by
    have h1 := World.ownsRow.lt hown1
    have h2 := own_off (g := w.heap.size + 1) hown1 hw0l b' off' e
    exact h2 e2)
  rw [← hw2]
  clear hw2 x0 x6 x7 x1 x2 y0 y1 H HR HD HS HD1 HS1 hr hr1 H1
  have hx : ∀ j : Nat, w2.cell? ⟨w.heap.size, j, none⟩ = (#[Value.int .i64 4, .bool false, .bool false, .bool false, .int .i64 0, .int .i64 0, .bool false, .bool false] : Array Value)[j]? := fun j => cell_of_row _ _ _ _ _ _ HS2.out
  have x0 : w2.cell? ⟨w.heap.size, 0, none⟩ = some (.int .i64 4) := hx 0
  have x1 : w2.cell? ⟨w.heap.size, 1, none⟩ = some (.bool false) := hx 1
  have x2 : w2.cell? ⟨w.heap.size, 2, none⟩ = some (.bool false) := hx 2
  have x3 : w2.cell? ⟨w.heap.size, 3, none⟩ = some (.bool false) := hx 3
  have x4 : w2.cell? ⟨w.heap.size, 4, none⟩ = some (.int .i64 0) := hx 4
  have x5 : w2.cell? ⟨w.heap.size, 5, none⟩ = some (.int .i64 0) := hx 5
  have x6 : w2.cell? ⟨w.heap.size, 6, none⟩ = some (.bool false) := hx 6
  have x7 : w2.cell? ⟨w.heap.size, 7, none⟩ = some (.bool false) := hx 7
  clear hx
  go_upto_region 15 with (first
    | (go_at_call 101; refine (rnums0_any p shpA rfl w2).mono ?_; rintro e w3 ⟨v3, rfl, rfl, hb3⟩; have HD3 := Lib.hid ((hb3.block _ (Array.getElem?_eq_some_iff.1 HD2.out).1).trans HD2.out); have y3 : w3.cell? ⟨w.heap.size + 1, 3, none⟩ = some _ := (cell_of_row _ _ _ _ _ _ HD3.out).trans rfl; have y1 : ∀ k, w3.frozen? ⟨w.heap.size + 1, k, none⟩ = false := fun k => frozen_of_row _ _ _ _ _ HD3.out)
    | fail)
  obtain ⟨w4, hw4⟩ : ∃ w4, w4 = w3.setCell ⟨w.heap.size + 1, 3, none⟩ (.slice none 0 0) := ⟨_, rfl⟩
  have HD4 : Hid (w4.heap[w.heap.size + 1]? = some (.cells #[.slice A1 4 k1, .slice none 0 0, .slice none 0 0, .slice none 0 0, .slice none 0 0] 102 (0, 0))) := by show _ = _; rw [hw4]; exact (heap_setCell_same _ _ _ _ _ _ HD3.out).trans rfl
  have hc4 : Chg (fun k => k = w.heap.size + 1) w3 w4 := by rw [hw4]; exact chg_g1 _ _ _ _
  have hc24 : Chg (fun k => k = w.heap.size + 1) w2 w4 := (Chg.of_below (F := fun k => k = w.heap.size + 1) hb3).trans hc4 (fun _ h => .inl h)
  have H4 : Hid (Rdr w4 p (.slice (some ⟨b, off, none⟩) 4 c) ((4 : Nat) : Int) ((4 : Nat) : Int)) := hc24.heap H2.out (by omega)
  have hr4 := hr2.chg hc24 (fun b' off' e => fun e2 => own_off (g := w.heap.size + 1) hown1 hw0l b' off' e e2)
  rw [← hw4]
  clear hw4 x0 x1 x2 x3 x4 x5 x6 x7 y3 y1
  obtain ⟨_, q1, q2, _⟩ := H4.out.cells
  have hx : ∀ j : Nat, w4.cell? ⟨w.heap.size + 1, j, none⟩ = (#[.slice A1 4 k1, .slice none 0 0, .slice none 0 0, .slice none 0 0, .slice none 0 0] : Array Value)[j]? := fun j => cell_of_row _ _ _ _ _ _ HD4.out
  have x0 : w4.cell? ⟨w.heap.size + 1, 0, none⟩ = some (.slice A1 4 k1) := hx 0
  have x1 : w4.cell? ⟨w.heap.size + 1, 1, none⟩ = some (.slice none 0 0) := hx 1
  have x2 : w4.cell? ⟨w.heap.size + 1, 2, none⟩ = some (.slice none 0 0) := hx 2
  have x3 : w4.cell? ⟨w.heap.size + 1, 3, none⟩ = some (.slice none 0 0) := hx 3
  have x4 : w4.cell? ⟨w.heap.size + 1, 4, none⟩ = some (.slice none 0 0) := hx 4
  have f4 : ∀ k, w4.frozen? ⟨w.heap.size + 1, k, none⟩ = false := fun k => frozen_of_row _ _ _ _ _ HD4.out
  clear hx
  go_quiet (fail)
  go_wp2
  obtain ⟨w5, hw5⟩ : ∃ w5, w5 = ((((((w4.drewN nq).setCell ⟨w.heap.size + 1, 0, none⟩ (.slice A1 4 k1)).setCell ⟨w.heap.size + 1, 1, none⟩ (.slice none 0 0)).setCell ⟨w.heap.size + 1, 2, none⟩ (.slice none 0 0)).setCell ⟨w.heap.size + 1, 3, none⟩ (.slice none 0 0)).setCell ⟨w.heap.size + 1, 4, none⟩ (.slice none 0 0)) := ⟨_, rfl⟩
  have hd5 : w5.heap[w.heap.size + 1]? = some (.cells #[.slice A1 4 k1, .slice none 0 0, .slice none 0 0, .slice none 0 0, .slice none 0 0] 102 (0, 0)) := by
    rw [hw5]
    exact (heap_setCell_same _ _ _ _ _ _ (heap_setCell_same _ _ _ _ _ _ (heap_setCell_same _ _ _ _ _ _ (heap_setCell_same _ _ _ _ _ _ (heap_setCell_same _ _ _ _ _ _ HD4.out))))).trans rfl
  have hc5 : Chg (fun k => k = w.heap.size + 1) w4 w5 := by
    rw [hw5]
    have h1 : ∀ {u : World} (j : Nat) (v : Value), Chg (fun k => k = w.heap.size + 1) w4 u → Chg (fun k => k = w.heap.size + 1) w4 (u.setCell ⟨w.heap.size + 1, j, none⟩ v) := fun j v h => h.setCell (p := ⟨w.heap.size + 1, j, none⟩) (Or.inl rfl) v
    exact h1 _ _ (h1 _ _ (h1 _ _ (h1 _ _ (h1 _ _ ((Chg.refl _ w4).drewN nq)))))
  rw [← hw5]
  clear hw5 x0 x1 x2 x3 x4
  have hx : ∀ j : Nat, w5.cell? ⟨w.heap.size + 1, j, none⟩ = (#[.slice A1 4 k1, .slice none 0 0, .slice none 0 0, .slice none 0 0, .slice none 0 0] : Array Value)[j]? := fun j => cell_of_row _ _ _ _ _ _ hd5
  have x0 : w5.cell? ⟨w.heap.size + 1, 0, none⟩ = some (.slice A1 4 k1) := hx 0
  have x1 : w5.cell? ⟨w.heap.size + 1, 1, none⟩ = some (.slice none 0 0) := hx 1
  have x2 : w5.cell? ⟨w.heap.size + 1, 2, none⟩ = some (.slice none 0 0) := hx 2
  have x3 : w5.cell? ⟨w.heap.size + 1, 3, none⟩ = some (.slice none 0 0) := hx 3
  have x4 : w5.cell? ⟨w.heap.size + 1, 4, none⟩ = some (.slice none 0 0) := hx 4
  have hcA : Chg (fun k => k = p ∨ k = w.heap.size + 1) w0 w5 := ((hc1.mono (G := fun k => k = p ∨ k = w.heap.size + 1) (fun _ h => .inl (.inl h))).trans hc2 (fun _ h => .inl (.inr h))).trans (hc24.trans hc5 (fun _ h => .inl h)) (fun _ h => .inl (.inr h))
  refine bodyPost_ret (v := .agg #[.slice A1 4 k1, .slice none 0 0, .slice none 0 0, .slice none 0 0, .slice none 0 0]) ?_ rfl ⟨_, _, rfl, ?_, ?_, fun b' off' e => by have := own_ge hown1 b' off' e; omega⟩
  · simp [results, Try.results87, go_sem, x0, x1, x2, x3, x4]
  · exact hr4.chg hc5 (fun b' off' e => fun e2 => own_off (g := w.heap.size + 1) hown1 hw0l b' off' e e2)
  · exact (Chg.of_below (F := fun k => k = p) hb0).trans hcA (fun k hk => hk.elim .inl (fun e => .inr (by omega)))
end Go.Proofs.Ytjpkddmdhdmhgaa
