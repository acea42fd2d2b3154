/- Parts of a proof, joined: Put6. -/
import Derived.Test.YtimkdpkhdbiniaaSDM13
import Derived.Test.YtimkdpkhdbiniaaSDM02b
/- rdata.Put, a walk for each shape (printed by gen/put.py). -/
namespace Go.Proofs.Ytimkdpkhdbiniaa
open Go.RowKit
set_option maxRecDepth 100000
set_option linter.unusedVariables false

set_option maxHeartbeats 8000000 in
theorem wputA_any (k : Int) (hk : shapeP k = shpA) (hk1 : 1 ≤ k ∧ k ≤ 65535) (w : World) (B g : Nat) (F : Nat → Prop) (x : Wr) (s : DS) (d : Da) (S : Nat → Prop) (hf : FineS shpA d) (h : Wtr w B F g x) (hd : DIn S w s d) (hS : ∀ b, S b → b < w.heap.size ∧ ¬ F b) (hx : x.b.length ≤ 9000000) (hxr : x.rests.length ≤ 9000000) :
    Calls Try.prog 183 #[.pointer (some ⟨g, 0, none⟩), .int .i64 k, dsV s d] w (RetX w B F g (x.data shpA d) (.int .i64 0)) := by
  have HB : Hid (fineB k d = true) := fineB_true ⟨hk1, by rw [hk]; exact hf⟩
  obtain ⟨f1, f2, f3, f4, f5, f6, f7⟩ := hf
  have hsh : ∀ w, Calls Try.prog 156 #[.int .i64 k] w (RetP (fun v _ => v = .agg #[.int .i64 4, .bool false, .bool false, .bool false, .int .i64 0, .int .i64 0, .bool false, .bool false]) w) := fun w => by have h := shapes_any k w; rw [hk] at h; exact h
  have HSH := Lib.hid hsh
  obtain ⟨db, dh, dm, dn, dt⟩ := d
  obtain rfl : dn = [] := List.eq_nil_of_length_eq_zero (Int.ofNat_inj.1 f3)
  obtain rfl : dh = [] := (show dh = [] from f4)
  obtain rfl : dm = [] := (show dm = [] from f5)
  obtain rfl : dt = [] := (show dt = [] from f7)
  have F2 : Hid (db.length ≤ 65535) := f2
  have HX := Lib.hid hx
  have HXR := Lib.hid hxr
  have hFl := h.F_lt
  clear f1 f2 f3 f4 f5 f6 f7 hsh hk hx hxr
  rw [show dsV s ⟨db, [], [], [], []⟩ = .agg #[.slice s.A0 db.length s.c0, .slice s.A1 0 s.c1, .slice s.A2 0 s.c2, .slice s.A3 0 s.c3, .slice s.A4 0 s.c4] from rfl]
  obtain ⟨w1, hw1⟩ : ∃ w1, w1 = w.alloc (.cells #[.slice s.A0 db.length s.c0, .slice s.A1 0 s.c1, .slice s.A2 0 s.c2, .slice s.A3 0 s.c3, .slice s.A4 0 s.c4] 46) := ⟨_, rfl⟩
  have hb1 : Below w.heap.size w w1 := by rw [hw1]; exact bl.alloc (Nat.le_refl _) _
  have hq1 : Hid (w1.heap[w.heap.size]? = some (.cells (dCells s ⟨db, [], [], [], []⟩) 46 (0, 0))) := by show _ = _; rw [hw1]; exact heap_alloc_new w _
  have x0 : w1.cell? ⟨w.heap.size, 0, none⟩ = some (.slice s.A0 db.length s.c0) := (cell_of_row _ _ _ _ _ _ hq1.out).trans rfl
  have x1 : w1.cell? ⟨w.heap.size, 1, none⟩ = some (.slice s.A1 0 s.c1) := (cell_of_row _ _ _ _ _ _ hq1.out).trans rfl
  have x2 : w1.cell? ⟨w.heap.size, 2, none⟩ = some (.slice s.A2 0 s.c2) := (cell_of_row _ _ _ _ _ _ hq1.out).trans rfl
  have x3 : w1.cell? ⟨w.heap.size, 3, none⟩ = some (.slice s.A3 0 s.c3) := (cell_of_row _ _ _ _ _ _ hq1.out).trans rfl
  have x4 : w1.cell? ⟨w.heap.size, 4, none⟩ = some (.slice s.A4 0 s.c4) := (cell_of_row _ _ _ _ _ _ hq1.out).trans rfl
  have HD1 := Lib.hid (hd.below hb1 (fun b hb => (hS b hb).1))
  have HW1 := Lib.hid (h.below hb1)
  have HS1 : Hid (∀ b, S b → b < w1.heap.size ∧ ¬ F b) := fun b hb => ⟨Nat.lt_of_lt_of_le (hS b hb).1 hb1.size, (hS b hb).2⟩
  have hsnd : Calls Try.prog 109 #[.int .i64 k, .agg #[.slice s.A0 db.length s.c0, .slice s.A1 0 s.c1, .slice s.A2 0 s.c2, .slice s.A3 0 s.c3, .slice s.A4 0 s.c4]] w1 (RetP (fun v _ => v = .bool true) w1) := by
    have h := dsound_any k s ⟨db, [], [], [], []⟩ w1 (HD1.out.rd (fun b hb => (HS1.out b hb).1)) (Nat.zero_le _) (Nat.zero_le _) (Nat.zero_le _) (Nat.zero_le _)
    rw [HB.out] at h
    exact h
  have HSND := Lib.hid hsnd
  clear hsnd
  have hqF : ¬ F w.heap.size := fun e => by have := (hFl _ e).2; omega
  have HQF := Lib.hid hqF
  have HFL := Lib.hid hFl
  clear hd h hqF hS hFl
  go_enter Try.func183, Try.ntmps183
  go_upto_region 1 with (fail)
  rw [← hw1]
  clear hw1
  go_upto_region 4 with (first
    | (go_at_call 156; refine (HSH.out w2).mono ?_; rintro e w3 ⟨v3, rfl, rfl, hb3⟩)
    | (go_at_call 109; refine HSND.out.mono ?_; rintro e w2 ⟨v2, rfl, rfl, hb2⟩)
    | fail)
  obtain ⟨w4, hw4⟩ : ∃ w4, w4 = w3.alloc (.cells #[.int .i64 4, .bool false, .bool false, .bool false, .int .i64 0, .int .i64 0, .bool false, .bool false] 182) := ⟨_, rfl⟩
  have hb4 : Below w3.heap.size w3 w4 := by rw [hw4]; exact bl.alloc (Nat.le_refl _) _
  have hs4 : Hid (w4.heap[w3.heap.size]? = some (.cells (shCells shpA) 182 (0, 0))) := by show _ = _; rw [hw4]; exact heap_alloc_new w3 _
  have hb14 : Below w1.heap.size w1 w4 := nx (nx hb2 hb3) hb4
  rw [← hw4]
  have ST4 : Hid (PutSt w w4 B g F F x w.heap.size w3.heap.size S s ⟨db, [], [], [], []⟩ shpA) := ⟨HW1.out.below hb14, Chg.of_below (nx hb1 hb14), fun z hz => .inl hz, (hb14.block _ (Array.getElem?_eq_some_iff.1 hq1.out).1).trans hq1.out, hs4.out, HD1.out.below hb14 (fun b hb => (HS1.out b hb).1), HQF.out, fun e => by have := (HFL.out _ e).2; have := hb1.size; have := hb2.size; have := hb3.size; omega, fun b hb => ⟨Nat.lt_of_lt_of_le (HS1.out b hb).1 hb14.size, (HS1.out b hb).2⟩⟩
  clear hw4 hb4 hs4 hb14 HD1 HW1 HS1 HQF HFL hb1 hb2 hb3 hq1 x0 x1 x2 x3 x4
  generalize w3.heap.size = p at ST4 ⊢
  have x0 : w4.cell? ⟨w.heap.size, 0, none⟩ = some (.slice s.A0 db.length s.c0) := (ST4.out.dc 0).trans rfl
  have x1 : w4.cell? ⟨w.heap.size, 1, none⟩ = some (.slice s.A1 0 s.c1) := (ST4.out.dc 1).trans rfl
  have x2 : w4.cell? ⟨w.heap.size, 2, none⟩ = some (.slice s.A2 0 s.c2) := (ST4.out.dc 2).trans rfl
  have x3 : w4.cell? ⟨w.heap.size, 3, none⟩ = some (.slice s.A3 0 s.c3) := (ST4.out.dc 3).trans rfl
  have x4 : w4.cell? ⟨w.heap.size, 4, none⟩ = some (.slice s.A4 0 s.c4) := (ST4.out.dc 4).trans rfl
  have s0 : w4.cell? ⟨p, 0, none⟩ = some (.int .i64 4) := (ST4.out.shc 0).trans rfl
  have s1 : w4.cell? ⟨p, 1, none⟩ = some (.bool false) := (ST4.out.shc 1).trans rfl
  have s2 : w4.cell? ⟨p, 2, none⟩ = some (.bool false) := (ST4.out.shc 2).trans rfl
  have s3 : w4.cell? ⟨p, 3, none⟩ = some (.bool false) := (ST4.out.shc 3).trans rfl
  have s4 : w4.cell? ⟨p, 4, none⟩ = some (.int .i64 0) := (ST4.out.shc 4).trans rfl
  have s5 : w4.cell? ⟨p, 5, none⟩ = some (.int .i64 0) := (ST4.out.shc 5).trans rfl
  have s6 : w4.cell? ⟨p, 6, none⟩ = some (.bool false) := (ST4.out.shc 6).trans rfl
  have s7 : w4.cell? ⟨p, 7, none⟩ = some (.bool false) := (ST4.out.shc 7).trans rfl
  go_upto_region 5 with (first
    | (go_at_call 148; refine (wraw_any w4 B g F x s.A0 db.length s.c0 db ST4.out.W (els_bytes ST4.out.D.b) (by have := HX.out; have := F2.out; omega)).mono ?_; rintro e w5 ⟨rfl, F5r, h5, hc5, hF5⟩; have ST5 := Lib.hid (ST4.out.step h5 hc5 hF5); clear h5 hc5 hF5)
    | fail)
  clear x0 x1 x2 x3 x4 s0 s1 s2 s3 s4 s5 s6 s7
  have x0 : w5.cell? ⟨w.heap.size, 0, none⟩ = some (.slice s.A0 db.length s.c0) := (ST5.out.dc 0).trans rfl
  have x1 : w5.cell? ⟨w.heap.size, 1, none⟩ = some (.slice s.A1 0 s.c1) := (ST5.out.dc 1).trans rfl
  have x2 : w5.cell? ⟨w.heap.size, 2, none⟩ = some (.slice s.A2 0 s.c2) := (ST5.out.dc 2).trans rfl
  have x3 : w5.cell? ⟨w.heap.size, 3, none⟩ = some (.slice s.A3 0 s.c3) := (ST5.out.dc 3).trans rfl
  have x4 : w5.cell? ⟨w.heap.size, 4, none⟩ = some (.slice s.A4 0 s.c4) := (ST5.out.dc 4).trans rfl
  have s0 : w5.cell? ⟨p, 0, none⟩ = some (.int .i64 4) := (ST5.out.shc 0).trans rfl
  have s1 : w5.cell? ⟨p, 1, none⟩ = some (.bool false) := (ST5.out.shc 1).trans rfl
  have s2 : w5.cell? ⟨p, 2, none⟩ = some (.bool false) := (ST5.out.shc 2).trans rfl
  have s3 : w5.cell? ⟨p, 3, none⟩ = some (.bool false) := (ST5.out.shc 3).trans rfl
  have s4 : w5.cell? ⟨p, 4, none⟩ = some (.int .i64 0) := (ST5.out.shc 4).trans rfl
  have s5 : w5.cell? ⟨p, 5, none⟩ = some (.int .i64 0) := (ST5.out.shc 5).trans rfl
  have s6 : w5.cell? ⟨p, 6, none⟩ = some (.bool false) := (ST5.out.shc 6).trans rfl
  have s7 : w5.cell? ⟨p, 7, none⟩ = some (.bool false) := (ST5.out.shc 7).trans rfl
  have HY : Hid ((x.raw db).b.length ≤ 9100000 ∧ (x.raw db).rests.length ≤ 9000000) := ⟨by have := HX.out; have := F2.out; simp only [Wr.raw, List.length_append] at *; omega, HXR.out⟩
  generalize hy : x.raw db = y at ST5 HY
  have HYE := Lib.hid hy
  clear hy ST4
  go_wp2
  go_loopw [27] (fun iv wr => iv = .int .i64 0 ∧ wr = w5) (fun _ _ => 0)
  case atStart => exact ⟨rfl, rfl⟩
  case round =>
    obtain ⟨rfl, rfl⟩ := hrel
    go_upto_region 19 with (first
      | (go_at_call 197; refine (wnums_any wr B g F5r y s.A3 _ s.c3 [] 0 ST5.out.W ST5.out.D.n ST5.out.SF (Nat.zero_le _) (by have := HY.out.1; omega)).mono ?_; rintro e wa1 ⟨rfl, Fa1, ha, hca, hFa⟩; have STa1 := Lib.hid (ST5.out.step ha hca hFa); clear ha hca hFa)
      | fail)
    clear x0 x1 x2 x3 x4 s0 s1 s2 s3 s4 s5 s6 s7
    have HYa1 : Hid ((y.nums [] 0).b.length ≤ 9400000 ∧ (y.nums [] 0).rests.length ≤ 9201000) := ⟨by have h2 := HY.out.1; show y.b.length ≤ _; omega, by have := HY.out.2; show y.rests.length ≤ _; omega⟩
    generalize hya : y.nums [] 0 = ya1 at STa1 HYa1
    have HYEa1 := Lib.hid hya
    clear hya ST5
    have x0 : wa1.cell? ⟨w.heap.size, 0, none⟩ = some (.slice s.A0 db.length s.c0) := (STa1.out.dc 0).trans rfl
    have x1 : wa1.cell? ⟨w.heap.size, 1, none⟩ = some (.slice s.A1 0 s.c1) := (STa1.out.dc 1).trans rfl
    have x2 : wa1.cell? ⟨w.heap.size, 2, none⟩ = some (.slice s.A2 0 s.c2) := (STa1.out.dc 2).trans rfl
    have x3 : wa1.cell? ⟨w.heap.size, 3, none⟩ = some (.slice s.A3 0 s.c3) := (STa1.out.dc 3).trans rfl
    have x4 : wa1.cell? ⟨w.heap.size, 4, none⟩ = some (.slice s.A4 0 s.c4) := (STa1.out.dc 4).trans rfl
    have s0 : wa1.cell? ⟨p, 0, none⟩ = some (.int .i64 4) := (STa1.out.shc 0).trans rfl
    have s1 : wa1.cell? ⟨p, 1, none⟩ = some (.bool false) := (STa1.out.shc 1).trans rfl
    have s2 : wa1.cell? ⟨p, 2, none⟩ = some (.bool false) := (STa1.out.shc 2).trans rfl
    have s3 : wa1.cell? ⟨p, 3, none⟩ = some (.bool false) := (STa1.out.shc 3).trans rfl
    have s4 : wa1.cell? ⟨p, 4, none⟩ = some (.int .i64 0) := (STa1.out.shc 4).trans rfl
    have s5 : wa1.cell? ⟨p, 5, none⟩ = some (.int .i64 0) := (STa1.out.shc 5).trans rfl
    have s6 : wa1.cell? ⟨p, 6, none⟩ = some (.bool false) := (STa1.out.shc 6).trans rfl
    have s7 : wa1.cell? ⟨p, 7, none⟩ = some (.bool false) := (STa1.out.shc 7).trans rfl
    go_wp2
    go_ret
    refine PutSt.done STa1.out ?_
    rw [← HYEa1.out, ← HYE.out]
    rfl

set_option maxHeartbeats 8000000 in
theorem wputQ_any (k : Int) (hk : shapeP k = shpQ) (hk1 : 1 ≤ k ∧ k ≤ 65535) (w : World) (B g : Nat) (F : Nat → Prop) (x : Wr) (s : DS) (d : Da) (S : Nat → Prop) (hf : FineS shpQ d) (h : Wtr w B F g x) (hd : DIn S w s d) (hS : ∀ b, S b → b < w.heap.size ∧ ¬ F b) (hx : x.b.length ≤ 9000000) (hxr : x.rests.length ≤ 9000000) :
    Calls Try.prog 183 #[.pointer (some ⟨g, 0, none⟩), .int .i64 k, dsV s d] w (RetX w B F g (x.data shpQ d) (.int .i64 0)) := by
  have HB : Hid (fineB k d = true) := fineB_true ⟨hk1, by rw [hk]; exact hf⟩
  obtain ⟨f1, f2, f3, f4, f5, f6, f7⟩ := hf
  have hsh : ∀ w, Calls Try.prog 156 #[.int .i64 k] w (RetP (fun v _ => v = .agg #[.int .i64 16, .bool false, .bool false, .bool false, .int .i64 0, .int .i64 0, .bool false, .bool false]) w) := fun w => by have h := shapes_any k w; rw [hk] at h; exact h
  have HSH := Lib.hid hsh
  obtain ⟨db, dh, dm, dn, dt⟩ := d
  obtain rfl : dn = [] := List.eq_nil_of_length_eq_zero (Int.ofNat_inj.1 f3)
  obtain rfl : dh = [] := (show dh = [] from f4)
  obtain rfl : dm = [] := (show dm = [] from f5)
  obtain rfl : dt = [] := (show dt = [] from f7)
  have F2 : Hid (db.length ≤ 65535) := f2
  have HX := Lib.hid hx
  have HXR := Lib.hid hxr
  have hFl := h.F_lt
  clear f1 f2 f3 f4 f5 f6 f7 hsh hk hx hxr
  rw [show dsV s ⟨db, [], [], [], []⟩ = .agg #[.slice s.A0 db.length s.c0, .slice s.A1 0 s.c1, .slice s.A2 0 s.c2, .slice s.A3 0 s.c3, .slice s.A4 0 s.c4] from rfl]
  obtain ⟨w1, hw1⟩ : ∃ w1, w1 = w.alloc (.cells #[.slice s.A0 db.length s.c0, .slice s.A1 0 s.c1, .slice s.A2 0 s.c2, .slice s.A3 0 s.c3, .slice s.A4 0 s.c4] 46) := ⟨_, rfl⟩
  have hb1 : Below w.heap.size w w1 := by rw [hw1]; exact bl.alloc (Nat.le_refl _) _
  have hq1 : Hid (w1.heap[w.heap.size]? = some (.cells (dCells s ⟨db, [], [], [], []⟩) 46 (0, 0))) := by show _ = _; rw [hw1]; exact heap_alloc_new w _
  have x0 : w1.cell? ⟨w.heap.size, 0, none⟩ = some (.slice s.A0 db.length s.c0) := (cell_of_row _ _ _ _ _ _ hq1.out).trans rfl
  have x1 : w1.cell? ⟨w.heap.size, 1, none⟩ = some (.slice s.A1 0 s.c1) := (cell_of_row _ _ _ _ _ _ hq1.out).trans rfl
  have x2 : w1.cell? ⟨w.heap.size, 2, none⟩ = some (.slice s.A2 0 s.c2) := (cell_of_row _ _ _ _ _ _ hq1.out).trans rfl
  have x3 : w1.cell? ⟨w.heap.size, 3, none⟩ = some (.slice s.A3 0 s.c3) := (cell_of_row _ _ _ _ _ _ hq1.out).trans rfl
  have x4 : w1.cell? ⟨w.heap.size, 4, none⟩ = some (.slice s.A4 0 s.c4) := (cell_of_row _ _ _ _ _ _ hq1.out).trans rfl
  have HD1 := Lib.hid (hd.below hb1 (fun b hb => (hS b hb).1))
  have HW1 := Lib.hid (h.below hb1)
  have HS1 : Hid (∀ b, S b → b < w1.heap.size ∧ ¬ F b) := fun b hb => ⟨Nat.lt_of_lt_of_le (hS b hb).1 hb1.size, (hS b hb).2⟩
  have hsnd : Calls Try.prog 109 #[.int .i64 k, .agg #[.slice s.A0 db.length s.c0, .slice s.A1 0 s.c1, .slice s.A2 0 s.c2, .slice s.A3 0 s.c3, .slice s.A4 0 s.c4]] w1 (RetP (fun v _ => v = .bool true) w1) := by
    have h := dsound_any k s ⟨db, [], [], [], []⟩ w1 (HD1.out.rd (fun b hb => (HS1.out b hb).1)) (Nat.zero_le _) (Nat.zero_le _) (Nat.zero_le _) (Nat.zero_le _)
    rw [HB.out] at h
    exact h
  have HSND := Lib.hid hsnd
  clear hsnd
  have hqF : ¬ F w.heap.size := fun e => by have := (hFl _ e).2; omega
  have HQF := Lib.hid hqF
  have HFL := Lib.hid hFl
  clear hd h hqF hS hFl
  go_enter Try.func183, Try.ntmps183
  go_upto_region 1 with (fail)
  rw [← hw1]
  clear hw1
  go_upto_region 4 with (first
    | (go_at_call 156; refine (HSH.out w2).mono ?_; rintro e w3 ⟨v3, rfl, rfl, hb3⟩)
    | (go_at_call 109; refine HSND.out.mono ?_; rintro e w2 ⟨v2, rfl, rfl, hb2⟩)
    | fail)
  obtain ⟨w4, hw4⟩ : ∃ w4, w4 = w3.alloc (.cells #[.int .i64 16, .bool false, .bool false, .bool false, .int .i64 0, .int .i64 0, .bool false, .bool false] 182) := ⟨_, rfl⟩
  have hb4 : Below w3.heap.size w3 w4 := by rw [hw4]; exact bl.alloc (Nat.le_refl _) _
  have hs4 : Hid (w4.heap[w3.heap.size]? = some (.cells (shCells shpQ) 182 (0, 0))) := by show _ = _; rw [hw4]; exact heap_alloc_new w3 _
  have hb14 : Below w1.heap.size w1 w4 := nx (nx hb2 hb3) hb4
  rw [← hw4]
  have ST4 : Hid (PutSt w w4 B g F F x w.heap.size w3.heap.size S s ⟨db, [], [], [], []⟩ shpQ) := ⟨HW1.out.below hb14, Chg.of_below (nx hb1 hb14), fun z hz => .inl hz, (hb14.block _ (Array.getElem?_eq_some_iff.1 hq1.out).1).trans hq1.out, hs4.out, HD1.out.below hb14 (fun b hb => (HS1.out b hb).1), HQF.out, fun e => by have := (HFL.out _ e).2; have := hb1.size; have := hb2.size; have := hb3.size; omega, fun b hb => ⟨Nat.lt_of_lt_of_le (HS1.out b hb).1 hb14.size, (HS1.out b hb).2⟩⟩
  clear hw4 hb4 hs4 hb14 HD1 HW1 HS1 HQF HFL hb1 hb2 hb3 hq1 x0 x1 x2 x3 x4
  generalize w3.heap.size = p at ST4 ⊢
  have x0 : w4.cell? ⟨w.heap.size, 0, none⟩ = some (.slice s.A0 db.length s.c0) := (ST4.out.dc 0).trans rfl
  have x1 : w4.cell? ⟨w.heap.size, 1, none⟩ = some (.slice s.A1 0 s.c1) := (ST4.out.dc 1).trans rfl
  have x2 : w4.cell? ⟨w.heap.size, 2, none⟩ = some (.slice s.A2 0 s.c2) := (ST4.out.dc 2).trans rfl
  have x3 : w4.cell? ⟨w.heap.size, 3, none⟩ = some (.slice s.A3 0 s.c3) := (ST4.out.dc 3).trans rfl
  have x4 : w4.cell? ⟨w.heap.size, 4, none⟩ = some (.slice s.A4 0 s.c4) := (ST4.out.dc 4).trans rfl
  have s0 : w4.cell? ⟨p, 0, none⟩ = some (.int .i64 16) := (ST4.out.shc 0).trans rfl
  have s1 : w4.cell? ⟨p, 1, none⟩ = some (.bool false) := (ST4.out.shc 1).trans rfl
  have s2 : w4.cell? ⟨p, 2, none⟩ = some (.bool false) := (ST4.out.shc 2).trans rfl
  have s3 : w4.cell? ⟨p, 3, none⟩ = some (.bool false) := (ST4.out.shc 3).trans rfl
  have s4 : w4.cell? ⟨p, 4, none⟩ = some (.int .i64 0) := (ST4.out.shc 4).trans rfl
  have s5 : w4.cell? ⟨p, 5, none⟩ = some (.int .i64 0) := (ST4.out.shc 5).trans rfl
  have s6 : w4.cell? ⟨p, 6, none⟩ = some (.bool false) := (ST4.out.shc 6).trans rfl
  have s7 : w4.cell? ⟨p, 7, none⟩ = some (.bool false) := (ST4.out.shc 7).trans rfl
  go_upto_region 5 with (first
    | (go_at_call 148; refine (wraw_any w4 B g F x s.A0 db.length s.c0 db ST4.out.W (els_bytes ST4.out.D.b) (by have := HX.out; have := F2.out; omega)).mono ?_; rintro e w5 ⟨rfl, F5r, h5, hc5, hF5⟩; have ST5 := Lib.hid (ST4.out.step h5 hc5 hF5); clear h5 hc5 hF5)
    | fail)
  clear x0 x1 x2 x3 x4 s0 s1 s2 s3 s4 s5 s6 s7
  have x0 : w5.cell? ⟨w.heap.size, 0, none⟩ = some (.slice s.A0 db.length s.c0) := (ST5.out.dc 0).trans rfl
  have x1 : w5.cell? ⟨w.heap.size, 1, none⟩ = some (.slice s.A1 0 s.c1) := (ST5.out.dc 1).trans rfl
  have x2 : w5.cell? ⟨w.heap.size, 2, none⟩ = some (.slice s.A2 0 s.c2) := (ST5.out.dc 2).trans rfl
  have x3 : w5.cell? ⟨w.heap.size, 3, none⟩ = some (.slice s.A3 0 s.c3) := (ST5.out.dc 3).trans rfl
  have x4 : w5.cell? ⟨w.heap.size, 4, none⟩ = some (.slice s.A4 0 s.c4) := (ST5.out.dc 4).trans rfl
  have s0 : w5.cell? ⟨p, 0, none⟩ = some (.int .i64 16) := (ST5.out.shc 0).trans rfl
  have s1 : w5.cell? ⟨p, 1, none⟩ = some (.bool false) := (ST5.out.shc 1).trans rfl
  have s2 : w5.cell? ⟨p, 2, none⟩ = some (.bool false) := (ST5.out.shc 2).trans rfl
  have s3 : w5.cell? ⟨p, 3, none⟩ = some (.bool false) := (ST5.out.shc 3).trans rfl
  have s4 : w5.cell? ⟨p, 4, none⟩ = some (.int .i64 0) := (ST5.out.shc 4).trans rfl
  have s5 : w5.cell? ⟨p, 5, none⟩ = some (.int .i64 0) := (ST5.out.shc 5).trans rfl
  have s6 : w5.cell? ⟨p, 6, none⟩ = some (.bool false) := (ST5.out.shc 6).trans rfl
  have s7 : w5.cell? ⟨p, 7, none⟩ = some (.bool false) := (ST5.out.shc 7).trans rfl
  have HY : Hid ((x.raw db).b.length ≤ 9100000 ∧ (x.raw db).rests.length ≤ 9000000) := ⟨by have := HX.out; have := F2.out; simp only [Wr.raw, List.length_append] at *; omega, HXR.out⟩
  generalize hy : x.raw db = y at ST5 HY
  have HYE := Lib.hid hy
  clear hy ST4
  go_wp2
  go_loopw [27] (fun iv wr => iv = .int .i64 0 ∧ wr = w5) (fun _ _ => 0)
  case atStart => exact ⟨rfl, rfl⟩
  case round =>
    obtain ⟨rfl, rfl⟩ := hrel
    go_upto_region 19 with (first
      | (go_at_call 197; refine (wnums_any wr B g F5r y s.A3 _ s.c3 [] 0 ST5.out.W ST5.out.D.n ST5.out.SF (Nat.zero_le _) (by have := HY.out.1; omega)).mono ?_; rintro e wa1 ⟨rfl, Fa1, ha, hca, hFa⟩; have STa1 := Lib.hid (ST5.out.step ha hca hFa); clear ha hca hFa)
      | fail)
    clear x0 x1 x2 x3 x4 s0 s1 s2 s3 s4 s5 s6 s7
    have HYa1 : Hid ((y.nums [] 0).b.length ≤ 9400000 ∧ (y.nums [] 0).rests.length ≤ 9201000) := ⟨by have h2 := HY.out.1; show y.b.length ≤ _; omega, by have := HY.out.2; show y.rests.length ≤ _; omega⟩
    generalize hya : y.nums [] 0 = ya1 at STa1 HYa1
    have HYEa1 := Lib.hid hya
    clear hya ST5
    have x0 : wa1.cell? ⟨w.heap.size, 0, none⟩ = some (.slice s.A0 db.length s.c0) := (STa1.out.dc 0).trans rfl
    have x1 : wa1.cell? ⟨w.heap.size, 1, none⟩ = some (.slice s.A1 0 s.c1) := (STa1.out.dc 1).trans rfl
    have x2 : wa1.cell? ⟨w.heap.size, 2, none⟩ = some (.slice s.A2 0 s.c2) := (STa1.out.dc 2).trans rfl
    have x3 : wa1.cell? ⟨w.heap.size, 3, none⟩ = some (.slice s.A3 0 s.c3) := (STa1.out.dc 3).trans rfl
    have x4 : wa1.cell? ⟨w.heap.size, 4, none⟩ = some (.slice s.A4 0 s.c4) := (STa1.out.dc 4).trans rfl
    have s0 : wa1.cell? ⟨p, 0, none⟩ = some (.int .i64 16) := (STa1.out.shc 0).trans rfl
    have s1 : wa1.cell? ⟨p, 1, none⟩ = some (.bool false) := (STa1.out.shc 1).trans rfl
    have s2 : wa1.cell? ⟨p, 2, none⟩ = some (.bool false) := (STa1.out.shc 2).trans rfl
    have s3 : wa1.cell? ⟨p, 3, none⟩ = some (.bool false) := (STa1.out.shc 3).trans rfl
    have s4 : wa1.cell? ⟨p, 4, none⟩ = some (.int .i64 0) := (STa1.out.shc 4).trans rfl
    have s5 : wa1.cell? ⟨p, 5, none⟩ = some (.int .i64 0) := (STa1.out.shc 5).trans rfl
    have s6 : wa1.cell? ⟨p, 6, none⟩ = some (.bool false) := (STa1.out.shc 6).trans rfl
    have s7 : wa1.cell? ⟨p, 7, none⟩ = some (.bool false) := (STa1.out.shc 7).trans rfl
    go_wp2
    go_ret
    refine PutSt.done STa1.out ?_
    rw [← HYEa1.out, ← HYE.out]
    rfl

set_option maxHeartbeats 8000000 in
theorem wputN_any (k : Int) (hk : shapeP k = shpN) (hk1 : 1 ≤ k ∧ k ≤ 65535) (w : World) (B g : Nat) (F : Nat → Prop) (x : Wr) (s : DS) (d : Da) (S : Nat → Prop) (hf : FineS shpN d) (h : Wtr w B F g x) (hd : DIn S w s d) (hS : ∀ b, S b → b < w.heap.size ∧ ¬ F b) (hx : x.b.length ≤ 9000000) (hxr : x.rests.length ≤ 9000000) :
    Calls Try.prog 183 #[.pointer (some ⟨g, 0, none⟩), .int .i64 k, dsV s d] w (RetX w B F g (x.data shpN d) (.int .i64 0)) := by
  have HB : Hid (fineB k d = true) := fineB_true ⟨hk1, by rw [hk]; exact hf⟩
  obtain ⟨f1, f2, f3, f4, f5, f6, f7⟩ := hf
  have hsh : ∀ w, Calls Try.prog 156 #[.int .i64 k] w (RetP (fun v _ => v = .agg #[.int .i64 0, .bool true, .bool false, .bool true, .int .i64 0, .int .i64 0, .bool false, .bool false]) w) := fun w => by have h := shapes_any k w; rw [hk] at h; exact h
  have HSH := Lib.hid hsh
  obtain ⟨db, dh, dm, dn, dt⟩ := d
  obtain rfl : db = [] := List.eq_nil_of_length_eq_zero (Int.ofNat_inj.1 (f1 (by decide)))
  obtain rfl : dn = [] := List.eq_nil_of_length_eq_zero (Int.ofNat_inj.1 f3)
  obtain rfl : dm = [] := (show dm = [] from f5)
  obtain rfl : dt = [] := (show dt = [] from f7)
  have F2 : Hid (0 ≤ 65535) := Nat.zero_le _
  have F4 : Hid (SoundN dh) := f4
  have HX := Lib.hid hx
  have HXR := Lib.hid hxr
  have hFl := h.F_lt
  clear f1 f2 f3 f4 f5 f6 f7 hsh hk hx hxr
  rw [show dsV s ⟨[], dh, [], [], []⟩ = .agg #[.slice s.A0 0 s.c0, .slice s.A1 dh.length s.c1, .slice s.A2 0 s.c2, .slice s.A3 0 s.c3, .slice s.A4 0 s.c4] from rfl]
  obtain ⟨w1, hw1⟩ : ∃ w1, w1 = w.alloc (.cells #[.slice s.A0 0 s.c0, .slice s.A1 dh.length s.c1, .slice s.A2 0 s.c2, .slice s.A3 0 s.c3, .slice s.A4 0 s.c4] 46) := ⟨_, rfl⟩
  have hb1 : Below w.heap.size w w1 := by rw [hw1]; exact bl.alloc (Nat.le_refl _) _
  have hq1 : Hid (w1.heap[w.heap.size]? = some (.cells (dCells s ⟨[], dh, [], [], []⟩) 46 (0, 0))) := by show _ = _; rw [hw1]; exact heap_alloc_new w _
  have x0 : w1.cell? ⟨w.heap.size, 0, none⟩ = some (.slice s.A0 0 s.c0) := (cell_of_row _ _ _ _ _ _ hq1.out).trans rfl
  have x1 : w1.cell? ⟨w.heap.size, 1, none⟩ = some (.slice s.A1 dh.length s.c1) := (cell_of_row _ _ _ _ _ _ hq1.out).trans rfl
  have x2 : w1.cell? ⟨w.heap.size, 2, none⟩ = some (.slice s.A2 0 s.c2) := (cell_of_row _ _ _ _ _ _ hq1.out).trans rfl
  have x3 : w1.cell? ⟨w.heap.size, 3, none⟩ = some (.slice s.A3 0 s.c3) := (cell_of_row _ _ _ _ _ _ hq1.out).trans rfl
  have x4 : w1.cell? ⟨w.heap.size, 4, none⟩ = some (.slice s.A4 0 s.c4) := (cell_of_row _ _ _ _ _ _ hq1.out).trans rfl
  have HD1 := Lib.hid (hd.below hb1 (fun b hb => (hS b hb).1))
  have HW1 := Lib.hid (h.below hb1)
  have HS1 : Hid (∀ b, S b → b < w1.heap.size ∧ ¬ F b) := fun b hb => ⟨Nat.lt_of_lt_of_le (hS b hb).1 hb1.size, (hS b hb).2⟩
  have hsnd : Calls Try.prog 109 #[.int .i64 k, .agg #[.slice s.A0 0 s.c0, .slice s.A1 dh.length s.c1, .slice s.A2 0 s.c2, .slice s.A3 0 s.c3, .slice s.A4 0 s.c4]] w1 (RetP (fun v _ => v = .bool true) w1) := by
    have h := dsound_any k s ⟨[], dh, [], [], []⟩ w1 (HD1.out.rd (fun b hb => (HS1.out b hb).1)) (by have := sizeN_length dh; have := F4.out.2; show dh.length ≤ _; omega) (Nat.zero_le _) (Nat.zero_le _) (Nat.zero_le _)
    rw [HB.out] at h
    exact h
  have HSND := Lib.hid hsnd
  clear hsnd
  have hqF : ¬ F w.heap.size := fun e => by have := (hFl _ e).2; omega
  have HQF := Lib.hid hqF
  have HFL := Lib.hid hFl
  clear hd h hqF hS hFl
  go_enter Try.func183, Try.ntmps183
  go_upto_region 1 with (fail)
  rw [← hw1]
  clear hw1
  go_upto_region 4 with (first
    | (go_at_call 156; refine (HSH.out w2).mono ?_; rintro e w3 ⟨v3, rfl, rfl, hb3⟩)
    | (go_at_call 109; refine HSND.out.mono ?_; rintro e w2 ⟨v2, rfl, rfl, hb2⟩)
    | fail)
  obtain ⟨w4, hw4⟩ : ∃ w4, w4 = w3.alloc (.cells #[.int .i64 0, .bool true, .bool false, .bool true, .int .i64 0, .int .i64 0, .bool false, .bool false] 182) := ⟨_, rfl⟩
  have hb4 : Below w3.heap.size w3 w4 := by rw [hw4]; exact bl.alloc (Nat.le_refl _) _
  have hs4 : Hid (w4.heap[w3.heap.size]? = some (.cells (shCells shpN) 182 (0, 0))) := by show _ = _; rw [hw4]; exact heap_alloc_new w3 _
  have hb14 : Below w1.heap.size w1 w4 := nx (nx hb2 hb3) hb4
  rw [← hw4]
  have ST4 : Hid (PutSt w w4 B g F F x w.heap.size w3.heap.size S s ⟨[], dh, [], [], []⟩ shpN) := ⟨HW1.out.below hb14, Chg.of_below (nx hb1 hb14), fun z hz => .inl hz, (hb14.block _ (Array.getElem?_eq_some_iff.1 hq1.out).1).trans hq1.out, hs4.out, HD1.out.below hb14 (fun b hb => (HS1.out b hb).1), HQF.out, fun e => by have := (HFL.out _ e).2; have := hb1.size; have := hb2.size; have := hb3.size; omega, fun b hb => ⟨Nat.lt_of_lt_of_le (HS1.out b hb).1 hb14.size, (HS1.out b hb).2⟩⟩
  clear hw4 hb4 hs4 hb14 HD1 HW1 HS1 HQF HFL hb1 hb2 hb3 hq1 x0 x1 x2 x3 x4
  generalize w3.heap.size = p at ST4 ⊢
  have x0 : w4.cell? ⟨w.heap.size, 0, none⟩ = some (.slice s.A0 0 s.c0) := (ST4.out.dc 0).trans rfl
  have x1 : w4.cell? ⟨w.heap.size, 1, none⟩ = some (.slice s.A1 dh.length s.c1) := (ST4.out.dc 1).trans rfl
  have x2 : w4.cell? ⟨w.heap.size, 2, none⟩ = some (.slice s.A2 0 s.c2) := (ST4.out.dc 2).trans rfl
  have x3 : w4.cell? ⟨w.heap.size, 3, none⟩ = some (.slice s.A3 0 s.c3) := (ST4.out.dc 3).trans rfl
  have x4 : w4.cell? ⟨w.heap.size, 4, none⟩ = some (.slice s.A4 0 s.c4) := (ST4.out.dc 4).trans rfl
  have s0 : w4.cell? ⟨p, 0, none⟩ = some (.int .i64 0) := (ST4.out.shc 0).trans rfl
  have s1 : w4.cell? ⟨p, 1, none⟩ = some (.bool true) := (ST4.out.shc 1).trans rfl
  have s2 : w4.cell? ⟨p, 2, none⟩ = some (.bool false) := (ST4.out.shc 2).trans rfl
  have s3 : w4.cell? ⟨p, 3, none⟩ = some (.bool true) := (ST4.out.shc 3).trans rfl
  have s4 : w4.cell? ⟨p, 4, none⟩ = some (.int .i64 0) := (ST4.out.shc 4).trans rfl
  have s5 : w4.cell? ⟨p, 5, none⟩ = some (.int .i64 0) := (ST4.out.shc 5).trans rfl
  have s6 : w4.cell? ⟨p, 6, none⟩ = some (.bool false) := (ST4.out.shc 6).trans rfl
  have s7 : w4.cell? ⟨p, 7, none⟩ = some (.bool false) := (ST4.out.shc 7).trans rfl
  go_upto_region 5 with (first
    | (go_at_call 148; refine (wraw_any w4 B g F x s.A0 0 s.c0 [] ST4.out.W (els_bytes ST4.out.D.b) (by have := HX.out; simp; omega)).mono ?_; rintro e w5 ⟨rfl, F5r, h5, hc5, hF5⟩; have ST5 := Lib.hid (ST4.out.step h5 hc5 hF5); clear h5 hc5 hF5)
    | fail)
  clear x0 x1 x2 x3 x4 s0 s1 s2 s3 s4 s5 s6 s7
  have x0 : w5.cell? ⟨w.heap.size, 0, none⟩ = some (.slice s.A0 0 s.c0) := (ST5.out.dc 0).trans rfl
  have x1 : w5.cell? ⟨w.heap.size, 1, none⟩ = some (.slice s.A1 dh.length s.c1) := (ST5.out.dc 1).trans rfl
  have x2 : w5.cell? ⟨w.heap.size, 2, none⟩ = some (.slice s.A2 0 s.c2) := (ST5.out.dc 2).trans rfl
  have x3 : w5.cell? ⟨w.heap.size, 3, none⟩ = some (.slice s.A3 0 s.c3) := (ST5.out.dc 3).trans rfl
  have x4 : w5.cell? ⟨w.heap.size, 4, none⟩ = some (.slice s.A4 0 s.c4) := (ST5.out.dc 4).trans rfl
  have s0 : w5.cell? ⟨p, 0, none⟩ = some (.int .i64 0) := (ST5.out.shc 0).trans rfl
  have s1 : w5.cell? ⟨p, 1, none⟩ = some (.bool true) := (ST5.out.shc 1).trans rfl
  have s2 : w5.cell? ⟨p, 2, none⟩ = some (.bool false) := (ST5.out.shc 2).trans rfl
  have s3 : w5.cell? ⟨p, 3, none⟩ = some (.bool true) := (ST5.out.shc 3).trans rfl
  have s4 : w5.cell? ⟨p, 4, none⟩ = some (.int .i64 0) := (ST5.out.shc 4).trans rfl
  have s5 : w5.cell? ⟨p, 5, none⟩ = some (.int .i64 0) := (ST5.out.shc 5).trans rfl
  have s6 : w5.cell? ⟨p, 6, none⟩ = some (.bool false) := (ST5.out.shc 6).trans rfl
  have s7 : w5.cell? ⟨p, 7, none⟩ = some (.bool false) := (ST5.out.shc 7).trans rfl
  have HY : Hid ((x.raw []).b.length ≤ 9100000 ∧ (x.raw []).rests.length ≤ 9000000) := ⟨by have := HX.out; have := F2.out; simp only [Wr.raw, List.length_append] at *; simp; omega, HXR.out⟩
  generalize hy : x.raw [] = y at ST5 HY
  have HYE := Lib.hid hy
  clear hy ST4
  go_wp2
  go_loopw [27] (fun iv wr => iv = .int .i64 0 ∧ wr = w5) (fun _ _ => 0)
  case atStart => exact ⟨rfl, rfl⟩
  case round =>
    obtain ⟨rfl, rfl⟩ := hrel
    go_upto_region 15 with (first
      | (go_at_call 103; refine (name_any wr B g F5r y s.A1 _ s.c1 dh true ST5.out.W ST5.out.D.h ST5.out.SF (by have := sizeN_length dh; have := F4.out.2; show dh.length ≤ _; omega) ST5.out.D.ch.1 ST5.out.D.ch.2 (by have := HY.out.1; omega) (by have := HY.out.2; omega)).mono ?_; rw [nameS_sound F4.out]; rintro e wa1 ⟨rfl, Fa1, ha, hca, hFa⟩; have STa1 := Lib.hid (ST5.out.step ha hca hFa); clear ha hca hFa)
      | fail)
    clear x0 x1 x2 x3 x4 s0 s1 s2 s3 s4 s5 s6 s7
    have HYa1 : Hid ((y.name dh true).b.length ≤ 9400000 ∧ (y.name dh true).rests.length ≤ 9201000) := ⟨by have h1 := Wr.name_le (x := y) dh true; have h2 := HY.out.1; have h3 := F4.out.2; omega, by have h1 := Wr.name_rests (x := y) dh true; have h2 := HY.out.2; have h3 := F4.out.2; have h4 := sizeN_length dh; omega⟩
    generalize hya : y.name dh true = ya1 at STa1 HYa1
    have HYEa1 := Lib.hid hya
    clear hya ST5
    have x0 : wa1.cell? ⟨w.heap.size, 0, none⟩ = some (.slice s.A0 0 s.c0) := (STa1.out.dc 0).trans rfl
    have x1 : wa1.cell? ⟨w.heap.size, 1, none⟩ = some (.slice s.A1 dh.length s.c1) := (STa1.out.dc 1).trans rfl
    have x2 : wa1.cell? ⟨w.heap.size, 2, none⟩ = some (.slice s.A2 0 s.c2) := (STa1.out.dc 2).trans rfl
    have x3 : wa1.cell? ⟨w.heap.size, 3, none⟩ = some (.slice s.A3 0 s.c3) := (STa1.out.dc 3).trans rfl
    have x4 : wa1.cell? ⟨w.heap.size, 4, none⟩ = some (.slice s.A4 0 s.c4) := (STa1.out.dc 4).trans rfl
    have s0 : wa1.cell? ⟨p, 0, none⟩ = some (.int .i64 0) := (STa1.out.shc 0).trans rfl
    have s1 : wa1.cell? ⟨p, 1, none⟩ = some (.bool true) := (STa1.out.shc 1).trans rfl
    have s2 : wa1.cell? ⟨p, 2, none⟩ = some (.bool false) := (STa1.out.shc 2).trans rfl
    have s3 : wa1.cell? ⟨p, 3, none⟩ = some (.bool true) := (STa1.out.shc 3).trans rfl
    have s4 : wa1.cell? ⟨p, 4, none⟩ = some (.int .i64 0) := (STa1.out.shc 4).trans rfl
    have s5 : wa1.cell? ⟨p, 5, none⟩ = some (.int .i64 0) := (STa1.out.shc 5).trans rfl
    have s6 : wa1.cell? ⟨p, 6, none⟩ = some (.bool false) := (STa1.out.shc 6).trans rfl
    have s7 : wa1.cell? ⟨p, 7, none⟩ = some (.bool false) := (STa1.out.shc 7).trans rfl
    go_upto_region 19 with (first
      | (go_at_call 197; refine (wnums_any wa1 B g Fa1 ya1 s.A3 _ s.c3 [] 0 STa1.out.W STa1.out.D.n STa1.out.SF (Nat.zero_le _) (by have := HYa1.out.1; omega)).mono ?_; rintro e wa2 ⟨rfl, Fa2, ha, hca, hFa⟩; have STa2 := Lib.hid (STa1.out.step ha hca hFa); clear ha hca hFa)
      | fail)
    clear x0 x1 x2 x3 x4 s0 s1 s2 s3 s4 s5 s6 s7
    have HYa2 : Hid ((ya1.nums [] 0).b.length ≤ 9500000 ∧ (ya1.nums [] 0).rests.length ≤ 9202000) := ⟨by have h2 := HYa1.out.1; show ya1.b.length ≤ _; omega, by have := HYa1.out.2; show ya1.rests.length ≤ _; omega⟩
    generalize hya : ya1.nums [] 0 = ya2 at STa2 HYa2
    have HYEa2 := Lib.hid hya
    clear hya STa1
    have x0 : wa2.cell? ⟨w.heap.size, 0, none⟩ = some (.slice s.A0 0 s.c0) := (STa2.out.dc 0).trans rfl
    have x1 : wa2.cell? ⟨w.heap.size, 1, none⟩ = some (.slice s.A1 dh.length s.c1) := (STa2.out.dc 1).trans rfl
    have x2 : wa2.cell? ⟨w.heap.size, 2, none⟩ = some (.slice s.A2 0 s.c2) := (STa2.out.dc 2).trans rfl
    have x3 : wa2.cell? ⟨w.heap.size, 3, none⟩ = some (.slice s.A3 0 s.c3) := (STa2.out.dc 3).trans rfl
    have x4 : wa2.cell? ⟨w.heap.size, 4, none⟩ = some (.slice s.A4 0 s.c4) := (STa2.out.dc 4).trans rfl
    have s0 : wa2.cell? ⟨p, 0, none⟩ = some (.int .i64 0) := (STa2.out.shc 0).trans rfl
    have s1 : wa2.cell? ⟨p, 1, none⟩ = some (.bool true) := (STa2.out.shc 1).trans rfl
    have s2 : wa2.cell? ⟨p, 2, none⟩ = some (.bool false) := (STa2.out.shc 2).trans rfl
    have s3 : wa2.cell? ⟨p, 3, none⟩ = some (.bool true) := (STa2.out.shc 3).trans rfl
    have s4 : wa2.cell? ⟨p, 4, none⟩ = some (.int .i64 0) := (STa2.out.shc 4).trans rfl
    have s5 : wa2.cell? ⟨p, 5, none⟩ = some (.int .i64 0) := (STa2.out.shc 5).trans rfl
    have s6 : wa2.cell? ⟨p, 6, none⟩ = some (.bool false) := (STa2.out.shc 6).trans rfl
    have s7 : wa2.cell? ⟨p, 7, none⟩ = some (.bool false) := (STa2.out.shc 7).trans rfl
    go_wp2
    go_ret
    refine PutSt.done STa2.out ?_
    rw [← HYEa2.out, ← HYEa1.out, ← HYE.out]
    rfl

set_option maxHeartbeats 8000000 in
theorem wputM_any (k : Int) (hk : shapeP k = shpM) (hk1 : 1 ≤ k ∧ k ≤ 65535) (w : World) (B g : Nat) (F : Nat → Prop) (x : Wr) (s : DS) (d : Da) (S : Nat → Prop) (hf : FineS shpM d) (h : Wtr w B F g x) (hd : DIn S w s d) (hS : ∀ b, S b → b < w.heap.size ∧ ¬ F b) (hx : x.b.length ≤ 9000000) (hxr : x.rests.length ≤ 9000000) :
    Calls Try.prog 183 #[.pointer (some ⟨g, 0, none⟩), .int .i64 k, dsV s d] w (RetX w B F g (x.data shpM d) (.int .i64 0)) := by
  have HB : Hid (fineB k d = true) := fineB_true ⟨hk1, by rw [hk]; exact hf⟩
  obtain ⟨f1, f2, f3, f4, f5, f6, f7⟩ := hf
  have hsh : ∀ w, Calls Try.prog 156 #[.int .i64 k] w (RetP (fun v _ => v = .agg #[.int .i64 0, .bool true, .bool false, .bool true, .int .i64 1, .int .i64 2, .bool false, .bool true]) w) := fun w => by have h := shapes_any k w; rw [hk] at h; exact h
  have HSH := Lib.hid hsh
  obtain ⟨db, dh, dm, dn, dt⟩ := d
  obtain rfl : db = [] := List.eq_nil_of_length_eq_zero (Int.ofNat_inj.1 (f1 (by decide)))
  obtain rfl : dm = [] := (show dm = [] from f5)
  obtain rfl : dt = [] := (show dt = [] from f7)
  have F2 : Hid (0 ≤ 65535) := Nat.zero_le _
  have F4 : Hid (SoundN dh) := f4
  have F3 : Hid ((dn.length : Int) = 1) := f3
  have HX := Lib.hid hx
  have HXR := Lib.hid hxr
  have hFl := h.F_lt
  clear f1 f2 f3 f4 f5 f6 f7 hsh hk hx hxr
  rw [show dsV s ⟨[], dh, [], dn, []⟩ = .agg #[.slice s.A0 0 s.c0, .slice s.A1 dh.length s.c1, .slice s.A2 0 s.c2, .slice s.A3 dn.length s.c3, .slice s.A4 0 s.c4] from rfl]
  obtain ⟨w1, hw1⟩ : ∃ w1, w1 = w.alloc (.cells #[.slice s.A0 0 s.c0, .slice s.A1 dh.length s.c1, .slice s.A2 0 s.c2, .slice s.A3 dn.length s.c3, .slice s.A4 0 s.c4] 46) := ⟨_, rfl⟩
  have hb1 : Below w.heap.size w w1 := by rw [hw1]; exact bl.alloc (Nat.le_refl _) _
  have hq1 : Hid (w1.heap[w.heap.size]? = some (.cells (dCells s ⟨[], dh, [], dn, []⟩) 46 (0, 0))) := by show _ = _; rw [hw1]; exact heap_alloc_new w _
  have x0 : w1.cell? ⟨w.heap.size, 0, none⟩ = some (.slice s.A0 0 s.c0) := (cell_of_row _ _ _ _ _ _ hq1.out).trans rfl
  have x1 : w1.cell? ⟨w.heap.size, 1, none⟩ = some (.slice s.A1 dh.length s.c1) := (cell_of_row _ _ _ _ _ _ hq1.out).trans rfl
  have x2 : w1.cell? ⟨w.heap.size, 2, none⟩ = some (.slice s.A2 0 s.c2) := (cell_of_row _ _ _ _ _ _ hq1.out).trans rfl
  have x3 : w1.cell? ⟨w.heap.size, 3, none⟩ = some (.slice s.A3 dn.length s.c3) := (cell_of_row _ _ _ _ _ _ hq1.out).trans rfl
  have x4 : w1.cell? ⟨w.heap.size, 4, none⟩ = some (.slice s.A4 0 s.c4) := (cell_of_row _ _ _ _ _ _ hq1.out).trans rfl
  have HD1 := Lib.hid (hd.below hb1 (fun b hb => (hS b hb).1))
  have HW1 := Lib.hid (h.below hb1)
  have HS1 : Hid (∀ b, S b → b < w1.heap.size ∧ ¬ F b) := fun b hb => ⟨Nat.lt_of_lt_of_le (hS b hb).1 hb1.size, (hS b hb).2⟩
  have hsnd : Calls Try.prog 109 #[.int .i64 k, .agg #[.slice s.A0 0 s.c0, .slice s.A1 dh.length s.c1, .slice s.A2 0 s.c2, .slice s.A3 dn.length s.c3, .slice s.A4 0 s.c4]] w1 (RetP (fun v _ => v = .bool true) w1) := by
    have h := dsound_any k s ⟨[], dh, [], dn, []⟩ w1 (HD1.out.rd (fun b hb => (HS1.out b hb).1)) (by have := sizeN_length dh; have := F4.out.2; show dh.length ≤ _; omega) (Nat.zero_le _) (by have := F3.out; show dn.length ≤ _; omega) (Nat.zero_le _)
    rw [HB.out] at h
    exact h
  have HSND := Lib.hid hsnd
  clear hsnd
  have hqF : ¬ F w.heap.size := fun e => by have := (hFl _ e).2; omega
  have HQF := Lib.hid hqF
  have HFL := Lib.hid hFl
  clear hd h hqF hS hFl
  go_enter Try.func183, Try.ntmps183
  go_upto_region 1 with (fail)
  rw [← hw1]
  clear hw1
  go_upto_region 4 with (first
    | (go_at_call 156; refine (HSH.out w2).mono ?_; rintro e w3 ⟨v3, rfl, rfl, hb3⟩)
    | (go_at_call 109; refine HSND.out.mono ?_; rintro e w2 ⟨v2, rfl, rfl, hb2⟩)
    | fail)
  obtain ⟨w4, hw4⟩ : ∃ w4, w4 = w3.alloc (.cells #[.int .i64 0, .bool true, .bool false, .bool true, .int .i64 1, .int .i64 2, .bool false, .bool true] 182) := ⟨_, rfl⟩
  have hb4 : Below w3.heap.size w3 w4 := by rw [hw4]; exact bl.alloc (Nat.le_refl _) _
  have hs4 : Hid (w4.heap[w3.heap.size]? = some (.cells (shCells shpM) 182 (0, 0))) := by show _ = _; rw [hw4]; exact heap_alloc_new w3 _
  have hb14 : Below w1.heap.size w1 w4 := nx (nx hb2 hb3) hb4
  rw [← hw4]
  have ST4 : Hid (PutSt w w4 B g F F x w.heap.size w3.heap.size S s ⟨[], dh, [], dn, []⟩ shpM) := ⟨HW1.out.below hb14, Chg.of_below (nx hb1 hb14), fun z hz => .inl hz, (hb14.block _ (Array.getElem?_eq_some_iff.1 hq1.out).1).trans hq1.out, hs4.out, HD1.out.below hb14 (fun b hb => (HS1.out b hb).1), HQF.out, fun e => by have := (HFL.out _ e).2; have := hb1.size; have := hb2.size; have := hb3.size; omega, fun b hb => ⟨Nat.lt_of_lt_of_le (HS1.out b hb).1 hb14.size, (HS1.out b hb).2⟩⟩
  clear hw4 hb4 hs4 hb14 HD1 HW1 HS1 HQF HFL hb1 hb2 hb3 hq1 x0 x1 x2 x3 x4
  generalize w3.heap.size = p at ST4 ⊢
  have x0 : w4.cell? ⟨w.heap.size, 0, none⟩ = some (.slice s.A0 0 s.c0) := (ST4.out.dc 0).trans rfl
  have x1 : w4.cell? ⟨w.heap.size, 1, none⟩ = some (.slice s.A1 dh.length s.c1) := (ST4.out.dc 1).trans rfl
  have x2 : w4.cell? ⟨w.heap.size, 2, none⟩ = some (.slice s.A2 0 s.c2) := (ST4.out.dc 2).trans rfl
  have x3 : w4.cell? ⟨w.heap.size, 3, none⟩ = some (.slice s.A3 dn.length s.c3) := (ST4.out.dc 3).trans rfl
  have x4 : w4.cell? ⟨w.heap.size, 4, none⟩ = some (.slice s.A4 0 s.c4) := (ST4.out.dc 4).trans rfl
  have s0 : w4.cell? ⟨p, 0, none⟩ = some (.int .i64 0) := (ST4.out.shc 0).trans rfl
  have s1 : w4.cell? ⟨p, 1, none⟩ = some (.bool true) := (ST4.out.shc 1).trans rfl
  have s2 : w4.cell? ⟨p, 2, none⟩ = some (.bool false) := (ST4.out.shc 2).trans rfl
  have s3 : w4.cell? ⟨p, 3, none⟩ = some (.bool true) := (ST4.out.shc 3).trans rfl
  have s4 : w4.cell? ⟨p, 4, none⟩ = some (.int .i64 1) := (ST4.out.shc 4).trans rfl
  have s5 : w4.cell? ⟨p, 5, none⟩ = some (.int .i64 2) := (ST4.out.shc 5).trans rfl
  have s6 : w4.cell? ⟨p, 6, none⟩ = some (.bool false) := (ST4.out.shc 6).trans rfl
  have s7 : w4.cell? ⟨p, 7, none⟩ = some (.bool true) := (ST4.out.shc 7).trans rfl
  go_upto_region 5 with (first
    | (go_at_call 148; refine (wraw_any w4 B g F x s.A0 0 s.c0 [] ST4.out.W (els_bytes ST4.out.D.b) (by have := HX.out; simp; omega)).mono ?_; rintro e w5 ⟨rfl, F5r, h5, hc5, hF5⟩; have ST5 := Lib.hid (ST4.out.step h5 hc5 hF5); clear h5 hc5 hF5)
    | fail)
  clear x0 x1 x2 x3 x4 s0 s1 s2 s3 s4 s5 s6 s7
  have x0 : w5.cell? ⟨w.heap.size, 0, none⟩ = some (.slice s.A0 0 s.c0) := (ST5.out.dc 0).trans rfl
  have x1 : w5.cell? ⟨w.heap.size, 1, none⟩ = some (.slice s.A1 dh.length s.c1) := (ST5.out.dc 1).trans rfl
  have x2 : w5.cell? ⟨w.heap.size, 2, none⟩ = some (.slice s.A2 0 s.c2) := (ST5.out.dc 2).trans rfl
  have x3 : w5.cell? ⟨w.heap.size, 3, none⟩ = some (.slice s.A3 dn.length s.c3) := (ST5.out.dc 3).trans rfl
  have x4 : w5.cell? ⟨w.heap.size, 4, none⟩ = some (.slice s.A4 0 s.c4) := (ST5.out.dc 4).trans rfl
  have s0 : w5.cell? ⟨p, 0, none⟩ = some (.int .i64 0) := (ST5.out.shc 0).trans rfl
  have s1 : w5.cell? ⟨p, 1, none⟩ = some (.bool true) := (ST5.out.shc 1).trans rfl
  have s2 : w5.cell? ⟨p, 2, none⟩ = some (.bool false) := (ST5.out.shc 2).trans rfl
  have s3 : w5.cell? ⟨p, 3, none⟩ = some (.bool true) := (ST5.out.shc 3).trans rfl
  have s4 : w5.cell? ⟨p, 4, none⟩ = some (.int .i64 1) := (ST5.out.shc 4).trans rfl
  have s5 : w5.cell? ⟨p, 5, none⟩ = some (.int .i64 2) := (ST5.out.shc 5).trans rfl
  have s6 : w5.cell? ⟨p, 6, none⟩ = some (.bool false) := (ST5.out.shc 6).trans rfl
  have s7 : w5.cell? ⟨p, 7, none⟩ = some (.bool true) := (ST5.out.shc 7).trans rfl
  have HY : Hid ((x.raw []).b.length ≤ 9100000 ∧ (x.raw []).rests.length ≤ 9000000) := ⟨by have := HX.out; have := F2.out; simp only [Wr.raw, List.length_append] at *; simp; omega, HXR.out⟩
  generalize hy : x.raw [] = y at ST5 HY
  have HYE := Lib.hid hy
  clear hy ST4
  go_wp2
  go_loopw [27] (fun iv wr => iv = .int .i64 0 ∧ wr = w5) (fun _ _ => 0)
  case atStart => exact ⟨rfl, rfl⟩
  case round =>
    obtain ⟨rfl, rfl⟩ := hrel
    go_upto_region 13 with (first
      | (go_at_call 197; refine (wnums_any wr B g F5r y s.A3 _ s.c3 dn 2 ST5.out.W ST5.out.D.n ST5.out.SF (by have := F3.out; show dn.length ≤ _; omega) (by have := HY.out.1; omega)).mono ?_; rintro e wa1 ⟨rfl, Fa1, ha, hca, hFa⟩; have STa1 := Lib.hid (ST5.out.step ha hca hFa); clear ha hca hFa)
      | fail)
    clear x0 x1 x2 x3 x4 s0 s1 s2 s3 s4 s5 s6 s7
    have HYa1 : Hid ((y.nums dn 2).b.length ≤ 9400000 ∧ (y.nums dn 2).rests.length ≤ 9201000) := ⟨by have h1 := (y.nums_len dn 2).1; have h2 := HY.out.1; have h3 := F3.out; omega, by rw [(y.nums_len dn 2).2]; have := HY.out.2; omega⟩
    generalize hya : y.nums dn 2 = ya1 at STa1 HYa1
    have HYEa1 := Lib.hid hya
    clear hya ST5
    have x0 : wa1.cell? ⟨w.heap.size, 0, none⟩ = some (.slice s.A0 0 s.c0) := (STa1.out.dc 0).trans rfl
    have x1 : wa1.cell? ⟨w.heap.size, 1, none⟩ = some (.slice s.A1 dh.length s.c1) := (STa1.out.dc 1).trans rfl
    have x2 : wa1.cell? ⟨w.heap.size, 2, none⟩ = some (.slice s.A2 0 s.c2) := (STa1.out.dc 2).trans rfl
    have x3 : wa1.cell? ⟨w.heap.size, 3, none⟩ = some (.slice s.A3 dn.length s.c3) := (STa1.out.dc 3).trans rfl
    have x4 : wa1.cell? ⟨w.heap.size, 4, none⟩ = some (.slice s.A4 0 s.c4) := (STa1.out.dc 4).trans rfl
    have s0 : wa1.cell? ⟨p, 0, none⟩ = some (.int .i64 0) := (STa1.out.shc 0).trans rfl
    have s1 : wa1.cell? ⟨p, 1, none⟩ = some (.bool true) := (STa1.out.shc 1).trans rfl
    have s2 : wa1.cell? ⟨p, 2, none⟩ = some (.bool false) := (STa1.out.shc 2).trans rfl
    have s3 : wa1.cell? ⟨p, 3, none⟩ = some (.bool true) := (STa1.out.shc 3).trans rfl
    have s4 : wa1.cell? ⟨p, 4, none⟩ = some (.int .i64 1) := (STa1.out.shc 4).trans rfl
    have s5 : wa1.cell? ⟨p, 5, none⟩ = some (.int .i64 2) := (STa1.out.shc 5).trans rfl
    have s6 : wa1.cell? ⟨p, 6, none⟩ = some (.bool false) := (STa1.out.shc 6).trans rfl
    have s7 : wa1.cell? ⟨p, 7, none⟩ = some (.bool true) := (STa1.out.shc 7).trans rfl
    go_upto_region 15 with (first
      | (go_at_call 103; refine (name_any wa1 B g Fa1 ya1 s.A1 _ s.c1 dh true STa1.out.W STa1.out.D.h STa1.out.SF (by have := sizeN_length dh; have := F4.out.2; show dh.length ≤ _; omega) STa1.out.D.ch.1 STa1.out.D.ch.2 (by have := HYa1.out.1; omega) (by have := HYa1.out.2; omega)).mono ?_; rw [nameS_sound F4.out]; rintro e wa2 ⟨rfl, Fa2, ha, hca, hFa⟩; have STa2 := Lib.hid (STa1.out.step ha hca hFa); clear ha hca hFa)
      | fail)
    clear x0 x1 x2 x3 x4 s0 s1 s2 s3 s4 s5 s6 s7
    have HYa2 : Hid ((ya1.name dh true).b.length ≤ 9500000 ∧ (ya1.name dh true).rests.length ≤ 9202000) := ⟨by have h1 := Wr.name_le (x := ya1) dh true; have h2 := HYa1.out.1; have h3 := F4.out.2; omega, by have h1 := Wr.name_rests (x := ya1) dh true; have h2 := HYa1.out.2; have h3 := F4.out.2; have h4 := sizeN_length dh; omega⟩
    generalize hya : ya1.name dh true = ya2 at STa2 HYa2
    have HYEa2 := Lib.hid hya
    clear hya STa1
    have x0 : wa2.cell? ⟨w.heap.size, 0, none⟩ = some (.slice s.A0 0 s.c0) := (STa2.out.dc 0).trans rfl
    have x1 : wa2.cell? ⟨w.heap.size, 1, none⟩ = some (.slice s.A1 dh.length s.c1) := (STa2.out.dc 1).trans rfl
    have x2 : wa2.cell? ⟨w.heap.size, 2, none⟩ = some (.slice s.A2 0 s.c2) := (STa2.out.dc 2).trans rfl
    have x3 : wa2.cell? ⟨w.heap.size, 3, none⟩ = some (.slice s.A3 dn.length s.c3) := (STa2.out.dc 3).trans rfl
    have x4 : wa2.cell? ⟨w.heap.size, 4, none⟩ = some (.slice s.A4 0 s.c4) := (STa2.out.dc 4).trans rfl
    have s0 : wa2.cell? ⟨p, 0, none⟩ = some (.int .i64 0) := (STa2.out.shc 0).trans rfl
    have s1 : wa2.cell? ⟨p, 1, none⟩ = some (.bool true) := (STa2.out.shc 1).trans rfl
    have s2 : wa2.cell? ⟨p, 2, none⟩ = some (.bool false) := (STa2.out.shc 2).trans rfl
    have s3 : wa2.cell? ⟨p, 3, none⟩ = some (.bool true) := (STa2.out.shc 3).trans rfl
    have s4 : wa2.cell? ⟨p, 4, none⟩ = some (.int .i64 1) := (STa2.out.shc 4).trans rfl
    have s5 : wa2.cell? ⟨p, 5, none⟩ = some (.int .i64 2) := (STa2.out.shc 5).trans rfl
    have s6 : wa2.cell? ⟨p, 6, none⟩ = some (.bool false) := (STa2.out.shc 6).trans rfl
    have s7 : wa2.cell? ⟨p, 7, none⟩ = some (.bool true) := (STa2.out.shc 7).trans rfl
    go_wp2
    go_ret
    refine PutSt.done STa2.out ?_
    rw [← HYEa2.out, ← HYEa1.out, ← HYE.out]
    rfl

set_option maxHeartbeats 8000000 in
theorem wputS_any (k : Int) (hk : shapeP k = shpS) (hk1 : 1 ≤ k ∧ k ≤ 65535) (w : World) (B g : Nat) (F : Nat → Prop) (x : Wr) (s : DS) (d : Da) (S : Nat → Prop) (hf : FineS shpS d) (h : Wtr w B F g x) (hd : DIn S w s d) (hS : ∀ b, S b → b < w.heap.size ∧ ¬ F b) (hx : x.b.length ≤ 9000000) (hxr : x.rests.length ≤ 9000000) :
    Calls Try.prog 183 #[.pointer (some ⟨g, 0, none⟩), .int .i64 k, dsV s d] w (RetX w B F g (x.data shpS d) (.int .i64 0)) := by
  have HB : Hid (fineB k d = true) := fineB_true ⟨hk1, by rw [hk]; exact hf⟩
  obtain ⟨f1, f2, f3, f4, f5, f6, f7⟩ := hf
  have hsh : ∀ w, Calls Try.prog 156 #[.int .i64 k] w (RetP (fun v _ => v = .agg #[.int .i64 0, .bool true, .bool true, .bool true, .int .i64 5, .int .i64 4, .bool false, .bool false]) w) := fun w => by have h := shapes_any k w; rw [hk] at h; exact h
  have HSH := Lib.hid hsh
  obtain ⟨db, dh, dm, dn, dt⟩ := d
  obtain rfl : db = [] := List.eq_nil_of_length_eq_zero (Int.ofNat_inj.1 (f1 (by decide)))
  obtain rfl : dt = [] := (show dt = [] from f7)
  have F2 : Hid (0 ≤ 65535) := Nat.zero_le _
  have F4 : Hid (SoundN dh) := f4
  have F5 : Hid (SoundN dm) := f5
  have F3 : Hid ((dn.length : Int) = 5) := f3
  have HX := Lib.hid hx
  have HXR := Lib.hid hxr
  have hFl := h.F_lt
  clear f1 f2 f3 f4 f5 f6 f7 hsh hk hx hxr
  rw [show dsV s ⟨[], dh, dm, dn, []⟩ = .agg #[.slice s.A0 0 s.c0, .slice s.A1 dh.length s.c1, .slice s.A2 dm.length s.c2, .slice s.A3 dn.length s.c3, .slice s.A4 0 s.c4] from rfl]
  obtain ⟨w1, hw1⟩ : ∃ w1, w1 = w.alloc (.cells #[.slice s.A0 0 s.c0, .slice s.A1 dh.length s.c1, .slice s.A2 dm.length s.c2, .slice s.A3 dn.length s.c3, .slice s.A4 0 s.c4] 46) := ⟨_, rfl⟩
  have hb1 : Below w.heap.size w w1 := by rw [hw1]; exact bl.alloc (Nat.le_refl _) _
  have hq1 : Hid (w1.heap[w.heap.size]? = some (.cells (dCells s ⟨[], dh, dm, dn, []⟩) 46 (0, 0))) := by show _ = _; rw [hw1]; exact heap_alloc_new w _
  have x0 : w1.cell? ⟨w.heap.size, 0, none⟩ = some (.slice s.A0 0 s.c0) := (cell_of_row _ _ _ _ _ _ hq1.out).trans rfl
  have x1 : w1.cell? ⟨w.heap.size, 1, none⟩ = some (.slice s.A1 dh.length s.c1) := (cell_of_row _ _ _ _ _ _ hq1.out).trans rfl
  have x2 : w1.cell? ⟨w.heap.size, 2, none⟩ = some (.slice s.A2 dm.length s.c2) := (cell_of_row _ _ _ _ _ _ hq1.out).trans rfl
  have x3 : w1.cell? ⟨w.heap.size, 3, none⟩ = some (.slice s.A3 dn.length s.c3) := (cell_of_row _ _ _ _ _ _ hq1.out).trans rfl
  have x4 : w1.cell? ⟨w.heap.size, 4, none⟩ = some (.slice s.A4 0 s.c4) := (cell_of_row _ _ _ _ _ _ hq1.out).trans rfl
  have HD1 := Lib.hid (hd.below hb1 (fun b hb => (hS b hb).1))
  have HW1 := Lib.hid (h.below hb1)
  have HS1 : Hid (∀ b, S b → b < w1.heap.size ∧ ¬ F b) := fun b hb => ⟨Nat.lt_of_lt_of_le (hS b hb).1 hb1.size, (hS b hb).2⟩
  have hsnd : Calls Try.prog 109 #[.int .i64 k, .agg #[.slice s.A0 0 s.c0, .slice s.A1 dh.length s.c1, .slice s.A2 dm.length s.c2, .slice s.A3 dn.length s.c3, .slice s.A4 0 s.c4]] w1 (RetP (fun v _ => v = .bool true) w1) := by
    have h := dsound_any k s ⟨[], dh, dm, dn, []⟩ w1 (HD1.out.rd (fun b hb => (HS1.out b hb).1)) (by have := sizeN_length dh; have := F4.out.2; show dh.length ≤ _; omega) (by have := sizeN_length dm; have := F5.out.2; show dm.length ≤ _; omega) (by have := F3.out; show dn.length ≤ _; omega) (Nat.zero_le _)
    rw [HB.out] at h
    exact h
  have HSND := Lib.hid hsnd
  clear hsnd
  have hqF : ¬ F w.heap.size := fun e => by have := (hFl _ e).2; omega
  have HQF := Lib.hid hqF
  have HFL := Lib.hid hFl
  clear hd h hqF hS hFl
  go_enter Try.func183, Try.ntmps183
  go_upto_region 1 with (fail)
  rw [← hw1]
  clear hw1
  go_upto_region 4 with (first
    | (go_at_call 156; refine (HSH.out w2).mono ?_; rintro e w3 ⟨v3, rfl, rfl, hb3⟩)
    | (go_at_call 109; refine HSND.out.mono ?_; rintro e w2 ⟨v2, rfl, rfl, hb2⟩)
    | fail)
  obtain ⟨w4, hw4⟩ : ∃ w4, w4 = w3.alloc (.cells #[.int .i64 0, .bool true, .bool true, .bool true, .int .i64 5, .int .i64 4, .bool false, .bool false] 182) := ⟨_, rfl⟩
  have hb4 : Below w3.heap.size w3 w4 := by rw [hw4]; exact bl.alloc (Nat.le_refl _) _
  have hs4 : Hid (w4.heap[w3.heap.size]? = some (.cells (shCells shpS) 182 (0, 0))) := by show _ = _; rw [hw4]; exact heap_alloc_new w3 _
  have hb14 : Below w1.heap.size w1 w4 := nx (nx hb2 hb3) hb4
  rw [← hw4]
  have ST4 : Hid (PutSt w w4 B g F F x w.heap.size w3.heap.size S s ⟨[], dh, dm, dn, []⟩ shpS) := ⟨HW1.out.below hb14, Chg.of_below (nx hb1 hb14), fun z hz => .inl hz, (hb14.block _ (Array.getElem?_eq_some_iff.1 hq1.out).1).trans hq1.out, hs4.out, HD1.out.below hb14 (fun b hb => (HS1.out b hb).1), HQF.out, fun e => by have := (HFL.out _ e).2; have := hb1.size; have := hb2.size; have := hb3.size; omega, fun b hb => ⟨Nat.lt_of_lt_of_le (HS1.out b hb).1 hb14.size, (HS1.out b hb).2⟩⟩
  clear hw4 hb4 hs4 hb14 HD1 HW1 HS1 HQF HFL hb1 hb2 hb3 hq1 x0 x1 x2 x3 x4
  generalize w3.heap.size = p at ST4 ⊢
  have x0 : w4.cell? ⟨w.heap.size, 0, none⟩ = some (.slice s.A0 0 s.c0) := (ST4.out.dc 0).trans rfl
  have x1 : w4.cell? ⟨w.heap.size, 1, none⟩ = some (.slice s.A1 dh.length s.c1) := (ST4.out.dc 1).trans rfl
  have x2 : w4.cell? ⟨w.heap.size, 2, none⟩ = some (.slice s.A2 dm.length s.c2) := (ST4.out.dc 2).trans rfl
  have x3 : w4.cell? ⟨w.heap.size, 3, none⟩ = some (.slice s.A3 dn.length s.c3) := (ST4.out.dc 3).trans rfl
  have x4 : w4.cell? ⟨w.heap.size, 4, none⟩ = some (.slice s.A4 0 s.c4) := (ST4.out.dc 4).trans rfl
  have s0 : w4.cell? ⟨p, 0, none⟩ = some (.int .i64 0) := (ST4.out.shc 0).trans rfl
  have s1 : w4.cell? ⟨p, 1, none⟩ = some (.bool true) := (ST4.out.shc 1).trans rfl
  have s2 : w4.cell? ⟨p, 2, none⟩ = some (.bool true) := (ST4.out.shc 2).trans rfl
  have s3 : w4.cell? ⟨p, 3, none⟩ = some (.bool true) := (ST4.out.shc 3).trans rfl
  have s4 : w4.cell? ⟨p, 4, none⟩ = some (.int .i64 5) := (ST4.out.shc 4).trans rfl
  have s5 : w4.cell? ⟨p, 5, none⟩ = some (.int .i64 4) := (ST4.out.shc 5).trans rfl
  have s6 : w4.cell? ⟨p, 6, none⟩ = some (.bool false) := (ST4.out.shc 6).trans rfl
  have s7 : w4.cell? ⟨p, 7, none⟩ = some (.bool false) := (ST4.out.shc 7).trans rfl
  go_upto_region 5 with (first
    | (go_at_call 148; refine (wraw_any w4 B g F x s.A0 0 s.c0 [] ST4.out.W (els_bytes ST4.out.D.b) (by have := HX.out; simp; omega)).mono ?_; rintro e w5 ⟨rfl, F5r, h5, hc5, hF5⟩; have ST5 := Lib.hid (ST4.out.step h5 hc5 hF5); clear h5 hc5 hF5)
    | fail)
  clear x0 x1 x2 x3 x4 s0 s1 s2 s3 s4 s5 s6 s7
  have x0 : w5.cell? ⟨w.heap.size, 0, none⟩ = some (.slice s.A0 0 s.c0) := (ST5.out.dc 0).trans rfl
  have x1 : w5.cell? ⟨w.heap.size, 1, none⟩ = some (.slice s.A1 dh.length s.c1) := (ST5.out.dc 1).trans rfl
  have x2 : w5.cell? ⟨w.heap.size, 2, none⟩ = some (.slice s.A2 dm.length s.c2) := (ST5.out.dc 2).trans rfl
  have x3 : w5.cell? ⟨w.heap.size, 3, none⟩ = some (.slice s.A3 dn.length s.c3) := (ST5.out.dc 3).trans rfl
  have x4 : w5.cell? ⟨w.heap.size, 4, none⟩ = some (.slice s.A4 0 s.c4) := (ST5.out.dc 4).trans rfl
  have s0 : w5.cell? ⟨p, 0, none⟩ = some (.int .i64 0) := (ST5.out.shc 0).trans rfl
  have s1 : w5.cell? ⟨p, 1, none⟩ = some (.bool true) := (ST5.out.shc 1).trans rfl
  have s2 : w5.cell? ⟨p, 2, none⟩ = some (.bool true) := (ST5.out.shc 2).trans rfl
  have s3 : w5.cell? ⟨p, 3, none⟩ = some (.bool true) := (ST5.out.shc 3).trans rfl
  have s4 : w5.cell? ⟨p, 4, none⟩ = some (.int .i64 5) := (ST5.out.shc 4).trans rfl
  have s5 : w5.cell? ⟨p, 5, none⟩ = some (.int .i64 4) := (ST5.out.shc 5).trans rfl
  have s6 : w5.cell? ⟨p, 6, none⟩ = some (.bool false) := (ST5.out.shc 6).trans rfl
  have s7 : w5.cell? ⟨p, 7, none⟩ = some (.bool false) := (ST5.out.shc 7).trans rfl
  have HY : Hid ((x.raw []).b.length ≤ 9100000 ∧ (x.raw []).rests.length ≤ 9000000) := ⟨by have := HX.out; have := F2.out; simp only [Wr.raw, List.length_append] at *; simp; omega, HXR.out⟩
  generalize hy : x.raw [] = y at ST5 HY
  have HYE := Lib.hid hy
  clear hy ST4
  go_wp2
  go_loopw [27] (fun iv wr => iv = .int .i64 0 ∧ wr = w5) (fun _ _ => 0)
  case atStart => exact ⟨rfl, rfl⟩
  case round =>
    obtain ⟨rfl, rfl⟩ := hrel
    go_upto_region 15 with (first
      | (go_at_call 103; refine (name_any wr B g F5r y s.A1 _ s.c1 dh true ST5.out.W ST5.out.D.h ST5.out.SF (by have := sizeN_length dh; have := F4.out.2; show dh.length ≤ _; omega) ST5.out.D.ch.1 ST5.out.D.ch.2 (by have := HY.out.1; omega) (by have := HY.out.2; omega)).mono ?_; rw [nameS_sound F4.out]; rintro e wa1 ⟨rfl, Fa1, ha, hca, hFa⟩; have STa1 := Lib.hid (ST5.out.step ha hca hFa); clear ha hca hFa)
      | fail)
    clear x0 x1 x2 x3 x4 s0 s1 s2 s3 s4 s5 s6 s7
    have HYa1 : Hid ((y.name dh true).b.length ≤ 9400000 ∧ (y.name dh true).rests.length ≤ 9201000) := ⟨by have h1 := Wr.name_le (x := y) dh true; have h2 := HY.out.1; have h3 := F4.out.2; omega, by have h1 := Wr.name_rests (x := y) dh true; have h2 := HY.out.2; have h3 := F4.out.2; have h4 := sizeN_length dh; omega⟩
    generalize hya : y.name dh true = ya1 at STa1 HYa1
    have HYEa1 := Lib.hid hya
    clear hya ST5
    have x0 : wa1.cell? ⟨w.heap.size, 0, none⟩ = some (.slice s.A0 0 s.c0) := (STa1.out.dc 0).trans rfl
    have x1 : wa1.cell? ⟨w.heap.size, 1, none⟩ = some (.slice s.A1 dh.length s.c1) := (STa1.out.dc 1).trans rfl
    have x2 : wa1.cell? ⟨w.heap.size, 2, none⟩ = some (.slice s.A2 dm.length s.c2) := (STa1.out.dc 2).trans rfl
    have x3 : wa1.cell? ⟨w.heap.size, 3, none⟩ = some (.slice s.A3 dn.length s.c3) := (STa1.out.dc 3).trans rfl
    have x4 : wa1.cell? ⟨w.heap.size, 4, none⟩ = some (.slice s.A4 0 s.c4) := (STa1.out.dc 4).trans rfl
    have s0 : wa1.cell? ⟨p, 0, none⟩ = some (.int .i64 0) := (STa1.out.shc 0).trans rfl
    have s1 : wa1.cell? ⟨p, 1, none⟩ = some (.bool true) := (STa1.out.shc 1).trans rfl
    have s2 : wa1.cell? ⟨p, 2, none⟩ = some (.bool true) := (STa1.out.shc 2).trans rfl
    have s3 : wa1.cell? ⟨p, 3, none⟩ = some (.bool true) := (STa1.out.shc 3).trans rfl
    have s4 : wa1.cell? ⟨p, 4, none⟩ = some (.int .i64 5) := (STa1.out.shc 4).trans rfl
    have s5 : wa1.cell? ⟨p, 5, none⟩ = some (.int .i64 4) := (STa1.out.shc 5).trans rfl
    have s6 : wa1.cell? ⟨p, 6, none⟩ = some (.bool false) := (STa1.out.shc 6).trans rfl
    have s7 : wa1.cell? ⟨p, 7, none⟩ = some (.bool false) := (STa1.out.shc 7).trans rfl
    go_upto_region 17 with (first
      | (go_at_call 103; refine (name_any wa1 B g Fa1 ya1 s.A2 _ s.c2 dm true STa1.out.W STa1.out.D.m STa1.out.SF (by have := sizeN_length dm; have := F5.out.2; show dm.length ≤ _; omega) STa1.out.D.cm.1 STa1.out.D.cm.2 (by have := HYa1.out.1; omega) (by have := HYa1.out.2; omega)).mono ?_; rw [nameS_sound F5.out]; rintro e wa2 ⟨rfl, Fa2, ha, hca, hFa⟩; have STa2 := Lib.hid (STa1.out.step ha hca hFa); clear ha hca hFa)
      | fail)
    clear x0 x1 x2 x3 x4 s0 s1 s2 s3 s4 s5 s6 s7
    have HYa2 : Hid ((ya1.name dm true).b.length ≤ 9500000 ∧ (ya1.name dm true).rests.length ≤ 9202000) := ⟨by have h1 := Wr.name_le (x := ya1) dm true; have h2 := HYa1.out.1; have h3 := F5.out.2; omega, by have h1 := Wr.name_rests (x := ya1) dm true; have h2 := HYa1.out.2; have h3 := F5.out.2; have h4 := sizeN_length dm; omega⟩
    generalize hya : ya1.name dm true = ya2 at STa2 HYa2
    have HYEa2 := Lib.hid hya
    clear hya STa1
    have x0 : wa2.cell? ⟨w.heap.size, 0, none⟩ = some (.slice s.A0 0 s.c0) := (STa2.out.dc 0).trans rfl
    have x1 : wa2.cell? ⟨w.heap.size, 1, none⟩ = some (.slice s.A1 dh.length s.c1) := (STa2.out.dc 1).trans rfl
    have x2 : wa2.cell? ⟨w.heap.size, 2, none⟩ = some (.slice s.A2 dm.length s.c2) := (STa2.out.dc 2).trans rfl
    have x3 : wa2.cell? ⟨w.heap.size, 3, none⟩ = some (.slice s.A3 dn.length s.c3) := (STa2.out.dc 3).trans rfl
    have x4 : wa2.cell? ⟨w.heap.size, 4, none⟩ = some (.slice s.A4 0 s.c4) := (STa2.out.dc 4).trans rfl
    have s0 : wa2.cell? ⟨p, 0, none⟩ = some (.int .i64 0) := (STa2.out.shc 0).trans rfl
    have s1 : wa2.cell? ⟨p, 1, none⟩ = some (.bool true) := (STa2.out.shc 1).trans rfl
    have s2 : wa2.cell? ⟨p, 2, none⟩ = some (.bool true) := (STa2.out.shc 2).trans rfl
    have s3 : wa2.cell? ⟨p, 3, none⟩ = some (.bool true) := (STa2.out.shc 3).trans rfl
    have s4 : wa2.cell? ⟨p, 4, none⟩ = some (.int .i64 5) := (STa2.out.shc 4).trans rfl
    have s5 : wa2.cell? ⟨p, 5, none⟩ = some (.int .i64 4) := (STa2.out.shc 5).trans rfl
    have s6 : wa2.cell? ⟨p, 6, none⟩ = some (.bool false) := (STa2.out.shc 6).trans rfl
    have s7 : wa2.cell? ⟨p, 7, none⟩ = some (.bool false) := (STa2.out.shc 7).trans rfl
    go_upto_region 19 with (first
      | (go_at_call 197; refine (wnums_any wa2 B g Fa2 ya2 s.A3 _ s.c3 dn 4 STa2.out.W STa2.out.D.n STa2.out.SF (by have := F3.out; show dn.length ≤ _; omega) (by have := HYa2.out.1; omega)).mono ?_; rintro e wa3 ⟨rfl, Fa3, ha, hca, hFa⟩; have STa3 := Lib.hid (STa2.out.step ha hca hFa); clear ha hca hFa)
      | fail)
    clear x0 x1 x2 x3 x4 s0 s1 s2 s3 s4 s5 s6 s7
    have HYa3 : Hid ((ya2.nums dn 4).b.length ≤ 9600000 ∧ (ya2.nums dn 4).rests.length ≤ 9203000) := ⟨by have h1 := (ya2.nums_len dn 4).1; have h2 := HYa2.out.1; have h3 := F3.out; omega, by rw [(ya2.nums_len dn 4).2]; have := HYa2.out.2; omega⟩
    generalize hya : ya2.nums dn 4 = ya3 at STa3 HYa3
    have HYEa3 := Lib.hid hya
    clear hya STa2
    have x0 : wa3.cell? ⟨w.heap.size, 0, none⟩ = some (.slice s.A0 0 s.c0) := (STa3.out.dc 0).trans rfl
    have x1 : wa3.cell? ⟨w.heap.size, 1, none⟩ = some (.slice s.A1 dh.length s.c1) := (STa3.out.dc 1).trans rfl
    have x2 : wa3.cell? ⟨w.heap.size, 2, none⟩ = some (.slice s.A2 dm.length s.c2) := (STa3.out.dc 2).trans rfl
    have x3 : wa3.cell? ⟨w.heap.size, 3, none⟩ = some (.slice s.A3 dn.length s.c3) := (STa3.out.dc 3).trans rfl
    have x4 : wa3.cell? ⟨w.heap.size, 4, none⟩ = some (.slice s.A4 0 s.c4) := (STa3.out.dc 4).trans rfl
    have s0 : wa3.cell? ⟨p, 0, none⟩ = some (.int .i64 0) := (STa3.out.shc 0).trans rfl
    have s1 : wa3.cell? ⟨p, 1, none⟩ = some (.bool true) := (STa3.out.shc 1).trans rfl
    have s2 : wa3.cell? ⟨p, 2, none⟩ = some (.bool true) := (STa3.out.shc 2).trans rfl
    have s3 : wa3.cell? ⟨p, 3, none⟩ = some (.bool true) := (STa3.out.shc 3).trans rfl
    have s4 : wa3.cell? ⟨p, 4, none⟩ = some (.int .i64 5) := (STa3.out.shc 4).trans rfl
    have s5 : wa3.cell? ⟨p, 5, none⟩ = some (.int .i64 4) := (STa3.out.shc 5).trans rfl
    have s6 : wa3.cell? ⟨p, 6, none⟩ = some (.bool false) := (STa3.out.shc 6).trans rfl
    have s7 : wa3.cell? ⟨p, 7, none⟩ = some (.bool false) := (STa3.out.shc 7).trans rfl
    go_wp2
    go_ret
    refine PutSt.done STa3.out ?_
    rw [← HYEa3.out, ← HYEa2.out, ← HYEa1.out, ← HYE.out]
    rfl

set_option maxHeartbeats 8000000 in
theorem wputV3_any (k : Int) (hk : shapeP k = shpV3) (hk1 : 1 ≤ k ∧ k ≤ 65535) (w : World) (B g : Nat) (F : Nat → Prop) (x : Wr) (s : DS) (d : Da) (S : Nat → Prop) (hf : FineS shpV3 d) (h : Wtr w B F g x) (hd : DIn S w s d) (hS : ∀ b, S b → b < w.heap.size ∧ ¬ F b) (hx : x.b.length ≤ 9000000) (hxr : x.rests.length ≤ 9000000) :
    Calls Try.prog 183 #[.pointer (some ⟨g, 0, none⟩), .int .i64 k, dsV s d] w (RetX w B F g (x.data shpV3 d) (.int .i64 0)) := by
  have HB : Hid (fineB k d = true) := fineB_true ⟨hk1, by rw [hk]; exact hf⟩
  obtain ⟨f1, f2, f3, f4, f5, f6, f7⟩ := hf
  have hsh : ∀ w, Calls Try.prog 156 #[.int .i64 k] w (RetP (fun v _ => v = .agg #[.int .i64 0, .bool true, .bool false, .bool false, .int .i64 3, .int .i64 2, .bool false, .bool true]) w) := fun w => by have h := shapes_any k w; rw [hk] at h; exact h
  have HSH := Lib.hid hsh
  obtain ⟨db, dh, dm, dn, dt⟩ := d
  obtain rfl : db = [] := List.eq_nil_of_length_eq_zero (Int.ofNat_inj.1 (f1 (by decide)))
  obtain rfl : dm = [] := (show dm = [] from f5)
  obtain rfl : dt = [] := (show dt = [] from f7)
  have F2 : Hid (0 ≤ 65535) := Nat.zero_le _
  have F4 : Hid (SoundN dh) := f4
  have F3 : Hid ((dn.length : Int) = 3) := f3
  have HX := Lib.hid hx
  have HXR := Lib.hid hxr
  have hFl := h.F_lt
  clear f1 f2 f3 f4 f5 f6 f7 hsh hk hx hxr
  rw [show dsV s ⟨[], dh, [], dn, []⟩ = .agg #[.slice s.A0 0 s.c0, .slice s.A1 dh.length s.c1, .slice s.A2 0 s.c2, .slice s.A3 dn.length s.c3, .slice s.A4 0 s.c4] from rfl]
  obtain ⟨w1, hw1⟩ : ∃ w1, w1 = w.alloc (.cells #[.slice s.A0 0 s.c0, .slice s.A1 dh.length s.c1, .slice s.A2 0 s.c2, .slice s.A3 dn.length s.c3, .slice s.A4 0 s.c4] 46) := ⟨_, rfl⟩
  have hb1 : Below w.heap.size w w1 := by rw [hw1]; exact bl.alloc (Nat.le_refl _) _
  have hq1 : Hid (w1.heap[w.heap.size]? = some (.cells (dCells s ⟨[], dh, [], dn, []⟩) 46 (0, 0))) := by show _ = _; rw [hw1]; exact heap_alloc_new w _
  have x0 : w1.cell? ⟨w.heap.size, 0, none⟩ = some (.slice s.A0 0 s.c0) := (cell_of_row _ _ _ _ _ _ hq1.out).trans rfl
  have x1 : w1.cell? ⟨w.heap.size, 1, none⟩ = some (.slice s.A1 dh.length s.c1) := (cell_of_row _ _ _ _ _ _ hq1.out).trans rfl
  have x2 : w1.cell? ⟨w.heap.size, 2, none⟩ = some (.slice s.A2 0 s.c2) := (cell_of_row _ _ _ _ _ _ hq1.out).trans rfl
  have x3 : w1.cell? ⟨w.heap.size, 3, none⟩ = some (.slice s.A3 dn.length s.c3) := (cell_of_row _ _ _ _ _ _ hq1.out).trans rfl
  have x4 : w1.cell? ⟨w.heap.size, 4, none⟩ = some (.slice s.A4 0 s.c4) := (cell_of_row _ _ _ _ _ _ hq1.out).trans rfl
  have HD1 := Lib.hid (hd.below hb1 (fun b hb => (hS b hb).1))
  have HW1 := Lib.hid (h.below hb1)
  have HS1 : Hid (∀ b, S b → b < w1.heap.size ∧ ¬ F b) := fun b hb => ⟨Nat.lt_of_lt_of_le (hS b hb).1 hb1.size, (hS b hb).2⟩
  have hsnd : Calls Try.prog 109 #[.int .i64 k, .agg #[.slice s.A0 0 s.c0, .slice s.A1 dh.length s.c1, .slice s.A2 0 s.c2, .slice s.A3 dn.length s.c3, .slice s.A4 0 s.c4]] w1 (RetP (fun v _ => v = .bool true) w1) := by
    have h := dsound_any k s ⟨[], dh, [], dn, []⟩ w1 (HD1.out.rd (fun b hb => (HS1.out b hb).1)) (by have := sizeN_length dh; have := F4.out.2; show dh.length ≤ _; omega) (Nat.zero_le _) (by have := F3.out; show dn.length ≤ _; omega) (Nat.zero_le _)
    rw [HB.out] at h
    exact h
  have HSND := Lib.hid hsnd
  clear hsnd
  have hqF : ¬ F w.heap.size := fun e => by have := (hFl _ e).2; omega
  have HQF := Lib.hid hqF
  have HFL := Lib.hid hFl
  clear hd h hqF hS hFl
  go_enter Try.func183, Try.ntmps183
  go_upto_region 1 with (fail)
  rw [← hw1]
  clear hw1
  go_upto_region 4 with (first
    | (go_at_call 156; refine (HSH.out w2).mono ?_; rintro e w3 ⟨v3, rfl, rfl, hb3⟩)
    | (go_at_call 109; refine HSND.out.mono ?_; rintro e w2 ⟨v2, rfl, rfl, hb2⟩)
    | fail)
  obtain ⟨w4, hw4⟩ : ∃ w4, w4 = w3.alloc (.cells #[.int .i64 0, .bool true, .bool false, .bool false, .int .i64 3, .int .i64 2, .bool false, .bool true] 182) := ⟨_, rfl⟩
  have hb4 : Below w3.heap.size w3 w4 := by rw [hw4]; exact bl.alloc (Nat.le_refl _) _
  have hs4 : Hid (w4.heap[w3.heap.size]? = some (.cells (shCells shpV3) 182 (0, 0))) := by show _ = _; rw [hw4]; exact heap_alloc_new w3 _
  have hb14 : Below w1.heap.size w1 w4 := nx (nx hb2 hb3) hb4
  rw [← hw4]
  have ST4 : Hid (PutSt w w4 B g F F x w.heap.size w3.heap.size S s ⟨[], dh, [], dn, []⟩ shpV3) := ⟨HW1.out.below hb14, Chg.of_below (nx hb1 hb14), fun z hz => .inl hz, (hb14.block _ (Array.getElem?_eq_some_iff.1 hq1.out).1).trans hq1.out, hs4.out, HD1.out.below hb14 (fun b hb => (HS1.out b hb).1), HQF.out, fun e => by have := (HFL.out _ e).2; have := hb1.size; have := hb2.size; have := hb3.size; omega, fun b hb => ⟨Nat.lt_of_lt_of_le (HS1.out b hb).1 hb14.size, (HS1.out b hb).2⟩⟩
  clear hw4 hb4 hs4 hb14 HD1 HW1 HS1 HQF HFL hb1 hb2 hb3 hq1 x0 x1 x2 x3 x4
  generalize w3.heap.size = p at ST4 ⊢
  have x0 : w4.cell? ⟨w.heap.size, 0, none⟩ = some (.slice s.A0 0 s.c0) := (ST4.out.dc 0).trans rfl
  have x1 : w4.cell? ⟨w.heap.size, 1, none⟩ = some (.slice s.A1 dh.length s.c1) := (ST4.out.dc 1).trans rfl
  have x2 : w4.cell? ⟨w.heap.size, 2, none⟩ = some (.slice s.A2 0 s.c2) := (ST4.out.dc 2).trans rfl
  have x3 : w4.cell? ⟨w.heap.size, 3, none⟩ = some (.slice s.A3 dn.length s.c3) := (ST4.out.dc 3).trans rfl
  have x4 : w4.cell? ⟨w.heap.size, 4, none⟩ = some (.slice s.A4 0 s.c4) := (ST4.out.dc 4).trans rfl
  have s0 : w4.cell? ⟨p, 0, none⟩ = some (.int .i64 0) := (ST4.out.shc 0).trans rfl
  have s1 : w4.cell? ⟨p, 1, none⟩ = some (.bool true) := (ST4.out.shc 1).trans rfl
  have s2 : w4.cell? ⟨p, 2, none⟩ = some (.bool false) := (ST4.out.shc 2).trans rfl
  have s3 : w4.cell? ⟨p, 3, none⟩ = some (.bool false) := (ST4.out.shc 3).trans rfl
  have s4 : w4.cell? ⟨p, 4, none⟩ = some (.int .i64 3) := (ST4.out.shc 4).trans rfl
  have s5 : w4.cell? ⟨p, 5, none⟩ = some (.int .i64 2) := (ST4.out.shc 5).trans rfl
  have s6 : w4.cell? ⟨p, 6, none⟩ = some (.bool false) := (ST4.out.shc 6).trans rfl
  have s7 : w4.cell? ⟨p, 7, none⟩ = some (.bool true) := (ST4.out.shc 7).trans rfl
  go_upto_region 5 with (first
    | (go_at_call 148; refine (wraw_any w4 B g F x s.A0 0 s.c0 [] ST4.out.W (els_bytes ST4.out.D.b) (by have := HX.out; simp; omega)).mono ?_; rintro e w5 ⟨rfl, F5r, h5, hc5, hF5⟩; have ST5 := Lib.hid (ST4.out.step h5 hc5 hF5); clear h5 hc5 hF5)
    | fail)
  clear x0 x1 x2 x3 x4 s0 s1 s2 s3 s4 s5 s6 s7
  have x0 : w5.cell? ⟨w.heap.size, 0, none⟩ = some (.slice s.A0 0 s.c0) := (ST5.out.dc 0).trans rfl
  have x1 : w5.cell? ⟨w.heap.size, 1, none⟩ = some (.slice s.A1 dh.length s.c1) := (ST5.out.dc 1).trans rfl
  have x2 : w5.cell? ⟨w.heap.size, 2, none⟩ = some (.slice s.A2 0 s.c2) := (ST5.out.dc 2).trans rfl
  have x3 : w5.cell? ⟨w.heap.size, 3, none⟩ = some (.slice s.A3 dn.length s.c3) := (ST5.out.dc 3).trans rfl
  have x4 : w5.cell? ⟨w.heap.size, 4, none⟩ = some (.slice s.A4 0 s.c4) := (ST5.out.dc 4).trans rfl
  have s0 : w5.cell? ⟨p, 0, none⟩ = some (.int .i64 0) := (ST5.out.shc 0).trans rfl
  have s1 : w5.cell? ⟨p, 1, none⟩ = some (.bool true) := (ST5.out.shc 1).trans rfl
  have s2 : w5.cell? ⟨p, 2, none⟩ = some (.bool false) := (ST5.out.shc 2).trans rfl
  have s3 : w5.cell? ⟨p, 3, none⟩ = some (.bool false) := (ST5.out.shc 3).trans rfl
  have s4 : w5.cell? ⟨p, 4, none⟩ = some (.int .i64 3) := (ST5.out.shc 4).trans rfl
  have s5 : w5.cell? ⟨p, 5, none⟩ = some (.int .i64 2) := (ST5.out.shc 5).trans rfl
  have s6 : w5.cell? ⟨p, 6, none⟩ = some (.bool false) := (ST5.out.shc 6).trans rfl
  have s7 : w5.cell? ⟨p, 7, none⟩ = some (.bool true) := (ST5.out.shc 7).trans rfl
  have HY : Hid ((x.raw []).b.length ≤ 9100000 ∧ (x.raw []).rests.length ≤ 9000000) := ⟨by have := HX.out; have := F2.out; simp only [Wr.raw, List.length_append] at *; simp; omega, HXR.out⟩
  generalize hy : x.raw [] = y at ST5 HY
  have HYE := Lib.hid hy
  clear hy ST4
  go_wp2
  go_loopw [27] (fun iv wr => iv = .int .i64 0 ∧ wr = w5) (fun _ _ => 0)
  case atStart => exact ⟨rfl, rfl⟩
  case round =>
    obtain ⟨rfl, rfl⟩ := hrel
    go_upto_region 13 with (first
      | (go_at_call 197; refine (wnums_any wr B g F5r y s.A3 _ s.c3 dn 2 ST5.out.W ST5.out.D.n ST5.out.SF (by have := F3.out; show dn.length ≤ _; omega) (by have := HY.out.1; omega)).mono ?_; rintro e wa1 ⟨rfl, Fa1, ha, hca, hFa⟩; have STa1 := Lib.hid (ST5.out.step ha hca hFa); clear ha hca hFa)
      | fail)
    clear x0 x1 x2 x3 x4 s0 s1 s2 s3 s4 s5 s6 s7
    have HYa1 : Hid ((y.nums dn 2).b.length ≤ 9400000 ∧ (y.nums dn 2).rests.length ≤ 9201000) := ⟨by have h1 := (y.nums_len dn 2).1; have h2 := HY.out.1; have h3 := F3.out; omega, by rw [(y.nums_len dn 2).2]; have := HY.out.2; omega⟩
    generalize hya : y.nums dn 2 = ya1 at STa1 HYa1
    have HYEa1 := Lib.hid hya
    clear hya ST5
    have x0 : wa1.cell? ⟨w.heap.size, 0, none⟩ = some (.slice s.A0 0 s.c0) := (STa1.out.dc 0).trans rfl
    have x1 : wa1.cell? ⟨w.heap.size, 1, none⟩ = some (.slice s.A1 dh.length s.c1) := (STa1.out.dc 1).trans rfl
    have x2 : wa1.cell? ⟨w.heap.size, 2, none⟩ = some (.slice s.A2 0 s.c2) := (STa1.out.dc 2).trans rfl
    have x3 : wa1.cell? ⟨w.heap.size, 3, none⟩ = some (.slice s.A3 dn.length s.c3) := (STa1.out.dc 3).trans rfl
    have x4 : wa1.cell? ⟨w.heap.size, 4, none⟩ = some (.slice s.A4 0 s.c4) := (STa1.out.dc 4).trans rfl
    have s0 : wa1.cell? ⟨p, 0, none⟩ = some (.int .i64 0) := (STa1.out.shc 0).trans rfl
    have s1 : wa1.cell? ⟨p, 1, none⟩ = some (.bool true) := (STa1.out.shc 1).trans rfl
    have s2 : wa1.cell? ⟨p, 2, none⟩ = some (.bool false) := (STa1.out.shc 2).trans rfl
    have s3 : wa1.cell? ⟨p, 3, none⟩ = some (.bool false) := (STa1.out.shc 3).trans rfl
    have s4 : wa1.cell? ⟨p, 4, none⟩ = some (.int .i64 3) := (STa1.out.shc 4).trans rfl
    have s5 : wa1.cell? ⟨p, 5, none⟩ = some (.int .i64 2) := (STa1.out.shc 5).trans rfl
    have s6 : wa1.cell? ⟨p, 6, none⟩ = some (.bool false) := (STa1.out.shc 6).trans rfl
    have s7 : wa1.cell? ⟨p, 7, none⟩ = some (.bool true) := (STa1.out.shc 7).trans rfl
    go_upto_region 15 with (first
      | (go_at_call 103; refine (name_any wa1 B g Fa1 ya1 s.A1 _ s.c1 dh false STa1.out.W STa1.out.D.h STa1.out.SF (by have := sizeN_length dh; have := F4.out.2; show dh.length ≤ _; omega) STa1.out.D.ch.1 STa1.out.D.ch.2 (by have := HYa1.out.1; omega) (by have := HYa1.out.2; omega)).mono ?_; rw [nameS_sound F4.out]; rintro e wa2 ⟨rfl, Fa2, ha, hca, hFa⟩; have STa2 := Lib.hid (STa1.out.step ha hca hFa); clear ha hca hFa)
      | fail)
    clear x0 x1 x2 x3 x4 s0 s1 s2 s3 s4 s5 s6 s7
    have HYa2 : Hid ((ya1.name dh false).b.length ≤ 9500000 ∧ (ya1.name dh false).rests.length ≤ 9202000) := ⟨by have h1 := Wr.name_le (x := ya1) dh false; have h2 := HYa1.out.1; have h3 := F4.out.2; omega, by have h1 := Wr.name_rests (x := ya1) dh false; have h2 := HYa1.out.2; have h3 := F4.out.2; have h4 := sizeN_length dh; omega⟩
    generalize hya : ya1.name dh false = ya2 at STa2 HYa2
    have HYEa2 := Lib.hid hya
    clear hya STa1
    have x0 : wa2.cell? ⟨w.heap.size, 0, none⟩ = some (.slice s.A0 0 s.c0) := (STa2.out.dc 0).trans rfl
    have x1 : wa2.cell? ⟨w.heap.size, 1, none⟩ = some (.slice s.A1 dh.length s.c1) := (STa2.out.dc 1).trans rfl
    have x2 : wa2.cell? ⟨w.heap.size, 2, none⟩ = some (.slice s.A2 0 s.c2) := (STa2.out.dc 2).trans rfl
    have x3 : wa2.cell? ⟨w.heap.size, 3, none⟩ = some (.slice s.A3 dn.length s.c3) := (STa2.out.dc 3).trans rfl
    have x4 : wa2.cell? ⟨w.heap.size, 4, none⟩ = some (.slice s.A4 0 s.c4) := (STa2.out.dc 4).trans rfl
    have s0 : wa2.cell? ⟨p, 0, none⟩ = some (.int .i64 0) := (STa2.out.shc 0).trans rfl
    have s1 : wa2.cell? ⟨p, 1, none⟩ = some (.bool true) := (STa2.out.shc 1).trans rfl
    have s2 : wa2.cell? ⟨p, 2, none⟩ = some (.bool false) := (STa2.out.shc 2).trans rfl
    have s3 : wa2.cell? ⟨p, 3, none⟩ = some (.bool false) := (STa2.out.shc 3).trans rfl
    have s4 : wa2.cell? ⟨p, 4, none⟩ = some (.int .i64 3) := (STa2.out.shc 4).trans rfl
    have s5 : wa2.cell? ⟨p, 5, none⟩ = some (.int .i64 2) := (STa2.out.shc 5).trans rfl
    have s6 : wa2.cell? ⟨p, 6, none⟩ = some (.bool false) := (STa2.out.shc 6).trans rfl
    have s7 : wa2.cell? ⟨p, 7, none⟩ = some (.bool true) := (STa2.out.shc 7).trans rfl
    go_wp2
    go_ret
    refine PutSt.done STa2.out ?_
    rw [← HYEa2.out, ← HYEa1.out, ← HYE.out]
    rfl

set_option maxHeartbeats 8000000 in
theorem wputT_any (k : Int) (hk : shapeP k = shpT) (hk1 : 1 ≤ k ∧ k ≤ 65535) (w : World) (B g : Nat) (F : Nat → Prop) (x : Wr) (s : DS) (d : Da) (S : Nat → Prop) (hf : FineS shpT d) (h : Wtr w B F g x) (hd : DIn S w s d) (hS : ∀ b, S b → b < w.heap.size ∧ ¬ F b) (hx : x.b.length ≤ 9000000) (hxr : x.rests.length ≤ 9000000) :
    Calls Try.prog 183 #[.pointer (some ⟨g, 0, none⟩), .int .i64 k, dsV s d] w (RetX w B F g (x.data shpT d) (.int .i64 0)) := by
  have HB : Hid (fineB k d = true) := fineB_true ⟨hk1, by rw [hk]; exact hf⟩
  obtain ⟨f1, f2, f3, f4, f5, f6, f7⟩ := hf
  have hsh : ∀ w, Calls Try.prog 156 #[.int .i64 k] w (RetP (fun v _ => v = .agg #[.int .i64 0, .bool false, .bool false, .bool false, .int .i64 0, .int .i64 0, .bool true, .bool false]) w) := fun w => by have h := shapes_any k w; rw [hk] at h; exact h
  have HSH := Lib.hid hsh
  obtain ⟨db, dh, dm, dn, dt⟩ := d
  obtain rfl : db = [] := List.eq_nil_of_length_eq_zero (Int.ofNat_inj.1 (f1 (by decide)))
  obtain rfl : dn = [] := List.eq_nil_of_length_eq_zero (Int.ofNat_inj.1 f3)
  obtain rfl : dh = [] := (show dh = [] from f4)
  obtain rfl : dm = [] := (show dm = [] from f5)
  have F2 : Hid (0 ≤ 65535) := Nat.zero_le _
  have F7 : Hid (1 ≤ dt.length ∧ dt.length ≤ 64 ∧ ∀ l ∈ dt, l.length ≤ 255) := f7
  have HX := Lib.hid hx
  have HXR := Lib.hid hxr
  have hFl := h.F_lt
  clear f1 f2 f3 f4 f5 f6 f7 hsh hk hx hxr
  rw [show dsV s ⟨[], [], [], [], dt⟩ = .agg #[.slice s.A0 0 s.c0, .slice s.A1 0 s.c1, .slice s.A2 0 s.c2, .slice s.A3 0 s.c3, .slice s.A4 dt.length s.c4] from rfl]
  obtain ⟨w1, hw1⟩ : ∃ w1, w1 = w.alloc (.cells #[.slice s.A0 0 s.c0, .slice s.A1 0 s.c1, .slice s.A2 0 s.c2, .slice s.A3 0 s.c3, .slice s.A4 dt.length s.c4] 46) := ⟨_, rfl⟩
  have hb1 : Below w.heap.size w w1 := by rw [hw1]; exact bl.alloc (Nat.le_refl _) _
  have hq1 : Hid (w1.heap[w.heap.size]? = some (.cells (dCells s ⟨[], [], [], [], dt⟩) 46 (0, 0))) := by show _ = _; rw [hw1]; exact heap_alloc_new w _
  have x0 : w1.cell? ⟨w.heap.size, 0, none⟩ = some (.slice s.A0 0 s.c0) := (cell_of_row _ _ _ _ _ _ hq1.out).trans rfl
  have x1 : w1.cell? ⟨w.heap.size, 1, none⟩ = some (.slice s.A1 0 s.c1) := (cell_of_row _ _ _ _ _ _ hq1.out).trans rfl
  have x2 : w1.cell? ⟨w.heap.size, 2, none⟩ = some (.slice s.A2 0 s.c2) := (cell_of_row _ _ _ _ _ _ hq1.out).trans rfl
  have x3 : w1.cell? ⟨w.heap.size, 3, none⟩ = some (.slice s.A3 0 s.c3) := (cell_of_row _ _ _ _ _ _ hq1.out).trans rfl
  have x4 : w1.cell? ⟨w.heap.size, 4, none⟩ = some (.slice s.A4 dt.length s.c4) := (cell_of_row _ _ _ _ _ _ hq1.out).trans rfl
  have HD1 := Lib.hid (hd.below hb1 (fun b hb => (hS b hb).1))
  have HW1 := Lib.hid (h.below hb1)
  have HS1 : Hid (∀ b, S b → b < w1.heap.size ∧ ¬ F b) := fun b hb => ⟨Nat.lt_of_lt_of_le (hS b hb).1 hb1.size, (hS b hb).2⟩
  have hsnd : Calls Try.prog 109 #[.int .i64 k, .agg #[.slice s.A0 0 s.c0, .slice s.A1 0 s.c1, .slice s.A2 0 s.c2, .slice s.A3 0 s.c3, .slice s.A4 dt.length s.c4]] w1 (RetP (fun v _ => v = .bool true) w1) := by
    have h := dsound_any k s ⟨[], [], [], [], dt⟩ w1 (HD1.out.rd (fun b hb => (HS1.out b hb).1)) (Nat.zero_le _) (Nat.zero_le _) (Nat.zero_le _) (by have := F7.out.2.1; show dt.length ≤ _; omega)
    rw [HB.out] at h
    exact h
  have HSND := Lib.hid hsnd
  clear hsnd
  have hqF : ¬ F w.heap.size := fun e => by have := (hFl _ e).2; omega
  have HQF := Lib.hid hqF
  have HFL := Lib.hid hFl
  clear hd h hqF hS hFl
  go_enter Try.func183, Try.ntmps183
  go_upto_region 1 with (fail)
  rw [← hw1]
  clear hw1
  go_upto_region 4 with (first
    | (go_at_call 156; refine (HSH.out w2).mono ?_; rintro e w3 ⟨v3, rfl, rfl, hb3⟩)
    | (go_at_call 109; refine HSND.out.mono ?_; rintro e w2 ⟨v2, rfl, rfl, hb2⟩)
    | fail)
  obtain ⟨w4, hw4⟩ : ∃ w4, w4 = w3.alloc (.cells #[.int .i64 0, .bool false, .bool false, .bool false, .int .i64 0, .int .i64 0, .bool true, .bool false] 182) := ⟨_, rfl⟩
  have hb4 : Below w3.heap.size w3 w4 := by rw [hw4]; exact bl.alloc (Nat.le_refl _) _
  have hs4 : Hid (w4.heap[w3.heap.size]? = some (.cells (shCells shpT) 182 (0, 0))) := by show _ = _; rw [hw4]; exact heap_alloc_new w3 _
  have hb14 : Below w1.heap.size w1 w4 := nx (nx hb2 hb3) hb4
  rw [← hw4]
  have ST4 : Hid (PutSt w w4 B g F F x w.heap.size w3.heap.size S s ⟨[], [], [], [], dt⟩ shpT) := ⟨HW1.out.below hb14, Chg.of_below (nx hb1 hb14), fun z hz => .inl hz, (hb14.block _ (Array.getElem?_eq_some_iff.1 hq1.out).1).trans hq1.out, hs4.out, HD1.out.below hb14 (fun b hb => (HS1.out b hb).1), HQF.out, fun e => by have := (HFL.out _ e).2; have := hb1.size; have := hb2.size; have := hb3.size; omega, fun b hb => ⟨Nat.lt_of_lt_of_le (HS1.out b hb).1 hb14.size, (HS1.out b hb).2⟩⟩
  clear hw4 hb4 hs4 hb14 HD1 HW1 HS1 HQF HFL hb1 hb2 hb3 hq1 x0 x1 x2 x3 x4
  generalize w3.heap.size = p at ST4 ⊢
  have x0 : w4.cell? ⟨w.heap.size, 0, none⟩ = some (.slice s.A0 0 s.c0) := (ST4.out.dc 0).trans rfl
  have x1 : w4.cell? ⟨w.heap.size, 1, none⟩ = some (.slice s.A1 0 s.c1) := (ST4.out.dc 1).trans rfl
  have x2 : w4.cell? ⟨w.heap.size, 2, none⟩ = some (.slice s.A2 0 s.c2) := (ST4.out.dc 2).trans rfl
  have x3 : w4.cell? ⟨w.heap.size, 3, none⟩ = some (.slice s.A3 0 s.c3) := (ST4.out.dc 3).trans rfl
  have x4 : w4.cell? ⟨w.heap.size, 4, none⟩ = some (.slice s.A4 dt.length s.c4) := (ST4.out.dc 4).trans rfl
  have s0 : w4.cell? ⟨p, 0, none⟩ = some (.int .i64 0) := (ST4.out.shc 0).trans rfl
  have s1 : w4.cell? ⟨p, 1, none⟩ = some (.bool false) := (ST4.out.shc 1).trans rfl
  have s2 : w4.cell? ⟨p, 2, none⟩ = some (.bool false) := (ST4.out.shc 2).trans rfl
  have s3 : w4.cell? ⟨p, 3, none⟩ = some (.bool false) := (ST4.out.shc 3).trans rfl
  have s4 : w4.cell? ⟨p, 4, none⟩ = some (.int .i64 0) := (ST4.out.shc 4).trans rfl
  have s5 : w4.cell? ⟨p, 5, none⟩ = some (.int .i64 0) := (ST4.out.shc 5).trans rfl
  have s6 : w4.cell? ⟨p, 6, none⟩ = some (.bool true) := (ST4.out.shc 6).trans rfl
  have s7 : w4.cell? ⟨p, 7, none⟩ = some (.bool false) := (ST4.out.shc 7).trans rfl
  go_upto_region 5 with (first
    | (go_at_call 148; refine (wraw_any w4 B g F x s.A0 0 s.c0 [] ST4.out.W (els_bytes ST4.out.D.b) (by have := HX.out; simp; omega)).mono ?_; rintro e w5 ⟨rfl, F5r, h5, hc5, hF5⟩; have ST5 := Lib.hid (ST4.out.step h5 hc5 hF5); clear h5 hc5 hF5)
    | fail)
  clear x0 x1 x2 x3 x4 s0 s1 s2 s3 s4 s5 s6 s7
  have x0 : w5.cell? ⟨w.heap.size, 0, none⟩ = some (.slice s.A0 0 s.c0) := (ST5.out.dc 0).trans rfl
  have x1 : w5.cell? ⟨w.heap.size, 1, none⟩ = some (.slice s.A1 0 s.c1) := (ST5.out.dc 1).trans rfl
  have x2 : w5.cell? ⟨w.heap.size, 2, none⟩ = some (.slice s.A2 0 s.c2) := (ST5.out.dc 2).trans rfl
  have x3 : w5.cell? ⟨w.heap.size, 3, none⟩ = some (.slice s.A3 0 s.c3) := (ST5.out.dc 3).trans rfl
  have x4 : w5.cell? ⟨w.heap.size, 4, none⟩ = some (.slice s.A4 dt.length s.c4) := (ST5.out.dc 4).trans rfl
  have s0 : w5.cell? ⟨p, 0, none⟩ = some (.int .i64 0) := (ST5.out.shc 0).trans rfl
  have s1 : w5.cell? ⟨p, 1, none⟩ = some (.bool false) := (ST5.out.shc 1).trans rfl
  have s2 : w5.cell? ⟨p, 2, none⟩ = some (.bool false) := (ST5.out.shc 2).trans rfl
  have s3 : w5.cell? ⟨p, 3, none⟩ = some (.bool false) := (ST5.out.shc 3).trans rfl
  have s4 : w5.cell? ⟨p, 4, none⟩ = some (.int .i64 0) := (ST5.out.shc 4).trans rfl
  have s5 : w5.cell? ⟨p, 5, none⟩ = some (.int .i64 0) := (ST5.out.shc 5).trans rfl
  have s6 : w5.cell? ⟨p, 6, none⟩ = some (.bool true) := (ST5.out.shc 6).trans rfl
  have s7 : w5.cell? ⟨p, 7, none⟩ = some (.bool false) := (ST5.out.shc 7).trans rfl
  have HY : Hid ((x.raw []).b.length ≤ 9100000 ∧ (x.raw []).rests.length ≤ 9000000) := ⟨by have := HX.out; have := F2.out; simp only [Wr.raw, List.length_append] at *; simp; omega, HXR.out⟩
  generalize hy : x.raw [] = y at ST5 HY
  have HYE := Lib.hid hy
  clear hy ST4
  go_wp2
  clear x0 x1 x2 x3 x4 s0 s1 s2 s3 s4 s5 s6 s7
  have HT0 : Hid (∀ j, j ≤ dt.length → (y.texts (dt.take j)).b.length ≤ 9200000) := fun j hj => by have h1 := (y.texts_len (dt.take j) 255 (fun t ht => F7.out.2.2 t (List.mem_of_mem_take ht))).1; rw [List.length_take] at h1; have h2 := HY.out.1; have h3 := F7.out.2.1; have h4 : min j dt.length ≤ 64 := (by omega); have h5 : (7 + 255) * min j dt.length ≤ (7 + 255) * 64 := Nat.mul_le_mul_left _ h4; omega
  have hdl : dt.length ≤ 64 := F7.out.2.1
  go_loopw [27] (fun iv wr => ∃ (j : Nat) (Fr : Nat → Prop), iv = .int .i64 j ∧ j ≤ dt.length ∧ Hid (PutSt w wr B g F Fr (y.texts (dt.take j)) w.heap.size p S s ⟨[], [], [], [], dt⟩ shpT)) (fun iv _ => dt.length - (intOf iv).toNat)
  case atStart => exact ⟨0, F5r, rfl, Nat.zero_le _, ST5⟩
  case round =>
    clear ST5
    obtain ⟨j, Fr, rfl, hj, STJ⟩ := hrel
    by_cases hlt : j < dt.length
    · obtain ⟨l, hl⟩ : ∃ l, dt[j]? = some l := ⟨_, List.getElem?_eq_getElem hlt⟩
      obtain ⟨bb, off, hA, _, hcell, _⟩ := strs_at STJ.out.D.t hl
      have HL := Lib.hid hl
      have hll := F7.out.2.2 l (List.mem_of_getElem? hl)
      have HLL := Lib.hid hll
      have hbs := bstr_size l
      have HTK : Hid (y.texts (dt.take (j + 1)) = ((y.texts (dt.take j)).raw (putB [] l.length 1)).raw l) := by show _ = _; rw [List.take_add_one, HL.out]; exact Wr.texts_snoc _ _ _
      have hpl := putB_len l.length 1
      have HPL := Lib.hid hpl
      have hcb := fun W : World => Lib.run_convert_string_bytes (P := Try.prog) W 9 22 5 (bstr l) Try.underlying9 Try.underlying22 Try.underlying5
      rw [hA]
      clear hl hll hpl
      go_wp2_with (first
        | (go_at_call 148; refine (wraw_any _ B g F7r _ _ _ _ l ST8.out.W hr8 (by have := HT0.out j hj; have := HPL.out; have := HLL.out; simp only [Wr.raw, List.length_append]; omega)).mono ?_; rintro e w9 ⟨rfl, F9r, h9, hc9, hF9⟩; have ST9 := Lib.hid (ST8.out.step h9 hc9 hF9); clear h9 hc9 hF9)
        | (go_at_call 101; refine (wnum_any wr B g Fr _ l.length 1 STJ.out.W (by have := HT0.out j hj; omega)).mono ?_; rintro e w7 ⟨rfl, F7r, h7, hc7, hF7⟩; have ST7 := Lib.hid (STJ.out.step h7 hc7 hF7); have hr8 := (conv_rd w7 l).1; have ST8 := Lib.hid (ST7.out.below (conv_rd w7 l).2); clear h7 hc7 hF7)
        | fail)
      rw [← HTK.out] at ST9
      go_roundw
      case rel => exact ⟨j + 1, F9r, by go_num, by omega, ST9⟩
      case measure => simp [intOf]; omega
    · obtain rfl : j = dt.length := by omega
      have STK := STJ.out
      rw [List.take_length] at STK
      have STL := Lib.hid STK
      clear STK STJ
      have x0 : wr.cell? ⟨w.heap.size, 0, none⟩ = some (.slice s.A0 0 s.c0) := (STL.out.dc 0).trans rfl
      have x1 : wr.cell? ⟨w.heap.size, 1, none⟩ = some (.slice s.A1 0 s.c1) := (STL.out.dc 1).trans rfl
      have x2 : wr.cell? ⟨w.heap.size, 2, none⟩ = some (.slice s.A2 0 s.c2) := (STL.out.dc 2).trans rfl
      have x3 : wr.cell? ⟨w.heap.size, 3, none⟩ = some (.slice s.A3 0 s.c3) := (STL.out.dc 3).trans rfl
      have x4 : wr.cell? ⟨w.heap.size, 4, none⟩ = some (.slice s.A4 dt.length s.c4) := (STL.out.dc 4).trans rfl
      have s0 : wr.cell? ⟨p, 0, none⟩ = some (.int .i64 0) := (STL.out.shc 0).trans rfl
      have s1 : wr.cell? ⟨p, 1, none⟩ = some (.bool false) := (STL.out.shc 1).trans rfl
      have s2 : wr.cell? ⟨p, 2, none⟩ = some (.bool false) := (STL.out.shc 2).trans rfl
      have s3 : wr.cell? ⟨p, 3, none⟩ = some (.bool false) := (STL.out.shc 3).trans rfl
      have s4 : wr.cell? ⟨p, 4, none⟩ = some (.int .i64 0) := (STL.out.shc 4).trans rfl
      have s5 : wr.cell? ⟨p, 5, none⟩ = some (.int .i64 0) := (STL.out.shc 5).trans rfl
      have s6 : wr.cell? ⟨p, 6, none⟩ = some (.bool true) := (STL.out.shc 6).trans rfl
      have s7 : wr.cell? ⟨p, 7, none⟩ = some (.bool false) := (STL.out.shc 7).trans rfl
      have HY2 : Hid ((y.texts dt).b.length ≤ 9200000 ∧ (y.texts dt).rests.length ≤ 9000000) := ⟨by have := HT0.out dt.length (Nat.le_refl _); rw [List.take_length] at this; exact this, by rw [(y.texts_len dt 255 F7.out.2.2).2]; exact HY.out.2⟩
      generalize hy2 : y.texts dt = y2 at STL HY2
      have HYE2 := Lib.hid hy2
      clear hy2
      go_upto_region 19 with (first
        | (go_at_call 197; refine (wnums_any wr B g Fr y2 s.A3 _ s.c3 [] 0 STL.out.W STL.out.D.n STL.out.SF (Nat.zero_le _) (by have := HY2.out.1; omega)).mono ?_; rintro e wa1 ⟨rfl, Fa1, ha, hca, hFa⟩; have STa1 := Lib.hid (STL.out.step ha hca hFa); clear ha hca hFa)
        | fail)
      clear x0 x1 x2 x3 x4 s0 s1 s2 s3 s4 s5 s6 s7
      have HYa1 : Hid ((y2.nums [] 0).b.length ≤ 9400000 ∧ (y2.nums [] 0).rests.length ≤ 9201000) := ⟨by have h2 := HY2.out.1; show y2.b.length ≤ _; omega, by have := HY2.out.2; show y2.rests.length ≤ _; omega⟩
      generalize hya : y2.nums [] 0 = ya1 at STa1 HYa1
      have HYEa1 := Lib.hid hya
      clear hya STL
      have x0 : wa1.cell? ⟨w.heap.size, 0, none⟩ = some (.slice s.A0 0 s.c0) := (STa1.out.dc 0).trans rfl
      have x1 : wa1.cell? ⟨w.heap.size, 1, none⟩ = some (.slice s.A1 0 s.c1) := (STa1.out.dc 1).trans rfl
      have x2 : wa1.cell? ⟨w.heap.size, 2, none⟩ = some (.slice s.A2 0 s.c2) := (STa1.out.dc 2).trans rfl
      have x3 : wa1.cell? ⟨w.heap.size, 3, none⟩ = some (.slice s.A3 0 s.c3) := (STa1.out.dc 3).trans rfl
      have x4 : wa1.cell? ⟨w.heap.size, 4, none⟩ = some (.slice s.A4 dt.length s.c4) := (STa1.out.dc 4).trans rfl
      have s0 : wa1.cell? ⟨p, 0, none⟩ = some (.int .i64 0) := (STa1.out.shc 0).trans rfl
      have s1 : wa1.cell? ⟨p, 1, none⟩ = some (.bool false) := (STa1.out.shc 1).trans rfl
      have s2 : wa1.cell? ⟨p, 2, none⟩ = some (.bool false) := (STa1.out.shc 2).trans rfl
      have s3 : wa1.cell? ⟨p, 3, none⟩ = some (.bool false) := (STa1.out.shc 3).trans rfl
      have s4 : wa1.cell? ⟨p, 4, none⟩ = some (.int .i64 0) := (STa1.out.shc 4).trans rfl
      have s5 : wa1.cell? ⟨p, 5, none⟩ = some (.int .i64 0) := (STa1.out.shc 5).trans rfl
      have s6 : wa1.cell? ⟨p, 6, none⟩ = some (.bool true) := (STa1.out.shc 6).trans rfl
      have s7 : wa1.cell? ⟨p, 7, none⟩ = some (.bool false) := (STa1.out.shc 7).trans rfl
      go_wp2
      go_ret
      refine PutSt.done STa1.out ?_
      rw [← HYEa1.out, ← HYE2.out, ← HYE.out]
      rfl

set_option maxHeartbeats 8000000 in
theorem wputB_any (k : Int) (hk : shapeP k = shpB) (hk1 : 1 ≤ k ∧ k ≤ 65535) (w : World) (B g : Nat) (F : Nat → Prop) (x : Wr) (s : DS) (d : Da) (S : Nat → Prop) (hf : FineS shpB d) (h : Wtr w B F g x) (hd : DIn S w s d) (hS : ∀ b, S b → b < w.heap.size ∧ ¬ F b) (hx : x.b.length ≤ 9000000) (hxr : x.rests.length ≤ 9000000) :
    Calls Try.prog 183 #[.pointer (some ⟨g, 0, none⟩), .int .i64 k, dsV s d] w (RetX w B F g (x.data shpB d) (.int .i64 0)) := by
  have HB : Hid (fineB k d = true) := fineB_true ⟨hk1, by rw [hk]; exact hf⟩
  obtain ⟨f1, f2, f3, f4, f5, f6, f7⟩ := hf
  have hsh : ∀ w, Calls Try.prog 156 #[.int .i64 k] w (RetP (fun v _ => v = .agg #[.int .i64 (-1), .bool false, .bool false, .bool false, .int .i64 0, .int .i64 0, .bool false, .bool false]) w) := fun w => by have h := shapes_any k w; rw [hk] at h; exact h
  have HSH := Lib.hid hsh
  obtain ⟨db, dh, dm, dn, dt⟩ := d
  obtain rfl : dn = [] := List.eq_nil_of_length_eq_zero (Int.ofNat_inj.1 f3)
  obtain rfl : dh = [] := (show dh = [] from f4)
  obtain rfl : dm = [] := (show dm = [] from f5)
  obtain rfl : dt = [] := (show dt = [] from f7)
  have F2 : Hid (db.length ≤ 65535) := f2
  have HX := Lib.hid hx
  have HXR := Lib.hid hxr
  have hFl := h.F_lt
  clear f1 f2 f3 f4 f5 f6 f7 hsh hk hx hxr
  rw [show dsV s ⟨db, [], [], [], []⟩ = .agg #[.slice s.A0 db.length s.c0, .slice s.A1 0 s.c1, .slice s.A2 0 s.c2, .slice s.A3 0 s.c3, .slice s.A4 0 s.c4] from rfl]
  obtain ⟨w1, hw1⟩ : ∃ w1, w1 = w.alloc (.cells #[.slice s.A0 db.length s.c0, .slice s.A1 0 s.c1, .slice s.A2 0 s.c2, .slice s.A3 0 s.c3, .slice s.A4 0 s.c4] 46) := ⟨_, rfl⟩
  have hb1 : Below w.heap.size w w1 := by rw [hw1]; exact bl.alloc (Nat.le_refl _) _
  have hq1 : Hid (w1.heap[w.heap.size]? = some (.cells (dCells s ⟨db, [], [], [], []⟩) 46 (0, 0))) := by show _ = _; rw [hw1]; exact heap_alloc_new w _
  have x0 : w1.cell? ⟨w.heap.size, 0, none⟩ = some (.slice s.A0 db.length s.c0) := (cell_of_row _ _ _ _ _ _ hq1.out).trans rfl
  have x1 : w1.cell? ⟨w.heap.size, 1, none⟩ = some (.slice s.A1 0 s.c1) := (cell_of_row _ _ _ _ _ _ hq1.out).trans rfl
  have x2 : w1.cell? ⟨w.heap.size, 2, none⟩ = some (.slice s.A2 0 s.c2) := (cell_of_row _ _ _ _ _ _ hq1.out).trans rfl
  have x3 : w1.cell? ⟨w.heap.size, 3, none⟩ = some (.slice s.A3 0 s.c3) := (cell_of_row _ _ _ _ _ _ hq1.out).trans rfl
  have x4 : w1.cell? ⟨w.heap.size, 4, none⟩ = some (.slice s.A4 0 s.c4) := (cell_of_row _ _ _ _ _ _ hq1.out).trans rfl
  have HD1 := Lib.hid (hd.below hb1 (fun b hb => (hS b hb).1))
  have HW1 := Lib.hid (h.below hb1)
  have HS1 : Hid (∀ b, S b → b < w1.heap.size ∧ ¬ F b) := fun b hb => ⟨Nat.lt_of_lt_of_le (hS b hb).1 hb1.size, (hS b hb).2⟩
  have hsnd : Calls Try.prog 109 #[.int .i64 k, .agg #[.slice s.A0 db.length s.c0, .slice s.A1 0 s.c1, .slice s.A2 0 s.c2, .slice s.A3 0 s.c3, .slice s.A4 0 s.c4]] w1 (RetP (fun v _ => v = .bool true) w1) := by
    have h := dsound_any k s ⟨db, [], [], [], []⟩ w1 (HD1.out.rd (fun b hb => (HS1.out b hb).1)) (Nat.zero_le _) (Nat.zero_le _) (Nat.zero_le _) (Nat.zero_le _)
    rw [HB.out] at h
    exact h
  have HSND := Lib.hid hsnd
  clear hsnd
  have hqF : ¬ F w.heap.size := fun e => by have := (hFl _ e).2; omega
  have HQF := Lib.hid hqF
  have HFL := Lib.hid hFl
  clear hd h hqF hS hFl
  go_enter Try.func183, Try.ntmps183
  go_upto_region 1 with (fail)
  rw [← hw1]
  clear hw1
  go_upto_region 4 with (first
    | (go_at_call 156; refine (HSH.out w2).mono ?_; rintro e w3 ⟨v3, rfl, rfl, hb3⟩)
    | (go_at_call 109; refine HSND.out.mono ?_; rintro e w2 ⟨v2, rfl, rfl, hb2⟩)
    | fail)
  obtain ⟨w4, hw4⟩ : ∃ w4, w4 = w3.alloc (.cells #[.int .i64 (-1), .bool false, .bool false, .bool false, .int .i64 0, .int .i64 0, .bool false, .bool false] 182) := ⟨_, rfl⟩
  have hb4 : Below w3.heap.size w3 w4 := by rw [hw4]; exact bl.alloc (Nat.le_refl _) _
  have hs4 : Hid (w4.heap[w3.heap.size]? = some (.cells (shCells shpB) 182 (0, 0))) := by show _ = _; rw [hw4]; exact heap_alloc_new w3 _
  have hb14 : Below w1.heap.size w1 w4 := nx (nx hb2 hb3) hb4
  rw [← hw4]
  have ST4 : Hid (PutSt w w4 B g F F x w.heap.size w3.heap.size S s ⟨db, [], [], [], []⟩ shpB) := ⟨HW1.out.below hb14, Chg.of_below (nx hb1 hb14), fun z hz => .inl hz, (hb14.block _ (Array.getElem?_eq_some_iff.1 hq1.out).1).trans hq1.out, hs4.out, HD1.out.below hb14 (fun b hb => (HS1.out b hb).1), HQF.out, fun e => by have := (HFL.out _ e).2; have := hb1.size; have := hb2.size; have := hb3.size; omega, fun b hb => ⟨Nat.lt_of_lt_of_le (HS1.out b hb).1 hb14.size, (HS1.out b hb).2⟩⟩
  clear hw4 hb4 hs4 hb14 HD1 HW1 HS1 HQF HFL hb1 hb2 hb3 hq1 x0 x1 x2 x3 x4
  generalize w3.heap.size = p at ST4 ⊢
  have x0 : w4.cell? ⟨w.heap.size, 0, none⟩ = some (.slice s.A0 db.length s.c0) := (ST4.out.dc 0).trans rfl
  have x1 : w4.cell? ⟨w.heap.size, 1, none⟩ = some (.slice s.A1 0 s.c1) := (ST4.out.dc 1).trans rfl
  have x2 : w4.cell? ⟨w.heap.size, 2, none⟩ = some (.slice s.A2 0 s.c2) := (ST4.out.dc 2).trans rfl
  have x3 : w4.cell? ⟨w.heap.size, 3, none⟩ = some (.slice s.A3 0 s.c3) := (ST4.out.dc 3).trans rfl
  have x4 : w4.cell? ⟨w.heap.size, 4, none⟩ = some (.slice s.A4 0 s.c4) := (ST4.out.dc 4).trans rfl
  have s0 : w4.cell? ⟨p, 0, none⟩ = some (.int .i64 (-1)) := (ST4.out.shc 0).trans rfl
  have s1 : w4.cell? ⟨p, 1, none⟩ = some (.bool false) := (ST4.out.shc 1).trans rfl
  have s2 : w4.cell? ⟨p, 2, none⟩ = some (.bool false) := (ST4.out.shc 2).trans rfl
  have s3 : w4.cell? ⟨p, 3, none⟩ = some (.bool false) := (ST4.out.shc 3).trans rfl
  have s4 : w4.cell? ⟨p, 4, none⟩ = some (.int .i64 0) := (ST4.out.shc 4).trans rfl
  have s5 : w4.cell? ⟨p, 5, none⟩ = some (.int .i64 0) := (ST4.out.shc 5).trans rfl
  have s6 : w4.cell? ⟨p, 6, none⟩ = some (.bool false) := (ST4.out.shc 6).trans rfl
  have s7 : w4.cell? ⟨p, 7, none⟩ = some (.bool false) := (ST4.out.shc 7).trans rfl
  go_upto_region 5 with (first
    | (go_at_call 148; refine (wraw_any w4 B g F x s.A0 db.length s.c0 db ST4.out.W (els_bytes ST4.out.D.b) (by have := HX.out; have := F2.out; omega)).mono ?_; rintro e w5 ⟨rfl, F5r, h5, hc5, hF5⟩; have ST5 := Lib.hid (ST4.out.step h5 hc5 hF5); clear h5 hc5 hF5)
    | fail)
  clear x0 x1 x2 x3 x4 s0 s1 s2 s3 s4 s5 s6 s7
  have x0 : w5.cell? ⟨w.heap.size, 0, none⟩ = some (.slice s.A0 db.length s.c0) := (ST5.out.dc 0).trans rfl
  have x1 : w5.cell? ⟨w.heap.size, 1, none⟩ = some (.slice s.A1 0 s.c1) := (ST5.out.dc 1).trans rfl
  have x2 : w5.cell? ⟨w.heap.size, 2, none⟩ = some (.slice s.A2 0 s.c2) := (ST5.out.dc 2).trans rfl
  have x3 : w5.cell? ⟨w.heap.size, 3, none⟩ = some (.slice s.A3 0 s.c3) := (ST5.out.dc 3).trans rfl
  have x4 : w5.cell? ⟨w.heap.size, 4, none⟩ = some (.slice s.A4 0 s.c4) := (ST5.out.dc 4).trans rfl
  have s0 : w5.cell? ⟨p, 0, none⟩ = some (.int .i64 (-1)) := (ST5.out.shc 0).trans rfl
  have s1 : w5.cell? ⟨p, 1, none⟩ = some (.bool false) := (ST5.out.shc 1).trans rfl
  have s2 : w5.cell? ⟨p, 2, none⟩ = some (.bool false) := (ST5.out.shc 2).trans rfl
  have s3 : w5.cell? ⟨p, 3, none⟩ = some (.bool false) := (ST5.out.shc 3).trans rfl
  have s4 : w5.cell? ⟨p, 4, none⟩ = some (.int .i64 0) := (ST5.out.shc 4).trans rfl
  have s5 : w5.cell? ⟨p, 5, none⟩ = some (.int .i64 0) := (ST5.out.shc 5).trans rfl
  have s6 : w5.cell? ⟨p, 6, none⟩ = some (.bool false) := (ST5.out.shc 6).trans rfl
  have s7 : w5.cell? ⟨p, 7, none⟩ = some (.bool false) := (ST5.out.shc 7).trans rfl
  have HY : Hid ((x.raw db).b.length ≤ 9100000 ∧ (x.raw db).rests.length ≤ 9000000) := ⟨by have := HX.out; have := F2.out; simp only [Wr.raw, List.length_append] at *; omega, HXR.out⟩
  generalize hy : x.raw db = y at ST5 HY
  have HYE := Lib.hid hy
  clear hy ST4
  go_wp2
  go_loopw [27] (fun iv wr => iv = .int .i64 0 ∧ wr = w5) (fun _ _ => 0)
  case atStart => exact ⟨rfl, rfl⟩
  case round =>
    obtain ⟨rfl, rfl⟩ := hrel
    go_upto_region 19 with (first
      | (go_at_call 197; refine (wnums_any wr B g F5r y s.A3 _ s.c3 [] 0 ST5.out.W ST5.out.D.n ST5.out.SF (Nat.zero_le _) (by have := HY.out.1; omega)).mono ?_; rintro e wa1 ⟨rfl, Fa1, ha, hca, hFa⟩; have STa1 := Lib.hid (ST5.out.step ha hca hFa); clear ha hca hFa)
      | fail)
    clear x0 x1 x2 x3 x4 s0 s1 s2 s3 s4 s5 s6 s7
    have HYa1 : Hid ((y.nums [] 0).b.length ≤ 9400000 ∧ (y.nums [] 0).rests.length ≤ 9201000) := ⟨by have h2 := HY.out.1; show y.b.length ≤ _; omega, by have := HY.out.2; show y.rests.length ≤ _; omega⟩
    generalize hya : y.nums [] 0 = ya1 at STa1 HYa1
    have HYEa1 := Lib.hid hya
    clear hya ST5
    have x0 : wa1.cell? ⟨w.heap.size, 0, none⟩ = some (.slice s.A0 db.length s.c0) := (STa1.out.dc 0).trans rfl
    have x1 : wa1.cell? ⟨w.heap.size, 1, none⟩ = some (.slice s.A1 0 s.c1) := (STa1.out.dc 1).trans rfl
    have x2 : wa1.cell? ⟨w.heap.size, 2, none⟩ = some (.slice s.A2 0 s.c2) := (STa1.out.dc 2).trans rfl
    have x3 : wa1.cell? ⟨w.heap.size, 3, none⟩ = some (.slice s.A3 0 s.c3) := (STa1.out.dc 3).trans rfl
    have x4 : wa1.cell? ⟨w.heap.size, 4, none⟩ = some (.slice s.A4 0 s.c4) := (STa1.out.dc 4).trans rfl
    have s0 : wa1.cell? ⟨p, 0, none⟩ = some (.int .i64 (-1)) := (STa1.out.shc 0).trans rfl
    have s1 : wa1.cell? ⟨p, 1, none⟩ = some (.bool false) := (STa1.out.shc 1).trans rfl
    have s2 : wa1.cell? ⟨p, 2, none⟩ = some (.bool false) := (STa1.out.shc 2).trans rfl
    have s3 : wa1.cell? ⟨p, 3, none⟩ = some (.bool false) := (STa1.out.shc 3).trans rfl
    have s4 : wa1.cell? ⟨p, 4, none⟩ = some (.int .i64 0) := (STa1.out.shc 4).trans rfl
    have s5 : wa1.cell? ⟨p, 5, none⟩ = some (.int .i64 0) := (STa1.out.shc 5).trans rfl
    have s6 : wa1.cell? ⟨p, 6, none⟩ = some (.bool false) := (STa1.out.shc 6).trans rfl
    have s7 : wa1.cell? ⟨p, 7, none⟩ = some (.bool false) := (STa1.out.shc 7).trans rfl
    go_wp2
    go_ret
    refine PutSt.done STa1.out ?_
    rw [← HYEa1.out, ← HYE.out]
    rfl

theorem dput_any (k : Int) (w : World) (B g : Nat) (F : Nat → Prop) (x : Wr) (s : DS) (d : Da) (S : Nat → Prop) (hf : FineD k d) (h : Wtr w B F g x) (hd : DIn S w s d) (hS : ∀ b, S b → b < w.heap.size ∧ ¬ F b) (hx : x.b.length ≤ 9000000) (hxr : x.rests.length ≤ 9000000) :
    Calls Try.prog 183 #[.pointer (some ⟨g, 0, none⟩), .int .i64 k, dsV s d] w (RetX w B F g (x.data (shapeP k) d) (.int .i64 0)) := by
  obtain ⟨hk, hs⟩ := hf
  rcases shape_cases k with e | e | e | e | e | e | e | e
  · rw [e] at hs ⊢; exact wputA_any k e hk w B g F x s d S hs h hd hS hx hxr
  · rw [e] at hs ⊢; exact wputQ_any k e hk w B g F x s d S hs h hd hS hx hxr
  · rw [e] at hs ⊢; exact wputN_any k e hk w B g F x s d S hs h hd hS hx hxr
  · rw [e] at hs ⊢; exact wputM_any k e hk w B g F x s d S hs h hd hS hx hxr
  · rw [e] at hs ⊢; exact wputS_any k e hk w B g F x s d S hs h hd hS hx hxr
  · rw [e] at hs ⊢; exact wputV3_any k e hk w B g F x s d S hs h hd hS hx hxr
  · rw [e] at hs ⊢; exact wputT_any k e hk w B g F x s d S hs h hd hS hx hxr
  · rw [e] at hs ⊢; exact wputB_any k e hk w B g F x s d S hs h hd hS hx hxr
end Go.Proofs.Ytimkdpkhdbiniaa
