/- Parts of a proof, joined: Law06H. -/
import Derived.Test.YtbjaphldncagjaaM19
import Derived.Test.YtbjaphldncagjaaM17
import Derived.Test.YtbjaphldncagjaaM18
/- MsgShort: the law's walk. -/
namespace Go.Proofs.Ytbjaphldncagjaa
open Go.RowKit
set_option maxRecDepth 100000

theorem textsN_mono (ts : List (List UInt8)) (k : Nat) : textsN (ts.take k) ≤ textsN ts := by
  have h : textsN (ts.take k ++ ts.drop k) = textsN (ts.take k) + textsN (ts.drop k) := by unfold textsN; rw [List.map_append, List.sum_append]
  rw [List.take_append_drop] at h
  omega
def shS (g : Nat) (A : Option Addr) (c : Nat) : MS := ⟨some ⟨g, 0, none⟩, 1, A, c, none, 0, none, 0⟩
theorem sh_in {S : Nat → Prop} {w : World} {s : QS} {q : Qu} {A : Option Addr} {c : Nat} {l : List RR} (h : QIn S w s q) (hS : ∀ b, S b → b < w.heap.size) (hl : RdE encRR w A l.length l) (hc : l.length ≤ c ∧ c ≤ maxLen) : MIn (ltS (w.alloc (.cells (qCells s q) 42))) (w.alloc (.cells (qCells s q) 42)) (shS w.heap.size A c) (shM q l) :=
  ⟨one_qu h hS, hl.below (bl.alloc (Nat.le_refl _) _), Els.nil _ _ _ _ _, Els.nil _ _ _ _ _, ⟨Nat.le_refl _, show (1 : Nat) ≤ maxLen by decide⟩, hc, ⟨Nat.le_refl _, Nat.zero_le _⟩, ⟨Nat.le_refl _, Nat.zero_le _⟩, ⟨show (-9223372036854775808 : Int) ≤ 0 by decide, show (0 : Int) ≤ 9223372036854775807 by decide⟩, ⟨show (-9223372036854775808 : Int) ≤ 0 by decide, show (0 : Int) ≤ 9223372036854775807 by decide⟩, ⟨show (-9223372036854775808 : Int) ≤ 0 by decide, show (0 : Int) ≤ 9223372036854775807 by decide⟩, ⟨show (-9223372036854775808 : Int) ≤ 0 by decide, show (0 : Int) ≤ 9223372036854775807 by decide⟩⟩

set_option maxHeartbeats 4000000 in
theorem msgShort_heavy (s : QS) (q : Qu) (A : Option Addr) (c : Nat) (l : List RR) (w : World) (hq : QIn (ltS w) w s q) (hl : RdE encRR w A l.length l) (hc : l.length ≤ c ∧ c ≤ maxLen) (hlen : l.length * 168 ≤ 140737488355328) (hby : ∀ r ∈ (shM q l).an ++ (shM q l).au ++ (shM q l).ex, r.data.bytes.length ≤ 140737488355328) (hh : ¬ LtMsg6 (shM q l)) :
    Calls Try.prog 5 #[quV s q, .slice A l.length c] w (LawT w) := by
  obtain ⟨w1, hw1⟩ : ∃ w1, w1 = w.alloc (.cells (qCells s q) 42) := ⟨_, rfl⟩
  have hb1 : Below w.heap.size w w1 := by rw [hw1]; exact bl.alloc (Nat.le_refl _) _
  have HQR : Hid (QRow w1 w.heap.size s q) := by show QRow _ _ _ _; rw [hw1]; exact QRow.made w s q
  have hq1 := hq.below hb1 (fun b hb => hb)
  have hS1 : ∀ b, ltS w b → b < w1.heap.size := fun b hb => Nat.lt_of_lt_of_le hb hb1.size
  obtain ⟨w2, hw2⟩ : ∃ w2, w2 = w1.alloc (.cells (qCells s q) 42) := ⟨_, rfl⟩
  have hb2 : Below w1.heap.size w1 w2 := by rw [hw2]; exact bl.alloc (Nat.le_refl _) _
  have hmi : MIn (ltS w2) w2 (shS w1.heap.size A c) (shM q l) := by rw [hw2]; exact sh_in hq1 hS1 (hl.below hb1) hc
  obtain ⟨w3, hw3⟩ : ∃ w3, w3 = w2.alloc (.cells (mCells (shS w1.heap.size A c) (shM q l)) 33) := ⟨_, rfl⟩
  have hb3 : Below w2.heap.size w2 w3 := by rw [hw3]; exact bl.alloc (Nat.le_refl _) _
  have HMR : Hid (MRow w3 w2.heap.size (shS w1.heap.size A c) (shM q l)) := by show MRow _ _ _ _; rw [hw3]; exact MRow.made w2 _ _
  have HIW : Hid (∀ w', Below w3.heap.size w3 w' → MIn (ltS w2) w' (shS w1.heap.size A c) (shM q l)) := fun w' hw => (hmi.below hb3 (fun b hb => hb)).below hw (fun b hb => Nat.lt_of_lt_of_le hb hb3.size)
  have HSW : Hid (∀ w', Below w3.heap.size w3 w' → ∀ b, ltS w2 b → b < w'.heap.size) := fun w' hw b hb => Nat.lt_of_lt_of_le (Nat.lt_of_lt_of_le hb hb3.size) hw.size
  have HBW : Hid (Below w.heap.size w w3) := nx (nx hb1 hb2) hb3
  have HBX : Hid (Below w1.heap.size w1 w3) := nx hb2 hb3
  have HBQ : Hid (w.heap.size ≤ w1.heap.size) := hb1.size
  have HQ3 : Hid (QRow w3 w.heap.size s q) := (HQR.out.below hb2).below hb3
  have HLT := Lib.hid (fun w4 (hw : Below w3.heap.size w3 w4) => light06_any _ (shM q l) w4 (HIW.out w4 hw) (HSW.out w4 hw) (by show 1 ≤ _; decide) (by show (l.length + 0 + 0) * 168 ≤ _; exact hlen) hby)
  have hz2 : w2.heap.size = w1.heap.size + 1 := by rw [hw2]; simp
  have HK : Hid (∀ w', Below w3.heap.size w3 w' → w'.cell? ⟨w1.heap.size + 1, 0, none⟩ = some (.int .i64 0) ∧ w'.cell? ⟨w1.heap.size + 1, 1, none⟩ = some (.bool true) ∧ w'.cell? ⟨w1.heap.size + 1, 2, none⟩ = some (.int .i64 0) ∧ w'.cell? ⟨w1.heap.size + 1, 3, none⟩ = some (.bool false) ∧ w'.cell? ⟨w1.heap.size + 1, 4, none⟩ = some (.bool false) ∧ w'.cell? ⟨w1.heap.size + 1, 5, none⟩ = some (.bool false) ∧ w'.cell? ⟨w1.heap.size + 1, 6, none⟩ = some (.bool false) ∧ w'.cell? ⟨w1.heap.size + 1, 7, none⟩ = some (.int .i64 0) ∧ w'.cell? ⟨w1.heap.size + 1, 8, none⟩ = some (.slice (some ⟨w1.heap.size, 0, none⟩) 1 1) ∧ w'.cell? ⟨w1.heap.size + 1, 9, none⟩ = some (.slice A l.length c) ∧ w'.cell? ⟨w1.heap.size + 1, 10, none⟩ = some (.slice none 0 0) ∧ w'.cell? ⟨w1.heap.size + 1, 11, none⟩ = some (.slice none 0 0) ∧ w'.cell? ⟨w1.heap.size + 1, 12, none⟩ = some (.bool false) ∧ w'.cell? ⟨w1.heap.size + 1, 13, none⟩ = some (.int .i64 0)) := fun w' hw => by have h := (HMR.out.below hw).cells; rw [hz2] at h; exact h
  have hw3' : w3 = w2.alloc (.cells #[.int .i64 0, .bool true, .int .i64 0, .bool false, .bool false, .bool false, .bool false, .int .i64 0, .slice (some ⟨w1.heap.size, 0, none⟩) 1 1, .slice A l.length c, .slice none 0 0, .slice none 0 0, .bool false, .int .i64 0] 33) := hw3
  have HRL3 : Hid (RdE encRR w3 A l.length l) := ((hl.below hb1).below hb2).below hb3
  have HLV := Lib.hid (ltM6_no hh)
  have HLTX : Hid (∀ w4, Below w3.heap.size w3 w4 → Calls Try.prog 19 #[.agg #[.int .i64 0, .bool true, .int .i64 0, .bool false, .bool false, .bool false, .bool false, .int .i64 0, .slice (some ⟨w1.heap.size, 0, none⟩) 1 1, .slice A l.length c, .slice none 0 0, .slice none 0 0, .bool false, .int .i64 0]] w4 (RetP (fun v _ => v = .bool false) w4)) := fun w4 hw => by have h := HLT.out w4 hw; rw [HLV.out] at h; exact h
  clear hh HLT
  clear hq hl hc hlen hby hb1 hq1 hS1 hb2 hmi hw3 hb3 hz2
  unfold quV
  unfold qCells at hw1 hw2
  go_enter Try.func5, Try.ntmps5
  go_upto_region 1 with (fail)
  rw [← hw1]
  clear hw1
  obtain ⟨x0, x1, x2⟩ := HQR.out.cells
  go_upto_region 2 with (fail)
  rw [← hw2, ← hw3']
  clear hw2 hw3' x0 x1 x2
  go_wp2_with (first
    | (go_at_call 18; refine (answers06_any w5).mono ?_; rintro e w6 ⟨rfl, hb6⟩)
    | (go_at_call 19; refine (HLTX.out w4 hb4).mono ?_; rintro e w5 ⟨v5, rfl, rfl, hb5⟩)
    | (go_at_call 18; refine (answers06_any w3).mono ?_; rintro e w4 ⟨rfl, hb4⟩; obtain ⟨z0, z1, z2, z3, z4, z5, z6, z7, z8, z9, z10, z11, z12, z13⟩ := HK.out w4 hb4)
    | fail)
  go_ret
  exact ⟨rfl, nx (nx (nx HBW.out hb4) hb5) hb6⟩

set_option maxHeartbeats 4000000 in
theorem msgShort_none (s : QS) (q : Qu) (A : Option Addr) (c : Nat) (l : List RR) (w : World) (hq : QIn (ltS w) w s q) (hl : RdE encRR w A l.length l) (hc : l.length ≤ c ∧ c ≤ maxLen) (hlen : l.length * 168 ≤ 140737488355328) (hby : ∀ r ∈ (shM q l).an ++ (shM q l).au ++ (shM q l).ex, r.data.bytes.length ≤ 140737488355328) (hlt : LtMsg6 (shM q l)) (hf : ¬ FineM (shM q l)) :
    Calls Try.prog 5 #[quV s q, .slice A l.length c] w (LawT w) := by
  obtain ⟨w1, hw1⟩ : ∃ w1, w1 = w.alloc (.cells (qCells s q) 42) := ⟨_, rfl⟩
  have hb1 : Below w.heap.size w w1 := by rw [hw1]; exact bl.alloc (Nat.le_refl _) _
  have HQR : Hid (QRow w1 w.heap.size s q) := by show QRow _ _ _ _; rw [hw1]; exact QRow.made w s q
  have hq1 := hq.below hb1 (fun b hb => hb)
  have hS1 : ∀ b, ltS w b → b < w1.heap.size := fun b hb => Nat.lt_of_lt_of_le hb hb1.size
  obtain ⟨w2, hw2⟩ : ∃ w2, w2 = w1.alloc (.cells (qCells s q) 42) := ⟨_, rfl⟩
  have hb2 : Below w1.heap.size w1 w2 := by rw [hw2]; exact bl.alloc (Nat.le_refl _) _
  have hmi : MIn (ltS w2) w2 (shS w1.heap.size A c) (shM q l) := by rw [hw2]; exact sh_in hq1 hS1 (hl.below hb1) hc
  obtain ⟨w3, hw3⟩ : ∃ w3, w3 = w2.alloc (.cells (mCells (shS w1.heap.size A c) (shM q l)) 33) := ⟨_, rfl⟩
  have hb3 : Below w2.heap.size w2 w3 := by rw [hw3]; exact bl.alloc (Nat.le_refl _) _
  have HMR : Hid (MRow w3 w2.heap.size (shS w1.heap.size A c) (shM q l)) := by show MRow _ _ _ _; rw [hw3]; exact MRow.made w2 _ _
  have HIW : Hid (∀ w', Below w3.heap.size w3 w' → MIn (ltS w2) w' (shS w1.heap.size A c) (shM q l)) := fun w' hw => (hmi.below hb3 (fun b hb => hb)).below hw (fun b hb => Nat.lt_of_lt_of_le hb hb3.size)
  have HSW : Hid (∀ w', Below w3.heap.size w3 w' → ∀ b, ltS w2 b → b < w'.heap.size) := fun w' hw b hb => Nat.lt_of_lt_of_le (Nat.lt_of_lt_of_le hb hb3.size) hw.size
  have HBW : Hid (Below w.heap.size w w3) := nx (nx hb1 hb2) hb3
  have HBX : Hid (Below w1.heap.size w1 w3) := nx hb2 hb3
  have HBQ : Hid (w.heap.size ≤ w1.heap.size) := hb1.size
  have HQ3 : Hid (QRow w3 w.heap.size s q) := (HQR.out.below hb2).below hb3
  have HLT := Lib.hid (fun w4 (hw : Below w3.heap.size w3 w4) => light06_any _ (shM q l) w4 (HIW.out w4 hw) (HSW.out w4 hw) (by show 1 ≤ _; decide) (by show (l.length + 0 + 0) * 168 ≤ _; exact hlen) hby)
  have hz2 : w2.heap.size = w1.heap.size + 1 := by rw [hw2]; simp
  have HK : Hid (∀ w', Below w3.heap.size w3 w' → w'.cell? ⟨w1.heap.size + 1, 0, none⟩ = some (.int .i64 0) ∧ w'.cell? ⟨w1.heap.size + 1, 1, none⟩ = some (.bool true) ∧ w'.cell? ⟨w1.heap.size + 1, 2, none⟩ = some (.int .i64 0) ∧ w'.cell? ⟨w1.heap.size + 1, 3, none⟩ = some (.bool false) ∧ w'.cell? ⟨w1.heap.size + 1, 4, none⟩ = some (.bool false) ∧ w'.cell? ⟨w1.heap.size + 1, 5, none⟩ = some (.bool false) ∧ w'.cell? ⟨w1.heap.size + 1, 6, none⟩ = some (.bool false) ∧ w'.cell? ⟨w1.heap.size + 1, 7, none⟩ = some (.int .i64 0) ∧ w'.cell? ⟨w1.heap.size + 1, 8, none⟩ = some (.slice (some ⟨w1.heap.size, 0, none⟩) 1 1) ∧ w'.cell? ⟨w1.heap.size + 1, 9, none⟩ = some (.slice A l.length c) ∧ w'.cell? ⟨w1.heap.size + 1, 10, none⟩ = some (.slice none 0 0) ∧ w'.cell? ⟨w1.heap.size + 1, 11, none⟩ = some (.slice none 0 0) ∧ w'.cell? ⟨w1.heap.size + 1, 12, none⟩ = some (.bool false) ∧ w'.cell? ⟨w1.heap.size + 1, 13, none⟩ = some (.int .i64 0)) := fun w' hw => by have h := (HMR.out.below hw).cells; rw [hz2] at h; exact h
  have hw3' : w3 = w2.alloc (.cells #[.int .i64 0, .bool true, .int .i64 0, .bool false, .bool false, .bool false, .bool false, .int .i64 0, .slice (some ⟨w1.heap.size, 0, none⟩) 1 1, .slice A l.length c, .slice none 0 0, .slice none 0 0, .bool false, .int .i64 0] 33) := hw3
  have HRL3 : Hid (RdE encRR w3 A l.length l) := ((hl.below hb1).below hb2).below hb3
  have HLV := Lib.hid (ltM6_yes hlt)
  have HL := Lib.hid hlt.ltM
  have HFV := Lib.hid (fineM_no hf)
  have HLTX : Hid (∀ w4, Below w3.heap.size w3 w4 → Calls Try.prog 19 #[.agg #[.int .i64 0, .bool true, .int .i64 0, .bool false, .bool false, .bool false, .bool false, .int .i64 0, .slice (some ⟨w1.heap.size, 0, none⟩) 1 1, .slice A l.length c, .slice none 0 0, .slice none 0 0, .bool false, .int .i64 0]] w4 (RetP (fun v _ => v = .bool true) w4)) := fun w4 hw => by have h := HLT.out w4 hw; rw [HLV.out] at h; exact h
  have HRMX : Hid (∀ w4, Below w3.heap.size w3 w4 → Calls Try.prog 24 #[.agg #[.int .i64 0, .bool true, .int .i64 0, .bool false, .bool false, .bool false, .bool false, .int .i64 0, .slice (some ⟨w1.heap.size, 0, none⟩) 1 1, .slice A l.length c, .slice none 0 0, .slice none 0 0, .bool false, .int .i64 0]] w4 (RetP (fun v _ => v = .bool false) w4)) := fun w4 hw => by have h := rMsg_any _ (shM q l) w4 (HIW.out w4 hw) (HSW.out w4 hw) HL.out; rw [HFV.out] at h; exact h
  clear hlt hf HLT
  clear hq hl hc hlen hby hb1 hq1 hS1 hb2 hmi hw3 hb3 hz2
  unfold quV
  unfold qCells at hw1 hw2
  go_enter Try.func5, Try.ntmps5
  go_upto_region 1 with (fail)
  rw [← hw1]
  clear hw1
  obtain ⟨x0, x1, x2⟩ := HQR.out.cells
  go_upto_region 2 with (fail)
  rw [← hw2, ← hw3']
  clear hw2 hw3' x0 x1 x2
  go_wp2_with (first
    | (go_at_call 18; refine (answers06_any w6).mono ?_; rintro e w7 ⟨rfl, hb7⟩)
    | (go_at_call 24; refine (HRMX.out w5 (nx hb4 hb5)).mono ?_; rintro e w6 ⟨v6, rfl, rfl, hb6⟩)
    | (go_at_call 19; refine (HLTX.out w4 hb4).mono ?_; rintro e w5 ⟨v5, rfl, rfl, hb5⟩; obtain ⟨y0, y1, y2, y3, y4, y5, y6, y7, y8, y9, y10, y11, y12, y13⟩ := HK.out w5 (nx hb4 hb5))
    | (go_at_call 18; refine (answers06_any w3).mono ?_; rintro e w4 ⟨rfl, hb4⟩; obtain ⟨z0, z1, z2, z3, z4, z5, z6, z7, z8, z9, z10, z11, z12, z13⟩ := HK.out w4 hb4)
    | fail)
  go_ret
  exact ⟨rfl, nx (nx (nx (nx HBW.out hb4) hb5) hb6) hb7⟩

set_option maxHeartbeats 8000000 in
theorem msgShort_ok (s : QS) (q : Qu) (A : Option Addr) (c : Nat) (l : List RR) (w : World) (hq : QIn (ltS w) w s q) (hl : RdE encRR w A l.length l) (hc : l.length ≤ c ∧ c ≤ maxLen) (hlen : l.length * 168 ≤ 140737488355328) (hby : ∀ r ∈ (shM q l).an ++ (shM q l).au ++ (shM q l).ex, r.data.bytes.length ≤ 140737488355328) (hlt : LtMsg6 (shM q l)) (hf : FineM (shM q l)) :
    Calls Try.prog 5 #[quV s q, .slice A l.length c] w (LawT w) := by
  obtain ⟨w1, hw1⟩ : ∃ w1, w1 = w.alloc (.cells (qCells s q) 42) := ⟨_, rfl⟩
  have hb1 : Below w.heap.size w w1 := by rw [hw1]; exact bl.alloc (Nat.le_refl _) _
  have HQR : Hid (QRow w1 w.heap.size s q) := by show QRow _ _ _ _; rw [hw1]; exact QRow.made w s q
  have hq1 := hq.below hb1 (fun b hb => hb)
  have hS1 : ∀ b, ltS w b → b < w1.heap.size := fun b hb => Nat.lt_of_lt_of_le hb hb1.size
  obtain ⟨w2, hw2⟩ : ∃ w2, w2 = w1.alloc (.cells (qCells s q) 42) := ⟨_, rfl⟩
  have hb2 : Below w1.heap.size w1 w2 := by rw [hw2]; exact bl.alloc (Nat.le_refl _) _
  have hmi : MIn (ltS w2) w2 (shS w1.heap.size A c) (shM q l) := by rw [hw2]; exact sh_in hq1 hS1 (hl.below hb1) hc
  obtain ⟨w3, hw3⟩ : ∃ w3, w3 = w2.alloc (.cells (mCells (shS w1.heap.size A c) (shM q l)) 33) := ⟨_, rfl⟩
  have hb3 : Below w2.heap.size w2 w3 := by rw [hw3]; exact bl.alloc (Nat.le_refl _) _
  have HMR : Hid (MRow w3 w2.heap.size (shS w1.heap.size A c) (shM q l)) := by show MRow _ _ _ _; rw [hw3]; exact MRow.made w2 _ _
  have HIW : Hid (∀ w', Below w3.heap.size w3 w' → MIn (ltS w2) w' (shS w1.heap.size A c) (shM q l)) := fun w' hw => (hmi.below hb3 (fun b hb => hb)).below hw (fun b hb => Nat.lt_of_lt_of_le hb hb3.size)
  have HSW : Hid (∀ w', Below w3.heap.size w3 w' → ∀ b, ltS w2 b → b < w'.heap.size) := fun w' hw b hb => Nat.lt_of_lt_of_le (Nat.lt_of_lt_of_le hb hb3.size) hw.size
  have HBW : Hid (Below w.heap.size w w3) := nx (nx hb1 hb2) hb3
  have HBX : Hid (Below w1.heap.size w1 w3) := nx hb2 hb3
  have HBQ : Hid (w.heap.size ≤ w1.heap.size) := hb1.size
  have HQ3 : Hid (QRow w3 w.heap.size s q) := (HQR.out.below hb2).below hb3
  have HLT := Lib.hid (fun w4 (hw : Below w3.heap.size w3 w4) => light06_any _ (shM q l) w4 (HIW.out w4 hw) (HSW.out w4 hw) (by show 1 ≤ _; decide) (by show (l.length + 0 + 0) * 168 ≤ _; exact hlen) hby)
  have hz2 : w2.heap.size = w1.heap.size + 1 := by rw [hw2]; simp
  have HK : Hid (∀ w', Below w3.heap.size w3 w' → w'.cell? ⟨w1.heap.size + 1, 0, none⟩ = some (.int .i64 0) ∧ w'.cell? ⟨w1.heap.size + 1, 1, none⟩ = some (.bool true) ∧ w'.cell? ⟨w1.heap.size + 1, 2, none⟩ = some (.int .i64 0) ∧ w'.cell? ⟨w1.heap.size + 1, 3, none⟩ = some (.bool false) ∧ w'.cell? ⟨w1.heap.size + 1, 4, none⟩ = some (.bool false) ∧ w'.cell? ⟨w1.heap.size + 1, 5, none⟩ = some (.bool false) ∧ w'.cell? ⟨w1.heap.size + 1, 6, none⟩ = some (.bool false) ∧ w'.cell? ⟨w1.heap.size + 1, 7, none⟩ = some (.int .i64 0) ∧ w'.cell? ⟨w1.heap.size + 1, 8, none⟩ = some (.slice (some ⟨w1.heap.size, 0, none⟩) 1 1) ∧ w'.cell? ⟨w1.heap.size + 1, 9, none⟩ = some (.slice A l.length c) ∧ w'.cell? ⟨w1.heap.size + 1, 10, none⟩ = some (.slice none 0 0) ∧ w'.cell? ⟨w1.heap.size + 1, 11, none⟩ = some (.slice none 0 0) ∧ w'.cell? ⟨w1.heap.size + 1, 12, none⟩ = some (.bool false) ∧ w'.cell? ⟨w1.heap.size + 1, 13, none⟩ = some (.int .i64 0)) := fun w' hw => by have h := (HMR.out.below hw).cells; rw [hz2] at h; exact h
  have hw3' : w3 = w2.alloc (.cells #[.int .i64 0, .bool true, .int .i64 0, .bool false, .bool false, .bool false, .bool false, .int .i64 0, .slice (some ⟨w1.heap.size, 0, none⟩) 1 1, .slice A l.length c, .slice none 0 0, .slice none 0 0, .bool false, .int .i64 0] 33) := hw3
  have HRL3 : Hid (RdE encRR w3 A l.length l) := ((hl.below hb1).below hb2).below hb3
  have HLV := Lib.hid (ltM6_yes hlt)
  have HL := Lib.hid hlt.ltM
  have HFV := Lib.hid (fineM_yes hf)
  have HF := Lib.hid hf
  have HBM : Hid (bytesM (shM q l) ≤ 200000) := by show _ ≤ _; have := hlt.b; omega
  have hl6 : l.length ≤ 600 := by have h := hlt.all; rw [List.length_append, List.length_append] at h; have e : (shM q l).an.length = l.length := rfl; omega
  have HL6 := Lib.hid hl6
  have HLTX : Hid (∀ w4, Below w3.heap.size w3 w4 → Calls Try.prog 19 #[.agg #[.int .i64 0, .bool true, .int .i64 0, .bool false, .bool false, .bool false, .bool false, .int .i64 0, .slice (some ⟨w1.heap.size, 0, none⟩) 1 1, .slice A l.length c, .slice none 0 0, .slice none 0 0, .bool false, .int .i64 0]] w4 (RetP (fun v _ => v = .bool true) w4)) := fun w4 hw => by have h := HLT.out w4 hw; rw [HLV.out] at h; exact h
  have HRMX : Hid (∀ w4, Below w3.heap.size w3 w4 → Calls Try.prog 24 #[.agg #[.int .i64 0, .bool true, .int .i64 0, .bool false, .bool false, .bool false, .bool false, .int .i64 0, .slice (some ⟨w1.heap.size, 0, none⟩) 1 1, .slice A l.length c, .slice none 0 0, .slice none 0 0, .bool false, .int .i64 0]] w4 (RetP (fun v _ => v = .bool true) w4)) := fun w4 hw => by have h := rMsg_any _ (shM q l) w4 (HIW.out w4 hw) (HSW.out w4 hw) HL.out; rw [HFV.out] at h; exact h
  have HEQ := Lib.hid (short_len hf)
  have HQS : Hid (sizeN q.name ≤ 255) := (hf.qs q (List.mem_singleton.2 rfl)).1.2
  have HQN := Lib.hid hq1.n
  clear hlt hf HLT hl6
  clear hq hl hc hlen hby hb1 hq1 hS1 hb2 hmi hw3 hb3 hz2
  unfold quV
  unfold qCells at hw1 hw2
  go_enter Try.func5, Try.ntmps5
  go_upto_region 1 with (fail)
  rw [← hw1]
  clear hw1
  obtain ⟨x0, x1, x2⟩ := HQR.out.cells
  go_upto_region 2 with (fail)
  rw [← hw2, ← hw3']
  clear hw2 hw3' x0 x1 x2
  go_upto_region 4 with (first
    | (go_at_call 24; refine (HRMX.out w5 (nx hb4 hb5)).mono ?_; rintro e w6 ⟨v6, rfl, rfl, hb6⟩)
    | (go_at_call 19; refine (HLTX.out w4 hb4).mono ?_; rintro e w5 ⟨v5, rfl, rfl, hb5⟩; obtain ⟨y0, y1, y2, y3, y4, y5, y6, y7, y8, y9, y10, y11, y12, y13⟩ := HK.out w5 (nx hb4 hb5))
    | (go_at_call 18; refine (answers06_any w3).mono ?_; rintro e w4 ⟨rfl, hb4⟩; obtain ⟨z0, z1, z2, z3, z4, z5, z6, z7, z8, z9, z10, z11, z12, z13⟩ := HK.out w4 hb4)
    | fail)
  have HB6 := Lib.hid (nx (nx hb4 hb5) hb6)
  clear z0 z1 z2 z3 z4 z5 z6 z7 z8 z9 z10 z11 z12 z13 y0 y1 y2 y3 y4 y5 y6 y7 y8 y9 y10 y11 y12 y13 hb4 hb5 hb6 HLTX HRMX
  have HOWN : Hid (Calls Try.prog 21 #[.agg #[.int .i64 0, .bool true, .int .i64 0, .bool false, .bool false, .bool false, .bool false, .int .i64 0, .slice (some ⟨w1.heap.size, 0, none⟩) 1 1, .slice A l.length c, .slice none 0 0, .slice none 0 0, .bool false, .int .i64 0]] w6 (RetP (fun v w' => ∃ s', v = msV s' (shM q l) ∧ MIn (geS w6.heap.size w') w' s' (shM q l)) w6)) := by have h := ownMsg_any (shS w1.heap.size A c) (shM q l) w6 (HIW.out w6 HB6.out) (HSW.out w6 HB6.out) HL.out.light; exact h
  obtain ⟨z0, z1, z2, z3, z4, z5, z6, z7, z8, z9, z10, z11, z12, z13⟩ := HK.out w6 HB6.out
  go_upto_region 5 with (first
    | (go_at_call 20; refine (mEncode_any s7 (shM q l) w7 HI7.out (fun b hb => hb.2) HL.out HBM.out).mono ?_; rintro e w8 ⟨v8, rfl, ⟨bv8, rfl, ho8⟩, hb8⟩; obtain ⟨A8, c8, hv8, _, _, _⟩ := OwnB.form ho8; subst hv8; have HB8 := Lib.hid (nx HB7.out hb8); clear ho8 hb8)
    | (go_at_call 21; refine HOWN.out.mono ?_; rintro e w7 ⟨v7, rfl, ⟨s7, rfl, hi7⟩, hb7⟩; have HI7 := Lib.hid hi7; have HB7 := Lib.hid (nx HB6.out hb7); clear hi7 hb7)
    | fail)
  clear z0 z1 z2 z3 z4 z5 z6 z7 z8 z9 z10 z11 z12 z13 HOWN HI7
  have HENC : Hid ((encP (shM q l)).2 = 4 ∨ ((encP (shM q l)).2 = 0 ∧ (encP (shM q l)).1.length ≤ 12 + sizeN q.name + 4 + rsSize l)) := by
    by_cases h : (msW (shM q l)).b.length ≤ 65535
    · rw [encP_ok HFV.out h]; exact .inr ⟨rfl, HEQ.out⟩
    · rw [encP_large HFV.out (by omega)]; exact .inl rfl
  have HE6 := Lib.hid (encP_len (shM q l))
  generalize encP (shM q l) = E at HENC HE6 ⊢
  obtain ⟨bs, er⟩ := E
  obtain ⟨x0, x1, x2⟩ := (HQ3.out.below HB8.out).cells
  have hqs := HQS.out
  have HQN8 : Hid (Els encS (ltS w) (ltS w) w8 s.A q.name.length q.name) := by
    have hb18 : Below w1.heap.size w1 w8 := by have h := HB8.out; exact HBX.out.trans (h.mono HBX.out.size)
    exact (HQN.out).keep (fun b hb => hb18.block b (Nat.lt_of_lt_of_le hb HBQ.out)) (fun b hb => hb18.block b (Nat.lt_of_lt_of_le hb HBQ.out))
  go_wp2_with (first
    | (go_at_call 26; refine (rsize_any s.A _ s.c q.name w8 HQN8.out (by omega)).mono ?_; rintro e w9 ⟨rfl, rfl⟩)
    | fail)
  clear x0 x1 x2
  go_loopw [8, 9] (fun zv iv wr => ∃ k : Nat, iv = .int .i64 k ∧ k ≤ l.length ∧ zv = .int .i64 ((12 + sizeN q.name + 4 + rsSize (l.take k) : Nat) : Int) ∧ Hid (Below w8.heap.size w8 wr)) (fun _ iv _ => l.length - (intOf iv).toNat)
  case atStart => exact ⟨0, rfl, Nat.zero_le _, by go_num, bl⟩
  case round =>
    obtain ⟨k, rfl, hk, rfl, HBR⟩ := hrel
    have hzk : 12 + sizeN q.name + 4 + rsSize (l.take k) ≤ 83000 * k + 300 := by
      have h1 := rsSize_le (l := l.take k) (fun r hr => HF.out.an r (List.mem_of_mem_take hr))
      have h2 : (l.take k).length ≤ k := List.length_take_le _ _
      have h3 := Nat.mul_le_mul_left 83000 h2
      omega
    have hl6 := HL6.out
    by_cases hlt : k < l.length
    · obtain ⟨r, hr⟩ : ∃ r, l[k]? = some r := ⟨_, List.getElem?_eq_getElem hlt⟩
      have HFR := Lib.hid (HF.out.an r (List.mem_of_getElem? hr)).2
      have HRS : Hid (12 + sizeN q.name + 4 + rsSize (l.take (k + 1)) = 12 + sizeN q.name + 4 + rsSize (l.take k) + rSize r) := by show _ = _; rw [rsSize_take hr]; omega
      obtain ⟨b, off, t, hA, _, hd, hcl⟩ := rr_at HRL3.out hr
      have hAA := Lib.hid hA
      rw [hA]
      have HB3R := Lib.hid (nx HB8.out HBR.out)
      have hc0 := hcl.below HB3R.out
      obtain ⟨w10, hw10⟩ : ∃ w10, w10 = wr.alloc (.cells (dCells t.d r.data) 46) := ⟨_, rfl⟩
      have hb10 : Below wr.heap.size wr w10 := by rw [hw10]; exact bl.alloc (Nat.le_refl _) _
      have hD10 : w10.heap[wr.heap.size]? = some (.cells (dCells t.d r.data) 46 (0, 0)) := by rw [hw10]; exact heap_alloc_new wr _
      have HD10 := Lib.hid hD10
      have HRI : Hid (RIn (ltS w3) w10 t r) := (hd.below HB3R.out (fun b hb => hb)).below hb10 (fun b hb => Nat.lt_of_lt_of_le hb HB3R.out.size)
      have HC10 := Lib.hid (hc0.below hb10)
      have HB10 := Lib.hid (nx HBR.out hb10)
      have hsz : wr.heap.size < w10.heap.size := by rw [hw10]; simp
      have HSZ := Lib.hid hsz
      have HSZW : Hid (wr.heap.size ≤ w10.heap.size) := hb10.size
      obtain ⟨d0, d1, d2, d3, d4, d5, d6, d7, d8⟩ := hc0
      unfold dCells at hw10
      clear hr hA hd hcl hb10 hD10 hsz
      go_upto_region 10 with (fail)
      rw [← hw10]
      clear hw10 d0 d1 d2 d3 d4 d5 d6 d7 d8
      generalize 12 + sizeN q.name + 4 + rsSize (l.take k) = z at hzk HRS ⊢
      generalize wr.heap.size = p at HD10 HSZ ⊢
      have ff := fine_fits HFR.out
      have h1 := ff.n; have h2 := ff.b; have h3 := ff.h; have h4 := ff.m; have h5 := ff.u
      have W0 : IntKind.i64.wrap (4 * (r.data.nums.length : Int)) = 4 * (r.data.nums.length : Int) := by rw [IntKind.wrap_i64]; omega
      have W1 : IntKind.i64.wrap ((z : Int) + (sizeN r.name : Int)) = (z : Int) + (sizeN r.name : Int) := by rw [IntKind.wrap_i64]; omega
      have W2 : IntKind.i64.wrap ((z : Int) + (sizeN r.name : Int) + 10) = (z : Int) + (sizeN r.name : Int) + 10 := by rw [IntKind.wrap_i64]; omega
      have W3 : IntKind.i64.wrap ((z : Int) + (sizeN r.name : Int) + 10 + (r.data.bytes.length : Int)) = (z : Int) + (sizeN r.name : Int) + 10 + (r.data.bytes.length : Int) := by rw [IntKind.wrap_i64]; omega
      have W4 : IntKind.i64.wrap ((z : Int) + (sizeN r.name : Int) + 10 + (r.data.bytes.length : Int) + (sizeN r.data.host : Int)) = (z : Int) + (sizeN r.name : Int) + 10 + (r.data.bytes.length : Int) + (sizeN r.data.host : Int) := by rw [IntKind.wrap_i64]; omega
      have W5 : IntKind.i64.wrap ((z : Int) + (sizeN r.name : Int) + 10 + (r.data.bytes.length : Int) + (sizeN r.data.host : Int) + (sizeN r.data.mail : Int)) = (z : Int) + (sizeN r.name : Int) + 10 + (r.data.bytes.length : Int) + (sizeN r.data.host : Int) + (sizeN r.data.mail : Int) := by rw [IntKind.wrap_i64]; omega
      have W6 : IntKind.i64.wrap ((z : Int) + (sizeN r.name : Int) + 10 + (r.data.bytes.length : Int) + (sizeN r.data.host : Int) + (sizeN r.data.mail : Int) + 4 * (r.data.nums.length : Int)) = (z : Int) + (sizeN r.name : Int) + 10 + (r.data.bytes.length : Int) + (sizeN r.data.host : Int) + (sizeN r.data.mail : Int) + 4 * (r.data.nums.length : Int) := by rw [IntKind.wrap_i64]; omega
      have HSUM : Hid ((z : Int) + (sizeN r.name : Int) + 10 + (r.data.bytes.length : Int) + (sizeN r.data.host : Int) + (sizeN r.data.mail : Int) + 4 * (r.data.nums.length : Int) + (textsN r.data.texts : Int) = ((z + rSize r : Nat) : Int)) := by show _ = _; unfold rSize dSize; omega
      have HFF := Lib.hid ff
      have HZZ : Hid (0 ≤ (z : Int) + (sizeN r.name : Int) + 10 + (r.data.bytes.length : Int) + (sizeN r.data.host : Int) + (sizeN r.data.mail : Int) + 4 * (r.data.nums.length : Int) ∧ (z : Int) + (sizeN r.name : Int) + 10 + (r.data.bytes.length : Int) + (sizeN r.data.host : Int) + (sizeN r.data.mail : Int) + 4 * (r.data.nums.length : Int) ≤ 60000000) := ⟨by omega, by omega⟩
      have k5 : ∀ w', Below w10.heap.size w10 w' → w'.cell? ⟨b, off + k * 9, none⟩ = some (.slice t.A r.name.length t.c) ∧ w'.cell? ⟨p, 0, none⟩ = some (.slice t.d.A0 r.data.bytes.length t.d.c0) ∧ w'.cell? ⟨p, 1, none⟩ = some (.slice t.d.A1 r.data.host.length t.d.c1) ∧ w'.cell? ⟨p, 2, none⟩ = some (.slice t.d.A2 r.data.mail.length t.d.c2) ∧ w'.cell? ⟨p, 3, none⟩ = some (.slice t.d.A3 r.data.nums.length t.d.c3) := fun w' hw => by
        have g := (hw.block p HSZ.out).trans HD10.out
        exact ⟨(HC10.out.below hw).1, (cell_of_row _ _ _ _ _ _ g).trans rfl, (cell_of_row _ _ _ _ _ _ g).trans rfl, (cell_of_row _ _ _ _ _ _ g).trans rfl, (cell_of_row _ _ _ _ _ _ g).trans rfl⟩
      have y0 := k5 w10 bl
      have y1 := k5 w10.drew bl.drew
      have K5 := Lib.hid k5
      have HRD : Hid (RIn (ltS w3) w10.drew t r) := RIn.keep (w := w10) (w' := w10.drew) (fun b hb => rfl) HRI.out
      clear k5 ff h1 h2 h3 h4 h5 hzk hl6
      go_region_held3 (fun w' => w'.cell? ⟨b, off + k * 9, none⟩ = some (.slice t.A r.name.length t.c) ∧ w'.cell? ⟨p, 0, none⟩ = some (.slice t.d.A0 r.data.bytes.length t.d.c0) ∧ w'.cell? ⟨p, 1, none⟩ = some (.slice t.d.A1 r.data.host.length t.d.c1) ∧ w'.cell? ⟨p, 2, none⟩ = some (.slice t.d.A2 r.data.mail.length t.d.c2) ∧ w'.cell? ⟨p, 3, none⟩ = some (.slice t.d.A3 r.data.nums.length t.d.c3))
        (first | with_reducible exact y0 | with_reducible exact y1 | fail)
        (first
          | (go_at_call 26; (with_reducible refine (rsize_any t.A r.name.length t.c r.name w10.drew HRD.out.n (Nat.le_trans HFF.out.n (by decide))).mono ?_); rintro e wa ⟨rfl, rfl⟩)
          | (go_at_call 26; (with_reducible refine (rsize_any t.d.A1 r.data.host.length t.d.c1 r.data.host w10.drew HRD.out.d.h (Nat.le_trans HFF.out.h (by decide))).mono ?_); rintro e wa ⟨rfl, rfl⟩)
          | (go_at_call 26; (with_reducible refine (rsize_any t.d.A2 r.data.mail.length t.d.c2 r.data.mail w10.drew HRD.out.d.m (Nat.le_trans HFF.out.m (by decide))).mono ?_); rintro e wa ⟨rfl, rfl⟩)
          | fail)
      clear y0 y1 W0 W1 W2 W3 W4 W5 W6
      generalize (z : Int) + (sizeN r.name : Int) + 10 + (r.data.bytes.length : Int) + (sizeN r.data.host : Int) + (sizeN r.data.mail : Int) + 4 * (r.data.nums.length : Int) = zz at HSUM HZZ ⊢
      have hx4 : w10.drew.cell? ⟨p, 4, none⟩ = some (.slice t.d.A4 r.data.texts.length t.d.c4) := (cell_of_row _ _ _ _ _ _ HD10.out).trans rfl
      have HX4 := Lib.hid hx4
      clear hx4
      have htl := HFF.out.t
      go_wp2_with fail
      go_loopw [8, 11] (fun zv iv wr => ∃ i : Nat, iv = .int .i64 i ∧ i ≤ r.data.texts.length ∧ zv = .int .i64 (zz + (textsN (r.data.texts.take i) : Int)) ∧ Hid (Below w10.drew.heap.size w10.drew wr)) (fun _ iv _ => r.data.texts.length - (intOf iv).toNat)
      case atStart => exact ⟨0, rfl, Nat.zero_le _, by simp [textsN], bl⟩
      case round =>
        obtain ⟨i, rfl, hi, rfl, HBI⟩ := hrel
        have x4 := below_cell HBI.out HX4.out
        have hzz := HZZ.out
        by_cases hli : i < r.data.texts.length
        · obtain ⟨tx, htx⟩ : ∃ tx, r.data.texts[i]? = some tx := ⟨_, List.getElem?_eq_getElem hli⟩
          have HTN := Lib.hid (textsN_take htx)
          have hle : textsN (r.data.texts.take i) + (1 + tx.length) ≤ 16384 := by
            have h1 := textsN_mono r.data.texts (i + 1)
            have h2 := HFF.out.tx
            rw [HTN.out] at h1
            omega
          obtain ⟨b', off', hA4, _, hc4, hll⟩ := strs_at ((HRD.out.d.t.mono (fun b hb => hb) (fun b hb => hb)).keep (w' := wr) (fun b hb => HBI.out.block b (by have h1 := HB3R.out.size; have h2 := HSZW.out; have h3 : b < w3.heap.size := hb; show b < w10.heap.size; omega)) (fun b hb => HBI.out.block b (by have h1 := HB3R.out.size; have h2 := HSZW.out; have h3 : b < w3.heap.size := hb; show b < w10.heap.size; omega))) htx
          have hbs := bstr_size tx
          rw [hA4] at x4
          clear htx hll hA4
          generalize textsN (r.data.texts.take i) = z4 at HTN hle ⊢
          go_wp2
          go_roundw
          case rel => exact ⟨i + 1, by go_num, by omega, by rw [HTN.out]; go_num, HBI.out⟩
          case measure => simp [intOf]; omega
        · obtain rfl : i = r.data.texts.length := by omega
          rw [List.take_length, HSUM.out]
          have hl6 := HL6.out
          go_wp2
          go_roundw
          case rel => exact ⟨k + 1, by go_num, by omega, by rw [HRS.out], nx HB10.out (bl.drew.trans HBI.out)⟩
          case measure => simp [intOf]; omega
    · obtain rfl : k = l.length := by omega
      rw [List.take_length] at hzk ⊢
      rcases HENC.out with h4 | ⟨h0, hle⟩
      · have e4 : er = 4 := h4
        subst e4
        go_wp2
        go_ret
        exact ⟨rfl, nx HBW.out (nx HB8.out HBR.out)⟩
      · have e0 : er = 0 := h0
        subst e0
        have hle1 : bs.length ≤ 12 + sizeN q.name + 4 + rsSize l := hle
        have hle2 : (bs.length : Int) ≤ 12 + (sizeN q.name : Int) + 4 + (rsSize l : Int) := by omega
        have hle3 := decide_eq_true hle2
        go_wp2
        go_ret
        exact ⟨rfl, nx HBW.out (nx HB8.out HBR.out)⟩

theorem msgShort_walk (s : QS) (q : Qu) (A : Option Addr) (n c : Nat) (l : List RR) (w : World) (hq : QIn (ltS w) w s q) (hl : RdE encRR w A n l) (hc : n ≤ c) (hm : c ≤ maxLen) (hlen : n * 168 ≤ 140737488355328) (hby : ∀ r ∈ l, r.data.bytes.length ≤ 140737488355328) :
    Calls Try.prog 5 #[quV s q, .slice A n c] w (LawT w) := by
  have hn := hl.len
  subst hn
  have hby2 : ∀ r ∈ (shM q l).an ++ (shM q l).au ++ (shM q l).ex, r.data.bytes.length ≤ 140737488355328 := fun r hr => by
    have e : (shM q l).an ++ (shM q l).au ++ (shM q l).ex = l := by show l ++ [] ++ [] = l; simp
    rw [e] at hr
    exact hby r hr
  by_cases h0 : LtMsg6 (shM q l)
  · by_cases h1 : FineM (shM q l)
    · exact msgShort_ok s q A c l w hq hl ⟨hc, hm⟩ hlen hby2 h0 h1
    · exact msgShort_none s q A c l w hq hl ⟨hc, hm⟩ hlen hby2 h0 h1
  · exact msgShort_heavy s q A c l w hq hl ⟨hc, hm⟩ hlen hby2 h0
end Go.Proofs.Ytbjaphldncagjaa
