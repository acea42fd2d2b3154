/- Parts of a proof, joined: Law07V. -/
import Derived.Test.YtmkfjddighabcaaM27
import Derived.Test.YtmkfjddighabcaaM28
import Derived.Test.YtmkfjddighabcaaM21b
import Derived.Test.YtmkfjddighabcaaM16
import Derived.Test.YtmkfjddighabcaaM21
import Derived.Test.YtmkfjddighabcaaM23
/- CutWhole: the easy cases. -/
namespace Go.Proofs.Ytmkfjddighabcaa
open Go.RowKit
set_option maxRecDepth 100000
set_option linter.unusedVariables false

theorem LtMsg7.lt6 {m : Ms} (h : LtMsg7 m) : LtMsg6 m := ⟨Nat.le_trans h.all (by omega), Nat.le_trans h.qs (by omega), h.r, h.q, h.b⟩
theorem LtMsg7.bytes {m : Ms} (h : LtMsg7 m) : bytesM m ≤ 200000 := by have := h.b; omega
theorem ownB_blt7 {w : World} {B : Nat} {A : Option Addr} {n c : Nat} {bs : List UInt8} (h : OwnB w B (.slice A n c) bs) : ∀ b off, A = some ⟨b, off, none⟩ → b < w.heap.size := by
  intro b off e
  subst e
  have hl := World.ownsRow.lt h
  rcases h.2 with ⟨e0, _⟩ | ⟨g, cap, cur, e0, h3, _⟩
  · injection e0 with e0
    cases e0
  · injection e0 with e0
    injection e0 with e0
    injection e0 with e0
    subst e0
    exact (hl _ rfl).2
set_option maxHeartbeats 8000000 in
theorem cutWhole_heavy (s : MS) (m : Ms) (a : Nat) (w : World) (h : MIn (ltS w) w s m) (hq : m.qs.length ≤ 1048576) (hlen : (m.an.length + m.au.length + m.ex.length) * 168 ≤ 140737488355328) (hby : ∀ r ∈ m.an ++ m.au ++ m.ex, r.data.bytes.length ≤ 140737488355328) (ha : a < 65536) (hlt : ¬ LtMsg7 m) :
    Calls Try.prog 10 #[msV s m, .int .u16 (a : Int)] w (LawT w) := by
  obtain ⟨w1, hw1⟩ : ∃ w1, w1 = w.alloc (.cells (mCells s m) 25) := ⟨_, rfl⟩
  have hb1 : Below w.heap.size w w1 := by rw [hw1]; exact bl.alloc (Nat.le_refl _) _
  have HR1 : Hid (MRow w1 w.heap.size s m) := by show MRow _ _ _ _; rw [hw1]; exact MRow.made w s m
  have HB1 := Lib.hid hb1
  have HIW : Hid (∀ w', Below w1.heap.size w1 w' → MIn (ltS w) w' s m) := fun w' hw => (h.below hb1 (fun b hb => hb)).below hw (fun b hb => Nat.lt_of_lt_of_le hb hb1.size)
  have HSW : Hid (∀ w', Below w1.heap.size w1 w' → ∀ b, ltS w b → b < w'.heap.size) := fun w' hw b hb => Nat.lt_of_lt_of_le (Nat.lt_of_lt_of_le hb hb1.size) hw.size
  have HK : Hid (∀ w', Below w1.heap.size w1 w' → MCells w' w.heap.size s m) := fun w' hw => (HR1.out.below hw).cells
  have HLT := Lib.hid (fun w2 (hw : Below w1.heap.size w1 w2) => light07_any s m w2 (HIW.out w2 hw) (HSW.out w2 hw) (by omega) hlen hby)
  have HNO := Lib.hid (ltM7_no hlt)
  unfold msV mCells at HLT
  unfold msV
  unfold mCells at hw1 ⊢
  clear h hb1 hlt hq hlen hby
  rw [HNO.out] at HLT
  go_enter Try.func10, Try.ntmps10
  go_upto_region 1 with (fail)
  rw [← hw1]
  clear hw1
  go_wp2_with (first
    | (go_at_call 29; refine (answers07_any w3).mono ?_; rintro e w4 ⟨rfl, hb4⟩)
    | (go_at_call 30; refine (HLT.out w2 hb2).mono ?_; rintro e w3 ⟨v3, rfl, rfl, hb3⟩; have HB3 := Lib.hid (nx hb2 hb3); obtain ⟨z0, z1, z2, z3, z4, z5, z6, z7, z8, z9, z10, z11, z12, z13⟩ := HK.out w3 HB3.out)
    | (go_at_call 29; refine (answers07_any w1).mono ?_; rintro e w2 ⟨rfl, hb2⟩; obtain ⟨z0, z1, z2, z3, z4, z5, z6, z7, z8, z9, z10, z11, z12, z13⟩ := HK.out w2 hb2)
    | fail)
  go_ret
  exact ⟨rfl, nx (nx HB1.out HB3.out) hb4⟩
set_option maxHeartbeats 8000000 in
theorem cutWhole_bad (s : MS) (m : Ms) (a : Nat) (w : World) (h : MIn (ltS w) w s m) (hq : m.qs.length ≤ 1048576) (hlen : (m.an.length + m.au.length + m.ex.length) * 168 ≤ 140737488355328) (hby : ∀ r ∈ m.an ++ m.au ++ m.ex, r.data.bytes.length ≤ 140737488355328) (ha : a < 65536) (hlt : LtMsg7 m) (hf : fineM m = false) :
    Calls Try.prog 10 #[msV s m, .int .u16 (a : Int)] w (LawT w) := by
  obtain ⟨w1, hw1⟩ : ∃ w1, w1 = w.alloc (.cells (mCells s m) 25) := ⟨_, rfl⟩
  have hb1 : Below w.heap.size w w1 := by rw [hw1]; exact bl.alloc (Nat.le_refl _) _
  have HR1 : Hid (MRow w1 w.heap.size s m) := by show MRow _ _ _ _; rw [hw1]; exact MRow.made w s m
  have HB1 := Lib.hid hb1
  have HIW : Hid (∀ w', Below w1.heap.size w1 w' → MIn (ltS w) w' s m) := fun w' hw => (h.below hb1 (fun b hb => hb)).below hw (fun b hb => Nat.lt_of_lt_of_le hb hb1.size)
  have HSW : Hid (∀ w', Below w1.heap.size w1 w' → ∀ b, ltS w b → b < w'.heap.size) := fun w' hw b hb => Nat.lt_of_lt_of_le (Nat.lt_of_lt_of_le hb hb1.size) hw.size
  have HK : Hid (∀ w', Below w1.heap.size w1 w' → MCells w' w.heap.size s m) := fun w' hw => (HR1.out.below hw).cells
  have HLT := Lib.hid (fun w2 (hw : Below w1.heap.size w1 w2) => light07_any s m w2 (HIW.out w2 hw) (HSW.out w2 hw) (by omega) hlen hby)
  have HYES := Lib.hid (ltM7_yes hlt)
  have HRM := Lib.hid (fun w2 (hw : Below w1.heap.size w1 w2) => rMsg_any s m w2 (HIW.out w2 hw) (HSW.out w2 hw) hlt.lt6.ltM)
  rw [hf] at HRM
  unfold msV mCells at HLT HRM
  unfold msV
  unfold mCells at hw1 ⊢
  clear h hb1 hlt hq hlen hby hf
  rw [HYES.out] at HLT
  go_enter Try.func10, Try.ntmps10
  go_upto_region 1 with (fail)
  rw [← hw1]
  clear hw1
  go_wp2_with (first
    | (go_at_call 29; refine (answers07_any w4).mono ?_; rintro e w5 ⟨rfl, hb5⟩)
    | (go_at_call 22; refine (HRM.out w3 HB3.out).mono ?_; rintro e w4 ⟨v4, rfl, rfl, hb4⟩)
    | (go_at_call 30; refine (HLT.out w2 hb2).mono ?_; rintro e w3 ⟨v3, rfl, rfl, hb3⟩; have HB3 := Lib.hid (nx hb2 hb3); obtain ⟨z0, z1, z2, z3, z4, z5, z6, z7, z8, z9, z10, z11, z12, z13⟩ := HK.out w3 HB3.out)
    | (go_at_call 29; refine (answers07_any w1).mono ?_; rintro e w2 ⟨rfl, hb2⟩; obtain ⟨z0, z1, z2, z3, z4, z5, z6, z7, z8, z9, z10, z11, z12, z13⟩ := HK.out w2 hb2)
    | fail)
  go_ret
  exact ⟨rfl, nx (nx (nx HB1.out HB3.out) hb4) hb5⟩
end Go.Proofs.Ytmkfjddighabcaa
