/- Parts of a proof, joined: Zl1. -/
import Derived.Test.YtimkdpkhdbiniaaZADZ9
import Derived.Test.YtimkdpkhdbiniaaZADM02b
/- gazetteerlaw17.light, .answers, .plain (printed by gen/zl1.py). -/
namespace Go.Proofs.Ytimkdpkhdbiniaa
open Go.RowKit
set_option maxRecDepth 100000
set_option linter.unusedVariables false

def Lt17 (r : RR) : Prop := r.name.length ≤ 130 ∧ r.data.bytes.length ≤ 500 ∧ r.data.host.length ≤ 130 ∧ r.data.mail.length ≤ 130 ∧ r.data.texts.length ≤ 70 ∧ r.data.nums.length ≤ 70
structure LtZ (zs : List (List UInt8)) (rs : List RR) : Prop where
  r : ∀ r ∈ rs, Lt17 r
  z : zs.length ≤ 130
  n : rs.length ≤ 100
open Classical in
noncomputable def ltZ (zs : List (List UInt8)) (rs : List RR) : Bool := decide (LtZ zs rs)
open Classical in
theorem ltZ_yes {zs : List (List UInt8)} {rs : List RR} (h : LtZ zs rs) : ltZ zs rs = true := decide_eq_true h
open Classical in
theorem ltZ_no {zs : List (List UInt8)} {rs : List RR} (h : ¬ LtZ zs rs) : ltZ zs rs = false := decide_eq_false h
theorem allz_take {α : Type} {P : α → Prop} {l : List α} {k : Nat} {x : α} (hx : l[k]? = some x) (h : ∀ r ∈ l.take k, P r) (hp : P x) : ∀ r ∈ l.take (k + 1), P r := by
  rw [List.take_add_one, hx]
  intro r hr
  rcases List.mem_append.1 hr with h1 | h1
  · exact h r h1
  · rw [Option.toList_some, List.mem_singleton] at h1; rw [h1]; exact hp

set_option maxHeartbeats 8000000 in
theorem lightZ_any (zA RA : Option Addr) (zn zc rn rc : Nat) (zs : List (List UInt8)) (rs : List RR) (w : World) {S : Nat → Prop} (h : Els encRR S S w RA rn rs) (hS : ∀ b, S b → b < w.heap.size) (hz : zs.length = zn) (hn : rn ≤ rc ∧ rc ≤ maxLen) (hzn : zn ≤ maxLen) :
    Calls Try.prog 39 #[.agg #[.slice zA zn zc, .slice RA rn rc]] w (RetP (fun v _ => v = .bool (ltZ zs rs)) w) := by
  obtain ⟨w1, hw1⟩ : ∃ w1, w1 = w.alloc (.cells #[.slice zA zn zc, .slice RA rn rc] 75) := ⟨_, rfl⟩
  have hb1 : Below w.heap.size w w1 := by rw [hw1]; exact bl.alloc (Nat.le_refl _) _
  obtain ⟨g, hg⟩ : ∃ g, g = w.heap.size := ⟨_, rfl⟩
  have z0 : w1.cell? ⟨g, 0, none⟩ = some (.slice zA zn zc) := by rw [hw1, hg]; exact new_cell w _ _ 0
  have z1 : w1.cell? ⟨g, 1, none⟩ = some (.slice RA rn rc) := by rw [hw1, hg]; exact new_cell w _ _ 1
  have HZ : Hid (w1.cell? ⟨g, 0, none⟩ = some (.slice zA zn zc) ∧ w1.cell? ⟨g, 1, none⟩ = some (.slice RA rn rc)) := ⟨z0, z1⟩
  have HI := Lib.hid (h.below hb1 hS hS)
  have HBW1 := Lib.hid hb1
  have HN := Lib.hid hz
  have HLN := Lib.hid h.len
  have hrm : rn ≤ maxLen := Nat.le_trans hn.1 hn.2
  have hrb : rn ≤ 9223372036854775807 := hrm
  have hzb : zn ≤ 9223372036854775807 := hzn
  clear h hS hb1 hz hn hrm hzn
  go_enter Try.func39, Try.ntmps39
  go_upto_region 1 with (fail)
  rw [← hw1]
  clear hw1
  rw [← hg]
  clear hg
  go_upto_region 2 with (fail)
  clear z0 z1
  go_loopw [3] (fun iv wr => ∃ k : Nat, iv = .int .i64 (k : Int) ∧ k ≤ rn ∧ Hid (∀ r ∈ rs.take k, Lt17 r) ∧ Hid (Below w1.heap.size w1 wr)) (fun iv _ => rn - (intOf iv).toNat)
  case atStart => exact ⟨0, rfl, Nat.zero_le _, fun r hr => by simp at hr, bl⟩
  case round =>
    obtain ⟨k, rfl, hk, HF, HBR⟩ := hrel
    have z0 : wr.cell? ⟨g, 0, none⟩ = some (.slice zA zn zc) := below_cell HBR.out HZ.out.1
    have z1 : wr.cell? ⟨g, 1, none⟩ = some (.slice RA rn rc) := below_cell HBR.out HZ.out.2
    by_cases hlt : k < rn
    · obtain ⟨r, hr⟩ : ∃ r, rs[k]? = some r := ⟨_, List.getElem?_eq_getElem (by rw [HLN.out]; exact hlt)⟩
      have HX := Lib.hid hr
      have HMEM := Lib.hid (List.mem_of_getElem? hr)
      obtain ⟨b, off, t, hA, hb0, hri, hrc⟩ := rr_at HI.out hr
      rw [hA] at z1
      have hbx : Below wr.heap.size wr (wr.alloc (.cells #[.slice t.d.A0 r.data.bytes.length t.d.c0, .slice t.d.A1 r.data.host.length t.d.c1, .slice t.d.A2 r.data.mail.length t.d.c2, .slice t.d.A3 r.data.nums.length t.d.c3, .slice t.d.A4 r.data.texts.length t.d.c4] 46)) := bl.alloc (Nat.le_refl _) _
      have hrc1 := hrc.below HBR.out
      have hrc2 := hrc1.below hbx
      obtain ⟨d0, d1, d2, d3, d4, d5, d6, d7, d8⟩ := hrc1
      obtain ⟨e0, e1, e2, e3, e4, e5, e6, e7, e8⟩ := hrc2
      have y1 := below_cell hbx z1
      have HBX := Lib.hid (nx HBR.out hbx)
      have HBB := Lib.hid (nx HBW1.out (nx HBR.out hbx))
      clear hr hri hrc hA hb0 hbx z0
      by_cases t0 : (r.name.length : Int) ≤ 130
      · skip
        by_cases t1 : (r.data.bytes.length : Int) ≤ 500
        · skip
          by_cases t2 : (r.data.host.length : Int) ≤ 130
          · skip
            by_cases t3 : (r.data.mail.length : Int) ≤ 130
            · skip
              by_cases t4 : (r.data.texts.length : Int) ≤ 70
              · skip
                by_cases t5 : (r.data.nums.length : Int) ≤ 70
                · skip
                  go_wp2
                  go_roundw
                  case rel => exact ⟨k + 1, by go_num, by omega, allz_take HX.out HF.out ⟨by omega, by omega, by omega, by omega, by omega, by omega⟩, HBX.out⟩
                  case measure => simp [intOf]; omega
                · skip
                  have HNO : Hid (¬ LtZ zs rs) := fun h => by have h1 := (h.r r HMEM.out).2.2.2.2.2; omega
                  go_wp2
                  go_ret
                  exact ⟨_, rfl, by show Value.bool _ = Value.bool _; rw [ltZ_no HNO.out], HBB.out⟩
              · skip
                have HNO : Hid (¬ LtZ zs rs) := fun h => by have h1 := (h.r r HMEM.out).2.2.2.2.1; omega
                go_wp2
                go_ret
                exact ⟨_, rfl, by show Value.bool _ = Value.bool _; rw [ltZ_no HNO.out], HBB.out⟩
            · skip
              have HNO : Hid (¬ LtZ zs rs) := fun h => by have h1 := (h.r r HMEM.out).2.2.2.1; omega
              go_wp2
              go_ret
              exact ⟨_, rfl, by show Value.bool _ = Value.bool _; rw [ltZ_no HNO.out], HBB.out⟩
          · skip
            have HNO : Hid (¬ LtZ zs rs) := fun h => by have h1 := (h.r r HMEM.out).2.2.1; omega
            go_wp2
            go_ret
            exact ⟨_, rfl, by show Value.bool _ = Value.bool _; rw [ltZ_no HNO.out], HBB.out⟩
        · skip
          have HNO : Hid (¬ LtZ zs rs) := fun h => by have h1 := (h.r r HMEM.out).2.1; omega
          go_wp2
          go_ret
          exact ⟨_, rfl, by show Value.bool _ = Value.bool _; rw [ltZ_no HNO.out], HBB.out⟩
      · skip
        have HNO : Hid (¬ LtZ zs rs) := fun h => by have h1 := (h.r r HMEM.out).1; omega
        go_wp2
        go_ret
        exact ⟨_, rfl, by show Value.bool _ = Value.bool _; rw [ltZ_no HNO.out], HBB.out⟩
    · obtain rfl : k = rn := by omega
      have htk : rs.take k = rs := by rw [← HLN.out, List.take_length]
      rw [htk] at HF
      have HBB := Lib.hid (nx HBW1.out HBR.out)
      clear htk hlt hk
      by_cases a0 : (zn : Int) ≤ 130
      · have a0d : decide ((zn : Int) ≤ 130) = true := decide_eq_true a0
        by_cases a1 : (k : Int) ≤ 100
        · have a1d : decide ((k : Int) ≤ 100) = true := decide_eq_true a1
          have HY : Hid (LtZ zs rs) := ⟨HF.out, by have := HN.out; omega, by have := HLN.out; omega⟩
          go_wp2
          go_ret
          exact ⟨_, rfl, by show Value.bool _ = Value.bool _; rw [ltZ_yes HY.out], HBB.out⟩
        · have HNO : Hid (¬ LtZ zs rs) := fun h => by have h1 := h.n; have := HLN.out; omega
          have a1d : decide ((k : Int) ≤ 100) = false := decide_eq_false a1
          go_wp2
          go_ret
          exact ⟨_, rfl, by show Value.bool _ = Value.bool _; rw [ltZ_no HNO.out], HBB.out⟩
      · have HNO : Hid (¬ LtZ zs rs) := fun h => by have h1 := h.z; have := HN.out; omega
        have a0d : decide ((zn : Int) ≤ 130) = false := decide_eq_false a0
        go_wp2
        go_ret
        exact ⟨_, rfl, by show Value.bool _ = Value.bool _; rw [ltZ_no HNO.out], HBB.out⟩

theorem zsoundB_none : zsoundB [] [] = false := by
  unfold zsoundB
  simp
theorem answerP_none (q : Qu) : answerP [] [] q = { msBase q with rcode := 5 } := by
  unfold answerP answB
  rw [zsoundB_none]
  rfl
set_option maxHeartbeats 4000000 in
theorem answers17_any (w : World) : Calls Try.prog 38 #[] w (LawT w) := by
  have HA := Lib.hid (zanswer_any none none none 0 0 0 0 0 0 [] [] [] 1 1 w (Els.nil _ _ _ _ _) (Els.nil _ _ _ _ _) (Els.nil _ _ _ _ _) ⟨Nat.le_refl _, Nat.zero_le _⟩ (Nat.le_refl _) (Nat.zero_le _) (Nat.zero_le _) (Nat.zero_le _) (fun r h => by cases h) (fun r h => by cases h) (fun r h => by cases h))
  rw [answerP_none] at HA
  go_enter Try.func38, Try.ntmps38
  go_upto_region 2 with (go_at_call 42; refine HA.out.mono ?_; rintro e w1 ⟨v1, rfl, ⟨s, rfl, ho⟩, hb1⟩; have HB1 := Lib.hid hb1; clear ho hb1; unfold msV mCells msBase)
  go_wp2
  go_ret
  exact ⟨rfl, nx HB1.out (bl.alloc (Nat.le_refl _) _)⟩
set_option maxHeartbeats 4000000 in
theorem plainZ_any (zA RA : Option Addr) (zn zc rn rc : Nat) (w : World) : Calls Try.prog 41 #[.agg #[.slice zA zn zc, .slice RA rn rc]] w (RetP (fun v _ => v = .agg #[.slice zA zn zc, .slice RA rn rc]) w) := by
  go_enter Try.func41, Try.ntmps41
  go_wp2
  refine bodyPost_ret (v := .agg #[.slice zA zn zc, .slice RA rn rc]) ?_ rfl ⟨_, rfl, rfl, ?_⟩
  · simp [results, Try.results41, go_sem]
  · exact (bl.alloc (Nat.le_refl _) _).alloc (by simp) _
end Go.Proofs.Ytimkdpkhdbiniaa
