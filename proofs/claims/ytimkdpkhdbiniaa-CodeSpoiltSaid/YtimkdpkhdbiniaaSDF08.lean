/- Parts of a proof, joined: CodeS. -/
import Derived.Test.YtimkdpkhdbiniaaSDF06
import Derived.Test.YtimkdpkhdbiniaaSDF03
/- code.Sound, of any entry (printed by gen/csound.py). -/
namespace Go.Proofs.Ytimkdpkhdbiniaa
open Go.RowKit
set_option maxRecDepth 100000
set_option linter.unusedVariables false

theorem EnRow.cells {w : World} {q : Nat} {s : ES} {x : En} (h : EnRow w q s x) : w.cell? ⟨q, 0, none⟩ = some (.int .i64 x.kind) ∧ w.cell? ⟨q, 1, none⟩ = some (.int .i64 x.time) ∧ w.cell? ⟨q, 2, none⟩ = some (.slice s.f.A x.f.name.length s.f.ac) ∧ w.cell? ⟨q, 3, none⟩ = some (.int .i64 x.f.type) ∧ w.cell? ⟨q, 4, none⟩ = some (.int .i64 x.f.kind) ∧ w.cell? ⟨q, 5, none⟩ = some (.int .i64 x.f.rank) ∧ w.cell? ⟨q, 6, none⟩ = some (.int .i64 x.f.got) ∧ w.cell? ⟨q, 7, none⟩ = some (.int .i64 x.f.ttl) ∧ w.cell? ⟨q, 8, none⟩ = some (.slice s.f.S x.f.set.length s.f.sc) ∧ w.cell? ⟨q, 9, none⟩ = some (.slice s.f.Z x.f.zone.length s.f.zc) ∧ w.cell? ⟨q, 10, none⟩ = some (.slice s.f.d.A0 x.f.soa.bytes.length s.f.d.c0) ∧ w.cell? ⟨q, 11, none⟩ = some (.slice s.f.d.A1 x.f.soa.host.length s.f.d.c1) ∧ w.cell? ⟨q, 12, none⟩ = some (.slice s.f.d.A2 x.f.soa.mail.length s.f.d.c2) ∧ w.cell? ⟨q, 13, none⟩ = some (.slice s.f.d.A3 x.f.soa.nums.length s.f.d.c3) ∧ w.cell? ⟨q, 14, none⟩ = some (.slice s.f.d.A4 x.f.soa.texts.length s.f.d.c4) ∧ w.cell? ⟨q, 15, none⟩ = some (.slice s.Z x.zone.length s.zc) :=
  ⟨(h.cell 0).trans rfl, (h.cell 1).trans rfl, (h.cell 2).trans rfl, (h.cell 3).trans rfl, (h.cell 4).trans rfl, (h.cell 5).trans rfl, (h.cell 6).trans rfl, (h.cell 7).trans rfl, (h.cell 8).trans rfl, (h.cell 9).trans rfl, (h.cell 10).trans rfl, (h.cell 11).trans rfl, (h.cell 12).trans rfl, (h.cell 13).trans rfl, (h.cell 14).trans rfl, (h.cell 15).trans rfl⟩
/-- How large an entry may be to be looked at. -/
structure LtE (x : En) : Prop where
  f : LtF x.f
  b : LtB x.f
  z : x.zone.length ≤ 1000000000

set_option maxHeartbeats 16000000 in
theorem csound_any (s : ES) (x : En) (w : World) {S : Nat → Prop} (h : EnIn S w s x) (hS : ∀ b, S b → b < w.heap.size) (hL : LtE x) :
    Calls Try.prog 23 #[enV s x] w (RetP (fun v _ => v = .bool (fineE x)) w) := by
  obtain ⟨w1, hw1⟩ : ∃ w1, w1 = w.alloc (.cells (enCells s x) 50) := ⟨_, rfl⟩
  have hb1 : Below w.heap.size w w1 := by rw [hw1]; exact bl.alloc (Nat.le_refl _) _
  have HR : Hid (EnRow w1 w.heap.size s x) := by show EnRow _ _ _ _; rw [hw1]; exact EnRow.made w s x
  have HB1 := Lib.hid hb1
  obtain ⟨x0, x1, x2, x3, x4, x5, x6, x7, x8, x9, x10, x11, x12, x13, x14, x15⟩ := HR.out.cells
  have HFS : Hid (Calls Try.prog 59 #[faV s.f x.f] w1 (RetP (fun v _ => v = .bool (fineF x.f)) w1)) := psoundF_any s.f x.f w1 (h.f.below hb1 hS) (fun b hb => Nat.lt_of_lt_of_le (hS b hb) hb1.size) hL.f
  have HBL : Hid (∀ u, Calls Try.prog 60 #[faV s.f x.f] u (RetP (fun v _ => v = .bool (blankF x.f)) u)) := fun u => cblank_any s.f x.f u hL.b
  have HNS : Hid (∀ u, Below w1.heap.size w1 u → Calls Try.prog 61 #[.slice s.Z x.zone.length s.zc] u (Ret (.bool (soundB x.zone)) u)) := fun u hu => sound_any s.Z x.zone.length s.zc x.zone u ((h.z.below hb1 hS hS).below hu (fun b hb => Nat.lt_of_lt_of_le (hS b hb) hb1.size) (fun b hb => Nat.lt_of_lt_of_le (hS b hb) hb1.size)) hL.z
  have HTT : Hid (∀ u, Calls Try.prog 62 #[.int .i64 x.time] u (Ret (.bool (timeB x.time)) u)) := fun u => ttime_any x.time u
  have HV : Hid (fineE x = if x.kind = 1 then (x.time == 0) && (decide (x.zone.length = 0) && fineF x.f) else if x.kind = 2 then (x.time == 0) && (blankF x.f && soundB x.zone) else if x.kind = 3 then timeB x.time && (blankF x.f && decide (x.zone.length = 0)) else false) := rfl
  have hzz : ((x.zone.length : Int) == 0) = decide (x.zone.length = 0) := by by_cases h : x.zone.length = 0 <;> simp [h]
  have HZZ := Lib.hid hzz
  unfold faV faCells at HFS HBL
  unfold enV
  unfold enCells at hw1 ⊢
  clear h hS hb1 hzz hL
  generalize fineE x = R at HV ⊢
  generalize fineF x.f = FF at HFS HV
  generalize blankF x.f = BF at HBL HV
  generalize soundB x.zone = SZ at HNS HV
  generalize timeB x.time = TT at HTT HV
  go_enter Try.func23, Try.ntmps23
  go_upto_region 1 with (fail)
  rw [← hw1]
  clear hw1
  by_cases h1 : x.kind = 1
  · have hk : (x.kind == 1) = true := by simp [h1]
    have HV1 : Hid (R = ((x.time == 0) && (((x.zone.length : Int) == 0) && FF))) := by show _ = _; rw [HV.out, if_pos h1, HZZ.out]
    clear HV h1
    cases ht : (x.time == 0) with
    | false =>
      have HR0 : Hid (R = false) := by show _ = _; rw [HV1.out, ht]; rfl
      clear HV1
      go_wp2
      go_ret
      exact ⟨_, rfl, congrArg Value.bool HR0.out.symm, HB1.out⟩
    | true =>
      cases hz : ((x.zone.length : Int) == 0) with
      | false =>
        have HR0 : Hid (R = false) := by show _ = _; rw [HV1.out, ht, hz]; rfl
        clear HV1
        go_wp2
        go_ret
        exact ⟨_, rfl, congrArg Value.bool HR0.out.symm, HB1.out⟩
      | true =>
        have HR0 : Hid (R = FF) := by show _ = _; rw [HV1.out, ht, hz]; simp
        clear HV1
        go_wp2_with (first
          | (go_at_call 59; (with_reducible refine HFS.out.mono ?_); rintro e w2 ⟨v2, rfl, rfl, hb2⟩)
          | fail)
        go_ret
        exact ⟨_, rfl, congrArg Value.bool HR0.out.symm, nx HB1.out hb2⟩
  by_cases h2 : x.kind = 2
  · have hk0 : (x.kind == 1) = false := by simp [h1]
    have hk : (x.kind == 2) = true := by simp [h2]
    have HV1 : Hid (R = ((x.time == 0) && (BF && SZ))) := by show _ = _; rw [HV.out, if_neg h1, if_pos h2]
    clear HV h1 h2
    cases ht : (x.time == 0) with
    | false =>
      have HR0 : Hid (R = false) := by show _ = _; rw [HV1.out, ht]; rfl
      clear HV1
      go_wp2
      go_ret
      exact ⟨_, rfl, congrArg Value.bool HR0.out.symm, HB1.out⟩
    | true =>
      cases BF with
      | false =>
        have HR0 : Hid (R = false) := by show _ = _; rw [HV1.out, ht]; rfl
        clear HV1
        go_wp2_with (first
          | (go_at_call 60; (with_reducible refine (HBL.out w1).mono ?_); rintro e w2 ⟨v2, rfl, rfl, hb2⟩; have HB2 := Lib.hid hb2; obtain ⟨x0, x1, x2, x3, x4, x5, x6, x7, x8, x9, x10, x11, x12, x13, x14, x15⟩ := (HR.out.below hb2).cells)
          | fail)
        go_ret
        exact ⟨_, rfl, congrArg Value.bool HR0.out.symm, nx HB1.out HB2.out⟩
      | true =>
        have HR0 : Hid (R = SZ) := by show _ = _; rw [HV1.out, ht]; simp
        clear HV1
        go_wp2_with (first
          | (go_at_call 61; (with_reducible refine (HNS.out w2 HB2.out).mono ?_); rintro e w0 ⟨rfl, rfl⟩)
          | (go_at_call 60; (with_reducible refine (HBL.out w1).mono ?_); rintro e w2 ⟨v2, rfl, rfl, hb2⟩; have HB2 := Lib.hid hb2; obtain ⟨x0, x1, x2, x3, x4, x5, x6, x7, x8, x9, x10, x11, x12, x13, x14, x15⟩ := (HR.out.below hb2).cells)
          | fail)
        go_ret
        exact ⟨_, rfl, congrArg Value.bool HR0.out.symm, nx HB1.out HB2.out⟩
  by_cases h3 : x.kind = 3
  · have hk0 : (x.kind == 1) = false := by simp [h1]
    have hk1 : (x.kind == 2) = false := by simp [h2]
    have hk : (x.kind == 3) = true := by simp [h3]
    have HV1 : Hid (R = (TT && (BF && ((x.zone.length : Int) == 0)))) := by show _ = _; rw [HV.out, if_neg h1, if_neg h2, if_pos h3, HZZ.out]
    clear HV h1 h2 h3
    cases TT with
    | false =>
      have HR0 : Hid (R = false) := by show _ = _; rw [HV1.out]; rfl
      clear HV1
      go_wp2_with (first
        | (go_at_call 62; (with_reducible refine (HTT.out w1).mono ?_); rintro e w0 ⟨rfl, rfl⟩)
        | fail)
      go_ret
      exact ⟨_, rfl, congrArg Value.bool HR0.out.symm, HB1.out⟩
    | true =>
      cases BF with
      | false =>
        have HR0 : Hid (R = false) := by show _ = _; rw [HV1.out]; rfl
        clear HV1
        go_wp2_with (first
          | (go_at_call 60; (with_reducible refine (HBL.out w1).mono ?_); rintro e w2 ⟨v2, rfl, rfl, hb2⟩; have HB2 := Lib.hid hb2; obtain ⟨x0, x1, x2, x3, x4, x5, x6, x7, x8, x9, x10, x11, x12, x13, x14, x15⟩ := (HR.out.below hb2).cells)
          | (go_at_call 62; (with_reducible refine (HTT.out w1).mono ?_); rintro e w0 ⟨rfl, rfl⟩)
          | fail)
        go_ret
        exact ⟨_, rfl, congrArg Value.bool HR0.out.symm, nx HB1.out HB2.out⟩
      | true =>
        have HR0 : Hid (R = ((x.zone.length : Int) == 0)) := by show _ = _; rw [HV1.out]; simp
        clear HV1
        go_wp2_with (first
          | (go_at_call 60; (with_reducible refine (HBL.out w1).mono ?_); rintro e w2 ⟨v2, rfl, rfl, hb2⟩; have HB2 := Lib.hid hb2; obtain ⟨x0, x1, x2, x3, x4, x5, x6, x7, x8, x9, x10, x11, x12, x13, x14, x15⟩ := (HR.out.below hb2).cells)
          | (go_at_call 62; (with_reducible refine (HTT.out w1).mono ?_); rintro e w0 ⟨rfl, rfl⟩)
          | fail)
        go_ret
        exact ⟨_, rfl, congrArg Value.bool HR0.out.symm, nx HB1.out HB2.out⟩
  have hk0 : (x.kind == 1) = false := by simp [h1]
  have hk1 : (x.kind == 2) = false := by simp [h2]
  have hk2 : (x.kind == 3) = false := by simp [h3]
  have HR0 : Hid (R = false) := by show _ = _; rw [HV.out, if_neg h1, if_neg h2, if_neg h3]
  clear HV h1 h2 h3
  go_wp2
  go_ret
  exact ⟨_, rfl, congrArg Value.bool HR0.out.symm, HB1.out⟩
end Go.Proofs.Ytimkdpkhdbiniaa
