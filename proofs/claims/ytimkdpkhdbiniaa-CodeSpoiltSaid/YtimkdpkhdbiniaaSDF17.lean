/- Parts of a proof, joined: RCode2. -/
import Derived.Test.YtimkdpkhdbiniaaSDF14
import Derived.Test.YtimkdpkhdbiniaaSDF13
import Derived.Test.YtimkdpkhdbiniaaSDF09
/- The reference: Bytes of any entry, and which entries may be (printed by gen/rcode2.py). -/
namespace Go.Proofs.Ytimkdpkhdbiniaa
open Go.RowKit
set_option maxRecDepth 100000
set_option linter.unusedVariables false

set_option maxHeartbeats 16000000 in
theorem rEntry_any (s : ES) (x : En) (w : World) {S : Nat → Prop} (h : EnIn S w s x) (hS : ∀ b, S b → b < w.heap.size) (hL : LtE x) :
    Calls Try.prog 22 #[.int .i64 x.kind, .int .i64 x.time, faV s.f x.f, .slice s.Z x.zone.length s.zc] w (RetP (fun v _ => v = .bool (fineE x)) w) := by
  obtain ⟨w1, hw1⟩ : ∃ w1, w1 = w.alloc (.cells (faCells s.f x.f) 48) := ⟨_, rfl⟩
  have hb1 : Below w.heap.size w w1 := by rw [hw1]; exact bl.alloc (Nat.le_refl _) _
  have HR : Hid (FaRow w1 w.heap.size s.f x.f) := by show FaRow _ _ _ _; rw [hw1]; exact FaRow.made w s.f x.f
  have HB1 := Lib.hid hb1
  obtain ⟨x0, x1, x2, x3, x4, x5, x6, x7, x8, x9, x10, x11, x12⟩ := HR.out.cells
  have HFS : Hid (Calls Try.prog 34 #[faV s.f x.f] w1 (RetP (fun v _ => v = .bool (fineF x.f)) w1)) := rsoundF_any s.f x.f w1 (h.f.below hb1 hS) (fun b hb => Nat.lt_of_lt_of_le (hS b hb) hb1.size) hL.f
  have HBL : Hid (∀ u, Calls Try.prog 58 #[faV s.f x.f] u (RetP (fun v _ => v = .bool (blankF x.f)) u)) := fun u => rblank_any s.f x.f u hL.b
  have HNS : Hid (∀ u, Below w1.heap.size w1 u → Calls Try.prog 27 #[.slice s.Z x.zone.length s.zc] u (Ret (.bool (soundB x.zone)) u)) := fun u hu => rsound_any s.Z x.zone.length s.zc x.zone u ((h.z.below hb1 hS hS).below hu (fun b hb => Nat.lt_of_lt_of_le (hS b hb) hb1.size) (fun b hb => Nat.lt_of_lt_of_le (hS b hb) hb1.size))
  have HTT : Hid (∀ u, Calls Try.prog 26 #[.int .i64 x.time] u (Ret (.bool (timeB x.time)) u)) := fun u => rtime_any x.time u
  have HV : Hid (fineE x = if x.kind = 1 then (x.time == 0) && (decide (x.zone.length = 0) && fineF x.f) else if x.kind = 2 then (x.time == 0) && (blankF x.f && soundB x.zone) else if x.kind = 3 then timeB x.time && (blankF x.f && decide (x.zone.length = 0)) else false) := rfl
  have hzz : ((x.zone.length : Int) == 0) = decide (x.zone.length = 0) := by by_cases h : x.zone.length = 0 <;> simp [h]
  have HZZ := Lib.hid hzz
  unfold faV faCells at HFS HBL
  unfold faV
  unfold faCells at hw1 ⊢
  clear h hS hb1 hzz hL
  generalize fineE x = R at HV ⊢
  generalize fineF x.f = FF at HFS HV
  generalize blankF x.f = BF at HBL HV
  generalize soundB x.zone = SZ at HNS HV
  generalize timeB x.time = TT at HTT HV
  go_enter Try.func22, Try.ntmps22
  go_upto_region 1 with (fail)
  rw [← hw1]
  clear hw1
  by_cases h1 : x.kind = 1
  · have hk : (x.kind == 1) = true := by simp [h1]
    have HV1 : Hid (R = ((x.time == 0) && (((x.zone.length : Int) == 0) && FF))) := by show _ = _; rw [HV.out, if_pos h1, HZZ.out]
    clear HV h1
    cases ht : (x.time == 0) with
    | false =>
      have HR0 : Hid (R = false) := by show _ = _; rw [HV1.out, ht]; rfl
      clear HV1
      go_wp2
      go_ret
      exact ⟨_, rfl, congrArg Value.bool HR0.out.symm, HB1.out⟩
    | true =>
      cases hz : ((x.zone.length : Int) == 0) with
      | false =>
        have HR0 : Hid (R = false) := by show _ = _; rw [HV1.out, ht, hz]; rfl
        clear HV1
        go_wp2
        go_ret
        exact ⟨_, rfl, congrArg Value.bool HR0.out.symm, HB1.out⟩
      | true =>
        have HR0 : Hid (R = FF) := by show _ = _; rw [HV1.out, ht, hz]; simp
        clear HV1
        go_wp2_with (first
          | (go_at_call 34; (with_reducible refine HFS.out.mono ?_); rintro e w2 ⟨v2, rfl, rfl, hb2⟩)
          | fail)
        go_ret
        exact ⟨_, rfl, congrArg Value.bool HR0.out.symm, nx HB1.out hb2⟩
  by_cases h2 : x.kind = 2
  · have hk0 : (x.kind == 1) = false := by simp [h1]
    have hk : (x.kind == 2) = true := by simp [h2]
    have HV1 : Hid (R = ((x.time == 0) && (BF && SZ))) := by show _ = _; rw [HV.out, if_neg h1, if_pos h2]
    clear HV h1 h2
    cases ht : (x.time == 0) with
    | false =>
      have HR0 : Hid (R = false) := by show _ = _; rw [HV1.out, ht]; rfl
      clear HV1
      go_wp2
      go_ret
      exact ⟨_, rfl, congrArg Value.bool HR0.out.symm, HB1.out⟩
    | true =>
      cases BF with
      | false =>
        have HR0 : Hid (R = false) := by show _ = _; rw [HV1.out, ht]; rfl
        clear HV1
        go_wp2_with (first
          | (go_at_call 58; (with_reducible refine (HBL.out w1).mono ?_); rintro e w2 ⟨v2, rfl, rfl, hb2⟩; have HB2 := Lib.hid hb2)
          | fail)
        go_ret
        exact ⟨_, rfl, congrArg Value.bool HR0.out.symm, nx HB1.out HB2.out⟩
      | true =>
        have HR0 : Hid (R = SZ) := by show _ = _; rw [HV1.out, ht]; simp
        clear HV1
        go_wp2_with (first
          | (go_at_call 27; (with_reducible refine (HNS.out w2 HB2.out).mono ?_); rintro e w0 ⟨rfl, rfl⟩)
          | (go_at_call 58; (with_reducible refine (HBL.out w1).mono ?_); rintro e w2 ⟨v2, rfl, rfl, hb2⟩; have HB2 := Lib.hid hb2)
          | fail)
        go_ret
        exact ⟨_, rfl, congrArg Value.bool HR0.out.symm, nx HB1.out HB2.out⟩
  by_cases h3 : x.kind = 3
  · have hk0 : (x.kind == 1) = false := by simp [h1]
    have hk1 : (x.kind == 2) = false := by simp [h2]
    have hk : (x.kind == 3) = true := by simp [h3]
    have HV1 : Hid (R = (TT && (BF && ((x.zone.length : Int) == 0)))) := by show _ = _; rw [HV.out, if_neg h1, if_neg h2, if_pos h3, HZZ.out]
    clear HV h1 h2 h3
    cases TT with
    | false =>
      have HR0 : Hid (R = false) := by show _ = _; rw [HV1.out]; rfl
      clear HV1
      go_wp2_with (first
        | (go_at_call 26; (with_reducible refine (HTT.out w1).mono ?_); rintro e w0 ⟨rfl, rfl⟩)
        | fail)
      go_ret
      exact ⟨_, rfl, congrArg Value.bool HR0.out.symm, HB1.out⟩
    | true =>
      cases BF with
      | false =>
        have HR0 : Hid (R = false) := by show _ = _; rw [HV1.out]; rfl
        clear HV1
        go_wp2_with (first
          | (go_at_call 58; (with_reducible refine (HBL.out w1).mono ?_); rintro e w2 ⟨v2, rfl, rfl, hb2⟩; have HB2 := Lib.hid hb2)
          | (go_at_call 26; (with_reducible refine (HTT.out w1).mono ?_); rintro e w0 ⟨rfl, rfl⟩)
          | fail)
        go_ret
        exact ⟨_, rfl, congrArg Value.bool HR0.out.symm, nx HB1.out HB2.out⟩
      | true =>
        have HR0 : Hid (R = ((x.zone.length : Int) == 0)) := by show _ = _; rw [HV1.out]; simp
        clear HV1
        go_wp2_with (first
          | (go_at_call 58; (with_reducible refine (HBL.out w1).mono ?_); rintro e w2 ⟨v2, rfl, rfl, hb2⟩; have HB2 := Lib.hid hb2)
          | (go_at_call 26; (with_reducible refine (HTT.out w1).mono ?_); rintro e w0 ⟨rfl, rfl⟩)
          | fail)
        go_ret
        exact ⟨_, rfl, congrArg Value.bool HR0.out.symm, nx HB1.out HB2.out⟩
  have hk0 : (x.kind == 1) = false := by simp [h1]
  have hk1 : (x.kind == 2) = false := by simp [h2]
  have hk2 : (x.kind == 3) = false := by simp [h3]
  have HR0 : Hid (R = false) := by show _ = _; rw [HV.out, if_neg h1, if_neg h2, if_neg h3]
  clear HV h1 h2 h3
  go_wp2
  go_ret
  exact ⟨_, rfl, congrArg Value.bool HR0.out.symm, HB1.out⟩

end Go.Proofs.Ytimkdpkhdbiniaa
