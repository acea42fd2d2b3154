/- Parts of a proof, joined: Fact3. -/
import Derived.Test.YtimkdpkhdbiniaaZDF02
/- fact.Sound. -/
namespace Go.Proofs.Ytimkdpkhdbiniaa
open Go.RowKit
set_option maxRecDepth 100000
set_option linter.unusedVariables false

set_option maxHeartbeats 16000000 in
theorem psoundF_any (s : FS) (f : Fa) (w : World) {S : Nat → Prop} (h : FaIn S w s f) (hS : ∀ b, S b → b < w.heap.size) (hL : LtF f) :
    Calls Try.prog 59 #[faV s f] w (RetP (fun v _ => v = .bool (fineF f)) w) := by
  obtain ⟨w1, hw1⟩ : ∃ w1, w1 = w.alloc (.cells (faCells s f) 48) := ⟨_, rfl⟩
  have hb1 : Below w.heap.size w w1 := by rw [hw1]; exact bl.alloc (Nat.le_refl _) _
  have HR : Hid (FaRow w1 w.heap.size s f) := by show FaRow _ _ _ _; rw [hw1]; exact FaRow.made w s f
  have HB1 := Lib.hid hb1
  have hI := h.below hb1 hS
  have hS1 : ∀ b, S b → b < w1.heap.size := fun b hb => Nat.lt_of_lt_of_le (hS b hb) hb1.size
  have HNS := Lib.hid (sound_any s.A f.name.length s.ac f.name w1 hI.n (by have := hL.n; omega))
  have HZS := Lib.hid (sound_any s.Z f.zone.length s.zc f.zone w1 hI.z (by have := hL.z; omega))
  have HUN := Lib.hid (nunder_any s.A s.Z f.name.length s.ac f.zone.length s.zc f.name f.zone w1 (hI.n.mono hS1 hS1) (hI.z.mono hS1 hS1) (by have := hL.n; omega) (by have := hL.z; omega) h.cn.1)
  have HDI := Lib.hid (distinct_any f.type s.S f.set.length s.sc f.set w1 (hI.l.mono hS1 hS1) hL.l h.cl.1 (fun d hd => ⟨(hL.s d hd).1, (hL.s d hd).2.1, (hL.s d hd).2.2.1, (hL.s d hd).2.2.2.1⟩))
  have HNO : Hid (∀ W, Below w1.heap.size w1 W → Calls Try.prog 108 #[dsV s.d f.soa] W (RetP (fun v _ => v = .bool (noneD f.soa)) W)) := fun W hW => none_any s.d f.soa W ⟨by have := hL.d.1; omega, by have := hL.d.2.1; omega, by have := hL.d.2.2.1; omega, by have := hL.d.2.2.2.1; omega, by have := hL.d.2.2.2.2; omega⟩
  have HSO : Hid (∀ W, Below w1.heap.size w1 W → Calls Try.prog 109 #[.int .i64 6, dsV s.d f.soa] W (RetP (fun v _ => v = .bool (fineB 6 f.soa)) W)) := fun W hW => dsound_big 6 s.d f.soa W ((hI.d.rd hS1).below hW) (by have := hL.d.1; omega) (by have := hL.d.2.1; omega) (by have := hL.d.2.2.1; omega) (by have := hL.d.2.2.2.1; omega)
  obtain ⟨x0, x1, x2, x3, x4, x5, x6, x7, x8, x9, x10, x11, x12⟩ := HR.out.cells
  unfold dsV at HNO HSO
  unfold faV
  unfold faCells at hw1 ⊢
  clear h hS hb1 hI hS1 hL
  go_enter Try.func59, Try.ntmps59
  go_upto_region 1 with (fail)
  rw [← hw1]
  clear hw1
  have HFF : Hid (fineF f = (soundB f.name && decide (1 ≤ f.rank) && decide (f.rank ≤ 4) && timeB f.got && decide (0 ≤ f.ttl) && decide (f.ttl ≤ 604800) && (if f.kind = 1 then fineH f else fineN f))) := rfl
  have HHH : Hid (fineH f = (typedB f.type && decide (1 ≤ f.set.length) && decide (f.set.length ≤ 64) && distP f.type f.set f.set.length && decide (f.zone.length = 0) && noneD f.soa)) := rfl
  have HNN : Hid (fineN f = (decide (f.ttl ≤ 10800) && decide (f.set.length = 0) && soundB f.zone && underB f.name f.zone && fineB 6 f.soa && ((decide (f.kind = 2) && typedB f.type) || (decide (f.kind = 3) && decide (f.type = 0))))) := rfl
  generalize fineH f = FH at HFF HHH
  generalize fineN f = FN at HFF HNN
  generalize soundB f.name = B0 at *
  generalize soundB f.zone = B2 at *
  generalize underB f.name f.zone = B3 at *
  generalize fineB 6 f.soa = B4 at *
  generalize noneD f.soa = B5 at *
  generalize distP f.type f.set f.set.length = B6 at *

  cases B0 with
  | false =>
    have HV : Hid (fineF f = false) := by show _ = _; rw [HFF.out]; simp
    clear HFF HHH HNN
    go_wp2_with (first
      | (go_at_call 61; (with_reducible refine HNS.out.mono ?_); rintro e w0 ⟨rfl, rfl⟩)
      | fail)
    go_ret
    exact ⟨_, rfl, by rw [HV.out]; rfl, HB1.out⟩
  | true =>
    by_cases r1 : f.rank < 1
    · have _ := r1
      have HV : Hid (fineF f = false) := by show _ = _; rw [HFF.out]; have e : ¬ 1 ≤ f.rank := (by omega); simp [e]
      clear HFF HHH HNN
      go_wp2_with (first
        | (go_at_call 61; (with_reducible refine HNS.out.mono ?_); rintro e w0 ⟨rfl, rfl⟩)
        | fail)
      go_ret
      exact ⟨_, rfl, by rw [HV.out]; rfl, HB1.out⟩
    · have _ := r1
      by_cases r4 : 4 < f.rank
      · have _ := r4
        have HV : Hid (fineF f = false) := by show _ = _; rw [HFF.out]; have e : ¬ f.rank ≤ 4 := (by omega); simp [e]
        clear HFF HHH HNN
        go_wp2_with (first
          | (go_at_call 61; (with_reducible refine HNS.out.mono ?_); rintro e w0 ⟨rfl, rfl⟩)
          | fail)
        go_ret
        exact ⟨_, rfl, by rw [HV.out]; rfl, HB1.out⟩
      · have _ := r4
        have HTT := Lib.hid (ttime_any f.got w1)
        cases hg : timeB f.got with
        | false =>
          have HG := Lib.hid hg
          clear hg
          have HV : Hid (fineF f = false) := by show _ = _; rw [HFF.out]; have e := HG.out; simp [e]
          clear HFF HHH HNN
          go_wp2_with (first
            | (go_at_call 62; refine (ttime_any f.got w1).mono ?_; rw [HG.out]; rintro e w0 ⟨rfl, rfl⟩)
            | (go_at_call 61; (with_reducible refine HNS.out.mono ?_); rintro e w0 ⟨rfl, rfl⟩)
            | fail)
          go_ret
          exact ⟨_, rfl, by rw [HV.out]; rfl, HB1.out⟩
        | true =>
          have HG := Lib.hid hg
          clear hg
          by_cases l0 : f.ttl < 0
          · have _ := l0
            have HV : Hid (fineF f = false) := by show _ = _; rw [HFF.out]; have e : ¬ 0 ≤ f.ttl := (by omega); simp [e]
            clear HFF HHH HNN
            go_wp2_with (first
              | (go_at_call 62; refine (ttime_any f.got w1).mono ?_; rw [HG.out]; rintro e w0 ⟨rfl, rfl⟩)
              | (go_at_call 61; (with_reducible refine HNS.out.mono ?_); rintro e w0 ⟨rfl, rfl⟩)
              | fail)
            go_ret
            exact ⟨_, rfl, by rw [HV.out]; rfl, HB1.out⟩
          · have _ := l0
            by_cases l1 : 604800 < f.ttl
            · have _ := l1
              have HV : Hid (fineF f = false) := by show _ = _; rw [HFF.out]; have e : ¬ f.ttl ≤ 604800 := (by omega); simp [e]
              clear HFF HHH HNN
              go_wp2_with (first
                | (go_at_call 62; refine (ttime_any f.got w1).mono ?_; rw [HG.out]; rintro e w0 ⟨rfl, rfl⟩)
                | (go_at_call 61; (with_reducible refine HNS.out.mono ?_); rintro e w0 ⟨rfl, rfl⟩)
                | fail)
              go_ret
              exact ⟨_, rfl, by rw [HV.out]; rfl, HB1.out⟩
            · have _ := l1
              by_cases k1 : f.kind = 1
              · have HTOP : Hid (fineF f = FH) := by show _ = _; rw [HFF.out]; have e1 : 1 ≤ f.rank := (by omega); have e2 : f.rank ≤ 4 := (by omega); have e3 : 0 ≤ f.ttl := (by omega); have e4 : f.ttl ≤ 604800 := (by omega); have e5 := HG.out; simp [e1, e2, e3, e4, e5, k1]
                have kb : (f.kind == 1) = true := by simp [k1]
                have HFF : Hid (fineF f = (typedB f.type && decide (1 ≤ f.set.length) && decide (f.set.length ≤ 64) && B6 && decide (f.zone.length = 0) && B5)) := by show _ = _; rw [HTOP.out, HHH.out]
                clear k1 HTOP
                cases hty : typedB f.type with
                | false =>
                  have HTY := Lib.hid hty
                  clear hty
                  have HV : Hid (fineF f = false) := by show _ = _; rw [HFF.out]; have e := HTY.out; simp [e]
                  clear HFF HHH HNN
                  go_wp2_with (first
                    | (go_at_call 106; refine (typed_any f.type w1).mono ?_; rw [HTY.out]; rintro e w0 ⟨rfl, rfl⟩)
                    | (go_at_call 62; refine (ttime_any f.got w1).mono ?_; rw [HG.out]; rintro e w0 ⟨rfl, rfl⟩)
                    | (go_at_call 61; (with_reducible refine HNS.out.mono ?_); rintro e w0 ⟨rfl, rfl⟩)
                    | fail)
                  go_ret
                  exact ⟨_, rfl, by rw [HV.out]; rfl, HB1.out⟩
                | true =>
                  have HTY := Lib.hid hty
                  clear hty
                  by_cases c1 : 1 ≤ f.set.length
                  · have _ := c1
                    have c1i : (1 : Int) ≤ (f.set.length : Int) := by omega
                    have c1d : decide ((1 : Int) ≤ (f.set.length : Int)) = true := decide_eq_true c1i
                    by_cases c2 : f.set.length ≤ 64
                    · have _ := c2
                      have c2i : (f.set.length : Int) ≤ 64 := by omega
                      have c2d : decide ((f.set.length : Int) ≤ 64) = true := decide_eq_true c2i
                      cases B6 with
                      | false =>
                        have HV : Hid (fineF f = false) := by show _ = _; rw [HFF.out]; simp
                        clear HFF HHH HNN
                        go_wp2_with (first
                          | (go_at_call 107; refine HDI.out.mono ?_; rintro e w2 ⟨v2, rfl, rfl, hb2⟩; obtain ⟨x0, x1, x2, x3, x4, x5, x6, x7, x8, x9, x10, x11, x12⟩ := (HR.out.below hb2).cells)
                          | (go_at_call 106; refine (typed_any f.type w1).mono ?_; rw [HTY.out]; rintro e w0 ⟨rfl, rfl⟩)
                          | (go_at_call 62; refine (ttime_any f.got w1).mono ?_; rw [HG.out]; rintro e w0 ⟨rfl, rfl⟩)
                          | (go_at_call 61; (with_reducible refine HNS.out.mono ?_); rintro e w0 ⟨rfl, rfl⟩)
                          | fail)
                        go_ret
                        exact ⟨_, rfl, by rw [HV.out]; rfl, nx HB1.out hb2⟩
                      | true =>
                        by_cases z0 : f.zone.length = 0
                        · have _ := z0
                          have z0d : ((f.zone.length : Int) == 0) = true := by rw [z0]; rfl
                          have HFG : Hid (fineF f = B5) := by show _ = _; rw [HFF.out]; have e := HTY.out; simp [e, c1, c2, z0]
                          clear z0
                          cases B5 with
                          | false =>
                            have HV : Hid (fineF f = false) := by show _ = _; rw [HFF.out]; rw [← HFF.out, HFG.out]
                            clear HFF HHH HNN
                            go_wp2_with (first
                              | (go_at_call 108; refine (HNO.out w2 hb2).mono ?_; rintro e w3 ⟨v3, rfl, rfl, hb3⟩)
                              | (go_at_call 107; refine HDI.out.mono ?_; rintro e w2 ⟨v2, rfl, rfl, hb2⟩; obtain ⟨x0, x1, x2, x3, x4, x5, x6, x7, x8, x9, x10, x11, x12⟩ := (HR.out.below hb2).cells)
                              | (go_at_call 106; refine (typed_any f.type w1).mono ?_; rw [HTY.out]; rintro e w0 ⟨rfl, rfl⟩)
                              | (go_at_call 62; refine (ttime_any f.got w1).mono ?_; rw [HG.out]; rintro e w0 ⟨rfl, rfl⟩)
                              | (go_at_call 61; (with_reducible refine HNS.out.mono ?_); rintro e w0 ⟨rfl, rfl⟩)
                              | fail)
                            go_ret
                            exact ⟨_, rfl, by rw [HV.out]; rfl, nx HB1.out (nx hb2 hb3)⟩
                          | true =>
                            have HV : Hid (fineF f = true) := by show _ = _; rw [HFF.out]; rw [← HFF.out, HFG.out]
                            clear HFF HHH HNN
                            go_wp2_with (first
                              | (go_at_call 108; refine (HNO.out w2 hb2).mono ?_; rintro e w3 ⟨v3, rfl, rfl, hb3⟩)
                              | (go_at_call 107; refine HDI.out.mono ?_; rintro e w2 ⟨v2, rfl, rfl, hb2⟩; obtain ⟨x0, x1, x2, x3, x4, x5, x6, x7, x8, x9, x10, x11, x12⟩ := (HR.out.below hb2).cells)
                              | (go_at_call 106; refine (typed_any f.type w1).mono ?_; rw [HTY.out]; rintro e w0 ⟨rfl, rfl⟩)
                              | (go_at_call 62; refine (ttime_any f.got w1).mono ?_; rw [HG.out]; rintro e w0 ⟨rfl, rfl⟩)
                              | (go_at_call 61; (with_reducible refine HNS.out.mono ?_); rintro e w0 ⟨rfl, rfl⟩)
                              | fail)
                            go_ret
                            exact ⟨_, rfl, by rw [HV.out]; rfl, nx HB1.out (nx hb2 hb3)⟩
                        · have _ := z0
                          have z0d : ((f.zone.length : Int) == 0) = false := by simp; intro h; exact z0 (by rw [h]; rfl)
                          have HV : Hid (fineF f = false) := by show _ = _; rw [HFF.out]; simp [z0]
                          clear HFF HHH HNN
                          go_wp2_with (first
                            | (go_at_call 107; refine HDI.out.mono ?_; rintro e w2 ⟨v2, rfl, rfl, hb2⟩; obtain ⟨x0, x1, x2, x3, x4, x5, x6, x7, x8, x9, x10, x11, x12⟩ := (HR.out.below hb2).cells)
                            | (go_at_call 106; refine (typed_any f.type w1).mono ?_; rw [HTY.out]; rintro e w0 ⟨rfl, rfl⟩)
                            | (go_at_call 62; refine (ttime_any f.got w1).mono ?_; rw [HG.out]; rintro e w0 ⟨rfl, rfl⟩)
                            | (go_at_call 61; (with_reducible refine HNS.out.mono ?_); rintro e w0 ⟨rfl, rfl⟩)
                            | fail)
                          go_ret
                          exact ⟨_, rfl, by rw [HV.out]; rfl, nx HB1.out hb2⟩
                    · have _ := c2
                      have c2i : ¬ (f.set.length : Int) ≤ 64 := by omega
                      have c2d : decide ((f.set.length : Int) ≤ 64) = false := decide_eq_false c2i
                      have c2n : decide (f.set.length ≤ 64) = false := decide_eq_false c2
                      have HV : Hid (fineF f = false) := by show _ = _; rw [HFF.out]; simp [c2]
                      clear HFF HHH HNN
                      go_wp2_with (first
                        | (go_at_call 106; refine (typed_any f.type w1).mono ?_; rw [HTY.out]; rintro e w0 ⟨rfl, rfl⟩)
                        | (go_at_call 62; refine (ttime_any f.got w1).mono ?_; rw [HG.out]; rintro e w0 ⟨rfl, rfl⟩)
                        | (go_at_call 61; (with_reducible refine HNS.out.mono ?_); rintro e w0 ⟨rfl, rfl⟩)
                        | fail)
                      go_ret
                      exact ⟨_, rfl, by rw [HV.out]; rfl, HB1.out⟩
                  · have _ := c1
                    have c1i : ¬ (1 : Int) ≤ (f.set.length : Int) := by omega
                    have c1d : decide ((1 : Int) ≤ (f.set.length : Int)) = false := decide_eq_false c1i
                    have c1n : decide (1 ≤ f.set.length) = false := decide_eq_false c1
                    have HV : Hid (fineF f = false) := by show _ = _; rw [HFF.out]; simp [c1]
                    clear HFF HHH HNN
                    go_wp2_with (first
                      | (go_at_call 106; refine (typed_any f.type w1).mono ?_; rw [HTY.out]; rintro e w0 ⟨rfl, rfl⟩)
                      | (go_at_call 62; refine (ttime_any f.got w1).mono ?_; rw [HG.out]; rintro e w0 ⟨rfl, rfl⟩)
                      | (go_at_call 61; (with_reducible refine HNS.out.mono ?_); rintro e w0 ⟨rfl, rfl⟩)
                      | fail)
                    go_ret
                    exact ⟨_, rfl, by rw [HV.out]; rfl, HB1.out⟩
              · have HTOP : Hid (fineF f = FN) := by show _ = _; rw [HFF.out]; have e1 : 1 ≤ f.rank := (by omega); have e2 : f.rank ≤ 4 := (by omega); have e3 : 0 ≤ f.ttl := (by omega); have e4 : f.ttl ≤ 604800 := (by omega); have e5 := HG.out; simp [e1, e2, e3, e4, e5, k1]
                have kb : (f.kind == 1) = false := by simp [k1]
                have HFF : Hid (fineF f = (decide (f.ttl ≤ 10800) && decide (f.set.length = 0) && B2 && B3 && B4 && ((decide (f.kind = 2) && typedB f.type) || (decide (f.kind = 3) && decide (f.type = 0))))) := by show _ = _; rw [HTOP.out, HNN.out]
                clear HTOP
                by_cases m1 : 10800 < f.ttl
                · have _ := m1
                  have HV : Hid (fineF f = false) := by show _ = _; rw [HFF.out]; have e : ¬ f.ttl ≤ 10800 := (by omega); simp [e]
                  clear HFF HHH HNN
                  go_wp2_with (first
                    | (go_at_call 62; refine (ttime_any f.got w1).mono ?_; rw [HG.out]; rintro e w0 ⟨rfl, rfl⟩)
                    | (go_at_call 61; (with_reducible refine HNS.out.mono ?_); rintro e w0 ⟨rfl, rfl⟩)
                    | fail)
                  go_ret
                  exact ⟨_, rfl, by rw [HV.out]; rfl, HB1.out⟩
                · have _ := m1
                  by_cases m2 : 0 < f.set.length
                  · have _ := m2
                    have m2i : (0 : Int) < (f.set.length : Int) := by omega
                    have m2d : decide ((0 : Int) < (f.set.length : Int)) = true := decide_eq_true m2i
                    have HV : Hid (fineF f = false) := by show _ = _; rw [HFF.out]; have e : ¬ f.set.length = 0 := (by omega); simp [e]
                    clear HFF HHH HNN
                    go_wp2_with (first
                      | (go_at_call 62; refine (ttime_any f.got w1).mono ?_; rw [HG.out]; rintro e w0 ⟨rfl, rfl⟩)
                      | (go_at_call 61; (with_reducible refine HNS.out.mono ?_); rintro e w0 ⟨rfl, rfl⟩)
                      | fail)
                    go_ret
                    exact ⟨_, rfl, by rw [HV.out]; rfl, HB1.out⟩
                  · have _ := m2
                    have m2i : ¬ (0 : Int) < (f.set.length : Int) := by omega
                    have m2d : decide ((0 : Int) < (f.set.length : Int)) = false := decide_eq_false m2i
                    cases B2 with
                    | false =>
                      have HV : Hid (fineF f = false) := by show _ = _; rw [HFF.out]; simp
                      clear HFF HHH HNN
                      go_wp2_with (first
                        | (go_at_call 62; refine (ttime_any f.got w1).mono ?_; rw [HG.out]; rintro e w0 ⟨rfl, rfl⟩)
                        | (go_at_call 61; (with_reducible refine HNS.out.mono ?_); rintro e w0 ⟨rfl, rfl⟩)
                        | (go_at_call 61; (with_reducible refine HZS.out.mono ?_); rintro e w0 ⟨rfl, rfl⟩)
                        | fail)
                      go_ret
                      exact ⟨_, rfl, by rw [HV.out]; rfl, HB1.out⟩
                    | true =>
                      cases B3 with
                      | false =>
                        have HV : Hid (fineF f = false) := by show _ = _; rw [HFF.out]; simp
                        clear HFF HHH HNN
                        go_wp2_with (first
                          | (go_at_call 83; refine HUN.out.mono ?_; rintro e w2 ⟨v2, rfl, rfl, hb2⟩; obtain ⟨x0, x1, x2, x3, x4, x5, x6, x7, x8, x9, x10, x11, x12⟩ := (HR.out.below hb2).cells)
                          | (go_at_call 62; refine (ttime_any f.got w1).mono ?_; rw [HG.out]; rintro e w0 ⟨rfl, rfl⟩)
                          | (go_at_call 61; (with_reducible refine HNS.out.mono ?_); rintro e w0 ⟨rfl, rfl⟩)
                          | (go_at_call 61; (with_reducible refine HZS.out.mono ?_); rintro e w0 ⟨rfl, rfl⟩)
                          | fail)
                        go_ret
                        exact ⟨_, rfl, by rw [HV.out]; rfl, nx HB1.out hb2⟩
                      | true =>
                        cases B4 with
                        | false =>
                          have HV : Hid (fineF f = false) := by show _ = _; rw [HFF.out]; simp
                          clear HFF HHH HNN
                          go_wp2_with (first
                            | (go_at_call 109; refine (HSO.out w2 hb2).mono ?_; rintro e w3 ⟨v3, rfl, rfl, hb3⟩; obtain ⟨x0, x1, x2, x3, x4, x5, x6, x7, x8, x9, x10, x11, x12⟩ := (HR.out.below (nx hb2 hb3)).cells)
                            | (go_at_call 83; refine HUN.out.mono ?_; rintro e w2 ⟨v2, rfl, rfl, hb2⟩; obtain ⟨x0, x1, x2, x3, x4, x5, x6, x7, x8, x9, x10, x11, x12⟩ := (HR.out.below hb2).cells)
                            | (go_at_call 62; refine (ttime_any f.got w1).mono ?_; rw [HG.out]; rintro e w0 ⟨rfl, rfl⟩)
                            | (go_at_call 61; (with_reducible refine HNS.out.mono ?_); rintro e w0 ⟨rfl, rfl⟩)
                            | (go_at_call 61; (with_reducible refine HZS.out.mono ?_); rintro e w0 ⟨rfl, rfl⟩)
                            | fail)
                          go_ret
                          exact ⟨_, rfl, by rw [HV.out]; rfl, nx HB1.out (nx hb2 hb3)⟩
                        | true =>
                          have HFF : Hid (fineF f = ((decide (f.kind = 2) && typedB f.type) || (decide (f.kind = 3) && decide (f.type = 0)))) := by show _ = _; rw [HFF.out]; have e : f.ttl ≤ 10800 := (by omega); have e2 : f.set.length = 0 := (by omega); simp [e, e2]
                          by_cases k2 : f.kind = 2
                          · have k2b : (f.kind == 2) = true := by simp [k2]
                            have k3b : (f.kind == 3) = false := by simp [k2]
                            cases hty : typedB f.type with
                            | false =>
                              have HTY := Lib.hid hty
                              have HK2 := Lib.hid k2
                              clear hty k2
                              have HV : Hid (fineF f = false) := by show _ = _; rw [HFF.out]; have e := HTY.out; have e2 := HK2.out; simp [e, e2]
                              clear HFF HHH HNN
                              go_wp2_with (first
                                | (go_at_call 106; refine (typed_any f.type w3).mono ?_; rw [HTY.out]; rintro e w0 ⟨rfl, rfl⟩)
                                | (go_at_call 109; refine (HSO.out w2 hb2).mono ?_; rintro e w3 ⟨v3, rfl, rfl, hb3⟩; obtain ⟨x0, x1, x2, x3, x4, x5, x6, x7, x8, x9, x10, x11, x12⟩ := (HR.out.below (nx hb2 hb3)).cells)
                                | (go_at_call 83; refine HUN.out.mono ?_; rintro e w2 ⟨v2, rfl, rfl, hb2⟩; obtain ⟨x0, x1, x2, x3, x4, x5, x6, x7, x8, x9, x10, x11, x12⟩ := (HR.out.below hb2).cells)
                                | (go_at_call 62; refine (ttime_any f.got w1).mono ?_; rw [HG.out]; rintro e w0 ⟨rfl, rfl⟩)
                                | (go_at_call 61; (with_reducible refine HNS.out.mono ?_); rintro e w0 ⟨rfl, rfl⟩)
                                | (go_at_call 61; (with_reducible refine HZS.out.mono ?_); rintro e w0 ⟨rfl, rfl⟩)
                                | fail)
                              go_ret
                              exact ⟨_, rfl, by rw [HV.out]; rfl, nx HB1.out (nx hb2 hb3)⟩
                            | true =>
                              have HTY := Lib.hid hty
                              have HK2 := Lib.hid k2
                              clear hty k2
                              have HV : Hid (fineF f = true) := by show _ = _; rw [HFF.out]; have e := HTY.out; have e2 := HK2.out; simp [e, e2]
                              clear HFF HHH HNN
                              go_wp2_with (first
                                | (go_at_call 106; refine (typed_any f.type w3).mono ?_; rw [HTY.out]; rintro e w0 ⟨rfl, rfl⟩)
                                | (go_at_call 109; refine (HSO.out w2 hb2).mono ?_; rintro e w3 ⟨v3, rfl, rfl, hb3⟩; obtain ⟨x0, x1, x2, x3, x4, x5, x6, x7, x8, x9, x10, x11, x12⟩ := (HR.out.below (nx hb2 hb3)).cells)
                                | (go_at_call 83; refine HUN.out.mono ?_; rintro e w2 ⟨v2, rfl, rfl, hb2⟩; obtain ⟨x0, x1, x2, x3, x4, x5, x6, x7, x8, x9, x10, x11, x12⟩ := (HR.out.below hb2).cells)
                                | (go_at_call 62; refine (ttime_any f.got w1).mono ?_; rw [HG.out]; rintro e w0 ⟨rfl, rfl⟩)
                                | (go_at_call 61; (with_reducible refine HNS.out.mono ?_); rintro e w0 ⟨rfl, rfl⟩)
                                | (go_at_call 61; (with_reducible refine HZS.out.mono ?_); rintro e w0 ⟨rfl, rfl⟩)
                                | fail)
                              go_ret
                              exact ⟨_, rfl, by rw [HV.out]; rfl, nx HB1.out (nx hb2 hb3)⟩
                          · have k2b : (f.kind == 2) = false := by simp [k2]
                            by_cases k3 : f.kind = 3
                            · have k3b : (f.kind == 3) = true := by simp [k3]
                              have HK3 := Lib.hid k3
                              by_cases t0 : f.type = 0
                              · have t0b : (f.type == 0) = true := by simp [t0]
                                have HT0 := Lib.hid t0
                                clear k2 k3 t0 k1
                                have HV : Hid (fineF f = true) := by show _ = _; rw [HFF.out]; have e := HK3.out; have e2 := HT0.out; simp [e, e2]
                                clear HFF HHH HNN
                                go_wp2_with (first
                                  | (go_at_call 109; refine (HSO.out w2 hb2).mono ?_; rintro e w3 ⟨v3, rfl, rfl, hb3⟩; obtain ⟨x0, x1, x2, x3, x4, x5, x6, x7, x8, x9, x10, x11, x12⟩ := (HR.out.below (nx hb2 hb3)).cells)
                                  | (go_at_call 83; refine HUN.out.mono ?_; rintro e w2 ⟨v2, rfl, rfl, hb2⟩; obtain ⟨x0, x1, x2, x3, x4, x5, x6, x7, x8, x9, x10, x11, x12⟩ := (HR.out.below hb2).cells)
                                  | (go_at_call 62; refine (ttime_any f.got w1).mono ?_; rw [HG.out]; rintro e w0 ⟨rfl, rfl⟩)
                                  | (go_at_call 61; (with_reducible refine HNS.out.mono ?_); rintro e w0 ⟨rfl, rfl⟩)
                                  | (go_at_call 61; (with_reducible refine HZS.out.mono ?_); rintro e w0 ⟨rfl, rfl⟩)
                                  | fail)
                                go_ret
                                exact ⟨_, rfl, by rw [HV.out]; rfl, nx HB1.out (nx hb2 hb3)⟩
                              · have t0b : (f.type == 0) = false := by simp [t0]
                                have HT0 := Lib.hid t0
                                clear k2 k3 t0 k1
                                have HV : Hid (fineF f = false) := by show _ = _; rw [HFF.out]; have e := HK3.out; have e2 := HT0.out; simp [e, e2]
                                clear HFF HHH HNN
                                go_wp2_with (first
                                  | (go_at_call 109; refine (HSO.out w2 hb2).mono ?_; rintro e w3 ⟨v3, rfl, rfl, hb3⟩; obtain ⟨x0, x1, x2, x3, x4, x5, x6, x7, x8, x9, x10, x11, x12⟩ := (HR.out.below (nx hb2 hb3)).cells)
                                  | (go_at_call 83; refine HUN.out.mono ?_; rintro e w2 ⟨v2, rfl, rfl, hb2⟩; obtain ⟨x0, x1, x2, x3, x4, x5, x6, x7, x8, x9, x10, x11, x12⟩ := (HR.out.below hb2).cells)
                                  | (go_at_call 62; refine (ttime_any f.got w1).mono ?_; rw [HG.out]; rintro e w0 ⟨rfl, rfl⟩)
                                  | (go_at_call 61; (with_reducible refine HNS.out.mono ?_); rintro e w0 ⟨rfl, rfl⟩)
                                  | (go_at_call 61; (with_reducible refine HZS.out.mono ?_); rintro e w0 ⟨rfl, rfl⟩)
                                  | fail)
                                go_ret
                                exact ⟨_, rfl, by rw [HV.out]; rfl, nx HB1.out (nx hb2 hb3)⟩
                            · have k3b : (f.kind == 3) = false := by simp [k3]
                              have HV : Hid (fineF f = false) := by show _ = _; rw [HFF.out]; simp [k2, k3]
                              clear HFF HHH HNN
                              go_wp2_with (first
                                | (go_at_call 109; refine (HSO.out w2 hb2).mono ?_; rintro e w3 ⟨v3, rfl, rfl, hb3⟩; obtain ⟨x0, x1, x2, x3, x4, x5, x6, x7, x8, x9, x10, x11, x12⟩ := (HR.out.below (nx hb2 hb3)).cells)
                                | (go_at_call 83; refine HUN.out.mono ?_; rintro e w2 ⟨v2, rfl, rfl, hb2⟩; obtain ⟨x0, x1, x2, x3, x4, x5, x6, x7, x8, x9, x10, x11, x12⟩ := (HR.out.below hb2).cells)
                                | (go_at_call 62; refine (ttime_any f.got w1).mono ?_; rw [HG.out]; rintro e w0 ⟨rfl, rfl⟩)
                                | (go_at_call 61; (with_reducible refine HNS.out.mono ?_); rintro e w0 ⟨rfl, rfl⟩)
                                | (go_at_call 61; (with_reducible refine HZS.out.mono ?_); rintro e w0 ⟨rfl, rfl⟩)
                                | fail)
                              go_ret
                              exact ⟨_, rfl, by rw [HV.out]; rfl, nx HB1.out (nx hb2 hb3)⟩
end Go.Proofs.Ytimkdpkhdbiniaa
