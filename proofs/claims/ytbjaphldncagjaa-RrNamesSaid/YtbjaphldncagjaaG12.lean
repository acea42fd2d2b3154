/- Parts of a proof, joined: LawT, Ans04, Light4, ExD, DBack, Law04B. -/
import Derived.Test.YtbjaphldncagjaaG01
import Derived.Test.YtbjaphldncagjaaG07
import Derived.Test.YtbjaphldncagjaaG03
import Derived.Test.YtbjaphldncagjaaG02
import Derived.Test.YtbjaphldncagjaaG04
import Derived.Test.YtbjaphldncagjaaG10
import Derived.Test.YtbjaphldncagjaaG11
/- What each law's walk ends with. -/
namespace Go.Proofs.Ytbjaphldncagjaa
open Go.RowKit

/-- The law returns true, and what was there is as it was. -/
def LawT (w : World) (e : Ending) (w' : World) : Prop := e = .returned (.bool true) ∧ Below w.heap.size w w'
end Go.Proofs.Ytbjaphldncagjaa

/- rdata: what the law asks of a program that does something (by the general reader). -/
namespace Go.Proofs.Ytbjaphldncagjaa
open Go.RowKit
set_option maxRecDepth 100000

theorem getD_1234 : getD [1, 2, 3, 4] ((0 : Nat) : Int) ((4 : Nat) : Int) 1 = ({ Da.zero with bytes := [1, 2, 3, 4] }, 0) := by
  unfold getD
  rw [if_neg (by decide), if_neg (by decide)]
  rfl
set_option maxHeartbeats 1000000 in
theorem answers04_any (w : World) : Calls Try.prog 46 #[] w (LawT w) := by
  obtain ⟨w1, hw1⟩ : ∃ w1, w1 = w.alloc (.cells #[.int .u8 1, .int .u8 2, .int .u8 3, .int .u8 4] 5) := ⟨_, rfl⟩
  have hb1 : Below w.heap.size w w1 := by rw [hw1]; exact bl.alloc (Nat.le_refl _) _
  have hr1 : RdB w1 (some ⟨w.heap.size, 0, none⟩) 4 [1, 2, 3, 4] := by rw [hw1]; exact lit_rd w [1, 2, 3, 4] (by decide)
  have hlt : w.heap.size < w1.heap.size := by rw [hw1]; simp
  have hget := getD_any w1 (some ⟨w.heap.size, 0, none⟩) 4 4 0 4 1 [1, 2, 3, 4] hr1 (fun b off e => by injection e with e; injection e with e; omega) (by decide) (by decide) (by decide) (by decide) (by decide) (by decide)
  unfold goodG at hget
  rw [getD_1234] at hget
  have HG := Lib.hid hget
  clear hget
  go_enter Try.func46, Try.ntmps46
  go_wp2_with fail
  rw [← hw1]
  clear hw1
  refine HG.out.mono ?_
  rintro e w2 ⟨v2, rfl, ⟨s, rfl, hgot⟩, hb2⟩
  unfold dsV
  obtain ⟨w3, hw3⟩ : ∃ w3, w3 = w2.alloc (.cells #[.slice s.A0 4 s.c0, .slice s.A1 0 s.c1, .slice s.A2 0 s.c2, .slice s.A3 0 s.c3, .slice s.A4 0 s.c4] 46) := ⟨_, rfl⟩
  have hb3 : Below w2.heap.size w2 w3 := by rw [hw3]; exact bl.alloc (Nat.le_refl _) _
  have y0 : w3.cell? ⟨w2.heap.size, 0, none⟩ = some (.slice s.A0 4 s.c0) := by rw [hw3]; exact new_cell _ _ _ 0
  have hr2 : RdB w2 s.A0 4 [1, 2, 3, 4] := hgot.b.rd.1
  obtain ⟨b, off, x, hA, hx, hc⟩ := (hr2.below hb3).at_ (k := 3) (by omega)
  rw [hA] at y0 hw3
  have hx4 : x = 4 := by injection hx with hx; exact hx.symm
  subst hx4
  have hc' : w3.cell? ⟨b, off + 3, none⟩ = some (.int .u8 4) := hc
  have hbA := nx (nx hb1 hb2) hb3
  clear hx hc hr2 hr1 hgot
  go_upto_region 2 with (fail)
  change Code.wp _ _ _ _ (w2.alloc (.cells #[.slice (some ⟨b, off, none⟩) 4 s.c0, .slice s.A1 0 s.c1, .slice s.A2 0 s.c2, .slice s.A3 0 s.c3, .slice s.A4 0 s.c4] 46))
  rw [← hw3]
  clear hw3
  go_wp2
  go_ret
  exact ⟨rfl, hbA⟩
end Go.Proofs.Ytbjaphldncagjaa

/- RdataSame: is data not too large? -/
namespace Go.Proofs.Ytbjaphldncagjaa
open Go.RowKit
set_option maxRecDepth 100000

def LightD (x : Da) : Prop := (∀ l ∈ x.host, l.length ≤ 300) ∧ (∀ l ∈ x.mail, l.length ≤ 300) ∧ (∀ l ∈ x.texts, l.length ≤ 600) ∧ x.host.length ≤ 300 ∧ x.mail.length ≤ 300 ∧ x.texts.length ≤ 200 ∧ x.nums.length ≤ 200 ∧ x.bytes.length ≤ 70000
instance (x : Da) : Decidable (LightD x) := by unfold LightD; exact inferInstance
def lightD (x : Da) : Bool := decide (LightD x)
theorem all_snoc {P : List UInt8 → Prop} {ls : List (List UInt8)} {k : Nat} {l : List UInt8} (hx : ls[k]? = some l) (h : ∀ y ∈ ls.take k, P y) (hl : P l) : ∀ y ∈ ls.take (k + 1), P y := fun y hy => by
  rw [List.take_add_one, hx, Option.toList_some, List.mem_append, List.mem_singleton] at hy
  rcases hy with hy | rfl
  · exact h y hy
  · exact hl

set_option maxHeartbeats 2000000 in
theorem light04_any (s : DS) (x : Da) (w : World) (hx : DRd w s x) : Calls Try.prog 47 #[dsV s x] w (RetP (fun v _ => v = .bool (lightD x)) w) := by
  unfold dsV
  obtain ⟨w0, hw0⟩ : ∃ w0, w0 = w.alloc (.cells #[.slice s.A0 x.bytes.length s.c0, .slice s.A1 x.host.length s.c1, .slice s.A2 x.mail.length s.c2, .slice s.A3 x.nums.length s.c3, .slice s.A4 x.texts.length s.c4] 46) := ⟨_, rfl⟩
  have hb0 : Below w.heap.size w w0 := by rw [hw0]; exact bl.alloc (Nat.le_refl _) _
  have hbx : DBox w0 w.heap.size s x := by rw [hw0]; exact DBox.made w s x _
  have hh := hx.h.below hb0
  have hm := hx.m.below hb0
  have ht := hx.t.below hb0
  obtain ⟨a0, a1, a2, a3, a4⟩ := hbx
  have hch := hx.ch
  have hcm := hx.cm
  have hct := hx.ct
  have hcn := hx.cn
  have hcb := hx.cb
  unfold maxLen at hch hcm hct hcn hcb
  go_enter Try.func47, Try.ntmps47
  go_upto_region 1 with (fail)
  rw [← hw0]
  clear hw0 hx
  go_wp2
  go_loop [3] (fun iv => ∃ k : Nat, iv = .int .i64 k ∧ k ≤ x.host.length ∧ Hid (∀ l ∈ x.host.take k, l.length ≤ 300)) (fun iv => x.host.length - (intOf iv).toNat)
  case atStart => exact ⟨0, rfl, Nat.zero_le _, fun l hl => by simp at hl⟩
  case round =>
    obtain ⟨k, rfl, hk, HT3⟩ := hrel
    by_cases hlt : k < x.host.length
    · obtain ⟨l, hl⟩ : ∃ l, x.host[k]? = some l := ⟨_, List.getElem?_eq_getElem hlt⟩
      obtain ⟨b, off, eb, _, hc, hlm⟩ := strs_at hh hl
      rw [eb] at a1
      have hbs := bstr_size l
      have HL := Lib.hid hl
      clear hl
      unfold maxLen at hlm
      by_cases h3 : l.length ≤ 300
      · go_wp2
        go_round
        case rel => exact ⟨k + 1, by go_num, by omega, all_snoc HL.out HT3.out h3⟩
        case measure => simp [intOf]; omega
      · have HF : Hid (lightD x = false) := decide_eq_false fun h => h3 (h.1 l (List.mem_of_getElem? HL.out))
        go_wp2
        go_ret
        exact ⟨_, rfl, by rw [HF.out]; rfl, hb0⟩
    · have hke : k = x.host.length := by omega
      have HA3 : Hid (∀ l ∈ x.host, l.length ≤ 300) := by
        show ∀ l ∈ x.host, l.length ≤ 300
        have := HT3.out
        rw [hke, List.take_length] at this
        exact this
      clear hke HT3
      go_wp2
      go_loop [4] (fun iv => ∃ k : Nat, iv = .int .i64 k ∧ k ≤ x.mail.length ∧ Hid (∀ l ∈ x.mail.take k, l.length ≤ 300)) (fun iv => x.mail.length - (intOf iv).toNat)
      case atStart => exact ⟨0, rfl, Nat.zero_le _, fun l hl => by simp at hl⟩
      case round =>
        obtain ⟨k, rfl, hk, HT4⟩ := hrel
        by_cases hlt : k < x.mail.length
        · obtain ⟨l, hl⟩ : ∃ l, x.mail[k]? = some l := ⟨_, List.getElem?_eq_getElem hlt⟩
          obtain ⟨b, off, eb, _, hc, hlm⟩ := strs_at hm hl
          rw [eb] at a2
          have hbs := bstr_size l
          have HL := Lib.hid hl
          clear hl
          unfold maxLen at hlm
          by_cases h3 : l.length ≤ 300
          · go_wp2
            go_round
            case rel => exact ⟨k + 1, by go_num, by omega, all_snoc HL.out HT4.out h3⟩
            case measure => simp [intOf]; omega
          · have HF : Hid (lightD x = false) := decide_eq_false fun h => h3 (h.2.1 l (List.mem_of_getElem? HL.out))
            go_wp2
            go_ret
            exact ⟨_, rfl, by rw [HF.out]; rfl, hb0⟩
        · have hke : k = x.mail.length := by omega
          have HA4 : Hid (∀ l ∈ x.mail, l.length ≤ 300) := by
            show ∀ l ∈ x.mail, l.length ≤ 300
            have := HT4.out
            rw [hke, List.take_length] at this
            exact this
          clear hke HT4
          go_wp2
          go_loop [5] (fun iv => ∃ k : Nat, iv = .int .i64 k ∧ k ≤ x.texts.length ∧ Hid (∀ l ∈ x.texts.take k, l.length ≤ 600)) (fun iv => x.texts.length - (intOf iv).toNat)
          case atStart => exact ⟨0, rfl, Nat.zero_le _, fun l hl => by simp at hl⟩
          case round =>
            obtain ⟨k, rfl, hk, HT5⟩ := hrel
            by_cases hlt : k < x.texts.length
            · obtain ⟨l, hl⟩ : ∃ l, x.texts[k]? = some l := ⟨_, List.getElem?_eq_getElem hlt⟩
              obtain ⟨b, off, eb, _, hc, hlm⟩ := strs_at ht hl
              rw [eb] at a4
              have hbs := bstr_size l
              have HL := Lib.hid hl
              clear hl
              unfold maxLen at hlm
              by_cases h3 : l.length ≤ 600
              · go_wp2
                go_round
                case rel => exact ⟨k + 1, by go_num, by omega, all_snoc HL.out HT5.out h3⟩
                case measure => simp [intOf]; omega
              · have HF : Hid (lightD x = false) := decide_eq_false fun h => h3 (h.2.2.1 l (List.mem_of_getElem? HL.out))
                go_wp2
                go_ret
                exact ⟨_, rfl, by rw [HF.out]; rfl, hb0⟩
            · have hke : k = x.texts.length := by omega
              have HA5 : Hid (∀ l ∈ x.texts, l.length ≤ 600) := by
                show ∀ l ∈ x.texts, l.length ≤ 600
                have := HT5.out
                rw [hke, List.take_length] at this
                exact this
              clear hke HT5
              by_cases q0 : x.host.length ≤ 300
              · skip
                by_cases q1 : x.mail.length ≤ 300
                · skip
                  by_cases q2 : x.texts.length ≤ 200
                  · skip
                    by_cases q3 : x.nums.length ≤ 200
                    · skip
                      have HF : Hid (lightD x = decide ((x.bytes.length : Int) ≤ 70000)) := by
                        show _ = _
                        unfold lightD
                        rw [Bool.eq_iff_iff, decide_eq_true_iff, decide_eq_true_iff]
                        exact ⟨fun h => by have := h.2.2.2.2.2.2.2; omega, fun h => ⟨HA3.out, HA4.out, HA5.out, q0, q1, q2, q3, by omega⟩⟩
                      go_wp2
                      go_ret
                      exact ⟨_, rfl, by rw [HF.out]; rfl, hb0⟩
                    · have HF : Hid (lightD x = false) := decide_eq_false fun h => q3 h.2.2.2.2.2.2.1
                      go_wp2
                      go_ret
                      exact ⟨_, rfl, by rw [HF.out]; rfl, hb0⟩
                  · have HF : Hid (lightD x = false) := decide_eq_false fun h => q2 h.2.2.2.2.2.1
                    go_wp2
                    go_ret
                    exact ⟨_, rfl, by rw [HF.out]; rfl, hb0⟩
                · have HF : Hid (lightD x = false) := decide_eq_false fun h => q1 h.2.2.2.2.1
                  go_wp2
                  go_ret
                  exact ⟨_, rfl, by rw [HF.out]; rfl, hb0⟩
              · have HF : Hid (lightD x = false) := decide_eq_false fun h => q0 h.2.2.2.1
                go_wp2
                go_ret
                exact ⟨_, rfl, by rw [HF.out]; rfl, hb0⟩
end Go.Proofs.Ytbjaphldncagjaa

/- The reference's Exact: are data the same, byte by byte? -/
namespace Go.Proofs.Ytbjaphldncagjaa
open Go.RowKit
set_option maxRecDepth 100000

/-- The same, byte by byte? -/
def exD (x y : Da) : Bool := sameD x y && (decide (x.host = y.host) && decide (x.mail = y.mail))
theorem sameD_refl (x : Da) : sameD x x = true := sameD_true rfl rfl rfl rfl rfl
theorem exD_refl (x : Da) : exD x x = true := by simp [exD, sameD_refl]
theorem exD_iff {x y : Da} : exD x y = true ↔ x = y := by
  constructor
  · intro h
    simp only [exD, Bool.and_eq_true, decide_eq_true_eq] at h
    obtain ⟨h1, h2, h3⟩ := h
    obtain ⟨a, b, c, _⟩ := sameD_iff.1 h1
    cases x; cases y; simp_all
  · rintro rfl; exact exD_refl _

set_option maxHeartbeats 4000000 in
theorem rexD_any (s r : DS) (x y : Da) (w : World) (hx : DRd w s x) (hy : DRd w r y) : Calls Try.prog 40 #[dsV s x, dsV r y] w (RetP (fun v _ => v = .bool (exD x y)) w) := by
  unfold dsV
  obtain ⟨w0, hw0⟩ : ∃ w0, w0 = (w.alloc (.cells #[.slice s.A0 x.bytes.length s.c0, .slice s.A1 x.host.length s.c1, .slice s.A2 x.mail.length s.c2, .slice s.A3 x.nums.length s.c3, .slice s.A4 x.texts.length s.c4] 46)).alloc (.cells #[.slice r.A0 y.bytes.length r.c0, .slice r.A1 y.host.length r.c1, .slice r.A2 y.mail.length r.c2, .slice r.A3 y.nums.length r.c3, .slice r.A4 y.texts.length r.c4] 46) := ⟨_, rfl⟩
  have hbA : Below w.heap.size w (w.alloc (.cells #[.slice s.A0 x.bytes.length s.c0, .slice s.A1 x.host.length s.c1, .slice s.A2 x.mail.length s.c2, .slice s.A3 x.nums.length s.c3, .slice s.A4 x.texts.length s.c4] 46)) := bl.alloc (Nat.le_refl _) _
  have hb0 : Below w.heap.size w w0 := by rw [hw0]; exact nx hbA (bl.alloc (Nat.le_refl _) _)
  have HX0 := Lib.hid (hx.below hb0)
  have HY0 := Lib.hid (hy.below hb0)
  have BX0 : Hid (DBox w0 w.heap.size s x) := by show DBox _ _ _ _; rw [hw0]; exact (DBox.made w s x _).below (bl.alloc (Nat.le_refl _) _)
  have BY0 : Hid (DBox w0 (w.heap.size + 1) r y) := by
    show DBox _ _ _ _
    rw [hw0]
    have := DBox.made (w.alloc (.cells #[.slice s.A0 x.bytes.length s.c0, .slice s.A1 x.host.length s.c1, .slice s.A2 x.mail.length s.c2, .slice s.A3 x.nums.length s.c3, .slice s.A4 x.texts.length s.c4] 46)) r y 46
    rw [show (w.alloc (.cells #[.slice s.A0 x.bytes.length s.c0, .slice s.A1 x.host.length s.c1, .slice s.A2 x.mail.length s.c2, .slice s.A3 x.nums.length s.c3, .slice s.A4 x.texts.length s.c4] 46)).heap.size = w.heap.size + 1 by simp] at this
    exact this
  clear hx hy hbA
  obtain ⟨a00, a01, a02, a03, a04⟩ := BX0.out
  obtain ⟨b00, b01, b02, b03, b04⟩ := BY0.out
  go_enter Try.func40, Try.ntmps40
  go_upto_region 1 with (fail)
  rw [← hw0]
  clear hw0
  cases e0 : sameD x y with
  | false =>
    have E0 := Lib.hid e0
    clear e0
    go_wp2_with (first
      | (go_at_call 94; refine (rsame_any s r x y w0 HX0.out HY0.out).mono ?_; rw [E0.out]; rintro e w1 ⟨v1, rfl, rfl, hb1⟩)
      | fail)
    go_ret
    exact ⟨_, rfl, by unfold exD; rw [E0.out]; rfl, nx hb0 hb1⟩
  | true =>
    have E0 := Lib.hid e0
    clear e0
    by_cases e1 : x.host = y.host
    · have E1 := Lib.hid e1
      clear e1
      go_wp2_with (first
        | (go_at_call 45; refine (rexact_any s.A2 r.A2 x.mail.length s.c2 y.mail.length r.c2 x.mail y.mail w2 HX2.out.m HY2.out.m (by have := HX2.out.cm; omega) (by have := HY2.out.cm; omega)).mono ?_; rintro e w3 ⟨rfl, m3, hw3⟩; have hb3 : Below w2.heap.size w2 w3 := (by rw [hw3]; exact dN bl m3); clear hw3)
        | (go_at_call 45; refine (rexact_any s.A1 r.A1 x.host.length s.c1 y.host.length r.c1 x.host y.host w1 HX1.out.h HY1.out.h (by have := HX1.out.ch; omega) (by have := HY1.out.ch; omega)).mono ?_; rw [decide_eq_true E1.out]; rintro e w2 ⟨rfl, m2, hw2⟩; have hb2 : Below w1.heap.size w1 w2 := (by rw [hw2]; exact dN bl m2); clear hw2; have HX2 := Lib.hid (HX1.out.below hb2); have HY2 := Lib.hid (HY1.out.below hb2); obtain ⟨c00, c01, c02, c03, c04⟩ := BX1.out.below hb2; obtain ⟨d00, d01, d02, d03, d04⟩ := BY1.out.below hb2)
        | (go_at_call 94; refine (rsame_any s r x y w0 HX0.out HY0.out).mono ?_; rw [E0.out]; rintro e w1 ⟨v1, rfl, rfl, hb1⟩; have HX1 := Lib.hid (HX0.out.below hb1); have HY1 := Lib.hid (HY0.out.below hb1); have BX1 := Lib.hid (BX0.out.below hb1); have BY1 := Lib.hid (BY0.out.below hb1); obtain ⟨f00, f01, f02, f03, f04⟩ := BX1.out; obtain ⟨g00, g01, g02, g03, g04⟩ := BY1.out)
        | fail)
      go_ret
      exact ⟨_, rfl, by unfold exD; rw [E0.out, decide_eq_true E1.out]; rfl, nx (nx (nx hb0 hb1) hb2) hb3⟩
    · have E1 := Lib.hid (decide_eq_false e1)
      clear e1
      go_wp2_with (first
        | (go_at_call 45; refine (rexact_any s.A1 r.A1 x.host.length s.c1 y.host.length r.c1 x.host y.host w1 HX1.out.h HY1.out.h (by have := HX1.out.ch; omega) (by have := HY1.out.ch; omega)).mono ?_; rw [E1.out]; rintro e w2 ⟨rfl, m2, hw2⟩; have hb2 : Below w1.heap.size w1 w2 := (by rw [hw2]; exact dN bl m2); clear hw2)
        | (go_at_call 94; refine (rsame_any s r x y w0 HX0.out HY0.out).mono ?_; rw [E0.out]; rintro e w1 ⟨v1, rfl, rfl, hb1⟩; have HX1 := Lib.hid (HX0.out.below hb1); have HY1 := Lib.hid (HY0.out.below hb1); have BX1 := Lib.hid (BX0.out.below hb1); have BY1 := Lib.hid (BY0.out.below hb1); obtain ⟨f00, f01, f02, f03, f04⟩ := BX1.out; obtain ⟨g00, g01, g02, g03, g04⟩ := BY1.out)
        | fail)
      go_ret
      exact ⟨_, rfl, by unfold exD; rw [E0.out, E1.out]; rfl, nx (nx hb0 hb1) hb2⟩
end Go.Proofs.Ytbjaphldncagjaa

/- rdata: data that was written is read as it is. No program in it. -/
namespace Go.Proofs.Ytbjaphldncagjaa

/-- Bytes l stand at p. -/
def Seg (b : List UInt8) (p : Nat) (l : List UInt8) : Prop := ∃ a y, b = a ++ l ++ y ∧ a.length = p
theorem Seg.cut {b l : List UInt8} {p : Nat} (h : Seg b p l) : (b.drop p).take l.length = l := by
  obtain ⟨a, y, rfl, rfl⟩ := h
  rw [List.append_assoc, List.drop_left, List.take_left]
theorem Seg.left {b l m : List UInt8} {p : Nat} (h : Seg b p (l ++ m)) : Seg b p l := by
  obtain ⟨a, y, rfl, rfl⟩ := h
  exact ⟨a, m ++ y, by simp, rfl⟩
theorem Seg.right {b l m : List UInt8} {p : Nat} (h : Seg b p (l ++ m)) : Seg b (p + l.length) m := by
  obtain ⟨a, y, rfl, rfl⟩ := h
  exact ⟨a ++ l, y, by simp, by simp⟩
theorem Seg.mk (a l y : List UInt8) : Seg (a ++ l ++ y) a.length l := ⟨a, y, rfl, rfl⟩

/-- Numbers of a size, one behind the other. -/
def numsB (ns : List Int) (z : Int) : List UInt8 := ns.flatMap fun n => putB [] n z
/-- Texts, one behind the other. -/
def textsB (ts : List (List UInt8)) : List UInt8 := ts.flatMap fun t => putB [] t.length 1 ++ t
theorem Wr.nums_b (x : Wr) (ns : List Int) (z : Int) : x.nums ns z = x.raw (numsB ns z) := by
  refine snoc_ind (P := fun ns => x.nums ns z = x.raw (numsB ns z)) (by simp [Wr.nums, numsB, Wr.raw]) (fun ns n ih => ?_) ns
  rw [Wr.nums_snoc, ih]
  simp [numsB, Wr.raw, List.flatMap_append]
theorem Wr.texts_b (x : Wr) (ts : List (List UInt8)) : x.texts ts = x.raw (textsB ts) := by
  refine snoc_ind (P := fun ts => x.texts ts = x.raw (textsB ts)) (by simp [Wr.texts, textsB, Wr.raw]) (fun ts n ih => ?_) ts
  rw [Wr.texts_snoc, ih]
  simp [textsB, Wr.raw, List.flatMap_append]
theorem numsB_cons (n : Int) (ns : List Int) (z : Int) : numsB (n :: ns) z = putB [] n z ++ numsB ns z := rfl
theorem textsB_cons (t : List UInt8) (ts : List (List UInt8)) : textsB (t :: ts) = putB [] t.length 1 ++ t ++ textsB ts := rfl
theorem putB_len_fit {n z : Int} (h : fitsB n z = true) : (putB [] n z).length = z.toNat := by
  have := putB_length [] n z h
  have h2 := fitsB_true h
  simp at this
  omega
theorem numsB_len {ns : List Int} {z : Int} (h : ∀ n ∈ ns, fitsB n z = true) : (numsB ns z).length = z.toNat * ns.length := by
  induction ns with
  | nil => simp [numsB]
  | cons n ns ih =>
    rw [numsB_cons, List.length_append, putB_len_fit (h n (List.mem_cons_self ..)), ih (fun m hm => h m (List.mem_cons_of_mem _ hm)), List.length_cons, Nat.mul_succ]
    omega
theorem fits_nat {n z : Int} (h : fitsB n z = true) : n.toNat < 256 ^ z.toNat := by
  obtain ⟨h1, h2, h3, h4⟩ := fitsB_true h
  obtain ⟨z, rfl⟩ := Int.eq_ofNat_of_zero_le (Int.le_trans (by decide) h1)
  obtain ⟨q, rfl⟩ := Int.eq_ofNat_of_zero_le h3
  simp only [Int.toNat_natCast] at h4 ⊢
  have : (q : Int) < ((256 ^ z : Nat) : Int) := by rw [Int.natCast_pow]; exact h4
  omega
theorem numR_back {b : List UInt8} {p en : Nat} {n z : Int} (hf : fitsB n z = true) (h : Seg b p (putB [] n z)) (he : p + z.toNat ≤ en) : numR b p en z.toNat = .ok (n.toNat, p + z.toNat) := by
  have h2 := fitsB_true hf
  have hc := h.cut
  rw [putB_len_fit hf] at hc
  unfold numR
  rw [if_neg (by omega), hc]
  unfold putB
  rw [if_pos hf, List.nil_append, val_be _ _ (fits_nat hf)]
theorem numR_cut {b : List UInt8} {p en z : Nat} (he : en < p + z) : numR b p en z = .error 3 := by unfold numR; rw [if_pos he]
theorem bytesR_back {b l : List UInt8} {p en : Nat} (h : Seg b p l) (he : p + l.length ≤ en) : bytesR b p en l.length = .ok (l, p + l.length) := by
  unfold bytesR
  rw [if_neg (by omega), h.cut]
theorem bytesR_cut {b : List UInt8} {p en z : Nat} (he : en < p + z) : bytesR b p en z = .error 3 := by unfold bytesR; rw [if_pos he]
theorem numsR_back {b : List UInt8} {en : Nat} {z : Int} : ∀ {ns : List Int} {p : Nat} {acc : List Int}, (∀ n ∈ ns, fitsB n z = true) → Seg b p (numsB ns z) → p + (numsB ns z).length ≤ en → numsR b en z.toNat ns.length p acc = .ok (acc ++ ns, p + (numsB ns z).length)
  | [], p, acc, _, _, _ => by simp [numsR, numsB]
  | n :: ns, p, acc, hf, h, he => by
    have hn := hf n (List.mem_cons_self ..)
    have hl := putB_len_fit hn
    rw [numsB_cons] at h he ⊢
    rw [List.length_append, hl] at he ⊢
    have h2 := h.right
    rw [hl] at h2
    rw [List.length_cons, numsR, numR_back hn h.left (by omega)]
    simp only
    rw [numsR_back (fun m hm => hf m (List.mem_cons_of_mem _ hm)) h2 (by omega)]
    have := (fitsB_true hn).2.2.1
    rw [Int.toNat_of_nonneg this, List.append_assoc, List.singleton_append, Nat.add_assoc]
/-- Too short by something: none. -/
theorem numsR_cut {b : List UInt8} {en z : Nat} : ∀ {k p : Nat} {acc : List Int}, p ≤ en → en < p + z * k → ∃ e, numsR b en z k p acc = .error e ∧ e = 3
  | 0, p, acc, h0, h => by omega
  | k + 1, p, acc, h0, h => by
    rw [numsR]
    by_cases h1 : en < p + z
    · rw [numR_cut h1]; exact ⟨3, rfl, rfl⟩
    · unfold numR
      rw [if_neg h1]
      simp only
      exact numsR_cut (by omega) (by rw [Nat.mul_succ] at h; omega)
theorem fits_len {t : List UInt8} (h : t.length ≤ 255) : fitsB (t.length : Int) 1 = true := by unfold fitsB; simp; omega
theorem textsR_back {b : List UInt8} {en : Nat} {ts : List (List UInt8)} : ∀ {k p : Nat} {acc : List (List UInt8)}, (∀ t ∈ ts, t.length ≤ 255) → ts.length ≤ k → 0 < (acc ++ ts).length → Seg b p (textsB ts) → p + (textsB ts).length = en → textsR b en k p acc = .ok (acc ++ ts, en) := by
  induction ts with
  | nil =>
    intro k p acc _ _ h0 _ he
    have he' : p = en := he
    rw [List.append_nil] at h0 ⊢
    cases k with
    | zero => rw [textsR, if_neg (by omega), if_neg (by omega), he']
    | succ k => rw [textsR, if_neg (by omega), if_neg (by omega), he']
  | cons t ts ih =>
    intro k p acc hf hk h0 h he
    cases k with
    | zero => simp at hk
    | succ k =>
      have ht := hf t (List.mem_cons_self ..)
      have hn := fits_len ht
      have hl : (putB [] (t.length : Int) 1).length = 1 := putB_len_fit hn
      rw [textsB_cons] at h he
      rw [List.length_append, List.length_append, hl] at he
      have h1 := h.left.left
      have h2 := h.left.right
      have h3 := h.right
      rw [List.length_append, hl] at h3
      rw [hl] at h2
      have hr : numR b p en 1 = .ok ((t.length : Int).toNat, p + 1) := numR_back (z := 1) hn h1 (by show p + 1 ≤ en; omega)
      rw [textsR, if_pos (by omega), hr]
      simp only
      rw [Int.toNat_natCast, bytesR_back h2 (by omega)]
      simp only
      rw [ih (acc := acc ++ [t]) (fun m hm => hf m (List.mem_cons_of_mem _ hm)) (by simpa using hk) (by simp; omega) (by rw [show p + 1 + t.length = p + (1 + t.length) by omega]; exact h3) (by omega)]
      simp
theorem nameX_back {b : List UInt8} {p q en : Nat} {n : List (List UInt8)} (hs : SoundN n) (h : Stands b p p q n) (hq : q ≤ en) : nameX b p en = .ok (n, q) := by
  have hr := h.read 0 [] (by simpa using hs.2)
  rw [List.nil_append, Nat.zero_max] at hr
  unfold nameX
  rw [hr]
  simp only
  rw [if_pos trivial, Int.toNat_natCast, if_neg (by omega)]
theorem nameX_cut {b : List UInt8} {p q en : Nat} {n : List (List UInt8)} (hs : SoundN n) (h : Stands b p p q n) (hq : en < q) : nameX b p en = .error 3 := by
  have hr := h.read 0 [] (by simpa using hs.2)
  rw [List.nil_append, Nat.zero_max] at hr
  unfold nameX
  rw [hr]
  simp only
  rw [if_pos trivial, Int.toNat_natCast, if_pos hq]

theorem Da.eta5 (d : Da) {b : List UInt8} {h m : List (List UInt8)} {n : List Int} {t : List (List UInt8)} (e1 : d.bytes = b) (e2 : d.host = h) (e3 : d.mail = m) (e4 : d.nums = n) (e5 : d.texts = t) : d = ⟨b, h, m, n, t⟩ := by
  cases d; simp_all
theorem nil_of_len0 {α : Type} {l : List α} (h : (l.length : Int) = 0) : l = [] := List.eq_nil_of_length_eq_zero (by omega)
section
variable {x : Wr} {d : Da}
theorem data_A (hf : FineS shpA d) : ∃ bs, d = ⟨bs, [], [], [], []⟩ ∧ bs.length = 4 ∧ x.data shpA d = x.raw bs := by
  obtain ⟨h1, h2, h3, h4, h5, h6, h7⟩ := hf
  simp [shpA, hostP, textsP] at h1 h3 h4 h5 h7
  have e := Da.eta5 d rfl h4 h5 h3 h7
  refine ⟨d.bytes, e, by omega, ?_⟩
  rw [e]; simp [Wr.data, shpA, Wr.texts, Wr.nums]
theorem data_Q (hf : FineS shpQ d) : ∃ bs, d = ⟨bs, [], [], [], []⟩ ∧ bs.length = 16 ∧ x.data shpQ d = x.raw bs := by
  obtain ⟨h1, h2, h3, h4, h5, h6, h7⟩ := hf
  simp [shpQ, hostP, textsP] at h1 h3 h4 h5 h7
  have e := Da.eta5 d rfl h4 h5 h3 h7
  refine ⟨d.bytes, e, by omega, ?_⟩
  rw [e]; simp [Wr.data, shpQ, Wr.texts, Wr.nums]
theorem data_B (hf : FineS shpB d) : ∃ bs, d = ⟨bs, [], [], [], []⟩ ∧ x.data shpB d = x.raw bs := by
  obtain ⟨h1, h2, h3, h4, h5, h6, h7⟩ := hf
  simp [shpB, hostP, textsP] at h3 h4 h5 h7
  have e := Da.eta5 d rfl h4 h5 h3 h7
  refine ⟨d.bytes, e, ?_⟩
  rw [e]; simp [Wr.data, shpB, Wr.texts, Wr.nums]
theorem data_T (hf : FineS shpT d) : ∃ ts, d = ⟨[], [], [], [], ts⟩ ∧ 1 ≤ ts.length ∧ ts.length ≤ 64 ∧ (∀ t ∈ ts, t.length ≤ 255) ∧ x.data shpT d = x.raw (textsB ts) := by
  obtain ⟨h1, h2, h3, h4, h5, h6, h7⟩ := hf
  simp only [shpT, hostP, textsP, if_pos, Bool.false_eq_true, ite_false] at h1 h3 h4 h5 h7
  have e := Da.eta5 d (nil_of_len0 (h1 (by decide))) h4 h5 (nil_of_len0 h3) rfl
  refine ⟨d.texts, e, h7.1, h7.2.1, h7.2.2, ?_⟩
  rw [e]; simp [Wr.data, shpT, Wr.texts_b, Wr.nums, Wr.raw]
theorem data_N (hf : FineS shpN d) : ∃ h, d = ⟨[], h, [], [], []⟩ ∧ SoundN h ∧ x.data shpN d = x.name h true := by
  obtain ⟨h1, h2, h3, h4, h5, h6, h7⟩ := hf
  simp only [shpN, hostP, textsP, if_pos, Bool.false_eq_true, ite_false] at h1 h3 h4 h5 h7
  have e := Da.eta5 d (nil_of_len0 (h1 (by decide))) rfl h5 (nil_of_len0 h3) h7
  refine ⟨d.host, e, h4, ?_⟩
  rw [e]; simp [Wr.data, shpN, Wr.texts, Wr.nums, Wr.raw_nil]
theorem data_M (hf : FineS shpM d) : ∃ ns h, d = ⟨[], h, [], ns, []⟩ ∧ ns.length = 1 ∧ (∀ n ∈ ns, fitsB n 2 = true) ∧ SoundN h ∧ x.data shpM d = (x.raw (numsB ns 2)).name h true := by
  obtain ⟨h1, h2, h3, h4, h5, h6, h7⟩ := hf
  simp only [shpM, hostP, textsP, if_pos, Bool.false_eq_true, ite_false] at h1 h3 h4 h5 h6 h7
  have e := Da.eta5 d (nil_of_len0 (h1 (by decide))) rfl h5 rfl h7
  refine ⟨d.nums, d.host, e, by omega, h6, h4, ?_⟩
  rw [e]; simp [Wr.data, shpM, Wr.texts, Wr.nums_b, Wr.raw_nil]
theorem data_V (hf : FineS shpV3 d) : ∃ ns h, d = ⟨[], h, [], ns, []⟩ ∧ ns.length = 3 ∧ (∀ n ∈ ns, fitsB n 2 = true) ∧ SoundN h ∧ x.data shpV3 d = (x.raw (numsB ns 2)).name h false := by
  obtain ⟨h1, h2, h3, h4, h5, h6, h7⟩ := hf
  simp only [shpV3, hostP, textsP, if_pos, Bool.false_eq_true, ite_false] at h1 h3 h4 h5 h6 h7
  have e := Da.eta5 d (nil_of_len0 (h1 (by decide))) rfl h5 rfl h7
  refine ⟨d.nums, d.host, e, by omega, h6, h4, ?_⟩
  rw [e]; simp [Wr.data, shpV3, Wr.texts, Wr.nums_b, Wr.raw_nil]
theorem data_S (hf : FineS shpS d) : ∃ ns h m, d = ⟨[], h, m, ns, []⟩ ∧ ns.length = 5 ∧ (∀ n ∈ ns, fitsB n 4 = true) ∧ SoundN h ∧ SoundN m ∧ x.data shpS d = ((x.name h true).name m true).raw (numsB ns 4) := by
  obtain ⟨h1, h2, h3, h4, h5, h6, h7⟩ := hf
  simp only [shpS, hostP, textsP, if_pos, Bool.false_eq_true, ite_false] at h1 h3 h4 h5 h6 h7
  have e := Da.eta5 d (nil_of_len0 (h1 (by decide))) rfl rfl rfl h7
  refine ⟨d.nums, d.host, d.mail, e, by omega, h6, h4, h5, ?_⟩
  rw [e]; simp [Wr.data, shpS, Wr.texts, Wr.nums_b, Wr.raw_nil]
end
theorem Wr.True.data {x : Wr} (hx : x.True) {k : Int} {d : Da} (hf : FineS (shapeP k) d) : (x.data (shapeP k) d).True := by
  rcases shape_cases k with e | e | e | e | e | e | e | e <;> rw [e] at hf ⊢
  · obtain ⟨_, _, _, e⟩ := data_A (x := x) hf; rw [e]; exact hx.raw _
  · obtain ⟨_, _, _, e⟩ := data_Q (x := x) hf; rw [e]; exact hx.raw _
  · obtain ⟨_, _, h, e⟩ := data_N (x := x) hf; rw [e]; exact (hx.name h.1 _).1
  · obtain ⟨_, _, _, _, _, h, e⟩ := data_M (x := x) hf; rw [e]; exact ((hx.raw _).name h.1 _).1
  · obtain ⟨_, _, _, _, _, _, h, h2, e⟩ := data_S (x := x) hf; rw [e]; exact (((hx.name h.1 _).1.name h2.1 _).1).raw _
  · obtain ⟨_, _, _, _, _, h, e⟩ := data_V (x := x) hf; rw [e]; exact ((hx.raw _).name h.1 _).1
  · obtain ⟨_, _, _, _, _, e⟩ := data_T (x := x) hf; rw [e]; exact hx.raw _
  · obtain ⟨_, _, e⟩ := data_B (x := x) hf; rw [e]; exact hx.raw _

theorem seg_raw (x : Wr) (l y : List UInt8) : Seg ((x.raw l).b ++ y) x.b.length l := Seg.mk _ _ _
theorem raw_len (x : Wr) (l : List UInt8) : (x.raw l).b.length = x.b.length + l.length := by simp [Wr.raw]
theorem seg_name (x : Wr) (l y : List UInt8) (n : List (List UInt8)) (sh : Bool) : Seg (((x.raw l).name n sh).b ++ y) x.b.length l := by
  obtain ⟨z, hz, _⟩ := Wr.name_b (x := x.raw l) n sh
  rw [hz]
  exact ⟨x.b, z ++ y, by simp [Wr.raw], rfl⟩

section
variable (b : List UInt8) (pos en : Nat)
theorem dataR_A : dataR b pos en shpA = (match bytesR b pos en 4 with | .error e => .error e | .ok (x, q) => .ok ({ Da.zero with bytes := x }, q)) := rfl
theorem dataR_Q : dataR b pos en shpQ = (match bytesR b pos en 16 with | .error e => .error e | .ok (x, q) => .ok ({ Da.zero with bytes := x }, q)) := rfl
theorem dataR_B : dataR b pos en shpB = (match bytesR b pos en (en - pos) with | .error e => .error e | .ok (x, q) => .ok ({ Da.zero with bytes := x }, q)) := rfl
theorem dataR_T : dataR b pos en shpT = (match textsR b en 64 pos [] with | .error e => .error e | .ok (x, q) => .ok ({ Da.zero with texts := x }, q)) := rfl
theorem dataR_N : dataR b pos en shpN = (match nameX b pos en with | .error e => .error e | .ok (n, q) => .ok ({ Da.zero with host := n }, q)) := rfl
theorem dataR_M : dataR b pos en shpM = (match numsR b en 2 1 pos [] with
    | .error e => .error e
    | .ok (x, q) => match nameX b q en with
      | .error e => .error e
      | .ok (n, r) => .ok ({ Da.zero with nums := x, host := n }, r)) := rfl
theorem dataR_V : dataR b pos en shpV3 = (match numsR b en 2 3 pos [] with
    | .error e => .error e
    | .ok (x, q) => match nameX b q en with
      | .error e => .error e
      | .ok (n, r) => .ok ({ Da.zero with nums := x, host := n }, r)) := rfl
theorem dataR_S : dataR b pos en shpS = (match nameX b pos en with
    | .error e => .error e
    | .ok (n, q) => match nameX b q en with
      | .error e => .error e
      | .ok (m, r) => match numsR b en 4 5 r [] with
        | .error e => .error e
        | .ok (x, t) => .ok ({ Da.zero with nums := x, host := n, mail := m }, t)) := rfl
end
/-- What was written is read, all of it; and of one byte less nothing, but of bytes and of many texts. -/
theorem data_back {x : Wr} (hx : x.True) {k : Int} {d : Da} (hf : FineS (shapeP k) d) (y : List UInt8) :
    dataR ((x.data (shapeP k) d).b ++ y) x.b.length (x.data (shapeP k) d).b.length (shapeP k) = .ok (d, (x.data (shapeP k) d).b.length) := by
  rcases shape_cases k with e | e | e | e | e | e | e | e <;> rw [e] at hf ⊢
  · obtain ⟨bs, rfl, hl, e⟩ := data_A (x := x) hf
    rw [e]
    have h := bytesR_back (en := (x.raw bs).b.length) (seg_raw x bs y) (by rw [raw_len]; omega)
    rw [hl] at h
    rw [dataR_A]
    rw [h, raw_len, hl]; rfl
  · obtain ⟨bs, rfl, hl, e⟩ := data_Q (x := x) hf
    rw [e]
    have h := bytesR_back (en := (x.raw bs).b.length) (seg_raw x bs y) (by rw [raw_len]; omega)
    rw [hl] at h
    rw [dataR_Q]
    rw [h, raw_len, hl]; rfl
  · obtain ⟨n, rfl, hn, e⟩ := data_N (x := x) hf
    rw [e]
    have h := nameX_back hn ((hx.name hn.1 true).2.ext y) (Nat.le_refl _)
    rw [dataR_N]
    rw [h]; rfl
  · obtain ⟨ns, n, rfl, hl, hns, hn, e⟩ := data_M (x := x) hf
    rw [e]
    have h := nameX_back hn (((hx.raw (numsB ns 2)).name hn.1 true).2.ext y) (Nat.le_refl _)
    obtain ⟨z, hz, _⟩ := Wr.name_b (x := x.raw (numsB ns 2)) n true
    have h2 := numsR_back (en := ((x.raw (numsB ns 2)).name n true).b.length) (acc := []) hns (seg_name x _ y n true) (by rw [hz]; simp [Wr.raw])
    rw [hl] at h2
    rw [raw_len] at h
    rw [dataR_M]
    rw [show numsR _ _ 2 1 _ [] = _ from h2]
    simp only
    rw [h]; rfl
  · obtain ⟨ns, n, m, rfl, hl, hns, hn, hm, e⟩ := data_S (x := x) hf
    rw [e]
    have t1 := hx.name hn.1 true
    have t2 := t1.1.name hm.1 true
    obtain ⟨z, hz, _⟩ := Wr.name_b (x := x.name n true) m true
    have hw : (((x.name n true).name m true).raw (numsB ns 4)).b ++ y = (x.name n true).b ++ (z ++ numsB ns 4 ++ y) := by simp [Wr.raw, hz]
    have hw2 : (((x.name n true).name m true).raw (numsB ns 4)).b ++ y = ((x.name n true).name m true).b ++ (numsB ns 4 ++ y) := by simp [Wr.raw]
    have q1 : (x.name n true).b.length ≤ ((x.name n true).name m true).b.length := by rw [hz]; simp
    have q2 := raw_len ((x.name n true).name m true) (numsB ns 4)
    have h := nameX_back (en := (((x.name n true).name m true).raw (numsB ns 4)).b.length) hn (t1.2.ext (z ++ numsB ns 4 ++ y)) (by omega)
    have h' := nameX_back (en := (((x.name n true).name m true).raw (numsB ns 4)).b.length) hm (t2.2.ext (numsB ns 4 ++ y)) (by omega)
    rw [← hw] at h
    rw [← hw2] at h'
    have h2 := numsR_back (en := (((x.name n true).name m true).raw (numsB ns 4)).b.length) (acc := []) hns (seg_raw ((x.name n true).name m true) _ y) (by omega)
    rw [hl] at h2
    rw [dataR_S]
    rw [h]
    simp only
    rw [h']
    simp only
    rw [show numsR _ _ 4 5 _ [] = _ from h2, q2]; rfl
  · obtain ⟨ns, n, rfl, hl, hns, hn, e⟩ := data_V (x := x) hf
    rw [e]
    have h := nameX_back hn (((hx.raw (numsB ns 2)).name hn.1 false).2.ext y) (Nat.le_refl _)
    obtain ⟨z, hz, _⟩ := Wr.name_b (x := x.raw (numsB ns 2)) n false
    have h2 := numsR_back (en := ((x.raw (numsB ns 2)).name n false).b.length) (acc := []) hns (seg_name x _ y n false) (by rw [hz]; simp [Wr.raw])
    rw [hl] at h2
    rw [raw_len] at h
    rw [dataR_V]
    rw [show numsR _ _ 2 3 _ [] = _ from h2]
    simp only
    rw [h]; rfl
  · obtain ⟨ts, rfl, h1, h64, ht, e⟩ := data_T (x := x) hf
    rw [e]
    have h := textsR_back (en := (x.raw (textsB ts)).b.length) (k := 64) (acc := []) ht h64 (by simp; omega) (seg_raw x _ y) (raw_len _ _).symm
    rw [dataR_T]
    rw [h]; rfl
  · obtain ⟨bs, rfl, e⟩ := data_B (x := x) hf
    rw [e]
    have h := bytesR_back (en := (x.raw bs).b.length) (seg_raw x bs y) (by rw [raw_len]; omega)
    rw [dataR_B]
    rw [raw_len, Nat.add_sub_cancel_left]
    rw [raw_len] at h
    rw [h]; rfl
theorem data_cut {x : Wr} (hx : x.True) {k : Int} {d : Da} (hf : FineS (shapeP k) d) (y : List UInt8) (hg : x.b.length < (x.data (shapeP k) d).b.length) (hb : d.bytes = []) (ht1 : d.texts.length ≤ 1) :
    ∃ e, dataR ((x.data (shapeP k) d).b ++ y) x.b.length ((x.data (shapeP k) d).b.length - 1) (shapeP k) = .error e ∧ (e = 2 ∨ e = 3) := by
  rcases shape_cases k with e | e | e | e | e | e | e | e <;> rw [e] at hf hg ⊢
  · obtain ⟨bs, rfl, hl, e⟩ := data_A (x := x) hf
    rw [show bs = [] from hb] at hl; cases hl
  · obtain ⟨bs, rfl, hl, e⟩ := data_Q (x := x) hf
    rw [show bs = [] from hb] at hl; cases hl
  · obtain ⟨n, rfl, hn, e⟩ := data_N (x := x) hf
    rw [e] at hg ⊢
    have h := nameX_cut (en := (x.name n true).b.length - 1) hn ((hx.name hn.1 true).2.ext y) (by omega)
    rw [dataR_N]
    rw [h]
    exact ⟨3, rfl, .inr rfl⟩
  · obtain ⟨ns, n, rfl, hl, hns, hn, e⟩ := data_M (x := x) hf
    rw [e] at hg ⊢
    have hst := (((hx.raw (numsB ns 2)).name hn.1 true).2.ext y)
    have hst2 := ((hx.raw (numsB ns 2)).name hn.1 true).2.lt
    have h := nameX_cut (en := ((x.raw (numsB ns 2)).name n true).b.length - 1) hn hst (by omega)
    rw [raw_len] at hst2
    have h2 := numsR_back (en := ((x.raw (numsB ns 2)).name n true).b.length - 1) (acc := []) hns (seg_name x _ y n true) (by omega)
    rw [hl] at h2
    rw [raw_len] at h
    rw [dataR_M]
    rw [show numsR _ _ 2 1 _ [] = _ from h2]
    simp only
    rw [h]
    exact ⟨3, rfl, .inr rfl⟩
  · obtain ⟨ns, n, m, rfl, hl, hns, hn, hm, e⟩ := data_S (x := x) hf
    rw [e] at hg ⊢
    have t1 := hx.name hn.1 true
    have t2 := t1.1.name hm.1 true
    obtain ⟨z, hz, _⟩ := Wr.name_b (x := x.name n true) m true
    have hw : (((x.name n true).name m true).raw (numsB ns 4)).b ++ y = (x.name n true).b ++ (z ++ numsB ns 4 ++ y) := by simp [Wr.raw, hz]
    have hw2 : (((x.name n true).name m true).raw (numsB ns 4)).b ++ y = ((x.name n true).name m true).b ++ (numsB ns 4 ++ y) := by simp [Wr.raw]
    have q1 : (x.name n true).b.length ≤ ((x.name n true).name m true).b.length := by rw [hz]; simp
    have q2 := raw_len ((x.name n true).name m true) (numsB ns 4)
    have q3 : (numsB ns 4).length = 20 := by rw [numsB_len hns, hl]; rfl
    have h := nameX_back (en := (((x.name n true).name m true).raw (numsB ns 4)).b.length - 1) hn (t1.2.ext (z ++ numsB ns 4 ++ y)) (by omega)
    have h' := nameX_back (en := (((x.name n true).name m true).raw (numsB ns 4)).b.length - 1) hm (t2.2.ext (numsB ns 4 ++ y)) (by omega)
    rw [← hw] at h
    rw [← hw2] at h'
    obtain ⟨e', h2, he'⟩ := numsR_cut (b := (((x.name n true).name m true).raw (numsB ns 4)).b ++ y) (en := (((x.name n true).name m true).raw (numsB ns 4)).b.length - 1) (z := 4) (k := 5) (p := ((x.name n true).name m true).b.length) (acc := []) (by omega) (by omega)
    rw [dataR_S]
    rw [h]
    simp only
    rw [h']
    simp only
    rw [h2]
    exact ⟨e', rfl, .inr he'⟩
  · obtain ⟨ns, n, rfl, hl, hns, hn, e⟩ := data_V (x := x) hf
    rw [e] at hg ⊢
    have hst := (((hx.raw (numsB ns 2)).name hn.1 false).2.ext y)
    have hst2 := ((hx.raw (numsB ns 2)).name hn.1 false).2.lt
    have h := nameX_cut (en := ((x.raw (numsB ns 2)).name n false).b.length - 1) hn hst (by omega)
    rw [raw_len] at hst2
    have h2 := numsR_back (en := ((x.raw (numsB ns 2)).name n false).b.length - 1) (acc := []) hns (seg_name x _ y n false) (by omega)
    rw [hl] at h2
    rw [raw_len] at h
    rw [dataR_V]
    rw [show numsR _ _ 2 3 _ [] = _ from h2]
    simp only
    rw [h]
    exact ⟨3, rfl, .inr rfl⟩
  · obtain ⟨ts, rfl, h1, h64, ht, e⟩ := data_T (x := x) hf
    rw [e] at hg ⊢
    obtain ⟨t, rfl⟩ : ∃ t, ts = [t] := by
      cases ts with
      | nil => simp at h1
      | cons t ts => cases ts with
        | nil => exact ⟨t, rfl⟩
        | cons u us => simp at ht1
    have htl := ht t (List.mem_singleton.2 rfl)
    have hn := fits_len htl
    have hl : (putB [] (t.length : Int) 1).length = 1 := putB_len_fit hn
    have hs := seg_raw x (textsB [t]) y
    have hq := raw_len x (textsB [t])
    have hb1 : (textsB [t]).length = 1 + t.length := by rw [textsB_cons]; simp [hl, textsB]
    rw [textsB_cons] at hs
    rw [dataR_T]
    obtain ⟨en, hen⟩ : ∃ en, en = (x.raw (textsB [t])).b.length - 1 := ⟨_, rfl⟩
    rw [← hen]
    obtain ⟨k, hk⟩ : ∃ k, k = 63 := ⟨_, rfl⟩
    rw [show (64 : Nat) = k + 1 by omega]
    by_cases h0 : t.length = 0
    · rw [textsR, if_neg (by omega), if_pos (by rfl)]
      exact ⟨2, rfl, .inl rfl⟩
    · have hr : numR ((x.raw (textsB [t])).b ++ y) x.b.length en 1 = .ok ((t.length : Int).toNat, x.b.length + 1) := numR_back (z := 1) hn hs.left.left (by show _ + 1 ≤ _; omega)
      rw [textsR, if_pos (by omega), hr]
      simp only
      rw [Int.toNat_natCast, bytesR_cut (by omega)]
      exact ⟨3, rfl, .inr rfl⟩
  · obtain ⟨bs, rfl, e⟩ := data_B (x := x) hf
    rw [show bs = [] from hb] at e
    rw [show bs = [] from hb, e] at hg
    simp [Wr.raw] at hg
theorem textsB_len {ts : List (List UInt8)} (h : ∀ t ∈ ts, t.length ≤ 255) : (textsB ts).length ≤ 256 * ts.length := by
  induction ts with
  | nil => simp [textsB]
  | cons t ts ih =>
    have h1 := ih fun u hu => h u (List.mem_cons_of_mem _ hu)
    have h2 := h t (List.mem_cons_self ..)
    have h3 : (putB [] (t.length : Int) 1).length = 1 := putB_len_fit (fits_len h2)
    rw [textsB_cons]
    simp only [List.length_append, List.length_cons, h3]
    omega
/-- Data takes at most so much, and writes down so many rests. -/
theorem Wr.data_len (x : Wr) {k : Int} {d : Da} (hf : FineS (shapeP k) d) : x.b.length ≤ (x.data (shapeP k) d).b.length ∧ (x.data (shapeP k) d).b.length ≤ x.b.length + 65535 ∧ (x.data (shapeP k) d).rests.length ≤ x.rests.length + 510 := by
  have name_b : ∀ (y : Wr) n sh, y.b.length ≤ (y.name n sh).b.length := fun y n sh => by obtain ⟨z, hz, _⟩ := Wr.name_b (x := y) n sh; rw [hz]; simp
  rcases shape_cases k with e | e | e | e | e | e | e | e <;> rw [e] at hf ⊢
  · obtain ⟨bs, rfl, hl, e⟩ := data_A (x := x) hf; rw [e]; have := raw_len x bs; refine ⟨by omega, by omega, by simp [Wr.raw]⟩
  · obtain ⟨bs, rfl, hl, e⟩ := data_Q (x := x) hf; rw [e]; have := raw_len x bs; refine ⟨by omega, by omega, by simp [Wr.raw]⟩
  · obtain ⟨n, rfl, hn, e⟩ := data_N (x := x) hf; rw [e]
    have h1 := Wr.name_le (x := x) n true; have h2 := Wr.name_rests (x := x) n true; have h3 := name_b x n true; have h4 := sizeN_length n; have h5 := hn.2
    exact ⟨h3, by omega, by omega⟩
  · obtain ⟨ns, n, rfl, hl, hns, hn, e⟩ := data_M (x := x) hf; rw [e]
    have h0 := raw_len x (numsB ns 2); have h00 := numsB_len hns; rw [hl] at h00
    have h1 := Wr.name_le (x := x.raw (numsB ns 2)) n true; have h2 := Wr.name_rests (x := x.raw (numsB ns 2)) n true; have h3 := name_b (x.raw (numsB ns 2)) n true; have h4 := sizeN_length n; have h5 := hn.2
    have h6 : (x.raw (numsB ns 2)).rests = x.rests := rfl
    rw [h6] at h2
    have h7 : (numsB ns 2).length = 2 := h00
    exact ⟨by omega, by omega, by omega⟩
  · obtain ⟨ns, n, m, rfl, hl, hns, hn, hm, e⟩ := data_S (x := x) hf; rw [e]
    have h0 := raw_len ((x.name n true).name m true) (numsB ns 4); have h00 := numsB_len hns; rw [hl] at h00
    have h1 := Wr.name_le (x := x) n true; have h2 := Wr.name_rests (x := x) n true; have h3 := name_b x n true; have h4 := sizeN_length n; have h5 := hn.2
    have h1' := Wr.name_le (x := x.name n true) m true; have h2' := Wr.name_rests (x := x.name n true) m true; have h3' := name_b (x.name n true) m true; have h4' := sizeN_length m; have h5' := hm.2
    have h6 : (((x.name n true).name m true).raw (numsB ns 4)).rests = ((x.name n true).name m true).rests := rfl
    have h7 : (numsB ns 4).length = 20 := h00
    rw [h6]
    exact ⟨by omega, by omega, by omega⟩
  · obtain ⟨ns, n, rfl, hl, hns, hn, e⟩ := data_V (x := x) hf; rw [e]
    have h0 := raw_len x (numsB ns 2); have h00 := numsB_len hns; rw [hl] at h00
    have h1 := Wr.name_le (x := x.raw (numsB ns 2)) n false; have h2 := Wr.name_rests (x := x.raw (numsB ns 2)) n false; have h3 := name_b (x.raw (numsB ns 2)) n false; have h4 := sizeN_length n; have h5 := hn.2
    have h6 : (x.raw (numsB ns 2)).rests = x.rests := rfl
    rw [h6] at h2
    have h7 : (numsB ns 2).length = 6 := h00
    exact ⟨by omega, by omega, by omega⟩
  · obtain ⟨ts, rfl, h1, h64, ht, e⟩ := data_T (x := x) hf; rw [e]; have := raw_len x (textsB ts); have := textsB_len ht; exact ⟨by omega, by omega, by simp [Wr.raw]⟩
  · obtain ⟨bs, he, e⟩ := data_B (x := x) hf
    have h6 : bs.length ≤ 65535 := by have := hf.2.1; rw [he] at this; exact this
    rw [e]; have := raw_len x bs; exact ⟨by omega, by omega, by simp [Wr.raw]⟩
theorem getD_back {x : Wr} (hx : x.True) {k : Int} {d : Da} (hf : FineD k d) (y : List UInt8) {z : Nat} (hz : x.b.length + z = (x.data (shapeP k) d).b.length) :
    getD ((x.data (shapeP k) d).b ++ y) (x.b.length : Int) (z : Int) k = (d, 0) := by
  have h1 := hf.1
  unfold getD
  rw [if_neg (by omega), if_neg (by rw [List.length_append]; omega), Int.toNat_natCast, Int.toNat_natCast, hz, data_back hx hf.2 y]
  simp
theorem getD_cut {x : Wr} (hx : x.True) {k : Int} {d : Da} (hf : FineD k d) (y : List UInt8) {z : Nat} (hz : x.b.length + z = (x.data (shapeP k) d).b.length) (h0 : 0 < z) (hb : d.bytes = []) (ht : d.texts.length ≤ 1) :
    ∃ e, getD ((x.data (shapeP k) d).b ++ y) (x.b.length : Int) ((z - 1 : Nat) : Int) k = (Da.zero, e) ∧ (e = 2 ∨ e = 3) := by
  have h1 := hf.1
  obtain ⟨e, h2, he⟩ := data_cut hx hf.2 y (by omega) hb ht
  refine ⟨e, ?_, he⟩
  unfold getD
  rw [if_neg (by omega), if_neg (by rw [List.length_append]; omega), Int.toNat_natCast, Int.toNat_natCast, show x.b.length + (z - 1) = (x.data (shapeP k) d).b.length - 1 by omega, h2]
end Go.Proofs.Ytbjaphldncagjaa

/- RdataBack: the law's walk. -/
namespace Go.Proofs.Ytbjaphldncagjaa
open Go.RowKit
set_option maxRecDepth 100000

/-- A writer of the call's own, behind what was there. -/
structure WOne (w wr : World) (g : Nat) (F : Nat → Prop) (x : Wr) : Prop where
  W : Wtr wr w.heap.size F g x
  bw : Below w.heap.size w wr
section
variable {w wr w' : World} {g : Nat} {F F' : Nat → Prop} {x x' : Wr}
theorem WOne.nx (h : WOne w wr g F x) (hb : Below wr.heap.size wr w') : WOne w w' g F x := ⟨h.W.below hb, Go.Proofs.Ytbjaphldncagjaa.nx h.bw hb⟩
theorem WOne.step (h : WOne w wr g F x) (hw : Wtr w' w.heap.size F' g x') (hc : Chg F wr w') : WOne w w' g F' x' := ⟨hw, h.W.bw h.bw (Nat.le_refl _) hc⟩
end


theorem own_lt {w : World} {B : Nat} {A : Option Addr} {n c : Nat} {bs : List UInt8} (h : OwnB w B (.slice A n c) bs) : ∀ b off, A = some ⟨b, off, none⟩ → b < w.heap.size := by
  intro b off e
  subst e
  rcases h.2 with ⟨e0, _⟩ | ⟨g, cap, cur, e0, _⟩
  · cases e0
  · injection e0 with e0
    injection e0 with e0
    injection e0 with e1 e2
    subst e1 e2
    exact (World.ownsRow.lt h _ rfl).2
set_option maxHeartbeats 8000000 in
theorem rdataBack_ok (k : Int) (s : DS) (d : Da) (A1 A2 : Option Addr) (c1 c2 : Nat) (ahead behind : List UInt8) (w : World) (hd : DRd w s d) (ha : RdB w A1 ahead.length ahead) (hb : RdB w A2 behind.length behind) (hl : lightD d = true) (h1 : ahead.length ≤ 5000) (h2 : behind.length ≤ 5000) (hf : FineD k d) :
    Calls Try.prog 12 #[.int .i64 k, dsV s d, .slice A1 ahead.length c1, .slice A2 behind.length c2] w (LawT w) := by
  obtain ⟨w1, hw1⟩ : ∃ w1, w1 = w.alloc (.cells #[.slice s.A0 d.bytes.length s.c0, .slice s.A1 d.host.length s.c1, .slice s.A2 d.mail.length s.c2, .slice s.A3 d.nums.length s.c3, .slice s.A4 d.texts.length s.c4] 46) := ⟨_, rfl⟩
  have hb1 : Below w.heap.size w w1 := by rw [hw1]; exact bl.alloc (Nat.le_refl _) _
  have HB1 : Hid (DBox w1 w.heap.size s d) := by show DBox _ _ _ _; rw [hw1]; exact DBox.made w s d _
  have HD := Lib.hid (hd.below hb1)
  have HA := Lib.hid (ha.below hb1)
  have HBH := Lib.hid (hb.below hb1)
  have HL := Lib.hid hl
  have HBW1 := Lib.hid hb1
  have HFD := Lib.hid hf
  have HFB := Lib.hid (fineB_true hf)
  have hlim : d.bytes.length ≤ 70000 ∧ d.host.length ≤ 300 ∧ d.mail.length ≤ 300 ∧ d.nums.length ≤ 200 ∧ d.texts.length ≤ 200 := by have h : LightD d := of_decide_eq_true hl; exact ⟨h.2.2.2.2.2.2.2, h.2.2.2.1, h.2.2.2.2.1, h.2.2.2.2.2.2.1, h.2.2.2.2.2.1⟩
  have HLIM := Lib.hid hlim
  -- the plain law
  obtain ⟨x0, hx0⟩ : ∃ x0, x0 = Wr.nil.raw ahead := ⟨_, rfl⟩
  have hx0l : x0.b.length = ahead.length := by rw [hx0]; simp [Wr.raw, Wr.nil]
  have hT : x0.True := by rw [hx0]; exact Wr.true_nil.raw _
  obtain ⟨y0, hy0⟩ : ∃ y0, y0 = x0.data (shapeP k) d := ⟨_, rfl⟩
  have hlen := Wr.data_len x0 hf.2
  rw [← hy0] at hlen
  obtain ⟨z, hz⟩ : ∃ z : Nat, y0.b.length = ahead.length + z := ⟨y0.b.length - ahead.length, by omega⟩
  have hzl : z ≤ 65535 := by omega
  have hgb := getD_back hT hf behind (z := z) (by rw [← hy0, hz, hx0l])
  rw [← hy0, hx0l] at hgb
  have HGB := Lib.hid hgb
  have HGC : Hid (0 < z → d.bytes = [] → d.texts.length ≤ 1 → ∃ e, getD (y0.b ++ behind) (ahead.length : Int) ((z - 1 : Nat) : Int) k = (Da.zero, e) ∧ (e = 2 ∨ e = 3)) := by
    intro h0 hb ht
    have := getD_cut hT hf behind (z := z) (by rw [← hy0, hz, hx0l]) h0 hb ht
    rw [← hy0, hx0l] at this
    exact this
  have HX0 := Lib.hid hx0
  have HY0 := Lib.hid hy0
  have HZ := Lib.hid hz
  have hres : x0.rests.length = 0 := by rw [hx0]; rfl
  have HXR : Hid (x0.b.length ≤ 5000 ∧ x0.rests.length ≤ 0 ∧ y0.b.length ≤ 70535) := ⟨by omega, by omega, by omega⟩
  unfold dsV
  obtain ⟨q0, q1, q2, q3, q4⟩ := HB1.out
  clear hd ha hb hl hb1 hf hlim hT hlen hgb hx0 hy0 hx0l hz hres
  go_enter Try.func12, Try.ntmps12
  go_upto_region 1 with (fail)
  rw [← hw1]
  clear hw1
  go_upto_region 3 with (first
    | (go_at_call 54; refine (rdata_any k s d w3 (HD.out.below HB13.out) (by have := HLIM.out; omega) (by have := HLIM.out; omega)).mono ?_; rw [HFB.out]; rintro e w4 ⟨v4, rfl, rfl, hb4⟩; have HB14 := Lib.hid (nx HB13.out hb4); clear hb4)
    | (go_at_call 47; refine (light04_any s d w2 (HD.out.below hb2)).mono ?_; rw [HL.out]; rintro e w3 ⟨v3, rfl, rfl, hb3⟩; have HB13 := Lib.hid (nx hb2 hb3); obtain ⟨p0, p1, p2, p3, p4⟩ := HB1.out.below HB13.out)
    | (go_at_call 46; refine (answers04_any w1).mono ?_; rintro e w2 ⟨rfl, hb2⟩; obtain ⟨a0, a1, a2, a3, a4⟩ := HB1.out.below hb2)
    | fail)
  clear q0 q1 q2 q3 q4 a0 a1 a2 a3 a4 p0 p1 p2 p3 p4 hb2 hb3
  go_upto_region 5 with (first
    | (go_at_call 48; refine (wnew_any w4).mono ?_; rintro e w5 ⟨g, F, rfl, hw5, hb5⟩; have HS5 : Hid (WOne w1 w5 g F Wr.nil) := ⟨hw5.base_le HB14.out.size, nx HB14.out hb5⟩; clear hw5 hb5)
    | ((with_reducible show wpList _ _ _ (⟨some 43, _, _, _, _, _⟩ :: _) _ _); refine wpL_cloneB rfl (.tmp 41) (.tmp 42) rfl rfl A1 _ c1 ahead rfl (HA.out.below HS5.out.bw) (by omega) ?_; intro v6 w6 hown6 hb6; have HS6 := Lib.hid (HS5.out.nx hb6); obtain ⟨A6, c6, rfl, hr6, _⟩ := hown6.form; have HR6 := Lib.hid hr6; clear hr6 hb6)
    | (go_at_call 58; refine (wraw_any w6 w1.heap.size g F Wr.nil _ _ _ ahead HS6.out.W HR6.out (by show 0 + _ ≤ _; omega)).mono ?_; rintro e w7 ⟨rfl, F7, h7, hc7, hF7⟩; rw [← HX0.out] at h7; have HS7 := Lib.hid (HS6.out.step h7 hc7); clear h7 hc7 hF7)
    | fail)
  clear HS5 HS6 HR6 hown6
  obtain ⟨q0, q1, q2, q3, q4⟩ := HB1.out.below HS7.out.bw
  go_upto_region 7 with (first
    | (go_at_call 52; refine (dput_any k w8 w1.heap.size g F7 x0 s8 d (geS w7.heap.size w8) HFD.out HS8.out.W HO8.out.din (fun b hb => ⟨hb.2, fun hf => by have h1 := hb.1; have h2 := (HS7.out.W.F_lt b hf).2; omega⟩) (by have := HXR.out; omega) (by have := HXR.out; omega)).mono ?_; rintro e w9 ⟨rfl, F9, h9, hc9, hF9⟩; rw [← HY0.out] at h9; have HS9 := Lib.hid (HS8.out.step h9 hc9); clear h9 hc9 hF9)
    | (go_at_call 53; refine (ownData_any s d w7 (HD.out.below HS7.out.bw) (by have := HLIM.out; omega)).mono ?_; rintro e w8 ⟨v8, rfl, ⟨s8, rfl, ho8⟩, hb8⟩; have HO8 := Lib.hid ho8; have HS8 := Lib.hid (HS7.out.nx hb8); clear ho8 hb8)
    | fail)
  clear HS7 HS8 HO8 q0 q1 q2 q3 q4
  go_upto_region 8 with (first
    | (go_at_call 59; refine (wlen_any w9 w1.heap.size g F9 y0 HS9.out.W).mono ?_; rw [HZ.out]; rintro e w10 ⟨rfl, rfl⟩)
    | fail)
  rw [show ((ahead.length : Int) + (z : Int) - (ahead.length : Int)) = (z : Int) by omega]
  go_upto_region 9 with (first
    | ((with_reducible show wpList _ _ _ (⟨some 59, _, _, _, _, _⟩ :: _) _ _); refine wpL_cloneB rfl (.tmp 57) (.tmp 58) rfl rfl A2 _ c2 behind rfl (HBH.out.below HS9.out.bw) (by omega) ?_; intro v10 w10 hown10 hb10; have HS10 := Lib.hid (HS9.out.nx hb10); obtain ⟨A10, c10, rfl, hr10, _⟩ := hown10.form; have HR10 := Lib.hid hr10; clear hr10 hb10)
    | (go_at_call 58; refine (wraw_any w10 w1.heap.size g F9 y0 _ _ _ behind HS10.out.W HR10.out (by have := HXR.out; omega)).mono ?_; rintro e w11 ⟨rfl, F11, h11, hc11, hF11⟩; have HS11 := Lib.hid (HS10.out.step h11 hc11); clear h11 hc11 hF11)
    | fail)
  clear HS9 HS10 HR10 hown10
  have HRL : Hid ((y0.raw behind).b.length ≤ 75535 ∧ (y0.raw behind).b = y0.b ++ behind) := ⟨by rw [raw_len]; have := HXR.out; omega, rfl⟩
  go_upto_region 10 with (first
    | (go_at_call 60; refine (getD_any w12 A12 (y0.raw behind).b.length c12 ahead.length z k _ HR12.out (fun b off e => HLT12.out b off e) hl12 (by unfold maxLen at hm12; omega) (by have := HRL.out; omega) HFD.out.1.1 HFD.out.1.2 (by omega)).mono ?_; unfold goodG; rw [HRL.out.2, HGB.out]; rintro e w13 ⟨v13, rfl, ⟨s13, rfl, hg13⟩, hb13⟩; unfold dsV; have HS13 := Lib.hid (HS12.out.nx hb13); have HG13 := Lib.hid (hg13.din.rd (fun b hb => hb.2)); clear hg13 hb13)
    | (go_at_call 57; refine (wbytes_any w11 w1.heap.size g F11 (y0.raw behind) HS11.out.W (by have := HRL.out; omega)).mono ?_; rintro e w12 ⟨v12, rfl, hown12, hb12⟩; have HS12 := Lib.hid (HS11.out.nx hb12); have HLT := Lib.hid hown12; obtain ⟨A12, c12, rfl, hr12, hl12, hm12⟩ := hown12.form; have HR12 := Lib.hid hr12; have HLT12 : Hid (∀ b off, A12 = some ⟨b, off, none⟩ → b < w12.heap.size) := (own_lt HLT.out); clear hr12 hown12)
    | fail)
  obtain ⟨w14, hw14⟩ : ∃ w14, w14 = w13.alloc (.cells #[.slice s13.A0 d.bytes.length s13.c0, .slice s13.A1 d.host.length s13.c1, .slice s13.A2 d.mail.length s13.c2, .slice s13.A3 d.nums.length s13.c3, .slice s13.A4 d.texts.length s13.c4] 46) := ⟨_, rfl⟩
  have hb14 : Below w13.heap.size w13 w14 := by rw [hw14]; exact bl.alloc (Nat.le_refl _) _
  have HB14' : Hid (DBox w14 w13.heap.size s13 d) := by show DBox _ _ _ _; rw [hw14]; exact DBox.made w13 s13 d _
  have HS14 := Lib.hid (HS13.out.nx hb14)
  have HG14 := Lib.hid (HG13.out.below hb14)
  rw [← hw14]
  clear hw14 HS12 HR12 HLT HLT12 HS13 HG13 hb14
  obtain ⟨q0, q1, q2, q3, q4⟩ := HB1.out.below HS14.out.bw
  obtain ⟨p0, p1, p2, p3, p4⟩ := HB14'.out
  go_upto_region 12 with (first
    | (go_at_call 54; refine (rdata_any k s13 d w15 (HG14.out.below hb15) (by have := HLIM.out; omega) (by have := HLIM.out; omega)).mono ?_; rw [HFB.out]; rintro e w16 ⟨v16, rfl, rfl, hb16⟩; have HS16 := Lib.hid (HS15.out.nx hb16); clear hb16)
    | (go_at_call 40; refine (rexD_any s13 s d d w14 HG14.out (HD.out.below HS14.out.bw)).mono ?_; rw [exD_refl]; rintro e w15 ⟨v15, rfl, rfl, hb15⟩; have HS15 := Lib.hid (HS14.out.nx hb15); obtain ⟨a0, a1, a2, a3, a4⟩ := HB14'.out.below hb15)
    | fail)
  clear q0 q1 q2 q3 q4 p0 p1 p2 p3 p4 a0 a1 a2 a3 a4 HS14 HS15 HG14 HB14' hb15
  by_cases hz0 : z = 0
  · subst hz0
    go_wp2
    go_ret
    exact ⟨rfl, nx HBW1.out HS16.out.bw⟩
  · obtain ⟨r, hr⟩ : ∃ r, r = getD (y0.b ++ behind) (ahead.length : Int) ((z - 1 : Nat) : Int) k := ⟨_, rfl⟩
    have HGR := Lib.hid hr
    have hor : r.2 = 0 → 0 < d.bytes.length ∨ 1 < d.texts.length := by
      intro h0
      by_cases hb : d.bytes = []
      · by_cases ht : d.texts.length ≤ 1
        · obtain ⟨e, he, h2⟩ := HGC.out (by omega) hb ht
          rw [hr, he] at h0
          have h0' : e = 0 := h0
          omega
        · right; omega
      · left; exact List.length_pos_iff.2 hb
    have HOR := Lib.hid hor
    clear hr hor
    go_upto_region 15 with (first
      | (go_at_call 60; rw [show ((z : Int) - 1) = ((z - 1 : Nat) : Int) by omega]; refine (getD_any w17 A17 (y0.raw behind).b.length c17 ahead.length (z - 1) k _ HR17.out (fun b off e => HLT17.out b off e) hl17 (by unfold maxLen at hm17; omega) (by have := HRL.out; omega) HFD.out.1.1 HFD.out.1.2 (by omega)).mono ?_; unfold goodG; rw [HRL.out.2, ← HGR.out]; rintro e w18 ⟨v18, rfl, ⟨s18, rfl, hg18⟩, hb18⟩; unfold dsV; have HS18 := Lib.hid (HS17.out.nx hb18); clear hg18 hb18)
      | (go_at_call 57; refine (wbytes_any w16 w1.heap.size g F11 (y0.raw behind) HS16.out.W (by have := HRL.out; omega)).mono ?_; rintro e w17 ⟨v17, rfl, hown17, hb17⟩; have HS17 := Lib.hid (HS16.out.nx hb17); have HLT := Lib.hid hown17; obtain ⟨A17, c17, rfl, hr17, hl17, hm17⟩ := hown17.form; have HR17 := Lib.hid hr17; have HLT17 : Hid (∀ b off, A17 = some ⟨b, off, none⟩ → b < w17.heap.size) := (own_lt HLT.out); clear hr17 hown17)
      | fail)
    obtain ⟨w19, hw19⟩ : ∃ w19, w19 = w18.alloc (.cells #[.slice s18.A0 r.1.bytes.length s18.c0, .slice s18.A1 r.1.host.length s18.c1, .slice s18.A2 r.1.mail.length s18.c2, .slice s18.A3 r.1.nums.length s18.c3, .slice s18.A4 r.1.texts.length s18.c4] 46) := ⟨_, rfl⟩
    have hb19 : Below w18.heap.size w18 w19 := by rw [hw19]; exact bl.alloc (Nat.le_refl _) _
    have HS19 := Lib.hid (HS18.out.nx hb19)
    rw [← hw19]
    clear hw19 HS17 HR17 HLT HLT17 hb19
    obtain ⟨q0, q1, q2, q3, q4⟩ := HB1.out.below HS19.out.bw
    by_cases he : r.2 = 0
    · have hor := HOR.out he
      rw [he]
      by_cases hb : 0 < d.bytes.length
      · have hb' : (0 : Int) < (d.bytes.length : Int) := by omega
        clear he hor
        go_wp2
        go_ret
        exact ⟨ret_bool (by simp), nx HBW1.out HS19.out.bw⟩
      · have ht' : (1 : Int) < (d.texts.length : Int) := by omega
        have hb' : ¬ (0 : Int) < (d.bytes.length : Int) := by omega
        clear he hor
        go_wp2
        go_ret
        exact ⟨ret_bool (by simp), nx HBW1.out HS19.out.bw⟩
    · go_wp2
      go_ret
      exact ⟨ret_bool (by simp), nx HBW1.out HS19.out.bw⟩

set_option maxHeartbeats 4000000 in
theorem rdataBack_heavy (k : Int) (s : DS) (d : Da) (A1 A2 : Option Addr) (c1 c2 : Nat) (ahead behind : List UInt8) (w : World) (hd : DRd w s d) (hno : ¬ (lightD d = true ∧ ahead.length ≤ 5000 ∧ behind.length ≤ 5000 ∧ FineD k d)) :
    Calls Try.prog 12 #[.int .i64 k, dsV s d, .slice A1 ahead.length c1, .slice A2 behind.length c2] w (LawT w) := by
  obtain ⟨w1, hw1⟩ : ∃ w1, w1 = w.alloc (.cells #[.slice s.A0 d.bytes.length s.c0, .slice s.A1 d.host.length s.c1, .slice s.A2 d.mail.length s.c2, .slice s.A3 d.nums.length s.c3, .slice s.A4 d.texts.length s.c4] 46) := ⟨_, rfl⟩
  have hb1 : Below w.heap.size w w1 := by rw [hw1]; exact bl.alloc (Nat.le_refl _) _
  have HB1 : Hid (DBox w1 w.heap.size s d) := by show DBox _ _ _ _; rw [hw1]; exact DBox.made w s d _
  have HD := Lib.hid (hd.below hb1)
  have HBW1 := Lib.hid hb1
  have HNO := Lib.hid hno
  unfold dsV
  obtain ⟨x0, x1, x2, x3, x4⟩ := HB1.out
  clear hd hb1 hno
  cases hl : lightD d with
  | false =>
    have HL := Lib.hid hl
    clear hl
    go_enter Try.func12, Try.ntmps12
    go_upto_region 1 with (fail)
    rw [← hw1]
    clear hw1
    go_wp2_with (first
      | (go_at_call 46; refine (answers04_any w3).mono ?_; rintro e w4 ⟨rfl, hw4⟩)
      | (go_at_call 47; refine (light04_any s d w2 (HD.out.below hb2)).mono ?_; rw [HL.out]; rintro e w3 ⟨v3, rfl, rfl, hb3⟩; obtain ⟨p0, p1, p2, p3, p4⟩ := (HB1.out.below hb2).below hb3)
      | (go_at_call 46; refine (answers04_any w1).mono ?_; rintro e w2 ⟨rfl, hb2⟩; obtain ⟨a0, a1, a2, a3, a4⟩ := HB1.out.below hb2)
      | fail)
    go_ret
    exact ⟨rfl, nx (nx (nx HBW1.out hb2) hb3) hw4⟩
  | true =>
    have HL := Lib.hid hl
    by_cases h1 : ahead.length ≤ 5000
    · by_cases h2 : behind.length ≤ 5000
      · have HFB := Lib.hid (fineB_false (fun hf => HNO.out ⟨hl, h1, h2, hf⟩))
        have hlim : d.bytes.length ≤ 70000 ∧ d.host.length ≤ 300 ∧ d.mail.length ≤ 300 ∧ d.nums.length ≤ 200 ∧ d.texts.length ≤ 200 := by have h : LightD d := of_decide_eq_true hl; exact ⟨h.2.2.2.2.2.2.2, h.2.2.2.1, h.2.2.2.2.1, h.2.2.2.2.2.2.1, h.2.2.2.2.2.1⟩
        have HLIM := Lib.hid hlim
        have h1' : ¬ (5000 : Int) < (ahead.length : Int) := by omega
        have h2' : ¬ (5000 : Int) < (behind.length : Int) := by omega
        clear hl hlim h1 h2
        go_enter Try.func12, Try.ntmps12
        go_upto_region 1 with (fail)
        rw [← hw1]
        clear hw1
        go_wp2_with (first
          | (go_at_call 46; refine (answers04_any w4).mono ?_; rintro e w5 ⟨rfl, hw5⟩)
          | (go_at_call 54; refine (rdata_any k s d w3 ((HD.out.below hb2).below hb3) (by have := HLIM.out; omega) (by have := HLIM.out; omega)).mono ?_; rw [HFB.out]; rintro e w4 ⟨v4, rfl, rfl, hb4⟩)
          | (go_at_call 47; refine (light04_any s d w2 (HD.out.below hb2)).mono ?_; rw [HL.out]; rintro e w3 ⟨v3, rfl, rfl, hb3⟩; obtain ⟨p0, p1, p2, p3, p4⟩ := (HB1.out.below hb2).below hb3)
          | (go_at_call 46; refine (answers04_any w1).mono ?_; rintro e w2 ⟨rfl, hb2⟩; obtain ⟨a0, a1, a2, a3, a4⟩ := HB1.out.below hb2)
          | fail)
        go_ret
        exact ⟨rfl, nx (nx (nx (nx HBW1.out hb2) hb3) hb4) hw5⟩
      · have h1' : ¬ (5000 : Int) < (ahead.length : Int) := by omega
        have h2' : (5000 : Int) < (behind.length : Int) := by omega
        clear hl h1 h2
        go_enter Try.func12, Try.ntmps12
        go_upto_region 1 with (fail)
        rw [← hw1]
        clear hw1
        go_wp2_with (first
          | (go_at_call 46; refine (answers04_any w3).mono ?_; rintro e w4 ⟨rfl, hw4⟩)
          | (go_at_call 47; refine (light04_any s d w2 (HD.out.below hb2)).mono ?_; rw [HL.out]; rintro e w3 ⟨v3, rfl, rfl, hb3⟩; obtain ⟨p0, p1, p2, p3, p4⟩ := (HB1.out.below hb2).below hb3)
          | (go_at_call 46; refine (answers04_any w1).mono ?_; rintro e w2 ⟨rfl, hb2⟩; obtain ⟨a0, a1, a2, a3, a4⟩ := HB1.out.below hb2)
          | fail)
        go_ret
        exact ⟨rfl, nx (nx (nx HBW1.out hb2) hb3) hw4⟩
    · have h1' : (5000 : Int) < (ahead.length : Int) := by omega
      clear hl h1
      go_enter Try.func12, Try.ntmps12
      go_upto_region 1 with (fail)
      rw [← hw1]
      clear hw1
      go_wp2_with (first
        | (go_at_call 46; refine (answers04_any w3).mono ?_; rintro e w4 ⟨rfl, hw4⟩)
        | (go_at_call 47; refine (light04_any s d w2 (HD.out.below hb2)).mono ?_; rw [HL.out]; rintro e w3 ⟨v3, rfl, rfl, hb3⟩; obtain ⟨p0, p1, p2, p3, p4⟩ := (HB1.out.below hb2).below hb3)
        | (go_at_call 46; refine (answers04_any w1).mono ?_; rintro e w2 ⟨rfl, hb2⟩; obtain ⟨a0, a1, a2, a3, a4⟩ := HB1.out.below hb2)
        | fail)
      go_ret
      exact ⟨rfl, nx (nx (nx HBW1.out hb2) hb3) hw4⟩

theorem rdataBack_walk (k : Int) (s : DS) (d : Da) (A1 A2 : Option Addr) (n1 c1 n2 c2 : Nat) (ahead behind : List UInt8) (w : World) (hd : DRd w s d) (ha : RdB w A1 n1 ahead) (hb : RdB w A2 n2 behind) :
    Calls Try.prog 12 #[.int .i64 k, dsV s d, .slice A1 n1 c1, .slice A2 n2 c2] w (LawT w) := by
  have hl1 := ha.len
  have hl2 := hb.len
  subst hl1 hl2
  by_cases h : lightD d = true ∧ ahead.length ≤ 5000 ∧ behind.length ≤ 5000 ∧ FineD k d
  · exact rdataBack_ok k s d A1 A2 c1 c2 ahead behind w hd ha hb h.1 h.2.1 h.2.2.1 h.2.2.2
  · exact rdataBack_heavy k s d A1 A2 c1 c2 ahead behind w hd h
end Go.Proofs.Ytbjaphldncagjaa
