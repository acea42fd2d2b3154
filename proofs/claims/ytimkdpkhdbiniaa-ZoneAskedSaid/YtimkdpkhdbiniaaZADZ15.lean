/- Parts of a proof, joined: RUnd, Zs17. -/
import Derived.Test.YtimkdpkhdbiniaaZADF01
import Derived.Test.YtimkdpkhdbiniaaZADZ10
import Derived.Test.YtimkdpkhdbiniaaZADM03
import Derived.Test.YtimkdpkhdbiniaaZADM05
/- The reference's Under (out of RFact). -/
namespace Go.Proofs.Ytimkdpkhdbiniaa
open Go.RowKit
set_option maxRecDepth 100000
set_option linter.unusedVariables false

set_option maxHeartbeats 2000000 in
theorem runderZ_any (A A' : Option Addr) (n c n' c' : Nat) (xs ys : List (List UInt8)) (w : World) (hx : RdE encS w A n xs) (hy : RdE encS w A' n' ys) (hn : n ≤ 1000000000) (hn' : n' ≤ 1000000000) (hc : n ≤ c) :
    Calls Try.prog 35 #[.slice A n c, .slice A' n' c'] w (RetP (fun v _ => v = .bool (underB xs ys)) w) := by
  have hlx := hx.len
  have hly := hy.len
  by_cases h1 : n' ≤ n
  · have hF : underB xs ys = decide (lowN (xs.drop (n - n')) = lowN ys) := by unfold underB; rw [hlx, hly]; simp [h1]
    rw [hF]
    obtain ⟨k, hk⟩ : ∃ k, k + n' = n := ⟨n - n', by omega⟩
    have hkn : n - n' = k := by omega
    have hcut := Els.cut hx k c (by omega) hc
    rw [hkn]
    obtain ⟨B, hB⟩ : ∃ B, B = (if c = k then A else A.map (fun x => x.add k)) := ⟨_, rfl⟩
    rw [show k * encS.size = k from Nat.mul_one k, ← hB] at hcut
    have hnk : n - k = n' := by omega
    rw [hnk] at hcut
    have hge : (n' : Int) ≤ (n : Int) := by omega
    have hsub : (n : Int) - (n' : Int) = (k : Int) := by omega
    have hgd : decide ((0 : Int) ≤ (k : Int)) = true := decide_eq_true (by omega)
    have HC := Lib.hid hcut
    have HY := Lib.hid hy
    have HBB := Lib.hid hB
    have HN : Hid (n' ≤ 1000000000) := hn'
    have HNK := Lib.hid hnk
    have hkb : k ≤ 1000000000 := by omega
    have hkc : (k : Int) ≤ (n : Int) := by omega
    clear hF hcut hB hkn hnk hx hy hlx hly hk hge
    go_enter Try.func35, Try.ntmps35
    go_upto_region 2 with (fail)
    go_wp2_with (first
      | (go_at_call 78; rw [← HBB.out, HNK.out]; refine (requal_any B A' n' (c - k) n' c' (xs.drop k) ys w HC.out HY.out (Nat.le_trans HN.out (by unfold maxLen; omega)) (Nat.le_trans HN.out (by unfold maxLen; omega))).mono ?_; rintro e w1 ⟨v1, rfl, rfl, hb1⟩)
      | fail)
    go_ret
    exact ⟨_, rfl, rfl, hb1⟩
  · have hF : underB xs ys = false := by unfold underB; rw [hlx, hly]; simp [h1]
    have hge : (n : Int) - (n' : Int) < 0 := by omega
    have hgd : decide ((0 : Int) ≤ (n : Int) - (n' : Int)) = false := decide_eq_false (by omega)
    rw [hF]
    clear hF hx hy hlx hly
    go_enter Try.func35, Try.ntmps35
    go_wp2
    go_ret
    exact ⟨_, rfl, rfl, bl⟩
end Go.Proofs.Ytimkdpkhdbiniaa

/- gazetteerref17.Sound (printed by gen/zs17.py). -/
namespace Go.Proofs.Ytimkdpkhdbiniaa
open Go.RowKit
set_option maxRecDepth 100000
set_option linter.unusedVariables false

theorem under_len {n z : List (List UInt8)} (h : underB n z = true) : (lowN n = lowN z) ↔ n.length = z.length := by
  unfold underB at h
  rw [Bool.and_eq_true] at h
  have h1 := of_decide_eq_true h.1
  have h2 := of_decide_eq_true h.2
  constructor
  · intro e
    have := congrArg List.length e
    unfold lowN at this
    rwa [List.length_map, List.length_map] at this
  · intro e
    rw [e, Nat.sub_self, List.drop_zero] at h2
    exact h2
theorem any_take_z {α : Type} {p : α → Bool} {xs : List α} {k : Nat} {x : α} (hx : xs[k]? = some x) (h : (xs.take k).any p = false) (hp : p x = false) : (xs.take (k + 1)).any p = false := by
  rw [List.take_add_one, hx, List.any_append, h, Option.toList_some]
  simp [hp]
theorem any_take_t {α : Type} {p : α → Bool} {xs : List α} {k j : Nat} {x : α} (hx : xs[j]? = some x) (hj : j < k) (hp : p x = true) : (xs.take k).any p = true := by
  refine List.any_eq_true.2 ⟨x, ?_, hp⟩
  refine List.mem_of_getElem? (i := j) ?_
  rw [List.getElem?_take, if_pos hj]
  exact hx

set_option maxHeartbeats 16000000 in
theorem rzsound_any (zA RA : Option Addr) (zl zc rn rc : Nat) (zn : List (List UInt8)) (rs : List RR) (w : World) {S : Nat → Prop} (hz : RdE encS w zA zl zn) (h : Els encRR S S w RA rn rs) (hS : ∀ b, S b → b < w.heap.size) (hzl : zl ≤ 1000000000) (hrc : rn ≤ rc) (hn : rn ≤ 1000000) (hL : ∀ r ∈ rs, Lt9 r) :
    Calls Try.prog 40 #[.agg #[.slice zA zl zc, .slice RA rn rc]] w (RetP (fun v _ => v = .bool (zsoundB zn rs)) w) := by
  have hl := h.len
  subst hl
  obtain ⟨w1, hw1⟩ : ∃ w1, w1 = w.alloc (.cells #[.slice zA zl zc, .slice RA rs.length rc] 78) := ⟨_, rfl⟩
  obtain ⟨g, hg⟩ : ∃ g, g = w.heap.size := ⟨_, rfl⟩
  have hb1 : Below w.heap.size w w1 := by rw [hw1]; exact bl.alloc (Nat.le_refl _) _
  have z0 : w1.cell? ⟨g, 0, none⟩ = some (.slice zA zl zc) := by rw [hw1, hg]; exact new_cell w _ _ 0
  have z1 : w1.cell? ⟨g, 1, none⟩ = some (.slice RA rs.length rc) := by rw [hw1, hg]; exact new_cell w _ _ 1
  have HZ : Hid (w1.cell? ⟨g, 0, none⟩ = some (.slice zA zl zc) ∧ w1.cell? ⟨g, 1, none⟩ = some (.slice RA rs.length rc)) := ⟨z0, z1⟩
  have HZL := Lib.hid hz.len
  have HSN := Lib.hid (rsound_any zA zl zc zn w1 (hz.below hb1))
  have H := Lib.hid h
  have HZN := Lib.hid hz
  have HS := Lib.hid hS
  have HL := Lib.hid hL
  have HB1 := Lib.hid hb1
  have HRN := Lib.hid (And.intro hn hzl)
  obtain ⟨sb, hsb⟩ : ∃ b, b = soundB zn := ⟨_, rfl⟩
  rw [← hsb] at HSN
  have HSB := Lib.hid hsb
  clear h hz hS hL hb1 hn hzl hsb
  go_enter Try.func40, Try.ntmps40
  go_upto_region 1 with (fail)
  rw [← hw1]
  clear hw1
  rw [← hg]
  clear hg
  cases sb with
  | false =>
    go_wp2_with (go_at_call 27; refine HSN.out.mono ?_; rintro e w0 ⟨rfl, rfl⟩)
    go_ret
    exact ⟨_, rfl, by unfold zsoundB; rw [← HSB.out]; rfl, HB1.out⟩
  | true =>
  by_cases hl1 : rs.length < 1
  · have hl1' : (rs.length : Int) < 1 := by omega
    have HR : Hid (zsoundB zn rs = false) := by show _ = _; unfold zsoundB; rw [decide_eq_false (by omega : ¬ 1 ≤ rs.length)]; simp
    clear hl1
    go_wp2_with (go_at_call 27; refine HSN.out.mono ?_; rintro e w0 ⟨rfl, rfl⟩)
    go_ret
    exact ⟨_, rfl, by rw [HR.out]; rfl, HB1.out⟩
  have hl1' : ¬ (rs.length : Int) < 1 := by omega
  by_cases hl2 : 256 < rs.length
  · have hl2' : (256 : Int) < (rs.length : Int) := by omega
    have HR : Hid (zsoundB zn rs = false) := by show _ = _; unfold zsoundB; rw [decide_eq_false (by omega : ¬ rs.length ≤ 256)]; simp
    clear hl1 hl2
    go_wp2_with (go_at_call 27; refine HSN.out.mono ?_; rintro e w0 ⟨rfl, rfl⟩)
    go_ret
    exact ⟨_, rfl, by rw [HR.out]; rfl, HB1.out⟩
  have hl2' : ¬ (256 : Int) < (rs.length : Int) := by omega
  have HLL : Hid (1 ≤ rs.length ∧ rs.length ≤ 256) := ⟨by omega, by omega⟩
  go_upto_region 5 with (go_at_call 27; refine HSN.out.mono ?_; rintro e w0 ⟨rfl, rfl⟩)
  clear z0 z1 hl1 hl2 hl1' hl2'
  have hrb : rs.length ≤ 256 := HLL.out.2
  go_loopw [3, 4] (fun sv iv wr => ∃ k : Nat, iv = .int .i64 (k : Int) ∧ k ≤ rs.length ∧ sv = .int .i64 (soasZ rs k : Int) ∧ Hid (allZ zn rs k = true) ∧ Hid (Below w1.heap.size w1 wr)) (fun _ iv _ => rs.length - (intOf iv).toNat)
  case atStart => exact ⟨0, rfl, Nat.zero_le _, rfl, rfl, bl⟩
  case round =>
    obtain ⟨k, rfl, hk, rfl, HALL, HBW⟩ := hrel
    have y0 := below_cell HBW.out HZ.out.1
    have y1 := below_cell HBW.out HZ.out.2
    by_cases hlt : k < rs.length
    rotate_left
    · have hkl : k = rs.length := by omega
      have hlt' : ¬ (k : Int) < (rs.length : Int) := by omega
      obtain ⟨so, hso⟩ : ∃ so, so = soasZ rs k := ⟨_, rfl⟩
      have HF : Hid (zsoundB zn rs = decide (so = 1)) := by
        show _ = _
        unfold zsoundB
        rw [← HSB.out, decide_eq_true HLL.out.1, decide_eq_true HLL.out.2, hso, hkl, ← hkl, HALL.out]
        simp
      rw [← hso]
      clear hkl hlt hso
      by_cases h1 : so = 1
      · subst h1
        go_wp2
        go_ret
        exact ⟨_, rfl, by rw [HF.out]; rfl, nx HB1.out HBW.out⟩
      · have h1' : ((so : Int) == 1) = false := beq_eq_false_iff_ne.2 (by omega)
        have HF2 : Hid (zsoundB zn rs = false) := by show _ = _; rw [HF.out]; exact decide_eq_false h1
        clear h1
        go_wp2
        go_ret
        exact ⟨_, rfl, by rw [HF2.out]; rfl, nx HB1.out HBW.out⟩
    have hlt' : (k : Int) < (rs.length : Int) := by omega
    obtain ⟨r, hr⟩ : ∃ r, rs[k]? = some r := ⟨_, List.getElem?_eq_getElem hlt⟩
    have HLR := Lib.hid (HL.out r (List.mem_of_getElem? hr))
    have HNX : Hid (allZ zn rs (k + 1) = oneZ zn rs k r) := by show _ = _; rw [allZ_next hr, HALL.out, Bool.true_and]
    have HNO : Hid (oneZ zn rs k r = false → zsoundB zn rs = false) := fun e => zsoundB_all hr e
    have HSO := Lib.hid (soasZ_next hr)
    have HSL := Lib.hid (soasZ_le rs k)
    obtain ⟨b, off, s, hA, hb0, hri, hrc2⟩ := rr_at H.out hr
    have HBW0 : Hid (Below w.heap.size w wr) := nx HB1.out HBW.out
    obtain ⟨d0, d1, d2, d3, d4, d5, d6, d7, d8⟩ := hrc2.below HBW0.out
    have hAA := Lib.hid hA
    have HRI := Lib.hid hri
    rw [hA] at y1
    obtain ⟨w2, hw2⟩ : ∃ w2, w2 = wr.alloc (.cells #[.slice s.A r.name.length s.c, .int .i64 r.type, .int .i64 r.cls, .int .i64 r.ttl, .slice s.d.A0 r.data.bytes.length s.d.c0, .slice s.d.A1 r.data.host.length s.d.c1, .slice s.d.A2 r.data.mail.length s.d.c2, .slice s.d.A3 r.data.nums.length s.d.c3, .slice s.d.A4 r.data.texts.length s.d.c4] 84) := ⟨_, rfl⟩
    obtain ⟨g2, hg2⟩ : ∃ g, g = wr.heap.size := ⟨_, rfl⟩
    have hb2 : Below wr.heap.size wr w2 := by rw [hw2]; exact bl.alloc (Nat.le_refl _) _
    have HR2 : Hid (RRow w2 g2 s r) := by show RRow _ _ _ _; rw [hw2, hg2]; exact heap_alloc_new wr _
    have HB2 : Hid (Below w1.heap.size w1 w2) := nx HBW.out hb2
    have HW2 : Hid (Below w.heap.size w w2) := nx HBW0.out hb2
    clear hr hri hrc2 hA hb0 hb2
    obtain ⟨so, hso⟩ : ∃ so, so = soasZ rs k := ⟨_, rfl⟩
    have HSE := Lib.hid hso
    rw [← hso]
    clear hso
    go_upto_region 8 with (fail)
    rw [← hw2]
    clear hw2 d0 d1 d2 d3 d4 d5 d6 d7 d8 y0 y1
    rw [← hg2]
    clear hg2
    have hLt : ∀ u, Below w2.heap.size w2 u → ∀ x, S x → x < u.heap.size := fun u hu x hx => Nat.lt_of_lt_of_le (HS.out x hx) (nx HW2.out hu).size
    have HLT := Lib.hid hLt
    have HI2 : Hid (∀ u, Below w2.heap.size w2 u → RIn S u s r) := fun u hu => HRI.out.below (nx HW2.out hu) HS.out
    have HSND := Lib.hid (rSound_any s r w2 (HI2.out w2 bl) (hLt w2 bl) HLR.out.1 HLR.out.2)
    have HU : Hid (∀ u, Below w2.heap.size w2 u → Calls Try.prog 35 #[.slice s.A r.name.length s.c, .slice zA zl zc] u (RetP (fun v _ => v = .bool (underB r.name zn)) u)) := fun u hu => runderZ_any s.A zA r.name.length s.c zl zc r.name zn u ((HI2.out u hu).n.mono (hLt u hu) (hLt u hu)) (HZN.out.below (nx HW2.out hu)) HLR.out.1 HRN.out.2 HRI.out.cn.1
    have HE : Hid (∀ u, Below w2.heap.size w2 u → Calls Try.prog 78 #[.slice s.A r.name.length s.c, .slice zA zl zc] u (RetP (fun v _ => v = .bool (decide (lowN r.name = lowN zn))) u)) := fun u hu => requal_any s.A zA r.name.length s.c zl zc r.name zn u ((HI2.out u hu).n.mono (hLt u hu) (hLt u hu)) (HZN.out.below (nx HW2.out hu)) (by have := HLR.out.1; unfold maxLen; omega) (by have := HRN.out.2; unfold maxLen; omega)
    have HX : Hid (∀ u, Below w2.heap.size w2 u → (RRow u g2 s r ∧ u.cell? ⟨g, 0, none⟩ = some (.slice zA zl zc) ∧ u.cell? ⟨g, 1, none⟩ = some (.slice (some ⟨b, off, none⟩) rs.length rc))) := fun u hu => ⟨RRow.below HR2.out hu, below_cell (nx HB2.out hu) HZ.out.1, by have h0 := below_cell (nx HB2.out hu) HZ.out.2; rw [hAA.out] at h0; exact h0⟩
    have HONE : Hid (oneZ zn rs k r = (fineRB r && (decide (r.cls = 1) && (underB r.name zn && (!decide (r.type = 41) && (!decide (r.type = 255) && (!((rs.take k).any fun o => clashB o r) && (!decide (r.type = 6) || decide (r.name.length = zl))))))))) := by show _ = _; unfold oneZ; rw [HZL.out]
    have HUL : Hid (underB r.name zn = true → decide (lowN r.name = lowN zn) = decide (r.name.length = zl)) := fun h => by
      have h1 := under_len h
      rw [HZL.out] at h1
      exact decide_eq_decide.2 h1
    obtain ⟨⟨x0, x1, x2, x3, x4, x5, x6, x7, x8⟩, q0, q1⟩ := (HX.out w2 bl).imp RRow.cells id
    obtain ⟨fr, hfr⟩ : ∃ c, c = fineRB r := ⟨_, rfl⟩
    obtain ⟨un, hun⟩ : ∃ c, c = underB r.name zn := ⟨_, rfl⟩
    rw [← hfr] at HSND HONE
    rw [← hun] at HU HONE HUL
    clear hfr hun hLt
    cases fr with
    | false =>
      have HBAD : Hid (zsoundB zn rs = false) := HNO.out (by rw [HONE.out]; rfl)
      go_wp2_with (first | (go_at_call 80; refine HSND.out.mono ?_; rintro e w3 ⟨v3, rfl, rfl, hb3⟩; have HB3 := Lib.hid hb3; obtain ⟨⟨p0, p1, p2, p3, p4, p5, p6, p7, p8⟩, r0, r1⟩ := (HX.out w3 hb3).imp RRow.cells id; clear hb3) | fail)
      go_ret
      exact ⟨_, rfl, by rw [HBAD.out]; rfl, nx HW2.out HB3.out⟩
    | true =>
    by_cases hc : r.cls = 1
    rotate_left
    · have hc' : (r.cls != 1) = true := by simp [hc]
      have HCN := Lib.hid hc
      clear hc
      have HBAD : Hid (zsoundB zn rs = false) := HNO.out (by rw [HONE.out]; rw [decide_eq_false HCN.out]; rfl)
      go_wp2_with (first | (go_at_call 80; refine HSND.out.mono ?_; rintro e w3 ⟨v3, rfl, rfl, hb3⟩; have HB3 := Lib.hid hb3; obtain ⟨⟨p0, p1, p2, p3, p4, p5, p6, p7, p8⟩, r0, r1⟩ := (HX.out w3 hb3).imp RRow.cells id; clear hb3) | fail)
      go_ret
      exact ⟨_, rfl, by rw [HBAD.out]; rfl, nx HW2.out HB3.out⟩
    have hc' : (r.cls != 1) = false := by simp [hc]
    have HC := Lib.hid hc
    clear hc
    by_cases h41 : r.type = 41
    · have h41' : (r.type == 41) = true := by simp [h41]
      have H41 := Lib.hid h41
      clear h41
      have HBAD : Hid (zsoundB zn rs = false) := HNO.out (by rw [HONE.out]; rw [decide_eq_true H41.out]; simp)
      go_wp2_with (first | (go_at_call 80; refine HSND.out.mono ?_; rintro e w3 ⟨v3, rfl, rfl, hb3⟩; have HB3 := Lib.hid hb3; obtain ⟨⟨p0, p1, p2, p3, p4, p5, p6, p7, p8⟩, r0, r1⟩ := (HX.out w3 hb3).imp RRow.cells id; clear hb3) | fail)
      go_ret
      exact ⟨_, rfl, by rw [HBAD.out]; rfl, nx HW2.out HB3.out⟩
    have h41' : (r.type == 41) = false := by simp [h41]
    have H41 := Lib.hid h41
    clear h41
    by_cases h255 : r.type = 255
    · have h255' : (r.type == 255) = true := by simp [h255]
      have H255 := Lib.hid h255
      clear h255
      have HBAD : Hid (zsoundB zn rs = false) := HNO.out (by rw [HONE.out]; rw [decide_eq_true H255.out]; simp)
      go_wp2_with (first | (go_at_call 80; refine HSND.out.mono ?_; rintro e w3 ⟨v3, rfl, rfl, hb3⟩; have HB3 := Lib.hid hb3; obtain ⟨⟨p0, p1, p2, p3, p4, p5, p6, p7, p8⟩, r0, r1⟩ := (HX.out w3 hb3).imp RRow.cells id; clear hb3) | fail)
      go_ret
      exact ⟨_, rfl, by rw [HBAD.out]; rfl, nx HW2.out HB3.out⟩
    have h255' : (r.type == 255) = false := by simp [h255]
    have H255 := Lib.hid h255
    clear h255
    cases un with
    | false =>
      have HBAD : Hid (zsoundB zn rs = false) := HNO.out (by rw [HONE.out]; simp)
      go_wp2_with (first | (go_at_call 35; refine (HU.out w3 HB3.out).mono ?_; rintro e w4 ⟨v4, rfl, rfl, hb4⟩; have HB4 : Hid (Below w2.heap.size w2 w4) := nx HB3.out hb4; obtain ⟨⟨m0, m1, m2, m3, m4, m5, m6, m7, m8⟩, n0, n1⟩ := (HX.out w4 (nx HB3.out hb4)).imp RRow.cells id; clear hb4) | (go_at_call 80; refine HSND.out.mono ?_; rintro e w3 ⟨v3, rfl, rfl, hb3⟩; have HB3 := Lib.hid hb3; obtain ⟨⟨p0, p1, p2, p3, p4, p5, p6, p7, p8⟩, r0, r1⟩ := (HX.out w3 hb3).imp RRow.cells id; clear hb3) | fail)
      go_ret
      exact ⟨_, rfl, by rw [HBAD.out]; rfl, nx HW2.out HB4.out⟩
    | true =>
    have HEL := Lib.hid (HUL.out rfl)
    rw [HEL.out] at HE
    have HFIN : Hid (∀ cl : Bool, cl = ((rs.take k).any fun o => clashB o r) → oneZ zn rs k r = (!cl && (!decide (r.type = 6) || decide (r.name.length = zl)))) := fun cl hcl => by rw [HONE.out, ← hcl, decide_eq_true HC.out, decide_eq_false H41.out, decide_eq_false H255.out]; simp
    by_cases h6 : r.type = 6
    rotate_left
    · have h6' : (r.type == 6) = false := by simp [h6]
      have HS1 : Hid (soasZ rs (k + 1) = so) := by show _ = _; rw [HSO.out, if_neg h6, ← HSE.out]; rfl
      have HLST : Hid ((!false && (!decide (r.type = 6) || decide (r.name.length = zl))) = true) := by show _ = _; rw [decide_eq_false h6]; rfl
      clear h6
      go_upto_region 15 with (first | (go_at_call 35; refine (HU.out w3 HB3.out).mono ?_; rintro e w4 ⟨v4, rfl, rfl, hb4⟩; have HB4 : Hid (Below w2.heap.size w2 w4) := nx HB3.out hb4; obtain ⟨⟨m0, m1, m2, m3, m4, m5, m6, m7, m8⟩, n0, n1⟩ := (HX.out w4 (nx HB3.out hb4)).imp RRow.cells id; clear hb4) | (go_at_call 80; refine HSND.out.mono ?_; rintro e w3 ⟨v3, rfl, rfl, hb3⟩; have HB3 := Lib.hid hb3; obtain ⟨⟨p0, p1, p2, p3, p4, p5, p6, p7, p8⟩, r0, r1⟩ := (HX.out w3 hb3).imp RRow.cells id; clear hb3) | fail)
      clear x0 x1 x2 x3 x4 x5 x6 x7 x8 q0 q1 p0 p1 p2 p3 p4 p5 p6 p7 p8 r0 r1 m0 m1 m2 m3 m4 m5 m6 m7 m8 n0 n1 hc' h41' h255' h6'
      go_loopw [6] (fun jv wy => ∃ j : Nat, jv = .int .i64 (j : Int) ∧ j ≤ k ∧ Hid (((rs.take j).any fun o => clashB o r) = false) ∧ Hid (Below w2.heap.size w2 wy)) (fun jv _ => k - (intOf jv).toNat)
      case atStart => exact ⟨0, rfl, Nat.zero_le _, rfl, HB4⟩
      case round =>
        obtain ⟨j, rfl, hj, HCL, HBY⟩ := hrel
        obtain ⟨⟨e0, e1, e2, e3, e4, e5, e6, e7, e8⟩, f0, f1⟩ := (HX.out wr HBY.out).imp RRow.cells id
        by_cases hjk : j < k
        rotate_left
        · have hjk' : ¬ (j : Int) < (k : Int) := by omega
          obtain rfl : j = k := by omega
          have HOK : Hid (allZ zn rs (j + 1) = true) := by show _ = _; rw [HNX.out, HFIN.out false HCL.out.symm]; exact HLST.out
          clear hjk hj
          go_wp2
          go_roundw
          case rel => exact ⟨j + 1, by go_num, by omega, by rw [HS1.out], HOK, nx HB2.out HBY.out⟩
          case measure => simp [intOf]; omega
        have hjk' : (j : Int) < (k : Int) := by omega
        have hjl : (j : Int) < (rs.length : Int) := by omega
        obtain ⟨o, ho⟩ : ∃ o, rs[j]? = some o := ⟨_, List.getElem?_eq_getElem (by omega)⟩
        have HLO := Lib.hid (HL.out o (List.mem_of_getElem? ho))
        have HYES : Hid (clashB o r = true → zsoundB zn rs = false) := fun h => HNO.out (by rw [HFIN.out true (any_take_t ho hjk h).symm]; rfl)
        have HNOT : Hid (clashB o r = false → ((rs.take (j + 1)).any fun o => clashB o r) = false) := fun h => any_take_z ho HCL.out h
        obtain ⟨b', off', t, hA', _, hoi, hoc⟩ := rr_at H.out ho
        rw [hAA.out] at hA'
        injection hA' with hA'
        injection hA' with hA1 hA2 _
        subst hA1 hA2
        have HWY : Hid (Below w.heap.size w wr) := nx HW2.out HBY.out
        obtain ⟨d0, d1, d2, d3, d4, d5, d6, d7, d8⟩ := hoc.below HWY.out
        have HOI := Lib.hid hoi
        obtain ⟨w6, hw6⟩ : ∃ u, u = wr.alloc (.cells #[.slice t.A o.name.length t.c, .int .i64 o.type, .int .i64 o.cls, .int .i64 o.ttl, .slice t.d.A0 o.data.bytes.length t.d.c0, .slice t.d.A1 o.data.host.length t.d.c1, .slice t.d.A2 o.data.mail.length t.d.c2, .slice t.d.A3 o.data.nums.length t.d.c3, .slice t.d.A4 o.data.texts.length t.d.c4] 84) := ⟨_, rfl⟩
        obtain ⟨g6, hg6⟩ : ∃ g, g = wr.heap.size := ⟨_, rfl⟩
        have HB6 : Hid (Below wr.heap.size wr w6) := by show Below _ _ _; rw [hw6]; exact bl.alloc (Nat.le_refl _) _
        have HO6 : Hid (RRow w6 g6 t o) := by show RRow _ _ _ _; rw [hw6, hg6]; exact heap_alloc_new wr _
        have HB26 : Hid (Below w2.heap.size w2 w6) := nx HBY.out HB6.out
        clear ho hoi hoc
        go_upto_region 18 with (fail)
        rw [← hw6]
        clear hw6 d0 d1 d2 d3 d4 d5 d6 d7 d8 e0 e1 e2 e3 e4 e5 e6 e7 e8 f0 f1
        rw [← hg6]
        clear hg6
        have HOX : Hid (∀ u, Below w6.heap.size w6 u → RRow u g6 t o ∧ RRow u g2 s r) := fun u hu => ⟨RRow.below HO6.out hu, (HX.out u (nx HB26.out hu)).1⟩
        have HOU : Hid (∀ u, Below w6.heap.size w6 u → RIn S u t o ∧ RIn S u s r ∧ ∀ x, S x → x < u.heap.size) := fun u hu => ⟨HOI.out.below (nx HW2.out (nx HB26.out hu)) HS.out, HI2.out u (nx HB26.out hu), HLT.out u (nx HB26.out hu)⟩
        have HEQ := Lib.hid (requal_any t.A s.A o.name.length t.c r.name.length s.c o.name r.name w6 ((HOU.out w6 bl).1.n.mono (HOU.out w6 bl).2.2 (HOU.out w6 bl).2.2) ((HOU.out w6 bl).2.1.n.mono (HOU.out w6 bl).2.2 (HOU.out w6 bl).2.2) (by have := HLO.out.1; unfold maxLen; omega) (by have := HLR.out.1; unfold maxLen; omega))
        have HSAME : Hid (∀ u, Below w6.heap.size w6 u → Calls Try.prog 79 #[.agg #[.slice t.d.A0 o.data.bytes.length t.d.c0, .slice t.d.A1 o.data.host.length t.d.c1, .slice t.d.A2 o.data.mail.length t.d.c2, .slice t.d.A3 o.data.nums.length t.d.c3, .slice t.d.A4 o.data.texts.length t.d.c4], .agg #[.slice s.d.A0 r.data.bytes.length s.d.c0, .slice s.d.A1 r.data.host.length s.d.c1, .slice s.d.A2 r.data.mail.length s.d.c2, .slice s.d.A3 r.data.nums.length s.d.c3, .slice s.d.A4 r.data.texts.length s.d.c4]] u (RetP (fun v _ => v = .bool (sameD o.data r.data)) u)) := fun u hu => rsame_any t.d s.d o.data r.data u ((HOU.out u hu).1.d.rd (HOU.out u hu).2.2) ((HOU.out u hu).2.1.d.rd (HOU.out u hu).2.2)
        obtain ⟨eqn, heq⟩ : ∃ c, c = decide (lowN o.name = lowN r.name) := ⟨_, rfl⟩
        obtain ⟨sm, hsm⟩ : ∃ c, c = sameD o.data r.data := ⟨_, rfl⟩
        rw [← heq] at HEQ
        rw [← hsm] at HSAME
        have HCB : Hid (clashB o r = (eqn && (if o.type = r.type then decide (o.type = 5) || (decide (o.ttl ≠ r.ttl) || sm) else decide (o.type = 5) || decide (r.type = 5)))) := by show _ = _; unfold clashB; rw [← heq, ← hsm]
        clear heq hsm
        obtain ⟨a0, a1, a2, a3, a4, a5, a6, a7, a8⟩ := RRow.cells HO6.out
        obtain ⟨c0, c1, c2, c3, c4, c5, c6, c7, c8⟩ := RRow.cells (HOX.out w6 bl).2
        cases eqn with
        | false =>
          have HN1 := Lib.hid (HNOT.out (by rw [HCB.out]; rfl))
          go_wp2_with (go_at_call 78; refine HEQ.out.mono ?_; rintro e w7 ⟨v7, rfl, rfl, hb7⟩; have HB7 : Hid (Below w6.heap.size w6 w7) := hb7; clear hb7)
          go_roundw
          case rel => exact ⟨j + 1, by go_num, by omega, HN1, nx HB26.out HB7.out⟩
          case measure => simp [intOf]; omega
        | true =>
        by_cases h5 : o.type = 5
        · have h5' : (o.type == 5) = true := by simp [h5]
          have HBAD := Lib.hid (HYES.out (by rw [HCB.out]; rw [decide_eq_true h5]; simp))
          clear h5
          go_wp2_with (go_at_call 78; refine HEQ.out.mono ?_; rintro e w7 ⟨v7, rfl, rfl, hb7⟩; have HB7 : Hid (Below w6.heap.size w6 w7) := hb7; obtain ⟨i0, i1, i2, i3, i4, i5, i6, i7, i8⟩ := RRow.cells (HOX.out w7 hb7).1; obtain ⟨l0, l1, l2, l3, l4, l5, l6, l7, l8⟩ := RRow.cells (HOX.out w7 hb7).2; clear hb7)
          go_ret
          exact ⟨_, rfl, by rw [HBAD.out]; rfl, nx HW2.out (nx HB26.out HB7.out)⟩
        have h5' : (o.type == 5) = false := by simp [h5]
        by_cases h6 : r.type = 5
        · have h6' : (r.type == 5) = true := by simp [h6]
          have HBAD := Lib.hid (HYES.out (by rw [HCB.out, if_neg (by rw [h6]; exact h5), decide_eq_true h6]; simp))
          clear h5 h6
          go_wp2_with (go_at_call 78; refine HEQ.out.mono ?_; rintro e w7 ⟨v7, rfl, rfl, hb7⟩; have HB7 : Hid (Below w6.heap.size w6 w7) := hb7; obtain ⟨i0, i1, i2, i3, i4, i5, i6, i7, i8⟩ := RRow.cells (HOX.out w7 hb7).1; obtain ⟨l0, l1, l2, l3, l4, l5, l6, l7, l8⟩ := RRow.cells (HOX.out w7 hb7).2; clear hb7)
          go_ret
          exact ⟨_, rfl, by rw [HBAD.out]; rfl, nx HW2.out (nx HB26.out HB7.out)⟩
        have h6' : (r.type == 5) = false := by simp [h6]
        by_cases ht : o.type = r.type
        rotate_left
        · have ht' : (o.type == r.type) = false := by simp [ht]
          have HN1 := Lib.hid (HNOT.out (by rw [HCB.out, if_neg ht, decide_eq_false h5, decide_eq_false h6]; rfl))
          clear h5 h6 ht
          go_wp2_with (go_at_call 78; refine HEQ.out.mono ?_; rintro e w7 ⟨v7, rfl, rfl, hb7⟩; have HB7 : Hid (Below w6.heap.size w6 w7) := hb7; obtain ⟨i0, i1, i2, i3, i4, i5, i6, i7, i8⟩ := RRow.cells (HOX.out w7 hb7).1; obtain ⟨l0, l1, l2, l3, l4, l5, l6, l7, l8⟩ := RRow.cells (HOX.out w7 hb7).2; clear hb7)
          go_roundw
          case rel => exact ⟨j + 1, by go_num, by omega, HN1, nx HB26.out HB7.out⟩
          case measure => simp [intOf]; omega
        have ht' : (o.type == r.type) = true := by simp [ht]
        by_cases hv : o.ttl = r.ttl
        rotate_left
        · have hv' : (o.ttl != r.ttl) = true := by simp [hv]
          have HBAD := Lib.hid (HYES.out (by rw [HCB.out, if_pos ht, decide_eq_true hv]; simp))
          clear h5 h6 ht hv
          go_wp2_with (go_at_call 78; refine HEQ.out.mono ?_; rintro e w7 ⟨v7, rfl, rfl, hb7⟩; have HB7 : Hid (Below w6.heap.size w6 w7) := hb7; obtain ⟨i0, i1, i2, i3, i4, i5, i6, i7, i8⟩ := RRow.cells (HOX.out w7 hb7).1; obtain ⟨l0, l1, l2, l3, l4, l5, l6, l7, l8⟩ := RRow.cells (HOX.out w7 hb7).2; clear hb7)
          go_ret
          exact ⟨_, rfl, by rw [HBAD.out]; rfl, nx HW2.out (nx HB26.out HB7.out)⟩
        have hv' : (o.ttl != r.ttl) = false := by simp [hv]
        cases sm with
        | true =>
          have HBAD := Lib.hid (HYES.out (by rw [HCB.out, if_pos ht]; simp))
          clear h5 h6 ht hv
          go_wp2_with (first
            | (go_at_call 79; refine (HSAME.out w7 HB7.out).mono ?_; rintro e w8 ⟨v8, rfl, rfl, hb8⟩; have HB8 : Hid (Below w7.heap.size w7 w8) := hb8; clear hb8)
            | (go_at_call 78; refine HEQ.out.mono ?_; rintro e w7 ⟨v7, rfl, rfl, hb7⟩; have HB7 : Hid (Below w6.heap.size w6 w7) := hb7; obtain ⟨i0, i1, i2, i3, i4, i5, i6, i7, i8⟩ := RRow.cells (HOX.out w7 hb7).1; obtain ⟨l0, l1, l2, l3, l4, l5, l6, l7, l8⟩ := RRow.cells (HOX.out w7 hb7).2; clear hb7)
            | fail)
          go_ret
          exact ⟨_, rfl, by rw [HBAD.out]; rfl, nx HW2.out (nx HB26.out (nx HB7.out HB8.out))⟩
        | false =>
          have HN1 := Lib.hid (HNOT.out (by rw [HCB.out, if_pos ht, decide_eq_false h5, decide_eq_false (by simp [hv] : ¬ o.ttl ≠ r.ttl)]; rfl))
          clear h5 h6 ht hv
          go_wp2_with (first
            | (go_at_call 79; refine (HSAME.out w7 HB7.out).mono ?_; rintro e w8 ⟨v8, rfl, rfl, hb8⟩; have HB8 : Hid (Below w7.heap.size w7 w8) := hb8; clear hb8)
            | (go_at_call 78; refine HEQ.out.mono ?_; rintro e w7 ⟨v7, rfl, rfl, hb7⟩; have HB7 : Hid (Below w6.heap.size w6 w7) := hb7; obtain ⟨i0, i1, i2, i3, i4, i5, i6, i7, i8⟩ := RRow.cells (HOX.out w7 hb7).1; obtain ⟨l0, l1, l2, l3, l4, l5, l6, l7, l8⟩ := RRow.cells (HOX.out w7 hb7).2; clear hb7)
            | fail)
          go_roundw
          case rel => exact ⟨j + 1, by go_num, by omega, HN1, nx HB26.out (nx HB7.out HB8.out)⟩
          case measure => simp [intOf]; omega
    have h6' : (r.type == 6) = true := by simp [h6]
    have hsb2 : so ≤ 256 := by rw [HSE.out]; have := HSL.out; omega
    by_cases hle : r.name.length = zl
    rotate_left
    · have HBAD : Hid (zsoundB zn rs = false) := HNO.out (by rw [HFIN.out _ rfl, decide_eq_true h6, decide_eq_false hle]; simp)
      rw [decide_eq_false hle] at HE
      clear h6 hle
      go_wp2_with (first | (go_at_call 78; refine (HE.out w4 HB4.out).mono ?_; rintro e w5 ⟨v5, rfl, rfl, hb5⟩; have HB5 : Hid (Below w2.heap.size w2 w5) := nx HB4.out hb5; clear hb5) | (go_at_call 35; refine (HU.out w3 HB3.out).mono ?_; rintro e w4 ⟨v4, rfl, rfl, hb4⟩; have HB4 : Hid (Below w2.heap.size w2 w4) := nx HB3.out hb4; obtain ⟨⟨m0, m1, m2, m3, m4, m5, m6, m7, m8⟩, n0, n1⟩ := (HX.out w4 (nx HB3.out hb4)).imp RRow.cells id; clear hb4) | (go_at_call 80; refine HSND.out.mono ?_; rintro e w3 ⟨v3, rfl, rfl, hb3⟩; have HB3 := Lib.hid hb3; obtain ⟨⟨p0, p1, p2, p3, p4, p5, p6, p7, p8⟩, r0, r1⟩ := (HX.out w3 hb3).imp RRow.cells id; clear hb3) | fail)
      go_ret
      exact ⟨_, rfl, by rw [HBAD.out]; rfl, nx HW2.out HB5.out⟩
    rw [decide_eq_true hle] at HE
    have HS1 : Hid (soasZ rs (k + 1) = so + 1) := by show _ = _; rw [HSO.out, if_pos h6, ← HSE.out]
    have HLST : Hid ((!false && (!decide (r.type = 6) || decide (r.name.length = zl))) = true) := by show _ = _; rw [decide_eq_true hle]; simp
    clear h6 hle
    go_upto_region 15 with (first | (go_at_call 78; refine (HE.out w4 HB4.out).mono ?_; rintro e w5 ⟨v5, rfl, rfl, hb5⟩; have HB5 : Hid (Below w2.heap.size w2 w5) := nx HB4.out hb5; clear hb5) | (go_at_call 35; refine (HU.out w3 HB3.out).mono ?_; rintro e w4 ⟨v4, rfl, rfl, hb4⟩; have HB4 : Hid (Below w2.heap.size w2 w4) := nx HB3.out hb4; obtain ⟨⟨m0, m1, m2, m3, m4, m5, m6, m7, m8⟩, n0, n1⟩ := (HX.out w4 (nx HB3.out hb4)).imp RRow.cells id; clear hb4) | (go_at_call 80; refine HSND.out.mono ?_; rintro e w3 ⟨v3, rfl, rfl, hb3⟩; have HB3 := Lib.hid hb3; obtain ⟨⟨p0, p1, p2, p3, p4, p5, p6, p7, p8⟩, r0, r1⟩ := (HX.out w3 hb3).imp RRow.cells id; clear hb3) | fail)
    clear x0 x1 x2 x3 x4 x5 x6 x7 x8 q0 q1 p0 p1 p2 p3 p4 p5 p6 p7 p8 r0 r1 m0 m1 m2 m3 m4 m5 m6 m7 m8 n0 n1 hc' h41' h255' h6'
    go_loopw [6] (fun jv wy => ∃ j : Nat, jv = .int .i64 (j : Int) ∧ j ≤ k ∧ Hid (((rs.take j).any fun o => clashB o r) = false) ∧ Hid (Below w2.heap.size w2 wy)) (fun jv _ => k - (intOf jv).toNat)
    case atStart => exact ⟨0, rfl, Nat.zero_le _, rfl, HB5⟩
    case round =>
      obtain ⟨j, rfl, hj, HCL, HBY⟩ := hrel
      obtain ⟨⟨e0, e1, e2, e3, e4, e5, e6, e7, e8⟩, f0, f1⟩ := (HX.out wr HBY.out).imp RRow.cells id
      by_cases hjk : j < k
      rotate_left
      · have hjk' : ¬ (j : Int) < (k : Int) := by omega
        obtain rfl : j = k := by omega
        have HOK : Hid (allZ zn rs (j + 1) = true) := by show _ = _; rw [HNX.out, HFIN.out false HCL.out.symm]; exact HLST.out
        clear hjk hj
        go_wp2
        go_roundw
        case rel => exact ⟨j + 1, by go_num, by omega, by rw [HS1.out]; go_num, HOK, nx HB2.out HBY.out⟩
        case measure => simp [intOf]; omega
      have hjk' : (j : Int) < (k : Int) := by omega
      have hjl : (j : Int) < (rs.length : Int) := by omega
      obtain ⟨o, ho⟩ : ∃ o, rs[j]? = some o := ⟨_, List.getElem?_eq_getElem (by omega)⟩
      have HLO := Lib.hid (HL.out o (List.mem_of_getElem? ho))
      have HYES : Hid (clashB o r = true → zsoundB zn rs = false) := fun h => HNO.out (by rw [HFIN.out true (any_take_t ho hjk h).symm]; rfl)
      have HNOT : Hid (clashB o r = false → ((rs.take (j + 1)).any fun o => clashB o r) = false) := fun h => any_take_z ho HCL.out h
      obtain ⟨b', off', t, hA', _, hoi, hoc⟩ := rr_at H.out ho
      rw [hAA.out] at hA'
      injection hA' with hA'
      injection hA' with hA1 hA2 _
      subst hA1 hA2
      have HWY : Hid (Below w.heap.size w wr) := nx HW2.out HBY.out
      obtain ⟨d0, d1, d2, d3, d4, d5, d6, d7, d8⟩ := hoc.below HWY.out
      have HOI := Lib.hid hoi
      obtain ⟨w6, hw6⟩ : ∃ u, u = wr.alloc (.cells #[.slice t.A o.name.length t.c, .int .i64 o.type, .int .i64 o.cls, .int .i64 o.ttl, .slice t.d.A0 o.data.bytes.length t.d.c0, .slice t.d.A1 o.data.host.length t.d.c1, .slice t.d.A2 o.data.mail.length t.d.c2, .slice t.d.A3 o.data.nums.length t.d.c3, .slice t.d.A4 o.data.texts.length t.d.c4] 84) := ⟨_, rfl⟩
      obtain ⟨g6, hg6⟩ : ∃ g, g = wr.heap.size := ⟨_, rfl⟩
      have HB6 : Hid (Below wr.heap.size wr w6) := by show Below _ _ _; rw [hw6]; exact bl.alloc (Nat.le_refl _) _
      have HO6 : Hid (RRow w6 g6 t o) := by show RRow _ _ _ _; rw [hw6, hg6]; exact heap_alloc_new wr _
      have HB26 : Hid (Below w2.heap.size w2 w6) := nx HBY.out HB6.out
      clear ho hoi hoc
      go_upto_region 18 with (fail)
      rw [← hw6]
      clear hw6 d0 d1 d2 d3 d4 d5 d6 d7 d8 e0 e1 e2 e3 e4 e5 e6 e7 e8 f0 f1
      rw [← hg6]
      clear hg6
      have HOX : Hid (∀ u, Below w6.heap.size w6 u → RRow u g6 t o ∧ RRow u g2 s r) := fun u hu => ⟨RRow.below HO6.out hu, (HX.out u (nx HB26.out hu)).1⟩
      have HOU : Hid (∀ u, Below w6.heap.size w6 u → RIn S u t o ∧ RIn S u s r ∧ ∀ x, S x → x < u.heap.size) := fun u hu => ⟨HOI.out.below (nx HW2.out (nx HB26.out hu)) HS.out, HI2.out u (nx HB26.out hu), HLT.out u (nx HB26.out hu)⟩
      have HEQ := Lib.hid (requal_any t.A s.A o.name.length t.c r.name.length s.c o.name r.name w6 ((HOU.out w6 bl).1.n.mono (HOU.out w6 bl).2.2 (HOU.out w6 bl).2.2) ((HOU.out w6 bl).2.1.n.mono (HOU.out w6 bl).2.2 (HOU.out w6 bl).2.2) (by have := HLO.out.1; unfold maxLen; omega) (by have := HLR.out.1; unfold maxLen; omega))
      have HSAME : Hid (∀ u, Below w6.heap.size w6 u → Calls Try.prog 79 #[.agg #[.slice t.d.A0 o.data.bytes.length t.d.c0, .slice t.d.A1 o.data.host.length t.d.c1, .slice t.d.A2 o.data.mail.length t.d.c2, .slice t.d.A3 o.data.nums.length t.d.c3, .slice t.d.A4 o.data.texts.length t.d.c4], .agg #[.slice s.d.A0 r.data.bytes.length s.d.c0, .slice s.d.A1 r.data.host.length s.d.c1, .slice s.d.A2 r.data.mail.length s.d.c2, .slice s.d.A3 r.data.nums.length s.d.c3, .slice s.d.A4 r.data.texts.length s.d.c4]] u (RetP (fun v _ => v = .bool (sameD o.data r.data)) u)) := fun u hu => rsame_any t.d s.d o.data r.data u ((HOU.out u hu).1.d.rd (HOU.out u hu).2.2) ((HOU.out u hu).2.1.d.rd (HOU.out u hu).2.2)
      obtain ⟨eqn, heq⟩ : ∃ c, c = decide (lowN o.name = lowN r.name) := ⟨_, rfl⟩
      obtain ⟨sm, hsm⟩ : ∃ c, c = sameD o.data r.data := ⟨_, rfl⟩
      rw [← heq] at HEQ
      rw [← hsm] at HSAME
      have HCB : Hid (clashB o r = (eqn && (if o.type = r.type then decide (o.type = 5) || (decide (o.ttl ≠ r.ttl) || sm) else decide (o.type = 5) || decide (r.type = 5)))) := by show _ = _; unfold clashB; rw [← heq, ← hsm]
      clear heq hsm
      obtain ⟨a0, a1, a2, a3, a4, a5, a6, a7, a8⟩ := RRow.cells HO6.out
      obtain ⟨c0, c1, c2, c3, c4, c5, c6, c7, c8⟩ := RRow.cells (HOX.out w6 bl).2
      cases eqn with
      | false =>
        have HN1 := Lib.hid (HNOT.out (by rw [HCB.out]; rfl))
        go_wp2_with (go_at_call 78; refine HEQ.out.mono ?_; rintro e w7 ⟨v7, rfl, rfl, hb7⟩; have HB7 : Hid (Below w6.heap.size w6 w7) := hb7; clear hb7)
        go_roundw
        case rel => exact ⟨j + 1, by go_num, by omega, HN1, nx HB26.out HB7.out⟩
        case measure => simp [intOf]; omega
      | true =>
      by_cases h5 : o.type = 5
      · have h5' : (o.type == 5) = true := by simp [h5]
        have HBAD := Lib.hid (HYES.out (by rw [HCB.out]; rw [decide_eq_true h5]; simp))
        clear h5
        go_wp2_with (go_at_call 78; refine HEQ.out.mono ?_; rintro e w7 ⟨v7, rfl, rfl, hb7⟩; have HB7 : Hid (Below w6.heap.size w6 w7) := hb7; obtain ⟨i0, i1, i2, i3, i4, i5, i6, i7, i8⟩ := RRow.cells (HOX.out w7 hb7).1; obtain ⟨l0, l1, l2, l3, l4, l5, l6, l7, l8⟩ := RRow.cells (HOX.out w7 hb7).2; clear hb7)
        go_ret
        exact ⟨_, rfl, by rw [HBAD.out]; rfl, nx HW2.out (nx HB26.out HB7.out)⟩
      have h5' : (o.type == 5) = false := by simp [h5]
      by_cases h6 : r.type = 5
      · have h6' : (r.type == 5) = true := by simp [h6]
        have HBAD := Lib.hid (HYES.out (by rw [HCB.out, if_neg (by rw [h6]; exact h5), decide_eq_true h6]; simp))
        clear h5 h6
        go_wp2_with (go_at_call 78; refine HEQ.out.mono ?_; rintro e w7 ⟨v7, rfl, rfl, hb7⟩; have HB7 : Hid (Below w6.heap.size w6 w7) := hb7; obtain ⟨i0, i1, i2, i3, i4, i5, i6, i7, i8⟩ := RRow.cells (HOX.out w7 hb7).1; obtain ⟨l0, l1, l2, l3, l4, l5, l6, l7, l8⟩ := RRow.cells (HOX.out w7 hb7).2; clear hb7)
        go_ret
        exact ⟨_, rfl, by rw [HBAD.out]; rfl, nx HW2.out (nx HB26.out HB7.out)⟩
      have h6' : (r.type == 5) = false := by simp [h6]
      by_cases ht : o.type = r.type
      rotate_left
      · have ht' : (o.type == r.type) = false := by simp [ht]
        have HN1 := Lib.hid (HNOT.out (by rw [HCB.out, if_neg ht, decide_eq_false h5, decide_eq_false h6]; rfl))
        clear h5 h6 ht
        go_wp2_with (go_at_call 78; refine HEQ.out.mono ?_; rintro e w7 ⟨v7, rfl, rfl, hb7⟩; have HB7 : Hid (Below w6.heap.size w6 w7) := hb7; obtain ⟨i0, i1, i2, i3, i4, i5, i6, i7, i8⟩ := RRow.cells (HOX.out w7 hb7).1; obtain ⟨l0, l1, l2, l3, l4, l5, l6, l7, l8⟩ := RRow.cells (HOX.out w7 hb7).2; clear hb7)
        go_roundw
        case rel => exact ⟨j + 1, by go_num, by omega, HN1, nx HB26.out HB7.out⟩
        case measure => simp [intOf]; omega
      have ht' : (o.type == r.type) = true := by simp [ht]
      by_cases hv : o.ttl = r.ttl
      rotate_left
      · have hv' : (o.ttl != r.ttl) = true := by simp [hv]
        have HBAD := Lib.hid (HYES.out (by rw [HCB.out, if_pos ht, decide_eq_true hv]; simp))
        clear h5 h6 ht hv
        go_wp2_with (go_at_call 78; refine HEQ.out.mono ?_; rintro e w7 ⟨v7, rfl, rfl, hb7⟩; have HB7 : Hid (Below w6.heap.size w6 w7) := hb7; obtain ⟨i0, i1, i2, i3, i4, i5, i6, i7, i8⟩ := RRow.cells (HOX.out w7 hb7).1; obtain ⟨l0, l1, l2, l3, l4, l5, l6, l7, l8⟩ := RRow.cells (HOX.out w7 hb7).2; clear hb7)
        go_ret
        exact ⟨_, rfl, by rw [HBAD.out]; rfl, nx HW2.out (nx HB26.out HB7.out)⟩
      have hv' : (o.ttl != r.ttl) = false := by simp [hv]
      cases sm with
      | true =>
        have HBAD := Lib.hid (HYES.out (by rw [HCB.out, if_pos ht]; simp))
        clear h5 h6 ht hv
        go_wp2_with (first
          | (go_at_call 79; refine (HSAME.out w7 HB7.out).mono ?_; rintro e w8 ⟨v8, rfl, rfl, hb8⟩; have HB8 : Hid (Below w7.heap.size w7 w8) := hb8; clear hb8)
          | (go_at_call 78; refine HEQ.out.mono ?_; rintro e w7 ⟨v7, rfl, rfl, hb7⟩; have HB7 : Hid (Below w6.heap.size w6 w7) := hb7; obtain ⟨i0, i1, i2, i3, i4, i5, i6, i7, i8⟩ := RRow.cells (HOX.out w7 hb7).1; obtain ⟨l0, l1, l2, l3, l4, l5, l6, l7, l8⟩ := RRow.cells (HOX.out w7 hb7).2; clear hb7)
          | fail)
        go_ret
        exact ⟨_, rfl, by rw [HBAD.out]; rfl, nx HW2.out (nx HB26.out (nx HB7.out HB8.out))⟩
      | false =>
        have HN1 := Lib.hid (HNOT.out (by rw [HCB.out, if_pos ht, decide_eq_false h5, decide_eq_false (by simp [hv] : ¬ o.ttl ≠ r.ttl)]; rfl))
        clear h5 h6 ht hv
        go_wp2_with (first
          | (go_at_call 79; refine (HSAME.out w7 HB7.out).mono ?_; rintro e w8 ⟨v8, rfl, rfl, hb8⟩; have HB8 : Hid (Below w7.heap.size w7 w8) := hb8; clear hb8)
          | (go_at_call 78; refine HEQ.out.mono ?_; rintro e w7 ⟨v7, rfl, rfl, hb7⟩; have HB7 : Hid (Below w6.heap.size w6 w7) := hb7; obtain ⟨i0, i1, i2, i3, i4, i5, i6, i7, i8⟩ := RRow.cells (HOX.out w7 hb7).1; obtain ⟨l0, l1, l2, l3, l4, l5, l6, l7, l8⟩ := RRow.cells (HOX.out w7 hb7).2; clear hb7)
          | fail)
        go_roundw
        case rel => exact ⟨j + 1, by go_num, by omega, HN1, nx HB26.out (nx HB7.out HB8.out)⟩
        case measure => simp [intOf]; omega
end Go.Proofs.Ytimkdpkhdbiniaa
