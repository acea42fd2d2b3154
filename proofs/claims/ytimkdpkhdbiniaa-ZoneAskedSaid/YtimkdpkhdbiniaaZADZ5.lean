/- Parts of a proof, joined: Zn7. -/
import Derived.Test.YtimkdpkhdbiniaaZADZ3
import Derived.Test.YtimkdpkhdbiniaaZADM12
/- zone.Sound (printed by gen/zn7.py). -/
namespace Go.Proofs.Ytimkdpkhdbiniaa
open Go.RowKit
set_option maxRecDepth 100000
set_option linter.unusedVariables false

/-- Is a record one that a zone may have, behind those ahead of it? -/
noncomputable def oneZ (zn : List (List UInt8)) (rs : List RR) (i : Nat) (r : RR) : Bool := fineRB r && (decide (r.cls = 1) && (underB r.name zn && (!decide (r.type = 41) && (!decide (r.type = 255) && (!((rs.take i).any fun o => clashB o r) && (!decide (r.type = 6) || decide (r.name.length = zn.length)))))))
noncomputable def allZ (zn : List (List UInt8)) (rs : List RR) : Nat → Bool
  | 0 => true
  | n + 1 => allZ zn rs n && match rs[n]? with
    | none => true
    | some r => oneZ zn rs n r
def soasZ (rs : List RR) (n : Nat) : Nat := ((rs.take n).filter fun r => decide (r.type = 6)).length
noncomputable def zsoundB (zn : List (List UInt8)) (rs : List RR) : Bool := soundB zn && (decide (1 ≤ rs.length) && (decide (rs.length ≤ 256) && (allZ zn rs rs.length && decide (soasZ rs rs.length = 1))))
theorem allZ_next {zn : List (List UInt8)} {rs : List RR} {n : Nat} {r : RR} (h : rs[n]? = some r) : allZ zn rs (n + 1) = (allZ zn rs n && oneZ zn rs n r) := by
  show (allZ zn rs n && match rs[n]? with | none => true | some r => oneZ zn rs n r) = _
  rw [h]
theorem allZ_no {zn : List (List UInt8)} {rs : List RR} {n : Nat} (h : allZ zn rs n = false) : ∀ k, n ≤ k → allZ zn rs k = false := by
  intro k hk
  induction k with
  | zero => obtain rfl : n = 0 := by omega
            exact h
  | succ k ih =>
    by_cases e : n = k + 1
    · rw [← e]; exact h
    · show (allZ zn rs k && _) = false
      rw [ih (by omega), Bool.false_and]
theorem zsoundB_all {zn : List (List UInt8)} {rs : List RR} {n : Nat} {r : RR} (h : rs[n]? = some r) (h1 : oneZ zn rs n r = false) : zsoundB zn rs = false := by
  have hlt : n < rs.length := (List.getElem?_eq_some_iff.1 h).1
  have h2 : allZ zn rs (n + 1) = false := by rw [allZ_next h, h1, Bool.and_false]
  unfold zsoundB
  rw [allZ_no h2 _ hlt]
  simp
theorem soasZ_next {rs : List RR} {n : Nat} {r : RR} (h : rs[n]? = some r) : soasZ rs (n + 1) = soasZ rs n + (if r.type = 6 then 1 else 0) := by
  unfold soasZ
  rw [List.take_add_one, h, Option.toList_some, List.filter_append, List.length_append]
  by_cases e : r.type = 6 <;> simp [e]
theorem soasZ_le (rs : List RR) (n : Nat) : soasZ rs n ≤ n := by
  unfold soasZ
  have h1 := List.length_filter_le (fun r : RR => decide (r.type = 6)) (rs.take n)
  rw [List.length_take] at h1
  omega

set_option maxHeartbeats 16000000 in
theorem zsound_any (zA RA : Option Addr) (zl zc rn rc : Nat) (zn : List (List UInt8)) (rs : List RR) (w : World) {S : Nat → Prop} (hz : RdE encS w zA zl zn) (h : Els encRR S S w RA rn rs) (hS : ∀ b, S b → b < w.heap.size) (hzl : zl ≤ 1000000000) (hrc : rn ≤ rc) (hn : rn ≤ 1000000) (hL : ∀ r ∈ rs, Lt9 r) :
    Calls Try.prog 82 #[.agg #[.slice zA zl zc, .slice RA rn rc]] w (RetP (fun v _ => v = .bool (zsoundB zn rs)) w) := by
  have hl := h.len
  subst hl
  obtain ⟨w1, hw1⟩ : ∃ w1, w1 = w.alloc (.cells #[.slice zA zl zc, .slice RA rs.length rc] 75) := ⟨_, rfl⟩
  obtain ⟨g, hg⟩ : ∃ g, g = w.heap.size := ⟨_, rfl⟩
  have hb1 : Below w.heap.size w w1 := by rw [hw1]; exact bl.alloc (Nat.le_refl _) _
  have z0 : w1.cell? ⟨g, 0, none⟩ = some (.slice zA zl zc) := by rw [hw1, hg]; exact new_cell w _ _ 0
  have z1 : w1.cell? ⟨g, 1, none⟩ = some (.slice RA rs.length rc) := by rw [hw1, hg]; exact new_cell w _ _ 1
  have HZ : Hid (w1.cell? ⟨g, 0, none⟩ = some (.slice zA zl zc) ∧ w1.cell? ⟨g, 1, none⟩ = some (.slice RA rs.length rc)) := ⟨z0, z1⟩
  have HZL := Lib.hid hz.len
  have HSN := Lib.hid (sound_any zA zl zc zn w1 (hz.below hb1) hzl)
  have H := Lib.hid h
  have HZN := Lib.hid hz
  have HS := Lib.hid hS
  have HL := Lib.hid hL
  have HB1 := Lib.hid hb1
  have HRN := Lib.hid (And.intro hn hzl)
  have hmf : ∀ (fn : Fn) (first cap : Array Value) (w : World), (Instr.makeFunc fn first cap).run Try.prog w = .ok (.func fn first cap) w := fun _ _ _ _ => rfl
  obtain ⟨sb, hsb⟩ : ∃ b, b = soundB zn := ⟨_, rfl⟩
  rw [← hsb] at HSN
  have HSB := Lib.hid hsb
  clear h hz hS hL hb1 hn hzl hsb
  go_enter Try.func82, Try.ntmps82
  go_upto_region 1 with (fail)
  rw [← hw1]
  clear hw1
  rw [← hg]
  clear hg
  cases sb with
  | false =>
    go_wp2_with (go_at_call 61; refine HSN.out.mono ?_; rintro e w0 ⟨rfl, rfl⟩)
    go_ret
    exact ⟨_, rfl, by unfold zsoundB; rw [← HSB.out]; rfl, HB1.out⟩
  | true =>
  by_cases hl1 : rs.length < 1
  · have hl1' : (rs.length : Int) < 1 := by omega
    have HR : Hid (zsoundB zn rs = false) := by show _ = _; unfold zsoundB; rw [decide_eq_false (by omega : ¬ 1 ≤ rs.length)]; simp
    clear hl1
    go_wp2_with (go_at_call 61; refine HSN.out.mono ?_; rintro e w0 ⟨rfl, rfl⟩)
    go_ret
    exact ⟨_, rfl, by rw [HR.out]; rfl, HB1.out⟩
  have hl1' : ¬ (rs.length : Int) < 1 := by omega
  by_cases hl2 : 256 < rs.length
  · have hl2' : (256 : Int) < (rs.length : Int) := by omega
    have HR : Hid (zsoundB zn rs = false) := by show _ = _; unfold zsoundB; rw [decide_eq_false (by omega : ¬ rs.length ≤ 256)]; simp
    clear hl1 hl2
    go_wp2_with (go_at_call 61; refine HSN.out.mono ?_; rintro e w0 ⟨rfl, rfl⟩)
    go_ret
    exact ⟨_, rfl, by rw [HR.out]; rfl, HB1.out⟩
  have hl2' : ¬ (256 : Int) < (rs.length : Int) := by omega
  have HLL : Hid (1 ≤ rs.length ∧ rs.length ≤ 256) := ⟨by omega, by omega⟩
  go_upto_region 5 with (go_at_call 61; refine HSN.out.mono ?_; rintro e w0 ⟨rfl, rfl⟩)
  clear z0 z1 hl1 hl2 hl1' hl2'
  have hrb : rs.length ≤ 256 := HLL.out.2
  go_loopw [3, 25] (fun sv iv wr => ∃ k : Nat, iv = .int .i64 (k : Int) ∧ k ≤ rs.length ∧ sv = .int .i64 (soasZ rs k : Int) ∧ Hid (allZ zn rs k = true) ∧ Hid (Below w1.heap.size w1 wr)) (fun _ iv _ => rs.length - (intOf iv).toNat)
  case atStart => exact ⟨0, rfl, Nat.zero_le _, rfl, rfl, bl⟩
  case round =>
    obtain ⟨k, rfl, hk, rfl, HALL, HBW⟩ := hrel
    by_cases hlt : k < rs.length
    rotate_left
    · have hkl : k = rs.length := by omega
      have hlt' : ¬ (k : Int) < (rs.length : Int) := by omega
      obtain ⟨so, hso⟩ : ∃ so, so = soasZ rs k := ⟨_, rfl⟩
      have HF : Hid (zsoundB zn rs = decide (so = 1)) := by
        show _ = _
        unfold zsoundB
        rw [← HSB.out, decide_eq_true HLL.out.1, decide_eq_true HLL.out.2, hso, hkl, ← hkl, HALL.out]
        simp
      rw [← hso]
      clear hkl hlt hso
      by_cases h1 : so = 1
      · subst h1
        go_wp2
        go_ret
        exact ⟨_, rfl, by rw [HF.out]; rfl, nx HB1.out HBW.out⟩
      · have h1' : ((so : Int) == 1) = false := beq_eq_false_iff_ne.2 (by omega)
        have HF2 : Hid (zsoundB zn rs = false) := by show _ = _; rw [HF.out]; exact decide_eq_false h1
        clear h1
        go_wp2
        go_ret
        exact ⟨_, rfl, by rw [HF2.out]; rfl, nx HB1.out HBW.out⟩
    have hlt' : (k : Int) < (rs.length : Int) := by omega
    obtain ⟨r, hr⟩ : ∃ r, rs[k]? = some r := ⟨_, List.getElem?_eq_getElem hlt⟩
    have HLR := Lib.hid (HL.out r (List.mem_of_getElem? hr))
    have HNX : Hid (allZ zn rs (k + 1) = oneZ zn rs k r) := by show _ = _; rw [allZ_next hr, HALL.out, Bool.true_and]
    have HNO : Hid (oneZ zn rs k r = false → zsoundB zn rs = false) := fun e => zsoundB_all hr e
    have HSO := Lib.hid (soasZ_next hr)
    have HSL := Lib.hid (soasZ_le rs k)
    obtain ⟨b, off, s, hA, hb0, hri, hrc2⟩ := rr_at H.out hr
    have HBW0 : Hid (Below w.heap.size w wr) := nx HB1.out HBW.out
    obtain ⟨d0, d1, d2, d3, d4, d5, d6, d7, d8⟩ := hrc2.below HBW0.out
    have hAA := Lib.hid hA
    have HRI := Lib.hid hri
    rw [hA]
    obtain ⟨w2, hw2⟩ : ∃ w2, w2 = wr.alloc (.cells #[.slice s.A r.name.length s.c, .int .i64 r.type, .int .i64 r.cls, .int .i64 r.ttl, .slice s.d.A0 r.data.bytes.length s.d.c0, .slice s.d.A1 r.data.host.length s.d.c1, .slice s.d.A2 r.data.mail.length s.d.c2, .slice s.d.A3 r.data.nums.length s.d.c3, .slice s.d.A4 r.data.texts.length s.d.c4] 84) := ⟨_, rfl⟩
    obtain ⟨g2, hg2⟩ : ∃ g, g = wr.heap.size := ⟨_, rfl⟩
    have hb2 : Below wr.heap.size wr w2 := by rw [hw2]; exact bl.alloc (Nat.le_refl _) _
    have HR2 : Hid (RRow w2 g2 s r) := by show RRow _ _ _ _; rw [hw2, hg2]; exact heap_alloc_new wr _
    have HB2 : Hid (Below w1.heap.size w1 w2) := nx HBW.out hb2
    have HW2 : Hid (Below w.heap.size w w2) := nx HBW0.out hb2
    clear hr hri hrc2 hA hb0 hb2
    obtain ⟨so, hso⟩ : ∃ so, so = soasZ rs k := ⟨_, rfl⟩
    have HSE := Lib.hid hso
    rw [← hso]
    clear hso
    go_upto_region 7 with (fail)
    rw [← hw2]
    clear hw2 d0 d1 d2 d3 d4 d5 d6 d7 d8
    rw [← hg2]
    clear hg2
    have hLt : ∀ u, Below w2.heap.size w2 u → ∀ x, S x → x < u.heap.size := fun u hu x hx => Nat.lt_of_lt_of_le (HS.out x hx) (nx HW2.out hu).size
    have HI2 : Hid (∀ u, Below w2.heap.size w2 u → RIn S u s r) := fun u hu => HRI.out.below (nx HW2.out hu) HS.out
    have HSND := Lib.hid (rrSound_any s r w2 (HI2.out w2 bl) (hLt w2 bl) HLR.out.1 HLR.out.2)
    have HU : Hid (∀ u, Below w2.heap.size w2 u → Calls Try.prog 83 #[.slice s.A r.name.length s.c, .slice zA zl zc] u (RetP (fun v _ => v = .bool (underB r.name zn)) u)) := fun u hu => nunder_any s.A zA r.name.length s.c zl zc r.name zn u ((HI2.out u hu).n.mono (hLt u hu) (hLt u hu)) (HZN.out.below (nx HW2.out hu)) HLR.out.1 HRN.out.2 HRI.out.cn.1
    have HCF : Hid (∀ u, Below w2.heap.size w2 u → Calls Try.prog 135 #[.slice (some ⟨b, off, none⟩) k rc, .func (.func 136) #[] #[.pointer (some ⟨g2, 0, none⟩)]] u (RetP (fun v _ => v = .bool ((rs.take k).any fun o => clashB o r)) u)) := fun u hu => hasZs_any g2 (fun o => clashB o r) (some ⟨b, off, none⟩) k rc (rs.take k) u (by have h0 := (H.out.below (nx HW2.out hu) HS.out HS.out).take (k := k) hk; rw [hAA.out] at h0; exact h0) (hLt u hu) (by omega) (fun s' x W hx hW hi => zsoundC_any g2 s' s x r W hi (HI2.out W (nx hu hW)) (fun x hx => Nat.lt_of_lt_of_le (hLt u hu x hx) hW.size) (fun x hx => Nat.lt_of_lt_of_le (hLt u hu x hx) hW.size) (RRow.below HR2.out (nx hu hW)))
    have HX : Hid (∀ u, Below w2.heap.size w2 u → (u.cell? ⟨g2, 0, none⟩ = some (.slice s.A r.name.length s.c) ∧ u.cell? ⟨g2, 1, none⟩ = some (.int .i64 r.type) ∧ u.cell? ⟨g2, 2, none⟩ = some (.int .i64 r.cls) ∧ u.cell? ⟨g, 0, none⟩ = some (.slice zA zl zc) ∧ u.cell? ⟨g, 1, none⟩ = some (.slice (some ⟨b, off, none⟩) rs.length rc))) := fun u hu => ⟨(RRow.below HR2.out hu).cells.1, (RRow.below HR2.out hu).cells.2.1, (RRow.below HR2.out hu).cells.2.2.1, below_cell (nx HB2.out hu) HZ.out.1, by have h0 := below_cell (nx HB2.out hu) HZ.out.2; rw [hAA.out] at h0; exact h0⟩
    have HONE : Hid (oneZ zn rs k r = (fineRB r && (decide (r.cls = 1) && (underB r.name zn && (!decide (r.type = 41) && (!decide (r.type = 255) && (!((rs.take k).any fun o => clashB o r) && (!decide (r.type = 6) || decide (r.name.length = zl))))))))) := by show _ = _; unfold oneZ; rw [HZL.out]
    obtain ⟨x0, x1, x2, x3, x4, x5, x6, x7, x8⟩ := HR2.out.cells
    obtain ⟨fr, hfr⟩ : ∃ c, c = fineRB r := ⟨_, rfl⟩
    obtain ⟨un, hun⟩ : ∃ c, c = underB r.name zn := ⟨_, rfl⟩
    obtain ⟨cl, hcl⟩ : ∃ c, c = (rs.take k).any fun o => clashB o r := ⟨_, rfl⟩
    rw [← hfr] at HSND HONE
    rw [← hun] at HU HONE
    rw [← hcl] at HCF HONE
    clear hfr hun hcl hLt
    cases fr with
    | false =>
      have HBAD : Hid (zsoundB zn rs = false) := HNO.out (by rw [HONE.out]; rfl)
      go_wp2_with (first
        | (go_at_call 134; refine HSND.out.mono ?_; rintro e w3 ⟨v3, rfl, rfl, hb3⟩; have HB3 := Lib.hid hb3; obtain ⟨p0, p1, p2, q0, q1⟩ := HX.out w3 hb3; clear hb3)
        | fail)
      go_ret
      exact ⟨_, rfl, by rw [HBAD.out]; rfl, nx HW2.out HB3.out⟩
    | true =>
    by_cases hc : r.cls = 1
    rotate_left
    · have hc' : (r.cls != 1) = true := by simp [hc]
      have HBAD : Hid (zsoundB zn rs = false) := HNO.out (by rw [HONE.out]; rw [decide_eq_false hc]; rfl)
      clear hc
      go_wp2_with (first
        | (go_at_call 134; refine HSND.out.mono ?_; rintro e w3 ⟨v3, rfl, rfl, hb3⟩; have HB3 := Lib.hid hb3; obtain ⟨p0, p1, p2, q0, q1⟩ := HX.out w3 hb3; clear hb3)
        | fail)
      go_ret
      exact ⟨_, rfl, by rw [HBAD.out]; rfl, nx HW2.out HB3.out⟩
    have hc' : (r.cls != 1) = false := by simp [hc]
    have HC := Lib.hid hc
    clear hc
    cases un with
    | false =>
      have HBAD : Hid (zsoundB zn rs = false) := HNO.out (by rw [HONE.out]; simp)
      go_wp2_with (first
        | (go_at_call 134; refine HSND.out.mono ?_; rintro e w3 ⟨v3, rfl, rfl, hb3⟩; have HB3 := Lib.hid hb3; obtain ⟨p0, p1, p2, q0, q1⟩ := HX.out w3 hb3; clear hb3)
        | (go_at_call 83; refine (HU.out w3 HB3.out).mono ?_; rintro e w4 ⟨v4, rfl, rfl, hb4⟩; have HB4 := Lib.hid (nx HB3.out hb4); obtain ⟨r0, r1, r2, t0, t1⟩ := HX.out w4 HB4.out; clear hb4)
        | fail)
      go_ret
      exact ⟨_, rfl, by rw [HBAD.out]; rfl, nx HW2.out HB4.out⟩
    | true =>
    by_cases h41 : r.type = 41
    · have h41' : (r.type == 41) = true := by simp [h41]
      have HBAD : Hid (zsoundB zn rs = false) := HNO.out (by rw [HONE.out]; rw [decide_eq_true h41]; simp)
      clear h41
      go_wp2_with (first
        | (go_at_call 134; refine HSND.out.mono ?_; rintro e w3 ⟨v3, rfl, rfl, hb3⟩; have HB3 := Lib.hid hb3; obtain ⟨p0, p1, p2, q0, q1⟩ := HX.out w3 hb3; clear hb3)
        | (go_at_call 83; refine (HU.out w3 HB3.out).mono ?_; rintro e w4 ⟨v4, rfl, rfl, hb4⟩; have HB4 := Lib.hid (nx HB3.out hb4); obtain ⟨r0, r1, r2, t0, t1⟩ := HX.out w4 HB4.out; clear hb4)
        | fail)
      go_ret
      exact ⟨_, rfl, by rw [HBAD.out]; rfl, nx HW2.out HB4.out⟩
    have h41' : (r.type == 41) = false := by simp [h41]
    have H41 := Lib.hid h41
    clear h41
    by_cases h255 : r.type = 255
    · have h255' : (r.type == 255) = true := by simp [h255]
      have HBAD : Hid (zsoundB zn rs = false) := HNO.out (by rw [HONE.out]; rw [decide_eq_true h255]; simp)
      clear h255
      go_wp2_with (first
        | (go_at_call 134; refine HSND.out.mono ?_; rintro e w3 ⟨v3, rfl, rfl, hb3⟩; have HB3 := Lib.hid hb3; obtain ⟨p0, p1, p2, q0, q1⟩ := HX.out w3 hb3; clear hb3)
        | (go_at_call 83; refine (HU.out w3 HB3.out).mono ?_; rintro e w4 ⟨v4, rfl, rfl, hb4⟩; have HB4 := Lib.hid (nx HB3.out hb4); obtain ⟨r0, r1, r2, t0, t1⟩ := HX.out w4 HB4.out; clear hb4)
        | fail)
      go_ret
      exact ⟨_, rfl, by rw [HBAD.out]; rfl, nx HW2.out HB4.out⟩
    have h255' : (r.type == 255) = false := by simp [h255]
    have H255 := Lib.hid h255
    clear h255
    have hkc : (k : Int) ≤ (rc : Int) := by omega
    cases cl with
    | true =>
      have HBAD : Hid (zsoundB zn rs = false) := HNO.out (by rw [HONE.out]; simp)
      go_wp2_with (first
        | (go_at_call 134; refine HSND.out.mono ?_; rintro e w3 ⟨v3, rfl, rfl, hb3⟩; have HB3 := Lib.hid hb3; obtain ⟨p0, p1, p2, q0, q1⟩ := HX.out w3 hb3; clear hb3)
        | (go_at_call 83; refine (HU.out w3 HB3.out).mono ?_; rintro e w4 ⟨v4, rfl, rfl, hb4⟩; have HB4 := Lib.hid (nx HB3.out hb4); obtain ⟨r0, r1, r2, t0, t1⟩ := HX.out w4 HB4.out; clear hb4)
        | (go_at_call 135; refine (HCF.out w4 HB4.out).mono ?_; rintro e w5 ⟨v5, rfl, rfl, hb5⟩; have HB5 := Lib.hid (nx HB4.out hb5); obtain ⟨n0, n1, n2, m0, m1⟩ := HX.out w5 HB5.out; clear hb5)
        | fail)
      go_ret
      exact ⟨_, rfl, by rw [HBAD.out]; rfl, nx HW2.out HB5.out⟩
    | false =>
    by_cases h6 : r.type = 6
    rotate_left
    · have h6' : (r.type == 6) = false := by simp [h6]
      have HOK : Hid (allZ zn rs (k + 1) = true) := by show _ = _; rw [HNX.out, HONE.out, decide_eq_true HC.out, decide_eq_false H41.out, decide_eq_false H255.out, decide_eq_false h6]; rfl
      have HS1 : Hid (soasZ rs (k + 1) = so) := by show _ = _; rw [HSO.out, if_neg h6, ← HSE.out]; rfl
      clear h6
      go_wp2_with (first
        | (go_at_call 134; refine HSND.out.mono ?_; rintro e w3 ⟨v3, rfl, rfl, hb3⟩; have HB3 := Lib.hid hb3; obtain ⟨p0, p1, p2, q0, q1⟩ := HX.out w3 hb3; clear hb3)
        | (go_at_call 83; refine (HU.out w3 HB3.out).mono ?_; rintro e w4 ⟨v4, rfl, rfl, hb4⟩; have HB4 := Lib.hid (nx HB3.out hb4); obtain ⟨r0, r1, r2, t0, t1⟩ := HX.out w4 HB4.out; clear hb4)
        | (go_at_call 135; refine (HCF.out w4 HB4.out).mono ?_; rintro e w5 ⟨v5, rfl, rfl, hb5⟩; have HB5 := Lib.hid (nx HB4.out hb5); obtain ⟨n0, n1, n2, m0, m1⟩ := HX.out w5 HB5.out; clear hb5)
        | fail)
      go_roundw
      case rel => exact ⟨k + 1, by go_num, by omega, by rw [HS1.out], HOK, nx HB2.out HB5.out⟩
      case measure => simp [intOf]; omega
    have h6' : (r.type == 6) = true := by simp [h6]
    have hsb2 : so ≤ 256 := by rw [HSE.out]; have := HSL.out; omega
    by_cases hle : r.name.length = zl
    rotate_left
    · have hle' : ((r.name.length : Int) != (zl : Int)) = true := by simp; omega
      have HBAD : Hid (zsoundB zn rs = false) := HNO.out (by rw [HONE.out]; rw [decide_eq_true h6, decide_eq_false hle]; simp)
      clear h6 hle
      go_wp2_with (first
        | (go_at_call 134; refine HSND.out.mono ?_; rintro e w3 ⟨v3, rfl, rfl, hb3⟩; have HB3 := Lib.hid hb3; obtain ⟨p0, p1, p2, q0, q1⟩ := HX.out w3 hb3; clear hb3)
        | (go_at_call 83; refine (HU.out w3 HB3.out).mono ?_; rintro e w4 ⟨v4, rfl, rfl, hb4⟩; have HB4 := Lib.hid (nx HB3.out hb4); obtain ⟨r0, r1, r2, t0, t1⟩ := HX.out w4 HB4.out; clear hb4)
        | (go_at_call 135; refine (HCF.out w4 HB4.out).mono ?_; rintro e w5 ⟨v5, rfl, rfl, hb5⟩; have HB5 := Lib.hid (nx HB4.out hb5); obtain ⟨n0, n1, n2, m0, m1⟩ := HX.out w5 HB5.out; clear hb5)
        | fail)
      go_ret
      exact ⟨_, rfl, by rw [HBAD.out]; rfl, nx HW2.out HB5.out⟩
    have hle' : ((r.name.length : Int) != (zl : Int)) = false := by simp; omega
    have HOK : Hid (allZ zn rs (k + 1) = true) := by show _ = _; rw [HNX.out, HONE.out, decide_eq_true HC.out, decide_eq_false H41.out, decide_eq_false H255.out, decide_eq_true hle]; simp
    have HS1 : Hid (soasZ rs (k + 1) = so + 1) := by show _ = _; rw [HSO.out, if_pos h6, ← HSE.out]
    clear h6 hle
    go_wp2_with (first
      | (go_at_call 134; refine HSND.out.mono ?_; rintro e w3 ⟨v3, rfl, rfl, hb3⟩; have HB3 := Lib.hid hb3; obtain ⟨p0, p1, p2, q0, q1⟩ := HX.out w3 hb3; clear hb3)
      | (go_at_call 83; refine (HU.out w3 HB3.out).mono ?_; rintro e w4 ⟨v4, rfl, rfl, hb4⟩; have HB4 := Lib.hid (nx HB3.out hb4); obtain ⟨r0, r1, r2, t0, t1⟩ := HX.out w4 HB4.out; clear hb4)
      | (go_at_call 135; refine (HCF.out w4 HB4.out).mono ?_; rintro e w5 ⟨v5, rfl, rfl, hb5⟩; have HB5 := Lib.hid (nx HB4.out hb5); obtain ⟨n0, n1, n2, m0, m1⟩ := HX.out w5 HB5.out; clear hb5)
      | fail)
    go_roundw
    case rel => exact ⟨k + 1, by go_num, by omega, by rw [HS1.out]; go_num, HOK, nx HB2.out HB5.out⟩
    case measure => simp [intOf]; omega
end Go.Proofs.Ytimkdpkhdbiniaa
