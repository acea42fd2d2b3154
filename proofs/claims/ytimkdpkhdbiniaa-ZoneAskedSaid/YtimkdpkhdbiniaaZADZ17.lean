/- Parts of a proof, joined: RSetA, RSmA, Zs17b. -/
import Derived.Test.YtimkdpkhdbiniaaZADF09a
import Derived.Test.YtimkdpkhdbiniaaZADM05
import Derived.Test.YtimkdpkhdbiniaaZADZ15
import Derived.Test.YtimkdpkhdbiniaaZADM03r
import Derived.Test.YtimkdpkhdbiniaaZADX7a
/- The reference's Set, over IdxA (out of RrSet). -/
namespace Go.Proofs.Ytimkdpkhdbiniaa
open Go.RowKit
set_option maxRecDepth 100000

/-- Is a record of a name and a type? -/
def isR (n : List (List UInt8)) (k : Int) (r : RR) : Bool := decide (r.type = k) && (decide (r.cls = 1) && decide (lowN r.name = lowN n))
def stepS (n : List (List UInt8)) (k : Int) (p : List Da × Int) (r : RR) : List Da × Int :=
  if isR n k r = true then (if inD p.1 r.data = true then p.1 else p.1 ++ [r.data], if p.1 = [] ∨ r.ttl < p.2 then r.ttl else p.2) else p
/-- The set of a name and a type, and its least TTL. -/
def setP (l : List RR) (n : List (List UInt8)) (k : Int) : List Da × Int := l.foldl (stepS n k) ([], 0)
theorem setP_take {l : List RR} {n : List (List UInt8)} {k : Int} {j : Nat} {r : RR} (h : l[j]? = some r) : setP (l.take (j + 1)) n k = stepS n k (setP (l.take j) n k) r := by
  unfold setP
  rw [List.take_add_one, h, Option.toList_some, List.foldl_append]
  rfl
theorem setP_len (l : List RR) (n : List (List UInt8)) (k : Int) : (setP l n k).1.length ≤ l.length := by
  refine snoc_ind (P := fun l => (setP l n k).1.length ≤ l.length) (Nat.le_refl _) (fun l r ih => ?_) l
  have e : setP (l ++ [r]) n k = stepS n k (setP l n k) r := by unfold setP; rw [List.foldl_append]; rfl
  rw [e]
  unfold stepS
  simp only [List.length_append, List.length_singleton]
  split
  · simp only
    split
    · omega
    · rw [List.length_append, List.length_singleton]; omega
  · omega
theorem stepS_no {n : List (List UInt8)} {k : Int} {p : List Da × Int} {r : RR} (h : isR n k r = false) : stepS n k p r = p := by unfold stepS; rw [h]; rfl
theorem stepS_yes {n : List (List UInt8)} {k : Int} {p : List Da × Int} {r : RR} (h : isR n k r = true) : stepS n k p r = (if inD p.1 r.data = true then p.1 else p.1 ++ [r.data], if p.1 = [] ∨ r.ttl < p.2 then r.ttl else p.2) := by unfold stepS; rw [if_pos h]


theorem NewE.rdE {α : Type} {E : Enc α} {e : TypeId} {B : Nat} {w : World} {v : Value} {xs : List α} (h : NewE E e B w v xs) : ∃ A c, v = .slice A xs.length c ∧ RdE E w A xs.length xs ∧ xs.length ≤ c ∧ c ≤ maxLen := by
  obtain ⟨S, ho, _⟩ := h
  exact ho.rdE


theorem setR_push {w wr : World} {v : Value} {l : List Da} {d : Da} (h : OwnE encDa 46 (orS (ltS w) (ltS w)) wr w.heap.size v (l ++ [d])) : OwnE encDa 46 (ltS w) wr w.heap.size v (l ++ [d]) := by
  have hS : orS (ltS w) (ltS w) = ltS w := by funext b; simp [orS]
  rwa [hS] at h

/-- A row of the call's own; its elements' slices lie in what was there. -/
def SetR (w wr : World) (v : Value) (l : List Da) : Prop := OwnE encDa 46 (ltS w) wr w.heap.size v l
theorem SetR.rd {w wr : World} {v : Value} {l : List Da} (h : SetR w wr v l) : ∃ A c, v = .slice A l.length c ∧ RdE encDa wr A l.length l ∧ l.length ≤ c ∧ c ≤ maxLen := OwnE.rdE h
theorem SetR.below {w wr w' : World} {v : Value} {l : List Da} (h : SetR w wr v l) (hb : Below wr.heap.size wr w') : SetR w w' v l := OwnE.below h hb


set_option maxHeartbeats 8000000 in
theorem rset_any (A A' : Option Addr) (n c n' c' : Nat) (xs : List RR) (ns : List (List UInt8)) (kind : Int) (w : World) (h : RdE encRR w A n xs) (hns : RdE encS w A' n' ns) (hn : n ≤ 1000000) (hn' : n' ≤ maxLen) (hL : ∀ r ∈ xs, Light9 r) :
    Calls Try.prog 46 #[.slice A n c, .slice A' n' c', .int .i64 kind] w (RetP (fun v w' => ∃ sv, v = .tuple #[sv, .int .i64 (setP xs ns kind).2] ∧ SetR w w' sv (setP xs ns kind).1) w) := by
  have hl := h.len
  subst hl
  have H := Lib.hid h
  have HN := Lib.hid hns
  have HL := Lib.hid hL
  have HM := Lib.hid hn'
  clear h hns hL hn'
  go_enter Try.func46, Try.ntmps46
  go_wp2
  go_loopw [8, 9, 10, 11] (fun sv tv av iv wr => ∃ k : Nat, iv = .int .i64 k ∧ k ≤ xs.length ∧ Hid (SetR w wr sv (setP (xs.take k) ns kind).1) ∧ tv = .int .i64 (setP (xs.take k) ns kind).2 ∧ av = .bool (decide ((setP (xs.take k) ns kind).1 ≠ [])) ∧ Hid (Below w.heap.size w wr)) (fun _ _ _ iv _ => xs.length - (intOf iv).toNat)
  case atStart => exact ⟨0, rfl, Nat.zero_le _, ⟨[], World.ownsRow_nil _ _ _ _, fun i x h => by simp [setP] at h, fun b hb => ⟨hb, by simp [Value.ownBlock]⟩⟩, rfl, rfl, bl⟩
  case round =>
    obtain ⟨k, rfl, hk, HOWN, rfl, rfl, HBW⟩ := hrel
    by_cases hlt : k < xs.length
    · obtain ⟨r, hr⟩ : ∃ r, xs[k]? = some r := ⟨_, List.getElem?_eq_getElem hlt⟩
      have HLR := Lib.hid (HL.out r (List.mem_of_getElem? hr))
      obtain ⟨b, off, s, hA, hb0, hri, hrc⟩ := rr_at H.out hr
      have HEQ := Lib.hid (setP_take (n := ns) (k := kind) hr)
      have HRI := Lib.hid hri
      have hAA := Lib.hid hA
      rw [hA]
      have hpl : (setP (xs.take k) ns kind).1.length ≤ k := by have h1 := setP_len (xs.take k) ns kind; rw [List.length_take] at h1; omega
      have HPL := Lib.hid hpl
      obtain ⟨d0, d1, d2, d3, d4, d5, d6, d7, d8⟩ := hrc.below HBW.out
      obtain ⟨w1, hw1⟩ : ∃ w1, w1 = wr.alloc (.cells #[.slice s.A r.name.length s.c, .int .i64 r.type, .int .i64 r.cls, .int .i64 r.ttl, .slice s.d.A0 r.data.bytes.length s.d.c0, .slice s.d.A1 r.data.host.length s.d.c1, .slice s.d.A2 r.data.mail.length s.d.c2, .slice s.d.A3 r.data.nums.length s.d.c3, .slice s.d.A4 r.data.texts.length s.d.c4] 84) := ⟨_, rfl⟩
      have hb1 : Below wr.heap.size wr w1 := by rw [hw1]; exact bl.alloc (Nat.le_refl _) _
      have HR1 : Hid (RRow w1 wr.heap.size s r) := by show RRow _ _ _ _; rw [hw1]; exact heap_alloc_new wr _
      have HB1 := Lib.hid hb1
      clear hr hri hrc hA hb0 hb1 hpl
      generalize setP (xs.take k) ns kind = p at HOWN HEQ HPL ⊢
      go_upto_region 8 with (fail)
      rw [← hw1]
      clear hw1 d0 d1 d2 d3 d4 d5 d6 d7 d8
      obtain ⟨x0, x1, x2, x3, x4, x5, x6, x7, x8⟩ := HR1.out.cells
      have HW1 := Lib.hid (nx HBW.out HB1.out)
      have HI1 := Lib.hid (HRI.out.below HW1.out (fun b hb => hb))
      have HLS : Hid (∀ b, ltS w b → b < w1.heap.size) := fun b (hb : b < w.heap.size) => Nat.lt_of_lt_of_le hb HW1.out.size
      by_cases hc : r.cls = 1
      rotate_left
      · have HNO : Hid (isR ns kind r = false) := by show _ = _; unfold isR; rw [decide_eq_false hc]; simp
        go_wp2
        go_roundw
        case rel => exact ⟨k + 1, by go_num, by omega, by rw [HEQ.out, stepS_no HNO.out]; exact HOWN.out.below HB1.out, by rw [HEQ.out, stepS_no HNO.out], by rw [HEQ.out, stepS_no HNO.out]; simp, HW1.out⟩
        case measure => simp [intOf]; omega
      by_cases ht : r.type = kind
      rotate_left
      · have HNO : Hid (isR ns kind r = false) := by show _ = _; unfold isR; rw [decide_eq_false ht]; rfl
        go_wp2
        go_roundw
        case rel => exact ⟨k + 1, by go_num, by omega, by rw [HEQ.out, stepS_no HNO.out]; exact HOWN.out.below HB1.out, by rw [HEQ.out, stepS_no HNO.out], by rw [HEQ.out, stepS_no HNO.out]; simp, HW1.out⟩
        case measure => simp [intOf]; omega
      by_cases he : lowN r.name = lowN ns
      rotate_left
      · have HNO : Hid (isR ns kind r = false) := by show _ = _; unfold isR; rw [decide_eq_false he]; simp
        have HE := Lib.hid (decide_eq_false he)
        clear he
        go_wp2_with ((go_at_call 78; refine (requal_any s.A A' r.name.length s.c n' c' r.name ns w1 (HI1.out.n.mono HLS.out HLS.out) (HN.out.below HW1.out) (Nat.le_trans HI1.out.cn.1 HI1.out.cn.2) HM.out).mono ?_; rw [HE.out]; rintro e w2 ⟨v2, rfl, rfl, hb2⟩; obtain ⟨y0, y1, y2, y3, y4, y5, y6, y7, y8⟩ := (HR1.out.below hb2).cells))
        go_roundw
        case rel => exact ⟨k + 1, by go_num, by omega, by rw [HEQ.out, stepS_no HNO.out]; exact HOWN.out.below (nx HB1.out hb2), by rw [HEQ.out, stepS_no HNO.out], by rw [HEQ.out, stepS_no HNO.out]; simp, nx HW1.out hb2⟩
        case measure => simp [intOf]; omega
      have HYES : Hid (isR ns kind r = true) := by show _ = _; unfold isR; rw [decide_eq_true ht, decide_eq_true hc, decide_eq_true he]; rfl
      have HE := Lib.hid (decide_eq_true he)
      clear he
      by_cases hem : p.1 = []
      · have HEM := Lib.hid hem
        have HTT : Hid (p.1 = [] ∨ r.ttl < p.2) := .inl hem
        have hin : inD p.1 r.data = false := by rw [hem]; rfl
        clear HEM
        obtain ⟨pl, pt⟩ := p
        have hem2 : pl = [] := hem
        subst hem2
        clear hem
        rw [decide_eq_false (show ¬ (([], pt) : List Da × Int).1 ≠ [] from fun h => h rfl)]
        obtain ⟨B, kb, hsv, hrb, _, _⟩ := HOWN.out.rd
        have HRB := Lib.hid hrb
        clear hrb
        subst hsv
        have HIN : Hid (inD ([] : List Da) r.data = false) := hin
        clear hin
        go_wp2_with (first
          | ((with_reducible show wpList _ _ _ (⟨some 57, _, _, _, _, _⟩ :: _) _ _); refine wpL_pushE elDa rfl (.tmp 53) (.tmp 56) rfl w.heap.size (.slice B 0 kb) ([] : List Da) rfl hown _ r.data hrow ?hS rfl ?hb ?hl ?hbase ?_; rotate_right; intro v5 w5 hown5 hg5 hat5)
          | (go_at_call 77; refine (rin_any B 0 kb ([] : List Da) s.d r.data w2 (HRB.out.below (nx HB1.out hb2)) (by have := HPL.out; omega) ((HI1.out.d.rd HLS.out).below hb2)).mono ?_; rw [HIN.out]; rintro e w3 ⟨v3, rfl, rfl, hb3⟩; obtain ⟨z0, z1, z2, z3, z4, z5, z6, z7, z8⟩ := ((HR1.out.below hb2).below hb3).cells; have hb03 := nx HB1.out (nx hb2 hb3); have hown := OwnE.below HOWN.out hb03; have hlto := HOWN.out.lt; have hrow : encDa.R (ltS w) w3 [.slice s.d.A0 r.data.bytes.length s.d.c0, .slice s.d.A1 r.data.host.length s.d.c1, .slice s.d.A2 r.data.mail.length s.d.c2, .slice s.d.A3 r.data.nums.length s.d.c3, .slice s.d.A4 r.data.texts.length s.d.c4] r.data := ⟨s.d, rfl, HRI.out.d.keep (fun b hb => (nx HBW.out hb03).block b hb)⟩; have hbase0 := HBW.out.size)
          | (go_at_call 78; refine (requal_any s.A A' r.name.length s.c n' c' r.name ns w1 (HI1.out.n.mono HLS.out HLS.out) (HN.out.below HW1.out) (Nat.le_trans HI1.out.cn.1 HI1.out.cn.2) HM.out).mono ?_; rw [HE.out]; rintro e w2 ⟨v2, rfl, rfl, hb2⟩; obtain ⟨y0, y1, y2, y3, y4, y5, y6, y7, y8⟩ := (HR1.out.below hb2).cells)
          | fail)
        · go_roundw
          case rel =>
            have hs : stepS ns kind (([], pt) : List Da × Int) r = (([] : List Da) ++ [r.data], r.ttl) := by rw [stepS_yes HYES.out]; show (if inD [] r.data = true then ([] : List Da) else [] ++ [r.data], if ([] : List Da) = [] ∨ r.ttl < pt then r.ttl else pt) = _; rw [HIN.out, if_pos (Or.inl rfl)]; rfl
            exact ⟨k + 1, by go_num, by omega, by rw [HEQ.out, hs]; exact setR_push hown5, by rw [HEQ.out, hs], by rw [HEQ.out, hs]; exact congrArg Value.bool (by simp), ((nx HBW.out hb03)).grown hg5 (by have := hb03.size; omega) (fun j hj => (hown.lt j hj).1)⟩
          case measure => simp [intOf]; omega
        case hS =>
          intro b hb
          refine ⟨Nat.lt_of_lt_of_le hb (nx HBW.out hb03).size, fun he => ?_⟩
          have h1 := (hlto b he.symm).1
          have h2 : b < w.heap.size := hb
          omega
        case hb => have := HPL.out; show (([] : List Da).length + 1) * 120 ≤ _; decide
        case hl => have := HPL.out; show ([] : List Da).length + 1 ≤ _; unfold maxLen; decide
        case hbase => have := hb03.size; omega
      · have HEM := Lib.hid hem
        have hlen : (0 : Int) < (p.1.length : Int) := by have := List.length_pos_iff.2 hem; omega
        have hlen2 : ¬ (p.1.length : Int) = 0 := by omega
        rw [decide_eq_true hem]
        clear hlen hlen2
        by_cases htt : r.ttl < p.2
        · have HTT : Hid (p.1 = [] ∨ r.ttl < p.2) := .inr htt
          clear hem
          cases hin : inD p.1 r.data with
          | false =>
            obtain ⟨B, kb, hsv, hrb, _, _⟩ := HOWN.out.rd
            have HRB := Lib.hid hrb
            clear hrb
            subst hsv
            have HIN : Hid (inD p.1 r.data = false) := hin
            clear hin
            go_wp2_with (first
              | ((with_reducible show wpList _ _ _ (⟨some 57, _, _, _, _, _⟩ :: _) _ _); refine wpL_pushE elDa rfl (.tmp 53) (.tmp 56) rfl w.heap.size (.slice B p.1.length kb) p.1 rfl hown _ r.data hrow ?hS rfl ?hb ?hl ?hbase ?_; rotate_right; intro v5 w5 hown5 hg5 hat5)
              | (go_at_call 77; refine (rin_any B _ kb p.1 s.d r.data w2 (HRB.out.below (nx HB1.out hb2)) (by have := HPL.out; omega) ((HI1.out.d.rd HLS.out).below hb2)).mono ?_; rw [HIN.out]; rintro e w3 ⟨v3, rfl, rfl, hb3⟩; obtain ⟨z0, z1, z2, z3, z4, z5, z6, z7, z8⟩ := ((HR1.out.below hb2).below hb3).cells; have hb03 := nx HB1.out (nx hb2 hb3); have hown := OwnE.below HOWN.out hb03; have hlto := HOWN.out.lt; have hrow : encDa.R (ltS w) w3 [.slice s.d.A0 r.data.bytes.length s.d.c0, .slice s.d.A1 r.data.host.length s.d.c1, .slice s.d.A2 r.data.mail.length s.d.c2, .slice s.d.A3 r.data.nums.length s.d.c3, .slice s.d.A4 r.data.texts.length s.d.c4] r.data := ⟨s.d, rfl, HRI.out.d.keep (fun b hb => (nx HBW.out hb03).block b hb)⟩; have hbase0 := HBW.out.size)
              | (go_at_call 78; refine (requal_any s.A A' r.name.length s.c n' c' r.name ns w1 (HI1.out.n.mono HLS.out HLS.out) (HN.out.below HW1.out) (Nat.le_trans HI1.out.cn.1 HI1.out.cn.2) HM.out).mono ?_; rw [HE.out]; rintro e w2 ⟨v2, rfl, rfl, hb2⟩; obtain ⟨y0, y1, y2, y3, y4, y5, y6, y7, y8⟩ := (HR1.out.below hb2).cells)
              | fail)
            · go_roundw
              case rel =>
                have hs : stepS ns kind p r = (p.1 ++ [r.data], r.ttl) := by rw [stepS_yes HYES.out]; show (if inD p.1 r.data = true then _ else _, _) = _; rw [HIN.out, if_pos HTT.out]; rfl
                exact ⟨k + 1, by go_num, by omega, by rw [HEQ.out, hs]; exact setR_push hown5, by rw [HEQ.out, hs], by rw [HEQ.out, hs]; exact congrArg Value.bool (by simp), ((nx HBW.out hb03)).grown hg5 (by have := hb03.size; omega) (fun j hj => (hown.lt j hj).1)⟩
              case measure => simp [intOf]; omega
            case hS =>
              intro b hb
              refine ⟨Nat.lt_of_lt_of_le hb (nx HBW.out hb03).size, fun he => ?_⟩
              have h1 := (hlto b he.symm).1
              have h2 : b < w.heap.size := hb
              omega
            case hb => have := HPL.out; show (p.1.length + 1) * 120 ≤ _; omega
            case hl => have := HPL.out; show p.1.length + 1 ≤ _; unfold maxLen; omega
            case hbase => have := hb03.size; omega
          | true =>
            obtain ⟨B, kb, hsv, hrb, _, _⟩ := HOWN.out.rd
            have HRB := Lib.hid hrb
            clear hrb
            subst hsv
            have HIN : Hid (inD p.1 r.data = true) := hin
            clear hin
            go_wp2_with (first
              | (go_at_call 77; refine (rin_any B _ kb p.1 s.d r.data w2 (HRB.out.below (nx HB1.out hb2)) (by have := HPL.out; omega) ((HI1.out.d.rd HLS.out).below hb2)).mono ?_; rw [HIN.out]; rintro e w3 ⟨v3, rfl, rfl, hb3⟩; obtain ⟨z0, z1, z2, z3, z4, z5, z6, z7, z8⟩ := ((HR1.out.below hb2).below hb3).cells)
              | (go_at_call 78; refine (requal_any s.A A' r.name.length s.c n' c' r.name ns w1 (HI1.out.n.mono HLS.out HLS.out) (HN.out.below HW1.out) (Nat.le_trans HI1.out.cn.1 HI1.out.cn.2) HM.out).mono ?_; rw [HE.out]; rintro e w2 ⟨v2, rfl, rfl, hb2⟩; obtain ⟨y0, y1, y2, y3, y4, y5, y6, y7, y8⟩ := (HR1.out.below hb2).cells)
              | fail)
            go_roundw
            case rel =>
              have hs : stepS ns kind p r = (p.1, r.ttl) := by rw [stepS_yes HYES.out, HIN.out, if_pos HTT.out]; rfl
              exact ⟨k + 1, by go_num, by omega, by rw [HEQ.out, hs]; exact HOWN.out.below (nx HB1.out (nx hb2 hb3)), by rw [HEQ.out, hs], by rw [HEQ.out, hs]; exact congrArg Value.bool (by simpa using HEM.out), nx HW1.out (nx hb2 hb3)⟩
            case measure => simp [intOf]; omega
        · have HTT : Hid (¬ (p.1 = [] ∨ r.ttl < p.2)) := fun h => h.elim HEM.out htt
          clear hem
          cases hin : inD p.1 r.data with
          | false =>
            obtain ⟨B, kb, hsv, hrb, _, _⟩ := HOWN.out.rd
            have HRB := Lib.hid hrb
            clear hrb
            subst hsv
            have HIN : Hid (inD p.1 r.data = false) := hin
            clear hin
            go_wp2_with (first
              | ((with_reducible show wpList _ _ _ (⟨some 57, _, _, _, _, _⟩ :: _) _ _); refine wpL_pushE elDa rfl (.tmp 53) (.tmp 56) rfl w.heap.size (.slice B p.1.length kb) p.1 rfl hown _ r.data hrow ?hS rfl ?hb ?hl ?hbase ?_; rotate_right; intro v5 w5 hown5 hg5 hat5)
              | (go_at_call 77; refine (rin_any B _ kb p.1 s.d r.data w2 (HRB.out.below (nx HB1.out hb2)) (by have := HPL.out; omega) ((HI1.out.d.rd HLS.out).below hb2)).mono ?_; rw [HIN.out]; rintro e w3 ⟨v3, rfl, rfl, hb3⟩; obtain ⟨z0, z1, z2, z3, z4, z5, z6, z7, z8⟩ := ((HR1.out.below hb2).below hb3).cells; have hb03 := nx HB1.out (nx hb2 hb3); have hown := OwnE.below HOWN.out hb03; have hlto := HOWN.out.lt; have hrow : encDa.R (ltS w) w3 [.slice s.d.A0 r.data.bytes.length s.d.c0, .slice s.d.A1 r.data.host.length s.d.c1, .slice s.d.A2 r.data.mail.length s.d.c2, .slice s.d.A3 r.data.nums.length s.d.c3, .slice s.d.A4 r.data.texts.length s.d.c4] r.data := ⟨s.d, rfl, HRI.out.d.keep (fun b hb => (nx HBW.out hb03).block b hb)⟩; have hbase0 := HBW.out.size)
              | (go_at_call 78; refine (requal_any s.A A' r.name.length s.c n' c' r.name ns w1 (HI1.out.n.mono HLS.out HLS.out) (HN.out.below HW1.out) (Nat.le_trans HI1.out.cn.1 HI1.out.cn.2) HM.out).mono ?_; rw [HE.out]; rintro e w2 ⟨v2, rfl, rfl, hb2⟩; obtain ⟨y0, y1, y2, y3, y4, y5, y6, y7, y8⟩ := (HR1.out.below hb2).cells)
              | fail)
            · go_roundw
              case rel =>
                have hs : stepS ns kind p r = (p.1 ++ [r.data], p.2) := by rw [stepS_yes HYES.out]; show (if inD p.1 r.data = true then _ else _, _) = _; rw [HIN.out, if_neg HTT.out]; rfl
                exact ⟨k + 1, by go_num, by omega, by rw [HEQ.out, hs]; exact setR_push hown5, by rw [HEQ.out, hs], by rw [HEQ.out, hs]; exact congrArg Value.bool (by simp), ((nx HBW.out hb03)).grown hg5 (by have := hb03.size; omega) (fun j hj => (hown.lt j hj).1)⟩
              case measure => simp [intOf]; omega
            case hS =>
              intro b hb
              refine ⟨Nat.lt_of_lt_of_le hb (nx HBW.out hb03).size, fun he => ?_⟩
              have h1 := (hlto b he.symm).1
              have h2 : b < w.heap.size := hb
              omega
            case hb => have := HPL.out; show (p.1.length + 1) * 120 ≤ _; omega
            case hl => have := HPL.out; show p.1.length + 1 ≤ _; unfold maxLen; omega
            case hbase => have := hb03.size; omega
          | true =>
            obtain ⟨B, kb, hsv, hrb, _, _⟩ := HOWN.out.rd
            have HRB := Lib.hid hrb
            clear hrb
            subst hsv
            have HIN : Hid (inD p.1 r.data = true) := hin
            clear hin
            go_wp2_with (first
              | (go_at_call 77; refine (rin_any B _ kb p.1 s.d r.data w2 (HRB.out.below (nx HB1.out hb2)) (by have := HPL.out; omega) ((HI1.out.d.rd HLS.out).below hb2)).mono ?_; rw [HIN.out]; rintro e w3 ⟨v3, rfl, rfl, hb3⟩; obtain ⟨z0, z1, z2, z3, z4, z5, z6, z7, z8⟩ := ((HR1.out.below hb2).below hb3).cells)
              | (go_at_call 78; refine (requal_any s.A A' r.name.length s.c n' c' r.name ns w1 (HI1.out.n.mono HLS.out HLS.out) (HN.out.below HW1.out) (Nat.le_trans HI1.out.cn.1 HI1.out.cn.2) HM.out).mono ?_; rw [HE.out]; rintro e w2 ⟨v2, rfl, rfl, hb2⟩; obtain ⟨y0, y1, y2, y3, y4, y5, y6, y7, y8⟩ := (HR1.out.below hb2).cells)
              | fail)
            go_roundw
            case rel =>
              have hs : stepS ns kind p r = (p.1, p.2) := by rw [stepS_yes HYES.out, HIN.out, if_neg HTT.out]; rfl
              exact ⟨k + 1, by go_num, by omega, by rw [HEQ.out, hs]; exact HOWN.out.below (nx HB1.out (nx hb2 hb3)), by rw [HEQ.out, hs], by rw [HEQ.out, hs]; exact congrArg Value.bool (by simpa using HEM.out), nx HW1.out (nx hb2 hb3)⟩
            case measure => simp [intOf]; omega
    · obtain rfl : k = xs.length := by omega
      rw [List.take_length] at HOWN ⊢
      go_wp2
      go_ret2
      exact ⟨_, rfl, ⟨_, rfl, HOWN.out⟩, HBW.out⟩
end Go.Proofs.Ytimkdpkhdbiniaa

/- The reference's SameSet, over IdxA (out of RIn). -/
namespace Go.Proofs.Ytimkdpkhdbiniaa
open Go.RowKit
set_option maxRecDepth 100000

/-- Is each of a list one of another? -/
def subD (a b : List Da) : Bool := a.all fun x => b.any fun y => sameD x y
def sameS (a b : List Da) : Bool := subD a b && subD b a
theorem all_take_succ {α : Type} {p : α → Bool} {xs : List α} {k : Nat} {x : α} (hx : xs[k]? = some x) (h : (xs.take k).all p = true) (hp : p x = true) : (xs.take (k + 1)).all p = true := by
  rw [List.take_add_one, hx, List.all_append, h, Option.toList_some]
  simp [hp]
theorem all_false {α : Type} {p : α → Bool} {xs : List α} {k : Nat} {x : α} (hx : xs[k]? = some x) (hp : p x = false) : xs.all p = false := List.all_eq_false.2 ⟨x, List.mem_of_getElem? hx, by rw [hp]; decide⟩
theorem in_sub (b : List Da) (x : Da) : inD b x = b.any fun y => sameD x y := by
  unfold inD
  congr 1
  funext y
  exact sameD_comm y x

set_option maxHeartbeats 4000000 in
theorem rsameSet_any (A A' : Option Addr) (n c n' c' : Nat) (a b : List Da) (w : World) (ha : RdE encDa w A n a) (hb : RdE encDa w A' n' b) (hn : n ≤ 1000000000) (hn' : n' ≤ 1000000000) :
    Calls Try.prog 47 #[.slice A n c, .slice A' n' c'] w (RetP (fun v _ => v = .bool (sameS a b)) w) := by
  have hl := ha.len
  have hl' := hb.len
  subst hl hl'
  have HA := Lib.hid ha
  have HB := Lib.hid hb
  clear ha hb
  go_enter Try.func47, Try.ntmps47
  go_wp2
  go_loopw [5] (fun iv wr => ∃ k : Nat, iv = .int .i64 k ∧ k ≤ a.length ∧ Hid ((a.take k).all (fun x => b.any fun y => sameD x y) = true) ∧ Hid (Below w.heap.size w wr)) (fun iv _ => a.length - (intOf iv).toNat)
  case atStart => exact ⟨0, rfl, Nat.zero_le _, rfl, bl⟩
  case round =>
    obtain ⟨k, rfl, hk, HK, HBW⟩ := hrel
    by_cases hlt : k < a.length
    · obtain ⟨x, hx⟩ : ∃ x, a[k]? = some x := ⟨_, List.getElem?_eq_getElem hlt⟩
      obtain ⟨b0, off, s, hA, _, hdi, hc⟩ := da_at HA.out hx
      have HAA := Lib.hid hA
      rw [hA]
      obtain ⟨d0, d1, d2, d3, d4⟩ := hc.below HBW.out
      have HXR := Lib.hid ((hdi.rd (fun b hb => hb)).below HBW.out)
      have HX := Lib.hid hx
      clear hx hA hdi hc
      cases hp : inD b x with
      | false =>
        have HP := Lib.hid hp
        clear hp
        go_wp2_with (go_at_call 77; refine (rin_any A' _ c' b s x wr (HB.out.below HBW.out) hn' HXR.out).mono ?_; rw [HP.out]; rintro e w2 ⟨v2, rfl, rfl, hb2⟩)
        go_ret
        exact ⟨_, rfl, by show Value.bool _ = Value.bool _; congr 1; unfold sameS subD; rw [all_false HX.out (by rw [← in_sub, HP.out])]; rfl, nx HBW.out hb2⟩
      | true =>
        have HP := Lib.hid hp
        clear hp
        go_wp2_with (go_at_call 77; refine (rin_any A' _ c' b s x wr (HB.out.below HBW.out) hn' HXR.out).mono ?_; rw [HP.out]; rintro e w2 ⟨v2, rfl, rfl, hb2⟩)
        go_roundw
        case rel => exact ⟨k + 1, by go_num, by omega, all_take_succ HX.out HK.out (by rw [← in_sub, HP.out]), nx HBW.out hb2⟩
        case measure => simp [intOf]; omega
    · obtain rfl : k = a.length := by omega
      rw [List.take_length] at HK
      go_wp2
      rename World => wa
      go_loopw [6] (fun iv wr => ∃ k : Nat, iv = .int .i64 k ∧ k ≤ b.length ∧ Hid ((b.take k).all (fun x => a.any fun y => sameD x y) = true) ∧ Hid (Below w.heap.size w wr)) (fun iv _ => b.length - (intOf iv).toNat)
      case atStart => exact ⟨0, rfl, Nat.zero_le _, rfl, HBW⟩
      case round =>
        obtain ⟨k, rfl, hk', HK2, HBW2⟩ := hrel
        by_cases hlt2 : k < b.length
        · obtain ⟨x, hx⟩ : ∃ x, b[k]? = some x := ⟨_, List.getElem?_eq_getElem hlt2⟩
          obtain ⟨b0, off, s, hA, _, hdi, hc⟩ := da_at HB.out hx
          have HAA := Lib.hid hA
          rw [hA]
          obtain ⟨d0, d1, d2, d3, d4⟩ := hc.below HBW2.out
          have HXR := Lib.hid ((hdi.rd (fun b hb => hb)).below HBW2.out)
          have HX := Lib.hid hx
          clear hx hA hdi hc
          cases hp : inD a x with
          | false =>
            have HP := Lib.hid hp
            clear hp
            go_wp2_with (go_at_call 77; refine (rin_any A _ c a s x wr (HA.out.below HBW2.out) hn HXR.out).mono ?_; rw [HP.out]; rintro e w2 ⟨v2, rfl, rfl, hb2⟩)
            go_ret
            exact ⟨_, rfl, by show Value.bool _ = Value.bool _; congr 1; unfold sameS subD; rw [HK.out, all_false HX.out (by rw [← in_sub, HP.out])]; rfl, nx HBW2.out hb2⟩
          | true =>
            have HP := Lib.hid hp
            clear hp
            go_wp2_with (go_at_call 77; refine (rin_any A _ c a s x wr (HA.out.below HBW2.out) hn HXR.out).mono ?_; rw [HP.out]; rintro e w2 ⟨v2, rfl, rfl, hb2⟩)
            go_roundw
            case rel => exact ⟨k + 1, by go_num, by omega, all_take_succ HX.out HK2.out (by rw [← in_sub, HP.out]), nx HBW2.out hb2⟩
            case measure => simp [intOf]; omega
        · obtain rfl : k = b.length := by omega
          rw [List.take_length] at HK2
          go_wp2
          go_ret
          exact ⟨_, rfl, by show Value.bool _ = Value.bool _; congr 1; unfold sameS subD; rw [HK.out, HK2.out]; rfl, HBW2.out⟩
end Go.Proofs.Ytimkdpkhdbiniaa

/- gazetteerref17's Zone.of, Zone.Cut, Zone.There (printed by gen/zs17b.py). -/
namespace Go.Proofs.Ytimkdpkhdbiniaa
open Go.RowKit
set_option maxRecDepth 100000
set_option linter.unusedVariables false

set_option maxHeartbeats 8000000 in
theorem rzof_any (zA RA : Option Addr) (zn zc rn rc : Nat) (rs : List RR) (A' : Option Addr) (n' c' : Nat) (ns : List (List UInt8)) (kd : Int) (w : World) (h : RdE encRR w RA rn rs) (hns : RdE encS w A' n' ns) (hn : rn ≤ 1000000) (hn' : n' ≤ maxLen) (hL : ∀ r ∈ rs, r.name.length ≤ maxLen) :
    Calls Try.prog 86 #[.agg #[.slice zA zn zc, .slice RA rn rc], .slice A' n' c', .int .i64 kd] w (RetP (fun v w' => OwnE encRR 84 (ltS w) w' w.heap.size v (ofP rs ns kd)) w) := by
  have hl := h.len
  subst hl
  obtain ⟨w1, hw1⟩ : ∃ w1, w1 = w.alloc (.cells #[.slice zA zn zc, .slice RA rs.length rc] 78) := ⟨_, rfl⟩
  obtain ⟨g, hg⟩ : ∃ g, g = w.heap.size := ⟨_, rfl⟩
  have hb1 : Below w.heap.size w w1 := by rw [hw1]; exact bl.alloc (Nat.le_refl _) _
  have z1 : w1.cell? ⟨g, 1, none⟩ = some (.slice RA rs.length rc) := by rw [hw1, hg]; exact new_cell w _ _ 1
  have HZ1 := Lib.hid z1
  have H := Lib.hid h
  have HN := Lib.hid hns
  have HL := Lib.hid hL
  have HM := Lib.hid hn'
  have HB1 := Lib.hid hb1
  have HRN := Lib.hid hn
  have hrb : rs.length ≤ 1000000 := hn
  clear h hns hL hn' hb1 hn z1
  go_enter Try.func86, Try.ntmps86
  go_upto_region 1 with (fail)
  rw [← hw1]
  clear hw1
  rw [← hg]
  clear hg
  go_upto_region 3 with (fail)
  go_loopw [7, 8] (fun ov iv wr => ∃ k : Nat, iv = .int .i64 (k : Int) ∧ k ≤ rs.length ∧ Hid (OwnE encRR 84 (ltS w) wr w1.heap.size ov (ofP (rs.take k) ns kd)) ∧ Hid (Below w1.heap.size w1 wr)) (fun _ iv _ => rs.length - (intOf iv).toNat)
  case atStart =>
    refine ⟨0, rfl, Nat.zero_le _, ?_, bl⟩
    obtain ⟨cells, h1, h2, h3⟩ := OwnE.nil encRR 84 w1 w1.heap.size
    exact ⟨cells, h1, fun i x hx => by simp [ofP] at hx, fun b hb => ⟨Nat.lt_of_lt_of_le hb HB1.out.size, fun e => by cases e⟩⟩
  case round =>
    obtain ⟨k, rfl, hk, HOWN, HBW⟩ := hrel
    have z1 := below_cell HBW.out HZ1.out
    by_cases hlt : k < rs.length
    rotate_left
    · have hkl : k = rs.length := by omega
      have hlt' : ¬ (k : Int) < (rs.length : Int) := by omega
      rw [hkl, List.take_length] at HOWN
      clear hkl hlt
      go_wp2
      go_ret
      exact ⟨_, rfl, HOWN.out.base_le HB1.out.size, nx HB1.out HBW.out⟩
    have hlt' : (k : Int) < (rs.length : Int) := by omega
    obtain ⟨r, hr⟩ : ∃ r, rs[k]? = some r := ⟨_, List.getElem?_eq_getElem hlt⟩
    have HLR := Lib.hid (HL.out r (List.mem_of_getElem? hr))
    obtain ⟨b, off, s, hA, hb0, hri, hrc⟩ := rr_at H.out hr
    have HEQ := Lib.hid (ofP_take (ns := ns) (k := kd) hr)
    have HRI := Lib.hid hri
    have hAA := Lib.hid hA
    rw [hA] at z1
    have HPL : Hid ((ofP (rs.take k) ns kd).length ≤ k) := ofP_len rs ns kd k
    have HW0 : Hid (Below w.heap.size w wr) := nx HB1.out HBW.out
    obtain ⟨d0, d1, d2, d3, d4, d5, d6, d7, d8⟩ := hrc.below HW0.out
    obtain ⟨w2, hw2⟩ : ∃ w2, w2 = wr.alloc (.cells #[.slice s.A r.name.length s.c, .int .i64 r.type, .int .i64 r.cls, .int .i64 r.ttl, .slice s.d.A0 r.data.bytes.length s.d.c0, .slice s.d.A1 r.data.host.length s.d.c1, .slice s.d.A2 r.data.mail.length s.d.c2, .slice s.d.A3 r.data.nums.length s.d.c3, .slice s.d.A4 r.data.texts.length s.d.c4] 84) := ⟨_, rfl⟩
    obtain ⟨g2, hg2⟩ : ∃ g, g = wr.heap.size := ⟨_, rfl⟩
    have hb2 : Below wr.heap.size wr w2 := by rw [hw2]; exact bl.alloc (Nat.le_refl _) _
    have HR2 : Hid (RRow w2 g2 s r) := by show RRow _ _ _ _; rw [hw2, hg2]; exact heap_alloc_new wr _
    have HB2 := Lib.hid hb2
    clear hr hri hrc hA hb0 hb2
    generalize ofP (rs.take k) ns kd = p at HOWN HEQ HPL ⊢
    go_upto_region 6 with (fail)
    rw [← hw2]
    clear hw2 d0 d1 d2 d3 d4 d5 d6 d7 d8 z1
    rw [← hg2]
    clear hg2
    have HW2 := Lib.hid (nx HW0.out HB2.out)
    have HI2 := Lib.hid (HRI.out.below HW2.out (fun b hb => hb))
    have HLS : Hid (∀ b, ltS w b → b < w2.heap.size) := fun b (hb : b < w.heap.size) => Nat.lt_of_lt_of_le hb HW2.out.size
    obtain ⟨x0, x1, x2, x3, x4, x5, x6, x7, x8⟩ := HR2.out.cells
    have HEN := Lib.hid (requal_any s.A A' r.name.length s.c n' c' r.name ns w2 (HI2.out.n.mono HLS.out HLS.out) (HN.out.below HW2.out) HLR.out HM.out)
    obtain ⟨eq, heq⟩ : ∃ c, c = decide (lowN r.name = lowN ns) := ⟨_, rfl⟩
    rw [← heq] at HEN
    have HSEL : Hid (selB ns kd r = ((decide (kd = 255) || decide (r.type = kd)) && eq)) := by show _ = _; unfold selB; rw [heq]
    clear heq
    cases eq with
    | false =>
      have HNO : Hid ((if selB ns kd r = true then p ++ [r] else p) = p) := if_neg (by rw [HSEL.out, Bool.and_false]; simp)
      go_wp2_with (go_at_call 78; refine HEN.out.mono ?_; rintro e w3 ⟨v3, rfl, rfl, hb3⟩; have HB3 := Lib.hid hb3; obtain ⟨y0, y1, y2, y3, y4, y5, y6, y7, y8⟩ := (HR2.out.below hb3).cells; clear hb3)
      go_roundw
      case rel => exact ⟨k + 1, by go_num, by omega, by rw [HEQ.out, HNO.out]; exact HOWN.out.below (nx HB2.out HB3.out), nx HBW.out (nx HB2.out HB3.out)⟩
      case measure => simp [intOf]; omega
    | true =>
    by_cases h255 : kd = 255
    · subst h255
      have HYES : Hid ((if selB ns 255 r = true then p ++ [r] else p) = p ++ [r]) := if_pos (by rw [HSEL.out]; simp)
      have HPB : Hid (p.length ≤ 1000000) := by have := HPL.out; show _ ≤ _; omega
      obtain ⟨So, hSo⟩ : ∃ S, S = ltS w := ⟨_, rfl⟩
      go_wp2_with (first | ((with_reducible show wpList _ _ _ (⟨some 39, _, _, _, _, _⟩ :: _) _ _); refine wpL_pushE (w := w3) elRR rfl (.tmp 36) (.tmp 38) rfl w1.heap.size _ p rfl (HOWN.out.below (nx HB2.out HB3.out)) [.slice s.A r.name.length s.c, .int .i64 r.type, .int .i64 r.cls, .int .i64 r.ttl, .slice s.d.A0 r.data.bytes.length s.d.c0, .slice s.d.A1 r.data.host.length s.d.c1, .slice s.d.A2 r.data.mail.length s.d.c2, .slice s.d.A3 r.data.nums.length s.d.c3, .slice s.d.A4 r.data.texts.length s.d.c4] r (S' := ltS w) ⟨s, rfl, HRI.out.below (nx HW2.out HB3.out) (fun b hb => hb)⟩ ?hS rfl ?hb ?hl ?hbase ?_; rotate_right; intro v5 w5 hown5 hg5 hat5) | (go_at_call 78; refine HEN.out.mono ?_; rintro e w3 ⟨v3, rfl, rfl, hb3⟩; have HB3 := Lib.hid hb3; obtain ⟨y0, y1, y2, y3, y4, y5, y6, y7, y8⟩ := (HR2.out.below hb3).cells; clear hb3) | fail)
      · go_roundw
        case rel =>
          refine ⟨k + 1, by go_num, by omega, ?_, (nx HBW.out (nx HB2.out HB3.out)).grown hg5 (by have := (nx HBW.out (nx HB2.out HB3.out)).size; omega) (fun j hj => (OwnE.lt HOWN.out j hj).1)⟩
          rw [HEQ.out, HYES.out]
          obtain ⟨cells, h1, h2, h3⟩ := hown5
          exact ⟨cells, h1, fun i x hx => encRR.mono (fun b hb => hb.elim id id) (h2 i x hx), fun b hb => h3 b (.inl hb)⟩
        case measure => simp [intOf]; omega
      case hS =>
        intro b hb
        have hw3 := (nx HW2.out HB3.out).size
        refine ⟨Nat.lt_of_lt_of_le hb hw3, fun he => ?_⟩
        have h1 := (OwnE.lt HOWN.out b he.symm).1
        have h2 : b < w.heap.size := hb
        have h3 := HB1.out.size
        omega
      case hb => have := HPB.out; omega
      case hl => have := HPB.out; unfold maxLen; omega
      case hbase => exact (nx HBW.out (nx HB2.out HB3.out)).size
    have h255' : (kd == 255) = false := beq_eq_false_iff_ne.2 h255
    by_cases ht : r.type = kd
    rotate_left
    · have ht' : (r.type == kd) = false := beq_eq_false_iff_ne.2 ht
      have HNO : Hid ((if selB ns kd r = true then p ++ [r] else p) = p) := if_neg (by rw [HSEL.out, decide_eq_false h255, decide_eq_false ht]; simp)
      clear h255 ht
      go_wp2_with (go_at_call 78; refine HEN.out.mono ?_; rintro e w3 ⟨v3, rfl, rfl, hb3⟩; have HB3 := Lib.hid hb3; obtain ⟨y0, y1, y2, y3, y4, y5, y6, y7, y8⟩ := (HR2.out.below hb3).cells; clear hb3)
      go_roundw
      case rel => exact ⟨k + 1, by go_num, by omega, by rw [HEQ.out, HNO.out]; exact HOWN.out.below (nx HB2.out HB3.out), nx HBW.out (nx HB2.out HB3.out)⟩
      case measure => simp [intOf]; omega
    have ht' : (r.type == kd) = true := beq_iff_eq.2 ht
    have HYES : Hid ((if selB ns kd r = true then p ++ [r] else p) = p ++ [r]) := if_pos (by rw [HSEL.out, decide_eq_true ht]; simp)
    clear h255 ht
    have HPB : Hid (p.length ≤ 1000000) := by have := HPL.out; show _ ≤ _; omega
    obtain ⟨So, hSo⟩ : ∃ S, S = ltS w := ⟨_, rfl⟩
    go_wp2_with (first | ((with_reducible show wpList _ _ _ (⟨some 39, _, _, _, _, _⟩ :: _) _ _); refine wpL_pushE (w := w3) elRR rfl (.tmp 36) (.tmp 38) rfl w1.heap.size _ p rfl (HOWN.out.below (nx HB2.out HB3.out)) [.slice s.A r.name.length s.c, .int .i64 r.type, .int .i64 r.cls, .int .i64 r.ttl, .slice s.d.A0 r.data.bytes.length s.d.c0, .slice s.d.A1 r.data.host.length s.d.c1, .slice s.d.A2 r.data.mail.length s.d.c2, .slice s.d.A3 r.data.nums.length s.d.c3, .slice s.d.A4 r.data.texts.length s.d.c4] r (S' := ltS w) ⟨s, rfl, HRI.out.below (nx HW2.out HB3.out) (fun b hb => hb)⟩ ?hS rfl ?hb ?hl ?hbase ?_; rotate_right; intro v5 w5 hown5 hg5 hat5) | (go_at_call 78; refine HEN.out.mono ?_; rintro e w3 ⟨v3, rfl, rfl, hb3⟩; have HB3 := Lib.hid hb3; obtain ⟨y0, y1, y2, y3, y4, y5, y6, y7, y8⟩ := (HR2.out.below hb3).cells; clear hb3) | fail)
    · go_roundw
      case rel =>
        refine ⟨k + 1, by go_num, by omega, ?_, (nx HBW.out (nx HB2.out HB3.out)).grown hg5 (by have := (nx HBW.out (nx HB2.out HB3.out)).size; omega) (fun j hj => (OwnE.lt HOWN.out j hj).1)⟩
        rw [HEQ.out, HYES.out]
        obtain ⟨cells, h1, h2, h3⟩ := hown5
        exact ⟨cells, h1, fun i x hx => encRR.mono (fun b hb => hb.elim id id) (h2 i x hx), fun b hb => h3 b (.inl hb)⟩
      case measure => simp [intOf]; omega
    case hS =>
      intro b hb
      have hw3 := (nx HW2.out HB3.out).size
      refine ⟨Nat.lt_of_lt_of_le hb hw3, fun he => ?_⟩
      have h1 := (OwnE.lt HOWN.out b he.symm).1
      have h2 : b < w.heap.size := hb
      have h3 := HB1.out.size
      omega
    case hb => have := HPB.out; omega
    case hl => have := HPB.out; unfold maxLen; omega
    case hbase => exact (nx HBW.out (nx HB2.out HB3.out)).size

set_option maxHeartbeats 8000000 in
theorem rzcut_any (zA RA : Option Addr) (zn zc rn rc : Nat) (rs : List RR) (A' : Option Addr) (n' c' : Nat) (ns : List (List UInt8)) (w : World) {So Si : Nat → Prop} (h : RdE encRR w RA rn rs) (hns : Els encS So Si w A' n' ns) (hSo : ∀ b, So b → b < w.heap.size) (hSi : ∀ b, Si b → b < w.heap.size) (hn : rn ≤ 1000000) (hn' : n' ≤ 1000000000) (hc' : n' ≤ c' ∧ c' ≤ maxLen) (hz : zn ≤ 1000000000) (hL : ∀ r ∈ rs, r.name.length ≤ maxLen) :
    Calls Try.prog 45 #[.agg #[.slice zA zn zc, .slice RA rn rc], .slice A' n' c'] w (RetP (fun v w' => CutR So Si w n' ns (cutP rs zn ns) v) w) := by
  obtain ⟨w1, hw1⟩ : ∃ w1, w1 = w.alloc (.cells #[.slice zA zn zc, .slice RA rn rc] 78) := ⟨_, rfl⟩
  obtain ⟨g, hg⟩ : ∃ g, g = w.heap.size := ⟨_, rfl⟩
  have hb1 : Below w.heap.size w w1 := by rw [hw1]; exact bl.alloc (Nat.le_refl _) _
  have z0 : w1.cell? ⟨g, 0, none⟩ = some (.slice zA zn zc) := by rw [hw1, hg]; exact new_cell w _ _ 0
  have HZ : Hid (w1.cell? ⟨g, 0, none⟩ = some (.slice zA zn zc) ∧ w1.cell? ⟨g, 1, none⟩ = some (.slice RA rn rc)) := ⟨z0, by rw [hw1, hg]; exact new_cell w _ _ 1⟩
  have hl := hns.len
  have H := Lib.hid h
  have HN := Lib.hid hns
  have HSS : Hid ((∀ b, So b → b < w.heap.size) ∧ ∀ b, Si b → b < w.heap.size) := ⟨hSo, hSi⟩
  have HL := Lib.hid hL
  have HM := Lib.hid hn'
  have HC := Lib.hid hc'
  have HB1 := Lib.hid hb1
  have HRN := Lib.hid hn
  have HLL := Lib.hid hl
  clear h hns hL hb1 hSo hSi hc' hn hl
  go_enter Try.func45, Try.ntmps45
  go_upto_region 1 with (fail)
  rw [← hw1]
  clear hw1
  rw [← hg]
  clear hg
  go_upto_region 2 with (fail)
  clear z0
  go_loopw [6] (fun iv wr => ∃ k : Nat, iv = .int .i64 (k : Int) ∧ zn + 1 ≤ k ∧ k ≤ 1000000002 ∧ Hid (cutP rs zn ns = cutAt rs ns (n' + 1 - k)) ∧ Hid (Below w1.heap.size w1 wr)) (fun iv _ => n' + 1 - (intOf iv).toNat)
  case atStart => exact ⟨zn + 1, by go_num, Nat.le_refl _, by omega, by show cutAt _ _ _ = _; congr 1; rw [HLL.out]; omega, bl⟩
  case round =>
    obtain ⟨k, rfl, hk1, hk2, HP, HBW⟩ := hrel
    have z0 := below_cell HBW.out HZ.out.1
    have z1 := below_cell HBW.out HZ.out.2
    by_cases hkn : k ≤ n'
    rotate_left
    · have hkn' : decide ((k : Int) ≤ (n' : Int)) = false := decide_eq_false (by omega)
      have hkm : decide (k ≤ n') = false := decide_eq_false hkn
      have h0 : n' + 1 - k = 0 := by omega
      rw [h0] at HP
      clear h0 hkn
      go_wp2
      refine bodyPost_ret (v := .tuple #[.slice none 0 0, .bool false]) ?_ rfl ⟨_, rfl, by rw [HP.out]; rfl, nx HB1.out HBW.out⟩
      simp [results, Try.results45, go_sem]
    have hkn' : decide ((k : Int) ≤ (n' : Int)) = true := decide_eq_true (by omega)
    have hkm : decide (k ≤ n') = true := decide_eq_true hkn
    obtain ⟨j, hj⟩ : ∃ j, j + k = n' := ⟨n' - k, by omega⟩
    have hj1 : n' + 1 - k = j + 1 := by omega
    have hjn : j < n' := by omega
    have hsub : (n' : Int) - (k : Int) = (j : Int) := by omega
    rw [hj1] at HP
    have hcut := Els.cut HN.out j c' (Nat.le_of_lt hjn) HC.out.1
    have hne : ¬ c' = j := by have := HC.out.1; omega
    rw [if_neg hne, show j * encS.size = j from Nat.mul_one j] at hcut
    obtain ⟨b, off, hA, _, _⟩ := Els.flat HN.out (by omega)
    rw [hA]
    rw [hA] at hcut
    simp only [Option.map_some] at hcut
    rw [add_flat] at hcut
    have HCUT : Hid (Els encS So Si w (some ⟨b, off + j, none⟩) (n' - j) (ns.drop j)) := hcut
    have hjc : (j : Int) ≤ (n' : Int) := by omega
    have hcc : n' ≤ c' := HC.out.1
    have HBD : Hid (Below w.heap.size w wr) := nx HB1.out HBW.out
    have HOF := Lib.hid (rzof_any zA RA zn zc rn rc rs (some ⟨b, off + j, none⟩) (n' - j) (c' - j) (ns.drop j) 2 wr (H.out.below HBD.out) ((HCUT.out.below HBD.out HSS.out.1 HSS.out.2).mono (fun b hb => Nat.lt_of_lt_of_le (HSS.out.1 b hb) HBD.out.size) (fun b hb => Nat.lt_of_lt_of_le (HSS.out.2 b hb) HBD.out.size)) HRN.out (by have := HM.out; unfold maxLen; omega) HL.out)
    have HJJ : Hid (j + k = n') := hj
    clear hcut hA hj hj1
    obtain ⟨ls, hls⟩ : ∃ l, l = ofP rs (ns.drop j) 2 := ⟨_, rfl⟩
    rw [← hls] at HOF
    have HLS := Lib.hid hls
    clear hls
    by_cases h0 : 0 < ls.length
    · have HP2 : Hid (cutP rs zn ns = some j) := by show _ = _; rw [HP.out]; show (if 0 < (ofP rs (ns.drop j) 2).length then some j else _) = _; rw [if_pos (by rw [← HLS.out]; exact h0)]
      obtain ⟨L, hL⟩ : ∃ L, L = ls.length := ⟨_, rfl⟩
      have h0' : (0 : Int) < (L : Int) := by omega
      have HLE := Lib.hid hL
      clear h0 hL
      go_wp2_with (go_at_call 86; refine HOF.out.mono ?_; rintro e w3 ⟨v3, rfl, ho3, hb3⟩; obtain ⟨A3, c3, hv3, _⟩ := OwnE.form ho3; rw [← HLE.out] at hv3; have HB3 := Lib.hid hb3; clear ho3 hb3; subst hv3)
      refine bodyPost_ret (v := .tuple #[.slice (some ⟨b, off + j, none⟩) (n' - j) (c' - j), .bool true]) ?_ rfl ⟨_, rfl, by rw [HP2.out]; exact ⟨_, _, rfl, hjn, HCUT.out, by have := HC.out.1; omega, by have := HC.out.2; omega⟩, nx HBD.out HB3.out⟩
      simp [results, Try.results45, go_sem]
    · have HP2 : Hid (cutP rs zn ns = cutAt rs ns j) := by show _ = _; rw [HP.out]; show (if 0 < (ofP rs (ns.drop j) 2).length then some j else _) = _; rw [if_neg (by rw [← HLS.out]; exact h0)]
      have hl0 : ls.length = 0 := by omega
      have HL0 := Lib.hid hl0
      clear h0 hl0
      go_wp2_with (go_at_call 86; refine HOF.out.mono ?_; rintro e w3 ⟨v3, rfl, ho3, hb3⟩; obtain ⟨A3, c3, hv3, _⟩ := OwnE.form ho3; rw [HL0.out] at hv3; have HB3 := Lib.hid hb3; clear ho3 hb3; subst hv3)
      go_roundw
      case rel => exact ⟨k + 1, by go_num, by omega, by omega, by show _ = _; rw [HP2.out]; congr 1; have := HJJ.out; omega, nx HBW.out HB3.out⟩
      case measure => simp [intOf]; omega

set_option maxHeartbeats 4000000 in
theorem rzthere_any (zA RA : Option Addr) (zn zc rn rc : Nat) (rs : List RR) (A' : Option Addr) (n' c' : Nat) (ns : List (List UInt8)) (w : World) (h : RdE encRR w RA rn rs) (hns : RdE encS w A' n' ns) (hn : rn ≤ 1000000) (hn' : n' ≤ 1000000000) (hL : ∀ r ∈ rs, r.name.length ≤ 1000000000) :
    Calls Try.prog 48 #[.agg #[.slice zA zn zc, .slice RA rn rc], .slice A' n' c'] w (RetP (fun v _ => v = .bool (rs.any fun r => underB r.name ns)) w) := by
  have hl := h.len
  subst hl
  obtain ⟨w1, hw1⟩ : ∃ w1, w1 = w.alloc (.cells #[.slice zA zn zc, .slice RA rs.length rc] 78) := ⟨_, rfl⟩
  obtain ⟨g, hg⟩ : ∃ g, g = w.heap.size := ⟨_, rfl⟩
  have hb1 : Below w.heap.size w w1 := by rw [hw1]; exact bl.alloc (Nat.le_refl _) _
  have HZ1 : Hid (w1.cell? ⟨g, 1, none⟩ = some (.slice RA rs.length rc)) := by show _ = _; rw [hw1, hg]; exact new_cell w _ _ 1
  have H := Lib.hid h
  have HN := Lib.hid hns
  have HL := Lib.hid hL
  have HM := Lib.hid hn'
  have HB1 := Lib.hid hb1
  have hrb : rs.length ≤ 1000000 := hn
  clear h hns hL hn' hb1 hn
  go_enter Try.func48, Try.ntmps48
  go_upto_region 1 with (fail)
  rw [← hw1]
  clear hw1
  rw [← hg]
  clear hg
  go_upto_region 2 with (fail)
  go_loopw [5] (fun iv wr => ∃ k : Nat, iv = .int .i64 (k : Int) ∧ k ≤ rs.length ∧ Hid (((rs.take k).any fun r => underB r.name ns) = false) ∧ Hid (Below w1.heap.size w1 wr)) (fun iv _ => rs.length - (intOf iv).toNat)
  case atStart => exact ⟨0, rfl, Nat.zero_le _, rfl, bl⟩
  case round =>
    obtain ⟨k, rfl, hk, HANY, HBW⟩ := hrel
    have z1 := below_cell HBW.out HZ1.out
    by_cases hlt : k < rs.length
    rotate_left
    · have hlt' : ¬ (k : Int) < (rs.length : Int) := by omega
      obtain rfl : k = rs.length := by omega
      rw [List.take_length] at HANY
      clear hlt hk
      go_wp2
      go_ret
      exact ⟨_, rfl, by show _ = Value.bool _; rw [HANY.out]; rfl, nx HB1.out HBW.out⟩
    have hlt' : (k : Int) < (rs.length : Int) := by omega
    obtain ⟨r, hr⟩ : ∃ r, rs[k]? = some r := ⟨_, List.getElem?_eq_getElem hlt⟩
    have HLR := Lib.hid (HL.out r (List.mem_of_getElem? hr))
    obtain ⟨b, off, s, hA, hb0, hri, hrc⟩ := rr_at H.out hr
    rw [hA] at z1
    have HW0 : Hid (Below w.heap.size w wr) := nx HB1.out HBW.out
    have d0 := below_cell HW0.out hrc.1
    have hlw : ∀ b, ltS w b → b < wr.heap.size := fun b hb => Nat.lt_of_lt_of_le hb HW0.out.size
    have HUN := Lib.hid (runderZ_any s.A A' r.name.length s.c n' c' r.name ns wr ((hri.below HW0.out (fun b hb => hb)).n.mono hlw hlw) (HN.out.below HW0.out) HLR.out HM.out hri.cn.1)
    obtain ⟨un, hun⟩ : ∃ c, c = underB r.name ns := ⟨_, rfl⟩
    rw [← hun] at HUN
    have HU := Lib.hid hun
    have HR := Lib.hid hr
    clear hr hri hrc hA hb0 hlw hun
    cases un with
    | true =>
      go_wp2_with (go_at_call 35; refine HUN.out.mono ?_; rintro e w3 ⟨v3, rfl, rfl, hb3⟩; have HB3 := Lib.hid hb3; clear hb3)
      go_ret
      exact ⟨_, rfl, by show _ = Value.bool _; rw [List.any_eq_true.2 ⟨r, List.mem_of_getElem? HR.out, HU.out.symm⟩]; rfl, nx HW0.out HB3.out⟩
    | false =>
      have HNX := Lib.hid (any_take_z (p := fun r => underB r.name ns) HR.out HANY.out HU.out.symm)
      go_wp2_with (go_at_call 35; refine HUN.out.mono ?_; rintro e w3 ⟨v3, rfl, rfl, hb3⟩; have HB3 := Lib.hid hb3; clear hb3)
      go_roundw
      case rel => exact ⟨k + 1, by go_num, by omega, HNX, nx HBW.out HB3.out⟩
      case measure => simp [intOf]; omega
end Go.Proofs.Ytimkdpkhdbiniaa
