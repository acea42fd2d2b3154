/- Parts of a proof, joined: PSet. -/
import Derived.Test.YtimkdpkhdbiniaaZDX2
import Derived.Test.YtimkdpkhdbiniaaZDM05
import Derived.Test.YtimkdpkhdbiniaaZDX1
/- rr.Set: the set of a name and a type, with its least TTL; the program's and the reference's. -/
namespace Go.Proofs.Ytimkdpkhdbiniaa
open Go.RowKit
set_option maxRecDepth 100000

/-- Is a record of a name and a type? -/
def isR (n : List (List UInt8)) (k : Int) (r : RR) : Bool := decide (r.type = k) && (decide (r.cls = 1) && decide (lowN r.name = lowN n))
def stepS (n : List (List UInt8)) (k : Int) (p : List Da × Int) (r : RR) : List Da × Int :=
  if isR n k r = true then (if inD p.1 r.data = true then p.1 else p.1 ++ [r.data], if p.1 = [] ∨ r.ttl < p.2 then r.ttl else p.2) else p
/-- The set of a name and a type, and its least TTL. -/
def setP (l : List RR) (n : List (List UInt8)) (k : Int) : List Da × Int := l.foldl (stepS n k) ([], 0)
theorem setP_take {l : List RR} {n : List (List UInt8)} {k : Int} {j : Nat} {r : RR} (h : l[j]? = some r) : setP (l.take (j + 1)) n k = stepS n k (setP (l.take j) n k) r := by
  unfold setP
  rw [List.take_add_one, h, Option.toList_some, List.foldl_append]
  rfl
theorem setP_len (l : List RR) (n : List (List UInt8)) (k : Int) : (setP l n k).1.length ≤ l.length := by
  refine snoc_ind (P := fun l => (setP l n k).1.length ≤ l.length) (Nat.le_refl _) (fun l r ih => ?_) l
  have e : setP (l ++ [r]) n k = stepS n k (setP l n k) r := by unfold setP; rw [List.foldl_append]; rfl
  rw [e]
  unfold stepS
  simp only [List.length_append, List.length_singleton]
  split
  · simp only
    split
    · omega
    · rw [List.length_append, List.length_singleton]; omega
  · omega
theorem stepS_no {n : List (List UInt8)} {k : Int} {p : List Da × Int} {r : RR} (h : isR n k r = false) : stepS n k p r = p := by unfold stepS; rw [h]; rfl
theorem stepS_yes {n : List (List UInt8)} {k : Int} {p : List Da × Int} {r : RR} (h : isR n k r = true) : stepS n k p r = (if inD p.1 r.data = true then p.1 else p.1 ++ [r.data], if p.1 = [] ∨ r.ttl < p.2 then r.ttl else p.2) := by unfold stepS; rw [if_pos h]


theorem NewE.rdE {α : Type} {E : Enc α} {e : TypeId} {B : Nat} {w : World} {v : Value} {xs : List α} (h : NewE E e B w v xs) : ∃ A c, v = .slice A xs.length c ∧ RdE E w A xs.length xs ∧ xs.length ≤ c ∧ c ≤ maxLen := by
  obtain ⟨S, ho, _⟩ := h
  exact ho.rdE


set_option maxHeartbeats 8000000 in
theorem pset_any (A A' : Option Addr) (n c n' c' : Nat) (xs : List RR) (ns : List (List UInt8)) (kind : Int) (w : World) (h : RdE encRR w A n xs) (hns : RdE encS w A' n' ns) (hn : n ≤ 1000000) (hn' : n' ≤ maxLen) (hL : ∀ r ∈ xs, Light9 r) :
    Calls Try.prog 120 #[.slice A n c, .slice A' n' c', .int .i64 kind] w (RetP (fun v w' => ∃ sv, v = .tuple #[sv, .int .i64 (setP xs ns kind).2] ∧ NewE encDa 46 w.heap.size w' sv (setP xs ns kind).1) w) := by
  have hl := h.len
  subst hl
  have H := Lib.hid h
  have HN := Lib.hid hns
  have HL := Lib.hid hL
  have HM := Lib.hid hn'
  clear h hns hL hn'
  go_enter Try.func120, Try.ntmps120
  go_wp2
  go_loopw [6, 7, 12] (fun sv tv iv wr => ∃ k : Nat, iv = .int .i64 k ∧ k ≤ xs.length ∧ Hid (NewE encDa 46 w.heap.size wr sv (setP (xs.take k) ns kind).1) ∧ tv = .int .i64 (setP (xs.take k) ns kind).2 ∧ Hid (Below w.heap.size w wr)) (fun _ _ iv _ => xs.length - (intOf iv).toNat)
  case atStart => exact ⟨0, rfl, Nat.zero_le _, NewE.nil _ _ _ _, rfl, bl⟩
  case round =>
    obtain ⟨k, rfl, hk, HOWN, rfl, HBW⟩ := hrel
    by_cases hlt : k < xs.length
    · obtain ⟨r, hr⟩ : ∃ r, xs[k]? = some r := ⟨_, List.getElem?_eq_getElem hlt⟩
      have HLR := Lib.hid (HL.out r (List.mem_of_getElem? hr))
      obtain ⟨b, off, s, hA, hb0, hri, hrc⟩ := rr_at H.out hr
      have HEQ := Lib.hid (setP_take (n := ns) (k := kind) hr)
      have HRI := Lib.hid hri
      have hAA := Lib.hid hA
      rw [hA]
      have hpl : (setP (xs.take k) ns kind).1.length ≤ k := by have h1 := setP_len (xs.take k) ns kind; rw [List.length_take] at h1; omega
      have HPL := Lib.hid hpl
      obtain ⟨d0, d1, d2, d3, d4, d5, d6, d7, d8⟩ := hrc.below HBW.out
      obtain ⟨w1, hw1⟩ : ∃ w1, w1 = wr.alloc (.cells #[.slice s.A r.name.length s.c, .int .i64 r.type, .int .i64 r.cls, .int .i64 r.ttl, .slice s.d.A0 r.data.bytes.length s.d.c0, .slice s.d.A1 r.data.host.length s.d.c1, .slice s.d.A2 r.data.mail.length s.d.c2, .slice s.d.A3 r.data.nums.length s.d.c3, .slice s.d.A4 r.data.texts.length s.d.c4] 84) := ⟨_, rfl⟩
      have hb1 : Below wr.heap.size wr w1 := by rw [hw1]; exact bl.alloc (Nat.le_refl _) _
      have HR1 : Hid (RRow w1 wr.heap.size s r) := by show RRow _ _ _ _; rw [hw1]; exact heap_alloc_new wr _
      have HB1 := Lib.hid hb1
      clear hr hri hrc hA hb0 hb1 hpl
      generalize setP (xs.take k) ns kind = p at HOWN HEQ HPL ⊢
      go_upto_region 4 with (fail)
      rw [← hw1]
      clear hw1 d0 d1 d2 d3 d4 d5 d6 d7 d8
      obtain ⟨x0, x1, x2, x3, x4, x5, x6, x7, x8⟩ := HR1.out.cells
      have HW1 := Lib.hid (nx HBW.out HB1.out)
      have HI1 := Lib.hid (HRI.out.below HW1.out (fun b hb => hb))
      have HLS : Hid (∀ b, ltS w b → b < w1.heap.size) := fun b (hb : b < w.heap.size) => Nat.lt_of_lt_of_le hb HW1.out.size
      by_cases ht : r.type = kind
      rotate_left
      · have HNO : Hid (isR ns kind r = false) := by show _ = _; unfold isR; rw [decide_eq_false ht]; rfl
        go_wp2
        go_roundw
        case rel => exact ⟨k + 1, by go_num, by omega, by rw [HEQ.out, stepS_no HNO.out]; exact HOWN.out.below HB1.out, by rw [HEQ.out, stepS_no HNO.out], HW1.out⟩
        case measure => simp [intOf]; omega
      by_cases hc : r.cls = 1
      rotate_left
      · have HNO : Hid (isR ns kind r = false) := by show _ = _; unfold isR; rw [decide_eq_false hc]; simp
        go_wp2
        go_roundw
        case rel => exact ⟨k + 1, by go_num, by omega, by rw [HEQ.out, stepS_no HNO.out]; exact HOWN.out.below HB1.out, by rw [HEQ.out, stepS_no HNO.out], HW1.out⟩
        case measure => simp [intOf]; omega
      by_cases he : lowN r.name = lowN ns
      rotate_left
      · have HNO : Hid (isR ns kind r = false) := by show _ = _; unfold isR; rw [decide_eq_false he]; simp
        have HE := Lib.hid (decide_eq_false he)
        clear he
        go_wp2_with ((go_at_call 55; refine (nequal_any s.A A' r.name.length s.c n' c' r.name ns w1 (HI1.out.n.mono HLS.out HLS.out) (HN.out.below HW1.out) (Nat.le_trans HI1.out.cn.1 HI1.out.cn.2) HM.out).mono ?_; rw [HE.out]; rintro e w2 ⟨v2, rfl, rfl, hb2⟩; obtain ⟨y0, y1, y2, y3, y4, y5, y6, y7, y8⟩ := (HR1.out.below hb2).cells))
        go_roundw
        case rel => exact ⟨k + 1, by go_num, by omega, by rw [HEQ.out, stepS_no HNO.out]; exact HOWN.out.below (nx HB1.out hb2), by rw [HEQ.out, stepS_no HNO.out], nx HW1.out hb2⟩
        case measure => simp [intOf]; omega
      have HYES : Hid (isR ns kind r = true) := by show _ = _; unfold isR; rw [decide_eq_true ht, decide_eq_true hc, decide_eq_true he]; rfl
      have HE := Lib.hid (decide_eq_true he)
      clear he
      by_cases hem : p.1 = []
      · have HEM := Lib.hid hem
        have HTT : Hid (p.1 = [] ∨ r.ttl < p.2) := .inl hem
        have hin : inD p.1 r.data = false := by rw [hem]; rfl
        clear HEM
        obtain ⟨pl, pt⟩ := p
        have hem2 : pl = [] := hem
        subst hem2
        clear hem
        obtain ⟨B, kb, hsv, hrb, _, _⟩ := HOWN.out.rdE
        have HRB := Lib.hid hrb
        clear hrb
        subst hsv
        have HIN : Hid (inD ([] : List Da) r.data = false) := hin
        clear hin
        go_wp2_with (first
          | ((with_reducible show wpList _ _ _ (⟨some 53, _, _, _, _, _⟩ :: _) _ _); refine wpL_pushE elDa rfl (.tmp 48) (.tmp 52) rfl w.heap.size (.slice B 0 kb) ([] : List Da) rfl hown _ r.data hrow ?hS rfl ?hb ?hl ?hbase ?_; rotate_right; intro v5 w5 hown5 hg5 hat5)
          | (go_at_call 171; refine (pown_any s.d r.data w3 ((HI1.out.d.below (nx hb2 hb3) HLS.out)) (fun b hb => Nat.lt_of_lt_of_le (HLS.out b hb) (nx hb2 hb3).size) HLR.out.2).mono ?_; rintro e w4 ⟨v4, rfl, ⟨s4, rfl, hd4⟩, hb4⟩; unfold dsV; have hb04 := nx (nx HB1.out (nx hb2 hb3)) hb4; obtain ⟨S, hoS, hSS⟩ := HOWN.out; have hown := OwnE.below hoS hb04; have hlto := hoS.lt; have hrow : encDa.R (geS w3.heap.size w4) w4 [.slice s4.A0 r.data.bytes.length s4.c0, .slice s4.A1 r.data.host.length s4.c1, .slice s4.A2 r.data.mail.length s4.c2, .slice s4.A3 r.data.nums.length s4.c3, .slice s4.A4 r.data.texts.length s4.c4] r.data := ⟨s4, rfl, hd4⟩; have hz3 : wr.heap.size ≤ w3.heap.size := (nx HB1.out (nx hb2 hb3)).size; have hbase0 := HBW.out.size)
          | (go_at_call 170; refine (among_any B 0 kb ([] : List Da) s.d r.data w2 (HRB.out.below (nx HB1.out hb2)) (by have := HPL.out; omega) ((HI1.out.d.rd HLS.out).below hb2)).mono ?_; rw [HIN.out]; rintro e w3 ⟨v3, rfl, rfl, hb3⟩; obtain ⟨z0, z1, z2, z3, z4, z5, z6, z7, z8⟩ := ((HR1.out.below hb2).below hb3).cells)
          | (go_at_call 55; refine (nequal_any s.A A' r.name.length s.c n' c' r.name ns w1 (HI1.out.n.mono HLS.out HLS.out) (HN.out.below HW1.out) (Nat.le_trans HI1.out.cn.1 HI1.out.cn.2) HM.out).mono ?_; rw [HE.out]; rintro e w2 ⟨v2, rfl, rfl, hb2⟩; obtain ⟨y0, y1, y2, y3, y4, y5, y6, y7, y8⟩ := (HR1.out.below hb2).cells)
          | fail)
        · go_roundw
          case rel =>
            have hs : stepS ns kind (([], pt) : List Da × Int) r = (([] : List Da) ++ [r.data], r.ttl) := by rw [stepS_yes HYES.out]; show (if inD [] r.data = true then ([] : List Da) else [] ++ [r.data], if ([] : List Da) = [] ∨ r.ttl < pt then r.ttl else pt) = _; rw [HIN.out, if_pos (Or.inl rfl)]; rfl
            exact ⟨k + 1, by go_num, by omega, by rw [HEQ.out, hs]; exact ⟨_, hown5, fun b hb => hb.elim (hSS b) (fun h => by have := h.1; omega)⟩, by rw [HEQ.out, hs], ((nx HBW.out hb04)).grown hg5 (by have := hb04.size; omega) (fun j hj => (hown.lt j hj).1)⟩
          case measure => simp [intOf]; omega
        case hS =>
          intro b hb
          refine ⟨hb.2, fun he => ?_⟩
          have := (hlto b he.symm).2
          have := hb.1
          omega
        case hb => have := HPL.out; show (([] : List Da).length + 1) * 120 ≤ _; decide
        case hl => have := HPL.out; show ([] : List Da).length + 1 ≤ _; unfold maxLen; decide
        case hbase => have := hb04.size; omega
      · have HEM := Lib.hid hem
        have hlen : (0 : Int) < (p.1.length : Int) := by have := List.length_pos_iff.2 hem; omega
        have hlen2 : ¬ (p.1.length : Int) = 0 := by omega
        have hlen3 : ((p.1.length : Int) == 0) = false := by rw [beq_eq_false_iff_ne]; exact hlen2
        by_cases htt : r.ttl < p.2
        · have HTT : Hid (p.1 = [] ∨ r.ttl < p.2) := .inr htt
          clear hem
          cases hin : inD p.1 r.data with
          | false =>
            obtain ⟨B, kb, hsv, hrb, _, _⟩ := HOWN.out.rdE
            have HRB := Lib.hid hrb
            clear hrb
            subst hsv
            have HIN : Hid (inD p.1 r.data = false) := hin
            clear hin
            go_wp2_with (first
              | ((with_reducible show wpList _ _ _ (⟨some 53, _, _, _, _, _⟩ :: _) _ _); refine wpL_pushE elDa rfl (.tmp 48) (.tmp 52) rfl w.heap.size (.slice B p.1.length kb) p.1 rfl hown _ r.data hrow ?hS rfl ?hb ?hl ?hbase ?_; rotate_right; intro v5 w5 hown5 hg5 hat5)
              | (go_at_call 171; refine (pown_any s.d r.data w3 ((HI1.out.d.below (nx hb2 hb3) HLS.out)) (fun b hb => Nat.lt_of_lt_of_le (HLS.out b hb) (nx hb2 hb3).size) HLR.out.2).mono ?_; rintro e w4 ⟨v4, rfl, ⟨s4, rfl, hd4⟩, hb4⟩; unfold dsV; have hb04 := nx (nx HB1.out (nx hb2 hb3)) hb4; obtain ⟨S, hoS, hSS⟩ := HOWN.out; have hown := OwnE.below hoS hb04; have hlto := hoS.lt; have hrow : encDa.R (geS w3.heap.size w4) w4 [.slice s4.A0 r.data.bytes.length s4.c0, .slice s4.A1 r.data.host.length s4.c1, .slice s4.A2 r.data.mail.length s4.c2, .slice s4.A3 r.data.nums.length s4.c3, .slice s4.A4 r.data.texts.length s4.c4] r.data := ⟨s4, rfl, hd4⟩; have hz3 : wr.heap.size ≤ w3.heap.size := (nx HB1.out (nx hb2 hb3)).size; have hbase0 := HBW.out.size)
              | (go_at_call 170; refine (among_any B _ kb p.1 s.d r.data w2 (HRB.out.below (nx HB1.out hb2)) (by have := HPL.out; omega) ((HI1.out.d.rd HLS.out).below hb2)).mono ?_; rw [HIN.out]; rintro e w3 ⟨v3, rfl, rfl, hb3⟩; obtain ⟨z0, z1, z2, z3, z4, z5, z6, z7, z8⟩ := ((HR1.out.below hb2).below hb3).cells)
              | (go_at_call 55; refine (nequal_any s.A A' r.name.length s.c n' c' r.name ns w1 (HI1.out.n.mono HLS.out HLS.out) (HN.out.below HW1.out) (Nat.le_trans HI1.out.cn.1 HI1.out.cn.2) HM.out).mono ?_; rw [HE.out]; rintro e w2 ⟨v2, rfl, rfl, hb2⟩; obtain ⟨y0, y1, y2, y3, y4, y5, y6, y7, y8⟩ := (HR1.out.below hb2).cells)
              | fail)
            · go_roundw
              case rel =>
                have hs : stepS ns kind p r = (p.1 ++ [r.data], r.ttl) := by rw [stepS_yes HYES.out]; show (if inD p.1 r.data = true then _ else _, _) = _; rw [HIN.out, if_pos HTT.out]; rfl
                exact ⟨k + 1, by go_num, by omega, by rw [HEQ.out, hs]; exact ⟨_, hown5, fun b hb => hb.elim (hSS b) (fun h => by have := h.1; omega)⟩, by rw [HEQ.out, hs], ((nx HBW.out hb04)).grown hg5 (by have := hb04.size; omega) (fun j hj => (hown.lt j hj).1)⟩
              case measure => simp [intOf]; omega
            case hS =>
              intro b hb
              refine ⟨hb.2, fun he => ?_⟩
              have := (hlto b he.symm).2
              have := hb.1
              omega
            case hb => have := HPL.out; show (p.1.length + 1) * 120 ≤ _; omega
            case hl => have := HPL.out; show p.1.length + 1 ≤ _; unfold maxLen; omega
            case hbase => have := hb04.size; omega
          | true =>
            obtain ⟨B, kb, hsv, hrb, _, _⟩ := HOWN.out.rdE
            have HRB := Lib.hid hrb
            clear hrb
            subst hsv
            have HIN : Hid (inD p.1 r.data = true) := hin
            clear hin
            go_wp2_with (first
              | (go_at_call 170; refine (among_any B _ kb p.1 s.d r.data w2 (HRB.out.below (nx HB1.out hb2)) (by have := HPL.out; omega) ((HI1.out.d.rd HLS.out).below hb2)).mono ?_; rw [HIN.out]; rintro e w3 ⟨v3, rfl, rfl, hb3⟩; obtain ⟨z0, z1, z2, z3, z4, z5, z6, z7, z8⟩ := ((HR1.out.below hb2).below hb3).cells)
              | (go_at_call 55; refine (nequal_any s.A A' r.name.length s.c n' c' r.name ns w1 (HI1.out.n.mono HLS.out HLS.out) (HN.out.below HW1.out) (Nat.le_trans HI1.out.cn.1 HI1.out.cn.2) HM.out).mono ?_; rw [HE.out]; rintro e w2 ⟨v2, rfl, rfl, hb2⟩; obtain ⟨y0, y1, y2, y3, y4, y5, y6, y7, y8⟩ := (HR1.out.below hb2).cells)
              | fail)
            go_roundw
            case rel =>
              have hs : stepS ns kind p r = (p.1, r.ttl) := by rw [stepS_yes HYES.out, HIN.out, if_pos HTT.out]; rfl
              exact ⟨k + 1, by go_num, by omega, by rw [HEQ.out, hs]; exact HOWN.out.below (nx HB1.out (nx hb2 hb3)), by rw [HEQ.out, hs], nx HW1.out (nx hb2 hb3)⟩
            case measure => simp [intOf]; omega
        · have HTT : Hid (¬ (p.1 = [] ∨ r.ttl < p.2)) := fun h => h.elim HEM.out htt
          have horr : ¬ (((p.1.length : Int) == 0) = true ∨ r.ttl < p.2) := by rw [hlen3]; exact fun h => h.elim (fun h => Bool.noConfusion h) htt
          clear hem
          cases hin : inD p.1 r.data with
          | false =>
            obtain ⟨B, kb, hsv, hrb, _, _⟩ := HOWN.out.rdE
            have HRB := Lib.hid hrb
            clear hrb
            subst hsv
            have HIN : Hid (inD p.1 r.data = false) := hin
            clear hin
            go_wp2_with (first
              | ((with_reducible show wpList _ _ _ (⟨some 53, _, _, _, _, _⟩ :: _) _ _); refine wpL_pushE elDa rfl (.tmp 48) (.tmp 52) rfl w.heap.size (.slice B p.1.length kb) p.1 rfl hown _ r.data hrow ?hS rfl ?hb ?hl ?hbase ?_; rotate_right; intro v5 w5 hown5 hg5 hat5)
              | (go_at_call 171; refine (pown_any s.d r.data w3 ((HI1.out.d.below (nx hb2 hb3) HLS.out)) (fun b hb => Nat.lt_of_lt_of_le (HLS.out b hb) (nx hb2 hb3).size) HLR.out.2).mono ?_; rintro e w4 ⟨v4, rfl, ⟨s4, rfl, hd4⟩, hb4⟩; unfold dsV; have hb04 := nx (nx HB1.out (nx hb2 hb3)) hb4; obtain ⟨S, hoS, hSS⟩ := HOWN.out; have hown := OwnE.below hoS hb04; have hlto := hoS.lt; have hrow : encDa.R (geS w3.heap.size w4) w4 [.slice s4.A0 r.data.bytes.length s4.c0, .slice s4.A1 r.data.host.length s4.c1, .slice s4.A2 r.data.mail.length s4.c2, .slice s4.A3 r.data.nums.length s4.c3, .slice s4.A4 r.data.texts.length s4.c4] r.data := ⟨s4, rfl, hd4⟩; have hz3 : wr.heap.size ≤ w3.heap.size := (nx HB1.out (nx hb2 hb3)).size; have hbase0 := HBW.out.size)
              | (go_at_call 170; refine (among_any B _ kb p.1 s.d r.data w2 (HRB.out.below (nx HB1.out hb2)) (by have := HPL.out; omega) ((HI1.out.d.rd HLS.out).below hb2)).mono ?_; rw [HIN.out]; rintro e w3 ⟨v3, rfl, rfl, hb3⟩; obtain ⟨z0, z1, z2, z3, z4, z5, z6, z7, z8⟩ := ((HR1.out.below hb2).below hb3).cells)
              | (go_at_call 55; refine (nequal_any s.A A' r.name.length s.c n' c' r.name ns w1 (HI1.out.n.mono HLS.out HLS.out) (HN.out.below HW1.out) (Nat.le_trans HI1.out.cn.1 HI1.out.cn.2) HM.out).mono ?_; rw [HE.out]; rintro e w2 ⟨v2, rfl, rfl, hb2⟩; obtain ⟨y0, y1, y2, y3, y4, y5, y6, y7, y8⟩ := (HR1.out.below hb2).cells)
              | fail)
            · go_roundw
              case rel =>
                have hs : stepS ns kind p r = (p.1 ++ [r.data], p.2) := by rw [stepS_yes HYES.out]; show (if inD p.1 r.data = true then _ else _, _) = _; rw [HIN.out, if_neg HTT.out]; rfl
                exact ⟨k + 1, by go_num, by omega, by rw [HEQ.out, hs]; exact ⟨_, hown5, fun b hb => hb.elim (hSS b) (fun h => by have := h.1; omega)⟩, by rw [HEQ.out, hs], ((nx HBW.out hb04)).grown hg5 (by have := hb04.size; omega) (fun j hj => (hown.lt j hj).1)⟩
              case measure => simp [intOf]; omega
            case hS =>
              intro b hb
              refine ⟨hb.2, fun he => ?_⟩
              have := (hlto b he.symm).2
              have := hb.1
              omega
            case hb => have := HPL.out; show (p.1.length + 1) * 120 ≤ _; omega
            case hl => have := HPL.out; show p.1.length + 1 ≤ _; unfold maxLen; omega
            case hbase => have := hb04.size; omega
          | true =>
            obtain ⟨B, kb, hsv, hrb, _, _⟩ := HOWN.out.rdE
            have HRB := Lib.hid hrb
            clear hrb
            subst hsv
            have HIN : Hid (inD p.1 r.data = true) := hin
            clear hin
            go_wp2_with (first
              | (go_at_call 170; refine (among_any B _ kb p.1 s.d r.data w2 (HRB.out.below (nx HB1.out hb2)) (by have := HPL.out; omega) ((HI1.out.d.rd HLS.out).below hb2)).mono ?_; rw [HIN.out]; rintro e w3 ⟨v3, rfl, rfl, hb3⟩; obtain ⟨z0, z1, z2, z3, z4, z5, z6, z7, z8⟩ := ((HR1.out.below hb2).below hb3).cells)
              | (go_at_call 55; refine (nequal_any s.A A' r.name.length s.c n' c' r.name ns w1 (HI1.out.n.mono HLS.out HLS.out) (HN.out.below HW1.out) (Nat.le_trans HI1.out.cn.1 HI1.out.cn.2) HM.out).mono ?_; rw [HE.out]; rintro e w2 ⟨v2, rfl, rfl, hb2⟩; obtain ⟨y0, y1, y2, y3, y4, y5, y6, y7, y8⟩ := (HR1.out.below hb2).cells)
              | fail)
            go_roundw
            case rel =>
              have hs : stepS ns kind p r = (p.1, p.2) := by rw [stepS_yes HYES.out, HIN.out, if_neg HTT.out]; rfl
              exact ⟨k + 1, by go_num, by omega, by rw [HEQ.out, hs]; exact HOWN.out.below (nx HB1.out (nx hb2 hb3)), by rw [HEQ.out, hs], nx HW1.out (nx hb2 hb3)⟩
            case measure => simp [intOf]; omega
    · obtain rfl : k = xs.length := by omega
      rw [List.take_length] at HOWN ⊢
      go_wp2
      go_ret2
      exact ⟨_, rfl, ⟨_, rfl, HOWN.out⟩, HBW.out⟩
end Go.Proofs.Ytimkdpkhdbiniaa
