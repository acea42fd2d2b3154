/- Parts of a proof, joined: Wtr4, Put4, Put5. -/
import Derived.Test.YtmkfjddighabcaaM03
import Derived.Test.YtmkfjddighabcaaM06
import Derived.Test.YtmkfjddighabcaaM05
import Derived.Test.YtmkfjddighabcaaM10
/- wname: Name walked. -/
namespace Go.Proofs.Ytmkfjddighabcaa
open Go.RowKit Go.Maps

theorem strs_noS {So Si : Nat → Prop} {w : World} {A : Option Addr} {n : Nat} {ns : List (List UInt8)} (h : Els encS So Si w A n ns) : Els encS So noS w A n ns :=
  ⟨h.1, fun hn => by
    obtain ⟨b, off, e, hb, hx⟩ := h.2 hn
    exact ⟨b, off, e, hb, fun i x hi => by obtain ⟨r, hr, hc⟩ := hx i x hi; exact ⟨r, hr, hc⟩⟩⟩

theorem wpL_look_some {w : World} {mb : Nat} {rs : List (List UInt8 × Nat)} (h : MapIs w mb rs) {k : List UInt8} {p : Nat} (hl : lookR rs k = some p) {ops : Array Oper} {rest : List Oper} {o : Oper} {a : Act} {Q : Exit → Act → World → Prop} (hg : o.guard = none) (m x : Operand) (hop : o.op = Op.lookup 159 m x true)
    (hm : a.eval m = .map (some mb)) (hx : a.eval x = .string (bstr k)) (hk : k.length ≤ maxLen)
    (hK : wpList Try.prog ops Q rest (a.put o.dst (.tuple #[.int .i64 (p : Int), .bool true])) w) : wpList Try.prog ops Q (o :: rest) a w :=
  wpL_look h hg m x hop hm hx hk (fun q hq => by rw [hl] at hq; injection hq with hq; subst hq; exact hK) (fun hn => by rw [hl] at hn; cases hn)
theorem wpL_look_none {w : World} {mb : Nat} {rs : List (List UInt8 × Nat)} (h : MapIs w mb rs) {k : List UInt8} (hl : lookR rs k = none) {ops : Array Oper} {rest : List Oper} {o : Oper} {a : Act} {Q : Exit → Act → World → Prop} (hg : o.guard = none) (m x : Operand) (hop : o.op = Op.lookup 159 m x true)
    (hm : a.eval m = .map (some mb)) (hx : a.eval x = .string (bstr k)) (hk : k.length ≤ maxLen)
    (hK : ∀ c : Int, wpList Try.prog ops Q rest (a.put o.dst (.tuple #[.int .i64 c, .bool false])) w) : wpList Try.prog ops Q (o :: rest) a w :=
  wpL_look h hg m x hop hm hx hk (fun q hq => by rw [hl] at hq; cases hq) (fun _ => hK)

theorem raw_label (x : Wr) (l : List UInt8) : (x.raw [UInt8.ofNat l.length]).raw l = x.label l := by simp [Wr.raw, Wr.label]
theorem Wtr.noted_cells {w w' : World} {B g mb : Nat} {F : Nat → Prop} {bv : Value} (hg : w.heap[g]? = some (.cells #[bv, .map (some mb)] 161 (0, 0))) (hmF : F mb ∧ mb ≠ g) (hF : ∀ k, F k → B ≤ k ∧ k < w.heap.size) (hgF : F g ∧ B ≤ g) (hgr : w.grownBy w' (some mb)) : w'.cell? ⟨g, 0, none⟩ = some bv ∧ w'.cell? ⟨g, 1, none⟩ = some (.map (some mb)) := by
  have h := (hgr.block g (hF g hgF.1).2 (fun e => hmF.2 (by injection e with e; exact e.symm))).trans hg
  exact ⟨(cell_of_row _ _ _ _ _ _ h).trans rfl, (cell_of_row _ _ _ _ _ _ h).trans rfl⟩
theorem Wtr.noted {w w' : World} {B g mb : Nat} {F : Nat → Prop} {x : Wr} {bv : Value} {r : List UInt8} (hn : x.Near) (hg : w.heap[g]? = some (.cells #[bv, .map (some mb)] 161 (0, 0))) (hbv : OwnB w B bv x.b) (hgF : F g ∧ B ≤ g)
    (hbF : ∀ k, bv.ownBlock = some k → F k ∧ k ≠ g ∧ k ≠ mb) (hmF : F mb ∧ mb ≠ g) (hF : ∀ k, F k → B ≤ k ∧ k < w.heap.size) (hl : x.b.length < 16384) (hm : MapIs w' mb ((r, x.b.length) :: x.rests)) (hgr : w.grownBy w' (some mb)) : Wtr w' B F g (x.note r) ∧ Chg F w w' := by
  have hc1 : Chg (fun k => k = mb) w w' := (Chg.refl _ w).grown hgr (fun k hk => .inl (by injection hk with hk; exact hk.symm))
  have e : x.note r = { x with rests := (r, x.b.length) :: x.rests } := by unfold Wr.note; rw [if_pos hl]
  refine ⟨⟨hn.note r, bv, mb, (hc1.block g (hF g hgF.1).2 (fun e => hmF.2 e.symm)).trans hg, ?_, ?_, hgF, hbF, hmF, fun k hk => ⟨(hF k hk).1, Nat.lt_of_lt_of_le (hF k hk).2 hc1.size⟩⟩, hc1.mono (fun k hk => .inl (by subst hk; exact hmF.1))⟩
  · rw [e]; exact hbv.chgv hc1 (fun k hk e => (hbF k hk).2.2 e)
  · rw [e]; exact hm

/-- What a name's writing returns. -/
noncomputable def nameR (ns : List (List UInt8)) : Int := if soundB ns = true then 0 else 5
noncomputable def Wr.nameS (x : Wr) (ns : List (List UInt8)) (short : Bool) : Wr := if soundB ns = true then x.name ns short else x

set_option maxRecDepth 100000 in
set_option maxHeartbeats 4000000 in
theorem name_any (w : World) (B g : Nat) (F : Nat → Prop) (x : Wr) (A : Option Addr) (n c : Nat) (ns : List (List UInt8)) (short : Bool) {So Si : Nat → Prop} (h : Wtr w B F g x) (hns : Els encS So Si w A n ns) (hSo : ∀ b, So b → b < w.heap.size ∧ ¬ F b) (hn : n ≤ 1000000000) (hnc : n ≤ c) (hcm : c ≤ maxLen)
    (hxb : x.b.length ≤ 10000000) (hxr : x.rests.length ≤ 10000000) :
    Calls Try.prog 88 #[.pointer (some ⟨g, 0, none⟩), .slice A n c, .bool short] w (RetX w B F g (x.nameS ns short) (.int .i64 (nameR ns))) := by
  have hl := hns.len
  subst hl
  have H := Lib.hid h
  have hE := strs_noS hns
  clear h hns
  have hcm' : c ≤ 9223372036854775807 := hcm
  clear hcm
  by_cases hs : soundB ns = true
  · have hS := soundB_iff.1 hs
    have hr : nameR ns = 0 := by unfold nameR; rw [if_pos hs]
    have hx : x.nameS ns short = x.name ns short := by unfold Wr.nameS; rw [if_pos hs]
    rw [hr, hx]
    have HSo := Lib.hid hSo
    have hsz := hS.2
    have hsl := sizeN_length ns
    have HS := Lib.hid hS
    clear hr hx hS hSo
    go_enter Try.func88, Try.ntmps88
    go_wp2_with (go_at_call 69; refine (sound_any A ns.length c ns _ hE hn).mono ?_; rw [hs]; rintro e w1 ⟨rfl, rfl⟩)
    clear hs
    go_loopw [21] (fun iv wr => ∃ (k : Nat) (Fk : Nat → Prop) (xk : Wr), iv = .int .i64 k ∧ k ≤ ns.length ∧ Hid (x.name ns short = xk.name (ns.drop k) short) ∧ Hid (Wtr wr B Fk g xk) ∧ Chg F w wr ∧ Hid (∀ z, Fk z → F z ∨ w.heap.size ≤ z) ∧ xk.b.length + sizeN (ns.drop k) ≤ x.b.length + sizeN ns ∧ xk.rests.length ≤ x.rests.length + k) (fun iv _ => ns.length - (intOf iv).toNat)
    case atStart => exact ⟨0, F, x, rfl, Nat.zero_le _, rfl, H, Chg.refl _ _, fun z hz => .inl hz, by simp, Nat.le_refl _⟩
    case round =>
      obtain ⟨k, Fk, xk, rfl, hk, HN, HW, hch, HF, hlb, hlr⟩ := hrel
      by_cases hlt : k < ns.length
      · obtain ⟨l, hx⟩ : ∃ l, ns[k]? = some l := ⟨_, List.getElem?_eq_getElem hlt⟩
        have hdr : ns.drop k = l :: ns.drop (k + 1) := by
          rw [List.drop_eq_getElem_cons hlt]
          rw [List.getElem?_eq_getElem hlt] at hx
          injection hx with hx
          rw [hx]
        obtain ⟨bN, offN, rfl, hsN, hcN, hll⟩ := strs_at hE hx
        have hEr : Els encS So noS wr (some ⟨bN, offN, none⟩) ns.length ns := hE.keep (fun b hb => hch.block b (HSo.out b hb).1 (HSo.out b hb).2) (fun b hb => hb.elim)
        have hcr := hch.cell hcN (HSo.out bN hsN).2
        have hcut := hEr.cut k c (Nat.le_of_lt hlt) hnc
        have hck : ¬ c = k := by omega
        rw [if_neg hck, Option.map_some, add_flat, show encS.size = 1 from rfl, Nat.mul_one] at hcut
        have hsd := (HS.out.drop k)
        have hlab := hsd.1
        have hrl := Lib.hid (restB_length (ns.drop k))
        have hsz2 := hsd.2
        have hl13 : 1 ≤ l.length ∧ l.length ≤ 63 := hlab l (by rw [hdr]; exact List.mem_cons_self ..)
        have HDR := Lib.hid hdr
        have hbs := bstr_size l
        have hl1 := hl13.1
        have hl2 := hl13.2
        have HL := Lib.hid hlab
        clear hx hdr hsd hlab hl13
        have hcb := fun W : World => Lib.run_convert_string_bytes (P := Try.prog) W 9 26 5 (bstr l) Try.underlying9 Try.underlying26 Try.underlying5
        have hkl : (restB (ns.drop k)).length ≤ maxLen := by have := hrl.out; unfold maxLen; omega
        have hsn : sizeN (ns.drop k) = l.length + 1 + sizeN (ns.drop (k + 1)) := by rw [HDR.out]; rfl
        have HSN := Lib.hid hsn
        have hle2 : xk.b.length + (l.length + 1 + sizeN (ns.drop (k + 1))) ≤ x.b.length + sizeN ns := by omega
        clear hsn
        rcases hlk : lookR xk.rests (restB (ns.drop k)) with _ | p
        · have HLK := Lib.hid hlk
          clear hlk
          by_cases h16 : xk.b.length < 16384
          · have HNX : Hid (xk.name (ns.drop k) short = (((xk.note (restB (ns.drop k))).label l).name (ns.drop (k + 1)) short)) := by
              show _ = _
              have := HLK.out
              rw [HDR.out] at this ⊢
              rw [Wr.name, this]
            go_wp2_with (first
              | (go_at_call 136; (with_reducible refine (rest_any _ _ _ (ns.drop k) _ hcut (by omega) (fun y hy => by have := (HL.out y hy).2; omega)).mono ?_); rintro e w2 ⟨_, rfl, rfl, hb2⟩; have HW2 := Lib.hid (HW.out.below hb2); have hch2 := hch.nx hb2; obtain ⟨hn2, bv, mb, hgg, hbv, hm, hgF2, hbF, hmF, hFl⟩ := HW.out.below hb2; obtain ⟨Ab, cb, rfl, _⟩ := hbv.form; have HG := Lib.hid hgg; have e0 : w2.cell? ⟨g, 0, none⟩ = some (.slice Ab xk.b.length cb) := (cell_of_row _ _ _ _ _ _ hgg).trans rfl; have e1 : w2.cell? ⟨g, 1, none⟩ = some (.map (some mb)) := (cell_of_row _ _ _ _ _ _ hgg).trans rfl; clear hgg)
              | ((with_reducible show wpList _ _ _ (⟨some 36, _, _, _, _, _⟩ :: _) _ _); refine wpL_look_none hm HLK.out rfl (.tmp 34) (.tmp 35) rfl rfl rfl hkl ?_; intro cc; have HM := Lib.hid hm; clear hm))
            obtain ⟨w3, hrun, hm3, hg3⟩ := (HM.out.keep (w' := w2.drew) rfl).put (k := restB (ns.drop k)) hkl (p := xk.b.length) (by omega) (by unfold maxLen; omega)
            have hnt := Wtr.noted (w := w2.drew) hn2 HG.out hbv.drew hgF2 hbF hmF hFl h16 hm3 hg3
            have HNT := Lib.hid hnt.1
            have hcn := (hch2.nx bl.drew).trans hnt.2 HF.out
            have HP := Lib.hid (Wtr.noted_cells (w := w2.drew) HG.out hmF hFl hgF2 hg3)
            have hnb := xk.note_b (restB (ns.drop k))
            have hnr := xk.note_rests (restB (ns.drop k))
            have HNB := Lib.hid hnb
            clear hnt hm3 hnb
            go_region_held3 (fun w' => w'.cell? ⟨g, 0, none⟩ = some (.slice (Ab) xk.b.length cb) ∧ w'.cell? ⟨g, 1, none⟩ = some (.map (some mb)))
              (first
                | with_reducible exact ⟨e0, e1⟩
                | with_reducible exact ⟨below_cell bl.drew e0, below_cell bl.drew e1⟩
                | with_reducible exact HP.out)
              (fail)
            go_wp2_with (first
              | (go_at_call 87; refine (wnum_any w3 B g Fk (xk.note (restB (ns.drop k))) l.length 1 HNT.out (by rw [HNB.out]; omega)).mono ?_; rintro e w4 ⟨rfl, F4, h4, hc4, hF4⟩; rw [put_len l hl2] at h4; have H4 := Lib.hid h4; have hr4 := (conv_rd w4 l).1; have hb4 := (conv_rd w4 l).2; clear h4)
              | (go_at_call 90; refine (wraw_any _ B g F4 _ _ _ _ l (H4.out.below hb4) hr4 (by simp only [Wr.raw, List.length_append, List.length_singleton]; rw [HNB.out]; omega)).mono ?_; rintro e w5 ⟨rfl, F5, h5, hc5, hF5⟩))
            go_roundw
            case rel =>
              have hq4 : ∀ z, F4 z → F z ∨ w.heap.size ≤ z := fun z hz => (hF4 z hz).elim (HF.out z) (fun h => .inr (Nat.le_trans hcn.size h))
              have hq5 := (hcn.trans hc4 HF.out).nx hb4
              exact ⟨k + 1, F5, ((xk.note (restB (ns.drop k))).raw [UInt8.ofNat l.length]).raw l, by go_num, by omega, HN.out.trans (HNX.out.trans (by rw [raw_label])), h5, hq5.trans hc5 hq4, fun z hz => (hF5 z hz).elim (hq4 z) (fun h => .inr (Nat.le_trans hq5.size h)), by simp only [Wr.raw, List.length_append, List.length_singleton]; rw [HNB.out]; omega, by show (xk.note (restB (ns.drop k))).rests.length ≤ _; omega⟩
            case measure => simp [intOf]; omega
          · have HNX : Hid (xk.name (ns.drop k) short = (xk.label l).name (ns.drop (k + 1)) short) := by
              show _ = _
              have := HLK.out
              rw [HDR.out] at this ⊢
              rw [Wr.name, this]
              unfold Wr.note
              rw [if_neg h16]
            go_wp2_with (first
              | (go_at_call 136; (with_reducible refine (rest_any _ _ _ (ns.drop k) _ hcut (by omega) (fun y hy => by have := (HL.out y hy).2; omega)).mono ?_); rintro e w2 ⟨_, rfl, rfl, hb2⟩; have HW2 := Lib.hid (HW.out.below hb2); have hch2 := hch.nx hb2; obtain ⟨hn2, bv, mb, hgg, hbv, hm, hgF2, hbF, hmF, hFl⟩ := HW.out.below hb2; obtain ⟨Ab, cb, rfl, _⟩ := hbv.form; have HG := Lib.hid hgg; have e0 : w2.cell? ⟨g, 0, none⟩ = some (.slice Ab xk.b.length cb) := (cell_of_row _ _ _ _ _ _ hgg).trans rfl; have e1 : w2.cell? ⟨g, 1, none⟩ = some (.map (some mb)) := (cell_of_row _ _ _ _ _ _ hgg).trans rfl; clear hgg)
              | ((with_reducible show wpList _ _ _ (⟨some 36, _, _, _, _, _⟩ :: _) _ _); refine wpL_look_none hm HLK.out rfl (.tmp 34) (.tmp 35) rfl rfl rfl hkl ?_; intro cc)
              | (go_at_call 87; refine (wnum_any w2 B g Fk xk l.length 1 HW2.out (by omega)).mono ?_; rintro e w4 ⟨rfl, F4, h4, hc4, hF4⟩; rw [put_len l hl2] at h4; have H4 := Lib.hid h4; have hr4 := (conv_rd w4 l).1; have hb4 := (conv_rd w4 l).2; clear h4)
              | (go_at_call 90; refine (wraw_any _ B g F4 _ _ _ _ l (H4.out.below hb4) hr4 (by simp only [Wr.raw, List.length_append, List.length_singleton]; omega)).mono ?_; rintro e w5 ⟨rfl, F5, h5, hc5, hF5⟩))
            go_roundw
            case rel =>
              have hq4 : ∀ z, F4 z → F z ∨ w.heap.size ≤ z := fun z hz => (hF4 z hz).elim (HF.out z) (fun h => .inr (Nat.le_trans hch2.size h))
              have hq5 := (hch2.trans hc4 HF.out).nx hb4
              exact ⟨k + 1, F5, (xk.raw [UInt8.ofNat l.length]).raw l, by go_num, by omega, HN.out.trans (HNX.out.trans (by rw [raw_label])), h5, hq5.trans hc5 hq4, fun z hz => (hF5 z hz).elim (hq4 z) (fun h => .inr (Nat.le_trans hq5.size h)), by simp only [Wr.raw, List.length_append, List.length_singleton]; omega, by show xk.rests.length ≤ _; omega⟩
            case measure => simp [intOf]; omega
        · have HLK := Lib.hid hlk
          have hp : p < 16384 := HW.out.near _ _ hlk
          have hor := or_ptr p hp
          clear hlk
          rcases short with _ | _
          · have HNX : Hid (xk.name (ns.drop k) false = (xk.label l).name (ns.drop (k + 1)) false) := by
              show _ = _
              have := HLK.out
              rw [HDR.out] at this ⊢
              rw [Wr.name, this]
              rfl
            go_wp2_with (first
              | (go_at_call 136; (with_reducible refine (rest_any _ _ _ (ns.drop k) _ hcut (by omega) (fun y hy => by have := (HL.out y hy).2; omega)).mono ?_); rintro e w2 ⟨_, rfl, rfl, hb2⟩; have HW2 := Lib.hid (HW.out.below hb2); have hch2 := hch.nx hb2; obtain ⟨hn2, bv, mb, hgg, hbv, hm, hgF2, hbF, hmF, hFl⟩ := HW.out.below hb2; obtain ⟨Ab, cb, rfl, _⟩ := hbv.form; have HG := Lib.hid hgg; have e0 : w2.cell? ⟨g, 0, none⟩ = some (.slice Ab xk.b.length cb) := (cell_of_row _ _ _ _ _ _ hgg).trans rfl; have e1 : w2.cell? ⟨g, 1, none⟩ = some (.map (some mb)) := (cell_of_row _ _ _ _ _ _ hgg).trans rfl; clear hgg)
              | ((with_reducible show wpList _ _ _ (⟨some 36, _, _, _, _, _⟩ :: _) _ _); refine wpL_look_some hm HLK.out rfl (.tmp 34) (.tmp 35) rfl rfl rfl hkl ?_)
              | (go_at_call 87; refine (wnum_any w2 B g Fk xk l.length 1 HW2.out (by omega)).mono ?_; rintro e w4 ⟨rfl, F4, h4, hc4, hF4⟩; rw [put_len l hl2] at h4; have H4 := Lib.hid h4; have hr4 := (conv_rd w4 l).1; have hb4 := (conv_rd w4 l).2; clear h4)
              | (go_at_call 90; refine (wraw_any _ B g F4 _ _ _ _ l (H4.out.below hb4) hr4 (by simp only [Wr.raw, List.length_append, List.length_singleton]; omega)).mono ?_; rintro e w5 ⟨rfl, F5, h5, hc5, hF5⟩))
            go_roundw
            case rel =>
              have hq4 : ∀ z, F4 z → F z ∨ w.heap.size ≤ z := fun z hz => (hF4 z hz).elim (HF.out z) (fun h => .inr (Nat.le_trans hch2.size h))
              have hq5 := (hch2.trans hc4 HF.out).nx hb4
              exact ⟨k + 1, F5, (xk.raw [UInt8.ofNat l.length]).raw l, by go_num, by omega, HN.out.trans (HNX.out.trans (by rw [raw_label])), h5, hq5.trans hc5 hq4, fun z hz => (hF5 z hz).elim (hq4 z) (fun h => .inr (Nat.le_trans hq5.size h)), by simp only [Wr.raw, List.length_append, List.length_singleton]; omega, by show xk.rests.length ≤ _; omega⟩
            case measure => simp [intOf]; omega
          · have HNX : Hid (xk.name (ns.drop k) true = xk.raw (ptrB p)) := by
              show _ = _
              have := HLK.out
              rw [HDR.out] at this ⊢
              rw [Wr.name, this]
              rfl
            go_wp2_with (first
              | (go_at_call 136; (with_reducible refine (rest_any _ _ _ (ns.drop k) _ hcut (by omega) (fun y hy => by have := (HL.out y hy).2; omega)).mono ?_); rintro e w2 ⟨_, rfl, rfl, hb2⟩; have HW2 := Lib.hid (HW.out.below hb2); have hch2 := hch.nx hb2; obtain ⟨hn2, bv, mb, hgg, hbv, hm, hgF2, hbF, hmF, hFl⟩ := HW.out.below hb2; obtain ⟨Ab, cb, rfl, _⟩ := hbv.form; have HG := Lib.hid hgg; have e0 : w2.cell? ⟨g, 0, none⟩ = some (.slice Ab xk.b.length cb) := (cell_of_row _ _ _ _ _ _ hgg).trans rfl; have e1 : w2.cell? ⟨g, 1, none⟩ = some (.map (some mb)) := (cell_of_row _ _ _ _ _ _ hgg).trans rfl; clear hgg)
              | ((with_reducible show wpList _ _ _ (⟨some 36, _, _, _, _, _⟩ :: _) _ _); refine wpL_look_some hm HLK.out rfl (.tmp 34) (.tmp 35) rfl rfl rfl hkl ?_)
              | (go_at_call 87; refine (wnum_any w2 B g Fk xk (49152 + (p : Int)) 2 HW2.out (by omega)).mono ?_; rintro e w4 ⟨rfl, F4, h4, hc4, hF4⟩; rw [put_ptr p hp] at h4; have H4 := Lib.hid h4; clear h4))
            go_ret
            refine ⟨rfl, F4, ?_, hch2.trans hc4 HF.out, fun z hz => (hF4 z hz).elim (HF.out z) (fun h => .inr (Nat.le_trans hch2.size h))⟩
            rw [HN.out, HNX.out]
            exact H4.out
      · obtain rfl : k = ns.length := by omega
        have hdn : ns.drop ns.length = [] := List.drop_length
        have HDN := Lib.hid hdn
        have hbl : xk.b.length ≤ 100000000 := by have := sizeN_length (ns.drop ns.length); omega
        clear hdn
        go_wp2_with (go_at_call 87; refine (wnum_any _ B g Fk xk 0 1 HW.out hbl).mono ?_; rintro e w3 ⟨rfl, F3, h3, hc3, hF3⟩)
        go_ret
        refine ⟨rfl, F3, ?_, hch.trans hc3 HF.out, fun z hz => (hF3 z hz).elim (HF.out z) (fun h => .inr (Nat.le_trans hch.size h))⟩
        rw [HN.out, HDN.out]
        rw [put_zero] at h3
        exact h3
  · have hs' : soundB ns = false := by simpa using hs
    have hr : nameR ns = 5 := by unfold nameR; rw [if_neg hs]
    have hx : x.nameS ns short = x := by unfold Wr.nameS; rw [if_neg hs]
    rw [hr, hx]
    clear hr hx hs
    go_enter Try.func88, Try.ntmps88
    go_wp2_with (go_at_call 69; refine (sound_any A ns.length c ns _ hE hn).mono ?_; rw [hs']; rintro e w1 ⟨rfl, rfl⟩)
    go_ret
    exact ⟨rfl, F, H.out, Chg.refl _ _, fun z hz => .inl hz⟩
end Go.Proofs.Ytmkfjddighabcaa

/- rdata.Put: the numbers. -/
namespace Go.Proofs.Ytmkfjddighabcaa
open Go.RowKit
set_option maxRecDepth 100000

theorem RetX.trans {w w1 w2 : World} {F F1 : Nat → Prop} (hc : Chg F w w1) (hF : ∀ z, F1 z → F z ∨ w.heap.size ≤ z) (hc2 : Chg F1 w1 w2) : Chg F w w2 := hc.trans hc2 hF
theorem new_trans {w w1 : World} {F F1 F2 : Nat → Prop} (hc : Chg F w w1) (hF : ∀ z, F1 z → F z ∨ w.heap.size ≤ z) (hF2 : ∀ z, F2 z → F1 z ∨ w1.heap.size ≤ z) : ∀ z, F2 z → F z ∨ w.heap.size ≤ z :=
  fun z hz => (hF2 z hz).elim (hF z) (fun h => .inr (Nat.le_trans hc.size h))

set_option maxHeartbeats 1000000 in
theorem wnums_any (w : World) (B g : Nat) (F : Nat → Prop) (x : Wr) (A : Option Addr) (n c : Nat) (ns : List Int) (z : Int) {S : Nat → Prop} (h : Wtr w B F g x) (hns : Els encI S S w A n ns) (hS : ∀ b, S b → b < w.heap.size ∧ ¬ F b) (hn : n ≤ 1000) (hx : x.b.length ≤ 10000000) :
    Calls Try.prog 163 #[.pointer (some ⟨g, 0, none⟩), .slice A n c, .int .i64 z] w (RetX w B F g (x.nums ns z) (.tuple #[])) := by
  have hl := hns.len
  subst hl
  have H := Lib.hid h
  have HN := Lib.hid hns
  have HS := Lib.hid hS
  have HX : Hid (∀ k, k ≤ ns.length → (x.nums (ns.take k) z).b.length ≤ 100000000) := fun k hk => by
    have := (x.nums_len (ns.take k) z).1
    rw [List.length_take] at this
    omega
  clear h hns hS hx
  go_enter Try.func163, Try.ntmps163
  go_wp2
  go_loopw [10] (fun iv wr => ∃ (j : Nat) (F1 : Nat → Prop), iv = .int .i64 j ∧ j ≤ ns.length ∧ Hid (Wtr wr B F1 g (x.nums (ns.take j) z)) ∧ Hid (Chg F w wr) ∧ Hid (∀ k, F1 k → F k ∨ w.heap.size ≤ k)) (fun iv _ => ns.length - (intOf iv).toNat)
  case atStart => exact ⟨0, F, rfl, Nat.zero_le _, H, Chg.refl _ _, fun k hk => .inl hk⟩
  case round =>
    obtain ⟨j, F1, rfl, hj, HW, HC, HF⟩ := hrel
    by_cases hlt : j < ns.length
    · obtain ⟨l, hl⟩ : ∃ l, ns[j]? = some l := ⟨_, List.getElem?_eq_getElem hlt⟩
      have hk := Els.keep (fun b hb => HC.out.block b (HS.out b hb).1 (HS.out b hb).2) (fun b hb => HC.out.block b (HS.out b hb).1 (HS.out b hb).2) HN.out
      obtain ⟨b, off, rfl, _, hcell, _⟩ := ints_at hk hl
      have HL := Lib.hid hl
      clear hk hl
      have HTK : Hid (x.nums (ns.take (j + 1)) z = (x.nums (ns.take j) z).raw (putB [] l z)) := by show _ = _; rw [List.take_add_one, HL.out]; exact Wr.nums_snoc _ _ _ _
      go_wp2_with (first
        | (go_at_call 87; refine (wnum_any wr B g F1 (x.nums (ns.take j) z) l z HW.out (HX.out j hj)).mono ?_; rintro e w2 ⟨rfl, F2, h2, hc2, hF2⟩)
        | fail)
      have HW2 : Hid (Wtr w2 B F2 g (x.nums (ns.take (j + 1)) z)) := by show Wtr _ _ _ _ _; rw [HTK.out]; exact h2
      have HC2 := Lib.hid (HC.out.trans hc2 HF.out)
      have HF3 := Lib.hid (new_trans HC.out HF.out hF2)
      go_roundw
      case rel => exact ⟨j + 1, F2, by go_num, by omega, HW2, HC2, HF3⟩
      case measure => simp [intOf]; omega
    · obtain rfl : j = ns.length := by omega
      have HW2 := HW.out
      rw [List.take_length] at HW2
      have HW3 := Lib.hid HW2
      clear HW2
      go_wp2
      refine bodyPost_ret (v := .tuple #[]) ?_ rfl ?_
      · simp [results, Try.results163]
      exact ⟨rfl, F1, HW3.out, HC.out, HF.out⟩
end Go.Proofs.Ytmkfjddighabcaa

/- rdata.Put: where its walk stands. -/
namespace Go.Proofs.Ytmkfjddighabcaa
open Go.RowKit
set_option maxRecDepth 100000

theorem nameS_sound {x : Wr} {ns : List (List UInt8)} (h : SoundN ns) (short : Bool) : x.nameS ns short = x.name ns short := by unfold Wr.nameS; rw [if_pos (soundB_true h)]
structure PutSt (w wr : World) (B g : Nat) (F Fr : Nat → Prop) (y : Wr) (q p : Nat) (S : Nat → Prop) (s : DS) (d : Da) (sh : Shp) : Prop where
  W : Wtr wr B Fr g y
  C : Chg F w wr
  N : ∀ z, Fr z → F z ∨ w.heap.size ≤ z
  Q : wr.heap[q]? = some (.cells (dCells s d) 42 (0, 0))
  P : wr.heap[p]? = some (.cells (shCells sh) 174 (0, 0))
  D : DIn S wr s d
  qF : ¬ Fr q
  pF : ¬ Fr p
  SF : ∀ b, S b → b < wr.heap.size ∧ ¬ Fr b
section
variable {w wr w' : World} {B g q p : Nat} {F Fr F' S : Nat → Prop} {y y' : Wr} {s : DS} {d : Da} {sh : Shp}
theorem PutSt.step (h : PutSt w wr B g F Fr y q p S s d sh) (hw : Wtr w' B F' g y') (hc : Chg Fr wr w') (hF : ∀ z, F' z → Fr z ∨ wr.heap.size ≤ z) : PutSt w w' B g F F' y' q p S s d sh where
  W := hw
  C := h.C.trans hc h.N
  N := new_trans h.C h.N hF
  Q := hc.heap h.Q h.qF
  P := hc.heap h.P h.pF
  D := h.D.chg hc h.SF
  qF := fun hq => (hF q hq).elim h.qF (fun hl => by have := (Array.getElem?_eq_some_iff.1 h.Q).1; omega)
  pF := fun hq => (hF p hq).elim h.pF (fun hl => by have := (Array.getElem?_eq_some_iff.1 h.P).1; omega)
  SF := fun b hb => ⟨Nat.lt_of_lt_of_le (h.SF b hb).1 hc.size, fun hq => (hF b hq).elim (h.SF b hb).2 (fun hl => by have := (h.SF b hb).1; omega)⟩
theorem PutSt.below (h : PutSt w wr B g F Fr y q p S s d sh) (hb : Below wr.heap.size wr w') : PutSt w w' B g F Fr y q p S s d sh := h.step (h.W.below hb) (Chg.of_below hb) (fun _ hz => .inl hz)
theorem PutSt.dc (h : PutSt w wr B g F Fr y q p S s d sh) (j : Nat) : wr.cell? ⟨q, j, none⟩ = (dCells s d)[j]? := cell_of_row _ _ _ _ _ _ h.Q
theorem PutSt.shc (h : PutSt w wr B g F Fr y q p S s d sh) (j : Nat) : wr.cell? ⟨p, j, none⟩ = (shCells sh)[j]? := cell_of_row _ _ _ _ _ _ h.P
theorem PutSt.done (h : PutSt w wr B g F Fr y q p S s d sh) {v : Value} {z : Wr} (hz : y = z) : RetX w B F g z v (.returned v) wr := by subst hz; exact ⟨rfl, Fr, h.W, h.C, h.N⟩
end
end Go.Proofs.Ytmkfjddighabcaa
