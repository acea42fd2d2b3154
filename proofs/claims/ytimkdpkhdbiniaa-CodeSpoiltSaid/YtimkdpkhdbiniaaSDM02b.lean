/- Parts of a proof, joined: Wtr3, Wtr4, WtrLaws, TimeB, Time1, CodeP, LawT. -/
import Derived.Laws.BitsLemmas
import Derived.Lib.ConvBytes
import Derived.Test.YtimkdpkhdbiniaaSDM02
import Derived.Test.YtimkdpkhdbiniaaSDM01
/- wname: Name. -/
namespace Go.Proofs.Ytimkdpkhdbiniaa
open Go.RowKit Go.Maps

theorem or_ptr (p : Nat) (hp : p < 16384) : bits .or .i64 49152 (p : Int) = 49152 + (p : Int) := by
  rw [bits_join .i64 63 (by decide) (fun n h0 h1 => by rw [IntKind.wrap_i64]; omega) 14 49152 p (by decide) (by decide) (by decide) (by omega) (by omega) (by omega)]
theorem put_ptr (p : Nat) (hp : p < 16384) : putB [] (49152 + (p : Int)) 2 = ptrB p := by
  rw [show (49152 + (p : Int)) = ((49152 + p : Nat) : Int) by omega]
  unfold putB
  rw [if_pos (by unfold fitsB; rw [decide_eq_true_iff]; refine ⟨by decide, by decide, by omega, ?_⟩; rw [show (256 : Int) ^ (2 : Int).toNat = 65536 by decide]; omega)]
  show be (49152 + p) 2 = ptrB p
  unfold ptrB
  simp only [be, List.nil_append, List.cons_append]
  congr 1
  · apply UInt8.toNat_inj.1
    simp only [UInt8.toNat_ofNat']
    omega
  · congr 1
    apply UInt8.toNat_inj.1
    simp only [UInt8.toNat_ofNat']
    omega
theorem put_len (l : List UInt8) (h : l.length ≤ 63) : putB [] (l.length : Int) 1 = [UInt8.ofNat l.length] := by
  unfold putB
  rw [if_pos (by unfold fitsB; rw [decide_eq_true_iff]; refine ⟨by decide, by decide, by omega, ?_⟩; rw [show (256 : Int) ^ (1 : Int).toNat = 256 by decide]; omega)]
  show be l.length 1 = _
  simp only [be, List.nil_append]
theorem put_zero : putB [] 0 1 = [0] := by decide

/-- []byte(s). -/
theorem conv_rd (w : World) (l : List UInt8) : RdB (Lib.bytesWorld w 5 (bstr l)) (some ⟨w.heap.size, 0, none⟩) l.length l ∧ Below w.heap.size w (Lib.bytesWorld w 5 (bstr l)) := by
  refine ⟨⟨by simp, fun _ => ⟨w.heap.size, 0, rfl, fun j u hu => ?_⟩⟩, ⟨rfl, rfl, rfl, by rw [Lib.bytesWorld_size]; omega, fun k hk => Lib.bytesWorld_at_old w _ _ k hk⟩⟩
  rw [List.getElem?_map] at hu
  cases hj : l[j]? with
  | none => rw [hj] at hu; cases hu
  | some y =>
    rw [hj] at hu
    injection hu with hu
    subst hu
    have hjl : j < l.length := (List.getElem?_eq_some_iff.1 hj).1
    have := Lib.bytesWorld_cell w 5 (bstr l) j (by rw [bstr_size]; exact hjl)
    rw [Nat.zero_add, this]
    have e : (bstr l).data.toList = l := by simp [bstr]
    rw [e]
    unfold bV
    rw [List.getD_eq_getElem?_getD, hj]
    rfl
end Go.Proofs.Ytimkdpkhdbiniaa

/- wname: Name walked. -/
namespace Go.Proofs.Ytimkdpkhdbiniaa
open Go.RowKit Go.Maps

theorem strs_noS {So Si : Nat → Prop} {w : World} {A : Option Addr} {n : Nat} {ns : List (List UInt8)} (h : Els encS So Si w A n ns) : Els encS So noS w A n ns :=
  ⟨h.1, fun hn => by
    obtain ⟨b, off, e, hb, hx⟩ := h.2 hn
    exact ⟨b, off, e, hb, fun i x hi => by obtain ⟨r, hr, hc⟩ := hx i x hi; exact ⟨r, hr, hc⟩⟩⟩

theorem wpL_look_some {w : World} {mb : Nat} {rs : List (List UInt8 × Nat)} (h : MapIs w mb rs) {k : List UInt8} {p : Nat} (hl : lookR rs k = some p) {ops : Array Oper} {rest : List Oper} {o : Oper} {a : Act} {Q : Exit → Act → World → Prop} (hg : o.guard = none) (m x : Operand) (hop : o.op = Op.lookup 174 m x true)
    (hm : a.eval m = .map (some mb)) (hx : a.eval x = .string (bstr k)) (hk : k.length ≤ maxLen)
    (hK : wpList Try.prog ops Q rest (a.put o.dst (.tuple #[.int .i64 (p : Int), .bool true])) w) : wpList Try.prog ops Q (o :: rest) a w :=
  wpL_look h hg m x hop hm hx hk (fun q hq => by rw [hl] at hq; injection hq with hq; subst hq; exact hK) (fun hn => by rw [hl] at hn; cases hn)
theorem wpL_look_none {w : World} {mb : Nat} {rs : List (List UInt8 × Nat)} (h : MapIs w mb rs) {k : List UInt8} (hl : lookR rs k = none) {ops : Array Oper} {rest : List Oper} {o : Oper} {a : Act} {Q : Exit → Act → World → Prop} (hg : o.guard = none) (m x : Operand) (hop : o.op = Op.lookup 174 m x true)
    (hm : a.eval m = .map (some mb)) (hx : a.eval x = .string (bstr k)) (hk : k.length ≤ maxLen)
    (hK : ∀ c : Int, wpList Try.prog ops Q rest (a.put o.dst (.tuple #[.int .i64 c, .bool false])) w) : wpList Try.prog ops Q (o :: rest) a w :=
  wpL_look h hg m x hop hm hx hk (fun q hq => by rw [hl] at hq; cases hq) (fun _ => hK)

theorem raw_label (x : Wr) (l : List UInt8) : (x.raw [UInt8.ofNat l.length]).raw l = x.label l := by simp [Wr.raw, Wr.label]
theorem Wtr.noted_cells {w w' : World} {B g mb : Nat} {F : Nat → Prop} {bv : Value} (hg : w.heap[g]? = some (.cells #[bv, .map (some mb)] 176 (0, 0))) (hmF : F mb ∧ mb ≠ g) (hF : ∀ k, F k → B ≤ k ∧ k < w.heap.size) (hgF : F g ∧ B ≤ g) (hgr : w.grownBy w' (some mb)) : w'.cell? ⟨g, 0, none⟩ = some bv ∧ w'.cell? ⟨g, 1, none⟩ = some (.map (some mb)) := by
  have h := (hgr.block g (hF g hgF.1).2 (fun e => hmF.2 (by injection e with e; exact e.symm))).trans hg
  exact ⟨(cell_of_row _ _ _ _ _ _ h).trans rfl, (cell_of_row _ _ _ _ _ _ h).trans rfl⟩
theorem Wtr.noted {w w' : World} {B g mb : Nat} {F : Nat → Prop} {x : Wr} {bv : Value} {r : List UInt8} (hn : x.Near) (hg : w.heap[g]? = some (.cells #[bv, .map (some mb)] 176 (0, 0))) (hbv : OwnB w B bv x.b) (hgF : F g ∧ B ≤ g)
    (hbF : ∀ k, bv.ownBlock = some k → F k ∧ k ≠ g ∧ k ≠ mb) (hmF : F mb ∧ mb ≠ g) (hF : ∀ k, F k → B ≤ k ∧ k < w.heap.size) (hl : x.b.length < 16384) (hm : MapIs w' mb ((r, x.b.length) :: x.rests)) (hgr : w.grownBy w' (some mb)) : Wtr w' B F g (x.note r) ∧ Chg F w w' := by
  have hc1 : Chg (fun k => k = mb) w w' := (Chg.refl _ w).grown hgr (fun k hk => .inl (by injection hk with hk; exact hk.symm))
  have e : x.note r = { x with rests := (r, x.b.length) :: x.rests } := by unfold Wr.note; rw [if_pos hl]
  refine ⟨⟨hn.note r, bv, mb, (hc1.block g (hF g hgF.1).2 (fun e => hmF.2 e.symm)).trans hg, ?_, ?_, hgF, hbF, hmF, fun k hk => ⟨(hF k hk).1, Nat.lt_of_lt_of_le (hF k hk).2 hc1.size⟩⟩, hc1.mono (fun k hk => .inl (by subst hk; exact hmF.1))⟩
  · rw [e]; exact hbv.chgv hc1 (fun k hk e => (hbF k hk).2.2 e)
  · rw [e]; exact hm

/-- What a name's writing returns. -/
noncomputable def nameR (ns : List (List UInt8)) : Int := if soundB ns = true then 0 else 5
noncomputable def Wr.nameS (x : Wr) (ns : List (List UInt8)) (short : Bool) : Wr := if soundB ns = true then x.name ns short else x

set_option maxRecDepth 100000 in
set_option maxHeartbeats 4000000 in
theorem name_any (w : World) (B g : Nat) (F : Nat → Prop) (x : Wr) (A : Option Addr) (n c : Nat) (ns : List (List UInt8)) (short : Bool) {So Si : Nat → Prop} (h : Wtr w B F g x) (hns : Els encS So Si w A n ns) (hSo : ∀ b, So b → b < w.heap.size ∧ ¬ F b) (hn : n ≤ 1000000000) (hnc : n ≤ c) (hcm : c ≤ maxLen)
    (hxb : x.b.length ≤ 10000000) (hxr : x.rests.length ≤ 10000000) :
    Calls Try.prog 103 #[.pointer (some ⟨g, 0, none⟩), .slice A n c, .bool short] w (RetX w B F g (x.nameS ns short) (.int .i64 (nameR ns))) := by
  have hl := hns.len
  subst hl
  have H := Lib.hid h
  have hE := strs_noS hns
  clear h hns
  have hcm' : c ≤ 9223372036854775807 := hcm
  clear hcm
  by_cases hs : soundB ns = true
  · have hS := soundB_iff.1 hs
    have hr : nameR ns = 0 := by unfold nameR; rw [if_pos hs]
    have hx : x.nameS ns short = x.name ns short := by unfold Wr.nameS; rw [if_pos hs]
    rw [hr, hx]
    have HSo := Lib.hid hSo
    have hsz := hS.2
    have hsl := sizeN_length ns
    have HS := Lib.hid hS
    clear hr hx hS hSo
    go_enter Try.func103, Try.ntmps103
    go_wp2_with (go_at_call 61; refine (sound_any A ns.length c ns _ hE hn).mono ?_; rw [hs]; rintro e w1 ⟨rfl, rfl⟩)
    clear hs
    go_loopw [21] (fun iv wr => ∃ (k : Nat) (Fk : Nat → Prop) (xk : Wr), iv = .int .i64 k ∧ k ≤ ns.length ∧ Hid (x.name ns short = xk.name (ns.drop k) short) ∧ Hid (Wtr wr B Fk g xk) ∧ Chg F w wr ∧ Hid (∀ z, Fk z → F z ∨ w.heap.size ≤ z) ∧ xk.b.length + sizeN (ns.drop k) ≤ x.b.length + sizeN ns ∧ xk.rests.length ≤ x.rests.length + k) (fun iv _ => ns.length - (intOf iv).toNat)
    case atStart => exact ⟨0, F, x, rfl, Nat.zero_le _, rfl, H, Chg.refl _ _, fun z hz => .inl hz, by simp, Nat.le_refl _⟩
    case round =>
      obtain ⟨k, Fk, xk, rfl, hk, HN, HW, hch, HF, hlb, hlr⟩ := hrel
      by_cases hlt : k < ns.length
      · obtain ⟨l, hx⟩ : ∃ l, ns[k]? = some l := ⟨_, List.getElem?_eq_getElem hlt⟩
        have hdr : ns.drop k = l :: ns.drop (k + 1) := by
          rw [List.drop_eq_getElem_cons hlt]
          rw [List.getElem?_eq_getElem hlt] at hx
          injection hx with hx
          rw [hx]
        obtain ⟨bN, offN, rfl, hsN, hcN, hll⟩ := strs_at hE hx
        have hEr : Els encS So noS wr (some ⟨bN, offN, none⟩) ns.length ns := hE.keep (fun b hb => hch.block b (HSo.out b hb).1 (HSo.out b hb).2) (fun b hb => hb.elim)
        have hcr := hch.cell hcN (HSo.out bN hsN).2
        have hcut := hEr.cut k c (Nat.le_of_lt hlt) hnc
        have hck : ¬ c = k := by omega
        rw [if_neg hck, Option.map_some, add_flat, show encS.size = 1 from rfl, Nat.mul_one] at hcut
        have hsd := (HS.out.drop k)
        have hlab := hsd.1
        have hrl := Lib.hid (restB_length (ns.drop k))
        have hsz2 := hsd.2
        have hl13 : 1 ≤ l.length ∧ l.length ≤ 63 := hlab l (by rw [hdr]; exact List.mem_cons_self ..)
        have HDR := Lib.hid hdr
        have hbs := bstr_size l
        have hl1 := hl13.1
        have hl2 := hl13.2
        have HL := Lib.hid hlab
        clear hx hdr hsd hlab hl13
        have hcb := fun W : World => Lib.run_convert_string_bytes (P := Try.prog) W 9 22 5 (bstr l) Try.underlying9 Try.underlying22 Try.underlying5
        have hkl : (restB (ns.drop k)).length ≤ maxLen := by have := hrl.out; unfold maxLen; omega
        have hsn : sizeN (ns.drop k) = l.length + 1 + sizeN (ns.drop (k + 1)) := by rw [HDR.out]; rfl
        have HSN := Lib.hid hsn
        have hle2 : xk.b.length + (l.length + 1 + sizeN (ns.drop (k + 1))) ≤ x.b.length + sizeN ns := by omega
        clear hsn
        rcases hlk : lookR xk.rests (restB (ns.drop k)) with _ | p
        · have HLK := Lib.hid hlk
          clear hlk
          by_cases h16 : xk.b.length < 16384
          · have HNX : Hid (xk.name (ns.drop k) short = (((xk.note (restB (ns.drop k))).label l).name (ns.drop (k + 1)) short)) := by
              show _ = _
              have := HLK.out
              rw [HDR.out] at this ⊢
              rw [Wr.name, this]
            go_wp2_with (first
              | (go_at_call 151; (with_reducible refine (rest_any _ _ _ (ns.drop k) _ hcut (by omega) (fun y hy => by have := (HL.out y hy).2; omega)).mono ?_); rintro e w2 ⟨_, rfl, rfl, hb2⟩; have HW2 := Lib.hid (HW.out.below hb2); have hch2 := hch.nx hb2; obtain ⟨hn2, bv, mb, hgg, hbv, hm, hgF2, hbF, hmF, hFl⟩ := HW.out.below hb2; obtain ⟨Ab, cb, rfl, _⟩ := hbv.form; have HG := Lib.hid hgg; have e0 : w2.cell? ⟨g, 0, none⟩ = some (.slice Ab xk.b.length cb) := (cell_of_row _ _ _ _ _ _ hgg).trans rfl; have e1 : w2.cell? ⟨g, 1, none⟩ = some (.map (some mb)) := (cell_of_row _ _ _ _ _ _ hgg).trans rfl; clear hgg)
              | ((with_reducible show wpList _ _ _ (⟨some 36, _, _, _, _, _⟩ :: _) _ _); refine wpL_look_none hm HLK.out rfl (.tmp 34) (.tmp 35) rfl rfl rfl hkl ?_; intro cc; have HM := Lib.hid hm; clear hm))
            obtain ⟨w3, hrun, hm3, hg3⟩ := (HM.out.keep (w' := w2.drew) rfl).put (k := restB (ns.drop k)) hkl (p := xk.b.length) (by omega) (by unfold maxLen; omega)
            have hnt := Wtr.noted (w := w2.drew) hn2 HG.out hbv.drew hgF2 hbF hmF hFl h16 hm3 hg3
            have HNT := Lib.hid hnt.1
            have hcn := (hch2.nx bl.drew).trans hnt.2 HF.out
            have HP := Lib.hid (Wtr.noted_cells (w := w2.drew) HG.out hmF hFl hgF2 hg3)
            have hnb := xk.note_b (restB (ns.drop k))
            have hnr := xk.note_rests (restB (ns.drop k))
            have HNB := Lib.hid hnb
            clear hnt hm3 hnb
            go_region_held3 (fun w' => w'.cell? ⟨g, 0, none⟩ = some (.slice (Ab) xk.b.length cb) ∧ w'.cell? ⟨g, 1, none⟩ = some (.map (some mb)))
              (first
                | with_reducible exact ⟨e0, e1⟩
                | with_reducible exact ⟨below_cell bl.drew e0, below_cell bl.drew e1⟩
                | with_reducible exact HP.out)
              (fail)
            go_wp2_with (first
              | (go_at_call 101; refine (wnum_any w3 B g Fk (xk.note (restB (ns.drop k))) l.length 1 HNT.out (by rw [HNB.out]; omega)).mono ?_; rintro e w4 ⟨rfl, F4, h4, hc4, hF4⟩; rw [put_len l hl2] at h4; have H4 := Lib.hid h4; have hr4 := (conv_rd w4 l).1; have hb4 := (conv_rd w4 l).2; clear h4)
              | (go_at_call 148; refine (wraw_any _ B g F4 _ _ _ _ l (H4.out.below hb4) hr4 (by simp only [Wr.raw, List.length_append, List.length_singleton]; rw [HNB.out]; omega)).mono ?_; rintro e w5 ⟨rfl, F5, h5, hc5, hF5⟩))
            go_roundw
            case rel =>
              have hq4 : ∀ z, F4 z → F z ∨ w.heap.size ≤ z := fun z hz => (hF4 z hz).elim (HF.out z) (fun h => .inr (Nat.le_trans hcn.size h))
              have hq5 := (hcn.trans hc4 HF.out).nx hb4
              exact ⟨k + 1, F5, ((xk.note (restB (ns.drop k))).raw [UInt8.ofNat l.length]).raw l, by go_num, by omega, HN.out.trans (HNX.out.trans (by rw [raw_label])), h5, hq5.trans hc5 hq4, fun z hz => (hF5 z hz).elim (hq4 z) (fun h => .inr (Nat.le_trans hq5.size h)), by simp only [Wr.raw, List.length_append, List.length_singleton]; rw [HNB.out]; omega, by show (xk.note (restB (ns.drop k))).rests.length ≤ _; omega⟩
            case measure => simp [intOf]; omega
          · have HNX : Hid (xk.name (ns.drop k) short = (xk.label l).name (ns.drop (k + 1)) short) := by
              show _ = _
              have := HLK.out
              rw [HDR.out] at this ⊢
              rw [Wr.name, this]
              unfold Wr.note
              rw [if_neg h16]
            go_wp2_with (first
              | (go_at_call 151; (with_reducible refine (rest_any _ _ _ (ns.drop k) _ hcut (by omega) (fun y hy => by have := (HL.out y hy).2; omega)).mono ?_); rintro e w2 ⟨_, rfl, rfl, hb2⟩; have HW2 := Lib.hid (HW.out.below hb2); have hch2 := hch.nx hb2; obtain ⟨hn2, bv, mb, hgg, hbv, hm, hgF2, hbF, hmF, hFl⟩ := HW.out.below hb2; obtain ⟨Ab, cb, rfl, _⟩ := hbv.form; have HG := Lib.hid hgg; have e0 : w2.cell? ⟨g, 0, none⟩ = some (.slice Ab xk.b.length cb) := (cell_of_row _ _ _ _ _ _ hgg).trans rfl; have e1 : w2.cell? ⟨g, 1, none⟩ = some (.map (some mb)) := (cell_of_row _ _ _ _ _ _ hgg).trans rfl; clear hgg)
              | ((with_reducible show wpList _ _ _ (⟨some 36, _, _, _, _, _⟩ :: _) _ _); refine wpL_look_none hm HLK.out rfl (.tmp 34) (.tmp 35) rfl rfl rfl hkl ?_; intro cc)
              | (go_at_call 101; refine (wnum_any w2 B g Fk xk l.length 1 HW2.out (by omega)).mono ?_; rintro e w4 ⟨rfl, F4, h4, hc4, hF4⟩; rw [put_len l hl2] at h4; have H4 := Lib.hid h4; have hr4 := (conv_rd w4 l).1; have hb4 := (conv_rd w4 l).2; clear h4)
              | (go_at_call 148; refine (wraw_any _ B g F4 _ _ _ _ l (H4.out.below hb4) hr4 (by simp only [Wr.raw, List.length_append, List.length_singleton]; omega)).mono ?_; rintro e w5 ⟨rfl, F5, h5, hc5, hF5⟩))
            go_roundw
            case rel =>
              have hq4 : ∀ z, F4 z → F z ∨ w.heap.size ≤ z := fun z hz => (hF4 z hz).elim (HF.out z) (fun h => .inr (Nat.le_trans hch2.size h))
              have hq5 := (hch2.trans hc4 HF.out).nx hb4
              exact ⟨k + 1, F5, (xk.raw [UInt8.ofNat l.length]).raw l, by go_num, by omega, HN.out.trans (HNX.out.trans (by rw [raw_label])), h5, hq5.trans hc5 hq4, fun z hz => (hF5 z hz).elim (hq4 z) (fun h => .inr (Nat.le_trans hq5.size h)), by simp only [Wr.raw, List.length_append, List.length_singleton]; omega, by show xk.rests.length ≤ _; omega⟩
            case measure => simp [intOf]; omega
        · have HLK := Lib.hid hlk
          have hp : p < 16384 := HW.out.near _ _ hlk
          have hor := or_ptr p hp
          clear hlk
          rcases short with _ | _
          · have HNX : Hid (xk.name (ns.drop k) false = (xk.label l).name (ns.drop (k + 1)) false) := by
              show _ = _
              have := HLK.out
              rw [HDR.out] at this ⊢
              rw [Wr.name, this]
              rfl
            go_wp2_with (first
              | (go_at_call 151; (with_reducible refine (rest_any _ _ _ (ns.drop k) _ hcut (by omega) (fun y hy => by have := (HL.out y hy).2; omega)).mono ?_); rintro e w2 ⟨_, rfl, rfl, hb2⟩; have HW2 := Lib.hid (HW.out.below hb2); have hch2 := hch.nx hb2; obtain ⟨hn2, bv, mb, hgg, hbv, hm, hgF2, hbF, hmF, hFl⟩ := HW.out.below hb2; obtain ⟨Ab, cb, rfl, _⟩ := hbv.form; have HG := Lib.hid hgg; have e0 : w2.cell? ⟨g, 0, none⟩ = some (.slice Ab xk.b.length cb) := (cell_of_row _ _ _ _ _ _ hgg).trans rfl; have e1 : w2.cell? ⟨g, 1, none⟩ = some (.map (some mb)) := (cell_of_row _ _ _ _ _ _ hgg).trans rfl; clear hgg)
              | ((with_reducible show wpList _ _ _ (⟨some 36, _, _, _, _, _⟩ :: _) _ _); refine wpL_look_some hm HLK.out rfl (.tmp 34) (.tmp 35) rfl rfl rfl hkl ?_)
              | (go_at_call 101; refine (wnum_any w2 B g Fk xk l.length 1 HW2.out (by omega)).mono ?_; rintro e w4 ⟨rfl, F4, h4, hc4, hF4⟩; rw [put_len l hl2] at h4; have H4 := Lib.hid h4; have hr4 := (conv_rd w4 l).1; have hb4 := (conv_rd w4 l).2; clear h4)
              | (go_at_call 148; refine (wraw_any _ B g F4 _ _ _ _ l (H4.out.below hb4) hr4 (by simp only [Wr.raw, List.length_append, List.length_singleton]; omega)).mono ?_; rintro e w5 ⟨rfl, F5, h5, hc5, hF5⟩))
            go_roundw
            case rel =>
              have hq4 : ∀ z, F4 z → F z ∨ w.heap.size ≤ z := fun z hz => (hF4 z hz).elim (HF.out z) (fun h => .inr (Nat.le_trans hch2.size h))
              have hq5 := (hch2.trans hc4 HF.out).nx hb4
              exact ⟨k + 1, F5, (xk.raw [UInt8.ofNat l.length]).raw l, by go_num, by omega, HN.out.trans (HNX.out.trans (by rw [raw_label])), h5, hq5.trans hc5 hq4, fun z hz => (hF5 z hz).elim (hq4 z) (fun h => .inr (Nat.le_trans hq5.size h)), by simp only [Wr.raw, List.length_append, List.length_singleton]; omega, by show xk.rests.length ≤ _; omega⟩
            case measure => simp [intOf]; omega
          · have HNX : Hid (xk.name (ns.drop k) true = xk.raw (ptrB p)) := by
              show _ = _
              have := HLK.out
              rw [HDR.out] at this ⊢
              rw [Wr.name, this]
              rfl
            go_wp2_with (first
              | (go_at_call 151; (with_reducible refine (rest_any _ _ _ (ns.drop k) _ hcut (by omega) (fun y hy => by have := (HL.out y hy).2; omega)).mono ?_); rintro e w2 ⟨_, rfl, rfl, hb2⟩; have HW2 := Lib.hid (HW.out.below hb2); have hch2 := hch.nx hb2; obtain ⟨hn2, bv, mb, hgg, hbv, hm, hgF2, hbF, hmF, hFl⟩ := HW.out.below hb2; obtain ⟨Ab, cb, rfl, _⟩ := hbv.form; have HG := Lib.hid hgg; have e0 : w2.cell? ⟨g, 0, none⟩ = some (.slice Ab xk.b.length cb) := (cell_of_row _ _ _ _ _ _ hgg).trans rfl; have e1 : w2.cell? ⟨g, 1, none⟩ = some (.map (some mb)) := (cell_of_row _ _ _ _ _ _ hgg).trans rfl; clear hgg)
              | ((with_reducible show wpList _ _ _ (⟨some 36, _, _, _, _, _⟩ :: _) _ _); refine wpL_look_some hm HLK.out rfl (.tmp 34) (.tmp 35) rfl rfl rfl hkl ?_)
              | (go_at_call 101; refine (wnum_any w2 B g Fk xk (49152 + (p : Int)) 2 HW2.out (by omega)).mono ?_; rintro e w4 ⟨rfl, F4, h4, hc4, hF4⟩; rw [put_ptr p hp] at h4; have H4 := Lib.hid h4; clear h4))
            go_ret
            refine ⟨rfl, F4, ?_, hch2.trans hc4 HF.out, fun z hz => (hF4 z hz).elim (HF.out z) (fun h => .inr (Nat.le_trans hch2.size h))⟩
            rw [HN.out, HNX.out]
            exact H4.out
      · obtain rfl : k = ns.length := by omega
        have hdn : ns.drop ns.length = [] := List.drop_length
        have HDN := Lib.hid hdn
        have hbl : xk.b.length ≤ 100000000 := by have := sizeN_length (ns.drop ns.length); omega
        clear hdn
        go_wp2_with (go_at_call 101; refine (wnum_any _ B g Fk xk 0 1 HW.out hbl).mono ?_; rintro e w3 ⟨rfl, F3, h3, hc3, hF3⟩)
        go_ret
        refine ⟨rfl, F3, ?_, hch.trans hc3 HF.out, fun z hz => (hF3 z hz).elim (HF.out z) (fun h => .inr (Nat.le_trans hch.size h))⟩
        rw [HN.out, HDN.out]
        rw [put_zero] at h3
        exact h3
  · have hs' : soundB ns = false := by simpa using hs
    have hr : nameR ns = 5 := by unfold nameR; rw [if_neg hs]
    have hx : x.nameS ns short = x := by unfold Wr.nameS; rw [if_neg hs]
    rw [hr, hx]
    clear hr hx hs
    go_enter Try.func103, Try.ntmps103
    go_wp2_with (go_at_call 61; refine (sound_any A ns.length c ns _ hE hn).mono ?_; rw [hs']; rintro e w1 ⟨rfl, rfl⟩)
    go_ret
    exact ⟨rfl, F, H.out, Chg.refl _ _, fun z hz => .inl hz⟩
end Go.Proofs.Ytimkdpkhdbiniaa

/- wname: what is written is read. No program in it. -/
namespace Go.Proofs.Ytimkdpkhdbiniaa

/-- A name stands at a place: what is behind it, and its labels. -/
inductive Stands (b : List UInt8) : Nat → Nat → Nat → List (List UInt8) → Prop
  | fin {beg p : Nat} (h : b[p]? = some 0) : Stands b beg p (p + 1) []
  | lab {beg p next : Nat} {l : List UInt8} {ls : List (List UInt8)} (c : UInt8) (h : b[p]? = some c) (h1 : 1 ≤ l.length) (h2 : l.length ≤ 63) (hc : c.toNat = l.length) (hl : (b.drop (p + 1)).take l.length = l) (hs : Stands b beg (p + 1 + l.length) next ls) : Stands b beg p next (l :: ls)
  | ptr {beg p q next : Nat} {ls : List (List UInt8)} (c d : UInt8) (h : b[p]? = some c) (hd : b[p + 1]? = some d) (hc : 192 ≤ c.toNat) (hq : (c.toNat * 256 + d.toNat) % 16384 = q) (hb : q < beg) (hn : next ≤ p + 2) (hs : Stands b q q next ls) : Stands b beg p (p + 2) ls

theorem Stands.lt {b : List UInt8} {beg p next : Nat} {ls : List (List UInt8)} (h : Stands b beg p next ls) : p < b.length := by
  cases h with
  | fin h => exact (List.getElem?_eq_some_iff.1 h).1
  | lab c h => exact (List.getElem?_eq_some_iff.1 h).1
  | ptr c d h => exact (List.getElem?_eq_some_iff.1 h).1

theorem get_ext {b : List UInt8} (y : List UInt8) {p : Nat} {c : UInt8} (h : b[p]? = some c) : (b ++ y)[p]? = some c := by
  rw [List.getElem?_append_left (List.getElem?_eq_some_iff.1 h).1, h]
theorem cut_ext {b l : List UInt8} (y : List UInt8) {p : Nat} (h1 : 1 ≤ l.length) (h : (b.drop p).take l.length = l) : ((b ++ y).drop p).take l.length = l := by
  have e := congrArg List.length h
  rw [List.length_take, List.length_drop] at e
  rw [List.drop_append_of_le_length (by omega), List.take_append_of_le_length (by rw [List.length_drop]; omega), h]
theorem Stands.ext {b : List UInt8} {beg p next : Nat} {ls : List (List UInt8)} (h : Stands b beg p next ls) (y : List UInt8) : Stands (b ++ y) beg p next ls := by
  induction h with
  | fin h => exact .fin (get_ext y h)
  | lab c h h1 h2 hc hl _ ih => exact .lab c (get_ext y h) h1 h2 hc (cut_ext y h1 hl) ih
  | ptr c d h hd hc hq hb hn _ ih => exact .ptr c d (get_ext y h) (get_ext y hd) hc hq hb hn ih
theorem Stands.beg_le {b : List UInt8} {beg beg' p next : Nat} {ls : List (List UInt8)} (h : Stands b beg p next ls) (hb : beg ≤ beg') : Stands b beg' p next ls := by
  induction h with
  | fin h => exact .fin h
  | lab c h h1 h2 hc hl _ ih => exact .lab c h h1 h2 hc hl (ih hb)
  | ptr c d h hd hc hq hb' hn hs => exact .ptr c d h hd hc hq (by omega) hn hs
theorem Stands.read {b : List UInt8} {beg p next : Nat} {ls : List (List UInt8)} (h : Stands b beg p next ls) : ∀ (nx : Nat) (acc : List (List UInt8)), sizeN (acc ++ ls) ≤ 255 → getP b p beg nx acc = (acc ++ ls, ((max nx next : Nat) : Int), 0) := by
  induction h with
  | fin h =>
    intro nx acc _
    rw [getP_end h rfl, List.append_nil]
  | @lab beg p next l ls c h h1 h2 hc hl hs ih =>
    intro nx acc hz
    have hlen := congrArg List.length hl
    rw [List.length_take, List.length_drop] at hlen
    have e : acc ++ l :: ls = (acc ++ [l]) ++ ls := by simp
    have e1 := sizeN_snoc acc l
    have e2 := sizeN_append (acc ++ [l]) ls
    have e3 := sizeN_length ls
    rw [e] at hz
    rw [getP_label h (by omega) (by omega) (by omega) (by omega), hc, hl, ih nx (acc ++ [l]) hz, ← e]
  | ptr c d h hd hc hq hb hn hs ih =>
    intro nx acc hz
    rw [getP_ptr h hc hd (by omega), hq, ih _ acc hz]
    congr 2
    omega

theorem ptr_bytes (p : Nat) (hp : p < 16384) : ((UInt8.ofNat (192 + p / 256)).toNat * 256 + (UInt8.ofNat (p % 256)).toNat) % 16384 = p ∧ 192 ≤ (UInt8.ofNat (192 + p / 256)).toNat := by
  simp only [UInt8.toNat_ofNat']
  omega
theorem restB_ne {l : List UInt8} {n : List (List UInt8)} (i : Nat) : restB (l :: n) ≠ restB (n.drop i) := by
  intro h
  have e := congrArg List.length h
  have h1 := restB_length (l :: n)
  have h2 := restB_length (n.drop i)
  have h3 := sizeN_append (n.take i) (n.drop i)
  rw [List.take_append_drop] at h3
  have h4 := sizeN_length (n.take i)
  simp only [sizeN] at h1
  omega

theorem lab_first {x : Wr} {l y : List UInt8} (hl : l.length ≤ 63) : ((x.label l).b ++ y)[x.b.length]? = some (UInt8.ofNat l.length) ∧ (UInt8.ofNat l.length).toNat = l.length ∧ (((x.label l).b ++ y).drop (x.b.length + 1)).take l.length = l ∧ (x.label l).b.length = x.b.length + 1 + l.length := by
  refine ⟨?_, by simp only [UInt8.toNat_ofNat']; omega, ?_, by simp [Wr.label, Wr.raw]; omega⟩
  · simp [Wr.label, Wr.raw]
  · have e : (x.label l).b ++ y = (x.b ++ [UInt8.ofNat l.length]) ++ (l ++ y) := by simp [Wr.label, Wr.raw]
    rw [e, List.drop_left' (by simp), List.take_left' rfl]
theorem label_note_b (x : Wr) (r l : List UInt8) : ((x.note r).label l).b = (x.label l).b := by simp [Wr.label, Wr.raw, Wr.note_b]

theorem Wr.name_stands (n : List (List UInt8)) (short : Bool) : ∀ (x : Wr) (beg : Nat), (∀ l ∈ n, 1 ≤ l.length ∧ l.length ≤ 63) → beg ≤ x.b.length →
    (∀ i, i < n.length → ∀ p, lookR x.rests (restB (n.drop i)) = some p → p < beg ∧ p < 16384 ∧ ∃ nx, nx ≤ beg ∧ Stands x.b p p nx (n.drop i)) →
    Stands (x.name n short).b beg x.b.length (x.name n short).b.length n ∧ ∀ r p, lookR (x.name n short).rests r = some p → lookR x.rests r = some p ∨ (p < 16384 ∧ ∃ i, i < n.length ∧ r = restB (n.drop i) ∧ Stands (x.name n short).b p p (x.name n short).b.length (n.drop i)) := by
  induction n with
  | nil =>
    intro x beg _ _ _
    refine ⟨?_, fun r p h => .inl h⟩
    have h : Stands (x.b ++ [0]) beg x.b.length (x.b.length + 1) [] := .fin (by simp)
    simpa [Wr.name, Wr.raw] using h
  | cons l n ih =>
    intro x beg hlab hbeg hold
    obtain ⟨hl1, hl2⟩ := hlab l (List.mem_cons_self ..)
    have hlab' : ∀ m ∈ n, 1 ≤ m.length ∧ m.length ≤ 63 := fun m hm => hlab m (List.mem_cons_of_mem _ hm)
    have h0 := hold 0 (by simp)
    rw [List.drop_zero] at h0
    have step : ∀ x' : Wr, x'.b = (x.label l).b → (∀ r p, lookR x'.rests r = some p → lookR x.rests r = some p ∨ (r = restB (l :: n) ∧ p = x.b.length ∧ p < 16384)) →
        Stands (x'.name n short).b beg x.b.length (x'.name n short).b.length (l :: n) ∧ ∀ r p, lookR (x'.name n short).rests r = some p → lookR x.rests r = some p ∨ (p < 16384 ∧ ∃ i, i < (l :: n).length ∧ r = restB ((l :: n).drop i) ∧ Stands (x'.name n short).b p p (x'.name n short).b.length ((l :: n).drop i)) := by
      intro x' hx' hr'
      have hlen : x'.b.length = x.b.length + 1 + l.length := by rw [hx']; exact (lab_first (x := x) (y := []) hl2).2.2.2
      obtain ⟨hs, hrs⟩ := ih x' beg hlab' (by omega) (fun i hi p hp => by
        rcases hr' _ _ hp with h | ⟨h, _⟩
        · obtain ⟨a1, a2, nx, a3, a4⟩ := hold (i + 1) (by simp; omega) p (by simpa using h)
          refine ⟨a1, a2, nx, a3, ?_⟩
          have := a4.ext (UInt8.ofNat l.length :: l)
          rw [hx']
          simpa [Wr.label, Wr.raw] using this
        · exact absurd h.symm (restB_ne i))
      obtain ⟨y, hy, _⟩ := Wr.name_b (x := x') n short
      obtain ⟨f1, f2, f3, f4⟩ := lab_first (x := x) (y := y) hl2
      have hst : Stands (x'.name n short).b beg x.b.length (x'.name n short).b.length (l :: n) := by
        refine .lab _ ?_ hl1 hl2 f2 ?_ ?_
        · rw [hy, hx']; exact f1
        · rw [hy, hx']; exact f3
        · rw [← hlen]; exact hs
      refine ⟨hst, fun r p hp => ?_⟩
      rcases hrs r p hp with h | ⟨h1, i, h2, h3, h4⟩
      · rcases hr' _ _ h with h | ⟨e1, e2, e3⟩
        · exact .inl h
        · exact .inr ⟨e3, 0, by simp, by simpa using e1, by subst e2; simpa using hst.beg_le hbeg⟩
      · exact .inr ⟨h1, i + 1, by simp; omega, by simpa using h3, by simpa using h4⟩
    unfold Wr.name
    split
    · rename_i p hp
      by_cases hsh : short = true
      · rw [if_pos hsh]
        obtain ⟨a1, a2, nx, a3, a4⟩ := h0 p hp
        obtain ⟨b1, b2⟩ := ptr_bytes p a2
        refine ⟨?_, fun r p h => .inl h⟩
        have h : Stands (x.b ++ ptrB p) beg x.b.length (x.b.length + 2) (l :: n) := .ptr _ _ (by simp [ptrB]) (by simp [ptrB]) b2 b1 a1 (by omega) (a4.ext _)
        simpa [Wr.raw, ptrB] using h
      · rw [if_neg hsh]
        exact step (x.label l) rfl (fun r p h => .inl h)
    · refine step ((x.note (restB (l :: n))).label l) (label_note_b x _ l) (fun r p h => ?_)
      by_cases hl : x.b.length < 16384
      · have e : ((x.note (restB (l :: n))).label l).rests = (restB (l :: n), x.b.length) :: x.rests := by
          unfold Wr.note
          rw [if_pos hl]
          rfl
        rw [e] at h
        simp only [lookR] at h
        split at h
        · rename_i he
          injection h with h
          exact .inr ⟨he.symm, h.symm, by omega⟩
        · exact .inl h
      · have e : ((x.note (restB (l :: n))).label l).rests = x.rests := by
          unfold Wr.note
          rw [if_neg hl]
          rfl
        rw [e] at h
        exact .inl h

/-- What a writer knows of rests is so. -/
def Wr.True (x : Wr) : Prop := ∀ r p, lookR x.rests r = some p → p < 16384 ∧ ∃ ls nx, r = restB ls ∧ (∀ l ∈ ls, 1 ≤ l.length ∧ l.length ≤ 63) ∧ nx ≤ x.b.length ∧ Stands x.b p p nx ls
theorem Wr.true_nil : Wr.nil.True := fun r p h => by cases h
theorem Wr.True.raw {x : Wr} (h : x.True) (bs : List UInt8) : (x.raw bs).True := fun r p hp => by
  obtain ⟨h1, ls, nx, h2, h3, h4, h5⟩ := h r p hp
  exact ⟨h1, ls, nx, h2, h3, by simp [Wr.raw]; omega, h5.ext bs⟩
theorem Wr.True.name {x : Wr} (h : x.True) {n : List (List UInt8)} (hn : ∀ l ∈ n, 1 ≤ l.length ∧ l.length ≤ 63) (short : Bool) :
    (x.name n short).True ∧ Stands (x.name n short).b x.b.length x.b.length (x.name n short).b.length n := by
  obtain ⟨hs, hr⟩ := Wr.name_stands n short x x.b.length hn (Nat.le_refl _) (fun i hi p hp => by
    obtain ⟨h1, ls, nx, h2, h3, h4, h5⟩ := h _ p hp
    have e : n.drop i = ls := restB_inj (fun l hl => by have := (hn l (List.mem_of_mem_drop hl)).2; omega) (fun l hl => by have := (h3 l hl).2; omega) h2
    rw [e]
    exact ⟨h5.lt, h1, nx, h4, h5⟩)
  refine ⟨fun r p hp => ?_, hs⟩
  obtain ⟨y, hy, _⟩ := Wr.name_b (x := x) n short
  rcases hr r p hp with h' | ⟨h1, i, h2, h3, h4⟩
  · obtain ⟨h1, ls, nx, h2, h3, h4, h5⟩ := h r p h'
    exact ⟨h1, ls, nx, h2, h3, by rw [hy, List.length_append]; omega, by rw [hy]; exact h5.ext y⟩
  · exact ⟨h1, n.drop i, _, h3, fun l hl => hn l (List.mem_of_mem_drop hl), Nat.le_refl _, h4⟩
theorem Wr.name_le {x : Wr} (n : List (List UInt8)) (short : Bool) : (x.name n short).b.length ≤ x.b.length + sizeN n := by
  induction n generalizing x with
  | nil => simp [Wr.name, Wr.raw, sizeN]
  | cons l n ih =>
    unfold Wr.name
    have h1 := sizeN_length n
    split
    · split
      · simp only [Wr.raw, ptrB, sizeN, List.length_append, List.length_cons, List.length_nil]; omega
      · have := ih (x := x.label l)
        simp only [Wr.label, Wr.raw, sizeN, List.length_append, List.length_cons] at this ⊢
        omega
    · have := ih (x := (x.note (restB (l :: n))).label l)
      simp only [Wr.label, Wr.raw, Wr.note_b, sizeN, List.length_append, List.length_cons] at this ⊢
      omega
end Go.Proofs.Ytimkdpkhdbiniaa

/- Times, in plain Lean. No program in it. -/
namespace Go.Proofs.Ytimkdpkhdbiniaa
/-- May it be a time? -/
def timeB (t : Int) : Bool := decide (0 ≤ t) && decide (t ≤ 36028797018963968)
end Go.Proofs.Ytimkdpkhdbiniaa

/- ttl.Time. -/
namespace Go.Proofs.Ytimkdpkhdbiniaa
open Go.RowKit
set_option maxRecDepth 100000
set_option linter.unusedVariables false

set_option maxHeartbeats 1000000 in
theorem ttime_any (t : Int) (w : World) : Calls Try.prog 62 #[.int .i64 t] w (Ret (.bool (timeB t)) w) := by
  by_cases h1 : 0 ≤ t
  · by_cases h2 : t ≤ 36028797018963968
    · have hF : timeB t = true := by unfold timeB; simp [h1, h2]
      rw [hF]
      clear hF
      go_enter Try.func62, Try.ntmps62
      go_wp2
      go_ret
      exact ⟨rfl, rfl⟩
    · have hF : timeB t = false := by unfold timeB; simp [h2]
      have h2d : decide (t ≤ 36028797018963968) = false := decide_eq_false h2
      rw [hF]
      clear hF
      go_enter Try.func62, Try.ntmps62
      go_wp2
      go_ret
      exact ⟨rfl, rfl⟩
  · have hF : timeB t = false := by unfold timeB; simp [h1]
    have h1d : decide (0 ≤ t) = false := decide_eq_false h1
    rw [hF]
    clear hF
    go_enter Try.func62, Try.ntmps62
    go_wp2
    go_ret
    exact ⟨rfl, rfl⟩
end Go.Proofs.Ytimkdpkhdbiniaa

/- Entries of the kinds 2 and 3, in plain Lean: their bytes, and that they tell the entry. No program in it. -/
namespace Go.Proofs.Ytimkdpkhdbiniaa

/-- A name that is written whole. -/
theorem Wr.name_whole {x : Wr} (n : List (List UInt8)) : (x.name n false).b = x.b ++ (restB n ++ [0]) := by
  induction n generalizing x with
  | nil => rfl
  | cons l n ih =>
    unfold Wr.name
    split
    · rw [if_neg (by decide), ih]
      simp [Wr.label, Wr.raw, restB]
    · rw [ih]
      simp [Wr.label, Wr.raw, restB, Wr.note_b]
def clkW (a : Int) : Wr := (Wr.nil.raw (putB [] 3 1)).raw (putB [] a 7)
noncomputable def fluW (n : List (List UInt8)) : Wr := (Wr.nil.raw (putB [] 2 1)).nameS n false
theorem clkW_b (a : Int) : (clkW a).b = putB [] 3 1 ++ putB [] a 7 := rfl
theorem fluW_b {n : List (List UInt8)} (h : soundB n = true) : (fluW n).b = putB [] 2 1 ++ (restB n ++ [0]) := by
  unfold fluW Wr.nameS
  rw [if_pos h, Wr.name_whole]
  rfl
theorem time_fits {a : Int} (h : timeB a = true) : fitsB a 7 = true := by
  unfold timeB at h
  simp only [Bool.and_eq_true, decide_eq_true_eq] at h
  unfold fitsB
  apply decide_eq_true
  refine ⟨by decide, by decide, h.1, ?_⟩
  have : (256 : Int) ^ (7 : Int).toNat = 72057594037927936 := by decide
  rw [this]
  omega
theorem flu_len {n : List (List UInt8)} (h : soundB n = true) : (fluW n).b.length = 1 + sizeN n := by
  have h1 := restB_length n
  have h2 : (putB [] 2 1).length = 1 := by decide
  rw [fluW_b h, List.length_append, List.length_append, h2, List.length_singleton]
  omega
theorem flu_le {n : List (List UInt8)} (h : soundB n = true) : (fluW n).b.length ≤ 256 := by
  have h1 := (soundB_iff.1 h).2
  rw [flu_len h]
  omega
end Go.Proofs.Ytimkdpkhdbiniaa

/- What each law's walk ends with. -/
namespace Go.Proofs.Ytimkdpkhdbiniaa
open Go.RowKit

/-- The law returns true, and what was there is as it was. -/
def LawT (w : World) (e : Ending) (w' : World) : Prop := e = .returned (.bool true) ∧ Below w.heap.size w w'
end Go.Proofs.Ytimkdpkhdbiniaa
