/- The reference's device: Write. -/
import Derived.Test.YtjpkddmdhdmhgaaRDev2
namespace Go.Proofs.Ytjpkddmdhdmhgaa
open Go.RowKit

/-- One write more that is not sure. -/
theorem RDev.noted {w w4 w5 : World} {B g : Nat} {F S S' : Nat → Prop} {d : Dv} {sv uv v5 : Value} {y : Int × List UInt8} (hg : w.heap[g]? = some (.cells #[sv, uv, .int .i64 d.limit, .bool d.down] 62 (0, 0))) (hs : OwnE encRS 123 S w B sv d.sure) (hu : OwnE encW 69 S w B uv d.unsure)
    (hg1 : F g ∧ B ≤ g) (hs1 : ∀ k, sv.ownBlock = some k → F k ∧ k ≠ g) (hu1 : ∀ k, uv.ownBlock = some k → F k ∧ k ≠ g ∧ sv.ownBlock ≠ some k) (hS : ∀ k, S k → F k ∧ k ≠ g) (hF : ∀ k, F k → B ≤ k ∧ k < w.heap.size)
    (hf : Dv.Fine { d with unsure := d.unsure ++ [y] }) (hb4 : Below w.heap.size w w4) (hown5 : OwnE encW 69 (orS S S') w5 B v5 (d.unsure ++ [y])) (hg5 : w4.grownBy w5 uv.ownBlock) (hv5 : v5.ownBlock = uv.ownBlock ∨ v5.ownBlock = some (w4.heap.size + 1)) (hS' : ∀ b, S' b → w.heap.size ≤ b ∧ b < w4.heap.size) :
    RDev (w5.setCell ⟨g, 1, none⟩ v5) B (fun k => F k ∨ (w.heap.size ≤ k ∧ k < w5.heap.size)) g { d with unsure := d.unsure ++ [y] } ∧ Chg F w (w5.setCell ⟨g, 1, none⟩ v5) := by
  have hgl := (hF g hg1.1).2
  have hc5 : Chg (fun b => uv.ownBlock = some b) w w5 := (Chg.of_below hb4).grown hg5 (fun k hk => .inl hk)
  have hgw := hc5.heap hg (fun e => (hu1 g e).2.1 rfl)
  have hz4 := hb4.size
  have hz5 := hg5.size
  have hSl : ∀ k, S k → k < w.heap.size := fun k hk => (hF k (hS k hk).1).2
  have hs5 := (hs.chg hc5 (fun k hk e => (hu1 k e).2.2 hk) (fun b hb e => (hu.S_lt b hb).2 e.symm))
  refine ⟨RDev.own_cells (w := w5) (sv := sv) (uv := v5) (S := orS S S') hf ((heap_setCell_same _ _ _ _ _ _ hgw).trans rfl) (chg_g1 w5 g 1 _) (hs5.widen (fun b hb => .inl hb) (fun b hb => ?_)) hown5 ⟨.inl hg1.1, hg1.2⟩ (fun k hk => ⟨.inl (hs1 k hk).1, (hs1 k hk).2⟩) (fun k hk => ?_) (fun k hk => ?_) (fun k hk => ?_), (hc5.mono (G := F) (fun k hk => .inl (hu1 k hk).1)).setCell (p := ⟨g, 1, none⟩) (Or.inl hg1.1) _⟩
  · rcases hb with hb | hb
    · exact ⟨by have := hSl b hb; omega, (hs5.S_lt b hb).2⟩
    · have h1 := hS' b hb
      exact ⟨by omega, fun e => by have := (hs.lt b e.symm).2; omega⟩
  · have hl := (hown5.lt k hk).2
    rcases hv5 with e | e
    · rw [e] at hk
      exact ⟨.inl (hu1 k hk).1, (hu1 k hk).2⟩
    · rw [e] at hk
      injection hk with hk
      exact ⟨.inr ⟨by omega, hl⟩, by omega, fun e2 => by have := (hs.lt k e2).2; omega⟩
  · rcases hk with hk | hk
    · exact ⟨.inl (hS k hk).1, (hS k hk).2⟩
    · have h1 := hS' k hk
      exact ⟨.inr ⟨h1.1, by omega⟩, by omega⟩
  · rcases hk with hk | hk
    · exact ⟨(hF k hk).1, by have := (hF k hk).2; omega⟩
    · exact ⟨by omega, hk.2⟩

theorem rdB_chg0 {F : Nat → Prop} {w w' : World} {A : Option Addr} {n : Nat} {bs : List UInt8} (h : RdB w A n bs) (hc : Chg F w w') (hF : ∀ b off, 0 < n → A = some ⟨b, off, none⟩ → ¬ F b) : RdB w' A n bs := by
  by_cases hn : n = 0
  · exact ⟨h.1, fun h0 => by have := h.len; simp at h0; omega⟩
  · exact h.chg hc (fun b off e => hF b off (by omega) e)
theorem padK_zero {bs : List UInt8} : zero512 = bs.take 0 ++ zero512.drop 0 := rfl
theorem padK_succ {bs : List UInt8} {k : Nat} {x : UInt8} (hx : bs[k]? = some x) (hk : k < 512) : (bs.take k ++ zero512.drop k).set k x = bs.take (k + 1) ++ zero512.drop (k + 1) := by
  have hkl : k < bs.length := (List.getElem?_eq_some_iff.1 hx).1
  rw [List.set_append_right _ _ (by rw [List.length_take]; omega), List.length_take, Nat.min_eq_left (by omega), Nat.sub_self, List.drop_eq_getElem_cons (by rw [zero512_len]; exact hk), List.set_cons_zero, List.take_add_one, hx]
  simp
theorem padK_len {bs : List UInt8} {k : Nat} (hk : k ≤ bs.length) (hk2 : k ≤ 512) : (bs.take k ++ zero512.drop k).length = 512 := by
  rw [List.length_append, List.length_take, List.length_drop, zero512_len]; omega

set_option maxRecDepth 100000 in
set_option maxHeartbeats 1000000 in
theorem rwrite_any (w : World) (B g : Nat) (F : Nat → Prop) (d : Dv) (k : Int) (A : Option Addr) (n c : Nat) (bs : List UInt8) (h : RDev w B F g d) (hb : RdB w A n bs) (hA : ∀ b off, 0 < n → A = some ⟨b, off, none⟩ → b ≠ g) (hu : d.unsure.length ≤ 1000000) (hn : n ≤ 9223372036854775807) :
    Calls Try.prog 28 #[.pointer (some ⟨g, 0, none⟩), .int .i64 k, .slice A n c] w (fun e w' => e = .returned (.int .i64 (d.write k bs).2) ∧ ∃ F', RDev w' B F' g (d.write k bs).1 ∧ Chg F w w' ∧ ∀ x, F' x → F x ∨ w.heap.size ≤ x) := by
  have hlb := hb.len
  subst hlb
  have hF0 : ∀ x, F x → F x ∨ w.heap.size ≤ x := fun x hx => .inl hx
  have H := Lib.hid h
  have hsz := h.fine.size
  obtain ⟨hf1, sv, uv, S, hgg, hs1, hu1, hgF, hs1F, hu1F, hSF, hFl⟩ := h
  obtain ⟨As, cs, rfl, _, hscl, hscm⟩ := hs1.form
  have c0 : w.cell? ⟨g, 0, none⟩ = some (.slice As d.sure.length cs) := (cell_of_row _ _ _ _ _ _ hgg).trans rfl
  have c3 : w.cell? ⟨g, 3, none⟩ = some (.bool d.down) := (cell_of_row _ _ _ _ _ _ hgg).trans rfl
  clear hgg hs1 hu1 hgF hs1F hu1F hSF hFl hf1
  rcases d.chk_cases k with ⟨h1, h2⟩ | ⟨h1, h3, h2⟩ | ⟨h1, h3, h4, h2⟩
  · have hw : d.write k bs = (d, 8) := by unfold Dv.write; rw [h2, if_neg (by decide)]
    rw [hw]
    rw [h1] at c3
    clear hw h1 h2
    go_enter Try.func28, Try.ntmps28
    go_wp2
    go_ret
    exact ⟨rfl, F, H.out, Chg.refl _ _, hF0⟩
  · have hw : d.write k bs = (d, 1) := by unfold Dv.write; rw [h2, if_neg (by decide)]
    rw [hw]
    rw [h1] at c3
    clear hw h1 h2
    by_cases h0 : k < 0
    · clear h3
      go_enter Try.func28, Try.ntmps28
      go_wp2
      go_ret
      exact ⟨rfl, F, H.out, Chg.refl _ _, hF0⟩
    · have h5 : (d.sure.length : Int) ≤ k := by omega
      clear h3
      go_enter Try.func28, Try.ntmps28
      go_wp2
      go_ret
      exact ⟨rfl, F, H.out, Chg.refl _ _, hF0⟩
  · have h1' := Lib.hid h1
    rw [h1] at c3
    by_cases hl : 512 < bs.length
    · have hw : d.write k bs = (d, 1) := by unfold Dv.write; rw [h2, if_pos rfl, if_pos hl]
      rw [hw]
      clear hw h1 h2
      have hl2 : (512 : Int) < bs.length := by omega
      go_enter Try.func28, Try.ntmps28
      go_wp2
      go_ret
      exact ⟨rfl, F, H.out, Chg.refl _ _, hF0⟩
    · by_cases hst : d.stays = true
      · have hw : Hid (d.write k bs = ({ d.spent with unsure := d.unsure ++ [(k, pad bs)] }, 0)) := by show _ = _; unfold Dv.write; rw [h2, if_pos rfl, if_neg hl, if_pos hst]
        have HST := Lib.hid hst
        have HB := Lib.hid hb
        clear h1 h2 hst hb
        have hl2 : (bs.length : Int) ≤ 512 := by omega
        go_enter Try.func28, Try.ntmps28
        go_wp2_with (first
          | (go_at_call 26; refine (rzero_any _).mono ?_; rintro e w2 ⟨g2, rfl, hown2, hb2⟩; have HO2 := Lib.hid hown2; clear hown2)
          | (go_at_call 73; refine (rspend_any _ _ _ _ _ H.out h1'.out).mono ?_; rw [HST.out]; rintro e w1 ⟨rfl, hd1, hc1⟩; have HD1 := Lib.hid hd1; clear hd1)
          | fail)
        have hww : w.heap.size ≤ w1.heap.size := hc1.size
        have HRB := Lib.hid (rdB_chg0 HB.out hc1 (fun b off h0 e => hA b off h0 e))
        go_loopw [8] (fun iv wr => ∃ j : Nat, iv = .int .i64 j ∧ j ≤ bs.length ∧ Hid (OwnB wr w1.heap.size (.slice (some ⟨g2, 0, none⟩) 512 512) (bs.take j ++ zero512.drop j)) ∧ Below w1.heap.size w1 wr) (fun iv _ => bs.length - (intOf iv).toNat)
        case atStart => exact ⟨0, rfl, Nat.zero_le _, HO2, hb2⟩
        case round =>
          obtain ⟨j, rfl, hj, HO, hbw⟩ := hrel
          clear HO2 hb2
          by_cases hlt : j < bs.length
          · obtain ⟨x, hx⟩ : ∃ x, bs[j]? = some x := ⟨_, List.getElem?_eq_getElem hlt⟩
            have hrw := HRB.out.below hbw
            obtain ⟨b, off, y, rfl, hy, hc⟩ := hrw.at_ hlt
            rw [hx] at hy
            injection hy with hy
            subst hy
            have hpl := padK_len (bs := bs) (k := j) (by omega) (by omega)
            have hcx := HO.out.cell (k := j) (by rw [hpl]; omega)
            have hfx := HO.out.free
            have HS := Lib.hid (HO.out.set j x)
            have HP := Lib.hid (padK_succ hx (by omega))
            have hg2 := HO.out.lt
            clear hx hrw
            go_wp2
            go_roundw
            case rel => exact ⟨j + 1, by go_num, by omega, by rw [← HP.out]; exact HS.out, hbw.setCell hg2.1 _⟩
            case measure => simp [intOf]; omega
          · have hje : j = bs.length := by omega
            subst hje
            have hpd : bs.take bs.length ++ zero512.drop bs.length = pad bs := by rw [List.take_length]; exact pad_eq
            have HO3 : Hid (OwnB wr w1.heap.size (.slice (some ⟨g2, 0, none⟩) 512 512) (pad bs)) := by have := HO.out; rw [hpd] at this; exact this
            clear HO hpd
            obtain ⟨hf2, sv, uv, S, hgg, hs1, hu1, hgF, hs1F, hu1F, hSF, hFl⟩ := HD1.out
            have hgl : g < w1.heap.size := (hFl g hgF.1).2
            obtain ⟨Au, cu, rfl, _, hucl, hucm⟩ := hu1.form
            have c1 : wr.cell? ⟨g, 1, none⟩ = some _ := below_cell hbw ((cell_of_row _ _ _ _ _ _ hgg).trans rfl)
            have hgl2 := Nat.lt_of_lt_of_le hgl hbw.size
            have HG := Lib.hid hgg
            have hus : d.spent.unsure.length ≤ 1000000 := by rw [Dv.spent_unsure]; exact hu
            have hg2 := HO3.out.lt
            clear hgg
            go_wp2_with ((with_reducible show wpList _ _ _ (⟨some 55, _, _, _, _, _⟩ :: _) _ _); refine wpL_pushE elW rfl (.tmp 50) (.tmp 54) rfl B (.slice Au d.spent.unsure.length cu) d.spent.unsure rfl (hu1.below hbw) [.int .i64 k, .slice (some ⟨g2, 0, none⟩) 512 512] (k, pad bs) (S' := fun b => b = g2) (encW_own HO3.out) (fun b hb => ⟨by rw [hb]; exact hg2.2, fun e => by have := (hu1.lt b e.symm).2; omega⟩) rfl (by omega) (by unfold maxLen; omega) (by have := hbw.size; have := hgF.2; omega) ?_; intro v3 w3 hown3 hg3 hv3; obtain ⟨A3, c3, rfl, _⟩ := hown3.form; have hgw3 := (hg3.block g hgl2 (fun e => (hu1F g e.symm).2.1 rfl)).trans ((hbw.block g hgl).trans HG.out); have f3 : ∀ k, w3.frozen? ⟨g, k, none⟩ = false := fun k => frozen_of_row _ _ _ _ _ hgw3; have c13 := (cell_of_row _ _ 1 _ _ _ hgw3).trans rfl)
            go_ret
            have hfw := H.out.fine.write k bs
            rw [hw.out] at hfw ⊢
            have hn := RDev.noted HG.out hs1 hu1 hgF hs1F hu1F hSF hFl (y := (k, pad bs)) (by rw [Dv.spent_unsure]; exact hfw) hbw hown3 hg3 hv3 (fun b hb => by subst hb; exact hg2)
            rw [show (d.spent.unsure ++ [(k, pad bs)]).length = d.spent.unsure.length + 1 by simp, Dv.spent_unsure] at hn
            rw [Dv.spent_unsure]
            exact ⟨rfl, _, hn.1, (hc1.mono (G := F) (fun x hx => by subst hx; exact .inl hgF.1)).trans hn.2 (fun x hx => .inl hx), fun x hx => hx.imp id (fun h => by omega)⟩
      · have hw : d.write k bs = (d.spent, 8) := by unfold Dv.write; rw [h2, if_pos rfl, if_neg hl, if_neg hst]
        rw [hw]
        have hst' : d.stays = false := by simpa using hst
        have HST := Lib.hid hst'
        clear h1 h2 hst hst' hw
        have hl2 : (bs.length : Int) ≤ 512 := by omega
        go_enter Try.func28, Try.ntmps28
        go_wp2_with (go_at_call 73; refine (rspend_any _ _ _ _ _ H.out h1'.out).mono ?_; rw [HST.out]; rintro e w1 ⟨rfl, hd1, hc1⟩; have HD1 := Lib.hid hd1; clear hd1)
        go_ret
        exact ⟨rfl, F, HD1.out, hc1.mono (fun x hx => by subst hx; exact .inl H.out.g_F.1), hF0⟩
end Go.Proofs.Ytjpkddmdhdmhgaa
