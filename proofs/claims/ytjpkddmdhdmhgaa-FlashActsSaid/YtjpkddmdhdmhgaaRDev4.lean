/- The reference's device: Sync. -/
import Derived.Test.YtjpkddmdhdmhgaaRDev3
import Derived.StillTailTactics
namespace Go.Proofs.Ytjpkddmdhdmhgaa
open Go.RowKit

theorem rput_done {w : World} {B s n c : Nat} {k : Int} {S : Nat → Prop} {l : List (Option (List UInt8))} {v : Value} {b : List UInt8} {torn : Bool} (h : OwnE encRS 123 S w B (.slice (some ⟨s, 0, none⟩) n c) l) (hk0 : 0 ≤ k) (hk1 : k < l.length) (hS : ¬ S s) (hR : encRS.R S w [v, .bool torn] (if torn = true then none else some b)) :
    OwnE encRS 123 S ((w.setCell ⟨s, k.toNat * 2, none⟩ v).setCell ⟨s, k.toNat * 2 + 1, none⟩ (.bool torn)) B (.slice (some ⟨s, 0, none⟩) n c) (doneL l k b torn) := by
  have e : (if torn = true then none else some b : Option (List UInt8)).isNone = torn := by cases torn <;> rfl
  have := rput (y := if torn = true then none else some b) h (i := k.toNat) (by omega) hS (v := v) (by rw [e]; exact hR)
  rw [e] at this
  exact this
theorem encRS_at {w : World} {S : Nat → Prop} {gd c : Nat} {b : List UInt8} (h : OwnB w 0 (.slice (some ⟨gd, 0, none⟩) 512 c) b) (hS : S gd) : encRS.R S w [.slice (some ⟨gd, 0, none⟩) 512 c, .bool false] (if false = true then none else some b) :=
  ⟨gd, c, b, rfl, hS, h, h.rd.2.symm, fun y e => by injection e with e; exact e.symm⟩

set_option maxRecDepth 100000 in
set_option maxHeartbeats 1000000 in
theorem rsync_any (w : World) (B g : Nat) (F : Nat → Prop) (d : Dv) (h : RDev w B F g d) (hun : d.unsure.length ≤ 1000000) :
    Calls Try.prog 29 #[.pointer (some ⟨g, 0, none⟩)] w (fun e w' => e = .returned (.int .i64 d.sync.2) ∧ RDev w' B F g d.sync.1 ∧ Chg F w w') := by
  have H := Lib.hid h
  obtain ⟨_, _, _, _, hgg, _⟩ := h
  have c3 : w.cell? ⟨g, 3, none⟩ = some (.bool d.down) := (cell_of_row _ _ _ _ _ _ hgg).trans rfl
  clear hgg
  by_cases hd : d.down = true
  · have hw : d.sync = (d, 8) := by unfold Dv.sync; rw [if_pos hd]
    rw [hw]
    rw [hd] at c3
    clear hd hw
    go_enter Try.func29, Try.ntmps29
    go_wp2
    go_ret
    exact ⟨rfl, H.out, Chg.refl _ _⟩
  · have hd' : d.down = false := by simpa using hd
    rw [hd'] at c3
    have HD := Lib.hid hd'
    by_cases hst : d.stays = true
    · have hw : Hid (d.sync = ({ d.spent with sure := syncL d.unsure d.sure, unsure := [] }, 0)) := by show _ = _; unfold Dv.sync; rw [if_neg hd, if_pos hst]
      have hu2 : d.spent.unsure = d.unsure := Dv.spent_unsure
      have hs2 : d.spent.sure = d.sure := Dv.spent_sure
      have HF := Lib.hid H.out.fine.unsure
      have hsz := H.out.fine.size
      clear hd hd'
      go_enter Try.func29, Try.ntmps29
      go_wp2_with (go_at_call 73; refine (rspend_any _ _ _ _ _ H.out HD.out).mono ?_; rw [hst]; rintro e w1 ⟨rfl, hd1, hc1⟩; obtain ⟨hf1, sv, uv, S, hgg, hs1, hu1, hgF, hs1F, hu1F, hSF, hFl⟩ := hd1; rw [hu2] at hu1; rw [hs2] at hs1; obtain ⟨Au, cu, rfl, _, hucl, hucm⟩ := hu1.form; have HG := Lib.hid hgg; have hgl : g < w1.heap.size := (hFl g hgF.1).2; have c1 : w1.cell? ⟨g, 1, none⟩ = some _ := (cell_of_row _ _ _ _ _ _ hgg).trans rfl; clear hgg hst hu2 hs2)
      go_loopw [3] (fun iv wr => ∃ k : Nat, iv = .int .i64 k ∧ k ≤ d.unsure.length ∧ OwnE encRS 123 S wr B sv (syncL (d.unsure.take k) d.sure) ∧ Chg (fun x => sv.ownBlock = some x) w1 wr) (fun iv _ => d.unsure.length - (intOf iv).toNat)
      case atStart => exact ⟨0, rfl, Nat.zero_le _, hs1, Chg.refl _ _⟩
      case round =>
        obtain ⟨k, rfl, hk, hown, hch⟩ := hrel
        by_cases hlt : k < d.unsure.length
        · obtain ⟨x, hx⟩ : ∃ x, d.unsure[k]? = some x := ⟨_, List.getElem?_eq_getElem hlt⟩
          obtain ⟨p, b⟩ := x
          obtain ⟨hp0, hp1, hbl⟩ := HF.out (p, b) (List.mem_of_getElem? hx)
          have huw := hu1.chg hch (fun x hx hx2 => (hu1F x hx).2.2 hx2) (fun x hx hx2 => (hs1.S_lt x hx).2 hx2.symm)
          obtain ⟨u, c, gd, cd, e, hul, _, e0, e1, hob, hcd, hAS⟩ := unsure_own huw hx hbl
          injection e with ea eb ec
          subst ea
          have hst1 := syncL_take (s := d.sure) hx
          have HX := Lib.hid hst1
          have hcl := syncL_length (d.unsure.take k) d.sure
          have hpk : p < (syncL (d.unsure.take k) d.sure).length := by rw [hcl]; exact hp1
          obtain ⟨x0, hx0⟩ : ∃ x, (syncL (d.unsure.take k) d.sure)[p.toNat]? = some x := ⟨_, List.getElem?_eq_getElem (by omega)⟩
          obtain ⟨s, cs, _, _, _, esv, _, hsb, f0, f1, _⟩ := rsure_at hown hx0
          rw [hcl] at esv
          subst esv
          have hgw := hch.heap HG.out (fun e => (hs1F g e).2 rfl)
          have c0w : wr.cell? ⟨g, 0, none⟩ = some (.slice (some ⟨s, 0, none⟩) d.sure.length cs) := (cell_of_row _ _ _ _ _ _ hgw).trans rfl
          have c1w : wr.cell? ⟨g, 1, none⟩ = some _ := (cell_of_row _ _ _ _ _ _ hgw).trans rfl
          obtain ⟨_, _, cur, ee, _, _, hcur, _, _⟩ := hown.row (by omega)
          injection ee with ee _ _
          injection ee with ee
          injection ee with ee
          subst ee
          have fs : ∀ j, wr.frozen? ⟨s, j, none⟩ = false := fun j => frozen_of_row _ _ _ _ _ hcur
          have hnS : ¬ S s := fun h => (hown.S_lt s h).2 rfl
          have HOB := Lib.hid hob
          clear hx hst1 hbl eb ec hcl hx0 hgw hcur
          go_upto_region 6 with (fail)
          go_still_tail 22, (by kernel_rfl)
          change wpList _ _ _ _ _ wr.drew
          go_wp2
          have hnew := (rput_done hown hp0 hpk hnS (encRS_at HOB.out hAS)).below bl.drew
          have hcn : Chg (fun x => (Value.slice (some ⟨s, 0, none⟩) d.sure.length cs).ownBlock = some x) w1 _ := ((hch.setCell (p := ⟨s, p.toNat * 2, none⟩) (Or.inl rfl) (.slice (some ⟨gd, 0, none⟩) 512 cd)).setCell (p := ⟨s, p.toNat * 2 + 1, none⟩) (Or.inl rfl) (.bool false)).drew
          go_roundw
          case rel => exact ⟨k + 1, by go_num, by omega, by rw [HX.out]; exact hnew, hcn⟩
          case measure => simp [intOf]; omega
        · obtain rfl : k = d.unsure.length := by omega
          have hgw := hch.heap HG.out (fun e => (hs1F g e).2 rfl)
          have c1w : wr.cell? ⟨g, 1, none⟩ = some _ := (cell_of_row _ _ _ _ _ _ hgw).trans rfl
          have f1w : ∀ j, wr.frozen? ⟨g, j, none⟩ = false := fun j => frozen_of_row _ _ _ _ _ hgw
          have HGW := Lib.hid hgw
          rw [List.take_length] at hown
          clear hgw
          go_wp2
          go_ret
          rw [hw.out]
          have hcF : Chg F w wr := (hc1.mono (fun x hx => by subst hx; exact .inl hgF.1)).trans hch (fun x hx => .inl (hs1F x hx).1)
          refine ⟨rfl, RDev.own_cells (w := wr) (sv := sv) (S := S) ?_ ((heap_setCell_same _ _ _ _ _ _ HGW.out).trans rfl) (chg_g1 wr g 1 _) hown ((OwnE.nil encW 69 wr B).widen (fun b hb => hb.elim) (fun b hb => ⟨(hown.S_lt b hb).1, by simp [Value.ownBlock]⟩)) hgF hs1F (fun x hx => by simp [Value.ownBlock] at hx) hSF (fun x hx => ⟨(hFl x hx).1, Nat.lt_of_lt_of_le (hFl x hx).2 hch.size⟩), hcF.setCell (p := ⟨g, 1, none⟩) (Or.inl hgF.1) _⟩
          have := H.out.fine.sync
          rw [hw.out] at this
          exact this
    · have hw : d.sync = (d.spent, 8) := by unfold Dv.sync; rw [if_neg hd, if_neg hst]
      rw [hw]
      have hst' : d.stays = false := by simpa using hst
      clear hst hd hd' hw
      go_enter Try.func29, Try.ntmps29
      go_wp2_with (go_at_call 73; refine (rspend_any _ _ _ _ _ H.out HD.out).mono ?_; rw [hst']; rintro e w1 ⟨rfl, hd1, hc1⟩; have HD1 := Lib.hid hd1; clear hd1 hst')
      go_ret
      exact ⟨rfl, HD1.out, hc1.mono (fun x hx => by subst hx; exact .inl H.out.g_F.1)⟩
end Go.Proofs.Ytjpkddmdhdmhgaa
