/- flash: Sync. -/
import Derived.Test.YtbjaphldncagjaaFlash3
namespace Go.Proofs.Ytbjaphldncagjaa
open Go.RowKit

/-- A write that is not sure, in its row. -/
theorem unsure_own {w : World} {B : Nat} {S : Nat → Prop} {uv : Value} {l : List (Int × List UInt8)} (h : OwnE encW 131 S w B uv l) {i : Nat} {p : Int} {b : List UInt8} (hx : l[i]? = some (p, b)) (hl : b.length = 512) :
    ∃ u c gd cd, uv = .slice (some ⟨u, 0, none⟩) l.length c ∧ u < w.heap.size ∧ uv.ownBlock = some u ∧ w.cell? ⟨u, i * 2, none⟩ = some (.int .i64 p) ∧ w.cell? ⟨u, i * 2 + 1, none⟩ = some (.slice (some ⟨gd, 0, none⟩) 512 cd) ∧ OwnB w 0 (.slice (some ⟨gd, 0, none⟩) 512 cd) b ∧ 512 ≤ cd ∧ S gd := by
  obtain ⟨u, c, rfl, _, hul, _, _, _, hat⟩ := h.flat (Nat.lt_of_le_of_lt (Nat.zero_le i) (List.getElem?_eq_some_iff.1 hx).1)
  obtain ⟨r, ⟨gd, cd, rfl, hs, ho⟩, hc⟩ := hat i (p, b) hx
  have e0 := hc 0 _ rfl
  have e1 := hc 1 _ rfl
  obtain ⟨_, _, e, _, h1, _⟩ := ho.form
  injection e with _ _ e
  subst e
  simp only [hl] at e1 ho h1
  exact ⟨u, c, gd, cd, rfl, hul, rfl, e0, e1, ho, h1, hs⟩
theorem unsure_at {w : World} {B : Nat} {S : Nat → Prop} {uv : Value} {l : List (Int × List UInt8)} (h : OwnE encW 131 S w B uv l) {i : Nat} {p : Int} {b : List UInt8} (hx : l[i]? = some (p, b)) (hl : b.length = 512) :
    ∃ u c A cd, uv = .slice (some ⟨u, 0, none⟩) l.length c ∧ u < w.heap.size ∧ uv.ownBlock = some u ∧ w.cell? ⟨u, i * 2, none⟩ = some (.int .i64 p) ∧ w.cell? ⟨u, i * 2 + 1, none⟩ = some (.slice A 512 cd) ∧ RdB w A 512 b ∧ 512 ≤ cd ∧ ∀ b' off, A = some ⟨b', off, none⟩ → S b' := by
  obtain ⟨u, c, gd, cd, h1, h2, h3, h4, h5, h6, h7, h8⟩ := unsure_own h hx hl
  refine ⟨u, c, _, cd, h1, h2, h3, h4, h5, h6.rd.1, h7, fun b' off e => ?_⟩
  injection e with e
  injection e with e
  rw [← e]
  exact h8

set_option maxRecDepth 100000 in
set_option maxHeartbeats 1000000 in
theorem sync_any (w : World) (B g : Nat) (F : Nat → Prop) (d : Dv) (h : Dev w B F g d) (hun : d.unsure.length ≤ 1000000) :
    Calls Try.prog 75 #[.pointer (some ⟨g, 0, none⟩)] w (fun e w' => e = .returned (.int .i64 d.sync.2) ∧ Dev w' B F g d.sync.1 ∧ Chg F w w') := by
  have H := Lib.hid h
  obtain ⟨_, _, _, _, hgg, _⟩ := h
  have c3 : w.cell? ⟨g, 3, none⟩ = some (.bool d.down) := (cell_of_row _ _ _ _ _ _ hgg).trans rfl
  clear hgg
  by_cases hd : d.down = true
  · have hw : d.sync = (d, 8) := by unfold Dv.sync; rw [if_pos hd]
    rw [hw]
    rw [hd] at c3
    clear hd hw
    go_enter Try.func75, Try.ntmps75
    go_wp2
    go_ret
    exact ⟨rfl, H.out, Chg.refl _ _⟩
  · have hd' : d.down = false := by simpa using hd
    rw [hd'] at c3
    by_cases hst : d.stays = true
    · have hw : Hid (d.sync = ({ d.spent with sure := syncL d.unsure d.sure, unsure := [] }, 0)) := by show _ = _; unfold Dv.sync; rw [if_neg hd, if_pos hst]
      have hu2 : d.spent.unsure = d.unsure := Dv.spent_unsure
      have hs2 : d.spent.sure = d.sure := Dv.spent_sure
      have HF := Lib.hid H.out.fine.unsure
      have hsz := H.out.fine.size
      clear hd hd'
      go_enter Try.func75, Try.ntmps75
      go_wp2_with (go_at_call 122; refine (spend_any _ _ _ _ _ H.out).mono ?_; rw [hst]; rintro e w1 ⟨rfl, hd1, hc1⟩; obtain ⟨hf1, sv, uv, S, hgg, hs1, hu1, hgF, hs1F, hu1F, hSF, hFl⟩ := hd1; rw [hu2] at hu1; rw [hs2] at hs1; obtain ⟨Au, cu, rfl, _, hucl, hucm⟩ := hu1.form; have HG := Lib.hid hgg; have hgl : g < w1.heap.size := (hFl g hgF.1).2; have c1 : w1.cell? ⟨g, 1, none⟩ = some _ := (cell_of_row _ _ _ _ _ _ hgg).trans rfl; clear hgg hst hu2 hs2)
      go_loopw [23] (fun iv wr => ∃ k : Nat, iv = .int .i64 k ∧ k ≤ d.unsure.length ∧ OwnE encSec 177 noS wr B sv (syncL (d.unsure.take k) d.sure) ∧ Chg (fun x => sv.ownBlock = some x) w1 wr) (fun iv _ => d.unsure.length - (intOf iv).toNat)
      case atStart => exact ⟨0, rfl, Nat.zero_le _, hs1, Chg.refl _ _⟩
      case round =>
        obtain ⟨k, rfl, hk, hown, hch⟩ := hrel
        by_cases hlt : k < d.unsure.length
        · obtain ⟨x, hx⟩ : ∃ x, d.unsure[k]? = some x := ⟨_, List.getElem?_eq_getElem hlt⟩
          obtain ⟨p, b⟩ := x
          obtain ⟨hp0, hp1, hbl⟩ := HF.out (p, b) (List.mem_of_getElem? hx)
          have huw := hu1.chg hch (fun x hx hx2 => (hu1F x hx).2.2 hx2) (fun x hx hx2 => (hSF x hx).2.2 hx2)
          obtain ⟨u, c, A, cd, e, hul, _, e0, e1, hrb, hcd, hAS⟩ := unsure_at huw hx hbl
          injection e with ea eb ec
          subst ea
          have hst1 := syncL_take (s := d.sure) hx
          have HX := Lib.hid hst1
          have hg0 : wr.cell? ⟨g, 0, none⟩ = some sv := hch.cell ((cell_of_row _ _ _ _ _ _ HG.out).trans rfl) (fun e => (hs1F g e).2 rfl)
          have hcl := syncL_length (d.unsure.take k) d.sure
          have hpk : p < (syncL (d.unsure.take k) d.sure).length := by rw [hcl]; exact hp1
          have hsz2 : (syncL (d.unsure.take k) d.sure).length ≤ 4096 := by rw [hcl]; exact hsz
          have HB := Lib.hid hbl
          clear hx hst1 hbl eb ec hcl
          have hba := (bl (w := wr)).alloc (Nat.le_refl _) (.cells #[.int .i64 p, .slice A 512 cd] 131)
          go_wp2_with (go_at_call 87; refine (settle_any _ B g sv _ p A cd b false (below_cell hba hg0) (hown.below hba) hp0 hpk hsz2 (hrb.below hba) (fun b' off e => (hSF b' (hAS b' off e)).2.2) (fun e => (hs1F g e).2 rfl)).mono ?_; rintro e w2 ⟨rfl, hown2, hch2⟩)
          go_roundw
          case rel => exact ⟨k + 1, by go_num, by omega, by rw [HX.out]; exact hown2, hch.trans ((Chg.of_below (F := fun x => sv.ownBlock = some x) hba).trans hch2 (fun x hx => .inl hx)) (fun x hx => .inl hx)⟩
          case measure => simp [intOf]; omega
        · obtain rfl : k = d.unsure.length := by omega
          have hgw := hch.heap HG.out (fun e => (hs1F g e).2 rfl)
          have c1w : wr.cell? ⟨g, 1, none⟩ = some _ := (cell_of_row _ _ _ _ _ _ hgw).trans rfl
          have f1w : ∀ j, wr.frozen? ⟨g, j, none⟩ = false := fun j => frozen_of_row _ _ _ _ _ hgw
          have HGW := Lib.hid hgw
          rw [List.take_length] at hown
          clear hgw
          go_wp2
          go_ret
          rw [hw.out]
          have hcF : Chg F w wr := (hc1.mono (fun x hx => by subst hx; exact .inl hgF.1)).trans hch (fun x hx => .inl (hs1F x hx).1)
          refine ⟨rfl, Dev.own_cells (w := wr) (sv := sv) (S := noS) ?_ ((heap_setCell_same _ _ _ _ _ _ HGW.out).trans rfl) (chg_g1 wr g 1 _) hown (OwnE.nil _ _ _ _) hgF hs1F (fun x hx => by simp [Value.ownBlock] at hx) (fun x hx => hx.elim) (fun x hx => ⟨(hFl x hx).1, Nat.lt_of_lt_of_le (hFl x hx).2 hch.size⟩), hcF.setCell (p := ⟨g, 1, none⟩) (Or.inl hgF.1) _⟩
          have := H.out.fine.sync
          rw [hw.out] at this
          exact this
    · have hw : d.sync = (d.spent, 8) := by unfold Dv.sync; rw [if_neg hd, if_neg hst]
      rw [hw]
      have hst' : d.stays = false := by simpa using hst
      clear hst hd hd' hw
      go_enter Try.func75, Try.ntmps75
      go_wp2_with (go_at_call 122; refine (spend_any _ _ _ _ _ H.out).mono ?_; rw [hst']; rintro e w1 ⟨rfl, hd1, hc1⟩; have HD1 := Lib.hid hd1; clear hd1 hst')
      go_ret
      exact ⟨rfl, HD1.out, hc1.mono (fun x hx => by subst hx; exact .inl H.out.g_F)⟩
end Go.Proofs.Ytbjaphldncagjaa
