/- FlashActs: the law's walk. -/
import Derived.Test.YtjpkddmdhdmhgaaAct
import Derived.Deep.RegionHeld3
namespace Go.Proofs.Ytjpkddmdhdmhgaa
open Go.RowKit

section
variable {d : Dv}
theorem Dv.write_grow (d : Dv) (k : Int) (bs : List UInt8) : (d.write k bs).1.sure.length = d.sure.length ∧ (d.write k bs).1.unsure.length ≤ d.unsure.length + 1 := by
  unfold Dv.write
  split
  · split
    · exact ⟨rfl, Nat.le_succ _⟩
    · split
      · exact ⟨by rw [Dv.spent_sure], by simp⟩
      · exact ⟨by rw [Dv.spent_sure], by rw [Dv.spent_unsure]; exact Nat.le_succ _⟩
  · exact ⟨rfl, Nat.le_succ _⟩
theorem Dv.sync_grow (d : Dv) : d.sync.1.sure.length = d.sure.length ∧ d.sync.1.unsure.length ≤ d.unsure.length + 1 := by
  unfold Dv.sync
  split
  · exact ⟨rfl, Nat.le_succ _⟩
  · split
    · exact ⟨syncL_length _ _, Nat.zero_le _⟩
    · exact ⟨by rw [Dv.spent_sure], by rw [Dv.spent_unsure]; exact Nat.le_succ _⟩
theorem Dv.crash_grow (d : Dv) (m t : Nat) : (d.crash m t).sure.length = d.sure.length ∧ (d.crash m t).unsure.length ≤ d.unsure.length + 1 := ⟨crashL_length _ _ _ _ _, Nat.zero_le _⟩
end

/-- Where the walk stands behind some acts. -/
def ActSt (w wr : World) (g l n k : Nat) : Prop := ∃ F G d, DevSt w wr g l F G d ∧ d.sure.length = n ∧ d.unsure.length ≤ k
theorem ActSt.nx {w wr w' : World} {g l n k : Nat} (h : ActSt w wr g l n k) (hb : Below wr.heap.size wr w') : ActSt w w' g l n k := by
  obtain ⟨F, G, d, h1, h2⟩ := h
  exact ⟨F, G, d, h1.nx hb, h2⟩
theorem ActSt.more {w wr : World} {g l n k k' : Nat} (h : ActSt w wr g l n k) (hk : k ≤ k') : ActSt w wr g l n k' := by
  obtain ⟨F, G, d, h1, h2, h3⟩ := h
  exact ⟨F, G, d, h1, h2, by omega⟩
theorem ActSt.bw {w wr : World} {g l n k : Nat} (h : ActSt w wr g l n k) : Below w.heap.size w wr := by
  obtain ⟨F, G, d, h1, h2⟩ := h
  exact h1.bw

theorem OwnB.off {w : World} {base n c g : Nat} {A : Option Addr} {bs : List UInt8} (h : OwnB w base (.slice A n c) bs) (hg : g < base) : ∀ b off, A = some ⟨b, off, none⟩ → b ≠ g := by
  intro b off e
  rcases h.2 with ⟨h0, _⟩ | ⟨g', cap, cur, e2, h1, _⟩
  · injection h0 with h0
    rw [h0] at e
    cases e
  · injection e2 with e2
    rw [e2] at e
    injection e with e
    injection e with e
    omega
theorem RDev.set_limit {w : World} {B g : Nat} {F : Nat → Prop} {d : Dv} {n : Int} (h : RDev w B F g d) (hn : 0 ≤ n) (hn2 : n ≤ 9223372036854775807) : RDev (w.setCell ⟨g, 2, none⟩ (.int .i64 n)) B F g { d with limit := n } ∧ Chg F w (w.setCell ⟨g, 2, none⟩ (.int .i64 n)) := by
  obtain ⟨hf, sv, uv, S, hg, hs, hu, hg1, hs1, hu1, hS, hF⟩ := h
  have hc := chg_g1 w g 2 (.int .i64 n)
  exact ⟨RDev.own_cells (d' := { d with limit := n }) ⟨hf.sure, hf.unsure, hf.size, hn, hn2⟩ ((heap_setCell_same _ _ _ _ _ _ hg).trans rfl) hc hs hu hg1 hs1 hu1 hS hF, hc.mono fun x hx => .inl (by have hx : x = g := hx; rw [hx]; exact hg1.1)⟩
theorem RDev.free {w : World} {B g : Nat} {F : Nat → Prop} {d : Dv} (h : RDev w B F g d) : ∀ k, w.frozen? ⟨g, k, none⟩ = false := by
  obtain ⟨_, sv, uv, S, hg, _⟩ := h
  exact fun k => frozen_of_row _ _ _ _ _ hg
theorem RDev.cells {w : World} {B g : Nat} {F : Nat → Prop} {d : Dv} (h : RDev w B F g d) : ∃ A c, w.cell? ⟨g, 1, none⟩ = some (.slice A d.unsure.length c) ∧ w.cell? ⟨g, 2, none⟩ = some (.int .i64 d.limit) ∧ w.cell? ⟨g, 3, none⟩ = some (.bool d.down) ∧ ∀ j p b, d.unsure[j]? = some (p, b) → ∃ u A' c', A = some ⟨u, 0, none⟩ ∧ w.cell? ⟨u, j * 2, none⟩ = some (.int .i64 p) ∧ w.cell? ⟨u, j * 2 + 1, none⟩ = some (.slice A' 512 c') ∧ RdB w A' 512 b := by
  obtain ⟨hf, sv, uv, S, hg, hs, hu, _⟩ := h
  obtain ⟨Au, cu, rfl, _⟩ := hu.form
  refine ⟨Au, cu, (cell_of_row _ _ _ _ _ _ hg).trans rfl, (cell_of_row _ _ _ _ _ _ hg).trans rfl, (cell_of_row _ _ _ _ _ _ hg).trans rfl, fun j p b hx => ?_⟩
  obtain ⟨u, c, A, cd, e, _, _, e0, e1, hr, _⟩ := unsure_at hu hx (hf.unsure _ (List.mem_of_getElem? hx)).2.2
  injection e with e
  exact ⟨u, A, cd, e, e0, e1, hr⟩

set_option maxRecDepth 100000 in
set_option maxHeartbeats 4000000 in
theorem flashActs_walk (n : Nat) (h1 : 1 ≤ n) (h60 : n ≤ 60) (A : Option Addr) (na c : Nat) (xs : List Ac) (w : World) (h : RdE encAc w A na xs) (hcm : na ≤ 9223372036854775807) :
    Calls Try.prog 7 #[.int .i64 (n : Int), .slice A na c] w (LawT w) := by
  have hl := h.1
  subst hl
  have hn0 : ¬ n = 0 := by omega
  have hni : ¬ (n : Int) = 0 := by omega
  go_enter Try.func7, Try.ntmps7
  go_upto_region 2 with (first
    | (go_at_call 20; refine (new_any w n h1 (by omega)).mono ?_; rintro e w1 ⟨g0, F0, rfl, hd1, hb1⟩; have HD1 := Lib.hid hd1; clear hd1)
    | fail)
  go_upto_region 6 with (first
    | (go_at_call 21; refine (answers08_any _).mono ?_; rintro e w2 ⟨rfl, hb2⟩)
    | fail)
  go_upto_region 7 with (first
    | (go_at_call 27; refine (rnew_any w2 n (by omega)).mono ?_; rintro e w3 ⟨l, G0, rfl, hd3, hb3⟩; have HD3 := Lib.hid hd3; clear hd3)
    | fail)
  have HS3 : Hid (ActSt w w3 g0 l n 0) :=
    ⟨F0, G0, Dv.new n, ⟨(HD1.out.below hb2).below hb3, HD3.out.base_le (nx hb1 hb2).size, fun b hf hg => by have h1 := ((HD1.out.below hb2).F_lt b hf).2; have h2 := (HD3.out.F_lt b hg).1; omega, nx (nx hb1 hb2) hb3⟩, List.length_replicate, Nat.le_refl _⟩
  clear HD1 HD3 hb1 hb2 hb3
  go_wp2_with fail
  go_loopw [5, 8] (fun dv iv wr => ∃ g k : Nat, dv = .pointer (some ⟨g, 0, none⟩) ∧ iv = .int .i64 k ∧ k ≤ xs.length ∧ k ≤ 80 ∧ Hid (ActSt w wr g l n k)) (fun _ iv _ => xs.length - (intOf iv).toNat)
  case atStart => exact ⟨g0, 0, rfl, rfl, Nat.zero_le _, Nat.zero_le _, HS3⟩
  case round =>
    clear HS3
    obtain ⟨g, k, rfl, rfl, hk, hk80, HS⟩ := hrel
    by_cases hlt : k < xs.length ∧ k < 80
    · obtain ⟨hlt, hlt80⟩ := hlt
      obtain ⟨x, hx⟩ : ∃ x, xs[k]? = some x := ⟨_, List.getElem?_eq_getElem hlt⟩
      obtain ⟨b, off, A1, c1, rfl, hc0, hc1, hc2, hc3, hc4, hrd, hl1, hm1, hlt1, hi1, hi2, hi3, hi4⟩ := acs_at h hx
      have hbw := HS.out.bw
      have d0 := below_cell hbw hc0
      have d1 := below_cell hbw hc1
      have d2 := below_cell hbw hc2
      have d3 := below_cell hbw hc3
      have d4 := below_cell hbw hc4
      clear hx hc0 hc1 hc2 hc3 hc4
      go_upto_region 11 with (fail)
      obtain ⟨wp, hwp⟩ : ∃ wp, wp = wr.alloc (.cells #[.int .i64 x.what, .int .i64 x.pos, .slice A1 x.data.length c1, .int .u64 (x.mask : Int), .int .u64 (x.torn : Int)] 57) := ⟨_, rfl⟩
      have hbp : Below wr.heap.size wr wp := by rw [hwp]; exact bl.alloc (Nat.le_refl _) _
      have HBX : Hid (ABox wp wr.heap.size A1 c1 x) := by show ABox _ _ _ _ _; rw [hwp]; exact ABox.made _ _ _ _ _
      rw [← hwp]
      clear hwp d0 d1 d2 d3 d4
      obtain ⟨F, G, d, HP, hdn, hdu⟩ := HS.out
      have hqF : ∀ b, F b ∨ G b → b ≠ wr.heap.size := fun b hb e => by have := HP.F_lt b hb; omega
      have HQF := Lib.hid hqF
      have HPp := Lib.hid (HP.nx hbp)
      have hqs : wr.heap.size < wp.heap.size := by have := World.block_lt_of_cell? wp _ HBX.out.1; exact this
      have hlA : ∀ b off, 0 < x.data.length → A1 = some ⟨b, off, none⟩ → b ≠ l := fun b off h0 e => by have h2 := hlt1 b off h0 e; have h3 := (HP.R.F_lt l HP.R.g_F.1).1; omega
      have HLA := Lib.hid hlA
      have hgl : g < wp.heap.size := (HPp.out.D.F_lt g HPp.out.D.g_F).2
      have HRD := Lib.hid hrd
      clear HP hqF hbp hbw HS hlt1 hlA hrd
      generalize wr.heap.size = q at HBX HQF hqs ⊢
      obtain ⟨z0, z1, z2, z3, z4⟩ := HBX.out
      by_cases hdl : x.data.length ≤ 2000
      · have hu9 : d.unsure.length ≤ 1000000 := by omega
        go_upto_block 2 with (fail)
        go_cut [5, 72] (fun dv _ wc => ∃ g' : Nat, dv = .pointer (some ⟨g', 0, none⟩) ∧ Hid (ABox wc q A1 c1 x) ∧ Hid (ActSt w wc g' l n (k + 1)))
        case first =>
          by_cases hk1 : x.what = 1
          · as_aux_lemma =>
            have hgr := Lib.hid (d.write_grow x.pos x.data)
            go_upto_region 14 with (fail)
            go_region_held3 (fun w' => w'.cell? ⟨q, 1, none⟩ = some (.int .i64 x.pos) ∧ w'.cell? ⟨q, 2, none⟩ = some (.slice A1 x.data.length c1))
              (first
                | with_reducible exact ⟨z1, z2⟩
                | with_reducible exact ⟨below_cell bl.drew z1, below_cell bl.drew z2⟩
                | with_reducible exact ⟨below_cell (bl.alloc (Nat.le_refl _) _) (below_cell bl.drew z1), below_cell (bl.alloc (Nat.le_refl _) _) (below_cell bl.drew z2)⟩
                | with_reducible exact ⟨below_cell bl.drew (below_cell (bl.alloc (Nat.le_refl _) _) z1), below_cell bl.drew (below_cell (bl.alloc (Nat.le_refl _) _) z2)⟩
                | with_reducible exact ⟨u1, u2⟩
                | with_reducible exact ⟨v1, v2⟩
                | with_reducible exact ⟨t1, t2⟩
                | fail)
              (first
                | (go_at_call 28; refine (rwrite_any w5 w.heap.size l G d x.pos A1 _ c1 x.data HP5.out.R (HRD.out.below HP5.out.bw) HLA.out hu9 (by omega)).mono ?_; rintro e w6 ⟨rfl, F6, h6, hc6, hF6⟩; have HP6 := Lib.hid (HP5.out.stepR h6 hc6 hF6); have HB6 := Lib.hid (HB5.out.chg hc6 (fun hf => HQF.out q (.inr hf) rfl)); have t1 := HB6.out.2.1; have t2 := HB6.out.2.2.1; clear h6)
                | (go_at_call 22; refine (write_any w4 w.heap.size g F d x.pos _ _ _ x.data HP4.out.D hr4 hA4 hu9).mono ?_; rintro e w5 ⟨rfl, F5, h5, hc5, _, hF5⟩; have HP5 := Lib.hid (HP4.out.stepD h5 hc5 hF5); have HB5 := Lib.hid (HB4.out.chg hc5 (fun hf => HQF.out q (.inl hf) rfl)); have v1 := HB5.out.2.1; have v2 := HB5.out.2.2.1; clear h5)
                | (refine step_appB (by rfl) (.tmp 78) (.tmp 80) (by rfl) wp.heap.size (.slice (some ⟨wp.heap.size, 0, none⟩) 0 0) [] (by rfl) (own_empty wp).drew A1 _ c1 x.data (by rfl) (HRD.out.below (nx (nx HPp.out.bw (bl.alloc (Nat.le_refl _) _)) bl.drew)) (by simp; omega) (by simp) ?_; intro v4 w4 hown4 hg4 hv4; have hb4 : Below wp.heap.size wp w4 := (nx (bl.alloc (Nat.le_refl _) _) bl.drew).grown hg4 (by simp) (fun j hj => by simp [Value.ownBlock] at hj; omega); rw [List.nil_append] at hown4; have HP4 := Lib.hid (HPp.out.nx hb4); have HB4 := Lib.hid (HBX.out.below hb4); have u1 := HB4.out.2.1; have u2 := HB4.out.2.2.1; obtain ⟨A4, c4, rfl, hr4, _⟩ := hown4.form; have hA4 := hown4.off hgl)
                | fail)
            go_wp2
            go_meet
            case rel => exact ⟨g, rfl, HB6.out, F5, F6, _, HP6.out, by rw [hgr.out.1]; exact hdn, by have := hgr.out.2; omega⟩
          · by_cases hk2 : x.what = 2
            · as_aux_lemma =>
              have hgr := Lib.hid d.sync_grow
              go_wp2_with (first
                | (go_at_call 29; refine (rsync_any w5 w.heap.size l G d HP5.out.R hu9).mono ?_; rintro e w6 ⟨rfl, h6, hc6⟩; have HP6 := Lib.hid (HP5.out.stepR h6 hc6 (fun _ hz => .inl hz)); have HB6 := Lib.hid (HB5.out.chg hc6 (fun hf => HQF.out q (.inr hf) rfl)))
                | (go_at_call 23; refine (sync_any _ w.heap.size g F d HPp.out.D hu9).mono ?_; rintro e w5 ⟨rfl, h5, hc5⟩; have HP5 := Lib.hid (HPp.out.stepD h5 hc5 (fun _ hz => .inl hz)); have HB5 := Lib.hid (HBX.out.chg hc5 (fun hf => HQF.out q (.inl hf) rfl)))
                | fail)
              go_meet
              case rel => exact ⟨g, rfl, HB6.out, F, G, _, HP6.out, by rw [hgr.out.1]; exact hdn, by have := hgr.out.2; omega⟩
            · by_cases hk3 : x.what = 3
              · by_cases hp0 : 0 ≤ x.pos
                · as_aux_lemma =>
                  go_upto_region 24 with (first
                    | (go_at_call 30; refine (limit_any _ w.heap.size g F d x.pos HPp.out.D hp0 hi2.2).mono ?_; rintro e w5 ⟨rfl, h5, hc5⟩; have hc5' : Chg F wp w5 := hc5.mono (fun z hz => .inl (by subst hz; exact HPp.out.D.g_F)); have HP5 := Lib.hid (HPp.out.stepD h5 hc5' (fun _ hz => .inl hz)); have HB5 := Lib.hid (HBX.out.chg hc5' (fun hf => HQF.out q (.inl hf) rfl)); have v1 := HB5.out.2.1; clear h5)
                    | fail)
                  have hset := HP5.out.R.set_limit hp0 hi2.2
                  obtain ⟨_, _, _, e2, _⟩ := HP5.out.R.cells
                  have ef := HP5.out.R.free
                  have HP6 := Lib.hid (HP5.out.stepR hset.1 hset.2 (fun _ hz => .inl hz))
                  have HB6 := Lib.hid (HB5.out.chg hset.2 (fun hf => HQF.out q (.inr hf) rfl))
                  clear hset
                  go_wp2
                  go_meet
                  case rel => exact ⟨g, rfl, HB6.out, F, G, _, HP6.out, hdn, by show d.unsure.length ≤ _; omega⟩
                · as_aux_lemma =>
                  have hp1 : x.pos < 0 := by omega
                  go_wp2_with (first
                    | (go_at_call 30; refine (limit_neg _ _ x.pos hp1).mono ?_; rintro e w5 ⟨rfl, rfl⟩)
                    | fail)
                  go_meet
                  case rel => exact ⟨g, rfl, HBX.out, F, G, d, HPp.out, hdn, by omega⟩
              · by_cases hk4 : x.what = 4
                · as_aux_lemma =>
                  have hgr := Lib.hid (d.crash_grow x.mask x.torn)
                  go_wp2_with (first
                    | (go_at_call 31; refine (rcrash_any w5 w.heap.size l G d x.mask x.torn HP5.out.R hu9).mono ?_; rintro e w6 ⟨rfl, F6, h6, hc6, hF6⟩; have HP6 := Lib.hid (HP5.out.stepR h6 hc6 hF6); have HB6 := Lib.hid (HB5.out.chg hc6 (fun hf => HQF.out q (.inr hf) rfl)))
                    | (go_at_call 24; refine (crash_any _ w.heap.size g F d x.mask x.torn hi3 hi4 HPp.out.D hu9).mono ?_; rintro e w5 ⟨rfl, h5, hc5⟩; have HP5 := Lib.hid (HPp.out.stepD h5 hc5 (fun _ hz => .inl hz)); have HB5 := Lib.hid (HBX.out.chg hc5 (fun hf => HQF.out q (.inl hf) rfl)); have v3 := HB5.out.2.2.2.1; have v4 := HB5.out.2.2.2.2)
                    | fail)
                  go_meet
                  case rel => exact ⟨g, rfl, HB6.out, F, F6, _, HP6.out, by rw [hgr.out.1]; exact hdn, by have := hgr.out.2; omega⟩
                · by_cases hk6 : x.what = 6
                  · as_aux_lemma =>
                    go_wp2_with (first
                      | (go_at_call 32; refine (copy_any _ w.heap.size g F d HPp.out.D hu9).mono ?_; rintro e w5 ⟨g', F5, rfl, h5, hb5⟩; have HP5 : Hid (DevSt w w5 g' l F5 G d) := ⟨h5.base_le HPp.out.bw.size, HPp.out.R.below hb5, fun b hf hg => by have := (h5.F_lt b hf).1; have := (HPp.out.R.F_lt b hg).2; omega, Go.Proofs.Ytjpkddmdhdmhgaa.nx HPp.out.bw hb5⟩; have HB5 := Lib.hid (HBX.out.below hb5); clear h5)
                      | fail)
                    go_meet
                    case rel => exact ⟨g', rfl, HB5.out, F5, G, d, HP5.out, hdn, by omega⟩
                  · as_aux_lemma =>
                    go_wp2
                    go_meet
                    case rel => exact ⟨g, rfl, HBX.out, F, G, d, HPp.out, hdn, by omega⟩
        case rest =>
          as_aux_lemma =>
          clear HPp HBX HQF HLA HRD z0 z1 z2 z3 z4 hdn hdu hu9 hgl hqs hi1 hi2 hi3 hi4 hdl hl1 hm1
          obtain ⟨g', rfl, HB, HS⟩ := hcut
          have z1 := HB.out.2.1
          clear HB
          obtain ⟨F, G, d, HP, hdn, hdu⟩ := HS.out
          obtain ⟨Au, cu, m1, _, m3, hat⟩ := HP.R.cells
          have HPh := Lib.hid HP
          have HAT := Lib.hid hat
          have hu9 : d.unsure.length ≤ 1000000 := by omega
          have hln := len_any wc.drew w.heap.size g' F d (HP.D.below bl.drew)
          rw [hdn] at hln
          have HDN := Lib.hid hdn
          clear HS HP hat hdn
          go_upto_region 31 with (fail)
          go_region_held3 (fun w' => w'.cell? ⟨l, 3, none⟩ = some (.bool d.down) ∧ w'.cell? ⟨q, 1, none⟩ = some (.int .i64 x.pos))
            (first
              | with_reducible exact ⟨m3, z1⟩
              | with_reducible exact ⟨below_cell bl.drew m3, below_cell bl.drew z1⟩
              | with_reducible exact ⟨a3, a1⟩
              | with_reducible exact ⟨b3, b1⟩
              | fail)
            (first
              | (go_at_call 35; refine (alike_any wa w.heap.size w.heap.size g' l F G d _ HPa.out.D HPa.out.R hu9).mono ?_; rintro e wb ⟨rfl, hbb⟩; have b3 := below_cell hbb a3; have b1 := below_cell hbb a1; have b0 := below_cell hbb a0)
              | (go_at_call 35; refine (alike_any wc.drew w.heap.size w.heap.size g' l F G d _ (HPh.out.D.below bl.drew) (HPh.out.R.below bl.drew) hu9).mono ?_; rintro e wa ⟨rfl, hba'⟩; have hba : Below wc.heap.size wc wa := bl.drew.trans hba'; have HPa := Lib.hid (HPh.out.nx hba); have a3 := below_cell hba m3; have a1 := below_cell hba z1; have a0 := below_cell hba m1)
              | (go_at_call 34; refine hln.mono ?_; rintro e w2 ⟨rfl, rfl⟩)
              | (go_at_call 33; refine (down_any wc.drew w.heap.size g' F d (HPh.out.D.below bl.drew)).mono ?_; rintro e w2 ⟨rfl, rfl⟩)
              | fail)
          have HPb := Lib.hid (HPa.out.nx hbb)
          go_wp2_with (first
            | (go_at_call 36; refine (unsure_any wb w.heap.size g' F d HPb.out.D hu9).mono ?_; rintro e wx ⟨vx, Sx, rfl, hux, _, hbx⟩; obtain ⟨Ax, cx, rfl, _⟩ := hux.form; have x0 := below_cell hbx b0)
            | fail)
          have HPx := Lib.hid (HPb.out.nx hbx)
          have HUX := Lib.hid hux
          obtain ⟨Ar, cr, rx, _, _, hatx⟩ := HPx.out.R.cells
          have HFX := Lib.hid HPx.out.D.fine.unsure
          have HATX := Lib.hid hatx
          clear hux hatx HAT
          go_loopw [12] (fun iv wy => ∃ j : Nat, iv = .int .i64 j ∧ j ≤ d.unsure.length ∧ Below wx.heap.size wx wy) (fun iv _ => d.unsure.length - (intOf iv).toNat)
          case atStart => exact ⟨0, rfl, Nat.zero_le _, bl⟩
          case round =>
            obtain ⟨j, rfl, hj, hby⟩ := hrel
            have ry := below_cell hby rx
            by_cases hjl : j < d.unsure.length
            · obtain ⟨y, hy⟩ : ∃ y, d.unsure[j]? = some y := ⟨_, List.getElem?_eq_getElem hjl⟩
              obtain ⟨p, bs⟩ := y
              have hbl := (HFX.out _ (List.mem_of_getElem? hy)).2.2
              obtain ⟨u1, A1', c1', e1, f0, f1, hr1⟩ := HATX.out j p bs hy
              obtain ⟨u2, c2, A2', c2', e2, _, _, f2, f3, hr2, _⟩ := unsure_at HUX.out hy hbl
              subst e1
              injection e2 with e2 _ e3
              subst e2
              have HR1 := Lib.hid (hr1.below hby)
              have HR2 := Lib.hid (hr2.below hby)
              have y0 := below_cell hby f0
              have y1 := below_cell hby f1
              have y2 := below_cell hby f2
              have y3 := below_cell hby f3
              clear hy hbl hr1 hr2 e3 f0 f1 f2 f3
              go_upto_region 39 with (fail)
              go_region_held3 (fun w' => w'.cell? ⟨u1, j * 2, none⟩ = some (.int .i64 p) ∧ w'.cell? ⟨u1, j * 2 + 1, none⟩ = some (.slice A1' 512 c1') ∧ w'.cell? ⟨u2, j * 2, none⟩ = some (.int .i64 p) ∧ w'.cell? ⟨u2, j * 2 + 1, none⟩ = some (.slice A2' 512 c2') ∧ w'.cell? ⟨l, 1, none⟩ = some (.slice (some ⟨u1, 0, none⟩) d.unsure.length cr))
                (first
                  | with_reducible exact ⟨y0, y1, y2, y3, ry⟩
                  | with_reducible exact ⟨below_cell bl.drew y0, below_cell bl.drew y1, below_cell bl.drew y2, below_cell bl.drew y3, below_cell bl.drew ry⟩
                  | with_reducible exact ⟨below_cell hbs y0, below_cell hbs y1, below_cell hbs y2, below_cell hbs y3, below_cell hbs ry⟩
                  | fail)
                (first
                  | (go_at_call 18; refine (same_any _ _ _ _ _ _ bs bs wr.drew (HR2.out.below bl.drew) (HR1.out.below bl.drew) (by unfold maxLen; omega) (by unfold maxLen; omega)).mono ?_; rw [decide_eq_true rfl]; rintro e ws ⟨rfl, m3, hws⟩; have hbs : Below wr.heap.size wr ws := (by rw [hws]; exact dN bl.drew m3); clear hws)
                  | fail)
              go_wp2
              go_roundw
              case rel => exact ⟨j + 1, by go_num, by omega, nx hby hbs⟩
              case measure => simp [intOf]; omega
            · obtain rfl : j = d.unsure.length := by omega
              go_wp2
              go_roundw
              case rel => exact ⟨g', k + 1, rfl, by go_num, by omega, by omega, F, G, d, HPx.out.nx hby, HDN.out, hdu⟩
              case measure => simp [intOf]; omega
      · go_wp2
        go_roundw
        case rel => exact ⟨g, k + 1, rfl, by go_num, by omega, by omega, F, G, d, HPp.out, hdn, by omega⟩
        case measure => simp [intOf]; omega
    · as_aux_lemma =>
      by_cases hlt' : k < xs.length
      · have h80 : ¬ k < 80 := fun h => hlt ⟨hlt', h⟩
        clear hlt
        go_wp2
        go_loopw [13] (fun iv wy => ∃ i : Nat, iv = .int .i64 i ∧ i ≤ n ∧ Hid (ActSt w wy g l n k)) (fun iv _ => n - (intOf iv).toNat)
        case atStart => exact ⟨0, rfl, Nat.zero_le _, HS⟩
        case round =>
          clear HS
          obtain ⟨i, rfl, hi, HS⟩ := hrel
          by_cases hin : i < n
          · obtain ⟨F, G, d, HP, hdn, hdu⟩ := HS.out
            have HPh := Lib.hid HP
            have HDN := Lib.hid hdn
            clear HP hdn HS
            go_wp2_with (first
              | (go_at_call 35; refine (alike_any _ w.heap.size w.heap.size g l F G d _ HPh.out.D HPh.out.R (by omega)).mono ?_; rintro e wa ⟨rfl, hba⟩)
              | fail)
            go_roundw
            case rel => exact ⟨i + 1, by go_num, by omega, F, G, d, HPh.out.nx hba, HDN.out, hdu⟩
            case measure => simp [intOf]; omega
          · go_wp2
            go_ret
            exact ⟨rfl, HS.out.bw⟩
      · clear hlt
        go_wp2
        go_loopw [13] (fun iv wy => ∃ i : Nat, iv = .int .i64 i ∧ i ≤ n ∧ Hid (ActSt w wy g l n k)) (fun iv _ => n - (intOf iv).toNat)
        case atStart => exact ⟨0, rfl, Nat.zero_le _, HS⟩
        case round =>
          clear HS
          obtain ⟨i, rfl, hi, HS⟩ := hrel
          by_cases hin : i < n
          · obtain ⟨F, G, d, HP, hdn, hdu⟩ := HS.out
            have HPh := Lib.hid HP
            have HDN := Lib.hid hdn
            clear HP hdn HS
            go_wp2_with (first
              | (go_at_call 35; refine (alike_any _ w.heap.size w.heap.size g l F G d _ HPh.out.D HPh.out.R (by omega)).mono ?_; rintro e wa ⟨rfl, hba⟩)
              | fail)
            go_roundw
            case rel => exact ⟨i + 1, by go_num, by omega, F, G, d, HPh.out.nx hba, HDN.out, hdu⟩
            case measure => simp [intOf]; omega
          · go_wp2
            go_ret
            exact ⟨rfl, HS.out.bw⟩
end Go.Proofs.Ytjpkddmdhdmhgaa
