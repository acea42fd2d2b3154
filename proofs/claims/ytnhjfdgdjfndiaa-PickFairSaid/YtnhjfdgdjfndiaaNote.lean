/- pick.Note: a server was asked. -/
import Derived.Test.YtnhjfdgdjfndiaaIndexF
import Derived.Test.YtnhjfdgdjfndiaaOwn19
namespace Go.Proofs.Ytnhjfdgdjfndiaa
open Go.RowKit

theorem storeCount {S : Nat → Prop} {w : World} {base g n c j : Nat} {ts : List Tr} {t : Tr} {k : Int} (h : OwnE encT 36 S w base (.slice (some ⟨g, 0, none⟩) n c) ts) (ht : ts[j]? = some t) (h1 : -9223372036854775808 ≤ k) (h2 : k ≤ 9223372036854775807) :
    OwnE encT 36 S (w.setCell ⟨g, j * 3 + 1, none⟩ (.int .i64 k)) base (.slice (some ⟨g, 0, none⟩) n c) (ts.set j ⟨t.addr, k, t.bad⟩) :=
  OwnE.store (j := 1) h ht (by decide) (by
    rintro r ⟨A, m, d, rfl, he, h3, h4, _⟩
    exact ⟨A, m, d, rfl, he, h3, h4, h1, h2⟩)
theorem storeBad {S : Nat → Prop} {w : World} {base g n c j : Nat} {ts : List Tr} {t : Tr} {b : Bool} (h : OwnE encT 36 S w base (.slice (some ⟨g, 0, none⟩) n c) ts) (ht : ts[j]? = some t) :
    OwnE encT 36 S (w.setCell ⟨g, j * 3 + 2, none⟩ (.bool b)) base (.slice (some ⟨g, 0, none⟩) n c) (ts.set j ⟨t.addr, t.count, b⟩) :=
  OwnE.store (j := 2) h ht (by decide) (by
    rintro r ⟨A, m, d, rfl, he, h3, h4, h5⟩
    exact ⟨A, m, d, rfl, he, h3, h4, h5⟩)

set_option maxHeartbeats 1000000 in
theorem note_any (A : Option Addr) (n c : Nat) (ts : List Tr) (A' : Option Addr) (n' c' : Nat) (ys : List UInt8) (bad : Bool) (w : World) (ht : RdE encT w A n ts) (hn : n ≤ 100000) (ha : ∀ t ∈ ts, t.addr.length ≤ 140737488355328) (hy : RdB w A' n' ys) (hyl : n' ≤ 140737488355328) :
    Calls Try.prog 33 #[.slice A n c, .slice A' n' c', .bool bad] w (RetP (fun v w' => NewE encT 36 w.heap.size w' v (noteP ts ys bad)) w) := by
  have hlt := Lib.hid ht.len
  obtain ⟨w0, hw0⟩ : ∃ w0, w0 = w.alloc (.cells #[.slice A' n' c'] 22) := ⟨_, rfl⟩
  have hb0 : Below w.heap.size w w0 := by rw [hw0]; exact bl.alloc (Nat.le_refl _) _
  have hg0 : w0.cell? ⟨w.heap.size, 0, none⟩ = some (.slice A' n' c') := by rw [hw0]; exact (new_cell _ _ _ _).trans rfl
  have hsz0 : w0.heap.size = w.heap.size + 1 := by rw [hw0]; simp
  have ht0 := ht.below hb0
  have hy0 := hy.below hb0
  have HSZ := Lib.hid hsz0
  clear hsz0
  go_enter Try.func33, Try.ntmps33
  go_wp2
  rw [← hw0]
  clear hw0
  go_loopw [7, 9, 13] (fun v _ i wr => ∃ k : Nat, i = .int .i64 k ∧ k ≤ n ∧ NewE encT 36 w0.heap.size wr v (ts.take k) ∧ Below w0.heap.size w0 wr) (fun _ _ i _ => n - (intOf i).toNat)
  case atStart => exact ⟨0, rfl, Nat.zero_le _, ⟨noS, OwnE.nil _ _ _ _, fun b h => h.elim⟩, bl⟩
  case round =>
    obtain ⟨k, rfl, hk, ⟨S, hown, hS⟩, hbw⟩ := hrel
    by_cases hlt' : k < n
    · obtain ⟨b, off, rfl, hb1, hat⟩ := encT_at ht0 (by omega)
      obtain ⟨t, htk⟩ : ∃ t, ts[k]? = some t := ⟨_, List.getElem?_eq_getElem (by rw [hlt.out]; exact hlt')⟩
      have hta := ha t (List.mem_of_getElem? htk)
      obtain ⟨A1, n1, c1, c0, c1', c2, hel, hn', hc', hi1, hi2⟩ := hat k t htk
      have d0 := below_cell hbw c0
      have d1 := below_cell hbw c1'
      have d2 := below_cell hbw c2
      have hrb := els_bytes hel
      have hin1 := hrb.len
      subst hin1
      have hbx : Below wr.heap.size wr (wr.alloc (.cells #[.slice A1 t.addr.length c1, .int .i64 t.count, .bool t.bad] 36)) := bl.alloc (Nat.le_refl _) _
      have HTK := Lib.hid htk
      clear hat htk c0 c1' c2 hel ha
      go_wp2_with (first
        | (go_at_call 36; refine (bclone_any _ _ _ t.addr _ (hrb.below (nx hbw hbx)) hta).mono ?_; rintro e w2 ⟨v2, rfl, hown2, hb2⟩; obtain ⟨A2, c2, rfl, hr2, hl2, hc2⟩ := hown2.form; obtain ⟨hcc, hff⟩ := bcell hb2; have hsz2 : wr.heap.size < w2.heap.size := (by have := hb2.size; simp at this; omega); have hb3 : ∀ u, Below wr.heap.size wr (w2.setCell ⟨wr.heap.size, 0, none⟩ u) := (fun u => (hbx.trans (hb2.mono (by simp))).setCell (Nat.le_refl _) u); have hrow : ∀ u, encT.R (btS (wr.heap.size + 1) w2.heap.size) (w2.setCell ⟨wr.heap.size, 0, none⟩ u) [.slice A2 t.addr.length c2, .int .i64 t.count, .bool t.bad] t := (fun u => ⟨A2, _, c2, rfl, (by have h := (ownB_els hown2).1; simp at h; exact h.keep (fun b hb => Below.heap_setCell _ _ _ _ (by simp; have := hb.1; omega)) (fun b hb => Below.heap_setCell _ _ _ _ (by simp; have := hb.1; omega))), hl2, hc2, hi1, hi2⟩))
        | ((with_reducible show wpList _ _ _ (⟨some 24, _, _, _, _, _⟩ :: _) _ _); refine wpL_pushE elT rfl (.tmp 21) (.tmp 23) rfl w0.heap.size _ (ts.take k) rfl (hown.below (hb3 _)) _ t (hrow _) ?hS rfl ?hb ?hl ?hbase ?_; rotate_right; intro v3 w3 hown3 hg3 hat3))
      · go_roundw
        case rel =>
          refine ⟨k + 1, by go_num, by omega, ⟨_, by rw [List.take_add_one, HTK.out]; exact hown3, fun x hx => ?_⟩, ((nx hbw (hb3 _))).grown hg3 (by simp; have := hbw.size; omega) (fun j hj => (hown.lt j hj).1)⟩
          rcases hx with hx | hx
          · exact hS x hx
          · have := hx.1; have := hbw.size; omega
        case measure => simp [intOf]; omega
      case hS =>
        intro x hx
        refine ⟨by simp; exact hx.2, fun he => ?_⟩
        have := (hown.lt x he.symm).2
        have := hx.1
        omega
      case hb => rw [List.length_take]; omega
      case hl => rw [List.length_take]; unfold maxLen; omega
      case hbase => simp; have := hbw.size; omega
    · have hkn : k = n := by omega
      have htake : ts.take k = ts := List.take_of_length_le (by rw [hlt.out]; omega)
      rw [htake] at hown
      have hgr := below_cell hbw hg0
      have hyr := hy0.below hbw
      have hbwr := nx hb0 hbw
      have hin2 := hyr.len
      subst hin2
      obtain ⟨Ao, co, hv, helo, hco, hcm⟩ := hown.form
      rw [hlt.out] at hv helo hco
      subst hv
      clear htake ha
      rcases hfind : findT ts ys ts.length with _ | j
      · have hres : Hid (noteP ts ys bad = ts ++ [⟨ys, 1, bad⟩]) := noteP_none hfind
        have hfv : Hid (findV ts ys = -1) := findV_none hfind
        clear hfind
        go_wp2_with (first
          | (go_at_call 37; refine (indexF_any _ _ _ ts _ _ _ _ ys _ helo (by omega) hgr hyr).mono ?_; rintro e w2 ⟨v2, rfl, rfl, hb2⟩; rw [hfv.out]; have hgr2 := below_cell hb2 hgr; have hyr2 := hyr.below hb2; have hown2 := hown.below hb2; have hbw2 := nx hbwr hb2)
          | (go_at_call 36; refine (bclone_any _ _ _ ys _ hyr2 hyl).mono ?_; rintro e w3 ⟨v3, rfl, hown3, hb3⟩; obtain ⟨A3, c3, rfl, hr3, hl3, hc3⟩ := hown3.form)
          | ((with_reducible show wpList _ _ _ (⟨some 37, _, _, _, _, _⟩ :: _) _ _); refine wpL_pushE elT rfl (.tmp 31) (.tmp 36) rfl w0.heap.size _ ts rfl (hown2.below hb3) _ ⟨ys, 1, bad⟩ (S' := btS w2.heap.size w3.heap.size) ⟨A3, _, c3, rfl, (ownB_els hown3).1, hl3, hc3, by simp, by simp⟩ ?hS rfl ?hb ?hl ?hbase ?_; rotate_right; intro v4 w4 hown4 hg4 hat4))
        · go_ret
          refine ⟨_, rfl, ⟨_, by rw [hres.out]; exact hown4.base_le (by have := HSZ.out; omega), fun x hx => ?_⟩, (nx hbw2 hb3).grown hg4 (nx hbw2 hb3).size (fun j hj => by have := (hown2.lt j hj).1; have := HSZ.out; omega)⟩
          rcases hx with hx | hx
          · have := hS x hx; have := HSZ.out; omega
          · have := hx.1; have := hbw2.size; omega
        case hS =>
          intro x hx
          refine ⟨hx.2, fun he => ?_⟩
          have := (hown2.lt x he.symm).2
          have := hx.1
          omega
        case hb => rw [hlt.out]; omega
        case hl => rw [hlt.out]; unfold maxLen; omega
        case hbase => have h1 := hbw.size; have h2 := hb2.size; have h3 := hb3.size; omega
      · have hjl := findT_lt hfind
        obtain ⟨t, htj⟩ : ∃ t, ts[j]? = some t := ⟨_, List.getElem?_eq_getElem hjl⟩
        have hres : Hid (noteP ts ys bad = ts.set j (noteT t bad)) := noteP_some hfind htj
        have hfv : Hid (findV ts ys = (j : Int)) := findV_some hfind
        rw [hlt.out] at hjl
        obtain ⟨g, cg, hv, hg1, hg2, _, _, hSg, hcell⟩ := hown.flat (by rw [hlt.out]; omega)
        injection hv with hv1 hv2 hv3
        subst hv1
        obtain ⟨r, ⟨A5, n5, c5, hr5, he5, hl5, hm5, hlo5, hhi5⟩, hrc⟩ := hcell j t htj
        subst hr5
        have e1 : wr.cell? ⟨g, j * 3 + 1, none⟩ = some (.int .i64 t.count) := hrc 1 _ rfl
        have e2 : wr.cell? ⟨g, j * 3 + 2, none⟩ = some (.bool t.bad) := hrc 2 _ rfl
        have HTJ := Lib.hid htj
        clear hfind htj hcell hrc hv2 hv3
        have hgb : w.heap.size ≤ g := by have := HSZ.out; omega
        by_cases hcnt : t.count < 9223372036854775807
        · have hnt : Hid (noteT t bad = ⟨t.addr, t.count + 1, t.bad || bad⟩) := by show _ = _; unfold noteT; rw [if_pos hcnt]
          cases hbd : t.bad
          · rw [hbd] at hnt e2
            go_wp2_with ((go_at_call 37; refine (indexF_any _ _ _ ts _ _ _ _ ys _ helo (by omega) hgr hyr).mono ?_; rintro e w2 ⟨v2, rfl, rfl, hb2⟩; rw [hfv.out]; have hown2 := hown.below hb2; have hbw2 := nx hbwr hb2; have e3 := below_cell hb2 e1; have e4 := below_cell hb2 e2; have hf1 := hown2.free (j * 3 + 1); have hf2 := hown2.free (j * 3 + 2)))
            have q2 := storeBad (b := bad) (storeCount (k := t.count + 1) hown2 HTJ.out (by omega) (by omega)) (j := j) (List.getElem?_set_self (by rw [hlt.out]; omega))
            rw [List.set_set] at q2
            go_ret
            exact ⟨_, rfl, ⟨S, by rw [hres.out, hnt.out]; simpa using q2.base_le (by have := HSZ.out; omega), fun x hx => by have := hS x hx; have := HSZ.out; omega⟩, ((hbw2.setCell hgb _).setCell hgb _)⟩
          · rw [hbd] at hnt e2
            go_wp2_with ((go_at_call 37; refine (indexF_any _ _ _ ts _ _ _ _ ys _ helo (by omega) hgr hyr).mono ?_; rintro e w2 ⟨v2, rfl, rfl, hb2⟩; rw [hfv.out]; have hown2 := hown.below hb2; have hbw2 := nx hbwr hb2; have e3 := below_cell hb2 e1; have e4 := below_cell hb2 e2; have hf1 := hown2.free (j * 3 + 1); have hf2 := hown2.free (j * 3 + 2)))
            have q2 := storeBad (b := true) (storeCount (k := t.count + 1) hown2 HTJ.out (by omega) (by omega)) (j := j) (List.getElem?_set_self (by rw [hlt.out]; omega))
            rw [List.set_set] at q2
            go_ret
            exact ⟨_, rfl, ⟨S, by rw [hres.out, hnt.out]; simpa using q2.base_le (by have := HSZ.out; omega), fun x hx => by have := hS x hx; have := HSZ.out; omega⟩, ((hbw2.setCell hgb _).setCell hgb _)⟩
        · have hnt : Hid (noteT t bad = ⟨t.addr, t.count, t.bad || bad⟩) := by show _ = _; unfold noteT; rw [if_neg hcnt]
          cases hbd : t.bad
          · rw [hbd] at hnt e2
            go_wp2_with ((go_at_call 37; refine (indexF_any _ _ _ ts _ _ _ _ ys _ helo (by omega) hgr hyr).mono ?_; rintro e w2 ⟨v2, rfl, rfl, hb2⟩; rw [hfv.out]; have hown2 := hown.below hb2; have hbw2 := nx hbwr hb2; have e3 := below_cell hb2 e1; have e4 := below_cell hb2 e2; have hf1 := hown2.free (j * 3 + 1); have hf2 := hown2.free (j * 3 + 2)))
            have q2 := storeBad (b := bad) hown2 HTJ.out
            go_ret
            exact ⟨_, rfl, ⟨S, by rw [hres.out, hnt.out]; simpa using q2.base_le (by have := HSZ.out; omega), fun x hx => by have := hS x hx; have := HSZ.out; omega⟩, (hbw2.setCell hgb _)⟩
          · rw [hbd] at hnt e2
            go_wp2_with ((go_at_call 37; refine (indexF_any _ _ _ ts _ _ _ _ ys _ helo (by omega) hgr hyr).mono ?_; rintro e w2 ⟨v2, rfl, rfl, hb2⟩; rw [hfv.out]; have hown2 := hown.below hb2; have hbw2 := nx hbwr hb2; have e3 := below_cell hb2 e1; have e4 := below_cell hb2 e2; have hf1 := hown2.free (j * 3 + 1); have hf2 := hown2.free (j * 3 + 2)))
            have q2 := storeBad (b := true) hown2 HTJ.out
            go_ret
            exact ⟨_, rfl, ⟨S, by rw [hres.out, hnt.out]; simpa using q2.base_le (by have := HSZ.out; omega), fun x hx => by have := hS x hx; have := HSZ.out; omega⟩, (hbw2.setCell hgb _)⟩
end Go.Proofs.Ytnhjfdgdjfndiaa
