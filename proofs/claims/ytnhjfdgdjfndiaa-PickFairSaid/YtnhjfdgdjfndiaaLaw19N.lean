/- PickNext: the law's walk. -/
import Derived.Test.YtnhjfdgdjfndiaaOwn19
import Derived.Test.YtnhjfdgdjfndiaaLaw01
namespace Go.Proofs.Ytnhjfdgdjfndiaa
open Go.RowKit

set_option maxHeartbeats 400000 in
theorem answers19_any (w : World) : Calls Try.prog 21 #[] w (LawT w) := by
  go_enter Try.func21, Try.ntmps21
  go_wp2_with (go_at_call 22; refine (next_any (So := fun _ => True) (Si := fun _ => True) _ _ _ [⟨[], 1, false⟩, ⟨[], 0, false⟩] _ _ _ ?hr (by omega)).mono ?_; rotate_right; rintro e w1 ⟨v, rfl, hv, hb⟩; rw [show nextP [⟨[], 1, false⟩, ⟨[], 0, false⟩] 2 0 = 1 by decide] at hv; subst hv)
  · go_ret
    exact ⟨rfl, (((bl.alloc (Nat.le_refl _) _)).trans (hb.mono (by simp)))⟩
  · refine ⟨rfl, fun _ => ⟨w.heap.size, 0, rfl, trivial, fun i x hx => ?_⟩⟩
    match i, hx with
    | 0, hx =>
      simp at hx
      subst hx
      refine ⟨[.slice none 0 0, .int .i64 1, .bool false], ⟨none, 0, 0, rfl, Els.nil _ _ _ _ _, Nat.le_refl _, by simp [maxLen], by simp, by simp⟩, fun j u hu => ?_⟩
      match j, hu with
      | 0, hu => simp at hu; subst hu; exact (new_cell _ _ _ _).trans rfl
      | 1, hu => simp at hu; subst hu; exact (new_cell _ _ _ _).trans rfl
      | 2, hu => simp at hu; subst hu; exact (new_cell _ _ _ _).trans rfl
    | 1, hx =>
      simp at hx
      subst hx
      refine ⟨[.slice none 0 0, .int .i64 0, .bool false], ⟨none, 0, 0, rfl, Els.nil _ _ _ _ _, Nat.le_refl _, by simp [maxLen], by simp, by simp⟩, fun j u hu => ?_⟩
      match j, hu with
      | 0, hu => simp at hu; subst hu; exact (new_cell _ _ _ _).trans rfl
      | 1, hu => simp at hu; subst hu; exact (new_cell _ _ _ _).trans rfl
      | 2, hu => simp at hu; subst hu; exact (new_cell _ _ _ _).trans rfl

set_option maxHeartbeats 1000000 in
theorem pickNext_walk (A : Option Addr) (n c : Nat) (ts : List Tr) (tries draw : Int) (w : World) (ht : RdE encT w A n ts) (ha : ∀ t ∈ ts, t.addr.length ≤ 140737488355328) :
    Calls Try.prog 6 #[.slice A n c, .int .i64 tries, .int .i64 draw] w (LawT w) := by
  have hlt := Lib.hid ht.len
  have hbw : Below w.heap.size w w := bl
  by_cases h5 : 3000 < n
  · go_enter Try.func6, Try.ntmps6
    go_wp2_with (go_at_call 21; refine (answers19_any _).mono ?_; rintro e w1 ⟨rfl, hb1⟩; have hbw := nx hbw hb1)
    go_ret
    exact ⟨rfl, hbw⟩
  · go_enter Try.func6, Try.ntmps6
    go_wp2_with (first
      | (go_at_call 21; refine (answers19_any _).mono ?_; rintro e w1 ⟨rfl, hb1⟩; have hbw := nx hbw hb1)
      | (go_at_call 23; refine (own19_any A n c ts _ (ht.below hbw) (by omega) ha).mono ?_; rintro e w2 ⟨v2, rfl, ⟨S2, hown2, _⟩, hb2⟩; have hbw := nx hbw hb2; obtain ⟨A2, c2, rfl, hr2, _⟩ := hown2.form)
      | (go_at_call 22; refine (next_any _ _ _ ts _ _ _ hr2 (by rw [hlt.out]; omega)).mono ?_; rintro e w3 ⟨v3, rfl, rfl, hb3⟩; have hbw := nx hbw hb3))
    obtain ⟨W, hW⟩ : ∃ W : World, W = w3 := ⟨_, rfl⟩
    subst hW
    have hnx : Hid (nextP ts tries draw = if bestTo ts tries n = [] then -1 else (((bestTo ts tries n).getD ((max draw 0).toNat % (bestTo ts tries n).length) 0 : Nat) : Int)) := by
      show _ = _
      rw [nextP, hlt.out]
    obtain ⟨nx0, hnx0⟩ : ∃ nx0, nx0 = nextP ts tries draw := ⟨_, rfl⟩
    rw [← hnx0] at hnx ⊢
    clear hnx0
    go_loopw [8, 9, 10] (fun v i _ wr => ∃ k : Nat, i = .int .i64 k ∧ k ≤ n ∧ OwnN wr W.heap.size v (bestTo ts tries k) ∧ Below W.heap.size W wr) (fun _ i _ _ => n - (intOf i).toNat)
    case atStart => exact ⟨0, rfl, Nat.zero_le _, ⟨rfl, .inl ⟨rfl, rfl⟩⟩, bl⟩
    case round =>
      obtain ⟨k, rfl, hk, hown, hbr⟩ := hrel
      have hbl := bestTo_length ts tries k
      have hbwr := nx hbw hbr
      by_cases hlt' : k < n
      · obtain ⟨b, off, rfl, _, hat⟩ := encT_at ht (by omega)
        obtain ⟨t, htk⟩ : ∃ t, ts[k]? = some t := ⟨_, List.getElem?_eq_getElem (by rw [hlt.out]; exact hlt')⟩
        obtain ⟨A', n', c', c0, c1, c2, _⟩ := hat k t htk
        have d0 := below_cell hbwr c0
        have d1 := below_cell hbwr c1
        have d2 := below_cell hbwr c2
        have HAT := Lib.hid hat
        have HTK := Lib.hid htk
        clear hat htk c0 c1 c2
        by_cases hbad : t.bad = true ∨ tries ≤ t.count
        · have HS := Lib.hid (bestTo_skip HTK.out hbad)
          have hb1 : Below wr.heap.size wr (wr.alloc (.cells #[.slice A' n' c', .int .i64 t.count, .bool t.bad] 36)) := bl.alloc (Nat.le_refl _) _
          have hown1 := hown.below hb1
          have hbw1 := nx hbr hb1
          by_cases hb : t.bad = true
          · rw [hb] at hown1 hbw1
            clear hbad hown hb1
            go_wp2
            go_roundw
            case rel => exact ⟨k + 1, by go_num, by omega, by rw [HS.out]; exact hown1, hbw1⟩
            case measure => simp [intOf]; omega
          · have ht' : tries ≤ t.count := hbad.resolve_left hb
            have hbf : t.bad = false := by simpa using hb
            rw [hbf] at hown1 hbw1
            clear hbad hown hb1
            go_wp2
            go_roundw
            case rel => exact ⟨k + 1, by go_num, by omega, by rw [HS.out]; exact hown1, hbw1⟩
            case measure => simp [intOf]; omega
        · have hbf : t.bad = false := by simpa using fun h => hbad (.inl h)
          have ht' : t.count < tries := by
            rcases Int.lt_or_le t.count tries with h | h
            · exact h
            · exact absurd (.inr h) hbad
          have hb1 : Below wr.heap.size wr (wr.alloc (.cells #[.slice A' n' c', .int .i64 t.count, .bool t.bad] 36)) := bl.alloc (Nat.le_refl _) _
          have hown1 := hown.below hb1
          have hbw1 := nx hbr hb1
          rw [hbf] at hown1 hbw1 d2
          clear hbad hown hb1
          rcases hbe : bestTo ts tries k with _ | ⟨b0, l0⟩
          · rw [hbe] at hown1
            have HS := Lib.hid (bestTo_first HTK.out (by rw [hbf]; simp) ht' hbe)
            obtain ⟨Av, cv, hv⟩ := hown1.form
            rw [List.length_nil] at hv
            subst hv
            clear hbe
            have hown2 : ∀ n1, OwnN ((wr.alloc (.cells #[.slice A' n' c', .int .i64 t.count, .bool false] 36)).drewN n1) W.heap.size _ [] := fun n1 => hown1
            go_wp2
            go_quiet (fail)
            go_wp2
            go_quiet (fail)
            go_wp2_with ((with_reducible show wpList _ _ _ (⟨some 75, _, _, _, _, _⟩ :: _) _ _); refine wpL_pushN rfl (.tmp 72) (.tmp 74) rfl W.heap.size _ [] rfl (hown2 _) k rfl ?hb ?hbase ?_; rotate_right; intro v2 w2 hown3 hb3)
            case hb => simp
            case hbase => simp; have := hbr.size; omega
            have hbw4 := (dN hbw1 _).trans hb3
            go_roundw
            case rel => exact ⟨k + 1, by go_num, by omega, by rw [HS.out]; exact hown3, hbw4⟩
            case measure => simp [intOf]; omega
          · have hb0 : b0 < n := by have := bestTo_lt ts tries k b0 (by rw [hbe]; simp); omega
            obtain ⟨u, hu⟩ : ∃ u, ts[b0]? = some u := ⟨_, List.getElem?_eq_getElem (by rw [hlt.out]; exact hb0)⟩
            obtain ⟨_, _, _, _, e1, _⟩ := HAT.out b0 u hu
            have f1 := below_cell (nx hbw hbw1) e1
            have HS := Lib.hid (bestTo_next HTK.out (by rw [hbf]; simp) ht' hbe hu)
            have hg : ∃ g cv, u8 = .slice (some ⟨g, 0, none⟩) (l0.length + 1) cv ∧ (wr.alloc (.cells #[.slice A' n' c', .int .i64 t.count, .bool false] 36)).cell? ⟨g, 0, none⟩ = some (.int .i64 (b0 : Int)) := by
              obtain ⟨g, cv, h1, h2, h3⟩ := hown1.flat (by rw [hbe]; simp)
              exact ⟨g, cv, by rw [h1, hbe]; rfl, h3 0 b0 (by rw [hbe]; rfl)⟩
            obtain ⟨g, cv, rfl, hc0⟩ := hg
            have HBE := Lib.hid hbe
            clear hbe e1 hu
            by_cases hlt2 : t.count < u.count
            · have HS3 : Hid (bestTo ts tries (k + 1) = [k]) := by rw [HS.out, if_pos hlt2]; rfl
              have hnil : ∀ W2 : World, OwnN W2 W.heap.size (.slice none 0 0) [] := fun W2 => ⟨rfl, .inl ⟨rfl, rfl⟩⟩
              go_wp2
              go_quiet (fail)
              go_wp2
              go_quiet (fail)
              go_wp2_with ((with_reducible show wpList _ _ _ (⟨some 75, _, _, _, _, _⟩ :: _) _ _); refine wpL_pushN rfl (.tmp 72) (.tmp 74) rfl W.heap.size _ [] rfl (hnil _) k rfl ?hb ?hbase ?_; rotate_right; intro v2 w2 hown3 hb3)
              case hb => simp
              case hbase => simp; have := hbr.size; omega
              have hbw4 := (dN hbw1 _).trans hb3
              go_roundw
              case rel => exact ⟨k + 1, by go_num, by omega, by rw [HS3.out]; exact hown3, hbw4⟩
              case measure => simp [intOf]; omega
            · have hlt3 : u.count ≤ t.count := by omega
              have hlt4 : decide (t.count < u.count) = false := by simpa using hlt3
              by_cases heq : t.count = u.count
              · have heq' : (t.count == u.count) = true := by rw [beq_iff_eq]; exact heq
                have HS3 : Hid (bestTo ts tries (k + 1) = bestTo ts tries k ++ [k]) := by rw [HS.out, if_neg hlt2, if_pos heq]; rfl
                clear heq hlt2
                have hown2 : ∀ n1, OwnN ((wr.alloc (.cells #[.slice A' n' c', .int .i64 t.count, .bool false] 36)).drewN n1) W.heap.size _ (bestTo ts tries k) := fun n1 => hown1
                go_wp2
                go_quiet (fail)
                go_wp2
                go_quiet (fail)
                go_wp2_with ((with_reducible show wpList _ _ _ (⟨some 75, _, _, _, _, _⟩ :: _) _ _); refine wpL_pushN rfl (.tmp 72) (.tmp 74) rfl W.heap.size _ (bestTo ts tries k) rfl (hown2 _) k rfl ?hb ?hbase ?_; rotate_right; intro v2 w2 hown3 hb3)
                case hb => omega
                case hbase => simp; have := hbr.size; omega
                have hbw4 := (dN hbw1 _).trans hb3
                go_roundw
                case rel => exact ⟨k + 1, by go_num, by omega, by rw [HS3.out]; exact hown3, hbw4⟩
                case measure => simp [intOf]; omega
              · have heq' : (t.count == u.count) = false := by rw [beq_eq_false_iff_ne]; exact heq
                have HS2 : Hid (bestTo ts tries (k + 1) = bestTo ts tries k) := by rw [HS.out, if_neg hlt2, if_neg heq]; rfl
                clear heq hlt2
                go_wp2
                go_quiet (fail)
                go_wp2
                go_quiet (fail)
                go_wp2
                go_roundw
                case rel => exact ⟨k + 1, by go_num, by omega, by rw [HS2.out]; exact hown1, dN hbw1 _⟩
                case measure => simp [intOf]; omega
      · obtain rfl : k = n := by omega
        rcases hbe : bestTo ts tries k with _ | ⟨b0, l0⟩
        · rw [hbe, if_pos rfl] at hnx
          obtain ⟨Av, cv, hv⟩ := hown.form
          rw [hbe, List.length_nil] at hv
          subst hv
          clear hbe hown
          rw [hnx.out]
          go_wp2
          go_ret
          exact ⟨rfl, hbwr⟩
        · rw [if_neg (by rw [hbe]; simp)] at hnx
          have hlen : Hid ((bestTo ts tries k).length = l0.length + 1) := by rw [hbe]; rfl
          obtain ⟨g, cv, hv, _, hcell⟩ := hown.flat (by rw [hbe]; simp)
          rw [hlen.out] at hv
          subst hv
          by_cases hd : draw < 0
          · have hc0 := hcell 0 b0 (by rw [hbe]; rfl)
            have hmx : Hid (nx0 = (b0 : Int)) := by
              show _ = _
              rw [hnx.out, show (max draw 0).toNat = 0 by omega, Nat.zero_mod, hbe]; rfl
            clear hbe hcell hown hnx
            rw [hmx.out]
            go_wp2
            go_ret
            exact ⟨rfl, hbwr⟩
          · obtain ⟨d, rfl⟩ := Int.eq_ofNat_of_zero_le (show 0 ≤ draw by omega)
            have hjl : d % (l0.length + 1) < l0.length + 1 := Nat.mod_lt _ (by omega)
            obtain ⟨x, hx⟩ : ∃ x, (bestTo ts tries k)[d % (l0.length + 1)]? = some x := ⟨_, List.getElem?_eq_getElem (by rw [hlen.out]; exact hjl)⟩
            have hj1 : (0 : Int) ≤ (d : Int) % ((l0.length : Int) + 1) := Int.emod_nonneg _ (by omega)
            have hj2 : (d : Int) % ((l0.length : Int) + 1) < (l0.length : Int) + 1 := Int.emod_lt_of_pos _ (by omega)
            have hc0 := hcell _ x hx
            have hmx : Hid (nx0 = (x : Int)) := by
              show _ = _
              rw [hnx.out, show (max (d : Int) 0).toNat = d by omega, hlen.out]
              simp [List.getD, hx]
            clear hbe hcell hown hnx hx
            rw [hmx.out]
            go_wp2
            go_ret
            exact ⟨rfl, hbwr⟩
end Go.Proofs.Ytnhjfdgdjfndiaa
