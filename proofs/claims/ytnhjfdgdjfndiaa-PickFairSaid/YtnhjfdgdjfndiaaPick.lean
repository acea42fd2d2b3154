/- pick.Next: the place of the one that is asked next. -/
import Derived.Test.YtnhjfdgdjfndiaaChecked
import Derived.Test.YtnhjfdgdjfndiaaPickPlain
namespace Go.Proofs.Ytnhjfdgdjfndiaa
open Go.RowKit

theorem infoI : (Try.prog.info? 3).map (fun i => (i.zero, i.size, i.bytes)) = some (some (.int .i64 0), 1, 8) := by kernel_rfl

/-- The places so far, as a row of the call's own. -/
def OwnN (w : World) (base : Nat) (v : Value) (l : List Nat) : Prop := w.ownsRow base 3 1 v l.length (l.map fun k : Nat => Value.int .i64 (k : Int))
theorem OwnN.below {w w' : World} {base : Nat} {v : Value} {l : List Nat} (h : OwnN w base v l) (hb : Below w.heap.size w w') : OwnN w' base v l :=
  World.ownsRow.kept h (row := none) ⟨hb.os, hb.tape, hb.output, hb.size, fun k hk _ => hb.block k hk⟩ (by cases v.ownBlock <;> simp)
theorem OwnN.form {w : World} {base : Nat} {v : Value} {l : List Nat} (h : OwnN w base v l) : ∃ A c, v = .slice A l.length c := by
  rcases h.2 with ⟨rfl, h0⟩ | ⟨g, cap, cur, rfl, _⟩
  · exact ⟨none, 0, by rw [h0]⟩
  · exact ⟨_, cap, rfl⟩
theorem OwnN.flat {w : World} {base : Nat} {v : Value} {l : List Nat} (h : OwnN w base v l) (hn : 0 < l.length) : ∃ g c, v = .slice (some ⟨g, 0, none⟩) l.length c ∧ l.length ≤ c ∧ ∀ (k x : Nat), l[k]? = some x → w.cell? ⟨g, k, none⟩ = some (.int .i64 (x : Int)) := by
  rcases h.2 with ⟨rfl, h0⟩ | ⟨g, cap, cur, rfl, h2, h3, h4, h5, h6, h7⟩
  · omega
  · refine ⟨g, cap, rfl, h4, fun k x hx => ?_⟩
    have hc := World.ownsRow.cells h (g := g) rfl k (.int .i64 (x : Int)) (by rw [List.getElem?_map, hx]; rfl)
    rw [add_flat] at hc
    simpa using hc
theorem OwnN.one (w : World) (k : Nat) : OwnN (w.alloc (.cells #[.int .i64 (k : Int)] 3)) w.heap.size (.slice (some ⟨w.heap.size, 0, none⟩) 1 1) [k] :=
  World.ownsRow_lit (e := 3) (size := 1) w #[.int .i64 (k : Int)] 1 (Nat.le_refl _) (by simp [maxLen]) rfl
theorem OwnN.base_le {w : World} {base base' : Nat} {v : Value} {l : List Nat} (h : OwnN w base v l) (hb : base' ≤ base) : OwnN w base' v l := by
  refine ⟨h.1, ?_⟩
  rcases h.2 with h2 | ⟨g, cap, cur, h1, h2, h3⟩
  · exact .inl h2
  · exact .inr ⟨g, cap, cur, h1, by omega, h3⟩

/-- append(s, k): one int. -/
theorem wpL_pushN {w : World} {ops : Array Oper} {rest : List Oper} {o : Oper} {a : Act} {Q : Exit → Act → World → Prop} (hgd : Region.wanted o (yielded ops a.tmps) = true) (s x : Operand)
    (ho : o.op = .call { callee := .builtin .append, args := #[s, x], argTypes := #[34, 34] })
    (base : Nat) (v : Value) (l : List Nat) (hs : a.eval s = v) (hown : OwnN w base v l) (k : Nat) {g : Nat} (hx : a.eval x = .slice (some ⟨g, 0, none⟩) 1 1)
    (hb : l.length + 1 ≤ 17592186044416) (hbase : base ≤ w.heap.size)
    (h : ∀ v' w', OwnN w' base v' (l ++ [k]) → Below base w w' → wpList Try.prog ops Q rest (a.put o.dst v') w') (hgs : g = w.heap.size := by simp) :
    wpList Try.prog ops Q (o :: rest) a (w.alloc (.cells #[.int .i64 (k : Int)] 3)) := by
  subst hgs
  obtain ⟨i0, hi, hz, hsz, hby⟩ := info_parts infoI
  refine wpList_want hgd fun K hK => ?_
  refine wp_append_any (P := Try.prog) s x _ ho base 3 i0 _ 1 8 Try.underlying34 hi hz hsz hby rfl (by decide) v l.length _ hs (World.ownsRow.alloc hown _) _ 1 1 [.int .i64 (k : Int)] hx ?_ (by simp; rfl) (by unfold maxLen; omega) (by omega) (by simp; omega) fun v' w' h1 h2 h3 => hK _ _ (h v' w' ?_ ?_)
  · refine ⟨rfl, fun _ => ⟨w.heap.size, 0, rfl, fun j u hu => ?_⟩⟩
    have := cell_one_new w (.int .i64 (k : Int)) 3 j u hu
    rwa [add_flat] at this
  · unfold OwnN
    rw [List.length_append, List.map_append]
    exact h1
  · exact ((Below.refl _ _).alloc hbase _).grown h2 (by simp; omega) fun j hj => (World.ownsRow.lt hown j hj).1

set_option maxHeartbeats 400000 in
theorem next_any (A : Option Addr) (n c : Nat) (ts : List Tr) (tries draw : Int) (w : World) {So Si : Nat → Prop} (ht : Els encT So Si w A n ts) (hn : n ≤ 1000000) :
    Calls Try.prog 22 #[.slice A n c, .int .i64 tries, .int .i64 draw] w (RetP (fun v _ => v = .int .i64 (nextP ts tries draw)) w) := by
  have hlt := Lib.hid ht.len
  go_enter Try.func22, Try.ntmps22
  go_wp2
  go_loopw [7, 8, 9, 12] (fun v _ _ i wr => ∃ k : Nat, i = .int .i64 k ∧ k ≤ n ∧ OwnN wr w.heap.size v (bestTo ts tries k) ∧ Below w.heap.size w wr) (fun _ _ _ i _ => n - (intOf i).toNat)
  case atStart => exact ⟨0, rfl, Nat.zero_le _, ⟨rfl, .inl ⟨rfl, rfl⟩⟩, bl⟩
  case round =>
    obtain ⟨k, rfl, hk, hown, hbw⟩ := hrel
    have hbl := bestTo_length ts tries k
    by_cases hlt' : k < n
    · obtain ⟨b, off, rfl, _, hat⟩ := encT_at ht (by omega)
      obtain ⟨t, htk⟩ : ∃ t, ts[k]? = some t := ⟨_, List.getElem?_eq_getElem (by rw [hlt.out]; exact hlt')⟩
      obtain ⟨A', n', c', c0, c1, c2, _⟩ := hat k t htk
      have d0 := below_cell hbw c0
      have d1 := below_cell hbw c1
      have d2 := below_cell hbw c2
      have HAT := Lib.hid hat
      have HTK := Lib.hid htk
      clear hat htk c0 c1 c2
      by_cases hbad : t.bad = true ∨ tries ≤ t.count
      · have HS := Lib.hid (bestTo_skip HTK.out hbad)
        have hb1 : Below wr.heap.size wr (wr.alloc (.cells #[.slice A' n' c', .int .i64 t.count, .bool t.bad] 36)) := bl.alloc (Nat.le_refl _) _
        have hown1 := hown.below hb1
        have hbw1 := nx hbw hb1
        by_cases hb : t.bad = true
        · rw [hb] at hown1 hbw1
          clear hbad hown hb1
          go_wp2
          go_roundw
          case rel => exact ⟨k + 1, by go_num, by omega, by rw [HS.out]; exact hown1, hbw1⟩
          case measure => simp [intOf]; omega
        · have ht' : tries ≤ t.count := hbad.resolve_left hb
          have hbf : t.bad = false := by simpa using hb
          rw [hbf] at hown1 hbw1
          clear hbad hown hb1
          go_wp2
          go_roundw
          case rel => exact ⟨k + 1, by go_num, by omega, by rw [HS.out]; exact hown1, hbw1⟩
          case measure => simp [intOf]; omega
      · have hbf : t.bad = false := by simpa using fun h => hbad (.inl h)
        have ht' : t.count < tries := by
          rcases Int.lt_or_le t.count tries with h | h
          · exact h
          · exact absurd (.inr h) hbad
        have hb1 : Below wr.heap.size wr (wr.alloc (.cells #[.slice A' n' c', .int .i64 t.count, .bool t.bad] 36)) := bl.alloc (Nat.le_refl _) _
        have hown1 := hown.below hb1
        have hbw1 := nx hbw hb1
        rw [hbf] at hown1 hbw1 d2
        clear hbad hown hb1
        rcases hbe : bestTo ts tries k with _ | ⟨b0, l0⟩
        · rw [hbe] at hown1
          have HS := Lib.hid (bestTo_first HTK.out (by rw [hbf]; simp) ht' hbe)
          obtain ⟨Av, cv, hv⟩ := hown1.form
          rw [List.length_nil] at hv
          subst hv
          clear hbe hown1
          go_wp2
          go_quiet (fail)
          go_wp2
          go_roundw
          case rel => exact ⟨k + 1, by go_num, by omega, by rw [HS.out]; simpa using (OwnN.one ((wr.alloc (.cells #[.slice A' n' c', .int .i64 t.count, .bool false] 36)).drewN nq) k).base_le (by simp; have := hbw.size; omega), (dN hbw1 nq).alloc (by simp; have := hbw.size; omega) _⟩
          case measure => simp [intOf]; omega
        · have hb0 : b0 < n := by have := bestTo_lt ts tries k b0 (by rw [hbe]; simp); omega
          obtain ⟨u, hu⟩ : ∃ u, ts[b0]? = some u := ⟨_, List.getElem?_eq_getElem (by rw [hlt.out]; exact hb0)⟩
          obtain ⟨_, _, _, _, e1, _⟩ := HAT.out b0 u hu
          have f1 := below_cell hbw1 e1
          have HS := Lib.hid (bestTo_next HTK.out (by rw [hbf]; simp) ht' hbe hu)
          have hg : ∃ g cv, u7 = .slice (some ⟨g, 0, none⟩) (l0.length + 1) cv ∧ (wr.alloc (.cells #[.slice A' n' c', .int .i64 t.count, .bool false] 36)).cell? ⟨g, 0, none⟩ = some (.int .i64 (b0 : Int)) := by
            obtain ⟨g, cv, h1, h2, h3⟩ := hown1.flat (by rw [hbe]; simp)
            exact ⟨g, cv, by rw [h1, hbe]; rfl, h3 0 b0 (by rw [hbe]; rfl)⟩
          obtain ⟨g, cv, rfl, hc0⟩ := hg
          have HBE := Lib.hid hbe
          clear hbe e1 hu
          by_cases hlt2 : t.count < u.count
          · go_wp2
            go_quiet (fail)
            go_wp2
            go_roundw
            case rel => exact ⟨k + 1, by go_num, by omega, by rw [HS.out, if_pos hlt2]; simpa using (OwnN.one ((wr.alloc (.cells #[.slice A' n' c', .int .i64 t.count, .bool false] 36)).drewN nq) k).base_le (by simp; have := hbw.size; omega), (dN hbw1 nq).alloc (by simp; have := hbw.size; omega) _⟩
            case measure => simp [intOf]; omega
          · have hlt3 : u.count ≤ t.count := by omega
            have hlt4 : decide (t.count < u.count) = false := by simpa using hlt3
            by_cases heq : t.count = u.count
            · have heq' : (t.count == u.count) = true := by rw [beq_iff_eq]; exact heq
              have HS3 : Hid (bestTo ts tries (k + 1) = bestTo ts tries k ++ [k]) := by rw [HS.out, if_neg hlt2, if_pos heq]; rfl
              clear heq hlt2
              go_wp2
              go_quiet (fail)
              go_wp2
              go_quiet (fail)
              have hown2 : ∀ n1, OwnN ((wr.alloc (.cells #[.slice A' n' c', .int .i64 t.count, .bool false] 36)).drewN n1) w.heap.size _ (bestTo ts tries k) := fun n1 => hown1
              go_wp2_with ((with_reducible show wpList _ _ _ (⟨some 58, _, _, _, _, _⟩ :: _) _ _); refine wpL_pushN rfl (.tmp 55) (.tmp 57) rfl w.heap.size _ (bestTo ts tries k) rfl (hown2 _) k rfl ?hb ?hbase ?_; rotate_right; intro v2 w2 hown3 hb3)
              case hb => omega
              case hbase => simp; have := hbw.size; omega
              have hbw4 := (dN hbw1 _).trans hb3
              go_roundw
              case rel => exact ⟨k + 1, by go_num, by omega, by rw [HS3.out]; exact hown3, hbw4⟩
              case measure => simp [intOf]; omega
            · have heq' : (t.count == u.count) = false := by rw [beq_eq_false_iff_ne]; exact heq
              have HS2 : Hid (bestTo ts tries (k + 1) = bestTo ts tries k) := by rw [HS.out, if_neg hlt2, if_neg heq]; rfl
              clear heq hlt2
              go_wp2
              go_quiet (fail)
              go_wp2
              go_quiet (fail)
              go_wp2
              go_roundw
              case rel => exact ⟨k + 1, by go_num, by omega, by rw [HS2.out]; exact hown1, dN hbw1 _⟩
              case measure => simp [intOf]; omega
    · obtain rfl : k = n := by omega
      have hnx : Hid (nextP ts tries draw = if bestTo ts tries k = [] then -1 else (((bestTo ts tries k).getD ((max draw 0).toNat % (bestTo ts tries k).length) 0 : Nat) : Int)) := by
        show _ = _
        rw [nextP, hlt.out]
      rcases hbe : bestTo ts tries k with _ | ⟨b0, l0⟩
      · rw [hbe, if_pos rfl] at hnx
        obtain ⟨Av, cv, hv⟩ := hown.form
        rw [hbe, List.length_nil] at hv
        subst hv
        clear hbe hown
        go_wp2
        go_ret
        exact ⟨_, rfl, by rw [hnx.out]; rfl, hbw⟩
      · rw [if_neg (by rw [hbe]; simp)] at hnx
        have hlen : Hid ((bestTo ts tries k).length = l0.length + 1) := by rw [hbe]; rfl
        obtain ⟨g, cv, hv, _, hcell⟩ := hown.flat (by rw [hbe]; simp)
        rw [hlen.out] at hv
        subst hv
        by_cases hd : draw < 0
        · have hc0 := hcell 0 b0 (by rw [hbe]; rfl)
          have hmx : Hid (nextP ts tries draw = (b0 : Int)) := by
            show _ = _
            rw [hnx.out, show (max draw 0).toNat = 0 by omega, Nat.zero_mod, hbe]; rfl
          clear hbe hcell hown hnx
          go_wp2
          go_ret
          exact ⟨_, rfl, by rw [hmx.out]; rfl, hbw⟩
        · obtain ⟨d, rfl⟩ := Int.eq_ofNat_of_zero_le (show 0 ≤ draw by omega)
          have hjl : d % (l0.length + 1) < l0.length + 1 := Nat.mod_lt _ (by omega)
          obtain ⟨x, hx⟩ : ∃ x, (bestTo ts tries k)[d % (l0.length + 1)]? = some x := ⟨_, List.getElem?_eq_getElem (by rw [hlen.out]; exact hjl)⟩
          have hj1 : (0 : Int) ≤ (d : Int) % ((l0.length : Int) + 1) := Int.emod_nonneg _ (by omega)
          have hj2 : (d : Int) % ((l0.length : Int) + 1) < (l0.length : Int) + 1 := Int.emod_lt_of_pos _ (by omega)
          have hc0 := hcell _ x hx
          have hmx : Hid (nextP ts tries d = (x : Int)) := by
            show _ = _
            rw [hnx.out, show (max (d : Int) 0).toNat = d by omega, hlen.out]
            simp [List.getD, hx]
          clear hbe hcell hown hnx hx
          go_wp2
          go_ret
          exact ⟨_, rfl, by rw [hmx.out]; rfl, hbw⟩
end Go.Proofs.Ytnhjfdgdjfndiaa
