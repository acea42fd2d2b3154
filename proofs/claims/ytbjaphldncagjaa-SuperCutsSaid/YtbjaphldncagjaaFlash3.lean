/- flash: settle. -/
import Derived.Test.YtbjaphldncagjaaFlash2
import Derived.Deep.RegionHeld3
namespace Go.Proofs.Ytbjaphldncagjaa
open Go.RowKit

theorem step_copy_own {P : Program} {w : World} {ops : Array Oper} {o : Oper} {a : Act} {K : Act → World → Prop} {Q : Exit → Act → World → Prop} {E : Prop} (hgd : Region.wanted o (yielded ops a.tmps) = true) (d s : Operand) (dT sT : TypeId)
    (ho : o.op = .call { callee := .builtin .copy, args := #[d, s], argTypes := #[dT, sT] }) (elem : TypeId) (hu : P.underlying dT = some (.slice elem)) (hsz : (P.info? elem).map (·.size) = some 1)
    (g off dLen dCap : Nat) (ad : Addr) (sLen sCap : Nat) (hd : a.eval d = .slice (some ⟨g, off, none⟩) dLen dCap) (hs : a.eval s = .slice (some ad) sLen sCap)
    (cur : Array Value) (t : TypeId) (hg : w.heap[g]? = some (.cells cur t (0, 0))) (cs : List Value) (hn : cs.length = Nat.min sLen dLen)
    (hsrc : ∀ j v, cs[j]? = some v → w.cell? (ad.add j) = some v) (hfit : off + cs.length ≤ cur.size) (h1 : ∀ v ∈ cs, v.oneCell' = true)
    (h : K (a.put o.dst (goInt cs.length)) (w.setRow g (cur.toList.take off ++ (cs ++ cur.toList.drop (off + cs.length))).toArray)) : if Region.wanted o (yielded ops a.tmps) = true then Oper.wp P o a w K Q else E := by
  rw [if_pos hgd]
  exact wp_copy_own d s dT sT ho elem hu hsz g off dLen dCap ad sLen sCap hd hs cur t hg cs hn hsrc hfit h1 h

theorem OwnE.row {α : Type} {E : Enc α} {e : TypeId} {S : Nat → Prop} {w : World} {base : Nat} {v : Value} {xs : List α} (h : OwnE E e S w base v xs) (hn : 0 < xs.length) : ∃ g c cur, v = .slice (some ⟨g, 0, none⟩) xs.length c ∧ base ≤ g ∧ xs.length ≤ c ∧ w.heap[g]? = some (.cells cur e (0, 0)) ∧ cur.size = c * E.size ∧
    ∀ i x, xs[i]? = some x → E.R S w ((cur.toList.drop (i * E.size)).take E.size) x := by
  obtain ⟨cells, hw, hr, hS⟩ := h
  rcases hw.2 with ⟨rfl, h0⟩ | ⟨g, cap, cur, rfl, h2, h3, h4, h5, h6, h7⟩
  · omega
  · refine ⟨g, cap, cur, rfl, h2, h4, h3, h6, fun i x hx => ?_⟩
    have hi : i < xs.length := (List.getElem?_eq_some_iff.1 hx).1
    have hi1 : (i + 1) * E.size ≤ xs.length * E.size := Nat.mul_le_mul_right _ hi
    have hi3 : (i + 1) * E.size = i * E.size + E.size := by rw [Nat.add_mul, Nat.one_mul]
    have := hr i x hx
    rw [← h7, List.drop_take, List.take_take, Nat.min_eq_left (by omega)] at this
    exact this

theorem sec_row (l : List Value) (p : Nat) (t : Value) (m : List Value) (hm : m.length = 512) (hp : p + 513 ≤ l.length) : (l.set (p + 512) t).take p ++ (m ++ (l.set (p + 512) t).drop (p + m.length)) = l.take p ++ ((m ++ [t]) ++ l.drop (p + 513)) := by
  rw [List.take_set_of_le (by omega), hm, List.append_assoc m, List.drop_set, if_neg (by omega), Nat.sub_self]
  congr 2
  rw [List.drop_eq_getElem_cons (by omega), List.set_cons_zero]
  rfl

set_option maxRecDepth 100000 in
set_option maxHeartbeats 1000000 in
theorem settle_any (w : World) (B g : Nat) (sv : Value) (sure : List (Option (List UInt8))) (k : Int) (A : Option Addr) (c : Nat) (bs : List UInt8) (torn : Bool) (hc0 : w.cell? ⟨g, 0, none⟩ = some sv) (hs : OwnE encSec 177 noS w B sv sure)
    (hk0 : 0 ≤ k) (hk1 : k < sure.length) (hn : sure.length ≤ 4096) (hb : RdB w A 512 bs) (hA : ∀ b off, A = some ⟨b, off, none⟩ → sv.ownBlock ≠ some b) (hg : sv.ownBlock ≠ some g) :
    Calls Try.prog 87 #[.pointer (some ⟨g, 0, none⟩), .agg #[.int .i64 k, .slice A 512 c], .bool torn] w (fun e w' => e = .returned (.tuple #[]) ∧ OwnE encSec 177 noS w' B sv (doneL sure k bs torn) ∧ Chg (fun x => sv.ownBlock = some x) w w') := by
  obtain ⟨i, rfl⟩ := Int.eq_ofNat_of_zero_le hk0
  have hi : i < sure.length := by omega
  obtain ⟨s, cc, cur, rfl, hBs, hlc, hcur, hcs, hat⟩ := hs.row (by omega)
  have hcm : cc ≤ maxLen := hs.form.elim fun _ h => h.elim fun _ h => by obtain ⟨e, _, _, h⟩ := h; injection e with _ _ e; subst e; exact h
  obtain ⟨b0, off, rfl, hcells⟩ := hb.flat (by omega)
  obtain ⟨x, hx⟩ : ∃ x, sure[i]? = some x := ⟨_, List.getElem?_eq_getElem hi⟩
  obtain ⟨hr1, hr2, hr3, hr4⟩ := hat i x hx
  have hi1 : (i + 1) * 513 ≤ sure.length * 513 := Nat.mul_le_mul_right _ hi
  have hi2 : sure.length * 513 ≤ cc * 513 := Nat.mul_le_mul_right _ hlc
  have hsl : s < w.heap.size := (Array.getElem?_eq_some_iff.1 hcur).1
  have hgl : g < w.heap.size := World.block_lt_of_cell? w _ hc0
  have hbl := World.block_lt_of_cell? w _ (hcells 0 _ (List.getElem?_eq_getElem (by rw [hb.len]; omega)))
  obtain ⟨w1, hw1⟩ : ∃ w1, w1 = w.alloc (.cells #[.int .i64 (i : Int), .slice (some ⟨b0, off, none⟩) 512 c] 131) := ⟨_, rfl⟩
  have hb1 : Below w.heap.size w w1 := by rw [hw1]; exact bl.alloc (Nat.le_refl _) _
  have x0 : w1.cell? ⟨w.heap.size, 0, none⟩ = some (.int .i64 (i : Int)) := by rw [hw1]; exact new_cell w _ _ 0
  have x1 : w1.cell? ⟨w.heap.size, 1, none⟩ = some (.slice (some ⟨b0, off, none⟩) 512 c) := by rw [hw1]; exact new_cell w _ _ 1
  have g0 := below_cell hb1 hc0
  have hcur1 := (hb1.block s hsl).trans hcur
  have t0 : w1.cell? ⟨s, i * 513 + 512, none⟩ = some (.bool x.isNone) := by
    rw [cell_of_row _ _ _ _ _ _ hcur1]
    have : ((cur.toList.drop (i * 513)).take 513)[512]? = some (.bool x.isNone) := hr2
    rw [List.getElem?_take, if_pos (by omega), List.getElem?_drop, Array.getElem?_toList] at this
    exact this
  have ft : ∀ k, w1.frozen? ⟨s, k, none⟩ = false := fun k => frozen_of_row _ _ _ _ _ hcur1
  have HC := Lib.hid hcur1
  have HC0 := Lib.hid hcur
  have HS := Lib.hid hcs
  have hne : b0 ≠ s := fun e => hA b0 off rfl (by rw [e]; rfl)
  clear hcur hcur1 hcs hat hr1 hr2 hr3 hr4
  have HX := Lib.hid hx
  clear hx
  go_enter Try.func87, Try.ntmps87
  go_upto_region 1 with (fail)
  rw [← hw1]
  clear hw1
  go_wp2
  go_quiet (fail)
  go_wp2
  obtain ⟨w2, hw2⟩ : ∃ w2, w2 = (w1.drewN nq).setCell ⟨s, i * 513 + 512, none⟩ (.bool torn) := ⟨_, rfl⟩
  rw [← hw2]
  have hc2 : w2.heap[s]? = some (.cells (cur.setIfInBounds (i * 513 + 512) (.bool torn)) 177 (0, 0)) := by rw [hw2]; exact heap_setCell_same _ _ _ _ _ _ HC.out
  have hsame : ∀ j, j ≠ s → w2.heap[j]? = w1.heap[j]? := fun j hj => by rw [hw2]; exact heap_setCell_other (w1.drewN nq) ⟨s, i * 513 + 512, none⟩ j _ hj
  have y1 : w2.cell? ⟨w.heap.size, 1, none⟩ = some (.slice (some ⟨b0, off, none⟩) 512 c) := (World.cell?_of_block (a := ⟨w.heap.size, 1, none⟩) (hsame _ (Nat.ne_of_gt hsl))).trans x1
  have hsrc : ∀ j v, (bs.map bV)[j]? = some v → w2.cell? ((⟨b0, off, none⟩ : Addr).add j) = some v := fun j v hv => by
    rw [add_flat]
    refine (World.cell?_of_block (a := ⟨b0, off + j, none⟩) (hsame _ hne)).trans ?_
    rw [List.getElem?_map] at hv
    cases hj : bs[j]? with
    | none => rw [hj] at hv; cases hv
    | some y => rw [hj] at hv; injection hv with hv; subst hv; exact below_cell hb1 (hcells j y hj)
  have hch : Chg (fun x => x = s) w w2 := by rw [hw2]; exact (((Chg.of_below (F := fun x => x = s) hb1).drewN nq).setCell (p := ⟨s, i * 513 + 512, none⟩) (Or.inl rfl) _)
  have HSAME := Lib.hid hsame
  have HSRC := Lib.hid hsrc
  have HC2 := Lib.hid hc2
  have HL := Lib.hid hb.len
  clear hsame hsrc hc2 hw2 x0 x1 g0 t0 ft hcells
  go_region_held3 (fun w' => w'.cell? ⟨w.heap.size, 1, none⟩ = some (.slice (some ⟨b0, off, none⟩) 512 c))
    (first
      | with_reducible exact y1
      | with_reducible exact below_cell bl.drew y1
      | with_reducible exact (cell_setRow_other _ _ _ ⟨w.heap.size, 1, none⟩ (Nat.ne_of_gt hsl)).trans (below_cell bl.drew y1))
    ((refine step_copy_own (by rfl) (.tmp 21) (.tmp 23) _ _ (by rfl) 5 Try.underlying35 sizeB s (i * 513) 512 512 ⟨b0, off, none⟩ 512 c (by rfl) (by rfl) _ _ HC2.out (bs.map bV) (by rw [List.length_map, HL.out]; rfl) HSRC.out (by rw [List.length_map, HL.out, Array.size_setIfInBounds, HS.out]; show _ ≤ cc * 513; omega) (bV_one bs) ?_))
  go_wp2
  go_end0
  have hch2 : Chg (fun x => x = s) w (w2.drew.setRow s (List.take (i * 513) (cur.setIfInBounds (i * 513 + 512) (Value.bool torn)).toList ++ (List.map bV bs ++ List.drop (i * 513 + (List.map bV bs).length) (cur.setIfInBounds (i * 513 + 512) (Value.bool torn)).toList)).toArray) := hch.drew.setRow (Or.inl rfl) _
  refine ⟨rfl, ?_, hch2.mono (fun x hx => .inl (by subst hx; rfl))⟩
  have hcz := HS.out
  refine OwnE.splice (r := bs.map bV ++ [.bool torn]) hs HX.out HC0.out (setRow_heap _ _ _ _ _ _ HC2.out) ?_ ?_ hch2.size (fun b hb => hb.elim) ?_
  · rw [List.length_append, List.length_map, HL.out]; rfl
  · show _ = List.take (i * 513) cur.toList ++ (_ ++ List.drop ((i + 1) * 513) cur.toList)
    have := sec_row cur.toList (i * 513) (.bool torn) (bs.map bV) (by rw [List.length_map]; exact HL.out) (by rw [Array.length_toList, hcz]; show _ ≤ cc * 513; omega)
    rw [show (i + 1) * 513 = i * 513 + 513 by omega, ← this]
    simp only [Array.toList_setIfInBounds]
  · refine ⟨by rw [List.length_append, List.length_map, HL.out]; rfl, ?_, fun j hj => ?_, fun b hb => ?_⟩
    · rw [List.getElem?_append_right (by rw [List.length_map, HL.out]; omega), List.length_map, HL.out]
      cases torn <;> rfl
    · refine ⟨bs[j]'(by rw [HL.out]; exact hj), ?_⟩
      rw [List.getElem?_append_left (by rw [List.length_map, HL.out]; exact hj), List.getElem?_map, List.getElem?_eq_getElem (by rw [HL.out]; exact hj)]
      rfl
    · cases torn
      · injection hb with hb
        subst hb
        rw [List.take_append_of_le_length (by rw [List.length_map, HL.out]; omega), List.take_of_length_le (by rw [List.length_map, HL.out]; omega)]
      · cases hb
end Go.Proofs.Ytbjaphldncagjaa
