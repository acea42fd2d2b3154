/- Small letters: the program's and the reference's; names that are the same but for their letters' cases. -/
import Derived.Test.YtjpkddmdhdmhgaaEqs
import Derived.Test.YtjpkddmdhdmhgaaWtr3
namespace Go.Proofs.Ytjpkddmdhdmhgaa
open Go.RowKit
set_option maxRecDepth 100000

def smallC (c : UInt8) : UInt8 := if 65 ≤ c.toNat ∧ c.toNat ≤ 90 then UInt8.ofNat (c.toNat + 32) else c
def smallL (l : List UInt8) : List UInt8 := l.map smallC
def lowN (n : List (List UInt8)) : List (List UInt8) := n.map smallL

theorem heap_set_any {w : World} {g : Nat} {cur : Array Value} {e : TypeId} {fz : Nat × Nat} (hg : w.heap[g]? = some (.cells cur e fz)) (k : Nat) (v : Value) : (w.setCell ⟨g, k, none⟩ v).heap[g]? = some (.cells (cur.setIfInBounds k v) e fz) := by
  simp [World.setCell, Array.getElem?_modify, hg]
/-- A row of bytes that a conversion made. -/
def BRow (w : World) (g : Nat) (bs : List UInt8) : Prop :=
  ∃ (cur : Array Value) (lo hi : Nat), w.heap[g]? = some (.cells cur 5 (lo, hi)) ∧ bs.length ≤ lo ∧ bs.length ≤ cur.size ∧ ∀ (j : Nat) (x : UInt8), bs[j]? = some x → cur[j]? = some (.int .u8 (x.toNat : Int))
section
variable {w w' : World} {g : Nat} {bs : List UInt8}
theorem BRow.made (w : World) (l : List UInt8) : BRow (Lib.bytesWorld w 5 (bstr l)) w.heap.size l := by
  have hz : (Lib.bytesCells w 5 (bstr l)).size = l.length + (grownCap w (bstr l).size 0 5 - (bstr l).size) := by
    have := bstr_size l
    unfold ByteArray.size at this
    simp [Lib.bytesCells, this]
  refine ⟨_, _, _, Lib.bytesWorld_at_new w _ _, by omega, by omega, fun j x hx => ?_⟩
  have hj : j < l.length := (List.getElem?_eq_some_iff.1 hx).1
  have h := Lib.bytesWorld_cell w 5 (bstr l) j (by rw [bstr_size]; exact hj)
  have e : (bstr l).data.toList = l := by simp [bstr]
  rw [e, List.getD_eq_getElem?_getD, hx] at h
  unfold World.cell? at h
  rw [Lib.bytesWorld_at_new] at h
  exact h
theorem BRow.cell (h : BRow w g bs) {j : Nat} {x : UInt8} (hx : bs[j]? = some x) : w.cell? ⟨g, j, none⟩ = some (.int .u8 (x.toNat : Int)) := by
  obtain ⟨cur, lo, hi, hg, _, _, hc⟩ := h
  unfold World.cell?
  rw [hg]
  exact hc j x hx
theorem BRow.free (h : BRow w g bs) {j : Nat} (hj : j < bs.length) : w.frozen? ⟨g, j, none⟩ = false := by
  obtain ⟨cur, lo, hi, hg, hl, _⟩ := h
  unfold World.frozen?
  rw [hg]
  show (decide (lo ≤ j) && _) = false
  rw [decide_eq_false (by omega), Bool.false_and]
theorem BRow.rd (h : BRow w g bs) : RdB w (some ⟨g, 0, none⟩) bs.length bs := by
  refine ⟨by simp, fun _ => ⟨g, 0, rfl, fun j u hu => ?_⟩⟩
  rw [List.getElem?_map] at hu
  obtain ⟨x, hx, rfl⟩ := Option.map_eq_some_iff.1 hu
  rw [Nat.zero_add]
  exact h.cell hx
theorem BRow.set (h : BRow w g bs) (k : Nat) (y : UInt8) : BRow (w.setCell ⟨g, k, none⟩ (.int .u8 (y.toNat : Int))) g (bs.set k y) := by
  obtain ⟨cur, lo, hi, hg, hl, hs, hc⟩ := h
  refine ⟨cur.setIfInBounds k (.int .u8 (y.toNat : Int)), lo, hi, heap_set_any hg k _, by rw [List.length_set]; exact hl, by rw [List.length_set, Array.size_setIfInBounds]; exact hs, fun j x hx => ?_⟩
  rw [List.getElem?_set] at hx
  by_cases e : k = j
  · subst e
    rw [if_pos rfl] at hx
    by_cases hk : k < bs.length
    · rw [if_pos hk] at hx
      injection hx with hx
      subst hx
      rw [Array.getElem?_setIfInBounds_self_of_lt (by omega)]
    · rw [if_neg hk] at hx
      cases hx
  · rw [if_neg e] at hx
    rw [Array.getElem?_setIfInBounds_ne e]
    exact hc j x hx
theorem BRow.below (h : BRow w g bs) (hb : Below w.heap.size w w') : BRow w' g bs := by
  obtain ⟨cur, lo, hi, hg, h1⟩ := h
  exact ⟨cur, lo, hi, (hb.block g (Array.getElem?_eq_some_iff.1 hg).1).trans hg, h1⟩
end
/-- The first few letters are small. -/
def someL (l : List UInt8) (k : Nat) : List UInt8 := (l.take k).map smallC ++ l.drop k
theorem someL_zero (l : List UInt8) : someL l 0 = l := rfl
theorem someL_all (l : List UInt8) : someL l l.length = smallL l := by simp [someL, smallL]
theorem someL_length (l : List UInt8) (k : Nat) (hk : k ≤ l.length) : (someL l k).length = l.length := by simp [someL]; omega
theorem someL_at {l : List UInt8} {k : Nat} {x : UInt8} (hx : l[k]? = some x) : (someL l k)[k]? = some x := by
  have hk := (List.getElem?_eq_some_iff.1 hx).1
  unfold someL
  rw [List.getElem?_append_right (by simp; omega), List.length_map, List.length_take, Nat.min_eq_left (by omega), Nat.sub_self, List.getElem?_drop, Nat.add_zero, hx]
theorem someL_succ {l : List UInt8} {k : Nat} {x : UInt8} (hx : l[k]? = some x) : (someL l k).set k (smallC x) = someL l (k + 1) := by
  have hk := (List.getElem?_eq_some_iff.1 hx).1
  unfold someL
  rw [List.set_append_right _ _ (by simp; omega), List.length_map, List.length_take, Nat.min_eq_left (by omega), Nat.sub_self, List.drop_eq_getElem_cons hk, List.set_cons_zero, List.take_add_one, hx]
  simp
theorem someL_same {l : List UInt8} {k : Nat} {x : UInt8} (hx : l[k]? = some x) (h : smallC x = x) : someL l (k + 1) = someL l k := by
  have h1 := someL_at hx
  rw [← someL_succ hx, h]
  obtain ⟨hk, e⟩ := List.getElem?_eq_some_iff.1 h1
  rw [← e]
  exact List.set_getElem_self hk
theorem smallC_hi {x : UInt8} (h1 : 65 ≤ x.toNat) (h2 : x.toNat ≤ 90) : ((smallC x).toNat : Int) = x.toNat + 97 - 65 := by
  unfold smallC
  rw [if_pos ⟨h1, h2⟩, UInt8.toNat_ofNat']
  omega
theorem smallC_lo {x : UInt8} (h : ¬ (65 ≤ x.toNat ∧ x.toNat ≤ 90)) : smallC x = x := by unfold smallC; rw [if_neg h]

set_option maxHeartbeats 1000000 in
theorem small_any (l : List UInt8) (hl : l.length ≤ 9223372036854775807) (w : World) :
    Calls Try.prog 97 #[.string (bstr l)] w (RetP (fun v _ => v = .string (bstr (smallL l))) w) := by
  have hcb := fun W : World => Lib.run_convert_string_bytes (P := Try.prog) W 9 22 5 (bstr l) Try.underlying9 Try.underlying22 Try.underlying5
  have hbs := bstr_size l
  obtain ⟨w1, hw1⟩ : ∃ w1, w1 = Lib.bytesWorld w 5 (bstr l) := ⟨_, rfl⟩
  have HB1 : Hid (BRow w1 w.heap.size l) := by show BRow _ _ _; rw [hw1]; exact BRow.made w l
  have hb1 : Below w.heap.size w w1 := by rw [hw1]; exact (conv_rd w l).2
  go_enter Try.func97, Try.ntmps97
  go_upto_region 2 with (fail)
  rw [← hw1]
  clear hw1 hcb
  go_wp2
  go_loopw [10] (fun iv wr => ∃ k : Nat, iv = .int .i64 k ∧ k ≤ l.length ∧ Hid (BRow wr w.heap.size (someL l k)) ∧ Below w.heap.size w wr) (fun iv _ => l.length - (intOf iv).toNat)
  case atStart => exact ⟨0, rfl, Nat.zero_le _, HB1, hb1⟩
  case round =>
    obtain ⟨k, rfl, hk, HB, hbw⟩ := hrel
    clear HB1 hb1
    have hsl := Lib.hid (someL_length l k hk)
    by_cases hlt : k < l.length
    · obtain ⟨x, hx⟩ : ∃ x, l[k]? = some x := ⟨_, List.getElem?_eq_getElem hlt⟩
      have hcx := HB.out.cell (someL_at hx)
      have hfx := HB.out.free (j := k) (by rw [hsl.out]; exact hlt)
      have HX := Lib.hid hx
      have hx8 := x.toNat_lt
      clear hx
      by_cases h1 : 65 ≤ x.toNat ∧ x.toNat ≤ 90
      · obtain ⟨h1, h2⟩ := h1
        have HE := Lib.hid (smallC_hi h1 h2)
        have hset := HB.out.set k (smallC x)
        rw [HE.out, someL_succ HX.out] at hset
        have HS := Lib.hid hset
        clear hset
        go_wp2
        go_roundw
        case rel => exact ⟨k + 1, by go_num, by omega, HS.out, hbw.setCell (Nat.le_refl _) _⟩
        case measure => simp [intOf]; omega
      · have HS := Lib.hid (someL_same HX.out (smallC_lo h1))
        by_cases h2 : x.toNat < 65
        · clear h1
          go_wp2
          go_roundw
          case rel => exact ⟨k + 1, by go_num, by omega, by rw [HS.out]; exact HB, hbw⟩
          case measure => simp [intOf]; omega
        · have h3 : 90 < x.toNat := by omega
          clear h1
          go_wp2
          go_roundw
          case rel => exact ⟨k + 1, by go_num, by omega, by rw [HS.out]; exact HB, hbw⟩
          case measure => simp [intOf]; omega
    · have hke : k = l.length := by omega
      have hrd := HB.out.rd
      rw [hsl.out, hke, someL_all] at hrd
      have hcv := fun (c : Nat) => conv_str (P := Try.prog) _ _ _ Try.underlying22 Try.underlying5 Try.underlying9 wr (some ⟨w.heap.size, 0, none⟩) l.length c (smallL l) hrd
      go_wp2
      go_ret
      exact ⟨_, rfl, rfl, hbw⟩
end Go.Proofs.Ytjpkddmdhdmhgaa
