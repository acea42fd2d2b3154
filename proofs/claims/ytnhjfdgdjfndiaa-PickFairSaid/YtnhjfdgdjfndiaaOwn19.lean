/- gazetteerlaw19.own: a list of servers that shares nothing. -/
import Derived.Test.YtnhjfdgdjfndiaaPick
import Derived.Test.YtnhjfdgdjfndiaaBytes
import Derived.Test.YtnhjfdgdjfndiaaEncLaws
namespace Go.Proofs.Ytnhjfdgdjfndiaa
open Go.RowKit

theorem elT : ElT Try.prog 31 36 encT 40 := ElT.mk Try.underlying31 (.agg #[.slice none 0 0, .int .i64 0, .bool false]) 3 (by kernel_rfl) rfl rfl

theorem bcell {B : Nat} {W w1 : World} (hb : Below B W w1) : (∀ b o, b < B → w1.cell? ⟨b, o, none⟩ = W.cell? ⟨b, o, none⟩) ∧ (∀ b o, b < B → w1.frozen? ⟨b, o, none⟩ = W.frozen? ⟨b, o, none⟩) :=
  ⟨fun b o h => hb.cell (p := ⟨b, o, none⟩) h, fun b o h => hb.frozen (p := ⟨b, o, none⟩) h⟩

/-- A row of the call's own, all of it new since block number B. -/
def NewE {α : Type} (E : Enc α) (e : TypeId) (B : Nat) (w : World) (v : Value) (xs : List α) : Prop := ∃ S, OwnE E e S w B v xs ∧ ∀ b, S b → B ≤ b

/-- Between two block numbers. -/
def btS (lo hi : Nat) : Nat → Prop := fun b => lo ≤ b ∧ b < hi

/-- Bytes of the call's own, new since block number B, as an element that leads there; a store elsewhere leaves it. -/
theorem ownB_els {w : World} {base : Nat} {A : Option Addr} {n c : Nat} {bs : List UInt8} (h : OwnB w base (.slice A n c) bs) : Els encB (btS base w.heap.size) (btS base w.heap.size) w A n bs ∧ n = bs.length ∧ n ≤ c ∧ c ≤ maxLen := by
  have hl := h.rd
  obtain ⟨A1, c1, hv, _, h1, h2⟩ := h.form
  injection hv with e1 e2 e3
  subst e3
  refine ⟨bytes_els hl.1 fun b off e => ?_, hl.2, by omega, h2⟩
  subst e
  exact World.ownsRow.lt h b rfl

set_option maxHeartbeats 400000 in
theorem own19_any (A : Option Addr) (n c : Nat) (ts : List Tr) (w : World) (ht : RdE encT w A n ts) (hn : n ≤ 1000000) (ha : ∀ t ∈ ts, t.addr.length ≤ 140737488355328) :
    Calls Try.prog 23 #[.slice A n c] w (RetP (fun v w' => NewE encT 36 w.heap.size w' v ts) w) := by
  have hlt := Lib.hid ht.len
  go_enter Try.func23, Try.ntmps23
  go_wp2
  go_loopw [3, 4, 5] (fun v i _ wr => ∃ k : Nat, i = .int .i64 k ∧ k ≤ n ∧ NewE encT 36 w.heap.size wr v (ts.take k) ∧ Below w.heap.size w wr) (fun _ i _ _ => n - (intOf i).toNat)
  case atStart => exact ⟨0, rfl, Nat.zero_le _, ⟨noS, OwnE.nil _ _ _ _, fun b h => h.elim⟩, bl⟩
  case round =>
    obtain ⟨k, rfl, hk, ⟨S, hown, hS⟩, hbw⟩ := hrel
    by_cases hlt' : k < n
    · obtain ⟨b, off, rfl, hb0, hat⟩ := encT_at ht (by omega)
      obtain ⟨t, htk⟩ : ∃ t, ts[k]? = some t := ⟨_, List.getElem?_eq_getElem (by rw [hlt.out]; exact hlt')⟩
      have hta := ha t (List.mem_of_getElem? htk)
      obtain ⟨A', n', c', c0, c1, c2, hel, hn', hc', hi1, hi2⟩ := hat k t htk
      have d0 := below_cell hbw c0
      have d1 := below_cell hbw c1
      have d2 := below_cell hbw c2
      have hrb := els_bytes hel
      have hbx : Below wr.heap.size wr (wr.alloc (.cells #[.slice A' n' c', .int .i64 t.count, .bool t.bad] 36)) := bl.alloc (Nat.le_refl _) _
      have HTK := Lib.hid htk
      have hin1 := hrb.len
      subst hin1
      clear hat htk c0 c1 c2 hel ha
      go_wp2_with (first
        | ((with_reducible show wpList _ _ _ (⟨some 19, _, _, _, _, _⟩ :: _) _ _); refine wpL_cloneB rfl (.tmp 16) (.tmp 18) rfl rfl A' _ c' t.addr rfl (hrb.below (nx hbw hbx)) hta ?_; intro v2 w2 hown2 hb2; obtain ⟨A2, c2, rfl, hr2, hl2, hc2⟩ := hown2.form; obtain ⟨hcc, hff⟩ := bcell hb2; have hsz2 : wr.heap.size < w2.heap.size := (by have := hb2.size; simp at this; omega); have hb3 : ∀ u, Below wr.heap.size wr (w2.setCell ⟨wr.heap.size, 0, none⟩ u) := (fun u => (hbx.trans (hb2.mono (by simp))).setCell (Nat.le_refl _) u); have hrow : ∀ u, encT.R (btS (wr.heap.size + 1) w2.heap.size) (w2.setCell ⟨wr.heap.size, 0, none⟩ u) [.slice A2 t.addr.length c2, .int .i64 t.count, .bool t.bad] t := (fun u => ⟨A2, _, c2, rfl, (by have h := (ownB_els hown2).1; simp at h; exact h.keep (fun b hb => Below.heap_setCell _ _ _ _ (by simp; have := hb.1; omega)) (fun b hb => Below.heap_setCell _ _ _ _ (by simp; have := hb.1; omega))), hl2, hc2, hi1, hi2⟩))
        | ((with_reducible show wpList _ _ _ (⟨some 24, _, _, _, _, _⟩ :: _) _ _); refine wpL_pushE elT rfl (.tmp 21) (.tmp 23) rfl w.heap.size _ (ts.take k) rfl (hown.below (hb3 _)) _ t (hrow _) ?hS rfl ?hb ?hl ?hbase ?_; rotate_right; intro v3 w3 hown3 hg3 hat3))
      · go_roundw
        case rel =>
          refine ⟨k + 1, by go_num, by omega, ⟨_, by rw [List.take_add_one, HTK.out]; exact hown3, fun x hx => ?_⟩, ((nx hbw (hb3 _))).grown hg3 (by simp; have := hbw.size; omega) (fun j hj => (hown.lt j hj).1)⟩
          rcases hx with hx | hx
          · exact hS x hx
          · have := hx.1; have := hbw.size; omega
        case measure => simp [intOf]; omega
      case hS =>
        intro x hx
        refine ⟨by simp; exact hx.2, fun he => ?_⟩
        have := (hown.lt x he.symm).2
        have := hx.1
        omega
      case hb => rw [List.length_take]; omega
      case hl => rw [List.length_take]; unfold maxLen; omega
      case hbase => simp; have := hbw.size; omega
    · go_wp2
      go_ret
      have hkn : k = n := by omega
      exact ⟨_, rfl, ⟨S, by rw [hkn, List.take_of_length_le (by rw [hlt.out]; omega)] at hown; exact hown, hS⟩, hbw⟩
end Go.Proofs.Ytnhjfdgdjfndiaa
