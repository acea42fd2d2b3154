/- flash: Read. -/
import Derived.Test.YtbjaphldncagjaaFlash4
namespace Go.Proofs.Ytbjaphldncagjaa
open Go.RowKit

/-- The call returns bytes of its own, and an error's number. -/
def RetBE (r : List UInt8 × Int) (w : World) (e : Ending) (w' : World) : Prop := ∃ v, e = .returned (.tuple #[v, .int .i64 r.2]) ∧ OwnB w' w.heap.size v r.1 ∧ Below w.heap.size w w'

theorem sure_at {w : World} {B : Nat} {sv : Value} {l : List (Option (List UInt8))} (h : OwnE encSec 177 noS w B sv l) {i : Nat} {x : Option (List UInt8)} (hx : l[i]? = some x) :
    ∃ s c, sv = .slice (some ⟨s, 0, none⟩) l.length c ∧ sv.ownBlock = some s ∧ w.cell? ⟨s, i * 513 + 512, none⟩ = some (.bool x.isNone) ∧ ∀ b, x = some b → b.length = 512 → RdB w (some ⟨s, i * 513, none⟩) 512 b := by
  obtain ⟨s, c, rfl, _, hul, _, _, _, hat⟩ := h.flat (Nat.lt_of_le_of_lt (Nat.zero_le i) (List.getElem?_eq_some_iff.1 hx).1)
  obtain ⟨r, ⟨hr1, hr2, hr3, hr4⟩, hc⟩ := hat i x hx
  refine ⟨s, c, rfl, rfl, hc 512 _ hr2, fun b hb hl => ⟨by rw [List.length_map]; omega, fun _ => ⟨s, i * 513, rfl, fun j u hu => ?_⟩⟩⟩
  rw [← hr4 b hb, List.getElem?_take] at hu
  split at hu
  · exact hc j u hu
  · cases hu

set_option maxRecDepth 100000 in
set_option maxHeartbeats 2000000 in
theorem read_any (w : World) (B g : Nat) (F : Nat → Prop) (d : Dv) (k : Int) (h : Dev w B F g d) (hun : d.unsure.length ≤ 1000000) :
    Calls Try.prog 119 #[.pointer (some ⟨g, 0, none⟩), .int .i64 k] w (RetBE (d.read k) w) := by
  have H := Lib.hid h
  rcases d.chk_cases k with ⟨_, h2⟩ | ⟨_, _, h2⟩ | ⟨_, h3, h4, h2⟩
  · have hw : d.read k = ([], 8) := by unfold Dv.read; rw [h2, if_neg (by decide)]
    rw [hw]
    clear hw h
    go_enter Try.func119, Try.ntmps119
    go_wp2_with (go_at_call 123; refine (check_any _ _ _ _ _ _ H.out).mono ?_; rw [h2]; rintro e w1 ⟨rfl, rfl⟩; clear h2)
    go_ret2
    exact ⟨_, rfl, OwnB.nil _ _, bl⟩
  · have hw : d.read k = ([], 1) := by unfold Dv.read; rw [h2, if_neg (by decide)]
    rw [hw]
    clear hw h
    go_enter Try.func119, Try.ntmps119
    go_wp2_with (go_at_call 123; refine (check_any _ _ _ _ _ _ H.out).mono ?_; rw [h2]; rintro e w1 ⟨rfl, rfl⟩; clear h2)
    go_ret2
    exact ⟨_, rfl, OwnB.nil _ _, bl⟩
  · have hw : d.read k = d.readV k := by unfold Dv.read; rw [h2, if_pos rfl]
    rw [hw]
    have HF := Lib.hid h.fine.unsure
    have HSF := Lib.hid h.fine.sure
    have hsz := h.fine.size
    obtain ⟨hf1, sv, uv, S, hgg, hs1, hu1, hgF, hs1F, hu1F, hSF, hFl⟩ := h
    obtain ⟨Au, cu, rfl, _, hucl, hucm⟩ := hu1.form
    have hgl : g < w.heap.size := (hFl g hgF.1).2
    have c0 : w.cell? ⟨g, 0, none⟩ = some _ := (cell_of_row _ _ _ _ _ _ hgg).trans rfl
    have c1 : w.cell? ⟨g, 1, none⟩ = some _ := (cell_of_row _ _ _ _ _ _ hgg).trans rfl
    clear hgg hw
    go_enter Try.func119, Try.ntmps119
    go_wp2_with (go_at_call 123; refine (check_any _ _ _ _ _ _ H.out).mono ?_; rw [h2]; rintro e w1 ⟨rfl, rfl⟩; clear h2)
    go_loop [7] (fun iv => ∃ j : Nat, iv = .int .i64 ((j : Int) - 1) ∧ j ≤ d.unsure.length ∧ Hid (lastW d.unsure k = lastW (d.unsure.take j) k)) (fun iv => (intOf iv + 1).toNat)
    case atStart => exact ⟨d.unsure.length, rfl, Nat.le_refl _, by show _ = _; rw [List.take_length]⟩
    case round =>
      obtain ⟨j, rfl, hj, hL⟩ := hrel
      rcases j with _ | i
      · obtain ⟨n, rfl⟩ := Int.eq_ofNat_of_zero_le h3
        obtain ⟨x, hx⟩ : ∃ x, d.sure[n]? = some x := ⟨_, List.getElem?_eq_getElem (by omega)⟩
        obtain ⟨s, c, rfl, _, ct, hrd⟩ := sure_at hs1 hx
        have hnl : n < d.sure.length := by omega
        rcases x with _ | b
        · have hP : Hid (d.readV (n : Int) = ([], 9)) := by
            show _ = _
            unfold Dv.readV
            rw [hL.out]
            simp only [List.take_zero, lastW, Int.toNat_natCast, hx]
          rw [show (none : Option (List UInt8)).isNone = true from rfl] at ct
          clear hx hrd
          go_wp2
          go_ret2
          rw [hP.out]
          exact ⟨_, rfl, OwnB.nil _ _, bl⟩
        · have hP : Hid (d.readV (n : Int) = (b, 0)) := by
            show _ = _
            unfold Dv.readV
            rw [hL.out]
            simp only [List.take_zero, lastW, Int.toNat_natCast, hx]
          rw [show (some b : Option (List UInt8)).isNone = false from rfl] at ct
          have hr := hrd b rfl (HSF.out b (List.mem_of_getElem? hx))
          clear hx hrd
          go_wp2_with (go_at_call 113; refine (sclone_any _ _ _ b _ hr (by omega)).mono ?_; rintro e w2 ⟨v2, rfl, hown2, hb2⟩)
          go_ret2
          rw [hP.out]
          exact ⟨_, rfl, hown2, hb2⟩
      · rw [show (((i + 1 : Nat) : Int) - 1) = (i : Int) by omega]
        obtain ⟨x, hx⟩ : ∃ x, d.unsure[i]? = some x := ⟨_, List.getElem?_eq_getElem hj⟩
        obtain ⟨p, b⟩ := x
        obtain ⟨hp0, hp1, hbl⟩ := HF.out (p, b) (List.mem_of_getElem? hx)
        obtain ⟨u, c, A, cd, e, hul, _, e0, e1, hrb, hcd, hAS⟩ := unsure_at hu1 hx hbl
        injection e with ea eb ec
        subst ea
        have HX := Lib.hid hx
        have HB := Lib.hid hbl
        clear hx hbl eb ec
        by_cases hpk : p = k
        · have hpk2 : (p == k) = true := by rw [beq_iff_eq]; exact hpk
          have hP : Hid (d.readV k = (b, 0)) := by
            show _ = _
            unfold Dv.readV
            rw [hL.out, lastW_take HX.out, if_pos hpk]
          clear hpk
          go_wp2_with (go_at_call 113; refine (sclone_any _ _ _ b _ hrb (by omega)).mono ?_; rintro e w2 ⟨v2, rfl, hown2, hb2⟩)
          go_ret2
          rw [hP.out]
          exact ⟨_, rfl, hown2, hb2⟩
        · have hpk2 : (p == k) = false := by rw [beq_eq_false_iff_ne]; exact hpk
          have hL2 : Hid (lastW d.unsure k = lastW (d.unsure.take i) k) := by
            show _ = _
            rw [hL.out, lastW_take HX.out, if_neg hpk]
          clear hpk
          go_wp2
          go_round
          case rel => exact ⟨i, rfl, by omega, hL2⟩
          case measure => simp [intOf]
end Go.Proofs.Ytbjaphldncagjaa
