/- sector.Seal. -/
import Derived.Test.YtbjaphldncagjaaPut
import Derived.Test.YtbjaphldncagjaaSectorPlain
namespace Go.Proofs.Ytbjaphldncagjaa
open Go.RowKit

def IsSizes (v : Value) (w : World) : Prop := ∃ g, v = .slice (some ⟨g, 0, none⟩) 6 6 ∧ ∀ (i : Nat) x, sizesL[i]? = some x → w.cell? ⟨g, i, none⟩ = some (.int .i64 x)

theorem sizes_any (w : World) : Calls Try.prog 121 #[] w (RetP IsSizes w) := by
  go_enter Try.func121, Try.ntmps121
  go_wp2
  go_ret
  refine ⟨_, rfl, ⟨w.heap.size, rfl, fun i x hx => ?_⟩, bl.alloc (Nat.le_refl _) _⟩
  rw [cell_of_row _ _ _ _ _ _ (heap_alloc_new w _)]
  match i, hx with
  | 0, hx => simp [sizesL] at hx; subst hx; rfl
  | 1, hx => simp [sizesL] at hx; subst hx; rfl
  | 2, hx => simp [sizesL] at hx; subst hx; rfl
  | 3, hx => simp [sizesL] at hx; subst hx; rfl
  | 4, hx => simp [sizesL] at hx; subst hx; rfl
  | 5, hx => simp [sizesL] at hx; subst hx; rfl

/-- The call returns a value and a number of which P holds; what was there is as it was. -/
def RetP2 (P : Value → Int → World → Prop) (w : World) (e : Ending) (w' : World) : Prop := ∃ v n, e = .returned (.tuple #[v, .int .i64 n]) ∧ P v n w' ∧ Below w.heap.size w w'

/-- A row of the call's own, of numbers. -/
def Row (w : World) (g : Nat) (l : List Int) : Prop := ∀ (i : Nat) x, l[i]? = some x → w.cell? ⟨g, i, none⟩ = some (.int .i64 x)
theorem Row.below {w w' : World} {g : Nat} {l : List Int} (h : Row w g l) (hb : Below w.heap.size w w') : Row w' g l := fun i x hx => below_cell hb (h i x hx)
theorem row_new (w : World) (t : TypeId) (l : List Int) : Row (w.alloc (.cells (l.map (Value.int .i64)).toArray t)) w.heap.size l := fun i x hx => by
  rw [cell_of_row _ _ _ _ _ _ (heap_alloc_new w _)]
  simp [hx]

set_option maxRecDepth 100000 in
set_option maxHeartbeats 1000000 in
theorem seal_any (k e s p q : Int) (A : Option Addr) (m c : Nat) (bs : List UInt8) (w : World) (hb : RdB w A m bs) (hm : m ≤ 140737488350000) :
    Calls Try.prog 74 #[.agg #[.int .i64 k, .int .i64 e, .int .i64 s, .int .i64 p, .int .i64 q], .slice A m c] w
      (RetP2 (fun v n w' => n = (sealP k e s p q bs).2 ∧ OwnB w' w.heap.size v (sealP k e s p q bs).1) w) := by
  have hlb := hb.len
  subst hlb
  obtain ⟨l, hl⟩ : ∃ l : List Int, l = [k, e, s, p, q, (bs.length : Int)] := ⟨_, rfl⟩
  have HL := Lib.hid hl
  have hll : Hid (l.length = 6) := by rw [hl]; rfl
  have hrange := @sealP_range k e s p q bs
  have hlarge := @sealP_large k e s p q bs
  have hok := @sealP_ok k e s p q bs
  rw [← hl] at hrange hlarge hok
  have HR := Lib.hid hrange
  have HG := Lib.hid hlarge
  have HO := Lib.hid hok
  obtain ⟨w0, hw0⟩ : ∃ w0 : World, w0 = (w.alloc (.cells #[.int .i64 k, .int .i64 e, .int .i64 s, .int .i64 p, .int .i64 q] 115)).alloc (.cells #[.int .i64 k, .int .i64 e, .int .i64 s, .int .i64 p, .int .i64 q, .int .i64 (bs.length : Int)] 3) := ⟨_, rfl⟩
  have hrow : Row w0 (w.heap.size + 1) l := by
    rw [hw0, hl]
    have h := row_new (w.alloc (.cells #[.int .i64 k, .int .i64 e, .int .i64 s, .int .i64 p, .int .i64 q] 115)) 3 [k, e, s, p, q, (bs.length : Int)]
    simpa using h
  have hb0 : Below w.heap.size w w0 := by rw [hw0]; exact (bl.alloc (Nat.le_refl _) _).alloc (by simp) _
  have hbox : ∀ (i : Nat) x, [k, e, s, p, q][i]? = some x → w0.cell? ⟨w.heap.size, i, none⟩ = some (.int .i64 x) := by
    intro i x hx
    rw [hw0]
    have h1 : Row (w.alloc (.cells #[.int .i64 k, .int .i64 e, .int .i64 s, .int .i64 p, .int .i64 q] 115)) w.heap.size [k, e, s, p, q] := by
      have h := row_new w 115 [k, e, s, p, q]
      simpa using h
    exact below_cell (bl.alloc (Nat.le_refl _) _) (h1 i x hx)
  have hsz0 : w0.heap.size = w.heap.size + 2 := by rw [hw0]; simp
  have HSZ := Lib.hid hsz0
  have HB := Lib.hid hbox
  clear hl hrange hlarge hok hbox hsz0
  go_enter Try.func74, Try.ntmps74
  go_wp2
  rw [← hw0]
  clear hw0
  go_loopw [7, 8, 28] (fun _ _ i wr => ∃ j : Nat, i = .int .i64 j ∧ j ≤ 5 ∧ fitTo l j = true ∧ Below w0.heap.size w0 wr) (fun _ _ i _ => 5 - (intOf i).toNat)
  case atStart => exact ⟨0, rfl, by omega, rfl, bl⟩
  case round =>
    obtain ⟨j, rfl, hj, hfit, hbr⟩ := hrel
    have hbw := nx hb0 hbr
    by_cases hlt : j < 5
    · obtain ⟨x, hx⟩ : ∃ x, l[j]? = some x := ⟨_, List.getElem?_eq_getElem (by rw [hll.out]; omega)⟩
      obtain ⟨y, hy⟩ : ∃ y, sizesL[j]? = some y := ⟨_, List.getElem?_eq_getElem (by show j < 6; omega)⟩
      have c1 := hrow.below hbr j x hx
      have HF : Hid (fitTo l (j + 1) = fitsB x y) := by show _ = _; rw [fitTo, hfit]; simp [List.getD, hx, hy]
      clear hx hfit
      by_cases hf : fitsB x y = true
      · go_wp2_with (first
          | (go_at_call 121; refine (sizes_any _).mono ?_; rintro e w2 ⟨v2, rfl, ⟨g2, rfl, hs2⟩, hb2⟩; have c2 := hs2 j y hy; clear hs2)
          | (go_at_call 72; refine (fits_any _ _ _).mono ?_; rintro e w' ⟨rfl, rfl⟩))
        go_roundw
        case rel => exact ⟨j + 1, by go_num, by omega, by rw [HF.out]; exact hf, nx hbr hb2⟩
        case measure => simp [intOf]; omega
      · have hff : fitsB x y = false := by simpa using hf
        have hres : Hid (sealP k e s p q bs = ([], 15)) := HR.out fun h => by
          have := fitTo_lt (HF.out.trans hff) (show j + 1 ≤ 5 by omega)
          rw [h.1] at this
          cases this
        clear hf
        go_wp2_with (first
          | (go_at_call 121; refine (sizes_any _).mono ?_; rintro e w2 ⟨v2, rfl, ⟨g2, rfl, hs2⟩, hb2⟩; have c2 := hs2 j y hy; clear hs2)
          | (go_at_call 72; refine (fits_any _ _ _).mono ?_; rintro e w' ⟨rfl, rfl⟩))
        go_ret2
        exact ⟨_, _, rfl, by rw [hres.out]; exact ⟨rfl, OwnB.nil _ _⟩, nx hbw hb2⟩
    · obtain rfl : j = 5 := by omega
      have b0 := below_cell hbr (HB.out 0 k rfl)
      have b3 := below_cell hbr (HB.out 3 p rfl)
      have b4 := below_cell hbr (HB.out 4 q rfl)
      by_cases hcond : k ≠ 0 ∧ q ≠ 0 ∧ p < q
      · obtain ⟨k1, k2, k3⟩ := hcond
        have e1 : (k == 0) = false := by rw [beq_eq_false_iff_ne]; exact k1
        have e2 : (q == 0) = false := by rw [beq_eq_false_iff_ne]; exact k2
        by_cases hlen : 496 < bs.length
        · have hres : Hid (sealP k e s p q bs = ([], 4)) := HG.out ⟨hfit, k1, k2, k3⟩ hlen
          clear k1 k2
          go_wp2
          go_ret2
          exact ⟨_, _, rfl, by rw [hres.out]; exact ⟨rfl, OwnB.nil _ _⟩, hbw⟩
        · have hres : Hid (sealP k e s p q bs = (hdTo l 6 ++ bs ++ List.replicate (496 - bs.length) 0, 0)) := HO.out ⟨hfit, k1, k2, k3⟩ hlen
          have h16 : Hid ((hdTo l 6).length = 16) := by
            have h := hdTo_16 k e s p q bs.length (by rw [← HL.out]; exact hfit) (by omega) (by omega)
            rw [HL.out]; exact h
          clear k1 k2 hfit
          go_wp2
          obtain ⟨wa, hwa⟩ : ∃ wa : World, wa = wr := ⟨_, rfl⟩
          subst hwa
          have hszw : w.heap.size ≤ wa.heap.size := hbw.size
          go_loopw [9, 10, 11, 63] (fun v _ _ i wr => ∃ j : Nat, i = .int .i64 j ∧ j ≤ 6 ∧ OwnB wr w.heap.size v (hdTo l j) ∧ Below wa.heap.size wa wr) (fun _ _ _ i _ => 6 - (intOf i).toNat)
          case atStart => exact ⟨0, rfl, by omega, OwnB.nil _ _, bl⟩
          case round =>
            obtain ⟨j, rfl, hj, hown, hbr2⟩ := hrel
            have hbw2 := nx hbw hbr2
            by_cases hlt : j < 6
            · obtain ⟨x, hx⟩ : ∃ x, l[j]? = some x := ⟨_, List.getElem?_eq_getElem (by rw [hll.out]; omega)⟩
              obtain ⟨y, hy⟩ : ∃ y, sizesL[j]? = some y := ⟨_, List.getElem?_eq_getElem (by show j < 6; omega)⟩
              have c1 := (hrow.below hbr).below hbr2 j x hx
              have HF : Hid (hdTo l (j + 1) = putB (hdTo l j) x y) := by show _ = _; rw [hdTo]; simp [List.getD, hx, hy]
              have hle := hdTo_le l j
              obtain ⟨Av, cv, rfl, hrv, _⟩ := hown.form
              clear hx hown
              go_wp2_with (first
                | (go_at_call 121; refine (sizes_any _).mono ?_; rintro e w2 ⟨v2, rfl, ⟨g2, rfl, hs2⟩, hb2⟩; have c2 := hs2 j y hy; clear hs2)
                | (go_at_call 73; refine (put_any _ _ _ (hdTo l j) _ _ _ (hrv.below hb2) (by omega)).mono ?_; rintro e w3 ⟨v3, rfl, hown3, hb3⟩))
              go_roundw
              have hx3 : OwnB w3 w.heap.size v3 (hdTo l (j + 1)) := by rw [HF.out]; exact hown3.mono (Nat.le_trans hbw2.size hb2.size)
              have hx4 := nx (nx hbr2 hb2) hb3
              case rel => (repeat apply Exists.intro); exact ⟨⟨j + 1, by go_num, by omega, hx3, hx4⟩, rfl⟩
              case measure => simp [intOf]; omega
            · obtain rfl : j = 6 := by omega
              have hbd := hb.below hbw2
              go_wp2_with (first
                | ((with_reducible show wpList _ _ _ (⟨some 78, _, _, _, _, _⟩ :: _) _ _); refine wpL_appB rfl (.tmp 76) (.tmp 77) rfl w.heap.size _ (hdTo l 6) rfl hown A _ c bs rfl hbd (by rw [h16.out]; omega) hbw2.size ?_; intro v3 w3 hown3 hg3 _; have hbw3 := hbw2.grown hg3 hbw2.size (fun j hj => (World.ownsRow.lt hown j hj).1); obtain ⟨Av, cv, rfl, hrv, _⟩ := hown3.form; rw [show (hdTo l 6 ++ bs).length = bs.length + 16 by rw [List.length_append, h16.out]; omega] at hown3 hrv ⊢)
                | ((with_reducible show wpList _ _ _ (⟨some 83, _, _, _, _, _⟩ :: _) _ _); refine wpL_zerosB rfl (.tmp 79) (.tmp 82) rfl w.heap.size _ (hdTo l 6 ++ bs) rfl hown3 (496 - bs.length) _ rfl (by omega) (by rw [List.length_append, h16.out]; omega) hbw3.size ?_; intro v4 w4 hown4 hg4 _))
              go_ret2
              exact ⟨_, _, rfl, by rw [hres.out]; exact ⟨rfl, hown4⟩, hbw3.grown hg4 hbw3.size (fun j hj => (World.ownsRow.lt hown3 j hj).1)⟩
      · have hres : Hid (sealP k e s p q bs = ([], 15)) := HR.out fun h => hcond h.2
        by_cases k1 : k = 0
        · have e1 : (k == 0) = true := by rw [beq_iff_eq]; exact k1
          clear hcond k1
          go_wp2
          go_ret2
          exact ⟨_, _, rfl, by rw [hres.out]; exact ⟨rfl, OwnB.nil _ _⟩, hbw⟩
        · have e1 : (k == 0) = false := by rw [beq_eq_false_iff_ne]; exact k1
          by_cases k2 : q = 0
          · have e2 : (q == 0) = true := by rw [beq_iff_eq]; exact k2
            clear hcond k1 k2
            go_wp2
            go_ret2
            exact ⟨_, _, rfl, by rw [hres.out]; exact ⟨rfl, OwnB.nil _ _⟩, hbw⟩
          · have e2 : (q == 0) = false := by rw [beq_eq_false_iff_ne]; exact k2
            have k3 : q ≤ p := by omega
            clear hcond k1 k2
            go_wp2
            go_ret2
            exact ⟨_, _, rfl, by rw [hres.out]; exact ⟨rfl, OwnB.nil _ _⟩, hbw⟩
end Go.Proofs.Ytbjaphldncagjaa
