/- WnameSets: the law's walk. -/
import Derived.Test.YtjpkddmdhdmhgaaWtr5
import Derived.Test.YtjpkddmdhdmhgaaAns03
import Derived.Test.YtjpkddmdhdmhgaaSame
import Derived.Test.YtjpkddmdhdmhgaaRPut
namespace Go.Proofs.Ytjpkddmdhdmhgaa
open Go.RowKit

theorem OwnB.chgF {w w' : World} {B : Nat} {v : Value} {bs : List UInt8} {F : Nat → Prop} (h : OwnB w B v bs) (hc : Chg F w w') (hv : ∀ k, B ≤ k → ¬ F k) : OwnB w' B v bs :=
  h.chgv hc (fun k hk => hv k (World.ownsRow.lt h k hk).1)

set_option maxRecDepth 100000 in
set_option maxHeartbeats 2000000 in
theorem wnameSets_bad (A : Option Addr) (m c : Nat) (bs : List UInt8) (at' n size : Int) (w : World) (hb : RdB w A m bs) (h5 : m ≤ 5000) (hs : ¬ setOk (Wr.nil.raw bs) at' n size) (hn : n ≤ 9223372036854775807) (hr1 : -9223372036854775808 ≤ size) (hr2 : size ≤ 9223372036854775807) :
    Calls Try.prog 12 #[.slice A m c, .int .i64 at', .int .i64 n, .int .i64 size] w (LawT w) := by
  have hlb := hb.len
  subst hlb
  have HS := Lib.hid hs
  have hx : (Wr.nil.raw bs).b = bs := rfl
  have hs' := hs
  unfold setOk at hs'
  rw [hx] at hs'
  have HX := Lib.hid hx
  clear hs hx
  have tail : ∀ (P : Prop), (fitsB n size = true → 0 ≤ at' → at' ≤ bs.length → (bs.length : Int) - at' < size → P) → (fitsB n size = true → 0 ≤ at' → (bs.length : Int) < at' → P) → (fitsB n size = true → at' < 0 → P) → (fitsB n size = false → P) → P := by
    intro P a1 a2 a3 a4
    by_cases h1 : fitsB n size = true
    · by_cases h2 : 0 ≤ at'
      · by_cases h3 : at' ≤ bs.length
        · exact a1 h1 h2 h3 (Int.not_le.1 fun h => hs' ⟨h1, h2, h3, h⟩)
        · exact a2 h1 h2 (Int.not_le.1 h3)
      · exact a3 h1 (Int.not_le.1 h2)
    · exact a4 (by simpa using h1)
  clear hs'
  refine tail _ ?_ ?_ ?_ ?_
  all_goals
    intro h1
    intros
    have H1 := Lib.hid h1
    clear h1
    go_enter Try.func12, Try.ntmps12
    go_wp2_with (first
      | (go_at_call 37; refine (wnew_any _).mono ?_; rintro e w1 ⟨g, F, rfl, hw1, hb1⟩)
      | (go_at_call 38; refine (answers03_any _).mono ?_; rintro e w2 ⟨rfl, hb2⟩; have HW2 := Lib.hid (hw1.below hb2); have hbw2 := nx hb1 hb2)
      | ((with_reducible show wpList _ _ _ (⟨some 35, _, _, _, _, _⟩ :: _) _ _); refine wpL_cloneB rfl (.tmp 33) (.tmp 34) rfl rfl A _ c bs rfl (hb.below hbw2) (by omega) ?_; intro v3 w3 hown3 hb3; have HW3 := Lib.hid (HW2.out.below hb3); have hbw3 := nx hbw2 hb3; obtain ⟨A3, c3, rfl, hr3, _⟩ := hown3.form)
      | (go_at_call 40; refine (wraw_any _ w.heap.size g F Wr.nil _ _ _ bs HW3.out hr3 (by show 0 + _ ≤ _; omega)).mono ?_; rintro e w4 ⟨rfl, F4, h4, hc4, hF4⟩; have HW4 := Lib.hid h4; have hbw4 := HW3.out.bw hbw3 (Nat.le_refl _) hc4)
      | (go_at_call 52; refine (wset_bad _ w.heap.size g F4 _ at' n size HW4.out (by rw [HX.out]; omega) HS.out hr1 hr2).mono ?_; rintro e w5 ⟨rfl, rfl⟩)
      | (go_at_call 53; refine (rfits_any _ _ _ hn).mono ?_; rw [H1.out]; rintro e w5 ⟨rfl, rfl⟩)
      | (go_at_call 48; refine (wbytes_any _ w.heap.size g F4 _ HW4.out (by rw [HX.out]; omega)).mono ?_; rintro e w6 ⟨v6, rfl, hown6, hb6⟩; rw [HX.out] at hown6; obtain ⟨A6, c6, rfl, hr6, _⟩ := hown6.form; have hbw6 := nx hbw4 hb6)
      | (go_at_call 18; refine (same_any _ _ _ _ _ _ bs bs _ hr6 (hb.below hbw6) (by unfold maxLen; omega) (by unfold maxLen; omega)).mono ?_; rintro e w7 ⟨rfl, k7, rfl⟩; have hbw7 := dN hbw6 k7))
    go_ret
    exact ⟨ret_bool (by simp), hbw7⟩
end Go.Proofs.Ytjpkddmdhdmhgaa
