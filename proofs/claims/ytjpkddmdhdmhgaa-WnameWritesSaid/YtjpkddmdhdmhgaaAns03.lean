/- wname: the law's 'answers'. -/
import Derived.Test.YtjpkddmdhdmhgaaWget
import Derived.Test.YtjpkddmdhdmhgaaLawT
namespace Go.Proofs.Ytjpkddmdhdmhgaa
open Go.RowKit

set_option maxHeartbeats 1000000 in
theorem answers03_any (w : World) : Calls Try.prog 38 #[] w (LawT w) := by
  have hg : Hid ((if (0 : Int) < 0 then ([], 0, 1) else getP [1, 97, 0] (0 : Int).toNat (0 : Int).toNat 0 []) = ([[97]], 3, 0)) := by
    show _ = _
    rw [if_neg (by decide)]
    rw [getP_label (c := 1) rfl (by decide) (by decide) (by decide) (by simp [sizeN]), getP_end (c := 0) rfl rfl]
    rfl
  go_enter Try.func38, Try.ntmps38
  go_wp2_with (go_at_call 49; refine (wget_any _ _ _ [1, 97, 0] _ _ (lit_rd w [1, 97, 0] (by decide)) (by decide) (by decide)).mono ?_; rintro e w1 ⟨v, rfl, hown, hb⟩; rw [hg.out] at hown ⊢; obtain ⟨A, c, rfl, hel, _⟩ := hown.form; obtain ⟨b, off, rfl, _, hcell⟩ := hel.2 (by decide); obtain ⟨r, ⟨hr, _⟩, hc⟩ := hcell 0 [97] rfl; subst hr; have c0 := hc 0 _ rfl; simp only [Nat.zero_mul, Nat.add_zero] at c0; have hbw := nx (bl.alloc (Nat.le_refl _) _) hb; clear hcell hc)
  go_ret
  exact ⟨ret_bool (by rw [bstr_toList]; rfl), hbw⟩

end Go.Proofs.Ytjpkddmdhdmhgaa
