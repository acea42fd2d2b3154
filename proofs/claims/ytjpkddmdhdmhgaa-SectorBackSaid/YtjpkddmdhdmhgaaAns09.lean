/- The walk of 'answers' of layer 9 (sector). -/
import Derived.Test.YtjpkddmdhdmhgaaSector
import Derived.Test.YtjpkddmdhdmhgaaLawT
namespace Go.Proofs.Ytjpkddmdhdmhgaa
open Go.RowKit

theorem bS (w : World) (o : Obj) : Below w.heap.size w (w.alloc o) := bl.alloc (Nat.le_refl _) _

set_option maxRecDepth 100000 in
set_option maxHeartbeats 1000000 in
theorem answers09_any (w : World) : Calls Try.prog 15 #[] w (LawT w) := by
  have hs1 : (sealP 1 0 0 0 1 [9]).2 = 0 := by
    rw [sealP_ok (by decide) (by decide)]
  have hs2 : (sealP 1 0 0 0 1 [9]).1.length = 512 := by
    rw [sealP_ok (by decide) (by decide)]
    simp only [List.length_append, List.length_replicate]
    rw [hdTo_16 _ _ _ _ _ _ (by decide) (by decide) (by decide)]; rfl
  have hs3 : (sealP 1 0 0 0 1 [9]).1[0]? = some 1 := by
    rw [sealP_ok (by decide) (by decide)]
    show (hdTo [1, 0, 0, 0, 1, 1] 6 ++ [9] ++ _)[0]? = _
    rw [List.getElem?_append_left (by decide)]
    decide
  have hs4 : (sealP 1 0 0 0 1 [9]).1[16]? = some 9 := by
    rw [sealP_ok (by decide) (by decide)]
    show (hdTo [1, 0, 0, 0, 1, 1] 6 ++ [9] ++ _)[16]? = _
    rw [List.getElem?_append_left (by decide)]
    decide
  obtain ⟨r, hr⟩ : ∃ r, r = sealP 1 0 0 0 1 [9] := ⟨_, rfl⟩
  rw [← hr] at hs1 hs2 hs3 hs4
  have HR := Lib.hid hr
  have H1 := Lib.hid hs1
  have H2 := Lib.hid hs2
  have H3 := Lib.hid hs3
  have H4 := Lib.hid hs4
  clear hr hs1 hs2 hs3 hs4
  go_enter Try.func15, Try.ntmps15
  go_wp2_with (go_at_call 19; refine (seal_any _ _ _ _ _ _ _ _ [9] _ (lit_rd w [9] (by decide)) (by decide)).mono ?_; rintro e w1 ⟨v, n, rfl, ⟨hn, hown⟩, hb⟩; rw [← HR.out] at hn hown; rw [H1.out] at hn; subst hn; obtain ⟨g, c, rfl, hg, hl, hc, hm, hcell⟩ := hown.flat (by rw [H2.out]; omega); rw [H2.out] at hc ⊢; have c0 := hcell 0 1 H3.out; have c1 := hcell 16 9 H4.out; clear hcell hown)
  go_ret
  exact ⟨rfl, nx (bS _ _) hb⟩
end Go.Proofs.Ytjpkddmdhdmhgaa
