/- CutWhole: within its size a message is as it is; what is told within less is a beginning of each section, at every input of bulk at most the bound.
   Conditions: none beyond the statement's own: what is read is of bulk at most the bound of uptoSmall. -/
import Derived.JoinedCond
import Derived.Test.YtmkfjddighabcaaM01
import Derived.Test.YtmkfjddighabcaaM05
import Derived.Test.YtmkfjddighabcaaM39
/- CutWhole: within its size a message is as it is; what is told within less is a beginning of each section, at every input of bulk at most the bound.
   Conditions: none beyond the statement's own: what is read is of bulk at most the bound of uptoSmall. -/
namespace Go.Proofs.Ytmkfjddighabcaa.cutWholeUpto
open Go.ChangeShapes Go.WideShapes Go.ChangeAt Go.RowKit
open Go.ChangeMaps (open_string shut_string)
set_option linter.unusedVariables false
set_option maxRecDepth 100000 in
theorem lifted (os : Os) (started : os.Started) (H : Type) (enc : TypeId × Value → H) (F : Stop.Interp) :
    ReturnsInHanded {} Try.checked os 10 .any ((Rows.OpenSpec.upto Rows.cutWholeSpec).pre6 enc Try.prog Try.f10 Rows.cutWholeUptoRow.domain false) (((Rows.OpenSpec.upto Rows.cutWholeSpec).at F).post enc Try.prog Try.f10 false true false false) := by
  refine returnsInHanded_of_cond (C := Try.checked) (s := Rows.OpenSpec.upto Rows.cutWholeSpec) (k := Rows.uptoSmall) rfl own started (by kernel_rfl) Try.func10
    (OpenSpec.witness (enc := enc) (C := Try.checked) (s := Rows.OpenSpec.upto Rows.cutWholeSpec) (k := Rows.uptoSmall) rfl false ⟨#[], #[.agg #[.int .i64 0, .bool false, .int .i64 0, .bool false, .bool false, .bool false, .bool false, .int .i64 0, .slice none 0 0, .slice none 0 0, .slice none 0 0, .slice none 0 0, .bool false, .int .i64 0], .int .u16 0], []⟩ 8 (by kernel_rfl) (by kernel_rfl) (by kernel_rfl) (x := ([.agg [.lit (.int .i64 0), .lit (.bool false), .lit (.int .i64 0), .lit (.bool false), .lit (.bool false), .lit (.bool false), .lit (.bool false), .lit (.int .i64 0), .nil, .nil, .nil, .nil, .lit (.bool false), .lit (.int .i64 0)], .lit (.int .u16 0)], [], [])) (by kernel_rfl) rfl (by kernel_rfl)) ?_
  intro W base args ds gs before hval0 hW hcnd hk _
  have hval : ∀ (j : Nat) t v, Try.f10.params[j]? = some t → args[j]? = some v → Value.okWide Try.prog W .any base t v := hval0
  have hW' := hW
  obtain ⟨p, q, hA0, hV, rfl, hfz, hnd⟩ := hW
  have hA : DataW.TrodAll enc Try.prog W 0 (fun _ => true) true Try.f10.params.toList args.toList ds p := hA0
  rw [Try.params10] at hA hval
  obtain ⟨v0, vs0, d0, ds0, p0, q0, hargs, rfl, rfl, h0, r0⟩ := trodAll_cons hA
  obtain ⟨v1, vs1, d1, ds1, p1, q1, rfl, rfl, rfl, h1, r1⟩ := trodAll_cons r0
  obtain ⟨rfl, rfl, rfl⟩ := trodAll_nil r1
  obtain rfl : args = #[v0, v1] := by cases args; simp_all
  obtain ⟨rfl, rfl⟩ := trodVars_none hV
  have k0 := h0
  have lt0 : ∀ x ∈ p0, x.block < W.heap.size := by obtain ⟨m, hm⟩ := k0; exact DataW.trod_lt m _ _ _ hm
  obtain ⟨s0, x0, rfl, hr0, hg0⟩ := open_ms (hval 0 25 v0 rfl rfl) h0
  obtain ⟨x1, rfl, rfl, rfl, w1⟩ := open_int Try.underlying37 (hval 1 37 v1 rfl rfl) h1
  clear hA0 hval0
  have hG : MBig x0 1048576 := by
    have h := of_decide_eq_true hk
    have h2 : Rows.uptoBulk d0 ≤ 1048576 := by simp [Rows.uptoBulkAll] at h; omega
    exact ⟨Nat.le_trans hg0.q h2, Nat.le_trans hg0.a h2, Nat.le_trans hg0.u h2, Nat.le_trans hg0.x h2, fun r hr => Nat.le_trans (hg0.b r hr) h2⟩
  have w1' := w1
  obtain ⟨x1, rfl⟩ := Int.eq_ofNat_of_zero_le (bounds_u16 w1).1
  refine (cutWhole_walk s0 x0 x1 W hr0 hG.q hG.a hG.u hG.x hG.b (by have := (bounds_u16 w1').2; omega)).mono fun e W' ⟨he, bel⟩ => ?_
  subst he
  exact ⟨_, rfl, _, _, _, [], _, [], hW', trodAll_mk1 (shut_bool Try.underlying4 _), (trodAll_cons_mk (Below.trod laidOut (by kernel_rfl) (of_decide_eq_true (by kernel_rfl)) k0 bel lt0) (trodAll_cons_mk (shut_int Try.underlying37 w1) (trodAll_mk0))), rfl, bel.frame _, fun h => by cases h⟩

/-- The statement. -/
theorem proved : Rows.CutWholeUptoSaid :=
  OpenClaim.holds_of_cond 10 Try.f10 rfl rfl rfl rfl rfl rfl rfl ⟨rfl, rfl, rfl, rfl, rfl⟩ rfl rfl rfl rfl rfl (by kernel_rfl) Try.func10 (by kernel_rfl)
    (of_decide_eq_true (by kernel_rfl)) (by unfold Func.isWrapper; rw [if_neg (of_decide_eq_false (by kernel_rfl))]; exact ⟨rfl, rfl⟩)
    (fun os started H enc _ F => lifted os started H enc F)
end Go.Proofs.Ytmkfjddighabcaa.cutWholeUpto
