/- What comes in, opened: from the form's reading to the words of the walks. -/
import Derived.Test.YtbjaphldncagjaaRows
import Derived.Test.YtbjaphldncagjaaBytes
import Derived.ProofKit
import Derived.OpenShut
import Derived.ShutString
import Derived.ChangeOld
import Derived.SizedLaws
namespace Go.Proofs.Ytbjaphldncagjaa
open Go.ChangeShapes Go.WideShapes Go.ChangeAt Go.RowKit

theorem own : ownKnob Try.prog.godebug = none := by kernel_rfl
theorem laidOut : laidOutB Try.prog = true := by kernel_rfl

section
variable {H : Type} {enc : TypeId × Value → H} {W : World} {base b0 : Nat} {sp : Nat → Bool} {hd : Bool} {r : Reach}
set_option maxRecDepth 100000 in
/-- A slice of bytes that came in. -/
theorem open_bytes {t e : TypeId} (ht : Try.prog.underlying t = some (.slice e)) (he : Try.prog.underlying e = some (.int .u8)) (hC : Try.prog.cellsOf e = 1) {v : Value} {d : DataW H} {p : List MemPlace}
    (hv : Value.okWide Try.prog W r b0 t v) (h : DataW.Trod enc Try.prog W base sp hd t v d p) :
    ∃ A n c bs, v = .slice A n c ∧ RdB W A n bs ∧ n ≤ c ∧ c ≤ maxLen ∧ ((d = .nil ∧ n = 0) ∨ ∃ el s, d = .slice el s ∧ el.length = n) := by
  obtain ⟨A, n, c, rfl⟩ := okWide_slice ht hv
  obtain ⟨fuel, hf⟩ := h
  rcases open_ints ht he hC hf with ⟨hcs, hx⟩ | ⟨a, len, cap, zs, hcs, _, hl, hm, hz, hx, hcell, hwf⟩
  · simp [Value.cells] at hcs
    obtain ⟨rfl, rfl, rfl⟩ := hcs
    simp only [Prod.mk.injEq] at hx
    exact ⟨none, 0, 0, [], rfl, Rd.nil _ _ _, Nat.le_refl _, by simp [maxLen], .inl ⟨hx.1, rfl⟩⟩
  · simp [Value.cells] at hcs
    obtain ⟨rfl, rfl, rfl⟩ := hcs
    have hzl : n ≤ zs.length := by rw [hz]; split <;> omega
    refine ⟨_, n, c, (zs.take n).map fun z => UInt8.ofNat z.toNat, rfl, ⟨by simp; omega, fun hn => ?_⟩, hl, hm, .inr ⟨_, _, (Prod.mk.inj hx).1, by simp [lits]; omega⟩⟩
    simp at hn
    obtain ⟨b, off, e, hc⟩ := ints_at hcell (by omega)
    subst e
    refine ⟨b, off, rfl, fun j u hu => ?_⟩
    rw [List.getElem?_map] at hu
    cases hj : (List.map (fun z : Int => UInt8.ofNat z.toNat) (zs.take n))[j]? with
    | none => rw [hj] at hu; cases hu
    | some y =>
      rw [hj] at hu
      simp only [Option.map_some, Option.some.injEq] at hu
      subst hu
      rw [List.getElem?_map, List.getElem?_take] at hj
      split at hj
      · have hjl : j < zs.length := by omega
        rw [List.getElem?_eq_getElem hjl] at hj
        simp only [Option.map_some, Option.some.injEq] at hj
        subst hj
        rw [hc j hjl]
        have hw := bounds_u8 (hwf zs[j] (List.getElem_mem hjl))
        have hg : zs.getD j 0 = zs[j] := by simp [List.getD, List.getElem?_eq_getElem hjl]
        rw [hg]
        unfold bV
        congr 2
        simp
        omega
      · cases hj
end
end Go.Proofs.Ytbjaphldncagjaa
