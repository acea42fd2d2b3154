/- The tactics that the walks use, in one place. -/
import Derived.Test.YtbjaphldncagjaaLib
import Derived.Deep.Cut
import Derived.Deep.CutBlock
import Derived.Deep.DeepCutAuto
import Derived.Deep.DeepMust
import Derived.Deep.DeepFit
import Derived.Deep.RegionHeld3
import Derived.Deep.LoopGhost
import Derived.Outline
namespace Go.Proofs.Ytbjaphldncagjaa
open Go.RowKit
section
variable {P : Program} {f : FuncId} {args : Array Value} {w : World} {n a : Nat} {v : Value}
/-- A contract that leaves the world alone, inside a quiet region. -/
theorem quiet_ret (h : Calls P f args (w.drewN n) (Ret v (w.drewN n))) : Calls P f args (w.drewN n) fun e w'' => e = .returned v ∧ ∃ m, w'' = w.drewN m :=
  h.mono fun _ _ ⟨he, hm⟩ => ⟨he, n, hm.symm⟩
theorem quiet_retA (h : Calls P f args (w.drewN (a + n)) (Ret v (w.drewN (a + n)))) : Calls P f args (w.drewN (a + n)) fun e w'' => e = .returned v ∧ ∃ m, w'' = w.drewN (a + m) :=
  h.mono fun _ _ ⟨he, hm⟩ => ⟨he, n, hm.symm⟩
theorem quiet_retN (h : Calls P f args (w.drewN n) (RetN v (w.drewN n))) : Calls P f args (w.drewN n) fun e w'' => e = .returned v ∧ ∃ m, w'' = w.drewN m :=
  h.mono fun _ _ ⟨he, m, hm⟩ => ⟨he, n + m, by rw [hm, World.drewN_drewN]⟩
theorem quiet_retNA (h : Calls P f args (w.drewN (a + n)) (RetN v (w.drewN (a + n)))) : Calls P f args (w.drewN (a + n)) fun e w'' => e = .returned v ∧ ∃ m, w'' = w.drewN (a + m) :=
  h.mono fun _ _ ⟨he, m, hm⟩ => ⟨he, n + m, by rw [hm, World.drewN_drewN, Nat.add_assoc]⟩
end
end Go.Proofs.Ytbjaphldncagjaa
