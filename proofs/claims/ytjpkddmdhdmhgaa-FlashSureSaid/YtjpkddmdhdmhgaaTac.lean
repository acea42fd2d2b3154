/- The tactics that the walks use, in one place. -/
import Derived.Test.YtjpkddmdhdmhgaaLib
import Derived.Deep.Cut
import Derived.Deep.CutBlock
import Derived.Deep.DeepCutAuto
import Derived.Deep.DeepMust
import Derived.Deep.DeepFit
import Derived.Deep.RegionHeld3
import Derived.Deep.LoopGhost
import Derived.Outline
