/-
  The code does what the models say: written by program.
-/
import Derived.Test.YtobcmdhemlennaaGreatDoorVg
set_option linter.unusedVariables false
set_option linter.unusedSimpArgs false
namespace Go.Proofs.YtobcmdhemlennaaGreatDoor
open Go Go.Dec
set_option maxRecDepth 1000000
set_option maxHeartbeats 4000000
section
attribute [local irreducible] W WL WN DM Op1 OpR Opd Dep
instance QS(x:ag)(r:ag):z1 18 (M.lZ x=some r) [aB.is x] (aB.is r):=SpC.of Tryz.call18 Tryz.func18 X X λg0 hm=>by
 unfold M.lZ at hm;dsimp only at hm;exact Fx hm
end
end Go.Proofs.YtobcmdhemlennaaGreatDoor
