/-
  The code does what the models say: written by program.
-/
import Derived.Test.YtobcmdhemlennaaGreatDoorVu
set_option linter.unusedVariables false
set_option linter.unusedSimpArgs false
namespace Go.Proofs.YtobcmdhemlennaaGreatDoor
open Go Go.Dec
set_option maxRecDepth 1000000
set_option maxHeartbeats 4000000
section
attribute [local irreducible] W WL WN DM Op1 OpR Opd Dep
instance Ha(n:Nat)(it:ag)(r:Bool):z1 193 (M.lT n it=some r) [aB.is it] (tB.is r):=.fx Tryz.call193 Tryz.func193 (M.lT.eq_1 ..)
end
end Go.Proofs.YtobcmdhemlennaaGreatDoor
