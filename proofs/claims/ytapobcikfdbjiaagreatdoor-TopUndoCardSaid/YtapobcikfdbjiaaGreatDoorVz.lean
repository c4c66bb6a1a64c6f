/-
  The code does what the models say: written by program.
-/
import Derived.Test.YtapobcikfdbjiaaGreatDoorVw
set_option linter.unusedVariables false
set_option linter.unusedSimpArgs false
namespace Go.Proofs.YtapobcikfdbjiaaGreatDoor
open Go Go.Dec
set_option maxRecDepth 1000000
set_option maxHeartbeats 4000000
section
attribute [local irreducible] W WL WN DM Op1 OpR Opd Dep
instance Ir(n:Nat)(it:ah)(r:Bool):z1 149 (M.lX n it=some r) [aD.is it] (tB.is r):=.fx Tryz.call149 Tryz.func149 (M.lX.eq_1 ..)
end
end Go.Proofs.YtapobcikfdbjiaaGreatDoor
