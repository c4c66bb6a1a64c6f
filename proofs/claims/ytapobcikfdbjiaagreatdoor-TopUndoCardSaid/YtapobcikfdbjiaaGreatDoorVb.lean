/-
  The code does what the models say: written by program.
-/
import Derived.Test.YtapobcikfdbjiaaGreatDoorVg
set_option linter.unusedVariables false
set_option linter.unusedSimpArgs false
namespace Go.Proofs.YtapobcikfdbjiaaGreatDoor
open Go Go.Dec
set_option maxRecDepth 1000000
set_option maxHeartbeats 4000000
section
attribute [local irreducible] W WL WN DM Op1 OpR Opd Dep
instance RF(x:ah)(r:ah):z1 52 (M.ol x=some r) [aD.is x] (aD.is r):=SpC.of Tryz.call52 Tryz.func52 X X fun g0 hm=>by
 unfold M.ol at hm;dsimp only at hm;exact Fx hm
end
end Go.Proofs.YtapobcikfdbjiaaGreatDoor
