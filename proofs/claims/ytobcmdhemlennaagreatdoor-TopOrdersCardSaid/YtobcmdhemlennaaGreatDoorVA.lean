/-
  The code does what the models say: written by program.
-/
import Derived.Test.YtobcmdhemlennaaGreatDoorVb
import Derived.Test.YtobcmdhemlennaaGreatDoorVv
set_option linter.unusedVariables false
set_option linter.unusedSimpArgs false
namespace Go.Proofs.YtobcmdhemlennaaGreatDoor
open Go Go.Dec
set_option maxRecDepth 1000000
set_option maxHeartbeats 4000000
section
attribute [local irreducible] W WL WN DM Op1 OpR Opd Dep
instance R9:∀ (n:Nat) (x:ag) (r:Bool),z1 6 (M.mq n x=some r) [aB.is x] (tB.is r):=by
 intro n;induction n with
 | zero=>exactλ_ _=>⟨Tryz.call6,λhm=>by cases hm⟩
 | succ n ih=>
  intro x r;refine SpC.of Tryz.call6 Tryz.func6 X X λg0 hm=>?_;rw [M.mq.eq_2] at hm;exact Fx hm
end
end Go.Proofs.YtobcmdhemlennaaGreatDoor
