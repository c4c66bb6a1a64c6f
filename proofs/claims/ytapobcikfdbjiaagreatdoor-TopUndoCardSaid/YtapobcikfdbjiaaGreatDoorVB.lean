/-
  The code does what the models say: written by program.
-/
import Derived.Test.YtapobcikfdbjiaaGreatDoorVb
import Derived.Test.YtapobcikfdbjiaaGreatDoorVw
set_option linter.unusedVariables false
set_option linter.unusedSimpArgs false
namespace Go.Proofs.YtapobcikfdbjiaaGreatDoor
open Go Go.Dec
set_option maxRecDepth 1000000
set_option maxHeartbeats 4000000
section
attribute [local irreducible] W WL WN DM Op1 OpR Opd Dep
instance TA:∀ (n:Nat) (x:ah) (r:Bool),z1 28 (M.nS n x=some r) [aD.is x] (tB.is r):=by
 intro n;induction n with
 | zero=>exact fun _ _=>⟨Tryz.call28,fun hm=>by cases hm⟩
 | succ n ih=>
  intro x r;refine SpC.of Tryz.call28 Tryz.func28 X X fun g0 hm=>?_;rw [M.nS.eq_2] at hm;exact Fx hm
end
end Go.Proofs.YtapobcikfdbjiaaGreatDoor
