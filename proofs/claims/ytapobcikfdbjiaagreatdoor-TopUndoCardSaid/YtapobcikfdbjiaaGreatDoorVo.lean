/-
  The code does what the models say: written by program.
-/
import Derived.Test.YtapobcikfdbjiaaGreatDoorVk
set_option linter.unusedVariables false
set_option linter.unusedSimpArgs false
namespace Go.Proofs.YtapobcikfdbjiaaGreatDoor
open Go Go.Dec
set_option maxRecDepth 1000000
set_option maxHeartbeats 4000000
section
attribute [local irreducible] W WL WN DM Op1 OpR Opd Dep
instance LY:∀ (n:Nat) (a:ah) (b:ah) (r:Bool),z1 81 (M.qE n a b=some r) [aD.is a,aD.is b] (tB.is r):=by
 intro n;induction n with
 | zero=>exact fun _ _ _=>⟨Tryz.call81,fun hm=>by cases hm⟩
 | succ n ih=>
  intro a b r;refine SpC.of Tryz.call81 Tryz.func81 X X fun g0 hm=>?_;rw [M.qE.eq_2] at hm;exact Fx hm
end
end Go.Proofs.YtapobcikfdbjiaaGreatDoor
