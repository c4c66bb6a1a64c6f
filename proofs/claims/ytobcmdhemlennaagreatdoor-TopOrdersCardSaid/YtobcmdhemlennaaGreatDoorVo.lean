/-
  The code does what the models say: written by program.
-/
import Derived.Test.YtobcmdhemlennaaGreatDoorVk
set_option linter.unusedVariables false
set_option linter.unusedSimpArgs false
namespace Go.Proofs.YtobcmdhemlennaaGreatDoor
open Go Go.Dec
set_option maxRecDepth 1000000
set_option maxHeartbeats 4000000
section
attribute [local irreducible] W WL WN DM Op1 OpR Opd Dep
instance KE:∀ (n:Nat) (a:ag) (b:ag) (r:Bool),z1 152 (M.pE n a b=some r) [aB.is a,aB.is b] (tB.is r):=by
 intro n;induction n with
 | zero=>exactλ_ _ _=>⟨Tryz.call152,λhm=>by cases hm⟩
 | succ n ih=>
  intro a b r;refine SpC.of Tryz.call152 Tryz.func152 X X λg0 hm=>?_;rw [M.pE.eq_2] at hm;exact Fx hm
end
end Go.Proofs.YtobcmdhemlennaaGreatDoor
