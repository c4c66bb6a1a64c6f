/-
  The code does what the models say: written by program.
-/
import Derived.Test.YtapobcikfdbjiaaGreatDoorVw
set_option linter.unusedVariables false
set_option linter.unusedSimpArgs false
namespace Go.Proofs.YtapobcikfdbjiaaGreatDoor
open Go Go.Dec
set_option maxRecDepth 1000000
set_option maxHeartbeats 4000000
section
attribute [local irreducible] W WL WN DM Op1 OpR Opd Dep
instance RD(n:Nat)(u:aa)(id:ai)(d:ak)(r:aa×Int):z1 36 (M.ma n u id d=some r) [ae.is u,aB.is id,aO.is d] (Asn.tuple2 (ae.is r.1) (I6.is r.2)):=.fx Tryz.call36 Tryz.func36 (M.ma.eq_1 ..) [8,11,13,1000003]
end
end Go.Proofs.YtapobcikfdbjiaaGreatDoor
