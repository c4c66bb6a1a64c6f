/-
  The code does what the models say: written by program.
-/
import Derived.Test.YtobcmdhemlennaaGreatDoorVv
set_option linter.unusedVariables false
set_option linter.unusedSimpArgs false
namespace Go.Proofs.YtobcmdhemlennaaGreatDoor
open Go Go.Dec
set_option maxRecDepth 1000000
set_option maxHeartbeats 4000000
section
attribute [local irreducible] W WL WN DM Op1 OpR Opd Dep
instance QR(n:Nat)(u:aa)(id:ai)(d:ak)(r:aa×Int):z1 95 (M.ma n u id d=some r) [ae.is u,aH.is id,aJ.is d] (Asn.tuple2 (ae.is r.1) (I6.is r.2)):=.fx Tryz.call95 Tryz.func95 (M.ma.eq_1 ..) [8,11,13,1000003]
end
end Go.Proofs.YtobcmdhemlennaaGreatDoor
