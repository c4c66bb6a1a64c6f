/-
  The code does what the models say: written by program.
-/
import Derived.Test.YtapobcikfdbjiaaGreatDoorVt
set_option linter.unusedVariables false
set_option linter.unusedSimpArgs false
namespace Go.Proofs.YtapobcikfdbjiaaGreatDoor
open Go Go.Dec
set_option maxRecDepth 1000000
set_option maxHeartbeats 4000000
abbrev RA:=fun (u:aa)(every:List aa)(nn:Nat)(s0:Int)(s1:aa)=>mkLp (τ:=Int×aa) (M.dV u every nn s0 s1) (fun mm s=>M.dV u every mm s.1 s.2) nn (s0,s1) [3,6,8,10,11,12] [8] (fun s _ _ _ _ _ _ e=>(13,I6.is s.1)::e) (fun s _ _ _ b1 _ _ e=>(6,Bx 8 true 27 (ae.is s.2) b1)::e) (fun _=>M.dV.eq_1 ..) (fun _ _=>M.dV.eq_2 ..)
attribute [instance] RA
section
attribute [local irreducible] W WL WN DM Op1 OpR Opd Dep
instance OL(n:Nat)(u:aa)(id:ai)(d:ak)(r:aa×Int):z1 35 (M.jT n u id d=some r) [ae.is u,aB.is id,aO.is d] (Asn.tuple2 (ae.is r.1) (I6.is r.2)):=.fx Tryz.call35 Tryz.func35 (M.jT.eq_1 ..) [11]
end
end Go.Proofs.YtapobcikfdbjiaaGreatDoor
