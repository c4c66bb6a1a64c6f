/-
  The code does what the models say: written by program.
-/
import Derived.Test.YtobcmdhemlennaaGreatDoorVm
set_option linter.unusedVariables false
set_option linter.unusedSimpArgs false
namespace Go.Proofs.YtobcmdhemlennaaGreatDoor
open Go Go.Dec
set_option maxRecDepth 1000000
set_option maxHeartbeats 4000000
abbrev QN:=λ(u:aa)(every:List aa)(nn:Nat)(s0:Int)(s1:aa)=>mkLp (τ:=Int×aa) (M.eB u every nn s0 s1) (λmm s=>M.eB u every mm s.1 s.2) nn (s0,s1) [3,6,8,10,11,12] [8] (λs _ _ _ _ _ _ e=>(13,I6.is s.1)::e) (λs _ _ _ b1 _ _ e=>(6,Bx 8 true 27 (ae.is s.2) b1)::e) (λ_=>M.eB.eq_1 ..) (λ_ _=>M.eB.eq_2 ..)
attribute [instance] QN
section
attribute [local irreducible] W WL WN DM Op1 OpR Opd Dep
instance NG(n:Nat)(u:aa)(id:ai)(d:ak)(r:aa×Int):z1 94 (M.kg n u id d=some r) [ae.is u,aH.is id,aJ.is d] (Asn.tuple2 (ae.is r.1) (I6.is r.2)):=.fx Tryz.call94 Tryz.func94 (M.kg.eq_1 ..) [11]
end
end Go.Proofs.YtobcmdhemlennaaGreatDoor
