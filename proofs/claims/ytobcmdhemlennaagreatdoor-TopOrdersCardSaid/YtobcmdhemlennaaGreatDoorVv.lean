import Derived.Test.YtobcmdhemlennaaGreatDoorVu
/-
  The code does what the models say: written by program.
-/
set_option linter.unusedVariables false
set_option linter.unusedSimpArgs false
namespace Go.Proofs.YtobcmdhemlennaaGreatDoor
open Go Go.Dec
set_option maxRecDepth 1000000
set_option maxHeartbeats 4000000
abbrev QO:=λ(n:Nat)(u:aa)(nn:List aa)(s0:List (bG×Bool))=>mkRg (τ:=List (bG×Bool)) (M.fq n u nn s0) (λmm jj s=>M.fq n u mm s) nn s0 49 [1,3,47,48] [700001,700004] z7 (λs _ _ _ b1 _ _ e=>(45,Mq kH tB s b1)::e) (λ_ _=>M.fq.eq_1 ..) (λ_ _ _ _=>M.fq.eq_2 ..)
attribute [instance] QO
section
attribute [local irreducible] W WL WN DM Op1 OpR Opd Dep
instance Mo(n:Nat)(u:aa)(id:ai)(to0_:ai)(where0_:Int)(r:aF×Int):z1 214 (M.rH n u id to0_ where0_=some r) [ae.is u,aH.is id,aH.is to0_,I6.is where0_] (Asn.tuple2 (dD.is r.1) (I6.is r.2)):=.fx Tryz.call214 Tryz.func214 (M.rH.eq_1 ..) [11]
instance NH(n:Nat)(u:aa)(r:Bool):z2 286 (M.tC n u=some r) [ae.is u] (tB.is r) [E1,E4]:=.fx Tryz.call286 Tryz.func286 (M.tC.eq_1 ..) [5,6]
instance IQ(n:Nat)(it:ag)(r:Bool):z1 187 (M.mQ n it=some r) [aB.is it] (tB.is r):=.fx Tryz.call187 Tryz.func187 (M.mQ.eq_1 ..)
instance IR(n:Nat)(it:ag)(r:Bool):z1 191 (M.mR n it=some r) [aB.is it] (tB.is r):=.fx Tryz.call191 Tryz.func191 (M.mR.eq_1 ..)
abbrev Ur:=λ(lines:List Str)(nn:Nat)(s0:Str)(s1:Int)=>mkLp (τ:=Str×Int) (M.jJ lines nn s0 s1) (λmm s=>M.jJ lines mm s.1 s.2) nn (s0,s1) [4] [] (λs _ _ _ _ _ _ e=>(5,tS.is s.1)::(6,I6.is s.2)::e) z7 (λ_=>M.jJ.eq_1 ..) (λ_ _=>M.jJ.eq_2 ..)
abbrev JN:=λ(nn:List aa)(s0:List ai)=>mkRg (τ:=List ai) (M.dN nn s0) (λmm jj s=>M.dN mm s) nn s0 12 [10,11] [] (λs k1 _ _ _ _ _ e=>(5,tO aH k1 s)::e) (λs k1 _ _ _ _ _ e=>(5,Dec.Own aH 23 k1 s.length)::e) (λ_ _=>M.dN.eq_1 ..) (λ_ _ _ _=>M.dN.eq_2 ..)
attribute [instance] Ur JN
instance R8(n:Nat)(u:aa)(p:List av)(r:ai×Int):z1 93 (M.uz n u p=some r) [ae.is u,(tL bE).is p] (Asn.tuple2 (aH.is r.1) (I6.is r.2)):=.fx Tryz.call93 Tryz.func93 (M.uz.eq_1 ..)
instance Hd(n:Nat)(u:aa)(most:Int)(r:Bool):z1 4 (M.nN n u most=some r) [ae.is u,I6.is most] (tB.is r):=.fx Tryz.call4 Tryz.func4 (M.nN.eq_1 ..)
instance QP(n:Nat)(u:aa)(r:Str×Int):z1 22 (M.wE n u=some r) [ae.is u] (Asn.tuple2 (tS.is r.1) (I6.is r.2)):=.fx Tryz.call22 Tryz.func22 (M.wE.eq_1 ..)
instance QQ(n:Nat)(u:aa)(r:Bool):z1 23 (M.wF n u=some r) [ae.is u] (tB.is r):=.fx Tryz.call23 Tryz.func23 (M.wF.eq_1 ..)
instance He(n:Nat)(u:aa)(p:List av)(r:List ai):z1 153 (M.nQ n u p=some r) [ae.is u,(tL bE).is p] ((tL aH).is r):=.fx Tryz.call153 Tryz.func153 (M.nQ.eq_1 ..) [7]
end
end Go.Proofs.YtobcmdhemlennaaGreatDoor
