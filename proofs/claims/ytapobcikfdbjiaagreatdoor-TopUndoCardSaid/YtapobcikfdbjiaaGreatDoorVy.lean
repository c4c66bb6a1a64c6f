/-
  The code does what the models say: written by program.
-/
import Derived.Test.YtapobcikfdbjiaaGreatDoorVw
set_option linter.unusedVariables false
set_option linter.unusedSimpArgs false
namespace Go.Proofs.YtapobcikfdbjiaaGreatDoor
open Go Go.Dec
set_option maxRecDepth 1000000
set_option maxHeartbeats 4000000
abbrev RB:=fun (n:Nat)(u:aa)(nn:List aa)(s0:List (bD×Bool))=>mkRg (τ:=List (bD×Bool)) (M.eY n u nn s0) (fun mm jj s=>M.eY n u mm s) nn s0 49 [1,3,47,48] [700001,700004] z7 (fun s _ _ _ b1 _ _ e=>(45,Mq j5 tB s b1)::e) (fun _ _=>M.eY.eq_1 ..) (fun _ _ _ _=>M.eY.eq_2 ..)
attribute [instance] RB
section
attribute [local irreducible] W WL WN DM Op1 OpR Opd Dep
instance Nt(n:Nat)(u:aa)(id:ai)(to0_:ai)(where0_:Int)(r:aH×Int):z1 210 (M.tN n u id to0_ where0_=some r) [ae.is u,aB.is id,aB.is to0_,I6.is where0_] (Asn.tuple2 (dx.is r.1) (I6.is r.2)):=.fx Tryz.call210 Tryz.func210 (M.tN.eq_1 ..) [11]
instance OM(n:Nat)(u:aa)(r:Bool):z2 285 (M.uU n u=some r) [ae.is u] (tB.is r) [E1,E4]:=.fx Tryz.call285 Tryz.func285 (M.uU.eq_1 ..) [5,6]
instance JG(n:Nat)(it:ah)(r:Bool):z1 143 (M.nk n it=some r) [aD.is it] (tB.is r):=.fx Tryz.call143 Tryz.func143 (M.nk.eq_1 ..)
instance JH(n:Nat)(it:ah)(r:Bool):z1 147 (M.nu n it=some r) [aD.is it] (tB.is r):=.fx Tryz.call147 Tryz.func147 (M.nu.eq_1 ..)
end
end Go.Proofs.YtapobcikfdbjiaaGreatDoor
