/-
  The code does what the models say: written by program.
-/
import Derived.Test.YtobcmdhemlennaaGreatDoorVs
import Derived.Test.YtobcmdhemlennaaGreatDoorVv
import Derived.Test.YtobcmdhemlennaaGreatDoorVz
import Derived.Test.YtobcmdhemlennaaGreatDoorVA
set_option linter.unusedVariables false
set_option linter.unusedSimpArgs false
namespace Go.Proofs.YtobcmdhemlennaaGreatDoor
open Go Go.Dec
set_option maxRecDepth 1000000
set_option maxHeartbeats 4000000
abbrev Mr:=λ(slf:aa->Option Bool)(nn:List aa)=>mkRg (M.gm slf nn) (λmm jj s=>M.gm slf mm) nn () 14 [1,12,13] [700001,700004] z7 z7 (λ_ _=>M.gm.eq_1 ..) (λ_ _ _ _=>M.gm.eq_2 ..)
attribute [instance] Mr
section
attribute [local irreducible] W WL WN DM Op1 OpR Opd Dep
instance Hf(n:Nat)(u:aa)(p:List av)(r:ai×Int):z1 135 (M.dM n u p=some r) [ae.is u,(tL bE).is p] (Asn.tuple2 (aH.is r.1) (I6.is r.2)):=.fx Tryz.call135 Tryz.func135 (M.dM.eq_1 ..)
instance JO:∀ (n:Nat) (u:aa) (r:Bool),z2 220 (M.lm n u=some r) [ae.is u,cloA 286 []] (tB.is r) [E1,E4]:=by
 intro n;induction n with
 | zero=>exactλ_ _=>⟨Tryz.call220,(by repeat' first | exact trivial | refine ⟨rfl,?_⟩),λhm=>by cases hm⟩
 | succ n ih=>
  intro u r;refine SpG.of Tryz.call220 Tryz.func220 X X λg0 hm=>?_;rw [M.lm.eq_2] at hm;exact Fx hm [6]
instance Ct(n:Nat)(u:aa)(p:List av)(where0_:Int)(r:ai×Int×Int):z1 212 (M.j4 n u p where0_=some r) [ae.is u,(tL bE).is p,I6.is where0_] (Asn.tuple3 (aH.is r.1) (I6.is r.2.1) (I6.is r.2.2)):=.fx Tryz.call212 Tryz.func212 (M.j4.eq_1 ..) [9]
instance Bi(n:Nat)(u:aa)(r:Bool):z2 257 (M.qg n u=some r) [ae.is u] (tB.is r) [E1,E4]:=.fx Tryz.call257 Tryz.func257 (M.qg.eq_1 ..)
instance NI(n:Nat)(d:ak)(r:Bool):z1 82 (M.qh n d=some r) [aJ.is d] (tB.is r):=.fx Tryz.call82 Tryz.func82 (M.qh.eq_1 ..)
instance Us(n:Nat)(u:aa)(d:ak)(r:aa×Int):z1 83 (M.nJ n u d=some r) [ae.is u,aJ.is d] (Asn.tuple2 (ae.is r.1) (I6.is r.2)):=.fx Tryz.call83 Tryz.func83 (M.nJ.eq_1 ..) [6]
instance D8(n:Nat)(u:aa)(it:ag)(r:ai×Int×Int):z1 158 (M.jm n u it=some r) [ae.is u,aB.is it] (Asn.tuple3 (aH.is r.1) (I6.is r.2.1) (I6.is r.2.2)):=.fx Tryz.call158 Tryz.func158 (M.jm.eq_1 ..) [7,9,10]
instance JP(n:Nat)(u:aa)(depth:Int)(r:Bool):z2 296 (M.pQ n u depth=some r) [ae.is u,I6.is depth] (tB.is r) [E1,E4]:=SpG.of Tryz.call296 Tryz.func296 X X λg0 hm=>by
 unfold M.pQ at hm;dsimp only at hm;exact Fx hm [1000002]
end
end Go.Proofs.YtobcmdhemlennaaGreatDoor
