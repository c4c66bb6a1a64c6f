import Derived.Test.YtobcmdhemlennaaGreatDoorVg
import Derived.Test.YtobcmdhemlennaaGreatDoorVd
import Derived.Test.YtobcmdhemlennaaGreatDoorVj
import Derived.Test.YtobcmdhemlennaaGreatDoorVk
/-
  The code does what the models say: written by program.
-/
set_option linter.unusedVariables false
set_option linter.unusedSimpArgs false
namespace Go.Proofs.YtobcmdhemlennaaGreatDoor
open Go Go.Dec
set_option maxRecDepth 1000000
set_option maxHeartbeats 4000000
abbrev Ro:=λ(a:aS)(nn:Nat)(s0:(List ak))(s1:Int)=>mkLp (τ:=(List ak)×Int) (M.jd a nn s0 s1) (λmm s=>M.jd a mm s.1 s.2) nn (s0,s1) [1] [] (λs k1 _ _ _ _ _ e=>(3,tO aJ k1 s.1)::(4,I6.is s.2)::e) (λs k1 _ _ _ _ _ e=>(5,Dec.Own aJ 120 k1 s.1.length)::e) (λ_=>M.jd.eq_1 ..) (λ_ _=>M.jd.eq_2 ..)
abbrev Rp:=λ(u:aa)(slf:aa->Option (List aa))(nn:Nat)(s0:(List aa))(s1:Int)=>mkLp (τ:=(List aa)×Int) (M.je u slf nn s0 s1) (λmm s=>M.je u slf mm s.1 s.2) nn (s0,s1) [1] [] (λs k1 _ _ _ _ _ e=>(3,tO ae k1 s.1)::(4,I6.is s.2)::e) (λs k1 _ _ _ _ _ e=>(6,Dec.Own ae 27 k1 s.1.length)::e) (λ_=>M.je.eq_1 ..) (λ_ _=>M.je.eq_2 ..)
abbrev UV:=λ(u:aa)(id:ai)(slf:aa->ai->Option (aa×Int))(nn:Nat)(s0:Int)(s1:aa)=>mkLp (τ:=Int×aa) (M.gW u id slf nn s0 s1) (λmm s=>M.gW u id slf mm s.1 s.2) nn (s0,s1) [2,3,4] [] (λs _ _ _ _ _ _ e=>(6,I6.is s.1)::e) (λs _ _ _ b1 _ _ e=>(4,Bx 8 true 27 (ae.is s.2) b1)::e) (λ_=>M.gW.eq_1 ..) (λ_ _=>M.gW.eq_2 ..)
abbrev Qs:=λ(u:aa)(id:ai)(nn:Nat)(s0:Int)(s1:aa)=>mkLp (τ:=Int×aa) (M.eu u id nn s0 s1) (λmm s=>M.eu u id mm s.1 s.2) nn (s0,s1) [2,3,4] [] (λs _ _ _ _ _ _ e=>(7,I6.is s.1)::e) (λs _ _ _ b1 _ _ e=>(4,Bx 8 true 27 (ae.is s.2) b1)::e) (λ_=>M.eu.eq_1 ..) (λ_ _=>M.eu.eq_2 ..)
abbrev Qt:=λ(u:aa)(id:ai)(slf:aa->ai->Option (aa×Int×Int))(nn:Nat)(s0:Int)(s1:aa)=>mkLp (τ:=Int×aa) (M.ed u id slf nn s0 s1) (λmm s=>M.ed u id slf mm s.1 s.2) nn (s0,s1) [2,3,4] [] (λs _ _ _ _ _ _ e=>(8,I6.is s.1)::e) (λs _ _ _ b1 _ _ e=>(4,Bx 8 true 27 (ae.is s.2) b1)::e) (λ_=>M.ed.eq_1 ..) (λ_ _=>M.ed.eq_2 ..)
abbrev Rt:=λ(l:List af)(nn:Nat)(s0:(List Str))(s1:Int)=>mkLp (τ:=(List Str)×Int) (M.ji l nn s0 s1) (λmm s=>M.ji l mm s.1 s.2) nn (s0,s1) [0] [] (λs k1 _ _ _ _ _ e=>(3,tO tS k1 s.1)::(4,I6.is s.2)::e) (λs k1 _ _ _ _ _ e=>(5,Dec.Own tS 9 k1 s.1.length)::e) (λ_=>M.ji.eq_1 ..) (λ_ _=>M.ji.eq_2 ..)
abbrev T9:=λ(l:List Str)(act:Int)(item:Int)(from0_:Int)(nn:Nat)(s0:(List af))(s1:Int)=>mkLp (τ:=(List af)×Int) (M.jQ l act item from0_ nn s0 s1) (λmm s=>M.jQ l act item from0_ mm s.1 s.2) nn (s0,s1) [0,1,2,3] [] (λs k1 _ _ _ _ _ e=>(9,tO aj k1 s.1)::(10,I6.is s.2)::e) (λs k1 _ _ _ _ _ e=>(11,Dec.Own aj 106 k1 s.1.length)::e) (λ_=>M.jQ.eq_1 ..) (λ_ _=>M.jQ.eq_2 ..)
abbrev Ru:=λ(l:List aa)(kind:Int)(label:Str)(nn:Nat)(s0:Int)=>mkLp (M.gY l kind label nn s0) (λmm s=>M.gY l kind label mm s) nn s0 [0,1,2] [] (λs _ _ _ _ _ _ e=>(7,I6.is s)::e) z7 (λ_=>M.gY.eq_1 ..) (λ_ _=>M.gY.eq_2 ..)
abbrev Ua:=λ(u:aa)(slf:aa->Option Int)(nn:Nat)(s0:Int)(s1:Int)=>mkLp (τ:=Int×Int) (M.iO u slf nn s0 s1) (λmm s=>M.iO u slf mm s.1 s.2) nn (s0,s1) [1] [] (λs _ _ _ _ _ _ e=>(3,I6.is s.1)::(4,I6.is s.2)::e) z7 (λ_=>M.iO.eq_1 ..) (λ_ _=>M.iO.eq_2 ..)
attribute [instance] Ro Rp UV Qs Qt Rt T9 Ru Ua
section
attribute [local irreducible] W WL WN DM Op1 OpR Opd Dep
instance Jz(x:Int)(r:Bool):z1 81 (M.cmp_isNaN_int x=some r) [I6.is x] (tB.is r):=.fx Tryz.call81 Tryz.func81 (M.cmp_isNaN_int.eq_1 ..)
instance OD(n:Nat)(a:aS)(r:List ak):z1 60 (M.u6 n a=some r) [jE.is a] ((tL aJ).is r):=.fx Tryz.call60 Tryz.func60 (M.u6.eq_1 ..)
instance Nv(kind:Int)(r:Bool):z1 92 (M.nI kind=some r) [I6.is kind] (tB.is r):=.fx Tryz.call92 Tryz.func92 (M.nI.eq_1 ..)
instance OE:∀ (n:Nat) (u:aa) (r:List aa),z1 123 (M.mV n u=some r) [ae.is u] ((tL ae).is r):=by
 intro n;induction n with
 | zero=>exactλ_ _=>⟨Tryz.call123,λhm=>by cases hm⟩
 | succ n ih=>
  intro u r;refine SpC.of Tryz.call123 Tryz.func123 X X λg0 hm=>?_;rw [M.mV.eq_2] at hm;exact Fx hm
instance TZ(u:aa)(s0_:av)(r:Bool):z1 156 (M.zV u s0_=some r) [ae.is u,bE.is s0_] (tB.is r):=.fx Tryz.call156 Tryz.func156 (M.zV.eq_1 ..)
instance Rq:∀ (n:Nat) (u:aa) (id:ai) (r:aa×Int),z1 96 (M.jh n u id=some r) [ae.is u,aH.is id] (Asn.tuple2 (ae.is r.1) (I6.is r.2)):=by
 intro n;induction n with
 | zero=>exactλ_ _ _=>⟨Tryz.call96,λhm=>by cases hm⟩
 | succ n ih=>
  intro u id r;refine SpC.of Tryz.call96 Tryz.func96 X X λg0 hm=>?_;rw [M.jh.eq_2] at hm;exact Fx hm
instance Nw:∀ (n:Nat) (u:aa) (id:ai) (r:aa×Int×Int),z1 97 (M.gy n u id=some r) [ae.is u,aH.is id] (Asn.tuple3 (ae.is r.1) (I6.is r.2.1) (I6.is r.2.2)):=by
 intro n;induction n with
 | zero=>exactλ_ _ _=>⟨Tryz.call97,λhm=>by cases hm⟩
 | succ n ih=>
  intro u id r;refine SpC.of Tryz.call97 Tryz.func97 X X λg0 hm=>?_;rw [M.gy.eq_2] at hm;exact Fx hm
instance OG(n:Nat)(l:List af)(r:List Str):z1 157 (M.sP n l=some r) [(tL aj).is l] ((tL tS).is r):=.fx Tryz.call157 Tryz.func157 (M.sP.eq_1 ..)
instance Qu(n:Nat)(l:List Str)(act:Int)(item:Int)(from0_:Int)(r:List af):z6 101 (M.pU n l act item from0_=some r) (λ_ _ _ _=>[(tL tS).is l,I6.is act,I6.is item,I6.is from0_]) (λ_ _ _ _=>[]) _ (λ_ _ _ _=>(λk:Tok=>tO aj k r)) (λ_ _ _ _=>(λk=>[(77777,Dec.Own aj 106 k r.length)])):=.fx Tryz.call101 Tryz.func101 (M.pU.eq_1 ..)
instance OH(n:Nat)(l:List aa)(kind:Int)(label:Str)(r:Bool):z1 102 (M.qY n l kind label=some r) [(tL ae).is l,I6.is kind,tS.is label] (tB.is r):=.fx Tryz.call102 Tryz.func102 (M.qY.eq_1 ..)
instance Qv:∀ (n:Nat) (u:aa) (r:Int),z1 122 (M.o5 n u=some r) [ae.is u] (I6.is r):=by
 intro n;induction n with
 | zero=>exactλ_ _=>⟨Tryz.call122,λhm=>by cases hm⟩
 | succ n ih=>
  intro u r;refine SpC.of Tryz.call122 Tryz.func122 X X λg0 hm=>?_;rw [M.o5.eq_2] at hm;exact Fx hm
instance Ub(l:List aa)(at0_:Int)(x:aa)(r:List aa):z6 124 (M.vH l at0_ x=some r) (λ_ _ _ _=>[(tL ae).is l,I6.is at0_,ae.is x]) (λ_ _ _ _=>[]) _ (λ_ _ _ _=>(λk:Tok=>tO ae k r)) (λ_ _ _ _=>(λk=>[(77777,Dec.Own ae 27 k r.length)])):=.fx Tryz.call124 Tryz.func124 (M.vH.eq_1 ..)
abbrev Uc:=λ(u:aa)(deep:Int)(most:Int)(slf:aa->Int->Int->Option Int)(nn:Nat)(s0:Int)(s1:Int)=>mkLp (τ:=Int×Int) (M.iH u deep most slf nn s0 s1) (λmm s=>M.iH u deep most slf mm s.1 s.2) nn (s0,s1) [1,2,3] [] (λs _ _ _ _ _ _ e=>(7,I6.is s.1)::(8,I6.is s.2)::e) z7 (λ_=>M.iH.eq_1 ..) (λ_ _=>M.iH.eq_2 ..)
abbrev Rv:=λ(l:List af)(nn:Nat)(s0:Int)=>mkLp (M.gL l nn s0) (λmm s=>M.gL l mm s) nn s0 [0] [] (λs _ _ _ _ _ _ e=>(3,I6.is s)::e) z7 (λ_=>M.gL.eq_1 ..) (λ_ _=>M.gL.eq_2 ..)
abbrev Rw:=λ(l:List af)(nn:Nat)(s0:(List Str))(s1:Int)=>mkLp (τ:=(List Str)×Int) (M.iR l nn s0 s1) (λmm s=>M.iR l mm s.1 s.2) nn (s0,s1) [0] [] (λs k1 _ _ _ _ _ e=>(3,tO tS k1 s.1)::(4,I6.is s.2)::e) (λs k1 _ _ _ _ _ e=>(5,Dec.Own tS 9 k1 s.1.length)::e) (λ_=>M.iR.eq_1 ..) (λ_ _=>M.iR.eq_2 ..)
abbrev Ud:=λ(s0_:Str)(nn:Nat)(s0:Int)=>mkLp (M.jG s0_ nn s0) (λmm s=>M.jG s0_ mm s) nn s0 [0] [] (λs _ _ _ _ _ _ e=>(3,I6.is s)::e) z7 (λ_=>M.jG.eq_1 ..) (λ_ _=>M.jG.eq_2 ..)
abbrev Qy:=λ(s0_:Str)(nn:Nat)(s0:Int)=>mkLp (M.ib s0_ nn s0) (λmm s=>M.ib s0_ mm s) nn s0 [0] [] (λs _ _ _ _ _ _ e=>(3,I6.is s)::e) z7 (λ_=>M.ib.eq_1 ..) (λ_ _=>M.ib.eq_2 ..)
abbrev Rx:=λ(u:aa)(slf:aa->Option Int)(nn:Nat)(s0:Int)(s1:Int)=>mkLp (τ:=Int×Int) (M.iU u slf nn s0 s1) (λmm s=>M.iU u slf mm s.1 s.2) nn (s0,s1) [1] [] (λs _ _ _ _ _ _ e=>(3,I6.is s.1)::(4,I6.is s.2)::e) z7 (λ_=>M.iU.eq_1 ..) (λ_ _=>M.iU.eq_2 ..)
abbrev Ry:=λ(u:aa)(slf:aa->Option Int)(nn:Nat)(s0:Int)(s1:Int)=>mkLp (τ:=Int×Int) (M.iV u slf nn s0 s1) (λmm s=>M.iV u slf mm s.1 s.2) nn (s0,s1) [1] [] (λs _ _ _ _ _ _ e=>(3,I6.is s.1)::(4,I6.is s.2)::e) z7 (λ_=>M.iV.eq_1 ..) (λ_ _=>M.iV.eq_2 ..)
abbrev UW:=λ(u:aa)(slf:aa->Option (List ai))(nn:Nat)(s0:(List ai))(s1:Int)=>mkLp (τ:=(List ai)×Int) (M.kz u slf nn s0 s1) (λmm s=>M.kz u slf mm s.1 s.2) nn (s0,s1) [1] [] (λs k1 _ _ _ _ _ e=>(3,tO aH k1 s.1)::(4,I6.is s.2)::e) (λs k1 _ _ _ _ _ e=>(7,Dec.Own aH 23 k1 s.1.length)::e) (λ_=>M.kz.eq_1 ..) (λ_ _=>M.kz.eq_2 ..)
attribute [instance] Uc Rv Rw Ud Qy Rx Ry UW
instance Qw:∀ (n:Nat) (u:aa) (deep:Int) (most:Int) (r:Int),z1 42 (M.qI n u deep most=some r) [ae.is u,I6.is deep,I6.is most] (I6.is r):=by
 intro n;induction n with
 | zero=>exactλ_ _ _ _=>⟨Tryz.call42,λhm=>by cases hm⟩
 | succ n ih=>
  intro u deep most r;refine SpC.of Tryz.call42 Tryz.func42 X X λg0 hm=>?_;rw [M.qI.eq_2] at hm;exact Fx hm
instance OI(n:Nat)(l:List af)(r:Bool):z1 70 (M.qm n l=some r) [(tL aj).is l] (tB.is r):=.fx Tryz.call70 Tryz.func70 (M.qm.eq_1 ..)
instance OJ(n:Nat)(l:List af)(r:List Str):z1 114 (M.uS n l=some r) [(tL aj).is l] ((tL tS).is r):=.fx Tryz.call114 Tryz.func114 (M.uS.eq_1 ..)
instance Qx(n:Nat)(s0_:Str)(r:Bool):z1 79 (M.wB n s0_=some r) [tS.is s0_] (tB.is r):=.fx Tryz.call79 Tryz.func79 (M.wB.eq_1 ..)
instance Ny(n:Nat)(s0_:Str)(r:Int):z1 56 (M.tu n s0_=some r) [tS.is s0_] (I6.is r):=.fx Tryz.call56 Tryz.func56 (M.tu.eq_1 ..)
instance OL(parent:Int)(kind:Int)(r:Bool):z1 72 (M.uU parent kind=some r) [I6.is parent,I6.is kind] (tB.is r):=.fx Tryz.call72 Tryz.func72 (M.uU.eq_1 ..)
instance OM:∀ (n:Nat) (u:aa) (r:Int),z1 45 (M.qo n u=some r) [ae.is u] (I6.is r):=by
 intro n;induction n with
 | zero=>exactλ_ _=>⟨Tryz.call45,λhm=>by cases hm⟩
 | succ n ih=>
  intro u r;refine SpC.of Tryz.call45 Tryz.func45 X X λg0 hm=>?_;rw [M.qo.eq_2] at hm;exact Fx hm
instance OO:∀ (n:Nat) (u:aa) (r:Int),z1 46 (M.qp n u=some r) [ae.is u] (I6.is r):=by
 intro n;induction n with
 | zero=>exactλ_ _=>⟨Tryz.call46,λhm=>by cases hm⟩
 | succ n ih=>
  intro u r;refine SpC.of Tryz.call46 Tryz.func46 X X λg0 hm=>?_;rw [M.qp.eq_2] at hm;exact Fx hm
instance Rz:∀ (n:Nat) (u:aa) (r:List ai),z1 73 (M.ut n u=some r) [ae.is u] ((tL aH).is r):=by
 intro n;induction n with
 | zero=>exactλ_ _=>⟨Tryz.call73,λhm=>by cases hm⟩
 | succ n ih=>
  intro u r;refine SpC.of Tryz.call73 Tryz.func73 X X λg0 hm=>?_;rw [M.ut.eq_2] at hm;exact Fx hm
instance Ue(n0_:Int)(low:Int)(high:Int)(r:Bool):z1 16 (M.oJ n0_ low high=some r) [I6.is n0_,I6.is low,I6.is high] (tB.is r):=.fx Tryz.call16 Tryz.func16 (M.oJ.eq_1 ..)
abbrev Uf:=λ(u:aa)(x:aa)(slf:aa->aa->Option aa)(nn:Nat)(s0:(List aa))(s1:Int)=>mkLp (τ:=(List aa)×Int) (M.jR u x slf nn s0 s1) (λmm s=>M.jR u x slf mm s.1 s.2) nn (s0,s1) [2,3,4] [2,4] (λs k1 _ _ _ _ _ e=>(5,tO ae k1 s.1)::(6,I6.is s.2)::e) (λs k1 _ _ _ _ _ e=>(13,Dec.Own ae 27 k1 s.1.length)::e) (λ_=>M.jR.eq_1 ..) (λ_ _=>M.jR.eq_2 ..)
abbrev Vy:=λ(l:List aa)(id:ai)(nn:Nat)(s0:Int)=>mkLp (M.kX l id nn s0) (λmm s=>M.kX l id mm s) nn s0 [0,3] [] (λs _ _ _ _ _ _ e=>(5,I6.is s)::e) z7 (λ_=>M.kX.eq_1 ..) (λ_ _=>M.kX.eq_2 ..)
abbrev QA:=λ(w:List af)(k:Int)(row:List Str)(nn:Nat)(s0:Int)=>mkLp (M.iw w k row nn s0) (λmm s=>M.iw w k row mm s) nn s0 [0,1,2] [] (λs _ _ _ _ _ _ e=>(7,I6.is s)::e) z7 (λ_=>M.iw.eq_1 ..) (λ_ _=>M.iw.eq_2 ..)
abbrev RB:=λ(a:List af)(b:List af)(nn:Nat)(s0:Int)=>mkLp (M.jl a b nn s0) (λmm s=>M.jl a b mm s) nn s0 [0,1] [] (λs _ _ _ _ _ _ e=>(5,I6.is s)::e) z7 (λ_=>M.jl.eq_1 ..) (λ_ _=>M.jl.eq_2 ..)
abbrev RD:=λ(u:aa)(slf:aa->Option Bool)(nn:Nat)(s0:Int)=>mkLp (M.eY u slf nn s0) (λmm s=>M.eY u slf mm s) nn s0 [1] [] (λs _ _ _ _ _ _ e=>(3,I6.is s)::e) z7 (λ_=>M.eY.eq_1 ..) (λ_ _=>M.eY.eq_2 ..)
abbrev UX:=λ(l:List Str)(nn:Nat)(s0:Int)=>mkLp (M.kw l nn s0) (λmm s=>M.kw l mm s) nn s0 [0] [] (λs _ _ _ _ _ _ e=>(3,I6.is s)::e) z7 (λ_=>M.kw.eq_1 ..) (λ_ _=>M.kw.eq_2 ..)
abbrev UY:=λ(s0_:Str)(nn:Nat)(s0:Int)=>mkLp (M.ky s0_ nn s0) (λmm s=>M.ky s0_ mm s) nn s0 [0] [] (λs _ _ _ _ _ _ e=>(4,I6.is s)::e) z7 (λ_=>M.ky.eq_1 ..) (λ_ _=>M.ky.eq_2 ..)
abbrev UZ:=λ(all:List ai)(nn:Nat)(s0:Bool)(s1:Int)=>mkLp (τ:=Bool×Int) (M.fw all nn s0 s1) (λmm s=>M.fw all mm s.1 s.2) nn (s0,s1) [1,3] [] (λs _ _ _ _ _ _ e=>(4,tB.is s.1)::(5,I6.is s.2)::e) z7 (λ_=>M.fw.eq_1 ..) (λ_ _=>M.fw.eq_2 ..)
abbrev U0:=λ(all:List ai)(nn:Nat)(s0:Int)=>mkLp (M.eG all nn s0) (λmm s=>M.eG all mm s) nn s0 [3] [] (λs _ _ _ _ _ _ e=>(6,I6.is s)::e) z7 (λ_=>M.eG.eq_1 ..) (λ_ _=>M.eG.eq_2 ..)
abbrev U1:=λ(all:List ai)(i1:Int)(nn:Nat)(s0:Int)=>mkLp (M.dV all i1 nn s0) (λmm s=>M.dV all i1 mm s) nn s0 [3,6] [] (λs _ _ _ _ _ _ e=>(7,I6.is s)::e) z7 (λ_=>M.dV.eq_1 ..) (λ_ _=>M.dV.eq_2 ..)
abbrev Uh:=λ(a:aa)(b:aa)(slf:aa->aa->Option Bool)(nn:Nat)(s0:Int)=>mkLp (M.iM a b slf nn s0) (λmm s=>M.iM a b slf mm s) nn s0 [2,3] [] (λs _ _ _ _ _ _ e=>(5,I6.is s)::e) z7 (λ_=>M.iM.eq_1 ..) (λ_ _=>M.iM.eq_2 ..)
attribute [instance] Uf Vy QA RB RD UX UY UZ U0 U1 Uh
instance Qz:∀ (n:Nat) (u:aa) (x:aa) (r:aa),z1 99 (M.kV n u x=some r) [ae.is u,ae.is x] (ae.is r):=by
 intro n;induction n with
 | zero=>exactλ_ _ _=>⟨Tryz.call99,λhm=>by cases hm⟩
 | succ n ih=>
  intro u x r;refine SpC.of Tryz.call99 Tryz.func99 X X λg0 hm=>?_;rw [M.kV.eq_2] at hm;exact Fx hm [1000002]
instance RA(l:List aa)(at0_:Int)(r:List aa):z1 98 (M.qM l at0_=some r) [(tL ae).is l,I6.is at0_] ((tL ae).is r):=.fx Tryz.call98 Tryz.func98 (M.qM.eq_1 ..)
instance Ug(n:Nat)(l:List aa)(id:ai)(r:Int):z1 125 (M.yE n l id=some r) [(tL ae).is l,aH.is id] (I6.is r):=.fx Tryz.call125 Tryz.func125 (M.yE.eq_1 ..)
instance Nz(n:Nat)(w:List af)(k:Int)(row:List Str)(r:Bool):z1 139 (M.tH n w k row=some r) [(tL aj).is w,I6.is k,(tL tS).is row] (tB.is r):=.fx Tryz.call139 Tryz.func139 (M.tH.eq_1 ..)
instance OP(n:Nat)(a:List af)(b:List af)(r:Bool):z1 38 (M.sQ n a b=some r) [(tL aj).is a,(tL aj).is b] (tB.is r):=.fx Tryz.call38 Tryz.func38 (M.sQ.eq_1 ..)
instance OQ:∀ (n:Nat) (u:aa) (r:Bool),z1 43 (M.mF n u=some r) [ae.is u] (tB.is r):=by
 intro n;induction n with
 | zero=>exactλ_ _=>⟨Tryz.call43,λhm=>by cases hm⟩
 | succ n ih=>
  intro u r;refine SpC.of Tryz.call43 Tryz.func43 X X λg0 hm=>?_;rw [M.mF.eq_2] at hm;exact Fx hm
instance RF(n:Nat)(l:List Str)(r:Bool):z1 55 (M.xD n l=some r) [(tL tS).is l] (tB.is r):=.fx Tryz.call55 Tryz.func55 (M.xD.eq_1 ..)
instance RG(n:Nat)(s0_:Str)(r:Bool):z1 25 (M.uq n s0_=some r) [tS.is s0_] (tB.is r):=.fx Tryz.call25 Tryz.func25 (M.uq.eq_1 ..)
instance RH(n:Nat)(u:aa)(r:Bool):z1 47 (M.r9 n u=some r) [ae.is u] (tB.is r):=.fx Tryz.call47 Tryz.func47 (M.r9.eq_1 ..)
instance QB:∀ (n:Nat) (a:aa) (b:aa) (r:Bool),z1 50 (M.oK n a b=some r) [ae.is a,ae.is b] (tB.is r):=by
 intro n;induction n with
 | zero=>exactλ_ _ _=>⟨Tryz.call50,λhm=>by cases hm⟩
 | succ n ih=>
  intro a b r;refine SpC.of Tryz.call50 Tryz.func50 X X λg0 hm=>?_;rw [M.oK.eq_2] at hm;exact Fx hm
instance OT(n:Nat)(s0_:fP)(r:Bool):z1 21 (M.qw n s0_=some r) [ko.is s0_] (tB.is r):=.fx Tryz.call21 Tryz.func21 (M.qw.eq_1 ..)
abbrev RI:=λ(u:aa)(act:Int)(item:Int)(n0_:Int)(mark:List af)(mark1:List af)(slf:aa->Int->Int->Int->Int->Option (aa×Int×Int))(nn:Nat)(s0:Int)(s1:Int)(s2:(List aa))(s3:Int)=>mkLp (τ:=Int×Int×(List aa)×Int) (M.jk u act item n0_ mark mark1 slf nn s0 s1 s2 s3) (λmm s=>M.jk u act item n0_ mark mark1 slf mm s.1 s.2.1 s.2.2.1 s.2.2.2) nn (s0,s1,s2,s3) [1,2,5,10] [5,10] (λs k1 _ _ _ _ _ e=>(3,I6.is s.1)::(4,I6.is s.2.1)::(13,tO ae k1 s.2.2.1)::(14,I6.is s.2.2.2)::e) (λs k1 _ _ _ _ _ e=>(49,Dec.Own ae 27 k1 s.2.2.1.length)::e) (λ_=>M.jk.eq_1 ..) (λ_ _=>M.jk.eq_2 ..)
abbrev QC:=λ(w:List af)(row:List Str)(nn:Nat)(s0:(List Int))(s1:Int)=>mkLp (τ:=(List Int)×Int) (M.eD w row nn s0 s1) (λmm s=>M.eD w row mm s.1 s.2) nn (s0,s1) [0,1] [] (λs k1 _ _ _ _ _ e=>(5,tO I6 k1 s.1)::(6,I6.is s.2)::e) (λs k1 _ _ _ _ _ e=>(7,Dec.Own I6 3 k1 s.1.length)::e) (λ_=>M.eD.eq_1 ..) (λ_ _=>M.eD.eq_2 ..)
abbrev Ui:=λ(a:aa)(b:aa)(slf:aa->aa->Option Bool)(nn:Nat)(s0:Int)=>mkLp (M.jS a b slf nn s0) (λmm s=>M.jS a b slf mm s) nn s0 [2,3] [] (λs _ _ _ _ _ _ e=>(5,I6.is s)::e) z7 (λ_=>M.jS.eq_1 ..) (λ_ _=>M.jS.eq_2 ..)
abbrev Uj:=λ(a:ag)(b:ag)(slf:ag->ag->Option Bool)(nn:Nat)(s0:Int)=>mkLp (M.gH a b slf nn s0) (λmm s=>M.gH a b slf mm s) nn s0 [2,3] [] (λs _ _ _ _ _ _ e=>(5,I6.is s)::e) z7 (λ_=>M.gH.eq_1 ..) (λ_ _=>M.gH.eq_2 ..)
abbrev U2:=λ(p:List av)(nn:Nat)(s0:Int)=>mkLp (M.fA p nn s0) (λmm s=>M.fA p mm s) nn s0 [0] [] (λs _ _ _ _ _ _ e=>(3,I6.is s)::e) z7 (λ_=>M.fA.eq_1 ..) (λ_ _=>M.fA.eq_2 ..)
attribute [instance] RI QC Ui Uj U2
instance GV(x:Int)(y:Int)(r:Int):z1 58 (M.cmp_Compare_int x y=some r) [I6.is x,I6.is y] (I6.is r):=.fx Tryz.call58 Tryz.func58 (M.cmp_Compare_int.eq_1 ..)
instance OU:∀ (n:Nat) (u:aa) (act:Int) (item:Int) (n0_:Int) (m0_:Int) (r:aa×Int×Int),z1 138 (M.qB n u act item n0_ m0_=some r) [ae.is u,I6.is act,I6.is item,I6.is n0_,I6.is m0_] (Asn.tuple3 (ae.is r.1) (I6.is r.2.1) (I6.is r.2.2)):=by
 intro n;induction n with
 | zero=>exactλ_ _ _ _ _ _=>⟨Tryz.call138,λhm=>by cases hm⟩
 | succ n ih=>
  intro u act item n0_ m0_ r;refine SpC.of Tryz.call138 Tryz.func138 X X λg0 hm=>?_;rw [M.qB.eq_2] at hm;exact Fx hm [1000005]
instance NA(n:Nat)(w:List af)(row:List Str)(r:List Int):z1 126 (M.qi n w row=some r) [(tL aj).is w,(tL tS).is row] ((tL I6).is r):=.fx Tryz.call126 Tryz.func126 (M.qi.eq_1 ..)
instance QD:∀ (n:Nat) (a:aa) (b:aa) (r:Bool),z1 11 (M.rP n a b=some r) [ae.is a,ae.is b] (tB.is r):=by
 intro n;induction n with
 | zero=>exactλ_ _ _=>⟨Tryz.call11,λhm=>by cases hm⟩
 | succ n ih=>
  intro a b r;refine SpC.of Tryz.call11 Tryz.func11 X X λg0 hm=>?_;rw [M.rP.eq_2] at hm;exact Fx hm
instance RJ(n:Nat)(u:aa)(most:Int)(r:Bool):z1 13 (M.rZ n u most=some r) [ae.is u,I6.is most] (tB.is r):=.fx Tryz.call13 Tryz.func13 (M.rZ.eq_1 ..)
instance RL(n:Nat)(l:List af)(r:Bool):z1 87 (M.xE n l=some r) [(tL aj).is l] (tB.is r):=.fx Tryz.call87 Tryz.func87 (M.xE.eq_1 ..)
instance QE:∀ (n:Nat) (a:ag) (b:ag) (r:Bool),z1 17 (M.nO n a b=some r) [aB.is a,aB.is b] (tB.is r):=by
 intro n;induction n with
 | zero=>exactλ_ _ _=>⟨Tryz.call17,λhm=>by cases hm⟩
 | succ n ih=>
  intro a b r;refine SpC.of Tryz.call17 Tryz.func17 X X λg0 hm=>?_;rw [M.nO.eq_2] at hm;exact Fx hm
instance RN(n:Nat)(p:List av)(r:Bool):z1 19 (M.uw n p=some r) [(tL bE).is p] (tB.is r):=.fx Tryz.call19 Tryz.func19 (M.uw.eq_1 ..)
abbrev Di:=λ(s2_:List Int)(nn:List Int)(ii:Int)=>mkRi (M.df s2_ nn ii) (λmm jj s=>M.df s2_ mm jj) nn ii () 11 [0,1,9,10] [] z7 z7 (λ_ _=>M.df.eq_1 ..) (λ_ _ _ _=>M.df.eq_2 ..)
abbrev JA:=λ(n:Nat)(all:List (List Int))(books:List aa)(is:List Bool)(nn:List (List Int))(ii:Int)=>mkRi (M.di n all books is nn ii) (λmm jj s=>M.di n all books is mm jj) nn ii () 11 [0,1,5,9,10] [] z7 z7 (λ_ _=>M.di.eq_1 ..) (λ_ _ _ _=>M.di.eq_2 ..)
abbrev Uk:=λ(w:List af)(it:ag)(act:Int)(item:Int)(places:List Int)(nn:Nat)(s0:(List af))(s1:Int)(s2:Int)(s3:Int)=>mkLp (τ:=(List af)×Int×Int×Int) (M.fK w it act item places nn s0 s1 s2 s3) (λmm s=>M.fK w it act item places mm s.1 s.2.1 s.2.2.1 s.2.2.2) nn (s0,s1,s2,s3) [0,2,3,5,11] [] (λs k1 _ _ _ _ _ e=>(12,tO aj k1 s.1)::(13,I6.is s.2.1)::(14,I6.is s.2.2.1)::(15,I6.is s.2.2.2)::e) (λs k1 _ _ _ _ _ e=>(50,Dec.Own aj 106 k1 s.1.length)::e) (λ_=>M.fK.eq_1 ..) (λ_ _=>M.fK.eq_2 ..)
attribute [instance] Di JA Uk
instance Bu(s1_:List Int)(s2_:List Int)(r:Int):z1 27 (M.iq s1_ s2_=some r) [(tL I6).is s1_,(tL I6).is s2_] (I6.is r):=.fx Tryz.call27 Tryz.func27 (M.iq.eq_1 ..)
instance GX(n:Nat)(all:List (List Int))(books:List aa)(is:List Bool)(r:Bool):z1 28 (M.lW n all books is=some r) [(tL (tL I6)).is all,(tL ae).is books,(tA 5 tB).is is] (tB.is r):=.fx Tryz.call28 Tryz.func28 (M.lW.eq_1 ..)
instance OV(n:Nat)(u:aa)(act:Int)(item:Int)(r:aa):z1 121 (M.ve n u act item=some r) [ae.is u,I6.is act,I6.is item] (ae.is r):=.fx Tryz.call121 Tryz.func121 (M.ve.eq_1 ..) [7]
instance QF(n:Nat)(w:List af)(it:ag)(act:Int)(item:Int)(r:(List af)×Int):z1 100 (M.o6 n w it act item=some r) [(tL aj).is w,aB.is it,I6.is act,I6.is item] (Asn.tuple2 ((tL aj).is r.1) (I6.is r.2)):=.fx Tryz.call100 Tryz.func100 (M.o6.eq_1 ..)
instance AV(n:Nat)(x:aa)(c:aa)(r:Bool):z1 40 (M.iP n x c=some r) [ae.is x,ae.ptr c] (tB.is r):=.fx Tryz.call40 Tryz.func40 (M.iP.eq_1 ..)
instance OW(n:Nat)(u:aa)(r:Bool):z1 71 (M.uT n u=some r) [ae.is u] (tB.is r):=.fx Tryz.call71 Tryz.func71 (M.uT.eq_1 ..)
abbrev JC:=λ(c:List av)(slf:aa->(List av)->(List aa)->Option (List aa))(nn:List aa)(s0:List aa)=>mkRg (τ:=List aa) (M.dE c slf nn s0) (λmm jj s=>M.dE c slf mm s) nn s0 12 [1,10,11] [] z7 (λs k1 _ _ b1 _ _ e=>(1500101,Dec.Own ae 27 k1 s.length)::(500101,Bx 1 false 25 (tO ae k1 s) b1)::e) (λ_ _=>M.dE.eq_1 ..) (λ_ _ _ _=>M.dE.eq_2 ..)
attribute [instance] JC
instance OX(n:Nat)(u:aa)(r:Bool):z1 88 (M.mG n u=some r) [ae.is u] (tB.is r):=.fx Tryz.call88 Tryz.func88 (M.mG.eq_1 ..)
instance RO(n:Nat)(l:List Str)(least:Int)(r:Bool):z1 24 (M.si n l least=some r) [(tL tS).is l,I6.is least] (tB.is r):=.fx Tryz.call24 Tryz.func24 (M.si.eq_1 ..)
end
theorem wW(n:Nat)(n0_:Int)(keep:List Int)(by0_:List Int)(r:List (List Int))(hm:M.kS n n0_ keep by0_=some r):FSpec Tryz.prog 10 [I6.is n0_,(tL I6).is keep,(tL I6).is by0_] ((tL (tL I6)).is r):=by
 unfold M.kS at hm;intro g0 vs hvs;refine (callsIn_wide (n:=3)).1 (callsIn_of_wp_marks Tryz.func10 X trivial ?_ X);refine WR.begin (As:=[(I6.is n0_),((tL I6).is keep),((tL I6).is by0_)]) (N:=40) X X hvs<|WR.ofW<|W.seq<|W.region<|Ao X (.box (.t X))<|Ao X (.box (.t X))<|Ao X (.assign (.nil (t:=(tL I6))))<|WL.nil<|Aq<|W.seq<|W.seq<|W.region<|Ao X (.load ty41.h (.t X))<|Ao X (.call C32 (tT _) ⟨(.t X),trivial⟩) ?_;obtain ⟨sorted,hv1,hm⟩:=Bs hm;refine Ao X (.call C31 (vK _ _ hv1) ⟨(.t X),trivial⟩)<|Ao X (.assign (.t X))<|WL.nil<|WN.seq ?_;obtain ⟨s2,hs3,hk4⟩:=Bs hm;clear hm;refine W.join (λs:Bool=>s=s2) (λs=>[(25,(tB.is s)),(0,(I6.is n0_)),(4,((tL I6).ptr keep)),(5,((tL I6).ptr by0_))]) (λs=>[]) ?_ ?_
 .rintro v hj21;try dsimp only at hj21
  subst hj21;have hm:=hk4;clear hk4;try dsimp only at hm
  change W _ _ _ _ _ _ _ [(25,(tB.is v)),(0,(I6.is n0_)),(4,((tL I6).ptr keep)),(5,((tL I6).ptr by0_))] [];refine W.cond (.t X) (λhc11=>?_) (λhc11=>?_)
  .have hp12:=hc11;rw [if_pos hp12] at hm;refine W.seq<|W.region<|Ao X (.assign (.nil (t:=(tL I6))))<|WL.nil<|WN.seq ?_;cases hm
  .have hp12:=Au hc11;rw [if_neg hp12] at hm;refine W.skip<|Aq<|W.seq<|W.region<|WL.addNil (t:=(tL I6)) (E:=41) 1000008<|WL.opR X (OpR.allocO (t:=(tL I6)) 8 Tryz.zeroValue47) λb=>WL.nil<|Aq<|W.seq<|W.seq<|W.region<|Ao X (.move (.t X))<|Ao X (.call C35 (wU _) ⟨(.t X),trivial⟩)<|WL.nil<|Aq<|W.block ?_;obtain ⟨rows,hv13,hm⟩:=Bs hm;obtain ⟨ov,hv14,hm⟩:=Bs hm;refine W.ofWR (n:=3)<|WR.weaken (env':=[(27,(cloA 64 [(I6.ptr n0_)])),(4,((tL I6).ptr keep)),(5,((tL I6).ptr by0_)),(8,(Bp b 0))]) (res':=[(8,(Bx 1 false 47 (tO (tL I6) (none:Tok) ([]:List (List Int))) b)),(1000008,Dec.Own (tL I6) 41 (none:Tok) ([]:List (List Int)).length)]) ⟨.q X,.q X,.q X,.q X,trivial⟩ ⟨X,X,X,X,trivial⟩<|WR.forR (kD:=99) (resA:=λq (t:Tok)=>[(8,(Bx 1 false 47 (tO (tL I6) t q) b)),(1000008,Dec.Own (tL I6) 41 t q.length)]) (envA:=λk (x:List Int)=>[(9,tU k x.length),(4,((tL I6).ptr keep)),(5,((tL I6).ptr by0_)),(8,(Bp b 0))]) (st:=M.kI n n0_ keep by0_) ([]:List (List Int)) none Lend.row (vM _ _ _ hv13) (by omega) C64 X hv14 X X X ?hA ?hB ?hdone
   case hA=>
    intro g1 T1 k x q t B hk;refine Ao X (.assign (.t X))<|WL.nil<|WN.weaken ?_ ?_ hk
    .exact ⟨.q X,.q X,.q X,.q X,trivial⟩
    .exact ⟨X,X,X,X,X,X,trivial⟩
   case hB=>
    intro l n1 g1 T1 k x q t o Q' hm hN;unfold M.kI at hm;refine WR.block<|WR.seq ?_;obtain ⟨kept,hv15,hm⟩:=Bs hm;obtain ⟨keeps,hv16,hm⟩:=Bs hm;refine WR.weakR (res':=[(1000008,Dec.Own (tL I6) 41 t q.length),(900,OwnU I6 3 k x),(8,(Bx 1 false 47 (tO (tL I6) t q) b))]) ⟨X,X,X,X,X,X,trivial⟩<|WR.draw Mx X (WA.drawM [.c (tU k x.length),.c ((tL I6).is by0_),.c ((tL I6).is keep),.c ((tA 5 tB).is kept),.c (tB.is keeps)] [([],[9]),([],[5]),([],[4]),([2],[]),([0,1,3],[])] [4] [[],[],[],[],[]] (λm cv=>match m with | 0=>[(1000008,Dec.Own (tL I6) 41 t q.length),(900,OwnU I6 3 k x),(8,(Bx 1 false 47 (tO (tL I6) t q) b))] | _=>[(900,OwnU I6 3 k x),(1000008,Dec.Own (tL I6) 41 t q.length),(8,(Bx 1 false 47 (tO (tL I6) t q) b))]) (λ_=>none) Mx X X X X X ⟨λ_ _ _ _=>X,λ_ _ _ _=>X,λ_ _ _ _=>X,λ_ _ _ _=>X,λ_ _ _ _=>X,trivial⟩ X ⟨mo λcv=>Op1.move (.t X),mo λcv=>Op1.load ty41.h (.t X),mo λcv=>Op1.load ty41.h (.t X),mo λcv=>Op1.call C29 ((yL _ _).h hv15) ⟨(.t X),trivial⟩,.inl X,trivial⟩ ⟨⟨_,_,_,[900],(λcv=>[(900,OwnU I6 3 k x)]),X,X,X,X,λ_=>X,λ_ _=>X,λcv=>OpR.unit (OpR.Vz (t:=I6) (n:=29) (key:=900) (l:=x) (xs:=[.tmp 29,.tmp 30,.tmp 32]) fl3 Flat.B C36 ((xY _ _ _ _ _).h hv16) X ⟨(Opd.own (.t X)),(.t X),(.t X),trivial⟩ X)⟩,trivial⟩ (λcv=>?_));refine WN.wr<|WR.cond (.t X) (λhc17=>?_) (λhc17=>?_)
    .have hp18:=hc17;rw [if_pos hp18] at hm;obtain ⟨cl,hv19,hm⟩:=Bs hm;obtain ⟨out,hv20,hm⟩:=Bs hm;refine WR.weakR (res':=[(1000008,Dec.Own (tL I6) 41 t q.length),(900,OwnU I6 3 k x),(8,(Bx 1 false 47 (tO (tL I6) t q) b))]) ⟨X,X,X,X,X,X,trivial⟩<|WR.draw Mx X (WA.drawM [.c (tO (tL I6) t q),.c (tU k x.length),.c ((tL I6).is cl),.c ((tL (tL I6)).is [cl]),.f (λcv1=>(tO (tL I6) (cv1 1) out)),.c Asn.any] [([],[8]),([],[9]),([1],[]),([2],[]),([0,3],[]),([4],[8])] [2,4,5] [[],[],[],[],[false,true],[]] (λm cv1=>match m with | 0=>[(1000008,Dec.Own (tL I6) 41 t q.length),(900,OwnU I6 3 k x),(8,(Bx 1 false 47 (tO (tL I6) t q) b))] | 1=>[(900,OwnU I6 3 k x),(1000008,Dec.Own (tL I6) 41 t q.length),(8,(Bx 1 false 47 (tO (tL I6) t q) b))] | 2=>[(1000008,Dec.Own (tL I6) 41 (cv1 1) out.length),(900,OwnU I6 3 k x),(8,(Bx 1 false 47 (tO (tL I6) t q) b))] | _=>[(8,(Bx 1 false 47 (tO (tL I6) (cv1 1) out) b)),(1000008,Dec.Own (tL I6) 41 (cv1 1) out.length),(900,OwnU I6 3 k x)]) (λ_=>none) Mx X X X X X ⟨λ_ _ _ _=>X,λ_ _ _ _=>X,λ_ _ _ _=>X,λ_ _ _ _=>X,λm hm c t=>by simp only [DA.at,pX (r:=[false,true]) (j:=1) X hm],λ_ _ _ _=>X,trivial⟩ X ⟨.inr ⟨λcv1=>[(8,(Bx 1 false 47 (tO (tL I6) t q) b))],(gB.at ⟨⟨⟨(λ_ _=>⟨X,X,trivial⟩),(λ_ _=>⟨X,X,trivial⟩)⟩,(nn)⟩,(nn)⟩),λcv1=>Op1.qG 8 Y47 Z47 X (.t X)⟩,mo λcv1=>Op1.move (.t X),.inl X,mo λcv1=>Op1.buildSlice (n:=1) (ys:=[(0,cl)]) (z:=([]:List Int)) (xs:=[cl]) U47 el41.h ze41.h ⟨X,(.t X),trivial⟩ (by simp) (by decide) X,.inl X,.inl X,trivial⟩ ⟨⟨_,_,_,[900],(λcv1=>[(900,OwnU I6 3 k x)]),X,X,X,X,λ_=>X,λ_ _=>X,λcv1=>OpR.unit (OpR.call (us:=[900]) (A:=λ_:Unit=>((tL I6).is cl)) (out:=λ_:Unit=>[(900,OwnU I6 3 k x)]) C37 (NV (kr:=900) fl3 (pF _ _ hv19)) X ⟨(.t X),trivial⟩)⟩,⟨_,_,_,[1000008],(λcv1=>[(1000008,Dec.Own (tL I6) 41 (cv1 1) out.length)]),X,X,X,X,λ_=>X,λ_ _=>X,λcv1=>OpR.appC (key:=1000008) hv20 U47 el41.h (.t X) (.t X) X⟩,⟨_,_,_,[8],(λcv1=>[(8,(Bx 1 false 47 (tO (tL I6) (cv1 1) out) b))]),X,X,X,X,λ_=>X,λ_ _=>X,λcv1=>OpR.viaU (OpR.storeB (b:=b) 8 Z47 (bg.o (tL I6) (cv1 1) out) X (.t X) (.t X))⟩,trivial⟩ (λcv1=>?_));cases hm;intro a9 g9 h9;show Q' .normal (sh [] _) _;rw [oG];exact hN (cv1 1) _ _ (h9.weaken trivial ⟨X,X,X,X,X,X,trivial⟩)
    .have hp18:=Au hc17;rw [if_neg hp18] at hm;refine WR.skip (λa9 g9 h9=>?_);cases hm;show Q' .normal (sh [] _) _;rw [oG];exact hN t _ _ (h9.weaken trivial ⟨X,X,X,X,X,X,trivial⟩)
   case hdone=>
    intro t' a' g' D hst;refine (wpIn_wide (n:=3)).1 ?_;change Code.wpIn (ring none) 3 Tryz.prog _ _ (sh (markD D) a') g'.w;refine WR.go ?_ hst;refine WR.seq<|WR.region X<|Ao X (.qG 8 Y47 Z47 X (.t X))<|Ao X (.assign (.t X))<|WL.nil<|WN.wr<|WR.ret (λa9 g9 h9=>?_);have hr:=Si hm;subst hr;exact leave1 (kD:=99) (h9.weaken (env':=[(6,(tO (tL I6) t' ov))]) (res':=[(99,Dq D)]) ⟨.q X,trivial⟩ ⟨X,X,trivial⟩) X (ResAt.tmp (Opd.own (.t X)))
 .have hm:=hs3;clear hs3;refine W.region<|Ao X (.move (.t X))<|Ao X (.ltI (.t X) .i64)<|Ao X (.move (.t X)) ?_;rcases iteD hm with ⟨hp6,hb5,hm⟩ | ⟨hp6,hb5,hm⟩
  .exact Ap X hb5<|Ap X hb5<|Ao X (.pickT (.t X) hb5 .bool)<|Ao X (.move (.t X))<|Ap X X<|Ap X X<|Ap X X<|Ap X X<|Ap X X<|Ao X (.pickT (.t X) X .bool)<|WL.nil<|WN.meet true (Si hm) ⟨.q X,.q X,.q X,.q X,trivial⟩ trivial
  .refine Ax X hb5 (.move (.t X))<|Ax X hb5 (.gtI (.t X) .i64)<|Ao X (.pickF (.t X) hb5 (.t X))<|Ao X (.move (.t X)) ?_;rcases iteD hm with ⟨hp8,hb7,hm⟩ | ⟨hp8,hb7,hm⟩
   .exact Ap X hb7<|Ap X hb7<|Ap X hb7<|Ap X hb7<|Ap X hb7<|Ao X (.pickT (.t X) hb7 .bool)<|WL.nil<|WN.meet true (Si hm) ⟨.q X,.q X,.q X,.q X,trivial⟩ trivial
   .refine Ax X hb7 (.move (.t X))<|Ax X hb7 (.move (.t X)) ?_;obtain ⟨given,hv9,hm⟩:=Bs hm;refine Ax X hb7 (.call C34 (((rY _ _ _).h hv9 0 0 none none).read λ_ _ _=>uL) ⟨(.t X),trivial⟩) ?_;obtain ⟨int,hv10,hm⟩:=Bs hm;exact Ax X hb7 (.call C33 ((uh _ _ _ _).h hv10) ⟨(.t X),(.t X),trivial⟩)<|Ax X hb7 (.notB (.t X))<|Ao X (.pickF (.t X) hb7 (.t X))<|WL.nil<|WN.meet (!int) (Si hm) ⟨.q X,.q X,.q X,.q X,trivial⟩ trivial
instance JB(n:Nat)(n0_:Int)(keep:List Int)(by0_:List Int)(r:List (List Int)):z1 10 (M.kS n n0_ keep by0_=some r) [I6.is n0_,(tL I6).is keep,(tL I6).is by0_] ((tL (tL I6)).is r):=⟨Tryz.call10,λhm=>wW n n0_ keep by0_ r hm⟩
section
attribute [local irreducible] W WL WN DM Op1 OpR Opd Dep
instance KN(n:Nat)(s0_:Str)(r:Str×Str):z1 236 (M.qJ n s0_=some r) [tS.is s0_] (Asn.tuple2 (tS.is r.1) (tS.is r.2)):=.fx Tryz.call236 Tryz.func236 (M.qJ.eq_1 ..)
instance Dj(n:Nat)(s0_:Str)(f:Int->Option Bool)(r:Bool):z1 238 (M.strings_ContainsFunc n s0_ f=some r) [tS.is s0_,(tF Tryz.prog (λs:Int×Bool=>f s.1=some s.2) (λs:Int×Bool=>[(tI .i32).is s.1]) (λs:Int×Bool=>(tB.is s.2)))] (tB.is r):=.fx Tryz.call238 Tryz.func238 (M.strings_ContainsFunc.eq_1 ..)
instance GY:∀ (n:Nat) (u:aa) (c:List av) (c1:List aa) (r:List aa),z6 246 (M.jc n u c c1=some r) (λb _ k _=>[ae.is u,cloA 247 [(tL bE).ptr c,Bp b 0]]) (λb _ k _=>[(500101,Bx 1 false 25 (tO ae k c1) b),(1500101,Dec.Own ae 27 k c1.length)]) _ (λb _ k _=>(λkx:Tok=>(Asn.eq (.tuple #[])))) (λb _ k _=>(λkx:Tok=>[(500101,Bx 1 false 25 (tO ae kx r) b),(1500101,Dec.Own ae 27 kx r.length)])):=by
  intro n;induction n with
  | zero=>exactλ_ _ _ _=>⟨Tryz.call246,λhm=>by cases hm⟩
  | succ n ih=>intro u c c1 r;refine SpR.of Tryz.call246 Tryz.func246 X (λ_ _ _ _=>X) λb _ k _ g0 hm=>?_;rw [M.jc.eq_2] at hm;exact Fx hm [5]
instance Cn(n:Nat)(u:aa)(id:ai)(r:aa×Bool):z1 136 (M.j6 n u id=some r) [ae.is u,aH.is id] (Asn.tuple2 (ae.is r.1) (tB.is r.2)):=.fx Tryz.call136 Tryz.func136 (M.j6.eq_1 ..)
instance Md(n:Nat)(u:aa)(id:ai)(r:ai×Int×Bool):z1 177 (M.kY n u id=some r) [ae.is u,aH.is id] (Asn.tuple3 (aH.is r.1) (I6.is r.2.1) (tB.is r.2.2)):=.fx Tryz.call177 Tryz.func177 (M.kY.eq_1 ..) [8]
end
theorem ui:∀ (n:Nat) (s0_:au) (u:aa) (b:Nat) (r:aa×au),M.dI n s0_ u=some r->aR Tryz.prog 215 [Bp b 0,ae.is u] [(0,Bx 4 true 218 (aL.is s0_) b)] (λkx:Unit=>(ae.is r.1)) (λkx:Unit=>[(0,Bx 4 true 218 (aL.is r.2) b)]):=by
 intro n;induction n with
 | zero=>intro s0_ u b r hm;cases hm
 | succ n ih=>
  intro s0_ u b r hm;rw [M.dI.eq_2] at hm;refine aR.of Tryz.func215 X X X λg0=>Aw<|WL.opR X (OpR.boxB 3 (bg.is ae u) (.t X)) λb1=>WL.opR X (OpR.alloc 4 ze27.h) λb2=>Ar<|Am X X<|Ao X (.nilCheckB (.t X))<|Ao X (.fieldAddrB (o:=0) Tryz.underlying218 X J3 (.t X) X)<|Ao X (.kR 0 X ty3.h tN.h X (.t X)) ?_;obtain ⟨v,hv1,hm⟩:=Bs hm;refine Ao X (.addC hv1 (.t X) .i64)<|Ao X (.nilCheckB (.t X))<|Ao X (.fieldAddrB (o:=0) Tryz.underlying218 X J3 (.t X) X)<|WL.opU (OpR.storeBF (b:=b) 0 X ty3.h yJ.h X (by decide) (.t X) (.t X)) λ_=>An<|W.seq<|W.weakR (res':=[(0,(Bx 4 true 218 (aL.is ({s0_ with unit_:=v}:au)) b)),(3,(Bx 8 true 27 (ae.is u) b1)),(4,(Bx 8 true 27 (ae.is az) b2))]) ⟨X,X,X,X,X,X,trivial⟩<|W.drawM [.c (Bp b 0),.c (Bp b 0),.c (Bp b 0),.c (I6.is (({s0_ with unit_:=v}:au).act_)),.c (Bp b 0),.c (Bp b 0),.c (Bp b 1),.c (I6.is (({s0_ with unit_:=v}:au).item_)),.c (Bp b 0),.c (Bp b 0),.c (Bp b 2),.c (I6.is (({s0_ with unit_:=v}:au).unit_)),.c (aH.is (⟨({s0_ with unit_:=v}:au).act_,({s0_ with unit_:=v}:au).item_,({s0_ with unit_:=v}:au).unit_⟩:ai)),.c (Bp b1 0),.c Asn.any] [([],[0]),([0],[]),([1],[]),([2],[]),([],[0]),([4],[]),([5],[]),([6],[]),([],[0]),([8],[]),([9],[]),([10],[]),([3,7,11],[]),([],[3]),([12,13],[])] [14] [[],[],[],[],[],[],[],[],[],[],[],[],[],[],[]] (λm cv=>match m with | 0=>[(0,(Bx 4 true 218 (aL.is ({s0_ with unit_:=v}:au)) b)),(3,(Bx 8 true 27 (ae.is u) b1)),(4,(Bx 8 true 27 (ae.is az) b2))] | _=>[(3,(Bx 8 true 27 (ae.is ({u with Id:=(⟨({s0_ with unit_:=v}:au).act_,({s0_ with unit_:=v}:au).item_,({s0_ with unit_:=v}:au).unit_⟩:ai)}:aa)) b1)),(0,(Bx 4 true 218 (aL.is ({s0_ with unit_:=v}:au)) b)),(4,(Bx 8 true 27 (ae.is az) b2))]) (λ_=>none) Mx X X X X X ⟨λ_ _ _ _=>X,λ_ _ _ _=>X,λ_ _ _ _=>X,λ_ _ _ _=>X,λ_ _ _ _=>X,λ_ _ _ _=>X,λ_ _ _ _=>X,λ_ _ _ _=>X,λ_ _ _ _=>X,λ_ _ _ _=>X,λ_ _ _ _=>X,λ_ _ _ _=>X,λ_ _ _ _=>X,λ_ _ _ _=>X,λ_ _ _ _=>X,trivial⟩ X ⟨mo λcv=>Op1.move (.t X),mo λcv=>Op1.nilCheckB (.t X),mo λcv=>Op1.fieldAddrB (o:=0) Tryz.underlying218 X J3 (.t X) X,.inr ⟨λcv=>[(0,(Bx 4 true 218 (aL.is ({s0_ with unit_:=v}:au)) b))],(gB.at ⟨(λ_ _=>⟨X,X,trivial⟩),(nn)⟩),λcv=>Op1.kR 0 X ty3.h yH.h X (.t X)⟩,mo λcv=>Op1.move (.t X),mo λcv=>Op1.nilCheckB (.t X),mo λcv=>Op1.fieldAddrB (o:=0) Tryz.underlying218 X J3 (.t X) X,.inr ⟨λcv=>[(0,(Bx 4 true 218 (aL.is ({s0_ with unit_:=v}:au)) b))],(gB.at ⟨(λ_ _=>⟨X,X,trivial⟩),(nn)⟩),λcv=>Op1.kR 0 X ty3.h yI.h X (.t X)⟩,mo λcv=>Op1.move (.t X),mo λcv=>Op1.nilCheckB (.t X),mo λcv=>Op1.fieldAddrB (o:=0) Tryz.underlying218 X J3 (.t X) X,.inr ⟨λcv=>[(0,(Bx 4 true 218 (aL.is ({s0_ with unit_:=v}:au)) b))],(gB.at ⟨(λ_ _=>⟨X,X,trivial⟩),(nn)⟩),λcv=>Op1.kR 0 X ty3.h tN.h X (.t X)⟩,mo λcv=>Op1.build (s:=aH) (x:=(⟨({s0_ with unit_:=v}:au).act_,({s0_ with unit_:=v}:au).item_,({s0_ with unit_:=v}:au).unit_⟩:ai)) zX X U23 (Ca _ U23) ze23.h ⟨_,I6,(({s0_ with unit_:=v}:au).act_),_,_,X,Z3,(.t X),LQ.h,_,I6,(({s0_ with unit_:=v}:au).item_),_,_,X,Z3,(.t X),LU.h,_,I6,(({s0_ with unit_:=v}:au).unit_),_,_,X,Z3,(.t X),LV.h,X⟩,mo λcv=>Op1.fieldAddrB (o:=0) U27 X J23 (.t X) X,.inl X,trivial⟩ ⟨⟨_,_,_,[3],(λcv=>[(3,(Bx 8 true 27 (ae.is ({u with Id:=(⟨({s0_ with unit_:=v}:au).act_,({s0_ with unit_:=v}:au).item_,({s0_ with unit_:=v}:au).unit_⟩:ai)}:aa)) b1))]),X,X,X,X,λ_=>X,λ_ _=>X,λcv=>OpR.viaU (OpR.storeBF (b:=b1) 3 X ty23.h Gp.h X (by decide) (.t X) (.t X))⟩,trivial⟩ λcv=>Aq<|Aw<|Am X X<|Ao X (.fieldAddrB (o:=0) U27 X J24 (.t X) X)<|Ao X (.kR 3 X ty24.h AL.h X (.t X)) ?_;obtain ⟨⟨row,s0_1⟩,hv2,hm⟩:=Bs hm;dsimp only at hm;refine WL.weakR (res':=[(0,(Bx 4 true 218 (aL.is ({s0_ with unit_:=v}:au)) b)),(3,(Bx 8 true 27 (ae.is ({u with Id:=(⟨({s0_ with unit_:=v}:au).act_,({s0_ with unit_:=v}:au).item_,({s0_ with unit_:=v}:au).unit_⟩:ai)}:aa)) b1)),(4,(Bx 8 true 27 (ae.is az) b2))]) ⟨X,X,X,X,X,X,trivial⟩<|WL.opR X (OpR.call (us:=[0]) (A:=λkx:Unit=>((tL aj).is row)) C250 (aR.keys (rin':=[(0,(Bx 4 true 218 (aL.is ({s0_ with unit_:=v}:au)) b))]) (out':=λkx:Unit=>[(0,(Bx 4 true 218 (aL.is s0_1) b))]) ((pV _ _ _).h hv2 _ 0 none none) X (λ_=>X)) X ⟨(.t X),(.t X),trivial⟩) λ_=>Ao X (.fieldAddrB (o:=0) U27 X J24 (.t X) X)<|WL.opU (OpR.storeBF (b:=b1) 3 X ty24.h Gt.h X (by decide) (.t X) (.t X)) λ_=>Ar<|Am X X<|Ao X (.fieldAddrB (o:=0) U27 X J24 (.t X) X)<|Ao X (.kR 3 X ty24.h AO.h X (.t X)) ?_;obtain ⟨⟨row1,s0_2⟩,hv3,hm⟩:=Bs hm;dsimp only at hm;refine WL.weakR (res':=[(0,(Bx 4 true 218 (aL.is s0_1) b)),(3,(Bx 8 true 27 (ae.is ({({u with Id:=(⟨({s0_ with unit_:=v}:au).act_,({s0_ with unit_:=v}:au).item_,({s0_ with unit_:=v}:au).unit_⟩:ai)}:aa) with Head:=row}:aa)) b1)),(4,(Bx 8 true 27 (ae.is az) b2))]) ⟨X,X,X,X,X,X,trivial⟩<|WL.opR X (OpR.call (us:=[0]) (A:=λkx:Unit=>((tL aj).is row1)) C250 (aR.keys (rin':=[(0,(Bx 4 true 218 (aL.is s0_1) b))]) (out':=λkx:Unit=>[(0,(Bx 4 true 218 (aL.is s0_2) b))]) ((pV _ _ _).h hv3 _ 0 none none) X (λ_=>X)) X ⟨(.t X),(.t X),trivial⟩) λ_=>Ao X (.fieldAddrB (o:=0) U27 X J24 (.t X) X)<|WL.opU (OpR.storeBF (b:=b1) 3 X ty24.h Gu.h X (by decide) (.t X) (.t X)) λ_=>Ar<|Ao X (.fieldAddrB (o:=0) U27 X J25 (.t X) X)<|Ao X (.kR 3 X ty25.h ny.h X (.t X))<|Ao X (.qd U25 (.t X)) ?_;obtain ⟨mk,hv4,hm⟩:=Bs hm;refine WL.opR X (OpR.QY (lu.fix (t:=xI ae) (x:=az) (lu.map (.pair (lu.map (.pair (.of Flat.I) (.pair (.of Flat.I) (.one (.of Flat.I))))) (.pair (.of Flat.I) (.pair (.of Flat.S) (.pair .nil (.pair .nil (.one .nil))))))) mW.out mW.into) hv4 (OpR.makeSlice 41 hv4 U25 el27.h ze27.h (.t X) (.t X))) λk=>Ag X X<|Ar<|Am X X<|Ao X (.fieldAddrB (o:=0) U27 X J25 (.t X) X)<|Ao X (.kR 3 X ty25.h ny.h X (.t X)) ?_;obtain ⟨w,hv5,hm⟩:=Bs hm;refine WL.opR X (OpR.copyUC (key:=41) hv5 U25 Z27 X (.t X) (.t X)) λ_=>WL.nil<|WN.kv 5 (sJ hv5) X<|WN.kv 41 (sJ hv5) X<|WN.kv 42 (sJ hv5) X<|Aq<|W.seq<|Aw<|Am X X<|Ao X (.kv U25 (.t X))<|Ao X (.move .i64)<|An<|W.block ?_;obtain ⟨s6,hs7,hk8⟩:=Bs hm;clear hm;refine W.loop (λm (s:((List aa)×Int×au)×Tok)=>M.dA w (M.dI n) m s.1.1 s.1.2.1 s.1.2.2=some s6) (λs=>[(5,(tU s.2 s.1.1.length)),(48,(I6.is s.1.2.1)),(0,(Bp b 0)),(3,(Bp b1 0)),(4,(Bp b2 0)),(47,(I6.is (w.length:Int)))]) (λs=>[(41,OwnU ae 27 s.2 s.1.1),(0,(Bx 4 true 218 (aL.is s.1.2.2) b)),(3,(Bx 8 true 27 (ae.is ({({({u with Id:=(⟨({s0_ with unit_:=v}:au).act_,({s0_ with unit_:=v}:au).item_,({s0_ with unit_:=v}:au).unit_⟩:ai)}:aa) with Head:=row}:aa) with Words:=row1}:aa)) b1)),(4,(Bx 8 true 27 (ae.is az) b2))]) _ ((w,(0:Int),s0_2),k) hs7 ⟨.q X,.q X,.q X,.q X,.q X,.q X,trivial⟩ ⟨X,X,X,X,X,X,X,X,trivial⟩ ?_;rintro n9 ⟨⟨kids,v1,s0_3⟩,k1⟩ hm;try dsimp only at hm
  change W _ _ _ _ _ _ _ [(5,(tU k1 kids.length)),(48,(I6.is v1)),(0,(Bp b 0)),(3,(Bp b1 0)),(4,(Bp b2 0)),(47,(I6.is (w.length:Int)))] [(41,OwnU ae 27 k1 kids),(0,(Bx 4 true 218 (aL.is s0_3) b)),(3,(Bx 8 true 27 (ae.is ({({({u with Id:=(⟨({s0_ with unit_:=v}:au).act_,({s0_ with unit_:=v}:au).item_,({s0_ with unit_:=v}:au).unit_⟩:ai)}:aa) with Head:=row}:aa) with Words:=row1}:aa)) b1)),(4,(Bx 8 true 27 (ae.is az) b2))];cases n9 with
  | zero=>rw [M.dA.eq_1] at hm;cases hm
  | succ n9=>
   rw [M.dA.eq_2] at hm;refine Aw<|Ao X (.ltI (.t X) (.t X))<|An<|W.seq<|W.cD hm (.t X) (λhp11 hm=>?_) (λhp11 hm=>?_)
   .refine W.skip<|Aq<|W.seq<|W.block<|Aw<|Am X X<|Ag X X<|WL.nr1<|Am X X<|Am X X<|Am X X<|Am X X<|WL.mv X X ?_;obtain ⟨v2,hv12,hm⟩:=Bs hm;refine Ao X (.idxU (t:=ae) hv12 U25 Z27 (.t X) (.t X))<|Ao X (.um 41 hv12 ty27.h X (.t X)) ?_;obtain ⟨⟨tree,s0_4⟩,hv13,hm⟩:=Bs hm;dsimp only at hm;refine WL.weakR (res':=[(0,(Bx 4 true 218 (aL.is s0_3) b)),(41,OwnU ae 27 k1 kids),(3,(Bx 8 true 27 (ae.is ({({({u with Id:=(⟨({s0_ with unit_:=v}:au).act_,({s0_ with unit_:=v}:au).item_,({s0_ with unit_:=v}:au).unit_⟩:ai)}:aa) with Head:=row}:aa) with Words:=row1}:aa)) b1)),(4,(Bx 8 true 27 (ae.is az) b2))]) ⟨X,X,X,X,X,X,X,X,trivial⟩<|WL.opR X (OpR.call (us:=[0]) (A:=λkx:Unit=>(ae.is tree)) C215 (aR.keys (rin':=[(0,(Bx 4 true 218 (aL.is s0_3) b))]) (out':=λkx:Unit=>[(0,(Bx 4 true 218 (aL.is s0_4) b))]) (ih _ _ _ _ hv13) X (λ_=>X)) X ⟨(.t X),(.t X),trivial⟩) (λ_=>?_);obtain ⟨v3,hv14,hm⟩:=Bs hm;refine Ao X (.idxU (t:=ae) hv14 U25 Z27 (.t X) (.t X)) ?_;obtain ⟨w1,hv15,hm⟩:=Bs hm;refine WL.opU (OpR.storeU (key:=41) hv15 ty27.h (.t X) (.t X) X) λ_=>WL.nil<|WN.kv 5 (cO hv15) X<|WN.kv 51 (cO hv15) X<|WN.kv 54 (cO hv15) X<|WN.block<|Aq<|W.region ?_;obtain ⟨v4,hv16,hm⟩:=Bs hm;exact Ao X (.addC hv16 (.t X) .i64)<|Am X X<|WL.nil<|WN.again n9 ((w1,v4,s0_4),k1) (Nat.lt_succ_self n9) hm ⟨.q X,.q X,.q X,.q X,.q X,.q X,trivial⟩ ⟨X,X,X,X,X,X,X,X,trivial⟩
   .refine W.exit X ?_;have hr17:=Si hm;clear hm;subst hr17;have hm:=hk8;try dsimp only at hm
    refine Aq<|Aw<|Am X X<|Ao X (.fieldAddrB (o:=0) U27 X J25 (.t X) X)<|WL.fixU 61 41 X X<|WL.sameU 61 5 X X<|WL.opU (OpR.storeBF (b:=b1) 3 X ty25.h Gv.h X (by decide) (.t X) (Opd.own (.t X))) λ_=>Ar<|Ao X (.qG 3 Y27 Z27 X (.t X))<|WL.opU (OpR.storeB (b:=b2) 4 Z27 (bg.is ae ({({({({u with Id:=(⟨({s0_ with unit_:=v}:au).act_,({s0_ with unit_:=v}:au).item_,({s0_ with unit_:=v}:au).unit_⟩:ai)}:aa) with Head:=row}:aa) with Words:=row1}:aa) with Kids:=kids}:aa)) X (.t X) (.t X)) λ_=>WL.ns ?_;cases hm;exact W.retQ1 () X (ResAt.cell 4 Y27 Z27 X (.t X)) ⟨X,X,trivial⟩
instance D7(n:Nat)(s0_:au)(u:aa)(r:aa×au):z6 215 (M.dI n s0_ u=some r) (λb _ _ _=>[Bp b 0,ae.is u]) (λb _ _ _=>[(0,Bx 4 true 218 (aL.is s0_) b)]) _ (λb _ _ _=>(λkx:Unit=>(ae.is r.1))) (λb _ _ _=>(λkx:Unit=>[(0,Bx 4 true 218 (aL.is r.2) b)])):=⟨Tryz.call215,λhm b _ _ _=>ui n s0_ u b r hm⟩
section
attribute [local irreducible] W WL WN DM Op1 OpR Opd Dep
instance GZ(n:Nat)(parent:Int)(kind:Int)(r:Bool):z2 216 (M.lL n parent kind=some r) [I6.is parent,I6.is kind] (tB.is r) [E1]:=.fx Tryz.call216 Tryz.func216 (M.lL.eq_1 ..)
instance NB(n:Nat)(u:aa)(parent:ai)(x:aa)(r:Bool):z1 161 (M.lC n u parent x=some r) [ae.is u,aH.is parent,ae.is x] (tB.is r):=.fx Tryz.call161 Tryz.func161 (M.lC.eq_1 ..)
instance NC(n:Nat)(u:aa)(r:Int):z1 162 (M.nE n u=some r) [ae.is u] (I6.is r):=.fx Tryz.call162 Tryz.func162 (M.nE.eq_1 ..)
instance QG(n:Nat)(u:aa)(r:List ai):z1 163 (M.pM n u=some r) [ae.is u] ((tL aH).is r):=.fx Tryz.call163 Tryz.func163 (M.pM.eq_1 ..) [2000003]
end
end Go.Proofs.YtobcmdhemlennaaGreatDoor
