import Derived.Test.YtapobcikfdbjiaaGreatDoorVg
/-
  The code does what the models say: written by program.
-/
set_option linter.unusedVariables false
set_option linter.unusedSimpArgs false
namespace Go.Proofs.YtapobcikfdbjiaaGreatDoor
open Go Go.Dec
set_option maxRecDepth 1000000
set_option maxHeartbeats 4000000
abbrev UU:=fun (u:aa)(slf:aa->Option Int)(nn:Nat)(s0:Int)(s1:Int)=>mkLp (τ:=Int×Int) (M.iD u slf nn s0 s1) (fun mm s=>M.iD u slf mm s.1 s.2) nn (s0,s1) [1] [] (fun s _ _ _ _ _ _ e=>(3,I6.is s.1)::(4,I6.is s.2)::e) z7 (fun _=>M.iD.eq_1 ..) (fun _ _=>M.iD.eq_2 ..)
abbrev UW:=fun (u:aa)(x:aa)(slf:aa->aa->Option aa)(nn:Nat)(s0:(List aa))(s1:Int)=>mkLp (τ:=(List aa)×Int) (M.jE u x slf nn s0 s1) (fun mm s=>M.jE u x slf mm s.1 s.2) nn (s0,s1) [2,3,4] [2,4] (fun s k1 _ _ _ _ _ e=>(5,tO ae k1 s.1)::(6,I6.is s.2)::e) (fun s k1 _ _ _ _ _ e=>(13,Dec.Own ae 27 k1 s.1.length)::e) (fun _=>M.jE.eq_1 ..) (fun _ _=>M.jE.eq_2 ..)
abbrev Wj:=fun (l:List aa)(id:ai)(nn:Nat)(s0:Int)=>mkLp (M.kQ l id nn s0) (fun mm s=>M.kQ l id mm s) nn s0 [0,3] [] (fun s _ _ _ _ _ _ e=>(5,I6.is s)::e) z7 (fun _=>M.kQ.eq_1 ..) (fun _ _=>M.kQ.eq_2 ..)
abbrev Q6:=fun (w:List af)(k:Int)(row:List Str)(nn:Nat)(s0:Int)=>mkLp (M.gV w k row nn s0) (fun mm s=>M.gV w k row mm s) nn s0 [0,1,2] [] (fun s _ _ _ _ _ _ e=>(7,I6.is s)::e) z7 (fun _=>M.gV.eq_1 ..) (fun _ _=>M.gV.eq_2 ..)
abbrev SE:=fun (a:List af)(b:List af)(nn:Nat)(s0:Int)=>mkLp (M.iZ a b nn s0) (fun mm s=>M.iZ a b mm s) nn s0 [0,1] [] (fun s _ _ _ _ _ _ e=>(5,I6.is s)::e) z7 (fun _=>M.iZ.eq_1 ..) (fun _ _=>M.iZ.eq_2 ..)
abbrev LZ:=fun (nn:List aV)=>mkRg (M.bG nn) (fun mm jj s=>M.bG mm) nn () 7 [5,6] [] z7 z7 (fun _ _=>M.bG.eq_1 ..) (fun _ _ _ _=>M.bG.eq_2 ..)
attribute [instance] UU UW Wj Q6 SE LZ
section
attribute [local irreducible] W WL WN DM Op1 OpR Opd Dep
instance Q4:∀ (n:Nat) (u:aa) (r:Int),z1 85 (M.qo n u=some r) [ae.is u] (I6.is r):=by
 intro n;induction n with
 | zero=>exact fun _ _=>⟨Tryz.call85,fun hm=>by cases hm⟩
 | succ n ih=>
  intro u r;refine SpC.of Tryz.call85 Tryz.func85 X X fun g0 hm=>?_;rw [M.qo.eq_2] at hm;exact Fx hm
instance UV(l:List aa)(at0_:Int)(x:aa)(r:List aa):z6 88 (M.wV l at0_ x=some r) (fun _ _ _ _=>[(tL ae).is l,I6.is at0_,ae.is x]) (fun _ _ _ _=>[]) _ (fun _ _ _ _=>(fun k:Tok=>tO ae k r)) (fun _ _ _ _=>(fun k=>[(77777,Dec.Own ae 27 k r.length)])):=.fx Tryz.call88 Tryz.func88 (M.wV.eq_1 ..)
instance Q5:∀ (n:Nat) (u:aa) (x:aa) (r:aa),z1 40 (M.kM n u x=some r) [ae.is u,ae.is x] (ae.is r):=by
 intro n;induction n with
 | zero=>exact fun _ _ _=>⟨Tryz.call40,fun hm=>by cases hm⟩
 | succ n ih=>
  intro u x r;refine SpC.of Tryz.call40 Tryz.func40 X X fun g0 hm=>?_;rw [M.kM.eq_2] at hm;exact Fx hm [1000002]
instance SC(l:List aa)(at0_:Int)(r:List aa):z1 39 (M.su l at0_=some r) [(tL ae).is l,I6.is at0_] ((tL ae).is r):=.fx Tryz.call39 Tryz.func39 (M.su.eq_1 ..)
instance UX(n:Nat)(l:List aa)(id:ai)(r:Int):z1 89 (M.zw n l id=some r) [(tL ae).is l,aB.is id] (I6.is r):=.fx Tryz.call89 Tryz.func89 (M.zw.eq_1 ..)
instance Ox(n:Nat)(w:List af)(k:Int)(row:List Str)(r:Bool):z1 169 (M.uW n w k row=some r) [(tL aj).is w,I6.is k,(tL tS).is row] (tB.is r):=.fx Tryz.call169 Tryz.func169 (M.uW.eq_1 ..)
instance Pv(n:Nat)(a:List af)(b:List af)(r:Bool):z1 19 (M.uO n a b=some r) [(tL aj).is a,(tL aj).is b] (tB.is r):=.fx Tryz.call19 Tryz.func19 (M.uO.eq_1 ..)
instance FO(id:ai)(r:Bool):z1 245 (M.mf id=some r) [aB.is id] (tB.is r):=.fx Tryz.call245 Tryz.func245 (M.mf.eq_1 ..)
instance FP(c:aa)(c1:ai)(r:Bool):z1 175 (M.mi c c1=some r) [ae.ptr c,aB.ptr c1] (tB.is r):=.fx Tryz.call175 Tryz.func175 (M.mi.eq_1 ..)
instance JA(l:List aV)(r:Int):z1 170 (M.iE l=some r) [(tL jb).is l] (I6.is r):=.fx Tryz.call170 Tryz.func170 (M.iE.eq_1 ..) [4]
instance H5(c:Bool)(r:Bool):z1 251 (M.oG c=some r) [tB.ptr c] (tB.is r):=.fx Tryz.call251 Tryz.func251 (M.oG.eq_1 ..)
instance H6(c:Int)(c1:aa)(r:Bool):z1 253 (M.oI c c1=some r) [I6.ptr c,ae.ptr c1] (tB.is r):=.fx Tryz.call253 Tryz.func253 (M.oI.eq_1 ..)
instance Gv(k:aa)(c:Int)(c1:Str)(r:Bool):z1 258 (M.nz k c c1=some r) [ae.is k,I6.ptr c,tS.ptr c1] (tB.is r):=.fx Tryz.call258 Tryz.func258 (M.nz.eq_1 ..)
abbrev UY:=fun (u:aa)(deep:Int)(most:Int)(slf:aa->Int->Int->Option Int)(nn:Nat)(s0:Int)(s1:Int)=>mkLp (τ:=Int×Int) (M.ig u deep most slf nn s0 s1) (fun mm s=>M.ig u deep most slf mm s.1 s.2) nn (s0,s1) [1,2,3] [] (fun s _ _ _ _ _ _ e=>(7,I6.is s.1)::(8,I6.is s.2)::e) z7 (fun _=>M.ig.eq_1 ..) (fun _ _=>M.ig.eq_2 ..)
abbrev SF:=fun (l:List af)(nn:Nat)(s0:Int)=>mkLp (M.gy l nn s0) (fun mm s=>M.gy l mm s) nn s0 [0] [] (fun s _ _ _ _ _ _ e=>(3,I6.is s)::e) z7 (fun _=>M.gy.eq_1 ..) (fun _ _=>M.gy.eq_2 ..)
abbrev SG:=fun (l:List af)(nn:Nat)(s0:(List Str))(s1:Int)=>mkLp (τ:=(List Str)×Int) (M.iG l nn s0 s1) (fun mm s=>M.iG l mm s.1 s.2) nn (s0,s1) [0] [] (fun s k1 _ _ _ _ _ e=>(3,tO tS k1 s.1)::(4,I6.is s.2)::e) (fun s k1 _ _ _ _ _ e=>(5,Dec.Own tS 9 k1 s.1.length)::e) (fun _=>M.iG.eq_1 ..) (fun _ _=>M.iG.eq_2 ..)
abbrev UZ:=fun (s0_:Str)(nn:Nat)(s0:Int)=>mkLp (M.jq s0_ nn s0) (fun mm s=>M.jq s0_ mm s) nn s0 [0] [] (fun s _ _ _ _ _ _ e=>(3,I6.is s)::e) z7 (fun _=>M.jq.eq_1 ..) (fun _ _=>M.jq.eq_2 ..)
abbrev Q9:=fun (s0_:Str)(nn:Nat)(s0:Int)=>mkLp (M.gP s0_ nn s0) (fun mm s=>M.gP s0_ mm s) nn s0 [0] [] (fun s _ _ _ _ _ _ e=>(3,I6.is s)::e) z7 (fun _=>M.gP.eq_1 ..) (fun _ _=>M.gP.eq_2 ..)
abbrev SH:=fun (u:aa)(slf:aa->Option Int)(nn:Nat)(s0:Int)(s1:Int)=>mkLp (τ:=Int×Int) (M.iH u slf nn s0 s1) (fun mm s=>M.iH u slf mm s.1 s.2) nn (s0,s1) [1] [] (fun s _ _ _ _ _ _ e=>(3,I6.is s.1)::(4,I6.is s.2)::e) z7 (fun _=>M.iH.eq_1 ..) (fun _ _=>M.iH.eq_2 ..)
abbrev SI:=fun (u:aa)(slf:aa->Option Int)(nn:Nat)(s0:Int)(s1:Int)=>mkLp (τ:=Int×Int) (M.iI u slf nn s0 s1) (fun mm s=>M.iI u slf mm s.1 s.2) nn (s0,s1) [1] [] (fun s _ _ _ _ _ _ e=>(3,I6.is s.1)::(4,I6.is s.2)::e) z7 (fun _=>M.iI.eq_1 ..) (fun _ _=>M.iI.eq_2 ..)
abbrev VE:=fun (u:aa)(slf:aa->Option (List ai))(nn:Nat)(s0:(List ai))(s1:Int)=>mkLp (τ:=(List ai)×Int) (M.jY u slf nn s0 s1) (fun mm s=>M.jY u slf mm s.1 s.2) nn (s0,s1) [1] [] (fun s k1 _ _ _ _ _ e=>(3,tO aB k1 s.1)::(4,I6.is s.2)::e) (fun s k1 _ _ _ _ _ e=>(7,Dec.Own aB 23 k1 s.1.length)::e) (fun _=>M.jY.eq_1 ..) (fun _ _=>M.jY.eq_2 ..)
attribute [instance] UY SF SG UZ Q9 SH SI VE
instance Q7:∀ (n:Nat) (u:aa) (deep:Int) (most:Int) (r:Int),z1 22 (M.r9 n u deep most=some r) [ae.is u,I6.is deep,I6.is most] (I6.is r):=by
 intro n;induction n with
 | zero=>exact fun _ _ _ _=>⟨Tryz.call22,fun hm=>by cases hm⟩
 | succ n ih=>
  intro u deep most r;refine SpC.of Tryz.call22 Tryz.func22 X X fun g0 hm=>?_;rw [M.r9.eq_2] at hm;exact Fx hm
instance Pw(n:Nat)(l:List af)(r:Bool):z1 46 (M.rG n l=some r) [(tL aj).is l] (tB.is r):=.fx Tryz.call46 Tryz.func46 (M.rG.eq_1 ..)
instance Px(n:Nat)(l:List af)(r:List Str):z1 197 (M.wo n l=some r) [(tL aj).is l] ((tL tS).is r):=.fx Tryz.call197 Tryz.func197 (M.wo.eq_1 ..)
instance Q8(n:Nat)(s0_:Str)(r:Bool):z1 202 (M.xC n s0_=some r) [tS.is s0_] (tB.is r):=.fx Tryz.call202 Tryz.func202 (M.xC.eq_1 ..)
instance OA(n:Nat)(s0_:Str)(r:Int):z1 112 (M.uS n s0_=some r) [tS.is s0_] (I6.is r):=.fx Tryz.call112 Tryz.func112 (M.uS.eq_1 ..)
instance Py(parent:Int)(kind:Int)(r:Bool):z1 48 (M.ww parent kind=some r) [I6.is parent,I6.is kind] (tB.is r):=.fx Tryz.call48 Tryz.func48 (M.ww.eq_1 ..)
instance Pz:∀ (n:Nat) (u:aa) (r:Int),z1 25 (M.rH n u=some r) [ae.is u] (I6.is r):=by
 intro n;induction n with
 | zero=>exact fun _ _=>⟨Tryz.call25,fun hm=>by cases hm⟩
 | succ n ih=>
  intro u r;refine SpC.of Tryz.call25 Tryz.func25 X X fun g0 hm=>?_;rw [M.rH.eq_2] at hm;exact Fx hm
instance PD:∀ (n:Nat) (u:aa) (r:Int),z1 26 (M.rM n u=some r) [ae.is u] (I6.is r):=by
 intro n;induction n with
 | zero=>exact fun _ _=>⟨Tryz.call26,fun hm=>by cases hm⟩
 | succ n ih=>
  intro u r;refine SpC.of Tryz.call26 Tryz.func26 X X fun g0 hm=>?_;rw [M.rM.eq_2] at hm;exact Fx hm
instance SK:∀ (n:Nat) (u:aa) (r:List ai),z1 49 (M.vF n u=some r) [ae.is u] ((tL aB).is r):=by
 intro n;induction n with
 | zero=>exact fun _ _=>⟨Tryz.call49,fun hm=>by cases hm⟩
 | succ n ih=>
  intro u r;refine SpC.of Tryz.call49 Tryz.func49 X X fun g0 hm=>?_;rw [M.vF.eq_2] at hm;exact Fx hm
instance OB(kind:Int)(r:Bool):z1 17 (M.nR kind=some r) [I6.is kind] (tB.is r):=.fx Tryz.call17 Tryz.func17 (M.nR.eq_1 ..)
instance U0(n0_:Int)(low:Int)(high:Int)(r:Bool):z1 50 (M.p9 n0_ low high=some r) [I6.is n0_,I6.is low,I6.is high] (tB.is r):=.fx Tryz.call50 Tryz.func50 (M.p9.eq_1 ..)
abbrev SN:=fun (u:aa)(slf:aa->Option Bool)(nn:Nat)(s0:Int)=>mkLp (M.eP u slf nn s0) (fun mm s=>M.eP u slf mm s) nn s0 [1] [] (fun s _ _ _ _ _ _ e=>(3,I6.is s)::e) z7 (fun _=>M.eP.eq_1 ..) (fun _ _=>M.eP.eq_2 ..)
abbrev VF:=fun (l:List Str)(nn:Nat)(s0:Int)=>mkLp (M.jW l nn s0) (fun mm s=>M.jW l mm s) nn s0 [0] [] (fun s _ _ _ _ _ _ e=>(3,I6.is s)::e) z7 (fun _=>M.jW.eq_1 ..) (fun _ _=>M.jW.eq_2 ..)
abbrev VG:=fun (s0_:Str)(nn:Nat)(s0:Int)=>mkLp (M.jX s0_ nn s0) (fun mm s=>M.jX s0_ mm s) nn s0 [0] [] (fun s _ _ _ _ _ _ e=>(4,I6.is s)::e) z7 (fun _=>M.jX.eq_1 ..) (fun _ _=>M.jX.eq_2 ..)
abbrev VH:=fun (all:List ai)(nn:Nat)(s0:Bool)(s1:Int)=>mkLp (τ:=Bool×Int) (M.fq all nn s0 s1) (fun mm s=>M.fq all mm s.1 s.2) nn (s0,s1) [1,3] [] (fun s _ _ _ _ _ _ e=>(4,tB.is s.1)::(5,I6.is s.2)::e) z7 (fun _=>M.fq.eq_1 ..) (fun _ _=>M.fq.eq_2 ..)
abbrev VI:=fun (all:List ai)(nn:Nat)(s0:Int)=>mkLp (M.dZ all nn s0) (fun mm s=>M.dZ all mm s) nn s0 [3] [] (fun s _ _ _ _ _ _ e=>(6,I6.is s)::e) z7 (fun _=>M.dZ.eq_1 ..) (fun _ _=>M.dZ.eq_2 ..)
abbrev VJ:=fun (all:List ai)(i1:Int)(nn:Nat)(s0:Int)=>mkLp (M.dO all i1 nn s0) (fun mm s=>M.dO all i1 mm s) nn s0 [3,6] [] (fun s _ _ _ _ _ _ e=>(7,I6.is s)::e) z7 (fun _=>M.dO.eq_1 ..) (fun _ _=>M.dO.eq_2 ..)
attribute [instance] SN VF VG VH VI VJ
instance H7(c:Int)(c1:aa)(r:Bool):z1 187 (M.oN c c1=some r) [I6.ptr c,ae.ptr c1] (tB.is r):=.fx Tryz.call187 Tryz.func187 (M.oN.eq_1 ..)
instance EI(c:Bool)(r:Bool):z1 191 (M.lI c=some r) [tB.ptr c] (tB.is r):=.fx Tryz.call191 Tryz.func191 (M.lI.eq_1 ..)
instance EJ(c:aa)(r:Bool):z1 192 (M.lJ c=some r) [ae.ptr c] (tB.is r):=.fx Tryz.call192 Tryz.func192 (M.lJ.eq_1 ..)
instance EK(x:aa)(c:Str)(r:aa):z1 193 (M.lK x c=some r) [ae.is x,tS.ptr c] (ae.is r):=.fx Tryz.call193 Tryz.func193 (M.lK.eq_1 ..) [1000002]
instance Gw(c:Bool)(r:Bool):z1 262 (M.lg c=some r) [tB.ptr c] (tB.is r):=.fx Tryz.call262 Tryz.func262 (M.lg.eq_1 ..)
instance Gx(c:aa)(r:Bool):z1 263 (M.lh c=some r) [ae.ptr c] (tB.is r):=.fx Tryz.call263 Tryz.func263 (M.lh.eq_1 ..)
instance Gy(c:List af)(r:Bool):z1 264 (M.ll c=some r) [(tL aj).ptr c] (tB.is r):=.fx Tryz.call264 Tryz.func264 (M.ll.eq_1 ..)
end
theorem H8(l:List az):FSpec Tryz.prog 20 [(tL aL).is l] (cloA 44 [(tL aL).ptr l]):=by
 exact FSpec.of Tryz.func20 X X X fun g0=>Aw<|Ao X (.box (.t X))<|Ao X (.assign Opd.const)<|WL.nil<|Aq<|Aw<|Ao X (.makeClo (Cs:=[(tL aL).ptr l]) (cap:=[.tmp 1]) ⟨(.t X),trivial⟩)<|Ag X X<|WL.nil<|Aq<|W.ret1 () X (.t X) trivial
theorem back44:BackO Tryz.prog 44 aL:=by
 intro g pv rs n hpv l J Jx W hW hJ hJx hY h0;have hS0:Stays g W:=(Stays.refl g).below hW;have hlim:rs.length<=lim:=by
  obtain ⟨b,o,_,cs,⟨p,c,_,_,h3,_⟩,_⟩:=hpv;exact h3
 have hrange:∀ k:Nat,k<=rs.length->inR .i64 ((rs.length:Int)-1-(k:Int)):=fun k hk=>inR64.2 (by unfold lim at hlim;omega);have hJn:∀ {s:Nat} {ga gb:G},J s ga.w->Ext No ga gb->J s gb.w:=fun h e=>hJ _ _ _ none h (grown_of e) (fun r e=>by cases e);have hJxn:∀ {s:Nat} {ga gb:G},Jx s ga.w->Ext No ga gb->Jx s gb.w:=fun h e=>hJx _ _ _ none h (grown_of e) (fun r e=>by cases e);refine callsIn_of_wp Tryz.func44 X trivial ?_ X;have hent:∀ {a2:Act} {w:World},Stays g w->a2.tmps.getD 1 undef=pv->(Asn.both (Asn.eq pv) ((tL (tRaw aL)).ptr rs)).holds (a2.tmps.getD 1 undef) (g.at w):=fun hw he=>⟨he,by rw [he];exact ((tL (tRaw aL)).ptr rs).mono hw.ext hpv⟩
 refine WR.begin (N:=19) (g:=g.at W) (vs:=[.func (.yield l) #[] #[],pv]) (As:=[Asn.eq (.func (.yield l) #[] #[]),Asn.eq pv]) X X ⟨X,X,trivial⟩ ?_;intro a g1 hst;have hg1:Stays g g1.w:=hS0.on hst.ext;have hJ1:J 0 g1.w:=hJn (ga:=g.at W) h0 hst.ext;have hst1:=hst.eqs (L:=[(0,.func (.yield l) #[] #[]),(1,pv)]) ⟨.q X,.q X,trivial⟩ (g.at g1.w);have hst2:=hst1.entry (hent hg1 (hst1.henv 1 _ X));refine WR.go (D:=[]) (g:=g.at g1.w) (env:=(1,Asn.both (Asn.eq pv) ((tL (tRaw aL)).ptr rs)) :: eqs [(0,.func (.yield l) #[] #[]),(1,pv)]) (res:=[]) (g0:=g.at g1.w) (T0:=No) (N:=19) ?_ hst2;refine WR.seq<|WR.region X<|Ao X (.load (t:=tL (tRaw aL)) ⟨Y31,Z31⟩ (Opd.weak (.t X) (fun _ _ h=>h.2)))<|Ao X (.nM U31 (.t X))<|Ao X (.subI (.t X) (.int (n:=1) (inR64.2 (by omega))) (inR64.2 (by unfold lim at hlim;omega)))<|Ao X (.assign (.t X))<|WL.nil<|WN.wr<|WR.block<|WR.Wl (fun a w=>∃ k:Nat,k<=rs.length/\Stays g w/\J k w/\St 19 (g.at w) No (eqs [(3,.int .i64 ((rs.length:Int)-1-(k:Int))),(0,.func (.yield l) #[] #[]),(1,pv)]) [] a (g.at w))
  (fun a _=>match a.tmps.getD 3 undef with | .int _ q=>(q+1).toNat | _=>0) ?_ ?_
 ·intro a2 g2 h2;refine ⟨0,Nat.zero_le _,hg1.on h2.ext,?_,h2.eqs (L:=[(3,.int .i64 ((rs.length:Int)-1-((0:Nat):Int))),(0,.func (.yield l) #[] #[]),(1,pv)]) ⟨Ent.w X (fun v g h=>Et h (by simp)),.q X,Ent.w X (fun v g h=>h.1),trivial⟩ _⟩;exact hJn (ga:=g.at g1.w) hJ1 h2.ext
 ·rintro a2 w ⟨k,hk,hs,hj,hsk⟩;have hq:=hrange k hk;have hsk':=hsk.entry (hent hs (hsk.henv 1 _ X));refine WR.go0 ?_ hsk' X;refine WR.seq<|WR.seq<|WR.region X<|Ao X (.move (.t X))<|Ao X (.geI (.eqInt hq (.t X)) (.int (n:=0) (inR64.2 (by omega))))<|WL.nil<|WN.wr<|WR.cond (.t X) (fun hc=>?_) (fun hc=>?_)
  ·have hlt:k<rs.length:=by have:=of_decide_eq_true hc;omega
   refine WR.skipS<|WR.seq<|WR.block<|WR.seq<|WR.regionI<|WLI.op X X (Op1.move (.t X))<|WLI.op X X (Op1.move (.t X))<|WLI.op X X (Op1.load (t:=tL (tRaw aL)) ⟨Y31,Z31⟩ (Opd.weak (.t X) (fun _ _ h=>h.2)))<|WLI.op X X (Op1.move (.t X))<|WLI.op X X (Op1.idx (OX (d:=[]) hlt) U31 Z56 (.t X) (.eqInt hq (.t X)))<|WLI.op X X (Op1.load (t:=tRaw aL) ⟨Y56,Z56⟩ (.t X))<|WLI.yield (t:=aL) (A:=fun W'=>J (k+1) W'/\Stays g W') (B:=fun W'=>Jx (k+1) W') (.t X) (.eqInt hq (.t X)) (.t X) (fun a3 g3 h3=>?_) (fun a3 g3 w3 b h3 hA hB=>?_)
   ·have hj3:J k g3.w:=hJn (ga:=g.at w) hj h3.ext;obtain ⟨fn,tmps,assign,body,hy,hR⟩:=hY k hlt g3.w hj3;refine ⟨fn,tmps,assign,body,hy,hR.mono ?_⟩;rintro e W' (⟨h1,h2,h4⟩ | ⟨h1,h2⟩)
    ·exact .inl ⟨h1,h2,h4 (hs.on h3.ext)⟩
    ·exact .inr ⟨h1,h2⟩
   ·have h4:=h3.eqs (L:=[(3,.int .i64 ((rs.length:Int)-1-(k:Int))),(0,.func (.yield l) #[] #[]),(1,pv)]) ⟨.q X,.q X,Ent.w X (fun v g h=>h.1),trivial⟩ (g.at w3);have h5:=h4.put (d:=17) (v:=.bool b) (A:=tB.is b) (by decide) (Ext.refl _ _) ⟨_,X,X⟩;refine (?_:WLI Tryz.prog none n 19 (g.at w3) No _ _ _ _ []) _ _ h5;refine WLI.op X X (Op1.notB (.t X))<|WLI.nil (fun a5 g5 h6=>?_);change Code.wpIn (ring none) n Tryz.prog _ _ a5 g5.w;refine WR.go0 ?_ h6 X;refine WR.cond (.t X) (fun hb=>?_) (fun hb=>?_)
    ·have hbf:b=false:=by simpa using hb
     refine WR.ret (fun a6 g6 h7=>?_);rw [p8];show _/\_;exact ⟨h7.dfr,_,results_none X _ _ _,⟨_,X⟩,.inr ⟨_,hJxn (ga:=g.at w3) (hB hbf) h7.ext⟩⟩
    ·have hbt:b=true:=by simpa using hb
     obtain ⟨hA1,hA2⟩:=hA hbt;refine WR.skip (fun a6 g6 h7=>?_);change Code.wpIn (ring none) n Tryz.prog _ _ (sh [] a6) g6.w;rw [p8];refine WR.go0 ?_ h7 X;refine WR.region X<|Ao X (.move (.t X))<|Ao X (.subI (.eqInt hq (.t X)) (.int (n:=1) (inR64.2 (by omega))) (inR64.2 (by unfold lim at hlim;omega)))<|Ao X (.assign (.t X))<|WL.nil ?_;intro a7 g7 h8;show _/\_;rw [p8];have h9:=h8.eqs (L:=[(3,.int .i64 ((rs.length:Int)-1-((k+1:Nat):Int))),(0,.func (.yield l) #[] #[]),(1,pv)]) ⟨Ent.w X (fun v g h=>Et h (by omega)),.q X,.q X,trivial⟩ (g.at g7.w);have hS7:Stays g g7.w:=hA2.on h8.ext;refine ⟨⟨k+1,hlt,hS7,hJn (ga:=g.at w3) hA1 h8.ext,h9⟩,?_⟩;have e1:a7.tmps.getD 3 undef=_:=h9.henv 3 _ X;have e2:a2.tmps.getD 3 undef=_:=hsk.henv 3 _ X;rw [e1,e2];show ((rs.length:Int)-1-((k+1:Nat):Int)+1).toNat<((rs.length:Int)-1-(k:Int)+1).toNat;omega
  ·have hge:k=rs.length:=by have:=of_decide_eq_false hc;omega
   refine WR.exit (fun a3 g3 h3=>?_);have hj3:J k g3.w:=hJn (ga:=g.at w) hj h3.ext;subst hge;refine Eu (Eu (FE ?_));rw [p8];show _/\_;exact ⟨h3.dfr,_,results_none X _ _ _,⟨_,X⟩,.inl hj3⟩
section
attribute [local irreducible] W WL WN DM Op1 OpR Opd Dep
instance PE:∀ (n:Nat) (u:aa) (r:Bool),z1 23 (M.mU n u=some r) [ae.is u] (tB.is r):=by
  intro n;induction n with
  | zero=>exact fun _ _=>⟨Tryz.call23,fun hm=>by cases hm⟩
  | succ n ih=>intro u r;refine SpC.of Tryz.call23 Tryz.func23 X X fun g0 hm=>?_;rw [M.mU.eq_2] at hm;exact Fx hm
instance SQ(n:Nat)(l:List Str)(r:Bool):z1 111 (M.yB n l=some r) [(tL tS).is l] (tB.is r):=.fx Tryz.call111 Tryz.func111 (M.yB.eq_1 ..)
instance SS(n:Nat)(s0_:Str)(r:Bool):z1 59 (M.vE n s0_=some r) [tS.is s0_] (tB.is r):=.fx Tryz.call59 Tryz.func59 (M.vE.eq_1 ..)
instance SV(n:Nat)(u:aa)(r:Bool):z1 27 (M.uy n u=some r) [ae.is u] (tB.is r):=.fx Tryz.call27 Tryz.func27 (M.uy.eq_1 ..)
abbrev U1:=fun (a:List ax)(b:List ax)(nn:Nat)(s0:Int)=>mkLp (M.iq a b nn s0) (fun mm s=>M.iq a b mm s) nn s0 [0,1] [] (fun s _ _ _ _ _ _ e=>(5,I6.is s)::e) z7 (fun _=>M.iq.eq_1 ..) (fun _ _=>M.iq.eq_2 ..)
abbrev U2:=fun (a:List Str)(b:List Str)(nn:Nat)(s0:Int)=>mkLp (M.iw a b nn s0) (fun mm s=>M.iw a b mm s) nn s0 [0,1] [] (fun s _ _ _ _ _ _ e=>(5,I6.is s)::e) z7 (fun _=>M.iw.eq_1 ..) (fun _ _=>M.iw.eq_2 ..)
abbrev U3:=fun (a:List af)(b:List af)(nn:Nat)(s0:Int)=>mkLp (M.iA a b nn s0) (fun mm s=>M.iA a b mm s) nn s0 [0,1] [] (fun s _ _ _ _ _ _ e=>(5,I6.is s)::e) z7 (fun _=>M.iA.eq_1 ..) (fun _ _=>M.iA.eq_2 ..)
abbrev U6:=fun (s0_:Str)(nn:Nat)(s0:Int)=>mkLp (M.cK s0_ nn s0) (fun mm s=>M.cK s0_ mm s) nn s0 [0] [] (fun s _ _ _ _ _ _ e=>(3,I6.is s)::e) z7 (fun _=>M.cK.eq_1 ..) (fun _ _=>M.cK.eq_2 ..)
abbrev U7:=fun (s0_:Str)(nn:Nat)(s0:Int)=>mkLp (M.jr s0_ nn s0) (fun mm s=>M.jr s0_ mm s) nn s0 [0] [] (fun s _ _ _ _ _ _ e=>(3,I6.is s)::e) z7 (fun _=>M.jr.eq_1 ..) (fun _ _=>M.jr.eq_2 ..)
abbrev SX:=fun (u:aa)(slf:aa->Option Int)(nn:Nat)(s0:Int)(s1:Int)=>mkLp (τ:=Int×Int) (M.iK u slf nn s0 s1) (fun mm s=>M.iK u slf mm s.1 s.2) nn (s0,s1) [1] [] (fun s _ _ _ _ _ _ e=>(3,I6.is s.1)::(4,I6.is s.2)::e) z7 (fun _=>M.iK.eq_1 ..) (fun _ _=>M.iK.eq_2 ..)
abbrev SY:=fun (l:List af)(nn:Nat)(s0:Str)(s1:Int)=>mkLp (τ:=Str×Int) (M.eT l nn s0 s1) (fun mm s=>M.eT l mm s.1 s.2) nn (s0,s1) [0] [] (fun s _ _ _ _ _ _ e=>(3,tS.is s.1)::(4,I6.is s.2)::e) z7 (fun _=>M.eT.eq_1 ..) (fun _ _=>M.eT.eq_2 ..)
abbrev S9:=fun (l:List af)(nn:Nat)(s0:(List af))(s1:Int)=>mkLp (τ:=(List af)×Int) (M.iM l nn s0 s1) (fun mm s=>M.iM l mm s.1 s.2) nn (s0,s1) [0] [] (fun s k1 _ _ _ _ _ e=>(3,tO aj k1 s.1)::(4,I6.is s.2)::e) (fun s k1 _ _ _ _ _ e=>(5,Dec.Own aj 98 k1 s.1.length)::e) (fun _=>M.iM.eq_1 ..) (fun _ _=>M.iM.eq_2 ..)
attribute [instance] U1 U2 U3 U6 U7 SX SY S9
instance Ra(n:Nat)(a:List ax)(b:List ax)(r:Bool):z1 104 (M.wy n a b=some r) [(tL bu).is a,(tL bu).is b] (tB.is r):=.fx Tryz.call104 Tryz.func104 (M.wy.eq_1 ..)
instance Rb(n:Nat)(a:List Str)(b:List Str)(r:Bool):z1 105 (M.wz n a b=some r) [(tL tS).is a,(tL tS).is b] (tB.is r):=.fx Tryz.call105 Tryz.func105 (M.wz.eq_1 ..)
instance Rc(n:Nat)(a:List af)(b:List af)(r:Bool):z1 198 (M.tH n a b=some r) [(tL aj).is a,(tL aj).is b] (tB.is r):=.fx Tryz.call198 Tryz.func198 (M.tH.eq_1 ..)
instance Re(s0_:ax)(r:Bool):z1 107 (M.wB s0_=some r) [bu.is s0_] (tB.is r):=.fx Tryz.call107 Tryz.func107 (M.wB.eq_1 ..)
instance Rf(n:Nat)(s0_:Str)(r:Bool):z1 54 (M.tK n s0_=some r) [tS.is s0_] (tB.is r):=.fx Tryz.call54 Tryz.func54 (M.tK.eq_1 ..)
instance Rh(n:Nat)(s0_:Str)(r:Bool):z1 316 (M.xD n s0_=some r) [tS.is s0_] (tB.is r):=.fx Tryz.call316 Tryz.func316 (M.xD.eq_1 ..)
instance PG(parent:Int)(kind:Int)(r:Bool):z1 84 (M.rP parent kind=some r) [I6.is parent,I6.is kind] (tB.is r):=.fx Tryz.call84 Tryz.func84 (M.rP.eq_1 ..)
instance PH:∀ (n:Nat) (u:aa) (r:Int),z1 86 (M.lQ n u=some r) [ae.is u] (I6.is r):=by
 intro n;induction n with
 | zero=>exact fun _ _=>⟨Tryz.call86,fun hm=>by cases hm⟩
 | succ n ih=>
  intro u r;refine SpC.of Tryz.call86 Tryz.func86 X X fun g0 hm=>?_;rw [M.lQ.eq_2] at hm;exact Fx hm
instance PI(r:List Str):z1 290 (M.Bb=some r) [] ((tL tS).is r):=.fx Tryz.call290 Tryz.func290 (M.Bb.eq_1 ..)
instance PK(n:Nat)(l:List af)(r:Str):z1 291 (M.uL n l=some r) [(tL aj).is l] (tS.is r):=.fx Tryz.call291 Tryz.func291 (M.uL.eq_1 ..)
instance xZ(n:Nat)(l:List af)(r:List af):z1 201 (M.uM n l=some r) [(tL aj).is l] ((tL aj).is r):=.fx Tryz.call201 Tryz.func201 (M.uM.eq_1 ..)
instance EL(kind:Int)(r:Bool):z1 14 (M.jS kind=some r) [I6.is kind] (tB.is r):=.fx Tryz.call14 Tryz.func14 (M.jS.eq_1 ..)
instance JB(where0_:Int)(r:Bool):z1 209 (M.lq where0_=some r) [I6.is where0_] (tB.is r):=.fx Tryz.call209 Tryz.func209 (M.lq.eq_1 ..)
abbrev U8:=fun (a:aa)(b:aa)(slf:aa->aa->Option Bool)(nn:Nat)(s0:Int)=>mkLp (M.iB a b slf nn s0) (fun mm s=>M.iB a b slf mm s) nn s0 [2,3] [] (fun s _ _ _ _ _ _ e=>(5,I6.is s)::e) z7 (fun _=>M.iB.eq_1 ..) (fun _ _=>M.iB.eq_2 ..)
abbrev VK:=fun (l:List af)(nn:Nat)(s0:Int)=>mkLp (M.jZ l nn s0) (fun mm s=>M.jZ l mm s) nn s0 [0] [] (fun s _ _ _ _ _ _ e=>(3,I6.is s)::e) z7 (fun _=>M.jZ.eq_1 ..) (fun _ _=>M.jZ.eq_2 ..)
abbrev PM:=fun (slf:aa->Option aa)(nn:List aa)(s0:List aa)=>mkRg (τ:=List aa) (M.bU slf nn s0) (fun mm jj s=>M.bU slf mm s) nn s0 17 [1,2,15,16] [1,2] (fun s k1 _ _ _ _ _ e=>(3,tO ae k1 s)::e) (fun s k1 _ _ _ _ _ e=>(3,Dec.Own ae 27 k1 s.length)::e) (fun _ _=>M.bU.eq_1 ..) (fun _ _ _ _=>M.bU.eq_2 ..)
abbrev L6:=fun (way:List aa)(nn:Nat)(s0:(List ai))(s1:Int)=>mkLp (τ:=(List ai)×Int) (M.bO way nn s0 s1) (fun mm s=>M.bO way mm s.1 s.2) nn (s0,s1) [6] [] (fun s k1 _ _ _ _ _ e=>(5,tO aB k1 s.1)::(7,I6.is s.2)::e) (fun s k1 _ _ _ _ _ e=>(5,Dec.Own aB 23 k1 s.1.length)::e) (fun _=>M.bO.eq_1 ..) (fun _ _=>M.bO.eq_2 ..)
abbrev Nh:=fun (slf:aa->Int->Option (Bool×Int))(nn:List aa)(s0:Int)=>mkRg (M.eF slf nn s0) (fun mm jj s=>M.eF slf mm s) nn s0 14 [1,12,13] [] z7 (fun s _ _ _ b1 _ _ e=>(500100,Bx 1 false 3 (I6.is s) b1)::e) (fun _ _=>M.eF.eq_1 ..) (fun _ _ _ _=>M.eF.eq_2 ..)
attribute [instance] U8 VK PM L6 Nh
instance Ri:∀ (n:Nat) (a:aa) (b:aa) (r:Bool),z1 106 (M.qa n a b=some r) [ae.is a,ae.is b] (tB.is r):=by
  intro n;induction n with
  | zero=>exact fun _ _ _=>⟨Tryz.call106,fun hm=>by cases hm⟩
  | succ n ih=>intro a b r;refine SpC.of Tryz.call106 Tryz.func106 X X fun g0 hm=>?_;rw [M.qa.eq_2] at hm;exact Fx hm
instance PL(n:Nat)(s0_:fZ)(r:Bool):z1 55 (M.rO n s0_=some r) [lM.is s0_] (tB.is r):=.fx Tryz.call55 Tryz.func55 (M.rO.eq_1 ..)
instance Ta(n:Nat)(l:List af)(r:Bool):z1 289 (M.yE n l=some r) [(tL aj).is l] (tB.is r):=.fx Tryz.call289 Tryz.func289 (M.yE.eq_1 ..)
end
theorem Dl:∀ (n:Nat) (u:aa) (r:aa),M.oW n u=some r->FSpec Tryz.prog 110 [ae.is u] (ae.is r):=by
 intro n;induction n with
 | zero=>intro u r hm;cases hm
 | succ n ih=>
  intro u r hm;rw [M.oW.eq_2] at hm;refine FSpec.of Tryz.func110 X X X fun g0=>Aw<|Co .box<|Cr (OpR.alloc 2 vQ) fun b=>An<|W.seq ?_;obtain ⟨bared,hv1,hm⟩:=Bs hm;obtain ⟨bared1,hv2,hm⟩:=Bs hm;refine W.wR [(2,(Bx 8 true 27 ((aZ none).is au) b))]<|W.dM [.c (I6.ptr u.Kind),.c (I6.is u.Kind),.c (tS.ptr u.Label),.c (tS.is u.Label),.c ((tL aj).ptr u.Head),.c ((tL aj).is u.Head),.c ((tL aj).is bared),.c ((tL aj).ptr u.Words),.c ((tL aj).is u.Words),.c ((tL aj).is bared1),.c ((aZ none).is (⟨aF,u.Kind,u.Label,bared,bared1,([]:List aa)⟩:aa)),.f (fun cv=>(Bp (bk (cv 0)) 0)),.c Asn.any] [([],[1]),([0],[]),([],[1]),([2],[]),([],[1]),([4],[]),([5],[]),([],[1]),([7],[]),([8],[]),([1,3,6,9],[]),([],[]),([10,11],[])] [11,12] [[],[],[],[],[],[],[],[],[],[],[],[true],[]] (fun m cv=>match m with | 0=>[(2,(Bx 8 true 27 ((aZ none).is au) b))] | 1=>[(3,(Bx 8 true 27 ((aZ none).is au) (bk (cv 0)))),(2,(Bx 8 true 27 ((aZ none).is au) b))] | _=>[(3,(Bx 8 true 27 ((aZ none).is (⟨aF,u.Kind,u.Label,bared,bared1,([]:List aa)⟩:aa)) (bk (cv 0)))),(2,(Bx 8 true 27 ((aZ none).is au) b))]) Mx ⟨mo fun cv=>.fA U27 J3 He.h,mo fun cv=>.load ty3.h,mo fun cv=>.fA U27 J9 Hf.h,mo fun cv=>.load ty9.h,mo fun cv=>.fA U27 J24 xL.h,mo fun cv=>.load ty24.h,mo fun cv=>.call C201 ((xZ _ _ _).h hv1) ⟨.r,trivial⟩,mo fun cv=>.fA U27 J24 xM.h,mo fun cv=>.load ty24.h,mo fun cv=>.call C201 ((xZ _ _ _).h hv2) ⟨.r,trivial⟩,mo fun cv=>.build (s:=(aZ none)) (x:=(⟨aF,u.Kind,u.Label,bared,bared1,([]:List aa)⟩:aa)) xO X U27 (Ai _ U27) vQ ⟨_,I6,u.Kind,_,_,X,Z3,.r,(Db none),_,tS,u.Label,_,_,X,Z9,.r,(Dc none),_,(tL aj),bared,_,_,X,Z24,.r,(De none),_,(tL aj),bared1,_,_,X,Z24,.r,(Df none),X⟩,.inl X,.inl X,trivial⟩ ⟨⟨_,_,_,[],(fun cv=>[(3,(Bx 8 true 27 ((aZ none).is au) (bk (cv 0))))]),X,X,X,X,fun _=>X,fun _ _=>X,fun cv=>OpR.viaB (OpR.alloc 3 vQ)⟩,⟨_,_,_,[3],(fun cv=>[(3,(Bx 8 true 27 ((aZ none).is (⟨aF,u.Kind,u.Label,bared,bared1,([]:List aa)⟩:aa)) (bk (cv 0))))]),X,X,X,X,fun _=>X,fun _ _=>X,fun cv=>OpR.viaU (OpR.storeB (b:=(bk (cv 0))) 3 Z27 (aN.is (aZ none) (⟨aF,u.Kind,u.Label,bared,bared1,([]:List aa)⟩:aa)) X)⟩,trivial⟩ fun cv=>WN.addNil (t:=ae) (E:=27) 1000003<|Aq<|W.seq<|Aw<|Co (.assign .i64)<|An<|W.block ?_;obtain ⟨s3,hs4,hk5⟩:=Bs hm;clear hm;refine W.lp (fun m (s:(Int×aa)×Tok)=>M.jM u (M.oW n) m s.1.1 s.1.2=some s3) (fun s=>[(4,(I6.is s.1.1)),(1,(ae.ptr u)),(2,(Bp b 0)),(3,(Bp (bk (cv 0)) 0))]) (fun s=>[(1000003,Dec.Own ae 27 s.2 s.1.2.Kids.length),(3,(Bx 8 true 27 ((aZ s.2).is s.1.2) (bk (cv 0)))),(2,(Bx 8 true 27 ((aZ none).is au) b))]) _ (((0:Int),(⟨aF,u.Kind,u.Label,bared,bared1,([]:List aa)⟩:aa)),(none:Tok)) hs4 ?_;rintro n6 ⟨⟨i,out⟩,k⟩ hm;try dsimp only at hm
  cases n6 with
  | zero=>rw [M.jM.eq_1] at hm;cases hm
  | succ n6=>
   rw [M.jM.eq_2] at hm;refine W.seq<|Aw<|Cm X<|Co (.fA U27 J25 ib.h)<|Co (.load ty25.h)<|Co (.nM U25)<|Co .ltI<|An<|W.cD hm .r (fun hp8 hm=>?_) (fun hp8 hm=>?_)
   ·refine W.skip<|Aq<|W.seq<|W.block ?_;obtain ⟨v,hv9,hm⟩:=Bs hm;obtain ⟨strip,hv10,hm⟩:=Bs hm;obtain ⟨out1,hv11,hm⟩:=Bs hm;exact W.wR [(1000003,Dec.Own ae 27 k out.Kids.length),(3,(Bx 8 true 27 ((aZ k).is out) (bk (cv 0)))),(2,(Bx 8 true 27 ((aZ none).is au) b))]<|W.dM [.c (Bp (bk (cv 0)) 7),.c (tO ae k out.Kids),.c ((tL ae).ptr u.Kids),.c ((tL ae).is u.Kids),.c (I6.is i),.c (ae.ptr v),.c (ae.is v),.c (ae.is strip),.c ((tL ae).is [strip]),.f (fun cv1=>(tO ae (cv1 0) out1)),.c (Bp (bk (cv 0)) 7),.c Asn.any] [([],[3]),([0],[]),([],[1]),([2],[]),([],[4]),([3,4],[]),([5],[]),([6],[]),([7],[]),([1,8],[]),([],[3]),([9,10],[])] [9,11] [[],[],[],[],[],[],[],[],[],[true],[],[]] (fun m cv1=>match m with | 0=>[(1000003,Dec.Own ae 27 k out.Kids.length),(3,(Bx 8 true 27 ((aZ k).is out) (bk (cv 0)))),(2,(Bx 8 true 27 ((aZ none).is au) b))] | 1=>[(1000003,Dec.Own ae 27 (cv1 0) out1.length),(3,(Bx 8 true 27 ((aZ k).is out) (bk (cv 0)))),(2,(Bx 8 true 27 ((aZ none).is au) b))] | _=>[(3,(Bx 8 true 27 ((aZ (cv1 0)).is ({out with Kids:=out1}:aa)) (bk (cv 0)))),(1000003,Dec.Own ae 27 (cv1 0) out1.length),(2,(Bx 8 true 27 ((aZ none).is au) b))]) Mx ⟨mo fun cv1=>Op1.fieldAddrB (o:=0) U27 X J25 .r X,.inr ⟨fun cv1=>[(3,(Bx 8 true 27 ((aZ k).is out) (bk (cv 0))))],(jm.at ⟨⟨(fun _ _=>⟨X,X,trivial⟩),(nn)⟩,(nn)⟩),fun cv1=>Op1.ofOT (Op1.fV (t:=(tOT ae k)) (f:=fun x:aa=>x.Kids) (u:=out) 3 X ⟨ty25.h.agg,ty25.h.size⟩ (Dg k) X)⟩,mo fun cv1=>Op1.fA U27 J25 ib.h .r,mo fun cv1=>Op1.load ty25.h .r,mo fun cv1=>Op1.move .r,mo fun cv1=>Op1.idx hv9 U25 Z27 .r .r,mo fun cv1=>Op1.load ty27.h .r,mo fun cv1=>Op1.call C110 (ih _ _ hv10) ⟨.r,trivial⟩,mo fun cv1=>Op1.buildSlice (n:=1) (ys:=[(0,strip)]) (z:=au) (xs:=[strip]) U25 el27.h ze27.h ⟨X,.r,trivial⟩ (by simp) (by decide) X,.inl X,mo fun cv1=>Op1.fieldAddrB (o:=0) U27 X J25 .r X,.inl X,trivial⟩ ⟨⟨_,_,_,[1000003],(fun cv1=>[(1000003,Dec.Own ae 27 (cv1 0) out1.length)]),X,X,X,X,fun _=>X,fun _ _=>X,fun cv1=>OpR.appC (key:=1000003) hv11 U25 el27.h .r .r X⟩,⟨_,_,_,[3],(fun cv1=>[(3,(Bx 8 true 27 ((aZ (cv1 0)).is ({out with Kids:=out1}:aa)) (bk (cv 0))))]),X,X,X,X,fun _=>X,fun _ _=>X,fun cv1=>OpR.viaU (OpR.storeBFT (b:=(bk (cv 0))) (s:=(aZ k)) (s':=(aZ (cv1 0))) (t:=(tOT ae (cv1 0))) 3 X X ⟨ty25.h.agg,ty25.h.size⟩ (Ej k (cv1 0)) X (show 7+1<=8 by decide) .r (Opd.WH .r))⟩,trivial⟩ fun cv1=>WN.block<|Aq<|W.region<|Cm X<|WL.nM (s:=18) .r fun hl12=>Co (.addI1 .r .i64 hp8 hl12)<|Cg X<|WL.nil<|WN.ag n6 ((i+1,({out with Kids:=out1}:aa)),(cv1 0)) (Nat.lt_succ_self n6) hm
   ·refine W.exit X ?_;have hr13:=Si hm;clear hm;subst hr13;have hm:=hk5;try dsimp only at hm
    refine Aq<|Aw<|Co (.mP 3 Y27 Z27 X)<|WL.opU (OpR.storeB (b:=b) 2 Z27 (aN.is ae out) X .r (Opd.leT (El k) .r)) fun _=>WL.ns ?_;cases hm;exact W.retQ1 () X (ResAt.cell 2 Y27 Z27 X .r) trivial
instance Tc(n:Nat)(u:aa)(r:aa):z1 110 (M.oW n u=some r) [ae.is u] (ae.is r):=⟨Tryz.call110,fun hm=>Dl n u r hm⟩
section
attribute [local irreducible] W WL WN DM Op1 OpR Opd Dep
instance FQ(n:Nat)(s0_:Str)(f:Int->Option Bool)(r:Int):z1 279 (M.strings_IndexFunc n s0_ f=some r) [tS.is s0_,(tF Tryz.prog (fun s:Int×Bool=>f s.1=some s.2) (fun s:Int×Bool=>[(tI .i32).is s.1]) (fun s:Int×Bool=>(tB.is s.2)))] (I6.is r):=.fx Tryz.call279 Tryz.func279 (M.strings_IndexFunc.eq_1 ..)
end
theorem x8(x:aa)(c:List ax)(c1:List aa)(b:Nat)(k:Tok)(r:List aa)(hm:M.om x c c1=some r):aT Tryz.prog 204 [ae.is x,(tL bu).ptr c,Bp b 0] [(2,Bx 1 false 25 (tO ae k c1) b),(1000002,Dec.Own ae 27 k c1.length)] (fun kx:Tok=>(Asn.eq (.tuple #[]))) (fun kx:Tok=>[(2,Bx 1 false 25 (tO ae kx r) b),(1000002,Dec.Own ae 27 kx r.length)]):=by
 unfold M.om at hm;refine aT.of Tryz.func204 X X X fun g0=>Aw<|Ao X (.box (.t X))<|An<|W.seq ?_;obtain ⟨v,hv1,hm⟩:=Bs hm;obtain ⟨called,hv2,hm⟩:=Bs hm;refine W.draw [.c _,.c _,.c _,.c _,.c _] [([],[3]),([],[1]),([1],[]),([2],[]),([0,3],[])] Mx X X X X ⟨Dn (.load ty27.h (.t X)),Dn (.load ty44.h (.t X)),Dn (.idx hv1 U44 Z70 (.t X) .i64),Dn (.load ty70.h (.t X)),Dn (.call C205 ((uq _ _ _).h hv2) ⟨(.t X),(.t X),trivial⟩),trivial⟩<|Aq<|W.cB hm (.t X) (fun hp4 hm=>?_) (fun hp4 hm=>?_)
 ·obtain ⟨out,hv5,hm⟩:=Bs hm;refine W.weakR (res':=[(1000002,Dec.Own ae 27 k c1.length),(2,(Bx 1 false 25 (tO ae k c1) b))]) ⟨X,X,X,X,trivial⟩<|W.drawS [.c (tO ae k c1),.c (ae.is x),.c (I6.is (c1.length:Int)),.c ((tL ae).is ([(⟨(⟨(0:Int),(0:Int),(0:Int)⟩:ai),(0:Int),([]:Str),([]:List af),([]:List af),([]:List aa)⟩:aa)])),.f (fun cv=>(rawS (cv 0) (c1.length+1))),.f (fun cv=>(Bp (bk (cv 0)) (c1.length*ae.size))),.c Asn.any,.c Asn.any] [([],[2]),([],[3]),([0],[]),([],[]),([0,3],[]),([2,4],[]),([1,5],[]),([4],[2])] [4,6,7] [[],[],[],[],[true],[true],[],[]] (fun mk cv=>match mk with | [false,false,false]=>[(1000002,Dec.Own ae 27 k c1.length),(2,(Bx 1 false 25 (tO ae k c1) b))] | [true,false,false]=>[(1000002,Resv ae 27 (cv 0) c1),(2,(Bx 1 false 25 (tO ae k c1) b))] | [true,true,false]=>[(1000002,Grown ae 27 (cv 0) out),(2,(Bx 1 false 25 (tO ae k c1) b))] | [true,false,true]=>[(1000002,Resv ae 27 (cv 0) c1),(2,(Bx 1 false 25 (rawS (cv 0) (c1.length+1)) b))] | _=>[(1000002,Grown ae 27 (cv 0) out),(2,(Bx 1 false 25 (rawS (cv 0) (c1.length+1)) b))]) (fun _=>none) Mx X X X X X ⟨fun _ _ _ _=>X,fun _ _ _ _=>X,fun _ _ _ _=>X,fun _ _ _ _=>X,fun m hm c t=>by simp only [DA.at,uu (r:=[true]) (j:=0) X hm],fun m hm c t=>by simp only [DA.at,uu (r:=[true]) (j:=0) X hm],fun _ _ _ _=>X,fun _ _ _ _=>X,trivial⟩ X ⟨.inr ⟨fun cv=>[(2,(Bx 1 false 25 (tO ae k c1) b))],⟨fun _ _=>⟨X,X,trivial⟩,nn,nn,nn,nn,nn,nn,nn,trivial⟩,fun cv=>Op1.mP 2 Y25 Z25 X (.t X)⟩,.inr ⟨fun cv=>[],(AllIn.all (fun _ _ _=>trivial) _),fun cv=>Op1.load ty27.h (.t X)⟩,.inr ⟨fun cv=>[],(AllIn.all (fun _ _ _=>trivial) _),fun cv=>Op1.nM U25 (Opd.own (.t X))⟩,.inr ⟨fun cv=>[],(AllIn.all (fun _ _ _=>trivial) _),fun cv=>Op1.buildSlice (n:=1) (ys:=[(0,(⟨(⟨(0:Int),(0:Int),(0:Int)⟩:ai),(0:Int),([]:Str),([]:List af),([]:List af),([]:List aa)⟩:aa))]) (z:=au) (xs:=[(⟨(⟨(0:Int),(0:Int),(0:Int)⟩:ai),(0:Int),([]:Str),([]:List af),([]:List af),([]:List aa)⟩:aa)]) U25 el27.h ze27.h ⟨X,(fun _ _ _=>⟨_,(nD.into.rep _ _ _ ⟨_,_,X,⟨_,_,X,⟨X,inR64.2 ⟨by decide,by decide⟩⟩,_,_,X,⟨X,inR64.2 ⟨by decide,by decide⟩⟩,X,inR64.2 ⟨by decide,by decide⟩⟩,_,_,X,⟨X,inR64.2 ⟨by decide,by decide⟩⟩,_,_,X,⟨X,by decide⟩,_,_,X,⟨none,0,X,Nat.le_refl _,Nat.zero_le _,fun _=>X,X⟩,_,_,X,⟨none,0,X,Nat.le_refl _,Nat.zero_le _,fun _=>X,X⟩,none,0,X,Nat.le_refl _,Nat.zero_le _,fun _=>X,X⟩),X⟩),trivial⟩ (by simp) (by decide) X⟩,.inl X,.inr ⟨fun cv=>[],(AllIn.all (fun _ _ _=>trivial) _),fun cv=>Op1.rawIdx (t:=ae) U25 Z27 (.t X) (.t X)⟩,.inl X,.inl X,trivial⟩ ⟨⟨_,_,_,X,X,X,X,fun _ _=>⟨[1000002],(fun cv=>[(1000002,Resv ae 27 (cv 0) c1)]),(fun cv=>⟨X,X,X,X,trivial⟩),(fun _ _=>X),fun cv=>OpR.appendZC (key:=1000002) hv5 U25 el27.h (.t X) (.t X) X⟩,fun h _=>absurd h (by decide),fun _ h=>absurd h (by decide),fun h _=>absurd h (by decide),fun _ h=>absurd h (by decide),fun h _=>absurd h (by decide),fun _ h=>absurd h (by decide),fun h _=>absurd h (by decide),trivial⟩,⟨_,_,_,X,X,X,X,fun _ h=>absurd h (by decide),fun _ _=>⟨[1000002],(fun cv=>[(1000002,Grown ae 27 (cv 0) out)]),(fun cv=>⟨X,X,X,X,trivial⟩),(fun _ _=>X),fun cv=>OpR.viaU (OpR.storeEl (k:=(cv 0)) (key:=1000002) hv5 ty27.h (.t X) (.t X) X)⟩,fun h _=>absurd h (by decide),fun h _=>absurd h (by decide),fun _ h=>absurd h (by decide),fun _ _=>⟨[1000002],(fun cv=>[(1000002,Grown ae 27 (cv 0) out)]),(fun cv=>⟨X,X,X,X,trivial⟩),(fun _ _=>X),fun cv=>OpR.viaU (OpR.storeEl (k:=(cv 0)) (key:=1000002) hv5 ty27.h (.t X) (.t X) X)⟩,fun h _=>absurd h (by decide),fun h _=>absurd h (by decide),trivial⟩,⟨_,_,_,X,X,X,X,fun _ h=>absurd h (by decide),fun _ _=>⟨[2],(fun cv=>[(2,(Bx 1 false 25 (rawS (cv 0) (c1.length+1)) b))]),(fun cv=>⟨X,X,X,X,trivial⟩),(fun _ _=>X),fun cv=>OpR.viaU (OpR.storeB (b:=b) 2 Z25 (aN.raw (cv 0) _) X (.t X) (.t X))⟩,fun _ h=>absurd h (by decide),fun _ _=>⟨[2],(fun cv=>[(2,(Bx 1 false 25 (rawS (cv 0) (c1.length+1)) b))]),(fun cv=>⟨X,X,X,X,trivial⟩),(fun _ _=>X),fun cv=>OpR.viaU (OpR.storeB (b:=b) 2 Z25 (aN.raw (cv 0) _) X (.t X) (.t X))⟩,fun h _=>absurd h (by decide),fun h _=>absurd h (by decide),fun h _=>absurd h (by decide),fun h _=>absurd h (by decide),trivial⟩,trivial⟩ fun cv=>WN.grown 2 1000002 (by decide) X X (OV hv5) ?_;have hr:=Si hm;clear hm;subst hr;exact WN.fin (cv 0) X (fun _=>X) ⟨X,X,X,X,trivial⟩
 ·refine W.skip ?_;have hr:=Si hm;clear hm;subst hr;exact WN.fin k X (fun _=>X) ⟨X,X,X,X,trivial⟩
instance Kg(x:aa)(c:List ax)(c1:List aa)(r:List aa):z6 204 (M.om x c c1=some r) (fun b _ k _=>[ae.is x,(tL bu).ptr c,Bp b 0]) (fun b _ k _=>[(2,Bx 1 false 25 (tO ae k c1) b),(1000002,Dec.Own ae 27 k c1.length)]) _ (fun b _ k _=>(fun kx:Tok=>(Asn.eq (.tuple #[])))) (fun b _ k _=>(fun kx:Tok=>[(2,Bx 1 false 25 (tO ae kx r) b),(1000002,Dec.Own ae 27 kx r.length)])):=⟨Tryz.call204,fun hm b _ k _=>x8 x c c1 b k r hm⟩
section
attribute [local irreducible] W WL WN DM Op1 OpR Opd Dep
instance Bh:∀ (n:Nat) (u:aa) (r:aa),z1 62 (M.fO n u=some r) [ae.is u] (ae.is r):=by
  intro n;induction n with
  | zero=>exact fun _ _=>⟨Tryz.call62,fun hm=>by cases hm⟩
  | succ n ih=>intro u r;refine SpC.of Tryz.call62 Tryz.func62 X X fun g0 hm=>?_;rw [M.fO.eq_2] at hm;exact Fx hm [5,1000001]
end
theorem zF(n:Nat)(k:aa)(c:ai)(r:Bool)(hm:M.o6 n k c=some r):FSpec Tryz.prog 207 [ae.is k,aB.ptr c] (tB.is r):=by
 unfold M.o6 at hm;refine FSpec.of Tryz.func207 X X X fun g0=>Aw<|Co .box<|Co (.assign .bool)<|Ar<|Co (.load ty27.h)<|Co (.load ty23.h) ?_;obtain ⟨way,hv1,hm⟩:=Bs hm;refine Co (.call C61 (zf _ _ _ _ hv1) ⟨.r,.r,trivial⟩)<|Co (.neNil U25)<|Cg X<|WL.ns ?_;cases hm;exact W.e1
instance Ng(n:Nat)(k:aa)(c:ai)(r:Bool):z1 207 (M.o6 n k c=some r) [ae.is k,aB.ptr c] (tB.is r):=⟨Tryz.call207,fun hm=>zF n k c r hm⟩
section
attribute [local irreducible] W WL WN DM Op1 OpR Opd Dep
instance JC(n:Nat)(u:aa)(id:ai)(r:List ai):z1 214 (M.iC n u id=some r) [ae.is u,aB.is id] ((tL aB).is r):=.fx Tryz.call214 Tryz.func214 (M.iC.eq_1 ..)
instance zG(n:Nat)(s0_:List ai)(v:ai)(r:Bool):z1 123 (M.dK n s0_ v=some r) [(tL aB).is s0_,aB.is v] (tB.is r):=.fx Tryz.call123 Tryz.func123 (M.dK.eq_1 ..)
instance qW(s0_:av)(w:List af)(r:(List af)×av):z6 268 (M.jI s0_ w=some r) (fun b _ _ _=>[Bp b 0,(tL aj).is w]) (fun b _ _ _=>[(0,Bx 4 true 188 (aP.is s0_) b)]) _ (fun b _ _ _=>(fun kx:Unit=>((tL aj).is r.1))) (fun b _ _ _=>(fun kx:Unit=>[(0,Bx 4 true 188 (aP.is r.2) b)])):=.fx Tryz.call268 Tryz.func268 (M.jI.eq_1 ..)
instance Cf(n:Nat)(s0_:List Int)(v:Int)(r:Bool):z1 257 (M.jh n s0_ v=some r) [(tL I6).is s0_,I6.is v] (tB.is r):=.fx Tryz.call257 Tryz.func257 (M.jh.eq_1 ..)
instance wZ(n:Nat)(s0_:List aa)(f:aa->Option Bool)(r:Bool):z1 212 (M.bT n s0_ f=some r) [(tL ae).is s0_,(tF Tryz.prog (fun s:aa×Bool=>f s.1=some s.2) (fun s:aa×Bool=>[ae.is s.1]) (fun s:aa×Bool=>(tB.is s.2)))] (tB.is r):=.fx Tryz.call212 Tryz.func212 (M.bT.eq_1 ..)
instance Kh:∀ (n:Nat) (u:aa) (c:Int) (r:Bool×Int),z6 215 (M.kS n u c=some r) (fun b _ _ _=>[ae.is u,cloA 216 [Bp b 0]]) (fun b _ _ _=>[(500100,Bx 1 false 3 (I6.is c) b)]) _ (fun b _ _ _=>(fun kx:Unit=>(tB.is r.1))) (fun b _ _ _=>(fun kx:Unit=>[(500100,Bx 1 false 3 (I6.is r.2) b)])):=by
  intro n;induction n with
  | zero=>exact fun _ _ _=>⟨Tryz.call215,fun hm=>by cases hm⟩
  | succ n ih=>intro u c r;refine SpR.of Tryz.call215 Tryz.func215 X (fun _ _ _ _=>X) fun b _ _ _ g0 hm=>?_;rw [M.kS.eq_2] at hm;exact Fx hm [6]
abbrev Td:=fun (u:aa)(act:Int)(item:Int)(n0_:Int)(mark:List af)(mark1:List af)(slf:aa->Int->Int->Int->Int->Option (aa×Int×Int))(nn:Nat)(s0:Int)(s1:Int)(s2:(List aa))(s3:Int)=>mkLp (τ:=Int×Int×(List aa)×Int) (M.iW u act item n0_ mark mark1 slf nn s0 s1 s2 s3) (fun mm s=>M.iW u act item n0_ mark mark1 slf mm s.1 s.2.1 s.2.2.1 s.2.2.2) nn (s0,s1,s2,s3) [1,2,5,10] [5,10] (fun s k1 _ _ _ _ _ e=>(3,I6.is s.1)::(4,I6.is s.2.1)::(13,tO ae k1 s.2.2.1)::(14,I6.is s.2.2.2)::e) (fun s k1 _ _ _ _ _ e=>(49,Dec.Own ae 27 k1 s.2.2.1.length)::e) (fun _=>M.iW.eq_1 ..) (fun _ _=>M.iW.eq_2 ..)
abbrev Rj:=fun (w:List af)(row:List Str)(nn:Nat)(s0:(List Int))(s1:Int)=>mkLp (τ:=(List Int)×Int) (M.dW w row nn s0 s1) (fun mm s=>M.dW w row mm s.1 s.2) nn (s0,s1) [0,1] [] (fun s k1 _ _ _ _ _ e=>(5,tO I6 k1 s.1)::(6,I6.is s.2)::e) (fun s k1 _ _ _ _ _ e=>(7,Dec.Own I6 3 k1 s.1.length)::e) (fun _=>M.dW.eq_1 ..) (fun _ _=>M.dW.eq_2 ..)
abbrev Va:=fun (a:aa)(b:aa)(slf:aa->aa->Option Bool)(nn:Nat)(s0:Int)=>mkLp (M.jF a b slf nn s0) (fun mm s=>M.jF a b slf mm s) nn s0 [2,3] [] (fun s _ _ _ _ _ _ e=>(5,I6.is s)::e) z7 (fun _=>M.jF.eq_1 ..) (fun _ _=>M.jF.eq_2 ..)
abbrev Vb:=fun (a:ah)(b:ah)(slf:ah->ah->Option Bool)(nn:Nat)(s0:Int)=>mkLp (M.ko a b slf nn s0) (fun mm s=>M.ko a b slf mm s) nn s0 [2,3] [] (fun s _ _ _ _ _ _ e=>(5,I6.is s)::e) z7 (fun _=>M.ko.eq_1 ..) (fun _ _=>M.ko.eq_2 ..)
attribute [instance] Td Rj Va Vb
instance Ki(x:aa)(x1:aa)(r:az):z1 68 (M.pz x x1=some r) [ae.is x,ae.is x1] (aL.is r):=.fx Tryz.call68 Tryz.func68 (M.pz.eq_1 ..)
instance PN:∀ (n:Nat) (u:aa) (act:Int) (item:Int) (n0_:Int) (m0_:Int) (r:aa×Int×Int),z1 168 (M.rU n u act item n0_ m0_=some r) [ae.is u,I6.is act,I6.is item,I6.is n0_,I6.is m0_] (Asn.tuple3 (ae.is r.1) (I6.is r.2.1) (I6.is r.2.2)):=by
 intro n;induction n with
 | zero=>exact fun _ _ _ _ _ _=>⟨Tryz.call168,fun hm=>by cases hm⟩
 | succ n ih=>
  intro u act item n0_ m0_ r;refine SpC.of Tryz.call168 Tryz.func168 X X fun g0 hm=>?_;rw [M.rU.eq_2] at hm;exact Fx hm [1000005]
instance OC(n:Nat)(w:List af)(row:List Str)(r:List Int):z1 90 (M.rC n w row=some r) [(tL aj).is w,(tL tS).is row] ((tL I6).is r):=.fx Tryz.call90 Tryz.func90 (M.rC.eq_1 ..)
instance Rk:∀ (n:Nat) (a:aa) (b:aa) (r:Bool),z1 8 (M.qU n a b=some r) [ae.is a,ae.is b] (tB.is r):=by
 intro n;induction n with
 | zero=>exact fun _ _ _=>⟨Tryz.call8,fun hm=>by cases hm⟩
 | succ n ih=>
  intro a b r;refine SpC.of Tryz.call8 Tryz.func8 X X fun g0 hm=>?_;rw [M.qU.eq_2] at hm;exact Fx hm
instance Eo(x:aa)(c:List af)(r:aa):z1 195 (M.kN x c=some r) [ae.is x,(tL aj).ptr c] (ae.is r):=.fx Tryz.call195 Tryz.func195 (M.kN.eq_1 ..) [1000002]
instance Dm(x:aa)(c:List af)(r:aa):z1 196 (M.jR x c=some r) [ae.is x,(tL aj).ptr c] (ae.is r):=.fx Tryz.call196 Tryz.func196 (M.jR.eq_1 ..) [1000002]
instance Te(n:Nat)(u:aa)(most:Int)(r:Bool):z1 10 (M.uw n u most=some r) [ae.is u,I6.is most] (tB.is r):=.fx Tryz.call10 Tryz.func10 (M.uw.eq_1 ..)
instance Tf(n:Nat)(l:List af)(r:Bool):z1 103 (M.yC n l=some r) [(tL aj).is l] (tB.is r):=.fx Tryz.call103 Tryz.func103 (M.yC.eq_1 ..)
instance Rn:∀ (n:Nat) (a:ah) (b:ah) (r:Bool),z1 51 (M.tJ n a b=some r) [aD.is a,aD.is b] (tB.is r):=by
 intro n;induction n with
 | zero=>exact fun _ _ _=>⟨Tryz.call51,fun hm=>by cases hm⟩
 | succ n ih=>
  intro a b r;refine SpC.of Tryz.call51 Tryz.func51 X X fun g0 hm=>?_;rw [M.tJ.eq_2] at hm;exact Fx hm
end
end Go.Proofs.YtapobcikfdbjiaaGreatDoor
