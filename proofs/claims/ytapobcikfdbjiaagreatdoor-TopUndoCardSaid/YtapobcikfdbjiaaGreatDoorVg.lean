import Derived.Test.YtapobcikfdbjiaaGreatDoorTy
import Derived.Test.YtapobcikfdbjiaaGreatDoorSl
/-
  Instances of what is walked by hand.
-/
set_option linter.unusedVariables false
set_option linter.unusedSimpArgs false
namespace Go.Proofs.YtapobcikfdbjiaaGreatDoor
open Go Go.Dec
set_option maxRecDepth 1000000
set_option maxHeartbeats 4000000
abbrev z1:=SpC Tryz.prog
abbrev z2:=SpG Tryz.prog
abbrev z6:=SpR Tryz.prog
abbrev z7{τ α:Type}:τ->Tok->Tok->Tok->Nat->Nat->Nat->α->α:=fun _ _ _ _ _ _ _ e=>e
abbrev E1:Nat×Res:=(700001,Gl (tA 8 (tL I6)) 1 gv1)
abbrev E4:Nat×Res:=(700004,Gl (tA 8 tS) 4 gv4)
abbrev L0:List (List Nat×List Nat):=[([],[0]),([],[0]),([1],[]),([2],[]),([3],[]),([],[1]),([],[2]),([6],[]),([4,5,7],[]),([0],[]),([9],[]),([8,10],[])]
theorem nn{p q:Prop}[Decidable p](h:¬p:=by decide)(x:p):q:=absurd x h
theorem X{α:Type}{a:α}:a=a:=rfl
abbrev yH:=fun (s0_:List aa)(f:aa->Option Bool)(nn:Nat)(s0:Int)=>mkLp (M.aW s0_ f nn s0) (fun mm s=>M.aW s0_ f mm s) nn s0 [0,1,7] [] (fun s _ _ _ _ _ _ e=>(8,I6.is s)::e) z7 (fun _=>M.aW.eq_1 ..) (fun _ _=>M.aW.eq_2 ..)
abbrev BK:=fun (s0_:List ai)(v:ai)(nn:Nat)(s0:Int)=>mkLp (M.aU s0_ v nn s0) (fun mm s=>M.aU s0_ v mm s) nn s0 [0,3,7] [] (fun s _ _ _ _ _ _ e=>(8,I6.is s)::e) z7 (fun _=>M.aU.eq_1 ..) (fun _ _=>M.aU.eq_2 ..)
abbrev JZ:=fun (nn:List af)(s0:List Str)=>mkRg (τ:=List Str) (M.dJ nn s0) (fun mm jj s=>M.dJ mm s) nn s0 8 [6,7] [] (fun s k1 _ _ _ _ _ e=>(3,tO tS k1 s)::e) (fun s k1 _ _ _ _ _ e=>(3,Dec.Own tS 9 k1 s.length)::e) (fun _ _=>M.dJ.eq_1 ..) (fun _ _ _ _=>M.dJ.eq_2 ..)
abbrev Oi:=fun (act:Int)(item:Int)(from0_:Int)(nn:List Str)(ii:Int)(s0:List af)=>mkRi (τ:=List af) (M.fD act item from0_ nn ii s0) (fun mm jj s=>M.fD act item from0_ mm jj s) nn ii s0 14 [1,2,3,12,13] [] (fun s k1 _ _ _ _ _ e=>(9,tO aj k1 s)::e) (fun s k1 _ _ _ _ _ e=>(9,Dec.Own aj 98 k1 s.length)::e) (fun _ _=>M.fD.eq_1 ..) (fun _ _ _ _=>M.fD.eq_2 ..)
abbrev EF:=fun (s0_:List Int)(v:Int)(nn:Nat)(s0:Int)=>mkLp (M.bH s0_ v nn s0) (fun mm s=>M.bH s0_ v mm s) nn s0 [0,1,7] [] (fun s _ _ _ _ _ _ e=>(8,I6.is s)::e) z7 (fun _=>M.bH.eq_1 ..) (fun _ _=>M.bH.eq_2 ..)
abbrev QX:=fun (slf:aa->Option Int)(nn:List aa)(s0:Int)=>mkRg (M.ji slf nn s0) (fun mm jj s=>M.ji slf mm s) nn s0 9 [7,8] [] (fun s _ _ _ _ _ _ e=>(3,I6.is s)::e) z7 (fun _ _=>M.ji.eq_1 ..) (fun _ _ _ _=>M.ji.eq_2 ..)
attribute [instance] yH BK JZ Oi EF QX
section
attribute [local irreducible] W WL WN DM Op1 OpR Opd Dep
instance Aj(s0_:ax)(r:Bool):z1 161 (M.qz s0_=some r) [bu.is s0_] (tB.is r):=.fx Tryz.call161 Tryz.func161 (M.qz.eq_1 ..)
end
theorem wX(n:Nat)(s0_:Str)(f:Int->Option Bool)(truth:Bool)(r:Int)(hm:M.strings_indexFunc n s0_ f truth=some r):FSpec Tryz.prog 310 [tS.is s0_,(tF Tryz.prog (fun s:Int×Bool=>f s.1=some s.2) (fun s:Int×Bool=>[(tI .i32).is s.1]) (fun s:Int×Bool=>(tB.is s.2))),tB.is truth] (I6.is r):=by
 unfold M.strings_indexFunc at hm;refine FSpec.of Tryz.func310 X X X fun g0=>Aw<|Co (.assign .i64)<|An<|W.seq<|Aw<|Cm X<|Cr (OpR.range 10 U9) fun b=>An<|W.block ?_;obtain ⟨s1,hs2,hk3⟩:=Bs hm;clear hm;refine W.lp (fun m (s:Nat)=>M.dw s0_ f truth m s=some s1) (fun s=>[(1,(tF Tryz.prog (fun s:Int×Bool=>f s.1=some s.2) (fun s:Int×Bool=>[(tI .i32).is s.1]) (fun s:Int×Bool=>(tB.is s.2)))),(2,(tB.is truth)),(10,(Bp b 0))]) (fun s=>[(10,It s0_ s b)]) _ 0 hs2 ?_;rintro n4 v hm;try dsimp only at hm
 cases n4 with
 | zero=>rw [M.dw.eq_1] at hm;cases hm
 | succ n4=>
  rw [M.dw.eq_2] at hm;refine W.sr ?_;by_cases hp5:v<s0_.length
  ·rw [if_pos hp5] at hm;refine Cr (OpR.nextT (b:=b) 10 hp5 X) fun _=>Co .extract30<|An<|W.seq<|W.condT .r<|W.skip<|Aq<|W.block<|Aw<|Co .extract31<|Co .extract32<|Cg X<|Cg X<|Ar<|Cm X<|WL.mv X X ?_;obtain ⟨v1,hv6,hm⟩:=Bs hm;refine Co (.callF (ok:=(fun s:Int×Bool=>f s.1=some s.2)) (As:=(fun s:Int×Bool=>[(tI .i32).is s.1])) (A:=(fun s:Int×Bool=>(tB.is s.2))) (s:=(((runeAt s0_ v).1:Int),v1)) .r hv6 ⟨.r,trivial⟩)<|Cm X<|Co (.eqB U4)<|An<|W.cB hm .r (fun hp8 hm=>?_) (fun hp8 hm=>?_)
   ·refine Aw<|Cm X<|Cg X<|WL.ns ?_;have hr9:=Si hm;clear hm;subst hr9;have hm:=hk3;try dsimp only at hm
    cases hm;exact W.e1
   ·exact W.skip<|WN.block<|WN.ag n4 (v+(runeAt s0_ v).2) (Nat.lt_succ_self n4) hm
  ·rw [if_neg hp5] at hm;refine Co (.nextF 10 hp5 X)<|Co .extract10<|An<|W.seq<|W.condF .r<|W.exit X ?_;have hr10:=Si hm;clear hm;subst hr10;have hm:=hk3;try dsimp only at hm
   refine Aq<|Aw<|Co (.assign .i64)<|WL.ns ?_;cases hm;exact W.e1
instance Ht(n:Nat)(s0_:Str)(f:Int->Option Bool)(truth:Bool)(r:Int):z1 310 (M.strings_indexFunc n s0_ f truth=some r) [tS.is s0_,(tF Tryz.prog (fun s:Int×Bool=>f s.1=some s.2) (fun s:Int×Bool=>[(tI .i32).is s.1]) (fun s:Int×Bool=>(tB.is s.2))),tB.is truth] (I6.is r):=⟨Tryz.call310,fun hm=>wX n s0_ f truth r hm⟩
section
attribute [local irreducible] W WL WN DM Op1 OpR Opd Dep
instance Js(b:Int)(r:Bool):z1 280 (M.mW b=some r) [(tI .i32).is b] (tB.is r):=.fx Tryz.call280 Tryz.func280 (M.mW.eq_1 ..)
instance JY(b:Int)(r:Bool):z1 232 (M.oZ b=some r) [(tI .i32).is b] (tB.is r):=.fx Tryz.call232 Tryz.func232 (M.oZ.eq_1 ..)
instance uq(u:aa)(s0_:ax)(r:Bool):z1 205 (M.mX u s0_=some r) [ae.is u,bu.is s0_] (tB.is r):=.fx Tryz.call205 Tryz.func205 (M.mX.eq_1 ..)
end
theorem zf:∀ (n:Nat) (u:aa) (id:ai) (r:List aa),M.mY n u id=some r->FSpec Tryz.prog 61 [ae.is u,aB.is id] ((tLn ae).is r):=by
 intro n;induction n with
 | zero=>intro u id r hm;cases hm
 | succ n ih=>
  intro u id r hm;rw [M.mY.eq_2] at hm;refine FSpec.of Tryz.func61 X X X fun g0=>Aw<|Co .box<|Co .box<|Co (.assign (.nilN (t:=ae)))<|An<|W.seq<|Aw<|Co (.fA U27 J23 vL.h)<|Co (.load ty23.h)<|Co (.load ty23.h)<|Co (.eqSt (D:=2) X (by decide) eg23 eq23)<|An<|W.cD hm .r (fun hp2 hm=>?_) (fun hp2 hm=>?_)
  ·refine Aw<|Co (.load ty27.h)<|Co (.buildSlice (n:=1) (ys:=[(0,u)]) (z:=au) (xs:=[u]) U25 el27.h ze27.h ⟨X,.r,trivial⟩ (by simp) (by decide) X)<|Cg X<|WL.ns ?_;obtain ⟨_,hz3,hm⟩:=Bs hm;cases hm;exact W.ret1 () X (Opd.asLn (OQ hz3) .r) trivial
  ·refine W.skip<|Aq<|W.seq<|Aw<|Co (.fA U27 J25 ib.h)<|Co (.load ty25.h)<|Co (.nM U25)<|Co (.move .i64)<|An<|W.block ?_;obtain ⟨s5,hs6,hk7⟩:=Bs hm;clear hm;refine W.lp (fun m (s:Int×List aa×List aa×Unit)=>m=s.2.2.1.length/\u.Kids=s.2.1++s.2.2.1/\s.1=(s.2.1.length:Int)/\M.ku u id (M.mY n) s.2.2.1=some s5) (fun s=>[(17,(I6.is s.1)),(2,(ae.ptr u)),(3,(aB.ptr id)),(15,((tL ae).is u.Kids)),(16,(I6.is (u.Kids.length:Int)))]) (fun s=>[]) u.Kids.length ((0:Int),[],u.Kids,()) ⟨X,X,X,hs6⟩ ?_;rintro m ⟨i,pre,rest1,_⟩ ⟨hn11,hxs8,hi9,hm⟩;try dsimp only at hn11 hxs8 hi9 hm
   refine W.nM (s:=15) .r fun hlen10=>Aw<|Co .ltI<|An<|W.seq<|W.cond .r (fun hc13=>?_) (fun hc13=>?_)
   ·have hp14:=of_decide_eq_true hc13;obtain ⟨e,es,hrest16⟩:=mD hxs8 hi9 hp14;subst hrest16;rw [M.ku.eq_2] at hm;refine W.skip<|Aq<|W.seq<|W.block<|Aw<|Co (.idxPre hxs8 hi9 U25 Z27)<|Co (.load ty27.h)<|Cr (OpR.alloc 6 ze27.h) fun b=>WL.opU (OpR.storeB (b:=b) 6 Z27 (aN.is ae e) X) fun _=>WL.sealed (t:=ae) (u:=e) 6 6 X X<|Ar<|Co (.load ty27.h)<|Co (.load ty23.h) ?_;obtain ⟨way,hv17,hm⟩:=Bs hm;refine Co (.call C61 (ih _ _ _ hv17) ⟨.r,.r,trivial⟩)<|Cg X<|Ar<|Cm X<|Co (.neNil U25)<|An<|W.cR hm .r (fun hp19 hm=>?_) (fun hp19 hm=>?_)
    ·refine Aw<|Co (.load ty27.h)<|Cr (OpR.buildSlice (n:=1) (ys:=[(0,u)]) (z:=au) (xs:=[u]) 27 U25 el27.h ze27.h ⟨X,.r,trivial⟩ (by simp) (by decide) X) fun k=>WL.mv X X ?_;obtain ⟨out,hv20,hm⟩:=Bs hm;refine Cr (OpR.appC (key:=27) hv20 U25 el27.h .r (Opd.tLn .r) X) fun k1=>Cg X<|WL.ns ?_;obtain ⟨_,hz21,hm⟩:=Bs hm;have hr23:=Si hm;clear hm;subst hr23;have hm:=hk7;try dsimp only at hm
     cases hm;exact W.ret1 () X (Opd.asLn (OQ hz21) (Opd.own .r)) trivial
    ·exact W.skip<|WN.block<|Aq<|W.region<|Co (.addI .r .i64 (oU hi9 hp14 hlen10))<|Cm X<|WL.nil<|WN.ag es.length (i+1,pre++ [e],es,()) (qI hn11) ⟨X,mE hxs8,oQ hi9,hm⟩
   ·have hrest16:=oP hxs8 hi9 (of_decide_eq_false hc13);subst hrest16;rw [M.ku.eq_1] at hm;refine W.exit X ?_;have hr24:=Si hm;clear hm;subst hr24;have hm:=hk7;try dsimp only at hm
    refine Aq<|Aw<|Co (.assign (.nilN (t:=ae)))<|WL.ns ?_;cases hm;exact W.e1
instance UQ(n:Nat)(u:aa)(id:ai)(r:List aa):z1 61 (M.mY n u id=some r) [ae.is u,aB.is id] ((tLn ae).is r):=⟨Tryz.call61,fun hm=>zf n u id r hm⟩
theorem dF(l:List af)(r:List af)(hm:M.aM l=some r):aT Tryz.prog 64 [(tL aj).is l] [] (fun k:Tok=>tO aj k r) (fun k=>[(5,Dec.Own aj 98 k r.length)]):=by
 unfold M.aM at hm;refine aT.of Tryz.func64 X X X fun g0=>W.seq<|W.region<|Co (.assign (.nil (t:=aj)))<|WL.nil<|Aq<|W.seq<|W.seq<|W.region<|Co .move<|Cr (OpR.eqNil U24) fun b=>WL.nil<|Aq<|W.cond .r (fun hc=>?_) (fun hc=>?_)
 ·have hl:=b.2 hc;subst hl;have hr:[]=r:=by simpa [appC] using hm
  subst hr;exact W.seq<|W.region<|WL.addNil (t:=aj) (E:=98) 5<|Co (.assign (Opd.nilO (t:=aj)))<|WL.nil<|Aq<|W.ret1 (none:Tok) X .r ⟨X,X,trivial⟩
 ·exact W.skip<|Aq<|W.seq<|W.region<|Cr (OpR.buildSlice (n:=0) (ys:=[]) (z:=uJ) (xs:=[]) 5 U24 el98.h ze98.h trivial (by simp) (by decide) X) fun k5=>Co .move<|Cr (OpR.appC (key:=5) hm U24 el98.h .r .r X) fun k7=>Co .assign<|WL.nil<|Aq<|W.ret1 k7 X .r ⟨X,X,trivial⟩
instance zR(l:List af)(r:List af):z6 64 (M.aM l=some r) (fun _ _ _ _=>[(tL aj).is l]) (fun _ _ _ _=>[]) _ (fun _ _ _ _=>(fun k:Tok=>tO aj k r)) (fun _ _ _ _=>(fun k=>[(5,Dec.Own aj 98 k r.length)])):=⟨Tryz.call64,fun hm _ _ _ _=>dF l r hm⟩
section
attribute [local irreducible] W WL WN DM Op1 OpR Opd Dep
instance Gt(a:Int)(r:Int):z1 294 (M.qA a=some r) [I6.is a] (I6.is r):=.fx Tryz.call294 Tryz.func294 (M.qA.eq_1 ..)
instance Gu(kids:Int)(r:Int):z1 296 (M.qB kids=some r) [I6.is kids] (I6.is r):=.fx Tryz.call296 Tryz.func296 (M.qB.eq_1 ..)
instance xz(n:Nat)(s0_:List aa)(f:aa->Option Bool)(r:Int):z1 206 (M.bY n s0_ f=some r) [(tL ae).is s0_,(tF Tryz.prog (fun s:aa×Bool=>f s.1=some s.2) (fun s:aa×Bool=>[ae.is s.1]) (fun s:aa×Bool=>(tB.is s.2)))] (I6.is r):=.fx Tryz.call206 Tryz.func206 (M.bY.eq_1 ..)
instance AU(n:Nat)(s0_:List ai)(v:ai)(r:Int):z1 219 (M.jy n s0_ v=some r) [(tL aB).is s0_,aB.is v] (I6.is r):=.fx Tryz.call219 Tryz.func219 (M.jy.eq_1 ..)
instance Hu(w:List af)(r:List Str):z1 271 (M.lS w=some r) [(tL aj).is w] ((tL tS).is r):=.fx Tryz.call271 Tryz.func271 (M.lS.eq_1 ..) [5]
instance vM(l:List Str)(act:Int)(item:Int)(from0_:Int)(r:List af):z6 132 (M.nT l act item from0_=some r) (fun _ _ _ _=>[(tL tS).is l,I6.is act,I6.is item,I6.is from0_]) (fun _ _ _ _=>[]) _ (fun _ _ _ _=>(fun k:Tok=>tO aj k r)) (fun _ _ _ _=>(fun k=>[(77777,Dec.Own aj 98 k r.length)])):=.fx Tryz.call132 Tryz.func132 (M.nT.eq_1 ..)
instance Eb(n:Nat)(s0_:List Int)(v:Int)(r:Int):z1 287 (M.l8 n s0_ v=some r) [(tL I6).is s0_,I6.is v] (I6.is r):=.fx Tryz.call287 Tryz.func287 (M.l8.eq_1 ..)
instance J2(k:aa)(c:aa)(r:Bool):z1 213 (M.qM k c=some r) [ae.is k,ae.ptr c] (tB.is r):=.fx Tryz.call213 Tryz.func213 (M.qM.eq_1 ..)
instance Oj:∀ (n:Nat) (u:aa) (r:Int),z1 186 (M.lu n u=some r) [ae.is u] (I6.is r):=by
  intro n;induction n with
  | zero=>exact fun _ _=>⟨Tryz.call186,fun hm=>by cases hm⟩
  | succ n ih=>intro u r;refine SpC.of Tryz.call186 Tryz.func186 X X fun g0 hm=>?_;rw [M.lu.eq_2] at hm;exact Fx hm [5]
abbrev zS:=fun (s0_:List ai)(f:ai->Option Bool)(nn:Nat)(s0:Int)=>mkLp (M.aX s0_ f nn s0) (fun mm s=>M.aX s0_ f mm s) nn s0 [0,1,7] [] (fun s _ _ _ _ _ _ e=>(8,I6.is s)::e) z7 (fun _=>M.aX.eq_1 ..) (fun _ _=>M.aX.eq_2 ..)
abbrev BL:=fun (s1_:List Str)(s2_:List Str)(nn:Nat)(s0:Int)=>mkLp (M.bC s1_ s2_ nn s0) (fun mm s=>M.bC s1_ s2_ mm s) nn s0 [0,1,12] [] (fun s _ _ _ _ _ _ e=>(13,I6.is s)::e) z7 (fun _=>M.bC.eq_1 ..) (fun _ _=>M.bC.eq_2 ..)
abbrev zT:=fun (s0_:List Str)(f:Str->Option Bool)(nn:Nat)(s0:Int)=>mkLp (M.aY s0_ f nn s0) (fun mm s=>M.aY s0_ f mm s) nn s0 [0,1,7] [] (fun s _ _ _ _ _ _ e=>(8,I6.is s)::e) z7 (fun _=>M.aY.eq_1 ..) (fun _ _=>M.aY.eq_2 ..)
abbrev BM:=fun (s0_:List Int)(f:Int->Option Bool)(nn:Nat)(s0:Int)=>mkLp (M.bq s0_ f nn s0) (fun mm s=>M.bq s0_ f mm s) nn s0 [0,1,7] [] (fun s _ _ _ _ _ _ e=>(8,I6.is s)::e) z7 (fun _=>M.bq.eq_1 ..) (fun _ _=>M.bq.eq_2 ..)
abbrev Nc:=fun (nn:List af)(s0:Str)=>mkRg (M.dP nn s0) (fun mm jj s=>M.dP mm s) nn s0 9 [7,8] [] (fun s _ _ _ _ _ _ e=>(0,tS.is s)::e) z7 (fun _ _=>M.dP.eq_1 ..) (fun _ _ _ _=>M.dP.eq_2 ..)
attribute [instance] zS BL zT BM Nc
instance LU(a:aa)(c:Int)(r:Bool×Int):z6 216 (M.uA a c=some r) (fun b _ _ _=>[ae.is a,Bp b 0]) (fun b _ _ _=>[(1,Bx 1 false 3 (I6.is c) b)]) _ (fun b _ _ _=>(fun kx:Unit=>(tB.is r.1))) (fun b _ _ _=>(fun kx:Unit=>[(1,Bx 1 false 3 (I6.is r.2) b)])):=.fx Tryz.call216 Tryz.func216 (M.uA.eq_1 ..)
instance Ol(x:aa)(c:List ai)(r:Bool×(List ai)):z6 217 (M.wU x c=some r) (fun b _ k _=>[ae.is x,Bp b 0]) (fun b _ k _=>[(1,Bx 1 false 104 (tO aB k c) b),(1000001,Dec.Own aB 23 k c.length)]) _ (fun b _ k _=>(fun kx:Tok=>(tB.is r.1))) (fun b _ k _=>(fun kx:Tok=>[(1,Bx 1 false 104 (tO aB kx r.2) b),(1000001,Dec.Own aB 23 kx r.2.length)])):=.fx Tryz.call217 Tryz.func217 (M.wU.eq_1 ..)
instance zg(n:Nat)(s0_:List ai)(f:ai->Option Bool)(r:Int):z1 218 (M.gQ n s0_ f=some r) [(tL aB).is s0_,(tF Tryz.prog (fun s:ai×Bool=>f s.1=some s.2) (fun s:ai×Bool=>[aB.is s.1]) (fun s:ai×Bool=>(tB.is s.2)))] (I6.is r):=.fx Tryz.call218 Tryz.func218 (M.gQ.eq_1 ..)
end
theorem yS(p:aa)(c:Int)(c1:aa)(b:Nat)(k:Tok)(r:aa)(hm:M.kF p c c1=some r):aT Tryz.prog 125 [Bp b 0,I6.ptr c,ae.ptr c1] [(0,Bx 8 true 27 ((aC k).is p) b),(1000000,OwnU ae 27 k p.Kids)] (fun kx:Unit=>(Asn.eq (.tuple #[]))) (fun kx:Unit=>[(0,Bx 8 true 27 (ae.is r) b)]):=by
 unfold M.kF at hm;refine aT.of Tryz.func125 X X X (fun g0=>?_);obtain ⟨l,hv1,hm⟩:=Bs hm;refine W.wR [(1000000,OwnU ae 27 k p.Kids),(0,(Bx 8 true 27 ((aC k).is p) b))]<|W.dM [.c (Bp b 0),.c (Bp b 0),.c (Bp b 0),.c (Bp b 7),.c (tU k p.Kids.length),.c (I6.is c),.c (ae.is c1),.c ((tL ae).is [c1]),.f (fun cv=>(tO ae (cv 0) l)),.c (Bp b 0),.c (Bp b 7),.c Asn.any] L0 [8,11] [[],[],[],[],[],[],[],[],[true],[],[],[]] (fun m cv=>match m with | 0=>[(1000000,OwnU ae 27 k p.Kids),(0,(Bx 8 true 27 ((aC k).is p) b))] | 1=>[(1000000,Dec.Own ae 27 (cv 0) l.length),(0,(Bx 8 true 27 ((aC k).is p) b))] | _=>[(0,(Bx 8 true 27 (ae.is ({p with Kids:=l}:aa)) b)),(1000000,Dec.Own ae 27 (cv 0) l.length)]) Mx ⟨mo fun cv=>.move,mo fun cv=>.move,mo fun cv=>.nilCheckB,mo fun cv=>.fieldAddrB (o:=0) U27 X J25 .r X,.inr ⟨fun cv=>[(0,(Bx 8 true 27 ((aC k).is p) b))],(jm.at ⟨⟨(fun _ _=>⟨X,X,trivial⟩),(nn)⟩,(nn)⟩),fun cv=>Op1.ofUT (Op1.fV (t:=tUT k) (u:=p) 0 X ⟨ty25.h.agg,ty25.h.size⟩ (nE k) X)⟩,mo fun cv=>.load ty3.h,mo fun cv=>.load ty27.h,mo fun cv=>.buildSlice (n:=1) (ys:=[(0,c1)]) (z:=au) (xs:=[c1]) U25 el27.h ze27.h ⟨X,.r,trivial⟩ (by simp) (by decide) X,.inl X,mo fun cv=>.nilCheckB,mo fun cv=>.fieldAddrB (o:=0) U27 X J25 .r X,.inl X,trivial⟩ ⟨⟨_,_,_,[1000000],(fun cv=>[(1000000,Dec.Own ae 27 (cv 0) l.length)]),X,X,X,X,fun _=>X,fun _ _=>X,fun cv=>OpR.call (us:=[1000000]) C126 ((Bf _ _ _ _ _ 1000000 hv1).fixU 1000000) X ⟨.r,.r,.r,trivial⟩⟩,⟨_,_,_,[0],(fun cv=>[(0,(Bx 8 true 27 (ae.is ({p with Kids:=l}:aa)) b))]),X,X,X,X,fun _=>X,fun _ _=>X,fun cv=>OpR.viaU (OpR.storeBFT (b:=b) (s:=aC k) (s':=ae) (t:=(tL ae)) 0 X X ⟨ty25.h.agg,ty25.h.size⟩ (vR k) X (show 7+1<=8 by decide) .r (Opd.own .r))⟩,trivial⟩ (fun cv=>?_);have hr:=Si hm;clear hm;subst hr;exact WN.fin () X (fun _=>X) ⟨X,X,trivial⟩
instance LV(p:aa)(c:Int)(c1:aa)(r:aa):z6 125 (M.kF p c c1=some r) (fun b _ k _=>[Bp b 0,I6.ptr c,ae.ptr c1]) (fun b _ k _=>[(0,Bx 8 true 27 ((aC k).is p) b),(1000000,OwnU ae 27 k p.Kids)]) _ (fun b _ k _=>(fun kx:Unit=>(Asn.eq (.tuple #[])))) (fun b _ k _=>(fun kx:Unit=>[(0,Bx 8 true 27 (ae.is r) b)])):=⟨Tryz.call125,fun hm b _ k _=>yS p c c1 b k r hm⟩
theorem xU(x:aa)(c:Int)(b:Nat)(k:Tok)(r:aa)(hm:M.lT x c=some r):aT Tryz.prog 223 [Bp b 0,I6.ptr c] [(0,Bx 8 true 27 ((aC k).is x) b),(1000000,OwnU ae 27 k x.Kids)] (fun kx:Unit=>(Asn.eq (.tuple #[]))) (fun kx:Unit=>[(0,Bx 8 true 27 (ae.is r) b)]):=by
 unfold M.lT at hm;refine aT.of Tryz.func223 X X X (fun g0=>?_);obtain ⟨v,hv1,hm⟩:=Bs hm;obtain ⟨l,hv2,hm⟩:=Bs hm;refine W.wR [(1000000,OwnU ae 27 k x.Kids),(0,(Bx 8 true 27 ((aC k).is x) b))]<|W.dM [.c (Bp b 0),.c (Bp b 0),.c (Bp b 0),.c (Bp b 7),.c (tU k x.Kids.length),.c (I6.is c),.c (I6.is c),.c (I6.is v),.f (fun cv=>(tO ae (cv 0) l)),.c (Bp b 0),.c (Bp b 7),.c Asn.any] [([],[0]),([],[0]),([1],[]),([2],[]),([3],[]),([],[1]),([],[1]),([6],[]),([4,5,7],[]),([0],[]),([9],[]),([8,10],[])] [8,11] [[],[],[],[],[],[],[],[],[true],[],[],[]] (fun m cv=>match m with | 0=>[(1000000,OwnU ae 27 k x.Kids),(0,(Bx 8 true 27 ((aC k).is x) b))] | 1=>[(1000000,Dec.Own ae 27 (cv 0) l.length),(0,(Bx 8 true 27 ((aC k).is x) b))] | _=>[(0,(Bx 8 true 27 (ae.is ({x with Kids:=l}:aa)) b)),(1000000,Dec.Own ae 27 (cv 0) l.length)]) Mx ⟨mo fun cv=>.move,mo fun cv=>.move,mo fun cv=>.nilCheckB,mo fun cv=>.fieldAddrB (o:=0) U27 X J25 .r X,.inr ⟨fun cv=>[(0,(Bx 8 true 27 ((aC k).is x) b))],(jm.at ⟨⟨(fun _ _=>⟨X,X,trivial⟩),(nn)⟩,(nn)⟩),fun cv=>Op1.ofUT (Op1.fV (t:=tUT k) (u:=x) 0 X ⟨ty25.h.agg,ty25.h.size⟩ (nE k) X)⟩,mo fun cv=>.load ty3.h,mo fun cv=>.load ty3.h,mo fun cv=>.addC hv1 .r .i64,.inl X,mo fun cv=>.nilCheckB,mo fun cv=>.fieldAddrB (o:=0) U27 X J25 .r X,.inl X,trivial⟩ ⟨⟨_,_,_,[1000000],(fun cv=>[(1000000,Dec.Own ae 27 (cv 0) l.length)]),X,X,X,X,fun _=>X,fun _ _=>X,fun cv=>OpR.call (us:=[1000000]) C224 ((EE _ _ _ _ _ 1000000 hv2).fixU 1000000) X ⟨.r,.r,.r,trivial⟩⟩,⟨_,_,_,[0],(fun cv=>[(0,(Bx 8 true 27 (ae.is ({x with Kids:=l}:aa)) b))]),X,X,X,X,fun _=>X,fun _ _=>X,fun cv=>OpR.viaU (OpR.storeBFT (b:=b) (s:=aC k) (s':=ae) (t:=(tL ae)) 0 X X ⟨ty25.h.agg,ty25.h.size⟩ (vR k) X (show 7+1<=8 by decide) .r (Opd.own .r))⟩,trivial⟩ (fun cv=>?_);have hr:=Si hm;clear hm;subst hr;exact WN.fin () X (fun _=>X) ⟨X,X,trivial⟩
instance J4(x:aa)(c:Int)(r:aa):z6 223 (M.lT x c=some r) (fun b _ k _=>[Bp b 0,I6.ptr c]) (fun b _ k _=>[(0,Bx 8 true 27 ((aC k).is x) b),(1000000,OwnU ae 27 k x.Kids)]) _ (fun b _ k _=>(fun kx:Unit=>(Asn.eq (.tuple #[])))) (fun b _ k _=>(fun kx:Unit=>[(0,Bx 8 true 27 (ae.is r) b)])):=⟨Tryz.call223,fun hm b _ k _=>xU x c b k r hm⟩
section
attribute [local irreducible] W WL WN DM Op1 OpR Opd Dep
instance AV(n:Nat)(s1_:List Str)(s2_:List Str)(r:Bool):z1 164 (M.df n s1_ s2_=some r) [(tL tS).is s1_,(tL tS).is s2_] (tB.is r):=.fx Tryz.call164 Tryz.func164 (M.df.eq_1 ..)
end
theorem zD(x:aa)(c:List af)(b:Nat)(k:Tok)(r:aa)(hm:M.qN x c=some r):aT Tryz.prog 129 [Bp b 0,(tL aj).ptr c] [(0,Bx 8 true 27 ((aC k).is x) b),(1000000,OwnU ae 27 k x.Kids)] (fun kx:Unit=>(Asn.eq (.tuple #[]))) (fun kx:Unit=>[(0,Bx 8 true 27 (ae.is r) b)]):=by
 unfold M.qN at hm;refine aT.of Tryz.func129 X X X fun g0=>W.region<|Cm X<|Co (.load ty24.h)<|Co .nilCheckB<|Co (.fieldAddrB (o:=0) U27 X J24 .r X)<|WL.opU (OpR.storeBF (b:=b) 0 X ty24.h (xP k) X (show 6+1<=8 by decide)) fun _=>WL.nil ?_;have hr:=Si hm;clear hm;subst hr;exact WN.fixG 1000000 X<|WN.boxG (ae.is ({x with Words:=c}:aa)) 0 X (fun _ _ hr hA=>jO (u:=({x with Words:=c}:aa)) (hr.at (key:=1000000) X) hA)<|WN.fin () X (fun _=>X) ⟨X,X,trivial⟩
instance Nb(x:aa)(c:List af)(r:aa):z6 129 (M.qN x c=some r) (fun b _ k _=>[Bp b 0,(tL aj).ptr c]) (fun b _ k _=>[(0,Bx 8 true 27 ((aC k).is x) b),(1000000,OwnU ae 27 k x.Kids)]) _ (fun b _ k _=>(fun kx:Unit=>(Asn.eq (.tuple #[])))) (fun b _ k _=>(fun kx:Unit=>[(0,Bx 8 true 27 (ae.is r) b)])):=⟨Tryz.call129,fun hm b _ k _=>zD x c b k r hm⟩
theorem vk(l:List Int)(r:List Int)(hm:M.kG l=some r):aT Tryz.prog 227 [(tL I6).is l] [] (fun k:Tok=>tO I6 k r) (fun k=>[(5,Dec.Own I6 3 k r.length)]):=by
 unfold M.kG at hm;refine aT.of Tryz.func227 X X X fun g0=>W.seq<|W.region<|Co (.assign (.nil (t:=I6)))<|WL.nil<|Aq<|W.seq<|W.seq<|W.region<|Co .move<|Cr (OpR.eqNil U131) fun b=>WL.nil<|Aq<|W.cond .r (fun hc=>?_) (fun hc=>?_)
 ·have hl:=b.2 hc;subst hl;have hr:[]=r:=by simpa [appC] using hm
  subst hr;exact W.seq<|W.region<|WL.addNil (t:=I6) (E:=3) 5<|Co (.assign (Opd.nilO (t:=I6)))<|WL.nil<|Aq<|W.ret1 (none:Tok) X .r ⟨X,X,trivial⟩
 ·exact W.skip<|Aq<|W.seq<|W.region<|Cr (OpR.buildSlice (n:=0) (ys:=[]) (z:=(0:Int)) (xs:=[]) 5 U131 el3.h ze3.h trivial (by simp) (by decide) X) fun k5=>Co .move<|Cr (OpR.appC (key:=5) hm U131 el3.h .r .r X) fun k7=>Co .assign<|WL.nil<|Aq<|W.ret1 k7 X .r ⟨X,X,trivial⟩
theorem Bg(x:aa)(c:List af)(b:Nat)(k:Tok)(r:aa)(hm:M.tT x c=some r):aT Tryz.prog 131 [Bp b 0,(tL aj).ptr c] [(0,Bx 8 true 27 ((aC k).is x) b),(1000000,OwnU ae 27 k x.Kids)] (fun kx:Unit=>(Asn.eq (.tuple #[]))) (fun kx:Unit=>[(0,Bx 8 true 27 (ae.is r) b)]):=by
 unfold M.tT at hm;refine aT.of Tryz.func131 X X X fun g0=>W.region<|Cm X<|Co (.load ty24.h)<|Co .nilCheckB<|Co (.fieldAddrB (o:=0) U27 X J24 .r X)<|WL.opU (OpR.storeBF (b:=b) 0 X ty24.h (xP k) X (show 6+1<=8 by decide)) fun _=>WL.nil ?_;have hr:=Si hm;clear hm;subst hr;exact WN.fixG 1000000 X<|WN.boxG (ae.is ({x with Words:=c}:aa)) 0 X (fun _ _ hr hA=>jO (u:=({x with Words:=c}:aa)) (hr.at (key:=1000000) X) hA)<|WN.fin () X (fun _=>X) ⟨X,X,trivial⟩
instance Po(x:aa)(c:List af)(r:aa):z6 131 (M.tT x c=some r) (fun b _ k _=>[Bp b 0,(tL aj).ptr c]) (fun b _ k _=>[(0,Bx 8 true 27 ((aC k).is x) b),(1000000,OwnU ae 27 k x.Kids)]) _ (fun b _ k _=>(fun kx:Unit=>(Asn.eq (.tuple #[])))) (fun b _ k _=>(fun kx:Unit=>[(0,Bx 8 true 27 (ae.is r) b)])):=⟨Tryz.call131,fun hm b _ k _=>Bg x c b k r hm⟩
theorem xV(x:aa)(c:List af)(b:Nat)(k:Tok)(r:aa)(hm:M.qX x c=some r):aT Tryz.prog 133 [Bp b 0,(tL aj).ptr c] [(0,Bx 8 true 27 ((aC k).is x) b),(1000000,OwnU ae 27 k x.Kids)] (fun kx:Unit=>(Asn.eq (.tuple #[]))) (fun kx:Unit=>[(0,Bx 8 true 27 (ae.is r) b)]):=by
 unfold M.qX at hm;refine aT.of Tryz.func133 X X X fun g0=>W.region<|Cm X<|Co (.load ty24.h)<|Co .nilCheckB<|Co (.fieldAddrB (o:=0) U27 X J24 .r X)<|WL.opU (OpR.storeBF (b:=b) 0 X ty24.h (Di k) X (show 5+1<=8 by decide)) fun _=>WL.nil ?_;have hr:=Si hm;clear hm;subst hr;exact WN.fixG 1000000 X<|WN.boxG (ae.is ({x with Head:=c}:aa)) 0 X (fun _ _ hr hA=>jO (u:=({x with Head:=c}:aa)) (hr.at (key:=1000000) X) hA)<|WN.fin () X (fun _=>X) ⟨X,X,trivial⟩
theorem xW(x:aa)(c:ak)(b:Nat)(k:Tok)(r:aa)(hm:M.ou x c=some r):aT Tryz.prog 134 [Bp b 0,aO.ptr c] [(0,Bx 8 true 27 ((aC k).is x) b),(1000000,OwnU ae 27 k x.Kids)] (fun kx:Unit=>(Asn.eq (.tuple #[]))) (fun kx:Unit=>[(0,Bx 8 true 27 (ae.is r) b)]):=by
 unfold M.ou at hm;refine aT.of Tryz.func134 X X X fun g0=>W.region<|Cm X<|Co (.fA U52 J50 uX.h)<|Co (.fA U50 J9 Ho.h)<|Co (.load ty9.h)<|Co .nilCheckB<|Co (.fieldAddrB (o:=0) U27 X J9 .r X)<|WL.opU (OpR.storeBF (b:=b) 0 X ty9.h (Dh k) X (show 4+1<=8 by decide)) fun _=>WL.nil ?_;have hr:=Si hm;clear hm;subst hr;exact WN.fixG 1000000 X<|WN.boxG (ae.is ({x with Label:=c.It.Label}:aa)) 0 X (fun _ _ hr hA=>jO (u:=({x with Label:=c.It.Label}:aa)) (hr.at (key:=1000000) X) hA)<|WN.fin () X (fun _=>X) ⟨X,X,trivial⟩
instance J5(x:aa)(c:ak)(r:aa):z6 134 (M.ou x c=some r) (fun b _ k _=>[Bp b 0,aO.ptr c]) (fun b _ k _=>[(0,Bx 8 true 27 ((aC k).is x) b),(1000000,OwnU ae 27 k x.Kids)]) _ (fun b _ k _=>(fun kx:Unit=>(Asn.eq (.tuple #[])))) (fun b _ k _=>(fun kx:Unit=>[(0,Bx 8 true 27 (ae.is r) b)])):=⟨Tryz.call134,fun hm b _ k _=>xW x c b k r hm⟩
theorem Ak(p:aa)(c:Int)(c1:aa)(b:Nat)(k:Tok)(r:aa)(hm:M.uB p c c1=some r):aT Tryz.prog 135 [Bp b 0,I6.ptr c,ae.ptr c1] [(0,Bx 8 true 27 ((aC k).is p) b),(1000000,OwnU ae 27 k p.Kids)] (fun kx:Unit=>(Asn.eq (.tuple #[]))) (fun kx:Unit=>[(0,Bx 8 true 27 (ae.is r) b)]):=by
 unfold M.uB at hm;refine aT.of Tryz.func135 X X X (fun g0=>?_);obtain ⟨l,hv1,hm⟩:=Bs hm;refine W.wR [(1000000,OwnU ae 27 k p.Kids),(0,(Bx 8 true 27 ((aC k).is p) b))]<|W.dM [.c (Bp b 0),.c (Bp b 0),.c (Bp b 0),.c (Bp b 7),.c (tU k p.Kids.length),.c (I6.is c),.c (ae.is c1),.c ((tL ae).is [c1]),.f (fun cv=>(tO ae (cv 0) l)),.c (Bp b 0),.c (Bp b 7),.c Asn.any] L0 [8,11] [[],[],[],[],[],[],[],[],[true],[],[],[]] (fun m cv=>match m with | 0=>[(1000000,OwnU ae 27 k p.Kids),(0,(Bx 8 true 27 ((aC k).is p) b))] | 1=>[(1000000,Dec.Own ae 27 (cv 0) l.length),(0,(Bx 8 true 27 ((aC k).is p) b))] | _=>[(0,(Bx 8 true 27 (ae.is ({p with Kids:=l}:aa)) b)),(1000000,Dec.Own ae 27 (cv 0) l.length)]) Mx ⟨mo fun cv=>.move,mo fun cv=>.move,mo fun cv=>.nilCheckB,mo fun cv=>.fieldAddrB (o:=0) U27 X J25 .r X,.inr ⟨fun cv=>[(0,(Bx 8 true 27 ((aC k).is p) b))],(jm.at ⟨⟨(fun _ _=>⟨X,X,trivial⟩),(nn)⟩,(nn)⟩),fun cv=>Op1.ofUT (Op1.fV (t:=tUT k) (u:=p) 0 X ⟨ty25.h.agg,ty25.h.size⟩ (nE k) X)⟩,mo fun cv=>.load ty3.h,mo fun cv=>.load ty27.h,mo fun cv=>.buildSlice (n:=1) (ys:=[(0,c1)]) (z:=au) (xs:=[c1]) U25 el27.h ze27.h ⟨X,.r,trivial⟩ (by simp) (by decide) X,.inl X,mo fun cv=>.nilCheckB,mo fun cv=>.fieldAddrB (o:=0) U27 X J25 .r X,.inl X,trivial⟩ ⟨⟨_,_,_,[1000000],(fun cv=>[(1000000,Dec.Own ae 27 (cv 0) l.length)]),X,X,X,X,fun _=>X,fun _ _=>X,fun cv=>OpR.call (us:=[1000000]) C126 ((Bf _ _ _ _ _ 1000000 hv1).fixU 1000000) X ⟨.r,.r,.r,trivial⟩⟩,⟨_,_,_,[0],(fun cv=>[(0,(Bx 8 true 27 (ae.is ({p with Kids:=l}:aa)) b))]),X,X,X,X,fun _=>X,fun _ _=>X,fun cv=>OpR.viaU (OpR.storeBFT (b:=b) (s:=aC k) (s':=ae) (t:=(tL ae)) 0 X X ⟨ty25.h.agg,ty25.h.size⟩ (vR k) X (show 7+1<=8 by decide) .r (Opd.own .r))⟩,trivial⟩ (fun cv=>?_);have hr:=Si hm;clear hm;subst hr;exact WN.fin () X (fun _=>X) ⟨X,X,trivial⟩
instance Om(p:aa)(c:Int)(c1:aa)(r:aa):z6 135 (M.uB p c c1=some r) (fun b _ k _=>[Bp b 0,I6.ptr c,ae.ptr c1]) (fun b _ k _=>[(0,Bx 8 true 27 ((aC k).is p) b),(1000000,OwnU ae 27 k p.Kids)]) _ (fun b _ k _=>(fun kx:Unit=>(Asn.eq (.tuple #[])))) (fun b _ k _=>(fun kx:Unit=>[(0,Bx 8 true 27 (ae.is r) b)])):=⟨Tryz.call135,fun hm b _ k _=>Ak p c c1 b k r hm⟩
section
attribute [local irreducible] W WL WN DM Op1 OpR Opd Dep
instance Jt(it:ah)(r:ah):z1 136 (M.qd it=some r) [aD.is it] (aD.is r):=.fx Tryz.call136 Tryz.func136 (M.qd.eq_1 ..)
instance J6(n0_:Int)(least:Int)(most:Int)(r:Bool):z1 157 (M.kW n0_ least most=some r) [I6.is n0_,I6.is least,I6.is most] (tB.is r):=.fx Tryz.call157 Tryz.func157 (M.kW.eq_1 ..)
instance J7(kind:Int)(r:Str):z2 314 (M.o9 kind=some r) [I6.is kind] (tS.is r) [E4]:=.fx Tryz.call314 Tryz.func314 (M.o9.eq_1 ..)
instance zh(n:Nat)(s0_:List Str)(f:Str->Option Bool)(r:Int):z1 307 (M.gT n s0_ f=some r) [(tL tS).is s0_,(tF Tryz.prog (fun s:Str×Bool=>f s.1=some s.2) (fun s:Str×Bool=>[tS.is s.1]) (fun s:Str×Bool=>(tB.is s.2)))] (I6.is r):=.fx Tryz.call307 Tryz.func307 (M.gT.eq_1 ..)
instance AX(n:Nat)(s0_:List Int)(f:Int->Option Bool)(r:Int):z1 322 (M.jA n s0_ f=some r) [(tL (tI .u8)).is s0_,(tF Tryz.prog (fun s:Int×Bool=>f s.1=some s.2) (fun s:Int×Bool=>[(tI .u8).is s.1]) (fun s:Int×Bool=>(tB.is s.2)))] (I6.is r):=.fx Tryz.call322 Tryz.func322 (M.jA.eq_1 ..)
instance yT(c:Int)(r:Bool):z1 308 (M.lF c=some r) [(tI .u8).is c] (tB.is r):=.fx Tryz.call308 Tryz.func308 (M.lF.eq_1 ..)
end
theorem yU(s:Str)(n r:_)(hm:repeatM s n=some r):FSpec Tryz.prog 318 [tS.is s,I6.is n] (tS.is r):=
 GY (fun s c w hc hl=>Tryz.strings_Repeat s c w hc hl) s n r hm
instance LW(s:Str)(n:Int)(r:Str):z1 318 (repeatM s n=some r) [tS.is s,I6.is n] (tS.is r):=⟨Tryz.call318,fun hm=>yU s n r hm⟩
section
attribute [local irreducible] W WL WN DM Op1 OpR Opd Dep
instance J8(line:Str)(w:List af)(r:Str):z1 319 (M.pg line w=some r) [tS.is line,(tL aj).is w] (tS.is r):=.fx Tryz.call319 Tryz.func319 (M.pg.eq_1 ..) [6]
end
theorem vo(n:Int)(b:Nat){u:Unit}(hm:growC n=some u):aT Tryz.prog 304 [Bp b 0,I6.is n] [(0,Bx 2 true 248 (bldA none [] b) b),(1,Dec.Own (tI .u8) 5 none 0)] (fun _:Tok=>Asn.eq (.tuple #[])) (fun k=>[(0,Bx 2 true 248 (bldA k [] b) b),(1,Dec.Own (tI .u8) 5 k 0)]):=
 aT.bldGrow Hq ED Pn 0 1 n b hm
theorem jG(l m r:Str)(k:Tok)(b:Nat)(hm:appC l m=some r):aT Tryz.prog 305 [Bp b 0,tS.is m] [(0,Bx 2 true 248 (bldA k l b) b),(1,Dec.Own (tI .u8) 5 k l.length)] (fun _:Tok=>Asn.any) (fun kx=>[(0,Bx 2 true 248 (bldA kx r b) b),(1,Dec.Own (tI .u8) 5 kx r.length)]):=by
 refine aT.of Tryz.func305 X X X fun g0=>Aw<|Ao X (.assign Opd.const)<|Ao X (.assign Opd.const)<|Ar<|Am X X<|WL.opR X (OpR.call (us:=[0]) C320 (aT.bldCheck Hq ED 0 k l b) X ⟨(.t X),trivial⟩) fun _=>Ar<|Am X X<|Am X X<|Ao X (.nilCheckB (.t X))<|Ao X (.fieldAddrB (o:=0) Tryz.underlying248 X J246 (.t X) X)<|Ao X (.RI 0 Y246 Z246 X (.t X))<|Am X X<|WL.opR X (OpR.appendS (key:=1) hm U246 U9 el5.h (.t X) (.t X) X) fun k2=>Ao X (.nilCheckB (.t X)) ?_;exact Ao X (.fieldAddrB (o:=0) Tryz.underlying248 X J246 (.t X) X)<|WL.opU (OpR.storeBld (b:=b) 0 Z246 X (.t X) (.t X)) fun _=>Ar<|Am X X<|Ao X (.CE U9 (.t X))<|Ag X X<|Ao X (.assign Opd.const)<|WL.nil<|Aq<|W.boxV (A':=bldA k2 r b) 0 X (fun _ _=>OY)<|W.retAny2 k2 X X ⟨X,X,X,X,trivial⟩
theorem uE(k:Tok)(l:Str)(b:Nat):aT Tryz.prog 306 [Bp b 0] [(0,Bx 2 true 248 (bldA k l b) b),(1,Dec.Own (tI .u8) 5 k l.length)] (fun _:Unit=>tS.is l) (fun _=>[]):=
 aT.bldString U267 (by kernel_rfl) Sw 0 1 k l b
abbrev QY:=fun (visit:aa->Option Bool)(slf:aa->(aa->Option Bool)->Option Bool)(nn:List aa)=>mkRg (M.gU visit slf nn) (fun mm jj s=>M.gU visit slf mm) nn () 14 [1,12,13] [] z7 z7 (fun _ _=>M.gU.eq_1 ..) (fun _ _ _ _=>M.gU.eq_2 ..)
abbrev yI:=fun (s0_:List af)(f:af->Option Bool)(nn:Nat)(s0:Int)=>mkLp (M.aR s0_ f nn s0) (fun mm s=>M.aR s0_ f mm s) nn s0 [0,1,7] [] (fun s _ _ _ _ _ _ e=>(8,I6.is s)::e) z7 (fun _=>M.aR.eq_1 ..) (fun _ _=>M.aR.eq_2 ..)
abbrev Em:=fun (c:Int)(nn:Nat)(s0:Str)=>mkLp (M.d9 c nn s0) (fun mm s=>M.d9 c mm s) nn s0 [1] [] (fun s _ _ _ _ _ _ e=>(0,tS.is s)::e) z7 (fun _=>M.d9.eq_1 ..) (fun _ _=>M.d9.eq_2 ..)
abbrev EG:=fun (c:Int)(nn:Nat)(s0:Str)=>mkLp (M.fe c nn s0) (fun mm s=>M.fe c mm s) nn s0 [1] [] (fun s _ _ _ _ _ _ e=>(0,tS.is s)::e) z7 (fun _=>M.fe.eq_1 ..) (fun _ _=>M.fe.eq_2 ..)
attribute [instance] QY yI Em EG
section
attribute [local irreducible] W WL WN DM Op1 OpR Opd Dep
instance Oq:∀ (n:Nat) (u:aa) (visit:aa->Option Bool) (r:Bool),z1 215 (M.qf n u visit=some r) [ae.is u,(tF Tryz.prog (fun s:aa×Bool=>visit s.1=some s.2) (fun s:aa×Bool=>[ae.is s.1]) (fun s:aa×Bool=>(tB.is s.2)))] (tB.is r):=by
  intro n;induction n with
  | zero=>exact fun _ _ _=>⟨Tryz.call215,fun hm=>by cases hm⟩
  | succ n ih=>intro u visit r;refine SpC.of Tryz.call215 Tryz.func215 X X fun g0 hm=>?_;rw [M.qf.eq_2] at hm;exact Fx hm [6]
instance xA(n:Nat)(s0_:List af)(f:af->Option Bool)(r:Int):z1 288 (M.fG n s0_ f=some r) [(tL aj).is s0_,((tFun Tryz.prog (fun (f:af->Option Bool)=>(fun s:af×Bool=>f s.1=some s.2)) (fun s:af×Bool=>[aj.is s.1]) (fun s:af×Bool=>(tB.is s.2))).is f)] (I6.is r):=.fx Tryz.call288 Tryz.func288 (M.fG.eq_1 ..)
instance Hw(w:af)(r:Bool):z1 275 (M.lW w=some r) [aj.is w] (tB.is r):=.fx Tryz.call275 Tryz.func275 (M.lW.eq_1 ..)
instance Ju(a:ah)(r:ah):z1 140 (M.qg a=some r) [aD.is a] (aD.is r):=.fx Tryz.call140 Tryz.func140 (M.qg.eq_1 ..)
instance Jv(a:ah)(r:Bool):z1 141 (M.qh a=some r) [aD.is a] (tB.is r):=.fx Tryz.call141 Tryz.func141 (M.qh.eq_1 ..)
instance Jw(it:ah)(r:ah):z1 142 (M.qi it=some r) [aD.is it] (aD.is r):=.fx Tryz.call142 Tryz.func142 (M.qi.eq_1 ..)
instance Jy(it:ah)(r:ah):z1 146 (M.qj it=some r) [aD.is it] (aD.is r):=.fx Tryz.call146 Tryz.func146 (M.qj.eq_1 ..)
instance Jz(it:ah)(r:ah):z1 148 (M.ql it=some r) [aD.is it] (aD.is r):=.fx Tryz.call148 Tryz.func148 (M.ql.eq_1 ..)
instance Hy(it:ah)(r:ah):z1 150 (M.oz it=some r) [aD.is it] (aD.is r):=.fx Tryz.call150 Tryz.func150 (M.oz.eq_1 ..)
instance Hz(it:ah)(r:ah):z1 153 (M.oC it=some r) [aD.is it] (aD.is r):=.fx Tryz.call153 Tryz.func153 (M.oC.eq_1 ..)
instance HV(it:ah)(r:ah):z1 155 (M.qY it=some r) [aD.is it] (aD.is r):=.fx Tryz.call155 Tryz.func155 (M.qY.eq_1 ..)
instance Dj(n:Nat)(s0_:Str)(c:Int)(r:Str):z1 235 (M.strings_trimRightByte n s0_ c=some r) [tS.is s0_,(tI .u8).is c] (tS.is r):=.fx Tryz.call235 Tryz.func235 (M.strings_trimRightByte.eq_1 ..)
instance Ec(n:Nat)(s0_:Str)(c:Int)(r:Str):z1 234 (M.strings_trimLeftByte n s0_ c=some r) [tS.is s0_,(tI .u8).is c] (tS.is r):=.fx Tryz.call234 Tryz.func234 (M.strings_trimLeftByte.eq_1 ..)
end
theorem vv(n:Nat)(chars:Str)(r:(List Bool)×Bool)(hm:M.strings_makeASCIISet n chars=some r):FSpec Tryz.prog 236 [tS.is chars] (Asn.tuple2 ((tA 256 tB).is r.1) (tB.is r.2)):=by
 unfold M.strings_makeASCIISet at hm;refine FSpec.of Tryz.func236 X X X fun g0=>Aw<|Cr (OpR.alloc 2 ze210.h) fun b=>Co (.assign .bool)<|An<|W.seq<|Aw<|Co (.assign .i64)<|An<|W.block ?_;obtain ⟨s1,hs2,hk3⟩:=Bs hm;clear hm;refine W.lp (fun m (s:Int×(List Bool))=>M.dh chars m s.1 s.2=some s1) (fun s=>[(4,(I6.is s.1)),(0,(tS.is chars)),(2,(Bp b 0))]) (fun s=>[(2,(Bx 256 true 210 ((tA 256 tB).is s.2) b))]) _ ((0:Int),(List.replicate 256 false)) hs2 ?_;rintro n4 ⟨i,as0_⟩ hm;try dsimp only at hm
 cases n4 with
 | zero=>rw [M.dh.eq_1] at hm;cases hm
 | succ n4=>
  rw [M.dh.eq_2] at hm;refine W.seq<|Aw<|Cm X<|Cm X<|Co (.CE U9)<|Co .ltI<|An<|W.cD hm .r (fun hp6 hm=>?_) (fun hp6 hm=>?_)
  ·refine W.skip<|Aq<|W.seq<|W.block<|Aw<|Cm X<|WL.mv X X ?_;obtain ⟨b1,hv7,hm⟩:=Bs hm;refine Co (.sidx hv7 U9)<|Cg X<|An<|W.seq<|Aw<|Cm X<|Co (.geI .r (.int (inR8.2 (by omega))))<|An<|W.cD hm .r (fun hp9 hm=>?_) (fun hp9 hm=>?_)
   ·refine Aw<|Co (.mP 2 Y210 Z210 X)<|WL.opU (OpR.storeB (b:=b) 2 Z210 (aN.is (tA 256 tB) as0_) X) fun _=>Co (.assign .bool)<|WL.ns ?_;have hr10:=Si hm;clear hm;subst hr10;have hm:=hk3;try dsimp only at hm
    cases hm;exact W.retQ2 () X X (ResAt.cell 2 Y210 Z210 X .r) (ResAt.tmp .r) trivial
   ·refine W.skip<|Aq<|W.region<|WL.mv X X ?_;obtain ⟨_,hv11,hm⟩:=Bs hm;exact Co (.indexAddrB U210 Z4 .r .r (Lm hv11))<|WL.opU (OpR.storeBF (b:=b) 2 X ty4.h (dN.arr (GJ hv11)) X (Vp (GJ hv11)) .r .bool) fun _=>WL.nil<|WN.block<|Aq<|W.region<|Cm X<|WL.CE (s:=0) .r fun hl12=>Co (.addI1 .r .i64 hp6 hl12)<|Cg X<|WL.nil<|WN.ag n4 (i+1,as0_.set (b1.toNat:Int).toNat true) (Nat.lt_succ_self n4) hm
  ·refine W.exit X ?_;have hr13:=Si hm;clear hm;subst hr13;have hm:=hk3;try dsimp only at hm
   refine Aq<|Aw<|Co (.mP 2 Y210 Z210 X)<|WL.opU (OpR.storeB (b:=b) 2 Z210 (aN.is (tA 256 tB) as0_) X) fun _=>Co (.assign .bool)<|WL.ns ?_;cases hm;exact W.retQ2 () X X (ResAt.cell 2 Y210 Z210 X .r) (ResAt.tmp .r) trivial
instance EH(n:Nat)(chars:Str)(r:(List Bool)×Bool):z1 236 (M.strings_makeASCIISet n chars=some r) [tS.is chars] (Asn.tuple2 ((tA 256 tB).is r.1) (tB.is r.2)):=⟨Tryz.call236,fun hm=>vv n chars r hm⟩
theorem sO(as0_:List Bool)(c:Int)(r:Bool)(hm:M.dR as0_ c=some r):FSpec Tryz.prog 281 [(tA 256 tB).ptr as0_,(tI .u8).is c] (tB.is r):=by
 unfold M.dR at hm;refine FSpec.of Tryz.func281 X X X fun g0=>Aw<|Co (.assign .bool)<|Ar<|Cm X<|Cm X<|Co .nilCheck ?_;obtain ⟨v,hv1,hm⟩:=Bs hm;refine Co (.idxA hv1 U210 Z4)<|Co (.load ty4.h)<|Cg X<|WL.ns ?_;cases hm;exact W.e1
instance Ce(as0_:List Bool)(c:Int)(r:Bool):z1 281 (M.dR as0_ c=some r) [(tA 256 tB).ptr as0_,(tI .u8).is c] (tB.is r):=⟨Tryz.call281,fun hm=>sO as0_ c r hm⟩
abbrev zU:=fun (s1_:List ax)(s2_:List ax)(nn:Nat)(s0:Int)=>mkLp (M.bi s1_ s2_ nn s0) (fun mm s=>M.bi s1_ s2_ mm s) nn s0 [0,1,12] [] (fun s _ _ _ _ _ _ e=>(13,I6.is s)::e) z7 (fun _=>M.bi.eq_1 ..) (fun _ _=>M.bi.eq_2 ..)
abbrev zV:=fun (s1_:List af)(s2_:List af)(nn:Nat)(s0:Int)=>mkLp (M.bn s1_ s2_ nn s0) (fun mm s=>M.bn s1_ s2_ mm s) nn s0 [0,1,12] [] (fun s _ _ _ _ _ _ e=>(13,I6.is s)::e) z7 (fun _=>M.bn.eq_1 ..) (fun _ _=>M.bn.eq_2 ..)
abbrev ug:=fun (s2_:List aa)(eq:aa->aa->Option Bool)(nn:List aa)(ii:Int)=>mkRi (M.aJ s2_ eq nn ii) (fun mm jj s=>M.aJ s2_ eq mm jj) nn ii () 17 [1,2,15,16] [] z7 z7 (fun _ _=>M.aJ.eq_1 ..) (fun _ _ _ _=>M.aJ.eq_2 ..)
abbrev uh:=fun (s2_:List ah)(eq:ah->ah->Option Bool)(nn:List ah)(ii:Int)=>mkRi (M.aQ s2_ eq nn ii) (fun mm jj s=>M.aQ s2_ eq mm jj) nn ii () 17 [1,2,15,16] [] z7 z7 (fun _ _=>M.aQ.eq_1 ..) (fun _ _ _ _=>M.aQ.eq_2 ..)
abbrev Sy:=fun (u:aa)(slf:aa->Option (List aa))(nn:Nat)(s0:(List aa))(s1:Int)=>mkLp (τ:=(List aa)×Int) (M.iO u slf nn s0 s1) (fun mm s=>M.iO u slf mm s.1 s.2) nn (s0,s1) [1] [] (fun s k1 _ _ _ _ _ e=>(3,tO ae k1 s.1)::(4,I6.is s.2)::e) (fun s k1 _ _ _ _ _ e=>(6,Dec.Own ae 27 k1 s.1.length)::e) (fun _=>M.iO.eq_1 ..) (fun _ _=>M.iO.eq_2 ..)
abbrev VD:=fun (u:aa)(id:ai)(slf:aa->ai->Option (aa×Int))(nn:Nat)(s0:Int)(s1:aa)=>mkLp (τ:=Int×aa) (M.gK u id slf nn s0 s1) (fun mm s=>M.gK u id slf mm s.1 s.2) nn (s0,s1) [2,3,4] [] (fun s _ _ _ _ _ _ e=>(6,I6.is s.1)::e) (fun s _ _ _ b1 _ _ e=>(4,Bx 8 true 27 (ae.is s.2) b1)::e) (fun _=>M.gK.eq_1 ..) (fun _ _=>M.gK.eq_2 ..)
abbrev QZ:=fun (u:aa)(id:ai)(nn:Nat)(s0:Int)(s1:aa)=>mkLp (τ:=Int×aa) (M.dU u id nn s0 s1) (fun mm s=>M.dU u id mm s.1 s.2) nn (s0,s1) [2,3,4] [] (fun s _ _ _ _ _ _ e=>(7,I6.is s.1)::e) (fun s _ _ _ b1 _ _ e=>(4,Bx 8 true 27 (ae.is s.2) b1)::e) (fun _=>M.dU.eq_1 ..) (fun _ _=>M.dU.eq_2 ..)
abbrev Q0:=fun (u:aa)(id:ai)(slf:aa->ai->Option (aa×Int×Int))(nn:Nat)(s0:Int)(s1:aa)=>mkLp (τ:=Int×aa) (M.dS u id slf nn s0 s1) (fun mm s=>M.dS u id slf mm s.1 s.2) nn (s0,s1) [2,3,4] [] (fun s _ _ _ _ _ _ e=>(8,I6.is s.1)::e) (fun s _ _ _ b1 _ _ e=>(4,Bx 8 true 27 (ae.is s.2) b1)::e) (fun _=>M.dS.eq_1 ..) (fun _ _=>M.dS.eq_2 ..)
abbrev SA:=fun (l:List af)(nn:Nat)(s0:(List Str))(s1:Int)=>mkLp (τ:=(List Str)×Int) (M.iV l nn s0 s1) (fun mm s=>M.iV l mm s.1 s.2) nn (s0,s1) [0] [] (fun s k1 _ _ _ _ _ e=>(3,tO tS k1 s.1)::(4,I6.is s.2)::e) (fun s k1 _ _ _ _ _ e=>(5,Dec.Own tS 9 k1 s.1.length)::e) (fun _=>M.iV.eq_1 ..) (fun _ _=>M.iV.eq_2 ..)
abbrev UT:=fun (l:List Str)(act:Int)(item:Int)(from0_:Int)(nn:Nat)(s0:(List af))(s1:Int)=>mkLp (τ:=(List af)×Int) (M.jD l act item from0_ nn s0 s1) (fun mm s=>M.jD l act item from0_ mm s.1 s.2) nn (s0,s1) [0,1,2,3] [] (fun s k1 _ _ _ _ _ e=>(9,tO aj k1 s.1)::(10,I6.is s.2)::e) (fun s k1 _ _ _ _ _ e=>(11,Dec.Own aj 98 k1 s.1.length)::e) (fun _=>M.jD.eq_1 ..) (fun _ _=>M.jD.eq_2 ..)
abbrev SB:=fun (l:List aa)(kind:Int)(label:Str)(nn:Nat)(s0:Int)=>mkLp (M.gL l kind label nn s0) (fun mm s=>M.gL l kind label mm s) nn s0 [0,1,2] [] (fun s _ _ _ _ _ _ e=>(7,I6.is s)::e) z7 (fun _=>M.gL.eq_1 ..) (fun _ _=>M.gL.eq_2 ..)
attribute [instance] zU zV ug uh Sy VD QZ Q0 SA UT SB
section
attribute [local irreducible] W WL WN DM Op1 OpR Opd Dep
instance HY(it:ah)(r:ah):z1 158 (M.rf it=some r) [aD.is it] (aD.is r):=.fx Tryz.call158 Tryz.func158 (M.rf.eq_1 ..)
instance zi(n:Nat)(s1_:List ax)(s2_:List ax)(r:Bool):z1 163 (M.dG n s1_ s2_=some r) [(tL bu).is s1_,(tL bu).is s2_] (tB.is r):=.fx Tryz.call163 Tryz.func163 (M.dG.eq_1 ..)
instance zk(n:Nat)(s1_:List af)(s2_:List af)(r:Bool):z1 241 (M.dH n s1_ s2_=some r) [(tL aj).is s1_,(tL aj).is s2_] (tB.is r):=.fx Tryz.call241 Tryz.func241 (M.dH.eq_1 ..)
instance sZ(s1_:List aa)(s2_:List aa)(eq:aa->aa->Option Bool)(r:Bool):z1 242 (M.bP s1_ s2_ eq=some r) [(tL ae).is s1_,(tL ae).is s2_,(tF Tryz.prog (fun s:aa×aa×Bool=>eq s.1 s.2.1=some s.2.2) (fun s:aa×aa×Bool=>[ae.is s.1,ae.is s.2.1]) (fun s:aa×aa×Bool=>(tB.is s.2.2)))] (tB.is r):=.fx Tryz.call242 Tryz.func242 (M.bP.eq_1 ..) [8,9]
instance tq(s1_:List ah)(s2_:List ah)(eq:ah->ah->Option Bool)(r:Bool):z1 166 (M.bQ s1_ s2_ eq=some r) [(tL aD).is s1_,(tL aD).is s2_,(tF Tryz.prog (fun s:ah×ah×Bool=>eq s.1 s.2.1=some s.2.2) (fun s:ah×ah×Bool=>[aD.is s.1,aD.is s.2.1]) (fun s:ah×ah×Bool=>(tB.is s.2.2)))] (tB.is r):=.fx Tryz.call166 Tryz.func166 (M.bQ.eq_1 ..) [8,9]
instance Ka(x:aa)(x1:aa)(r:az):z1 69 (M.qQ x x1=some r) [ae.is x,ae.is x1] (aL.is r):=.fx Tryz.call69 Tryz.func69 (M.qQ.eq_1 ..)
instance Pp:∀ (n:Nat) (u:aa) (r:List aa),z1 87 (M.ny n u=some r) [ae.is u] ((tL ae).is r):=by
 intro n;induction n with
 | zero=>exact fun _ _=>⟨Tryz.call87,fun hm=>by cases hm⟩
 | succ n ih=>
  intro u r;refine SpC.of Tryz.call87 Tryz.func87 X X fun g0 hm=>?_;rw [M.ny.eq_2] at hm;exact Fx hm
instance UR(u:aa)(s0_:ax)(r:Bool):z1 243 (M.Bc u s0_=some r) [ae.is u,bu.is s0_] (tB.is r):=.fx Tryz.call243 Tryz.func243 (M.Bc.eq_1 ..)
instance Sz:∀ (n:Nat) (u:aa) (id:ai) (r:aa×Int),z1 37 (M.iR n u id=some r) [ae.is u,aB.is id] (Asn.tuple2 (ae.is r.1) (I6.is r.2)):=by
 intro n;induction n with
 | zero=>exact fun _ _ _=>⟨Tryz.call37,fun hm=>by cases hm⟩
 | succ n ih=>
  intro u id r;refine SpC.of Tryz.call37 Tryz.func37 X X fun g0 hm=>?_;rw [M.iR.eq_2] at hm;exact Fx hm
instance Ot:∀ (n:Nat) (u:aa) (id:ai) (r:aa×Int×Int),z1 38 (M.fT n u id=some r) [ae.is u,aB.is id] (Asn.tuple3 (ae.is r.1) (I6.is r.2.1) (I6.is r.2.2)):=by
 intro n;induction n with
 | zero=>exact fun _ _ _=>⟨Tryz.call38,fun hm=>by cases hm⟩
 | succ n ih=>
  intro u id r;refine SpC.of Tryz.call38 Tryz.func38 X X fun g0 hm=>?_;rw [M.fT.eq_2] at hm;exact Fx hm
instance Pq(n:Nat)(l:List af)(r:List Str):z1 244 (M.uN n l=some r) [(tL aj).is l] ((tL tS).is r):=.fx Tryz.call244 Tryz.func244 (M.uN.eq_1 ..)
instance Q3(n:Nat)(l:List Str)(act:Int)(item:Int)(from0_:Int)(r:List af):z6 42 (M.qR n l act item from0_=some r) (fun _ _ _ _=>[(tL tS).is l,I6.is act,I6.is item,I6.is from0_]) (fun _ _ _ _=>[]) _ (fun _ _ _ _=>(fun k:Tok=>tO aj k r)) (fun _ _ _ _=>(fun k=>[(77777,Dec.Own aj 98 k r.length)])):=.fx Tryz.call42 Tryz.func42 (M.qR.eq_1 ..)
instance Ps(n:Nat)(l:List aa)(kind:Int)(label:Str)(r:Bool):z1 43 (M.sN n l kind label=some r) [(tL ae).is l,I6.is kind,tS.is label] (tB.is r):=.fx Tryz.call43 Tryz.func43 (M.sN.eq_1 ..)
end
end Go.Proofs.YtapobcikfdbjiaaGreatDoor
