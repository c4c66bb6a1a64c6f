/-
  The code does what the models say: written by program.
-/
import Derived.Test.YtapobcikfdbjiaaGreatDoorVg
set_option linter.unusedVariables false
set_option linter.unusedSimpArgs false
namespace Go.Proofs.YtapobcikfdbjiaaGreatDoor
open Go Go.Dec
set_option maxRecDepth 1000000
set_option maxHeartbeats 4000000
abbrev Nf:=fun (slf:aa->(List ai)->Option (Bool×(List ai)))(nn:List aa)(s0:List ai)=>mkRg (τ:=List ai) (M.eG slf nn s0) (fun mm jj s=>M.eG slf mm s) nn s0 14 [1,12,13] [] z7 (fun s k1 _ _ b1 _ _ e=>(1500100,Dec.Own aB 23 k1 s.length)::(500100,Bx 1 false 104 (tO aB k1 s) b1)::e) (fun _ _=>M.eG.eq_1 ..) (fun _ _ _ _=>M.eG.eq_2 ..)
abbrev Kc:=fun (l:List Str)(part:List Str)(nn:Nat)(s0:(List Int))(s1:Int)=>mkLp (τ:=(List Int)×Int) (M.bR l part nn s0 s1) (fun mm s=>M.bR l part mm s.1 s.2) nn (s0,s1) [0,1] [] (fun s k1 _ _ _ _ _ e=>(5,tO I6 k1 s.1)::(6,I6.is s.2)::e) (fun s k1 _ _ _ _ _ e=>(5,Dec.Own I6 3 k1 s.1.length)::e) (fun _=>M.bR.eq_1 ..) (fun _ _=>M.bR.eq_2 ..)
abbrev Ed:=fun (as0_:List Bool)(nn:Nat)(s0:Str)=>mkLp (M.bK as0_ nn s0) (fun mm s=>M.bK as0_ mm s) nn s0 [1] [] (fun s _ _ _ _ _ _ e=>(0,tS.is s)::e) z7 (fun _=>M.bK.eq_1 ..) (fun _ _=>M.bK.eq_2 ..)
abbrev En:=fun (as0_:List Bool)(nn:Nat)(s0:Str)=>mkLp (M.dD as0_ nn s0) (fun mm s=>M.dD as0_ mm s) nn s0 [1] [] (fun s _ _ _ _ _ _ e=>(0,tS.is s)::e) z7 (fun _=>M.dD.eq_1 ..) (fun _ _=>M.dD.eq_2 ..)
attribute [instance] Nf Kc Ed En
section
attribute [local irreducible] W WL WN DM Op1 OpR Opd Dep
instance Kb:∀ (n:Nat) (u:aa) (c:List ai) (r:Bool×(List ai)),z6 215 (M.kT n u c=some r) (fun b _ k _=>[ae.is u,cloA 217 [Bp b 0]]) (fun b _ k _=>[(500100,Bx 1 false 104 (tO aB k c) b),(1500100,Dec.Own aB 23 k c.length)]) _ (fun b _ k _=>(fun kx:Tok=>(tB.is r.1))) (fun b _ k _=>(fun kx:Tok=>[(500100,Bx 1 false 104 (tO aB kx r.2) b),(1500100,Dec.Own aB 23 kx r.2.length)])):=by
  intro n;induction n with
  | zero=>exact fun _ _ _=>⟨Tryz.call215,fun hm=>by cases hm⟩
  | succ n ih=>intro u c r;refine SpR.of Tryz.call215 Tryz.func215 X (fun _ _ _ _=>X) fun b _ k _ g0 hm=>?_;rw [M.kT.eq_2] at hm;exact Fx hm [6]
instance xX(n:Nat)(s0_:List ai)(f:ai->Option Bool)(r:Bool):z1 121 (M.bf n s0_ f=some r) [(tL aB).is s0_,(tF Tryz.prog (fun s:ai×Bool=>f s.1=some s.2) (fun s:ai×Bool=>[aB.is s.1]) (fun s:ai×Bool=>(tB.is s.2)))] (tB.is r):=.fx Tryz.call121 Tryz.func121 (M.bf.eq_1 ..)
end
theorem bV(l:List aa)(r:List aa)(hm:M.bz l=some r):aT Tryz.prog 220 [(tL ae).is l] [] (fun k:Tok=>tU k r.length) (fun k=>[(5,OwnU ae 27 k r)]):=by
 unfold M.bz at hm;refine aT.of Tryz.func220 X X X fun g0=>W.seq<|W.region<|Co (.assign (.nil (t:=ae)))<|WL.nil<|Aq<|W.seq<|W.seq<|W.region<|Co .move<|Cr (OpR.eqNil U25) fun b=>WL.nil<|Aq<|W.cond .r (fun hc=>?_) (fun hc=>?_)
 ·have hl:=b.2 hc;subst hl;have hr:[]=r:=by simpa [appC] using hm
  subst hr;exact W.seq<|W.region<|WL.addNil (t:=ae) (E:=27) 5<|Co (.assign (Opd.nilO (t:=ae)))<|WL.freeU 2 5 X X<|WL.nil<|Aq<|W.ret1 (none:Tok) X .r ⟨X,X,trivial⟩
 ·refine W.skip<|Aq<|W.seq<|W.region<|Cr (OpR.buildSlice (n:=0) (ys:=[]) (z:=au) (xs:=[]) 5 U25 el27.h ze27.h trivial (by simp) (by decide) X) (fun k5=>?_);by_cases hn:l= []
  ·subst hn;have hr:[]=r:=by simpa [appC] using hm
   subst hr;exact Co .move<|Cr (OpR.appC (key:=5) hm U25 el27.h .r .r X) fun k7=>Co .assign<|WL.freeU 2 5 X X<|WL.nil<|Aq<|W.ret1 k7 X .r ⟨X,X,trivial⟩
  ·exact WL.freeU 5 5 X X<|Co .move<|Cr (OpR.appendL (key:=5) hm hn U25 el27.h .r .r X) fun k7=>Co .assign<|WL.nil<|Aq<|W.ret1 k7 X .r ⟨X,X,trivial⟩
section
attribute [local irreducible] W WL WN DM Op1 OpR Opd Dep
instance HZ(n:Nat)(l:List Str)(part:List Str)(r:List Int):z1 270 (M.lU n l part=some r) [(tL tS).is l,(tL tS).is part] ((tL I6).is r):=.fx Tryz.call270 Tryz.func270 (M.lU.eq_1 ..)
end
theorem sP(n:Nat)(w:List af)(places:List Int)(gone:Int)(fresh:List Str)(act:Int)(item:Int)(r:(List af)×Int)(hm:M.nP n w places gone fresh act item=some r):FSpec Tryz.prog 226 [(tL aj).is w,(tL I6).is places,I6.is gone,(tL tS).is fresh,I6.is act,I6.is item] (Asn.tuple2 ((tL aj).is r.1) (I6.is r.2)):=by
 unfold M.nP at hm;refine FSpec.of Tryz.func226 X X X fun g0=>Aw<|Co (.assign (.nil (t:=aj)))<|Co (.assign .i64)<|Ar<|Cm X<|Co (.nM U24) ?_;obtain ⟨mk,hv1,hm⟩:=Bs hm;refine Cr (OpR.loosen fl98 (OpR.makeSlice (k:=.i64) 20 hv1 U24 el98.h ze98.h)) fun k=>Cg X<|Ar<|Cm X<|WL.mv X X ?_;obtain ⟨w1,hv2,hm⟩:=Bs hm;refine Cr (OpR.copyUC (key:=20) hv2 U24 Z98 X) fun _=>WL.nil<|WN.sI 14 (uI hv2) X<|WN.sI 20 (uI hv2) X<|WN.sI 21 (uI hv2) X<|Aq<|W.seq<|Aw<|WL.fixU 14 20 X X<|WL.sameU 14 20 X X<|WL.sameU 14 21 X X<|Cm X<|Co (.nM U131) ?_;obtain ⟨v,hv3,hm⟩:=Bs hm;refine Co (.subC hv3 .r .i64)<|Cg X<|An<|W.block ?_;obtain ⟨s4,hs5,hk6⟩:=Bs hm;clear hm;refine W.loop (fun m (s:(List af)×Int)=>M.gY places gone fresh act item m s.1 s.2=some s4) (fun s=>[(14,((tL aj).is s.1)),(15,(I6.is s.2)),(1,((tL I6).is places)),(2,(I6.is gone)),(3,((tL tS).is fresh)),(4,(I6.is act)),(5,(I6.is item))]) (fun s=>[]) _ (w1,v) hs5 ⟨Ent.o X,.q X,.q X,.q X,.q X,.q X,.q X,trivial⟩ trivial ?_;rintro n7 ⟨out,i⟩ hm;try dsimp only at hm
 cases n7 with
 | zero=>rw [M.gY.eq_1] at hm;cases hm
 | succ n7=>
  rw [M.gY.eq_2] at hm;refine W.seq<|Aw<|Cm X<|Co (.geI .r .i64)<|An<|W.cD hm .r (fun hp9 hm=>?_) (fun hp9 hm=>?_)
  ·refine W.skip<|Aq<|W.seq<|W.block<|Aw<|Cm X<|WL.mv X X ?_;obtain ⟨v1,hv10,hm⟩:=Bs hm;refine Co (.idx hv10 U131 Z3)<|Co (.load ty3.h)<|Cg X<|Ar<|Cm X<|Cm X<|WL.mv X X ?_;obtain ⟨v2,hv11,hm⟩:=Bs hm;refine Co (.addC hv11) ?_;obtain ⟨v3,hv12,hm⟩:=Bs hm;refine Co (.slcLo hv12 U24 Z98)<|Cg X<|WL.ns ?_;obtain ⟨v8,hv18,hm⟩:=Bs hm;obtain ⟨v9,hv19,hm⟩:=Bs hm;obtain ⟨mark1,hv20,hm⟩:=Bs hm;obtain ⟨v10,hv21,hm⟩:=Bs hm;obtain ⟨v11,hv22,hm⟩:=Bs hm;refine W.weakR (res':=[]) trivial<|W.dM [.c ((tL aj).is out),.c (I6.is v1),.c (I6.is v1),.c (tLx aj v8),.c ((tL tS).is fresh),.c (I6.is act),.c (I6.is item),.c (I6.is i),.c ((tL tS).is fresh),.c (I6.is (fresh.length:Int)),.c (I6.is v9),.c ((tL aj).is mark1),.f (fun cv=>(tOE aj (cv 0) v10)),.c ((tL aj).is v3),.c ((tL aj).is v11),.c ((tL aj).is v11)] [([],[14]),([],[16]),([],[16]),([0,1,2],[]),([],[3]),([],[4]),([],[5]),([],[15]),([],[3]),([8],[]),([7,9],[]),([4,5,6,10],[]),([3,11],[]),([],[17]),([12,13],[]),([14],[])] [12,14] [[],[],[],[],[],[],[],[],[],[],[],[],[true],[],[],[]] (fun m cv=>match m with | 0=>[] | 1=>[(52,OwnE aj 98 (cv 0) v10.length)] | _=>[]) Mx ⟨mo fun cv=>.move,mo fun cv=>.move,mo fun cv=>.move,mo fun cv=>.slice3 hv18 U24 Z98,mo fun cv=>.move,mo fun cv=>.move,mo fun cv=>.move,mo fun cv=>.move,mo fun cv=>.move,mo fun cv=>.nM U45,mo fun cv=>.mulC hv19,mo fun cv=>.call C132 (((vM _ _ _ _ _).h hv20 0 0 none none).read fun _ _ _=>vU) ⟨.r,.r,.r,.r,trivial⟩,.inl X,mo fun cv=>.move,.inl X,mo fun cv=>.assign,trivial⟩ ⟨⟨_,_,_,[],(fun cv=>[(52,OwnE aj 98 (cv 0) v10.length)]),X,X,X,X,fun _=>X,fun _ _=>X,fun cv=>OpR.appendX (key:=52) hv21 U24 el98.h .r .r⟩,⟨_,_,_,[52],(fun cv=>[]),X,X,X,X,fun _=>X,fun _ _=>X,fun cv=>OpR.appendE (key:=52) hv22 U24 el98.h .r .r X⟩,trivial⟩ fun cv=>WN.block<|Aq<|W.region<|WL.mv X X ?_;obtain ⟨v12,hv23,hm⟩:=Bs hm;exact Co (.subC hv23 .r .i64)<|Cg X<|WL.nil<|WN.ag n7 (v11,v12) (Nat.lt_succ_self n7) hm
  ·refine W.exit X ?_;have hr24:=Si hm;clear hm;subst hr24;have hm:=hk6;try dsimp only at hm
   refine Aq<|W.seq<|Aw<|Cm X<|Co (.nM U24)<|Co (.gtI .r .i64)<|An<|W.cD hm .r (fun hp26 hm=>?_) (fun hp26 hm=>?_)
   ·refine Aw<|Co (.assign (.nil (t:=aj)))<|Co (.assign .i64)<|WL.ns ?_;cases hm;exact W.ret2 () X X .r .r trivial
   ·refine W.skip<|Aq<|Aw<|Cm X<|Cg X<|Co (.assign .i64)<|WL.ns ?_;cases hm;exact W.ret2 () X X .r .r trivial
instance Pt(n:Nat)(w:List af)(places:List Int)(gone:Int)(fresh:List Str)(act:Int)(item:Int)(r:(List af)×Int):z1 226 (M.nP n w places gone fresh act item=some r) [(tL aj).is w,(tL I6).is places,I6.is gone,(tL tS).is fresh,I6.is act,I6.is item] (Asn.tuple2 ((tL aj).is r.1) (I6.is r.2)):=⟨Tryz.call226,fun hm=>sP n w places gone fresh act item r hm⟩
section
attribute [local irreducible] W WL WN DM Op1 OpR Opd Dep
instance LX(n0_:Int)(r:Bool):z1 138 (M.qC n0_=some r) [I6.is n0_] (tB.is r):=.fx Tryz.call138 Tryz.func138 (M.qC.eq_1 ..)
instance xY(n:Nat)(s0_:List Str)(f:Str->Option Bool)(r:Bool):z1 276 (M.dQ n s0_ f=some r) [(tL tS).is s0_,(tF Tryz.prog (fun s:Str×Bool=>f s.1=some s.2) (fun s:Str×Bool=>[tS.is s.1]) (fun s:Str×Bool=>(tB.is s.2)))] (tB.is r):=.fx Tryz.call276 Tryz.func276 (M.dQ.eq_1 ..)
instance rD(n:Nat)(s0_:List Int)(f:Int->Option Bool)(r:Bool):z1 309 (M.fw n s0_ f=some r) [(tL (tI .u8)).is s0_,(tF Tryz.prog (fun s:Int×Bool=>f s.1=some s.2) (fun s:Int×Bool=>[(tI .u8).is s.1]) (fun s:Int×Bool=>(tB.is s.2)))] (tB.is r):=.fx Tryz.call309 Tryz.func309 (M.fw.eq_1 ..)
end
theorem Al(elems:List Str)(sep:Str)(r:Str)(hm:M.strings_Join elems sep=some r):FSpec Tryz.prog 273 [(tL tS).is elems,tS.is sep] (tS.is r):=by
 unfold M.strings_Join at hm;refine FSpec.of Tryz.func273 X X X fun g0=>Aw<|Co (.assign .s)<|An<|W.seq<|Aw<|Cm X<|Co (.nM U45)<|An<|W.block<|Aw<|Co (.eqI .r .i64)<|Cg X<|An<|W.cD hm .r (fun hp2 hm=>?_) (fun hp2 hm=>?_)
 ·refine Aw<|Co (.assign .s)<|WL.ns ?_;cases hm;exact W.e1
 ·refine Aw<|Co (.eqI .r .i64)<|Cg X<|An<|W.cD hm .r (fun hp4 hm=>?_) (fun hp4 hm=>?_)
  ·refine Aw<|WL.mv X X ?_;obtain ⟨v,hv5,hm⟩:=Bs hm;refine Co (.idx hv5 U45 Z9 .r .i64)<|Co (.load ty9.h)<|Cg X<|WL.ns ?_;cases hm;exact W.e1
  ·refine W.skip<|WN.block<|Aq<|Aw<|Co (.assign .i64)<|WL.ns ?_;obtain ⟨s6,hs7,hk8⟩:=Bs hm;clear hm;refine W.join (fun s:Int=>s=s6) (fun s=>[(5,(I6.is s)),(0,((tL tS).is elems)),(1,(tS.is sep))]) (fun s=>[]) ?_ ?_
   ·rintro n0_ hj58;try dsimp only at hj58
    subst hj58;have hm:=hk8;clear hk8;try dsimp only at hm
    refine W.seq<|Aw<|Cm X<|Co (.nM U45)<|Co (.move .i64)<|An<|W.block ?_;obtain ⟨s22,hs23,hk24⟩:=Bs hm;clear hm;refine W.lp (fun m (s:Int×List Str×List Str×Int)=>m=s.2.2.1.length/\elems=s.2.1++s.2.2.1/\s.1=(s.2.1.length:Int)/\M.je s.2.2.1 s.2.2.2=some s22) (fun s=>[(41,(I6.is s.1)),(5,(I6.is s.2.2.2)),(0,((tL tS).is elems)),(1,(tS.is sep)),(39,((tL tS).is elems)),(40,(I6.is (elems.length:Int)))]) (fun s=>[]) elems.length ((0:Int),[],elems,n0_) ⟨X,X,X,hs23⟩ ?_;rintro m ⟨i,pre,rest3,n0_1⟩ ⟨hn28,hxs25,hi26,hm⟩;try dsimp only at hn28 hxs25 hi26 hm
    refine W.nM (s:=39) .r fun hlen27=>Aw<|Co .ltI<|An<|W.seq<|W.cond .r (fun hc30=>?_) (fun hc30=>?_)
    ·have hp31:=of_decide_eq_true hc30;obtain ⟨e,es,hrest33⟩:=mD hxs25 hi26 hp31;subst hrest33;rw [M.je.eq_2] at hm;refine W.skip<|Aq<|W.seq<|W.block<|Aw<|Co (.idxPre hxs25 hi26 U45 Z9)<|Co (.load ty9.h)<|Cg X<|An<|W.seq<|Aw<|Cm X<|Co (.CE U9)<|WL.mv X X ?_;obtain ⟨v6,hv34,hm⟩:=Bs hm;refine Co (.subC hv34 .i64)<|Co .gtI<|An<|W.cD hm .r (fun hp36 hm=>?_) (fun hp36 hm=>?_)
     ·cases hm
     ·refine W.skip<|Aq<|W.region<|Cm X<|Cm X<|Co (.CE U9) ?_;obtain ⟨v7,hv37,hm⟩:=Bs hm;exact Co (.addC hv37)<|Cg X<|WL.nil<|WN.block<|Aq<|W.region<|Co (.addI .r .i64 (oU hi26 hp31 hlen27))<|Cm X<|WL.nil<|WN.ag es.length (i+1,pre++ [e],es,v7) (qI hn28) ⟨X,mE hxs25,oQ hi26,hm⟩
    ·have hrest33:=oP hxs25 hi26 (of_decide_eq_false hc30);subst hrest33;rw [M.je.eq_1] at hm;refine W.exit X ?_;have hr38:=Si hm;clear hm;subst hr38;have hm:=hk24;try dsimp only at hm
     refine Aq<|Aw<|WL.addNil (t:=(tI .u8)) (E:=5) 1000008<|Cr (OpR.allocBld 8 Tryz.zeroValue248) fun b=>Ar<|WL.mv X X ?_;obtain ⟨_,hv39,hm⟩:=Bs hm;refine WL.weakR (res':=[(8,(Bx 2 true 248 (bldA (none:Tok) ([]:Str) b) b)),(1000008,Dec.Own (tI .u8) 5 (none:Tok) ([]:Str).length)]) ⟨X,X,X,X,trivial⟩<|Cr (OpR.call (us:=[8,1000008]) (A:=fun kx:Tok=>(Asn.eq (.tuple #[]))) C304 (aT.keys (rin':=[(8,(Bx 2 true 248 (bldA (none:Tok) ([]:Str) b) b)),(1000008,Dec.Own (tI .u8) 5 (none:Tok) ([]:Str).length)]) (out':=fun kx:Tok=>[(8,(Bx 2 true 248 (bldA kx ([]:Str) b) b)),(1000008,Dec.Own (tI .u8) 5 kx ([]:Str).length)]) (vo _ _ hv39) X (fun _=>X)) X ⟨.r,.r,trivial⟩) fun k=>Ar<|WL.mv X X ?_;obtain ⟨v8,hv40,hm⟩:=Bs hm;refine Co (.idx hv40 U45 Z9 .r .i64)<|Co (.load ty9.h) ?_;obtain ⟨b1,hv41,hm⟩:=Bs hm;refine WL.weakR (res':=[(8,(Bx 2 true 248 (bldA k ([]:Str) b) b)),(1000008,Dec.Own (tI .u8) 5 k ([]:Str).length)]) ⟨X,X,X,X,trivial⟩<|Cr (OpR.call (us:=[8,1000008]) (A:=fun kx:Tok=>Asn.any) C305 (aT.keys (rin':=[(8,(Bx 2 true 248 (bldA k ([]:Str) b) b)),(1000008,Dec.Own (tI .u8) 5 k ([]:Str).length)]) (out':=fun kx:Tok=>[(8,(Bx 2 true 248 (bldA kx b1 b) b)),(1000008,Dec.Own (tI .u8) 5 kx b1.length)]) (jG _ _ _ _ _ hv41) X (fun _=>X)) X ⟨.r,.r,trivial⟩) fun k1=>An<|W.seq<|Aw<|WL.mv X X ?_;obtain ⟨v9,hv42,hm⟩:=Bs hm;refine Co (.slcLo hv42 U45 Z9 .r .i64)<|Co (.nM U45)<|Co (.move .i64)<|An<|W.block ?_;obtain ⟨s43,hs44,hk45⟩:=Bs hm;clear hm;refine W.lp (fun m (s:Int×List Str×List Str×((Str)×Tok))=>m=s.2.2.1.length/\v9=s.2.1++s.2.2.1/\s.1=(s.2.1.length:Int)/\M.fF sep s.2.2.1 s.2.2.2.1=some s43) (fun s=>[(65,(I6.is s.1)),(1,(tS.is sep)),(8,(Bp b 0)),(63,((tL tS).is v9)),(64,(I6.is (v9.length:Int)))]) (fun s=>[(1000008,Dec.Own (tI .u8) 5 s.2.2.2.2 s.2.2.2.1.length),(8,(Bx 2 true 248 (bldA s.2.2.2.2 s.2.2.2.1 b) b))]) v9.length ((0:Int),[],v9,(b1,k1)) ⟨X,X,X,hs44⟩ ?_;rintro m ⟨i1,pre1,rest2,b2,k2⟩ ⟨hn49,hxs46,hi47,hm⟩;try dsimp only at hn49 hxs46 hi47 hm
     refine W.nM (s:=63) .r fun hlen48=>Aw<|Co .ltI<|An<|W.seq<|W.cond .r (fun hc51=>?_) (fun hc51=>?_)
     ·have hp52:=of_decide_eq_true hc51;obtain ⟨e1,es1,hrest54⟩:=mD hxs46 hi47 hp52;subst hrest54;rw [M.fF.eq_2] at hm;refine W.skip<|Aq<|W.seq<|W.block<|Aw<|Co (.idxPre hxs46 hi47 U45 Z9)<|Co (.load ty9.h)<|Cg X<|Ar<|WL.mv X X ?_;obtain ⟨b3,hv55,hm⟩:=Bs hm;refine WL.weakR (res':=[(8,(Bx 2 true 248 (bldA k2 b2 b) b)),(1000008,Dec.Own (tI .u8) 5 k2 b2.length)]) ⟨X,X,X,X,trivial⟩<|Cr (OpR.call (us:=[8,1000008]) (A:=fun kx:Tok=>Asn.any) C305 (aT.keys (rin':=[(8,(Bx 2 true 248 (bldA k2 b2 b) b)),(1000008,Dec.Own (tI .u8) 5 k2 b2.length)]) (out':=fun kx:Tok=>[(8,(Bx 2 true 248 (bldA kx b3 b) b)),(1000008,Dec.Own (tI .u8) 5 kx b3.length)]) (jG _ _ _ _ _ hv55) X (fun _=>X)) X ⟨.r,.r,trivial⟩) fun k3=>WL.nr1<|WL.mv X X ?_;obtain ⟨b4,hv56,hm⟩:=Bs hm;exact WL.weakR (res':=[(8,(Bx 2 true 248 (bldA k3 b3 b) b)),(1000008,Dec.Own (tI .u8) 5 k3 b3.length)]) ⟨X,X,X,X,trivial⟩<|Cr (OpR.call (us:=[8,1000008]) (A:=fun kx:Tok=>Asn.any) C305 (aT.keys (rin':=[(8,(Bx 2 true 248 (bldA k3 b3 b) b)),(1000008,Dec.Own (tI .u8) 5 k3 b3.length)]) (out':=fun kx:Tok=>[(8,(Bx 2 true 248 (bldA kx b4 b) b)),(1000008,Dec.Own (tI .u8) 5 kx b4.length)]) (jG _ _ _ _ _ hv56) X (fun _=>X)) X ⟨.r,.r,trivial⟩) fun k4=>WL.nil<|WN.block<|Aq<|W.region<|Co (.addI .r .i64 (oU hi47 hp52 hlen48))<|Cm X<|WL.nil<|WN.ag es1.length (i1+1,pre1++ [e1],es1,(b4,k4)) (qI hn49) ⟨X,mE hxs46,oQ hi47,hm⟩
     ·have hrest54:=oP hxs46 hi47 (of_decide_eq_false hc51);subst hrest54;rw [M.fF.eq_1] at hm;refine W.exit X ?_;have hr57:=Si hm;clear hm;subst hr57;have hm:=hk45;try dsimp only at hm
      refine Aq<|Aw<|WL.weakR (res':=[(8,(Bx 2 true 248 (bldA k2 b2 b) b)),(1000008,Dec.Own (tI .u8) 5 k2 b2.length)]) ⟨X,X,X,X,trivial⟩<|Cr (OpR.call (us:=[8,1000008]) (A:=fun kx:Unit=>tS.is b2) C306 (aT.keys (rin':=[(8,(Bx 2 true 248 (bldA k2 b2 b) b)),(1000008,Dec.Own (tI .u8) 5 k2 b2.length)]) (out':=fun kx:Unit=>[]) (uE _ _ _) X (fun _=>X)) X ⟨.r,trivial⟩) fun _=>Cg X<|WL.ns ?_;cases hm;exact W.e1
   ·have hm:=hs7;clear hs7;refine Aw<|Cm X<|Co (.CE U9)<|Co (.gtI .r .i64)<|An<|W.cD hm .r (fun hp10 hm=>?_) (fun hp10 hm=>?_)
    ·obtain ⟨s11,hs12,hk13⟩:=Bs hm;clear hm;refine W.join (fun s:Unit=>s=s11) (fun s=>[(0,((tL tS).is elems)),(1,(tS.is sep)),(5,(I6.is (0:Int)))]) (fun s=>[]) ?_ ?_
     ·rintro _ hj21;try dsimp only at hj21
      subst hj21;have hm:=hk13;clear hk13;try dsimp only at hm
      refine W.region<|Cm X<|Cm X<|Co (.CE U9)<|Cm X<|Co (.nM U45) ?_;obtain ⟨v3,hv18,hm⟩:=Bs hm;refine Co (.subC hv18 .r .i64) ?_;obtain ⟨v4,hv19,hm⟩:=Bs hm;refine Co (.mulC hv19) ?_;obtain ⟨v5,hv20,hm⟩:=Bs hm;exact Co (.addC hv20)<|Cg X<|WL.nil<|WN.mt v5 (Si hm)
     ·have hm:=hs12;clear hs12;refine Aw<|Cm X<|Co (.CE U9)<|Cm X<|Co (.nM U45) ?_;obtain ⟨v1,hv14,hm⟩:=Bs hm;refine Co (.subC hv14 .r .i64) ?_;obtain ⟨v2,hv15,hm⟩:=Bs hm;refine Co (.quoC hv15 .i64)<|Co .geI<|An<|W.cD hm .r (fun hp17 hm=>?_) (fun hp17 hm=>?_)
      ·cases hm
      ·exact W.skip<|WN.mt () (Si hm)
    ·exact W.skip<|WN.mt (0:Int) (Si hm)
instance Ou(elems:List Str)(sep:Str)(r:Str):z1 273 (M.strings_Join elems sep=some r) [(tL tS).is elems,tS.is sep] (tS.is r):=⟨Tryz.call273,fun hm=>Al elems sep r hm⟩
section
attribute [local irreducible] W WL WN DM Op1 OpR Opd Dep
instance wY(n:Nat)(s0_:List af)(f:af->Option Bool)(r:Bool):z1 261 (M.bv n s0_ f=some r) [(tL aj).is s0_,((tFun Tryz.prog (fun (f:af->Option Bool)=>(fun s:af×Bool=>f s.1=some s.2)) (fun s:af×Bool=>[aj.is s.1]) (fun s:af×Bool=>(tB.is s.2))).is f)] (tB.is r):=.fx Tryz.call261 Tryz.func261 (M.bv.eq_1 ..)
instance Ov(it:ah)(r:Bool):z1 145 (M.sK it=some r) [aD.is it] (tB.is r):=.fx Tryz.call145 Tryz.func145 (M.sK.eq_1 ..)
instance Ct(n:Nat)(s0_:Str)(as0_:List Bool)(r:Str):z1 238 (M.strings_trimRightASCII n s0_ as0_=some r) [tS.is s0_,(tA 256 tB).ptr as0_] (tS.is r):=.fx Tryz.call238 Tryz.func238 (M.strings_trimRightASCII.eq_1 ..)
instance Dk(n:Nat)(s0_:Str)(as0_:List Bool)(r:Str):z1 237 (M.strings_trimLeftASCII n s0_ as0_=some r) [tS.is s0_,(tA 256 tB).ptr as0_] (tS.is r):=.fx Tryz.call237 Tryz.func237 (M.strings_trimLeftASCII.eq_1 ..)
instance Ow:∀ (n:Nat) (a:aa) (b:aa) (r:Bool),z1 165 (M.qm n a b=some r) [ae.is a,ae.is b] (tB.is r):=by
  intro n;induction n with
  | zero=>exact fun _ _ _=>⟨Tryz.call165,fun hm=>by cases hm⟩
  | succ n ih=>intro a b r;refine SpC.of Tryz.call165 Tryz.func165 X X fun g0 hm=>?_;rw [M.qm.eq_2] at hm;exact Fx hm
instance Ke(x:aa)(x1:aa)(r:az):z1 63 (M.mJ x x1=some r) [ae.is x,ae.is x1] (aL.is r):=.fx Tryz.call63 Tryz.func63 (M.mJ.eq_1 ..)
end
end Go.Proofs.YtapobcikfdbjiaaGreatDoor
