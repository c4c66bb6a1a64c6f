import Derived.Test.YtapobcikfdbjiaaGreatDoorVt
import Derived.Test.YtapobcikfdbjiaaGreatDoorVn
/-
  The code does what the models say: written by program.
-/
set_option linter.unusedVariables false
set_option linter.unusedSimpArgs false
namespace Go.Proofs.YtapobcikfdbjiaaGreatDoor
open Go Go.Dec
set_option maxRecDepth 1000000
set_option maxHeartbeats 4000000
abbrev Vf:=fun (nn:List ai)(s0:List (ai×Bool))=>mkRg (τ:=List (ai×Bool)) (M.eZ nn s0) (fun mm jj s=>M.eZ mm s) nn s0 13 [1,3,4,11,12] [] z7 (fun s _ _ _ b1 _ _ e=>(10,Mq aB tB s b1)::e) (fun _ _=>M.eZ.eq_1 ..) (fun _ _ _ _=>M.eZ.eq_2 ..)
abbrev Tt:=fun (p:List ax)(nn:Nat)(s0:(List aa))(s1:Int)=>mkLp (τ:=(List aa)×Int) (M.iQ p nn s0 s1) (fun mm s=>M.iQ p mm s.1 s.2) nn (s0,s1) [1] [] (fun s _ _ _ _ _ _ e=>(5,(tL ae).is s.1)::(8,I6.is s.2)::e) z7 (fun _=>M.iQ.eq_1 ..) (fun _ _=>M.iQ.eq_2 ..)
abbrev Tu:=fun (p:List ax)(now2:List aa)(k5:Int)(nn:Nat)(s0:(List aa))(s1:Int)=>mkLp (τ:=(List aa)×Int) (M.iP p now2 k5 nn s0 s1) (fun mm s=>M.iP p now2 k5 mm s.1 s.2) nn (s0,s1) [1,5,8] [] (fun s k1 _ _ _ _ _ e=>(9,tO ae k1 s.1)::(10,I6.is s.2)::e) (fun s k1 _ _ _ _ _ e=>(58,Dec.Own ae 27 k1 s.1.length)::e) (fun _=>M.iP.eq_1 ..) (fun _ _=>M.iP.eq_2 ..)
abbrev Tv:=fun (p:List ax)(now2:List aa)(k5:Int)(i1:Int)(nn:Nat)(s0:(List aa))(s1:Int)=>mkLp (τ:=(List aa)×Int) (M.gJ p now2 k5 i1 nn s0 s1) (fun mm s=>M.gJ p now2 k5 i1 mm s.1 s.2) nn (s0,s1) [1,5,8,10] [] (fun s k1 _ _ _ _ _ e=>(9,tO ae k1 s.1)::(11,I6.is s.2)::e) (fun s k1 _ _ _ _ _ e=>(58,Dec.Own ae 27 k1 s.1.length)::e) (fun _=>M.gJ.eq_1 ..) (fun _ _=>M.gJ.eq_2 ..)
abbrev Tw:=fun (p:List ax)(every:List aa)(nn:Nat)(s0:(List aa))(s1:Int)=>mkLp (τ:=(List aa)×Int) (M.gI p every nn s0 s1) (fun mm s=>M.gI p every mm s.1 s.2) nn (s0,s1) [1,6] [] (fun s k1 _ _ _ _ _ e=>(5,tO ae k1 s.1)::(7,I6.is s.2)::e) (fun s k1 _ _ _ _ _ e=>(20,Dec.Own ae 27 k1 s.1.length)::e) (fun _=>M.gI.eq_1 ..) (fun _ _=>M.gI.eq_2 ..)
attribute [instance] Vf Tt Tu Tv Tw
section
attribute [local irreducible] W WL WN DM Op1 OpR Opd Dep
instance Nl(n:Nat)(p:aa)(x:aa)(r:Int):z2 117 (M.l9 n p x=some r) [ae.is p,ae.is x] (I6.is r) [E1]:=.fx Tryz.call117 Tryz.func117 (M.l9.eq_1 ..)
end
theorem xw:∀ (n:Nat) (u:aa) (id:ai) (do0_:aa->Option aa) (r:aa),M.fQ n u id do0_=some r->FSpec Tryz.prog 124 [ae.is u,aB.is id,(tFW Tryz.prog aC ae ae 27 27 8 (fun x:aa=>x.Kids) do0_)] (ae.is r):=by
 intro n;induction n with
 | zero=>intro u id do0_ r hm;cases hm
 | succ n ih=>
  intro u id do0_ r hm;rw [M.fQ.eq_2] at hm;refine FSpec.of Tryz.func124 X X X fun g0=>Aw<|Cr (OpR.boxB 3 (aN.is ae u)) fun b=>Co .box<|Cr (OpR.alloc 6 ze27.h) fun b1=>An<|W.seq<|Aw<|Co (.fieldAddrB (o:=0) U27 X J23 .r X)<|Co (.fV 3 X ty23.h vL.h X)<|Co (.load ty23.h)<|Co (.eqSt (D:=2) X (by decide) eg23 eq23)<|An<|W.cD hm .r (fun hp2 hm=>?_) (fun hp2 hm=>?_)
  ·refine Aw<|Co (.fieldAddrB (o:=0) U27 X J25 .r X)<|Co (.fV 3 X ty25.h ib.h X) ?_;obtain ⟨unit,hv3,hm⟩:=Bs hm;refine Cr (OpR.call (us:=[]) C220 ((bV _ _ hv3).rekey 18) X ⟨.r,trivial⟩) fun k=>Co (.fieldAddrB (o:=0) U27 X J25 .r X)<|WL.opU (OpR.storeBFT (b:=b) (s:=ae) (s':=aC k) (t:=tUT k) 3 X X ⟨ty25.h.agg,ty25.h.size⟩ (qV k) X (show 7+1<=8 by decide) .r (Opd.GZ .r)) fun _=>WL.nil<|WN.weakR (res':=[(18,OwnU ae 27 k unit),(3,(Bx 8 true 27 ((aC k).is ({u with Kids:=unit}:aa)) b)),(6,(Bx 8 true 27 (ae.is au) b1))]) ⟨X,X,X,X,X,X,trivial⟩<|WN.rekey (res':=[(1000003,OwnU ae 27 k unit),(3,(Bx 8 true 27 ((aC k).is ({u with Kids:=unit}:aa)) b)),(6,(Bx 8 true 27 (ae.is au) b1))]) X<|Aq<|Aw<|WL.mv X X ?_;obtain ⟨u1,hv4,hm⟩:=Bs hm;refine WL.weakR (res':=[(3,(Bx 8 true 27 ((aC k).is ({u with Kids:=unit}:aa)) b)),(1000003,OwnU ae 27 k unit),(6,(Bx 8 true 27 (ae.is au) b1))]) ⟨X,X,X,X,X,X,trivial⟩<|Cr (OpR.callFW (k:=k) 3 1000003 hv4 X) fun _=>Ar<|Co (.mP 3 Y27 Z27 X)<|WL.opU (OpR.storeB (b:=b1) 6 Z27 (aN.is ae u1) X) fun _=>WL.ns ?_;cases hm;exact W.retQ1 () X (ResAt.cell 6 Y27 Z27 X .r) trivial
  ·refine W.skip<|Aq<|Aw<|Co (.fieldAddrB (o:=0) U27 X J25 .r X)<|Co (.fV 3 X ty25.h ib.h X) ?_;obtain ⟨unit1,hv5,hm⟩:=Bs hm;refine Cr (OpR.call (us:=[]) C220 ((bV _ _ hv5).rekey 25) X ⟨.r,trivial⟩) fun k1=>Cg X<|An<|W.seq<|Aw<|Cm X<|Co (.sI U25)<|Co (.move .i64)<|An<|W.block ?_;obtain ⟨s6,hs7,hk8⟩:=Bs hm;clear hm;refine W.lp (fun m (s:Int)=>M.jk id do0_ unit1 (M.fQ n) m s=some s6) (fun s=>[(28,(I6.is s)),(2,(tFW Tryz.prog aC ae ae 27 27 8 (fun x:aa=>x.Kids) do0_)),(3,(Bp b 0)),(4,(aB.ptr id)),(6,(Bp b1 0)),(7,(tU k1 unit1.length)),(26,(tU k1 unit1.length)),(27,(I6.is (unit1.length:Int)))]) (fun s=>[(25,OwnU ae 27 k1 unit1),(3,(Bx 8 true 27 (ae.is u) b)),(6,(Bx 8 true 27 (ae.is au) b1))]) _ (0:Int) hs7 ?_;rintro n9 v hm;try dsimp only at hm
   cases n9 with
   | zero=>rw [M.jk.eq_1] at hm;cases hm
   | succ n9=>
    rw [M.jk.eq_2] at hm;refine Aw<|Co .ltI<|An<|W.seq<|W.cD hm .r (fun hp11 hm=>?_) (fun hp11 hm=>?_)
    ·refine W.skip<|Aq<|W.seq<|W.block<|Aw<|WL.mv X X ?_;obtain ⟨v1,hv12,hm⟩:=Bs hm;refine Co (.idxU (t:=ae) hv12 U25 Z27)<|Co (.GU 25 hv12 ty27.h X)<|Cr (OpR.alloc 9 ze27.h) fun b2=>Cg X<|WL.opU (OpR.storeB (b:=b2) 9 Z27 (aN.is ae v1) X) fun _=>WL.sealed (t:=ae) (u:=v1) 9 9 X X<|Ar<|Co (.load ty27.h)<|Co (.load ty23.h) ?_;obtain ⟨find,hv13,hm⟩:=Bs hm;refine Co (.call C30 ((Dp _ _ _ _).h hv13) ⟨.r,.r,trivial⟩)<|Cm X<|Co .extract0<|Co .extract1<|Cr (OpR.alloc 10 ze27.h) fun b3=>WL.opU (OpR.storeB (b:=b3) 10 Z27 (aN.is ae find.1) X) fun _=>WL.sealed (t:=ae) (u:=find.1) 10 10 X X<|Cg X<|Ar<|Cm X<|An<|W.cB hm .r (fun hp15 hm=>?_) (fun hp15 hm=>?_)
     ·refine Aw<|Cm X<|Cm X<|Co (.load ty27.h)<|Co (.load ty23.h)<|WL.mv X X ?_;obtain ⟨with0_,hv16,hm⟩:=Bs hm;refine Co (.call C124 (ih _ _ _ _ hv16) ⟨.r,.r,.r,trivial⟩) ?_;obtain ⟨v2,hv17,hm⟩:=Bs hm;refine Co (.idxU (t:=ae) hv17 U25 Z27) ?_;obtain ⟨w,hv18,hm⟩:=Bs hm;refine WL.opU (OpR.storeU (key:=25) hv18 ty27.h .r .r X) fun _=>WL.nil<|WN.sI 7 (mQ hv18) X<|WN.sI 26 (mQ hv18) X<|WN.sI 40 (mQ hv18) X<|Aq<|W.exit X ?_;have hr19:=Si hm;clear hm;subst hr19;have hm:=hk8;try dsimp only at hm
      refine Aq<|Aw<|Cm X<|Co (.fieldAddrB (o:=0) U27 X J25 .r X)<|WL.opU (OpR.storeBFT (b:=b) (s:=ae) (s':=aC k1) (t:=tUT k1) 3 X X ⟨ty25.h.agg,ty25.h.size⟩ (qV k1) X (show 7+1<=8 by decide) .r (Opd.GZ .r)) fun _=>WL.nil<|WN.weakR (res':=[(25,OwnU ae 27 k1 w),(3,(Bx 8 true 27 ((aC k1).is ({u with Kids:=w}:aa)) b)),(6,(Bx 8 true 27 (ae.is au) b1))]) ⟨X,X,X,X,X,X,trivial⟩<|WN.rekey (res':=[(1000003,OwnU ae 27 k1 w),(3,(Bx 8 true 27 ((aC k1).is ({u with Kids:=w}:aa)) b)),(6,(Bx 8 true 27 (ae.is au) b1))]) X<|Aq<|Aw<|WL.fixG 1000003 X<|WL.boxG (ae.is ({u with Kids:=w}:aa)) 3 X (fun _ _ hr hA=>jO (u:=({u with Kids:=w}:aa)) (hr.at (key:=1000003) X) hA)<|Co (.mP 3 Y27 Z27 X)<|WL.opU (OpR.storeB (b:=b1) 6 Z27 (aN.is ae ({u with Kids:=w}:aa)) X) fun _=>WL.ns ?_;cases hm;exact W.retQ1 () X (ResAt.cell 6 Y27 Z27 X .r) trivial
     ·refine W.skip<|WN.block<|Aq<|W.region ?_;obtain ⟨v3,hv20,hm⟩:=Bs hm;exact Co (.addC hv20 .r .i64)<|Cm X<|WL.nil<|WN.ag n9 v3 (Nat.lt_succ_self n9) hm
    ·refine W.exit X ?_;have hr21:=Si hm;clear hm;subst hr21;have hm:=hk8;try dsimp only at hm
     refine Aq<|Aw<|Cm X<|Co (.fieldAddrB (o:=0) U27 X J25 .r X)<|WL.opU (OpR.storeBFT (b:=b) (s:=ae) (s':=aC k1) (t:=tUT k1) 3 X X ⟨ty25.h.agg,ty25.h.size⟩ (qV k1) X (show 7+1<=8 by decide) .r (Opd.GZ .r)) fun _=>WL.nil<|WN.weakR (res':=[(25,OwnU ae 27 k1 unit1),(3,(Bx 8 true 27 ((aC k1).is ({u with Kids:=unit1}:aa)) b)),(6,(Bx 8 true 27 (ae.is au) b1))]) ⟨X,X,X,X,X,X,trivial⟩<|WN.rekey (res':=[(1000003,OwnU ae 27 k1 unit1),(3,(Bx 8 true 27 ((aC k1).is ({u with Kids:=unit1}:aa)) b)),(6,(Bx 8 true 27 (ae.is au) b1))]) X<|Aq<|Aw<|WL.fixG 1000003 X<|WL.boxG (ae.is ({u with Kids:=unit1}:aa)) 3 X (fun _ _ hr hA=>jO (u:=({u with Kids:=unit1}:aa)) (hr.at (key:=1000003) X) hA)<|Co (.mP 3 Y27 Z27 X)<|WL.opU (OpR.storeB (b:=b1) 6 Z27 (aN.is ae ({u with Kids:=unit1}:aa)) X) fun _=>WL.ns ?_;cases hm;exact W.retQ1 () X (ResAt.cell 6 Y27 Z27 X .r) trivial
instance Ru(n:Nat)(u:aa)(id:ai)(do0_:aa->Option aa)(r:aa):z1 124 (M.fQ n u id do0_=some r) [ae.is u,aB.is id,(tFW Tryz.prog aC ae ae 27 27 8 (fun x:aa=>x.Kids) do0_)] (ae.is r):=⟨Tryz.call124,fun hm=>xw n u id do0_ r hm⟩
section
attribute [local irreducible] W WL WN DM Op1 OpR Opd Dep
instance Ih(n:Nat)(w:List af)(old:List Str)(new:List Str)(nth:Int)(act:Int)(item:Int)(r:(List af)×Int):z1 128 (M.kK n w old new nth act item=some r) [(tL aj).is w,(tL tS).is old,(tL tS).is new,I6.is nth,I6.is act,I6.is item] (Asn.tuple2 ((tL aj).is r.1) (I6.is r.2)):=.fx Tryz.call128 Tryz.func128 (M.kK.eq_1 ..)
end
theorem vS(n:Nat)(w:List af)(part:List Str)(new:List Str)(nth:Int)(act:Int)(item:Int)(r:(List af)×Int)(hm:M.eH n w part new nth act item=some r):FSpec Tryz.prog 130 [(tL aj).is w,(tL tS).is part,(tL tS).is new,I6.is nth,I6.is act,I6.is item] (Asn.tuple2 ((tL aj).is r.1) (I6.is r.2)):=by
 unfold M.eH at hm;refine FSpec.of Tryz.func130 X X X fun g0=>Aw<|Co (.assign (.nil (t:=aj)))<|Co (.assign .i64)<|An<|W.seq ?_;obtain ⟨s1,hs2,hk3⟩:=Bs hm;clear hm;refine W.join (fun s:Bool=>s=s1) (fun s=>[(31,(tB.is s)),(0,((tL aj).is w)),(1,((tL tS).is part)),(2,((tL tS).is new)),(3,(I6.is nth)),(4,(I6.is act)),(5,(I6.is item))]) (fun s=>[]) ?_ ?_
 ·rintro v hj32;try dsimp only at hj32
  subst hj32;have hm:=hk3;clear hk3;try dsimp only at hm
  refine W.cB hm .r (fun hp11 hm=>?_) (fun hp11 hm=>?_)
  ·refine Aw<|Co (.assign (.nil (t:=aj)))<|Co (.assign .i64)<|WL.ns ?_;cases hm;exact W.ret2 () X X .r .r trivial
  ·refine W.skip<|Aq<|W.seq<|Aw<|Cm X<|Co (.nM U45)<|Co (.eqI .r .i64)<|An<|W.cD hm .r (fun hp13 hm=>?_) (fun hp13 hm=>?_)
   ·refine Aw<|Cm X<|Co (.buildSlice (n:=1) (ys:=[(0,(0:Int))]) (z:=(0:Int)) (xs:=[(0:Int)]) U131 el3.h ze3.h ⟨X,.i64,trivial⟩ (by simp) (by decide) X)<|Cm X<|Cm X<|WL.mv X X ?_;obtain ⟨put,hv14,hm⟩:=Bs hm;refine Co (.call C226 (sP _ _ _ _ _ _ _ _ hv14) ⟨.r,.r,.i64,.r,.r,.r,trivial⟩)<|Co .extract0<|Co .extract1<|Cg X<|Cg X<|WL.ns ?_;cases hm;exact W.ret2 () X X .r .r trivial
   ·refine W.skip<|Aq<|Aw<|Cm X<|Cm X<|WL.mv X X ?_;obtain ⟨places,hv15,hm⟩:=Bs hm;refine Co (.call C225 ((yX _ _ _ _ _).h hv15) ⟨.r,.r,.r,trivial⟩) ?_;obtain ⟨int,hv16,hm⟩:=Bs hm;refine Cr (OpR.loosen fl3 (OpR.call (us:=[]) C227 ((vk _ _ hv16).rekey 47) X ⟨.r,trivial⟩)) fun k=>Cg X<|An<|W.seq<|Aw<|Cm X<|Co (.sI U131)<|Co (.eqI .r .i64)<|An<|W.cD hm .r (fun hp18 hm=>?_) (fun hp18 hm=>?_)
    ·refine Aw<|Co (.assign (.nil (t:=aj)))<|Co (.assign .i64)<|WL.ns ?_;cases hm;exact W.ret2 () X X .r .r trivial
    ·refine W.skip<|Aq<|W.seq<|Aw<|Cm X<|Co (.sI U131)<|Co (.move .i64)<|An<|W.block ?_;obtain ⟨s19,hs20,hk21⟩:=Bs hm;clear hm;refine W.lp (fun m (s:((List Int)×Int)×Tok)=>M.dB part int m s.1.1 s.1.2=some s19) (fun s=>[(14,(tU s.2 s.1.1.length)),(53,(I6.is s.1.2)),(0,((tL aj).is w)),(1,((tL tS).is part)),(2,((tL tS).is new)),(4,(I6.is act)),(5,(I6.is item)),(52,(I6.is (int.length:Int)))]) (fun s=>[(47,OwnU I6 3 s.2 s.1.1)]) _ ((int,(0:Int)),k) hs20 ?_;rintro n22 ⟨⟨l,v1⟩,k1⟩ hm;try dsimp only at hm
     cases n22 with
     | zero=>rw [M.dB.eq_1] at hm;cases hm
     | succ n22=>
      rw [M.dB.eq_2] at hm;refine Aw<|Co .ltI<|An<|W.seq<|W.cD hm .r (fun hp24 hm=>?_) (fun hp24 hm=>?_)
      ·refine W.skip<|Aq<|W.seq<|W.block<|Aw<|Cm X<|Cg X<|WL.nr1<|Cm X<|WL.mv X X ?_;obtain ⟨v2,hv25,hm⟩:=Bs hm;refine Co (.idxU (t:=I6) hv25 U131 Z3)<|Co (.GU 47 hv25 ty3.h X)<|Cm X<|Co (.nM U45) ?_;obtain ⟨v3,hv26,hm⟩:=Bs hm;refine Co (.addC hv26) ?_;obtain ⟨v4,hv27,hm⟩:=Bs hm;refine Co (.idxU (t:=I6) hv27 U131 Z3) ?_;obtain ⟨w1,hv28,hm⟩:=Bs hm;refine WL.opU (OpR.storeU (key:=47) hv28 ty3.h .r .r X) fun _=>WL.nil<|WN.sI 14 (mQ hv28) X<|WN.sI 56 (mQ hv28) X<|WN.block<|Aq<|W.region ?_;obtain ⟨v5,hv29,hm⟩:=Bs hm;exact Co (.addC hv29 .r .i64)<|Cm X<|WL.nil<|WN.ag n22 ((w1,v5),k1) (Nat.lt_succ_self n22) hm
      ·refine W.exit X ?_;have hr30:=Si hm;clear hm;subst hr30;have hm:=hk21;try dsimp only at hm
       refine Aq<|Aw<|Cm X<|Cm X<|Cm X<|Cm X<|WL.mv X X ?_;obtain ⟨put1,hv31,hm⟩:=Bs hm;refine WL.fixU 66 47 X X<|WL.sameU 66 14 X X<|Co (.call C226 (sP _ _ _ _ _ _ _ _ hv31) ⟨.r,(Opd.own .r),.i64,.r,.r,.r,trivial⟩)<|Co .extract0<|Co .extract1<|Cg X<|Cg X<|WL.ns ?_;cases hm;exact W.ret2 () X X .r .r trivial
 ·have hm:=hs2;clear hs2;refine W.region<|Cm X<|Co (.nM U45)<|Co (.eqI .r .i64)<|WL.mv X X ?_;rcases iteD hm with ⟨hp5,hb4,hm⟩ | ⟨hp5,hb4,hm⟩
  ·exact Cp hb4<|Cp hb4<|Co (.pT hb4 .bool)<|Cm X<|Cp X<|Cp X<|Cp X<|Cp X<|WL.pass2 X X X X X X<|WL.pass2 X X X X X X<|Cp X<|Co (.pT X .bool)<|WL.nil<|WN.mt true (Si hm)
  ·refine Cy hb4 .move<|Cy hb4 (.ltI .r .i64)<|Co (.pF hb4)<|WL.mv X X ?_;rcases iteD hm with ⟨hp7,hb6,hm⟩ | ⟨hp7,hb6,hm⟩
   ·exact Cp hb6<|Cp hb6<|Cp hb6<|Cp hb6<|WL.pass2 X X X X X X<|WL.pass2 X X X X X X<|Cp hb6<|Co (.pT hb6 .bool)<|WL.nil<|WN.mt true (Si hm)
   ·refine Cy hb6 .move<|Cy hb6 (.nM U45)<|Cy hb6 (.eqI .r .i64)<|Cy hb6 .move ?_;rcases iteD hm with ⟨hp9,hb8,hm⟩ | ⟨hp9,hb8,hm⟩
    ·exact Cy hb8 .move<|Cy hb8 (.neI .r .i64)<|Cy hb6 (.pT hb8)<|Co (.pF hb6)<|WL.nil<|WN.mt (decide (nth≠(0:Int))) (Si hm)
    ·exact Cp hb8<|Cp hb8<|Cy hb6 (.pF hb8 .bool)<|Co (.pF hb6)<|WL.nil<|WN.mt false (Si hm)
instance FT(n:Nat)(w:List af)(part:List Str)(new:List Str)(nth:Int)(act:Int)(item:Int)(r:(List af)×Int):z1 130 (M.eH n w part new nth act item=some r) [(tL aj).is w,(tL tS).is part,(tL tS).is new,I6.is nth,I6.is act,I6.is item] (Asn.tuple2 ((tL aj).is r.1) (I6.is r.2)):=⟨Tryz.call130,fun hm=>vS n w part new nth act item r hm⟩
section
attribute [local irreducible] W WL WN DM Op1 OpR Opd Dep
instance Ii(n:Nat)(s0_:Str)(r:Bool):z1 277 (M.ow n s0_=some r) [tS.is s0_] (tB.is r):=.fx Tryz.call277 Tryz.func277 (M.ow.eq_1 ..)
instance Rv(n:Nat)(u:aa)(r:Bool):z1 286 (M.uV n u=some r) [ae.is u] (tB.is r):=.fx Tryz.call286 Tryz.func286 (M.uV.eq_1 ..) [6]
instance Kq(n:Nat)(s0_:Str)(r:Bool):z1 79 (M.kY n s0_=some r) [tS.is s0_] (tB.is r):=.fx Tryz.call79 Tryz.func79 (M.kY.eq_1 ..)
instance OH(n:Nat)(u:aa)(id:ai)(r:az):z1 66 (M.sM n u id=some r) [ae.is u,aB.is id] (aL.is r):=.fx Tryz.call66 Tryz.func66 (M.sM.eq_1 ..) [5]
instance PX(n:Nat)(u:aa)(p:List ax)(r:List aa):z1 167 (M.wE n u p=some r) [ae.is u,(tL bu).is p] ((tL ae).is r):=.fx Tryz.call167 Tryz.func167 (M.wE.eq_1 ..)
abbrev Nn:=fun (n:Nat)(nn:List ax)(ii:Int)=>mkRi (M.bL n nn ii) (fun mm jj s=>M.bL n mm jj) nn ii () 7 [0,5,6] [] z7 z7 (fun _ _=>M.bL.eq_1 ..) (fun _ _ _ _=>M.bL.eq_2 ..)
attribute [instance] Nn
instance zH(n:Nat)(p:List ax)(r:Bool):z1 78 (M.mF n p=some r) [(tL bu).is p] (tB.is r):=.fx Tryz.call78 Tryz.func78 (M.mF.eq_1 ..) [4]
instance yY(n:Nat)(u:aa)(id:ai)(r:aH×Int):z1 292 (M.kv n u id=some r) [ae.is u,aB.is id] (Asn.tuple2 (dx.is r.1) (I6.is r.2)):=.fx Tryz.call292 Tryz.func292 (M.kv.eq_1 ..)
instance yZ(n:Nat)(u:aa)(id:ai)(r:aH×Int):z1 295 (M.ky n u id=some r) [ae.is u,aB.is id] (Asn.tuple2 (dx.is r.1) (I6.is r.2)):=.fx Tryz.call295 Tryz.func295 (M.ky.eq_1 ..)
instance y5(n:Nat)(u:aa)(id:ai)(r:aH×Int):z1 297 (M.kz n u id=some r) [ae.is u,aB.is id] (Asn.tuple2 (dx.is r.1) (I6.is r.2)):=.fx Tryz.call297 Tryz.func297 (M.kz.eq_1 ..)
instance y7(n:Nat)(u:aa)(id:ai)(r:aH×Int):z1 299 (M.kE n u id=some r) [ae.is u,aB.is id] (Asn.tuple2 (dx.is r.1) (I6.is r.2)):=.fx Tryz.call299 Tryz.func299 (M.kE.eq_1 ..)
instance Kr(n:Nat)(u:aa)(id:ai)(r:aa):z1 127 (M.o8 n u id=some r) [ae.is u,aB.is id] (ae.is r):=.fx Tryz.call127 Tryz.func127 (M.o8.eq_1 ..) [5,6]
instance Np(n:Nat)(u:aa)(x:aa)(d:ak)(r:aa×Int):z1 72 (M.qc n u x d=some r) [ae.is u,ae.is x,aO.is d] (Asn.tuple2 (ae.is r.1) (I6.is r.2)):=.fx Tryz.call72 Tryz.func72 (M.qc.eq_1 ..) [8]
instance PY(n:Nat)(u:aa)(x:aa)(d:ak)(r:aa×Int):z1 73 (M.sJ n u x d=some r) [ae.is u,ae.is x,aO.is d] (Asn.tuple2 (ae.is r.1) (I6.is r.2)):=.fx Tryz.call73 Tryz.func73 (M.sJ.eq_1 ..) [8]
end
theorem zI(n:Nat)(u:aa)(x:aa)(d:ak)(r:aa×Int)(hm:M.kU n u x d=some r):FSpec Tryz.prog 74 [ae.is u,ae.is x,aO.is d] (Asn.tuple2 (ae.is r.1) (I6.is r.2)):=by
 unfold M.kU at hm;refine FSpec.of Tryz.func74 X X X fun g0=>Aw<|Co .box<|Co .box<|Co .box<|Cr (OpR.alloc 6 ze27.h) fun b=>Co (.assign .i64)<|Ar<|Co (.fA U52 J50 uX.h)<|Co (.fA U50 J45 Hm.h)<|Co (.load ty45.h)<|Co (.fA U52 J3 zx.h)<|Co (.load ty3.h)<|Co (.fA U52 J3 zy.h)<|Co (.load ty3.h) ?_;obtain ⟨mark,hv1,hm⟩:=Bs hm;refine Co (.call C132 (((vM _ _ _ _ _).h hv1 0 0 none none).read fun _ _ _=>vU) ⟨.r,.r,.r,.i64,trivial⟩)<|Cr (OpR.alloc 8 ze24.h) fun b1=>WL.opU (OpR.storeB (b:=b1) 8 Z24 (aN.is (tL aj) mark) X) fun _=>WL.sealed (t:=(tL aj)) (u:=mark) 8 8 X X<|Ar<|Co (.load ty27.h)<|Co (.fA U27 J23 vL.h)<|Co (.load ty23.h)<|Co (.makeFW (Cs:=[((tL aj).ptr mark)]) (cap:=[.tmp 8]) C133 ⟨.r,trivial⟩ (fun u u' k b h=>aT.keys (rin':=[(0,Bx 8 true 27 ((aC k).is u) b),(1,OwnU ae 27 k u.Kids)]) (out':=fun _:Unit=>[(0,Bx 8 true 27 (ae.is u') b)]) (xV _ _ _ _ _ h) X (fun _=>X))) ?_;obtain ⟨with0_,hv2,hm⟩:=Bs hm;refine Co (.call C124 (xw _ _ _ _ _ hv2) ⟨.r,.r,.r,trivial⟩)<|WL.opU (OpR.storeB (b:=b) 6 Z27 (aN.is ae with0_) X) fun _=>Co (.assign .i64)<|WL.ns ?_;cases hm;exact W.retQ2 () X X (ResAt.cell 6 Y27 Z27 X .r) (ResAt.tmp .r) trivial
instance Nq(n:Nat)(u:aa)(x:aa)(d:ak)(r:aa×Int):z1 74 (M.kU n u x d=some r) [ae.is u,ae.is x,aO.is d] (Asn.tuple2 (ae.is r.1) (I6.is r.2)):=⟨Tryz.call74,fun hm=>zI n u x d r hm⟩
section
attribute [local irreducible] W WL WN DM Op1 OpR Opd Dep
instance Kt(n:Nat)(u:aa)(x:aa)(d:ak)(r:aa×Int):z2 75 (M.kV n u x d=some r) [ae.is u,ae.is x,aO.is d] (Asn.tuple2 (ae.is r.1) (I6.is r.2)) [E1]:=.fx Tryz.call75 Tryz.func75 (M.kV.eq_1 ..) [8,11,1000004]
instance Ku(n:Nat)(l:List Str)(r:Bool):z1 230 (M.mG n l=some r) [(tL tS).is l] (tB.is r):=.fx Tryz.call230 Tryz.func230 (M.mG.eq_1 ..)
instance Ij(n:Nat)(it:ah)(r:Bool):z1 151 (M.lY n it=some r) [aD.is it] (tB.is r):=.fx Tryz.call151 Tryz.func151 (M.lY.eq_1 ..)
instance Ik(n:Nat)(it:ah)(r:Bool):z1 156 (M.qZ n it=some r) [aD.is it] (tB.is r):=.fx Tryz.call156 Tryz.func156 (M.qZ.eq_1 ..)
instance Kv(n:Nat)(s0_:fZ)(r:Bool):z1 80 (M.pq n s0_=some r) [lM.is s0_] (tB.is r):=.fx Tryz.call80 Tryz.func80 (M.pq.eq_1 ..)
abbrev Vg:=fun (units:List aa)(nn:Nat)(s0:(List ai))(s1:Int)=>mkLp (τ:=(List ai)×Int) (M.jC units nn s0 s1) (fun mm s=>M.jC units mm s.1 s.2) nn (s0,s1) [6] [] (fun s k1 _ _ _ _ _ e=>(5,tO aB k1 s.1)::(7,I6.is s.2)::e) (fun s k1 _ _ _ _ _ e=>(8,Dec.Own aB 23 k1 s.1.length)::e) (fun _=>M.jC.eq_1 ..) (fun _ _=>M.jC.eq_2 ..)
abbrev Vh:=fun (nn:List af)(s0:List Str)=>mkRg (τ:=List Str) (M.jB nn s0) (fun mm jj s=>M.jB mm s) nn s0 8 [0,6,7] [] (fun s k1 _ _ _ _ _ e=>(3,tO tS k1 s)::e) (fun s k1 _ _ _ _ _ e=>(3,Dec.Own tS 9 k1 s.length)::e) (fun _ _=>M.jB.eq_1 ..) (fun _ _ _ _=>M.jB.eq_2 ..)
attribute [instance] Vg Vh
instance Kw(n:Nat)(u:aa)(x:aa)(r:az):z1 65 (M.pu n u x=some r) [ae.is u,ae.is x] (aL.is r):=SpC.of Tryz.call65 Tryz.func65 X X fun g0 hm=>by
  unfold M.pu at hm;dsimp only at hm;exact Fx hm
instance Ky(n:Nat)(u:aa)(x:aa)(r:az):z1 67 (M.mI n u x=some r) [ae.is u,ae.is x] (aL.is r):=.fx Tryz.call67 Tryz.func67 (M.mI.eq_1 ..)
instance Rw(n:Nat)(u:aa)(p:List ax)(r:List ai):z1 82 (M.xI n u p=some r) [ae.is u,(tL bu).is p] ((tL aB).is r):=.fx Tryz.call82 Tryz.func82 (M.xI.eq_1 ..)
instance FU(n:Nat)(c:aa)(c1:ai)(r:Bool):z1 173 (M.mh n c c1=some r) [ae.ptr c,aB.ptr c1] (tB.is r):=.fx Tryz.call173 Tryz.func173 (M.mh.eq_1 ..)
instance GA(n:Nat)(u:aa)(id:ai)(r:aa):z1 176 (M.kZ n u id=some r) [ae.is u,aB.is id] (ae.is r):=.fx Tryz.call176 Tryz.func176 (M.kZ.eq_1 ..) [5,6]
instance FV(n:Nat)(id:ai)(c:aa)(r:Bool):z1 249 (M.pU n id c=some r) [aB.is id,ae.ptr c] (tB.is r):=.fx Tryz.call249 Tryz.func249 (M.pU.eq_1 ..)
instance Md(n:Nat)(place:Int)(x:aa)(r:aa->Option aa):z1 180 (M.qF n place x=some r) [I6.is place,ae.is x] ((tFun Tryz.prog (fun (f:aa->Option aa)=>(fun s:aa×aa=>f s.1=some s.2)) (fun s:aa×aa=>[ae.is s.1]) (fun s:aa×aa=>(ae.is s.2))).is r):=.fx Tryz.call180 Tryz.func180 (M.qF.eq_1 ..)
instance Il(n:Nat)(c:aa)(c1:ai)(c2:ai)(r:Bool):z1 182 (M.oL n c c1 c2=some r) [ae.ptr c,aB.ptr c1,aB.ptr c2] (tB.is r):=.fx Tryz.call182 Tryz.func182 (M.oL.eq_1 ..)
instance Tx(n:Nat)(u:aa)(r:Bool):z1 11 (M.yD n u=some r) [ae.is u] (tB.is r):=.fx Tryz.call11 Tryz.func11 (M.yD.eq_1 ..)
instance PZ(n:Nat)(u:aa)(r:List Str):z1 109 (M.wC n u=some r) [ae.is u] ((tL tS).is r):=.fx Tryz.call109 Tryz.func109 (M.wC.eq_1 ..)
end
theorem zJ(n:Nat)(u:aa)(p:List ax)(r:List aa)(hm:M.o5 n u p=some r):FSpec Tryz.prog 113 [ae.is u,(tL bu).is p] ((tL ae).is r):=by
 unfold M.o5 at hm;refine FSpec.of Tryz.func113 X X X fun g0=>Aw<|Co .box<|Co .box<|Co (.assign (.nil (t:=ae)))<|An<|W.seq<|Aw<|Co (.load ty44.h) ?_;obtain ⟨valid,hv1,hm⟩:=Bs hm;refine Co (.call C78 ((zH _ _ _).h hv1) ⟨.r,trivial⟩)<|Co .notB<|An<|W.cR hm .r (fun hp3 hm=>?_) (fun hp3 hm=>?_)
 ·refine Aw<|Co (.assign (.nil (t:=ae)))<|WL.ns ?_;cases hm;exact W.e1
 ·refine W.skip<|Aq<|Aw<|WL.addNil (t:=ae) (E:=27) 1000005<|Cr (OpR.allocO (t:=ae) 5 Tryz.zeroValue25) fun b=>WL.ns ?_;obtain ⟨s4,hs5,hk6⟩:=Bs hm;clear hm;refine W.join (fun s:(List aa)=>(Sum.inl s:((List aa)) ⊕ (List aa))=s4) (fun s=>[(3,((tL bu).ptr p)),(5,(Bp b 0))]) (fun s=>[(5,(Bx 1 false 25 ((tL ae).is s) b))]) ?_ ?_
  ·rintro at0_ hj59;try dsimp only at hj59
   subst hj59;have hm:=hk6;clear hk6;try dsimp only at hm
   refine W.seq<|Aw<|Co (.load ty44.h) ?_;obtain ⟨v1,hv15,hm⟩:=Bs hm;refine Co (.slcLo hv15 U44 Z70 .r .i64)<|Co (.nM U44)<|Co (.move .i64)<|An<|W.block ?_;obtain ⟨s16,hs17,hk18⟩:=Bs hm;clear hm;refine W.lp (fun m (s:Int×List ax×List ax×((List aa)))=>m=s.2.2.1.length/\v1=s.2.1++s.2.2.1/\s.1=(s.2.1.length:Int)/\M.eD s.2.2.1 s.2.2.2=some s16) (fun s=>[(35,(I6.is s.1)),(5,(Bp b 0)),(33,((tL bu).is v1)),(34,(I6.is (v1.length:Int)))]) (fun s=>[(5,(Bx 1 false 25 ((tL ae).is s.2.2.2) b))]) v1.length ((0:Int),[],v1,at0_) ⟨X,X,X,hs17⟩ ?_;rintro m ⟨i,pre,rest5,at0_2⟩ ⟨hn22,hxs19,hi20,hm⟩;try dsimp only at hn22 hxs19 hi20 hm
   refine W.nM (s:=33) .r fun hlen21=>Aw<|Co .ltI<|An<|W.seq<|W.cond .r (fun hc24=>?_) (fun hc24=>?_)
   ·have hp25:=of_decide_eq_true hc24;obtain ⟨e,es,hrest27⟩:=mD hxs19 hi20 hp25;subst hrest27;rw [M.eD.eq_2] at hm;refine W.skip<|Aq<|W.seq<|W.block<|Aw<|Co (.idxPre hxs19 hi20 U44 Z70)<|Co (.load ty70.h)<|Cr (OpR.alloc 7 ze70.h) fun b1=>WL.opU (OpR.storeB (b:=b1) 7 Z70 (aN.is bu e) X) fun _=>WL.sealed (t:=bu) (u:=e) 7 7 X X<|Ar<|WL.addNil (t:=ae) (E:=27) 8<|Co (.assign (Opd.nilO (t:=ae)))<|An<|W.seq<|W.sr ?_;refine Co (.mP 5 Y25 Z25 X)<|Co (.nM U25)<|Co (.move .i64)<|An<|W.block ?_;obtain ⟨s28,hs29,hk30⟩:=Bs hm;clear hm;refine W.lp (fun m (s:Int×List aa×List aa×(((List aa))×Tok))=>m=s.2.2.1.length/\at0_2=s.2.1++s.2.2.1/\s.1=(s.2.1.length:Int)/\M.fM e s.2.2.1 s.2.2.2.1=some s28) (fun s=>[(41,(I6.is s.1)),(8,(tO ae s.2.2.2.2 s.2.2.2.1)),(5,(Bp b 0)),(7,(bu.ptr e)),(33,((tL bu).is v1)),(34,(I6.is (v1.length:Int))),(35,(I6.is i)),(39,((tL ae).is at0_2)),(40,(I6.is (at0_2.length:Int)))]) (fun s=>[(8,Dec.Own ae 27 s.2.2.2.2 s.2.2.2.1.length),(5,(Bx 1 false 25 ((tL ae).is at0_2) b))]) at0_2.length ((0:Int),[],at0_2,(([]:List aa),(none:Tok))) ⟨X,X,X,hs29⟩ ?_;rintro m ⟨i1,pre1,rest4,next,k2⟩ ⟨hn34,hxs31,hi32,hm⟩;try dsimp only at hn34 hxs31 hi32 hm
    refine W.nM (s:=39) .r fun hlen33=>Aw<|Co .ltI<|An<|W.seq<|W.cond .r (fun hc36=>?_) (fun hc36=>?_)
    ·have hp37:=of_decide_eq_true hc36;obtain ⟨e1,es1,hrest39⟩:=mD hxs31 hi32 hp37;subst hrest39;rw [M.fM.eq_2] at hm;refine W.skip<|Aq<|W.seq<|W.block<|Aw<|Co (.idxPre hxs31 hi32 U25 Z27)<|Co (.load ty27.h)<|Cr (OpR.alloc 10 ze27.h) fun b2=>WL.opU (OpR.storeB (b:=b2) 10 Z27 (aN.is ae e1) X) fun _=>WL.sealed (t:=ae) (u:=e1) 10 10 X X<|Ar<|Co (.fA U27 J25 ib.h)<|Co (.load ty25.h)<|Co (.nM U25)<|Co (.move .i64)<|WL.ns ?_;refine W.block ?_;obtain ⟨s40,hs41,hk42⟩:=Bs hm;clear hm;refine W.lp (fun m (s:Int×List aa×List aa×(((List aa))×Tok))=>m=s.2.2.1.length/\e1.Kids=s.2.1++s.2.2.1/\s.1=(s.2.1.length:Int)/\M.eB e s.2.2.1 s.2.2.2.1=some s40) (fun s=>[(48,(I6.is s.1)),(8,(tO ae s.2.2.2.2 s.2.2.2.1)),(5,(Bp b 0)),(7,(bu.ptr e)),(33,((tL bu).is v1)),(34,(I6.is (v1.length:Int))),(35,(I6.is i)),(39,((tL ae).is at0_2)),(40,(I6.is (at0_2.length:Int))),(41,(I6.is i1)),(46,((tL ae).is e1.Kids)),(47,(I6.is (e1.Kids.length:Int)))]) (fun s=>[(8,Dec.Own ae 27 s.2.2.2.2 s.2.2.2.1.length),(5,(Bx 1 false 25 ((tL ae).is at0_2) b))]) e1.Kids.length ((0:Int),[],e1.Kids,(next,k2)) ⟨X,X,X,hs41⟩ ?_;rintro m ⟨i2,pre2,rest3,next1,k3⟩ ⟨hn46,hxs43,hi44,hm⟩;try dsimp only at hn46 hxs43 hi44 hm
     refine W.nM (s:=46) .r fun hlen45=>Aw<|Co .ltI<|An<|W.seq<|W.cond .r (fun hc48=>?_) (fun hc48=>?_)
     ·have hp49:=of_decide_eq_true hc48;obtain ⟨e2,es2,hrest51⟩:=mD hxs43 hi44 hp49;subst hrest51;rw [M.eB.eq_2] at hm;refine W.skip<|Aq<|W.seq<|W.block<|Aw<|Co (.idxPre hxs43 hi44 U25 Z27)<|Co (.load ty27.h)<|Cr (OpR.alloc 12 ze27.h) fun b3=>WL.opU (OpR.storeB (b:=b3) 12 Z27 (aN.is ae e2) X) fun _=>WL.sealed (t:=ae) (u:=e2) 12 12 X X<|Ar<|Co (.load ty27.h)<|Co (.load ty70.h) ?_;obtain ⟨called,hv52,hm⟩:=Bs hm;refine Co (.call C205 ((uq _ _ _).h hv52) ⟨.r,.r,trivial⟩)<|An<|W.cB hm .r (fun hp54 hm=>?_) (fun hp54 hm=>?_)
      ·refine W.region<|Cm X<|Co (.load ty27.h)<|Co (.buildSlice (n:=1) (ys:=[(0,e2)]) (z:=au) (xs:=[e2]) U25 el27.h ze27.h ⟨X,.r,trivial⟩ (by simp) (by decide) X) ?_;obtain ⟨next2,hv55,hm⟩:=Bs hm;exact Cr (OpR.appC (key:=8) hv55 U25 el27.h .r .r X) fun k4=>Cg X<|WL.nil<|WN.block<|Aq<|W.region<|Co (.addI .r .i64 (oU hi44 hp49 hlen45))<|Cm X<|WL.nil<|WN.ag es2.length (i2+1,pre2++ [e2],es2,(next2,k4)) (qI hn46) ⟨X,mE hxs43,oQ hi44,hm⟩
      ·exact W.skip<|WN.block<|Aq<|W.region<|Co (.addI .r .i64 (oU hi44 hp49 hlen45))<|Cm X<|WL.nil<|WN.ag es2.length (i2+1,pre2++ [e2],es2,(next1,k3)) (qI hn46) ⟨X,mE hxs43,oQ hi44,hm⟩
     ·have hrest51:=oP hxs43 hi44 (of_decide_eq_false hc48);subst hrest51;rw [M.eB.eq_1] at hm;refine W.exit X ?_;have hr56:=Si hm;clear hm;subst hr56;have hm:=hk42;try dsimp only at hm
      exact WN.block<|Aq<|W.region<|Co (.addI .r .i64 (oU hi32 hp37 hlen33))<|Cm X<|WL.nil<|WN.ag es1.length (i1+1,pre1++ [e1],es1,(next1,k3)) (qI hn34) ⟨X,mE hxs31,oQ hi32,hm⟩
    ·have hrest39:=oP hxs31 hi32 (of_decide_eq_false hc36);subst hrest39;rw [M.fM.eq_1] at hm;refine W.exit X ?_;have hr57:=Si hm;clear hm;subst hr57;have hm:=hk30;try dsimp only at hm
     exact Aq<|W.region<|Cm X<|WL.opU (OpR.storeB (b:=b) 5 Z25 (aN.o ae k2 next) X) fun _=>WL.nil<|WN.block<|Aq<|W.region<|Co (.addI .r .i64 (oU hi20 hp25 hlen21))<|Cm X<|WL.nil<|WN.boxV (A':=((tL ae).is next)) 5 X (fun _ _=>vU)<|WN.ag es.length (i+1,pre++ [e],es,next) (qI hn22) ⟨X,mE hxs19,oQ hi20,hm⟩
   ·have hrest27:=oP hxs19 hi20 (of_decide_eq_false hc24);subst hrest27;rw [M.eD.eq_1] at hm;refine W.exit X ?_;have hr58:=Si hm;clear hm;subst hr58;have hm:=hk18;try dsimp only at hm
    refine Aq<|Aw<|Co (.mP 5 Y25 Z25 X)<|Cg X<|WL.ns ?_;cases hm;exact W.e1
  ·have hm:=hs5;clear hs5;refine W.block<|Aw<|Co (.load ty44.h)<|Co (.nM U44)<|Co (.eqI .r .i64)<|Cg X<|An<|W.cD hm .r (fun hp8 hm=>?_) (fun hp8 hm=>?_)
   ·refine Aw<|Co (.load ty27.h)<|Co (.buildSlice (n:=1) (ys:=[(0,u)]) (z:=au) (xs:=[u]) U25 el27.h ze27.h ⟨X,.r,trivial⟩ (by simp) (by decide) X)<|Cg X<|WL.ns ?_;have hr9:=Si hm;clear hm;subst hr9;have hm:=hk6;try dsimp only at hm
    cases hm;exact W.e1
   ·refine Aw<|Co (.load ty44.h) ?_;obtain ⟨v,hv10,hm⟩:=Bs hm;refine Co (.idx hv10 U44 Z70 .r .i64)<|Co (.load ty70.h) ?_;obtain ⟨book,hv11,hm⟩:=Bs hm;refine Co (.call C161 ((Aj _ _).h hv11) ⟨.r,trivial⟩)<|Cg X<|An<|W.cB hm .r (fun hp13 hm=>?_) (fun hp13 hm=>?_)
    ·exact W.region<|Co (.load ty27.h)<|Cr (OpR.buildSlice (n:=1) (ys:=[(0,u)]) (z:=au) (xs:=[u]) 31 U25 el27.h ze27.h ⟨X,.r,trivial⟩ (by simp) (by decide) X) fun k=>WL.opU (OpR.storeB (b:=b) 5 Z25 (aN.o ae k [u]) X) fun _=>WL.nil<|WN.block<|WN.boxV (A':=((tL ae).is [u])) 5 X (fun _ _=>vU)<|WN.mt [u] (Si hm)
    ·refine W.region<|Co (.load ty27.h)<|Co (.makeClo (Cs:=[((tL bu).ptr p),(Bp b 0)]) (cap:=[.tmp 3,.tmp 5]) ⟨.r,.r,trivial⟩) ?_;obtain ⟨at0_1,hv14,hm⟩:=Bs hm;exact WL.weakR (res':=[(5,(Bx 1 false 25 (tO ae (none:Tok) ([]:List aa)) b)),(1000005,Dec.Own ae 27 (none:Tok) ([]:List aa).length)]) ⟨X,X,X,X,trivial⟩<|Cr (OpR.call (us:=[5,1000005]) (A:=fun kx:Tok=>(Asn.eq (.tuple #[]))) C203 (aT.keys (rin':=[(5,(Bx 1 false 25 (tO ae (none:Tok) ([]:List aa)) b)),(1000005,Dec.Own ae 27 (none:Tok) ([]:List aa).length)]) (out':=fun kx:Tok=>[(5,(Bx 1 false 25 (tO ae kx at0_1) b)),(1000005,Dec.Own ae 27 kx at0_1.length)]) ((x9 _ _ _ _ _).h hv14 _ 0 _ none) X (fun _=>X)) X ⟨.r,.r,trivial⟩) fun k1=>WL.nil<|WN.block<|WN.boxV (A':=((tL ae).is at0_1)) 5 X (fun _ _=>vU)<|WN.mt at0_1 (Si hm)
instance Nr(n:Nat)(u:aa)(p:List ax)(r:List aa):z1 113 (M.o5 n u p=some r) [ae.is u,(tL bu).is p] ((tL ae).is r):=⟨Tryz.call113,fun hm=>zJ n u p r hm⟩
theorem Az(n:Nat) (r:List (aa->ai->Option (aH×Int)))(hm:M.l7 n=some r):FSpec Tryz.prog 267 [] ((tA 4 (tFun Tryz.prog (fun (f:aa->ai->Option (aH×Int))=>(fun s:aa×ai×(aH×Int)=>f s.1 s.2.1=some s.2.2)) (fun s:aa×ai×(aH×Int)=>[ae.is s.1,aB.is s.2.1]) (fun s:aa×ai×(aH×Int)=>(Asn.tuple2 (dx.is s.2.2.1) (I6.is s.2.2.2))))).is r):=by
 unfold M.l7 at hm;refine FSpec.of Tryz.func267 X X X fun g0=>Aw<|Cr (OpR.alloc 0 ze224.h) fun b=>Ar<|Co (.buildA (ys:=[(0,(fun s0 s1=>M.kv n s0 s1)),(1,(fun s0 s1=>M.ky n s0 s1)),(2,(fun s0 s1=>M.kz n s0 s1)),(3,(fun s0 s1=>M.kE n s0 s1))]) (z:=(fun _ _=>none:aa->ai->Option (aH×Int))) (xs:=[(fun s0 s1=>M.kv n s0 s1),(fun s0 s1=>M.ky n s0 s1),(fun s0 s1=>M.kz n s0 s1),(fun s0 s1=>M.kE n s0 s1)]) U224 Z223 ze224.h ⟨X,(Opd.tFun (Opd.fn C292 (fun s hs=>(yY _ _ _ _).h hs))),X,(Opd.tFun (Opd.fn C295 (fun s hs=>(yZ _ _ _ _).h hs))),X,(Opd.tFun (Opd.fn C297 (fun s hs=>(y5 _ _ _ _).h hs))),X,(Opd.tFun (Opd.fn C299 (fun s hs=>(y7 _ _ _ _).h hs))),trivial⟩ (by simp) X)<|WL.opU (OpR.storeB (b:=b) 0 Z224 (aN.is (tA 4 (tFun Tryz.prog (fun (f:aa->ai->Option (aH×Int))=>(fun s:aa×ai×(aH×Int)=>f s.1 s.2.1=some s.2.2)) (fun s:aa×ai×(aH×Int)=>[ae.is s.1,aB.is s.2.1]) (fun s:aa×ai×(aH×Int)=>(Asn.tuple2 (dx.is s.2.2.1) (I6.is s.2.2.2))))) [(fun s0 s1=>M.kv n s0 s1),(fun s0 s1=>M.ky n s0 s1),(fun s0 s1=>M.kz n s0 s1),(fun s0 s1=>M.kE n s0 s1)]) X) fun _=>WL.ns ?_;cases hm;exact W.retQ1 () X (ResAt.cell 0 Y224 Z224 X .r) trivial
instance OI(n:Nat) (r:List (aa->ai->Option (aH×Int))):z1 267 (M.l7 n=some r) [] ((tA 4 (tFun Tryz.prog (fun (f:aa->ai->Option (aH×Int))=>(fun s:aa×ai×(aH×Int)=>f s.1 s.2.1=some s.2.2)) (fun s:aa×ai×(aH×Int)=>[ae.is s.1,aB.is s.2.1]) (fun s:aa×ai×(aH×Int)=>(Asn.tuple2 (dx.is s.2.2.1) (I6.is s.2.2.2))))).is r):=⟨Tryz.call267,fun hm=>Az n r hm⟩
section
attribute [local irreducible] W WL WN DM Op1 OpR Opd Dep
instance Me(n:Nat)(u:aa)(x:aa)(d:ak)(r:aa×Int):z1 71 (M.nU n u x d=some r) [ae.is u,ae.is x,aO.is d] (Asn.tuple2 (ae.is r.1) (I6.is r.2)):=.fx Tryz.call71 Tryz.func71 (M.nU.eq_1 ..)
instance Rx(n:Nat)(l:List af)(r:Bool):z1 315 (M.wD n l=some r) [(tL aj).is l] (tB.is r):=.fx Tryz.call315 Tryz.func315 (M.wD.eq_1 ..) [5]
abbrev Vi:=fun (lines:List Str)(nn:Nat)(s0:Str)(s1:Int)=>mkLp (τ:=Str×Int) (M.jw lines nn s0 s1) (fun mm s=>M.jw lines mm s.1 s.2) nn (s0,s1) [4] [] (fun s _ _ _ _ _ _ e=>(5,tS.is s.1)::(6,I6.is s.2)::e) z7 (fun _=>M.jw.eq_1 ..) (fun _ _=>M.jw.eq_2 ..)
abbrev Kz:=fun (nn:List aa)(s0:List ai)=>mkRg (τ:=List ai) (M.dI nn s0) (fun mm jj s=>M.dI mm s) nn s0 12 [10,11] [] (fun s k1 _ _ _ _ _ e=>(5,tO aB k1 s)::e) (fun s k1 _ _ _ _ _ e=>(5,Dec.Own aB 23 k1 s.length)::e) (fun _ _=>M.dI.eq_1 ..) (fun _ _ _ _=>M.dI.eq_2 ..)
attribute [instance] Vi Kz
instance OJ(n:Nat)(l:List Str)(least:Int)(r:Bool):z1 144 (M.nV n l least=some r) [(tL tS).is l,I6.is least] (tB.is r):=.fx Tryz.call144 Tryz.func144 (M.nV.eq_1 ..)
instance Im(n:Nat)(it:ah)(r:Bool):z1 154 (M.lZ n it=some r) [aD.is it] (tB.is r):=.fx Tryz.call154 Tryz.func154 (M.lZ.eq_1 ..)
instance Ns(n:Nat) (r:List (Int×(aa->aa->Option az))):z1 31 (M.vJ n=some r) [] ((tQ I6 (tFun Tryz.prog (fun (f:aa->aa->Option az)=>(fun s:aa×aa×az=>f s.1 s.2.1=some s.2.2)) (fun s:aa×aa×az=>[ae.is s.1,ae.is s.2.1]) (fun s:aa×aa×az=>(aL.is s.2.2)))).is r):=SpC.of Tryz.call31 Tryz.func31 X X fun g0 hm=>by
 unfold M.vJ at hm;have h63:FnM 63 (fun s0 s1=>M.mJ s0 s1):=⟨()⟩
 have h65:FnM 65 (fun s0 s1=>M.pu n s0 s1):=⟨()⟩
 have h67:FnM 67 (fun s0 s1=>M.mI n s0 s1):=⟨()⟩
 have h68:FnM 68 (fun s0 s1=>M.pz s0 s1):=⟨()⟩
 have h69:FnM 69 (fun s0 s1=>M.qQ s0 s1):=⟨()⟩
 exact Fx hm
instance Tz(n:Nat)(u:aa)(p:List ax)(r:ai×Int):z1 34 (M.vK n u p=some r) [ae.is u,(tL bu).is p] (Asn.tuple2 (aB.is r.1) (I6.is r.2)):=.fx Tryz.call34 Tryz.func34 (M.vK.eq_1 ..)
instance Io(n:Nat)(c:aa)(c1:aa)(r:Bool):z1 248 (M.oD n c c1=some r) [ae.ptr c,ae.ptr c1] (tB.is r):=.fx Tryz.call248 Tryz.func248 (M.oD.eq_1 ..)
instance GD(n:Nat)(w:af)(r:Bool):z1 259 (M.jl n w=some r) [aj.is w] (tB.is r):=.fx Tryz.call259 Tryz.func259 (M.jl.eq_1 ..)
instance Ip(n:Nat)(u:aa)(most:Int)(r:Bool):z1 4 (M.oh n u most=some r) [ae.is u,I6.is most] (tB.is r):=.fx Tryz.call4 Tryz.func4 (M.oh.eq_1 ..)
instance Ry(n:Nat)(u:aa)(r:Str×Int):z1 56 (M.xG n u=some r) [ae.is u] (Asn.tuple2 (tS.is r.1) (I6.is r.2)):=.fx Tryz.call56 Tryz.func56 (M.xG.eq_1 ..)
instance Rz(n:Nat)(u:aa)(r:Bool):z1 57 (M.xH n u=some r) [ae.is u] (tB.is r):=.fx Tryz.call57 Tryz.func57 (M.xH.eq_1 ..)
instance Iq(n:Nat)(u:aa)(p:List ax)(r:List ai):z1 60 (M.oo n u p=some r) [ae.is u,(tL bu).is p] ((tL aB).is r):=.fx Tryz.call60 Tryz.func60 (M.oo.eq_1 ..) [7]
end
end Go.Proofs.YtapobcikfdbjiaaGreatDoor
