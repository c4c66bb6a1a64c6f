import Derived.Test.YtobcmdhemlennaaGreatDoorVm
import Derived.Test.YtobcmdhemlennaaGreatDoorVn
/-
  The code does what the models say: written by program.
-/
set_option linter.unusedVariables false
set_option linter.unusedSimpArgs false
namespace Go.Proofs.YtobcmdhemlennaaGreatDoor
open Go Go.Dec
set_option maxRecDepth 1000000
set_option maxHeartbeats 4000000
abbrev Um:=λ(nn:List ai)(s0:List (ai×Bool))=>mkRg (τ:=List (ai×Bool)) (M.iN nn s0) (λmm jj s=>M.iN mm s) nn s0 13 [1,3,4,11,12] [] z7 (λs _ _ _ b1 _ _ e=>(10,Mq aH tB s b1)::e) (λ_ _=>M.iN.eq_1 ..) (λ_ _ _ _=>M.iN.eq_2 ..)
abbrev RV:=λ(p:List av)(nn:Nat)(s0:(List aa))(s1:Int)=>mkLp (τ:=(List aa)×Int) (M.jg p nn s0 s1) (λmm s=>M.jg p mm s.1 s.2) nn (s0,s1) [1] [] (λs _ _ _ _ _ _ e=>(5,(tL ae).is s.1)::(8,I6.is s.2)::e) z7 (λ_=>M.jg.eq_1 ..) (λ_ _=>M.jg.eq_2 ..)
abbrev RX:=λ(p:List av)(now2:List aa)(k5:Int)(nn:Nat)(s0:(List aa))(s1:Int)=>mkLp (τ:=(List aa)×Int) (M.jf p now2 k5 nn s0 s1) (λmm s=>M.jf p now2 k5 mm s.1 s.2) nn (s0,s1) [1,5,8] [] (λs k1 _ _ _ _ _ e=>(9,tO ae k1 s.1)::(10,I6.is s.2)::e) (λs k1 _ _ _ _ _ e=>(58,Dec.Own ae 27 k1 s.1.length)::e) (λ_=>M.jf.eq_1 ..) (λ_ _=>M.jf.eq_2 ..)
abbrev RY:=λ(p:List av)(now2:List aa)(k5:Int)(i1:Int)(nn:Nat)(s0:(List aa))(s1:Int)=>mkLp (τ:=(List aa)×Int) (M.gV p now2 k5 i1 nn s0 s1) (λmm s=>M.gV p now2 k5 i1 mm s.1 s.2) nn (s0,s1) [1,5,8,10] [] (λs k1 _ _ _ _ _ e=>(9,tO ae k1 s.1)::(11,I6.is s.2)::e) (λs k1 _ _ _ _ _ e=>(58,Dec.Own ae 27 k1 s.1.length)::e) (λ_=>M.gV.eq_1 ..) (λ_ _=>M.gV.eq_2 ..)
abbrev RZ:=λ(p:List av)(every:List aa)(nn:Nat)(s0:(List aa))(s1:Int)=>mkLp (τ:=(List aa)×Int) (M.gU p every nn s0 s1) (λmm s=>M.gU p every mm s.1 s.2) nn (s0,s1) [1,6] [] (λs k1 _ _ _ _ _ e=>(5,tO ae k1 s.1)::(7,I6.is s.2)::e) (λs k1 _ _ _ _ _ e=>(20,Dec.Own ae 27 k1 s.1.length)::e) (λ_=>M.gU.eq_1 ..) (λ_ _=>M.gU.eq_2 ..)
attribute [instance] Um RV RX RY RZ
section
attribute [local irreducible] W WL WN DM Op1 OpR Opd Dep
instance Mg(n:Nat)(p:aa)(x:aa)(r:Int):z2 160 (M.l9 n p x=some r) [ae.is p,ae.is x] (I6.is r) [E1]:=.fx Tryz.call160 Tryz.func160 (M.l9.eq_1 ..)
end
theorem vW:∀ (n:Nat) (u:aa) (id:ai) (do0_:aa->Option aa) (r:aa),M.gu n u id do0_=some r->FSpec Tryz.prog 167 [ae.is u,aH.is id,(tFW Tryz.prog aI ae ae 27 27 8 (λx:aa=>x.Kids) do0_)] (ae.is r):=by
 intro n;induction n with
 | zero=>intro u id do0_ r hm;cases hm
 | succ n ih=>
  intro u id do0_ r hm;rw [M.gu.eq_2] at hm;refine FSpec.of Tryz.func167 X X X λg0=>Aw<|WL.opR X (OpR.boxB 3 (bg.is ae u) (.t X)) λb=>Ao X (.box (.t X))<|WL.opR X (OpR.alloc 6 ze27.h) λb1=>An<|W.seq<|Aw<|Ao X (.fieldAddrB (o:=0) U27 X J23 (.t X) X)<|Ao X (.kR 3 X ty23.h wK.h X (.t X))<|Ao X (.load ty23.h (.t X))<|Ao X (.eqSt (D:=2) X (by decide) eg23 eq23 (.t X) (.t X))<|An<|W.cD hm (.t X) (λhp2 hm=>?_) (λhp2 hm=>?_)
  .refine Aw<|Ao X (.fieldAddrB (o:=0) U27 X J25 (.t X) X)<|Ao X (.kR 3 X ty25.h ny.h X (.t X)) ?_;obtain ⟨unit,hv3,hm⟩:=Bs hm;refine WL.opR X (OpR.call (us:=[]) C225 ((kW _ _ hv3).rekey 18) X ⟨(.t X),trivial⟩) λk=>Ao X (.fieldAddrB (o:=0) U27 X J25 (.t X) X)<|WL.opU (OpR.storeBFT (b:=b) (s:=ae) (s':=aI k) (t:=tUT k) 3 X X ⟨ty25.h.agg,ty25.h.size⟩ (uH k) X (show 7+1<=8 by decide) (.t X) (Opd.LD (.t X))) λ_=>WL.nil<|WN.weakR (res':=[(18,OwnU ae 27 k unit),(3,(Bx 8 true 27 ((aI k).is ({u with Kids:=unit}:aa)) b)),(6,(Bx 8 true 27 (ae.is az) b1))]) ⟨X,X,X,X,X,X,trivial⟩<|WN.rekey (res':=[(1000003,OwnU ae 27 k unit),(3,(Bx 8 true 27 ((aI k).is ({u with Kids:=unit}:aa)) b)),(6,(Bx 8 true 27 (ae.is az) b1))]) X<|Aq<|Aw<|WL.mv X X ?_;obtain ⟨u1,hv4,hm⟩:=Bs hm;refine WL.weakR (res':=[(3,(Bx 8 true 27 ((aI k).is ({u with Kids:=unit}:aa)) b)),(1000003,OwnU ae 27 k unit),(6,(Bx 8 true 27 (ae.is az) b1))]) ⟨X,X,X,X,X,X,trivial⟩<|WL.opR X (OpR.callFW (k:=k) 3 1000003 hv4 X (.t X) (.t X)) λ_=>Ar<|Ao X (.qG 3 Y27 Z27 X (.t X))<|WL.opU (OpR.storeB (b:=b1) 6 Z27 (bg.is ae u1) X (.t X) (.t X)) λ_=>WL.ns ?_;cases hm;exact W.retQ1 () X (ResAt.cell 6 Y27 Z27 X (.t X)) trivial
  .refine W.skip<|Aq<|Aw<|Ao X (.fieldAddrB (o:=0) U27 X J25 (.t X) X)<|Ao X (.kR 3 X ty25.h ny.h X (.t X)) ?_;obtain ⟨unit1,hv5,hm⟩:=Bs hm;refine WL.opR X (OpR.call (us:=[]) C225 ((kW _ _ hv5).rekey 25) X ⟨(.t X),trivial⟩) λk1=>Ag X X<|An<|W.seq<|Aw<|Am X X<|Ao X (.kv U25 (.t X))<|Ao X (.move .i64)<|An<|W.block ?_;obtain ⟨s6,hs7,hk8⟩:=Bs hm;clear hm;refine W.loop (λm (s:Int)=>M.jD id do0_ unit1 (M.gu n) m s=some s6) (λs=>[(28,(I6.is s)),(2,(tFW Tryz.prog aI ae ae 27 27 8 (λx:aa=>x.Kids) do0_)),(3,(Bp b 0)),(4,(aH.ptr id)),(6,(Bp b1 0)),(7,(tU k1 unit1.length)),(26,(tU k1 unit1.length)),(27,(I6.is (unit1.length:Int)))]) (λs=>[(25,OwnU ae 27 k1 unit1),(3,(Bx 8 true 27 (ae.is u) b)),(6,(Bx 8 true 27 (ae.is az) b1))]) _ (0:Int) hs7 ⟨.q X,.q X,.q X,.q X,.q X,.q X,.q X,.q X,trivial⟩ ⟨X,X,X,X,X,X,trivial⟩ ?_;rintro n9 v hm;try dsimp only at hm
   change W _ _ _ _ _ _ _ [(28,(I6.is v)),(2,(tFW Tryz.prog aI ae ae 27 27 8 (λx:aa=>x.Kids) do0_)),(3,(Bp b 0)),(4,(aH.ptr id)),(6,(Bp b1 0)),(7,(tU k1 unit1.length)),(26,(tU k1 unit1.length)),(27,(I6.is (unit1.length:Int)))] [(25,OwnU ae 27 k1 unit1),(3,(Bx 8 true 27 (ae.is u) b)),(6,(Bx 8 true 27 (ae.is az) b1))];cases n9 with
   | zero=>rw [M.jD.eq_1] at hm;cases hm
   | succ n9=>
    rw [M.jD.eq_2] at hm;refine Aw<|Ao X (.ltI (.t X) (.t X))<|An<|W.seq<|W.cD hm (.t X) (λhp11 hm=>?_) (λhp11 hm=>?_)
    .refine W.skip<|Aq<|W.seq<|W.block<|Aw<|WL.mv X X ?_;obtain ⟨v1,hv12,hm⟩:=Bs hm;refine Ao X (.idxU (t:=ae) hv12 U25 Z27 (.t X) (.t X))<|Ao X (.um 25 hv12 ty27.h X (.t X))<|WL.opR X (OpR.alloc 9 ze27.h) λb2=>Ag X X<|WL.opU (OpR.storeB (b:=b2) 9 Z27 (bg.is ae v1) X (.t X) (.t X)) λ_=>WL.sealed (t:=ae) (u:=v1) 9 9 X X<|Ar<|Ao X (.load ty27.h (.t X))<|Ao X (.load ty23.h (.t X)) ?_;obtain ⟨find,hv13,hm⟩:=Bs hm;refine Ao X (.call C136 ((Cn _ _ _ _).h hv13) ⟨(.t X),(.t X),trivial⟩)<|Am X X<|Ao X (.extract0 (.t X))<|Ao X (.extract1 (.t X))<|WL.opR X (OpR.alloc 10 ze27.h) λb3=>WL.opU (OpR.storeB (b:=b3) 10 Z27 (bg.is ae find.1) X (.t X) (.t X)) λ_=>WL.sealed (t:=ae) (u:=find.1) 10 10 X X<|Ag X X<|Ar<|Am X X<|An<|W.cB hm (.t X) (λhp15 hm=>?_) (λhp15 hm=>?_)
     .refine Aw<|Am X X<|Am X X<|Ao X (.load ty27.h (.t X))<|Ao X (.load ty23.h (.t X))<|WL.mv X X ?_;obtain ⟨with0_,hv16,hm⟩:=Bs hm;refine Ao X (.call C167 (ih _ _ _ _ hv16) ⟨(.t X),(.t X),(.t X),trivial⟩) ?_;obtain ⟨v2,hv17,hm⟩:=Bs hm;refine Ao X (.idxU (t:=ae) hv17 U25 Z27 (.t X) (.t X)) ?_;obtain ⟨w,hv18,hm⟩:=Bs hm;refine WL.opU (OpR.storeU (key:=25) hv18 ty27.h (.t X) (.t X) X) λ_=>WL.nil<|WN.kv 7 (cO hv18) X<|WN.kv 26 (cO hv18) X<|WN.kv 40 (cO hv18) X<|Aq<|W.exit X ?_;have hr19:=Si hm;clear hm;subst hr19;have hm:=hk8;try dsimp only at hm
      refine Aq<|Aw<|Am X X<|Ao X (.fieldAddrB (o:=0) U27 X J25 (.t X) X)<|WL.opU (OpR.storeBFT (b:=b) (s:=ae) (s':=aI k1) (t:=tUT k1) 3 X X ⟨ty25.h.agg,ty25.h.size⟩ (uH k1) X (show 7+1<=8 by decide) (.t X) (Opd.LD (.t X))) λ_=>WL.nil<|WN.weakR (res':=[(25,OwnU ae 27 k1 w),(3,(Bx 8 true 27 ((aI k1).is ({u with Kids:=w}:aa)) b)),(6,(Bx 8 true 27 (ae.is az) b1))]) ⟨X,X,X,X,X,X,trivial⟩<|WN.rekey (res':=[(1000003,OwnU ae 27 k1 w),(3,(Bx 8 true 27 ((aI k1).is ({u with Kids:=w}:aa)) b)),(6,(Bx 8 true 27 (ae.is az) b1))]) X<|Aq<|Aw<|WL.fixG 1000003 X<|WL.boxG (ae.is ({u with Kids:=w}:aa)) 3 X (λ_ _ hr hA=>lX (u:=({u with Kids:=w}:aa)) (hr.at (key:=1000003) X) hA)<|Ao X (.qG 3 Y27 Z27 X (.t X))<|WL.opU (OpR.storeB (b:=b1) 6 Z27 (bg.is ae ({u with Kids:=w}:aa)) X (.t X) (.t X)) λ_=>WL.ns ?_;cases hm;exact W.retQ1 () X (ResAt.cell 6 Y27 Z27 X (.t X)) trivial
     .refine W.skip<|WN.block<|Aq<|W.region ?_;obtain ⟨v3,hv20,hm⟩:=Bs hm;exact Ao X (.addC hv20 (.t X) .i64)<|Am X X<|WL.nil<|WN.again n9 v3 (Nat.lt_succ_self n9) hm ⟨.q X,.q X,.q X,.q X,.q X,.q X,.q X,.q X,trivial⟩ ⟨X,X,X,X,X,X,trivial⟩
    .refine W.exit X ?_;have hr21:=Si hm;clear hm;subst hr21;have hm:=hk8;try dsimp only at hm
     refine Aq<|Aw<|Am X X<|Ao X (.fieldAddrB (o:=0) U27 X J25 (.t X) X)<|WL.opU (OpR.storeBFT (b:=b) (s:=ae) (s':=aI k1) (t:=tUT k1) 3 X X ⟨ty25.h.agg,ty25.h.size⟩ (uH k1) X (show 7+1<=8 by decide) (.t X) (Opd.LD (.t X))) λ_=>WL.nil<|WN.weakR (res':=[(25,OwnU ae 27 k1 unit1),(3,(Bx 8 true 27 ((aI k1).is ({u with Kids:=unit1}:aa)) b)),(6,(Bx 8 true 27 (ae.is az) b1))]) ⟨X,X,X,X,X,X,trivial⟩<|WN.rekey (res':=[(1000003,OwnU ae 27 k1 unit1),(3,(Bx 8 true 27 ((aI k1).is ({u with Kids:=unit1}:aa)) b)),(6,(Bx 8 true 27 (ae.is az) b1))]) X<|Aq<|Aw<|WL.fixG 1000003 X<|WL.boxG (ae.is ({u with Kids:=unit1}:aa)) 3 X (λ_ _ hr hA=>lX (u:=({u with Kids:=unit1}:aa)) (hr.at (key:=1000003) X) hA)<|Ao X (.qG 3 Y27 Z27 X (.t X))<|WL.opU (OpR.storeB (b:=b1) 6 Z27 (bg.is ae ({u with Kids:=unit1}:aa)) X (.t X) (.t X)) λ_=>WL.ns ?_;cases hm;exact W.retQ1 () X (ResAt.cell 6 Y27 Z27 X (.t X)) trivial
instance QJ(n:Nat)(u:aa)(id:ai)(do0_:aa->Option aa)(r:aa):z1 167 (M.gu n u id do0_=some r) [ae.is u,aH.is id,(tFW Tryz.prog aI ae ae 27 27 8 (λx:aa=>x.Kids) do0_)] (ae.is r):=⟨Tryz.call167,λhm=>vW n u id do0_ r hm⟩
section
attribute [local irreducible] W WL WN DM Op1 OpR Opd Dep
instance G5(n:Nat)(w:List af)(old:List Str)(new:List Str)(nth:Int)(act:Int)(item:Int)(r:(List af)×Int):z1 171 (M.kT n w old new nth act item=some r) [(tL aj).is w,(tL tS).is old,(tL tS).is new,I6.is nth,I6.is act,I6.is item] (Asn.tuple2 ((tL aj).is r.1) (I6.is r.2)):=.fx Tryz.call171 Tryz.func171 (M.kT.eq_1 ..)
end
theorem uJ(n:Nat)(w:List af)(part:List Str)(new:List Str)(nth:Int)(act:Int)(item:Int)(r:(List af)×Int)(hm:M.eX n w part new nth act item=some r):FSpec Tryz.prog 173 [(tL aj).is w,(tL tS).is part,(tL tS).is new,I6.is nth,I6.is act,I6.is item] (Asn.tuple2 ((tL aj).is r.1) (I6.is r.2)):=by
 unfold M.eX at hm;refine FSpec.of Tryz.func173 X X X λg0=>Aw<|Ao X (.assign (.nil (t:=aj)))<|Ao X (.assign .i64)<|An<|W.seq ?_;obtain ⟨s1,hs2,hk3⟩:=Bs hm;clear hm;refine W.join (λs:Bool=>s=s1) (λs=>[(31,(tB.is s)),(0,((tL aj).is w)),(1,((tL tS).is part)),(2,((tL tS).is new)),(3,(I6.is nth)),(4,(I6.is act)),(5,(I6.is item))]) (λs=>[]) ?_ ?_
 .rintro v hj32;try dsimp only at hj32
  subst hj32;have hm:=hk3;clear hk3;try dsimp only at hm
  change W _ _ _ _ _ _ _ [(31,(tB.is v)),(0,((tL aj).is w)),(1,((tL tS).is part)),(2,((tL tS).is new)),(3,(I6.is nth)),(4,(I6.is act)),(5,(I6.is item))] [];refine W.cB hm (.t X) (λhp11 hm=>?_) (λhp11 hm=>?_)
  .refine Aw<|Ao X (.assign (.nil (t:=aj)))<|Ao X (.assign .i64)<|WL.ns ?_;cases hm;exact W.ret2 () X X (.t X) (.t X) trivial
  .refine W.skip<|Aq<|W.seq<|Aw<|Am X X<|Ao X (.qd U38 (.t X))<|Ao X (.eqI (.t X) .i64)<|An<|W.cD hm (.t X) (λhp13 hm=>?_) (λhp13 hm=>?_)
   .refine Aw<|Am X X<|Ao X (.buildSlice (n:=1) (ys:=[(0,(0:Int))]) (z:=(0:Int)) (xs:=[(0:Int)]) U41 el3.h ze3.h ⟨X,.i64,trivial⟩ (by simp) (by decide) X)<|Am X X<|Am X X<|WL.mv X X ?_;obtain ⟨put,hv14,hm⟩:=Bs hm;refine Ao X (.call C231 (qZ _ _ _ _ _ _ _ _ hv14) ⟨(.t X),(.t X),.i64,(.t X),(.t X),(.t X),trivial⟩)<|Ao X (.extract0 (.t X))<|Ao X (.extract1 (.t X))<|Ag X X<|Ag X X<|WL.ns ?_;cases hm;exact W.ret2 () X X (.t X) (.t X) trivial
   .refine W.skip<|Aq<|Aw<|Am X X<|Am X X<|WL.mv X X ?_;obtain ⟨places,hv15,hm⟩:=Bs hm;refine Ao X (.call C230 ((xZ _ _ _ _ _).h hv15) ⟨(.t X),(.t X),(.t X),trivial⟩) ?_;obtain ⟨int,hv16,hm⟩:=Bs hm;refine WL.opR X (OpR.loosen fl3 (OpR.call (us:=[]) C37 ((pF _ _ hv16).rekey 47) X ⟨(.t X),trivial⟩)) λk=>Ag X X<|An<|W.seq<|Aw<|Am X X<|Ao X (.kv U41 (.t X))<|Ao X (.eqI (.t X) .i64)<|An<|W.cD hm (.t X) (λhp18 hm=>?_) (λhp18 hm=>?_)
    .refine Aw<|Ao X (.assign (.nil (t:=aj)))<|Ao X (.assign .i64)<|WL.ns ?_;cases hm;exact W.ret2 () X X (.t X) (.t X) trivial
    .refine W.skip<|Aq<|W.seq<|Aw<|Am X X<|Ao X (.kv U41 (.t X))<|Ao X (.move .i64)<|An<|W.block ?_;obtain ⟨s19,hs20,hk21⟩:=Bs hm;clear hm;refine W.loop (λm (s:((List Int)×Int)×Tok)=>M.dG part int m s.1.1 s.1.2=some s19) (λs=>[(14,(tU s.2 s.1.1.length)),(53,(I6.is s.1.2)),(0,((tL aj).is w)),(1,((tL tS).is part)),(2,((tL tS).is new)),(4,(I6.is act)),(5,(I6.is item)),(52,(I6.is (int.length:Int)))]) (λs=>[(47,OwnU I6 3 s.2 s.1.1)]) _ ((int,(0:Int)),k) hs20 ⟨.q X,.q X,.q X,.q X,.q X,.q X,.q X,.q X,trivial⟩ ⟨X,X,trivial⟩ ?_;rintro n22 ⟨⟨l,v1⟩,k1⟩ hm;try dsimp only at hm
     change W _ _ _ _ _ _ _ [(14,(tU k1 l.length)),(53,(I6.is v1)),(0,((tL aj).is w)),(1,((tL tS).is part)),(2,((tL tS).is new)),(4,(I6.is act)),(5,(I6.is item)),(52,(I6.is (int.length:Int)))] [(47,OwnU I6 3 k1 l)];cases n22 with
     | zero=>rw [M.dG.eq_1] at hm;cases hm
     | succ n22=>
      rw [M.dG.eq_2] at hm;refine Aw<|Ao X (.ltI (.t X) (.t X))<|An<|W.seq<|W.cD hm (.t X) (λhp24 hm=>?_) (λhp24 hm=>?_)
      .refine W.skip<|Aq<|W.seq<|W.block<|Aw<|Am X X<|Ag X X<|WL.nr1<|Am X X<|WL.mv X X ?_;obtain ⟨v2,hv25,hm⟩:=Bs hm;refine Ao X (.idxU (t:=I6) hv25 U41 Z3 (.t X) (.t X))<|Ao X (.um 47 hv25 ty3.h X (.t X))<|Am X X<|Ao X (.qd U38 (.t X)) ?_;obtain ⟨v3,hv26,hm⟩:=Bs hm;refine Ao X (.addC hv26 (.t X) (.t X)) ?_;obtain ⟨v4,hv27,hm⟩:=Bs hm;refine Ao X (.idxU (t:=I6) hv27 U41 Z3 (.t X) (.t X)) ?_;obtain ⟨w1,hv28,hm⟩:=Bs hm;refine WL.opU (OpR.storeU (key:=47) hv28 ty3.h (.t X) (.t X) X) λ_=>WL.nil<|WN.kv 14 (cO hv28) X<|WN.kv 56 (cO hv28) X<|WN.block<|Aq<|W.region ?_;obtain ⟨v5,hv29,hm⟩:=Bs hm;exact Ao X (.addC hv29 (.t X) .i64)<|Am X X<|WL.nil<|WN.again n22 ((w1,v5),k1) (Nat.lt_succ_self n22) hm ⟨.q X,.q X,.q X,.q X,.q X,.q X,.q X,.q X,trivial⟩ ⟨X,X,trivial⟩
      .refine W.exit X ?_;have hr30:=Si hm;clear hm;subst hr30;have hm:=hk21;try dsimp only at hm
       refine Aq<|Aw<|Am X X<|Am X X<|Am X X<|Am X X<|WL.mv X X ?_;obtain ⟨put1,hv31,hm⟩:=Bs hm;refine WL.fixU 66 47 X X<|WL.sameU 66 14 X X<|Ao X (.call C231 (qZ _ _ _ _ _ _ _ _ hv31) ⟨(.t X),(Opd.own (.t X)),.i64,(.t X),(.t X),(.t X),trivial⟩)<|Ao X (.extract0 (.t X))<|Ao X (.extract1 (.t X))<|Ag X X<|Ag X X<|WL.ns ?_;cases hm;exact W.ret2 () X X (.t X) (.t X) trivial
 .have hm:=hs2;clear hs2;refine W.region<|Am X X<|Ao X (.qd U38 (.t X))<|Ao X (.eqI (.t X) .i64)<|WL.mv X X ?_;rcases iteD hm with ⟨hp5,hb4,hm⟩ | ⟨hp5,hb4,hm⟩
  .exact Ap X hb4<|Ap X hb4<|Ao X (.pickT (.t X) hb4 .bool)<|Am X X<|Ap X X<|Ap X X<|Ap X X<|Ap X X<|WL.pass2 X X X X X X<|WL.pass2 X X X X X X<|Ap X X<|Ao X (.pickT (.t X) X .bool)<|WL.nil<|WN.meet true (Si hm) ⟨.q X,.q X,.q X,.q X,.q X,.q X,.q X,trivial⟩ trivial
  .refine Ax X hb4 (.move (.t X))<|Ax X hb4 (.ltI (.t X) .i64)<|Ao X (.pickF (.t X) hb4 (.t X))<|WL.mv X X ?_;rcases iteD hm with ⟨hp7,hb6,hm⟩ | ⟨hp7,hb6,hm⟩
   .exact Ap X hb6<|Ap X hb6<|Ap X hb6<|Ap X hb6<|WL.pass2 X X X X X X<|WL.pass2 X X X X X X<|Ap X hb6<|Ao X (.pickT (.t X) hb6 .bool)<|WL.nil<|WN.meet true (Si hm) ⟨.q X,.q X,.q X,.q X,.q X,.q X,.q X,trivial⟩ trivial
   .refine Ax X hb6 (.move (.t X))<|Ax X hb6 (.qd U38 (.t X))<|Ax X hb6 (.eqI (.t X) .i64)<|Ax X hb6 (.move (.t X)) ?_;rcases iteD hm with ⟨hp9,hb8,hm⟩ | ⟨hp9,hb8,hm⟩
    .exact Ax X hb8 (.move (.t X))<|Ax X hb8 (.neI (.t X) .i64)<|Ax X hb6 (.pickT (.t X) hb8 (.t X))<|Ao X (.pickF (.t X) hb6 (.t X))<|WL.nil<|WN.meet (decide (nth≠(0:Int))) (Si hm) ⟨.q X,.q X,.q X,.q X,.q X,.q X,.q X,trivial⟩ trivial
    .exact Ap X hb8<|Ap X hb8<|Ax X hb6 (.pickF (.t X) hb8 .bool)<|Ao X (.pickF (.t X) hb6 (.t X))<|WL.nil<|WN.meet false (Si hm) ⟨.q X,.q X,.q X,.q X,.q X,.q X,.q X,trivial⟩ trivial
instance EX(n:Nat)(w:List af)(part:List Str)(new:List Str)(nth:Int)(act:Int)(item:Int)(r:(List af)×Int):z1 173 (M.eX n w part new nth act item=some r) [(tL aj).is w,(tL tS).is part,(tL tS).is new,I6.is nth,I6.is act,I6.is item] (Asn.tuple2 ((tL aj).is r.1) (I6.is r.2)):=⟨Tryz.call173,λhm=>uJ n w part new nth act item r hm⟩
section
attribute [local irreducible] W WL WN DM Op1 OpR Opd Dep
instance G6(n:Nat)(s0_:Str)(r:Bool):z1 262 (M.nS n s0_=some r) [tS.is s0_] (tB.is r):=.fx Tryz.call262 Tryz.func262 (M.nS.eq_1 ..)
instance QK(n:Nat)(u:aa)(r:Bool):z1 287 (M.wG n u=some r) [ae.is u] (tB.is r):=.fx Tryz.call287 Tryz.func287 (M.wG.eq_1 ..) [6]
instance JG(n:Nat)(s0_:Str)(r:Bool):z1 150 (M.lq n s0_=some r) [tS.is s0_] (tB.is r):=.fx Tryz.call150 Tryz.func150 (M.lq.eq_1 ..)
instance O0(n:Nat)(u:aa)(p:List av)(r:List aa):z1 137 (M.u7 n u p=some r) [ae.is u,(tL bE).is p] ((tL ae).is r):=.fx Tryz.call137 Tryz.func137 (M.u7.eq_1 ..)
abbrev R3:=λ(u:aa)(slf:aa->Option Bool)(nn:Nat)(s0:Int)=>mkLp (M.eZ u slf nn s0) (λmm s=>M.eZ u slf mm s) nn s0 [1] [] (λs _ _ _ _ _ _ e=>(3,I6.is s)::e) z7 (λ_=>M.eZ.eq_1 ..) (λ_ _=>M.eZ.eq_2 ..)
abbrev R4:=λ(u:aa)(i:Int)(nn:Nat)(s0:Int)=>mkLp (M.dF u i nn s0) (λmm s=>M.dF u i mm s) nn s0 [1,3] [] (λs _ _ _ _ _ _ e=>(4,I6.is s)::e) z7 (λ_=>M.dF.eq_1 ..) (λ_ _=>M.dF.eq_2 ..)
abbrev Vb:=λ(l:List aS)(items:Int)(nn:Nat)(s0:Int)=>mkLp (M.iI l items nn s0) (λmm s=>M.iI l items mm s) nn s0 [0,2] [] (λs _ _ _ _ _ _ e=>(7,I6.is s)::e) z7 (λ_=>M.iI.eq_1 ..) (λ_ _=>M.iI.eq_2 ..)
abbrev Vd:=λ(l:List aS)(i:Int)(nn:Nat)(s0:Int)=>mkLp (M.jF l i nn s0) (λmm s=>M.jF l i mm s) nn s0 [0,2,7] [] (λs _ _ _ _ _ _ e=>(8,I6.is s)::e) z7 (λ_=>M.jF.eq_1 ..) (λ_ _=>M.jF.eq_2 ..)
abbrev R6:=λ(u:aa)(depth:Int)(slf:aa->Int->Option (List Str))(nn:Nat)(s0:(List Str))(s1:Int)=>mkLp (τ:=(List Str)×Int) (M.ja u depth slf nn s0 s1) (λmm s=>M.ja u depth slf mm s.1 s.2) nn (s0,s1) [1,2] [] (λs k1 _ _ _ _ _ e=>(5,tO tS k1 s.1)::(6,I6.is s.2)::e) (λs k1 _ _ _ _ _ e=>(10,Dec.Own tS 9 k1 s.1.length)::e) (λ_=>M.ja.eq_1 ..) (λ_ _=>M.ja.eq_2 ..)
abbrev Mh:=λ(n:Nat)(nn:List av)(ii:Int)=>mkRi (M.bO n nn ii) (λmm jj s=>M.bO n mm jj) nn ii () 7 [0,5,6] [] z7 z7 (λ_ _=>M.bO.eq_1 ..) (λ_ _ _ _=>M.bO.eq_2 ..)
attribute [instance] R3 R4 Vb Vd R6 Mh
instance O1:∀ (n:Nat) (u:aa) (r:Bool),z1 44 (M.nY n u=some r) [ae.is u] (tB.is r):=by
 intro n;induction n with
 | zero=>exactλ_ _=>⟨Tryz.call44,λhm=>by cases hm⟩
 | succ n ih=>
  intro u r;refine SpC.of Tryz.call44 Tryz.func44 X X λg0 hm=>?_;rw [M.nY.eq_2] at hm;exact Fx hm
instance R5(n:Nat)(l:List aS)(most:Int)(items:Int)(r:Bool):z1 5 (M.zk n l most items=some r) [(tL jE).is l,I6.is most,I6.is items] (tB.is r):=.fx Tryz.call5 Tryz.func5 (M.zk.eq_1 ..)
instance O3(n:Nat)(u:aa)(r:Bool):z1 52 (M.sM n u=some r) [ae.is u] (tB.is r):=.fx Tryz.call52 Tryz.func52 (M.sM.eq_1 ..)
instance O4:∀ (n:Nat) (u:aa) (depth:Int) (r:List Str),z1 77 (M.qz n u depth=some r) [ae.is u,I6.is depth] ((tL tS).is r):=by
 intro n;induction n with
 | zero=>exactλ_ _ _=>⟨Tryz.call77,λhm=>by cases hm⟩
 | succ n ih=>
  intro u depth r;refine SpC.of Tryz.call77 Tryz.func77 X X λg0 hm=>?_;rw [M.qz.eq_2] at hm;exact Fx hm
instance JH(n:Nat)(p:List av)(r:Bool):z1 149 (M.mh n p=some r) [(tL bE).is p] (tB.is r):=.fx Tryz.call149 Tryz.func149 (M.mh.eq_1 ..) [4]
instance x8(n:Nat)(u:aa)(id:ai)(r:aF×Int):z1 270 (M.kK n u id=some r) [ae.is u,aH.is id] (Asn.tuple2 (dD.is r.1) (I6.is r.2)):=.fx Tryz.call270 Tryz.func270 (M.kK.eq_1 ..)
instance x9(n:Nat)(u:aa)(id:ai)(r:aF×Int):z1 273 (M.kL n u id=some r) [ae.is u,aH.is id] (Asn.tuple2 (dD.is r.1) (I6.is r.2)):=.fx Tryz.call273 Tryz.func273 (M.kL.eq_1 ..)
instance yc(n:Nat)(u:aa)(id:ai)(r:aF×Int):z1 275 (M.kM n u id=some r) [ae.is u,aH.is id] (Asn.tuple2 (dD.is r.1) (I6.is r.2)):=.fx Tryz.call275 Tryz.func275 (M.kM.eq_1 ..)
instance yf(n:Nat)(u:aa)(id:ai)(r:aF×Int):z1 277 (M.kN n u id=some r) [ae.is u,aH.is id] (Asn.tuple2 (dD.is r.1) (I6.is r.2)):=.fx Tryz.call277 Tryz.func277 (M.kN.eq_1 ..)
instance JI(n:Nat)(u:aa)(id:ai)(r:aa):z1 170 (M.oo n u id=some r) [ae.is u,aH.is id] (ae.is r):=.fx Tryz.call170 Tryz.func170 (M.oo.eq_1 ..) [5,6]
instance Mi(n:Nat)(u:aa)(x:aa)(d:ak)(r:aa×Int):z1 143 (M.oM n u x d=some r) [ae.is u,ae.is x,aJ.is d] (Asn.tuple2 (ae.is r.1) (I6.is r.2)):=.fx Tryz.call143 Tryz.func143 (M.oM.eq_1 ..) [8]
instance O5(n:Nat)(u:aa)(x:aa)(d:ak)(r:aa×Int):z1 144 (M.qW n u x d=some r) [ae.is u,ae.is x,aJ.is d] (Asn.tuple2 (ae.is r.1) (I6.is r.2)):=.fx Tryz.call144 Tryz.func144 (M.qW.eq_1 ..) [8]
end
abbrev Uo:=λ(units:List aa)(nn:Nat)(s0:(List ai))(s1:Int)=>mkLp (τ:=(List ai)×Int) (M.jP units nn s0 s1) (λmm s=>M.jP units mm s.1 s.2) nn (s0,s1) [6] [] (λs k1 _ _ _ _ _ e=>(5,tO aH k1 s.1)::(7,I6.is s.2)::e) (λs k1 _ _ _ _ _ e=>(8,Dec.Own aH 23 k1 s.1.length)::e) (λ_=>M.jP.eq_1 ..) (λ_ _=>M.jP.eq_2 ..)
abbrev Mk:=λ(nn:List av)(s0:List aa)=>mkRg (τ:=List aa) (M.dY nn s0) (λmm jj s=>M.dY mm s) nn s0 35 [5,33,34] [] z7 (λs _ _ _ b1 _ _ e=>(5,Bx 1 false 25 ((tL ae).is s) b1)::e) (λ_ _=>M.dY.eq_1 ..) (λ_ _ _ _=>M.dY.eq_2 ..)
abbrev Ml:=λ(e:av)(nn:List aa)(s0:List aa)=>mkRg (τ:=List aa) (M.eQ e nn s0) (λmm jj s=>M.eQ e mm s) nn s0 41 [5,7,33,34,35,39,40] [5] (λs k1 _ _ _ _ _ e=>(8,tO ae k1 s)::e) (λs k1 _ _ _ _ _ e=>(8,Dec.Own ae 27 k1 s.length)::e) (λ_ _=>M.eQ.eq_1 ..) (λ_ _ _ _=>M.eQ.eq_2 ..)
abbrev Mm:=λ(e:av)(nn:List aa)(s0:List aa)=>mkRg (τ:=List aa) (M.dX e nn s0) (λmm jj s=>M.dX e mm s) nn s0 48 [5,7,33,34,35,39,40,41,46,47] [5] (λs k1 _ _ _ _ _ e=>(8,tO ae k1 s)::e) (λs k1 _ _ _ _ _ e=>(8,Dec.Own ae 27 k1 s.length)::e) (λ_ _=>M.dX.eq_1 ..) (λ_ _ _ _=>M.dX.eq_2 ..)
abbrev Uq:=λ(nn:List af)(s0:List Str)=>mkRg (τ:=List Str) (M.jO nn s0) (λmm jj s=>M.jO mm s) nn s0 8 [0,6,7] [] (λs k1 _ _ _ _ _ e=>(3,tO tS k1 s)::e) (λs k1 _ _ _ _ _ e=>(3,Dec.Own tS 9 k1 s.length)::e) (λ_ _=>M.jO.eq_1 ..) (λ_ _ _ _=>M.jO.eq_2 ..)
attribute [instance] Uo Mk Ml Mm Uq
theorem yP(n:Nat)(u:aa)(x:aa)(d:ak)(r:aa×Int)(hm:M.lg n u x d=some r):FSpec Tryz.prog 145 [ae.is u,ae.is x,aJ.is d] (Asn.tuple2 (ae.is r.1) (I6.is r.2)):=by
 unfold M.lg at hm;refine FSpec.of Tryz.func145 X X X λg0=>Aw<|Ao X (.box (.t X))<|Ao X (.box (.t X))<|Ao X (.box (.t X))<|WL.opR X (OpR.alloc 6 ze27.h) λb=>Ao X (.assign .i64)<|Ar<|Ao X (.fieldAddr U120 X J40 tK.h (.t X))<|Ao X (.fieldAddr U40 X J38 Gy.h (.t X))<|Ao X (.load ty38.h (.t X))<|Ao X (.fieldAddr U120 X J3 yF.h (.t X))<|Ao X (.load ty3.h (.t X))<|Ao X (.fieldAddr U120 X J3 yG.h (.t X))<|Ao X (.load ty3.h (.t X)) ?_;obtain ⟨mark,hv1,hm⟩:=Bs hm;refine Ao X (.call C175 (((uA _ _ _ _ _).h hv1 0 0 none none).read λ_ _ _=>uL) ⟨(.t X),(.t X),(.t X),.i64,trivial⟩)<|WL.opR X (OpR.alloc 8 ze24.h) λb1=>WL.opU (OpR.storeB (b:=b1) 8 Z24 (bg.is (tL aj) mark) X (.t X) (.t X)) λ_=>WL.sealed (t:=(tL aj)) (u:=mark) 8 8 X X<|Ar<|Ao X (.load ty27.h (.t X))<|Ao X (.fieldAddr U27 X J23 wK.h (.t X))<|Ao X (.load ty23.h (.t X))<|Ao X (.makeFW (Cs:=[((tL aj).ptr mark)]) (cap:=[.tmp 8]) C176 ⟨(.t X),trivial⟩ (λu u' k b h=>aR.keys (rin':=[(0,Bx 8 true 27 ((aI k).is u) b),(1,OwnU ae 27 k u.Kids)]) (out':=λ_:Unit=>[(0,Bx 8 true 27 (ae.is u') b)]) (wP _ _ _ _ _ h) X (λ_=>X))) ?_;obtain ⟨with0_,hv2,hm⟩:=Bs hm;refine Ao X (.call C167 (vW _ _ _ _ _ hv2) ⟨(.t X),(.t X),(.t X),trivial⟩)<|WL.opU (OpR.storeB (b:=b) 6 Z27 (bg.is ae with0_) X (.t X) (.t X)) λ_=>Ao X (.assign .i64)<|WL.ns ?_;cases hm;exact W.retQ2 () X X (ResAt.cell 6 Y27 Z27 X (.t X)) (ResAt.tmp (.t X)) trivial
instance Mj(n:Nat)(u:aa)(x:aa)(d:ak)(r:aa×Int):z1 145 (M.lg n u x d=some r) [ae.is u,ae.is x,aJ.is d] (Asn.tuple2 (ae.is r.1) (I6.is r.2)):=⟨Tryz.call145,λhm=>yP n u x d r hm⟩
section
attribute [local irreducible] W WL WN DM Op1 OpR Opd Dep
instance JJ(n:Nat)(u:aa)(x:aa)(d:ak)(r:aa×Int):z2 146 (M.lh n u x d=some r) [ae.is u,ae.is x,aJ.is d] (Asn.tuple2 (ae.is r.1) (I6.is r.2)) [E1]:=.fx Tryz.call146 Tryz.func146 (M.lh.eq_1 ..) [8,11,1000004]
instance JK(n:Nat)(l:List Str)(r:Bool):z1 235 (M.ou n l=some r) [(tL tS).is l] (tB.is r):=.fx Tryz.call235 Tryz.func235 (M.ou.eq_1 ..)
instance G7(n:Nat)(it:ag)(r:Bool):z1 195 (M.lU n it=some r) [aB.is it] (tB.is r):=.fx Tryz.call195 Tryz.func195 (M.lU.eq_1 ..)
instance G8(n:Nat)(it:ag)(r:Bool):z1 200 (M.qa n it=some r) [aB.is it] (tB.is r):=.fx Tryz.call200 Tryz.func200 (M.qa.eq_1 ..)
instance JL(n:Nat)(s0_:fP)(r:Bool):z1 151 (M.oz n s0_=some r) [ko.is s0_] (tB.is r):=.fx Tryz.call151 Tryz.func151 (M.oz.eq_1 ..)
instance QL(n:Nat)(u:aa)(p:List av)(r:List ai):z1 120 (M.wH n u p=some r) [ae.is u,(tL bE).is p] ((tL aH).is r):=.fx Tryz.call120 Tryz.func120 (M.wH.eq_1 ..)
instance R7(n:Nat)(u:aa)(r:Bool):z1 14 (M.xG n u=some r) [ae.is u] (tB.is r):=.fx Tryz.call14 Tryz.func14 (M.xG.eq_1 ..)
instance O6(n:Nat)(u:aa)(r:List Str):z1 53 (M.uY n u=some r) [ae.is u] ((tL tS).is r):=.fx Tryz.call53 Tryz.func53 (M.uY.eq_1 ..)
instance JM(n:Nat)(u:aa)(p:List av)(r:List aa):z1 210 (M.pI n u p=some r) [ae.is u,(tL bE).is p] ((tL ae).is r):=.fx Tryz.call210 Tryz.func210 (M.pI.eq_1 ..) [7,10,12,2000005]
end
theorem zx(n:Nat) (r:List (aa->ai->Option (aF×Int)))(hm:M.l7 n=some r):FSpec Tryz.prog 249 [] ((tA 4 (tFun Tryz.prog (λ(f:aa->ai->Option (aF×Int))=>(λs:aa×ai×(aF×Int)=>f s.1 s.2.1=some s.2.2)) (λs:aa×ai×(aF×Int)=>[ae.is s.1,aH.is s.2.1]) (λs:aa×ai×(aF×Int)=>(Asn.tuple2 (dD.is s.2.2.1) (I6.is s.2.2.2))))).is r):=by
 unfold M.l7 at hm;refine FSpec.of Tryz.func249 X X X λg0=>Aw<|WL.opR X (OpR.alloc 0 ze246.h) λb=>Ar<|Ao X (.buildA (ys:=[(0,(λs0 s1=>M.kK n s0 s1)),(1,(λs0 s1=>M.kL n s0 s1)),(2,(λs0 s1=>M.kM n s0 s1)),(3,(λs0 s1=>M.kN n s0 s1))]) (z:=(λ_ _=>none:aa->ai->Option (aF×Int))) (xs:=[(λs0 s1=>M.kK n s0 s1),(λs0 s1=>M.kL n s0 s1),(λs0 s1=>M.kM n s0 s1),(λs0 s1=>M.kN n s0 s1)]) U246 Z245 ze246.h ⟨X,(Opd.tFun (Opd.fn C270 (λs hs=>(x8 _ _ _ _).h hs))),X,(Opd.tFun (Opd.fn C273 (λs hs=>(x9 _ _ _ _).h hs))),X,(Opd.tFun (Opd.fn C275 (λs hs=>(yc _ _ _ _).h hs))),X,(Opd.tFun (Opd.fn C277 (λs hs=>(yf _ _ _ _).h hs))),trivial⟩ (by simp) X)<|WL.opU (OpR.storeB (b:=b) 0 Z246 (bg.is (tA 4 (tFun Tryz.prog (λ(f:aa->ai->Option (aF×Int))=>(λs:aa×ai×(aF×Int)=>f s.1 s.2.1=some s.2.2)) (λs:aa×ai×(aF×Int)=>[ae.is s.1,aH.is s.2.1]) (λs:aa×ai×(aF×Int)=>(Asn.tuple2 (dD.is s.2.2.1) (I6.is s.2.2.2))))) [(λs0 s1=>M.kK n s0 s1),(λs0 s1=>M.kL n s0 s1),(λs0 s1=>M.kM n s0 s1),(λs0 s1=>M.kN n s0 s1)]) X (.t X) (.t X)) λ_=>WL.ns ?_;cases hm;exact W.retQ1 () X (ResAt.cell 0 Y246 Z246 X (.t X)) trivial
instance NE(n:Nat) (r:List (aa->ai->Option (aF×Int))):z1 249 (M.l7 n=some r) [] ((tA 4 (tFun Tryz.prog (λ(f:aa->ai->Option (aF×Int))=>(λs:aa×ai×(aF×Int)=>f s.1 s.2.1=some s.2.2)) (λs:aa×ai×(aF×Int)=>[ae.is s.1,aH.is s.2.1]) (λs:aa×ai×(aF×Int)=>(Asn.tuple2 (dD.is s.2.2.1) (I6.is s.2.2.2))))).is r):=⟨Tryz.call249,λhm=>zx n r hm⟩
section
attribute [local irreducible] W WL WN DM Op1 OpR Opd Dep
instance KP(n:Nat)(u:aa)(x:aa)(d:ak)(r:aa×Int):z1 142 (M.nG n u x d=some r) [ae.is u,ae.is x,aJ.is d] (Asn.tuple2 (ae.is r.1) (I6.is r.2)):=.fx Tryz.call142 Tryz.func142 (M.nG.eq_1 ..)
instance QM(n:Nat)(l:List af)(r:Bool):z1 302 (M.uZ n l=some r) [(tL aj).is l] (tB.is r):=.fx Tryz.call302 Tryz.func302 (M.uZ.eq_1 ..) [5]
instance NF(n:Nat)(l:List Str)(least:Int)(r:Bool):z1 188 (M.nH n l least=some r) [(tL tS).is l,I6.is least] (tB.is r):=.fx Tryz.call188 Tryz.func188 (M.nH.eq_1 ..)
instance G9(n:Nat)(it:ag)(r:Bool):z1 198 (M.lV n it=some r) [aB.is it] (tB.is r):=.fx Tryz.call198 Tryz.func198 (M.lV.eq_1 ..)
end
end Go.Proofs.YtobcmdhemlennaaGreatDoor
