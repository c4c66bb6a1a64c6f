/-
  The code does what the models say: written by program.
-/
import Derived.Test.YtlegkjbldofkmaaGreatWc
set_option linter.unusedVariables false
set_option linter.unusedSimpArgs false
namespace Go.Proofs.YtlegkjbldofkmaaGreat
open Go Go.Dec
set_option maxRecDepth 100000
set_option maxHeartbeats 4000000
theorem r41_down_spec(n:Nat)(u:api_Unit)(id:api_Id)(p:List api_Step)(r:(List api_Id)×Int)(hm:M.r41_down n u id p=some r):FSpec Tryz.prog 33 [(tapi_Unit.is u),(tapi_Id.is id),((tL tapi_Step).is p)] (Asn.tuple2 ((tL tapi_Id).is r.1) (I6.is r.2)):=by
 unfold M.r41_down at hm
 refine FSpec.of Tryz.func33 rfl rfl rfl fun g0=>Aw<|Ao rfl (.box (.t rfl))<|Ao rfl (.box (.t rfl))<|Ao rfl (.assign (.nil (t:=tapi_Id)))<|Ao rfl (.assign .i64)<|Ar<|Ao rfl (.load ty27 (.t rfl))<|Ao rfl (.load ty23 (.t rfl)) ?_
 obtain ⟨get,hv1,hm⟩:=Bs hm
 refine Ao rfl (.call C34 (r23_Get_spec _ _ _ _ hv1) ⟨(.t rfl),(.t rfl),trivial⟩)<|Am rfl rfl<|Ao rfl (.extract0 (.t rfl))<|Ao rfl (.extract1 (.t rfl))<|WL.opR rfl (OpR.alloc 8 ze27) fun b=>WL.opU (OpR.storeB (b:=b) 8 Z27 (Cellable.is tapi_Unit get.1) rfl (.t rfl) (.t rfl)) fun _=>Ag rfl rfl<|An<|W.seq<|Aw<|Ao rfl (.assign .i64)<|An<|W.block ?_
 obtain ⟨s2,hs3,hk4⟩:=Bs hm
 clear hm
 refine W.loop (fun m (s:Int×api_Unit)=>M.r41_down_loop1 p m s.1 s.2=some s2) (fun s=>[(10,(I6.is s.1)),(2,((tL tapi_Step).is p)),(8,(Bp b 0))]) (fun s=>[(8,(Bx 8 true 27 (tapi_Unit.is s.2) b))]) _ ((0:Int),get.1) hs3 ⟨.q rfl,.q rfl,.q rfl,trivial⟩ ⟨rfl,rfl,trivial⟩ ?_
 rintro n5 ⟨i,x⟩ hm
 try dsimp only at hm
 change W _ _ _ _ _ _ _ [(10,(I6.is i)),(2,((tL tapi_Step).is p)),(8,(Bp b 0))] [(8,(Bx 8 true 27 (tapi_Unit.is x) b))]
 cases n5 with
 | zero=>rw [M.r41_down_loop1.eq_1] at hm;cases hm
 | succ n5=>
  rw [M.r41_down_loop1.eq_2] at hm
  refine W.seq<|Aw<|Am rfl rfl<|Am rfl rfl<|Ao rfl (.lenL U50 (.t rfl))<|Ao rfl (.ltI (.t rfl) (.t rfl))<|An<|W.cD hm (.t rfl) (fun hp7 hm=>?_) (fun hp7 hm=>?_)
  ·refine W.skip<|Aq<|W.seq<|W.block<|Aw<|Ao rfl (.assign .bool)<|An<|W.seq<|Aw<|Ao rfl (.assign .i64)<|An<|W.block ?_
   obtain ⟨s8,hs9,hk10⟩:=Bs hm
   clear hm
   refine W.loop (fun m (s:Bool×Int×api_Unit)=>M.r41_down_loop2 p i m s.1 s.2.1 s.2.2=some s8) (fun s=>[(11,(tB.is s.1)),(12,(I6.is s.2.1)),(2,((tL tapi_Step).is p)),(8,(Bp b 0)),(10,(I6.is i))]) (fun s=>[(8,(Bx 8 true 27 (tapi_Unit.is s.2.2) b))]) _ (false,(0:Int),x) hs9 ⟨.q rfl,.q rfl,.q rfl,.q rfl,.q rfl,trivial⟩ ⟨rfl,rfl,trivial⟩ ?_
   rintro n11 ⟨found,k,x1⟩ hm
   try dsimp only at hm
   change W _ _ _ _ _ _ _ [(11,(tB.is found)),(12,(I6.is k)),(2,((tL tapi_Step).is p)),(8,(Bp b 0)),(10,(I6.is i))] [(8,(Bx 8 true 27 (tapi_Unit.is x1) b))]
   cases n11 with
   | zero=>rw [M.r41_down_loop2.eq_1] at hm;cases hm
   | succ n11=>
    rw [M.r41_down_loop2.eq_2] at hm
    refine W.seq ?_
    obtain ⟨s12,hs13,hk14⟩:=Bs hm
    clear hm
    refine W.join (fun s:Bool=>s=s12) (fun s=>[(33,(tB.is s)),(2,((tL tapi_Step).is p)),(8,(Bp b 0)),(10,(I6.is i)),(11,(tB.is found)),(12,(I6.is k))]) (fun s=>[(8,(Bx 8 true 27 (tapi_Unit.is x1) b))]) ?_ ?_
    ·rintro v hj36
     try dsimp only at hj36
     subst hj36
     have hm:=hk14
     clear hk14
     try dsimp only at hm
     change W _ _ _ _ _ _ _ [(33,(tB.is v)),(2,((tL tapi_Step).is p)),(8,(Bp b 0)),(10,(I6.is i)),(11,(tB.is found)),(12,(I6.is k))] [(8,(Bx 8 true 27 (tapi_Unit.is x1) b))]
     refine W.cB hm (.t rfl) (fun hp18 hm=>?_) (fun hp18 hm=>?_)
     ·refine W.skip<|Aq<|W.seq<|W.block<|W.seq ?_
      obtain ⟨v1,hv19,hm⟩:=Bs hm
      obtain ⟨v2,hv20,hm⟩:=Bs hm
      rcases iteD hm with ⟨hp22,hb21,hm⟩ | ⟨hp22,hb21,hm⟩
      ·obtain ⟨v3,hv23,hm⟩:=Bs hm
       obtain ⟨v4,hv24,hm⟩:=Bs hm
       refine W.draw [.c _,.c _,.c _,.c _,.c _,.c _,.c _,.c _,.c _,.c _,.c _,.c _,.c _,.c _,.c _,.c _,.c _,.c _,.c _,.c _,.c _,.c _,.c _,.c _,.c _,.c _] [([],[8]),([0],[]),([],[12]),([1,2],[]),([3],[]),([4],[]),([],[2]),([],[10]),([6,7],[]),([8],[]),([9],[]),([5,10],[]),([11],[]),([12],[8]),([12,13],[]),([12],[12]),([12,14,15],[]),([12,16],[]),([12,17],[]),([12],[2]),([12],[10]),([12,19,20],[]),([12,21],[]),([12,22],[]),([12,18,23],[]),([12,24],[])] Mx rfl rfl rfl rfl (by exact ⟨Dn (.fieldAddrB (o:=0) U27 rfl J25 (.t rfl) rfl),Dn (.loadBF 8 rfl ty25 fapi_Unit_5 rfl (.t rfl)),Dn (.move (.t rfl)),Dn (.idx hv19 U25 Z27 (.t rfl) (.t rfl)),Dn (.fieldAddr U27 rfl J3 fapi_Unit_1 (.t rfl)),Dn (.load ty3 (.t rfl)),Dn (.move (.t rfl)),Dn (.move (.t rfl)),Dn (.idx hv20 U50 Z49 (.t rfl) (.t rfl)),Dn (.fieldAddr U49 rfl J3 fapi_Step_0 (.t rfl)),Dn (.load ty3 (.t rfl)),Dn (.eqI (.t rfl) (.t rfl)),Dn (.move (.t rfl)),Dr rfl hb21 (.fieldAddrB (o:=0) U27 rfl J25 (.t rfl) rfl),Dr rfl hb21 (.loadBF 8 rfl ty25 fapi_Unit_5 rfl (.t rfl)),Dr rfl hb21 (.move (.t rfl)),Dr rfl hb21 (.idx hv23 U25 Z27 (.t rfl) (.t rfl)),Dr rfl hb21 (.fieldAddr U27 rfl J9 fapi_Unit_2 (.t rfl)),Dr rfl hb21 (.load ty9 (.t rfl)),Dr rfl hb21 (.move (.t rfl)),Dr rfl hb21 (.move (.t rfl)),Dr rfl hb21 (.idx hv24 U50 Z49 (.t rfl) (.t rfl)),Dr rfl hb21 (.fieldAddr U49 rfl J9 fapi_Step_1 (.t rfl)),Dr rfl hb21 (.load ty9 (.t rfl)),Dr rfl hb21 (.eqS (.t rfl) (.t rfl)),Dn (.pickT (.t rfl) hb21 (.t rfl)),trivial⟩)<|Aq<|W.cB hm (.t rfl) (fun hp26 hm=>?_) (fun hp26 hm=>?_)
       ·refine Aw<|Ao rfl (.fieldAddrB (o:=0) U27 rfl J25 (.t rfl) rfl)<|Ao rfl (.loadBF 8 rfl ty25 fapi_Unit_5 rfl (.t rfl))<|WL.mv rfl rfl ?_
        obtain ⟨v5,hv27,hm⟩:=Bs hm
        refine Ao rfl (.idx hv27 U25 Z27 (.t rfl) (.t rfl))<|Ao rfl (.load ty27 (.t rfl))<|WL.opU (OpR.storeB (b:=b) 8 Z27 (Cellable.is tapi_Unit v5) rfl (.t rfl) (.t rfl)) fun _=>WL.nr1<|Ao rfl (.assign .bool)<|WL.nil<|WN.block<|Aq<|W.region<|WL.mv rfl rfl ?_
        obtain ⟨v6,hv28,hm⟩:=Bs hm
        exact Ao rfl (.addC hv28 (.t rfl) .i64)<|Ag rfl rfl<|WL.nil<|WN.again n11 (true,v6,v5) (Nat.lt_succ_self n11) hm ⟨.q rfl,.q rfl,.q rfl,.q rfl,.q rfl,trivial⟩ ⟨rfl,rfl,trivial⟩
       ·refine W.skip<|WN.block<|Aq<|W.region<|WL.mv rfl rfl ?_
        obtain ⟨v7,hv29,hm⟩:=Bs hm
        exact Ao rfl (.addC hv29 (.t rfl) .i64)<|Ag rfl rfl<|WL.nil<|WN.again n11 (found,v7,x1) (Nat.lt_succ_self n11) hm ⟨.q rfl,.q rfl,.q rfl,.q rfl,.q rfl,trivial⟩ ⟨rfl,rfl,trivial⟩
      ·refine W.draw [.c _,.c _,.c _,.c _,.c _,.c _,.c _,.c _,.c _,.c _,.c _,.c _,.c _,.c _,.c _,.c _,.c _,.c _,.c _,.c _,.c _,.c _,.c _,.c _,.c _,.c _] [([],[8]),([0],[]),([],[12]),([1,2],[]),([3],[]),([4],[]),([],[2]),([],[10]),([6,7],[]),([8],[]),([9],[]),([5,10],[]),([11],[]),([12],[8]),([12,13],[]),([12],[12]),([12,14,15],[]),([12,16],[]),([12,17],[]),([12],[2]),([12],[10]),([12,19,20],[]),([12,21],[]),([12,22],[]),([12,18,23],[]),([12,24],[])] Mx rfl rfl rfl rfl (by exact ⟨Dn (.fieldAddrB (o:=0) U27 rfl J25 (.t rfl) rfl),Dn (.loadBF 8 rfl ty25 fapi_Unit_5 rfl (.t rfl)),Dn (.move (.t rfl)),Dn (.idx hv19 U25 Z27 (.t rfl) (.t rfl)),Dn (.fieldAddr U27 rfl J3 fapi_Unit_1 (.t rfl)),Dn (.load ty3 (.t rfl)),Dn (.move (.t rfl)),Dn (.move (.t rfl)),Dn (.idx hv20 U50 Z49 (.t rfl) (.t rfl)),Dn (.fieldAddr U49 rfl J3 fapi_Step_0 (.t rfl)),Dn (.load ty3 (.t rfl)),Dn (.eqI (.t rfl) (.t rfl)),Dn (.move (.t rfl)),Dp rfl hb21,Dp rfl hb21,Dp rfl hb21,Dp rfl hb21,Dp rfl hb21,Dp rfl hb21,Dp rfl hb21,Dp rfl hb21,Dp rfl hb21,Dp rfl hb21,Dp rfl hb21,Dp rfl hb21,Dn (.pickF (.t rfl) hb21 .bool),trivial⟩)<|Aq<|W.condF (.t rfl)<|W.skip<|WN.block<|Aq<|W.region<|WL.mv rfl rfl ?_
       obtain ⟨v8,hv30,hm⟩:=Bs hm
       exact Ao rfl (.addC hv30 (.t rfl) .i64)<|Ag rfl rfl<|WL.nil<|WN.again n11 (found,v8,x1) (Nat.lt_succ_self n11) hm ⟨.q rfl,.q rfl,.q rfl,.q rfl,.q rfl,trivial⟩ ⟨rfl,rfl,trivial⟩
     ·refine W.exit rfl ?_
      have hr31:=Si hm
      clear hm
      subst hr31
      have hm:=hk10
      try dsimp only at hm
      refine Aq<|Aw<|Am rfl rfl<|Ao rfl (.notB (.t rfl))<|An<|W.cR hm (.t rfl) (fun hp33 hm=>?_) (fun hp33 hm=>?_)
      ·refine Aw<|Ao rfl (.assign (.nil (t:=tapi_Id)))<|Ao rfl (.assign .i64)<|WL.ns ?_
       have hr34:=Si hm
       clear hm
       subst hr34
       have hm:=hk4
       try dsimp only at hm
       cases hm
       exact W.ret2 () rfl rfl (.t rfl) (.t rfl) trivial
      ·refine W.skip<|WN.block<|Aq<|W.region<|WL.mv rfl rfl ?_
       obtain ⟨v9,hv35,hm⟩:=Bs hm
       exact Ao rfl (.addC hv35 (.t rfl) .i64)<|Ag rfl rfl<|WL.nil<|WN.again n5 (v9,x1) (Nat.lt_succ_self n5) hm ⟨.q rfl,.q rfl,.q rfl,trivial⟩ ⟨rfl,rfl,trivial⟩
    ·have hm:=hs13
     clear hs13
     refine W.region<|Am rfl rfl<|Ao rfl (.fieldAddrB (o:=0) U27 rfl J25 (.t rfl) rfl)<|Ao rfl (.loadBF 8 rfl ty25 fapi_Unit_5 rfl (.t rfl))<|Ao rfl (.lenL U25 (.t rfl))<|Ao rfl (.ltI (.t rfl) (.t rfl))<|WL.mv rfl rfl ?_
     rcases iteD hm with ⟨hp16,hb15,hm⟩ | ⟨hp16,hb15,hm⟩
     ·exact Ax rfl hb15 (.move (.t rfl))<|Ax rfl hb15 (.notB (.t rfl))<|Ao rfl (.pickT (.t rfl) hb15 (.t rfl))<|WL.nil<|WN.meet (!found) (Si hm) ⟨.q rfl,.q rfl,.q rfl,.q rfl,.q rfl,.q rfl,trivial⟩ ⟨rfl,rfl,trivial⟩
     ·exact Ap rfl hb15<|Ap rfl hb15<|Ao rfl (.pickF (.t rfl) hb15 .bool)<|WL.nil<|WN.meet false (Si hm) ⟨.q rfl,.q rfl,.q rfl,.q rfl,.q rfl,.q rfl,trivial⟩ ⟨rfl,rfl,trivial⟩
  ·refine W.exit rfl ?_
   have hr37:=Si hm
   clear hm
   subst hr37
   have hm:=hk4
   try dsimp only at hm
   refine Aq<|Aw<|Ao rfl (.fieldAddrB (o:=0) U27 rfl J23 (.t rfl) rfl)<|Ao rfl (.loadBF 8 rfl ty23 fapi_Unit_0 rfl (.t rfl))<|Ao rfl (.buildSlice (n:=1) (ys:=[(0,x.Id)]) (z:=zapi_Id) (xs:=[x.Id]) U40 el23 ze23 ⟨rfl,(.t rfl),trivial⟩ (by simp) (by decide) rfl)<|Ag rfl rfl<|Ao rfl (.assign .i64)<|WL.ns ?_
   cases hm
   exact W.ret2 () rfl rfl (.t rfl) (.t rfl) trivial
theorem r07_book_spec(s0_:api_Step)(r:Bool)(hm:M.r07_book s0_=some r):FSpec Tryz.prog 112 [(tapi_Step.is s0_)] (tB.is r):=by
 unfold M.r07_book at hm
 refine FSpec.of Tryz.func112 rfl rfl rfl fun g0=>Aw<|Ao rfl (.box (.t rfl))<|Ao rfl (.assign .bool)<|Ar<|Ao rfl (.fieldAddr U49 rfl J3 fapi_Step_0 (.t rfl))<|Ao rfl (.load ty3 (.t rfl))<|Ao rfl (.eqI (.t rfl) .i64)<|WL.mv rfl rfl ?_
 rcases iteD hm with ⟨hp2,hb1,hm⟩ | ⟨hp2,hb1,hm⟩
 ·refine Ax rfl hb1 (.fieldAddr U49 rfl J9 fapi_Step_1 (.t rfl))<|Ax rfl hb1 (.load ty9 (.t rfl))<|Ax rfl hb1 (.eqS (.t rfl) (.str rfl (by decide)))<|Ao rfl (.pickT (.t rfl) hb1 (.t rfl))<|Ag rfl rfl<|WL.ns ?_
  cases hm
  exact W.ret1 () rfl (.t rfl) trivial
 ·refine Ap rfl hb1<|Ap rfl hb1<|Ap rfl hb1<|Ao rfl (.pickF (.t rfl) hb1 .bool)<|Ag rfl rfl<|WL.ns ?_
  cases hm
  exact W.ret1 () rfl (.t rfl) trivial
theorem r07_May_spec(n:Nat)(p:List api_Step)(r:Bool)(hm:M.r07_May n p=some r):FSpec Tryz.prog 111 [((tL tapi_Step).is p)] (tB.is r):=by
 unfold M.r07_May at hm
 refine FSpec.of Tryz.func111 rfl rfl rfl fun g0=>Aw<|Ao rfl (.assign .bool)<|An<|W.seq<|Aw<|Am rfl rfl<|Ao rfl (.lenL U50 (.t rfl))<|Ao rfl (.gtI (.t rfl) .i64)<|An<|W.cD hm (.t rfl) (fun hp2 hm=>?_) (fun hp2 hm=>?_)
 ·refine Aw<|Ao rfl (.assign .bool)<|WL.ns ?_
  cases hm
  exact W.ret1 () rfl (.t rfl) trivial
 ·refine W.skip<|Aq<|W.seq<|Aw<|Ao rfl (.assign .i64)<|An<|W.block ?_
  obtain ⟨s3,hs4,hk5⟩:=Bs hm
  clear hm
  refine W.loop (fun m (s:Int)=>M.r07_May_loop1 p m s=some s3) (fun s=>[(3,(I6.is s)),(0,((tL tapi_Step).is p))]) (fun s=>[]) _ (0:Int) hs4 ⟨.q rfl,.q rfl,trivial⟩ trivial ?_
  rintro n6 i hm
  try dsimp only at hm
  change W _ _ _ _ _ _ _ [(3,(I6.is i)),(0,((tL tapi_Step).is p))] []
  cases n6 with
  | zero=>rw [M.r07_May_loop1.eq_1] at hm;cases hm
  | succ n6=>
   rw [M.r07_May_loop1.eq_2] at hm
   refine W.seq<|Aw<|Am rfl rfl<|Am rfl rfl<|Ao rfl (.lenL U50 (.t rfl))<|Ao rfl (.ltI (.t rfl) (.t rfl))<|An<|W.cD hm (.t rfl) (fun hp8 hm=>?_) (fun hp8 hm=>?_)
   ·refine W.skip<|Aq<|W.seq<|W.block<|W.seq ?_
    obtain ⟨s9,hs10,hk11⟩:=Bs hm
    clear hm
    refine W.join (fun s:Bool=>s=s9) (fun s=>[(21,(tB.is s)),(0,((tL tapi_Step).is p)),(3,(I6.is i))]) (fun s=>[]) ?_ ?_
    ·rintro v hj33
     try dsimp only at hj33
     subst hj33
     have hm:=hk11
     clear hk11
     try dsimp only at hm
     change W _ _ _ _ _ _ _ [(21,(tB.is v)),(0,((tL tapi_Step).is p)),(3,(I6.is i))] []
     refine W.cB hm (.t rfl) (fun hp17 hm=>?_) (fun hp17 hm=>?_)
     ·exact W.exit rfl<|Aq<|W.region<|Am rfl rfl<|WL.lenL (s:=0) (.t rfl) fun hl18=>Ao rfl (.addI1 (.t rfl) .i64 hp8 hl18)<|Ag rfl rfl<|WL.nil<|WN.again n6 (i+1) (Nat.lt_succ_self n6) hm ⟨.q rfl,.q rfl,trivial⟩ trivial
     ·refine W.skip<|Aq<|Aw<|Am rfl rfl<|WL.mv rfl rfl ?_
      obtain ⟨v2,hv19,hm⟩:=Bs hm
      refine Ao rfl (.idx hv19 U50 Z49 (.t rfl) (.t rfl))<|Ao rfl (.fieldAddr U49 rfl J3 fapi_Step_0 (.t rfl))<|Ao rfl (.load ty3 (.t rfl))<|Ao rfl (.ltI (.t rfl) .i64)<|WL.mv rfl rfl ?_
      rcases iteD hm with ⟨hp21,hb20,hm⟩ | ⟨hp21,hb20,hm⟩
      ·refine Ap rfl hb20<|Ap rfl hb20<|Ap rfl hb20<|Ap rfl hb20<|Ap rfl hb20<|Ap rfl hb20<|Ao rfl (.pickT (.t rfl) hb20 .bool)<|Am rfl rfl<|Ap rfl rfl<|Ap rfl rfl<|Ap rfl rfl<|Ap rfl rfl<|Ap rfl rfl<|Ap rfl rfl<|Ap rfl rfl<|Ao rfl (.pickT (.t rfl) rfl .bool) ?_
       refine An<|W.condT (.t rfl)<|Aw<|Ao rfl (.assign .bool)<|WL.ns ?_
       have hr22:=Si hm
       clear hm
       subst hr22
       have hm:=hk5
       try dsimp only at hm
       cases hm
       exact W.ret1 () rfl (.t rfl) trivial
      ·refine Ax rfl hb20 (.move (.t rfl))<|Ax rfl hb20 (.move (.t rfl)) ?_
       obtain ⟨v3,hv23,hm⟩:=Bs hm
       refine Ax rfl hb20 (.idx hv23 U50 Z49 (.t rfl) (.t rfl))<|Ax rfl hb20 (.fieldAddr U49 rfl J3 fapi_Step_0 (.t rfl))<|Ax rfl hb20 (.load ty3 (.t rfl))<|Ax rfl hb20 (.gtI (.t rfl) .i64)<|Ao rfl (.pickF (.t rfl) hb20 (.t rfl))<|WL.mv rfl rfl ?_
       rcases iteD hm with ⟨hp25,hb24,hm⟩ | ⟨hp25,hb24,hm⟩
       ·refine Ap rfl hb24<|Ap rfl hb24<|Ap rfl hb24<|Ap rfl hb24<|Ap rfl hb24<|Ap rfl hb24<|Ap rfl hb24<|Ao rfl (.pickT (.t rfl) hb24 .bool)<|An<|W.condT (.t rfl)<|Aw<|Ao rfl (.assign .bool)<|WL.ns ?_
        have hr26:=Si hm
        clear hm
        subst hr26
        have hm:=hk5
        try dsimp only at hm
        cases hm
        exact W.ret1 () rfl (.t rfl) trivial
       ·refine Ax rfl hb24 (.move (.t rfl))<|Ax rfl hb24 (.move (.t rfl)) ?_
        obtain ⟨v4,hv27,hm⟩:=Bs hm
        refine Ax rfl hb24 (.idx hv27 U50 Z49 (.t rfl) (.t rfl))<|Ax rfl hb24 (.fieldAddr U49 rfl J9 fapi_Step_1 (.t rfl))<|Ax rfl hb24 (.load ty9 (.t rfl)) ?_
        obtain ⟨may,hv28,hm⟩:=Bs hm
        refine Ax rfl hb24 (.call C55 (r03_May_spec _ _ _ hv28) ⟨(.t rfl),trivial⟩)<|Ax rfl hb24 (.notB (.t rfl))<|Ao rfl (.pickF (.t rfl) hb24 (.t rfl))<|An<|W.cR hm (.t rfl) (fun hp30 hm=>?_) (fun hp30 hm=>?_)
        ·refine Aw<|Ao rfl (.assign .bool)<|WL.ns ?_
         have hr31:=Si hm
         clear hm
         subst hr31
         have hm:=hk5
         try dsimp only at hm
         cases hm
         exact W.ret1 () rfl (.t rfl) trivial
        ·exact W.skip<|WN.block<|Aq<|W.region<|Am rfl rfl<|WL.lenL (s:=0) (.t rfl) fun hl32=>Ao rfl (.addI1 (.t rfl) .i64 hp8 hl32)<|Ag rfl rfl<|WL.nil<|WN.again n6 (i+1) (Nat.lt_succ_self n6) hm ⟨.q rfl,.q rfl,trivial⟩ trivial
    ·have hm:=hs10
     clear hs10
     refine W.region<|Am rfl rfl<|Ao rfl (.eqI (.t rfl) .i64)<|WL.mv rfl rfl ?_
     rcases iteD hm with ⟨hp13,hb12,hm⟩ | ⟨hp13,hb12,hm⟩
     ·refine Ax rfl hb12 (.move (.t rfl))<|Ax rfl hb12 (.move (.t rfl)) ?_
      obtain ⟨v1,hv14,hm⟩:=Bs hm
      refine Ax rfl hb12 (.idx hv14 U50 Z49 (.t rfl) (.t rfl))<|Ax rfl hb12 (.load ty49 (.t rfl)) ?_
      obtain ⟨book,hv15,hm⟩:=Bs hm
      exact Ax rfl hb12 (.call C112 (r07_book_spec _ _ hv15) ⟨(.t rfl),trivial⟩)<|Ao rfl (.pickT (.t rfl) hb12 (.t rfl))<|WL.nil<|WN.meet book (Si hm) ⟨.q rfl,.q rfl,.q rfl,trivial⟩ trivial
     ·exact Ap rfl hb12<|Ap rfl hb12<|Ap rfl hb12<|Ap rfl hb12<|Ap rfl hb12<|Ao rfl (.pickF (.t rfl) hb12 .bool)<|WL.nil<|WN.meet false (Si hm) ⟨.q rfl,.q rfl,.q rfl,trivial⟩ trivial
   ·refine W.exit rfl ?_
    have hr34:=Si hm
    clear hm
    subst hr34
    have hm:=hk5
    try dsimp only at hm
    refine Aq<|Aw<|Ao rfl (.assign .bool)<|WL.ns ?_
    cases hm
    exact W.ret1 () rfl (.t rfl) trivial
theorem r07_Every_spec:∀ (n:Nat) (u:api_Unit) (r:(List api_Unit)),M.r07_Every n u=some r→FSpec Tryz.prog 22 [(tapi_Unit.is u)] ((tL tapi_Unit).is r):=by
 intro n
 induction n with
 | zero=>intro u r hm;cases hm
 | succ n ih=>
  intro u r hm
  rw [M.r07_Every.eq_2] at hm
  refine FSpec.of Tryz.func22 rfl rfl rfl fun g0=>Aw<|Ao rfl (.box (.t rfl))<|Ao rfl (.assign (.nil (t:=tapi_Unit)))<|Ar<|Ao rfl (.load ty27 (.t rfl))<|WL.opR rfl (OpR.buildSlice (n:=1) (ys:=[(0,u)]) (z:=zapi_Unit) (xs:=[u]) 6 U25 el27 ze27 ⟨rfl,(.t rfl),trivial⟩ (by simp) (by decide) rfl) fun k=>Ag rfl rfl<|An<|W.seq<|Aw<|Ao rfl (.assign .i64)<|An<|W.block ?_
  obtain ⟨s1,hs2,hk3⟩:=Bs hm
  clear hm
  refine W.loop (fun m (s:((List api_Unit)×Int)×Tok)=>M.r07_Every_loop1 u (M.r07_Every n) m s.1.1 s.1.2=some s1) (fun s=>[(3,(tO tapi_Unit s.2 s.1.1)),(4,(I6.is s.1.2)),(1,(tapi_Unit.ptr u))]) (fun s=>[(6,Dec.Own tapi_Unit 27 s.2 s.1.1.length)]) _ (([u],(0:Int)),k) hs2 ⟨.q rfl,.q rfl,.q rfl,trivial⟩ ⟨rfl,rfl,trivial⟩ ?_
  rintro n4 ⟨⟨out,i⟩,k1⟩ hm
  try dsimp only at hm
  change W _ _ _ _ _ _ _ [(3,(tO tapi_Unit k1 out)),(4,(I6.is i)),(1,(tapi_Unit.ptr u))] [(6,Dec.Own tapi_Unit 27 k1 out.length)]
  cases n4 with
  | zero=>rw [M.r07_Every_loop1.eq_1] at hm;cases hm
  | succ n4=>
   rw [M.r07_Every_loop1.eq_2] at hm
   refine W.seq<|Aw<|Am rfl rfl<|Ao rfl (.fieldAddr U27 rfl J25 fapi_Unit_5 (.t rfl))<|Ao rfl (.load ty25 (.t rfl))<|Ao rfl (.lenL U25 (.t rfl))<|Ao rfl (.ltI (.t rfl) (.t rfl))<|An<|W.cD hm (.t rfl) (fun hp6 hm=>?_) (fun hp6 hm=>?_)
   ·refine W.skip<|Aq<|W.seq<|W.block<|W.region<|Am rfl rfl<|Ao rfl (.fieldAddr U27 rfl J25 fapi_Unit_5 (.t rfl))<|Ao rfl (.load ty25 (.t rfl))<|WL.mv rfl rfl ?_
    obtain ⟨v,hv7,hm⟩:=Bs hm
    refine Ao rfl (.idx hv7 U25 Z27 (.t rfl) (.t rfl))<|Ao rfl (.load ty27 (.t rfl)) ?_
    obtain ⟨every,hv8,hm⟩:=Bs hm
    refine Ao rfl (.call C22 (ih _ _ hv8) ⟨(.t rfl),trivial⟩) ?_
    obtain ⟨out1,hv9,hm⟩:=Bs hm
    exact WL.opR rfl (OpR.appC (key:=6) hv9 U25 el27 (.t rfl) (.t rfl) rfl) fun k2=>Ag rfl rfl<|WL.nil<|WN.block<|Aq<|W.region<|Am rfl rfl<|WL.lenL (s:=9) (.t rfl) fun hl10=>Ao rfl (.addI1 (.t rfl) .i64 hp6 hl10)<|Ag rfl rfl<|WL.nil<|WN.again n4 ((out1,i+1),k2) (Nat.lt_succ_self n4) hm ⟨.q rfl,.q rfl,.q rfl,trivial⟩ ⟨rfl,rfl,trivial⟩
   ·refine W.exit rfl ?_
    have hr11:=Si hm
    clear hm
    subst hr11
    have hm:=hk3
    try dsimp only at hm
    refine Aq<|Aw<|Am rfl rfl<|Ag rfl rfl<|WL.ns ?_
    cases hm
    exact W.ret1 () rfl (Opd.own (.t rfl)) trivial
theorem r07_at_spec(u:api_Unit)(s0_:api_Step)(r:Bool)(hm:M.r07_at u s0_=some r):FSpec Tryz.prog 113 [(tapi_Unit.is u),(tapi_Step.is s0_)] (tB.is r):=by
 unfold M.r07_at at hm
 refine FSpec.of Tryz.func113 rfl rfl rfl fun g0=>Aw<|Ao rfl (.box (.t rfl))<|Ao rfl (.box (.t rfl))<|Ao rfl (.assign .bool)<|Ar<|Ao rfl (.fieldAddr U27 rfl J3 fapi_Unit_1 (.t rfl))<|Ao rfl (.load ty3 (.t rfl))<|Ao rfl (.fieldAddr U49 rfl J3 fapi_Step_0 (.t rfl))<|Ao rfl (.load ty3 (.t rfl))<|Ao rfl (.eqI (.t rfl) (.t rfl))<|WL.mv rfl rfl ?_
 rcases iteD hm with ⟨hp2,hb1,hm⟩ | ⟨hp2,hb1,hm⟩
 ·refine Ax rfl hb1 (.fieldAddr U27 rfl J9 fapi_Unit_2 (.t rfl))<|Ax rfl hb1 (.load ty9 (.t rfl))<|Ax rfl hb1 (.fieldAddr U49 rfl J9 fapi_Step_1 (.t rfl))<|Ax rfl hb1 (.load ty9 (.t rfl))<|Ax rfl hb1 (.eqS (.t rfl) (.t rfl))<|Ao rfl (.pickT (.t rfl) hb1 (.t rfl))<|Ag rfl rfl<|WL.ns ?_
  cases hm
  exact W.ret1 () rfl (.t rfl) trivial
 ·refine Ap rfl hb1<|Ap rfl hb1<|Ap rfl hb1<|Ap rfl hb1<|Ap rfl hb1<|Ao rfl (.pickF (.t rfl) hb1 .bool)<|Ag rfl rfl<|WL.ns ?_
  cases hm
  exact W.ret1 () rfl (.t rfl) trivial
theorem r07_Units_spec(n:Nat)(u:api_Unit)(p:List api_Step)(r:(List api_Unit))(hm:M.r07_Units n u p=some r):FSpec Tryz.prog 92 [(tapi_Unit.is u),((tL tapi_Step).is p)] ((tL tapi_Unit).is r):=by
 unfold M.r07_Units at hm
 refine FSpec.of Tryz.func92 rfl rfl rfl fun g0=>Aw<|Ao rfl (.box (.t rfl))<|Ao rfl (.assign (.nil (t:=tapi_Unit)))<|An<|W.seq<|Aw<|WL.mv rfl rfl ?_
 obtain ⟨may,hv1,hm⟩:=Bs hm
 refine Ao rfl (.call C111 (r07_May_spec _ _ _ hv1) ⟨(.t rfl),trivial⟩)<|Ao rfl (.notB (.t rfl))<|An<|W.cR hm (.t rfl) (fun hp3 hm=>?_) (fun hp3 hm=>?_)
 ·refine Aw<|Ao rfl (.assign (.nil (t:=tapi_Unit)))<|WL.ns ?_
  cases hm
  exact W.ret1 () rfl (.t rfl) trivial
 ·refine W.skip<|Aq<|W.seq<|Aw<|Am rfl rfl<|Ao rfl (.lenL U50 (.t rfl))<|Ao rfl (.eqI (.t rfl) .i64)<|An<|W.cD hm (.t rfl) (fun hp5 hm=>?_) (fun hp5 hm=>?_)
  ·refine Aw<|Ao rfl (.load ty27 (.t rfl))<|Ao rfl (.buildSlice (n:=1) (ys:=[(0,u)]) (z:=zapi_Unit) (xs:=[u]) U25 el27 ze27 ⟨rfl,(.t rfl),trivial⟩ (by simp) (by decide) rfl)<|Ag rfl rfl<|WL.ns ?_
   cases hm
   exact W.ret1 () rfl (.t rfl) trivial
  ·refine W.skip<|Aq<|Aw<|WL.opR rfl (OpR.buildSlice (n:=0) (ys:=[]) (z:=zapi_Unit) (xs:=([]:List api_Unit)) 20 U25 el27 ze27 trivial (by simp) (by decide) rfl) fun k=>Ag rfl rfl<|WL.ns ?_
   obtain ⟨s6,hs7,hk8⟩:=Bs hm
   clear hm
   refine W.join (fun s:((List api_Unit))×Tok=>s.1=s6) (fun s=>[(5,(tO tapi_Unit s.2 s.1)),(1,((tL tapi_Step).is p))]) (fun s=>[(20,Dec.Own tapi_Unit 27 s.2 s.1.length)]) ?_ ?_
   ·rintro ⟨now,k1⟩ hj66
    try dsimp only at hj66
    subst hj66
    have hm:=hk8
    clear hk8
    try dsimp only at hm
    change W _ _ _ _ _ _ _ [(5,(tO tapi_Unit k1 now)),(1,((tL tapi_Step).is p))] [(20,Dec.Own tapi_Unit 27 k1 now.length)]
    refine W.seq<|Aw<|Ao rfl (.assign .i64)<|An<|W.block ?_
    obtain ⟨s31,hs32,hk33⟩:=Bs hm
    clear hm
    refine W.loop (fun m (s:(List api_Unit)×Int)=>M.r07_Units_loop2 p m s.1 s.2=some s31) (fun s=>[(5,((tL tapi_Unit).is s.1)),(8,(I6.is s.2)),(1,((tL tapi_Step).is p))]) (fun s=>[]) _ (now,(1:Int)) hs32 ⟨Ent.o rfl,.q rfl,.q rfl,trivial⟩ trivial ?_
    rintro n34 ⟨now2,k5⟩ hm
    try dsimp only at hm
    change W _ _ _ _ _ _ _ [(5,((tL tapi_Unit).is now2)),(8,(I6.is k5)),(1,((tL tapi_Step).is p))] []
    cases n34 with
    | zero=>rw [M.r07_Units_loop2.eq_1] at hm;cases hm
    | succ n34=>
     rw [M.r07_Units_loop2.eq_2] at hm
     refine W.seq<|Aw<|Am rfl rfl<|Am rfl rfl<|Ao rfl (.lenL U50 (.t rfl))<|Ao rfl (.ltI (.t rfl) (.t rfl))<|An<|W.cD hm (.t rfl) (fun hp36 hm=>?_) (fun hp36 hm=>?_)
     ·refine W.skip<|Aq<|W.seq<|W.block<|Aw<|WL.opR rfl (OpR.buildSlice (n:=0) (ys:=[]) (z:=zapi_Unit) (xs:=([]:List api_Unit)) 58 U25 el27 ze27 trivial (by simp) (by decide) rfl) fun k6=>Ag rfl rfl<|An<|W.seq<|Aw<|Ao rfl (.assign .i64)<|An<|W.block ?_
      obtain ⟨s37,hs38,hk39⟩:=Bs hm
      clear hm
      refine W.loop (fun m (s:((List api_Unit)×Int)×Tok)=>M.r07_Units_loop3 p now2 k5 m s.1.1 s.1.2=some s37) (fun s=>[(9,(tO tapi_Unit s.2 s.1.1)),(10,(I6.is s.1.2)),(1,((tL tapi_Step).is p)),(5,((tL tapi_Unit).is now2)),(8,(I6.is k5))]) (fun s=>[(58,Dec.Own tapi_Unit 27 s.2 s.1.1.length)]) _ ((([]:List api_Unit),(0:Int)),k6) hs38 ⟨.q rfl,.q rfl,.q rfl,.q rfl,.q rfl,trivial⟩ ⟨rfl,rfl,trivial⟩ ?_
      rintro n40 ⟨⟨next,i1⟩,k7⟩ hm
      try dsimp only at hm
      change W _ _ _ _ _ _ _ [(9,(tO tapi_Unit k7 next)),(10,(I6.is i1)),(1,((tL tapi_Step).is p)),(5,((tL tapi_Unit).is now2)),(8,(I6.is k5))] [(58,Dec.Own tapi_Unit 27 k7 next.length)]
      cases n40 with
      | zero=>rw [M.r07_Units_loop3.eq_1] at hm;cases hm
      | succ n40=>
       rw [M.r07_Units_loop3.eq_2] at hm
       refine W.seq<|Aw<|Am rfl rfl<|Am rfl rfl<|Ao rfl (.lenL U25 (.t rfl))<|Ao rfl (.ltI (.t rfl) (.t rfl))<|An<|W.cD hm (.t rfl) (fun hp42 hm=>?_) (fun hp42 hm=>?_)
       ·refine W.skip<|Aq<|W.seq<|W.block<|Aw<|Ao rfl (.assign .i64)<|An<|W.block ?_
        obtain ⟨s43,hs44,hk45⟩:=Bs hm
        clear hm
        refine W.loop (fun m (s:((List api_Unit)×Int)×Tok)=>M.r07_Units_loop4 p now2 k5 i1 m s.1.1 s.1.2=some s43) (fun s=>[(9,(tO tapi_Unit s.2 s.1.1)),(11,(I6.is s.1.2)),(1,((tL tapi_Step).is p)),(5,((tL tapi_Unit).is now2)),(8,(I6.is k5)),(10,(I6.is i1))]) (fun s=>[(58,Dec.Own tapi_Unit 27 s.2 s.1.1.length)]) _ ((next,(0:Int)),k7) hs44 ⟨.q rfl,.q rfl,.q rfl,.q rfl,.q rfl,.q rfl,trivial⟩ ⟨rfl,rfl,trivial⟩ ?_
        rintro n46 ⟨⟨next1,j⟩,k8⟩ hm
        try dsimp only at hm
        change W _ _ _ _ _ _ _ [(9,(tO tapi_Unit k8 next1)),(11,(I6.is j)),(1,((tL tapi_Step).is p)),(5,((tL tapi_Unit).is now2)),(8,(I6.is k5)),(10,(I6.is i1))] [(58,Dec.Own tapi_Unit 27 k8 next1.length)]
        cases n46 with
        | zero=>rw [M.r07_Units_loop4.eq_1] at hm;cases hm
        | succ n46=>
         rw [M.r07_Units_loop4.eq_2] at hm
         refine W.seq<|Aw<|Am rfl rfl<|Am rfl rfl<|WL.mv rfl rfl ?_
         obtain ⟨v4,hv47,hm⟩:=Bs hm
         refine Ao rfl (.idx hv47 U25 Z27 (.t rfl) (.t rfl))<|Ao rfl (.fieldAddr U27 rfl J25 fapi_Unit_5 (.t rfl))<|Ao rfl (.load ty25 (.t rfl))<|Ao rfl (.lenL U25 (.t rfl))<|Ao rfl (.ltI (.t rfl) (.t rfl))<|An<|W.cD hm (.t rfl) (fun hp49 hm=>?_) (fun hp49 hm=>?_)
         ·refine W.skip<|Aq<|W.seq<|W.block<|W.seq ?_
          obtain ⟨v5,hv50,hm⟩:=Bs hm
          obtain ⟨v6,hv51,hm⟩:=Bs hm
          obtain ⟨v7,hv52,hm⟩:=Bs hm
          obtain ⟨at0_1,hv53,hm⟩:=Bs hm
          refine W.draw [.c _,.c _,.c _,.c _,.c _,.c _,.c _,.c _,.c _,.c _,.c _,.c _,.c _] [([],[5]),([],[10]),([0,1],[]),([2],[]),([3],[]),([],[11]),([4,5],[]),([6],[]),([],[1]),([],[8]),([8,9],[]),([10],[]),([7,11],[])] Mx rfl rfl rfl rfl ⟨Dn (.move (.t rfl)),Dn (.move (.t rfl)),Dn (.idx hv50 U25 Z27 (.t rfl) (.t rfl)),Dn (.fieldAddr U27 rfl J25 fapi_Unit_5 (.t rfl)),Dn (.load ty25 (.t rfl)),Dn (.move (.t rfl)),Dn (.idx hv51 U25 Z27 (.t rfl) (.t rfl)),Dn (.load ty27 (.t rfl)),Dn (.move (.t rfl)),Dn (.move (.t rfl)),Dn (.idx hv52 U50 Z49 (.t rfl) (.t rfl)),Dn (.load ty49 (.t rfl)),Dn (.call C113 (r07_at_spec _ _ _ hv53) ⟨(.t rfl),(.t rfl),trivial⟩),trivial⟩<|Aq<|W.cB hm (.t rfl) (fun hp55 hm=>?_) (fun hp55 hm=>?_)
          ·refine W.region<|Am rfl rfl<|Am rfl rfl<|WL.mv rfl rfl ?_
           obtain ⟨v8,hv56,hm⟩:=Bs hm
           refine Ao rfl (.idx hv56 U25 Z27 (.t rfl) (.t rfl))<|Ao rfl (.fieldAddr U27 rfl J25 fapi_Unit_5 (.t rfl))<|Ao rfl (.load ty25 (.t rfl))<|WL.mv rfl rfl ?_
           obtain ⟨v9,hv57,hm⟩:=Bs hm
           refine Ao rfl (.idx hv57 U25 Z27 (.t rfl) (.t rfl))<|Ao rfl (.load ty27 (.t rfl))<|Ao rfl (.buildSlice (n:=1) (ys:=[(0,v9)]) (z:=zapi_Unit) (xs:=[v9]) U25 el27 ze27 ⟨rfl,(.t rfl),trivial⟩ (by simp) (by decide) rfl) ?_
           obtain ⟨out2,hv58,hm⟩:=Bs hm
           exact WL.opR rfl (OpR.appC (key:=58) hv58 U25 el27 (.t rfl) (.t rfl) rfl) fun k9=>Ag rfl rfl<|WL.nil<|WN.block<|Aq<|W.region<|Am rfl rfl<|WL.lenL (s:=70) (.t rfl) fun hl59=>Ao rfl (.addI1 (.t rfl) .i64 hp49 hl59)<|Ag rfl rfl<|WL.nil<|WN.again n46 ((out2,j+1),k9) (Nat.lt_succ_self n46) hm ⟨.q rfl,.q rfl,.q rfl,.q rfl,.q rfl,.q rfl,trivial⟩ ⟨rfl,rfl,trivial⟩
          ·exact W.skip<|WN.block<|Aq<|W.region<|Am rfl rfl<|WL.lenL (s:=70) (.t rfl) fun hl60=>Ao rfl (.addI1 (.t rfl) .i64 hp49 hl60)<|Ag rfl rfl<|WL.nil<|WN.again n46 ((next1,j+1),k8) (Nat.lt_succ_self n46) hm ⟨.q rfl,.q rfl,.q rfl,.q rfl,.q rfl,.q rfl,trivial⟩ ⟨rfl,rfl,trivial⟩
         ·refine W.exit rfl ?_
          have hr61:=Si hm
          clear hm
          subst hr61
          have hm:=hk45
          try dsimp only at hm
          refine WN.block<|Aq<|W.region<|WL.mv rfl rfl ?_
          obtain ⟨v10,hv62,hm⟩:=Bs hm
          exact Ao rfl (.addC hv62 (.t rfl) .i64)<|Ag rfl rfl<|WL.nil<|WN.again n40 ((next1,v10),k8) (Nat.lt_succ_self n40) hm ⟨.q rfl,.q rfl,.q rfl,.q rfl,.q rfl,trivial⟩ ⟨rfl,rfl,trivial⟩
       ·refine W.exit rfl ?_
        have hr63:=Si hm
        clear hm
        subst hr63
        have hm:=hk39
        try dsimp only at hm
        refine Aq<|W.region<|Am rfl rfl<|Ag rfl rfl<|WL.nil<|WN.block<|Aq<|W.region<|WL.mv rfl rfl ?_
        obtain ⟨v11,hv64,hm⟩:=Bs hm
        exact Ao rfl (.addC hv64 (.t rfl) .i64)<|Ag rfl rfl<|WL.nil<|WN.again n34 (next,v11) (Nat.lt_succ_self n34) hm ⟨Ent.o rfl,.q rfl,.q rfl,trivial⟩ trivial
     ·refine W.exit rfl ?_
      have hr65:=Si hm
      clear hm
      subst hr65
      have hm:=hk33
      try dsimp only at hm
      refine Aq<|Aw<|Am rfl rfl<|Ag rfl rfl<|WL.ns ?_
      cases hm
      exact W.ret1 () rfl (.t rfl) trivial
   ·have hm:=hs7
    clear hs7
    refine Aw<|WL.mv rfl rfl ?_
    obtain ⟨v,hv9,hm⟩:=Bs hm
    refine Ao rfl (.idx hv9 U50 Z49 (.t rfl) .i64)<|Ao rfl (.load ty49 (.t rfl)) ?_
    obtain ⟨book,hv10,hm⟩:=Bs hm
    refine Ao rfl (.call C112 (r07_book_spec _ _ hv10) ⟨(.t rfl),trivial⟩)<|An<|W.cB hm (.t rfl) (fun hp12 hm=>?_) (fun hp12 hm=>?_)
    ·refine W.region<|Am rfl rfl<|Ao rfl (.load ty27 (.t rfl))<|Ao rfl (.buildSlice (n:=1) (ys:=[(0,u)]) (z:=zapi_Unit) (xs:=[u]) U25 el27 ze27 ⟨rfl,(.t rfl),trivial⟩ (by simp) (by decide) rfl) ?_
     obtain ⟨out,hv13,hm⟩:=Bs hm
     exact WL.opR rfl (OpR.appC (key:=20) hv13 U25 el27 (.t rfl) (.t rfl) rfl) fun k2=>Ag rfl rfl<|WL.nil<|WN.meet (out,k2) (Si hm) ⟨.q rfl,.q rfl,trivial⟩ ⟨rfl,rfl,trivial⟩
    ·refine Aw<|Ao rfl (.load ty27 (.t rfl)) ?_
     obtain ⟨every,hv14,hm⟩:=Bs hm
     refine Ao rfl (.call C22 (r07_Every_spec _ _ _ hv14) ⟨(.t rfl),trivial⟩)<|Ag rfl rfl<|Ar<|Ao rfl (.assign .i64)<|An<|W.block ?_
     obtain ⟨s15,hs16,hk17⟩:=Bs hm
     clear hm
     refine W.loop (fun m (s:((List api_Unit)×Int)×Tok)=>M.r07_Units_loop1 p every m s.1.1 s.1.2=some s15) (fun s=>[(5,(tO tapi_Unit s.2 s.1.1)),(7,(I6.is s.1.2)),(1,((tL tapi_Step).is p)),(6,((tL tapi_Unit).is every))]) (fun s=>[(20,Dec.Own tapi_Unit 27 s.2 s.1.1.length)]) _ ((([]:List api_Unit),(0:Int)),k) hs16 ⟨.q rfl,.q rfl,.q rfl,.q rfl,trivial⟩ ⟨rfl,rfl,trivial⟩ ?_
     rintro n18 ⟨⟨now1,i⟩,k3⟩ hm
     try dsimp only at hm
     change W _ _ _ _ _ _ _ [(5,(tO tapi_Unit k3 now1)),(7,(I6.is i)),(1,((tL tapi_Step).is p)),(6,((tL tapi_Unit).is every))] [(20,Dec.Own tapi_Unit 27 k3 now1.length)]
     cases n18 with
     | zero=>rw [M.r07_Units_loop1.eq_1] at hm;cases hm
     | succ n18=>
      rw [M.r07_Units_loop1.eq_2] at hm
      refine W.seq<|Aw<|Am rfl rfl<|Am rfl rfl<|Ao rfl (.lenL U25 (.t rfl))<|Ao rfl (.ltI (.t rfl) (.t rfl))<|An<|W.cD hm (.t rfl) (fun hp20 hm=>?_) (fun hp20 hm=>?_)
      ·refine W.skip<|Aq<|W.seq<|W.block<|W.seq ?_
       obtain ⟨v1,hv21,hm⟩:=Bs hm
       obtain ⟨v2,hv22,hm⟩:=Bs hm
       obtain ⟨at0_,hv23,hm⟩:=Bs hm
       refine W.draw [.c _,.c _,.c _,.c _,.c _,.c _,.c _,.c _] [([],[6]),([],[7]),([0,1],[]),([2],[]),([],[1]),([4],[]),([5],[]),([3,6],[])] Mx rfl rfl rfl rfl ⟨Dn (.move (.t rfl)),Dn (.move (.t rfl)),Dn (.idx hv21 U25 Z27 (.t rfl) (.t rfl)),Dn (.load ty27 (.t rfl)),Dn (.move (.t rfl)),Dn (.idx hv22 U50 Z49 (.t rfl) .i64),Dn (.load ty49 (.t rfl)),Dn (.call C113 (r07_at_spec _ _ _ hv23) ⟨(.t rfl),(.t rfl),trivial⟩),trivial⟩<|Aq<|W.cB hm (.t rfl) (fun hp25 hm=>?_) (fun hp25 hm=>?_)
       ·refine W.region<|Am rfl rfl<|Am rfl rfl<|WL.mv rfl rfl ?_
        obtain ⟨v3,hv26,hm⟩:=Bs hm
        refine Ao rfl (.idx hv26 U25 Z27 (.t rfl) (.t rfl))<|Ao rfl (.load ty27 (.t rfl))<|Ao rfl (.buildSlice (n:=1) (ys:=[(0,v3)]) (z:=zapi_Unit) (xs:=[v3]) U25 el27 ze27 ⟨rfl,(.t rfl),trivial⟩ (by simp) (by decide) rfl) ?_
        obtain ⟨out1,hv27,hm⟩:=Bs hm
        exact WL.opR rfl (OpR.appC (key:=20) hv27 U25 el27 (.t rfl) (.t rfl) rfl) fun k4=>Ag rfl rfl<|WL.nil<|WN.block<|Aq<|W.region<|Am rfl rfl<|WL.lenL (s:=6) (.t rfl) fun hl28=>Ao rfl (.addI1 (.t rfl) .i64 hp20 hl28)<|Ag rfl rfl<|WL.nil<|WN.again n18 ((out1,i+1),k4) (Nat.lt_succ_self n18) hm ⟨.q rfl,.q rfl,.q rfl,.q rfl,trivial⟩ ⟨rfl,rfl,trivial⟩
       ·exact W.skip<|WN.block<|Aq<|W.region<|Am rfl rfl<|WL.lenL (s:=6) (.t rfl) fun hl29=>Ao rfl (.addI1 (.t rfl) .i64 hp20 hl29)<|Ag rfl rfl<|WL.nil<|WN.again n18 ((now1,i+1),k3) (Nat.lt_succ_self n18) hm ⟨.q rfl,.q rfl,.q rfl,.q rfl,trivial⟩ ⟨rfl,rfl,trivial⟩
      ·refine W.exit rfl ?_
       have hr30:=Si hm
       clear hm
       subst hr30
       have hm:=hk17
       try dsimp only at hm
       exact WN.meet (now1,k3) (Si hm) ⟨.q rfl,.q rfl,trivial⟩ ⟨rfl,rfl,trivial⟩
theorem r07_Find_spec(n:Nat)(u:api_Unit)(p:List api_Step)(r:(List api_Id))(hm:M.r07_Find n u p=some r):FSpec Tryz.prog 59 [(tapi_Unit.is u),((tL tapi_Step).is p)] ((tL tapi_Id).is r):=by
 unfold M.r07_Find at hm
 refine FSpec.of Tryz.func59 rfl rfl rfl fun g0=>Aw<|Ao rfl (.box (.t rfl))<|Ao rfl (.assign (.nil (t:=tapi_Id)))<|Ar<|WL.opR rfl (OpR.buildSlice (n:=0) (ys:=[]) (z:=zapi_Id) (xs:=([]:List api_Id)) 8 U40 el23 ze23 trivial (by simp) (by decide) rfl) fun k=>Ag rfl rfl<|Ar<|Ao rfl (.load ty27 (.t rfl))<|WL.mv rfl rfl ?_
 obtain ⟨units,hv1,hm⟩:=Bs hm
 refine Ao rfl (.call C92 (r07_Units_spec _ _ _ _ hv1) ⟨(.t rfl),(.t rfl),trivial⟩)<|Ag rfl rfl<|An<|W.seq<|Aw<|Ao rfl (.assign .i64)<|An<|W.block ?_
 obtain ⟨s2,hs3,hk4⟩:=Bs hm
 clear hm
 refine W.loop (fun m (s:((List api_Id)×Int)×Tok)=>M.r07_Find_loop1 units m s.1.1 s.1.2=some s2) (fun s=>[(5,(tO tapi_Id s.2 s.1.1)),(7,(I6.is s.1.2)),(6,((tL tapi_Unit).is units))]) (fun s=>[(8,Dec.Own tapi_Id 23 s.2 s.1.1.length)]) _ ((([]:List api_Id),(0:Int)),k) hs3 ⟨.q rfl,.q rfl,.q rfl,trivial⟩ ⟨rfl,rfl,trivial⟩ ?_
 rintro n5 ⟨⟨out,i⟩,k1⟩ hm
 try dsimp only at hm
 change W _ _ _ _ _ _ _ [(5,(tO tapi_Id k1 out)),(7,(I6.is i)),(6,((tL tapi_Unit).is units))] [(8,Dec.Own tapi_Id 23 k1 out.length)]
 cases n5 with
 | zero=>rw [M.r07_Find_loop1.eq_1] at hm;cases hm
 | succ n5=>
  rw [M.r07_Find_loop1.eq_2] at hm
  refine W.seq<|Aw<|Am rfl rfl<|Am rfl rfl<|Ao rfl (.lenL U25 (.t rfl))<|Ao rfl (.ltI (.t rfl) (.t rfl))<|An<|W.cD hm (.t rfl) (fun hp7 hm=>?_) (fun hp7 hm=>?_)
  ·refine W.skip<|Aq<|W.seq<|W.block<|W.region<|Am rfl rfl<|Am rfl rfl<|WL.mv rfl rfl ?_
   obtain ⟨v,hv8,hm⟩:=Bs hm
   refine Ao rfl (.idx hv8 U25 Z27 (.t rfl) (.t rfl))<|Ao rfl (.fieldAddr U27 rfl J23 fapi_Unit_0 (.t rfl))<|Ao rfl (.load ty23 (.t rfl))<|Ao rfl (.buildSlice (n:=1) (ys:=[(0,v.Id)]) (z:=zapi_Id) (xs:=[v.Id]) U40 el23 ze23 ⟨rfl,(.t rfl),trivial⟩ (by simp) (by decide) rfl) ?_
   obtain ⟨out1,hv9,hm⟩:=Bs hm
   exact WL.opR rfl (OpR.appC (key:=8) hv9 U40 el23 (.t rfl) (.t rfl) rfl) fun k2=>Ag rfl rfl<|WL.nil<|WN.block<|Aq<|W.region<|Am rfl rfl<|WL.lenL (s:=6) (.t rfl) fun hl10=>Ao rfl (.addI1 (.t rfl) .i64 hp7 hl10)<|Ag rfl rfl<|WL.nil<|WN.again n5 ((out1,i+1),k2) (Nat.lt_succ_self n5) hm ⟨.q rfl,.q rfl,.q rfl,trivial⟩ ⟨rfl,rfl,trivial⟩
  ·refine W.exit rfl ?_
   have hr11:=Si hm
   clear hm
   subst hr11
   have hm:=hk4
   try dsimp only at hm
   refine Aq<|Aw<|Am rfl rfl<|Ag rfl rfl<|WL.ns ?_
   cases hm
   exact W.ret1 () rfl (Opd.own (.t rfl)) trivial
theorem r07_One_spec(n:Nat)(u:api_Unit)(p:List api_Step)(r:api_Id×Int)(hm:M.r07_One n u p=some r):FSpec Tryz.prog 35 [(tapi_Unit.is u),((tL tapi_Step).is p)] (Asn.tuple2 (tapi_Id.is r.1) (I6.is r.2)):=by
 unfold M.r07_One at hm
 refine FSpec.of Tryz.func35 rfl rfl rfl fun g0=>Aw<|Ao rfl (.box (.t rfl))<|WL.opR rfl (OpR.alloc 4 ze23) fun b=>Ao rfl (.assign .i64)<|Ar<|Ao rfl (.load ty27 (.t rfl))<|WL.mv rfl rfl ?_
 obtain ⟨find,hv1,hm⟩:=Bs hm
 refine Ao rfl (.call C59 (r07_Find_spec _ _ _ _ hv1) ⟨(.t rfl),(.t rfl),trivial⟩)<|Ag rfl rfl<|An<|W.seq<|Aw<|Am rfl rfl<|Ao rfl (.lenL U40 (.t rfl))<|Ao rfl (.eqI (.t rfl) .i64)<|An<|W.cD hm (.t rfl) (fun hp3 hm=>?_) (fun hp3 hm=>?_)
 ·refine Aw<|Ao rfl (.build (s:=tapi_Id) (x:=(⟨(0:Int),(0:Int),(0:Int)⟩:api_Id)) zapi_Id_f rfl U23 (zapi_Id_sz _ U23) ze23 rfl)<|WL.opU (OpR.storeB (b:=b) 4 Z23 (Cellable.is tapi_Id (⟨(0:Int),(0:Int),(0:Int)⟩:api_Id)) rfl (.t rfl) (.t rfl)) fun _=>Ao rfl (.assign .i64)<|WL.ns ?_
  cases hm
  exact W.retQ2 () rfl rfl (ResAt.cell 4 Y23 Z23 rfl (.t rfl)) (ResAt.tmp (.t rfl)) trivial
 ·refine W.skip<|Aq<|W.seq<|Aw<|Am rfl rfl<|Ao rfl (.lenL U40 (.t rfl))<|Ao rfl (.gtI (.t rfl) .i64)<|An<|W.cD hm (.t rfl) (fun hp5 hm=>?_) (fun hp5 hm=>?_)
  ·refine Aw<|Ao rfl (.build (s:=tapi_Id) (x:=(⟨(0:Int),(0:Int),(0:Int)⟩:api_Id)) zapi_Id_f rfl U23 (zapi_Id_sz _ U23) ze23 rfl)<|WL.opU (OpR.storeB (b:=b) 4 Z23 (Cellable.is tapi_Id (⟨(0:Int),(0:Int),(0:Int)⟩:api_Id)) rfl (.t rfl) (.t rfl)) fun _=>Ao rfl (.assign .i64)<|WL.ns ?_
   cases hm
   exact W.retQ2 () rfl rfl (ResAt.cell 4 Y23 Z23 rfl (.t rfl)) (ResAt.tmp (.t rfl)) trivial
  ·refine W.skip<|Aq<|Aw<|WL.mv rfl rfl ?_
   obtain ⟨v,hv6,hm⟩:=Bs hm
   refine Ao rfl (.idx hv6 U40 Z23 (.t rfl) .i64)<|Ao rfl (.load ty23 (.t rfl))<|WL.opU (OpR.storeB (b:=b) 4 Z23 (Cellable.is tapi_Id v) rfl (.t rfl) (.t rfl)) fun _=>Ao rfl (.assign .i64)<|WL.ns ?_
   cases hm
   exact W.retQ2 () rfl rfl (ResAt.cell 4 Y23 Z23 rfl (.t rfl)) (ResAt.tmp (.t rfl)) trivial
theorem r23_Parent_spec:∀ (n:Nat) (u:api_Unit) (id:api_Id) (r:api_Unit×Int×Int),M.r23_Parent n u id=some r→FSpec Tryz.prog 36 [(tapi_Unit.is u),(tapi_Id.is id)] (Asn.tuple3 (tapi_Unit.is r.1) (I6.is r.2.1) (I6.is r.2.2)):=by
 intro n
 induction n with
 | zero=>intro u id r hm;cases hm
 | succ n ih=>
  intro u id r hm
  rw [M.r23_Parent.eq_2] at hm
  refine FSpec.of Tryz.func36 rfl rfl rfl fun g0=>Aw<|Ao rfl (.box (.t rfl))<|Ao rfl (.box (.t rfl))<|WL.opR rfl (OpR.alloc 4 ze27) fun b=>Ao rfl (.assign .i64)<|Ao rfl (.assign .i64)<|An<|W.seq<|Aw<|Ao rfl (.assign .i64)<|An<|W.block ?_
  obtain ⟨s1,hs2,hk3⟩:=Bs hm
  clear hm
  refine W.loop (fun m (s:Int×api_Unit)=>M.r23_Parent_loop1 u id m s.1 s.2=some s1) (fun s=>[(7,(I6.is s.1)),(2,(tapi_Unit.ptr u)),(3,(tapi_Id.ptr id)),(4,(Bp b 0))]) (fun s=>[(4,(Bx 8 true 27 (tapi_Unit.is s.2) b))]) _ ((0:Int),zapi_Unit) hs2 ⟨.q rfl,.q rfl,.q rfl,.q rfl,trivial⟩ ⟨rfl,rfl,trivial⟩ ?_
  rintro n4 ⟨i,v⟩ hm
  try dsimp only at hm
  change W _ _ _ _ _ _ _ [(7,(I6.is i)),(2,(tapi_Unit.ptr u)),(3,(tapi_Id.ptr id)),(4,(Bp b 0))] [(4,(Bx 8 true 27 (tapi_Unit.is v) b))]
  cases n4 with
  | zero=>rw [M.r23_Parent_loop1.eq_1] at hm;cases hm
  | succ n4=>
   rw [M.r23_Parent_loop1.eq_2] at hm
   refine W.seq<|Aw<|Am rfl rfl<|Ao rfl (.fieldAddr U27 rfl J25 fapi_Unit_5 (.t rfl))<|Ao rfl (.load ty25 (.t rfl))<|Ao rfl (.lenL U25 (.t rfl))<|Ao rfl (.ltI (.t rfl) (.t rfl))<|An<|W.cD hm (.t rfl) (fun hp6 hm=>?_) (fun hp6 hm=>?_)
   ·refine W.skip<|Aq<|W.seq<|W.block<|W.seq ?_
    obtain ⟨v1,hv7,hm⟩:=Bs hm
    refine W.draw [.c _,.c _,.c _,.c _,.c _,.c _,.c _,.c _] [([],[2]),([0],[]),([],[7]),([1,2],[]),([3],[]),([4],[]),([],[3]),([5,6],[])] Mx rfl rfl rfl rfl ⟨Dn (.fieldAddr U27 rfl J25 fapi_Unit_5 (.t rfl)),Dn (.load ty25 (.t rfl)),Dn (.move (.t rfl)),Dn (.idx hv7 U25 Z27 (.t rfl) (.t rfl)),Dn (.fieldAddr U27 rfl J23 fapi_Unit_0 (.t rfl)),Dn (.load ty23 (.t rfl)),Dn (.load ty23 (.t rfl)),Dn (.eqSt (D:=2) rfl (by decide) eg23 eq23 (.t rfl) (.t rfl)),trivial⟩<|Aq<|W.cD hm (.t rfl) (fun hp9 hm=>?_) (fun hp9 hm=>?_)
    ·refine Aw<|Ao rfl (.load ty27 (.t rfl))<|Am rfl rfl<|WL.opU (OpR.storeB (b:=b) 4 Z27 (Cellable.is tapi_Unit u) rfl (.t rfl) (.t rfl)) fun _=>Ao rfl (.assign .i64)<|Ag rfl rfl<|WL.ns ?_
     have hr10:=Si hm
     clear hm
     subst hr10
     have hm:=hk3
     try dsimp only at hm
     cases hm
     exact W.retQ3 () rfl rfl (ResAt.cell 4 Y27 Z27 rfl (.t rfl)) (ResAt.tmp (.t rfl)) (ResAt.tmp (.t rfl)) trivial
    ·exact W.skip<|WN.block<|Aq<|W.region<|Am rfl rfl<|WL.lenL (s:=14) (.t rfl) fun hl11=>Ao rfl (.addI1 (.t rfl) .i64 hp6 hl11)<|Ag rfl rfl<|WL.nil<|WN.again n4 (i+1,v) (Nat.lt_succ_self n4) hm ⟨.q rfl,.q rfl,.q rfl,.q rfl,trivial⟩ ⟨rfl,rfl,trivial⟩
   ·refine W.exit rfl ?_
    have hr12:=Si hm
    clear hm
    subst hr12
    have hm:=hk3
    try dsimp only at hm
    refine Aq<|W.seq<|Aw<|Ao rfl (.assign .i64)<|An<|W.block ?_
    obtain ⟨s13,hs14,hk15⟩:=Bs hm
    clear hm
    refine W.loop (fun m (s:Int×api_Unit)=>M.r23_Parent_loop2 u id (M.r23_Parent n) m s.1 s.2=some s13) (fun s=>[(8,(I6.is s.1)),(2,(tapi_Unit.ptr u)),(3,(tapi_Id.ptr id)),(4,(Bp b 0))]) (fun s=>[(4,(Bx 8 true 27 (tapi_Unit.is s.2) b))]) _ ((0:Int),v) hs14 ⟨.q rfl,.q rfl,.q rfl,.q rfl,trivial⟩ ⟨rfl,rfl,trivial⟩ ?_
    rintro n16 ⟨i1,v2⟩ hm
    try dsimp only at hm
    change W _ _ _ _ _ _ _ [(8,(I6.is i1)),(2,(tapi_Unit.ptr u)),(3,(tapi_Id.ptr id)),(4,(Bp b 0))] [(4,(Bx 8 true 27 (tapi_Unit.is v2) b))]
    cases n16 with
    | zero=>rw [M.r23_Parent_loop2.eq_1] at hm;cases hm
    | succ n16=>
     rw [M.r23_Parent_loop2.eq_2] at hm
     refine W.seq<|Aw<|Am rfl rfl<|Ao rfl (.fieldAddr U27 rfl J25 fapi_Unit_5 (.t rfl))<|Ao rfl (.load ty25 (.t rfl))<|Ao rfl (.lenL U25 (.t rfl))<|Ao rfl (.ltI (.t rfl) (.t rfl))<|An<|W.cD hm (.t rfl) (fun hp18 hm=>?_) (fun hp18 hm=>?_)
     ·refine W.skip<|Aq<|W.seq<|W.block<|W.seq ?_
      obtain ⟨v3,hv19,hm⟩:=Bs hm
      obtain ⟨parent,hv20,hm⟩:=Bs hm
      refine W.weakR (res':=[(4,(Bx 8 true 27 (tapi_Unit.is v2) b))]) ⟨rfl,rfl,trivial⟩<|W.drawM [.c ((tL tapi_Unit).ptr u.Kids),.c ((tL tapi_Unit).is u.Kids),.c (I6.is i1),.c (tapi_Unit.ptr v3),.c (tapi_Unit.is v3),.c (tapi_Id.is id),.c (Asn.tuple3 (tapi_Unit.is parent.1) (I6.is parent.2.1) (I6.is parent.2.2)),.c (Asn.tuple3 (tapi_Unit.is parent.1) (I6.is parent.2.1) (I6.is parent.2.2)),.c (tapi_Unit.is parent.1),.c (I6.is parent.2.1),.c (I6.is parent.2.2),.f (fun cv=>(Bp (bk (cv 0)) 0)),.c Asn.any,.c (I6.is parent.2.1),.c (I6.is parent.2.2)] [([],[2]),([0],[]),([],[8]),([1,2],[]),([3],[]),([],[3]),([4,5],[]),([6],[]),([7],[]),([7],[]),([7],[]),([],[]),([8,11],[]),([9],[]),([10],[])] [11,12] [[],[],[],[],[],[],[],[],[],[],[],[true],[],[],[]] (fun m cv=>match m with | 0=>[(4,(Bx 8 true 27 (tapi_Unit.is v2) b))] | 1=>[(9,(Bx 8 true 27 (tapi_Unit.is zapi_Unit) (bk (cv 0)))),(4,(Bx 8 true 27 (tapi_Unit.is v2) b))] | _=>[(9,(Bx 8 true 27 (tapi_Unit.is parent.1) (bk (cv 0)))),(4,(Bx 8 true 27 (tapi_Unit.is v2) b))]) (fun _=>none) Mx rfl rfl rfl rfl rfl ⟨fun _ _ _ _=>rfl,⟨fun _ _ _ _=>rfl,⟨fun _ _ _ _=>rfl,⟨fun _ _ _ _=>rfl,⟨fun _ _ _ _=>rfl,⟨fun _ _ _ _=>rfl,⟨fun _ _ _ _=>rfl,⟨fun _ _ _ _=>rfl,⟨fun _ _ _ _=>rfl,⟨fun _ _ _ _=>rfl,⟨fun _ _ _ _=>rfl,⟨fun m hm c t=>by simp only [DA.at,upd_dep (r:=[true]) (j:=0) rfl hm],⟨fun _ _ _ _=>rfl,⟨fun _ _ _ _=>rfl,⟨fun _ _ _ _=>rfl,trivial⟩⟩⟩⟩⟩⟩⟩⟩⟩⟩⟩⟩⟩⟩⟩ rfl ⟨mo fun cv=>Op1.fieldAddr U27 rfl J25 fapi_Unit_5 (.t rfl),⟨mo fun cv=>Op1.load ty25 (.t rfl),⟨mo fun cv=>Op1.move (.t rfl),⟨mo fun cv=>Op1.idx hv19 U25 Z27 (.t rfl) (.t rfl),⟨mo fun cv=>Op1.load ty27 (.t rfl),⟨mo fun cv=>Op1.load ty23 (.t rfl),⟨mo fun cv=>Op1.call C36 (ih _ _ _ hv20) ⟨(.t rfl),(.t rfl),trivial⟩,⟨mo fun cv=>Op1.move (.t rfl),⟨mo fun cv=>Op1.extract30 (.t rfl),⟨mo fun cv=>Op1.extract31 (.t rfl),⟨mo fun cv=>Op1.extract32 (.t rfl),⟨.inl rfl,⟨.inl rfl,⟨mo fun cv=>Op1.assign (.t rfl),⟨mo fun cv=>Op1.assign (.t rfl),trivial⟩⟩⟩⟩⟩⟩⟩⟩⟩⟩⟩⟩⟩⟩⟩ ⟨⟨_,_,_,[],(fun cv=>[(9,(Bx 8 true 27 (tapi_Unit.is zapi_Unit) (bk (cv 0))))]),rfl,rfl,rfl,rfl,fun _=>rfl,fun _ _=>rfl,fun cv=>OpR.viaB (OpR.alloc 9 ze27)⟩,⟨⟨_,_,_,[9],(fun cv=>[(9,(Bx 8 true 27 (tapi_Unit.is parent.1) (bk (cv 0))))]),rfl,rfl,rfl,rfl,fun _=>rfl,fun _ _=>rfl,fun cv=>OpR.viaU (OpR.storeB (b:=(bk (cv 0))) 9 Z27 (Cellable.is tapi_Unit parent.1) rfl (.t rfl) (.t rfl))⟩,trivial⟩⟩ fun cv=>Aq<|Aw<|Am rfl rfl<|Ao rfl (.geI (.t rfl) .i64)<|An<|W.cD hm (.t rfl) (fun hp22 hm=>?_) (fun hp22 hm=>?_)
      ·refine Aw<|Ao rfl (.loadB 9 Y27 Z27 rfl (.t rfl))<|WL.mv rfl rfl ?_
       obtain ⟨v4,hv23,hm⟩:=Bs hm
       refine Ao rfl (.addC hv23 (.t rfl) .i64)<|Am rfl rfl<|WL.opU (OpR.storeB (b:=b) 4 Z27 (Cellable.is tapi_Unit parent.1) rfl (.t rfl) (.t rfl)) fun _=>Ag rfl rfl<|Ag rfl rfl<|WL.ns ?_
       have hr24:=Si hm
       clear hm
       subst hr24
       have hm:=hk15
       try dsimp only at hm
       cases hm
       exact W.retQ3 () rfl rfl (ResAt.cell 4 Y27 Z27 rfl (.t rfl)) (ResAt.tmp (.t rfl)) (ResAt.tmp (.t rfl)) trivial
      ·exact W.skip<|WN.block<|Aq<|W.region<|Am rfl rfl<|WL.lenL (s:=31) (.t rfl) fun hl25=>Ao rfl (.addI1 (.t rfl) .i64 hp18 hl25)<|Ag rfl rfl<|WL.nil<|WN.again n16 (i1+1,v2) (Nat.lt_succ_self n16) hm ⟨.q rfl,.q rfl,.q rfl,.q rfl,trivial⟩ ⟨rfl,rfl,trivial⟩
     ·refine W.exit rfl ?_
      have hr26:=Si hm
      clear hm
      subst hr26
      have hm:=hk15
      try dsimp only at hm
      refine Aq<|Aw<|Ao rfl (.build (s:=tapi_Unit) (x:=(⟨zapi_Id,(0:Int),([]:Str),([]:List api_Word),([]:List api_Word),([]:List api_Unit)⟩:api_Unit)) zapi_Unit_f rfl U27 (zapi_Unit_sz _ U27) ze27 rfl)<|WL.opU (OpR.storeB (b:=b) 4 Z27 (Cellable.is tapi_Unit (⟨zapi_Id,(0:Int),([]:Str),([]:List api_Word),([]:List api_Word),([]:List api_Unit)⟩:api_Unit)) rfl (.t rfl) (.t rfl)) fun _=>Ao rfl (.assign .i64)<|Ao rfl (.assign .i64)<|WL.ns ?_
      cases hm
      exact W.retQ3 () rfl rfl (ResAt.cell 4 Y27 Z27 rfl (.t rfl)) (ResAt.tmp (.t rfl)) (ResAt.tmp (.t rfl)) trivial
theorem r41_Between_spec(n:Nat)(u:api_Unit)(a:api_Id)(b:api_Id)(r:(List api_Id))(hm:M.r41_Between n u a b=some r):FSpec Tryz.prog 37 [(tapi_Unit.is u),(tapi_Id.is a),(tapi_Id.is b)] ((tL tapi_Id).is r):=by
 unfold M.r41_Between at hm
 refine FSpec.of Tryz.func37 rfl rfl rfl fun g0=>Aw<|Ao rfl (.box (.t rfl))<|Ao rfl (.box (.t rfl))<|Ao rfl (.box (.t rfl))<|Ao rfl (.assign (.nil (t:=tapi_Id)))<|Ar<|WL.opR rfl (OpR.buildSlice (n:=0) (ys:=[]) (z:=zapi_Id) (xs:=([]:List api_Id)) 15 U40 el23 ze23 trivial (by simp) (by decide) rfl) fun k=>Ag rfl rfl<|Ar<|Ao rfl (.load ty27 (.t rfl))<|Ao rfl (.load ty23 (.t rfl)) ?_
 obtain ⟨parent,hv1,hm⟩:=Bs hm
 refine Ao rfl (.call C36 (r23_Parent_spec _ _ _ _ hv1) ⟨(.t rfl),(.t rfl),trivial⟩)<|Am rfl rfl<|Ao rfl (.extract30 (.t rfl))<|Ao rfl (.extract31 (.t rfl))<|Ao rfl (.extract32 (.t rfl))<|WL.opR rfl (OpR.alloc 8 ze27) fun b1=>WL.opU (OpR.storeB (b:=b1) 8 Z27 (Cellable.is tapi_Unit parent.1) rfl (.t rfl) (.t rfl)) fun _=>WL.sealed (t:=tapi_Unit) (u:=parent.1) 8 8 rfl rfl<|Ag rfl rfl<|Ag rfl rfl<|Ar<|Ao rfl (.load ty27 (.t rfl))<|Ao rfl (.load ty23 (.t rfl)) ?_
 obtain ⟨parent1,hv2,hm⟩:=Bs hm
 refine Ao rfl (.call C36 (r23_Parent_spec _ _ _ _ hv2) ⟨(.t rfl),(.t rfl),trivial⟩)<|Am rfl rfl<|Ao rfl (.extract30 (.t rfl))<|Ao rfl (.extract31 (.t rfl))<|Ao rfl (.extract32 (.t rfl))<|WL.opR rfl (OpR.alloc 11 ze27) fun b2=>WL.opU (OpR.storeB (b:=b2) 11 Z27 (Cellable.is tapi_Unit parent1.1) rfl (.t rfl) (.t rfl)) fun _=>WL.sealed (t:=tapi_Unit) (u:=parent1.1) 11 11 rfl rfl<|Ag rfl rfl<|Ag rfl rfl<|An<|W.seq<|W.seq ?_
 rcases iteD hm with ⟨hp4,hb3,hm⟩ | ⟨hp4,hb3,hm⟩
 ·refine W.draw [.c _,.c (tB.is (decide (parent.2.2<(0:Int)))),.c (tB.is (decide (parent.2.2<(0:Int)))),.c _,.c _,.c _,.c (tB.is true),.c (tB.is true),.c _,.c _,.c _,.c _,.c _,.c (tB.is true),.c (tB.is true),.c _,.c _,.c _,.c _,.c _,.c _,.c _,.c _,.c _,.c _,.c _,.c _,.c _,.c (tB.is true)] [([],[10]),([0],[]),([1],[]),([2],[13]),([2],[10]),([2,3,4],[]),([2,5],[]),([6],[]),([7],[8]),([7,8],[]),([7],[11]),([7,10],[]),([7,9,11],[]),([7,12],[]),([13],[]),([14],[8]),([14,15],[]),([14],[10]),([14,16,17],[]),([14,18],[]),([14,19],[]),([14],[8]),([14,21],[]),([14],[13]),([14,22,23],[]),([14,24],[]),([14,25],[]),([14,20,26],[]),([14,27],[])] Mx rfl rfl rfl rfl (by exact ⟨Dn (.move (.t rfl)),Dn (.ltI (.t rfl) .i64),Dn (.move (.t rfl)),Dp rfl hb3,Dp rfl hb3,Dp rfl hb3,Dn (.pickT (.t rfl) hb3 .bool),Dn (.move (.t rfl)),Dp rfl rfl,Dp rfl rfl,Dp rfl rfl,Dp rfl rfl,Dp rfl rfl,Dn (.pickT (.t rfl) rfl .bool),Dn (.move (.t rfl)),Dp rfl rfl,Dp rfl rfl,Dp rfl rfl,Dp rfl rfl,Dp rfl rfl,Dp rfl rfl,Dp rfl rfl,Dp rfl rfl,Dp rfl rfl,Dp rfl rfl,Dp rfl rfl,Dp rfl rfl,Dp rfl rfl,Dn (.pickT (.t rfl) rfl .bool),trivial⟩)<|Aq<|W.condT (.t rfl)<|Aw<|Am rfl rfl<|Ag rfl rfl<|WL.ns ?_
  cases hm
  exact W.ret1 () rfl (Opd.own (.t rfl)) trivial
 ·rcases iteD hm with ⟨hp6,hb5,hm⟩ | ⟨hp6,hb5,hm⟩
  ·refine W.draw [.c _,.c (tB.is (decide (parent.2.2<(0:Int)))),.c (tB.is (decide (parent.2.2<(0:Int)))),.c _,.c _,.c (tB.is (decide (parent1.2.2<parent.2.2))),.c (tB.is (decide (parent1.2.2<parent.2.2))),.c (tB.is (decide (parent1.2.2<parent.2.2))),.c _,.c _,.c _,.c _,.c _,.c (tB.is true),.c (tB.is true),.c _,.c _,.c _,.c _,.c _,.c _,.c _,.c _,.c _,.c _,.c _,.c _,.c _,.c (tB.is true)] [([],[10]),([0],[]),([1],[]),([2],[13]),([2],[10]),([2,3,4],[]),([2,5],[]),([6],[]),([7],[8]),([7,8],[]),([7],[11]),([7,10],[]),([7,9,11],[]),([7,12],[]),([13],[]),([14],[8]),([14,15],[]),([14],[10]),([14,16,17],[]),([14,18],[]),([14,19],[]),([14],[8]),([14,21],[]),([14],[13]),([14,22,23],[]),([14,24],[]),([14,25],[]),([14,20,26],[]),([14,27],[])] Mx rfl rfl rfl rfl (by exact ⟨Dn (.move (.t rfl)),Dn (.ltI (.t rfl) .i64),Dn (.move (.t rfl)),Dr rfl hb3 (.move (.t rfl)),Dr rfl hb3 (.move (.t rfl)),Dr rfl hb3 (.ltI (.t rfl) (.t rfl)),Dn (.pickF (.t rfl) hb3 (.t rfl)),Dn (.move (.t rfl)),Dp rfl hb5,Dp rfl hb5,Dp rfl hb5,Dp rfl hb5,Dp rfl hb5,Dn (.pickT (.t rfl) hb5 .bool),Dn (.move (.t rfl)),Dp rfl rfl,Dp rfl rfl,Dp rfl rfl,Dp rfl rfl,Dp rfl rfl,Dp rfl rfl,Dp rfl rfl,Dp rfl rfl,Dp rfl rfl,Dp rfl rfl,Dp rfl rfl,Dp rfl rfl,Dp rfl rfl,Dn (.pickT (.t rfl) rfl .bool),trivial⟩)<|Aq<|W.condT (.t rfl)<|Aw<|Am rfl rfl<|Ag rfl rfl<|WL.ns ?_
   cases hm
   exact W.ret1 () rfl (Opd.own (.t rfl)) trivial
  ·rcases iteD hm with ⟨hp8,hb7,hm⟩ | ⟨hp8,hb7,hm⟩
   ·refine W.draw [.c _,.c _,.c _,.c _,.c _,.c _,.c _,.c _,.c _,.c _,.c _,.c _,.c _,.c _,.c _,.c _,.c _,.c _,.c _,.c _,.c _,.c _,.c _,.c _,.c _,.c _,.c _,.c _,.c _] [([],[10]),([0],[]),([1],[]),([2],[13]),([2],[10]),([2,3,4],[]),([2,5],[]),([6],[]),([7],[8]),([7,8],[]),([7],[11]),([7,10],[]),([7,9,11],[]),([7,12],[]),([13],[]),([14],[8]),([14,15],[]),([14],[10]),([14,16,17],[]),([14,18],[]),([14,19],[]),([14],[8]),([14,21],[]),([14],[13]),([14,22,23],[]),([14,24],[]),([14,25],[]),([14,20,26],[]),([14,27],[])] Mx rfl rfl rfl rfl (by exact ⟨Dn (.move (.t rfl)),Dn (.ltI (.t rfl) .i64),Dn (.move (.t rfl)),Dr rfl hb3 (.move (.t rfl)),Dr rfl hb3 (.move (.t rfl)),Dr rfl hb3 (.ltI (.t rfl) (.t rfl)),Dn (.pickF (.t rfl) hb3 (.t rfl)),Dn (.move (.t rfl)),Dr rfl hb5 (.fieldAddr U27 rfl J23 fapi_Unit_0 (.t rfl)),Dr rfl hb5 (.load ty23 (.t rfl)),Dr rfl hb5 (.fieldAddr U27 rfl J23 fapi_Unit_0 (.t rfl)),Dr rfl hb5 (.load ty23 (.t rfl)),Dr rfl hb5 (.neSt (D:=2) rfl (by decide) eg23 eq23 (.t rfl) (.t rfl)),Dn (.pickF (.t rfl) hb5 (.t rfl)),Dn (.move (.t rfl)),Dp rfl hb7,Dp rfl hb7,Dp rfl hb7,Dp rfl hb7,Dp rfl hb7,Dp rfl hb7,Dp rfl hb7,Dp rfl hb7,Dp rfl hb7,Dp rfl hb7,Dp rfl hb7,Dp rfl hb7,Dp rfl hb7,Dn (.pickT (.t rfl) hb7 .bool),trivial⟩)<|Aq<|W.condT (.t rfl)<|Aw<|Am rfl rfl<|Ag rfl rfl<|WL.ns ?_
    cases hm
    exact W.ret1 () rfl (Opd.own (.t rfl)) trivial
   ·obtain ⟨v,hv9,hm⟩:=Bs hm
    obtain ⟨v1,hv10,hm⟩:=Bs hm
    refine W.draw [.c _,.c _,.c _,.c _,.c _,.c _,.c _,.c _,.c _,.c _,.c _,.c _,.c _,.c _,.c _,.c _,.c _,.c _,.c _,.c _,.c _,.c _,.c _,.c _,.c _,.c _,.c _,.c _,.c _] [([],[10]),([0],[]),([1],[]),([2],[13]),([2],[10]),([2,3,4],[]),([2,5],[]),([6],[]),([7],[8]),([7,8],[]),([7],[11]),([7,10],[]),([7,9,11],[]),([7,12],[]),([13],[]),([14],[8]),([14,15],[]),([14],[10]),([14,16,17],[]),([14,18],[]),([14,19],[]),([14],[8]),([14,21],[]),([14],[13]),([14,22,23],[]),([14,24],[]),([14,25],[]),([14,20,26],[]),([14,27],[])] Mx rfl rfl rfl rfl (by exact ⟨Dn (.move (.t rfl)),Dn (.ltI (.t rfl) .i64),Dn (.move (.t rfl)),Dr rfl hb3 (.move (.t rfl)),Dr rfl hb3 (.move (.t rfl)),Dr rfl hb3 (.ltI (.t rfl) (.t rfl)),Dn (.pickF (.t rfl) hb3 (.t rfl)),Dn (.move (.t rfl)),Dr rfl hb5 (.fieldAddr U27 rfl J23 fapi_Unit_0 (.t rfl)),Dr rfl hb5 (.load ty23 (.t rfl)),Dr rfl hb5 (.fieldAddr U27 rfl J23 fapi_Unit_0 (.t rfl)),Dr rfl hb5 (.load ty23 (.t rfl)),Dr rfl hb5 (.neSt (D:=2) rfl (by decide) eg23 eq23 (.t rfl) (.t rfl)),Dn (.pickF (.t rfl) hb5 (.t rfl)),Dn (.move (.t rfl)),Dr rfl hb7 (.fieldAddr U27 rfl J25 fapi_Unit_5 (.t rfl)),Dr rfl hb7 (.load ty25 (.t rfl)),Dr rfl hb7 (.move (.t rfl)),Dr rfl hb7 (.idx hv9 U25 Z27 (.t rfl) (.t rfl)),Dr rfl hb7 (.fieldAddr U27 rfl J3 fapi_Unit_1 (.t rfl)),Dr rfl hb7 (.load ty3 (.t rfl)),Dr rfl hb7 (.fieldAddr U27 rfl J25 fapi_Unit_5 (.t rfl)),Dr rfl hb7 (.load ty25 (.t rfl)),Dr rfl hb7 (.move (.t rfl)),Dr rfl hb7 (.idx hv10 U25 Z27 (.t rfl) (.t rfl)),Dr rfl hb7 (.fieldAddr U27 rfl J3 fapi_Unit_1 (.t rfl)),Dr rfl hb7 (.load ty3 (.t rfl)),Dr rfl hb7 (.neI (.t rfl) (.t rfl)),Dn (.pickF (.t rfl) hb7 (.t rfl)),trivial⟩)<|Aq<|W.cD hm (.t rfl) (fun hp12 hm=>?_) (fun hp12 hm=>?_)
    ·refine Aw<|Am rfl rfl<|Ag rfl rfl<|WL.ns ?_
     cases hm
     exact W.ret1 () rfl (Opd.own (.t rfl)) trivial
    ·refine W.skip<|Aq<|W.seq<|Aw<|Am rfl rfl<|Ag rfl rfl<|An<|W.block ?_
     obtain ⟨s13,hs14,hk15⟩:=Bs hm
     clear hm
     refine W.loop (fun m (s:((List api_Id)×Int)×Tok)=>M.r41_Between_loop1 parent parent1 m s.1.1 s.1.2=some s13) (fun s=>[(7,(tO tapi_Id s.2 s.1.1)),(14,(I6.is s.1.2)),(8,(tapi_Unit.ptr parent.1)),(10,(I6.is parent.2.2)),(13,(I6.is parent1.2.2))]) (fun s=>[(15,Dec.Own tapi_Id 23 s.2 s.1.1.length)]) _ ((([]:List api_Id),parent.2.2),k) hs14 ⟨.q rfl,.q rfl,.q rfl,.q rfl,.q rfl,trivial⟩ ⟨rfl,rfl,trivial⟩ ?_
     rintro n16 ⟨⟨out,i⟩,k1⟩ hm
     try dsimp only at hm
     change W _ _ _ _ _ _ _ [(7,(tO tapi_Id k1 out)),(14,(I6.is i)),(8,(tapi_Unit.ptr parent.1)),(10,(I6.is parent.2.2)),(13,(I6.is parent1.2.2))] [(15,Dec.Own tapi_Id 23 k1 out.length)]
     cases n16 with
     | zero=>rw [M.r41_Between_loop1.eq_1] at hm;cases hm
     | succ n16=>
      rw [M.r41_Between_loop1.eq_2] at hm
      refine W.seq<|Aw<|Am rfl rfl<|Am rfl rfl<|Ao rfl (.leI (.t rfl) (.t rfl))<|An<|W.cD hm (.t rfl) (fun hp18 hm=>?_) (fun hp18 hm=>?_)
      ·refine W.skip<|Aq<|W.seq<|W.block<|W.seq ?_
       obtain ⟨v2,hv19,hm⟩:=Bs hm
       obtain ⟨v3,hv20,hm⟩:=Bs hm
       refine W.draw [.c _,.c _,.c _,.c _,.c _,.c _,.c _,.c _,.c _,.c _,.c _,.c _,.c _] [([],[8]),([0],[]),([],[14]),([1,2],[]),([3],[]),([4],[]),([],[8]),([6],[]),([],[10]),([7,8],[]),([9],[]),([10],[]),([5,11],[])] Mx rfl rfl rfl rfl ⟨Dn (.fieldAddr U27 rfl J25 fapi_Unit_5 (.t rfl)),Dn (.load ty25 (.t rfl)),Dn (.move (.t rfl)),Dn (.idx hv19 U25 Z27 (.t rfl) (.t rfl)),Dn (.fieldAddr U27 rfl J3 fapi_Unit_1 (.t rfl)),Dn (.load ty3 (.t rfl)),Dn (.fieldAddr U27 rfl J25 fapi_Unit_5 (.t rfl)),Dn (.load ty25 (.t rfl)),Dn (.move (.t rfl)),Dn (.idx hv20 U25 Z27 (.t rfl) (.t rfl)),Dn (.fieldAddr U27 rfl J3 fapi_Unit_1 (.t rfl)),Dn (.load ty3 (.t rfl)),Dn (.eqI (.t rfl) (.t rfl)),trivial⟩<|Aq<|W.cD hm (.t rfl) (fun hp22 hm=>?_) (fun hp22 hm=>?_)
       ·refine W.region<|Am rfl rfl<|Ao rfl (.fieldAddr U27 rfl J25 fapi_Unit_5 (.t rfl))<|Ao rfl (.load ty25 (.t rfl))<|WL.mv rfl rfl ?_
        obtain ⟨v4,hv23,hm⟩:=Bs hm
        refine Ao rfl (.idx hv23 U25 Z27 (.t rfl) (.t rfl))<|Ao rfl (.fieldAddr U27 rfl J23 fapi_Unit_0 (.t rfl))<|Ao rfl (.load ty23 (.t rfl))<|Ao rfl (.buildSlice (n:=1) (ys:=[(0,v4.Id)]) (z:=zapi_Id) (xs:=[v4.Id]) U40 el23 ze23 ⟨rfl,(.t rfl),trivial⟩ (by simp) (by decide) rfl) ?_
        obtain ⟨out1,hv24,hm⟩:=Bs hm
        refine WL.opR rfl (OpR.appC (key:=15) hv24 U40 el23 (.t rfl) (.t rfl) rfl) fun k2=>Ag rfl rfl<|WL.nil<|WN.block<|Aq<|W.region<|WL.mv rfl rfl ?_
        obtain ⟨v5,hv25,hm⟩:=Bs hm
        exact Ao rfl (.addC hv25 (.t rfl) .i64)<|Ag rfl rfl<|WL.nil<|WN.again n16 ((out1,v5),k2) (Nat.lt_succ_self n16) hm ⟨.q rfl,.q rfl,.q rfl,.q rfl,.q rfl,trivial⟩ ⟨rfl,rfl,trivial⟩
       ·refine W.skip<|WN.block<|Aq<|W.region<|WL.mv rfl rfl ?_
        obtain ⟨v6,hv26,hm⟩:=Bs hm
        exact Ao rfl (.addC hv26 (.t rfl) .i64)<|Ag rfl rfl<|WL.nil<|WN.again n16 ((out,v6),k1) (Nat.lt_succ_self n16) hm ⟨.q rfl,.q rfl,.q rfl,.q rfl,.q rfl,trivial⟩ ⟨rfl,rfl,trivial⟩
      ·refine W.exit rfl ?_
       have hr27:=Si hm
       clear hm
       subst hr27
       have hm:=hk15
       try dsimp only at hm
       refine Aq<|Aw<|Am rfl rfl<|Ag rfl rfl<|WL.ns ?_
       cases hm
       exact W.ret1 () rfl (Opd.own (.t rfl)) trivial
theorem r41_On_spec(n:Nat)(u:api_Unit)(at0_:api_Id)(c:api_Cite)(said:List api_Id)(r:(List api_Id)×Int)(hm:M.r41_On n u at0_ c said=some r):FSpec Tryz.prog 20 [(tapi_Unit.is u),(tapi_Id.is at0_),(tapi_Cite.is c),((tL tapi_Id).is said)] (Asn.tuple2 ((tL tapi_Id).is r.1) (I6.is r.2)):=by
 unfold M.r41_On at hm
 refine FSpec.of Tryz.func20 rfl rfl rfl fun g0=>Aw<|Ao rfl (.box (.t rfl))<|Ao rfl (.box (.t rfl))<|Ao rfl (.box (.t rfl))<|Ao rfl (.assign (.nil (t:=tapi_Id)))<|Ao rfl (.assign .i64)<|An<|W.seq<|Aw<|Ao rfl (.load ty52 (.t rfl)) ?_
 obtain ⟨may,hv1,hm⟩:=Bs hm
 refine Ao rfl (.call C31 (r20_May_spec _ _ _ hv1) ⟨(.t rfl),trivial⟩)<|Ao rfl (.notB (.t rfl))<|An<|W.cR hm (.t rfl) (fun hp3 hm=>?_) (fun hp3 hm=>?_)
 ·refine Aw<|Ao rfl (.assign (.nil (t:=tapi_Id)))<|Ao rfl (.assign .i64)<|WL.ns ?_
  cases hm
  exact W.ret2 () rfl rfl (.t rfl) (.t rfl) trivial
 ·refine W.skip<|Aq<|W.seq<|Aw<|Ao rfl (.fieldAddr U52 rfl J3 fapi_Cite_0 (.t rfl))<|Ao rfl (.load ty3 (.t rfl))<|Ao rfl (.eqI (.t rfl) .i64)<|An<|W.cD hm (.t rfl) (fun hp5 hm=>?_) (fun hp5 hm=>?_)
  ·refine Aw<|Ao rfl (.assign (.nil (t:=tapi_Id)))<|Ao rfl (.assign .i64)<|WL.ns ?_
   cases hm
   exact W.ret2 () rfl rfl (.t rfl) (.t rfl) trivial
  ·refine W.skip<|Aq<|W.seq<|Aw<|Ao rfl (.fieldAddr U52 rfl J3 fapi_Cite_0 (.t rfl))<|Ao rfl (.load ty3 (.t rfl))<|Ao rfl (.eqI (.t rfl) .i64)<|An<|W.cD hm (.t rfl) (fun hp7 hm=>?_) (fun hp7 hm=>?_)
   ·refine W.seq ?_
    obtain ⟨v,hv8,hm⟩:=Bs hm
    obtain ⟨this0_,hv9,hm⟩:=Bs hm
    refine W.weakR (res':=[]) trivial<|W.drawM [.c (tapi_Unit.is u),.c (tapi_Id.is at0_),.c ((tL tapi_Step).ptr c.Path),.c ((tL tapi_Step).is c.Path),.c (tapi_Step.ptr v),.c (I6.ptr v.Kind),.c (I6.is v.Kind),.c (Asn.tuple2 (tapi_Id.is this0_.1) (tB.is this0_.2)),.c (Asn.tuple2 (tapi_Id.is this0_.1) (tB.is this0_.2)),.c (tapi_Id.is this0_.1),.c (tB.is this0_.2),.f (fun cv=>(Bp (bk (cv 0)) 0)),.c Asn.any,.c (tB.is this0_.2)] [([],[4]),([],[5]),([],[6]),([2],[]),([3],[]),([4],[]),([5],[]),([0,1,6],[]),([7],[]),([8],[]),([8],[]),([],[]),([9,11],[]),([10],[])] [11,12] [[],[],[],[],[],[],[],[],[],[],[],[true],[],[]] (fun m cv=>match m with | 0=>[] | 1=>[(10,(Bx 3 true 23 (tapi_Id.is zapi_Id) (bk (cv 0))))] | _=>[(10,(Bx 3 true 23 (tapi_Id.is this0_.1) (bk (cv 0))))]) (fun _=>none) Mx rfl rfl rfl rfl rfl ⟨fun _ _ _ _=>rfl,⟨fun _ _ _ _=>rfl,⟨fun _ _ _ _=>rfl,⟨fun _ _ _ _=>rfl,⟨fun _ _ _ _=>rfl,⟨fun _ _ _ _=>rfl,⟨fun _ _ _ _=>rfl,⟨fun _ _ _ _=>rfl,⟨fun _ _ _ _=>rfl,⟨fun _ _ _ _=>rfl,⟨fun _ _ _ _=>rfl,⟨fun m hm c t=>by simp only [DA.at,upd_dep (r:=[true]) (j:=0) rfl hm],⟨fun _ _ _ _=>rfl,⟨fun _ _ _ _=>rfl,trivial⟩⟩⟩⟩⟩⟩⟩⟩⟩⟩⟩⟩⟩⟩ rfl ⟨mo fun cv=>Op1.load ty27 (.t rfl),⟨mo fun cv=>Op1.load ty23 (.t rfl),⟨mo fun cv=>Op1.fieldAddr U52 rfl J50 fapi_Cite_1 (.t rfl),⟨mo fun cv=>Op1.load ty50 (.t rfl),⟨mo fun cv=>Op1.idx hv8 U50 Z49 (.t rfl) .i64,⟨mo fun cv=>Op1.fieldAddr U49 rfl J3 fapi_Step_0 (.t rfl),⟨mo fun cv=>Op1.load ty3 (.t rfl),⟨mo fun cv=>Op1.call C32 (r41_This_spec _ _ _ _ _ hv9) ⟨(.t rfl),(.t rfl),(.t rfl),trivial⟩,⟨mo fun cv=>Op1.move (.t rfl),⟨mo fun cv=>Op1.extract0 (.t rfl),⟨mo fun cv=>Op1.extract1 (.t rfl),⟨.inl rfl,⟨.inl rfl,⟨mo fun cv=>Op1.assign (.t rfl),trivial⟩⟩⟩⟩⟩⟩⟩⟩⟩⟩⟩⟩⟩⟩ ⟨⟨_,_,_,[],(fun cv=>[(10,(Bx 3 true 23 (tapi_Id.is zapi_Id) (bk (cv 0))))]),rfl,rfl,rfl,rfl,fun _=>rfl,fun _ _=>rfl,fun cv=>OpR.viaB (OpR.alloc 10 ze23)⟩,⟨⟨_,_,_,[10],(fun cv=>[(10,(Bx 3 true 23 (tapi_Id.is this0_.1) (bk (cv 0))))]),rfl,rfl,rfl,rfl,fun _=>rfl,fun _ _=>rfl,fun cv=>OpR.viaU (OpR.storeB (b:=(bk (cv 0))) 10 Z23 (Cellable.is tapi_Id this0_.1) rfl (.t rfl) (.t rfl))⟩,trivial⟩⟩ fun cv=>Aq<|W.seq<|Aw<|Am rfl rfl<|Ao rfl (.notB (.t rfl))<|An<|W.cR hm (.t rfl) (fun hp11 hm=>?_) (fun hp11 hm=>?_)
    ·refine Aw<|Ao rfl (.assign (.nil (t:=tapi_Id)))<|Ao rfl (.assign .i64)<|WL.ns ?_
     cases hm
     exact W.ret2 () rfl rfl (.t rfl) (.t rfl) trivial
    ·refine W.skip<|Aq<|W.seq ?_
     obtain ⟨v1,hv12,hm⟩:=Bs hm
     obtain ⟨down,hv13,hm⟩:=Bs hm
     refine W.draw [.c _,.c _,.c _,.c _,.c _,.c _,.c _,.c _,.c _,.c _] [([],[4]),([],[10]),([],[6]),([2],[]),([3],[]),([0,1,4],[]),([5],[]),([5],[]),([6],[]),([7],[])] Mx rfl rfl rfl rfl ⟨Dn (.load ty27 (.t rfl)),Dn (.loadB 10 Y23 Z23 rfl (.t rfl)),Dn (.fieldAddr U52 rfl J50 fapi_Cite_1 (.t rfl)),Dn (.load ty50 (.t rfl)),Dn (.slcLo hv12 U50 Z49 (.t rfl) .i64),Dn (.call C33 (r41_down_spec _ _ _ _ _ hv13) ⟨(.t rfl),(.t rfl),(.t rfl),trivial⟩),Dn (.extract0 (.t rfl)),Dn (.extract1 (.t rfl)),Dn (.assign (.t rfl)),Dn (.assign (.t rfl)),trivial⟩<|WN.seq ?_
     cases hm
     exact W.ret2 () rfl rfl (.t rfl) (.t rfl) trivial
   ·refine W.skip<|Aq<|W.seq<|Aw<|Ao rfl (.fieldAddr U52 rfl J3 fapi_Cite_0 (.t rfl))<|Ao rfl (.load ty3 (.t rfl))<|Ao rfl (.eqI (.t rfl) .i64)<|An<|W.cD hm (.t rfl) (fun hp15 hm=>?_) (fun hp15 hm=>?_)
    ·refine W.seq<|Aw<|Am rfl rfl<|Ao rfl (.lenL U40 (.t rfl)) ?_
     obtain ⟨v2,hv16,hm⟩:=Bs hm
     refine Ao rfl (.subC hv16 (.t rfl) .i64)<|Ag rfl rfl<|An<|W.block ?_
     obtain ⟨s17,hs18,hk19⟩:=Bs hm
     clear hm
     refine W.loop (fun m (s:Int)=>M.r41_On_loop1 u c said m s=some s17) (fun s=>[(12,(I6.is s)),(3,((tL tapi_Id).is said)),(4,(tapi_Unit.ptr u)),(6,(tapi_Cite.ptr c))]) (fun s=>[]) _ v2 hs18 ⟨.q rfl,.q rfl,.q rfl,.q rfl,trivial⟩ trivial ?_
     rintro n20 i hm
     try dsimp only at hm
     change W _ _ _ _ _ _ _ [(12,(I6.is i)),(3,((tL tapi_Id).is said)),(4,(tapi_Unit.ptr u)),(6,(tapi_Cite.ptr c))] []
     cases n20 with
     | zero=>rw [M.r41_On_loop1.eq_1] at hm;cases hm
     | succ n20=>
      rw [M.r41_On_loop1.eq_2] at hm
      refine W.seq<|Aw<|Am rfl rfl<|Ao rfl (.geI (.t rfl) .i64)<|An<|W.cD hm (.t rfl) (fun hp22 hm=>?_) (fun hp22 hm=>?_)
      ·refine W.skip<|Aq<|W.seq<|W.block<|W.seq ?_
       obtain ⟨v3,hv23,hm⟩:=Bs hm
       obtain ⟨get,hv24,hm⟩:=Bs hm
       refine W.weakR (res':=[]) trivial<|W.drawM [.c (tapi_Unit.is u),.c ((tL tapi_Id).is said),.c (I6.is i),.c (tapi_Id.ptr v3),.c (tapi_Id.is v3),.c (Asn.tuple2 (tapi_Unit.is get.1) (I6.is get.2)),.c (Asn.tuple2 (tapi_Unit.is get.1) (I6.is get.2)),.c (tapi_Unit.is get.1),.c (I6.is get.2),.f (fun cv1=>(Bp (bk (cv1 0)) 0)),.c Asn.any,.c (I6.is get.2)] [([],[4]),([],[3]),([],[12]),([1,2],[]),([3],[]),([0,4],[]),([5],[]),([6],[]),([6],[]),([],[]),([7,9],[]),([8],[])] [9,10] [[],[],[],[],[],[],[],[],[],[true],[],[]] (fun m cv1=>match m with | 0=>[] | 1=>[(13,(Bx 8 true 27 (tapi_Unit.is zapi_Unit) (bk (cv1 0))))] | _=>[(13,(Bx 8 true 27 (tapi_Unit.is get.1) (bk (cv1 0))))]) (fun _=>none) Mx rfl rfl rfl rfl rfl ⟨fun _ _ _ _=>rfl,⟨fun _ _ _ _=>rfl,⟨fun _ _ _ _=>rfl,⟨fun _ _ _ _=>rfl,⟨fun _ _ _ _=>rfl,⟨fun _ _ _ _=>rfl,⟨fun _ _ _ _=>rfl,⟨fun _ _ _ _=>rfl,⟨fun _ _ _ _=>rfl,⟨fun m hm c t=>by simp only [DA.at,upd_dep (r:=[true]) (j:=0) rfl hm],⟨fun _ _ _ _=>rfl,⟨fun _ _ _ _=>rfl,trivial⟩⟩⟩⟩⟩⟩⟩⟩⟩⟩⟩⟩ rfl ⟨mo fun cv1=>Op1.load ty27 (.t rfl),⟨mo fun cv1=>Op1.move (.t rfl),⟨mo fun cv1=>Op1.move (.t rfl),⟨mo fun cv1=>Op1.idx hv23 U40 Z23 (.t rfl) (.t rfl),⟨mo fun cv1=>Op1.load ty23 (.t rfl),⟨mo fun cv1=>Op1.call C34 (r23_Get_spec _ _ _ _ hv24) ⟨(.t rfl),(.t rfl),trivial⟩,⟨mo fun cv1=>Op1.move (.t rfl),⟨mo fun cv1=>Op1.extract0 (.t rfl),⟨mo fun cv1=>Op1.extract1 (.t rfl),⟨.inl rfl,⟨.inl rfl,⟨mo fun cv1=>Op1.assign (.t rfl),trivial⟩⟩⟩⟩⟩⟩⟩⟩⟩⟩⟩⟩ ⟨⟨_,_,_,[],(fun cv1=>[(13,(Bx 8 true 27 (tapi_Unit.is zapi_Unit) (bk (cv1 0))))]),rfl,rfl,rfl,rfl,fun _=>rfl,fun _ _=>rfl,fun cv1=>OpR.viaB (OpR.alloc 13 ze27)⟩,⟨⟨_,_,_,[13],(fun cv1=>[(13,(Bx 8 true 27 (tapi_Unit.is get.1) (bk (cv1 0))))]),rfl,rfl,rfl,rfl,fun _=>rfl,fun _ _=>rfl,fun cv1=>OpR.viaU (OpR.storeB (b:=(bk (cv1 0))) 13 Z27 (Cellable.is tapi_Unit get.1) rfl (.t rfl) (.t rfl))⟩,trivial⟩⟩ fun cv1=>Aq<|W.seq ?_
       rcases iteD hm with ⟨hp26,hb25,hm⟩ | ⟨hp26,hb25,hm⟩
       ·obtain ⟨v4,hv27,hm⟩:=Bs hm
        refine W.draw [.c _,.c _,.c _,.c _,.c _,.c _,.c _,.c _,.c _,.c _,.c _,.c _] [([],[14]),([0],[]),([1],[]),([2],[13]),([2,3],[]),([2],[6]),([2,5],[]),([2,6],[]),([2,7],[]),([2,8],[]),([2,4,9],[]),([2,10],[])] Mx rfl rfl rfl rfl ⟨Dn (.move (.t rfl)),Dn (.geI (.t rfl) .i64),Dn (.move (.t rfl)),Dr rfl hb25 (.fieldAddrB (o:=0) U27 rfl J3 (.t rfl) rfl),Dr rfl hb25 (.loadBF 13 rfl ty3 fapi_Unit_1 rfl (.t rfl)),Dr rfl hb25 (.fieldAddr U52 rfl J50 fapi_Cite_1 (.t rfl)),Dr rfl hb25 (.load ty50 (.t rfl)),Dr rfl hb25 (.idx hv27 U50 Z49 (.t rfl) .i64),Dr rfl hb25 (.fieldAddr U49 rfl J3 fapi_Step_0 (.t rfl)),Dr rfl hb25 (.load ty3 (.t rfl)),Dr rfl hb25 (.eqI (.t rfl) (.t rfl)),Dn (.pickT (.t rfl) hb25 (.t rfl)),trivial⟩<|Aq<|W.cD hm (.t rfl) (fun hp29 hm=>?_) (fun hp29 hm=>?_)
        ·refine W.seq ?_
         obtain ⟨v5,hv30,hm⟩:=Bs hm
         obtain ⟨v6,hv31,hm⟩:=Bs hm
         obtain ⟨down1,hv32,hm⟩:=Bs hm
         refine W.draw [.c _,.c _,.c _,.c _,.c _,.c _,.c _,.c _,.c _,.c _,.c _,.c _,.c _] [([],[4]),([],[3]),([],[12]),([1,2],[]),([3],[]),([],[6]),([5],[]),([6],[]),([0,4,7],[]),([8],[]),([8],[]),([9],[]),([10],[])] Mx rfl rfl rfl rfl ⟨Dn (.load ty27 (.t rfl)),Dn (.move (.t rfl)),Dn (.move (.t rfl)),Dn (.idx hv30 U40 Z23 (.t rfl) (.t rfl)),Dn (.load ty23 (.t rfl)),Dn (.fieldAddr U52 rfl J50 fapi_Cite_1 (.t rfl)),Dn (.load ty50 (.t rfl)),Dn (.slcLo hv31 U50 Z49 (.t rfl) .i64),Dn (.call C33 (r41_down_spec _ _ _ _ _ hv32) ⟨(.t rfl),(.t rfl),(.t rfl),trivial⟩),Dn (.extract0 (.t rfl)),Dn (.extract1 (.t rfl)),Dn (.assign (.t rfl)),Dn (.assign (.t rfl)),trivial⟩<|WN.seq ?_
         have hr33:=Si hm
         clear hm
         subst hr33
         have hm:=hk19
         try dsimp only at hm
         cases hm
         exact W.ret2 () rfl rfl (.t rfl) (.t rfl) trivial
        ·refine W.skip<|WN.block<|Aq<|W.region<|WL.mv rfl rfl ?_
         obtain ⟨v7,hv34,hm⟩:=Bs hm
         exact Ao rfl (.subC hv34 (.t rfl) .i64)<|Ag rfl rfl<|WL.nil<|WN.again n20 v7 (Nat.lt_succ_self n20) hm ⟨.q rfl,.q rfl,.q rfl,.q rfl,trivial⟩ trivial
       ·refine W.draw [.c _,.c _,.c _,.c _,.c _,.c _,.c _,.c _,.c _,.c _,.c _,.c _] [([],[14]),([0],[]),([1],[]),([2],[13]),([2,3],[]),([2],[6]),([2,5],[]),([2,6],[]),([2,7],[]),([2,8],[]),([2,4,9],[]),([2,10],[])] Mx rfl rfl rfl rfl ⟨Dn (.move (.t rfl)),Dn (.geI (.t rfl) .i64),Dn (.move (.t rfl)),Dp rfl hb25,Dp rfl hb25,Dp rfl hb25,Dp rfl hb25,Dp rfl hb25,Dp rfl hb25,Dp rfl hb25,Dp rfl hb25,Dn (.pickF (.t rfl) hb25 .bool),trivial⟩<|Aq<|W.condF (.t rfl)<|W.skip<|WN.block<|Aq<|W.region<|WL.mv rfl rfl ?_
        obtain ⟨v8,hv35,hm⟩:=Bs hm
        exact Ao rfl (.subC hv35 (.t rfl) .i64)<|Ag rfl rfl<|WL.nil<|WN.again n20 v8 (Nat.lt_succ_self n20) hm ⟨.q rfl,.q rfl,.q rfl,.q rfl,trivial⟩ trivial
      ·refine W.exit rfl ?_
       have hr36:=Si hm
       clear hm
       subst hr36
       have hm:=hk19
       try dsimp only at hm
       refine Aq<|Aw<|Ao rfl (.assign (.nil (t:=tapi_Id)))<|Ao rfl (.assign .i64)<|WL.ns ?_
       cases hm
       exact W.ret2 () rfl rfl (.t rfl) (.t rfl) trivial
    ·refine W.skip<|Aq<|Aw<|Ao rfl (.load ty27 (.t rfl))<|Ao rfl (.fieldAddr U52 rfl J50 fapi_Cite_1 (.t rfl))<|Ao rfl (.load ty50 (.t rfl)) ?_
     obtain ⟨one,hv37,hm⟩:=Bs hm
     refine Ao rfl (.call C35 (r07_One_spec _ _ _ _ hv37) ⟨(.t rfl),(.t rfl),trivial⟩)<|Am rfl rfl<|Ao rfl (.extract0 (.t rfl))<|Ao rfl (.extract1 (.t rfl))<|WL.opR rfl (OpR.alloc 15 ze23) fun b=>WL.opU (OpR.storeB (b:=b) 15 Z23 (Cellable.is tapi_Id one.1) rfl (.t rfl) (.t rfl)) fun _=>WL.sealed (t:=tapi_Id) (u:=one.1) 15 15 rfl rfl<|Ag rfl rfl<|An<|W.seq<|Aw<|Am rfl rfl<|Ao rfl (.neI (.t rfl) .i64)<|An<|W.cD hm (.t rfl) (fun hp39 hm=>?_) (fun hp39 hm=>?_)
     ·refine Aw<|Am rfl rfl<|Ao rfl (.assign (.nil (t:=tapi_Id)))<|Ag rfl rfl<|WL.ns ?_
      cases hm
      exact W.ret2 () rfl rfl (.t rfl) (.t rfl) trivial
     ·refine W.skip<|Aq<|W.seq<|Aw<|Ao rfl (.fieldAddr U52 rfl J3 fapi_Cite_0 (.t rfl))<|Ao rfl (.load ty3 (.t rfl))<|Ao rfl (.eqI (.t rfl) .i64)<|An<|W.cD hm (.t rfl) (fun hp41 hm=>?_) (fun hp41 hm=>?_)
      ·refine Aw<|Ao rfl (.load ty23 (.t rfl))<|Ao rfl (.buildSlice (n:=1) (ys:=[(0,one.1)]) (z:=zapi_Id) (xs:=[one.1]) U40 el23 ze23 ⟨rfl,(.t rfl),trivial⟩ (by simp) (by decide) rfl)<|Ag rfl rfl<|Ao rfl (.assign .i64)<|WL.ns ?_
       cases hm
       exact W.ret2 () rfl rfl (.t rfl) (.t rfl) trivial
      ·refine W.skip<|Aq<|Aw<|Ao rfl (.load ty27 (.t rfl))<|Ao rfl (.load ty23 (.t rfl)) ?_
       obtain ⟨get1,hv42,hm⟩:=Bs hm
       refine Ao rfl (.call C34 (r23_Get_spec _ _ _ _ hv42) ⟨(.t rfl),(.t rfl),trivial⟩)<|Am rfl rfl<|Ao rfl (.extract0 (.t rfl))<|Ao rfl (.extract1 (.t rfl))<|WL.opR rfl (OpR.alloc 17 ze27) fun b1=>WL.opU (OpR.storeB (b:=b1) 17 Z27 (Cellable.is tapi_Unit get1.1) rfl (.t rfl) (.t rfl)) fun _=>WL.sealed (t:=tapi_Unit) (u:=get1.1) 17 17 rfl rfl<|Ag rfl rfl<|Ar<|Ao rfl (.load ty27 (.t rfl))<|Ao rfl (.load ty23 (.t rfl)) ?_
       obtain ⟨parent,hv43,hm⟩:=Bs hm
       refine Ao rfl (.call C36 (r23_Parent_spec _ _ _ _ hv43) ⟨(.t rfl),(.t rfl),trivial⟩)<|Am rfl rfl<|Ao rfl (.extract30 (.t rfl))<|Ao rfl (.extract31 (.t rfl))<|Ao rfl (.extract32 (.t rfl))<|WL.opR rfl (OpR.alloc 19 ze27) fun b2=>WL.opU (OpR.storeB (b:=b2) 19 Z27 (Cellable.is tapi_Unit parent.1) rfl (.t rfl) (.t rfl)) fun _=>WL.sealed (t:=tapi_Unit) (u:=parent.1) 19 19 rfl rfl<|Ag rfl rfl<|Ag rfl rfl<|An<|W.seq<|Aw<|Ao rfl (.assign .i64)<|An<|W.block ?_
       obtain ⟨s44,hs45,hk46⟩:=Bs hm
       clear hm
       refine W.loop (fun m (s:Int)=>M.r41_On_loop2 u c one get1 parent m s=some s44) (fun s=>[(22,(I6.is s)),(4,(tapi_Unit.ptr u)),(6,(tapi_Cite.ptr c)),(15,(tapi_Id.ptr one.1)),(17,(tapi_Unit.ptr get1.1)),(19,(tapi_Unit.ptr parent.1)),(21,(I6.is parent.2.2))]) (fun s=>[]) _ (0:Int) hs45 ⟨.q rfl,.q rfl,.q rfl,.q rfl,.q rfl,.q rfl,.q rfl,trivial⟩ trivial ?_
       rintro n47 i1 hm
       try dsimp only at hm
       change W _ _ _ _ _ _ _ [(22,(I6.is i1)),(4,(tapi_Unit.ptr u)),(6,(tapi_Cite.ptr c)),(15,(tapi_Id.ptr one.1)),(17,(tapi_Unit.ptr get1.1)),(19,(tapi_Unit.ptr parent.1)),(21,(I6.is parent.2.2))] []
       cases n47 with
       | zero=>rw [M.r41_On_loop2.eq_1] at hm;cases hm
       | succ n47=>
        rw [M.r41_On_loop2.eq_2] at hm
        refine W.seq ?_
        obtain ⟨s48,hs49,hk50⟩:=Bs hm
        clear hm
        refine W.join (fun s:Bool=>s=s48) (fun s=>[(131,(tB.is s)),(4,(tapi_Unit.ptr u)),(6,(tapi_Cite.ptr c)),(15,(tapi_Id.ptr one.1)),(17,(tapi_Unit.ptr get1.1)),(19,(tapi_Unit.ptr parent.1)),(21,(I6.is parent.2.2)),(22,(I6.is i1))]) (fun s=>[]) ?_ ?_
        ·rintro v9 hj70
         try dsimp only at hj70
         subst hj70
         have hm:=hk50
         clear hk50
         try dsimp only at hm
         change W _ _ _ _ _ _ _ [(131,(tB.is v9)),(4,(tapi_Unit.ptr u)),(6,(tapi_Cite.ptr c)),(15,(tapi_Id.ptr one.1)),(17,(tapi_Unit.ptr get1.1)),(19,(tapi_Unit.ptr parent.1)),(21,(I6.is parent.2.2)),(22,(I6.is i1))] []
         refine W.cB hm (.t rfl) (fun hp54 hm=>?_) (fun hp54 hm=>?_)
         ·refine W.skip<|Aq<|W.seq<|W.block<|W.seq ?_
          obtain ⟨v10,hv55,hm⟩:=Bs hm
          rcases iteD hm with ⟨hp57,hb56,hm⟩ | ⟨hp57,hb56,hm⟩
          ·obtain ⟨v11,hv58,hm⟩:=Bs hm
           refine W.draw [.c _,.c _,.c _,.c _,.c _,.c _,.c _,.c _,.c _,.c _,.c _,.c _,.c _,.c _,.c _,.c _,.c _,.c _,.c _,.c _] [([],[19]),([0],[]),([],[22]),([1,2],[]),([3],[]),([4],[]),([],[17]),([6],[]),([5,7],[]),([8],[]),([9],[19]),([9,10],[]),([9],[22]),([9,11,12],[]),([9,13],[]),([9,14],[]),([9],[6]),([9,16],[]),([9,15,17],[]),([9,18],[])] Mx rfl rfl rfl rfl ⟨Dn (.fieldAddr U27 rfl J25 fapi_Unit_5 (.t rfl)),Dn (.load ty25 (.t rfl)),Dn (.move (.t rfl)),Dn (.idx hv55 U25 Z27 (.t rfl) (.t rfl)),Dn (.fieldAddr U27 rfl J3 fapi_Unit_1 (.t rfl)),Dn (.load ty3 (.t rfl)),Dn (.fieldAddr U27 rfl J3 fapi_Unit_1 (.t rfl)),Dn (.load ty3 (.t rfl)),Dn (.eqI (.t rfl) (.t rfl)),Dn (.move (.t rfl)),Dr rfl hb56 (.fieldAddr U27 rfl J25 fapi_Unit_5 (.t rfl)),Dr rfl hb56 (.load ty25 (.t rfl)),Dr rfl hb56 (.move (.t rfl)),Dr rfl hb56 (.idx hv58 U25 Z27 (.t rfl) (.t rfl)),Dr rfl hb56 (.fieldAddr U27 rfl J9 fapi_Unit_2 (.t rfl)),Dr rfl hb56 (.load ty9 (.t rfl)),Dr rfl hb56 (.fieldAddr U52 rfl J9 fapi_Cite_2 (.t rfl)),Dr rfl hb56 (.load ty9 (.t rfl)),Dr rfl hb56 (.eqS (.t rfl) (.t rfl)),Dn (.pickT (.t rfl) hb56 (.t rfl)),trivial⟩<|Aq<|W.cB hm (.t rfl) (fun hp60 hm=>?_) (fun hp60 hm=>?_)
           ·refine W.seq<|Aw<|Am rfl rfl<|Am rfl rfl<|Ao rfl (.ltI (.t rfl) (.t rfl))<|An<|W.cD hm (.t rfl) (fun hp62 hm=>?_) (fun hp62 hm=>?_)
            ·refine Aw<|Ao rfl (.assign (.nil (t:=tapi_Id)))<|Ao rfl (.assign .i64)<|WL.ns ?_
             have hr63:=Si hm
             clear hm
             subst hr63
             have hm:=hk46
             try dsimp only at hm
             cases hm
             exact W.ret2 () rfl rfl (.t rfl) (.t rfl) trivial
            ·refine W.skip<|Aq<|W.seq ?_
             obtain ⟨v12,hv64,hm⟩:=Bs hm
             obtain ⟨betwee,hv65,hm⟩:=Bs hm
             refine W.draw [.c _,.c _,.c _,.c _,.c _,.c _,.c _,.c _,.c _,.c _,.c _] [([],[4]),([],[15]),([],[19]),([2],[]),([],[22]),([3,4],[]),([5],[]),([6],[]),([0,1,7],[]),([8],[]),([],[])] Mx rfl rfl rfl rfl ⟨Dn (.load ty27 (.t rfl)),Dn (.load ty23 (.t rfl)),Dn (.fieldAddr U27 rfl J25 fapi_Unit_5 (.t rfl)),Dn (.load ty25 (.t rfl)),Dn (.move (.t rfl)),Dn (.idx hv64 U25 Z27 (.t rfl) (.t rfl)),Dn (.fieldAddr U27 rfl J23 fapi_Unit_0 (.t rfl)),Dn (.load ty23 (.t rfl)),Dn (.call C37 (r41_Between_spec _ _ _ _ _ hv65) ⟨(.t rfl),(.t rfl),(.t rfl),trivial⟩),Dn (.assign (.t rfl)),Dn (.assign .i64),trivial⟩<|WN.seq ?_
             have hr66:=Si hm
             clear hm
             subst hr66
             have hm:=hk46
             try dsimp only at hm
             cases hm
             exact W.ret2 () rfl rfl (.t rfl) (.t rfl) trivial
           ·refine W.skip<|WN.block<|Aq<|W.region<|WL.mv rfl rfl ?_
            obtain ⟨v13,hv67,hm⟩:=Bs hm
            exact Ao rfl (.addC hv67 (.t rfl) .i64)<|Ag rfl rfl<|WL.nil<|WN.again n47 v13 (Nat.lt_succ_self n47) hm ⟨.q rfl,.q rfl,.q rfl,.q rfl,.q rfl,.q rfl,.q rfl,trivial⟩ trivial
          ·refine W.draw [.c _,.c _,.c _,.c _,.c _,.c _,.c _,.c _,.c _,.c _,.c _,.c _,.c _,.c _,.c _,.c _,.c _,.c _,.c _,.c _] [([],[19]),([0],[]),([],[22]),([1,2],[]),([3],[]),([4],[]),([],[17]),([6],[]),([5,7],[]),([8],[]),([9],[19]),([9,10],[]),([9],[22]),([9,11,12],[]),([9,13],[]),([9,14],[]),([9],[6]),([9,16],[]),([9,15,17],[]),([9,18],[])] Mx rfl rfl rfl rfl ⟨Dn (.fieldAddr U27 rfl J25 fapi_Unit_5 (.t rfl)),Dn (.load ty25 (.t rfl)),Dn (.move (.t rfl)),Dn (.idx hv55 U25 Z27 (.t rfl) (.t rfl)),Dn (.fieldAddr U27 rfl J3 fapi_Unit_1 (.t rfl)),Dn (.load ty3 (.t rfl)),Dn (.fieldAddr U27 rfl J3 fapi_Unit_1 (.t rfl)),Dn (.load ty3 (.t rfl)),Dn (.eqI (.t rfl) (.t rfl)),Dn (.move (.t rfl)),Dp rfl hb56,Dp rfl hb56,Dp rfl hb56,Dp rfl hb56,Dp rfl hb56,Dp rfl hb56,Dp rfl hb56,Dp rfl hb56,Dp rfl hb56,Dn (.pickF (.t rfl) hb56 .bool),trivial⟩<|Aq<|W.condF (.t rfl)<|W.skip<|WN.block<|Aq<|W.region<|WL.mv rfl rfl ?_
           obtain ⟨v14,hv68,hm⟩:=Bs hm
           exact Ao rfl (.addC hv68 (.t rfl) .i64)<|Ag rfl rfl<|WL.nil<|WN.again n47 v14 (Nat.lt_succ_self n47) hm ⟨.q rfl,.q rfl,.q rfl,.q rfl,.q rfl,.q rfl,.q rfl,trivial⟩ trivial
         ·refine W.exit rfl ?_
          have hr69:=Si hm
          clear hm
          subst hr69
          have hm:=hk46
          try dsimp only at hm
          refine Aq<|Aw<|Ao rfl (.assign (.nil (t:=tapi_Id)))<|Ao rfl (.assign .i64)<|WL.ns ?_
          cases hm
          exact W.ret2 () rfl rfl (.t rfl) (.t rfl) trivial
        ·have hm:=hs49
         clear hs49
         refine W.region<|Am rfl rfl<|Ao rfl (.geI (.t rfl) .i64)<|WL.mv rfl rfl ?_
         rcases iteD hm with ⟨hp52,hb51,hm⟩ | ⟨hp52,hb51,hm⟩
         ·exact Ax rfl hb51 (.move (.t rfl))<|Ax rfl hb51 (.fieldAddr U27 rfl J25 fapi_Unit_5 (.t rfl))<|Ax rfl hb51 (.load ty25 (.t rfl))<|Ax rfl hb51 (.lenL U25 (.t rfl))<|Ax rfl hb51 (.ltI (.t rfl) (.t rfl))<|Ao rfl (.pickT (.t rfl) hb51 (.t rfl))<|WL.nil<|WN.meet (decide (i1<(parent.1.Kids.length:Int))) (Si hm) ⟨.q rfl,.q rfl,.q rfl,.q rfl,.q rfl,.q rfl,.q rfl,.q rfl,trivial⟩ trivial
         ·exact Ap rfl hb51<|Ap rfl hb51<|Ap rfl hb51<|Ap rfl hb51<|Ap rfl hb51<|Ao rfl (.pickF (.t rfl) hb51 .bool)<|WL.nil<|WN.meet false (Si hm) ⟨.q rfl,.q rfl,.q rfl,.q rfl,.q rfl,.q rfl,.q rfl,.q rfl,trivial⟩ trivial
theorem r41_All_spec(n:Nat)(u:api_Unit)(at0_:api_Id)(l:List api_Word)(r:(List api_Meaning))(hm:M.r41_All n u at0_ l=some r):FSpec Tryz.prog 9 [(tapi_Unit.is u),(tapi_Id.is at0_),((tL tapi_Word).is l)] ((tL tapi_Meaning).is r):=by
 unfold M.r41_All at hm
 refine FSpec.of Tryz.func9 rfl rfl rfl fun g0=>Aw<|Ao rfl (.box (.t rfl))<|Ao rfl (.box (.t rfl))<|Ao rfl (.assign (.nil (t:=tapi_Meaning)))<|Ar<|WL.opR rfl (OpR.buildSlice (n:=0) (ys:=[]) (z:=zapi_Meaning) (xs:=([]:List api_Meaning)) 13 U35 el42 ze42 trivial (by simp) (by decide) rfl) fun k=>Ag rfl rfl<|Ar<|Ao rfl (.buildSlice (n:=0) (ys:=[]) (z:=zapi_Id) (xs:=([]:List api_Id)) U40 el23 ze23 trivial (by simp) (by decide) rfl)<|Ag rfl rfl<|Ar<|WL.mv rfl rfl ?_
 obtain ⟨texts,hv1,hm⟩:=Bs hm
 refine Ao rfl (.call C19 (r06_Texts_spec _ _ _ hv1) ⟨(.t rfl),trivial⟩) ?_
 obtain ⟨scan,hv2,hm⟩:=Bs hm
 refine Ao rfl (.call C18 (r20_Scan_spec _ _ _ hv2) ⟨(.t rfl),trivial⟩)<|Ag rfl rfl<|An<|W.seq<|Aw<|Ao rfl (.assign .i64)<|An<|W.block ?_
 obtain ⟨s3,hs4,hk5⟩:=Bs hm
 clear hm
 refine W.loop (fun m (s:((List api_Meaning)×(List api_Id)×Int)×Tok)=>M.r41_All_loop1 u at0_ scan m s.1.1 s.1.2.1 s.1.2.2=some s3) (fun s=>[(7,(tO tapi_Meaning s.2 s.1.1)),(8,((tL tapi_Id).is s.1.2.1)),(10,(I6.is s.1.2.2)),(3,(tapi_Unit.ptr u)),(4,(tapi_Id.ptr at0_)),(9,((tL tapi_Cite).is scan))]) (fun s=>[(13,Dec.Own tapi_Meaning 42 s.2 s.1.1.length)]) _ ((([]:List api_Meaning),([]:List api_Id),(0:Int)),k) hs4 ⟨.q rfl,.q rfl,.q rfl,.q rfl,.q rfl,.q rfl,trivial⟩ ⟨rfl,rfl,trivial⟩ ?_
 rintro n6 ⟨⟨out,said,i⟩,k1⟩ hm
 try dsimp only at hm
 change W _ _ _ _ _ _ _ [(7,(tO tapi_Meaning k1 out)),(8,((tL tapi_Id).is said)),(10,(I6.is i)),(3,(tapi_Unit.ptr u)),(4,(tapi_Id.ptr at0_)),(9,((tL tapi_Cite).is scan))] [(13,Dec.Own tapi_Meaning 42 k1 out.length)]
 cases n6 with
 | zero=>rw [M.r41_All_loop1.eq_1] at hm;cases hm
 | succ n6=>
  rw [M.r41_All_loop1.eq_2] at hm
  refine W.seq<|Aw<|Am rfl rfl<|Am rfl rfl<|Ao rfl (.lenL U56 (.t rfl))<|Ao rfl (.ltI (.t rfl) (.t rfl))<|An<|W.cD hm (.t rfl) (fun hp8 hm=>?_) (fun hp8 hm=>?_)
  ·refine W.skip<|Aq<|W.seq<|W.block<|W.seq ?_
   obtain ⟨v,hv9,hm⟩:=Bs hm
   obtain ⟨on,hv10,hm⟩:=Bs hm
   refine W.weakR (res':=[(13,Dec.Own tapi_Meaning 42 k1 out.length)]) ⟨rfl,rfl,trivial⟩<|W.drawM [.c (tapi_Unit.is u),.c (tapi_Id.is at0_),.c ((tL tapi_Cite).is scan),.c (I6.is i),.c (tapi_Cite.ptr v),.c (tapi_Cite.is v),.c ((tL tapi_Id).is said),.c (Asn.tuple2 ((tL tapi_Id).is on.1) (I6.is on.2)),.c (Asn.tuple2 ((tL tapi_Id).is on.1) (I6.is on.2)),.c ((tL tapi_Id).is on.1),.c (I6.is on.2),.c ((tL tapi_Id).is on.1),.c (I6.is on.2)] [([],[3]),([],[4]),([],[9]),([],[10]),([2,3],[]),([4],[]),([],[8]),([0,1,5,6],[]),([7],[]),([8],[]),([8],[]),([9],[]),([10],[])] [] [[],[],[],[],[],[],[],[],[],[],[],[],[]] (fun m cv=>match m with  | _=>[(13,Dec.Own tapi_Meaning 42 k1 out.length)]) (fun _=>none) Mx rfl rfl rfl rfl rfl ⟨fun _ _ _ _=>rfl,⟨fun _ _ _ _=>rfl,⟨fun _ _ _ _=>rfl,⟨fun _ _ _ _=>rfl,⟨fun _ _ _ _=>rfl,⟨fun _ _ _ _=>rfl,⟨fun _ _ _ _=>rfl,⟨fun _ _ _ _=>rfl,⟨fun _ _ _ _=>rfl,⟨fun _ _ _ _=>rfl,⟨fun _ _ _ _=>rfl,⟨fun _ _ _ _=>rfl,⟨fun _ _ _ _=>rfl,trivial⟩⟩⟩⟩⟩⟩⟩⟩⟩⟩⟩⟩⟩ rfl ⟨mo fun cv=>Op1.load ty27 (.t rfl),⟨mo fun cv=>Op1.load ty23 (.t rfl),⟨mo fun cv=>Op1.move (.t rfl),⟨mo fun cv=>Op1.move (.t rfl),⟨mo fun cv=>Op1.idx hv9 U56 Z52 (.t rfl) (.t rfl),⟨mo fun cv=>Op1.load ty52 (.t rfl),⟨mo fun cv=>Op1.move (.t rfl),⟨mo fun cv=>Op1.call C20 (r41_On_spec _ _ _ _ _ _ hv10) ⟨(.t rfl),(.t rfl),(.t rfl),(.t rfl),trivial⟩,⟨mo fun cv=>Op1.move (.t rfl),⟨mo fun cv=>Op1.extract0 (.t rfl),⟨mo fun cv=>Op1.extract1 (.t rfl),⟨mo fun cv=>Op1.assign (.t rfl),⟨mo fun cv=>Op1.assign (.t rfl),trivial⟩⟩⟩⟩⟩⟩⟩⟩⟩⟩⟩⟩⟩ trivial fun cv=>Aq<|Aw<|Am rfl rfl<|Ao rfl (.load ty23 (.t rfl))<|Am rfl rfl<|Am rfl rfl<|Ao rfl (.build (s:=tapi_Meaning) (x:=(⟨at0_,i,on.1⟩:api_Meaning)) zapi_Meaning_f rfl U42 (zapi_Meaning_sz _ U42) ze42 ⟨_,tapi_Id,at0_,_,_,rfl,Z23,(.t rfl),sapi_Meaning_0,⟨_,I6,i,_,_,rfl,Z3,(.t rfl),sapi_Meaning_1,⟨_,(tL tapi_Id),on.1,_,_,rfl,Z40,(.t rfl),sapi_Meaning_2,rfl⟩⟩⟩)<|Ao rfl (.buildSlice (n:=1) (ys:=[(0,(⟨at0_,i,on.1⟩:api_Meaning))]) (z:=zapi_Meaning) (xs:=[(⟨at0_,i,on.1⟩:api_Meaning)]) U35 el42 ze42 ⟨rfl,(.t rfl),trivial⟩ (by simp) (by decide) rfl) ?_
   obtain ⟨out1,hv11,hm⟩:=Bs hm
   refine WL.opR rfl (OpR.appC (key:=13) hv11 U35 el42 (.t rfl) (.t rfl) rfl) fun k2=>Ag rfl rfl<|WL.nr1<|WL.opR rfl (OpR.buildSlice (n:=0) (ys:=[]) (z:=zapi_Id) (xs:=([]:List api_Id)) 42 U40 el23 ze23 trivial (by simp) (by decide) rfl) fun k3=>WL.mv rfl rfl ?_
   obtain ⟨out2,hv12,hm⟩:=Bs hm
   refine WL.opR rfl (OpR.appC (key:=42) hv12 U40 el23 (.t rfl) (.t rfl) rfl) fun k4=>WL.mv rfl rfl ?_
   obtain ⟨out3,hv13,hm⟩:=Bs hm
   exact WL.opR rfl (OpR.appC (key:=42) hv13 U40 el23 (.t rfl) (.t rfl) rfl) fun k5=>Ag rfl rfl<|WL.nil<|WN.block<|Aq<|W.region<|Am rfl rfl<|WL.lenL (s:=9) (.t rfl) fun hl14=>Ao rfl (.addI1 (.t rfl) .i64 hp8 hl14)<|Ag rfl rfl<|WL.nil<|WN.again n6 ((out1,out3,i+1),k2) (Nat.lt_succ_self n6) hm ⟨.q rfl,Ent.o rfl,.q rfl,.q rfl,.q rfl,.q rfl,trivial⟩ ⟨rfl,rfl,trivial⟩
  ·refine W.exit rfl ?_
   have hr15:=Si hm
   clear hm
   subst hr15
   have hm:=hk5
   try dsimp only at hm
   refine Aq<|Aw<|Am rfl rfl<|Ag rfl rfl<|WL.ns ?_
   cases hm
   exact W.ret1 () rfl (Opd.own (.t rfl)) trivial
theorem r06_Alike_spec(n:Nat)(a:List api_Id)(b:List api_Id)(r:Bool)(hm:M.r06_Alike n a b=some r):FSpec Tryz.prog 16 [((tL tapi_Id).is a),((tL tapi_Id).is b)] (tB.is r):=by
 unfold M.r06_Alike at hm
 refine FSpec.of Tryz.func16 rfl rfl rfl fun g0=>Aw<|Ao rfl (.assign .bool)<|An<|W.seq<|Aw<|Am rfl rfl<|Ao rfl (.lenL U40 (.t rfl))<|Am rfl rfl<|Ao rfl (.lenL U40 (.t rfl))<|Ao rfl (.neI (.t rfl) (.t rfl))<|An<|W.cD hm (.t rfl) (fun hp2 hm=>?_) (fun hp2 hm=>?_)
 ·refine Aw<|Ao rfl (.assign .bool)<|WL.ns ?_
  cases hm
  exact W.ret1 () rfl (.t rfl) trivial
 ·refine W.skip<|Aq<|W.seq<|Aw<|Ao rfl (.assign .i64)<|An<|W.block ?_
  obtain ⟨s3,hs4,hk5⟩:=Bs hm
  clear hm
  refine W.loop (fun m (s:Int)=>M.r06_Alike_loop1 a b m s=some s3) (fun s=>[(5,(I6.is s)),(0,((tL tapi_Id).is a)),(1,((tL tapi_Id).is b))]) (fun s=>[]) _ (0:Int) hs4 ⟨.q rfl,.q rfl,.q rfl,trivial⟩ trivial ?_
  rintro n6 i hm
  try dsimp only at hm
  change W _ _ _ _ _ _ _ [(5,(I6.is i)),(0,((tL tapi_Id).is a)),(1,((tL tapi_Id).is b))] []
  cases n6 with
  | zero=>rw [M.r06_Alike_loop1.eq_1] at hm;cases hm
  | succ n6=>
   rw [M.r06_Alike_loop1.eq_2] at hm
   refine W.seq<|Aw<|Am rfl rfl<|Am rfl rfl<|Ao rfl (.lenL U40 (.t rfl))<|Ao rfl (.ltI (.t rfl) (.t rfl))<|An<|W.cD hm (.t rfl) (fun hp8 hm=>?_) (fun hp8 hm=>?_)
   ·refine W.skip<|Aq<|W.seq<|W.block<|W.seq ?_
    obtain ⟨v,hv9,hm⟩:=Bs hm
    obtain ⟨v1,hv10,hm⟩:=Bs hm
    refine W.draw [.c _,.c _,.c _,.c _,.c _,.c _,.c _,.c _,.c _] [([],[0]),([],[5]),([0,1],[]),([2],[]),([],[1]),([],[5]),([4,5],[]),([6],[]),([3,7],[])] Mx rfl rfl rfl rfl ⟨Dn (.move (.t rfl)),Dn (.move (.t rfl)),Dn (.idx hv9 U40 Z23 (.t rfl) (.t rfl)),Dn (.load ty23 (.t rfl)),Dn (.move (.t rfl)),Dn (.move (.t rfl)),Dn (.idx hv10 U40 Z23 (.t rfl) (.t rfl)),Dn (.load ty23 (.t rfl)),Dn (.neSt (D:=2) rfl (by decide) eg23 eq23 (.t rfl) (.t rfl)),trivial⟩<|Aq<|W.cD hm (.t rfl) (fun hp12 hm=>?_) (fun hp12 hm=>?_)
    ·refine Aw<|Ao rfl (.assign .bool)<|WL.ns ?_
     have hr13:=Si hm
     clear hm
     subst hr13
     have hm:=hk5
     try dsimp only at hm
     cases hm
     exact W.ret1 () rfl (.t rfl) trivial
    ·exact W.skip<|WN.block<|Aq<|W.region<|Am rfl rfl<|WL.lenL (s:=0) (.t rfl) fun hl14=>Ao rfl (.addI1 (.t rfl) .i64 hp8 hl14)<|Ag rfl rfl<|WL.nil<|WN.again n6 (i+1) (Nat.lt_succ_self n6) hm ⟨.q rfl,.q rfl,.q rfl,trivial⟩ trivial
   ·refine W.exit rfl ?_
    have hr15:=Si hm
    clear hm
    subst hr15
    have hm:=hk5
    try dsimp only at hm
    refine Aq<|Aw<|Ao rfl (.assign .bool)<|WL.ns ?_
    cases hm
    exact W.ret1 () rfl (.t rfl) trivial
theorem r41_Same_spec(n:Nat)(a:List api_Meaning)(b:List api_Meaning)(r:Bool)(hm:M.r41_Same n a b=some r):FSpec Tryz.prog 7 [((tL tapi_Meaning).is a),((tL tapi_Meaning).is b)] (tB.is r):=by
 unfold M.r41_Same at hm
 refine FSpec.of Tryz.func7 rfl rfl rfl fun g0=>Aw<|Ao rfl (.assign .bool)<|An<|W.seq<|Aw<|Am rfl rfl<|Ao rfl (.lenL U35 (.t rfl))<|Am rfl rfl<|Ao rfl (.lenL U35 (.t rfl))<|Ao rfl (.neI (.t rfl) (.t rfl))<|An<|W.cD hm (.t rfl) (fun hp2 hm=>?_) (fun hp2 hm=>?_)
 ·refine Aw<|Ao rfl (.assign .bool)<|WL.ns ?_
  cases hm
  exact W.ret1 () rfl (.t rfl) trivial
 ·refine W.skip<|Aq<|W.seq<|Aw<|Ao rfl (.assign .i64)<|An<|W.block ?_
  obtain ⟨s3,hs4,hk5⟩:=Bs hm
  clear hm
  refine W.loop (fun m (s:Int)=>M.r41_Same_loop1 a b m s=some s3) (fun s=>[(5,(I6.is s)),(0,((tL tapi_Meaning).is a)),(1,((tL tapi_Meaning).is b))]) (fun s=>[]) _ (0:Int) hs4 ⟨.q rfl,.q rfl,.q rfl,trivial⟩ trivial ?_
  rintro n6 i hm
  try dsimp only at hm
  change W _ _ _ _ _ _ _ [(5,(I6.is i)),(0,((tL tapi_Meaning).is a)),(1,((tL tapi_Meaning).is b))] []
  cases n6 with
  | zero=>rw [M.r41_Same_loop1.eq_1] at hm;cases hm
  | succ n6=>
   rw [M.r41_Same_loop1.eq_2] at hm
   refine W.seq<|Aw<|Am rfl rfl<|Am rfl rfl<|Ao rfl (.lenL U35 (.t rfl))<|Ao rfl (.ltI (.t rfl) (.t rfl))<|An<|W.cD hm (.t rfl) (fun hp8 hm=>?_) (fun hp8 hm=>?_)
   ·refine W.skip<|Aq<|W.seq<|W.block<|W.seq ?_
    obtain ⟨v,hv9,hm⟩:=Bs hm
    obtain ⟨v1,hv10,hm⟩:=Bs hm
    rcases iteD hm with ⟨hp12,hb11,hm⟩ | ⟨hp12,hb11,hm⟩
    ·refine W.draw [.c ((tL tapi_Meaning).is a),.c (I6.is i),.c (tapi_Meaning.ptr v),.c (tapi_Id.ptr v.At),.c (tapi_Id.is v.At),.c ((tL tapi_Meaning).is b),.c (I6.is i),.c (tapi_Meaning.ptr v1),.c (tapi_Id.ptr v1.At),.c (tapi_Id.is v1.At),.c (tB.is (decide (v.At≠v1.At))),.c (tB.is (decide (v.At≠v1.At))),.c Un,.c Un,.c Un,.c Un,.c Un,.c Un,.c Un,.c Un,.c Un,.c Un,.c Un,.c (tB.is true),.c (tB.is true),.c Un,.c Un,.c Un,.c Un,.c Un,.c Un,.c Un,.c Un,.c Un,.c Un,.c Un,.c Un,.c (tB.is true)] [([],[0]),([],[5]),([0,1],[]),([2],[]),([3],[]),([],[1]),([],[5]),([5,6],[]),([7],[]),([8],[]),([4,9],[]),([10],[]),([11],[0]),([11],[5]),([11,12,13],[]),([11,14],[]),([11,15],[]),([11],[1]),([11],[5]),([11,17,18],[]),([11,19],[]),([11,20],[]),([11,16,21],[]),([11,22],[]),([23],[]),([24],[0]),([24],[5]),([24,25,26],[]),([24,27],[]),([24,28],[]),([24],[1]),([24],[5]),([24,30,31],[]),([24,32],[]),([24,33],[]),([24,29,34],[]),([24,35],[]),([24,36],[])] Mx rfl rfl rfl rfl (by exact ⟨Dn (.move (.t rfl)),Dn (.move (.t rfl)),Dn (.idx hv9 U35 Z42 (.t rfl) (.t rfl)),Dn (.fieldAddr U42 rfl J23 fapi_Meaning_0 (.t rfl)),Dn (.load ty23 (.t rfl)),Dn (.move (.t rfl)),Dn (.move (.t rfl)),Dn (.idx hv10 U35 Z42 (.t rfl) (.t rfl)),Dn (.fieldAddr U42 rfl J23 fapi_Meaning_0 (.t rfl)),Dn (.load ty23 (.t rfl)),Dn (.neSt (D:=2) rfl (by decide) eg23 eq23 (.t rfl) (.t rfl)),Dn (.move (.t rfl)),Dp rfl hb11,Dp rfl hb11,Dp rfl hb11,Dp rfl hb11,Dp rfl hb11,Dp rfl hb11,Dp rfl hb11,Dp rfl hb11,Dp rfl hb11,Dp rfl hb11,Dp rfl hb11,Dn (.pickT (.t rfl) hb11 .bool),Dn (.move (.t rfl)),Dp rfl rfl,Dp rfl rfl,Dp rfl rfl,Dp rfl rfl,Dp rfl rfl,Dp rfl rfl,Dp rfl rfl,Dp rfl rfl,Dp rfl rfl,Dp rfl rfl,Dp rfl rfl,Dp rfl rfl,Dn (.pickT (.t rfl) rfl .bool),trivial⟩)<|Aq<|W.condT (.t rfl)<|Aw<|Ao rfl (.assign .bool)<|WL.ns ?_
     have hr13:=Si hm
     clear hm
     subst hr13
     have hm:=hk5
     try dsimp only at hm
     cases hm
     exact W.ret1 () rfl (.t rfl) trivial
    ·obtain ⟨v2,hv14,hm⟩:=Bs hm
     obtain ⟨v3,hv15,hm⟩:=Bs hm
     rcases iteD hm with ⟨hp17,hb16,hm⟩ | ⟨hp17,hb16,hm⟩
     ·refine W.draw [.c ((tL tapi_Meaning).is a),.c (I6.is i),.c (tapi_Meaning.ptr v),.c (tapi_Id.ptr v.At),.c (tapi_Id.is v.At),.c ((tL tapi_Meaning).is b),.c (I6.is i),.c (tapi_Meaning.ptr v1),.c (tapi_Id.ptr v1.At),.c (tapi_Id.is v1.At),.c (tB.is (decide (v.At≠v1.At))),.c (tB.is (decide (v.At≠v1.At))),.c ((tL tapi_Meaning).is a),.c (I6.is i),.c (tapi_Meaning.ptr v2),.c (I6.ptr v2.N),.c (I6.is v2.N),.c ((tL tapi_Meaning).is b),.c (I6.is i),.c (tapi_Meaning.ptr v3),.c (I6.ptr v3.N),.c (I6.is v3.N),.c (tB.is (decide (v2.N≠v3.N))),.c (tB.is (decide (v2.N≠v3.N))),.c (tB.is (decide (v2.N≠v3.N))),.c Un,.c Un,.c Un,.c Un,.c Un,.c Un,.c Un,.c Un,.c Un,.c Un,.c Un,.c Un,.c (tB.is true)] [([],[0]),([],[5]),([0,1],[]),([2],[]),([3],[]),([],[1]),([],[5]),([5,6],[]),([7],[]),([8],[]),([4,9],[]),([10],[]),([11],[0]),([11],[5]),([11,12,13],[]),([11,14],[]),([11,15],[]),([11],[1]),([11],[5]),([11,17,18],[]),([11,19],[]),([11,20],[]),([11,16,21],[]),([11,22],[]),([23],[]),([24],[0]),([24],[5]),([24,25,26],[]),([24,27],[]),([24,28],[]),([24],[1]),([24],[5]),([24,30,31],[]),([24,32],[]),([24,33],[]),([24,29,34],[]),([24,35],[]),([24,36],[])] Mx rfl rfl rfl rfl (by exact ⟨Dn (.move (.t rfl)),Dn (.move (.t rfl)),Dn (.idx hv9 U35 Z42 (.t rfl) (.t rfl)),Dn (.fieldAddr U42 rfl J23 fapi_Meaning_0 (.t rfl)),Dn (.load ty23 (.t rfl)),Dn (.move (.t rfl)),Dn (.move (.t rfl)),Dn (.idx hv10 U35 Z42 (.t rfl) (.t rfl)),Dn (.fieldAddr U42 rfl J23 fapi_Meaning_0 (.t rfl)),Dn (.load ty23 (.t rfl)),Dn (.neSt (D:=2) rfl (by decide) eg23 eq23 (.t rfl) (.t rfl)),Dn (.move (.t rfl)),Dr rfl hb11 (.move (.t rfl)),Dr rfl hb11 (.move (.t rfl)),Dr rfl hb11 (.idx hv14 U35 Z42 (.t rfl) (.t rfl)),Dr rfl hb11 (.fieldAddr U42 rfl J3 fapi_Meaning_1 (.t rfl)),Dr rfl hb11 (.load ty3 (.t rfl)),Dr rfl hb11 (.move (.t rfl)),Dr rfl hb11 (.move (.t rfl)),Dr rfl hb11 (.idx hv15 U35 Z42 (.t rfl) (.t rfl)),Dr rfl hb11 (.fieldAddr U42 rfl J3 fapi_Meaning_1 (.t rfl)),Dr rfl hb11 (.load ty3 (.t rfl)),Dr rfl hb11 (.neI (.t rfl) (.t rfl)),Dn (.pickF (.t rfl) hb11 (.t rfl)),Dn (.move (.t rfl)),Dp rfl hb16,Dp rfl hb16,Dp rfl hb16,Dp rfl hb16,Dp rfl hb16,Dp rfl hb16,Dp rfl hb16,Dp rfl hb16,Dp rfl hb16,Dp rfl hb16,Dp rfl hb16,Dp rfl hb16,Dn (.pickT (.t rfl) hb16 .bool),trivial⟩)<|Aq<|W.condT (.t rfl)<|Aw<|Ao rfl (.assign .bool)<|WL.ns ?_
      have hr18:=Si hm
      clear hm
      subst hr18
      have hm:=hk5
      try dsimp only at hm
      cases hm
      exact W.ret1 () rfl (.t rfl) trivial
     ·obtain ⟨v4,hv19,hm⟩:=Bs hm
      obtain ⟨v5,hv20,hm⟩:=Bs hm
      obtain ⟨alike,hv21,hm⟩:=Bs hm
      refine W.draw [.c ((tL tapi_Meaning).is a),.c (I6.is i),.c (tapi_Meaning.ptr v),.c (tapi_Id.ptr v.At),.c (tapi_Id.is v.At),.c ((tL tapi_Meaning).is b),.c (I6.is i),.c (tapi_Meaning.ptr v1),.c (tapi_Id.ptr v1.At),.c (tapi_Id.is v1.At),.c (tB.is (decide (v.At≠v1.At))),.c (tB.is (decide (v.At≠v1.At))),.c ((tL tapi_Meaning).is a),.c (I6.is i),.c (tapi_Meaning.ptr v2),.c (I6.ptr v2.N),.c (I6.is v2.N),.c ((tL tapi_Meaning).is b),.c (I6.is i),.c (tapi_Meaning.ptr v3),.c (I6.ptr v3.N),.c (I6.is v3.N),.c (tB.is (decide (v2.N≠v3.N))),.c (tB.is (decide (v2.N≠v3.N))),.c (tB.is (decide (v2.N≠v3.N))),.c ((tL tapi_Meaning).is a),.c (I6.is i),.c (tapi_Meaning.ptr v4),.c ((tL tapi_Id).ptr v4.To),.c ((tL tapi_Id).is v4.To),.c ((tL tapi_Meaning).is b),.c (I6.is i),.c (tapi_Meaning.ptr v5),.c ((tL tapi_Id).ptr v5.To),.c ((tL tapi_Id).is v5.To),.c (tB.is alike),.c (tB.is (!alike)),.c (tB.is (!alike))] [([],[0]),([],[5]),([0,1],[]),([2],[]),([3],[]),([],[1]),([],[5]),([5,6],[]),([7],[]),([8],[]),([4,9],[]),([10],[]),([11],[0]),([11],[5]),([11,12,13],[]),([11,14],[]),([11,15],[]),([11],[1]),([11],[5]),([11,17,18],[]),([11,19],[]),([11,20],[]),([11,16,21],[]),([11,22],[]),([23],[]),([24],[0]),([24],[5]),([24,25,26],[]),([24,27],[]),([24,28],[]),([24],[1]),([24],[5]),([24,30,31],[]),([24,32],[]),([24,33],[]),([24,29,34],[]),([24,35],[]),([24,36],[])] Mx rfl rfl rfl rfl (by exact ⟨Dn (.move (.t rfl)),Dn (.move (.t rfl)),Dn (.idx hv9 U35 Z42 (.t rfl) (.t rfl)),Dn (.fieldAddr U42 rfl J23 fapi_Meaning_0 (.t rfl)),Dn (.load ty23 (.t rfl)),Dn (.move (.t rfl)),Dn (.move (.t rfl)),Dn (.idx hv10 U35 Z42 (.t rfl) (.t rfl)),Dn (.fieldAddr U42 rfl J23 fapi_Meaning_0 (.t rfl)),Dn (.load ty23 (.t rfl)),Dn (.neSt (D:=2) rfl (by decide) eg23 eq23 (.t rfl) (.t rfl)),Dn (.move (.t rfl)),Dr rfl hb11 (.move (.t rfl)),Dr rfl hb11 (.move (.t rfl)),Dr rfl hb11 (.idx hv14 U35 Z42 (.t rfl) (.t rfl)),Dr rfl hb11 (.fieldAddr U42 rfl J3 fapi_Meaning_1 (.t rfl)),Dr rfl hb11 (.load ty3 (.t rfl)),Dr rfl hb11 (.move (.t rfl)),Dr rfl hb11 (.move (.t rfl)),Dr rfl hb11 (.idx hv15 U35 Z42 (.t rfl) (.t rfl)),Dr rfl hb11 (.fieldAddr U42 rfl J3 fapi_Meaning_1 (.t rfl)),Dr rfl hb11 (.load ty3 (.t rfl)),Dr rfl hb11 (.neI (.t rfl) (.t rfl)),Dn (.pickF (.t rfl) hb11 (.t rfl)),Dn (.move (.t rfl)),Dr rfl hb16 (.move (.t rfl)),Dr rfl hb16 (.move (.t rfl)),Dr rfl hb16 (.idx hv19 U35 Z42 (.t rfl) (.t rfl)),Dr rfl hb16 (.fieldAddr U42 rfl J40 fapi_Meaning_2 (.t rfl)),Dr rfl hb16 (.load ty40 (.t rfl)),Dr rfl hb16 (.move (.t rfl)),Dr rfl hb16 (.move (.t rfl)),Dr rfl hb16 (.idx hv20 U35 Z42 (.t rfl) (.t rfl)),Dr rfl hb16 (.fieldAddr U42 rfl J40 fapi_Meaning_2 (.t rfl)),Dr rfl hb16 (.load ty40 (.t rfl)),Dr rfl hb16 (.call C16 (r06_Alike_spec _ _ _ _ hv21) ⟨(.t rfl),(.t rfl),trivial⟩),Dr rfl hb16 (.notB (.t rfl)),Dn (.pickF (.t rfl) hb16 (.t rfl)),trivial⟩)<|Aq<|W.cR hm (.t rfl) (fun hp23 hm=>?_) (fun hp23 hm=>?_)
      ·refine Aw<|Ao rfl (.assign .bool)<|WL.ns ?_
       have hr24:=Si hm
       clear hm
       subst hr24
       have hm:=hk5
       try dsimp only at hm
       cases hm
       exact W.ret1 () rfl (.t rfl) trivial
      ·exact W.skip<|WN.block<|Aq<|W.region<|Am rfl rfl<|WL.lenL (s:=0) (.t rfl) fun hl25=>Ao rfl (.addI1 (.t rfl) .i64 hp8 hl25)<|Ag rfl rfl<|WL.nil<|WN.again n6 (i+1) (Nat.lt_succ_self n6) hm ⟨.q rfl,.q rfl,.q rfl,trivial⟩ trivial
   ·refine W.exit rfl ?_
    have hr26:=Si hm
    clear hm
    subst hr26
    have hm:=hk5
    try dsimp only at hm
    refine Aq<|Aw<|Ao rfl (.assign .bool)<|WL.ns ?_
    cases hm
    exact W.ret1 () rfl (.t rfl) trivial
theorem law41_ResolveWordList_spec(n:Nat)(u:api_Unit)(at0_:api_Id)(w:List api_Word)(r:Bool)(hm:M.law41_ResolveWordList n u at0_ w=some r):FSpec Tryz.prog 3 [(tapi_Unit.is u),(tapi_Id.is at0_),((tL tapi_Word).is w)] (tB.is r):=by
 unfold M.law41_ResolveWordList at hm
 refine FSpec.of Tryz.func3 rfl rfl rfl fun g0=>Aw<|Ao rfl (.box (.t rfl))<|Ao rfl (.box (.t rfl))<|Ao rfl (.assign .bool)<|An<|W.seq<|W.sr ?_
 obtain ⟨awake,hv1,hm⟩:=Bs hm
 refine Ao rfl (.call C5 (law41_awake_spec _ _ hv1) trivial)<|Ao rfl (.notB (.t rfl))<|An<|W.cR hm (.t rfl) (fun hp3 hm=>?_) (fun hp3 hm=>?_)
 ·refine Aw<|Ao rfl (.assign .bool)<|WL.ns ?_
  cases hm
  exact W.ret1 () rfl (.t rfl) trivial
 ·refine W.skip<|Aq<|W.seq ?_
  obtain ⟨s4,hs5,hk6⟩:=Bs hm
  clear hm
  refine W.join (fun s:Bool=>s=s4) (fun s=>[(17,(tB.is s)),(2,((tL tapi_Word).is w)),(3,(tapi_Unit.ptr u)),(4,(tapi_Id.ptr at0_))]) (fun s=>[]) ?_ ?_
  ·rintro v hj27
   try dsimp only at hj27
   subst hj27
   have hm:=hk6
   clear hk6
   try dsimp only at hm
   change W _ _ _ _ _ _ _ [(17,(tB.is v)),(2,((tL tapi_Word).is w)),(3,(tapi_Unit.ptr u)),(4,(tapi_Id.ptr at0_))] []
   refine W.cB hm (.t rfl) (fun hp11 hm=>?_) (fun hp11 hm=>?_)
   ·refine Aw<|Ao rfl (.assign .bool)<|WL.ns ?_
    cases hm
    exact W.ret1 () rfl (.t rfl) trivial
   ·refine W.skip<|Aq<|W.seq<|Aw<|Ao rfl (.assign .i64)<|An<|W.block ?_
    obtain ⟨s12,hs13,hk14⟩:=Bs hm
    clear hm
    refine W.loop (fun m (s:Int)=>M.law41_ResolveWordList_loop1 w m s=some s12) (fun s=>[(7,(I6.is s)),(2,((tL tapi_Word).is w)),(3,(tapi_Unit.ptr u)),(4,(tapi_Id.ptr at0_))]) (fun s=>[]) _ (0:Int) hs13 ⟨.q rfl,.q rfl,.q rfl,.q rfl,trivial⟩ trivial ?_
    rintro n15 i hm
    try dsimp only at hm
    change W _ _ _ _ _ _ _ [(7,(I6.is i)),(2,((tL tapi_Word).is w)),(3,(tapi_Unit.ptr u)),(4,(tapi_Id.ptr at0_))] []
    cases n15 with
    | zero=>rw [M.law41_ResolveWordList_loop1.eq_1] at hm;cases hm
    | succ n15=>
     rw [M.law41_ResolveWordList_loop1.eq_2] at hm
     refine W.seq<|Aw<|Am rfl rfl<|Am rfl rfl<|Ao rfl (.lenL U24 (.t rfl))<|Ao rfl (.ltI (.t rfl) (.t rfl))<|An<|W.cD hm (.t rfl) (fun hp17 hm=>?_) (fun hp17 hm=>?_)
     ·refine W.skip<|Aq<|W.seq<|W.block<|Aw<|Am rfl rfl<|WL.mv rfl rfl ?_
      obtain ⟨v1,hv18,hm⟩:=Bs hm
      refine Ao rfl (.idx hv18 U24 Z33 (.t rfl) (.t rfl))<|Ao rfl (.fieldAddr U33 rfl J9 fapi_Word_0 (.t rfl))<|Ao rfl (.load ty9 (.t rfl))<|Ao rfl (.lenS U9 (.t rfl))<|Ao rfl (.gtI (.t rfl) .i64)<|An<|W.cD hm (.t rfl) (fun hp20 hm=>?_) (fun hp20 hm=>?_)
      ·refine Aw<|Ao rfl (.assign .bool)<|WL.ns ?_
       have hr21:=Si hm
       clear hm
       subst hr21
       have hm:=hk14
       try dsimp only at hm
       cases hm
       exact W.ret1 () rfl (.t rfl) trivial
      ·exact W.skip<|WN.block<|Aq<|W.region<|Am rfl rfl<|WL.lenL (s:=2) (.t rfl) fun hl22=>Ao rfl (.addI1 (.t rfl) .i64 hp17 hl22)<|Ag rfl rfl<|WL.nil<|WN.again n15 (i+1) (Nat.lt_succ_self n15) hm ⟨.q rfl,.q rfl,.q rfl,.q rfl,trivial⟩ trivial
     ·refine W.exit rfl ?_
      have hr23:=Si hm
      clear hm
      subst hr23
      have hm:=hk14
      try dsimp only at hm
      refine Aq<|W.seq ?_
      obtain ⟨resolv,hv24,hm⟩:=Bs hm
      obtain ⟨all,hv25,hm⟩:=Bs hm
      obtain ⟨same,hv26,hm⟩:=Bs hm
      refine W.draw [.c _,.c _,.c _,.c _,.c _,.c _,.c _,.c _,.c _,.c _] [([],[3]),([],[4]),([],[2]),([0,1,2],[]),([],[3]),([],[4]),([],[2]),([4,5,6],[]),([3,7],[]),([8],[])] Mx rfl rfl rfl rfl ⟨Dn (.load ty27 (.t rfl)),Dn (.load ty23 (.t rfl)),Dn (.move (.t rfl)),Dn (.call C8 (resolve_ResolveWords_spec _ _ _ _ _ hv24) ⟨(.t rfl),(.t rfl),(.t rfl),trivial⟩),Dn (.load ty27 (.t rfl)),Dn (.load ty23 (.t rfl)),Dn (.move (.t rfl)),Dn (.call C9 (r41_All_spec _ _ _ _ _ hv25) ⟨(.t rfl),(.t rfl),(.t rfl),trivial⟩),Dn (.call C7 (r41_Same_spec _ _ _ _ hv26) ⟨(.t rfl),(.t rfl),trivial⟩),Dn (.assign (.t rfl)),trivial⟩<|WN.seq ?_
      cases hm
      exact W.ret1 () rfl (.t rfl) trivial
  ·have hm:=hs5
   clear hs5
   refine W.region<|Ao rfl (.load ty27 (.t rfl)) ?_
   obtain ⟨book,hv7,hm⟩:=Bs hm
   refine Ao rfl (.call C6 (law41_book_spec _ _ _ hv7) ⟨(.t rfl),trivial⟩)<|Ao rfl (.notB (.t rfl))<|WL.mv rfl rfl ?_
   rcases iteR hm with ⟨hp9,hb8,hm⟩ | ⟨hp9,hb8,hm⟩
   ·exact Ap rfl hb8<|Ap rfl hb8<|Ap rfl hb8<|Ao rfl (.pickT (.t rfl) hb8 .bool)<|WL.nil<|WN.meet true (Si hm) ⟨.q rfl,.q rfl,.q rfl,.q rfl,trivial⟩ trivial
   ·exact Ax rfl hb8 (.move (.t rfl))<|Ax rfl hb8 (.lenL U24 (.t rfl))<|Ax rfl hb8 (.gtI (.t rfl) .i64)<|Ao rfl (.pickF (.t rfl) hb8 (.t rfl))<|WL.nil<|WN.meet (decide ((60:Int)< (w.length:Int))) (Si hm) ⟨.q rfl,.q rfl,.q rfl,.q rfl,trivial⟩ trivial
theorem resolve_ResolveBook_1_spec:∀ (n:Nat) (x:api_Unit) (c:List api_Meaning) (c1:api_Unit) (b:Nat) (k:Tok) (b1:Nat) (r:List api_Meaning),M.resolve_ResolveBook_1 n x c c1=some r→FSpecR Tryz.prog 21 [(tapi_Unit.is x),(Bp b 0),(tapi_Unit.ptr c1),(Bp b1 0)] [(1,(Bx 1 false 35 (tO tapi_Meaning k c) b)),(1000001,Dec.Own tapi_Meaning 42 k c.length),(3,(Bx 1 false 61 (cloA 21 [(Bp b 0),(tapi_Unit.ptr c1),(Bp b1 0)]) b1))] (fun kx:Tok=>(Asn.eq (.tuple #[]))) (fun kx:Tok=>[(1,(Bx 1 false 35 (tO tapi_Meaning kx r) b)),(1000001,Dec.Own tapi_Meaning 42 kx r.length),(3,(Bx 1 false 61 (cloA 21 [(Bp b 0),(tapi_Unit.ptr c1),(Bp b1 0)]) b1))]):=by
 intro n
 induction n with
 | zero=>intro x c c1 b k b1 r hm;cases hm
 | succ n ih=>
  intro x c c1 b k b1 r hm
  rw [M.resolve_ResolveBook_1.eq_2] at hm
  refine FSpecR.of Tryz.func21 rfl rfl rfl fun g0=>Aw<|Ao rfl (.box (.t rfl))<|An<|W.seq ?_
  obtain ⟨resolv,hv1,hm⟩:=Bs hm
  obtain ⟨out,hv2,hm⟩:=Bs hm
  refine W.weakR (res':=[(1000001,Dec.Own tapi_Meaning 42 k c.length),(1,(Bx 1 false 35 (tO tapi_Meaning k c) b)),(3,(Bx 1 false 61 (cloA 21 [(Bp b 0),(tapi_Unit.ptr c1),(Bp b1 0)]) b1))]) ⟨rfl,rfl,⟨rfl,rfl,⟨rfl,rfl,trivial⟩⟩⟩<|W.drawM [.c (tO tapi_Meaning k c),.c (tapi_Unit.is c1),.c (tapi_Id.ptr x.Id),.c (tapi_Id.is x.Id),.c ((tL tapi_Word).ptr x.Words),.c ((tL tapi_Word).is x.Words),.c ((tL tapi_Meaning).is resolv),.f (fun cv=>(tO tapi_Meaning (cv 0) out)),.c Asn.any] [([],[1]),([],[2]),([],[4]),([2],[]),([],[4]),([4],[]),([1,3,5],[]),([0,6],[]),([7],[1])] [7,8] [[],[],[],[],[],[],[],[true],[]] (fun m cv=>match m with | 0=>[(1000001,Dec.Own tapi_Meaning 42 k c.length),(1,(Bx 1 false 35 (tO tapi_Meaning k c) b)),(3,(Bx 1 false 61 (cloA 21 [(Bp b 0),(tapi_Unit.ptr c1),(Bp b1 0)]) b1))] | 1=>[(1000001,Dec.Own tapi_Meaning 42 (cv 0) out.length),(1,(Bx 1 false 35 (tO tapi_Meaning k c) b)),(3,(Bx 1 false 61 (cloA 21 [(Bp b 0),(tapi_Unit.ptr c1),(Bp b1 0)]) b1))] | _=>[(1,(Bx 1 false 35 (tO tapi_Meaning (cv 0) out) b)),(1000001,Dec.Own tapi_Meaning 42 (cv 0) out.length),(3,(Bx 1 false 61 (cloA 21 [(Bp b 0),(tapi_Unit.ptr c1),(Bp b1 0)]) b1))]) (fun _=>none) Mx rfl rfl rfl rfl rfl ⟨fun _ _ _ _=>rfl,⟨fun _ _ _ _=>rfl,⟨fun _ _ _ _=>rfl,⟨fun _ _ _ _=>rfl,⟨fun _ _ _ _=>rfl,⟨fun _ _ _ _=>rfl,⟨fun _ _ _ _=>rfl,⟨fun m hm c t=>by simp only [DA.at,upd_dep (r:=[true]) (j:=0) rfl hm],⟨fun _ _ _ _=>rfl,trivial⟩⟩⟩⟩⟩⟩⟩⟩⟩ rfl ⟨.inr ⟨fun cv=>[(1,(Bx 1 false 35 (tO tapi_Meaning k c) b))],(AllUpTo.at ⟨⟨(fun _ _=>⟨rfl,rfl,trivial⟩),(fun hw=>absurd hw (by decide))⟩,(fun hw=>absurd hw (by decide))⟩),fun cv=>Op1.loadB 1 Y35 Z35 rfl (.t rfl)⟩,⟨mo fun cv=>Op1.load ty27 (.t rfl),⟨mo fun cv=>Op1.fieldAddr U27 rfl J23 fapi_Unit_0 (.t rfl),⟨mo fun cv=>Op1.load ty23 (.t rfl),⟨mo fun cv=>Op1.fieldAddr U27 rfl J24 fapi_Unit_4 (.t rfl),⟨mo fun cv=>Op1.load ty24 (.t rfl),⟨mo fun cv=>Op1.call C8 (resolve_ResolveWords_spec _ _ _ _ _ hv1) ⟨(.t rfl),(.t rfl),(.t rfl),trivial⟩,⟨.inl rfl,⟨.inl rfl,trivial⟩⟩⟩⟩⟩⟩⟩⟩⟩ ⟨⟨_,_,_,[1000001],(fun cv=>[(1000001,Dec.Own tapi_Meaning 42 (cv 0) out.length)]),rfl,rfl,rfl,rfl,fun _=>rfl,fun _ _=>rfl,fun cv=>OpR.appC (key:=1000001) hv2 U35 el42 (.t rfl) (.t rfl) rfl⟩,⟨⟨_,_,_,[1],(fun cv=>[(1,(Bx 1 false 35 (tO tapi_Meaning (cv 0) out) b))]),rfl,rfl,rfl,rfl,fun _=>rfl,fun _ _=>rfl,fun cv=>OpR.viaU (OpR.storeB (b:=b) 1 Z35 (Cellable.o tapi_Meaning (cv 0) out) rfl (.t rfl) (.t rfl))⟩,trivial⟩⟩ fun cv=>Aq<|Aw<|Ao rfl (.fieldAddr U27 rfl J25 fapi_Unit_5 (.t rfl))<|Ao rfl (.load ty25 (.t rfl))<|Ao rfl (.lenL U25 (.t rfl))<|Ao rfl (.move .i64)<|An<|W.block ?_
  obtain ⟨s3,hs4,hk5⟩:=Bs hm
  clear hm
  refine W.loop (fun m (s:Int×List api_Unit×List api_Unit×(((List api_Meaning))×Tok))=>m=s.2.2.1.length∧x.Kids=s.2.1++s.2.2.1∧s.1=(s.2.1.length:Int)∧M.resolve_ResolveBook_1_loop1 c1 (M.resolve_ResolveBook_1 n) s.2.2.1 s.2.2.2.1=some s3) (fun s=>[(18,(I6.is s.1)),(3,(Bp b1 0)),(16,((tL tapi_Unit).is x.Kids)),(17,(I6.is (x.Kids.length:Int)))]) (fun s=>[(1000001,Dec.Own tapi_Meaning 42 s.2.2.2.2 s.2.2.2.1.length),(1,(Bx 1 false 35 (tO tapi_Meaning s.2.2.2.2 s.2.2.2.1) b)),(3,(Bx 1 false 61 (cloA 21 [(Bp b 0),(tapi_Unit.ptr c1),(Bp b1 0)]) b1))]) x.Kids.length ((0:Int),[],x.Kids,(out,(cv 0))) ⟨rfl,rfl,rfl,hs4⟩ ⟨.q rfl,.q rfl,.q rfl,.q rfl,trivial⟩ ⟨rfl,rfl,⟨rfl,rfl,⟨rfl,rfl,trivial⟩⟩⟩ ?_
  rintro m ⟨i,pre,rest1,⟨v,k1⟩⟩ ⟨hn9,hxs6,hi7,hm⟩
  try dsimp only at hn9 hxs6 hi7 hm
  change W _ _ _ _ _ _ _ [(18,(I6.is i)),(3,(Bp b1 0)),(16,((tL tapi_Unit).is x.Kids)),(17,(I6.is (x.Kids.length:Int)))] [(1000001,Dec.Own tapi_Meaning 42 k1 v.length),(1,(Bx 1 false 35 (tO tapi_Meaning k1 v) b)),(3,(Bx 1 false 61 (cloA 21 [(Bp b 0),(tapi_Unit.ptr c1),(Bp b1 0)]) b1))]
  refine W.lenL (s:=16) (.t rfl) fun hlen8=>Aw<|Ao rfl (.ltI (.t rfl) (.t rfl))<|An<|W.seq<|W.cond (.t rfl) (fun hc11=>?_) (fun hc11=>?_)
  ·have hp12:=of_decide_eq_true hc11
   obtain ⟨e,es,hrest14⟩:=range_more hxs6 hi7 hp12
   subst hrest14
   rw [M.resolve_ResolveBook_1_loop1.eq_2] at hm
   refine W.skip<|Aq<|W.seq<|W.block<|Aw<|Ao rfl (.idxPre hxs6 hi7 U25 Z27 (.t rfl) (.t rfl))<|Ao rfl (.load ty27 (.t rfl))<|WL.opR rfl (OpR.alloc 6 ze27) fun b2=>WL.opU (OpR.storeB (b:=b2) 6 Z27 (Cellable.is tapi_Unit e) rfl (.t rfl) (.t rfl)) fun _=>WL.sealed (t:=tapi_Unit) (u:=e) 6 6 rfl rfl<|WL.nr1<|Ao rfl (.loadB 3 Y61 Z61 rfl (.t rfl))<|Ao rfl (.load ty27 (.t rfl)) ?_
   obtain ⟨w,hv15,hm⟩:=Bs hm
   exact WL.weakR (res':=[(1,(Bx 1 false 35 (tO tapi_Meaning k1 v) b)),(1000001,Dec.Own tapi_Meaning 42 k1 v.length),(3,(Bx 1 false 61 (cloA 21 [(Bp b 0),(tapi_Unit.ptr c1),(Bp b1 0)]) b1))]) ⟨rfl,rfl,⟨rfl,rfl,⟨rfl,rfl,trivial⟩⟩⟩<|WL.opR rfl (OpR.callClo (us:=[1,1000001,3]) (A:=fun kx:Tok=>(Asn.eq (.tuple #[]))) (As:=[tapi_Unit.is e]) C21 (.t rfl) (FSpecR.keys (rin':=[(1,(Bx 1 false 35 (tO tapi_Meaning k1 v) b)),(1000001,Dec.Own tapi_Meaning 42 k1 v.length),(3,(Bx 1 false 61 (cloA 21 [(Bp b 0),(tapi_Unit.ptr c1),(Bp b1 0)]) b1))]) (out':=fun kx:Tok=>[(1,(Bx 1 false 35 (tO tapi_Meaning kx w) b)),(1000001,Dec.Own tapi_Meaning 42 kx w.length),(3,(Bx 1 false 61 (cloA 21 [(Bp b 0),(tapi_Unit.ptr c1),(Bp b1 0)]) b1))]) (ih _ _ _ _ _ _ _ hv15) rfl (fun _=>rfl)) rfl ⟨(.t rfl),trivial⟩) fun k2=>WL.nil<|WN.block<|Aq<|W.region<|Ao rfl (.addI (.t rfl) .i64 (range_inR hi7 hp12 hlen8))<|Am rfl rfl<|WL.nil<|WN.again es.length (i+1,pre++ [e],es,(w,k2)) (range_lt hn9) ⟨rfl,range_step hxs6,range_idx hi7,hm⟩ ⟨.q rfl,.q rfl,.q rfl,.q rfl,trivial⟩ ⟨rfl,rfl,⟨rfl,rfl,⟨rfl,rfl,trivial⟩⟩⟩
  ·have hrest14:=range_end hxs6 hi7 (of_decide_eq_false hc11)
   subst hrest14
   rw [M.resolve_ResolveBook_1_loop1.eq_1] at hm
   refine W.exit rfl ?_
   have hr16:=Si hm
   clear hm
   subst hr16
   have hm:=hk5
   try dsimp only at hm
   have hr:=Si hm
   clear hm
   subst hr
   exact WN.fin k1 rfl (fun _=>rfl) ⟨rfl,rfl,⟨rfl,rfl,⟨rfl,rfl,trivial⟩⟩⟩
theorem resolve_ResolveBook_spec(n:Nat)(u:api_Unit)(r:(List api_Meaning))(hm:M.resolve_ResolveBook n u=some r):FSpec Tryz.prog 10 [(tapi_Unit.is u)] ((tL tapi_Meaning).is r):=by
 unfold M.resolve_ResolveBook at hm
 refine FSpec.of Tryz.func10 rfl rfl rfl fun g0=>Aw<|Ao rfl (.box (.t rfl))<|Ao rfl (.assign (.nil (t:=tapi_Meaning)))<|Ar<|WL.addNil (t:=tapi_Meaning) (E:=42) 1000003<|WL.opR rfl (OpR.allocO (t:=tapi_Meaning) 3 Tryz.zeroValue35) fun b=>Ar<|WL.opR rfl (OpR.allocF 4 Tryz.zeroValue61) fun b1=>Ar<|Ao rfl (.makeClo (Cs:=[(Bp b 0),(tapi_Unit.ptr u),(Bp b1 0)]) (cap:=[.tmp 3,.tmp 1,.tmp 4]) ⟨(.t rfl),(.t rfl),(.t rfl),trivial⟩)<|WL.opU (OpR.storeB (b:=b1) 4 Z61 (Cellable.clo 21 _) rfl (.t rfl) (.t rfl)) fun _=>Ar<|Ao rfl (.loadB 4 Y61 Z61 rfl (.t rfl))<|Ao rfl (.load ty27 (.t rfl)) ?_
 obtain ⟨out,hv1,hm⟩:=Bs hm
 refine WL.weakR (res':=[(3,(Bx 1 false 35 (tO tapi_Meaning (none:Tok) ([]:List api_Meaning)) b)),(1000003,Dec.Own tapi_Meaning 42 (none:Tok) ([]:List api_Meaning).length),(4,(Bx 1 false 61 (cloA 21 [(Bp b 0),(tapi_Unit.ptr u),(Bp b1 0)]) b1))]) ⟨rfl,rfl,⟨rfl,rfl,⟨rfl,rfl,trivial⟩⟩⟩<|WL.opR rfl (OpR.callClo (us:=[3,1000003,4]) (A:=fun kx:Tok=>(Asn.eq (.tuple #[]))) (As:=[tapi_Unit.is u]) C21 (.t rfl) (FSpecR.keys (rin':=[(3,(Bx 1 false 35 (tO tapi_Meaning (none:Tok) ([]:List api_Meaning)) b)),(1000003,Dec.Own tapi_Meaning 42 (none:Tok) ([]:List api_Meaning).length),(4,(Bx 1 false 61 (cloA 21 [(Bp b 0),(tapi_Unit.ptr u),(Bp b1 0)]) b1))]) (out':=fun kx:Tok=>[(3,(Bx 1 false 35 (tO tapi_Meaning kx out) b)),(1000003,Dec.Own tapi_Meaning 42 kx out.length),(4,(Bx 1 false 61 (cloA 21 [(Bp b 0),(tapi_Unit.ptr u),(Bp b1 0)]) b1))]) (resolve_ResolveBook_1_spec _ _ _ _ _ _ _ _ hv1) rfl (fun _=>rfl)) rfl ⟨(.t rfl),trivial⟩) fun k=>Ar<|Ao rfl (.loadB 3 Y35 Z35 rfl (.t rfl))<|Ag rfl rfl<|WL.ns ?_
 cases hm
 exact W.ret1 () rfl (Opd.own (.t rfl)) trivial
theorem r41_Book_spec(n:Nat)(u:api_Unit)(r:(List api_Meaning))(hm:M.r41_Book n u=some r):FSpec Tryz.prog 12 [(tapi_Unit.is u)] ((tL tapi_Meaning).is r):=by
 unfold M.r41_Book at hm
 refine FSpec.of Tryz.func12 rfl rfl rfl fun g0=>Aw<|Ao rfl (.box (.t rfl))<|Ao rfl (.assign (.nil (t:=tapi_Meaning)))<|Ar<|WL.opR rfl (OpR.buildSlice (n:=0) (ys:=[]) (z:=zapi_Meaning) (xs:=([]:List api_Meaning)) 6 U35 el42 ze42 trivial (by simp) (by decide) rfl) fun k=>Ag rfl rfl<|Ar<|Ao rfl (.load ty27 (.t rfl)) ?_
 obtain ⟨every,hv1,hm⟩:=Bs hm
 refine Ao rfl (.call C22 (r07_Every_spec _ _ _ hv1) ⟨(.t rfl),trivial⟩)<|Ag rfl rfl<|An<|W.seq<|Aw<|Ao rfl (.assign .i64)<|An<|W.block ?_
 obtain ⟨s2,hs3,hk4⟩:=Bs hm
 clear hm
 refine W.loop (fun m (s:((List api_Meaning)×Int)×Tok)=>M.r41_Book_loop1 u every m s.1.1 s.1.2=some s2) (fun s=>[(3,(tO tapi_Meaning s.2 s.1.1)),(5,(I6.is s.1.2)),(1,(tapi_Unit.ptr u)),(4,((tL tapi_Unit).is every))]) (fun s=>[(6,Dec.Own tapi_Meaning 42 s.2 s.1.1.length)]) _ ((([]:List api_Meaning),(0:Int)),k) hs3 ⟨.q rfl,.q rfl,.q rfl,.q rfl,trivial⟩ ⟨rfl,rfl,trivial⟩ ?_
 rintro n5 ⟨⟨out,i⟩,k1⟩ hm
 try dsimp only at hm
 change W _ _ _ _ _ _ _ [(3,(tO tapi_Meaning k1 out)),(5,(I6.is i)),(1,(tapi_Unit.ptr u)),(4,((tL tapi_Unit).is every))] [(6,Dec.Own tapi_Meaning 42 k1 out.length)]
 cases n5 with
 | zero=>rw [M.r41_Book_loop1.eq_1] at hm;cases hm
 | succ n5=>
  rw [M.r41_Book_loop1.eq_2] at hm
  refine W.seq<|Aw<|Am rfl rfl<|Am rfl rfl<|Ao rfl (.lenL U25 (.t rfl))<|Ao rfl (.ltI (.t rfl) (.t rfl))<|An<|W.cD hm (.t rfl) (fun hp7 hm=>?_) (fun hp7 hm=>?_)
  ·refine W.skip<|Aq<|W.seq<|W.block ?_
   obtain ⟨v,hv8,hm⟩:=Bs hm
   obtain ⟨v1,hv9,hm⟩:=Bs hm
   obtain ⟨all,hv10,hm⟩:=Bs hm
   obtain ⟨out1,hv11,hm⟩:=Bs hm
   exact W.drawR [.c (tO tapi_Meaning k1 out),.c (tapi_Unit.is u),.c ((tL tapi_Unit).is every),.c (I6.is i),.c (tapi_Unit.ptr v),.c (tapi_Id.ptr v.Id),.c (tapi_Id.is v.Id),.c ((tL tapi_Unit).is every),.c (I6.is i),.c (tapi_Unit.ptr v1),.c ((tL tapi_Word).ptr v1.Words),.c ((tL tapi_Word).is v1.Words),.c ((tL tapi_Meaning).is all),.f (fun k2=>(tO tapi_Meaning k2 out1)),.f (fun k2=>(tO tapi_Meaning k2 out1))] [([],[3]),([],[1]),([],[4]),([],[5]),([2,3],[]),([4],[]),([5],[]),([],[4]),([],[5]),([7,8],[]),([9],[]),([10],[]),([1,6,11],[]),([0,12],[]),([13],[])] 13 [6] (fun k:Tok=>tO tapi_Meaning k out1) (fun k:Tok=>[(6,Dec.Own tapi_Meaning 42 k out1.length)]) (none:Tok) Mx rfl rfl rfl (fun k2=>⟨.inr (Op1.move (.t rfl)),.inr (Op1.load ty27 (.t rfl)),.inr (Op1.move (.t rfl)),.inr (Op1.move (.t rfl)),.inr (Op1.idx hv8 U25 Z27 (.t rfl) (.t rfl)),.inr (Op1.fieldAddr U27 rfl J23 fapi_Unit_0 (.t rfl)),.inr (Op1.load ty23 (.t rfl)),.inr (Op1.move (.t rfl)),.inr (Op1.move (.t rfl)),.inr (Op1.idx hv9 U25 Z27 (.t rfl) (.t rfl)),.inr (Op1.fieldAddr U27 rfl J24 fapi_Unit_4 (.t rfl)),.inr (Op1.load ty24 (.t rfl)),.inr (Op1.call C9 (r41_All_spec _ _ _ _ _ hv10) ⟨(.t rfl),(.t rfl),(.t rfl),trivial⟩),.inl rfl,.inr (Op1.assign (.t rfl)),trivial⟩) (.inl ⟨by decide,_,_,rfl,rfl,rfl,rfl,OpR.appC (key:=6) hv11 U35 el42 (.t rfl) (.t rfl) rfl⟩) fun k2=>WN.block<|Aq<|W.region<|Am rfl rfl<|WL.lenL (s:=4) (.t rfl) fun hl12=>Ao rfl (.addI1 (.t rfl) .i64 hp7 hl12)<|Ag rfl rfl<|WL.nil<|WN.again n5 ((out1,i+1),k2) (Nat.lt_succ_self n5) hm ⟨.q rfl,.q rfl,.q rfl,.q rfl,trivial⟩ ⟨rfl,rfl,trivial⟩
  ·refine W.exit rfl ?_
   have hr13:=Si hm
   clear hm
   subst hr13
   have hm:=hk4
   try dsimp only at hm
   refine Aq<|Aw<|Am rfl rfl<|Ag rfl rfl<|WL.ns ?_
   cases hm
   exact W.ret1 () rfl (Opd.own (.t rfl)) trivial
theorem law41_ResolveBook_spec(n:Nat)(u:api_Unit)(r:Bool)(hm:M.law41_ResolveBook n u=some r):FSpec Tryz.prog 4 [(tapi_Unit.is u)] (tB.is r):=by
 unfold M.law41_ResolveBook at hm
 refine FSpec.of Tryz.func4 rfl rfl rfl fun g0=>Aw<|Ao rfl (.box (.t rfl))<|Ao rfl (.assign .bool)<|An<|W.seq<|W.sr ?_
 obtain ⟨awake,hv1,hm⟩:=Bs hm
 refine Ao rfl (.call C5 (law41_awake_spec _ _ hv1) trivial)<|Ao rfl (.notB (.t rfl))<|An<|W.cR hm (.t rfl) (fun hp3 hm=>?_) (fun hp3 hm=>?_)
 ·refine Aw<|Ao rfl (.assign .bool)<|WL.ns ?_
  cases hm
  exact W.ret1 () rfl (.t rfl) trivial
 ·refine W.skip<|Aq<|W.seq<|Aw<|Ao rfl (.load ty27 (.t rfl)) ?_
  obtain ⟨book,hv4,hm⟩:=Bs hm
  refine Ao rfl (.call C6 (law41_book_spec _ _ _ hv4) ⟨(.t rfl),trivial⟩)<|Ao rfl (.notB (.t rfl))<|An<|W.cR hm (.t rfl) (fun hp6 hm=>?_) (fun hp6 hm=>?_)
  ·refine Aw<|Ao rfl (.assign .bool)<|WL.ns ?_
   cases hm
   exact W.ret1 () rfl (.t rfl) trivial
  ·refine W.skip<|Aq<|Aw<|Ao rfl (.load ty27 (.t rfl)) ?_
   obtain ⟨resolv,hv7,hm⟩:=Bs hm
   refine Ao rfl (.call C10 (resolve_ResolveBook_spec _ _ _ hv7) ⟨(.t rfl),trivial⟩)<|Ag rfl rfl<|An<|W.seq<|Aw<|Ao rfl (.assign .i64)<|An<|W.block ?_
   obtain ⟨s8,hs9,hk10⟩:=Bs hm
   clear hm
   refine W.loop (fun m (s:Int)=>M.law41_ResolveBook_loop1 u resolv m s=some s8) (fun s=>[(4,(I6.is s)),(1,(tapi_Unit.ptr u)),(3,((tL tapi_Meaning).is resolv))]) (fun s=>[]) _ (0:Int) hs9 ⟨.q rfl,.q rfl,.q rfl,trivial⟩ trivial ?_
   rintro n11 i hm
   try dsimp only at hm
   change W _ _ _ _ _ _ _ [(4,(I6.is i)),(1,(tapi_Unit.ptr u)),(3,((tL tapi_Meaning).is resolv))] []
   cases n11 with
   | zero=>rw [M.law41_ResolveBook_loop1.eq_1] at hm;cases hm
   | succ n11=>
    rw [M.law41_ResolveBook_loop1.eq_2] at hm
    refine W.seq<|Aw<|Am rfl rfl<|Am rfl rfl<|Ao rfl (.lenL U35 (.t rfl))<|Ao rfl (.ltI (.t rfl) (.t rfl))<|An<|W.cD hm (.t rfl) (fun hp13 hm=>?_) (fun hp13 hm=>?_)
    ·refine W.skip<|Aq<|W.seq<|W.block<|Aw<|Ao rfl (.assign .i64)<|An<|W.block ?_
     obtain ⟨s14,hs15,hk16⟩:=Bs hm
     clear hm
     refine W.loop (fun m (s:Int)=>M.law41_ResolveBook_loop2 u resolv i m s=some s14) (fun s=>[(5,(I6.is s)),(1,(tapi_Unit.ptr u)),(3,((tL tapi_Meaning).is resolv)),(4,(I6.is i))]) (fun s=>[]) _ (0:Int) hs15 ⟨.q rfl,.q rfl,.q rfl,.q rfl,trivial⟩ trivial ?_
     rintro n17 k hm
     try dsimp only at hm
     change W _ _ _ _ _ _ _ [(5,(I6.is k)),(1,(tapi_Unit.ptr u)),(3,((tL tapi_Meaning).is resolv)),(4,(I6.is i))] []
     cases n17 with
     | zero=>rw [M.law41_ResolveBook_loop2.eq_1] at hm;cases hm
     | succ n17=>
      rw [M.law41_ResolveBook_loop2.eq_2] at hm
      refine W.seq<|Aw<|Am rfl rfl<|Am rfl rfl<|WL.mv rfl rfl ?_
      obtain ⟨v,hv18,hm⟩:=Bs hm
      refine Ao rfl (.idx hv18 U35 Z42 (.t rfl) (.t rfl))<|Ao rfl (.fieldAddr U42 rfl J40 fapi_Meaning_2 (.t rfl))<|Ao rfl (.load ty40 (.t rfl))<|Ao rfl (.lenL U40 (.t rfl))<|Ao rfl (.ltI (.t rfl) (.t rfl))<|An<|W.cD hm (.t rfl) (fun hp20 hm=>?_) (fun hp20 hm=>?_)
      ·refine W.skip<|Aq<|W.seq<|W.block<|W.seq ?_
       obtain ⟨v1,hv21,hm⟩:=Bs hm
       obtain ⟨v2,hv22,hm⟩:=Bs hm
       obtain ⟨find,hv23,hm⟩:=Bs hm
       refine W.weakR (res':=[]) trivial<|W.drawM [.c (tapi_Unit.is u),.c ((tL tapi_Meaning).is resolv),.c (I6.is i),.c (tapi_Meaning.ptr v1),.c ((tL tapi_Id).ptr v1.To),.c ((tL tapi_Id).is v1.To),.c (I6.is k),.c (tapi_Id.ptr v2),.c (tapi_Id.is v2),.c (Asn.tuple2 (tapi_Unit.is find.1) (tB.is find.2)),.c (Asn.tuple2 (tapi_Unit.is find.1) (tB.is find.2)),.c (tapi_Unit.is find.1),.c (tB.is find.2),.f (fun cv=>(Bp (bk (cv 0)) 0)),.c Asn.any,.c (tB.is find.2)] [([],[1]),([],[3]),([],[4]),([1,2],[]),([3],[]),([4],[]),([],[5]),([5,6],[]),([7],[]),([0,8],[]),([9],[]),([10],[]),([10],[]),([],[]),([11,13],[]),([12],[])] [13,14] [[],[],[],[],[],[],[],[],[],[],[],[],[],[true],[],[]] (fun m cv=>match m with | 0=>[] | 1=>[(6,(Bx 8 true 27 (tapi_Unit.is zapi_Unit) (bk (cv 0))))] | _=>[(6,(Bx 8 true 27 (tapi_Unit.is find.1) (bk (cv 0))))]) (fun _=>none) Mx rfl rfl rfl rfl rfl ⟨fun _ _ _ _=>rfl,⟨fun _ _ _ _=>rfl,⟨fun _ _ _ _=>rfl,⟨fun _ _ _ _=>rfl,⟨fun _ _ _ _=>rfl,⟨fun _ _ _ _=>rfl,⟨fun _ _ _ _=>rfl,⟨fun _ _ _ _=>rfl,⟨fun _ _ _ _=>rfl,⟨fun _ _ _ _=>rfl,⟨fun _ _ _ _=>rfl,⟨fun _ _ _ _=>rfl,⟨fun _ _ _ _=>rfl,⟨fun m hm c t=>by simp only [DA.at,upd_dep (r:=[true]) (j:=0) rfl hm],⟨fun _ _ _ _=>rfl,⟨fun _ _ _ _=>rfl,trivial⟩⟩⟩⟩⟩⟩⟩⟩⟩⟩⟩⟩⟩⟩⟩⟩ rfl ⟨mo fun cv=>Op1.load ty27 (.t rfl),⟨mo fun cv=>Op1.move (.t rfl),⟨mo fun cv=>Op1.move (.t rfl),⟨mo fun cv=>Op1.idx hv21 U35 Z42 (.t rfl) (.t rfl),⟨mo fun cv=>Op1.fieldAddr U42 rfl J40 fapi_Meaning_2 (.t rfl),⟨mo fun cv=>Op1.load ty40 (.t rfl),⟨mo fun cv=>Op1.move (.t rfl),⟨mo fun cv=>Op1.idx hv22 U40 Z23 (.t rfl) (.t rfl),⟨mo fun cv=>Op1.load ty23 (.t rfl),⟨mo fun cv=>Op1.call C11 (r06_Find_spec _ _ _ _ hv23) ⟨(.t rfl),(.t rfl),trivial⟩,⟨mo fun cv=>Op1.move (.t rfl),⟨mo fun cv=>Op1.extract0 (.t rfl),⟨mo fun cv=>Op1.extract1 (.t rfl),⟨.inl rfl,⟨.inl rfl,⟨mo fun cv=>Op1.assign (.t rfl),trivial⟩⟩⟩⟩⟩⟩⟩⟩⟩⟩⟩⟩⟩⟩⟩⟩ ⟨⟨_,_,_,[],(fun cv=>[(6,(Bx 8 true 27 (tapi_Unit.is zapi_Unit) (bk (cv 0))))]),rfl,rfl,rfl,rfl,fun _=>rfl,fun _ _=>rfl,fun cv=>OpR.viaB (OpR.alloc 6 ze27)⟩,⟨⟨_,_,_,[6],(fun cv=>[(6,(Bx 8 true 27 (tapi_Unit.is find.1) (bk (cv 0))))]),rfl,rfl,rfl,rfl,fun _=>rfl,fun _ _=>rfl,fun cv=>OpR.viaU (OpR.storeB (b:=(bk (cv 0))) 6 Z27 (Cellable.is tapi_Unit find.1) rfl (.t rfl) (.t rfl))⟩,trivial⟩⟩ fun cv=>Aq<|Aw<|Am rfl rfl<|Ao rfl (.notB (.t rfl))<|An<|W.cR hm (.t rfl) (fun hp25 hm=>?_) (fun hp25 hm=>?_)
       ·refine Aw<|Ao rfl (.assign .bool)<|WL.ns ?_
        have hr26:=Si hm
        clear hm
        subst hr26
        have hm:=hk16
        try dsimp only at hm
        have hr27:=Si hm
        clear hm
        subst hr27
        have hm:=hk10
        try dsimp only at hm
        cases hm
        exact W.ret1 () rfl (.t rfl) trivial
       ·exact W.skip<|WN.block<|Aq<|W.region<|Am rfl rfl<|WL.lenL (s:=26) (.t rfl) fun hl28=>Ao rfl (.addI1 (.t rfl) .i64 hp20 hl28)<|Ag rfl rfl<|WL.nil<|WN.again n17 (k+1) (Nat.lt_succ_self n17) hm ⟨.q rfl,.q rfl,.q rfl,.q rfl,trivial⟩ trivial
      ·refine W.exit rfl ?_
       have hr29:=Si hm
       clear hm
       subst hr29
       have hm:=hk16
       try dsimp only at hm
       refine WN.block<|Aq<|W.region<|WL.mv rfl rfl ?_
       obtain ⟨v3,hv30,hm⟩:=Bs hm
       exact Ao rfl (.addC hv30 (.t rfl) .i64)<|Ag rfl rfl<|WL.nil<|WN.again n11 v3 (Nat.lt_succ_self n11) hm ⟨.q rfl,.q rfl,.q rfl,trivial⟩ trivial
    ·refine W.exit rfl ?_
     have hr31:=Si hm
     clear hm
     subst hr31
     have hm:=hk10
     try dsimp only at hm
     refine Aq<|Aw<|Am rfl rfl<|Ao rfl (.load ty27 (.t rfl)) ?_
     obtain ⟨book1,hv32,hm⟩:=Bs hm
     refine Ao rfl (.call C12 (r41_Book_spec _ _ _ hv32) ⟨(.t rfl),trivial⟩) ?_
     obtain ⟨same,hv33,hm⟩:=Bs hm
     refine Ao rfl (.call C7 (r41_Same_spec _ _ _ _ hv33) ⟨(.t rfl),(.t rfl),trivial⟩)<|Ag rfl rfl<|WL.ns ?_
     cases hm
     exact W.ret1 () rfl (.t rfl) trivial
end Go.Proofs.YtlegkjbldofkmaaGreat
