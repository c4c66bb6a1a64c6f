/-
  The code does what the models say: written by program.
-/
import Derived.Test.YtalogjkalmkpjaaGreatDoorWa
set_option linter.unusedVariables false
set_option linter.unusedSimpArgs false
namespace Go.Proofs.YtalogjkalmkpjaaGreatDoor
open Go Go.Dec
set_option maxRecDepth 100000
set_option maxHeartbeats 4000000
theorem unit_ids_spec(n:Nat)(u:api_Unit)(r:Bool)(hm:M.unit_ids n u=some r):FSpec Tryz.prog 82 [(tapi_Unit.is u)] (tB.is r):=by
 unfold M.unit_ids at hm
 refine FSpec.of Tryz.func82 rfl rfl rfl fun g0=>Aw<|Ao rfl (.box (.t rfl))<|Ao rfl (.assign .bool)<|Ar<|Ao rfl (.load ty27 (.t rfl)) ?_
 obtain ⟨ids,hv1,hm⟩:=Bs hm
 refine Ao rfl (.call C120 (unit_IDs_spec _ _ _ hv1) ⟨(.t rfl),trivial⟩)<|Ag rfl rfl<|Ar<|WL.opR rfl (OpR.makeMapQ tapi_Id tB 10) fun b=>Ag rfl rfl<|An<|W.seq<|Aw<|Am rfl rfl<|Ao rfl (.lenL U88 (.t rfl))<|Ao rfl (.move .i64)<|An<|W.block ?_
 obtain ⟨s2,hs3,hk4⟩:=Bs hm
 clear hm
 refine W.loop (fun m (s:Int×List api_Id×List api_Id×((List (api_Id×Bool))))=>m=s.2.2.1.length∧ids=s.2.1++s.2.2.1∧s.1=(s.2.1.length:Int)∧M.unit_ids_loop1 s.2.2.1 s.2.2.2=some s2) (fun s=>[(13,(I6.is s.1)),(1,(tapi_Unit.ptr u)),(3,((tL tapi_Id).is ids)),(4,(Mv b)),(11,((tL tapi_Id).is ids)),(12,(I6.is (ids.length:Int)))]) (fun s=>[(10,Mq tapi_Id tB s.2.2.2 b)]) ids.length ((0:Int),[],ids,([]:List (api_Id×Bool))) ⟨rfl,rfl,rfl,hs3⟩ ⟨.q rfl,.q rfl,.q rfl,.q rfl,.q rfl,.q rfl,trivial⟩ ⟨rfl,rfl,trivial⟩ ?_
 rintro m ⟨i,pre,rest1,v⟩ ⟨hn8,hxs5,hi6,hm⟩
 try dsimp only at hn8 hxs5 hi6 hm
 change W _ _ _ _ _ _ _ [(13,(I6.is i)),(1,(tapi_Unit.ptr u)),(3,((tL tapi_Id).is ids)),(4,(Mv b)),(11,((tL tapi_Id).is ids)),(12,(I6.is (ids.length:Int)))] [(10,Mq tapi_Id tB v b)]
 refine W.lenL (s:=11) (.t rfl) fun hlen7=>Aw<|Ao rfl (.ltI (.t rfl) (.t rfl))<|An<|W.seq<|W.cond (.t rfl) (fun hc10=>?_) (fun hc10=>?_)
 ·have hp11:=of_decide_eq_true hc10
  obtain ⟨e,es,hrest13⟩:=range_more hxs5 hi6 hp11
  subst hrest13
  rw [M.unit_ids_loop1.eq_2] at hm
  refine W.skip<|Aq<|W.seq<|W.block<|Aw<|Ao rfl (.idxPre hxs5 hi6 U88 Z23 (.t rfl) (.t rfl))<|Ao rfl (.load ty23 (.t rfl))<|WL.opR rfl (OpR.alloc 6 ze23) fun b1=>WL.opU (OpR.storeB (b:=b1) 6 Z23 (Cellable.is tapi_Id e) rfl (.t rfl) (.t rfl)) fun _=>WL.sealed (t:=tapi_Id) (u:=e) 6 6 rfl rfl<|WL.nr1<|Am rfl rfl<|Ao rfl (.load ty23 (.t rfl))<|WL.opU (OpR.mapUpdateQ (b:=b) (v:=true) 10 U57 kt23 rfl (.t rfl) (.t rfl) .bool) fun _=>WL.nil<|WN.block ?_
  exact Aq<|W.region<|Ao rfl (.addI (.t rfl) .i64 (range_inR hi6 hp11 hlen7))<|Am rfl rfl<|WL.nil<|WN.again es.length (i+1,pre++ [e],es,mset v e true) (range_lt hn8) ⟨rfl,range_step hxs5,range_idx hi6,hm⟩ ⟨.q rfl,.q rfl,.q rfl,.q rfl,.q rfl,.q rfl,trivial⟩ ⟨rfl,rfl,trivial⟩
 ·have hrest13:=range_end hxs5 hi6 (of_decide_eq_false hc10)
  subst hrest13
  rw [M.unit_ids_loop1.eq_1] at hm
  refine W.exit rfl ?_
  have hr14:=Si hm
  clear hm
  subst hr14
  have hm:=hk4
  try dsimp only at hm
  refine Aq<|Aw<|Am rfl rfl<|Ao rfl (.build (s:=tapi_Id) (x:=(⟨(0:Int),(0:Int),(0:Int)⟩:api_Id)) zapi_Id_f rfl U23 (zapi_Id_sz _ U23) ze23 rfl)<|Ao rfl (.lookupQ 10 U57 kt23 ze4 rfl (.t rfl) (.t rfl))<|Ag rfl rfl<|An<|W.seq ?_
  rcases iteB hm with ⟨hp16,hb15,hm⟩ | ⟨hp16,hb15,hm⟩
  ·obtain ⟨_,hv17,hm⟩:=Bs hm
   rcases iteD hm with ⟨hp19,hb18,hm⟩ | ⟨hp19,hb18,hm⟩
   ·refine W.draw [.c _,.c _,.c _,.c _,.c _,.c _,.c _,.c _,.c _,.c _,.c _,.c _,.c _,.c _,.c _,.c _,.c _,.c _,.c _,.c _,.c _,.c _,.c _,.c _] [([],[7]),([0],[]),([1],[4]),([1,2],[]),([1,3],[]),([1,4],[]),([5],[]),([6],[4]),([6,7],[]),([6],[3]),([6,9],[]),([6,8,10],[]),([6,11],[]),([12],[1]),([12,13],[]),([12,14],[]),([12],[1]),([12,16],[]),([12],[]),([12,17,18],[]),([12,15,19],[]),([6,12,20],[]),([6,21],[]),([22],[])] Mx rfl rfl rfl rfl (by exact ⟨Dn (.move (.t rfl)),Dn (.move (.t rfl)),Dr rfl hb15 (.move (.t rfl)),Dr rfl hb15 (.lenQ 10 U57 rfl (.t rfl) (growC_lim hv17)),Dr rfl hb15 (.eqI (.t rfl) .i64),Dn (.pickT (.t rfl) hb15 (.t rfl)),Dn (.move (.t rfl)),Dp rfl hb18,Dp rfl hb18,Dp rfl hb18,Dp rfl hb18,Dp rfl hb18,Dp rfl hb18,.inr ⟨_,_,true,rfl,rfl,.inr ⟨rfl,rfl⟩⟩,.inr ⟨_,_,true,rfl,rfl,.inr ⟨rfl,rfl⟩⟩,.inr ⟨_,_,true,rfl,rfl,.inr ⟨rfl,rfl⟩⟩,.inr ⟨_,_,true,rfl,rfl,.inr ⟨rfl,rfl⟩⟩,.inr ⟨_,_,true,rfl,rfl,.inr ⟨rfl,rfl⟩⟩,.inr ⟨_,_,true,rfl,rfl,.inr ⟨rfl,rfl⟩⟩,.inr ⟨_,_,true,rfl,rfl,.inr ⟨rfl,rfl⟩⟩,.inr ⟨_,_,true,rfl,rfl,.inr ⟨rfl,rfl⟩⟩,Dp rfl hb18,Dn (.pickT (.t rfl) hb18 .bool),Dn (.assign (.t rfl)),trivial⟩)<|WN.seq ?_
    cases hm
    exact W.ret1 () rfl (.t rfl) trivial
   ·obtain ⟨_,hv20,hm⟩:=Bs hm
    rcases iteD hm with ⟨hp22,hb21,hm⟩ | ⟨hp22,hb21,hm⟩
    ·refine W.draw [.c _,.c _,.c _,.c _,.c _,.c _,.c _,.c _,.c _,.c _,.c _,.c _,.c _,.c _,.c _,.c _,.c _,.c _,.c _,.c _,.c _,.c _,.c _,.c _] [([],[7]),([0],[]),([1],[4]),([1,2],[]),([1,3],[]),([1,4],[]),([5],[]),([6],[4]),([6,7],[]),([6],[3]),([6,9],[]),([6,8,10],[]),([6,11],[]),([12],[1]),([12,13],[]),([12,14],[]),([12],[1]),([12,16],[]),([12],[]),([12,17,18],[]),([12,15,19],[]),([6,12,20],[]),([6,21],[]),([22],[])] Mx rfl rfl rfl rfl (by exact ⟨Dn (.move (.t rfl)),Dn (.move (.t rfl)),Dr rfl hb15 (.move (.t rfl)),Dr rfl hb15 (.lenQ 10 U57 rfl (.t rfl) (growC_lim hv17)),Dr rfl hb15 (.eqI (.t rfl) .i64),Dn (.pickT (.t rfl) hb15 (.t rfl)),Dn (.move (.t rfl)),Dr rfl hb18 (.move (.t rfl)),Dr rfl hb18 (.lenQ 10 U57 rfl (.t rfl) (growC_lim hv20)),Dr rfl hb18 (.move (.t rfl)),Dr rfl hb18 (.lenL U88 (.t rfl)),Dr rfl hb18 (.eqI (.t rfl) (.t rfl)),Dr rfl hb18 (.move (.t rfl)),Dr rfl hb21 (.fieldAddr U27 rfl J3 fapi_Unit_1 (.t rfl)),Dr rfl hb21 (.load ty3 (.t rfl)),Dr rfl hb21 (.eqI (.t rfl) .i64),Dr rfl hb21 (.fieldAddr U27 rfl J23 fapi_Unit_0 (.t rfl)),Dr rfl hb21 (.load ty23 (.t rfl)),Dr rfl hb21 (.build (s:=tapi_Id) (x:=(⟨(0:Int),(0:Int),(0:Int)⟩:api_Id)) zapi_Id_f rfl U23 (zapi_Id_sz _ U23) ze23 rfl),Dr rfl hb21 (.eqSt (D:=2) rfl (by decide) eg23 eq23 (.t rfl) (.t rfl)),Dr rfl hb21 (.eqB U4 (.t rfl) (.t rfl)),Dr rfl hb18 (.pickT (.t rfl) hb21 (.t rfl)),Dn (.pickF (.t rfl) hb18 (.t rfl)),Dn (.assign (.t rfl)),trivial⟩)<|WN.seq ?_
     cases hm
     exact W.ret1 () rfl (.t rfl) trivial
    ·refine W.draw [.c _,.c _,.c _,.c _,.c _,.c _,.c _,.c _,.c _,.c _,.c _,.c _,.c _,.c _,.c _,.c _,.c _,.c _,.c _,.c _,.c _,.c _,.c _,.c _] [([],[7]),([0],[]),([1],[4]),([1,2],[]),([1,3],[]),([1,4],[]),([5],[]),([6],[4]),([6,7],[]),([6],[3]),([6,9],[]),([6,8,10],[]),([6,11],[]),([12],[1]),([12,13],[]),([12,14],[]),([12],[1]),([12,16],[]),([12],[]),([12,17,18],[]),([12,15,19],[]),([6,12,20],[]),([6,21],[]),([22],[])] Mx rfl rfl rfl rfl (by exact ⟨Dn (.move (.t rfl)),Dn (.move (.t rfl)),Dr rfl hb15 (.move (.t rfl)),Dr rfl hb15 (.lenQ 10 U57 rfl (.t rfl) (growC_lim hv17)),Dr rfl hb15 (.eqI (.t rfl) .i64),Dn (.pickT (.t rfl) hb15 (.t rfl)),Dn (.move (.t rfl)),Dr rfl hb18 (.move (.t rfl)),Dr rfl hb18 (.lenQ 10 U57 rfl (.t rfl) (growC_lim hv20)),Dr rfl hb18 (.move (.t rfl)),Dr rfl hb18 (.lenL U88 (.t rfl)),Dr rfl hb18 (.eqI (.t rfl) (.t rfl)),Dr rfl hb18 (.move (.t rfl)),Dp rfl hb21,Dp rfl hb21,Dp rfl hb21,Dp rfl hb21,Dp rfl hb21,Dp rfl hb21,Dp rfl hb21,Dp rfl hb21,Dr rfl hb18 (.pickF (.t rfl) hb21 .bool),Dn (.pickF (.t rfl) hb18 (.t rfl)),Dn (.assign (.t rfl)),trivial⟩)<|WN.seq ?_
     cases hm
     exact W.ret1 () rfl (.t rfl) trivial
  ·obtain ⟨_,hv23,hm⟩:=Bs hm
   rcases iteD hm with ⟨hp25,hb24,hm⟩ | ⟨hp25,hb24,hm⟩
   ·refine W.draw [.c (tB.is (mget v (⟨(0:Int),(0:Int),(0:Int)⟩:api_Id) false)),.c (tB.is (mget v (⟨(0:Int),(0:Int),(0:Int)⟩:api_Id) false)),.c _,.c _,.c _,.c (tB.is false),.c (tB.is false),.c _,.c _,.c _,.c _,.c (tB.is (decide ((v.length:Int)=(ids.length:Int)))),.c (tB.is (decide ((v.length:Int)=(ids.length:Int)))),.c _,.c _,.c (tB.is (decide (u.Kind=(0:Int)))),.c _,.c _,.c _,.c (tB.is (decide (u.Id=(⟨(0:Int),(0:Int),(0:Int)⟩:api_Id)))),.c (tB.is ((decide (u.Kind=(0:Int)))==(decide (u.Id=(⟨(0:Int),(0:Int),(0:Int)⟩:api_Id))))),.c (tB.is ((decide (u.Kind=(0:Int)))==(decide (u.Id=(⟨(0:Int),(0:Int),(0:Int)⟩:api_Id))))),.c (tB.is ((decide (u.Kind=(0:Int)))==(decide (u.Id=(⟨(0:Int),(0:Int),(0:Int)⟩:api_Id))))),.c (tB.is ((decide (u.Kind=(0:Int)))==(decide (u.Id=(⟨(0:Int),(0:Int),(0:Int)⟩:api_Id)))))] [([],[7]),([0],[]),([1],[4]),([1,2],[]),([1,3],[]),([1,4],[]),([5],[]),([6],[4]),([6,7],[]),([6],[3]),([6,9],[]),([6,8,10],[]),([6,11],[]),([12],[1]),([12,13],[]),([12,14],[]),([12],[1]),([12,16],[]),([12],[]),([12,17,18],[]),([12,15,19],[]),([6,12,20],[]),([6,21],[]),([22],[])] Mx rfl rfl rfl rfl (by exact ⟨Dn (.move (.t rfl)),Dn (.move (.t rfl)),Dp rfl hb15,Dp rfl hb15,Dp rfl hb15,Dn (.pickF (.t rfl) hb15 .bool),Dn (.move (.t rfl)),Dr rfl rfl (.move (.t rfl)),Dr rfl rfl (.lenQ 10 U57 rfl (.t rfl) (growC_lim hv23)),Dr rfl rfl (.move (.t rfl)),Dr rfl rfl (.lenL U88 (.t rfl)),Dr rfl rfl (.eqI (.t rfl) (.t rfl)),Dr rfl rfl (.move (.t rfl)),Dr rfl hb24 (.fieldAddr U27 rfl J3 fapi_Unit_1 (.t rfl)),Dr rfl hb24 (.load ty3 (.t rfl)),Dr rfl hb24 (.eqI (.t rfl) .i64),Dr rfl hb24 (.fieldAddr U27 rfl J23 fapi_Unit_0 (.t rfl)),Dr rfl hb24 (.load ty23 (.t rfl)),Dr rfl hb24 (.build (s:=tapi_Id) (x:=(⟨(0:Int),(0:Int),(0:Int)⟩:api_Id)) zapi_Id_f rfl U23 (zapi_Id_sz _ U23) ze23 rfl),Dr rfl hb24 (.eqSt (D:=2) rfl (by decide) eg23 eq23 (.t rfl) (.t rfl)),Dr rfl hb24 (.eqB U4 (.t rfl) (.t rfl)),Dr rfl rfl (.pickT (.t rfl) hb24 (.t rfl)),Dn (.pickF (.t rfl) rfl (.t rfl)),Dn (.assign (.t rfl)),trivial⟩)<|WN.seq ?_
    cases hm
    exact W.ret1 () rfl (.t rfl) trivial
   ·refine W.draw [.c (tB.is (mget v (⟨(0:Int),(0:Int),(0:Int)⟩:api_Id) false)),.c (tB.is (mget v (⟨(0:Int),(0:Int),(0:Int)⟩:api_Id) false)),.c _,.c _,.c _,.c (tB.is false),.c (tB.is false),.c _,.c _,.c _,.c _,.c (tB.is (decide ((v.length:Int)=(ids.length:Int)))),.c (tB.is (decide ((v.length:Int)=(ids.length:Int)))),.c _,.c _,.c _,.c _,.c _,.c _,.c _,.c _,.c (tB.is false),.c (tB.is false),.c (tB.is false)] [([],[7]),([0],[]),([1],[4]),([1,2],[]),([1,3],[]),([1,4],[]),([5],[]),([6],[4]),([6,7],[]),([6],[3]),([6,9],[]),([6,8,10],[]),([6,11],[]),([12],[1]),([12,13],[]),([12,14],[]),([12],[1]),([12,16],[]),([12],[]),([12,17,18],[]),([12,15,19],[]),([6,12,20],[]),([6,21],[]),([22],[])] Mx rfl rfl rfl rfl (by exact ⟨Dn (.move (.t rfl)),Dn (.move (.t rfl)),Dp rfl hb15,Dp rfl hb15,Dp rfl hb15,Dn (.pickF (.t rfl) hb15 .bool),Dn (.move (.t rfl)),Dr rfl rfl (.move (.t rfl)),Dr rfl rfl (.lenQ 10 U57 rfl (.t rfl) (growC_lim hv23)),Dr rfl rfl (.move (.t rfl)),Dr rfl rfl (.lenL U88 (.t rfl)),Dr rfl rfl (.eqI (.t rfl) (.t rfl)),Dr rfl rfl (.move (.t rfl)),Dp rfl hb24,Dp rfl hb24,Dp rfl hb24,Dp rfl hb24,Dp rfl hb24,Dp rfl hb24,Dp rfl hb24,Dp rfl hb24,Dr rfl rfl (.pickF (.t rfl) hb24 .bool),Dn (.pickF (.t rfl) rfl (.t rfl)),Dn (.assign (.t rfl)),trivial⟩)<|WN.seq ?_
    cases hm
    exact W.ret1 () rfl (.t rfl) trivial
theorem unit_Valid_spec(n:Nat)(u:api_Unit)(r:Bool)(hm:M.unit_Valid n u=some r):FSpecR Tryz.prog 47 [(tapi_Unit.is u)] [(700002,Gl (tA 8 tS) 2 gv2),(700004,Gl (tA 8 (tL I6)) 4 gv4)] (fun _:Unit=>(tB.is r)) (fun _=>[]):=by
 unfold M.unit_Valid at hm
 refine FSpecR.of Tryz.func47 rfl rfl rfl fun g0=>Aw<|Ao rfl (.box (.t rfl))<|Ao rfl (.assign .bool)<|Ar<|Ao rfl (.load ty27 (.t rfl)) ?_
 obtain ⟨every,hv1,hm⟩:=Bs hm
 refine Ao rfl (.callG (rin:=[(700002,Gl (tA 8 tS) 2 gv2),(700004,Gl (tA 8 (tL I6)) 4 gv4)]) C79 (unit_every_i0_spec _ _ _ hv1) ⟨rfl,rfl,trivial⟩ ⟨rfl,rfl,⟨rfl,rfl,trivial⟩⟩ ⟨(.t rfl),Opd.cloFn,trivial⟩)<|WL.mv rfl rfl ?_
 rcases iteB hm with ⟨hp3,hb2,hm⟩ | ⟨hp3,hb2,hm⟩
 ·refine Ax rfl hb2 (.load ty27 (.t rfl)) ?_
  obtain ⟨depth,hv4,hm⟩:=Bs hm
  refine Ax rfl hb2 (.call C81 (unit_Depth_spec _ _ _ hv4) ⟨(.t rfl),trivial⟩)<|Ax rfl hb2 (.leI (.t rfl) .i64)<|Ao rfl (.pickT (.t rfl) hb2 (.t rfl))<|WL.mv rfl rfl ?_
  rcases iteD hm with ⟨hp6,hb5,hm⟩ | ⟨hp6,hb5,hm⟩
  ·refine Ax rfl hb5 (.load ty27 (.t rfl)) ?_
   obtain ⟨count,hv7,hm⟩:=Bs hm
   refine Ax rfl hb5 (.call C49 (unit_Count_spec _ _ _ hv7) ⟨(.t rfl),trivial⟩)<|Ax rfl hb5 (.leI (.t rfl) .i64)<|Ao rfl (.pickT (.t rfl) hb5 (.t rfl))<|WL.mv rfl rfl ?_
   rcases iteD hm with ⟨hp9,hb8,hm⟩ | ⟨hp9,hb8,hm⟩
   ·refine Ax rfl hb8 (.load ty27 (.t rfl)) ?_
    obtain ⟨ids,hv10,hm⟩:=Bs hm
    refine Ax rfl hb8 (.call C82 (unit_ids_spec _ _ _ hv10) ⟨(.t rfl),trivial⟩)<|Ao rfl (.pickT (.t rfl) hb8 (.t rfl))<|Ag rfl rfl<|WL.ns ?_
    cases hm
    exact W.ret1 () rfl (.t rfl) trivial
   ·refine Ap rfl hb8<|Ap rfl hb8<|Ao rfl (.pickF (.t rfl) hb8 .bool)<|Ag rfl rfl<|WL.ns ?_
    cases hm
    exact W.ret1 () rfl (.t rfl) trivial
  ·refine Ap rfl hb5<|Ap rfl hb5<|Ap rfl hb5<|Ao rfl (.pickF (.t rfl) hb5 .bool)<|Am rfl rfl<|Ap rfl rfl<|Ap rfl rfl<|Ao rfl (.pickF (.t rfl) rfl .bool)<|Ag rfl rfl<|WL.ns ?_
   cases hm
   exact W.ret1 () rfl (.t rfl) trivial
 ·refine Ap rfl hb2<|Ap rfl hb2<|Ap rfl hb2<|Ao rfl (.pickF (.t rfl) hb2 .bool)<|Am rfl rfl<|Ap rfl rfl<|Ap rfl rfl<|Ap rfl rfl<|Ao rfl (.pickF (.t rfl) rfl .bool)<|Am rfl rfl<|Ap rfl rfl<|Ap rfl rfl<|Ao rfl (.pickF (.t rfl) rfl .bool)<|Ag rfl rfl<|WL.ns ?_
  cases hm
  exact W.ret1 () rfl (.t rfl) trivial
theorem redline_every_spec:∀ (n:Nat) (u:api_Unit) (into:List (api_Id×api_Unit)) (b:Nat) (r:List (api_Id×api_Unit)),M.redline_every n u into=some r→FSpecR Tryz.prog 48 [(tapi_Unit.is u),(Mv b)] [(1,Mq tapi_Id tapi_Unit into b)] (fun kx:Unit=>(Mv b)) (fun kx:Unit=>[(1,Mq tapi_Id tapi_Unit r b)]):=by
 intro n
 induction n with
 | zero=>intro u into b r hm;cases hm
 | succ n ih=>
  intro u into b r hm
  rw [M.redline_every.eq_2] at hm
  refine FSpecR.of Tryz.func48 rfl rfl rfl fun g0=>Aw<|Ao rfl (.box (.t rfl))<|Ao rfl (.assign .const)<|Ar<|Am rfl rfl<|Ao rfl (.fieldAddr U27 rfl J23 fapi_Unit_0 (.t rfl))<|Ao rfl (.load ty23 (.t rfl))<|Ao rfl (.load ty27 (.t rfl))<|WL.opU (OpR.mapUpdateQ (b:=b) (v:=u) 1 U56 kt23 rfl (.t rfl) (.t rfl) (.t rfl)) fun _=>An<|W.seq<|Aw<|Ao rfl (.fieldAddr U27 rfl J25 fapi_Unit_5 (.t rfl))<|Ao rfl (.load ty25 (.t rfl))<|Ao rfl (.lenL U25 (.t rfl)) ?_
  refine Ao rfl (.move .i64)<|An<|W.block ?_
  obtain ⟨s1,hs2,hk3⟩:=Bs hm
  clear hm
  refine W.loop (fun m (s:Int×List api_Unit×List api_Unit×((List (api_Id×api_Unit))))=>m=s.2.2.1.length∧u.Kids=s.2.1++s.2.2.1∧s.1=(s.2.1.length:Int)∧M.redline_every_loop1 (M.redline_every n) s.2.2.1 s.2.2.2=some s1) (fun s=>[(14,(I6.is s.1)),(1,(Mv b)),(12,((tL tapi_Unit).is u.Kids)),(13,(I6.is (u.Kids.length:Int)))]) (fun s=>[(1,Mq tapi_Id tapi_Unit s.2.2.2 b)]) u.Kids.length ((0:Int),[],u.Kids,mset into u.Id u) ⟨rfl,rfl,rfl,hs2⟩ ⟨.q rfl,.q rfl,.q rfl,.q rfl,trivial⟩ ⟨rfl,rfl,trivial⟩ ?_
  rintro m ⟨i,pre,rest1,into1⟩ ⟨hn7,hxs4,hi5,hm⟩
  try dsimp only at hn7 hxs4 hi5 hm
  change W _ _ _ _ _ _ _ [(14,(I6.is i)),(1,(Mv b)),(12,((tL tapi_Unit).is u.Kids)),(13,(I6.is (u.Kids.length:Int)))] [(1,Mq tapi_Id tapi_Unit into1 b)]
  refine W.lenL (s:=12) (.t rfl) fun hlen6=>Aw<|Ao rfl (.ltI (.t rfl) (.t rfl))<|An<|W.seq<|W.cond (.t rfl) (fun hc9=>?_) (fun hc9=>?_)
  ·have hp10:=of_decide_eq_true hc9
   obtain ⟨e,es,hrest12⟩:=range_more hxs4 hi5 hp10
   subst hrest12
   rw [M.redline_every_loop1.eq_2] at hm
   refine W.skip<|Aq<|W.seq<|W.block<|Aw<|Ao rfl (.idxPre hxs4 hi5 U25 Z27 (.t rfl) (.t rfl))<|Ao rfl (.load ty27 (.t rfl))<|WL.opR rfl (OpR.alloc 6 ze27) fun b1=>WL.opU (OpR.storeB (b:=b1) 6 Z27 (Cellable.is tapi_Unit e) rfl (.t rfl) (.t rfl)) fun _=>WL.sealed (t:=tapi_Unit) (u:=e) 6 6 rfl rfl<|WL.nr1<|Ao rfl (.load ty27 (.t rfl))<|WL.mv rfl rfl ?_
   obtain ⟨into2,hv13,hm⟩:=Bs hm
   exact WL.weakR (res':=[(1,Mq tapi_Id tapi_Unit into1 b)]) ⟨rfl,rfl,trivial⟩<|WL.opR rfl (OpR.call (us:=[1]) (A:=fun kx:Unit=>(Mv b)) C48 (FSpecR.keys (rin':=[(1,Mq tapi_Id tapi_Unit into1 b)]) (out':=fun kx:Unit=>[(1,Mq tapi_Id tapi_Unit into2 b)]) (ih _ _ _ _ hv13) rfl (fun _=>rfl)) rfl ⟨(.t rfl),(.t rfl),trivial⟩) fun _=>WL.nil<|WN.block<|Aq<|W.region<|Ao rfl (.addI (.t rfl) .i64 (range_inR hi5 hp10 hlen6))<|Am rfl rfl<|WL.nil<|WN.again es.length (i+1,pre++ [e],es,into2) (range_lt hn7) ⟨rfl,range_step hxs4,range_idx hi5,hm⟩ ⟨.q rfl,.q rfl,.q rfl,.q rfl,trivial⟩ ⟨rfl,rfl,trivial⟩
  ·have hrest12:=range_end hxs4 hi5 (of_decide_eq_false hc9)
   subst hrest12
   rw [M.redline_every_loop1.eq_1] at hm
   refine W.exit rfl ?_
   have hr14:=Si hm
   clear hm
   subst hr14
   have hm:=hk3
   try dsimp only at hm
   refine Aq<|Aw<|Am rfl rfl<|Ag rfl rfl<|WL.ns ?_
   cases hm
   exact W.ret1 () rfl (.t rfl) ⟨rfl,rfl,trivial⟩
theorem diff_places_1_spec:∀ (n:Nat) (u:api_Unit) (c:List (api_Id×diff_place)) (b:Nat) (b1:Nat) (r:List (api_Id×diff_place)),M.diff_places_1 n u c=some r→FSpecR Tryz.prog 160 [(tapi_Unit.is u),((tMb b:Ty (List (api_Id×diff_place))).ptr ([]:List (api_Id×diff_place))),(Bp b1 0)] [(1,Mq tapi_Id tdiff_place c b),(2,(Bx 1 false 206 (cloA 160 [((tMb b:Ty (List (api_Id×diff_place))).ptr ([]:List (api_Id×diff_place))),(Bp b1 0)]) b1))] (fun kx:Unit=>(Asn.eq (.tuple #[]))) (fun kx:Unit=>[(1,Mq tapi_Id tdiff_place r b),(2,(Bx 1 false 206 (cloA 160 [((tMb b:Ty (List (api_Id×diff_place))).ptr ([]:List (api_Id×diff_place))),(Bp b1 0)]) b1))]):=by
 intro n
 induction n with
 | zero=>intro u c b b1 r hm;cases hm
 | succ n ih=>
  intro u c b b1 r hm
  rw [M.diff_places_1.eq_2] at hm
  refine FSpecR.of Tryz.func160 rfl rfl rfl fun g0=>Aw<|Ao rfl (.box (.t rfl))<|Ar<|Ao rfl (.fieldAddr U27 rfl J25 fapi_Unit_5 (.t rfl))<|Ao rfl (.load ty25 (.t rfl))<|Ao rfl (.lenL U25 (.t rfl))<|Ao rfl (.move .i64)<|An<|W.block ?_
  obtain ⟨s1,hs2,hk3⟩:=Bs hm
  clear hm
  refine W.loop (fun m (s:Int×List api_Unit×List api_Unit×((List (api_Id×diff_place))))=>m=s.2.2.1.length∧u.Kids=s.2.1++s.2.2.1∧s.1=(s.2.1.length:Int)∧M.diff_places_1_loop1 u (M.diff_places_1 n) s.2.2.1 s.1 s.2.2.2=some s1) (fun s=>[(9,(I6.is s.1)),(1,((tMb b:Ty (List (api_Id×diff_place))).ptr ([]:List (api_Id×diff_place)))),(2,(Bp b1 0)),(3,(tapi_Unit.ptr u)),(7,((tL tapi_Unit).is u.Kids)),(8,(I6.is (u.Kids.length:Int)))]) (fun s=>[(1,Mq tapi_Id tdiff_place s.2.2.2 b),(2,(Bx 1 false 206 (cloA 160 [((tMb b:Ty (List (api_Id×diff_place))).ptr ([]:List (api_Id×diff_place))),(Bp b1 0)]) b1))]) u.Kids.length ((0:Int),[],u.Kids,c) ⟨rfl,rfl,rfl,hs2⟩ ⟨.q rfl,.q rfl,.q rfl,.q rfl,.q rfl,.q rfl,trivial⟩ ⟨rfl,rfl,⟨rfl,rfl,trivial⟩⟩ ?_
  rintro m ⟨i,pre,rest1,v⟩ ⟨hn7,hxs4,hi5,hm⟩
  try dsimp only at hn7 hxs4 hi5 hm
  change W _ _ _ _ _ _ _ [(9,(I6.is i)),(1,((tMb b:Ty (List (api_Id×diff_place))).ptr ([]:List (api_Id×diff_place)))),(2,(Bp b1 0)),(3,(tapi_Unit.ptr u)),(7,((tL tapi_Unit).is u.Kids)),(8,(I6.is (u.Kids.length:Int)))] [(1,Mq tapi_Id tdiff_place v b),(2,(Bx 1 false 206 (cloA 160 [((tMb b:Ty (List (api_Id×diff_place))).ptr ([]:List (api_Id×diff_place))),(Bp b1 0)]) b1))]
  refine W.lenL (s:=7) (.t rfl) fun hlen6=>Aw<|Ao rfl (.ltI (.t rfl) (.t rfl))<|An<|W.seq<|W.cond (.t rfl) (fun hc9=>?_) (fun hc9=>?_)
  ·have hp10:=of_decide_eq_true hc9
   obtain ⟨e,es,hrest12⟩:=range_more hxs4 hi5 hp10
   subst hrest12
   rw [M.diff_places_1_loop1.eq_2] at hm
   refine W.skip<|Aq<|W.seq<|W.block<|Aw<|Am rfl rfl<|Ao rfl (.idxPre hxs4 hi5 U25 Z27 (.t rfl) (.t rfl))<|Ao rfl (.load ty27 (.t rfl))<|WL.opR rfl (OpR.alloc 5 ze27) fun b2=>Ag rfl rfl<|WL.opU (OpR.storeB (b:=b2) 5 Z27 (Cellable.is tapi_Unit e) rfl (.t rfl) (.t rfl)) fun _=>WL.sealed (t:=tapi_Unit) (u:=e) 5 5 rfl rfl<|Ar<|Ao rfl (.ofMb (Op1.load (t:=(tMb b)) ⟨ty127.agg,ty127.size⟩ (.t rfl)))<|Ao rfl (.fieldAddr U27 rfl J23 fapi_Unit_0 (.t rfl))<|Ao rfl (.load ty23 (.t rfl)) ?_
   refine Ao rfl (.fieldAddr U27 rfl J23 fapi_Unit_0 (.t rfl))<|Ao rfl (.load ty23 (.t rfl))<|Am rfl rfl<|Ao rfl (.load ty27 (.t rfl))<|Ao rfl (.build (s:=tdiff_place) (x:=(⟨u.Id,i,e⟩:diff_place)) zdiff_place_f rfl Tryz.underlying171 (zdiff_place_sz _ Tryz.underlying171) ze171 ⟨_,tapi_Id,u.Id,_,_,rfl,Z23,(.t rfl),sdiff_place_0,⟨_,I6,i,_,_,rfl,Z3,(.t rfl),sdiff_place_1,⟨_,tapi_Unit,e,_,_,rfl,Z27,(.t rfl),sdiff_place_2,rfl⟩⟩⟩)<|WL.opU (OpR.mapUpdateQ (b:=b) (v:=(⟨u.Id,i,e⟩:diff_place)) 1 U127 kt23 rfl (.t rfl) (.t rfl) (.t rfl)) fun _=>WL.nr1<|Ao rfl (.loadB 2 Y206 Z206 rfl (.t rfl))<|Ao rfl (.load ty27 (.t rfl)) ?_
   obtain ⟨w,hv13,hm⟩:=Bs hm
   exact WL.weakR (res':=[(1,Mq tapi_Id tdiff_place (mset v e.Id (⟨u.Id,i,e⟩:diff_place)) b),(2,(Bx 1 false 206 (cloA 160 [((tMb b:Ty (List (api_Id×diff_place))).ptr ([]:List (api_Id×diff_place))),(Bp b1 0)]) b1))]) ⟨rfl,rfl,⟨rfl,rfl,trivial⟩⟩<|WL.opR rfl (OpR.callClo (us:=[1,2]) (A:=fun kx:Unit=>(Asn.eq (.tuple #[]))) (As:=[tapi_Unit.is e]) C160 (.t rfl) (FSpecR.keys (rin':=[(1,Mq tapi_Id tdiff_place (mset v e.Id (⟨u.Id,i,e⟩:diff_place)) b),(2,(Bx 1 false 206 (cloA 160 [((tMb b:Ty (List (api_Id×diff_place))).ptr ([]:List (api_Id×diff_place))),(Bp b1 0)]) b1))]) (out':=fun kx:Unit=>[(1,Mq tapi_Id tdiff_place w b),(2,(Bx 1 false 206 (cloA 160 [((tMb b:Ty (List (api_Id×diff_place))).ptr ([]:List (api_Id×diff_place))),(Bp b1 0)]) b1))]) (ih _ _ _ _ _ hv13) rfl (fun _=>rfl)) rfl ⟨(.t rfl),trivial⟩) fun _=>WL.nil<|WN.block<|Aq<|W.region<|Ao rfl (.addI (.t rfl) .i64 (range_inR hi5 hp10 hlen6))<|Am rfl rfl<|WL.nil<|WN.again es.length (i+1,pre++ [e],es,w) (range_lt hn7) ⟨rfl,range_step hxs4,range_idx hi5,hm⟩ ⟨.q rfl,.q rfl,.q rfl,.q rfl,.q rfl,.q rfl,trivial⟩ ⟨rfl,rfl,⟨rfl,rfl,trivial⟩⟩
  ·have hrest12:=range_end hxs4 hi5 (of_decide_eq_false hc9)
   subst hrest12
   rw [M.diff_places_1_loop1.eq_1] at hm
   refine W.exit rfl ?_
   have hr14:=Si hm
   clear hm
   subst hr14
   have hm:=hk3
   try dsimp only at hm
   have hr:=Si hm
   clear hm
   subst hr
   exact WN.fin () rfl (fun _=>rfl) ⟨rfl,rfl,⟨rfl,rfl,trivial⟩⟩
theorem diff_places_spec(n:Nat)(u:api_Unit)(r:List (api_Id×diff_place))(hm:M.diff_places n u=some r):FSpec Tryz.prog 122 [(tapi_Unit.is u)] ((tQ tapi_Id tdiff_place).is r):=by
 unfold M.diff_places at hm
 refine FSpec.of Tryz.func122 rfl rfl rfl fun g0=>Aw<|Ao rfl (.box (.t rfl))<|Ao rfl (.assign .const)<|Ar<|WL.opR rfl (OpR.makeMapQ tapi_Id tdiff_place 5) fun b=>Ao rfl (.fieldAddr U27 rfl J23 fapi_Unit_0 (.t rfl))<|Ao rfl (.load ty23 (.t rfl))<|Ao rfl (.load ty27 (.t rfl))<|Ao rfl (.build (s:=tdiff_place) (x:=(⟨zapi_Id,(0:Int),u⟩:diff_place)) zdiff_place_f rfl Tryz.underlying171 (zdiff_place_sz _ Tryz.underlying171) ze171 ⟨_,tapi_Unit,u,_,_,rfl,Z27,(.t rfl),sdiff_place_2,rfl⟩)<|WL.opU (OpR.insertQ (b:=b) (v:=(⟨zapi_Id,(0:Int),u⟩:diff_place)) 5 U127 kt23 rfl (.t rfl) (.t rfl) (.t rfl)) fun _=>Am rfl rfl<|WL.opR rfl (OpR.alloc 3 ze127) fun b1=>WL.opU (OpR.storeB (b:=b1) 3 Z127 (Cellable.is (tMb b:Ty (List (api_Id×diff_place))) ([]:List (api_Id×diff_place))) rfl (.t rfl) (Opd.toMb (m:=([]:List (api_Id×diff_place))) (.t rfl))) fun _=>WL.sealed (t:=(tMb b:Ty (List (api_Id×diff_place)))) (u:=([]:List (api_Id×diff_place))) 3 3 rfl rfl<|WL.nr ?_
 refine WL.opR rfl (OpR.allocF 4 Tryz.zeroValue206) fun b2=>Ar<|Ao rfl (.makeClo (Cs:=[((tMb b:Ty (List (api_Id×diff_place))).ptr ([]:List (api_Id×diff_place))),(Bp b2 0)]) (cap:=[.tmp 3,.tmp 4]) ⟨(.t rfl),(.t rfl),trivial⟩)<|WL.opU (OpR.storeB (b:=b2) 4 Z206 (Cellable.clo 160 _) rfl (.t rfl) (.t rfl)) fun _=>Ar<|Ao rfl (.loadB 4 Y206 Z206 rfl (.t rfl))<|Ao rfl (.load ty27 (.t rfl)) ?_
 obtain ⟨w,hv1,hm⟩:=Bs hm
 refine WL.weakR (res':=[(5,Mq tapi_Id tdiff_place (mset ([]:List (api_Id×diff_place)) u.Id (⟨zapi_Id,(0:Int),u⟩:diff_place)) b),(4,(Bx 1 false 206 (cloA 160 [((tMb b:Ty (List (api_Id×diff_place))).ptr ([]:List (api_Id×diff_place))),(Bp b2 0)]) b2))]) ⟨rfl,rfl,⟨rfl,rfl,trivial⟩⟩<|WL.opR rfl (OpR.callClo (us:=[5,4]) (A:=fun kx:Unit=>(Asn.eq (.tuple #[]))) (As:=[tapi_Unit.is u]) C160 (.t rfl) (FSpecR.keys (rin':=[(5,Mq tapi_Id tdiff_place (mset ([]:List (api_Id×diff_place)) u.Id (⟨zapi_Id,(0:Int),u⟩:diff_place)) b),(4,(Bx 1 false 206 (cloA 160 [((tMb b:Ty (List (api_Id×diff_place))).ptr ([]:List (api_Id×diff_place))),(Bp b2 0)]) b2))]) (out':=fun kx:Unit=>[(5,Mq tapi_Id tdiff_place w b),(4,(Bx 1 false 206 (cloA 160 [((tMb b:Ty (List (api_Id×diff_place))).ptr ([]:List (api_Id×diff_place))),(Bp b2 0)]) b2))]) (diff_places_1_spec _ _ _ _ _ _ hv1) rfl (fun _=>rfl)) rfl ⟨(.t rfl),trivial⟩) fun _=>Ar<|Ao rfl (.ofMb (Op1.load (t:=(tMb b)) ⟨ty127.agg,ty127.size⟩ (.t rfl)))<|Ag rfl rfl<|WL.ns ?_
 have hr:=Si hm
 clear hm
 subst hr
 exact W.sealQ 5 rfl<|W.slotG ((tQ tapi_Id tdiff_place).is w) 2 rfl (mapQ (key:=5) rfl)<|W.ret1 () rfl (.t rfl) trivial
theorem diff_book_spec(n:Nat)(u:api_Unit)(r:Bool)(hm:M.diff_book n u=some r):FSpecR Tryz.prog 121 [(tapi_Unit.is u)] [(700002,Gl (tA 8 tS) 2 gv2),(700004,Gl (tA 8 (tL I6)) 4 gv4)] (fun _:Unit=>(tB.is r)) (fun _=>[]):=by
 unfold M.diff_book at hm
 refine FSpecR.of Tryz.func121 rfl rfl rfl fun g0=>Aw<|Ao rfl (.box (.t rfl))<|Ao rfl (.assign .bool)<|An<|W.seq ?_
 obtain ⟨valid,hv1,hm⟩:=Bs hm
 rcases iteB hm with ⟨hp3,hb2,hm⟩ | ⟨hp3,hb2,hm⟩
 ·rcases iteD hm with ⟨hp5,hb4,hm⟩ | ⟨hp5,hb4,hm⟩
  ·obtain ⟨places,hv6,hm⟩:=Bs hm
   obtain ⟨_,hv7,hm⟩:=Bs hm
   obtain ⟨count,hv8,hm⟩:=Bs hm
   refine W.draw [.c _,.c _,.c _,.c _,.c _,.c _,.c _,.c _,.c _,.c _,.c _,.c _,.c _,.c _,.c _,.c _] [([],[1]),([0],[]),([1],[]),([2],[1]),([2,3],[]),([2,4],[]),([2,5],[]),([6],[]),([7],[1]),([7,8],[]),([7,9],[]),([7],[1]),([7,11],[]),([7,10,12],[]),([7,13],[]),([14],[])] Mx rfl rfl rfl rfl ⟨Dn (.load ty27 (.t rfl)),Dn (.callG (rin:=[(700002,Gl (tA 8 tS) 2 gv2),(700004,Gl (tA 8 (tL I6)) 4 gv4)]) C47 (unit_Valid_spec _ _ _ hv1) ⟨rfl,rfl,trivial⟩ ⟨rfl,rfl,⟨rfl,rfl,trivial⟩⟩ ⟨(.t rfl),trivial⟩),Dn (.move (.t rfl)),Dr rfl hb2 (.fieldAddr U27 rfl J3 fapi_Unit_1 (.t rfl)),Dr rfl hb2 (.load ty3 (.t rfl)),Dr rfl hb2 (.eqI (.t rfl) .i64),Dn (.pickT (.t rfl) hb2 (.t rfl)),Dn (.move (.t rfl)),Dr rfl hb4 (.load ty27 (.t rfl)),Dr rfl hb4 (.call C122 (diff_places_spec _ _ _ hv6) ⟨(.t rfl),trivial⟩),Dr rfl hb4 (.lenSQ U127 (.t rfl) (growC_lim hv7)),Dr rfl hb4 (.load ty27 (.t rfl)),Dr rfl hb4 (.call C49 (unit_Count_spec _ _ _ hv8) ⟨(.t rfl),trivial⟩),Dr rfl hb4 (.eqI (.t rfl) (.t rfl)),Dn (.pickT (.t rfl) hb4 (.t rfl)),Dn (.assign (.t rfl)),trivial⟩<|WN.seq ?_
   cases hm
   exact W.ret1 () rfl (.t rfl) trivial
  ·refine W.draw [.c _,.c _,.c _,.c _,.c _,.c _,.c _,.c _,.c _,.c _,.c _,.c _,.c _,.c _,.c _,.c _] [([],[1]),([0],[]),([1],[]),([2],[1]),([2,3],[]),([2,4],[]),([2,5],[]),([6],[]),([7],[1]),([7,8],[]),([7,9],[]),([7],[1]),([7,11],[]),([7,10,12],[]),([7,13],[]),([14],[])] Mx rfl rfl rfl rfl ⟨Dn (.load ty27 (.t rfl)),Dn (.callG (rin:=[(700002,Gl (tA 8 tS) 2 gv2),(700004,Gl (tA 8 (tL I6)) 4 gv4)]) C47 (unit_Valid_spec _ _ _ hv1) ⟨rfl,rfl,trivial⟩ ⟨rfl,rfl,⟨rfl,rfl,trivial⟩⟩ ⟨(.t rfl),trivial⟩),Dn (.move (.t rfl)),Dr rfl hb2 (.fieldAddr U27 rfl J3 fapi_Unit_1 (.t rfl)),Dr rfl hb2 (.load ty3 (.t rfl)),Dr rfl hb2 (.eqI (.t rfl) .i64),Dn (.pickT (.t rfl) hb2 (.t rfl)),Dn (.move (.t rfl)),Dp rfl hb4,Dp rfl hb4,Dp rfl hb4,Dp rfl hb4,Dp rfl hb4,Dp rfl hb4,Dn (.pickF (.t rfl) hb4 .bool),Dn (.assign (.t rfl)),trivial⟩<|WN.seq ?_
   cases hm
   exact W.ret1 () rfl (.t rfl) trivial
 ·refine W.draw [.c _,.c (tB.is valid),.c (tB.is valid),.c _,.c _,.c _,.c (tB.is false),.c (tB.is false),.c _,.c _,.c _,.c _,.c _,.c _,.c (tB.is false),.c (tB.is false)] [([],[1]),([0],[]),([1],[]),([2],[1]),([2,3],[]),([2,4],[]),([2,5],[]),([6],[]),([7],[1]),([7,8],[]),([7,9],[]),([7],[1]),([7,11],[]),([7,10,12],[]),([7,13],[]),([14],[])] Mx rfl rfl rfl rfl ⟨Dn (.load ty27 (.t rfl)),Dn (.callG (rin:=[(700002,Gl (tA 8 tS) 2 gv2),(700004,Gl (tA 8 (tL I6)) 4 gv4)]) C47 (unit_Valid_spec _ _ _ hv1) ⟨rfl,rfl,trivial⟩ ⟨rfl,rfl,⟨rfl,rfl,trivial⟩⟩ ⟨(.t rfl),trivial⟩),Dn (.move (.t rfl)),Dp rfl hb2,Dp rfl hb2,Dp rfl hb2,Dn (.pickF (.t rfl) hb2 .bool),Dn (.move (.t rfl)),Dp rfl rfl,Dp rfl rfl,Dp rfl rfl,Dp rfl rfl,Dp rfl rfl,Dp rfl rfl,Dn (.pickF (.t rfl) rfl .bool),Dn (.assign (.t rfl)),trivial⟩<|WN.seq ?_
  cases hm
  exact W.ret1 () rfl (.t rfl) trivial
theorem diff_held_spec(n:Nat)(a:api_Unit)(b:api_Unit)(r:diff_pair×Bool)(hm:M.diff_held n a b=some r):FSpecR Tryz.prog 84 [(tapi_Unit.is a),(tapi_Unit.is b)] [(700002,Gl (tA 8 tS) 2 gv2),(700004,Gl (tA 8 (tL I6)) 4 gv4)] (fun _:Unit=>(Asn.tuple2 (tdiff_pair.is r.1) (tB.is r.2))) (fun _=>[]):=by
 unfold M.diff_held at hm
 refine FSpecR.of Tryz.func84 rfl rfl rfl fun g0=>Aw<|Ao rfl (.box (.t rfl))<|Ao rfl (.box (.t rfl))<|WL.opR rfl (OpR.alloc 4 ze129) fun b1=>Ao rfl (.assign .bool)<|An<|W.seq ?_
 obtain ⟨s1,hs2,hk3⟩:=Bs hm
 clear hm
 refine W.join (fun s:Bool=>s=s1) (fun s=>[(18,(tB.is s)),(2,(tapi_Unit.ptr a)),(3,(tapi_Unit.ptr b)),(4,(Bp b1 0))]) (fun s=>[(4,(Bx 18 true 129 (tdiff_pair.is zdiff_pair) b1)),(700002,Gl (tA 8 tS) 2 gv2),(700004,Gl (tA 8 (tL I6)) 4 gv4)]) ?_ ?_
 ·rintro v hj25
  try dsimp only at hj25
  subst hj25
  have hm:=hk3
  clear hk3
  try dsimp only at hm
  change W _ _ _ _ _ _ _ [(18,(tB.is v)),(2,(tapi_Unit.ptr a)),(3,(tapi_Unit.ptr b)),(4,(Bp b1 0))] [(4,(Bx 18 true 129 (tdiff_pair.is zdiff_pair) b1)),(700002,Gl (tA 8 tS) 2 gv2),(700004,Gl (tA 8 (tL I6)) 4 gv4)]
  refine W.cB hm (.t rfl) (fun hp9 hm=>?_) (fun hp9 hm=>?_)
  ·refine Aw<|Ao rfl (.build (s:=tdiff_pair) (x:=(⟨zapi_Unit,zapi_Unit,([]:List (api_Id×diff_place)),([]:List (api_Id×diff_place))⟩:diff_pair)) zdiff_pair_f rfl Tryz.underlying129 (zdiff_pair_sz _ Tryz.underlying129) ze129 rfl)<|WL.opU (OpR.storeB (b:=b1) 4 Z129 (Cellable.is tdiff_pair (⟨zapi_Unit,zapi_Unit,([]:List (api_Id×diff_place)),([]:List (api_Id×diff_place))⟩:diff_pair)) rfl (.t rfl) (.t rfl)) fun _=>Ao rfl (.assign .bool)<|WL.ns ?_
   cases hm
   exact W.retQ2 () rfl rfl (ResAt.cell 4 Y129 Z129 rfl (.t rfl)) (ResAt.tmp (.t rfl)) trivial
  ·refine W.skip<|Aq<|W.seq ?_
   obtain ⟨places,hv10,hm⟩:=Bs hm
   obtain ⟨places1,hv11,hm⟩:=Bs hm
   refine W.weakR (res':=[(4,(Bx 18 true 129 (tdiff_pair.is zdiff_pair) b1)),(700002,Gl (tA 8 tS) 2 gv2),(700004,Gl (tA 8 (tL I6)) 4 gv4)]) ⟨rfl,rfl,⟨rfl,rfl,⟨rfl,rfl,trivial⟩⟩⟩<|W.drawM [.c (tapi_Unit.is a),.c (tapi_Unit.is b),.c (tapi_Unit.is a),.c ((tQ tapi_Id tdiff_place).is places),.c (tapi_Unit.is b),.c ((tQ tapi_Id tdiff_place).is places1),.c (tdiff_pair.is (⟨a,b,places,places1⟩:diff_pair)),.f (fun cv=>(Bp (bk (cv 0)) 0)),.c Asn.any] [([],[2]),([],[3]),([],[2]),([2],[]),([],[3]),([4],[]),([0,1,3,5],[]),([],[]),([6,7],[])] [7,8] [[],[],[],[],[],[],[],[true],[]] (fun m cv=>match m with | 0=>[(4,(Bx 18 true 129 (tdiff_pair.is zdiff_pair) b1)),(700002,Gl (tA 8 tS) 2 gv2),(700004,Gl (tA 8 (tL I6)) 4 gv4)] | 1=>[(6,(Bx 18 true 129 (tdiff_pair.is zdiff_pair) (bk (cv 0)))),(4,(Bx 18 true 129 (tdiff_pair.is zdiff_pair) b1)),(700002,Gl (tA 8 tS) 2 gv2),(700004,Gl (tA 8 (tL I6)) 4 gv4)] | _=>[(6,(Bx 18 true 129 (tdiff_pair.is (⟨a,b,places,places1⟩:diff_pair)) (bk (cv 0)))),(4,(Bx 18 true 129 (tdiff_pair.is zdiff_pair) b1)),(700002,Gl (tA 8 tS) 2 gv2),(700004,Gl (tA 8 (tL I6)) 4 gv4)]) (fun _=>none) Mx rfl rfl rfl rfl rfl ⟨fun _ _ _ _=>rfl,⟨fun _ _ _ _=>rfl,⟨fun _ _ _ _=>rfl,⟨fun _ _ _ _=>rfl,⟨fun _ _ _ _=>rfl,⟨fun _ _ _ _=>rfl,⟨fun _ _ _ _=>rfl,⟨fun m hm c t=>by simp only [DA.at,upd_dep (r:=[true]) (j:=0) rfl hm],⟨fun _ _ _ _=>rfl,trivial⟩⟩⟩⟩⟩⟩⟩⟩⟩ rfl ⟨mo fun cv=>Op1.load ty27 (.t rfl),⟨mo fun cv=>Op1.load ty27 (.t rfl),⟨mo fun cv=>Op1.load ty27 (.t rfl),⟨mo fun cv=>Op1.call C122 (diff_places_spec _ _ _ hv10) ⟨(.t rfl),trivial⟩,⟨mo fun cv=>Op1.load ty27 (.t rfl),⟨mo fun cv=>Op1.call C122 (diff_places_spec _ _ _ hv11) ⟨(.t rfl),trivial⟩,⟨mo fun cv=>Op1.build (s:=tdiff_pair) (x:=(⟨a,b,places,places1⟩:diff_pair)) zdiff_pair_f rfl Tryz.underlying129 (zdiff_pair_sz _ Tryz.underlying129) ze129 ⟨_,tapi_Unit,a,_,_,rfl,Z27,(.t rfl),sdiff_pair_0,⟨_,tapi_Unit,b,_,_,rfl,Z27,(.t rfl),sdiff_pair_1,⟨_,(tQ tapi_Id tdiff_place),places,_,_,rfl,Z127,(.t rfl),sdiff_pair_2,⟨_,(tQ tapi_Id tdiff_place),places1,_,_,rfl,Z127,(.t rfl),sdiff_pair_3,rfl⟩⟩⟩⟩,⟨.inl rfl,⟨.inl rfl,trivial⟩⟩⟩⟩⟩⟩⟩⟩⟩ ⟨⟨_,_,_,[],(fun cv=>[(6,(Bx 18 true 129 (tdiff_pair.is zdiff_pair) (bk (cv 0))))]),rfl,rfl,rfl,rfl,fun _=>rfl,fun _ _=>rfl,fun cv=>OpR.viaB (OpR.alloc 6 ze129)⟩,⟨⟨_,_,_,[6],(fun cv=>[(6,(Bx 18 true 129 (tdiff_pair.is (⟨a,b,places,places1⟩:diff_pair)) (bk (cv 0))))]),rfl,rfl,rfl,rfl,fun _=>rfl,fun _ _=>rfl,fun cv=>OpR.viaU (OpR.storeB (b:=(bk (cv 0))) 6 Z129 (Cellable.is tdiff_pair (⟨a,b,places,places1⟩:diff_pair)) rfl (.t rfl) (.t rfl))⟩,trivial⟩⟩ fun cv=>Aq<|W.seq<|Aw<|Ao rfl (.fieldAddrB (o:=0) Tryz.underlying129 rfl J127 (.t rfl) rfl)<|Ao rfl (.loadBF 6 rfl ty127 fdiff_pair_3 rfl (.t rfl))<|WL.opR rfl (OpR.rangeQ 29 U127 (.t rfl)) fun b2=>An<|W.block ?_
   obtain ⟨any,h18,h17⟩:=Bs hm
   clear hm
   refine W.loop (fun k (s:List (api_Id×diff_place)×Option (api_Id×diff_place))=>k=s.1.length∧AnyI (M.diff_held_loop1 a b places places1) any s.1) (fun _=>[(4,(Bp b1 0)),(6,(Bp (bk (cv 0)) 0)),(29,(Bp b2 0))]) (fun s=>[(4,(Bx 18 true 129 (tdiff_pair.is zdiff_pair) b1)),(700002,Gl (tA 8 tS) 2 gv2),(700004,Gl (tA 8 (tL I6)) 4 gv4),(6,(Bx 18 true 129 (tdiff_pair.is (⟨a,b,places,places1⟩:diff_pair)) (bk (cv 0)))),(29,ItQ tapi_Id tdiff_place s.1 s.2 b2)]) _ ((⟨a,b,places,places1⟩:diff_pair).q_,none) ⟨rfl,anyI_start h18⟩ ⟨.q rfl,.q rfl,.q rfl,trivial⟩ ⟨rfl,rfl,⟨rfl,rfl,⟨rfl,rfl,⟨rfl,rfl,⟨rfl,rfl,trivial⟩⟩⟩⟩⟩ ?_
   rintro kx ⟨lm,last⟩ ⟨h12,h13⟩
   try dsimp only at h12 h13
   change W _ _ _ _ _ _ _ [(4,(Bp b1 0)),(6,(Bp (bk (cv 0)) 0)),(29,(Bp b2 0))] [(4,(Bx 18 true 129 (tdiff_pair.is zdiff_pair) b1)),(700002,Gl (tA 8 tS) 2 gv2),(700004,Gl (tA 8 (tL I6)) 4 gv4),(6,(Bx 18 true 129 (tdiff_pair.is (⟨a,b,places,places1⟩:diff_pair)) (bk (cv 0)))),(29,ItQ tapi_Id tdiff_place lm last b2)]
   refine W.sr ?_
   by_cases h14:lm= []
   ·subst h14
    refine Ao rfl (.nextQF 29 rfl (.t rfl))<|Ao rfl (.extract10 (.t rfl))<|An<|W.seq<|W.condF (.t rfl)<|W.exit rfl ?_
    have hm:=h17
    rw [if_neg (anyI_end h13)] at hm
    refine Aq<|Aw<|Ao rfl (.loadB 6 Y129 Z129 rfl (.t rfl))<|WL.opU (OpR.storeB (b:=b1) 4 Z129 (Cellable.is tdiff_pair (⟨a,b,places,places1⟩:diff_pair)) rfl (.t rfl) (.t rfl)) fun _=>Ao rfl (.assign .bool)<|WL.ns ?_
    cases hm
    exact W.retQ2 () rfl rfl (ResAt.cell 4 Y129 Z129 rfl (.t rfl)) (ResAt.tmp (.t rfl)) trivial
   ·refine WL.opR rfl (OpR.nextQT 29 h14 rfl (.t rfl)) (fun κ=>?_)
    obtain ⟨⟨e,lm1⟩,h15⟩:=κ
    dsimp only at h15 ⊢
    obtain ⟨h16,hm,hob19,hnx20⟩:=anyI_step h13 h15
    unfold M.diff_held_loop1 at hm
    refine Ao rfl (.extract30 (.t rfl))<|An<|W.seq<|W.condT (.t rfl)<|W.skip<|Aq<|W.block<|Aw<|Ao rfl (.entryQ 29 rfl (.t rfl))<|Ao rfl (.extract0 (.t rfl))<|Ao rfl (.extract1 (.t rfl))<|WL.opR rfl (OpR.alloc 7 ze23) fun b3=>WL.opR rfl (OpR.alloc 8 ze171) fun b4=>WL.opU (OpR.storeB (b:=b3) 7 Z23 (Cellable.is tapi_Id e.1) rfl (.t rfl) (.t rfl)) fun _=>WL.sealed (t:=tapi_Id) (u:=e.1) 7 7 rfl rfl<|WL.opU (OpR.storeB (b:=b4) 8 Z171 (Cellable.is tdiff_place e.2) rfl (.t rfl) (.t rfl)) (fun _=>?_)
    refine WL.sealed (t:=tdiff_place) (u:=e.2) 8 8 rfl rfl<|Ar<|Ao rfl (.fieldAddrB (o:=0) Tryz.underlying129 rfl J127 (.t rfl) rfl)<|Ao rfl (.loadBF 6 rfl ty127 fdiff_pair_2 rfl (.t rfl))<|Ao rfl (.load ty23 (.t rfl))<|Ao rfl (.lookupSOkQ U127 kt23 ze171 (.t rfl) (.t rfl))<|Am rfl rfl<|Ao rfl (.extract0 (.t rfl))<|Ao rfl (.extract1 (.t rfl))<|WL.opR rfl (OpR.alloc 9 ze171) fun b5=>WL.opU (OpR.storeB (b:=b5) 9 Z171 (Cellable.is tdiff_place ((mget ((⟨a,b,places,places1⟩:diff_pair).p_) e.1 zdiff_place,mhas ((⟨a,b,places,places1⟩:diff_pair).p_) e.1).1)) rfl (.t rfl) (.t rfl)) fun _=>WL.sealed (t:=tdiff_place) (u:=((mget ((⟨a,b,places,places1⟩:diff_pair).p_) e.1 zdiff_place,mhas ((⟨a,b,places,places1⟩:diff_pair).p_) e.1).1)) 9 9 rfl rfl<|Ag rfl rfl<|Ar<|Am rfl rfl<|WL.mv rfl rfl ?_
    rcases iteB hm with ⟨hp22,hb21,hm⟩ | ⟨hp22,hb21,hm⟩
    ·refine Ax rfl hb21 (.fieldAddr Tryz.underlying171 rfl J27 fdiff_place_2 (.t rfl))<|Ax rfl hb21 (.fieldAddr U27 rfl J3 fapi_Unit_1 (.t rfl))<|Ax rfl hb21 (.load ty3 (.t rfl))<|Ax rfl hb21 (.fieldAddr Tryz.underlying171 rfl J27 fdiff_place_2 (.t rfl))<|Ax rfl hb21 (.fieldAddr U27 rfl J3 fapi_Unit_1 (.t rfl))<|Ax rfl hb21 (.load ty3 (.t rfl))<|Ax rfl hb21 (.neI (.t rfl) (.t rfl))<|Ao rfl (.pickT (.t rfl) hb21 (.t rfl))<|An<|W.cD hm (.t rfl) (fun hp24 hm=>?_) (fun hp24 hm=>?_)
     ·refine Aw<|Ao rfl (.build (s:=tdiff_pair) (x:=(⟨zapi_Unit,zapi_Unit,([]:List (api_Id×diff_place)),([]:List (api_Id×diff_place))⟩:diff_pair)) zdiff_pair_f rfl Tryz.underlying129 (zdiff_pair_sz _ Tryz.underlying129) ze129 rfl)<|WL.opU (OpR.storeB (b:=b1) 4 Z129 (Cellable.is tdiff_pair (⟨zapi_Unit,zapi_Unit,([]:List (api_Id×diff_place)),([]:List (api_Id×diff_place))⟩:diff_pair)) rfl (.t rfl) (.t rfl)) fun _=>Ao rfl (.assign .bool)<|WL.ns ?_
      have hbt:=hob19 (Si hm).symm
      clear hm
      have hm:=h17
      rw [if_pos hbt] at hm
      cases hm
      exact W.retQ2 () rfl rfl (ResAt.cell 4 Y129 Z129 rfl (.t rfl)) (ResAt.tmp (.t rfl)) trivial
     ·exact W.skip<|WN.block<|WN.again _ (lm1,some e) (by rw [h12,h15.length_eq];exact Nat.lt_succ_self _) ⟨rfl,hnx20 (Si hm).symm⟩ ⟨.q rfl,.q rfl,.q rfl,trivial⟩ ⟨rfl,rfl,⟨rfl,rfl,⟨rfl,rfl,⟨rfl,rfl,⟨rfl,rfl,trivial⟩⟩⟩⟩⟩
    ·exact Ap rfl hb21<|Ap rfl hb21<|Ap rfl hb21<|Ap rfl hb21<|Ap rfl hb21<|Ap rfl hb21<|Ap rfl hb21<|Ao rfl (.pickF (.t rfl) hb21 .bool)<|An<|W.condF (.t rfl)<|W.skip<|WN.block<|WN.again _ (lm1,some e) (by rw [h12,h15.length_eq];exact Nat.lt_succ_self _) ⟨rfl,hnx20 (Si hm).symm⟩ ⟨.q rfl,.q rfl,.q rfl,trivial⟩ ⟨rfl,rfl,⟨rfl,rfl,⟨rfl,rfl,⟨rfl,rfl,⟨rfl,rfl,trivial⟩⟩⟩⟩⟩
 ·have hm:=hs2
  clear hs2
  refine W.region<|Ao rfl (.load ty27 (.t rfl)) ?_
  obtain ⟨book,hv4,hm⟩:=Bs hm
  refine Ao rfl (.callG (rin:=[(700002,Gl (tA 8 tS) 2 gv2),(700004,Gl (tA 8 (tL I6)) 4 gv4)]) C121 (diff_book_spec _ _ _ hv4) ⟨rfl,rfl,trivial⟩ ⟨rfl,rfl,⟨rfl,rfl,trivial⟩⟩ ⟨(.t rfl),trivial⟩)<|Ao rfl (.notB (.t rfl))<|WL.mv rfl rfl ?_
  rcases iteR hm with ⟨hp6,hb5,hm⟩ | ⟨hp6,hb5,hm⟩
  ·exact Ap rfl hb5<|Ap rfl hb5<|Ap rfl hb5<|Ao rfl (.pickT (.t rfl) hb5 .bool)<|WL.nil<|WN.meet true (Si hm) ⟨.q rfl,.q rfl,.q rfl,.q rfl,trivial⟩ ⟨rfl,rfl,⟨rfl,rfl,⟨rfl,rfl,trivial⟩⟩⟩
  ·refine Ax rfl hb5 (.load ty27 (.t rfl)) ?_
   obtain ⟨book1,hv7,hm⟩:=Bs hm
   exact Ax rfl hb5 (.callG (rin:=[(700002,Gl (tA 8 tS) 2 gv2),(700004,Gl (tA 8 (tL I6)) 4 gv4)]) C121 (diff_book_spec _ _ _ hv7) ⟨rfl,rfl,trivial⟩ ⟨rfl,rfl,⟨rfl,rfl,trivial⟩⟩ ⟨(.t rfl),trivial⟩)<|Ax rfl hb5 (.notB (.t rfl))<|Ao rfl (.pickF (.t rfl) hb5 (.t rfl))<|WL.nil<|WN.meet (!book1) (Si hm) ⟨.q rfl,.q rfl,.q rfl,.q rfl,trivial⟩ ⟨rfl,rfl,⟨rfl,rfl,⟨rfl,rfl,trivial⟩⟩⟩
theorem lcs_LongestIncreasing_spec(n:Nat)(l:List Int)(r:List Int)(hm:M.lcs_LongestIncreasing n l=some r):FSpec Tryz.prog 162 [((tL I6).is l)] ((tL I6).is r):=by
 unfold M.lcs_LongestIncreasing at hm
 refine FSpec.of Tryz.func162 rfl rfl rfl fun g0=>Aw<|Ao rfl (.assign (.nil (t:=I6)))<|An<|W.seq<|Aw<|Am rfl rfl<|Ao rfl (.lenL U161 (.t rfl))<|Ao rfl (.gtI (.t rfl) .i64)<|An<|W.cD hm (.t rfl) (fun hp2 hm=>?_) (fun hp2 hm=>?_)
 ·refine Aw<|Ao rfl (.assign (.nil (t:=I6)))<|WL.ns ?_
  cases hm
  exact W.ret1 () rfl (.t rfl) trivial
 ·refine W.skip<|Aq<|Aw<|Am rfl rfl<|Ao rfl (.lenL U161 (.t rfl)) ?_
  obtain ⟨mk,hv3,hm⟩:=Bs hm
  refine WL.opR rfl (OpR.loosen fl3 (OpR.makeSlice (k:=.i64) 14 hv3 U161 el3 ze3 (.t rfl) (.t rfl))) fun k=>Ag rfl rfl<|Ar<|Ao rfl (.assign .i64)<|An<|W.seq<|Aw<|Am rfl rfl<|Ao rfl (.lenL U161 (.t rfl)) ?_
  obtain ⟨v,hv4,hm⟩:=Bs hm
  refine Ao rfl (.subC hv4 (.t rfl) .i64)<|Ag rfl rfl<|An<|W.block ?_
  obtain ⟨s5,hs6,hk7⟩:=Bs hm
  clear hm
  refine W.loop (fun m (s:((List Int)×Int×Int)×Tok)=>M.lcs_LongestIncreasing_loop1 l m s.1.1 s.1.2.1 s.1.2.2=some s5) (fun s=>[(3,(tU s.2 s.1.1.length)),(4,(I6.is s.1.2.1)),(5,(I6.is s.1.2.2)),(0,((tL I6).is l))]) (fun s=>[(14,OwnU I6 3 s.2 s.1.1)]) _ ((mk,(0:Int),v),k) hs6 ⟨.q rfl,.q rfl,.q rfl,.q rfl,trivial⟩ ⟨rfl,rfl,trivial⟩ ?_
  rintro n8 ⟨⟨row,most,i⟩,k1⟩ hm
  try dsimp only at hm
  change W _ _ _ _ _ _ _ [(3,(tU k1 row.length)),(4,(I6.is most)),(5,(I6.is i)),(0,((tL I6).is l))] [(14,OwnU I6 3 k1 row)]
  cases n8 with
  | zero=>rw [M.lcs_LongestIncreasing_loop1.eq_1] at hm;cases hm
  | succ n8=>
   rw [M.lcs_LongestIncreasing_loop1.eq_2] at hm
   refine W.seq<|Aw<|Am rfl rfl<|Ao rfl (.geI (.t rfl) .i64)<|An<|W.cD hm (.t rfl) (fun hp10 hm=>?_) (fun hp10 hm=>?_)
   ·refine W.skip<|Aq<|W.seq<|W.block<|Aw<|Am rfl rfl<|WL.mv rfl rfl ?_
    obtain ⟨v1,hv11,hm⟩:=Bs hm
    refine Ao rfl (.idxU (t:=I6) hv11 U161 Z3 (.t rfl) (.t rfl)) ?_
    obtain ⟨w,hv12,hm⟩:=Bs hm
    refine WL.opU (OpR.storeU (key:=14) hv12 ty3 (.t rfl) .i64 rfl) fun _=>WL.nil<|WN.lenU 3 (setC_len hv12) rfl<|WN.lenU 22 (setC_len hv12) rfl<|Aq<|W.seq<|Aw<|WL.mv rfl rfl ?_
    obtain ⟨v2,hv13,hm⟩:=Bs hm
    refine Ao rfl (.addC hv13 (.t rfl) .i64)<|Ag rfl rfl<|An<|W.block ?_
    obtain ⟨s14,hs15,hk16⟩:=Bs hm
    clear hm
    refine W.loop (fun m (s:((List Int)×Int)×Tok)=>M.lcs_LongestIncreasing_loop2 l i m s.1.1 s.1.2=some s14) (fun s=>[(3,(tU s.2 s.1.1.length)),(6,(I6.is s.1.2)),(0,((tL I6).is l)),(4,(I6.is most)),(5,(I6.is i))]) (fun s=>[(14,OwnU I6 3 s.2 s.1.1)]) _ ((w,v2),k1) hs15 ⟨.q rfl,.q rfl,.q rfl,.q rfl,.q rfl,trivial⟩ ⟨rfl,rfl,trivial⟩ ?_
    rintro n17 ⟨⟨row1,k2⟩,k3⟩ hm
    try dsimp only at hm
    change W _ _ _ _ _ _ _ [(3,(tU k3 row1.length)),(6,(I6.is k2)),(0,((tL I6).is l)),(4,(I6.is most)),(5,(I6.is i))] [(14,OwnU I6 3 k3 row1)]
    cases n17 with
    | zero=>rw [M.lcs_LongestIncreasing_loop2.eq_1] at hm;cases hm
    | succ n17=>
     rw [M.lcs_LongestIncreasing_loop2.eq_2] at hm
     refine W.seq<|Aw<|Am rfl rfl<|Am rfl rfl<|Ao rfl (.lenL U161 (.t rfl))<|Ao rfl (.ltI (.t rfl) (.t rfl))<|An<|W.cD hm (.t rfl) (fun hp19 hm=>?_) (fun hp19 hm=>?_)
     ·refine W.skip<|Aq<|W.seq<|W.block<|W.seq ?_
      obtain ⟨v3,hv20,hm⟩:=Bs hm
      obtain ⟨v4,hv21,hm⟩:=Bs hm
      refine W.draw [.c _,.c _,.c _,.c _,.c _,.c _,.c _,.c _,.c _] [([],[0]),([],[6]),([0,1],[]),([2],[]),([],[0]),([],[5]),([4,5],[]),([6],[]),([3,7],[])] Mx rfl rfl rfl rfl ⟨Dn (.move (.t rfl)),Dn (.move (.t rfl)),Dn (.idx hv20 U161 Z3 (.t rfl) (.t rfl)),Dn (.load ty3 (.t rfl)),Dn (.move (.t rfl)),Dn (.move (.t rfl)),Dn (.idx hv21 U161 Z3 (.t rfl) (.t rfl)),Dn (.load ty3 (.t rfl)),Dn (.gtI (.t rfl) (.t rfl)),trivial⟩<|Aq<|W.cD hm (.t rfl) (fun hp23 hm=>?_) (fun hp23 hm=>?_)
      ·obtain ⟨v5,hv24,hm⟩:=Bs hm
       obtain ⟨v6,hv25,hm⟩:=Bs hm
       obtain ⟨v7,hv26,hm⟩:=Bs hm
       obtain ⟨v8,hv27,hm⟩:=Bs hm
       obtain ⟨w1,hv28,hm⟩:=Bs hm
       exact W.weakR (res':=[(14,OwnU I6 3 k3 row1)]) ⟨rfl,rfl,trivial⟩<|W.drawM [.c (tU k3 row1.length),.c (I6.is i),.c (tU k3 row1.length),.c (I6.is i),.c (Bp (bk k3) (i.toNat*I6.size)),.c (I6.is v5),.c (tU k3 row1.length),.c (I6.is k2),.c (Bp (bk k3) (k2.toNat*I6.size)),.c (I6.is v6),.c (I6.is v7),.c (I6.is (max v5 v7)),.c (Bp (bk k3) (i.toNat*I6.size)),.c Asn.any] [([],[3]),([],[5]),([],[3]),([],[5]),([2,3],[]),([4],[]),([],[3]),([],[6]),([6,7],[]),([8],[]),([9],[]),([5,10],[]),([0,1],[]),([11,12],[])] [13] [[],[],[],[],[],[],[],[],[],[],[],[],[],[]] (fun m cv=>match m with | 0=>[(14,OwnU I6 3 k3 row1)] | _=>[(14,OwnU I6 3 k3 w1)]) (fun _=>none) Mx rfl rfl rfl rfl rfl ⟨fun _ _ _ _=>rfl,⟨fun _ _ _ _=>rfl,⟨fun _ _ _ _=>rfl,⟨fun _ _ _ _=>rfl,⟨fun _ _ _ _=>rfl,⟨fun _ _ _ _=>rfl,⟨fun _ _ _ _=>rfl,⟨fun _ _ _ _=>rfl,⟨fun _ _ _ _=>rfl,⟨fun _ _ _ _=>rfl,⟨fun _ _ _ _=>rfl,⟨fun _ _ _ _=>rfl,⟨fun _ _ _ _=>rfl,⟨fun _ _ _ _=>rfl,trivial⟩⟩⟩⟩⟩⟩⟩⟩⟩⟩⟩⟩⟩⟩ rfl ⟨mo fun cv=>Op1.move (.t rfl),⟨mo fun cv=>Op1.move (.t rfl),⟨mo fun cv=>Op1.move (.t rfl),⟨mo fun cv=>Op1.move (.t rfl),⟨mo fun cv=>Op1.idxU (t:=I6) hv24 U161 Z3 (.t rfl) (.t rfl),⟨.inr ⟨fun cv=>[(14,OwnU I6 3 k3 row1)],(AllUpTo.at ⟨(fun _ _=>⟨rfl,rfl,trivial⟩),(fun hw=>absurd hw (by decide))⟩),fun cv=>Op1.loadU 14 hv24 ty3 rfl (.t rfl)⟩,⟨mo fun cv=>Op1.move (.t rfl),⟨mo fun cv=>Op1.move (.t rfl),⟨mo fun cv=>Op1.idxU (t:=I6) hv25 U161 Z3 (.t rfl) (.t rfl),⟨.inr ⟨fun cv=>[(14,OwnU I6 3 k3 row1)],(AllUpTo.at ⟨(fun _ _=>⟨rfl,rfl,trivial⟩),(fun hw=>absurd hw (by decide))⟩),fun cv=>Op1.loadU 14 hv25 ty3 rfl (.t rfl)⟩,⟨mo fun cv=>Op1.addC hv26 (.t rfl) .i64,⟨mo fun cv=>Op1.maxI (.t rfl) (.t rfl),⟨mo fun cv=>Op1.idxU (t:=I6) hv27 U161 Z3 (.t rfl) (.t rfl),⟨.inl rfl,trivial⟩⟩⟩⟩⟩⟩⟩⟩⟩⟩⟩⟩⟩⟩ ⟨⟨_,_,_,[14],(fun cv=>[(14,OwnU I6 3 k3 w1)]),rfl,rfl,rfl,rfl,fun _=>rfl,fun _ _=>rfl,fun cv=>OpR.viaU (OpR.storeU (key:=14) hv28 ty3 (.t rfl) (.t rfl) rfl)⟩,trivial⟩ fun cv=>WN.lenU 3 (setC_len hv28) rfl<|WN.lenU 42 (setC_len hv28) rfl<|WN.lenU 44 (setC_len hv28) rfl<|WN.lenU 48 (setC_len hv28) rfl<|WN.block<|Aq<|W.region<|Am rfl rfl<|WL.lenL (s:=0) (.t rfl) fun hl29=>Ao rfl (.addI1 (.t rfl) .i64 hp19 hl29)<|Ag rfl rfl<|WL.nil<|WN.again n17 ((w1,k2+1),k3) (Nat.lt_succ_self n17) hm ⟨.q rfl,.q rfl,.q rfl,.q rfl,.q rfl,trivial⟩ ⟨rfl,rfl,trivial⟩
      ·exact W.skip<|WN.block<|Aq<|W.region<|Am rfl rfl<|WL.lenL (s:=0) (.t rfl) fun hl30=>Ao rfl (.addI1 (.t rfl) .i64 hp19 hl30)<|Ag rfl rfl<|WL.nil<|WN.again n17 ((row1,k2+1),k3) (Nat.lt_succ_self n17) hm ⟨.q rfl,.q rfl,.q rfl,.q rfl,.q rfl,trivial⟩ ⟨rfl,rfl,trivial⟩
     ·refine W.exit rfl ?_
      have hr31:=Si hm
      clear hm
      subst hr31
      have hm:=hk16
      try dsimp only at hm
      refine Aq<|W.region<|Am rfl rfl<|Am rfl rfl<|WL.mv rfl rfl ?_
      obtain ⟨v9,hv32,hm⟩:=Bs hm
      refine Ao rfl (.idxU (t:=I6) hv32 U161 Z3 (.t rfl) (.t rfl))<|Ao rfl (.loadU 14 hv32 ty3 rfl (.t rfl))<|Ao rfl (.maxI (.t rfl) (.t rfl))<|Ag rfl rfl<|WL.nil<|WN.block<|Aq<|W.region<|WL.mv rfl rfl ?_
      obtain ⟨v10,hv33,hm⟩:=Bs hm
      exact Ao rfl (.subC hv33 (.t rfl) .i64)<|Ag rfl rfl<|WL.nil<|WN.again n8 ((row1,max most v9,v10),k3) (Nat.lt_succ_self n8) hm ⟨.q rfl,.q rfl,.q rfl,.q rfl,trivial⟩ ⟨rfl,rfl,trivial⟩
   ·refine W.exit rfl ?_
    have hr34:=Si hm
    clear hm
    subst hr34
    have hm:=hk7
    try dsimp only at hm
    refine Aq<|Aw<|WL.addNil (t:=I6) (E:=3) 7<|Ao rfl (.assign (Opd.nilO (t:=I6)))<|An<|W.seq<|Aw<|Am rfl rfl<|Ao rfl (.lenL U161 (.t rfl))<|Ao rfl (.move .i64)<|An<|W.block ?_
    obtain ⟨s35,hs36,hk37⟩:=Bs hm
    clear hm
    refine W.loop (fun m (s:((List Int)×Int)×Tok)=>M.lcs_LongestIncreasing_loop3 l row most m s.1.1 s.1.2=some s35) (fun s=>[(7,(tO I6 s.2 s.1.1)),(63,(I6.is s.1.2)),(0,((tL I6).is l)),(3,(tU k1 row.length)),(4,(I6.is most)),(62,(I6.is (l.length:Int)))]) (fun s=>[(7,Dec.Own I6 3 s.2 s.1.1.length),(14,OwnU I6 3 k1 row)]) _ ((([]:List Int),(0:Int)),(none:Tok)) hs36 ⟨.q rfl,.q rfl,.q rfl,.q rfl,.q rfl,.q rfl,trivial⟩ ⟨rfl,rfl,⟨rfl,rfl,trivial⟩⟩ ?_
    rintro n38 ⟨⟨out,v11⟩,k4⟩ hm
    try dsimp only at hm
    change W _ _ _ _ _ _ _ [(7,(tO I6 k4 out)),(63,(I6.is v11)),(0,((tL I6).is l)),(3,(tU k1 row.length)),(4,(I6.is most)),(62,(I6.is (l.length:Int)))] [(7,Dec.Own I6 3 k4 out.length),(14,OwnU I6 3 k1 row)]
    cases n38 with
    | zero=>rw [M.lcs_LongestIncreasing_loop3.eq_1] at hm;cases hm
    | succ n38=>
     rw [M.lcs_LongestIncreasing_loop3.eq_2] at hm
     refine Aw<|Ao rfl (.ltI (.t rfl) (.t rfl))<|An<|W.seq<|W.cD hm (.t rfl) (fun hp40 hm=>?_) (fun hp40 hm=>?_)
     ·refine W.skip<|Aq<|W.seq<|W.block<|Aw<|Am rfl rfl<|Ag rfl rfl<|An<|W.seq ?_
      rcases iteD hm with ⟨hp42,hb41,hm⟩ | ⟨hp42,hb41,hm⟩
      ·obtain ⟨v12,hv43,hm⟩:=Bs hm
       obtain ⟨v13,hv44,hm⟩:=Bs hm
       rcases iteD hm with ⟨hp46,hb45,hm⟩ | ⟨hp46,hb45,hm⟩
       ·rcases iteD hm with ⟨hp48,hb47,hm⟩ | ⟨hp48,hb47,hm⟩
        ·refine W.draw [.c (tO I6 k4 out),.c (I6.is (out.length:Int)),.c (I6.is most),.c (tB.is (decide ((out.length:Int)< most))),.c (tB.is (decide ((out.length:Int)< most))),.c (tU k1 row.length),.c (I6.is v11),.c (Bp (bk k1) (v11.toNat*I6.size)),.c (I6.is v12),.c (I6.is most),.c (tO I6 k4 out),.c (I6.is (out.length:Int)),.c (I6.is v13),.c (tB.is (decide (v12=v13))),.c (tB.is (decide (v12=v13))),.c (tB.is (decide (v12=v13))),.c (tO I6 k4 out),.c (I6.is (out.length:Int)),.c (tB.is (decide ((out.length:Int)=(0:Int)))),.c (tB.is (decide ((out.length:Int)=(0:Int)))),.c Un,.c Un,.c Un,.c Un,.c Un,.c Un,.c Un,.c Un,.c Un,.c Un,.c Un,.c Un,.c Un,.c Un,.c (tB.is true),.c (tB.is true)] [([],[7]),([0],[]),([],[4]),([1,2],[]),([3],[]),([4],[3]),([4],[8]),([4,5,6],[]),([4,7],[]),([4],[4]),([4],[7]),([4,10],[]),([4,9,11],[]),([4,8,12],[]),([4,13],[]),([14],[]),([15],[7]),([15,16],[]),([15,17],[]),([15,18],[]),([19],[0]),([19],[8]),([19,20,21],[]),([19,22],[]),([19],[0]),([19],[7]),([19],[7]),([19,26],[]),([19,27],[]),([19,25,28],[]),([19,29],[]),([19,24,30],[]),([19,31],[]),([19,23,32],[]),([15,19,33],[]),([15,34],[])] Mx rfl rfl rfl rfl (by exact ⟨Dn (.move (.t rfl)),Dn (.lenL U161 (Opd.own (.t rfl))),Dn (.move (.t rfl)),Dn (.ltI (.t rfl) (.t rfl)),Dn (.move (.t rfl)),Dr rfl hb41 (.move (.t rfl)),Dr rfl hb41 (.move (.t rfl)),Dr rfl hb41 (.idxU (t:=I6) hv43 U161 Z3 (.t rfl) (.t rfl)),Dr rfl hb41 (.loadU 14 hv43 ty3 rfl (.t rfl)),Dr rfl hb41 (.move (.t rfl)),Dr rfl hb41 (.move (.t rfl)),Dr rfl hb41 (.lenL U161 (Opd.own (.t rfl))),Dr rfl hb41 (.subC hv44 (.t rfl) (.t rfl)),Dr rfl hb41 (.eqI (.t rfl) (.t rfl)),Dn (.pickT (.t rfl) hb41 (.t rfl)),Dn (.move (.t rfl)),Dr rfl hb45 (.move (.t rfl)),Dr rfl hb45 (.lenL U161 (Opd.own (.t rfl))),Dr rfl hb45 (.eqI (.t rfl) .i64),Dr rfl hb45 (.move (.t rfl)),Dp rfl hb47,Dp rfl hb47,Dp rfl hb47,Dp rfl hb47,Dp rfl hb47,Dp rfl hb47,Dp rfl hb47,Dp rfl hb47,Dp rfl hb47,Dp rfl hb47,Dp rfl hb47,Dp rfl hb47,Dp rfl hb47,Dp rfl hb47,Dr rfl hb45 (.pickT (.t rfl) hb47 .bool),Dn (.pickT (.t rfl) hb45 (.t rfl)),trivial⟩)<|Aq<|W.condT (.t rfl)<|W.region<|Am rfl rfl<|Am rfl rfl<|Ao rfl (.buildSlice (n:=1) (ys:=[(0,v11)]) (z:=(0:Int)) (xs:=[v11]) U161 el3 ze3 ⟨rfl,(.t rfl),trivial⟩ (by simp) (by decide) rfl) ?_
         obtain ⟨out1,hv49,hm⟩:=Bs hm
         exact WL.opR rfl (OpR.appC (key:=7) hv49 U161 el3 (.t rfl) (.t rfl) rfl) fun k5=>Ag rfl rfl<|WL.nil<|WN.block<|Aq<|W.region<|WL.lenL (s:=0) (.t rfl) fun hl50=>Ao rfl (.addI1 (.t rfl) .i64 hp40 hl50)<|Am rfl rfl<|WL.nil<|WN.again n38 ((out1,v11+1),k5) (Nat.lt_succ_self n38) hm ⟨.q rfl,.q rfl,.q rfl,.q rfl,.q rfl,.q rfl,trivial⟩ ⟨rfl,rfl,⟨rfl,rfl,trivial⟩⟩
        ·obtain ⟨v14,hv51,hm⟩:=Bs hm
         obtain ⟨v15,hv52,hm⟩:=Bs hm
         obtain ⟨v16,hv53,hm⟩:=Bs hm
         obtain ⟨v17,hv54,hm⟩:=Bs hm
         refine W.draw [.c (tO I6 k4 out),.c (I6.is (out.length:Int)),.c (I6.is most),.c (tB.is (decide ((out.length:Int)< most))),.c (tB.is (decide ((out.length:Int)< most))),.c (tU k1 row.length),.c (I6.is v11),.c (Bp (bk k1) (v11.toNat*I6.size)),.c (I6.is v12),.c (I6.is most),.c (tO I6 k4 out),.c (I6.is (out.length:Int)),.c (I6.is v13),.c (tB.is (decide (v12=v13))),.c (tB.is (decide (v12=v13))),.c (tB.is (decide (v12=v13))),.c (tO I6 k4 out),.c (I6.is (out.length:Int)),.c (tB.is (decide ((out.length:Int)=(0:Int)))),.c (tB.is (decide ((out.length:Int)=(0:Int)))),.c ((tL I6).is l),.c (I6.is v11),.c (I6.ptr v14),.c (I6.is v14),.c ((tL I6).is l),.c (tO I6 k4 out),.c (tO I6 k4 out),.c (I6.is (out.length:Int)),.c (I6.is v15),.c (I6.ptr v16),.c (I6.is v16),.c (I6.ptr v17),.c (I6.is v17),.c (tB.is (decide (v17<v14))),.c (tB.is (decide (v17<v14))),.c (tB.is (decide (v17<v14)))] [([],[7]),([0],[]),([],[4]),([1,2],[]),([3],[]),([4],[3]),([4],[8]),([4,5,6],[]),([4,7],[]),([4],[4]),([4],[7]),([4,10],[]),([4,9,11],[]),([4,8,12],[]),([4,13],[]),([14],[]),([15],[7]),([15,16],[]),([15,17],[]),([15,18],[]),([19],[0]),([19],[8]),([19,20,21],[]),([19,22],[]),([19],[0]),([19],[7]),([19],[7]),([19,26],[]),([19,27],[]),([19,25,28],[]),([19,29],[]),([19,24,30],[]),([19,31],[]),([19,23,32],[]),([15,19,33],[]),([15,34],[])] Mx rfl rfl rfl rfl (by exact ⟨Dn (.move (.t rfl)),Dn (.lenL U161 (Opd.own (.t rfl))),Dn (.move (.t rfl)),Dn (.ltI (.t rfl) (.t rfl)),Dn (.move (.t rfl)),Dr rfl hb41 (.move (.t rfl)),Dr rfl hb41 (.move (.t rfl)),Dr rfl hb41 (.idxU (t:=I6) hv43 U161 Z3 (.t rfl) (.t rfl)),Dr rfl hb41 (.loadU 14 hv43 ty3 rfl (.t rfl)),Dr rfl hb41 (.move (.t rfl)),Dr rfl hb41 (.move (.t rfl)),Dr rfl hb41 (.lenL U161 (Opd.own (.t rfl))),Dr rfl hb41 (.subC hv44 (.t rfl) (.t rfl)),Dr rfl hb41 (.eqI (.t rfl) (.t rfl)),Dn (.pickT (.t rfl) hb41 (.t rfl)),Dn (.move (.t rfl)),Dr rfl hb45 (.move (.t rfl)),Dr rfl hb45 (.lenL U161 (Opd.own (.t rfl))),Dr rfl hb45 (.eqI (.t rfl) .i64),Dr rfl hb45 (.move (.t rfl)),Dr rfl hb47 (.move (.t rfl)),Dr rfl hb47 (.move (.t rfl)),Dr rfl hb47 (.idx hv51 U161 Z3 (.t rfl) (.t rfl)),Dr rfl hb47 (.load ty3 (.t rfl)),Dr rfl hb47 (.move (.t rfl)),Dr rfl hb47 (.move (.t rfl)),Dr rfl hb47 (.move (.t rfl)),Dr rfl hb47 (.lenL U161 (Opd.own (.t rfl))),Dr rfl hb47 (.subC hv52 (.t rfl) .i64),Dr rfl hb47 (.idx hv53 U161 Z3 (Opd.own (.t rfl)) (.t rfl)),Dr rfl hb47 (.load ty3 (.t rfl)),Dr rfl hb47 (.idx hv54 U161 Z3 (.t rfl) (.t rfl)),Dr rfl hb47 (.load ty3 (.t rfl)),Dr rfl hb47 (.gtI (.t rfl) (.t rfl)),Dr rfl hb45 (.pickF (.t rfl) hb47 (.t rfl)),Dn (.pickT (.t rfl) hb45 (.t rfl)),trivial⟩)<|Aq<|W.cD hm (.t rfl) (fun hp56 hm=>?_) (fun hp56 hm=>?_)
         ·refine W.region<|Am rfl rfl<|Am rfl rfl<|Ao rfl (.buildSlice (n:=1) (ys:=[(0,v11)]) (z:=(0:Int)) (xs:=[v11]) U161 el3 ze3 ⟨rfl,(.t rfl),trivial⟩ (by simp) (by decide) rfl) ?_
          obtain ⟨out2,hv57,hm⟩:=Bs hm
          exact WL.opR rfl (OpR.appC (key:=7) hv57 U161 el3 (.t rfl) (.t rfl) rfl) fun k6=>Ag rfl rfl<|WL.nil<|WN.block<|Aq<|W.region<|WL.lenL (s:=0) (.t rfl) fun hl58=>Ao rfl (.addI1 (.t rfl) .i64 hp40 hl58)<|Am rfl rfl<|WL.nil<|WN.again n38 ((out2,v11+1),k6) (Nat.lt_succ_self n38) hm ⟨.q rfl,.q rfl,.q rfl,.q rfl,.q rfl,.q rfl,trivial⟩ ⟨rfl,rfl,⟨rfl,rfl,trivial⟩⟩
         ·exact W.skip<|WN.block<|Aq<|W.region<|WL.lenL (s:=0) (.t rfl) fun hl59=>Ao rfl (.addI1 (.t rfl) .i64 hp40 hl59)<|Am rfl rfl<|WL.nil<|WN.again n38 ((out,v11+1),k4) (Nat.lt_succ_self n38) hm ⟨.q rfl,.q rfl,.q rfl,.q rfl,.q rfl,.q rfl,trivial⟩ ⟨rfl,rfl,⟨rfl,rfl,trivial⟩⟩
       ·exact W.draw [.c (tO I6 k4 out),.c (I6.is (out.length:Int)),.c (I6.is most),.c (tB.is (decide ((out.length:Int)< most))),.c (tB.is (decide ((out.length:Int)< most))),.c (tU k1 row.length),.c (I6.is v11),.c (Bp (bk k1) (v11.toNat*I6.size)),.c (I6.is v12),.c (I6.is most),.c (tO I6 k4 out),.c (I6.is (out.length:Int)),.c (I6.is v13),.c (tB.is (decide (v12=v13))),.c (tB.is (decide (v12=v13))),.c (tB.is (decide (v12=v13))),.c Un,.c Un,.c Un,.c Un,.c Un,.c Un,.c Un,.c Un,.c Un,.c Un,.c Un,.c Un,.c Un,.c Un,.c Un,.c Un,.c Un,.c Un,.c Un,.c (tB.is false)] [([],[7]),([0],[]),([],[4]),([1,2],[]),([3],[]),([4],[3]),([4],[8]),([4,5,6],[]),([4,7],[]),([4],[4]),([4],[7]),([4,10],[]),([4,9,11],[]),([4,8,12],[]),([4,13],[]),([14],[]),([15],[7]),([15,16],[]),([15,17],[]),([15,18],[]),([19],[0]),([19],[8]),([19,20,21],[]),([19,22],[]),([19],[0]),([19],[7]),([19],[7]),([19,26],[]),([19,27],[]),([19,25,28],[]),([19,29],[]),([19,24,30],[]),([19,31],[]),([19,23,32],[]),([15,19,33],[]),([15,34],[])] Mx rfl rfl rfl rfl (by exact ⟨Dn (.move (.t rfl)),Dn (.lenL U161 (Opd.own (.t rfl))),Dn (.move (.t rfl)),Dn (.ltI (.t rfl) (.t rfl)),Dn (.move (.t rfl)),Dr rfl hb41 (.move (.t rfl)),Dr rfl hb41 (.move (.t rfl)),Dr rfl hb41 (.idxU (t:=I6) hv43 U161 Z3 (.t rfl) (.t rfl)),Dr rfl hb41 (.loadU 14 hv43 ty3 rfl (.t rfl)),Dr rfl hb41 (.move (.t rfl)),Dr rfl hb41 (.move (.t rfl)),Dr rfl hb41 (.lenL U161 (Opd.own (.t rfl))),Dr rfl hb41 (.subC hv44 (.t rfl) (.t rfl)),Dr rfl hb41 (.eqI (.t rfl) (.t rfl)),Dn (.pickT (.t rfl) hb41 (.t rfl)),Dn (.move (.t rfl)),Dp rfl hb45,Dp rfl hb45,Dp rfl hb45,Dp rfl hb45,.inr ⟨_,_,true,rfl,rfl,.inr ⟨rfl,rfl⟩⟩,.inr ⟨_,_,true,rfl,rfl,.inr ⟨rfl,rfl⟩⟩,.inr ⟨_,_,true,rfl,rfl,.inr ⟨rfl,rfl⟩⟩,.inr ⟨_,_,true,rfl,rfl,.inr ⟨rfl,rfl⟩⟩,.inr ⟨_,_,true,rfl,rfl,.inr ⟨rfl,rfl⟩⟩,.inr ⟨_,_,true,rfl,rfl,.inr ⟨rfl,rfl⟩⟩,.inr ⟨_,_,true,rfl,rfl,.inr ⟨rfl,rfl⟩⟩,.inr ⟨_,_,true,rfl,rfl,.inr ⟨rfl,rfl⟩⟩,.inr ⟨_,_,true,rfl,rfl,.inr ⟨rfl,rfl⟩⟩,.inr ⟨_,_,true,rfl,rfl,.inr ⟨rfl,rfl⟩⟩,.inr ⟨_,_,true,rfl,rfl,.inr ⟨rfl,rfl⟩⟩,.inr ⟨_,_,true,rfl,rfl,.inr ⟨rfl,rfl⟩⟩,.inr ⟨_,_,true,rfl,rfl,.inr ⟨rfl,rfl⟩⟩,.inr ⟨_,_,true,rfl,rfl,.inr ⟨rfl,rfl⟩⟩,Dp rfl hb45,Dn (.pickF (.t rfl) hb45 .bool),trivial⟩)<|Aq<|W.condF (.t rfl)<|W.skip<|WN.block<|Aq<|W.region<|WL.lenL (s:=0) (.t rfl) fun hl60=>Ao rfl (.addI1 (.t rfl) .i64 hp40 hl60)<|Am rfl rfl<|WL.nil<|WN.again n38 ((out,v11+1),k4) (Nat.lt_succ_self n38) hm ⟨.q rfl,.q rfl,.q rfl,.q rfl,.q rfl,.q rfl,trivial⟩ ⟨rfl,rfl,⟨rfl,rfl,trivial⟩⟩
      ·exact W.draw [.c (tO I6 k4 out),.c (I6.is (out.length:Int)),.c (I6.is most),.c (tB.is (decide ((out.length:Int)< most))),.c (tB.is (decide ((out.length:Int)< most))),.c Un,.c Un,.c Un,.c Un,.c Un,.c Un,.c Un,.c Un,.c Un,.c (tB.is false),.c (tB.is false),.c Un,.c Un,.c Un,.c Un,.c Un,.c Un,.c Un,.c Un,.c Un,.c Un,.c Un,.c Un,.c Un,.c Un,.c Un,.c Un,.c Un,.c Un,.c Un,.c (tB.is false)] [([],[7]),([0],[]),([],[4]),([1,2],[]),([3],[]),([4],[3]),([4],[8]),([4,5,6],[]),([4,7],[]),([4],[4]),([4],[7]),([4,10],[]),([4,9,11],[]),([4,8,12],[]),([4,13],[]),([14],[]),([15],[7]),([15,16],[]),([15,17],[]),([15,18],[]),([19],[0]),([19],[8]),([19,20,21],[]),([19,22],[]),([19],[0]),([19],[7]),([19],[7]),([19,26],[]),([19,27],[]),([19,25,28],[]),([19,29],[]),([19,24,30],[]),([19,31],[]),([19,23,32],[]),([15,19,33],[]),([15,34],[])] Mx rfl rfl rfl rfl (by exact ⟨Dn (.move (.t rfl)),Dn (.lenL U161 (Opd.own (.t rfl))),Dn (.move (.t rfl)),Dn (.ltI (.t rfl) (.t rfl)),Dn (.move (.t rfl)),Dp rfl hb41,Dp rfl hb41,Dp rfl hb41,Dp rfl hb41,Dp rfl hb41,Dp rfl hb41,Dp rfl hb41,Dp rfl hb41,Dp rfl hb41,Dn (.pickF (.t rfl) hb41 .bool),Dn (.move (.t rfl)),Dp rfl rfl,Dp rfl rfl,Dp rfl rfl,Dp rfl rfl,.inr ⟨_,_,true,rfl,rfl,.inr ⟨rfl,rfl⟩⟩,.inr ⟨_,_,true,rfl,rfl,.inr ⟨rfl,rfl⟩⟩,.inr ⟨_,_,true,rfl,rfl,.inr ⟨rfl,rfl⟩⟩,.inr ⟨_,_,true,rfl,rfl,.inr ⟨rfl,rfl⟩⟩,.inr ⟨_,_,true,rfl,rfl,.inr ⟨rfl,rfl⟩⟩,.inr ⟨_,_,true,rfl,rfl,.inr ⟨rfl,rfl⟩⟩,.inr ⟨_,_,true,rfl,rfl,.inr ⟨rfl,rfl⟩⟩,.inr ⟨_,_,true,rfl,rfl,.inr ⟨rfl,rfl⟩⟩,.inr ⟨_,_,true,rfl,rfl,.inr ⟨rfl,rfl⟩⟩,.inr ⟨_,_,true,rfl,rfl,.inr ⟨rfl,rfl⟩⟩,.inr ⟨_,_,true,rfl,rfl,.inr ⟨rfl,rfl⟩⟩,.inr ⟨_,_,true,rfl,rfl,.inr ⟨rfl,rfl⟩⟩,.inr ⟨_,_,true,rfl,rfl,.inr ⟨rfl,rfl⟩⟩,.inr ⟨_,_,true,rfl,rfl,.inr ⟨rfl,rfl⟩⟩,Dp rfl rfl,Dn (.pickF (.t rfl) rfl .bool),trivial⟩)<|Aq<|W.condF (.t rfl)<|W.skip<|WN.block<|Aq<|W.region<|WL.lenL (s:=0) (.t rfl) fun hl61=>Ao rfl (.addI1 (.t rfl) .i64 hp40 hl61)<|Am rfl rfl<|WL.nil<|WN.again n38 ((out,v11+1),k4) (Nat.lt_succ_self n38) hm ⟨.q rfl,.q rfl,.q rfl,.q rfl,.q rfl,.q rfl,trivial⟩ ⟨rfl,rfl,⟨rfl,rfl,trivial⟩⟩
     ·refine W.exit rfl ?_
      have hr62:=Si hm
      clear hm
      subst hr62
      have hm:=hk37
      try dsimp only at hm
      refine Aq<|Aw<|Am rfl rfl<|Ag rfl rfl<|WL.ns ?_
      cases hm
      exact W.ret1 () rfl (Opd.own (.t rfl)) trivial
theorem diff_pair_stays_spec(n:Nat)(x:diff_pair)(u:api_Unit)(r:List (api_Id×Bool))(hm:M.diff_pair_stays n x u=some r):FSpec Tryz.prog 125 [(tdiff_pair.is x),(tapi_Unit.is u)] ((tQ tapi_Id tB).is r):=by
 unfold M.diff_pair_stays at hm
 refine FSpec.of Tryz.func125 rfl rfl rfl fun g0=>Aw<|Ao rfl (.box (.t rfl))<|Ao rfl (.box (.t rfl))<|Ao rfl (.assign .const)<|Ar<|WL.addNil (t:=tapi_Id) (E:=23) 5<|Ao rfl (.assign (Opd.nilO (t:=tapi_Id)))<|Ar<|WL.addNil (t:=I6) (E:=3) 6<|Ao rfl (.assign (Opd.nilO (t:=I6)))<|An<|W.seq<|Aw<|Ao rfl (.fieldAddr U27 rfl J25 fapi_Unit_5 (.t rfl))<|Ao rfl (.load ty25 (.t rfl)) ?_
 refine Ao rfl (.lenL U25 (.t rfl))<|Ao rfl (.move .i64)<|An<|W.block ?_
 obtain ⟨s1,hs2,hk3⟩:=Bs hm
 clear hm
 refine W.loop (fun m (s:Int×List api_Unit×List api_Unit×(((List api_Id)×(List Int))×(Tok×Tok)))=>m=s.2.2.1.length∧u.Kids=s.2.1++s.2.2.1∧s.1=(s.2.1.length:Int)∧M.diff_pair_stays_loop1 x u s.2.2.1 s.2.2.2.1.1 s.2.2.2.1.2=some s1) (fun s=>[(19,(I6.is s.1)),(5,(tO tapi_Id s.2.2.2.2.1 s.2.2.2.1.1)),(6,(tO I6 s.2.2.2.2.2 s.2.2.2.1.2)),(2,(tdiff_pair.ptr x)),(3,(tapi_Unit.ptr u)),(17,((tL tapi_Unit).is u.Kids)),(18,(I6.is (u.Kids.length:Int)))]) (fun s=>[(5,Dec.Own tapi_Id 23 s.2.2.2.2.1 s.2.2.2.1.1.length),(6,Dec.Own I6 3 s.2.2.2.2.2 s.2.2.2.1.2.length)]) u.Kids.length ((0:Int),[],u.Kids,((([]:List api_Id),([]:List Int)),((none:Tok),(none:Tok)))) ⟨rfl,rfl,rfl,hs2⟩ ⟨.q rfl,.q rfl,.q rfl,.q rfl,.q rfl,.q rfl,.q rfl,trivial⟩ ⟨rfl,rfl,⟨rfl,rfl,trivial⟩⟩ ?_
 rintro m ⟨i,pre,rest3,⟨⟨ids,at0_⟩,⟨k,k1⟩⟩⟩ ⟨hn7,hxs4,hi5,hm⟩
 try dsimp only at hn7 hxs4 hi5 hm
 change W _ _ _ _ _ _ _ [(19,(I6.is i)),(5,(tO tapi_Id k ids)),(6,(tO I6 k1 at0_)),(2,(tdiff_pair.ptr x)),(3,(tapi_Unit.ptr u)),(17,((tL tapi_Unit).is u.Kids)),(18,(I6.is (u.Kids.length:Int)))] [(5,Dec.Own tapi_Id 23 k ids.length),(6,Dec.Own I6 3 k1 at0_.length)]
 refine W.lenL (s:=17) (.t rfl) fun hlen6=>Aw<|Ao rfl (.ltI (.t rfl) (.t rfl))<|An<|W.seq<|W.cond (.t rfl) (fun hc9=>?_) (fun hc9=>?_)
 ·have hp10:=of_decide_eq_true hc9
  obtain ⟨e,es,hrest12⟩:=range_more hxs4 hi5 hp10
  subst hrest12
  rw [M.diff_pair_stays_loop1.eq_2] at hm
  refine W.skip<|Aq<|W.seq<|W.block<|Aw<|Ao rfl (.idxPre hxs4 hi5 U25 Z27 (.t rfl) (.t rfl))<|Ao rfl (.load ty27 (.t rfl))<|WL.opR rfl (OpR.alloc 8 ze27) fun b=>WL.opU (OpR.storeB (b:=b) 8 Z27 (Cellable.is tapi_Unit e) rfl (.t rfl) (.t rfl)) fun _=>WL.sealed (t:=tapi_Unit) (u:=e) 8 8 rfl rfl<|Ar<|Ao rfl (.fieldAddr Tryz.underlying129 rfl J127 fdiff_pair_2 (.t rfl))<|Ao rfl (.load ty127 (.t rfl))<|Ao rfl (.fieldAddr U27 rfl J23 fapi_Unit_0 (.t rfl))<|Ao rfl (.load ty23 (.t rfl))<|Ao rfl (.lookupSOkQ U127 kt23 ze171 (.t rfl) (.t rfl)) ?_
  refine Am rfl rfl<|Ao rfl (.extract0 (.t rfl))<|Ao rfl (.extract1 (.t rfl))<|WL.opR rfl (OpR.alloc 9 ze171) fun b1=>WL.opU (OpR.storeB (b:=b1) 9 Z171 (Cellable.is tdiff_place ((mget x.p_ e.Id zdiff_place,mhas x.p_ e.Id).1)) rfl (.t rfl) (.t rfl)) fun _=>WL.sealed (t:=tdiff_place) (u:=((mget x.p_ e.Id zdiff_place,mhas x.p_ e.Id).1)) 9 9 rfl rfl<|Ag rfl rfl<|WL.ns ?_
  obtain ⟨s13,hs14,hk15⟩:=Bs hm
  clear hm
  refine W.join (fun s:Bool=>s=s13) (fun s=>[(38,(tB.is s)),(2,(tdiff_pair.ptr x)),(3,(tapi_Unit.ptr u)),(5,(tO tapi_Id k ids)),(6,(tO I6 k1 at0_)),(8,(tapi_Unit.ptr e)),(9,(tdiff_place.ptr ((mget x.p_ e.Id zdiff_place,mhas x.p_ e.Id).1))),(17,((tL tapi_Unit).is u.Kids)),(18,(I6.is (u.Kids.length:Int))),(19,(I6.is i))]) (fun s=>[(5,Dec.Own tapi_Id 23 k ids.length),(6,Dec.Own I6 3 k1 at0_.length)]) ?_ ?_
  ·rintro v hj26
   try dsimp only at hj26
   subst hj26
   have hm:=hk15
   clear hk15
   try dsimp only at hm
   change W _ _ _ _ _ _ _ [(38,(tB.is v)),(2,(tdiff_pair.ptr x)),(3,(tapi_Unit.ptr u)),(5,(tO tapi_Id k ids)),(6,(tO I6 k1 at0_)),(8,(tapi_Unit.ptr e)),(9,(tdiff_place.ptr ((mget x.p_ e.Id zdiff_place,mhas x.p_ e.Id).1))),(17,((tL tapi_Unit).is u.Kids)),(18,(I6.is (u.Kids.length:Int))),(19,(I6.is i))] [(5,Dec.Own tapi_Id 23 k ids.length),(6,Dec.Own I6 3 k1 at0_.length)]
   refine W.cB hm (.t rfl) (fun hp19 hm=>?_) (fun hp19 hm=>?_)
   ·refine Aw<|Ao rfl (.fieldAddr Tryz.underlying129 rfl J127 fdiff_pair_2 (.t rfl))<|Ao rfl (.load ty127 (.t rfl))<|Ao rfl (.fieldAddr U27 rfl J23 fapi_Unit_0 (.t rfl))<|Ao rfl (.load ty23 (.t rfl))<|Ao rfl (.lookupSOkQ U127 kt23 ze171 (.t rfl) (.t rfl))<|Am rfl rfl<|Ao rfl (.extract0 (.t rfl))<|Ao rfl (.extract1 (.t rfl))<|WL.opR rfl (OpR.alloc 11 ze171) fun b2=>WL.opU (OpR.storeB (b:=b2) 11 Z171 (Cellable.is tdiff_place ((mget x.p_ u.Id zdiff_place,mhas x.p_ u.Id).1)) rfl (.t rfl) (.t rfl)) fun _=>WL.sealed (t:=tdiff_place) (u:=((mget x.p_ u.Id zdiff_place,mhas x.p_ u.Id).1)) 11 11 rfl rfl<|Ag rfl rfl<|Ar<|Am rfl rfl<|WL.ns ?_
    refine W.cB hm (.t rfl) (fun hp21 hm=>?_) (fun hp21 hm=>?_)
    ·obtain ⟨ids2,hv24,hm⟩:=Bs hm
     obtain ⟨at0_2,hv25,hm⟩:=Bs hm
     exact W.weakR (res':=[(5,Dec.Own tapi_Id 23 k ids.length),(6,Dec.Own I6 3 k1 at0_.length)]) ⟨rfl,rfl,⟨rfl,rfl,trivial⟩⟩<|W.drawM [.c (tO tapi_Id k ids),.c (tapi_Id.ptr e.Id),.c (tapi_Id.is e.Id),.c ((tL tapi_Id).is [e.Id]),.f (fun cv=>(tO tapi_Id (cv 0) ids2)),.c (tO I6 k1 at0_),.c (I6.ptr (((mget x.p_ e.Id zdiff_place,mhas x.p_ e.Id).1).at_)),.c (I6.is (((mget x.p_ e.Id zdiff_place,mhas x.p_ e.Id).1).at_)),.c ((tL I6).is [((mget x.p_ e.Id zdiff_place,mhas x.p_ e.Id).1).at_]),.f (fun cv=>(tO I6 (cv 1) at0_2)),.f (fun cv=>(tO tapi_Id (cv 0) ids2)),.f (fun cv=>(tO I6 (cv 1) at0_2))] [([],[5]),([],[8]),([1],[]),([2],[]),([0,3],[]),([],[6]),([],[9]),([6],[]),([7],[]),([5,8],[]),([4],[]),([9],[])] [4,9] [[],[],[],[],[true],[],[],[],[],[false,true],[true],[false,true]] (fun m cv=>match m with | 0=>[(5,Dec.Own tapi_Id 23 k ids.length),(6,Dec.Own I6 3 k1 at0_.length)] | 1=>[(5,Dec.Own tapi_Id 23 (cv 0) ids2.length),(6,Dec.Own I6 3 k1 at0_.length)] | _=>[(6,Dec.Own I6 3 (cv 1) at0_2.length),(5,Dec.Own tapi_Id 23 (cv 0) ids2.length)]) (fun _=>none) Mx rfl rfl rfl rfl rfl ⟨fun _ _ _ _=>rfl,⟨fun _ _ _ _=>rfl,⟨fun _ _ _ _=>rfl,⟨fun _ _ _ _=>rfl,⟨fun m hm c t=>by simp only [DA.at,upd_dep (r:=[true]) (j:=0) rfl hm],⟨fun _ _ _ _=>rfl,⟨fun _ _ _ _=>rfl,⟨fun _ _ _ _=>rfl,⟨fun _ _ _ _=>rfl,⟨fun m hm c t=>by simp only [DA.at,upd_dep (r:=[false,true]) (j:=1) rfl hm],⟨fun m hm c t=>by simp only [DA.at,upd_dep (r:=[true]) (j:=0) rfl hm],⟨fun m hm c t=>by simp only [DA.at,upd_dep (r:=[false,true]) (j:=1) rfl hm],trivial⟩⟩⟩⟩⟩⟩⟩⟩⟩⟩⟩⟩ rfl ⟨mo fun cv=>Op1.move (.t rfl),⟨mo fun cv=>Op1.fieldAddr U27 rfl J23 fapi_Unit_0 (.t rfl),⟨mo fun cv=>Op1.load ty23 (.t rfl),⟨mo fun cv=>Op1.buildSlice (n:=1) (ys:=[(0,e.Id)]) (z:=zapi_Id) (xs:=[e.Id]) U88 el23 ze23 ⟨rfl,(.t rfl),trivial⟩ (by simp) (by decide) rfl,⟨.inl rfl,⟨mo fun cv=>Op1.move (.t rfl),⟨mo fun cv=>Op1.fieldAddr Tryz.underlying171 rfl J3 fdiff_place_1 (.t rfl),⟨mo fun cv=>Op1.load ty3 (.t rfl),⟨mo fun cv=>Op1.buildSlice (n:=1) (ys:=[(0,((mget x.p_ e.Id zdiff_place,mhas x.p_ e.Id).1).at_)]) (z:=(0:Int)) (xs:=[((mget x.p_ e.Id zdiff_place,mhas x.p_ e.Id).1).at_]) U161 el3 ze3 ⟨rfl,(.t rfl),trivial⟩ (by simp) (by decide) rfl,⟨.inl rfl,⟨mo fun cv=>Op1.assign (.t rfl),⟨mo fun cv=>Op1.assign (.t rfl),trivial⟩⟩⟩⟩⟩⟩⟩⟩⟩⟩⟩⟩ ⟨⟨_,_,_,[5],(fun cv=>[(5,Dec.Own tapi_Id 23 (cv 0) ids2.length)]),rfl,rfl,rfl,rfl,fun _=>rfl,fun _ _=>rfl,fun cv=>OpR.appC (key:=5) hv24 U88 el23 (.t rfl) (.t rfl) rfl⟩,⟨⟨_,_,_,[6],(fun cv=>[(6,Dec.Own I6 3 (cv 1) at0_2.length)]),rfl,rfl,rfl,rfl,fun _=>rfl,fun _ _=>rfl,fun cv=>OpR.appC (key:=6) hv25 U161 el3 (.t rfl) (.t rfl) rfl⟩,trivial⟩⟩ fun cv=>WN.block<|Aq<|W.region<|Ao rfl (.addI (.t rfl) .i64 (range_inR hi5 hp10 hlen6))<|Am rfl rfl<|WL.nil<|WN.again es.length (i+1,pre++ [e],es,((ids2,at0_2),((cv 0),(cv 1)))) (range_lt hn7) ⟨rfl,range_step hxs4,range_idx hi5,hm⟩ ⟨.q rfl,.q rfl,.q rfl,.q rfl,.q rfl,.q rfl,.q rfl,trivial⟩ ⟨rfl,rfl,⟨rfl,rfl,trivial⟩⟩
    ·exact W.skip<|WN.block<|Aq<|W.region<|Ao rfl (.addI (.t rfl) .i64 (range_inR hi5 hp10 hlen6))<|Am rfl rfl<|WL.nil<|WN.again es.length (i+1,pre++ [e],es,((ids,at0_),(k,k1))) (range_lt hn7) ⟨rfl,range_step hxs4,range_idx hi5,hm⟩ ⟨.q rfl,.q rfl,.q rfl,.q rfl,.q rfl,.q rfl,.q rfl,trivial⟩ ⟨rfl,rfl,⟨rfl,rfl,trivial⟩⟩
   ·exact W.skip<|WN.block<|Aq<|W.region<|Ao rfl (.addI (.t rfl) .i64 (range_inR hi5 hp10 hlen6))<|Am rfl rfl<|WL.nil<|WN.again es.length (i+1,pre++ [e],es,((ids,at0_),(k,k1))) (range_lt hn7) ⟨rfl,range_step hxs4,range_idx hi5,hm⟩ ⟨.q rfl,.q rfl,.q rfl,.q rfl,.q rfl,.q rfl,.q rfl,trivial⟩ ⟨rfl,rfl,⟨rfl,rfl,trivial⟩⟩
  ·have hm:=hs14
   clear hs14
   refine W.region<|Am rfl rfl<|WL.mv rfl rfl ?_
   rcases iteB hm with ⟨hp17,hb16,hm⟩ | ⟨hp17,hb16,hm⟩
   ·exact Ax rfl hb16 (.fieldAddr Tryz.underlying171 rfl J23 fdiff_place_0 (.t rfl))<|Ax rfl hb16 (.load ty23 (.t rfl))<|Ax rfl hb16 (.fieldAddr U27 rfl J23 fapi_Unit_0 (.t rfl))<|Ax rfl hb16 (.load ty23 (.t rfl))<|Ax rfl hb16 (.eqSt (D:=2) rfl (by decide) eg23 eq23 (.t rfl) (.t rfl))<|Ao rfl (.pickT (.t rfl) hb16 (.t rfl))<|WL.nil<|WN.meet (decide ((((mget x.p_ e.Id zdiff_place,mhas x.p_ e.Id).1).parent_)=u.Id)) (Si hm) ⟨.q rfl,.q rfl,.q rfl,.q rfl,.q rfl,.q rfl,.q rfl,.q rfl,.q rfl,.q rfl,trivial⟩ ⟨rfl,rfl,⟨rfl,rfl,trivial⟩⟩
   ·exact Ap rfl hb16<|Ap rfl hb16<|Ap rfl hb16<|Ap rfl hb16<|Ap rfl hb16<|Ao rfl (.pickF (.t rfl) hb16 .bool)<|WL.nil<|WN.meet false (Si hm) ⟨.q rfl,.q rfl,.q rfl,.q rfl,.q rfl,.q rfl,.q rfl,.q rfl,.q rfl,.q rfl,trivial⟩ ⟨rfl,rfl,⟨rfl,rfl,trivial⟩⟩
 ·have hrest12:=range_end hxs4 hi5 (of_decide_eq_false hc9)
  subst hrest12
  rw [M.diff_pair_stays_loop1.eq_1] at hm
  refine W.exit rfl ?_
  have hr27:=Si hm
  clear hm
  subst hr27
  have hm:=hk3
  try dsimp only at hm
  refine Aq<|Aw<|WL.opR rfl (OpR.makeMapQ tapi_Id tB 59) fun b3=>Ag rfl rfl<|An<|W.seq<|Aw<|WL.mv rfl rfl ?_
  obtain ⟨longes,hv28,hm⟩:=Bs hm
  refine Ao rfl (.call C162 (lcs_LongestIncreasing_spec _ _ _ hv28) ⟨(Opd.own (.t rfl)),trivial⟩)<|Ao rfl (.lenL U161 (.t rfl))<|Ao rfl (.move .i64)<|An<|W.block ?_
  obtain ⟨s29,hs30,hk31⟩:=Bs hm
  clear hm
  refine W.loop (fun m (s:Int×List Int×List Int×((List (api_Id×Bool))))=>m=s.2.2.1.length∧longes=s.2.1++s.2.2.1∧s.1=(s.2.1.length:Int)∧M.diff_pair_stays_loop2 ids s.2.2.1 s.2.2.2=some s29) (fun s=>[(63,(I6.is s.1)),(5,(tO tapi_Id k ids)),(13,(Mv b3)),(61,((tL I6).is longes)),(62,(I6.is (longes.length:Int)))]) (fun s=>[(5,Dec.Own tapi_Id 23 k ids.length),(59,Mq tapi_Id tB s.2.2.2 b3)]) longes.length ((0:Int),[],longes,([]:List (api_Id×Bool))) ⟨rfl,rfl,rfl,hs30⟩ ⟨.q rfl,.q rfl,.q rfl,.q rfl,.q rfl,trivial⟩ ⟨rfl,rfl,⟨rfl,rfl,trivial⟩⟩ ?_
  rintro m ⟨i1,pre1,rest2,v1⟩ ⟨hn35,hxs32,hi33,hm⟩
  try dsimp only at hn35 hxs32 hi33 hm
  change W _ _ _ _ _ _ _ [(63,(I6.is i1)),(5,(tO tapi_Id k ids)),(13,(Mv b3)),(61,((tL I6).is longes)),(62,(I6.is (longes.length:Int)))] [(5,Dec.Own tapi_Id 23 k ids.length),(59,Mq tapi_Id tB v1 b3)]
  refine W.lenL (s:=61) (.t rfl) fun hlen34=>Aw<|Ao rfl (.ltI (.t rfl) (.t rfl))<|An<|W.seq<|W.cond (.t rfl) (fun hc37=>?_) (fun hc37=>?_)
  ·have hp38:=of_decide_eq_true hc37
   obtain ⟨e1,es1,hrest40⟩:=range_more hxs32 hi33 hp38
   subst hrest40
   rw [M.diff_pair_stays_loop2.eq_2] at hm
   refine W.skip<|Aq<|W.seq<|W.block<|Aw<|Ao rfl (.idxPre hxs32 hi33 U161 Z3 (.t rfl) (.t rfl))<|Ao rfl (.load ty3 (.t rfl))<|Ag rfl rfl<|WL.nr1<|Am rfl rfl<|Am rfl rfl<|WL.mv rfl rfl ?_
   obtain ⟨v2,hv41,hm⟩:=Bs hm
   exact Ao rfl (.idx hv41 U88 Z23 (Opd.own (.t rfl)) (.t rfl))<|Ao rfl (.load ty23 (.t rfl))<|WL.opU (OpR.mapUpdateQ (b:=b3) (v:=true) 59 U57 kt23 rfl (.t rfl) (.t rfl) .bool) fun _=>WL.nil<|WN.block<|Aq<|W.region<|Ao rfl (.addI (.t rfl) .i64 (range_inR hi33 hp38 hlen34))<|Am rfl rfl<|WL.nil<|WN.again es1.length (i1+1,pre1++ [e1],es1,mset v1 v2 true) (range_lt hn35) ⟨rfl,range_step hxs32,range_idx hi33,hm⟩ ⟨.q rfl,.q rfl,.q rfl,.q rfl,.q rfl,trivial⟩ ⟨rfl,rfl,⟨rfl,rfl,trivial⟩⟩
  ·have hrest40:=range_end hxs32 hi33 (of_decide_eq_false hc37)
   subst hrest40
   rw [M.diff_pair_stays_loop2.eq_1] at hm
   refine W.exit rfl ?_
   have hr42:=Si hm
   clear hm
   subst hr42
   have hm:=hk31
   try dsimp only at hm
   refine Aq<|Aw<|Am rfl rfl<|Ag rfl rfl<|WL.ns ?_
   have hr:=Si hm
   clear hm
   subst hr
   exact W.sealQ 59 rfl<|W.slotG ((tQ tapi_Id tB).is v1) 4 rfl (mapQ (key:=59) rfl)<|W.ret1 () rfl (.t rfl) trivial
theorem diff_pair_moved_1_spec(n:Nat)(u:api_Unit)(parent:api_Unit)(c:diff_pair)(c1:List (api_Id×Bool))(c2:List api_Id)(b:Nat)(b1:Nat)(k:Tok)(r:(List (api_Id×Bool))×(List api_Id))(hm:M.diff_pair_moved_1 n u parent c c1 c2=some r):FSpecR Tryz.prog 124 [(tapi_Unit.is u),(tapi_Unit.is parent),(tdiff_pair.ptr c),((tMb b:Ty (List (api_Id×Bool))).ptr ([]:List (api_Id×Bool))),(Bp b1 0)] [(3,Mq tapi_Id tB c1 b),(4,(Bx 1 false 88 (tO tapi_Id k c2) b1)),(1000004,Dec.Own tapi_Id 23 k c2.length)] (fun kx:Tok=>(Asn.eq (.tuple #[]))) (fun kx:Tok=>[(3,Mq tapi_Id tB r.1 b),(4,(Bx 1 false 88 (tO tapi_Id kx r.2) b1)),(1000004,Dec.Own tapi_Id 23 kx r.2.length)]):=by
 unfold M.diff_pair_moved_1 at hm
 refine FSpecR.of Tryz.func124 rfl rfl rfl fun g0=>Aw<|Ao rfl (.box (.t rfl))<|Ao rfl (.box (.t rfl))<|An<|W.seq<|Aw<|Ao rfl (.load ty129 (.t rfl))<|Ao rfl (.load ty27 (.t rfl)) ?_
 obtain ⟨stays,hv1,hm⟩:=Bs hm
 refine Ao rfl (.call C125 (diff_pair_stays_spec _ _ _ _ hv1) ⟨(.t rfl),(.t rfl),trivial⟩)<|WL.opR rfl (OpR.rangeQ 13 U57 (.t rfl)) fun b2=>An<|W.block ?_
 obtain ⟨m0_1,h8,hm⟩:=Bs hm
 refine W.keysQ 3 rfl fun h6=>W.loop (fun k (s:List (api_Id×Bool)×Option (api_Id×Bool)×List (api_Id×Bool))=>k=s.1.length∧SetI true m0_1 s.1 s.2.2) (fun _=>[(2,(tdiff_pair.ptr c)),(3,((tMb b:Ty (List (api_Id×Bool))).ptr ([]:List (api_Id×Bool)))),(4,(Bp b1 0)),(5,(tapi_Unit.ptr u)),(13,(Bp b2 0))]) (fun s=>[(1000004,Dec.Own tapi_Id 23 k c2.length),(4,(Bx 1 false 88 (tO tapi_Id k c2) b1)),(13,ItQ tapi_Id tB s.1 s.2.1 b2),(3,Mq tapi_Id tB s.2.2 b)]) _ (stays,none,c1) ⟨rfl,setI_start h6 h8⟩ ⟨.q rfl,.q rfl,.q rfl,.q rfl,.q rfl,trivial⟩ ⟨rfl,rfl,⟨rfl,rfl,⟨rfl,rfl,⟨rfl,rfl,trivial⟩⟩⟩⟩ ?_
 rintro kx ⟨lm,last,m0_⟩ ⟨h2,h3⟩
 try dsimp only at h2 h3
 change W _ _ _ _ _ _ _ [(2,(tdiff_pair.ptr c)),(3,((tMb b:Ty (List (api_Id×Bool))).ptr ([]:List (api_Id×Bool)))),(4,(Bp b1 0)),(5,(tapi_Unit.ptr u)),(13,(Bp b2 0))] [(1000004,Dec.Own tapi_Id 23 k c2.length),(4,(Bx 1 false 88 (tO tapi_Id k c2) b1)),(13,ItQ tapi_Id tB lm last b2),(3,Mq tapi_Id tB m0_ b)]
 refine W.sr ?_
 by_cases h4:lm= []
 ·subst h4
  refine Ao rfl (.nextQF 13 rfl (.t rfl))<|Ao rfl (.extract10 (.t rfl))<|An<|W.seq<|W.condF (.t rfl)<|W.exit rfl<|WN.permQ 3 (setI_end h3) rfl<|Aq<|Aw<|Ao rfl (.fieldAddr Tryz.underlying129 rfl J127 fdiff_pair_2 (.t rfl))<|Ao rfl (.load ty127 (.t rfl))<|Ao rfl (.fieldAddr U27 rfl J23 fapi_Unit_0 (.t rfl))<|Ao rfl (.load ty23 (.t rfl))<|Ao rfl (.lookupSOkQ U127 kt23 ze171 (.t rfl) (.t rfl))<|Am rfl rfl<|Ao rfl (.extract0 (.t rfl)) ?_
  refine Ao rfl (.extract1 (.t rfl))<|WL.opR rfl (OpR.alloc 8 ze171) fun b4=>WL.opU (OpR.storeB (b:=b4) 8 Z171 (Cellable.is tdiff_place ((mget c.p_ u.Id zdiff_place,mhas c.p_ u.Id).1)) rfl (.t rfl) (.t rfl)) fun _=>WL.sealed (t:=tdiff_place) (u:=((mget c.p_ u.Id zdiff_place,mhas c.p_ u.Id).1)) 8 8 rfl rfl<|Ag rfl rfl<|Ar<|Am rfl rfl<|WL.mv rfl rfl ?_
  rcases iteB hm with ⟨hp12,hb11,hm⟩ | ⟨hp12,hb11,hm⟩
  ·refine Ax rfl hb11 (.fieldAddr U27 rfl J3 fapi_Unit_1 (.t rfl))<|Ax rfl hb11 (.load ty3 (.t rfl))<|Ax rfl hb11 (.neI (.t rfl) .i64)<|Ao rfl (.pickT (.t rfl) hb11 (.t rfl))<|WL.mv rfl rfl ?_
   rcases iteD hm with ⟨hp14,hb13,hm⟩ | ⟨hp14,hb13,hm⟩
   ·refine Ax rfl hb13 (.ofMb (Op1.load (t:=(tMb b)) ⟨ty57.agg,ty57.size⟩ (.t rfl)))<|Ax rfl hb13 (.fieldAddr U27 rfl J23 fapi_Unit_0 (.t rfl))<|Ax rfl hb13 (.load ty23 (.t rfl))<|Ax rfl hb13 (.lookupQ 3 U57 kt23 ze4 rfl (.t rfl) (.t rfl))<|Ax rfl hb13 (.notB (.t rfl))<|Ao rfl (.pickT (.t rfl) hb13 (.t rfl))<|An<|W.cR hm (.t rfl) (fun hp16 hm=>?_) (fun hp16 hm=>?_)
    ·refine W.region<|Ao rfl (.loadB 4 Y88 Z88 rfl (.t rfl))<|Ao rfl (.fieldAddr U27 rfl J23 fapi_Unit_0 (.t rfl))<|Ao rfl (.load ty23 (.t rfl))<|Ao rfl (.buildSlice (n:=1) (ys:=[(0,u.Id)]) (z:=zapi_Id) (xs:=[u.Id]) U88 el23 ze23 ⟨rfl,(.t rfl),trivial⟩ (by simp) (by decide) rfl) ?_
     obtain ⟨out,hv17,hm⟩:=Bs hm
     refine WL.opR rfl (OpR.appC (key:=1000004) hv17 U88 el23 (.t rfl) (.t rfl) rfl) fun k1=>WL.opU (OpR.storeB (b:=b1) 4 Z88 (Cellable.o tapi_Id k1 out) rfl (.t rfl) (.t rfl)) fun _=>WL.nil ?_
     have hr:=Si hm
     clear hm
     subst hr
     exact WN.fin k1 rfl (fun _=>rfl) ⟨rfl,rfl,⟨rfl,rfl,⟨rfl,rfl,trivial⟩⟩⟩
    ·refine W.skip ?_
     have hr:=Si hm
     clear hm
     subst hr
     exact WN.fin k rfl (fun _=>rfl) ⟨rfl,rfl,⟨rfl,rfl,⟨rfl,rfl,trivial⟩⟩⟩
   ·refine Ap rfl hb13<|Ap rfl hb13<|Ap rfl hb13<|Ap rfl hb13<|Ap rfl hb13<|Ao rfl (.pickF (.t rfl) hb13 .bool)<|An<|W.condF (.t rfl)<|W.skip ?_
    have hr:=Si hm
    clear hm
    subst hr
    exact WN.fin k rfl (fun _=>rfl) ⟨rfl,rfl,⟨rfl,rfl,⟨rfl,rfl,trivial⟩⟩⟩
  ·refine Ap rfl hb11<|Ap rfl hb11<|Ap rfl hb11<|Ao rfl (.pickF (.t rfl) hb11 .bool)<|Am rfl rfl<|Ap rfl rfl<|Ap rfl rfl<|Ap rfl rfl<|Ap rfl rfl<|Ap rfl rfl<|Ao rfl (.pickF (.t rfl) rfl .bool)<|An<|W.condF (.t rfl)<|W.skip ?_
   have hr:=Si hm
   clear hm
   subst hr
   exact WN.fin k rfl (fun _=>rfl) ⟨rfl,rfl,⟨rfl,rfl,⟨rfl,rfl,trivial⟩⟩⟩
 ·refine WL.opR rfl (OpR.nextQT 13 h4 rfl (.t rfl)) (fun κ=>?_)
  obtain ⟨⟨e,lm1⟩,h5⟩:=κ
  dsimp only at h5 ⊢
  refine Ao rfl (.extract30 (.t rfl))<|An<|W.seq<|W.condT (.t rfl)<|W.skip<|Aq<|W.block<|Aw<|Ao rfl (.entryQ 13 rfl (.t rfl))<|Ao rfl (.extract0 (.t rfl))<|WL.opR rfl (OpR.alloc 7 ze23) fun b3=>WL.opU (OpR.storeB (b:=b3) 7 Z23 (Cellable.is tapi_Id e.1) rfl (.t rfl) (.t rfl)) fun _=>WL.sealed (t:=tapi_Id) (u:=e.1) 7 7 rfl rfl<|WL.nr1<|Ao rfl (.ofMb (Op1.load (t:=(tMb b)) ⟨ty57.agg,ty57.size⟩ (.t rfl)))<|Ao rfl (.load ty23 (.t rfl)) ?_
  exact WL.opU (OpR.mapUpdateQ (b:=b) (v:=true) 3 U57 kt23 rfl (.t rfl) (.t rfl) .bool) fun _=>WL.nil<|WN.block<|WN.again _ (lm1,some e,mset m0_ e.1 true) (by rw [h2,h5.length_eq];exact Nat.lt_succ_self _) ⟨rfl,setI_step h3 h5⟩ ⟨.q rfl,.q rfl,.q rfl,.q rfl,.q rfl,trivial⟩ ⟨rfl,rfl,⟨rfl,rfl,⟨rfl,rfl,⟨rfl,rfl,trivial⟩⟩⟩⟩
theorem diff_below_i0_spec:∀ (n:Nat) (u:api_Unit) (c:diff_pair) (c1:List (api_Id×Bool)) (c2:List api_Id) (b:Nat) (b1:Nat) (k:Tok) (r:(List (api_Id×Bool))×(List api_Id)),M.diff_below_i0 n u c c1 c2=some r→FSpecR Tryz.prog 161 [(tapi_Unit.is u),(cloA 124 [(tdiff_pair.ptr c),((tMb b:Ty (List (api_Id×Bool))).ptr ([]:List (api_Id×Bool))),(Bp b1 0)])] [(500101,Mq tapi_Id tB c1 b),(500102,(Bx 1 false 88 (tO tapi_Id k c2) b1)),(1500102,Dec.Own tapi_Id 23 k c2.length)] (fun kx:Tok=>(Asn.eq (.tuple #[]))) (fun kx:Tok=>[(500101,Mq tapi_Id tB r.1 b),(500102,(Bx 1 false 88 (tO tapi_Id kx r.2) b1)),(1500102,Dec.Own tapi_Id 23 kx r.2.length)]):=by
 intro n
 induction n with
 | zero=>intro u c c1 c2 b b1 k r hm;cases hm
 | succ n ih=>
  intro u c c1 c2 b b1 k r hm
  rw [M.diff_below_i0.eq_2] at hm
  refine FSpecR.of Tryz.func161 rfl rfl rfl fun g0=>Aw<|Ao rfl (.box (.t rfl))<|Ar<|Ao rfl (.fieldAddr U27 rfl J25 fapi_Unit_5 (.t rfl))<|Ao rfl (.load ty25 (.t rfl))<|Ao rfl (.lenL U25 (.t rfl))<|Ao rfl (.move .i64)<|An<|W.block ?_
  obtain ⟨s1,hs2,hk3⟩:=Bs hm
  clear hm
  refine W.loop (fun m (s:Int×List api_Unit×List api_Unit×(((List (api_Id×Bool))×(List api_Id))×Tok))=>m=s.2.2.1.length∧u.Kids=s.2.1++s.2.2.1∧s.1=(s.2.1.length:Int)∧M.diff_below_i0_loop1 n u c (M.diff_below_i0 n) s.2.2.1 s.2.2.2.1.1 s.2.2.2.1.2=some s1) (fun s=>[(9,(I6.is s.1)),(1,(cloA 124 [(tdiff_pair.ptr c),((tMb b:Ty (List (api_Id×Bool))).ptr ([]:List (api_Id×Bool))),(Bp b1 0)])),(2,(tapi_Unit.ptr u)),(7,((tL tapi_Unit).is u.Kids)),(8,(I6.is (u.Kids.length:Int)))]) (fun s=>[(1500102,Dec.Own tapi_Id 23 s.2.2.2.2 s.2.2.2.1.2.length),(500101,Mq tapi_Id tB s.2.2.2.1.1 b),(500102,(Bx 1 false 88 (tO tapi_Id s.2.2.2.2 s.2.2.2.1.2) b1))]) u.Kids.length ((0:Int),[],u.Kids,((c1,c2),k)) ⟨rfl,rfl,rfl,hs2⟩ ⟨.q rfl,.q rfl,.q rfl,.q rfl,.q rfl,trivial⟩ ⟨rfl,rfl,⟨rfl,rfl,⟨rfl,rfl,trivial⟩⟩⟩ ?_
  rintro m ⟨i,pre,rest1,⟨⟨v,v1⟩,k1⟩⟩ ⟨hn7,hxs4,hi5,hm⟩
  try dsimp only at hn7 hxs4 hi5 hm
  change W _ _ _ _ _ _ _ [(9,(I6.is i)),(1,(cloA 124 [(tdiff_pair.ptr c),((tMb b:Ty (List (api_Id×Bool))).ptr ([]:List (api_Id×Bool))),(Bp b1 0)])),(2,(tapi_Unit.ptr u)),(7,((tL tapi_Unit).is u.Kids)),(8,(I6.is (u.Kids.length:Int)))] [(1500102,Dec.Own tapi_Id 23 k1 v1.length),(500101,Mq tapi_Id tB v b),(500102,(Bx 1 false 88 (tO tapi_Id k1 v1) b1))]
  refine W.lenL (s:=7) (.t rfl) fun hlen6=>Aw<|Ao rfl (.ltI (.t rfl) (.t rfl))<|An<|W.seq<|W.cond (.t rfl) (fun hc9=>?_) (fun hc9=>?_)
  ·have hp10:=of_decide_eq_true hc9
   obtain ⟨e,es,hrest12⟩:=range_more hxs4 hi5 hp10
   subst hrest12
   rw [M.diff_below_i0_loop1.eq_2] at hm
   refine W.skip<|Aq<|W.seq<|W.block<|Aw<|Ao rfl (.idxPre hxs4 hi5 U25 Z27 (.t rfl) (.t rfl))<|Ao rfl (.load ty27 (.t rfl))<|WL.opR rfl (OpR.alloc 5 ze27) fun b2=>WL.opU (OpR.storeB (b:=b2) 5 Z27 (Cellable.is tapi_Unit e) rfl (.t rfl) (.t rfl)) fun _=>WL.sealed (t:=tapi_Unit) (u:=e) 5 5 rfl rfl<|Ar<|Am rfl rfl<|Ao rfl (.load ty27 (.t rfl))<|Ao rfl (.load ty27 (.t rfl)) ?_
   obtain ⟨⟨w,w1⟩,hv13,hm⟩:=Bs hm
   dsimp only at hm
   refine WL.weakR (res':=[(500101,Mq tapi_Id tB v b),(500102,(Bx 1 false 88 (tO tapi_Id k1 v1) b1)),(1500102,Dec.Own tapi_Id 23 k1 v1.length)]) ⟨rfl,rfl,⟨rfl,rfl,⟨rfl,rfl,trivial⟩⟩⟩<|WL.opR rfl (OpR.callClo (us:=[500101,500102,1500102]) (A:=fun kx:Tok=>(Asn.eq (.tuple #[]))) (As:=[tapi_Unit.is e,tapi_Unit.is u]) C124 (.t rfl) (FSpecR.keys (rin':=[(500101,Mq tapi_Id tB v b),(500102,(Bx 1 false 88 (tO tapi_Id k1 v1) b1)),(1500102,Dec.Own tapi_Id 23 k1 v1.length)]) (out':=fun kx:Tok=>[(500101,Mq tapi_Id tB w b),(500102,(Bx 1 false 88 (tO tapi_Id kx w1) b1)),(1500102,Dec.Own tapi_Id 23 kx w1.length)]) (diff_pair_moved_1_spec _ _ _ _ _ _ _ _ _ _ hv13) rfl (fun _=>rfl)) rfl ⟨(.t rfl),(.t rfl),trivial⟩) fun k2=>WL.nr1<|Ao rfl (.load ty27 (.t rfl))<|WL.mv rfl rfl ?_
   obtain ⟨⟨w2,w3⟩,hv14,hm⟩:=Bs hm
   dsimp only at hm
   exact WL.weakR (res':=[(500101,Mq tapi_Id tB w b),(500102,(Bx 1 false 88 (tO tapi_Id k2 w1) b1)),(1500102,Dec.Own tapi_Id 23 k2 w1.length)]) ⟨rfl,rfl,⟨rfl,rfl,⟨rfl,rfl,trivial⟩⟩⟩<|WL.opR rfl (OpR.call (us:=[500101,500102,1500102]) (A:=fun kx:Tok=>(Asn.eq (.tuple #[]))) C161 (FSpecR.keys (rin':=[(500101,Mq tapi_Id tB w b),(500102,(Bx 1 false 88 (tO tapi_Id k2 w1) b1)),(1500102,Dec.Own tapi_Id 23 k2 w1.length)]) (out':=fun kx:Tok=>[(500101,Mq tapi_Id tB w2 b),(500102,(Bx 1 false 88 (tO tapi_Id kx w3) b1)),(1500102,Dec.Own tapi_Id 23 kx w3.length)]) (ih _ _ _ _ _ _ _ _ hv14) rfl (fun _=>rfl)) rfl ⟨(.t rfl),(.t rfl),trivial⟩) fun k3=>WL.nil<|WN.block<|Aq<|W.region<|Ao rfl (.addI (.t rfl) .i64 (range_inR hi5 hp10 hlen6))<|Am rfl rfl<|WL.nil<|WN.again es.length (i+1,pre++ [e],es,((w2,w3),k3)) (range_lt hn7) ⟨rfl,range_step hxs4,range_idx hi5,hm⟩ ⟨.q rfl,.q rfl,.q rfl,.q rfl,.q rfl,trivial⟩ ⟨rfl,rfl,⟨rfl,rfl,⟨rfl,rfl,trivial⟩⟩⟩
  ·have hrest12:=range_end hxs4 hi5 (of_decide_eq_false hc9)
   subst hrest12
   rw [M.diff_below_i0_loop1.eq_1] at hm
   refine W.exit rfl ?_
   have hr15:=Si hm
   clear hm
   subst hr15
   have hm:=hk3
   try dsimp only at hm
   have hr:=Si hm
   clear hm
   subst hr
   exact WN.fin k1 rfl (fun _=>rfl) ⟨rfl,rfl,⟨rfl,rfl,⟨rfl,rfl,trivial⟩⟩⟩
theorem diff_each_i0_spec(n:Nat)(u:api_Unit)(c:diff_pair)(c1:List (api_Id×Bool))(c2:List api_Id)(b:Nat)(b1:Nat)(k:Tok)(r:(List (api_Id×Bool))×(List api_Id))(hm:M.diff_each_i0 n u c c1 c2=some r):FSpecR Tryz.prog 123 [(tapi_Unit.is u),(cloA 124 [(tdiff_pair.ptr c),((tMb b:Ty (List (api_Id×Bool))).ptr ([]:List (api_Id×Bool))),(Bp b1 0)])] [(500101,Mq tapi_Id tB c1 b),(500102,(Bx 1 false 88 (tO tapi_Id k c2) b1)),(1500102,Dec.Own tapi_Id 23 k c2.length)] (fun kx:Tok=>(Asn.eq (.tuple #[]))) (fun kx:Tok=>[(500101,Mq tapi_Id tB r.1 b),(500102,(Bx 1 false 88 (tO tapi_Id kx r.2) b1)),(1500102,Dec.Own tapi_Id 23 kx r.2.length)]):=by
 unfold M.diff_each_i0 at hm
 refine FSpecR.of Tryz.func123 rfl rfl rfl fun g0=>Aw<|Ao rfl (.box (.t rfl))<|Ar<|Am rfl rfl<|Ao rfl (.load ty27 (.t rfl))<|Ao rfl (.build (s:=tapi_Unit) (x:=(⟨zapi_Id,(0:Int),([]:Str),([]:List api_Word),([]:List api_Word),([]:List api_Unit)⟩:api_Unit)) zapi_Unit_f rfl U27 (zapi_Unit_sz _ U27) ze27 rfl) ?_
 obtain ⟨⟨w,w1⟩,hv1,hm⟩:=Bs hm
 dsimp only at hm
 refine WL.weakR (res':=[(500101,Mq tapi_Id tB c1 b),(500102,(Bx 1 false 88 (tO tapi_Id k c2) b1)),(1500102,Dec.Own tapi_Id 23 k c2.length)]) ⟨rfl,rfl,⟨rfl,rfl,⟨rfl,rfl,trivial⟩⟩⟩<|WL.opR rfl (OpR.callClo (us:=[500101,500102,1500102]) (A:=fun kx:Tok=>(Asn.eq (.tuple #[]))) (As:=[tapi_Unit.is u,tapi_Unit.is (⟨zapi_Id,(0:Int),([]:Str),([]:List api_Word),([]:List api_Word),([]:List api_Unit)⟩:api_Unit)]) C124 (.t rfl) (FSpecR.keys (rin':=[(500101,Mq tapi_Id tB c1 b),(500102,(Bx 1 false 88 (tO tapi_Id k c2) b1)),(1500102,Dec.Own tapi_Id 23 k c2.length)]) (out':=fun kx:Tok=>[(500101,Mq tapi_Id tB w b),(500102,(Bx 1 false 88 (tO tapi_Id kx w1) b1)),(1500102,Dec.Own tapi_Id 23 kx w1.length)]) (diff_pair_moved_1_spec _ _ _ _ _ _ _ _ _ _ hv1) rfl (fun _=>rfl)) rfl ⟨(.t rfl),(.t rfl),trivial⟩) fun k1=>WL.nr1<|Ao rfl (.load ty27 (.t rfl))<|WL.mv rfl rfl ?_
 obtain ⟨⟨w2,w3⟩,hv2,hm⟩:=Bs hm
 dsimp only at hm
 refine WL.weakR (res':=[(500101,Mq tapi_Id tB w b),(500102,(Bx 1 false 88 (tO tapi_Id k1 w1) b1)),(1500102,Dec.Own tapi_Id 23 k1 w1.length)]) ⟨rfl,rfl,⟨rfl,rfl,⟨rfl,rfl,trivial⟩⟩⟩<|WL.opR rfl (OpR.call (us:=[500101,500102,1500102]) (A:=fun kx:Tok=>(Asn.eq (.tuple #[]))) C161 (FSpecR.keys (rin':=[(500101,Mq tapi_Id tB w b),(500102,(Bx 1 false 88 (tO tapi_Id k1 w1) b1)),(1500102,Dec.Own tapi_Id 23 k1 w1.length)]) (out':=fun kx:Tok=>[(500101,Mq tapi_Id tB w2 b),(500102,(Bx 1 false 88 (tO tapi_Id kx w3) b1)),(1500102,Dec.Own tapi_Id 23 kx w3.length)]) (diff_below_i0_spec _ _ _ _ _ _ _ _ _ hv2) rfl (fun _=>rfl)) rfl ⟨(.t rfl),(.t rfl),trivial⟩) fun k2=>WL.nil ?_
 have hr:=Si hm
 clear hm
 subst hr
 exact WN.fin k2 rfl (fun _=>rfl) ⟨rfl,rfl,⟨rfl,rfl,⟨rfl,rfl,trivial⟩⟩⟩
theorem diff_pair_moved_spec(n:Nat)(x:diff_pair)(r:List api_Id)(hm:M.diff_pair_moved n x=some r):FSpec Tryz.prog 85 [(tdiff_pair.is x)] ((tL tapi_Id).is r):=by
 unfold M.diff_pair_moved at hm
 refine FSpec.of Tryz.func85 rfl rfl rfl fun g0=>Aw<|Ao rfl (.box (.t rfl))<|Ao rfl (.assign (.nil (t:=tapi_Id)))<|Ar<|WL.addNil (t:=tapi_Id) (E:=23) 1000003<|WL.opR rfl (OpR.allocO (t:=tapi_Id) 3 Tryz.zeroValue88) fun b=>Ar<|WL.opR rfl (OpR.makeMapQ tapi_Id tB 5) fun b1=>WL.opR rfl (OpR.alloc 4 ze57) fun b2=>WL.opU (OpR.storeB (b:=b2) 4 Z57 (Cellable.is (tMb b1:Ty (List (api_Id×Bool))) ([]:List (api_Id×Bool))) rfl (.t rfl) (Opd.toMb (m:=([]:List (api_Id×Bool))) (.t rfl))) fun _=>WL.sealed (t:=(tMb b1:Ty (List (api_Id×Bool)))) (u:=([]:List (api_Id×Bool))) 4 4 rfl rfl<|Ar<|Ao rfl (.fieldAddr Tryz.underlying129 rfl J27 fdiff_pair_1 (.t rfl))<|Ao rfl (.load ty27 (.t rfl))<|Ao rfl (.makeClo (Cs:=[(tdiff_pair.ptr x),((tMb b1:Ty (List (api_Id×Bool))).ptr ([]:List (api_Id×Bool))),(Bp b 0)]) (cap:=[.tmp 1,.tmp 4,.tmp 3]) ⟨(.t rfl),(.t rfl),(.t rfl),trivial⟩) ?_
 obtain ⟨⟨w,out⟩,hv1,hm⟩:=Bs hm
 dsimp only at hm
 refine WL.weakR (res':=[(5,Mq tapi_Id tB ([]:List (api_Id×Bool)) b1),(3,(Bx 1 false 88 (tO tapi_Id (none:Tok) ([]:List api_Id)) b)),(1000003,Dec.Own tapi_Id 23 (none:Tok) ([]:List api_Id).length)]) ⟨rfl,rfl,⟨rfl,rfl,⟨rfl,rfl,trivial⟩⟩⟩<|WL.opR rfl (OpR.call (us:=[5,3,1000003]) (A:=fun kx:Tok=>(Asn.eq (.tuple #[]))) C123 (FSpecR.keys (rin':=[(5,Mq tapi_Id tB ([]:List (api_Id×Bool)) b1),(3,(Bx 1 false 88 (tO tapi_Id (none:Tok) ([]:List api_Id)) b)),(1000003,Dec.Own tapi_Id 23 (none:Tok) ([]:List api_Id).length)]) (out':=fun kx:Tok=>[(5,Mq tapi_Id tB w b1),(3,(Bx 1 false 88 (tO tapi_Id kx out) b)),(1000003,Dec.Own tapi_Id 23 kx out.length)]) (diff_each_i0_spec _ _ _ _ _ _ _ _ _ hv1) rfl (fun _=>rfl)) rfl ⟨(.t rfl),(.t rfl),trivial⟩) fun k=>Ar<|Ao rfl (.loadB 3 Y88 Z88 rfl (.t rfl))<|Ag rfl rfl<|WL.ns ?_
 cases hm
 exact W.ret1 () rfl (Opd.own (.t rfl)) trivial
theorem diff_Moved_spec(n:Nat)(a:api_Unit)(b:api_Unit)(r:List api_Id)(hm:M.diff_Moved n a b=some r):FSpecR Tryz.prog 50 [(tapi_Unit.is a),(tapi_Unit.is b)] [(700002,Gl (tA 8 tS) 2 gv2),(700004,Gl (tA 8 (tL I6)) 4 gv4)] (fun _:Unit=>((tL tapi_Id).is r)) (fun _=>[]):=by
 unfold M.diff_Moved at hm
 refine FSpecR.of Tryz.func50 rfl rfl rfl fun g0=>Aw<|Ao rfl (.box (.t rfl))<|Ao rfl (.box (.t rfl))<|Ao rfl (.assign (.nil (t:=tapi_Id)))<|Ar<|Ao rfl (.load ty27 (.t rfl))<|Ao rfl (.load ty27 (.t rfl)) ?_
 obtain ⟨held,hv1,hm⟩:=Bs hm
 refine Ao rfl (.callG (rin:=[(700002,Gl (tA 8 tS) 2 gv2),(700004,Gl (tA 8 (tL I6)) 4 gv4)]) C84 (diff_held_spec _ _ _ _ hv1) ⟨rfl,rfl,trivial⟩ ⟨rfl,rfl,⟨rfl,rfl,trivial⟩⟩ ⟨(.t rfl),(.t rfl),trivial⟩)<|Am rfl rfl<|Ao rfl (.extract0 (.t rfl))<|Ao rfl (.extract1 (.t rfl))<|WL.opR rfl (OpR.alloc 5 ze129) fun b1=>WL.opU (OpR.storeB (b:=b1) 5 Z129 (Cellable.is tdiff_pair held.1) rfl (.t rfl) (.t rfl)) fun _=>WL.sealed (t:=tdiff_pair) (u:=held.1) 5 5 rfl rfl<|Ag rfl rfl<|An<|W.seq<|Aw<|Am rfl rfl<|Ao rfl (.notB (.t rfl))<|An<|W.cR hm (.t rfl) (fun hp3 hm=>?_) (fun hp3 hm=>?_)
 ·refine Aw<|Ao rfl (.assign (.nil (t:=tapi_Id)))<|WL.ns ?_
  cases hm
  exact W.ret1 () rfl (.t rfl) trivial
 ·refine W.skip<|Aq<|Aw<|Ao rfl (.load ty129 (.t rfl)) ?_
  obtain ⟨moved,hv4,hm⟩:=Bs hm
  refine Ao rfl (.call C85 (diff_pair_moved_spec _ _ _ hv4) ⟨(.t rfl),trivial⟩)<|Ag rfl rfl<|WL.ns ?_
  cases hm
  exact W.ret1 () rfl (.t rfl) trivial
theorem redline_held_spec(n:Nat)(a:api_Unit)(b:api_Unit)(r:redline_books×Bool)(hm:M.redline_held n a b=some r):FSpecR Tryz.prog 26 [(tapi_Unit.is a),(tapi_Unit.is b)] [(700002,Gl (tA 8 tS) 2 gv2),(700004,Gl (tA 8 (tL I6)) 4 gv4)] (fun _:Unit=>(Asn.tuple2 (tredline_books.is r.1) (tB.is r.2))) (fun _=>[]):=by
 unfold M.redline_held at hm
 refine FSpecR.of Tryz.func26 rfl rfl rfl fun g0=>Aw<|Ao rfl (.box (.t rfl))<|Ao rfl (.box (.t rfl))<|WL.opR rfl (OpR.alloc 4 ze59) fun b1=>Ao rfl (.assign .bool)<|Ar<|WL.opR rfl (OpR.makeMapQ tapi_Id tapi_Unit 13) fun b2=>WL.opR rfl (OpR.makeMapQ tapi_Id tapi_Unit 14) fun b3=>WL.opR rfl (OpR.makeMapQ tapi_Id tB 15) fun b4=>Ao rfl (.buildT (s:=(tMap (tP (tQ tapi_Id tapi_Unit) (tP (tQ tapi_Id tapi_Unit) (tOne (tQ tapi_Id tB)))) (fun x:redline_books=>(x.a_,x.b_,x.moved_)))) (s':=(tMap (tP (tMb b2) (tP (tMb b3) (tOne (tMb b4)))) (fun x:redline_books=>(x.a_,x.b_,x.moved_)))) (x:=(⟨([]:List (api_Id×api_Unit)),([]:List (api_Id×api_Unit)),([]:List (api_Id×Bool))⟩:redline_books)) zredline_books_f rfl Tryz.underlying59 (zredline_books_sz _ Tryz.underlying59) ze59 ⟨(tMap (tP (tMb b2) (tP (tQ tapi_Id tapi_Unit) (tOne (tQ tapi_Id tB)))) (fun x:redline_books=>(x.a_,x.b_,x.moved_))),_,(tMb b2),([]:List (api_Id×api_Unit)),_,_,rfl,Z56,(Opd.toMb (.t rfl)),((FldSetT.map (m:=(fun x:redline_books=>(x.a_,x.b_,x.moved_))) (f':=fun x y=>{x with a_:=y}) (FldSetT.here (tQ tapi_Id tapi_Unit) (tMb b2) (tP (tQ tapi_Id tapi_Unit) (tOne (tQ tapi_Id tB))) rfl) (fun _ _=>rfl)).cast rfl rfl),⟨(tMap (tP (tMb b2) (tP (tMb b3) (tOne (tQ tapi_Id tB)))) (fun x:redline_books=>(x.a_,x.b_,x.moved_))),_,(tMb b3),([]:List (api_Id×api_Unit)),_,_,rfl,Z56,(Opd.toMb (.t rfl)),((FldSetT.map (m:=(fun x:redline_books=>(x.a_,x.b_,x.moved_))) (f':=fun x y=>{x with b_:=y}) (FldSetT.next (s:=(tMb b2)) (FldSetT.here (tQ tapi_Id tapi_Unit) (tMb b3) (tOne (tQ tapi_Id tB)) rfl)) (fun _ _=>rfl)).cast rfl rfl),⟨(tMap (tP (tMb b2) (tP (tMb b3) (tOne (tMb b4)))) (fun x:redline_books=>(x.a_,x.b_,x.moved_))),_,(tMb b4),([]:List (api_Id×Bool)),_,_,rfl,Z57,(Opd.toMb (.t rfl)),((FldSetT.map (m:=(fun x:redline_books=>(x.a_,x.b_,x.moved_))) (f':=fun x y=>{x with moved_:=y}) (FldSetT.next (s:=(tMb b2)) (FldSetT.next (s:=(tMb b3)) (FldSetT.one (tQ tapi_Id tB) (tMb b4) rfl))) (fun _ _=>rfl)).cast rfl rfl),⟨rfl,rfl⟩⟩⟩⟩)<|WL.opR rfl (OpR.alloc 6 ze59) fun b5=>WL.opU (OpR.storeB (b:=b5) 6 Z59 (Cellable.is (tMap (tP (tMb b2) (tP (tMb b3) (tOne (tMb b4)))) (fun x:redline_books=>(x.a_,x.b_,x.moved_))) (⟨([]:List (api_Id×api_Unit)),([]:List (api_Id×api_Unit)),([]:List (api_Id×Bool))⟩:redline_books)) rfl (.t rfl) (.t rfl)) fun _=>WL.sealed (t:=(tMap (tP (tMb b2) (tP (tMb b3) (tOne (tMb b4)))) (fun x:redline_books=>(x.a_,x.b_,x.moved_)))) (u:=(⟨([]:List (api_Id×api_Unit)),([]:List (api_Id×api_Unit)),([]:List (api_Id×Bool))⟩:redline_books)) 6 6 rfl rfl<|An<|W.seq ?_
 obtain ⟨s1,hs2,hk3⟩:=Bs hm
 clear hm
 refine W.join (fun s:Bool=>s=s1) (fun s=>[(34,(tB.is s)),(2,(tapi_Unit.ptr a)),(3,(tapi_Unit.ptr b)),(4,(Bp b1 0)),(6,((tMap (tP (tMb b2) (tP (tMb b3) (tOne (tMb b4)))) (fun x:redline_books=>(x.a_,x.b_,x.moved_))).ptr (⟨([]:List (api_Id×api_Unit)),([]:List (api_Id×api_Unit)),([]:List (api_Id×Bool))⟩:redline_books)))]) (fun s=>[(4,(Bx 3 true 59 (tredline_books.is zredline_books) b1)),(13,Mq tapi_Id tapi_Unit ([]:List (api_Id×api_Unit)) b2),(14,Mq tapi_Id tapi_Unit ([]:List (api_Id×api_Unit)) b3),(15,Mq tapi_Id tB ([]:List (api_Id×Bool)) b4),(700002,Gl (tA 8 tS) 2 gv2),(700004,Gl (tA 8 (tL I6)) 4 gv4)]) ?_ ?_
 ·rintro v hj55
  try dsimp only at hj55
  subst hj55
  have hm:=hk3
  clear hk3
  try dsimp only at hm
  change W _ _ _ _ _ _ _ [(34,(tB.is v)),(2,(tapi_Unit.ptr a)),(3,(tapi_Unit.ptr b)),(4,(Bp b1 0)),(6,((tMap (tP (tMb b2) (tP (tMb b3) (tOne (tMb b4)))) (fun x:redline_books=>(x.a_,x.b_,x.moved_))).ptr (⟨([]:List (api_Id×api_Unit)),([]:List (api_Id×api_Unit)),([]:List (api_Id×Bool))⟩:redline_books)))] [(4,(Bx 3 true 59 (tredline_books.is zredline_books) b1)),(13,Mq tapi_Id tapi_Unit ([]:List (api_Id×api_Unit)) b2),(14,Mq tapi_Id tapi_Unit ([]:List (api_Id×api_Unit)) b3),(15,Mq tapi_Id tB ([]:List (api_Id×Bool)) b4),(700002,Gl (tA 8 tS) 2 gv2),(700004,Gl (tA 8 (tL I6)) 4 gv4)]
  refine W.cB hm (.t rfl) (fun hp13 hm=>?_) (fun hp13 hm=>?_)
  ·refine Aw<|WL.sealQ 13 rfl<|WL.sealQ 14 rfl<|WL.sealQ 15 rfl<|Ao rfl (.load (t:=(tMap (tP (tMb b2) (tP (tMb b3) (tOne (tMb b4)))) (fun x:redline_books=>(x.a_,x.b_,x.moved_)))) ⟨Y59,Z59⟩ (.t rfl))<|WL.slotG (tredline_books.is ({(⟨([]:List (api_Id×api_Unit)),([]:List (api_Id×api_Unit)),([]:List (api_Id×Bool))⟩:redline_books) with a_:=([]:List (api_Id×api_Unit)),b_:=([]:List (api_Id×api_Unit)),moved_:=([]:List (api_Id×Bool))}:redline_books)) 35 rfl (fun _ _ hr hA=>CvT.is (s:=(tMap (tP (tMb b2) (tP (tMb b3) (tOne (tMb b4)))) (fun x:redline_books=>(x.a_,x.b_,x.moved_)))) rfl (CvT.map (CvT.pair (CvT.mq (hr.at (key:=13) rfl)) (CvT.pair (CvT.mq (hr.at (key:=14) rfl)) (CvT.one (CvT.mq (hr.at (key:=15) rfl)))))) hA)<|WL.opU (OpR.storeB (b:=b1) 4 Z59 (Cellable.is tredline_books ({(⟨([]:List (api_Id×api_Unit)),([]:List (api_Id×api_Unit)),([]:List (api_Id×Bool))⟩:redline_books) with a_:=([]:List (api_Id×api_Unit)),b_:=([]:List (api_Id×api_Unit)),moved_:=([]:List (api_Id×Bool))}:redline_books)) rfl (.t rfl) (.t rfl)) fun _=>Ao rfl (.assign .bool)<|WL.ns ?_
   cases hm
   exact W.retQ2 () rfl rfl (ResAt.cell 4 Y59 Z59 rfl (.t rfl)) (ResAt.tmp (.t rfl)) trivial
  ·refine W.skip<|Aq<|Aw<|Ao rfl (.load ty27 (.t rfl))<|Ao rfl (.fieldAddr (t:=(tMb b2)) (f:=fun x:redline_books=>x.a_) Tryz.underlying59 rfl J56 ((Fld.map (m:=(fun x:redline_books=>(x.a_,x.b_,x.moved_))) (Fld.here (tMb b2) (tP (tMb b3) (tOne (tMb b4))))).cast rfl rfl) (.t rfl))<|Ao rfl (.ofMb (Op1.load (t:=(tMb b2)) ⟨ty56.agg,ty56.size⟩ (.t rfl))) ?_
   obtain ⟨w,hv14,hm⟩:=Bs hm
   refine WL.weakR (res':=[(13,Mq tapi_Id tapi_Unit ([]:List (api_Id×api_Unit)) b2),(4,(Bx 3 true 59 (tredline_books.is zredline_books) b1)),(14,Mq tapi_Id tapi_Unit ([]:List (api_Id×api_Unit)) b3),(15,Mq tapi_Id tB ([]:List (api_Id×Bool)) b4),(700002,Gl (tA 8 tS) 2 gv2),(700004,Gl (tA 8 (tL I6)) 4 gv4)]) ⟨rfl,rfl,⟨rfl,rfl,⟨rfl,rfl,⟨rfl,rfl,⟨rfl,rfl,⟨rfl,rfl,trivial⟩⟩⟩⟩⟩⟩<|WL.opR rfl (OpR.call (us:=[13]) (A:=fun kx:Unit=>(Mv b2)) C48 (FSpecR.keys (rin':=[(13,Mq tapi_Id tapi_Unit ([]:List (api_Id×api_Unit)) b2)]) (out':=fun kx:Unit=>[(13,Mq tapi_Id tapi_Unit w b2)]) (redline_every_spec _ _ _ _ _ hv14) rfl (fun _=>rfl)) rfl ⟨(.t rfl),(.t rfl),trivial⟩) fun _=>Ar<|Ao rfl (.load ty27 (.t rfl))<|Ao rfl (.fieldAddr (t:=(tMb b3)) (f:=fun x:redline_books=>x.b_) Tryz.underlying59 rfl J56 ((Fld.map (m:=(fun x:redline_books=>(x.a_,x.b_,x.moved_))) (Fld.next (s:=(tMb b2)) (Fld.here (tMb b3) (tOne (tMb b4))))).cast rfl rfl) (.t rfl))<|Ao rfl (.ofMb (Op1.load (t:=(tMb b3)) ⟨ty56.agg,ty56.size⟩ (.t rfl))) ?_
   obtain ⟨w1,hv15,hm⟩:=Bs hm
   refine WL.weakR (res':=[(14,Mq tapi_Id tapi_Unit ([]:List (api_Id×api_Unit)) b3),(4,(Bx 3 true 59 (tredline_books.is zredline_books) b1)),(13,Mq tapi_Id tapi_Unit w b2),(15,Mq tapi_Id tB ([]:List (api_Id×Bool)) b4),(700002,Gl (tA 8 tS) 2 gv2),(700004,Gl (tA 8 (tL I6)) 4 gv4)]) ⟨rfl,rfl,⟨rfl,rfl,⟨rfl,rfl,⟨rfl,rfl,⟨rfl,rfl,⟨rfl,rfl,trivial⟩⟩⟩⟩⟩⟩<|WL.opR rfl (OpR.call (us:=[14]) (A:=fun kx:Unit=>(Mv b3)) C48 (FSpecR.keys (rin':=[(14,Mq tapi_Id tapi_Unit ([]:List (api_Id×api_Unit)) b3)]) (out':=fun kx:Unit=>[(14,Mq tapi_Id tapi_Unit w1 b3)]) (redline_every_spec _ _ _ _ _ hv15) rfl (fun _=>rfl)) rfl ⟨(.t rfl),(.t rfl),trivial⟩) fun _=>An<|W.seq ?_
   obtain ⟨s16,hs17,hk18⟩:=Bs hm
   clear hm
   refine W.join (fun s:Bool=>s=s16) (fun s=>[(57,(tB.is s)),(2,(tapi_Unit.ptr a)),(3,(tapi_Unit.ptr b)),(4,(Bp b1 0)),(6,((tMap (tP (tMb b2) (tP (tMb b3) (tOne (tMb b4)))) (fun x:redline_books=>(x.a_,x.b_,x.moved_))).ptr (⟨([]:List (api_Id×api_Unit)),([]:List (api_Id×api_Unit)),([]:List (api_Id×Bool))⟩:redline_books)))]) (fun s=>[(4,(Bx 3 true 59 (tredline_books.is zredline_books) b1)),(13,Mq tapi_Id tapi_Unit w b2),(14,Mq tapi_Id tapi_Unit w1 b3),(15,Mq tapi_Id tB ([]:List (api_Id×Bool)) b4),(700002,Gl (tA 8 tS) 2 gv2),(700004,Gl (tA 8 (tL I6)) 4 gv4)]) ?_ ?_
   ·rintro v1 hj54
    try dsimp only at hj54
    subst hj54
    have hm:=hk18
    clear hk18
    try dsimp only at hm
    change W _ _ _ _ _ _ _ [(57,(tB.is v1)),(2,(tapi_Unit.ptr a)),(3,(tapi_Unit.ptr b)),(4,(Bp b1 0)),(6,((tMap (tP (tMb b2) (tP (tMb b3) (tOne (tMb b4)))) (fun x:redline_books=>(x.a_,x.b_,x.moved_))).ptr (⟨([]:List (api_Id×api_Unit)),([]:List (api_Id×api_Unit)),([]:List (api_Id×Bool))⟩:redline_books)))] [(4,(Bx 3 true 59 (tredline_books.is zredline_books) b1)),(13,Mq tapi_Id tapi_Unit w b2),(14,Mq tapi_Id tapi_Unit w1 b3),(15,Mq tapi_Id tB ([]:List (api_Id×Bool)) b4),(700002,Gl (tA 8 tS) 2 gv2),(700004,Gl (tA 8 (tL I6)) 4 gv4)]
    refine W.cB hm (.t rfl) (fun hp26 hm=>?_) (fun hp26 hm=>?_)
    ·refine Aw<|WL.sealQ 13 rfl<|WL.sealQ 14 rfl<|WL.sealQ 15 rfl<|Ao rfl (.load (t:=(tMap (tP (tMb b2) (tP (tMb b3) (tOne (tMb b4)))) (fun x:redline_books=>(x.a_,x.b_,x.moved_)))) ⟨Y59,Z59⟩ (.t rfl))<|WL.slotG (tredline_books.is ({(⟨([]:List (api_Id×api_Unit)),([]:List (api_Id×api_Unit)),([]:List (api_Id×Bool))⟩:redline_books) with a_:=w,b_:=w1,moved_:=([]:List (api_Id×Bool))}:redline_books)) 58 rfl (fun _ _ hr hA=>CvT.is (s:=(tMap (tP (tMb b2) (tP (tMb b3) (tOne (tMb b4)))) (fun x:redline_books=>(x.a_,x.b_,x.moved_)))) rfl (CvT.map (CvT.pair (CvT.mq (hr.at (key:=13) rfl)) (CvT.pair (CvT.mq (hr.at (key:=14) rfl)) (CvT.one (CvT.mq (hr.at (key:=15) rfl)))))) hA)<|WL.opU (OpR.storeB (b:=b1) 4 Z59 (Cellable.is tredline_books ({(⟨([]:List (api_Id×api_Unit)),([]:List (api_Id×api_Unit)),([]:List (api_Id×Bool))⟩:redline_books) with a_:=w,b_:=w1,moved_:=([]:List (api_Id×Bool))}:redline_books)) rfl (.t rfl) (.t rfl)) fun _=>Ao rfl (.assign .bool)<|WL.ns ?_
     cases hm
     exact W.retQ2 () rfl rfl (ResAt.cell 4 Y59 Z59 rfl (.t rfl)) (ResAt.tmp (.t rfl)) trivial
    ·refine W.skip<|Aq<|W.seq<|Aw<|Ao rfl (.fieldAddr (t:=(tMb b2)) (f:=fun x:redline_books=>x.a_) Tryz.underlying59 rfl J56 ((Fld.map (m:=(fun x:redline_books=>(x.a_,x.b_,x.moved_))) (Fld.here (tMb b2) (tP (tMb b3) (tOne (tMb b4))))).cast rfl rfl) (.t rfl))<|Ao rfl (.ofMb (Op1.load (t:=(tMb b2)) ⟨ty56.agg,ty56.size⟩ (.t rfl)))<|WL.sealQ 13 rfl<|WL.slotG ((tMap (tP (tQ tapi_Id tapi_Unit) (tP (tMb b3) (tOne (tMb b4)))) (fun x:redline_books=>(x.a_,x.b_,x.moved_))).ptr ({(⟨([]:List (api_Id×api_Unit)),([]:List (api_Id×api_Unit)),([]:List (api_Id×Bool))⟩:redline_books) with a_:=w}:redline_books)) 6 rfl (fun _ _ hr hA=>CvT.at (CvT.map (CvT.pair (CvT.mq (hr.at (key:=13) rfl)) (CvT.pair CvT.same (CvT.one CvT.same)))) hA)<|WL.slotG ((tQ tapi_Id tapi_Unit).ptr w) 59 rfl (fun _ _ hr hA=>CvT.at (CvT.mq (hr.at (key:=13) rfl)) hA)<|WL.slotG ((tQ tapi_Id tapi_Unit).is w) 60 rfl (mapQ (key:=13) rfl)<|WL.opR rfl (OpR.rangeQ 61 U56 (.t rfl)) fun b6=>An<|W.block ?_
     obtain ⟨any,h33,h32⟩:=Bs hm
     clear hm
     refine W.loop (fun k (s:List (api_Id×api_Unit)×Option (api_Id×api_Unit))=>k=s.1.length∧AnyI (M.redline_held_loop1 w1) any s.1) (fun _=>[(2,(tapi_Unit.ptr a)),(3,(tapi_Unit.ptr b)),(4,(Bp b1 0)),(6,((tMap (tP (tQ tapi_Id tapi_Unit) (tP (tMb b3) (tOne (tMb b4)))) (fun x:redline_books=>(x.a_,x.b_,x.moved_))).ptr ({(⟨([]:List (api_Id×api_Unit)),([]:List (api_Id×api_Unit)),([]:List (api_Id×Bool))⟩:redline_books) with a_:=w}:redline_books))),(61,(Bp b6 0))]) (fun s=>[(4,(Bx 3 true 59 (tredline_books.is zredline_books) b1)),(14,Mq tapi_Id tapi_Unit w1 b3),(15,Mq tapi_Id tB ([]:List (api_Id×Bool)) b4),(700002,Gl (tA 8 tS) 2 gv2),(700004,Gl (tA 8 (tL I6)) 4 gv4),(61,ItQ tapi_Id tapi_Unit s.1 s.2 b6)]) _ (w,none) ⟨rfl,anyI_start h33⟩ ⟨.q rfl,.q rfl,.q rfl,.q rfl,.q rfl,trivial⟩ ⟨rfl,rfl,⟨rfl,rfl,⟨rfl,rfl,⟨rfl,rfl,⟨rfl,rfl,⟨rfl,rfl,trivial⟩⟩⟩⟩⟩⟩ ?_
     rintro kx ⟨lm,last⟩ ⟨h27,h28⟩
     try dsimp only at h27 h28
     change W _ _ _ _ _ _ _ [(2,(tapi_Unit.ptr a)),(3,(tapi_Unit.ptr b)),(4,(Bp b1 0)),(6,((tMap (tP (tQ tapi_Id tapi_Unit) (tP (tMb b3) (tOne (tMb b4)))) (fun x:redline_books=>(x.a_,x.b_,x.moved_))).ptr ({(⟨([]:List (api_Id×api_Unit)),([]:List (api_Id×api_Unit)),([]:List (api_Id×Bool))⟩:redline_books) with a_:=w}:redline_books))),(61,(Bp b6 0))] [(4,(Bx 3 true 59 (tredline_books.is zredline_books) b1)),(14,Mq tapi_Id tapi_Unit w1 b3),(15,Mq tapi_Id tB ([]:List (api_Id×Bool)) b4),(700002,Gl (tA 8 tS) 2 gv2),(700004,Gl (tA 8 (tL I6)) 4 gv4),(61,ItQ tapi_Id tapi_Unit lm last b6)]
     refine W.sr ?_
     by_cases h29:lm= []
     ·subst h29
      refine Ao rfl (.nextQF 61 rfl (.t rfl))<|Ao rfl (.extract10 (.t rfl))<|An<|W.seq<|W.condF (.t rfl)<|W.exit rfl ?_
      have hm:=h32
      rw [if_neg (anyI_end h28)] at hm
      refine Aq<|W.seq<|Aw<|Ao rfl (.load ty27 (.t rfl))<|Ao rfl (.load ty27 (.t rfl)) ?_
      obtain ⟨moved,hv40,hm⟩:=Bs hm
      refine Ao rfl (.callG (rin:=[(700002,Gl (tA 8 tS) 2 gv2),(700004,Gl (tA 8 (tL I6)) 4 gv4)]) C50 (diff_Moved_spec _ _ _ _ hv40) ⟨rfl,rfl,trivial⟩ ⟨rfl,rfl,⟨rfl,rfl,trivial⟩⟩ ⟨(.t rfl),(.t rfl),trivial⟩)<|Ao rfl (.lenL U88 (.t rfl))<|Ao rfl (.move .i64)<|An<|W.block ?_
      obtain ⟨s41,hs42,hk43⟩:=Bs hm
      clear hm
      refine W.loop (fun m (s:Int×List api_Id×List api_Id×((List (api_Id×Bool))))=>m=s.2.2.1.length∧moved=s.2.1++s.2.2.1∧s.1=(s.2.1.length:Int)∧M.redline_held_loop2 s.2.2.1 s.2.2.2=some s41) (fun s=>[(87,(I6.is s.1)),(4,(Bp b1 0)),(6,((tMap (tP (tQ tapi_Id tapi_Unit) (tP (tMb b3) (tOne (tMb b4)))) (fun x:redline_books=>(x.a_,x.b_,x.moved_))).ptr ({(⟨([]:List (api_Id×api_Unit)),([]:List (api_Id×api_Unit)),([]:List (api_Id×Bool))⟩:redline_books) with a_:=w}:redline_books))),(85,((tL tapi_Id).is moved)),(86,(I6.is (moved.length:Int)))]) (fun s=>[(15,Mq tapi_Id tB s.2.2.2 b4),(4,(Bx 3 true 59 (tredline_books.is zredline_books) b1)),(14,Mq tapi_Id tapi_Unit w1 b3),(700002,Gl (tA 8 tS) 2 gv2),(700004,Gl (tA 8 (tL I6)) 4 gv4)]) moved.length ((0:Int),[],moved,([]:List (api_Id×Bool))) ⟨rfl,rfl,rfl,hs42⟩ ⟨.q rfl,.q rfl,.q rfl,.q rfl,.q rfl,trivial⟩ ⟨rfl,rfl,⟨rfl,rfl,⟨rfl,rfl,⟨rfl,rfl,⟨rfl,rfl,trivial⟩⟩⟩⟩⟩ ?_
      rintro m ⟨i,pre,rest1,v2⟩ ⟨hn47,hxs44,hi45,hm⟩
      try dsimp only at hn47 hxs44 hi45 hm
      change W _ _ _ _ _ _ _ [(87,(I6.is i)),(4,(Bp b1 0)),(6,((tMap (tP (tQ tapi_Id tapi_Unit) (tP (tMb b3) (tOne (tMb b4)))) (fun x:redline_books=>(x.a_,x.b_,x.moved_))).ptr ({(⟨([]:List (api_Id×api_Unit)),([]:List (api_Id×api_Unit)),([]:List (api_Id×Bool))⟩:redline_books) with a_:=w}:redline_books))),(85,((tL tapi_Id).is moved)),(86,(I6.is (moved.length:Int)))] [(15,Mq tapi_Id tB v2 b4),(4,(Bx 3 true 59 (tredline_books.is zredline_books) b1)),(14,Mq tapi_Id tapi_Unit w1 b3),(700002,Gl (tA 8 tS) 2 gv2),(700004,Gl (tA 8 (tL I6)) 4 gv4)]
      refine W.lenL (s:=85) (.t rfl) fun hlen46=>Aw<|Ao rfl (.ltI (.t rfl) (.t rfl))<|An<|W.seq<|W.cond (.t rfl) (fun hc49=>?_) (fun hc49=>?_)
      ·have hp50:=of_decide_eq_true hc49
       obtain ⟨e1,es,hrest52⟩:=range_more hxs44 hi45 hp50
       subst hrest52
       rw [M.redline_held_loop2.eq_2] at hm
       refine W.skip<|Aq<|W.seq<|W.block<|Aw<|Ao rfl (.idxPre hxs44 hi45 U88 Z23 (.t rfl) (.t rfl))<|Ao rfl (.load ty23 (.t rfl))<|WL.opR rfl (OpR.alloc 12 ze23) fun b10=>WL.opU (OpR.storeB (b:=b10) 12 Z23 (Cellable.is tapi_Id e1) rfl (.t rfl) (.t rfl)) fun _=>WL.sealed (t:=tapi_Id) (u:=e1) 12 12 rfl rfl<|WL.nr1<|Ao rfl (.fieldAddr (t:=(tMb b4)) (f:=fun x:redline_books=>x.moved_) Tryz.underlying59 rfl J57 ((Fld.map (m:=(fun x:redline_books=>(x.a_,x.b_,x.moved_))) (Fld.next (s:=(tQ tapi_Id tapi_Unit)) (Fld.next (s:=(tMb b3)) (Fld.one (tMb b4))))).cast rfl rfl) (.t rfl))<|Ao rfl (.ofMb (Op1.load (t:=(tMb b4)) ⟨ty57.agg,ty57.size⟩ (.t rfl)))<|Ao rfl (.load ty23 (.t rfl))<|WL.opU (OpR.mapUpdateQ (b:=b4) (v:=true) 15 U57 kt23 rfl (.t rfl) (.t rfl) .bool) fun _=>WL.nil ?_
       exact WN.block<|Aq<|W.region<|Ao rfl (.addI (.t rfl) .i64 (range_inR hi45 hp50 hlen46))<|Am rfl rfl<|WL.nil<|WN.again es.length (i+1,pre++ [e1],es,mset v2 e1 true) (range_lt hn47) ⟨rfl,range_step hxs44,range_idx hi45,hm⟩ ⟨.q rfl,.q rfl,.q rfl,.q rfl,.q rfl,trivial⟩ ⟨rfl,rfl,⟨rfl,rfl,⟨rfl,rfl,⟨rfl,rfl,⟨rfl,rfl,trivial⟩⟩⟩⟩⟩
      ·have hrest52:=range_end hxs44 hi45 (of_decide_eq_false hc49)
       subst hrest52
       rw [M.redline_held_loop2.eq_1] at hm
       refine W.exit rfl ?_
       have hr53:=Si hm
       clear hm
       subst hr53
       have hm:=hk43
       try dsimp only at hm
       refine Aq<|Aw<|WL.sealQ 14 rfl<|WL.sealQ 15 rfl<|Ao rfl (.load (t:=(tMap (tP (tQ tapi_Id tapi_Unit) (tP (tMb b3) (tOne (tMb b4)))) (fun x:redline_books=>(x.a_,x.b_,x.moved_)))) ⟨Y59,Z59⟩ (.t rfl))<|WL.slotG (tredline_books.is ({({(⟨([]:List (api_Id×api_Unit)),([]:List (api_Id×api_Unit)),([]:List (api_Id×Bool))⟩:redline_books) with a_:=w}:redline_books) with b_:=w1,moved_:=v2}:redline_books)) 95 rfl (fun _ _ hr hA=>CvT.is (s:=(tMap (tP (tQ tapi_Id tapi_Unit) (tP (tMb b3) (tOne (tMb b4)))) (fun x:redline_books=>(x.a_,x.b_,x.moved_)))) rfl (CvT.map (CvT.pair CvT.same (CvT.pair (CvT.mq (hr.at (key:=14) rfl)) (CvT.one (CvT.mq (hr.at (key:=15) rfl)))))) hA)<|WL.opU (OpR.storeB (b:=b1) 4 Z59 (Cellable.is tredline_books ({({(⟨([]:List (api_Id×api_Unit)),([]:List (api_Id×api_Unit)),([]:List (api_Id×Bool))⟩:redline_books) with a_:=w}:redline_books) with b_:=w1,moved_:=v2}:redline_books)) rfl (.t rfl) (.t rfl)) fun _=>Ao rfl (.assign .bool)<|WL.ns ?_
       cases hm
       exact W.retQ2 () rfl rfl (ResAt.cell 4 Y59 Z59 rfl (.t rfl)) (ResAt.tmp (.t rfl)) trivial
     ·refine WL.opR rfl (OpR.nextQT 61 h29 rfl (.t rfl)) (fun κ=>?_)
      obtain ⟨⟨e,lm1⟩,h30⟩:=κ
      dsimp only at h30 ⊢
      obtain ⟨h31,hm,hob34,hnx35⟩:=anyI_step h28 h30
      unfold M.redline_held_loop1 at hm
      refine Ao rfl (.extract30 (.t rfl))<|An<|W.seq<|W.condT (.t rfl)<|W.skip<|Aq<|W.block<|Aw<|Ao rfl (.entryQ 61 rfl (.t rfl))<|Ao rfl (.extract0 (.t rfl))<|Ao rfl (.extract1 (.t rfl))<|WL.opR rfl (OpR.alloc 7 ze23) fun b7=>WL.opR rfl (OpR.alloc 8 ze27) fun b8=>WL.opU (OpR.storeB (b:=b7) 7 Z23 (Cellable.is tapi_Id e.1) rfl (.t rfl) (.t rfl)) fun _=>WL.sealed (t:=tapi_Id) (u:=e.1) 7 7 rfl rfl<|WL.opU (OpR.storeB (b:=b8) 8 Z27 (Cellable.is tapi_Unit e.2) rfl (.t rfl) (.t rfl)) (fun _=>?_)
      refine WL.sealed (t:=tapi_Unit) (u:=e.2) 8 8 rfl rfl<|Ar<|Ao rfl (.fieldAddr (t:=(tMb b3)) (f:=fun x:redline_books=>x.b_) Tryz.underlying59 rfl J56 ((Fld.map (m:=(fun x:redline_books=>(x.a_,x.b_,x.moved_))) (Fld.next (s:=(tQ tapi_Id tapi_Unit)) (Fld.here (tMb b3) (tOne (tMb b4))))).cast rfl rfl) (.t rfl))<|Ao rfl (.ofMb (Op1.load (t:=(tMb b3)) ⟨ty56.agg,ty56.size⟩ (.t rfl)))<|Ao rfl (.load ty23 (.t rfl))<|Ao rfl (.lookupOkQ 14 U56 kt23 ze27 rfl (.t rfl) (.t rfl))<|Am rfl rfl<|Ao rfl (.extract0 (.t rfl))<|Ao rfl (.extract1 (.t rfl))<|WL.opR rfl (OpR.alloc 9 ze27) fun b9=>WL.opU (OpR.storeB (b:=b9) 9 Z27 (Cellable.is tapi_Unit ((mget w1 e.1 zapi_Unit,mhas w1 e.1).1)) rfl (.t rfl) (.t rfl)) fun _=>WL.sealed (t:=tapi_Unit) (u:=((mget w1 e.1 zapi_Unit,mhas w1 e.1).1)) 9 9 rfl rfl<|Ag rfl rfl<|Ar<|Am rfl rfl<|WL.mv rfl rfl ?_
      rcases iteB hm with ⟨hp37,hb36,hm⟩ | ⟨hp37,hb36,hm⟩
      ·refine Ax rfl hb36 (.fieldAddr U27 rfl J3 fapi_Unit_1 (.t rfl))<|Ax rfl hb36 (.load ty3 (.t rfl))<|Ax rfl hb36 (.fieldAddr U27 rfl J3 fapi_Unit_1 (.t rfl))<|Ax rfl hb36 (.load ty3 (.t rfl))<|Ax rfl hb36 (.neI (.t rfl) (.t rfl))<|Ao rfl (.pickT (.t rfl) hb36 (.t rfl))<|An<|W.cD hm (.t rfl) (fun hp39 hm=>?_) (fun hp39 hm=>?_)
       ·refine Aw<|WL.sealQ 14 rfl<|WL.sealQ 15 rfl<|Ao rfl (.load (t:=(tMap (tP (tQ tapi_Id tapi_Unit) (tP (tMb b3) (tOne (tMb b4)))) (fun x:redline_books=>(x.a_,x.b_,x.moved_)))) ⟨Y59,Z59⟩ (.t rfl))<|WL.slotG (tredline_books.is ({({(⟨([]:List (api_Id×api_Unit)),([]:List (api_Id×api_Unit)),([]:List (api_Id×Bool))⟩:redline_books) with a_:=w}:redline_books) with b_:=w1,moved_:=([]:List (api_Id×Bool))}:redline_books)) 82 rfl (fun _ _ hr hA=>CvT.is (s:=(tMap (tP (tQ tapi_Id tapi_Unit) (tP (tMb b3) (tOne (tMb b4)))) (fun x:redline_books=>(x.a_,x.b_,x.moved_)))) rfl (CvT.map (CvT.pair CvT.same (CvT.pair (CvT.mq (hr.at (key:=14) rfl)) (CvT.one (CvT.mq (hr.at (key:=15) rfl)))))) hA)<|WL.opU (OpR.storeB (b:=b1) 4 Z59 (Cellable.is tredline_books ({({(⟨([]:List (api_Id×api_Unit)),([]:List (api_Id×api_Unit)),([]:List (api_Id×Bool))⟩:redline_books) with a_:=w}:redline_books) with b_:=w1,moved_:=([]:List (api_Id×Bool))}:redline_books)) rfl (.t rfl) (.t rfl)) fun _=>Ao rfl (.assign .bool)<|WL.ns ?_
        have hbt:=hob34 (Si hm).symm
        clear hm
        have hm:=h32
        rw [if_pos hbt] at hm
        cases hm
        exact W.retQ2 () rfl rfl (ResAt.cell 4 Y59 Z59 rfl (.t rfl)) (ResAt.tmp (.t rfl)) trivial
       ·exact W.skip<|WN.block<|WN.again _ (lm1,some e) (by rw [h27,h30.length_eq];exact Nat.lt_succ_self _) ⟨rfl,hnx35 (Si hm).symm⟩ ⟨.q rfl,.q rfl,.q rfl,.q rfl,.q rfl,trivial⟩ ⟨rfl,rfl,⟨rfl,rfl,⟨rfl,rfl,⟨rfl,rfl,⟨rfl,rfl,⟨rfl,rfl,trivial⟩⟩⟩⟩⟩⟩
      ·exact Ap rfl hb36<|Ap rfl hb36<|Ap rfl hb36<|Ap rfl hb36<|Ap rfl hb36<|Ao rfl (.pickF (.t rfl) hb36 .bool)<|An<|W.condF (.t rfl)<|W.skip<|WN.block<|WN.again _ (lm1,some e) (by rw [h27,h30.length_eq];exact Nat.lt_succ_self _) ⟨rfl,hnx35 (Si hm).symm⟩ ⟨.q rfl,.q rfl,.q rfl,.q rfl,.q rfl,trivial⟩ ⟨rfl,rfl,⟨rfl,rfl,⟨rfl,rfl,⟨rfl,rfl,⟨rfl,rfl,⟨rfl,rfl,trivial⟩⟩⟩⟩⟩⟩
   ·have hm:=hs17
    clear hs17
    refine W.region<|Ao rfl (.fieldAddr (t:=(tMb b2)) (f:=fun x:redline_books=>x.a_) Tryz.underlying59 rfl J56 ((Fld.map (m:=(fun x:redline_books=>(x.a_,x.b_,x.moved_))) (Fld.here (tMb b2) (tP (tMb b3) (tOne (tMb b4))))).cast rfl rfl) (.t rfl))<|Ao rfl (.ofMb (Op1.load (t:=(tMb b2)) ⟨ty56.agg,ty56.size⟩ (.t rfl))) ?_
    obtain ⟨_,hv19,hm⟩:=Bs hm
    refine Ao rfl (.lenQ 13 U56 rfl (.t rfl) (growC_lim hv19))<|Ao rfl (.load ty27 (.t rfl)) ?_
    obtain ⟨count,hv20,hm⟩:=Bs hm
    refine Ao rfl (.call C49 (unit_Count_spec _ _ _ hv20) ⟨(.t rfl),trivial⟩)<|Ao rfl (.neI (.t rfl) (.t rfl))<|WL.mv rfl rfl ?_
    rcases iteD hm with ⟨hp22,hb21,hm⟩ | ⟨hp22,hb21,hm⟩
    ·exact Ap rfl hb21<|Ap rfl hb21<|Ap rfl hb21<|Ap rfl hb21<|Ap rfl hb21<|Ap rfl hb21<|Ao rfl (.pickT (.t rfl) hb21 .bool)<|WL.nil<|WN.meet true (Si hm) ⟨.q rfl,.q rfl,.q rfl,.q rfl,.q rfl,trivial⟩ ⟨rfl,rfl,⟨rfl,rfl,⟨rfl,rfl,⟨rfl,rfl,⟨rfl,rfl,⟨rfl,rfl,trivial⟩⟩⟩⟩⟩⟩
    ·refine Ax rfl hb21 (.fieldAddr (t:=(tMb b3)) (f:=fun x:redline_books=>x.b_) Tryz.underlying59 rfl J56 ((Fld.map (m:=(fun x:redline_books=>(x.a_,x.b_,x.moved_))) (Fld.next (s:=(tMb b2)) (Fld.here (tMb b3) (tOne (tMb b4))))).cast rfl rfl) (.t rfl))<|Ax rfl hb21 (.ofMb (Op1.load (t:=(tMb b3)) ⟨ty56.agg,ty56.size⟩ (.t rfl))) ?_
     obtain ⟨_,hv23,hm⟩:=Bs hm
     refine Ax rfl hb21 (.lenQ 14 U56 rfl (.t rfl) (growC_lim hv23))<|Ax rfl hb21 (.load ty27 (.t rfl)) ?_
     obtain ⟨count1,hv24,hm⟩:=Bs hm
     exact Ax rfl hb21 (.call C49 (unit_Count_spec _ _ _ hv24) ⟨(.t rfl),trivial⟩)<|Ax rfl hb21 (.neI (.t rfl) (.t rfl))<|Ao rfl (.pickF (.t rfl) hb21 (.t rfl))<|WL.nil<|WN.meet (decide ((w1.length:Int)≠count1)) (Si hm) ⟨.q rfl,.q rfl,.q rfl,.q rfl,.q rfl,trivial⟩ ⟨rfl,rfl,⟨rfl,rfl,⟨rfl,rfl,⟨rfl,rfl,⟨rfl,rfl,⟨rfl,rfl,trivial⟩⟩⟩⟩⟩⟩
 ·have hm:=hs2
  clear hs2
  refine W.region<|Ao rfl (.fieldAddr U27 rfl J3 fapi_Unit_1 (.t rfl))<|Ao rfl (.load ty3 (.t rfl))<|Ao rfl (.neI (.t rfl) .i64)<|WL.mv rfl rfl ?_
  rcases iteD hm with ⟨hp5,hb4,hm⟩ | ⟨hp5,hb4,hm⟩
  ·exact Ap rfl hb4<|Ap rfl hb4<|Ap rfl hb4<|Ao rfl (.pickT (.t rfl) hb4 .bool)<|Am rfl rfl<|Ap rfl rfl<|Ap rfl rfl<|Ap rfl rfl<|Ao rfl (.pickT (.t rfl) rfl .bool)<|Am rfl rfl<|Ap rfl rfl<|Ap rfl rfl<|Ap rfl rfl<|Ao rfl (.pickT (.t rfl) rfl .bool)<|WL.nil<|WN.meet true (Si hm) ⟨.q rfl,.q rfl,.q rfl,.q rfl,.q rfl,trivial⟩ ⟨rfl,rfl,⟨rfl,rfl,⟨rfl,rfl,⟨rfl,rfl,⟨rfl,rfl,⟨rfl,rfl,trivial⟩⟩⟩⟩⟩⟩
  ·refine Ax rfl hb4 (.fieldAddr U27 rfl J3 fapi_Unit_1 (.t rfl))<|Ax rfl hb4 (.load ty3 (.t rfl))<|Ax rfl hb4 (.neI (.t rfl) .i64)<|Ao rfl (.pickF (.t rfl) hb4 (.t rfl))<|WL.mv rfl rfl ?_
   rcases iteD hm with ⟨hp7,hb6,hm⟩ | ⟨hp7,hb6,hm⟩
   ·exact Ap rfl hb6<|Ap rfl hb6<|Ap rfl hb6<|Ao rfl (.pickT (.t rfl) hb6 .bool)<|Am rfl rfl<|Ap rfl rfl<|Ap rfl rfl<|Ap rfl rfl<|Ao rfl (.pickT (.t rfl) rfl .bool)<|WL.nil<|WN.meet true (Si hm) ⟨.q rfl,.q rfl,.q rfl,.q rfl,.q rfl,trivial⟩ ⟨rfl,rfl,⟨rfl,rfl,⟨rfl,rfl,⟨rfl,rfl,⟨rfl,rfl,⟨rfl,rfl,trivial⟩⟩⟩⟩⟩⟩
   ·refine Ax rfl hb6 (.load ty27 (.t rfl)) ?_
    obtain ⟨valid,hv8,hm⟩:=Bs hm
    refine Ax rfl hb6 (.callG (rin:=[(700002,Gl (tA 8 tS) 2 gv2),(700004,Gl (tA 8 (tL I6)) 4 gv4)]) C47 (unit_Valid_spec _ _ _ hv8) ⟨rfl,rfl,trivial⟩ ⟨rfl,rfl,⟨rfl,rfl,trivial⟩⟩ ⟨(.t rfl),trivial⟩)<|Ax rfl hb6 (.notB (.t rfl))<|Ao rfl (.pickF (.t rfl) hb6 (.t rfl))<|WL.mv rfl rfl ?_
    rcases iteR hm with ⟨hp10,hb9,hm⟩ | ⟨hp10,hb9,hm⟩
    ·exact Ap rfl hb9<|Ap rfl hb9<|Ap rfl hb9<|Ao rfl (.pickT (.t rfl) hb9 .bool)<|WL.nil<|WN.meet true (Si hm) ⟨.q rfl,.q rfl,.q rfl,.q rfl,.q rfl,trivial⟩ ⟨rfl,rfl,⟨rfl,rfl,⟨rfl,rfl,⟨rfl,rfl,⟨rfl,rfl,⟨rfl,rfl,trivial⟩⟩⟩⟩⟩⟩
    ·refine Ax rfl hb9 (.load ty27 (.t rfl)) ?_
     obtain ⟨valid1,hv11,hm⟩:=Bs hm
     exact Ax rfl hb9 (.callG (rin:=[(700002,Gl (tA 8 tS) 2 gv2),(700004,Gl (tA 8 (tL I6)) 4 gv4)]) C47 (unit_Valid_spec _ _ _ hv11) ⟨rfl,rfl,trivial⟩ ⟨rfl,rfl,⟨rfl,rfl,trivial⟩⟩ ⟨(.t rfl),trivial⟩)<|Ax rfl hb9 (.notB (.t rfl))<|Ao rfl (.pickF (.t rfl) hb9 (.t rfl))<|WL.nil<|WN.meet (!valid1) (Si hm) ⟨.q rfl,.q rfl,.q rfl,.q rfl,.q rfl,trivial⟩ ⟨rfl,rfl,⟨rfl,rfl,⟨rfl,rfl,⟨rfl,rfl,⟨rfl,rfl,⟨rfl,rfl,trivial⟩⟩⟩⟩⟩⟩
theorem redline_texts_spec(w:List api_Word)(r:List Str)(hm:M.redline_texts w=some r):FSpec Tryz.prog 86 [((tL tapi_Word).is w)] ((tL tS).is r):=by
 unfold M.redline_texts at hm
 refine FSpec.of Tryz.func86 rfl rfl rfl fun g0=>Aw<|Ao rfl (.assign (.nil (t:=tS)))<|Ar<|WL.addNil (t:=tS) (E:=9) 3<|Ao rfl (.assign (Opd.nilO (t:=tS)))<|An<|W.seq<|Aw<|Am rfl rfl<|Ao rfl (.lenL U24 (.t rfl))<|Ao rfl (.move .i64)<|An<|W.block ?_
 obtain ⟨s1,hs2,hk3⟩:=Bs hm
 clear hm
 refine W.loop (fun m (s:Int×List api_Word×List api_Word×(((List Str))×Tok))=>m=s.2.2.1.length∧w=s.2.1++s.2.2.1∧s.1=(s.2.1.length:Int)∧M.redline_texts_loop1 s.2.2.1 s.2.2.2.1=some s1) (fun s=>[(8,(I6.is s.1)),(3,(tO tS s.2.2.2.2 s.2.2.2.1)),(6,((tL tapi_Word).is w)),(7,(I6.is (w.length:Int)))]) (fun s=>[(3,Dec.Own tS 9 s.2.2.2.2 s.2.2.2.1.length)]) w.length ((0:Int),[],w,(([]:List Str),(none:Tok))) ⟨rfl,rfl,rfl,hs2⟩ ⟨.q rfl,.q rfl,.q rfl,.q rfl,trivial⟩ ⟨rfl,rfl,trivial⟩ ?_
 rintro m ⟨i,pre,rest1,⟨out,k⟩⟩ ⟨hn7,hxs4,hi5,hm⟩
 try dsimp only at hn7 hxs4 hi5 hm
 change W _ _ _ _ _ _ _ [(8,(I6.is i)),(3,(tO tS k out)),(6,((tL tapi_Word).is w)),(7,(I6.is (w.length:Int)))] [(3,Dec.Own tS 9 k out.length)]
 refine W.lenL (s:=6) (.t rfl) fun hlen6=>Aw<|Ao rfl (.ltI (.t rfl) (.t rfl))<|An<|W.seq<|W.cond (.t rfl) (fun hc9=>?_) (fun hc9=>?_)
 ·have hp10:=of_decide_eq_true hc9
  obtain ⟨e,es,hrest12⟩:=range_more hxs4 hi5 hp10
  subst hrest12
  rw [M.redline_texts_loop1.eq_2] at hm
  refine W.skip<|Aq<|W.seq<|W.block<|Aw<|Ao rfl (.idxPre hxs4 hi5 U24 Z120 (.t rfl) (.t rfl))<|Ao rfl (.load ty120 (.t rfl))<|WL.opR rfl (OpR.alloc 5 ze120) fun b=>WL.opU (OpR.storeB (b:=b) 5 Z120 (Cellable.is tapi_Word e) rfl (.t rfl) (.t rfl)) fun _=>WL.sealed (t:=tapi_Word) (u:=e) 5 5 rfl rfl<|WL.nr1<|Am rfl rfl<|Ao rfl (.fieldAddr U120 rfl J9 fapi_Word_0 (.t rfl))<|Ao rfl (.load ty9 (.t rfl))<|Ao rfl (.buildSlice (n:=1) (ys:=[(0,e.Text)]) (z:=([]:Str)) (xs:=[e.Text]) U38 el9 ze9 ⟨rfl,(.t rfl),trivial⟩ (by simp) (by decide) rfl) ?_
  obtain ⟨out1,hv13,hm⟩:=Bs hm
  exact WL.opR rfl (OpR.appC (key:=3) hv13 U38 el9 (.t rfl) (.t rfl) rfl) fun k1=>Ag rfl rfl<|WL.nil<|WN.block<|Aq<|W.region<|Ao rfl (.addI (.t rfl) .i64 (range_inR hi5 hp10 hlen6))<|Am rfl rfl<|WL.nil<|WN.again es.length (i+1,pre++ [e],es,(out1,k1)) (range_lt hn7) ⟨rfl,range_step hxs4,range_idx hi5,hm⟩ ⟨.q rfl,.q rfl,.q rfl,.q rfl,trivial⟩ ⟨rfl,rfl,trivial⟩
 ·have hrest12:=range_end hxs4 hi5 (of_decide_eq_false hc9)
  subst hrest12
  rw [M.redline_texts_loop1.eq_1] at hm
  refine W.exit rfl ?_
  have hr14:=Si hm
  clear hm
  subst hr14
  have hm:=hk3
  try dsimp only at hm
  refine Aq<|Aw<|Am rfl rfl<|Ag rfl rfl<|WL.ns ?_
  cases hm
  exact W.ret1 () rfl (Opd.own (.t rfl)) trivial
theorem redline_word_1_spec(s0_:Str)(c:Int)(r:api_TrackedWord)(hm:M.redline_word_1 s0_ c=some r):FSpec Tryz.prog 126 [(tS.is s0_),(I6.ptr c)] (tapi_TrackedWord.is r):=by
 unfold M.redline_word_1 at hm
 refine FSpec.of Tryz.func126 rfl rfl rfl fun g0=>Aw<|WL.opR rfl (OpR.alloc 3 ze53) fun b=>Ar<|Ao rfl (.load ty3 (.t rfl))<|Am rfl rfl<|Ao rfl (.build (s:=tapi_TrackedWord) (x:=(⟨c,s0_⟩:api_TrackedWord)) zapi_TrackedWord_f rfl U53 (zapi_TrackedWord_sz _ U53) ze53 ⟨_,I6,c,_,_,rfl,Z3,(.t rfl),sapi_TrackedWord_0,⟨_,tS,s0_,_,_,rfl,Z9,(.t rfl),sapi_TrackedWord_1,rfl⟩⟩)<|WL.opU (OpR.storeB (b:=b) 3 Z53 (Cellable.is tapi_TrackedWord (⟨c,s0_⟩:api_TrackedWord)) rfl (.t rfl) (.t rfl)) fun _=>WL.ns ?_
 cases hm
 exact W.retQ1 () rfl (ResAt.cell 3 Y53 Z53 rfl (.t rfl)) trivial
theorem redline_word_spec(state:Int)(r:Str→Option api_TrackedWord)(hm:M.redline_word state=some r):FSpec Tryz.prog 87 [(I6.is state)] ((tFun Tryz.prog (fun (f:Str→Option api_TrackedWord)=>(fun s:Str×api_TrackedWord=>f s.1=some s.2)) (fun s:Str×api_TrackedWord=>[tS.is s.1]) (fun s:Str×api_TrackedWord=>(tapi_TrackedWord.is s.2))).is r):=by
 unfold M.redline_word at hm
 refine FSpec.of Tryz.func87 rfl rfl rfl fun g0=>Aw<|Ao rfl (.box (.t rfl))<|Ao rfl (.assign .const)<|Ar<|Ao rfl (.makeFunc (ok:=(fun s:Str×api_TrackedWord=>(fun s0=>M.redline_word_1 s0 state) s.1=some s.2)) (As:=(fun s:Str×api_TrackedWord=>[tS.is s.1])) (A:=(fun s:Str×api_TrackedWord=>(tapi_TrackedWord.is s.2))) (Cs:=[(I6.ptr state)]) (cap:=[.tmp 1]) C126 ⟨(.t rfl),trivial⟩ (fun s hs=>redline_word_1_spec _ _ _ hs))<|Ag rfl rfl<|WL.ns ?_
 cases hm
 exact W.ret1 () rfl (Opd.tFun (.t rfl)) trivial
theorem slices_IndexFunc_string_string_l_spec(n:Nat)(s0_:List (List Str))(f:(List Str)→Option Bool)(r:Int)(hm:M.slices_IndexFunc_string_string_l n s0_ f=some r):FSpec Tryz.prog 182 [((tL (tL tS)).is s0_),(tF Tryz.prog (fun s:(List Str)×Bool=>f s.1=some s.2) (fun s:(List Str)×Bool=>[(tL tS).is s.1]) (fun s:(List Str)×Bool=>(tB.is s.2)))] (I6.is r):=by
 unfold M.slices_IndexFunc_string_string_l at hm
 refine FSpec.of Tryz.func182 rfl rfl rfl fun g0=>Aw<|Ao rfl (.assign .i64)<|An<|W.seq<|Aw<|Am rfl rfl<|Ao rfl (.lenL U208 (.t rfl))<|Ao rfl (.move .i64)<|An<|W.block ?_
 obtain ⟨s1,hs2,hk3⟩:=Bs hm
 clear hm
 refine W.loop (fun m (s:Int)=>M.slices_IndexFunc_string_string_l_loop1 s0_ f m s=some s1) (fun s=>[(8,(I6.is s)),(0,((tL (tL tS)).is s0_)),(1,(tF Tryz.prog (fun s:(List Str)×Bool=>f s.1=some s.2) (fun s:(List Str)×Bool=>[(tL tS).is s.1]) (fun s:(List Str)×Bool=>(tB.is s.2)))),(7,(I6.is (s0_.length:Int)))]) (fun s=>[]) _ (0:Int) hs2 ⟨.q rfl,.q rfl,.q rfl,.q rfl,trivial⟩ trivial ?_
 rintro n4 v hm
 try dsimp only at hm
 change W _ _ _ _ _ _ _ [(8,(I6.is v)),(0,((tL (tL tS)).is s0_)),(1,(tF Tryz.prog (fun s:(List Str)×Bool=>f s.1=some s.2) (fun s:(List Str)×Bool=>[(tL tS).is s.1]) (fun s:(List Str)×Bool=>(tB.is s.2)))),(7,(I6.is (s0_.length:Int)))] []
 cases n4 with
 | zero=>rw [M.slices_IndexFunc_string_string_l_loop1.eq_1] at hm;cases hm
 | succ n4=>
  rw [M.slices_IndexFunc_string_string_l_loop1.eq_2] at hm
  refine Aw<|Ao rfl (.ltI (.t rfl) (.t rfl))<|An<|W.seq<|W.cD hm (.t rfl) (fun hp6 hm=>?_) (fun hp6 hm=>?_)
  ·refine W.skip<|Aq<|W.seq<|W.block<|Aw<|Am rfl rfl<|Ag rfl rfl<|Ar<|Am rfl rfl<|Am rfl rfl<|WL.mv rfl rfl ?_
   obtain ⟨v1,hv7,hm⟩:=Bs hm
   refine Ao rfl (.idx hv7 U208 Z38 (.t rfl) (.t rfl))<|Ao rfl (.load ty38 (.t rfl)) ?_
   obtain ⟨v2,hv8,hm⟩:=Bs hm
   refine Ao rfl (.callF (ok:=(fun s:(List Str)×Bool=>f s.1=some s.2)) (As:=(fun s:(List Str)×Bool=>[(tL tS).is s.1])) (A:=(fun s:(List Str)×Bool=>(tB.is s.2))) (s:=(v1,v2)) (.t rfl) hv8 ⟨(.t rfl),trivial⟩)<|An<|W.cB hm (.t rfl) (fun hp10 hm=>?_) (fun hp10 hm=>?_)
   ·refine Aw<|Am rfl rfl<|Ag rfl rfl<|WL.ns ?_
    have hr11:=Si hm
    clear hm
    subst hr11
    have hm:=hk3
    try dsimp only at hm
    cases hm
    exact W.ret1 () rfl (.t rfl) trivial
   ·exact W.skip<|WN.block<|Aq<|W.region<|WL.lenL (s:=0) (.t rfl) fun hl12=>Ao rfl (.addI1 (.t rfl) .i64 hp6 hl12)<|Am rfl rfl<|WL.nil<|WN.again n4 (v+1) (Nat.lt_succ_self n4) hm ⟨.q rfl,.q rfl,.q rfl,.q rfl,trivial⟩ trivial
  ·refine W.exit rfl ?_
   have hr13:=Si hm
   clear hm
   subst hr13
   have hm:=hk3
   try dsimp only at hm
   refine Aq<|Aw<|Ao rfl (.assign .i64)<|WL.ns ?_
   cases hm
   exact W.ret1 () rfl (.t rfl) trivial
theorem slices_ContainsFunc_string_string_l_spec(n:Nat)(s0_:List (List Str))(f:(List Str)→Option Bool)(r:Bool)(hm:M.slices_ContainsFunc_string_string_l n s0_ f=some r):FSpec Tryz.prog 163 [((tL (tL tS)).is s0_),(tF Tryz.prog (fun s:(List Str)×Bool=>f s.1=some s.2) (fun s:(List Str)×Bool=>[(tL tS).is s.1]) (fun s:(List Str)×Bool=>(tB.is s.2)))] (tB.is r):=by
 unfold M.slices_ContainsFunc_string_string_l at hm
 refine FSpec.of Tryz.func163 rfl rfl rfl fun g0=>Aw<|Ao rfl (.assign .bool)<|Ar<|Am rfl rfl<|WL.mv rfl rfl ?_
 obtain ⟨string,hv1,hm⟩:=Bs hm
 refine Ao rfl (.call C182 (slices_IndexFunc_string_string_l_spec _ _ _ _ hv1) ⟨(.t rfl),(.t rfl),trivial⟩)<|Ao rfl (.geI (.t rfl) .i64)<|Ag rfl rfl<|WL.ns ?_
 cases hm
 exact W.ret1 () rfl (.t rfl) trivial
theorem lcs_long_1_spec(l:List Str)(r:Bool)(hm:M.lcs_long_1 l=some r):FSpec Tryz.prog 164 [((tL tS).is l)] (tB.is r):=by
 unfold M.lcs_long_1 at hm
 refine FSpec.of Tryz.func164 rfl rfl rfl fun g0=>Aw<|Ao rfl (.assign .bool)<|Ar<|Am rfl rfl<|Ao rfl (.lenL U38 (.t rfl))<|Ao rfl (.gtI (.t rfl) .i64)<|Ag rfl rfl<|WL.ns ?_
 cases hm
 exact W.ret1 () rfl (.t rfl) trivial
theorem lcs_long_spec(n:Nat)(rows:List (List Str))(r:Bool)(hm:M.lcs_long n rows=some r):FSpec Tryz.prog 127 [((tL (tL tS)).is rows)] (tB.is r):=by
 unfold M.lcs_long at hm
 refine FSpec.of Tryz.func127 rfl rfl rfl fun g0=>Aw<|Ao rfl (.assign .bool)<|Ar<|WL.mv rfl rfl ?_
 obtain ⟨string,hv1,hm⟩:=Bs hm
 refine Ao rfl (.call C163 (slices_ContainsFunc_string_string_l_spec _ _ _ _ hv1) ⟨(.t rfl),(Opd.fn C164 (fun s hs=>lcs_long_1_spec _ _ hs)),trivial⟩)<|Ag rfl rfl<|WL.ns ?_
 cases hm
 exact W.ret1 () rfl (.t rfl) trivial
theorem lcs_lengths_1_spec(i:Int)(k:Int)(c:List Int)(c1:Int)(b:Nat)(k1:Tok)(r:Int)(hm:M.lcs_lengths_1 i k c c1=some r):FSpecR Tryz.prog 165 [(I6.is i),(I6.is k),(Bp b 0),(I6.ptr c1)] [(2,(Bx 1 false 161 (tU k1 c.length) b)),(1000002,OwnU I6 3 k1 c)] (fun kx:Unit=>(I6.is r)) (fun kx:Unit=>[(2,(Bx 1 false 161 (tU k1 c.length) b)),(1000002,OwnU I6 3 k1 c)]):=by
 unfold M.lcs_lengths_1 at hm
 refine FSpecR.of Tryz.func165 rfl rfl rfl fun g0=>Aw<|Ao rfl (.assign .i64)<|Ar<|Ao rfl (.loadB 2 Y161 Z161 rfl (.t rfl))<|Am rfl rfl<|Ao rfl (.load ty3 (.t rfl)) ?_
 obtain ⟨v,hv1,hm⟩:=Bs hm
 refine Ao rfl (.mulC hv1 (.t rfl) (.t rfl))<|WL.mv rfl rfl ?_
 obtain ⟨v1,hv2,hm⟩:=Bs hm
 refine Ao rfl (.addC hv2 (.t rfl) (.t rfl)) ?_
 obtain ⟨v2,hv3,hm⟩:=Bs hm
 refine Ao rfl (.idxU (t:=I6) hv3 U161 Z3 (.t rfl) (.t rfl))<|Ao rfl (.loadU 1000002 hv3 ty3 rfl (.t rfl))<|Ag rfl rfl<|WL.ns ?_
 cases hm
 exact W.ret1 () rfl (.t rfl) ⟨rfl,rfl,⟨rfl,rfl,trivial⟩⟩
theorem lcs_lengths_1_p_spec(i:Int)(k:Int)(c:List Int)(c1:Int)(r:Int)(hm:M.lcs_lengths_1_p i k c c1=some r):FSpec Tryz.prog 165 [(I6.is i),(I6.is k),((tL I6).ptr c),(I6.ptr c1)] (I6.is r):=by
 unfold M.lcs_lengths_1_p at hm
 refine FSpec.of Tryz.func165 rfl rfl rfl fun g0=>Aw<|Ao rfl (.assign .i64)<|Ar<|Ao rfl (.load ty161 (.t rfl))<|Am rfl rfl<|Ao rfl (.load ty3 (.t rfl)) ?_
 obtain ⟨v,hv1,hm⟩:=Bs hm
 refine Ao rfl (.mulC hv1 (.t rfl) (.t rfl))<|WL.mv rfl rfl ?_
 obtain ⟨v1,hv2,hm⟩:=Bs hm
 refine Ao rfl (.addC hv2 (.t rfl) (.t rfl)) ?_
 obtain ⟨v2,hv3,hm⟩:=Bs hm
 refine Ao rfl (.idx hv3 U161 Z3 (.t rfl) (.t rfl))<|Ao rfl (.load ty3 (.t rfl))<|Ag rfl rfl<|WL.ns ?_
 cases hm
 exact W.ret1 () rfl (.t rfl) trivial
theorem lcs_lengths_spec(n:Nat)(a:List Str)(b:List Str)(r:Int→Int→Option Int)(hm:M.lcs_lengths n a b=some r):FSpec Tryz.prog 128 [((tL tS).is a),((tL tS).is b)] ((tFun Tryz.prog (fun (f:Int→Int→Option Int)=>(fun s:Int×Int×Int=>f s.1 s.2.1=some s.2.2)) (fun s:Int×Int×Int=>[I6.is s.1,I6.is s.2.1]) (fun s:Int×Int×Int=>(I6.is s.2.2))).is r):=by
 unfold M.lcs_lengths at hm
 refine FSpec.of Tryz.func128 rfl rfl rfl fun g0=>Aw<|Ao rfl (.assign .const)<|Ar<|Am rfl rfl<|Ao rfl (.lenL U38 (.t rfl)) ?_
 obtain ⟨v,hv1,hm⟩:=Bs hm
 refine Ao rfl (.addC hv1 (.t rfl) .i64)<|WL.opR rfl (OpR.alloc 5 ze3) fun b1=>WL.opU (OpR.storeB (b:=b1) 5 Z3 (Cellable.is I6 v) rfl (.t rfl) (.t rfl)) fun _=>WL.sealed (t:=I6) (u:=v) 5 5 rfl rfl<|Ar<|Am rfl rfl<|Ao rfl (.lenL U38 (.t rfl)) ?_
 obtain ⟨v1,hv2,hm⟩:=Bs hm
 refine Ao rfl (.addC hv2 (.t rfl) .i64)<|Ao rfl (.load ty3 (.t rfl)) ?_
 obtain ⟨v2,hv3,hm⟩:=Bs hm
 refine Ao rfl (.mulC hv3 (.t rfl) (.t rfl)) ?_
 obtain ⟨mk,hv4,hm⟩:=Bs hm
 refine WL.opR rfl (OpR.loosen fl3 (OpR.makeSlice (k:=.i64) 19 hv4 U161 el3 ze3 (.t rfl) (.t rfl))) fun k=>WL.opR rfl (OpR.alloc 6 ze161) fun b2=>WL.opU (OpR.storeB (b:=b2) 6 Z161 (Cellable.tU _ _) rfl (.t rfl) (.t rfl)) fun _=>WL.nil<|WN.weakR (res':=[(19,OwnU I6 3 k mk),(6,(Bx 1 false 161 (tU k mk.length) b2))]) ⟨rfl,rfl,⟨rfl,rfl,trivial⟩⟩<|WN.rekey (res':=[(1000006,OwnU I6 3 k mk),(6,(Bx 1 false 161 (tU k mk.length) b2))]) rfl<|Aq<|Aw<|Ao rfl (.makeClo (Cs:=[(Bp b2 0),(I6.ptr v)]) (cap:=[.tmp 6,.tmp 5]) ⟨(.t rfl),(.t rfl),trivial⟩)<|Ag rfl rfl<|An<|W.seq<|Aw<|Am rfl rfl<|Ao rfl (.lenL U38 (.t rfl)) ?_
 obtain ⟨v3,hv5,hm⟩:=Bs hm
 refine Ao rfl (.subC hv5 (.t rfl) .i64)<|Ag rfl rfl<|An<|W.block ?_
 obtain ⟨s6,hs7,hk8⟩:=Bs hm
 clear hm
 refine W.loop (fun m (s:(Int×(List Int))×Tok)=>M.lcs_lengths_loop1 a b v m s.1.1 s.1.2=some s6) (fun s=>[(8,(I6.is s.1.1)),(0,((tL tS).is a)),(1,((tL tS).is b)),(5,(I6.ptr v)),(6,(Bp b2 0)),(7,(cloA 165 [(Bp b2 0),(I6.ptr v)]))]) (fun s=>[(1000006,OwnU I6 3 s.2 s.1.2),(6,(Bx 1 false 161 (tU s.2 s.1.2.length) b2))]) _ ((v3,mk),k) hs7 ⟨.q rfl,.q rfl,.q rfl,.q rfl,.q rfl,.q rfl,trivial⟩ ⟨rfl,rfl,⟨rfl,rfl,trivial⟩⟩ ?_
 rintro n9 ⟨⟨i,l⟩,k1⟩ hm
 try dsimp only at hm
 change W _ _ _ _ _ _ _ [(8,(I6.is i)),(0,((tL tS).is a)),(1,((tL tS).is b)),(5,(I6.ptr v)),(6,(Bp b2 0)),(7,(cloA 165 [(Bp b2 0),(I6.ptr v)]))] [(1000006,OwnU I6 3 k1 l),(6,(Bx 1 false 161 (tU k1 l.length) b2))]
 cases n9 with
 | zero=>rw [M.lcs_lengths_loop1.eq_1] at hm;cases hm
 | succ n9=>
  rw [M.lcs_lengths_loop1.eq_2] at hm
  refine W.seq<|Aw<|Am rfl rfl<|Ao rfl (.geI (.t rfl) .i64)<|An<|W.cD hm (.t rfl) (fun hp11 hm=>?_) (fun hp11 hm=>?_)
  ·refine W.skip<|Aq<|W.seq<|W.block<|Aw<|Am rfl rfl<|Ao rfl (.lenL U38 (.t rfl)) ?_
   obtain ⟨v4,hv12,hm⟩:=Bs hm
   refine Ao rfl (.subC hv12 (.t rfl) .i64)<|Ag rfl rfl<|An<|W.block ?_
   obtain ⟨s13,hs14,hk15⟩:=Bs hm
   clear hm
   refine W.loop (fun m (s:(Int×(List Int))×Tok)=>M.lcs_lengths_loop2 a b v i m s.1.1 s.1.2=some s13) (fun s=>[(9,(I6.is s.1.1)),(0,((tL tS).is a)),(1,((tL tS).is b)),(5,(I6.ptr v)),(6,(Bp b2 0)),(7,(cloA 165 [(Bp b2 0),(I6.ptr v)])),(8,(I6.is i))]) (fun s=>[(1000006,OwnU I6 3 s.2 s.1.2),(6,(Bx 1 false 161 (tU s.2 s.1.2.length) b2))]) _ ((v4,l),k1) hs14 ⟨.q rfl,.q rfl,.q rfl,.q rfl,.q rfl,.q rfl,.q rfl,trivial⟩ ⟨rfl,rfl,⟨rfl,rfl,trivial⟩⟩ ?_
   rintro n16 ⟨⟨k2,l1⟩,k3⟩ hm
   try dsimp only at hm
   change W _ _ _ _ _ _ _ [(9,(I6.is k2)),(0,((tL tS).is a)),(1,((tL tS).is b)),(5,(I6.ptr v)),(6,(Bp b2 0)),(7,(cloA 165 [(Bp b2 0),(I6.ptr v)])),(8,(I6.is i))] [(1000006,OwnU I6 3 k3 l1),(6,(Bx 1 false 161 (tU k3 l1.length) b2))]
   cases n16 with
   | zero=>rw [M.lcs_lengths_loop2.eq_1] at hm;cases hm
   | succ n16=>
    rw [M.lcs_lengths_loop2.eq_2] at hm
    refine W.seq<|Aw<|Am rfl rfl<|Ao rfl (.geI (.t rfl) .i64)<|An<|W.cD hm (.t rfl) (fun hp18 hm=>?_) (fun hp18 hm=>?_)
    ·refine W.skip<|Aq<|W.seq<|W.block<|Aw<|Am rfl rfl<|WL.mv rfl rfl ?_
     obtain ⟨v5,hv19,hm⟩:=Bs hm
     refine Ao rfl (.addC hv19 (.t rfl) .i64)<|WL.mv rfl rfl ?_
     obtain ⟨v1_,hv20,hm⟩:=Bs hm
     refine WL.weakR (res':=[(6,(Bx 1 false 161 (tU k3 l1.length) b2)),(1000006,OwnU I6 3 k3 l1)]) ⟨rfl,rfl,⟨rfl,rfl,trivial⟩⟩<|WL.opR rfl (OpR.callClo (us:=[6,1000006]) (A:=fun kx:Unit=>(I6.is v1_)) (As:=[I6.is v5,I6.is k2]) C165 (.t rfl) (FSpecR.keys (rin':=[(6,(Bx 1 false 161 (tU k3 l1.length) b2)),(1000006,OwnU I6 3 k3 l1)]) (out':=fun kx:Unit=>[(6,(Bx 1 false 161 (tU k3 l1.length) b2)),(1000006,OwnU I6 3 k3 l1)]) (lcs_lengths_1_spec _ _ _ _ _ _ _ hv20) rfl (fun _=>rfl)) rfl ⟨(.t rfl),(.t rfl),trivial⟩) fun _=>Am rfl rfl<|Am rfl rfl<|WL.mv rfl rfl ?_
     obtain ⟨v6,hv21,hm⟩:=Bs hm
     refine Ao rfl (.addC hv21 (.t rfl) .i64) ?_
     obtain ⟨v1_1,hv22,hm⟩:=Bs hm
     refine WL.weakR (res':=[(6,(Bx 1 false 161 (tU k3 l1.length) b2)),(1000006,OwnU I6 3 k3 l1)]) ⟨rfl,rfl,⟨rfl,rfl,trivial⟩⟩<|WL.opR rfl (OpR.callClo (us:=[6,1000006]) (A:=fun kx:Unit=>(I6.is v1_1)) (As:=[I6.is i,I6.is v6]) C165 (.t rfl) (FSpecR.keys (rin':=[(6,(Bx 1 false 161 (tU k3 l1.length) b2)),(1000006,OwnU I6 3 k3 l1)]) (out':=fun kx:Unit=>[(6,(Bx 1 false 161 (tU k3 l1.length) b2)),(1000006,OwnU I6 3 k3 l1)]) (lcs_lengths_1_spec _ _ _ _ _ _ _ hv22) rfl (fun _=>rfl)) rfl ⟨(.t rfl),(.t rfl),trivial⟩) fun _=>Ao rfl (.maxI (.t rfl) (.t rfl))<|Ag rfl rfl<|WL.ns ?_
     obtain ⟨s23,hs24,hk25⟩:=Bs hm
     clear hm
     refine W.join (fun s:(Int×(List Int))×Tok=>s.1=s23) (fun s=>[(10,(I6.is s.1.1)),(0,((tL tS).is a)),(1,((tL tS).is b)),(5,(I6.ptr v)),(6,(Bp b2 0)),(7,(cloA 165 [(Bp b2 0),(I6.ptr v)])),(8,(I6.is i)),(9,(I6.is k2))]) (fun s=>[(1000006,OwnU I6 3 s.2 s.1.2),(6,(Bx 1 false 161 (tU s.2 s.1.2.length) b2))]) ?_ ?_
     ·rintro ⟨⟨n0_,l2⟩,k4⟩ hj39
      try dsimp only at hj39
      subst hj39
      have hm:=hk25
      clear hk25
      try dsimp only at hm
      change W _ _ _ _ _ _ _ [(10,(I6.is n0_)),(0,((tL tS).is a)),(1,((tL tS).is b)),(5,(I6.ptr v)),(6,(Bp b2 0)),(7,(cloA 165 [(Bp b2 0),(I6.ptr v)])),(8,(I6.is i)),(9,(I6.is k2))] [(1000006,OwnU I6 3 k4 l2),(6,(Bx 1 false 161 (tU k4 l2.length) b2))]
      refine W.region<|Ao rfl (.loadB 6 Y161 Z161 rfl (.t rfl))<|Am rfl rfl<|Ao rfl (.load ty3 (.t rfl)) ?_
      obtain ⟨v12,hv34,hm⟩:=Bs hm
      refine Ao rfl (.mulC hv34 (.t rfl) (.t rfl))<|WL.mv rfl rfl ?_
      obtain ⟨v13,hv35,hm⟩:=Bs hm
      refine Ao rfl (.addC hv35 (.t rfl) (.t rfl))<|WL.mv rfl rfl ?_
      obtain ⟨v14,hv36,hm⟩:=Bs hm
      refine Ao rfl (.idxU (t:=I6) hv36 U161 Z3 (.t rfl) (.t rfl)) ?_
      obtain ⟨w,hv37,hm⟩:=Bs hm
      refine WL.opU (OpR.storeU (key:=1000006) hv37 ty3 (.t rfl) (.t rfl) rfl) fun _=>WL.nil<|WN.lenU 64 (setC_len hv37) rfl<|WN.boxV (A':=(tU k4 w.length)) 6 rfl (fun _ _ hA=>tU_len (setC_len hv37) hA)<|WN.block<|Aq<|W.region<|WL.mv rfl rfl ?_
      obtain ⟨v15,hv38,hm⟩:=Bs hm
      exact Ao rfl (.subC hv38 (.t rfl) .i64)<|Ag rfl rfl<|WL.nil<|WN.again n16 ((v15,w),k4) (Nat.lt_succ_self n16) hm ⟨.q rfl,.q rfl,.q rfl,.q rfl,.q rfl,.q rfl,.q rfl,trivial⟩ ⟨rfl,rfl,⟨rfl,rfl,trivial⟩⟩
     ·have hm:=hs24
      clear hs24
      refine W.seq ?_
      obtain ⟨v7,hv26,hm⟩:=Bs hm
      obtain ⟨v8,hv27,hm⟩:=Bs hm
      refine W.draw [.c _,.c _,.c _,.c _,.c _,.c _,.c _,.c _,.c _] [([],[0]),([],[8]),([0,1],[]),([2],[]),([],[1]),([],[9]),([4,5],[]),([6],[]),([3,7],[])] Mx rfl rfl rfl rfl ⟨Dn (.move (.t rfl)),Dn (.move (.t rfl)),Dn (.idx hv26 U38 Z9 (.t rfl) (.t rfl)),Dn (.load ty9 (.t rfl)),Dn (.move (.t rfl)),Dn (.move (.t rfl)),Dn (.idx hv27 U38 Z9 (.t rfl) (.t rfl)),Dn (.load ty9 (.t rfl)),Dn (.eqS (.t rfl) (.t rfl)),trivial⟩<|Aq<|W.cB hm (.t rfl) (fun hp29 hm=>?_) (fun hp29 hm=>?_)
      ·refine W.region<|Am rfl rfl<|Am rfl rfl<|WL.mv rfl rfl ?_
       obtain ⟨v9,hv30,hm⟩:=Bs hm
       refine Ao rfl (.addC hv30 (.t rfl) .i64)<|WL.mv rfl rfl ?_
       obtain ⟨v10,hv31,hm⟩:=Bs hm
       refine Ao rfl (.addC hv31 (.t rfl) .i64) ?_
       obtain ⟨v1_2,hv32,hm⟩:=Bs hm
       refine WL.weakR (res':=[(6,(Bx 1 false 161 (tU k3 l1.length) b2)),(1000006,OwnU I6 3 k3 l1)]) ⟨rfl,rfl,⟨rfl,rfl,trivial⟩⟩<|WL.opR rfl (OpR.callClo (us:=[6,1000006]) (A:=fun kx:Unit=>(I6.is v1_2)) (As:=[I6.is v9,I6.is v10]) C165 (.t rfl) (FSpecR.keys (rin':=[(6,(Bx 1 false 161 (tU k3 l1.length) b2)),(1000006,OwnU I6 3 k3 l1)]) (out':=fun kx:Unit=>[(6,(Bx 1 false 161 (tU k3 l1.length) b2)),(1000006,OwnU I6 3 k3 l1)]) (lcs_lengths_1_spec _ _ _ _ _ _ _ hv32) rfl (fun _=>rfl)) rfl ⟨(.t rfl),(.t rfl),trivial⟩) (fun _=>?_)
       obtain ⟨v11,hv33,hm⟩:=Bs hm
       exact Ao rfl (.addC hv33 (.t rfl) .i64)<|Ao rfl (.maxI (.t rfl) (.t rfl))<|Ag rfl rfl<|WL.nil<|WN.meet ((max (max v1_ v1_1) v11,l1),k3) (Si hm) ⟨.q rfl,.q rfl,.q rfl,.q rfl,.q rfl,.q rfl,.q rfl,.q rfl,trivial⟩ ⟨rfl,rfl,⟨rfl,rfl,trivial⟩⟩
      ·exact W.skip<|WN.meet ((max v1_ v1_1,l1),k3) (Si hm) ⟨.q rfl,.q rfl,.q rfl,.q rfl,.q rfl,.q rfl,.q rfl,.q rfl,trivial⟩ ⟨rfl,rfl,⟨rfl,rfl,trivial⟩⟩
    ·refine W.exit rfl ?_
     have hr40:=Si hm
     clear hm
     subst hr40
     have hm:=hk15
     try dsimp only at hm
     refine WN.block<|Aq<|W.region<|WL.mv rfl rfl ?_
     obtain ⟨v16,hv41,hm⟩:=Bs hm
     exact Ao rfl (.subC hv41 (.t rfl) .i64)<|Ag rfl rfl<|WL.nil<|WN.again n9 ((v16,l1),k3) (Nat.lt_succ_self n9) hm ⟨.q rfl,.q rfl,.q rfl,.q rfl,.q rfl,.q rfl,trivial⟩ ⟨rfl,rfl,⟨rfl,rfl,trivial⟩⟩
  ·refine W.exit rfl ?_
   have hr42:=Si hm
   clear hm
   subst hr42
   have hm:=hk8
   try dsimp only at hm
   refine Aq<|Aw<|Am rfl rfl<|Ag rfl rfl<|WL.ns ?_
   have hr:=Si hm
   clear hm
   subst hr
   exact W.fixR 1000006 60000 rfl<|W.boxG ((tL I6).is l) 6 rfl (fun _ _ hr hA=>tU_tL (hr.at (key:=60000) rfl) hA)<|W.sealB (t:=(tL I6)) (u:=l) 6 60001 rfl<|W.slotG ((tFun Tryz.prog (fun (f:Int→Int→Option Int)=>(fun s:Int×Int×Int=>f s.1 s.2.1=some s.2.2)) (fun s:Int×Int×Int=>[I6.is s.1,I6.is s.2.1]) (fun s:Int×Int×Int=>(I6.is s.2.2))).is (fun s0 s1=>M.lcs_lengths_1_p s0 s1 l v)) 4 rfl (fun _ _ hr hA=>clo_fun C165 (fun s hs=>lcs_lengths_1_p_spec _ _ _ _ _ hs) (All2.cv (fun _ h=>Sd.ptr (hr.at (key:=60001) rfl) h) (All2.cv (fun _ h=>h) (fun _ h=>h))) hA)<|W.ret1 () rfl (.t rfl) trivial
theorem lcs_Pairs_1_spec(n:Nat)(i:Int)(k:Int)(c:List Str)(c1:List Str)(c2:Int→Int→Option Int)(r:api_Pair)(hm:M.lcs_Pairs_1 n i k c c1 c2=some r):FSpec Tryz.prog 129 [(I6.is i),(I6.is k),((tL tS).ptr c),((tL tS).ptr c1),((tFun Tryz.prog (fun (f:Int→Int→Option Int)=>(fun s:Int×Int×Int=>f s.1 s.2.1=some s.2.2)) (fun s:Int×Int×Int=>[I6.is s.1,I6.is s.2.1]) (fun s:Int×Int×Int=>(I6.is s.2.2))).ptr c2)] (tapi_Pair.is r):=by
 unfold M.lcs_Pairs_1 at hm
 refine FSpec.of Tryz.func129 rfl rfl rfl fun g0=>Aw<|WL.opR rfl (OpR.alloc 7 ze94) fun b=>An<|W.seq<|Aw<|Am rfl rfl<|Ag rfl rfl<|An<|W.block ?_
 obtain ⟨s1,hs2,hk3⟩:=Bs hm
 clear hm
 refine W.loop (fun m (s:Int×api_Pair)=>M.lcs_Pairs_1_loop1 i k c c1 c2 m s.1 s.2=some s1) (fun s=>[(8,(I6.is s.1)),(0,(I6.is i)),(1,(I6.is k)),(2,((tL tS).ptr c)),(3,((tL tS).ptr c1)),(4,((tFun Tryz.prog (fun (f:Int→Int→Option Int)=>(fun s:Int×Int×Int=>f s.1 s.2.1=some s.2.2)) (fun s:Int×Int×Int=>[I6.is s.1,I6.is s.2.1]) (fun s:Int×Int×Int=>(I6.is s.2.2))).ptr c2)),(7,(Bp b 0))]) (fun s=>[(7,(Bx 2 true 94 (tapi_Pair.is s.2) b))]) _ (i,zapi_Pair) hs2 ⟨.q rfl,.q rfl,.q rfl,.q rfl,.q rfl,.q rfl,.q rfl,trivial⟩ ⟨rfl,rfl,trivial⟩ ?_
 rintro n4 ⟨x,v⟩ hm
 try dsimp only at hm
 change W _ _ _ _ _ _ _ [(8,(I6.is x)),(0,(I6.is i)),(1,(I6.is k)),(2,((tL tS).ptr c)),(3,((tL tS).ptr c1)),(4,((tFun Tryz.prog (fun (f:Int→Int→Option Int)=>(fun s:Int×Int×Int=>f s.1 s.2.1=some s.2.2)) (fun s:Int×Int×Int=>[I6.is s.1,I6.is s.2.1]) (fun s:Int×Int×Int=>(I6.is s.2.2))).ptr c2)),(7,(Bp b 0))] [(7,(Bx 2 true 94 (tapi_Pair.is v) b))]
 cases n4 with
 | zero=>rw [M.lcs_Pairs_1_loop1.eq_1] at hm;cases hm
 | succ n4=>
  rw [M.lcs_Pairs_1_loop1.eq_2] at hm
  refine W.seq<|Aw<|Am rfl rfl<|Ao rfl (.load ty38 (.t rfl))<|Ao rfl (.lenL U38 (.t rfl))<|Ao rfl (.ltI (.t rfl) (.t rfl))<|An<|W.cD hm (.t rfl) (fun hp6 hm=>?_) (fun hp6 hm=>?_)
  ·refine W.skip<|Aq<|W.seq<|W.block<|Aw<|Am rfl rfl<|Ag rfl rfl<|An<|W.block ?_
   obtain ⟨s7,hs8,hk9⟩:=Bs hm
   clear hm
   refine W.loop (fun m (s:Int×api_Pair)=>M.lcs_Pairs_1_loop2 i k c c1 c2 x m s.1 s.2=some s7) (fun s=>[(9,(I6.is s.1)),(0,(I6.is i)),(1,(I6.is k)),(2,((tL tS).ptr c)),(3,((tL tS).ptr c1)),(4,((tFun Tryz.prog (fun (f:Int→Int→Option Int)=>(fun s:Int×Int×Int=>f s.1 s.2.1=some s.2.2)) (fun s:Int×Int×Int=>[I6.is s.1,I6.is s.2.1]) (fun s:Int×Int×Int=>(I6.is s.2.2))).ptr c2)),(7,(Bp b 0)),(8,(I6.is x))]) (fun s=>[(7,(Bx 2 true 94 (tapi_Pair.is s.2) b))]) _ (k,v) hs8 ⟨.q rfl,.q rfl,.q rfl,.q rfl,.q rfl,.q rfl,.q rfl,.q rfl,trivial⟩ ⟨rfl,rfl,trivial⟩ ?_
   rintro n10 ⟨y,v1⟩ hm
   try dsimp only at hm
   change W _ _ _ _ _ _ _ [(9,(I6.is y)),(0,(I6.is i)),(1,(I6.is k)),(2,((tL tS).ptr c)),(3,((tL tS).ptr c1)),(4,((tFun Tryz.prog (fun (f:Int→Int→Option Int)=>(fun s:Int×Int×Int=>f s.1 s.2.1=some s.2.2)) (fun s:Int×Int×Int=>[I6.is s.1,I6.is s.2.1]) (fun s:Int×Int×Int=>(I6.is s.2.2))).ptr c2)),(7,(Bp b 0)),(8,(I6.is x))] [(7,(Bx 2 true 94 (tapi_Pair.is v1) b))]
   cases n10 with
   | zero=>rw [M.lcs_Pairs_1_loop2.eq_1] at hm;cases hm
   | succ n10=>
    rw [M.lcs_Pairs_1_loop2.eq_2] at hm
    refine W.seq<|Aw<|Am rfl rfl<|Ao rfl (.load ty38 (.t rfl))<|Ao rfl (.lenL U38 (.t rfl))<|Ao rfl (.ltI (.t rfl) (.t rfl))<|An<|W.cD hm (.t rfl) (fun hp12 hm=>?_) (fun hp12 hm=>?_)
    ·refine W.skip<|Aq<|W.seq<|W.block<|W.seq ?_
     obtain ⟨v2,hv13,hm⟩:=Bs hm
     obtain ⟨v3,hv14,hm⟩:=Bs hm
     rcases iteB hm with ⟨hp16,hb15,hm⟩ | ⟨hp16,hb15,hm⟩
     ·obtain ⟨v4,hv17,hm⟩:=Bs hm
      obtain ⟨v5,hv18,hm⟩:=Bs hm
      obtain ⟨v6,hv19,hm⟩:=Bs hm
      obtain ⟨v7,hv20,hm⟩:=Bs hm
      obtain ⟨v8,hv21,hm⟩:=Bs hm
      refine W.draw [.c _,.c _,.c _,.c _,.c _,.c _,.c _,.c _,.c _,.c _,.c _,.c _,.c _,.c _,.c _,.c _,.c _,.c _,.c _,.c _,.c _,.c _,.c _] [([],[2]),([],[8]),([0,1],[]),([2],[]),([],[3]),([],[9]),([4,5],[]),([6],[]),([3,7],[]),([8],[]),([9],[4]),([9],[8]),([9,11],[]),([9],[9]),([9,13],[]),([9,10,12,14],[]),([9,15],[]),([9],[4]),([9],[0]),([9],[1]),([9,17,18,19],[]),([9,16,20],[]),([9,21],[])] Mx rfl rfl rfl rfl (by exact ⟨Dn (.load ty38 (.t rfl)),Dn (.move (.t rfl)),Dn (.idx hv13 U38 Z9 (.t rfl) (.t rfl)),Dn (.load ty9 (.t rfl)),Dn (.load ty38 (.t rfl)),Dn (.move (.t rfl)),Dn (.idx hv14 U38 Z9 (.t rfl) (.t rfl)),Dn (.load ty9 (.t rfl)),Dn (.eqS (.t rfl) (.t rfl)),Dn (.move (.t rfl)),Dr rfl hb15 (.load ty177 (.t rfl)),Dr rfl hb15 (.move (.t rfl)),Dr rfl hb15 (.addC hv17 (.t rfl) .i64),Dr rfl hb15 (.move (.t rfl)),Dr rfl hb15 (.addC hv18 (.t rfl) .i64),Dr rfl hb15 (.callFun (ok:=(fun (f:Int→Int→Option Int)=>(fun s:Int×Int×Int=>f s.1 s.2.1=some s.2.2))) (As:=(fun s:Int×Int×Int=>[I6.is s.1,I6.is s.2.1])) (A:=(fun s:Int×Int×Int=>(I6.is s.2.2))) (f:=c2) (s:=(v4,v5,v6)) (.t rfl) hv19 ⟨(.t rfl),(.t rfl),trivial⟩),Dr rfl hb15 (.addC hv20 (.t rfl) .i64),Dr rfl hb15 (.load ty177 (.t rfl)),Dr rfl hb15 (.move (.t rfl)),Dr rfl hb15 (.move (.t rfl)),Dr rfl hb15 (.callFun (ok:=(fun (f:Int→Int→Option Int)=>(fun s:Int×Int×Int=>f s.1 s.2.1=some s.2.2))) (As:=(fun s:Int×Int×Int=>[I6.is s.1,I6.is s.2.1])) (A:=(fun s:Int×Int×Int=>(I6.is s.2.2))) (f:=c2) (s:=(i,k,v8)) (.t rfl) hv21 ⟨(.t rfl),(.t rfl),trivial⟩),Dr rfl hb15 (.eqI (.t rfl) (.t rfl)),Dn (.pickT (.t rfl) hb15 (.t rfl)),trivial⟩)<|Aq<|W.cD hm (.t rfl) (fun hp23 hm=>?_) (fun hp23 hm=>?_)
      ·refine Aw<|Am rfl rfl<|Am rfl rfl<|Ao rfl (.build (s:=tapi_Pair) (x:=(⟨x,y⟩:api_Pair)) zapi_Pair_f rfl U94 (zapi_Pair_sz _ U94) ze94 ⟨_,I6,x,_,_,rfl,Z3,(.t rfl),sapi_Pair_0,⟨_,I6,y,_,_,rfl,Z3,(.t rfl),sapi_Pair_1,rfl⟩⟩)<|WL.opU (OpR.storeB (b:=b) 7 Z94 (Cellable.is tapi_Pair (⟨x,y⟩:api_Pair)) rfl (.t rfl) (.t rfl)) fun _=>WL.ns ?_
       have hr24:=Si hm
       clear hm
       subst hr24
       have hm:=hk9
       try dsimp only at hm
       have hr25:=Si hm
       clear hm
       subst hr25
       have hm:=hk3
       try dsimp only at hm
       cases hm
       exact W.retQ1 () rfl (ResAt.cell 7 Y94 Z94 rfl (.t rfl)) trivial
      ·exact W.skip<|WN.block<|Aq<|W.region<|Am rfl rfl<|WL.lenL (s:=19) (.t rfl) fun hl26=>Ao rfl (.addI1 (.t rfl) .i64 hp12 hl26)<|Ag rfl rfl<|WL.nil<|WN.again n10 (y+1,v1) (Nat.lt_succ_self n10) hm ⟨.q rfl,.q rfl,.q rfl,.q rfl,.q rfl,.q rfl,.q rfl,.q rfl,trivial⟩ ⟨rfl,rfl,trivial⟩
     ·exact W.draw [.c _,.c _,.c _,.c _,.c _,.c _,.c _,.c _,.c _,.c _,.c _,.c _,.c _,.c _,.c _,.c _,.c _,.c _,.c _,.c _,.c _,.c _,.c _] [([],[2]),([],[8]),([0,1],[]),([2],[]),([],[3]),([],[9]),([4,5],[]),([6],[]),([3,7],[]),([8],[]),([9],[4]),([9],[8]),([9,11],[]),([9],[9]),([9,13],[]),([9,10,12,14],[]),([9,15],[]),([9],[4]),([9],[0]),([9],[1]),([9,17,18,19],[]),([9,16,20],[]),([9,21],[])] Mx rfl rfl rfl rfl (by exact ⟨Dn (.load ty38 (.t rfl)),Dn (.move (.t rfl)),Dn (.idx hv13 U38 Z9 (.t rfl) (.t rfl)),Dn (.load ty9 (.t rfl)),Dn (.load ty38 (.t rfl)),Dn (.move (.t rfl)),Dn (.idx hv14 U38 Z9 (.t rfl) (.t rfl)),Dn (.load ty9 (.t rfl)),Dn (.eqS (.t rfl) (.t rfl)),Dn (.move (.t rfl)),Dp rfl hb15,Dp rfl hb15,Dp rfl hb15,Dp rfl hb15,Dp rfl hb15,Dp rfl hb15,Dp rfl hb15,Dp rfl hb15,Dp rfl hb15,Dp rfl hb15,Dp rfl hb15,Dp rfl hb15,Dn (.pickF (.t rfl) hb15 .bool),trivial⟩)<|Aq<|W.condF (.t rfl)<|W.skip<|WN.block<|Aq<|W.region<|Am rfl rfl<|WL.lenL (s:=19) (.t rfl) fun hl27=>Ao rfl (.addI1 (.t rfl) .i64 hp12 hl27)<|Ag rfl rfl<|WL.nil<|WN.again n10 (y+1,v1) (Nat.lt_succ_self n10) hm ⟨.q rfl,.q rfl,.q rfl,.q rfl,.q rfl,.q rfl,.q rfl,.q rfl,trivial⟩ ⟨rfl,rfl,trivial⟩
    ·refine W.exit rfl ?_
     have hr28:=Si hm
     clear hm
     subst hr28
     have hm:=hk9
     try dsimp only at hm
     refine WN.block<|Aq<|W.region<|WL.mv rfl rfl ?_
     obtain ⟨v9,hv29,hm⟩:=Bs hm
     exact Ao rfl (.addC hv29 (.t rfl) .i64)<|Ag rfl rfl<|WL.nil<|WN.again n4 (v9,v1) (Nat.lt_succ_self n4) hm ⟨.q rfl,.q rfl,.q rfl,.q rfl,.q rfl,.q rfl,.q rfl,trivial⟩ ⟨rfl,rfl,trivial⟩
  ·refine W.exit rfl ?_
   have hr30:=Si hm
   clear hm
   subst hr30
   have hm:=hk3
   try dsimp only at hm
   refine Aq<|Aw<|Ao rfl (.load ty38 (.t rfl))<|Ao rfl (.lenL U38 (.t rfl))<|Ao rfl (.load ty38 (.t rfl))<|Ao rfl (.lenL U38 (.t rfl))<|Ao rfl (.build (s:=tapi_Pair) (x:=(⟨(c.length:Int),(c1.length:Int)⟩:api_Pair)) zapi_Pair_f rfl U94 (zapi_Pair_sz _ U94) ze94 ⟨_,I6,(c.length:Int),_,_,rfl,Z3,(.t rfl),sapi_Pair_0,⟨_,I6,(c1.length:Int),_,_,rfl,Z3,(.t rfl),sapi_Pair_1,rfl⟩⟩)<|WL.opU (OpR.storeB (b:=b) 7 Z94 (Cellable.is tapi_Pair (⟨(c.length:Int),(c1.length:Int)⟩:api_Pair)) rfl (.t rfl) (.t rfl)) fun _=>WL.ns ?_
   cases hm
   exact W.retQ1 () rfl (ResAt.cell 7 Y94 Z94 rfl (.t rfl)) trivial
theorem lcs_Pairs_spec(n:Nat)(a:List Str)(b:List Str)(r:List api_Pair)(hm:M.lcs_Pairs n a b=some r):FSpec Tryz.prog 89 [((tL tS).is a),((tL tS).is b)] ((tL tapi_Pair).is r):=by
 unfold M.lcs_Pairs at hm
 refine FSpec.of Tryz.func89 rfl rfl rfl fun g0=>Aw<|Ao rfl (.box (.t rfl))<|Ao rfl (.box (.t rfl))<|Ao rfl (.assign (.nil (t:=tapi_Pair)))<|An<|W.seq<|Aw<|Ao rfl (.load ty38 (.t rfl))<|Ao rfl (.load ty38 (.t rfl))<|Ao rfl (.buildSlice (n:=2) (ys:=[(0,a),(1,b)]) (z:=([]:List Str)) (xs:=[a,b]) U208 el38 ze38 ⟨rfl,(.t rfl),rfl,(.t rfl),trivial⟩ (by simp) (by decide) rfl) ?_
 obtain ⟨long,hv1,hm⟩:=Bs hm
 refine Ao rfl (.call C127 (lcs_long_spec _ _ _ hv1) ⟨(.t rfl),trivial⟩)<|An<|W.cB hm (.t rfl) (fun hp3 hm=>?_) (fun hp3 hm=>?_)
 ·refine Aw<|Ao rfl (.assign (.nil (t:=tapi_Pair)))<|WL.ns ?_
  cases hm
  exact W.ret1 () rfl (.t rfl) trivial
 ·refine W.skip<|Aq<|Aw<|Ao rfl (.load ty38 (.t rfl))<|Ao rfl (.load ty38 (.t rfl)) ?_
  obtain ⟨length,hv4,hm⟩:=Bs hm
  refine Ao rfl (.call C128 (lcs_lengths_spec _ _ _ _ hv4) ⟨(.t rfl),(.t rfl),trivial⟩)<|WL.opR rfl (OpR.allocF 5 Tryz.zeroValue177) fun b1=>WL.opU (OpR.storeB (b:=b1) 5 Z177 (Cellable.is (tFun Tryz.prog (fun (f:Int→Int→Option Int)=>(fun s:Int×Int×Int=>f s.1 s.2.1=some s.2.2)) (fun s:Int×Int×Int=>[I6.is s.1,I6.is s.2.1]) (fun s:Int×Int×Int=>(I6.is s.2.2))) length) rfl (.t rfl) (.t rfl)) fun _=>WL.sealed (t:=(tFun Tryz.prog (fun (f:Int→Int→Option Int)=>(fun s:Int×Int×Int=>f s.1 s.2.1=some s.2.2)) (fun s:Int×Int×Int=>[I6.is s.1,I6.is s.2.1]) (fun s:Int×Int×Int=>(I6.is s.2.2)))) (u:=length) 5 5 rfl rfl<|WL.nr ?_
  obtain ⟨fn,hv5,hm⟩:=Bs hm
  refine Ao rfl (.makeFunc (ok:=(fun s:Int×Int×api_Pair=>fn s.1 s.2.1=some s.2.2)) (As:=(fun s:Int×Int×api_Pair=>[I6.is s.1,I6.is s.2.1])) (A:=(fun s:Int×Int×api_Pair=>(tapi_Pair.is s.2.2))) (Cs:=[((tL tS).ptr a),((tL tS).ptr b),((tFun Tryz.prog (fun (f:Int→Int→Option Int)=>(fun s:Int×Int×Int=>f s.1 s.2.1=some s.2.2)) (fun s:Int×Int×Int=>[I6.is s.1,I6.is s.2.1]) (fun s:Int×Int×Int=>(I6.is s.2.2))).ptr length)]) (cap:=[.tmp 2,.tmp 3,.tmp 5]) C129 ⟨(.t rfl),(.t rfl),(.t rfl),trivial⟩ (fun s hs=>(by cases hv5;exact (lcs_Pairs_1_spec _ _ _ _ _ _ _ hs))))<|Ag rfl rfl<|Ar<|WL.addNil (t:=tapi_Pair) (E:=94) 7<|Ao rfl (.assign (Opd.nilO (t:=tapi_Pair)))<|Ar<|Ao rfl (.assign .i64)<|Ao rfl (.assign .i64)<|An<|W.seq<|W.block ?_
  obtain ⟨s6,hs7,hk8⟩:=Bs hm
  clear hm
  refine W.loop (fun m (s:((List api_Pair)×Int×Int)×Tok)=>M.lcs_Pairs_loop1 length fn m s.1.1 s.1.2.1 s.1.2.2=some s6) (fun s=>[(7,(tO tapi_Pair s.2 s.1.1)),(8,(I6.is s.1.2.1)),(9,(I6.is s.1.2.2)),(5,((tFun Tryz.prog (fun (f:Int→Int→Option Int)=>(fun s:Int×Int×Int=>f s.1 s.2.1=some s.2.2)) (fun s:Int×Int×Int=>[I6.is s.1,I6.is s.2.1]) (fun s:Int×Int×Int=>(I6.is s.2.2))).ptr length)),(6,(tF Tryz.prog (fun s:Int×Int×api_Pair=>fn s.1 s.2.1=some s.2.2) (fun s:Int×Int×api_Pair=>[I6.is s.1,I6.is s.2.1]) (fun s:Int×Int×api_Pair=>(tapi_Pair.is s.2.2))))]) (fun s=>[(7,Dec.Own tapi_Pair 94 s.2 s.1.1.length)]) _ ((([]:List api_Pair),(0:Int),(0:Int)),(none:Tok)) hs7 ⟨.q rfl,.q rfl,.q rfl,.q rfl,.q rfl,trivial⟩ ⟨rfl,rfl,trivial⟩ ?_
  rintro n9 ⟨⟨out,i,k⟩,k1⟩ hm
  try dsimp only at hm
  change W _ _ _ _ _ _ _ [(7,(tO tapi_Pair k1 out)),(8,(I6.is i)),(9,(I6.is k)),(5,((tFun Tryz.prog (fun (f:Int→Int→Option Int)=>(fun s:Int×Int×Int=>f s.1 s.2.1=some s.2.2)) (fun s:Int×Int×Int=>[I6.is s.1,I6.is s.2.1]) (fun s:Int×Int×Int=>(I6.is s.2.2))).ptr length)),(6,(tF Tryz.prog (fun s:Int×Int×api_Pair=>fn s.1 s.2.1=some s.2.2) (fun s:Int×Int×api_Pair=>[I6.is s.1,I6.is s.2.1]) (fun s:Int×Int×api_Pair=>(tapi_Pair.is s.2.2))))] [(7,Dec.Own tapi_Pair 94 k1 out.length)]
  cases n9 with
  | zero=>rw [M.lcs_Pairs_loop1.eq_1] at hm;cases hm
  | succ n9=>
   rw [M.lcs_Pairs_loop1.eq_2] at hm
   refine W.seq<|Aw<|Ao rfl (.load ty177 (.t rfl))<|Am rfl rfl<|WL.mv rfl rfl ?_
   obtain ⟨v,hv10,hm⟩:=Bs hm
   refine Ao rfl (.callFun (ok:=(fun (f:Int→Int→Option Int)=>(fun s:Int×Int×Int=>f s.1 s.2.1=some s.2.2))) (As:=(fun s:Int×Int×Int=>[I6.is s.1,I6.is s.2.1])) (A:=(fun s:Int×Int×Int=>(I6.is s.2.2))) (f:=length) (s:=(i,k,v)) (.t rfl) hv10 ⟨(.t rfl),(.t rfl),trivial⟩)<|Ao rfl (.gtI (.t rfl) .i64)<|An<|W.cD hm (.t rfl) (fun hp12 hm=>?_) (fun hp12 hm=>?_)
   ·refine W.skip<|Aq<|W.block<|Aw<|Am rfl rfl<|Am rfl rfl<|WL.mv rfl rfl ?_
    obtain ⟨v1,hv13,hm⟩:=Bs hm
    refine Ao rfl (.callF (ok:=(fun s:Int×Int×api_Pair=>fn s.1 s.2.1=some s.2.2)) (As:=(fun s:Int×Int×api_Pair=>[I6.is s.1,I6.is s.2.1])) (A:=(fun s:Int×Int×api_Pair=>(tapi_Pair.is s.2.2))) (s:=(i,k,v1)) (.t rfl) hv13 ⟨(.t rfl),(.t rfl),trivial⟩)<|WL.opR rfl (OpR.alloc 10 ze94) fun b2=>WL.opU (OpR.storeB (b:=b2) 10 Z94 (Cellable.is tapi_Pair v1) rfl (.t rfl) (.t rfl)) fun _=>WL.sealed (t:=tapi_Pair) (u:=v1) 10 10 rfl rfl<|Ar<|Am rfl rfl<|Ao rfl (.load ty94 (.t rfl))<|Ao rfl (.buildSlice (n:=1) (ys:=[(0,v1)]) (z:=zapi_Pair) (xs:=[v1]) U91 el94 ze94 ⟨rfl,(.t rfl),trivial⟩ (by simp) (by decide) rfl) ?_
    obtain ⟨out1,hv14,hm⟩:=Bs hm
    refine WL.opR rfl (OpR.appC (key:=7) hv14 U91 el94 (.t rfl) (.t rfl) rfl) fun k2=>Ag rfl rfl<|WL.ns ?_
    obtain ⟨v2,hv15,hm⟩:=Bs hm
    obtain ⟨v3,hv16,hm⟩:=Bs hm
    exact W.weakR (res':=[(7,Dec.Own tapi_Pair 94 k2 out1.length)]) ⟨rfl,rfl,trivial⟩<|W.drawM [.c (I6.ptr v1.A),.c (I6.is v1.A),.c (I6.is v2),.c (I6.ptr v1.B),.c (I6.is v1.B),.c (I6.is v3),.c (I6.is v2),.c (I6.is v3)] [([],[10]),([0],[]),([1],[]),([],[10]),([3],[]),([4],[]),([2],[]),([5],[])] [] [[],[],[],[],[],[],[],[]] (fun m cv=>match m with  | _=>[(7,Dec.Own tapi_Pair 94 k2 out1.length)]) (fun _=>none) Mx rfl rfl rfl rfl rfl ⟨fun _ _ _ _=>rfl,⟨fun _ _ _ _=>rfl,⟨fun _ _ _ _=>rfl,⟨fun _ _ _ _=>rfl,⟨fun _ _ _ _=>rfl,⟨fun _ _ _ _=>rfl,⟨fun _ _ _ _=>rfl,⟨fun _ _ _ _=>rfl,trivial⟩⟩⟩⟩⟩⟩⟩⟩ rfl ⟨mo fun cv=>Op1.fieldAddr U94 rfl J3 fapi_Pair_0 (.t rfl),⟨mo fun cv=>Op1.load ty3 (.t rfl),⟨mo fun cv=>Op1.addC hv15 (.t rfl) .i64,⟨mo fun cv=>Op1.fieldAddr U94 rfl J3 fapi_Pair_1 (.t rfl),⟨mo fun cv=>Op1.load ty3 (.t rfl),⟨mo fun cv=>Op1.addC hv16 (.t rfl) .i64,⟨mo fun cv=>Op1.assign (.t rfl),⟨mo fun cv=>Op1.assign (.t rfl),trivial⟩⟩⟩⟩⟩⟩⟩⟩ trivial fun cv=>WN.block<|WN.again n9 ((out1,v2,v3),k2) (Nat.lt_succ_self n9) hm ⟨.q rfl,.q rfl,.q rfl,.q rfl,.q rfl,trivial⟩ ⟨rfl,rfl,trivial⟩
   ·refine W.exit rfl ?_
    have hr17:=Si hm
    clear hm
    subst hr17
    have hm:=hk8
    try dsimp only at hm
    refine Aq<|Aw<|Am rfl rfl<|Ag rfl rfl<|WL.ns ?_
    cases hm
    exact W.ret1 () rfl (Opd.own (.t rfl)) trivial
theorem redline_words_1_spec(s0_:Str)(x:Str)(c:Str→Option api_TrackedWord)(r:api_TrackedWord)(hm:M.redline_words_1 s0_ x c=some r):FSpec Tryz.prog 90 [(tS.is s0_),(tS.is x),((tFun Tryz.prog (fun (f:Str→Option api_TrackedWord)=>(fun s:Str×api_TrackedWord=>f s.1=some s.2)) (fun s:Str×api_TrackedWord=>[tS.is s.1]) (fun s:Str×api_TrackedWord=>(tapi_TrackedWord.is s.2))).ptr c)] (tapi_TrackedWord.is r):=by
 unfold M.redline_words_1 at hm
 refine FSpec.of Tryz.func90 rfl rfl rfl fun g0=>Aw<|WL.opR rfl (OpR.alloc 5 ze53) fun b=>Ar<|Ao rfl (.load ty133 (.t rfl))<|WL.mv rfl rfl ?_
 obtain ⟨v,hv1,hm⟩:=Bs hm
 refine Ao rfl (.callFun (ok:=(fun (f:Str→Option api_TrackedWord)=>(fun s:Str×api_TrackedWord=>f s.1=some s.2))) (As:=(fun s:Str×api_TrackedWord=>[tS.is s.1])) (A:=(fun s:Str×api_TrackedWord=>(tapi_TrackedWord.is s.2))) (f:=c) (s:=(s0_,v)) (.t rfl) hv1 ⟨(.t rfl),trivial⟩)<|WL.opU (OpR.storeB (b:=b) 5 Z53 (Cellable.is tapi_TrackedWord v) rfl (.t rfl) (.t rfl)) fun _=>WL.ns ?_
 cases hm
 exact W.retQ1 () rfl (ResAt.cell 5 Y53 Z53 rfl (.t rfl)) trivial
theorem slices_Clone_api_Pair_api_Pair_spec(l:List api_Pair)(r:List api_Pair)(hm:M.slices_Clone_api_Pair_api_Pair l=some r):FSpecR Tryz.prog 91 [(tL tapi_Pair).is l] [] (fun k:Tok=>tO tapi_Pair k r) (fun k=>[(5,Dec.Own tapi_Pair 94 k r.length)]):=by
 unfold M.slices_Clone_api_Pair_api_Pair at hm
 refine FSpecR.of Tryz.func91 rfl rfl rfl fun g0=>W.seq<|W.region<|Ao rfl (.assign (.nil (t:=tapi_Pair)))<|WL.nil<|Aq<|W.seq<|W.seq<|W.region<|Ao rfl (.move (.t rfl))<|WL.opR rfl (OpR.eqNil U91 (.t rfl)) fun b=>WL.nil<|Aq<|W.cond (.t rfl) (fun hc=>?_) (fun hc=>?_)
 ·have hl:=b.2 hc
  subst hl
  have hr:[]=r:=by simpa [appC] using hm
  subst hr
  exact W.seq<|W.region<|WL.addNil (t:=tapi_Pair) (E:=94) 5<|Ao rfl (.assign (Opd.nilO (t:=tapi_Pair)))<|WL.nil<|Aq<|W.ret1 (none:Tok) rfl (.t rfl) ⟨rfl,rfl,trivial⟩
 ·exact W.skip<|Aq<|W.seq<|W.region<|WL.opR rfl (OpR.buildSlice (n:=0) (ys:=[]) (z:=zapi_Pair) (xs:=[]) 5 U91 el94 ze94 trivial (by simp) (by decide) rfl) fun k5=>Ao rfl (.move (.t rfl))<|WL.opR rfl (OpR.appC (key:=5) hm U91 el94 (.t rfl) (.t rfl) rfl) fun k7=>Ao rfl (.assign (.t rfl))<|WL.nil<|Aq<|W.ret1 k7 rfl (.t rfl) ⟨rfl,rfl,trivial⟩
end Go.Proofs.YtalogjkalmkpjaaGreatDoor
