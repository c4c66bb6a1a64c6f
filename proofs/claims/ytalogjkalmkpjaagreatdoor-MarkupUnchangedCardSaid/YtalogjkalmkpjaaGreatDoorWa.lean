/-
  The code does what the models say: written by program.
-/
import Derived.Test.YtalogjkalmkpjaaGreatDoorBd
set_option linter.unusedVariables false
set_option linter.unusedSimpArgs false
namespace Go.Proofs.YtalogjkalmkpjaaGreatDoor
open Go Go.Dec
set_option maxRecDepth 100000
set_option maxHeartbeats 4000000
theorem markup_validID_spec(id:api_Id)(r:Bool)(hm:M.markup_validID id=some r):FSpec Tryz.prog 74 [(tapi_Id.is id)] (tB.is r):=by
 unfold M.markup_validID at hm
 refine FSpec.of Tryz.func74 rfl rfl rfl fun g0=>Aw<|Ao rfl (.box (.t rfl))<|Ao rfl (.assign .bool)<|An<|W.seq<|Aw<|Ao rfl (.fieldAddr U23 rfl J3 fapi_Id_0 (.t rfl))<|Ao rfl (.load ty3 (.t rfl))<|Ao rfl (.fieldAddr U23 rfl J3 fapi_Id_1 (.t rfl))<|Ao rfl (.load ty3 (.t rfl))<|Ao rfl (.fieldAddr U23 rfl J3 fapi_Id_2 (.t rfl))<|Ao rfl (.load ty3 (.t rfl))<|Ao rfl (.buildSlice (n:=3) (ys:=[(0,id.Act),(1,id.Item),(2,id.N)]) (z:=(0:Int)) (xs:=[id.Act,id.Item,id.N]) U161 el3 ze3 ⟨rfl,(.t rfl),rfl,(.t rfl),rfl,(.t rfl),trivial⟩ (by simp) (by decide) rfl)<|Ao rfl (.lenL U161 (.t rfl))<|Ao rfl (.move .i64) ?_
 refine An<|W.block ?_
 obtain ⟨s1,hs2,hk3⟩:=Bs hm
 clear hm
 refine W.loop (fun m (s:Int×List Int×List Int×Unit)=>m=s.2.2.1.length∧ [id.Act,id.Item,id.N]=s.2.1++s.2.2.1∧s.1=(s.2.1.length:Int)∧M.markup_validID_loop1 s.2.2.1=some s1) (fun s=>[(13,(I6.is s.1)),(11,((tL I6).is [id.Act,id.Item,id.N])),(12,(I6.is ([id.Act,id.Item,id.N].length:Int)))]) (fun s=>[]) [id.Act,id.Item,id.N].length ((0:Int),[],[id.Act,id.Item,id.N],()) ⟨rfl,rfl,rfl,hs2⟩ ⟨.q rfl,.q rfl,.q rfl,trivial⟩ trivial ?_
 rintro m ⟨i,pre,rest1,_⟩ ⟨hn7,hxs4,hi5,hm⟩
 try dsimp only at hn7 hxs4 hi5 hm
 change W _ _ _ _ _ _ _ [(13,(I6.is i)),(11,((tL I6).is [id.Act,id.Item,id.N])),(12,(I6.is ([id.Act,id.Item,id.N].length:Int)))] []
 refine W.lenL (s:=11) (.t rfl) fun hlen6=>Aw<|Ao rfl (.ltI (.t rfl) (.t rfl))<|An<|W.seq<|W.cond (.t rfl) (fun hc9=>?_) (fun hc9=>?_)
 ·have hp10:=of_decide_eq_true hc9
  obtain ⟨e,es,hrest12⟩:=range_more hxs4 hi5 hp10
  subst hrest12
  rw [M.markup_validID_loop1.eq_2] at hm
  refine W.skip<|Aq<|W.seq<|W.block<|Aw<|Ao rfl (.idxPre hxs4 hi5 U161 Z3 (.t rfl) (.t rfl))<|Ao rfl (.load ty3 (.t rfl))<|Ag rfl rfl<|Ar<|Am rfl rfl<|Ao rfl (.ltI (.t rfl) .i64)<|WL.mv rfl rfl ?_
  rcases iteD hm with ⟨hp14,hb13,hm⟩ | ⟨hp14,hb13,hm⟩
  ·refine Ap rfl hb13<|Ap rfl hb13<|Ao rfl (.pickT (.t rfl) hb13 .bool)<|An<|W.condT (.t rfl)<|Aw<|Ao rfl (.assign .bool)<|WL.ns ?_
   have hr15:=Si hm
   clear hm
   subst hr15
   have hm:=hk3
   try dsimp only at hm
   cases hm
   exact W.ret1 () rfl (.t rfl) trivial
  ·refine Ax rfl hb13 (.move (.t rfl))<|Ax rfl hb13 (.gtI (.t rfl) .i64)<|Ao rfl (.pickF (.t rfl) hb13 (.t rfl))<|An<|W.cD hm (.t rfl) (fun hp17 hm=>?_) (fun hp17 hm=>?_)
   ·refine Aw<|Ao rfl (.assign .bool)<|WL.ns ?_
    have hr18:=Si hm
    clear hm
    subst hr18
    have hm:=hk3
    try dsimp only at hm
    cases hm
    exact W.ret1 () rfl (.t rfl) trivial
   ·exact W.skip<|WN.block<|Aq<|W.region<|Ao rfl (.addI (.t rfl) .i64 (range_inR hi5 hp10 hlen6))<|Am rfl rfl<|WL.nil<|WN.again es.length (i+1,pre++ [e],es,()) (range_lt hn7) ⟨rfl,range_step hxs4,range_idx hi5,hm⟩ ⟨.q rfl,.q rfl,.q rfl,trivial⟩ trivial
 ·have hrest12:=range_end hxs4 hi5 (of_decide_eq_false hc9)
  subst hrest12
  rw [M.markup_validID_loop1.eq_1] at hm
  refine W.exit rfl ?_
  have hr19:=Si hm
  clear hm
  subst hr19
  have hm:=hk3
  try dsimp only at hm
  refine Aq<|Aw<|Ao rfl (.assign .bool)<|WL.ns ?_
  cases hm
  exact W.ret1 () rfl (.t rfl) trivial
theorem markup_isPlaceholder_spec(t:api_TrackedUnit)(r:Bool)(hm:M.markup_isPlaceholder t=some r):FSpec Tryz.prog 37 [(tapi_TrackedUnit.is t)] (tB.is r):=by
 unfold M.markup_isPlaceholder at hm
 refine FSpec.of Tryz.func37 rfl rfl rfl fun g0=>Aw<|Ao rfl (.box (.t rfl))<|Ao rfl (.assign .bool)<|WL.ns ?_
 obtain ⟨s1,hs2,hk3⟩:=Bs hm
 clear hm
 refine W.join (fun s:Bool=>s=s1) (fun s=>[(3,(tB.is s)),(1,(tapi_TrackedUnit.ptr t))]) (fun s=>[]) ?_ ?_
 ·rintro empty hj19
  try dsimp only at hj19
  subst hj19
  have hm:=hk3
  clear hk3
  try dsimp only at hm
  change W _ _ _ _ _ _ _ [(3,(tB.is empty)),(1,(tapi_TrackedUnit.ptr t))] []
  refine Aw<|Am rfl rfl<|WL.mv rfl rfl ?_
  rcases iteB hm with ⟨hp13,hb12,hm⟩ | ⟨hp13,hb12,hm⟩
  ·refine Ax rfl hb12 (.fieldAddr U33 rfl J3 fapi_TrackedUnit_0 (.t rfl))<|Ax rfl hb12 (.load ty3 (.t rfl))<|Ax rfl hb12 (.eqI (.t rfl) .i64)<|Ao rfl (.pickT (.t rfl) hb12 (.t rfl))<|WL.mv rfl rfl ?_
   rcases iteD hm with ⟨hp15,hb14,hm⟩ | ⟨hp15,hb14,hm⟩
   ·refine Ax rfl hb14 (.fieldAddr U33 rfl J4 fapi_TrackedUnit_5 (.t rfl))<|Ax rfl hb14 (.load ty4 (.t rfl))<|Ao rfl (.pickT (.t rfl) hb14 (.t rfl))<|WL.mv rfl rfl ?_
    rcases iteB hm with ⟨hp17,hb16,hm⟩ | ⟨hp17,hb16,hm⟩
    ·refine Ax rfl hb16 (.fieldAddr U33 rfl J23 fapi_TrackedUnit_2 (.t rfl))<|Ax rfl hb16 (.load ty23 (.t rfl)) ?_
     obtain ⟨validi,hv18,hm⟩:=Bs hm
     refine Ax rfl hb16 (.call C74 (markup_validID_spec _ _ hv18) ⟨(.t rfl),trivial⟩)<|Ao rfl (.pickT (.t rfl) hb16 (.t rfl))<|Ag rfl rfl<|WL.ns ?_
     cases hm
     exact W.ret1 () rfl (.t rfl) trivial
    ·refine Ap rfl hb16<|Ap rfl hb16<|Ap rfl hb16<|Ao rfl (.pickF (.t rfl) hb16 .bool)<|Ag rfl rfl<|WL.ns ?_
     cases hm
     exact W.ret1 () rfl (.t rfl) trivial
   ·refine Ap rfl hb14<|Ap rfl hb14<|Ao rfl (.pickF (.t rfl) hb14 .bool)<|Am rfl rfl<|Ap rfl rfl<|Ap rfl rfl<|Ap rfl rfl<|Ao rfl (.pickF (.t rfl) rfl .bool)<|Ag rfl rfl<|WL.ns ?_
    cases hm
    exact W.ret1 () rfl (.t rfl) trivial
  ·refine Ap rfl hb12<|Ap rfl hb12<|Ap rfl hb12<|Ao rfl (.pickF (.t rfl) hb12 .bool)<|Am rfl rfl<|Ap rfl rfl<|Ap rfl rfl<|Ao rfl (.pickF (.t rfl) rfl .bool)<|Am rfl rfl<|Ap rfl rfl<|Ap rfl rfl<|Ap rfl rfl<|Ao rfl (.pickF (.t rfl) rfl .bool)<|Ag rfl rfl<|WL.ns ?_
   cases hm
   exact W.ret1 () rfl (.t rfl) trivial
 ·have hm:=hs2
  clear hs2
  refine W.region<|Ao rfl (.fieldAddr U33 rfl J3 fapi_TrackedUnit_1 (.t rfl))<|Ao rfl (.load ty3 (.t rfl))<|Ao rfl (.eqI (.t rfl) .i64)<|WL.mv rfl rfl ?_
  rcases iteD hm with ⟨hp5,hb4,hm⟩ | ⟨hp5,hb4,hm⟩
  ·refine Ax rfl hb4 (.fieldAddr U33 rfl J9 fapi_TrackedUnit_3 (.t rfl))<|Ax rfl hb4 (.load ty9 (.t rfl))<|Ax rfl hb4 (.eqS (.t rfl) (.str rfl (by decide)))<|Ao rfl (.pickT (.t rfl) hb4 (.t rfl))<|WL.mv rfl rfl ?_
   rcases iteB hm with ⟨hp7,hb6,hm⟩ | ⟨hp7,hb6,hm⟩
   ·refine Ax rfl hb6 (.fieldAddr U33 rfl J9 fapi_TrackedUnit_4 (.t rfl))<|Ax rfl hb6 (.load ty9 (.t rfl))<|Ax rfl hb6 (.eqS (.t rfl) (.str rfl (by decide)))<|Ao rfl (.pickT (.t rfl) hb6 (.t rfl))<|WL.mv rfl rfl ?_
    rcases iteB hm with ⟨hp9,hb8,hm⟩ | ⟨hp9,hb8,hm⟩
    ·refine Ax rfl hb8 (.fieldAddr U33 rfl J30 fapi_TrackedUnit_6 (.t rfl))<|Ax rfl hb8 (.load ty30 (.t rfl))<|Ax rfl hb8 (.lenL U30 (.t rfl))<|Ax rfl hb8 (.fieldAddr U33 rfl J30 fapi_TrackedUnit_7 (.t rfl))<|Ax rfl hb8 (.load ty30 (.t rfl))<|Ax rfl hb8 (.lenL U30 (.t rfl)) ?_
     obtain ⟨v,hv10,hm⟩:=Bs hm
     refine Ax rfl hb8 (.addC hv10 (.t rfl) (.t rfl))<|Ax rfl hb8 (.fieldAddr U33 rfl J31 fapi_TrackedUnit_8 (.t rfl))<|Ax rfl hb8 (.load ty31 (.t rfl))<|Ax rfl hb8 (.lenL U31 (.t rfl)) ?_
     obtain ⟨v1,hv11,hm⟩:=Bs hm
     exact Ax rfl hb8 (.addC hv11 (.t rfl) (.t rfl))<|Ax rfl hb8 (.eqI (.t rfl) .i64)<|Ao rfl (.pickT (.t rfl) hb8 (.t rfl))<|Ag rfl rfl<|WL.nil<|WN.meet (decide (v1=(0:Int))) (Si hm) ⟨.q rfl,.q rfl,trivial⟩ trivial
    ·exact Ap rfl hb8<|Ap rfl hb8<|Ap rfl hb8<|Ap rfl hb8<|Ap rfl hb8<|Ap rfl hb8<|Ap rfl hb8<|Ap rfl hb8<|Ap rfl hb8<|Ap rfl hb8<|Ap rfl hb8<|Ap rfl hb8<|Ao rfl (.pickF (.t rfl) hb8 .bool)<|Ag rfl rfl<|WL.nil<|WN.meet false (Si hm) ⟨.q rfl,.q rfl,trivial⟩ trivial
   ·refine Ap rfl hb6<|Ap rfl hb6<|Ap rfl hb6<|Ao rfl (.pickF (.t rfl) hb6 .bool)<|Am rfl rfl<|Ap rfl rfl<|Ap rfl rfl<|Ap rfl rfl<|Ap rfl rfl<|Ap rfl rfl<|Ap rfl rfl<|Ap rfl rfl<|Ap rfl rfl<|Ap rfl rfl<|Ap rfl rfl<|Ap rfl rfl ?_
    exact Ap rfl rfl<|Ao rfl (.pickF (.t rfl) rfl .bool)<|Ag rfl rfl<|WL.nil<|WN.meet false (Si hm) ⟨.q rfl,.q rfl,trivial⟩ trivial
  ·refine Ap rfl hb4<|Ap rfl hb4<|Ap rfl hb4<|Ao rfl (.pickF (.t rfl) hb4 .bool)<|Am rfl rfl<|Ap rfl rfl<|Ap rfl rfl<|Ap rfl rfl<|Ao rfl (.pickF (.t rfl) rfl .bool)<|Am rfl rfl<|Ap rfl rfl<|Ap rfl rfl<|Ap rfl rfl<|Ap rfl rfl<|Ap rfl rfl<|Ap rfl rfl ?_
   exact Ap rfl rfl<|Ap rfl rfl<|Ap rfl rfl<|Ap rfl rfl<|Ap rfl rfl<|Ap rfl rfl<|Ao rfl (.pickF (.t rfl) rfl .bool)<|Ag rfl rfl<|WL.nil<|WN.meet false (Si hm) ⟨.q rfl,.q rfl,trivial⟩ trivial
theorem slices_IndexFunc_api_TrackedWord_api_TrackedWord_spec(n:Nat)(s0_:List api_TrackedWord)(f:api_TrackedWord→Option Bool)(r:Int)(hm:M.slices_IndexFunc_api_TrackedWord_api_TrackedWord n s0_ f=some r):FSpec Tryz.prog 115 [((tL tapi_TrackedWord).is s0_),(tF Tryz.prog (fun s:api_TrackedWord×Bool=>f s.1=some s.2) (fun s:api_TrackedWord×Bool=>[tapi_TrackedWord.is s.1]) (fun s:api_TrackedWord×Bool=>(tB.is s.2)))] (I6.is r):=by
 unfold M.slices_IndexFunc_api_TrackedWord_api_TrackedWord at hm
 refine FSpec.of Tryz.func115 rfl rfl rfl fun g0=>Aw<|Ao rfl (.assign .i64)<|An<|W.seq<|Aw<|Am rfl rfl<|Ao rfl (.lenL U30 (.t rfl))<|Ao rfl (.move .i64)<|An<|W.block ?_
 obtain ⟨s1,hs2,hk3⟩:=Bs hm
 clear hm
 refine W.loop (fun m (s:Int)=>M.slices_IndexFunc_api_TrackedWord_api_TrackedWord_loop1 s0_ f m s=some s1) (fun s=>[(8,(I6.is s)),(0,((tL tapi_TrackedWord).is s0_)),(1,(tF Tryz.prog (fun s:api_TrackedWord×Bool=>f s.1=some s.2) (fun s:api_TrackedWord×Bool=>[tapi_TrackedWord.is s.1]) (fun s:api_TrackedWord×Bool=>(tB.is s.2)))),(7,(I6.is (s0_.length:Int)))]) (fun s=>[]) _ (0:Int) hs2 ⟨.q rfl,.q rfl,.q rfl,.q rfl,trivial⟩ trivial ?_
 rintro n4 v hm
 try dsimp only at hm
 change W _ _ _ _ _ _ _ [(8,(I6.is v)),(0,((tL tapi_TrackedWord).is s0_)),(1,(tF Tryz.prog (fun s:api_TrackedWord×Bool=>f s.1=some s.2) (fun s:api_TrackedWord×Bool=>[tapi_TrackedWord.is s.1]) (fun s:api_TrackedWord×Bool=>(tB.is s.2)))),(7,(I6.is (s0_.length:Int)))] []
 cases n4 with
 | zero=>rw [M.slices_IndexFunc_api_TrackedWord_api_TrackedWord_loop1.eq_1] at hm;cases hm
 | succ n4=>
  rw [M.slices_IndexFunc_api_TrackedWord_api_TrackedWord_loop1.eq_2] at hm
  refine Aw<|Ao rfl (.ltI (.t rfl) (.t rfl))<|An<|W.seq<|W.cD hm (.t rfl) (fun hp6 hm=>?_) (fun hp6 hm=>?_)
  ·refine W.skip<|Aq<|W.seq<|W.block<|Aw<|Am rfl rfl<|Ag rfl rfl<|Ar<|Am rfl rfl<|Am rfl rfl<|WL.mv rfl rfl ?_
   obtain ⟨v1,hv7,hm⟩:=Bs hm
   refine Ao rfl (.idx hv7 U30 Z53 (.t rfl) (.t rfl))<|Ao rfl (.load ty53 (.t rfl)) ?_
   obtain ⟨v2,hv8,hm⟩:=Bs hm
   refine Ao rfl (.callF (ok:=(fun s:api_TrackedWord×Bool=>f s.1=some s.2)) (As:=(fun s:api_TrackedWord×Bool=>[tapi_TrackedWord.is s.1])) (A:=(fun s:api_TrackedWord×Bool=>(tB.is s.2))) (s:=(v1,v2)) (.t rfl) hv8 ⟨(.t rfl),trivial⟩)<|An<|W.cB hm (.t rfl) (fun hp10 hm=>?_) (fun hp10 hm=>?_)
   ·refine Aw<|Am rfl rfl<|Ag rfl rfl<|WL.ns ?_
    have hr11:=Si hm
    clear hm
    subst hr11
    have hm:=hk3
    try dsimp only at hm
    cases hm
    exact W.ret1 () rfl (.t rfl) trivial
   ·exact W.skip<|WN.block<|Aq<|W.region<|WL.lenL (s:=0) (.t rfl) fun hl12=>Ao rfl (.addI1 (.t rfl) .i64 hp6 hl12)<|Am rfl rfl<|WL.nil<|WN.again n4 (v+1) (Nat.lt_succ_self n4) hm ⟨.q rfl,.q rfl,.q rfl,.q rfl,trivial⟩ trivial
  ·refine W.exit rfl ?_
   have hr13:=Si hm
   clear hm
   subst hr13
   have hm:=hk3
   try dsimp only at hm
   refine Aq<|Aw<|Ao rfl (.assign .i64)<|WL.ns ?_
   cases hm
   exact W.ret1 () rfl (.t rfl) trivial
theorem slices_ContainsFunc_api_TrackedWord_api_TrackedWord_spec(n:Nat)(s0_:List api_TrackedWord)(f:api_TrackedWord→Option Bool)(r:Bool)(hm:M.slices_ContainsFunc_api_TrackedWord_api_TrackedWord n s0_ f=some r):FSpec Tryz.prog 75 [((tL tapi_TrackedWord).is s0_),(tF Tryz.prog (fun s:api_TrackedWord×Bool=>f s.1=some s.2) (fun s:api_TrackedWord×Bool=>[tapi_TrackedWord.is s.1]) (fun s:api_TrackedWord×Bool=>(tB.is s.2)))] (tB.is r):=by
 unfold M.slices_ContainsFunc_api_TrackedWord_api_TrackedWord at hm
 refine FSpec.of Tryz.func75 rfl rfl rfl fun g0=>Aw<|Ao rfl (.assign .bool)<|Ar<|Am rfl rfl<|WL.mv rfl rfl ?_
 obtain ⟨tracke,hv1,hm⟩:=Bs hm
 refine Ao rfl (.call C115 (slices_IndexFunc_api_TrackedWord_api_TrackedWord_spec _ _ _ _ hv1) ⟨(.t rfl),(.t rfl),trivial⟩)<|Ao rfl (.geI (.t rfl) .i64)<|Ag rfl rfl<|WL.ns ?_
 cases hm
 exact W.ret1 () rfl (.t rfl) trivial
theorem slices_IndexFunc_string_string_spec(n:Nat)(s0_:List Str)(f:Str→Option Bool)(r:Int)(hm:M.slices_IndexFunc_string_string n s0_ f=some r):FSpec Tryz.prog 178 [((tL tS).is s0_),(tF Tryz.prog (fun s:Str×Bool=>f s.1=some s.2) (fun s:Str×Bool=>[tS.is s.1]) (fun s:Str×Bool=>(tB.is s.2)))] (I6.is r):=by
 unfold M.slices_IndexFunc_string_string at hm
 refine FSpec.of Tryz.func178 rfl rfl rfl fun g0=>Aw<|Ao rfl (.assign .i64)<|An<|W.seq<|Aw<|Am rfl rfl<|Ao rfl (.lenL U38 (.t rfl))<|Ao rfl (.move .i64)<|An<|W.block ?_
 obtain ⟨s1,hs2,hk3⟩:=Bs hm
 clear hm
 refine W.loop (fun m (s:Int)=>M.slices_IndexFunc_string_string_loop1 s0_ f m s=some s1) (fun s=>[(8,(I6.is s)),(0,((tL tS).is s0_)),(1,(tF Tryz.prog (fun s:Str×Bool=>f s.1=some s.2) (fun s:Str×Bool=>[tS.is s.1]) (fun s:Str×Bool=>(tB.is s.2)))),(7,(I6.is (s0_.length:Int)))]) (fun s=>[]) _ (0:Int) hs2 ⟨.q rfl,.q rfl,.q rfl,.q rfl,trivial⟩ trivial ?_
 rintro n4 v hm
 try dsimp only at hm
 change W _ _ _ _ _ _ _ [(8,(I6.is v)),(0,((tL tS).is s0_)),(1,(tF Tryz.prog (fun s:Str×Bool=>f s.1=some s.2) (fun s:Str×Bool=>[tS.is s.1]) (fun s:Str×Bool=>(tB.is s.2)))),(7,(I6.is (s0_.length:Int)))] []
 cases n4 with
 | zero=>rw [M.slices_IndexFunc_string_string_loop1.eq_1] at hm;cases hm
 | succ n4=>
  rw [M.slices_IndexFunc_string_string_loop1.eq_2] at hm
  refine Aw<|Ao rfl (.ltI (.t rfl) (.t rfl))<|An<|W.seq<|W.cD hm (.t rfl) (fun hp6 hm=>?_) (fun hp6 hm=>?_)
  ·refine W.skip<|Aq<|W.seq<|W.block<|Aw<|Am rfl rfl<|Ag rfl rfl<|Ar<|Am rfl rfl<|Am rfl rfl<|WL.mv rfl rfl ?_
   obtain ⟨v1,hv7,hm⟩:=Bs hm
   refine Ao rfl (.idx hv7 U38 Z9 (.t rfl) (.t rfl))<|Ao rfl (.load ty9 (.t rfl)) ?_
   obtain ⟨v2,hv8,hm⟩:=Bs hm
   refine Ao rfl (.callF (ok:=(fun s:Str×Bool=>f s.1=some s.2)) (As:=(fun s:Str×Bool=>[tS.is s.1])) (A:=(fun s:Str×Bool=>(tB.is s.2))) (s:=(v1,v2)) (.t rfl) hv8 ⟨(.t rfl),trivial⟩)<|An<|W.cB hm (.t rfl) (fun hp10 hm=>?_) (fun hp10 hm=>?_)
   ·refine Aw<|Am rfl rfl<|Ag rfl rfl<|WL.ns ?_
    have hr11:=Si hm
    clear hm
    subst hr11
    have hm:=hk3
    try dsimp only at hm
    cases hm
    exact W.ret1 () rfl (.t rfl) trivial
   ·exact W.skip<|WN.block<|Aq<|W.region<|WL.lenL (s:=0) (.t rfl) fun hl12=>Ao rfl (.addI1 (.t rfl) .i64 hp6 hl12)<|Am rfl rfl<|WL.nil<|WN.again n4 (v+1) (Nat.lt_succ_self n4) hm ⟨.q rfl,.q rfl,.q rfl,.q rfl,trivial⟩ trivial
  ·refine W.exit rfl ?_
   have hr13:=Si hm
   clear hm
   subst hr13
   have hm:=hk3
   try dsimp only at hm
   refine Aq<|Aw<|Ao rfl (.assign .i64)<|WL.ns ?_
   cases hm
   exact W.ret1 () rfl (.t rfl) trivial
theorem slices_ContainsFunc_string_string_spec(n:Nat)(s0_:List Str)(f:Str→Option Bool)(r:Bool)(hm:M.slices_ContainsFunc_string_string n s0_ f=some r):FSpec Tryz.prog 154 [((tL tS).is s0_),(tF Tryz.prog (fun s:Str×Bool=>f s.1=some s.2) (fun s:Str×Bool=>[tS.is s.1]) (fun s:Str×Bool=>(tB.is s.2)))] (tB.is r):=by
 unfold M.slices_ContainsFunc_string_string at hm
 refine FSpec.of Tryz.func154 rfl rfl rfl fun g0=>Aw<|Ao rfl (.assign .bool)<|Ar<|Am rfl rfl<|WL.mv rfl rfl ?_
 obtain ⟨string,hv1,hm⟩:=Bs hm
 refine Ao rfl (.call C178 (slices_IndexFunc_string_string_spec _ _ _ _ hv1) ⟨(.t rfl),(.t rfl),trivial⟩)<|Ao rfl (.geI (.t rfl) .i64)<|Ag rfl rfl<|WL.ns ?_
 cases hm
 exact W.ret1 () rfl (.t rfl) trivial
theorem slices_IndexFunc_byte_byte_spec(n:Nat)(s0_:List Int)(f:Int→Option Bool)(r:Int)(hm:M.slices_IndexFunc_byte_byte n s0_ f=some r):FSpec Tryz.prog 197 [((tL (tI .u8)).is s0_),(tF Tryz.prog (fun s:Int×Bool=>f s.1=some s.2) (fun s:Int×Bool=>[(tI .u8).is s.1]) (fun s:Int×Bool=>(tB.is s.2)))] (I6.is r):=by
 unfold M.slices_IndexFunc_byte_byte at hm
 refine FSpec.of Tryz.func197 rfl rfl rfl fun g0=>Aw<|Ao rfl (.assign .i64)<|An<|W.seq<|Aw<|Am rfl rfl<|Ao rfl (.lenL U103 (.t rfl))<|Ao rfl (.move .i64)<|An<|W.block ?_
 obtain ⟨s1,hs2,hk3⟩:=Bs hm
 clear hm
 refine W.loop (fun m (s:Int)=>M.slices_IndexFunc_byte_byte_loop1 s0_ f m s=some s1) (fun s=>[(8,(I6.is s)),(0,((tL (tI .u8)).is s0_)),(1,(tF Tryz.prog (fun s:Int×Bool=>f s.1=some s.2) (fun s:Int×Bool=>[(tI .u8).is s.1]) (fun s:Int×Bool=>(tB.is s.2)))),(7,(I6.is (s0_.length:Int)))]) (fun s=>[]) _ (0:Int) hs2 ⟨.q rfl,.q rfl,.q rfl,.q rfl,trivial⟩ trivial ?_
 rintro n4 v hm
 try dsimp only at hm
 change W _ _ _ _ _ _ _ [(8,(I6.is v)),(0,((tL (tI .u8)).is s0_)),(1,(tF Tryz.prog (fun s:Int×Bool=>f s.1=some s.2) (fun s:Int×Bool=>[(tI .u8).is s.1]) (fun s:Int×Bool=>(tB.is s.2)))),(7,(I6.is (s0_.length:Int)))] []
 cases n4 with
 | zero=>rw [M.slices_IndexFunc_byte_byte_loop1.eq_1] at hm;cases hm
 | succ n4=>
  rw [M.slices_IndexFunc_byte_byte_loop1.eq_2] at hm
  refine Aw<|Ao rfl (.ltI (.t rfl) (.t rfl))<|An<|W.seq<|W.cD hm (.t rfl) (fun hp6 hm=>?_) (fun hp6 hm=>?_)
  ·refine W.skip<|Aq<|W.seq<|W.block<|Aw<|Am rfl rfl<|Ag rfl rfl<|Ar<|Am rfl rfl<|Am rfl rfl<|WL.mv rfl rfl ?_
   obtain ⟨v1,hv7,hm⟩:=Bs hm
   refine Ao rfl (.idx hv7 U103 Z5 (.t rfl) (.t rfl))<|Ao rfl (.load ty5 (.t rfl)) ?_
   obtain ⟨v2,hv8,hm⟩:=Bs hm
   refine Ao rfl (.callF (ok:=(fun s:Int×Bool=>f s.1=some s.2)) (As:=(fun s:Int×Bool=>[(tI .u8).is s.1])) (A:=(fun s:Int×Bool=>(tB.is s.2))) (s:=(v1,v2)) (.t rfl) hv8 ⟨(.t rfl),trivial⟩)<|An<|W.cB hm (.t rfl) (fun hp10 hm=>?_) (fun hp10 hm=>?_)
   ·refine Aw<|Am rfl rfl<|Ag rfl rfl<|WL.ns ?_
    have hr11:=Si hm
    clear hm
    subst hr11
    have hm:=hk3
    try dsimp only at hm
    cases hm
    exact W.ret1 () rfl (.t rfl) trivial
   ·exact W.skip<|WN.block<|Aq<|W.region<|WL.lenL (s:=0) (.t rfl) fun hl12=>Ao rfl (.addI1 (.t rfl) .i64 hp6 hl12)<|Am rfl rfl<|WL.nil<|WN.again n4 (v+1) (Nat.lt_succ_self n4) hm ⟨.q rfl,.q rfl,.q rfl,.q rfl,trivial⟩ trivial
  ·refine W.exit rfl ?_
   have hr13:=Si hm
   clear hm
   subst hr13
   have hm:=hk3
   try dsimp only at hm
   refine Aq<|Aw<|Ao rfl (.assign .i64)<|WL.ns ?_
   cases hm
   exact W.ret1 () rfl (.t rfl) trivial
theorem slices_ContainsFunc_byte_byte_spec(n:Nat)(s0_:List Int)(f:Int→Option Bool)(r:Bool)(hm:M.slices_ContainsFunc_byte_byte n s0_ f=some r):FSpec Tryz.prog 180 [((tL (tI .u8)).is s0_),(tF Tryz.prog (fun s:Int×Bool=>f s.1=some s.2) (fun s:Int×Bool=>[(tI .u8).is s.1]) (fun s:Int×Bool=>(tB.is s.2)))] (tB.is r):=by
 unfold M.slices_ContainsFunc_byte_byte at hm
 refine FSpec.of Tryz.func180 rfl rfl rfl fun g0=>Aw<|Ao rfl (.assign .bool)<|Ar<|Am rfl rfl<|WL.mv rfl rfl ?_
 obtain ⟨byte,hv1,hm⟩:=Bs hm
 refine Ao rfl (.call C197 (slices_IndexFunc_byte_byte_spec _ _ _ _ hv1) ⟨(.t rfl),(.t rfl),trivial⟩)<|Ao rfl (.geI (.t rfl) .i64)<|Ag rfl rfl<|WL.ns ?_
 cases hm
 exact W.ret1 () rfl (.t rfl) trivial
theorem wordseq_word_1_spec(c:Int)(r:Bool)(hm:M.wordseq_word_1 c=some r):FSpec Tryz.prog 179 [((tI .u8).is c)] (tB.is r):=by
 unfold M.wordseq_word_1 at hm
 refine FSpec.of Tryz.func179 rfl rfl rfl fun g0=>Aw<|Ao rfl (.assign .bool)<|Ar<|Am rfl rfl<|Ao rfl (.ltI (.t rfl) (.int (inR8.2 (by omega))))<|WL.mv rfl rfl ?_
 rcases iteD hm with ⟨hp2,hb1,hm⟩ | ⟨hp2,hb1,hm⟩
 ·refine Ap rfl hb1<|Ap rfl hb1<|Ao rfl (.pickT (.t rfl) hb1 .bool)<|Ag rfl rfl<|WL.ns ?_
  cases hm
  exact W.ret1 () rfl (.t rfl) trivial
 ·refine Ax rfl hb1 (.move (.t rfl))<|Ax rfl hb1 (.gtI (.t rfl) (.int (inR8.2 (by omega))))<|Ao rfl (.pickF (.t rfl) hb1 (.t rfl))<|Ag rfl rfl<|WL.ns ?_
  cases hm
  exact W.ret1 () rfl (.t rfl) trivial
theorem wordseq_word_spec(n:Nat)(s0_:Str)(r:Bool)(hm:M.wordseq_word n s0_=some r):FSpec Tryz.prog 156 [(tS.is s0_)] (tB.is r):=by
 unfold M.wordseq_word at hm
 refine FSpec.of Tryz.func156 rfl rfl rfl fun g0=>Aw<|Ao rfl (.assign .bool)<|Ar<|Ao rfl (.assign .func)<|Ar<|Am rfl rfl<|Ao rfl (.neS (.t rfl) (.str rfl (by decide)))<|WL.mv rfl rfl ?_
 rcases iteB hm with ⟨hp2,hb1,hm⟩ | ⟨hp2,hb1,hm⟩
 ·refine Ax rfl hb1 (.move (.t rfl))<|Ax rfl hb1 (.lenS U9 (.t rfl))<|Ax rfl hb1 (.leI (.t rfl) .i64)<|Ao rfl (.pickT (.t rfl) hb1 (.t rfl))<|WL.mv rfl rfl ?_
  rcases iteD hm with ⟨hp4,hb3,hm⟩ | ⟨hp4,hb3,hm⟩
  ·refine Ax rfl hb3 (.move (.t rfl))<|Ax rfl hb3 (.bytes U9 U103 U5 (.t rfl))<|Ax rfl hb3 (.move (.t rfl)) ?_
   obtain ⟨byte,hv5,hm⟩:=Bs hm
   refine Ax rfl hb3 (.call C180 (slices_ContainsFunc_byte_byte_spec _ _ _ _ hv5) ⟨(.t rfl),(Opd.fnE (.t rfl) C179 (fun s hs=>wordseq_word_1_spec _ _ hs)),trivial⟩)<|Ax rfl hb3 (.notB (.t rfl))<|Ao rfl (.pickT (.t rfl) hb3 (.t rfl))<|Ag rfl rfl<|WL.ns ?_
   cases hm
   exact W.ret1 () rfl (.t rfl) trivial
  ·refine Ap rfl hb3<|Ap rfl hb3<|Ap rfl hb3<|Ap rfl hb3<|Ap rfl hb3<|Ao rfl (.pickF (.t rfl) hb3 .bool)<|Ag rfl rfl<|WL.ns ?_
   cases hm
   exact W.ret1 () rfl (.t rfl) trivial
 ·refine Ap rfl hb1<|Ap rfl hb1<|Ap rfl hb1<|Ao rfl (.pickF (.t rfl) hb1 .bool)<|Am rfl rfl<|Ap rfl rfl<|Ap rfl rfl<|Ap rfl rfl<|Ap rfl rfl<|Ap rfl rfl<|Ao rfl (.pickF (.t rfl) rfl .bool)<|Ag rfl rfl<|WL.ns ?_
  cases hm
  exact W.ret1 () rfl (.t rfl) trivial
theorem wordseq_Valid_1_spec(n:Nat)(s0_:Str)(r:Bool)(hm:M.wordseq_Valid_1 n s0_=some r):FSpec Tryz.prog 155 [(tS.is s0_)] (tB.is r):=by
 unfold M.wordseq_Valid_1 at hm
 refine FSpec.of Tryz.func155 rfl rfl rfl fun g0=>Aw<|Ao rfl (.assign .bool)<|Ar<|WL.mv rfl rfl ?_
 obtain ⟨word,hv1,hm⟩:=Bs hm
 refine Ao rfl (.call C156 (wordseq_word_spec _ _ _ hv1) ⟨(.t rfl),trivial⟩)<|Ao rfl (.notB (.t rfl))<|Ag rfl rfl<|WL.ns ?_
 cases hm
 exact W.ret1 () rfl (.t rfl) trivial
theorem wordseq_Valid_spec(n:Nat)(l:List Str)(r:Bool)(hm:M.wordseq_Valid n l=some r):FSpec Tryz.prog 116 [((tL tS).is l)] (tB.is r):=by
 unfold M.wordseq_Valid at hm
 refine FSpec.of Tryz.func116 rfl rfl rfl fun g0=>Aw<|Ao rfl (.assign .bool)<|Ar<|Am rfl rfl<|Ao rfl (.lenL U38 (.t rfl))<|Ao rfl (.leI (.t rfl) .i64)<|WL.mv rfl rfl ?_
 rcases iteD hm with ⟨hp2,hb1,hm⟩ | ⟨hp2,hb1,hm⟩
 ·refine Ax rfl hb1 (.move (.t rfl)) ?_
  obtain ⟨string,hv3,hm⟩:=Bs hm
  refine Ax rfl hb1 (.call C154 (slices_ContainsFunc_string_string_spec _ _ _ _ hv3) ⟨(.t rfl),(Opd.fn C155 (fun s hs=>wordseq_Valid_1_spec _ _ _ hs)),trivial⟩)<|Ax rfl hb1 (.notB (.t rfl))<|Ao rfl (.pickT (.t rfl) hb1 (.t rfl))<|Ag rfl rfl<|WL.ns ?_
  cases hm
  exact W.ret1 () rfl (.t rfl) trivial
 ·refine Ap rfl hb1<|Ap rfl hb1<|Ap rfl hb1<|Ao rfl (.pickF (.t rfl) hb1 .bool)<|Ag rfl rfl<|WL.ns ?_
  cases hm
  exact W.ret1 () rfl (.t rfl) trivial
theorem markup_isWord_spec(n:Nat)(s0_:Str)(r:Bool)(hm:M.markup_isWord n s0_=some r):FSpec Tryz.prog 77 [(tS.is s0_)] (tB.is r):=by
 unfold M.markup_isWord at hm
 refine FSpec.of Tryz.func77 rfl rfl rfl fun g0=>Aw<|Ao rfl (.assign .bool)<|Ar<|Am rfl rfl<|Ao rfl (.buildSlice (n:=1) (ys:=[(0,s0_)]) (z:=([]:Str)) (xs:=[s0_]) U38 el9 ze9 ⟨rfl,(.t rfl),trivial⟩ (by simp) (by decide) rfl) ?_
 obtain ⟨valid,hv1,hm⟩:=Bs hm
 refine Ao rfl (.call C116 (wordseq_Valid_spec _ _ _ hv1) ⟨(.t rfl),trivial⟩)<|Ag rfl rfl<|WL.ns ?_
 cases hm
 exact W.ret1 () rfl (.t rfl) trivial
theorem markup_validRow_1_spec(n:Nat)(w:api_TrackedWord)(r:Bool)(hm:M.markup_validRow_1 n w=some r):FSpec Tryz.prog 76 [(tapi_TrackedWord.is w)] (tB.is r):=by
 unfold M.markup_validRow_1 at hm
 refine FSpec.of Tryz.func76 rfl rfl rfl fun g0=>Aw<|Ao rfl (.box (.t rfl))<|Ao rfl (.assign .bool)<|Ar<|Ao rfl (.fieldAddr U53 rfl J9 fapi_TrackedWord_1 (.t rfl))<|Ao rfl (.load ty9 (.t rfl)) ?_
 obtain ⟨isword,hv1,hm⟩:=Bs hm
 refine Ao rfl (.call C77 (markup_isWord_spec _ _ _ hv1) ⟨(.t rfl),trivial⟩)<|Ao rfl (.notB (.t rfl))<|WL.mv rfl rfl ?_
 rcases iteR hm with ⟨hp3,hb2,hm⟩ | ⟨hp3,hb2,hm⟩
 ·refine Ap rfl hb2<|Ap rfl hb2<|Ap rfl hb2<|Ao rfl (.pickT (.t rfl) hb2 .bool)<|Am rfl rfl<|Ap rfl rfl<|Ap rfl rfl<|Ap rfl rfl<|Ao rfl (.pickT (.t rfl) rfl .bool)<|Ag rfl rfl<|WL.ns ?_
  cases hm
  exact W.ret1 () rfl (.t rfl) trivial
 ·refine Ax rfl hb2 (.fieldAddr U53 rfl J3 fapi_TrackedWord_0 (.t rfl))<|Ax rfl hb2 (.load ty3 (.t rfl))<|Ax rfl hb2 (.ltI (.t rfl) .i64)<|Ao rfl (.pickF (.t rfl) hb2 (.t rfl))<|WL.mv rfl rfl ?_
  rcases iteD hm with ⟨hp5,hb4,hm⟩ | ⟨hp5,hb4,hm⟩
  ·refine Ap rfl hb4<|Ap rfl hb4<|Ap rfl hb4<|Ao rfl (.pickT (.t rfl) hb4 .bool)<|Ag rfl rfl<|WL.ns ?_
   cases hm
   exact W.ret1 () rfl (.t rfl) trivial
  ·refine Ax rfl hb4 (.fieldAddr U53 rfl J3 fapi_TrackedWord_0 (.t rfl))<|Ax rfl hb4 (.load ty3 (.t rfl))<|Ax rfl hb4 (.gtI (.t rfl) .i64)<|Ao rfl (.pickF (.t rfl) hb4 (.t rfl))<|Ag rfl rfl<|WL.ns ?_
   cases hm
   exact W.ret1 () rfl (.t rfl) trivial
theorem markup_validRow_spec(n:Nat)(l:List api_TrackedWord)(r:Bool)(hm:M.markup_validRow n l=some r):FSpec Tryz.prog 43 [((tL tapi_TrackedWord).is l)] (tB.is r):=by
 unfold M.markup_validRow at hm
 refine FSpec.of Tryz.func43 rfl rfl rfl fun g0=>Aw<|Ao rfl (.assign .bool)<|Ar<|Am rfl rfl<|Ao rfl (.lenL U30 (.t rfl))<|Ao rfl (.leI (.t rfl) .i64)<|WL.mv rfl rfl ?_
 rcases iteD hm with ⟨hp2,hb1,hm⟩ | ⟨hp2,hb1,hm⟩
 ·refine Ax rfl hb1 (.move (.t rfl)) ?_
  obtain ⟨tracke,hv3,hm⟩:=Bs hm
  refine Ax rfl hb1 (.call C75 (slices_ContainsFunc_api_TrackedWord_api_TrackedWord_spec _ _ _ _ hv3) ⟨(.t rfl),(Opd.fn C76 (fun s hs=>markup_validRow_1_spec _ _ _ hs)),trivial⟩)<|Ax rfl hb1 (.notB (.t rfl))<|Ao rfl (.pickT (.t rfl) hb1 (.t rfl))<|Ag rfl rfl<|WL.ns ?_
  cases hm
  exact W.ret1 () rfl (.t rfl) trivial
 ·refine Ap rfl hb1<|Ap rfl hb1<|Ap rfl hb1<|Ao rfl (.pickF (.t rfl) hb1 .bool)<|Ag rfl rfl<|WL.ns ?_
  cases hm
  exact W.ret1 () rfl (.t rfl) trivial
theorem strings_indexFunc_spec(n:Nat)(s0_:Str)(f:Int→Option Bool)(truth:Bool)(r:Int)(hm:M.strings_indexFunc n s0_ f truth=some r):FSpec Tryz.prog 183 [(tS.is s0_),(tF Tryz.prog (fun s:Int×Bool=>f s.1=some s.2) (fun s:Int×Bool=>[(tI .i32).is s.1]) (fun s:Int×Bool=>(tB.is s.2))),(tB.is truth)] (I6.is r):=by
 unfold M.strings_indexFunc at hm
 refine FSpec.of Tryz.func183 rfl rfl rfl fun g0=>Aw<|Ao rfl (.assign .i64)<|An<|W.seq<|Aw<|Am rfl rfl<|WL.opR rfl (OpR.range 10 U9 (.t rfl)) fun b=>An<|W.block ?_
 obtain ⟨s1,hs2,hk3⟩:=Bs hm
 clear hm
 refine W.loop (fun m (s:Nat)=>M.strings_indexFunc_loop1 s0_ f truth m s=some s1) (fun s=>[(1,(tF Tryz.prog (fun s:Int×Bool=>f s.1=some s.2) (fun s:Int×Bool=>[(tI .i32).is s.1]) (fun s:Int×Bool=>(tB.is s.2)))),(2,(tB.is truth)),(10,(Bp b 0))]) (fun s=>[(10,It s0_ s b)]) _ 0 hs2 ⟨.q rfl,.q rfl,.q rfl,trivial⟩ ⟨rfl,rfl,trivial⟩ ?_
 rintro n4 v hm
 try dsimp only at hm
 change W _ _ _ _ _ _ _ [(1,(tF Tryz.prog (fun s:Int×Bool=>f s.1=some s.2) (fun s:Int×Bool=>[(tI .i32).is s.1]) (fun s:Int×Bool=>(tB.is s.2)))),(2,(tB.is truth)),(10,(Bp b 0))] [(10,It s0_ v b)]
 cases n4 with
 | zero=>rw [M.strings_indexFunc_loop1.eq_1] at hm;cases hm
 | succ n4=>
  rw [M.strings_indexFunc_loop1.eq_2] at hm
  refine W.sr ?_
  by_cases hp5:v<s0_.length
  ·rw [if_pos hp5] at hm
   refine WL.opR rfl (OpR.nextT (b:=b) 10 hp5 rfl (.t rfl)) fun _=>Ao rfl (.extract30 (.t rfl))<|An<|W.seq<|W.condT (.t rfl)<|W.skip<|Aq<|W.block<|Aw<|Ao rfl (.extract31 (.t rfl))<|Ao rfl (.extract32 (.t rfl))<|Ag rfl rfl<|Ag rfl rfl<|Ar<|Am rfl rfl<|WL.mv rfl rfl ?_
   obtain ⟨v1,hv6,hm⟩:=Bs hm
   refine Ao rfl (.callF (ok:=(fun s:Int×Bool=>f s.1=some s.2)) (As:=(fun s:Int×Bool=>[(tI .i32).is s.1])) (A:=(fun s:Int×Bool=>(tB.is s.2))) (s:=(((runeAt s0_ v).1:Int),v1)) (.t rfl) hv6 ⟨(.t rfl),trivial⟩)<|Am rfl rfl<|Ao rfl (.eqB U4 (.t rfl) (.t rfl))<|An<|W.cB hm (.t rfl) (fun hp8 hm=>?_) (fun hp8 hm=>?_)
   ·refine Aw<|Am rfl rfl<|Ag rfl rfl<|WL.ns ?_
    have hr9:=Si hm
    clear hm
    subst hr9
    have hm:=hk3
    try dsimp only at hm
    cases hm
    exact W.ret1 () rfl (.t rfl) trivial
   ·exact W.skip<|WN.block<|WN.again n4 (v+(runeAt s0_ v).2) (Nat.lt_succ_self n4) hm ⟨.q rfl,.q rfl,.q rfl,trivial⟩ ⟨rfl,rfl,trivial⟩
  ·rw [if_neg hp5] at hm
   refine Ao rfl (.nextF 10 hp5 rfl (.t rfl))<|Ao rfl (.extract10 (.t rfl))<|An<|W.seq<|W.condF (.t rfl)<|W.exit rfl ?_
   have hr10:=Si hm
   clear hm
   subst hr10
   have hm:=hk3
   try dsimp only at hm
   refine Aq<|Aw<|Ao rfl (.assign .i64)<|WL.ns ?_
   cases hm
   exact W.ret1 () rfl (.t rfl) trivial
theorem strings_IndexFunc_spec(n:Nat)(s0_:Str)(f:Int→Option Bool)(r:Int)(hm:M.strings_IndexFunc n s0_ f=some r):FSpec Tryz.prog 166 [(tS.is s0_),(tF Tryz.prog (fun s:Int×Bool=>f s.1=some s.2) (fun s:Int×Bool=>[(tI .i32).is s.1]) (fun s:Int×Bool=>(tB.is s.2)))] (I6.is r):=by
 unfold M.strings_IndexFunc at hm
 refine FSpec.of Tryz.func166 rfl rfl rfl fun g0=>Aw<|Ao rfl (.assign .i64)<|Ar<|Am rfl rfl<|WL.mv rfl rfl ?_
 obtain ⟨indexf,hv1,hm⟩:=Bs hm
 refine Ao rfl (.call C183 (strings_indexFunc_spec _ _ _ _ _ hv1) ⟨(.t rfl),(.t rfl),.bool,trivial⟩)<|Ag rfl rfl<|WL.ns ?_
 cases hm
 exact W.ret1 () rfl (.t rfl) trivial
theorem label_parted_1_spec(b:Int)(r:Bool)(hm:M.label_parted_1 b=some r):FSpec Tryz.prog 167 [((tI .i32).is b)] (tB.is r):=by
 unfold M.label_parted_1 at hm
 refine FSpec.of Tryz.func167 rfl rfl rfl fun g0=>Aw<|Ao rfl (.assign .bool)<|Ar<|Am rfl rfl<|Ao rfl (.ltI (.t rfl) (.int (inR32.2 (by omega))))<|WL.mv rfl rfl ?_
 rcases iteD hm with ⟨hp2,hb1,hm⟩ | ⟨hp2,hb1,hm⟩
 ·refine Ap rfl hb1<|Ap rfl hb1<|Ao rfl (.pickT (.t rfl) hb1 .bool)<|Ag rfl rfl<|WL.ns ?_
  cases hm
  exact W.ret1 () rfl (.t rfl) trivial
 ·refine Ax rfl hb1 (.move (.t rfl))<|Ax rfl hb1 (.gtI (.t rfl) (.int (inR32.2 (by omega))))<|Ao rfl (.pickF (.t rfl) hb1 (.t rfl))<|Ag rfl rfl<|WL.ns ?_
  cases hm
  exact W.ret1 () rfl (.t rfl) trivial
theorem label_parted_spec(n:Nat)(s0_:Str)(r:Str×Str)(hm:M.label_parted n s0_=some r):FSpec Tryz.prog 133 [(tS.is s0_)] (Asn.tuple2 (tS.is r.1) (tS.is r.2)):=by
 unfold M.label_parted at hm
 refine FSpec.of Tryz.func133 rfl rfl rfl fun g0=>Aw<|Ao rfl (.assign (.str rfl (by decide)))<|Ao rfl (.assign (.str rfl (by decide)))<|Ar<|WL.mv rfl rfl ?_
 obtain ⟨indexf,hv1,hm⟩:=Bs hm
 refine Ao rfl (.call C166 (strings_IndexFunc_spec _ _ _ _ hv1) ⟨(.t rfl),(Opd.fn C167 (fun s hs=>label_parted_1_spec _ _ hs)),trivial⟩)<|Ag rfl rfl<|An<|W.seq<|Aw<|Am rfl rfl<|Ao rfl (.ltI (.t rfl) .i64)<|An<|W.cD hm (.t rfl) (fun hp3 hm=>?_) (fun hp3 hm=>?_)
 ·refine Aw<|Am rfl rfl<|Ag rfl rfl<|Ao rfl (.assign (.str rfl (by decide)))<|WL.ns ?_
  cases hm
  exact W.ret2 () rfl rfl (.t rfl) (.t rfl) trivial
 ·refine W.skip<|Aq<|W.seq ?_
  obtain ⟨v,hv4,hm⟩:=Bs hm
  obtain ⟨v1,hv5,hm⟩:=Bs hm
  refine W.draw [.c _,.c _,.c _,.c _,.c _,.c _,.c _,.c _] [([],[0]),([],[4]),([0,1],[]),([],[0]),([],[4]),([3,4],[]),([2],[]),([5],[])] Mx rfl rfl rfl rfl ⟨Dn (.move (.t rfl)),Dn (.move (.t rfl)),Dn (.sslcHi hv4 U9 (.t rfl) (.t rfl)),Dn (.move (.t rfl)),Dn (.move (.t rfl)),Dn (.sslcLo hv5 U9 (.t rfl) (.t rfl)),Dn (.assign (.t rfl)),Dn (.assign (.t rfl)),trivial⟩<|WN.seq ?_
  cases hm
  exact W.ret2 () rfl rfl (.t rfl) (.t rfl) trivial
theorem strings_ContainsFunc_spec(n:Nat)(s0_:Str)(f:Int→Option Bool)(r:Bool)(hm:M.strings_ContainsFunc n s0_ f=some r):FSpec Tryz.prog 135 [(tS.is s0_),(tF Tryz.prog (fun s:Int×Bool=>f s.1=some s.2) (fun s:Int×Bool=>[(tI .i32).is s.1]) (fun s:Int×Bool=>(tB.is s.2)))] (tB.is r):=by
 unfold M.strings_ContainsFunc at hm
 refine FSpec.of Tryz.func135 rfl rfl rfl fun g0=>Aw<|Ao rfl (.assign .bool)<|Ar<|Am rfl rfl<|WL.mv rfl rfl ?_
 obtain ⟨indexf,hv1,hm⟩:=Bs hm
 refine Ao rfl (.call C166 (strings_IndexFunc_spec _ _ _ _ hv1) ⟨(.t rfl),(.t rfl),trivial⟩)<|Ao rfl (.geI (.t rfl) .i64)<|Ag rfl rfl<|WL.ns ?_
 cases hm
 exact W.ret1 () rfl (.t rfl) trivial
theorem label_Valid_1_spec(b:Int)(r:Bool)(hm:M.label_Valid_1 b=some r):FSpec Tryz.prog 134 [((tI .i32).is b)] (tB.is r):=by
 unfold M.label_Valid_1 at hm
 refine FSpec.of Tryz.func134 rfl rfl rfl fun g0=>Aw<|Ao rfl (.assign .bool)<|Ar<|Am rfl rfl<|Ao rfl (.ltI (.t rfl) (.int (inR32.2 (by omega))))<|WL.mv rfl rfl ?_
 rcases iteD hm with ⟨hp2,hb1,hm⟩ | ⟨hp2,hb1,hm⟩
 ·refine Ap rfl hb1<|Ap rfl hb1<|Ao rfl (.pickT (.t rfl) hb1 .bool)<|Ag rfl rfl<|WL.ns ?_
  cases hm
  exact W.ret1 () rfl (.t rfl) trivial
 ·refine Ax rfl hb1 (.move (.t rfl))<|Ax rfl hb1 (.gtI (.t rfl) (.int (inR32.2 (by omega))))<|Ao rfl (.pickF (.t rfl) hb1 (.t rfl))<|Ag rfl rfl<|WL.ns ?_
  cases hm
  exact W.ret1 () rfl (.t rfl) trivial
theorem label_Valid_spec(n:Nat)(s0_:Str)(r:Bool)(hm:M.label_Valid n s0_=some r):FSpec Tryz.prog 95 [(tS.is s0_)] (tB.is r):=by
 unfold M.label_Valid at hm
 refine FSpec.of Tryz.func95 rfl rfl rfl fun g0=>Aw<|Ao rfl (.assign .bool)<|Ar<|WL.mv rfl rfl ?_
 obtain ⟨parted,hv1,hm⟩:=Bs hm
 refine Ao rfl (.call C133 (label_parted_spec _ _ _ hv1) ⟨(.t rfl),trivial⟩)<|Am rfl rfl<|Ao rfl (.extract0 (.t rfl))<|Ao rfl (.extract1 (.t rfl))<|Ag rfl rfl<|Ag rfl rfl<|Ar<|Ao rfl (.assign .func)<|Ar<|Am rfl rfl<|Ao rfl (.lenS U9 (.t rfl))<|Ao rfl (.geI (.t rfl) .i64)<|WL.mv rfl rfl ?_
 rcases iteD hm with ⟨hp3,hb2,hm⟩ | ⟨hp3,hb2,hm⟩
 ·refine Ax rfl hb2 (.move (.t rfl))<|Ax rfl hb2 (.lenS U9 (.t rfl))<|Ax rfl hb2 (.leI (.t rfl) .i64)<|Ao rfl (.pickT (.t rfl) hb2 (.t rfl))<|WL.mv rfl rfl ?_
  rcases iteD hm with ⟨hp5,hb4,hm⟩ | ⟨hp5,hb4,hm⟩
  ·refine Ax rfl hb4 (.move (.t rfl)) ?_
   obtain ⟨b,hv6,hm⟩:=Bs hm
   refine Ax rfl hb4 (.sidx hv6 U9 (.t rfl) .i64)<|Ax rfl hb4 (.neI (.t rfl) (.int (inR8.2 (by omega))))<|Ao rfl (.pickT (.t rfl) hb4 (.t rfl))<|WL.mv rfl rfl ?_
   rcases iteD hm with ⟨hp8,hb7,hm⟩ | ⟨hp8,hb7,hm⟩
   ·refine Ax rfl hb7 (.move (.t rfl))<|Ax rfl hb7 (.lenS U9 (.t rfl))<|Ax rfl hb7 (.leI (.t rfl) .i64)<|Ao rfl (.pickT (.t rfl) hb7 (.t rfl))<|WL.mv rfl rfl ?_
    rcases iteD hm with ⟨hp10,hb9,hm⟩ | ⟨hp10,hb9,hm⟩
    ·refine Ax rfl hb9 (.move (.t rfl))<|Ax rfl hb9 (.move (.t rfl)) ?_
     obtain ⟨contai,hv11,hm⟩:=Bs hm
     refine Ax rfl hb9 (.call C135 (strings_ContainsFunc_spec _ _ _ _ hv11) ⟨(.t rfl),(Opd.fnE (.t rfl) C134 (fun s hs=>label_Valid_1_spec _ _ hs)),trivial⟩)<|Ax rfl hb9 (.notB (.t rfl))<|Ao rfl (.pickT (.t rfl) hb9 (.t rfl))<|Ag rfl rfl<|WL.ns ?_
     cases hm
     exact W.ret1 () rfl (.t rfl) trivial
    ·refine Ap rfl hb9<|Ap rfl hb9<|Ap rfl hb9<|Ap rfl hb9<|Ao rfl (.pickF (.t rfl) hb9 .bool)<|Ag rfl rfl<|WL.ns ?_
     cases hm
     exact W.ret1 () rfl (.t rfl) trivial
   ·refine Ap rfl hb7<|Ap rfl hb7<|Ap rfl hb7<|Ao rfl (.pickF (.t rfl) hb7 .bool)<|Am rfl rfl<|Ap rfl rfl<|Ap rfl rfl<|Ap rfl rfl<|Ap rfl rfl<|Ao rfl (.pickF (.t rfl) rfl .bool)<|Ag rfl rfl<|WL.ns ?_
    cases hm
    exact W.ret1 () rfl (.t rfl) trivial
  ·refine Ap rfl hb4<|Ap rfl hb4<|Ap rfl hb4<|Ao rfl (.pickF (.t rfl) hb4 .bool)<|Am rfl rfl<|Ap rfl rfl<|Ap rfl rfl<|Ap rfl rfl<|Ao rfl (.pickF (.t rfl) rfl .bool)<|Am rfl rfl<|Ap rfl rfl<|Ap rfl rfl<|Ap rfl rfl<|Ap rfl rfl<|Ao rfl (.pickF (.t rfl) rfl .bool)<|WL.gv rfl rfl ?_
   refine WL.ns ?_
   cases hm
   exact W.ret1 () rfl (.t rfl) trivial
 ·refine Ap rfl hb2<|Ap rfl hb2<|Ap rfl hb2<|Ao rfl (.pickF (.t rfl) hb2 .bool)<|Am rfl rfl<|Ap rfl rfl<|Ap rfl rfl<|Ap rfl rfl<|Ao rfl (.pickF (.t rfl) rfl .bool)<|Am rfl rfl<|Ap rfl rfl<|Ap rfl rfl<|Ap rfl rfl<|Ao rfl (.pickF (.t rfl) rfl .bool)<|Am rfl rfl<|Ap rfl rfl ?_
  refine Ap rfl rfl<|Ap rfl rfl<|Ap rfl rfl<|Ao rfl (.pickF (.t rfl) rfl .bool)<|Ag rfl rfl<|WL.ns ?_
  cases hm
  exact W.ret1 () rfl (.t rfl) trivial
theorem markup_validUnit_spec(n:Nat)(t:api_TrackedUnit)(r:Bool)(hm:M.markup_validUnit n t=some r):FSpec Tryz.prog 59 [(tapi_TrackedUnit.is t)] (tB.is r):=by
 unfold M.markup_validUnit at hm
 refine FSpec.of Tryz.func59 rfl rfl rfl fun g0=>Aw<|Ao rfl (.box (.t rfl))<|Ao rfl (.assign .bool)<|An<|W.seq<|W.block ?_
 obtain ⟨s1,hs2,hk3⟩:=Bs hm
 clear hm
 refine W.join (fun s:Bool=>s=s1) (fun s=>[(3,(tB.is s)),(1,(tapi_TrackedUnit.ptr t))]) (fun s=>[]) ?_ ?_
 ·rintro v hj49
  try dsimp only at hj49
  subst hj49
  have hm:=hk3
  clear hk3
  try dsimp only at hm
  change W _ _ _ _ _ _ _ [(3,(tB.is v)),(1,(tapi_TrackedUnit.ptr t))] []
  refine W.cB hm (.t rfl) (fun hp10 hm=>?_) (fun hp10 hm=>?_)
  ·refine Aw<|Ao rfl (.assign .bool)<|WL.ns ?_
   cases hm
   exact W.ret1 () rfl (.t rfl) trivial
  ·obtain ⟨s11,hs12,hk13⟩:=Bs hm
   clear hm
   refine W.join (fun s:Bool=>s=s11) (fun s=>[(18,(tB.is s)),(1,(tapi_TrackedUnit.ptr t))]) (fun s=>[]) ?_ ?_
   ·rintro v1 hj48
    try dsimp only at hj48
    subst hj48
    have hm:=hk13
    clear hk13
    try dsimp only at hm
    change W _ _ _ _ _ _ _ [(18,(tB.is v1)),(1,(tapi_TrackedUnit.ptr t))] []
    refine W.cB hm (.t rfl) (fun hp19 hm=>?_) (fun hp19 hm=>?_)
    ·refine Aw<|Ao rfl (.assign .bool)<|WL.ns ?_
     cases hm
     exact W.ret1 () rfl (.t rfl) trivial
    ·obtain ⟨s20,hs21,hk22⟩:=Bs hm
     clear hm
     refine W.join (fun s:Bool=>s=s20) (fun s=>[(29,(tB.is s)),(1,(tapi_TrackedUnit.ptr t))]) (fun s=>[]) ?_ ?_
     ·rintro v2 hj47
      try dsimp only at hj47
      subst hj47
      have hm:=hk22
      clear hk22
      try dsimp only at hm
      change W _ _ _ _ _ _ _ [(29,(tB.is v2)),(1,(tapi_TrackedUnit.ptr t))] []
      refine W.cB hm (.t rfl) (fun hp29 hm=>?_) (fun hp29 hm=>?_)
      ·refine Aw<|Ao rfl (.assign .bool)<|WL.ns ?_
       cases hm
       exact W.ret1 () rfl (.t rfl) trivial
      ·obtain ⟨s30,hs31,hk32⟩:=Bs hm
       clear hm
       refine W.join (fun s:Bool=>s=s30) (fun s=>[(46,(tB.is s)),(1,(tapi_TrackedUnit.ptr t))]) (fun s=>[]) ?_ ?_
       ·rintro v3 hj46
        try dsimp only at hj46
        subst hj46
        have hm:=hk32
        clear hk32
        try dsimp only at hm
        change W _ _ _ _ _ _ _ [(46,(tB.is v3)),(1,(tapi_TrackedUnit.ptr t))] []
        refine W.cB hm (.t rfl) (fun hp39 hm=>?_) (fun hp39 hm=>?_)
        ·refine Aw<|Ao rfl (.assign .bool)<|WL.ns ?_
         cases hm
         exact W.ret1 () rfl (.t rfl) trivial
        ·refine W.skip<|WN.block<|Aq<|Aw<|Ao rfl (.fieldAddr U33 rfl J3 fapi_TrackedUnit_0 (.t rfl))<|Ao rfl (.load ty3 (.t rfl))<|Ao rfl (.eqI (.t rfl) .i64)<|WL.mv rfl rfl ?_
         rcases iteD hm with ⟨hp41,hb40,hm⟩ | ⟨hp41,hb40,hm⟩
         ·refine Ap rfl hb40<|Ap rfl hb40<|Ap rfl hb40<|Ap rfl hb40<|WL.pass2 rfl rfl rfl rfl rfl rfl<|WL.pass2 rfl rfl rfl rfl rfl rfl<|WL.pass2 rfl rfl rfl rfl rfl rfl<|Ap rfl hb40<|Ap rfl hb40<|WL.pass2 rfl rfl rfl rfl rfl rfl<|WL.pass2 rfl rfl rfl rfl rfl rfl<|WL.pass2 rfl rfl rfl rfl rfl rfl<|Ap rfl hb40<|Ao rfl (.pickT (.t rfl) hb40 .bool)<|Ag rfl rfl<|WL.ns ?_
          cases hm
          exact W.ret1 () rfl (.t rfl) trivial
         ·refine Ax rfl hb40 (.fieldAddr U33 rfl J3 fapi_TrackedUnit_0 (.t rfl))<|Ax rfl hb40 (.load ty3 (.t rfl))<|Ax rfl hb40 (.eqI (.t rfl) .i64)<|Ax rfl hb40 (.move (.t rfl)) ?_
          rcases iteD hm with ⟨hp43,hb42,hm⟩ | ⟨hp43,hb42,hm⟩
          ·refine Ap rfl hb42<|Ap rfl hb42<|Ap rfl hb42<|Ax rfl hb40 (.pickT (.t rfl) hb42 .bool)<|Ax rfl hb40 (.move (.t rfl))<|Ax rfl rfl (.fieldAddr U33 rfl J4 fapi_TrackedUnit_5 (.t rfl))<|Ax rfl rfl (.load ty4 (.t rfl))<|Ax rfl rfl (.notB (.t rfl))<|Ax rfl hb40 (.pickT (.t rfl) rfl (.t rfl))<|Ao rfl (.pickF (.t rfl) hb40 (.t rfl))<|Ag rfl rfl<|WL.ns ?_
           cases hm
           exact W.ret1 () rfl (.t rfl) trivial
          ·refine Ax rfl hb42 (.fieldAddr U33 rfl J3 fapi_TrackedUnit_0 (.t rfl))<|Ax rfl hb42 (.load ty3 (.t rfl))<|Ax rfl hb42 (.eqI (.t rfl) .i64)<|Ax rfl hb40 (.pickF (.t rfl) hb42 (.t rfl))<|Ax rfl hb40 (.move (.t rfl)) ?_
           rcases iteD hm with ⟨hp45,hb44,hm⟩ | ⟨hp45,hb44,hm⟩
           ·refine Ax rfl hb44 (.fieldAddr U33 rfl J4 fapi_TrackedUnit_5 (.t rfl))<|Ax rfl hb44 (.load ty4 (.t rfl))<|Ax rfl hb44 (.notB (.t rfl))<|Ax rfl hb40 (.pickT (.t rfl) hb44 (.t rfl))<|Ao rfl (.pickF (.t rfl) hb40 (.t rfl))<|Ag rfl rfl<|WL.ns ?_
            cases hm
            exact W.ret1 () rfl (.t rfl) trivial
           ·refine Ap rfl hb44<|Ap rfl hb44<|Ap rfl hb44<|Ax rfl hb40 (.pickF (.t rfl) hb44 .bool)<|Ao rfl (.pickF (.t rfl) hb40 (.t rfl))<|Ag rfl rfl<|WL.ns ?_
            cases hm
            exact W.ret1 () rfl (.t rfl) trivial
       ·have hm:=hs31
        clear hs31
        refine W.region<|Ao rfl (.fieldAddr U33 rfl J9 fapi_TrackedUnit_4 (.t rfl))<|Ao rfl (.load ty9 (.t rfl))<|Ao rfl (.neS (.t rfl) (.str rfl (by decide)))<|WL.mv rfl rfl ?_
        rcases iteB hm with ⟨hp34,hb33,hm⟩ | ⟨hp34,hb33,hm⟩
        ·refine Ax rfl hb33 (.fieldAddr U33 rfl J9 fapi_TrackedUnit_4 (.t rfl))<|Ax rfl hb33 (.load ty9 (.t rfl)) ?_
         obtain ⟨valid1,hv35,hm⟩:=Bs hm
         refine Ax rfl hb33 (.call C95 (label_Valid_spec _ _ _ hv35) ⟨(.t rfl),trivial⟩)<|Ax rfl hb33 (.notB (.t rfl))<|Ax rfl hb33 (.move (.t rfl)) ?_
         rcases iteR hm with ⟨hp37,hb36,hm⟩ | ⟨hp37,hb36,hm⟩
         ·exact Ap rfl hb36<|Ap rfl hb36<|Ap rfl hb36<|Ap rfl hb36<|Ap rfl hb36<|Ax rfl hb33 (.pickT (.t rfl) hb36 .bool)<|Ao rfl (.pickT (.t rfl) hb33 (.t rfl))<|Ag rfl rfl<|WL.nil<|WN.meet true (Si hm) ⟨.q rfl,.q rfl,trivial⟩ trivial
         ·exact Ax rfl hb36 (.fieldAddr U33 rfl J9 fapi_TrackedUnit_4 (.t rfl))<|Ax rfl hb36 (.load ty9 (.t rfl))<|Ax rfl hb36 (.fieldAddr U33 rfl J9 fapi_TrackedUnit_3 (.t rfl))<|Ax rfl hb36 (.load ty9 (.t rfl))<|Ax rfl hb36 (.eqS (.t rfl) (.t rfl))<|Ax rfl hb33 (.pickF (.t rfl) hb36 (.t rfl))<|Ao rfl (.pickT (.t rfl) hb33 (.t rfl))<|Ag rfl rfl<|WL.nil<|WN.meet (t.Was==t.Label) (Si hm) ⟨.q rfl,.q rfl,trivial⟩ trivial
        ·exact Ap rfl hb33<|Ap rfl hb33<|Ap rfl hb33<|Ap rfl hb33<|Ap rfl hb33<|WL.pass2 rfl rfl rfl rfl rfl rfl<|WL.pass2 rfl rfl rfl rfl rfl rfl<|WL.pass2 rfl rfl rfl rfl rfl rfl<|WL.pass2 rfl rfl rfl rfl rfl rfl<|WL.pass2 rfl rfl rfl rfl rfl rfl<|Ap rfl hb33<|Ao rfl (.pickF (.t rfl) hb33 .bool)<|Ag rfl rfl<|WL.nil<|WN.meet false (Si hm) ⟨.q rfl,.q rfl,trivial⟩ trivial
     ·have hm:=hs21
      clear hs21
      refine Aw<|Ao rfl (.fieldAddr U33 rfl J3 fapi_TrackedUnit_1 (.t rfl))<|Ao rfl (.load ty3 (.t rfl))<|Ao rfl (.eqI (.t rfl) .i64)<|Ao rfl (.fieldAddr U33 rfl J9 fapi_TrackedUnit_3 (.t rfl))<|Ao rfl (.load ty9 (.t rfl))<|Ao rfl (.eqS (.t rfl) (.str rfl (by decide)))<|Ao rfl (.neB U4 (.t rfl) (.t rfl))<|Ag rfl rfl<|An<|W.cB hm (.t rfl) (fun hp24 hm=>?_) (fun hp24 hm=>?_)
      ·exact W.skip<|WN.meet ((decide (t.Kind=(0:Int))) !=(t.Label==([]:Str))) (Si hm) ⟨.q rfl,.q rfl,trivial⟩ trivial
      ·refine W.region<|Ao rfl (.fieldAddr U33 rfl J9 fapi_TrackedUnit_3 (.t rfl))<|Ao rfl (.load ty9 (.t rfl))<|Ao rfl (.neS (.t rfl) (.str rfl (by decide)))<|WL.mv rfl rfl ?_
       rcases iteB hm with ⟨hp26,hb25,hm⟩ | ⟨hp26,hb25,hm⟩
       ·refine Ax rfl hb25 (.fieldAddr U33 rfl J9 fapi_TrackedUnit_3 (.t rfl))<|Ax rfl hb25 (.load ty9 (.t rfl)) ?_
        obtain ⟨valid,hv27,hm⟩:=Bs hm
        exact Ax rfl hb25 (.call C95 (label_Valid_spec _ _ _ hv27) ⟨(.t rfl),trivial⟩)<|Ax rfl hb25 (.notB (.t rfl))<|Ao rfl (.pickT (.t rfl) hb25 (.t rfl))<|Ag rfl rfl<|WL.nil<|WN.meet (!valid) (Si hm) ⟨.q rfl,.q rfl,trivial⟩ trivial
       ·exact Ap rfl hb25<|Ap rfl hb25<|Ap rfl hb25<|Ap rfl hb25<|Ao rfl (.pickF (.t rfl) hb25 .bool)<|Ag rfl rfl<|WL.nil<|WN.meet false (Si hm) ⟨.q rfl,.q rfl,trivial⟩ trivial
   ·have hm:=hs12
    clear hs12
    refine W.region<|Ao rfl (.fieldAddr U33 rfl J30 fapi_TrackedUnit_6 (.t rfl))<|Ao rfl (.load ty30 (.t rfl)) ?_
    obtain ⟨validr,hv14,hm⟩:=Bs hm
    refine Ao rfl (.call C43 (markup_validRow_spec _ _ _ hv14) ⟨(.t rfl),trivial⟩)<|Ao rfl (.notB (.t rfl))<|WL.mv rfl rfl ?_
    rcases iteR hm with ⟨hp16,hb15,hm⟩ | ⟨hp16,hb15,hm⟩
    ·exact Ap rfl hb15<|Ap rfl hb15<|Ap rfl hb15<|Ap rfl hb15<|Ao rfl (.pickT (.t rfl) hb15 .bool)<|Ag rfl rfl<|WL.nil<|WN.meet true (Si hm) ⟨.q rfl,.q rfl,trivial⟩ trivial
    ·refine Ax rfl hb15 (.fieldAddr U33 rfl J30 fapi_TrackedUnit_7 (.t rfl))<|Ax rfl hb15 (.load ty30 (.t rfl)) ?_
     obtain ⟨validr1,hv17,hm⟩:=Bs hm
     exact Ax rfl hb15 (.call C43 (markup_validRow_spec _ _ _ hv17) ⟨(.t rfl),trivial⟩)<|Ax rfl hb15 (.notB (.t rfl))<|Ao rfl (.pickF (.t rfl) hb15 (.t rfl))<|Ag rfl rfl<|WL.nil<|WN.meet (!validr1) (Si hm) ⟨.q rfl,.q rfl,trivial⟩ trivial
 ·have hm:=hs2
  clear hs2
  refine W.region<|Ao rfl (.fieldAddr U33 rfl J3 fapi_TrackedUnit_1 (.t rfl))<|Ao rfl (.load ty3 (.t rfl))<|Ao rfl (.ltI (.t rfl) .i64)<|WL.mv rfl rfl ?_
  rcases iteD hm with ⟨hp5,hb4,hm⟩ | ⟨hp5,hb4,hm⟩
  ·exact Ap rfl hb4<|Ap rfl hb4<|Ap rfl hb4<|Ao rfl (.pickT (.t rfl) hb4 .bool)<|Am rfl rfl<|Ap rfl rfl<|Ap rfl rfl<|Ap rfl rfl<|Ap rfl rfl<|Ao rfl (.pickT (.t rfl) rfl .bool)<|Ag rfl rfl<|WL.nil<|WN.meet true (Si hm) ⟨.q rfl,.q rfl,trivial⟩ trivial
  ·refine Ax rfl hb4 (.fieldAddr U33 rfl J3 fapi_TrackedUnit_1 (.t rfl))<|Ax rfl hb4 (.load ty3 (.t rfl))<|Ax rfl hb4 (.gtI (.t rfl) .i64)<|Ao rfl (.pickF (.t rfl) hb4 (.t rfl))<|WL.mv rfl rfl ?_
   rcases iteD hm with ⟨hp7,hb6,hm⟩ | ⟨hp7,hb6,hm⟩
   ·exact Ap rfl hb6<|Ap rfl hb6<|Ap rfl hb6<|Ap rfl hb6<|Ao rfl (.pickT (.t rfl) hb6 .bool)<|Ag rfl rfl<|WL.nil<|WN.meet true (Si hm) ⟨.q rfl,.q rfl,trivial⟩ trivial
   ·refine Ax rfl hb6 (.fieldAddr U33 rfl J23 fapi_TrackedUnit_2 (.t rfl))<|Ax rfl hb6 (.load ty23 (.t rfl)) ?_
    obtain ⟨validi,hv8,hm⟩:=Bs hm
    exact Ax rfl hb6 (.call C74 (markup_validID_spec _ _ hv8) ⟨(.t rfl),trivial⟩)<|Ax rfl hb6 (.notB (.t rfl))<|Ao rfl (.pickF (.t rfl) hb6 (.t rfl))<|Ag rfl rfl<|WL.nil<|WN.meet (!validi) (Si hm) ⟨.q rfl,.q rfl,trivial⟩ trivial
theorem markup_validTree_1_spec(slf:api_TrackedUnit→Int→Option Bool)(ih:∀ (t:api_TrackedUnit) (depth:Int) (r:Bool),slf t depth=some r→FSpec Tryz.prog 29 [(tapi_TrackedUnit.is t),(I6.is depth)] (tB.is r))(k:api_TrackedUnit)(c:Int)(r:Bool)(hm:M.markup_validTree_1 slf k c=some r):FSpec Tryz.prog 61 [(tapi_TrackedUnit.is k),(I6.ptr c)] (tB.is r):=by
 unfold M.markup_validTree_1 at hm
 refine FSpec.of Tryz.func61 rfl rfl rfl fun g0=>Aw<|Ao rfl (.box (.t rfl))<|Ao rfl (.assign .bool)<|Ar<|Ao rfl (.load ty33 (.t rfl))<|Ao rfl (.load ty3 (.t rfl)) ?_
 obtain ⟨v,hv1,hm⟩:=Bs hm
 refine Ao rfl (.addC hv1 (.t rfl) .i64) ?_
 obtain ⟨validt,hv2,hm⟩:=Bs hm
 refine Ao rfl (.call C29 (ih _ _ _ hv2) ⟨(.t rfl),(.t rfl),trivial⟩)<|Ao rfl (.notB (.t rfl))<|Ag rfl rfl<|WL.ns ?_
 cases hm
 exact W.ret1 () rfl (.t rfl) trivial
theorem slices_IndexFunc_api_TrackedUnit_api_TrackedUnit_spec(n:Nat)(s0_:List api_TrackedUnit)(f:api_TrackedUnit→Option Bool)(r:Int)(hm:M.slices_IndexFunc_api_TrackedUnit_api_TrackedUnit n s0_ f=some r):FSpec Tryz.prog 96 [((tL tapi_TrackedUnit).is s0_),(tF Tryz.prog (fun s:api_TrackedUnit×Bool=>f s.1=some s.2) (fun s:api_TrackedUnit×Bool=>[tapi_TrackedUnit.is s.1]) (fun s:api_TrackedUnit×Bool=>(tB.is s.2)))] (I6.is r):=by
 unfold M.slices_IndexFunc_api_TrackedUnit_api_TrackedUnit at hm
 refine FSpec.of Tryz.func96 rfl rfl rfl fun g0=>Aw<|Ao rfl (.assign .i64)<|An<|W.seq<|Aw<|Am rfl rfl<|Ao rfl (.lenL U31 (.t rfl))<|Ao rfl (.move .i64)<|An<|W.block ?_
 obtain ⟨s1,hs2,hk3⟩:=Bs hm
 clear hm
 refine W.loop (fun m (s:Int)=>M.slices_IndexFunc_api_TrackedUnit_api_TrackedUnit_loop1 s0_ f m s=some s1) (fun s=>[(8,(I6.is s)),(0,((tL tapi_TrackedUnit).is s0_)),(1,(tF Tryz.prog (fun s:api_TrackedUnit×Bool=>f s.1=some s.2) (fun s:api_TrackedUnit×Bool=>[tapi_TrackedUnit.is s.1]) (fun s:api_TrackedUnit×Bool=>(tB.is s.2)))),(7,(I6.is (s0_.length:Int)))]) (fun s=>[]) _ (0:Int) hs2 ⟨.q rfl,.q rfl,.q rfl,.q rfl,trivial⟩ trivial ?_
 rintro n4 v hm
 try dsimp only at hm
 change W _ _ _ _ _ _ _ [(8,(I6.is v)),(0,((tL tapi_TrackedUnit).is s0_)),(1,(tF Tryz.prog (fun s:api_TrackedUnit×Bool=>f s.1=some s.2) (fun s:api_TrackedUnit×Bool=>[tapi_TrackedUnit.is s.1]) (fun s:api_TrackedUnit×Bool=>(tB.is s.2)))),(7,(I6.is (s0_.length:Int)))] []
 cases n4 with
 | zero=>rw [M.slices_IndexFunc_api_TrackedUnit_api_TrackedUnit_loop1.eq_1] at hm;cases hm
 | succ n4=>
  rw [M.slices_IndexFunc_api_TrackedUnit_api_TrackedUnit_loop1.eq_2] at hm
  refine Aw<|Ao rfl (.ltI (.t rfl) (.t rfl))<|An<|W.seq<|W.cD hm (.t rfl) (fun hp6 hm=>?_) (fun hp6 hm=>?_)
  ·refine W.skip<|Aq<|W.seq<|W.block<|Aw<|Am rfl rfl<|Ag rfl rfl<|Ar<|Am rfl rfl<|Am rfl rfl<|WL.mv rfl rfl ?_
   obtain ⟨v1,hv7,hm⟩:=Bs hm
   refine Ao rfl (.idx hv7 U31 Z33 (.t rfl) (.t rfl))<|Ao rfl (.load ty33 (.t rfl)) ?_
   obtain ⟨v2,hv8,hm⟩:=Bs hm
   refine Ao rfl (.callF (ok:=(fun s:api_TrackedUnit×Bool=>f s.1=some s.2)) (As:=(fun s:api_TrackedUnit×Bool=>[tapi_TrackedUnit.is s.1])) (A:=(fun s:api_TrackedUnit×Bool=>(tB.is s.2))) (s:=(v1,v2)) (.t rfl) hv8 ⟨(.t rfl),trivial⟩)<|An<|W.cB hm (.t rfl) (fun hp10 hm=>?_) (fun hp10 hm=>?_)
   ·refine Aw<|Am rfl rfl<|Ag rfl rfl<|WL.ns ?_
    have hr11:=Si hm
    clear hm
    subst hr11
    have hm:=hk3
    try dsimp only at hm
    cases hm
    exact W.ret1 () rfl (.t rfl) trivial
   ·exact W.skip<|WN.block<|Aq<|W.region<|WL.lenL (s:=0) (.t rfl) fun hl12=>Ao rfl (.addI1 (.t rfl) .i64 hp6 hl12)<|Am rfl rfl<|WL.nil<|WN.again n4 (v+1) (Nat.lt_succ_self n4) hm ⟨.q rfl,.q rfl,.q rfl,.q rfl,trivial⟩ trivial
  ·refine W.exit rfl ?_
   have hr13:=Si hm
   clear hm
   subst hr13
   have hm:=hk3
   try dsimp only at hm
   refine Aq<|Aw<|Ao rfl (.assign .i64)<|WL.ns ?_
   cases hm
   exact W.ret1 () rfl (.t rfl) trivial
theorem slices_ContainsFunc_api_TrackedUnit_api_TrackedUnit_spec(n:Nat)(s0_:List api_TrackedUnit)(f:api_TrackedUnit→Option Bool)(r:Bool)(hm:M.slices_ContainsFunc_api_TrackedUnit_api_TrackedUnit n s0_ f=some r):FSpec Tryz.prog 60 [((tL tapi_TrackedUnit).is s0_),(tF Tryz.prog (fun s:api_TrackedUnit×Bool=>f s.1=some s.2) (fun s:api_TrackedUnit×Bool=>[tapi_TrackedUnit.is s.1]) (fun s:api_TrackedUnit×Bool=>(tB.is s.2)))] (tB.is r):=by
 unfold M.slices_ContainsFunc_api_TrackedUnit_api_TrackedUnit at hm
 refine FSpec.of Tryz.func60 rfl rfl rfl fun g0=>Aw<|Ao rfl (.assign .bool)<|Ar<|Am rfl rfl<|WL.mv rfl rfl ?_
 obtain ⟨tracke,hv1,hm⟩:=Bs hm
 refine Ao rfl (.call C96 (slices_IndexFunc_api_TrackedUnit_api_TrackedUnit_spec _ _ _ _ hv1) ⟨(.t rfl),(.t rfl),trivial⟩)<|Ao rfl (.geI (.t rfl) .i64)<|Ag rfl rfl<|WL.ns ?_
 cases hm
 exact W.ret1 () rfl (.t rfl) trivial
theorem markup_validTree_spec:∀ (n:Nat) (t:api_TrackedUnit) (depth:Int) (r:Bool),M.markup_validTree n t depth=some r→FSpec Tryz.prog 29 [(tapi_TrackedUnit.is t),(I6.is depth)] (tB.is r):=by
 intro n
 induction n with
 | zero=>intro t depth r hm;cases hm
 | succ n ih=>
  intro t depth r hm
  rw [M.markup_validTree.eq_2] at hm
  refine FSpec.of Tryz.func29 rfl rfl rfl fun g0=>Aw<|Ao rfl (.box (.t rfl))<|Ao rfl (.box (.t rfl))<|Ao rfl (.assign .bool)<|An<|W.seq<|Aw<|Ao rfl (.load ty3 (.t rfl))<|Ao rfl (.gtI (.t rfl) .i64)<|An<|W.cD hm (.t rfl) (fun hp2 hm=>?_) (fun hp2 hm=>?_)
  ·refine Aw<|Ao rfl (.assign .bool)<|WL.ns ?_
   cases hm
   exact W.ret1 () rfl (.t rfl) trivial
  ·refine W.skip<|Aq<|W.seq ?_
   obtain ⟨s3,hs4,hk5⟩:=Bs hm
   clear hm
   refine W.join (fun s:Bool=>s=s3) (fun s=>[(12,(tB.is s)),(2,(tapi_TrackedUnit.ptr t)),(3,(I6.ptr depth))]) (fun s=>[]) ?_ ?_
   ·rintro v hj15
    try dsimp only at hj15
    subst hj15
    have hm:=hk5
    clear hk5
    try dsimp only at hm
    change W _ _ _ _ _ _ _ [(12,(tB.is v)),(2,(tapi_TrackedUnit.ptr t)),(3,(I6.ptr depth))] []
    refine W.cB hm (.t rfl) (fun hp10 hm=>?_) (fun hp10 hm=>?_)
    ·refine Aw<|Ao rfl (.assign .bool)<|WL.ns ?_
     cases hm
     exact W.ret1 () rfl (.t rfl) trivial
    ·refine W.skip<|Aq<|Aw<|Ao rfl (.load ty33 (.t rfl)) ?_
     obtain ⟨validu,hv11,hm⟩:=Bs hm
     refine Ao rfl (.call C59 (markup_validUnit_spec _ _ _ hv11) ⟨(.t rfl),trivial⟩)<|WL.mv rfl rfl ?_
     rcases iteB hm with ⟨hp13,hb12,hm⟩ | ⟨hp13,hb12,hm⟩
     ·refine Ax rfl hb12 (.fieldAddr U33 rfl J31 fapi_TrackedUnit_8 (.t rfl))<|Ax rfl hb12 (.load ty31 (.t rfl))<|Ax rfl hb12 (.makeFunc (ok:=(fun s:api_TrackedUnit×Bool=>(fun s0=>M.markup_validTree_1 (M.markup_validTree n) s0 depth) s.1=some s.2)) (As:=(fun s:api_TrackedUnit×Bool=>[tapi_TrackedUnit.is s.1])) (A:=(fun s:api_TrackedUnit×Bool=>(tB.is s.2))) (Cs:=[(I6.ptr depth)]) (cap:=[.tmp 3]) C61 ⟨(.t rfl),trivial⟩ (fun s hs=>markup_validTree_1_spec (M.markup_validTree n) ih _ _ _ hs)) ?_
      obtain ⟨tracke,hv14,hm⟩:=Bs hm
      refine Ax rfl hb12 (.call C60 (slices_ContainsFunc_api_TrackedUnit_api_TrackedUnit_spec _ _ _ _ hv14) ⟨(.t rfl),(.t rfl),trivial⟩)<|Ax rfl hb12 (.notB (.t rfl))<|Ao rfl (.pickT (.t rfl) hb12 (.t rfl))<|Ag rfl rfl<|WL.ns ?_
      cases hm
      exact W.ret1 () rfl (.t rfl) trivial
     ·refine Ap rfl hb12<|Ap rfl hb12<|Ap rfl hb12<|Ap rfl hb12<|Ap rfl hb12<|Ao rfl (.pickF (.t rfl) hb12 .bool)<|Ag rfl rfl<|WL.ns ?_
      cases hm
      exact W.ret1 () rfl (.t rfl) trivial
   ·have hm:=hs4
    clear hs4
    refine W.region<|Ao rfl (.load ty3 (.t rfl))<|Ao rfl (.gtI (.t rfl) .i64)<|WL.mv rfl rfl ?_
    rcases iteD hm with ⟨hp7,hb6,hm⟩ | ⟨hp7,hb6,hm⟩
    ·refine Ax rfl hb6 (.load ty33 (.t rfl)) ?_
     obtain ⟨isplac,hv8,hm⟩:=Bs hm
     exact Ax rfl hb6 (.call C37 (markup_isPlaceholder_spec _ _ hv8) ⟨(.t rfl),trivial⟩)<|Ao rfl (.pickT (.t rfl) hb6 (.t rfl))<|WL.nil<|WN.meet isplac (Si hm) ⟨.q rfl,.q rfl,.q rfl,trivial⟩ trivial
    ·exact Ap rfl hb6<|Ap rfl hb6<|Ao rfl (.pickF (.t rfl) hb6 .bool)<|WL.nil<|WN.meet false (Si hm) ⟨.q rfl,.q rfl,.q rfl,trivial⟩ trivial
theorem strings_Repeat_spec(s:Str)(n r:_)(hm:repeatM s n=some r):FSpec Tryz.prog 62 [tS.is s,I6.is n] (tS.is r):=
 repeat_spec (fun s c w hc hl=>Tryz.strings_Repeat s c w hc hl) s n r hm
theorem markup_sign_spec(t:api_TrackedUnit)(r:Str)(hm:M.markup_sign t=some r):FSpec Tryz.prog 63 [(tapi_TrackedUnit.is t)] (tS.is r):=by
 unfold M.markup_sign at hm
 refine FSpec.of Tryz.func63 rfl rfl rfl fun g0=>Aw<|Ao rfl (.box (.t rfl))<|Ao rfl (.assign (.str rfl (by decide)))<|An<|W.seq<|W.block ?_
 obtain ⟨s1,hs2,hk3⟩:=Bs hm
 clear hm
 refine W.join (fun s:Bool=>s=s1) (fun s=>[(3,(tB.is s)),(1,(tapi_TrackedUnit.ptr t))]) (fun s=>[]) ?_ ?_
 ·rintro v hj14
  try dsimp only at hj14
  subst hj14
  have hm:=hk3
  clear hk3
  try dsimp only at hm
  change W _ _ _ _ _ _ _ [(3,(tB.is v)),(1,(tapi_TrackedUnit.ptr t))] []
  refine W.cB hm (.t rfl) (fun hp7 hm=>?_) (fun hp7 hm=>?_)
  ·refine Aw<|Ao rfl (.assign (.str rfl (by decide)))<|WL.ns ?_
   cases hm
   exact W.ret1 () rfl (.t rfl) trivial
  ·refine Aw<|Ao rfl (.fieldAddr U33 rfl J4 fapi_TrackedUnit_5 (.t rfl))<|Ao rfl (.load ty4 (.t rfl))<|Ag rfl rfl<|An<|W.cB hm (.t rfl) (fun hp9 hm=>?_) (fun hp9 hm=>?_)
   ·refine Aw<|Ao rfl (.assign (.str rfl (by decide)))<|WL.ns ?_
    cases hm
    exact W.ret1 () rfl (.t rfl) trivial
   ·refine Aw<|Ao rfl (.fieldAddr U33 rfl J3 fapi_TrackedUnit_0 (.t rfl))<|Ao rfl (.load ty3 (.t rfl))<|Ao rfl (.eqI (.t rfl) .i64)<|Ag rfl rfl<|An<|W.cD hm (.t rfl) (fun hp11 hm=>?_) (fun hp11 hm=>?_)
    ·refine Aw<|Ao rfl (.assign (.str rfl (by decide)))<|WL.ns ?_
     cases hm
     exact W.ret1 () rfl (.t rfl) trivial
    ·refine Aw<|Ao rfl (.fieldAddr U33 rfl J3 fapi_TrackedUnit_0 (.t rfl))<|Ao rfl (.load ty3 (.t rfl))<|Ao rfl (.eqI (.t rfl) .i64)<|Ag rfl rfl<|An<|W.cD hm (.t rfl) (fun hp13 hm=>?_) (fun hp13 hm=>?_)
     ·refine Aw<|Ao rfl (.assign (.str rfl (by decide)))<|WL.ns ?_
      cases hm
      exact W.ret1 () rfl (.t rfl) trivial
     ·refine W.skip<|WN.block<|Aq<|Aw<|Ao rfl (.assign (.str rfl (by decide)))<|WL.ns ?_
      cases hm
      exact W.ret1 () rfl (.t rfl) trivial
 ·have hm:=hs2
  clear hs2
  refine W.region<|Ao rfl (.fieldAddr U33 rfl J4 fapi_TrackedUnit_5 (.t rfl))<|Ao rfl (.load ty4 (.t rfl))<|WL.mv rfl rfl ?_
  rcases iteB hm with ⟨hp5,hb4,hm⟩ | ⟨hp5,hb4,hm⟩
  ·exact Ax rfl hb4 (.fieldAddr U33 rfl J3 fapi_TrackedUnit_0 (.t rfl))<|Ax rfl hb4 (.load ty3 (.t rfl))<|Ax rfl hb4 (.eqI (.t rfl) .i64)<|Ao rfl (.pickT (.t rfl) hb4 (.t rfl))<|Ag rfl rfl<|WL.nil<|WN.meet (decide (t.State=(1:Int))) (Si hm) ⟨.q rfl,.q rfl,trivial⟩ trivial
  ·exact Ap rfl hb4<|Ap rfl hb4<|Ap rfl hb4<|Ao rfl (.pickF (.t rfl) hb4 .bool)<|Ag rfl rfl<|WL.nil<|WN.meet false (Si hm) ⟨.q rfl,.q rfl,trivial⟩ trivial
theorem strconv_Itoa_spec(n:Int)(r:Str)(hm:itoaM n=some r):FSpecR Tryz.prog 100 [I6.is n] [(700007,GlT Tryz.prog "internal/strconv.uint64pow10" .u64 Lib.pow10Tab)] (fun _:Unit=>tS.is r) (fun _=>[]):=
 itoa_spec (fun n h0 h1 w ht=>Tryz.strconv_Itoa n h0 h1 w ht) _ n r hm
theorem markup_formatID_spec(id:api_Id)(r:Str)(hm:M.markup_formatID id=some r):FSpecR Tryz.prog 64 [(tapi_Id.is id)] [(700007,GlT Tryz.prog "internal/strconv.uint64pow10" .u64 Lib.pow10Tab)] (fun _:Unit=>(tS.is r)) (fun _=>[]):=by
 unfold M.markup_formatID at hm
 refine FSpecR.of Tryz.func64 rfl rfl rfl fun g0=>Aw<|Ao rfl (.box (.t rfl))<|Ao rfl (.assign (.str rfl (by decide)))<|An<|W.seq ?_
 obtain ⟨itoa,hv1,hm⟩:=Bs hm
 obtain ⟨v,hv2,hm⟩:=Bs hm
 obtain ⟨v1,hv3,hm⟩:=Bs hm
 obtain ⟨itoa1,hv4,hm⟩:=Bs hm
 obtain ⟨v2,hv5,hm⟩:=Bs hm
 obtain ⟨v3,hv6,hm⟩:=Bs hm
 obtain ⟨itoa2,hv7,hm⟩:=Bs hm
 obtain ⟨v4,hv8,hm⟩:=Bs hm
 refine W.draw [.c _,.c _,.c _,.c _,.c _,.c _,.c _,.c _,.c _,.c _,.c _,.c _,.c _,.c _,.c _] [([],[1]),([0],[]),([1],[]),([2],[]),([3],[]),([],[1]),([5],[]),([6],[]),([4,7],[]),([8],[]),([],[1]),([10],[]),([11],[]),([9,12],[]),([13],[])] Mx rfl rfl rfl rfl ⟨Dn (.fieldAddr U23 rfl J3 fapi_Id_0 (.t rfl)),Dn (.load ty3 (.t rfl)),Dn (.callG (rin:=[(700007,GlT Tryz.prog "internal/strconv.uint64pow10" .u64 Lib.pow10Tab)]) C100 (strconv_Itoa_spec _ _ hv1) ⟨rfl,trivial⟩ ⟨rfl,rfl,trivial⟩ ⟨(.t rfl),trivial⟩),Dn (.catC hv2 (.str rfl (by decide)) (.t rfl)),Dn (.catC hv3 (.t rfl) (.str rfl (by decide))),Dn (.fieldAddr U23 rfl J3 fapi_Id_1 (.t rfl)),Dn (.load ty3 (.t rfl)),Dn (.callG (rin:=[(700007,GlT Tryz.prog "internal/strconv.uint64pow10" .u64 Lib.pow10Tab)]) C100 (strconv_Itoa_spec _ _ hv4) ⟨rfl,trivial⟩ ⟨rfl,rfl,trivial⟩ ⟨(.t rfl),trivial⟩),Dn (.catC hv5 (.t rfl) (.t rfl)),Dn (.catC hv6 (.t rfl) (.str rfl (by decide))),Dn (.fieldAddr U23 rfl J3 fapi_Id_2 (.t rfl)),Dn (.load ty3 (.t rfl)),Dn (.callG (rin:=[(700007,GlT Tryz.prog "internal/strconv.uint64pow10" .u64 Lib.pow10Tab)]) C100 (strconv_Itoa_spec _ _ hv7) ⟨rfl,trivial⟩ ⟨rfl,rfl,trivial⟩ ⟨(.t rfl),trivial⟩),Dn (.catC hv8 (.t rfl) (.t rfl)),Dn (.assign (.t rfl)),trivial⟩<|WN.seq ?_
 cases hm
 exact W.ret1 () rfl (.t rfl) trivial
theorem unit_KindName_spec(kind:Int)(r:Str)(hm:M.unit_KindName kind=some r):FSpecR Tryz.prog 65 [(I6.is kind)] [(700002,Gl (tA 8 tS) 2 gv2)] (fun _:Unit=>(tS.is r)) (fun _=>[]):=by
 unfold M.unit_KindName at hm
 refine FSpecR.of Tryz.func65 rfl rfl rfl fun g0=>Aw<|Ao rfl (.assign (.str rfl (by decide)))<|An<|W.seq<|Aw<|Am rfl rfl<|Ao rfl (.ltI (.t rfl) .i64)<|WL.mv rfl rfl ?_
 rcases iteD hm with ⟨hp2,hb1,hm⟩ | ⟨hp2,hb1,hm⟩
 ·refine Ap rfl hb1<|Ap rfl hb1<|Ao rfl (.pickT (.t rfl) hb1 .bool)<|An<|W.condT (.t rfl)<|Aw<|Ao rfl (.assign (.str rfl (by decide)))<|WL.ns ?_
  cases hm
  exact W.ret1 () rfl (.t rfl) trivial
 ·refine Ax rfl hb1 (.move (.t rfl))<|Ax rfl hb1 (.geI (.t rfl) .i64)<|Ao rfl (.pickF (.t rfl) hb1 (.t rfl))<|An<|W.cD hm (.t rfl) (fun hp4 hm=>?_) (fun hp4 hm=>?_)
  ·refine Aw<|Ao rfl (.assign (.str rfl (by decide)))<|WL.ns ?_
   cases hm
   exact W.ret1 () rfl (.t rfl) trivial
  ·refine W.skip<|Aq<|Aw<|WL.mv rfl rfl ?_
   obtain ⟨v,hv5,hm⟩:=Bs hm
   refine WL.addG 900002 700002 rfl<|Ao rfl (.idxA hv5 U145 Z9 (Opd.glob (s:=900002) rfl) (.t rfl))<|Ao rfl (.load ty9 (.t rfl))<|Ag rfl rfl<|WL.ns ?_
   cases hm
   exact W.ret1 () rfl (.t rfl) trivial
theorem strings_Contains_spec(s sub:Str)(r:Bool)(hm:containsM s sub=some r):FSpecR Tryz.prog 117 [tS.is s,tS.is sub] [(700003,GlE 3)] (fun _:Unit=>tB.is r) (fun _=>[]):=
 contains_spec (fun s sub m w hs hm=>Tryz.strings_Contains s sub m w hs hm) _ s sub r hm
theorem markup_escape_spec(s0_:Str)(r:Str)(hm:M.markup_escape s0_=some r):FSpecR Tryz.prog 78 [(tS.is s0_)] [(700003,GlE 3)] (fun _:Unit=>(tS.is r)) (fun _=>[]):=by
 unfold M.markup_escape at hm
 refine FSpecR.of Tryz.func78 rfl rfl rfl fun g0=>Aw<|Ao rfl (.assign (.str rfl (by decide)))<|An<|W.seq<|Aw<|WL.mv rfl rfl ?_
 obtain ⟨v,hv1,hm⟩:=Bs hm
 refine Ao rfl (.sslcHi hv1 U9 (.t rfl) .i64) ?_
 obtain ⟨contai,hv2,hm⟩:=Bs hm
 refine Ao rfl (.callG (rin:=[(700003,GlE 3)]) C117 (strings_Contains_spec _ _ _ hv2) ⟨rfl,trivial⟩ ⟨rfl,rfl,trivial⟩ ⟨(.str rfl (by decide)),(.t rfl),trivial⟩)<|An<|W.cB hm (.t rfl) (fun hp4 hm=>?_) (fun hp4 hm=>?_)
 ·refine Aw<|WL.mv rfl rfl ?_
  obtain ⟨v1,hv5,hm⟩:=Bs hm
  refine Ao rfl (.catC hv5 (.str rfl (by decide)) (.t rfl))<|Ag rfl rfl<|WL.ns ?_
  cases hm
  exact W.ret1 () rfl (.t rfl) trivial
 ·refine W.skip<|Aq<|Aw<|Am rfl rfl<|Ag rfl rfl<|WL.ns ?_
  cases hm
  exact W.ret1 () rfl (.t rfl) trivial
theorem strings_Builder_Grow_spec(n:Int)(b:Nat){u:Unit}(hm:growC n=some u):FSpecR Tryz.prog 66 [Bp b 0,I6.is n] [(0,Bx 2 true 105 (bldA none [] b) b),(1,Dec.Own (tI .u8) 5 none 0)] (fun _:Tok=>Asn.eq (.tuple #[])) (fun k=>[(0,Bx 2 true 105 (bldA k [] b) b),(1,Dec.Own (tI .u8) 5 k 0)]):=
 FSpecR.bldGrow bld_used bld_fresh bld_Grow 0 1 n b hm
theorem strings_Builder_WriteString_spec(l m r:Str)(k:Tok)(b:Nat)(hm:appC l m=some r):FSpecR Tryz.prog 67 [Bp b 0,tS.is m] [(0,Bx 2 true 105 (bldA k l b) b),(1,Dec.Own (tI .u8) 5 k l.length)] (fun _:Tok=>Asn.any) (fun kx=>[(0,Bx 2 true 105 (bldA kx r b) b),(1,Dec.Own (tI .u8) 5 kx r.length)]):=by
 refine FSpecR.of Tryz.func67 rfl rfl rfl fun g0=>Aw<|Ao rfl (.assign Opd.const)<|Ao rfl (.assign Opd.const)<|Ar<|Am rfl rfl<|WL.opR rfl (OpR.call (us:=[0]) C101 (FSpecR.bldCheck bld_used bld_fresh 0 k l b) rfl ⟨(.t rfl),trivial⟩) fun _=>Ar<|Am rfl rfl<|Am rfl rfl<|Ao rfl (.nilCheckB (.t rfl))<|Ao rfl (.fieldAddrB (o:=0) Tryz.underlying105 rfl J103 (.t rfl) rfl)<|Ao rfl (.loadBld 0 Y103 Z103 rfl (.t rfl))<|Am rfl rfl<|WL.opR rfl (OpR.appendS (key:=1) hm U103 U9 el5 (.t rfl) (.t rfl) rfl) fun k2=>Ao rfl (.nilCheckB (.t rfl)) ?_
 exact Ao rfl (.fieldAddrB (o:=0) Tryz.underlying105 rfl J103 (.t rfl) rfl)<|WL.opU (OpR.storeBld (b:=b) 0 Z103 rfl (.t rfl) (.t rfl)) fun _=>Ar<|Am rfl rfl<|Ao rfl (.lenS U9 (.t rfl))<|Ag rfl rfl<|Ao rfl (.assign Opd.const)<|WL.nil<|Aq<|W.boxV (A':=bldA k2 r b) 0 rfl (fun _ _=>bldU_A)<|W.retAny2 k2 rfl rfl ⟨rfl,rfl,rfl,rfl,trivial⟩
theorem strings_Builder_String_spec(k:Tok)(l:Str)(b:Nat):FSpecR Tryz.prog 68 [Bp b 0] [(0,Bx 2 true 105 (bldA k l b) b),(1,Dec.Own (tI .u8) 5 k l.length)] (fun _:Unit=>tS.is l) (fun _=>[]):=
 FSpecR.bldString U146 (by kernel_rfl) bld_str 0 1 k l b
theorem strings_Join_spec(elems:List Str)(sep:Str)(r:Str)(hm:M.strings_Join elems sep=some r):FSpec Tryz.prog 33 [((tL tS).is elems),(tS.is sep)] (tS.is r):=by
 unfold M.strings_Join at hm
 refine FSpec.of Tryz.func33 rfl rfl rfl fun g0=>Aw<|Ao rfl (.assign (.str rfl (by decide)))<|An<|W.seq<|Aw<|Am rfl rfl<|Ao rfl (.lenL U38 (.t rfl))<|An<|W.block<|Aw<|Ao rfl (.eqI (.t rfl) .i64)<|Ag rfl rfl<|An<|W.cD hm (.t rfl) (fun hp2 hm=>?_) (fun hp2 hm=>?_)
 ·refine Aw<|Ao rfl (.assign (.str rfl (by decide)))<|WL.ns ?_
  cases hm
  exact W.ret1 () rfl (.t rfl) trivial
 ·refine Aw<|Ao rfl (.eqI (.t rfl) .i64)<|Ag rfl rfl<|An<|W.cD hm (.t rfl) (fun hp4 hm=>?_) (fun hp4 hm=>?_)
  ·refine Aw<|WL.mv rfl rfl ?_
   obtain ⟨v,hv5,hm⟩:=Bs hm
   refine Ao rfl (.idx hv5 U38 Z9 (.t rfl) .i64)<|Ao rfl (.load ty9 (.t rfl))<|Ag rfl rfl<|WL.ns ?_
   cases hm
   exact W.ret1 () rfl (.t rfl) trivial
  ·refine W.skip<|WN.block<|Aq<|Aw<|Ao rfl (.assign .i64)<|WL.ns ?_
   obtain ⟨s6,hs7,hk8⟩:=Bs hm
   clear hm
   refine W.join (fun s:Int=>s=s6) (fun s=>[(5,(I6.is s)),(0,((tL tS).is elems)),(1,(tS.is sep))]) (fun s=>[]) ?_ ?_
   ·rintro n0_ hj58
    try dsimp only at hj58
    subst hj58
    have hm:=hk8
    clear hk8
    try dsimp only at hm
    change W _ _ _ _ _ _ _ [(5,(I6.is n0_)),(0,((tL tS).is elems)),(1,(tS.is sep))] []
    refine W.seq<|Aw<|Am rfl rfl<|Ao rfl (.lenL U38 (.t rfl))<|Ao rfl (.move .i64)<|An<|W.block ?_
    obtain ⟨s22,hs23,hk24⟩:=Bs hm
    clear hm
    refine W.loop (fun m (s:Int×List Str×List Str×Int)=>m=s.2.2.1.length∧elems=s.2.1++s.2.2.1∧s.1=(s.2.1.length:Int)∧M.strings_Join_loop1 s.2.2.1 s.2.2.2=some s22) (fun s=>[(41,(I6.is s.1)),(5,(I6.is s.2.2.2)),(0,((tL tS).is elems)),(1,(tS.is sep)),(39,((tL tS).is elems)),(40,(I6.is (elems.length:Int)))]) (fun s=>[]) elems.length ((0:Int),[],elems,n0_) ⟨rfl,rfl,rfl,hs23⟩ ⟨.q rfl,.q rfl,.q rfl,.q rfl,.q rfl,.q rfl,trivial⟩ trivial ?_
    rintro m ⟨i,pre,rest3,n0_1⟩ ⟨hn28,hxs25,hi26,hm⟩
    try dsimp only at hn28 hxs25 hi26 hm
    change W _ _ _ _ _ _ _ [(41,(I6.is i)),(5,(I6.is n0_1)),(0,((tL tS).is elems)),(1,(tS.is sep)),(39,((tL tS).is elems)),(40,(I6.is (elems.length:Int)))] []
    refine W.lenL (s:=39) (.t rfl) fun hlen27=>Aw<|Ao rfl (.ltI (.t rfl) (.t rfl))<|An<|W.seq<|W.cond (.t rfl) (fun hc30=>?_) (fun hc30=>?_)
    ·have hp31:=of_decide_eq_true hc30
     obtain ⟨e,es,hrest33⟩:=range_more hxs25 hi26 hp31
     subst hrest33
     rw [M.strings_Join_loop1.eq_2] at hm
     refine W.skip<|Aq<|W.seq<|W.block<|Aw<|Ao rfl (.idxPre hxs25 hi26 U38 Z9 (.t rfl) (.t rfl))<|Ao rfl (.load ty9 (.t rfl))<|Ag rfl rfl<|An<|W.seq<|Aw<|Am rfl rfl<|Ao rfl (.lenS U9 (.t rfl))<|WL.mv rfl rfl ?_
     obtain ⟨v6,hv34,hm⟩:=Bs hm
     refine Ao rfl (.subC hv34 .i64 (.t rfl))<|Ao rfl (.gtI (.t rfl) (.t rfl))<|An<|W.cD hm (.t rfl) (fun hp36 hm=>?_) (fun hp36 hm=>?_)
     ·cases hm
     ·refine W.skip<|Aq<|W.region<|Am rfl rfl<|Am rfl rfl<|Ao rfl (.lenS U9 (.t rfl)) ?_
      obtain ⟨v7,hv37,hm⟩:=Bs hm
      exact Ao rfl (.addC hv37 (.t rfl) (.t rfl))<|Ag rfl rfl<|WL.nil<|WN.block<|Aq<|W.region<|Ao rfl (.addI (.t rfl) .i64 (range_inR hi26 hp31 hlen27))<|Am rfl rfl<|WL.nil<|WN.again es.length (i+1,pre++ [e],es,v7) (range_lt hn28) ⟨rfl,range_step hxs25,range_idx hi26,hm⟩ ⟨.q rfl,.q rfl,.q rfl,.q rfl,.q rfl,.q rfl,trivial⟩ trivial
    ·have hrest33:=range_end hxs25 hi26 (of_decide_eq_false hc30)
     subst hrest33
     rw [M.strings_Join_loop1.eq_1] at hm
     refine W.exit rfl ?_
     have hr38:=Si hm
     clear hm
     subst hr38
     have hm:=hk24
     try dsimp only at hm
     refine Aq<|Aw<|WL.addNil (t:=(tI .u8)) (E:=5) 1000008<|WL.opR rfl (OpR.allocBld 8 Tryz.zeroValue105) fun b=>Ar<|WL.mv rfl rfl ?_
     obtain ⟨_,hv39,hm⟩:=Bs hm
     refine WL.weakR (res':=[(8,(Bx 2 true 105 (bldA (none:Tok) ([]:Str) b) b)),(1000008,Dec.Own (tI .u8) 5 (none:Tok) ([]:Str).length)]) ⟨rfl,rfl,⟨rfl,rfl,trivial⟩⟩<|WL.opR rfl (OpR.call (us:=[8,1000008]) (A:=fun kx:Tok=>(Asn.eq (.tuple #[]))) C66 (FSpecR.keys (rin':=[(8,(Bx 2 true 105 (bldA (none:Tok) ([]:Str) b) b)),(1000008,Dec.Own (tI .u8) 5 (none:Tok) ([]:Str).length)]) (out':=fun kx:Tok=>[(8,(Bx 2 true 105 (bldA kx ([]:Str) b) b)),(1000008,Dec.Own (tI .u8) 5 kx ([]:Str).length)]) (strings_Builder_Grow_spec _ _ hv39) rfl (fun _=>rfl)) rfl ⟨(.t rfl),(.t rfl),trivial⟩) fun k=>Ar<|WL.mv rfl rfl ?_
     obtain ⟨v8,hv40,hm⟩:=Bs hm
     refine Ao rfl (.idx hv40 U38 Z9 (.t rfl) .i64)<|Ao rfl (.load ty9 (.t rfl)) ?_
     obtain ⟨b1,hv41,hm⟩:=Bs hm
     refine WL.weakR (res':=[(8,(Bx 2 true 105 (bldA k ([]:Str) b) b)),(1000008,Dec.Own (tI .u8) 5 k ([]:Str).length)]) ⟨rfl,rfl,⟨rfl,rfl,trivial⟩⟩<|WL.opR rfl (OpR.call (us:=[8,1000008]) (A:=fun kx:Tok=>Asn.any) C67 (FSpecR.keys (rin':=[(8,(Bx 2 true 105 (bldA k ([]:Str) b) b)),(1000008,Dec.Own (tI .u8) 5 k ([]:Str).length)]) (out':=fun kx:Tok=>[(8,(Bx 2 true 105 (bldA kx b1 b) b)),(1000008,Dec.Own (tI .u8) 5 kx b1.length)]) (strings_Builder_WriteString_spec _ _ _ _ _ hv41) rfl (fun _=>rfl)) rfl ⟨(.t rfl),(.t rfl),trivial⟩) fun k1=>An<|W.seq<|Aw<|WL.mv rfl rfl ?_
     obtain ⟨v9,hv42,hm⟩:=Bs hm
     refine Ao rfl (.slcLo hv42 U38 Z9 (.t rfl) .i64)<|Ao rfl (.lenL U38 (.t rfl))<|Ao rfl (.move .i64)<|An<|W.block ?_
     obtain ⟨s43,hs44,hk45⟩:=Bs hm
     clear hm
     refine W.loop (fun m (s:Int×List Str×List Str×((Str)×Tok))=>m=s.2.2.1.length∧v9=s.2.1++s.2.2.1∧s.1=(s.2.1.length:Int)∧M.strings_Join_loop2 sep s.2.2.1 s.2.2.2.1=some s43) (fun s=>[(65,(I6.is s.1)),(1,(tS.is sep)),(8,(Bp b 0)),(63,((tL tS).is v9)),(64,(I6.is (v9.length:Int)))]) (fun s=>[(1000008,Dec.Own (tI .u8) 5 s.2.2.2.2 s.2.2.2.1.length),(8,(Bx 2 true 105 (bldA s.2.2.2.2 s.2.2.2.1 b) b))]) v9.length ((0:Int),[],v9,(b1,k1)) ⟨rfl,rfl,rfl,hs44⟩ ⟨.q rfl,.q rfl,.q rfl,.q rfl,.q rfl,trivial⟩ ⟨rfl,rfl,⟨rfl,rfl,trivial⟩⟩ ?_
     rintro m ⟨i1,pre1,rest2,⟨b2,k2⟩⟩ ⟨hn49,hxs46,hi47,hm⟩
     try dsimp only at hn49 hxs46 hi47 hm
     change W _ _ _ _ _ _ _ [(65,(I6.is i1)),(1,(tS.is sep)),(8,(Bp b 0)),(63,((tL tS).is v9)),(64,(I6.is (v9.length:Int)))] [(1000008,Dec.Own (tI .u8) 5 k2 b2.length),(8,(Bx 2 true 105 (bldA k2 b2 b) b))]
     refine W.lenL (s:=63) (.t rfl) fun hlen48=>Aw<|Ao rfl (.ltI (.t rfl) (.t rfl))<|An<|W.seq<|W.cond (.t rfl) (fun hc51=>?_) (fun hc51=>?_)
     ·have hp52:=of_decide_eq_true hc51
      obtain ⟨e1,es1,hrest54⟩:=range_more hxs46 hi47 hp52
      subst hrest54
      rw [M.strings_Join_loop2.eq_2] at hm
      refine W.skip<|Aq<|W.seq<|W.block<|Aw<|Ao rfl (.idxPre hxs46 hi47 U38 Z9 (.t rfl) (.t rfl))<|Ao rfl (.load ty9 (.t rfl))<|Ag rfl rfl<|Ar<|WL.mv rfl rfl ?_
      obtain ⟨b3,hv55,hm⟩:=Bs hm
      refine WL.weakR (res':=[(8,(Bx 2 true 105 (bldA k2 b2 b) b)),(1000008,Dec.Own (tI .u8) 5 k2 b2.length)]) ⟨rfl,rfl,⟨rfl,rfl,trivial⟩⟩<|WL.opR rfl (OpR.call (us:=[8,1000008]) (A:=fun kx:Tok=>Asn.any) C67 (FSpecR.keys (rin':=[(8,(Bx 2 true 105 (bldA k2 b2 b) b)),(1000008,Dec.Own (tI .u8) 5 k2 b2.length)]) (out':=fun kx:Tok=>[(8,(Bx 2 true 105 (bldA kx b3 b) b)),(1000008,Dec.Own (tI .u8) 5 kx b3.length)]) (strings_Builder_WriteString_spec _ _ _ _ _ hv55) rfl (fun _=>rfl)) rfl ⟨(.t rfl),(.t rfl),trivial⟩) fun k3=>WL.nr1<|WL.mv rfl rfl ?_
      obtain ⟨b4,hv56,hm⟩:=Bs hm
      exact WL.weakR (res':=[(8,(Bx 2 true 105 (bldA k3 b3 b) b)),(1000008,Dec.Own (tI .u8) 5 k3 b3.length)]) ⟨rfl,rfl,⟨rfl,rfl,trivial⟩⟩<|WL.opR rfl (OpR.call (us:=[8,1000008]) (A:=fun kx:Tok=>Asn.any) C67 (FSpecR.keys (rin':=[(8,(Bx 2 true 105 (bldA k3 b3 b) b)),(1000008,Dec.Own (tI .u8) 5 k3 b3.length)]) (out':=fun kx:Tok=>[(8,(Bx 2 true 105 (bldA kx b4 b) b)),(1000008,Dec.Own (tI .u8) 5 kx b4.length)]) (strings_Builder_WriteString_spec _ _ _ _ _ hv56) rfl (fun _=>rfl)) rfl ⟨(.t rfl),(.t rfl),trivial⟩) fun k4=>WL.nil<|WN.block<|Aq<|W.region<|Ao rfl (.addI (.t rfl) .i64 (range_inR hi47 hp52 hlen48))<|Am rfl rfl<|WL.nil<|WN.again es1.length (i1+1,pre1++ [e1],es1,(b4,k4)) (range_lt hn49) ⟨rfl,range_step hxs46,range_idx hi47,hm⟩ ⟨.q rfl,.q rfl,.q rfl,.q rfl,.q rfl,trivial⟩ ⟨rfl,rfl,⟨rfl,rfl,trivial⟩⟩
     ·have hrest54:=range_end hxs46 hi47 (of_decide_eq_false hc51)
      subst hrest54
      rw [M.strings_Join_loop2.eq_1] at hm
      refine W.exit rfl ?_
      have hr57:=Si hm
      clear hm
      subst hr57
      have hm:=hk45
      try dsimp only at hm
      refine Aq<|Aw<|WL.weakR (res':=[(8,(Bx 2 true 105 (bldA k2 b2 b) b)),(1000008,Dec.Own (tI .u8) 5 k2 b2.length)]) ⟨rfl,rfl,⟨rfl,rfl,trivial⟩⟩<|WL.opR rfl (OpR.call (us:=[8,1000008]) (A:=fun kx:Unit=>tS.is b2) C68 (FSpecR.keys (rin':=[(8,(Bx 2 true 105 (bldA k2 b2 b) b)),(1000008,Dec.Own (tI .u8) 5 k2 b2.length)]) (out':=fun kx:Unit=>[]) (strings_Builder_String_spec _ _ _) rfl (fun _=>rfl)) rfl ⟨(.t rfl),trivial⟩) fun _=>Ag rfl rfl<|WL.ns ?_
      cases hm
      exact W.ret1 () rfl (.t rfl) trivial
   ·have hm:=hs7
    clear hs7
    refine Aw<|Am rfl rfl<|Ao rfl (.lenS U9 (.t rfl))<|Ao rfl (.gtI (.t rfl) .i64)<|An<|W.cD hm (.t rfl) (fun hp10 hm=>?_) (fun hp10 hm=>?_)
    ·obtain ⟨s11,hs12,hk13⟩:=Bs hm
     clear hm
     refine W.join (fun s:Unit=>s=s11) (fun s=>[(0,((tL tS).is elems)),(1,(tS.is sep)),(5,(I6.is (0:Int)))]) (fun s=>[]) ?_ ?_
     ·rintro _ hj21
      try dsimp only at hj21
      subst hj21
      have hm:=hk13
      clear hk13
      try dsimp only at hm
      change W _ _ _ _ _ _ _ [(0,((tL tS).is elems)),(1,(tS.is sep)),(5,(I6.is (0:Int)))] []
      refine W.region<|Am rfl rfl<|Am rfl rfl<|Ao rfl (.lenS U9 (.t rfl))<|Am rfl rfl<|Ao rfl (.lenL U38 (.t rfl)) ?_
      obtain ⟨v3,hv18,hm⟩:=Bs hm
      refine Ao rfl (.subC hv18 (.t rfl) .i64) ?_
      obtain ⟨v4,hv19,hm⟩:=Bs hm
      refine Ao rfl (.mulC hv19 (.t rfl) (.t rfl)) ?_
      obtain ⟨v5,hv20,hm⟩:=Bs hm
      exact Ao rfl (.addC hv20 (.t rfl) (.t rfl))<|Ag rfl rfl<|WL.nil<|WN.meet v5 (Si hm) ⟨.q rfl,.q rfl,.q rfl,trivial⟩ trivial
     ·have hm:=hs12
      clear hs12
      refine Aw<|Am rfl rfl<|Ao rfl (.lenS U9 (.t rfl))<|Am rfl rfl<|Ao rfl (.lenL U38 (.t rfl)) ?_
      obtain ⟨v1,hv14,hm⟩:=Bs hm
      refine Ao rfl (.subC hv14 (.t rfl) .i64) ?_
      obtain ⟨v2,hv15,hm⟩:=Bs hm
      refine Ao rfl (.quoC hv15 .i64 (.t rfl))<|Ao rfl (.geI (.t rfl) (.t rfl))<|An<|W.cD hm (.t rfl) (fun hp17 hm=>?_) (fun hp17 hm=>?_)
      ·cases hm
      ·exact W.skip<|WN.meet () (Si hm) ⟨.q rfl,.q rfl,.q rfl,trivial⟩ trivial
    ·exact W.skip<|WN.meet (0:Int) (Si hm) ⟨.q rfl,.q rfl,.q rfl,trivial⟩ trivial
theorem markup_FormatWords_1_spec(state:Int)(words:List Str)(c:List Str)(b:Nat)(k:Tok)(r:List Str)(hm:M.markup_FormatWords_1 state words c=some r):FSpecR Tryz.prog 45 [(I6.is state),((tL tS).is words),(Bp b 0)] [(2,(Bx 1 false 38 (tO tS k c) b)),(1000002,Dec.Own tS 9 k c.length),(700000,Gl (tA 3 tS) 0 gv0),(700001,Gl (tA 3 tS) 1 gv1)] (fun kx:Tok=>(Asn.eq (.tuple #[]))) (fun kx:Tok=>[(2,(Bx 1 false 38 (tO tS kx r) b)),(1000002,Dec.Own tS 9 kx r.length),(700000,Gl (tA 3 tS) 0 gv0),(700001,Gl (tA 3 tS) 1 gv1)]):=by
 unfold M.markup_FormatWords_1 at hm
 refine FSpecR.of Tryz.func45 rfl rfl rfl fun g0=>W.addG 900000 700000 rfl<|W.addG 900001 700001 rfl ?_
 obtain ⟨v,hv1,hm⟩:=Bs hm
 obtain ⟨join,hv2,hm⟩:=Bs hm
 obtain ⟨v1,hv3,hm⟩:=Bs hm
 obtain ⟨v2,hv4,hm⟩:=Bs hm
 obtain ⟨v3,hv5,hm⟩:=Bs hm
 obtain ⟨out,hv6,hm⟩:=Bs hm
 refine W.weakR (res':=[(1000002,Dec.Own tS 9 k c.length),(2,(Bx 1 false 38 (tO tS k c) b)),(700000,Gl (tA 3 tS) 0 gv0),(700001,Gl (tA 3 tS) 1 gv1)]) ⟨rfl,rfl,⟨rfl,rfl,⟨rfl,rfl,⟨rfl,rfl,trivial⟩⟩⟩⟩<|W.drawM [.c (tO tS k c),.c (I6.is state),.c (tS.ptr v),.c (tS.is v),.c ((tL tS).is words),.c (tS.is join),.c (tS.is v1),.c (I6.is state),.c (tS.ptr v2),.c (tS.is v2),.c (tS.is v3),.c ((tL tS).is [v3]),.f (fun cv=>(tO tS (cv 0) out)),.c Asn.any] [([],[2]),([],[0]),([1],[900000]),([2],[]),([],[1]),([4],[]),([3,5],[]),([],[0]),([7],[900001]),([8],[]),([6,9],[]),([10],[]),([0,11],[]),([12],[2])] [12,13] [[],[],[],[],[],[],[],[],[],[],[],[],[true],[]] (fun m cv=>match m with | 0=>[(1000002,Dec.Own tS 9 k c.length),(2,(Bx 1 false 38 (tO tS k c) b)),(700000,Gl (tA 3 tS) 0 gv0),(700001,Gl (tA 3 tS) 1 gv1)] | 1=>[(1000002,Dec.Own tS 9 (cv 0) out.length),(2,(Bx 1 false 38 (tO tS k c) b)),(700000,Gl (tA 3 tS) 0 gv0),(700001,Gl (tA 3 tS) 1 gv1)] | _=>[(2,(Bx 1 false 38 (tO tS (cv 0) out) b)),(1000002,Dec.Own tS 9 (cv 0) out.length),(700000,Gl (tA 3 tS) 0 gv0),(700001,Gl (tA 3 tS) 1 gv1)]) (fun _=>none) Mx rfl rfl rfl rfl rfl ⟨fun _ _ _ _=>rfl,⟨fun _ _ _ _=>rfl,⟨fun _ _ _ _=>rfl,⟨fun _ _ _ _=>rfl,⟨fun _ _ _ _=>rfl,⟨fun _ _ _ _=>rfl,⟨fun _ _ _ _=>rfl,⟨fun _ _ _ _=>rfl,⟨fun _ _ _ _=>rfl,⟨fun _ _ _ _=>rfl,⟨fun _ _ _ _=>rfl,⟨fun _ _ _ _=>rfl,⟨fun m hm c t=>by simp only [DA.at,upd_dep (r:=[true]) (j:=0) rfl hm],⟨fun _ _ _ _=>rfl,trivial⟩⟩⟩⟩⟩⟩⟩⟩⟩⟩⟩⟩⟩⟩ rfl ⟨.inr ⟨fun cv=>[(2,(Bx 1 false 38 (tO tS k c) b))],(AllUpTo.at ⟨⟨(fun _ _=>⟨rfl,rfl,trivial⟩),(fun hw=>absurd hw (by decide))⟩,(fun hw=>absurd hw (by decide))⟩),fun cv=>Op1.loadB 2 Y38 Z38 rfl (.t rfl)⟩,⟨mo fun cv=>Op1.move (.t rfl),⟨mo fun cv=>Op1.idxA hv1 U83 Z9 (Opd.glob (s:=900000) rfl) (.t rfl),⟨mo fun cv=>Op1.load ty9 (.t rfl),⟨mo fun cv=>Op1.move (.t rfl),⟨mo fun cv=>Op1.call C33 (strings_Join_spec _ _ _ hv2) ⟨(.t rfl),(.str rfl (by decide)),trivial⟩,⟨mo fun cv=>Op1.catC hv3 (.t rfl) (.t rfl),⟨mo fun cv=>Op1.move (.t rfl),⟨mo fun cv=>Op1.idxA hv4 U83 Z9 (Opd.glob (s:=900001) rfl) (.t rfl),⟨mo fun cv=>Op1.load ty9 (.t rfl),⟨mo fun cv=>Op1.catC hv5 (.t rfl) (.t rfl),⟨mo fun cv=>Op1.buildSlice (n:=1) (ys:=[(0,v3)]) (z:=([]:Str)) (xs:=[v3]) U38 el9 ze9 ⟨rfl,(.t rfl),trivial⟩ (by simp) (by decide) rfl,⟨.inl rfl,⟨.inl rfl,trivial⟩⟩⟩⟩⟩⟩⟩⟩⟩⟩⟩⟩⟩⟩ ⟨⟨_,_,_,[1000002],(fun cv=>[(1000002,Dec.Own tS 9 (cv 0) out.length)]),rfl,rfl,rfl,rfl,fun _=>rfl,fun _ _=>rfl,fun cv=>OpR.appC (key:=1000002) hv6 U38 el9 (.t rfl) (.t rfl) rfl⟩,⟨⟨_,_,_,[2],(fun cv=>[(2,(Bx 1 false 38 (tO tS (cv 0) out) b))]),rfl,rfl,rfl,rfl,fun _=>rfl,fun _ _=>rfl,fun cv=>OpR.viaU (OpR.storeB (b:=b) 2 Z38 (Cellable.o tS (cv 0) out) rfl (.t rfl) (.t rfl))⟩,trivial⟩⟩ (fun cv=>?_)
 have hr:=Si hm
 clear hm
 subst hr
 exact WN.fin (cv 0) rfl (fun _=>rfl) ⟨rfl,rfl,⟨rfl,rfl,⟨rfl,rfl,⟨rfl,rfl,trivial⟩⟩⟩⟩
theorem markup_runs_i0_spec(n:Nat)(l:List api_TrackedWord)(c:List Str)(b:Nat)(k:Tok)(r:List Str)(hm:M.markup_runs_i0 n l c=some r):FSpecR Tryz.prog 44 [((tL tapi_TrackedWord).is l),(cloA 45 [(Bp b 0)])] [(500100,(Bx 1 false 38 (tO tS k c) b)),(1500100,Dec.Own tS 9 k c.length),(700000,Gl (tA 3 tS) 0 gv0),(700001,Gl (tA 3 tS) 1 gv1),(700003,GlE 3)] (fun kx:Tok=>(Asn.eq (.tuple #[]))) (fun kx:Tok=>[(500100,(Bx 1 false 38 (tO tS kx r) b)),(1500100,Dec.Own tS 9 kx r.length),(700000,Gl (tA 3 tS) 0 gv0),(700001,Gl (tA 3 tS) 1 gv1),(700003,GlE 3)]):=by
 unfold M.markup_runs_i0 at hm
 refine FSpecR.of Tryz.func44 rfl rfl rfl fun g0=>Aw<|Ao rfl (.assign .i64)<|An<|W.block ?_
 obtain ⟨s1,hs2,hk3⟩:=Bs hm
 clear hm
 refine W.loop (fun m (s:(Int×(List Str))×Tok)=>M.markup_runs_i0_loop1 l m s.1.1 s.1.2=some s1) (fun s=>[(4,(I6.is s.1.1)),(0,((tL tapi_TrackedWord).is l)),(1,(cloA 45 [(Bp b 0)]))]) (fun s=>[(1500100,Dec.Own tS 9 s.2 s.1.2.length),(500100,(Bx 1 false 38 (tO tS s.2 s.1.2) b)),(700000,Gl (tA 3 tS) 0 gv0),(700001,Gl (tA 3 tS) 1 gv1),(700003,GlE 3)]) _ (((0:Int),c),k) hs2 ⟨.q rfl,.q rfl,.q rfl,trivial⟩ ⟨rfl,rfl,⟨rfl,rfl,⟨rfl,rfl,⟨rfl,rfl,⟨rfl,rfl,trivial⟩⟩⟩⟩⟩ ?_
 rintro n4 ⟨⟨from0_,v⟩,k1⟩ hm
 try dsimp only at hm
 change W _ _ _ _ _ _ _ [(4,(I6.is from0_)),(0,((tL tapi_TrackedWord).is l)),(1,(cloA 45 [(Bp b 0)]))] [(1500100,Dec.Own tS 9 k1 v.length),(500100,(Bx 1 false 38 (tO tS k1 v) b)),(700000,Gl (tA 3 tS) 0 gv0),(700001,Gl (tA 3 tS) 1 gv1),(700003,GlE 3)]
 cases n4 with
 | zero=>rw [M.markup_runs_i0_loop1.eq_1] at hm;cases hm
 | succ n4=>
  rw [M.markup_runs_i0_loop1.eq_2] at hm
  refine W.seq<|Aw<|Am rfl rfl<|Am rfl rfl<|Ao rfl (.lenL U30 (.t rfl))<|Ao rfl (.ltI (.t rfl) (.t rfl))<|An<|W.cD hm (.t rfl) (fun hp6 hm=>?_) (fun hp6 hm=>?_)
  ·refine W.skip<|Aq<|W.block<|Aw<|Am rfl rfl<|Ag rfl rfl<|Ar<|WL.addNil (t:=tS) (E:=9) 6<|Ao rfl (.assign (Opd.nilO (t:=tS)))<|An<|W.seq<|W.block ?_
   obtain ⟨s7,hs8,hk9⟩:=Bs hm
   clear hm
   refine W.loop (fun m (s:(Int×(List Str))×Tok)=>M.markup_runs_i0_loop2 l from0_ m s.1.1 s.1.2=some s7) (fun s=>[(5,(I6.is s.1.1)),(6,(tO tS s.2 s.1.2)),(0,((tL tapi_TrackedWord).is l)),(1,(cloA 45 [(Bp b 0)])),(4,(I6.is from0_))]) (fun s=>[(6,Dec.Own tS 9 s.2 s.1.2.length),(1500100,Dec.Own tS 9 k1 v.length),(500100,(Bx 1 false 38 (tO tS k1 v) b)),(700000,Gl (tA 3 tS) 0 gv0),(700001,Gl (tA 3 tS) 1 gv1),(700003,GlE 3)]) _ ((from0_,([]:List Str)),(none:Tok)) hs8 ⟨.q rfl,.q rfl,.q rfl,.q rfl,.q rfl,trivial⟩ ⟨rfl,rfl,⟨rfl,rfl,⟨rfl,rfl,⟨rfl,rfl,⟨rfl,rfl,⟨rfl,rfl,trivial⟩⟩⟩⟩⟩⟩ ?_
   rintro n10 ⟨⟨to0_,words⟩,k2⟩ hm
   try dsimp only at hm
   change W _ _ _ _ _ _ _ [(5,(I6.is to0_)),(6,(tO tS k2 words)),(0,((tL tapi_TrackedWord).is l)),(1,(cloA 45 [(Bp b 0)])),(4,(I6.is from0_))] [(6,Dec.Own tS 9 k2 words.length),(1500100,Dec.Own tS 9 k1 v.length),(500100,(Bx 1 false 38 (tO tS k1 v) b)),(700000,Gl (tA 3 tS) 0 gv0),(700001,Gl (tA 3 tS) 1 gv1),(700003,GlE 3)]
   cases n10 with
   | zero=>rw [M.markup_runs_i0_loop2.eq_1] at hm;cases hm
   | succ n10=>
    rw [M.markup_runs_i0_loop2.eq_2] at hm
    refine W.seq<|W.seq ?_
    rcases iteD hm with ⟨hp12,hb11,hm⟩ | ⟨hp12,hb11,hm⟩
    ·obtain ⟨v1,hv13,hm⟩:=Bs hm
     obtain ⟨v2,hv14,hm⟩:=Bs hm
     refine W.draw [.c _,.c _,.c _,.c _,.c _,.c _,.c _,.c _,.c _,.c _,.c _,.c _,.c _,.c _,.c _,.c _,.c _] [([],[5]),([],[0]),([1],[]),([0,2],[]),([3],[]),([4],[0]),([4],[5]),([4,5,6],[]),([4,7],[]),([4,8],[]),([4],[0]),([4],[4]),([4,10,11],[]),([4,12],[]),([4,13],[]),([4,9,14],[]),([4,15],[])] Mx rfl rfl rfl rfl ⟨Dn (.move (.t rfl)),Dn (.move (.t rfl)),Dn (.lenL U30 (.t rfl)),Dn (.ltI (.t rfl) (.t rfl)),Dn (.move (.t rfl)),Dr rfl hb11 (.move (.t rfl)),Dr rfl hb11 (.move (.t rfl)),Dr rfl hb11 (.idx hv13 U30 Z53 (.t rfl) (.t rfl)),Dr rfl hb11 (.fieldAddr U53 rfl J3 fapi_TrackedWord_0 (.t rfl)),Dr rfl hb11 (.load ty3 (.t rfl)),Dr rfl hb11 (.move (.t rfl)),Dr rfl hb11 (.move (.t rfl)),Dr rfl hb11 (.idx hv14 U30 Z53 (.t rfl) (.t rfl)),Dr rfl hb11 (.fieldAddr U53 rfl J3 fapi_TrackedWord_0 (.t rfl)),Dr rfl hb11 (.load ty3 (.t rfl)),Dr rfl hb11 (.eqI (.t rfl) (.t rfl)),Dn (.pickT (.t rfl) hb11 (.t rfl)),trivial⟩<|Aq<|W.cD hm (.t rfl) (fun hp16 hm=>?_) (fun hp16 hm=>?_)
     ·refine W.skip<|Aq<|W.block<|Aw<|Am rfl rfl<|Am rfl rfl<|WL.mv rfl rfl ?_
      obtain ⟨v3,hv17,hm⟩:=Bs hm
      refine Ao rfl (.idx hv17 U30 Z53 (.t rfl) (.t rfl))<|Ao rfl (.fieldAddr U53 rfl J9 fapi_TrackedWord_1 (.t rfl))<|Ao rfl (.load ty9 (.t rfl)) ?_
      obtain ⟨escape,hv18,hm⟩:=Bs hm
      refine Ao rfl (.callG (rin:=[(700003,GlE 3)]) C78 (markup_escape_spec _ _ hv18) ⟨rfl,trivial⟩ ⟨rfl,rfl,trivial⟩ ⟨(.t rfl),trivial⟩)<|Ao rfl (.buildSlice (n:=1) (ys:=[(0,escape)]) (z:=([]:Str)) (xs:=[escape]) U38 el9 ze9 ⟨rfl,(.t rfl),trivial⟩ (by simp) (by decide) rfl) ?_
      obtain ⟨words1,hv19,hm⟩:=Bs hm
      exact WL.opR rfl (OpR.appC (key:=6) hv19 U38 el9 (.t rfl) (.t rfl) rfl) fun k3=>Ag rfl rfl<|WL.nr1<|Am rfl rfl<|WL.lenL (s:=0) (.t rfl) fun hl20=>Ao rfl (.addI1 (.t rfl) .i64 hp12 hl20)<|Ag rfl rfl<|WL.nil<|WN.block<|WN.again n10 ((to0_+1,words1),k3) (Nat.lt_succ_self n10) hm ⟨.q rfl,.q rfl,.q rfl,.q rfl,.q rfl,trivial⟩ ⟨rfl,rfl,⟨rfl,rfl,⟨rfl,rfl,⟨rfl,rfl,⟨rfl,rfl,⟨rfl,rfl,trivial⟩⟩⟩⟩⟩⟩
     ·refine W.exit rfl ?_
      have hr21:=Si hm
      clear hm
      subst hr21
      have hm:=hk9
      try dsimp only at hm
      refine Aq<|Aw<|Am rfl rfl<|Am rfl rfl<|WL.mv rfl rfl ?_
      obtain ⟨v4,hv22,hm⟩:=Bs hm
      refine Ao rfl (.idx hv22 U30 Z53 (.t rfl) (.t rfl))<|Ao rfl (.fieldAddr U53 rfl J3 fapi_TrackedWord_0 (.t rfl))<|Ao rfl (.load ty3 (.t rfl))<|WL.mv rfl rfl ?_
      obtain ⟨w,hv23,hm⟩:=Bs hm
      exact WL.weakR (res':=[(500100,(Bx 1 false 38 (tO tS k1 v) b)),(1500100,Dec.Own tS 9 k1 v.length),(700000,Gl (tA 3 tS) 0 gv0),(700001,Gl (tA 3 tS) 1 gv1),(6,Dec.Own tS 9 k2 words.length),(700003,GlE 3)]) ⟨rfl,rfl,⟨rfl,rfl,⟨rfl,rfl,⟨rfl,rfl,⟨rfl,rfl,⟨rfl,rfl,trivial⟩⟩⟩⟩⟩⟩<|WL.opR rfl (OpR.callClo (us:=[500100,1500100,700000,700001]) (A:=fun kx:Tok=>(Asn.eq (.tuple #[]))) (As:=[I6.is v4.State,(tL tS).is words]) C45 (.t rfl) (FSpecR.keys (rin':=[(500100,(Bx 1 false 38 (tO tS k1 v) b)),(1500100,Dec.Own tS 9 k1 v.length),(700000,Gl (tA 3 tS) 0 gv0),(700001,Gl (tA 3 tS) 1 gv1)]) (out':=fun kx:Tok=>[(500100,(Bx 1 false 38 (tO tS kx w) b)),(1500100,Dec.Own tS 9 kx w.length),(700000,Gl (tA 3 tS) 0 gv0),(700001,Gl (tA 3 tS) 1 gv1)]) (markup_FormatWords_1_spec _ _ _ _ _ _ hv23) rfl (fun _=>rfl)) rfl ⟨(.t rfl),(Opd.own (.t rfl)),trivial⟩) fun k4=>WL.nr1<|Am rfl rfl<|Ag rfl rfl<|WL.nil<|WN.block<|WN.again n4 ((to0_,w),k4) (Nat.lt_succ_self n4) hm ⟨.q rfl,.q rfl,.q rfl,trivial⟩ ⟨rfl,rfl,⟨rfl,rfl,⟨rfl,rfl,⟨rfl,rfl,⟨rfl,rfl,trivial⟩⟩⟩⟩⟩
    ·refine W.draw [.c _,.c _,.c _,.c _,.c _,.c _,.c _,.c _,.c _,.c _,.c _,.c _,.c _,.c _,.c _,.c _,.c _] [([],[5]),([],[0]),([1],[]),([0,2],[]),([3],[]),([4],[0]),([4],[5]),([4,5,6],[]),([4,7],[]),([4,8],[]),([4],[0]),([4],[4]),([4,10,11],[]),([4,12],[]),([4,13],[]),([4,9,14],[]),([4,15],[])] Mx rfl rfl rfl rfl ⟨Dn (.move (.t rfl)),Dn (.move (.t rfl)),Dn (.lenL U30 (.t rfl)),Dn (.ltI (.t rfl) (.t rfl)),Dn (.move (.t rfl)),Dp rfl hb11,Dp rfl hb11,Dp rfl hb11,Dp rfl hb11,Dp rfl hb11,Dp rfl hb11,Dp rfl hb11,Dp rfl hb11,Dp rfl hb11,Dp rfl hb11,Dp rfl hb11,Dn (.pickF (.t rfl) hb11 .bool),trivial⟩<|Aq<|W.condF (.t rfl)<|W.exit rfl ?_
     have hr24:=Si hm
     clear hm
     subst hr24
     have hm:=hk9
     try dsimp only at hm
     refine Aq<|Aw<|Am rfl rfl<|Am rfl rfl<|WL.mv rfl rfl ?_
     obtain ⟨v5,hv25,hm⟩:=Bs hm
     refine Ao rfl (.idx hv25 U30 Z53 (.t rfl) (.t rfl))<|Ao rfl (.fieldAddr U53 rfl J3 fapi_TrackedWord_0 (.t rfl))<|Ao rfl (.load ty3 (.t rfl))<|WL.mv rfl rfl ?_
     obtain ⟨w1,hv26,hm⟩:=Bs hm
     exact WL.weakR (res':=[(500100,(Bx 1 false 38 (tO tS k1 v) b)),(1500100,Dec.Own tS 9 k1 v.length),(700000,Gl (tA 3 tS) 0 gv0),(700001,Gl (tA 3 tS) 1 gv1),(6,Dec.Own tS 9 k2 words.length),(700003,GlE 3)]) ⟨rfl,rfl,⟨rfl,rfl,⟨rfl,rfl,⟨rfl,rfl,⟨rfl,rfl,⟨rfl,rfl,trivial⟩⟩⟩⟩⟩⟩<|WL.opR rfl (OpR.callClo (us:=[500100,1500100,700000,700001]) (A:=fun kx:Tok=>(Asn.eq (.tuple #[]))) (As:=[I6.is v5.State,(tL tS).is words]) C45 (.t rfl) (FSpecR.keys (rin':=[(500100,(Bx 1 false 38 (tO tS k1 v) b)),(1500100,Dec.Own tS 9 k1 v.length),(700000,Gl (tA 3 tS) 0 gv0),(700001,Gl (tA 3 tS) 1 gv1)]) (out':=fun kx:Tok=>[(500100,(Bx 1 false 38 (tO tS kx w1) b)),(1500100,Dec.Own tS 9 kx w1.length),(700000,Gl (tA 3 tS) 0 gv0),(700001,Gl (tA 3 tS) 1 gv1)]) (markup_FormatWords_1_spec _ _ _ _ _ _ hv26) rfl (fun _=>rfl)) rfl ⟨(.t rfl),(Opd.own (.t rfl)),trivial⟩) fun k5=>WL.nr1<|Am rfl rfl<|Ag rfl rfl<|WL.nil<|WN.block<|WN.again n4 ((to0_,w1),k5) (Nat.lt_succ_self n4) hm ⟨.q rfl,.q rfl,.q rfl,trivial⟩ ⟨rfl,rfl,⟨rfl,rfl,⟨rfl,rfl,⟨rfl,rfl,⟨rfl,rfl,trivial⟩⟩⟩⟩⟩
  ·refine W.exit rfl ?_
   have hr27:=Si hm
   clear hm
   subst hr27
   have hm:=hk3
   try dsimp only at hm
   have hr:=Si hm
   clear hm
   subst hr
   exact WN.fin k1 rfl (fun _=>rfl) ⟨rfl,rfl,⟨rfl,rfl,⟨rfl,rfl,⟨rfl,rfl,⟨rfl,rfl,trivial⟩⟩⟩⟩⟩
theorem markup_FormatWords_spec(n:Nat)(l:List api_TrackedWord)(r:Str)(hm:M.markup_FormatWords n l=some r):FSpecR Tryz.prog 23 [((tL tapi_TrackedWord).is l)] [(700000,Gl (tA 3 tS) 0 gv0),(700001,Gl (tA 3 tS) 1 gv1),(700003,GlE 3)] (fun _:Unit=>(tS.is r)) (fun _=>[]):=by
 unfold M.markup_FormatWords at hm
 refine FSpecR.of Tryz.func23 rfl rfl rfl fun g0=>Aw<|Ao rfl (.assign (.str rfl (by decide)))<|An<|W.seq<|Aw<|WL.mv rfl rfl ?_
 obtain ⟨validr,hv1,hm⟩:=Bs hm
 refine Ao rfl (.call C43 (markup_validRow_spec _ _ _ hv1) ⟨(.t rfl),trivial⟩)<|Ao rfl (.notB (.t rfl))<|An<|W.cR hm (.t rfl) (fun hp3 hm=>?_) (fun hp3 hm=>?_)
 ·refine Aw<|Ao rfl (.assign (.str rfl (by decide)))<|WL.ns ?_
  cases hm
  exact W.ret1 () rfl (.t rfl) trivial
 ·refine W.skip<|Aq<|Aw<|WL.addNil (t:=tS) (E:=9) 1000003<|WL.opR rfl (OpR.allocO (t:=tS) 3 Tryz.zeroValue38) fun b=>Ar<|Am rfl rfl<|Ao rfl (.makeClo (Cs:=[(Bp b 0)]) (cap:=[.tmp 3]) ⟨(.t rfl),trivial⟩) ?_
  obtain ⟨out,hv4,hm⟩:=Bs hm
  refine WL.weakR (res':=[(3,(Bx 1 false 38 (tO tS (none:Tok) ([]:List Str)) b)),(1000003,Dec.Own tS 9 (none:Tok) ([]:List Str).length),(700000,Gl (tA 3 tS) 0 gv0),(700001,Gl (tA 3 tS) 1 gv1),(700003,GlE 3)]) ⟨rfl,rfl,⟨rfl,rfl,⟨rfl,rfl,⟨rfl,rfl,⟨rfl,rfl,trivial⟩⟩⟩⟩⟩<|WL.opR rfl (OpR.call (us:=[3,1000003,700000,700001,700003]) (A:=fun kx:Tok=>(Asn.eq (.tuple #[]))) C44 (FSpecR.keys (rin':=[(3,(Bx 1 false 38 (tO tS (none:Tok) ([]:List Str)) b)),(1000003,Dec.Own tS 9 (none:Tok) ([]:List Str).length),(700000,Gl (tA 3 tS) 0 gv0),(700001,Gl (tA 3 tS) 1 gv1),(700003,GlE 3)]) (out':=fun kx:Tok=>[(3,(Bx 1 false 38 (tO tS kx out) b)),(1000003,Dec.Own tS 9 kx out.length),(700000,Gl (tA 3 tS) 0 gv0),(700001,Gl (tA 3 tS) 1 gv1),(700003,GlE 3)]) (markup_runs_i0_spec _ _ _ _ _ _ hv4) rfl (fun _=>rfl)) rfl ⟨(.t rfl),(.t rfl),trivial⟩) fun k=>Ar<|Ao rfl (.loadB 3 Y38 Z38 rfl (.t rfl)) ?_
  obtain ⟨join,hv5,hm⟩:=Bs hm
  refine Ao rfl (.call C33 (strings_Join_spec _ _ _ hv5) ⟨(Opd.own (.t rfl)),(.str rfl (by decide)),trivial⟩)<|Ag rfl rfl<|WL.ns ?_
  cases hm
  exact W.ret1 () rfl (.t rfl) trivial
theorem markup_line_spec(n:Nat)(t:api_TrackedUnit)(depth:Int)(r:Str)(hm:M.markup_line n t depth=some r):FSpecR Tryz.prog 31 [(tapi_TrackedUnit.is t),(I6.is depth)] [(700000,Gl (tA 3 tS) 0 gv0),(700001,Gl (tA 3 tS) 1 gv1),(700002,Gl (tA 8 tS) 2 gv2),(700003,GlE 3),(700007,GlT Tryz.prog "internal/strconv.uint64pow10" .u64 Lib.pow10Tab)] (fun _:Unit=>(tS.is r)) (fun _=>[]):=by
 unfold M.markup_line at hm
 refine FSpecR.of Tryz.func31 rfl rfl rfl fun g0=>Aw<|Ao rfl (.box (.t rfl))<|Ao rfl (.assign (.str rfl (by decide)))<|An<|W.seq ?_
 obtain ⟨repeat0_,hv1,hm⟩:=Bs hm
 obtain ⟨sign,hv2,hm⟩:=Bs hm
 obtain ⟨v,hv3,hm⟩:=Bs hm
 obtain ⟨v1,hv4,hm⟩:=Bs hm
 refine W.draw [.c _,.c _,.c _,.c _,.c _,.c _,.c _] [([],[1]),([0],[]),([],[2]),([2],[]),([1,3],[]),([4],[]),([5],[])] Mx rfl rfl rfl rfl ⟨Dn (.move (.t rfl)),Dn (.call C62 (strings_Repeat_spec _ _ _ hv1) ⟨(.str rfl (by decide)),(.t rfl),trivial⟩),Dn (.load ty33 (.t rfl)),Dn (.call C63 (markup_sign_spec _ _ hv2) ⟨(.t rfl),trivial⟩),Dn (.catC hv3 (.t rfl) (.t rfl)),Dn (.catC hv4 (.t rfl) (.str rfl (by decide))),Dn (.assign (.t rfl)),trivial⟩<|Aq<|W.seq<|Aw<|Ao rfl (.load ty33 (.t rfl)) ?_
 obtain ⟨sign1,hv5,hm⟩:=Bs hm
 refine Ao rfl (.call C63 (markup_sign_spec _ _ hv5) ⟨(.t rfl),trivial⟩)<|Ao rfl (.eqS (.t rfl) (.str rfl (by decide)))<|An<|W.cB hm (.t rfl) (fun hp7 hm=>?_) (fun hp7 hm=>?_)
 ·refine Aw<|Am rfl rfl<|Ao rfl (.fieldAddr U33 rfl J23 fapi_TrackedUnit_2 (.t rfl))<|Ao rfl (.load ty23 (.t rfl)) ?_
  obtain ⟨format,hv8,hm⟩:=Bs hm
  refine Ao rfl (.callG (rin:=[(700007,GlT Tryz.prog "internal/strconv.uint64pow10" .u64 Lib.pow10Tab)]) C64 (markup_formatID_spec _ _ hv8) ⟨rfl,trivial⟩ ⟨rfl,rfl,trivial⟩ ⟨(.t rfl),trivial⟩) ?_
  obtain ⟨v2,hv9,hm⟩:=Bs hm
  refine Ao rfl (.catC hv9 (.t rfl) (.t rfl))<|Ag rfl rfl<|WL.ns ?_
  cases hm
  exact W.ret1 () rfl (.t rfl) trivial
 ·refine W.skip<|Aq<|Aw<|Am rfl rfl<|Ao rfl (.fieldAddr U33 rfl J3 fapi_TrackedUnit_1 (.t rfl))<|Ao rfl (.load ty3 (.t rfl)) ?_
  obtain ⟨kindna,hv10,hm⟩:=Bs hm
  refine Ao rfl (.callG (rin:=[(700002,Gl (tA 8 tS) 2 gv2)]) C65 (unit_KindName_spec _ _ hv10) ⟨rfl,trivial⟩ ⟨rfl,rfl,trivial⟩ ⟨(.t rfl),trivial⟩) ?_
  obtain ⟨v3,hv11,hm⟩:=Bs hm
  refine Ao rfl (.catC hv11 (.t rfl) (.t rfl))<|Ag rfl rfl<|WL.ns ?_
  obtain ⟨s12,hs13,hk14⟩:=Bs hm
  clear hm
  refine W.join (fun s:Str=>s=s12) (fun s=>[(5,(tS.is s)),(2,(tapi_TrackedUnit.ptr t))]) (fun s=>[(700000,Gl (tA 3 tS) 0 gv0),(700001,Gl (tA 3 tS) 1 gv1),(700002,Gl (tA 8 tS) 2 gv2),(700003,GlE 3),(700007,GlT Tryz.prog "internal/strconv.uint64pow10" .u64 Lib.pow10Tab)]) ?_ ?_
  ·rintro s0_ hj44
   try dsimp only at hj44
   subst hj44
   have hm:=hk14
   clear hk14
   try dsimp only at hm
   change W _ _ _ _ _ _ _ [(5,(tS.is s0_)),(2,(tapi_TrackedUnit.ptr t))] [(700000,Gl (tA 3 tS) 0 gv0),(700001,Gl (tA 3 tS) 1 gv1),(700002,Gl (tA 8 tS) 2 gv2),(700003,GlE 3),(700007,GlT Tryz.prog "internal/strconv.uint64pow10" .u64 Lib.pow10Tab)]
   obtain ⟨s19,hs20,hk21⟩:=Bs hm
   clear hm
   refine W.join (fun s:Str=>s=s19) (fun s=>[(5,(tS.is s)),(2,(tapi_TrackedUnit.ptr t))]) (fun s=>[(700000,Gl (tA 3 tS) 0 gv0),(700001,Gl (tA 3 tS) 1 gv1),(700002,Gl (tA 8 tS) 2 gv2),(700003,GlE 3),(700007,GlT Tryz.prog "internal/strconv.uint64pow10" .u64 Lib.pow10Tab)]) ?_ ?_
   ·rintro s0_1 hj43
    try dsimp only at hj43
    subst hj43
    have hm:=hk21
    clear hk21
    try dsimp only at hm
    change W _ _ _ _ _ _ _ [(5,(tS.is s0_1)),(2,(tapi_TrackedUnit.ptr t))] [(700000,Gl (tA 3 tS) 0 gv0),(700001,Gl (tA 3 tS) 1 gv1),(700002,Gl (tA 8 tS) 2 gv2),(700003,GlE 3),(700007,GlT Tryz.prog "internal/strconv.uint64pow10" .u64 Lib.pow10Tab)]
    refine Aw<|Am rfl rfl<|Ao rfl (.fieldAddr U33 rfl J23 fapi_TrackedUnit_2 (.t rfl))<|Ao rfl (.load ty23 (.t rfl)) ?_
    obtain ⟨format1,hv26,hm⟩:=Bs hm
    refine Ao rfl (.callG (rin:=[(700007,GlT Tryz.prog "internal/strconv.uint64pow10" .u64 Lib.pow10Tab)]) C64 (markup_formatID_spec _ _ hv26) ⟨rfl,trivial⟩ ⟨rfl,rfl,trivial⟩ ⟨(.t rfl),trivial⟩) ?_
    obtain ⟨v8,hv27,hm⟩:=Bs hm
    refine Ao rfl (.catC hv27 (.str rfl (by decide)) (.t rfl)) ?_
    obtain ⟨v9,hv28,hm⟩:=Bs hm
    refine Ao rfl (.catC hv28 (.t rfl) (.t rfl))<|Ag rfl rfl<|WL.ns ?_
    obtain ⟨s29,hs30,hk31⟩:=Bs hm
    clear hm
    refine W.join (fun s:Str=>s=s29) (fun s=>[(5,(tS.is s)),(2,(tapi_TrackedUnit.ptr t))]) (fun s=>[(700000,Gl (tA 3 tS) 0 gv0),(700001,Gl (tA 3 tS) 1 gv1),(700002,Gl (tA 8 tS) 2 gv2),(700003,GlE 3),(700007,GlT Tryz.prog "internal/strconv.uint64pow10" .u64 Lib.pow10Tab)]) ?_ ?_
    ·rintro s0_2 hj42
     try dsimp only at hj42
     subst hj42
     have hm:=hk31
     clear hk31
     try dsimp only at hm
     change W _ _ _ _ _ _ _ [(5,(tS.is s0_2)),(2,(tapi_TrackedUnit.ptr t))] [(700000,Gl (tA 3 tS) 0 gv0),(700001,Gl (tA 3 tS) 1 gv1),(700002,Gl (tA 8 tS) 2 gv2),(700003,GlE 3),(700007,GlT Tryz.prog "internal/strconv.uint64pow10" .u64 Lib.pow10Tab)]
     refine W.seq<|Aw<|Ao rfl (.fieldAddr U33 rfl J30 fapi_TrackedUnit_7 (.t rfl))<|Ao rfl (.load ty30 (.t rfl))<|Ao rfl (.lenL U30 (.t rfl))<|Ao rfl (.gtI (.t rfl) .i64)<|An<|W.cD hm (.t rfl) (fun hp38 hm=>?_) (fun hp38 hm=>?_)
     ·refine W.region<|Am rfl rfl<|Ao rfl (.fieldAddr U33 rfl J30 fapi_TrackedUnit_7 (.t rfl))<|Ao rfl (.load ty30 (.t rfl)) ?_
      obtain ⟨format3,hv39,hm⟩:=Bs hm
      refine Ao rfl (.callG (rin:=[(700000,Gl (tA 3 tS) 0 gv0),(700001,Gl (tA 3 tS) 1 gv1),(700003,GlE 3)]) C23 (markup_FormatWords_spec _ _ _ hv39) ⟨rfl,rfl,rfl,trivial⟩ ⟨rfl,rfl,⟨rfl,rfl,⟨rfl,rfl,trivial⟩⟩⟩ ⟨(.t rfl),trivial⟩) ?_
      obtain ⟨v12,hv40,hm⟩:=Bs hm
      refine Ao rfl (.catC hv40 (.str rfl (by decide)) (.t rfl)) ?_
      obtain ⟨v13,hv41,hm⟩:=Bs hm
      refine Ao rfl (.catC hv41 (.t rfl) (.t rfl))<|Ag rfl rfl<|Ar<|Am rfl rfl<|Ag rfl rfl<|WL.ns ?_
      cases hm
      exact W.ret1 () rfl (.t rfl) trivial
     ·refine W.skip<|Aq<|Aw<|Am rfl rfl<|Ag rfl rfl<|WL.ns ?_
      cases hm
      exact W.ret1 () rfl (.t rfl) trivial
    ·have hm:=hs30
     clear hs30
     refine Aw<|Ao rfl (.fieldAddr U33 rfl J30 fapi_TrackedUnit_6 (.t rfl))<|Ao rfl (.load ty30 (.t rfl))<|Ao rfl (.lenL U30 (.t rfl))<|Ao rfl (.gtI (.t rfl) .i64)<|An<|W.cD hm (.t rfl) (fun hp33 hm=>?_) (fun hp33 hm=>?_)
     ·refine W.region<|Am rfl rfl<|Ao rfl (.fieldAddr U33 rfl J30 fapi_TrackedUnit_6 (.t rfl))<|Ao rfl (.load ty30 (.t rfl)) ?_
      obtain ⟨format2,hv34,hm⟩:=Bs hm
      refine Ao rfl (.callG (rin:=[(700000,Gl (tA 3 tS) 0 gv0),(700001,Gl (tA 3 tS) 1 gv1),(700003,GlE 3)]) C23 (markup_FormatWords_spec _ _ _ hv34) ⟨rfl,rfl,rfl,trivial⟩ ⟨rfl,rfl,⟨rfl,rfl,⟨rfl,rfl,trivial⟩⟩⟩ ⟨(.t rfl),trivial⟩) ?_
      obtain ⟨v10,hv35,hm⟩:=Bs hm
      refine Ao rfl (.catC hv35 (.str rfl (by decide)) (.t rfl)) ?_
      obtain ⟨v11,hv36,hm⟩:=Bs hm
      exact Ao rfl (.catC hv36 (.t rfl) (.t rfl))<|Ag rfl rfl<|WL.nil<|WN.meet v11 (Si hm) ⟨.q rfl,.q rfl,trivial⟩ ⟨rfl,rfl,⟨rfl,rfl,⟨rfl,rfl,⟨rfl,rfl,⟨rfl,rfl,trivial⟩⟩⟩⟩⟩
     ·exact W.skip<|WN.meet v9 (Si hm) ⟨.q rfl,.q rfl,trivial⟩ ⟨rfl,rfl,⟨rfl,rfl,⟨rfl,rfl,⟨rfl,rfl,⟨rfl,rfl,trivial⟩⟩⟩⟩⟩
   ·have hm:=hs20
    clear hs20
    refine Aw<|Ao rfl (.fieldAddr U33 rfl J9 fapi_TrackedUnit_4 (.t rfl))<|Ao rfl (.load ty9 (.t rfl))<|Ao rfl (.neS (.t rfl) (.str rfl (by decide)))<|An<|W.cB hm (.t rfl) (fun hp23 hm=>?_) (fun hp23 hm=>?_)
    ·refine W.region<|Am rfl rfl<|Ao rfl (.fieldAddr U33 rfl J9 fapi_TrackedUnit_4 (.t rfl))<|Ao rfl (.load ty9 (.t rfl)) ?_
     obtain ⟨v6,hv24,hm⟩:=Bs hm
     refine Ao rfl (.catC hv24 (.str rfl (by decide)) (.t rfl)) ?_
     obtain ⟨v7,hv25,hm⟩:=Bs hm
     exact Ao rfl (.catC hv25 (.t rfl) (.t rfl))<|Ag rfl rfl<|WL.nil<|WN.meet v7 (Si hm) ⟨.q rfl,.q rfl,trivial⟩ ⟨rfl,rfl,⟨rfl,rfl,⟨rfl,rfl,⟨rfl,rfl,⟨rfl,rfl,trivial⟩⟩⟩⟩⟩
    ·exact W.skip<|WN.meet s0_ (Si hm) ⟨.q rfl,.q rfl,trivial⟩ ⟨rfl,rfl,⟨rfl,rfl,⟨rfl,rfl,⟨rfl,rfl,⟨rfl,rfl,trivial⟩⟩⟩⟩⟩
  ·have hm:=hs13
   clear hs13
   refine Aw<|Ao rfl (.fieldAddr U33 rfl J9 fapi_TrackedUnit_3 (.t rfl))<|Ao rfl (.load ty9 (.t rfl))<|Ao rfl (.neS (.t rfl) (.str rfl (by decide)))<|An<|W.cB hm (.t rfl) (fun hp16 hm=>?_) (fun hp16 hm=>?_)
   ·refine W.region<|Am rfl rfl<|Ao rfl (.fieldAddr U33 rfl J9 fapi_TrackedUnit_3 (.t rfl))<|Ao rfl (.load ty9 (.t rfl)) ?_
    obtain ⟨v4,hv17,hm⟩:=Bs hm
    refine Ao rfl (.catC hv17 (.str rfl (by decide)) (.t rfl)) ?_
    obtain ⟨v5,hv18,hm⟩:=Bs hm
    exact Ao rfl (.catC hv18 (.t rfl) (.t rfl))<|Ag rfl rfl<|WL.nil<|WN.meet v5 (Si hm) ⟨.q rfl,.q rfl,trivial⟩ ⟨rfl,rfl,⟨rfl,rfl,⟨rfl,rfl,⟨rfl,rfl,⟨rfl,rfl,trivial⟩⟩⟩⟩⟩
   ·exact W.skip<|WN.meet v3 (Si hm) ⟨.q rfl,.q rfl,trivial⟩ ⟨rfl,rfl,⟨rfl,rfl,⟨rfl,rfl,⟨rfl,rfl,⟨rfl,rfl,trivial⟩⟩⟩⟩⟩
theorem markup_Lines_1_spec:∀ (n:Nat) (t:api_TrackedUnit) (depth:Int) (c:List Str) (b:Nat) (k:Tok) (b1:Nat) (r:List Str),M.markup_Lines_1 n t depth c=some r→FSpecR Tryz.prog 30 [(tapi_TrackedUnit.is t),(I6.is depth),(Bp b 0),(Bp b1 0)] [(2,(Bx 1 false 38 (tO tS k c) b)),(1000002,Dec.Own tS 9 k c.length),(3,(Bx 1 false 63 (cloA 30 [(Bp b 0),(Bp b1 0)]) b1)),(700000,Gl (tA 3 tS) 0 gv0),(700001,Gl (tA 3 tS) 1 gv1),(700002,Gl (tA 8 tS) 2 gv2),(700003,GlE 3),(700007,GlT Tryz.prog "internal/strconv.uint64pow10" .u64 Lib.pow10Tab)] (fun kx:Tok=>(Asn.eq (.tuple #[]))) (fun kx:Tok=>[(2,(Bx 1 false 38 (tO tS kx r) b)),(1000002,Dec.Own tS 9 kx r.length),(3,(Bx 1 false 63 (cloA 30 [(Bp b 0),(Bp b1 0)]) b1)),(700000,Gl (tA 3 tS) 0 gv0),(700001,Gl (tA 3 tS) 1 gv1),(700002,Gl (tA 8 tS) 2 gv2),(700003,GlE 3),(700007,GlT Tryz.prog "internal/strconv.uint64pow10" .u64 Lib.pow10Tab)]):=by
 intro n
 induction n with
 | zero=>intro t depth c b k b1 r hm;cases hm
 | succ n ih=>
  intro t depth c b k b1 r hm
  rw [M.markup_Lines_1.eq_2] at hm
  refine FSpecR.of Tryz.func30 rfl rfl rfl fun g0=>Aw<|Ao rfl (.box (.t rfl))<|An<|W.seq ?_
  obtain ⟨line,hv1,hm⟩:=Bs hm
  obtain ⟨out,hv2,hm⟩:=Bs hm
  refine W.weakR (res':=[(1000002,Dec.Own tS 9 k c.length),(2,(Bx 1 false 38 (tO tS k c) b)),(3,(Bx 1 false 63 (cloA 30 [(Bp b 0),(Bp b1 0)]) b1)),(700000,Gl (tA 3 tS) 0 gv0),(700001,Gl (tA 3 tS) 1 gv1),(700002,Gl (tA 8 tS) 2 gv2),(700003,GlE 3),(700007,GlT Tryz.prog "internal/strconv.uint64pow10" .u64 Lib.pow10Tab)]) ⟨rfl,rfl,⟨rfl,rfl,⟨rfl,rfl,⟨rfl,rfl,⟨rfl,rfl,⟨rfl,rfl,⟨rfl,rfl,⟨rfl,rfl,trivial⟩⟩⟩⟩⟩⟩⟩⟩<|W.drawM [.c (tO tS k c),.c (tapi_TrackedUnit.is t),.c (I6.is depth),.c (tS.is line),.c ((tL tS).is [line]),.f (fun cv=>(tO tS (cv 0) out)),.c Asn.any] [([],[2]),([],[4]),([],[1]),([1,2],[]),([3],[]),([0,4],[]),([5],[2])] [5,6] [[],[],[],[],[],[true],[]] (fun m cv=>match m with | 0=>[(1000002,Dec.Own tS 9 k c.length),(2,(Bx 1 false 38 (tO tS k c) b)),(3,(Bx 1 false 63 (cloA 30 [(Bp b 0),(Bp b1 0)]) b1)),(700000,Gl (tA 3 tS) 0 gv0),(700001,Gl (tA 3 tS) 1 gv1),(700002,Gl (tA 8 tS) 2 gv2),(700003,GlE 3),(700007,GlT Tryz.prog "internal/strconv.uint64pow10" .u64 Lib.pow10Tab)] | 1=>[(1000002,Dec.Own tS 9 (cv 0) out.length),(2,(Bx 1 false 38 (tO tS k c) b)),(3,(Bx 1 false 63 (cloA 30 [(Bp b 0),(Bp b1 0)]) b1)),(700000,Gl (tA 3 tS) 0 gv0),(700001,Gl (tA 3 tS) 1 gv1),(700002,Gl (tA 8 tS) 2 gv2),(700003,GlE 3),(700007,GlT Tryz.prog "internal/strconv.uint64pow10" .u64 Lib.pow10Tab)] | _=>[(2,(Bx 1 false 38 (tO tS (cv 0) out) b)),(1000002,Dec.Own tS 9 (cv 0) out.length),(3,(Bx 1 false 63 (cloA 30 [(Bp b 0),(Bp b1 0)]) b1)),(700000,Gl (tA 3 tS) 0 gv0),(700001,Gl (tA 3 tS) 1 gv1),(700002,Gl (tA 8 tS) 2 gv2),(700003,GlE 3),(700007,GlT Tryz.prog "internal/strconv.uint64pow10" .u64 Lib.pow10Tab)]) (fun _=>none) Mx rfl rfl rfl rfl rfl ⟨fun _ _ _ _=>rfl,⟨fun _ _ _ _=>rfl,⟨fun _ _ _ _=>rfl,⟨fun _ _ _ _=>rfl,⟨fun _ _ _ _=>rfl,⟨fun m hm c t=>by simp only [DA.at,upd_dep (r:=[true]) (j:=0) rfl hm],⟨fun _ _ _ _=>rfl,trivial⟩⟩⟩⟩⟩⟩⟩ rfl ⟨.inr ⟨fun cv=>[(2,(Bx 1 false 38 (tO tS k c) b))],(AllUpTo.at ⟨⟨(fun _ _=>⟨rfl,rfl,trivial⟩),(fun hw=>absurd hw (by decide))⟩,(fun hw=>absurd hw (by decide))⟩),fun cv=>Op1.loadB 2 Y38 Z38 rfl (.t rfl)⟩,⟨mo fun cv=>Op1.load ty33 (.t rfl),⟨mo fun cv=>Op1.move (.t rfl),⟨.inr ⟨fun cv=>[(700000,Gl (tA 3 tS) 0 gv0),(700001,Gl (tA 3 tS) 1 gv1),(700002,Gl (tA 8 tS) 2 gv2),(700003,GlE 3),(700007,GlT Tryz.prog "internal/strconv.uint64pow10" .u64 Lib.pow10Tab)],(AllUpTo.at ⟨⟨(fun _ _=>⟨rfl,rfl,⟨rfl,rfl,⟨rfl,rfl,⟨rfl,rfl,⟨rfl,rfl,trivial⟩⟩⟩⟩⟩),(fun hw=>absurd hw (by decide))⟩,(fun hw=>absurd hw (by decide))⟩),fun cv=>Op1.callG (rin:=[(700000,Gl (tA 3 tS) 0 gv0),(700001,Gl (tA 3 tS) 1 gv1),(700002,Gl (tA 8 tS) 2 gv2),(700003,GlE 3),(700007,GlT Tryz.prog "internal/strconv.uint64pow10" .u64 Lib.pow10Tab)]) C31 (markup_line_spec _ _ _ _ hv1) ⟨rfl,rfl,rfl,rfl,rfl,trivial⟩ ⟨rfl,rfl,⟨rfl,rfl,⟨rfl,rfl,⟨rfl,rfl,⟨rfl,rfl,trivial⟩⟩⟩⟩⟩ ⟨(.t rfl),(.t rfl),trivial⟩⟩,⟨mo fun cv=>Op1.buildSlice (n:=1) (ys:=[(0,line)]) (z:=([]:Str)) (xs:=[line]) U38 el9 ze9 ⟨rfl,(.t rfl),trivial⟩ (by simp) (by decide) rfl,⟨.inl rfl,⟨.inl rfl,trivial⟩⟩⟩⟩⟩⟩⟩ ⟨⟨_,_,_,[1000002],(fun cv=>[(1000002,Dec.Own tS 9 (cv 0) out.length)]),rfl,rfl,rfl,rfl,fun _=>rfl,fun _ _=>rfl,fun cv=>OpR.appC (key:=1000002) hv2 U38 el9 (.t rfl) (.t rfl) rfl⟩,⟨⟨_,_,_,[2],(fun cv=>[(2,(Bx 1 false 38 (tO tS (cv 0) out) b))]),rfl,rfl,rfl,rfl,fun _=>rfl,fun _ _=>rfl,fun cv=>OpR.viaU (OpR.storeB (b:=b) 2 Z38 (Cellable.o tS (cv 0) out) rfl (.t rfl) (.t rfl))⟩,trivial⟩⟩ fun cv=>Aq<|Aw<|Ao rfl (.fieldAddr U33 rfl J31 fapi_TrackedUnit_8 (.t rfl))<|Ao rfl (.load ty31 (.t rfl))<|Ao rfl (.lenL U31 (.t rfl))<|Ao rfl (.move .i64)<|An<|W.block ?_
  obtain ⟨s3,hs4,hk5⟩:=Bs hm
  clear hm
  refine W.loop (fun m (s:Int×List api_TrackedUnit×List api_TrackedUnit×(((List Str))×Tok))=>m=s.2.2.1.length∧t.Kids=s.2.1++s.2.2.1∧s.1=(s.2.1.length:Int)∧M.markup_Lines_1_loop1 depth (M.markup_Lines_1 n) s.2.2.1 s.2.2.2.1=some s3) (fun s=>[(17,(I6.is s.1)),(1,(I6.is depth)),(3,(Bp b1 0)),(15,((tL tapi_TrackedUnit).is t.Kids)),(16,(I6.is (t.Kids.length:Int)))]) (fun s=>[(1000002,Dec.Own tS 9 s.2.2.2.2 s.2.2.2.1.length),(2,(Bx 1 false 38 (tO tS s.2.2.2.2 s.2.2.2.1) b)),(3,(Bx 1 false 63 (cloA 30 [(Bp b 0),(Bp b1 0)]) b1)),(700000,Gl (tA 3 tS) 0 gv0),(700001,Gl (tA 3 tS) 1 gv1),(700002,Gl (tA 8 tS) 2 gv2),(700003,GlE 3),(700007,GlT Tryz.prog "internal/strconv.uint64pow10" .u64 Lib.pow10Tab)]) t.Kids.length ((0:Int),[],t.Kids,(out,(cv 0))) ⟨rfl,rfl,rfl,hs4⟩ ⟨.q rfl,.q rfl,.q rfl,.q rfl,.q rfl,trivial⟩ ⟨rfl,rfl,⟨rfl,rfl,⟨rfl,rfl,⟨rfl,rfl,⟨rfl,rfl,⟨rfl,rfl,⟨rfl,rfl,⟨rfl,rfl,trivial⟩⟩⟩⟩⟩⟩⟩⟩ ?_
  rintro m ⟨i,pre,rest1,⟨v,k1⟩⟩ ⟨hn9,hxs6,hi7,hm⟩
  try dsimp only at hn9 hxs6 hi7 hm
  change W _ _ _ _ _ _ _ [(17,(I6.is i)),(1,(I6.is depth)),(3,(Bp b1 0)),(15,((tL tapi_TrackedUnit).is t.Kids)),(16,(I6.is (t.Kids.length:Int)))] [(1000002,Dec.Own tS 9 k1 v.length),(2,(Bx 1 false 38 (tO tS k1 v) b)),(3,(Bx 1 false 63 (cloA 30 [(Bp b 0),(Bp b1 0)]) b1)),(700000,Gl (tA 3 tS) 0 gv0),(700001,Gl (tA 3 tS) 1 gv1),(700002,Gl (tA 8 tS) 2 gv2),(700003,GlE 3),(700007,GlT Tryz.prog "internal/strconv.uint64pow10" .u64 Lib.pow10Tab)]
  refine W.lenL (s:=15) (.t rfl) fun hlen8=>Aw<|Ao rfl (.ltI (.t rfl) (.t rfl))<|An<|W.seq<|W.cond (.t rfl) (fun hc11=>?_) (fun hc11=>?_)
  ·have hp12:=of_decide_eq_true hc11
   obtain ⟨e,es,hrest14⟩:=range_more hxs6 hi7 hp12
   subst hrest14
   rw [M.markup_Lines_1_loop1.eq_2] at hm
   refine W.skip<|Aq<|W.seq<|W.block<|Aw<|Ao rfl (.idxPre hxs6 hi7 U31 Z33 (.t rfl) (.t rfl))<|Ao rfl (.load ty33 (.t rfl))<|WL.opR rfl (OpR.alloc 7 ze33) fun b2=>WL.opU (OpR.storeB (b:=b2) 7 Z33 (Cellable.is tapi_TrackedUnit e) rfl (.t rfl) (.t rfl)) fun _=>WL.sealed (t:=tapi_TrackedUnit) (u:=e) 7 7 rfl rfl<|WL.nr1<|Ao rfl (.loadB 3 Y63 Z63 rfl (.t rfl))<|Ao rfl (.load ty33 (.t rfl))<|WL.mv rfl rfl ?_
   obtain ⟨v1,hv15,hm⟩:=Bs hm
   refine Ao rfl (.addC hv15 (.t rfl) .i64) ?_
   obtain ⟨w,hv16,hm⟩:=Bs hm
   exact WL.weakR (res':=[(2,(Bx 1 false 38 (tO tS k1 v) b)),(1000002,Dec.Own tS 9 k1 v.length),(3,(Bx 1 false 63 (cloA 30 [(Bp b 0),(Bp b1 0)]) b1)),(700000,Gl (tA 3 tS) 0 gv0),(700001,Gl (tA 3 tS) 1 gv1),(700002,Gl (tA 8 tS) 2 gv2),(700003,GlE 3),(700007,GlT Tryz.prog "internal/strconv.uint64pow10" .u64 Lib.pow10Tab)]) ⟨rfl,rfl,⟨rfl,rfl,⟨rfl,rfl,⟨rfl,rfl,⟨rfl,rfl,⟨rfl,rfl,⟨rfl,rfl,⟨rfl,rfl,trivial⟩⟩⟩⟩⟩⟩⟩⟩<|WL.opR rfl (OpR.callClo (us:=[2,1000002,3,700000,700001,700002,700003,700007]) (A:=fun kx:Tok=>(Asn.eq (.tuple #[]))) (As:=[tapi_TrackedUnit.is e,I6.is v1]) C30 (.t rfl) (FSpecR.keys (rin':=[(2,(Bx 1 false 38 (tO tS k1 v) b)),(1000002,Dec.Own tS 9 k1 v.length),(3,(Bx 1 false 63 (cloA 30 [(Bp b 0),(Bp b1 0)]) b1)),(700000,Gl (tA 3 tS) 0 gv0),(700001,Gl (tA 3 tS) 1 gv1),(700002,Gl (tA 8 tS) 2 gv2),(700003,GlE 3),(700007,GlT Tryz.prog "internal/strconv.uint64pow10" .u64 Lib.pow10Tab)]) (out':=fun kx:Tok=>[(2,(Bx 1 false 38 (tO tS kx w) b)),(1000002,Dec.Own tS 9 kx w.length),(3,(Bx 1 false 63 (cloA 30 [(Bp b 0),(Bp b1 0)]) b1)),(700000,Gl (tA 3 tS) 0 gv0),(700001,Gl (tA 3 tS) 1 gv1),(700002,Gl (tA 8 tS) 2 gv2),(700003,GlE 3),(700007,GlT Tryz.prog "internal/strconv.uint64pow10" .u64 Lib.pow10Tab)]) (ih _ _ _ _ _ _ _ hv16) rfl (fun _=>rfl)) rfl ⟨(.t rfl),(.t rfl),trivial⟩) fun k2=>WL.nil<|WN.block<|Aq<|W.region<|Ao rfl (.addI (.t rfl) .i64 (range_inR hi7 hp12 hlen8))<|Am rfl rfl<|WL.nil<|WN.again es.length (i+1,pre++ [e],es,(w,k2)) (range_lt hn9) ⟨rfl,range_step hxs6,range_idx hi7,hm⟩ ⟨.q rfl,.q rfl,.q rfl,.q rfl,.q rfl,trivial⟩ ⟨rfl,rfl,⟨rfl,rfl,⟨rfl,rfl,⟨rfl,rfl,⟨rfl,rfl,⟨rfl,rfl,⟨rfl,rfl,⟨rfl,rfl,trivial⟩⟩⟩⟩⟩⟩⟩⟩
  ·have hrest14:=range_end hxs6 hi7 (of_decide_eq_false hc11)
   subst hrest14
   rw [M.markup_Lines_1_loop1.eq_1] at hm
   refine W.exit rfl ?_
   have hr17:=Si hm
   clear hm
   subst hr17
   have hm:=hk5
   try dsimp only at hm
   have hr:=Si hm
   clear hm
   subst hr
   exact WN.fin k1 rfl (fun _=>rfl) ⟨rfl,rfl,⟨rfl,rfl,⟨rfl,rfl,⟨rfl,rfl,⟨rfl,rfl,⟨rfl,rfl,⟨rfl,rfl,⟨rfl,rfl,trivial⟩⟩⟩⟩⟩⟩⟩⟩
theorem markup_Lines_spec(n:Nat)(t:api_TrackedUnit)(r:List Str)(hm:M.markup_Lines n t=some r):FSpecR Tryz.prog 10 [(tapi_TrackedUnit.is t)] [(700000,Gl (tA 3 tS) 0 gv0),(700001,Gl (tA 3 tS) 1 gv1),(700002,Gl (tA 8 tS) 2 gv2),(700003,GlE 3),(700007,GlT Tryz.prog "internal/strconv.uint64pow10" .u64 Lib.pow10Tab)] (fun _:Unit=>((tL tS).is r)) (fun _=>[]):=by
 unfold M.markup_Lines at hm
 refine FSpecR.of Tryz.func10 rfl rfl rfl fun g0=>Aw<|Ao rfl (.box (.t rfl))<|Ao rfl (.assign (.nil (t:=tS)))<|An<|W.seq<|Aw<|Ao rfl (.load ty33 (.t rfl)) ?_
 obtain ⟨validt,hv1,hm⟩:=Bs hm
 refine Ao rfl (.call C29 (markup_validTree_spec _ _ _ _ hv1) ⟨(.t rfl),.i64,trivial⟩)<|Ao rfl (.notB (.t rfl))<|An<|W.cR hm (.t rfl) (fun hp3 hm=>?_) (fun hp3 hm=>?_)
 ·refine Aw<|Ao rfl (.assign (.nil (t:=tS)))<|WL.ns ?_
  cases hm
  exact W.ret1 () rfl (.t rfl) trivial
 ·refine W.skip<|Aq<|Aw<|WL.addNil (t:=tS) (E:=9) 1000003<|WL.opR rfl (OpR.allocO (t:=tS) 3 Tryz.zeroValue38) fun b=>Ar<|WL.opR rfl (OpR.allocF 4 Tryz.zeroValue63) fun b1=>Ar<|Ao rfl (.makeClo (Cs:=[(Bp b 0),(Bp b1 0)]) (cap:=[.tmp 3,.tmp 4]) ⟨(.t rfl),(.t rfl),trivial⟩)<|WL.opU (OpR.storeB (b:=b1) 4 Z63 (Cellable.clo 30 _) rfl (.t rfl) (.t rfl)) fun _=>Ar<|Ao rfl (.loadB 4 Y63 Z63 rfl (.t rfl))<|Ao rfl (.load ty33 (.t rfl)) ?_
  obtain ⟨out,hv4,hm⟩:=Bs hm
  refine WL.weakR (res':=[(3,(Bx 1 false 38 (tO tS (none:Tok) ([]:List Str)) b)),(1000003,Dec.Own tS 9 (none:Tok) ([]:List Str).length),(4,(Bx 1 false 63 (cloA 30 [(Bp b 0),(Bp b1 0)]) b1)),(700000,Gl (tA 3 tS) 0 gv0),(700001,Gl (tA 3 tS) 1 gv1),(700002,Gl (tA 8 tS) 2 gv2),(700003,GlE 3),(700007,GlT Tryz.prog "internal/strconv.uint64pow10" .u64 Lib.pow10Tab)]) ⟨rfl,rfl,⟨rfl,rfl,⟨rfl,rfl,⟨rfl,rfl,⟨rfl,rfl,⟨rfl,rfl,⟨rfl,rfl,⟨rfl,rfl,trivial⟩⟩⟩⟩⟩⟩⟩⟩<|WL.opR rfl (OpR.callClo (us:=[3,1000003,4,700000,700001,700002,700003,700007]) (A:=fun kx:Tok=>(Asn.eq (.tuple #[]))) (As:=[tapi_TrackedUnit.is t,I6.is (0:Int)]) C30 (.t rfl) (FSpecR.keys (rin':=[(3,(Bx 1 false 38 (tO tS (none:Tok) ([]:List Str)) b)),(1000003,Dec.Own tS 9 (none:Tok) ([]:List Str).length),(4,(Bx 1 false 63 (cloA 30 [(Bp b 0),(Bp b1 0)]) b1)),(700000,Gl (tA 3 tS) 0 gv0),(700001,Gl (tA 3 tS) 1 gv1),(700002,Gl (tA 8 tS) 2 gv2),(700003,GlE 3),(700007,GlT Tryz.prog "internal/strconv.uint64pow10" .u64 Lib.pow10Tab)]) (out':=fun kx:Tok=>[(3,(Bx 1 false 38 (tO tS kx out) b)),(1000003,Dec.Own tS 9 kx out.length),(4,(Bx 1 false 63 (cloA 30 [(Bp b 0),(Bp b1 0)]) b1)),(700000,Gl (tA 3 tS) 0 gv0),(700001,Gl (tA 3 tS) 1 gv1),(700002,Gl (tA 8 tS) 2 gv2),(700003,GlE 3),(700007,GlT Tryz.prog "internal/strconv.uint64pow10" .u64 Lib.pow10Tab)]) (markup_Lines_1_spec _ _ _ _ _ _ _ _ hv4) rfl (fun _=>rfl)) rfl ⟨(.t rfl),.i64,trivial⟩) fun k=>Ar<|Ao rfl (.loadB 3 Y38 Z38 rfl (.t rfl))<|Ag rfl rfl<|WL.ns ?_
  cases hm
  exact W.ret1 () rfl (Opd.own (.t rfl)) trivial
theorem markup_Format_spec(n:Nat)(t:api_TrackedUnit)(r:Str×Int)(hm:M.markup_Format n t=some r):FSpecR Tryz.prog 14 [(tapi_TrackedUnit.is t)] [(700000,Gl (tA 3 tS) 0 gv0),(700001,Gl (tA 3 tS) 1 gv1),(700002,Gl (tA 8 tS) 2 gv2),(700003,GlE 3),(700007,GlT Tryz.prog "internal/strconv.uint64pow10" .u64 Lib.pow10Tab)] (fun _:Unit=>(Asn.tuple2 (tS.is r.1) (I6.is r.2))) (fun _=>[]):=by
 unfold M.markup_Format at hm
 refine FSpecR.of Tryz.func14 rfl rfl rfl fun g0=>Aw<|Ao rfl (.box (.t rfl))<|Ao rfl (.assign (.str rfl (by decide)))<|Ao rfl (.assign .i64)<|Ar<|Ao rfl (.load ty33 (.t rfl)) ?_
 obtain ⟨lines,hv1,hm⟩:=Bs hm
 refine Ao rfl (.callG (rin:=[(700000,Gl (tA 3 tS) 0 gv0),(700001,Gl (tA 3 tS) 1 gv1),(700002,Gl (tA 8 tS) 2 gv2),(700003,GlE 3),(700007,GlT Tryz.prog "internal/strconv.uint64pow10" .u64 Lib.pow10Tab)]) C10 (markup_Lines_spec _ _ _ hv1) ⟨rfl,rfl,rfl,rfl,rfl,trivial⟩ ⟨rfl,rfl,⟨rfl,rfl,⟨rfl,rfl,⟨rfl,rfl,⟨rfl,rfl,trivial⟩⟩⟩⟩⟩ ⟨(.t rfl),trivial⟩)<|Ag rfl rfl<|An<|W.seq<|Aw<|Am rfl rfl<|Ao rfl (.lenL U38 (.t rfl))<|Ao rfl (.eqI (.t rfl) .i64)<|An<|W.cD hm (.t rfl) (fun hp3 hm=>?_) (fun hp3 hm=>?_)
 ·refine Aw<|Ao rfl (.assign (.str rfl (by decide)))<|Ao rfl (.assign .i64)<|WL.ns ?_
  cases hm
  exact W.ret2 () rfl rfl (.t rfl) (.t rfl) trivial
 ·refine W.skip<|Aq<|Aw<|WL.mv rfl rfl ?_
  obtain ⟨join,hv4,hm⟩:=Bs hm
  refine Ao rfl (.call C33 (strings_Join_spec _ _ _ hv4) ⟨(.t rfl),(.str rfl (by decide)),trivial⟩) ?_
  obtain ⟨v,hv5,hm⟩:=Bs hm
  refine Ao rfl (.catC hv5 (.t rfl) (.str rfl (by decide)))<|Ag rfl rfl<|An<|W.seq<|Aw<|Am rfl rfl<|Ao rfl (.lenS U9 (.t rfl))<|Ao rfl (.gtI (.t rfl) .i64)<|An<|W.cD hm (.t rfl) (fun hp7 hm=>?_) (fun hp7 hm=>?_)
  ·refine Aw<|Ao rfl (.assign (.str rfl (by decide)))<|Ao rfl (.assign .i64)<|WL.ns ?_
   cases hm
   exact W.ret2 () rfl rfl (.t rfl) (.t rfl) trivial
  ·refine W.skip<|Aq<|Aw<|Am rfl rfl<|Ag rfl rfl<|Ao rfl (.assign .i64)<|WL.ns ?_
   cases hm
   exact W.ret2 () rfl rfl (.t rfl) (.t rfl) trivial
theorem law53_awake_spec(n:Nat) (r:Bool)(hm:M.law53_awake n=some r):FSpecR Tryz.prog 6 [] [(700000,Gl (tA 3 tS) 0 gv0),(700001,Gl (tA 3 tS) 1 gv1),(700002,Gl (tA 8 tS) 2 gv2),(700003,GlE 3),(700007,GlT Tryz.prog "internal/strconv.uint64pow10" .u64 Lib.pow10Tab)] (fun _:Unit=>(tB.is r)) (fun _=>[]):=by
 unfold M.law53_awake at hm
 refine FSpecR.of Tryz.func6 rfl rfl rfl fun g0=>Aw<|Ao rfl (.assign .bool)<|Ar<|Ao rfl (.build (s:=tapi_TrackedWord) (x:=(⟨(0:Int),([97]:Str)⟩:api_TrackedWord)) zapi_TrackedWord_f rfl U53 (zapi_TrackedWord_sz _ U53) ze53 ⟨_,tS,([97]:Str),_,_,rfl,Z9,(.str rfl (by decide)),sapi_TrackedWord_1,rfl⟩)<|Ao rfl (.build (s:=tapi_TrackedWord) (x:=(⟨(2:Int),([98]:Str)⟩:api_TrackedWord)) zapi_TrackedWord_f rfl U53 (zapi_TrackedWord_sz _ U53) ze53 ⟨_,I6,(2:Int),_,_,rfl,Z3,.i64,sapi_TrackedWord_0,⟨_,tS,([98]:Str),_,_,rfl,Z9,(.str rfl (by decide)),sapi_TrackedWord_1,rfl⟩⟩)<|Ao rfl (.build (s:=tapi_TrackedWord) (x:=(⟨(1:Int),([99]:Str)⟩:api_TrackedWord)) zapi_TrackedWord_f rfl U53 (zapi_TrackedWord_sz _ U53) ze53 ⟨_,I6,(1:Int),_,_,rfl,Z3,.i64,sapi_TrackedWord_0,⟨_,tS,([99]:Str),_,_,rfl,Z9,(.str rfl (by decide)),sapi_TrackedWord_1,rfl⟩⟩)<|Ao rfl (.buildSlice (n:=3) (ys:=[(0,(⟨(0:Int),([97]:Str)⟩:api_TrackedWord)),(1,(⟨(2:Int),([98]:Str)⟩:api_TrackedWord)),(2,(⟨(1:Int),([99]:Str)⟩:api_TrackedWord))]) (z:=zapi_TrackedWord) (xs:=[(⟨(0:Int),([97]:Str)⟩:api_TrackedWord),(⟨(2:Int),([98]:Str)⟩:api_TrackedWord),(⟨(1:Int),([99]:Str)⟩:api_TrackedWord)]) U30 el53 ze53 ⟨rfl,(.t rfl),rfl,(.t rfl),rfl,(.t rfl),trivial⟩ (by simp) (by decide) rfl)<|Ag rfl rfl<|Ar<|Ao rfl (.build (s:=tapi_Id) (x:=(⟨(1:Int),(0:Int),(1:Int)⟩:api_Id)) zapi_Id_f rfl U23 (zapi_Id_sz _ U23) ze23 ⟨_,I6,(1:Int),_,_,rfl,Z3,.i64,sapi_Id_0,⟨_,I6,(1:Int),_,_,rfl,Z3,.i64,sapi_Id_2,rfl⟩⟩)<|Am rfl rfl<|Ao rfl (.build (s:=tapi_TrackedUnit) (x:=(⟨(0:Int),(2:Int),(⟨(1:Int),(0:Int),(1:Int)⟩:api_Id),([53]:Str),([52]:Str),false,([]:List api_TrackedWord),[(⟨(0:Int),([97]:Str)⟩:api_TrackedWord),(⟨(2:Int),([98]:Str)⟩:api_TrackedWord),(⟨(1:Int),([99]:Str)⟩:api_TrackedWord)],([]:List api_TrackedUnit)⟩:api_TrackedUnit)) zapi_TrackedUnit_f rfl U33 (zapi_TrackedUnit_sz _ U33) ze33 ⟨_,I6,(2:Int),_,_,rfl,Z3,.i64,sapi_TrackedUnit_1,⟨_,tapi_Id,(⟨(1:Int),(0:Int),(1:Int)⟩:api_Id),_,_,rfl,Z23,(.t rfl),sapi_TrackedUnit_2,⟨_,tS,([53]:Str),_,_,rfl,Z9,(.str rfl (by decide)),sapi_TrackedUnit_3,⟨_,tS,([52]:Str),_,_,rfl,Z9,(.str rfl (by decide)),sapi_TrackedUnit_4,⟨_,(tL tapi_TrackedWord),([(⟨(0:Int),([97]:Str)⟩:api_TrackedWord),(⟨(2:Int),([98]:Str)⟩:api_TrackedWord),(⟨(1:Int),([99]:Str)⟩:api_TrackedWord)]),_,_,rfl,Z30,(.t rfl),sapi_TrackedUnit_7,rfl⟩⟩⟩⟩⟩)<|WL.opR rfl (OpR.alloc 2 ze33) fun b=>WL.opU (OpR.storeB (b:=b) 2 Z33 (Cellable.is tapi_TrackedUnit (⟨(0:Int),(2:Int),(⟨(1:Int),(0:Int),(1:Int)⟩:api_Id),([53]:Str),([52]:Str),false,([]:List api_TrackedWord),[(⟨(0:Int),([97]:Str)⟩:api_TrackedWord),(⟨(2:Int),([98]:Str)⟩:api_TrackedWord),(⟨(1:Int),([99]:Str)⟩:api_TrackedWord)],([]:List api_TrackedUnit)⟩:api_TrackedUnit)) rfl (.t rfl) (.t rfl)) fun _=>WL.sealed (t:=tapi_TrackedUnit) (u:=(⟨(0:Int),(2:Int),(⟨(1:Int),(0:Int),(1:Int)⟩:api_Id),([53]:Str),([52]:Str),false,([]:List api_TrackedWord),[(⟨(0:Int),([97]:Str)⟩:api_TrackedWord),(⟨(2:Int),([98]:Str)⟩:api_TrackedWord),(⟨(1:Int),([99]:Str)⟩:api_TrackedWord)],([]:List api_TrackedUnit)⟩:api_TrackedUnit)) 2 2 rfl rfl ?_
 refine Ar<|Ao rfl (.load ty33 (.t rfl)) ?_
 obtain ⟨format,hv1,hm⟩:=Bs hm
 refine Ao rfl (.callG (rin:=[(700000,Gl (tA 3 tS) 0 gv0),(700001,Gl (tA 3 tS) 1 gv1),(700002,Gl (tA 8 tS) 2 gv2),(700003,GlE 3),(700007,GlT Tryz.prog "internal/strconv.uint64pow10" .u64 Lib.pow10Tab)]) C14 (markup_Format_spec _ _ _ hv1) ⟨rfl,rfl,rfl,rfl,rfl,trivial⟩ ⟨rfl,rfl,⟨rfl,rfl,⟨rfl,rfl,⟨rfl,rfl,⟨rfl,rfl,trivial⟩⟩⟩⟩⟩ ⟨(.t rfl),trivial⟩)<|Am rfl rfl<|Ao rfl (.extract0 (.t rfl))<|Ao rfl (.extract1 (.t rfl))<|Ag rfl rfl<|Ag rfl rfl<|Ar<|WL.mv rfl rfl ?_
 obtain ⟨format1,hv2,hm⟩:=Bs hm
 refine Ao rfl (.callG (rin:=[(700000,Gl (tA 3 tS) 0 gv0),(700001,Gl (tA 3 tS) 1 gv1),(700003,GlE 3)]) C23 (markup_FormatWords_spec _ _ _ hv2) ⟨rfl,rfl,rfl,trivial⟩ ⟨rfl,rfl,⟨rfl,rfl,⟨rfl,rfl,trivial⟩⟩⟩ ⟨(.t rfl),trivial⟩)<|Ao rfl (.eqS (.t rfl) (.str rfl (by decide)))<|WL.mv rfl rfl ?_
 rcases iteB hm with ⟨hp4,hb3,hm⟩ | ⟨hp4,hb3,hm⟩
 ·refine Ax rfl hb3 (.move (.t rfl))<|Ax rfl hb3 (.eqI (.t rfl) .i64)<|Ao rfl (.pickT (.t rfl) hb3 (.t rfl))<|WL.mv rfl rfl ?_
  rcases iteD hm with ⟨hp6,hb5,hm⟩ | ⟨hp6,hb5,hm⟩
  ·refine Ax rfl hb5 (.move (.t rfl))<|Ax rfl hb5 (.eqS (.t rfl) (.str rfl (by decide)))<|Ao rfl (.pickT (.t rfl) hb5 (.t rfl))<|Ag rfl rfl<|WL.ns ?_
   cases hm
   exact W.ret1 () rfl (.t rfl) trivial
  ·refine Ap rfl hb5<|Ap rfl hb5<|Ao rfl (.pickF (.t rfl) hb5 .bool)<|Ag rfl rfl<|WL.ns ?_
   cases hm
   exact W.ret1 () rfl (.t rfl) trivial
 ·refine Ap rfl hb3<|Ap rfl hb3<|Ao rfl (.pickF (.t rfl) hb3 .bool)<|Am rfl rfl<|Ap rfl rfl<|Ap rfl rfl<|Ao rfl (.pickF (.t rfl) rfl .bool)<|Ag rfl rfl<|WL.ns ?_
  cases hm
  exact W.ret1 () rfl (.t rfl) trivial
theorem r06_size_spec:∀ (n:Nat) (u:api_Unit) (deep:Int) (most:Int) (r:Int),M.r06_size n u deep most=some r→FSpec Tryz.prog 24 [(tapi_Unit.is u),(I6.is deep),(I6.is most)] (I6.is r):=by
 intro n
 induction n with
 | zero=>intro u deep most r hm;cases hm
 | succ n ih=>
  intro u deep most r hm
  rw [M.r06_size.eq_2] at hm
  refine FSpec.of Tryz.func24 rfl rfl rfl fun g0=>Aw<|Ao rfl (.box (.t rfl))<|Ao rfl (.assign .i64)<|An<|W.seq<|Aw<|Am rfl rfl<|Ao rfl (.gtI (.t rfl) .i64)<|An<|W.cD hm (.t rfl) (fun hp2 hm=>?_) (fun hp2 hm=>?_)
  ·refine Aw<|WL.mv rfl rfl ?_
   obtain ⟨v,hv3,hm⟩:=Bs hm
   refine Ao rfl (.addC hv3 (.t rfl) .i64)<|Ag rfl rfl<|WL.ns ?_
   cases hm
   exact W.ret1 () rfl (.t rfl) trivial
  ·refine W.skip<|Aq<|Aw<|Ao rfl (.assign .i64)<|An<|W.seq<|Aw<|Ao rfl (.assign .i64)<|An<|W.block ?_
   obtain ⟨s4,hs5,hk6⟩:=Bs hm
   clear hm
   refine W.loop (fun m (s:Int×Int)=>M.r06_size_loop1 u deep most (M.r06_size n) m s.1 s.2=some s4) (fun s=>[(7,(I6.is s.1)),(8,(I6.is s.2)),(1,(I6.is deep)),(2,(I6.is most)),(3,(tapi_Unit.ptr u))]) (fun s=>[]) _ ((1:Int),(0:Int)) hs5 ⟨.q rfl,.q rfl,.q rfl,.q rfl,.q rfl,trivial⟩ trivial ?_
   rintro n7 ⟨n0_,i⟩ hm
   try dsimp only at hm
   change W _ _ _ _ _ _ _ [(7,(I6.is n0_)),(8,(I6.is i)),(1,(I6.is deep)),(2,(I6.is most)),(3,(tapi_Unit.ptr u))] []
   cases n7 with
   | zero=>rw [M.r06_size_loop1.eq_1] at hm;cases hm
   | succ n7=>
    rw [M.r06_size_loop1.eq_2] at hm
    refine W.seq ?_
    obtain ⟨s8,hs9,hk10⟩:=Bs hm
    clear hm
    refine W.join (fun s:Bool=>s=s8) (fun s=>[(22,(tB.is s)),(1,(I6.is deep)),(2,(I6.is most)),(3,(tapi_Unit.ptr u)),(7,(I6.is n0_)),(8,(I6.is i))]) (fun s=>[]) ?_ ?_
    ·rintro v1 hj22
     try dsimp only at hj22
     subst hj22
     have hm:=hk10
     clear hk10
     try dsimp only at hm
     change W _ _ _ _ _ _ _ [(22,(tB.is v1)),(1,(I6.is deep)),(2,(I6.is most)),(3,(tapi_Unit.ptr u)),(7,(I6.is n0_)),(8,(I6.is i))] []
     refine W.cB hm (.t rfl) (fun hp14 hm=>?_) (fun hp14 hm=>?_)
     ·refine W.skip<|Aq<|W.seq<|W.block<|W.region<|Am rfl rfl<|Ao rfl (.fieldAddr U27 rfl J25 fapi_Unit_5 (.t rfl))<|Ao rfl (.load ty25 (.t rfl))<|WL.mv rfl rfl ?_
      obtain ⟨v2,hv15,hm⟩:=Bs hm
      refine Ao rfl (.idx hv15 U25 Z27 (.t rfl) (.t rfl))<|Ao rfl (.load ty27 (.t rfl))<|WL.mv rfl rfl ?_
      obtain ⟨v3,hv16,hm⟩:=Bs hm
      refine Ao rfl (.addC hv16 (.t rfl) .i64)<|Am rfl rfl<|WL.mv rfl rfl ?_
      obtain ⟨v4,hv17,hm⟩:=Bs hm
      refine Ao rfl (.subC hv17 (.t rfl) (.t rfl)) ?_
      obtain ⟨size,hv18,hm⟩:=Bs hm
      refine Ao rfl (.call C24 (ih _ _ _ _ hv18) ⟨(.t rfl),(.t rfl),(.t rfl),trivial⟩) ?_
      obtain ⟨v5,hv19,hm⟩:=Bs hm
      refine Ao rfl (.addC hv19 (.t rfl) (.t rfl))<|Ag rfl rfl<|WL.nil<|WN.block<|Aq<|W.region<|WL.mv rfl rfl ?_
      obtain ⟨v6,hv20,hm⟩:=Bs hm
      exact Ao rfl (.addC hv20 (.t rfl) .i64)<|Ag rfl rfl<|WL.nil<|WN.again n7 (v5,v6) (Nat.lt_succ_self n7) hm ⟨.q rfl,.q rfl,.q rfl,.q rfl,.q rfl,trivial⟩ trivial
     ·refine W.exit rfl ?_
      have hr21:=Si hm
      clear hm
      subst hr21
      have hm:=hk6
      try dsimp only at hm
      refine Aq<|Aw<|Am rfl rfl<|Ag rfl rfl<|WL.ns ?_
      cases hm
      exact W.ret1 () rfl (.t rfl) trivial
    ·have hm:=hs9
     clear hs9
     refine W.region<|Am rfl rfl<|Ao rfl (.fieldAddr U27 rfl J25 fapi_Unit_5 (.t rfl))<|Ao rfl (.load ty25 (.t rfl))<|Ao rfl (.lenL U25 (.t rfl))<|Ao rfl (.ltI (.t rfl) (.t rfl))<|WL.mv rfl rfl ?_
     rcases iteD hm with ⟨hp12,hb11,hm⟩ | ⟨hp12,hb11,hm⟩
     ·exact Ax rfl hb11 (.move (.t rfl))<|Ax rfl hb11 (.move (.t rfl))<|Ax rfl hb11 (.leI (.t rfl) (.t rfl))<|Ao rfl (.pickT (.t rfl) hb11 (.t rfl))<|WL.nil<|WN.meet (decide (n0_≤most)) (Si hm) ⟨.q rfl,.q rfl,.q rfl,.q rfl,.q rfl,.q rfl,trivial⟩ trivial
     ·exact Ap rfl hb11<|Ap rfl hb11<|Ap rfl hb11<|Ao rfl (.pickF (.t rfl) hb11 .bool)<|WL.nil<|WN.meet false (Si hm) ⟨.q rfl,.q rfl,.q rfl,.q rfl,.q rfl,.q rfl,trivial⟩ trivial
theorem r06_short_spec(n:Nat)(l:List api_Word)(r:Bool)(hm:M.r06_short n l=some r):FSpec Tryz.prog 46 [((tL tapi_Word).is l)] (tB.is r):=by
 unfold M.r06_short at hm
 refine FSpec.of Tryz.func46 rfl rfl rfl fun g0=>Aw<|Ao rfl (.assign .bool)<|An<|W.seq<|Aw<|Ao rfl (.assign .i64)<|An<|W.block ?_
 obtain ⟨s1,hs2,hk3⟩:=Bs hm
 clear hm
 refine W.loop (fun m (s:Int)=>M.r06_short_loop1 l m s=some s1) (fun s=>[(3,(I6.is s)),(0,((tL tapi_Word).is l))]) (fun s=>[]) _ (0:Int) hs2 ⟨.q rfl,.q rfl,trivial⟩ trivial ?_
 rintro n4 i hm
 try dsimp only at hm
 change W _ _ _ _ _ _ _ [(3,(I6.is i)),(0,((tL tapi_Word).is l))] []
 cases n4 with
 | zero=>rw [M.r06_short_loop1.eq_1] at hm;cases hm
 | succ n4=>
  rw [M.r06_short_loop1.eq_2] at hm
  refine W.seq<|Aw<|Am rfl rfl<|Am rfl rfl<|Ao rfl (.lenL U24 (.t rfl))<|Ao rfl (.ltI (.t rfl) (.t rfl))<|An<|W.cD hm (.t rfl) (fun hp6 hm=>?_) (fun hp6 hm=>?_)
  ·refine W.skip<|Aq<|W.seq<|W.block<|Aw<|Am rfl rfl<|WL.mv rfl rfl ?_
   obtain ⟨v,hv7,hm⟩:=Bs hm
   refine Ao rfl (.idx hv7 U24 Z120 (.t rfl) (.t rfl))<|Ao rfl (.fieldAddr U120 rfl J9 fapi_Word_0 (.t rfl))<|Ao rfl (.load ty9 (.t rfl))<|Ao rfl (.lenS U9 (.t rfl))<|Ao rfl (.gtI (.t rfl) .i64)<|An<|W.cD hm (.t rfl) (fun hp9 hm=>?_) (fun hp9 hm=>?_)
   ·refine Aw<|Ao rfl (.assign .bool)<|WL.ns ?_
    have hr10:=Si hm
    clear hm
    subst hr10
    have hm:=hk3
    try dsimp only at hm
    cases hm
    exact W.ret1 () rfl (.t rfl) trivial
   ·exact W.skip<|WN.block<|Aq<|W.region<|Am rfl rfl<|WL.lenL (s:=0) (.t rfl) fun hl11=>Ao rfl (.addI1 (.t rfl) .i64 hp6 hl11)<|Ag rfl rfl<|WL.nil<|WN.again n4 (i+1) (Nat.lt_succ_self n4) hm ⟨.q rfl,.q rfl,trivial⟩ trivial
  ·refine W.exit rfl ?_
   have hr12:=Si hm
   clear hm
   subst hr12
   have hm:=hk3
   try dsimp only at hm
   refine Aq<|Aw<|Am rfl rfl<|Ao rfl (.lenL U24 (.t rfl))<|Ao rfl (.leI (.t rfl) .i64)<|Ag rfl rfl<|WL.ns ?_
   cases hm
   exact W.ret1 () rfl (.t rfl) trivial
theorem r06_words_spec:∀ (n:Nat) (u:api_Unit) (r:Bool),M.r06_words n u=some r→FSpec Tryz.prog 25 [(tapi_Unit.is u)] (tB.is r):=by
 intro n
 induction n with
 | zero=>intro u r hm;cases hm
 | succ n ih=>
  intro u r hm
  rw [M.r06_words.eq_2] at hm
  refine FSpec.of Tryz.func25 rfl rfl rfl fun g0=>Aw<|Ao rfl (.box (.t rfl))<|Ao rfl (.assign .bool)<|An<|W.seq ?_
  obtain ⟨s1,hs2,hk3⟩:=Bs hm
  clear hm
  refine W.join (fun s:Bool=>s=s1) (fun s=>[(19,(tB.is s)),(1,(tapi_Unit.ptr u))]) (fun s=>[]) ?_ ?_
  ·rintro v hj25
   try dsimp only at hj25
   subst hj25
   have hm:=hk3
   clear hk3
   try dsimp only at hm
   change W _ _ _ _ _ _ _ [(19,(tB.is v)),(1,(tapi_Unit.ptr u))] []
   refine W.cB hm (.t rfl) (fun hp11 hm=>?_) (fun hp11 hm=>?_)
   ·refine Aw<|Ao rfl (.assign .bool)<|WL.ns ?_
    cases hm
    exact W.ret1 () rfl (.t rfl) trivial
   ·refine W.skip<|Aq<|W.seq<|Aw<|Ao rfl (.assign .i64)<|An<|W.block ?_
    obtain ⟨s12,hs13,hk14⟩:=Bs hm
    clear hm
    refine W.loop (fun m (s:Int)=>M.r06_words_loop1 u (M.r06_words n) m s=some s12) (fun s=>[(3,(I6.is s)),(1,(tapi_Unit.ptr u))]) (fun s=>[]) _ (0:Int) hs13 ⟨.q rfl,.q rfl,trivial⟩ trivial ?_
    rintro n15 i hm
    try dsimp only at hm
    change W _ _ _ _ _ _ _ [(3,(I6.is i)),(1,(tapi_Unit.ptr u))] []
    cases n15 with
    | zero=>rw [M.r06_words_loop1.eq_1] at hm;cases hm
    | succ n15=>
     rw [M.r06_words_loop1.eq_2] at hm
     refine W.seq<|Aw<|Am rfl rfl<|Ao rfl (.fieldAddr U27 rfl J25 fapi_Unit_5 (.t rfl))<|Ao rfl (.load ty25 (.t rfl))<|Ao rfl (.lenL U25 (.t rfl))<|Ao rfl (.ltI (.t rfl) (.t rfl))<|An<|W.cD hm (.t rfl) (fun hp17 hm=>?_) (fun hp17 hm=>?_)
     ·refine W.skip<|Aq<|W.seq<|W.block<|Aw<|Ao rfl (.fieldAddr U27 rfl J25 fapi_Unit_5 (.t rfl))<|Ao rfl (.load ty25 (.t rfl))<|WL.mv rfl rfl ?_
      obtain ⟨v1,hv18,hm⟩:=Bs hm
      refine Ao rfl (.idx hv18 U25 Z27 (.t rfl) (.t rfl))<|Ao rfl (.load ty27 (.t rfl)) ?_
      obtain ⟨words,hv19,hm⟩:=Bs hm
      refine Ao rfl (.call C25 (ih _ _ hv19) ⟨(.t rfl),trivial⟩)<|Ao rfl (.notB (.t rfl))<|An<|W.cR hm (.t rfl) (fun hp21 hm=>?_) (fun hp21 hm=>?_)
      ·refine Aw<|Ao rfl (.assign .bool)<|WL.ns ?_
       have hr22:=Si hm
       clear hm
       subst hr22
       have hm:=hk14
       try dsimp only at hm
       cases hm
       exact W.ret1 () rfl (.t rfl) trivial
      ·exact W.skip<|WN.block<|Aq<|W.region<|Am rfl rfl<|WL.lenL (s:=22) (.t rfl) fun hl23=>Ao rfl (.addI1 (.t rfl) .i64 hp17 hl23)<|Ag rfl rfl<|WL.nil<|WN.again n15 (i+1) (Nat.lt_succ_self n15) hm ⟨.q rfl,.q rfl,trivial⟩ trivial
     ·refine W.exit rfl ?_
      have hr24:=Si hm
      clear hm
      subst hr24
      have hm:=hk14
      try dsimp only at hm
      refine Aq<|Aw<|Ao rfl (.assign .bool)<|WL.ns ?_
      cases hm
      exact W.ret1 () rfl (.t rfl) trivial
  ·have hm:=hs2
   clear hs2
   refine W.region<|Ao rfl (.fieldAddr U27 rfl J9 fapi_Unit_2 (.t rfl))<|Ao rfl (.load ty9 (.t rfl))<|Ao rfl (.lenS U9 (.t rfl))<|Ao rfl (.gtI (.t rfl) .i64)<|WL.mv rfl rfl ?_
   rcases iteD hm with ⟨hp5,hb4,hm⟩ | ⟨hp5,hb4,hm⟩
   ·exact Ap rfl hb4<|Ap rfl hb4<|Ap rfl hb4<|Ap rfl hb4<|Ao rfl (.pickT (.t rfl) hb4 .bool)<|Am rfl rfl<|Ap rfl rfl<|Ap rfl rfl<|Ap rfl rfl<|Ap rfl rfl<|Ao rfl (.pickT (.t rfl) rfl .bool)<|WL.nil<|WN.meet true (Si hm) ⟨.q rfl,.q rfl,trivial⟩ trivial
   ·refine Ax rfl hb4 (.fieldAddr U27 rfl J24 fapi_Unit_3 (.t rfl))<|Ax rfl hb4 (.load ty24 (.t rfl)) ?_
    obtain ⟨short,hv6,hm⟩:=Bs hm
    refine Ax rfl hb4 (.call C46 (r06_short_spec _ _ _ hv6) ⟨(.t rfl),trivial⟩)<|Ax rfl hb4 (.notB (.t rfl))<|Ao rfl (.pickF (.t rfl) hb4 (.t rfl))<|WL.mv rfl rfl ?_
    rcases iteR hm with ⟨hp8,hb7,hm⟩ | ⟨hp8,hb7,hm⟩
    ·exact Ap rfl hb7<|Ap rfl hb7<|Ap rfl hb7<|Ap rfl hb7<|Ao rfl (.pickT (.t rfl) hb7 .bool)<|WL.nil<|WN.meet true (Si hm) ⟨.q rfl,.q rfl,trivial⟩ trivial
    ·refine Ax rfl hb7 (.fieldAddr U27 rfl J24 fapi_Unit_4 (.t rfl))<|Ax rfl hb7 (.load ty24 (.t rfl)) ?_
     obtain ⟨short1,hv9,hm⟩:=Bs hm
     exact Ax rfl hb7 (.call C46 (r06_short_spec _ _ _ hv9) ⟨(.t rfl),trivial⟩)<|Ax rfl hb7 (.notB (.t rfl))<|Ao rfl (.pickF (.t rfl) hb7 (.t rfl))<|WL.nil<|WN.meet (!short1) (Si hm) ⟨.q rfl,.q rfl,trivial⟩ trivial
theorem r06_Few_spec(n:Nat)(u:api_Unit)(most:Int)(r:Bool)(hm:M.r06_Few n u most=some r):FSpec Tryz.prog 7 [(tapi_Unit.is u),(I6.is most)] (tB.is r):=by
 unfold M.r06_Few at hm
 refine FSpec.of Tryz.func7 rfl rfl rfl fun g0=>Aw<|Ao rfl (.box (.t rfl))<|Ao rfl (.assign .bool)<|Ar<|Ao rfl (.load ty27 (.t rfl))<|WL.mv rfl rfl ?_
 obtain ⟨size,hv1,hm⟩:=Bs hm
 refine Ao rfl (.call C24 (r06_size_spec _ _ _ _ _ hv1) ⟨(.t rfl),.i64,(.t rfl),trivial⟩)<|Am rfl rfl<|Ao rfl (.leI (.t rfl) (.t rfl))<|WL.mv rfl rfl ?_
 rcases iteD hm with ⟨hp3,hb2,hm⟩ | ⟨hp3,hb2,hm⟩
 ·refine Ax rfl hb2 (.load ty27 (.t rfl)) ?_
  obtain ⟨words,hv4,hm⟩:=Bs hm
  refine Ax rfl hb2 (.call C25 (r06_words_spec _ _ _ hv4) ⟨(.t rfl),trivial⟩)<|Ao rfl (.pickT (.t rfl) hb2 (.t rfl))<|Ag rfl rfl<|WL.ns ?_
  cases hm
  exact W.ret1 () rfl (.t rfl) trivial
 ·refine Ap rfl hb2<|Ap rfl hb2<|Ao rfl (.pickF (.t rfl) hb2 .bool)<|Ag rfl rfl<|WL.ns ?_
  cases hm
  exact W.ret1 () rfl (.t rfl) trivial
theorem unit_row_spec(n:Nat)(l:List api_Word)(r:Bool)(hm:M.unit_row n l=some r):FSpec Tryz.prog 118 [((tL tapi_Word).is l)] (tB.is r):=by
 unfold M.unit_row at hm
 refine FSpec.of Tryz.func118 rfl rfl rfl fun g0=>Aw<|Ao rfl (.assign .bool)<|Ar<|WL.addNil (t:=tS) (E:=9) 3<|Ao rfl (.assign (Opd.nilO (t:=tS)))<|An<|W.seq<|Aw<|Am rfl rfl<|Ao rfl (.lenL U24 (.t rfl))<|Ao rfl (.move .i64)<|An<|W.block ?_
 obtain ⟨s1,hs2,hk3⟩:=Bs hm
 clear hm
 refine W.loop (fun m (s:Int×List api_Word×List api_Word×(((List Str))×Tok))=>m=s.2.2.1.length∧l=s.2.1++s.2.2.1∧s.1=(s.2.1.length:Int)∧M.unit_row_loop1 s.2.2.1 s.2.2.2.1=some s1) (fun s=>[(8,(I6.is s.1)),(3,(tO tS s.2.2.2.2 s.2.2.2.1)),(0,((tL tapi_Word).is l)),(6,((tL tapi_Word).is l)),(7,(I6.is (l.length:Int)))]) (fun s=>[(3,Dec.Own tS 9 s.2.2.2.2 s.2.2.2.1.length)]) l.length ((0:Int),[],l,(([]:List Str),(none:Tok))) ⟨rfl,rfl,rfl,hs2⟩ ⟨.q rfl,.q rfl,.q rfl,.q rfl,.q rfl,trivial⟩ ⟨rfl,rfl,trivial⟩ ?_
 rintro m ⟨i,pre,rest1,⟨texts,k⟩⟩ ⟨hn7,hxs4,hi5,hm⟩
 try dsimp only at hn7 hxs4 hi5 hm
 change W _ _ _ _ _ _ _ [(8,(I6.is i)),(3,(tO tS k texts)),(0,((tL tapi_Word).is l)),(6,((tL tapi_Word).is l)),(7,(I6.is (l.length:Int)))] [(3,Dec.Own tS 9 k texts.length)]
 refine W.lenL (s:=6) (.t rfl) fun hlen6=>Aw<|Ao rfl (.ltI (.t rfl) (.t rfl))<|An<|W.seq<|W.cond (.t rfl) (fun hc9=>?_) (fun hc9=>?_)
 ·have hp10:=of_decide_eq_true hc9
  obtain ⟨e,es,hrest12⟩:=range_more hxs4 hi5 hp10
  subst hrest12
  rw [M.unit_row_loop1.eq_2] at hm
  refine W.skip<|Aq<|W.seq<|W.block<|Aw<|Ao rfl (.idxPre hxs4 hi5 U24 Z120 (.t rfl) (.t rfl))<|Ao rfl (.load ty120 (.t rfl))<|WL.opR rfl (OpR.alloc 5 ze120) fun b=>WL.opU (OpR.storeB (b:=b) 5 Z120 (Cellable.is tapi_Word e) rfl (.t rfl) (.t rfl)) fun _=>WL.sealed (t:=tapi_Word) (u:=e) 5 5 rfl rfl<|WL.nr1<|Am rfl rfl<|Ao rfl (.fieldAddr U120 rfl J9 fapi_Word_0 (.t rfl))<|Ao rfl (.load ty9 (.t rfl))<|Ao rfl (.buildSlice (n:=1) (ys:=[(0,e.Text)]) (z:=([]:Str)) (xs:=[e.Text]) U38 el9 ze9 ⟨rfl,(.t rfl),trivial⟩ (by simp) (by decide) rfl) ?_
  obtain ⟨texts1,hv13,hm⟩:=Bs hm
  exact WL.opR rfl (OpR.appC (key:=3) hv13 U38 el9 (.t rfl) (.t rfl) rfl) fun k1=>Ag rfl rfl<|WL.nil<|WN.block<|Aq<|W.region<|Ao rfl (.addI (.t rfl) .i64 (range_inR hi5 hp10 hlen6))<|Am rfl rfl<|WL.nil<|WN.again es.length (i+1,pre++ [e],es,(texts1,k1)) (range_lt hn7) ⟨rfl,range_step hxs4,range_idx hi5,hm⟩ ⟨.q rfl,.q rfl,.q rfl,.q rfl,.q rfl,trivial⟩ ⟨rfl,rfl,trivial⟩
 ·have hrest12:=range_end hxs4 hi5 (of_decide_eq_false hc9)
  subst hrest12
  rw [M.unit_row_loop1.eq_1] at hm
  refine W.exit rfl ?_
  have hr14:=Si hm
  clear hm
  subst hr14
  have hm:=hk3
  try dsimp only at hm
  refine Aq<|Aw<|Am rfl rfl<|Ao rfl (.lenL U24 (.t rfl))<|Ao rfl (.leI (.t rfl) .i64)<|WL.mv rfl rfl ?_
  rcases iteD hm with ⟨hp16,hb15,hm⟩ | ⟨hp16,hb15,hm⟩
  ·refine Ax rfl hb15 (.move (.t rfl)) ?_
   obtain ⟨valid,hv17,hm⟩:=Bs hm
   refine Ax rfl hb15 (.call C116 (wordseq_Valid_spec _ _ _ hv17) ⟨(Opd.own (.t rfl)),trivial⟩)<|Ao rfl (.pickT (.t rfl) hb15 (.t rfl))<|Ag rfl rfl<|WL.ns ?_
   cases hm
   exact W.ret1 () rfl (.t rfl) trivial
  ·refine Ap rfl hb15<|Ap rfl hb15<|Ao rfl (.pickF (.t rfl) hb15 .bool)<|Ag rfl rfl<|WL.ns ?_
   cases hm
   exact W.ret1 () rfl (.t rfl) trivial
theorem slices_Index_int_int_spec(n:Nat)(s0_:List Int)(v:Int)(r:Int)(hm:M.slices_Index_int_int n s0_ v=some r):FSpec Tryz.prog 181 [((tL I6).is s0_),(I6.is v)] (I6.is r):=by
 unfold M.slices_Index_int_int at hm
 refine FSpec.of Tryz.func181 rfl rfl rfl fun g0=>Aw<|Ao rfl (.assign .i64)<|An<|W.seq<|Aw<|Am rfl rfl<|Ao rfl (.lenL U161 (.t rfl))<|Ao rfl (.move .i64)<|An<|W.block ?_
 obtain ⟨s1,hs2,hk3⟩:=Bs hm
 clear hm
 refine W.loop (fun m (s:Int)=>M.slices_Index_int_int_loop1 s0_ v m s=some s1) (fun s=>[(8,(I6.is s)),(0,((tL I6).is s0_)),(1,(I6.is v)),(7,(I6.is (s0_.length:Int)))]) (fun s=>[]) _ (0:Int) hs2 ⟨.q rfl,.q rfl,.q rfl,.q rfl,trivial⟩ trivial ?_
 rintro n4 v1 hm
 try dsimp only at hm
 change W _ _ _ _ _ _ _ [(8,(I6.is v1)),(0,((tL I6).is s0_)),(1,(I6.is v)),(7,(I6.is (s0_.length:Int)))] []
 cases n4 with
 | zero=>rw [M.slices_Index_int_int_loop1.eq_1] at hm;cases hm
 | succ n4=>
  rw [M.slices_Index_int_int_loop1.eq_2] at hm
  refine Aw<|Ao rfl (.ltI (.t rfl) (.t rfl))<|An<|W.seq<|W.cD hm (.t rfl) (fun hp6 hm=>?_) (fun hp6 hm=>?_)
  ·refine W.skip<|Aq<|W.seq<|W.block<|Aw<|Am rfl rfl<|Ag rfl rfl<|Ar<|Am rfl rfl<|Am rfl rfl<|WL.mv rfl rfl ?_
   obtain ⟨v2,hv7,hm⟩:=Bs hm
   refine Ao rfl (.idx hv7 U161 Z3 (.t rfl) (.t rfl))<|Ao rfl (.load ty3 (.t rfl))<|Ao rfl (.eqI (.t rfl) (.t rfl))<|An<|W.cD hm (.t rfl) (fun hp9 hm=>?_) (fun hp9 hm=>?_)
   ·refine Aw<|Am rfl rfl<|Ag rfl rfl<|WL.ns ?_
    have hr10:=Si hm
    clear hm
    subst hr10
    have hm:=hk3
    try dsimp only at hm
    cases hm
    exact W.ret1 () rfl (.t rfl) trivial
   ·exact W.skip<|WN.block<|Aq<|W.region<|WL.lenL (s:=0) (.t rfl) fun hl11=>Ao rfl (.addI1 (.t rfl) .i64 hp6 hl11)<|Am rfl rfl<|WL.nil<|WN.again n4 (v1+1) (Nat.lt_succ_self n4) hm ⟨.q rfl,.q rfl,.q rfl,.q rfl,trivial⟩ trivial
  ·refine W.exit rfl ?_
   have hr12:=Si hm
   clear hm
   subst hr12
   have hm:=hk3
   try dsimp only at hm
   refine Aq<|Aw<|Ao rfl (.assign .i64)<|WL.ns ?_
   cases hm
   exact W.ret1 () rfl (.t rfl) trivial
theorem slices_Contains_int_int_spec(n:Nat)(s0_:List Int)(v:Int)(r:Bool)(hm:M.slices_Contains_int_int n s0_ v=some r):FSpec Tryz.prog 158 [((tL I6).is s0_),(I6.is v)] (tB.is r):=by
 unfold M.slices_Contains_int_int at hm
 refine FSpec.of Tryz.func158 rfl rfl rfl fun g0=>Aw<|Ao rfl (.assign .bool)<|Ar<|Am rfl rfl<|WL.mv rfl rfl ?_
 obtain ⟨int,hv1,hm⟩:=Bs hm
 refine Ao rfl (.call C181 (slices_Index_int_int_spec _ _ _ _ hv1) ⟨(.t rfl),(.t rfl),trivial⟩)<|Ao rfl (.geI (.t rfl) .i64)<|Ag rfl rfl<|WL.ns ?_
 cases hm
 exact W.ret1 () rfl (.t rfl) trivial
theorem unit_CanContain_spec(n:Nat)(parent:Int)(kind:Int)(r:Bool)(hm:M.unit_CanContain n parent kind=some r):FSpecR Tryz.prog 119 [(I6.is parent),(I6.is kind)] [(700004,Gl (tA 8 (tL I6)) 4 gv4)] (fun _:Unit=>(tB.is r)) (fun _=>[]):=by
 unfold M.unit_CanContain at hm
 refine FSpecR.of Tryz.func119 rfl rfl rfl fun g0=>Aw<|Ao rfl (.assign .bool)<|Ar<|Am rfl rfl<|Ao rfl (.geI (.t rfl) .i64)<|WL.mv rfl rfl ?_
 rcases iteD hm with ⟨hp2,hb1,hm⟩ | ⟨hp2,hb1,hm⟩
 ·refine Ax rfl hb1 (.move (.t rfl))<|Ax rfl hb1 (.ltI (.t rfl) .i64)<|Ao rfl (.pickT (.t rfl) hb1 (.t rfl))<|WL.mv rfl rfl ?_
  rcases iteD hm with ⟨hp4,hb3,hm⟩ | ⟨hp4,hb3,hm⟩
  ·refine Ax rfl hb3 (.move (.t rfl)) ?_
   obtain ⟨v,hv5,hm⟩:=Bs hm
   refine WL.addG 900004 700004 rfl<|Ax rfl hb3 (.idxA hv5 U205 Z161 (Opd.glob (s:=900004) rfl) (.t rfl))<|Ax rfl hb3 (.load ty161 (.t rfl))<|Ax rfl hb3 (.move (.t rfl)) ?_
   obtain ⟨int,hv6,hm⟩:=Bs hm
   refine Ax rfl hb3 (.call C158 (slices_Contains_int_int_spec _ _ _ _ hv6) ⟨(.t rfl),(.t rfl),trivial⟩)<|Ao rfl (.pickT (.t rfl) hb3 (.t rfl))<|Ag rfl rfl<|WL.ns ?_
   cases hm
   exact W.ret1 () rfl (.t rfl) trivial
  ·refine Ap rfl hb3<|Ap rfl hb3<|Ap rfl hb3<|Ap rfl hb3<|Ap rfl hb3<|Ao rfl (.pickF (.t rfl) hb3 .bool)<|Ag rfl rfl<|WL.ns ?_
   cases hm
   exact W.ret1 () rfl (.t rfl) trivial
 ·refine Ap rfl hb1<|Ap rfl hb1<|Ao rfl (.pickF (.t rfl) hb1 .bool)<|Am rfl rfl<|Ap rfl rfl<|Ap rfl rfl<|Ap rfl rfl<|Ap rfl rfl<|Ap rfl rfl<|Ao rfl (.pickF (.t rfl) rfl .bool)<|Ag rfl rfl<|WL.ns ?_
  cases hm
  exact W.ret1 () rfl (.t rfl) trivial
theorem unit_alone_spec(n:Nat)(u:api_Unit)(r:Bool)(hm:M.unit_alone n u=some r):FSpecR Tryz.prog 80 [(tapi_Unit.is u)] [(700002,Gl (tA 8 tS) 2 gv2),(700004,Gl (tA 8 (tL I6)) 4 gv4)] (fun _:Unit=>(tB.is r)) (fun _=>[]):=by
 unfold M.unit_alone at hm
 refine FSpecR.of Tryz.func80 rfl rfl rfl fun g0=>Aw<|Ao rfl (.box (.t rfl))<|Ao rfl (.assign .bool)<|WL.ns ?_
 obtain ⟨s1,hs2,hk3⟩:=Bs hm
 clear hm
 refine W.join (fun s:Unit=>(Sum.inl s:Unit ⊕ Bool)=s1) (fun s=>[(1,(tapi_Unit.ptr u))]) (fun s=>[(700002,Gl (tA 8 tS) 2 gv2),(700004,Gl (tA 8 (tL I6)) 4 gv4)]) ?_ ?_
 ·rintro _ hj49
  try dsimp only at hj49
  subst hj49
  have hm:=hk3
  clear hk3
  try dsimp only at hm
  change W _ _ _ _ _ _ _ [(1,(tapi_Unit.ptr u))] [(700002,Gl (tA 8 tS) 2 gv2),(700004,Gl (tA 8 (tL I6)) 4 gv4)]
  refine Aw<|WL.opR rfl (OpR.makeMapQ tunit_called tB 45) fun b=>Ag rfl rfl<|An<|W.seq<|Aw<|Ao rfl (.fieldAddr U27 rfl J25 fapi_Unit_5 (.t rfl))<|Ao rfl (.load ty25 (.t rfl))<|Ao rfl (.lenL U25 (.t rfl))<|Ao rfl (.move .i64)<|An<|W.block ?_
  obtain ⟨s29,hs30,hk31⟩:=Bs hm
  clear hm
  refine W.loop (fun m (s:Int×List api_Unit×List api_Unit×((List (unit_called×Bool))))=>m=s.2.2.1.length∧u.Kids=s.2.1++s.2.2.1∧s.1=(s.2.1.length:Int)∧M.unit_alone_loop1 n u s.2.2.1 s.2.2.2=some s29) (fun s=>[(49,(I6.is s.1)),(1,(tapi_Unit.ptr u)),(3,(Mv b)),(47,((tL tapi_Unit).is u.Kids)),(48,(I6.is (u.Kids.length:Int)))]) (fun s=>[(45,Mq tunit_called tB s.2.2.2 b),(700002,Gl (tA 8 tS) 2 gv2),(700004,Gl (tA 8 (tL I6)) 4 gv4)]) u.Kids.length ((0:Int),[],u.Kids,([]:List (unit_called×Bool))) ⟨rfl,rfl,rfl,hs30⟩ ⟨.q rfl,.q rfl,.q rfl,.q rfl,.q rfl,trivial⟩ ⟨rfl,rfl,⟨rfl,rfl,⟨rfl,rfl,trivial⟩⟩⟩ ?_
  rintro m ⟨i,pre,rest1,v1⟩ ⟨hn35,hxs32,hi33,hm⟩
  try dsimp only at hn35 hxs32 hi33 hm
  change W _ _ _ _ _ _ _ [(49,(I6.is i)),(1,(tapi_Unit.ptr u)),(3,(Mv b)),(47,((tL tapi_Unit).is u.Kids)),(48,(I6.is (u.Kids.length:Int)))] [(45,Mq tunit_called tB v1 b),(700002,Gl (tA 8 tS) 2 gv2),(700004,Gl (tA 8 (tL I6)) 4 gv4)]
  refine W.lenL (s:=47) (.t rfl) fun hlen34=>Aw<|Ao rfl (.ltI (.t rfl) (.t rfl))<|An<|W.seq<|W.cond (.t rfl) (fun hc37=>?_) (fun hc37=>?_)
  ·have hp38:=of_decide_eq_true hc37
   obtain ⟨e,es,hrest40⟩:=range_more hxs32 hi33 hp38
   subst hrest40
   rw [M.unit_alone_loop1.eq_2] at hm
   refine W.skip<|Aq<|W.seq<|W.block<|Aw<|Ao rfl (.idxPre hxs32 hi33 U25 Z27 (.t rfl) (.t rfl))<|Ao rfl (.load ty27 (.t rfl))<|WL.opR rfl (OpR.alloc 5 ze27) fun b1=>WL.opU (OpR.storeB (b:=b1) 5 Z27 (Cellable.is tapi_Unit e) rfl (.t rfl) (.t rfl)) fun _=>WL.sealed (t:=tapi_Unit) (u:=e) 5 5 rfl rfl<|Ar<|Ao rfl (.fieldAddr U27 rfl J3 fapi_Unit_1 (.t rfl))<|Ao rfl (.load ty3 (.t rfl))<|Ao rfl (.fieldAddr U27 rfl J9 fapi_Unit_2 (.t rfl))<|Ao rfl (.load ty9 (.t rfl))<|Ao rfl (.build (s:=tunit_called) (x:=(⟨e.Kind,e.Label⟩:unit_called)) zunit_called_f rfl Tryz.underlying166 (zunit_called_sz _ Tryz.underlying166) ze166 ⟨_,I6,e.Kind,_,_,rfl,Z3,(.t rfl),sunit_called_0,⟨_,tS,e.Label,_,_,rfl,Z9,(.t rfl),sunit_called_1,rfl⟩⟩) ?_
   refine WL.opR rfl (OpR.alloc 6 ze166) fun b2=>WL.opU (OpR.storeB (b:=b2) 6 Z166 (Cellable.is tunit_called (⟨e.Kind,e.Label⟩:unit_called)) rfl (.t rfl) (.t rfl)) fun _=>WL.sealed (t:=tunit_called) (u:=(⟨e.Kind,e.Label⟩:unit_called)) 6 6 rfl rfl<|An<|W.seq<|Aw<|Ao rfl (.fieldAddr U27 rfl J3 fapi_Unit_1 (.t rfl))<|Ao rfl (.load ty3 (.t rfl))<|Ao rfl (.fieldAddr U27 rfl J3 fapi_Unit_1 (.t rfl))<|Ao rfl (.load ty3 (.t rfl)) ?_
   obtain ⟨cancon,hv41,hm⟩:=Bs hm
   refine Ao rfl (.callG (rin:=[(700004,Gl (tA 8 (tL I6)) 4 gv4)]) C119 (unit_CanContain_spec _ _ _ _ hv41) ⟨rfl,trivial⟩ ⟨rfl,rfl,trivial⟩ ⟨(.t rfl),(.t rfl),trivial⟩)<|Ao rfl (.notB (.t rfl))<|WL.mv rfl rfl ?_
   rcases iteR hm with ⟨hp43,hb42,hm⟩ | ⟨hp43,hb42,hm⟩
   ·refine Ap rfl hb42<|Ap rfl hb42<|Ap rfl hb42<|Ao rfl (.pickT (.t rfl) hb42 .bool)<|An<|W.condT (.t rfl)<|Aw<|Ao rfl (.assign .bool)<|WL.ns ?_
    have hr44:=Si hm
    clear hm
    subst hr44
    have hm:=hk31
    try dsimp only at hm
    cases hm
    exact W.ret1 () rfl (.t rfl) trivial
   ·refine Ax rfl hb42 (.move (.t rfl))<|Ax rfl hb42 (.load ty166 (.t rfl))<|Ax rfl hb42 (.lookupQ 45 U164 kt166 ze4 rfl (.t rfl) (.t rfl))<|Ao rfl (.pickF (.t rfl) hb42 (.t rfl))<|An<|W.cB hm (.t rfl) (fun hp46 hm=>?_) (fun hp46 hm=>?_)
    ·refine Aw<|Ao rfl (.assign .bool)<|WL.ns ?_
     have hr47:=Si hm
     clear hm
     subst hr47
     have hm:=hk31
     try dsimp only at hm
     cases hm
     exact W.ret1 () rfl (.t rfl) trivial
    ·exact W.skip<|Aq<|W.region<|Am rfl rfl<|Ao rfl (.load ty166 (.t rfl))<|WL.opU (OpR.mapUpdateQ (b:=b) (v:=true) 45 U164 kt166 rfl (.t rfl) (.t rfl) .bool) fun _=>WL.nil<|WN.block<|Aq<|W.region<|Ao rfl (.addI (.t rfl) .i64 (range_inR hi33 hp38 hlen34))<|Am rfl rfl<|WL.nil<|WN.again es.length (i+1,pre++ [e],es,mset v1 (⟨e.Kind,e.Label⟩:unit_called) true) (range_lt hn35) ⟨rfl,range_step hxs32,range_idx hi33,hm⟩ ⟨.q rfl,.q rfl,.q rfl,.q rfl,.q rfl,trivial⟩ ⟨rfl,rfl,⟨rfl,rfl,⟨rfl,rfl,trivial⟩⟩⟩
  ·have hrest40:=range_end hxs32 hi33 (of_decide_eq_false hc37)
   subst hrest40
   rw [M.unit_alone_loop1.eq_1] at hm
   refine W.exit rfl ?_
   have hr48:=Si hm
   clear hm
   subst hr48
   have hm:=hk31
   try dsimp only at hm
   refine Aq<|Aw<|Ao rfl (.fieldAddr U27 rfl J25 fapi_Unit_5 (.t rfl))<|Ao rfl (.load ty25 (.t rfl))<|Ao rfl (.lenL U25 (.t rfl))<|Ao rfl (.leI (.t rfl) .i64)<|Ag rfl rfl<|WL.ns ?_
   cases hm
   exact W.ret1 () rfl (.t rfl) trivial
 ·have hm:=hs2
  clear hs2
  refine Aw<|Ao rfl (.fieldAddr U27 rfl J3 fapi_Unit_1 (.t rfl))<|Ao rfl (.load ty3 (.t rfl))<|Ao rfl (.eqI (.t rfl) .i64)<|An<|W.cD hm (.t rfl) (fun hp5 hm=>?_) (fun hp5 hm=>?_)
  ·refine Aw<|Ao rfl (.fieldAddr U27 rfl J9 fapi_Unit_2 (.t rfl))<|Ao rfl (.load ty9 (.t rfl))<|Ao rfl (.neS (.t rfl) (.str rfl (by decide)))<|WL.mv rfl rfl ?_
   rcases iteB hm with ⟨hp7,hb6,hm⟩ | ⟨hp7,hb6,hm⟩
   ·refine Ap rfl hb6<|Ap rfl hb6<|Ap rfl hb6<|Ap rfl hb6<|Ap rfl hb6<|Ap rfl hb6<|Ap rfl hb6<|Ap rfl hb6<|Ao rfl (.pickT (.t rfl) hb6 .bool)<|An<|W.condT (.t rfl)<|Aw<|Ao rfl (.assign .bool)<|WL.ns ?_
    have hr8:=Si hm
    clear hm
    subst hr8
    have hm:=hk3
    try dsimp only at hm
    cases hm
    exact W.ret1 () rfl (.t rfl) trivial
   ·refine Ax rfl hb6 (.fieldAddr U27 rfl J24 fapi_Unit_3 (.t rfl))<|Ax rfl hb6 (.load ty24 (.t rfl))<|Ax rfl hb6 (.lenL U24 (.t rfl))<|Ax rfl hb6 (.fieldAddr U27 rfl J24 fapi_Unit_4 (.t rfl))<|Ax rfl hb6 (.load ty24 (.t rfl))<|Ax rfl hb6 (.lenL U24 (.t rfl)) ?_
    obtain ⟨v,hv9,hm⟩:=Bs hm
    refine Ax rfl hb6 (.addC hv9 (.t rfl) (.t rfl))<|Ax rfl hb6 (.gtI (.t rfl) .i64)<|Ao rfl (.pickF (.t rfl) hb6 (.t rfl))<|An<|W.cD hm (.t rfl) (fun hp11 hm=>?_) (fun hp11 hm=>?_)
    ·refine Aw<|Ao rfl (.assign .bool)<|WL.ns ?_
     have hr12:=Si hm
     clear hm
     subst hr12
     have hm:=hk3
     try dsimp only at hm
     cases hm
     exact W.ret1 () rfl (.t rfl) trivial
    ·exact W.skip<|WN.meet () (Si hm) ⟨.q rfl,trivial⟩ ⟨rfl,rfl,⟨rfl,rfl,trivial⟩⟩
  ·refine Aw<|Ao rfl (.fieldAddr U27 rfl J3 fapi_Unit_1 (.t rfl))<|Ao rfl (.load ty3 (.t rfl)) ?_
   obtain ⟨kindna,hv13,hm⟩:=Bs hm
   refine Ao rfl (.callG (rin:=[(700002,Gl (tA 8 tS) 2 gv2)]) C65 (unit_KindName_spec _ _ hv13) ⟨rfl,trivial⟩ ⟨rfl,rfl,trivial⟩ ⟨(.t rfl),trivial⟩)<|Ao rfl (.eqS (.t rfl) (.str rfl (by decide)))<|WL.mv rfl rfl ?_
   rcases iteB hm with ⟨hp15,hb14,hm⟩ | ⟨hp15,hb14,hm⟩
   ·refine Ap rfl hb14<|Ap rfl hb14<|Ap rfl hb14<|Ap rfl hb14<|Ao rfl (.pickT (.t rfl) hb14 .bool)<|Am rfl rfl<|Ap rfl rfl<|Ap rfl rfl<|Ap rfl rfl<|Ap rfl rfl<|Ao rfl (.pickT (.t rfl) rfl .bool)<|Am rfl rfl<|Ap rfl rfl<|Ap rfl rfl<|Ap rfl rfl<|Ap rfl rfl ?_
    refine Ao rfl (.pickT (.t rfl) rfl .bool)<|An<|W.condT (.t rfl)<|Aw<|Ao rfl (.assign .bool)<|WL.ns ?_
    have hr16:=Si hm
    clear hm
    subst hr16
    have hm:=hk3
    try dsimp only at hm
    cases hm
    exact W.ret1 () rfl (.t rfl) trivial
   ·refine Ax rfl hb14 (.fieldAddr U27 rfl J9 fapi_Unit_2 (.t rfl))<|Ax rfl hb14 (.load ty9 (.t rfl)) ?_
    obtain ⟨valid,hv17,hm⟩:=Bs hm
    refine Ax rfl hb14 (.call C95 (label_Valid_spec _ _ _ hv17) ⟨(.t rfl),trivial⟩)<|Ax rfl hb14 (.notB (.t rfl))<|Ao rfl (.pickF (.t rfl) hb14 (.t rfl))<|WL.mv rfl rfl ?_
    rcases iteR hm with ⟨hp19,hb18,hm⟩ | ⟨hp19,hb18,hm⟩
    ·refine Ap rfl hb18<|Ap rfl hb18<|Ap rfl hb18<|Ap rfl hb18<|Ao rfl (.pickT (.t rfl) hb18 .bool)<|Am rfl rfl<|Ap rfl rfl<|Ap rfl rfl<|Ap rfl rfl<|Ap rfl rfl<|Ao rfl (.pickT (.t rfl) rfl .bool)<|An<|W.condT (.t rfl)<|Aw<|Ao rfl (.assign .bool)<|WL.ns ?_
     have hr20:=Si hm
     clear hm
     subst hr20
     have hm:=hk3
     try dsimp only at hm
     cases hm
     exact W.ret1 () rfl (.t rfl) trivial
    ·refine Ax rfl hb18 (.fieldAddr U27 rfl J24 fapi_Unit_3 (.t rfl))<|Ax rfl hb18 (.load ty24 (.t rfl)) ?_
     obtain ⟨row,hv21,hm⟩:=Bs hm
     refine Ax rfl hb18 (.call C118 (unit_row_spec _ _ _ hv21) ⟨(.t rfl),trivial⟩)<|Ax rfl hb18 (.notB (.t rfl))<|Ao rfl (.pickF (.t rfl) hb18 (.t rfl))<|WL.mv rfl rfl ?_
     rcases iteR hm with ⟨hp23,hb22,hm⟩ | ⟨hp23,hb22,hm⟩
     ·refine Ap rfl hb22<|Ap rfl hb22<|Ap rfl hb22<|Ap rfl hb22<|Ao rfl (.pickT (.t rfl) hb22 .bool)<|An<|W.condT (.t rfl)<|Aw<|Ao rfl (.assign .bool)<|WL.ns ?_
      have hr24:=Si hm
      clear hm
      subst hr24
      have hm:=hk3
      try dsimp only at hm
      cases hm
      exact W.ret1 () rfl (.t rfl) trivial
     ·refine Ax rfl hb22 (.fieldAddr U27 rfl J24 fapi_Unit_4 (.t rfl))<|Ax rfl hb22 (.load ty24 (.t rfl)) ?_
      obtain ⟨row1,hv25,hm⟩:=Bs hm
      refine Ax rfl hb22 (.call C118 (unit_row_spec _ _ _ hv25) ⟨(.t rfl),trivial⟩)<|Ax rfl hb22 (.notB (.t rfl))<|Ao rfl (.pickF (.t rfl) hb22 (.t rfl))<|An<|W.cR hm (.t rfl) (fun hp27 hm=>?_) (fun hp27 hm=>?_)
      ·refine Aw<|Ao rfl (.assign .bool)<|WL.ns ?_
       have hr28:=Si hm
       clear hm
       subst hr28
       have hm:=hk3
       try dsimp only at hm
       cases hm
       exact W.ret1 () rfl (.t rfl) trivial
      ·exact W.skip<|WN.meet () (Si hm) ⟨.q rfl,trivial⟩ ⟨rfl,rfl,⟨rfl,rfl,trivial⟩⟩
theorem unit_every_i0_spec:∀ (n:Nat) (u:api_Unit) (r:Bool),M.unit_every_i0 n u=some r→FSpecR Tryz.prog 79 [(tapi_Unit.is u),(cloA 80 [])] [(700002,Gl (tA 8 tS) 2 gv2),(700004,Gl (tA 8 (tL I6)) 4 gv4)] (fun kx:Unit=>(tB.is r)) (fun kx:Unit=>[(700002,Gl (tA 8 tS) 2 gv2),(700004,Gl (tA 8 (tL I6)) 4 gv4)]):=by
 intro n
 induction n with
 | zero=>intro u r hm;cases hm
 | succ n ih=>
  intro u r hm
  rw [M.unit_every_i0.eq_2] at hm
  refine FSpecR.of Tryz.func79 rfl rfl rfl fun g0=>Aw<|Ao rfl (.box (.t rfl))<|Ao rfl (.assign .bool)<|An<|W.seq<|Aw<|Am rfl rfl<|Ao rfl (.load ty27 (.t rfl)) ?_
  obtain ⟨alone,hv1,hm⟩:=Bs hm
  refine Ao rfl (.callCloG (As:=[tapi_Unit.is u]) (rin:=[(700002,Gl (tA 8 tS) 2 gv2),(700004,Gl (tA 8 (tL I6)) 4 gv4)]) C80 (.t rfl) (unit_alone_spec _ _ _ hv1) ⟨rfl,rfl,trivial⟩ ⟨rfl,rfl,⟨rfl,rfl,trivial⟩⟩ ⟨(.t rfl),trivial⟩)<|Ao rfl (.notB (.t rfl))<|An<|W.cR hm (.t rfl) (fun hp3 hm=>?_) (fun hp3 hm=>?_)
  ·refine Aw<|Ao rfl (.assign .bool)<|WL.ns ?_
   cases hm
   exact W.ret1 () rfl (.t rfl) ⟨rfl,rfl,⟨rfl,rfl,trivial⟩⟩
  ·refine W.skip<|Aq<|W.seq<|Aw<|Ao rfl (.fieldAddr U27 rfl J25 fapi_Unit_5 (.t rfl))<|Ao rfl (.load ty25 (.t rfl))<|Ao rfl (.lenL U25 (.t rfl))<|Ao rfl (.move .i64)<|An<|W.block ?_
   obtain ⟨s4,hs5,hk6⟩:=Bs hm
   clear hm
   refine W.loop (fun m (s:Int×List api_Unit×List api_Unit×Unit)=>m=s.2.2.1.length∧u.Kids=s.2.1++s.2.2.1∧s.1=(s.2.1.length:Int)∧M.unit_every_i0_loop1 (M.unit_every_i0 n) s.2.2.1=some s4) (fun s=>[(14,(I6.is s.1)),(1,(cloA 80 [])),(12,((tL tapi_Unit).is u.Kids)),(13,(I6.is (u.Kids.length:Int)))]) (fun s=>[(700002,Gl (tA 8 tS) 2 gv2),(700004,Gl (tA 8 (tL I6)) 4 gv4)]) u.Kids.length ((0:Int),[],u.Kids,()) ⟨rfl,rfl,rfl,hs5⟩ ⟨.q rfl,.q rfl,.q rfl,.q rfl,trivial⟩ ⟨rfl,rfl,⟨rfl,rfl,trivial⟩⟩ ?_
   rintro m ⟨i,pre,rest1,_⟩ ⟨hn10,hxs7,hi8,hm⟩
   try dsimp only at hn10 hxs7 hi8 hm
   change W _ _ _ _ _ _ _ [(14,(I6.is i)),(1,(cloA 80 [])),(12,((tL tapi_Unit).is u.Kids)),(13,(I6.is (u.Kids.length:Int)))] [(700002,Gl (tA 8 tS) 2 gv2),(700004,Gl (tA 8 (tL I6)) 4 gv4)]
   refine W.lenL (s:=12) (.t rfl) fun hlen9=>Aw<|Ao rfl (.ltI (.t rfl) (.t rfl))<|An<|W.seq<|W.cond (.t rfl) (fun hc12=>?_) (fun hc12=>?_)
   ·have hp13:=of_decide_eq_true hc12
    obtain ⟨e,es,hrest15⟩:=range_more hxs7 hi8 hp13
    subst hrest15
    rw [M.unit_every_i0_loop1.eq_2] at hm
    refine W.skip<|Aq<|W.seq<|W.block<|Aw<|Ao rfl (.idxPre hxs7 hi8 U25 Z27 (.t rfl) (.t rfl))<|Ao rfl (.load ty27 (.t rfl))<|WL.opR rfl (OpR.alloc 6 ze27) fun b=>WL.opU (OpR.storeB (b:=b) 6 Z27 (Cellable.is tapi_Unit e) rfl (.t rfl) (.t rfl)) fun _=>WL.sealed (t:=tapi_Unit) (u:=e) 6 6 rfl rfl<|Ar<|Ao rfl (.load ty27 (.t rfl))<|WL.mv rfl rfl ?_
    obtain ⟨every,hv16,hm⟩:=Bs hm
    refine Ao rfl (.callG (rin:=[(700002,Gl (tA 8 tS) 2 gv2),(700004,Gl (tA 8 (tL I6)) 4 gv4)]) C79 (ih _ _ hv16) ⟨rfl,rfl,trivial⟩ ⟨rfl,rfl,⟨rfl,rfl,trivial⟩⟩ ⟨(.t rfl),(.t rfl),trivial⟩)<|Ao rfl (.notB (.t rfl))<|An<|W.cR hm (.t rfl) (fun hp18 hm=>?_) (fun hp18 hm=>?_)
    ·refine Aw<|Ao rfl (.assign .bool)<|WL.ns ?_
     have hr19:=Si hm
     clear hm
     subst hr19
     have hm:=hk6
     try dsimp only at hm
     cases hm
     exact W.ret1 () rfl (.t rfl) ⟨rfl,rfl,⟨rfl,rfl,trivial⟩⟩
    ·exact W.skip<|WN.block<|Aq<|W.region<|Ao rfl (.addI (.t rfl) .i64 (range_inR hi8 hp13 hlen9))<|Am rfl rfl<|WL.nil<|WN.again es.length (i+1,pre++ [e],es,()) (range_lt hn10) ⟨rfl,range_step hxs7,range_idx hi8,hm⟩ ⟨.q rfl,.q rfl,.q rfl,.q rfl,trivial⟩ ⟨rfl,rfl,⟨rfl,rfl,trivial⟩⟩
   ·have hrest15:=range_end hxs7 hi8 (of_decide_eq_false hc12)
    subst hrest15
    rw [M.unit_every_i0_loop1.eq_1] at hm
    refine W.exit rfl ?_
    have hr20:=Si hm
    clear hm
    subst hr20
    have hm:=hk6
    try dsimp only at hm
    refine Aq<|Aw<|Ao rfl (.assign .bool)<|WL.ns ?_
    cases hm
    exact W.ret1 () rfl (.t rfl) ⟨rfl,rfl,⟨rfl,rfl,trivial⟩⟩
theorem unit_Depth_spec:∀ (n:Nat) (u:api_Unit) (r:Int),M.unit_Depth n u=some r→FSpec Tryz.prog 81 [(tapi_Unit.is u)] (I6.is r):=by
 intro n
 induction n with
 | zero=>intro u r hm;cases hm
 | succ n ih=>
  intro u r hm
  rw [M.unit_Depth.eq_2] at hm
  refine FSpec.of Tryz.func81 rfl rfl rfl fun g0=>Aw<|Ao rfl (.box (.t rfl))<|Ao rfl (.assign .i64)<|Ar<|Ao rfl (.assign .i64)<|An<|W.seq<|Aw<|Ao rfl (.fieldAddr U27 rfl J25 fapi_Unit_5 (.t rfl))<|Ao rfl (.load ty25 (.t rfl))<|Ao rfl (.lenL U25 (.t rfl))<|Ao rfl (.move .i64)<|An<|W.block ?_
  obtain ⟨s1,hs2,hk3⟩:=Bs hm
  clear hm
  refine W.loop (fun m (s:Int×List api_Unit×List api_Unit×Int)=>m=s.2.2.1.length∧u.Kids=s.2.1++s.2.2.1∧s.1=(s.2.1.length:Int)∧M.unit_Depth_loop1 (M.unit_Depth n) s.2.2.1 s.2.2.2=some s1) (fun s=>[(9,(I6.is s.1)),(3,(I6.is s.2.2.2)),(7,((tL tapi_Unit).is u.Kids)),(8,(I6.is (u.Kids.length:Int)))]) (fun s=>[]) u.Kids.length ((0:Int),[],u.Kids,(0:Int)) ⟨rfl,rfl,rfl,hs2⟩ ⟨.q rfl,.q rfl,.q rfl,.q rfl,trivial⟩ trivial ?_
  rintro m ⟨i,pre,rest1,deep⟩ ⟨hn7,hxs4,hi5,hm⟩
  try dsimp only at hn7 hxs4 hi5 hm
  change W _ _ _ _ _ _ _ [(9,(I6.is i)),(3,(I6.is deep)),(7,((tL tapi_Unit).is u.Kids)),(8,(I6.is (u.Kids.length:Int)))] []
  refine W.lenL (s:=7) (.t rfl) fun hlen6=>Aw<|Ao rfl (.ltI (.t rfl) (.t rfl))<|An<|W.seq<|W.cond (.t rfl) (fun hc9=>?_) (fun hc9=>?_)
  ·have hp10:=of_decide_eq_true hc9
   obtain ⟨e,es,hrest12⟩:=range_more hxs4 hi5 hp10
   subst hrest12
   rw [M.unit_Depth_loop1.eq_2] at hm
   refine W.skip<|Aq<|W.seq<|W.block<|Aw<|Ao rfl (.idxPre hxs4 hi5 U25 Z27 (.t rfl) (.t rfl))<|Ao rfl (.load ty27 (.t rfl))<|WL.opR rfl (OpR.alloc 5 ze27) fun b=>WL.opU (OpR.storeB (b:=b) 5 Z27 (Cellable.is tapi_Unit e) rfl (.t rfl) (.t rfl)) fun _=>WL.sealed (t:=tapi_Unit) (u:=e) 5 5 rfl rfl<|WL.nr1<|Am rfl rfl<|Ao rfl (.load ty27 (.t rfl)) ?_
   obtain ⟨depth,hv13,hm⟩:=Bs hm
   refine Ao rfl (.call C81 (ih _ _ hv13) ⟨(.t rfl),trivial⟩) ?_
   obtain ⟨v,hv14,hm⟩:=Bs hm
   exact Ao rfl (.addC hv14 .i64 (.t rfl))<|Ao rfl (.maxI (.t rfl) (.t rfl))<|Ag rfl rfl<|WL.nil<|WN.block<|Aq<|W.region<|Ao rfl (.addI (.t rfl) .i64 (range_inR hi5 hp10 hlen6))<|Am rfl rfl<|WL.nil<|WN.again es.length (i+1,pre++ [e],es,max deep v) (range_lt hn7) ⟨rfl,range_step hxs4,range_idx hi5,hm⟩ ⟨.q rfl,.q rfl,.q rfl,.q rfl,trivial⟩ trivial
  ·have hrest12:=range_end hxs4 hi5 (of_decide_eq_false hc9)
   subst hrest12
   rw [M.unit_Depth_loop1.eq_1] at hm
   refine W.exit rfl ?_
   have hr15:=Si hm
   clear hm
   subst hr15
   have hm:=hk3
   try dsimp only at hm
   refine Aq<|Aw<|Am rfl rfl<|Ag rfl rfl<|WL.ns ?_
   cases hm
   exact W.ret1 () rfl (.t rfl) trivial
theorem unit_Count_1_spec(a:api_Unit)(c:Int)(b:Nat)(r:Bool×Int)(hm:M.unit_Count_1 a c=some r):FSpecR Tryz.prog 83 [(tapi_Unit.is a),(Bp b 0)] [(1,(Bx 1 false 3 (I6.is c) b))] (fun kx:Unit=>(tB.is r.1)) (fun kx:Unit=>[(1,(Bx 1 false 3 (I6.is r.2) b))]):=by
 unfold M.unit_Count_1 at hm
 refine FSpecR.of Tryz.func83 rfl rfl rfl fun g0=>Aw<|Ao rfl (.box (.t rfl))<|Ao rfl (.assign .bool)<|Ar<|Ao rfl (.loadB 1 Y3 Z3 rfl (.t rfl)) ?_
 obtain ⟨v,hv1,hm⟩:=Bs hm
 refine Ao rfl (.addC hv1 (.t rfl) .i64)<|WL.opU (OpR.storeB (b:=b) 1 Z3 (Cellable.is I6 v) rfl (.t rfl) (.t rfl)) fun _=>Ar<|Ao rfl (.assign .bool)<|WL.ns ?_
 cases hm
 exact W.ret1 () rfl (.t rfl) ⟨rfl,rfl,trivial⟩
theorem unit_every_i1_spec:∀ (n:Nat) (u:api_Unit) (c:Int) (b:Nat) (r:Bool×Int),M.unit_every_i1 n u c=some r→FSpecR Tryz.prog 79 [(tapi_Unit.is u),(cloA 83 [(Bp b 0)])] [(500100,(Bx 1 false 3 (I6.is c) b))] (fun kx:Unit=>(tB.is r.1)) (fun kx:Unit=>[(500100,(Bx 1 false 3 (I6.is r.2) b))]):=by
 intro n
 induction n with
 | zero=>intro u c b r hm;cases hm
 | succ n ih=>
  intro u c b r hm
  rw [M.unit_every_i1.eq_2] at hm
  refine FSpecR.of Tryz.func79 rfl rfl rfl fun g0=>Aw<|Ao rfl (.box (.t rfl))<|Ao rfl (.assign .bool)<|An<|W.seq<|Aw<|Am rfl rfl<|Ao rfl (.load ty27 (.t rfl)) ?_
  obtain ⟨⟨v1_,w⟩,hv1,hm⟩:=Bs hm
  dsimp only at hm
  refine WL.weakR (res':=[(500100,(Bx 1 false 3 (I6.is c) b))]) ⟨rfl,rfl,trivial⟩<|WL.opR rfl (OpR.callClo (us:=[500100]) (A:=fun kx:Unit=>(tB.is v1_)) (As:=[tapi_Unit.is u]) C83 (.t rfl) (FSpecR.keys (rin':=[(500100,(Bx 1 false 3 (I6.is c) b))]) (out':=fun kx:Unit=>[(500100,(Bx 1 false 3 (I6.is w) b))]) (unit_Count_1_spec _ _ _ _ hv1) rfl (fun _=>rfl)) rfl ⟨(.t rfl),trivial⟩) fun _=>Ao rfl (.notB (.t rfl))<|An<|W.cR hm (.t rfl) (fun hp3 hm=>?_) (fun hp3 hm=>?_)
  ·refine Aw<|Ao rfl (.assign .bool)<|WL.ns ?_
   cases hm
   exact W.ret1 () rfl (.t rfl) ⟨rfl,rfl,trivial⟩
  ·refine W.skip<|Aq<|W.seq<|Aw<|Ao rfl (.fieldAddr U27 rfl J25 fapi_Unit_5 (.t rfl))<|Ao rfl (.load ty25 (.t rfl))<|Ao rfl (.lenL U25 (.t rfl))<|Ao rfl (.move .i64)<|An<|W.block ?_
   obtain ⟨s4,hs5,hk6⟩:=Bs hm
   clear hm
   refine W.loop (fun m (s:Int×List api_Unit×List api_Unit×Int)=>m=s.2.2.1.length∧u.Kids=s.2.1++s.2.2.1∧s.1=(s.2.1.length:Int)∧M.unit_every_i1_loop1 (M.unit_every_i1 n) s.2.2.1 s.2.2.2=some s4) (fun s=>[(14,(I6.is s.1)),(1,(cloA 83 [(Bp b 0)])),(12,((tL tapi_Unit).is u.Kids)),(13,(I6.is (u.Kids.length:Int)))]) (fun s=>[(500100,(Bx 1 false 3 (I6.is s.2.2.2) b))]) u.Kids.length ((0:Int),[],u.Kids,w) ⟨rfl,rfl,rfl,hs5⟩ ⟨.q rfl,.q rfl,.q rfl,.q rfl,trivial⟩ ⟨rfl,rfl,trivial⟩ ?_
   rintro m ⟨i,pre,rest1,v⟩ ⟨hn10,hxs7,hi8,hm⟩
   try dsimp only at hn10 hxs7 hi8 hm
   change W _ _ _ _ _ _ _ [(14,(I6.is i)),(1,(cloA 83 [(Bp b 0)])),(12,((tL tapi_Unit).is u.Kids)),(13,(I6.is (u.Kids.length:Int)))] [(500100,(Bx 1 false 3 (I6.is v) b))]
   refine W.lenL (s:=12) (.t rfl) fun hlen9=>Aw<|Ao rfl (.ltI (.t rfl) (.t rfl))<|An<|W.seq<|W.cond (.t rfl) (fun hc12=>?_) (fun hc12=>?_)
   ·have hp13:=of_decide_eq_true hc12
    obtain ⟨e,es,hrest15⟩:=range_more hxs7 hi8 hp13
    subst hrest15
    rw [M.unit_every_i1_loop1.eq_2] at hm
    refine W.skip<|Aq<|W.seq<|W.block<|Aw<|Ao rfl (.idxPre hxs7 hi8 U25 Z27 (.t rfl) (.t rfl))<|Ao rfl (.load ty27 (.t rfl))<|WL.opR rfl (OpR.alloc 6 ze27) fun b1=>WL.opU (OpR.storeB (b:=b1) 6 Z27 (Cellable.is tapi_Unit e) rfl (.t rfl) (.t rfl)) fun _=>WL.sealed (t:=tapi_Unit) (u:=e) 6 6 rfl rfl<|Ar<|Ao rfl (.load ty27 (.t rfl))<|WL.mv rfl rfl ?_
    obtain ⟨⟨every,w1⟩,hv16,hm⟩:=Bs hm
    dsimp only at hm
    refine WL.weakR (res':=[(500100,(Bx 1 false 3 (I6.is v) b))]) ⟨rfl,rfl,trivial⟩<|WL.opR rfl (OpR.call (us:=[500100]) (A:=fun kx:Unit=>(tB.is every)) C79 (FSpecR.keys (rin':=[(500100,(Bx 1 false 3 (I6.is v) b))]) (out':=fun kx:Unit=>[(500100,(Bx 1 false 3 (I6.is w1) b))]) (ih _ _ _ _ hv16) rfl (fun _=>rfl)) rfl ⟨(.t rfl),(.t rfl),trivial⟩) fun _=>Ao rfl (.notB (.t rfl))<|An<|W.cR hm (.t rfl) (fun hp18 hm=>?_) (fun hp18 hm=>?_)
    ·refine Aw<|Ao rfl (.assign .bool)<|WL.ns ?_
     have hr19:=Si hm
     clear hm
     subst hr19
     have hm:=hk6
     try dsimp only at hm
     cases hm
     exact W.ret1 () rfl (.t rfl) ⟨rfl,rfl,trivial⟩
    ·exact W.skip<|WN.block<|Aq<|W.region<|Ao rfl (.addI (.t rfl) .i64 (range_inR hi8 hp13 hlen9))<|Am rfl rfl<|WL.nil<|WN.again es.length (i+1,pre++ [e],es,w1) (range_lt hn10) ⟨rfl,range_step hxs7,range_idx hi8,hm⟩ ⟨.q rfl,.q rfl,.q rfl,.q rfl,trivial⟩ ⟨rfl,rfl,trivial⟩
   ·have hrest15:=range_end hxs7 hi8 (of_decide_eq_false hc12)
    subst hrest15
    rw [M.unit_every_i1_loop1.eq_1] at hm
    refine W.exit rfl ?_
    have hr20:=Si hm
    clear hm
    subst hr20
    have hm:=hk6
    try dsimp only at hm
    refine Aq<|Aw<|Ao rfl (.assign .bool)<|WL.ns ?_
    cases hm
    exact W.ret1 () rfl (.t rfl) ⟨rfl,rfl,trivial⟩
theorem unit_Count_spec(n:Nat)(u:api_Unit)(r:Int)(hm:M.unit_Count n u=some r):FSpec Tryz.prog 49 [(tapi_Unit.is u)] (I6.is r):=by
 unfold M.unit_Count at hm
 refine FSpec.of Tryz.func49 rfl rfl rfl fun g0=>Aw<|Ao rfl (.box (.t rfl))<|Ao rfl (.assign .i64)<|Ar<|WL.opR rfl (OpR.alloc 3 ze3) fun b=>WL.opU (OpR.storeB (b:=b) 3 Z3 (Cellable.is I6 (0:Int)) rfl (.t rfl) .i64) fun _=>Ar<|Ao rfl (.load ty27 (.t rfl))<|Ao rfl (.makeClo (Cs:=[(Bp b 0)]) (cap:=[.tmp 3]) ⟨(.t rfl),trivial⟩) ?_
 obtain ⟨⟨every,n0_⟩,hv1,hm⟩:=Bs hm
 dsimp only at hm
 refine WL.weakR (res':=[(3,(Bx 1 false 3 (I6.is (0:Int)) b))]) ⟨rfl,rfl,trivial⟩<|WL.opR rfl (OpR.call (us:=[3]) (A:=fun kx:Unit=>(tB.is every)) C79 (FSpecR.keys (rin':=[(3,(Bx 1 false 3 (I6.is (0:Int)) b))]) (out':=fun kx:Unit=>[(3,(Bx 1 false 3 (I6.is n0_) b))]) (unit_every_i1_spec _ _ _ _ _ hv1) rfl (fun _=>rfl)) rfl ⟨(.t rfl),(.t rfl),trivial⟩) fun _=>Ar<|Ao rfl (.loadB 3 Y3 Z3 rfl (.t rfl))<|Ag rfl rfl<|WL.ns ?_
 cases hm
 exact W.ret1 () rfl (.t rfl) trivial
theorem unit_IDs_1_spec(x:api_Unit)(c:List api_Id)(b:Nat)(k:Tok)(r:Bool×(List api_Id))(hm:M.unit_IDs_1 x c=some r):FSpecR Tryz.prog 159 [(tapi_Unit.is x),(Bp b 0)] [(1,(Bx 1 false 88 (tO tapi_Id k c) b)),(1000001,Dec.Own tapi_Id 23 k c.length)] (fun kx:Tok=>(tB.is r.1)) (fun kx:Tok=>[(1,(Bx 1 false 88 (tO tapi_Id kx r.2) b)),(1000001,Dec.Own tapi_Id 23 kx r.2.length)]):=by
 unfold M.unit_IDs_1 at hm
 refine FSpecR.of Tryz.func159 rfl rfl rfl fun g0=>Aw<|Ao rfl (.box (.t rfl))<|Ao rfl (.assign .bool)<|Ar<|Ao rfl (.loadB 1 Y88 Z88 rfl (.t rfl))<|Ao rfl (.fieldAddr U27 rfl J23 fapi_Unit_0 (.t rfl))<|Ao rfl (.load ty23 (.t rfl))<|Ao rfl (.buildSlice (n:=1) (ys:=[(0,x.Id)]) (z:=zapi_Id) (xs:=[x.Id]) U88 el23 ze23 ⟨rfl,(.t rfl),trivial⟩ (by simp) (by decide) rfl) ?_
 obtain ⟨out,hv1,hm⟩:=Bs hm
 refine WL.opR rfl (OpR.appC (key:=1000001) hv1 U88 el23 (.t rfl) (.t rfl) rfl) fun k1=>WL.opU (OpR.storeB (b:=b) 1 Z88 (Cellable.o tapi_Id k1 out) rfl (.t rfl) (.t rfl)) fun _=>Ar<|Ao rfl (.assign .bool)<|WL.ns ?_
 cases hm
 exact W.ret1 k1 rfl (.t rfl) ⟨rfl,rfl,⟨rfl,rfl,trivial⟩⟩
theorem unit_every_i2_spec:∀ (n:Nat) (u:api_Unit) (c:List api_Id) (b:Nat) (k:Tok) (r:Bool×(List api_Id)),M.unit_every_i2 n u c=some r→FSpecR Tryz.prog 79 [(tapi_Unit.is u),(cloA 159 [(Bp b 0)])] [(500100,(Bx 1 false 88 (tO tapi_Id k c) b)),(1500100,Dec.Own tapi_Id 23 k c.length)] (fun kx:Tok=>(tB.is r.1)) (fun kx:Tok=>[(500100,(Bx 1 false 88 (tO tapi_Id kx r.2) b)),(1500100,Dec.Own tapi_Id 23 kx r.2.length)]):=by
 intro n
 induction n with
 | zero=>intro u c b k r hm;cases hm
 | succ n ih=>
  intro u c b k r hm
  rw [M.unit_every_i2.eq_2] at hm
  refine FSpecR.of Tryz.func79 rfl rfl rfl fun g0=>Aw<|Ao rfl (.box (.t rfl))<|Ao rfl (.assign .bool)<|An<|W.seq<|Aw<|Am rfl rfl<|Ao rfl (.load ty27 (.t rfl)) ?_
  obtain ⟨⟨v1_,w⟩,hv1,hm⟩:=Bs hm
  dsimp only at hm
  refine WL.weakR (res':=[(500100,(Bx 1 false 88 (tO tapi_Id k c) b)),(1500100,Dec.Own tapi_Id 23 k c.length)]) ⟨rfl,rfl,⟨rfl,rfl,trivial⟩⟩<|WL.opR rfl (OpR.callClo (us:=[500100,1500100]) (A:=fun kx:Tok=>(tB.is v1_)) (As:=[tapi_Unit.is u]) C159 (.t rfl) (FSpecR.keys (rin':=[(500100,(Bx 1 false 88 (tO tapi_Id k c) b)),(1500100,Dec.Own tapi_Id 23 k c.length)]) (out':=fun kx:Tok=>[(500100,(Bx 1 false 88 (tO tapi_Id kx w) b)),(1500100,Dec.Own tapi_Id 23 kx w.length)]) (unit_IDs_1_spec _ _ _ _ _ hv1) rfl (fun _=>rfl)) rfl ⟨(.t rfl),trivial⟩) fun k1=>Ao rfl (.notB (.t rfl))<|An<|W.cR hm (.t rfl) (fun hp3 hm=>?_) (fun hp3 hm=>?_)
  ·refine Aw<|Ao rfl (.assign .bool)<|WL.ns ?_
   cases hm
   exact W.ret1 k1 rfl (.t rfl) ⟨rfl,rfl,⟨rfl,rfl,trivial⟩⟩
  ·refine W.skip<|Aq<|W.seq<|Aw<|Ao rfl (.fieldAddr U27 rfl J25 fapi_Unit_5 (.t rfl))<|Ao rfl (.load ty25 (.t rfl))<|Ao rfl (.lenL U25 (.t rfl))<|Ao rfl (.move .i64)<|An<|W.block ?_
   obtain ⟨s4,hs5,hk6⟩:=Bs hm
   clear hm
   refine W.loop (fun m (s:Int×List api_Unit×List api_Unit×(((List api_Id))×Tok))=>m=s.2.2.1.length∧u.Kids=s.2.1++s.2.2.1∧s.1=(s.2.1.length:Int)∧M.unit_every_i2_loop1 (M.unit_every_i2 n) s.2.2.1 s.2.2.2.1=some s4) (fun s=>[(14,(I6.is s.1)),(1,(cloA 159 [(Bp b 0)])),(12,((tL tapi_Unit).is u.Kids)),(13,(I6.is (u.Kids.length:Int)))]) (fun s=>[(1500100,Dec.Own tapi_Id 23 s.2.2.2.2 s.2.2.2.1.length),(500100,(Bx 1 false 88 (tO tapi_Id s.2.2.2.2 s.2.2.2.1) b))]) u.Kids.length ((0:Int),[],u.Kids,(w,k1)) ⟨rfl,rfl,rfl,hs5⟩ ⟨.q rfl,.q rfl,.q rfl,.q rfl,trivial⟩ ⟨rfl,rfl,⟨rfl,rfl,trivial⟩⟩ ?_
   rintro m ⟨i,pre,rest1,⟨v,k2⟩⟩ ⟨hn10,hxs7,hi8,hm⟩
   try dsimp only at hn10 hxs7 hi8 hm
   change W _ _ _ _ _ _ _ [(14,(I6.is i)),(1,(cloA 159 [(Bp b 0)])),(12,((tL tapi_Unit).is u.Kids)),(13,(I6.is (u.Kids.length:Int)))] [(1500100,Dec.Own tapi_Id 23 k2 v.length),(500100,(Bx 1 false 88 (tO tapi_Id k2 v) b))]
   refine W.lenL (s:=12) (.t rfl) fun hlen9=>Aw<|Ao rfl (.ltI (.t rfl) (.t rfl))<|An<|W.seq<|W.cond (.t rfl) (fun hc12=>?_) (fun hc12=>?_)
   ·have hp13:=of_decide_eq_true hc12
    obtain ⟨e,es,hrest15⟩:=range_more hxs7 hi8 hp13
    subst hrest15
    rw [M.unit_every_i2_loop1.eq_2] at hm
    refine W.skip<|Aq<|W.seq<|W.block<|Aw<|Ao rfl (.idxPre hxs7 hi8 U25 Z27 (.t rfl) (.t rfl))<|Ao rfl (.load ty27 (.t rfl))<|WL.opR rfl (OpR.alloc 6 ze27) fun b1=>WL.opU (OpR.storeB (b:=b1) 6 Z27 (Cellable.is tapi_Unit e) rfl (.t rfl) (.t rfl)) fun _=>WL.sealed (t:=tapi_Unit) (u:=e) 6 6 rfl rfl<|Ar<|Ao rfl (.load ty27 (.t rfl))<|WL.mv rfl rfl ?_
    obtain ⟨⟨every,w1⟩,hv16,hm⟩:=Bs hm
    dsimp only at hm
    refine WL.weakR (res':=[(500100,(Bx 1 false 88 (tO tapi_Id k2 v) b)),(1500100,Dec.Own tapi_Id 23 k2 v.length)]) ⟨rfl,rfl,⟨rfl,rfl,trivial⟩⟩<|WL.opR rfl (OpR.call (us:=[500100,1500100]) (A:=fun kx:Tok=>(tB.is every)) C79 (FSpecR.keys (rin':=[(500100,(Bx 1 false 88 (tO tapi_Id k2 v) b)),(1500100,Dec.Own tapi_Id 23 k2 v.length)]) (out':=fun kx:Tok=>[(500100,(Bx 1 false 88 (tO tapi_Id kx w1) b)),(1500100,Dec.Own tapi_Id 23 kx w1.length)]) (ih _ _ _ _ _ hv16) rfl (fun _=>rfl)) rfl ⟨(.t rfl),(.t rfl),trivial⟩) fun k3=>Ao rfl (.notB (.t rfl))<|An<|W.cR hm (.t rfl) (fun hp18 hm=>?_) (fun hp18 hm=>?_)
    ·refine Aw<|Ao rfl (.assign .bool)<|WL.ns ?_
     have hr19:=Si hm
     clear hm
     subst hr19
     have hm:=hk6
     try dsimp only at hm
     cases hm
     exact W.ret1 k3 rfl (.t rfl) ⟨rfl,rfl,⟨rfl,rfl,trivial⟩⟩
    ·exact W.skip<|WN.block<|Aq<|W.region<|Ao rfl (.addI (.t rfl) .i64 (range_inR hi8 hp13 hlen9))<|Am rfl rfl<|WL.nil<|WN.again es.length (i+1,pre++ [e],es,(w1,k3)) (range_lt hn10) ⟨rfl,range_step hxs7,range_idx hi8,hm⟩ ⟨.q rfl,.q rfl,.q rfl,.q rfl,trivial⟩ ⟨rfl,rfl,⟨rfl,rfl,trivial⟩⟩
   ·have hrest15:=range_end hxs7 hi8 (of_decide_eq_false hc12)
    subst hrest15
    rw [M.unit_every_i2_loop1.eq_1] at hm
    refine W.exit rfl ?_
    have hr20:=Si hm
    clear hm
    subst hr20
    have hm:=hk6
    try dsimp only at hm
    refine Aq<|Aw<|Ao rfl (.assign .bool)<|WL.ns ?_
    cases hm
    exact W.ret1 k2 rfl (.t rfl) ⟨rfl,rfl,⟨rfl,rfl,trivial⟩⟩
theorem unit_IDs_spec(n:Nat)(u:api_Unit)(r:List api_Id)(hm:M.unit_IDs n u=some r):FSpec Tryz.prog 120 [(tapi_Unit.is u)] ((tL tapi_Id).is r):=by
 unfold M.unit_IDs at hm
 refine FSpec.of Tryz.func120 rfl rfl rfl fun g0=>Aw<|Ao rfl (.box (.t rfl))<|Ao rfl (.assign (.nil (t:=tapi_Id)))<|Ar<|WL.addNil (t:=tapi_Id) (E:=23) 1000003<|WL.opR rfl (OpR.allocO (t:=tapi_Id) 3 Tryz.zeroValue88) fun b=>Ar<|Ao rfl (.load ty27 (.t rfl))<|Ao rfl (.makeClo (Cs:=[(Bp b 0)]) (cap:=[.tmp 3]) ⟨(.t rfl),trivial⟩) ?_
 obtain ⟨⟨every,out⟩,hv1,hm⟩:=Bs hm
 dsimp only at hm
 refine WL.weakR (res':=[(3,(Bx 1 false 88 (tO tapi_Id (none:Tok) ([]:List api_Id)) b)),(1000003,Dec.Own tapi_Id 23 (none:Tok) ([]:List api_Id).length)]) ⟨rfl,rfl,⟨rfl,rfl,trivial⟩⟩<|WL.opR rfl (OpR.call (us:=[3,1000003]) (A:=fun kx:Tok=>(tB.is every)) C79 (FSpecR.keys (rin':=[(3,(Bx 1 false 88 (tO tapi_Id (none:Tok) ([]:List api_Id)) b)),(1000003,Dec.Own tapi_Id 23 (none:Tok) ([]:List api_Id).length)]) (out':=fun kx:Tok=>[(3,(Bx 1 false 88 (tO tapi_Id kx out) b)),(1000003,Dec.Own tapi_Id 23 kx out.length)]) (unit_every_i2_spec _ _ _ _ _ _ hv1) rfl (fun _=>rfl)) rfl ⟨(.t rfl),(.t rfl),trivial⟩) fun k=>Ar<|Ao rfl (.loadB 3 Y88 Z88 rfl (.t rfl))<|Ag rfl rfl<|WL.ns ?_
 cases hm
 exact W.ret1 () rfl (Opd.own (.t rfl)) trivial
end Go.Proofs.YtalogjkalmkpjaaGreatDoor
