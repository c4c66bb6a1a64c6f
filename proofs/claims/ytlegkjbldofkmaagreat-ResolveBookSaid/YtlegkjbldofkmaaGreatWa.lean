/-
  The code does what the models say: written by program.
-/
import Derived.Test.YtlegkjbldofkmaaGreatTy
set_option linter.unusedVariables false
set_option linter.unusedSimpArgs false
namespace Go.Proofs.YtlegkjbldofkmaaGreat
open Go Go.Dec
set_option maxRecDepth 100000
set_option maxHeartbeats 4000000
theorem address_book_spec(s0_:api_Step)(r:Bool)(hm:M.address_book s0_=some r):FSpec Tryz.prog 123 [(tapi_Step.is s0_)] (tB.is r):=by
 unfold M.address_book at hm
 refine FSpec.of Tryz.func123 rfl rfl rfl fun g0=>Aw<|Ao rfl (.box (.t rfl))<|Ao rfl (.assign .bool)<|Ar<|Ao rfl (.fieldAddr U49 rfl J3 fapi_Step_0 (.t rfl))<|Ao rfl (.load ty3 (.t rfl))<|Ao rfl (.eqI (.t rfl) .i64)<|WL.mv rfl rfl ?_
 rcases iteD hm with ⟨hp2,hb1,hm⟩ | ⟨hp2,hb1,hm⟩
 ·refine Ax rfl hb1 (.fieldAddr U49 rfl J9 fapi_Step_1 (.t rfl))<|Ax rfl hb1 (.load ty9 (.t rfl))<|Ax rfl hb1 (.eqS (.t rfl) (.str rfl (by decide)))<|Ao rfl (.pickT (.t rfl) hb1 (.t rfl))<|Ag rfl rfl<|WL.ns ?_
  cases hm
  exact W.ret1 () rfl (.t rfl) trivial
 ·refine Ap rfl hb1<|Ap rfl hb1<|Ap rfl hb1<|Ao rfl (.pickF (.t rfl) hb1 .bool)<|Ag rfl rfl<|WL.ns ?_
  cases hm
  exact W.ret1 () rfl (.t rfl) trivial
theorem strings_indexFunc_spec(n:Nat)(s0_:Str)(f:Int→Option Bool)(truth:Bool)(r:Int)(hm:M.strings_indexFunc n s0_ f truth=some r):FSpec Tryz.prog 117 [(tS.is s0_),(tF Tryz.prog (fun s:Int×Bool=>f s.1=some s.2) (fun s:Int×Bool=>[(tI .i32).is s.1]) (fun s:Int×Bool=>(tB.is s.2))),(tB.is truth)] (I6.is r):=by
 unfold M.strings_indexFunc at hm
 refine FSpec.of Tryz.func117 rfl rfl rfl fun g0=>Aw<|Ao rfl (.assign .i64)<|An<|W.seq<|Aw<|Am rfl rfl<|WL.opR rfl (OpR.range 10 U9 (.t rfl)) fun b=>An<|W.block ?_
 obtain ⟨s1,hs2,hk3⟩:=Bs hm
 clear hm
 refine W.loop (fun m (s:Nat)=>M.strings_indexFunc_loop1 s0_ f truth m s=some s1) (fun s=>[(1,(tF Tryz.prog (fun s:Int×Bool=>f s.1=some s.2) (fun s:Int×Bool=>[(tI .i32).is s.1]) (fun s:Int×Bool=>(tB.is s.2)))),(2,(tB.is truth)),(10,(Bp b 0))]) (fun s=>[(10,It s0_ s b)]) _ 0 hs2 ⟨.q rfl,.q rfl,.q rfl,trivial⟩ ⟨rfl,rfl,trivial⟩ ?_
 rintro n4 v hm
 try dsimp only at hm
 change W _ _ _ _ _ _ _ [(1,(tF Tryz.prog (fun s:Int×Bool=>f s.1=some s.2) (fun s:Int×Bool=>[(tI .i32).is s.1]) (fun s:Int×Bool=>(tB.is s.2)))),(2,(tB.is truth)),(10,(Bp b 0))] [(10,It s0_ v b)]
 cases n4 with
 | zero=>rw [M.strings_indexFunc_loop1.eq_1] at hm;cases hm
 | succ n4=>
  rw [M.strings_indexFunc_loop1.eq_2] at hm
  refine W.sr ?_
  by_cases hp5:v<s0_.length
  ·rw [if_pos hp5] at hm
   refine WL.opR rfl (OpR.nextT (b:=b) 10 hp5 rfl (.t rfl)) fun _=>Ao rfl (.extract30 (.t rfl))<|An<|W.seq<|W.condT (.t rfl)<|W.skip<|Aq<|W.block<|Aw<|Ao rfl (.extract31 (.t rfl))<|Ao rfl (.extract32 (.t rfl))<|Ag rfl rfl<|Ag rfl rfl<|Ar<|Am rfl rfl<|WL.mv rfl rfl ?_
   obtain ⟨v1,hv6,hm⟩:=Bs hm
   refine Ao rfl (.callF (ok:=(fun s:Int×Bool=>f s.1=some s.2)) (As:=(fun s:Int×Bool=>[(tI .i32).is s.1])) (A:=(fun s:Int×Bool=>(tB.is s.2))) (s:=(((runeAt s0_ v).1:Int),v1)) (.t rfl) hv6 ⟨(.t rfl),trivial⟩)<|Am rfl rfl<|Ao rfl (.eqB U4 (.t rfl) (.t rfl))<|An<|W.cB hm (.t rfl) (fun hp8 hm=>?_) (fun hp8 hm=>?_)
   ·refine Aw<|Am rfl rfl<|Ag rfl rfl<|WL.ns ?_
    have hr9:=Si hm
    clear hm
    subst hr9
    have hm:=hk3
    try dsimp only at hm
    cases hm
    exact W.ret1 () rfl (.t rfl) trivial
   ·exact W.skip<|WN.block<|WN.again n4 (v+(runeAt s0_ v).2) (Nat.lt_succ_self n4) hm ⟨.q rfl,.q rfl,.q rfl,trivial⟩ ⟨rfl,rfl,trivial⟩
  ·rw [if_neg hp5] at hm
   refine Ao rfl (.nextF 10 hp5 rfl (.t rfl))<|Ao rfl (.extract10 (.t rfl))<|An<|W.seq<|W.condF (.t rfl)<|W.exit rfl ?_
   have hr10:=Si hm
   clear hm
   subst hr10
   have hm:=hk3
   try dsimp only at hm
   refine Aq<|Aw<|Ao rfl (.assign .i64)<|WL.ns ?_
   cases hm
   exact W.ret1 () rfl (.t rfl) trivial
theorem strings_IndexFunc_spec(n:Nat)(s0_:Str)(f:Int→Option Bool)(r:Int)(hm:M.strings_IndexFunc n s0_ f=some r):FSpec Tryz.prog 101 [(tS.is s0_),(tF Tryz.prog (fun s:Int×Bool=>f s.1=some s.2) (fun s:Int×Bool=>[(tI .i32).is s.1]) (fun s:Int×Bool=>(tB.is s.2)))] (I6.is r):=by
 unfold M.strings_IndexFunc at hm
 refine FSpec.of Tryz.func101 rfl rfl rfl fun g0=>Aw<|Ao rfl (.assign .i64)<|Ar<|Am rfl rfl<|WL.mv rfl rfl ?_
 obtain ⟨indexf,hv1,hm⟩:=Bs hm
 refine Ao rfl (.call C117 (strings_indexFunc_spec _ _ _ _ _ hv1) ⟨(.t rfl),(.t rfl),.bool,trivial⟩)<|Ag rfl rfl<|WL.ns ?_
 cases hm
 exact W.ret1 () rfl (.t rfl) trivial
theorem label_parted_1_spec(b:Int)(r:Bool)(hm:M.label_parted_1 b=some r):FSpec Tryz.prog 102 [((tI .i32).is b)] (tB.is r):=by
 unfold M.label_parted_1 at hm
 refine FSpec.of Tryz.func102 rfl rfl rfl fun g0=>Aw<|Ao rfl (.assign .bool)<|Ar<|Am rfl rfl<|Ao rfl (.ltI (.t rfl) (.int (inR32.2 (by omega))))<|WL.mv rfl rfl ?_
 rcases iteD hm with ⟨hp2,hb1,hm⟩ | ⟨hp2,hb1,hm⟩
 ·refine Ap rfl hb1<|Ap rfl hb1<|Ao rfl (.pickT (.t rfl) hb1 .bool)<|Ag rfl rfl<|WL.ns ?_
  cases hm
  exact W.ret1 () rfl (.t rfl) trivial
 ·refine Ax rfl hb1 (.move (.t rfl))<|Ax rfl hb1 (.gtI (.t rfl) (.int (inR32.2 (by omega))))<|Ao rfl (.pickF (.t rfl) hb1 (.t rfl))<|Ag rfl rfl<|WL.ns ?_
  cases hm
  exact W.ret1 () rfl (.t rfl) trivial
theorem label_parted_spec(n:Nat)(s0_:Str)(r:Str×Str)(hm:M.label_parted n s0_=some r):FSpec Tryz.prog 73 [(tS.is s0_)] (Asn.tuple2 (tS.is r.1) (tS.is r.2)):=by
 unfold M.label_parted at hm
 refine FSpec.of Tryz.func73 rfl rfl rfl fun g0=>Aw<|Ao rfl (.assign (.str rfl (by decide)))<|Ao rfl (.assign (.str rfl (by decide)))<|Ar<|WL.mv rfl rfl ?_
 obtain ⟨indexf,hv1,hm⟩:=Bs hm
 refine Ao rfl (.call C101 (strings_IndexFunc_spec _ _ _ _ hv1) ⟨(.t rfl),(Opd.fn C102 (fun s hs=>label_parted_1_spec _ _ hs)),trivial⟩)<|Ag rfl rfl<|An<|W.seq<|Aw<|Am rfl rfl<|Ao rfl (.ltI (.t rfl) .i64)<|An<|W.cD hm (.t rfl) (fun hp3 hm=>?_) (fun hp3 hm=>?_)
 ·refine Aw<|Am rfl rfl<|Ag rfl rfl<|Ao rfl (.assign (.str rfl (by decide)))<|WL.ns ?_
  cases hm
  exact W.ret2 () rfl rfl (.t rfl) (.t rfl) trivial
 ·refine W.skip<|Aq<|W.seq ?_
  obtain ⟨v,hv4,hm⟩:=Bs hm
  obtain ⟨v1,hv5,hm⟩:=Bs hm
  refine W.draw [.c _,.c _,.c _,.c _,.c _,.c _,.c _,.c _] [([],[0]),([],[4]),([0,1],[]),([],[0]),([],[4]),([3,4],[]),([2],[]),([5],[])] Mx rfl rfl rfl rfl ⟨Dn (.move (.t rfl)),Dn (.move (.t rfl)),Dn (.sslcHi hv4 U9 (.t rfl) (.t rfl)),Dn (.move (.t rfl)),Dn (.move (.t rfl)),Dn (.sslcLo hv5 U9 (.t rfl) (.t rfl)),Dn (.assign (.t rfl)),Dn (.assign (.t rfl)),trivial⟩<|WN.seq ?_
  cases hm
  exact W.ret2 () rfl rfl (.t rfl) (.t rfl) trivial
theorem strings_ContainsFunc_spec(n:Nat)(s0_:Str)(f:Int→Option Bool)(r:Bool)(hm:M.strings_ContainsFunc n s0_ f=some r):FSpec Tryz.prog 75 [(tS.is s0_),(tF Tryz.prog (fun s:Int×Bool=>f s.1=some s.2) (fun s:Int×Bool=>[(tI .i32).is s.1]) (fun s:Int×Bool=>(tB.is s.2)))] (tB.is r):=by
 unfold M.strings_ContainsFunc at hm
 refine FSpec.of Tryz.func75 rfl rfl rfl fun g0=>Aw<|Ao rfl (.assign .bool)<|Ar<|Am rfl rfl<|WL.mv rfl rfl ?_
 obtain ⟨indexf,hv1,hm⟩:=Bs hm
 refine Ao rfl (.call C101 (strings_IndexFunc_spec _ _ _ _ hv1) ⟨(.t rfl),(.t rfl),trivial⟩)<|Ao rfl (.geI (.t rfl) .i64)<|Ag rfl rfl<|WL.ns ?_
 cases hm
 exact W.ret1 () rfl (.t rfl) trivial
theorem label_Valid_1_spec(b:Int)(r:Bool)(hm:M.label_Valid_1 b=some r):FSpec Tryz.prog 74 [((tI .i32).is b)] (tB.is r):=by
 unfold M.label_Valid_1 at hm
 refine FSpec.of Tryz.func74 rfl rfl rfl fun g0=>Aw<|Ao rfl (.assign .bool)<|Ar<|Am rfl rfl<|Ao rfl (.ltI (.t rfl) (.int (inR32.2 (by omega))))<|WL.mv rfl rfl ?_
 rcases iteD hm with ⟨hp2,hb1,hm⟩ | ⟨hp2,hb1,hm⟩
 ·refine Ap rfl hb1<|Ap rfl hb1<|Ao rfl (.pickT (.t rfl) hb1 .bool)<|Ag rfl rfl<|WL.ns ?_
  cases hm
  exact W.ret1 () rfl (.t rfl) trivial
 ·refine Ax rfl hb1 (.move (.t rfl))<|Ax rfl hb1 (.gtI (.t rfl) (.int (inR32.2 (by omega))))<|Ao rfl (.pickF (.t rfl) hb1 (.t rfl))<|Ag rfl rfl<|WL.ns ?_
  cases hm
  exact W.ret1 () rfl (.t rfl) trivial
theorem label_Valid_spec(n:Nat)(s0_:Str)(r:Bool)(hm:M.label_Valid n s0_=some r):FSpec Tryz.prog 44 [(tS.is s0_)] (tB.is r):=by
 unfold M.label_Valid at hm
 refine FSpec.of Tryz.func44 rfl rfl rfl fun g0=>Aw<|Ao rfl (.assign .bool)<|Ar<|WL.mv rfl rfl ?_
 obtain ⟨parted,hv1,hm⟩:=Bs hm
 refine Ao rfl (.call C73 (label_parted_spec _ _ _ hv1) ⟨(.t rfl),trivial⟩)<|Am rfl rfl<|Ao rfl (.extract0 (.t rfl))<|Ao rfl (.extract1 (.t rfl))<|Ag rfl rfl<|Ag rfl rfl<|Ar<|Ao rfl (.assign .func)<|Ar<|Am rfl rfl<|Ao rfl (.lenS U9 (.t rfl))<|Ao rfl (.geI (.t rfl) .i64)<|WL.mv rfl rfl ?_
 rcases iteD hm with ⟨hp3,hb2,hm⟩ | ⟨hp3,hb2,hm⟩
 ·refine Ax rfl hb2 (.move (.t rfl))<|Ax rfl hb2 (.lenS U9 (.t rfl))<|Ax rfl hb2 (.leI (.t rfl) .i64)<|Ao rfl (.pickT (.t rfl) hb2 (.t rfl))<|WL.mv rfl rfl ?_
  rcases iteD hm with ⟨hp5,hb4,hm⟩ | ⟨hp5,hb4,hm⟩
  ·refine Ax rfl hb4 (.move (.t rfl)) ?_
   obtain ⟨b,hv6,hm⟩:=Bs hm
   refine Ax rfl hb4 (.sidx hv6 U9 (.t rfl) .i64)<|Ax rfl hb4 (.neI (.t rfl) (.int (inR8.2 (by omega))))<|Ao rfl (.pickT (.t rfl) hb4 (.t rfl))<|WL.mv rfl rfl ?_
   rcases iteD hm with ⟨hp8,hb7,hm⟩ | ⟨hp8,hb7,hm⟩
   ·refine Ax rfl hb7 (.move (.t rfl))<|Ax rfl hb7 (.lenS U9 (.t rfl))<|Ax rfl hb7 (.leI (.t rfl) .i64)<|Ao rfl (.pickT (.t rfl) hb7 (.t rfl))<|WL.mv rfl rfl ?_
    rcases iteD hm with ⟨hp10,hb9,hm⟩ | ⟨hp10,hb9,hm⟩
    ·refine Ax rfl hb9 (.move (.t rfl))<|Ax rfl hb9 (.move (.t rfl)) ?_
     obtain ⟨contai,hv11,hm⟩:=Bs hm
     refine Ax rfl hb9 (.call C75 (strings_ContainsFunc_spec _ _ _ _ hv11) ⟨(.t rfl),(Opd.fnE (.t rfl) C74 (fun s hs=>label_Valid_1_spec _ _ hs)),trivial⟩)<|Ax rfl hb9 (.notB (.t rfl))<|Ao rfl (.pickT (.t rfl) hb9 (.t rfl))<|Ag rfl rfl<|WL.ns ?_
     cases hm
     exact W.ret1 () rfl (.t rfl) trivial
    ·refine Ap rfl hb9<|Ap rfl hb9<|Ap rfl hb9<|Ap rfl hb9<|Ao rfl (.pickF (.t rfl) hb9 .bool)<|Ag rfl rfl<|WL.ns ?_
     cases hm
     exact W.ret1 () rfl (.t rfl) trivial
   ·refine Ap rfl hb7<|Ap rfl hb7<|Ap rfl hb7<|Ao rfl (.pickF (.t rfl) hb7 .bool)<|Am rfl rfl<|Ap rfl rfl<|Ap rfl rfl<|Ap rfl rfl<|Ap rfl rfl<|Ao rfl (.pickF (.t rfl) rfl .bool)<|Ag rfl rfl<|WL.ns ?_
    cases hm
    exact W.ret1 () rfl (.t rfl) trivial
  ·refine Ap rfl hb4<|Ap rfl hb4<|Ap rfl hb4<|Ao rfl (.pickF (.t rfl) hb4 .bool)<|Am rfl rfl<|Ap rfl rfl<|Ap rfl rfl<|Ap rfl rfl<|Ao rfl (.pickF (.t rfl) rfl .bool)<|Am rfl rfl<|Ap rfl rfl<|Ap rfl rfl<|Ap rfl rfl<|Ap rfl rfl<|Ao rfl (.pickF (.t rfl) rfl .bool)<|WL.gv rfl rfl ?_
   refine WL.ns ?_
   cases hm
   exact W.ret1 () rfl (.t rfl) trivial
 ·refine Ap rfl hb2<|Ap rfl hb2<|Ap rfl hb2<|Ao rfl (.pickF (.t rfl) hb2 .bool)<|Am rfl rfl<|Ap rfl rfl<|Ap rfl rfl<|Ap rfl rfl<|Ao rfl (.pickF (.t rfl) rfl .bool)<|Am rfl rfl<|Ap rfl rfl<|Ap rfl rfl<|Ap rfl rfl<|Ao rfl (.pickF (.t rfl) rfl .bool)<|Am rfl rfl<|Ap rfl rfl ?_
  refine Ap rfl rfl<|Ap rfl rfl<|Ap rfl rfl<|Ao rfl (.pickF (.t rfl) rfl .bool)<|Ag rfl rfl<|WL.ns ?_
  cases hm
  exact W.ret1 () rfl (.t rfl) trivial
theorem address_Valid_spec(n:Nat)(p:List api_Step)(r:Bool)(hm:M.address_Valid n p=some r):FSpec Tryz.prog 122 [((tL tapi_Step).is p)] (tB.is r):=by
 unfold M.address_Valid at hm
 refine FSpec.of Tryz.func122 rfl rfl rfl fun g0=>Aw<|Ao rfl (.assign .bool)<|An<|W.seq<|Aw<|Am rfl rfl<|Ao rfl (.lenL U50 (.t rfl))<|Ao rfl (.move .i64)<|An<|W.block ?_
 obtain ⟨s1,hs2,hk3⟩:=Bs hm
 clear hm
 refine W.loop (fun m (s:Int×List api_Step×List api_Step×Unit)=>m=s.2.2.1.length∧p=s.2.1++s.2.2.1∧s.1=(s.2.1.length:Int)∧M.address_Valid_loop1 n s.2.2.1 s.1=some s1) (fun s=>[(7,(I6.is s.1)),(0,((tL tapi_Step).is p)),(5,((tL tapi_Step).is p)),(6,(I6.is (p.length:Int)))]) (fun s=>[]) p.length ((0:Int),[],p,()) ⟨rfl,rfl,rfl,hs2⟩ ⟨.q rfl,.q rfl,.q rfl,.q rfl,trivial⟩ trivial ?_
 rintro m ⟨i,pre,rest1,_⟩ ⟨hn7,hxs4,hi5,hm⟩
 try dsimp only at hn7 hxs4 hi5 hm
 change W _ _ _ _ _ _ _ [(7,(I6.is i)),(0,((tL tapi_Step).is p)),(5,((tL tapi_Step).is p)),(6,(I6.is (p.length:Int)))] []
 refine W.lenL (s:=5) (.t rfl) fun hlen6=>Aw<|Ao rfl (.ltI (.t rfl) (.t rfl))<|An<|W.seq<|W.cond (.t rfl) (fun hc9=>?_) (fun hc9=>?_)
 ·have hp10:=of_decide_eq_true hc9
  obtain ⟨e,es,hrest12⟩:=range_more hxs4 hi5 hp10
  subst hrest12
  rw [M.address_Valid_loop1.eq_2] at hm
  refine W.skip<|Aq<|W.seq<|W.block<|Aw<|Am rfl rfl<|Ao rfl (.idxPre hxs4 hi5 U50 Z49 (.t rfl) (.t rfl))<|Ao rfl (.load ty49 (.t rfl))<|WL.opR rfl (OpR.alloc 4 ze49) fun b=>Ag rfl rfl<|WL.opU (OpR.storeB (b:=b) 4 Z49 (Cellable.is tapi_Step e) rfl (.t rfl) (.t rfl)) fun _=>WL.sealed (t:=tapi_Step) (u:=e) 4 4 rfl rfl<|An<|W.seq ?_
  obtain ⟨s13,hs14,hk15⟩:=Bs hm
  clear hm
  refine W.join (fun s:Bool=>s=s13) (fun s=>[(17,(tB.is s)),(0,((tL tapi_Step).is p)),(4,(tapi_Step.ptr e)),(5,((tL tapi_Step).is p)),(6,(I6.is (p.length:Int))),(7,(I6.is i))]) (fun s=>[]) ?_ ?_
  ·rintro v hj31
   try dsimp only at hj31
   subst hj31
   have hm:=hk15
   clear hk15
   try dsimp only at hm
   change W _ _ _ _ _ _ _ [(17,(tB.is v)),(0,((tL tapi_Step).is p)),(4,(tapi_Step.ptr e)),(5,((tL tapi_Step).is p)),(6,(I6.is (p.length:Int))),(7,(I6.is i))] []
   refine W.cB hm (.t rfl) (fun hp20 hm=>?_) (fun hp20 hm=>?_)
   ·exact W.exit rfl<|Aq<|W.region<|Ao rfl (.addI (.t rfl) .i64 (range_inR hi5 hp10 hlen6))<|Am rfl rfl<|WL.nil<|WN.again es.length (i+1,pre++ [e],es,()) (range_lt hn7) ⟨rfl,range_step hxs4,range_idx hi5,hm⟩ ⟨.q rfl,.q rfl,.q rfl,.q rfl,trivial⟩ trivial
   ·refine W.skip<|Aq<|Aw<|Ao rfl (.fieldAddr U49 rfl J3 fapi_Step_0 (.t rfl))<|Ao rfl (.load ty3 (.t rfl))<|Ao rfl (.leI (.t rfl) .i64)<|WL.mv rfl rfl ?_
    rcases iteD hm with ⟨hp22,hb21,hm⟩ | ⟨hp22,hb21,hm⟩
    ·refine Ap rfl hb21<|Ap rfl hb21<|Ap rfl hb21<|Ao rfl (.pickT (.t rfl) hb21 .bool)<|Am rfl rfl<|Ap rfl rfl<|Ap rfl rfl<|Ap rfl rfl<|Ap rfl rfl<|Ao rfl (.pickT (.t rfl) rfl .bool)<|An<|W.condT (.t rfl)<|Aw<|Ao rfl (.assign .bool)<|WL.ns ?_
     have hr23:=Si hm
     clear hm
     subst hr23
     have hm:=hk3
     try dsimp only at hm
     cases hm
     exact W.ret1 () rfl (.t rfl) trivial
    ·refine Ax rfl hb21 (.fieldAddr U49 rfl J3 fapi_Step_0 (.t rfl))<|Ax rfl hb21 (.load ty3 (.t rfl))<|Ax rfl hb21 (.gtI (.t rfl) .i64)<|Ao rfl (.pickF (.t rfl) hb21 (.t rfl))<|WL.mv rfl rfl ?_
     rcases iteD hm with ⟨hp25,hb24,hm⟩ | ⟨hp25,hb24,hm⟩
     ·refine Ap rfl hb24<|Ap rfl hb24<|Ap rfl hb24<|Ap rfl hb24<|Ao rfl (.pickT (.t rfl) hb24 .bool)<|An<|W.condT (.t rfl)<|Aw<|Ao rfl (.assign .bool)<|WL.ns ?_
      have hr26:=Si hm
      clear hm
      subst hr26
      have hm:=hk3
      try dsimp only at hm
      cases hm
      exact W.ret1 () rfl (.t rfl) trivial
     ·refine Ax rfl hb24 (.fieldAddr U49 rfl J9 fapi_Step_1 (.t rfl))<|Ax rfl hb24 (.load ty9 (.t rfl)) ?_
      obtain ⟨valid,hv27,hm⟩:=Bs hm
      refine Ax rfl hb24 (.call C44 (label_Valid_spec _ _ _ hv27) ⟨(.t rfl),trivial⟩)<|Ax rfl hb24 (.notB (.t rfl))<|Ao rfl (.pickF (.t rfl) hb24 (.t rfl))<|An<|W.cR hm (.t rfl) (fun hp29 hm=>?_) (fun hp29 hm=>?_)
      ·refine Aw<|Ao rfl (.assign .bool)<|WL.ns ?_
       have hr30:=Si hm
       clear hm
       subst hr30
       have hm:=hk3
       try dsimp only at hm
       cases hm
       exact W.ret1 () rfl (.t rfl) trivial
      ·exact W.skip<|WN.block<|Aq<|W.region<|Ao rfl (.addI (.t rfl) .i64 (range_inR hi5 hp10 hlen6))<|Am rfl rfl<|WL.nil<|WN.again es.length (i+1,pre++ [e],es,()) (range_lt hn7) ⟨rfl,range_step hxs4,range_idx hi5,hm⟩ ⟨.q rfl,.q rfl,.q rfl,.q rfl,trivial⟩ trivial
  ·have hm:=hs14
   clear hs14
   refine W.region<|Am rfl rfl<|Ao rfl (.eqI (.t rfl) .i64)<|WL.mv rfl rfl ?_
   rcases iteD hm with ⟨hp17,hb16,hm⟩ | ⟨hp17,hb16,hm⟩
   ·refine Ax rfl hb16 (.load ty49 (.t rfl)) ?_
    obtain ⟨book,hv18,hm⟩:=Bs hm
    exact Ax rfl hb16 (.call C123 (address_book_spec _ _ hv18) ⟨(.t rfl),trivial⟩)<|Ao rfl (.pickT (.t rfl) hb16 (.t rfl))<|WL.nil<|WN.meet book (Si hm) ⟨.q rfl,.q rfl,.q rfl,.q rfl,.q rfl,.q rfl,trivial⟩ trivial
   ·exact Ap rfl hb16<|Ap rfl hb16<|Ao rfl (.pickF (.t rfl) hb16 .bool)<|WL.nil<|WN.meet false (Si hm) ⟨.q rfl,.q rfl,.q rfl,.q rfl,.q rfl,.q rfl,trivial⟩ trivial
 ·have hrest12:=range_end hxs4 hi5 (of_decide_eq_false hc9)
  subst hrest12
  rw [M.address_Valid_loop1.eq_1] at hm
  refine W.exit rfl ?_
  have hr32:=Si hm
  clear hm
  subst hr32
  have hm:=hk3
  try dsimp only at hm
  refine Aq<|Aw<|Am rfl rfl<|Ao rfl (.lenL U50 (.t rfl))<|Ao rfl (.leI (.t rfl) .i64)<|Ag rfl rfl<|WL.ns ?_
  cases hm
  exact W.ret1 () rfl (.t rfl) trivial
theorem address_called_spec(u:api_Unit)(s0_:api_Step)(r:Bool)(hm:M.address_called u s0_=some r):FSpec Tryz.prog 126 [(tapi_Unit.is u),(tapi_Step.is s0_)] (tB.is r):=by
 unfold M.address_called at hm
 refine FSpec.of Tryz.func126 rfl rfl rfl fun g0=>Aw<|Ao rfl (.box (.t rfl))<|Ao rfl (.box (.t rfl))<|Ao rfl (.assign .bool)<|Ar<|Ao rfl (.fieldAddr U27 rfl J3 fapi_Unit_1 (.t rfl))<|Ao rfl (.load ty3 (.t rfl))<|Ao rfl (.fieldAddr U49 rfl J3 fapi_Step_0 (.t rfl))<|Ao rfl (.load ty3 (.t rfl))<|Ao rfl (.eqI (.t rfl) (.t rfl))<|WL.mv rfl rfl ?_
 rcases iteD hm with ⟨hp2,hb1,hm⟩ | ⟨hp2,hb1,hm⟩
 ·refine Ax rfl hb1 (.fieldAddr U27 rfl J9 fapi_Unit_2 (.t rfl))<|Ax rfl hb1 (.load ty9 (.t rfl))<|Ax rfl hb1 (.fieldAddr U49 rfl J9 fapi_Step_1 (.t rfl))<|Ax rfl hb1 (.load ty9 (.t rfl))<|Ax rfl hb1 (.eqS (.t rfl) (.t rfl))<|Ao rfl (.pickT (.t rfl) hb1 (.t rfl))<|Ag rfl rfl<|WL.ns ?_
  cases hm
  exact W.ret1 () rfl (.t rfl) trivial
 ·refine Ap rfl hb1<|Ap rfl hb1<|Ap rfl hb1<|Ap rfl hb1<|Ap rfl hb1<|Ao rfl (.pickF (.t rfl) hb1 .bool)<|Ag rfl rfl<|WL.ns ?_
  cases hm
  exact W.ret1 () rfl (.t rfl) trivial
theorem address_found_1_spec(x:api_Unit)(c:List api_Step)(c1:List api_Unit)(b:Nat)(k:Tok)(r:List api_Unit)(hm:M.address_found_1 x c c1=some r):FSpecR Tryz.prog 125 [(tapi_Unit.is x),((tL tapi_Step).ptr c),(Bp b 0)] [(2,(Bx 1 false 25 (tO tapi_Unit k c1) b)),(1000002,Dec.Own tapi_Unit 27 k c1.length)] (fun kx:Tok=>(Asn.eq (.tuple #[]))) (fun kx:Tok=>[(2,(Bx 1 false 25 (tO tapi_Unit kx r) b)),(1000002,Dec.Own tapi_Unit 27 kx r.length)]):=by
 unfold M.address_found_1 at hm
 refine FSpecR.of Tryz.func125 rfl rfl rfl fun g0=>Aw<|Ao rfl (.box (.t rfl))<|An<|W.seq ?_
 obtain ⟨v,hv1,hm⟩:=Bs hm
 obtain ⟨called,hv2,hm⟩:=Bs hm
 refine W.draw [.c _,.c _,.c _,.c _,.c _] [([],[3]),([],[1]),([1],[]),([2],[]),([0,3],[])] Mx rfl rfl rfl rfl ⟨Dn (.load ty27 (.t rfl)),Dn (.load ty50 (.t rfl)),Dn (.idx hv1 U50 Z49 (.t rfl) .i64),Dn (.load ty49 (.t rfl)),Dn (.call C126 (address_called_spec _ _ _ hv2) ⟨(.t rfl),(.t rfl),trivial⟩),trivial⟩<|Aq<|W.cB hm (.t rfl) (fun hp4 hm=>?_) (fun hp4 hm=>?_)
 ·obtain ⟨out,hv5,hm⟩:=Bs hm
  refine W.weakR (res':=[(1000002,Dec.Own tapi_Unit 27 k c1.length),(2,(Bx 1 false 25 (tO tapi_Unit k c1) b))]) ⟨rfl,rfl,⟨rfl,rfl,trivial⟩⟩<|W.drawS [.c (tO tapi_Unit k c1),.c (tapi_Unit.is x),.c (I6.is (c1.length:Int)),.c ((tL tapi_Unit).is ([(⟨(⟨(0:Int),(0:Int),(0:Int)⟩:api_Id),(0:Int),([]:Str),([]:List api_Word),([]:List api_Word),([]:List api_Unit)⟩:api_Unit)])),.f (fun cv=>(rawS (cv 0) (c1.length+1))),.f (fun cv=>(Bp (bk (cv 0)) (c1.length*tapi_Unit.size))),.c Asn.any,.c Asn.any] [([],[2]),([],[3]),([0],[]),([],[]),([0,3],[]),([2,4],[]),([1,5],[]),([4],[2])] [4,6,7] [[],[],[],[],[true],[true],[],[]] (fun mk cv=>match mk with | [false,false,false]=>[(1000002,Dec.Own tapi_Unit 27 k c1.length),(2,(Bx 1 false 25 (tO tapi_Unit k c1) b))] | [true,false,false]=>[(1000002,Resv tapi_Unit 27 (cv 0) c1),(2,(Bx 1 false 25 (tO tapi_Unit k c1) b))] | [true,true,false]=>[(1000002,Grown tapi_Unit 27 (cv 0) out),(2,(Bx 1 false 25 (tO tapi_Unit k c1) b))] | [true,false,true]=>[(1000002,Resv tapi_Unit 27 (cv 0) c1),(2,(Bx 1 false 25 (rawS (cv 0) (c1.length+1)) b))] | _=>[(1000002,Grown tapi_Unit 27 (cv 0) out),(2,(Bx 1 false 25 (rawS (cv 0) (c1.length+1)) b))]) (fun _=>none) Mx rfl rfl rfl rfl rfl ⟨fun _ _ _ _=>rfl,⟨fun _ _ _ _=>rfl,⟨fun _ _ _ _=>rfl,⟨fun _ _ _ _=>rfl,⟨fun m hm c t=>by simp only [DA.at,upd_dep (r:=[true]) (j:=0) rfl hm],⟨fun m hm c t=>by simp only [DA.at,upd_dep (r:=[true]) (j:=0) rfl hm],⟨fun _ _ _ _=>rfl,⟨fun _ _ _ _=>rfl,trivial⟩⟩⟩⟩⟩⟩⟩⟩ rfl ⟨.inr ⟨fun cv=>[(2,(Bx 1 false 25 (tO tapi_Unit k c1) b))],⟨fun _ _=>⟨rfl,rfl,trivial⟩,fun hw=>absurd hw (by decide),fun hw=>absurd hw (by decide),fun hw=>absurd hw (by decide),fun hw=>absurd hw (by decide),fun hw=>absurd hw (by decide),fun hw=>absurd hw (by decide),fun hw=>absurd hw (by decide),trivial⟩,fun cv=>Op1.loadB 2 Y25 Z25 rfl (.t rfl)⟩,⟨.inr ⟨fun cv=>[],(AllIn.all (fun _ _ _=>trivial) _),fun cv=>Op1.load ty27 (.t rfl)⟩,⟨.inr ⟨fun cv=>[],(AllIn.all (fun _ _ _=>trivial) _),fun cv=>Op1.lenL U25 (Opd.own (.t rfl))⟩,⟨.inr ⟨fun cv=>[],(AllIn.all (fun _ _ _=>trivial) _),fun cv=>Op1.buildSlice (n:=1) (ys:=[(0,(⟨(⟨(0:Int),(0:Int),(0:Int)⟩:api_Id),(0:Int),([]:Str),([]:List api_Word),([]:List api_Word),([]:List api_Unit)⟩:api_Unit))]) (z:=zapi_Unit) (xs:=[(⟨(⟨(0:Int),(0:Int),(0:Int)⟩:api_Id),(0:Int),([]:Str),([]:List api_Word),([]:List api_Word),([]:List api_Unit)⟩:api_Unit)]) U25 el27 ze27 ⟨rfl,(fun _ _ _=>⟨_,(rapi_Unit.into.rep _ _ _ ⟨_,_,rfl,⟨_,_,rfl,⟨rfl,inR64.2 ⟨by decide,by decide⟩⟩,⟨_,_,rfl,⟨rfl,inR64.2 ⟨by decide,by decide⟩⟩,⟨rfl,inR64.2 ⟨by decide,by decide⟩⟩⟩⟩,⟨_,_,rfl,⟨rfl,inR64.2 ⟨by decide,by decide⟩⟩,⟨_,_,rfl,⟨rfl,by decide⟩,⟨_,_,rfl,⟨none,0,rfl,Nat.le_refl _,Nat.zero_le _,fun _=>rfl,rfl⟩,⟨_,_,rfl,⟨none,0,rfl,Nat.le_refl _,Nat.zero_le _,fun _=>rfl,rfl⟩,⟨none,0,rfl,Nat.le_refl _,Nat.zero_le _,fun _=>rfl,rfl⟩⟩⟩⟩⟩⟩),rfl⟩),trivial⟩ (by simp) (by decide) rfl⟩,⟨.inl rfl,⟨.inr ⟨fun cv=>[],(AllIn.all (fun _ _ _=>trivial) _),fun cv=>Op1.rawIdx (t:=tapi_Unit) U25 Z27 (.t rfl) (.t rfl)⟩,⟨.inl rfl,⟨.inl rfl,trivial⟩⟩⟩⟩⟩⟩⟩⟩ ⟨⟨_,_,_,rfl,rfl,rfl,rfl,⟨fun _ _=>⟨[1000002],(fun cv=>[(1000002,Resv tapi_Unit 27 (cv 0) c1)]),(fun cv=>⟨rfl,rfl,⟨rfl,rfl,trivial⟩⟩),(fun _ _=>rfl),fun cv=>OpR.appendZC (key:=1000002) hv5 U25 el27 (.t rfl) (.t rfl) rfl⟩,fun h _=>absurd h (by decide),fun _ h=>absurd h (by decide),fun h _=>absurd h (by decide),fun _ h=>absurd h (by decide),fun h _=>absurd h (by decide),fun _ h=>absurd h (by decide),fun h _=>absurd h (by decide),trivial⟩⟩,⟨⟨_,_,_,rfl,rfl,rfl,rfl,⟨fun _ h=>absurd h (by decide),fun _ _=>⟨[1000002],(fun cv=>[(1000002,Grown tapi_Unit 27 (cv 0) out)]),(fun cv=>⟨rfl,rfl,⟨rfl,rfl,trivial⟩⟩),(fun _ _=>rfl),fun cv=>OpR.viaU (OpR.storeEl (k:=(cv 0)) (key:=1000002) hv5 ty27 (.t rfl) (.t rfl) rfl)⟩,fun h _=>absurd h (by decide),fun h _=>absurd h (by decide),fun _ h=>absurd h (by decide),fun _ _=>⟨[1000002],(fun cv=>[(1000002,Grown tapi_Unit 27 (cv 0) out)]),(fun cv=>⟨rfl,rfl,⟨rfl,rfl,trivial⟩⟩),(fun _ _=>rfl),fun cv=>OpR.viaU (OpR.storeEl (k:=(cv 0)) (key:=1000002) hv5 ty27 (.t rfl) (.t rfl) rfl)⟩,fun h _=>absurd h (by decide),fun h _=>absurd h (by decide),trivial⟩⟩,⟨⟨_,_,_,rfl,rfl,rfl,rfl,⟨fun _ h=>absurd h (by decide),fun _ _=>⟨[2],(fun cv=>[(2,(Bx 1 false 25 (rawS (cv 0) (c1.length+1)) b))]),(fun cv=>⟨rfl,rfl,⟨rfl,rfl,trivial⟩⟩),(fun _ _=>rfl),fun cv=>OpR.viaU (OpR.storeB (b:=b) 2 Z25 (Cellable.raw (cv 0) _) rfl (.t rfl) (.t rfl))⟩,fun _ h=>absurd h (by decide),fun _ _=>⟨[2],(fun cv=>[(2,(Bx 1 false 25 (rawS (cv 0) (c1.length+1)) b))]),(fun cv=>⟨rfl,rfl,⟨rfl,rfl,trivial⟩⟩),(fun _ _=>rfl),fun cv=>OpR.viaU (OpR.storeB (b:=b) 2 Z25 (Cellable.raw (cv 0) _) rfl (.t rfl) (.t rfl))⟩,fun h _=>absurd h (by decide),fun h _=>absurd h (by decide),fun h _=>absurd h (by decide),fun h _=>absurd h (by decide),trivial⟩⟩,trivial⟩⟩⟩ fun cv=>WN.grown 2 1000002 (by decide) rfl rfl (appC_len hv5) ?_
  have hr:=Si hm
  clear hm
  subst hr
  exact WN.fin (cv 0) rfl (fun _=>rfl) ⟨rfl,rfl,⟨rfl,rfl,trivial⟩⟩
 ·refine W.skip ?_
  have hr:=Si hm
  clear hm
  subst hr
  exact WN.fin k rfl (fun _=>rfl) ⟨rfl,rfl,⟨rfl,rfl,trivial⟩⟩
theorem address_each_i0_spec:∀ (n:Nat) (u:api_Unit) (c:List api_Step) (c1:List api_Unit) (b:Nat) (k:Tok) (r:List api_Unit),M.address_each_i0 n u c c1=some r→FSpecR Tryz.prog 124 [(tapi_Unit.is u),(cloA 125 [((tL tapi_Step).ptr c),(Bp b 0)])] [(500101,(Bx 1 false 25 (tO tapi_Unit k c1) b)),(1500101,Dec.Own tapi_Unit 27 k c1.length)] (fun kx:Tok=>(Asn.eq (.tuple #[]))) (fun kx:Tok=>[(500101,(Bx 1 false 25 (tO tapi_Unit kx r) b)),(1500101,Dec.Own tapi_Unit 27 kx r.length)]):=by
 intro n
 induction n with
 | zero=>intro u c c1 b k r hm;cases hm
 | succ n ih=>
  intro u c c1 b k r hm
  rw [M.address_each_i0.eq_2] at hm
  refine FSpecR.of Tryz.func124 rfl rfl rfl fun g0=>Aw<|Ao rfl (.box (.t rfl))<|Ar<|Am rfl rfl<|Ao rfl (.load ty27 (.t rfl)) ?_
  obtain ⟨w,hv1,hm⟩:=Bs hm
  refine WL.weakR (res':=[(500101,(Bx 1 false 25 (tO tapi_Unit k c1) b)),(1500101,Dec.Own tapi_Unit 27 k c1.length)]) ⟨rfl,rfl,⟨rfl,rfl,trivial⟩⟩<|WL.opR rfl (OpR.callClo (us:=[500101,1500101]) (A:=fun kx:Tok=>(Asn.eq (.tuple #[]))) (As:=[tapi_Unit.is u]) C125 (.t rfl) (FSpecR.keys (rin':=[(500101,(Bx 1 false 25 (tO tapi_Unit k c1) b)),(1500101,Dec.Own tapi_Unit 27 k c1.length)]) (out':=fun kx:Tok=>[(500101,(Bx 1 false 25 (tO tapi_Unit kx w) b)),(1500101,Dec.Own tapi_Unit 27 kx w.length)]) (address_found_1_spec _ _ _ _ _ _ hv1) rfl (fun _=>rfl)) rfl ⟨(.t rfl),trivial⟩) fun k1=>Ar<|Ao rfl (.fieldAddr U27 rfl J25 fapi_Unit_5 (.t rfl))<|Ao rfl (.load ty25 (.t rfl))<|Ao rfl (.lenL U25 (.t rfl))<|Ao rfl (.move .i64)<|An<|W.block ?_
  obtain ⟨s2,hs3,hk4⟩:=Bs hm
  clear hm
  refine W.loop (fun m (s:Int×List api_Unit×List api_Unit×(((List api_Unit))×Tok))=>m=s.2.2.1.length∧u.Kids=s.2.1++s.2.2.1∧s.1=(s.2.1.length:Int)∧M.address_each_i0_loop1 c (M.address_each_i0 n) s.2.2.1 s.2.2.2.1=some s2) (fun s=>[(12,(I6.is s.1)),(1,(cloA 125 [((tL tapi_Step).ptr c),(Bp b 0)])),(10,((tL tapi_Unit).is u.Kids)),(11,(I6.is (u.Kids.length:Int)))]) (fun s=>[(1500101,Dec.Own tapi_Unit 27 s.2.2.2.2 s.2.2.2.1.length),(500101,(Bx 1 false 25 (tO tapi_Unit s.2.2.2.2 s.2.2.2.1) b))]) u.Kids.length ((0:Int),[],u.Kids,(w,k1)) ⟨rfl,rfl,rfl,hs3⟩ ⟨.q rfl,.q rfl,.q rfl,.q rfl,trivial⟩ ⟨rfl,rfl,⟨rfl,rfl,trivial⟩⟩ ?_
  rintro m ⟨i,pre,rest1,⟨v,k2⟩⟩ ⟨hn8,hxs5,hi6,hm⟩
  try dsimp only at hn8 hxs5 hi6 hm
  change W _ _ _ _ _ _ _ [(12,(I6.is i)),(1,(cloA 125 [((tL tapi_Step).ptr c),(Bp b 0)])),(10,((tL tapi_Unit).is u.Kids)),(11,(I6.is (u.Kids.length:Int)))] [(1500101,Dec.Own tapi_Unit 27 k2 v.length),(500101,(Bx 1 false 25 (tO tapi_Unit k2 v) b))]
  refine W.lenL (s:=10) (.t rfl) fun hlen7=>Aw<|Ao rfl (.ltI (.t rfl) (.t rfl))<|An<|W.seq<|W.cond (.t rfl) (fun hc10=>?_) (fun hc10=>?_)
  ·have hp11:=of_decide_eq_true hc10
   obtain ⟨e,es,hrest13⟩:=range_more hxs5 hi6 hp11
   subst hrest13
   rw [M.address_each_i0_loop1.eq_2] at hm
   refine W.skip<|Aq<|W.seq<|W.block<|Aw<|Ao rfl (.idxPre hxs5 hi6 U25 Z27 (.t rfl) (.t rfl))<|Ao rfl (.load ty27 (.t rfl))<|WL.opR rfl (OpR.alloc 5 ze27) fun b1=>WL.opU (OpR.storeB (b:=b1) 5 Z27 (Cellable.is tapi_Unit e) rfl (.t rfl) (.t rfl)) fun _=>WL.sealed (t:=tapi_Unit) (u:=e) 5 5 rfl rfl<|WL.nr1<|Ao rfl (.load ty27 (.t rfl))<|WL.mv rfl rfl ?_
   obtain ⟨w1,hv14,hm⟩:=Bs hm
   exact WL.weakR (res':=[(500101,(Bx 1 false 25 (tO tapi_Unit k2 v) b)),(1500101,Dec.Own tapi_Unit 27 k2 v.length)]) ⟨rfl,rfl,⟨rfl,rfl,trivial⟩⟩<|WL.opR rfl (OpR.call (us:=[500101,1500101]) (A:=fun kx:Tok=>(Asn.eq (.tuple #[]))) C124 (FSpecR.keys (rin':=[(500101,(Bx 1 false 25 (tO tapi_Unit k2 v) b)),(1500101,Dec.Own tapi_Unit 27 k2 v.length)]) (out':=fun kx:Tok=>[(500101,(Bx 1 false 25 (tO tapi_Unit kx w1) b)),(1500101,Dec.Own tapi_Unit 27 kx w1.length)]) (ih _ _ _ _ _ _ hv14) rfl (fun _=>rfl)) rfl ⟨(.t rfl),(.t rfl),trivial⟩) fun k3=>WL.nil<|WN.block<|Aq<|W.region<|Ao rfl (.addI (.t rfl) .i64 (range_inR hi6 hp11 hlen7))<|Am rfl rfl<|WL.nil<|WN.again es.length (i+1,pre++ [e],es,(w1,k3)) (range_lt hn8) ⟨rfl,range_step hxs5,range_idx hi6,hm⟩ ⟨.q rfl,.q rfl,.q rfl,.q rfl,trivial⟩ ⟨rfl,rfl,⟨rfl,rfl,trivial⟩⟩
  ·have hrest13:=range_end hxs5 hi6 (of_decide_eq_false hc10)
   subst hrest13
   rw [M.address_each_i0_loop1.eq_1] at hm
   refine W.exit rfl ?_
   have hr15:=Si hm
   clear hm
   subst hr15
   have hm:=hk4
   try dsimp only at hm
   have hr:=Si hm
   clear hm
   subst hr
   exact WN.fin k2 rfl (fun _=>rfl) ⟨rfl,rfl,⟨rfl,rfl,trivial⟩⟩
theorem address_found_spec(n:Nat)(u:api_Unit)(p:List api_Step)(r:(List api_Unit))(hm:M.address_found n u p=some r):FSpec Tryz.prog 114 [(tapi_Unit.is u),((tL tapi_Step).is p)] ((tL tapi_Unit).is r):=by
 unfold M.address_found at hm
 refine FSpec.of Tryz.func114 rfl rfl rfl fun g0=>Aw<|Ao rfl (.box (.t rfl))<|Ao rfl (.box (.t rfl))<|Ao rfl (.assign (.nil (t:=tapi_Unit)))<|An<|W.seq<|Aw<|Ao rfl (.load ty50 (.t rfl)) ?_
 obtain ⟨valid,hv1,hm⟩:=Bs hm
 refine Ao rfl (.call C122 (address_Valid_spec _ _ _ hv1) ⟨(.t rfl),trivial⟩)<|Ao rfl (.notB (.t rfl))<|An<|W.cR hm (.t rfl) (fun hp3 hm=>?_) (fun hp3 hm=>?_)
 ·refine Aw<|Ao rfl (.assign (.nil (t:=tapi_Unit)))<|WL.ns ?_
  cases hm
  exact W.ret1 () rfl (.t rfl) trivial
 ·refine W.skip<|Aq<|Aw<|WL.addNil (t:=tapi_Unit) (E:=27) 1000005<|WL.opR rfl (OpR.allocO (t:=tapi_Unit) 5 Tryz.zeroValue25) fun b=>WL.ns ?_
  obtain ⟨s4,hs5,hk6⟩:=Bs hm
  clear hm
  refine W.join (fun s:(List api_Unit)=>(Sum.inl s:((List api_Unit)) ⊕ ((List api_Unit)))=s4) (fun s=>[(3,((tL tapi_Step).ptr p)),(5,(Bp b 0))]) (fun s=>[(5,(Bx 1 false 25 ((tL tapi_Unit).is s) b))]) ?_ ?_
  ·rintro at0_ hj59
   try dsimp only at hj59
   subst hj59
   have hm:=hk6
   clear hk6
   try dsimp only at hm
   change W _ _ _ _ _ _ _ [(3,((tL tapi_Step).ptr p)),(5,(Bp b 0))] [(5,(Bx 1 false 25 ((tL tapi_Unit).is at0_) b))]
   refine W.seq<|Aw<|Ao rfl (.load ty50 (.t rfl)) ?_
   obtain ⟨v1,hv15,hm⟩:=Bs hm
   refine Ao rfl (.slcLo hv15 U50 Z49 (.t rfl) .i64)<|Ao rfl (.lenL U50 (.t rfl))<|Ao rfl (.move .i64)<|An<|W.block ?_
   obtain ⟨s16,hs17,hk18⟩:=Bs hm
   clear hm
   refine W.loop (fun m (s:Int×List api_Step×List api_Step×((List api_Unit)))=>m=s.2.2.1.length∧v1=s.2.1++s.2.2.1∧s.1=(s.2.1.length:Int)∧M.address_found_loop1 s.2.2.1 s.2.2.2=some s16) (fun s=>[(35,(I6.is s.1)),(5,(Bp b 0)),(33,((tL tapi_Step).is v1)),(34,(I6.is (v1.length:Int)))]) (fun s=>[(5,(Bx 1 false 25 ((tL tapi_Unit).is s.2.2.2) b))]) v1.length ((0:Int),[],v1,at0_) ⟨rfl,rfl,rfl,hs17⟩ ⟨.q rfl,.q rfl,.q rfl,.q rfl,trivial⟩ ⟨rfl,rfl,trivial⟩ ?_
   rintro m ⟨i,pre,rest5,at0_2⟩ ⟨hn22,hxs19,hi20,hm⟩
   try dsimp only at hn22 hxs19 hi20 hm
   change W _ _ _ _ _ _ _ [(35,(I6.is i)),(5,(Bp b 0)),(33,((tL tapi_Step).is v1)),(34,(I6.is (v1.length:Int)))] [(5,(Bx 1 false 25 ((tL tapi_Unit).is at0_2) b))]
   refine W.lenL (s:=33) (.t rfl) fun hlen21=>Aw<|Ao rfl (.ltI (.t rfl) (.t rfl))<|An<|W.seq<|W.cond (.t rfl) (fun hc24=>?_) (fun hc24=>?_)
   ·have hp25:=of_decide_eq_true hc24
    obtain ⟨e,es,hrest27⟩:=range_more hxs19 hi20 hp25
    subst hrest27
    rw [M.address_found_loop1.eq_2] at hm
    refine W.skip<|Aq<|W.seq<|W.block<|Aw<|Ao rfl (.idxPre hxs19 hi20 U50 Z49 (.t rfl) (.t rfl))<|Ao rfl (.load ty49 (.t rfl))<|WL.opR rfl (OpR.alloc 7 ze49) fun b1=>WL.opU (OpR.storeB (b:=b1) 7 Z49 (Cellable.is tapi_Step e) rfl (.t rfl) (.t rfl)) fun _=>WL.sealed (t:=tapi_Step) (u:=e) 7 7 rfl rfl<|Ar<|WL.addNil (t:=tapi_Unit) (E:=27) 8<|Ao rfl (.assign (Opd.nilO (t:=tapi_Unit)))<|An<|W.seq<|W.sr ?_
    refine Ao rfl (.loadB 5 Y25 Z25 rfl (.t rfl))<|Ao rfl (.lenL U25 (.t rfl))<|Ao rfl (.move .i64)<|An<|W.block ?_
    obtain ⟨s28,hs29,hk30⟩:=Bs hm
    clear hm
    refine W.loop (fun m (s:Int×List api_Unit×List api_Unit×(((List api_Unit))×Tok))=>m=s.2.2.1.length∧at0_2=s.2.1++s.2.2.1∧s.1=(s.2.1.length:Int)∧M.address_found_loop2 e s.2.2.1 s.2.2.2.1=some s28) (fun s=>[(41,(I6.is s.1)),(8,(tO tapi_Unit s.2.2.2.2 s.2.2.2.1)),(5,(Bp b 0)),(7,(tapi_Step.ptr e)),(33,((tL tapi_Step).is v1)),(34,(I6.is (v1.length:Int))),(35,(I6.is i)),(39,((tL tapi_Unit).is at0_2)),(40,(I6.is (at0_2.length:Int)))]) (fun s=>[(8,Dec.Own tapi_Unit 27 s.2.2.2.2 s.2.2.2.1.length),(5,(Bx 1 false 25 ((tL tapi_Unit).is at0_2) b))]) at0_2.length ((0:Int),[],at0_2,(([]:List api_Unit),(none:Tok))) ⟨rfl,rfl,rfl,hs29⟩ ⟨.q rfl,.q rfl,.q rfl,.q rfl,.q rfl,.q rfl,.q rfl,.q rfl,.q rfl,trivial⟩ ⟨rfl,rfl,⟨rfl,rfl,trivial⟩⟩ ?_
    rintro m ⟨i1,pre1,rest4,⟨next,k2⟩⟩ ⟨hn34,hxs31,hi32,hm⟩
    try dsimp only at hn34 hxs31 hi32 hm
    change W _ _ _ _ _ _ _ [(41,(I6.is i1)),(8,(tO tapi_Unit k2 next)),(5,(Bp b 0)),(7,(tapi_Step.ptr e)),(33,((tL tapi_Step).is v1)),(34,(I6.is (v1.length:Int))),(35,(I6.is i)),(39,((tL tapi_Unit).is at0_2)),(40,(I6.is (at0_2.length:Int)))] [(8,Dec.Own tapi_Unit 27 k2 next.length),(5,(Bx 1 false 25 ((tL tapi_Unit).is at0_2) b))]
    refine W.lenL (s:=39) (.t rfl) fun hlen33=>Aw<|Ao rfl (.ltI (.t rfl) (.t rfl))<|An<|W.seq<|W.cond (.t rfl) (fun hc36=>?_) (fun hc36=>?_)
    ·have hp37:=of_decide_eq_true hc36
     obtain ⟨e1,es1,hrest39⟩:=range_more hxs31 hi32 hp37
     subst hrest39
     rw [M.address_found_loop2.eq_2] at hm
     refine W.skip<|Aq<|W.seq<|W.block<|Aw<|Ao rfl (.idxPre hxs31 hi32 U25 Z27 (.t rfl) (.t rfl))<|Ao rfl (.load ty27 (.t rfl))<|WL.opR rfl (OpR.alloc 10 ze27) fun b2=>WL.opU (OpR.storeB (b:=b2) 10 Z27 (Cellable.is tapi_Unit e1) rfl (.t rfl) (.t rfl)) fun _=>WL.sealed (t:=tapi_Unit) (u:=e1) 10 10 rfl rfl<|Ar<|Ao rfl (.fieldAddr U27 rfl J25 fapi_Unit_5 (.t rfl))<|Ao rfl (.load ty25 (.t rfl))<|Ao rfl (.lenL U25 (.t rfl))<|Ao rfl (.move .i64)<|WL.ns ?_
     refine W.block ?_
     obtain ⟨s40,hs41,hk42⟩:=Bs hm
     clear hm
     refine W.loop (fun m (s:Int×List api_Unit×List api_Unit×(((List api_Unit))×Tok))=>m=s.2.2.1.length∧e1.Kids=s.2.1++s.2.2.1∧s.1=(s.2.1.length:Int)∧M.address_found_loop3 e s.2.2.1 s.2.2.2.1=some s40) (fun s=>[(48,(I6.is s.1)),(8,(tO tapi_Unit s.2.2.2.2 s.2.2.2.1)),(5,(Bp b 0)),(7,(tapi_Step.ptr e)),(33,((tL tapi_Step).is v1)),(34,(I6.is (v1.length:Int))),(35,(I6.is i)),(39,((tL tapi_Unit).is at0_2)),(40,(I6.is (at0_2.length:Int))),(41,(I6.is i1)),(46,((tL tapi_Unit).is e1.Kids)),(47,(I6.is (e1.Kids.length:Int)))]) (fun s=>[(8,Dec.Own tapi_Unit 27 s.2.2.2.2 s.2.2.2.1.length),(5,(Bx 1 false 25 ((tL tapi_Unit).is at0_2) b))]) e1.Kids.length ((0:Int),[],e1.Kids,(next,k2)) ⟨rfl,rfl,rfl,hs41⟩ ⟨.q rfl,.q rfl,.q rfl,.q rfl,.q rfl,.q rfl,.q rfl,.q rfl,.q rfl,.q rfl,.q rfl,.q rfl,trivial⟩ ⟨rfl,rfl,⟨rfl,rfl,trivial⟩⟩ ?_
     rintro m ⟨i2,pre2,rest3,⟨next1,k3⟩⟩ ⟨hn46,hxs43,hi44,hm⟩
     try dsimp only at hn46 hxs43 hi44 hm
     change W _ _ _ _ _ _ _ [(48,(I6.is i2)),(8,(tO tapi_Unit k3 next1)),(5,(Bp b 0)),(7,(tapi_Step.ptr e)),(33,((tL tapi_Step).is v1)),(34,(I6.is (v1.length:Int))),(35,(I6.is i)),(39,((tL tapi_Unit).is at0_2)),(40,(I6.is (at0_2.length:Int))),(41,(I6.is i1)),(46,((tL tapi_Unit).is e1.Kids)),(47,(I6.is (e1.Kids.length:Int)))] [(8,Dec.Own tapi_Unit 27 k3 next1.length),(5,(Bx 1 false 25 ((tL tapi_Unit).is at0_2) b))]
     refine W.lenL (s:=46) (.t rfl) fun hlen45=>Aw<|Ao rfl (.ltI (.t rfl) (.t rfl))<|An<|W.seq<|W.cond (.t rfl) (fun hc48=>?_) (fun hc48=>?_)
     ·have hp49:=of_decide_eq_true hc48
      obtain ⟨e2,es2,hrest51⟩:=range_more hxs43 hi44 hp49
      subst hrest51
      rw [M.address_found_loop3.eq_2] at hm
      refine W.skip<|Aq<|W.seq<|W.block<|Aw<|Ao rfl (.idxPre hxs43 hi44 U25 Z27 (.t rfl) (.t rfl))<|Ao rfl (.load ty27 (.t rfl))<|WL.opR rfl (OpR.alloc 12 ze27) fun b3=>WL.opU (OpR.storeB (b:=b3) 12 Z27 (Cellable.is tapi_Unit e2) rfl (.t rfl) (.t rfl)) fun _=>WL.sealed (t:=tapi_Unit) (u:=e2) 12 12 rfl rfl<|Ar<|Ao rfl (.load ty27 (.t rfl))<|Ao rfl (.load ty49 (.t rfl)) ?_
      obtain ⟨called,hv52,hm⟩:=Bs hm
      refine Ao rfl (.call C126 (address_called_spec _ _ _ hv52) ⟨(.t rfl),(.t rfl),trivial⟩)<|An<|W.cB hm (.t rfl) (fun hp54 hm=>?_) (fun hp54 hm=>?_)
      ·refine W.region<|Am rfl rfl<|Ao rfl (.load ty27 (.t rfl))<|Ao rfl (.buildSlice (n:=1) (ys:=[(0,e2)]) (z:=zapi_Unit) (xs:=[e2]) U25 el27 ze27 ⟨rfl,(.t rfl),trivial⟩ (by simp) (by decide) rfl) ?_
       obtain ⟨next2,hv55,hm⟩:=Bs hm
       exact WL.opR rfl (OpR.appC (key:=8) hv55 U25 el27 (.t rfl) (.t rfl) rfl) fun k4=>Ag rfl rfl<|WL.nil<|WN.block<|Aq<|W.region<|Ao rfl (.addI (.t rfl) .i64 (range_inR hi44 hp49 hlen45))<|Am rfl rfl<|WL.nil<|WN.again es2.length (i2+1,pre2++ [e2],es2,(next2,k4)) (range_lt hn46) ⟨rfl,range_step hxs43,range_idx hi44,hm⟩ ⟨.q rfl,.q rfl,.q rfl,.q rfl,.q rfl,.q rfl,.q rfl,.q rfl,.q rfl,.q rfl,.q rfl,.q rfl,trivial⟩ ⟨rfl,rfl,⟨rfl,rfl,trivial⟩⟩
      ·exact W.skip<|WN.block<|Aq<|W.region<|Ao rfl (.addI (.t rfl) .i64 (range_inR hi44 hp49 hlen45))<|Am rfl rfl<|WL.nil<|WN.again es2.length (i2+1,pre2++ [e2],es2,(next1,k3)) (range_lt hn46) ⟨rfl,range_step hxs43,range_idx hi44,hm⟩ ⟨.q rfl,.q rfl,.q rfl,.q rfl,.q rfl,.q rfl,.q rfl,.q rfl,.q rfl,.q rfl,.q rfl,.q rfl,trivial⟩ ⟨rfl,rfl,⟨rfl,rfl,trivial⟩⟩
     ·have hrest51:=range_end hxs43 hi44 (of_decide_eq_false hc48)
      subst hrest51
      rw [M.address_found_loop3.eq_1] at hm
      refine W.exit rfl ?_
      have hr56:=Si hm
      clear hm
      subst hr56
      have hm:=hk42
      try dsimp only at hm
      exact WN.block<|Aq<|W.region<|Ao rfl (.addI (.t rfl) .i64 (range_inR hi32 hp37 hlen33))<|Am rfl rfl<|WL.nil<|WN.again es1.length (i1+1,pre1++ [e1],es1,(next1,k3)) (range_lt hn34) ⟨rfl,range_step hxs31,range_idx hi32,hm⟩ ⟨.q rfl,.q rfl,.q rfl,.q rfl,.q rfl,.q rfl,.q rfl,.q rfl,.q rfl,trivial⟩ ⟨rfl,rfl,⟨rfl,rfl,trivial⟩⟩
    ·have hrest39:=range_end hxs31 hi32 (of_decide_eq_false hc36)
     subst hrest39
     rw [M.address_found_loop2.eq_1] at hm
     refine W.exit rfl ?_
     have hr57:=Si hm
     clear hm
     subst hr57
     have hm:=hk30
     try dsimp only at hm
     exact Aq<|W.region<|Am rfl rfl<|WL.opU (OpR.storeB (b:=b) 5 Z25 (Cellable.o tapi_Unit k2 next) rfl (.t rfl) (.t rfl)) fun _=>WL.nil<|WN.block<|Aq<|W.region<|Ao rfl (.addI (.t rfl) .i64 (range_inR hi20 hp25 hlen21))<|Am rfl rfl<|WL.nil<|WN.boxV (A':=((tL tapi_Unit).is next)) 5 rfl (fun _ _=>tO_tL)<|WN.again es.length (i+1,pre++ [e],es,next) (range_lt hn22) ⟨rfl,range_step hxs19,range_idx hi20,hm⟩ ⟨.q rfl,.q rfl,.q rfl,.q rfl,trivial⟩ ⟨rfl,rfl,trivial⟩
   ·have hrest27:=range_end hxs19 hi20 (of_decide_eq_false hc24)
    subst hrest27
    rw [M.address_found_loop1.eq_1] at hm
    refine W.exit rfl ?_
    have hr58:=Si hm
    clear hm
    subst hr58
    have hm:=hk18
    try dsimp only at hm
    refine Aq<|Aw<|Ao rfl (.loadB 5 Y25 Z25 rfl (.t rfl))<|Ag rfl rfl<|WL.ns ?_
    cases hm
    exact W.ret1 () rfl (.t rfl) trivial
  ·have hm:=hs5
   clear hs5
   refine W.block<|Aw<|Ao rfl (.load ty50 (.t rfl))<|Ao rfl (.lenL U50 (.t rfl))<|Ao rfl (.eqI (.t rfl) .i64)<|Ag rfl rfl<|An<|W.cD hm (.t rfl) (fun hp8 hm=>?_) (fun hp8 hm=>?_)
   ·refine Aw<|Ao rfl (.load ty27 (.t rfl))<|Ao rfl (.buildSlice (n:=1) (ys:=[(0,u)]) (z:=zapi_Unit) (xs:=[u]) U25 el27 ze27 ⟨rfl,(.t rfl),trivial⟩ (by simp) (by decide) rfl)<|Ag rfl rfl<|WL.ns ?_
    have hr9:=Si hm
    clear hm
    subst hr9
    have hm:=hk6
    try dsimp only at hm
    cases hm
    exact W.ret1 () rfl (.t rfl) trivial
   ·refine Aw<|Ao rfl (.load ty50 (.t rfl)) ?_
    obtain ⟨v,hv10,hm⟩:=Bs hm
    refine Ao rfl (.idx hv10 U50 Z49 (.t rfl) .i64)<|Ao rfl (.load ty49 (.t rfl)) ?_
    obtain ⟨book,hv11,hm⟩:=Bs hm
    refine Ao rfl (.call C123 (address_book_spec _ _ hv11) ⟨(.t rfl),trivial⟩)<|Ag rfl rfl<|An<|W.cB hm (.t rfl) (fun hp13 hm=>?_) (fun hp13 hm=>?_)
    ·exact W.region<|Ao rfl (.load ty27 (.t rfl))<|WL.opR rfl (OpR.buildSlice (n:=1) (ys:=[(0,u)]) (z:=zapi_Unit) (xs:=[u]) 31 U25 el27 ze27 ⟨rfl,(.t rfl),trivial⟩ (by simp) (by decide) rfl) fun k=>WL.opU (OpR.storeB (b:=b) 5 Z25 (Cellable.o tapi_Unit k [u]) rfl (.t rfl) (.t rfl)) fun _=>WL.nil<|WN.block<|WN.boxV (A':=((tL tapi_Unit).is [u])) 5 rfl (fun _ _=>tO_tL)<|WN.meet [u] (Si hm) ⟨.q rfl,.q rfl,trivial⟩ ⟨rfl,rfl,trivial⟩
    ·refine W.region<|Ao rfl (.load ty27 (.t rfl))<|Ao rfl (.makeClo (Cs:=[((tL tapi_Step).ptr p),(Bp b 0)]) (cap:=[.tmp 3,.tmp 5]) ⟨(.t rfl),(.t rfl),trivial⟩) ?_
     obtain ⟨at0_1,hv14,hm⟩:=Bs hm
     exact WL.weakR (res':=[(5,(Bx 1 false 25 (tO tapi_Unit (none:Tok) ([]:List api_Unit)) b)),(1000005,Dec.Own tapi_Unit 27 (none:Tok) ([]:List api_Unit).length)]) ⟨rfl,rfl,⟨rfl,rfl,trivial⟩⟩<|WL.opR rfl (OpR.call (us:=[5,1000005]) (A:=fun kx:Tok=>(Asn.eq (.tuple #[]))) C124 (FSpecR.keys (rin':=[(5,(Bx 1 false 25 (tO tapi_Unit (none:Tok) ([]:List api_Unit)) b)),(1000005,Dec.Own tapi_Unit 27 (none:Tok) ([]:List api_Unit).length)]) (out':=fun kx:Tok=>[(5,(Bx 1 false 25 (tO tapi_Unit kx at0_1) b)),(1000005,Dec.Own tapi_Unit 27 kx at0_1.length)]) (address_each_i0_spec _ _ _ _ _ _ _ hv14) rfl (fun _=>rfl)) rfl ⟨(.t rfl),(.t rfl),trivial⟩) fun k1=>WL.nil<|WN.block<|WN.boxV (A':=((tL tapi_Unit).is at0_1)) 5 rfl (fun _ _=>tO_tL)<|WN.meet at0_1 (Si hm) ⟨.q rfl,.q rfl,trivial⟩ ⟨rfl,rfl,trivial⟩
theorem address_FindAll_spec(n:Nat)(u:api_Unit)(p:List api_Step)(r:(List api_Id))(hm:M.address_FindAll n u p=some r):FSpec Tryz.prog 93 [(tapi_Unit.is u),((tL tapi_Step).is p)] ((tL tapi_Id).is r):=by
 unfold M.address_FindAll at hm
 refine FSpec.of Tryz.func93 rfl rfl rfl fun g0=>Aw<|Ao rfl (.box (.t rfl))<|Ao rfl (.assign (.nil (t:=tapi_Id)))<|Ar<|WL.addNil (t:=tapi_Id) (E:=23) 5<|Ao rfl (.assign (Opd.nilO (t:=tapi_Id)))<|An<|W.seq<|Aw<|Ao rfl (.load ty27 (.t rfl))<|WL.mv rfl rfl ?_
 obtain ⟨found,hv1,hm⟩:=Bs hm
 refine Ao rfl (.call C114 (address_found_spec _ _ _ _ hv1) ⟨(.t rfl),(.t rfl),trivial⟩)<|Ao rfl (.lenL U25 (.t rfl))<|Ao rfl (.move .i64)<|An<|W.block ?_
 obtain ⟨s2,hs3,hk4⟩:=Bs hm
 clear hm
 refine W.loop (fun m (s:Int×List api_Unit×List api_Unit×(((List api_Id))×Tok))=>m=s.2.2.1.length∧found=s.2.1++s.2.2.1∧s.1=(s.2.1.length:Int)∧M.address_FindAll_loop1 s.2.2.1 s.2.2.2.1=some s2) (fun s=>[(12,(I6.is s.1)),(5,(tO tapi_Id s.2.2.2.2 s.2.2.2.1)),(10,((tL tapi_Unit).is found)),(11,(I6.is (found.length:Int)))]) (fun s=>[(5,Dec.Own tapi_Id 23 s.2.2.2.2 s.2.2.2.1.length)]) found.length ((0:Int),[],found,(([]:List api_Id),(none:Tok))) ⟨rfl,rfl,rfl,hs3⟩ ⟨.q rfl,.q rfl,.q rfl,.q rfl,trivial⟩ ⟨rfl,rfl,trivial⟩ ?_
 rintro m ⟨i,pre,rest1,⟨out,k⟩⟩ ⟨hn8,hxs5,hi6,hm⟩
 try dsimp only at hn8 hxs5 hi6 hm
 change W _ _ _ _ _ _ _ [(12,(I6.is i)),(5,(tO tapi_Id k out)),(10,((tL tapi_Unit).is found)),(11,(I6.is (found.length:Int)))] [(5,Dec.Own tapi_Id 23 k out.length)]
 refine W.lenL (s:=10) (.t rfl) fun hlen7=>Aw<|Ao rfl (.ltI (.t rfl) (.t rfl))<|An<|W.seq<|W.cond (.t rfl) (fun hc10=>?_) (fun hc10=>?_)
 ·have hp11:=of_decide_eq_true hc10
  obtain ⟨e,es,hrest13⟩:=range_more hxs5 hi6 hp11
  subst hrest13
  rw [M.address_FindAll_loop1.eq_2] at hm
  refine W.skip<|Aq<|W.seq<|W.block<|Aw<|Ao rfl (.idxPre hxs5 hi6 U25 Z27 (.t rfl) (.t rfl))<|Ao rfl (.load ty27 (.t rfl))<|WL.opR rfl (OpR.alloc 7 ze27) fun b=>WL.opU (OpR.storeB (b:=b) 7 Z27 (Cellable.is tapi_Unit e) rfl (.t rfl) (.t rfl)) fun _=>WL.sealed (t:=tapi_Unit) (u:=e) 7 7 rfl rfl<|WL.nr1<|Am rfl rfl<|Ao rfl (.fieldAddr U27 rfl J23 fapi_Unit_0 (.t rfl))<|Ao rfl (.load ty23 (.t rfl))<|Ao rfl (.buildSlice (n:=1) (ys:=[(0,e.Id)]) (z:=zapi_Id) (xs:=[e.Id]) U40 el23 ze23 ⟨rfl,(.t rfl),trivial⟩ (by simp) (by decide) rfl) ?_
  obtain ⟨out1,hv14,hm⟩:=Bs hm
  exact WL.opR rfl (OpR.appC (key:=5) hv14 U40 el23 (.t rfl) (.t rfl) rfl) fun k1=>Ag rfl rfl<|WL.nil<|WN.block<|Aq<|W.region<|Ao rfl (.addI (.t rfl) .i64 (range_inR hi6 hp11 hlen7))<|Am rfl rfl<|WL.nil<|WN.again es.length (i+1,pre++ [e],es,(out1,k1)) (range_lt hn8) ⟨rfl,range_step hxs5,range_idx hi6,hm⟩ ⟨.q rfl,.q rfl,.q rfl,.q rfl,trivial⟩ ⟨rfl,rfl,trivial⟩
 ·have hrest13:=range_end hxs5 hi6 (of_decide_eq_false hc10)
  subst hrest13
  rw [M.address_FindAll_loop1.eq_1] at hm
  refine W.exit rfl ?_
  have hr15:=Si hm
  clear hm
  subst hr15
  have hm:=hk4
  try dsimp only at hm
  refine Aq<|Aw<|Am rfl rfl<|Ag rfl rfl<|WL.ns ?_
  cases hm
  exact W.ret1 () rfl (Opd.own (.t rfl)) trivial
theorem address_FindOne_spec(n:Nat)(u:api_Unit)(p:List api_Step)(r:api_Id×Int)(hm:M.address_FindOne n u p=some r):FSpec Tryz.prog 60 [(tapi_Unit.is u),((tL tapi_Step).is p)] (Asn.tuple2 (tapi_Id.is r.1) (I6.is r.2)):=by
 unfold M.address_FindOne at hm
 refine FSpec.of Tryz.func60 rfl rfl rfl fun g0=>Aw<|Ao rfl (.box (.t rfl))<|WL.opR rfl (OpR.alloc 4 ze23) fun b=>Ao rfl (.assign .i64)<|Ar<|Ao rfl (.load ty27 (.t rfl))<|WL.mv rfl rfl ?_
 obtain ⟨findal,hv1,hm⟩:=Bs hm
 refine Ao rfl (.call C93 (address_FindAll_spec _ _ _ _ hv1) ⟨(.t rfl),(.t rfl),trivial⟩)<|Ag rfl rfl<|An<|W.seq<|Aw<|Am rfl rfl<|Ao rfl (.lenL U40 (.t rfl))<|An<|W.block<|Aw<|Ao rfl (.eqI (.t rfl) .i64)<|Ag rfl rfl<|An<|W.cD hm (.t rfl) (fun hp3 hm=>?_) (fun hp3 hm=>?_)
 ·refine Aw<|Ao rfl (.build (s:=tapi_Id) (x:=(⟨(0:Int),(0:Int),(0:Int)⟩:api_Id)) zapi_Id_f rfl U23 (zapi_Id_sz _ U23) ze23 rfl)<|WL.opU (OpR.storeB (b:=b) 4 Z23 (Cellable.is tapi_Id (⟨(0:Int),(0:Int),(0:Int)⟩:api_Id)) rfl (.t rfl) (.t rfl)) fun _=>Ao rfl (.assign .i64)<|WL.ns ?_
  cases hm
  exact W.retQ2 () rfl rfl (ResAt.cell 4 Y23 Z23 rfl (.t rfl)) (ResAt.tmp (.t rfl)) trivial
 ·refine Aw<|Ao rfl (.eqI (.t rfl) .i64)<|Ag rfl rfl<|An<|W.cD hm (.t rfl) (fun hp5 hm=>?_) (fun hp5 hm=>?_)
  ·refine Aw<|WL.mv rfl rfl ?_
   obtain ⟨v,hv6,hm⟩:=Bs hm
   refine Ao rfl (.idx hv6 U40 Z23 (.t rfl) .i64)<|Ao rfl (.load ty23 (.t rfl))<|WL.opU (OpR.storeB (b:=b) 4 Z23 (Cellable.is tapi_Id v) rfl (.t rfl) (.t rfl)) fun _=>Ao rfl (.assign .i64)<|WL.ns ?_
   cases hm
   exact W.retQ2 () rfl rfl (ResAt.cell 4 Y23 Z23 rfl (.t rfl)) (ResAt.tmp (.t rfl)) trivial
  ·refine W.skip<|WN.block<|Aq<|Aw<|Ao rfl (.build (s:=tapi_Id) (x:=(⟨(0:Int),(0:Int),(0:Int)⟩:api_Id)) zapi_Id_f rfl U23 (zapi_Id_sz _ U23) ze23 rfl)<|WL.opU (OpR.storeB (b:=b) 4 Z23 (Cellable.is tapi_Id (⟨(0:Int),(0:Int),(0:Int)⟩:api_Id)) rfl (.t rfl) (.t rfl)) fun _=>Ao rfl (.assign .i64)<|WL.ns ?_
   cases hm
   exact W.retQ2 () rfl rfl (ResAt.cell 4 Y23 Z23 rfl (.t rfl)) (ResAt.tmp (.t rfl)) trivial
theorem resolve_plain_spec(n:Nat)(s0_:resolve_scene)(c:api_Cite)(r:(List api_Id)×Int)(hm:M.resolve_plain n s0_ c=some r):FSpec Tryz.prog 38 [(tresolve_scene.is s0_),(tapi_Cite.is c)] (Asn.tuple2 ((tL tapi_Id).is r.1) (I6.is r.2)):=by
 unfold M.resolve_plain at hm
 refine FSpec.of Tryz.func38 rfl rfl rfl fun g0=>Aw<|Ao rfl (.box (.t rfl))<|Ao rfl (.box (.t rfl))<|Ao rfl (.assign (.nil (t:=tapi_Id)))<|Ao rfl (.assign .i64)<|Ar<|Ao rfl (.fieldAddr Tryz.underlying69 rfl J27 fresolve_scene_0 (.t rfl))<|Ao rfl (.load ty27 (.t rfl))<|Ao rfl (.fieldAddr U52 rfl J50 fapi_Cite_1 (.t rfl))<|Ao rfl (.load ty50 (.t rfl)) ?_
 obtain ⟨findon,hv1,hm⟩:=Bs hm
 refine Ao rfl (.call C60 (address_FindOne_spec _ _ _ _ hv1) ⟨(.t rfl),(.t rfl),trivial⟩)<|Am rfl rfl<|Ao rfl (.extract0 (.t rfl))<|Ao rfl (.extract1 (.t rfl))<|WL.opR rfl (OpR.alloc 6 ze23) fun b=>WL.opU (OpR.storeB (b:=b) 6 Z23 (Cellable.is tapi_Id findon.1) rfl (.t rfl) (.t rfl)) fun _=>WL.sealed (t:=tapi_Id) (u:=findon.1) 6 6 rfl rfl<|Ag rfl rfl<|An<|W.seq<|Aw<|Am rfl rfl<|Ao rfl (.neI (.t rfl) .i64)<|An<|W.cD hm (.t rfl) (fun hp3 hm=>?_) (fun hp3 hm=>?_)
 ·refine Aw<|Am rfl rfl<|Ao rfl (.assign (.nil (t:=tapi_Id)))<|Ag rfl rfl<|WL.ns ?_
  cases hm
  exact W.ret2 () rfl rfl (.t rfl) (.t rfl) trivial
 ·refine W.skip<|Aq<|Aw<|Ao rfl (.load ty23 (.t rfl))<|Ao rfl (.buildSlice (n:=1) (ys:=[(0,findon.1)]) (z:=zapi_Id) (xs:=[findon.1]) U40 el23 ze23 ⟨rfl,(.t rfl),trivial⟩ (by simp) (by decide) rfl)<|Ag rfl rfl<|Ao rfl (.assign .i64)<|WL.ns ?_
  cases hm
  exact W.ret2 () rfl rfl (.t rfl) (.t rfl) trivial
theorem unit_way_spec:∀ (n:Nat) (u:api_Unit) (id:api_Id) (r:(List api_Unit)),M.unit_way n u id=some r→FSpec Tryz.prog 98 [(tapi_Unit.is u),(tapi_Id.is id)] ((tLn tapi_Unit).is r):=by
 intro n
 induction n with
 | zero=>intro u id r hm;cases hm
 | succ n ih=>
  intro u id r hm
  rw [M.unit_way.eq_2] at hm
  refine FSpec.of Tryz.func98 rfl rfl rfl fun g0=>Aw<|Ao rfl (.box (.t rfl))<|Ao rfl (.box (.t rfl))<|Ao rfl (.assign (.nilN (t:=tapi_Unit)))<|An<|W.seq<|Aw<|Ao rfl (.fieldAddr U27 rfl J23 fapi_Unit_0 (.t rfl))<|Ao rfl (.load ty23 (.t rfl))<|Ao rfl (.load ty23 (.t rfl))<|Ao rfl (.eqSt (D:=2) rfl (by decide) eg23 eq23 (.t rfl) (.t rfl))<|An<|W.cD hm (.t rfl) (fun hp2 hm=>?_) (fun hp2 hm=>?_)
  ·refine Aw<|Ao rfl (.load ty27 (.t rfl))<|Ao rfl (.buildSlice (n:=1) (ys:=[(0,u)]) (z:=zapi_Unit) (xs:=[u]) U25 el27 ze27 ⟨rfl,(.t rfl),trivial⟩ (by simp) (by decide) rfl)<|Ag rfl rfl<|WL.ns ?_
   obtain ⟨_,hz3,hm⟩:=Bs hm
   cases hm
   exact W.ret1 () rfl (Opd.asLn (neC_ne hz3) (.t rfl)) trivial
  ·refine W.skip<|Aq<|W.seq<|Aw<|Ao rfl (.fieldAddr U27 rfl J25 fapi_Unit_5 (.t rfl))<|Ao rfl (.load ty25 (.t rfl))<|Ao rfl (.lenL U25 (.t rfl))<|Ao rfl (.move .i64)<|An<|W.block ?_
   obtain ⟨s5,hs6,hk7⟩:=Bs hm
   clear hm
   refine W.loop (fun m (s:Int×List api_Unit×List api_Unit×Unit)=>m=s.2.2.1.length∧u.Kids=s.2.1++s.2.2.1∧s.1=(s.2.1.length:Int)∧M.unit_way_loop1 u id (M.unit_way n) s.2.2.1=some s5) (fun s=>[(17,(I6.is s.1)),(2,(tapi_Unit.ptr u)),(3,(tapi_Id.ptr id)),(15,((tL tapi_Unit).is u.Kids)),(16,(I6.is (u.Kids.length:Int)))]) (fun s=>[]) u.Kids.length ((0:Int),[],u.Kids,()) ⟨rfl,rfl,rfl,hs6⟩ ⟨.q rfl,.q rfl,.q rfl,.q rfl,.q rfl,trivial⟩ trivial ?_
   rintro m ⟨i,pre,rest1,_⟩ ⟨hn11,hxs8,hi9,hm⟩
   try dsimp only at hn11 hxs8 hi9 hm
   change W _ _ _ _ _ _ _ [(17,(I6.is i)),(2,(tapi_Unit.ptr u)),(3,(tapi_Id.ptr id)),(15,((tL tapi_Unit).is u.Kids)),(16,(I6.is (u.Kids.length:Int)))] []
   refine W.lenL (s:=15) (.t rfl) fun hlen10=>Aw<|Ao rfl (.ltI (.t rfl) (.t rfl))<|An<|W.seq<|W.cond (.t rfl) (fun hc13=>?_) (fun hc13=>?_)
   ·have hp14:=of_decide_eq_true hc13
    obtain ⟨e,es,hrest16⟩:=range_more hxs8 hi9 hp14
    subst hrest16
    rw [M.unit_way_loop1.eq_2] at hm
    refine W.skip<|Aq<|W.seq<|W.block<|Aw<|Ao rfl (.idxPre hxs8 hi9 U25 Z27 (.t rfl) (.t rfl))<|Ao rfl (.load ty27 (.t rfl))<|WL.opR rfl (OpR.alloc 6 ze27) fun b=>WL.opU (OpR.storeB (b:=b) 6 Z27 (Cellable.is tapi_Unit e) rfl (.t rfl) (.t rfl)) fun _=>WL.sealed (t:=tapi_Unit) (u:=e) 6 6 rfl rfl<|Ar<|Ao rfl (.load ty27 (.t rfl))<|Ao rfl (.load ty23 (.t rfl)) ?_
    obtain ⟨way,hv17,hm⟩:=Bs hm
    refine Ao rfl (.call C98 (ih _ _ _ hv17) ⟨(.t rfl),(.t rfl),trivial⟩)<|Ag rfl rfl<|Ar<|Am rfl rfl<|Ao rfl (.neNil U25 (.t rfl))<|An<|W.cR hm (.t rfl) (fun hp19 hm=>?_) (fun hp19 hm=>?_)
    ·refine Aw<|Ao rfl (.load ty27 (.t rfl))<|WL.opR rfl (OpR.buildSlice (n:=1) (ys:=[(0,u)]) (z:=zapi_Unit) (xs:=[u]) 27 U25 el27 ze27 ⟨rfl,(.t rfl),trivial⟩ (by simp) (by decide) rfl) fun k=>WL.mv rfl rfl ?_
     obtain ⟨out,hv20,hm⟩:=Bs hm
     refine WL.opR rfl (OpR.appC (key:=27) hv20 U25 el27 (.t rfl) (Opd.tLn (.t rfl)) rfl) fun k1=>Ag rfl rfl<|WL.ns ?_
     obtain ⟨_,hz21,hm⟩:=Bs hm
     have hr23:=Si hm
     clear hm
     subst hr23
     have hm:=hk7
     try dsimp only at hm
     cases hm
     exact W.ret1 () rfl (Opd.asLn (neC_ne hz21) (Opd.own (.t rfl))) trivial
    ·exact W.skip<|WN.block<|Aq<|W.region<|Ao rfl (.addI (.t rfl) .i64 (range_inR hi9 hp14 hlen10))<|Am rfl rfl<|WL.nil<|WN.again es.length (i+1,pre++ [e],es,()) (range_lt hn11) ⟨rfl,range_step hxs8,range_idx hi9,hm⟩ ⟨.q rfl,.q rfl,.q rfl,.q rfl,.q rfl,trivial⟩ trivial
   ·have hrest16:=range_end hxs8 hi9 (of_decide_eq_false hc13)
    subst hrest16
    rw [M.unit_way_loop1.eq_1] at hm
    refine W.exit rfl ?_
    have hr24:=Si hm
    clear hm
    subst hr24
    have hm:=hk7
    try dsimp only at hm
    refine Aq<|Aw<|Ao rfl (.assign (.nilN (t:=tapi_Unit)))<|WL.ns ?_
    cases hm
    exact W.ret1 () rfl (.t rfl) trivial
theorem unit_Parent_1_spec(n:Nat)(k:api_Unit)(c:api_Id)(r:Bool)(hm:M.unit_Parent_1 n k c=some r):FSpec Tryz.prog 115 [(tapi_Unit.is k),(tapi_Id.ptr c)] (tB.is r):=by
 unfold M.unit_Parent_1 at hm
 refine FSpec.of Tryz.func115 rfl rfl rfl fun g0=>Aw<|Ao rfl (.box (.t rfl))<|Ao rfl (.assign .bool)<|Ar<|Ao rfl (.load ty27 (.t rfl))<|Ao rfl (.load ty23 (.t rfl)) ?_
 obtain ⟨way,hv1,hm⟩:=Bs hm
 refine Ao rfl (.call C98 (unit_way_spec _ _ _ _ hv1) ⟨(.t rfl),(.t rfl),trivial⟩)<|Ao rfl (.neNil U25 (.t rfl))<|Ag rfl rfl<|WL.ns ?_
 cases hm
 exact W.ret1 () rfl (.t rfl) trivial
theorem slices_IndexFunc_api_Unit_api_Unit_spec(n:Nat)(s0_:List api_Unit)(f:api_Unit→Option Bool)(r:Int)(hm:M.slices_IndexFunc_api_Unit_api_Unit n s0_ f=some r):FSpec Tryz.prog 62 [((tL tapi_Unit).is s0_),(tF Tryz.prog (fun s:api_Unit×Bool=>f s.1=some s.2) (fun s:api_Unit×Bool=>[tapi_Unit.is s.1]) (fun s:api_Unit×Bool=>(tB.is s.2)))] (I6.is r):=by
 unfold M.slices_IndexFunc_api_Unit_api_Unit at hm
 refine FSpec.of Tryz.func62 rfl rfl rfl fun g0=>Aw<|Ao rfl (.assign .i64)<|An<|W.seq<|Aw<|Am rfl rfl<|Ao rfl (.lenL U25 (.t rfl))<|Ao rfl (.move .i64)<|An<|W.block ?_
 obtain ⟨s1,hs2,hk3⟩:=Bs hm
 clear hm
 refine W.loop (fun m (s:Int)=>M.slices_IndexFunc_api_Unit_api_Unit_loop1 s0_ f m s=some s1) (fun s=>[(8,(I6.is s)),(0,((tL tapi_Unit).is s0_)),(1,(tF Tryz.prog (fun s:api_Unit×Bool=>f s.1=some s.2) (fun s:api_Unit×Bool=>[tapi_Unit.is s.1]) (fun s:api_Unit×Bool=>(tB.is s.2)))),(7,(I6.is (s0_.length:Int)))]) (fun s=>[]) _ (0:Int) hs2 ⟨.q rfl,.q rfl,.q rfl,.q rfl,trivial⟩ trivial ?_
 rintro n4 v hm
 try dsimp only at hm
 change W _ _ _ _ _ _ _ [(8,(I6.is v)),(0,((tL tapi_Unit).is s0_)),(1,(tF Tryz.prog (fun s:api_Unit×Bool=>f s.1=some s.2) (fun s:api_Unit×Bool=>[tapi_Unit.is s.1]) (fun s:api_Unit×Bool=>(tB.is s.2)))),(7,(I6.is (s0_.length:Int)))] []
 cases n4 with
 | zero=>rw [M.slices_IndexFunc_api_Unit_api_Unit_loop1.eq_1] at hm;cases hm
 | succ n4=>
  rw [M.slices_IndexFunc_api_Unit_api_Unit_loop1.eq_2] at hm
  refine Aw<|Ao rfl (.ltI (.t rfl) (.t rfl))<|An<|W.seq<|W.cD hm (.t rfl) (fun hp6 hm=>?_) (fun hp6 hm=>?_)
  ·refine W.skip<|Aq<|W.seq<|W.block<|Aw<|Am rfl rfl<|Ag rfl rfl<|Ar<|Am rfl rfl<|Am rfl rfl<|WL.mv rfl rfl ?_
   obtain ⟨v1,hv7,hm⟩:=Bs hm
   refine Ao rfl (.idx hv7 U25 Z27 (.t rfl) (.t rfl))<|Ao rfl (.load ty27 (.t rfl)) ?_
   obtain ⟨v2,hv8,hm⟩:=Bs hm
   refine Ao rfl (.callF (ok:=(fun s:api_Unit×Bool=>f s.1=some s.2)) (As:=(fun s:api_Unit×Bool=>[tapi_Unit.is s.1])) (A:=(fun s:api_Unit×Bool=>(tB.is s.2))) (s:=(v1,v2)) (.t rfl) hv8 ⟨(.t rfl),trivial⟩)<|An<|W.cB hm (.t rfl) (fun hp10 hm=>?_) (fun hp10 hm=>?_)
   ·refine Aw<|Am rfl rfl<|Ag rfl rfl<|WL.ns ?_
    have hr11:=Si hm
    clear hm
    subst hr11
    have hm:=hk3
    try dsimp only at hm
    cases hm
    exact W.ret1 () rfl (.t rfl) trivial
   ·exact W.skip<|WN.block<|Aq<|W.region<|WL.lenL (s:=0) (.t rfl) fun hl12=>Ao rfl (.addI1 (.t rfl) .i64 hp6 hl12)<|Am rfl rfl<|WL.nil<|WN.again n4 (v+1) (Nat.lt_succ_self n4) hm ⟨.q rfl,.q rfl,.q rfl,.q rfl,trivial⟩ trivial
  ·refine W.exit rfl ?_
   have hr13:=Si hm
   clear hm
   subst hr13
   have hm:=hk3
   try dsimp only at hm
   refine Aq<|Aw<|Ao rfl (.assign .i64)<|WL.ns ?_
   cases hm
   exact W.ret1 () rfl (.t rfl) trivial
theorem unit_Parent_spec(n:Nat)(u:api_Unit)(id:api_Id)(r:api_Id×Int×Bool)(hm:M.unit_Parent n u id=some r):FSpec Tryz.prog 94 [(tapi_Unit.is u),(tapi_Id.is id)] (Asn.tuple3 (tapi_Id.is r.1) (I6.is r.2.1) (tB.is r.2.2)):=by
 unfold M.unit_Parent at hm
 refine FSpec.of Tryz.func94 rfl rfl rfl fun g0=>Aw<|Ao rfl (.box (.t rfl))<|Ao rfl (.box (.t rfl))<|WL.opR rfl (OpR.alloc 4 ze23) fun b=>Ao rfl (.assign .i64)<|Ao rfl (.assign .bool)<|Ar<|Ao rfl (.load ty27 (.t rfl))<|Ao rfl (.load ty23 (.t rfl)) ?_
 obtain ⟨way,hv1,hm⟩:=Bs hm
 refine Ao rfl (.call C98 (unit_way_spec _ _ _ _ hv1) ⟨(.t rfl),(.t rfl),trivial⟩)<|Ag rfl rfl<|An<|W.seq<|Aw<|Am rfl rfl<|Ao rfl (.lenL U25 (Opd.tLn (.t rfl)))<|Ao rfl (.ltI (.t rfl) .i64)<|An<|W.cD hm (.t rfl) (fun hp3 hm=>?_) (fun hp3 hm=>?_)
 ·refine Aw<|Ao rfl (.build (s:=tapi_Id) (x:=(⟨(0:Int),(0:Int),(0:Int)⟩:api_Id)) zapi_Id_f rfl U23 (zapi_Id_sz _ U23) ze23 rfl)<|WL.opU (OpR.storeB (b:=b) 4 Z23 (Cellable.is tapi_Id (⟨(0:Int),(0:Int),(0:Int)⟩:api_Id)) rfl (.t rfl) (.t rfl)) fun _=>Ao rfl (.assign .i64)<|Ao rfl (.assign .bool)<|WL.ns ?_
  cases hm
  exact W.retQ3 () rfl rfl (ResAt.cell 4 Y23 Z23 rfl (.t rfl)) (ResAt.tmp (.t rfl)) (ResAt.tmp (.t rfl)) trivial
 ·refine W.skip<|Aq<|Aw<|Am rfl rfl<|Am rfl rfl<|Ao rfl (.lenL U25 (Opd.tLn (.t rfl))) ?_
  obtain ⟨v,hv4,hm⟩:=Bs hm
  refine Ao rfl (.subC hv4 (.t rfl) .i64) ?_
  obtain ⟨v1,hv5,hm⟩:=Bs hm
  refine Ao rfl (.idx hv5 U25 Z27 (Opd.tLn (.t rfl)) (.t rfl))<|Ao rfl (.load ty27 (.t rfl))<|WL.opR rfl (OpR.alloc 8 ze27) fun b1=>WL.opU (OpR.storeB (b:=b1) 8 Z27 (Cellable.is tapi_Unit v1) rfl (.t rfl) (.t rfl)) fun _=>WL.sealed (t:=tapi_Unit) (u:=v1) 8 8 rfl rfl<|Ar<|Ao rfl (.fieldAddr U27 rfl J25 fapi_Unit_5 (.t rfl))<|Ao rfl (.load ty25 (.t rfl))<|Ao rfl (.makeFunc (ok:=(fun s:api_Unit×Bool=>(fun s0=>M.unit_Parent_1 n s0 id) s.1=some s.2)) (As:=(fun s:api_Unit×Bool=>[tapi_Unit.is s.1])) (A:=(fun s:api_Unit×Bool=>(tB.is s.2))) (Cs:=[(tapi_Id.ptr id)]) (cap:=[.tmp 3]) C115 ⟨(.t rfl),trivial⟩ (fun s hs=>unit_Parent_1_spec _ _ _ _ hs)) ?_
  obtain ⟨unit,hv6,hm⟩:=Bs hm
  refine Ao rfl (.call C62 (slices_IndexFunc_api_Unit_api_Unit_spec _ _ _ _ hv6) ⟨(.t rfl),(.t rfl),trivial⟩)<|Ag rfl rfl<|Ar<|Ao rfl (.fieldAddr U27 rfl J23 fapi_Unit_0 (.t rfl))<|Ao rfl (.load ty23 (.t rfl))<|Am rfl rfl<|WL.opU (OpR.storeB (b:=b) 4 Z23 (Cellable.is tapi_Id v1.Id) rfl (.t rfl) (.t rfl)) fun _=>Ag rfl rfl<|Ao rfl (.assign .bool)<|WL.ns ?_
  cases hm
  exact W.retQ3 () rfl rfl (ResAt.cell 4 Y23 Z23 rfl (.t rfl)) (ResAt.tmp (.t rfl)) (ResAt.tmp (.t rfl)) trivial
theorem slices_Clone_api_Word_api_Word_spec(l:List api_Word)(r:List api_Word)(hm:M.slices_Clone_api_Word_api_Word l=some r):FSpecR Tryz.prog 116 [(tL tapi_Word).is l] [] (fun k:Tok=>tO tapi_Word k r) (fun k=>[(5,Dec.Own tapi_Word 33 k r.length)]):=by
 unfold M.slices_Clone_api_Word_api_Word at hm
 refine FSpecR.of Tryz.func116 rfl rfl rfl fun g0=>W.seq<|W.region<|Ao rfl (.assign (.nil (t:=tapi_Word)))<|WL.nil<|Aq<|W.seq<|W.seq<|W.region<|Ao rfl (.move (.t rfl))<|WL.opR rfl (OpR.eqNil U24 (.t rfl)) fun b=>WL.nil<|Aq<|W.cond (.t rfl) (fun hc=>?_) (fun hc=>?_)
 ·have hl:=b.2 hc
  subst hl
  have hr:[]=r:=by simpa [appC] using hm
  subst hr
  exact W.seq<|W.region<|WL.addNil (t:=tapi_Word) (E:=33) 5<|Ao rfl (.assign (Opd.nilO (t:=tapi_Word)))<|WL.nil<|Aq<|W.ret1 (none:Tok) rfl (.t rfl) ⟨rfl,rfl,trivial⟩
 ·exact W.skip<|Aq<|W.seq<|W.region<|WL.opR rfl (OpR.buildSlice (n:=0) (ys:=[]) (z:=zapi_Word) (xs:=[]) 5 U24 el33 ze33 trivial (by simp) (by decide) rfl) fun k5=>Ao rfl (.move (.t rfl))<|WL.opR rfl (OpR.appC (key:=5) hm U24 el33 (.t rfl) (.t rfl) rfl) fun k7=>Ao rfl (.assign (.t rfl))<|WL.nil<|Aq<|W.ret1 k7 rfl (.t rfl) ⟨rfl,rfl,trivial⟩
theorem unit_copied_spec:∀ (n:Nat) (u:api_Unit) (r:api_Unit),M.unit_copied n u=some r→FSpec Tryz.prog 99 [(tapi_Unit.is u)] (tapi_Unit.is r):=by
 intro n
 induction n with
 | zero=>intro u r hm;cases hm
 | succ n ih=>
  intro u r hm
  rw [M.unit_copied.eq_2] at hm
  refine FSpec.of Tryz.func99 rfl rfl rfl fun g0=>Aw<|WL.opR rfl (OpR.boxB 1 (Cellable.is tapi_Unit u) (.t rfl)) fun b=>WL.opR rfl (OpR.alloc 2 ze27) fun b1=>An<|W.seq ?_
  obtain ⟨word,hv1,hm⟩:=Bs hm
  obtain ⟨word1,hv2,hm⟩:=Bs hm
  refine W.weakR (res':=[(1,(Bx 8 true 27 (tapi_Unit.is u) b)),(2,(Bx 8 true 27 (tapi_Unit.is zapi_Unit) b1))]) ⟨rfl,rfl,⟨rfl,rfl,trivial⟩⟩<|W.drawM [.c (Bp b 5),.c ((tL tapi_Word).is u.Head),.c ((tL tapi_Word).is word),.c (Bp b 6),.c ((tL tapi_Word).is u.Words),.c ((tL tapi_Word).is word1),.c (Bp b 5),.c Asn.any,.c (Bp b 6),.c Asn.any] [([],[1]),([0],[]),([1],[]),([],[1]),([3],[]),([4],[]),([],[1]),([2,6],[]),([],[1]),([5,8],[])] [7,9] [[],[],[],[],[],[],[],[],[],[]] (fun m cv=>match m with | 0=>[(1,(Bx 8 true 27 (tapi_Unit.is u) b)),(2,(Bx 8 true 27 (tapi_Unit.is zapi_Unit) b1))] | 1=>[(1,(Bx 8 true 27 (tapi_Unit.is ({u with Head:=word}:api_Unit)) b)),(2,(Bx 8 true 27 (tapi_Unit.is zapi_Unit) b1))] | _=>[(1,(Bx 8 true 27 (tapi_Unit.is ({({u with Head:=word}:api_Unit) with Words:=word1}:api_Unit)) b)),(2,(Bx 8 true 27 (tapi_Unit.is zapi_Unit) b1))]) (fun _=>none) Mx rfl rfl rfl rfl rfl ⟨fun _ _ _ _=>rfl,⟨fun _ _ _ _=>rfl,⟨fun _ _ _ _=>rfl,⟨fun _ _ _ _=>rfl,⟨fun _ _ _ _=>rfl,⟨fun _ _ _ _=>rfl,⟨fun _ _ _ _=>rfl,⟨fun _ _ _ _=>rfl,⟨fun _ _ _ _=>rfl,⟨fun _ _ _ _=>rfl,trivial⟩⟩⟩⟩⟩⟩⟩⟩⟩⟩ rfl ⟨mo fun cv=>Op1.fieldAddrB (o:=0) U27 rfl J24 (.t rfl) rfl,⟨.inr ⟨fun cv=>[(1,(Bx 8 true 27 (tapi_Unit.is u) b))],(AllUpTo.at ⟨⟨(fun _ _=>⟨rfl,rfl,trivial⟩),(fun hw=>absurd hw (by decide))⟩,(fun hw=>absurd hw (by decide))⟩),fun cv=>Op1.loadBF 1 rfl ty24 fapi_Unit_3 rfl (.t rfl)⟩,⟨mo fun cv=>Op1.call C116 ((slices_Clone_api_Word_api_Word_spec _ _ hv1).read fun _ _ _=>tO_tL) ⟨(.t rfl),trivial⟩,⟨mo fun cv=>Op1.fieldAddrB (o:=0) U27 rfl J24 (.t rfl) rfl,⟨.inr ⟨fun cv=>[(1,(Bx 8 true 27 (tapi_Unit.is u) b))],(AllUpTo.at ⟨⟨(fun _ _=>⟨rfl,rfl,trivial⟩),(fun hw=>absurd hw (by decide))⟩,(fun hw=>absurd hw (by decide))⟩),fun cv=>Op1.loadBF 1 rfl ty24 fapi_Unit_4 rfl (.t rfl)⟩,⟨mo fun cv=>Op1.call C116 ((slices_Clone_api_Word_api_Word_spec _ _ hv2).read fun _ _ _=>tO_tL) ⟨(.t rfl),trivial⟩,⟨mo fun cv=>Op1.fieldAddrB (o:=0) U27 rfl J24 (.t rfl) rfl,⟨.inl rfl,⟨mo fun cv=>Op1.fieldAddrB (o:=0) U27 rfl J24 (.t rfl) rfl,⟨.inl rfl,trivial⟩⟩⟩⟩⟩⟩⟩⟩⟩⟩ ⟨⟨_,_,_,[1],(fun cv=>[(1,(Bx 8 true 27 (tapi_Unit.is ({u with Head:=word}:api_Unit)) b))]),rfl,rfl,rfl,rfl,fun _=>rfl,fun _ _=>rfl,fun cv=>OpR.viaU (OpR.storeBF (b:=b) 1 rfl ty24 sapi_Unit_3 rfl (by decide) (.t rfl) (.t rfl))⟩,⟨⟨_,_,_,[1],(fun cv=>[(1,(Bx 8 true 27 (tapi_Unit.is ({({u with Head:=word}:api_Unit) with Words:=word1}:api_Unit)) b))]),rfl,rfl,rfl,rfl,fun _=>rfl,fun _ _=>rfl,fun cv=>OpR.viaU (OpR.storeBF (b:=b) 1 rfl ty24 sapi_Unit_4 rfl (by decide) (.t rfl) (.t rfl))⟩,trivial⟩⟩ fun cv=>Aq<|Aw<|WL.addNil (t:=tapi_Unit) (E:=27) 3<|Ao rfl (.assign (Opd.nilO (t:=tapi_Unit)))<|An<|W.seq<|Aw<|Ao rfl (.fieldAddrB (o:=0) U27 rfl J25 (.t rfl) rfl)<|Ao rfl (.loadBF 1 rfl ty25 fapi_Unit_5 rfl (.t rfl))<|Ao rfl (.lenL U25 (.t rfl))<|Ao rfl (.move .i64)<|An<|W.block ?_
  obtain ⟨s3,hs4,hk5⟩:=Bs hm
  clear hm
  refine W.loop (fun m (s:Int×List api_Unit×List api_Unit×(((List api_Unit))×Tok))=>m=s.2.2.1.length∧({({u with Head:=word}:api_Unit) with Words:=word1}:api_Unit).Kids=s.2.1++s.2.2.1∧s.1=(s.2.1.length:Int)∧M.unit_copied_loop1 (M.unit_copied n) s.2.2.1 s.2.2.2.1=some s3) (fun s=>[(17,(I6.is s.1)),(3,(tO tapi_Unit s.2.2.2.2 s.2.2.2.1)),(1,(Bp b 0)),(2,(Bp b1 0)),(15,((tL tapi_Unit).is (({({u with Head:=word}:api_Unit) with Words:=word1}:api_Unit).Kids))),(16,(I6.is ((({({u with Head:=word}:api_Unit) with Words:=word1}:api_Unit).Kids).length:Int)))]) (fun s=>[(3,Dec.Own tapi_Unit 27 s.2.2.2.2 s.2.2.2.1.length),(1,(Bx 8 true 27 (tapi_Unit.is ({({u with Head:=word}:api_Unit) with Words:=word1}:api_Unit)) b)),(2,(Bx 8 true 27 (tapi_Unit.is zapi_Unit) b1))]) (({({u with Head:=word}:api_Unit) with Words:=word1}:api_Unit).Kids).length ((0:Int),[],({({u with Head:=word}:api_Unit) with Words:=word1}:api_Unit).Kids,(([]:List api_Unit),(none:Tok))) ⟨rfl,rfl,rfl,hs4⟩ ⟨.q rfl,.q rfl,.q rfl,.q rfl,.q rfl,.q rfl,trivial⟩ ⟨rfl,rfl,⟨rfl,rfl,⟨rfl,rfl,trivial⟩⟩⟩ ?_
  rintro m ⟨i,pre,rest1,⟨kids,k⟩⟩ ⟨hn9,hxs6,hi7,hm⟩
  try dsimp only at hn9 hxs6 hi7 hm
  change W _ _ _ _ _ _ _ [(17,(I6.is i)),(3,(tO tapi_Unit k kids)),(1,(Bp b 0)),(2,(Bp b1 0)),(15,((tL tapi_Unit).is (({({u with Head:=word}:api_Unit) with Words:=word1}:api_Unit).Kids))),(16,(I6.is ((({({u with Head:=word}:api_Unit) with Words:=word1}:api_Unit).Kids).length:Int)))] [(3,Dec.Own tapi_Unit 27 k kids.length),(1,(Bx 8 true 27 (tapi_Unit.is ({({u with Head:=word}:api_Unit) with Words:=word1}:api_Unit)) b)),(2,(Bx 8 true 27 (tapi_Unit.is zapi_Unit) b1))]
  refine W.lenL (s:=15) (.t rfl) fun hlen8=>Aw<|Ao rfl (.ltI (.t rfl) (.t rfl))<|An<|W.seq<|W.cond (.t rfl) (fun hc11=>?_) (fun hc11=>?_)
  ·have hp12:=of_decide_eq_true hc11
   obtain ⟨e,es,hrest14⟩:=range_more hxs6 hi7 hp12
   subst hrest14
   rw [M.unit_copied_loop1.eq_2] at hm
   refine W.skip<|Aq<|W.seq<|W.block<|Aw<|Ao rfl (.idxPre hxs6 hi7 U25 Z27 (.t rfl) (.t rfl))<|Ao rfl (.load ty27 (.t rfl))<|WL.opR rfl (OpR.alloc 5 ze27) fun b2=>WL.opU (OpR.storeB (b:=b2) 5 Z27 (Cellable.is tapi_Unit e) rfl (.t rfl) (.t rfl)) fun _=>WL.sealed (t:=tapi_Unit) (u:=e) 5 5 rfl rfl<|WL.nr1<|Am rfl rfl<|Ao rfl (.load ty27 (.t rfl)) ?_
   obtain ⟨copied,hv15,hm⟩:=Bs hm
   refine Ao rfl (.call C99 (ih _ _ hv15) ⟨(.t rfl),trivial⟩)<|Ao rfl (.buildSlice (n:=1) (ys:=[(0,copied)]) (z:=zapi_Unit) (xs:=[copied]) U25 el27 ze27 ⟨rfl,(.t rfl),trivial⟩ (by simp) (by decide) rfl) ?_
   obtain ⟨kids1,hv16,hm⟩:=Bs hm
   exact WL.opR rfl (OpR.appC (key:=3) hv16 U25 el27 (.t rfl) (.t rfl) rfl) fun k1=>Ag rfl rfl<|WL.nil<|WN.block<|Aq<|W.region<|Ao rfl (.addI (.t rfl) .i64 (range_inR hi7 hp12 hlen8))<|Am rfl rfl<|WL.nil<|WN.again es.length (i+1,pre++ [e],es,(kids1,k1)) (range_lt hn9) ⟨rfl,range_step hxs6,range_idx hi7,hm⟩ ⟨.q rfl,.q rfl,.q rfl,.q rfl,.q rfl,.q rfl,trivial⟩ ⟨rfl,rfl,⟨rfl,rfl,⟨rfl,rfl,trivial⟩⟩⟩
  ·have hrest14:=range_end hxs6 hi7 (of_decide_eq_false hc11)
   subst hrest14
   rw [M.unit_copied_loop1.eq_1] at hm
   refine W.exit rfl ?_
   have hr17:=Si hm
   clear hm
   subst hr17
   have hm:=hk5
   try dsimp only at hm
   refine Aq<|Aw<|Am rfl rfl<|Ao rfl (.fieldAddrB (o:=0) U27 rfl J25 (.t rfl) rfl)<|WL.opU (OpR.storeBF (b:=b) 1 rfl ty25 sapi_Unit_5 rfl (by decide) (.t rfl) (Opd.own (.t rfl))) fun _=>Ar<|Ao rfl (.loadB 1 Y27 Z27 rfl (.t rfl))<|WL.opU (OpR.storeB (b:=b1) 2 Z27 (Cellable.is tapi_Unit ({({({u with Head:=word}:api_Unit) with Words:=word1}:api_Unit) with Kids:=kids}:api_Unit)) rfl (.t rfl) (.t rfl)) fun _=>WL.ns ?_
   cases hm
   exact W.retQ1 () rfl (ResAt.cell 2 Y27 Z27 rfl (.t rfl)) trivial
theorem unit_Find_spec(n:Nat)(u:api_Unit)(id:api_Id)(r:api_Unit×Bool)(hm:M.unit_Find n u id=some r):FSpec Tryz.prog 68 [(tapi_Unit.is u),(tapi_Id.is id)] (Asn.tuple2 (tapi_Unit.is r.1) (tB.is r.2)):=by
 unfold M.unit_Find at hm
 refine FSpec.of Tryz.func68 rfl rfl rfl fun g0=>Aw<|Ao rfl (.box (.t rfl))<|Ao rfl (.box (.t rfl))<|WL.opR rfl (OpR.alloc 4 ze27) fun b=>Ao rfl (.assign .bool)<|Ar<|Ao rfl (.load ty27 (.t rfl))<|Ao rfl (.load ty23 (.t rfl)) ?_
 obtain ⟨way,hv1,hm⟩:=Bs hm
 refine Ao rfl (.call C98 (unit_way_spec _ _ _ _ hv1) ⟨(.t rfl),(.t rfl),trivial⟩)<|Ag rfl rfl<|An<|W.seq<|Aw<|Am rfl rfl<|Ao rfl (.lenL U25 (Opd.tLn (.t rfl)))<|Ao rfl (.eqI (.t rfl) .i64)<|An<|W.cD hm (.t rfl) (fun hp3 hm=>?_) (fun hp3 hm=>?_)
 ·refine Aw<|Ao rfl (.build (s:=tapi_Unit) (x:=(⟨zapi_Id,(0:Int),([]:Str),([]:List api_Word),([]:List api_Word),([]:List api_Unit)⟩:api_Unit)) zapi_Unit_f rfl U27 (zapi_Unit_sz _ U27) ze27 rfl)<|WL.opU (OpR.storeB (b:=b) 4 Z27 (Cellable.is tapi_Unit (⟨zapi_Id,(0:Int),([]:Str),([]:List api_Word),([]:List api_Word),([]:List api_Unit)⟩:api_Unit)) rfl (.t rfl) (.t rfl)) fun _=>Ao rfl (.assign .bool)<|WL.ns ?_
  cases hm
  exact W.retQ2 () rfl rfl (ResAt.cell 4 Y27 Z27 rfl (.t rfl)) (ResAt.tmp (.t rfl)) trivial
 ·refine W.skip<|Aq<|Aw<|Am rfl rfl<|Am rfl rfl<|Ao rfl (.lenL U25 (Opd.tLn (.t rfl))) ?_
  obtain ⟨v,hv4,hm⟩:=Bs hm
  refine Ao rfl (.subC hv4 (.t rfl) .i64) ?_
  obtain ⟨v1,hv5,hm⟩:=Bs hm
  refine Ao rfl (.idx hv5 U25 Z27 (Opd.tLn (.t rfl)) (.t rfl))<|Ao rfl (.load ty27 (.t rfl)) ?_
  obtain ⟨copied,hv6,hm⟩:=Bs hm
  refine Ao rfl (.call C99 (unit_copied_spec _ _ _ hv6) ⟨(.t rfl),trivial⟩)<|WL.opU (OpR.storeB (b:=b) 4 Z27 (Cellable.is tapi_Unit copied) rfl (.t rfl) (.t rfl)) fun _=>Ao rfl (.assign .bool)<|WL.ns ?_
  cases hm
  exact W.retQ2 () rfl rfl (ResAt.cell 4 Y27 Z27 rfl (.t rfl)) (ResAt.tmp (.t rfl)) trivial
theorem resolve_row_spec(n:Nat)(u:api_Unit)(id:api_Id)(r:api_Unit×Int×Bool)(hm:M.resolve_row n u id=some r):FSpec Tryz.prog 61 [(tapi_Unit.is u),(tapi_Id.is id)] (Asn.tuple3 (tapi_Unit.is r.1) (I6.is r.2.1) (tB.is r.2.2)):=by
 unfold M.resolve_row at hm
 refine FSpec.of Tryz.func61 rfl rfl rfl fun g0=>Aw<|Ao rfl (.box (.t rfl))<|Ao rfl (.box (.t rfl))<|WL.opR rfl (OpR.alloc 4 ze27) fun b=>Ao rfl (.assign .i64)<|Ao rfl (.assign .bool)<|Ar<|Ao rfl (.load ty27 (.t rfl))<|Ao rfl (.load ty23 (.t rfl)) ?_
 obtain ⟨parent,hv1,hm⟩:=Bs hm
 refine Ao rfl (.call C94 (unit_Parent_spec _ _ _ _ hv1) ⟨(.t rfl),(.t rfl),trivial⟩)<|Am rfl rfl<|Ao rfl (.extract30 (.t rfl))<|Ao rfl (.extract31 (.t rfl))<|Ao rfl (.extract32 (.t rfl))<|WL.opR rfl (OpR.alloc 7 ze23) fun b1=>WL.opU (OpR.storeB (b:=b1) 7 Z23 (Cellable.is tapi_Id parent.1) rfl (.t rfl) (.t rfl)) fun _=>WL.sealed (t:=tapi_Id) (u:=parent.1) 7 7 rfl rfl<|Ag rfl rfl<|Ag rfl rfl<|Ar<|Ao rfl (.load ty27 (.t rfl))<|Ao rfl (.load ty23 (.t rfl)) ?_
 obtain ⟨find,hv2,hm⟩:=Bs hm
 refine Ao rfl (.call C68 (unit_Find_spec _ _ _ _ hv2) ⟨(.t rfl),(.t rfl),trivial⟩)<|Am rfl rfl<|Ao rfl (.extract0 (.t rfl))<|Ao rfl (.extract1 (.t rfl))<|WL.opR rfl (OpR.alloc 10 ze27) fun b2=>WL.opU (OpR.storeB (b:=b2) 10 Z27 (Cellable.is tapi_Unit find.1) rfl (.t rfl) (.t rfl)) fun _=>WL.sealed (t:=tapi_Unit) (u:=find.1) 10 10 rfl rfl<|Ag rfl rfl<|Ar<|Ao rfl (.load ty27 (.t rfl))<|Am rfl rfl<|Am rfl rfl<|WL.opU (OpR.storeB (b:=b) 4 Z27 (Cellable.is tapi_Unit find.1) rfl (.t rfl) (.t rfl)) fun _=>Ag rfl rfl<|Ag rfl rfl<|WL.ns ?_
 cases hm
 exact W.retQ3 () rfl rfl (ResAt.cell 4 Y27 Z27 rfl (.t rfl)) (ResAt.tmp (.t rfl)) (ResAt.tmp (.t rfl)) trivial
theorem resolve_through_1_spec(x:api_Unit)(c:api_Unit)(c1:Int)(c2:api_Cite)(r:Bool)(hm:M.resolve_through_1 x c c1 c2=some r):FSpec Tryz.prog 63 [(tapi_Unit.is x),(tapi_Unit.ptr c),(I6.ptr c1),(tapi_Cite.ptr c2)] (tB.is r):=by
 unfold M.resolve_through_1 at hm
 refine FSpec.of Tryz.func63 rfl rfl rfl fun g0=>Aw<|Ao rfl (.box (.t rfl))<|Ao rfl (.assign .bool)<|An<|W.seq ?_
 obtain ⟨v,hv1,hm⟩:=Bs hm
 rcases iteD hm with ⟨hp3,hb2,hm⟩ | ⟨hp3,hb2,hm⟩
 ·refine W.draw [.c _,.c _,.c _,.c _,.c _,.c _,.c _,.c _,.c _,.c _,.c _,.c _,.c _,.c _,.c _,.c _,.c _] [([],[4]),([0],[]),([],[1]),([2],[]),([],[2]),([3,4],[]),([5],[]),([6],[]),([1,7],[]),([8],[]),([9],[4]),([9,10],[]),([9],[3]),([9,12],[]),([9,11,13],[]),([9,14],[]),([15],[])] Mx rfl rfl rfl rfl ⟨Dn (.fieldAddr U27 rfl J3 fapi_Unit_1 (.t rfl)),Dn (.load ty3 (.t rfl)),Dn (.fieldAddr U27 rfl J25 fapi_Unit_5 (.t rfl)),Dn (.load ty25 (.t rfl)),Dn (.load ty3 (.t rfl)),Dn (.idx hv1 U25 Z27 (.t rfl) (.t rfl)),Dn (.fieldAddr U27 rfl J3 fapi_Unit_1 (.t rfl)),Dn (.load ty3 (.t rfl)),Dn (.eqI (.t rfl) (.t rfl)),Dn (.move (.t rfl)),Dr rfl hb2 (.fieldAddr U27 rfl J9 fapi_Unit_2 (.t rfl)),Dr rfl hb2 (.load ty9 (.t rfl)),Dr rfl hb2 (.fieldAddr U52 rfl J9 fapi_Cite_2 (.t rfl)),Dr rfl hb2 (.load ty9 (.t rfl)),Dr rfl hb2 (.eqS (.t rfl) (.t rfl)),Dn (.pickT (.t rfl) hb2 (.t rfl)),Dn (.assign (.t rfl)),trivial⟩<|WN.seq ?_
  cases hm
  exact W.ret1 () rfl (.t rfl) trivial
 ·refine W.draw [.c _,.c _,.c _,.c _,.c _,.c _,.c _,.c _,.c _,.c _,.c _,.c _,.c _,.c _,.c _,.c _,.c _] [([],[4]),([0],[]),([],[1]),([2],[]),([],[2]),([3,4],[]),([5],[]),([6],[]),([1,7],[]),([8],[]),([9],[4]),([9,10],[]),([9],[3]),([9,12],[]),([9,11,13],[]),([9,14],[]),([15],[])] Mx rfl rfl rfl rfl ⟨Dn (.fieldAddr U27 rfl J3 fapi_Unit_1 (.t rfl)),Dn (.load ty3 (.t rfl)),Dn (.fieldAddr U27 rfl J25 fapi_Unit_5 (.t rfl)),Dn (.load ty25 (.t rfl)),Dn (.load ty3 (.t rfl)),Dn (.idx hv1 U25 Z27 (.t rfl) (.t rfl)),Dn (.fieldAddr U27 rfl J3 fapi_Unit_1 (.t rfl)),Dn (.load ty3 (.t rfl)),Dn (.eqI (.t rfl) (.t rfl)),Dn (.move (.t rfl)),Dp rfl hb2,Dp rfl hb2,Dp rfl hb2,Dp rfl hb2,Dp rfl hb2,Dn (.pickF (.t rfl) hb2 .bool),Dn (.assign (.t rfl)),trivial⟩<|WN.seq ?_
  cases hm
  exact W.ret1 () rfl (.t rfl) trivial
theorem resolve_Between_spec(n:Nat)(u:api_Unit)(a:api_Id)(b:api_Id)(r:(List api_Id))(hm:M.resolve_Between n u a b=some r):FSpec Tryz.prog 64 [(tapi_Unit.is u),(tapi_Id.is a),(tapi_Id.is b)] ((tL tapi_Id).is r):=by
 unfold M.resolve_Between at hm
 refine FSpec.of Tryz.func64 rfl rfl rfl fun g0=>Aw<|Ao rfl (.box (.t rfl))<|Ao rfl (.box (.t rfl))<|Ao rfl (.box (.t rfl))<|Ao rfl (.assign (.nil (t:=tapi_Id)))<|Ar<|Ao rfl (.load ty27 (.t rfl))<|Ao rfl (.load ty23 (.t rfl)) ?_
 obtain ⟨row,hv1,hm⟩:=Bs hm
 refine Ao rfl (.call C61 (resolve_row_spec _ _ _ _ hv1) ⟨(.t rfl),(.t rfl),trivial⟩)<|Am rfl rfl<|Ao rfl (.extract30 (.t rfl))<|Ao rfl (.extract31 (.t rfl))<|Ao rfl (.extract32 (.t rfl))<|WL.opR rfl (OpR.alloc 7 ze27) fun b1=>WL.opU (OpR.storeB (b:=b1) 7 Z27 (Cellable.is tapi_Unit row.1) rfl (.t rfl) (.t rfl)) fun _=>WL.sealed (t:=tapi_Unit) (u:=row.1) 7 7 rfl rfl<|Ag rfl rfl<|Ag rfl rfl<|Ar<|Ao rfl (.load ty27 (.t rfl))<|Ao rfl (.load ty23 (.t rfl)) ?_
 obtain ⟨row1,hv2,hm⟩:=Bs hm
 refine Ao rfl (.call C61 (resolve_row_spec _ _ _ _ hv2) ⟨(.t rfl),(.t rfl),trivial⟩)<|Am rfl rfl<|Ao rfl (.extract30 (.t rfl))<|Ao rfl (.extract31 (.t rfl))<|Ao rfl (.extract32 (.t rfl))<|WL.opR rfl (OpR.alloc 10 ze27) fun b2=>WL.opU (OpR.storeB (b:=b2) 10 Z27 (Cellable.is tapi_Unit row1.1) rfl (.t rfl) (.t rfl)) fun _=>WL.sealed (t:=tapi_Unit) (u:=row1.1) 10 10 rfl rfl<|Ag rfl rfl<|Ag rfl rfl<|An<|W.seq<|W.seq ?_
 rcases iteR hm with ⟨hp4,hb3,hm⟩ | ⟨hp4,hb3,hm⟩
 ·refine W.draw [.c (tB.is row.2.2),.c (tB.is (!row.2.2)),.c (tB.is (!row.2.2)),.c Un,.c Un,.c (tB.is true),.c (tB.is true),.c Un,.c Un,.c Un,.c Un,.c Un,.c (tB.is true),.c (tB.is true),.c Un,.c Un,.c Un,.c (tB.is true),.c (tB.is true),.c Un,.c Un,.c Un,.c Un,.c Un,.c Un,.c Un,.c Un,.c Un,.c Un,.c Un,.c Un,.c Un,.c (tB.is true)] [([],[9]),([0],[]),([1],[]),([2],[12]),([2,3],[]),([2,4],[]),([5],[]),([6],[7]),([6,7],[]),([6],[10]),([6,9],[]),([6,8,10],[]),([6,11],[]),([12],[]),([13],[11]),([13],[8]),([13,14,15],[]),([13,16],[]),([17],[]),([18],[7]),([18,19],[]),([18],[8]),([18,20,21],[]),([18,22],[]),([18,23],[]),([18],[7]),([18,25],[]),([18],[11]),([18,26,27],[]),([18,28],[]),([18,29],[]),([18,24,30],[]),([18,31],[])] Mx rfl rfl rfl rfl (by exact ⟨Dn (.move (.t rfl)),Dn (.notB (.t rfl)),Dn (.move (.t rfl)),Dp rfl hb3,Dp rfl hb3,Dn (.pickT (.t rfl) hb3 .bool),Dn (.move (.t rfl)),Dp rfl rfl,Dp rfl rfl,Dp rfl rfl,Dp rfl rfl,Dp rfl rfl,Dn (.pickT (.t rfl) rfl .bool),Dn (.move (.t rfl)),Dp rfl rfl,Dp rfl rfl,Dp rfl rfl,Dn (.pickT (.t rfl) rfl .bool),Dn (.move (.t rfl)),Dp rfl rfl,Dp rfl rfl,Dp rfl rfl,Dp rfl rfl,Dp rfl rfl,Dp rfl rfl,Dp rfl rfl,Dp rfl rfl,Dp rfl rfl,Dp rfl rfl,Dp rfl rfl,Dp rfl rfl,Dp rfl rfl,Dn (.pickT (.t rfl) rfl .bool),trivial⟩)<|Aq<|W.condT (.t rfl)<|Aw<|Ao rfl (.assign (.nil (t:=tapi_Id)))<|WL.ns ?_
  cases hm
  exact W.ret1 () rfl (.t rfl) trivial
 ·rcases iteR hm with ⟨hp6,hb5,hm⟩ | ⟨hp6,hb5,hm⟩
  ·refine W.draw [.c (tB.is row.2.2),.c (tB.is (!row.2.2)),.c (tB.is (!row.2.2)),.c (tB.is row1.2.2),.c (tB.is (!row1.2.2)),.c (tB.is (!row1.2.2)),.c (tB.is (!row1.2.2)),.c Un,.c Un,.c Un,.c Un,.c Un,.c (tB.is true),.c (tB.is true),.c Un,.c Un,.c Un,.c (tB.is true),.c (tB.is true),.c Un,.c Un,.c Un,.c Un,.c Un,.c Un,.c Un,.c Un,.c Un,.c Un,.c Un,.c Un,.c Un,.c (tB.is true)] [([],[9]),([0],[]),([1],[]),([2],[12]),([2,3],[]),([2,4],[]),([5],[]),([6],[7]),([6,7],[]),([6],[10]),([6,9],[]),([6,8,10],[]),([6,11],[]),([12],[]),([13],[11]),([13],[8]),([13,14,15],[]),([13,16],[]),([17],[]),([18],[7]),([18,19],[]),([18],[8]),([18,20,21],[]),([18,22],[]),([18,23],[]),([18],[7]),([18,25],[]),([18],[11]),([18,26,27],[]),([18,28],[]),([18,29],[]),([18,24,30],[]),([18,31],[])] Mx rfl rfl rfl rfl (by exact ⟨Dn (.move (.t rfl)),Dn (.notB (.t rfl)),Dn (.move (.t rfl)),Dr rfl hb3 (.move (.t rfl)),Dr rfl hb3 (.notB (.t rfl)),Dn (.pickF (.t rfl) hb3 (.t rfl)),Dn (.move (.t rfl)),Dp rfl hb5,Dp rfl hb5,Dp rfl hb5,Dp rfl hb5,Dp rfl hb5,Dn (.pickT (.t rfl) hb5 .bool),Dn (.move (.t rfl)),Dp rfl rfl,Dp rfl rfl,Dp rfl rfl,Dn (.pickT (.t rfl) rfl .bool),Dn (.move (.t rfl)),Dp rfl rfl,Dp rfl rfl,Dp rfl rfl,Dp rfl rfl,Dp rfl rfl,Dp rfl rfl,Dp rfl rfl,Dp rfl rfl,Dp rfl rfl,Dp rfl rfl,Dp rfl rfl,Dp rfl rfl,Dp rfl rfl,Dn (.pickT (.t rfl) rfl .bool),trivial⟩)<|Aq<|W.condT (.t rfl)<|Aw<|Ao rfl (.assign (.nil (t:=tapi_Id)))<|WL.ns ?_
   cases hm
   exact W.ret1 () rfl (.t rfl) trivial
  ·rcases iteD hm with ⟨hp8,hb7,hm⟩ | ⟨hp8,hb7,hm⟩
   ·refine W.draw [.c (tB.is row.2.2),.c (tB.is (!row.2.2)),.c (tB.is (!row.2.2)),.c (tB.is row1.2.2),.c (tB.is (!row1.2.2)),.c (tB.is (!row1.2.2)),.c (tB.is (!row1.2.2)),.c (tapi_Id.ptr row.1.Id),.c (tapi_Id.is row.1.Id),.c (tapi_Id.ptr row1.1.Id),.c (tapi_Id.is row1.1.Id),.c (tB.is (decide (row.1.Id≠row1.1.Id))),.c (tB.is (decide (row.1.Id≠row1.1.Id))),.c (tB.is (decide (row.1.Id≠row1.1.Id))),.c Un,.c Un,.c Un,.c (tB.is true),.c (tB.is true),.c Un,.c Un,.c Un,.c Un,.c Un,.c Un,.c Un,.c Un,.c Un,.c Un,.c Un,.c Un,.c Un,.c (tB.is true)] [([],[9]),([0],[]),([1],[]),([2],[12]),([2,3],[]),([2,4],[]),([5],[]),([6],[7]),([6,7],[]),([6],[10]),([6,9],[]),([6,8,10],[]),([6,11],[]),([12],[]),([13],[11]),([13],[8]),([13,14,15],[]),([13,16],[]),([17],[]),([18],[7]),([18,19],[]),([18],[8]),([18,20,21],[]),([18,22],[]),([18,23],[]),([18],[7]),([18,25],[]),([18],[11]),([18,26,27],[]),([18,28],[]),([18,29],[]),([18,24,30],[]),([18,31],[])] Mx rfl rfl rfl rfl (by exact ⟨Dn (.move (.t rfl)),Dn (.notB (.t rfl)),Dn (.move (.t rfl)),Dr rfl hb3 (.move (.t rfl)),Dr rfl hb3 (.notB (.t rfl)),Dn (.pickF (.t rfl) hb3 (.t rfl)),Dn (.move (.t rfl)),Dr rfl hb5 (.fieldAddr U27 rfl J23 fapi_Unit_0 (.t rfl)),Dr rfl hb5 (.load ty23 (.t rfl)),Dr rfl hb5 (.fieldAddr U27 rfl J23 fapi_Unit_0 (.t rfl)),Dr rfl hb5 (.load ty23 (.t rfl)),Dr rfl hb5 (.neSt (D:=2) rfl (by decide) eg23 eq23 (.t rfl) (.t rfl)),Dn (.pickF (.t rfl) hb5 (.t rfl)),Dn (.move (.t rfl)),Dp rfl hb7,Dp rfl hb7,Dp rfl hb7,Dn (.pickT (.t rfl) hb7 .bool),Dn (.move (.t rfl)),Dp rfl rfl,Dp rfl rfl,Dp rfl rfl,Dp rfl rfl,Dp rfl rfl,Dp rfl rfl,Dp rfl rfl,Dp rfl rfl,Dp rfl rfl,Dp rfl rfl,Dp rfl rfl,Dp rfl rfl,Dp rfl rfl,Dn (.pickT (.t rfl) rfl .bool),trivial⟩)<|Aq<|W.condT (.t rfl)<|Aw<|Ao rfl (.assign (.nil (t:=tapi_Id)))<|WL.ns ?_
    cases hm
    exact W.ret1 () rfl (.t rfl) trivial
   ·rcases iteD hm with ⟨hp10,hb9,hm⟩ | ⟨hp10,hb9,hm⟩
    ·refine W.draw [.c (tB.is row.2.2),.c (tB.is (!row.2.2)),.c (tB.is (!row.2.2)),.c (tB.is row1.2.2),.c (tB.is (!row1.2.2)),.c (tB.is (!row1.2.2)),.c (tB.is (!row1.2.2)),.c (tapi_Id.ptr row.1.Id),.c (tapi_Id.is row.1.Id),.c (tapi_Id.ptr row1.1.Id),.c (tapi_Id.is row1.1.Id),.c (tB.is (decide (row.1.Id≠row1.1.Id))),.c (tB.is (decide (row.1.Id≠row1.1.Id))),.c (tB.is (decide (row.1.Id≠row1.1.Id))),.c (I6.is row1.2.1),.c (I6.is row.2.1),.c (tB.is (decide (row1.2.1<row.2.1))),.c (tB.is (decide (row1.2.1<row.2.1))),.c (tB.is (decide (row1.2.1<row.2.1))),.c Un,.c Un,.c Un,.c Un,.c Un,.c Un,.c Un,.c Un,.c Un,.c Un,.c Un,.c Un,.c Un,.c (tB.is true)] [([],[9]),([0],[]),([1],[]),([2],[12]),([2,3],[]),([2,4],[]),([5],[]),([6],[7]),([6,7],[]),([6],[10]),([6,9],[]),([6,8,10],[]),([6,11],[]),([12],[]),([13],[11]),([13],[8]),([13,14,15],[]),([13,16],[]),([17],[]),([18],[7]),([18,19],[]),([18],[8]),([18,20,21],[]),([18,22],[]),([18,23],[]),([18],[7]),([18,25],[]),([18],[11]),([18,26,27],[]),([18,28],[]),([18,29],[]),([18,24,30],[]),([18,31],[])] Mx rfl rfl rfl rfl (by exact ⟨Dn (.move (.t rfl)),Dn (.notB (.t rfl)),Dn (.move (.t rfl)),Dr rfl hb3 (.move (.t rfl)),Dr rfl hb3 (.notB (.t rfl)),Dn (.pickF (.t rfl) hb3 (.t rfl)),Dn (.move (.t rfl)),Dr rfl hb5 (.fieldAddr U27 rfl J23 fapi_Unit_0 (.t rfl)),Dr rfl hb5 (.load ty23 (.t rfl)),Dr rfl hb5 (.fieldAddr U27 rfl J23 fapi_Unit_0 (.t rfl)),Dr rfl hb5 (.load ty23 (.t rfl)),Dr rfl hb5 (.neSt (D:=2) rfl (by decide) eg23 eq23 (.t rfl) (.t rfl)),Dn (.pickF (.t rfl) hb5 (.t rfl)),Dn (.move (.t rfl)),Dr rfl hb7 (.move (.t rfl)),Dr rfl hb7 (.move (.t rfl)),Dr rfl hb7 (.ltI (.t rfl) (.t rfl)),Dn (.pickF (.t rfl) hb7 (.t rfl)),Dn (.move (.t rfl)),Dp rfl hb9,Dp rfl hb9,Dp rfl hb9,Dp rfl hb9,Dp rfl hb9,Dp rfl hb9,Dp rfl hb9,Dp rfl hb9,Dp rfl hb9,Dp rfl hb9,Dp rfl hb9,Dp rfl hb9,Dp rfl hb9,Dn (.pickT (.t rfl) hb9 .bool),trivial⟩)<|Aq<|W.condT (.t rfl)<|Aw<|Ao rfl (.assign (.nil (t:=tapi_Id)))<|WL.ns ?_
     cases hm
     exact W.ret1 () rfl (.t rfl) trivial
    ·obtain ⟨v,hv11,hm⟩:=Bs hm
     obtain ⟨v1,hv12,hm⟩:=Bs hm
     refine W.draw [.c (tB.is row.2.2),.c (tB.is (!row.2.2)),.c (tB.is (!row.2.2)),.c (tB.is row1.2.2),.c (tB.is (!row1.2.2)),.c (tB.is (!row1.2.2)),.c (tB.is (!row1.2.2)),.c (tapi_Id.ptr row.1.Id),.c (tapi_Id.is row.1.Id),.c (tapi_Id.ptr row1.1.Id),.c (tapi_Id.is row1.1.Id),.c (tB.is (decide (row.1.Id≠row1.1.Id))),.c (tB.is (decide (row.1.Id≠row1.1.Id))),.c (tB.is (decide (row.1.Id≠row1.1.Id))),.c (I6.is row1.2.1),.c (I6.is row.2.1),.c (tB.is (decide (row1.2.1<row.2.1))),.c (tB.is (decide (row1.2.1<row.2.1))),.c (tB.is (decide (row1.2.1<row.2.1))),.c ((tL tapi_Unit).ptr row.1.Kids),.c ((tL tapi_Unit).is row.1.Kids),.c (I6.is row.2.1),.c (tapi_Unit.ptr v),.c (I6.ptr v.Kind),.c (I6.is v.Kind),.c ((tL tapi_Unit).ptr row.1.Kids),.c ((tL tapi_Unit).is row.1.Kids),.c (I6.is row1.2.1),.c (tapi_Unit.ptr v1),.c (I6.ptr v1.Kind),.c (I6.is v1.Kind),.c (tB.is (decide (v.Kind≠v1.Kind))),.c (tB.is (decide (v.Kind≠v1.Kind)))] [([],[9]),([0],[]),([1],[]),([2],[12]),([2,3],[]),([2,4],[]),([5],[]),([6],[7]),([6,7],[]),([6],[10]),([6,9],[]),([6,8,10],[]),([6,11],[]),([12],[]),([13],[11]),([13],[8]),([13,14,15],[]),([13,16],[]),([17],[]),([18],[7]),([18,19],[]),([18],[8]),([18,20,21],[]),([18,22],[]),([18,23],[]),([18],[7]),([18,25],[]),([18],[11]),([18,26,27],[]),([18,28],[]),([18,29],[]),([18,24,30],[]),([18,31],[])] Mx rfl rfl rfl rfl (by exact ⟨Dn (.move (.t rfl)),Dn (.notB (.t rfl)),Dn (.move (.t rfl)),Dr rfl hb3 (.move (.t rfl)),Dr rfl hb3 (.notB (.t rfl)),Dn (.pickF (.t rfl) hb3 (.t rfl)),Dn (.move (.t rfl)),Dr rfl hb5 (.fieldAddr U27 rfl J23 fapi_Unit_0 (.t rfl)),Dr rfl hb5 (.load ty23 (.t rfl)),Dr rfl hb5 (.fieldAddr U27 rfl J23 fapi_Unit_0 (.t rfl)),Dr rfl hb5 (.load ty23 (.t rfl)),Dr rfl hb5 (.neSt (D:=2) rfl (by decide) eg23 eq23 (.t rfl) (.t rfl)),Dn (.pickF (.t rfl) hb5 (.t rfl)),Dn (.move (.t rfl)),Dr rfl hb7 (.move (.t rfl)),Dr rfl hb7 (.move (.t rfl)),Dr rfl hb7 (.ltI (.t rfl) (.t rfl)),Dn (.pickF (.t rfl) hb7 (.t rfl)),Dn (.move (.t rfl)),Dr rfl hb9 (.fieldAddr U27 rfl J25 fapi_Unit_5 (.t rfl)),Dr rfl hb9 (.load ty25 (.t rfl)),Dr rfl hb9 (.move (.t rfl)),Dr rfl hb9 (.idx hv11 U25 Z27 (.t rfl) (.t rfl)),Dr rfl hb9 (.fieldAddr U27 rfl J3 fapi_Unit_1 (.t rfl)),Dr rfl hb9 (.load ty3 (.t rfl)),Dr rfl hb9 (.fieldAddr U27 rfl J25 fapi_Unit_5 (.t rfl)),Dr rfl hb9 (.load ty25 (.t rfl)),Dr rfl hb9 (.move (.t rfl)),Dr rfl hb9 (.idx hv12 U25 Z27 (.t rfl) (.t rfl)),Dr rfl hb9 (.fieldAddr U27 rfl J3 fapi_Unit_1 (.t rfl)),Dr rfl hb9 (.load ty3 (.t rfl)),Dr rfl hb9 (.neI (.t rfl) (.t rfl)),Dn (.pickF (.t rfl) hb9 (.t rfl)),trivial⟩)<|Aq<|W.cD hm (.t rfl) (fun hp14 hm=>?_) (fun hp14 hm=>?_)
     ·refine Aw<|Ao rfl (.assign (.nil (t:=tapi_Id)))<|WL.ns ?_
      cases hm
      exact W.ret1 () rfl (.t rfl) trivial
     ·refine W.skip<|Aq<|Aw<|WL.addNil (t:=tapi_Id) (E:=23) 13<|Ao rfl (.assign (Opd.nilO (t:=tapi_Id)))<|An<|W.seq<|Aw<|Ao rfl (.fieldAddr U27 rfl J25 fapi_Unit_5 (.t rfl))<|Ao rfl (.load ty25 (.t rfl))<|Am rfl rfl<|WL.mv rfl rfl ?_
      obtain ⟨v2,hv15,hm⟩:=Bs hm
      refine Ao rfl (.addC hv15 (.t rfl) .i64) ?_
      obtain ⟨v3,hv16,hm⟩:=Bs hm
      refine Ao rfl (.slc hv16 U25 Z27 (.t rfl) (.t rfl) (.t rfl))<|Ao rfl (.lenL U25 (.t rfl))<|Ao rfl (.move .i64)<|An<|W.block ?_
      obtain ⟨s17,hs18,hk19⟩:=Bs hm
      clear hm
      refine W.loop (fun m (s:Int×List api_Unit×List api_Unit×(((List api_Id))×Tok))=>m=s.2.2.1.length∧v3=s.2.1++s.2.2.1∧s.1=(s.2.1.length:Int)∧M.resolve_Between_loop1 row s.2.2.1 s.2.2.2.1=some s17) (fun s=>[(70,(I6.is s.1)),(13,(tO tapi_Id s.2.2.2.2 s.2.2.2.1)),(7,(tapi_Unit.ptr row.1)),(8,(I6.is row.2.1)),(68,((tL tapi_Unit).is v3)),(69,(I6.is (v3.length:Int)))]) (fun s=>[(13,Dec.Own tapi_Id 23 s.2.2.2.2 s.2.2.2.1.length)]) v3.length ((0:Int),[],v3,(([]:List api_Id),(none:Tok))) ⟨rfl,rfl,rfl,hs18⟩ ⟨.q rfl,.q rfl,.q rfl,.q rfl,.q rfl,.q rfl,trivial⟩ ⟨rfl,rfl,trivial⟩ ?_
      rintro m ⟨i,pre,rest1,⟨out,k⟩⟩ ⟨hn23,hxs20,hi21,hm⟩
      try dsimp only at hn23 hxs20 hi21 hm
      change W _ _ _ _ _ _ _ [(70,(I6.is i)),(13,(tO tapi_Id k out)),(7,(tapi_Unit.ptr row.1)),(8,(I6.is row.2.1)),(68,((tL tapi_Unit).is v3)),(69,(I6.is (v3.length:Int)))] [(13,Dec.Own tapi_Id 23 k out.length)]
      refine W.lenL (s:=68) (.t rfl) fun hlen22=>Aw<|Ao rfl (.ltI (.t rfl) (.t rfl))<|An<|W.seq<|W.cond (.t rfl) (fun hc25=>?_) (fun hc25=>?_)
      ·have hp26:=of_decide_eq_true hc25
       obtain ⟨e,es,hrest28⟩:=range_more hxs20 hi21 hp26
       subst hrest28
       rw [M.resolve_Between_loop1.eq_2] at hm
       refine W.skip<|Aq<|W.seq<|W.block<|Aw<|Ao rfl (.idxPre hxs20 hi21 U25 Z27 (.t rfl) (.t rfl))<|Ao rfl (.load ty27 (.t rfl))<|WL.opR rfl (OpR.alloc 15 ze27) fun b3=>WL.opU (OpR.storeB (b:=b3) 15 Z27 (Cellable.is tapi_Unit e) rfl (.t rfl) (.t rfl)) fun _=>WL.sealed (t:=tapi_Unit) (u:=e) 15 15 rfl rfl<|An<|W.seq ?_
       obtain ⟨v4,hv29,hm⟩:=Bs hm
       refine W.draw [.c _,.c _,.c _,.c _,.c _,.c _,.c _,.c _,.c _] [([],[15]),([0],[]),([],[7]),([2],[]),([],[8]),([3,4],[]),([5],[]),([6],[]),([1,7],[])] Mx rfl rfl rfl rfl ⟨Dn (.fieldAddr U27 rfl J3 fapi_Unit_1 (.t rfl)),Dn (.load ty3 (.t rfl)),Dn (.fieldAddr U27 rfl J25 fapi_Unit_5 (.t rfl)),Dn (.load ty25 (.t rfl)),Dn (.move (.t rfl)),Dn (.idx hv29 U25 Z27 (.t rfl) (.t rfl)),Dn (.fieldAddr U27 rfl J3 fapi_Unit_1 (.t rfl)),Dn (.load ty3 (.t rfl)),Dn (.eqI (.t rfl) (.t rfl)),trivial⟩<|Aq<|W.cD hm (.t rfl) (fun hp31 hm=>?_) (fun hp31 hm=>?_)
       ·refine W.region<|Am rfl rfl<|Ao rfl (.fieldAddr U27 rfl J23 fapi_Unit_0 (.t rfl))<|Ao rfl (.load ty23 (.t rfl))<|Ao rfl (.buildSlice (n:=1) (ys:=[(0,e.Id)]) (z:=zapi_Id) (xs:=[e.Id]) U40 el23 ze23 ⟨rfl,(.t rfl),trivial⟩ (by simp) (by decide) rfl) ?_
        obtain ⟨out1,hv32,hm⟩:=Bs hm
        exact WL.opR rfl (OpR.appC (key:=13) hv32 U40 el23 (.t rfl) (.t rfl) rfl) fun k1=>Ag rfl rfl<|WL.nil<|WN.block<|Aq<|W.region<|Ao rfl (.addI (.t rfl) .i64 (range_inR hi21 hp26 hlen22))<|Am rfl rfl<|WL.nil<|WN.again es.length (i+1,pre++ [e],es,(out1,k1)) (range_lt hn23) ⟨rfl,range_step hxs20,range_idx hi21,hm⟩ ⟨.q rfl,.q rfl,.q rfl,.q rfl,.q rfl,.q rfl,trivial⟩ ⟨rfl,rfl,trivial⟩
       ·exact W.skip<|WN.block<|Aq<|W.region<|Ao rfl (.addI (.t rfl) .i64 (range_inR hi21 hp26 hlen22))<|Am rfl rfl<|WL.nil<|WN.again es.length (i+1,pre++ [e],es,(out,k)) (range_lt hn23) ⟨rfl,range_step hxs20,range_idx hi21,hm⟩ ⟨.q rfl,.q rfl,.q rfl,.q rfl,.q rfl,.q rfl,trivial⟩ ⟨rfl,rfl,trivial⟩
      ·have hrest28:=range_end hxs20 hi21 (of_decide_eq_false hc25)
       subst hrest28
       rw [M.resolve_Between_loop1.eq_1] at hm
       refine W.exit rfl ?_
       have hr33:=Si hm
       clear hm
       subst hr33
       have hm:=hk19
       try dsimp only at hm
       refine Aq<|Aw<|Am rfl rfl<|Ag rfl rfl<|WL.ns ?_
       cases hm
       exact W.ret1 () rfl (Opd.own (.t rfl)) trivial
theorem resolve_through_spec(n:Nat)(s0_:resolve_scene)(c:api_Cite)(r:(List api_Id)×Int)(hm:M.resolve_through n s0_ c=some r):FSpec Tryz.prog 39 [(tresolve_scene.is s0_),(tapi_Cite.is c)] (Asn.tuple2 ((tL tapi_Id).is r.1) (I6.is r.2)):=by
 unfold M.resolve_through at hm
 refine FSpec.of Tryz.func39 rfl rfl rfl fun g0=>Aw<|Ao rfl (.box (.t rfl))<|Ao rfl (.box (.t rfl))<|Ao rfl (.assign (.nil (t:=tapi_Id)))<|Ao rfl (.assign .i64)<|Ar<|Ao rfl (.fieldAddr Tryz.underlying69 rfl J27 fresolve_scene_0 (.t rfl))<|Ao rfl (.load ty27 (.t rfl))<|Ao rfl (.fieldAddr U52 rfl J50 fapi_Cite_1 (.t rfl))<|Ao rfl (.load ty50 (.t rfl)) ?_
 obtain ⟨findon,hv1,hm⟩:=Bs hm
 refine Ao rfl (.call C60 (address_FindOne_spec _ _ _ _ hv1) ⟨(.t rfl),(.t rfl),trivial⟩)<|Am rfl rfl<|Ao rfl (.extract0 (.t rfl))<|Ao rfl (.extract1 (.t rfl))<|WL.opR rfl (OpR.alloc 6 ze23) fun b=>WL.opU (OpR.storeB (b:=b) 6 Z23 (Cellable.is tapi_Id findon.1) rfl (.t rfl) (.t rfl)) fun _=>WL.sealed (t:=tapi_Id) (u:=findon.1) 6 6 rfl rfl<|Ag rfl rfl<|An<|W.seq<|Aw<|Am rfl rfl<|Ao rfl (.neI (.t rfl) .i64)<|An<|W.cD hm (.t rfl) (fun hp3 hm=>?_) (fun hp3 hm=>?_)
 ·refine Aw<|Am rfl rfl<|Ao rfl (.assign (.nil (t:=tapi_Id)))<|Ag rfl rfl<|WL.ns ?_
  cases hm
  exact W.ret2 () rfl rfl (.t rfl) (.t rfl) trivial
 ·refine W.skip<|Aq<|Aw<|Ao rfl (.fieldAddr Tryz.underlying69 rfl J27 fresolve_scene_0 (.t rfl))<|Ao rfl (.load ty27 (.t rfl))<|Ao rfl (.load ty23 (.t rfl)) ?_
  obtain ⟨row,hv4,hm⟩:=Bs hm
  refine Ao rfl (.call C61 (resolve_row_spec _ _ _ _ hv4) ⟨(.t rfl),(.t rfl),trivial⟩)<|Am rfl rfl<|Ao rfl (.extract30 (.t rfl))<|Ao rfl (.extract31 (.t rfl))<|Ao rfl (.extract32 (.t rfl))<|WL.opR rfl (OpR.alloc 8 ze27) fun b1=>WL.opR rfl (OpR.alloc 9 ze3) fun b2=>WL.opU (OpR.storeB (b:=b1) 8 Z27 (Cellable.is tapi_Unit row.1) rfl (.t rfl) (.t rfl)) fun _=>WL.sealed (t:=tapi_Unit) (u:=row.1) 8 8 rfl rfl<|WL.opU (OpR.storeB (b:=b2) 9 Z3 (Cellable.is I6 row.2.1) rfl (.t rfl) (.t rfl)) fun _=>WL.sealed (t:=I6) (u:=row.2.1) 9 9 rfl rfl<|Ag rfl rfl<|An<|W.seq<|Aw<|WL.mv rfl rfl ?_
  refine Ao rfl (.notB (.t rfl))<|An<|W.cR hm (.t rfl) (fun hp6 hm=>?_) (fun hp6 hm=>?_)
  ·refine Aw<|Ao rfl (.assign (.nil (t:=tapi_Id)))<|Ao rfl (.assign .i64)<|WL.ns ?_
   cases hm
   exact W.ret2 () rfl rfl (.t rfl) (.t rfl) trivial
  ·refine W.skip<|Aq<|Aw<|Ao rfl (.fieldAddr U27 rfl J25 fapi_Unit_5 (.t rfl))<|Ao rfl (.load ty25 (.t rfl))<|Ao rfl (.makeFunc (ok:=(fun s:api_Unit×Bool=>(fun s0=>M.resolve_through_1 s0 row.1 row.2.1 c) s.1=some s.2)) (As:=(fun s:api_Unit×Bool=>[tapi_Unit.is s.1])) (A:=(fun s:api_Unit×Bool=>(tB.is s.2))) (Cs:=[(tapi_Unit.ptr row.1),(I6.ptr row.2.1),(tapi_Cite.ptr c)]) (cap:=[.tmp 8,.tmp 9,.tmp 3]) C63 ⟨(.t rfl),(.t rfl),(.t rfl),trivial⟩ (fun s hs=>resolve_through_1_spec _ _ _ _ _ hs)) ?_
   obtain ⟨unit,hv7,hm⟩:=Bs hm
   refine Ao rfl (.call C62 (slices_IndexFunc_api_Unit_api_Unit_spec _ _ _ _ hv7) ⟨(.t rfl),(.t rfl),trivial⟩)<|Ag rfl rfl<|An<|W.seq<|W.block<|Aw<|Am rfl rfl<|Ao rfl (.ltI (.t rfl) .i64)<|Ag rfl rfl<|An<|W.cD hm (.t rfl) (fun hp9 hm=>?_) (fun hp9 hm=>?_)
   ·refine Aw<|Ao rfl (.assign (.nil (t:=tapi_Id)))<|Ao rfl (.assign .i64)<|WL.ns ?_
    cases hm
    exact W.ret2 () rfl rfl (.t rfl) (.t rfl) trivial
   ·refine Aw<|Am rfl rfl<|Ao rfl (.load ty3 (.t rfl))<|Ao rfl (.ltI (.t rfl) (.t rfl))<|Ag rfl rfl<|An<|W.cD hm (.t rfl) (fun hp11 hm=>?_) (fun hp11 hm=>?_)
    ·refine Aw<|Ao rfl (.assign (.nil (t:=tapi_Id)))<|Ao rfl (.assign .i64)<|WL.ns ?_
     cases hm
     exact W.ret2 () rfl rfl (.t rfl) (.t rfl) trivial
    ·refine W.skip<|WN.block<|Aq<|W.seq ?_
     obtain ⟨v,hv12,hm⟩:=Bs hm
     obtain ⟨betwee,hv13,hm⟩:=Bs hm
     refine W.draw [.c _,.c _,.c _,.c _,.c _,.c _,.c _,.c _,.c _,.c _,.c _,.c _] [([],[2]),([0],[]),([],[6]),([],[8]),([3],[]),([],[11]),([4,5],[]),([6],[]),([7],[]),([1,2,8],[]),([9],[]),([],[])] Mx rfl rfl rfl rfl ⟨Dn (.fieldAddr Tryz.underlying69 rfl J27 fresolve_scene_0 (.t rfl)),Dn (.load ty27 (.t rfl)),Dn (.load ty23 (.t rfl)),Dn (.fieldAddr U27 rfl J25 fapi_Unit_5 (.t rfl)),Dn (.load ty25 (.t rfl)),Dn (.move (.t rfl)),Dn (.idx hv12 U25 Z27 (.t rfl) (.t rfl)),Dn (.fieldAddr U27 rfl J23 fapi_Unit_0 (.t rfl)),Dn (.load ty23 (.t rfl)),Dn (.call C64 (resolve_Between_spec _ _ _ _ _ hv13) ⟨(.t rfl),(.t rfl),(.t rfl),trivial⟩),Dn (.assign (.t rfl)),Dn (.assign .i64),trivial⟩<|WN.seq ?_
     cases hm
     exact W.ret2 () rfl rfl (.t rfl) (.t rfl) trivial
theorem unit_Ancestors_spec(n:Nat)(u:api_Unit)(id:api_Id)(r:(List api_Id))(hm:M.unit_Ancestors n u id=some r):FSpec Tryz.prog 95 [(tapi_Unit.is u),(tapi_Id.is id)] ((tL tapi_Id).is r):=by
 unfold M.unit_Ancestors at hm
 refine FSpec.of Tryz.func95 rfl rfl rfl fun g0=>Aw<|Ao rfl (.box (.t rfl))<|Ao rfl (.box (.t rfl))<|Ao rfl (.assign (.nil (t:=tapi_Id)))<|Ar<|WL.addNil (t:=tapi_Id) (E:=23) 5<|Ao rfl (.assign (Opd.nilO (t:=tapi_Id)))<|Ar<|Ao rfl (.load ty27 (.t rfl))<|Ao rfl (.load ty23 (.t rfl)) ?_
 obtain ⟨way,hv1,hm⟩:=Bs hm
 refine Ao rfl (.call C98 (unit_way_spec _ _ _ _ hv1) ⟨(.t rfl),(.t rfl),trivial⟩)<|Ag rfl rfl<|An<|W.seq<|Aw<|Am rfl rfl<|Ao rfl (.lenL U25 (Opd.tLn (.t rfl))) ?_
 obtain ⟨v,hv2,hm⟩:=Bs hm
 refine Ao rfl (.subC hv2 (.t rfl) .i64)<|Ag rfl rfl<|An<|W.block ?_
 obtain ⟨s3,hs4,hk5⟩:=Bs hm
 clear hm
 refine W.loop (fun m (s:((List api_Id)×Int)×Tok)=>M.unit_Ancestors_loop1 way m s.1.1 s.1.2=some s3) (fun s=>[(5,(tO tapi_Id s.2 s.1.1)),(7,(I6.is s.1.2)),(6,((tLn tapi_Unit).is way))]) (fun s=>[(5,Dec.Own tapi_Id 23 s.2 s.1.1.length)]) _ ((([]:List api_Id),v),(none:Tok)) hs4 ⟨.q rfl,.q rfl,.q rfl,trivial⟩ ⟨rfl,rfl,trivial⟩ ?_
 rintro n6 ⟨⟨out,i⟩,k⟩ hm
 try dsimp only at hm
 change W _ _ _ _ _ _ _ [(5,(tO tapi_Id k out)),(7,(I6.is i)),(6,((tLn tapi_Unit).is way))] [(5,Dec.Own tapi_Id 23 k out.length)]
 cases n6 with
 | zero=>rw [M.unit_Ancestors_loop1.eq_1] at hm;cases hm
 | succ n6=>
  rw [M.unit_Ancestors_loop1.eq_2] at hm
  refine W.seq<|Aw<|Am rfl rfl<|Ao rfl (.geI (.t rfl) .i64)<|An<|W.cD hm (.t rfl) (fun hp8 hm=>?_) (fun hp8 hm=>?_)
  ·refine W.skip<|Aq<|W.seq<|W.block<|W.region<|Am rfl rfl<|Am rfl rfl<|WL.mv rfl rfl ?_
   obtain ⟨v1,hv9,hm⟩:=Bs hm
   refine Ao rfl (.idx hv9 U25 Z27 (Opd.tLn (.t rfl)) (.t rfl))<|Ao rfl (.fieldAddr U27 rfl J23 fapi_Unit_0 (.t rfl))<|Ao rfl (.load ty23 (.t rfl))<|Ao rfl (.buildSlice (n:=1) (ys:=[(0,v1.Id)]) (z:=zapi_Id) (xs:=[v1.Id]) U40 el23 ze23 ⟨rfl,(.t rfl),trivial⟩ (by simp) (by decide) rfl) ?_
   obtain ⟨out1,hv10,hm⟩:=Bs hm
   refine WL.opR rfl (OpR.appC (key:=5) hv10 U40 el23 (.t rfl) (.t rfl) rfl) fun k1=>Ag rfl rfl<|WL.nil<|WN.block<|Aq<|W.region<|WL.mv rfl rfl ?_
   obtain ⟨v2,hv11,hm⟩:=Bs hm
   exact Ao rfl (.subC hv11 (.t rfl) .i64)<|Ag rfl rfl<|WL.nil<|WN.again n6 ((out1,v2),k1) (Nat.lt_succ_self n6) hm ⟨.q rfl,.q rfl,.q rfl,trivial⟩ ⟨rfl,rfl,trivial⟩
  ·refine W.exit rfl ?_
   have hr12:=Si hm
   clear hm
   subst hr12
   have hm:=hk5
   try dsimp only at hm
   refine Aq<|Aw<|Am rfl rfl<|Ag rfl rfl<|WL.ns ?_
   cases hm
   exact W.ret1 () rfl (Opd.own (.t rfl)) trivial
theorem resolve_Enclosing_spec(n:Nat)(u:api_Unit)(at0_:api_Id)(kind:Int)(r:api_Id×Bool)(hm:M.resolve_Enclosing n u at0_ kind=some r):FSpec Tryz.prog 65 [(tapi_Unit.is u),(tapi_Id.is at0_),(I6.is kind)] (Asn.tuple2 (tapi_Id.is r.1) (tB.is r.2)):=by
 unfold M.resolve_Enclosing at hm
 refine FSpec.of Tryz.func65 rfl rfl rfl fun g0=>Aw<|Ao rfl (.box (.t rfl))<|Ao rfl (.box (.t rfl))<|WL.opR rfl (OpR.alloc 6 ze23) fun b=>Ao rfl (.assign .bool)<|An<|W.seq<|Aw<|Ao rfl (.load ty27 (.t rfl))<|Ao rfl (.load ty23 (.t rfl)) ?_
 obtain ⟨find,hv1,hm⟩:=Bs hm
 refine Ao rfl (.call C68 (unit_Find_spec _ _ _ _ hv1) ⟨(.t rfl),(.t rfl),trivial⟩)<|Am rfl rfl<|Ao rfl (.extract0 (.t rfl))<|Ao rfl (.extract1 (.t rfl))<|WL.opR rfl (OpR.alloc 8 ze27) fun b1=>WL.opU (OpR.storeB (b:=b1) 8 Z27 (Cellable.is tapi_Unit find.1) rfl (.t rfl) (.t rfl)) fun _=>WL.sealed (t:=tapi_Unit) (u:=find.1) 8 8 rfl rfl<|Ag rfl rfl<|Ar<|Am rfl rfl<|Ao rfl (.notB (.t rfl))<|An<|W.cR hm (.t rfl) (fun hp3 hm=>?_) (fun hp3 hm=>?_)
 ·refine Aw<|Ao rfl (.build (s:=tapi_Id) (x:=(⟨(0:Int),(0:Int),(0:Int)⟩:api_Id)) zapi_Id_f rfl U23 (zapi_Id_sz _ U23) ze23 rfl)<|WL.opU (OpR.storeB (b:=b) 6 Z23 (Cellable.is tapi_Id (⟨(0:Int),(0:Int),(0:Int)⟩:api_Id)) rfl (.t rfl) (.t rfl)) fun _=>Ao rfl (.assign .bool)<|WL.ns ?_
  cases hm
  exact W.retQ2 () rfl rfl (ResAt.cell 6 Y23 Z23 rfl (.t rfl)) (ResAt.tmp (.t rfl)) trivial
 ·refine W.skip<|Aq<|W.seq<|W.seq ?_
  obtain ⟨ancest,hv4,hm⟩:=Bs hm
  obtain ⟨out,hv5,hm⟩:=Bs hm
  refine W.weakR (res':=[(6,(Bx 3 true 23 (tapi_Id.is zapi_Id) b))]) ⟨rfl,rfl,trivial⟩<|W.drawM [.c (tapi_Id.is at0_),.f (fun cv=>(tO tapi_Id (cv 0) [at0_])),.c (tapi_Unit.is u),.c (tapi_Id.is at0_),.c ((tL tapi_Id).is ancest),.f (fun cv=>(tO tapi_Id (cv 1) out)),.c (I6.is (out.length:Int)),.c (I6.is (0:Int))] [([],[4]),([0],[]),([],[3]),([],[4]),([2,3],[]),([1,4],[]),([5],[]),([],[])] [1,5] [[],[true],[],[],[],[false,true],[],[]] (fun m cv=>match m with | 0=>[(6,(Bx 3 true 23 (tapi_Id.is zapi_Id) b))] | 1=>[(24,Dec.Own tapi_Id 23 (cv 0) [at0_].length),(6,(Bx 3 true 23 (tapi_Id.is zapi_Id) b))] | _=>[(24,Dec.Own tapi_Id 23 (cv 1) out.length),(6,(Bx 3 true 23 (tapi_Id.is zapi_Id) b))]) (fun _=>none) Mx rfl rfl rfl rfl rfl ⟨fun _ _ _ _=>rfl,⟨fun m hm c t=>by simp only [DA.at,upd_dep (r:=[true]) (j:=0) rfl hm],⟨fun _ _ _ _=>rfl,⟨fun _ _ _ _=>rfl,⟨fun _ _ _ _=>rfl,⟨fun m hm c t=>by simp only [DA.at,upd_dep (r:=[false,true]) (j:=1) rfl hm],⟨fun _ _ _ _=>rfl,⟨fun _ _ _ _=>rfl,trivial⟩⟩⟩⟩⟩⟩⟩⟩ rfl ⟨mo fun cv=>Op1.load ty23 (.t rfl),⟨.inl rfl,⟨mo fun cv=>Op1.load ty27 (.t rfl),⟨mo fun cv=>Op1.load ty23 (.t rfl),⟨mo fun cv=>Op1.call C95 (unit_Ancestors_spec _ _ _ _ hv4) ⟨(.t rfl),(.t rfl),trivial⟩,⟨.inl rfl,⟨mo fun cv=>Op1.lenL U40 (Opd.own (.t rfl)),⟨mo fun cv=>Op1.move .i64,trivial⟩⟩⟩⟩⟩⟩⟩⟩ ⟨⟨_,_,_,[],(fun cv=>[(24,Dec.Own tapi_Id 23 (cv 0) [at0_].length)]),rfl,rfl,rfl,rfl,fun _=>rfl,fun _ _=>rfl,fun cv=>OpR.buildSlice (n:=1) (ys:=[(0,at0_)]) (z:=zapi_Id) (xs:=[at0_]) 24 U40 el23 ze23 ⟨rfl,(.t rfl),trivial⟩ (by simp) (by decide) rfl⟩,⟨⟨_,_,_,[24],(fun cv=>[(24,Dec.Own tapi_Id 23 (cv 1) out.length)]),rfl,rfl,rfl,rfl,fun _=>rfl,fun _ _=>rfl,fun cv=>OpR.appC (key:=24) hv5 U40 el23 (.t rfl) (.t rfl) rfl⟩,trivial⟩⟩ fun cv=>Aq<|W.block ?_
  obtain ⟨s6,hs7,hk8⟩:=Bs hm
  clear hm
  refine W.loop (fun m (s:Int×List api_Id×List api_Id×api_Id)=>m=s.2.2.1.length∧out=s.2.1++s.2.2.1∧s.1=(s.2.1.length:Int)∧M.resolve_Enclosing_loop1 n u kind s.2.2.1 s.2.2.2=some s6) (fun s=>[(30,(I6.is s.1)),(2,(I6.is kind)),(3,(tapi_Unit.ptr u)),(6,(Bp b 0)),(28,(tO tapi_Id (cv 1) out)),(29,(I6.is (out.length:Int)))]) (fun s=>[(24,Dec.Own tapi_Id 23 (cv 1) out.length),(6,(Bx 3 true 23 (tapi_Id.is s.2.2.2) b))]) out.length ((0:Int),[],out,zapi_Id) ⟨rfl,rfl,rfl,hs7⟩ ⟨.q rfl,.q rfl,.q rfl,.q rfl,.q rfl,.q rfl,trivial⟩ ⟨rfl,rfl,⟨rfl,rfl,trivial⟩⟩ ?_
  rintro m ⟨i,pre,rest1,v⟩ ⟨hn12,hxs9,hi10,hm⟩
  try dsimp only at hn12 hxs9 hi10 hm
  change W _ _ _ _ _ _ _ [(30,(I6.is i)),(2,(I6.is kind)),(3,(tapi_Unit.ptr u)),(6,(Bp b 0)),(28,(tO tapi_Id (cv 1) out)),(29,(I6.is (out.length:Int)))] [(24,Dec.Own tapi_Id 23 (cv 1) out.length),(6,(Bx 3 true 23 (tapi_Id.is v) b))]
  refine W.lenL (s:=28) (Opd.own (.t rfl)) fun hlen11=>Aw<|Ao rfl (.ltI (.t rfl) (.t rfl))<|An<|W.seq<|W.cond (.t rfl) (fun hc14=>?_) (fun hc14=>?_)
  ·have hp15:=of_decide_eq_true hc14
   obtain ⟨e,es,hrest17⟩:=range_more hxs9 hi10 hp15
   subst hrest17
   rw [M.resolve_Enclosing_loop1.eq_2] at hm
   refine W.skip<|Aq<|W.seq<|W.block<|Aw<|Ao rfl (.idxPre hxs9 hi10 U40 Z23 (Opd.own (.t rfl)) (.t rfl))<|Ao rfl (.load ty23 (.t rfl))<|WL.opR rfl (OpR.alloc 11 ze23) fun b2=>WL.opU (OpR.storeB (b:=b2) 11 Z23 (Cellable.is tapi_Id e) rfl (.t rfl) (.t rfl)) fun _=>WL.sealed (t:=tapi_Id) (u:=e) 11 11 rfl rfl<|Ar<|Ao rfl (.load ty27 (.t rfl))<|Ao rfl (.load ty23 (.t rfl)) ?_
   obtain ⟨find1,hv18,hm⟩:=Bs hm
   refine Ao rfl (.call C68 (unit_Find_spec _ _ _ _ hv18) ⟨(.t rfl),(.t rfl),trivial⟩)<|Am rfl rfl<|Ao rfl (.extract0 (.t rfl))<|Ao rfl (.extract1 (.t rfl))<|WL.opR rfl (OpR.alloc 12 ze27) fun b3=>WL.opU (OpR.storeB (b:=b3) 12 Z27 (Cellable.is tapi_Unit find1.1) rfl (.t rfl) (.t rfl)) fun _=>WL.sealed (t:=tapi_Unit) (u:=find1.1) 12 12 rfl rfl<|Ag rfl rfl<|Ar<|Ao rfl (.fieldAddr U27 rfl J3 fapi_Unit_1 (.t rfl))<|Ao rfl (.load ty3 (.t rfl))<|Am rfl rfl<|Ao rfl (.eqI (.t rfl) (.t rfl))<|An<|W.cD hm (.t rfl) (fun hp20 hm=>?_) (fun hp20 hm=>?_)
   ·refine Aw<|Ao rfl (.load ty23 (.t rfl))<|WL.opU (OpR.storeB (b:=b) 6 Z23 (Cellable.is tapi_Id e) rfl (.t rfl) (.t rfl)) fun _=>Ao rfl (.assign .bool)<|WL.ns ?_
    have hr21:=Si hm
    clear hm
    subst hr21
    have hm:=hk8
    try dsimp only at hm
    cases hm
    exact W.retQ2 () rfl rfl (ResAt.cell 6 Y23 Z23 rfl (.t rfl)) (ResAt.tmp (.t rfl)) trivial
   ·exact W.skip<|WN.block<|Aq<|W.region<|Ao rfl (.addI (.t rfl) .i64 (range_inR hi10 hp15 hlen11))<|Am rfl rfl<|WL.nil<|WN.again es.length (i+1,pre++ [e],es,v) (range_lt hn12) ⟨rfl,range_step hxs9,range_idx hi10,hm⟩ ⟨.q rfl,.q rfl,.q rfl,.q rfl,.q rfl,.q rfl,trivial⟩ ⟨rfl,rfl,⟨rfl,rfl,trivial⟩⟩
  ·have hrest17:=range_end hxs9 hi10 (of_decide_eq_false hc14)
   subst hrest17
   rw [M.resolve_Enclosing_loop1.eq_1] at hm
   refine W.exit rfl ?_
   have hr22:=Si hm
   clear hm
   subst hr22
   have hm:=hk8
   try dsimp only at hm
   refine Aq<|Aw<|Ao rfl (.build (s:=tapi_Id) (x:=(⟨(0:Int),(0:Int),(0:Int)⟩:api_Id)) zapi_Id_f rfl U23 (zapi_Id_sz _ U23) ze23 rfl)<|WL.opU (OpR.storeB (b:=b) 6 Z23 (Cellable.is tapi_Id (⟨(0:Int),(0:Int),(0:Int)⟩:api_Id)) rfl (.t rfl) (.t rfl)) fun _=>Ao rfl (.assign .bool)<|WL.ns ?_
   cases hm
   exact W.retQ2 () rfl rfl (ResAt.cell 6 Y23 Z23 rfl (.t rfl)) (ResAt.tmp (.t rfl)) trivial
theorem resolve_down_1_spec(y:api_Unit)(c:api_Step)(r:Bool)(hm:M.resolve_down_1 y c=some r):FSpec Tryz.prog 96 [(tapi_Unit.is y),(tapi_Step.ptr c)] (tB.is r):=by
 unfold M.resolve_down_1 at hm
 refine FSpec.of Tryz.func96 rfl rfl rfl fun g0=>Aw<|Ao rfl (.box (.t rfl))<|Ao rfl (.assign .bool)<|Ar<|Ao rfl (.fieldAddr U27 rfl J3 fapi_Unit_1 (.t rfl))<|Ao rfl (.load ty3 (.t rfl))<|Ao rfl (.fieldAddr U49 rfl J3 fapi_Step_0 (.t rfl))<|Ao rfl (.load ty3 (.t rfl))<|Ao rfl (.eqI (.t rfl) (.t rfl))<|WL.mv rfl rfl ?_
 rcases iteD hm with ⟨hp2,hb1,hm⟩ | ⟨hp2,hb1,hm⟩
 ·refine Ax rfl hb1 (.fieldAddr U27 rfl J9 fapi_Unit_2 (.t rfl))<|Ax rfl hb1 (.load ty9 (.t rfl))<|Ax rfl hb1 (.fieldAddr U49 rfl J9 fapi_Step_1 (.t rfl))<|Ax rfl hb1 (.load ty9 (.t rfl))<|Ax rfl hb1 (.eqS (.t rfl) (.t rfl))<|Ao rfl (.pickT (.t rfl) hb1 (.t rfl))<|Ag rfl rfl<|WL.ns ?_
  cases hm
  exact W.ret1 () rfl (.t rfl) trivial
 ·refine Ap rfl hb1<|Ap rfl hb1<|Ap rfl hb1<|Ap rfl hb1<|Ap rfl hb1<|Ao rfl (.pickF (.t rfl) hb1 .bool)<|Ag rfl rfl<|WL.ns ?_
  cases hm
  exact W.ret1 () rfl (.t rfl) trivial
theorem resolve_down_spec(n:Nat)(u:api_Unit)(id:api_Id)(p:List api_Step)(r:(List api_Id)×Int)(hm:M.resolve_down n u id p=some r):FSpec Tryz.prog 66 [(tapi_Unit.is u),(tapi_Id.is id),((tL tapi_Step).is p)] (Asn.tuple2 ((tL tapi_Id).is r.1) (I6.is r.2)):=by
 unfold M.resolve_down at hm
 refine FSpec.of Tryz.func66 rfl rfl rfl fun g0=>Aw<|Ao rfl (.box (.t rfl))<|Ao rfl (.box (.t rfl))<|Ao rfl (.assign (.nil (t:=tapi_Id)))<|Ao rfl (.assign .i64)<|Ar<|Ao rfl (.load ty27 (.t rfl))<|Ao rfl (.load ty23 (.t rfl)) ?_
 obtain ⟨find,hv1,hm⟩:=Bs hm
 refine Ao rfl (.call C68 (unit_Find_spec _ _ _ _ hv1) ⟨(.t rfl),(.t rfl),trivial⟩)<|Am rfl rfl<|Ao rfl (.extract0 (.t rfl))<|Ao rfl (.extract1 (.t rfl))<|WL.opR rfl (OpR.alloc 8 ze27) fun b=>WL.opU (OpR.storeB (b:=b) 8 Z27 (Cellable.is tapi_Unit find.1) rfl (.t rfl) (.t rfl)) fun _=>Ag rfl rfl<|An<|W.seq<|Aw<|Am rfl rfl<|Ao rfl (.lenL U50 (.t rfl))<|Ao rfl (.move .i64)<|An<|W.block ?_
 obtain ⟨s2,hs3,hk4⟩:=Bs hm
 clear hm
 refine W.loop (fun m (s:Int×List api_Step×List api_Step×api_Unit)=>m=s.2.2.1.length∧p=s.2.1++s.2.2.1∧s.1=(s.2.1.length:Int)∧M.resolve_down_loop1 n s.2.2.1 s.2.2.2=some s2) (fun s=>[(21,(I6.is s.1)),(8,(Bp b 0)),(19,((tL tapi_Step).is p)),(20,(I6.is (p.length:Int)))]) (fun s=>[(8,(Bx 8 true 27 (tapi_Unit.is s.2.2.2) b))]) p.length ((0:Int),[],p,find.1) ⟨rfl,rfl,rfl,hs3⟩ ⟨.q rfl,.q rfl,.q rfl,.q rfl,trivial⟩ ⟨rfl,rfl,trivial⟩ ?_
 rintro m ⟨i,pre,rest1,x⟩ ⟨hn8,hxs5,hi6,hm⟩
 try dsimp only at hn8 hxs5 hi6 hm
 change W _ _ _ _ _ _ _ [(21,(I6.is i)),(8,(Bp b 0)),(19,((tL tapi_Step).is p)),(20,(I6.is (p.length:Int)))] [(8,(Bx 8 true 27 (tapi_Unit.is x) b))]
 refine W.lenL (s:=19) (.t rfl) fun hlen7=>Aw<|Ao rfl (.ltI (.t rfl) (.t rfl))<|An<|W.seq<|W.cond (.t rfl) (fun hc10=>?_) (fun hc10=>?_)
 ·have hp11:=of_decide_eq_true hc10
  obtain ⟨e,es,hrest13⟩:=range_more hxs5 hi6 hp11
  subst hrest13
  rw [M.resolve_down_loop1.eq_2] at hm
  refine W.skip<|Aq<|W.seq<|W.block<|Aw<|Ao rfl (.idxPre hxs5 hi6 U50 Z49 (.t rfl) (.t rfl))<|Ao rfl (.load ty49 (.t rfl))<|WL.opR rfl (OpR.alloc 11 ze49) fun b1=>WL.opU (OpR.storeB (b:=b1) 11 Z49 (Cellable.is tapi_Step e) rfl (.t rfl) (.t rfl)) fun _=>WL.sealed (t:=tapi_Step) (u:=e) 11 11 rfl rfl<|Ar<|Ao rfl (.fieldAddrB (o:=0) U27 rfl J25 (.t rfl) rfl)<|Ao rfl (.loadBF 8 rfl ty25 fapi_Unit_5 rfl (.t rfl))<|Ao rfl (.makeFunc (ok:=(fun s:api_Unit×Bool=>(fun s0=>M.resolve_down_1 s0 e) s.1=some s.2)) (As:=(fun s:api_Unit×Bool=>[tapi_Unit.is s.1])) (A:=(fun s:api_Unit×Bool=>(tB.is s.2))) (Cs:=[(tapi_Step.ptr e)]) (cap:=[.tmp 11]) C96 ⟨(.t rfl),trivial⟩ (fun s hs=>resolve_down_1_spec _ _ _ hs)) ?_
  obtain ⟨unit,hv14,hm⟩:=Bs hm
  refine Ao rfl (.call C62 (slices_IndexFunc_api_Unit_api_Unit_spec _ _ _ _ hv14) ⟨(.t rfl),(.t rfl),trivial⟩)<|Ag rfl rfl<|An<|W.seq<|Aw<|Am rfl rfl<|Ao rfl (.ltI (.t rfl) .i64)<|An<|W.cD hm (.t rfl) (fun hp16 hm=>?_) (fun hp16 hm=>?_)
  ·refine Aw<|Ao rfl (.assign (.nil (t:=tapi_Id)))<|Ao rfl (.assign .i64)<|WL.ns ?_
   have hr17:=Si hm
   clear hm
   subst hr17
   have hm:=hk4
   try dsimp only at hm
   cases hm
   exact W.ret2 () rfl rfl (.t rfl) (.t rfl) trivial
  ·refine W.skip<|Aq<|W.region<|Ao rfl (.fieldAddrB (o:=0) U27 rfl J25 (.t rfl) rfl)<|Ao rfl (.loadBF 8 rfl ty25 fapi_Unit_5 rfl (.t rfl))<|WL.mv rfl rfl ?_
   obtain ⟨v,hv18,hm⟩:=Bs hm
   exact Ao rfl (.idx hv18 U25 Z27 (.t rfl) (.t rfl))<|Ao rfl (.load ty27 (.t rfl))<|WL.opU (OpR.storeB (b:=b) 8 Z27 (Cellable.is tapi_Unit v) rfl (.t rfl) (.t rfl)) fun _=>WL.nil<|WN.block<|Aq<|W.region<|Ao rfl (.addI (.t rfl) .i64 (range_inR hi6 hp11 hlen7))<|Am rfl rfl<|WL.nil<|WN.again es.length (i+1,pre++ [e],es,v) (range_lt hn8) ⟨rfl,range_step hxs5,range_idx hi6,hm⟩ ⟨.q rfl,.q rfl,.q rfl,.q rfl,trivial⟩ ⟨rfl,rfl,trivial⟩
 ·have hrest13:=range_end hxs5 hi6 (of_decide_eq_false hc10)
  subst hrest13
  rw [M.resolve_down_loop1.eq_1] at hm
  refine W.exit rfl ?_
  have hr19:=Si hm
  clear hm
  subst hr19
  have hm:=hk4
  try dsimp only at hm
  refine Aq<|Aw<|Ao rfl (.fieldAddrB (o:=0) U27 rfl J23 (.t rfl) rfl)<|Ao rfl (.loadBF 8 rfl ty23 fapi_Unit_0 rfl (.t rfl))<|Ao rfl (.buildSlice (n:=1) (ys:=[(0,x.Id)]) (z:=zapi_Id) (xs:=[x.Id]) U40 el23 ze23 ⟨rfl,(.t rfl),trivial⟩ (by simp) (by decide) rfl)<|Ag rfl rfl<|Ao rfl (.assign .i64)<|WL.ns ?_
  cases hm
  exact W.ret2 () rfl rfl (.t rfl) (.t rfl) trivial
theorem resolve_this_spec(n:Nat)(s0_:resolve_scene)(c:api_Cite)(r:(List api_Id)×Int)(hm:M.resolve_this n s0_ c=some r):FSpec Tryz.prog 40 [(tresolve_scene.is s0_),(tapi_Cite.is c)] (Asn.tuple2 ((tL tapi_Id).is r.1) (I6.is r.2)):=by
 unfold M.resolve_this at hm
 refine FSpec.of Tryz.func40 rfl rfl rfl fun g0=>Aw<|Ao rfl (.box (.t rfl))<|Ao rfl (.box (.t rfl))<|Ao rfl (.assign (.nil (t:=tapi_Id)))<|Ao rfl (.assign .i64)<|An<|W.seq ?_
 obtain ⟨v,hv1,hm⟩:=Bs hm
 obtain ⟨enclos,hv2,hm⟩:=Bs hm
 refine W.weakR (res':=[]) trivial<|W.drawM [.c (tapi_Unit.ptr s0_.u_),.c (tapi_Unit.is s0_.u_),.c (tapi_Id.ptr s0_.at_),.c (tapi_Id.is s0_.at_),.c ((tL tapi_Step).ptr c.Path),.c ((tL tapi_Step).is c.Path),.c (tapi_Step.ptr v),.c (I6.ptr v.Kind),.c (I6.is v.Kind),.c (Asn.tuple2 (tapi_Id.is enclos.1) (tB.is enclos.2)),.c (Asn.tuple2 (tapi_Id.is enclos.1) (tB.is enclos.2)),.c (tapi_Id.is enclos.1),.c (tB.is enclos.2),.f (fun cv=>(Bp (bk (cv 0)) 0)),.c Asn.any,.c (tB.is enclos.2)] [([],[2]),([0],[]),([],[2]),([2],[]),([],[3]),([4],[]),([5],[]),([6],[]),([7],[]),([1,3,8],[]),([9],[]),([10],[]),([10],[]),([],[]),([11,13],[]),([12],[])] [13,14] [[],[],[],[],[],[],[],[],[],[],[],[],[],[true],[],[]] (fun m cv=>match m with | 0=>[] | 1=>[(6,(Bx 3 true 23 (tapi_Id.is zapi_Id) (bk (cv 0))))] | _=>[(6,(Bx 3 true 23 (tapi_Id.is enclos.1) (bk (cv 0))))]) (fun _=>none) Mx rfl rfl rfl rfl rfl ⟨fun _ _ _ _=>rfl,⟨fun _ _ _ _=>rfl,⟨fun _ _ _ _=>rfl,⟨fun _ _ _ _=>rfl,⟨fun _ _ _ _=>rfl,⟨fun _ _ _ _=>rfl,⟨fun _ _ _ _=>rfl,⟨fun _ _ _ _=>rfl,⟨fun _ _ _ _=>rfl,⟨fun _ _ _ _=>rfl,⟨fun _ _ _ _=>rfl,⟨fun _ _ _ _=>rfl,⟨fun _ _ _ _=>rfl,⟨fun m hm c t=>by simp only [DA.at,upd_dep (r:=[true]) (j:=0) rfl hm],⟨fun _ _ _ _=>rfl,⟨fun _ _ _ _=>rfl,trivial⟩⟩⟩⟩⟩⟩⟩⟩⟩⟩⟩⟩⟩⟩⟩⟩ rfl ⟨mo fun cv=>Op1.fieldAddr Tryz.underlying69 rfl J27 fresolve_scene_0 (.t rfl),⟨mo fun cv=>Op1.load ty27 (.t rfl),⟨mo fun cv=>Op1.fieldAddr Tryz.underlying69 rfl J23 fresolve_scene_1 (.t rfl),⟨mo fun cv=>Op1.load ty23 (.t rfl),⟨mo fun cv=>Op1.fieldAddr U52 rfl J50 fapi_Cite_1 (.t rfl),⟨mo fun cv=>Op1.load ty50 (.t rfl),⟨mo fun cv=>Op1.idx hv1 U50 Z49 (.t rfl) .i64,⟨mo fun cv=>Op1.fieldAddr U49 rfl J3 fapi_Step_0 (.t rfl),⟨mo fun cv=>Op1.load ty3 (.t rfl),⟨mo fun cv=>Op1.call C65 (resolve_Enclosing_spec _ _ _ _ _ hv2) ⟨(.t rfl),(.t rfl),(.t rfl),trivial⟩,⟨mo fun cv=>Op1.move (.t rfl),⟨mo fun cv=>Op1.extract0 (.t rfl),⟨mo fun cv=>Op1.extract1 (.t rfl),⟨.inl rfl,⟨.inl rfl,⟨mo fun cv=>Op1.assign (.t rfl),trivial⟩⟩⟩⟩⟩⟩⟩⟩⟩⟩⟩⟩⟩⟩⟩⟩ ⟨⟨_,_,_,[],(fun cv=>[(6,(Bx 3 true 23 (tapi_Id.is zapi_Id) (bk (cv 0))))]),rfl,rfl,rfl,rfl,fun _=>rfl,fun _ _=>rfl,fun cv=>OpR.viaB (OpR.alloc 6 ze23)⟩,⟨⟨_,_,_,[6],(fun cv=>[(6,(Bx 3 true 23 (tapi_Id.is enclos.1) (bk (cv 0))))]),rfl,rfl,rfl,rfl,fun _=>rfl,fun _ _=>rfl,fun cv=>OpR.viaU (OpR.storeB (b:=(bk (cv 0))) 6 Z23 (Cellable.is tapi_Id enclos.1) rfl (.t rfl) (.t rfl))⟩,trivial⟩⟩ fun cv=>Aq<|W.seq<|Aw<|Am rfl rfl<|Ao rfl (.notB (.t rfl))<|An<|W.cR hm (.t rfl) (fun hp4 hm=>?_) (fun hp4 hm=>?_)
 ·refine Aw<|Ao rfl (.assign (.nil (t:=tapi_Id)))<|Ao rfl (.assign .i64)<|WL.ns ?_
  cases hm
  exact W.ret2 () rfl rfl (.t rfl) (.t rfl) trivial
 ·refine W.skip<|Aq<|W.seq ?_
  obtain ⟨v1,hv5,hm⟩:=Bs hm
  obtain ⟨down,hv6,hm⟩:=Bs hm
  refine W.draw [.c _,.c _,.c _,.c _,.c _,.c _,.c _,.c _,.c _,.c _,.c _] [([],[2]),([0],[]),([],[6]),([],[3]),([3],[]),([4],[]),([1,2,5],[]),([6],[]),([6],[]),([7],[]),([8],[])] Mx rfl rfl rfl rfl ⟨Dn (.fieldAddr Tryz.underlying69 rfl J27 fresolve_scene_0 (.t rfl)),Dn (.load ty27 (.t rfl)),Dn (.loadB 6 Y23 Z23 rfl (.t rfl)),Dn (.fieldAddr U52 rfl J50 fapi_Cite_1 (.t rfl)),Dn (.load ty50 (.t rfl)),Dn (.slcLo hv5 U50 Z49 (.t rfl) .i64),Dn (.call C66 (resolve_down_spec _ _ _ _ _ hv6) ⟨(.t rfl),(.t rfl),(.t rfl),trivial⟩),Dn (.extract0 (.t rfl)),Dn (.extract1 (.t rfl)),Dn (.assign (.t rfl)),Dn (.assign (.t rfl)),trivial⟩<|WN.seq ?_
  cases hm
  exact W.ret2 () rfl rfl (.t rfl) (.t rfl) trivial
theorem back67_spec(l:List api_Id):FSpec Tryz.prog 67 [(tL tapi_Id).is l] (cloA 97 [(tL tapi_Id).ptr l]):=by
 exact FSpec.of Tryz.func67 rfl rfl rfl fun g0=>Aw<|Ao rfl (.box (.t rfl))<|Ao rfl (.assign Opd.const)<|WL.nil<|Aq<|Aw<|Ao rfl (.makeClo (Cs:=[(tL tapi_Id).ptr l]) (cap:=[.tmp 1]) ⟨(.t rfl),trivial⟩)<|Ag rfl rfl<|WL.nil<|Aq<|W.ret1 () rfl (.t rfl) trivial
theorem back97:Back Tryz.prog 97 tapi_Id:=by
 intro g pv rs n hpv l J Jx W hW hJ hJx hY h0
 have hS0:Stays g W:=(Stays.refl g).below hW
 have hlim:rs.length≤lim:=by
  obtain ⟨b,o,_,cs,⟨p,c,_,_,h3,_⟩,_⟩:=hpv
  exact h3
 have hrange:∀ k:Nat,k≤rs.length→inR .i64 ((rs.length:Int)-1-(k:Int)):=fun k hk=>inR64.2 (by unfold lim at hlim;omega)
 have hJn:∀ {s:List (Fin rs.length)} {ga gb:G},J s ga.w→Ext No ga gb→J s gb.w:=fun h e=>hJ _ _ _ none h (grown_of e) (fun r e=>by cases e)
 have hJxn:∀ {s:List (Fin rs.length)} {ga gb:G},Jx s ga.w→Ext No ga gb→Jx s gb.w:=fun h e=>hJx _ _ _ none h (grown_of e) (fun r e=>by cases e)
 refine callsIn_of_wp Tryz.func97 rfl trivial ?_ rfl
 have hent:∀ {a2:Act} {w:World},Stays g w→a2.tmps.getD 1 undef=pv→(Asn.both (Asn.eq pv) ((tL (tRaw tapi_Id)).ptr rs)).holds (a2.tmps.getD 1 undef) (g.at w):=fun hw he=>⟨he,by rw [he];exact ((tL (tRaw tapi_Id)).ptr rs).mono hw.ext hpv⟩
 refine WR.begin (N:=19) (g:=g.at W) (vs:=[.func (.yield l) #[] #[],pv]) (As:=[Asn.eq (.func (.yield l) #[] #[]),Asn.eq pv]) rfl rfl ⟨rfl,rfl,trivial⟩ ?_
 intro a g1 hst
 have hg1:Stays g g1.w:=hS0.on hst.ext
 have hJ1:J [] g1.w:=hJn (ga:=g.at W) h0 hst.ext
 have hst1:=hst.eqs (L:=[(0,.func (.yield l) #[] #[]),(1,pv)]) ⟨.q rfl,.q rfl,trivial⟩ (g.at g1.w)
 have hst2:=hst1.entry (hent hg1 (hst1.henv 1 _ rfl))
 refine WR.go (D:=[]) (g:=g.at g1.w) (env:=(1,Asn.both (Asn.eq pv) ((tL (tRaw tapi_Id)).ptr rs)) :: eqs [(0,.func (.yield l) #[] #[]),(1,pv)]) (res:=[]) (g0:=g.at g1.w) (T0:=No) (N:=19) ?_ hst2
 refine WR.seq<|WR.region rfl<|Ao rfl (.load (t:=tL (tRaw tapi_Id)) ⟨Y40,Z40⟩ (Opd.weak (.t rfl) (fun _ _ h=>h.2)))<|Ao rfl (.lenL U40 (.t rfl))<|Ao rfl (.subI (.t rfl) (.int (n:=1) (inR64.2 (by omega))) (inR64.2 (by unfold lim at hlim;omega)))<|Ao rfl (.assign (.t rfl))<|WL.nil<|WN.wr<|WR.block<|WR.loopI (fun a w=>∃ k:Nat,k≤rs.length∧Stays g w∧J ((List.finRange rs.length).take k) w∧St 19 (g.at w) No (eqs [(3,.int .i64 ((rs.length:Int)-1-(k:Int))),(0,.func (.yield l) #[] #[]),(1,pv)]) [] a (g.at w))
  (fun a _=>match a.tmps.getD 3 undef with | .int _ q=>(q+1).toNat | _=>0) ?_ ?_
 ·intro a2 g2 h2
  refine ⟨0,Nat.zero_le _,hg1.on h2.ext,?_,h2.eqs (L:=[(3,.int .i64 ((rs.length:Int)-1-((0:Nat):Int))),(0,.func (.yield l) #[] #[]),(1,pv)]) ⟨Ent.w rfl (fun v g h=>eq_of_int h (by simp)),.q rfl,Ent.w rfl (fun v g h=>h.1),trivial⟩ _⟩
  rw [List.take_zero]
  exact hJn (ga:=g.at g1.w) hJ1 h2.ext
 ·rintro a2 w ⟨k,hk,hs,hj,hsk⟩
  have hq:=hrange k hk
  have hsk':=hsk.entry (hent hs (hsk.henv 1 _ rfl))
  refine WR.go0 ?_ hsk' rfl
  refine WR.seq<|WR.seq<|WR.region rfl<|Ao rfl (.move (.t rfl))<|Ao rfl (.geI (.eqInt hq (.t rfl)) (.int (n:=0) (inR64.2 (by omega))))<|WL.nil<|WN.wr<|WR.cond (.t rfl) (fun hc=>?_) (fun hc=>?_)
  ·have hlt:k<rs.length:=by have:=of_decide_eq_true hc;omega
   refine WR.skipS<|WR.seq<|WR.block<|WR.seq<|WR.regionI<|WLI.op rfl rfl (Op1.move (.t rfl))<|WLI.op rfl rfl (Op1.move (.t rfl))<|WLI.op rfl rfl (Op1.load (t:=tL (tRaw tapi_Id)) ⟨Y40,Z40⟩ (Opd.weak (.t rfl) (fun _ _ h=>h.2)))<|WLI.op rfl rfl (Op1.move (.t rfl))<|WLI.op rfl rfl (Op1.idx (idx_back (d:=[]) hlt) U40 Z23 (.t rfl) (.eqInt hq (.t rfl)))<|WLI.op rfl rfl (Op1.load (t:=tRaw tapi_Id) ⟨Y23,Z23⟩ (.t rfl))<|WLI.yield (t:=tapi_Id) (A:=fun W'=>J ((List.finRange rs.length).take (k+1)) W'∧Stays g W') (B:=fun W'=>Jx ((List.finRange rs.length).take (k+1)) W') (.t rfl) (.eqInt hq (.t rfl)) (.t rfl) (fun a3 g3 h3=>?_) (fun a3 g3 w3 b h3 hA hB=>?_)
   ·have hj3:J ((List.finRange rs.length).take k) g3.w:=hJn (ga:=g.at w) hj h3.ext
    obtain ⟨fn,tmps,assign,body,hy,hR⟩:=hY _ ⟨k,hlt⟩ g3.w hj3 (by simp;omega)
    refine ⟨fn,tmps,assign,body,hy,hR.mono ?_⟩
    rw [take_next hlt]
    rintro e W' (⟨h1,h2,h4⟩ | ⟨h1,h2⟩)
    ·exact .inl ⟨h1,h2,h4 (hs.on h3.ext)⟩
    ·exact .inr ⟨h1,h2⟩
   ·have h4:=h3.eqs (L:=[(3,.int .i64 ((rs.length:Int)-1-(k:Int))),(0,.func (.yield l) #[] #[]),(1,pv)]) ⟨.q rfl,.q rfl,Ent.w rfl (fun v g h=>h.1),trivial⟩ (g.at w3)
    have h5:=h4.put (d:=17) (v:=.bool b) (A:=tB.is b) (by decide) (Ext.refl _ _) ⟨_,rfl,rfl⟩
    refine (?_:WLI Tryz.prog none n 19 (g.at w3) No _ _ _ _ []) _ _ h5
    refine WLI.op rfl rfl (Op1.notB (.t rfl))<|WLI.nil (fun a5 g5 h6=>?_)
    change Code.wpIn (ring none) n Tryz.prog _ _ a5 g5.w
    refine WR.go0 ?_ h6 rfl
    refine WR.cond (.t rfl) (fun hb=>?_) (fun hb=>?_)
    ·have hbf:b=false:=by simpa using hb
     refine WR.ret (fun a6 g6 h7=>?_)
     rw [sh_nil]
     show _∧_
     exact ⟨h7.dfr,_,results_none rfl _ _ _,⟨_,rfl⟩,.inr ⟨_,List.take_prefix _ _,hJxn (ga:=g.at w3) (hB hbf) h7.ext⟩⟩
    ·have hbt:b=true:=by simpa using hb
     obtain ⟨hA1,hA2⟩:=hA hbt
     refine WR.skip (fun a6 g6 h7=>?_)
     change Code.wpIn (ring none) n Tryz.prog _ _ (sh [] a6) g6.w
     rw [sh_nil]
     refine WR.go0 ?_ h7 rfl
     refine WR.region rfl<|Ao rfl (.move (.t rfl))<|Ao rfl (.subI (.eqInt hq (.t rfl)) (.int (n:=1) (inR64.2 (by omega))) (inR64.2 (by unfold lim at hlim;omega)))<|Ao rfl (.assign (.t rfl))<|WL.nil ?_
     intro a7 g7 h8
     show _∧_
     rw [sh_nil]
     have h9:=h8.eqs (L:=[(3,.int .i64 ((rs.length:Int)-1-((k+1:Nat):Int))),(0,.func (.yield l) #[] #[]),(1,pv)]) ⟨Ent.w rfl (fun v g h=>eq_of_int h (by omega)),.q rfl,.q rfl,trivial⟩ (g.at g7.w)
     have hS7:Stays g g7.w:=hA2.on h8.ext
     refine ⟨⟨k+1,hlt,hS7,hJn (ga:=g.at w3) hA1 h8.ext,h9⟩,?_⟩
     have e1:a7.tmps.getD 3 undef=_:=h9.henv 3 _ rfl
     have e2:a2.tmps.getD 3 undef=_:=hsk.henv 3 _ rfl
     rw [e1,e2]
     show ((rs.length:Int)-1-((k+1:Nat):Int)+1).toNat<((rs.length:Int)-1-(k:Int)+1).toNat
     omega
  ·have hge:k=rs.length:=by have:=of_decide_eq_false hc;omega
   refine WR.exit (fun a3 g3 h3=>?_)
   have hj3:J ((List.finRange rs.length).take k) g3.w:=hJn (ga:=g.at w) hj h3.ext
   have hfull:(List.finRange rs.length).take k=List.finRange rs.length:=List.take_of_length_le (by simp;omega)
   rw [hfull] at hj3
   refine then_exit (then_exit (inBlock_exit ?_))
   rw [sh_nil]
   show _∧_
   exact ⟨h3.dfr,_,results_none rfl _ _ _,⟨_,rfl⟩,.inl ⟨_,rfl,hj3⟩⟩
theorem resolve_said_spec(n:Nat)(s:resolve_scene)(c:api_Cite)(r:(List api_Id)×Int)(hm:M.resolve_said n s c=some r):FSpec Tryz.prog 41 [tresolve_scene.is s,tapi_Cite.is c] (Asn.tuple2 ((tL tapi_Id).is r.1) (I6.is r.2)):=by
 unfold M.resolve_said at hm
 obtain ⟨v,hv,hm⟩:=Bs hm
 intro g0 vs hvs
 refine (callsIn_wide (n:=3)).1 (callsIn_of_wp_marks Tryz.func41 rfl trivial ?_ rfl)
 refine WR.begin (As:=[tresolve_scene.is s,tapi_Cite.is c]) (N:=42) rfl rfl hvs<|WR.seq<|WR.region rfl<|Ao rfl (.box (.t rfl))<|Ao rfl (.box (.t rfl))<|WL.opR rfl (OpR.alloc 4 ze40) fun b4=>WL.opR rfl (OpR.alloc 5 ze45) fun b5=>WL.nil<|WN.wr<|WR.seq<|WR.seq<|WR.region rfl<|Ao rfl (.fieldAddr Tryz.underlying69 rfl J40 fresolve_scene_2 (.t rfl))<|Ao rfl (.load ty40 (.t rfl))<|Ao rfl (.call C67 (back67_spec _) ⟨.tmp rfl,trivial⟩)<|WL.nil ?_
 refine WN.wr<|WR.block<|WR.weaken (env':=[(12,cloA 97 [(tL tapi_Id).ptr s.said_]),(5,Bp b5 0),(4,Bp b4 0),(3,tapi_Cite.ptr c),(2,tresolve_scene.ptr s)]) (res':=[(4,Bx 1 false 40 ((tL tapi_Id).is ([]:List api_Id)) b4),(5,Bx 1 false 45 (I6.is (0:Int)) b5)]) ⟨.q rfl,.q rfl,.q rfl,.q rfl,.q rfl,trivial⟩ ⟨rfl,rfl,⟨rfl,rfl,trivial⟩⟩<|WR.back (kD:=99) (v:=v) (t:=tapi_Id) (xs:=s.said_) (st:=M.resolve_said_step n s c) (resX:=fun r:(List api_Id)×Int=>[(4,Bx 1 false 40 ((tL tapi_Id).is r.1) b4),(5,Bx 1 false 45 (I6.is r.2) b5)])
  (envA:=fun x=>[(7,tapi_Id.ptr x),(5,Bp b5 0),(4,Bp b4 0),(3,tapi_Cite.ptr c),(2,tresolve_scene.ptr s)]) back97 (by omega) C97 rfl hv rfl rfl rfl rfl rfl rfl ?hA ?hB ?hX ?hdone ?hstop
 case hA=>
  intro g1 x B hk
  refine WL.opR rfl (OpR.alloc 7 ze23) fun b7=>WL.opU (OpR.storeB (b:=b7) 7 Z23 (Cellable.is tapi_Id x) rfl (.t rfl) (.t rfl)) fun _=>WL.sealed (t:=tapi_Id) (u:=x) 7 7 rfl rfl<|WL.nil<|WN.weaken ?_ ?_ hk
  ·exact ⟨.q rfl,.q rfl,.q rfl,.q rfl,.q rfl,trivial⟩
  ·exact ⟨rfl,rfl,⟨rfl,rfl,trivial⟩⟩
 case hX=>
  rintro r b ⟨y,hy,hb⟩
  rcases List.mem_cons.1 hy with rfl | hy
  ·exact ⟨_,List.mem_cons_self,hb⟩
  ·rw [List.mem_singleton.1 hy] at hb
   exact ⟨_,List.mem_cons_of_mem _ List.mem_cons_self,hb⟩
 case hdone=>
  intro hn a' g' D hst
  subst hn
  cases hm
  change Code.wpIn (ring none) 3 Tryz.prog _ _ (sh (markD D) a') g'.w
  refine WR.go ?_ hst
  exact WR.seq<|WR.region rfl<|WL.opU (OpR.storeB (b:=b4) 4 Z40 (Cellable.is (tL tapi_Id) ([]:List api_Id)) rfl (.t rfl) (.nil (t:=tapi_Id))) fun _=>WL.opU (OpR.storeB (b:=b5) 5 Z45 (Cellable.is I6 (7:Int)) rfl (.t rfl) .i64) fun _=>WL.nil<|WN.wr<|WR.ret fun a9 g9 h9=>leave2 (kD:=99) (h9.weaken (env':=[(5,Bp b5 0),(4,Bp b4 0)]) (res':=[(99,Dq D),(4,Bx 1 false 40 ((tL tapi_Id).is ([]:List api_Id)) b4),(5,Bx 1 false 45 (I6.is (7:Int)) b5)]) ⟨.q rfl,.q rfl,trivial⟩ ⟨rfl,rfl,rfl,rfl,rfl,rfl,trivial⟩) rfl (ResAt.cell 4 Y40 Z40 rfl (.t rfl)) (ResAt.cell 5 Y45 Z45 rfl (.t rfl))
 case hstop=>
  intro r2 hr a' g' D hst
  subst hr
  cases hm
  exact leave2 (kD:=99) hst rfl (ResAt.cell 4 Y40 Z40 rfl (.t rfl)) (ResAt.cell 5 Y45 Z45 rfl (.t rfl))
 case hB=>
  intro l n1 g1 x o Q' hm hN hR
  unfold M.resolve_said_step at hm
  refine WR.block<|WR.seq<|WR.region rfl<|Ao rfl (.fieldAddr Tryz.underlying69 rfl J27 fresolve_scene_0 (.t rfl))<|Ao rfl (.load ty27 (.t rfl))<|Ao rfl (.load ty23 (.t rfl)) ?_
  obtain ⟨find,hv1,hm⟩:=Bs hm
  refine Ao rfl (.call C68 (unit_Find_spec _ _ _ _ hv1) ⟨(.t rfl),(.t rfl),trivial⟩)<|Am rfl rfl<|Ao rfl (.extract0 (.t rfl))<|Ao rfl (.extract1 (.t rfl))<|WL.opR rfl (OpR.alloc 8 ze27) fun b=>WL.opU (OpR.storeB (b:=b) 8 Z27 (Cellable.is tapi_Unit find.1) rfl (.t rfl) (.t rfl)) fun _=>WL.sealed (t:=tapi_Unit) (u:=find.1) 8 8 rfl rfl<|Ao rfl (.assign (.t rfl))<|WL.nil<|WN.wr<|WR.seq ?_
  rcases iteB hm with ⟨hp3,hb2,hm⟩ | ⟨hp3,hb2,hm⟩
  ·obtain ⟨v,hv4,hm⟩:=Bs hm
   refine WR.draw Mx rfl (WA.draw [.c (tB.is find.2),.c (tB.is find.2),.c (I6.ptr find.1.Kind),.c (I6.is find.1.Kind),.c ((tL tapi_Step).ptr c.Path),.c ((tL tapi_Step).is c.Path),.c (tapi_Step.ptr v),.c (I6.ptr v.Kind),.c (I6.is v.Kind),.c (tB.is (decide (find.1.Kind=v.Kind))),.c (tB.is (decide (find.1.Kind=v.Kind)))] [([],[9]),([0],[]),([1],[8]),([1,2],[]),([1],[3]),([1,4],[]),([1,5],[]),([1,6],[]),([1,7],[]),([1,3,8],[]),([1,9],[])] Mx rfl rfl rfl rfl ⟨.inr (Op1.move (.t rfl)),.inr (Op1.move (.t rfl)),.inr (dr rfl rfl rfl hb2 (Op1.fieldAddr U27 rfl J3 fapi_Unit_1 (.t rfl))),.inr (dr rfl rfl rfl hb2 (Op1.load ty3 (.t rfl))),.inr (dr rfl rfl rfl hb2 (Op1.fieldAddr U52 rfl J50 fapi_Cite_1 (.t rfl))),.inr (dr rfl rfl rfl hb2 (Op1.load ty50 (.t rfl))),.inr (dr rfl rfl rfl hb2 (Op1.idx hv4 U50 Z49 (.t rfl) .i64)),.inr (dr rfl rfl rfl hb2 (Op1.fieldAddr U49 rfl J3 fapi_Step_0 (.t rfl))),.inr (dr rfl rfl rfl hb2 (Op1.load ty3 (.t rfl))),.inr (dr rfl rfl rfl hb2 (Op1.eqI (.t rfl) (.t rfl))),.inr (Op1.pickT (.t rfl) hb2 (.t rfl)),trivial⟩ ?_)
   refine WN.wr<|WR.cond (.t rfl) (fun hc5=>?_) (fun hc5=>?_)
   ·have hp6:=of_decide_eq_true hc5
    rw [if_pos hp6] at hm
    refine WR.seq ?_
    obtain ⟨v1,hv7,hm⟩:=Bs hm
    obtain ⟨down,hv8,hm⟩:=Bs hm
    refine WR.weakR (res':=[(4,(Bx 1 false 40 ((tL tapi_Id).is ([]:List api_Id)) b4)),(5,(Bx 1 false 45 (I6.is (0:Int)) b5))]) ⟨rfl,rfl,⟨rfl,rfl,trivial⟩⟩<|WR.draw Mx rfl (WA.drawM [.c (tapi_Unit.ptr s.u_),.c (tapi_Unit.is s.u_),.c (tapi_Id.is x),.c ((tL tapi_Step).ptr c.Path),.c ((tL tapi_Step).is c.Path),.c ((tL tapi_Step).is v1),.c (Asn.tuple2 ((tL tapi_Id).is down.1) (I6.is down.2)),.c ((tL tapi_Id).is down.1),.c (I6.is down.2),.c Asn.any,.c Asn.any] [([],[2]),([0],[]),([],[7]),([],[3]),([3],[]),([4],[]),([1,2,5],[]),([6],[]),([6],[]),([7],[4]),([8],[5])] [9,10] [[],[],[],[],[],[],[],[],[],[],[]] (fun m cv=>match m with | 0=>[(4,(Bx 1 false 40 ((tL tapi_Id).is ([]:List api_Id)) b4)),(5,(Bx 1 false 45 (I6.is (0:Int)) b5))] | 1=>[(4,(Bx 1 false 40 ((tL tapi_Id).is down.1) b4)),(5,(Bx 1 false 45 (I6.is (0:Int)) b5))] | _=>[(5,(Bx 1 false 45 (I6.is down.2) b5)),(4,(Bx 1 false 40 ((tL tapi_Id).is down.1) b4))]) (fun _=>none) Mx rfl rfl rfl rfl rfl ⟨fun _ _ _ _=>rfl,⟨fun _ _ _ _=>rfl,⟨fun _ _ _ _=>rfl,⟨fun _ _ _ _=>rfl,⟨fun _ _ _ _=>rfl,⟨fun _ _ _ _=>rfl,⟨fun _ _ _ _=>rfl,⟨fun _ _ _ _=>rfl,⟨fun _ _ _ _=>rfl,⟨fun _ _ _ _=>rfl,⟨fun _ _ _ _=>rfl,trivial⟩⟩⟩⟩⟩⟩⟩⟩⟩⟩⟩ rfl ⟨mo fun cv=>Op1.fieldAddr Tryz.underlying69 rfl J27 fresolve_scene_0 (.t rfl),⟨mo fun cv=>Op1.load ty27 (.t rfl),⟨mo fun cv=>Op1.load ty23 (.t rfl),⟨mo fun cv=>Op1.fieldAddr U52 rfl J50 fapi_Cite_1 (.t rfl),⟨mo fun cv=>Op1.load ty50 (.t rfl),⟨mo fun cv=>Op1.slcLo hv7 U50 Z49 (.t rfl) .i64,⟨mo fun cv=>Op1.call C66 (resolve_down_spec _ _ _ _ _ hv8) ⟨(.t rfl),(.t rfl),(.t rfl),trivial⟩,⟨mo fun cv=>Op1.extract0 (.t rfl),⟨mo fun cv=>Op1.extract1 (.t rfl),⟨.inl rfl,⟨.inl rfl,trivial⟩⟩⟩⟩⟩⟩⟩⟩⟩⟩⟩ ⟨⟨_,_,_,[4],(fun cv=>[(4,(Bx 1 false 40 ((tL tapi_Id).is down.1) b4))]),rfl,rfl,rfl,rfl,fun _=>rfl,fun _ _=>rfl,fun cv=>OpR.viaU (OpR.storeB (b:=b4) 4 Z40 (Cellable.is (tL tapi_Id) down.1) rfl (.t rfl) (.t rfl))⟩,⟨⟨_,_,_,[5],(fun cv=>[(5,(Bx 1 false 45 (I6.is down.2) b5))]),rfl,rfl,rfl,rfl,fun _=>rfl,fun _ _=>rfl,fun cv=>OpR.viaU (OpR.storeB (b:=b5) 5 Z45 (Cellable.is I6 down.2) rfl (.t rfl) (.t rfl))⟩,trivial⟩⟩ (fun cv=>?_))
    refine WN.wr<|WR.ret (fun a9 g9 h9=>?_)
    cases hm
    show Q' .ret (sh [] _) _
    rw [sh_nil]
    exact hR _ rfl _ _ (h9.weaken trivial ⟨rfl,rfl,⟨rfl,rfl,trivial⟩⟩)
   ·have hp6:=of_decide_eq_false hc5
    rw [if_neg hp6] at hm
    refine WR.skip (fun a9 g9 h9=>?_)
    cases hm
    show Q' .normal (sh [] _) _
    rw [sh_nil]
    exact hN rfl _ _ (h9.weaken trivial ⟨rfl,rfl,⟨rfl,rfl,trivial⟩⟩)
  ·refine WR.draw Mx rfl (WA.draw [.c (tB.is find.2),.c (tB.is find.2),.c Un,.c Un,.c Un,.c Un,.c Un,.c Un,.c Un,.c Un,.c (tB.is false)] [([],[9]),([0],[]),([1],[8]),([1,2],[]),([1],[3]),([1,4],[]),([1,5],[]),([1,6],[]),([1,7],[]),([1,3,8],[]),([1,9],[])] Mx rfl rfl rfl rfl ⟨.inr (Op1.move (.t rfl)),.inr (Op1.move (.t rfl)),.inr (dp rfl rfl rfl hb2),.inr (dp rfl rfl rfl hb2),.inr (dp rfl rfl rfl hb2),.inr (dp rfl rfl rfl hb2),.inr (dp rfl rfl rfl hb2),.inr (dp rfl rfl rfl hb2),.inr (dp rfl rfl rfl hb2),.inr (dp rfl rfl rfl hb2),.inr (Op1.pickF (.t rfl) hb2 .bool),trivial⟩ ?_)
   refine WN.wr<|WR.condF (.t rfl)<|WR.skip (fun a9 g9 h9=>?_)
   cases hm
   show Q' .normal (sh [] _) _
   rw [sh_nil]
   exact hN rfl _ _ (h9.weaken trivial ⟨rfl,rfl,⟨rfl,rfl,trivial⟩⟩)
theorem resolve_meanings_1_spec(a:resolve_scene)(a1:api_Cite)(r:(List api_Id)×Int)(hm:M.resolve_meanings_1 a a1=some r):FSpec Tryz.prog 42 [(tresolve_scene.is a),(tapi_Cite.is a1)] (Asn.tuple2 ((tL tapi_Id).is r.1) (I6.is r.2)):=by
 unfold M.resolve_meanings_1 at hm
 refine FSpec.of Tryz.func42 rfl rfl rfl fun g0=>Aw<|Ao rfl (.box (.t rfl))<|Ao rfl (.box (.t rfl))<|Ao rfl (.assign (.nil (t:=tapi_Id)))<|Ao rfl (.assign .i64)<|Ar<|Ao rfl (.assign (.nil (t:=tapi_Id)))<|Ao rfl (.assign .i64)<|WL.ns ?_
 cases hm
 exact W.ret2 () rfl rfl (.t rfl) (.t rfl) trivial
theorem resolve_meanings_spec(n:Nat) (r:(List (Int×(resolve_scene→api_Cite→Option ((List api_Id)×Int)))))(hm:M.resolve_meanings n=some r):FSpecR Tryz.prog 23 [] [] (fun b:Nat=>Mv b) (fun b=>[(77777,Mp I6 (tFun Tryz.prog (fun (f:resolve_scene→api_Cite→Option ((List api_Id)×Int))=>(fun s:resolve_scene×api_Cite×((List api_Id)×Int)=>f s.1 s.2.1=some s.2.2)) (fun s:resolve_scene×api_Cite×((List api_Id)×Int)=>[tresolve_scene.is s.1,tapi_Cite.is s.2.1]) (fun s:resolve_scene×api_Cite×((List api_Id)×Int)=>(Asn.tuple2 ((tL tapi_Id).is s.2.2.1) (I6.is s.2.2.2)))) r b)]):=by
 unfold M.resolve_meanings at hm
 refine FSpecR.of Tryz.func23 rfl rfl rfl fun g0=>Aw<|Ao rfl (.assign .const)<|Ar<|WL.opR rfl (OpR.makeMap I6 (tFun Tryz.prog (fun (f:resolve_scene→api_Cite→Option ((List api_Id)×Int))=>(fun s:resolve_scene×api_Cite×((List api_Id)×Int)=>f s.1 s.2.1=some s.2.2)) (fun s:resolve_scene×api_Cite×((List api_Id)×Int)=>[tresolve_scene.is s.1,tapi_Cite.is s.2.1]) (fun s:resolve_scene×api_Cite×((List api_Id)×Int)=>(Asn.tuple2 ((tL tapi_Id).is s.2.2.1) (I6.is s.2.2.2)))) 1) fun b=>WL.opU (OpR.insert (b:=b) (v:=(fun s0 s1=>M.resolve_plain n s0 s1)) 1 U65 kt3 rfl (.t rfl) .i64 (Opd.tFun (Opd.fn C38 (fun s hs=>resolve_plain_spec _ _ _ _ hs)))) fun _=>WL.opU (OpR.insert (b:=b) (v:=(fun s0 s1=>M.resolve_through n s0 s1)) 1 U65 kt3 rfl (.t rfl) .i64 (Opd.tFun (Opd.fn C39 (fun s hs=>resolve_through_spec _ _ _ _ hs)))) fun _=>WL.opU (OpR.insert (b:=b) (v:=(fun s0 s1=>M.resolve_this n s0 s1)) 1 U65 kt3 rfl (.t rfl) .i64 (Opd.tFun (Opd.fn C40 (fun s hs=>resolve_this_spec _ _ _ _ hs)))) fun _=>WL.opU (OpR.insert (b:=b) (v:=(fun s0 s1=>M.resolve_said n s0 s1)) 1 U65 kt3 rfl (.t rfl) .i64 (Opd.tFun (Opd.fn C41 (fun s hs=>resolve_said_spec _ _ _ _ hs)))) fun _=>WL.opU (OpR.insert (b:=b) (v:=(fun s0 s1=>M.resolve_meanings_1 s0 s1)) 1 U65 kt3 rfl (.t rfl) .i64 (Opd.tFun (Opd.fn C42 (fun s hs=>resolve_meanings_1_spec _ _ _ hs)))) fun _=>Am rfl rfl<|Ag rfl rfl<|WL.ns ?_
 have hr:=Si hm
 clear hm
 subst hr
 exact W.weakR (res':=[(1,Mp I6 (tFun Tryz.prog (fun (f:resolve_scene→api_Cite→Option ((List api_Id)×Int))=>(fun s:resolve_scene×api_Cite×((List api_Id)×Int)=>f s.1 s.2.1=some s.2.2)) (fun s:resolve_scene×api_Cite×((List api_Id)×Int)=>[tresolve_scene.is s.1,tapi_Cite.is s.2.1]) (fun s:resolve_scene×api_Cite×((List api_Id)×Int)=>(Asn.tuple2 ((tL tapi_Id).is s.2.2.1) (I6.is s.2.2.2)))) (mset (mset (mset (mset (mset ([]:List (Int×(resolve_scene→api_Cite→Option ((List api_Id)×Int)))) (0:Int) (fun s0 s1=>M.resolve_plain n s0 s1)) (1:Int) (fun s0 s1=>M.resolve_through n s0 s1)) (2:Int) (fun s0 s1=>M.resolve_this n s0 s1)) (3:Int) (fun s0 s1=>M.resolve_said n s0 s1)) (4:Int) (fun s0 s1=>M.resolve_meanings_1 s0 s1)) b)]) ⟨rfl,rfl,trivial⟩<|W.rekey (res':=[(77777,Mp I6 (tFun Tryz.prog (fun (f:resolve_scene→api_Cite→Option ((List api_Id)×Int))=>(fun s:resolve_scene×api_Cite×((List api_Id)×Int)=>f s.1 s.2.1=some s.2.2)) (fun s:resolve_scene×api_Cite×((List api_Id)×Int)=>[tresolve_scene.is s.1,tapi_Cite.is s.2.1]) (fun s:resolve_scene×api_Cite×((List api_Id)×Int)=>(Asn.tuple2 ((tL tapi_Id).is s.2.2.1) (I6.is s.2.2.2)))) (mset (mset (mset (mset (mset ([]:List (Int×(resolve_scene→api_Cite→Option ((List api_Id)×Int)))) (0:Int) (fun s0 s1=>M.resolve_plain n s0 s1)) (1:Int) (fun s0 s1=>M.resolve_through n s0 s1)) (2:Int) (fun s0 s1=>M.resolve_this n s0 s1)) (3:Int) (fun s0 s1=>M.resolve_said n s0 s1)) (4:Int) (fun s0 s1=>M.resolve_meanings_1 s0 s1)) b)]) rfl<|W.ret1 b rfl (.t rfl) ⟨rfl,rfl,trivial⟩
theorem citation_book_spec(s0_:api_Step)(r:Bool)(hm:M.citation_book s0_=some r):FSpec Tryz.prog 69 [(tapi_Step.is s0_)] (tB.is r):=by
 unfold M.citation_book at hm
 refine FSpec.of Tryz.func69 rfl rfl rfl fun g0=>Aw<|Ao rfl (.box (.t rfl))<|Ao rfl (.assign .bool)<|Ar<|Ao rfl (.load ty49 (.t rfl))<|Ao rfl (.build (s:=tapi_Step) (x:=(⟨(0:Int),([]:Str)⟩:api_Step)) zapi_Step_f rfl U49 (zapi_Step_sz _ U49) ze49 ⟨_,I6,(0:Int),_,_,rfl,Z3,.i64,sapi_Step_0,rfl⟩)<|Ao rfl (.eqSt (D:=2) rfl (by decide) eg49 eq49 (.t rfl) (.t rfl))<|Ag rfl rfl<|WL.ns ?_
 cases hm
 exact W.ret1 () rfl (.t rfl) trivial
theorem slices_IndexFunc_api_Step_api_Step_spec(n:Nat)(s0_:List api_Step)(f:api_Step→Option Bool)(r:Int)(hm:M.slices_IndexFunc_api_Step_api_Step n s0_ f=some r):FSpec Tryz.prog 100 [((tL tapi_Step).is s0_),(tF Tryz.prog (fun s:api_Step×Bool=>f s.1=some s.2) (fun s:api_Step×Bool=>[tapi_Step.is s.1]) (fun s:api_Step×Bool=>(tB.is s.2)))] (I6.is r):=by
 unfold M.slices_IndexFunc_api_Step_api_Step at hm
 refine FSpec.of Tryz.func100 rfl rfl rfl fun g0=>Aw<|Ao rfl (.assign .i64)<|An<|W.seq<|Aw<|Am rfl rfl<|Ao rfl (.lenL U50 (.t rfl))<|Ao rfl (.move .i64)<|An<|W.block ?_
 obtain ⟨s1,hs2,hk3⟩:=Bs hm
 clear hm
 refine W.loop (fun m (s:Int)=>M.slices_IndexFunc_api_Step_api_Step_loop1 s0_ f m s=some s1) (fun s=>[(8,(I6.is s)),(0,((tL tapi_Step).is s0_)),(1,(tF Tryz.prog (fun s:api_Step×Bool=>f s.1=some s.2) (fun s:api_Step×Bool=>[tapi_Step.is s.1]) (fun s:api_Step×Bool=>(tB.is s.2)))),(7,(I6.is (s0_.length:Int)))]) (fun s=>[]) _ (0:Int) hs2 ⟨.q rfl,.q rfl,.q rfl,.q rfl,trivial⟩ trivial ?_
 rintro n4 v hm
 try dsimp only at hm
 change W _ _ _ _ _ _ _ [(8,(I6.is v)),(0,((tL tapi_Step).is s0_)),(1,(tF Tryz.prog (fun s:api_Step×Bool=>f s.1=some s.2) (fun s:api_Step×Bool=>[tapi_Step.is s.1]) (fun s:api_Step×Bool=>(tB.is s.2)))),(7,(I6.is (s0_.length:Int)))] []
 cases n4 with
 | zero=>rw [M.slices_IndexFunc_api_Step_api_Step_loop1.eq_1] at hm;cases hm
 | succ n4=>
  rw [M.slices_IndexFunc_api_Step_api_Step_loop1.eq_2] at hm
  refine Aw<|Ao rfl (.ltI (.t rfl) (.t rfl))<|An<|W.seq<|W.cD hm (.t rfl) (fun hp6 hm=>?_) (fun hp6 hm=>?_)
  ·refine W.skip<|Aq<|W.seq<|W.block<|Aw<|Am rfl rfl<|Ag rfl rfl<|Ar<|Am rfl rfl<|Am rfl rfl<|WL.mv rfl rfl ?_
   obtain ⟨v1,hv7,hm⟩:=Bs hm
   refine Ao rfl (.idx hv7 U50 Z49 (.t rfl) (.t rfl))<|Ao rfl (.load ty49 (.t rfl)) ?_
   obtain ⟨v2,hv8,hm⟩:=Bs hm
   refine Ao rfl (.callF (ok:=(fun s:api_Step×Bool=>f s.1=some s.2)) (As:=(fun s:api_Step×Bool=>[tapi_Step.is s.1])) (A:=(fun s:api_Step×Bool=>(tB.is s.2))) (s:=(v1,v2)) (.t rfl) hv8 ⟨(.t rfl),trivial⟩)<|An<|W.cB hm (.t rfl) (fun hp10 hm=>?_) (fun hp10 hm=>?_)
   ·refine Aw<|Am rfl rfl<|Ag rfl rfl<|WL.ns ?_
    have hr11:=Si hm
    clear hm
    subst hr11
    have hm:=hk3
    try dsimp only at hm
    cases hm
    exact W.ret1 () rfl (.t rfl) trivial
   ·exact W.skip<|WN.block<|Aq<|W.region<|WL.lenL (s:=0) (.t rfl) fun hl12=>Ao rfl (.addI1 (.t rfl) .i64 hp6 hl12)<|Am rfl rfl<|WL.nil<|WN.again n4 (v+1) (Nat.lt_succ_self n4) hm ⟨.q rfl,.q rfl,.q rfl,.q rfl,trivial⟩ trivial
  ·refine W.exit rfl ?_
   have hr13:=Si hm
   clear hm
   subst hr13
   have hm:=hk3
   try dsimp only at hm
   refine Aq<|Aw<|Ao rfl (.assign .i64)<|WL.ns ?_
   cases hm
   exact W.ret1 () rfl (.t rfl) trivial
theorem slices_ContainsFunc_api_Step_api_Step_spec(n:Nat)(s0_:List api_Step)(f:api_Step→Option Bool)(r:Bool)(hm:M.slices_ContainsFunc_api_Step_api_Step n s0_ f=some r):FSpec Tryz.prog 70 [((tL tapi_Step).is s0_),(tF Tryz.prog (fun s:api_Step×Bool=>f s.1=some s.2) (fun s:api_Step×Bool=>[tapi_Step.is s.1]) (fun s:api_Step×Bool=>(tB.is s.2)))] (tB.is r):=by
 unfold M.slices_ContainsFunc_api_Step_api_Step at hm
 refine FSpec.of Tryz.func70 rfl rfl rfl fun g0=>Aw<|Ao rfl (.assign .bool)<|Ar<|Am rfl rfl<|WL.mv rfl rfl ?_
 obtain ⟨step,hv1,hm⟩:=Bs hm
 refine Ao rfl (.call C100 (slices_IndexFunc_api_Step_api_Step_spec _ _ _ _ hv1) ⟨(.t rfl),(.t rfl),trivial⟩)<|Ao rfl (.geI (.t rfl) .i64)<|Ag rfl rfl<|WL.ns ?_
 cases hm
 exact W.ret1 () rfl (.t rfl) trivial
theorem citation_named_spec(n:Nat)(s0_:api_Step)(r:Bool)(hm:M.citation_named n s0_=some r):FSpec Tryz.prog 72 [(tapi_Step.is s0_)] (tB.is r):=by
 unfold M.citation_named at hm
 refine FSpec.of Tryz.func72 rfl rfl rfl fun g0=>Aw<|Ao rfl (.box (.t rfl))<|Ao rfl (.assign .bool)<|Ar<|Ao rfl (.fieldAddr U49 rfl J3 fapi_Step_0 (.t rfl))<|Ao rfl (.load ty3 (.t rfl))<|Ao rfl (.geI (.t rfl) .i64)<|WL.mv rfl rfl ?_
 rcases iteD hm with ⟨hp2,hb1,hm⟩ | ⟨hp2,hb1,hm⟩
 ·refine Ax rfl hb1 (.fieldAddr U49 rfl J3 fapi_Step_0 (.t rfl))<|Ax rfl hb1 (.load ty3 (.t rfl))<|Ax rfl hb1 (.leI (.t rfl) .i64)<|Ao rfl (.pickT (.t rfl) hb1 (.t rfl))<|WL.mv rfl rfl ?_
  rcases iteD hm with ⟨hp4,hb3,hm⟩ | ⟨hp4,hb3,hm⟩
  ·refine Ax rfl hb3 (.fieldAddr U49 rfl J9 fapi_Step_1 (.t rfl))<|Ax rfl hb3 (.load ty9 (.t rfl)) ?_
   obtain ⟨valid,hv5,hm⟩:=Bs hm
   refine Ax rfl hb3 (.call C44 (label_Valid_spec _ _ _ hv5) ⟨(.t rfl),trivial⟩)<|Ao rfl (.pickT (.t rfl) hb3 (.t rfl))<|Ag rfl rfl<|WL.ns ?_
   cases hm
   exact W.ret1 () rfl (.t rfl) trivial
  ·refine Ap rfl hb3<|Ap rfl hb3<|Ap rfl hb3<|Ao rfl (.pickF (.t rfl) hb3 .bool)<|Ag rfl rfl<|WL.ns ?_
   cases hm
   exact W.ret1 () rfl (.t rfl) trivial
 ·refine Ap rfl hb1<|Ap rfl hb1<|Ap rfl hb1<|Ao rfl (.pickF (.t rfl) hb1 .bool)<|Am rfl rfl<|Ap rfl rfl<|Ap rfl rfl<|Ap rfl rfl<|Ao rfl (.pickF (.t rfl) rfl .bool)<|Ag rfl rfl<|WL.ns ?_
  cases hm
  exact W.ret1 () rfl (.t rfl) trivial
theorem citation_plain_1_spec(n:Nat)(s0_:api_Step)(r:Bool)(hm:M.citation_plain_1 n s0_=some r):FSpec Tryz.prog 71 [(tapi_Step.is s0_)] (tB.is r):=by
 unfold M.citation_plain_1 at hm
 refine FSpec.of Tryz.func71 rfl rfl rfl fun g0=>Aw<|Ao rfl (.box (.t rfl))<|Ao rfl (.assign .bool)<|Ar<|Ao rfl (.load ty49 (.t rfl)) ?_
 obtain ⟨named,hv1,hm⟩:=Bs hm
 refine Ao rfl (.call C72 (citation_named_spec _ _ _ hv1) ⟨(.t rfl),trivial⟩)<|Ao rfl (.notB (.t rfl))<|Ag rfl rfl<|WL.ns ?_
 cases hm
 exact W.ret1 () rfl (.t rfl) trivial
theorem citation_plain_spec(n:Nat)(p:List api_Step)(r:Bool)(hm:M.citation_plain n p=some r):FSpec Tryz.prog 43 [((tL tapi_Step).is p)] (tB.is r):=by
 unfold M.citation_plain at hm
 refine FSpec.of Tryz.func43 rfl rfl rfl fun g0=>Aw<|Ao rfl (.assign .bool)<|WL.ns ?_
 obtain ⟨s1,hs2,hk3⟩:=Bs hm
 clear hm
 refine W.join (fun s:(List api_Step)=>s=s1) (fun s=>[(0,((tL tapi_Step).is s))]) (fun s=>[]) ?_ ?_
 ·rintro p1 hj14
  try dsimp only at hj14
  subst hj14
  have hm:=hk3
  clear hk3
  try dsimp only at hm
  change W _ _ _ _ _ _ _ [(0,((tL tapi_Step).is p1))] []
  refine Aw<|Am rfl rfl<|Ao rfl (.lenL U50 (.t rfl))<|Ao rfl (.gtI (.t rfl) .i64)<|WL.mv rfl rfl ?_
  rcases iteD hm with ⟨hp12,hb11,hm⟩ | ⟨hp12,hb11,hm⟩
  ·refine Ax rfl hb11 (.move (.t rfl)) ?_
   obtain ⟨step,hv13,hm⟩:=Bs hm
   refine Ax rfl hb11 (.call C70 (slices_ContainsFunc_api_Step_api_Step_spec _ _ _ _ hv13) ⟨(.t rfl),(Opd.fn C71 (fun s hs=>citation_plain_1_spec _ _ _ hs)),trivial⟩)<|Ax rfl hb11 (.notB (.t rfl))<|Ao rfl (.pickT (.t rfl) hb11 (.t rfl))<|Ag rfl rfl<|WL.ns ?_
   cases hm
   exact W.ret1 () rfl (.t rfl) trivial
  ·refine Ap rfl hb11<|Ap rfl hb11<|Ap rfl hb11<|Ao rfl (.pickF (.t rfl) hb11 .bool)<|Ag rfl rfl<|WL.ns ?_
   cases hm
   exact W.ret1 () rfl (.t rfl) trivial
 ·have hm:=hs2
  clear hs2
  refine Aw<|Am rfl rfl<|Ao rfl (.lenL U50 (.t rfl))<|Ao rfl (.gtI (.t rfl) .i64)<|WL.mv rfl rfl ?_
  rcases iteD hm with ⟨hp5,hb4,hm⟩ | ⟨hp5,hb4,hm⟩
  ·refine Ax rfl hb4 (.move (.t rfl)) ?_
   obtain ⟨v,hv6,hm⟩:=Bs hm
   refine Ax rfl hb4 (.idx hv6 U50 Z49 (.t rfl) .i64)<|Ax rfl hb4 (.load ty49 (.t rfl)) ?_
   obtain ⟨book,hv7,hm⟩:=Bs hm
   refine Ax rfl hb4 (.call C69 (citation_book_spec _ _ hv7) ⟨(.t rfl),trivial⟩)<|Ao rfl (.pickT (.t rfl) hb4 (.t rfl))<|An<|W.cB hm (.t rfl) (fun hp9 hm=>?_) (fun hp9 hm=>?_)
   ·refine W.region<|WL.mv rfl rfl ?_
    obtain ⟨v1,hv10,hm⟩:=Bs hm
    exact Ao rfl (.slcLo hv10 U50 Z49 (.t rfl) .i64)<|Ag rfl rfl<|WL.nil<|WN.meet v1 (Si hm) ⟨.q rfl,trivial⟩ trivial
   ·exact W.skip<|WN.meet p (Si hm) ⟨.q rfl,trivial⟩ trivial
  ·exact Ap rfl hb4<|Ap rfl hb4<|Ap rfl hb4<|Ap rfl hb4<|Ao rfl (.pickF (.t rfl) hb4 .bool)<|An<|W.condF (.t rfl)<|W.skip<|WN.meet p (Si hm) ⟨.q rfl,trivial⟩ trivial
theorem citation_near_1_spec(n:Nat)(s0_:api_Step)(r:Bool)(hm:M.citation_near_1 n s0_=some r):FSpec Tryz.prog 76 [(tapi_Step.is s0_)] (tB.is r):=by
 unfold M.citation_near_1 at hm
 refine FSpec.of Tryz.func76 rfl rfl rfl fun g0=>Aw<|Ao rfl (.box (.t rfl))<|Ao rfl (.assign .bool)<|Ar<|Ao rfl (.load ty49 (.t rfl)) ?_
 obtain ⟨named,hv1,hm⟩:=Bs hm
 refine Ao rfl (.call C72 (citation_named_spec _ _ _ hv1) ⟨(.t rfl),trivial⟩)<|Ao rfl (.notB (.t rfl))<|Ag rfl rfl<|WL.ns ?_
 cases hm
 exact W.ret1 () rfl (.t rfl) trivial
theorem citation_near_spec(n:Nat)(p:List api_Step)(r:Bool)(hm:M.citation_near n p=some r):FSpec Tryz.prog 45 [((tL tapi_Step).is p)] (tB.is r):=by
 unfold M.citation_near at hm
 refine FSpec.of Tryz.func45 rfl rfl rfl fun g0=>Aw<|Ao rfl (.assign .bool)<|An<|W.seq ?_
 obtain ⟨s1,hs2,hk3⟩:=Bs hm
 clear hm
 refine W.join (fun s:Bool=>s=s1) (fun s=>[(26,(tB.is s)),(0,((tL tapi_Step).is p))]) (fun s=>[]) ?_ ?_
 ·rintro v hj17
  try dsimp only at hj17
  subst hj17
  have hm:=hk3
  clear hk3
  try dsimp only at hm
  change W _ _ _ _ _ _ _ [(26,(tB.is v)),(0,((tL tapi_Step).is p))] []
  refine W.cB hm (.t rfl) (fun hp14 hm=>?_) (fun hp14 hm=>?_)
  ·refine Aw<|Ao rfl (.assign .bool)<|WL.ns ?_
   cases hm
   exact W.ret1 () rfl (.t rfl) trivial
  ·refine W.skip<|Aq<|Aw<|WL.mv rfl rfl ?_
   obtain ⟨v4,hv15,hm⟩:=Bs hm
   refine Ao rfl (.slcLo hv15 U50 Z49 (.t rfl) .i64) ?_
   obtain ⟨step,hv16,hm⟩:=Bs hm
   refine Ao rfl (.call C70 (slices_ContainsFunc_api_Step_api_Step_spec _ _ _ _ hv16) ⟨(.t rfl),(Opd.fn C76 (fun s hs=>citation_near_1_spec _ _ _ hs)),trivial⟩)<|Ao rfl (.notB (.t rfl))<|Ag rfl rfl<|WL.ns ?_
   cases hm
   exact W.ret1 () rfl (.t rfl) trivial
 ·have hm:=hs2
  clear hs2
  refine W.region<|Am rfl rfl<|Ao rfl (.lenL U50 (.t rfl))<|Ao rfl (.eqI (.t rfl) .i64)<|WL.mv rfl rfl ?_
  rcases iteD hm with ⟨hp5,hb4,hm⟩ | ⟨hp5,hb4,hm⟩
  ·refine Ap rfl hb4<|Ap rfl hb4<|Ap rfl hb4<|Ap rfl hb4<|Ap rfl hb4<|Ao rfl (.pickT (.t rfl) hb4 .bool)<|Am rfl rfl<|Ap rfl rfl<|Ap rfl rfl<|Ap rfl rfl<|Ap rfl rfl<|Ap rfl rfl<|Ao rfl (.pickT (.t rfl) rfl .bool)<|Am rfl rfl<|Ap rfl rfl<|Ap rfl rfl ?_
   exact Ap rfl rfl<|Ap rfl rfl<|Ap rfl rfl<|Ao rfl (.pickT (.t rfl) rfl .bool)<|WL.nil<|WN.meet true (Si hm) ⟨.q rfl,.q rfl,trivial⟩ trivial
  ·refine Ax rfl hb4 (.move (.t rfl)) ?_
   obtain ⟨v1,hv6,hm⟩:=Bs hm
   refine Ax rfl hb4 (.idx hv6 U50 Z49 (.t rfl) .i64)<|Ax rfl hb4 (.fieldAddr U49 rfl J9 fapi_Step_1 (.t rfl))<|Ax rfl hb4 (.load ty9 (.t rfl))<|Ax rfl hb4 (.neS (.t rfl) (.str rfl (by decide)))<|Ao rfl (.pickF (.t rfl) hb4 (.t rfl))<|WL.mv rfl rfl ?_
   rcases iteB hm with ⟨hp8,hb7,hm⟩ | ⟨hp8,hb7,hm⟩
   ·exact Ap rfl hb7<|Ap rfl hb7<|Ap rfl hb7<|Ap rfl hb7<|Ap rfl hb7<|Ao rfl (.pickT (.t rfl) hb7 .bool)<|Am rfl rfl<|Ap rfl rfl<|Ap rfl rfl<|Ap rfl rfl<|Ap rfl rfl<|Ap rfl rfl<|Ao rfl (.pickT (.t rfl) rfl .bool)<|WL.nil<|WN.meet true (Si hm) ⟨.q rfl,.q rfl,trivial⟩ trivial
   ·refine Ax rfl hb7 (.move (.t rfl)) ?_
    obtain ⟨v2,hv9,hm⟩:=Bs hm
    refine Ax rfl hb7 (.idx hv9 U50 Z49 (.t rfl) .i64)<|Ax rfl hb7 (.fieldAddr U49 rfl J3 fapi_Step_0 (.t rfl))<|Ax rfl hb7 (.load ty3 (.t rfl))<|Ax rfl hb7 (.ltI (.t rfl) .i64)<|Ao rfl (.pickF (.t rfl) hb7 (.t rfl))<|WL.mv rfl rfl ?_
    rcases iteD hm with ⟨hp11,hb10,hm⟩ | ⟨hp11,hb10,hm⟩
    ·exact Ap rfl hb10<|Ap rfl hb10<|Ap rfl hb10<|Ap rfl hb10<|Ap rfl hb10<|Ao rfl (.pickT (.t rfl) hb10 .bool)<|WL.nil<|WN.meet true (Si hm) ⟨.q rfl,.q rfl,trivial⟩ trivial
    ·refine Ax rfl hb10 (.move (.t rfl)) ?_
     obtain ⟨v3,hv12,hm⟩:=Bs hm
     exact Ax rfl hb10 (.idx hv12 U50 Z49 (.t rfl) .i64)<|Ax rfl hb10 (.fieldAddr U49 rfl J3 fapi_Step_0 (.t rfl))<|Ax rfl hb10 (.load ty3 (.t rfl))<|Ax rfl hb10 (.gtI (.t rfl) .i64)<|Ao rfl (.pickF (.t rfl) hb10 (.t rfl))<|WL.nil<|WN.meet (decide ((7:Int)< v3.Kind)) (Si hm) ⟨.q rfl,.q rfl,trivial⟩ trivial
theorem citation_Valid_spec(n:Nat)(c:api_Cite)(r:Bool)(hm:M.citation_Valid n c=some r):FSpec Tryz.prog 24 [(tapi_Cite.is c)] (tB.is r):=by
 unfold M.citation_Valid at hm
 refine FSpec.of Tryz.func24 rfl rfl rfl fun g0=>Aw<|Ao rfl (.box (.t rfl))<|Ao rfl (.assign .bool)<|An<|W.seq ?_
 obtain ⟨s1,hs2,hk3⟩:=Bs hm
 clear hm
 refine W.join (fun s:Bool=>s=s1) (fun s=>[(15,(tB.is s)),(1,(tapi_Cite.ptr c))]) (fun s=>[]) ?_ ?_
 ·rintro v hj36
  try dsimp only at hj36
  subst hj36
  have hm:=hk3
  clear hk3
  try dsimp only at hm
  change W _ _ _ _ _ _ _ [(15,(tB.is v)),(1,(tapi_Cite.ptr c))] []
  refine W.cB hm (.t rfl) (fun hp7 hm=>?_) (fun hp7 hm=>?_)
  ·refine Aw<|Ao rfl (.assign .bool)<|WL.ns ?_
   cases hm
   exact W.ret1 () rfl (.t rfl) trivial
  ·refine W.skip<|Aq<|W.seq<|Aw<|Ao rfl (.fieldAddr U52 rfl J3 fapi_Cite_0 (.t rfl))<|Ao rfl (.load ty3 (.t rfl))<|An<|W.block ?_
   obtain ⟨s8,hs9,hk10⟩:=Bs hm
   clear hm
   refine W.join (fun s:Bool=>s=s8) (fun s=>[(18,(tB.is s)),(1,(tapi_Cite.ptr c)),(17,(I6.is c.Kind))]) (fun s=>[]) ?_ ?_
   ·rintro v1 hj35
    try dsimp only at hj35
    subst hj35
    have hm:=hk10
    clear hk10
    try dsimp only at hm
    change W _ _ _ _ _ _ _ [(18,(tB.is v1)),(1,(tapi_Cite.ptr c)),(17,(I6.is c.Kind))] []
    refine W.cB hm (.t rfl) (fun hp14 hm=>?_) (fun hp14 hm=>?_)
    ·refine Aw<|Ao rfl (.fieldAddr U52 rfl J50 fapi_Cite_1 (.t rfl))<|Ao rfl (.load ty50 (.t rfl)) ?_
     obtain ⟨plain,hv15,hm⟩:=Bs hm
     refine Ao rfl (.call C43 (citation_plain_spec _ _ _ hv15) ⟨(.t rfl),trivial⟩)<|Ag rfl rfl<|WL.ns ?_
     cases hm
     exact W.ret1 () rfl (.t rfl) trivial
    ·refine Aw<|Ao rfl (.eqI (.t rfl) .i64)<|Ag rfl rfl<|An<|W.cD hm (.t rfl) (fun hp17 hm=>?_) (fun hp17 hm=>?_)
     ·refine Aw<|Ao rfl (.fieldAddr U52 rfl J50 fapi_Cite_1 (.t rfl))<|Ao rfl (.load ty50 (.t rfl)) ?_
      obtain ⟨plain1,hv18,hm⟩:=Bs hm
      refine Ao rfl (.call C43 (citation_plain_spec _ _ _ hv18) ⟨(.t rfl),trivial⟩)<|WL.mv rfl rfl ?_
      rcases iteB hm with ⟨hp20,hb19,hm⟩ | ⟨hp20,hb19,hm⟩
      ·refine Ax rfl hb19 (.fieldAddr U52 rfl J9 fapi_Cite_2 (.t rfl))<|Ax rfl hb19 (.load ty9 (.t rfl)) ?_
       obtain ⟨valid,hv21,hm⟩:=Bs hm
       refine Ax rfl hb19 (.call C44 (label_Valid_spec _ _ _ hv21) ⟨(.t rfl),trivial⟩)<|Ao rfl (.pickT (.t rfl) hb19 (.t rfl))<|WL.mv rfl rfl ?_
       rcases iteB hm with ⟨hp23,hb22,hm⟩ | ⟨hp23,hb22,hm⟩
       ·refine Ax rfl hb22 (.fieldAddr U52 rfl J50 fapi_Cite_1 (.t rfl))<|Ax rfl hb22 (.load ty50 (.t rfl))<|Ax rfl hb22 (.fieldAddr U52 rfl J50 fapi_Cite_1 (.t rfl))<|Ax rfl hb22 (.load ty50 (.t rfl))<|Ax rfl hb22 (.lenL U50 (.t rfl)) ?_
        obtain ⟨v2,hv24,hm⟩:=Bs hm
        refine Ax rfl hb22 (.subC hv24 (.t rfl) .i64) ?_
        obtain ⟨v3,hv25,hm⟩:=Bs hm
        refine Ax rfl hb22 (.idx hv25 U50 Z49 (.t rfl) (.t rfl))<|Ax rfl hb22 (.fieldAddr U49 rfl J3 fapi_Step_0 (.t rfl))<|Ax rfl hb22 (.load ty3 (.t rfl))<|Ax rfl hb22 (.neI (.t rfl) .i64)<|Ao rfl (.pickT (.t rfl) hb22 (.t rfl))<|Ag rfl rfl<|WL.ns ?_
        cases hm
        exact W.ret1 () rfl (.t rfl) trivial
       ·refine Ap rfl hb22<|Ap rfl hb22<|Ap rfl hb22<|Ap rfl hb22<|Ap rfl hb22<|Ap rfl hb22<|Ap rfl hb22<|Ap rfl hb22<|Ap rfl hb22<|Ap rfl hb22<|Ao rfl (.pickF (.t rfl) hb22 .bool)<|Ag rfl rfl<|WL.ns ?_
        cases hm
        exact W.ret1 () rfl (.t rfl) trivial
      ·refine Ap rfl hb19<|Ap rfl hb19<|Ap rfl hb19<|Ao rfl (.pickF (.t rfl) hb19 .bool)<|Am rfl rfl<|Ap rfl rfl<|Ap rfl rfl<|Ap rfl rfl<|Ap rfl rfl<|Ap rfl rfl<|Ap rfl rfl<|Ap rfl rfl<|Ap rfl rfl<|Ap rfl rfl<|Ap rfl rfl<|Ao rfl (.pickF (.t rfl) rfl .bool) ?_
       refine Ag rfl rfl<|WL.ns ?_
       cases hm
       exact W.ret1 () rfl (.t rfl) trivial
     ·obtain ⟨s26,hs27,hk28⟩:=Bs hm
      clear hm
      refine W.join (fun s:Bool=>s=s26) (fun s=>[(46,(tB.is s)),(1,(tapi_Cite.ptr c))]) (fun s=>[]) ?_ ?_
      ·rintro v4 hj34
       try dsimp only at hj34
       subst hj34
       have hm:=hk28
       clear hk28
       try dsimp only at hm
       change W _ _ _ _ _ _ _ [(46,(tB.is v4)),(1,(tapi_Cite.ptr c))] []
       refine W.cB hm (.t rfl) (fun hp32 hm=>?_) (fun hp32 hm=>?_)
       ·refine Aw<|Ao rfl (.fieldAddr U52 rfl J50 fapi_Cite_1 (.t rfl))<|Ao rfl (.load ty50 (.t rfl)) ?_
        obtain ⟨near,hv33,hm⟩:=Bs hm
        refine Ao rfl (.call C45 (citation_near_spec _ _ _ hv33) ⟨(.t rfl),trivial⟩)<|Ag rfl rfl<|WL.ns ?_
        cases hm
        exact W.ret1 () rfl (.t rfl) trivial
       ·refine W.skip<|WN.block<|Aq<|Aw<|Ao rfl (.assign .bool)<|WL.ns ?_
        cases hm
        exact W.ret1 () rfl (.t rfl) trivial
      ·have hm:=hs27
       clear hs27
       refine Aw<|Ao rfl (.eqI (.t rfl) .i64)<|Ag rfl rfl<|An<|W.cD hm (.t rfl) (fun hp30 hm=>?_) (fun hp30 hm=>?_)
       ·exact W.skip<|WN.meet (decide (c.Kind=(2:Int))) (Si hm) ⟨.q rfl,.q rfl,trivial⟩ trivial
       ·exact W.region<|Ao rfl (.eqI (.t rfl) .i64)<|Ag rfl rfl<|WL.nil<|WN.meet (decide (c.Kind=(3:Int))) (Si hm) ⟨.q rfl,.q rfl,trivial⟩ trivial
   ·have hm:=hs9
    clear hs9
    refine Aw<|Ao rfl (.eqI (.t rfl) .i64)<|Ag rfl rfl<|An<|W.cD hm (.t rfl) (fun hp12 hm=>?_) (fun hp12 hm=>?_)
    ·exact W.skip<|WN.meet (decide (c.Kind=(0:Int))) (Si hm) ⟨.q rfl,.q rfl,.q rfl,trivial⟩ trivial
    ·exact W.region<|Ao rfl (.eqI (.t rfl) .i64)<|Ag rfl rfl<|WL.nil<|WN.meet (decide (c.Kind=(4:Int))) (Si hm) ⟨.q rfl,.q rfl,.q rfl,trivial⟩ trivial
 ·have hm:=hs2
  clear hs2
  refine W.region<|Ao rfl (.fieldAddr U52 rfl J50 fapi_Cite_1 (.t rfl))<|Ao rfl (.load ty50 (.t rfl))<|Ao rfl (.lenL U50 (.t rfl))<|Ao rfl (.gtI (.t rfl) .i64)<|WL.mv rfl rfl ?_
  rcases iteD hm with ⟨hp5,hb4,hm⟩ | ⟨hp5,hb4,hm⟩
  ·exact Ap rfl hb4<|Ap rfl hb4<|Ap rfl hb4<|Ap rfl hb4<|Ap rfl hb4<|Ap rfl hb4<|Ap rfl hb4<|Ao rfl (.pickT (.t rfl) hb4 .bool)<|WL.nil<|WN.meet true (Si hm) ⟨.q rfl,.q rfl,trivial⟩ trivial
  ·exact Ax rfl hb4 (.fieldAddr U52 rfl J9 fapi_Cite_2 (.t rfl))<|Ax rfl hb4 (.load ty9 (.t rfl))<|Ax rfl hb4 (.neS (.t rfl) (.str rfl (by decide)))<|Ax rfl hb4 (.fieldAddr U52 rfl J3 fapi_Cite_0 (.t rfl))<|Ax rfl hb4 (.load ty3 (.t rfl))<|Ax rfl hb4 (.eqI (.t rfl) .i64)<|Ax rfl hb4 (.neB U4 (.t rfl) (.t rfl))<|Ao rfl (.pickF (.t rfl) hb4 (.t rfl))<|WL.nil<|WN.meet ((c.To !=([]:Str)) !=(decide (c.Kind=(1:Int)))) (Si hm) ⟨.q rfl,.q rfl,trivial⟩ trivial
theorem resolve_Resolve_spec(n:Nat)(u:api_Unit)(at0_:api_Id)(c:api_Cite)(said:List api_Id)(r:(List api_Id)×Int)(hm:M.resolve_Resolve n u at0_ c said=some r):FSpec Tryz.prog 13 [(tapi_Unit.is u),(tapi_Id.is at0_),(tapi_Cite.is c),((tL tapi_Id).is said)] (Asn.tuple2 ((tL tapi_Id).is r.1) (I6.is r.2)):=by
 unfold M.resolve_Resolve at hm
 refine FSpec.of Tryz.func13 rfl rfl rfl fun g0=>Aw<|Ao rfl (.box (.t rfl))<|Ao rfl (.box (.t rfl))<|Ao rfl (.box (.t rfl))<|Ao rfl (.assign (.nil (t:=tapi_Id)))<|Ao rfl (.assign .i64)<|An<|W.seq ?_
 obtain ⟨meanin,hv1,hm⟩:=Bs hm
 refine W.weakR (res':=[]) trivial<|W.drawM [.f (fun cv=>(Mv (bk (cv 0)))),.c (I6.ptr c.Kind),.c (I6.is c.Kind),.c (Asn.tuple2 ((tFun Tryz.prog (fun (f:resolve_scene→api_Cite→Option ((List api_Id)×Int))=>(fun s:resolve_scene×api_Cite×((List api_Id)×Int)=>f s.1 s.2.1=some s.2.2)) (fun s:resolve_scene×api_Cite×((List api_Id)×Int)=>[tresolve_scene.is s.1,tapi_Cite.is s.2.1]) (fun s:resolve_scene×api_Cite×((List api_Id)×Int)=>(Asn.tuple2 ((tL tapi_Id).is s.2.2.1) (I6.is s.2.2.2)))).is (mget meanin c.Kind (fun _ _=>none:resolve_scene→api_Cite→Option ((List api_Id)×Int)),mhas meanin c.Kind).1) (tB.is (mget meanin c.Kind (fun _ _=>none:resolve_scene→api_Cite→Option ((List api_Id)×Int)),mhas meanin c.Kind).2)),.c (Asn.tuple2 ((tFun Tryz.prog (fun (f:resolve_scene→api_Cite→Option ((List api_Id)×Int))=>(fun s:resolve_scene×api_Cite×((List api_Id)×Int)=>f s.1 s.2.1=some s.2.2)) (fun s:resolve_scene×api_Cite×((List api_Id)×Int)=>[tresolve_scene.is s.1,tapi_Cite.is s.2.1]) (fun s:resolve_scene×api_Cite×((List api_Id)×Int)=>(Asn.tuple2 ((tL tapi_Id).is s.2.2.1) (I6.is s.2.2.2)))).is (mget meanin c.Kind (fun _ _=>none:resolve_scene→api_Cite→Option ((List api_Id)×Int)),mhas meanin c.Kind).1) (tB.is (mget meanin c.Kind (fun _ _=>none:resolve_scene→api_Cite→Option ((List api_Id)×Int)),mhas meanin c.Kind).2)),.c ((tFun Tryz.prog (fun (f:resolve_scene→api_Cite→Option ((List api_Id)×Int))=>(fun s:resolve_scene×api_Cite×((List api_Id)×Int)=>f s.1 s.2.1=some s.2.2)) (fun s:resolve_scene×api_Cite×((List api_Id)×Int)=>[tresolve_scene.is s.1,tapi_Cite.is s.2.1]) (fun s:resolve_scene×api_Cite×((List api_Id)×Int)=>(Asn.tuple2 ((tL tapi_Id).is s.2.2.1) (I6.is s.2.2.2)))).is ((mget meanin c.Kind (fun _ _=>none:resolve_scene→api_Cite→Option ((List api_Id)×Int)),mhas meanin c.Kind).1)),.c (tB.is ((mget meanin c.Kind (fun _ _=>none:resolve_scene→api_Cite→Option ((List api_Id)×Int)),mhas meanin c.Kind).2)),.c ((tFun Tryz.prog (fun (f:resolve_scene→api_Cite→Option ((List api_Id)×Int))=>(fun s:resolve_scene×api_Cite×((List api_Id)×Int)=>f s.1 s.2.1=some s.2.2)) (fun s:resolve_scene×api_Cite×((List api_Id)×Int)=>[tresolve_scene.is s.1,tapi_Cite.is s.2.1]) (fun s:resolve_scene×api_Cite×((List api_Id)×Int)=>(Asn.tuple2 ((tL tapi_Id).is s.2.2.1) (I6.is s.2.2.2)))).is ((mget meanin c.Kind (fun _ _=>none:resolve_scene→api_Cite→Option ((List api_Id)×Int)),mhas meanin c.Kind).1)),.c (tB.is ((mget meanin c.Kind (fun _ _=>none:resolve_scene→api_Cite→Option ((List api_Id)×Int)),mhas meanin c.Kind).2))] [([],[]),([],[6]),([1],[]),([0,2],[]),([3],[]),([4],[]),([4],[]),([5],[]),([6],[])] [0] [[true],[],[],[],[],[],[],[],[]] (fun m cv=>match m with | 0=>[] | _=>[(13,Mp I6 (tFun Tryz.prog (fun (f:resolve_scene→api_Cite→Option ((List api_Id)×Int))=>(fun s:resolve_scene×api_Cite×((List api_Id)×Int)=>f s.1 s.2.1=some s.2.2)) (fun s:resolve_scene×api_Cite×((List api_Id)×Int)=>[tresolve_scene.is s.1,tapi_Cite.is s.2.1]) (fun s:resolve_scene×api_Cite×((List api_Id)×Int)=>(Asn.tuple2 ((tL tapi_Id).is s.2.2.1) (I6.is s.2.2.2)))) meanin (bk (cv 0)))]) (fun _=>none) Mx rfl rfl rfl rfl rfl ⟨fun m hm c t=>by simp only [DA.at,upd_dep (r:=[true]) (j:=0) rfl hm],⟨fun _ _ _ _=>rfl,⟨fun _ _ _ _=>rfl,⟨fun _ _ _ _=>rfl,⟨fun _ _ _ _=>rfl,⟨fun _ _ _ _=>rfl,⟨fun _ _ _ _=>rfl,⟨fun _ _ _ _=>rfl,⟨fun _ _ _ _=>rfl,trivial⟩⟩⟩⟩⟩⟩⟩⟩⟩ rfl ⟨.inl rfl,⟨mo fun cv=>Op1.fieldAddr U52 rfl J3 fapi_Cite_0 (.t rfl),⟨mo fun cv=>Op1.load ty3 (.t rfl),⟨.inr ⟨fun cv=>[(13,Mp I6 (tFun Tryz.prog (fun (f:resolve_scene→api_Cite→Option ((List api_Id)×Int))=>(fun s:resolve_scene×api_Cite×((List api_Id)×Int)=>f s.1 s.2.1=some s.2.2)) (fun s:resolve_scene×api_Cite×((List api_Id)×Int)=>[tresolve_scene.is s.1,tapi_Cite.is s.2.1]) (fun s:resolve_scene×api_Cite×((List api_Id)×Int)=>(Asn.tuple2 ((tL tapi_Id).is s.2.2.1) (I6.is s.2.2.2)))) meanin (bk (cv 0)))],(AllUpTo.at ⟨(fun hw=>absurd hw (by decide)),(fun _ _=>⟨rfl,rfl,trivial⟩)⟩),fun cv=>Op1.lookupOk 13 U65 kt3 ze63 rfl (.t rfl) (.t rfl)⟩,⟨mo fun cv=>Op1.move (.t rfl),⟨mo fun cv=>Op1.extract0 (.t rfl),⟨mo fun cv=>Op1.extract1 (.t rfl),⟨mo fun cv=>Op1.assign (.t rfl),⟨mo fun cv=>Op1.assign (.t rfl),trivial⟩⟩⟩⟩⟩⟩⟩⟩⟩ ⟨⟨_,_,_,[],(fun cv=>[(13,Mp I6 (tFun Tryz.prog (fun (f:resolve_scene→api_Cite→Option ((List api_Id)×Int))=>(fun s:resolve_scene×api_Cite×((List api_Id)×Int)=>f s.1 s.2.1=some s.2.2)) (fun s:resolve_scene×api_Cite×((List api_Id)×Int)=>[tresolve_scene.is s.1,tapi_Cite.is s.2.1]) (fun s:resolve_scene×api_Cite×((List api_Id)×Int)=>(Asn.tuple2 ((tL tapi_Id).is s.2.2.1) (I6.is s.2.2.2)))) meanin (bk (cv 0)))]),rfl,rfl,rfl,rfl,fun _=>rfl,fun _ _=>rfl,fun cv=>OpR.viaB (OpR.call (us:=[]) C23 ((resolve_meanings_spec _ _ hv1).rekey 13) rfl (show Opds _ ([]:List Operand) [] from trivial))⟩,trivial⟩ fun cv=>Aq<|W.seq ?_
 obtain ⟨s2,hs3,hk4⟩:=Bs hm
 clear hm
 refine W.join (fun s:Bool=>s=s2) (fun s=>[(25,(tB.is s)),(3,((tL tapi_Id).is said)),(4,(tapi_Unit.ptr u)),(5,(tapi_Id.ptr at0_)),(6,(tapi_Cite.ptr c)),(10,((tFun Tryz.prog (fun (f:resolve_scene→api_Cite→Option ((List api_Id)×Int))=>(fun s:resolve_scene×api_Cite×((List api_Id)×Int)=>f s.1 s.2.1=some s.2.2)) (fun s:resolve_scene×api_Cite×((List api_Id)×Int)=>[tresolve_scene.is s.1,tapi_Cite.is s.2.1]) (fun s:resolve_scene×api_Cite×((List api_Id)×Int)=>(Asn.tuple2 ((tL tapi_Id).is s.2.2.1) (I6.is s.2.2.2)))).is ((mget meanin c.Kind (fun _ _=>none:resolve_scene→api_Cite→Option ((List api_Id)×Int)),mhas meanin c.Kind).1)))]) (fun s=>[(13,Mp I6 (tFun Tryz.prog (fun (f:resolve_scene→api_Cite→Option ((List api_Id)×Int))=>(fun s:resolve_scene×api_Cite×((List api_Id)×Int)=>f s.1 s.2.1=some s.2.2)) (fun s:resolve_scene×api_Cite×((List api_Id)×Int)=>[tresolve_scene.is s.1,tapi_Cite.is s.2.1]) (fun s:resolve_scene×api_Cite×((List api_Id)×Int)=>(Asn.tuple2 ((tL tapi_Id).is s.2.2.1) (I6.is s.2.2.2)))) meanin (bk (cv 0)))]) ?_ ?_
 ·rintro v hj11
  try dsimp only at hj11
  subst hj11
  have hm:=hk4
  clear hk4
  try dsimp only at hm
  change W _ _ _ _ _ _ _ [(25,(tB.is v)),(3,((tL tapi_Id).is said)),(4,(tapi_Unit.ptr u)),(5,(tapi_Id.ptr at0_)),(6,(tapi_Cite.ptr c)),(10,((tFun Tryz.prog (fun (f:resolve_scene→api_Cite→Option ((List api_Id)×Int))=>(fun s:resolve_scene×api_Cite×((List api_Id)×Int)=>f s.1 s.2.1=some s.2.2)) (fun s:resolve_scene×api_Cite×((List api_Id)×Int)=>[tresolve_scene.is s.1,tapi_Cite.is s.2.1]) (fun s:resolve_scene×api_Cite×((List api_Id)×Int)=>(Asn.tuple2 ((tL tapi_Id).is s.2.2.1) (I6.is s.2.2.2)))).is ((mget meanin c.Kind (fun _ _=>none:resolve_scene→api_Cite→Option ((List api_Id)×Int)),mhas meanin c.Kind).1)))] [(13,Mp I6 (tFun Tryz.prog (fun (f:resolve_scene→api_Cite→Option ((List api_Id)×Int))=>(fun s:resolve_scene×api_Cite×((List api_Id)×Int)=>f s.1 s.2.1=some s.2.2)) (fun s:resolve_scene×api_Cite×((List api_Id)×Int)=>[tresolve_scene.is s.1,tapi_Cite.is s.2.1]) (fun s:resolve_scene×api_Cite×((List api_Id)×Int)=>(Asn.tuple2 ((tL tapi_Id).is s.2.2.1) (I6.is s.2.2.2)))) meanin (bk (cv 0)))]
  refine W.cB hm (.t rfl) (fun hp9 hm=>?_) (fun hp9 hm=>?_)
  ·refine Aw<|Ao rfl (.assign (.nil (t:=tapi_Id)))<|Ao rfl (.assign .i64)<|WL.ns ?_
   cases hm
   exact W.ret2 () rfl rfl (.t rfl) (.t rfl) trivial
  ·refine W.skip<|Aq<|Aw<|Am rfl rfl<|Ao rfl (.load ty27 (.t rfl))<|Ao rfl (.load ty23 (.t rfl))<|Am rfl rfl<|Ao rfl (.build (s:=tresolve_scene) (x:=(⟨u,at0_,said⟩:resolve_scene)) zresolve_scene_f rfl Tryz.underlying69 (zresolve_scene_sz _ Tryz.underlying69) ze69 ⟨_,tapi_Unit,u,_,_,rfl,Z27,(.t rfl),sresolve_scene_0,⟨_,tapi_Id,at0_,_,_,rfl,Z23,(.t rfl),sresolve_scene_1,⟨_,(tL tapi_Id),said,_,_,rfl,Z40,(.t rfl),sresolve_scene_2,rfl⟩⟩⟩)<|Ao rfl (.load ty52 (.t rfl)) ?_
   obtain ⟨v1,hv10,hm⟩:=Bs hm
   refine Ao rfl (.callFun (ok:=(fun (f:resolve_scene→api_Cite→Option ((List api_Id)×Int))=>(fun s:resolve_scene×api_Cite×((List api_Id)×Int)=>f s.1 s.2.1=some s.2.2))) (As:=(fun s:resolve_scene×api_Cite×((List api_Id)×Int)=>[tresolve_scene.is s.1,tapi_Cite.is s.2.1])) (A:=(fun s:resolve_scene×api_Cite×((List api_Id)×Int)=>(Asn.tuple2 ((tL tapi_Id).is s.2.2.1) (I6.is s.2.2.2)))) (f:=((mget meanin c.Kind (fun _ _=>none:resolve_scene→api_Cite→Option ((List api_Id)×Int)),mhas meanin c.Kind).1)) (s:=((⟨u,at0_,said⟩:resolve_scene),c,v1)) (.t rfl) hv10 ⟨(.t rfl),(.t rfl),trivial⟩)<|Ao rfl (.extract0 (.t rfl))<|Ao rfl (.extract1 (.t rfl))<|Ag rfl rfl<|Ag rfl rfl<|WL.ns ?_
   cases hm
   exact W.ret2 () rfl rfl (.t rfl) (.t rfl) trivial
 ·have hm:=hs3
  clear hs3
  refine W.region<|Am rfl rfl<|Ao rfl (.notB (.t rfl))<|WL.mv rfl rfl ?_
  rcases iteR hm with ⟨hp6,hb5,hm⟩ | ⟨hp6,hb5,hm⟩
  ·exact Ap rfl hb5<|Ap rfl hb5<|Ap rfl hb5<|Ao rfl (.pickT (.t rfl) hb5 .bool)<|WL.nil<|WN.meet true (Si hm) ⟨.q rfl,.q rfl,.q rfl,.q rfl,.q rfl,.q rfl,trivial⟩ ⟨rfl,rfl,trivial⟩
  ·refine Ax rfl hb5 (.load ty52 (.t rfl)) ?_
   obtain ⟨valid,hv7,hm⟩:=Bs hm
   exact Ax rfl hb5 (.call C24 (citation_Valid_spec _ _ _ hv7) ⟨(.t rfl),trivial⟩)<|Ax rfl hb5 (.notB (.t rfl))<|Ao rfl (.pickF (.t rfl) hb5 (.t rfl))<|WL.nil<|WN.meet (!valid) (Si hm) ⟨.q rfl,.q rfl,.q rfl,.q rfl,.q rfl,.q rfl,trivial⟩ ⟨rfl,rfl,trivial⟩
end Go.Proofs.YtlegkjbldofkmaaGreat
