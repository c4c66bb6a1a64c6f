/-
  The code does what the models say: written by program.
-/
import Derived.Test.YtlegkjbldofkmaaGreatWa
set_option linter.unusedVariables false
set_option linter.unusedSimpArgs false
namespace Go.Proofs.YtlegkjbldofkmaaGreat
open Go Go.Dec
set_option maxRecDepth 100000
set_option maxHeartbeats 4000000
theorem law41_awake_spec(n:Nat) (r:Bool)(hm:M.law41_awake n=some r):FSpec Tryz.prog 5 [] (tB.is r):=by
 unfold M.law41_awake at hm
 refine FSpec.of Tryz.func5 rfl rfl rfl fun g0=>Aw<|Ao rfl (.assign .bool)<|Ar<|Ao rfl (.build (s:=tapi_Id) (x:=(⟨(1:Int),(0:Int),(2:Int)⟩:api_Id)) zapi_Id_f rfl U23 (zapi_Id_sz _ U23) ze23 ⟨_,I6,(1:Int),_,_,rfl,Z3,.i64,sapi_Id_0,⟨_,I6,(2:Int),_,_,rfl,Z3,.i64,sapi_Id_2,rfl⟩⟩)<|WL.opR rfl (OpR.alloc 1 ze23) fun b=>WL.opU (OpR.storeB (b:=b) 1 Z23 (Cellable.is tapi_Id (⟨(1:Int),(0:Int),(2:Int)⟩:api_Id)) rfl (.t rfl) (.t rfl)) fun _=>WL.sealed (t:=tapi_Id) (u:=(⟨(1:Int),(0:Int),(2:Int)⟩:api_Id)) 1 1 rfl rfl<|Ar<|Ao rfl (.build (s:=tapi_Id) (x:=(⟨(1:Int),(0:Int),(1:Int)⟩:api_Id)) zapi_Id_f rfl U23 (zapi_Id_sz _ U23) ze23 ⟨_,I6,(1:Int),_,_,rfl,Z3,.i64,sapi_Id_0,⟨_,I6,(1:Int),_,_,rfl,Z3,.i64,sapi_Id_2,rfl⟩⟩)<|Ao rfl (.load ty23 (.t rfl))<|Ao rfl (.build (s:=tapi_Unit) (x:=(⟨(⟨(1:Int),(0:Int),(2:Int)⟩:api_Id),(3:Int),([50]:Str),([]:List api_Word),([]:List api_Word),([]:List api_Unit)⟩:api_Unit)) zapi_Unit_f rfl U27 (zapi_Unit_sz _ U27) ze27 ⟨_,tapi_Id,(⟨(1:Int),(0:Int),(2:Int)⟩:api_Id),_,_,rfl,Z23,(.t rfl),sapi_Unit_0,⟨_,I6,(3:Int),_,_,rfl,Z3,.i64,sapi_Unit_1,⟨_,tS,([50]:Str),_,_,rfl,Z9,(.str rfl (by decide)),sapi_Unit_2,rfl⟩⟩⟩)<|Ao rfl (.buildSlice (n:=1) (ys:=[(0,(⟨(⟨(1:Int),(0:Int),(2:Int)⟩:api_Id),(3:Int),([50]:Str),([]:List api_Word),([]:List api_Word),([]:List api_Unit)⟩:api_Unit))]) (z:=zapi_Unit) (xs:=[(⟨(⟨(1:Int),(0:Int),(2:Int)⟩:api_Id),(3:Int),([50]:Str),([]:List api_Word),([]:List api_Word),([]:List api_Unit)⟩:api_Unit)]) U25 el27 ze27 ⟨rfl,(.t rfl),trivial⟩ (by simp) (by decide) rfl)<|Ao rfl (.build (s:=tapi_Unit) (x:=(⟨(⟨(1:Int),(0:Int),(1:Int)⟩:api_Id),(2:Int),([53]:Str),([]:List api_Word),([]:List api_Word),[(⟨(⟨(1:Int),(0:Int),(2:Int)⟩:api_Id),(3:Int),([50]:Str),([]:List api_Word),([]:List api_Word),([]:List api_Unit)⟩:api_Unit)]⟩:api_Unit)) zapi_Unit_f rfl U27 (zapi_Unit_sz _ U27) ze27 ⟨_,tapi_Id,(⟨(1:Int),(0:Int),(1:Int)⟩:api_Id),_,_,rfl,Z23,(.t rfl),sapi_Unit_0,⟨_,I6,(2:Int),_,_,rfl,Z3,.i64,sapi_Unit_1,⟨_,tS,([53]:Str),_,_,rfl,Z9,(.str rfl (by decide)),sapi_Unit_2,⟨_,(tL tapi_Unit),([(⟨(⟨(1:Int),(0:Int),(2:Int)⟩:api_Id),(3:Int),([50]:Str),([]:List api_Word),([]:List api_Word),([]:List api_Unit)⟩:api_Unit)]),_,_,rfl,Z25,(.t rfl),sapi_Unit_5,rfl⟩⟩⟩⟩)<|Ao rfl (.buildSlice (n:=1) (ys:=[(0,(⟨(⟨(1:Int),(0:Int),(1:Int)⟩:api_Id),(2:Int),([53]:Str),([]:List api_Word),([]:List api_Word),[(⟨(⟨(1:Int),(0:Int),(2:Int)⟩:api_Id),(3:Int),([50]:Str),([]:List api_Word),([]:List api_Word),([]:List api_Unit)⟩:api_Unit)]⟩:api_Unit))]) (z:=zapi_Unit) (xs:=[(⟨(⟨(1:Int),(0:Int),(1:Int)⟩:api_Id),(2:Int),([53]:Str),([]:List api_Word),([]:List api_Word),[(⟨(⟨(1:Int),(0:Int),(2:Int)⟩:api_Id),(3:Int),([50]:Str),([]:List api_Word),([]:List api_Word),([]:List api_Unit)⟩:api_Unit)]⟩:api_Unit)]) U25 el27 ze27 ⟨rfl,(.t rfl),trivial⟩ (by simp) (by decide) rfl)<|Ao rfl (.build (s:=tapi_Unit) (x:=(⟨zapi_Id,(0:Int),([]:Str),([]:List api_Word),([]:List api_Word),[(⟨(⟨(1:Int),(0:Int),(1:Int)⟩:api_Id),(2:Int),([53]:Str),([]:List api_Word),([]:List api_Word),[(⟨(⟨(1:Int),(0:Int),(2:Int)⟩:api_Id),(3:Int),([50]:Str),([]:List api_Word),([]:List api_Word),([]:List api_Unit)⟩:api_Unit)]⟩:api_Unit)]⟩:api_Unit)) zapi_Unit_f rfl U27 (zapi_Unit_sz _ U27) ze27 ⟨_,(tL tapi_Unit),([(⟨(⟨(1:Int),(0:Int),(1:Int)⟩:api_Id),(2:Int),([53]:Str),([]:List api_Word),([]:List api_Word),[(⟨(⟨(1:Int),(0:Int),(2:Int)⟩:api_Id),(3:Int),([50]:Str),([]:List api_Word),([]:List api_Word),([]:List api_Unit)⟩:api_Unit)]⟩:api_Unit)]),_,_,rfl,Z25,(.t rfl),sapi_Unit_5,rfl⟩) ?_
 refine WL.opR rfl (OpR.alloc 2 ze27) fun b1=>WL.opU (OpR.storeB (b:=b1) 2 Z27 (Cellable.is tapi_Unit (⟨zapi_Id,(0:Int),([]:Str),([]:List api_Word),([]:List api_Word),[(⟨(⟨(1:Int),(0:Int),(1:Int)⟩:api_Id),(2:Int),([53]:Str),([]:List api_Word),([]:List api_Word),[(⟨(⟨(1:Int),(0:Int),(2:Int)⟩:api_Id),(3:Int),([50]:Str),([]:List api_Word),([]:List api_Word),([]:List api_Unit)⟩:api_Unit)]⟩:api_Unit)]⟩:api_Unit)) rfl (.t rfl) (.t rfl)) fun _=>WL.sealed (t:=tapi_Unit) (u:=(⟨zapi_Id,(0:Int),([]:Str),([]:List api_Word),([]:List api_Word),[(⟨(⟨(1:Int),(0:Int),(1:Int)⟩:api_Id),(2:Int),([53]:Str),([]:List api_Word),([]:List api_Word),[(⟨(⟨(1:Int),(0:Int),(2:Int)⟩:api_Id),(3:Int),([50]:Str),([]:List api_Word),([]:List api_Word),([]:List api_Unit)⟩:api_Unit)]⟩:api_Unit)]⟩:api_Unit)) 2 2 rfl rfl<|Ar<|Ao rfl (.load ty27 (.t rfl))<|Ao rfl (.build (s:=tapi_Id) (x:=(⟨(1:Int),(0:Int),(1:Int)⟩:api_Id)) zapi_Id_f rfl U23 (zapi_Id_sz _ U23) ze23 ⟨_,I6,(1:Int),_,_,rfl,Z3,.i64,sapi_Id_0,⟨_,I6,(1:Int),_,_,rfl,Z3,.i64,sapi_Id_2,rfl⟩⟩)<|Ao rfl (.build (s:=tapi_Step) (x:=(⟨(2:Int),([]:Str)⟩:api_Step)) zapi_Step_f rfl U49 (zapi_Step_sz _ U49) ze49 ⟨_,I6,(2:Int),_,_,rfl,Z3,.i64,sapi_Step_0,rfl⟩)<|Ao rfl (.build (s:=tapi_Step) (x:=(⟨(3:Int),([50]:Str)⟩:api_Step)) zapi_Step_f rfl U49 (zapi_Step_sz _ U49) ze49 ⟨_,I6,(3:Int),_,_,rfl,Z3,.i64,sapi_Step_0,⟨_,tS,([50]:Str),_,_,rfl,Z9,(.str rfl (by decide)),sapi_Step_1,rfl⟩⟩)<|Ao rfl (.buildSlice (n:=2) (ys:=[(0,(⟨(2:Int),([]:Str)⟩:api_Step)),(1,(⟨(3:Int),([50]:Str)⟩:api_Step))]) (z:=zapi_Step) (xs:=[(⟨(2:Int),([]:Str)⟩:api_Step),(⟨(3:Int),([50]:Str)⟩:api_Step)]) U50 el49 ze49 ⟨rfl,(.t rfl),rfl,(.t rfl),trivial⟩ (by simp) (by decide) rfl)<|Ao rfl (.build (s:=tapi_Cite) (x:=(⟨(2:Int),[(⟨(2:Int),([]:Str)⟩:api_Step),(⟨(3:Int),([50]:Str)⟩:api_Step)],([]:Str),(0:Int),(0:Int)⟩:api_Cite)) zapi_Cite_f rfl U52 (zapi_Cite_sz _ U52) ze52 ⟨_,I6,(2:Int),_,_,rfl,Z3,.i64,sapi_Cite_0,⟨_,(tL tapi_Step),([(⟨(2:Int),([]:Str)⟩:api_Step),(⟨(3:Int),([50]:Str)⟩:api_Step)]),_,_,rfl,Z50,(.t rfl),sapi_Cite_1,rfl⟩⟩) ?_
 obtain ⟨resolv,hv1,hm⟩:=Bs hm
 refine Ao rfl (.call C13 (resolve_Resolve_spec _ _ _ _ _ _ hv1) ⟨(.t rfl),(.t rfl),(.t rfl),(.nil (t:=tapi_Id)),trivial⟩)<|Am rfl rfl<|Ao rfl (.extract0 (.t rfl))<|Ao rfl (.extract1 (.t rfl))<|Ag rfl rfl<|Ag rfl rfl<|An<|W.seq ?_
 rcases iteD hm with ⟨hp3,hb2,hm⟩ | ⟨hp3,hb2,hm⟩
 ·rcases iteD hm with ⟨hp5,hb4,hm⟩ | ⟨hp5,hb4,hm⟩
  ·obtain ⟨v,hv6,hm⟩:=Bs hm
   refine W.draw [.c _,.c _,.c _,.c _,.c _,.c _,.c _,.c _,.c _,.c _,.c _,.c _,.c _,.c _,.c _] [([],[4]),([0],[]),([1],[]),([2],[3]),([2,3],[]),([2,4],[]),([2,5],[]),([6],[]),([7],[3]),([7,8],[]),([7,9],[]),([7],[1]),([7,10,11],[]),([7,12],[]),([13],[])] Mx rfl rfl rfl rfl ⟨Dn (.move (.t rfl)),Dn (.eqI (.t rfl) .i64),Dn (.move (.t rfl)),Dr rfl hb2 (.move (.t rfl)),Dr rfl hb2 (.lenL U40 (.t rfl)),Dr rfl hb2 (.eqI (.t rfl) .i64),Dn (.pickT (.t rfl) hb2 (.t rfl)),Dn (.move (.t rfl)),Dr rfl hb4 (.move (.t rfl)),Dr rfl hb4 (.idx hv6 U40 Z23 (.t rfl) .i64),Dr rfl hb4 (.load ty23 (.t rfl)),Dr rfl hb4 (.load ty23 (.t rfl)),Dr rfl hb4 (.eqSt (D:=2) rfl (by decide) eg23 eq23 (.t rfl) (.t rfl)),Dn (.pickT (.t rfl) hb4 (.t rfl)),Dn (.assign (.t rfl)),trivial⟩<|WN.seq ?_
   cases hm
   exact W.ret1 () rfl (.t rfl) trivial
  ·refine W.draw [.c _,.c _,.c _,.c _,.c _,.c _,.c _,.c _,.c _,.c _,.c _,.c _,.c _,.c _,.c _] [([],[4]),([0],[]),([1],[]),([2],[3]),([2,3],[]),([2,4],[]),([2,5],[]),([6],[]),([7],[3]),([7,8],[]),([7,9],[]),([7],[1]),([7,10,11],[]),([7,12],[]),([13],[])] Mx rfl rfl rfl rfl ⟨Dn (.move (.t rfl)),Dn (.eqI (.t rfl) .i64),Dn (.move (.t rfl)),Dr rfl hb2 (.move (.t rfl)),Dr rfl hb2 (.lenL U40 (.t rfl)),Dr rfl hb2 (.eqI (.t rfl) .i64),Dn (.pickT (.t rfl) hb2 (.t rfl)),Dn (.move (.t rfl)),Dp rfl hb4,Dp rfl hb4,Dp rfl hb4,Dp rfl hb4,Dp rfl hb4,Dn (.pickF (.t rfl) hb4 .bool),Dn (.assign (.t rfl)),trivial⟩<|WN.seq ?_
   cases hm
   exact W.ret1 () rfl (.t rfl) trivial
 ·refine W.draw [.c _,.c (tB.is (decide (resolv.2=(0:Int)))),.c (tB.is (decide (resolv.2=(0:Int)))),.c _,.c _,.c _,.c (tB.is false),.c (tB.is false),.c _,.c _,.c _,.c _,.c _,.c (tB.is false),.c (tB.is false)] [([],[4]),([0],[]),([1],[]),([2],[3]),([2,3],[]),([2,4],[]),([2,5],[]),([6],[]),([7],[3]),([7,8],[]),([7,9],[]),([7],[1]),([7,10,11],[]),([7,12],[]),([13],[])] Mx rfl rfl rfl rfl ⟨Dn (.move (.t rfl)),Dn (.eqI (.t rfl) .i64),Dn (.move (.t rfl)),Dp rfl hb2,Dp rfl hb2,Dp rfl hb2,Dn (.pickF (.t rfl) hb2 .bool),Dn (.move (.t rfl)),Dp rfl rfl,Dp rfl rfl,Dp rfl rfl,Dp rfl rfl,Dp rfl rfl,Dn (.pickF (.t rfl) rfl .bool),Dn (.assign (.t rfl)),trivial⟩<|WN.seq ?_
  cases hm
  exact W.ret1 () rfl (.t rfl) trivial
theorem r06_size_spec:∀ (n:Nat) (u:api_Unit) (deep:Int) (most:Int) (r:Int),M.r06_size n u deep most=some r→FSpec Tryz.prog 25 [(tapi_Unit.is u),(I6.is deep),(I6.is most)] (I6.is r):=by
 intro n
 induction n with
 | zero=>intro u deep most r hm;cases hm
 | succ n ih=>
  intro u deep most r hm
  rw [M.r06_size.eq_2] at hm
  refine FSpec.of Tryz.func25 rfl rfl rfl fun g0=>Aw<|Ao rfl (.box (.t rfl))<|Ao rfl (.assign .i64)<|An<|W.seq<|Aw<|Am rfl rfl<|Ao rfl (.gtI (.t rfl) .i64)<|An<|W.cD hm (.t rfl) (fun hp2 hm=>?_) (fun hp2 hm=>?_)
  ·refine Aw<|WL.mv rfl rfl ?_
   obtain ⟨v,hv3,hm⟩:=Bs hm
   refine Ao rfl (.addC hv3 (.t rfl) .i64)<|Ag rfl rfl<|WL.ns ?_
   cases hm
   exact W.ret1 () rfl (.t rfl) trivial
  ·refine W.skip<|Aq<|Aw<|Ao rfl (.assign .i64)<|An<|W.seq<|Aw<|Ao rfl (.assign .i64)<|An<|W.block ?_
   obtain ⟨s4,hs5,hk6⟩:=Bs hm
   clear hm
   refine W.loop (fun m (s:Int×Int)=>M.r06_size_loop1 u deep most (M.r06_size n) m s.1 s.2=some s4) (fun s=>[(7,(I6.is s.1)),(8,(I6.is s.2)),(1,(I6.is deep)),(2,(I6.is most)),(3,(tapi_Unit.ptr u))]) (fun s=>[]) _ ((1:Int),(0:Int)) hs5 ⟨.q rfl,.q rfl,.q rfl,.q rfl,.q rfl,trivial⟩ trivial ?_
   rintro n7 ⟨n0_,i⟩ hm
   try dsimp only at hm
   change W _ _ _ _ _ _ _ [(7,(I6.is n0_)),(8,(I6.is i)),(1,(I6.is deep)),(2,(I6.is most)),(3,(tapi_Unit.ptr u))] []
   cases n7 with
   | zero=>rw [M.r06_size_loop1.eq_1] at hm;cases hm
   | succ n7=>
    rw [M.r06_size_loop1.eq_2] at hm
    refine W.seq ?_
    obtain ⟨s8,hs9,hk10⟩:=Bs hm
    clear hm
    refine W.join (fun s:Bool=>s=s8) (fun s=>[(22,(tB.is s)),(1,(I6.is deep)),(2,(I6.is most)),(3,(tapi_Unit.ptr u)),(7,(I6.is n0_)),(8,(I6.is i))]) (fun s=>[]) ?_ ?_
    ·rintro v1 hj22
     try dsimp only at hj22
     subst hj22
     have hm:=hk10
     clear hk10
     try dsimp only at hm
     change W _ _ _ _ _ _ _ [(22,(tB.is v1)),(1,(I6.is deep)),(2,(I6.is most)),(3,(tapi_Unit.ptr u)),(7,(I6.is n0_)),(8,(I6.is i))] []
     refine W.cB hm (.t rfl) (fun hp14 hm=>?_) (fun hp14 hm=>?_)
     ·refine W.skip<|Aq<|W.seq<|W.block<|W.region<|Am rfl rfl<|Ao rfl (.fieldAddr U27 rfl J25 fapi_Unit_5 (.t rfl))<|Ao rfl (.load ty25 (.t rfl))<|WL.mv rfl rfl ?_
      obtain ⟨v2,hv15,hm⟩:=Bs hm
      refine Ao rfl (.idx hv15 U25 Z27 (.t rfl) (.t rfl))<|Ao rfl (.load ty27 (.t rfl))<|WL.mv rfl rfl ?_
      obtain ⟨v3,hv16,hm⟩:=Bs hm
      refine Ao rfl (.addC hv16 (.t rfl) .i64)<|Am rfl rfl<|WL.mv rfl rfl ?_
      obtain ⟨v4,hv17,hm⟩:=Bs hm
      refine Ao rfl (.subC hv17 (.t rfl) (.t rfl)) ?_
      obtain ⟨size,hv18,hm⟩:=Bs hm
      refine Ao rfl (.call C25 (ih _ _ _ _ hv18) ⟨(.t rfl),(.t rfl),(.t rfl),trivial⟩) ?_
      obtain ⟨v5,hv19,hm⟩:=Bs hm
      refine Ao rfl (.addC hv19 (.t rfl) (.t rfl))<|Ag rfl rfl<|WL.nil<|WN.block<|Aq<|W.region<|WL.mv rfl rfl ?_
      obtain ⟨v6,hv20,hm⟩:=Bs hm
      exact Ao rfl (.addC hv20 (.t rfl) .i64)<|Ag rfl rfl<|WL.nil<|WN.again n7 (v5,v6) (Nat.lt_succ_self n7) hm ⟨.q rfl,.q rfl,.q rfl,.q rfl,.q rfl,trivial⟩ trivial
     ·refine W.exit rfl ?_
      have hr21:=Si hm
      clear hm
      subst hr21
      have hm:=hk6
      try dsimp only at hm
      refine Aq<|Aw<|Am rfl rfl<|Ag rfl rfl<|WL.ns ?_
      cases hm
      exact W.ret1 () rfl (.t rfl) trivial
    ·have hm:=hs9
     clear hs9
     refine W.region<|Am rfl rfl<|Ao rfl (.fieldAddr U27 rfl J25 fapi_Unit_5 (.t rfl))<|Ao rfl (.load ty25 (.t rfl))<|Ao rfl (.lenL U25 (.t rfl))<|Ao rfl (.ltI (.t rfl) (.t rfl))<|WL.mv rfl rfl ?_
     rcases iteD hm with ⟨hp12,hb11,hm⟩ | ⟨hp12,hb11,hm⟩
     ·exact Ax rfl hb11 (.move (.t rfl))<|Ax rfl hb11 (.move (.t rfl))<|Ax rfl hb11 (.leI (.t rfl) (.t rfl))<|Ao rfl (.pickT (.t rfl) hb11 (.t rfl))<|WL.nil<|WN.meet (decide (n0_≤most)) (Si hm) ⟨.q rfl,.q rfl,.q rfl,.q rfl,.q rfl,.q rfl,trivial⟩ trivial
     ·exact Ap rfl hb11<|Ap rfl hb11<|Ap rfl hb11<|Ao rfl (.pickF (.t rfl) hb11 .bool)<|WL.nil<|WN.meet false (Si hm) ⟨.q rfl,.q rfl,.q rfl,.q rfl,.q rfl,.q rfl,trivial⟩ trivial
theorem r06_short_spec(n:Nat)(l:List api_Word)(r:Bool)(hm:M.r06_short n l=some r):FSpec Tryz.prog 46 [((tL tapi_Word).is l)] (tB.is r):=by
 unfold M.r06_short at hm
 refine FSpec.of Tryz.func46 rfl rfl rfl fun g0=>Aw<|Ao rfl (.assign .bool)<|An<|W.seq<|Aw<|Ao rfl (.assign .i64)<|An<|W.block ?_
 obtain ⟨s1,hs2,hk3⟩:=Bs hm
 clear hm
 refine W.loop (fun m (s:Int)=>M.r06_short_loop1 l m s=some s1) (fun s=>[(3,(I6.is s)),(0,((tL tapi_Word).is l))]) (fun s=>[]) _ (0:Int) hs2 ⟨.q rfl,.q rfl,trivial⟩ trivial ?_
 rintro n4 i hm
 try dsimp only at hm
 change W _ _ _ _ _ _ _ [(3,(I6.is i)),(0,((tL tapi_Word).is l))] []
 cases n4 with
 | zero=>rw [M.r06_short_loop1.eq_1] at hm;cases hm
 | succ n4=>
  rw [M.r06_short_loop1.eq_2] at hm
  refine W.seq<|Aw<|Am rfl rfl<|Am rfl rfl<|Ao rfl (.lenL U24 (.t rfl))<|Ao rfl (.ltI (.t rfl) (.t rfl))<|An<|W.cD hm (.t rfl) (fun hp6 hm=>?_) (fun hp6 hm=>?_)
  ·refine W.skip<|Aq<|W.seq<|W.block<|Aw<|Am rfl rfl<|WL.mv rfl rfl ?_
   obtain ⟨v,hv7,hm⟩:=Bs hm
   refine Ao rfl (.idx hv7 U24 Z33 (.t rfl) (.t rfl))<|Ao rfl (.fieldAddr U33 rfl J9 fapi_Word_0 (.t rfl))<|Ao rfl (.load ty9 (.t rfl))<|Ao rfl (.lenS U9 (.t rfl))<|Ao rfl (.gtI (.t rfl) .i64)<|An<|W.cD hm (.t rfl) (fun hp9 hm=>?_) (fun hp9 hm=>?_)
   ·refine Aw<|Ao rfl (.assign .bool)<|WL.ns ?_
    have hr10:=Si hm
    clear hm
    subst hr10
    have hm:=hk3
    try dsimp only at hm
    cases hm
    exact W.ret1 () rfl (.t rfl) trivial
   ·exact W.skip<|WN.block<|Aq<|W.region<|Am rfl rfl<|WL.lenL (s:=0) (.t rfl) fun hl11=>Ao rfl (.addI1 (.t rfl) .i64 hp6 hl11)<|Ag rfl rfl<|WL.nil<|WN.again n4 (i+1) (Nat.lt_succ_self n4) hm ⟨.q rfl,.q rfl,trivial⟩ trivial
  ·refine W.exit rfl ?_
   have hr12:=Si hm
   clear hm
   subst hr12
   have hm:=hk3
   try dsimp only at hm
   refine Aq<|Aw<|Am rfl rfl<|Ao rfl (.lenL U24 (.t rfl))<|Ao rfl (.leI (.t rfl) .i64)<|Ag rfl rfl<|WL.ns ?_
   cases hm
   exact W.ret1 () rfl (.t rfl) trivial
theorem r06_words_spec:∀ (n:Nat) (u:api_Unit) (r:Bool),M.r06_words n u=some r→FSpec Tryz.prog 26 [(tapi_Unit.is u)] (tB.is r):=by
 intro n
 induction n with
 | zero=>intro u r hm;cases hm
 | succ n ih=>
  intro u r hm
  rw [M.r06_words.eq_2] at hm
  refine FSpec.of Tryz.func26 rfl rfl rfl fun g0=>Aw<|Ao rfl (.box (.t rfl))<|Ao rfl (.assign .bool)<|An<|W.seq ?_
  obtain ⟨s1,hs2,hk3⟩:=Bs hm
  clear hm
  refine W.join (fun s:Bool=>s=s1) (fun s=>[(19,(tB.is s)),(1,(tapi_Unit.ptr u))]) (fun s=>[]) ?_ ?_
  ·rintro v hj25
   try dsimp only at hj25
   subst hj25
   have hm:=hk3
   clear hk3
   try dsimp only at hm
   change W _ _ _ _ _ _ _ [(19,(tB.is v)),(1,(tapi_Unit.ptr u))] []
   refine W.cB hm (.t rfl) (fun hp11 hm=>?_) (fun hp11 hm=>?_)
   ·refine Aw<|Ao rfl (.assign .bool)<|WL.ns ?_
    cases hm
    exact W.ret1 () rfl (.t rfl) trivial
   ·refine W.skip<|Aq<|W.seq<|Aw<|Ao rfl (.assign .i64)<|An<|W.block ?_
    obtain ⟨s12,hs13,hk14⟩:=Bs hm
    clear hm
    refine W.loop (fun m (s:Int)=>M.r06_words_loop1 u (M.r06_words n) m s=some s12) (fun s=>[(3,(I6.is s)),(1,(tapi_Unit.ptr u))]) (fun s=>[]) _ (0:Int) hs13 ⟨.q rfl,.q rfl,trivial⟩ trivial ?_
    rintro n15 i hm
    try dsimp only at hm
    change W _ _ _ _ _ _ _ [(3,(I6.is i)),(1,(tapi_Unit.ptr u))] []
    cases n15 with
    | zero=>rw [M.r06_words_loop1.eq_1] at hm;cases hm
    | succ n15=>
     rw [M.r06_words_loop1.eq_2] at hm
     refine W.seq<|Aw<|Am rfl rfl<|Ao rfl (.fieldAddr U27 rfl J25 fapi_Unit_5 (.t rfl))<|Ao rfl (.load ty25 (.t rfl))<|Ao rfl (.lenL U25 (.t rfl))<|Ao rfl (.ltI (.t rfl) (.t rfl))<|An<|W.cD hm (.t rfl) (fun hp17 hm=>?_) (fun hp17 hm=>?_)
     ·refine W.skip<|Aq<|W.seq<|W.block<|Aw<|Ao rfl (.fieldAddr U27 rfl J25 fapi_Unit_5 (.t rfl))<|Ao rfl (.load ty25 (.t rfl))<|WL.mv rfl rfl ?_
      obtain ⟨v1,hv18,hm⟩:=Bs hm
      refine Ao rfl (.idx hv18 U25 Z27 (.t rfl) (.t rfl))<|Ao rfl (.load ty27 (.t rfl)) ?_
      obtain ⟨words,hv19,hm⟩:=Bs hm
      refine Ao rfl (.call C26 (ih _ _ hv19) ⟨(.t rfl),trivial⟩)<|Ao rfl (.notB (.t rfl))<|An<|W.cR hm (.t rfl) (fun hp21 hm=>?_) (fun hp21 hm=>?_)
      ·refine Aw<|Ao rfl (.assign .bool)<|WL.ns ?_
       have hr22:=Si hm
       clear hm
       subst hr22
       have hm:=hk14
       try dsimp only at hm
       cases hm
       exact W.ret1 () rfl (.t rfl) trivial
      ·exact W.skip<|WN.block<|Aq<|W.region<|Am rfl rfl<|WL.lenL (s:=22) (.t rfl) fun hl23=>Ao rfl (.addI1 (.t rfl) .i64 hp17 hl23)<|Ag rfl rfl<|WL.nil<|WN.again n15 (i+1) (Nat.lt_succ_self n15) hm ⟨.q rfl,.q rfl,trivial⟩ trivial
     ·refine W.exit rfl ?_
      have hr24:=Si hm
      clear hm
      subst hr24
      have hm:=hk14
      try dsimp only at hm
      refine Aq<|Aw<|Ao rfl (.assign .bool)<|WL.ns ?_
      cases hm
      exact W.ret1 () rfl (.t rfl) trivial
  ·have hm:=hs2
   clear hs2
   refine W.region<|Ao rfl (.fieldAddr U27 rfl J9 fapi_Unit_2 (.t rfl))<|Ao rfl (.load ty9 (.t rfl))<|Ao rfl (.lenS U9 (.t rfl))<|Ao rfl (.gtI (.t rfl) .i64)<|WL.mv rfl rfl ?_
   rcases iteD hm with ⟨hp5,hb4,hm⟩ | ⟨hp5,hb4,hm⟩
   ·exact Ap rfl hb4<|Ap rfl hb4<|Ap rfl hb4<|Ap rfl hb4<|Ao rfl (.pickT (.t rfl) hb4 .bool)<|Am rfl rfl<|Ap rfl rfl<|Ap rfl rfl<|Ap rfl rfl<|Ap rfl rfl<|Ao rfl (.pickT (.t rfl) rfl .bool)<|WL.nil<|WN.meet true (Si hm) ⟨.q rfl,.q rfl,trivial⟩ trivial
   ·refine Ax rfl hb4 (.fieldAddr U27 rfl J24 fapi_Unit_3 (.t rfl))<|Ax rfl hb4 (.load ty24 (.t rfl)) ?_
    obtain ⟨short,hv6,hm⟩:=Bs hm
    refine Ax rfl hb4 (.call C46 (r06_short_spec _ _ _ hv6) ⟨(.t rfl),trivial⟩)<|Ax rfl hb4 (.notB (.t rfl))<|Ao rfl (.pickF (.t rfl) hb4 (.t rfl))<|WL.mv rfl rfl ?_
    rcases iteR hm with ⟨hp8,hb7,hm⟩ | ⟨hp8,hb7,hm⟩
    ·exact Ap rfl hb7<|Ap rfl hb7<|Ap rfl hb7<|Ap rfl hb7<|Ao rfl (.pickT (.t rfl) hb7 .bool)<|WL.nil<|WN.meet true (Si hm) ⟨.q rfl,.q rfl,trivial⟩ trivial
    ·refine Ax rfl hb7 (.fieldAddr U27 rfl J24 fapi_Unit_4 (.t rfl))<|Ax rfl hb7 (.load ty24 (.t rfl)) ?_
     obtain ⟨short1,hv9,hm⟩:=Bs hm
     exact Ax rfl hb7 (.call C46 (r06_short_spec _ _ _ hv9) ⟨(.t rfl),trivial⟩)<|Ax rfl hb7 (.notB (.t rfl))<|Ao rfl (.pickF (.t rfl) hb7 (.t rfl))<|WL.nil<|WN.meet (!short1) (Si hm) ⟨.q rfl,.q rfl,trivial⟩ trivial
theorem r06_Few_spec(n:Nat)(u:api_Unit)(most:Int)(r:Bool)(hm:M.r06_Few n u most=some r):FSpec Tryz.prog 14 [(tapi_Unit.is u),(I6.is most)] (tB.is r):=by
 unfold M.r06_Few at hm
 refine FSpec.of Tryz.func14 rfl rfl rfl fun g0=>Aw<|Ao rfl (.box (.t rfl))<|Ao rfl (.assign .bool)<|Ar<|Ao rfl (.load ty27 (.t rfl))<|WL.mv rfl rfl ?_
 obtain ⟨size,hv1,hm⟩:=Bs hm
 refine Ao rfl (.call C25 (r06_size_spec _ _ _ _ _ hv1) ⟨(.t rfl),.i64,(.t rfl),trivial⟩)<|Am rfl rfl<|Ao rfl (.leI (.t rfl) (.t rfl))<|WL.mv rfl rfl ?_
 rcases iteD hm with ⟨hp3,hb2,hm⟩ | ⟨hp3,hb2,hm⟩
 ·refine Ax rfl hb2 (.load ty27 (.t rfl)) ?_
  obtain ⟨words,hv4,hm⟩:=Bs hm
  refine Ax rfl hb2 (.call C26 (r06_words_spec _ _ _ hv4) ⟨(.t rfl),trivial⟩)<|Ao rfl (.pickT (.t rfl) hb2 (.t rfl))<|Ag rfl rfl<|WL.ns ?_
  cases hm
  exact W.ret1 () rfl (.t rfl) trivial
 ·refine Ap rfl hb2<|Ap rfl hb2<|Ao rfl (.pickF (.t rfl) hb2 .bool)<|Ag rfl rfl<|WL.ns ?_
  cases hm
  exact W.ret1 () rfl (.t rfl) trivial
theorem r06_Texts_spec(n:Nat)(l:List api_Word)(r:(List Str))(hm:M.r06_Texts n l=some r):FSpec Tryz.prog 19 [((tL tapi_Word).is l)] ((tL tS).is r):=by
 unfold M.r06_Texts at hm
 refine FSpec.of Tryz.func19 rfl rfl rfl fun g0=>Aw<|Ao rfl (.assign (.nil (t:=tS)))<|Ar<|WL.opR rfl (OpR.buildSlice (n:=0) (ys:=[]) (z:=([]:Str)) (xs:=([]:List Str)) 5 U55 el9 ze9 trivial (by simp) (by decide) rfl) fun k=>Ag rfl rfl<|An<|W.seq<|Aw<|Ao rfl (.assign .i64)<|An<|W.block ?_
 obtain ⟨s1,hs2,hk3⟩:=Bs hm
 clear hm
 refine W.loop (fun m (s:((List Str)×Int)×Tok)=>M.r06_Texts_loop1 l m s.1.1 s.1.2=some s1) (fun s=>[(3,(tO tS s.2 s.1.1)),(4,(I6.is s.1.2)),(0,((tL tapi_Word).is l))]) (fun s=>[(5,Dec.Own tS 9 s.2 s.1.1.length)]) _ ((([]:List Str),(0:Int)),k) hs2 ⟨.q rfl,.q rfl,.q rfl,trivial⟩ ⟨rfl,rfl,trivial⟩ ?_
 rintro n4 ⟨⟨out,i⟩,k1⟩ hm
 try dsimp only at hm
 change W _ _ _ _ _ _ _ [(3,(tO tS k1 out)),(4,(I6.is i)),(0,((tL tapi_Word).is l))] [(5,Dec.Own tS 9 k1 out.length)]
 cases n4 with
 | zero=>rw [M.r06_Texts_loop1.eq_1] at hm;cases hm
 | succ n4=>
  rw [M.r06_Texts_loop1.eq_2] at hm
  refine W.seq<|Aw<|Am rfl rfl<|Am rfl rfl<|Ao rfl (.lenL U24 (.t rfl))<|Ao rfl (.ltI (.t rfl) (.t rfl))<|An<|W.cD hm (.t rfl) (fun hp6 hm=>?_) (fun hp6 hm=>?_)
  ·refine W.skip<|Aq<|W.seq<|W.block<|W.region<|Am rfl rfl<|Am rfl rfl<|WL.mv rfl rfl ?_
   obtain ⟨v,hv7,hm⟩:=Bs hm
   refine Ao rfl (.idx hv7 U24 Z33 (.t rfl) (.t rfl))<|Ao rfl (.fieldAddr U33 rfl J9 fapi_Word_0 (.t rfl))<|Ao rfl (.load ty9 (.t rfl))<|Ao rfl (.buildSlice (n:=1) (ys:=[(0,v.Text)]) (z:=([]:Str)) (xs:=[v.Text]) U55 el9 ze9 ⟨rfl,(.t rfl),trivial⟩ (by simp) (by decide) rfl) ?_
   obtain ⟨out1,hv8,hm⟩:=Bs hm
   exact WL.opR rfl (OpR.appC (key:=5) hv8 U55 el9 (.t rfl) (.t rfl) rfl) fun k2=>Ag rfl rfl<|WL.nil<|WN.block<|Aq<|W.region<|Am rfl rfl<|WL.lenL (s:=0) (.t rfl) fun hl9=>Ao rfl (.addI1 (.t rfl) .i64 hp6 hl9)<|Ag rfl rfl<|WL.nil<|WN.again n4 ((out1,i+1),k2) (Nat.lt_succ_self n4) hm ⟨.q rfl,.q rfl,.q rfl,trivial⟩ ⟨rfl,rfl,trivial⟩
  ·refine W.exit rfl ?_
   have hr10:=Si hm
   clear hm
   subst hr10
   have hm:=hk3
   try dsimp only at hm
   refine Aq<|Aw<|Am rfl rfl<|Ag rfl rfl<|WL.ns ?_
   cases hm
   exact W.ret1 () rfl (Opd.own (.t rfl)) trivial
theorem r04_Word_spec(n:Nat)(s0_:Str)(r:Bool)(hm:M.r04_Word n s0_=some r):FSpec Tryz.prog 127 [(tS.is s0_)] (tB.is r):=by
 unfold M.r04_Word at hm
 refine FSpec.of Tryz.func127 rfl rfl rfl fun g0=>Aw<|Ao rfl (.assign .bool)<|An<|W.seq ?_
 obtain ⟨s1,hs2,hk3⟩:=Bs hm
 clear hm
 refine W.join (fun s:Bool=>s=s1) (fun s=>[(11,(tB.is s)),(0,(tS.is s0_))]) (fun s=>[]) ?_ ?_
 ·rintro v hj24
  try dsimp only at hj24
  subst hj24
  have hm:=hk3
  clear hk3
  try dsimp only at hm
  change W _ _ _ _ _ _ _ [(11,(tB.is v)),(0,(tS.is s0_))] []
  refine W.cB hm (.t rfl) (fun hp7 hm=>?_) (fun hp7 hm=>?_)
  ·refine Aw<|Ao rfl (.assign .bool)<|WL.ns ?_
   cases hm
   exact W.ret1 () rfl (.t rfl) trivial
  ·refine W.skip<|Aq<|W.seq<|Aw<|Ao rfl (.assign .i64)<|An<|W.block ?_
   obtain ⟨s8,hs9,hk10⟩:=Bs hm
   clear hm
   refine W.loop (fun m (s:Int)=>M.r04_Word_loop1 s0_ m s=some s8) (fun s=>[(3,(I6.is s)),(0,(tS.is s0_))]) (fun s=>[]) _ (0:Int) hs9 ⟨.q rfl,.q rfl,trivial⟩ trivial ?_
   rintro n11 i hm
   try dsimp only at hm
   change W _ _ _ _ _ _ _ [(3,(I6.is i)),(0,(tS.is s0_))] []
   cases n11 with
   | zero=>rw [M.r04_Word_loop1.eq_1] at hm;cases hm
   | succ n11=>
    rw [M.r04_Word_loop1.eq_2] at hm
    refine W.seq<|Aw<|Am rfl rfl<|Am rfl rfl<|Ao rfl (.lenS U9 (.t rfl))<|Ao rfl (.ltI (.t rfl) (.t rfl))<|An<|W.cD hm (.t rfl) (fun hp13 hm=>?_) (fun hp13 hm=>?_)
    ·refine W.skip<|Aq<|W.seq<|W.block<|Aw<|Am rfl rfl<|WL.mv rfl rfl ?_
     obtain ⟨b,hv14,hm⟩:=Bs hm
     refine Ao rfl (.sidx hv14 U9 (.t rfl) (.t rfl))<|Ao rfl (.ltI (.t rfl) (.int (inR8.2 (by omega))))<|WL.mv rfl rfl ?_
     rcases iteD hm with ⟨hp16,hb15,hm⟩ | ⟨hp16,hb15,hm⟩
     ·refine Ap rfl hb15<|Ap rfl hb15<|Ap rfl hb15<|Ap rfl hb15<|Ao rfl (.pickT (.t rfl) hb15 .bool)<|An<|W.condT (.t rfl)<|Aw<|Ao rfl (.assign .bool)<|WL.ns ?_
      have hr17:=Si hm
      clear hm
      subst hr17
      have hm:=hk10
      try dsimp only at hm
      cases hm
      exact W.ret1 () rfl (.t rfl) trivial
     ·refine Ax rfl hb15 (.move (.t rfl))<|Ax rfl hb15 (.move (.t rfl)) ?_
      obtain ⟨b1,hv18,hm⟩:=Bs hm
      refine Ax rfl hb15 (.sidx hv18 U9 (.t rfl) (.t rfl))<|Ax rfl hb15 (.gtI (.t rfl) (.int (inR8.2 (by omega))))<|Ao rfl (.pickF (.t rfl) hb15 (.t rfl))<|An<|W.cD hm (.t rfl) (fun hp20 hm=>?_) (fun hp20 hm=>?_)
      ·refine Aw<|Ao rfl (.assign .bool)<|WL.ns ?_
       have hr21:=Si hm
       clear hm
       subst hr21
       have hm:=hk10
       try dsimp only at hm
       cases hm
       exact W.ret1 () rfl (.t rfl) trivial
      ·exact W.skip<|WN.block<|Aq<|W.region<|Am rfl rfl<|WL.lenS (s:=0) (.t rfl) fun hl22=>Ao rfl (.addI1 (.t rfl) .i64 hp13 hl22)<|Ag rfl rfl<|WL.nil<|WN.again n11 (i+1) (Nat.lt_succ_self n11) hm ⟨.q rfl,.q rfl,trivial⟩ trivial
    ·refine W.exit rfl ?_
     have hr23:=Si hm
     clear hm
     subst hr23
     have hm:=hk10
     try dsimp only at hm
     refine Aq<|Aw<|Ao rfl (.assign .bool)<|WL.ns ?_
     cases hm
     exact W.ret1 () rfl (.t rfl) trivial
 ·have hm:=hs2
  clear hs2
  refine W.region<|Am rfl rfl<|Ao rfl (.lenS U9 (.t rfl))<|Ao rfl (.ltI (.t rfl) .i64)<|WL.mv rfl rfl ?_
  rcases iteD hm with ⟨hp5,hb4,hm⟩ | ⟨hp5,hb4,hm⟩
  ·exact Ap rfl hb4<|Ap rfl hb4<|Ap rfl hb4<|Ao rfl (.pickT (.t rfl) hb4 .bool)<|WL.nil<|WN.meet true (Si hm) ⟨.q rfl,.q rfl,trivial⟩ trivial
  ·exact Ax rfl hb4 (.move (.t rfl))<|Ax rfl hb4 (.lenS U9 (.t rfl))<|Ax rfl hb4 (.gtI (.t rfl) .i64)<|Ao rfl (.pickF (.t rfl) hb4 (.t rfl))<|WL.nil<|WN.meet (decide ((24:Int)< (s0_.length:Int))) (Si hm) ⟨.q rfl,.q rfl,trivial⟩ trivial
theorem r04_May_spec(n:Nat)(l:List Str)(r:Bool)(hm:M.r04_May n l=some r):FSpec Tryz.prog 118 [((tL tS).is l)] (tB.is r):=by
 unfold M.r04_May at hm
 refine FSpec.of Tryz.func118 rfl rfl rfl fun g0=>Aw<|Ao rfl (.assign .bool)<|An<|W.seq<|Aw<|Am rfl rfl<|Ao rfl (.lenL U55 (.t rfl))<|Ao rfl (.gtI (.t rfl) .i64)<|An<|W.cD hm (.t rfl) (fun hp2 hm=>?_) (fun hp2 hm=>?_)
 ·refine Aw<|Ao rfl (.assign .bool)<|WL.ns ?_
  cases hm
  exact W.ret1 () rfl (.t rfl) trivial
 ·refine W.skip<|Aq<|W.seq<|Aw<|Ao rfl (.assign .i64)<|An<|W.block ?_
  obtain ⟨s3,hs4,hk5⟩:=Bs hm
  clear hm
  refine W.loop (fun m (s:Int)=>M.r04_May_loop1 l m s=some s3) (fun s=>[(3,(I6.is s)),(0,((tL tS).is l))]) (fun s=>[]) _ (0:Int) hs4 ⟨.q rfl,.q rfl,trivial⟩ trivial ?_
  rintro n6 i hm
  try dsimp only at hm
  change W _ _ _ _ _ _ _ [(3,(I6.is i)),(0,((tL tS).is l))] []
  cases n6 with
  | zero=>rw [M.r04_May_loop1.eq_1] at hm;cases hm
  | succ n6=>
   rw [M.r04_May_loop1.eq_2] at hm
   refine W.seq<|Aw<|Am rfl rfl<|Am rfl rfl<|Ao rfl (.lenL U55 (.t rfl))<|Ao rfl (.ltI (.t rfl) (.t rfl))<|An<|W.cD hm (.t rfl) (fun hp8 hm=>?_) (fun hp8 hm=>?_)
   ·refine W.skip<|Aq<|W.seq<|W.block<|Aw<|Am rfl rfl<|WL.mv rfl rfl ?_
    obtain ⟨v,hv9,hm⟩:=Bs hm
    refine Ao rfl (.idx hv9 U55 Z9 (.t rfl) (.t rfl))<|Ao rfl (.load ty9 (.t rfl)) ?_
    obtain ⟨word,hv10,hm⟩:=Bs hm
    refine Ao rfl (.call C127 (r04_Word_spec _ _ _ hv10) ⟨(.t rfl),trivial⟩)<|Ao rfl (.notB (.t rfl))<|An<|W.cR hm (.t rfl) (fun hp12 hm=>?_) (fun hp12 hm=>?_)
    ·refine Aw<|Ao rfl (.assign .bool)<|WL.ns ?_
     have hr13:=Si hm
     clear hm
     subst hr13
     have hm:=hk5
     try dsimp only at hm
     cases hm
     exact W.ret1 () rfl (.t rfl) trivial
    ·exact W.skip<|WN.block<|Aq<|W.region<|Am rfl rfl<|WL.lenL (s:=0) (.t rfl) fun hl14=>Ao rfl (.addI1 (.t rfl) .i64 hp8 hl14)<|Ag rfl rfl<|WL.nil<|WN.again n6 (i+1) (Nat.lt_succ_self n6) hm ⟨.q rfl,.q rfl,trivial⟩ trivial
   ·refine W.exit rfl ?_
    have hr15:=Si hm
    clear hm
    subst hr15
    have hm:=hk5
    try dsimp only at hm
    refine Aq<|Aw<|Ao rfl (.assign .bool)<|WL.ns ?_
    cases hm
    exact W.ret1 () rfl (.t rfl) trivial
theorem r06_row_spec(n:Nat)(l:List api_Word)(r:Bool)(hm:M.r06_row n l=some r):FSpec Tryz.prog 103 [((tL tapi_Word).is l)] (tB.is r):=by
 unfold M.r06_row at hm
 refine FSpec.of Tryz.func103 rfl rfl rfl fun g0=>Aw<|Ao rfl (.assign .bool)<|Ar<|Am rfl rfl<|Ao rfl (.lenL U24 (.t rfl))<|Ao rfl (.leI (.t rfl) .i64)<|WL.mv rfl rfl ?_
 rcases iteD hm with ⟨hp2,hb1,hm⟩ | ⟨hp2,hb1,hm⟩
 ·refine Ax rfl hb1 (.move (.t rfl)) ?_
  obtain ⟨texts,hv3,hm⟩:=Bs hm
  refine Ax rfl hb1 (.call C19 (r06_Texts_spec _ _ _ hv3) ⟨(.t rfl),trivial⟩) ?_
  obtain ⟨may,hv4,hm⟩:=Bs hm
  refine Ax rfl hb1 (.call C118 (r04_May_spec _ _ _ hv4) ⟨(.t rfl),trivial⟩)<|Ao rfl (.pickT (.t rfl) hb1 (.t rfl))<|Ag rfl rfl<|WL.ns ?_
  cases hm
  exact W.ret1 () rfl (.t rfl) trivial
 ·refine Ap rfl hb1<|Ap rfl hb1<|Ap rfl hb1<|Ao rfl (.pickF (.t rfl) hb1 .bool)<|Ag rfl rfl<|WL.ns ?_
  cases hm
  exact W.ret1 () rfl (.t rfl) trivial
theorem r03_digits_spec(n:Nat)(s0_:Str)(r:Int)(hm:M.r03_digits n s0_=some r):FSpec Tryz.prog 90 [(tS.is s0_)] (I6.is r):=by
 unfold M.r03_digits at hm
 refine FSpec.of Tryz.func90 rfl rfl rfl fun g0=>Aw<|Ao rfl (.assign .i64)<|Ar<|Ao rfl (.assign .i64)<|An<|W.seq<|W.block ?_
 obtain ⟨s1,hs2,hk3⟩:=Bs hm
 clear hm
 refine W.loop (fun m (s:Int)=>M.r03_digits_loop1 s0_ m s=some s1) (fun s=>[(3,(I6.is s)),(0,(tS.is s0_))]) (fun s=>[]) _ (0:Int) hs2 ⟨.q rfl,.q rfl,trivial⟩ trivial ?_
 rintro n4 n0_ hm
 try dsimp only at hm
 change W _ _ _ _ _ _ _ [(3,(I6.is n0_)),(0,(tS.is s0_))] []
 cases n4 with
 | zero=>rw [M.r03_digits_loop1.eq_1] at hm;cases hm
 | succ n4=>
  rw [M.r03_digits_loop1.eq_2] at hm
  refine W.seq<|Aw<|Am rfl rfl<|Am rfl rfl<|Ao rfl (.lenS U9 (.t rfl))<|Ao rfl (.ltI (.t rfl) (.t rfl))<|WL.mv rfl rfl ?_
  rcases iteD hm with ⟨hp6,hb5,hm⟩ | ⟨hp6,hb5,hm⟩
  ·refine Ax rfl hb5 (.move (.t rfl))<|Ax rfl hb5 (.move (.t rfl)) ?_
   obtain ⟨b,hv7,hm⟩:=Bs hm
   refine Ax rfl hb5 (.sidx hv7 U9 (.t rfl) (.t rfl))<|Ax rfl hb5 (.geI (.t rfl) (.int (inR8.2 (by omega))))<|Ao rfl (.pickT (.t rfl) hb5 (.t rfl))<|WL.mv rfl rfl ?_
   rcases iteD hm with ⟨hp9,hb8,hm⟩ | ⟨hp9,hb8,hm⟩
   ·refine Ax rfl hb8 (.move (.t rfl))<|Ax rfl hb8 (.move (.t rfl)) ?_
    obtain ⟨b1,hv10,hm⟩:=Bs hm
    refine Ax rfl hb8 (.sidx hv10 U9 (.t rfl) (.t rfl))<|Ax rfl hb8 (.leI (.t rfl) (.int (inR8.2 (by omega))))<|Ao rfl (.pickT (.t rfl) hb8 (.t rfl))<|An<|W.cD hm (.t rfl) (fun hp12 hm=>?_) (fun hp12 hm=>?_)
    ·exact W.skip<|Aq<|W.block<|W.region<|Am rfl rfl<|WL.lenS (s:=0) (.t rfl) fun hl13=>Ao rfl (.addI1 (.t rfl) .i64 hp6 hl13)<|Ag rfl rfl<|WL.nil<|WN.block<|WN.again n4 (n0_+1) (Nat.lt_succ_self n4) hm ⟨.q rfl,.q rfl,trivial⟩ trivial
    ·refine W.exit rfl ?_
     have hr14:=Si hm
     clear hm
     subst hr14
     have hm:=hk3
     try dsimp only at hm
     refine Aq<|Aw<|Am rfl rfl<|Ag rfl rfl<|WL.ns ?_
     cases hm
     exact W.ret1 () rfl (.t rfl) trivial
   ·refine Ap rfl hb8<|Ap rfl hb8<|Ap rfl hb8<|Ap rfl hb8<|Ao rfl (.pickF (.t rfl) hb8 .bool)<|An<|W.condF (.t rfl)<|W.exit rfl ?_
    have hr15:=Si hm
    clear hm
    subst hr15
    have hm:=hk3
    try dsimp only at hm
    refine Aq<|Aw<|Am rfl rfl<|Ag rfl rfl<|WL.ns ?_
    cases hm
    exact W.ret1 () rfl (.t rfl) trivial
  ·refine Ap rfl hb5<|Ap rfl hb5<|Ap rfl hb5<|Ap rfl hb5<|Ao rfl (.pickF (.t rfl) hb5 .bool)<|Am rfl rfl<|Ap rfl rfl<|Ap rfl rfl<|Ap rfl rfl<|Ap rfl rfl<|Ao rfl (.pickF (.t rfl) rfl .bool)<|An<|W.condF (.t rfl)<|W.exit rfl ?_
   have hr16:=Si hm
   clear hm
   subst hr16
   have hm:=hk3
   try dsimp only at hm
   refine Aq<|Aw<|Am rfl rfl<|Ag rfl rfl<|WL.ns ?_
   cases hm
   exact W.ret1 () rfl (.t rfl) trivial
theorem r03_May_spec(n:Nat)(s0_:Str)(r:Bool)(hm:M.r03_May n s0_=some r):FSpec Tryz.prog 55 [(tS.is s0_)] (tB.is r):=by
 unfold M.r03_May at hm
 refine FSpec.of Tryz.func55 rfl rfl rfl fun g0=>Aw<|Ao rfl (.assign .bool)<|Ar<|WL.mv rfl rfl ?_
 obtain ⟨digits,hv1,hm⟩:=Bs hm
 refine Ao rfl (.call C90 (r03_digits_spec _ _ _ hv1) ⟨(.t rfl),trivial⟩)<|Ag rfl rfl<|An<|W.seq ?_
 obtain ⟨s2,hs3,hk4⟩:=Bs hm
 clear hm
 refine W.join (fun s:Bool=>s=s2) (fun s=>[(24,(tB.is s)),(0,(tS.is s0_)),(3,(I6.is digits))]) (fun s=>[]) ?_ ?_
 ·rintro v hj31
  try dsimp only at hj31
  subst hj31
  have hm:=hk4
  clear hk4
  try dsimp only at hm
  change W _ _ _ _ _ _ _ [(24,(tB.is v)),(0,(tS.is s0_)),(3,(I6.is digits))] []
  refine W.cB hm (.t rfl) (fun hp14 hm=>?_) (fun hp14 hm=>?_)
  ·refine Aw<|Ao rfl (.assign .bool)<|WL.ns ?_
   cases hm
   exact W.ret1 () rfl (.t rfl) trivial
  ·refine W.skip<|Aq<|W.seq<|Aw<|Am rfl rfl<|Ag rfl rfl<|An<|W.block ?_
   obtain ⟨s15,hs16,hk17⟩:=Bs hm
   clear hm
   refine W.loop (fun m (s:Int)=>M.r03_May_loop1 s0_ m s=some s15) (fun s=>[(4,(I6.is s)),(0,(tS.is s0_))]) (fun s=>[]) _ digits hs16 ⟨.q rfl,.q rfl,trivial⟩ trivial ?_
   rintro n18 i hm
   try dsimp only at hm
   change W _ _ _ _ _ _ _ [(4,(I6.is i)),(0,(tS.is s0_))] []
   cases n18 with
   | zero=>rw [M.r03_May_loop1.eq_1] at hm;cases hm
   | succ n18=>
    rw [M.r03_May_loop1.eq_2] at hm
    refine W.seq<|Aw<|Am rfl rfl<|Am rfl rfl<|Ao rfl (.lenS U9 (.t rfl))<|Ao rfl (.ltI (.t rfl) (.t rfl))<|An<|W.cD hm (.t rfl) (fun hp20 hm=>?_) (fun hp20 hm=>?_)
    ·refine W.skip<|Aq<|W.seq<|W.block<|Aw<|Am rfl rfl<|WL.mv rfl rfl ?_
     obtain ⟨b1,hv21,hm⟩:=Bs hm
     refine Ao rfl (.sidx hv21 U9 (.t rfl) (.t rfl))<|Ao rfl (.ltI (.t rfl) (.int (inR8.2 (by omega))))<|WL.mv rfl rfl ?_
     rcases iteD hm with ⟨hp23,hb22,hm⟩ | ⟨hp23,hb22,hm⟩
     ·refine Ap rfl hb22<|Ap rfl hb22<|Ap rfl hb22<|Ap rfl hb22<|Ao rfl (.pickT (.t rfl) hb22 .bool)<|An<|W.condT (.t rfl)<|Aw<|Ao rfl (.assign .bool)<|WL.ns ?_
      have hr24:=Si hm
      clear hm
      subst hr24
      have hm:=hk17
      try dsimp only at hm
      cases hm
      exact W.ret1 () rfl (.t rfl) trivial
     ·refine Ax rfl hb22 (.move (.t rfl))<|Ax rfl hb22 (.move (.t rfl)) ?_
      obtain ⟨b2,hv25,hm⟩:=Bs hm
      refine Ax rfl hb22 (.sidx hv25 U9 (.t rfl) (.t rfl))<|Ax rfl hb22 (.gtI (.t rfl) (.int (inR8.2 (by omega))))<|Ao rfl (.pickF (.t rfl) hb22 (.t rfl))<|An<|W.cD hm (.t rfl) (fun hp27 hm=>?_) (fun hp27 hm=>?_)
      ·refine Aw<|Ao rfl (.assign .bool)<|WL.ns ?_
       have hr28:=Si hm
       clear hm
       subst hr28
       have hm:=hk17
       try dsimp only at hm
       cases hm
       exact W.ret1 () rfl (.t rfl) trivial
      ·exact W.skip<|WN.block<|Aq<|W.region<|Am rfl rfl<|WL.lenS (s:=0) (.t rfl) fun hl29=>Ao rfl (.addI1 (.t rfl) .i64 hp20 hl29)<|Ag rfl rfl<|WL.nil<|WN.again n18 (i+1) (Nat.lt_succ_self n18) hm ⟨.q rfl,.q rfl,trivial⟩ trivial
    ·refine W.exit rfl ?_
     have hr30:=Si hm
     clear hm
     subst hr30
     have hm:=hk17
     try dsimp only at hm
     refine Aq<|Aw<|Ao rfl (.assign .bool)<|WL.ns ?_
     cases hm
     exact W.ret1 () rfl (.t rfl) trivial
 ·have hm:=hs3
  clear hs3
  refine W.region<|Am rfl rfl<|Ao rfl (.ltI (.t rfl) .i64)<|WL.mv rfl rfl ?_
  rcases iteD hm with ⟨hp6,hb5,hm⟩ | ⟨hp6,hb5,hm⟩
  ·refine Ap rfl hb5<|Ap rfl hb5<|Ao rfl (.pickT (.t rfl) hb5 .bool)<|Am rfl rfl<|Ap rfl rfl<|Ap rfl rfl<|Ap rfl rfl<|Ao rfl (.pickT (.t rfl) rfl .bool)<|Am rfl rfl<|Ap rfl rfl<|Ap rfl rfl<|Ap rfl rfl<|Ap rfl rfl<|Ap rfl rfl<|Ao rfl (.pickT (.t rfl) rfl .bool)<|WL.nil ?_
   exact WN.meet true (Si hm) ⟨.q rfl,.q rfl,.q rfl,trivial⟩ trivial
  ·refine Ax rfl hb5 (.move (.t rfl))<|Ax rfl hb5 (.gtI (.t rfl) .i64)<|Ao rfl (.pickF (.t rfl) hb5 (.t rfl))<|WL.mv rfl rfl ?_
   rcases iteD hm with ⟨hp8,hb7,hm⟩ | ⟨hp8,hb7,hm⟩
   ·exact Ap rfl hb7<|Ap rfl hb7<|Ap rfl hb7<|Ao rfl (.pickT (.t rfl) hb7 .bool)<|Am rfl rfl<|Ap rfl rfl<|Ap rfl rfl<|Ap rfl rfl<|Ap rfl rfl<|Ap rfl rfl<|Ao rfl (.pickT (.t rfl) rfl .bool)<|WL.nil<|WN.meet true (Si hm) ⟨.q rfl,.q rfl,.q rfl,trivial⟩ trivial
   ·refine Ax rfl hb7 (.move (.t rfl)) ?_
    obtain ⟨b,hv9,hm⟩:=Bs hm
    refine Ax rfl hb7 (.sidx hv9 U9 (.t rfl) .i64)<|Ax rfl hb7 (.eqI (.t rfl) (.int (inR8.2 (by omega))))<|Ao rfl (.pickF (.t rfl) hb7 (.t rfl))<|WL.mv rfl rfl ?_
    rcases iteD hm with ⟨hp11,hb10,hm⟩ | ⟨hp11,hb10,hm⟩
    ·exact Ap rfl hb10<|Ap rfl hb10<|Ap rfl hb10<|Ap rfl hb10<|Ap rfl hb10<|Ao rfl (.pickT (.t rfl) hb10 .bool)<|WL.nil<|WN.meet true (Si hm) ⟨.q rfl,.q rfl,.q rfl,trivial⟩ trivial
    ·refine Ax rfl hb10 (.move (.t rfl))<|Ax rfl hb10 (.lenS U9 (.t rfl))<|Ax rfl hb10 (.move (.t rfl)) ?_
     obtain ⟨v1,hv12,hm⟩:=Bs hm
     exact Ax rfl hb10 (.subC hv12 (.t rfl) (.t rfl))<|Ax rfl hb10 (.gtI (.t rfl) .i64)<|Ao rfl (.pickF (.t rfl) hb10 (.t rfl))<|WL.nil<|WN.meet (decide ((3:Int)< v1)) (Si hm) ⟨.q rfl,.q rfl,.q rfl,trivial⟩ trivial
theorem r06_alone_spec(n:Nat)(u:api_Unit)(r:Bool)(hm:M.r06_alone n u=some r):FSpec Tryz.prog 77 [(tapi_Unit.is u)] (tB.is r):=by
 unfold M.r06_alone at hm
 refine FSpec.of Tryz.func77 rfl rfl rfl fun g0=>Aw<|Ao rfl (.box (.t rfl))<|Ao rfl (.assign .bool)<|An<|W.seq ?_
 obtain ⟨s1,hs2,hk3⟩:=Bs hm
 clear hm
 refine W.join (fun s:Bool=>s=s1) (fun s=>[(28,(tB.is s)),(1,(tapi_Unit.ptr u))]) (fun s=>[]) ?_ ?_
 ·rintro v hj27
  try dsimp only at hj27
  subst hj27
  have hm:=hk3
  clear hk3
  try dsimp only at hm
  change W _ _ _ _ _ _ _ [(28,(tB.is v)),(1,(tapi_Unit.ptr u))] []
  refine W.cB hm (.t rfl) (fun hp15 hm=>?_) (fun hp15 hm=>?_)
  ·refine Aw<|Ao rfl (.assign .bool)<|WL.ns ?_
   cases hm
   exact W.ret1 () rfl (.t rfl) trivial
  ·refine W.skip<|Aq<|W.seq<|Aw<|Ao rfl (.fieldAddr U27 rfl J3 fapi_Unit_1 (.t rfl))<|Ao rfl (.load ty3 (.t rfl))<|Ao rfl (.eqI (.t rfl) .i64)<|An<|W.cD hm (.t rfl) (fun hp17 hm=>?_) (fun hp17 hm=>?_)
   ·obtain ⟨s18,hs19,hk20⟩:=Bs hm
    clear hm
    refine W.join (fun s:Bool=>s=s18) (fun s=>[(2,(tB.is s))]) (fun s=>[]) ?_ ?_
    ·rintro v1 hj25
     try dsimp only at hj25
     subst hj25
     have hm:=hk20
     clear hk20
     try dsimp only at hm
     change W _ _ _ _ _ _ _ [(2,(tB.is v1))] []
     cases hm
     exact W.ret1 () rfl (.t rfl) trivial
    ·have hm:=hs19
     clear hs19
     refine W.region<|Ao rfl (.fieldAddr U27 rfl J9 fapi_Unit_2 (.t rfl))<|Ao rfl (.load ty9 (.t rfl))<|Ao rfl (.eqS (.t rfl) (.str rfl (by decide)))<|WL.mv rfl rfl ?_
     rcases iteB hm with ⟨hp22,hb21,hm⟩ | ⟨hp22,hb21,hm⟩
     ·refine Ax rfl hb21 (.fieldAddr U27 rfl J24 fapi_Unit_3 (.t rfl))<|Ax rfl hb21 (.load ty24 (.t rfl))<|Ax rfl hb21 (.lenL U24 (.t rfl))<|Ax rfl hb21 (.eqI (.t rfl) .i64)<|Ao rfl (.pickT (.t rfl) hb21 (.t rfl))<|WL.mv rfl rfl ?_
      rcases iteD hm with ⟨hp24,hb23,hm⟩ | ⟨hp24,hb23,hm⟩
      ·exact Ax rfl hb23 (.fieldAddr U27 rfl J24 fapi_Unit_4 (.t rfl))<|Ax rfl hb23 (.load ty24 (.t rfl))<|Ax rfl hb23 (.lenL U24 (.t rfl))<|Ax rfl hb23 (.eqI (.t rfl) .i64)<|Ao rfl (.pickT (.t rfl) hb23 (.t rfl))<|Ag rfl rfl<|WL.nil<|WN.meet (decide ((u.Words.length:Int)=(0:Int))) (Si hm) ⟨.q rfl,trivial⟩ trivial
      ·exact Ap rfl hb23<|Ap rfl hb23<|Ap rfl hb23<|Ap rfl hb23<|Ao rfl (.pickF (.t rfl) hb23 .bool)<|Ag rfl rfl<|WL.nil<|WN.meet false (Si hm) ⟨.q rfl,trivial⟩ trivial
     ·exact Ap rfl hb21<|Ap rfl hb21<|Ap rfl hb21<|Ap rfl hb21<|Ao rfl (.pickF (.t rfl) hb21 .bool)<|Am rfl rfl<|Ap rfl rfl<|Ap rfl rfl<|Ap rfl rfl<|Ap rfl rfl<|Ao rfl (.pickF (.t rfl) rfl .bool)<|Ag rfl rfl<|WL.nil<|WN.meet false (Si hm) ⟨.q rfl,trivial⟩ trivial
   ·refine W.skip<|Aq<|Aw<|Ao rfl (.fieldAddr U27 rfl J9 fapi_Unit_2 (.t rfl))<|Ao rfl (.load ty9 (.t rfl)) ?_
    obtain ⟨may,hv26,hm⟩:=Bs hm
    refine Ao rfl (.call C55 (r03_May_spec _ _ _ hv26) ⟨(.t rfl),trivial⟩)<|Ag rfl rfl<|WL.ns ?_
    cases hm
    exact W.ret1 () rfl (.t rfl) trivial
 ·have hm:=hs2
  clear hs2
  refine W.region<|Ao rfl (.fieldAddr U27 rfl J3 fapi_Unit_1 (.t rfl))<|Ao rfl (.load ty3 (.t rfl))<|Ao rfl (.ltI (.t rfl) .i64)<|WL.mv rfl rfl ?_
  rcases iteD hm with ⟨hp5,hb4,hm⟩ | ⟨hp5,hb4,hm⟩
  ·refine Ap rfl hb4<|Ap rfl hb4<|Ap rfl hb4<|Ao rfl (.pickT (.t rfl) hb4 .bool)<|Am rfl rfl<|Ap rfl rfl<|Ap rfl rfl<|Ap rfl rfl<|Ap rfl rfl<|Ao rfl (.pickT (.t rfl) rfl .bool)<|Am rfl rfl<|Ap rfl rfl<|Ap rfl rfl<|Ap rfl rfl<|Ap rfl rfl<|Ao rfl (.pickT (.t rfl) rfl .bool) ?_
   exact Am rfl rfl<|Ap rfl rfl<|Ap rfl rfl<|Ap rfl rfl<|Ap rfl rfl<|Ao rfl (.pickT (.t rfl) rfl .bool)<|WL.nil<|WN.meet true (Si hm) ⟨.q rfl,.q rfl,trivial⟩ trivial
  ·refine Ax rfl hb4 (.fieldAddr U27 rfl J3 fapi_Unit_1 (.t rfl))<|Ax rfl hb4 (.load ty3 (.t rfl))<|Ax rfl hb4 (.gtI (.t rfl) .i64)<|Ao rfl (.pickF (.t rfl) hb4 (.t rfl))<|WL.mv rfl rfl ?_
   rcases iteD hm with ⟨hp7,hb6,hm⟩ | ⟨hp7,hb6,hm⟩
   ·refine Ap rfl hb6<|Ap rfl hb6<|Ap rfl hb6<|Ap rfl hb6<|Ao rfl (.pickT (.t rfl) hb6 .bool)<|Am rfl rfl<|Ap rfl rfl<|Ap rfl rfl<|Ap rfl rfl<|Ap rfl rfl<|Ao rfl (.pickT (.t rfl) rfl .bool)<|Am rfl rfl<|Ap rfl rfl<|Ap rfl rfl<|Ap rfl rfl<|Ap rfl rfl ?_
    exact Ao rfl (.pickT (.t rfl) rfl .bool)<|WL.nil<|WN.meet true (Si hm) ⟨.q rfl,.q rfl,trivial⟩ trivial
   ·refine Ax rfl hb6 (.fieldAddr U27 rfl J25 fapi_Unit_5 (.t rfl))<|Ax rfl hb6 (.load ty25 (.t rfl))<|Ax rfl hb6 (.lenL U25 (.t rfl))<|Ax rfl hb6 (.gtI (.t rfl) .i64)<|Ao rfl (.pickF (.t rfl) hb6 (.t rfl))<|WL.mv rfl rfl ?_
    rcases iteD hm with ⟨hp9,hb8,hm⟩ | ⟨hp9,hb8,hm⟩
    ·exact Ap rfl hb8<|Ap rfl hb8<|Ap rfl hb8<|Ap rfl hb8<|Ao rfl (.pickT (.t rfl) hb8 .bool)<|Am rfl rfl<|Ap rfl rfl<|Ap rfl rfl<|Ap rfl rfl<|Ap rfl rfl<|Ao rfl (.pickT (.t rfl) rfl .bool)<|WL.nil<|WN.meet true (Si hm) ⟨.q rfl,.q rfl,trivial⟩ trivial
    ·refine Ax rfl hb8 (.fieldAddr U27 rfl J24 fapi_Unit_3 (.t rfl))<|Ax rfl hb8 (.load ty24 (.t rfl)) ?_
     obtain ⟨row,hv10,hm⟩:=Bs hm
     refine Ax rfl hb8 (.call C103 (r06_row_spec _ _ _ hv10) ⟨(.t rfl),trivial⟩)<|Ax rfl hb8 (.notB (.t rfl))<|Ao rfl (.pickF (.t rfl) hb8 (.t rfl))<|WL.mv rfl rfl ?_
     rcases iteR hm with ⟨hp12,hb11,hm⟩ | ⟨hp12,hb11,hm⟩
     ·exact Ap rfl hb11<|Ap rfl hb11<|Ap rfl hb11<|Ap rfl hb11<|Ao rfl (.pickT (.t rfl) hb11 .bool)<|WL.nil<|WN.meet true (Si hm) ⟨.q rfl,.q rfl,trivial⟩ trivial
     ·refine Ax rfl hb11 (.fieldAddr U27 rfl J24 fapi_Unit_4 (.t rfl))<|Ax rfl hb11 (.load ty24 (.t rfl)) ?_
      obtain ⟨row1,hv13,hm⟩:=Bs hm
      exact Ax rfl hb11 (.call C103 (r06_row_spec _ _ _ hv13) ⟨(.t rfl),trivial⟩)<|Ax rfl hb11 (.notB (.t rfl))<|Ao rfl (.pickF (.t rfl) hb11 (.t rfl))<|WL.nil<|WN.meet (!row1) (Si hm) ⟨.q rfl,.q rfl,trivial⟩ trivial
theorem r06_Nests_spec(parent:Int)(kind:Int)(r:Bool)(hm:M.r06_Nests parent kind=some r):FSpec Tryz.prog 78 [(I6.is parent),(I6.is kind)] (tB.is r):=by
 unfold M.r06_Nests at hm
 refine FSpec.of Tryz.func78 rfl rfl rfl fun g0=>Aw<|Ao rfl (.assign .bool)<|An<|W.seq<|Aw<|Am rfl rfl<|An<|W.block<|Aw<|Ao rfl (.eqI (.t rfl) .i64)<|Ag rfl rfl<|An<|W.cD hm (.t rfl) (fun hp2 hm=>?_) (fun hp2 hm=>?_)
 ·refine Aw<|Am rfl rfl<|Ao rfl (.eqI (.t rfl) .i64)<|WL.mv rfl rfl ?_
  rcases iteD hm with ⟨hp4,hb3,hm⟩ | ⟨hp4,hb3,hm⟩
  ·refine Ap rfl hb3<|Ap rfl hb3<|Ao rfl (.pickT (.t rfl) hb3 .bool)<|Ag rfl rfl<|WL.ns ?_
   cases hm
   exact W.ret1 () rfl (.t rfl) trivial
  ·refine Ax rfl hb3 (.move (.t rfl))<|Ax rfl hb3 (.eqI (.t rfl) .i64)<|Ao rfl (.pickF (.t rfl) hb3 (.t rfl))<|Ag rfl rfl<|WL.ns ?_
   cases hm
   exact W.ret1 () rfl (.t rfl) trivial
 ·refine Aw<|Ao rfl (.eqI (.t rfl) .i64)<|Ag rfl rfl<|An<|W.cD hm (.t rfl) (fun hp6 hm=>?_) (fun hp6 hm=>?_)
  ·refine Aw<|Am rfl rfl<|Ao rfl (.eqI (.t rfl) .i64)<|Ag rfl rfl<|WL.ns ?_
   cases hm
   exact W.ret1 () rfl (.t rfl) trivial
  ·obtain ⟨s7,hs8,hk9⟩:=Bs hm
   clear hm
   refine W.join (fun s:Bool=>s=s7) (fun s=>[(18,(tB.is s)),(1,(I6.is kind)),(5,(I6.is parent))]) (fun s=>[]) ?_ ?_
   ·rintro v hj22
    try dsimp only at hj22
    subst hj22
    have hm:=hk9
    clear hk9
    try dsimp only at hm
    change W _ _ _ _ _ _ _ [(18,(tB.is v)),(1,(I6.is kind)),(5,(I6.is parent))] []
    refine W.cB hm (.t rfl) (fun hp13 hm=>?_) (fun hp13 hm=>?_)
    ·refine Aw<|Am rfl rfl<|Ao rfl (.eqI (.t rfl) .i64)<|WL.mv rfl rfl ?_
     rcases iteD hm with ⟨hp15,hb14,hm⟩ | ⟨hp15,hb14,hm⟩
     ·refine Ap rfl hb14<|Ap rfl hb14<|Ao rfl (.pickT (.t rfl) hb14 .bool)<|Am rfl rfl<|Ap rfl rfl<|Ap rfl rfl<|Ao rfl (.pickT (.t rfl) rfl .bool)<|Ag rfl rfl<|WL.ns ?_
      cases hm
      exact W.ret1 () rfl (.t rfl) trivial
     ·refine Ax rfl hb14 (.move (.t rfl))<|Ax rfl hb14 (.eqI (.t rfl) .i64)<|Ao rfl (.pickF (.t rfl) hb14 (.t rfl))<|WL.mv rfl rfl ?_
      rcases iteD hm with ⟨hp17,hb16,hm⟩ | ⟨hp17,hb16,hm⟩
      ·refine Ap rfl hb16<|Ap rfl hb16<|Ao rfl (.pickT (.t rfl) hb16 .bool)<|Ag rfl rfl<|WL.ns ?_
       cases hm
       exact W.ret1 () rfl (.t rfl) trivial
      ·refine Ax rfl hb16 (.move (.t rfl))<|Ax rfl hb16 (.eqI (.t rfl) .i64)<|Ao rfl (.pickF (.t rfl) hb16 (.t rfl))<|Ag rfl rfl<|WL.ns ?_
       cases hm
       exact W.ret1 () rfl (.t rfl) trivial
    ·refine Aw<|Ao rfl (.eqI (.t rfl) .i64)<|Ag rfl rfl<|An<|W.cD hm (.t rfl) (fun hp19 hm=>?_) (fun hp19 hm=>?_)
     ·refine Aw<|Am rfl rfl<|Ao rfl (.eqI (.t rfl) .i64)<|Ag rfl rfl<|WL.ns ?_
      cases hm
      exact W.ret1 () rfl (.t rfl) trivial
     ·refine Aw<|Ao rfl (.eqI (.t rfl) .i64)<|Ag rfl rfl<|An<|W.cD hm (.t rfl) (fun hp21 hm=>?_) (fun hp21 hm=>?_)
      ·refine Aw<|Am rfl rfl<|Ao rfl (.eqI (.t rfl) .i64)<|Ag rfl rfl<|WL.ns ?_
       cases hm
       exact W.ret1 () rfl (.t rfl) trivial
      ·refine W.skip<|WN.block<|Aq<|Aw<|Ao rfl (.assign .bool)<|WL.ns ?_
       cases hm
       exact W.ret1 () rfl (.t rfl) trivial
   ·have hm:=hs8
    clear hs8
    refine Aw<|Ao rfl (.eqI (.t rfl) .i64)<|Ag rfl rfl<|An<|W.cD hm (.t rfl) (fun hp11 hm=>?_) (fun hp11 hm=>?_)
    ·exact W.skip<|WN.meet (decide (parent=(2:Int))) (Si hm) ⟨.q rfl,.q rfl,.q rfl,trivial⟩ trivial
    ·exact W.region<|Ao rfl (.eqI (.t rfl) .i64)<|Ag rfl rfl<|WL.nil<|WN.meet (decide (parent=(3:Int))) (Si hm) ⟨.q rfl,.q rfl,.q rfl,trivial⟩ trivial
theorem r06_Right_spec:∀ (n:Nat) (u:api_Unit) (r:Bool),M.r06_Right n u=some r→FSpec Tryz.prog 47 [(tapi_Unit.is u)] (tB.is r):=by
 intro n
 induction n with
 | zero=>intro u r hm;cases hm
 | succ n ih=>
  intro u r hm
  rw [M.r06_Right.eq_2] at hm
  refine FSpec.of Tryz.func47 rfl rfl rfl fun g0=>Aw<|Ao rfl (.box (.t rfl))<|Ao rfl (.assign .bool)<|An<|W.seq<|Aw<|Ao rfl (.load ty27 (.t rfl)) ?_
  obtain ⟨alone,hv1,hm⟩:=Bs hm
  refine Ao rfl (.call C77 (r06_alone_spec _ _ _ hv1) ⟨(.t rfl),trivial⟩)<|Ao rfl (.notB (.t rfl))<|An<|W.cR hm (.t rfl) (fun hp3 hm=>?_) (fun hp3 hm=>?_)
  ·refine Aw<|Ao rfl (.assign .bool)<|WL.ns ?_
   cases hm
   exact W.ret1 () rfl (.t rfl) trivial
  ·refine W.skip<|Aq<|W.seq<|Aw<|Ao rfl (.assign .i64)<|An<|W.block ?_
   obtain ⟨s4,hs5,hk6⟩:=Bs hm
   clear hm
   refine W.loop (fun m (s:Int)=>M.r06_Right_loop1 u (M.r06_Right n) m s=some s4) (fun s=>[(3,(I6.is s)),(1,(tapi_Unit.ptr u))]) (fun s=>[]) _ (0:Int) hs5 ⟨.q rfl,.q rfl,trivial⟩ trivial ?_
   rintro n7 i hm
   try dsimp only at hm
   change W _ _ _ _ _ _ _ [(3,(I6.is i)),(1,(tapi_Unit.ptr u))] []
   cases n7 with
   | zero=>rw [M.r06_Right_loop1.eq_1] at hm;cases hm
   | succ n7=>
    rw [M.r06_Right_loop1.eq_2] at hm
    refine W.seq<|Aw<|Am rfl rfl<|Ao rfl (.fieldAddr U27 rfl J25 fapi_Unit_5 (.t rfl))<|Ao rfl (.load ty25 (.t rfl))<|Ao rfl (.lenL U25 (.t rfl))<|Ao rfl (.ltI (.t rfl) (.t rfl))<|An<|W.cD hm (.t rfl) (fun hp9 hm=>?_) (fun hp9 hm=>?_)
    ·refine W.skip<|Aq<|W.seq<|W.block<|W.seq<|W.seq ?_
     obtain ⟨v,hv10,hm⟩:=Bs hm
     obtain ⟨nests,hv11,hm⟩:=Bs hm
     rcases iteR hm with ⟨hp13,hb12,hm⟩ | ⟨hp13,hb12,hm⟩
     ·refine W.draw [.c _,.c _,.c _,.c _,.c _,.c _,.c _,.c _,.c _,.c _,.c _,.c _,.c _,.c _,.c _,.c _,.c _,.c _,.c _] [([],[1]),([0],[]),([],[1]),([2],[]),([],[3]),([3,4],[]),([5],[]),([6],[]),([1,7],[]),([8],[]),([9],[]),([10],[1]),([10,11],[]),([10],[3]),([10,12,13],[]),([10,14],[]),([10,15],[]),([10,16],[]),([10,17],[])] Mx rfl rfl rfl rfl ⟨Dn (.fieldAddr U27 rfl J3 fapi_Unit_1 (.t rfl)),Dn (.load ty3 (.t rfl)),Dn (.fieldAddr U27 rfl J25 fapi_Unit_5 (.t rfl)),Dn (.load ty25 (.t rfl)),Dn (.move (.t rfl)),Dn (.idx hv10 U25 Z27 (.t rfl) (.t rfl)),Dn (.fieldAddr U27 rfl J3 fapi_Unit_1 (.t rfl)),Dn (.load ty3 (.t rfl)),Dn (.call C78 (r06_Nests_spec _ _ _ hv11) ⟨(.t rfl),(.t rfl),trivial⟩),Dn (.notB (.t rfl)),Dn (.move (.t rfl)),Dp rfl hb12,Dp rfl hb12,Dp rfl hb12,Dp rfl hb12,Dp rfl hb12,Dp rfl hb12,Dp rfl hb12,Dn (.pickT (.t rfl) hb12 .bool),trivial⟩<|Aq<|W.condT (.t rfl)<|Aw<|Ao rfl (.assign .bool)<|WL.ns ?_
      have hr14:=Si hm
      clear hm
      subst hr14
      have hm:=hk6
      try dsimp only at hm
      cases hm
      exact W.ret1 () rfl (.t rfl) trivial
     ·obtain ⟨v1,hv15,hm⟩:=Bs hm
      obtain ⟨right,hv16,hm⟩:=Bs hm
      refine W.draw [.c _,.c _,.c _,.c _,.c _,.c _,.c _,.c _,.c _,.c _,.c _,.c _,.c _,.c _,.c _,.c _,.c _,.c _,.c _] [([],[1]),([0],[]),([],[1]),([2],[]),([],[3]),([3,4],[]),([5],[]),([6],[]),([1,7],[]),([8],[]),([9],[]),([10],[1]),([10,11],[]),([10],[3]),([10,12,13],[]),([10,14],[]),([10,15],[]),([10,16],[]),([10,17],[])] Mx rfl rfl rfl rfl ⟨Dn (.fieldAddr U27 rfl J3 fapi_Unit_1 (.t rfl)),Dn (.load ty3 (.t rfl)),Dn (.fieldAddr U27 rfl J25 fapi_Unit_5 (.t rfl)),Dn (.load ty25 (.t rfl)),Dn (.move (.t rfl)),Dn (.idx hv10 U25 Z27 (.t rfl) (.t rfl)),Dn (.fieldAddr U27 rfl J3 fapi_Unit_1 (.t rfl)),Dn (.load ty3 (.t rfl)),Dn (.call C78 (r06_Nests_spec _ _ _ hv11) ⟨(.t rfl),(.t rfl),trivial⟩),Dn (.notB (.t rfl)),Dn (.move (.t rfl)),Dr rfl hb12 (.fieldAddr U27 rfl J25 fapi_Unit_5 (.t rfl)),Dr rfl hb12 (.load ty25 (.t rfl)),Dr rfl hb12 (.move (.t rfl)),Dr rfl hb12 (.idx hv15 U25 Z27 (.t rfl) (.t rfl)),Dr rfl hb12 (.load ty27 (.t rfl)),Dr rfl hb12 (.call C47 (ih _ _ hv16) ⟨(.t rfl),trivial⟩),Dr rfl hb12 (.notB (.t rfl)),Dn (.pickF (.t rfl) hb12 (.t rfl)),trivial⟩<|Aq<|W.cR hm (.t rfl) (fun hp18 hm=>?_) (fun hp18 hm=>?_)
      ·refine Aw<|Ao rfl (.assign .bool)<|WL.ns ?_
       have hr19:=Si hm
       clear hm
       subst hr19
       have hm:=hk6
       try dsimp only at hm
       cases hm
       exact W.ret1 () rfl (.t rfl) trivial
      ·refine W.skip<|Aq<|Aw<|Ao rfl (.assign .i64)<|An<|W.block ?_
       obtain ⟨s20,hs21,hk22⟩:=Bs hm
       clear hm
       refine W.loop (fun m (s:Int)=>M.r06_Right_loop2 u i m s=some s20) (fun s=>[(4,(I6.is s)),(1,(tapi_Unit.ptr u)),(3,(I6.is i))]) (fun s=>[]) _ (0:Int) hs21 ⟨.q rfl,.q rfl,.q rfl,trivial⟩ trivial ?_
       rintro n23 k hm
       try dsimp only at hm
       change W _ _ _ _ _ _ _ [(4,(I6.is k)),(1,(tapi_Unit.ptr u)),(3,(I6.is i))] []
       cases n23 with
       | zero=>rw [M.r06_Right_loop2.eq_1] at hm;cases hm
       | succ n23=>
        rw [M.r06_Right_loop2.eq_2] at hm
        refine W.seq<|Aw<|Am rfl rfl<|Am rfl rfl<|Ao rfl (.ltI (.t rfl) (.t rfl))<|An<|W.cD hm (.t rfl) (fun hp25 hm=>?_) (fun hp25 hm=>?_)
        ·refine W.skip<|Aq<|W.seq<|W.block<|W.seq ?_
         obtain ⟨v2,hv26,hm⟩:=Bs hm
         obtain ⟨v3,hv27,hm⟩:=Bs hm
         rcases iteD hm with ⟨hp29,hb28,hm⟩ | ⟨hp29,hb28,hm⟩
         ·obtain ⟨v4,hv30,hm⟩:=Bs hm
          obtain ⟨v5,hv31,hm⟩:=Bs hm
          refine W.draw [.c _,.c _,.c _,.c _,.c _,.c _,.c _,.c _,.c _,.c _,.c _,.c _,.c _,.c _,.c _,.c _,.c _,.c _,.c _,.c _,.c _,.c _,.c _,.c _,.c _,.c _,.c _,.c _] [([],[1]),([0],[]),([],[4]),([1,2],[]),([3],[]),([4],[]),([],[1]),([6],[]),([],[3]),([7,8],[]),([9],[]),([10],[]),([5,11],[]),([12],[]),([13],[1]),([13,14],[]),([13],[4]),([13,15,16],[]),([13,17],[]),([13,18],[]),([13],[1]),([13,20],[]),([13],[3]),([13,21,22],[]),([13,23],[]),([13,24],[]),([13,19,25],[]),([13,26],[])] Mx rfl rfl rfl rfl (by exact ⟨Dn (.fieldAddr U27 rfl J25 fapi_Unit_5 (.t rfl)),Dn (.load ty25 (.t rfl)),Dn (.move (.t rfl)),Dn (.idx hv26 U25 Z27 (.t rfl) (.t rfl)),Dn (.fieldAddr U27 rfl J3 fapi_Unit_1 (.t rfl)),Dn (.load ty3 (.t rfl)),Dn (.fieldAddr U27 rfl J25 fapi_Unit_5 (.t rfl)),Dn (.load ty25 (.t rfl)),Dn (.move (.t rfl)),Dn (.idx hv27 U25 Z27 (.t rfl) (.t rfl)),Dn (.fieldAddr U27 rfl J3 fapi_Unit_1 (.t rfl)),Dn (.load ty3 (.t rfl)),Dn (.eqI (.t rfl) (.t rfl)),Dn (.move (.t rfl)),Dr rfl hb28 (.fieldAddr U27 rfl J25 fapi_Unit_5 (.t rfl)),Dr rfl hb28 (.load ty25 (.t rfl)),Dr rfl hb28 (.move (.t rfl)),Dr rfl hb28 (.idx hv30 U25 Z27 (.t rfl) (.t rfl)),Dr rfl hb28 (.fieldAddr U27 rfl J9 fapi_Unit_2 (.t rfl)),Dr rfl hb28 (.load ty9 (.t rfl)),Dr rfl hb28 (.fieldAddr U27 rfl J25 fapi_Unit_5 (.t rfl)),Dr rfl hb28 (.load ty25 (.t rfl)),Dr rfl hb28 (.move (.t rfl)),Dr rfl hb28 (.idx hv31 U25 Z27 (.t rfl) (.t rfl)),Dr rfl hb28 (.fieldAddr U27 rfl J9 fapi_Unit_2 (.t rfl)),Dr rfl hb28 (.load ty9 (.t rfl)),Dr rfl hb28 (.eqS (.t rfl) (.t rfl)),Dn (.pickT (.t rfl) hb28 (.t rfl)),trivial⟩)<|Aq<|W.cB hm (.t rfl) (fun hp33 hm=>?_) (fun hp33 hm=>?_)
          ·refine Aw<|Ao rfl (.assign .bool)<|WL.ns ?_
           have hr34:=Si hm
           clear hm
           subst hr34
           have hm:=hk22
           try dsimp only at hm
           have hr35:=Si hm
           clear hm
           subst hr35
           have hm:=hk6
           try dsimp only at hm
           cases hm
           exact W.ret1 () rfl (.t rfl) trivial
          ·refine W.skip<|WN.block<|Aq<|W.region<|WL.mv rfl rfl ?_
           obtain ⟨v6,hv36,hm⟩:=Bs hm
           exact Ao rfl (.addC hv36 (.t rfl) .i64)<|Ag rfl rfl<|WL.nil<|WN.again n23 v6 (Nat.lt_succ_self n23) hm ⟨.q rfl,.q rfl,.q rfl,trivial⟩ trivial
         ·refine W.draw [.c _,.c _,.c _,.c _,.c _,.c _,.c _,.c _,.c _,.c _,.c _,.c _,.c _,.c _,.c _,.c _,.c _,.c _,.c _,.c _,.c _,.c _,.c _,.c _,.c _,.c _,.c _,.c _] [([],[1]),([0],[]),([],[4]),([1,2],[]),([3],[]),([4],[]),([],[1]),([6],[]),([],[3]),([7,8],[]),([9],[]),([10],[]),([5,11],[]),([12],[]),([13],[1]),([13,14],[]),([13],[4]),([13,15,16],[]),([13,17],[]),([13,18],[]),([13],[1]),([13,20],[]),([13],[3]),([13,21,22],[]),([13,23],[]),([13,24],[]),([13,19,25],[]),([13,26],[])] Mx rfl rfl rfl rfl (by exact ⟨Dn (.fieldAddr U27 rfl J25 fapi_Unit_5 (.t rfl)),Dn (.load ty25 (.t rfl)),Dn (.move (.t rfl)),Dn (.idx hv26 U25 Z27 (.t rfl) (.t rfl)),Dn (.fieldAddr U27 rfl J3 fapi_Unit_1 (.t rfl)),Dn (.load ty3 (.t rfl)),Dn (.fieldAddr U27 rfl J25 fapi_Unit_5 (.t rfl)),Dn (.load ty25 (.t rfl)),Dn (.move (.t rfl)),Dn (.idx hv27 U25 Z27 (.t rfl) (.t rfl)),Dn (.fieldAddr U27 rfl J3 fapi_Unit_1 (.t rfl)),Dn (.load ty3 (.t rfl)),Dn (.eqI (.t rfl) (.t rfl)),Dn (.move (.t rfl)),Dp rfl hb28,Dp rfl hb28,Dp rfl hb28,Dp rfl hb28,Dp rfl hb28,Dp rfl hb28,Dp rfl hb28,Dp rfl hb28,Dp rfl hb28,Dp rfl hb28,Dp rfl hb28,Dp rfl hb28,Dp rfl hb28,Dn (.pickF (.t rfl) hb28 .bool),trivial⟩)<|Aq<|W.condF (.t rfl)<|W.skip<|WN.block<|Aq<|W.region<|WL.mv rfl rfl ?_
          obtain ⟨v7,hv37,hm⟩:=Bs hm
          exact Ao rfl (.addC hv37 (.t rfl) .i64)<|Ag rfl rfl<|WL.nil<|WN.again n23 v7 (Nat.lt_succ_self n23) hm ⟨.q rfl,.q rfl,.q rfl,trivial⟩ trivial
        ·refine W.exit rfl ?_
         have hr38:=Si hm
         clear hm
         subst hr38
         have hm:=hk22
         try dsimp only at hm
         refine WN.block<|Aq<|W.region<|WL.mv rfl rfl ?_
         obtain ⟨v8,hv39,hm⟩:=Bs hm
         exact Ao rfl (.addC hv39 (.t rfl) .i64)<|Ag rfl rfl<|WL.nil<|WN.again n7 v8 (Nat.lt_succ_self n7) hm ⟨.q rfl,.q rfl,trivial⟩ trivial
    ·refine W.exit rfl ?_
     have hr40:=Si hm
     clear hm
     subst hr40
     have hm:=hk6
     try dsimp only at hm
     refine Aq<|Aw<|Ao rfl (.assign .bool)<|WL.ns ?_
     cases hm
     exact W.ret1 () rfl (.t rfl) trivial
theorem r06_Depth_spec:∀ (n:Nat) (u:api_Unit) (r:Int),M.r06_Depth n u=some r→FSpec Tryz.prog 48 [(tapi_Unit.is u)] (I6.is r):=by
 intro n
 induction n with
 | zero=>intro u r hm;cases hm
 | succ n ih=>
  intro u r hm
  rw [M.r06_Depth.eq_2] at hm
  refine FSpec.of Tryz.func48 rfl rfl rfl fun g0=>Aw<|Ao rfl (.box (.t rfl))<|Ao rfl (.assign .i64)<|Ar<|Ao rfl (.assign .i64)<|An<|W.seq<|Aw<|Ao rfl (.assign .i64)<|An<|W.block ?_
  obtain ⟨s1,hs2,hk3⟩:=Bs hm
  clear hm
  refine W.loop (fun m (s:Int×Int)=>M.r06_Depth_loop1 u (M.r06_Depth n) m s.1 s.2=some s1) (fun s=>[(3,(I6.is s.1)),(4,(I6.is s.2)),(1,(tapi_Unit.ptr u))]) (fun s=>[]) _ ((0:Int),(0:Int)) hs2 ⟨.q rfl,.q rfl,.q rfl,trivial⟩ trivial ?_
  rintro n4 ⟨d,i⟩ hm
  try dsimp only at hm
  change W _ _ _ _ _ _ _ [(3,(I6.is d)),(4,(I6.is i)),(1,(tapi_Unit.ptr u))] []
  cases n4 with
  | zero=>rw [M.r06_Depth_loop1.eq_1] at hm;cases hm
  | succ n4=>
   rw [M.r06_Depth_loop1.eq_2] at hm
   refine W.seq<|Aw<|Am rfl rfl<|Ao rfl (.fieldAddr U27 rfl J25 fapi_Unit_5 (.t rfl))<|Ao rfl (.load ty25 (.t rfl))<|Ao rfl (.lenL U25 (.t rfl))<|Ao rfl (.ltI (.t rfl) (.t rfl))<|An<|W.cD hm (.t rfl) (fun hp6 hm=>?_) (fun hp6 hm=>?_)
   ·refine W.skip<|Aq<|W.seq<|W.block<|W.region<|Am rfl rfl<|Ao rfl (.fieldAddr U27 rfl J25 fapi_Unit_5 (.t rfl))<|Ao rfl (.load ty25 (.t rfl))<|WL.mv rfl rfl ?_
    obtain ⟨v,hv7,hm⟩:=Bs hm
    refine Ao rfl (.idx hv7 U25 Z27 (.t rfl) (.t rfl))<|Ao rfl (.load ty27 (.t rfl)) ?_
    obtain ⟨depth,hv8,hm⟩:=Bs hm
    refine Ao rfl (.call C48 (ih _ _ hv8) ⟨(.t rfl),trivial⟩) ?_
    obtain ⟨v1,hv9,hm⟩:=Bs hm
    exact Ao rfl (.addC hv9 .i64 (.t rfl))<|Ao rfl (.maxI (.t rfl) (.t rfl))<|Ag rfl rfl<|WL.nil<|WN.block<|Aq<|W.region<|Am rfl rfl<|WL.lenL (s:=7) (.t rfl) fun hl10=>Ao rfl (.addI1 (.t rfl) .i64 hp6 hl10)<|Ag rfl rfl<|WL.nil<|WN.again n4 (max d v1,i+1) (Nat.lt_succ_self n4) hm ⟨.q rfl,.q rfl,.q rfl,trivial⟩ trivial
   ·refine W.exit rfl ?_
    have hr11:=Si hm
    clear hm
    subst hr11
    have hm:=hk3
    try dsimp only at hm
    refine Aq<|Aw<|Am rfl rfl<|Ag rfl rfl<|WL.ns ?_
    cases hm
    exact W.ret1 () rfl (.t rfl) trivial
theorem r06_Count_spec:∀ (n:Nat) (u:api_Unit) (r:Int),M.r06_Count n u=some r→FSpec Tryz.prog 49 [(tapi_Unit.is u)] (I6.is r):=by
 intro n
 induction n with
 | zero=>intro u r hm;cases hm
 | succ n ih=>
  intro u r hm
  rw [M.r06_Count.eq_2] at hm
  refine FSpec.of Tryz.func49 rfl rfl rfl fun g0=>Aw<|Ao rfl (.box (.t rfl))<|Ao rfl (.assign .i64)<|Ar<|Ao rfl (.assign .i64)<|An<|W.seq<|Aw<|Ao rfl (.assign .i64)<|An<|W.block ?_
  obtain ⟨s1,hs2,hk3⟩:=Bs hm
  clear hm
  refine W.loop (fun m (s:Int×Int)=>M.r06_Count_loop1 u (M.r06_Count n) m s.1 s.2=some s1) (fun s=>[(3,(I6.is s.1)),(4,(I6.is s.2)),(1,(tapi_Unit.ptr u))]) (fun s=>[]) _ ((1:Int),(0:Int)) hs2 ⟨.q rfl,.q rfl,.q rfl,trivial⟩ trivial ?_
  rintro n4 ⟨n0_,i⟩ hm
  try dsimp only at hm
  change W _ _ _ _ _ _ _ [(3,(I6.is n0_)),(4,(I6.is i)),(1,(tapi_Unit.ptr u))] []
  cases n4 with
  | zero=>rw [M.r06_Count_loop1.eq_1] at hm;cases hm
  | succ n4=>
   rw [M.r06_Count_loop1.eq_2] at hm
   refine W.seq<|Aw<|Am rfl rfl<|Ao rfl (.fieldAddr U27 rfl J25 fapi_Unit_5 (.t rfl))<|Ao rfl (.load ty25 (.t rfl))<|Ao rfl (.lenL U25 (.t rfl))<|Ao rfl (.ltI (.t rfl) (.t rfl))<|An<|W.cD hm (.t rfl) (fun hp6 hm=>?_) (fun hp6 hm=>?_)
   ·refine W.skip<|Aq<|W.seq<|W.block<|W.region<|Am rfl rfl<|Ao rfl (.fieldAddr U27 rfl J25 fapi_Unit_5 (.t rfl))<|Ao rfl (.load ty25 (.t rfl))<|WL.mv rfl rfl ?_
    obtain ⟨v,hv7,hm⟩:=Bs hm
    refine Ao rfl (.idx hv7 U25 Z27 (.t rfl) (.t rfl))<|Ao rfl (.load ty27 (.t rfl)) ?_
    obtain ⟨count,hv8,hm⟩:=Bs hm
    refine Ao rfl (.call C49 (ih _ _ hv8) ⟨(.t rfl),trivial⟩) ?_
    obtain ⟨v1,hv9,hm⟩:=Bs hm
    exact Ao rfl (.addC hv9 (.t rfl) (.t rfl))<|Ag rfl rfl<|WL.nil<|WN.block<|Aq<|W.region<|Am rfl rfl<|WL.lenL (s:=7) (.t rfl) fun hl10=>Ao rfl (.addI1 (.t rfl) .i64 hp6 hl10)<|Ag rfl rfl<|WL.nil<|WN.again n4 (v1,i+1) (Nat.lt_succ_self n4) hm ⟨.q rfl,.q rfl,.q rfl,trivial⟩ trivial
   ·refine W.exit rfl ?_
    have hr11:=Si hm
    clear hm
    subst hr11
    have hm:=hk3
    try dsimp only at hm
    refine Aq<|Aw<|Am rfl rfl<|Ag rfl rfl<|WL.ns ?_
    cases hm
    exact W.ret1 () rfl (.t rfl) trivial
theorem r06_All_spec:∀ (n:Nat) (u:api_Unit) (r:(List api_Id)),M.r06_All n u=some r→FSpec Tryz.prog 79 [(tapi_Unit.is u)] ((tL tapi_Id).is r):=by
 intro n
 induction n with
 | zero=>intro u r hm;cases hm
 | succ n ih=>
  intro u r hm
  rw [M.r06_All.eq_2] at hm
  refine FSpec.of Tryz.func79 rfl rfl rfl fun g0=>Aw<|Ao rfl (.box (.t rfl))<|Ao rfl (.assign (.nil (t:=tapi_Id)))<|Ar<|Ao rfl (.fieldAddr U27 rfl J23 fapi_Unit_0 (.t rfl))<|Ao rfl (.load ty23 (.t rfl))<|WL.opR rfl (OpR.buildSlice (n:=1) (ys:=[(0,u.Id)]) (z:=zapi_Id) (xs:=[u.Id]) 7 U40 el23 ze23 ⟨rfl,(.t rfl),trivial⟩ (by simp) (by decide) rfl) fun k=>Ag rfl rfl<|An<|W.seq<|Aw<|Ao rfl (.assign .i64)<|An<|W.block ?_
  obtain ⟨s1,hs2,hk3⟩:=Bs hm
  clear hm
  refine W.loop (fun m (s:((List api_Id)×Int)×Tok)=>M.r06_All_loop1 u (M.r06_All n) m s.1.1 s.1.2=some s1) (fun s=>[(3,(tO tapi_Id s.2 s.1.1)),(4,(I6.is s.1.2)),(1,(tapi_Unit.ptr u))]) (fun s=>[(7,Dec.Own tapi_Id 23 s.2 s.1.1.length)]) _ (([u.Id],(0:Int)),k) hs2 ⟨.q rfl,.q rfl,.q rfl,trivial⟩ ⟨rfl,rfl,trivial⟩ ?_
  rintro n4 ⟨⟨out,i⟩,k1⟩ hm
  try dsimp only at hm
  change W _ _ _ _ _ _ _ [(3,(tO tapi_Id k1 out)),(4,(I6.is i)),(1,(tapi_Unit.ptr u))] [(7,Dec.Own tapi_Id 23 k1 out.length)]
  cases n4 with
  | zero=>rw [M.r06_All_loop1.eq_1] at hm;cases hm
  | succ n4=>
   rw [M.r06_All_loop1.eq_2] at hm
   refine W.seq<|Aw<|Am rfl rfl<|Ao rfl (.fieldAddr U27 rfl J25 fapi_Unit_5 (.t rfl))<|Ao rfl (.load ty25 (.t rfl))<|Ao rfl (.lenL U25 (.t rfl))<|Ao rfl (.ltI (.t rfl) (.t rfl))<|An<|W.cD hm (.t rfl) (fun hp6 hm=>?_) (fun hp6 hm=>?_)
   ·refine W.skip<|Aq<|W.seq<|W.block<|W.region<|Am rfl rfl<|Ao rfl (.fieldAddr U27 rfl J25 fapi_Unit_5 (.t rfl))<|Ao rfl (.load ty25 (.t rfl))<|WL.mv rfl rfl ?_
    obtain ⟨v,hv7,hm⟩:=Bs hm
    refine Ao rfl (.idx hv7 U25 Z27 (.t rfl) (.t rfl))<|Ao rfl (.load ty27 (.t rfl)) ?_
    obtain ⟨all,hv8,hm⟩:=Bs hm
    refine Ao rfl (.call C79 (ih _ _ hv8) ⟨(.t rfl),trivial⟩) ?_
    obtain ⟨out1,hv9,hm⟩:=Bs hm
    exact WL.opR rfl (OpR.appC (key:=7) hv9 U40 el23 (.t rfl) (.t rfl) rfl) fun k2=>Ag rfl rfl<|WL.nil<|WN.block<|Aq<|W.region<|Am rfl rfl<|WL.lenL (s:=10) (.t rfl) fun hl10=>Ao rfl (.addI1 (.t rfl) .i64 hp6 hl10)<|Ag rfl rfl<|WL.nil<|WN.again n4 ((out1,i+1),k2) (Nat.lt_succ_self n4) hm ⟨.q rfl,.q rfl,.q rfl,trivial⟩ ⟨rfl,rfl,trivial⟩
   ·refine W.exit rfl ?_
    have hr11:=Si hm
    clear hm
    subst hr11
    have hm:=hk3
    try dsimp only at hm
    refine Aq<|Aw<|Am rfl rfl<|Ag rfl rfl<|WL.ns ?_
    cases hm
    exact W.ret1 () rfl (Opd.own (.t rfl)) trivial
theorem r06_Ids_spec(n:Nat)(u:api_Unit)(r:Bool)(hm:M.r06_Ids n u=some r):FSpec Tryz.prog 50 [(tapi_Unit.is u)] (tB.is r):=by
 unfold M.r06_Ids at hm
 refine FSpec.of Tryz.func50 rfl rfl rfl fun g0=>Aw<|Ao rfl (.box (.t rfl))<|Ao rfl (.assign .bool)<|Ar<|Ao rfl (.load ty27 (.t rfl)) ?_
 obtain ⟨all,hv1,hm⟩:=Bs hm
 refine Ao rfl (.call C79 (r06_All_spec _ _ _ hv1) ⟨(.t rfl),trivial⟩)<|Ag rfl rfl<|Ar<|Ao rfl (.assign .bool)<|An<|W.seq<|Aw<|Ao rfl (.assign .i64)<|An<|W.block ?_
 obtain ⟨s2,hs3,hk4⟩:=Bs hm
 clear hm
 refine W.loop (fun m (s:Bool×Int)=>M.r06_Ids_loop1 all m s.1 s.2=some s2) (fun s=>[(4,(tB.is s.1)),(5,(I6.is s.2)),(1,(tapi_Unit.ptr u)),(3,((tL tapi_Id).is all))]) (fun s=>[]) _ (true,(0:Int)) hs3 ⟨.q rfl,.q rfl,.q rfl,.q rfl,trivial⟩ trivial ?_
 rintro n5 ⟨none0_,i⟩ hm
 try dsimp only at hm
 change W _ _ _ _ _ _ _ [(4,(tB.is none0_)),(5,(I6.is i)),(1,(tapi_Unit.ptr u)),(3,((tL tapi_Id).is all))] []
 cases n5 with
 | zero=>rw [M.r06_Ids_loop1.eq_1] at hm;cases hm
 | succ n5=>
  rw [M.r06_Ids_loop1.eq_2] at hm
  refine W.seq<|Aw<|Am rfl rfl<|Am rfl rfl<|Ao rfl (.lenL U40 (.t rfl))<|Ao rfl (.ltI (.t rfl) (.t rfl))<|An<|W.cD hm (.t rfl) (fun hp7 hm=>?_) (fun hp7 hm=>?_)
  ·refine W.skip<|Aq<|W.seq<|W.block<|W.region<|Am rfl rfl<|WL.mv rfl rfl ?_
   rcases iteB hm with ⟨hp9,hb8,hm⟩ | ⟨hp9,hb8,hm⟩
   ·refine Ax rfl hb8 (.move (.t rfl))<|Ax rfl hb8 (.move (.t rfl)) ?_
    obtain ⟨v,hv10,hm⟩:=Bs hm
    exact Ax rfl hb8 (.idx hv10 U40 Z23 (.t rfl) (.t rfl))<|Ax rfl hb8 (.load ty23 (.t rfl))<|Ax rfl hb8 (.build (s:=tapi_Id) (x:=(⟨(0:Int),(0:Int),(0:Int)⟩:api_Id)) zapi_Id_f rfl U23 (zapi_Id_sz _ U23) ze23 rfl)<|Ax rfl hb8 (.eqSt (D:=2) rfl (by decide) eg23 eq23 (.t rfl) (.t rfl))<|Ao rfl (.pickT (.t rfl) hb8 (.t rfl))<|Ag rfl rfl<|WL.nil<|WN.block<|Aq<|W.region<|Am rfl rfl<|WL.lenL (s:=3) (.t rfl) fun hl11=>Ao rfl (.addI1 (.t rfl) .i64 hp7 hl11)<|Ag rfl rfl<|WL.nil<|WN.again n5 (decide (v=(⟨(0:Int),(0:Int),(0:Int)⟩:api_Id)),i+1) (Nat.lt_succ_self n5) hm ⟨.q rfl,.q rfl,.q rfl,.q rfl,trivial⟩ trivial
   ·refine Ap rfl hb8<|Ap rfl hb8<|Ap rfl hb8<|Ap rfl hb8<|Ap rfl hb8<|Ap rfl hb8<|Ao rfl (.pickF (.t rfl) hb8 .bool)<|Ag rfl rfl<|WL.nil<|WN.block<|Aq<|W.region<|Am rfl rfl<|WL.lenL (s:=3) (.t rfl) fun hl12=>Ao rfl (.addI1 (.t rfl) .i64 hp7 hl12)<|WL.gv rfl rfl ?_
    exact WL.nil<|WN.again n5 (false,i+1) (Nat.lt_succ_self n5) hm ⟨.q rfl,.q rfl,.q rfl,.q rfl,trivial⟩ trivial
  ·refine W.exit rfl ?_
   have hr13:=Si hm
   clear hm
   subst hr13
   have hm:=hk4
   try dsimp only at hm
   refine Aq<|W.seq<|Aw<|Am rfl rfl<|An<|W.cB hm (.t rfl) (fun hp15 hm=>?_) (fun hp15 hm=>?_)
   ·refine Aw<|Ao rfl (.assign .bool)<|WL.ns ?_
    cases hm
    exact W.ret1 () rfl (.t rfl) trivial
   ·refine W.skip<|Aq<|W.seq<|W.seq ?_
    obtain ⟨v1,hv16,hm⟩:=Bs hm
    refine W.draw [.c _,.c _,.c _,.c _,.c _,.c _,.c _,.c _,.c _] [([],[3]),([0],[]),([1],[]),([],[]),([2,3],[]),([],[1]),([5],[]),([6],[]),([4,7],[])] Mx rfl rfl rfl rfl ⟨Dn (.move (.t rfl)),Dn (.idx hv16 U40 Z23 (.t rfl) .i64),Dn (.load ty23 (.t rfl)),Dn (.build (s:=tapi_Id) (x:=(⟨(0:Int),(0:Int),(0:Int)⟩:api_Id)) zapi_Id_f rfl U23 (zapi_Id_sz _ U23) ze23 rfl),Dn (.eqSt (D:=2) rfl (by decide) eg23 eq23 (.t rfl) (.t rfl)),Dn (.fieldAddr U27 rfl J3 fapi_Unit_1 (.t rfl)),Dn (.load ty3 (.t rfl)),Dn (.eqI (.t rfl) .i64),Dn (.neB U4 (.t rfl) (.t rfl)),trivial⟩<|Aq<|W.cB hm (.t rfl) (fun hp18 hm=>?_) (fun hp18 hm=>?_)
    ·refine Aw<|Ao rfl (.assign .bool)<|WL.ns ?_
     cases hm
     exact W.ret1 () rfl (.t rfl) trivial
    ·refine W.skip<|Aq<|W.seq<|Aw<|Ao rfl (.assign .i64)<|An<|W.block ?_
     obtain ⟨s19,hs20,hk21⟩:=Bs hm
     clear hm
     refine W.loop (fun m (s:Int)=>M.r06_Ids_loop2 all m s=some s19) (fun s=>[(6,(I6.is s)),(3,((tL tapi_Id).is all))]) (fun s=>[]) _ (0:Int) hs20 ⟨.q rfl,.q rfl,trivial⟩ trivial ?_
     rintro n22 i1 hm
     try dsimp only at hm
     change W _ _ _ _ _ _ _ [(6,(I6.is i1)),(3,((tL tapi_Id).is all))] []
     cases n22 with
     | zero=>rw [M.r06_Ids_loop2.eq_1] at hm;cases hm
     | succ n22=>
      rw [M.r06_Ids_loop2.eq_2] at hm
      refine W.seq<|Aw<|Am rfl rfl<|Am rfl rfl<|Ao rfl (.lenL U40 (.t rfl))<|Ao rfl (.ltI (.t rfl) (.t rfl))<|An<|W.cD hm (.t rfl) (fun hp24 hm=>?_) (fun hp24 hm=>?_)
      ·refine W.skip<|Aq<|W.seq<|W.block<|Aw<|Ao rfl (.assign .i64)<|An<|W.block ?_
       obtain ⟨s25,hs26,hk27⟩:=Bs hm
       clear hm
       refine W.loop (fun m (s:Int)=>M.r06_Ids_loop3 all i1 m s=some s25) (fun s=>[(7,(I6.is s)),(3,((tL tapi_Id).is all)),(6,(I6.is i1))]) (fun s=>[]) _ (0:Int) hs26 ⟨.q rfl,.q rfl,.q rfl,trivial⟩ trivial ?_
       rintro n28 k hm
       try dsimp only at hm
       change W _ _ _ _ _ _ _ [(7,(I6.is k)),(3,((tL tapi_Id).is all)),(6,(I6.is i1))] []
       cases n28 with
       | zero=>rw [M.r06_Ids_loop3.eq_1] at hm;cases hm
       | succ n28=>
        rw [M.r06_Ids_loop3.eq_2] at hm
        refine W.seq<|Aw<|Am rfl rfl<|Am rfl rfl<|Ao rfl (.ltI (.t rfl) (.t rfl))<|An<|W.cD hm (.t rfl) (fun hp30 hm=>?_) (fun hp30 hm=>?_)
        ·refine W.skip<|Aq<|W.seq<|W.block<|W.seq ?_
         obtain ⟨v2,hv31,hm⟩:=Bs hm
         obtain ⟨v3,hv32,hm⟩:=Bs hm
         refine W.draw [.c _,.c _,.c _,.c _,.c _,.c _,.c _,.c _,.c _] [([],[3]),([],[7]),([0,1],[]),([2],[]),([],[3]),([],[6]),([4,5],[]),([6],[]),([3,7],[])] Mx rfl rfl rfl rfl ⟨Dn (.move (.t rfl)),Dn (.move (.t rfl)),Dn (.idx hv31 U40 Z23 (.t rfl) (.t rfl)),Dn (.load ty23 (.t rfl)),Dn (.move (.t rfl)),Dn (.move (.t rfl)),Dn (.idx hv32 U40 Z23 (.t rfl) (.t rfl)),Dn (.load ty23 (.t rfl)),Dn (.eqSt (D:=2) rfl (by decide) eg23 eq23 (.t rfl) (.t rfl)),trivial⟩<|Aq<|W.cD hm (.t rfl) (fun hp34 hm=>?_) (fun hp34 hm=>?_)
         ·refine Aw<|Ao rfl (.assign .bool)<|WL.ns ?_
          have hr35:=Si hm
          clear hm
          subst hr35
          have hm:=hk27
          try dsimp only at hm
          have hr36:=Si hm
          clear hm
          subst hr36
          have hm:=hk21
          try dsimp only at hm
          cases hm
          exact W.ret1 () rfl (.t rfl) trivial
         ·refine W.skip<|WN.block<|Aq<|W.region<|WL.mv rfl rfl ?_
          obtain ⟨v4,hv37,hm⟩:=Bs hm
          exact Ao rfl (.addC hv37 (.t rfl) .i64)<|Ag rfl rfl<|WL.nil<|WN.again n28 v4 (Nat.lt_succ_self n28) hm ⟨.q rfl,.q rfl,.q rfl,trivial⟩ trivial
        ·refine W.exit rfl ?_
         have hr38:=Si hm
         clear hm
         subst hr38
         have hm:=hk27
         try dsimp only at hm
         refine WN.block<|Aq<|W.region<|WL.mv rfl rfl ?_
         obtain ⟨v5,hv39,hm⟩:=Bs hm
         exact Ao rfl (.addC hv39 (.t rfl) .i64)<|Ag rfl rfl<|WL.nil<|WN.again n22 v5 (Nat.lt_succ_self n22) hm ⟨.q rfl,.q rfl,trivial⟩ trivial
      ·refine W.exit rfl ?_
       have hr40:=Si hm
       clear hm
       subst hr40
       have hm:=hk21
       try dsimp only at hm
       refine Aq<|Aw<|Ao rfl (.assign .bool)<|WL.ns ?_
       cases hm
       exact W.ret1 () rfl (.t rfl) trivial
theorem r06_May_spec(n:Nat)(u:api_Unit)(r:Bool)(hm:M.r06_May n u=some r):FSpec Tryz.prog 27 [(tapi_Unit.is u)] (tB.is r):=by
 unfold M.r06_May at hm
 refine FSpec.of Tryz.func27 rfl rfl rfl fun g0=>Aw<|Ao rfl (.box (.t rfl))<|Ao rfl (.assign .bool)<|Ar<|Ao rfl (.load ty27 (.t rfl)) ?_
 obtain ⟨right,hv1,hm⟩:=Bs hm
 refine Ao rfl (.call C47 (r06_Right_spec _ _ _ hv1) ⟨(.t rfl),trivial⟩)<|WL.mv rfl rfl ?_
 rcases iteB hm with ⟨hp3,hb2,hm⟩ | ⟨hp3,hb2,hm⟩
 ·refine Ax rfl hb2 (.load ty27 (.t rfl)) ?_
  obtain ⟨depth,hv4,hm⟩:=Bs hm
  refine Ax rfl hb2 (.call C48 (r06_Depth_spec _ _ _ hv4) ⟨(.t rfl),trivial⟩)<|Ax rfl hb2 (.leI (.t rfl) .i64)<|Ao rfl (.pickT (.t rfl) hb2 (.t rfl))<|WL.mv rfl rfl ?_
  rcases iteD hm with ⟨hp6,hb5,hm⟩ | ⟨hp6,hb5,hm⟩
  ·refine Ax rfl hb5 (.load ty27 (.t rfl)) ?_
   obtain ⟨count,hv7,hm⟩:=Bs hm
   refine Ax rfl hb5 (.call C49 (r06_Count_spec _ _ _ hv7) ⟨(.t rfl),trivial⟩)<|Ax rfl hb5 (.leI (.t rfl) .i64)<|Ao rfl (.pickT (.t rfl) hb5 (.t rfl))<|WL.mv rfl rfl ?_
   rcases iteD hm with ⟨hp9,hb8,hm⟩ | ⟨hp9,hb8,hm⟩
   ·refine Ax rfl hb8 (.load ty27 (.t rfl)) ?_
    obtain ⟨ids,hv10,hm⟩:=Bs hm
    refine Ax rfl hb8 (.call C50 (r06_Ids_spec _ _ _ hv10) ⟨(.t rfl),trivial⟩)<|Ao rfl (.pickT (.t rfl) hb8 (.t rfl))<|Ag rfl rfl<|WL.ns ?_
    cases hm
    exact W.ret1 () rfl (.t rfl) trivial
   ·refine Ap rfl hb8<|Ap rfl hb8<|Ao rfl (.pickF (.t rfl) hb8 .bool)<|Ag rfl rfl<|WL.ns ?_
    cases hm
    exact W.ret1 () rfl (.t rfl) trivial
  ·refine Ap rfl hb5<|Ap rfl hb5<|Ap rfl hb5<|Ao rfl (.pickF (.t rfl) hb5 .bool)<|Am rfl rfl<|Ap rfl rfl<|Ap rfl rfl<|Ao rfl (.pickF (.t rfl) rfl .bool)<|Ag rfl rfl<|WL.ns ?_
   cases hm
   exact W.ret1 () rfl (.t rfl) trivial
 ·refine Ap rfl hb2<|Ap rfl hb2<|Ap rfl hb2<|Ao rfl (.pickF (.t rfl) hb2 .bool)<|Am rfl rfl<|Ap rfl rfl<|Ap rfl rfl<|Ap rfl rfl<|Ao rfl (.pickF (.t rfl) rfl .bool)<|Am rfl rfl<|Ap rfl rfl<|Ap rfl rfl<|Ao rfl (.pickF (.t rfl) rfl .bool)<|Ag rfl rfl<|WL.ns ?_
  cases hm
  exact W.ret1 () rfl (.t rfl) trivial
theorem r08_named_spec:∀ (n:Nat) (u:api_Unit) (r:Bool),M.r08_named n u=some r→FSpec Tryz.prog 28 [(tapi_Unit.is u)] (tB.is r):=by
 intro n
 induction n with
 | zero=>intro u r hm;cases hm
 | succ n ih=>
  intro u r hm
  rw [M.r08_named.eq_2] at hm
  refine FSpec.of Tryz.func28 rfl rfl rfl fun g0=>Aw<|Ao rfl (.box (.t rfl))<|Ao rfl (.assign .bool)<|An<|W.seq ?_
  obtain ⟨s1,hs2,hk3⟩:=Bs hm
  clear hm
  refine W.join (fun s:Bool=>s=s1) (fun s=>[(12,(tB.is s)),(1,(tapi_Unit.ptr u))]) (fun s=>[]) ?_ ?_
  ·rintro v hj21
   try dsimp only at hj21
   subst hj21
   have hm:=hk3
   clear hk3
   try dsimp only at hm
   change W _ _ _ _ _ _ _ [(12,(tB.is v)),(1,(tapi_Unit.ptr u))] []
   refine W.cB hm (.t rfl) (fun hp7 hm=>?_) (fun hp7 hm=>?_)
   ·refine Aw<|Ao rfl (.assign .bool)<|WL.ns ?_
    cases hm
    exact W.ret1 () rfl (.t rfl) trivial
   ·refine W.skip<|Aq<|W.seq<|Aw<|Ao rfl (.assign .i64)<|An<|W.block ?_
    obtain ⟨s8,hs9,hk10⟩:=Bs hm
    clear hm
    refine W.loop (fun m (s:Int)=>M.r08_named_loop1 u (M.r08_named n) m s=some s8) (fun s=>[(3,(I6.is s)),(1,(tapi_Unit.ptr u))]) (fun s=>[]) _ (0:Int) hs9 ⟨.q rfl,.q rfl,trivial⟩ trivial ?_
    rintro n11 i hm
    try dsimp only at hm
    change W _ _ _ _ _ _ _ [(3,(I6.is i)),(1,(tapi_Unit.ptr u))] []
    cases n11 with
    | zero=>rw [M.r08_named_loop1.eq_1] at hm;cases hm
    | succ n11=>
     rw [M.r08_named_loop1.eq_2] at hm
     refine W.seq<|Aw<|Am rfl rfl<|Ao rfl (.fieldAddr U27 rfl J25 fapi_Unit_5 (.t rfl))<|Ao rfl (.load ty25 (.t rfl))<|Ao rfl (.lenL U25 (.t rfl))<|Ao rfl (.ltI (.t rfl) (.t rfl))<|An<|W.cD hm (.t rfl) (fun hp13 hm=>?_) (fun hp13 hm=>?_)
     ·refine W.skip<|Aq<|W.seq<|W.block<|Aw<|Ao rfl (.fieldAddr U27 rfl J25 fapi_Unit_5 (.t rfl))<|Ao rfl (.load ty25 (.t rfl))<|WL.mv rfl rfl ?_
      obtain ⟨v1,hv14,hm⟩:=Bs hm
      refine Ao rfl (.idx hv14 U25 Z27 (.t rfl) (.t rfl))<|Ao rfl (.load ty27 (.t rfl)) ?_
      obtain ⟨named,hv15,hm⟩:=Bs hm
      refine Ao rfl (.call C28 (ih _ _ hv15) ⟨(.t rfl),trivial⟩)<|Ao rfl (.notB (.t rfl))<|An<|W.cR hm (.t rfl) (fun hp17 hm=>?_) (fun hp17 hm=>?_)
      ·refine Aw<|Ao rfl (.assign .bool)<|WL.ns ?_
       have hr18:=Si hm
       clear hm
       subst hr18
       have hm:=hk10
       try dsimp only at hm
       cases hm
       exact W.ret1 () rfl (.t rfl) trivial
      ·exact W.skip<|WN.block<|Aq<|W.region<|Am rfl rfl<|WL.lenL (s:=15) (.t rfl) fun hl19=>Ao rfl (.addI1 (.t rfl) .i64 hp13 hl19)<|Ag rfl rfl<|WL.nil<|WN.again n11 (i+1) (Nat.lt_succ_self n11) hm ⟨.q rfl,.q rfl,trivial⟩ trivial
     ·refine W.exit rfl ?_
      have hr20:=Si hm
      clear hm
      subst hr20
      have hm:=hk10
      try dsimp only at hm
      refine Aq<|Aw<|Ao rfl (.assign .bool)<|WL.ns ?_
      cases hm
      exact W.ret1 () rfl (.t rfl) trivial
  ·have hm:=hs2
   clear hs2
   refine W.region<|Ao rfl (.fieldAddr U27 rfl J3 fapi_Unit_1 (.t rfl))<|Ao rfl (.load ty3 (.t rfl))<|Ao rfl (.neI (.t rfl) .i64)<|WL.mv rfl rfl ?_
   rcases iteD hm with ⟨hp5,hb4,hm⟩ | ⟨hp5,hb4,hm⟩
   ·exact Ax rfl hb4 (.fieldAddr U27 rfl J23 fapi_Unit_0 (.t rfl))<|Ax rfl hb4 (.load ty23 (.t rfl))<|Ax rfl hb4 (.build (s:=tapi_Id) (x:=(⟨(0:Int),(0:Int),(0:Int)⟩:api_Id)) zapi_Id_f rfl U23 (zapi_Id_sz _ U23) ze23 rfl)<|Ax rfl hb4 (.eqSt (D:=2) rfl (by decide) eg23 eq23 (.t rfl) (.t rfl))<|Ao rfl (.pickT (.t rfl) hb4 (.t rfl))<|WL.nil<|WN.meet (decide (u.Id=(⟨(0:Int),(0:Int),(0:Int)⟩:api_Id))) (Si hm) ⟨.q rfl,.q rfl,trivial⟩ trivial
   ·exact Ap rfl hb4<|Ap rfl hb4<|Ap rfl hb4<|Ap rfl hb4<|Ao rfl (.pickF (.t rfl) hb4 .bool)<|WL.nil<|WN.meet false (Si hm) ⟨.q rfl,.q rfl,trivial⟩ trivial
theorem r08_Stands_spec(n:Nat)(u:api_Unit)(r:Bool)(hm:M.r08_Stands n u=some r):FSpec Tryz.prog 15 [(tapi_Unit.is u)] (tB.is r):=by
 unfold M.r08_Stands at hm
 refine FSpec.of Tryz.func15 rfl rfl rfl fun g0=>Aw<|Ao rfl (.box (.t rfl))<|Ao rfl (.assign .bool)<|Ar<|Ao rfl (.load ty27 (.t rfl)) ?_
 obtain ⟨may,hv1,hm⟩:=Bs hm
 refine Ao rfl (.call C27 (r06_May_spec _ _ _ hv1) ⟨(.t rfl),trivial⟩)<|WL.mv rfl rfl ?_
 rcases iteB hm with ⟨hp3,hb2,hm⟩ | ⟨hp3,hb2,hm⟩
 ·refine Ax rfl hb2 (.load ty27 (.t rfl)) ?_
  obtain ⟨named,hv4,hm⟩:=Bs hm
  refine Ax rfl hb2 (.call C28 (r08_named_spec _ _ _ hv4) ⟨(.t rfl),trivial⟩)<|Ao rfl (.pickT (.t rfl) hb2 (.t rfl))<|Ag rfl rfl<|WL.ns ?_
  cases hm
  exact W.ret1 () rfl (.t rfl) trivial
 ·refine Ap rfl hb2<|Ap rfl hb2<|Ao rfl (.pickF (.t rfl) hb2 .bool)<|Ag rfl rfl<|WL.ns ?_
  cases hm
  exact W.ret1 () rfl (.t rfl) trivial
theorem law41_book_spec(n:Nat)(u:api_Unit)(r:Bool)(hm:M.law41_book n u=some r):FSpec Tryz.prog 6 [(tapi_Unit.is u)] (tB.is r):=by
 unfold M.law41_book at hm
 refine FSpec.of Tryz.func6 rfl rfl rfl fun g0=>Aw<|Ao rfl (.box (.t rfl))<|Ao rfl (.assign .bool)<|Ar<|Ao rfl (.load ty27 (.t rfl)) ?_
 obtain ⟨few,hv1,hm⟩:=Bs hm
 refine Ao rfl (.call C14 (r06_Few_spec _ _ _ _ hv1) ⟨(.t rfl),.i64,trivial⟩)<|WL.mv rfl rfl ?_
 rcases iteB hm with ⟨hp3,hb2,hm⟩ | ⟨hp3,hb2,hm⟩
 ·refine Ax rfl hb2 (.load ty27 (.t rfl)) ?_
  obtain ⟨stands,hv4,hm⟩:=Bs hm
  refine Ax rfl hb2 (.call C15 (r08_Stands_spec _ _ _ hv4) ⟨(.t rfl),trivial⟩)<|Ao rfl (.pickT (.t rfl) hb2 (.t rfl))<|Ag rfl rfl<|WL.ns ?_
  cases hm
  exact W.ret1 () rfl (.t rfl) trivial
 ·refine Ap rfl hb2<|Ap rfl hb2<|Ao rfl (.pickF (.t rfl) hb2 .bool)<|Ag rfl rfl<|WL.ns ?_
  cases hm
  exact W.ret1 () rfl (.t rfl) trivial
theorem citation_reader_just_1_spec(s0_:Str)(c:Str)(r:Bool)(hm:M.citation_reader_just_1 s0_ c=some r):FSpec Tryz.prog 108 [(tS.is s0_),(tS.ptr c)] (tB.is r):=by
 unfold M.citation_reader_just_1 at hm
 refine FSpec.of Tryz.func108 rfl rfl rfl fun g0=>Aw<|Ao rfl (.assign .bool)<|Ar<|Am rfl rfl<|Ao rfl (.load ty9 (.t rfl))<|Ao rfl (.eqS (.t rfl) (.t rfl))<|Ag rfl rfl<|WL.ns ?_
 cases hm
 exact W.ret1 () rfl (.t rfl) trivial
theorem strings_IndexByte_spec(s:Str)(c r:Int)(hm:ixM s c=some r):FSpec Tryz.prog 119 [tS.is s,(tI .u8).is c] (I6.is r):=
 indexByte_spec (fun s c w=>Tryz.strings_IndexByte s c w) s c r hm
theorem citation_reader_word_spec(r0_:citation_reader)(is:Str→Option Bool)(b:Nat)(r:(Str×Bool)×citation_reader)(hm:M.citation_reader_word r0_ is=some r):FSpecR Tryz.prog 107 [(Bp b 0),(tF Tryz.prog (fun s:Str×Bool=>is s.1=some s.2) (fun s:Str×Bool=>[tS.is s.1]) (fun s:Str×Bool=>(tB.is s.2)))] [(0,(Bx 3 true 92 (tcitation_reader.is r0_) b))] (fun kx:Unit=>(Asn.tuple2 (tS.is r.1.1) (tB.is r.1.2))) (fun kx:Unit=>[(0,(Bx 3 true 92 (tcitation_reader.is r.2) b))]):=by
 unfold M.citation_reader_word at hm
 refine FSpecR.of Tryz.func107 rfl rfl rfl fun g0=>Aw<|Ao rfl (.assign (.str rfl (by decide)))<|Ao rfl (.assign .bool)<|An<|W.seq<|W.seq ?_
 rcases iteB hm with ⟨hp2,hb1,hm⟩ | ⟨hp2,hb1,hm⟩
 ·refine W.draw [.c _,.c _,.c _,.c _,.c _,.c _,.c _,.c _,.c _,.c _,.c _,.c _,.c _,.c _,.c _,.c _] [([],[0]),([0],[]),([1],[]),([2],[]),([3],[]),([4],[0]),([4,5],[]),([4,6],[]),([4,7],[]),([4],[0]),([4,9],[]),([4,10],[]),([4,11],[]),([4,12],[]),([4,8,13],[]),([4,14],[])] Mx rfl rfl rfl rfl ⟨Dn (.move (.t rfl)),Dn (.nilCheckB (.t rfl)),Dn (.fieldAddrB (o:=0) Tryz.underlying92 rfl J4 (.t rfl) rfl),Dn (.loadBF 0 rfl ty4 fcitation_reader_2 rfl (.t rfl)),Dn (.move (.t rfl)),Dp rfl hb1,Dp rfl hb1,Dp rfl hb1,Dp rfl hb1,Dp rfl hb1,Dp rfl hb1,Dp rfl hb1,Dp rfl hb1,Dp rfl hb1,Dp rfl hb1,Dn (.pickT (.t rfl) hb1 .bool),trivial⟩<|Aq<|W.condT (.t rfl)<|Aw<|Ao rfl (.assign (.str rfl (by decide)))<|Ao rfl (.assign .bool)<|WL.ns ?_
  cases hm
  exact W.ret2 () rfl rfl (.t rfl) (.t rfl) ⟨rfl,rfl,trivial⟩
 ·refine W.draw [.c _,.c _,.c _,.c _,.c _,.c _,.c _,.c _,.c _,.c _,.c _,.c _,.c _,.c _,.c _,.c _] [([],[0]),([0],[]),([1],[]),([2],[]),([3],[]),([4],[0]),([4,5],[]),([4,6],[]),([4,7],[]),([4],[0]),([4,9],[]),([4,10],[]),([4,11],[]),([4,12],[]),([4,8,13],[]),([4,14],[])] Mx rfl rfl rfl rfl ⟨Dn (.move (.t rfl)),Dn (.nilCheckB (.t rfl)),Dn (.fieldAddrB (o:=0) Tryz.underlying92 rfl J4 (.t rfl) rfl),Dn (.loadBF 0 rfl ty4 fcitation_reader_2 rfl (.t rfl)),Dn (.move (.t rfl)),Dr rfl hb1 (.move (.t rfl)),Dr rfl hb1 (.nilCheckB (.t rfl)),Dr rfl hb1 (.fieldAddrB (o:=0) Tryz.underlying92 rfl J3 (.t rfl) rfl),Dr rfl hb1 (.loadBF 0 rfl ty3 fcitation_reader_1 rfl (.t rfl)),Dr rfl hb1 (.move (.t rfl)),Dr rfl hb1 (.nilCheckB (.t rfl)),Dr rfl hb1 (.fieldAddrB (o:=0) Tryz.underlying92 rfl J55 (.t rfl) rfl),Dr rfl hb1 (.loadBF 0 rfl ty55 fcitation_reader_0 rfl (.t rfl)),Dr rfl hb1 (.lenL U55 (.t rfl)),Dr rfl hb1 (.geI (.t rfl) (.t rfl)),Dn (.pickF (.t rfl) hb1 (.t rfl)),trivial⟩<|Aq<|W.cD hm (.t rfl) (fun hp4 hm=>?_) (fun hp4 hm=>?_)
  ·refine Aw<|Ao rfl (.assign (.str rfl (by decide)))<|Ao rfl (.assign .bool)<|WL.ns ?_
   cases hm
   exact W.ret2 () rfl rfl (.t rfl) (.t rfl) ⟨rfl,rfl,trivial⟩
  ·refine W.skip<|Aq<|W.seq ?_
   obtain ⟨v,hv5,hm⟩:=Bs hm
   refine W.draw [.c _,.c _,.c _,.c _,.c _,.c _,.c _,.c _,.c _,.c _,.c _] [([],[0]),([0],[]),([1],[]),([2],[]),([],[0]),([4],[]),([5],[]),([6],[]),([3,7],[]),([8],[]),([9],[])] Mx rfl rfl rfl rfl ⟨Dn (.move (.t rfl)),Dn (.nilCheckB (.t rfl)),Dn (.fieldAddrB (o:=0) Tryz.underlying92 rfl J55 (.t rfl) rfl),Dn (.loadBF 0 rfl ty55 fcitation_reader_0 rfl (.t rfl)),Dn (.move (.t rfl)),Dn (.nilCheckB (.t rfl)),Dn (.fieldAddrB (o:=0) Tryz.underlying92 rfl J3 (.t rfl) rfl),Dn (.loadBF 0 rfl ty3 fcitation_reader_1 rfl (.t rfl)),Dn (.idx hv5 U55 Z9 (.t rfl) (.t rfl)),Dn (.load ty9 (.t rfl)),Dn (.assign (.t rfl)),trivial⟩<|WN.seq ?_
   obtain ⟨s6,hs7,hk8⟩:=Bs hm
   clear hm
   refine W.join (fun s:Str×citation_reader=>(Sum.inl s:(Str×citation_reader) ⊕ ((Str×Bool)×citation_reader))=s6) (fun s=>[(6,(tS.is s.1)),(0,(Bp b 0))]) (fun s=>[(0,(Bx 3 true 92 (tcitation_reader.is s.2) b))]) ?_ ?_
   ·rintro ⟨s0_,r0_1⟩ hj30
    try dsimp only at hj30
    subst hj30
    have hm:=hk8
    clear hk8
    try dsimp only at hm
    change W _ _ _ _ _ _ _ [(6,(tS.is s0_)),(0,(Bp b 0))] [(0,(Bx 3 true 92 (tcitation_reader.is r0_1) b))]
    refine Aw<|Am rfl rfl<|Ao rfl (.nilCheckB (.t rfl))<|Ao rfl (.fieldAddrB (o:=0) Tryz.underlying92 rfl J3 (.t rfl) rfl)<|Ao rfl (.loadBF 0 rfl ty3 fcitation_reader_1 rfl (.t rfl)) ?_
    obtain ⟨v7,hv29,hm⟩:=Bs hm
    refine Ao rfl (.addC hv29 (.t rfl) .i64)<|Ao rfl (.nilCheckB (.t rfl))<|Ao rfl (.fieldAddrB (o:=0) Tryz.underlying92 rfl J3 (.t rfl) rfl)<|WL.opU (OpR.storeBF (b:=b) 0 rfl ty3 scitation_reader_1 rfl (by decide) (.t rfl) (.t rfl)) fun _=>Ar<|Am rfl rfl<|Ag rfl rfl<|Ao rfl (.assign .bool)<|WL.ns ?_
    cases hm
    exact W.ret2 () rfl rfl (.t rfl) (.t rfl) ⟨rfl,rfl,trivial⟩
   ·have hm:=hs7
    clear hs7
    refine Aw<|Am rfl rfl<|WL.mv rfl rfl ?_
    obtain ⟨v1,hv9,hm⟩:=Bs hm
    refine Ao rfl (.callF (ok:=(fun s:Str×Bool=>is s.1=some s.2)) (As:=(fun s:Str×Bool=>[tS.is s.1])) (A:=(fun s:Str×Bool=>(tB.is s.2))) (s:=(v,v1)) (.t rfl) hv9 ⟨(.t rfl),trivial⟩)<|Ao rfl (.notB (.t rfl))<|An<|W.cR hm (.t rfl) (fun hp11 hm=>?_) (fun hp11 hm=>?_)
    ·refine Aw<|Am rfl rfl<|Ao rfl (.lenS U9 (.t rfl)) ?_
     obtain ⟨v2,hv12,hm⟩:=Bs hm
     refine Ao rfl (.subC hv12 (.t rfl) .i64)<|Ag rfl rfl<|An<|W.seq ?_
     obtain ⟨s13,hs14,hk15⟩:=Bs hm
     clear hm
     refine W.join (fun s:Bool=>s=s13) (fun s=>[(57,(tB.is s)),(0,(Bp b 0)),(6,(tS.is v)),(7,(I6.is v2))]) (fun s=>[(0,(Bx 3 true 92 (tcitation_reader.is r0_) b))]) ?_ ?_
     ·rintro v3 hj28
      try dsimp only at hj28
      subst hj28
      have hm:=hk15
      clear hk15
      try dsimp only at hm
      change W _ _ _ _ _ _ _ [(57,(tB.is v3)),(0,(Bp b 0)),(6,(tS.is v)),(7,(I6.is v2))] [(0,(Bx 3 true 92 (tcitation_reader.is r0_) b))]
      refine W.cB hm (.t rfl) (fun hp25 hm=>?_) (fun hp25 hm=>?_)
      ·refine Aw<|Ao rfl (.assign (.str rfl (by decide)))<|Ao rfl (.assign .bool)<|WL.ns ?_
       have hr26:=Si hm
       clear hm
       subst hr26
       have hm:=hk8
       try dsimp only at hm
       cases hm
       exact W.ret2 () rfl rfl (.t rfl) (.t rfl) ⟨rfl,rfl,trivial⟩
      ·refine W.skip<|Aq<|W.region<|Am rfl rfl<|Am rfl rfl<|WL.mv rfl rfl ?_
       obtain ⟨v6,hv27,hm⟩:=Bs hm
       exact Ao rfl (.sslcHi hv27 U9 (.t rfl) (.t rfl))<|Ag rfl rfl<|Ao rfl (.nilCheckB (.t rfl))<|Ao rfl (.fieldAddrB (o:=0) Tryz.underlying92 rfl J4 (.t rfl) rfl)<|WL.opU (OpR.storeBF (b:=b) 0 rfl ty4 scitation_reader_2 rfl (by decide) (.t rfl) .bool) fun _=>WL.nil<|WN.meet (v6,({r0_ with ended_:=true}:citation_reader)) (Si hm) ⟨.q rfl,.q rfl,trivial⟩ ⟨rfl,rfl,trivial⟩
     ·have hm:=hs14
      clear hs14
      refine W.region<|Am rfl rfl<|Ao rfl (.ltI (.t rfl) .i64)<|WL.mv rfl rfl ?_
      rcases iteD hm with ⟨hp17,hb16,hm⟩ | ⟨hp17,hb16,hm⟩
      ·exact Ap rfl hb16<|Ap rfl hb16<|Ap rfl hb16<|Ap rfl hb16<|Ap rfl hb16<|Ao rfl (.pickT (.t rfl) hb16 .bool)<|Am rfl rfl<|Ap rfl rfl<|Ap rfl rfl<|Ap rfl rfl<|Ap rfl rfl<|Ap rfl rfl<|Ap rfl rfl<|Ao rfl (.pickT (.t rfl) rfl .bool)<|WL.nil<|WN.meet true (Si hm) ⟨.q rfl,.q rfl,.q rfl,.q rfl,trivial⟩ ⟨rfl,rfl,trivial⟩
      ·refine Ax rfl hb16 (.move (.t rfl))<|Ax rfl hb16 (.move (.t rfl)) ?_
       obtain ⟨b1,hv18,hm⟩:=Bs hm
       refine Ax rfl hb16 (.sidx hv18 U9 (.t rfl) (.t rfl)) ?_
       obtain ⟨indexb,hv19,hm⟩:=Bs hm
       refine Ax rfl hb16 (.call C119 (strings_IndexByte_spec _ _ _ hv19) ⟨(.str rfl (by decide)),(.t rfl),trivial⟩)<|Ax rfl hb16 (.ltI (.t rfl) .i64)<|Ao rfl (.pickF (.t rfl) hb16 (.t rfl))<|WL.mv rfl rfl ?_
       rcases iteD hm with ⟨hp21,hb20,hm⟩ | ⟨hp21,hb20,hm⟩
       ·exact Ap rfl hb20<|Ap rfl hb20<|Ap rfl hb20<|Ap rfl hb20<|Ap rfl hb20<|Ap rfl hb20<|Ao rfl (.pickT (.t rfl) hb20 .bool)<|WL.nil<|WN.meet true (Si hm) ⟨.q rfl,.q rfl,.q rfl,.q rfl,trivial⟩ ⟨rfl,rfl,trivial⟩
       ·refine Ax rfl hb20 (.move (.t rfl))<|Ax rfl hb20 (.move (.t rfl))<|Ax rfl hb20 (.move (.t rfl)) ?_
        obtain ⟨v4,hv22,hm⟩:=Bs hm
        refine Ax rfl hb20 (.sslcHi hv22 U9 (.t rfl) (.t rfl)) ?_
        obtain ⟨v5,hv23,hm⟩:=Bs hm
        exact Ax rfl hb20 (.callF (ok:=(fun s:Str×Bool=>is s.1=some s.2)) (As:=(fun s:Str×Bool=>[tS.is s.1])) (A:=(fun s:Str×Bool=>(tB.is s.2))) (s:=(v4,v5)) (.t rfl) hv23 ⟨(.t rfl),trivial⟩)<|Ax rfl hb20 (.notB (.t rfl))<|Ao rfl (.pickF (.t rfl) hb20 (.t rfl))<|WL.nil<|WN.meet (!v5) (Si hm) ⟨.q rfl,.q rfl,.q rfl,.q rfl,trivial⟩ ⟨rfl,rfl,trivial⟩
    ·exact W.skip<|WN.meet (v,r0_) (Si hm) ⟨.q rfl,.q rfl,trivial⟩ ⟨rfl,rfl,trivial⟩
theorem citation_reader_just_spec(r0_:citation_reader)(want:Str)(b:Nat)(r:Bool×citation_reader)(hm:M.citation_reader_just r0_ want=some r):FSpecR Tryz.prog 84 [(Bp b 0),(tS.is want)] [(0,(Bx 3 true 92 (tcitation_reader.is r0_) b))] (fun kx:Unit=>(tB.is r.1)) (fun kx:Unit=>[(0,(Bx 3 true 92 (tcitation_reader.is r.2) b))]):=by
 unfold M.citation_reader_just at hm
 refine FSpecR.of Tryz.func84 rfl rfl rfl fun g0=>Aw<|Ao rfl (.box (.t rfl))<|Ao rfl (.assign .bool)<|Ar<|Am rfl rfl<|Ao rfl (.makeFunc (ok:=(fun s:Str×Bool=>(fun s0=>M.citation_reader_just_1 s0 want) s.1=some s.2)) (As:=(fun s:Str×Bool=>[tS.is s.1])) (A:=(fun s:Str×Bool=>(tB.is s.2))) (Cs:=[(tS.ptr want)]) (cap:=[.tmp 3]) C108 ⟨(.t rfl),trivial⟩ (fun s hs=>citation_reader_just_1_spec _ _ _ hs)) ?_
 obtain ⟨⟨word,r0_1⟩,hv1,hm⟩:=Bs hm
 dsimp only at hm
 refine WL.weakR (res':=[(0,(Bx 3 true 92 (tcitation_reader.is r0_) b))]) ⟨rfl,rfl,trivial⟩<|WL.opR rfl (OpR.call (us:=[0]) (A:=fun kx:Unit=>(Asn.tuple2 (tS.is word.1) (tB.is word.2))) C107 (FSpecR.keys (rin':=[(0,(Bx 3 true 92 (tcitation_reader.is r0_) b))]) (out':=fun kx:Unit=>[(0,(Bx 3 true 92 (tcitation_reader.is r0_1) b))]) (citation_reader_word_spec _ _ _ _ hv1) rfl (fun _=>rfl)) rfl ⟨(.t rfl),(.t rfl),trivial⟩) fun _=>Am rfl rfl<|Ao rfl (.extract0 (.t rfl))<|Ao rfl (.extract1 (.t rfl))<|Ag rfl rfl<|Ag rfl rfl<|Ar<|Am rfl rfl<|Ag rfl rfl<|WL.ns ?_
 cases hm
 exact W.ret1 () rfl (.t rfl) ⟨rfl,rfl,trivial⟩
theorem citation_single_spec (r:(List Str))(hm:M.citation_single=some r):FSpec Tryz.prog 110 [] ((tL tS).is r):=by
 unfold M.citation_single at hm
 refine FSpec.of Tryz.func110 rfl rfl rfl fun g0=>Aw<|Ao rfl (.assign (.nil (t:=tS)))<|Ar<|Ao rfl (.buildSlice (n:=8) (ys:=[(1,([112,97,114,116]:Str)),(2,([115,101,99,116,105,111,110]:Str)),(3,([112,97,114,97,103,114,97,112,104]:Str)),(4,([116,97,98,108,101]:Str)),(5,([114,111,119]:Str)),(6,([99,101,108,108]:Str)),(7,([110,111,116,101]:Str))]) (z:=([]:Str)) (xs:=[([]:Str),([112,97,114,116]:Str),([115,101,99,116,105,111,110]:Str),([112,97,114,97,103,114,97,112,104]:Str),([116,97,98,108,101]:Str),([114,111,119]:Str),([99,101,108,108]:Str),([110,111,116,101]:Str)]) U55 el9 ze9 ⟨rfl,(.str rfl (by decide)),rfl,(.str rfl (by decide)),rfl,(.str rfl (by decide)),rfl,(.str rfl (by decide)),rfl,(.str rfl (by decide)),rfl,(.str rfl (by decide)),rfl,(.str rfl (by decide)),trivial⟩ (by simp) (by decide) rfl)<|Ag rfl rfl<|WL.ns ?_
 cases hm
 exact W.ret1 () rfl (.t rfl) trivial
theorem slices_Index_string_string_spec(n:Nat)(s0_:List Str)(v:Str)(r:Int)(hm:M.slices_Index_string_string n s0_ v=some r):FSpec Tryz.prog 129 [((tL tS).is s0_),(tS.is v)] (I6.is r):=by
 unfold M.slices_Index_string_string at hm
 refine FSpec.of Tryz.func129 rfl rfl rfl fun g0=>Aw<|Ao rfl (.assign .i64)<|An<|W.seq<|Aw<|Am rfl rfl<|Ao rfl (.lenL U55 (.t rfl))<|Ao rfl (.move .i64)<|An<|W.block ?_
 obtain ⟨s1,hs2,hk3⟩:=Bs hm
 clear hm
 refine W.loop (fun m (s:Int)=>M.slices_Index_string_string_loop1 s0_ v m s=some s1) (fun s=>[(8,(I6.is s)),(0,((tL tS).is s0_)),(1,(tS.is v)),(7,(I6.is (s0_.length:Int)))]) (fun s=>[]) _ (0:Int) hs2 ⟨.q rfl,.q rfl,.q rfl,.q rfl,trivial⟩ trivial ?_
 rintro n4 v1 hm
 try dsimp only at hm
 change W _ _ _ _ _ _ _ [(8,(I6.is v1)),(0,((tL tS).is s0_)),(1,(tS.is v)),(7,(I6.is (s0_.length:Int)))] []
 cases n4 with
 | zero=>rw [M.slices_Index_string_string_loop1.eq_1] at hm;cases hm
 | succ n4=>
  rw [M.slices_Index_string_string_loop1.eq_2] at hm
  refine Aw<|Ao rfl (.ltI (.t rfl) (.t rfl))<|An<|W.seq<|W.cD hm (.t rfl) (fun hp6 hm=>?_) (fun hp6 hm=>?_)
  ·refine W.skip<|Aq<|W.seq<|W.block<|Aw<|Am rfl rfl<|Ag rfl rfl<|Ar<|Am rfl rfl<|Am rfl rfl<|WL.mv rfl rfl ?_
   obtain ⟨v2,hv7,hm⟩:=Bs hm
   refine Ao rfl (.idx hv7 U55 Z9 (.t rfl) (.t rfl))<|Ao rfl (.load ty9 (.t rfl))<|Ao rfl (.eqS (.t rfl) (.t rfl))<|An<|W.cB hm (.t rfl) (fun hp9 hm=>?_) (fun hp9 hm=>?_)
   ·refine Aw<|Am rfl rfl<|Ag rfl rfl<|WL.ns ?_
    have hr10:=Si hm
    clear hm
    subst hr10
    have hm:=hk3
    try dsimp only at hm
    cases hm
    exact W.ret1 () rfl (.t rfl) trivial
   ·exact W.skip<|WN.block<|Aq<|W.region<|WL.lenL (s:=0) (.t rfl) fun hl11=>Ao rfl (.addI1 (.t rfl) .i64 hp6 hl11)<|Am rfl rfl<|WL.nil<|WN.again n4 (v1+1) (Nat.lt_succ_self n4) hm ⟨.q rfl,.q rfl,.q rfl,.q rfl,trivial⟩ trivial
  ·refine W.exit rfl ?_
   have hr12:=Si hm
   clear hm
   subst hr12
   have hm:=hk3
   try dsimp only at hm
   refine Aq<|Aw<|Ao rfl (.assign .i64)<|WL.ns ?_
   cases hm
   exact W.ret1 () rfl (.t rfl) trivial
theorem citation_kind_spec(n:Nat)(l:List Str)(word:Str)(r:Int)(hm:M.citation_kind n l word=some r):FSpec Tryz.prog 121 [((tL tS).is l),(tS.is word)] (I6.is r):=by
 unfold M.citation_kind at hm
 refine FSpec.of Tryz.func121 rfl rfl rfl fun g0=>Aw<|Ao rfl (.assign .i64)<|An<|W.seq<|Aw<|Am rfl rfl<|Ao rfl (.eqS (.t rfl) (.str rfl (by decide)))<|An<|W.cB hm (.t rfl) (fun hp2 hm=>?_) (fun hp2 hm=>?_)
 ·refine Aw<|Ao rfl (.assign .i64)<|WL.ns ?_
  cases hm
  exact W.ret1 () rfl (.t rfl) trivial
 ·refine W.skip<|Aq<|Aw<|Am rfl rfl<|WL.mv rfl rfl ?_
  obtain ⟨string,hv3,hm⟩:=Bs hm
  refine Ao rfl (.call C129 (slices_Index_string_string_spec _ _ _ _ hv3) ⟨(.t rfl),(.t rfl),trivial⟩)<|Ao rfl (.maxI (.t rfl) .i64)<|Ag rfl rfl<|WL.ns ?_
  cases hm
  exact W.ret1 () rfl (.t rfl) trivial
theorem citation_reader_kind_1_spec(n:Nat)(s0_:Str)(c:List Str)(r:Bool)(hm:M.citation_reader_kind_1 n s0_ c=some r):FSpec Tryz.prog 120 [(tS.is s0_),((tL tS).ptr c)] (tB.is r):=by
 unfold M.citation_reader_kind_1 at hm
 refine FSpec.of Tryz.func120 rfl rfl rfl fun g0=>Aw<|Ao rfl (.assign .bool)<|Ar<|Ao rfl (.load ty55 (.t rfl))<|WL.mv rfl rfl ?_
 obtain ⟨kind,hv1,hm⟩:=Bs hm
 refine Ao rfl (.call C121 (citation_kind_spec _ _ _ _ hv1) ⟨(.t rfl),(.t rfl),trivial⟩)<|Ao rfl (.gtI (.t rfl) .i64)<|Ag rfl rfl<|WL.ns ?_
 cases hm
 exact W.ret1 () rfl (.t rfl) trivial
theorem citation_reader_kind_spec(n:Nat)(r0_:citation_reader)(l:List Str)(b:Nat)(r:(Int×Bool)×citation_reader)(hm:M.citation_reader_kind n r0_ l=some r):FSpecR Tryz.prog 109 [(Bp b 0),((tL tS).is l)] [(0,(Bx 3 true 92 (tcitation_reader.is r0_) b))] (fun kx:Unit=>(Asn.tuple2 (I6.is r.1.1) (tB.is r.1.2))) (fun kx:Unit=>[(0,(Bx 3 true 92 (tcitation_reader.is r.2) b))]):=by
 unfold M.citation_reader_kind at hm
 refine FSpecR.of Tryz.func109 rfl rfl rfl fun g0=>Aw<|Ao rfl (.box (.t rfl))<|Ao rfl (.assign .i64)<|Ao rfl (.assign .bool)<|Ar<|Am rfl rfl<|Ao rfl (.makeFunc (ok:=(fun s:Str×Bool=>(fun s0=>M.citation_reader_kind_1 n s0 l) s.1=some s.2)) (As:=(fun s:Str×Bool=>[tS.is s.1])) (A:=(fun s:Str×Bool=>(tB.is s.2))) (Cs:=[((tL tS).ptr l)]) (cap:=[.tmp 3]) C120 ⟨(.t rfl),trivial⟩ (fun s hs=>citation_reader_kind_1_spec _ _ _ _ hs)) ?_
 obtain ⟨⟨word,r0_1⟩,hv1,hm⟩:=Bs hm
 dsimp only at hm
 refine WL.weakR (res':=[(0,(Bx 3 true 92 (tcitation_reader.is r0_) b))]) ⟨rfl,rfl,trivial⟩<|WL.opR rfl (OpR.call (us:=[0]) (A:=fun kx:Unit=>(Asn.tuple2 (tS.is word.1) (tB.is word.2))) C107 (FSpecR.keys (rin':=[(0,(Bx 3 true 92 (tcitation_reader.is r0_) b))]) (out':=fun kx:Unit=>[(0,(Bx 3 true 92 (tcitation_reader.is r0_1) b))]) (citation_reader_word_spec _ _ _ _ hv1) rfl (fun _=>rfl)) rfl ⟨(.t rfl),(.t rfl),trivial⟩) fun _=>Am rfl rfl<|Ao rfl (.extract0 (.t rfl))<|Ao rfl (.extract1 (.t rfl))<|Ag rfl rfl<|Ag rfl rfl<|Ar<|Ao rfl (.load ty55 (.t rfl))<|WL.mv rfl rfl ?_
 obtain ⟨kind,hv2,hm⟩:=Bs hm
 refine Ao rfl (.call C121 (citation_kind_spec _ _ _ _ hv2) ⟨(.t rfl),(.t rfl),trivial⟩)<|Am rfl rfl<|Ag rfl rfl<|Ag rfl rfl<|WL.ns ?_
 cases hm
 exact W.ret2 () rfl rfl (.t rfl) (.t rfl) ⟨rfl,rfl,trivial⟩
theorem citation_reader_step_spec(n:Nat)(r0_:citation_reader)(l:List Str)(b:Nat)(r:(api_Step×Bool)×citation_reader)(hm:M.citation_reader_step n r0_ l=some r):FSpecR Tryz.prog 105 [(Bp b 0),((tL tS).is l)] [(0,(Bx 3 true 92 (tcitation_reader.is r0_) b))] (fun kx:Unit=>(Asn.tuple2 (tapi_Step.is r.1.1) (tB.is r.1.2))) (fun kx:Unit=>[(0,(Bx 3 true 92 (tcitation_reader.is r.2) b))]):=by
 unfold M.citation_reader_step at hm
 refine FSpecR.of Tryz.func105 rfl rfl rfl fun g0=>Aw<|WL.opR rfl (OpR.alloc 4 ze49) fun b1=>Ao rfl (.assign .bool)<|Ar<|Am rfl rfl<|Ao rfl (.nilCheckB (.t rfl))<|Ao rfl (.loadB 0 Y92 Z92 rfl (.t rfl))<|WL.opR rfl (OpR.alloc 6 ze92) fun b2=>WL.opU (OpR.storeB (b:=b2) 6 Z92 (Cellable.is tcitation_reader r0_) rfl (.t rfl) (.t rfl)) fun _=>WL.sealed (t:=tcitation_reader) (u:=r0_) 6 6 rfl rfl<|Ar<|Am rfl rfl<|WL.mv rfl rfl ?_
 obtain ⟨⟨kind,r0_1⟩,hv1,hm⟩:=Bs hm
 dsimp only at hm
 refine WL.weakR (res':=[(0,(Bx 3 true 92 (tcitation_reader.is r0_) b)),(4,(Bx 2 true 49 (tapi_Step.is zapi_Step) b1))]) ⟨rfl,rfl,⟨rfl,rfl,trivial⟩⟩<|WL.opR rfl (OpR.call (us:=[0]) (A:=fun kx:Unit=>(Asn.tuple2 (I6.is kind.1) (tB.is kind.2))) C109 (FSpecR.keys (rin':=[(0,(Bx 3 true 92 (tcitation_reader.is r0_) b))]) (out':=fun kx:Unit=>[(0,(Bx 3 true 92 (tcitation_reader.is r0_1) b))]) (citation_reader_kind_spec _ _ _ _ _ hv1) rfl (fun _=>rfl)) rfl ⟨(.t rfl),(.t rfl),trivial⟩) fun _=>Am rfl rfl<|Ao rfl (.extract0 (.t rfl))<|Ao rfl (.extract1 (.t rfl))<|Ag rfl rfl<|Ag rfl rfl<|Ar<|WL.mv rfl rfl ?_
 obtain ⟨⟨word,r0_2⟩,hv2,hm⟩:=Bs hm
 dsimp only at hm
 refine WL.weakR (res':=[(0,(Bx 3 true 92 (tcitation_reader.is r0_1) b)),(4,(Bx 2 true 49 (tapi_Step.is zapi_Step) b1))]) ⟨rfl,rfl,⟨rfl,rfl,trivial⟩⟩<|WL.opR rfl (OpR.call (us:=[0]) (A:=fun kx:Unit=>(Asn.tuple2 (tS.is word.1) (tB.is word.2))) C107 (FSpecR.keys (rin':=[(0,(Bx 3 true 92 (tcitation_reader.is r0_1) b))]) (out':=fun kx:Unit=>[(0,(Bx 3 true 92 (tcitation_reader.is r0_2) b))]) (citation_reader_word_spec _ _ _ _ hv2) rfl (fun _=>rfl)) rfl ⟨(.t rfl),(Opd.fn C44 (fun s hs=>label_Valid_spec _ _ _ hs)),trivial⟩) fun _=>Am rfl rfl<|Ao rfl (.extract0 (.t rfl))<|Ao rfl (.extract1 (.t rfl))<|Ag rfl rfl<|Ag rfl rfl<|An<|W.seq ?_
 obtain ⟨s3,hs4,hk5⟩:=Bs hm
 clear hm
 refine W.join (fun s:Bool=>s=s3) (fun s=>[(30,(tB.is s)),(0,(Bp b 0)),(4,(Bp b1 0)),(6,(tcitation_reader.ptr r0_)),(7,(I6.is kind.1)),(9,(tS.is word.1))]) (fun s=>[(0,(Bx 3 true 92 (tcitation_reader.is r0_2) b)),(4,(Bx 2 true 49 (tapi_Step.is zapi_Step) b1))]) ?_ ?_
 ·rintro v hj10
  try dsimp only at hj10
  subst hj10
  have hm:=hk5
  clear hk5
  try dsimp only at hm
  change W _ _ _ _ _ _ _ [(30,(tB.is v)),(0,(Bp b 0)),(4,(Bp b1 0)),(6,(tcitation_reader.ptr r0_)),(7,(I6.is kind.1)),(9,(tS.is word.1))] [(0,(Bx 3 true 92 (tcitation_reader.is r0_2) b)),(4,(Bx 2 true 49 (tapi_Step.is zapi_Step) b1))]
  refine W.cB hm (.t rfl) (fun hp9 hm=>?_) (fun hp9 hm=>?_)
  ·refine Aw<|Am rfl rfl<|Ao rfl (.load ty92 (.t rfl))<|Ao rfl (.nilCheckB (.t rfl))<|WL.opU (OpR.storeB (b:=b) 0 Z92 (Cellable.is tcitation_reader r0_) rfl (.t rfl) (.t rfl)) fun _=>Ar<|Ao rfl (.build (s:=tapi_Step) (x:=(⟨(0:Int),([]:Str)⟩:api_Step)) zapi_Step_f rfl U49 (zapi_Step_sz _ U49) ze49 rfl)<|WL.opU (OpR.storeB (b:=b1) 4 Z49 (Cellable.is tapi_Step (⟨(0:Int),([]:Str)⟩:api_Step)) rfl (.t rfl) (.t rfl)) fun _=>Ao rfl (.assign .bool)<|WL.ns ?_
   cases hm
   exact W.retQ2 () rfl rfl (ResAt.cell 4 Y49 Z49 rfl (.t rfl)) (ResAt.tmp (.t rfl)) ⟨rfl,rfl,trivial⟩
  ·refine W.skip<|Aq<|Aw<|Am rfl rfl<|Am rfl rfl<|Ao rfl (.build (s:=tapi_Step) (x:=(⟨kind.1,word.1⟩:api_Step)) zapi_Step_f rfl U49 (zapi_Step_sz _ U49) ze49 ⟨_,I6,kind.1,_,_,rfl,Z3,(.t rfl),sapi_Step_0,⟨_,tS,word.1,_,_,rfl,Z9,(.t rfl),sapi_Step_1,rfl⟩⟩)<|WL.opU (OpR.storeB (b:=b1) 4 Z49 (Cellable.is tapi_Step (⟨kind.1,word.1⟩:api_Step)) rfl (.t rfl) (.t rfl)) fun _=>Ao rfl (.assign .bool)<|WL.ns ?_
   cases hm
   exact W.retQ2 () rfl rfl (ResAt.cell 4 Y49 Z49 rfl (.t rfl)) (ResAt.tmp (.t rfl)) ⟨rfl,rfl,trivial⟩
 ·have hm:=hs4
  clear hs4
  refine W.region<|Am rfl rfl<|Ao rfl (.notB (.t rfl))<|WL.mv rfl rfl ?_
  rcases iteR hm with ⟨hp7,hb6,hm⟩ | ⟨hp7,hb6,hm⟩
  ·exact Ap rfl hb6<|Ap rfl hb6<|Ao rfl (.pickT (.t rfl) hb6 .bool)<|WL.nil<|WN.meet true (Si hm) ⟨.q rfl,.q rfl,.q rfl,.q rfl,.q rfl,.q rfl,trivial⟩ ⟨rfl,rfl,⟨rfl,rfl,trivial⟩⟩
  ·exact Ax rfl hb6 (.move (.t rfl))<|Ax rfl hb6 (.notB (.t rfl))<|Ao rfl (.pickF (.t rfl) hb6 (.t rfl))<|WL.nil<|WN.meet (!word.2) (Si hm) ⟨.q rfl,.q rfl,.q rfl,.q rfl,.q rfl,.q rfl,trivial⟩ ⟨rfl,rfl,⟨rfl,rfl,trivial⟩⟩
theorem citation_reader_more_spec(n:Nat)(r0_:citation_reader)(p:List api_Step)(b:Nat)(k:Tok)(r:((List api_Step))×citation_reader)(hm:M.citation_reader_more n r0_ p=some r):FSpecR Tryz.prog 104 [(Bp b 0),(tO tapi_Step k p)] [(0,(Bx 3 true 92 (tcitation_reader.is r0_) b)),(1000001,Dec.Own tapi_Step 49 k p.length)] (fun kx:Tok=>tO tapi_Step kx r.1) (fun kx:Tok=>[(0,(Bx 3 true 92 (tcitation_reader.is r.2) b)),(77777,Dec.Own tapi_Step 49 kx r.1.length)]):=by
 unfold M.citation_reader_more at hm
 refine FSpecR.of Tryz.func104 rfl rfl rfl fun g0=>Aw<|WL.addNil (t:=tapi_Step) (E:=49) 4<|Ao rfl (.assign (Opd.nilO (t:=tapi_Step)))<|An<|W.seq<|W.block ?_
 obtain ⟨s1,hs2,hk3⟩:=Bs hm
 clear hm
 refine W.loop (fun m (s:((List api_Step)×citation_reader)×Tok)=>M.citation_reader_more_loop1 m s.1.1 s.1.2=some s1) (fun s=>[(1,(tO tapi_Step s.2 s.1.1)),(0,(Bp b 0))]) (fun s=>[(1000001,Dec.Own tapi_Step 49 s.2 s.1.1.length),(0,(Bx 3 true 92 (tcitation_reader.is s.1.2) b))]) _ ((p,r0_),k) hs2 ⟨.q rfl,.q rfl,trivial⟩ ⟨rfl,rfl,⟨rfl,rfl,trivial⟩⟩ ?_
 rintro n4 ⟨⟨p1,r0_1⟩,k1⟩ hm
 try dsimp only at hm
 change W _ _ _ _ _ _ _ [(1,(tO tapi_Step k1 p1)),(0,(Bp b 0))] [(1000001,Dec.Own tapi_Step 49 k1 p1.length),(0,(Bx 3 true 92 (tcitation_reader.is r0_1) b))]
 cases n4 with
 | zero=>rw [M.citation_reader_more_loop1.eq_1] at hm;cases hm
 | succ n4=>
  rw [M.citation_reader_more_loop1.eq_2] at hm
  refine W.seq<|Aw<|Am rfl rfl<|Ao rfl (.lenL U50 (Opd.own (.t rfl)))<|Ao rfl (.ltI (.t rfl) .i64)<|An<|W.cD hm (.t rfl) (fun hp6 hm=>?_) (fun hp6 hm=>?_)
  ·refine W.skip<|Aq<|W.block<|Aw<|WL.mv rfl rfl ?_
   obtain ⟨single,hv7,hm⟩:=Bs hm
   refine Ao rfl (.call C110 (citation_single_spec _ hv7) trivial) ?_
   obtain ⟨⟨step,r0_2⟩,hv8,hm⟩:=Bs hm
   dsimp only at hm
   refine WL.weakR (res':=[(0,(Bx 3 true 92 (tcitation_reader.is r0_1) b)),(1000001,Dec.Own tapi_Step 49 k1 p1.length)]) ⟨rfl,rfl,⟨rfl,rfl,trivial⟩⟩<|WL.opR rfl (OpR.call (us:=[0]) (A:=fun kx:Unit=>(Asn.tuple2 (tapi_Step.is step.1) (tB.is step.2))) C105 (FSpecR.keys (rin':=[(0,(Bx 3 true 92 (tcitation_reader.is r0_1) b))]) (out':=fun kx:Unit=>[(0,(Bx 3 true 92 (tcitation_reader.is r0_2) b))]) (citation_reader_step_spec _ _ _ _ _ hv8) rfl (fun _=>rfl)) rfl ⟨(.t rfl),(.t rfl),trivial⟩) fun _=>Am rfl rfl<|Ao rfl (.extract0 (.t rfl))<|Ao rfl (.extract1 (.t rfl))<|WL.opR rfl (OpR.alloc 5 ze49) fun b1=>WL.opU (OpR.storeB (b:=b1) 5 Z49 (Cellable.is tapi_Step step.1) rfl (.t rfl) (.t rfl)) fun _=>WL.sealed (t:=tapi_Step) (u:=step.1) 5 5 rfl rfl<|Ag rfl rfl<|An<|W.seq<|Aw<|Am rfl rfl<|Ao rfl (.notB (.t rfl))<|An<|W.cR hm (.t rfl) (fun hp10 hm=>?_) (fun hp10 hm=>?_)
   ·refine W.exit rfl ?_
    have hr11:=Si hm
    clear hm
    subst hr11
    have hm:=hk3
    try dsimp only at hm
    refine Aq<|Aw<|Am rfl rfl<|Ag rfl rfl<|WL.ns ?_
    have hr:=Si hm
    clear hm
    subst hr
    exact W.weakR (res':=[(0,(Bx 3 true 92 (tcitation_reader.is r0_2) b)),(1000001,Dec.Own tapi_Step 49 k1 p1.length)]) ⟨rfl,rfl,⟨rfl,rfl,trivial⟩⟩<|W.rekey (res':=[(0,(Bx 3 true 92 (tcitation_reader.is r0_2) b)),(77777,Dec.Own tapi_Step 49 k1 p1.length)]) rfl<|W.ret1 k1 rfl (.t rfl) ⟨rfl,rfl,⟨rfl,rfl,trivial⟩⟩
   ·refine W.skip<|Aq<|W.region<|Am rfl rfl<|Ao rfl (.load ty49 (.t rfl))<|Ao rfl (.buildSlice (n:=1) (ys:=[(0,step.1)]) (z:=zapi_Step) (xs:=[step.1]) U50 el49 ze49 ⟨rfl,(.t rfl),trivial⟩ (by simp) (by decide) rfl) ?_
    obtain ⟨out,hv12,hm⟩:=Bs hm
    exact WL.opR rfl (OpR.appC (key:=1000001) hv12 U50 el49 (.t rfl) (.t rfl) rfl) fun k2=>Ag rfl rfl<|WL.nil<|WN.block<|WN.again n4 ((out,r0_2),k2) (Nat.lt_succ_self n4) hm ⟨.q rfl,.q rfl,trivial⟩ ⟨rfl,rfl,⟨rfl,rfl,trivial⟩⟩
  ·refine W.exit rfl ?_
   have hr13:=Si hm
   clear hm
   subst hr13
   have hm:=hk3
   try dsimp only at hm
   refine Aq<|Aw<|Am rfl rfl<|Ag rfl rfl<|WL.ns ?_
   have hr:=Si hm
   clear hm
   subst hr
   exact W.weakR (res':=[(0,(Bx 3 true 92 (tcitation_reader.is r0_1) b)),(1000001,Dec.Own tapi_Step 49 k1 p1.length)]) ⟨rfl,rfl,⟨rfl,rfl,trivial⟩⟩<|W.rekey (res':=[(0,(Bx 3 true 92 (tcitation_reader.is r0_1) b)),(77777,Dec.Own tapi_Step 49 k1 p1.length)]) rfl<|W.ret1 k1 rfl (.t rfl) ⟨rfl,rfl,⟨rfl,rfl,trivial⟩⟩
theorem citation_reader_path_spec(n:Nat)(r0_:citation_reader)(b:Nat)(r:((List api_Step))×citation_reader)(hm:M.citation_reader_path n r0_=some r):FSpecR Tryz.prog 81 [(Bp b 0)] [(0,(Bx 3 true 92 (tcitation_reader.is r0_) b))] (fun kx:Tok=>tO tapi_Step kx r.1) (fun kx:Tok=>[(0,(Bx 3 true 92 (tcitation_reader.is r.2) b)),(77777,Dec.Own tapi_Step 49 kx r.1.length)]):=by
 unfold M.citation_reader_path at hm
 refine FSpecR.of Tryz.func81 rfl rfl rfl fun g0=>Aw<|WL.addNil (t:=tapi_Step) (E:=49) 2<|Ao rfl (.assign (Opd.nilO (t:=tapi_Step)))<|Ar<|WL.addNil (t:=tapi_Step) (E:=49) 3<|Ao rfl (.assign (Opd.nilO (t:=tapi_Step)))<|WL.ns ?_
 obtain ⟨s1,hs2,hk3⟩:=Bs hm
 clear hm
 refine W.join (fun s:((List api_Step)×citation_reader)×Tok=>s.1=s1) (fun s=>[(3,(tO tapi_Step s.2 s.1.1)),(0,(Bp b 0))]) (fun s=>[(3,Dec.Own tapi_Step 49 s.2 s.1.1.length),(0,(Bx 3 true 92 (tcitation_reader.is s.1.2) b))]) ?_ ?_
 ·rintro ⟨⟨p,r0_1⟩,k⟩ hj9
  try dsimp only at hj9
  subst hj9
  have hm:=hk3
  clear hk3
  try dsimp only at hm
  change W _ _ _ _ _ _ _ [(3,(tO tapi_Step k p)),(0,(Bp b 0))] [(3,Dec.Own tapi_Step 49 k p.length),(0,(Bx 3 true 92 (tcitation_reader.is r0_1) b))]
  refine Aw<|Am rfl rfl<|WL.mv rfl rfl ?_
  obtain ⟨⟨more,r0_3⟩,hv8,hm⟩:=Bs hm
  dsimp only at hm
  refine WL.weakR (res':=[(0,(Bx 3 true 92 (tcitation_reader.is r0_1) b)),(3,Dec.Own tapi_Step 49 k p.length)]) ⟨rfl,rfl,⟨rfl,rfl,trivial⟩⟩<|WL.opR rfl (OpR.call (us:=[0,3]) (A:=fun kx:Tok=>(tO tapi_Step kx more)) C104 (FSpecR.keys (rin':=[(0,(Bx 3 true 92 (tcitation_reader.is r0_1) b)),(3,Dec.Own tapi_Step 49 k p.length)]) (out':=fun kx:Tok=>[(0,(Bx 3 true 92 (tcitation_reader.is r0_3) b)),(12,Dec.Own tapi_Step 49 kx more.length)]) (citation_reader_more_spec _ _ _ _ _ _ hv8) rfl (fun _=>rfl)) rfl ⟨(.t rfl),(.t rfl),trivial⟩) fun k2=>Ag rfl rfl<|WL.ns ?_
  have hr:=Si hm
  clear hm
  subst hr
  exact W.weakR (res':=[(0,(Bx 3 true 92 (tcitation_reader.is r0_3) b)),(12,Dec.Own tapi_Step 49 k2 more.length)]) ⟨rfl,rfl,⟨rfl,rfl,trivial⟩⟩<|W.rekey (res':=[(0,(Bx 3 true 92 (tcitation_reader.is r0_3) b)),(77777,Dec.Own tapi_Step 49 k2 more.length)]) rfl<|W.ret1 k2 rfl (.t rfl) ⟨rfl,rfl,⟨rfl,rfl,trivial⟩⟩
 ·have hm:=hs2
  clear hs2
  refine Aw<|WL.mv rfl rfl ?_
  obtain ⟨⟨just,r0_2⟩,hv4,hm⟩:=Bs hm
  dsimp only at hm
  refine WL.weakR (res':=[(0,(Bx 3 true 92 (tcitation_reader.is r0_) b)),(2,Dec.Own tapi_Step 49 (none:Tok) ([]:List api_Step).length),(3,Dec.Own tapi_Step 49 (none:Tok) ([]:List api_Step).length)]) ⟨rfl,rfl,⟨rfl,rfl,⟨rfl,rfl,trivial⟩⟩⟩<|WL.opR rfl (OpR.call (us:=[0]) (A:=fun kx:Unit=>(tB.is just)) C84 (FSpecR.keys (rin':=[(0,(Bx 3 true 92 (tcitation_reader.is r0_) b))]) (out':=fun kx:Unit=>[(0,(Bx 3 true 92 (tcitation_reader.is r0_2) b))]) (citation_reader_just_spec _ _ _ _ hv4) rfl (fun _=>rfl)) rfl ⟨(.t rfl),(.str rfl (by decide)),trivial⟩) fun _=>An<|W.cB hm (.t rfl) (fun hp6 hm=>?_) (fun hp6 hm=>?_)
  ·refine W.region<|Am rfl rfl<|Ao rfl (.build (s:=tapi_Step) (x:=(⟨(0:Int),([]:Str)⟩:api_Step)) zapi_Step_f rfl U49 (zapi_Step_sz _ U49) ze49 rfl)<|Ao rfl (.buildSlice (n:=1) (ys:=[(0,(⟨(0:Int),([]:Str)⟩:api_Step))]) (z:=zapi_Step) (xs:=[(⟨(0:Int),([]:Str)⟩:api_Step)]) U50 el49 ze49 ⟨rfl,(.t rfl),trivial⟩ (by simp) (by decide) rfl) ?_
   obtain ⟨p1,hv7,hm⟩:=Bs hm
   exact WL.opR rfl (OpR.appC (key:=3) hv7 U50 el49 (.t rfl) (.t rfl) rfl) fun k1=>Ag rfl rfl<|WL.nil<|WN.meet ((p1,r0_2),k1) (Si hm) ⟨.q rfl,.q rfl,trivial⟩ ⟨rfl,rfl,⟨rfl,rfl,trivial⟩⟩
  ·exact W.skip<|WN.meet ((([]:List api_Step),r0_2),(none:Tok)) (Si hm) ⟨.q rfl,.q rfl,trivial⟩ ⟨rfl,rfl,⟨rfl,rfl,trivial⟩⟩
theorem citation_forms_1_spec(n:Nat)(r0_:citation_reader)(b:Nat)(r:api_Cite×citation_reader)(hm:M.citation_forms_1 n r0_=some r):FSpecR Tryz.prog 80 [(Bp b 0)] [(0,(Bx 3 true 92 (tcitation_reader.is r0_) b))] (fun kx:Unit=>(tapi_Cite.is r.1)) (fun kx:Unit=>[(0,(Bx 3 true 92 (tcitation_reader.is r.2) b))]):=by
 unfold M.citation_forms_1 at hm
 refine FSpecR.of Tryz.func80 rfl rfl rfl fun g0=>Aw<|WL.opR rfl (OpR.alloc 2 ze52) fun b1=>Ar<|WL.mv rfl rfl ?_
 obtain ⟨⟨path,r0_1⟩,hv1,hm⟩:=Bs hm
 dsimp only at hm
 refine WL.weakR (res':=[(0,(Bx 3 true 92 (tcitation_reader.is r0_) b)),(2,(Bx 5 true 52 (tapi_Cite.is zapi_Cite) b1))]) ⟨rfl,rfl,⟨rfl,rfl,trivial⟩⟩<|WL.opR rfl (OpR.call (us:=[0]) (A:=fun kx:Tok=>(tO tapi_Step kx path)) C81 (FSpecR.keys (rin':=[(0,(Bx 3 true 92 (tcitation_reader.is r0_) b))]) (out':=fun kx:Tok=>[(0,(Bx 3 true 92 (tcitation_reader.is r0_1) b)),(4,Dec.Own tapi_Step 49 kx path.length)]) (citation_reader_path_spec _ _ _ _ hv1) rfl (fun _=>rfl)) rfl ⟨(.t rfl),trivial⟩) fun k=>Ao rfl (.build (s:=tapi_Cite) (x:=(⟨(0:Int),path,([]:Str),(0:Int),(0:Int)⟩:api_Cite)) zapi_Cite_f rfl U52 (zapi_Cite_sz _ U52) ze52 ⟨_,(tL tapi_Step),path,_,_,rfl,Z50,(Opd.own (.t rfl)),sapi_Cite_1,rfl⟩)<|WL.opU (OpR.storeB (b:=b1) 2 Z52 (Cellable.is tapi_Cite (⟨(0:Int),path,([]:Str),(0:Int),(0:Int)⟩:api_Cite)) rfl (.t rfl) (.t rfl)) fun _=>WL.ns ?_
 cases hm
 exact W.retQ1 () rfl (ResAt.cell 2 Y52 Z52 rfl (.t rfl)) ⟨rfl,rfl,trivial⟩
theorem citation_plural_spec (r:(List Str))(hm:M.citation_plural=some r):FSpec Tryz.prog 106 [] ((tL tS).is r):=by
 unfold M.citation_plural at hm
 refine FSpec.of Tryz.func106 rfl rfl rfl fun g0=>Aw<|Ao rfl (.assign (.nil (t:=tS)))<|Ar<|Ao rfl (.buildSlice (n:=8) (ys:=[(1,([112,97,114,116,115]:Str)),(2,([115,101,99,116,105,111,110,115]:Str)),(3,([112,97,114,97,103,114,97,112,104,115]:Str)),(4,([116,97,98,108,101,115]:Str)),(5,([114,111,119,115]:Str)),(7,([110,111,116,101,115]:Str))]) (z:=([]:Str)) (xs:=[([]:Str),([112,97,114,116,115]:Str),([115,101,99,116,105,111,110,115]:Str),([112,97,114,97,103,114,97,112,104,115]:Str),([116,97,98,108,101,115]:Str),([114,111,119,115]:Str),([]:Str),([110,111,116,101,115]:Str)]) U55 el9 ze9 ⟨rfl,(.str rfl (by decide)),rfl,(.str rfl (by decide)),rfl,(.str rfl (by decide)),rfl,(.str rfl (by decide)),rfl,(.str rfl (by decide)),rfl,(.str rfl (by decide)),trivial⟩ (by simp) (by decide) rfl)<|Ag rfl rfl<|WL.ns ?_
 cases hm
 exact W.ret1 () rfl (.t rfl) trivial
theorem citation_reader_span_spec(n:Nat)(r0_:citation_reader)(b:Nat)(r:api_Cite×citation_reader)(hm:M.citation_reader_span n r0_=some r):FSpecR Tryz.prog 82 [(Bp b 0)] [(0,(Bx 3 true 92 (tcitation_reader.is r0_) b))] (fun kx:Unit=>(tapi_Cite.is r.1)) (fun kx:Unit=>[(0,(Bx 3 true 92 (tcitation_reader.is r.2) b))]):=by
 unfold M.citation_reader_span at hm
 refine FSpecR.of Tryz.func82 rfl rfl rfl fun g0=>Aw<|WL.opR rfl (OpR.alloc 2 ze52) fun b1=>Ar<|WL.mv rfl rfl ?_
 obtain ⟨⟨path,r0_1⟩,hv1,hm⟩:=Bs hm
 dsimp only at hm
 refine WL.weakR (res':=[(0,(Bx 3 true 92 (tcitation_reader.is r0_) b)),(2,(Bx 5 true 52 (tapi_Cite.is zapi_Cite) b1))]) ⟨rfl,rfl,⟨rfl,rfl,trivial⟩⟩<|WL.opR rfl (OpR.call (us:=[0]) (A:=fun kx:Tok=>(tO tapi_Step kx path)) C81 (FSpecR.keys (rin':=[(0,(Bx 3 true 92 (tcitation_reader.is r0_) b))]) (out':=fun kx:Tok=>[(0,(Bx 3 true 92 (tcitation_reader.is r0_1) b)),(7,Dec.Own tapi_Step 49 kx path.length)]) (citation_reader_path_spec _ _ _ _ hv1) rfl (fun _=>rfl)) rfl ⟨(.t rfl),trivial⟩) fun k=>Ao rfl (.buildT (s:=tapi_Cite) (s':=(tapi_Cite_k1 k)) (x:=(⟨(1:Int),path,([]:Str),(0:Int),(0:Int)⟩:api_Cite)) zapi_Cite_f rfl U52 (zapi_Cite_sz _ U52) ze52 ⟨tapi_Cite,_,I6,(1:Int),_,_,rfl,Z3,.i64,FldSet.toT sapi_Cite_0,⟨(tapi_Cite_k1 k),_,(tOT tapi_Step k),path,_,_,rfl,Z50,(Opd.toOT (.t rfl)),(s0api_Cite_k1 k),⟨rfl,rfl⟩⟩⟩)<|WL.opR rfl (OpR.alloc 3 ze52) fun b2=>WL.opU (OpR.storeB (b:=b2) 3 Z52 (Cellable.is (tapi_Cite_k1 k) (⟨(1:Int),path,([]:Str),(0:Int),(0:Int)⟩:api_Cite)) rfl (.t rfl) (.t rfl)) fun _=>WL.nil<|WN.weakR (res':=[(7,Dec.Own tapi_Step 49 k path.length),(0,(Bx 3 true 92 (tcitation_reader.is r0_1) b)),(2,(Bx 5 true 52 (tapi_Cite.is zapi_Cite) b1)),(3,(Bx 5 true 52 ((tapi_Cite_k1 k).is (⟨(1:Int),path,([]:Str),(0:Int),(0:Int)⟩:api_Cite)) b2))]) ⟨rfl,rfl,⟨rfl,rfl,⟨rfl,rfl,⟨rfl,rfl,trivial⟩⟩⟩⟩<|WN.rekey (res':=[(1000003,Dec.Own tapi_Step 49 k path.length),(0,(Bx 3 true 92 (tcitation_reader.is r0_1) b)),(2,(Bx 5 true 52 (tapi_Cite.is zapi_Cite) b1)),(3,(Bx 5 true 52 ((tapi_Cite_k1 k).is (⟨(1:Int),path,([]:Str),(0:Int),(0:Int)⟩:api_Cite)) b2))]) rfl<|Aq<|Aw<|WL.mv rfl rfl ?_
 obtain ⟨plural,hv2,hm⟩:=Bs hm
 refine Ao rfl (.call C106 (citation_plural_spec _ hv2) trivial) ?_
 obtain ⟨⟨step,r0_2⟩,hv3,hm⟩:=Bs hm
 dsimp only at hm
 refine WL.weakR (res':=[(0,(Bx 3 true 92 (tcitation_reader.is r0_1) b)),(1000003,Dec.Own tapi_Step 49 k path.length),(2,(Bx 5 true 52 (tapi_Cite.is zapi_Cite) b1)),(3,(Bx 5 true 52 ((tapi_Cite_k1 k).is (⟨(1:Int),path,([]:Str),(0:Int),(0:Int)⟩:api_Cite)) b2))]) ⟨rfl,rfl,⟨rfl,rfl,⟨rfl,rfl,⟨rfl,rfl,trivial⟩⟩⟩⟩<|WL.opR rfl (OpR.call (us:=[0]) (A:=fun kx:Unit=>(Asn.tuple2 (tapi_Step.is step.1) (tB.is step.2))) C105 (FSpecR.keys (rin':=[(0,(Bx 3 true 92 (tcitation_reader.is r0_1) b))]) (out':=fun kx:Unit=>[(0,(Bx 3 true 92 (tcitation_reader.is r0_2) b))]) (citation_reader_step_spec _ _ _ _ _ hv3) rfl (fun _=>rfl)) rfl ⟨(.t rfl),(.t rfl),trivial⟩) fun _=>Am rfl rfl<|Ao rfl (.extract0 (.t rfl))<|Ao rfl (.extract1 (.t rfl))<|WL.opR rfl (OpR.alloc 4 ze49) fun b3=>WL.opU (OpR.storeB (b:=b3) 4 Z49 (Cellable.is tapi_Step step.1) rfl (.t rfl) (.t rfl)) fun _=>WL.sealed (t:=tapi_Step) (u:=step.1) 4 4 rfl rfl<|Ag rfl rfl<|An<|W.seq ?_
 obtain ⟨s4,hs5,hk6⟩:=Bs hm
 clear hm
 refine W.join (fun s:Bool×citation_reader=>s=s4) (fun s=>[(21,(tB.is s.1)),(0,(Bp b 0)),(2,(Bp b1 0)),(3,(Bp b2 0)),(4,(tapi_Step.ptr step.1))]) (fun s=>[(1000003,Dec.Own tapi_Step 49 k path.length),(0,(Bx 3 true 92 (tcitation_reader.is s.2) b)),(2,(Bx 5 true 52 (tapi_Cite.is zapi_Cite) b1)),(3,(Bx 5 true 52 ((tapi_Cite_k1 k).is (⟨(1:Int),path,([]:Str),(0:Int),(0:Int)⟩:api_Cite)) b2))]) ?_ ?_
 ·rintro ⟨v,r0_3⟩ hj14
  try dsimp only at hj14
  subst hj14
  have hm:=hk6
  clear hk6
  try dsimp only at hm
  change W _ _ _ _ _ _ _ [(21,(tB.is v)),(0,(Bp b 0)),(2,(Bp b1 0)),(3,(Bp b2 0)),(4,(tapi_Step.ptr step.1))] [(1000003,Dec.Own tapi_Step 49 k path.length),(0,(Bx 3 true 92 (tcitation_reader.is r0_3) b)),(2,(Bx 5 true 52 (tapi_Cite.is zapi_Cite) b1)),(3,(Bx 5 true 52 ((tapi_Cite_k1 k).is (⟨(1:Int),path,([]:Str),(0:Int),(0:Int)⟩:api_Cite)) b2))]
  refine W.cB hm (.t rfl) (fun hp11 hm=>?_) (fun hp11 hm=>?_)
  ·refine Aw<|Ao rfl (.loadB 3 Y52 Z52 rfl (.t rfl))<|WL.opU (OpR.storeB (b:=b1) 2 Z52 (Cellable.is tapi_Cite (⟨(1:Int),path,([]:Str),(0:Int),(0:Int)⟩:api_Cite)) rfl (.t rfl) (Opd.leT (leapi_Cite_k1 k) (.t rfl))) fun _=>WL.ns ?_
   cases hm
   exact W.retQ1 () rfl (ResAt.cell 2 Y52 Z52 rfl (.t rfl)) ⟨rfl,rfl,trivial⟩
  ·refine W.skip<|Aq<|Aw<|Ao rfl (.fieldAddrB (o:=0) U52 rfl J50 (.t rfl) rfl)<|Ao rfl (.ofOT (Op1.loadBF (t:=(tOT tapi_Step k)) (f:=fun x:api_Cite=>x.Path) (u:=(⟨(1:Int),path,([]:Str),(0:Int),(0:Int)⟩:api_Cite)) 3 rfl ⟨ty50.agg,ty50.size⟩ (fapi_Cite_k1_1 k) rfl (.t rfl)))<|Ao rfl (.load ty49 (.t rfl))<|Ao rfl (.buildSlice (n:=1) (ys:=[(0,step.1)]) (z:=zapi_Step) (xs:=[step.1]) U50 el49 ze49 ⟨rfl,(.t rfl),trivial⟩ (by simp) (by decide) rfl) ?_
   obtain ⟨out,hv12,hm⟩:=Bs hm
   refine WL.opR rfl (OpR.appC (key:=1000003) hv12 U50 el49 (.t rfl) (.t rfl) rfl) fun k1=>Ao rfl (.fieldAddrB (o:=0) U52 rfl J50 (.t rfl) rfl)<|WL.opU (OpR.storeBFT (b:=b2) (s:=(tapi_Cite_k1 k)) (s':=(tapi_Cite_k1 k1)) (t:=(tOT tapi_Step k1)) 3 rfl rfl ⟨ty50.agg,ty50.size⟩ (sTapi_Cite_k1 k k1) rfl (show 1+1≤5 by decide) (.t rfl) (Opd.toOT (.t rfl))) fun _=>Ar<|WL.mv rfl rfl ?_
   obtain ⟨⟨word,r0_5⟩,hv13,hm⟩:=Bs hm
   dsimp only at hm
   refine WL.weakR (res':=[(0,(Bx 3 true 92 (tcitation_reader.is r0_3) b)),(1000003,Dec.Own tapi_Step 49 k1 out.length),(2,(Bx 5 true 52 (tapi_Cite.is zapi_Cite) b1)),(3,(Bx 5 true 52 ((tapi_Cite_k1 k1).is ({(⟨(1:Int),path,([]:Str),(0:Int),(0:Int)⟩:api_Cite) with Path:=out}:api_Cite)) b2))]) ⟨rfl,rfl,⟨rfl,rfl,⟨rfl,rfl,⟨rfl,rfl,trivial⟩⟩⟩⟩<|WL.opR rfl (OpR.call (us:=[0]) (A:=fun kx:Unit=>(Asn.tuple2 (tS.is word.1) (tB.is word.2))) C107 (FSpecR.keys (rin':=[(0,(Bx 3 true 92 (tcitation_reader.is r0_3) b))]) (out':=fun kx:Unit=>[(0,(Bx 3 true 92 (tcitation_reader.is r0_5) b))]) (citation_reader_word_spec _ _ _ _ hv13) rfl (fun _=>rfl)) rfl ⟨(.t rfl),(Opd.fn C44 (fun s hs=>label_Valid_spec _ _ _ hs)),trivial⟩) fun _=>Am rfl rfl<|Ao rfl (.extract0 (.t rfl))<|Ao rfl (.extract1 (.t rfl))<|Ao rfl (.fieldAddrB (o:=0) U52 rfl J9 (.t rfl) rfl)<|WL.opU (OpR.storeBF (b:=b2) 3 rfl ty9 (sapi_Cite_k1_2 k1) rfl (show 2+1≤5 by decide) (.t rfl) (.t rfl)) fun _=>Ar<|Ao rfl (.loadB 3 Y52 Z52 rfl (.t rfl))<|WL.opU (OpR.storeB (b:=b1) 2 Z52 (Cellable.is tapi_Cite ({({(⟨(1:Int),path,([]:Str),(0:Int),(0:Int)⟩:api_Cite) with Path:=out}:api_Cite) with To:=word.1}:api_Cite)) rfl (.t rfl) (Opd.leT (leapi_Cite_k1 k1) (.t rfl))) fun _=>WL.ns ?_
   cases hm
   exact W.retQ1 () rfl (ResAt.cell 2 Y52 Z52 rfl (.t rfl)) ⟨rfl,rfl,trivial⟩
 ·have hm:=hs5
  clear hs5
  refine W.region<|Am rfl rfl<|Ao rfl (.notB (.t rfl))<|WL.mv rfl rfl ?_
  rcases iteR hm with ⟨hp8,hb7,hm⟩ | ⟨hp8,hb7,hm⟩
  ·exact Ap rfl hb7<|Ap rfl hb7<|Ap rfl hb7<|Ao rfl (.pickT (.t rfl) hb7 .bool)<|WL.nil<|WN.meet (true,r0_2) (Si hm) ⟨.q rfl,.q rfl,.q rfl,.q rfl,.q rfl,trivial⟩ ⟨rfl,rfl,⟨rfl,rfl,⟨rfl,rfl,⟨rfl,rfl,trivial⟩⟩⟩⟩
  ·refine Ax rfl hb7 (.move (.t rfl)) ?_
   obtain ⟨⟨just,r0_4⟩,hv9,hm⟩:=Bs hm
   dsimp only at hm
   exact WL.weakR (res':=[(0,(Bx 3 true 92 (tcitation_reader.is r0_2) b)),(1000003,Dec.Own tapi_Step 49 k path.length),(2,(Bx 5 true 52 (tapi_Cite.is zapi_Cite) b1)),(3,(Bx 5 true 52 ((tapi_Cite_k1 k).is (⟨(1:Int),path,([]:Str),(0:Int),(0:Int)⟩:api_Cite)) b2))]) ⟨rfl,rfl,⟨rfl,rfl,⟨rfl,rfl,⟨rfl,rfl,trivial⟩⟩⟩⟩<|WL.runR rfl rfl rfl rfl hb7 rfl rfl (OpR.call (us:=[0]) (A:=fun kx:Unit=>(tB.is just)) C84 (FSpecR.keys (rin':=[(0,(Bx 3 true 92 (tcitation_reader.is r0_2) b))]) (out':=fun kx:Unit=>[(0,(Bx 3 true 92 (tcitation_reader.is r0_4) b))]) (citation_reader_just_spec _ _ _ _ hv9) rfl (fun _=>rfl)) rfl ⟨(.t rfl),(.str rfl (by decide)),trivial⟩) fun _=>Ax rfl hb7 (.notB (.t rfl))<|Ao rfl (.pickF (.t rfl) hb7 (.t rfl))<|WL.nil<|WN.meet (!just,r0_4) (Si hm) ⟨.q rfl,.q rfl,.q rfl,.q rfl,.q rfl,trivial⟩ ⟨rfl,rfl,⟨rfl,rfl,⟨rfl,rfl,⟨rfl,rfl,trivial⟩⟩⟩⟩
theorem citation_reader_beside_spec(n:Nat)(r0_:citation_reader)(b:Nat)(r:((List api_Step))×citation_reader)(hm:M.citation_reader_beside n r0_=some r):FSpecR Tryz.prog 85 [(Bp b 0)] [(0,(Bx 3 true 92 (tcitation_reader.is r0_) b))] (fun kx:Tok=>tO tapi_Step kx r.1) (fun kx:Tok=>[(0,(Bx 3 true 92 (tcitation_reader.is r.2) b)),(77777,Dec.Own tapi_Step 49 kx r.1.length)]):=by
 unfold M.citation_reader_beside at hm
 refine FSpecR.of Tryz.func85 rfl rfl rfl fun g0=>Aw<|WL.addNil (t:=tapi_Step) (E:=49) 2<|Ao rfl (.assign (Opd.nilO (t:=tapi_Step)))<|Ar<|WL.mv rfl rfl ?_
 obtain ⟨single,hv1,hm⟩:=Bs hm
 refine Ao rfl (.call C110 (citation_single_spec _ hv1) trivial) ?_
 obtain ⟨⟨kind,r0_1⟩,hv2,hm⟩:=Bs hm
 dsimp only at hm
 refine WL.weakR (res':=[(0,(Bx 3 true 92 (tcitation_reader.is r0_) b)),(2,Dec.Own tapi_Step 49 (none:Tok) ([]:List api_Step).length)]) ⟨rfl,rfl,⟨rfl,rfl,trivial⟩⟩<|WL.opR rfl (OpR.call (us:=[0]) (A:=fun kx:Unit=>(Asn.tuple2 (I6.is kind.1) (tB.is kind.2))) C109 (FSpecR.keys (rin':=[(0,(Bx 3 true 92 (tcitation_reader.is r0_) b))]) (out':=fun kx:Unit=>[(0,(Bx 3 true 92 (tcitation_reader.is r0_1) b))]) (citation_reader_kind_spec _ _ _ _ _ hv2) rfl (fun _=>rfl)) rfl ⟨(.t rfl),(.t rfl),trivial⟩) fun _=>Am rfl rfl<|Ao rfl (.extract0 (.t rfl))<|Ao rfl (.extract1 (.t rfl))<|Ag rfl rfl<|Ag rfl rfl<|An<|W.seq<|Aw<|Am rfl rfl<|Ao rfl (.notB (.t rfl))<|An<|W.cR hm (.t rfl) (fun hp4 hm=>?_) (fun hp4 hm=>?_)
 ·refine Aw<|WL.addNil (t:=tapi_Step) (E:=49) 2<|Ao rfl (.assign (Opd.nilO (t:=tapi_Step)))<|WL.ns ?_
  have hr:=Si hm
  clear hm
  subst hr
  exact W.weakR (res':=[(0,(Bx 3 true 92 (tcitation_reader.is r0_1) b)),(2,Dec.Own tapi_Step 49 (none:Tok) ([]:List api_Step).length)]) ⟨rfl,rfl,⟨rfl,rfl,trivial⟩⟩<|W.rekey (res':=[(0,(Bx 3 true 92 (tcitation_reader.is r0_1) b)),(77777,Dec.Own tapi_Step 49 (none:Tok) ([]:List api_Step).length)]) rfl<|W.ret1 (none:Tok) rfl (.t rfl) ⟨rfl,rfl,⟨rfl,rfl,trivial⟩⟩
 ·refine W.skip<|Aq<|Aw<|Am rfl rfl<|Am rfl rfl<|Ao rfl (.build (s:=tapi_Step) (x:=(⟨kind.1,([]:Str)⟩:api_Step)) zapi_Step_f rfl U49 (zapi_Step_sz _ U49) ze49 ⟨_,I6,kind.1,_,_,rfl,Z3,(.t rfl),sapi_Step_0,rfl⟩)<|WL.opR rfl (OpR.buildSlice (n:=1) (ys:=[(0,(⟨kind.1,([]:Str)⟩:api_Step))]) (z:=zapi_Step) (xs:=[(⟨kind.1,([]:Str)⟩:api_Step)]) 16 U50 el49 ze49 ⟨rfl,(.t rfl),trivial⟩ (by simp) (by decide) rfl) (fun k=>?_)
  obtain ⟨⟨more,r0_2⟩,hv5,hm⟩:=Bs hm
  dsimp only at hm
  refine WL.weakR (res':=[(0,(Bx 3 true 92 (tcitation_reader.is r0_1) b)),(16,Dec.Own tapi_Step 49 k ([(⟨kind.1,([]:Str)⟩:api_Step)]).length),(2,Dec.Own tapi_Step 49 (none:Tok) ([]:List api_Step).length)]) ⟨rfl,rfl,⟨rfl,rfl,⟨rfl,rfl,trivial⟩⟩⟩<|WL.opR rfl (OpR.call (us:=[0,16]) (A:=fun kx:Tok=>(tO tapi_Step kx more)) C104 (FSpecR.keys (rin':=[(0,(Bx 3 true 92 (tcitation_reader.is r0_1) b)),(16,Dec.Own tapi_Step 49 k ([(⟨kind.1,([]:Str)⟩:api_Step)]).length)]) (out':=fun kx:Tok=>[(0,(Bx 3 true 92 (tcitation_reader.is r0_2) b)),(17,Dec.Own tapi_Step 49 kx more.length)]) (citation_reader_more_spec _ _ _ _ _ _ hv5) rfl (fun _=>rfl)) rfl ⟨(.t rfl),(.t rfl),trivial⟩) fun k1=>Ag rfl rfl<|WL.ns ?_
  have hr:=Si hm
  clear hm
  subst hr
  exact W.weakR (res':=[(0,(Bx 3 true 92 (tcitation_reader.is r0_2) b)),(17,Dec.Own tapi_Step 49 k1 more.length)]) ⟨rfl,rfl,⟨rfl,rfl,trivial⟩⟩<|W.rekey (res':=[(0,(Bx 3 true 92 (tcitation_reader.is r0_2) b)),(77777,Dec.Own tapi_Step 49 k1 more.length)]) rfl<|W.ret1 k1 rfl (.t rfl) ⟨rfl,rfl,⟨rfl,rfl,trivial⟩⟩
theorem citation_forms_2_spec(n:Nat)(r0_:citation_reader)(b:Nat)(r:api_Cite×citation_reader)(hm:M.citation_forms_2 n r0_=some r):FSpecR Tryz.prog 83 [(Bp b 0)] [(0,(Bx 3 true 92 (tcitation_reader.is r0_) b))] (fun kx:Unit=>(tapi_Cite.is r.1)) (fun kx:Unit=>[(0,(Bx 3 true 92 (tcitation_reader.is r.2) b))]):=by
 unfold M.citation_forms_2 at hm
 refine FSpecR.of Tryz.func83 rfl rfl rfl fun g0=>Aw<|WL.opR rfl (OpR.alloc 2 ze52) fun b1=>An<|W.seq<|Aw<|WL.mv rfl rfl ?_
 obtain ⟨⟨just,r0_1⟩,hv1,hm⟩:=Bs hm
 dsimp only at hm
 refine WL.weakR (res':=[(0,(Bx 3 true 92 (tcitation_reader.is r0_) b)),(2,(Bx 5 true 52 (tapi_Cite.is zapi_Cite) b1))]) ⟨rfl,rfl,⟨rfl,rfl,trivial⟩⟩<|WL.opR rfl (OpR.call (us:=[0]) (A:=fun kx:Unit=>(tB.is just)) C84 (FSpecR.keys (rin':=[(0,(Bx 3 true 92 (tcitation_reader.is r0_) b))]) (out':=fun kx:Unit=>[(0,(Bx 3 true 92 (tcitation_reader.is r0_1) b))]) (citation_reader_just_spec _ _ _ _ hv1) rfl (fun _=>rfl)) rfl ⟨(.t rfl),(.str rfl (by decide)),trivial⟩) fun _=>Ao rfl (.notB (.t rfl))<|An<|W.cR hm (.t rfl) (fun hp3 hm=>?_) (fun hp3 hm=>?_)
 ·refine Aw<|Ao rfl (.build (s:=tapi_Cite) (x:=(⟨(2:Int),([]:List api_Step),([]:Str),(0:Int),(0:Int)⟩:api_Cite)) zapi_Cite_f rfl U52 (zapi_Cite_sz _ U52) ze52 ⟨_,I6,(2:Int),_,_,rfl,Z3,.i64,sapi_Cite_0,rfl⟩)<|WL.opU (OpR.storeB (b:=b1) 2 Z52 (Cellable.is tapi_Cite (⟨(2:Int),([]:List api_Step),([]:Str),(0:Int),(0:Int)⟩:api_Cite)) rfl (.t rfl) (.t rfl)) fun _=>WL.ns ?_
  cases hm
  exact W.retQ1 () rfl (ResAt.cell 2 Y52 Z52 rfl (.t rfl)) ⟨rfl,rfl,trivial⟩
 ·refine W.skip<|Aq<|Aw<|WL.mv rfl rfl ?_
  obtain ⟨⟨beside,r0_2⟩,hv4,hm⟩:=Bs hm
  dsimp only at hm
  refine WL.weakR (res':=[(0,(Bx 3 true 92 (tcitation_reader.is r0_1) b)),(2,(Bx 5 true 52 (tapi_Cite.is zapi_Cite) b1))]) ⟨rfl,rfl,⟨rfl,rfl,trivial⟩⟩<|WL.opR rfl (OpR.call (us:=[0]) (A:=fun kx:Tok=>(tO tapi_Step kx beside)) C85 (FSpecR.keys (rin':=[(0,(Bx 3 true 92 (tcitation_reader.is r0_1) b))]) (out':=fun kx:Tok=>[(0,(Bx 3 true 92 (tcitation_reader.is r0_2) b)),(8,Dec.Own tapi_Step 49 kx beside.length)]) (citation_reader_beside_spec _ _ _ _ hv4) rfl (fun _=>rfl)) rfl ⟨(.t rfl),trivial⟩) fun k=>Ao rfl (.build (s:=tapi_Cite) (x:=(⟨(2:Int),beside,([]:Str),(0:Int),(0:Int)⟩:api_Cite)) zapi_Cite_f rfl U52 (zapi_Cite_sz _ U52) ze52 ⟨_,I6,(2:Int),_,_,rfl,Z3,.i64,sapi_Cite_0,⟨_,(tL tapi_Step),beside,_,_,rfl,Z50,(Opd.own (.t rfl)),sapi_Cite_1,rfl⟩⟩)<|WL.opU (OpR.storeB (b:=b1) 2 Z52 (Cellable.is tapi_Cite (⟨(2:Int),beside,([]:Str),(0:Int),(0:Int)⟩:api_Cite)) rfl (.t rfl) (.t rfl)) fun _=>WL.ns ?_
  cases hm
  exact W.retQ1 () rfl (ResAt.cell 2 Y52 Z52 rfl (.t rfl)) ⟨rfl,rfl,trivial⟩
theorem citation_forms_3_spec(n:Nat)(r0_:citation_reader)(b:Nat)(r:api_Cite×citation_reader)(hm:M.citation_forms_3 n r0_=some r):FSpecR Tryz.prog 86 [(Bp b 0)] [(0,(Bx 3 true 92 (tcitation_reader.is r0_) b))] (fun kx:Unit=>(tapi_Cite.is r.1)) (fun kx:Unit=>[(0,(Bx 3 true 92 (tcitation_reader.is r.2) b))]):=by
 unfold M.citation_forms_3 at hm
 refine FSpecR.of Tryz.func86 rfl rfl rfl fun g0=>Aw<|WL.opR rfl (OpR.alloc 2 ze52) fun b1=>An<|W.seq ?_
 obtain ⟨s1,hs2,hk3⟩:=Bs hm
 clear hm
 refine W.join (fun s:Bool×citation_reader=>s=s1) (fun s=>[(10,(tB.is s.1)),(0,(Bp b 0)),(2,(Bp b1 0))]) (fun s=>[(0,(Bx 3 true 92 (tcitation_reader.is s.2) b)),(2,(Bx 5 true 52 (tapi_Cite.is zapi_Cite) b1))]) ?_ ?_
 ·rintro ⟨v,r0_1⟩ hj11
  try dsimp only at hj11
  subst hj11
  have hm:=hk3
  clear hk3
  try dsimp only at hm
  change W _ _ _ _ _ _ _ [(10,(tB.is v)),(0,(Bp b 0)),(2,(Bp b1 0))] [(0,(Bx 3 true 92 (tcitation_reader.is r0_1) b)),(2,(Bx 5 true 52 (tapi_Cite.is zapi_Cite) b1))]
  refine W.cB hm (.t rfl) (fun hp9 hm=>?_) (fun hp9 hm=>?_)
  ·refine Aw<|Ao rfl (.build (s:=tapi_Cite) (x:=(⟨(3:Int),([]:List api_Step),([]:Str),(0:Int),(0:Int)⟩:api_Cite)) zapi_Cite_f rfl U52 (zapi_Cite_sz _ U52) ze52 ⟨_,I6,(3:Int),_,_,rfl,Z3,.i64,sapi_Cite_0,rfl⟩)<|WL.opU (OpR.storeB (b:=b1) 2 Z52 (Cellable.is tapi_Cite (⟨(3:Int),([]:List api_Step),([]:Str),(0:Int),(0:Int)⟩:api_Cite)) rfl (.t rfl) (.t rfl)) fun _=>WL.ns ?_
   cases hm
   exact W.retQ1 () rfl (ResAt.cell 2 Y52 Z52 rfl (.t rfl)) ⟨rfl,rfl,trivial⟩
  ·refine W.skip<|Aq<|Aw<|WL.mv rfl rfl ?_
   obtain ⟨⟨beside,r0_4⟩,hv10,hm⟩:=Bs hm
   dsimp only at hm
   refine WL.weakR (res':=[(0,(Bx 3 true 92 (tcitation_reader.is r0_1) b)),(2,(Bx 5 true 52 (tapi_Cite.is zapi_Cite) b1))]) ⟨rfl,rfl,⟨rfl,rfl,trivial⟩⟩<|WL.opR rfl (OpR.call (us:=[0]) (A:=fun kx:Tok=>(tO tapi_Step kx beside)) C85 (FSpecR.keys (rin':=[(0,(Bx 3 true 92 (tcitation_reader.is r0_1) b))]) (out':=fun kx:Tok=>[(0,(Bx 3 true 92 (tcitation_reader.is r0_4) b)),(13,Dec.Own tapi_Step 49 kx beside.length)]) (citation_reader_beside_spec _ _ _ _ hv10) rfl (fun _=>rfl)) rfl ⟨(.t rfl),trivial⟩) fun k=>Ao rfl (.build (s:=tapi_Cite) (x:=(⟨(3:Int),beside,([]:Str),(0:Int),(0:Int)⟩:api_Cite)) zapi_Cite_f rfl U52 (zapi_Cite_sz _ U52) ze52 ⟨_,I6,(3:Int),_,_,rfl,Z3,.i64,sapi_Cite_0,⟨_,(tL tapi_Step),beside,_,_,rfl,Z50,(Opd.own (.t rfl)),sapi_Cite_1,rfl⟩⟩)<|WL.opU (OpR.storeB (b:=b1) 2 Z52 (Cellable.is tapi_Cite (⟨(3:Int),beside,([]:Str),(0:Int),(0:Int)⟩:api_Cite)) rfl (.t rfl) (.t rfl)) fun _=>WL.ns ?_
   cases hm
   exact W.retQ1 () rfl (ResAt.cell 2 Y52 Z52 rfl (.t rfl)) ⟨rfl,rfl,trivial⟩
 ·have hm:=hs2
  clear hs2
  refine W.region<|WL.mv rfl rfl ?_
  obtain ⟨⟨just,r0_2⟩,hv4,hm⟩:=Bs hm
  dsimp only at hm
  refine WL.weakR (res':=[(0,(Bx 3 true 92 (tcitation_reader.is r0_) b)),(2,(Bx 5 true 52 (tapi_Cite.is zapi_Cite) b1))]) ⟨rfl,rfl,⟨rfl,rfl,trivial⟩⟩<|WL.opR rfl (OpR.call (us:=[0]) (A:=fun kx:Unit=>(tB.is just)) C84 (FSpecR.keys (rin':=[(0,(Bx 3 true 92 (tcitation_reader.is r0_) b))]) (out':=fun kx:Unit=>[(0,(Bx 3 true 92 (tcitation_reader.is r0_2) b))]) (citation_reader_just_spec _ _ _ _ hv4) rfl (fun _=>rfl)) rfl ⟨(.t rfl),(.str rfl (by decide)),trivial⟩) fun _=>Ao rfl (.notB (.t rfl))<|WL.mv rfl rfl ?_
  rcases iteR hm with ⟨hp6,hb5,hm⟩ | ⟨hp6,hb5,hm⟩
  ·exact Ap rfl hb5<|Ap rfl hb5<|Ap rfl hb5<|Ao rfl (.pickT (.t rfl) hb5 .bool)<|WL.nil<|WN.meet (true,r0_2) (Si hm) ⟨.q rfl,.q rfl,.q rfl,trivial⟩ ⟨rfl,rfl,⟨rfl,rfl,trivial⟩⟩
  ·refine Ax rfl hb5 (.move (.t rfl)) ?_
   obtain ⟨⟨just1,r0_3⟩,hv7,hm⟩:=Bs hm
   dsimp only at hm
   exact WL.weakR (res':=[(0,(Bx 3 true 92 (tcitation_reader.is r0_2) b)),(2,(Bx 5 true 52 (tapi_Cite.is zapi_Cite) b1))]) ⟨rfl,rfl,⟨rfl,rfl,trivial⟩⟩<|WL.runR rfl rfl rfl rfl hb5 rfl rfl (OpR.call (us:=[0]) (A:=fun kx:Unit=>(tB.is just1)) C84 (FSpecR.keys (rin':=[(0,(Bx 3 true 92 (tcitation_reader.is r0_2) b))]) (out':=fun kx:Unit=>[(0,(Bx 3 true 92 (tcitation_reader.is r0_3) b))]) (citation_reader_just_spec _ _ _ _ hv7) rfl (fun _=>rfl)) rfl ⟨(.t rfl),(.str rfl (by decide)),trivial⟩) fun _=>Ax rfl hb5 (.notB (.t rfl))<|Ao rfl (.pickF (.t rfl) hb5 (.t rfl))<|WL.nil<|WN.meet (!just1,r0_3) (Si hm) ⟨.q rfl,.q rfl,.q rfl,trivial⟩ ⟨rfl,rfl,⟨rfl,rfl,trivial⟩⟩
theorem citation_forms_4_spec(n:Nat)(r0_:citation_reader)(b:Nat)(r:api_Cite×citation_reader)(hm:M.citation_forms_4 n r0_=some r):FSpecR Tryz.prog 87 [(Bp b 0)] [(0,(Bx 3 true 92 (tcitation_reader.is r0_) b))] (fun kx:Unit=>(tapi_Cite.is r.1)) (fun kx:Unit=>[(0,(Bx 3 true 92 (tcitation_reader.is r.2) b))]):=by
 unfold M.citation_forms_4 at hm
 refine FSpecR.of Tryz.func87 rfl rfl rfl fun g0=>Aw<|WL.opR rfl (OpR.alloc 2 ze52) fun b1=>An<|W.seq<|Aw<|WL.mv rfl rfl ?_
 obtain ⟨⟨just,r0_1⟩,hv1,hm⟩:=Bs hm
 dsimp only at hm
 refine WL.weakR (res':=[(0,(Bx 3 true 92 (tcitation_reader.is r0_) b)),(2,(Bx 5 true 52 (tapi_Cite.is zapi_Cite) b1))]) ⟨rfl,rfl,⟨rfl,rfl,trivial⟩⟩<|WL.opR rfl (OpR.call (us:=[0]) (A:=fun kx:Unit=>(tB.is just)) C84 (FSpecR.keys (rin':=[(0,(Bx 3 true 92 (tcitation_reader.is r0_) b))]) (out':=fun kx:Unit=>[(0,(Bx 3 true 92 (tcitation_reader.is r0_1) b))]) (citation_reader_just_spec _ _ _ _ hv1) rfl (fun _=>rfl)) rfl ⟨(.t rfl),(.str rfl (by decide)),trivial⟩) fun _=>Ao rfl (.notB (.t rfl))<|An<|W.cR hm (.t rfl) (fun hp3 hm=>?_) (fun hp3 hm=>?_)
 ·refine Aw<|Ao rfl (.build (s:=tapi_Cite) (x:=(⟨(4:Int),([]:List api_Step),([]:Str),(0:Int),(0:Int)⟩:api_Cite)) zapi_Cite_f rfl U52 (zapi_Cite_sz _ U52) ze52 ⟨_,I6,(4:Int),_,_,rfl,Z3,.i64,sapi_Cite_0,rfl⟩)<|WL.opU (OpR.storeB (b:=b1) 2 Z52 (Cellable.is tapi_Cite (⟨(4:Int),([]:List api_Step),([]:Str),(0:Int),(0:Int)⟩:api_Cite)) rfl (.t rfl) (.t rfl)) fun _=>WL.ns ?_
  cases hm
  exact W.retQ1 () rfl (ResAt.cell 2 Y52 Z52 rfl (.t rfl)) ⟨rfl,rfl,trivial⟩
 ·refine W.skip<|Aq<|Aw<|WL.mv rfl rfl ?_
  obtain ⟨⟨path,r0_2⟩,hv4,hm⟩:=Bs hm
  dsimp only at hm
  refine WL.weakR (res':=[(0,(Bx 3 true 92 (tcitation_reader.is r0_1) b)),(2,(Bx 5 true 52 (tapi_Cite.is zapi_Cite) b1))]) ⟨rfl,rfl,⟨rfl,rfl,trivial⟩⟩<|WL.opR rfl (OpR.call (us:=[0]) (A:=fun kx:Tok=>(tO tapi_Step kx path)) C81 (FSpecR.keys (rin':=[(0,(Bx 3 true 92 (tcitation_reader.is r0_1) b))]) (out':=fun kx:Tok=>[(0,(Bx 3 true 92 (tcitation_reader.is r0_2) b)),(8,Dec.Own tapi_Step 49 kx path.length)]) (citation_reader_path_spec _ _ _ _ hv4) rfl (fun _=>rfl)) rfl ⟨(.t rfl),trivial⟩) fun k=>Ao rfl (.build (s:=tapi_Cite) (x:=(⟨(4:Int),path,([]:Str),(0:Int),(0:Int)⟩:api_Cite)) zapi_Cite_f rfl U52 (zapi_Cite_sz _ U52) ze52 ⟨_,I6,(4:Int),_,_,rfl,Z3,.i64,sapi_Cite_0,⟨_,(tL tapi_Step),path,_,_,rfl,Z50,(Opd.own (.t rfl)),sapi_Cite_1,rfl⟩⟩)<|WL.opU (OpR.storeB (b:=b1) 2 Z52 (Cellable.is tapi_Cite (⟨(4:Int),path,([]:Str),(0:Int),(0:Int)⟩:api_Cite)) rfl (.t rfl) (.t rfl)) fun _=>WL.ns ?_
  cases hm
  exact W.retQ1 () rfl (ResAt.cell 2 Y52 Z52 rfl (.t rfl)) ⟨rfl,rfl,trivial⟩
theorem citation_forms_spec(n:Nat) (r:(List (citation_reader→Option (api_Cite×citation_reader))))(hm:M.citation_forms n=some r):FSpec Tryz.prog 51 [] ((tL (tFnR Tryz.prog tcitation_reader 92 (fun y:api_Cite=>(tapi_Cite.is y)))).is r):=by
 unfold M.citation_forms at hm
 refine FSpec.of Tryz.func51 rfl rfl rfl fun g0=>Aw<|Ao rfl (.assign (.nil (t:=(tFnR Tryz.prog tcitation_reader 92 (fun y:api_Cite=>(tapi_Cite.is y))))))<|Ar<|Ao rfl (.buildSlice (n:=5) (ys:=[(0,(fun s0=>M.citation_forms_1 n s0)),(1,(fun s0=>M.citation_reader_span n s0)),(2,(fun s0=>M.citation_forms_2 n s0)),(3,(fun s0=>M.citation_forms_3 n s0)),(4,(fun s0=>M.citation_forms_4 n s0))]) (z:=(fun _=>none:citation_reader→Option (api_Cite×citation_reader))) (xs:=[(fun s0=>M.citation_forms_1 n s0),(fun s0=>M.citation_reader_span n s0),(fun s0=>M.citation_forms_2 n s0),(fun s0=>M.citation_forms_3 n s0),(fun s0=>M.citation_forms_4 n s0)]) U87 el89 ze89 ⟨rfl,(Opd.fnR C80 (fun b x y x' h=>citation_forms_1_spec _ _ _ _ h)),rfl,(Opd.fnR C82 (fun b x y x' h=>citation_reader_span_spec _ _ _ _ h)),rfl,(Opd.fnR C83 (fun b x y x' h=>citation_forms_2_spec _ _ _ _ h)),rfl,(Opd.fnR C86 (fun b x y x' h=>citation_forms_3_spec _ _ _ _ h)),rfl,(Opd.fnR C87 (fun b x y x' h=>citation_forms_4_spec _ _ _ _ h)),trivial⟩ (by simp) (by decide) rfl)<|Ag rfl rfl<|WL.ns ?_
 cases hm
 exact W.ret1 () rfl (.t rfl) trivial
theorem citation_longest_spec(n:Nat)(l:List Str)(from0_:Int)(r:api_Cite×Bool)(hm:M.citation_longest n l from0_=some r):FSpec Tryz.prog 29 [((tL tS).is l),(I6.is from0_)] (Asn.tuple2 (tapi_Cite.is r.1) (tB.is r.2)):=by
 unfold M.citation_longest at hm
 refine FSpec.of Tryz.func29 rfl rfl rfl fun g0=>Aw<|WL.opR rfl (OpR.alloc 4 ze52) fun b=>Ao rfl (.assign .bool)<|Ar<|WL.opR rfl (OpR.alloc 6 ze52) fun b1=>An<|W.seq<|W.sr ?_
 obtain ⟨forms,hv1,hm⟩:=Bs hm
 refine Ao rfl (.call C51 (citation_forms_spec _ _ hv1) trivial)<|Ao rfl (.lenL U87 (.t rfl))<|Ao rfl (.move .i64)<|An<|W.block ?_
 obtain ⟨s2,hs3,hk4⟩:=Bs hm
 clear hm
 refine W.loop (fun m (s:Int×List (citation_reader→Option (api_Cite×citation_reader))×List (citation_reader→Option (api_Cite×citation_reader))×api_Cite)=>m=s.2.2.1.length∧forms=s.2.1++s.2.2.1∧s.1=(s.2.1.length:Int)∧M.citation_longest_loop1 n l from0_ s.2.2.1 s.2.2.2=some s2) (fun s=>[(13,(I6.is s.1)),(0,((tL tS).is l)),(1,(I6.is from0_)),(4,(Bp b 0)),(6,(Bp b1 0)),(11,((tL (tFnR Tryz.prog tcitation_reader 92 (fun y:api_Cite=>(tapi_Cite.is y)))).is forms)),(12,(I6.is (forms.length:Int)))]) (fun s=>[(6,(Bx 5 true 52 (tapi_Cite.is s.2.2.2) b1)),(4,(Bx 5 true 52 (tapi_Cite.is zapi_Cite) b))]) forms.length ((0:Int),[],forms,zapi_Cite) ⟨rfl,rfl,rfl,hs3⟩ ⟨.q rfl,.q rfl,.q rfl,.q rfl,.q rfl,.q rfl,.q rfl,trivial⟩ ⟨rfl,rfl,⟨rfl,rfl,trivial⟩⟩ ?_
 rintro m ⟨i,pre,rest1,best⟩ ⟨hn8,hxs5,hi6,hm⟩
 try dsimp only at hn8 hxs5 hi6 hm
 change W _ _ _ _ _ _ _ [(13,(I6.is i)),(0,((tL tS).is l)),(1,(I6.is from0_)),(4,(Bp b 0)),(6,(Bp b1 0)),(11,((tL (tFnR Tryz.prog tcitation_reader 92 (fun y:api_Cite=>(tapi_Cite.is y)))).is forms)),(12,(I6.is (forms.length:Int)))] [(6,(Bx 5 true 52 (tapi_Cite.is best) b1)),(4,(Bx 5 true 52 (tapi_Cite.is zapi_Cite) b))]
 refine W.lenL (s:=11) (.t rfl) fun hlen7=>Aw<|Ao rfl (.ltI (.t rfl) (.t rfl))<|An<|W.seq<|W.cond (.t rfl) (fun hc10=>?_) (fun hc10=>?_)
 ·have hp11:=of_decide_eq_true hc10
  obtain ⟨e,es,hrest13⟩:=range_more hxs5 hi6 hp11
  subst hrest13
  rw [M.citation_longest_loop1.eq_2] at hm
  refine W.skip<|Aq<|W.seq<|W.block<|Aw<|Ao rfl (.idxPre hxs5 hi6 U87 Z89 (.t rfl) (.t rfl))<|Ao rfl (.load ty89 (.t rfl))<|Ag rfl rfl<|Ar<|Am rfl rfl<|Am rfl rfl<|Ao rfl (.build (s:=tcitation_reader) (x:=(⟨l,from0_,false⟩:citation_reader)) zcitation_reader_f rfl Tryz.underlying92 (zcitation_reader_sz _ Tryz.underlying92) ze92 ⟨_,(tL tS),l,_,_,rfl,Z55,(.t rfl),scitation_reader_0,⟨_,I6,from0_,_,_,rfl,Z3,(.t rfl),scitation_reader_1,rfl⟩⟩)<|WL.opR rfl (OpR.boxB 20 (Cellable.is tcitation_reader (⟨l,from0_,false⟩:citation_reader)) (.t rfl)) fun b2=>Ag rfl rfl<|Ar<|WL.mv rfl rfl ?_
  refine WL.mv rfl rfl ?_
  obtain ⟨⟨v,w⟩,hv14,hm⟩:=Bs hm
  dsimp only at hm
  refine WL.opR rfl (OpR.callFnR 20 hv14 (.t rfl) rfl (.t rfl)) fun _=>WL.opR rfl (OpR.alloc 10 ze52) fun b3=>WL.opU (OpR.storeB (b:=b3) 10 Z52 (Cellable.is tapi_Cite v) rfl (.t rfl) (.t rfl)) fun _=>An<|W.seq<|W.weakR (res':=[(6,(Bx 5 true 52 (tapi_Cite.is best) b1)),(4,(Bx 5 true 52 (tapi_Cite.is zapi_Cite) b)),(20,(Bx 3 true 92 (tcitation_reader.is w) b2)),(10,(Bx 5 true 52 (tapi_Cite.is v) b3))]) ⟨rfl,rfl,⟨rfl,rfl,⟨rfl,rfl,⟨rfl,rfl,trivial⟩⟩⟩⟩<|W.drawM [.c (I6.is from0_),.c (Bp b2 0),.c (Bp b2 0),.c (Bp b2 1),.c (I6.is w.at_),.c (Bp b3 3),.c Asn.any,.c (Bp b3 4),.c Asn.any] [([],[1]),([],[9]),([1],[]),([2],[]),([3],[]),([],[10]),([0,5],[]),([],[10]),([4,7],[])] [6,8] [[],[],[],[],[],[],[],[],[]] (fun m cv=>match m with | 0=>[(6,(Bx 5 true 52 (tapi_Cite.is best) b1)),(4,(Bx 5 true 52 (tapi_Cite.is zapi_Cite) b)),(20,(Bx 3 true 92 (tcitation_reader.is w) b2)),(10,(Bx 5 true 52 (tapi_Cite.is v) b3))] | 1=>[(10,(Bx 5 true 52 (tapi_Cite.is ({v with From:=from0_}:api_Cite)) b3)),(6,(Bx 5 true 52 (tapi_Cite.is best) b1)),(4,(Bx 5 true 52 (tapi_Cite.is zapi_Cite) b)),(20,(Bx 3 true 92 (tcitation_reader.is w) b2))] | _=>[(10,(Bx 5 true 52 (tapi_Cite.is ({({v with From:=from0_}:api_Cite) with At:=w.at_}:api_Cite)) b3)),(6,(Bx 5 true 52 (tapi_Cite.is best) b1)),(4,(Bx 5 true 52 (tapi_Cite.is zapi_Cite) b)),(20,(Bx 3 true 92 (tcitation_reader.is w) b2))]) (fun _=>none) Mx rfl rfl rfl rfl rfl ⟨fun _ _ _ _=>rfl,⟨fun _ _ _ _=>rfl,⟨fun _ _ _ _=>rfl,⟨fun _ _ _ _=>rfl,⟨fun _ _ _ _=>rfl,⟨fun _ _ _ _=>rfl,⟨fun _ _ _ _=>rfl,⟨fun _ _ _ _=>rfl,⟨fun _ _ _ _=>rfl,trivial⟩⟩⟩⟩⟩⟩⟩⟩⟩ rfl ⟨mo fun cv=>Op1.move (.t rfl),⟨mo fun cv=>Op1.move (.t rfl),⟨mo fun cv=>Op1.nilCheckB (.t rfl),⟨mo fun cv=>Op1.fieldAddrB (o:=0) Tryz.underlying92 rfl J3 (.t rfl) rfl,⟨.inr ⟨fun cv=>[(20,(Bx 3 true 92 (tcitation_reader.is w) b2))],(AllUpTo.at ⟨⟨(fun _ _=>⟨rfl,rfl,trivial⟩),(fun _ _=>⟨rfl,rfl,trivial⟩)⟩,(fun hw=>absurd hw (by decide))⟩),fun cv=>Op1.loadBF 20 rfl ty3 fcitation_reader_1 rfl (.t rfl)⟩,⟨mo fun cv=>Op1.fieldAddrB (o:=0) U52 rfl J3 (.t rfl) rfl,⟨.inl rfl,⟨mo fun cv=>Op1.fieldAddrB (o:=0) U52 rfl J3 (.t rfl) rfl,⟨.inl rfl,trivial⟩⟩⟩⟩⟩⟩⟩⟩⟩ ⟨⟨_,_,_,[10],(fun cv=>[(10,(Bx 5 true 52 (tapi_Cite.is ({v with From:=from0_}:api_Cite)) b3))]),rfl,rfl,rfl,rfl,fun _=>rfl,fun _ _=>rfl,fun cv=>OpR.viaU (OpR.storeBF (b:=b3) 10 rfl ty3 sapi_Cite_3 rfl (by decide) (.t rfl) (.t rfl))⟩,⟨⟨_,_,_,[10],(fun cv=>[(10,(Bx 5 true 52 (tapi_Cite.is ({({v with From:=from0_}:api_Cite) with At:=w.at_}:api_Cite)) b3))]),rfl,rfl,rfl,rfl,fun _=>rfl,fun _ _=>rfl,fun cv=>OpR.viaU (OpR.storeBF (b:=b3) 10 rfl ty3 sapi_Cite_4 rfl (by decide) (.t rfl) (.t rfl))⟩,trivial⟩⟩ fun cv=>Aq<|Aw<|Ao rfl (.loadB 10 Y52 Z52 rfl (.t rfl)) ?_
  obtain ⟨valid,hv15,hm⟩:=Bs hm
  refine Ao rfl (.call C24 (citation_Valid_spec _ _ _ hv15) ⟨(.t rfl),trivial⟩)<|WL.mv rfl rfl ?_
  rcases iteB hm with ⟨hp17,hb16,hm⟩ | ⟨hp17,hb16,hm⟩
  ·refine Ax rfl hb16 (.fieldAddrB (o:=0) U52 rfl J3 (.t rfl) rfl)<|Ax rfl hb16 (.loadBF 10 rfl ty3 fapi_Cite_4 rfl (.t rfl))<|Ax rfl hb16 (.fieldAddrB (o:=0) U52 rfl J3 (.t rfl) rfl)<|Ax rfl hb16 (.loadBF 6 rfl ty3 fapi_Cite_4 rfl (.t rfl))<|Ax rfl hb16 (.gtI (.t rfl) (.t rfl))<|Ao rfl (.pickT (.t rfl) hb16 (.t rfl))<|An<|W.cD hm (.t rfl) (fun hp19 hm=>?_) (fun hp19 hm=>?_)
   ·exact W.region<|Ao rfl (.loadB 10 Y52 Z52 rfl (.t rfl))<|WL.opU (OpR.storeB (b:=b1) 6 Z52 (Cellable.is tapi_Cite ({({v with From:=from0_}:api_Cite) with At:=w.at_}:api_Cite)) rfl (.t rfl) (.t rfl)) fun _=>WL.nil<|WN.block<|Aq<|W.region<|Ao rfl (.addI (.t rfl) .i64 (range_inR hi6 hp11 hlen7))<|Am rfl rfl<|WL.nil<|WN.again es.length (i+1,pre++ [e],es,({({v with From:=from0_}:api_Cite) with At:=w.at_}:api_Cite)) (range_lt hn8) ⟨rfl,range_step hxs5,range_idx hi6,hm⟩ ⟨.q rfl,.q rfl,.q rfl,.q rfl,.q rfl,.q rfl,.q rfl,trivial⟩ ⟨rfl,rfl,⟨rfl,rfl,trivial⟩⟩
   ·exact W.skip<|WN.block<|Aq<|W.region<|Ao rfl (.addI (.t rfl) .i64 (range_inR hi6 hp11 hlen7))<|Am rfl rfl<|WL.nil<|WN.again es.length (i+1,pre++ [e],es,best) (range_lt hn8) ⟨rfl,range_step hxs5,range_idx hi6,hm⟩ ⟨.q rfl,.q rfl,.q rfl,.q rfl,.q rfl,.q rfl,.q rfl,trivial⟩ ⟨rfl,rfl,⟨rfl,rfl,trivial⟩⟩
  ·exact Ap rfl hb16<|Ap rfl hb16<|Ap rfl hb16<|Ap rfl hb16<|Ap rfl hb16<|Ao rfl (.pickF (.t rfl) hb16 .bool)<|An<|W.condF (.t rfl)<|W.skip<|WN.block<|Aq<|W.region<|Ao rfl (.addI (.t rfl) .i64 (range_inR hi6 hp11 hlen7))<|Am rfl rfl<|WL.nil<|WN.again es.length (i+1,pre++ [e],es,best) (range_lt hn8) ⟨rfl,range_step hxs5,range_idx hi6,hm⟩ ⟨.q rfl,.q rfl,.q rfl,.q rfl,.q rfl,.q rfl,.q rfl,trivial⟩ ⟨rfl,rfl,⟨rfl,rfl,trivial⟩⟩
 ·have hrest13:=range_end hxs5 hi6 (of_decide_eq_false hc10)
  subst hrest13
  rw [M.citation_longest_loop1.eq_1] at hm
  refine W.exit rfl ?_
  have hr20:=Si hm
  clear hm
  subst hr20
  have hm:=hk4
  try dsimp only at hm
  refine Aq<|W.seq<|W.weakR (res':=[(6,(Bx 5 true 52 (tapi_Cite.is best) b1)),(4,(Bx 5 true 52 (tapi_Cite.is zapi_Cite) b))]) ⟨rfl,rfl,⟨rfl,rfl,trivial⟩⟩<|W.drawM [.c (tapi_Cite.is best),.c (Bp b1 4),.c (I6.is best.At),.c (tB.is (decide ((0:Int)< best.At))),.c Asn.any,.c (tB.is (decide ((0:Int)< best.At)))] [([],[6]),([],[6]),([1],[]),([2],[]),([0],[4]),([3],[])] [4] [[],[],[],[],[],[]] (fun m cv1=>match m with | 0=>[(6,(Bx 5 true 52 (tapi_Cite.is best) b1)),(4,(Bx 5 true 52 (tapi_Cite.is zapi_Cite) b))] | _=>[(4,(Bx 5 true 52 (tapi_Cite.is best) b)),(6,(Bx 5 true 52 (tapi_Cite.is best) b1))]) (fun _=>none) Mx rfl rfl rfl rfl rfl ⟨fun _ _ _ _=>rfl,⟨fun _ _ _ _=>rfl,⟨fun _ _ _ _=>rfl,⟨fun _ _ _ _=>rfl,⟨fun _ _ _ _=>rfl,⟨fun _ _ _ _=>rfl,trivial⟩⟩⟩⟩⟩⟩ rfl ⟨.inr ⟨fun cv1=>[(6,(Bx 5 true 52 (tapi_Cite.is best) b1))],(AllUpTo.at ⟨(fun _ _=>⟨rfl,rfl,trivial⟩),(fun hw=>absurd hw (by decide))⟩),fun cv1=>Op1.loadB 6 Y52 Z52 rfl (.t rfl)⟩,⟨mo fun cv1=>Op1.fieldAddrB (o:=0) U52 rfl J3 (.t rfl) rfl,⟨.inr ⟨fun cv1=>[(6,(Bx 5 true 52 (tapi_Cite.is best) b1))],(AllUpTo.at ⟨(fun _ _=>⟨rfl,rfl,trivial⟩),(fun _ _=>⟨rfl,rfl,trivial⟩)⟩),fun cv1=>Op1.loadBF 6 rfl ty3 fapi_Cite_4 rfl (.t rfl)⟩,⟨mo fun cv1=>Op1.gtI (.t rfl) .i64,⟨.inl rfl,⟨mo fun cv1=>Op1.assign (.t rfl),trivial⟩⟩⟩⟩⟩⟩ ⟨⟨_,_,_,[4],(fun cv1=>[(4,(Bx 5 true 52 (tapi_Cite.is best) b))]),rfl,rfl,rfl,rfl,fun _=>rfl,fun _ _=>rfl,fun cv1=>OpR.viaU (OpR.storeB (b:=b) 4 Z52 (Cellable.is tapi_Cite best) rfl (.t rfl) (.t rfl))⟩,trivial⟩ fun cv1=>WN.seq ?_
  cases hm
  exact W.retQ2 () rfl rfl (ResAt.cell 4 Y52 Z52 rfl (.t rfl)) (ResAt.tmp (.t rfl)) trivial
theorem citation_Scan_spec(n:Nat)(l:List Str)(r:(List api_Cite))(hm:M.citation_Scan n l=some r):FSpec Tryz.prog 17 [((tL tS).is l)] ((tL tapi_Cite).is r):=by
 unfold M.citation_Scan at hm
 refine FSpec.of Tryz.func17 rfl rfl rfl fun g0=>Aw<|Ao rfl (.assign (.nil (t:=tapi_Cite)))<|Ar<|WL.addNil (t:=tapi_Cite) (E:=52) 3<|Ao rfl (.assign (Opd.nilO (t:=tapi_Cite)))<|An<|W.seq<|Aw<|Ao rfl (.assign .i64)<|An<|W.block ?_
 obtain ⟨s1,hs2,hk3⟩:=Bs hm
 clear hm
 refine W.loop (fun m (s:((List api_Cite)×Int)×Tok)=>M.citation_Scan_loop1 l m s.1.1 s.1.2=some s1) (fun s=>[(3,(tO tapi_Cite s.2 s.1.1)),(4,(I6.is s.1.2)),(0,((tL tS).is l))]) (fun s=>[(3,Dec.Own tapi_Cite 52 s.2 s.1.1.length)]) _ ((([]:List api_Cite),(0:Int)),(none:Tok)) hs2 ⟨.q rfl,.q rfl,.q rfl,trivial⟩ ⟨rfl,rfl,trivial⟩ ?_
 rintro n4 ⟨⟨out,at0_⟩,k⟩ hm
 try dsimp only at hm
 change W _ _ _ _ _ _ _ [(3,(tO tapi_Cite k out)),(4,(I6.is at0_)),(0,((tL tS).is l))] [(3,Dec.Own tapi_Cite 52 k out.length)]
 cases n4 with
 | zero=>rw [M.citation_Scan_loop1.eq_1] at hm;cases hm
 | succ n4=>
  rw [M.citation_Scan_loop1.eq_2] at hm
  refine W.seq<|Aw<|Am rfl rfl<|Am rfl rfl<|Ao rfl (.lenL U55 (.t rfl))<|Ao rfl (.ltI (.t rfl) (.t rfl))<|An<|W.cD hm (.t rfl) (fun hp6 hm=>?_) (fun hp6 hm=>?_)
  ·refine W.skip<|Aq<|W.block<|Aw<|Am rfl rfl<|WL.mv rfl rfl ?_
   obtain ⟨longes,hv7,hm⟩:=Bs hm
   refine Ao rfl (.call C29 (citation_longest_spec _ _ _ _ hv7) ⟨(.t rfl),(.t rfl),trivial⟩)<|Am rfl rfl<|Ao rfl (.extract0 (.t rfl))<|Ao rfl (.extract1 (.t rfl))<|WL.opR rfl (OpR.alloc 5 ze52) fun b=>WL.opU (OpR.storeB (b:=b) 5 Z52 (Cellable.is tapi_Cite longes.1) rfl (.t rfl) (.t rfl)) fun _=>WL.sealed (t:=tapi_Cite) (u:=longes.1) 5 5 rfl rfl<|Ag rfl rfl<|An<|W.seq<|Aw<|Am rfl rfl<|Ao rfl (.notB (.t rfl))<|An<|W.cR hm (.t rfl) (fun hp9 hm=>?_) (fun hp9 hm=>?_)
   ·exact Aw<|Am rfl rfl<|WL.lenL (s:=0) (.t rfl) fun hl10=>Ao rfl (.addI1 (.t rfl) .i64 hp6 hl10)<|Ag rfl rfl<|An<|W.exit rfl<|WN.again n4 ((out,at0_+1),k) (Nat.lt_succ_self n4) hm ⟨.q rfl,.q rfl,.q rfl,trivial⟩ ⟨rfl,rfl,trivial⟩
   ·refine W.skip<|Aq<|Aw<|Am rfl rfl<|Ao rfl (.load ty52 (.t rfl))<|Ao rfl (.buildSlice (n:=1) (ys:=[(0,longes.1)]) (z:=zapi_Cite) (xs:=[longes.1]) U56 el52 ze52 ⟨rfl,(.t rfl),trivial⟩ (by simp) (by decide) rfl) ?_
    obtain ⟨out1,hv11,hm⟩:=Bs hm
    exact WL.opR rfl (OpR.appC (key:=3) hv11 U56 el52 (.t rfl) (.t rfl) rfl) fun k1=>Ag rfl rfl<|WL.nr1<|Ao rfl (.fieldAddr U52 rfl J3 fapi_Cite_4 (.t rfl))<|Ao rfl (.load ty3 (.t rfl))<|Ag rfl rfl<|WL.nil<|WN.block<|WN.again n4 ((out1,longes.1.At),k1) (Nat.lt_succ_self n4) hm ⟨.q rfl,.q rfl,.q rfl,trivial⟩ ⟨rfl,rfl,trivial⟩
  ·refine W.exit rfl ?_
   have hr12:=Si hm
   clear hm
   subst hr12
   have hm:=hk3
   try dsimp only at hm
   refine Aq<|Aw<|Am rfl rfl<|Ag rfl rfl<|WL.ns ?_
   cases hm
   exact W.ret1 () rfl (Opd.own (.t rfl)) trivial
theorem resolve_ResolveWords_spec(n:Nat)(u:api_Unit)(at0_:api_Id)(l:List api_Word)(r:(List api_Meaning))(hm:M.resolve_ResolveWords n u at0_ l=some r):FSpec Tryz.prog 8 [(tapi_Unit.is u),(tapi_Id.is at0_),((tL tapi_Word).is l)] ((tL tapi_Meaning).is r):=by
 unfold M.resolve_ResolveWords at hm
 refine FSpec.of Tryz.func8 rfl rfl rfl fun g0=>Aw<|Ao rfl (.box (.t rfl))<|Ao rfl (.box (.t rfl))<|Ao rfl (.assign (.nil (t:=tapi_Meaning)))<|Ar<|WL.addNil (t:=tS) (E:=9) 7<|Ao rfl (.assign (Opd.nilO (t:=tS)))<|An<|W.seq<|Aw<|Am rfl rfl<|Ao rfl (.lenL U24 (.t rfl))<|Ao rfl (.move .i64)<|An<|W.block ?_
 obtain ⟨s1,hs2,hk3⟩:=Bs hm
 clear hm
 refine W.loop (fun m (s:Int×List api_Word×List api_Word×(((List Str))×Tok))=>m=s.2.2.1.length∧l=s.2.1++s.2.2.1∧s.1=(s.2.1.length:Int)∧M.resolve_ResolveWords_loop1 s.2.2.1 s.2.2.2.1=some s1) (fun s=>[(18,(I6.is s.1)),(7,(tO tS s.2.2.2.2 s.2.2.2.1)),(3,(tapi_Unit.ptr u)),(4,(tapi_Id.ptr at0_)),(16,((tL tapi_Word).is l)),(17,(I6.is (l.length:Int)))]) (fun s=>[(7,Dec.Own tS 9 s.2.2.2.2 s.2.2.2.1.length)]) l.length ((0:Int),[],l,(([]:List Str),(none:Tok))) ⟨rfl,rfl,rfl,hs2⟩ ⟨.q rfl,.q rfl,.q rfl,.q rfl,.q rfl,.q rfl,trivial⟩ ⟨rfl,rfl,trivial⟩ ?_
 rintro m ⟨i,pre,rest3,⟨texts,k⟩⟩ ⟨hn7,hxs4,hi5,hm⟩
 try dsimp only at hn7 hxs4 hi5 hm
 change W _ _ _ _ _ _ _ [(18,(I6.is i)),(7,(tO tS k texts)),(3,(tapi_Unit.ptr u)),(4,(tapi_Id.ptr at0_)),(16,((tL tapi_Word).is l)),(17,(I6.is (l.length:Int)))] [(7,Dec.Own tS 9 k texts.length)]
 refine W.lenL (s:=16) (.t rfl) fun hlen6=>Aw<|Ao rfl (.ltI (.t rfl) (.t rfl))<|An<|W.seq<|W.cond (.t rfl) (fun hc9=>?_) (fun hc9=>?_)
 ·have hp10:=of_decide_eq_true hc9
  obtain ⟨e,es,hrest12⟩:=range_more hxs4 hi5 hp10
  subst hrest12
  rw [M.resolve_ResolveWords_loop1.eq_2] at hm
  refine W.skip<|Aq<|W.seq<|W.block<|Aw<|Ao rfl (.idxPre hxs4 hi5 U24 Z33 (.t rfl) (.t rfl))<|Ao rfl (.load ty33 (.t rfl))<|WL.opR rfl (OpR.alloc 9 ze33) fun b=>WL.opU (OpR.storeB (b:=b) 9 Z33 (Cellable.is tapi_Word e) rfl (.t rfl) (.t rfl)) fun _=>WL.sealed (t:=tapi_Word) (u:=e) 9 9 rfl rfl<|WL.nr1<|Am rfl rfl<|Ao rfl (.fieldAddr U33 rfl J9 fapi_Word_0 (.t rfl))<|Ao rfl (.load ty9 (.t rfl))<|Ao rfl (.buildSlice (n:=1) (ys:=[(0,e.Text)]) (z:=([]:Str)) (xs:=[e.Text]) U55 el9 ze9 ⟨rfl,(.t rfl),trivial⟩ (by simp) (by decide) rfl) ?_
  obtain ⟨texts1,hv13,hm⟩:=Bs hm
  exact WL.opR rfl (OpR.appC (key:=7) hv13 U55 el9 (.t rfl) (.t rfl) rfl) fun k1=>Ag rfl rfl<|WL.nil<|WN.block<|Aq<|W.region<|Ao rfl (.addI (.t rfl) .i64 (range_inR hi5 hp10 hlen6))<|Am rfl rfl<|WL.nil<|WN.again es.length (i+1,pre++ [e],es,(texts1,k1)) (range_lt hn7) ⟨rfl,range_step hxs4,range_idx hi5,hm⟩ ⟨.q rfl,.q rfl,.q rfl,.q rfl,.q rfl,.q rfl,trivial⟩ ⟨rfl,rfl,trivial⟩
 ·have hrest12:=range_end hxs4 hi5 (of_decide_eq_false hc9)
  subst hrest12
  rw [M.resolve_ResolveWords_loop1.eq_1] at hm
  refine W.exit rfl ?_
  have hr14:=Si hm
  clear hm
  subst hr14
  have hm:=hk3
  try dsimp only at hm
  refine Aq<|Aw<|WL.addNil (t:=tapi_Meaning) (E:=42) 10<|Ao rfl (.assign (Opd.nilO (t:=tapi_Meaning)))<|Ar<|WL.addNil (t:=tapi_Id) (E:=23) 11<|Ao rfl (.assign (Opd.nilO (t:=tapi_Id)))<|An<|W.seq<|Aw<|WL.mv rfl rfl ?_
  obtain ⟨scan,hv15,hm⟩:=Bs hm
  refine Ao rfl (.call C17 (citation_Scan_spec _ _ _ hv15) ⟨(Opd.own (.t rfl)),trivial⟩)<|Ao rfl (.lenL U56 (.t rfl))<|Ao rfl (.move .i64)<|An<|W.block ?_
  obtain ⟨s16,hs17,hk18⟩:=Bs hm
  clear hm
  refine W.loop (fun m (s:Int×List api_Cite×List api_Cite×(((List api_Meaning)×(List api_Id))×(Tok×Tok)))=>m=s.2.2.1.length∧scan=s.2.1++s.2.2.1∧s.1=(s.2.1.length:Int)∧M.resolve_ResolveWords_loop2 n u at0_ s.2.2.1 s.1 s.2.2.2.1.1 s.2.2.2.1.2=some s16) (fun s=>[(31,(I6.is s.1)),(10,(tO tapi_Meaning s.2.2.2.2.1 s.2.2.2.1.1)),(11,(tO tapi_Id s.2.2.2.2.2 s.2.2.2.1.2)),(3,(tapi_Unit.ptr u)),(4,(tapi_Id.ptr at0_)),(29,((tL tapi_Cite).is scan)),(30,(I6.is (scan.length:Int)))]) (fun s=>[(10,Dec.Own tapi_Meaning 42 s.2.2.2.2.1 s.2.2.2.1.1.length),(11,Dec.Own tapi_Id 23 s.2.2.2.2.2 s.2.2.2.1.2.length)]) scan.length ((0:Int),[],scan,((([]:List api_Meaning),([]:List api_Id)),((none:Tok),(none:Tok)))) ⟨rfl,rfl,rfl,hs17⟩ ⟨.q rfl,.q rfl,.q rfl,.q rfl,.q rfl,.q rfl,.q rfl,trivial⟩ ⟨rfl,rfl,⟨rfl,rfl,trivial⟩⟩ ?_
  rintro m ⟨i1,pre1,rest2,⟨⟨out,ahead⟩,⟨k2,k3⟩⟩⟩ ⟨hn22,hxs19,hi20,hm⟩
  try dsimp only at hn22 hxs19 hi20 hm
  change W _ _ _ _ _ _ _ [(31,(I6.is i1)),(10,(tO tapi_Meaning k2 out)),(11,(tO tapi_Id k3 ahead)),(3,(tapi_Unit.ptr u)),(4,(tapi_Id.ptr at0_)),(29,((tL tapi_Cite).is scan)),(30,(I6.is (scan.length:Int)))] [(10,Dec.Own tapi_Meaning 42 k2 out.length),(11,Dec.Own tapi_Id 23 k3 ahead.length)]
  refine W.lenL (s:=29) (.t rfl) fun hlen21=>Aw<|Ao rfl (.ltI (.t rfl) (.t rfl))<|An<|W.seq<|W.cond (.t rfl) (fun hc24=>?_) (fun hc24=>?_)
  ·have hp25:=of_decide_eq_true hc24
   obtain ⟨e1,es1,hrest27⟩:=range_more hxs19 hi20 hp25
   subst hrest27
   rw [M.resolve_ResolveWords_loop2.eq_2] at hm
   refine W.skip<|Aq<|W.seq<|W.block<|Aw<|Am rfl rfl<|Ao rfl (.idxPre hxs19 hi20 U56 Z52 (.t rfl) (.t rfl))<|Ao rfl (.load ty52 (.t rfl))<|WL.opR rfl (OpR.alloc 13 ze52) fun b1=>Ag rfl rfl<|WL.opU (OpR.storeB (b:=b1) 13 Z52 (Cellable.is tapi_Cite e1) rfl (.t rfl) (.t rfl)) fun _=>WL.sealed (t:=tapi_Cite) (u:=e1) 13 13 rfl rfl<|Ar<|Ao rfl (.load ty27 (.t rfl))<|Ao rfl (.load ty23 (.t rfl))<|Ao rfl (.load ty52 (.t rfl)) ?_
   refine WL.mv rfl rfl ?_
   obtain ⟨resolv,hv28,hm⟩:=Bs hm
   refine Ao rfl (.call C13 (resolve_Resolve_spec _ _ _ _ _ _ hv28) ⟨(.t rfl),(.t rfl),(.t rfl),(Opd.own (.t rfl)),trivial⟩)<|Am rfl rfl<|Ao rfl (.extract0 (.t rfl))<|Ao rfl (.extract1 (.t rfl))<|Ag rfl rfl<|Ag rfl rfl<|Ar<|Am rfl rfl<|Ao rfl (.load ty23 (.t rfl))<|Am rfl rfl<|Am rfl rfl<|Ao rfl (.build (s:=tapi_Meaning) (x:=(⟨at0_,i1,resolv.1⟩:api_Meaning)) zapi_Meaning_f rfl U42 (zapi_Meaning_sz _ U42) ze42 ⟨_,tapi_Id,at0_,_,_,rfl,Z23,(.t rfl),sapi_Meaning_0,⟨_,I6,i1,_,_,rfl,Z3,(.t rfl),sapi_Meaning_1,⟨_,(tL tapi_Id),resolv.1,_,_,rfl,Z40,(.t rfl),sapi_Meaning_2,rfl⟩⟩⟩)<|Ao rfl (.buildSlice (n:=1) (ys:=[(0,(⟨at0_,i1,resolv.1⟩:api_Meaning))]) (z:=zapi_Meaning) (xs:=[(⟨at0_,i1,resolv.1⟩:api_Meaning)]) U35 el42 ze42 ⟨rfl,(.t rfl),trivial⟩ (by simp) (by decide) rfl) ?_
   obtain ⟨out1,hv29,hm⟩:=Bs hm
   refine WL.opR rfl (OpR.appC (key:=10) hv29 U35 el42 (.t rfl) (.t rfl) rfl) fun k4=>Ag rfl rfl<|WL.nr1<|Am rfl rfl<|WL.mv rfl rfl ?_
   obtain ⟨ahead1,hv30,hm⟩:=Bs hm
   exact WL.opR rfl (OpR.appC (key:=11) hv30 U40 el23 (.t rfl) (.t rfl) rfl) fun k5=>Ag rfl rfl<|WL.nil<|WN.block<|Aq<|W.region<|Ao rfl (.addI (.t rfl) .i64 (range_inR hi20 hp25 hlen21))<|Am rfl rfl<|WL.nil<|WN.again es1.length (i1+1,pre1++ [e1],es1,((out1,ahead1),(k4,k5))) (range_lt hn22) ⟨rfl,range_step hxs19,range_idx hi20,hm⟩ ⟨.q rfl,.q rfl,.q rfl,.q rfl,.q rfl,.q rfl,.q rfl,trivial⟩ ⟨rfl,rfl,⟨rfl,rfl,trivial⟩⟩
  ·have hrest27:=range_end hxs19 hi20 (of_decide_eq_false hc24)
   subst hrest27
   rw [M.resolve_ResolveWords_loop2.eq_1] at hm
   refine W.exit rfl ?_
   have hr31:=Si hm
   clear hm
   subst hr31
   have hm:=hk18
   try dsimp only at hm
   refine Aq<|Aw<|Am rfl rfl<|Ag rfl rfl<|WL.ns ?_
   cases hm
   exact W.ret1 () rfl (Opd.own (.t rfl)) trivial
theorem r20_Singles_spec (r:(List Str))(hm:M.r20_Singles=some r):FSpec Tryz.prog 89 [] ((tL tS).is r):=by
 unfold M.r20_Singles at hm
 refine FSpec.of Tryz.func89 rfl rfl rfl fun g0=>Aw<|Ao rfl (.assign (.nil (t:=tS)))<|Ar<|Ao rfl (.buildSlice (n:=7) (ys:=[(0,([112,97,114,116]:Str)),(1,([115,101,99,116,105,111,110]:Str)),(2,([112,97,114,97,103,114,97,112,104]:Str)),(3,([116,97,98,108,101]:Str)),(4,([114,111,119]:Str)),(5,([99,101,108,108]:Str)),(6,([110,111,116,101]:Str))]) (z:=([]:Str)) (xs:=[([112,97,114,116]:Str),([115,101,99,116,105,111,110]:Str),([112,97,114,97,103,114,97,112,104]:Str),([116,97,98,108,101]:Str),([114,111,119]:Str),([99,101,108,108]:Str),([110,111,116,101]:Str)]) U55 el9 ze9 ⟨rfl,(.str rfl (by decide)),rfl,(.str rfl (by decide)),rfl,(.str rfl (by decide)),rfl,(.str rfl (by decide)),rfl,(.str rfl (by decide)),rfl,(.str rfl (by decide)),rfl,(.str rfl (by decide)),trivial⟩ (by simp) (by decide) rfl)<|Ag rfl rfl<|WL.ns ?_
 cases hm
 exact W.ret1 () rfl (.t rfl) trivial
theorem r20_kind_spec(n:Nat)(l:List Str)(s0_:Str)(r:Int)(hm:M.r20_kind n l s0_=some r):FSpec Tryz.prog 88 [((tL tS).is l),(tS.is s0_)] (I6.is r):=by
 unfold M.r20_kind at hm
 refine FSpec.of Tryz.func88 rfl rfl rfl fun g0=>Aw<|Ao rfl (.assign .i64)<|An<|W.seq<|Aw<|Ao rfl (.assign .i64)<|An<|W.block ?_
 obtain ⟨s1,hs2,hk3⟩:=Bs hm
 clear hm
 refine W.loop (fun m (s:Int)=>M.r20_kind_loop1 l s0_ m s=some s1) (fun s=>[(5,(I6.is s)),(0,((tL tS).is l)),(1,(tS.is s0_))]) (fun s=>[]) _ (0:Int) hs2 ⟨.q rfl,.q rfl,.q rfl,trivial⟩ trivial ?_
 rintro n4 i hm
 try dsimp only at hm
 change W _ _ _ _ _ _ _ [(5,(I6.is i)),(0,((tL tS).is l)),(1,(tS.is s0_))] []
 cases n4 with
 | zero=>rw [M.r20_kind_loop1.eq_1] at hm;cases hm
 | succ n4=>
  rw [M.r20_kind_loop1.eq_2] at hm
  refine W.seq<|Aw<|Am rfl rfl<|Am rfl rfl<|Ao rfl (.lenL U55 (.t rfl))<|Ao rfl (.ltI (.t rfl) (.t rfl))<|An<|W.cD hm (.t rfl) (fun hp6 hm=>?_) (fun hp6 hm=>?_)
  ·refine W.skip<|Aq<|W.seq<|W.block<|Aw<|Am rfl rfl<|Ao rfl (.neS (.t rfl) (.str rfl (by decide)))<|WL.mv rfl rfl ?_
   rcases iteB hm with ⟨hp8,hb7,hm⟩ | ⟨hp8,hb7,hm⟩
   ·refine Ax rfl hb7 (.move (.t rfl))<|Ax rfl hb7 (.move (.t rfl)) ?_
    obtain ⟨v,hv9,hm⟩:=Bs hm
    refine Ax rfl hb7 (.idx hv9 U55 Z9 (.t rfl) (.t rfl))<|Ax rfl hb7 (.load ty9 (.t rfl))<|Ax rfl hb7 (.move (.t rfl))<|Ax rfl hb7 (.eqS (.t rfl) (.t rfl))<|Ao rfl (.pickT (.t rfl) hb7 (.t rfl))<|An<|W.cB hm (.t rfl) (fun hp11 hm=>?_) (fun hp11 hm=>?_)
    ·refine Aw<|Am rfl rfl<|WL.lenL (s:=0) (.t rfl) fun hl12=>Ao rfl (.addI1 (.t rfl) .i64 hp6 hl12)<|Ag rfl rfl<|WL.ns ?_
     have hr13:=Si hm
     clear hm
     subst hr13
     have hm:=hk3
     try dsimp only at hm
     cases hm
     exact W.ret1 () rfl (.t rfl) trivial
    ·exact W.skip<|WN.block<|Aq<|W.region<|Am rfl rfl<|WL.lenL (s:=0) (.t rfl) fun hl14=>Ao rfl (.addI1 (.t rfl) .i64 hp6 hl14)<|Ag rfl rfl<|WL.nil<|WN.again n4 (i+1) (Nat.lt_succ_self n4) hm ⟨.q rfl,.q rfl,.q rfl,trivial⟩ trivial
   ·refine Ap rfl hb7<|Ap rfl hb7<|Ap rfl hb7<|Ap rfl hb7<|Ap rfl hb7<|Ap rfl hb7<|Ao rfl (.pickF (.t rfl) hb7 .bool)<|An<|W.condF (.t rfl)<|W.skip<|WN.block<|Aq<|W.region<|Am rfl rfl<|WL.lenL (s:=0) (.t rfl) fun hl15=>Ao rfl (.addI1 (.t rfl) .i64 hp6 hl15) ?_
    exact Ag rfl rfl<|WL.nil<|WN.again n4 (i+1) (Nat.lt_succ_self n4) hm ⟨.q rfl,.q rfl,.q rfl,trivial⟩ trivial
  ·refine W.exit rfl ?_
   have hr16:=Si hm
   clear hm
   subst hr16
   have hm:=hk3
   try dsimp only at hm
   refine Aq<|Aw<|Ao rfl (.assign .i64)<|WL.ns ?_
   cases hm
   exact W.ret1 () rfl (.t rfl) trivial
theorem r20_Plurals_spec (r:(List Str))(hm:M.r20_Plurals=some r):FSpec Tryz.prog 56 [] ((tL tS).is r):=by
 unfold M.r20_Plurals at hm
 refine FSpec.of Tryz.func56 rfl rfl rfl fun g0=>Aw<|Ao rfl (.assign (.nil (t:=tS)))<|Ar<|Ao rfl (.buildSlice (n:=7) (ys:=[(0,([112,97,114,116,115]:Str)),(1,([115,101,99,116,105,111,110,115]:Str)),(2,([112,97,114,97,103,114,97,112,104,115]:Str)),(3,([116,97,98,108,101,115]:Str)),(4,([114,111,119,115]:Str)),(5,([]:Str)),(6,([110,111,116,101,115]:Str))]) (z:=([]:Str)) (xs:=[([112,97,114,116,115]:Str),([115,101,99,116,105,111,110,115]:Str),([112,97,114,97,103,114,97,112,104,115]:Str),([116,97,98,108,101,115]:Str),([114,111,119,115]:Str),([]:Str),([110,111,116,101,115]:Str)]) U55 el9 ze9 ⟨rfl,(.str rfl (by decide)),rfl,(.str rfl (by decide)),rfl,(.str rfl (by decide)),rfl,(.str rfl (by decide)),rfl,(.str rfl (by decide)),rfl,(.str rfl (by decide)),rfl,(.str rfl (by decide)),trivial⟩ (by simp) (by decide) rfl)<|Ag rfl rfl<|WL.ns ?_
 cases hm
 exact W.ret1 () rfl (.t rfl) trivial
theorem r20_step_spec(n:Nat)(s0_:api_Step)(r:Bool)(hm:M.r20_step n s0_=some r):FSpec Tryz.prog 91 [(tapi_Step.is s0_)] (tB.is r):=by
 unfold M.r20_step at hm
 refine FSpec.of Tryz.func91 rfl rfl rfl fun g0=>Aw<|Ao rfl (.box (.t rfl))<|Ao rfl (.assign .bool)<|Ar<|Ao rfl (.fieldAddr U49 rfl J3 fapi_Step_0 (.t rfl))<|Ao rfl (.load ty3 (.t rfl))<|Ao rfl (.geI (.t rfl) .i64)<|WL.mv rfl rfl ?_
 rcases iteD hm with ⟨hp2,hb1,hm⟩ | ⟨hp2,hb1,hm⟩
 ·refine Ax rfl hb1 (.fieldAddr U49 rfl J3 fapi_Step_0 (.t rfl))<|Ax rfl hb1 (.load ty3 (.t rfl))<|Ax rfl hb1 (.leI (.t rfl) .i64)<|Ao rfl (.pickT (.t rfl) hb1 (.t rfl))<|WL.mv rfl rfl ?_
  rcases iteD hm with ⟨hp4,hb3,hm⟩ | ⟨hp4,hb3,hm⟩
  ·refine Ax rfl hb3 (.fieldAddr U49 rfl J9 fapi_Step_1 (.t rfl))<|Ax rfl hb3 (.load ty9 (.t rfl)) ?_
   obtain ⟨may,hv5,hm⟩:=Bs hm
   refine Ax rfl hb3 (.call C55 (r03_May_spec _ _ _ hv5) ⟨(.t rfl),trivial⟩)<|Ao rfl (.pickT (.t rfl) hb3 (.t rfl))<|Ag rfl rfl<|WL.ns ?_
   cases hm
   exact W.ret1 () rfl (.t rfl) trivial
  ·refine Ap rfl hb3<|Ap rfl hb3<|Ap rfl hb3<|Ao rfl (.pickF (.t rfl) hb3 .bool)<|Ag rfl rfl<|WL.ns ?_
   cases hm
   exact W.ret1 () rfl (.t rfl) trivial
 ·refine Ap rfl hb1<|Ap rfl hb1<|Ap rfl hb1<|Ao rfl (.pickF (.t rfl) hb1 .bool)<|Am rfl rfl<|Ap rfl rfl<|Ap rfl rfl<|Ap rfl rfl<|Ao rfl (.pickF (.t rfl) rfl .bool)<|Ag rfl rfl<|WL.ns ?_
  cases hm
  exact W.ret1 () rfl (.t rfl) trivial
theorem r20_steps_spec(n:Nat)(p:List api_Step)(r:Bool)(hm:M.r20_steps n p=some r):FSpec Tryz.prog 57 [((tL tapi_Step).is p)] (tB.is r):=by
 unfold M.r20_steps at hm
 refine FSpec.of Tryz.func57 rfl rfl rfl fun g0=>Aw<|Ao rfl (.assign .bool)<|An<|W.seq<|Aw<|Ao rfl (.assign .i64)<|An<|W.block ?_
 obtain ⟨s1,hs2,hk3⟩:=Bs hm
 clear hm
 refine W.loop (fun m (s:Int)=>M.r20_steps_loop1 p m s=some s1) (fun s=>[(3,(I6.is s)),(0,((tL tapi_Step).is p))]) (fun s=>[]) _ (0:Int) hs2 ⟨.q rfl,.q rfl,trivial⟩ trivial ?_
 rintro n4 i hm
 try dsimp only at hm
 change W _ _ _ _ _ _ _ [(3,(I6.is i)),(0,((tL tapi_Step).is p))] []
 cases n4 with
 | zero=>rw [M.r20_steps_loop1.eq_1] at hm;cases hm
 | succ n4=>
  rw [M.r20_steps_loop1.eq_2] at hm
  refine W.seq<|Aw<|Am rfl rfl<|Am rfl rfl<|Ao rfl (.lenL U50 (.t rfl))<|Ao rfl (.ltI (.t rfl) (.t rfl))<|An<|W.cD hm (.t rfl) (fun hp6 hm=>?_) (fun hp6 hm=>?_)
  ·refine W.skip<|Aq<|W.seq<|W.block<|Aw<|Am rfl rfl<|WL.mv rfl rfl ?_
   obtain ⟨v,hv7,hm⟩:=Bs hm
   refine Ao rfl (.idx hv7 U50 Z49 (.t rfl) (.t rfl))<|Ao rfl (.load ty49 (.t rfl)) ?_
   obtain ⟨step,hv8,hm⟩:=Bs hm
   refine Ao rfl (.call C91 (r20_step_spec _ _ _ hv8) ⟨(.t rfl),trivial⟩)<|Ao rfl (.notB (.t rfl))<|An<|W.cR hm (.t rfl) (fun hp10 hm=>?_) (fun hp10 hm=>?_)
   ·refine Aw<|Ao rfl (.assign .bool)<|WL.ns ?_
    have hr11:=Si hm
    clear hm
    subst hr11
    have hm:=hk3
    try dsimp only at hm
    cases hm
    exact W.ret1 () rfl (.t rfl) trivial
   ·exact W.skip<|WN.block<|Aq<|W.region<|Am rfl rfl<|WL.lenL (s:=0) (.t rfl) fun hl12=>Ao rfl (.addI1 (.t rfl) .i64 hp6 hl12)<|Ag rfl rfl<|WL.nil<|WN.again n4 (i+1) (Nat.lt_succ_self n4) hm ⟨.q rfl,.q rfl,trivial⟩ trivial
  ·refine W.exit rfl ?_
   have hr13:=Si hm
   clear hm
   subst hr13
   have hm:=hk3
   try dsimp only at hm
   refine Aq<|Aw<|Ao rfl (.assign .bool)<|WL.ns ?_
   cases hm
   exact W.ret1 () rfl (.t rfl) trivial
theorem r20_plain_spec(n:Nat)(p:List api_Step)(r:Bool)(hm:M.r20_plain n p=some r):FSpec Tryz.prog 54 [((tL tapi_Step).is p)] (tB.is r):=by
 unfold M.r20_plain at hm
 refine FSpec.of Tryz.func54 rfl rfl rfl fun g0=>Aw<|Ao rfl (.assign .bool)<|WL.ns ?_
 obtain ⟨s1,hs2,hk3⟩:=Bs hm
 clear hm
 refine W.join (fun s:(List api_Step)=>s=s1) (fun s=>[(0,((tL tapi_Step).is s))]) (fun s=>[]) ?_ ?_
 ·rintro p1 hj16
  try dsimp only at hj16
  subst hj16
  have hm:=hk3
  clear hk3
  try dsimp only at hm
  change W _ _ _ _ _ _ _ [(0,((tL tapi_Step).is p1))] []
  refine Aw<|Am rfl rfl<|Ao rfl (.lenL U50 (.t rfl))<|Ao rfl (.gtI (.t rfl) .i64)<|WL.mv rfl rfl ?_
  rcases iteD hm with ⟨hp14,hb13,hm⟩ | ⟨hp14,hb13,hm⟩
  ·refine Ax rfl hb13 (.move (.t rfl)) ?_
   obtain ⟨steps,hv15,hm⟩:=Bs hm
   refine Ax rfl hb13 (.call C57 (r20_steps_spec _ _ _ hv15) ⟨(.t rfl),trivial⟩)<|Ao rfl (.pickT (.t rfl) hb13 (.t rfl))<|Ag rfl rfl<|WL.ns ?_
   cases hm
   exact W.ret1 () rfl (.t rfl) trivial
  ·refine Ap rfl hb13<|Ap rfl hb13<|Ao rfl (.pickF (.t rfl) hb13 .bool)<|Ag rfl rfl<|WL.ns ?_
   cases hm
   exact W.ret1 () rfl (.t rfl) trivial
 ·have hm:=hs2
  clear hs2
  refine Aw<|Am rfl rfl<|Ao rfl (.lenL U50 (.t rfl))<|Ao rfl (.gtI (.t rfl) .i64)<|WL.mv rfl rfl ?_
  rcases iteD hm with ⟨hp5,hb4,hm⟩ | ⟨hp5,hb4,hm⟩
  ·refine Ax rfl hb4 (.move (.t rfl)) ?_
   obtain ⟨v,hv6,hm⟩:=Bs hm
   refine Ax rfl hb4 (.idx hv6 U50 Z49 (.t rfl) .i64)<|Ax rfl hb4 (.fieldAddr U49 rfl J3 fapi_Step_0 (.t rfl))<|Ax rfl hb4 (.load ty3 (.t rfl))<|Ax rfl hb4 (.eqI (.t rfl) .i64)<|Ao rfl (.pickT (.t rfl) hb4 (.t rfl))<|WL.mv rfl rfl ?_
   rcases iteD hm with ⟨hp8,hb7,hm⟩ | ⟨hp8,hb7,hm⟩
   ·refine Ax rfl hb7 (.move (.t rfl)) ?_
    obtain ⟨v1,hv9,hm⟩:=Bs hm
    refine Ax rfl hb7 (.idx hv9 U50 Z49 (.t rfl) .i64)<|Ax rfl hb7 (.fieldAddr U49 rfl J9 fapi_Step_1 (.t rfl))<|Ax rfl hb7 (.load ty9 (.t rfl))<|Ax rfl hb7 (.eqS (.t rfl) (.str rfl (by decide)))<|Ao rfl (.pickT (.t rfl) hb7 (.t rfl))<|An<|W.cB hm (.t rfl) (fun hp11 hm=>?_) (fun hp11 hm=>?_)
    ·refine W.region<|WL.mv rfl rfl ?_
     obtain ⟨v2,hv12,hm⟩:=Bs hm
     exact Ao rfl (.slcLo hv12 U50 Z49 (.t rfl) .i64)<|Ag rfl rfl<|WL.nil<|WN.meet v2 (Si hm) ⟨.q rfl,trivial⟩ trivial
    ·exact W.skip<|WN.meet p (Si hm) ⟨.q rfl,trivial⟩ trivial
   ·exact Ap rfl hb7<|Ap rfl hb7<|Ap rfl hb7<|Ap rfl hb7<|Ap rfl hb7<|Ao rfl (.pickF (.t rfl) hb7 .bool)<|An<|W.condF (.t rfl)<|W.skip<|WN.meet p (Si hm) ⟨.q rfl,trivial⟩ trivial
  ·refine Ap rfl hb4<|Ap rfl hb4<|Ap rfl hb4<|Ap rfl hb4<|Ap rfl hb4<|Ao rfl (.pickF (.t rfl) hb4 .bool)<|Am rfl rfl<|Ap rfl rfl<|Ap rfl rfl<|Ap rfl rfl<|Ap rfl rfl<|Ap rfl rfl<|Ao rfl (.pickF (.t rfl) rfl .bool)<|An<|W.condF (.t rfl)<|W.skip ?_
   exact WN.meet p (Si hm) ⟨.q rfl,trivial⟩ trivial
end Go.Proofs.YtlegkjbldofkmaaGreat
