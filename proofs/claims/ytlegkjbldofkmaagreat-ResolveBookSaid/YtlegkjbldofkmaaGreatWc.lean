/-
  The code does what the models say: written by program.
-/
import Derived.Test.YtlegkjbldofkmaaGreatWb
set_option linter.unusedVariables false
set_option linter.unusedSimpArgs false
namespace Go.Proofs.YtlegkjbldofkmaaGreat
open Go Go.Dec
set_option maxRecDepth 100000
set_option maxHeartbeats 4000000
theorem r20_May_spec(n:Nat)(c:api_Cite)(r:Bool)(hm:M.r20_May n c=some r):FSpec Tryz.prog 31 [(tapi_Cite.is c)] (tB.is r):=by
 unfold M.r20_May at hm
 refine FSpec.of Tryz.func31 rfl rfl rfl fun g0=>Aw<|Ao rfl (.box (.t rfl))<|Ao rfl (.assign .bool)<|An<|W.seq ?_
 obtain ⟨s1,hs2,hk3⟩:=Bs hm
 clear hm
 refine W.join (fun s:Bool=>s=s1) (fun s=>[(12,(tB.is s)),(1,(tapi_Cite.ptr c))]) (fun s=>[]) ?_ ?_
 ·rintro v hj53
  try dsimp only at hj53
  subst hj53
  have hm:=hk3
  clear hk3
  try dsimp only at hm
  change W _ _ _ _ _ _ _ [(12,(tB.is v)),(1,(tapi_Cite.ptr c))] []
  refine W.cB hm (.t rfl) (fun hp7 hm=>?_) (fun hp7 hm=>?_)
  ·refine Aw<|Ao rfl (.assign .bool)<|WL.ns ?_
   cases hm
   exact W.ret1 () rfl (.t rfl) trivial
  ·refine W.skip<|Aq<|W.seq<|Aw<|Ao rfl (.fieldAddr U52 rfl J3 fapi_Cite_0 (.t rfl))<|Ao rfl (.load ty3 (.t rfl))<|An<|W.block ?_
   obtain ⟨s8,hs9,hk10⟩:=Bs hm
   clear hm
   refine W.join (fun s:Bool=>s=s8) (fun s=>[(15,(tB.is s)),(1,(tapi_Cite.ptr c)),(14,(I6.is c.Kind))]) (fun s=>[]) ?_ ?_
   ·rintro v1 hj52
    try dsimp only at hj52
    subst hj52
    have hm:=hk10
    clear hk10
    try dsimp only at hm
    change W _ _ _ _ _ _ _ [(15,(tB.is v1)),(1,(tapi_Cite.ptr c)),(14,(I6.is c.Kind))] []
    refine W.cB hm (.t rfl) (fun hp14 hm=>?_) (fun hp14 hm=>?_)
    ·refine Aw<|Ao rfl (.fieldAddr U52 rfl J9 fapi_Cite_2 (.t rfl))<|Ao rfl (.load ty9 (.t rfl))<|Ao rfl (.eqS (.t rfl) (.str rfl (by decide)))<|WL.mv rfl rfl ?_
     rcases iteB hm with ⟨hp16,hb15,hm⟩ | ⟨hp16,hb15,hm⟩
     ·refine Ax rfl hb15 (.fieldAddr U52 rfl J50 fapi_Cite_1 (.t rfl))<|Ax rfl hb15 (.load ty50 (.t rfl)) ?_
      obtain ⟨plain,hv17,hm⟩:=Bs hm
      refine Ax rfl hb15 (.call C54 (r20_plain_spec _ _ _ hv17) ⟨(.t rfl),trivial⟩)<|Ao rfl (.pickT (.t rfl) hb15 (.t rfl))<|Ag rfl rfl<|WL.ns ?_
      cases hm
      exact W.ret1 () rfl (.t rfl) trivial
     ·refine Ap rfl hb15<|Ap rfl hb15<|Ap rfl hb15<|Ao rfl (.pickF (.t rfl) hb15 .bool)<|Ag rfl rfl<|WL.ns ?_
      cases hm
      exact W.ret1 () rfl (.t rfl) trivial
    ·refine Aw<|Ao rfl (.eqI (.t rfl) .i64)<|Ag rfl rfl<|An<|W.cD hm (.t rfl) (fun hp19 hm=>?_) (fun hp19 hm=>?_)
     ·refine W.seq ?_
      obtain ⟨may,hv20,hm⟩:=Bs hm
      rcases iteB hm with ⟨hp22,hb21,hm⟩ | ⟨hp22,hb21,hm⟩
      ·obtain ⟨plain1,hv23,hm⟩:=Bs hm
       rcases iteB hm with ⟨hp25,hb24,hm⟩ | ⟨hp25,hb24,hm⟩
       ·obtain ⟨plural,hv26,hm⟩:=Bs hm
        obtain ⟨v2,hv27,hm⟩:=Bs hm
        obtain ⟨v3,hv28,hm⟩:=Bs hm
        obtain ⟨v4,hv29,hm⟩:=Bs hm
        obtain ⟨v5,hv30,hm⟩:=Bs hm
        refine W.draw [.c _,.c _,.c _,.c _,.c _,.c _,.c _,.c _,.c _,.c _,.c _,.c _,.c _,.c _,.c _,.c _,.c _,.c _,.c _,.c _,.c _,.c _,.c _,.c _,.c _] [([],[1]),([0],[]),([1],[]),([2],[]),([3],[1]),([3,4],[]),([3,5],[]),([3,6],[]),([7],[]),([8],[]),([8],[1]),([8,10],[]),([8],[1]),([8,12],[]),([8,13],[]),([8,14],[]),([8,11,15],[]),([8,16],[]),([8,17],[]),([8,18],[]),([8,9,19],[]),([8,20],[]),([8,21],[]),([8,22],[]),([23],[])] Mx rfl rfl rfl rfl (by exact ⟨Dn (.fieldAddr U52 rfl J9 fapi_Cite_2 (.t rfl)),Dn (.load ty9 (.t rfl)),Dn (.call C55 (r03_May_spec _ _ _ hv20) ⟨(.t rfl),trivial⟩),Dn (.move (.t rfl)),Dr rfl hb21 (.fieldAddr U52 rfl J50 fapi_Cite_1 (.t rfl)),Dr rfl hb21 (.load ty50 (.t rfl)),Dr rfl hb21 (.call C54 (r20_plain_spec _ _ _ hv23) ⟨(.t rfl),trivial⟩),Dn (.pickT (.t rfl) hb21 (.t rfl)),Dn (.move (.t rfl)),Dr rfl hb24 (.call C56 (r20_Plurals_spec _ hv26) trivial),Dr rfl hb24 (.fieldAddr U52 rfl J50 fapi_Cite_1 (.t rfl)),Dr rfl hb24 (.load ty50 (.t rfl)),Dr rfl hb24 (.fieldAddr U52 rfl J50 fapi_Cite_1 (.t rfl)),Dr rfl hb24 (.load ty50 (.t rfl)),Dr rfl hb24 (.lenL U50 (.t rfl)),Dr rfl hb24 (.subC hv27 (.t rfl) .i64),Dr rfl hb24 (.idx hv28 U50 Z49 (.t rfl) (.t rfl)),Dr rfl hb24 (.fieldAddr U49 rfl J3 fapi_Step_0 (.t rfl)),Dr rfl hb24 (.load ty3 (.t rfl)),Dr rfl hb24 (.subC hv29 (.t rfl) .i64),Dr rfl hb24 (.idx hv30 U55 Z9 (.t rfl) (.t rfl)),Dr rfl hb24 (.load ty9 (.t rfl)),Dr rfl hb24 (.neS (.t rfl) (.str rfl (by decide))),Dn (.pickT (.t rfl) hb24 (.t rfl)),Dn (.assign (.t rfl)),trivial⟩)<|WN.seq ?_
        cases hm
        exact W.ret1 () rfl (.t rfl) trivial
       ·refine W.draw [.c _,.c _,.c _,.c _,.c _,.c _,.c _,.c _,.c _,.c _,.c _,.c _,.c _,.c _,.c _,.c _,.c _,.c _,.c _,.c _,.c _,.c _,.c _,.c _,.c _] [([],[1]),([0],[]),([1],[]),([2],[]),([3],[1]),([3,4],[]),([3,5],[]),([3,6],[]),([7],[]),([8],[]),([8],[1]),([8,10],[]),([8],[1]),([8,12],[]),([8,13],[]),([8,14],[]),([8,11,15],[]),([8,16],[]),([8,17],[]),([8,18],[]),([8,9,19],[]),([8,20],[]),([8,21],[]),([8,22],[]),([23],[])] Mx rfl rfl rfl rfl (by exact ⟨Dn (.fieldAddr U52 rfl J9 fapi_Cite_2 (.t rfl)),Dn (.load ty9 (.t rfl)),Dn (.call C55 (r03_May_spec _ _ _ hv20) ⟨(.t rfl),trivial⟩),Dn (.move (.t rfl)),Dr rfl hb21 (.fieldAddr U52 rfl J50 fapi_Cite_1 (.t rfl)),Dr rfl hb21 (.load ty50 (.t rfl)),Dr rfl hb21 (.call C54 (r20_plain_spec _ _ _ hv23) ⟨(.t rfl),trivial⟩),Dn (.pickT (.t rfl) hb21 (.t rfl)),Dn (.move (.t rfl)),Dp rfl hb24,Dp rfl hb24,Dp rfl hb24,Dp rfl hb24,Dp rfl hb24,Dp rfl hb24,Dp rfl hb24,Dp rfl hb24,Dp rfl hb24,Dp rfl hb24,Dp rfl hb24,Dp rfl hb24,Dp rfl hb24,Dp rfl hb24,Dn (.pickF (.t rfl) hb24 .bool),Dn (.assign (.t rfl)),trivial⟩)<|WN.seq ?_
        cases hm
        exact W.ret1 () rfl (.t rfl) trivial
      ·refine W.draw [.c _,.c _,.c (tB.is may),.c (tB.is may),.c _,.c _,.c _,.c (tB.is false),.c (tB.is false),.c _,.c _,.c _,.c _,.c _,.c _,.c _,.c _,.c _,.c _,.c _,.c _,.c _,.c _,.c (tB.is false),.c (tB.is false)] [([],[1]),([0],[]),([1],[]),([2],[]),([3],[1]),([3,4],[]),([3,5],[]),([3,6],[]),([7],[]),([8],[]),([8],[1]),([8,10],[]),([8],[1]),([8,12],[]),([8,13],[]),([8,14],[]),([8,11,15],[]),([8,16],[]),([8,17],[]),([8,18],[]),([8,9,19],[]),([8,20],[]),([8,21],[]),([8,22],[]),([23],[])] Mx rfl rfl rfl rfl (by exact ⟨Dn (.fieldAddr U52 rfl J9 fapi_Cite_2 (.t rfl)),Dn (.load ty9 (.t rfl)),Dn (.call C55 (r03_May_spec _ _ _ hv20) ⟨(.t rfl),trivial⟩),Dn (.move (.t rfl)),Dp rfl hb21,Dp rfl hb21,Dp rfl hb21,Dn (.pickF (.t rfl) hb21 .bool),Dn (.move (.t rfl)),Dp rfl rfl,Dp rfl rfl,Dp rfl rfl,Dp rfl rfl,Dp rfl rfl,Dp rfl rfl,Dp rfl rfl,Dp rfl rfl,Dp rfl rfl,Dp rfl rfl,Dp rfl rfl,Dp rfl rfl,Dp rfl rfl,Dp rfl rfl,Dn (.pickF (.t rfl) rfl .bool),Dn (.assign (.t rfl)),trivial⟩)<|WN.seq ?_
       cases hm
       exact W.ret1 () rfl (.t rfl) trivial
     ·obtain ⟨s31,hs32,hk33⟩:=Bs hm
      clear hm
      refine W.join (fun s:Bool=>s=s31) (fun s=>[(52,(tB.is s)),(1,(tapi_Cite.ptr c))]) (fun s=>[]) ?_ ?_
      ·rintro v6 hj51
       try dsimp only at hj51
       subst hj51
       have hm:=hk33
       clear hk33
       try dsimp only at hm
       change W _ _ _ _ _ _ _ [(52,(tB.is v6)),(1,(tapi_Cite.ptr c))] []
       refine W.cB hm (.t rfl) (fun hp37 hm=>?_) (fun hp37 hm=>?_)
       ·refine Aw<|Ao rfl (.fieldAddr U52 rfl J9 fapi_Cite_2 (.t rfl))<|Ao rfl (.load ty9 (.t rfl))<|Ao rfl (.eqS (.t rfl) (.str rfl (by decide)))<|WL.mv rfl rfl ?_
        rcases iteB hm with ⟨hp39,hb38,hm⟩ | ⟨hp39,hb38,hm⟩
        ·refine Ax rfl hb38 (.fieldAddr U52 rfl J50 fapi_Cite_1 (.t rfl))<|Ax rfl hb38 (.load ty50 (.t rfl)) ?_
         obtain ⟨v7,hv40,hm⟩:=Bs hm
         refine Ax rfl hb38 (.idx hv40 U50 Z49 (.t rfl) .i64)<|Ax rfl hb38 (.fieldAddr U49 rfl J3 fapi_Step_0 (.t rfl))<|Ax rfl hb38 (.load ty3 (.t rfl))<|Ax rfl hb38 (.geI (.t rfl) .i64)<|Ao rfl (.pickT (.t rfl) hb38 (.t rfl))<|WL.mv rfl rfl ?_
         rcases iteD hm with ⟨hp42,hb41,hm⟩ | ⟨hp42,hb41,hm⟩
         ·refine Ax rfl hb41 (.fieldAddr U52 rfl J50 fapi_Cite_1 (.t rfl))<|Ax rfl hb41 (.load ty50 (.t rfl)) ?_
          obtain ⟨v8,hv43,hm⟩:=Bs hm
          refine Ax rfl hb41 (.idx hv43 U50 Z49 (.t rfl) .i64)<|Ax rfl hb41 (.fieldAddr U49 rfl J3 fapi_Step_0 (.t rfl))<|Ax rfl hb41 (.load ty3 (.t rfl))<|Ax rfl hb41 (.leI (.t rfl) .i64)<|Ao rfl (.pickT (.t rfl) hb41 (.t rfl))<|WL.mv rfl rfl ?_
          rcases iteD hm with ⟨hp45,hb44,hm⟩ | ⟨hp45,hb44,hm⟩
          ·refine Ax rfl hb44 (.fieldAddr U52 rfl J50 fapi_Cite_1 (.t rfl))<|Ax rfl hb44 (.load ty50 (.t rfl)) ?_
           obtain ⟨v9,hv46,hm⟩:=Bs hm
           refine Ax rfl hb44 (.idx hv46 U50 Z49 (.t rfl) .i64)<|Ax rfl hb44 (.fieldAddr U49 rfl J9 fapi_Step_1 (.t rfl))<|Ax rfl hb44 (.load ty9 (.t rfl))<|Ax rfl hb44 (.eqS (.t rfl) (.str rfl (by decide)))<|Ao rfl (.pickT (.t rfl) hb44 (.t rfl))<|WL.mv rfl rfl ?_
           rcases iteB hm with ⟨hp48,hb47,hm⟩ | ⟨hp48,hb47,hm⟩
           ·refine Ax rfl hb47 (.fieldAddr U52 rfl J50 fapi_Cite_1 (.t rfl))<|Ax rfl hb47 (.load ty50 (.t rfl)) ?_
            obtain ⟨v10,hv49,hm⟩:=Bs hm
            refine Ax rfl hb47 (.slcLo hv49 U50 Z49 (.t rfl) .i64) ?_
            obtain ⟨steps,hv50,hm⟩:=Bs hm
            refine Ax rfl hb47 (.call C57 (r20_steps_spec _ _ _ hv50) ⟨(.t rfl),trivial⟩)<|Ao rfl (.pickT (.t rfl) hb47 (.t rfl))<|Ag rfl rfl<|WL.ns ?_
            cases hm
            exact W.ret1 () rfl (.t rfl) trivial
           ·refine Ap rfl hb47<|Ap rfl hb47<|Ap rfl hb47<|Ap rfl hb47<|Ao rfl (.pickF (.t rfl) hb47 .bool)<|Ag rfl rfl<|WL.ns ?_
            cases hm
            exact W.ret1 () rfl (.t rfl) trivial
          ·refine Ap rfl hb44<|Ap rfl hb44<|Ap rfl hb44<|Ap rfl hb44<|Ap rfl hb44<|Ap rfl hb44<|Ao rfl (.pickF (.t rfl) hb44 .bool)<|Am rfl rfl<|Ap rfl rfl<|Ap rfl rfl<|Ap rfl rfl<|Ap rfl rfl<|Ao rfl (.pickF (.t rfl) rfl .bool)<|Ag rfl rfl<|WL.ns ?_
           cases hm
           exact W.ret1 () rfl (.t rfl) trivial
         ·refine Ap rfl hb41<|Ap rfl hb41<|Ap rfl hb41<|Ap rfl hb41<|Ap rfl hb41<|Ap rfl hb41<|Ao rfl (.pickF (.t rfl) hb41 .bool)<|Am rfl rfl<|Ap rfl rfl<|Ap rfl rfl<|Ap rfl rfl<|Ap rfl rfl<|Ap rfl rfl<|Ap rfl rfl<|Ao rfl (.pickF (.t rfl) rfl .bool)<|WL.mv rfl rfl ?_
          refine Ap rfl rfl<|Ap rfl rfl<|Ap rfl rfl<|Ap rfl rfl<|Ao rfl (.pickF (.t rfl) rfl .bool)<|Ag rfl rfl<|WL.ns ?_
          cases hm
          exact W.ret1 () rfl (.t rfl) trivial
        ·refine Ap rfl hb38<|Ap rfl hb38<|Ap rfl hb38<|Ap rfl hb38<|Ap rfl hb38<|Ap rfl hb38<|Ao rfl (.pickF (.t rfl) hb38 .bool)<|Am rfl rfl<|Ap rfl rfl<|Ap rfl rfl<|Ap rfl rfl<|Ap rfl rfl<|Ap rfl rfl<|Ap rfl rfl<|Ao rfl (.pickF (.t rfl) rfl .bool)<|WL.mv rfl rfl ?_
         refine Ap rfl rfl<|Ap rfl rfl<|Ap rfl rfl<|Ap rfl rfl<|Ap rfl rfl<|Ap rfl rfl<|Ao rfl (.pickF (.t rfl) rfl .bool)<|Am rfl rfl<|Ap rfl rfl<|Ap rfl rfl<|Ap rfl rfl<|Ap rfl rfl<|Ao rfl (.pickF (.t rfl) rfl .bool)<|Ag rfl rfl<|WL.ns ?_
         cases hm
         exact W.ret1 () rfl (.t rfl) trivial
       ·refine W.skip<|WN.block<|Aq<|Aw<|Ao rfl (.assign .bool)<|WL.ns ?_
        cases hm
        exact W.ret1 () rfl (.t rfl) trivial
      ·have hm:=hs32
       clear hs32
       refine Aw<|Ao rfl (.eqI (.t rfl) .i64)<|Ag rfl rfl<|An<|W.cD hm (.t rfl) (fun hp35 hm=>?_) (fun hp35 hm=>?_)
       ·exact W.skip<|WN.meet (decide (c.Kind=(2:Int))) (Si hm) ⟨.q rfl,.q rfl,trivial⟩ trivial
       ·exact W.region<|Ao rfl (.eqI (.t rfl) .i64)<|Ag rfl rfl<|WL.nil<|WN.meet (decide (c.Kind=(3:Int))) (Si hm) ⟨.q rfl,.q rfl,trivial⟩ trivial
   ·have hm:=hs9
    clear hs9
    refine Aw<|Ao rfl (.eqI (.t rfl) .i64)<|Ag rfl rfl<|An<|W.cD hm (.t rfl) (fun hp12 hm=>?_) (fun hp12 hm=>?_)
    ·exact W.skip<|WN.meet (decide (c.Kind=(0:Int))) (Si hm) ⟨.q rfl,.q rfl,.q rfl,trivial⟩ trivial
    ·exact W.region<|Ao rfl (.eqI (.t rfl) .i64)<|Ag rfl rfl<|WL.nil<|WN.meet (decide (c.Kind=(4:Int))) (Si hm) ⟨.q rfl,.q rfl,.q rfl,trivial⟩ trivial
 ·have hm:=hs2
  clear hs2
  refine W.region<|Ao rfl (.fieldAddr U52 rfl J50 fapi_Cite_1 (.t rfl))<|Ao rfl (.load ty50 (.t rfl))<|Ao rfl (.lenL U50 (.t rfl))<|Ao rfl (.gtI (.t rfl) .i64)<|WL.mv rfl rfl ?_
  rcases iteD hm with ⟨hp5,hb4,hm⟩ | ⟨hp5,hb4,hm⟩
  ·exact Ap rfl hb4<|Ap rfl hb4<|Ap rfl hb4<|Ap rfl hb4<|Ao rfl (.pickT (.t rfl) hb4 .bool)<|WL.nil<|WN.meet true (Si hm) ⟨.q rfl,.q rfl,trivial⟩ trivial
  ·exact Ax rfl hb4 (.fieldAddr U52 rfl J50 fapi_Cite_1 (.t rfl))<|Ax rfl hb4 (.load ty50 (.t rfl))<|Ax rfl hb4 (.lenL U50 (.t rfl))<|Ax rfl hb4 (.eqI (.t rfl) .i64)<|Ao rfl (.pickF (.t rfl) hb4 (.t rfl))<|WL.nil<|WN.meet (decide ((c.Path.length:Int)=(0:Int))) (Si hm) ⟨.q rfl,.q rfl,trivial⟩ trivial
theorem r20_Read_spec(n:Nat)(w:List Str)(r:api_Cite×Bool)(hm:M.r20_Read n w=some r):FSpec Tryz.prog 52 [((tL tS).is w)] (Asn.tuple2 (tapi_Cite.is r.1) (tB.is r.2)):=by
 unfold M.r20_Read at hm
 refine FSpec.of Tryz.func52 rfl rfl rfl fun g0=>Aw<|WL.opR rfl (OpR.alloc 2 ze52) fun b=>Ao rfl (.assign .bool)<|Ar<|WL.addNil (t:=tapi_Step) (E:=49) 6<|Ao rfl (.build (s:=(tapi_Cite_k1 none)) (x:=(⟨(0:Int),([]:List api_Step),([]:Str),(0:Int),(0:Int)⟩:api_Cite)) zapi_Cite_f rfl U52 (zapi_Cite_sz _ U52) zeapi_Cite_k1 rfl)<|WL.opR rfl (OpR.alloc 4 ze52) fun b1=>WL.opU (OpR.storeB (b:=b1) 4 Z52 (Cellable.is (tapi_Cite_k1 (none:Tok)) (⟨(0:Int),([]:List api_Step),([]:Str),(0:Int),(0:Int)⟩:api_Cite)) rfl (.t rfl) (.t rfl)) fun _=>WL.nil<|WN.weakR (res':=[(6,Dec.Own tapi_Step 49 (none:Tok) ([]:List api_Step).length),(2,(Bx 5 true 52 (tapi_Cite.is zapi_Cite) b)),(4,(Bx 5 true 52 ((tapi_Cite_k1 (none:Tok)).is (⟨(0:Int),([]:List api_Step),([]:Str),(0:Int),(0:Int)⟩:api_Cite)) b1))]) ⟨rfl,rfl,⟨rfl,rfl,⟨rfl,rfl,trivial⟩⟩⟩<|WN.rekey (res':=[(1000004,Dec.Own tapi_Step 49 (none:Tok) ([]:List api_Step).length),(2,(Bx 5 true 52 (tapi_Cite.is zapi_Cite) b)),(4,(Bx 5 true 52 ((tapi_Cite_k1 (none:Tok)).is (⟨(0:Int),([]:List api_Step),([]:Str),(0:Int),(0:Int)⟩:api_Cite)) b1))]) rfl<|Aq<|Aw<|Ao rfl (.assign .i64)<|WL.ns ?_
 obtain ⟨s1,hs2,hk3⟩:=Bs hm
 clear hm
 refine W.join (fun s:(Int×api_Cite)×Tok=>s.1=s1) (fun s=>[(5,(I6.is s.1.1)),(0,((tL tS).is w)),(2,(Bp b 0)),(4,(Bp b1 0))]) (fun s=>[(1000004,Dec.Own tapi_Step 49 s.2 s.1.2.Path.length),(4,(Bx 5 true 52 ((tapi_Cite_k1 s.2).is s.1.2) b1)),(2,(Bx 5 true 52 (tapi_Cite.is zapi_Cite) b))]) ?_ ?_
 ·rintro ⟨⟨i,c⟩,k⟩ hj229
  try dsimp only at hj229
  subst hj229
  have hm:=hk3
  clear hk3
  try dsimp only at hm
  change W _ _ _ _ _ _ _ [(5,(I6.is i)),(0,((tL tS).is w)),(2,(Bp b 0)),(4,(Bp b1 0))] [(1000004,Dec.Own tapi_Step 49 k c.Path.length),(4,(Bx 5 true 52 ((tapi_Cite_k1 k).is c) b1)),(2,(Bx 5 true 52 (tapi_Cite.is zapi_Cite) b))]
  obtain ⟨s125,hs126,hk127⟩:=Bs hm
  clear hm
  refine W.join (fun s:(Int×api_Cite)×Tok=>s.1=s125) (fun s=>[(5,(I6.is s.1.1)),(0,((tL tS).is w)),(2,(Bp b 0)),(4,(Bp b1 0))]) (fun s=>[(1000004,Dec.Own tapi_Step 49 s.2 s.1.2.Path.length),(4,(Bx 5 true 52 ((tapi_Cite_k1 s.2).is s.1.2) b1)),(2,(Bx 5 true 52 (tapi_Cite.is zapi_Cite) b))]) ?_ ?_
  ·rintro ⟨⟨i1,c1⟩,k1⟩ hj228
   try dsimp only at hj228
   subst hj228
   have hm:=hk127
   clear hk127
   try dsimp only at hm
   change W _ _ _ _ _ _ _ [(5,(I6.is i1)),(0,((tL tS).is w)),(2,(Bp b 0)),(4,(Bp b1 0))] [(1000004,Dec.Own tapi_Step 49 k1 c1.Path.length),(4,(Bx 5 true 52 ((tapi_Cite_k1 k1).is c1) b1)),(2,(Bx 5 true 52 (tapi_Cite.is zapi_Cite) b))]
   refine W.seq<|W.block ?_
   obtain ⟨s143,hs144,hk145⟩:=Bs hm
   clear hm
   refine W.loop (fun m (s:(Int×api_Cite)×Tok)=>M.r20_Read_loop1 w m s.1.1 s.1.2=some s143) (fun s=>[(5,(I6.is s.1.1)),(0,((tL tS).is w)),(2,(Bp b 0)),(4,(Bp b1 0))]) (fun s=>[(1000004,Dec.Own tapi_Step 49 s.2 s.1.2.Path.length),(4,(Bx 5 true 52 ((tapi_Cite_k1 s.2).is s.1.2) b1)),(2,(Bx 5 true 52 (tapi_Cite.is zapi_Cite) b))]) _ ((i1,c1),k1) hs144 ⟨.q rfl,.q rfl,.q rfl,.q rfl,trivial⟩ ⟨rfl,rfl,⟨rfl,rfl,⟨rfl,rfl,trivial⟩⟩⟩ ?_
   rintro n146 ⟨⟨i2,c2⟩,k3⟩ hm
   try dsimp only at hm
   change W _ _ _ _ _ _ _ [(5,(I6.is i2)),(0,((tL tS).is w)),(2,(Bp b 0)),(4,(Bp b1 0))] [(1000004,Dec.Own tapi_Step 49 k3 c2.Path.length),(4,(Bx 5 true 52 ((tapi_Cite_k1 k3).is c2) b1)),(2,(Bx 5 true 52 (tapi_Cite.is zapi_Cite) b))]
   cases n146 with
   | zero=>rw [M.r20_Read_loop1.eq_1] at hm;cases hm
   | succ n146=>
    rw [M.r20_Read_loop1.eq_2] at hm
    refine W.seq<|W.seq ?_
    obtain ⟨v30,hv147,hm⟩:=Bs hm
    rcases iteD hm with ⟨hp149,hb148,hm⟩ | ⟨hp149,hb148,hm⟩
    ·obtain ⟨single8,hv150,hm⟩:=Bs hm
     obtain ⟨v31,hv151,hm⟩:=Bs hm
     obtain ⟨kind8,hv152,hm⟩:=Bs hm
     refine W.draw [.c _,.c _,.c _,.c _,.c _,.c _,.c _,.c _,.c _,.c _,.c _,.c _,.c _,.c _] [([],[5]),([0],[]),([],[0]),([2],[]),([1,3],[]),([4],[]),([5],[]),([5],[0]),([5],[5]),([5,7,8],[]),([5,9],[]),([5,6,10],[]),([5,11],[]),([5,12],[])] Mx rfl rfl rfl rfl ⟨Dn (.move (.t rfl)),Dn (.addC hv147 (.t rfl) .i64),Dn (.move (.t rfl)),Dn (.lenL U55 (.t rfl)),Dn (.ltI (.t rfl) (.t rfl)),Dn (.move (.t rfl)),Dr rfl hb148 (.call C89 (r20_Singles_spec _ hv150) trivial),Dr rfl hb148 (.move (.t rfl)),Dr rfl hb148 (.move (.t rfl)),Dr rfl hb148 (.idx hv151 U55 Z9 (.t rfl) (.t rfl)),Dr rfl hb148 (.load ty9 (.t rfl)),Dr rfl hb148 (.call C88 (r20_kind_spec _ _ _ _ hv152) ⟨(.t rfl),(.t rfl),trivial⟩),Dr rfl hb148 (.gtI (.t rfl) .i64),Dn (.pickT (.t rfl) hb148 (.t rfl)),trivial⟩<|Aq<|W.cD hm (.t rfl) (fun hp154 hm=>?_) (fun hp154 hm=>?_)
     ·refine W.skip<|Aq<|W.block<|W.seq ?_
      obtain ⟨single9,hv155,hm⟩:=Bs hm
      obtain ⟨v32,hv156,hm⟩:=Bs hm
      obtain ⟨kind9,hv157,hm⟩:=Bs hm
      obtain ⟨v33,hv158,hm⟩:=Bs hm
      obtain ⟨v34,hv159,hm⟩:=Bs hm
      obtain ⟨out1,hv160,hm⟩:=Bs hm
      refine W.weakR (res':=[(1000004,Dec.Own tapi_Step 49 k3 c2.Path.length),(4,(Bx 5 true 52 ((tapi_Cite_k1 k3).is c2) b1)),(2,(Bx 5 true 52 (tapi_Cite.is zapi_Cite) b))]) ⟨rfl,rfl,⟨rfl,rfl,⟨rfl,rfl,trivial⟩⟩⟩<|W.drawM [.c (Bp b1 1),.c (tO tapi_Step k3 c2.Path),.c ((tL tS).is single9),.c ((tL tS).is w),.c (I6.is i2),.c (tS.ptr v32),.c (tS.is v32),.c (I6.is kind9),.c ((tL tS).is w),.c (I6.is i2),.c (I6.is v33),.c (tS.ptr v34),.c (tS.is v34),.c (tapi_Step.is (⟨kind9,v34⟩:api_Step)),.c ((tL tapi_Step).is [(⟨kind9,v34⟩:api_Step)]),.f (fun cv4=>(tO tapi_Step (cv4 0) out1)),.c (Bp b1 1),.c Asn.any] [([],[4]),([0],[]),([],[]),([],[0]),([],[5]),([3,4],[]),([5],[]),([2,6],[]),([],[0]),([],[5]),([9],[]),([8,10],[]),([11],[]),([7,12],[]),([13],[]),([1,14],[]),([],[4]),([15,16],[])] [15,17] [[],[],[],[],[],[],[],[],[],[],[],[],[],[],[],[true],[],[]] (fun m cv4=>match m with | 0=>[(1000004,Dec.Own tapi_Step 49 k3 c2.Path.length),(4,(Bx 5 true 52 ((tapi_Cite_k1 k3).is c2) b1)),(2,(Bx 5 true 52 (tapi_Cite.is zapi_Cite) b))] | 1=>[(1000004,Dec.Own tapi_Step 49 (cv4 0) out1.length),(4,(Bx 5 true 52 ((tapi_Cite_k1 k3).is c2) b1)),(2,(Bx 5 true 52 (tapi_Cite.is zapi_Cite) b))] | _=>[(4,(Bx 5 true 52 ((tapi_Cite_k1 (cv4 0)).is ({c2 with Path:=out1}:api_Cite)) b1)),(1000004,Dec.Own tapi_Step 49 (cv4 0) out1.length),(2,(Bx 5 true 52 (tapi_Cite.is zapi_Cite) b))]) (fun _=>none) Mx rfl rfl rfl rfl rfl ⟨fun _ _ _ _=>rfl,⟨fun _ _ _ _=>rfl,⟨fun _ _ _ _=>rfl,⟨fun _ _ _ _=>rfl,⟨fun _ _ _ _=>rfl,⟨fun _ _ _ _=>rfl,⟨fun _ _ _ _=>rfl,⟨fun _ _ _ _=>rfl,⟨fun _ _ _ _=>rfl,⟨fun _ _ _ _=>rfl,⟨fun _ _ _ _=>rfl,⟨fun _ _ _ _=>rfl,⟨fun _ _ _ _=>rfl,⟨fun _ _ _ _=>rfl,⟨fun _ _ _ _=>rfl,⟨fun m hm c t=>by simp only [DA.at,upd_dep (r:=[true]) (j:=0) rfl hm],⟨fun _ _ _ _=>rfl,⟨fun _ _ _ _=>rfl,trivial⟩⟩⟩⟩⟩⟩⟩⟩⟩⟩⟩⟩⟩⟩⟩⟩⟩⟩ rfl ⟨mo fun cv4=>Op1.fieldAddrB (o:=0) U52 rfl J50 (.t rfl) rfl,⟨.inr ⟨fun cv4=>[(4,(Bx 5 true 52 ((tapi_Cite_k1 k3).is c2) b1))],(AllUpTo.at ⟨⟨(fun _ _=>⟨rfl,rfl,trivial⟩),(fun hw=>absurd hw (by decide))⟩,(fun hw=>absurd hw (by decide))⟩),fun cv4=>Op1.ofOT (Op1.loadBF (t:=(tOT tapi_Step k3)) (f:=fun x:api_Cite=>x.Path) (u:=c2) 4 rfl ⟨ty50.agg,ty50.size⟩ (fapi_Cite_k1_1 k3) rfl (.t rfl))⟩,⟨mo fun cv4=>Op1.call C89 (r20_Singles_spec _ hv155) trivial,⟨mo fun cv4=>Op1.move (.t rfl),⟨mo fun cv4=>Op1.move (.t rfl),⟨mo fun cv4=>Op1.idx hv156 U55 Z9 (.t rfl) (.t rfl),⟨mo fun cv4=>Op1.load ty9 (.t rfl),⟨mo fun cv4=>Op1.call C88 (r20_kind_spec _ _ _ _ hv157) ⟨(.t rfl),(.t rfl),trivial⟩,⟨mo fun cv4=>Op1.move (.t rfl),⟨mo fun cv4=>Op1.move (.t rfl),⟨mo fun cv4=>Op1.addC hv158 (.t rfl) .i64,⟨mo fun cv4=>Op1.idx hv159 U55 Z9 (.t rfl) (.t rfl),⟨mo fun cv4=>Op1.load ty9 (.t rfl),⟨mo fun cv4=>Op1.build (s:=tapi_Step) (x:=(⟨kind9,v34⟩:api_Step)) zapi_Step_f rfl U49 (zapi_Step_sz _ U49) ze49 ⟨_,I6,kind9,_,_,rfl,Z3,(.t rfl),sapi_Step_0,⟨_,tS,v34,_,_,rfl,Z9,(.t rfl),sapi_Step_1,rfl⟩⟩,⟨mo fun cv4=>Op1.buildSlice (n:=1) (ys:=[(0,(⟨kind9,v34⟩:api_Step))]) (z:=zapi_Step) (xs:=[(⟨kind9,v34⟩:api_Step)]) U50 el49 ze49 ⟨rfl,(.t rfl),trivial⟩ (by simp) (by decide) rfl,⟨.inl rfl,⟨mo fun cv4=>Op1.fieldAddrB (o:=0) U52 rfl J50 (.t rfl) rfl,⟨.inl rfl,trivial⟩⟩⟩⟩⟩⟩⟩⟩⟩⟩⟩⟩⟩⟩⟩⟩⟩⟩ ⟨⟨_,_,_,[1000004],(fun cv4=>[(1000004,Dec.Own tapi_Step 49 (cv4 0) out1.length)]),rfl,rfl,rfl,rfl,fun _=>rfl,fun _ _=>rfl,fun cv4=>OpR.appC (key:=1000004) hv160 U50 el49 (.t rfl) (.t rfl) rfl⟩,⟨⟨_,_,_,[4],(fun cv4=>[(4,(Bx 5 true 52 ((tapi_Cite_k1 (cv4 0)).is ({c2 with Path:=out1}:api_Cite)) b1))]),rfl,rfl,rfl,rfl,fun _=>rfl,fun _ _=>rfl,fun cv4=>OpR.viaU (OpR.storeBFT (b:=b1) (s:=(tapi_Cite_k1 k3)) (s':=(tapi_Cite_k1 (cv4 0))) (t:=(tOT tapi_Step (cv4 0))) 4 rfl rfl ⟨ty50.agg,ty50.size⟩ (sTapi_Cite_k1 k3 (cv4 0)) rfl (show 1+1≤5 by decide) (.t rfl) (Opd.toOT (.t rfl)))⟩,trivial⟩⟩ fun cv4=>Aq<|W.region<|WL.mv rfl rfl ?_
      obtain ⟨v35,hv161,hm⟩:=Bs hm
      exact Ao rfl (.addC hv161 (.t rfl) .i64)<|Ag rfl rfl<|WL.nil<|WN.block<|WN.again n146 ((v35,({c2 with Path:=out1}:api_Cite)),(cv4 0)) (Nat.lt_succ_self n146) hm ⟨.q rfl,.q rfl,.q rfl,.q rfl,trivial⟩ ⟨rfl,rfl,⟨rfl,rfl,⟨rfl,rfl,trivial⟩⟩⟩
     ·refine W.exit rfl ?_
      have hr162:=Si hm
      clear hm
      subst hr162
      have hm:=hk145
      try dsimp only at hm
      refine WN.seq ?_
      obtain ⟨s163,hs164,hk165⟩:=Bs hm
      clear hm
      refine W.join (fun s:(Int×api_Cite)×Tok=>s.1=s163) (fun s=>[(5,(I6.is s.1.1)),(0,((tL tS).is w)),(2,(Bp b 0)),(4,(Bp b1 0))]) (fun s=>[(1000004,Dec.Own tapi_Step 49 s.2 s.1.2.Path.length),(4,(Bx 5 true 52 ((tapi_Cite_k1 s.2).is s.1.2) b1)),(2,(Bx 5 true 52 (tapi_Cite.is zapi_Cite) b))]) ?_ ?_
      ·rintro ⟨⟨i3,c3⟩,k4⟩ hj194
       try dsimp only at hj194
       subst hj194
       have hm:=hk165
       clear hk165
       try dsimp only at hm
       change W _ _ _ _ _ _ _ [(5,(I6.is i3)),(0,((tL tS).is w)),(2,(Bp b 0)),(4,(Bp b1 0))] [(1000004,Dec.Own tapi_Step 49 k4 c3.Path.length),(4,(Bx 5 true 52 ((tapi_Cite_k1 k4).is c3) b1)),(2,(Bx 5 true 52 (tapi_Cite.is zapi_Cite) b))]
       refine W.seq<|Aw<|Am rfl rfl<|Am rfl rfl<|Ao rfl (.lenL U55 (.t rfl))<|Ao rfl (.neI (.t rfl) (.t rfl))<|WL.mv rfl rfl ?_
       rcases iteD hm with ⟨hp190,hb189,hm⟩ | ⟨hp190,hb189,hm⟩
       ·refine Ap rfl hb189<|Ap rfl hb189<|Ap rfl hb189<|Ao rfl (.pickT (.t rfl) hb189 .bool)<|An<|W.condT (.t rfl)<|Aw<|Ao rfl (.build (s:=tapi_Cite) (x:=(⟨(0:Int),([]:List api_Step),([]:Str),(0:Int),(0:Int)⟩:api_Cite)) zapi_Cite_f rfl U52 (zapi_Cite_sz _ U52) ze52 rfl)<|WL.opU (OpR.storeB (b:=b) 2 Z52 (Cellable.is tapi_Cite (⟨(0:Int),([]:List api_Step),([]:Str),(0:Int),(0:Int)⟩:api_Cite)) rfl (.t rfl) (.t rfl)) fun _=>Ao rfl (.assign .bool)<|WL.ns ?_
        cases hm
        exact W.retQ2 () rfl rfl (ResAt.cell 2 Y52 Z52 rfl (.t rfl)) (ResAt.tmp (.t rfl)) trivial
       ·refine Ax rfl hb189 (.loadB 4 Y52 Z52 rfl (.t rfl)) ?_
        obtain ⟨may,hv191,hm⟩:=Bs hm
        refine Ax rfl hb189 (.call C31 (r20_May_spec _ _ _ hv191) ⟨(Opd.leT (leapi_Cite_k1 k4) (.t rfl)),trivial⟩)<|Ax rfl hb189 (.notB (.t rfl))<|Ao rfl (.pickF (.t rfl) hb189 (.t rfl))<|An<|W.cR hm (.t rfl) (fun hp193 hm=>?_) (fun hp193 hm=>?_)
        ·refine Aw<|Ao rfl (.build (s:=tapi_Cite) (x:=(⟨(0:Int),([]:List api_Step),([]:Str),(0:Int),(0:Int)⟩:api_Cite)) zapi_Cite_f rfl U52 (zapi_Cite_sz _ U52) ze52 rfl)<|WL.opU (OpR.storeB (b:=b) 2 Z52 (Cellable.is tapi_Cite (⟨(0:Int),([]:List api_Step),([]:Str),(0:Int),(0:Int)⟩:api_Cite)) rfl (.t rfl) (.t rfl)) fun _=>Ao rfl (.assign .bool)<|WL.ns ?_
         cases hm
         exact W.retQ2 () rfl rfl (ResAt.cell 2 Y52 Z52 rfl (.t rfl)) (ResAt.tmp (.t rfl)) trivial
        ·refine W.skip<|Aq<|Aw<|Ao rfl (.loadB 4 Y52 Z52 rfl (.t rfl))<|WL.opU (OpR.storeB (b:=b) 2 Z52 (Cellable.is tapi_Cite c3) rfl (.t rfl) (Opd.leT (leapi_Cite_k1 k4) (.t rfl))) fun _=>Ao rfl (.assign .bool)<|WL.ns ?_
         cases hm
         exact W.retQ2 () rfl rfl (ResAt.cell 2 Y52 Z52 rfl (.t rfl)) (ResAt.tmp (.t rfl)) trivial
      ·have hm:=hs164
       clear hs164
       refine W.seq ?_
       rcases iteD hm with ⟨hp167,hb166,hm⟩ | ⟨hp167,hb166,hm⟩
       ·obtain ⟨v36,hv168,hm⟩:=Bs hm
        rcases iteD hm with ⟨hp170,hb169,hm⟩ | ⟨hp170,hb169,hm⟩
        ·obtain ⟨plural,hv171,hm⟩:=Bs hm
         obtain ⟨v37,hv172,hm⟩:=Bs hm
         obtain ⟨kind10,hv173,hm⟩:=Bs hm
         rcases iteD hm with ⟨hp175,hb174,hm⟩ | ⟨hp175,hb174,hm⟩
         ·obtain ⟨v38,hv176,hm⟩:=Bs hm
          obtain ⟨v39,hv177,hm⟩:=Bs hm
          refine W.draw [.c _,.c _,.c _,.c _,.c _,.c _,.c _,.c _,.c _,.c _,.c _,.c _,.c _,.c _,.c _,.c _,.c _,.c _,.c _,.c _,.c _,.c _,.c _,.c _,.c _,.c _,.c _] [([],[4]),([0],[]),([1],[]),([2],[]),([3],[5]),([3,4],[]),([3],[0]),([3,6],[]),([3,5,7],[]),([3,8],[]),([9],[]),([10],[]),([10],[0]),([10],[5]),([10,12,13],[]),([10,14],[]),([10,11,15],[]),([10,16],[]),([10,17],[]),([18],[]),([19],[0]),([19],[5]),([19,21],[]),([19,20,22],[]),([19,23],[]),([19,24],[]),([19,25],[])] Mx rfl rfl rfl rfl (by exact ⟨Dn (.fieldAddrB (o:=0) U52 rfl J3 (.t rfl) rfl),Dn (.loadBF 4 rfl ty3 (fapi_Cite_k1_0 k3) rfl (.t rfl)),Dn (.eqI (.t rfl) .i64),Dn (.move (.t rfl)),Dr rfl hb166 (.move (.t rfl)),Dr rfl hb166 (.addC hv168 (.t rfl) .i64),Dr rfl hb166 (.move (.t rfl)),Dr rfl hb166 (.lenL U55 (.t rfl)),Dr rfl hb166 (.eqI (.t rfl) (.t rfl)),Dn (.pickT (.t rfl) hb166 (.t rfl)),Dn (.move (.t rfl)),Dr rfl hb169 (.call C56 (r20_Plurals_spec _ hv171) trivial),Dr rfl hb169 (.move (.t rfl)),Dr rfl hb169 (.move (.t rfl)),Dr rfl hb169 (.idx hv172 U55 Z9 (.t rfl) (.t rfl)),Dr rfl hb169 (.load ty9 (.t rfl)),Dr rfl hb169 (.call C88 (r20_kind_spec _ _ _ _ hv173) ⟨(.t rfl),(.t rfl),trivial⟩),Dr rfl hb169 (.gtI (.t rfl) .i64),Dn (.pickT (.t rfl) hb169 (.t rfl)),Dn (.move (.t rfl)),Dr rfl hb174 (.move (.t rfl)),Dr rfl hb174 (.move (.t rfl)),Dr rfl hb174 (.addC hv176 (.t rfl) .i64),Dr rfl hb174 (.idx hv177 U55 Z9 (.t rfl) (.t rfl)),Dr rfl hb174 (.load ty9 (.t rfl)),Dr rfl hb174 (.eqS (.t rfl) (.str rfl (by decide))),Dn (.pickT (.t rfl) hb174 (.t rfl)),trivial⟩)<|Aq<|W.cB hm (.t rfl) (fun hp179 hm=>?_) (fun hp179 hm=>?_)
          ·refine Aw<|Ao rfl (.fieldAddrB (o:=0) U52 rfl J3 (.t rfl) rfl)<|WL.opU (OpR.storeBF (b:=b1) 4 rfl ty3 (sapi_Cite_k1_0 k3) rfl (show 0+1≤5 by decide) (.t rfl) .i64) fun _=>An<|W.seq ?_
           obtain ⟨plural1,hv180,hm⟩:=Bs hm
           obtain ⟨v40,hv181,hm⟩:=Bs hm
           obtain ⟨kind11,hv182,hm⟩:=Bs hm
           obtain ⟨v41,hv183,hm⟩:=Bs hm
           obtain ⟨v42,hv184,hm⟩:=Bs hm
           obtain ⟨out2,hv185,hm⟩:=Bs hm
           refine W.weakR (res':=[(1000004,Dec.Own tapi_Step 49 k3 c2.Path.length),(4,(Bx 5 true 52 ((tapi_Cite_k1 k3).is ({c2 with Kind:=(1:Int)}:api_Cite)) b1)),(2,(Bx 5 true 52 (tapi_Cite.is zapi_Cite) b))]) ⟨rfl,rfl,⟨rfl,rfl,⟨rfl,rfl,trivial⟩⟩⟩<|W.drawM [.c (Bp b1 1),.c (tO tapi_Step k3 c2.Path),.c ((tL tS).is plural1),.c ((tL tS).is w),.c (I6.is i2),.c (tS.ptr v40),.c (tS.is v40),.c (I6.is kind11),.c ((tL tS).is w),.c (I6.is i2),.c (I6.is v41),.c (tS.ptr v42),.c (tS.is v42),.c (tapi_Step.is (⟨kind11,v42⟩:api_Step)),.c ((tL tapi_Step).is [(⟨kind11,v42⟩:api_Step)]),.f (fun cv5=>(tO tapi_Step (cv5 0) out2)),.c (Bp b1 1),.c Asn.any] [([],[4]),([0],[]),([],[]),([],[0]),([],[5]),([3,4],[]),([5],[]),([2,6],[]),([],[0]),([],[5]),([9],[]),([8,10],[]),([11],[]),([7,12],[]),([13],[]),([1,14],[]),([],[4]),([15,16],[])] [15,17] [[],[],[],[],[],[],[],[],[],[],[],[],[],[],[],[true],[],[]] (fun m cv5=>match m with | 0=>[(1000004,Dec.Own tapi_Step 49 k3 c2.Path.length),(4,(Bx 5 true 52 ((tapi_Cite_k1 k3).is ({c2 with Kind:=(1:Int)}:api_Cite)) b1)),(2,(Bx 5 true 52 (tapi_Cite.is zapi_Cite) b))] | 1=>[(1000004,Dec.Own tapi_Step 49 (cv5 0) out2.length),(4,(Bx 5 true 52 ((tapi_Cite_k1 k3).is ({c2 with Kind:=(1:Int)}:api_Cite)) b1)),(2,(Bx 5 true 52 (tapi_Cite.is zapi_Cite) b))] | _=>[(4,(Bx 5 true 52 ((tapi_Cite_k1 (cv5 0)).is ({({c2 with Kind:=(1:Int)}:api_Cite) with Path:=out2}:api_Cite)) b1)),(1000004,Dec.Own tapi_Step 49 (cv5 0) out2.length),(2,(Bx 5 true 52 (tapi_Cite.is zapi_Cite) b))]) (fun _=>none) Mx rfl rfl rfl rfl rfl ⟨fun _ _ _ _=>rfl,⟨fun _ _ _ _=>rfl,⟨fun _ _ _ _=>rfl,⟨fun _ _ _ _=>rfl,⟨fun _ _ _ _=>rfl,⟨fun _ _ _ _=>rfl,⟨fun _ _ _ _=>rfl,⟨fun _ _ _ _=>rfl,⟨fun _ _ _ _=>rfl,⟨fun _ _ _ _=>rfl,⟨fun _ _ _ _=>rfl,⟨fun _ _ _ _=>rfl,⟨fun _ _ _ _=>rfl,⟨fun _ _ _ _=>rfl,⟨fun _ _ _ _=>rfl,⟨fun m hm c t=>by simp only [DA.at,upd_dep (r:=[true]) (j:=0) rfl hm],⟨fun _ _ _ _=>rfl,⟨fun _ _ _ _=>rfl,trivial⟩⟩⟩⟩⟩⟩⟩⟩⟩⟩⟩⟩⟩⟩⟩⟩⟩⟩ rfl ⟨mo fun cv5=>Op1.fieldAddrB (o:=0) U52 rfl J50 (.t rfl) rfl,⟨.inr ⟨fun cv5=>[(4,(Bx 5 true 52 ((tapi_Cite_k1 k3).is ({c2 with Kind:=(1:Int)}:api_Cite)) b1))],(AllUpTo.at ⟨⟨(fun _ _=>⟨rfl,rfl,trivial⟩),(fun hw=>absurd hw (by decide))⟩,(fun hw=>absurd hw (by decide))⟩),fun cv5=>Op1.ofOT (Op1.loadBF (t:=(tOT tapi_Step k3)) (f:=fun x:api_Cite=>x.Path) (u:=({c2 with Kind:=(1:Int)}:api_Cite)) 4 rfl ⟨ty50.agg,ty50.size⟩ (fapi_Cite_k1_1 k3) rfl (.t rfl))⟩,⟨mo fun cv5=>Op1.call C56 (r20_Plurals_spec _ hv180) trivial,⟨mo fun cv5=>Op1.move (.t rfl),⟨mo fun cv5=>Op1.move (.t rfl),⟨mo fun cv5=>Op1.idx hv181 U55 Z9 (.t rfl) (.t rfl),⟨mo fun cv5=>Op1.load ty9 (.t rfl),⟨mo fun cv5=>Op1.call C88 (r20_kind_spec _ _ _ _ hv182) ⟨(.t rfl),(.t rfl),trivial⟩,⟨mo fun cv5=>Op1.move (.t rfl),⟨mo fun cv5=>Op1.move (.t rfl),⟨mo fun cv5=>Op1.addC hv183 (.t rfl) .i64,⟨mo fun cv5=>Op1.idx hv184 U55 Z9 (.t rfl) (.t rfl),⟨mo fun cv5=>Op1.load ty9 (.t rfl),⟨mo fun cv5=>Op1.build (s:=tapi_Step) (x:=(⟨kind11,v42⟩:api_Step)) zapi_Step_f rfl U49 (zapi_Step_sz _ U49) ze49 ⟨_,I6,kind11,_,_,rfl,Z3,(.t rfl),sapi_Step_0,⟨_,tS,v42,_,_,rfl,Z9,(.t rfl),sapi_Step_1,rfl⟩⟩,⟨mo fun cv5=>Op1.buildSlice (n:=1) (ys:=[(0,(⟨kind11,v42⟩:api_Step))]) (z:=zapi_Step) (xs:=[(⟨kind11,v42⟩:api_Step)]) U50 el49 ze49 ⟨rfl,(.t rfl),trivial⟩ (by simp) (by decide) rfl,⟨.inl rfl,⟨mo fun cv5=>Op1.fieldAddrB (o:=0) U52 rfl J50 (.t rfl) rfl,⟨.inl rfl,trivial⟩⟩⟩⟩⟩⟩⟩⟩⟩⟩⟩⟩⟩⟩⟩⟩⟩⟩ ⟨⟨_,_,_,[1000004],(fun cv5=>[(1000004,Dec.Own tapi_Step 49 (cv5 0) out2.length)]),rfl,rfl,rfl,rfl,fun _=>rfl,fun _ _=>rfl,fun cv5=>OpR.appC (key:=1000004) hv185 U50 el49 (.t rfl) (.t rfl) rfl⟩,⟨⟨_,_,_,[4],(fun cv5=>[(4,(Bx 5 true 52 ((tapi_Cite_k1 (cv5 0)).is ({({c2 with Kind:=(1:Int)}:api_Cite) with Path:=out2}:api_Cite)) b1))]),rfl,rfl,rfl,rfl,fun _=>rfl,fun _ _=>rfl,fun cv5=>OpR.viaU (OpR.storeBFT (b:=b1) (s:=(tapi_Cite_k1 k3)) (s':=(tapi_Cite_k1 (cv5 0))) (t:=(tOT tapi_Step (cv5 0))) 4 rfl rfl ⟨ty50.agg,ty50.size⟩ (sTapi_Cite_k1 k3 (cv5 0)) rfl (show 1+1≤5 by decide) (.t rfl) (Opd.toOT (.t rfl)))⟩,trivial⟩⟩ fun cv5=>Aq<|Aw<|Am rfl rfl<|WL.mv rfl rfl ?_
           obtain ⟨v43,hv186,hm⟩:=Bs hm
           refine Ao rfl (.addC hv186 (.t rfl) .i64) ?_
           obtain ⟨v44,hv187,hm⟩:=Bs hm
           refine Ao rfl (.idx hv187 U55 Z9 (.t rfl) (.t rfl))<|Ao rfl (.load ty9 (.t rfl))<|Ao rfl (.fieldAddrB (o:=0) U52 rfl J9 (.t rfl) rfl)<|WL.opU (OpR.storeBF (b:=b1) 4 rfl ty9 (sapi_Cite_k1_2 (cv5 0)) rfl (show 2+1≤5 by decide) (.t rfl) (.t rfl)) fun _=>WL.nr1<|WL.mv rfl rfl ?_
           obtain ⟨v45,hv188,hm⟩:=Bs hm
           exact Ao rfl (.addC hv188 (.t rfl) .i64)<|Ag rfl rfl<|WL.nil<|WN.meet ((v45,({({({c2 with Kind:=(1:Int)}:api_Cite) with Path:=out2}:api_Cite) with To:=v44}:api_Cite)),(cv5 0)) (Si hm) ⟨.q rfl,.q rfl,.q rfl,.q rfl,trivial⟩ ⟨rfl,rfl,⟨rfl,rfl,⟨rfl,rfl,trivial⟩⟩⟩
          ·exact W.skip<|WN.meet ((i2,c2),k3) (Si hm) ⟨.q rfl,.q rfl,.q rfl,.q rfl,trivial⟩ ⟨rfl,rfl,⟨rfl,rfl,⟨rfl,rfl,trivial⟩⟩⟩
         ·exact W.draw [.c _,.c _,.c _,.c _,.c _,.c _,.c _,.c _,.c _,.c _,.c _,.c _,.c _,.c _,.c _,.c _,.c _,.c _,.c _,.c _,.c _,.c _,.c _,.c _,.c _,.c _,.c _] [([],[4]),([0],[]),([1],[]),([2],[]),([3],[5]),([3,4],[]),([3],[0]),([3,6],[]),([3,5,7],[]),([3,8],[]),([9],[]),([10],[]),([10],[0]),([10],[5]),([10,12,13],[]),([10,14],[]),([10,11,15],[]),([10,16],[]),([10,17],[]),([18],[]),([19],[0]),([19],[5]),([19,21],[]),([19,20,22],[]),([19,23],[]),([19,24],[]),([19,25],[])] Mx rfl rfl rfl rfl (by exact ⟨Dn (.fieldAddrB (o:=0) U52 rfl J3 (.t rfl) rfl),Dn (.loadBF 4 rfl ty3 (fapi_Cite_k1_0 k3) rfl (.t rfl)),Dn (.eqI (.t rfl) .i64),Dn (.move (.t rfl)),Dr rfl hb166 (.move (.t rfl)),Dr rfl hb166 (.addC hv168 (.t rfl) .i64),Dr rfl hb166 (.move (.t rfl)),Dr rfl hb166 (.lenL U55 (.t rfl)),Dr rfl hb166 (.eqI (.t rfl) (.t rfl)),Dn (.pickT (.t rfl) hb166 (.t rfl)),Dn (.move (.t rfl)),Dr rfl hb169 (.call C56 (r20_Plurals_spec _ hv171) trivial),Dr rfl hb169 (.move (.t rfl)),Dr rfl hb169 (.move (.t rfl)),Dr rfl hb169 (.idx hv172 U55 Z9 (.t rfl) (.t rfl)),Dr rfl hb169 (.load ty9 (.t rfl)),Dr rfl hb169 (.call C88 (r20_kind_spec _ _ _ _ hv173) ⟨(.t rfl),(.t rfl),trivial⟩),Dr rfl hb169 (.gtI (.t rfl) .i64),Dn (.pickT (.t rfl) hb169 (.t rfl)),Dn (.move (.t rfl)),Dp rfl hb174,Dp rfl hb174,Dp rfl hb174,Dp rfl hb174,Dp rfl hb174,Dp rfl hb174,Dn (.pickF (.t rfl) hb174 .bool),trivial⟩)<|Aq<|W.condF (.t rfl)<|W.skip<|WN.meet ((i2,c2),k3) (Si hm) ⟨.q rfl,.q rfl,.q rfl,.q rfl,trivial⟩ ⟨rfl,rfl,⟨rfl,rfl,⟨rfl,rfl,trivial⟩⟩⟩
        ·exact W.draw [.c _,.c _,.c (tB.is (decide (c2.Kind=(0:Int)))),.c (tB.is (decide (c2.Kind=(0:Int)))),.c _,.c _,.c _,.c _,.c (tB.is (decide (v36=(w.length:Int)))),.c (tB.is (decide (v36=(w.length:Int)))),.c (tB.is (decide (v36=(w.length:Int)))),.c _,.c _,.c _,.c _,.c _,.c _,.c _,.c (tB.is false),.c (tB.is false),.c _,.c _,.c _,.c _,.c _,.c _,.c (tB.is false)] [([],[4]),([0],[]),([1],[]),([2],[]),([3],[5]),([3,4],[]),([3],[0]),([3,6],[]),([3,5,7],[]),([3,8],[]),([9],[]),([10],[]),([10],[0]),([10],[5]),([10,12,13],[]),([10,14],[]),([10,11,15],[]),([10,16],[]),([10,17],[]),([18],[]),([19],[0]),([19],[5]),([19,21],[]),([19,20,22],[]),([19,23],[]),([19,24],[]),([19,25],[])] Mx rfl rfl rfl rfl (by exact ⟨Dn (.fieldAddrB (o:=0) U52 rfl J3 (.t rfl) rfl),Dn (.loadBF 4 rfl ty3 (fapi_Cite_k1_0 k3) rfl (.t rfl)),Dn (.eqI (.t rfl) .i64),Dn (.move (.t rfl)),Dr rfl hb166 (.move (.t rfl)),Dr rfl hb166 (.addC hv168 (.t rfl) .i64),Dr rfl hb166 (.move (.t rfl)),Dr rfl hb166 (.lenL U55 (.t rfl)),Dr rfl hb166 (.eqI (.t rfl) (.t rfl)),Dn (.pickT (.t rfl) hb166 (.t rfl)),Dn (.move (.t rfl)),Dp rfl hb169,Dp rfl hb169,Dp rfl hb169,Dp rfl hb169,Dp rfl hb169,Dp rfl hb169,Dp rfl hb169,Dn (.pickF (.t rfl) hb169 .bool),Dn (.move (.t rfl)),Dp rfl rfl,Dp rfl rfl,Dp rfl rfl,Dp rfl rfl,Dp rfl rfl,Dp rfl rfl,Dn (.pickF (.t rfl) rfl .bool),trivial⟩)<|Aq<|W.condF (.t rfl)<|W.skip<|WN.meet ((i2,c2),k3) (Si hm) ⟨.q rfl,.q rfl,.q rfl,.q rfl,trivial⟩ ⟨rfl,rfl,⟨rfl,rfl,⟨rfl,rfl,trivial⟩⟩⟩
       ·exact W.draw [.c _,.c _,.c (tB.is (decide (c2.Kind=(0:Int)))),.c (tB.is (decide (c2.Kind=(0:Int)))),.c _,.c _,.c _,.c _,.c _,.c (tB.is false),.c (tB.is false),.c _,.c _,.c _,.c _,.c _,.c _,.c _,.c (tB.is false),.c (tB.is false),.c _,.c _,.c _,.c _,.c _,.c _,.c (tB.is false)] [([],[4]),([0],[]),([1],[]),([2],[]),([3],[5]),([3,4],[]),([3],[0]),([3,6],[]),([3,5,7],[]),([3,8],[]),([9],[]),([10],[]),([10],[0]),([10],[5]),([10,12,13],[]),([10,14],[]),([10,11,15],[]),([10,16],[]),([10,17],[]),([18],[]),([19],[0]),([19],[5]),([19,21],[]),([19,20,22],[]),([19,23],[]),([19,24],[]),([19,25],[])] Mx rfl rfl rfl rfl (by exact ⟨Dn (.fieldAddrB (o:=0) U52 rfl J3 (.t rfl) rfl),Dn (.loadBF 4 rfl ty3 (fapi_Cite_k1_0 k3) rfl (.t rfl)),Dn (.eqI (.t rfl) .i64),Dn (.move (.t rfl)),Dp rfl hb166,Dp rfl hb166,Dp rfl hb166,Dp rfl hb166,Dp rfl hb166,Dn (.pickF (.t rfl) hb166 .bool),Dn (.move (.t rfl)),Dp rfl rfl,Dp rfl rfl,Dp rfl rfl,Dp rfl rfl,Dp rfl rfl,Dp rfl rfl,Dp rfl rfl,Dn (.pickF (.t rfl) rfl .bool),Dn (.move (.t rfl)),Dp rfl rfl,Dp rfl rfl,Dp rfl rfl,Dp rfl rfl,Dp rfl rfl,Dp rfl rfl,Dn (.pickF (.t rfl) rfl .bool),trivial⟩)<|Aq<|W.condF (.t rfl)<|W.skip<|WN.meet ((i2,c2),k3) (Si hm) ⟨.q rfl,.q rfl,.q rfl,.q rfl,trivial⟩ ⟨rfl,rfl,⟨rfl,rfl,⟨rfl,rfl,trivial⟩⟩⟩
    ·refine W.draw [.c _,.c _,.c _,.c _,.c _,.c _,.c _,.c _,.c _,.c _,.c _,.c _,.c _,.c _] [([],[5]),([0],[]),([],[0]),([2],[]),([1,3],[]),([4],[]),([5],[]),([5],[0]),([5],[5]),([5,7,8],[]),([5,9],[]),([5,6,10],[]),([5,11],[]),([5,12],[])] Mx rfl rfl rfl rfl ⟨Dn (.move (.t rfl)),Dn (.addC hv147 (.t rfl) .i64),Dn (.move (.t rfl)),Dn (.lenL U55 (.t rfl)),Dn (.ltI (.t rfl) (.t rfl)),Dn (.move (.t rfl)),Dp rfl hb148,Dp rfl hb148,Dp rfl hb148,Dp rfl hb148,Dp rfl hb148,Dp rfl hb148,Dp rfl hb148,Dn (.pickF (.t rfl) hb148 .bool),trivial⟩<|Aq<|W.condF (.t rfl)<|W.exit rfl ?_
     have hr195:=Si hm
     clear hm
     subst hr195
     have hm:=hk145
     try dsimp only at hm
     refine WN.seq ?_
     obtain ⟨s196,hs197,hk198⟩:=Bs hm
     clear hm
     refine W.join (fun s:(Int×api_Cite)×Tok=>s.1=s196) (fun s=>[(5,(I6.is s.1.1)),(0,((tL tS).is w)),(2,(Bp b 0)),(4,(Bp b1 0))]) (fun s=>[(1000004,Dec.Own tapi_Step 49 s.2 s.1.2.Path.length),(4,(Bx 5 true 52 ((tapi_Cite_k1 s.2).is s.1.2) b1)),(2,(Bx 5 true 52 (tapi_Cite.is zapi_Cite) b))]) ?_ ?_
     ·rintro ⟨⟨i4,c4⟩,k5⟩ hj227
      try dsimp only at hj227
      subst hj227
      have hm:=hk198
      clear hk198
      try dsimp only at hm
      change W _ _ _ _ _ _ _ [(5,(I6.is i4)),(0,((tL tS).is w)),(2,(Bp b 0)),(4,(Bp b1 0))] [(1000004,Dec.Own tapi_Step 49 k5 c4.Path.length),(4,(Bx 5 true 52 ((tapi_Cite_k1 k5).is c4) b1)),(2,(Bx 5 true 52 (tapi_Cite.is zapi_Cite) b))]
      refine W.seq<|Aw<|Am rfl rfl<|Am rfl rfl<|Ao rfl (.lenL U55 (.t rfl))<|Ao rfl (.neI (.t rfl) (.t rfl))<|WL.mv rfl rfl ?_
      rcases iteD hm with ⟨hp223,hb222,hm⟩ | ⟨hp223,hb222,hm⟩
      ·refine Ap rfl hb222<|Ap rfl hb222<|Ap rfl hb222<|Ao rfl (.pickT (.t rfl) hb222 .bool)<|An<|W.condT (.t rfl)<|Aw<|Ao rfl (.build (s:=tapi_Cite) (x:=(⟨(0:Int),([]:List api_Step),([]:Str),(0:Int),(0:Int)⟩:api_Cite)) zapi_Cite_f rfl U52 (zapi_Cite_sz _ U52) ze52 rfl)<|WL.opU (OpR.storeB (b:=b) 2 Z52 (Cellable.is tapi_Cite (⟨(0:Int),([]:List api_Step),([]:Str),(0:Int),(0:Int)⟩:api_Cite)) rfl (.t rfl) (.t rfl)) fun _=>Ao rfl (.assign .bool)<|WL.ns ?_
       cases hm
       exact W.retQ2 () rfl rfl (ResAt.cell 2 Y52 Z52 rfl (.t rfl)) (ResAt.tmp (.t rfl)) trivial
      ·refine Ax rfl hb222 (.loadB 4 Y52 Z52 rfl (.t rfl)) ?_
       obtain ⟨may1,hv224,hm⟩:=Bs hm
       refine Ax rfl hb222 (.call C31 (r20_May_spec _ _ _ hv224) ⟨(Opd.leT (leapi_Cite_k1 k5) (.t rfl)),trivial⟩)<|Ax rfl hb222 (.notB (.t rfl))<|Ao rfl (.pickF (.t rfl) hb222 (.t rfl))<|An<|W.cR hm (.t rfl) (fun hp226 hm=>?_) (fun hp226 hm=>?_)
       ·refine Aw<|Ao rfl (.build (s:=tapi_Cite) (x:=(⟨(0:Int),([]:List api_Step),([]:Str),(0:Int),(0:Int)⟩:api_Cite)) zapi_Cite_f rfl U52 (zapi_Cite_sz _ U52) ze52 rfl)<|WL.opU (OpR.storeB (b:=b) 2 Z52 (Cellable.is tapi_Cite (⟨(0:Int),([]:List api_Step),([]:Str),(0:Int),(0:Int)⟩:api_Cite)) rfl (.t rfl) (.t rfl)) fun _=>Ao rfl (.assign .bool)<|WL.ns ?_
        cases hm
        exact W.retQ2 () rfl rfl (ResAt.cell 2 Y52 Z52 rfl (.t rfl)) (ResAt.tmp (.t rfl)) trivial
       ·refine W.skip<|Aq<|Aw<|Ao rfl (.loadB 4 Y52 Z52 rfl (.t rfl))<|WL.opU (OpR.storeB (b:=b) 2 Z52 (Cellable.is tapi_Cite c4) rfl (.t rfl) (Opd.leT (leapi_Cite_k1 k5) (.t rfl))) fun _=>Ao rfl (.assign .bool)<|WL.ns ?_
        cases hm
        exact W.retQ2 () rfl rfl (ResAt.cell 2 Y52 Z52 rfl (.t rfl)) (ResAt.tmp (.t rfl)) trivial
     ·have hm:=hs197
      clear hs197
      refine W.seq ?_
      rcases iteD hm with ⟨hp200,hb199,hm⟩ | ⟨hp200,hb199,hm⟩
      ·obtain ⟨v46,hv201,hm⟩:=Bs hm
       rcases iteD hm with ⟨hp203,hb202,hm⟩ | ⟨hp203,hb202,hm⟩
       ·obtain ⟨plural2,hv204,hm⟩:=Bs hm
        obtain ⟨v47,hv205,hm⟩:=Bs hm
        obtain ⟨kind12,hv206,hm⟩:=Bs hm
        rcases iteD hm with ⟨hp208,hb207,hm⟩ | ⟨hp208,hb207,hm⟩
        ·obtain ⟨v48,hv209,hm⟩:=Bs hm
         obtain ⟨v49,hv210,hm⟩:=Bs hm
         refine W.draw [.c _,.c _,.c _,.c _,.c _,.c _,.c _,.c _,.c _,.c _,.c _,.c _,.c _,.c _,.c _,.c _,.c _,.c _,.c _,.c _,.c _,.c _,.c _,.c _,.c _,.c _,.c _] [([],[4]),([0],[]),([1],[]),([2],[]),([3],[5]),([3,4],[]),([3],[0]),([3,6],[]),([3,5,7],[]),([3,8],[]),([9],[]),([10],[]),([10],[0]),([10],[5]),([10,12,13],[]),([10,14],[]),([10,11,15],[]),([10,16],[]),([10,17],[]),([18],[]),([19],[0]),([19],[5]),([19,21],[]),([19,20,22],[]),([19,23],[]),([19,24],[]),([19,25],[])] Mx rfl rfl rfl rfl (by exact ⟨Dn (.fieldAddrB (o:=0) U52 rfl J3 (.t rfl) rfl),Dn (.loadBF 4 rfl ty3 (fapi_Cite_k1_0 k3) rfl (.t rfl)),Dn (.eqI (.t rfl) .i64),Dn (.move (.t rfl)),Dr rfl hb199 (.move (.t rfl)),Dr rfl hb199 (.addC hv201 (.t rfl) .i64),Dr rfl hb199 (.move (.t rfl)),Dr rfl hb199 (.lenL U55 (.t rfl)),Dr rfl hb199 (.eqI (.t rfl) (.t rfl)),Dn (.pickT (.t rfl) hb199 (.t rfl)),Dn (.move (.t rfl)),Dr rfl hb202 (.call C56 (r20_Plurals_spec _ hv204) trivial),Dr rfl hb202 (.move (.t rfl)),Dr rfl hb202 (.move (.t rfl)),Dr rfl hb202 (.idx hv205 U55 Z9 (.t rfl) (.t rfl)),Dr rfl hb202 (.load ty9 (.t rfl)),Dr rfl hb202 (.call C88 (r20_kind_spec _ _ _ _ hv206) ⟨(.t rfl),(.t rfl),trivial⟩),Dr rfl hb202 (.gtI (.t rfl) .i64),Dn (.pickT (.t rfl) hb202 (.t rfl)),Dn (.move (.t rfl)),Dr rfl hb207 (.move (.t rfl)),Dr rfl hb207 (.move (.t rfl)),Dr rfl hb207 (.addC hv209 (.t rfl) .i64),Dr rfl hb207 (.idx hv210 U55 Z9 (.t rfl) (.t rfl)),Dr rfl hb207 (.load ty9 (.t rfl)),Dr rfl hb207 (.eqS (.t rfl) (.str rfl (by decide))),Dn (.pickT (.t rfl) hb207 (.t rfl)),trivial⟩)<|Aq<|W.cB hm (.t rfl) (fun hp212 hm=>?_) (fun hp212 hm=>?_)
         ·refine Aw<|Ao rfl (.fieldAddrB (o:=0) U52 rfl J3 (.t rfl) rfl)<|WL.opU (OpR.storeBF (b:=b1) 4 rfl ty3 (sapi_Cite_k1_0 k3) rfl (show 0+1≤5 by decide) (.t rfl) .i64) fun _=>An<|W.seq ?_
          obtain ⟨plural3,hv213,hm⟩:=Bs hm
          obtain ⟨v50,hv214,hm⟩:=Bs hm
          obtain ⟨kind13,hv215,hm⟩:=Bs hm
          obtain ⟨v51,hv216,hm⟩:=Bs hm
          obtain ⟨v52,hv217,hm⟩:=Bs hm
          obtain ⟨out3,hv218,hm⟩:=Bs hm
          refine W.weakR (res':=[(1000004,Dec.Own tapi_Step 49 k3 c2.Path.length),(4,(Bx 5 true 52 ((tapi_Cite_k1 k3).is ({c2 with Kind:=(1:Int)}:api_Cite)) b1)),(2,(Bx 5 true 52 (tapi_Cite.is zapi_Cite) b))]) ⟨rfl,rfl,⟨rfl,rfl,⟨rfl,rfl,trivial⟩⟩⟩<|W.drawM [.c (Bp b1 1),.c (tO tapi_Step k3 c2.Path),.c ((tL tS).is plural3),.c ((tL tS).is w),.c (I6.is i2),.c (tS.ptr v50),.c (tS.is v50),.c (I6.is kind13),.c ((tL tS).is w),.c (I6.is i2),.c (I6.is v51),.c (tS.ptr v52),.c (tS.is v52),.c (tapi_Step.is (⟨kind13,v52⟩:api_Step)),.c ((tL tapi_Step).is [(⟨kind13,v52⟩:api_Step)]),.f (fun cv6=>(tO tapi_Step (cv6 0) out3)),.c (Bp b1 1),.c Asn.any] [([],[4]),([0],[]),([],[]),([],[0]),([],[5]),([3,4],[]),([5],[]),([2,6],[]),([],[0]),([],[5]),([9],[]),([8,10],[]),([11],[]),([7,12],[]),([13],[]),([1,14],[]),([],[4]),([15,16],[])] [15,17] [[],[],[],[],[],[],[],[],[],[],[],[],[],[],[],[true],[],[]] (fun m cv6=>match m with | 0=>[(1000004,Dec.Own tapi_Step 49 k3 c2.Path.length),(4,(Bx 5 true 52 ((tapi_Cite_k1 k3).is ({c2 with Kind:=(1:Int)}:api_Cite)) b1)),(2,(Bx 5 true 52 (tapi_Cite.is zapi_Cite) b))] | 1=>[(1000004,Dec.Own tapi_Step 49 (cv6 0) out3.length),(4,(Bx 5 true 52 ((tapi_Cite_k1 k3).is ({c2 with Kind:=(1:Int)}:api_Cite)) b1)),(2,(Bx 5 true 52 (tapi_Cite.is zapi_Cite) b))] | _=>[(4,(Bx 5 true 52 ((tapi_Cite_k1 (cv6 0)).is ({({c2 with Kind:=(1:Int)}:api_Cite) with Path:=out3}:api_Cite)) b1)),(1000004,Dec.Own tapi_Step 49 (cv6 0) out3.length),(2,(Bx 5 true 52 (tapi_Cite.is zapi_Cite) b))]) (fun _=>none) Mx rfl rfl rfl rfl rfl ⟨fun _ _ _ _=>rfl,⟨fun _ _ _ _=>rfl,⟨fun _ _ _ _=>rfl,⟨fun _ _ _ _=>rfl,⟨fun _ _ _ _=>rfl,⟨fun _ _ _ _=>rfl,⟨fun _ _ _ _=>rfl,⟨fun _ _ _ _=>rfl,⟨fun _ _ _ _=>rfl,⟨fun _ _ _ _=>rfl,⟨fun _ _ _ _=>rfl,⟨fun _ _ _ _=>rfl,⟨fun _ _ _ _=>rfl,⟨fun _ _ _ _=>rfl,⟨fun _ _ _ _=>rfl,⟨fun m hm c t=>by simp only [DA.at,upd_dep (r:=[true]) (j:=0) rfl hm],⟨fun _ _ _ _=>rfl,⟨fun _ _ _ _=>rfl,trivial⟩⟩⟩⟩⟩⟩⟩⟩⟩⟩⟩⟩⟩⟩⟩⟩⟩⟩ rfl ⟨mo fun cv6=>Op1.fieldAddrB (o:=0) U52 rfl J50 (.t rfl) rfl,⟨.inr ⟨fun cv6=>[(4,(Bx 5 true 52 ((tapi_Cite_k1 k3).is ({c2 with Kind:=(1:Int)}:api_Cite)) b1))],(AllUpTo.at ⟨⟨(fun _ _=>⟨rfl,rfl,trivial⟩),(fun hw=>absurd hw (by decide))⟩,(fun hw=>absurd hw (by decide))⟩),fun cv6=>Op1.ofOT (Op1.loadBF (t:=(tOT tapi_Step k3)) (f:=fun x:api_Cite=>x.Path) (u:=({c2 with Kind:=(1:Int)}:api_Cite)) 4 rfl ⟨ty50.agg,ty50.size⟩ (fapi_Cite_k1_1 k3) rfl (.t rfl))⟩,⟨mo fun cv6=>Op1.call C56 (r20_Plurals_spec _ hv213) trivial,⟨mo fun cv6=>Op1.move (.t rfl),⟨mo fun cv6=>Op1.move (.t rfl),⟨mo fun cv6=>Op1.idx hv214 U55 Z9 (.t rfl) (.t rfl),⟨mo fun cv6=>Op1.load ty9 (.t rfl),⟨mo fun cv6=>Op1.call C88 (r20_kind_spec _ _ _ _ hv215) ⟨(.t rfl),(.t rfl),trivial⟩,⟨mo fun cv6=>Op1.move (.t rfl),⟨mo fun cv6=>Op1.move (.t rfl),⟨mo fun cv6=>Op1.addC hv216 (.t rfl) .i64,⟨mo fun cv6=>Op1.idx hv217 U55 Z9 (.t rfl) (.t rfl),⟨mo fun cv6=>Op1.load ty9 (.t rfl),⟨mo fun cv6=>Op1.build (s:=tapi_Step) (x:=(⟨kind13,v52⟩:api_Step)) zapi_Step_f rfl U49 (zapi_Step_sz _ U49) ze49 ⟨_,I6,kind13,_,_,rfl,Z3,(.t rfl),sapi_Step_0,⟨_,tS,v52,_,_,rfl,Z9,(.t rfl),sapi_Step_1,rfl⟩⟩,⟨mo fun cv6=>Op1.buildSlice (n:=1) (ys:=[(0,(⟨kind13,v52⟩:api_Step))]) (z:=zapi_Step) (xs:=[(⟨kind13,v52⟩:api_Step)]) U50 el49 ze49 ⟨rfl,(.t rfl),trivial⟩ (by simp) (by decide) rfl,⟨.inl rfl,⟨mo fun cv6=>Op1.fieldAddrB (o:=0) U52 rfl J50 (.t rfl) rfl,⟨.inl rfl,trivial⟩⟩⟩⟩⟩⟩⟩⟩⟩⟩⟩⟩⟩⟩⟩⟩⟩⟩ ⟨⟨_,_,_,[1000004],(fun cv6=>[(1000004,Dec.Own tapi_Step 49 (cv6 0) out3.length)]),rfl,rfl,rfl,rfl,fun _=>rfl,fun _ _=>rfl,fun cv6=>OpR.appC (key:=1000004) hv218 U50 el49 (.t rfl) (.t rfl) rfl⟩,⟨⟨_,_,_,[4],(fun cv6=>[(4,(Bx 5 true 52 ((tapi_Cite_k1 (cv6 0)).is ({({c2 with Kind:=(1:Int)}:api_Cite) with Path:=out3}:api_Cite)) b1))]),rfl,rfl,rfl,rfl,fun _=>rfl,fun _ _=>rfl,fun cv6=>OpR.viaU (OpR.storeBFT (b:=b1) (s:=(tapi_Cite_k1 k3)) (s':=(tapi_Cite_k1 (cv6 0))) (t:=(tOT tapi_Step (cv6 0))) 4 rfl rfl ⟨ty50.agg,ty50.size⟩ (sTapi_Cite_k1 k3 (cv6 0)) rfl (show 1+1≤5 by decide) (.t rfl) (Opd.toOT (.t rfl)))⟩,trivial⟩⟩ fun cv6=>Aq<|Aw<|Am rfl rfl<|WL.mv rfl rfl ?_
          obtain ⟨v53,hv219,hm⟩:=Bs hm
          refine Ao rfl (.addC hv219 (.t rfl) .i64) ?_
          obtain ⟨v54,hv220,hm⟩:=Bs hm
          refine Ao rfl (.idx hv220 U55 Z9 (.t rfl) (.t rfl))<|Ao rfl (.load ty9 (.t rfl))<|Ao rfl (.fieldAddrB (o:=0) U52 rfl J9 (.t rfl) rfl)<|WL.opU (OpR.storeBF (b:=b1) 4 rfl ty9 (sapi_Cite_k1_2 (cv6 0)) rfl (show 2+1≤5 by decide) (.t rfl) (.t rfl)) fun _=>WL.nr1<|WL.mv rfl rfl ?_
          obtain ⟨v55,hv221,hm⟩:=Bs hm
          exact Ao rfl (.addC hv221 (.t rfl) .i64)<|Ag rfl rfl<|WL.nil<|WN.meet ((v55,({({({c2 with Kind:=(1:Int)}:api_Cite) with Path:=out3}:api_Cite) with To:=v54}:api_Cite)),(cv6 0)) (Si hm) ⟨.q rfl,.q rfl,.q rfl,.q rfl,trivial⟩ ⟨rfl,rfl,⟨rfl,rfl,⟨rfl,rfl,trivial⟩⟩⟩
         ·exact W.skip<|WN.meet ((i2,c2),k3) (Si hm) ⟨.q rfl,.q rfl,.q rfl,.q rfl,trivial⟩ ⟨rfl,rfl,⟨rfl,rfl,⟨rfl,rfl,trivial⟩⟩⟩
        ·exact W.draw [.c _,.c _,.c _,.c _,.c _,.c _,.c _,.c _,.c _,.c _,.c _,.c _,.c _,.c _,.c _,.c _,.c _,.c _,.c _,.c _,.c _,.c _,.c _,.c _,.c _,.c _,.c _] [([],[4]),([0],[]),([1],[]),([2],[]),([3],[5]),([3,4],[]),([3],[0]),([3,6],[]),([3,5,7],[]),([3,8],[]),([9],[]),([10],[]),([10],[0]),([10],[5]),([10,12,13],[]),([10,14],[]),([10,11,15],[]),([10,16],[]),([10,17],[]),([18],[]),([19],[0]),([19],[5]),([19,21],[]),([19,20,22],[]),([19,23],[]),([19,24],[]),([19,25],[])] Mx rfl rfl rfl rfl (by exact ⟨Dn (.fieldAddrB (o:=0) U52 rfl J3 (.t rfl) rfl),Dn (.loadBF 4 rfl ty3 (fapi_Cite_k1_0 k3) rfl (.t rfl)),Dn (.eqI (.t rfl) .i64),Dn (.move (.t rfl)),Dr rfl hb199 (.move (.t rfl)),Dr rfl hb199 (.addC hv201 (.t rfl) .i64),Dr rfl hb199 (.move (.t rfl)),Dr rfl hb199 (.lenL U55 (.t rfl)),Dr rfl hb199 (.eqI (.t rfl) (.t rfl)),Dn (.pickT (.t rfl) hb199 (.t rfl)),Dn (.move (.t rfl)),Dr rfl hb202 (.call C56 (r20_Plurals_spec _ hv204) trivial),Dr rfl hb202 (.move (.t rfl)),Dr rfl hb202 (.move (.t rfl)),Dr rfl hb202 (.idx hv205 U55 Z9 (.t rfl) (.t rfl)),Dr rfl hb202 (.load ty9 (.t rfl)),Dr rfl hb202 (.call C88 (r20_kind_spec _ _ _ _ hv206) ⟨(.t rfl),(.t rfl),trivial⟩),Dr rfl hb202 (.gtI (.t rfl) .i64),Dn (.pickT (.t rfl) hb202 (.t rfl)),Dn (.move (.t rfl)),Dp rfl hb207,Dp rfl hb207,Dp rfl hb207,Dp rfl hb207,Dp rfl hb207,Dp rfl hb207,Dn (.pickF (.t rfl) hb207 .bool),trivial⟩)<|Aq<|W.condF (.t rfl)<|W.skip<|WN.meet ((i2,c2),k3) (Si hm) ⟨.q rfl,.q rfl,.q rfl,.q rfl,trivial⟩ ⟨rfl,rfl,⟨rfl,rfl,⟨rfl,rfl,trivial⟩⟩⟩
       ·exact W.draw [.c _,.c _,.c (tB.is (decide (c2.Kind=(0:Int)))),.c (tB.is (decide (c2.Kind=(0:Int)))),.c _,.c _,.c _,.c _,.c (tB.is (decide (v46=(w.length:Int)))),.c (tB.is (decide (v46=(w.length:Int)))),.c (tB.is (decide (v46=(w.length:Int)))),.c _,.c _,.c _,.c _,.c _,.c _,.c _,.c (tB.is false),.c (tB.is false),.c _,.c _,.c _,.c _,.c _,.c _,.c (tB.is false)] [([],[4]),([0],[]),([1],[]),([2],[]),([3],[5]),([3,4],[]),([3],[0]),([3,6],[]),([3,5,7],[]),([3,8],[]),([9],[]),([10],[]),([10],[0]),([10],[5]),([10,12,13],[]),([10,14],[]),([10,11,15],[]),([10,16],[]),([10,17],[]),([18],[]),([19],[0]),([19],[5]),([19,21],[]),([19,20,22],[]),([19,23],[]),([19,24],[]),([19,25],[])] Mx rfl rfl rfl rfl (by exact ⟨Dn (.fieldAddrB (o:=0) U52 rfl J3 (.t rfl) rfl),Dn (.loadBF 4 rfl ty3 (fapi_Cite_k1_0 k3) rfl (.t rfl)),Dn (.eqI (.t rfl) .i64),Dn (.move (.t rfl)),Dr rfl hb199 (.move (.t rfl)),Dr rfl hb199 (.addC hv201 (.t rfl) .i64),Dr rfl hb199 (.move (.t rfl)),Dr rfl hb199 (.lenL U55 (.t rfl)),Dr rfl hb199 (.eqI (.t rfl) (.t rfl)),Dn (.pickT (.t rfl) hb199 (.t rfl)),Dn (.move (.t rfl)),Dp rfl hb202,Dp rfl hb202,Dp rfl hb202,Dp rfl hb202,Dp rfl hb202,Dp rfl hb202,Dp rfl hb202,Dn (.pickF (.t rfl) hb202 .bool),Dn (.move (.t rfl)),Dp rfl rfl,Dp rfl rfl,Dp rfl rfl,Dp rfl rfl,Dp rfl rfl,Dp rfl rfl,Dn (.pickF (.t rfl) rfl .bool),trivial⟩)<|Aq<|W.condF (.t rfl)<|W.skip<|WN.meet ((i2,c2),k3) (Si hm) ⟨.q rfl,.q rfl,.q rfl,.q rfl,trivial⟩ ⟨rfl,rfl,⟨rfl,rfl,⟨rfl,rfl,trivial⟩⟩⟩
      ·exact W.draw [.c _,.c _,.c (tB.is (decide (c2.Kind=(0:Int)))),.c (tB.is (decide (c2.Kind=(0:Int)))),.c _,.c _,.c _,.c _,.c _,.c (tB.is false),.c (tB.is false),.c _,.c _,.c _,.c _,.c _,.c _,.c _,.c (tB.is false),.c (tB.is false),.c _,.c _,.c _,.c _,.c _,.c _,.c (tB.is false)] [([],[4]),([0],[]),([1],[]),([2],[]),([3],[5]),([3,4],[]),([3],[0]),([3,6],[]),([3,5,7],[]),([3,8],[]),([9],[]),([10],[]),([10],[0]),([10],[5]),([10,12,13],[]),([10,14],[]),([10,11,15],[]),([10,16],[]),([10,17],[]),([18],[]),([19],[0]),([19],[5]),([19,21],[]),([19,20,22],[]),([19,23],[]),([19,24],[]),([19,25],[])] Mx rfl rfl rfl rfl (by exact ⟨Dn (.fieldAddrB (o:=0) U52 rfl J3 (.t rfl) rfl),Dn (.loadBF 4 rfl ty3 (fapi_Cite_k1_0 k3) rfl (.t rfl)),Dn (.eqI (.t rfl) .i64),Dn (.move (.t rfl)),Dp rfl hb199,Dp rfl hb199,Dp rfl hb199,Dp rfl hb199,Dp rfl hb199,Dn (.pickF (.t rfl) hb199 .bool),Dn (.move (.t rfl)),Dp rfl rfl,Dp rfl rfl,Dp rfl rfl,Dp rfl rfl,Dp rfl rfl,Dp rfl rfl,Dp rfl rfl,Dn (.pickF (.t rfl) rfl .bool),Dn (.move (.t rfl)),Dp rfl rfl,Dp rfl rfl,Dp rfl rfl,Dp rfl rfl,Dp rfl rfl,Dp rfl rfl,Dn (.pickF (.t rfl) rfl .bool),trivial⟩)<|Aq<|W.condF (.t rfl)<|W.skip<|WN.meet ((i2,c2),k3) (Si hm) ⟨.q rfl,.q rfl,.q rfl,.q rfl,trivial⟩ ⟨rfl,rfl,⟨rfl,rfl,⟨rfl,rfl,trivial⟩⟩⟩
  ·have hm:=hs126
   clear hs126
   obtain ⟨s128,hs129,hk130⟩:=Bs hm
   clear hm
   refine W.join (fun s:Bool=>s=s128) (fun s=>[(95,(tB.is s)),(0,((tL tS).is w)),(2,(Bp b 0)),(4,(Bp b1 0)),(5,(I6.is i))]) (fun s=>[(1000004,Dec.Own tapi_Step 49 k c.Path.length),(2,(Bx 5 true 52 (tapi_Cite.is zapi_Cite) b)),(4,(Bx 5 true 52 ((tapi_Cite_k1 k).is c) b1))]) ?_ ?_
   ·rintro v27 hj142
    try dsimp only at hj142
    subst hj142
    have hm:=hk130
    clear hk130
    try dsimp only at hm
    change W _ _ _ _ _ _ _ [(95,(tB.is v27)),(0,((tL tS).is w)),(2,(Bp b 0)),(4,(Bp b1 0)),(5,(I6.is i))] [(1000004,Dec.Own tapi_Step 49 k c.Path.length),(2,(Bx 5 true 52 (tapi_Cite.is zapi_Cite) b)),(4,(Bx 5 true 52 ((tapi_Cite_k1 k).is c) b1))]
    refine W.cB hm (.t rfl) (fun hp139 hm=>?_) (fun hp139 hm=>?_)
    ·refine Aw<|Ao rfl (.fieldAddrB (o:=0) U52 rfl J50 (.t rfl) rfl)<|Ao rfl (.ofOT (Op1.loadBF (t:=(tOT tapi_Step k)) (f:=fun x:api_Cite=>x.Path) (u:=c) 4 rfl ⟨ty50.agg,ty50.size⟩ (fapi_Cite_k1_1 k) rfl (.t rfl)))<|Ao rfl (.build (s:=tapi_Step) (x:=(⟨(0:Int),([]:Str)⟩:api_Step)) zapi_Step_f rfl U49 (zapi_Step_sz _ U49) ze49 rfl)<|Ao rfl (.buildSlice (n:=1) (ys:=[(0,(⟨(0:Int),([]:Str)⟩:api_Step))]) (z:=zapi_Step) (xs:=[(⟨(0:Int),([]:Str)⟩:api_Step)]) U50 el49 ze49 ⟨rfl,(.t rfl),trivial⟩ (by simp) (by decide) rfl) ?_
     obtain ⟨out,hv140,hm⟩:=Bs hm
     refine WL.opR rfl (OpR.appC (key:=1000004) hv140 U50 el49 (.t rfl) (.t rfl) rfl) fun k2=>Ao rfl (.fieldAddrB (o:=0) U52 rfl J50 (.t rfl) rfl)<|WL.opU (OpR.storeBFT (b:=b1) (s:=(tapi_Cite_k1 k)) (s':=(tapi_Cite_k1 k2)) (t:=(tOT tapi_Step k2)) 4 rfl rfl ⟨ty50.agg,ty50.size⟩ (sTapi_Cite_k1 k k2) rfl (show 1+1≤5 by decide) (.t rfl) (Opd.toOT (.t rfl))) fun _=>WL.nr1<|WL.mv rfl rfl ?_
     obtain ⟨v29,hv141,hm⟩:=Bs hm
     exact Ao rfl (.addC hv141 (.t rfl) .i64)<|Ag rfl rfl<|WL.nil<|WN.meet ((v29,({c with Path:=out}:api_Cite)),k2) (Si hm) ⟨.q rfl,.q rfl,.q rfl,.q rfl,trivial⟩ ⟨rfl,rfl,⟨rfl,rfl,⟨rfl,rfl,trivial⟩⟩⟩
    ·exact W.skip<|WN.meet ((i,c),k) (Si hm) ⟨.q rfl,.q rfl,.q rfl,.q rfl,trivial⟩ ⟨rfl,rfl,⟨rfl,rfl,⟨rfl,rfl,trivial⟩⟩⟩
   ·have hm:=hs129
    clear hs129
    refine W.region<|Ao rfl (.fieldAddrB (o:=0) U52 rfl J3 (.t rfl) rfl)<|Ao rfl (.loadBF 4 rfl ty3 (fapi_Cite_k1_0 k) rfl (.t rfl))<|Ao rfl (.neI (.t rfl) .i64)<|WL.mv rfl rfl ?_
    rcases iteD hm with ⟨hp132,hb131,hm⟩ | ⟨hp132,hb131,hm⟩
    ·refine Ax rfl hb131 (.fieldAddrB (o:=0) U52 rfl J3 (.t rfl) rfl)<|Ax rfl hb131 (.loadBF 4 rfl ty3 (fapi_Cite_k1_0 k) rfl (.t rfl))<|Ax rfl hb131 (.neI (.t rfl) .i64)<|Ao rfl (.pickT (.t rfl) hb131 (.t rfl))<|WL.mv rfl rfl ?_
     rcases iteD hm with ⟨hp134,hb133,hm⟩ | ⟨hp134,hb133,hm⟩
     ·refine Ax rfl hb133 (.move (.t rfl))<|Ax rfl hb133 (.move (.t rfl))<|Ax rfl hb133 (.lenL U55 (.t rfl))<|Ax rfl hb133 (.ltI (.t rfl) (.t rfl))<|Ao rfl (.pickT (.t rfl) hb133 (.t rfl))<|WL.mv rfl rfl ?_
      rcases iteD hm with ⟨hp136,hb135,hm⟩ | ⟨hp136,hb135,hm⟩
      ·refine Ax rfl hb135 (.move (.t rfl))<|Ax rfl hb135 (.move (.t rfl)) ?_
       obtain ⟨v28,hv137,hm⟩:=Bs hm
       exact Ax rfl hb135 (.idx hv137 U55 Z9 (.t rfl) (.t rfl))<|Ax rfl hb135 (.load ty9 (.t rfl))<|Ax rfl hb135 (.eqS (.t rfl) (.str rfl (by decide)))<|Ao rfl (.pickT (.t rfl) hb135 (.t rfl))<|WL.nil<|WN.meet (v28==([98,111,111,107]:Str)) (Si hm) ⟨.q rfl,.q rfl,.q rfl,.q rfl,.q rfl,trivial⟩ ⟨rfl,rfl,⟨rfl,rfl,⟨rfl,rfl,trivial⟩⟩⟩
      ·exact Ap rfl hb135<|Ap rfl hb135<|Ap rfl hb135<|Ap rfl hb135<|Ap rfl hb135<|Ao rfl (.pickF (.t rfl) hb135 .bool)<|WL.nil<|WN.meet false (Si hm) ⟨.q rfl,.q rfl,.q rfl,.q rfl,.q rfl,trivial⟩ ⟨rfl,rfl,⟨rfl,rfl,⟨rfl,rfl,trivial⟩⟩⟩
     ·exact Ap rfl hb133<|Ap rfl hb133<|Ap rfl hb133<|Ap rfl hb133<|Ao rfl (.pickF (.t rfl) hb133 .bool)<|Am rfl rfl<|Ap rfl rfl<|Ap rfl rfl<|Ap rfl rfl<|Ap rfl rfl<|Ap rfl rfl<|Ao rfl (.pickF (.t rfl) rfl .bool)<|WL.nil<|WN.meet false (Si hm) ⟨.q rfl,.q rfl,.q rfl,.q rfl,.q rfl,trivial⟩ ⟨rfl,rfl,⟨rfl,rfl,⟨rfl,rfl,trivial⟩⟩⟩
    ·refine Ap rfl hb131<|Ap rfl hb131<|Ap rfl hb131<|Ao rfl (.pickF (.t rfl) hb131 .bool)<|Am rfl rfl<|Ap rfl rfl<|Ap rfl rfl<|Ap rfl rfl<|Ap rfl rfl<|Ao rfl (.pickF (.t rfl) rfl .bool)<|Am rfl rfl<|Ap rfl rfl<|Ap rfl rfl<|Ap rfl rfl<|Ap rfl rfl<|Ap rfl rfl ?_
     exact Ao rfl (.pickF (.t rfl) rfl .bool)<|WL.nil<|WN.meet false (Si hm) ⟨.q rfl,.q rfl,.q rfl,.q rfl,.q rfl,trivial⟩ ⟨rfl,rfl,⟨rfl,rfl,⟨rfl,rfl,trivial⟩⟩⟩
 ·have hm:=hs2
  clear hs2
  refine W.seq ?_
  rcases iteD hm with ⟨hp5,hb4,hm⟩ | ⟨hp5,hb4,hm⟩
  ·obtain ⟨v,hv6,hm⟩:=Bs hm
   rcases iteB hm with ⟨hp8,hb7,hm⟩ | ⟨hp8,hb7,hm⟩
   ·obtain ⟨single,hv9,hm⟩:=Bs hm
    obtain ⟨v1,hv10,hm⟩:=Bs hm
    obtain ⟨kind,hv11,hm⟩:=Bs hm
    refine W.draw [.c _,.c _,.c _,.c _,.c _,.c _,.c _,.c _,.c _,.c _,.c _,.c _,.c _,.c _,.c _,.c _,.c _] [([],[0]),([0],[]),([1],[]),([2],[]),([3],[0]),([3,4],[]),([3,5],[]),([3,6],[]),([3,7],[]),([8],[]),([9],[]),([9],[0]),([9,11],[]),([9,12],[]),([9,10,13],[]),([9,14],[]),([9,15],[])] Mx rfl rfl rfl rfl ⟨Dn (.move (.t rfl)),Dn (.lenL U55 (.t rfl)),Dn (.gtI (.t rfl) .i64),Dn (.move (.t rfl)),Dr rfl hb4 (.move (.t rfl)),Dr rfl hb4 (.idx hv6 U55 Z9 (.t rfl) .i64),Dr rfl hb4 (.load ty9 (.t rfl)),Dr rfl hb4 (.eqS (.t rfl) (.str rfl (by decide))),Dn (.pickT (.t rfl) hb4 (.t rfl)),Dn (.move (.t rfl)),Dr rfl hb7 (.call C89 (r20_Singles_spec _ hv9) trivial),Dr rfl hb7 (.move (.t rfl)),Dr rfl hb7 (.idx hv10 U55 Z9 (.t rfl) .i64),Dr rfl hb7 (.load ty9 (.t rfl)),Dr rfl hb7 (.call C88 (r20_kind_spec _ _ _ _ hv11) ⟨(.t rfl),(.t rfl),trivial⟩),Dr rfl hb7 (.gtI (.t rfl) .i64),Dn (.pickT (.t rfl) hb7 (.t rfl)),trivial⟩<|Aq<|W.cD hm (.t rfl) (fun hp13 hm=>?_) (fun hp13 hm=>?_)
    ·refine Aw<|Ao rfl (.fieldAddrB (o:=0) U52 rfl J3 (.t rfl) rfl)<|WL.opU (OpR.storeBF (b:=b1) 4 rfl ty3 (sapi_Cite_k1_0 (none:Tok)) rfl (show 0+1≤5 by decide) (.t rfl) .i64) fun _=>An<|W.seq ?_
     obtain ⟨single1,hv14,hm⟩:=Bs hm
     obtain ⟨v2,hv15,hm⟩:=Bs hm
     obtain ⟨kind1,hv16,hm⟩:=Bs hm
     exact W.weakR (res':=[(1000004,Dec.Own tapi_Step 49 (none:Tok) ([]:List api_Step).length),(2,(Bx 5 true 52 (tapi_Cite.is zapi_Cite) b)),(4,(Bx 5 true 52 ((tapi_Cite_k1 (none:Tok)).is ({(⟨(0:Int),([]:List api_Step),([]:Str),(0:Int),(0:Int)⟩:api_Cite) with Kind:=(2:Int)}:api_Cite)) b1))]) ⟨rfl,rfl,⟨rfl,rfl,⟨rfl,rfl,trivial⟩⟩⟩<|W.drawM [.c ((tL tS).is single1),.c ((tL tS).is w),.c (tS.ptr v2),.c (tS.is v2),.c (I6.is kind1),.c (tapi_Step.is (⟨kind1,([]:Str)⟩:api_Step)),.f (fun cv=>(tO tapi_Step (cv 0) ([(⟨kind1,([]:Str)⟩:api_Step)]))),.c (Bp b1 1),.c Asn.any] [([],[]),([],[0]),([1],[]),([2],[]),([0,3],[]),([4],[]),([5],[]),([],[4]),([6,7],[])] [6,8] [[],[],[],[],[],[],[true],[],[]] (fun m cv=>match m with | 0=>[(1000004,Dec.Own tapi_Step 49 (none:Tok) ([]:List api_Step).length),(2,(Bx 5 true 52 (tapi_Cite.is zapi_Cite) b)),(4,(Bx 5 true 52 ((tapi_Cite_k1 (none:Tok)).is ({(⟨(0:Int),([]:List api_Step),([]:Str),(0:Int),(0:Int)⟩:api_Cite) with Kind:=(2:Int)}:api_Cite)) b1))] | 1=>[(31,Dec.Own tapi_Step 49 (cv 0) ([(⟨kind1,([]:Str)⟩:api_Step)]).length),(1000004,Dec.Own tapi_Step 49 (none:Tok) ([]:List api_Step).length),(2,(Bx 5 true 52 (tapi_Cite.is zapi_Cite) b)),(4,(Bx 5 true 52 ((tapi_Cite_k1 (none:Tok)).is ({(⟨(0:Int),([]:List api_Step),([]:Str),(0:Int),(0:Int)⟩:api_Cite) with Kind:=(2:Int)}:api_Cite)) b1))] | _=>[(4,(Bx 5 true 52 ((tapi_Cite_k1 (cv 0)).is ({({(⟨(0:Int),([]:List api_Step),([]:Str),(0:Int),(0:Int)⟩:api_Cite) with Kind:=(2:Int)}:api_Cite) with Path:=[(⟨kind1,([]:Str)⟩:api_Step)]}:api_Cite)) b1)),(31,Dec.Own tapi_Step 49 (cv 0) ([(⟨kind1,([]:Str)⟩:api_Step)]).length),(1000004,Dec.Own tapi_Step 49 (none:Tok) ([]:List api_Step).length),(2,(Bx 5 true 52 (tapi_Cite.is zapi_Cite) b))]) (fun _=>none) Mx rfl rfl rfl rfl rfl ⟨fun _ _ _ _=>rfl,⟨fun _ _ _ _=>rfl,⟨fun _ _ _ _=>rfl,⟨fun _ _ _ _=>rfl,⟨fun _ _ _ _=>rfl,⟨fun _ _ _ _=>rfl,⟨fun m hm c t=>by simp only [DA.at,upd_dep (r:=[true]) (j:=0) rfl hm],⟨fun _ _ _ _=>rfl,⟨fun _ _ _ _=>rfl,trivial⟩⟩⟩⟩⟩⟩⟩⟩⟩ rfl ⟨mo fun cv=>Op1.call C89 (r20_Singles_spec _ hv14) trivial,⟨mo fun cv=>Op1.move (.t rfl),⟨mo fun cv=>Op1.idx hv15 U55 Z9 (.t rfl) .i64,⟨mo fun cv=>Op1.load ty9 (.t rfl),⟨mo fun cv=>Op1.call C88 (r20_kind_spec _ _ _ _ hv16) ⟨(.t rfl),(.t rfl),trivial⟩,⟨mo fun cv=>Op1.build (s:=tapi_Step) (x:=(⟨kind1,([]:Str)⟩:api_Step)) zapi_Step_f rfl U49 (zapi_Step_sz _ U49) ze49 ⟨_,I6,kind1,_,_,rfl,Z3,(.t rfl),sapi_Step_0,rfl⟩,⟨.inl rfl,⟨mo fun cv=>Op1.fieldAddrB (o:=0) U52 rfl J50 (.t rfl) rfl,⟨.inl rfl,trivial⟩⟩⟩⟩⟩⟩⟩⟩⟩ ⟨⟨_,_,_,[],(fun cv=>[(31,Dec.Own tapi_Step 49 (cv 0) ([(⟨kind1,([]:Str)⟩:api_Step)]).length)]),rfl,rfl,rfl,rfl,fun _=>rfl,fun _ _=>rfl,fun cv=>OpR.buildSlice (n:=1) (ys:=[(0,(⟨kind1,([]:Str)⟩:api_Step))]) (z:=zapi_Step) (xs:=[(⟨kind1,([]:Str)⟩:api_Step)]) 31 U50 el49 ze49 ⟨rfl,(.t rfl),trivial⟩ (by simp) (by decide) rfl⟩,⟨⟨_,_,_,[4],(fun cv=>[(4,(Bx 5 true 52 ((tapi_Cite_k1 (cv 0)).is ({({(⟨(0:Int),([]:List api_Step),([]:Str),(0:Int),(0:Int)⟩:api_Cite) with Kind:=(2:Int)}:api_Cite) with Path:=[(⟨kind1,([]:Str)⟩:api_Step)]}:api_Cite)) b1))]),rfl,rfl,rfl,rfl,fun _=>rfl,fun _ _=>rfl,fun cv=>OpR.viaU (OpR.storeBFT (b:=b1) (s:=(tapi_Cite_k1 (none:Tok))) (s':=(tapi_Cite_k1 (cv 0))) (t:=(tOT tapi_Step (cv 0))) 4 rfl rfl ⟨ty50.agg,ty50.size⟩ (sTapi_Cite_k1 (none:Tok) (cv 0)) rfl (show 1+1≤5 by decide) (.t rfl) (Opd.toOT (.t rfl)))⟩,trivial⟩⟩ fun cv=>WN.weakR (res':=[(31,Dec.Own tapi_Step 49 (cv 0) ([(⟨kind1,([]:Str)⟩:api_Step)]).length),(2,(Bx 5 true 52 (tapi_Cite.is zapi_Cite) b)),(4,(Bx 5 true 52 ((tapi_Cite_k1 (cv 0)).is ({({(⟨(0:Int),([]:List api_Step),([]:Str),(0:Int),(0:Int)⟩:api_Cite) with Kind:=(2:Int)}:api_Cite) with Path:=[(⟨kind1,([]:Str)⟩:api_Step)]}:api_Cite)) b1))]) ⟨rfl,rfl,⟨rfl,rfl,⟨rfl,rfl,trivial⟩⟩⟩<|WN.rekey (res':=[(1000004,Dec.Own tapi_Step 49 (cv 0) ([(⟨kind1,([]:Str)⟩:api_Step)]).length),(2,(Bx 5 true 52 (tapi_Cite.is zapi_Cite) b)),(4,(Bx 5 true 52 ((tapi_Cite_k1 (cv 0)).is ({({(⟨(0:Int),([]:List api_Step),([]:Str),(0:Int),(0:Int)⟩:api_Cite) with Kind:=(2:Int)}:api_Cite) with Path:=[(⟨kind1,([]:Str)⟩:api_Step)]}:api_Cite)) b1))]) rfl<|Aq<|W.region<|Ao rfl (.assign .i64)<|WL.nil<|WN.meet (((2:Int),({({(⟨(0:Int),([]:List api_Step),([]:Str),(0:Int),(0:Int)⟩:api_Cite) with Kind:=(2:Int)}:api_Cite) with Path:=[(⟨kind1,([]:Str)⟩:api_Step)]}:api_Cite)),(cv 0)) (Si hm) ⟨.q rfl,.q rfl,.q rfl,.q rfl,trivial⟩ ⟨rfl,rfl,⟨rfl,rfl,⟨rfl,rfl,trivial⟩⟩⟩
    ·refine W.seq ?_
     rcases iteD hm with ⟨hp18,hb17,hm⟩ | ⟨hp18,hb17,hm⟩
     ·obtain ⟨v3,hv19,hm⟩:=Bs hm
      rcases iteB hm with ⟨hp21,hb20,hm⟩ | ⟨hp21,hb20,hm⟩
      ·obtain ⟨v4,hv22,hm⟩:=Bs hm
       rcases iteB hm with ⟨hp24,hb23,hm⟩ | ⟨hp24,hb23,hm⟩
       ·obtain ⟨single2,hv25,hm⟩:=Bs hm
        obtain ⟨v5,hv26,hm⟩:=Bs hm
        obtain ⟨kind2,hv27,hm⟩:=Bs hm
        refine W.draw [.c _,.c _,.c _,.c _,.c _,.c _,.c _,.c _,.c _,.c _,.c _,.c _,.c _,.c _,.c _,.c _,.c _,.c _,.c _,.c _,.c _,.c _,.c _] [([],[0]),([0],[]),([1],[]),([2],[]),([3],[0]),([3,4],[]),([3,5],[]),([3,6],[]),([3,7],[]),([8],[]),([9],[0]),([9,10],[]),([9,11],[]),([9,12],[]),([9,13],[]),([14],[]),([15],[]),([15],[0]),([15,17],[]),([15,18],[]),([15,16,19],[]),([15,20],[]),([15,21],[])] Mx rfl rfl rfl rfl (by exact ⟨Dn (.move (.t rfl)),Dn (.lenL U55 (.t rfl)),Dn (.gtI (.t rfl) .i64),Dn (.move (.t rfl)),Dr rfl hb17 (.move (.t rfl)),Dr rfl hb17 (.idx hv19 U55 Z9 (.t rfl) .i64),Dr rfl hb17 (.load ty9 (.t rfl)),Dr rfl hb17 (.eqS (.t rfl) (.str rfl (by decide))),Dn (.pickT (.t rfl) hb17 (.t rfl)),Dn (.move (.t rfl)),Dr rfl hb20 (.move (.t rfl)),Dr rfl hb20 (.idx hv22 U55 Z9 (.t rfl) .i64),Dr rfl hb20 (.load ty9 (.t rfl)),Dr rfl hb20 (.eqS (.t rfl) (.str rfl (by decide))),Dn (.pickT (.t rfl) hb20 (.t rfl)),Dn (.move (.t rfl)),Dr rfl hb23 (.call C89 (r20_Singles_spec _ hv25) trivial),Dr rfl hb23 (.move (.t rfl)),Dr rfl hb23 (.idx hv26 U55 Z9 (.t rfl) .i64),Dr rfl hb23 (.load ty9 (.t rfl)),Dr rfl hb23 (.call C88 (r20_kind_spec _ _ _ _ hv27) ⟨(.t rfl),(.t rfl),trivial⟩),Dr rfl hb23 (.gtI (.t rfl) .i64),Dn (.pickT (.t rfl) hb23 (.t rfl)),trivial⟩)<|Aq<|W.cD hm (.t rfl) (fun hp29 hm=>?_) (fun hp29 hm=>?_)
        ·refine Aw<|Ao rfl (.fieldAddrB (o:=0) U52 rfl J3 (.t rfl) rfl)<|WL.opU (OpR.storeBF (b:=b1) 4 rfl ty3 (sapi_Cite_k1_0 (none:Tok)) rfl (show 0+1≤5 by decide) (.t rfl) .i64) fun _=>An<|W.seq ?_
         obtain ⟨single3,hv30,hm⟩:=Bs hm
         obtain ⟨v6,hv31,hm⟩:=Bs hm
         obtain ⟨kind3,hv32,hm⟩:=Bs hm
         exact W.weakR (res':=[(1000004,Dec.Own tapi_Step 49 (none:Tok) ([]:List api_Step).length),(2,(Bx 5 true 52 (tapi_Cite.is zapi_Cite) b)),(4,(Bx 5 true 52 ((tapi_Cite_k1 (none:Tok)).is ({(⟨(0:Int),([]:List api_Step),([]:Str),(0:Int),(0:Int)⟩:api_Cite) with Kind:=(3:Int)}:api_Cite)) b1))]) ⟨rfl,rfl,⟨rfl,rfl,⟨rfl,rfl,trivial⟩⟩⟩<|W.drawM [.c ((tL tS).is single3),.c ((tL tS).is w),.c (tS.ptr v6),.c (tS.is v6),.c (I6.is kind3),.c (tapi_Step.is (⟨kind3,([]:Str)⟩:api_Step)),.f (fun cv1=>(tO tapi_Step (cv1 0) ([(⟨kind3,([]:Str)⟩:api_Step)]))),.c (Bp b1 1),.c Asn.any] [([],[]),([],[0]),([1],[]),([2],[]),([0,3],[]),([4],[]),([5],[]),([],[4]),([6,7],[])] [6,8] [[],[],[],[],[],[],[true],[],[]] (fun m cv1=>match m with | 0=>[(1000004,Dec.Own tapi_Step 49 (none:Tok) ([]:List api_Step).length),(2,(Bx 5 true 52 (tapi_Cite.is zapi_Cite) b)),(4,(Bx 5 true 52 ((tapi_Cite_k1 (none:Tok)).is ({(⟨(0:Int),([]:List api_Step),([]:Str),(0:Int),(0:Int)⟩:api_Cite) with Kind:=(3:Int)}:api_Cite)) b1))] | 1=>[(63,Dec.Own tapi_Step 49 (cv1 0) ([(⟨kind3,([]:Str)⟩:api_Step)]).length),(1000004,Dec.Own tapi_Step 49 (none:Tok) ([]:List api_Step).length),(2,(Bx 5 true 52 (tapi_Cite.is zapi_Cite) b)),(4,(Bx 5 true 52 ((tapi_Cite_k1 (none:Tok)).is ({(⟨(0:Int),([]:List api_Step),([]:Str),(0:Int),(0:Int)⟩:api_Cite) with Kind:=(3:Int)}:api_Cite)) b1))] | _=>[(4,(Bx 5 true 52 ((tapi_Cite_k1 (cv1 0)).is ({({(⟨(0:Int),([]:List api_Step),([]:Str),(0:Int),(0:Int)⟩:api_Cite) with Kind:=(3:Int)}:api_Cite) with Path:=[(⟨kind3,([]:Str)⟩:api_Step)]}:api_Cite)) b1)),(63,Dec.Own tapi_Step 49 (cv1 0) ([(⟨kind3,([]:Str)⟩:api_Step)]).length),(1000004,Dec.Own tapi_Step 49 (none:Tok) ([]:List api_Step).length),(2,(Bx 5 true 52 (tapi_Cite.is zapi_Cite) b))]) (fun _=>none) Mx rfl rfl rfl rfl rfl ⟨fun _ _ _ _=>rfl,⟨fun _ _ _ _=>rfl,⟨fun _ _ _ _=>rfl,⟨fun _ _ _ _=>rfl,⟨fun _ _ _ _=>rfl,⟨fun _ _ _ _=>rfl,⟨fun m hm c t=>by simp only [DA.at,upd_dep (r:=[true]) (j:=0) rfl hm],⟨fun _ _ _ _=>rfl,⟨fun _ _ _ _=>rfl,trivial⟩⟩⟩⟩⟩⟩⟩⟩⟩ rfl ⟨mo fun cv1=>Op1.call C89 (r20_Singles_spec _ hv30) trivial,⟨mo fun cv1=>Op1.move (.t rfl),⟨mo fun cv1=>Op1.idx hv31 U55 Z9 (.t rfl) .i64,⟨mo fun cv1=>Op1.load ty9 (.t rfl),⟨mo fun cv1=>Op1.call C88 (r20_kind_spec _ _ _ _ hv32) ⟨(.t rfl),(.t rfl),trivial⟩,⟨mo fun cv1=>Op1.build (s:=tapi_Step) (x:=(⟨kind3,([]:Str)⟩:api_Step)) zapi_Step_f rfl U49 (zapi_Step_sz _ U49) ze49 ⟨_,I6,kind3,_,_,rfl,Z3,(.t rfl),sapi_Step_0,rfl⟩,⟨.inl rfl,⟨mo fun cv1=>Op1.fieldAddrB (o:=0) U52 rfl J50 (.t rfl) rfl,⟨.inl rfl,trivial⟩⟩⟩⟩⟩⟩⟩⟩⟩ ⟨⟨_,_,_,[],(fun cv1=>[(63,Dec.Own tapi_Step 49 (cv1 0) ([(⟨kind3,([]:Str)⟩:api_Step)]).length)]),rfl,rfl,rfl,rfl,fun _=>rfl,fun _ _=>rfl,fun cv1=>OpR.buildSlice (n:=1) (ys:=[(0,(⟨kind3,([]:Str)⟩:api_Step))]) (z:=zapi_Step) (xs:=[(⟨kind3,([]:Str)⟩:api_Step)]) 63 U50 el49 ze49 ⟨rfl,(.t rfl),trivial⟩ (by simp) (by decide) rfl⟩,⟨⟨_,_,_,[4],(fun cv1=>[(4,(Bx 5 true 52 ((tapi_Cite_k1 (cv1 0)).is ({({(⟨(0:Int),([]:List api_Step),([]:Str),(0:Int),(0:Int)⟩:api_Cite) with Kind:=(3:Int)}:api_Cite) with Path:=[(⟨kind3,([]:Str)⟩:api_Step)]}:api_Cite)) b1))]),rfl,rfl,rfl,rfl,fun _=>rfl,fun _ _=>rfl,fun cv1=>OpR.viaU (OpR.storeBFT (b:=b1) (s:=(tapi_Cite_k1 (none:Tok))) (s':=(tapi_Cite_k1 (cv1 0))) (t:=(tOT tapi_Step (cv1 0))) 4 rfl rfl ⟨ty50.agg,ty50.size⟩ (sTapi_Cite_k1 (none:Tok) (cv1 0)) rfl (show 1+1≤5 by decide) (.t rfl) (Opd.toOT (.t rfl)))⟩,trivial⟩⟩ fun cv1=>WN.weakR (res':=[(63,Dec.Own tapi_Step 49 (cv1 0) ([(⟨kind3,([]:Str)⟩:api_Step)]).length),(2,(Bx 5 true 52 (tapi_Cite.is zapi_Cite) b)),(4,(Bx 5 true 52 ((tapi_Cite_k1 (cv1 0)).is ({({(⟨(0:Int),([]:List api_Step),([]:Str),(0:Int),(0:Int)⟩:api_Cite) with Kind:=(3:Int)}:api_Cite) with Path:=[(⟨kind3,([]:Str)⟩:api_Step)]}:api_Cite)) b1))]) ⟨rfl,rfl,⟨rfl,rfl,⟨rfl,rfl,trivial⟩⟩⟩<|WN.rekey (res':=[(1000004,Dec.Own tapi_Step 49 (cv1 0) ([(⟨kind3,([]:Str)⟩:api_Step)]).length),(2,(Bx 5 true 52 (tapi_Cite.is zapi_Cite) b)),(4,(Bx 5 true 52 ((tapi_Cite_k1 (cv1 0)).is ({({(⟨(0:Int),([]:List api_Step),([]:Str),(0:Int),(0:Int)⟩:api_Cite) with Kind:=(3:Int)}:api_Cite) with Path:=[(⟨kind3,([]:Str)⟩:api_Step)]}:api_Cite)) b1))]) rfl<|Aq<|W.region<|Ao rfl (.assign .i64)<|WL.nil<|WN.meet (((3:Int),({({(⟨(0:Int),([]:List api_Step),([]:Str),(0:Int),(0:Int)⟩:api_Cite) with Kind:=(3:Int)}:api_Cite) with Path:=[(⟨kind3,([]:Str)⟩:api_Step)]}:api_Cite)),(cv1 0)) (Si hm) ⟨.q rfl,.q rfl,.q rfl,.q rfl,trivial⟩ ⟨rfl,rfl,⟨rfl,rfl,⟨rfl,rfl,trivial⟩⟩⟩
        ·refine Aw<|Am rfl rfl<|Ao rfl (.lenL U55 (.t rfl))<|Ao rfl (.gtI (.t rfl) .i64)<|WL.mv rfl rfl ?_
         rcases iteD hm with ⟨hp34,hb33,hm⟩ | ⟨hp34,hb33,hm⟩
         ·refine Ax rfl hb33 (.move (.t rfl)) ?_
          obtain ⟨v7,hv35,hm⟩:=Bs hm
          refine Ax rfl hb33 (.idx hv35 U55 Z9 (.t rfl) .i64)<|Ax rfl hb33 (.load ty9 (.t rfl))<|Ax rfl hb33 (.eqS (.t rfl) (.str rfl (by decide)))<|Ao rfl (.pickT (.t rfl) hb33 (.t rfl))<|An<|W.cB hm (.t rfl) (fun hp37 hm=>?_) (fun hp37 hm=>?_)
          ·exact Aw<|Ao rfl (.fieldAddrB (o:=0) U52 rfl J3 (.t rfl) rfl)<|WL.opU (OpR.storeBF (b:=b1) 4 rfl ty3 (sapi_Cite_k1_0 (none:Tok)) rfl (show 0+1≤5 by decide) (.t rfl) .i64) fun _=>WL.nr1<|Ao rfl (.assign .i64)<|WL.nil<|WN.meet (((1:Int),({(⟨(0:Int),([]:List api_Step),([]:Str),(0:Int),(0:Int)⟩:api_Cite) with Kind:=(4:Int)}:api_Cite)),(none:Tok)) (Si hm) ⟨.q rfl,.q rfl,.q rfl,.q rfl,trivial⟩ ⟨rfl,rfl,⟨rfl,rfl,⟨rfl,rfl,trivial⟩⟩⟩
          ·exact W.skip<|WN.meet (((0:Int),(⟨(0:Int),([]:List api_Step),([]:Str),(0:Int),(0:Int)⟩:api_Cite)),(none:Tok)) (Si hm) ⟨.q rfl,.q rfl,.q rfl,.q rfl,trivial⟩ ⟨rfl,rfl,⟨rfl,rfl,⟨rfl,rfl,trivial⟩⟩⟩
         ·exact Ap rfl hb33<|Ap rfl hb33<|Ap rfl hb33<|Ap rfl hb33<|Ao rfl (.pickF (.t rfl) hb33 .bool)<|An<|W.condF (.t rfl)<|W.skip<|WN.meet (((0:Int),(⟨(0:Int),([]:List api_Step),([]:Str),(0:Int),(0:Int)⟩:api_Cite)),(none:Tok)) (Si hm) ⟨.q rfl,.q rfl,.q rfl,.q rfl,trivial⟩ ⟨rfl,rfl,⟨rfl,rfl,⟨rfl,rfl,trivial⟩⟩⟩
       ·refine W.draw [.c _,.c _,.c _,.c _,.c _,.c _,.c _,.c _,.c _,.c _,.c _,.c _,.c _,.c _,.c _,.c _,.c _,.c _,.c _,.c _,.c _,.c _,.c _] [([],[0]),([0],[]),([1],[]),([2],[]),([3],[0]),([3,4],[]),([3,5],[]),([3,6],[]),([3,7],[]),([8],[]),([9],[0]),([9,10],[]),([9,11],[]),([9,12],[]),([9,13],[]),([14],[]),([15],[]),([15],[0]),([15,17],[]),([15,18],[]),([15,16,19],[]),([15,20],[]),([15,21],[])] Mx rfl rfl rfl rfl (by exact ⟨Dn (.move (.t rfl)),Dn (.lenL U55 (.t rfl)),Dn (.gtI (.t rfl) .i64),Dn (.move (.t rfl)),Dr rfl hb17 (.move (.t rfl)),Dr rfl hb17 (.idx hv19 U55 Z9 (.t rfl) .i64),Dr rfl hb17 (.load ty9 (.t rfl)),Dr rfl hb17 (.eqS (.t rfl) (.str rfl (by decide))),Dn (.pickT (.t rfl) hb17 (.t rfl)),Dn (.move (.t rfl)),Dr rfl hb20 (.move (.t rfl)),Dr rfl hb20 (.idx hv22 U55 Z9 (.t rfl) .i64),Dr rfl hb20 (.load ty9 (.t rfl)),Dr rfl hb20 (.eqS (.t rfl) (.str rfl (by decide))),Dn (.pickT (.t rfl) hb20 (.t rfl)),Dn (.move (.t rfl)),Dp rfl hb23,Dp rfl hb23,Dp rfl hb23,Dp rfl hb23,Dp rfl hb23,Dp rfl hb23,Dn (.pickF (.t rfl) hb23 .bool),trivial⟩)<|Aq<|W.condF (.t rfl)<|Aw<|Am rfl rfl<|Ao rfl (.lenL U55 (.t rfl))<|Ao rfl (.gtI (.t rfl) .i64)<|WL.mv rfl rfl ?_
        rcases iteD hm with ⟨hp39,hb38,hm⟩ | ⟨hp39,hb38,hm⟩
        ·refine Ax rfl hb38 (.move (.t rfl)) ?_
         obtain ⟨v8,hv40,hm⟩:=Bs hm
         refine Ax rfl hb38 (.idx hv40 U55 Z9 (.t rfl) .i64)<|Ax rfl hb38 (.load ty9 (.t rfl))<|Ax rfl hb38 (.eqS (.t rfl) (.str rfl (by decide)))<|Ao rfl (.pickT (.t rfl) hb38 (.t rfl))<|An<|W.cB hm (.t rfl) (fun hp42 hm=>?_) (fun hp42 hm=>?_)
         ·exact Aw<|Ao rfl (.fieldAddrB (o:=0) U52 rfl J3 (.t rfl) rfl)<|WL.opU (OpR.storeBF (b:=b1) 4 rfl ty3 (sapi_Cite_k1_0 (none:Tok)) rfl (show 0+1≤5 by decide) (.t rfl) .i64) fun _=>WL.nr1<|Ao rfl (.assign .i64)<|WL.nil<|WN.meet (((1:Int),({(⟨(0:Int),([]:List api_Step),([]:Str),(0:Int),(0:Int)⟩:api_Cite) with Kind:=(4:Int)}:api_Cite)),(none:Tok)) (Si hm) ⟨.q rfl,.q rfl,.q rfl,.q rfl,trivial⟩ ⟨rfl,rfl,⟨rfl,rfl,⟨rfl,rfl,trivial⟩⟩⟩
         ·exact W.skip<|WN.meet (((0:Int),(⟨(0:Int),([]:List api_Step),([]:Str),(0:Int),(0:Int)⟩:api_Cite)),(none:Tok)) (Si hm) ⟨.q rfl,.q rfl,.q rfl,.q rfl,trivial⟩ ⟨rfl,rfl,⟨rfl,rfl,⟨rfl,rfl,trivial⟩⟩⟩
        ·exact Ap rfl hb38<|Ap rfl hb38<|Ap rfl hb38<|Ap rfl hb38<|Ao rfl (.pickF (.t rfl) hb38 .bool)<|An<|W.condF (.t rfl)<|W.skip<|WN.meet (((0:Int),(⟨(0:Int),([]:List api_Step),([]:Str),(0:Int),(0:Int)⟩:api_Cite)),(none:Tok)) (Si hm) ⟨.q rfl,.q rfl,.q rfl,.q rfl,trivial⟩ ⟨rfl,rfl,⟨rfl,rfl,⟨rfl,rfl,trivial⟩⟩⟩
      ·refine W.draw [.c _,.c _,.c (tB.is (decide ((2:Int)< (w.length:Int)))),.c (tB.is (decide ((2:Int)< (w.length:Int)))),.c _,.c _,.c _,.c (tB.is (v3==([116,104,101]:Str))),.c (tB.is (v3==([116,104,101]:Str))),.c (tB.is (v3==([116,104,101]:Str))),.c _,.c _,.c _,.c _,.c (tB.is false),.c (tB.is false),.c _,.c _,.c _,.c _,.c _,.c _,.c (tB.is false)] [([],[0]),([0],[]),([1],[]),([2],[]),([3],[0]),([3,4],[]),([3,5],[]),([3,6],[]),([3,7],[]),([8],[]),([9],[0]),([9,10],[]),([9,11],[]),([9,12],[]),([9,13],[]),([14],[]),([15],[]),([15],[0]),([15,17],[]),([15,18],[]),([15,16,19],[]),([15,20],[]),([15,21],[])] Mx rfl rfl rfl rfl (by exact ⟨Dn (.move (.t rfl)),Dn (.lenL U55 (.t rfl)),Dn (.gtI (.t rfl) .i64),Dn (.move (.t rfl)),Dr rfl hb17 (.move (.t rfl)),Dr rfl hb17 (.idx hv19 U55 Z9 (.t rfl) .i64),Dr rfl hb17 (.load ty9 (.t rfl)),Dr rfl hb17 (.eqS (.t rfl) (.str rfl (by decide))),Dn (.pickT (.t rfl) hb17 (.t rfl)),Dn (.move (.t rfl)),Dp rfl hb20,Dp rfl hb20,Dp rfl hb20,Dp rfl hb20,Dn (.pickF (.t rfl) hb20 .bool),Dn (.move (.t rfl)),Dp rfl rfl,Dp rfl rfl,Dp rfl rfl,Dp rfl rfl,Dp rfl rfl,Dp rfl rfl,Dn (.pickF (.t rfl) rfl .bool),trivial⟩)<|Aq<|W.condF (.t rfl)<|Aw<|Am rfl rfl<|Ao rfl (.lenL U55 (.t rfl))<|Ao rfl (.gtI (.t rfl) .i64)<|WL.mv rfl rfl ?_
       rcases iteD hm with ⟨hp44,hb43,hm⟩ | ⟨hp44,hb43,hm⟩
       ·refine Ax rfl hb43 (.move (.t rfl)) ?_
        obtain ⟨v9,hv45,hm⟩:=Bs hm
        refine Ax rfl hb43 (.idx hv45 U55 Z9 (.t rfl) .i64)<|Ax rfl hb43 (.load ty9 (.t rfl))<|Ax rfl hb43 (.eqS (.t rfl) (.str rfl (by decide)))<|Ao rfl (.pickT (.t rfl) hb43 (.t rfl))<|An<|W.cB hm (.t rfl) (fun hp47 hm=>?_) (fun hp47 hm=>?_)
        ·exact Aw<|Ao rfl (.fieldAddrB (o:=0) U52 rfl J3 (.t rfl) rfl)<|WL.opU (OpR.storeBF (b:=b1) 4 rfl ty3 (sapi_Cite_k1_0 (none:Tok)) rfl (show 0+1≤5 by decide) (.t rfl) .i64) fun _=>WL.nr1<|Ao rfl (.assign .i64)<|WL.nil<|WN.meet (((1:Int),({(⟨(0:Int),([]:List api_Step),([]:Str),(0:Int),(0:Int)⟩:api_Cite) with Kind:=(4:Int)}:api_Cite)),(none:Tok)) (Si hm) ⟨.q rfl,.q rfl,.q rfl,.q rfl,trivial⟩ ⟨rfl,rfl,⟨rfl,rfl,⟨rfl,rfl,trivial⟩⟩⟩
        ·exact W.skip<|WN.meet (((0:Int),(⟨(0:Int),([]:List api_Step),([]:Str),(0:Int),(0:Int)⟩:api_Cite)),(none:Tok)) (Si hm) ⟨.q rfl,.q rfl,.q rfl,.q rfl,trivial⟩ ⟨rfl,rfl,⟨rfl,rfl,⟨rfl,rfl,trivial⟩⟩⟩
       ·exact Ap rfl hb43<|Ap rfl hb43<|Ap rfl hb43<|Ap rfl hb43<|Ao rfl (.pickF (.t rfl) hb43 .bool)<|An<|W.condF (.t rfl)<|W.skip<|WN.meet (((0:Int),(⟨(0:Int),([]:List api_Step),([]:Str),(0:Int),(0:Int)⟩:api_Cite)),(none:Tok)) (Si hm) ⟨.q rfl,.q rfl,.q rfl,.q rfl,trivial⟩ ⟨rfl,rfl,⟨rfl,rfl,⟨rfl,rfl,trivial⟩⟩⟩
     ·refine W.draw [.c _,.c _,.c (tB.is (decide ((2:Int)< (w.length:Int)))),.c (tB.is (decide ((2:Int)< (w.length:Int)))),.c _,.c _,.c _,.c _,.c (tB.is false),.c (tB.is false),.c _,.c _,.c _,.c _,.c (tB.is false),.c (tB.is false),.c _,.c _,.c _,.c _,.c _,.c _,.c (tB.is false)] [([],[0]),([0],[]),([1],[]),([2],[]),([3],[0]),([3,4],[]),([3,5],[]),([3,6],[]),([3,7],[]),([8],[]),([9],[0]),([9,10],[]),([9,11],[]),([9,12],[]),([9,13],[]),([14],[]),([15],[]),([15],[0]),([15,17],[]),([15,18],[]),([15,16,19],[]),([15,20],[]),([15,21],[])] Mx rfl rfl rfl rfl (by exact ⟨Dn (.move (.t rfl)),Dn (.lenL U55 (.t rfl)),Dn (.gtI (.t rfl) .i64),Dn (.move (.t rfl)),Dp rfl hb17,Dp rfl hb17,Dp rfl hb17,Dp rfl hb17,Dn (.pickF (.t rfl) hb17 .bool),Dn (.move (.t rfl)),Dp rfl rfl,Dp rfl rfl,Dp rfl rfl,Dp rfl rfl,Dn (.pickF (.t rfl) rfl .bool),Dn (.move (.t rfl)),Dp rfl rfl,Dp rfl rfl,Dp rfl rfl,Dp rfl rfl,Dp rfl rfl,Dp rfl rfl,Dn (.pickF (.t rfl) rfl .bool),trivial⟩)<|Aq<|W.condF (.t rfl)<|Aw<|Am rfl rfl<|Ao rfl (.lenL U55 (.t rfl))<|Ao rfl (.gtI (.t rfl) .i64)<|WL.mv rfl rfl ?_
      rcases iteD hm with ⟨hp49,hb48,hm⟩ | ⟨hp49,hb48,hm⟩
      ·refine Ax rfl hb48 (.move (.t rfl)) ?_
       obtain ⟨v10,hv50,hm⟩:=Bs hm
       refine Ax rfl hb48 (.idx hv50 U55 Z9 (.t rfl) .i64)<|Ax rfl hb48 (.load ty9 (.t rfl))<|Ax rfl hb48 (.eqS (.t rfl) (.str rfl (by decide)))<|Ao rfl (.pickT (.t rfl) hb48 (.t rfl))<|An<|W.cB hm (.t rfl) (fun hp52 hm=>?_) (fun hp52 hm=>?_)
       ·exact Aw<|Ao rfl (.fieldAddrB (o:=0) U52 rfl J3 (.t rfl) rfl)<|WL.opU (OpR.storeBF (b:=b1) 4 rfl ty3 (sapi_Cite_k1_0 (none:Tok)) rfl (show 0+1≤5 by decide) (.t rfl) .i64) fun _=>WL.nr1<|Ao rfl (.assign .i64)<|WL.nil<|WN.meet (((1:Int),({(⟨(0:Int),([]:List api_Step),([]:Str),(0:Int),(0:Int)⟩:api_Cite) with Kind:=(4:Int)}:api_Cite)),(none:Tok)) (Si hm) ⟨.q rfl,.q rfl,.q rfl,.q rfl,trivial⟩ ⟨rfl,rfl,⟨rfl,rfl,⟨rfl,rfl,trivial⟩⟩⟩
       ·exact W.skip<|WN.meet (((0:Int),(⟨(0:Int),([]:List api_Step),([]:Str),(0:Int),(0:Int)⟩:api_Cite)),(none:Tok)) (Si hm) ⟨.q rfl,.q rfl,.q rfl,.q rfl,trivial⟩ ⟨rfl,rfl,⟨rfl,rfl,⟨rfl,rfl,trivial⟩⟩⟩
      ·exact Ap rfl hb48<|Ap rfl hb48<|Ap rfl hb48<|Ap rfl hb48<|Ao rfl (.pickF (.t rfl) hb48 .bool)<|An<|W.condF (.t rfl)<|W.skip<|WN.meet (((0:Int),(⟨(0:Int),([]:List api_Step),([]:Str),(0:Int),(0:Int)⟩:api_Cite)),(none:Tok)) (Si hm) ⟨.q rfl,.q rfl,.q rfl,.q rfl,trivial⟩ ⟨rfl,rfl,⟨rfl,rfl,⟨rfl,rfl,trivial⟩⟩⟩
   ·refine W.draw [.c _,.c _,.c _,.c _,.c _,.c _,.c _,.c _,.c _,.c _,.c _,.c _,.c _,.c _,.c _,.c _,.c _] [([],[0]),([0],[]),([1],[]),([2],[]),([3],[0]),([3,4],[]),([3,5],[]),([3,6],[]),([3,7],[]),([8],[]),([9],[]),([9],[0]),([9,11],[]),([9,12],[]),([9,10,13],[]),([9,14],[]),([9,15],[])] Mx rfl rfl rfl rfl ⟨Dn (.move (.t rfl)),Dn (.lenL U55 (.t rfl)),Dn (.gtI (.t rfl) .i64),Dn (.move (.t rfl)),Dr rfl hb4 (.move (.t rfl)),Dr rfl hb4 (.idx hv6 U55 Z9 (.t rfl) .i64),Dr rfl hb4 (.load ty9 (.t rfl)),Dr rfl hb4 (.eqS (.t rfl) (.str rfl (by decide))),Dn (.pickT (.t rfl) hb4 (.t rfl)),Dn (.move (.t rfl)),Dp rfl hb7,Dp rfl hb7,Dp rfl hb7,Dp rfl hb7,Dp rfl hb7,Dp rfl hb7,Dn (.pickF (.t rfl) hb7 .bool),trivial⟩<|Aq<|W.condF (.t rfl)<|W.seq ?_
    rcases iteD hm with ⟨hp54,hb53,hm⟩ | ⟨hp54,hb53,hm⟩
    ·obtain ⟨v11,hv55,hm⟩:=Bs hm
     rcases iteB hm with ⟨hp57,hb56,hm⟩ | ⟨hp57,hb56,hm⟩
     ·obtain ⟨v12,hv58,hm⟩:=Bs hm
      rcases iteB hm with ⟨hp60,hb59,hm⟩ | ⟨hp60,hb59,hm⟩
      ·obtain ⟨single4,hv61,hm⟩:=Bs hm
       obtain ⟨v13,hv62,hm⟩:=Bs hm
       obtain ⟨kind4,hv63,hm⟩:=Bs hm
       refine W.draw [.c _,.c _,.c _,.c _,.c _,.c _,.c _,.c _,.c _,.c _,.c _,.c _,.c _,.c _,.c _,.c _,.c _,.c _,.c _,.c _,.c _,.c _,.c _] [([],[0]),([0],[]),([1],[]),([2],[]),([3],[0]),([3,4],[]),([3,5],[]),([3,6],[]),([3,7],[]),([8],[]),([9],[0]),([9,10],[]),([9,11],[]),([9,12],[]),([9,13],[]),([14],[]),([15],[]),([15],[0]),([15,17],[]),([15,18],[]),([15,16,19],[]),([15,20],[]),([15,21],[])] Mx rfl rfl rfl rfl (by exact ⟨Dn (.move (.t rfl)),Dn (.lenL U55 (.t rfl)),Dn (.gtI (.t rfl) .i64),Dn (.move (.t rfl)),Dr rfl hb53 (.move (.t rfl)),Dr rfl hb53 (.idx hv55 U55 Z9 (.t rfl) .i64),Dr rfl hb53 (.load ty9 (.t rfl)),Dr rfl hb53 (.eqS (.t rfl) (.str rfl (by decide))),Dn (.pickT (.t rfl) hb53 (.t rfl)),Dn (.move (.t rfl)),Dr rfl hb56 (.move (.t rfl)),Dr rfl hb56 (.idx hv58 U55 Z9 (.t rfl) .i64),Dr rfl hb56 (.load ty9 (.t rfl)),Dr rfl hb56 (.eqS (.t rfl) (.str rfl (by decide))),Dn (.pickT (.t rfl) hb56 (.t rfl)),Dn (.move (.t rfl)),Dr rfl hb59 (.call C89 (r20_Singles_spec _ hv61) trivial),Dr rfl hb59 (.move (.t rfl)),Dr rfl hb59 (.idx hv62 U55 Z9 (.t rfl) .i64),Dr rfl hb59 (.load ty9 (.t rfl)),Dr rfl hb59 (.call C88 (r20_kind_spec _ _ _ _ hv63) ⟨(.t rfl),(.t rfl),trivial⟩),Dr rfl hb59 (.gtI (.t rfl) .i64),Dn (.pickT (.t rfl) hb59 (.t rfl)),trivial⟩)<|Aq<|W.cD hm (.t rfl) (fun hp65 hm=>?_) (fun hp65 hm=>?_)
       ·refine Aw<|Ao rfl (.fieldAddrB (o:=0) U52 rfl J3 (.t rfl) rfl)<|WL.opU (OpR.storeBF (b:=b1) 4 rfl ty3 (sapi_Cite_k1_0 (none:Tok)) rfl (show 0+1≤5 by decide) (.t rfl) .i64) fun _=>An<|W.seq ?_
        obtain ⟨single5,hv66,hm⟩:=Bs hm
        obtain ⟨v14,hv67,hm⟩:=Bs hm
        obtain ⟨kind5,hv68,hm⟩:=Bs hm
        exact W.weakR (res':=[(1000004,Dec.Own tapi_Step 49 (none:Tok) ([]:List api_Step).length),(2,(Bx 5 true 52 (tapi_Cite.is zapi_Cite) b)),(4,(Bx 5 true 52 ((tapi_Cite_k1 (none:Tok)).is ({(⟨(0:Int),([]:List api_Step),([]:Str),(0:Int),(0:Int)⟩:api_Cite) with Kind:=(3:Int)}:api_Cite)) b1))]) ⟨rfl,rfl,⟨rfl,rfl,⟨rfl,rfl,trivial⟩⟩⟩<|W.drawM [.c ((tL tS).is single5),.c ((tL tS).is w),.c (tS.ptr v14),.c (tS.is v14),.c (I6.is kind5),.c (tapi_Step.is (⟨kind5,([]:Str)⟩:api_Step)),.f (fun cv2=>(tO tapi_Step (cv2 0) ([(⟨kind5,([]:Str)⟩:api_Step)]))),.c (Bp b1 1),.c Asn.any] [([],[]),([],[0]),([1],[]),([2],[]),([0,3],[]),([4],[]),([5],[]),([],[4]),([6,7],[])] [6,8] [[],[],[],[],[],[],[true],[],[]] (fun m cv2=>match m with | 0=>[(1000004,Dec.Own tapi_Step 49 (none:Tok) ([]:List api_Step).length),(2,(Bx 5 true 52 (tapi_Cite.is zapi_Cite) b)),(4,(Bx 5 true 52 ((tapi_Cite_k1 (none:Tok)).is ({(⟨(0:Int),([]:List api_Step),([]:Str),(0:Int),(0:Int)⟩:api_Cite) with Kind:=(3:Int)}:api_Cite)) b1))] | 1=>[(63,Dec.Own tapi_Step 49 (cv2 0) ([(⟨kind5,([]:Str)⟩:api_Step)]).length),(1000004,Dec.Own tapi_Step 49 (none:Tok) ([]:List api_Step).length),(2,(Bx 5 true 52 (tapi_Cite.is zapi_Cite) b)),(4,(Bx 5 true 52 ((tapi_Cite_k1 (none:Tok)).is ({(⟨(0:Int),([]:List api_Step),([]:Str),(0:Int),(0:Int)⟩:api_Cite) with Kind:=(3:Int)}:api_Cite)) b1))] | _=>[(4,(Bx 5 true 52 ((tapi_Cite_k1 (cv2 0)).is ({({(⟨(0:Int),([]:List api_Step),([]:Str),(0:Int),(0:Int)⟩:api_Cite) with Kind:=(3:Int)}:api_Cite) with Path:=[(⟨kind5,([]:Str)⟩:api_Step)]}:api_Cite)) b1)),(63,Dec.Own tapi_Step 49 (cv2 0) ([(⟨kind5,([]:Str)⟩:api_Step)]).length),(1000004,Dec.Own tapi_Step 49 (none:Tok) ([]:List api_Step).length),(2,(Bx 5 true 52 (tapi_Cite.is zapi_Cite) b))]) (fun _=>none) Mx rfl rfl rfl rfl rfl ⟨fun _ _ _ _=>rfl,⟨fun _ _ _ _=>rfl,⟨fun _ _ _ _=>rfl,⟨fun _ _ _ _=>rfl,⟨fun _ _ _ _=>rfl,⟨fun _ _ _ _=>rfl,⟨fun m hm c t=>by simp only [DA.at,upd_dep (r:=[true]) (j:=0) rfl hm],⟨fun _ _ _ _=>rfl,⟨fun _ _ _ _=>rfl,trivial⟩⟩⟩⟩⟩⟩⟩⟩⟩ rfl ⟨mo fun cv2=>Op1.call C89 (r20_Singles_spec _ hv66) trivial,⟨mo fun cv2=>Op1.move (.t rfl),⟨mo fun cv2=>Op1.idx hv67 U55 Z9 (.t rfl) .i64,⟨mo fun cv2=>Op1.load ty9 (.t rfl),⟨mo fun cv2=>Op1.call C88 (r20_kind_spec _ _ _ _ hv68) ⟨(.t rfl),(.t rfl),trivial⟩,⟨mo fun cv2=>Op1.build (s:=tapi_Step) (x:=(⟨kind5,([]:Str)⟩:api_Step)) zapi_Step_f rfl U49 (zapi_Step_sz _ U49) ze49 ⟨_,I6,kind5,_,_,rfl,Z3,(.t rfl),sapi_Step_0,rfl⟩,⟨.inl rfl,⟨mo fun cv2=>Op1.fieldAddrB (o:=0) U52 rfl J50 (.t rfl) rfl,⟨.inl rfl,trivial⟩⟩⟩⟩⟩⟩⟩⟩⟩ ⟨⟨_,_,_,[],(fun cv2=>[(63,Dec.Own tapi_Step 49 (cv2 0) ([(⟨kind5,([]:Str)⟩:api_Step)]).length)]),rfl,rfl,rfl,rfl,fun _=>rfl,fun _ _=>rfl,fun cv2=>OpR.buildSlice (n:=1) (ys:=[(0,(⟨kind5,([]:Str)⟩:api_Step))]) (z:=zapi_Step) (xs:=[(⟨kind5,([]:Str)⟩:api_Step)]) 63 U50 el49 ze49 ⟨rfl,(.t rfl),trivial⟩ (by simp) (by decide) rfl⟩,⟨⟨_,_,_,[4],(fun cv2=>[(4,(Bx 5 true 52 ((tapi_Cite_k1 (cv2 0)).is ({({(⟨(0:Int),([]:List api_Step),([]:Str),(0:Int),(0:Int)⟩:api_Cite) with Kind:=(3:Int)}:api_Cite) with Path:=[(⟨kind5,([]:Str)⟩:api_Step)]}:api_Cite)) b1))]),rfl,rfl,rfl,rfl,fun _=>rfl,fun _ _=>rfl,fun cv2=>OpR.viaU (OpR.storeBFT (b:=b1) (s:=(tapi_Cite_k1 (none:Tok))) (s':=(tapi_Cite_k1 (cv2 0))) (t:=(tOT tapi_Step (cv2 0))) 4 rfl rfl ⟨ty50.agg,ty50.size⟩ (sTapi_Cite_k1 (none:Tok) (cv2 0)) rfl (show 1+1≤5 by decide) (.t rfl) (Opd.toOT (.t rfl)))⟩,trivial⟩⟩ fun cv2=>WN.weakR (res':=[(63,Dec.Own tapi_Step 49 (cv2 0) ([(⟨kind5,([]:Str)⟩:api_Step)]).length),(2,(Bx 5 true 52 (tapi_Cite.is zapi_Cite) b)),(4,(Bx 5 true 52 ((tapi_Cite_k1 (cv2 0)).is ({({(⟨(0:Int),([]:List api_Step),([]:Str),(0:Int),(0:Int)⟩:api_Cite) with Kind:=(3:Int)}:api_Cite) with Path:=[(⟨kind5,([]:Str)⟩:api_Step)]}:api_Cite)) b1))]) ⟨rfl,rfl,⟨rfl,rfl,⟨rfl,rfl,trivial⟩⟩⟩<|WN.rekey (res':=[(1000004,Dec.Own tapi_Step 49 (cv2 0) ([(⟨kind5,([]:Str)⟩:api_Step)]).length),(2,(Bx 5 true 52 (tapi_Cite.is zapi_Cite) b)),(4,(Bx 5 true 52 ((tapi_Cite_k1 (cv2 0)).is ({({(⟨(0:Int),([]:List api_Step),([]:Str),(0:Int),(0:Int)⟩:api_Cite) with Kind:=(3:Int)}:api_Cite) with Path:=[(⟨kind5,([]:Str)⟩:api_Step)]}:api_Cite)) b1))]) rfl<|Aq<|W.region<|Ao rfl (.assign .i64)<|WL.nil<|WN.meet (((3:Int),({({(⟨(0:Int),([]:List api_Step),([]:Str),(0:Int),(0:Int)⟩:api_Cite) with Kind:=(3:Int)}:api_Cite) with Path:=[(⟨kind5,([]:Str)⟩:api_Step)]}:api_Cite)),(cv2 0)) (Si hm) ⟨.q rfl,.q rfl,.q rfl,.q rfl,trivial⟩ ⟨rfl,rfl,⟨rfl,rfl,⟨rfl,rfl,trivial⟩⟩⟩
       ·refine Aw<|Am rfl rfl<|Ao rfl (.lenL U55 (.t rfl))<|Ao rfl (.gtI (.t rfl) .i64)<|WL.mv rfl rfl ?_
        rcases iteD hm with ⟨hp70,hb69,hm⟩ | ⟨hp70,hb69,hm⟩
        ·refine Ax rfl hb69 (.move (.t rfl)) ?_
         obtain ⟨v15,hv71,hm⟩:=Bs hm
         refine Ax rfl hb69 (.idx hv71 U55 Z9 (.t rfl) .i64)<|Ax rfl hb69 (.load ty9 (.t rfl))<|Ax rfl hb69 (.eqS (.t rfl) (.str rfl (by decide)))<|Ao rfl (.pickT (.t rfl) hb69 (.t rfl))<|An<|W.cB hm (.t rfl) (fun hp73 hm=>?_) (fun hp73 hm=>?_)
         ·exact Aw<|Ao rfl (.fieldAddrB (o:=0) U52 rfl J3 (.t rfl) rfl)<|WL.opU (OpR.storeBF (b:=b1) 4 rfl ty3 (sapi_Cite_k1_0 (none:Tok)) rfl (show 0+1≤5 by decide) (.t rfl) .i64) fun _=>WL.nr1<|Ao rfl (.assign .i64)<|WL.nil<|WN.meet (((1:Int),({(⟨(0:Int),([]:List api_Step),([]:Str),(0:Int),(0:Int)⟩:api_Cite) with Kind:=(4:Int)}:api_Cite)),(none:Tok)) (Si hm) ⟨.q rfl,.q rfl,.q rfl,.q rfl,trivial⟩ ⟨rfl,rfl,⟨rfl,rfl,⟨rfl,rfl,trivial⟩⟩⟩
         ·exact W.skip<|WN.meet (((0:Int),(⟨(0:Int),([]:List api_Step),([]:Str),(0:Int),(0:Int)⟩:api_Cite)),(none:Tok)) (Si hm) ⟨.q rfl,.q rfl,.q rfl,.q rfl,trivial⟩ ⟨rfl,rfl,⟨rfl,rfl,⟨rfl,rfl,trivial⟩⟩⟩
        ·exact Ap rfl hb69<|Ap rfl hb69<|Ap rfl hb69<|Ap rfl hb69<|Ao rfl (.pickF (.t rfl) hb69 .bool)<|An<|W.condF (.t rfl)<|W.skip<|WN.meet (((0:Int),(⟨(0:Int),([]:List api_Step),([]:Str),(0:Int),(0:Int)⟩:api_Cite)),(none:Tok)) (Si hm) ⟨.q rfl,.q rfl,.q rfl,.q rfl,trivial⟩ ⟨rfl,rfl,⟨rfl,rfl,⟨rfl,rfl,trivial⟩⟩⟩
      ·refine W.draw [.c _,.c _,.c _,.c _,.c _,.c _,.c _,.c _,.c _,.c _,.c _,.c _,.c _,.c _,.c _,.c _,.c _,.c _,.c _,.c _,.c _,.c _,.c _] [([],[0]),([0],[]),([1],[]),([2],[]),([3],[0]),([3,4],[]),([3,5],[]),([3,6],[]),([3,7],[]),([8],[]),([9],[0]),([9,10],[]),([9,11],[]),([9,12],[]),([9,13],[]),([14],[]),([15],[]),([15],[0]),([15,17],[]),([15,18],[]),([15,16,19],[]),([15,20],[]),([15,21],[])] Mx rfl rfl rfl rfl (by exact ⟨Dn (.move (.t rfl)),Dn (.lenL U55 (.t rfl)),Dn (.gtI (.t rfl) .i64),Dn (.move (.t rfl)),Dr rfl hb53 (.move (.t rfl)),Dr rfl hb53 (.idx hv55 U55 Z9 (.t rfl) .i64),Dr rfl hb53 (.load ty9 (.t rfl)),Dr rfl hb53 (.eqS (.t rfl) (.str rfl (by decide))),Dn (.pickT (.t rfl) hb53 (.t rfl)),Dn (.move (.t rfl)),Dr rfl hb56 (.move (.t rfl)),Dr rfl hb56 (.idx hv58 U55 Z9 (.t rfl) .i64),Dr rfl hb56 (.load ty9 (.t rfl)),Dr rfl hb56 (.eqS (.t rfl) (.str rfl (by decide))),Dn (.pickT (.t rfl) hb56 (.t rfl)),Dn (.move (.t rfl)),Dp rfl hb59,Dp rfl hb59,Dp rfl hb59,Dp rfl hb59,Dp rfl hb59,Dp rfl hb59,Dn (.pickF (.t rfl) hb59 .bool),trivial⟩)<|Aq<|W.condF (.t rfl)<|Aw<|Am rfl rfl<|Ao rfl (.lenL U55 (.t rfl))<|Ao rfl (.gtI (.t rfl) .i64)<|WL.mv rfl rfl ?_
       rcases iteD hm with ⟨hp75,hb74,hm⟩ | ⟨hp75,hb74,hm⟩
       ·refine Ax rfl hb74 (.move (.t rfl)) ?_
        obtain ⟨v16,hv76,hm⟩:=Bs hm
        refine Ax rfl hb74 (.idx hv76 U55 Z9 (.t rfl) .i64)<|Ax rfl hb74 (.load ty9 (.t rfl))<|Ax rfl hb74 (.eqS (.t rfl) (.str rfl (by decide)))<|Ao rfl (.pickT (.t rfl) hb74 (.t rfl))<|An<|W.cB hm (.t rfl) (fun hp78 hm=>?_) (fun hp78 hm=>?_)
        ·exact Aw<|Ao rfl (.fieldAddrB (o:=0) U52 rfl J3 (.t rfl) rfl)<|WL.opU (OpR.storeBF (b:=b1) 4 rfl ty3 (sapi_Cite_k1_0 (none:Tok)) rfl (show 0+1≤5 by decide) (.t rfl) .i64) fun _=>WL.nr1<|Ao rfl (.assign .i64)<|WL.nil<|WN.meet (((1:Int),({(⟨(0:Int),([]:List api_Step),([]:Str),(0:Int),(0:Int)⟩:api_Cite) with Kind:=(4:Int)}:api_Cite)),(none:Tok)) (Si hm) ⟨.q rfl,.q rfl,.q rfl,.q rfl,trivial⟩ ⟨rfl,rfl,⟨rfl,rfl,⟨rfl,rfl,trivial⟩⟩⟩
        ·exact W.skip<|WN.meet (((0:Int),(⟨(0:Int),([]:List api_Step),([]:Str),(0:Int),(0:Int)⟩:api_Cite)),(none:Tok)) (Si hm) ⟨.q rfl,.q rfl,.q rfl,.q rfl,trivial⟩ ⟨rfl,rfl,⟨rfl,rfl,⟨rfl,rfl,trivial⟩⟩⟩
       ·exact Ap rfl hb74<|Ap rfl hb74<|Ap rfl hb74<|Ap rfl hb74<|Ao rfl (.pickF (.t rfl) hb74 .bool)<|An<|W.condF (.t rfl)<|W.skip<|WN.meet (((0:Int),(⟨(0:Int),([]:List api_Step),([]:Str),(0:Int),(0:Int)⟩:api_Cite)),(none:Tok)) (Si hm) ⟨.q rfl,.q rfl,.q rfl,.q rfl,trivial⟩ ⟨rfl,rfl,⟨rfl,rfl,⟨rfl,rfl,trivial⟩⟩⟩
     ·refine W.draw [.c _,.c _,.c (tB.is (decide ((2:Int)< (w.length:Int)))),.c (tB.is (decide ((2:Int)< (w.length:Int)))),.c _,.c _,.c _,.c (tB.is (v11==([116,104,101]:Str))),.c (tB.is (v11==([116,104,101]:Str))),.c (tB.is (v11==([116,104,101]:Str))),.c _,.c _,.c _,.c _,.c (tB.is false),.c (tB.is false),.c _,.c _,.c _,.c _,.c _,.c _,.c (tB.is false)] [([],[0]),([0],[]),([1],[]),([2],[]),([3],[0]),([3,4],[]),([3,5],[]),([3,6],[]),([3,7],[]),([8],[]),([9],[0]),([9,10],[]),([9,11],[]),([9,12],[]),([9,13],[]),([14],[]),([15],[]),([15],[0]),([15,17],[]),([15,18],[]),([15,16,19],[]),([15,20],[]),([15,21],[])] Mx rfl rfl rfl rfl (by exact ⟨Dn (.move (.t rfl)),Dn (.lenL U55 (.t rfl)),Dn (.gtI (.t rfl) .i64),Dn (.move (.t rfl)),Dr rfl hb53 (.move (.t rfl)),Dr rfl hb53 (.idx hv55 U55 Z9 (.t rfl) .i64),Dr rfl hb53 (.load ty9 (.t rfl)),Dr rfl hb53 (.eqS (.t rfl) (.str rfl (by decide))),Dn (.pickT (.t rfl) hb53 (.t rfl)),Dn (.move (.t rfl)),Dp rfl hb56,Dp rfl hb56,Dp rfl hb56,Dp rfl hb56,Dn (.pickF (.t rfl) hb56 .bool),Dn (.move (.t rfl)),Dp rfl rfl,Dp rfl rfl,Dp rfl rfl,Dp rfl rfl,Dp rfl rfl,Dp rfl rfl,Dn (.pickF (.t rfl) rfl .bool),trivial⟩)<|Aq<|W.condF (.t rfl)<|Aw<|Am rfl rfl<|Ao rfl (.lenL U55 (.t rfl))<|Ao rfl (.gtI (.t rfl) .i64)<|WL.mv rfl rfl ?_
      rcases iteD hm with ⟨hp80,hb79,hm⟩ | ⟨hp80,hb79,hm⟩
      ·refine Ax rfl hb79 (.move (.t rfl)) ?_
       obtain ⟨v17,hv81,hm⟩:=Bs hm
       refine Ax rfl hb79 (.idx hv81 U55 Z9 (.t rfl) .i64)<|Ax rfl hb79 (.load ty9 (.t rfl))<|Ax rfl hb79 (.eqS (.t rfl) (.str rfl (by decide)))<|Ao rfl (.pickT (.t rfl) hb79 (.t rfl))<|An<|W.cB hm (.t rfl) (fun hp83 hm=>?_) (fun hp83 hm=>?_)
       ·exact Aw<|Ao rfl (.fieldAddrB (o:=0) U52 rfl J3 (.t rfl) rfl)<|WL.opU (OpR.storeBF (b:=b1) 4 rfl ty3 (sapi_Cite_k1_0 (none:Tok)) rfl (show 0+1≤5 by decide) (.t rfl) .i64) fun _=>WL.nr1<|Ao rfl (.assign .i64)<|WL.nil<|WN.meet (((1:Int),({(⟨(0:Int),([]:List api_Step),([]:Str),(0:Int),(0:Int)⟩:api_Cite) with Kind:=(4:Int)}:api_Cite)),(none:Tok)) (Si hm) ⟨.q rfl,.q rfl,.q rfl,.q rfl,trivial⟩ ⟨rfl,rfl,⟨rfl,rfl,⟨rfl,rfl,trivial⟩⟩⟩
       ·exact W.skip<|WN.meet (((0:Int),(⟨(0:Int),([]:List api_Step),([]:Str),(0:Int),(0:Int)⟩:api_Cite)),(none:Tok)) (Si hm) ⟨.q rfl,.q rfl,.q rfl,.q rfl,trivial⟩ ⟨rfl,rfl,⟨rfl,rfl,⟨rfl,rfl,trivial⟩⟩⟩
      ·exact Ap rfl hb79<|Ap rfl hb79<|Ap rfl hb79<|Ap rfl hb79<|Ao rfl (.pickF (.t rfl) hb79 .bool)<|An<|W.condF (.t rfl)<|W.skip<|WN.meet (((0:Int),(⟨(0:Int),([]:List api_Step),([]:Str),(0:Int),(0:Int)⟩:api_Cite)),(none:Tok)) (Si hm) ⟨.q rfl,.q rfl,.q rfl,.q rfl,trivial⟩ ⟨rfl,rfl,⟨rfl,rfl,⟨rfl,rfl,trivial⟩⟩⟩
    ·refine W.draw [.c _,.c _,.c (tB.is (decide ((2:Int)< (w.length:Int)))),.c (tB.is (decide ((2:Int)< (w.length:Int)))),.c _,.c _,.c _,.c _,.c (tB.is false),.c (tB.is false),.c _,.c _,.c _,.c _,.c (tB.is false),.c (tB.is false),.c _,.c _,.c _,.c _,.c _,.c _,.c (tB.is false)] [([],[0]),([0],[]),([1],[]),([2],[]),([3],[0]),([3,4],[]),([3,5],[]),([3,6],[]),([3,7],[]),([8],[]),([9],[0]),([9,10],[]),([9,11],[]),([9,12],[]),([9,13],[]),([14],[]),([15],[]),([15],[0]),([15,17],[]),([15,18],[]),([15,16,19],[]),([15,20],[]),([15,21],[])] Mx rfl rfl rfl rfl (by exact ⟨Dn (.move (.t rfl)),Dn (.lenL U55 (.t rfl)),Dn (.gtI (.t rfl) .i64),Dn (.move (.t rfl)),Dp rfl hb53,Dp rfl hb53,Dp rfl hb53,Dp rfl hb53,Dn (.pickF (.t rfl) hb53 .bool),Dn (.move (.t rfl)),Dp rfl rfl,Dp rfl rfl,Dp rfl rfl,Dp rfl rfl,Dn (.pickF (.t rfl) rfl .bool),Dn (.move (.t rfl)),Dp rfl rfl,Dp rfl rfl,Dp rfl rfl,Dp rfl rfl,Dp rfl rfl,Dp rfl rfl,Dn (.pickF (.t rfl) rfl .bool),trivial⟩)<|Aq<|W.condF (.t rfl)<|Aw<|Am rfl rfl<|Ao rfl (.lenL U55 (.t rfl))<|Ao rfl (.gtI (.t rfl) .i64)<|WL.mv rfl rfl ?_
     rcases iteD hm with ⟨hp85,hb84,hm⟩ | ⟨hp85,hb84,hm⟩
     ·refine Ax rfl hb84 (.move (.t rfl)) ?_
      obtain ⟨v18,hv86,hm⟩:=Bs hm
      refine Ax rfl hb84 (.idx hv86 U55 Z9 (.t rfl) .i64)<|Ax rfl hb84 (.load ty9 (.t rfl))<|Ax rfl hb84 (.eqS (.t rfl) (.str rfl (by decide)))<|Ao rfl (.pickT (.t rfl) hb84 (.t rfl))<|An<|W.cB hm (.t rfl) (fun hp88 hm=>?_) (fun hp88 hm=>?_)
      ·exact Aw<|Ao rfl (.fieldAddrB (o:=0) U52 rfl J3 (.t rfl) rfl)<|WL.opU (OpR.storeBF (b:=b1) 4 rfl ty3 (sapi_Cite_k1_0 (none:Tok)) rfl (show 0+1≤5 by decide) (.t rfl) .i64) fun _=>WL.nr1<|Ao rfl (.assign .i64)<|WL.nil<|WN.meet (((1:Int),({(⟨(0:Int),([]:List api_Step),([]:Str),(0:Int),(0:Int)⟩:api_Cite) with Kind:=(4:Int)}:api_Cite)),(none:Tok)) (Si hm) ⟨.q rfl,.q rfl,.q rfl,.q rfl,trivial⟩ ⟨rfl,rfl,⟨rfl,rfl,⟨rfl,rfl,trivial⟩⟩⟩
      ·exact W.skip<|WN.meet (((0:Int),(⟨(0:Int),([]:List api_Step),([]:Str),(0:Int),(0:Int)⟩:api_Cite)),(none:Tok)) (Si hm) ⟨.q rfl,.q rfl,.q rfl,.q rfl,trivial⟩ ⟨rfl,rfl,⟨rfl,rfl,⟨rfl,rfl,trivial⟩⟩⟩
     ·exact Ap rfl hb84<|Ap rfl hb84<|Ap rfl hb84<|Ap rfl hb84<|Ao rfl (.pickF (.t rfl) hb84 .bool)<|An<|W.condF (.t rfl)<|W.skip<|WN.meet (((0:Int),(⟨(0:Int),([]:List api_Step),([]:Str),(0:Int),(0:Int)⟩:api_Cite)),(none:Tok)) (Si hm) ⟨.q rfl,.q rfl,.q rfl,.q rfl,trivial⟩ ⟨rfl,rfl,⟨rfl,rfl,⟨rfl,rfl,trivial⟩⟩⟩
  ·refine W.draw [.c _,.c _,.c (tB.is (decide ((1:Int)< (w.length:Int)))),.c (tB.is (decide ((1:Int)< (w.length:Int)))),.c _,.c _,.c _,.c _,.c (tB.is false),.c (tB.is false),.c _,.c _,.c _,.c _,.c _,.c _,.c (tB.is false)] [([],[0]),([0],[]),([1],[]),([2],[]),([3],[0]),([3,4],[]),([3,5],[]),([3,6],[]),([3,7],[]),([8],[]),([9],[]),([9],[0]),([9,11],[]),([9,12],[]),([9,10,13],[]),([9,14],[]),([9,15],[])] Mx rfl rfl rfl rfl ⟨Dn (.move (.t rfl)),Dn (.lenL U55 (.t rfl)),Dn (.gtI (.t rfl) .i64),Dn (.move (.t rfl)),Dp rfl hb4,Dp rfl hb4,Dp rfl hb4,Dp rfl hb4,Dn (.pickF (.t rfl) hb4 .bool),Dn (.move (.t rfl)),Dp rfl rfl,Dp rfl rfl,Dp rfl rfl,Dp rfl rfl,Dp rfl rfl,Dp rfl rfl,Dn (.pickF (.t rfl) rfl .bool),trivial⟩<|Aq<|W.condF (.t rfl)<|W.seq ?_
   rcases iteD hm with ⟨hp90,hb89,hm⟩ | ⟨hp90,hb89,hm⟩
   ·obtain ⟨v19,hv91,hm⟩:=Bs hm
    rcases iteB hm with ⟨hp93,hb92,hm⟩ | ⟨hp93,hb92,hm⟩
    ·obtain ⟨v20,hv94,hm⟩:=Bs hm
     rcases iteB hm with ⟨hp96,hb95,hm⟩ | ⟨hp96,hb95,hm⟩
     ·obtain ⟨single6,hv97,hm⟩:=Bs hm
      obtain ⟨v21,hv98,hm⟩:=Bs hm
      obtain ⟨kind6,hv99,hm⟩:=Bs hm
      refine W.draw [.c _,.c _,.c _,.c _,.c _,.c _,.c _,.c _,.c _,.c _,.c _,.c _,.c _,.c _,.c _,.c _,.c _,.c _,.c _,.c _,.c _,.c _,.c _] [([],[0]),([0],[]),([1],[]),([2],[]),([3],[0]),([3,4],[]),([3,5],[]),([3,6],[]),([3,7],[]),([8],[]),([9],[0]),([9,10],[]),([9,11],[]),([9,12],[]),([9,13],[]),([14],[]),([15],[]),([15],[0]),([15,17],[]),([15,18],[]),([15,16,19],[]),([15,20],[]),([15,21],[])] Mx rfl rfl rfl rfl (by exact ⟨Dn (.move (.t rfl)),Dn (.lenL U55 (.t rfl)),Dn (.gtI (.t rfl) .i64),Dn (.move (.t rfl)),Dr rfl hb89 (.move (.t rfl)),Dr rfl hb89 (.idx hv91 U55 Z9 (.t rfl) .i64),Dr rfl hb89 (.load ty9 (.t rfl)),Dr rfl hb89 (.eqS (.t rfl) (.str rfl (by decide))),Dn (.pickT (.t rfl) hb89 (.t rfl)),Dn (.move (.t rfl)),Dr rfl hb92 (.move (.t rfl)),Dr rfl hb92 (.idx hv94 U55 Z9 (.t rfl) .i64),Dr rfl hb92 (.load ty9 (.t rfl)),Dr rfl hb92 (.eqS (.t rfl) (.str rfl (by decide))),Dn (.pickT (.t rfl) hb92 (.t rfl)),Dn (.move (.t rfl)),Dr rfl hb95 (.call C89 (r20_Singles_spec _ hv97) trivial),Dr rfl hb95 (.move (.t rfl)),Dr rfl hb95 (.idx hv98 U55 Z9 (.t rfl) .i64),Dr rfl hb95 (.load ty9 (.t rfl)),Dr rfl hb95 (.call C88 (r20_kind_spec _ _ _ _ hv99) ⟨(.t rfl),(.t rfl),trivial⟩),Dr rfl hb95 (.gtI (.t rfl) .i64),Dn (.pickT (.t rfl) hb95 (.t rfl)),trivial⟩)<|Aq<|W.cD hm (.t rfl) (fun hp101 hm=>?_) (fun hp101 hm=>?_)
      ·refine Aw<|Ao rfl (.fieldAddrB (o:=0) U52 rfl J3 (.t rfl) rfl)<|WL.opU (OpR.storeBF (b:=b1) 4 rfl ty3 (sapi_Cite_k1_0 (none:Tok)) rfl (show 0+1≤5 by decide) (.t rfl) .i64) fun _=>An<|W.seq ?_
       obtain ⟨single7,hv102,hm⟩:=Bs hm
       obtain ⟨v22,hv103,hm⟩:=Bs hm
       obtain ⟨kind7,hv104,hm⟩:=Bs hm
       exact W.weakR (res':=[(1000004,Dec.Own tapi_Step 49 (none:Tok) ([]:List api_Step).length),(2,(Bx 5 true 52 (tapi_Cite.is zapi_Cite) b)),(4,(Bx 5 true 52 ((tapi_Cite_k1 (none:Tok)).is ({(⟨(0:Int),([]:List api_Step),([]:Str),(0:Int),(0:Int)⟩:api_Cite) with Kind:=(3:Int)}:api_Cite)) b1))]) ⟨rfl,rfl,⟨rfl,rfl,⟨rfl,rfl,trivial⟩⟩⟩<|W.drawM [.c ((tL tS).is single7),.c ((tL tS).is w),.c (tS.ptr v22),.c (tS.is v22),.c (I6.is kind7),.c (tapi_Step.is (⟨kind7,([]:Str)⟩:api_Step)),.f (fun cv3=>(tO tapi_Step (cv3 0) ([(⟨kind7,([]:Str)⟩:api_Step)]))),.c (Bp b1 1),.c Asn.any] [([],[]),([],[0]),([1],[]),([2],[]),([0,3],[]),([4],[]),([5],[]),([],[4]),([6,7],[])] [6,8] [[],[],[],[],[],[],[true],[],[]] (fun m cv3=>match m with | 0=>[(1000004,Dec.Own tapi_Step 49 (none:Tok) ([]:List api_Step).length),(2,(Bx 5 true 52 (tapi_Cite.is zapi_Cite) b)),(4,(Bx 5 true 52 ((tapi_Cite_k1 (none:Tok)).is ({(⟨(0:Int),([]:List api_Step),([]:Str),(0:Int),(0:Int)⟩:api_Cite) with Kind:=(3:Int)}:api_Cite)) b1))] | 1=>[(63,Dec.Own tapi_Step 49 (cv3 0) ([(⟨kind7,([]:Str)⟩:api_Step)]).length),(1000004,Dec.Own tapi_Step 49 (none:Tok) ([]:List api_Step).length),(2,(Bx 5 true 52 (tapi_Cite.is zapi_Cite) b)),(4,(Bx 5 true 52 ((tapi_Cite_k1 (none:Tok)).is ({(⟨(0:Int),([]:List api_Step),([]:Str),(0:Int),(0:Int)⟩:api_Cite) with Kind:=(3:Int)}:api_Cite)) b1))] | _=>[(4,(Bx 5 true 52 ((tapi_Cite_k1 (cv3 0)).is ({({(⟨(0:Int),([]:List api_Step),([]:Str),(0:Int),(0:Int)⟩:api_Cite) with Kind:=(3:Int)}:api_Cite) with Path:=[(⟨kind7,([]:Str)⟩:api_Step)]}:api_Cite)) b1)),(63,Dec.Own tapi_Step 49 (cv3 0) ([(⟨kind7,([]:Str)⟩:api_Step)]).length),(1000004,Dec.Own tapi_Step 49 (none:Tok) ([]:List api_Step).length),(2,(Bx 5 true 52 (tapi_Cite.is zapi_Cite) b))]) (fun _=>none) Mx rfl rfl rfl rfl rfl ⟨fun _ _ _ _=>rfl,⟨fun _ _ _ _=>rfl,⟨fun _ _ _ _=>rfl,⟨fun _ _ _ _=>rfl,⟨fun _ _ _ _=>rfl,⟨fun _ _ _ _=>rfl,⟨fun m hm c t=>by simp only [DA.at,upd_dep (r:=[true]) (j:=0) rfl hm],⟨fun _ _ _ _=>rfl,⟨fun _ _ _ _=>rfl,trivial⟩⟩⟩⟩⟩⟩⟩⟩⟩ rfl ⟨mo fun cv3=>Op1.call C89 (r20_Singles_spec _ hv102) trivial,⟨mo fun cv3=>Op1.move (.t rfl),⟨mo fun cv3=>Op1.idx hv103 U55 Z9 (.t rfl) .i64,⟨mo fun cv3=>Op1.load ty9 (.t rfl),⟨mo fun cv3=>Op1.call C88 (r20_kind_spec _ _ _ _ hv104) ⟨(.t rfl),(.t rfl),trivial⟩,⟨mo fun cv3=>Op1.build (s:=tapi_Step) (x:=(⟨kind7,([]:Str)⟩:api_Step)) zapi_Step_f rfl U49 (zapi_Step_sz _ U49) ze49 ⟨_,I6,kind7,_,_,rfl,Z3,(.t rfl),sapi_Step_0,rfl⟩,⟨.inl rfl,⟨mo fun cv3=>Op1.fieldAddrB (o:=0) U52 rfl J50 (.t rfl) rfl,⟨.inl rfl,trivial⟩⟩⟩⟩⟩⟩⟩⟩⟩ ⟨⟨_,_,_,[],(fun cv3=>[(63,Dec.Own tapi_Step 49 (cv3 0) ([(⟨kind7,([]:Str)⟩:api_Step)]).length)]),rfl,rfl,rfl,rfl,fun _=>rfl,fun _ _=>rfl,fun cv3=>OpR.buildSlice (n:=1) (ys:=[(0,(⟨kind7,([]:Str)⟩:api_Step))]) (z:=zapi_Step) (xs:=[(⟨kind7,([]:Str)⟩:api_Step)]) 63 U50 el49 ze49 ⟨rfl,(.t rfl),trivial⟩ (by simp) (by decide) rfl⟩,⟨⟨_,_,_,[4],(fun cv3=>[(4,(Bx 5 true 52 ((tapi_Cite_k1 (cv3 0)).is ({({(⟨(0:Int),([]:List api_Step),([]:Str),(0:Int),(0:Int)⟩:api_Cite) with Kind:=(3:Int)}:api_Cite) with Path:=[(⟨kind7,([]:Str)⟩:api_Step)]}:api_Cite)) b1))]),rfl,rfl,rfl,rfl,fun _=>rfl,fun _ _=>rfl,fun cv3=>OpR.viaU (OpR.storeBFT (b:=b1) (s:=(tapi_Cite_k1 (none:Tok))) (s':=(tapi_Cite_k1 (cv3 0))) (t:=(tOT tapi_Step (cv3 0))) 4 rfl rfl ⟨ty50.agg,ty50.size⟩ (sTapi_Cite_k1 (none:Tok) (cv3 0)) rfl (show 1+1≤5 by decide) (.t rfl) (Opd.toOT (.t rfl)))⟩,trivial⟩⟩ fun cv3=>WN.weakR (res':=[(63,Dec.Own tapi_Step 49 (cv3 0) ([(⟨kind7,([]:Str)⟩:api_Step)]).length),(2,(Bx 5 true 52 (tapi_Cite.is zapi_Cite) b)),(4,(Bx 5 true 52 ((tapi_Cite_k1 (cv3 0)).is ({({(⟨(0:Int),([]:List api_Step),([]:Str),(0:Int),(0:Int)⟩:api_Cite) with Kind:=(3:Int)}:api_Cite) with Path:=[(⟨kind7,([]:Str)⟩:api_Step)]}:api_Cite)) b1))]) ⟨rfl,rfl,⟨rfl,rfl,⟨rfl,rfl,trivial⟩⟩⟩<|WN.rekey (res':=[(1000004,Dec.Own tapi_Step 49 (cv3 0) ([(⟨kind7,([]:Str)⟩:api_Step)]).length),(2,(Bx 5 true 52 (tapi_Cite.is zapi_Cite) b)),(4,(Bx 5 true 52 ((tapi_Cite_k1 (cv3 0)).is ({({(⟨(0:Int),([]:List api_Step),([]:Str),(0:Int),(0:Int)⟩:api_Cite) with Kind:=(3:Int)}:api_Cite) with Path:=[(⟨kind7,([]:Str)⟩:api_Step)]}:api_Cite)) b1))]) rfl<|Aq<|W.region<|Ao rfl (.assign .i64)<|WL.nil<|WN.meet (((3:Int),({({(⟨(0:Int),([]:List api_Step),([]:Str),(0:Int),(0:Int)⟩:api_Cite) with Kind:=(3:Int)}:api_Cite) with Path:=[(⟨kind7,([]:Str)⟩:api_Step)]}:api_Cite)),(cv3 0)) (Si hm) ⟨.q rfl,.q rfl,.q rfl,.q rfl,trivial⟩ ⟨rfl,rfl,⟨rfl,rfl,⟨rfl,rfl,trivial⟩⟩⟩
      ·refine Aw<|Am rfl rfl<|Ao rfl (.lenL U55 (.t rfl))<|Ao rfl (.gtI (.t rfl) .i64)<|WL.mv rfl rfl ?_
       rcases iteD hm with ⟨hp106,hb105,hm⟩ | ⟨hp106,hb105,hm⟩
       ·refine Ax rfl hb105 (.move (.t rfl)) ?_
        obtain ⟨v23,hv107,hm⟩:=Bs hm
        refine Ax rfl hb105 (.idx hv107 U55 Z9 (.t rfl) .i64)<|Ax rfl hb105 (.load ty9 (.t rfl))<|Ax rfl hb105 (.eqS (.t rfl) (.str rfl (by decide)))<|Ao rfl (.pickT (.t rfl) hb105 (.t rfl))<|An<|W.cB hm (.t rfl) (fun hp109 hm=>?_) (fun hp109 hm=>?_)
        ·exact Aw<|Ao rfl (.fieldAddrB (o:=0) U52 rfl J3 (.t rfl) rfl)<|WL.opU (OpR.storeBF (b:=b1) 4 rfl ty3 (sapi_Cite_k1_0 (none:Tok)) rfl (show 0+1≤5 by decide) (.t rfl) .i64) fun _=>WL.nr1<|Ao rfl (.assign .i64)<|WL.nil<|WN.meet (((1:Int),({(⟨(0:Int),([]:List api_Step),([]:Str),(0:Int),(0:Int)⟩:api_Cite) with Kind:=(4:Int)}:api_Cite)),(none:Tok)) (Si hm) ⟨.q rfl,.q rfl,.q rfl,.q rfl,trivial⟩ ⟨rfl,rfl,⟨rfl,rfl,⟨rfl,rfl,trivial⟩⟩⟩
        ·exact W.skip<|WN.meet (((0:Int),(⟨(0:Int),([]:List api_Step),([]:Str),(0:Int),(0:Int)⟩:api_Cite)),(none:Tok)) (Si hm) ⟨.q rfl,.q rfl,.q rfl,.q rfl,trivial⟩ ⟨rfl,rfl,⟨rfl,rfl,⟨rfl,rfl,trivial⟩⟩⟩
       ·exact Ap rfl hb105<|Ap rfl hb105<|Ap rfl hb105<|Ap rfl hb105<|Ao rfl (.pickF (.t rfl) hb105 .bool)<|An<|W.condF (.t rfl)<|W.skip<|WN.meet (((0:Int),(⟨(0:Int),([]:List api_Step),([]:Str),(0:Int),(0:Int)⟩:api_Cite)),(none:Tok)) (Si hm) ⟨.q rfl,.q rfl,.q rfl,.q rfl,trivial⟩ ⟨rfl,rfl,⟨rfl,rfl,⟨rfl,rfl,trivial⟩⟩⟩
     ·refine W.draw [.c _,.c _,.c _,.c _,.c _,.c _,.c _,.c _,.c _,.c _,.c _,.c _,.c _,.c _,.c _,.c _,.c _,.c _,.c _,.c _,.c _,.c _,.c _] [([],[0]),([0],[]),([1],[]),([2],[]),([3],[0]),([3,4],[]),([3,5],[]),([3,6],[]),([3,7],[]),([8],[]),([9],[0]),([9,10],[]),([9,11],[]),([9,12],[]),([9,13],[]),([14],[]),([15],[]),([15],[0]),([15,17],[]),([15,18],[]),([15,16,19],[]),([15,20],[]),([15,21],[])] Mx rfl rfl rfl rfl (by exact ⟨Dn (.move (.t rfl)),Dn (.lenL U55 (.t rfl)),Dn (.gtI (.t rfl) .i64),Dn (.move (.t rfl)),Dr rfl hb89 (.move (.t rfl)),Dr rfl hb89 (.idx hv91 U55 Z9 (.t rfl) .i64),Dr rfl hb89 (.load ty9 (.t rfl)),Dr rfl hb89 (.eqS (.t rfl) (.str rfl (by decide))),Dn (.pickT (.t rfl) hb89 (.t rfl)),Dn (.move (.t rfl)),Dr rfl hb92 (.move (.t rfl)),Dr rfl hb92 (.idx hv94 U55 Z9 (.t rfl) .i64),Dr rfl hb92 (.load ty9 (.t rfl)),Dr rfl hb92 (.eqS (.t rfl) (.str rfl (by decide))),Dn (.pickT (.t rfl) hb92 (.t rfl)),Dn (.move (.t rfl)),Dp rfl hb95,Dp rfl hb95,Dp rfl hb95,Dp rfl hb95,Dp rfl hb95,Dp rfl hb95,Dn (.pickF (.t rfl) hb95 .bool),trivial⟩)<|Aq<|W.condF (.t rfl)<|Aw<|Am rfl rfl<|Ao rfl (.lenL U55 (.t rfl))<|Ao rfl (.gtI (.t rfl) .i64)<|WL.mv rfl rfl ?_
      rcases iteD hm with ⟨hp111,hb110,hm⟩ | ⟨hp111,hb110,hm⟩
      ·refine Ax rfl hb110 (.move (.t rfl)) ?_
       obtain ⟨v24,hv112,hm⟩:=Bs hm
       refine Ax rfl hb110 (.idx hv112 U55 Z9 (.t rfl) .i64)<|Ax rfl hb110 (.load ty9 (.t rfl))<|Ax rfl hb110 (.eqS (.t rfl) (.str rfl (by decide)))<|Ao rfl (.pickT (.t rfl) hb110 (.t rfl))<|An<|W.cB hm (.t rfl) (fun hp114 hm=>?_) (fun hp114 hm=>?_)
       ·exact Aw<|Ao rfl (.fieldAddrB (o:=0) U52 rfl J3 (.t rfl) rfl)<|WL.opU (OpR.storeBF (b:=b1) 4 rfl ty3 (sapi_Cite_k1_0 (none:Tok)) rfl (show 0+1≤5 by decide) (.t rfl) .i64) fun _=>WL.nr1<|Ao rfl (.assign .i64)<|WL.nil<|WN.meet (((1:Int),({(⟨(0:Int),([]:List api_Step),([]:Str),(0:Int),(0:Int)⟩:api_Cite) with Kind:=(4:Int)}:api_Cite)),(none:Tok)) (Si hm) ⟨.q rfl,.q rfl,.q rfl,.q rfl,trivial⟩ ⟨rfl,rfl,⟨rfl,rfl,⟨rfl,rfl,trivial⟩⟩⟩
       ·exact W.skip<|WN.meet (((0:Int),(⟨(0:Int),([]:List api_Step),([]:Str),(0:Int),(0:Int)⟩:api_Cite)),(none:Tok)) (Si hm) ⟨.q rfl,.q rfl,.q rfl,.q rfl,trivial⟩ ⟨rfl,rfl,⟨rfl,rfl,⟨rfl,rfl,trivial⟩⟩⟩
      ·exact Ap rfl hb110<|Ap rfl hb110<|Ap rfl hb110<|Ap rfl hb110<|Ao rfl (.pickF (.t rfl) hb110 .bool)<|An<|W.condF (.t rfl)<|W.skip<|WN.meet (((0:Int),(⟨(0:Int),([]:List api_Step),([]:Str),(0:Int),(0:Int)⟩:api_Cite)),(none:Tok)) (Si hm) ⟨.q rfl,.q rfl,.q rfl,.q rfl,trivial⟩ ⟨rfl,rfl,⟨rfl,rfl,⟨rfl,rfl,trivial⟩⟩⟩
    ·refine W.draw [.c _,.c _,.c (tB.is (decide ((2:Int)< (w.length:Int)))),.c (tB.is (decide ((2:Int)< (w.length:Int)))),.c _,.c _,.c _,.c (tB.is (v19==([116,104,101]:Str))),.c (tB.is (v19==([116,104,101]:Str))),.c (tB.is (v19==([116,104,101]:Str))),.c _,.c _,.c _,.c _,.c (tB.is false),.c (tB.is false),.c _,.c _,.c _,.c _,.c _,.c _,.c (tB.is false)] [([],[0]),([0],[]),([1],[]),([2],[]),([3],[0]),([3,4],[]),([3,5],[]),([3,6],[]),([3,7],[]),([8],[]),([9],[0]),([9,10],[]),([9,11],[]),([9,12],[]),([9,13],[]),([14],[]),([15],[]),([15],[0]),([15,17],[]),([15,18],[]),([15,16,19],[]),([15,20],[]),([15,21],[])] Mx rfl rfl rfl rfl (by exact ⟨Dn (.move (.t rfl)),Dn (.lenL U55 (.t rfl)),Dn (.gtI (.t rfl) .i64),Dn (.move (.t rfl)),Dr rfl hb89 (.move (.t rfl)),Dr rfl hb89 (.idx hv91 U55 Z9 (.t rfl) .i64),Dr rfl hb89 (.load ty9 (.t rfl)),Dr rfl hb89 (.eqS (.t rfl) (.str rfl (by decide))),Dn (.pickT (.t rfl) hb89 (.t rfl)),Dn (.move (.t rfl)),Dp rfl hb92,Dp rfl hb92,Dp rfl hb92,Dp rfl hb92,Dn (.pickF (.t rfl) hb92 .bool),Dn (.move (.t rfl)),Dp rfl rfl,Dp rfl rfl,Dp rfl rfl,Dp rfl rfl,Dp rfl rfl,Dp rfl rfl,Dn (.pickF (.t rfl) rfl .bool),trivial⟩)<|Aq<|W.condF (.t rfl)<|Aw<|Am rfl rfl<|Ao rfl (.lenL U55 (.t rfl))<|Ao rfl (.gtI (.t rfl) .i64)<|WL.mv rfl rfl ?_
     rcases iteD hm with ⟨hp116,hb115,hm⟩ | ⟨hp116,hb115,hm⟩
     ·refine Ax rfl hb115 (.move (.t rfl)) ?_
      obtain ⟨v25,hv117,hm⟩:=Bs hm
      refine Ax rfl hb115 (.idx hv117 U55 Z9 (.t rfl) .i64)<|Ax rfl hb115 (.load ty9 (.t rfl))<|Ax rfl hb115 (.eqS (.t rfl) (.str rfl (by decide)))<|Ao rfl (.pickT (.t rfl) hb115 (.t rfl))<|An<|W.cB hm (.t rfl) (fun hp119 hm=>?_) (fun hp119 hm=>?_)
      ·exact Aw<|Ao rfl (.fieldAddrB (o:=0) U52 rfl J3 (.t rfl) rfl)<|WL.opU (OpR.storeBF (b:=b1) 4 rfl ty3 (sapi_Cite_k1_0 (none:Tok)) rfl (show 0+1≤5 by decide) (.t rfl) .i64) fun _=>WL.nr1<|Ao rfl (.assign .i64)<|WL.nil<|WN.meet (((1:Int),({(⟨(0:Int),([]:List api_Step),([]:Str),(0:Int),(0:Int)⟩:api_Cite) with Kind:=(4:Int)}:api_Cite)),(none:Tok)) (Si hm) ⟨.q rfl,.q rfl,.q rfl,.q rfl,trivial⟩ ⟨rfl,rfl,⟨rfl,rfl,⟨rfl,rfl,trivial⟩⟩⟩
      ·exact W.skip<|WN.meet (((0:Int),(⟨(0:Int),([]:List api_Step),([]:Str),(0:Int),(0:Int)⟩:api_Cite)),(none:Tok)) (Si hm) ⟨.q rfl,.q rfl,.q rfl,.q rfl,trivial⟩ ⟨rfl,rfl,⟨rfl,rfl,⟨rfl,rfl,trivial⟩⟩⟩
     ·exact Ap rfl hb115<|Ap rfl hb115<|Ap rfl hb115<|Ap rfl hb115<|Ao rfl (.pickF (.t rfl) hb115 .bool)<|An<|W.condF (.t rfl)<|W.skip<|WN.meet (((0:Int),(⟨(0:Int),([]:List api_Step),([]:Str),(0:Int),(0:Int)⟩:api_Cite)),(none:Tok)) (Si hm) ⟨.q rfl,.q rfl,.q rfl,.q rfl,trivial⟩ ⟨rfl,rfl,⟨rfl,rfl,⟨rfl,rfl,trivial⟩⟩⟩
   ·refine W.draw [.c _,.c _,.c (tB.is (decide ((2:Int)< (w.length:Int)))),.c (tB.is (decide ((2:Int)< (w.length:Int)))),.c _,.c _,.c _,.c _,.c (tB.is false),.c (tB.is false),.c _,.c _,.c _,.c _,.c (tB.is false),.c (tB.is false),.c _,.c _,.c _,.c _,.c _,.c _,.c (tB.is false)] [([],[0]),([0],[]),([1],[]),([2],[]),([3],[0]),([3,4],[]),([3,5],[]),([3,6],[]),([3,7],[]),([8],[]),([9],[0]),([9,10],[]),([9,11],[]),([9,12],[]),([9,13],[]),([14],[]),([15],[]),([15],[0]),([15,17],[]),([15,18],[]),([15,16,19],[]),([15,20],[]),([15,21],[])] Mx rfl rfl rfl rfl (by exact ⟨Dn (.move (.t rfl)),Dn (.lenL U55 (.t rfl)),Dn (.gtI (.t rfl) .i64),Dn (.move (.t rfl)),Dp rfl hb89,Dp rfl hb89,Dp rfl hb89,Dp rfl hb89,Dn (.pickF (.t rfl) hb89 .bool),Dn (.move (.t rfl)),Dp rfl rfl,Dp rfl rfl,Dp rfl rfl,Dp rfl rfl,Dn (.pickF (.t rfl) rfl .bool),Dn (.move (.t rfl)),Dp rfl rfl,Dp rfl rfl,Dp rfl rfl,Dp rfl rfl,Dp rfl rfl,Dp rfl rfl,Dn (.pickF (.t rfl) rfl .bool),trivial⟩)<|Aq<|W.condF (.t rfl)<|Aw<|Am rfl rfl<|Ao rfl (.lenL U55 (.t rfl))<|Ao rfl (.gtI (.t rfl) .i64)<|WL.mv rfl rfl ?_
    rcases iteD hm with ⟨hp121,hb120,hm⟩ | ⟨hp121,hb120,hm⟩
    ·refine Ax rfl hb120 (.move (.t rfl)) ?_
     obtain ⟨v26,hv122,hm⟩:=Bs hm
     refine Ax rfl hb120 (.idx hv122 U55 Z9 (.t rfl) .i64)<|Ax rfl hb120 (.load ty9 (.t rfl))<|Ax rfl hb120 (.eqS (.t rfl) (.str rfl (by decide)))<|Ao rfl (.pickT (.t rfl) hb120 (.t rfl))<|An<|W.cB hm (.t rfl) (fun hp124 hm=>?_) (fun hp124 hm=>?_)
     ·exact Aw<|Ao rfl (.fieldAddrB (o:=0) U52 rfl J3 (.t rfl) rfl)<|WL.opU (OpR.storeBF (b:=b1) 4 rfl ty3 (sapi_Cite_k1_0 (none:Tok)) rfl (show 0+1≤5 by decide) (.t rfl) .i64) fun _=>WL.nr1<|Ao rfl (.assign .i64)<|WL.nil<|WN.meet (((1:Int),({(⟨(0:Int),([]:List api_Step),([]:Str),(0:Int),(0:Int)⟩:api_Cite) with Kind:=(4:Int)}:api_Cite)),(none:Tok)) (Si hm) ⟨.q rfl,.q rfl,.q rfl,.q rfl,trivial⟩ ⟨rfl,rfl,⟨rfl,rfl,⟨rfl,rfl,trivial⟩⟩⟩
     ·exact W.skip<|WN.meet (((0:Int),(⟨(0:Int),([]:List api_Step),([]:Str),(0:Int),(0:Int)⟩:api_Cite)),(none:Tok)) (Si hm) ⟨.q rfl,.q rfl,.q rfl,.q rfl,trivial⟩ ⟨rfl,rfl,⟨rfl,rfl,⟨rfl,rfl,trivial⟩⟩⟩
    ·exact Ap rfl hb120<|Ap rfl hb120<|Ap rfl hb120<|Ap rfl hb120<|Ao rfl (.pickF (.t rfl) hb120 .bool)<|An<|W.condF (.t rfl)<|W.skip<|WN.meet (((0:Int),(⟨(0:Int),([]:List api_Step),([]:Str),(0:Int),(0:Int)⟩:api_Cite)),(none:Tok)) (Si hm) ⟨.q rfl,.q rfl,.q rfl,.q rfl,trivial⟩ ⟨rfl,rfl,⟨rfl,rfl,⟨rfl,rfl,trivial⟩⟩⟩
theorem r20_bare_spec(s0_:Str)(r:Str)(hm:M.r20_bare s0_=some r):FSpec Tryz.prog 53 [(tS.is s0_)] (tS.is r):=by
 unfold M.r20_bare at hm
 refine FSpec.of Tryz.func53 rfl rfl rfl fun g0=>Aw<|Ao rfl (.assign (.str rfl (by decide)))<|An<|W.seq<|Aw<|Am rfl rfl<|Ao rfl (.eqS (.t rfl) (.str rfl (by decide)))<|An<|W.cB hm (.t rfl) (fun hp2 hm=>?_) (fun hp2 hm=>?_)
 ·refine Aw<|Am rfl rfl<|Ag rfl rfl<|WL.ns ?_
  cases hm
  exact W.ret1 () rfl (.t rfl) trivial
 ·refine W.skip<|Aq<|Aw<|Am rfl rfl<|Am rfl rfl<|Ao rfl (.lenS U9 (.t rfl)) ?_
  obtain ⟨v,hv3,hm⟩:=Bs hm
  refine Ao rfl (.subC hv3 (.t rfl) .i64) ?_
  obtain ⟨b,hv4,hm⟩:=Bs hm
  refine Ao rfl (.sidx hv4 U9 (.t rfl) (.t rfl))<|Ag rfl rfl<|An<|W.seq<|Aw<|Am rfl rfl<|Ao rfl (.eqI (.t rfl) (.int (inR8.2 (by omega))))<|WL.mv rfl rfl ?_
  rcases iteD hm with ⟨hp6,hb5,hm⟩ | ⟨hp6,hb5,hm⟩
  ·refine Ap rfl hb5<|Ap rfl hb5<|Ao rfl (.pickT (.t rfl) hb5 .bool)<|Am rfl rfl<|Ap rfl rfl<|Ap rfl rfl<|Ao rfl (.pickT (.t rfl) rfl .bool)<|Am rfl rfl<|Ap rfl rfl<|Ap rfl rfl<|Ao rfl (.pickT (.t rfl) rfl .bool)<|Am rfl rfl<|Ap rfl rfl<|Ap rfl rfl<|Ao rfl (.pickT (.t rfl) rfl .bool)<|WL.ns ?_
   refine W.condT (.t rfl)<|Aw<|Am rfl rfl<|Am rfl rfl<|Ao rfl (.lenS U9 (.t rfl)) ?_
   obtain ⟨v1,hv7,hm⟩:=Bs hm
   refine Ao rfl (.subC hv7 (.t rfl) .i64) ?_
   obtain ⟨v2,hv8,hm⟩:=Bs hm
   refine Ao rfl (.sslcHi hv8 U9 (.t rfl) (.t rfl))<|Ag rfl rfl<|WL.ns ?_
   cases hm
   exact W.ret1 () rfl (.t rfl) trivial
  ·refine Ax rfl hb5 (.move (.t rfl))<|Ax rfl hb5 (.eqI (.t rfl) (.int (inR8.2 (by omega))))<|Ao rfl (.pickF (.t rfl) hb5 (.t rfl))<|WL.mv rfl rfl ?_
   rcases iteD hm with ⟨hp10,hb9,hm⟩ | ⟨hp10,hb9,hm⟩
   ·refine Ap rfl hb9<|Ap rfl hb9<|Ao rfl (.pickT (.t rfl) hb9 .bool)<|Am rfl rfl<|Ap rfl rfl<|Ap rfl rfl<|Ao rfl (.pickT (.t rfl) rfl .bool)<|Am rfl rfl<|Ap rfl rfl<|Ap rfl rfl<|Ao rfl (.pickT (.t rfl) rfl .bool)<|An<|W.condT (.t rfl)<|Aw<|Am rfl rfl<|WL.mv rfl rfl ?_
    refine Ao rfl (.lenS U9 (.t rfl)) ?_
    obtain ⟨v3,hv11,hm⟩:=Bs hm
    refine Ao rfl (.subC hv11 (.t rfl) .i64) ?_
    obtain ⟨v4,hv12,hm⟩:=Bs hm
    refine Ao rfl (.sslcHi hv12 U9 (.t rfl) (.t rfl))<|Ag rfl rfl<|WL.ns ?_
    cases hm
    exact W.ret1 () rfl (.t rfl) trivial
   ·refine Ax rfl hb9 (.move (.t rfl))<|Ax rfl hb9 (.eqI (.t rfl) (.int (inR8.2 (by omega))))<|Ao rfl (.pickF (.t rfl) hb9 (.t rfl))<|WL.mv rfl rfl ?_
    rcases iteD hm with ⟨hp14,hb13,hm⟩ | ⟨hp14,hb13,hm⟩
    ·refine Ap rfl hb13<|Ap rfl hb13<|Ao rfl (.pickT (.t rfl) hb13 .bool)<|Am rfl rfl<|Ap rfl rfl<|Ap rfl rfl<|Ao rfl (.pickT (.t rfl) rfl .bool)<|An<|W.condT (.t rfl)<|Aw<|Am rfl rfl<|Am rfl rfl<|Ao rfl (.lenS U9 (.t rfl)) ?_
     obtain ⟨v5,hv15,hm⟩:=Bs hm
     refine Ao rfl (.subC hv15 (.t rfl) .i64) ?_
     obtain ⟨v6,hv16,hm⟩:=Bs hm
     refine Ao rfl (.sslcHi hv16 U9 (.t rfl) (.t rfl))<|Ag rfl rfl<|WL.ns ?_
     cases hm
     exact W.ret1 () rfl (.t rfl) trivial
    ·refine Ax rfl hb13 (.move (.t rfl))<|Ax rfl hb13 (.eqI (.t rfl) (.int (inR8.2 (by omega))))<|Ao rfl (.pickF (.t rfl) hb13 (.t rfl))<|WL.mv rfl rfl ?_
     rcases iteD hm with ⟨hp18,hb17,hm⟩ | ⟨hp18,hb17,hm⟩
     ·refine Ap rfl hb17<|Ap rfl hb17<|Ao rfl (.pickT (.t rfl) hb17 .bool)<|An<|W.condT (.t rfl)<|Aw<|Am rfl rfl<|Am rfl rfl<|Ao rfl (.lenS U9 (.t rfl)) ?_
      obtain ⟨v7,hv19,hm⟩:=Bs hm
      refine Ao rfl (.subC hv19 (.t rfl) .i64) ?_
      obtain ⟨v8,hv20,hm⟩:=Bs hm
      refine Ao rfl (.sslcHi hv20 U9 (.t rfl) (.t rfl))<|Ag rfl rfl<|WL.ns ?_
      cases hm
      exact W.ret1 () rfl (.t rfl) trivial
     ·refine Ax rfl hb17 (.move (.t rfl))<|Ax rfl hb17 (.eqI (.t rfl) (.int (inR8.2 (by omega))))<|Ao rfl (.pickF (.t rfl) hb17 (.t rfl))<|An<|W.cD hm (.t rfl) (fun hp22 hm=>?_) (fun hp22 hm=>?_)
      ·refine Aw<|Am rfl rfl<|Am rfl rfl<|Ao rfl (.lenS U9 (.t rfl)) ?_
       obtain ⟨v9,hv23,hm⟩:=Bs hm
       refine Ao rfl (.subC hv23 (.t rfl) .i64) ?_
       obtain ⟨v10,hv24,hm⟩:=Bs hm
       refine Ao rfl (.sslcHi hv24 U9 (.t rfl) (.t rfl))<|Ag rfl rfl<|WL.ns ?_
       cases hm
       exact W.ret1 () rfl (.t rfl) trivial
      ·refine W.skip<|Aq<|Aw<|Am rfl rfl<|Ag rfl rfl<|WL.ns ?_
       cases hm
       exact W.ret1 () rfl (.t rfl) trivial
theorem r20_at_spec(n:Nat)(l:List Str)(from0_:Int)(r:api_Cite×Bool)(hm:M.r20_at n l from0_=some r):FSpec Tryz.prog 30 [((tL tS).is l),(I6.is from0_)] (Asn.tuple2 (tapi_Cite.is r.1) (tB.is r.2)):=by
 unfold M.r20_at at hm
 refine FSpec.of Tryz.func30 rfl rfl rfl fun g0=>Aw<|WL.opR rfl (OpR.alloc 4 ze52) fun b=>Ao rfl (.assign .bool)<|An<|W.seq<|Aw<|Am rfl rfl<|Ao rfl (.lenL U55 (.t rfl))<|Ag rfl rfl<|An<|W.block ?_
 obtain ⟨s1,hs2,hk3⟩:=Bs hm
 clear hm
 refine W.loop (fun m (s:Int×api_Cite)=>M.r20_at_loop1 l from0_ m s.1 s.2=some s1) (fun s=>[(6,(I6.is s.1)),(0,((tL tS).is l)),(1,(I6.is from0_)),(4,(Bp b 0))]) (fun s=>[(4,(Bx 5 true 52 (tapi_Cite.is s.2) b))]) _ ((l.length:Int),zapi_Cite) hs2 ⟨.q rfl,.q rfl,.q rfl,.q rfl,trivial⟩ ⟨rfl,rfl,trivial⟩ ?_
 rintro n4 ⟨end0_,v⟩ hm
 try dsimp only at hm
 change W _ _ _ _ _ _ _ [(6,(I6.is end0_)),(0,((tL tS).is l)),(1,(I6.is from0_)),(4,(Bp b 0))] [(4,(Bx 5 true 52 (tapi_Cite.is v) b))]
 cases n4 with
 | zero=>rw [M.r20_at_loop1.eq_1] at hm;cases hm
 | succ n4=>
  rw [M.r20_at_loop1.eq_2] at hm
  refine W.seq<|Aw<|Am rfl rfl<|Am rfl rfl<|Ao rfl (.gtI (.t rfl) (.t rfl))<|An<|W.cD hm (.t rfl) (fun hp6 hm=>?_) (fun hp6 hm=>?_)
  ·refine W.skip<|Aq<|W.seq<|W.block<|W.seq<|Aw<|Am rfl rfl<|WL.mv rfl rfl ?_
   obtain ⟨v1,hv7,hm⟩:=Bs hm
   refine Ao rfl (.subC hv7 (.t rfl) (.t rfl))<|Ao rfl (.gtI (.t rfl) .i64)<|An<|W.cD hm (.t rfl) (fun hp9 hm=>?_) (fun hp9 hm=>?_)
   ·refine W.exit rfl<|Aq<|W.region<|WL.mv rfl rfl ?_
    obtain ⟨v2,hv10,hm⟩:=Bs hm
    exact Ao rfl (.subC hv10 (.t rfl) .i64)<|Ag rfl rfl<|WL.nil<|WN.again n4 (v2,v) (Nat.lt_succ_self n4) hm ⟨.q rfl,.q rfl,.q rfl,.q rfl,trivial⟩ ⟨rfl,rfl,trivial⟩
   ·refine W.skip<|Aq<|Aw<|WL.opR rfl (OpR.buildSlice (n:=0) (ys:=[]) (z:=([]:Str)) (xs:=([]:List Str)) 21 U55 el9 ze9 trivial (by simp) (by decide) rfl) fun k=>WL.freeU (t:=tS) (E:=9) 21 21 rfl rfl<|Am rfl rfl<|Am rfl rfl<|WL.mv rfl rfl ?_
    obtain ⟨v3,hv11,hm⟩:=Bs hm
    refine Ao rfl (.slc hv11 U55 Z9 (.t rfl) (.t rfl) (.t rfl)) ?_
    obtain ⟨out,hv12,hm⟩:=Bs hm
    refine WL.opR rfl (OpR.appendU (key:=21) fl9 hv12 U55 el9 rfl (.t rfl) rfl) fun k1=>Ag rfl rfl<|Ar<|WL.mv rfl rfl ?_
    obtain ⟨read,hv13,hm⟩:=Bs hm
    rcases bcases (read.2) with hq15 | hq15
    ·rw [if_neg (by rw [hq15];exact Bool.noConfusion)] at hm
     refine WL.fixU 28 21 rfl rfl<|WL.sameU 28 26 rfl rfl<|WL.sameU 28 7 rfl rfl<|WL.op (A:=(Asn.tuple2 (tapi_Cite.is read.1) (tB.is true))) rfl (Op1.weak (A:=(Asn.tuple2 (tapi_Cite.is read.1) (tB.is read.2))) (by exact Op1.call C52 (r20_Read_spec _ _ _ hv13) ⟨(Opd.own (.t rfl)),trivial⟩) (fun _ _ ⟨x,y,e,h1,h2⟩=>⟨x,y,e,h1,hq15▸h2⟩))<|Am rfl rfl<|Ao rfl (.extract0 (.t rfl))<|Ao rfl (.extract1 (.t rfl))<|WL.opR rfl (OpR.alloc 8 ze52) fun b2=>WL.opU (OpR.storeB (b:=b2) 8 Z52 (Cellable.is tapi_Cite read.1) rfl (.t rfl) (.t rfl)) fun _=>Ag rfl rfl<|WL.ns ?_
     obtain ⟨s31,hs32,hk33⟩:=Bs hm
     clear hm
     refine W.join (fun s:Bool×api_Cite=>s=s31) (fun s=>[(9,(tB.is s.1)),(0,((tL tS).is l)),(1,(I6.is from0_)),(4,(Bp b 0)),(6,(I6.is end0_)),(8,(Bp b2 0))]) (fun s=>[(8,(Bx 5 true 52 (tapi_Cite.is s.2) b2)),(4,(Bx 5 true 52 (tapi_Cite.is v) b))]) ?_ ?_
     ·rintro ⟨ok1,c1⟩ hj38
      try dsimp only at hj38
      subst hj38
      have hm:=hk33
      clear hk33
      try dsimp only at hm
      change W _ _ _ _ _ _ _ [(9,(tB.is ok1)),(0,((tL tS).is l)),(1,(I6.is from0_)),(4,(Bp b 0)),(6,(I6.is end0_)),(8,(Bp b2 0))] [(8,(Bx 5 true 52 (tapi_Cite.is c1) b2)),(4,(Bx 5 true 52 (tapi_Cite.is v) b))]
      refine Aw<|Am rfl rfl<|An<|W.cB hm (.t rfl) (fun hp35 hm=>?_) (fun hp35 hm=>?_)
      ·refine Aw<|Am rfl rfl<|Ao rfl (.fieldAddrB (o:=0) U52 rfl J3 (.t rfl) rfl)<|WL.opU (OpR.storeBF (b:=b2) 8 rfl ty3 sapi_Cite_3 rfl (by decide) (.t rfl) (.t rfl)) fun _=>Ar<|Am rfl rfl<|Ao rfl (.fieldAddrB (o:=0) U52 rfl J3 (.t rfl) rfl)<|WL.opU (OpR.storeBF (b:=b2) 8 rfl ty3 sapi_Cite_4 rfl (by decide) (.t rfl) (.t rfl)) fun _=>Ar<|Ao rfl (.loadB 8 Y52 Z52 rfl (.t rfl))<|WL.opU (OpR.storeB (b:=b) 4 Z52 (Cellable.is tapi_Cite ({({c1 with From:=from0_}:api_Cite) with At:=end0_}:api_Cite)) rfl (.t rfl) (.t rfl)) fun _=>Ao rfl (.assign .bool)<|WL.ns ?_
       have hr36:=Si hm
       clear hm
       subst hr36
       have hm:=hk3
       try dsimp only at hm
       cases hm
       exact W.retQ2 () rfl rfl (ResAt.cell 4 Y52 Z52 rfl (.t rfl)) (ResAt.tmp (.t rfl)) trivial
      ·refine W.skip<|WN.block<|Aq<|W.region<|WL.mv rfl rfl ?_
       obtain ⟨v9,hv37,hm⟩:=Bs hm
       exact Ao rfl (.subC hv37 (.t rfl) .i64)<|Ag rfl rfl<|WL.nil<|WN.again n4 (v9,v) (Nat.lt_succ_self n4) hm ⟨.q rfl,.q rfl,.q rfl,.q rfl,trivial⟩ ⟨rfl,rfl,trivial⟩
     ·have hm:=hs32
      clear hs32
      exact Aw<|Am rfl rfl<|Ao rfl (.notB (.t rfl))<|An<|W.condF (.t rfl)<|W.skip<|WN.meet (true,read.1) (Si hm) ⟨.q rfl,.q rfl,.q rfl,.q rfl,.q rfl,.q rfl,trivial⟩ ⟨rfl,rfl,⟨rfl,rfl,trivial⟩⟩
    ·rw [if_pos hq15] at hm
     refine WL.opR rfl (OpR.callTmp (key:=21) (n:=28) (A':=(Asn.tuple2 (shA 5 true) (tB.is false))) fl9 C52 (r20_Read_spec _ _ _ hv13) (fun _ _ ⟨x,y,e,h1,h2⟩=>⟨x,y,e,shA.of (Cellable.is _ _) h1,hq15▸h2⟩) (fun _ _ _ h=>h) rfl rfl (by exact ⟨(Opd.own (.t rfl)),trivial⟩)) fun _=>Am rfl rfl<|Ao rfl (.extract0 (.t rfl))<|Ao rfl (.extract1 (.t rfl))<|WL.opR rfl (OpR.alloc 8 ze52) fun b1=>WL.opU (OpR.storeB (b:=b1) 8 Z52 (Cellable.sh _ _) rfl (.t rfl) (.t rfl)) fun _=>Ag rfl rfl<|WL.ns ?_
     obtain ⟨s16,hs17,hk18⟩:=Bs hm
     clear hm
     refine W.join (fun s:Bool×api_Cite=>s=s16) (fun s=>[(9,(tB.is s.1)),(0,((tL tS).is l)),(1,(I6.is from0_)),(4,(Bp b 0)),(6,(I6.is end0_)),(8,(Bp b1 0))]) (fun s=>[(8,(Bx 5 true 52 (tapi_Cite.is s.2) b1)),(4,(Bx 5 true 52 (tapi_Cite.is v) b))]) ?_ ?_
     ·rintro ⟨ok,c⟩ hj30
      try dsimp only at hj30
      subst hj30
      have hm:=hk18
      clear hk18
      try dsimp only at hm
      change W _ _ _ _ _ _ _ [(9,(tB.is ok)),(0,((tL tS).is l)),(1,(I6.is from0_)),(4,(Bp b 0)),(6,(I6.is end0_)),(8,(Bp b1 0))] [(8,(Bx 5 true 52 (tapi_Cite.is c) b1)),(4,(Bx 5 true 52 (tapi_Cite.is v) b))]
      refine Aw<|Am rfl rfl<|An<|W.cB hm (.t rfl) (fun hp27 hm=>?_) (fun hp27 hm=>?_)
      ·refine Aw<|Am rfl rfl<|Ao rfl (.fieldAddrB (o:=0) U52 rfl J3 (.t rfl) rfl)<|WL.opU (OpR.storeBF (b:=b1) 8 rfl ty3 sapi_Cite_3 rfl (by decide) (.t rfl) (.t rfl)) fun _=>Ar<|Am rfl rfl<|Ao rfl (.fieldAddrB (o:=0) U52 rfl J3 (.t rfl) rfl)<|WL.opU (OpR.storeBF (b:=b1) 8 rfl ty3 sapi_Cite_4 rfl (by decide) (.t rfl) (.t rfl)) fun _=>Ar<|Ao rfl (.loadB 8 Y52 Z52 rfl (.t rfl))<|WL.opU (OpR.storeB (b:=b) 4 Z52 (Cellable.is tapi_Cite ({({c with From:=from0_}:api_Cite) with At:=end0_}:api_Cite)) rfl (.t rfl) (.t rfl)) fun _=>Ao rfl (.assign .bool)<|WL.ns ?_
       have hr28:=Si hm
       clear hm
       subst hr28
       have hm:=hk3
       try dsimp only at hm
       cases hm
       exact W.retQ2 () rfl rfl (ResAt.cell 4 Y52 Z52 rfl (.t rfl)) (ResAt.tmp (.t rfl)) trivial
      ·refine W.skip<|WN.block<|Aq<|W.region<|WL.mv rfl rfl ?_
       obtain ⟨v8,hv29,hm⟩:=Bs hm
       exact Ao rfl (.subC hv29 (.t rfl) .i64)<|Ag rfl rfl<|WL.nil<|WN.again n4 (v8,v) (Nat.lt_succ_self n4) hm ⟨.q rfl,.q rfl,.q rfl,.q rfl,trivial⟩ ⟨rfl,rfl,trivial⟩
     ·have hm:=hs17
      clear hs17
      refine Aw<|Am rfl rfl<|Ao rfl (.notB (.t rfl))<|An<|W.condT (.t rfl)<|Aw<|Am rfl rfl<|Am rfl rfl<|Ao rfl (.lenU U55 (.t rfl)) ?_
      obtain ⟨v4,hv19,hm⟩:=Bs hm
      refine Ao rfl (.subC hv19 (.t rfl) .i64)<|Am rfl rfl<|Am rfl rfl<|Ao rfl (.lenU U55 (.t rfl)) ?_
      obtain ⟨v5,hv20,hm⟩:=Bs hm
      refine Ao rfl (.subC hv20 (.t rfl) .i64) ?_
      obtain ⟨v6,hv21,hm⟩:=Bs hm
      refine Ao rfl (.idxU (t:=tS) hv21 U55 Z9 (.t rfl) (.t rfl))<|Ao rfl (.loadU 21 hv21 ty9 rfl (.t rfl)) ?_
      obtain ⟨bare,hv22,hm⟩:=Bs hm
      refine Ao rfl (.call C53 (r20_bare_spec _ _ hv22) ⟨(.t rfl),trivial⟩) ?_
      obtain ⟨v7,hv23,hm⟩:=Bs hm
      refine Ao rfl (.idxU (t:=tS) hv23 U55 Z9 (.t rfl) (.t rfl)) ?_
      obtain ⟨w,hv24,hm⟩:=Bs hm
      refine WL.opU (OpR.storeU (key:=21) hv24 ty9 (.t rfl) (.t rfl) rfl) fun _=>WL.nil<|WN.lenU 7 (setC_len hv24) rfl<|WN.lenU 26 (setC_len hv24) rfl<|WN.lenU 28 (setC_len hv24) rfl<|WN.lenU 34 (setC_len hv24) rfl<|WN.lenU 35 (setC_len hv24) rfl<|WN.lenU 38 (setC_len hv24) rfl<|WN.lenU 39 (setC_len hv24) rfl<|Aq<|W.region<|WL.mv rfl rfl ?_
      obtain ⟨read1,hv25,hm⟩:=Bs hm
      exact WL.fixU 47 21 rfl rfl<|WL.sameU 47 26 rfl rfl<|WL.sameU 47 7 rfl rfl<|WL.sameU 47 28 rfl rfl<|WL.sameU 47 34 rfl rfl<|WL.sameU 47 35 rfl rfl<|WL.sameU 47 38 rfl rfl<|WL.sameU 47 39 rfl rfl<|Ao rfl (.call C52 (r20_Read_spec _ _ _ hv25) ⟨(Opd.own (.t rfl)),trivial⟩)<|Am rfl rfl<|Ao rfl (.extract0 (.t rfl))<|Ao rfl (.extract1 (.t rfl))<|WL.opU (OpR.storeB (b:=b1) 8 Z52 (Cellable.is tapi_Cite read1.1) rfl (.t rfl) (.t rfl)) fun _=>Ag rfl rfl<|WL.nil<|WN.meet (read1.2,read1.1) (Si hm) ⟨.q rfl,.q rfl,.q rfl,.q rfl,.q rfl,.q rfl,trivial⟩ ⟨rfl,rfl,⟨rfl,rfl,trivial⟩⟩
  ·refine W.exit rfl ?_
   have hr39:=Si hm
   clear hm
   subst hr39
   have hm:=hk3
   try dsimp only at hm
   refine Aq<|Aw<|Ao rfl (.build (s:=tapi_Cite) (x:=(⟨(0:Int),([]:List api_Step),([]:Str),(0:Int),(0:Int)⟩:api_Cite)) zapi_Cite_f rfl U52 (zapi_Cite_sz _ U52) ze52 rfl)<|WL.opU (OpR.storeB (b:=b) 4 Z52 (Cellable.is tapi_Cite (⟨(0:Int),([]:List api_Step),([]:Str),(0:Int),(0:Int)⟩:api_Cite)) rfl (.t rfl) (.t rfl)) fun _=>Ao rfl (.assign .bool)<|WL.ns ?_
   cases hm
   exact W.retQ2 () rfl rfl (ResAt.cell 4 Y52 Z52 rfl (.t rfl)) (ResAt.tmp (.t rfl)) trivial
theorem r20_Scan_spec(n:Nat)(l:List Str)(r:(List api_Cite))(hm:M.r20_Scan n l=some r):FSpec Tryz.prog 18 [((tL tS).is l)] ((tL tapi_Cite).is r):=by
 unfold M.r20_Scan at hm
 refine FSpec.of Tryz.func18 rfl rfl rfl fun g0=>Aw<|Ao rfl (.assign (.nil (t:=tapi_Cite)))<|Ar<|WL.opR rfl (OpR.buildSlice (n:=0) (ys:=[]) (z:=zapi_Cite) (xs:=([]:List api_Cite)) 7 U56 el52 ze52 trivial (by simp) (by decide) rfl) fun k=>Ag rfl rfl<|Ar<|Ao rfl (.assign .i64)<|An<|W.seq<|W.block ?_
 obtain ⟨s1,hs2,hk3⟩:=Bs hm
 clear hm
 refine W.loop (fun m (s:((List api_Cite)×Int)×Tok)=>M.r20_Scan_loop1 l m s.1.1 s.1.2=some s1) (fun s=>[(3,(tO tapi_Cite s.2 s.1.1)),(4,(I6.is s.1.2)),(0,((tL tS).is l))]) (fun s=>[(7,Dec.Own tapi_Cite 52 s.2 s.1.1.length)]) _ ((([]:List api_Cite),(0:Int)),k) hs2 ⟨.q rfl,.q rfl,.q rfl,trivial⟩ ⟨rfl,rfl,trivial⟩ ?_
 rintro n4 ⟨⟨out,i⟩,k1⟩ hm
 try dsimp only at hm
 change W _ _ _ _ _ _ _ [(3,(tO tapi_Cite k1 out)),(4,(I6.is i)),(0,((tL tS).is l))] [(7,Dec.Own tapi_Cite 52 k1 out.length)]
 cases n4 with
 | zero=>rw [M.r20_Scan_loop1.eq_1] at hm;cases hm
 | succ n4=>
  rw [M.r20_Scan_loop1.eq_2] at hm
  refine W.seq<|Aw<|Am rfl rfl<|Am rfl rfl<|Ao rfl (.lenL U55 (.t rfl))<|Ao rfl (.ltI (.t rfl) (.t rfl))<|An<|W.cD hm (.t rfl) (fun hp6 hm=>?_) (fun hp6 hm=>?_)
  ·refine W.skip<|Aq<|W.block<|Aw<|Am rfl rfl<|WL.mv rfl rfl ?_
   obtain ⟨at0_,hv7,hm⟩:=Bs hm
   refine Ao rfl (.call C30 (r20_at_spec _ _ _ _ hv7) ⟨(.t rfl),(.t rfl),trivial⟩)<|Am rfl rfl<|Ao rfl (.extract0 (.t rfl))<|Ao rfl (.extract1 (.t rfl))<|WL.opR rfl (OpR.alloc 5 ze52) fun b=>WL.opU (OpR.storeB (b:=b) 5 Z52 (Cellable.is tapi_Cite at0_.1) rfl (.t rfl) (.t rfl)) fun _=>WL.sealed (t:=tapi_Cite) (u:=at0_.1) 5 5 rfl rfl<|Ag rfl rfl<|Ar<|Am rfl rfl<|An<|W.cB hm (.t rfl) (fun hp9 hm=>?_) (fun hp9 hm=>?_)
   ·refine Aw<|Am rfl rfl<|Ao rfl (.load ty52 (.t rfl))<|Ao rfl (.buildSlice (n:=1) (ys:=[(0,at0_.1)]) (z:=zapi_Cite) (xs:=[at0_.1]) U56 el52 ze52 ⟨rfl,(.t rfl),trivial⟩ (by simp) (by decide) rfl) ?_
    obtain ⟨out1,hv10,hm⟩:=Bs hm
    exact WL.opR rfl (OpR.appC (key:=7) hv10 U56 el52 (.t rfl) (.t rfl) rfl) fun k2=>Ag rfl rfl<|WL.nr1<|Ao rfl (.fieldAddr U52 rfl J3 fapi_Cite_4 (.t rfl))<|Ao rfl (.load ty3 (.t rfl))<|Ag rfl rfl<|WL.nil<|WN.block<|WN.again n4 ((out1,at0_.1.At),k2) (Nat.lt_succ_self n4) hm ⟨.q rfl,.q rfl,.q rfl,trivial⟩ ⟨rfl,rfl,trivial⟩
   ·exact W.region<|Am rfl rfl<|WL.lenL (s:=0) (.t rfl) fun hl11=>Ao rfl (.addI1 (.t rfl) .i64 hp6 hl11)<|Ag rfl rfl<|WL.nil<|WN.block<|WN.again n4 ((out,i+1),k1) (Nat.lt_succ_self n4) hm ⟨.q rfl,.q rfl,.q rfl,trivial⟩ ⟨rfl,rfl,trivial⟩
  ·refine W.exit rfl ?_
   have hr12:=Si hm
   clear hm
   subst hr12
   have hm:=hk3
   try dsimp only at hm
   refine Aq<|Aw<|Am rfl rfl<|Ag rfl rfl<|WL.ns ?_
   cases hm
   exact W.ret1 () rfl (Opd.own (.t rfl)) trivial
theorem r23_Get_spec:∀ (n:Nat) (u:api_Unit) (id:api_Id) (r:api_Unit×Int),M.r23_Get n u id=some r→FSpec Tryz.prog 34 [(tapi_Unit.is u),(tapi_Id.is id)] (Asn.tuple2 (tapi_Unit.is r.1) (I6.is r.2)):=by
 intro n
 induction n with
 | zero=>intro u id r hm;cases hm
 | succ n ih=>
  intro u id r hm
  rw [M.r23_Get.eq_2] at hm
  refine FSpec.of Tryz.func34 rfl rfl rfl fun g0=>Aw<|Ao rfl (.box (.t rfl))<|Ao rfl (.box (.t rfl))<|WL.opR rfl (OpR.alloc 4 ze27) fun b=>Ao rfl (.assign .i64)<|An<|W.seq<|Aw<|Ao rfl (.fieldAddr U27 rfl J23 fapi_Unit_0 (.t rfl))<|Ao rfl (.load ty23 (.t rfl))<|Ao rfl (.load ty23 (.t rfl))<|Ao rfl (.eqSt (D:=2) rfl (by decide) eg23 eq23 (.t rfl) (.t rfl))<|An<|W.cD hm (.t rfl) (fun hp2 hm=>?_) (fun hp2 hm=>?_)
  ·refine Aw<|Ao rfl (.load ty27 (.t rfl))<|WL.opU (OpR.storeB (b:=b) 4 Z27 (Cellable.is tapi_Unit u) rfl (.t rfl) (.t rfl)) fun _=>Ao rfl (.assign .i64)<|WL.ns ?_
   cases hm
   exact W.retQ2 () rfl rfl (ResAt.cell 4 Y27 Z27 rfl (.t rfl)) (ResAt.tmp (.t rfl)) trivial
  ·refine W.skip<|Aq<|W.seq<|Aw<|Ao rfl (.assign .i64)<|An<|W.block ?_
   obtain ⟨s3,hs4,hk5⟩:=Bs hm
   clear hm
   refine W.loop (fun m (s:Int×api_Unit)=>M.r23_Get_loop1 u id (M.r23_Get n) m s.1 s.2=some s3) (fun s=>[(6,(I6.is s.1)),(2,(tapi_Unit.ptr u)),(3,(tapi_Id.ptr id)),(4,(Bp b 0))]) (fun s=>[(4,(Bx 8 true 27 (tapi_Unit.is s.2) b))]) _ ((0:Int),zapi_Unit) hs4 ⟨.q rfl,.q rfl,.q rfl,.q rfl,trivial⟩ ⟨rfl,rfl,trivial⟩ ?_
   rintro n6 ⟨i,v⟩ hm
   try dsimp only at hm
   change W _ _ _ _ _ _ _ [(6,(I6.is i)),(2,(tapi_Unit.ptr u)),(3,(tapi_Id.ptr id)),(4,(Bp b 0))] [(4,(Bx 8 true 27 (tapi_Unit.is v) b))]
   cases n6 with
   | zero=>rw [M.r23_Get_loop1.eq_1] at hm;cases hm
   | succ n6=>
    rw [M.r23_Get_loop1.eq_2] at hm
    refine W.seq<|Aw<|Am rfl rfl<|Ao rfl (.fieldAddr U27 rfl J25 fapi_Unit_5 (.t rfl))<|Ao rfl (.load ty25 (.t rfl))<|Ao rfl (.lenL U25 (.t rfl))<|Ao rfl (.ltI (.t rfl) (.t rfl))<|An<|W.cD hm (.t rfl) (fun hp8 hm=>?_) (fun hp8 hm=>?_)
    ·refine W.skip<|Aq<|W.seq<|W.block<|W.seq ?_
     obtain ⟨v1,hv9,hm⟩:=Bs hm
     obtain ⟨get,hv10,hm⟩:=Bs hm
     refine W.weakR (res':=[(4,(Bx 8 true 27 (tapi_Unit.is v) b))]) ⟨rfl,rfl,trivial⟩<|W.drawM [.c ((tL tapi_Unit).ptr u.Kids),.c ((tL tapi_Unit).is u.Kids),.c (I6.is i),.c (tapi_Unit.ptr v1),.c (tapi_Unit.is v1),.c (tapi_Id.is id),.c (Asn.tuple2 (tapi_Unit.is get.1) (I6.is get.2)),.c (Asn.tuple2 (tapi_Unit.is get.1) (I6.is get.2)),.c (tapi_Unit.is get.1),.c (I6.is get.2),.f (fun cv=>(Bp (bk (cv 0)) 0)),.c Asn.any,.c (I6.is get.2)] [([],[2]),([0],[]),([],[6]),([1,2],[]),([3],[]),([],[3]),([4,5],[]),([6],[]),([7],[]),([7],[]),([],[]),([8,10],[]),([9],[])] [10,11] [[],[],[],[],[],[],[],[],[],[],[true],[],[]] (fun m cv=>match m with | 0=>[(4,(Bx 8 true 27 (tapi_Unit.is v) b))] | 1=>[(7,(Bx 8 true 27 (tapi_Unit.is zapi_Unit) (bk (cv 0)))),(4,(Bx 8 true 27 (tapi_Unit.is v) b))] | _=>[(7,(Bx 8 true 27 (tapi_Unit.is get.1) (bk (cv 0)))),(4,(Bx 8 true 27 (tapi_Unit.is v) b))]) (fun _=>none) Mx rfl rfl rfl rfl rfl ⟨fun _ _ _ _=>rfl,⟨fun _ _ _ _=>rfl,⟨fun _ _ _ _=>rfl,⟨fun _ _ _ _=>rfl,⟨fun _ _ _ _=>rfl,⟨fun _ _ _ _=>rfl,⟨fun _ _ _ _=>rfl,⟨fun _ _ _ _=>rfl,⟨fun _ _ _ _=>rfl,⟨fun _ _ _ _=>rfl,⟨fun m hm c t=>by simp only [DA.at,upd_dep (r:=[true]) (j:=0) rfl hm],⟨fun _ _ _ _=>rfl,⟨fun _ _ _ _=>rfl,trivial⟩⟩⟩⟩⟩⟩⟩⟩⟩⟩⟩⟩⟩ rfl ⟨mo fun cv=>Op1.fieldAddr U27 rfl J25 fapi_Unit_5 (.t rfl),⟨mo fun cv=>Op1.load ty25 (.t rfl),⟨mo fun cv=>Op1.move (.t rfl),⟨mo fun cv=>Op1.idx hv9 U25 Z27 (.t rfl) (.t rfl),⟨mo fun cv=>Op1.load ty27 (.t rfl),⟨mo fun cv=>Op1.load ty23 (.t rfl),⟨mo fun cv=>Op1.call C34 (ih _ _ _ hv10) ⟨(.t rfl),(.t rfl),trivial⟩,⟨mo fun cv=>Op1.move (.t rfl),⟨mo fun cv=>Op1.extract0 (.t rfl),⟨mo fun cv=>Op1.extract1 (.t rfl),⟨.inl rfl,⟨.inl rfl,⟨mo fun cv=>Op1.assign (.t rfl),trivial⟩⟩⟩⟩⟩⟩⟩⟩⟩⟩⟩⟩⟩ ⟨⟨_,_,_,[],(fun cv=>[(7,(Bx 8 true 27 (tapi_Unit.is zapi_Unit) (bk (cv 0))))]),rfl,rfl,rfl,rfl,fun _=>rfl,fun _ _=>rfl,fun cv=>OpR.viaB (OpR.alloc 7 ze27)⟩,⟨⟨_,_,_,[7],(fun cv=>[(7,(Bx 8 true 27 (tapi_Unit.is get.1) (bk (cv 0))))]),rfl,rfl,rfl,rfl,fun _=>rfl,fun _ _=>rfl,fun cv=>OpR.viaU (OpR.storeB (b:=(bk (cv 0))) 7 Z27 (Cellable.is tapi_Unit get.1) rfl (.t rfl) (.t rfl))⟩,trivial⟩⟩ fun cv=>Aq<|Aw<|Am rfl rfl<|Ao rfl (.geI (.t rfl) .i64)<|An<|W.cD hm (.t rfl) (fun hp12 hm=>?_) (fun hp12 hm=>?_)
     ·refine Aw<|Ao rfl (.loadB 7 Y27 Z27 rfl (.t rfl))<|WL.mv rfl rfl ?_
      obtain ⟨v2,hv13,hm⟩:=Bs hm
      refine Ao rfl (.addC hv13 (.t rfl) .i64)<|WL.opU (OpR.storeB (b:=b) 4 Z27 (Cellable.is tapi_Unit get.1) rfl (.t rfl) (.t rfl)) fun _=>Ag rfl rfl<|WL.ns ?_
      have hr14:=Si hm
      clear hm
      subst hr14
      have hm:=hk5
      try dsimp only at hm
      cases hm
      exact W.retQ2 () rfl rfl (ResAt.cell 4 Y27 Z27 rfl (.t rfl)) (ResAt.tmp (.t rfl)) trivial
     ·exact W.skip<|WN.block<|Aq<|W.region<|Am rfl rfl<|WL.lenL (s:=16) (.t rfl) fun hl15=>Ao rfl (.addI1 (.t rfl) .i64 hp8 hl15)<|Ag rfl rfl<|WL.nil<|WN.again n6 (i+1,v) (Nat.lt_succ_self n6) hm ⟨.q rfl,.q rfl,.q rfl,.q rfl,trivial⟩ ⟨rfl,rfl,trivial⟩
    ·refine W.exit rfl ?_
     have hr16:=Si hm
     clear hm
     subst hr16
     have hm:=hk5
     try dsimp only at hm
     refine Aq<|Aw<|Ao rfl (.build (s:=tapi_Unit) (x:=(⟨zapi_Id,(0:Int),([]:Str),([]:List api_Word),([]:List api_Word),([]:List api_Unit)⟩:api_Unit)) zapi_Unit_f rfl U27 (zapi_Unit_sz _ U27) ze27 rfl)<|WL.opU (OpR.storeB (b:=b) 4 Z27 (Cellable.is tapi_Unit (⟨zapi_Id,(0:Int),([]:Str),([]:List api_Word),([]:List api_Word),([]:List api_Unit)⟩:api_Unit)) rfl (.t rfl) (.t rfl)) fun _=>Ao rfl (.assign .i64)<|WL.ns ?_
     cases hm
     exact W.retQ2 () rfl rfl (ResAt.cell 4 Y27 Z27 rfl (.t rfl)) (ResAt.tmp (.t rfl)) trivial
theorem r06_Find_spec:∀ (n:Nat) (u:api_Unit) (id:api_Id) (r:api_Unit×Bool),M.r06_Find n u id=some r→FSpec Tryz.prog 11 [(tapi_Unit.is u),(tapi_Id.is id)] (Asn.tuple2 (tapi_Unit.is r.1) (tB.is r.2)):=by
 intro n
 induction n with
 | zero=>intro u id r hm;cases hm
 | succ n ih=>
  intro u id r hm
  rw [M.r06_Find.eq_2] at hm
  refine FSpec.of Tryz.func11 rfl rfl rfl fun g0=>Aw<|Ao rfl (.box (.t rfl))<|Ao rfl (.box (.t rfl))<|WL.opR rfl (OpR.alloc 4 ze27) fun b=>Ao rfl (.assign .bool)<|An<|W.seq<|Aw<|Ao rfl (.fieldAddr U27 rfl J23 fapi_Unit_0 (.t rfl))<|Ao rfl (.load ty23 (.t rfl))<|Ao rfl (.load ty23 (.t rfl))<|Ao rfl (.eqSt (D:=2) rfl (by decide) eg23 eq23 (.t rfl) (.t rfl))<|An<|W.cD hm (.t rfl) (fun hp2 hm=>?_) (fun hp2 hm=>?_)
  ·refine Aw<|Ao rfl (.load ty27 (.t rfl))<|WL.opU (OpR.storeB (b:=b) 4 Z27 (Cellable.is tapi_Unit u) rfl (.t rfl) (.t rfl)) fun _=>Ao rfl (.assign .bool)<|WL.ns ?_
   cases hm
   exact W.retQ2 () rfl rfl (ResAt.cell 4 Y27 Z27 rfl (.t rfl)) (ResAt.tmp (.t rfl)) trivial
  ·refine W.skip<|Aq<|W.seq<|Aw<|Ao rfl (.assign .i64)<|An<|W.block ?_
   obtain ⟨s3,hs4,hk5⟩:=Bs hm
   clear hm
   refine W.loop (fun m (s:Int×api_Unit)=>M.r06_Find_loop1 u id (M.r06_Find n) m s.1 s.2=some s3) (fun s=>[(6,(I6.is s.1)),(2,(tapi_Unit.ptr u)),(3,(tapi_Id.ptr id)),(4,(Bp b 0))]) (fun s=>[(4,(Bx 8 true 27 (tapi_Unit.is s.2) b))]) _ ((0:Int),zapi_Unit) hs4 ⟨.q rfl,.q rfl,.q rfl,.q rfl,trivial⟩ ⟨rfl,rfl,trivial⟩ ?_
   rintro n6 ⟨i,v⟩ hm
   try dsimp only at hm
   change W _ _ _ _ _ _ _ [(6,(I6.is i)),(2,(tapi_Unit.ptr u)),(3,(tapi_Id.ptr id)),(4,(Bp b 0))] [(4,(Bx 8 true 27 (tapi_Unit.is v) b))]
   cases n6 with
   | zero=>rw [M.r06_Find_loop1.eq_1] at hm;cases hm
   | succ n6=>
    rw [M.r06_Find_loop1.eq_2] at hm
    refine W.seq<|Aw<|Am rfl rfl<|Ao rfl (.fieldAddr U27 rfl J25 fapi_Unit_5 (.t rfl))<|Ao rfl (.load ty25 (.t rfl))<|Ao rfl (.lenL U25 (.t rfl))<|Ao rfl (.ltI (.t rfl) (.t rfl))<|An<|W.cD hm (.t rfl) (fun hp8 hm=>?_) (fun hp8 hm=>?_)
    ·refine W.skip<|Aq<|W.seq<|W.block<|W.seq ?_
     obtain ⟨v1,hv9,hm⟩:=Bs hm
     obtain ⟨find,hv10,hm⟩:=Bs hm
     refine W.weakR (res':=[(4,(Bx 8 true 27 (tapi_Unit.is v) b))]) ⟨rfl,rfl,trivial⟩<|W.drawM [.c ((tL tapi_Unit).ptr u.Kids),.c ((tL tapi_Unit).is u.Kids),.c (I6.is i),.c (tapi_Unit.ptr v1),.c (tapi_Unit.is v1),.c (tapi_Id.is id),.c (Asn.tuple2 (tapi_Unit.is find.1) (tB.is find.2)),.c (Asn.tuple2 (tapi_Unit.is find.1) (tB.is find.2)),.c (tapi_Unit.is find.1),.c (tB.is find.2),.f (fun cv=>(Bp (bk (cv 0)) 0)),.c Asn.any,.c (tB.is find.2)] [([],[2]),([0],[]),([],[6]),([1,2],[]),([3],[]),([],[3]),([4,5],[]),([6],[]),([7],[]),([7],[]),([],[]),([8,10],[]),([9],[])] [10,11] [[],[],[],[],[],[],[],[],[],[],[true],[],[]] (fun m cv=>match m with | 0=>[(4,(Bx 8 true 27 (tapi_Unit.is v) b))] | 1=>[(7,(Bx 8 true 27 (tapi_Unit.is zapi_Unit) (bk (cv 0)))),(4,(Bx 8 true 27 (tapi_Unit.is v) b))] | _=>[(7,(Bx 8 true 27 (tapi_Unit.is find.1) (bk (cv 0)))),(4,(Bx 8 true 27 (tapi_Unit.is v) b))]) (fun _=>none) Mx rfl rfl rfl rfl rfl ⟨fun _ _ _ _=>rfl,⟨fun _ _ _ _=>rfl,⟨fun _ _ _ _=>rfl,⟨fun _ _ _ _=>rfl,⟨fun _ _ _ _=>rfl,⟨fun _ _ _ _=>rfl,⟨fun _ _ _ _=>rfl,⟨fun _ _ _ _=>rfl,⟨fun _ _ _ _=>rfl,⟨fun _ _ _ _=>rfl,⟨fun m hm c t=>by simp only [DA.at,upd_dep (r:=[true]) (j:=0) rfl hm],⟨fun _ _ _ _=>rfl,⟨fun _ _ _ _=>rfl,trivial⟩⟩⟩⟩⟩⟩⟩⟩⟩⟩⟩⟩⟩ rfl ⟨mo fun cv=>Op1.fieldAddr U27 rfl J25 fapi_Unit_5 (.t rfl),⟨mo fun cv=>Op1.load ty25 (.t rfl),⟨mo fun cv=>Op1.move (.t rfl),⟨mo fun cv=>Op1.idx hv9 U25 Z27 (.t rfl) (.t rfl),⟨mo fun cv=>Op1.load ty27 (.t rfl),⟨mo fun cv=>Op1.load ty23 (.t rfl),⟨mo fun cv=>Op1.call C11 (ih _ _ _ hv10) ⟨(.t rfl),(.t rfl),trivial⟩,⟨mo fun cv=>Op1.move (.t rfl),⟨mo fun cv=>Op1.extract0 (.t rfl),⟨mo fun cv=>Op1.extract1 (.t rfl),⟨.inl rfl,⟨.inl rfl,⟨mo fun cv=>Op1.assign (.t rfl),trivial⟩⟩⟩⟩⟩⟩⟩⟩⟩⟩⟩⟩⟩ ⟨⟨_,_,_,[],(fun cv=>[(7,(Bx 8 true 27 (tapi_Unit.is zapi_Unit) (bk (cv 0))))]),rfl,rfl,rfl,rfl,fun _=>rfl,fun _ _=>rfl,fun cv=>OpR.viaB (OpR.alloc 7 ze27)⟩,⟨⟨_,_,_,[7],(fun cv=>[(7,(Bx 8 true 27 (tapi_Unit.is find.1) (bk (cv 0))))]),rfl,rfl,rfl,rfl,fun _=>rfl,fun _ _=>rfl,fun cv=>OpR.viaU (OpR.storeB (b:=(bk (cv 0))) 7 Z27 (Cellable.is tapi_Unit find.1) rfl (.t rfl) (.t rfl))⟩,trivial⟩⟩ fun cv=>Aq<|Aw<|Am rfl rfl<|An<|W.cB hm (.t rfl) (fun hp12 hm=>?_) (fun hp12 hm=>?_)
     ·refine Aw<|Ao rfl (.loadB 7 Y27 Z27 rfl (.t rfl))<|WL.opU (OpR.storeB (b:=b) 4 Z27 (Cellable.is tapi_Unit find.1) rfl (.t rfl) (.t rfl)) fun _=>Ao rfl (.assign .bool)<|WL.ns ?_
      have hr13:=Si hm
      clear hm
      subst hr13
      have hm:=hk5
      try dsimp only at hm
      cases hm
      exact W.retQ2 () rfl rfl (ResAt.cell 4 Y27 Z27 rfl (.t rfl)) (ResAt.tmp (.t rfl)) trivial
     ·exact W.skip<|WN.block<|Aq<|W.region<|Am rfl rfl<|WL.lenL (s:=16) (.t rfl) fun hl14=>Ao rfl (.addI1 (.t rfl) .i64 hp8 hl14)<|Ag rfl rfl<|WL.nil<|WN.again n6 (i+1,v) (Nat.lt_succ_self n6) hm ⟨.q rfl,.q rfl,.q rfl,.q rfl,trivial⟩ ⟨rfl,rfl,trivial⟩
    ·refine W.exit rfl ?_
     have hr15:=Si hm
     clear hm
     subst hr15
     have hm:=hk5
     try dsimp only at hm
     refine Aq<|Aw<|Ao rfl (.build (s:=tapi_Unit) (x:=(⟨zapi_Id,(0:Int),([]:Str),([]:List api_Word),([]:List api_Word),([]:List api_Unit)⟩:api_Unit)) zapi_Unit_f rfl U27 (zapi_Unit_sz _ U27) ze27 rfl)<|WL.opU (OpR.storeB (b:=b) 4 Z27 (Cellable.is tapi_Unit (⟨zapi_Id,(0:Int),([]:Str),([]:List api_Word),([]:List api_Word),([]:List api_Unit)⟩:api_Unit)) rfl (.t rfl) (.t rfl)) fun _=>Ao rfl (.assign .bool)<|WL.ns ?_
     cases hm
     exact W.retQ2 () rfl rfl (ResAt.cell 4 Y27 Z27 rfl (.t rfl)) (ResAt.tmp (.t rfl)) trivial
theorem r06_Above_spec:∀ (n:Nat) (u:api_Unit) (id:api_Id) (r:(List api_Id)),M.r06_Above n u id=some r→FSpecR Tryz.prog 58 [(tapi_Unit.is u),(tapi_Id.is id)] [] (fun k:Tok=>tO tapi_Id k r) (fun k=>[(77777,Dec.Own tapi_Id 23 k r.length)]):=by
 intro n
 induction n with
 | zero=>intro u id r hm;cases hm
 | succ n ih=>
  intro u id r hm
  rw [M.r06_Above.eq_2] at hm
  refine FSpecR.of Tryz.func58 rfl rfl rfl fun g0=>Aw<|Ao rfl (.box (.t rfl))<|Ao rfl (.box (.t rfl))<|WL.addNil (t:=tapi_Id) (E:=23) 4<|Ao rfl (.assign (Opd.nilO (t:=tapi_Id)))<|An<|W.seq<|Aw<|Ao rfl (.fieldAddr U27 rfl J23 fapi_Unit_0 (.t rfl))<|Ao rfl (.load ty23 (.t rfl))<|Ao rfl (.load ty23 (.t rfl))<|Ao rfl (.eqSt (D:=2) rfl (by decide) eg23 eq23 (.t rfl) (.t rfl))<|An<|W.cD hm (.t rfl) (fun hp2 hm=>?_) (fun hp2 hm=>?_)
  ·refine Aw<|WL.addNil (t:=tapi_Id) (E:=23) 4<|Ao rfl (.assign (Opd.nilO (t:=tapi_Id)))<|WL.ns ?_
   have hr:=Si hm
   clear hm
   subst hr
   exact W.weakR (res':=[(4,Dec.Own tapi_Id 23 (none:Tok) ([]:List api_Id).length)]) ⟨rfl,rfl,trivial⟩<|W.rekey (res':=[(77777,Dec.Own tapi_Id 23 (none:Tok) ([]:List api_Id).length)]) rfl<|W.ret1 (none:Tok) rfl (.t rfl) ⟨rfl,rfl,trivial⟩
  ·refine W.skip<|Aq<|W.seq<|Aw<|Ao rfl (.assign .i64)<|An<|W.block ?_
   obtain ⟨s3,hs4,hk5⟩:=Bs hm
   clear hm
   refine W.loop (fun m (s:Int)=>M.r06_Above_loop1 u id (M.r06_Above n) m s=some s3) (fun s=>[(5,(I6.is s)),(2,(tapi_Unit.ptr u)),(3,(tapi_Id.ptr id))]) (fun s=>[]) _ (0:Int) hs4 ⟨.q rfl,.q rfl,.q rfl,trivial⟩ trivial ?_
   rintro n6 i hm
   try dsimp only at hm
   change W _ _ _ _ _ _ _ [(5,(I6.is i)),(2,(tapi_Unit.ptr u)),(3,(tapi_Id.ptr id))] []
   cases n6 with
   | zero=>rw [M.r06_Above_loop1.eq_1] at hm;cases hm
   | succ n6=>
    rw [M.r06_Above_loop1.eq_2] at hm
    refine W.seq<|Aw<|Am rfl rfl<|Ao rfl (.fieldAddr U27 rfl J25 fapi_Unit_5 (.t rfl))<|Ao rfl (.load ty25 (.t rfl))<|Ao rfl (.lenL U25 (.t rfl))<|Ao rfl (.ltI (.t rfl) (.t rfl))<|An<|W.cD hm (.t rfl) (fun hp8 hm=>?_) (fun hp8 hm=>?_)
    ·refine W.skip<|Aq<|W.seq<|W.block<|W.seq ?_
     obtain ⟨v,hv9,hm⟩:=Bs hm
     obtain ⟨find,hv10,hm⟩:=Bs hm
     refine W.weakR (res':=[]) trivial<|W.drawM [.c ((tL tapi_Unit).ptr u.Kids),.c ((tL tapi_Unit).is u.Kids),.c (I6.is i),.c (tapi_Unit.ptr v),.c (tapi_Unit.is v),.c (tapi_Id.is id),.c (Asn.tuple2 (tapi_Unit.is find.1) (tB.is find.2)),.c (Asn.tuple2 (tapi_Unit.is find.1) (tB.is find.2)),.c (tapi_Unit.is find.1),.c (tB.is find.2),.f (fun cv=>(Bp (bk (cv 0)) 0)),.c Asn.any,.c (tB.is find.2)] [([],[2]),([0],[]),([],[5]),([1,2],[]),([3],[]),([],[3]),([4,5],[]),([6],[]),([7],[]),([7],[]),([],[]),([8,10],[]),([9],[])] [10,11] [[],[],[],[],[],[],[],[],[],[],[true],[],[]] (fun m cv=>match m with | 0=>[] | 1=>[(6,(Bx 8 true 27 (tapi_Unit.is zapi_Unit) (bk (cv 0))))] | _=>[(6,(Bx 8 true 27 (tapi_Unit.is find.1) (bk (cv 0))))]) (fun _=>none) Mx rfl rfl rfl rfl rfl ⟨fun _ _ _ _=>rfl,⟨fun _ _ _ _=>rfl,⟨fun _ _ _ _=>rfl,⟨fun _ _ _ _=>rfl,⟨fun _ _ _ _=>rfl,⟨fun _ _ _ _=>rfl,⟨fun _ _ _ _=>rfl,⟨fun _ _ _ _=>rfl,⟨fun _ _ _ _=>rfl,⟨fun _ _ _ _=>rfl,⟨fun m hm c t=>by simp only [DA.at,upd_dep (r:=[true]) (j:=0) rfl hm],⟨fun _ _ _ _=>rfl,⟨fun _ _ _ _=>rfl,trivial⟩⟩⟩⟩⟩⟩⟩⟩⟩⟩⟩⟩⟩ rfl ⟨mo fun cv=>Op1.fieldAddr U27 rfl J25 fapi_Unit_5 (.t rfl),⟨mo fun cv=>Op1.load ty25 (.t rfl),⟨mo fun cv=>Op1.move (.t rfl),⟨mo fun cv=>Op1.idx hv9 U25 Z27 (.t rfl) (.t rfl),⟨mo fun cv=>Op1.load ty27 (.t rfl),⟨mo fun cv=>Op1.load ty23 (.t rfl),⟨mo fun cv=>Op1.call C11 (r06_Find_spec _ _ _ _ hv10) ⟨(.t rfl),(.t rfl),trivial⟩,⟨mo fun cv=>Op1.move (.t rfl),⟨mo fun cv=>Op1.extract0 (.t rfl),⟨mo fun cv=>Op1.extract1 (.t rfl),⟨.inl rfl,⟨.inl rfl,⟨mo fun cv=>Op1.assign (.t rfl),trivial⟩⟩⟩⟩⟩⟩⟩⟩⟩⟩⟩⟩⟩ ⟨⟨_,_,_,[],(fun cv=>[(6,(Bx 8 true 27 (tapi_Unit.is zapi_Unit) (bk (cv 0))))]),rfl,rfl,rfl,rfl,fun _=>rfl,fun _ _=>rfl,fun cv=>OpR.viaB (OpR.alloc 6 ze27)⟩,⟨⟨_,_,_,[6],(fun cv=>[(6,(Bx 8 true 27 (tapi_Unit.is find.1) (bk (cv 0))))]),rfl,rfl,rfl,rfl,fun _=>rfl,fun _ _=>rfl,fun cv=>OpR.viaU (OpR.storeB (b:=(bk (cv 0))) 6 Z27 (Cellable.is tapi_Unit find.1) rfl (.t rfl) (.t rfl))⟩,trivial⟩⟩ fun cv=>Aq<|Aw<|Am rfl rfl<|An<|W.cB hm (.t rfl) (fun hp12 hm=>?_) (fun hp12 hm=>?_)
     ·refine W.seq ?_
      obtain ⟨v1,hv13,hm⟩:=Bs hm
      obtain ⟨above,hv14,hm⟩:=Bs hm
      obtain ⟨out,hv15,hm⟩:=Bs hm
      refine W.weakR (res':=[(6,(Bx 8 true 27 (tapi_Unit.is find.1) (bk (cv 0))))]) ⟨rfl,rfl,trivial⟩<|W.drawM [.c ((tL tapi_Unit).ptr u.Kids),.c ((tL tapi_Unit).is u.Kids),.c (I6.is i),.c (tapi_Unit.ptr v1),.c (tapi_Unit.is v1),.c (tapi_Id.is id),.f (fun cv1=>(tO tapi_Id (cv1 0) above)),.c (tapi_Id.ptr u.Id),.c (tapi_Id.is u.Id),.c ((tL tapi_Id).is [u.Id]),.f (fun cv1=>(tO tapi_Id (cv1 1) out)),.f (fun cv1=>(tO tapi_Id (cv1 1) out))] [([],[2]),([0],[]),([],[5]),([1,2],[]),([3],[]),([],[3]),([4,5],[]),([],[2]),([7],[]),([8],[]),([6,9],[]),([10],[])] [6,10] [[],[],[],[],[],[],[true],[],[],[],[false,true],[false,true]] (fun m cv1=>match m with | 0=>[(6,(Bx 8 true 27 (tapi_Unit.is find.1) (bk (cv 0))))] | 1=>[(36,Dec.Own tapi_Id 23 (cv1 0) above.length),(6,(Bx 8 true 27 (tapi_Unit.is find.1) (bk (cv 0))))] | _=>[(36,Dec.Own tapi_Id 23 (cv1 1) out.length),(6,(Bx 8 true 27 (tapi_Unit.is find.1) (bk (cv 0))))]) (fun _=>none) Mx rfl rfl rfl rfl rfl ⟨fun _ _ _ _=>rfl,⟨fun _ _ _ _=>rfl,⟨fun _ _ _ _=>rfl,⟨fun _ _ _ _=>rfl,⟨fun _ _ _ _=>rfl,⟨fun _ _ _ _=>rfl,⟨fun m hm c t=>by simp only [DA.at,upd_dep (r:=[true]) (j:=0) rfl hm],⟨fun _ _ _ _=>rfl,⟨fun _ _ _ _=>rfl,⟨fun _ _ _ _=>rfl,⟨fun m hm c t=>by simp only [DA.at,upd_dep (r:=[false,true]) (j:=1) rfl hm],⟨fun m hm c t=>by simp only [DA.at,upd_dep (r:=[false,true]) (j:=1) rfl hm],trivial⟩⟩⟩⟩⟩⟩⟩⟩⟩⟩⟩⟩ rfl ⟨mo fun cv1=>Op1.fieldAddr U27 rfl J25 fapi_Unit_5 (.t rfl),⟨mo fun cv1=>Op1.load ty25 (.t rfl),⟨mo fun cv1=>Op1.move (.t rfl),⟨mo fun cv1=>Op1.idx hv13 U25 Z27 (.t rfl) (.t rfl),⟨mo fun cv1=>Op1.load ty27 (.t rfl),⟨mo fun cv1=>Op1.load ty23 (.t rfl),⟨.inl rfl,⟨mo fun cv1=>Op1.fieldAddr U27 rfl J23 fapi_Unit_0 (.t rfl),⟨mo fun cv1=>Op1.load ty23 (.t rfl),⟨mo fun cv1=>Op1.buildSlice (n:=1) (ys:=[(0,u.Id)]) (z:=zapi_Id) (xs:=[u.Id]) U40 el23 ze23 ⟨rfl,(.t rfl),trivial⟩ (by simp) (by decide) rfl,⟨.inl rfl,⟨mo fun cv1=>Op1.assign (.t rfl),trivial⟩⟩⟩⟩⟩⟩⟩⟩⟩⟩⟩⟩ ⟨⟨_,_,_,[],(fun cv1=>[(36,Dec.Own tapi_Id 23 (cv1 0) above.length)]),rfl,rfl,rfl,rfl,fun _=>rfl,fun _ _=>rfl,fun cv1=>OpR.call (us:=[]) C58 ((ih _ _ _ hv14).rekey 36) rfl ⟨(.t rfl),(.t rfl),trivial⟩⟩,⟨⟨_,_,_,[36],(fun cv1=>[(36,Dec.Own tapi_Id 23 (cv1 1) out.length)]),rfl,rfl,rfl,rfl,fun _=>rfl,fun _ _=>rfl,fun cv1=>OpR.appC (key:=36) hv15 U40 el23 (.t rfl) (.t rfl) rfl⟩,trivial⟩⟩ fun cv1=>WN.seq ?_
      have hr16:=Si hm
      clear hm
      subst hr16
      have hm:=hk5
      try dsimp only at hm
      have hr:=Si hm
      clear hm
      subst hr
      exact W.weakR (res':=[(36,Dec.Own tapi_Id 23 (cv1 1) out.length)]) ⟨rfl,rfl,trivial⟩<|W.rekey (res':=[(77777,Dec.Own tapi_Id 23 (cv1 1) out.length)]) rfl<|W.ret1 (cv1 1) rfl (.t rfl) ⟨rfl,rfl,trivial⟩
     ·exact W.skip<|WN.block<|Aq<|W.region<|Am rfl rfl<|WL.lenL (s:=14) (.t rfl) fun hl17=>Ao rfl (.addI1 (.t rfl) .i64 hp8 hl17)<|Ag rfl rfl<|WL.nil<|WN.again n6 (i+1) (Nat.lt_succ_self n6) hm ⟨.q rfl,.q rfl,.q rfl,trivial⟩ trivial
    ·refine W.exit rfl ?_
     have hr18:=Si hm
     clear hm
     subst hr18
     have hm:=hk5
     try dsimp only at hm
     refine Aq<|Aw<|WL.addNil (t:=tapi_Id) (E:=23) 4<|Ao rfl (.assign (Opd.nilO (t:=tapi_Id)))<|WL.ns ?_
     have hr:=Si hm
     clear hm
     subst hr
     exact W.weakR (res':=[(4,Dec.Own tapi_Id 23 (none:Tok) ([]:List api_Id).length)]) ⟨rfl,rfl,trivial⟩<|W.rekey (res':=[(77777,Dec.Own tapi_Id 23 (none:Tok) ([]:List api_Id).length)]) rfl<|W.ret1 (none:Tok) rfl (.t rfl) ⟨rfl,rfl,trivial⟩
theorem r41_This_spec(n:Nat)(u:api_Unit)(at0_:api_Id)(kind:Int)(r:api_Id×Bool)(hm:M.r41_This n u at0_ kind=some r):FSpec Tryz.prog 32 [(tapi_Unit.is u),(tapi_Id.is at0_),(I6.is kind)] (Asn.tuple2 (tapi_Id.is r.1) (tB.is r.2)):=by
 unfold M.r41_This at hm
 refine FSpec.of Tryz.func32 rfl rfl rfl fun g0=>Aw<|Ao rfl (.box (.t rfl))<|Ao rfl (.box (.t rfl))<|WL.opR rfl (OpR.alloc 6 ze23) fun b=>Ao rfl (.assign .bool)<|Ar<|Ao rfl (.load ty27 (.t rfl))<|Ao rfl (.load ty23 (.t rfl)) ?_
 obtain ⟨get,hv1,hm⟩:=Bs hm
 refine Ao rfl (.call C34 (r23_Get_spec _ _ _ _ hv1) ⟨(.t rfl),(.t rfl),trivial⟩)<|Am rfl rfl<|Ao rfl (.extract0 (.t rfl))<|Ao rfl (.extract1 (.t rfl))<|WL.opR rfl (OpR.alloc 8 ze27) fun b1=>WL.opU (OpR.storeB (b:=b1) 8 Z27 (Cellable.is tapi_Unit get.1) rfl (.t rfl) (.t rfl)) fun _=>WL.sealed (t:=tapi_Unit) (u:=get.1) 8 8 rfl rfl<|Ag rfl rfl<|An<|W.seq<|Aw<|Am rfl rfl<|Ao rfl (.ltI (.t rfl) .i64)<|An<|W.cD hm (.t rfl) (fun hp3 hm=>?_) (fun hp3 hm=>?_)
 ·refine Aw<|Ao rfl (.build (s:=tapi_Id) (x:=(⟨(0:Int),(0:Int),(0:Int)⟩:api_Id)) zapi_Id_f rfl U23 (zapi_Id_sz _ U23) ze23 rfl)<|WL.opU (OpR.storeB (b:=b) 6 Z23 (Cellable.is tapi_Id (⟨(0:Int),(0:Int),(0:Int)⟩:api_Id)) rfl (.t rfl) (.t rfl)) fun _=>Ao rfl (.assign .bool)<|WL.ns ?_
  cases hm
  exact W.retQ2 () rfl rfl (ResAt.cell 6 Y23 Z23 rfl (.t rfl)) (ResAt.tmp (.t rfl)) trivial
 ·refine W.skip<|Aq<|W.seq<|Aw<|Ao rfl (.fieldAddr U27 rfl J3 fapi_Unit_1 (.t rfl))<|Ao rfl (.load ty3 (.t rfl))<|Am rfl rfl<|Ao rfl (.eqI (.t rfl) (.t rfl))<|An<|W.cD hm (.t rfl) (fun hp5 hm=>?_) (fun hp5 hm=>?_)
  ·refine Aw<|Ao rfl (.load ty23 (.t rfl))<|WL.opU (OpR.storeB (b:=b) 6 Z23 (Cellable.is tapi_Id at0_) rfl (.t rfl) (.t rfl)) fun _=>Ao rfl (.assign .bool)<|WL.ns ?_
   cases hm
   exact W.retQ2 () rfl rfl (ResAt.cell 6 Y23 Z23 rfl (.t rfl)) (ResAt.tmp (.t rfl)) trivial
  ·refine W.skip<|Aq<|Aw<|Ao rfl (.load ty27 (.t rfl))<|Ao rfl (.load ty23 (.t rfl)) ?_
   obtain ⟨above,hv6,hm⟩:=Bs hm
   refine Ao rfl (.call C58 ((r06_Above_spec _ _ _ _ hv6).read fun _ _ _=>tO_tL) ⟨(.t rfl),(.t rfl),trivial⟩)<|Ag rfl rfl<|An<|W.seq<|Aw<|Ao rfl (.assign .i64)<|An<|W.block ?_
   obtain ⟨s7,hs8,hk9⟩:=Bs hm
   clear hm
   refine W.loop (fun m (s:Int×api_Id)=>M.r41_This_loop1 u kind above m s.1 s.2=some s7) (fun s=>[(11,(I6.is s.1)),(2,(I6.is kind)),(3,(tapi_Unit.ptr u)),(6,(Bp b 0)),(10,((tL tapi_Id).is above))]) (fun s=>[(6,(Bx 3 true 23 (tapi_Id.is s.2) b))]) _ ((0:Int),zapi_Id) hs8 ⟨.q rfl,.q rfl,.q rfl,.q rfl,.q rfl,trivial⟩ ⟨rfl,rfl,trivial⟩ ?_
   rintro n10 ⟨i,v⟩ hm
   try dsimp only at hm
   change W _ _ _ _ _ _ _ [(11,(I6.is i)),(2,(I6.is kind)),(3,(tapi_Unit.ptr u)),(6,(Bp b 0)),(10,((tL tapi_Id).is above))] [(6,(Bx 3 true 23 (tapi_Id.is v) b))]
   cases n10 with
   | zero=>rw [M.r41_This_loop1.eq_1] at hm;cases hm
   | succ n10=>
    rw [M.r41_This_loop1.eq_2] at hm
    refine W.seq<|Aw<|Am rfl rfl<|Am rfl rfl<|Ao rfl (.lenL U40 (.t rfl))<|Ao rfl (.ltI (.t rfl) (.t rfl))<|An<|W.cD hm (.t rfl) (fun hp12 hm=>?_) (fun hp12 hm=>?_)
    ·refine W.skip<|Aq<|W.seq<|W.block<|W.seq ?_
     obtain ⟨v1,hv13,hm⟩:=Bs hm
     obtain ⟨get1,hv14,hm⟩:=Bs hm
     refine W.weakR (res':=[(6,(Bx 3 true 23 (tapi_Id.is v) b))]) ⟨rfl,rfl,trivial⟩<|W.drawM [.c (tapi_Unit.is u),.c ((tL tapi_Id).is above),.c (I6.is i),.c (tapi_Id.ptr v1),.c (tapi_Id.is v1),.c (Asn.tuple2 (tapi_Unit.is get1.1) (I6.is get1.2)),.c (Asn.tuple2 (tapi_Unit.is get1.1) (I6.is get1.2)),.c (tapi_Unit.is get1.1),.c (I6.is get1.2),.f (fun cv=>(Bp (bk (cv 0)) 0)),.c Asn.any,.c (I6.is get1.2)] [([],[3]),([],[10]),([],[11]),([1,2],[]),([3],[]),([0,4],[]),([5],[]),([6],[]),([6],[]),([],[]),([7,9],[]),([8],[])] [9,10] [[],[],[],[],[],[],[],[],[],[true],[],[]] (fun m cv=>match m with | 0=>[(6,(Bx 3 true 23 (tapi_Id.is v) b))] | 1=>[(12,(Bx 8 true 27 (tapi_Unit.is zapi_Unit) (bk (cv 0)))),(6,(Bx 3 true 23 (tapi_Id.is v) b))] | _=>[(12,(Bx 8 true 27 (tapi_Unit.is get1.1) (bk (cv 0)))),(6,(Bx 3 true 23 (tapi_Id.is v) b))]) (fun _=>none) Mx rfl rfl rfl rfl rfl ⟨fun _ _ _ _=>rfl,⟨fun _ _ _ _=>rfl,⟨fun _ _ _ _=>rfl,⟨fun _ _ _ _=>rfl,⟨fun _ _ _ _=>rfl,⟨fun _ _ _ _=>rfl,⟨fun _ _ _ _=>rfl,⟨fun _ _ _ _=>rfl,⟨fun _ _ _ _=>rfl,⟨fun m hm c t=>by simp only [DA.at,upd_dep (r:=[true]) (j:=0) rfl hm],⟨fun _ _ _ _=>rfl,⟨fun _ _ _ _=>rfl,trivial⟩⟩⟩⟩⟩⟩⟩⟩⟩⟩⟩⟩ rfl ⟨mo fun cv=>Op1.load ty27 (.t rfl),⟨mo fun cv=>Op1.move (.t rfl),⟨mo fun cv=>Op1.move (.t rfl),⟨mo fun cv=>Op1.idx hv13 U40 Z23 (.t rfl) (.t rfl),⟨mo fun cv=>Op1.load ty23 (.t rfl),⟨mo fun cv=>Op1.call C34 (r23_Get_spec _ _ _ _ hv14) ⟨(.t rfl),(.t rfl),trivial⟩,⟨mo fun cv=>Op1.move (.t rfl),⟨mo fun cv=>Op1.extract0 (.t rfl),⟨mo fun cv=>Op1.extract1 (.t rfl),⟨.inl rfl,⟨.inl rfl,⟨mo fun cv=>Op1.assign (.t rfl),trivial⟩⟩⟩⟩⟩⟩⟩⟩⟩⟩⟩⟩ ⟨⟨_,_,_,[],(fun cv=>[(12,(Bx 8 true 27 (tapi_Unit.is zapi_Unit) (bk (cv 0))))]),rfl,rfl,rfl,rfl,fun _=>rfl,fun _ _=>rfl,fun cv=>OpR.viaB (OpR.alloc 12 ze27)⟩,⟨⟨_,_,_,[12],(fun cv=>[(12,(Bx 8 true 27 (tapi_Unit.is get1.1) (bk (cv 0))))]),rfl,rfl,rfl,rfl,fun _=>rfl,fun _ _=>rfl,fun cv=>OpR.viaU (OpR.storeB (b:=(bk (cv 0))) 12 Z27 (Cellable.is tapi_Unit get1.1) rfl (.t rfl) (.t rfl))⟩,trivial⟩⟩ fun cv=>Aq<|Aw<|Ao rfl (.fieldAddrB (o:=0) U27 rfl J3 (.t rfl) rfl)<|Ao rfl (.loadBF 12 rfl ty3 fapi_Unit_1 rfl (.t rfl))<|Am rfl rfl<|Ao rfl (.eqI (.t rfl) (.t rfl))<|An<|W.cD hm (.t rfl) (fun hp16 hm=>?_) (fun hp16 hm=>?_)
     ·refine Aw<|Am rfl rfl<|WL.mv rfl rfl ?_
      obtain ⟨v2,hv17,hm⟩:=Bs hm
      refine Ao rfl (.idx hv17 U40 Z23 (.t rfl) (.t rfl))<|Ao rfl (.load ty23 (.t rfl))<|WL.opU (OpR.storeB (b:=b) 6 Z23 (Cellable.is tapi_Id v2) rfl (.t rfl) (.t rfl)) fun _=>Ao rfl (.assign .bool)<|WL.ns ?_
      have hr18:=Si hm
      clear hm
      subst hr18
      have hm:=hk9
      try dsimp only at hm
      cases hm
      exact W.retQ2 () rfl rfl (ResAt.cell 6 Y23 Z23 rfl (.t rfl)) (ResAt.tmp (.t rfl)) trivial
     ·exact W.skip<|WN.block<|Aq<|W.region<|Am rfl rfl<|WL.lenL (s:=10) (.t rfl) fun hl19=>Ao rfl (.addI1 (.t rfl) .i64 hp12 hl19)<|Ag rfl rfl<|WL.nil<|WN.again n10 (i+1,v) (Nat.lt_succ_self n10) hm ⟨.q rfl,.q rfl,.q rfl,.q rfl,.q rfl,trivial⟩ ⟨rfl,rfl,trivial⟩
    ·refine W.exit rfl ?_
     have hr20:=Si hm
     clear hm
     subst hr20
     have hm:=hk9
     try dsimp only at hm
     refine Aq<|Aw<|Ao rfl (.build (s:=tapi_Id) (x:=(⟨(0:Int),(0:Int),(0:Int)⟩:api_Id)) zapi_Id_f rfl U23 (zapi_Id_sz _ U23) ze23 rfl)<|WL.opU (OpR.storeB (b:=b) 6 Z23 (Cellable.is tapi_Id (⟨(0:Int),(0:Int),(0:Int)⟩:api_Id)) rfl (.t rfl) (.t rfl)) fun _=>Ao rfl (.assign .bool)<|WL.ns ?_
     cases hm
     exact W.retQ2 () rfl rfl (ResAt.cell 6 Y23 Z23 rfl (.t rfl)) (ResAt.tmp (.t rfl)) trivial
end Go.Proofs.YtlegkjbldofkmaaGreat
