/-
  The code does what the models say: written by program.
-/
import Derived.Test.YtalogjkalmkpjaaGreatDoorBd
set_option linter.unusedVariables false
set_option linter.unusedSimpArgs false
namespace Go.Proofs.YtalogjkalmkpjaaGreatDoor
open Go Go.Dec
set_option maxRecDepth 100000
set_option maxHeartbeats 4000000
abbrev E0:Nat×Res:=(700000,Gl (tA 3 tS) 0 gv0)
abbrev E1:Nat×Res:=(700001,Gl (tA 3 tS) 1 gv1)
abbrev E2:Nat×Res:=(700002,Gl (tA 8 tS) 2 gv2)
abbrev E3:Nat×Res:=(700003,GlE 3)
abbrev E7:Nat×Res:=(700007,GlT Tryz.prog "internal/strconv.uint64pow10" .u64 Lib.pow10Tab)
abbrev E8:Nat×Res:=(700008,GlI 8)
abbrev E9:Nat×Res:=(700009,GlI 9)
abbrev L0:List (List Nat×List Nat):=[([],[2]),([0],[]),([],[3]),([2],[]),([1,3],[]),([4],[]),([5],[2]),([5,6],[]),([5],[3]),([5,8],[]),([5,7,9],[]),([5,10],[]),([11],[]),([12],[2]),([12,13],[]),([12],[3]),([12,15],[]),([12,14,16],[]),([12,17],[]),([18],[]),([19],[2]),([19,20],[]),([19,21],[]),([19],[3]),([19,23],[]),([19,24],[]),([19,22,25],[]),([19,26],[]),([19,27],[]),([28],[]),([29],[2]),([29,30],[]),([29,31],[]),([29],[3]),([29,33],[]),([29,34],[]),([29,32,35],[]),([29,36],[]),([29,37],[]),([38],[]),([39],[2]),([39,40],[]),([39,41],[]),([39],[3]),([39,43],[]),([39,44],[]),([39,42,45],[]),([39,46],[])]
abbrev L1:List (List Nat×List Nat):=[([],[7]),([0],[]),([1],[4]),([1,2],[]),([1,3],[]),([1,4],[]),([5],[]),([6],[4]),([6,7],[]),([6],[3]),([6,9],[]),([6,8,10],[]),([6,11],[]),([12],[1]),([12,13],[]),([12,14],[]),([12],[1]),([12,16],[]),([12],[]),([12,17,18],[]),([12,15,19],[]),([6,12,20],[]),([6,21],[]),([22],[])]
abbrev L2:List (List Nat×List Nat):=[([],[7]),([0],[]),([],[4]),([1,2],[]),([3],[]),([4],[3]),([4],[8]),([4,5,6],[]),([4,7],[]),([4],[4]),([4],[7]),([4,10],[]),([4,9,11],[]),([4,8,12],[]),([4,13],[]),([14],[]),([15],[7]),([15,16],[]),([15,17],[]),([15,18],[]),([19],[0]),([19],[8]),([19,20,21],[]),([19,22],[]),([19],[0]),([19],[7]),([19],[7]),([19,26],[]),([19,27],[]),([19,25,28],[]),([19,29],[]),([19,24,30],[]),([19,31],[]),([19,23,32],[]),([15,19,33],[]),([15,34],[])]
abbrev L3:List (List Nat×List Nat):=[([],[1]),([0],[]),([1],[]),([2],[1]),([2,3],[]),([2,4],[]),([2,5],[]),([6],[]),([7],[1]),([7,8],[]),([7,9],[]),([7],[1]),([7,11],[]),([7,10,12],[]),([7,13],[]),([14],[])]
abbrev L4:List (List Nat×List Nat):=[([],[11]),([0],[]),([1],[]),([2],[9]),([2,3],[]),([2],[2]),([2,4,5],[]),([2,6],[]),([7],[]),([8],[9]),([8,9],[]),([8],[3]),([8,10,11],[]),([8,12],[]),([13],[])]
abbrev L5:List (List Nat×List Nat):=[([],[5]),([],[0]),([1],[]),([0,2],[]),([3],[]),([4],[0]),([4],[5]),([4,5,6],[]),([4,7],[]),([4,8],[]),([4],[0]),([4],[4]),([4,10,11],[]),([4,12],[]),([4,13],[]),([4,9,14],[]),([4,15],[])]
abbrev L6:List (List Nat×List Nat):=[([],[2]),([],[8]),([0,1],[]),([2],[]),([],[3]),([],[9]),([4,5],[]),([6],[]),([3,7],[]),([8],[]),([9],[4]),([9],[8]),([9,11],[]),([9],[9]),([9,13],[]),([9,10,12,14],[]),([9,15],[]),([9],[4]),([9],[0]),([9],[1]),([9,17,18,19],[]),([9,16,20],[]),([9,21],[])]
abbrev L7:List (List Nat×List Nat):=[([],[13]),([],[5]),([],[0]),([],[14]),([2,3],[]),([4],[]),([],[1]),([],[15]),([6,7],[]),([8],[]),([1,5,9],[]),([10],[]),([0,11],[]),([12],[])]
abbrev L8:List (List Nat×List Nat):=[([],[3]),([0],[]),([],[3]),([2],[]),([],[3]),([4],[]),([],[3]),([6],[]),([7],[]),([],[3]),([9],[]),([10],[]),([1,3,5,8,11],[]),([],[]),([12,13],[])]
abbrev L9:List (List Nat×List Nat):=[([],[10]),([],[10]),([1],[]),([2],[]),([3],[10]),([3,4],[]),([3],[0]),([3,5,6],[]),([3,7],[]),([0],[2]),([8],[])]
abbrev L10:List (List Nat×List Nat):=[([],[5]),([0],[]),([],[2]),([],[7]),([2,3],[]),([4],[]),([1,5],[]),([],[5]),([6,7],[])]
theorem nn{p q:Prop}[Decidable p](h:¬p:=by decide)(x:p):q:=absurd x h
theorem X{α:Type}{a:α}:a=a:=rfl
theorem jY(id:au)(r:Bool)(hm:M.iO id=some r):FSpec Tryz.prog 74 [(aj.is id)] (tB.is r):=by
 unfold M.iO at hm;refine FSpec.of Tryz.func74 X X X fun g0=>Aw<|Co .box<|Co (.assign .bool)<|An<|W.seq<|Aw<|Co (.fA U23 J3 qL)<|Co (.load ty3)<|Co (.fA U23 J3 qM)<|Co (.load ty3)<|Co (.fA U23 J3 qN)<|Co (.load ty3)<|Co (.buildSlice (n:=3) (ys:=[(0,id.Act),(1,id.Item),(2,id.N)]) (z:=(0:Int)) (xs:=[id.Act,id.Item,id.N]) U161 el3 ze3 ⟨X,.r,X,.r,X,.r,trivial⟩ (by simp) (by decide) X)<|Co (.bg U161)<|Co (.move .i64) ?_;refine An<|W.block ?_;obtain ⟨s1,hs2,hk3⟩:=Bs hm;clear hm;refine W.lp (fun m (s:Int×List Int×List Int×Unit)=>m=s.2.2.1.length∧ [id.Act,id.Item,id.N]=s.2.1++s.2.2.1∧s.1=(s.2.1.length:Int)∧M.dU s.2.2.1=some s1) (fun s=>[(13,(I6.is s.1)),(11,((tL I6).is [id.Act,id.Item,id.N])),(12,(I6.is ([id.Act,id.Item,id.N].length:Int)))]) (fun s=>[]) [id.Act,id.Item,id.N].length ((0:Int),[],[id.Act,id.Item,id.N],()) ⟨X,X,X,hs2⟩ ?_;rintro m ⟨i,pre,rest1,_⟩ ⟨hn7,hxs4,hi5,hm⟩;try dsimp only at hn7 hxs4 hi5 hm
 refine W.bg (s:=11) .r fun hlen6=>Aw<|Co .ltI<|An<|W.seq<|W.cond .r (fun hc9=>?_) (fun hc9=>?_)
 ·have hp10:=of_decide_eq_true hc9;obtain ⟨e,es,hrest12⟩:=df hxs4 hi5 hp10;subst hrest12;rw [M.dU.eq_2] at hm;refine W.skip<|Aq<|W.seq<|W.block<|Aw<|Co (.idxPre hxs4 hi5 U161 Z3)<|Co (.load ty3)<|Cg X<|Ar<|Cm X<|Co (.ltI .r .i64)<|WL.mv X X ?_;rcases iteD hm with ⟨hp14,hb13,hm⟩ | ⟨hp14,hb13,hm⟩
  ·refine Cp hb13<|Cp hb13<|Co (.pT hb13 .bool)<|An<|W.condT .r<|Aw<|Co (.assign .bool)<|WL.ns ?_;have hr15:=Si hm;clear hm;subst hr15;have hm:=hk3;try dsimp only at hm
   cases hm;exact W.e1
  ·refine Cy hb13 .move<|Cy hb13 (.gtI .r .i64)<|Co (.pF hb13)<|An<|W.cD hm .r (fun hp17 hm=>?_) (fun hp17 hm=>?_)
   ·refine Aw<|Co (.assign .bool)<|WL.ns ?_;have hr18:=Si hm;clear hm;subst hr18;have hm:=hk3;try dsimp only at hm
    cases hm;exact W.e1
   ·exact W.skip<|WN.block<|Aq<|W.region<|Co (.addI .r .i64 (bH hi5 hp10 hlen6))<|Cm X<|WL.nil<|WN.ag es.length (i+1,pre++ [e],es,()) (bS hn7) ⟨X,bi hxs4,bG hi5,hm⟩
 ·have hrest12:=dG hxs4 hi5 (of_decide_eq_false hc9);subst hrest12;rw [M.dU.eq_1] at hm;refine W.exit X ?_;have hr19:=Si hm;clear hm;subst hr19;have hm:=hk3;try dsimp only at hm
  refine Aq<|Aw<|Co (.assign .bool)<|WL.ns ?_;cases hm;exact W.e1
theorem iB(t:aa)(r:Bool)(hm:M.dH t=some r):FSpec Tryz.prog 37 [(ae.is t)] (tB.is r):=by
 unfold M.dH at hm;refine FSpec.of Tryz.func37 X X X fun g0=>Aw<|Co .box<|Co (.assign .bool)<|WL.ns ?_;obtain ⟨s1,hs2,hk3⟩:=Bs hm;clear hm;refine W.join (fun s:Bool=>s=s1) (fun s=>[(3,(tB.is s)),(1,(ae.ptr t))]) (fun s=>[]) ?_ ?_
 ·rintro empty hj19;try dsimp only at hj19
  subst hj19;have hm:=hk3;clear hk3;try dsimp only at hm
  refine Aw<|Cm X<|WL.mv X X ?_;rcases iteB hm with ⟨hp13,hb12,hm⟩ | ⟨hp13,hb12,hm⟩
  ·refine Cy hb12 (.fA U33 J3 bN)<|Cy hb12 (.load ty3)<|Cy hb12 (.eqI .r .i64)<|Co (.pT hb12)<|WL.mv X X ?_;rcases iteD hm with ⟨hp15,hb14,hm⟩ | ⟨hp15,hb14,hm⟩
   ·refine Cy hb14 (.fA U33 J4 dO)<|Cy hb14 (.load ty4)<|Co (.pT hb14)<|WL.mv X X ?_;rcases iteB hm with ⟨hp17,hb16,hm⟩ | ⟨hp17,hb16,hm⟩
    ·refine Cy hb16 (.fA U33 J23 dA)<|Cy hb16 (.load ty23) ?_;obtain ⟨validi,hv18,hm⟩:=Bs hm;refine Cy hb16 (.call C74 (jY _ _ hv18) ⟨.r,trivial⟩)<|Co (.pT hb16)<|Cg X<|WL.ns ?_;cases hm;exact W.e1
    ·refine Cp hb16<|Cp hb16<|Cp hb16<|Co (.pF hb16 .bool)<|Cg X<|WL.ns ?_;cases hm;exact W.e1
   ·refine Cp hb14<|Cp hb14<|Co (.pF hb14 .bool)<|Cm X<|Cp X<|Cp X<|Cp X<|Co (.pF X .bool)<|Cg X<|WL.ns ?_;cases hm;exact W.e1
  ·refine Cp hb12<|Cp hb12<|Cp hb12<|Co (.pF hb12 .bool)<|Cm X<|Cp X<|Cp X<|Co (.pF X .bool)<|Cm X<|Cp X<|Cp X<|Cp X<|Co (.pF X .bool)<|Cg X<|WL.ns ?_;cases hm;exact W.e1
 ·have hm:=hs2;clear hs2;refine W.region<|Co (.fA U33 J3 dN)<|Co (.load ty3)<|Co (.eqI .r .i64)<|WL.mv X X ?_;rcases iteD hm with ⟨hp5,hb4,hm⟩ | ⟨hp5,hb4,hm⟩
  ·refine Cy hb4 (.fA U33 J9 cK)<|Cy hb4 (.load ty9)<|Cy hb4 (.eqS .r .s)<|Co (.pT hb4)<|WL.mv X X ?_;rcases iteB hm with ⟨hp7,hb6,hm⟩ | ⟨hp7,hb6,hm⟩
   ·refine Cy hb6 (.fA U33 J9 dF)<|Cy hb6 (.load ty9)<|Cy hb6 (.eqS .r .s)<|Co (.pT hb6)<|WL.mv X X ?_;rcases iteB hm with ⟨hp9,hb8,hm⟩ | ⟨hp9,hb8,hm⟩
    ·refine Cy hb8 (.fA U33 J30 fJ)<|Cy hb8 (.load ty30)<|Cy hb8 (.bg U30)<|Cy hb8 (.fA U33 J30 fK)<|Cy hb8 (.load ty30)<|Cy hb8 (.bg U30) ?_;obtain ⟨v,hv10,hm⟩:=Bs hm;refine Cy hb8 (.addC hv10)<|Cy hb8 (.fA U33 J31 eP)<|Cy hb8 (.load ty31)<|Cy hb8 (.bg U31) ?_;obtain ⟨v1,hv11,hm⟩:=Bs hm;exact Cy hb8 (.addC hv11)<|Cy hb8 (.eqI .r .i64)<|Co (.pT hb8)<|Cg X<|WL.nil<|WN.mt (decide (v1=(0:Int))) (Si hm)
    ·exact Cp hb8<|Cp hb8<|Cp hb8<|Cp hb8<|Cp hb8<|Cp hb8<|Cp hb8<|Cp hb8<|Cp hb8<|Cp hb8<|Cp hb8<|Cp hb8<|Co (.pF hb8 .bool)<|Cg X<|WL.nil<|WN.mt false (Si hm)
   ·refine Cp hb6<|Cp hb6<|Cp hb6<|Co (.pF hb6 .bool)<|Cm X<|Cp X<|Cp X<|Cp X<|Cp X<|Cp X<|Cp X<|Cp X<|Cp X<|Cp X<|Cp X<|Ap X X ?_;exact Cp X<|Co (.pF X .bool)<|Cg X<|WL.nil<|WN.mt false (Si hm)
  ·refine Cp hb4<|Cp hb4<|Cp hb4<|Co (.pF hb4 .bool)<|Cm X<|Cp X<|Cp X<|Cp X<|Co (.pF X .bool)<|Cm X<|Cp X<|Cp X<|Cp X<|Cp X<|Cp X<|Ap X X ?_;exact Cp X<|Cp X<|Cp X<|Cp X<|Cp X<|Cp X<|Co (.pF X .bool)<|Cg X<|WL.nil<|WN.mt false (Si hm)
theorem jd(n:Nat)(s0_:List ah)(f:ah→Option Bool)(r:Int)(hm:M.di n s0_ f=some r):FSpec Tryz.prog 115 [((tL ak).is s0_),(tF Tryz.prog (fun s:ah×Bool=>f s.1=some s.2) (fun s:ah×Bool=>[ak.is s.1]) (fun s:ah×Bool=>(tB.is s.2)))] (I6.is r):=by
 unfold M.di at hm;refine FSpec.of Tryz.func115 X X X fun g0=>Aw<|Co (.assign .i64)<|An<|W.seq<|Aw<|Cm X<|Co (.bg U30)<|Co (.move .i64)<|An<|W.block ?_;obtain ⟨s1,hs2,hk3⟩:=Bs hm;clear hm;refine W.lp (fun m (s:Int)=>M.aK s0_ f m s=some s1) (fun s=>[(8,(I6.is s)),(0,((tL ak).is s0_)),(1,(tF Tryz.prog (fun s:ah×Bool=>f s.1=some s.2) (fun s:ah×Bool=>[ak.is s.1]) (fun s:ah×Bool=>(tB.is s.2)))),(7,(I6.is (s0_.length:Int)))]) (fun s=>[]) _ (0:Int) hs2 ?_;rintro n4 v hm;try dsimp only at hm
 cases n4 with
 | zero=>rw [M.aK.eq_1] at hm;cases hm
 | succ n4=>
  rw [M.aK.eq_2] at hm;refine Aw<|Co .ltI<|An<|W.seq<|W.cD hm .r (fun hp6 hm=>?_) (fun hp6 hm=>?_)
  ·refine W.skip<|Aq<|W.seq<|W.block<|Aw<|Cm X<|Cg X<|Ar<|Cm X<|Cm X<|WL.mv X X ?_;obtain ⟨v1,hv7,hm⟩:=Bs hm;refine Co (.idx hv7 U30 Z53)<|Co (.load ty53) ?_;obtain ⟨v2,hv8,hm⟩:=Bs hm;refine Co (.callF (ok:=(fun s:ah×Bool=>f s.1=some s.2)) (As:=(fun s:ah×Bool=>[ak.is s.1])) (A:=(fun s:ah×Bool=>(tB.is s.2))) (s:=(v1,v2)) .r hv8 ⟨.r,trivial⟩)<|An<|W.cB hm .r (fun hp10 hm=>?_) (fun hp10 hm=>?_)
   ·refine Aw<|Cm X<|Cg X<|WL.ns ?_;have hr11:=Si hm;clear hm;subst hr11;have hm:=hk3;try dsimp only at hm
    cases hm;exact W.e1
   ·exact W.skip<|WN.block<|Aq<|W.region<|WL.bg (s:=0) .r fun hl12=>Co (.addI1 .r .i64 hp6 hl12)<|Cm X<|WL.nil<|WN.ag n4 (v+1) (Nat.lt_succ_self n4) hm
  ·refine W.exit X ?_;have hr13:=Si hm;clear hm;subst hr13;have hm:=hk3;try dsimp only at hm
   refine Aq<|Aw<|Co (.assign .i64)<|WL.ns ?_;cases hm;exact W.e1
theorem iU(n:Nat)(s0_:List ah)(f:ah→Option Bool)(r:Bool)(hm:M.bI n s0_ f=some r):FSpec Tryz.prog 75 [((tL ak).is s0_),(tF Tryz.prog (fun s:ah×Bool=>f s.1=some s.2) (fun s:ah×Bool=>[ak.is s.1]) (fun s:ah×Bool=>(tB.is s.2)))] (tB.is r):=by
 unfold M.bI at hm;refine FSpec.of Tryz.func75 X X X fun g0=>Aw<|Co (.assign .bool)<|Ar<|Cm X<|WL.mv X X ?_;obtain ⟨tracke,hv1,hm⟩:=Bs hm;refine Co (.call C115 (jd _ _ _ _ hv1) ⟨.r,.r,trivial⟩)<|Co (.geI .r .i64)<|Cg X<|WL.ns ?_;cases hm;exact W.e1
theorem lX(n:Nat)(s0_:List Str)(f:Str→Option Bool)(r:Int)(hm:M.fQ n s0_ f=some r):FSpec Tryz.prog 178 [((tL tS).is s0_),(tF Tryz.prog (fun s:Str×Bool=>f s.1=some s.2) (fun s:Str×Bool=>[tS.is s.1]) (fun s:Str×Bool=>(tB.is s.2)))] (I6.is r):=by
 unfold M.fQ at hm;refine FSpec.of Tryz.func178 X X X fun g0=>Aw<|Co (.assign .i64)<|An<|W.seq<|Aw<|Cm X<|Co (.bg U38)<|Co (.move .i64)<|An<|W.block ?_;obtain ⟨s1,hs2,hk3⟩:=Bs hm;clear hm;refine W.lp (fun m (s:Int)=>M.bf s0_ f m s=some s1) (fun s=>[(8,(I6.is s)),(0,((tL tS).is s0_)),(1,(tF Tryz.prog (fun s:Str×Bool=>f s.1=some s.2) (fun s:Str×Bool=>[tS.is s.1]) (fun s:Str×Bool=>(tB.is s.2)))),(7,(I6.is (s0_.length:Int)))]) (fun s=>[]) _ (0:Int) hs2 ?_;rintro n4 v hm;try dsimp only at hm
 cases n4 with
 | zero=>rw [M.bf.eq_1] at hm;cases hm
 | succ n4=>
  rw [M.bf.eq_2] at hm;refine Aw<|Co .ltI<|An<|W.seq<|W.cD hm .r (fun hp6 hm=>?_) (fun hp6 hm=>?_)
  ·refine W.skip<|Aq<|W.seq<|W.block<|Aw<|Cm X<|Cg X<|Ar<|Cm X<|Cm X<|WL.mv X X ?_;obtain ⟨v1,hv7,hm⟩:=Bs hm;refine Co (.idx hv7 U38 Z9)<|Co (.load ty9) ?_;obtain ⟨v2,hv8,hm⟩:=Bs hm;refine Co (.callF (ok:=(fun s:Str×Bool=>f s.1=some s.2)) (As:=(fun s:Str×Bool=>[tS.is s.1])) (A:=(fun s:Str×Bool=>(tB.is s.2))) (s:=(v1,v2)) .r hv8 ⟨.r,trivial⟩)<|An<|W.cB hm .r (fun hp10 hm=>?_) (fun hp10 hm=>?_)
   ·refine Aw<|Cm X<|Cg X<|WL.ns ?_;have hr11:=Si hm;clear hm;subst hr11;have hm:=hk3;try dsimp only at hm
    cases hm;exact W.e1
   ·exact W.skip<|WN.block<|Aq<|W.region<|WL.bg (s:=0) .r fun hl12=>Co (.addI1 .r .i64 hp6 hl12)<|Cm X<|WL.nil<|WN.ag n4 (v+1) (Nat.lt_succ_self n4) hm
  ·refine W.exit X ?_;have hr13:=Si hm;clear hm;subst hr13;have hm:=hk3;try dsimp only at hm
   refine Aq<|Aw<|Co (.assign .i64)<|WL.ns ?_;cases hm;exact W.e1
theorem lG(n:Nat)(s0_:List Str)(f:Str→Option Bool)(r:Bool)(hm:M.dQ n s0_ f=some r):FSpec Tryz.prog 154 [((tL tS).is s0_),(tF Tryz.prog (fun s:Str×Bool=>f s.1=some s.2) (fun s:Str×Bool=>[tS.is s.1]) (fun s:Str×Bool=>(tB.is s.2)))] (tB.is r):=by
 unfold M.dQ at hm;refine FSpec.of Tryz.func154 X X X fun g0=>Aw<|Co (.assign .bool)<|Ar<|Cm X<|WL.mv X X ?_;obtain ⟨string,hv1,hm⟩:=Bs hm;refine Co (.call C178 (lX _ _ _ _ hv1) ⟨.r,.r,trivial⟩)<|Co (.geI .r .i64)<|Cg X<|WL.ns ?_;cases hm;exact W.e1
theorem ny(n:Nat)(s0_:List Int)(f:Int→Option Bool)(r:Int)(hm:M.gX n s0_ f=some r):FSpec Tryz.prog 197 [((tL (tI .u8)).is s0_),(tF Tryz.prog (fun s:Int×Bool=>f s.1=some s.2) (fun s:Int×Bool=>[(tI .u8).is s.1]) (fun s:Int×Bool=>(tB.is s.2)))] (I6.is r):=by
 unfold M.gX at hm;refine FSpec.of Tryz.func197 X X X fun g0=>Aw<|Co (.assign .i64)<|An<|W.seq<|Aw<|Cm X<|Co (.bg U103)<|Co (.move .i64)<|An<|W.block ?_;obtain ⟨s1,hs2,hk3⟩:=Bs hm;clear hm;refine W.lp (fun m (s:Int)=>M.bF s0_ f m s=some s1) (fun s=>[(8,(I6.is s)),(0,((tL (tI .u8)).is s0_)),(1,(tF Tryz.prog (fun s:Int×Bool=>f s.1=some s.2) (fun s:Int×Bool=>[(tI .u8).is s.1]) (fun s:Int×Bool=>(tB.is s.2)))),(7,(I6.is (s0_.length:Int)))]) (fun s=>[]) _ (0:Int) hs2 ?_;rintro n4 v hm;try dsimp only at hm
 cases n4 with
 | zero=>rw [M.bF.eq_1] at hm;cases hm
 | succ n4=>
  rw [M.bF.eq_2] at hm;refine Aw<|Co .ltI<|An<|W.seq<|W.cD hm .r (fun hp6 hm=>?_) (fun hp6 hm=>?_)
  ·refine W.skip<|Aq<|W.seq<|W.block<|Aw<|Cm X<|Cg X<|Ar<|Cm X<|Cm X<|WL.mv X X ?_;obtain ⟨v1,hv7,hm⟩:=Bs hm;refine Co (.idx hv7 U103 Z5)<|Co (.load ty5) ?_;obtain ⟨v2,hv8,hm⟩:=Bs hm;refine Co (.callF (ok:=(fun s:Int×Bool=>f s.1=some s.2)) (As:=(fun s:Int×Bool=>[(tI .u8).is s.1])) (A:=(fun s:Int×Bool=>(tB.is s.2))) (s:=(v1,v2)) .r hv8 ⟨.r,trivial⟩)<|An<|W.cB hm .r (fun hp10 hm=>?_) (fun hp10 hm=>?_)
   ·refine Aw<|Cm X<|Cg X<|WL.ns ?_;have hr11:=Si hm;clear hm;subst hr11;have hm:=hk3;try dsimp only at hm
    cases hm;exact W.e1
   ·exact W.skip<|WN.block<|Aq<|W.region<|WL.bg (s:=0) .r fun hl12=>Co (.addI1 .r .i64 hp6 hl12)<|Cm X<|WL.nil<|WN.ag n4 (v+1) (Nat.lt_succ_self n4) hm
  ·refine W.exit X ?_;have hr13:=Si hm;clear hm;subst hr13;have hm:=hk3;try dsimp only at hm
   refine Aq<|Aw<|Co (.assign .i64)<|WL.ns ?_;cases hm;exact W.e1
theorem mr(n:Nat)(s0_:List Int)(f:Int→Option Bool)(r:Bool)(hm:M.eB n s0_ f=some r):FSpec Tryz.prog 180 [((tL (tI .u8)).is s0_),(tF Tryz.prog (fun s:Int×Bool=>f s.1=some s.2) (fun s:Int×Bool=>[(tI .u8).is s.1]) (fun s:Int×Bool=>(tB.is s.2)))] (tB.is r):=by
 unfold M.eB at hm;refine FSpec.of Tryz.func180 X X X fun g0=>Aw<|Co (.assign .bool)<|Ar<|Cm X<|WL.mv X X ?_;obtain ⟨byte,hv1,hm⟩:=Bs hm;refine Co (.call C197 (ny _ _ _ _ hv1) ⟨.r,.r,trivial⟩)<|Co (.geI .r .i64)<|Cg X<|WL.ns ?_;cases hm;exact W.e1
theorem uq(c:Int)(r:Bool)(hm:M.jA c=some r):FSpec Tryz.prog 179 [((tI .u8).is c)] (tB.is r):=by
 unfold M.jA at hm;refine FSpec.of Tryz.func179 X X X fun g0=>Aw<|Co (.assign .bool)<|Ar<|Cm X<|Co (.ltI .r (.int (inR8.2 (by omega))))<|WL.mv X X ?_;rcases iteD hm with ⟨hp2,hb1,hm⟩ | ⟨hp2,hb1,hm⟩
 ·refine Cp hb1<|Cp hb1<|Co (.pT hb1 .bool)<|Cg X<|WL.ns ?_;cases hm;exact W.e1
 ·refine Cy hb1 .move<|Cy hb1 (.gtI .r (.int (inR8.2 (by omega))))<|Co (.pF hb1)<|Cg X<|WL.ns ?_;cases hm;exact W.e1
theorem vQ(n:Nat)(s0_:Str)(r:Bool)(hm:M.mQ n s0_=some r):FSpec Tryz.prog 156 [(tS.is s0_)] (tB.is r):=by
 unfold M.mQ at hm;refine FSpec.of Tryz.func156 X X X fun g0=>Aw<|Co (.assign .bool)<|Ar<|Co (.assign .func)<|Ar<|Cm X<|Co (.neS .r .s)<|WL.mv X X ?_;rcases iteB hm with ⟨hp2,hb1,hm⟩ | ⟨hp2,hb1,hm⟩
 ·refine Cy hb1 .move<|Cy hb1 (.kY U9)<|Cy hb1 (.leI .r .i64)<|Co (.pT hb1)<|WL.mv X X ?_;rcases iteD hm with ⟨hp4,hb3,hm⟩ | ⟨hp4,hb3,hm⟩
  ·refine Cy hb3 .move<|Cy hb3 (.bytes U9 U103 U5)<|Cy hb3 .move ?_;obtain ⟨byte,hv5,hm⟩:=Bs hm;refine Cy hb3 (.call C180 (mr _ _ _ _ hv5) ⟨.r,(Opd.fnE .r C179 (fun s hs=>uq _ _ hs)),trivial⟩)<|Cy hb3 .notB<|Co (.pT hb3)<|Cg X<|WL.ns ?_;cases hm;exact W.e1
  ·refine Cp hb3<|Cp hb3<|Cp hb3<|Cp hb3<|Cp hb3<|Co (.pF hb3 .bool)<|Cg X<|WL.ns ?_;cases hm;exact W.e1
 ·refine Cp hb1<|Cp hb1<|Cp hb1<|Co (.pF hb1 .bool)<|Cm X<|Cp X<|Cp X<|Cp X<|Cp X<|Cp X<|Co (.pF X .bool)<|Cg X<|WL.ns ?_;cases hm;exact W.e1
theorem sU(n:Nat)(s0_:Str)(r:Bool)(hm:M.kK n s0_=some r):FSpec Tryz.prog 155 [(tS.is s0_)] (tB.is r):=by
 unfold M.kK at hm;refine FSpec.of Tryz.func155 X X X fun g0=>Aw<|Co (.assign .bool)<|Ar<|WL.mv X X ?_;obtain ⟨word,hv1,hm⟩:=Bs hm;refine Co (.call C156 (vQ _ _ _ hv1) ⟨.r,trivial⟩)<|Co .notB<|Cg X<|WL.ns ?_;cases hm;exact W.e1
theorem pQ(n:Nat)(l:List Str)(r:Bool)(hm:M.kV n l=some r):FSpec Tryz.prog 116 [((tL tS).is l)] (tB.is r):=by
 unfold M.kV at hm;refine FSpec.of Tryz.func116 X X X fun g0=>Aw<|Co (.assign .bool)<|Ar<|Cm X<|Co (.bg U38)<|Co (.leI .r .i64)<|WL.mv X X ?_;rcases iteD hm with ⟨hp2,hb1,hm⟩ | ⟨hp2,hb1,hm⟩
 ·refine Cy hb1 .move ?_;obtain ⟨string,hv3,hm⟩:=Bs hm;refine Cy hb1 (.call C154 (lG _ _ _ _ hv3) ⟨.r,(Opd.fn C155 (fun s hs=>sU _ _ _ hs)),trivial⟩)<|Cy hb1 .notB<|Co (.pT hb1)<|Cg X<|WL.ns ?_;cases hm;exact W.e1
 ·refine Cp hb1<|Cp hb1<|Cp hb1<|Co (.pF hb1 .bool)<|Cg X<|WL.ns ?_;cases hm;exact W.e1
theorem uP(n:Nat)(s0_:Str)(r:Bool)(hm:M.lU n s0_=some r):FSpec Tryz.prog 77 [(tS.is s0_)] (tB.is r):=by
 unfold M.lU at hm;refine FSpec.of Tryz.func77 X X X fun g0=>Aw<|Co (.assign .bool)<|Ar<|Cm X<|Co (.buildSlice (n:=1) (ys:=[(0,s0_)]) (z:=([]:Str)) (xs:=[s0_]) U38 el9 ze9 ⟨X,.r,trivial⟩ (by simp) (by decide) X) ?_;obtain ⟨valid,hv1,hm⟩:=Bs hm;refine Co (.call C116 (pQ _ _ _ hv1) ⟨.r,trivial⟩)<|Cg X<|WL.ns ?_;cases hm;exact W.e1
theorem rR(n:Nat)(w:ah)(r:Bool)(hm:M.jN n w=some r):FSpec Tryz.prog 76 [(ak.is w)] (tB.is r):=by
 unfold M.jN at hm;refine FSpec.of Tryz.func76 X X X fun g0=>Aw<|Co .box<|Co (.assign .bool)<|Ar<|Co (.fA U53 J9 kG)<|Co (.load ty9) ?_;obtain ⟨isword,hv1,hm⟩:=Bs hm;refine Co (.call C77 (uP _ _ _ hv1) ⟨.r,trivial⟩)<|Co .notB<|WL.mv X X ?_;rcases iteR hm with ⟨hp3,hb2,hm⟩ | ⟨hp3,hb2,hm⟩
 ·refine Cp hb2<|Cp hb2<|Cp hb2<|Co (.pT hb2 .bool)<|Cm X<|Cp X<|Cp X<|Cp X<|Co (.pT X .bool)<|Cg X<|WL.ns ?_;cases hm;exact W.e1
 ·refine Cy hb2 (.fA U53 J3 eO)<|Cy hb2 (.load ty3)<|Cy hb2 (.ltI .r .i64)<|Co (.pF hb2)<|WL.mv X X ?_;rcases iteD hm with ⟨hp5,hb4,hm⟩ | ⟨hp5,hb4,hm⟩
  ·refine Cp hb4<|Cp hb4<|Cp hb4<|Co (.pT hb4 .bool)<|Cg X<|WL.ns ?_;cases hm;exact W.e1
  ·refine Cy hb4 (.fA U53 J3 eO)<|Cy hb4 (.load ty3)<|Cy hb4 (.gtI .r .i64)<|Co (.pF hb4)<|Cg X<|WL.ns ?_;cases hm;exact W.e1
theorem jS(n:Nat)(l:List ah)(r:Bool)(hm:M.iw n l=some r):FSpec Tryz.prog 43 [((tL ak).is l)] (tB.is r):=by
 unfold M.iw at hm;refine FSpec.of Tryz.func43 X X X fun g0=>Aw<|Co (.assign .bool)<|Ar<|Cm X<|Co (.bg U30)<|Co (.leI .r .i64)<|WL.mv X X ?_;rcases iteD hm with ⟨hp2,hb1,hm⟩ | ⟨hp2,hb1,hm⟩
 ·refine Cy hb1 .move ?_;obtain ⟨tracke,hv3,hm⟩:=Bs hm;refine Cy hb1 (.call C75 (iU _ _ _ _ hv3) ⟨.r,(Opd.fn C76 (fun s hs=>rR _ _ _ hs)),trivial⟩)<|Cy hb1 .notB<|Co (.pT hb1)<|Cg X<|WL.ns ?_;cases hm;exact W.e1
 ·refine Cp hb1<|Cp hb1<|Cp hb1<|Co (.pF hb1 .bool)<|Cg X<|WL.ns ?_;cases hm;exact W.e1
theorem rT(n:Nat)(s0_:Str)(f:Int→Option Bool)(truth:Bool)(r:Int)(hm:M.strings_indexFunc n s0_ f truth=some r):FSpec Tryz.prog 183 [(tS.is s0_),(tF Tryz.prog (fun s:Int×Bool=>f s.1=some s.2) (fun s:Int×Bool=>[(tI .i32).is s.1]) (fun s:Int×Bool=>(tB.is s.2))),(tB.is truth)] (I6.is r):=by
 unfold M.strings_indexFunc at hm;refine FSpec.of Tryz.func183 X X X fun g0=>Aw<|Co (.assign .i64)<|An<|W.seq<|Aw<|Cm X<|Cr (OpR.range 10 U9) fun b=>An<|W.block ?_;obtain ⟨s1,hs2,hk3⟩:=Bs hm;clear hm;refine W.lp (fun m (s:Nat)=>M.dC s0_ f truth m s=some s1) (fun s=>[(1,(tF Tryz.prog (fun s:Int×Bool=>f s.1=some s.2) (fun s:Int×Bool=>[(tI .i32).is s.1]) (fun s:Int×Bool=>(tB.is s.2)))),(2,(tB.is truth)),(10,(Bp b 0))]) (fun s=>[(10,It s0_ s b)]) _ 0 hs2 ?_;rintro n4 v hm;try dsimp only at hm
 cases n4 with
 | zero=>rw [M.dC.eq_1] at hm;cases hm
 | succ n4=>
  rw [M.dC.eq_2] at hm;refine W.sr ?_;by_cases hp5:v<s0_.length
  ·rw [if_pos hp5] at hm;refine Cr (OpR.nextT (b:=b) 10 hp5 X) fun _=>Co .extract30<|An<|W.seq<|W.condT .r<|W.skip<|Aq<|W.block<|Aw<|Co .extract31<|Co .extract32<|Cg X<|Cg X<|Ar<|Cm X<|WL.mv X X ?_;obtain ⟨v1,hv6,hm⟩:=Bs hm;refine Co (.callF (ok:=(fun s:Int×Bool=>f s.1=some s.2)) (As:=(fun s:Int×Bool=>[(tI .i32).is s.1])) (A:=(fun s:Int×Bool=>(tB.is s.2))) (s:=(((runeAt s0_ v).1:Int),v1)) .r hv6 ⟨.r,trivial⟩)<|Cm X<|Co (.eqB U4)<|An<|W.cB hm .r (fun hp8 hm=>?_) (fun hp8 hm=>?_)
   ·refine Aw<|Cm X<|Cg X<|WL.ns ?_;have hr9:=Si hm;clear hm;subst hr9;have hm:=hk3;try dsimp only at hm
    cases hm;exact W.e1
   ·exact W.skip<|WN.block<|WN.ag n4 (v+(runeAt s0_ v).2) (Nat.lt_succ_self n4) hm
  ·rw [if_neg hp5] at hm;refine Co (.nextF 10 hp5 X)<|Co .extract10<|An<|W.seq<|W.condF .r<|W.exit X ?_;have hr10:=Si hm;clear hm;subst hr10;have hm:=hk3;try dsimp only at hm
   refine Aq<|Aw<|Co (.assign .i64)<|WL.ns ?_;cases hm;exact W.e1
theorem mX(n:Nat)(s0_:Str)(f:Int→Option Bool)(r:Int)(hm:M.strings_IndexFunc n s0_ f=some r):FSpec Tryz.prog 166 [(tS.is s0_),(tF Tryz.prog (fun s:Int×Bool=>f s.1=some s.2) (fun s:Int×Bool=>[(tI .i32).is s.1]) (fun s:Int×Bool=>(tB.is s.2)))] (I6.is r):=by
 unfold M.strings_IndexFunc at hm;refine FSpec.of Tryz.func166 X X X fun g0=>Aw<|Co (.assign .i64)<|Ar<|Cm X<|WL.mv X X ?_;obtain ⟨indexf,hv1,hm⟩:=Bs hm;refine Co (.call C183 (rT _ _ _ _ _ hv1) ⟨.r,.r,.bool,trivial⟩)<|Cg X<|WL.ns ?_;cases hm;exact W.e1
theorem ut(b:Int)(r:Bool)(hm:M.j5 b=some r):FSpec Tryz.prog 167 [((tI .i32).is b)] (tB.is r):=by
 unfold M.j5 at hm;refine FSpec.of Tryz.func167 X X X fun g0=>Aw<|Co (.assign .bool)<|Ar<|Cm X<|Co (.ltI .r (.int (inR32.2 (by omega))))<|WL.mv X X ?_;rcases iteD hm with ⟨hp2,hb1,hm⟩ | ⟨hp2,hb1,hm⟩
 ·refine Cp hb1<|Cp hb1<|Co (.pT hb1 .bool)<|Cg X<|WL.ns ?_;cases hm;exact W.e1
 ·refine Cy hb1 .move<|Cy hb1 (.gtI .r (.int (inR32.2 (by omega))))<|Co (.pF hb1)<|Cg X<|WL.ns ?_;cases hm;exact W.e1
theorem vR(n:Nat)(s0_:Str)(r:Str×Str)(hm:M.mR n s0_=some r):FSpec Tryz.prog 133 [(tS.is s0_)] (Asn.tuple2 (tS.is r.1) (tS.is r.2)):=by
 unfold M.mR at hm;refine FSpec.of Tryz.func133 X X X fun g0=>Aw<|Co (.assign .s)<|Co (.assign .s)<|Ar<|WL.mv X X ?_;obtain ⟨indexf,hv1,hm⟩:=Bs hm;refine Co (.call C166 (mX _ _ _ _ hv1) ⟨.r,(Opd.fn C167 (fun s hs=>ut _ _ hs)),trivial⟩)<|Cg X<|An<|W.seq<|Aw<|Cm X<|Co (.ltI .r .i64)<|An<|W.cD hm .r (fun hp3 hm=>?_) (fun hp3 hm=>?_)
 ·refine Aw<|Cm X<|Cg X<|Co (.assign .s)<|WL.ns ?_;cases hm;exact W.ret2 () X X .r .r trivial
 ·refine W.skip<|Aq<|W.seq ?_;obtain ⟨v,hv4,hm⟩:=Bs hm;obtain ⟨v1,hv5,hm⟩:=Bs hm;refine W.d0 [.c _,.c _,.c _,.c _,.c _,.c _,.c _,.c _] [([],[0]),([],[4]),([0,1],[]),([],[0]),([],[4]),([3,4],[]),([2],[]),([5],[])] Mx ⟨Dn .move,Dn .move,Dn (.sslcHi hv4 U9),Dn .move,Dn .move,Dn (.sslcLo hv5 U9),Dn .assign,Dn .assign,trivial⟩<|WN.seq ?_;cases hm;exact W.ret2 () X X .r .r trivial
theorem qa(n:Nat)(s0_:Str)(f:Int→Option Bool)(r:Bool)(hm:M.strings_ContainsFunc n s0_ f=some r):FSpec Tryz.prog 135 [(tS.is s0_),(tF Tryz.prog (fun s:Int×Bool=>f s.1=some s.2) (fun s:Int×Bool=>[(tI .i32).is s.1]) (fun s:Int×Bool=>(tB.is s.2)))] (tB.is r):=by
 unfold M.strings_ContainsFunc at hm;refine FSpec.of Tryz.func135 X X X fun g0=>Aw<|Co (.assign .bool)<|Ar<|Cm X<|WL.mv X X ?_;obtain ⟨indexf,hv1,hm⟩:=Bs hm;refine Co (.call C166 (mX _ _ _ _ hv1) ⟨.r,.r,trivial⟩)<|Co (.geI .r .i64)<|Cg X<|WL.ns ?_;cases hm;exact W.e1
theorem uQ(b:Int)(r:Bool)(hm:M.kW b=some r):FSpec Tryz.prog 134 [((tI .i32).is b)] (tB.is r):=by
 unfold M.kW at hm;refine FSpec.of Tryz.func134 X X X fun g0=>Aw<|Co (.assign .bool)<|Ar<|Cm X<|Co (.ltI .r (.int (inR32.2 (by omega))))<|WL.mv X X ?_;rcases iteD hm with ⟨hp2,hb1,hm⟩ | ⟨hp2,hb1,hm⟩
 ·refine Cp hb1<|Cp hb1<|Co (.pT hb1 .bool)<|Cg X<|WL.ns ?_;cases hm;exact W.e1
 ·refine Cy hb1 .move<|Cy hb1 (.gtI .r (.int (inR32.2 (by omega))))<|Co (.pF hb1)<|Cg X<|WL.ns ?_;cases hm;exact W.e1
theorem nK(n:Nat)(s0_:Str)(r:Bool)(hm:M.ko n s0_=some r):FSpec Tryz.prog 95 [(tS.is s0_)] (tB.is r):=by
 unfold M.ko at hm;refine FSpec.of Tryz.func95 X X X fun g0=>Aw<|Co (.assign .bool)<|Ar<|WL.mv X X ?_;obtain ⟨parted,hv1,hm⟩:=Bs hm;refine Co (.call C133 (vR _ _ _ hv1) ⟨.r,trivial⟩)<|Cm X<|Co .extract0<|Co .extract1<|Cg X<|Cg X<|Ar<|Co (.assign .func)<|Ar<|Cm X<|Co (.kY U9)<|Co (.geI .r .i64)<|WL.mv X X ?_;rcases iteD hm with ⟨hp3,hb2,hm⟩ | ⟨hp3,hb2,hm⟩
 ·refine Cy hb2 .move<|Cy hb2 (.kY U9)<|Cy hb2 (.leI .r .i64)<|Co (.pT hb2)<|WL.mv X X ?_;rcases iteD hm with ⟨hp5,hb4,hm⟩ | ⟨hp5,hb4,hm⟩
  ·refine Cy hb4 .move ?_;obtain ⟨b,hv6,hm⟩:=Bs hm;refine Cy hb4 (.sidx hv6 U9 .r .i64)<|Cy hb4 (.neI .r (.int (inR8.2 (by omega))))<|Co (.pT hb4)<|WL.mv X X ?_;rcases iteD hm with ⟨hp8,hb7,hm⟩ | ⟨hp8,hb7,hm⟩
   ·refine Cy hb7 .move<|Cy hb7 (.kY U9)<|Cy hb7 (.leI .r .i64)<|Co (.pT hb7)<|WL.mv X X ?_;rcases iteD hm with ⟨hp10,hb9,hm⟩ | ⟨hp10,hb9,hm⟩
    ·refine Cy hb9 .move<|Cy hb9 .move ?_;obtain ⟨contai,hv11,hm⟩:=Bs hm;refine Cy hb9 (.call C135 (qa _ _ _ _ hv11) ⟨.r,(Opd.fnE .r C134 (fun s hs=>uQ _ _ hs)),trivial⟩)<|Cy hb9 .notB<|Co (.pT hb9)<|Cg X<|WL.ns ?_;cases hm;exact W.e1
    ·refine Cp hb9<|Cp hb9<|Cp hb9<|Cp hb9<|Co (.pF hb9 .bool)<|Cg X<|WL.ns ?_;cases hm;exact W.e1
   ·refine Cp hb7<|Cp hb7<|Cp hb7<|Co (.pF hb7 .bool)<|Cm X<|Cp X<|Cp X<|Cp X<|Cp X<|Co (.pF X .bool)<|Cg X<|WL.ns ?_;cases hm;exact W.e1
  ·refine Cp hb4<|Cp hb4<|Cp hb4<|Co (.pF hb4 .bool)<|Cm X<|Cp X<|Cp X<|Cp X<|Co (.pF X .bool)<|Cm X<|Cp X<|Cp X<|Cp X<|Cp X<|Co (.pF X .bool)<|WL.gv X X ?_;refine WL.ns ?_;cases hm;exact W.e1
 ·refine Cp hb2<|Cp hb2<|Cp hb2<|Co (.pF hb2 .bool)<|Cm X<|Cp X<|Cp X<|Cp X<|Co (.pF X .bool)<|Cm X<|Cp X<|Cp X<|Cp X<|Co (.pF X .bool)<|Cm X<|Ap X X ?_;refine Cp X<|Cp X<|Cp X<|Co (.pF X .bool)<|Cg X<|WL.ns ?_;cases hm;exact W.e1
theorem nG(n:Nat)(t:aa)(r:Bool)(hm:M.iE n t=some r):FSpec Tryz.prog 59 [(ae.is t)] (tB.is r):=by
 unfold M.iE at hm;refine FSpec.of Tryz.func59 X X X fun g0=>Aw<|Co .box<|Co (.assign .bool)<|An<|W.seq<|W.block ?_;obtain ⟨s1,hs2,hk3⟩:=Bs hm;clear hm;refine W.join (fun s:Bool=>s=s1) (fun s=>[(3,(tB.is s)),(1,(ae.ptr t))]) (fun s=>[]) ?_ ?_
 ·rintro v hj49;try dsimp only at hj49
  subst hj49;have hm:=hk3;clear hk3;try dsimp only at hm
  refine W.cB hm .r (fun hp10 hm=>?_) (fun hp10 hm=>?_)
  ·refine Aw<|Co (.assign .bool)<|WL.ns ?_;cases hm;exact W.e1
  ·obtain ⟨s11,hs12,hk13⟩:=Bs hm;clear hm;refine W.join (fun s:Bool=>s=s11) (fun s=>[(18,(tB.is s)),(1,(ae.ptr t))]) (fun s=>[]) ?_ ?_
   ·rintro v1 hj48;try dsimp only at hj48
    subst hj48;have hm:=hk13;clear hk13;try dsimp only at hm
    refine W.cB hm .r (fun hp19 hm=>?_) (fun hp19 hm=>?_)
    ·refine Aw<|Co (.assign .bool)<|WL.ns ?_;cases hm;exact W.e1
    ·obtain ⟨s20,hs21,hk22⟩:=Bs hm;clear hm;refine W.join (fun s:Bool=>s=s20) (fun s=>[(29,(tB.is s)),(1,(ae.ptr t))]) (fun s=>[]) ?_ ?_
     ·rintro v2 hj47;try dsimp only at hj47
      subst hj47;have hm:=hk22;clear hk22;try dsimp only at hm
      refine W.cB hm .r (fun hp29 hm=>?_) (fun hp29 hm=>?_)
      ·refine Aw<|Co (.assign .bool)<|WL.ns ?_;cases hm;exact W.e1
      ·obtain ⟨s30,hs31,hk32⟩:=Bs hm;clear hm;refine W.join (fun s:Bool=>s=s30) (fun s=>[(46,(tB.is s)),(1,(ae.ptr t))]) (fun s=>[]) ?_ ?_
       ·rintro v3 hj46;try dsimp only at hj46
        subst hj46;have hm:=hk32;clear hk32;try dsimp only at hm
        refine W.cB hm .r (fun hp39 hm=>?_) (fun hp39 hm=>?_)
        ·refine Aw<|Co (.assign .bool)<|WL.ns ?_;cases hm;exact W.e1
        ·refine W.skip<|WN.block<|Aq<|Aw<|Co (.fA U33 J3 bN)<|Co (.load ty3)<|Co (.eqI .r .i64)<|WL.mv X X ?_;rcases iteD hm with ⟨hp41,hb40,hm⟩ | ⟨hp41,hb40,hm⟩
         ·refine Cp hb40<|Cp hb40<|Cp hb40<|Cp hb40<|WL.pass2 X X X X X X<|WL.pass2 X X X X X X<|WL.pass2 X X X X X X<|Cp hb40<|Cp hb40<|WL.pass2 X X X X X X<|WL.pass2 X X X X X X<|WL.pass2 X X X X X X<|Cp hb40<|Co (.pT hb40 .bool)<|Cg X<|WL.ns ?_;cases hm;exact W.e1
         ·refine Cy hb40 (.fA U33 J3 bN)<|Cy hb40 (.load ty3)<|Cy hb40 (.eqI .r .i64)<|Cy hb40 .move ?_;rcases iteD hm with ⟨hp43,hb42,hm⟩ | ⟨hp43,hb42,hm⟩
          ·refine Cp hb42<|Cp hb42<|Cp hb42<|Cy hb40 (.pT hb42 .bool)<|Cy hb40 .move<|Cy X (.fA U33 J4 dO)<|Cy X (.load ty4)<|Cy X .notB<|Cy hb40 (.pT X)<|Co (.pF hb40)<|Cg X<|WL.ns ?_;cases hm;exact W.e1
          ·refine Cy hb42 (.fA U33 J3 bN)<|Cy hb42 (.load ty3)<|Cy hb42 (.eqI .r .i64)<|Cy hb40 (.pF hb42)<|Cy hb40 .move ?_;rcases iteD hm with ⟨hp45,hb44,hm⟩ | ⟨hp45,hb44,hm⟩
           ·refine Cy hb44 (.fA U33 J4 dO)<|Cy hb44 (.load ty4)<|Cy hb44 .notB<|Cy hb40 (.pT hb44)<|Co (.pF hb40)<|Cg X<|WL.ns ?_;cases hm;exact W.e1
           ·refine Cp hb44<|Cp hb44<|Cp hb44<|Cy hb40 (.pF hb44 .bool)<|Co (.pF hb40)<|Cg X<|WL.ns ?_;cases hm;exact W.e1
       ·have hm:=hs31;clear hs31;refine W.region<|Co (.fA U33 J9 dF)<|Co (.load ty9)<|Co (.neS .r .s)<|WL.mv X X ?_;rcases iteB hm with ⟨hp34,hb33,hm⟩ | ⟨hp34,hb33,hm⟩
        ·refine Cy hb33 (.fA U33 J9 dF)<|Cy hb33 (.load ty9) ?_;obtain ⟨valid1,hv35,hm⟩:=Bs hm;refine Cy hb33 (.call C95 (nK _ _ _ hv35) ⟨.r,trivial⟩)<|Cy hb33 .notB<|Cy hb33 .move ?_;rcases iteR hm with ⟨hp37,hb36,hm⟩ | ⟨hp37,hb36,hm⟩
         ·exact Cp hb36<|Cp hb36<|Cp hb36<|Cp hb36<|Cp hb36<|Cy hb33 (.pT hb36 .bool)<|Co (.pT hb33)<|Cg X<|WL.nil<|WN.mt true (Si hm)
         ·exact Cy hb36 (.fA U33 J9 dF)<|Cy hb36 (.load ty9)<|Cy hb36 (.fA U33 J9 cK)<|Cy hb36 (.load ty9)<|Cy hb36 .eqS<|Cy hb33 (.pF hb36)<|Co (.pT hb33)<|Cg X<|WL.nil<|WN.mt (t.Was==t.Label) (Si hm)
        ·exact Cp hb33<|Cp hb33<|Cp hb33<|Cp hb33<|Cp hb33<|WL.pass2 X X X X X X<|WL.pass2 X X X X X X<|WL.pass2 X X X X X X<|WL.pass2 X X X X X X<|WL.pass2 X X X X X X<|Cp hb33<|Co (.pF hb33 .bool)<|Cg X<|WL.nil<|WN.mt false (Si hm)
     ·have hm:=hs21;clear hs21;refine Aw<|Co (.fA U33 J3 dN)<|Co (.load ty3)<|Co (.eqI .r .i64)<|Co (.fA U33 J9 cK)<|Co (.load ty9)<|Co (.eqS .r .s)<|Co (.neB U4)<|Cg X<|An<|W.cB hm .r (fun hp24 hm=>?_) (fun hp24 hm=>?_)
      ·exact W.skip<|WN.mt ((decide (t.Kind=(0:Int))) !=(t.Label==([]:Str))) (Si hm)
      ·refine W.region<|Co (.fA U33 J9 cK)<|Co (.load ty9)<|Co (.neS .r .s)<|WL.mv X X ?_;rcases iteB hm with ⟨hp26,hb25,hm⟩ | ⟨hp26,hb25,hm⟩
       ·refine Cy hb25 (.fA U33 J9 cK)<|Cy hb25 (.load ty9) ?_;obtain ⟨valid,hv27,hm⟩:=Bs hm;exact Cy hb25 (.call C95 (nK _ _ _ hv27) ⟨.r,trivial⟩)<|Cy hb25 .notB<|Co (.pT hb25)<|Cg X<|WL.nil<|WN.mt (!valid) (Si hm)
       ·exact Cp hb25<|Cp hb25<|Cp hb25<|Cp hb25<|Co (.pF hb25 .bool)<|Cg X<|WL.nil<|WN.mt false (Si hm)
   ·have hm:=hs12;clear hs12;refine W.region<|Co (.fA U33 J30 fJ)<|Co (.load ty30) ?_;obtain ⟨validr,hv14,hm⟩:=Bs hm;refine Co (.call C43 (jS _ _ _ hv14) ⟨.r,trivial⟩)<|Co .notB<|WL.mv X X ?_;rcases iteR hm with ⟨hp16,hb15,hm⟩ | ⟨hp16,hb15,hm⟩
    ·exact Cp hb15<|Cp hb15<|Cp hb15<|Cp hb15<|Co (.pT hb15 .bool)<|Cg X<|WL.nil<|WN.mt true (Si hm)
    ·refine Cy hb15 (.fA U33 J30 fK)<|Cy hb15 (.load ty30) ?_;obtain ⟨validr1,hv17,hm⟩:=Bs hm;exact Cy hb15 (.call C43 (jS _ _ _ hv17) ⟨.r,trivial⟩)<|Cy hb15 .notB<|Co (.pF hb15)<|Cg X<|WL.nil<|WN.mt (!validr1) (Si hm)
 ·have hm:=hs2;clear hs2;refine W.region<|Co (.fA U33 J3 dN)<|Co (.load ty3)<|Co (.ltI .r .i64)<|WL.mv X X ?_;rcases iteD hm with ⟨hp5,hb4,hm⟩ | ⟨hp5,hb4,hm⟩
  ·exact Cp hb4<|Cp hb4<|Cp hb4<|Co (.pT hb4 .bool)<|Cm X<|Cp X<|Cp X<|Cp X<|Cp X<|Co (.pT X .bool)<|Cg X<|WL.nil<|WN.mt true (Si hm)
  ·refine Cy hb4 (.fA U33 J3 dN)<|Cy hb4 (.load ty3)<|Cy hb4 (.gtI .r .i64)<|Co (.pF hb4)<|WL.mv X X ?_;rcases iteD hm with ⟨hp7,hb6,hm⟩ | ⟨hp7,hb6,hm⟩
   ·exact Cp hb6<|Cp hb6<|Cp hb6<|Cp hb6<|Co (.pT hb6 .bool)<|Cg X<|WL.nil<|WN.mt true (Si hm)
   ·refine Cy hb6 (.fA U33 J23 dA)<|Cy hb6 (.load ty23) ?_;obtain ⟨validi,hv8,hm⟩:=Bs hm;exact Cy hb6 (.call C74 (jY _ _ hv8) ⟨.r,trivial⟩)<|Cy hb6 .notB<|Co (.pF hb6)<|Cg X<|WL.nil<|WN.mt (!validi) (Si hm)
theorem qV(slf:aa→Int→Option Bool)(ih:∀ (t:aa) (depth:Int) (r:Bool),slf t depth=some r→FSpec Tryz.prog 29 [(ae.is t),(I6.is depth)] (tB.is r))(k:aa)(c:Int)(r:Bool)(hm:M.iF slf k c=some r):FSpec Tryz.prog 61 [(ae.is k),(I6.ptr c)] (tB.is r):=by
 unfold M.iF at hm;refine FSpec.of Tryz.func61 X X X fun g0=>Aw<|Co .box<|Co (.assign .bool)<|Ar<|Co (.load ty33)<|Co (.load ty3) ?_;obtain ⟨v,hv1,hm⟩:=Bs hm;refine Co (.addC hv1 .r .i64) ?_;obtain ⟨validt,hv2,hm⟩:=Bs hm;refine Co (.call C29 (ih _ _ _ hv2) ⟨.r,.r,trivial⟩)<|Co .notB<|Cg X<|WL.ns ?_;cases hm;exact W.e1
theorem je(n:Nat)(s0_:List aa)(f:aa→Option Bool)(r:Int)(hm:M.dm n s0_ f=some r):FSpec Tryz.prog 96 [((tL ae).is s0_),(tF Tryz.prog (fun s:aa×Bool=>f s.1=some s.2) (fun s:aa×Bool=>[ae.is s.1]) (fun s:aa×Bool=>(tB.is s.2)))] (I6.is r):=by
 unfold M.dm at hm;refine FSpec.of Tryz.func96 X X X fun g0=>Aw<|Co (.assign .i64)<|An<|W.seq<|Aw<|Cm X<|Co (.bg U31)<|Co (.move .i64)<|An<|W.block ?_;obtain ⟨s1,hs2,hk3⟩:=Bs hm;clear hm;refine W.lp (fun m (s:Int)=>M.aL s0_ f m s=some s1) (fun s=>[(8,(I6.is s)),(0,((tL ae).is s0_)),(1,(tF Tryz.prog (fun s:aa×Bool=>f s.1=some s.2) (fun s:aa×Bool=>[ae.is s.1]) (fun s:aa×Bool=>(tB.is s.2)))),(7,(I6.is (s0_.length:Int)))]) (fun s=>[]) _ (0:Int) hs2 ?_;rintro n4 v hm;try dsimp only at hm
 cases n4 with
 | zero=>rw [M.aL.eq_1] at hm;cases hm
 | succ n4=>
  rw [M.aL.eq_2] at hm;refine Aw<|Co .ltI<|An<|W.seq<|W.cD hm .r (fun hp6 hm=>?_) (fun hp6 hm=>?_)
  ·refine W.skip<|Aq<|W.seq<|W.block<|Aw<|Cm X<|Cg X<|Ar<|Cm X<|Cm X<|WL.mv X X ?_;obtain ⟨v1,hv7,hm⟩:=Bs hm;refine Co (.idx hv7 U31 Z33)<|Co (.load ty33) ?_;obtain ⟨v2,hv8,hm⟩:=Bs hm;refine Co (.callF (ok:=(fun s:aa×Bool=>f s.1=some s.2)) (As:=(fun s:aa×Bool=>[ae.is s.1])) (A:=(fun s:aa×Bool=>(tB.is s.2))) (s:=(v1,v2)) .r hv8 ⟨.r,trivial⟩)<|An<|W.cB hm .r (fun hp10 hm=>?_) (fun hp10 hm=>?_)
   ·refine Aw<|Cm X<|Cg X<|WL.ns ?_;have hr11:=Si hm;clear hm;subst hr11;have hm:=hk3;try dsimp only at hm
    cases hm;exact W.e1
   ·exact W.skip<|WN.block<|Aq<|W.region<|WL.bg (s:=0) .r fun hl12=>Co (.addI1 .r .i64 hp6 hl12)<|Cm X<|WL.nil<|WN.ag n4 (v+1) (Nat.lt_succ_self n4) hm
  ·refine W.exit X ?_;have hr13:=Si hm;clear hm;subst hr13;have hm:=hk3;try dsimp only at hm
   refine Aq<|Aw<|Co (.assign .i64)<|WL.ns ?_;cases hm;exact W.e1
theorem iV(n:Nat)(s0_:List aa)(f:aa→Option Bool)(r:Bool)(hm:M.bJ n s0_ f=some r):FSpec Tryz.prog 60 [((tL ae).is s0_),(tF Tryz.prog (fun s:aa×Bool=>f s.1=some s.2) (fun s:aa×Bool=>[ae.is s.1]) (fun s:aa×Bool=>(tB.is s.2)))] (tB.is r):=by
 unfold M.bJ at hm;refine FSpec.of Tryz.func60 X X X fun g0=>Aw<|Co (.assign .bool)<|Ar<|Cm X<|WL.mv X X ?_;obtain ⟨tracke,hv1,hm⟩:=Bs hm;refine Co (.call C96 (je _ _ _ _ hv1) ⟨.r,.r,trivial⟩)<|Co (.geI .r .i64)<|Cg X<|WL.ns ?_;cases hm;exact W.e1
theorem si:∀ (n:Nat) (t:aa) (depth:Int) (r:Bool),M.ed n t depth=some r→FSpec Tryz.prog 29 [(ae.is t),(I6.is depth)] (tB.is r):=by
 intro n;induction n with
 | zero=>intro t depth r hm;cases hm
 | succ n ih=>
  intro t depth r hm;rw [M.ed.eq_2] at hm;refine FSpec.of Tryz.func29 X X X fun g0=>Aw<|Co .box<|Co .box<|Co (.assign .bool)<|An<|W.seq<|Aw<|Co (.load ty3)<|Co (.gtI .r .i64)<|An<|W.cD hm .r (fun hp2 hm=>?_) (fun hp2 hm=>?_)
  ·refine Aw<|Co (.assign .bool)<|WL.ns ?_;cases hm;exact W.e1
  ·refine W.skip<|Aq<|W.seq ?_;obtain ⟨s3,hs4,hk5⟩:=Bs hm;clear hm;refine W.join (fun s:Bool=>s=s3) (fun s=>[(12,(tB.is s)),(2,(ae.ptr t)),(3,(I6.ptr depth))]) (fun s=>[]) ?_ ?_
   ·rintro v hj15;try dsimp only at hj15
    subst hj15;have hm:=hk5;clear hk5;try dsimp only at hm
    refine W.cB hm .r (fun hp10 hm=>?_) (fun hp10 hm=>?_)
    ·refine Aw<|Co (.assign .bool)<|WL.ns ?_;cases hm;exact W.e1
    ·refine W.skip<|Aq<|Aw<|Co (.load ty33) ?_;obtain ⟨validu,hv11,hm⟩:=Bs hm;refine Co (.call C59 (nG _ _ _ hv11) ⟨.r,trivial⟩)<|WL.mv X X ?_;rcases iteB hm with ⟨hp13,hb12,hm⟩ | ⟨hp13,hb12,hm⟩
     ·refine Cy hb12 (.fA U33 J31 eP)<|Cy hb12 (.load ty31)<|Cy hb12 (.makeFunc (ok:=(fun s:aa×Bool=>(fun s0=>M.iF (M.ed n) s0 depth) s.1=some s.2)) (As:=(fun s:aa×Bool=>[ae.is s.1])) (A:=(fun s:aa×Bool=>(tB.is s.2))) (Cs:=[(I6.ptr depth)]) (cap:=[.tmp 3]) C61 ⟨.r,trivial⟩ (fun s hs=>qV (M.ed n) ih _ _ _ hs)) ?_;obtain ⟨tracke,hv14,hm⟩:=Bs hm;refine Cy hb12 (.call C60 (iV _ _ _ _ hv14) ⟨.r,.r,trivial⟩)<|Cy hb12 .notB<|Co (.pT hb12)<|Cg X<|WL.ns ?_;cases hm;exact W.e1
     ·refine Cp hb12<|Cp hb12<|Cp hb12<|Cp hb12<|Cp hb12<|Co (.pF hb12 .bool)<|Cg X<|WL.ns ?_;cases hm;exact W.e1
   ·have hm:=hs4;clear hs4;refine W.region<|Co (.load ty3)<|Co (.gtI .r .i64)<|WL.mv X X ?_;rcases iteD hm with ⟨hp7,hb6,hm⟩ | ⟨hp7,hb6,hm⟩
    ·refine Cy hb6 (.load ty33) ?_;obtain ⟨isplac,hv8,hm⟩:=Bs hm;exact Cy hb6 (.call C37 (iB _ _ hv8) ⟨.r,trivial⟩)<|Co (.pT hb6)<|WL.nil<|WN.mt isplac (Si hm)
    ·exact Cp hb6<|Cp hb6<|Co (.pF hb6 .bool)<|WL.nil<|WN.mt false (Si hm)
theorem uu(s:Str)(n r:_)(hm:repeatM s n=some r):FSpec Tryz.prog 62 [tS.is s,I6.is n] (tS.is r):=
 Cu (fun s c w hc hl=>Tryz.strings_Repeat s c w hc hl) s n r hm
theorem qW(t:aa)(r:Str)(hm:M.kw t=some r):FSpec Tryz.prog 63 [(ae.is t)] (tS.is r):=by
 unfold M.kw at hm;refine FSpec.of Tryz.func63 X X X fun g0=>Aw<|Co .box<|Co (.assign .s)<|An<|W.seq<|W.block ?_;obtain ⟨s1,hs2,hk3⟩:=Bs hm;clear hm;refine W.join (fun s:Bool=>s=s1) (fun s=>[(3,(tB.is s)),(1,(ae.ptr t))]) (fun s=>[]) ?_ ?_
 ·rintro v hj14;try dsimp only at hj14
  subst hj14;have hm:=hk3;clear hk3;try dsimp only at hm
  refine W.cB hm .r (fun hp7 hm=>?_) (fun hp7 hm=>?_)
  ·refine Aw<|Co (.assign .s)<|WL.ns ?_;cases hm;exact W.e1
  ·refine Aw<|Co (.fA U33 J4 dO)<|Co (.load ty4)<|Cg X<|An<|W.cB hm .r (fun hp9 hm=>?_) (fun hp9 hm=>?_)
   ·refine Aw<|Co (.assign .s)<|WL.ns ?_;cases hm;exact W.e1
   ·refine Aw<|Co (.fA U33 J3 bN)<|Co (.load ty3)<|Co (.eqI .r .i64)<|Cg X<|An<|W.cD hm .r (fun hp11 hm=>?_) (fun hp11 hm=>?_)
    ·refine Aw<|Co (.assign .s)<|WL.ns ?_;cases hm;exact W.e1
    ·refine Aw<|Co (.fA U33 J3 bN)<|Co (.load ty3)<|Co (.eqI .r .i64)<|Cg X<|An<|W.cD hm .r (fun hp13 hm=>?_) (fun hp13 hm=>?_)
     ·refine Aw<|Co (.assign .s)<|WL.ns ?_;cases hm;exact W.e1
     ·refine W.skip<|WN.block<|Aq<|Aw<|Co (.assign .s)<|WL.ns ?_;cases hm;exact W.e1
 ·have hm:=hs2;clear hs2;refine W.region<|Co (.fA U33 J4 dO)<|Co (.load ty4)<|WL.mv X X ?_;rcases iteB hm with ⟨hp5,hb4,hm⟩ | ⟨hp5,hb4,hm⟩
  ·exact Cy hb4 (.fA U33 J3 bN)<|Cy hb4 (.load ty3)<|Cy hb4 (.eqI .r .i64)<|Co (.pT hb4)<|Cg X<|WL.nil<|WN.mt (decide (t.State=(1:Int))) (Si hm)
  ·exact Cp hb4<|Cp hb4<|Cp hb4<|Co (.pF hb4 .bool)<|Cg X<|WL.nil<|WN.mt false (Si hm)
theorem mY(n:Int)(r:Str)(hm:itoaM n=some r):aG Tryz.prog 100 [I6.is n] [E7] (fun _:Unit=>tS.is r) (fun _=>[]):=
 Fg (fun n h0 h1 w ht=>Tryz.strconv_Itoa n h0 h1 w ht) _ n r hm
theorem lH(id:au)(r:Str)(hm:M.gK id=some r):aG Tryz.prog 64 [(aj.is id)] [E7] (fun _:Unit=>(tS.is r)) (fun _=>[]):=by
 unfold M.gK at hm;refine aG.of Tryz.func64 X X X fun g0=>Aw<|Co .box<|Co (.assign .s)<|An<|W.seq ?_;obtain ⟨itoa,hv1,hm⟩:=Bs hm;obtain ⟨v,hv2,hm⟩:=Bs hm;obtain ⟨v1,hv3,hm⟩:=Bs hm;obtain ⟨itoa1,hv4,hm⟩:=Bs hm;obtain ⟨v2,hv5,hm⟩:=Bs hm;obtain ⟨v3,hv6,hm⟩:=Bs hm;obtain ⟨itoa2,hv7,hm⟩:=Bs hm;obtain ⟨v4,hv8,hm⟩:=Bs hm;refine W.d0 [.c _,.c _,.c _,.c _,.c _,.c _,.c _,.c _,.c _,.c _,.c _,.c _,.c _,.c _,.c _] [([],[1]),([0],[]),([1],[]),([2],[]),([3],[]),([],[1]),([5],[]),([6],[]),([4,7],[]),([8],[]),([],[1]),([10],[]),([11],[]),([9,12],[]),([13],[])] Mx ⟨Dn (.fA U23 J3 qL),Dn (.load ty3),Dn (.callG (rin:=[E7]) C100 (mY _ _ hv1) ⟨X,trivial⟩ ⟨X,X,trivial⟩ ⟨.r,trivial⟩),Dn (.catC hv2 .s),Dn (.catC hv3 .r .s),Dn (.fA U23 J3 qM),Dn (.load ty3),Dn (.callG (rin:=[E7]) C100 (mY _ _ hv4) ⟨X,trivial⟩ ⟨X,X,trivial⟩ ⟨.r,trivial⟩),Dn (.catC hv5),Dn (.catC hv6 .r .s),Dn (.fA U23 J3 qN),Dn (.load ty3),Dn (.callG (rin:=[E7]) C100 (mY _ _ hv7) ⟨X,trivial⟩ ⟨X,X,trivial⟩ ⟨.r,trivial⟩),Dn (.catC hv8),Dn .assign,trivial⟩<|WN.seq ?_;cases hm;exact W.e1
theorem mD(kind:Int)(r:Str)(hm:M.gF kind=some r):aG Tryz.prog 65 [(I6.is kind)] [E2] (fun _:Unit=>(tS.is r)) (fun _=>[]):=by
 unfold M.gF at hm;refine aG.of Tryz.func65 X X X fun g0=>Aw<|Co (.assign .s)<|An<|W.seq<|Aw<|Cm X<|Co (.ltI .r .i64)<|WL.mv X X ?_;rcases iteD hm with ⟨hp2,hb1,hm⟩ | ⟨hp2,hb1,hm⟩
 ·refine Cp hb1<|Cp hb1<|Co (.pT hb1 .bool)<|An<|W.condT .r<|Aw<|Co (.assign .s)<|WL.ns ?_;cases hm;exact W.e1
 ·refine Cy hb1 .move<|Cy hb1 (.geI .r .i64)<|Co (.pF hb1)<|An<|W.cD hm .r (fun hp4 hm=>?_) (fun hp4 hm=>?_)
  ·refine Aw<|Co (.assign .s)<|WL.ns ?_;cases hm;exact W.e1
  ·refine W.skip<|Aq<|Aw<|WL.mv X X ?_;obtain ⟨v,hv5,hm⟩:=Bs hm;refine WL.addG 900002 700002 X<|Co (.idxA hv5 U145 Z9 (Opd.glob (s:=900002) X))<|Co (.load ty9)<|Cg X<|WL.ns ?_;cases hm;exact W.e1
theorem lh(s sub:Str)(r:Bool)(hm:containsM s sub=some r):aG Tryz.prog 117 [tS.is s,tS.is sub] [E3] (fun _:Unit=>tB.is r) (fun _=>[]):=
 zB (fun s sub m w hs hm=>Tryz.strings_Contains s sub m w hs hm) _ s sub r hm
theorem uR(s0_:Str)(r:Str)(hm:M.lV s0_=some r):aG Tryz.prog 78 [(tS.is s0_)] [E3] (fun _:Unit=>(tS.is r)) (fun _=>[]):=by
 unfold M.lV at hm;refine aG.of Tryz.func78 X X X fun g0=>Aw<|Co (.assign .s)<|An<|W.seq<|Aw<|WL.mv X X ?_;obtain ⟨v,hv1,hm⟩:=Bs hm;refine Co (.sslcHi hv1 U9 .r .i64) ?_;obtain ⟨contai,hv2,hm⟩:=Bs hm;refine Co (.callG (rin:=[E3]) C117 (lh _ _ _ hv2) ⟨X,trivial⟩ ⟨X,X,trivial⟩ ⟨.s,.r,trivial⟩)<|An<|W.cB hm .r (fun hp4 hm=>?_) (fun hp4 hm=>?_)
 ·refine Aw<|WL.mv X X ?_;obtain ⟨v1,hv5,hm⟩:=Bs hm;refine Co (.catC hv5 .s)<|Cg X<|WL.ns ?_;cases hm;exact W.e1
 ·refine W.skip<|Aq<|Aw<|Cm X<|Cg X<|WL.ns ?_;cases hm;exact W.e1
theorem qb(n:Int)(b:Nat){u:Unit}(hm:growC n=some u):aG Tryz.prog 66 [Bp b 0,I6.is n] [(0,Bx 2 true 105 (bldA none [] b) b),(1,Dec.Own (tI .u8) 5 none 0)] (fun _:Tok=>Asn.eq (.tuple #[])) (fun k=>[(0,Bx 2 true 105 (bldA k [] b) b),(1,Dec.Own (tI .u8) 5 k 0)]):=
 aG.bldGrow CE zY Gi 0 1 n b hm
theorem il(l m r:Str)(k:Tok)(b:Nat)(hm:appC l m=some r):aG Tryz.prog 67 [Bp b 0,tS.is m] [(0,Bx 2 true 105 (bldA k l b) b),(1,Dec.Own (tI .u8) 5 k l.length)] (fun _:Tok=>Asn.any) (fun kx=>[(0,Bx 2 true 105 (bldA kx r b) b),(1,Dec.Own (tI .u8) 5 kx r.length)]):=by
 refine aG.of Tryz.func67 X X X fun g0=>Aw<|Ao X (.assign Opd.const)<|Ao X (.assign Opd.const)<|Ar<|Am X X<|WL.opR X (OpR.call (us:=[0]) C101 (aG.bldCheck CE zY 0 k l b) X ⟨(.t X),trivial⟩) fun _=>Ar<|Am X X<|Am X X<|Ao X (.nilCheckB (.t X))<|Ao X (.fieldAddrB (o:=0) Tryz.underlying105 X J103 (.t X) X)<|Ao X (.Hw 0 Y103 Z103 X (.t X))<|Am X X<|WL.opR X (OpR.appendS (key:=1) hm U103 U9 el5 (.t X) (.t X) X) fun k2=>Ao X (.nilCheckB (.t X)) ?_;exact Ao X (.fieldAddrB (o:=0) Tryz.underlying105 X J103 (.t X) X)<|WL.opU (OpR.storeBld (b:=b) 0 Z103 X (.t X) (.t X)) fun _=>Ar<|Am X X<|Ao X (.kY U9 (.t X))<|Ag X X<|Ao X (.assign Opd.const)<|WL.nil<|Aq<|W.boxV (A':=bldA k2 r b) 0 X (fun _ _=>F8)<|W.retAny2 k2 X X ⟨X,X,X,X,trivial⟩
theorem oO(k:Tok)(l:Str)(b:Nat):aG Tryz.prog 68 [Bp b 0] [(0,Bx 2 true 105 (bldA k l b) b),(1,Dec.Own (tI .u8) 5 k l.length)] (fun _:Unit=>tS.is l) (fun _=>[]):=
 aG.bldString U146 (by kernel_rfl) H5 0 1 k l b
theorem mZ(elems:List Str)(sep:Str)(r:Str)(hm:M.strings_Join elems sep=some r):FSpec Tryz.prog 33 [((tL tS).is elems),(tS.is sep)] (tS.is r):=by
 unfold M.strings_Join at hm;refine FSpec.of Tryz.func33 X X X fun g0=>Aw<|Co (.assign .s)<|An<|W.seq<|Aw<|Cm X<|Co (.bg U38)<|An<|W.block<|Aw<|Co (.eqI .r .i64)<|Cg X<|An<|W.cD hm .r (fun hp2 hm=>?_) (fun hp2 hm=>?_)
 ·refine Aw<|Co (.assign .s)<|WL.ns ?_;cases hm;exact W.e1
 ·refine Aw<|Co (.eqI .r .i64)<|Cg X<|An<|W.cD hm .r (fun hp4 hm=>?_) (fun hp4 hm=>?_)
  ·refine Aw<|WL.mv X X ?_;obtain ⟨v,hv5,hm⟩:=Bs hm;refine Co (.idx hv5 U38 Z9 .r .i64)<|Co (.load ty9)<|Cg X<|WL.ns ?_;cases hm;exact W.e1
  ·refine W.skip<|WN.block<|Aq<|Aw<|Co (.assign .i64)<|WL.ns ?_;obtain ⟨s6,hs7,hk8⟩:=Bs hm;clear hm;refine W.join (fun s:Int=>s=s6) (fun s=>[(5,(I6.is s)),(0,((tL tS).is elems)),(1,(tS.is sep))]) (fun s=>[]) ?_ ?_
   ·rintro n0_ hj58;try dsimp only at hj58
    subst hj58;have hm:=hk8;clear hk8;try dsimp only at hm
    refine W.seq<|Aw<|Cm X<|Co (.bg U38)<|Co (.move .i64)<|An<|W.block ?_;obtain ⟨s22,hs23,hk24⟩:=Bs hm;clear hm;refine W.lp (fun m (s:Int×List Str×List Str×Int)=>m=s.2.2.1.length∧elems=s.2.1++s.2.2.1∧s.1=(s.2.1.length:Int)∧M.gN s.2.2.1 s.2.2.2=some s22) (fun s=>[(41,(I6.is s.1)),(5,(I6.is s.2.2.2)),(0,((tL tS).is elems)),(1,(tS.is sep)),(39,((tL tS).is elems)),(40,(I6.is (elems.length:Int)))]) (fun s=>[]) elems.length ((0:Int),[],elems,n0_) ⟨X,X,X,hs23⟩ ?_;rintro m ⟨i,pre,rest3,n0_1⟩ ⟨hn28,hxs25,hi26,hm⟩;try dsimp only at hn28 hxs25 hi26 hm
    refine W.bg (s:=39) .r fun hlen27=>Aw<|Co .ltI<|An<|W.seq<|W.cond .r (fun hc30=>?_) (fun hc30=>?_)
    ·have hp31:=of_decide_eq_true hc30;obtain ⟨e,es,hrest33⟩:=df hxs25 hi26 hp31;subst hrest33;rw [M.gN.eq_2] at hm;refine W.skip<|Aq<|W.seq<|W.block<|Aw<|Co (.idxPre hxs25 hi26 U38 Z9)<|Co (.load ty9)<|Cg X<|An<|W.seq<|Aw<|Cm X<|Co (.kY U9)<|WL.mv X X ?_;obtain ⟨v6,hv34,hm⟩:=Bs hm;refine Co (.subC hv34 .i64)<|Co .gtI<|An<|W.cD hm .r (fun hp36 hm=>?_) (fun hp36 hm=>?_)
     ·cases hm
     ·refine W.skip<|Aq<|W.region<|Cm X<|Cm X<|Co (.kY U9) ?_;obtain ⟨v7,hv37,hm⟩:=Bs hm;exact Co (.addC hv37)<|Cg X<|WL.nil<|WN.block<|Aq<|W.region<|Co (.addI .r .i64 (bH hi26 hp31 hlen27))<|Cm X<|WL.nil<|WN.ag es.length (i+1,pre++ [e],es,v7) (bS hn28) ⟨X,bi hxs25,bG hi26,hm⟩
    ·have hrest33:=dG hxs25 hi26 (of_decide_eq_false hc30);subst hrest33;rw [M.gN.eq_1] at hm;refine W.exit X ?_;have hr38:=Si hm;clear hm;subst hr38;have hm:=hk24;try dsimp only at hm
     refine Aq<|Aw<|WL.addNil (t:=(tI .u8)) (E:=5) 1000008<|Cr (OpR.allocBld 8 Tryz.zeroValue105) fun b=>Ar<|WL.mv X X ?_;obtain ⟨_,hv39,hm⟩:=Bs hm;refine WL.weakR (res':=[(8,(Bx 2 true 105 (bldA (none:Tok) ([]:Str) b) b)),(1000008,Dec.Own (tI .u8) 5 (none:Tok) ([]:Str).length)]) ⟨X,X,X,X,trivial⟩<|Cr (OpR.call (us:=[8,1000008]) (A:=fun kx:Tok=>(Asn.eq (.tuple #[]))) C66 (aG.keys (rin':=[(8,(Bx 2 true 105 (bldA (none:Tok) ([]:Str) b) b)),(1000008,Dec.Own (tI .u8) 5 (none:Tok) ([]:Str).length)]) (out':=fun kx:Tok=>[(8,(Bx 2 true 105 (bldA kx ([]:Str) b) b)),(1000008,Dec.Own (tI .u8) 5 kx ([]:Str).length)]) (qb _ _ hv39) X (fun _=>X)) X ⟨.r,.r,trivial⟩) fun k=>Ar<|WL.mv X X ?_;obtain ⟨v8,hv40,hm⟩:=Bs hm;refine Co (.idx hv40 U38 Z9 .r .i64)<|Co (.load ty9) ?_;obtain ⟨b1,hv41,hm⟩:=Bs hm;refine WL.weakR (res':=[(8,(Bx 2 true 105 (bldA k ([]:Str) b) b)),(1000008,Dec.Own (tI .u8) 5 k ([]:Str).length)]) ⟨X,X,X,X,trivial⟩<|Cr (OpR.call (us:=[8,1000008]) (A:=fun kx:Tok=>Asn.any) C67 (aG.keys (rin':=[(8,(Bx 2 true 105 (bldA k ([]:Str) b) b)),(1000008,Dec.Own (tI .u8) 5 k ([]:Str).length)]) (out':=fun kx:Tok=>[(8,(Bx 2 true 105 (bldA kx b1 b) b)),(1000008,Dec.Own (tI .u8) 5 kx b1.length)]) (il _ _ _ _ _ hv41) X (fun _=>X)) X ⟨.r,.r,trivial⟩) fun k1=>An<|W.seq<|Aw<|WL.mv X X ?_;obtain ⟨v9,hv42,hm⟩:=Bs hm;refine Co (.slcLo hv42 U38 Z9 .r .i64)<|Co (.bg U38)<|Co (.move .i64)<|An<|W.block ?_;obtain ⟨s43,hs44,hk45⟩:=Bs hm;clear hm;refine W.lp (fun m (s:Int×List Str×List Str×((Str)×Tok))=>m=s.2.2.1.length∧v9=s.2.1++s.2.2.1∧s.1=(s.2.1.length:Int)∧M.dz sep s.2.2.1 s.2.2.2.1=some s43) (fun s=>[(65,(I6.is s.1)),(1,(tS.is sep)),(8,(Bp b 0)),(63,((tL tS).is v9)),(64,(I6.is (v9.length:Int)))]) (fun s=>[(1000008,Dec.Own (tI .u8) 5 s.2.2.2.2 s.2.2.2.1.length),(8,(Bx 2 true 105 (bldA s.2.2.2.2 s.2.2.2.1 b) b))]) v9.length ((0:Int),[],v9,(b1,k1)) ⟨X,X,X,hs44⟩ ?_;rintro m ⟨i1,pre1,rest2,b2,k2⟩ ⟨hn49,hxs46,hi47,hm⟩;try dsimp only at hn49 hxs46 hi47 hm
     refine W.bg (s:=63) .r fun hlen48=>Aw<|Co .ltI<|An<|W.seq<|W.cond .r (fun hc51=>?_) (fun hc51=>?_)
     ·have hp52:=of_decide_eq_true hc51;obtain ⟨e1,es1,hrest54⟩:=df hxs46 hi47 hp52;subst hrest54;rw [M.dz.eq_2] at hm;refine W.skip<|Aq<|W.seq<|W.block<|Aw<|Co (.idxPre hxs46 hi47 U38 Z9)<|Co (.load ty9)<|Cg X<|Ar<|WL.mv X X ?_;obtain ⟨b3,hv55,hm⟩:=Bs hm;refine WL.weakR (res':=[(8,(Bx 2 true 105 (bldA k2 b2 b) b)),(1000008,Dec.Own (tI .u8) 5 k2 b2.length)]) ⟨X,X,X,X,trivial⟩<|Cr (OpR.call (us:=[8,1000008]) (A:=fun kx:Tok=>Asn.any) C67 (aG.keys (rin':=[(8,(Bx 2 true 105 (bldA k2 b2 b) b)),(1000008,Dec.Own (tI .u8) 5 k2 b2.length)]) (out':=fun kx:Tok=>[(8,(Bx 2 true 105 (bldA kx b3 b) b)),(1000008,Dec.Own (tI .u8) 5 kx b3.length)]) (il _ _ _ _ _ hv55) X (fun _=>X)) X ⟨.r,.r,trivial⟩) fun k3=>WL.nr1<|WL.mv X X ?_;obtain ⟨b4,hv56,hm⟩:=Bs hm;exact WL.weakR (res':=[(8,(Bx 2 true 105 (bldA k3 b3 b) b)),(1000008,Dec.Own (tI .u8) 5 k3 b3.length)]) ⟨X,X,X,X,trivial⟩<|Cr (OpR.call (us:=[8,1000008]) (A:=fun kx:Tok=>Asn.any) C67 (aG.keys (rin':=[(8,(Bx 2 true 105 (bldA k3 b3 b) b)),(1000008,Dec.Own (tI .u8) 5 k3 b3.length)]) (out':=fun kx:Tok=>[(8,(Bx 2 true 105 (bldA kx b4 b) b)),(1000008,Dec.Own (tI .u8) 5 kx b4.length)]) (il _ _ _ _ _ hv56) X (fun _=>X)) X ⟨.r,.r,trivial⟩) fun k4=>WL.nil<|WN.block<|Aq<|W.region<|Co (.addI .r .i64 (bH hi47 hp52 hlen48))<|Cm X<|WL.nil<|WN.ag es1.length (i1+1,pre1++ [e1],es1,(b4,k4)) (bS hn49) ⟨X,bi hxs46,bG hi47,hm⟩
     ·have hrest54:=dG hxs46 hi47 (of_decide_eq_false hc51);subst hrest54;rw [M.dz.eq_1] at hm;refine W.exit X ?_;have hr57:=Si hm;clear hm;subst hr57;have hm:=hk45;try dsimp only at hm
      refine Aq<|Aw<|WL.weakR (res':=[(8,(Bx 2 true 105 (bldA k2 b2 b) b)),(1000008,Dec.Own (tI .u8) 5 k2 b2.length)]) ⟨X,X,X,X,trivial⟩<|Cr (OpR.call (us:=[8,1000008]) (A:=fun kx:Unit=>tS.is b2) C68 (aG.keys (rin':=[(8,(Bx 2 true 105 (bldA k2 b2 b) b)),(1000008,Dec.Own (tI .u8) 5 k2 b2.length)]) (out':=fun kx:Unit=>[]) (oO _ _ _) X (fun _=>X)) X ⟨.r,trivial⟩) fun _=>Cg X<|WL.ns ?_;cases hm;exact W.e1
   ·have hm:=hs7;clear hs7;refine Aw<|Cm X<|Co (.kY U9)<|Co (.gtI .r .i64)<|An<|W.cD hm .r (fun hp10 hm=>?_) (fun hp10 hm=>?_)
    ·obtain ⟨s11,hs12,hk13⟩:=Bs hm;clear hm;refine W.join (fun s:Unit=>s=s11) (fun s=>[(0,((tL tS).is elems)),(1,(tS.is sep)),(5,(I6.is (0:Int)))]) (fun s=>[]) ?_ ?_
     ·rintro _ hj21;try dsimp only at hj21
      subst hj21;have hm:=hk13;clear hk13;try dsimp only at hm
      refine W.region<|Cm X<|Cm X<|Co (.kY U9)<|Cm X<|Co (.bg U38) ?_;obtain ⟨v3,hv18,hm⟩:=Bs hm;refine Co (.subC hv18 .r .i64) ?_;obtain ⟨v4,hv19,hm⟩:=Bs hm;refine Co (.mulC hv19) ?_;obtain ⟨v5,hv20,hm⟩:=Bs hm;exact Co (.addC hv20)<|Cg X<|WL.nil<|WN.mt v5 (Si hm)
     ·have hm:=hs12;clear hs12;refine Aw<|Cm X<|Co (.kY U9)<|Cm X<|Co (.bg U38) ?_;obtain ⟨v1,hv14,hm⟩:=Bs hm;refine Co (.subC hv14 .r .i64) ?_;obtain ⟨v2,hv15,hm⟩:=Bs hm;refine Co (.quoC hv15 .i64)<|Co .geI<|An<|W.cD hm .r (fun hp17 hm=>?_) (fun hp17 hm=>?_)
      ·cases hm
      ·exact W.skip<|WN.mt () (Si hm)
    ·exact W.skip<|WN.mt (0:Int) (Si hm)
theorem lQ(state:Int)(words:List Str)(c:List Str)(b:Nat)(k:Tok)(r:List Str)(hm:M.iP state words c=some r):aG Tryz.prog 45 [(I6.is state),((tL tS).is words),(Bp b 0)] [(2,(Bx 1 false 38 (tO tS k c) b)),(1000002,Dec.Own tS 9 k c.length),E0,E1] (fun kx:Tok=>(Asn.eq (.tuple #[]))) (fun kx:Tok=>[(2,(Bx 1 false 38 (tO tS kx r) b)),(1000002,Dec.Own tS 9 kx r.length),E0,E1]):=by
 unfold M.iP at hm;refine aG.of Tryz.func45 X X X fun g0=>W.addG 900000 700000 X<|W.addG 900001 700001 X ?_;obtain ⟨v,hv1,hm⟩:=Bs hm;obtain ⟨join,hv2,hm⟩:=Bs hm;obtain ⟨v1,hv3,hm⟩:=Bs hm;obtain ⟨v2,hv4,hm⟩:=Bs hm;obtain ⟨v3,hv5,hm⟩:=Bs hm;obtain ⟨out,hv6,hm⟩:=Bs hm;refine W.wR [(1000002,Dec.Own tS 9 k c.length),(2,(Bx 1 false 38 (tO tS k c) b)),E0,E1]<|W.dM [.c (tO tS k c),.c (I6.is state),.c (tS.ptr v),.c (tS.is v),.c ((tL tS).is words),.c (tS.is join),.c (tS.is v1),.c (I6.is state),.c (tS.ptr v2),.c (tS.is v2),.c (tS.is v3),.c ((tL tS).is [v3]),.f (fun cv=>(tO tS (cv 0) out)),.c Asn.any] [([],[2]),([],[0]),([1],[900000]),([2],[]),([],[1]),([4],[]),([3,5],[]),([],[0]),([7],[900001]),([8],[]),([6,9],[]),([10],[]),([0,11],[]),([12],[2])] [12,13] [[],[],[],[],[],[],[],[],[],[],[],[],[true],[]] (fun m cv=>match m with | 0=>[(1000002,Dec.Own tS 9 k c.length),(2,(Bx 1 false 38 (tO tS k c) b)),E0,E1] | 1=>[(1000002,Dec.Own tS 9 (cv 0) out.length),(2,(Bx 1 false 38 (tO tS k c) b)),E0,E1] | _=>[(2,(Bx 1 false 38 (tO tS (cv 0) out) b)),(1000002,Dec.Own tS 9 (cv 0) out.length),E0,E1]) Mx ⟨.inr ⟨fun cv=>[(2,(Bx 1 false 38 (tO tS k c) b))],(jF.at ⟨⟨(fun _ _=>⟨X,X,trivial⟩),(nn)⟩,(nn)⟩),fun cv=>Op1.ja 2 Y38 Z38 X .r⟩,mo fun cv=>.move,mo fun cv=>.idxA hv1 U83 Z9 (Opd.glob (s:=900000) X),mo fun cv=>.load ty9,mo fun cv=>.move,mo fun cv=>.call C33 (mZ _ _ _ hv2) ⟨.r,.s,trivial⟩,mo fun cv=>.catC hv3,mo fun cv=>.move,mo fun cv=>.idxA hv4 U83 Z9 (Opd.glob (s:=900001) X),mo fun cv=>.load ty9,mo fun cv=>.catC hv5,mo fun cv=>.buildSlice (n:=1) (ys:=[(0,v3)]) (z:=([]:Str)) (xs:=[v3]) U38 el9 ze9 ⟨X,.r,trivial⟩ (by simp) (by decide) X,.inl X,.inl X,trivial⟩ ⟨⟨_,_,_,[1000002],(fun cv=>[(1000002,Dec.Own tS 9 (cv 0) out.length)]),X,X,X,X,fun _=>X,fun _ _=>X,fun cv=>OpR.appC (key:=1000002) hv6 U38 el9 .r .r X⟩,⟨_,_,_,[2],(fun cv=>[(2,(Bx 1 false 38 (tO tS (cv 0) out) b))]),X,X,X,X,fun _=>X,fun _ _=>X,fun cv=>OpR.viaU (OpR.storeB (b:=b) 2 Z38 (aF.o tS (cv 0) out) X)⟩,trivial⟩ (fun cv=>?_);have hr:=Si hm;clear hm;subst hr;exact WN.fin (cv 0) X (fun _=>X) ⟨X,X,X,X,X,X,X,X,trivial⟩
theorem uw(n:Nat)(l:List ah)(c:List Str)(b:Nat)(k:Tok)(r:List Str)(hm:M.mU n l c=some r):aG Tryz.prog 44 [((tL ak).is l),(cloA 45 [(Bp b 0)])] [(500100,(Bx 1 false 38 (tO tS k c) b)),(1500100,Dec.Own tS 9 k c.length),E0,E1,E3] (fun kx:Tok=>(Asn.eq (.tuple #[]))) (fun kx:Tok=>[(500100,(Bx 1 false 38 (tO tS kx r) b)),(1500100,Dec.Own tS 9 kx r.length),E0,E1,E3]):=by
 unfold M.mU at hm;refine aG.of Tryz.func44 X X X fun g0=>Aw<|Co (.assign .i64)<|An<|W.block ?_;obtain ⟨s1,hs2,hk3⟩:=Bs hm;clear hm;refine W.lp (fun m (s:(Int×(List Str))×Tok)=>M.dV l m s.1.1 s.1.2=some s1) (fun s=>[(4,(I6.is s.1.1)),(0,((tL ak).is l)),(1,(cloA 45 [(Bp b 0)]))]) (fun s=>[(1500100,Dec.Own tS 9 s.2 s.1.2.length),(500100,(Bx 1 false 38 (tO tS s.2 s.1.2) b)),E0,E1,E3]) _ (((0:Int),c),k) hs2 ?_;rintro n4 ⟨⟨from0_,v⟩,k1⟩ hm;try dsimp only at hm
 cases n4 with
 | zero=>rw [M.dV.eq_1] at hm;cases hm
 | succ n4=>
  rw [M.dV.eq_2] at hm;refine W.seq<|Aw<|Cm X<|Cm X<|Co (.bg U30)<|Co .ltI<|An<|W.cD hm .r (fun hp6 hm=>?_) (fun hp6 hm=>?_)
  ·refine W.skip<|Aq<|W.block<|Aw<|Cm X<|Cg X<|Ar<|WL.addNil (t:=tS) (E:=9) 6<|Co (.assign (Opd.nilO (t:=tS)))<|An<|W.seq<|W.block ?_;obtain ⟨s7,hs8,hk9⟩:=Bs hm;clear hm;refine W.lp (fun m (s:(Int×(List Str))×Tok)=>M.eD l from0_ m s.1.1 s.1.2=some s7) (fun s=>[(5,(I6.is s.1.1)),(6,(tO tS s.2 s.1.2)),(0,((tL ak).is l)),(1,(cloA 45 [(Bp b 0)])),(4,(I6.is from0_))]) (fun s=>[(6,Dec.Own tS 9 s.2 s.1.2.length),(1500100,Dec.Own tS 9 k1 v.length),(500100,(Bx 1 false 38 (tO tS k1 v) b)),E0,E1,E3]) _ ((from0_,([]:List Str)),(none:Tok)) hs8 ?_;rintro n10 ⟨⟨to0_,words⟩,k2⟩ hm;try dsimp only at hm
   cases n10 with
   | zero=>rw [M.eD.eq_1] at hm;cases hm
   | succ n10=>
    rw [M.eD.eq_2] at hm;refine W.seq<|W.seq ?_;rcases iteD hm with ⟨hp12,hb11,hm⟩ | ⟨hp12,hb11,hm⟩
    ·obtain ⟨v1,hv13,hm⟩:=Bs hm;obtain ⟨v2,hv14,hm⟩:=Bs hm;refine W.d0 [.c _,.c _,.c _,.c _,.c _,.c _,.c _,.c _,.c _,.c _,.c _,.c _,.c _,.c _,.c _,.c _,.c _] L5 Mx ⟨Dn .move,Dn .move,Dn (.bg U30),Dn .ltI,Dn .move,Er hb11 .move,Er hb11 .move,Er hb11 (.idx hv13 U30 Z53),Er hb11 (.fA U53 J3 eO),Er hb11 (.load ty3),Er hb11 .move,Er hb11 .move,Er hb11 (.idx hv14 U30 Z53),Er hb11 (.fA U53 J3 eO),Er hb11 (.load ty3),Er hb11 .eqI,Dn (.pT hb11),trivial⟩<|Aq<|W.cD hm .r (fun hp16 hm=>?_) (fun hp16 hm=>?_)
     ·refine W.skip<|Aq<|W.block<|Aw<|Cm X<|Cm X<|WL.mv X X ?_;obtain ⟨v3,hv17,hm⟩:=Bs hm;refine Co (.idx hv17 U30 Z53)<|Co (.fA U53 J9 kG)<|Co (.load ty9) ?_;obtain ⟨escape,hv18,hm⟩:=Bs hm;refine Co (.callG (rin:=[E3]) C78 (uR _ _ hv18) ⟨X,trivial⟩ ⟨X,X,trivial⟩ ⟨.r,trivial⟩)<|Co (.buildSlice (n:=1) (ys:=[(0,escape)]) (z:=([]:Str)) (xs:=[escape]) U38 el9 ze9 ⟨X,.r,trivial⟩ (by simp) (by decide) X) ?_;obtain ⟨words1,hv19,hm⟩:=Bs hm;exact Cr (OpR.appC (key:=6) hv19 U38 el9 .r .r X) fun k3=>Cg X<|WL.nr1<|Cm X<|WL.bg (s:=0) .r fun hl20=>Co (.addI1 .r .i64 hp12 hl20)<|Cg X<|WL.nil<|WN.block<|WN.ag n10 ((to0_+1,words1),k3) (Nat.lt_succ_self n10) hm
     ·refine W.exit X ?_;have hr21:=Si hm;clear hm;subst hr21;have hm:=hk9;try dsimp only at hm
      refine Aq<|Aw<|Cm X<|Cm X<|WL.mv X X ?_;obtain ⟨v4,hv22,hm⟩:=Bs hm;refine Co (.idx hv22 U30 Z53)<|Co (.fA U53 J3 eO)<|Co (.load ty3)<|WL.mv X X ?_;obtain ⟨w,hv23,hm⟩:=Bs hm;exact WL.weakR (res':=[(500100,(Bx 1 false 38 (tO tS k1 v) b)),(1500100,Dec.Own tS 9 k1 v.length),E0,E1,(6,Dec.Own tS 9 k2 words.length),E3]) ⟨X,X,X,X,X,X,X,X,X,X,X,X,trivial⟩<|Cr (OpR.callClo (us:=[500100,1500100,700000,700001]) (A:=fun kx:Tok=>(Asn.eq (.tuple #[]))) (As:=[I6.is v4.State,(tL tS).is words]) C45 .r (aG.keys (rin':=[(500100,(Bx 1 false 38 (tO tS k1 v) b)),(1500100,Dec.Own tS 9 k1 v.length),E0,E1]) (out':=fun kx:Tok=>[(500100,(Bx 1 false 38 (tO tS kx w) b)),(1500100,Dec.Own tS 9 kx w.length),E0,E1]) (lQ _ _ _ _ _ _ hv23) X (fun _=>X)) X ⟨.r,(Opd.own .r),trivial⟩) fun k4=>WL.nr1<|Cm X<|Cg X<|WL.nil<|WN.block<|WN.ag n4 ((to0_,w),k4) (Nat.lt_succ_self n4) hm
    ·refine W.d0 [.c _,.c _,.c _,.c _,.c _,.c _,.c _,.c _,.c _,.c _,.c _,.c _,.c _,.c _,.c _,.c _,.c _] L5 Mx ⟨Dn .move,Dn .move,Dn (.bg U30),Dn .ltI,Dn .move,Ep hb11,Ep hb11,Ep hb11,Ep hb11,Ep hb11,Ep hb11,Ep hb11,Ep hb11,Ep hb11,Ep hb11,Ep hb11,Dn (.pF hb11 .bool),trivial⟩<|Aq<|W.condF .r<|W.exit X ?_;have hr24:=Si hm;clear hm;subst hr24;have hm:=hk9;try dsimp only at hm
     refine Aq<|Aw<|Cm X<|Cm X<|WL.mv X X ?_;obtain ⟨v5,hv25,hm⟩:=Bs hm;refine Co (.idx hv25 U30 Z53)<|Co (.fA U53 J3 eO)<|Co (.load ty3)<|WL.mv X X ?_;obtain ⟨w1,hv26,hm⟩:=Bs hm;exact WL.weakR (res':=[(500100,(Bx 1 false 38 (tO tS k1 v) b)),(1500100,Dec.Own tS 9 k1 v.length),E0,E1,(6,Dec.Own tS 9 k2 words.length),E3]) ⟨X,X,X,X,X,X,X,X,X,X,X,X,trivial⟩<|Cr (OpR.callClo (us:=[500100,1500100,700000,700001]) (A:=fun kx:Tok=>(Asn.eq (.tuple #[]))) (As:=[I6.is v5.State,(tL tS).is words]) C45 .r (aG.keys (rin':=[(500100,(Bx 1 false 38 (tO tS k1 v) b)),(1500100,Dec.Own tS 9 k1 v.length),E0,E1]) (out':=fun kx:Tok=>[(500100,(Bx 1 false 38 (tO tS kx w1) b)),(1500100,Dec.Own tS 9 kx w1.length),E0,E1]) (lQ _ _ _ _ _ _ hv26) X (fun _=>X)) X ⟨.r,(Opd.own .r),trivial⟩) fun k5=>WL.nr1<|Cm X<|Cg X<|WL.nil<|WN.block<|WN.ag n4 ((to0_,w1),k5) (Nat.lt_succ_self n4) hm
  ·refine W.exit X ?_;have hr27:=Si hm;clear hm;subst hr27;have hm:=hk3;try dsimp only at hm
   have hr:=Si hm;clear hm;subst hr;exact WN.fin k1 X (fun _=>X) ⟨X,X,X,X,X,X,X,X,X,X,trivial⟩
theorem iY(n:Nat)(l:List ah)(r:Str)(hm:M.fG n l=some r):aG Tryz.prog 23 [((tL ak).is l)] [E0,E1,E3] (fun _:Unit=>(tS.is r)) (fun _=>[]):=by
 unfold M.fG at hm;refine aG.of Tryz.func23 X X X fun g0=>Aw<|Co (.assign .s)<|An<|W.seq<|Aw<|WL.mv X X ?_;obtain ⟨validr,hv1,hm⟩:=Bs hm;refine Co (.call C43 (jS _ _ _ hv1) ⟨.r,trivial⟩)<|Co .notB<|An<|W.cR hm .r (fun hp3 hm=>?_) (fun hp3 hm=>?_)
 ·refine Aw<|Co (.assign .s)<|WL.ns ?_;cases hm;exact W.e1
 ·refine W.skip<|Aq<|Aw<|WL.addNil (t:=tS) (E:=9) 1000003<|Cr (OpR.allocO (t:=tS) 3 Tryz.zeroValue38) fun b=>Ar<|Cm X<|Co (.makeClo (Cs:=[(Bp b 0)]) (cap:=[.tmp 3]) ⟨.r,trivial⟩) ?_;obtain ⟨out,hv4,hm⟩:=Bs hm;refine WL.weakR (res':=[(3,(Bx 1 false 38 (tO tS (none:Tok) ([]:List Str)) b)),(1000003,Dec.Own tS 9 (none:Tok) ([]:List Str).length),E0,E1,E3]) ⟨X,X,X,X,X,X,X,X,X,X,trivial⟩<|Cr (OpR.call (us:=[3,1000003,700000,700001,700003]) (A:=fun kx:Tok=>(Asn.eq (.tuple #[]))) C44 (aG.keys (rin':=[(3,(Bx 1 false 38 (tO tS (none:Tok) ([]:List Str)) b)),(1000003,Dec.Own tS 9 (none:Tok) ([]:List Str).length),E0,E1,E3]) (out':=fun kx:Tok=>[(3,(Bx 1 false 38 (tO tS kx out) b)),(1000003,Dec.Own tS 9 kx out.length),E0,E1,E3]) (uw _ _ _ _ _ _ hv4) X (fun _=>X)) X ⟨.r,.r,trivial⟩) fun k=>Ar<|Co (.ja 3 Y38 Z38 X) ?_;obtain ⟨join,hv5,hm⟩:=Bs hm;refine Co (.call C33 (mZ _ _ _ hv5) ⟨(Opd.own .r),.s,trivial⟩)<|Cg X<|WL.ns ?_;cases hm;exact W.e1
theorem nL(n:Nat)(t:aa)(depth:Int)(r:Str)(hm:M.iQ n t depth=some r):aG Tryz.prog 31 [(ae.is t),(I6.is depth)] [E0,E1,E2,E3,E7] (fun _:Unit=>(tS.is r)) (fun _=>[]):=by
 unfold M.iQ at hm;refine aG.of Tryz.func31 X X X fun g0=>Aw<|Co .box<|Co (.assign .s)<|An<|W.seq ?_;obtain ⟨repeat0_,hv1,hm⟩:=Bs hm;obtain ⟨sign,hv2,hm⟩:=Bs hm;obtain ⟨v,hv3,hm⟩:=Bs hm;obtain ⟨v1,hv4,hm⟩:=Bs hm;refine W.d0 [.c _,.c _,.c _,.c _,.c _,.c _,.c _] [([],[1]),([0],[]),([],[2]),([2],[]),([1,3],[]),([4],[]),([5],[])] Mx ⟨Dn .move,Dn (.call C62 (uu _ _ _ hv1) ⟨.s,.r,trivial⟩),Dn (.load ty33),Dn (.call C63 (qW _ _ hv2) ⟨.r,trivial⟩),Dn (.catC hv3),Dn (.catC hv4 .r .s),Dn .assign,trivial⟩<|Aq<|W.seq<|Aw<|Co (.load ty33) ?_;obtain ⟨sign1,hv5,hm⟩:=Bs hm;refine Co (.call C63 (qW _ _ hv5) ⟨.r,trivial⟩)<|Co (.eqS .r .s)<|An<|W.cB hm .r (fun hp7 hm=>?_) (fun hp7 hm=>?_)
 ·refine Aw<|Cm X<|Co (.fA U33 J23 dA)<|Co (.load ty23) ?_;obtain ⟨format,hv8,hm⟩:=Bs hm;refine Co (.callG (rin:=[E7]) C64 (lH _ _ hv8) ⟨X,trivial⟩ ⟨X,X,trivial⟩ ⟨.r,trivial⟩) ?_;obtain ⟨v2,hv9,hm⟩:=Bs hm;refine Co (.catC hv9)<|Cg X<|WL.ns ?_;cases hm;exact W.e1
 ·refine W.skip<|Aq<|Aw<|Cm X<|Co (.fA U33 J3 dN)<|Co (.load ty3) ?_;obtain ⟨kindna,hv10,hm⟩:=Bs hm;refine Co (.callG (rin:=[E2]) C65 (mD _ _ hv10) ⟨X,trivial⟩ ⟨X,X,trivial⟩ ⟨.r,trivial⟩) ?_;obtain ⟨v3,hv11,hm⟩:=Bs hm;refine Co (.catC hv11)<|Cg X<|WL.ns ?_;obtain ⟨s12,hs13,hk14⟩:=Bs hm;clear hm;refine W.join (fun s:Str=>s=s12) (fun s=>[(5,(tS.is s)),(2,(ae.ptr t))]) (fun s=>[E0,E1,E2,E3,E7]) ?_ ?_
  ·rintro s0_ hj44;try dsimp only at hj44
   subst hj44;have hm:=hk14;clear hk14;try dsimp only at hm
   obtain ⟨s19,hs20,hk21⟩:=Bs hm;clear hm;refine W.join (fun s:Str=>s=s19) (fun s=>[(5,(tS.is s)),(2,(ae.ptr t))]) (fun s=>[E0,E1,E2,E3,E7]) ?_ ?_
   ·rintro s0_1 hj43;try dsimp only at hj43
    subst hj43;have hm:=hk21;clear hk21;try dsimp only at hm
    refine Aw<|Cm X<|Co (.fA U33 J23 dA)<|Co (.load ty23) ?_;obtain ⟨format1,hv26,hm⟩:=Bs hm;refine Co (.callG (rin:=[E7]) C64 (lH _ _ hv26) ⟨X,trivial⟩ ⟨X,X,trivial⟩ ⟨.r,trivial⟩) ?_;obtain ⟨v8,hv27,hm⟩:=Bs hm;refine Co (.catC hv27 .s) ?_;obtain ⟨v9,hv28,hm⟩:=Bs hm;refine Co (.catC hv28)<|Cg X<|WL.ns ?_;obtain ⟨s29,hs30,hk31⟩:=Bs hm;clear hm;refine W.join (fun s:Str=>s=s29) (fun s=>[(5,(tS.is s)),(2,(ae.ptr t))]) (fun s=>[E0,E1,E2,E3,E7]) ?_ ?_
    ·rintro s0_2 hj42;try dsimp only at hj42
     subst hj42;have hm:=hk31;clear hk31;try dsimp only at hm
     refine W.seq<|Aw<|Co (.fA U33 J30 fK)<|Co (.load ty30)<|Co (.bg U30)<|Co (.gtI .r .i64)<|An<|W.cD hm .r (fun hp38 hm=>?_) (fun hp38 hm=>?_)
     ·refine W.region<|Cm X<|Co (.fA U33 J30 fK)<|Co (.load ty30) ?_;obtain ⟨format3,hv39,hm⟩:=Bs hm;refine Co (.callG (rin:=[E0,E1,E3]) C23 (iY _ _ _ hv39) ⟨X,X,X,trivial⟩ ⟨X,X,X,X,X,X,trivial⟩ ⟨.r,trivial⟩) ?_;obtain ⟨v12,hv40,hm⟩:=Bs hm;refine Co (.catC hv40 .s) ?_;obtain ⟨v13,hv41,hm⟩:=Bs hm;refine Co (.catC hv41)<|Cg X<|Ar<|Cm X<|Cg X<|WL.ns ?_;cases hm;exact W.e1
     ·refine W.skip<|Aq<|Aw<|Cm X<|Cg X<|WL.ns ?_;cases hm;exact W.e1
    ·have hm:=hs30;clear hs30;refine Aw<|Co (.fA U33 J30 fJ)<|Co (.load ty30)<|Co (.bg U30)<|Co (.gtI .r .i64)<|An<|W.cD hm .r (fun hp33 hm=>?_) (fun hp33 hm=>?_)
     ·refine W.region<|Cm X<|Co (.fA U33 J30 fJ)<|Co (.load ty30) ?_;obtain ⟨format2,hv34,hm⟩:=Bs hm;refine Co (.callG (rin:=[E0,E1,E3]) C23 (iY _ _ _ hv34) ⟨X,X,X,trivial⟩ ⟨X,X,X,X,X,X,trivial⟩ ⟨.r,trivial⟩) ?_;obtain ⟨v10,hv35,hm⟩:=Bs hm;refine Co (.catC hv35 .s) ?_;obtain ⟨v11,hv36,hm⟩:=Bs hm;exact Co (.catC hv36)<|Cg X<|WL.nil<|WN.mt v11 (Si hm)
     ·exact W.skip<|WN.mt v9 (Si hm)
   ·have hm:=hs20;clear hs20;refine Aw<|Co (.fA U33 J9 dF)<|Co (.load ty9)<|Co (.neS .r .s)<|An<|W.cB hm .r (fun hp23 hm=>?_) (fun hp23 hm=>?_)
    ·refine W.region<|Cm X<|Co (.fA U33 J9 dF)<|Co (.load ty9) ?_;obtain ⟨v6,hv24,hm⟩:=Bs hm;refine Co (.catC hv24 .s) ?_;obtain ⟨v7,hv25,hm⟩:=Bs hm;exact Co (.catC hv25)<|Cg X<|WL.nil<|WN.mt v7 (Si hm)
    ·exact W.skip<|WN.mt s0_ (Si hm)
  ·have hm:=hs13;clear hs13;refine Aw<|Co (.fA U33 J9 cK)<|Co (.load ty9)<|Co (.neS .r .s)<|An<|W.cB hm .r (fun hp16 hm=>?_) (fun hp16 hm=>?_)
   ·refine W.region<|Cm X<|Co (.fA U33 J9 cK)<|Co (.load ty9) ?_;obtain ⟨v4,hv17,hm⟩:=Bs hm;refine Co (.catC hv17 .s) ?_;obtain ⟨v5,hv18,hm⟩:=Bs hm;exact Co (.catC hv18)<|Cg X<|WL.nil<|WN.mt v5 (Si hm)
   ·exact W.skip<|WN.mt v3 (Si hm)
theorem uy:∀ (n:Nat) (t:aa) (depth:Int) (c:List Str) (b:Nat) (k:Tok) (b1:Nat) (r:List Str),M.gY n t depth c=some r→aG Tryz.prog 30 [(ae.is t),(I6.is depth),(Bp b 0),(Bp b1 0)] [(2,(Bx 1 false 38 (tO tS k c) b)),(1000002,Dec.Own tS 9 k c.length),(3,(Bx 1 false 63 (cloA 30 [(Bp b 0),(Bp b1 0)]) b1)),E0,E1,E2,E3,E7] (fun kx:Tok=>(Asn.eq (.tuple #[]))) (fun kx:Tok=>[(2,(Bx 1 false 38 (tO tS kx r) b)),(1000002,Dec.Own tS 9 kx r.length),(3,(Bx 1 false 63 (cloA 30 [(Bp b 0),(Bp b1 0)]) b1)),E0,E1,E2,E3,E7]):=by
 intro n;induction n with
 | zero=>intro t depth c b k b1 r hm;cases hm
 | succ n ih=>
  intro t depth c b k b1 r hm;rw [M.gY.eq_2] at hm;refine aG.of Tryz.func30 X X X fun g0=>Aw<|Co .box<|An<|W.seq ?_;obtain ⟨line,hv1,hm⟩:=Bs hm;obtain ⟨out,hv2,hm⟩:=Bs hm;refine W.wR [(1000002,Dec.Own tS 9 k c.length),(2,(Bx 1 false 38 (tO tS k c) b)),(3,(Bx 1 false 63 (cloA 30 [(Bp b 0),(Bp b1 0)]) b1)),E0,E1,E2,E3,E7]<|W.dM [.c (tO tS k c),.c (ae.is t),.c (I6.is depth),.c (tS.is line),.c ((tL tS).is [line]),.f (fun cv=>(tO tS (cv 0) out)),.c Asn.any] [([],[2]),([],[4]),([],[1]),([1,2],[]),([3],[]),([0,4],[]),([5],[2])] [5,6] [[],[],[],[],[],[true],[]] (fun m cv=>match m with | 0=>[(1000002,Dec.Own tS 9 k c.length),(2,(Bx 1 false 38 (tO tS k c) b)),(3,(Bx 1 false 63 (cloA 30 [(Bp b 0),(Bp b1 0)]) b1)),E0,E1,E2,E3,E7] | 1=>[(1000002,Dec.Own tS 9 (cv 0) out.length),(2,(Bx 1 false 38 (tO tS k c) b)),(3,(Bx 1 false 63 (cloA 30 [(Bp b 0),(Bp b1 0)]) b1)),E0,E1,E2,E3,E7] | _=>[(2,(Bx 1 false 38 (tO tS (cv 0) out) b)),(1000002,Dec.Own tS 9 (cv 0) out.length),(3,(Bx 1 false 63 (cloA 30 [(Bp b 0),(Bp b1 0)]) b1)),E0,E1,E2,E3,E7]) Mx ⟨.inr ⟨fun cv=>[(2,(Bx 1 false 38 (tO tS k c) b))],(jF.at ⟨⟨(fun _ _=>⟨X,X,trivial⟩),(nn)⟩,(nn)⟩),fun cv=>Op1.ja 2 Y38 Z38 X .r⟩,mo fun cv=>.load ty33,mo fun cv=>.move,.inr ⟨fun cv=>[E0,E1,E2,E3,E7],(jF.at ⟨⟨(fun _ _=>⟨X,X,X,X,X,X,X,X,X,X,trivial⟩),(nn)⟩,(nn)⟩),fun cv=>Op1.callG (rin:=[E0,E1,E2,E3,E7]) C31 (nL _ _ _ _ hv1) ⟨X,X,X,X,X,trivial⟩ ⟨X,X,X,X,X,X,X,X,X,X,trivial⟩ ⟨.r,.r,trivial⟩⟩,mo fun cv=>.buildSlice (n:=1) (ys:=[(0,line)]) (z:=([]:Str)) (xs:=[line]) U38 el9 ze9 ⟨X,.r,trivial⟩ (by simp) (by decide) X,.inl X,.inl X,trivial⟩ ⟨⟨_,_,_,[1000002],(fun cv=>[(1000002,Dec.Own tS 9 (cv 0) out.length)]),X,X,X,X,fun _=>X,fun _ _=>X,fun cv=>OpR.appC (key:=1000002) hv2 U38 el9 .r .r X⟩,⟨_,_,_,[2],(fun cv=>[(2,(Bx 1 false 38 (tO tS (cv 0) out) b))]),X,X,X,X,fun _=>X,fun _ _=>X,fun cv=>OpR.viaU (OpR.storeB (b:=b) 2 Z38 (aF.o tS (cv 0) out) X)⟩,trivial⟩ fun cv=>Aq<|Aw<|Co (.fA U33 J31 eP)<|Co (.load ty31)<|Co (.bg U31)<|Co (.move .i64)<|An<|W.block ?_;obtain ⟨s3,hs4,hk5⟩:=Bs hm;clear hm;refine W.lp (fun m (s:Int×List aa×List aa×(((List Str))×Tok))=>m=s.2.2.1.length∧t.Kids=s.2.1++s.2.2.1∧s.1=(s.2.1.length:Int)∧M.eF depth (M.gY n) s.2.2.1 s.2.2.2.1=some s3) (fun s=>[(17,(I6.is s.1)),(1,(I6.is depth)),(3,(Bp b1 0)),(15,((tL ae).is t.Kids)),(16,(I6.is (t.Kids.length:Int)))]) (fun s=>[(1000002,Dec.Own tS 9 s.2.2.2.2 s.2.2.2.1.length),(2,(Bx 1 false 38 (tO tS s.2.2.2.2 s.2.2.2.1) b)),(3,(Bx 1 false 63 (cloA 30 [(Bp b 0),(Bp b1 0)]) b1)),E0,E1,E2,E3,E7]) t.Kids.length ((0:Int),[],t.Kids,(out,(cv 0))) ⟨X,X,X,hs4⟩ ?_;rintro m ⟨i,pre,rest1,v,k1⟩ ⟨hn9,hxs6,hi7,hm⟩;try dsimp only at hn9 hxs6 hi7 hm
  refine W.bg (s:=15) .r fun hlen8=>Aw<|Co .ltI<|An<|W.seq<|W.cond .r (fun hc11=>?_) (fun hc11=>?_)
  ·have hp12:=of_decide_eq_true hc11;obtain ⟨e,es,hrest14⟩:=df hxs6 hi7 hp12;subst hrest14;rw [M.eF.eq_2] at hm;refine W.skip<|Aq<|W.seq<|W.block<|Aw<|Co (.idxPre hxs6 hi7 U31 Z33)<|Co (.load ty33)<|Cr (OpR.alloc 7 ze33) fun b2=>WL.opU (OpR.storeB (b:=b2) 7 Z33 (aF.is ae e) X) fun _=>WL.sealed (t:=ae) (u:=e) 7 7 X X<|WL.nr1<|Co (.ja 3 Y63 Z63 X)<|Co (.load ty33)<|WL.mv X X ?_;obtain ⟨v1,hv15,hm⟩:=Bs hm;refine Co (.addC hv15 .r .i64) ?_;obtain ⟨w,hv16,hm⟩:=Bs hm;exact WL.weakR (res':=[(2,(Bx 1 false 38 (tO tS k1 v) b)),(1000002,Dec.Own tS 9 k1 v.length),(3,(Bx 1 false 63 (cloA 30 [(Bp b 0),(Bp b1 0)]) b1)),E0,E1,E2,E3,E7]) ⟨X,X,X,X,X,X,X,X,X,X,X,X,X,X,X,X,trivial⟩<|Cr (OpR.callClo (us:=[2,1000002,3,700000,700001,700002,700003,700007]) (A:=fun kx:Tok=>(Asn.eq (.tuple #[]))) (As:=[ae.is e,I6.is v1]) C30 .r (aG.keys (rin':=[(2,(Bx 1 false 38 (tO tS k1 v) b)),(1000002,Dec.Own tS 9 k1 v.length),(3,(Bx 1 false 63 (cloA 30 [(Bp b 0),(Bp b1 0)]) b1)),E0,E1,E2,E3,E7]) (out':=fun kx:Tok=>[(2,(Bx 1 false 38 (tO tS kx w) b)),(1000002,Dec.Own tS 9 kx w.length),(3,(Bx 1 false 63 (cloA 30 [(Bp b 0),(Bp b1 0)]) b1)),E0,E1,E2,E3,E7]) (ih _ _ _ _ _ _ _ hv16) X (fun _=>X)) X ⟨.r,.r,trivial⟩) fun k2=>WL.nil<|WN.block<|Aq<|W.region<|Co (.addI .r .i64 (bH hi7 hp12 hlen8))<|Cm X<|WL.nil<|WN.ag es.length (i+1,pre++ [e],es,(w,k2)) (bS hn9) ⟨X,bi hxs6,bG hi7,hm⟩
  ·have hrest14:=dG hxs6 hi7 (of_decide_eq_false hc11);subst hrest14;rw [M.eF.eq_1] at hm;refine W.exit X ?_;have hr17:=Si hm;clear hm;subst hr17;have hm:=hk5;try dsimp only at hm
   have hr:=Si hm;clear hm;subst hr;exact WN.fin k1 X (fun _=>X) ⟨X,X,X,X,X,X,X,X,X,X,X,X,X,X,X,X,trivial⟩
theorem vS(n:Nat)(t:aa)(r:List Str)(hm:M.jf n t=some r):aG Tryz.prog 10 [(ae.is t)] [E0,E1,E2,E3,E7] (fun _:Unit=>((tL tS).is r)) (fun _=>[]):=by
 unfold M.jf at hm;refine aG.of Tryz.func10 X X X fun g0=>Aw<|Co .box<|Co (.assign (.nil (t:=tS)))<|An<|W.seq<|Aw<|Co (.load ty33) ?_;obtain ⟨validt,hv1,hm⟩:=Bs hm;refine Co (.call C29 (si _ _ _ _ hv1) ⟨.r,.i64,trivial⟩)<|Co .notB<|An<|W.cR hm .r (fun hp3 hm=>?_) (fun hp3 hm=>?_)
 ·refine Aw<|Co (.assign (.nil (t:=tS)))<|WL.ns ?_;cases hm;exact W.e1
 ·refine W.skip<|Aq<|Aw<|WL.addNil (t:=tS) (E:=9) 1000003<|Cr (OpR.allocO (t:=tS) 3 Tryz.zeroValue38) fun b=>Ar<|Cr (OpR.allocF 4 Tryz.zeroValue63) fun b1=>Ar<|Co (.makeClo (Cs:=[(Bp b 0),(Bp b1 0)]) (cap:=[.tmp 3,.tmp 4]) ⟨.r,.r,trivial⟩)<|WL.opU (OpR.storeB (b:=b1) 4 Z63 (aF.clo 30 _) X) fun _=>Ar<|Co (.ja 4 Y63 Z63 X)<|Co (.load ty33) ?_;obtain ⟨out,hv4,hm⟩:=Bs hm;refine WL.weakR (res':=[(3,(Bx 1 false 38 (tO tS (none:Tok) ([]:List Str)) b)),(1000003,Dec.Own tS 9 (none:Tok) ([]:List Str).length),(4,(Bx 1 false 63 (cloA 30 [(Bp b 0),(Bp b1 0)]) b1)),E0,E1,E2,E3,E7]) ⟨X,X,X,X,X,X,X,X,X,X,X,X,X,X,X,X,trivial⟩<|Cr (OpR.callClo (us:=[3,1000003,4,700000,700001,700002,700003,700007]) (A:=fun kx:Tok=>(Asn.eq (.tuple #[]))) (As:=[ae.is t,I6.is (0:Int)]) C30 .r (aG.keys (rin':=[(3,(Bx 1 false 38 (tO tS (none:Tok) ([]:List Str)) b)),(1000003,Dec.Own tS 9 (none:Tok) ([]:List Str).length),(4,(Bx 1 false 63 (cloA 30 [(Bp b 0),(Bp b1 0)]) b1)),E0,E1,E2,E3,E7]) (out':=fun kx:Tok=>[(3,(Bx 1 false 38 (tO tS kx out) b)),(1000003,Dec.Own tS 9 kx out.length),(4,(Bx 1 false 63 (cloA 30 [(Bp b 0),(Bp b1 0)]) b1)),E0,E1,E2,E3,E7]) (uy _ _ _ _ _ _ _ _ hv4) X (fun _=>X)) X ⟨.r,.i64,trivial⟩) fun k=>Ar<|Co (.ja 3 Y38 Z38 X)<|Cg X<|WL.ns ?_;cases hm;exact W.ret1 () X (Opd.own .r) trivial
theorem pR(n:Nat)(t:aa)(r:Str×Int)(hm:M.iJ n t=some r):aG Tryz.prog 14 [(ae.is t)] [E0,E1,E2,E3,E7] (fun _:Unit=>(Asn.tuple2 (tS.is r.1) (I6.is r.2))) (fun _=>[]):=by
 unfold M.iJ at hm;refine aG.of Tryz.func14 X X X fun g0=>Aw<|Co .box<|Co (.assign .s)<|Co (.assign .i64)<|Ar<|Co (.load ty33) ?_;obtain ⟨lines,hv1,hm⟩:=Bs hm;refine Co (.callG (rin:=[E0,E1,E2,E3,E7]) C10 (vS _ _ _ hv1) ⟨X,X,X,X,X,trivial⟩ ⟨X,X,X,X,X,X,X,X,X,X,trivial⟩ ⟨.r,trivial⟩)<|Cg X<|An<|W.seq<|Aw<|Cm X<|Co (.bg U38)<|Co (.eqI .r .i64)<|An<|W.cD hm .r (fun hp3 hm=>?_) (fun hp3 hm=>?_)
 ·refine Aw<|Co (.assign .s)<|Co (.assign .i64)<|WL.ns ?_;cases hm;exact W.ret2 () X X .r .r trivial
 ·refine W.skip<|Aq<|Aw<|WL.mv X X ?_;obtain ⟨join,hv4,hm⟩:=Bs hm;refine Co (.call C33 (mZ _ _ _ hv4) ⟨.r,.s,trivial⟩) ?_;obtain ⟨v,hv5,hm⟩:=Bs hm;refine Co (.catC hv5 .r .s)<|Cg X<|An<|W.seq<|Aw<|Cm X<|Co (.kY U9)<|Co (.gtI .r .i64)<|An<|W.cD hm .r (fun hp7 hm=>?_) (fun hp7 hm=>?_)
  ·refine Aw<|Co (.assign .s)<|Co (.assign .i64)<|WL.ns ?_;cases hm;exact W.ret2 () X X .r .r trivial
  ·refine W.skip<|Aq<|Aw<|Cm X<|Cg X<|Co (.assign .i64)<|WL.ns ?_;cases hm;exact W.ret2 () X X .r .r trivial
theorem wT(n:Nat) (r:Bool)(hm:M.og n=some r):aG Tryz.prog 6 [] [E0,E1,E2,E3,E7] (fun _:Unit=>(tB.is r)) (fun _=>[]):=by
 unfold M.og at hm;refine aG.of Tryz.func6 X X X fun g0=>Aw<|Co (.assign .bool)<|Ar<|Co (.build (s:=ak) (x:=(⟨(0:Int),([97]:Str)⟩:ah)) iG X U53 (jc _ U53) ze53 ⟨_,tS,([97]:Str),_,_,X,Z9,.s,jE,X⟩)<|Co (.build (s:=ak) (x:=(⟨(2:Int),([98]:Str)⟩:ah)) iG X U53 (jc _ U53) ze53 ⟨_,I6,(2:Int),_,_,X,Z3,.i64,kD,_,tS,([98]:Str),_,_,X,Z9,.s,jE,X⟩)<|Co (.build (s:=ak) (x:=(⟨(1:Int),([99]:Str)⟩:ah)) iG X U53 (jc _ U53) ze53 ⟨_,I6,(1:Int),_,_,X,Z3,.i64,kD,_,tS,([99]:Str),_,_,X,Z9,.s,jE,X⟩)<|Co (.buildSlice (n:=3) (ys:=[(0,(⟨(0:Int),([97]:Str)⟩:ah)),(1,(⟨(2:Int),([98]:Str)⟩:ah)),(2,(⟨(1:Int),([99]:Str)⟩:ah))]) (z:=jv) (xs:=[(⟨(0:Int),([97]:Str)⟩:ah),(⟨(2:Int),([98]:Str)⟩:ah),(⟨(1:Int),([99]:Str)⟩:ah)]) U30 el53 ze53 ⟨X,.r,X,.r,X,.r,trivial⟩ (by simp) (by decide) X)<|Cg X<|Ar<|Co (.build (s:=aj) (x:=(⟨(1:Int),(0:Int),(1:Int)⟩:au)) mJ X U23 (mi _ U23) ze23 ⟨_,I6,(1:Int),_,_,X,Z3,.i64,zV,_,I6,(1:Int),_,_,X,Z3,.i64,zW,X⟩)<|Cm X<|Co (.build (s:=ae) (x:=(⟨(0:Int),(2:Int),(⟨(1:Int),(0:Int),(1:Int)⟩:au),([53]:Str),([52]:Str),false,([]:List ah),[(⟨(0:Int),([97]:Str)⟩:ah),(⟨(2:Int),([98]:Str)⟩:ah),(⟨(1:Int),([99]:Str)⟩:ah)],([]:List aa)⟩:aa)) bE X U33 (bC _ U33) ze33 ⟨_,I6,(2:Int),_,_,X,Z3,.i64,pI,_,aj,(⟨(1:Int),(0:Int),(1:Int)⟩:au),_,_,X,Z23,.r,pJ,_,tS,([53]:Str),_,_,X,Z9,.s,pK,_,tS,([52]:Str),_,_,X,Z9,.s,pM,_,(tL ak),([(⟨(0:Int),([97]:Str)⟩:ah),(⟨(2:Int),([98]:Str)⟩:ah),(⟨(1:Int),([99]:Str)⟩:ah)]),_,_,X,Z30,.r,pO,X⟩)<|Cr (OpR.alloc 2 ze33) fun b=>WL.opU (OpR.storeB (b:=b) 2 Z33 (aF.is ae (⟨(0:Int),(2:Int),(⟨(1:Int),(0:Int),(1:Int)⟩:au),([53]:Str),([52]:Str),false,([]:List ah),[(⟨(0:Int),([97]:Str)⟩:ah),(⟨(2:Int),([98]:Str)⟩:ah),(⟨(1:Int),([99]:Str)⟩:ah)],([]:List aa)⟩:aa)) X) fun _=>WL.sealed (t:=ae) (u:=(⟨(0:Int),(2:Int),(⟨(1:Int),(0:Int),(1:Int)⟩:au),([53]:Str),([52]:Str),false,([]:List ah),[(⟨(0:Int),([97]:Str)⟩:ah),(⟨(2:Int),([98]:Str)⟩:ah),(⟨(1:Int),([99]:Str)⟩:ah)],([]:List aa)⟩:aa)) 2 2 X X ?_;refine Ar<|Co (.load ty33) ?_;obtain ⟨format,hv1,hm⟩:=Bs hm;refine Co (.callG (rin:=[E0,E1,E2,E3,E7]) C14 (pR _ _ _ hv1) ⟨X,X,X,X,X,trivial⟩ ⟨X,X,X,X,X,X,X,X,X,X,trivial⟩ ⟨.r,trivial⟩)<|Cm X<|Co .extract0<|Co .extract1<|Cg X<|Cg X<|Ar<|WL.mv X X ?_;obtain ⟨format1,hv2,hm⟩:=Bs hm;refine Co (.callG (rin:=[E0,E1,E3]) C23 (iY _ _ _ hv2) ⟨X,X,X,trivial⟩ ⟨X,X,X,X,X,X,trivial⟩ ⟨.r,trivial⟩)<|Co (.eqS .r .s)<|WL.mv X X ?_;rcases iteB hm with ⟨hp4,hb3,hm⟩ | ⟨hp4,hb3,hm⟩
 ·refine Cy hb3 .move<|Cy hb3 (.eqI .r .i64)<|Co (.pT hb3)<|WL.mv X X ?_;rcases iteD hm with ⟨hp6,hb5,hm⟩ | ⟨hp6,hb5,hm⟩
  ·refine Cy hb5 .move<|Cy hb5 (.eqS .r .s)<|Co (.pT hb5)<|Cg X<|WL.ns ?_;cases hm;exact W.e1
  ·refine Cp hb5<|Cp hb5<|Co (.pF hb5 .bool)<|Cg X<|WL.ns ?_;cases hm;exact W.e1
 ·refine Cp hb3<|Cp hb3<|Co (.pF hb3 .bool)<|Cm X<|Cp X<|Cp X<|Co (.pF X .bool)<|Cg X<|WL.ns ?_;cases hm;exact W.e1
theorem zI:∀ (n:Nat) (u:af) (deep:Int) (most:Int) (r:Int),M.lW n u deep most=some r→FSpec Tryz.prog 24 [(ai.is u),(I6.is deep),(I6.is most)] (I6.is r):=by
 intro n;induction n with
 | zero=>intro u deep most r hm;cases hm
 | succ n ih=>
  intro u deep most r hm;rw [M.lW.eq_2] at hm;refine FSpec.of Tryz.func24 X X X fun g0=>Aw<|Co .box<|Co (.assign .i64)<|An<|W.seq<|Aw<|Cm X<|Co (.gtI .r .i64)<|An<|W.cD hm .r (fun hp2 hm=>?_) (fun hp2 hm=>?_)
  ·refine Aw<|WL.mv X X ?_;obtain ⟨v,hv3,hm⟩:=Bs hm;refine Co (.addC hv3 .r .i64)<|Cg X<|WL.ns ?_;cases hm;exact W.e1
  ·refine W.skip<|Aq<|Aw<|Co (.assign .i64)<|An<|W.seq<|Aw<|Co (.assign .i64)<|An<|W.block ?_;obtain ⟨s4,hs5,hk6⟩:=Bs hm;clear hm;refine W.lp (fun m (s:Int×Int)=>M.gZ u deep most (M.lW n) m s.1 s.2=some s4) (fun s=>[(7,(I6.is s.1)),(8,(I6.is s.2)),(1,(I6.is deep)),(2,(I6.is most)),(3,(ai.ptr u))]) (fun s=>[]) _ ((1:Int),(0:Int)) hs5 ?_;rintro n7 ⟨n0_,i⟩ hm;try dsimp only at hm
   cases n7 with
   | zero=>rw [M.gZ.eq_1] at hm;cases hm
   | succ n7=>
    rw [M.gZ.eq_2] at hm;refine W.seq ?_;obtain ⟨s8,hs9,hk10⟩:=Bs hm;clear hm;refine W.join (fun s:Bool=>s=s8) (fun s=>[(22,(tB.is s)),(1,(I6.is deep)),(2,(I6.is most)),(3,(ai.ptr u)),(7,(I6.is n0_)),(8,(I6.is i))]) (fun s=>[]) ?_ ?_
    ·rintro v1 hj22;try dsimp only at hj22
     subst hj22;have hm:=hk10;clear hk10;try dsimp only at hm
     refine W.cB hm .r (fun hp14 hm=>?_) (fun hp14 hm=>?_)
     ·refine W.skip<|Aq<|W.seq<|W.block<|W.region<|Cm X<|Co (.fA U27 J25 dx)<|Co (.load ty25)<|WL.mv X X ?_;obtain ⟨v2,hv15,hm⟩:=Bs hm;refine Co (.idx hv15 U25 Z27)<|Co (.load ty27)<|WL.mv X X ?_;obtain ⟨v3,hv16,hm⟩:=Bs hm;refine Co (.addC hv16 .r .i64)<|Cm X<|WL.mv X X ?_;obtain ⟨v4,hv17,hm⟩:=Bs hm;refine Co (.subC hv17) ?_;obtain ⟨size,hv18,hm⟩:=Bs hm;refine Co (.call C24 (ih _ _ _ _ hv18) ⟨.r,.r,.r,trivial⟩) ?_;obtain ⟨v5,hv19,hm⟩:=Bs hm;refine Co (.addC hv19)<|Cg X<|WL.nil<|WN.block<|Aq<|W.region<|WL.mv X X ?_;obtain ⟨v6,hv20,hm⟩:=Bs hm;exact Co (.addC hv20 .r .i64)<|Cg X<|WL.nil<|WN.ag n7 (v5,v6) (Nat.lt_succ_self n7) hm
     ·refine W.exit X ?_;have hr21:=Si hm;clear hm;subst hr21;have hm:=hk6;try dsimp only at hm
      refine Aq<|Aw<|Cm X<|Cg X<|WL.ns ?_;cases hm;exact W.e1
    ·have hm:=hs9;clear hs9;refine W.region<|Cm X<|Co (.fA U27 J25 dx)<|Co (.load ty25)<|Co (.bg U25)<|Co .ltI<|WL.mv X X ?_;rcases iteD hm with ⟨hp12,hb11,hm⟩ | ⟨hp12,hb11,hm⟩
     ·exact Cy hb11 .move<|Cy hb11 .move<|Cy hb11 .leI<|Co (.pT hb11)<|WL.nil<|WN.mt (decide (n0_≤most)) (Si hm)
     ·exact Cp hb11<|Cp hb11<|Cp hb11<|Co (.pF hb11 .bool)<|WL.nil<|WN.mt false (Si hm)
theorem sV(n:Nat)(l:List aH)(r:Bool)(hm:M.jI n l=some r):FSpec Tryz.prog 46 [((tL aD).is l)] (tB.is r):=by
 unfold M.jI at hm;refine FSpec.of Tryz.func46 X X X fun g0=>Aw<|Co (.assign .bool)<|An<|W.seq<|Aw<|Co (.assign .i64)<|An<|W.block ?_;obtain ⟨s1,hs2,hk3⟩:=Bs hm;clear hm;refine W.lp (fun m (s:Int)=>M.dR l m s=some s1) (fun s=>[(3,(I6.is s)),(0,((tL aD).is l))]) (fun s=>[]) _ (0:Int) hs2 ?_;rintro n4 i hm;try dsimp only at hm
 cases n4 with
 | zero=>rw [M.dR.eq_1] at hm;cases hm
 | succ n4=>
  rw [M.dR.eq_2] at hm;refine W.seq<|Aw<|Cm X<|Cm X<|Co (.bg U24)<|Co .ltI<|An<|W.cD hm .r (fun hp6 hm=>?_) (fun hp6 hm=>?_)
  ·refine W.skip<|Aq<|W.seq<|W.block<|Aw<|Cm X<|WL.mv X X ?_;obtain ⟨v,hv7,hm⟩:=Bs hm;refine Co (.idx hv7 U24 Z120)<|Co (.fA U120 J9 qm)<|Co (.load ty9)<|Co (.kY U9)<|Co (.gtI .r .i64)<|An<|W.cD hm .r (fun hp9 hm=>?_) (fun hp9 hm=>?_)
   ·refine Aw<|Co (.assign .bool)<|WL.ns ?_;have hr10:=Si hm;clear hm;subst hr10;have hm:=hk3;try dsimp only at hm
    cases hm;exact W.e1
   ·exact W.skip<|WN.block<|Aq<|W.region<|Cm X<|WL.bg (s:=0) .r fun hl11=>Co (.addI1 .r .i64 hp6 hl11)<|Cg X<|WL.nil<|WN.ag n4 (i+1) (Nat.lt_succ_self n4) hm
  ·refine W.exit X ?_;have hr12:=Si hm;clear hm;subst hr12;have hm:=hk3;try dsimp only at hm
   refine Aq<|Aw<|Cm X<|Co (.bg U24)<|Co (.leI .r .i64)<|Cg X<|WL.ns ?_;cases hm;exact W.e1
theorem yH:∀ (n:Nat) (u:af) (r:Bool),M.fT n u=some r→FSpec Tryz.prog 25 [(ai.is u)] (tB.is r):=by
 intro n;induction n with
 | zero=>intro u r hm;cases hm
 | succ n ih=>
  intro u r hm;rw [M.fT.eq_2] at hm;refine FSpec.of Tryz.func25 X X X fun g0=>Aw<|Co .box<|Co (.assign .bool)<|An<|W.seq ?_;obtain ⟨s1,hs2,hk3⟩:=Bs hm;clear hm;refine W.join (fun s:Bool=>s=s1) (fun s=>[(19,(tB.is s)),(1,(ai.ptr u))]) (fun s=>[]) ?_ ?_
  ·rintro v hj25;try dsimp only at hj25
   subst hj25;have hm:=hk3;clear hk3;try dsimp only at hm
   refine W.cB hm .r (fun hp11 hm=>?_) (fun hp11 hm=>?_)
   ·refine Aw<|Co (.assign .bool)<|WL.ns ?_;cases hm;exact W.e1
   ·refine W.skip<|Aq<|W.seq<|Aw<|Co (.assign .i64)<|An<|W.block ?_;obtain ⟨s12,hs13,hk14⟩:=Bs hm;clear hm;refine W.lp (fun m (s:Int)=>M.cO u (M.fT n) m s=some s12) (fun s=>[(3,(I6.is s)),(1,(ai.ptr u))]) (fun s=>[]) _ (0:Int) hs13 ?_;rintro n15 i hm;try dsimp only at hm
    cases n15 with
    | zero=>rw [M.cO.eq_1] at hm;cases hm
    | succ n15=>
     rw [M.cO.eq_2] at hm;refine W.seq<|Aw<|Cm X<|Co (.fA U27 J25 dx)<|Co (.load ty25)<|Co (.bg U25)<|Co .ltI<|An<|W.cD hm .r (fun hp17 hm=>?_) (fun hp17 hm=>?_)
     ·refine W.skip<|Aq<|W.seq<|W.block<|Aw<|Co (.fA U27 J25 dx)<|Co (.load ty25)<|WL.mv X X ?_;obtain ⟨v1,hv18,hm⟩:=Bs hm;refine Co (.idx hv18 U25 Z27)<|Co (.load ty27) ?_;obtain ⟨words,hv19,hm⟩:=Bs hm;refine Co (.call C25 (ih _ _ hv19) ⟨.r,trivial⟩)<|Co .notB<|An<|W.cR hm .r (fun hp21 hm=>?_) (fun hp21 hm=>?_)
      ·refine Aw<|Co (.assign .bool)<|WL.ns ?_;have hr22:=Si hm;clear hm;subst hr22;have hm:=hk14;try dsimp only at hm
       cases hm;exact W.e1
      ·exact W.skip<|WN.block<|Aq<|W.region<|Cm X<|WL.bg (s:=22) .r fun hl23=>Co (.addI1 .r .i64 hp17 hl23)<|Cg X<|WL.nil<|WN.ag n15 (i+1) (Nat.lt_succ_self n15) hm
     ·refine W.exit X ?_;have hr24:=Si hm;clear hm;subst hr24;have hm:=hk14;try dsimp only at hm
      refine Aq<|Aw<|Co (.assign .bool)<|WL.ns ?_;cases hm;exact W.e1
  ·have hm:=hs2;clear hs2;refine W.region<|Co (.fA U27 J9 eG)<|Co (.load ty9)<|Co (.kY U9)<|Co (.gtI .r .i64)<|WL.mv X X ?_;rcases iteD hm with ⟨hp5,hb4,hm⟩ | ⟨hp5,hb4,hm⟩
   ·exact Cp hb4<|Cp hb4<|Cp hb4<|Cp hb4<|Co (.pT hb4 .bool)<|Cm X<|Cp X<|Cp X<|Cp X<|Cp X<|Co (.pT X .bool)<|WL.nil<|WN.mt true (Si hm)
   ·refine Cy hb4 (.fA U27 J24 iA)<|Cy hb4 (.load ty24) ?_;obtain ⟨short,hv6,hm⟩:=Bs hm;refine Cy hb4 (.call C46 (sV _ _ _ hv6) ⟨.r,trivial⟩)<|Cy hb4 .notB<|Co (.pF hb4)<|WL.mv X X ?_;rcases iteR hm with ⟨hp8,hb7,hm⟩ | ⟨hp8,hb7,hm⟩
    ·exact Cp hb7<|Cp hb7<|Cp hb7<|Cp hb7<|Co (.pT hb7 .bool)<|WL.nil<|WN.mt true (Si hm)
    ·refine Cy hb7 (.fA U27 J24 jo)<|Cy hb7 (.load ty24) ?_;obtain ⟨short1,hv9,hm⟩:=Bs hm;exact Cy hb7 (.call C46 (sV _ _ _ hv9) ⟨.r,trivial⟩)<|Cy hb7 .notB<|Co (.pF hb7)<|WL.nil<|WN.mt (!short1) (Si hm)
theorem vT(n:Nat)(u:af)(most:Int)(r:Bool)(hm:M.rM n u most=some r):FSpec Tryz.prog 7 [(ai.is u),(I6.is most)] (tB.is r):=by
 unfold M.rM at hm;refine FSpec.of Tryz.func7 X X X fun g0=>Aw<|Co .box<|Co (.assign .bool)<|Ar<|Co (.load ty27)<|WL.mv X X ?_;obtain ⟨size,hv1,hm⟩:=Bs hm;refine Co (.call C24 (zI _ _ _ _ _ hv1) ⟨.r,.i64,.r,trivial⟩)<|Cm X<|Co .leI<|WL.mv X X ?_;rcases iteD hm with ⟨hp3,hb2,hm⟩ | ⟨hp3,hb2,hm⟩
 ·refine Cy hb2 (.load ty27) ?_;obtain ⟨words,hv4,hm⟩:=Bs hm;refine Cy hb2 (.call C25 (yH _ _ _ hv4) ⟨.r,trivial⟩)<|Co (.pT hb2)<|Cg X<|WL.ns ?_;cases hm;exact W.e1
 ·refine Cp hb2<|Cp hb2<|Co (.pF hb2 .bool)<|Cg X<|WL.ns ?_;cases hm;exact W.e1
theorem uF(n:Nat)(l:List aH)(r:Bool)(hm:M.oh n l=some r):FSpec Tryz.prog 118 [((tL aD).is l)] (tB.is r):=by
 unfold M.oh at hm;refine FSpec.of Tryz.func118 X X X fun g0=>Aw<|Co (.assign .bool)<|Ar<|WL.addNil (t:=tS) (E:=9) 3<|Co (.assign (Opd.nilO (t:=tS)))<|An<|W.seq<|Aw<|Cm X<|Co (.bg U24)<|Co (.move .i64)<|An<|W.block ?_;obtain ⟨s1,hs2,hk3⟩:=Bs hm;clear hm;refine W.lp (fun m (s:Int×List aH×List aH×(((List Str))×Tok))=>m=s.2.2.1.length∧l=s.2.1++s.2.2.1∧s.1=(s.2.1.length:Int)∧M.jB s.2.2.1 s.2.2.2.1=some s1) (fun s=>[(8,(I6.is s.1)),(3,(tO tS s.2.2.2.2 s.2.2.2.1)),(0,((tL aD).is l)),(6,((tL aD).is l)),(7,(I6.is (l.length:Int)))]) (fun s=>[(3,Dec.Own tS 9 s.2.2.2.2 s.2.2.2.1.length)]) l.length ((0:Int),[],l,(([]:List Str),(none:Tok))) ⟨X,X,X,hs2⟩ ?_;rintro m ⟨i,pre,rest1,texts,k⟩ ⟨hn7,hxs4,hi5,hm⟩;try dsimp only at hn7 hxs4 hi5 hm
 refine W.bg (s:=6) .r fun hlen6=>Aw<|Co .ltI<|An<|W.seq<|W.cond .r (fun hc9=>?_) (fun hc9=>?_)
 ·have hp10:=of_decide_eq_true hc9;obtain ⟨e,es,hrest12⟩:=df hxs4 hi5 hp10;subst hrest12;rw [M.jB.eq_2] at hm;refine W.skip<|Aq<|W.seq<|W.block<|Aw<|Co (.idxPre hxs4 hi5 U24 Z120)<|Co (.load ty120)<|Cr (OpR.alloc 5 ze120) fun b=>WL.opU (OpR.storeB (b:=b) 5 Z120 (aF.is aD e) X) fun _=>WL.sealed (t:=aD) (u:=e) 5 5 X X<|WL.nr1<|Cm X<|Co (.fA U120 J9 qm)<|Co (.load ty9)<|Co (.buildSlice (n:=1) (ys:=[(0,e.Text)]) (z:=([]:Str)) (xs:=[e.Text]) U38 el9 ze9 ⟨X,.r,trivial⟩ (by simp) (by decide) X) ?_;obtain ⟨texts1,hv13,hm⟩:=Bs hm;exact Cr (OpR.appC (key:=3) hv13 U38 el9 .r .r X) fun k1=>Cg X<|WL.nil<|WN.block<|Aq<|W.region<|Co (.addI .r .i64 (bH hi5 hp10 hlen6))<|Cm X<|WL.nil<|WN.ag es.length (i+1,pre++ [e],es,(texts1,k1)) (bS hn7) ⟨X,bi hxs4,bG hi5,hm⟩
 ·have hrest12:=dG hxs4 hi5 (of_decide_eq_false hc9);subst hrest12;rw [M.jB.eq_1] at hm;refine W.exit X ?_;have hr14:=Si hm;clear hm;subst hr14;have hm:=hk3;try dsimp only at hm
  refine Aq<|Aw<|Cm X<|Co (.bg U24)<|Co (.leI .r .i64)<|WL.mv X X ?_;rcases iteD hm with ⟨hp16,hb15,hm⟩ | ⟨hp16,hb15,hm⟩
  ·refine Cy hb15 .move ?_;obtain ⟨valid,hv17,hm⟩:=Bs hm;refine Cy hb15 (.call C116 (pQ _ _ _ hv17) ⟨(Opd.own .r),trivial⟩)<|Co (.pT hb15)<|Cg X<|WL.ns ?_;cases hm;exact W.e1
  ·refine Cp hb15<|Cp hb15<|Co (.pF hb15 .bool)<|Cg X<|WL.ns ?_;cases hm;exact W.e1
theorem qc(n:Nat)(s0_:List Int)(v:Int)(r:Int)(hm:M.jO n s0_ v=some r):FSpec Tryz.prog 181 [((tL I6).is s0_),(I6.is v)] (I6.is r):=by
 unfold M.jO at hm;refine FSpec.of Tryz.func181 X X X fun g0=>Aw<|Co (.assign .i64)<|An<|W.seq<|Aw<|Cm X<|Co (.bg U161)<|Co (.move .i64)<|An<|W.block ?_;obtain ⟨s1,hs2,hk3⟩:=Bs hm;clear hm;refine W.lp (fun m (s:Int)=>M.cz s0_ v m s=some s1) (fun s=>[(8,(I6.is s)),(0,((tL I6).is s0_)),(1,(I6.is v)),(7,(I6.is (s0_.length:Int)))]) (fun s=>[]) _ (0:Int) hs2 ?_;rintro n4 v1 hm;try dsimp only at hm
 cases n4 with
 | zero=>rw [M.cz.eq_1] at hm;cases hm
 | succ n4=>
  rw [M.cz.eq_2] at hm;refine Aw<|Co .ltI<|An<|W.seq<|W.cD hm .r (fun hp6 hm=>?_) (fun hp6 hm=>?_)
  ·refine W.skip<|Aq<|W.seq<|W.block<|Aw<|Cm X<|Cg X<|Ar<|Cm X<|Cm X<|WL.mv X X ?_;obtain ⟨v2,hv7,hm⟩:=Bs hm;refine Co (.idx hv7 U161 Z3)<|Co (.load ty3)<|Co .eqI<|An<|W.cD hm .r (fun hp9 hm=>?_) (fun hp9 hm=>?_)
   ·refine Aw<|Cm X<|Cg X<|WL.ns ?_;have hr10:=Si hm;clear hm;subst hr10;have hm:=hk3;try dsimp only at hm
    cases hm;exact W.e1
   ·exact W.skip<|WN.block<|Aq<|W.region<|WL.bg (s:=0) .r fun hl11=>Co (.addI1 .r .i64 hp6 hl11)<|Cm X<|WL.nil<|WN.ag n4 (v1+1) (Nat.lt_succ_self n4) hm
  ·refine W.exit X ?_;have hr12:=Si hm;clear hm;subst hr12;have hm:=hk3;try dsimp only at hm
   refine Aq<|Aw<|Co (.assign .i64)<|WL.ns ?_;cases hm;exact W.e1
theorem oH(n:Nat)(s0_:List Int)(v:Int)(r:Bool)(hm:M.gQ n s0_ v=some r):FSpec Tryz.prog 158 [((tL I6).is s0_),(I6.is v)] (tB.is r):=by
 unfold M.gQ at hm;refine FSpec.of Tryz.func158 X X X fun g0=>Aw<|Co (.assign .bool)<|Ar<|Cm X<|WL.mv X X ?_;obtain ⟨int,hv1,hm⟩:=Bs hm;refine Co (.call C181 (qc _ _ _ _ hv1) ⟨.r,.r,trivial⟩)<|Co (.geI .r .i64)<|Cg X<|WL.ns ?_;cases hm;exact W.e1
theorem sW(n:Nat)(parent:Int)(kind:Int)(r:Bool)(hm:M.kL n parent kind=some r):aG Tryz.prog 119 [(I6.is parent),(I6.is kind)] [(700004,Gl (tA 8 (tL I6)) 4 gv4)] (fun _:Unit=>(tB.is r)) (fun _=>[]):=by
 unfold M.kL at hm;refine aG.of Tryz.func119 X X X fun g0=>Aw<|Co (.assign .bool)<|Ar<|Cm X<|Co (.geI .r .i64)<|WL.mv X X ?_;rcases iteD hm with ⟨hp2,hb1,hm⟩ | ⟨hp2,hb1,hm⟩
 ·refine Cy hb1 .move<|Cy hb1 (.ltI .r .i64)<|Co (.pT hb1)<|WL.mv X X ?_;rcases iteD hm with ⟨hp4,hb3,hm⟩ | ⟨hp4,hb3,hm⟩
  ·refine Cy hb3 .move ?_;obtain ⟨v,hv5,hm⟩:=Bs hm;refine WL.addG 900004 700004 X<|Cy hb3 (.idxA hv5 U205 Z161 (Opd.glob (s:=900004) X))<|Cy hb3 (.load ty161)<|Cy hb3 .move ?_;obtain ⟨int,hv6,hm⟩:=Bs hm;refine Cy hb3 (.call C158 (oH _ _ _ _ hv6) ⟨.r,.r,trivial⟩)<|Co (.pT hb3)<|Cg X<|WL.ns ?_;cases hm;exact W.e1
  ·refine Cp hb3<|Cp hb3<|Cp hb3<|Cp hb3<|Cp hb3<|Co (.pF hb3 .bool)<|Cg X<|WL.ns ?_;cases hm;exact W.e1
 ·refine Cp hb1<|Cp hb1<|Co (.pF hb1 .bool)<|Cm X<|Cp X<|Cp X<|Cp X<|Cp X<|Cp X<|Co (.pF X .bool)<|Cg X<|WL.ns ?_;cases hm;exact W.e1
theorem xI(n:Nat)(u:af)(r:Bool)(hm:M.o8 n u=some r):aG Tryz.prog 80 [(ai.is u)] [E2,(700004,Gl (tA 8 (tL I6)) 4 gv4)] (fun _:Unit=>(tB.is r)) (fun _=>[]):=by
 unfold M.o8 at hm;refine aG.of Tryz.func80 X X X fun g0=>Aw<|Co .box<|Co (.assign .bool)<|WL.ns ?_;obtain ⟨s1,hs2,hk3⟩:=Bs hm;clear hm;refine W.join (fun s:Unit=>(Sum.inl s:Unit ⊕ Bool)=s1) (fun s=>[(1,(ai.ptr u))]) (fun s=>[E2,(700004,Gl (tA 8 (tL I6)) 4 gv4)]) ?_ ?_
 ·rintro _ hj49;try dsimp only at hj49
  subst hj49;have hm:=hk3;clear hk3;try dsimp only at hm
  refine Aw<|Cr (OpR.makeMapQ fV tB 45) fun b=>Cg X<|An<|W.seq<|Aw<|Co (.fA U27 J25 dx)<|Co (.load ty25)<|Co (.bg U25)<|Co (.move .i64)<|An<|W.block ?_;obtain ⟨s29,hs30,hk31⟩:=Bs hm;clear hm;refine W.lp (fun m (s:Int×List af×List af×((List (bO×Bool))))=>m=s.2.2.1.length∧u.Kids=s.2.1++s.2.2.1∧s.1=(s.2.1.length:Int)∧M.gT n u s.2.2.1 s.2.2.2=some s29) (fun s=>[(49,(I6.is s.1)),(1,(ai.ptr u)),(3,(Mv b)),(47,((tL ai).is u.Kids)),(48,(I6.is (u.Kids.length:Int)))]) (fun s=>[(45,Mq fV tB s.2.2.2 b),E2,(700004,Gl (tA 8 (tL I6)) 4 gv4)]) u.Kids.length ((0:Int),[],u.Kids,([]:List (bO×Bool))) ⟨X,X,X,hs30⟩ ?_;rintro m ⟨i,pre,rest1,v1⟩ ⟨hn35,hxs32,hi33,hm⟩;try dsimp only at hn35 hxs32 hi33 hm
  refine W.bg (s:=47) .r fun hlen34=>Aw<|Co .ltI<|An<|W.seq<|W.cond .r (fun hc37=>?_) (fun hc37=>?_)
  ·have hp38:=of_decide_eq_true hc37;obtain ⟨e,es,hrest40⟩:=df hxs32 hi33 hp38;subst hrest40;rw [M.gT.eq_2] at hm;refine W.skip<|Aq<|W.seq<|W.block<|Aw<|Co (.idxPre hxs32 hi33 U25 Z27)<|Co (.load ty27)<|Cr (OpR.alloc 5 ze27) fun b1=>WL.opU (OpR.storeB (b:=b1) 5 Z27 (aF.is ai e) X) fun _=>WL.sealed (t:=ai) (u:=e) 5 5 X X<|Ar<|Co (.fA U27 J3 bQ)<|Co (.load ty3)<|Co (.fA U27 J9 eG)<|Co (.load ty9)<|Co (.build (s:=fV) (x:=(⟨e.Kind,e.Label⟩:bO)) sQ X Tryz.underlying166 (xH _ Tryz.underlying166) ze166 ⟨_,I6,e.Kind,_,_,X,Z3,.r,yE,_,tS,e.Label,_,_,X,Z9,.r,yF,X⟩) ?_;refine Cr (OpR.alloc 6 ze166) fun b2=>WL.opU (OpR.storeB (b:=b2) 6 Z166 (aF.is fV (⟨e.Kind,e.Label⟩:bO)) X) fun _=>WL.sealed (t:=fV) (u:=(⟨e.Kind,e.Label⟩:bO)) 6 6 X X<|An<|W.seq<|Aw<|Co (.fA U27 J3 bQ)<|Co (.load ty3)<|Co (.fA U27 J3 bQ)<|Co (.load ty3) ?_;obtain ⟨cancon,hv41,hm⟩:=Bs hm;refine Co (.callG (rin:=[(700004,Gl (tA 8 (tL I6)) 4 gv4)]) C119 (sW _ _ _ _ hv41) ⟨X,trivial⟩ ⟨X,X,trivial⟩ ⟨.r,.r,trivial⟩)<|Co .notB<|WL.mv X X ?_;rcases iteR hm with ⟨hp43,hb42,hm⟩ | ⟨hp43,hb42,hm⟩
   ·refine Cp hb42<|Cp hb42<|Cp hb42<|Co (.pT hb42 .bool)<|An<|W.condT .r<|Aw<|Co (.assign .bool)<|WL.ns ?_;have hr44:=Si hm;clear hm;subst hr44;have hm:=hk31;try dsimp only at hm
    cases hm;exact W.e1
   ·refine Cy hb42 .move<|Cy hb42 (.load ty166)<|Cy hb42 (.xQ 45 U164 kt166 ze4 X)<|Co (.pF hb42)<|An<|W.cB hm .r (fun hp46 hm=>?_) (fun hp46 hm=>?_)
    ·refine Aw<|Co (.assign .bool)<|WL.ns ?_;have hr47:=Si hm;clear hm;subst hr47;have hm:=hk31;try dsimp only at hm
     cases hm;exact W.e1
    ·exact W.skip<|Aq<|W.region<|Cm X<|Co (.load ty166)<|WL.opU (OpR.mapUpdateQ (b:=b) (v:=true) 45 U164 kt166 X .r .r .bool) fun _=>WL.nil<|WN.block<|Aq<|W.region<|Co (.addI .r .i64 (bH hi33 hp38 hlen34))<|Cm X<|WL.nil<|WN.ag es.length (i+1,pre++ [e],es,mset v1 (⟨e.Kind,e.Label⟩:bO) true) (bS hn35) ⟨X,bi hxs32,bG hi33,hm⟩
  ·have hrest40:=dG hxs32 hi33 (of_decide_eq_false hc37);subst hrest40;rw [M.gT.eq_1] at hm;refine W.exit X ?_;have hr48:=Si hm;clear hm;subst hr48;have hm:=hk31;try dsimp only at hm
   refine Aq<|Aw<|Co (.fA U27 J25 dx)<|Co (.load ty25)<|Co (.bg U25)<|Co (.leI .r .i64)<|Cg X<|WL.ns ?_;cases hm;exact W.e1
 ·have hm:=hs2;clear hs2;refine Aw<|Co (.fA U27 J3 bQ)<|Co (.load ty3)<|Co (.eqI .r .i64)<|An<|W.cD hm .r (fun hp5 hm=>?_) (fun hp5 hm=>?_)
  ·refine Aw<|Co (.fA U27 J9 eG)<|Co (.load ty9)<|Co (.neS .r .s)<|WL.mv X X ?_;rcases iteB hm with ⟨hp7,hb6,hm⟩ | ⟨hp7,hb6,hm⟩
   ·refine Cp hb6<|Cp hb6<|Cp hb6<|Cp hb6<|Cp hb6<|Cp hb6<|Cp hb6<|Cp hb6<|Co (.pT hb6 .bool)<|An<|W.condT .r<|Aw<|Co (.assign .bool)<|WL.ns ?_;have hr8:=Si hm;clear hm;subst hr8;have hm:=hk3;try dsimp only at hm
    cases hm;exact W.e1
   ·refine Cy hb6 (.fA U27 J24 iA)<|Cy hb6 (.load ty24)<|Cy hb6 (.bg U24)<|Cy hb6 (.fA U27 J24 jo)<|Cy hb6 (.load ty24)<|Cy hb6 (.bg U24) ?_;obtain ⟨v,hv9,hm⟩:=Bs hm;refine Cy hb6 (.addC hv9)<|Cy hb6 (.gtI .r .i64)<|Co (.pF hb6)<|An<|W.cD hm .r (fun hp11 hm=>?_) (fun hp11 hm=>?_)
    ·refine Aw<|Co (.assign .bool)<|WL.ns ?_;have hr12:=Si hm;clear hm;subst hr12;have hm:=hk3;try dsimp only at hm
     cases hm;exact W.e1
    ·exact W.skip<|WN.mt () (Si hm)
  ·refine Aw<|Co (.fA U27 J3 bQ)<|Co (.load ty3) ?_;obtain ⟨kindna,hv13,hm⟩:=Bs hm;refine Co (.callG (rin:=[E2]) C65 (mD _ _ hv13) ⟨X,trivial⟩ ⟨X,X,trivial⟩ ⟨.r,trivial⟩)<|Co (.eqS .r .s)<|WL.mv X X ?_;rcases iteB hm with ⟨hp15,hb14,hm⟩ | ⟨hp15,hb14,hm⟩
   ·refine Cp hb14<|Cp hb14<|Cp hb14<|Cp hb14<|Co (.pT hb14 .bool)<|Cm X<|Cp X<|Cp X<|Cp X<|Cp X<|Co (.pT X .bool)<|Cm X<|Cp X<|Cp X<|Cp X<|Ap X X ?_;refine Co (.pT X .bool)<|An<|W.condT .r<|Aw<|Co (.assign .bool)<|WL.ns ?_;have hr16:=Si hm;clear hm;subst hr16;have hm:=hk3;try dsimp only at hm
    cases hm;exact W.e1
   ·refine Cy hb14 (.fA U27 J9 eG)<|Cy hb14 (.load ty9) ?_;obtain ⟨valid,hv17,hm⟩:=Bs hm;refine Cy hb14 (.call C95 (nK _ _ _ hv17) ⟨.r,trivial⟩)<|Cy hb14 .notB<|Co (.pF hb14)<|WL.mv X X ?_;rcases iteR hm with ⟨hp19,hb18,hm⟩ | ⟨hp19,hb18,hm⟩
    ·refine Cp hb18<|Cp hb18<|Cp hb18<|Cp hb18<|Co (.pT hb18 .bool)<|Cm X<|Cp X<|Cp X<|Cp X<|Cp X<|Co (.pT X .bool)<|An<|W.condT .r<|Aw<|Co (.assign .bool)<|WL.ns ?_;have hr20:=Si hm;clear hm;subst hr20;have hm:=hk3;try dsimp only at hm
     cases hm;exact W.e1
    ·refine Cy hb18 (.fA U27 J24 iA)<|Cy hb18 (.load ty24) ?_;obtain ⟨row,hv21,hm⟩:=Bs hm;refine Cy hb18 (.call C118 (uF _ _ _ hv21) ⟨.r,trivial⟩)<|Cy hb18 .notB<|Co (.pF hb18)<|WL.mv X X ?_;rcases iteR hm with ⟨hp23,hb22,hm⟩ | ⟨hp23,hb22,hm⟩
     ·refine Cp hb22<|Cp hb22<|Cp hb22<|Cp hb22<|Co (.pT hb22 .bool)<|An<|W.condT .r<|Aw<|Co (.assign .bool)<|WL.ns ?_;have hr24:=Si hm;clear hm;subst hr24;have hm:=hk3;try dsimp only at hm
      cases hm;exact W.e1
     ·refine Cy hb22 (.fA U27 J24 jo)<|Cy hb22 (.load ty24) ?_;obtain ⟨row1,hv25,hm⟩:=Bs hm;refine Cy hb22 (.call C118 (uF _ _ _ hv25) ⟨.r,trivial⟩)<|Cy hb22 .notB<|Co (.pF hb22)<|An<|W.cR hm .r (fun hp27 hm=>?_) (fun hp27 hm=>?_)
      ·refine Aw<|Co (.assign .bool)<|WL.ns ?_;have hr28:=Si hm;clear hm;subst hr28;have hm:=hk3;try dsimp only at hm
       cases hm;exact W.e1
      ·exact W.skip<|WN.mt () (Si hm)
theorem uS:∀ (n:Nat) (u:af) (r:Bool),M.gG n u=some r→aG Tryz.prog 79 [(ai.is u),(cloA 80 [])] [E2,(700004,Gl (tA 8 (tL I6)) 4 gv4)] (fun kx:Unit=>(tB.is r)) (fun kx:Unit=>[E2,(700004,Gl (tA 8 (tL I6)) 4 gv4)]):=by
 intro n;induction n with
 | zero=>intro u r hm;cases hm
 | succ n ih=>
  intro u r hm;rw [M.gG.eq_2] at hm;refine aG.of Tryz.func79 X X X fun g0=>Aw<|Co .box<|Co (.assign .bool)<|An<|W.seq<|Aw<|Cm X<|Co (.load ty27) ?_;obtain ⟨alone,hv1,hm⟩:=Bs hm;refine Co (.callCloG (As:=[ai.is u]) (rin:=[E2,(700004,Gl (tA 8 (tL I6)) 4 gv4)]) C80 .r (xI _ _ _ hv1) ⟨X,X,trivial⟩ ⟨X,X,X,X,trivial⟩ ⟨.r,trivial⟩)<|Co .notB<|An<|W.cR hm .r (fun hp3 hm=>?_) (fun hp3 hm=>?_)
  ·refine Aw<|Co (.assign .bool)<|WL.ns ?_;cases hm;exact W.e1
  ·refine W.skip<|Aq<|W.seq<|Aw<|Co (.fA U27 J25 dx)<|Co (.load ty25)<|Co (.bg U25)<|Co (.move .i64)<|An<|W.block ?_;obtain ⟨s4,hs5,hk6⟩:=Bs hm;clear hm;refine W.lp (fun m (s:Int×List af×List af×Unit)=>m=s.2.2.1.length∧u.Kids=s.2.1++s.2.2.1∧s.1=(s.2.1.length:Int)∧M.eU (M.gG n) s.2.2.1=some s4) (fun s=>[(14,(I6.is s.1)),(1,(cloA 80 [])),(12,((tL ai).is u.Kids)),(13,(I6.is (u.Kids.length:Int)))]) (fun s=>[E2,(700004,Gl (tA 8 (tL I6)) 4 gv4)]) u.Kids.length ((0:Int),[],u.Kids,()) ⟨X,X,X,hs5⟩ ?_;rintro m ⟨i,pre,rest1,_⟩ ⟨hn10,hxs7,hi8,hm⟩;try dsimp only at hn10 hxs7 hi8 hm
   refine W.bg (s:=12) .r fun hlen9=>Aw<|Co .ltI<|An<|W.seq<|W.cond .r (fun hc12=>?_) (fun hc12=>?_)
   ·have hp13:=of_decide_eq_true hc12;obtain ⟨e,es,hrest15⟩:=df hxs7 hi8 hp13;subst hrest15;rw [M.eU.eq_2] at hm;refine W.skip<|Aq<|W.seq<|W.block<|Aw<|Co (.idxPre hxs7 hi8 U25 Z27)<|Co (.load ty27)<|Cr (OpR.alloc 6 ze27) fun b=>WL.opU (OpR.storeB (b:=b) 6 Z27 (aF.is ai e) X) fun _=>WL.sealed (t:=ai) (u:=e) 6 6 X X<|Ar<|Co (.load ty27)<|WL.mv X X ?_;obtain ⟨every,hv16,hm⟩:=Bs hm;refine Co (.callG (rin:=[E2,(700004,Gl (tA 8 (tL I6)) 4 gv4)]) C79 (ih _ _ hv16) ⟨X,X,trivial⟩ ⟨X,X,X,X,trivial⟩ ⟨.r,.r,trivial⟩)<|Co .notB<|An<|W.cR hm .r (fun hp18 hm=>?_) (fun hp18 hm=>?_)
    ·refine Aw<|Co (.assign .bool)<|WL.ns ?_;have hr19:=Si hm;clear hm;subst hr19;have hm:=hk6;try dsimp only at hm
     cases hm;exact W.e1
    ·exact W.skip<|WN.block<|Aq<|W.region<|Co (.addI .r .i64 (bH hi8 hp13 hlen9))<|Cm X<|WL.nil<|WN.ag es.length (i+1,pre++ [e],es,()) (bS hn10) ⟨X,bi hxs7,bG hi8,hm⟩
   ·have hrest15:=dG hxs7 hi8 (of_decide_eq_false hc12);subst hrest15;rw [M.eU.eq_1] at hm;refine W.exit X ?_;have hr20:=Si hm;clear hm;subst hr20;have hm:=hk6;try dsimp only at hm
    refine Aq<|Aw<|Co (.assign .bool)<|WL.ns ?_;cases hm;exact W.e1
theorem xJ:∀ (n:Nat) (u:af) (r:Int),M.kC n u=some r→FSpec Tryz.prog 81 [(ai.is u)] (I6.is r):=by
 intro n;induction n with
 | zero=>intro u r hm;cases hm
 | succ n ih=>
  intro u r hm;rw [M.kC.eq_2] at hm;refine FSpec.of Tryz.func81 X X X fun g0=>Aw<|Co .box<|Co (.assign .i64)<|Ar<|Co (.assign .i64)<|An<|W.seq<|Aw<|Co (.fA U27 J25 dx)<|Co (.load ty25)<|Co (.bg U25)<|Co (.move .i64)<|An<|W.block ?_;obtain ⟨s1,hs2,hk3⟩:=Bs hm;clear hm;refine W.lp (fun m (s:Int×List af×List af×Int)=>m=s.2.2.1.length∧u.Kids=s.2.1++s.2.2.1∧s.1=(s.2.1.length:Int)∧M.gU (M.kC n) s.2.2.1 s.2.2.2=some s1) (fun s=>[(9,(I6.is s.1)),(3,(I6.is s.2.2.2)),(7,((tL ai).is u.Kids)),(8,(I6.is (u.Kids.length:Int)))]) (fun s=>[]) u.Kids.length ((0:Int),[],u.Kids,(0:Int)) ⟨X,X,X,hs2⟩ ?_;rintro m ⟨i,pre,rest1,deep⟩ ⟨hn7,hxs4,hi5,hm⟩;try dsimp only at hn7 hxs4 hi5 hm
  refine W.bg (s:=7) .r fun hlen6=>Aw<|Co .ltI<|An<|W.seq<|W.cond .r (fun hc9=>?_) (fun hc9=>?_)
  ·have hp10:=of_decide_eq_true hc9;obtain ⟨e,es,hrest12⟩:=df hxs4 hi5 hp10;subst hrest12;rw [M.gU.eq_2] at hm;refine W.skip<|Aq<|W.seq<|W.block<|Aw<|Co (.idxPre hxs4 hi5 U25 Z27)<|Co (.load ty27)<|Cr (OpR.alloc 5 ze27) fun b=>WL.opU (OpR.storeB (b:=b) 5 Z27 (aF.is ai e) X) fun _=>WL.sealed (t:=ai) (u:=e) 5 5 X X<|WL.nr1<|Cm X<|Co (.load ty27) ?_;obtain ⟨depth,hv13,hm⟩:=Bs hm;refine Co (.call C81 (ih _ _ hv13) ⟨.r,trivial⟩) ?_;obtain ⟨v,hv14,hm⟩:=Bs hm;exact Co (.addC hv14 .i64)<|Co .maxI<|Cg X<|WL.nil<|WN.block<|Aq<|W.region<|Co (.addI .r .i64 (bH hi5 hp10 hlen6))<|Cm X<|WL.nil<|WN.ag es.length (i+1,pre++ [e],es,max deep v) (bS hn7) ⟨X,bi hxs4,bG hi5,hm⟩
  ·have hrest12:=dG hxs4 hi5 (of_decide_eq_false hc9);subst hrest12;rw [M.gU.eq_1] at hm;refine W.exit X ?_;have hr15:=Si hm;clear hm;subst hr15;have hm:=hk3;try dsimp only at hm
   refine Aq<|Aw<|Cm X<|Cg X<|WL.ns ?_;cases hm;exact W.e1
theorem vU(a:af)(c:Int)(b:Nat)(r:Bool×Int)(hm:M.oK a c=some r):aG Tryz.prog 83 [(ai.is a),(Bp b 0)] [(1,(Bx 1 false 3 (I6.is c) b))] (fun kx:Unit=>(tB.is r.1)) (fun kx:Unit=>[(1,(Bx 1 false 3 (I6.is r.2) b))]):=by
 unfold M.oK at hm;refine aG.of Tryz.func83 X X X fun g0=>Aw<|Co .box<|Co (.assign .bool)<|Ar<|Co (.ja 1 Y3 Z3 X) ?_;obtain ⟨v,hv1,hm⟩:=Bs hm;refine Co (.addC hv1 .r .i64)<|WL.opU (OpR.storeB (b:=b) 1 Z3 (aF.is I6 v) X) fun _=>Ar<|Co (.assign .bool)<|WL.ns ?_;cases hm;exact W.e1
theorem uT:∀ (n:Nat) (u:af) (c:Int) (b:Nat) (r:Bool×Int),M.iK n u c=some r→aG Tryz.prog 79 [(ai.is u),(cloA 83 [(Bp b 0)])] [(500100,(Bx 1 false 3 (I6.is c) b))] (fun kx:Unit=>(tB.is r.1)) (fun kx:Unit=>[(500100,(Bx 1 false 3 (I6.is r.2) b))]):=by
 intro n;induction n with
 | zero=>intro u c b r hm;cases hm
 | succ n ih=>
  intro u c b r hm;rw [M.iK.eq_2] at hm;refine aG.of Tryz.func79 X X X fun g0=>Aw<|Co .box<|Co (.assign .bool)<|An<|W.seq<|Aw<|Cm X<|Co (.load ty27) ?_;obtain ⟨⟨v1_,w⟩,hv1,hm⟩:=Bs hm;dsimp only at hm;refine WL.weakR (res':=[(500100,(Bx 1 false 3 (I6.is c) b))]) ⟨X,X,trivial⟩<|Cr (OpR.callClo (us:=[500100]) (A:=fun kx:Unit=>(tB.is v1_)) (As:=[ai.is u]) C83 .r (aG.keys (rin':=[(500100,(Bx 1 false 3 (I6.is c) b))]) (out':=fun kx:Unit=>[(500100,(Bx 1 false 3 (I6.is w) b))]) (vU _ _ _ _ hv1) X (fun _=>X)) X ⟨.r,trivial⟩) fun _=>Co .notB<|An<|W.cR hm .r (fun hp3 hm=>?_) (fun hp3 hm=>?_)
  ·refine Aw<|Co (.assign .bool)<|WL.ns ?_;cases hm;exact W.e1
  ·refine W.skip<|Aq<|W.seq<|Aw<|Co (.fA U27 J25 dx)<|Co (.load ty25)<|Co (.bg U25)<|Co (.move .i64)<|An<|W.block ?_;obtain ⟨s4,hs5,hk6⟩:=Bs hm;clear hm;refine W.lp (fun m (s:Int×List af×List af×Int)=>m=s.2.2.1.length∧u.Kids=s.2.1++s.2.2.1∧s.1=(s.2.1.length:Int)∧M.eX (M.iK n) s.2.2.1 s.2.2.2=some s4) (fun s=>[(14,(I6.is s.1)),(1,(cloA 83 [(Bp b 0)])),(12,((tL ai).is u.Kids)),(13,(I6.is (u.Kids.length:Int)))]) (fun s=>[(500100,(Bx 1 false 3 (I6.is s.2.2.2) b))]) u.Kids.length ((0:Int),[],u.Kids,w) ⟨X,X,X,hs5⟩ ?_;rintro m ⟨i,pre,rest1,v⟩ ⟨hn10,hxs7,hi8,hm⟩;try dsimp only at hn10 hxs7 hi8 hm
   refine W.bg (s:=12) .r fun hlen9=>Aw<|Co .ltI<|An<|W.seq<|W.cond .r (fun hc12=>?_) (fun hc12=>?_)
   ·have hp13:=of_decide_eq_true hc12;obtain ⟨e,es,hrest15⟩:=df hxs7 hi8 hp13;subst hrest15;rw [M.eX.eq_2] at hm;refine W.skip<|Aq<|W.seq<|W.block<|Aw<|Co (.idxPre hxs7 hi8 U25 Z27)<|Co (.load ty27)<|Cr (OpR.alloc 6 ze27) fun b1=>WL.opU (OpR.storeB (b:=b1) 6 Z27 (aF.is ai e) X) fun _=>WL.sealed (t:=ai) (u:=e) 6 6 X X<|Ar<|Co (.load ty27)<|WL.mv X X ?_;obtain ⟨⟨every,w1⟩,hv16,hm⟩:=Bs hm;dsimp only at hm;refine WL.weakR (res':=[(500100,(Bx 1 false 3 (I6.is v) b))]) ⟨X,X,trivial⟩<|Cr (OpR.call (us:=[500100]) (A:=fun kx:Unit=>(tB.is every)) C79 (aG.keys (rin':=[(500100,(Bx 1 false 3 (I6.is v) b))]) (out':=fun kx:Unit=>[(500100,(Bx 1 false 3 (I6.is w1) b))]) (ih _ _ _ _ hv16) X (fun _=>X)) X ⟨.r,.r,trivial⟩) fun _=>Co .notB<|An<|W.cR hm .r (fun hp18 hm=>?_) (fun hp18 hm=>?_)
    ·refine Aw<|Co (.assign .bool)<|WL.ns ?_;have hr19:=Si hm;clear hm;subst hr19;have hm:=hk6;try dsimp only at hm
     cases hm;exact W.e1
    ·exact W.skip<|WN.block<|Aq<|W.region<|Co (.addI .r .i64 (bH hi8 hp13 hlen9))<|Cm X<|WL.nil<|WN.ag es.length (i+1,pre++ [e],es,w1) (bS hn10) ⟨X,bi hxs7,bG hi8,hm⟩
   ·have hrest15:=dG hxs7 hi8 (of_decide_eq_false hc12);subst hrest15;rw [M.eX.eq_1] at hm;refine W.exit X ?_;have hr20:=Si hm;clear hm;subst hr20;have hm:=hk6;try dsimp only at hm
    refine Aq<|Aw<|Co (.assign .bool)<|WL.ns ?_;cases hm;exact W.e1
theorem l9(n:Nat)(u:af)(r:Int)(hm:M.jV n u=some r):FSpec Tryz.prog 49 [(ai.is u)] (I6.is r):=by
 unfold M.jV at hm;refine FSpec.of Tryz.func49 X X X fun g0=>Aw<|Co .box<|Co (.assign .i64)<|Ar<|Cr (OpR.alloc 3 ze3) fun b=>WL.opU (OpR.storeB (b:=b) 3 Z3 (aF.is I6 (0:Int)) X .r .i64) fun _=>Ar<|Co (.load ty27)<|Co (.makeClo (Cs:=[(Bp b 0)]) (cap:=[.tmp 3]) ⟨.r,trivial⟩) ?_;obtain ⟨⟨every,n0_⟩,hv1,hm⟩:=Bs hm;dsimp only at hm;refine WL.weakR (res':=[(3,(Bx 1 false 3 (I6.is (0:Int)) b))]) ⟨X,X,trivial⟩<|Cr (OpR.call (us:=[3]) (A:=fun kx:Unit=>(tB.is every)) C79 (aG.keys (rin':=[(3,(Bx 1 false 3 (I6.is (0:Int)) b))]) (out':=fun kx:Unit=>[(3,(Bx 1 false 3 (I6.is n0_) b))]) (uT _ _ _ _ _ hv1) X (fun _=>X)) X ⟨.r,.r,trivial⟩) fun _=>Ar<|Co (.ja 3 Y3 Z3 X)<|Cg X<|WL.ns ?_;cases hm;exact W.e1
theorem xK(x:af)(c:List au)(b:Nat)(k:Tok)(r:Bool×(List au))(hm:M.rO x c=some r):aG Tryz.prog 159 [(ai.is x),(Bp b 0)] [(1,(Bx 1 false 88 (tO aj k c) b)),(1000001,Dec.Own aj 23 k c.length)] (fun kx:Tok=>(tB.is r.1)) (fun kx:Tok=>[(1,(Bx 1 false 88 (tO aj kx r.2) b)),(1000001,Dec.Own aj 23 kx r.2.length)]):=by
 unfold M.rO at hm;refine aG.of Tryz.func159 X X X fun g0=>Aw<|Co .box<|Co (.assign .bool)<|Ar<|Co (.ja 1 Y88 Z88 X)<|Co (.fA U27 J23 bq)<|Co (.load ty23)<|Co (.buildSlice (n:=1) (ys:=[(0,x.Id)]) (z:=cu) (xs:=[x.Id]) U88 el23 ze23 ⟨X,.r,trivial⟩ (by simp) (by decide) X) ?_;obtain ⟨out,hv1,hm⟩:=Bs hm;refine Cr (OpR.appC (key:=1000001) hv1 U88 el23 .r .r X) fun k1=>WL.opU (OpR.storeB (b:=b) 1 Z88 (aF.o aj k1 out) X) fun _=>Ar<|Co (.assign .bool)<|WL.ns ?_;cases hm;exact W.ret1 k1 X .r ⟨X,X,X,X,trivial⟩
theorem uU:∀ (n:Nat) (u:af) (c:List au) (b:Nat) (k:Tok) (r:Bool×(List au)),M.iL n u c=some r→aG Tryz.prog 79 [(ai.is u),(cloA 159 [(Bp b 0)])] [(500100,(Bx 1 false 88 (tO aj k c) b)),(1500100,Dec.Own aj 23 k c.length)] (fun kx:Tok=>(tB.is r.1)) (fun kx:Tok=>[(500100,(Bx 1 false 88 (tO aj kx r.2) b)),(1500100,Dec.Own aj 23 kx r.2.length)]):=by
 intro n;induction n with
 | zero=>intro u c b k r hm;cases hm
 | succ n ih=>
  intro u c b k r hm;rw [M.iL.eq_2] at hm;refine aG.of Tryz.func79 X X X fun g0=>Aw<|Co .box<|Co (.assign .bool)<|An<|W.seq<|Aw<|Cm X<|Co (.load ty27) ?_;obtain ⟨⟨v1_,w⟩,hv1,hm⟩:=Bs hm;dsimp only at hm;refine WL.weakR (res':=[(500100,(Bx 1 false 88 (tO aj k c) b)),(1500100,Dec.Own aj 23 k c.length)]) ⟨X,X,X,X,trivial⟩<|Cr (OpR.callClo (us:=[500100,1500100]) (A:=fun kx:Tok=>(tB.is v1_)) (As:=[ai.is u]) C159 .r (aG.keys (rin':=[(500100,(Bx 1 false 88 (tO aj k c) b)),(1500100,Dec.Own aj 23 k c.length)]) (out':=fun kx:Tok=>[(500100,(Bx 1 false 88 (tO aj kx w) b)),(1500100,Dec.Own aj 23 kx w.length)]) (xK _ _ _ _ _ hv1) X (fun _=>X)) X ⟨.r,trivial⟩) fun k1=>Co .notB<|An<|W.cR hm .r (fun hp3 hm=>?_) (fun hp3 hm=>?_)
  ·refine Aw<|Co (.assign .bool)<|WL.ns ?_;cases hm;exact W.ret1 k1 X .r ⟨X,X,X,X,trivial⟩
  ·refine W.skip<|Aq<|W.seq<|Aw<|Co (.fA U27 J25 dx)<|Co (.load ty25)<|Co (.bg U25)<|Co (.move .i64)<|An<|W.block ?_;obtain ⟨s4,hs5,hk6⟩:=Bs hm;clear hm;refine W.lp (fun m (s:Int×List af×List af×(((List au))×Tok))=>m=s.2.2.1.length∧u.Kids=s.2.1++s.2.2.1∧s.1=(s.2.1.length:Int)∧M.eY (M.iL n) s.2.2.1 s.2.2.2.1=some s4) (fun s=>[(14,(I6.is s.1)),(1,(cloA 159 [(Bp b 0)])),(12,((tL ai).is u.Kids)),(13,(I6.is (u.Kids.length:Int)))]) (fun s=>[(1500100,Dec.Own aj 23 s.2.2.2.2 s.2.2.2.1.length),(500100,(Bx 1 false 88 (tO aj s.2.2.2.2 s.2.2.2.1) b))]) u.Kids.length ((0:Int),[],u.Kids,(w,k1)) ⟨X,X,X,hs5⟩ ?_;rintro m ⟨i,pre,rest1,v,k2⟩ ⟨hn10,hxs7,hi8,hm⟩;try dsimp only at hn10 hxs7 hi8 hm
   refine W.bg (s:=12) .r fun hlen9=>Aw<|Co .ltI<|An<|W.seq<|W.cond .r (fun hc12=>?_) (fun hc12=>?_)
   ·have hp13:=of_decide_eq_true hc12;obtain ⟨e,es,hrest15⟩:=df hxs7 hi8 hp13;subst hrest15;rw [M.eY.eq_2] at hm;refine W.skip<|Aq<|W.seq<|W.block<|Aw<|Co (.idxPre hxs7 hi8 U25 Z27)<|Co (.load ty27)<|Cr (OpR.alloc 6 ze27) fun b1=>WL.opU (OpR.storeB (b:=b1) 6 Z27 (aF.is ai e) X) fun _=>WL.sealed (t:=ai) (u:=e) 6 6 X X<|Ar<|Co (.load ty27)<|WL.mv X X ?_;obtain ⟨⟨every,w1⟩,hv16,hm⟩:=Bs hm;dsimp only at hm;refine WL.weakR (res':=[(500100,(Bx 1 false 88 (tO aj k2 v) b)),(1500100,Dec.Own aj 23 k2 v.length)]) ⟨X,X,X,X,trivial⟩<|Cr (OpR.call (us:=[500100,1500100]) (A:=fun kx:Tok=>(tB.is every)) C79 (aG.keys (rin':=[(500100,(Bx 1 false 88 (tO aj k2 v) b)),(1500100,Dec.Own aj 23 k2 v.length)]) (out':=fun kx:Tok=>[(500100,(Bx 1 false 88 (tO aj kx w1) b)),(1500100,Dec.Own aj 23 kx w1.length)]) (ih _ _ _ _ _ hv16) X (fun _=>X)) X ⟨.r,.r,trivial⟩) fun k3=>Co .notB<|An<|W.cR hm .r (fun hp18 hm=>?_) (fun hp18 hm=>?_)
    ·refine Aw<|Co (.assign .bool)<|WL.ns ?_;have hr19:=Si hm;clear hm;subst hr19;have hm:=hk6;try dsimp only at hm
     cases hm;exact W.ret1 k3 X .r ⟨X,X,X,X,trivial⟩
    ·exact W.skip<|WN.block<|Aq<|W.region<|Co (.addI .r .i64 (bH hi8 hp13 hlen9))<|Cm X<|WL.nil<|WN.ag es.length (i+1,pre++ [e],es,(w1,k3)) (bS hn10) ⟨X,bi hxs7,bG hi8,hm⟩
   ·have hrest15:=dG hxs7 hi8 (of_decide_eq_false hc12);subst hrest15;rw [M.eY.eq_1] at hm;refine W.exit X ?_;have hr20:=Si hm;clear hm;subst hr20;have hm:=hk6;try dsimp only at hm
    refine Aq<|Aw<|Co (.assign .bool)<|WL.ns ?_;cases hm;exact W.ret1 k2 X .r ⟨X,X,X,X,trivial⟩
theorem zJ(n:Nat)(u:af)(r:List au)(hm:M.sG n u=some r):FSpec Tryz.prog 120 [(ai.is u)] ((tL aj).is r):=by
 unfold M.sG at hm;refine FSpec.of Tryz.func120 X X X fun g0=>Aw<|Co .box<|Co (.assign (.nil (t:=aj)))<|Ar<|WL.addNil (t:=aj) (E:=23) 1000003<|Cr (OpR.allocO (t:=aj) 3 Tryz.zeroValue88) fun b=>Ar<|Co (.load ty27)<|Co (.makeClo (Cs:=[(Bp b 0)]) (cap:=[.tmp 3]) ⟨.r,trivial⟩) ?_;obtain ⟨⟨every,out⟩,hv1,hm⟩:=Bs hm;dsimp only at hm;refine WL.weakR (res':=[(3,(Bx 1 false 88 (tO aj (none:Tok) ([]:List au)) b)),(1000003,Dec.Own aj 23 (none:Tok) ([]:List au).length)]) ⟨X,X,X,X,trivial⟩<|Cr (OpR.call (us:=[3,1000003]) (A:=fun kx:Tok=>(tB.is every)) C79 (aG.keys (rin':=[(3,(Bx 1 false 88 (tO aj (none:Tok) ([]:List au)) b)),(1000003,Dec.Own aj 23 (none:Tok) ([]:List au).length)]) (out':=fun kx:Tok=>[(3,(Bx 1 false 88 (tO aj kx out) b)),(1000003,Dec.Own aj 23 kx out.length)]) (uU _ _ _ _ _ _ hv1) X (fun _=>X)) X ⟨.r,.r,trivial⟩) fun k=>Ar<|Co (.ja 3 Y88 Z88 X)<|Cg X<|WL.ns ?_;cases hm;exact W.ret1 () X (Opd.own .r) trivial
end Go.Proofs.YtalogjkalmkpjaaGreatDoor
