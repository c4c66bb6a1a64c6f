/-
  The code does what the models say: written by program.
-/
import Derived.Test.YtalogjkalmkpjaaGreatDoorWb
set_option linter.unusedVariables false
set_option linter.unusedSimpArgs false
namespace Go.Proofs.YtalogjkalmkpjaaGreatDoor
open Go Go.Dec
set_option maxRecDepth 100000
set_option maxHeartbeats 4000000
theorem redline_woven_string_string_api_TrackedWord_spec(n:Nat)(a:List Str)(b:List Str)(pairs:List api_Pair)(goes:Str→Option api_TrackedWord)(comes:Str→Option api_TrackedWord)(stays:Str→Str→Option api_TrackedWord)(r:List api_TrackedWord)(hm:M.redline_woven_string_string_api_TrackedWord n a b pairs goes comes stays=some r):FSpec Tryz.prog 88 [((tL tS).is a),((tL tS).is b),((tL tapi_Pair).is pairs),((tFun Tryz.prog (fun (f:Str→Option api_TrackedWord)=>(fun s:Str×api_TrackedWord=>f s.1=some s.2)) (fun s:Str×api_TrackedWord=>[tS.is s.1]) (fun s:Str×api_TrackedWord=>(tapi_TrackedWord.is s.2))).is goes),((tFun Tryz.prog (fun (f:Str→Option api_TrackedWord)=>(fun s:Str×api_TrackedWord=>f s.1=some s.2)) (fun s:Str×api_TrackedWord=>[tS.is s.1]) (fun s:Str×api_TrackedWord=>(tapi_TrackedWord.is s.2))).is comes),((tFun Tryz.prog (fun (f:Str→Str→Option api_TrackedWord)=>(fun s:Str×Str×api_TrackedWord=>f s.1 s.2.1=some s.2.2)) (fun s:Str×Str×api_TrackedWord=>[tS.is s.1,tS.is s.2.1]) (fun s:Str×Str×api_TrackedWord=>(tapi_TrackedWord.is s.2.2))).is stays)] ((tL tapi_TrackedWord).is r):=by
 unfold M.redline_woven_string_string_api_TrackedWord at hm
 refine FSpec.of Tryz.func88 rfl rfl rfl fun g0=>Aw<|Ao rfl (.assign (.nil (t:=tapi_TrackedWord)))<|Ar<|WL.addNil (t:=tapi_TrackedWord) (E:=53) 13<|Ao rfl (.assign (Opd.nilO (t:=tapi_TrackedWord)))<|Ar<|Ao rfl (.assign .i64)<|Ao rfl (.assign .i64)<|An<|W.seq<|Aw<|WL.mv rfl rfl ?_
 obtain ⟨pair,hv1,hm⟩:=Bs hm
 refine WL.opR rfl (OpR.call (us:=[]) C91 ((slices_Clone_api_Pair_api_Pair_spec _ _ hv1).rekey 19) rfl ⟨(.t rfl),trivial⟩) fun k=>Am rfl rfl<|Ao rfl (.lenL U38 (.t rfl))<|Am rfl rfl<|Ao rfl (.lenL U38 (.t rfl))<|Ao rfl (.build (s:=tapi_Pair) (x:=(⟨(a.length:Int),(b.length:Int)⟩:api_Pair)) zapi_Pair_f rfl U94 (zapi_Pair_sz _ U94) ze94 ⟨_,I6,(a.length:Int),_,_,rfl,Z3,(.t rfl),sapi_Pair_0,⟨_,I6,(b.length:Int),_,_,rfl,Z3,(.t rfl),sapi_Pair_1,rfl⟩⟩)<|Ao rfl (.buildSlice (n:=1) (ys:=[(0,(⟨(a.length:Int),(b.length:Int)⟩:api_Pair))]) (z:=zapi_Pair) (xs:=[(⟨(a.length:Int),(b.length:Int)⟩:api_Pair)]) U91 el94 ze94 ⟨rfl,(.t rfl),trivial⟩ (by simp) (by decide) rfl) ?_
 obtain ⟨out,hv2,hm⟩:=Bs hm
 refine WL.opR rfl (OpR.appC (key:=19) hv2 U91 el94 (.t rfl) (.t rfl) rfl) fun k1=>Ao rfl (.lenL U91 (Opd.own (.t rfl)))<|Ao rfl (.move .i64)<|An<|W.block ?_
 obtain ⟨s3,hs4,hk5⟩:=Bs hm
 clear hm
 refine W.loop (fun m (s:Int×List api_Pair×List api_Pair×(((List api_TrackedWord)×Int×Int)×Tok))=>m=s.2.2.1.length∧out=s.2.1++s.2.2.1∧s.1=(s.2.1.length:Int)∧M.redline_woven_string_string_api_TrackedWord_loop1 n a b goes comes stays s.2.2.1 s.2.2.2.1.1 s.2.2.2.1.2.1 s.2.2.2.1.2.2=some s3) (fun s=>[(28,(I6.is s.1)),(13,(tO tapi_TrackedWord s.2.2.2.2 s.2.2.2.1.1)),(14,(I6.is s.2.2.2.1.2.1)),(15,(I6.is s.2.2.2.1.2.2)),(0,((tL tS).is a)),(1,((tL tS).is b)),(3,((tFun Tryz.prog (fun (f:Str→Option api_TrackedWord)=>(fun s:Str×api_TrackedWord=>f s.1=some s.2)) (fun s:Str×api_TrackedWord=>[tS.is s.1]) (fun s:Str×api_TrackedWord=>(tapi_TrackedWord.is s.2))).is goes)),(4,((tFun Tryz.prog (fun (f:Str→Option api_TrackedWord)=>(fun s:Str×api_TrackedWord=>f s.1=some s.2)) (fun s:Str×api_TrackedWord=>[tS.is s.1]) (fun s:Str×api_TrackedWord=>(tapi_TrackedWord.is s.2))).is comes)),(5,((tFun Tryz.prog (fun (f:Str→Str→Option api_TrackedWord)=>(fun s:Str×Str×api_TrackedWord=>f s.1 s.2.1=some s.2.2)) (fun s:Str×Str×api_TrackedWord=>[tS.is s.1,tS.is s.2.1]) (fun s:Str×Str×api_TrackedWord=>(tapi_TrackedWord.is s.2.2))).is stays)),(26,(tO tapi_Pair k1 out)),(27,(I6.is (out.length:Int)))]) (fun s=>[(13,Dec.Own tapi_TrackedWord 53 s.2.2.2.2 s.2.2.2.1.1.length),(19,Dec.Own tapi_Pair 94 k1 out.length)]) out.length ((0:Int),[],out,((([]:List api_TrackedWord),(0:Int),(0:Int)),(none:Tok))) ⟨rfl,rfl,rfl,hs4⟩ ⟨.q rfl,.q rfl,.q rfl,.q rfl,.q rfl,.q rfl,.q rfl,.q rfl,.q rfl,.q rfl,.q rfl,trivial⟩ ⟨rfl,rfl,⟨rfl,rfl,trivial⟩⟩ ?_
 rintro m ⟨i1,pre,rest1,⟨⟨out1,i,k2⟩,k3⟩⟩ ⟨hn9,hxs6,hi7,hm⟩
 try dsimp only at hn9 hxs6 hi7 hm
 change W _ _ _ _ _ _ _ [(28,(I6.is i1)),(13,(tO tapi_TrackedWord k3 out1)),(14,(I6.is i)),(15,(I6.is k2)),(0,((tL tS).is a)),(1,((tL tS).is b)),(3,((tFun Tryz.prog (fun (f:Str→Option api_TrackedWord)=>(fun s:Str×api_TrackedWord=>f s.1=some s.2)) (fun s:Str×api_TrackedWord=>[tS.is s.1]) (fun s:Str×api_TrackedWord=>(tapi_TrackedWord.is s.2))).is goes)),(4,((tFun Tryz.prog (fun (f:Str→Option api_TrackedWord)=>(fun s:Str×api_TrackedWord=>f s.1=some s.2)) (fun s:Str×api_TrackedWord=>[tS.is s.1]) (fun s:Str×api_TrackedWord=>(tapi_TrackedWord.is s.2))).is comes)),(5,((tFun Tryz.prog (fun (f:Str→Str→Option api_TrackedWord)=>(fun s:Str×Str×api_TrackedWord=>f s.1 s.2.1=some s.2.2)) (fun s:Str×Str×api_TrackedWord=>[tS.is s.1,tS.is s.2.1]) (fun s:Str×Str×api_TrackedWord=>(tapi_TrackedWord.is s.2.2))).is stays)),(26,(tO tapi_Pair k1 out)),(27,(I6.is (out.length:Int)))] [(13,Dec.Own tapi_TrackedWord 53 k3 out1.length),(19,Dec.Own tapi_Pair 94 k1 out.length)]
 refine W.lenL (s:=26) (Opd.own (.t rfl)) fun hlen8=>Aw<|Ao rfl (.ltI (.t rfl) (.t rfl))<|An<|W.seq<|W.cond (.t rfl) (fun hc11=>?_) (fun hc11=>?_)
 ·have hp12:=of_decide_eq_true hc11
  obtain ⟨e,es,hrest14⟩:=range_more hxs6 hi7 hp12
  subst hrest14
  rw [M.redline_woven_string_string_api_TrackedWord_loop1.eq_2] at hm
  refine W.skip<|Aq<|W.seq<|W.block<|Aw<|Ao rfl (.idxPre hxs6 hi7 U91 Z94 (Opd.own (.t rfl)) (.t rfl))<|Ao rfl (.load ty94 (.t rfl))<|WL.opR rfl (OpR.alloc 17 ze94) fun b1=>WL.opU (OpR.storeB (b:=b1) 17 Z94 (Cellable.is tapi_Pair e) rfl (.t rfl) (.t rfl)) fun _=>WL.sealed (t:=tapi_Pair) (u:=e) 17 17 rfl rfl<|An<|W.seq<|W.block ?_
  obtain ⟨s15,hs16,hk17⟩:=Bs hm
  clear hm
  refine W.loop (fun m (s:((List api_TrackedWord)×Int)×Tok)=>M.redline_woven_string_string_api_TrackedWord_loop2 a goes e m s.1.1 s.1.2=some s15) (fun s=>[(13,(tO tapi_TrackedWord s.2 s.1.1)),(14,(I6.is s.1.2)),(0,((tL tS).is a)),(1,((tL tS).is b)),(3,((tFun Tryz.prog (fun (f:Str→Option api_TrackedWord)=>(fun s:Str×api_TrackedWord=>f s.1=some s.2)) (fun s:Str×api_TrackedWord=>[tS.is s.1]) (fun s:Str×api_TrackedWord=>(tapi_TrackedWord.is s.2))).is goes)),(4,((tFun Tryz.prog (fun (f:Str→Option api_TrackedWord)=>(fun s:Str×api_TrackedWord=>f s.1=some s.2)) (fun s:Str×api_TrackedWord=>[tS.is s.1]) (fun s:Str×api_TrackedWord=>(tapi_TrackedWord.is s.2))).is comes)),(5,((tFun Tryz.prog (fun (f:Str→Str→Option api_TrackedWord)=>(fun s:Str×Str×api_TrackedWord=>f s.1 s.2.1=some s.2.2)) (fun s:Str×Str×api_TrackedWord=>[tS.is s.1,tS.is s.2.1]) (fun s:Str×Str×api_TrackedWord=>(tapi_TrackedWord.is s.2.2))).is stays)),(15,(I6.is k2)),(17,(tapi_Pair.ptr e)),(26,(tO tapi_Pair k1 out)),(27,(I6.is (out.length:Int))),(28,(I6.is i1))]) (fun s=>[(13,Dec.Own tapi_TrackedWord 53 s.2 s.1.1.length),(19,Dec.Own tapi_Pair 94 k1 out.length)]) _ ((out1,i),k3) hs16 ⟨.q rfl,.q rfl,.q rfl,.q rfl,.q rfl,.q rfl,.q rfl,.q rfl,.q rfl,.q rfl,.q rfl,.q rfl,trivial⟩ ⟨rfl,rfl,⟨rfl,rfl,trivial⟩⟩ ?_
  rintro n18 ⟨⟨out2,i2⟩,k4⟩ hm
  try dsimp only at hm
  change W _ _ _ _ _ _ _ [(13,(tO tapi_TrackedWord k4 out2)),(14,(I6.is i2)),(0,((tL tS).is a)),(1,((tL tS).is b)),(3,((tFun Tryz.prog (fun (f:Str→Option api_TrackedWord)=>(fun s:Str×api_TrackedWord=>f s.1=some s.2)) (fun s:Str×api_TrackedWord=>[tS.is s.1]) (fun s:Str×api_TrackedWord=>(tapi_TrackedWord.is s.2))).is goes)),(4,((tFun Tryz.prog (fun (f:Str→Option api_TrackedWord)=>(fun s:Str×api_TrackedWord=>f s.1=some s.2)) (fun s:Str×api_TrackedWord=>[tS.is s.1]) (fun s:Str×api_TrackedWord=>(tapi_TrackedWord.is s.2))).is comes)),(5,((tFun Tryz.prog (fun (f:Str→Str→Option api_TrackedWord)=>(fun s:Str×Str×api_TrackedWord=>f s.1 s.2.1=some s.2.2)) (fun s:Str×Str×api_TrackedWord=>[tS.is s.1,tS.is s.2.1]) (fun s:Str×Str×api_TrackedWord=>(tapi_TrackedWord.is s.2.2))).is stays)),(15,(I6.is k2)),(17,(tapi_Pair.ptr e)),(26,(tO tapi_Pair k1 out)),(27,(I6.is (out.length:Int))),(28,(I6.is i1))] [(13,Dec.Own tapi_TrackedWord 53 k4 out2.length),(19,Dec.Own tapi_Pair 94 k1 out.length)]
  cases n18 with
  | zero=>rw [M.redline_woven_string_string_api_TrackedWord_loop2.eq_1] at hm;cases hm
  | succ n18=>
   rw [M.redline_woven_string_string_api_TrackedWord_loop2.eq_2] at hm
   refine W.seq<|Aw<|Am rfl rfl<|Ao rfl (.fieldAddr U94 rfl J3 fapi_Pair_0 (.t rfl))<|Ao rfl (.load ty3 (.t rfl))<|Ao rfl (.ltI (.t rfl) (.t rfl))<|An<|W.cD hm (.t rfl) (fun hp20 hm=>?_) (fun hp20 hm=>?_)
   ·refine W.skip<|Aq<|W.seq<|W.block<|W.region<|Am rfl rfl<|Am rfl rfl<|Am rfl rfl<|WL.mv rfl rfl ?_
    obtain ⟨v,hv21,hm⟩:=Bs hm
    refine Ao rfl (.idx hv21 U38 Z9 (.t rfl) (.t rfl))<|Ao rfl (.load ty9 (.t rfl)) ?_
    obtain ⟨v1,hv22,hm⟩:=Bs hm
    refine Ao rfl (.callFun (ok:=(fun (f:Str→Option api_TrackedWord)=>(fun s:Str×api_TrackedWord=>f s.1=some s.2))) (As:=(fun s:Str×api_TrackedWord=>[tS.is s.1])) (A:=(fun s:Str×api_TrackedWord=>(tapi_TrackedWord.is s.2))) (f:=goes) (s:=(v,v1)) (.t rfl) hv22 ⟨(.t rfl),trivial⟩)<|Ao rfl (.buildSlice (n:=1) (ys:=[(0,v1)]) (z:=zapi_TrackedWord) (xs:=[v1]) U30 el53 ze53 ⟨rfl,(.t rfl),trivial⟩ (by simp) (by decide) rfl) ?_
    obtain ⟨out3,hv23,hm⟩:=Bs hm
    refine WL.opR rfl (OpR.appC (key:=13) hv23 U30 el53 (.t rfl) (.t rfl) rfl) fun k5=>Ag rfl rfl<|WL.nil<|WN.block<|Aq<|W.region<|WL.mv rfl rfl ?_
    obtain ⟨v2,hv24,hm⟩:=Bs hm
    exact Ao rfl (.addC hv24 (.t rfl) .i64)<|Ag rfl rfl<|WL.nil<|WN.again n18 ((out3,v2),k5) (Nat.lt_succ_self n18) hm ⟨.q rfl,.q rfl,.q rfl,.q rfl,.q rfl,.q rfl,.q rfl,.q rfl,.q rfl,.q rfl,.q rfl,.q rfl,trivial⟩ ⟨rfl,rfl,⟨rfl,rfl,trivial⟩⟩
   ·refine W.exit rfl ?_
    have hr25:=Si hm
    clear hm
    subst hr25
    have hm:=hk17
    try dsimp only at hm
    refine Aq<|W.seq<|W.block ?_
    obtain ⟨s26,hs27,hk28⟩:=Bs hm
    clear hm
    refine W.loop (fun m (s:((List api_TrackedWord)×Int)×Tok)=>M.redline_woven_string_string_api_TrackedWord_loop3 b comes e m s.1.1 s.1.2=some s26) (fun s=>[(13,(tO tapi_TrackedWord s.2 s.1.1)),(15,(I6.is s.1.2)),(0,((tL tS).is a)),(1,((tL tS).is b)),(3,((tFun Tryz.prog (fun (f:Str→Option api_TrackedWord)=>(fun s:Str×api_TrackedWord=>f s.1=some s.2)) (fun s:Str×api_TrackedWord=>[tS.is s.1]) (fun s:Str×api_TrackedWord=>(tapi_TrackedWord.is s.2))).is goes)),(4,((tFun Tryz.prog (fun (f:Str→Option api_TrackedWord)=>(fun s:Str×api_TrackedWord=>f s.1=some s.2)) (fun s:Str×api_TrackedWord=>[tS.is s.1]) (fun s:Str×api_TrackedWord=>(tapi_TrackedWord.is s.2))).is comes)),(5,((tFun Tryz.prog (fun (f:Str→Str→Option api_TrackedWord)=>(fun s:Str×Str×api_TrackedWord=>f s.1 s.2.1=some s.2.2)) (fun s:Str×Str×api_TrackedWord=>[tS.is s.1,tS.is s.2.1]) (fun s:Str×Str×api_TrackedWord=>(tapi_TrackedWord.is s.2.2))).is stays)),(14,(I6.is i2)),(17,(tapi_Pair.ptr e)),(26,(tO tapi_Pair k1 out)),(27,(I6.is (out.length:Int))),(28,(I6.is i1))]) (fun s=>[(13,Dec.Own tapi_TrackedWord 53 s.2 s.1.1.length),(19,Dec.Own tapi_Pair 94 k1 out.length)]) _ ((out2,k2),k4) hs27 ⟨.q rfl,.q rfl,.q rfl,.q rfl,.q rfl,.q rfl,.q rfl,.q rfl,.q rfl,.q rfl,.q rfl,.q rfl,trivial⟩ ⟨rfl,rfl,⟨rfl,rfl,trivial⟩⟩ ?_
    rintro n29 ⟨⟨out4,k6⟩,k7⟩ hm
    try dsimp only at hm
    change W _ _ _ _ _ _ _ [(13,(tO tapi_TrackedWord k7 out4)),(15,(I6.is k6)),(0,((tL tS).is a)),(1,((tL tS).is b)),(3,((tFun Tryz.prog (fun (f:Str→Option api_TrackedWord)=>(fun s:Str×api_TrackedWord=>f s.1=some s.2)) (fun s:Str×api_TrackedWord=>[tS.is s.1]) (fun s:Str×api_TrackedWord=>(tapi_TrackedWord.is s.2))).is goes)),(4,((tFun Tryz.prog (fun (f:Str→Option api_TrackedWord)=>(fun s:Str×api_TrackedWord=>f s.1=some s.2)) (fun s:Str×api_TrackedWord=>[tS.is s.1]) (fun s:Str×api_TrackedWord=>(tapi_TrackedWord.is s.2))).is comes)),(5,((tFun Tryz.prog (fun (f:Str→Str→Option api_TrackedWord)=>(fun s:Str×Str×api_TrackedWord=>f s.1 s.2.1=some s.2.2)) (fun s:Str×Str×api_TrackedWord=>[tS.is s.1,tS.is s.2.1]) (fun s:Str×Str×api_TrackedWord=>(tapi_TrackedWord.is s.2.2))).is stays)),(14,(I6.is i2)),(17,(tapi_Pair.ptr e)),(26,(tO tapi_Pair k1 out)),(27,(I6.is (out.length:Int))),(28,(I6.is i1))] [(13,Dec.Own tapi_TrackedWord 53 k7 out4.length),(19,Dec.Own tapi_Pair 94 k1 out.length)]
    cases n29 with
    | zero=>rw [M.redline_woven_string_string_api_TrackedWord_loop3.eq_1] at hm;cases hm
    | succ n29=>
     rw [M.redline_woven_string_string_api_TrackedWord_loop3.eq_2] at hm
     refine W.seq<|Aw<|Am rfl rfl<|Ao rfl (.fieldAddr U94 rfl J3 fapi_Pair_1 (.t rfl))<|Ao rfl (.load ty3 (.t rfl))<|Ao rfl (.ltI (.t rfl) (.t rfl))<|An<|W.cD hm (.t rfl) (fun hp31 hm=>?_) (fun hp31 hm=>?_)
     ·refine W.skip<|Aq<|W.seq<|W.block<|W.region<|Am rfl rfl<|Am rfl rfl<|Am rfl rfl<|WL.mv rfl rfl ?_
      obtain ⟨v3,hv32,hm⟩:=Bs hm
      refine Ao rfl (.idx hv32 U38 Z9 (.t rfl) (.t rfl))<|Ao rfl (.load ty9 (.t rfl)) ?_
      obtain ⟨v4,hv33,hm⟩:=Bs hm
      refine Ao rfl (.callFun (ok:=(fun (f:Str→Option api_TrackedWord)=>(fun s:Str×api_TrackedWord=>f s.1=some s.2))) (As:=(fun s:Str×api_TrackedWord=>[tS.is s.1])) (A:=(fun s:Str×api_TrackedWord=>(tapi_TrackedWord.is s.2))) (f:=comes) (s:=(v3,v4)) (.t rfl) hv33 ⟨(.t rfl),trivial⟩)<|Ao rfl (.buildSlice (n:=1) (ys:=[(0,v4)]) (z:=zapi_TrackedWord) (xs:=[v4]) U30 el53 ze53 ⟨rfl,(.t rfl),trivial⟩ (by simp) (by decide) rfl) ?_
      obtain ⟨out5,hv34,hm⟩:=Bs hm
      refine WL.opR rfl (OpR.appC (key:=13) hv34 U30 el53 (.t rfl) (.t rfl) rfl) fun k8=>Ag rfl rfl<|WL.nil<|WN.block<|Aq<|W.region<|WL.mv rfl rfl ?_
      obtain ⟨v5,hv35,hm⟩:=Bs hm
      exact Ao rfl (.addC hv35 (.t rfl) .i64)<|Ag rfl rfl<|WL.nil<|WN.again n29 ((out5,v5),k8) (Nat.lt_succ_self n29) hm ⟨.q rfl,.q rfl,.q rfl,.q rfl,.q rfl,.q rfl,.q rfl,.q rfl,.q rfl,.q rfl,.q rfl,.q rfl,trivial⟩ ⟨rfl,rfl,⟨rfl,rfl,trivial⟩⟩
     ·refine W.exit rfl ?_
      have hr36:=Si hm
      clear hm
      subst hr36
      have hm:=hk28
      try dsimp only at hm
      refine WN.seq ?_
      obtain ⟨s37,hs38,hk39⟩:=Bs hm
      clear hm
      refine W.join (fun s:Bool=>s=s37) (fun s=>[(73,(tB.is s)),(0,((tL tS).is a)),(1,((tL tS).is b)),(3,((tFun Tryz.prog (fun (f:Str→Option api_TrackedWord)=>(fun s:Str×api_TrackedWord=>f s.1=some s.2)) (fun s:Str×api_TrackedWord=>[tS.is s.1]) (fun s:Str×api_TrackedWord=>(tapi_TrackedWord.is s.2))).is goes)),(4,((tFun Tryz.prog (fun (f:Str→Option api_TrackedWord)=>(fun s:Str×api_TrackedWord=>f s.1=some s.2)) (fun s:Str×api_TrackedWord=>[tS.is s.1]) (fun s:Str×api_TrackedWord=>(tapi_TrackedWord.is s.2))).is comes)),(5,((tFun Tryz.prog (fun (f:Str→Str→Option api_TrackedWord)=>(fun s:Str×Str×api_TrackedWord=>f s.1 s.2.1=some s.2.2)) (fun s:Str×Str×api_TrackedWord=>[tS.is s.1,tS.is s.2.1]) (fun s:Str×Str×api_TrackedWord=>(tapi_TrackedWord.is s.2.2))).is stays)),(13,(tO tapi_TrackedWord k7 out4)),(14,(I6.is i2)),(15,(I6.is k6)),(26,(tO tapi_Pair k1 out)),(27,(I6.is (out.length:Int))),(28,(I6.is i1))]) (fun s=>[(13,Dec.Own tapi_TrackedWord 53 k7 out4.length),(19,Dec.Own tapi_Pair 94 k1 out.length)]) ?_ ?_
      ·rintro v6 hj50
       try dsimp only at hj50
       subst hj50
       have hm:=hk39
       clear hk39
       try dsimp only at hm
       change W _ _ _ _ _ _ _ [(73,(tB.is v6)),(0,((tL tS).is a)),(1,((tL tS).is b)),(3,((tFun Tryz.prog (fun (f:Str→Option api_TrackedWord)=>(fun s:Str×api_TrackedWord=>f s.1=some s.2)) (fun s:Str×api_TrackedWord=>[tS.is s.1]) (fun s:Str×api_TrackedWord=>(tapi_TrackedWord.is s.2))).is goes)),(4,((tFun Tryz.prog (fun (f:Str→Option api_TrackedWord)=>(fun s:Str×api_TrackedWord=>f s.1=some s.2)) (fun s:Str×api_TrackedWord=>[tS.is s.1]) (fun s:Str×api_TrackedWord=>(tapi_TrackedWord.is s.2))).is comes)),(5,((tFun Tryz.prog (fun (f:Str→Str→Option api_TrackedWord)=>(fun s:Str×Str×api_TrackedWord=>f s.1 s.2.1=some s.2.2)) (fun s:Str×Str×api_TrackedWord=>[tS.is s.1,tS.is s.2.1]) (fun s:Str×Str×api_TrackedWord=>(tapi_TrackedWord.is s.2.2))).is stays)),(13,(tO tapi_TrackedWord k7 out4)),(14,(I6.is i2)),(15,(I6.is k6)),(26,(tO tapi_Pair k1 out)),(27,(I6.is (out.length:Int))),(28,(I6.is i1))] [(13,Dec.Own tapi_TrackedWord 53 k7 out4.length),(19,Dec.Own tapi_Pair 94 k1 out.length)]
       refine W.cB hm (.t rfl) (fun hp43 hm=>?_) (fun hp43 hm=>?_)
       ·refine W.seq ?_
        obtain ⟨v7,hv44,hm⟩:=Bs hm
        obtain ⟨v8,hv45,hm⟩:=Bs hm
        obtain ⟨v9,hv46,hm⟩:=Bs hm
        obtain ⟨out6,hv47,hm⟩:=Bs hm
        refine W.drawR [.c (tO tapi_TrackedWord k7 out4),.c ((tFun Tryz.prog (fun (f:Str→Str→Option api_TrackedWord)=>(fun s:Str×Str×api_TrackedWord=>f s.1 s.2.1=some s.2.2)) (fun s:Str×Str×api_TrackedWord=>[tS.is s.1,tS.is s.2.1]) (fun s:Str×Str×api_TrackedWord=>(tapi_TrackedWord.is s.2.2))).is stays),.c ((tL tS).is a),.c (I6.is i2),.c (tS.ptr v7),.c (tS.is v7),.c ((tL tS).is b),.c (I6.is k6),.c (tS.ptr v8),.c (tS.is v8),.c (tapi_TrackedWord.is v9),.c ((tL tapi_TrackedWord).is [v9]),.f (fun k9=>(tO tapi_TrackedWord k9 out6)),.f (fun k9=>(tO tapi_TrackedWord k9 out6))] [([],[13]),([],[5]),([],[0]),([],[14]),([2,3],[]),([4],[]),([],[1]),([],[15]),([6,7],[]),([8],[]),([1,5,9],[]),([10],[]),([0,11],[]),([12],[])] 12 [13] (fun k:Tok=>tO tapi_TrackedWord k out6) (fun k:Tok=>[(13,Dec.Own tapi_TrackedWord 53 k out6.length)]) (none:Tok) Mx rfl rfl rfl (fun k9=>⟨.inr (Op1.move (.t rfl)),.inr (Op1.move (.t rfl)),.inr (Op1.move (.t rfl)),.inr (Op1.move (.t rfl)),.inr (Op1.idx hv44 U38 Z9 (.t rfl) (.t rfl)),.inr (Op1.load ty9 (.t rfl)),.inr (Op1.move (.t rfl)),.inr (Op1.move (.t rfl)),.inr (Op1.idx hv45 U38 Z9 (.t rfl) (.t rfl)),.inr (Op1.load ty9 (.t rfl)),.inr (Op1.callFun (ok:=(fun (f:Str→Str→Option api_TrackedWord)=>(fun s:Str×Str×api_TrackedWord=>f s.1 s.2.1=some s.2.2))) (As:=(fun s:Str×Str×api_TrackedWord=>[tS.is s.1,tS.is s.2.1])) (A:=(fun s:Str×Str×api_TrackedWord=>(tapi_TrackedWord.is s.2.2))) (f:=stays) (s:=(v7,v8,v9)) (.t rfl) hv46 ⟨(.t rfl),(.t rfl),trivial⟩),.inr (Op1.buildSlice (n:=1) (ys:=[(0,v9)]) (z:=zapi_TrackedWord) (xs:=[v9]) U30 el53 ze53 ⟨rfl,(.t rfl),trivial⟩ (by simp) (by decide) rfl),.inl rfl,.inr (Op1.assign (.t rfl)),trivial⟩) (.inl ⟨by decide,_,_,rfl,rfl,rfl,rfl,OpR.appC (key:=13) hv47 U30 el53 (.t rfl) (.t rfl) rfl⟩) fun k9=>Aq<|W.region<|WL.mv rfl rfl ?_
        obtain ⟨v10,hv48,hm⟩:=Bs hm
        refine Ao rfl (.addC hv48 (.t rfl) .i64)<|WL.mv rfl rfl ?_
        obtain ⟨v11,hv49,hm⟩:=Bs hm
        exact Ao rfl (.addC hv49 (.t rfl) .i64)<|Ag rfl rfl<|Ag rfl rfl<|WL.nil<|WN.block<|Aq<|W.region<|Ao rfl (.addI (.t rfl) .i64 (range_inR hi7 hp12 hlen8))<|Am rfl rfl<|WL.nil<|WN.again es.length (i1+1,pre++ [e],es,((out6,v10,v11),k9)) (range_lt hn9) ⟨rfl,range_step hxs6,range_idx hi7,hm⟩ ⟨.q rfl,.q rfl,.q rfl,.q rfl,.q rfl,.q rfl,.q rfl,.q rfl,.q rfl,.q rfl,.q rfl,trivial⟩ ⟨rfl,rfl,⟨rfl,rfl,trivial⟩⟩
       ·exact W.skip<|WN.block<|Aq<|W.region<|Ao rfl (.addI (.t rfl) .i64 (range_inR hi7 hp12 hlen8))<|Am rfl rfl<|WL.nil<|WN.again es.length (i1+1,pre++ [e],es,((out4,i2,k6),k7)) (range_lt hn9) ⟨rfl,range_step hxs6,range_idx hi7,hm⟩ ⟨.q rfl,.q rfl,.q rfl,.q rfl,.q rfl,.q rfl,.q rfl,.q rfl,.q rfl,.q rfl,.q rfl,trivial⟩ ⟨rfl,rfl,⟨rfl,rfl,trivial⟩⟩
      ·have hm:=hs38
       clear hs38
       refine W.region<|Ao rfl (.fieldAddr U94 rfl J3 fapi_Pair_0 (.t rfl))<|Ao rfl (.load ty3 (.t rfl))<|Am rfl rfl<|Ao rfl (.lenL U38 (.t rfl))<|Ao rfl (.ltI (.t rfl) (.t rfl))<|WL.mv rfl rfl ?_
       rcases iteD hm with ⟨hp41,hb40,hm⟩ | ⟨hp41,hb40,hm⟩
       ·exact Ax rfl hb40 (.fieldAddr U94 rfl J3 fapi_Pair_1 (.t rfl))<|Ax rfl hb40 (.load ty3 (.t rfl))<|Ax rfl hb40 (.move (.t rfl))<|Ax rfl hb40 (.lenL U38 (.t rfl))<|Ax rfl hb40 (.ltI (.t rfl) (.t rfl))<|Ao rfl (.pickT (.t rfl) hb40 (.t rfl))<|WL.nil<|WN.meet (decide (e.B<(b.length:Int))) (Si hm) ⟨.q rfl,.q rfl,.q rfl,.q rfl,.q rfl,.q rfl,.q rfl,.q rfl,.q rfl,.q rfl,.q rfl,.q rfl,trivial⟩ ⟨rfl,rfl,⟨rfl,rfl,trivial⟩⟩
       ·exact Ap rfl hb40<|Ap rfl hb40<|Ap rfl hb40<|Ap rfl hb40<|Ap rfl hb40<|Ao rfl (.pickF (.t rfl) hb40 .bool)<|WL.nil<|WN.meet false (Si hm) ⟨.q rfl,.q rfl,.q rfl,.q rfl,.q rfl,.q rfl,.q rfl,.q rfl,.q rfl,.q rfl,.q rfl,.q rfl,trivial⟩ ⟨rfl,rfl,⟨rfl,rfl,trivial⟩⟩
 ·have hrest14:=range_end hxs6 hi7 (of_decide_eq_false hc11)
  subst hrest14
  rw [M.redline_woven_string_string_api_TrackedWord_loop1.eq_1] at hm
  refine W.exit rfl ?_
  have hr51:=Si hm
  clear hm
  subst hr51
  have hm:=hk5
  try dsimp only at hm
  refine Aq<|Aw<|Am rfl rfl<|Ag rfl rfl<|WL.ns ?_
  cases hm
  exact W.ret1 () rfl (Opd.own (.t rfl)) trivial
theorem redline_words_spec(n:Nat)(a:List api_Word)(b:List api_Word)(r:List api_TrackedWord)(hm:M.redline_words n a b=some r):FSpec Tryz.prog 51 [((tL tapi_Word).is a),((tL tapi_Word).is b)] ((tL tapi_TrackedWord).is r):=by
 unfold M.redline_words at hm
 refine FSpec.of Tryz.func51 rfl rfl rfl fun g0=>Aw<|Ao rfl (.assign (.nil (t:=tapi_TrackedWord)))<|Ar<|WL.mv rfl rfl ?_
 obtain ⟨texts,hv1,hm⟩:=Bs hm
 refine Ao rfl (.call C86 (redline_texts_spec _ _ hv1) ⟨(.t rfl),trivial⟩)<|WL.mv rfl rfl ?_
 obtain ⟨texts1,hv2,hm⟩:=Bs hm
 refine Ao rfl (.call C86 (redline_texts_spec _ _ hv2) ⟨(.t rfl),trivial⟩)<|Ag rfl rfl<|Ag rfl rfl<|WL.nr ?_
 obtain ⟨word,hv3,hm⟩:=Bs hm
 refine Ao rfl (.call C87 (redline_word_spec _ _ hv3) ⟨.i64,trivial⟩)<|WL.opR rfl (OpR.allocF 7 Tryz.zeroValue133) fun b1=>WL.opU (OpR.storeB (b:=b1) 7 Z133 (Cellable.is (tFun Tryz.prog (fun (f:Str→Option api_TrackedWord)=>(fun s:Str×api_TrackedWord=>f s.1=some s.2)) (fun s:Str×api_TrackedWord=>[tS.is s.1]) (fun s:Str×api_TrackedWord=>(tapi_TrackedWord.is s.2))) word) rfl (.t rfl) (.t rfl)) fun _=>WL.sealed (t:=(tFun Tryz.prog (fun (f:Str→Option api_TrackedWord)=>(fun s:Str×api_TrackedWord=>f s.1=some s.2)) (fun s:Str×api_TrackedWord=>[tS.is s.1]) (fun s:Str×api_TrackedWord=>(tapi_TrackedWord.is s.2)))) (u:=word) 7 7 rfl rfl<|Ar<|Am rfl rfl<|Am rfl rfl<|Am rfl rfl<|WL.mv rfl rfl ?_
 obtain ⟨pairs,hv4,hm⟩:=Bs hm
 refine Ao rfl (.call C89 (lcs_Pairs_spec _ _ _ _ hv4) ⟨(.t rfl),(.t rfl),trivial⟩) ?_
 obtain ⟨word1,hv5,hm⟩:=Bs hm
 refine Ao rfl (.call C87 (redline_word_spec _ _ hv5) ⟨.i64,trivial⟩) ?_
 obtain ⟨word2,hv6,hm⟩:=Bs hm
 refine Ao rfl (.call C87 (redline_word_spec _ _ hv6) ⟨.i64,trivial⟩)<|Ao rfl (.makeFunc (ok:=(fun s:Str×Str×api_TrackedWord=>(fun s0 s1=>M.redline_words_1 s0 s1 word) s.1 s.2.1=some s.2.2)) (As:=(fun s:Str×Str×api_TrackedWord=>[tS.is s.1,tS.is s.2.1])) (A:=(fun s:Str×Str×api_TrackedWord=>(tapi_TrackedWord.is s.2.2))) (Cs:=[((tFun Tryz.prog (fun (f:Str→Option api_TrackedWord)=>(fun s:Str×api_TrackedWord=>f s.1=some s.2)) (fun s:Str×api_TrackedWord=>[tS.is s.1]) (fun s:Str×api_TrackedWord=>(tapi_TrackedWord.is s.2))).ptr word)]) (cap:=[.tmp 7]) C90 ⟨(.t rfl),trivial⟩ (fun s hs=>redline_words_1_spec _ _ _ _ hs)) ?_
 obtain ⟨tracke,hv7,hm⟩:=Bs hm
 refine Ao rfl (.call C88 (redline_woven_string_string_api_TrackedWord_spec _ _ _ _ _ _ _ _ hv7) ⟨(.t rfl),(.t rfl),(.t rfl),(.t rfl),(.t rfl),(Opd.tFun (.t rfl)),trivial⟩)<|Ag rfl rfl<|WL.ns ?_
 cases hm
 exact W.ret1 () rfl (.t rfl) trivial
theorem redline_books_fresh_1_spec(y:api_Unit)(c:api_Unit)(r:Bool)(hm:M.redline_books_fresh_1 y c=some r):FSpec Tryz.prog 53 [(tapi_Unit.is y),(tapi_Unit.ptr c)] (tB.is r):=by
 unfold M.redline_books_fresh_1 at hm
 refine FSpec.of Tryz.func53 rfl rfl rfl fun g0=>Aw<|Ao rfl (.box (.t rfl))<|Ao rfl (.assign .bool)<|Ar<|Ao rfl (.fieldAddr U27 rfl J23 fapi_Unit_0 (.t rfl))<|Ao rfl (.load ty23 (.t rfl))<|Ao rfl (.fieldAddr U27 rfl J23 fapi_Unit_0 (.t rfl))<|Ao rfl (.load ty23 (.t rfl))<|Ao rfl (.eqSt (D:=2) rfl (by decide) eg23 eq23 (.t rfl) (.t rfl))<|Ag rfl rfl<|WL.ns ?_
 cases hm
 exact W.ret1 () rfl (.t rfl) trivial
theorem slices_IndexFunc_api_Unit_api_Unit_spec(n:Nat)(s0_:List api_Unit)(f:api_Unit→Option Bool)(r:Int)(hm:M.slices_IndexFunc_api_Unit_api_Unit n s0_ f=some r):FSpec Tryz.prog 52 [((tL tapi_Unit).is s0_),(tF Tryz.prog (fun s:api_Unit×Bool=>f s.1=some s.2) (fun s:api_Unit×Bool=>[tapi_Unit.is s.1]) (fun s:api_Unit×Bool=>(tB.is s.2)))] (I6.is r):=by
 unfold M.slices_IndexFunc_api_Unit_api_Unit at hm
 refine FSpec.of Tryz.func52 rfl rfl rfl fun g0=>Aw<|Ao rfl (.assign .i64)<|An<|W.seq<|Aw<|Am rfl rfl<|Ao rfl (.lenL U25 (.t rfl))<|Ao rfl (.move .i64)<|An<|W.block ?_
 obtain ⟨s1,hs2,hk3⟩:=Bs hm
 clear hm
 refine W.loop (fun m (s:Int)=>M.slices_IndexFunc_api_Unit_api_Unit_loop1 s0_ f m s=some s1) (fun s=>[(8,(I6.is s)),(0,((tL tapi_Unit).is s0_)),(1,(tF Tryz.prog (fun s:api_Unit×Bool=>f s.1=some s.2) (fun s:api_Unit×Bool=>[tapi_Unit.is s.1]) (fun s:api_Unit×Bool=>(tB.is s.2)))),(7,(I6.is (s0_.length:Int)))]) (fun s=>[]) _ (0:Int) hs2 ⟨.q rfl,.q rfl,.q rfl,.q rfl,trivial⟩ trivial ?_
 rintro n4 v hm
 try dsimp only at hm
 change W _ _ _ _ _ _ _ [(8,(I6.is v)),(0,((tL tapi_Unit).is s0_)),(1,(tF Tryz.prog (fun s:api_Unit×Bool=>f s.1=some s.2) (fun s:api_Unit×Bool=>[tapi_Unit.is s.1]) (fun s:api_Unit×Bool=>(tB.is s.2)))),(7,(I6.is (s0_.length:Int)))] []
 cases n4 with
 | zero=>rw [M.slices_IndexFunc_api_Unit_api_Unit_loop1.eq_1] at hm;cases hm
 | succ n4=>
  rw [M.slices_IndexFunc_api_Unit_api_Unit_loop1.eq_2] at hm
  refine Aw<|Ao rfl (.ltI (.t rfl) (.t rfl))<|An<|W.seq<|W.cD hm (.t rfl) (fun hp6 hm=>?_) (fun hp6 hm=>?_)
  ·refine W.skip<|Aq<|W.seq<|W.block<|Aw<|Am rfl rfl<|Ag rfl rfl<|Ar<|Am rfl rfl<|Am rfl rfl<|WL.mv rfl rfl ?_
   obtain ⟨v1,hv7,hm⟩:=Bs hm
   refine Ao rfl (.idx hv7 U25 Z27 (.t rfl) (.t rfl))<|Ao rfl (.load ty27 (.t rfl)) ?_
   obtain ⟨v2,hv8,hm⟩:=Bs hm
   refine Ao rfl (.callF (ok:=(fun s:api_Unit×Bool=>f s.1=some s.2)) (As:=(fun s:api_Unit×Bool=>[tapi_Unit.is s.1])) (A:=(fun s:api_Unit×Bool=>(tB.is s.2))) (s:=(v1,v2)) (.t rfl) hv8 ⟨(.t rfl),trivial⟩)<|An<|W.cB hm (.t rfl) (fun hp10 hm=>?_) (fun hp10 hm=>?_)
   ·refine Aw<|Am rfl rfl<|Ag rfl rfl<|WL.ns ?_
    have hr11:=Si hm
    clear hm
    subst hr11
    have hm:=hk3
    try dsimp only at hm
    cases hm
    exact W.ret1 () rfl (.t rfl) trivial
   ·exact W.skip<|WN.block<|Aq<|W.region<|WL.lenL (s:=0) (.t rfl) fun hl12=>Ao rfl (.addI1 (.t rfl) .i64 hp6 hl12)<|Am rfl rfl<|WL.nil<|WN.again n4 (v+1) (Nat.lt_succ_self n4) hm ⟨.q rfl,.q rfl,.q rfl,.q rfl,trivial⟩ trivial
  ·refine W.exit rfl ?_
   have hr13:=Si hm
   clear hm
   subst hr13
   have hm:=hk3
   try dsimp only at hm
   refine Aq<|Aw<|Ao rfl (.assign .i64)<|WL.ns ?_
   cases hm
   exact W.ret1 () rfl (.t rfl) trivial
theorem redline_books_gone_spec:∀ (n:Nat) (x:redline_books) (u:api_Unit) (r:api_TrackedUnit),M.redline_books_gone n x u=some r→FSpec Tryz.prog 55 [(tredline_books.is x),(tapi_Unit.is u)] (tapi_TrackedUnit.is r):=by
 intro n
 induction n with
 | zero=>intro x u r hm;cases hm
 | succ n ih=>
  intro x u r hm
  rw [M.redline_books_gone.eq_2] at hm
  refine FSpec.of Tryz.func55 rfl rfl rfl fun g0=>Aw<|Ao rfl (.box (.t rfl))<|Ao rfl (.box (.t rfl))<|WL.opR rfl (OpR.alloc 4 zeapi_TrackedUnit_k8) fun b=>An<|W.seq<|Aw<|Ao rfl (.fieldAddr Tryz.underlying59 rfl J56 fredline_books_1 (.t rfl))<|Ao rfl (.load ty56 (.t rfl))<|Ao rfl (.fieldAddr U27 rfl J23 fapi_Unit_0 (.t rfl))<|Ao rfl (.load ty23 (.t rfl))<|Ao rfl (.lookupSOkQ U56 kt23 ze27 (.t rfl) (.t rfl))<|Am rfl rfl<|Ao rfl (.extract0 (.t rfl))<|Ao rfl (.extract1 (.t rfl)) ?_
  refine WL.opR rfl (OpR.alloc 5 ze27) fun b1=>WL.opU (OpR.storeB (b:=b1) 5 Z27 (Cellable.is tapi_Unit ((mget x.b_ u.Id zapi_Unit,mhas x.b_ u.Id).1)) rfl (.t rfl) (.t rfl)) fun _=>WL.sealed (t:=tapi_Unit) (u:=((mget x.b_ u.Id zapi_Unit,mhas x.b_ u.Id).1)) 5 5 rfl rfl<|Ag rfl rfl<|Ar<|Am rfl rfl<|An<|W.cB hm (.t rfl) (fun hp2 hm=>?_) (fun hp2 hm=>?_)
  ·refine Aw<|Ao rfl (.fieldAddr U27 rfl J23 fapi_Unit_0 (.t rfl))<|Ao rfl (.load ty23 (.t rfl))<|Ao rfl (.build (s:=(tapi_TrackedUnit_k8 none)) (x:=(⟨(2:Int),(0:Int),u.Id,([]:Str),([]:Str),true,([]:List api_TrackedWord),([]:List api_TrackedWord),([]:List api_TrackedUnit)⟩:api_TrackedUnit)) zapi_TrackedUnit_f rfl U33 (zapi_TrackedUnit_sz _ U33) zeapi_TrackedUnit_k8 ⟨_,I6,(2:Int),_,_,rfl,Z3,.i64,(sapi_TrackedUnit_k8_0 none),⟨_,tB,true,_,_,rfl,Z4,.bool,(sapi_TrackedUnit_k8_5 none),⟨_,tapi_Id,u.Id,_,_,rfl,Z23,(.t rfl),(sapi_TrackedUnit_k8_2 none),rfl⟩⟩⟩)<|WL.opU (OpR.storeB (b:=b) 4 Z33 (Cellable.is (tapi_TrackedUnit_k8 none) (⟨(2:Int),(0:Int),u.Id,([]:Str),([]:Str),true,([]:List api_TrackedWord),([]:List api_TrackedWord),([]:List api_TrackedUnit)⟩:api_TrackedUnit)) rfl (.t rfl) (.t rfl)) fun _=>WL.ns ?_
   cases hm
   exact W.retQ1 () rfl (ResAt.weak (ResAt.cell 4 Y33 Z33 rfl (.t rfl)) (fun _ _=>Le.is (leapi_TrackedUnit_k8 none))) trivial
  ·refine W.skip<|Aq<|W.seq ?_
   obtain ⟨words,hv3,hm⟩:=Bs hm
   obtain ⟨words1,hv4,hm⟩:=Bs hm
   refine W.weakR (res':=[(4,(Bx 11 true 33 ((tapi_TrackedUnit_k8 none).is zapi_TrackedUnit) b))]) ⟨rfl,rfl,trivial⟩<|W.drawM [.c (I6.ptr u.Kind),.c (I6.is u.Kind),.c (tapi_Id.ptr u.Id),.c (tapi_Id.is u.Id),.c (tS.ptr u.Label),.c (tS.is u.Label),.c ((tL tapi_Word).ptr u.Head),.c ((tL tapi_Word).is u.Head),.c ((tL tapi_TrackedWord).is words),.c ((tL tapi_Word).ptr u.Words),.c ((tL tapi_Word).is u.Words),.c ((tL tapi_TrackedWord).is words1),.c ((tapi_TrackedUnit_k8 none).is (⟨(2:Int),u.Kind,u.Id,u.Label,([]:Str),false,words,words1,([]:List api_TrackedUnit)⟩:api_TrackedUnit)),.f (fun cv=>(Bp (bk (cv 0)) 0)),.c Asn.any] [([],[3]),([0],[]),([],[3]),([2],[]),([],[3]),([4],[]),([],[3]),([6],[]),([7],[]),([],[3]),([9],[]),([10],[]),([1,3,5,8,11],[]),([],[]),([12,13],[])] [13,14] [[],[],[],[],[],[],[],[],[],[],[],[],[],[true],[]] (fun m cv=>match m with | 0=>[(4,(Bx 11 true 33 ((tapi_TrackedUnit_k8 none).is zapi_TrackedUnit) b))] | 1=>[(7,(Bx 11 true 33 ((tapi_TrackedUnit_k8 none).is zapi_TrackedUnit) (bk (cv 0)))),(4,(Bx 11 true 33 ((tapi_TrackedUnit_k8 none).is zapi_TrackedUnit) b))] | _=>[(7,(Bx 11 true 33 ((tapi_TrackedUnit_k8 none).is (⟨(2:Int),u.Kind,u.Id,u.Label,([]:Str),false,words,words1,([]:List api_TrackedUnit)⟩:api_TrackedUnit)) (bk (cv 0)))),(4,(Bx 11 true 33 ((tapi_TrackedUnit_k8 none).is zapi_TrackedUnit) b))]) (fun _=>none) Mx rfl rfl rfl rfl rfl ⟨fun _ _ _ _=>rfl,⟨fun _ _ _ _=>rfl,⟨fun _ _ _ _=>rfl,⟨fun _ _ _ _=>rfl,⟨fun _ _ _ _=>rfl,⟨fun _ _ _ _=>rfl,⟨fun _ _ _ _=>rfl,⟨fun _ _ _ _=>rfl,⟨fun _ _ _ _=>rfl,⟨fun _ _ _ _=>rfl,⟨fun _ _ _ _=>rfl,⟨fun _ _ _ _=>rfl,⟨fun _ _ _ _=>rfl,⟨fun m hm c t=>by simp only [DA.at,upd_dep (r:=[true]) (j:=0) rfl hm],⟨fun _ _ _ _=>rfl,trivial⟩⟩⟩⟩⟩⟩⟩⟩⟩⟩⟩⟩⟩⟩⟩ rfl ⟨mo fun cv=>Op1.fieldAddr U27 rfl J3 fapi_Unit_1 (.t rfl),⟨mo fun cv=>Op1.load ty3 (.t rfl),⟨mo fun cv=>Op1.fieldAddr U27 rfl J23 fapi_Unit_0 (.t rfl),⟨mo fun cv=>Op1.load ty23 (.t rfl),⟨mo fun cv=>Op1.fieldAddr U27 rfl J9 fapi_Unit_2 (.t rfl),⟨mo fun cv=>Op1.load ty9 (.t rfl),⟨mo fun cv=>Op1.fieldAddr U27 rfl J24 fapi_Unit_3 (.t rfl),⟨mo fun cv=>Op1.load ty24 (.t rfl),⟨mo fun cv=>Op1.call C51 (redline_words_spec _ _ _ _ hv3) ⟨(.t rfl),(.nil (t:=tapi_Word)),trivial⟩,⟨mo fun cv=>Op1.fieldAddr U27 rfl J24 fapi_Unit_4 (.t rfl),⟨mo fun cv=>Op1.load ty24 (.t rfl),⟨mo fun cv=>Op1.call C51 (redline_words_spec _ _ _ _ hv4) ⟨(.t rfl),(.nil (t:=tapi_Word)),trivial⟩,⟨mo fun cv=>Op1.build (s:=(tapi_TrackedUnit_k8 none)) (x:=(⟨(2:Int),u.Kind,u.Id,u.Label,([]:Str),false,words,words1,([]:List api_TrackedUnit)⟩:api_TrackedUnit)) zapi_TrackedUnit_f rfl U33 (zapi_TrackedUnit_sz _ U33) zeapi_TrackedUnit_k8 ⟨_,I6,(2:Int),_,_,rfl,Z3,.i64,(sapi_TrackedUnit_k8_0 none),⟨_,I6,u.Kind,_,_,rfl,Z3,(.t rfl),(sapi_TrackedUnit_k8_1 none),⟨_,tapi_Id,u.Id,_,_,rfl,Z23,(.t rfl),(sapi_TrackedUnit_k8_2 none),⟨_,tS,u.Label,_,_,rfl,Z9,(.t rfl),(sapi_TrackedUnit_k8_3 none),⟨_,(tL tapi_TrackedWord),words,_,_,rfl,Z30,(.t rfl),(sapi_TrackedUnit_k8_6 none),⟨_,(tL tapi_TrackedWord),words1,_,_,rfl,Z30,(.t rfl),(sapi_TrackedUnit_k8_7 none),rfl⟩⟩⟩⟩⟩⟩,⟨.inl rfl,⟨.inl rfl,trivial⟩⟩⟩⟩⟩⟩⟩⟩⟩⟩⟩⟩⟩⟩⟩ ⟨⟨_,_,_,[],(fun cv=>[(7,(Bx 11 true 33 ((tapi_TrackedUnit_k8 none).is zapi_TrackedUnit) (bk (cv 0))))]),rfl,rfl,rfl,rfl,fun _=>rfl,fun _ _=>rfl,fun cv=>OpR.viaB (OpR.alloc 7 zeapi_TrackedUnit_k8)⟩,⟨⟨_,_,_,[7],(fun cv=>[(7,(Bx 11 true 33 ((tapi_TrackedUnit_k8 none).is (⟨(2:Int),u.Kind,u.Id,u.Label,([]:Str),false,words,words1,([]:List api_TrackedUnit)⟩:api_TrackedUnit)) (bk (cv 0))))]),rfl,rfl,rfl,rfl,fun _=>rfl,fun _ _=>rfl,fun cv=>OpR.viaU (OpR.storeB (b:=(bk (cv 0))) 7 Z33 (Cellable.is (tapi_TrackedUnit_k8 none) (⟨(2:Int),u.Kind,u.Id,u.Label,([]:Str),false,words,words1,([]:List api_TrackedUnit)⟩:api_TrackedUnit)) rfl (.t rfl) (.t rfl))⟩,trivial⟩⟩ fun cv=>WN.addNil (t:=tapi_TrackedUnit) (E:=33) 1000007<|Aq<|W.seq<|Aw<|Ao rfl (.fieldAddr U27 rfl J25 fapi_Unit_5 (.t rfl))<|Ao rfl (.load ty25 (.t rfl))<|Ao rfl (.lenL U25 (.t rfl))<|Ao rfl (.move .i64)<|An<|W.block ?_
   obtain ⟨s5,hs6,hk7⟩:=Bs hm
   clear hm
   refine W.loop (fun m (s:Int×List api_Unit×List api_Unit×((api_TrackedUnit)×Tok))=>m=s.2.2.1.length∧u.Kids=s.2.1++s.2.2.1∧s.1=(s.2.1.length:Int)∧M.redline_books_gone_loop1 x (M.redline_books_gone n) s.2.2.1 s.2.2.2.1=some s5) (fun s=>[(38,(I6.is s.1)),(2,(tredline_books.ptr x)),(4,(Bp b 0)),(7,(Bp (bk (cv 0)) 0)),(36,((tL tapi_Unit).is u.Kids)),(37,(I6.is (u.Kids.length:Int)))]) (fun s=>[(1000007,Dec.Own tapi_TrackedUnit 33 s.2.2.2.2 s.2.2.2.1.Kids.length),(7,(Bx 11 true 33 ((tapi_TrackedUnit_k8 s.2.2.2.2).is s.2.2.2.1) (bk (cv 0)))),(4,(Bx 11 true 33 ((tapi_TrackedUnit_k8 none).is zapi_TrackedUnit) b))]) u.Kids.length ((0:Int),[],u.Kids,((⟨(2:Int),u.Kind,u.Id,u.Label,([]:Str),false,words,words1,([]:List api_TrackedUnit)⟩:api_TrackedUnit),(none:Tok))) ⟨rfl,rfl,rfl,hs6⟩ ⟨.q rfl,.q rfl,.q rfl,.q rfl,.q rfl,.q rfl,trivial⟩ ⟨rfl,rfl,⟨rfl,rfl,⟨rfl,rfl,trivial⟩⟩⟩ ?_
   rintro m ⟨i,pre,rest1,⟨t,k⟩⟩ ⟨hn11,hxs8,hi9,hm⟩
   try dsimp only at hn11 hxs8 hi9 hm
   change W _ _ _ _ _ _ _ [(38,(I6.is i)),(2,(tredline_books.ptr x)),(4,(Bp b 0)),(7,(Bp (bk (cv 0)) 0)),(36,((tL tapi_Unit).is u.Kids)),(37,(I6.is (u.Kids.length:Int)))] [(1000007,Dec.Own tapi_TrackedUnit 33 k t.Kids.length),(7,(Bx 11 true 33 ((tapi_TrackedUnit_k8 k).is t) (bk (cv 0)))),(4,(Bx 11 true 33 ((tapi_TrackedUnit_k8 none).is zapi_TrackedUnit) b))]
   refine W.lenL (s:=36) (.t rfl) fun hlen10=>Aw<|Ao rfl (.ltI (.t rfl) (.t rfl))<|An<|W.seq<|W.cond (.t rfl) (fun hc13=>?_) (fun hc13=>?_)
   ·have hp14:=of_decide_eq_true hc13
    obtain ⟨e,es,hrest16⟩:=range_more hxs8 hi9 hp14
    subst hrest16
    rw [M.redline_books_gone_loop1.eq_2] at hm
    refine W.skip<|Aq<|W.seq<|W.block<|Aw<|Ao rfl (.idxPre hxs8 hi9 U25 Z27 (.t rfl) (.t rfl))<|Ao rfl (.load ty27 (.t rfl))<|WL.opR rfl (OpR.alloc 9 ze27) fun b2=>WL.opU (OpR.storeB (b:=b2) 9 Z27 (Cellable.is tapi_Unit e) rfl (.t rfl) (.t rfl)) fun _=>WL.sealed (t:=tapi_Unit) (u:=e) 9 9 rfl rfl<|WL.ns ?_
    obtain ⟨gone,hv17,hm⟩:=Bs hm
    obtain ⟨out,hv18,hm⟩:=Bs hm
    exact W.weakR (res':=[(1000007,Dec.Own tapi_TrackedUnit 33 k t.Kids.length),(7,(Bx 11 true 33 ((tapi_TrackedUnit_k8 k).is t) (bk (cv 0)))),(4,(Bx 11 true 33 ((tapi_TrackedUnit_k8 none).is zapi_TrackedUnit) b))]) ⟨rfl,rfl,⟨rfl,rfl,⟨rfl,rfl,trivial⟩⟩⟩<|W.drawM [.c (Bp (bk (cv 0)) 10),.c (tO tapi_TrackedUnit k t.Kids),.c (tredline_books.is x),.c (tapi_Unit.is e),.c (tapi_TrackedUnit.is gone),.c ((tL tapi_TrackedUnit).is [gone]),.f (fun cv1=>(tO tapi_TrackedUnit (cv1 0) out)),.c (Bp (bk (cv 0)) 10),.c Asn.any] [([],[7]),([0],[]),([],[2]),([],[9]),([2,3],[]),([4],[]),([1,5],[]),([],[7]),([6,7],[])] [6,8] [[],[],[],[],[],[],[true],[],[]] (fun m cv1=>match m with | 0=>[(1000007,Dec.Own tapi_TrackedUnit 33 k t.Kids.length),(7,(Bx 11 true 33 ((tapi_TrackedUnit_k8 k).is t) (bk (cv 0)))),(4,(Bx 11 true 33 ((tapi_TrackedUnit_k8 none).is zapi_TrackedUnit) b))] | 1=>[(1000007,Dec.Own tapi_TrackedUnit 33 (cv1 0) out.length),(7,(Bx 11 true 33 ((tapi_TrackedUnit_k8 k).is t) (bk (cv 0)))),(4,(Bx 11 true 33 ((tapi_TrackedUnit_k8 none).is zapi_TrackedUnit) b))] | _=>[(7,(Bx 11 true 33 ((tapi_TrackedUnit_k8 (cv1 0)).is ({t with Kids:=out}:api_TrackedUnit)) (bk (cv 0)))),(1000007,Dec.Own tapi_TrackedUnit 33 (cv1 0) out.length),(4,(Bx 11 true 33 ((tapi_TrackedUnit_k8 none).is zapi_TrackedUnit) b))]) (fun _=>none) Mx rfl rfl rfl rfl rfl ⟨fun _ _ _ _=>rfl,⟨fun _ _ _ _=>rfl,⟨fun _ _ _ _=>rfl,⟨fun _ _ _ _=>rfl,⟨fun _ _ _ _=>rfl,⟨fun _ _ _ _=>rfl,⟨fun m hm c t=>by simp only [DA.at,upd_dep (r:=[true]) (j:=0) rfl hm],⟨fun _ _ _ _=>rfl,⟨fun _ _ _ _=>rfl,trivial⟩⟩⟩⟩⟩⟩⟩⟩⟩ rfl ⟨mo fun cv1=>Op1.fieldAddrB (o:=0) U33 rfl J31 (.t rfl) rfl,⟨.inr ⟨fun cv1=>[(7,(Bx 11 true 33 ((tapi_TrackedUnit_k8 k).is t) (bk (cv 0))))],(AllUpTo.at ⟨⟨(fun _ _=>⟨rfl,rfl,trivial⟩),(fun hw=>absurd hw (by decide))⟩,(fun hw=>absurd hw (by decide))⟩),fun cv1=>Op1.ofOT (Op1.loadBF (t:=(tOT tapi_TrackedUnit k)) (f:=fun x:api_TrackedUnit=>x.Kids) (u:=t) 7 rfl ⟨ty31.agg,ty31.size⟩ (fapi_TrackedUnit_k8_8 k) rfl (.t rfl))⟩,⟨mo fun cv1=>Op1.load ty59 (.t rfl),⟨mo fun cv1=>Op1.load ty27 (.t rfl),⟨mo fun cv1=>Op1.call C55 (ih _ _ _ hv17) ⟨(.t rfl),(.t rfl),trivial⟩,⟨mo fun cv1=>Op1.buildSlice (n:=1) (ys:=[(0,gone)]) (z:=zapi_TrackedUnit) (xs:=[gone]) U31 el33 ze33 ⟨rfl,(.t rfl),trivial⟩ (by simp) (by decide) rfl,⟨.inl rfl,⟨mo fun cv1=>Op1.fieldAddrB (o:=0) U33 rfl J31 (.t rfl) rfl,⟨.inl rfl,trivial⟩⟩⟩⟩⟩⟩⟩⟩⟩ ⟨⟨_,_,_,[1000007],(fun cv1=>[(1000007,Dec.Own tapi_TrackedUnit 33 (cv1 0) out.length)]),rfl,rfl,rfl,rfl,fun _=>rfl,fun _ _=>rfl,fun cv1=>OpR.appC (key:=1000007) hv18 U31 el33 (.t rfl) (.t rfl) rfl⟩,⟨⟨_,_,_,[7],(fun cv1=>[(7,(Bx 11 true 33 ((tapi_TrackedUnit_k8 (cv1 0)).is ({t with Kids:=out}:api_TrackedUnit)) (bk (cv 0))))]),rfl,rfl,rfl,rfl,fun _=>rfl,fun _ _=>rfl,fun cv1=>OpR.viaU (OpR.storeBFT (b:=(bk (cv 0))) (s:=(tapi_TrackedUnit_k8 k)) (s':=(tapi_TrackedUnit_k8 (cv1 0))) (t:=(tOT tapi_TrackedUnit (cv1 0))) 7 rfl rfl ⟨ty31.agg,ty31.size⟩ (sTapi_TrackedUnit_k8 k (cv1 0)) rfl (show 10+1≤11 by decide) (.t rfl) (Opd.toOT (.t rfl)))⟩,trivial⟩⟩ fun cv1=>WN.block<|Aq<|W.region<|Ao rfl (.addI (.t rfl) .i64 (range_inR hi9 hp14 hlen10))<|Am rfl rfl<|WL.nil<|WN.again es.length (i+1,pre++ [e],es,(({t with Kids:=out}:api_TrackedUnit),(cv1 0))) (range_lt hn11) ⟨rfl,range_step hxs8,range_idx hi9,hm⟩ ⟨.q rfl,.q rfl,.q rfl,.q rfl,.q rfl,.q rfl,trivial⟩ ⟨rfl,rfl,⟨rfl,rfl,⟨rfl,rfl,trivial⟩⟩⟩
   ·have hrest16:=range_end hxs8 hi9 (of_decide_eq_false hc13)
    subst hrest16
    rw [M.redline_books_gone_loop1.eq_1] at hm
    refine W.exit rfl ?_
    have hr19:=Si hm
    clear hm
    subst hr19
    have hm:=hk7
    try dsimp only at hm
    refine Aq<|Aw<|Ao rfl (.loadB 7 Y33 Z33 rfl (.t rfl))<|WL.opU (OpR.storeB (b:=b) 4 Z33 (Cellable.is tapi_TrackedUnit t) rfl (.t rfl) (Opd.leT (leapi_TrackedUnit_k8 k) (.t rfl))) fun _=>WL.ns ?_
    cases hm
    exact W.retQ1 () rfl (ResAt.cell 4 Y33 Z33 rfl (.t rfl)) trivial
theorem redline_books_fresh_2_spec(slf:redline_books→api_Unit→Option api_TrackedUnit)(ih:∀ (x:redline_books) (u:api_Unit) (r:api_TrackedUnit),slf x u=some r→FSpec Tryz.prog 27 [(tredline_books.is x),(tapi_Unit.is u)] (tapi_TrackedUnit.is r))(x:api_Unit)(y:api_Unit)(c:redline_books)(r:api_TrackedUnit)(hm:M.redline_books_fresh_2 slf x y c=some r):FSpec Tryz.prog 56 [(tapi_Unit.is x),(tapi_Unit.is y),(tredline_books.ptr c)] (tapi_TrackedUnit.is r):=by
 unfold M.redline_books_fresh_2 at hm
 refine FSpec.of Tryz.func56 rfl rfl rfl fun g0=>Aw<|Ao rfl (.box (.t rfl))<|Ao rfl (.box (.t rfl))<|WL.opR rfl (OpR.alloc 5 ze33) fun b=>Ar<|Ao rfl (.load ty59 (.t rfl))<|Ao rfl (.load ty27 (.t rfl)) ?_
 obtain ⟨fresh,hv1,hm⟩:=Bs hm
 refine Ao rfl (.call C27 (ih _ _ _ hv1) ⟨(.t rfl),(.t rfl),trivial⟩)<|WL.opU (OpR.storeB (b:=b) 5 Z33 (Cellable.is tapi_TrackedUnit fresh) rfl (.t rfl) (.t rfl)) fun _=>WL.ns ?_
 cases hm
 exact W.retQ1 () rfl (ResAt.cell 5 Y33 Z33 rfl (.t rfl)) trivial
theorem redline_woven_api_Unit_api_Unit_api_TrackedUnit_spec(n:Nat)(a:List api_Unit)(b:List api_Unit)(pairs:List api_Pair)(goes:api_Unit→Option api_TrackedUnit)(comes:api_Unit→Option api_TrackedUnit)(stays:api_Unit→api_Unit→Option api_TrackedUnit)(r:List api_TrackedUnit)(hm:M.redline_woven_api_Unit_api_Unit_api_TrackedUnit n a b pairs goes comes stays=some r):FSpec Tryz.prog 54 [((tL tapi_Unit).is a),((tL tapi_Unit).is b),((tL tapi_Pair).is pairs),((tFun Tryz.prog (fun (f:api_Unit→Option api_TrackedUnit)=>(fun s:api_Unit×api_TrackedUnit=>f s.1=some s.2)) (fun s:api_Unit×api_TrackedUnit=>[tapi_Unit.is s.1]) (fun s:api_Unit×api_TrackedUnit=>(tapi_TrackedUnit.is s.2))).is goes),((tFun Tryz.prog (fun (f:api_Unit→Option api_TrackedUnit)=>(fun s:api_Unit×api_TrackedUnit=>f s.1=some s.2)) (fun s:api_Unit×api_TrackedUnit=>[tapi_Unit.is s.1]) (fun s:api_Unit×api_TrackedUnit=>(tapi_TrackedUnit.is s.2))).is comes),((tFun Tryz.prog (fun (f:api_Unit→api_Unit→Option api_TrackedUnit)=>(fun s:api_Unit×api_Unit×api_TrackedUnit=>f s.1 s.2.1=some s.2.2)) (fun s:api_Unit×api_Unit×api_TrackedUnit=>[tapi_Unit.is s.1,tapi_Unit.is s.2.1]) (fun s:api_Unit×api_Unit×api_TrackedUnit=>(tapi_TrackedUnit.is s.2.2))).is stays)] ((tL tapi_TrackedUnit).is r):=by
 unfold M.redline_woven_api_Unit_api_Unit_api_TrackedUnit at hm
 refine FSpec.of Tryz.func54 rfl rfl rfl fun g0=>Aw<|Ao rfl (.assign (.nil (t:=tapi_TrackedUnit)))<|Ar<|WL.addNil (t:=tapi_TrackedUnit) (E:=33) 13<|Ao rfl (.assign (Opd.nilO (t:=tapi_TrackedUnit)))<|Ar<|Ao rfl (.assign .i64)<|Ao rfl (.assign .i64)<|An<|W.seq<|Aw<|WL.mv rfl rfl ?_
 obtain ⟨pair,hv1,hm⟩:=Bs hm
 refine WL.opR rfl (OpR.call (us:=[]) C91 ((slices_Clone_api_Pair_api_Pair_spec _ _ hv1).rekey 19) rfl ⟨(.t rfl),trivial⟩) fun k=>Am rfl rfl<|Ao rfl (.lenL U25 (.t rfl))<|Am rfl rfl<|Ao rfl (.lenL U25 (.t rfl))<|Ao rfl (.build (s:=tapi_Pair) (x:=(⟨(a.length:Int),(b.length:Int)⟩:api_Pair)) zapi_Pair_f rfl U94 (zapi_Pair_sz _ U94) ze94 ⟨_,I6,(a.length:Int),_,_,rfl,Z3,(.t rfl),sapi_Pair_0,⟨_,I6,(b.length:Int),_,_,rfl,Z3,(.t rfl),sapi_Pair_1,rfl⟩⟩)<|Ao rfl (.buildSlice (n:=1) (ys:=[(0,(⟨(a.length:Int),(b.length:Int)⟩:api_Pair))]) (z:=zapi_Pair) (xs:=[(⟨(a.length:Int),(b.length:Int)⟩:api_Pair)]) U91 el94 ze94 ⟨rfl,(.t rfl),trivial⟩ (by simp) (by decide) rfl) ?_
 obtain ⟨out,hv2,hm⟩:=Bs hm
 refine WL.opR rfl (OpR.appC (key:=19) hv2 U91 el94 (.t rfl) (.t rfl) rfl) fun k1=>Ao rfl (.lenL U91 (Opd.own (.t rfl)))<|Ao rfl (.move .i64)<|An<|W.block ?_
 obtain ⟨s3,hs4,hk5⟩:=Bs hm
 clear hm
 refine W.loop (fun m (s:Int×List api_Pair×List api_Pair×(((List api_TrackedUnit)×Int×Int)×Tok))=>m=s.2.2.1.length∧out=s.2.1++s.2.2.1∧s.1=(s.2.1.length:Int)∧M.redline_woven_api_Unit_api_Unit_api_TrackedUnit_loop1 n a b goes comes stays s.2.2.1 s.2.2.2.1.1 s.2.2.2.1.2.1 s.2.2.2.1.2.2=some s3) (fun s=>[(28,(I6.is s.1)),(13,(tO tapi_TrackedUnit s.2.2.2.2 s.2.2.2.1.1)),(14,(I6.is s.2.2.2.1.2.1)),(15,(I6.is s.2.2.2.1.2.2)),(0,((tL tapi_Unit).is a)),(1,((tL tapi_Unit).is b)),(3,((tFun Tryz.prog (fun (f:api_Unit→Option api_TrackedUnit)=>(fun s:api_Unit×api_TrackedUnit=>f s.1=some s.2)) (fun s:api_Unit×api_TrackedUnit=>[tapi_Unit.is s.1]) (fun s:api_Unit×api_TrackedUnit=>(tapi_TrackedUnit.is s.2))).is goes)),(4,((tFun Tryz.prog (fun (f:api_Unit→Option api_TrackedUnit)=>(fun s:api_Unit×api_TrackedUnit=>f s.1=some s.2)) (fun s:api_Unit×api_TrackedUnit=>[tapi_Unit.is s.1]) (fun s:api_Unit×api_TrackedUnit=>(tapi_TrackedUnit.is s.2))).is comes)),(5,((tFun Tryz.prog (fun (f:api_Unit→api_Unit→Option api_TrackedUnit)=>(fun s:api_Unit×api_Unit×api_TrackedUnit=>f s.1 s.2.1=some s.2.2)) (fun s:api_Unit×api_Unit×api_TrackedUnit=>[tapi_Unit.is s.1,tapi_Unit.is s.2.1]) (fun s:api_Unit×api_Unit×api_TrackedUnit=>(tapi_TrackedUnit.is s.2.2))).is stays)),(26,(tO tapi_Pair k1 out)),(27,(I6.is (out.length:Int)))]) (fun s=>[(13,Dec.Own tapi_TrackedUnit 33 s.2.2.2.2 s.2.2.2.1.1.length),(19,Dec.Own tapi_Pair 94 k1 out.length)]) out.length ((0:Int),[],out,((([]:List api_TrackedUnit),(0:Int),(0:Int)),(none:Tok))) ⟨rfl,rfl,rfl,hs4⟩ ⟨.q rfl,.q rfl,.q rfl,.q rfl,.q rfl,.q rfl,.q rfl,.q rfl,.q rfl,.q rfl,.q rfl,trivial⟩ ⟨rfl,rfl,⟨rfl,rfl,trivial⟩⟩ ?_
 rintro m ⟨i1,pre,rest1,⟨⟨out1,i,k2⟩,k3⟩⟩ ⟨hn9,hxs6,hi7,hm⟩
 try dsimp only at hn9 hxs6 hi7 hm
 change W _ _ _ _ _ _ _ [(28,(I6.is i1)),(13,(tO tapi_TrackedUnit k3 out1)),(14,(I6.is i)),(15,(I6.is k2)),(0,((tL tapi_Unit).is a)),(1,((tL tapi_Unit).is b)),(3,((tFun Tryz.prog (fun (f:api_Unit→Option api_TrackedUnit)=>(fun s:api_Unit×api_TrackedUnit=>f s.1=some s.2)) (fun s:api_Unit×api_TrackedUnit=>[tapi_Unit.is s.1]) (fun s:api_Unit×api_TrackedUnit=>(tapi_TrackedUnit.is s.2))).is goes)),(4,((tFun Tryz.prog (fun (f:api_Unit→Option api_TrackedUnit)=>(fun s:api_Unit×api_TrackedUnit=>f s.1=some s.2)) (fun s:api_Unit×api_TrackedUnit=>[tapi_Unit.is s.1]) (fun s:api_Unit×api_TrackedUnit=>(tapi_TrackedUnit.is s.2))).is comes)),(5,((tFun Tryz.prog (fun (f:api_Unit→api_Unit→Option api_TrackedUnit)=>(fun s:api_Unit×api_Unit×api_TrackedUnit=>f s.1 s.2.1=some s.2.2)) (fun s:api_Unit×api_Unit×api_TrackedUnit=>[tapi_Unit.is s.1,tapi_Unit.is s.2.1]) (fun s:api_Unit×api_Unit×api_TrackedUnit=>(tapi_TrackedUnit.is s.2.2))).is stays)),(26,(tO tapi_Pair k1 out)),(27,(I6.is (out.length:Int)))] [(13,Dec.Own tapi_TrackedUnit 33 k3 out1.length),(19,Dec.Own tapi_Pair 94 k1 out.length)]
 refine W.lenL (s:=26) (Opd.own (.t rfl)) fun hlen8=>Aw<|Ao rfl (.ltI (.t rfl) (.t rfl))<|An<|W.seq<|W.cond (.t rfl) (fun hc11=>?_) (fun hc11=>?_)
 ·have hp12:=of_decide_eq_true hc11
  obtain ⟨e,es,hrest14⟩:=range_more hxs6 hi7 hp12
  subst hrest14
  rw [M.redline_woven_api_Unit_api_Unit_api_TrackedUnit_loop1.eq_2] at hm
  refine W.skip<|Aq<|W.seq<|W.block<|Aw<|Ao rfl (.idxPre hxs6 hi7 U91 Z94 (Opd.own (.t rfl)) (.t rfl))<|Ao rfl (.load ty94 (.t rfl))<|WL.opR rfl (OpR.alloc 17 ze94) fun b1=>WL.opU (OpR.storeB (b:=b1) 17 Z94 (Cellable.is tapi_Pair e) rfl (.t rfl) (.t rfl)) fun _=>WL.sealed (t:=tapi_Pair) (u:=e) 17 17 rfl rfl<|An<|W.seq<|W.block ?_
  obtain ⟨s15,hs16,hk17⟩:=Bs hm
  clear hm
  refine W.loop (fun m (s:((List api_TrackedUnit)×Int)×Tok)=>M.redline_woven_api_Unit_api_Unit_api_TrackedUnit_loop2 a goes e m s.1.1 s.1.2=some s15) (fun s=>[(13,(tO tapi_TrackedUnit s.2 s.1.1)),(14,(I6.is s.1.2)),(0,((tL tapi_Unit).is a)),(1,((tL tapi_Unit).is b)),(3,((tFun Tryz.prog (fun (f:api_Unit→Option api_TrackedUnit)=>(fun s:api_Unit×api_TrackedUnit=>f s.1=some s.2)) (fun s:api_Unit×api_TrackedUnit=>[tapi_Unit.is s.1]) (fun s:api_Unit×api_TrackedUnit=>(tapi_TrackedUnit.is s.2))).is goes)),(4,((tFun Tryz.prog (fun (f:api_Unit→Option api_TrackedUnit)=>(fun s:api_Unit×api_TrackedUnit=>f s.1=some s.2)) (fun s:api_Unit×api_TrackedUnit=>[tapi_Unit.is s.1]) (fun s:api_Unit×api_TrackedUnit=>(tapi_TrackedUnit.is s.2))).is comes)),(5,((tFun Tryz.prog (fun (f:api_Unit→api_Unit→Option api_TrackedUnit)=>(fun s:api_Unit×api_Unit×api_TrackedUnit=>f s.1 s.2.1=some s.2.2)) (fun s:api_Unit×api_Unit×api_TrackedUnit=>[tapi_Unit.is s.1,tapi_Unit.is s.2.1]) (fun s:api_Unit×api_Unit×api_TrackedUnit=>(tapi_TrackedUnit.is s.2.2))).is stays)),(15,(I6.is k2)),(17,(tapi_Pair.ptr e)),(26,(tO tapi_Pair k1 out)),(27,(I6.is (out.length:Int))),(28,(I6.is i1))]) (fun s=>[(13,Dec.Own tapi_TrackedUnit 33 s.2 s.1.1.length),(19,Dec.Own tapi_Pair 94 k1 out.length)]) _ ((out1,i),k3) hs16 ⟨.q rfl,.q rfl,.q rfl,.q rfl,.q rfl,.q rfl,.q rfl,.q rfl,.q rfl,.q rfl,.q rfl,.q rfl,trivial⟩ ⟨rfl,rfl,⟨rfl,rfl,trivial⟩⟩ ?_
  rintro n18 ⟨⟨out2,i2⟩,k4⟩ hm
  try dsimp only at hm
  change W _ _ _ _ _ _ _ [(13,(tO tapi_TrackedUnit k4 out2)),(14,(I6.is i2)),(0,((tL tapi_Unit).is a)),(1,((tL tapi_Unit).is b)),(3,((tFun Tryz.prog (fun (f:api_Unit→Option api_TrackedUnit)=>(fun s:api_Unit×api_TrackedUnit=>f s.1=some s.2)) (fun s:api_Unit×api_TrackedUnit=>[tapi_Unit.is s.1]) (fun s:api_Unit×api_TrackedUnit=>(tapi_TrackedUnit.is s.2))).is goes)),(4,((tFun Tryz.prog (fun (f:api_Unit→Option api_TrackedUnit)=>(fun s:api_Unit×api_TrackedUnit=>f s.1=some s.2)) (fun s:api_Unit×api_TrackedUnit=>[tapi_Unit.is s.1]) (fun s:api_Unit×api_TrackedUnit=>(tapi_TrackedUnit.is s.2))).is comes)),(5,((tFun Tryz.prog (fun (f:api_Unit→api_Unit→Option api_TrackedUnit)=>(fun s:api_Unit×api_Unit×api_TrackedUnit=>f s.1 s.2.1=some s.2.2)) (fun s:api_Unit×api_Unit×api_TrackedUnit=>[tapi_Unit.is s.1,tapi_Unit.is s.2.1]) (fun s:api_Unit×api_Unit×api_TrackedUnit=>(tapi_TrackedUnit.is s.2.2))).is stays)),(15,(I6.is k2)),(17,(tapi_Pair.ptr e)),(26,(tO tapi_Pair k1 out)),(27,(I6.is (out.length:Int))),(28,(I6.is i1))] [(13,Dec.Own tapi_TrackedUnit 33 k4 out2.length),(19,Dec.Own tapi_Pair 94 k1 out.length)]
  cases n18 with
  | zero=>rw [M.redline_woven_api_Unit_api_Unit_api_TrackedUnit_loop2.eq_1] at hm;cases hm
  | succ n18=>
   rw [M.redline_woven_api_Unit_api_Unit_api_TrackedUnit_loop2.eq_2] at hm
   refine W.seq<|Aw<|Am rfl rfl<|Ao rfl (.fieldAddr U94 rfl J3 fapi_Pair_0 (.t rfl))<|Ao rfl (.load ty3 (.t rfl))<|Ao rfl (.ltI (.t rfl) (.t rfl))<|An<|W.cD hm (.t rfl) (fun hp20 hm=>?_) (fun hp20 hm=>?_)
   ·refine W.skip<|Aq<|W.seq<|W.block<|W.region<|Am rfl rfl<|Am rfl rfl<|Am rfl rfl<|WL.mv rfl rfl ?_
    obtain ⟨v,hv21,hm⟩:=Bs hm
    refine Ao rfl (.idx hv21 U25 Z27 (.t rfl) (.t rfl))<|Ao rfl (.load ty27 (.t rfl)) ?_
    obtain ⟨v1,hv22,hm⟩:=Bs hm
    refine Ao rfl (.callFun (ok:=(fun (f:api_Unit→Option api_TrackedUnit)=>(fun s:api_Unit×api_TrackedUnit=>f s.1=some s.2))) (As:=(fun s:api_Unit×api_TrackedUnit=>[tapi_Unit.is s.1])) (A:=(fun s:api_Unit×api_TrackedUnit=>(tapi_TrackedUnit.is s.2))) (f:=goes) (s:=(v,v1)) (.t rfl) hv22 ⟨(.t rfl),trivial⟩)<|Ao rfl (.buildSlice (n:=1) (ys:=[(0,v1)]) (z:=zapi_TrackedUnit) (xs:=[v1]) U31 el33 ze33 ⟨rfl,(.t rfl),trivial⟩ (by simp) (by decide) rfl) ?_
    obtain ⟨out3,hv23,hm⟩:=Bs hm
    refine WL.opR rfl (OpR.appC (key:=13) hv23 U31 el33 (.t rfl) (.t rfl) rfl) fun k5=>Ag rfl rfl<|WL.nil<|WN.block<|Aq<|W.region<|WL.mv rfl rfl ?_
    obtain ⟨v2,hv24,hm⟩:=Bs hm
    exact Ao rfl (.addC hv24 (.t rfl) .i64)<|Ag rfl rfl<|WL.nil<|WN.again n18 ((out3,v2),k5) (Nat.lt_succ_self n18) hm ⟨.q rfl,.q rfl,.q rfl,.q rfl,.q rfl,.q rfl,.q rfl,.q rfl,.q rfl,.q rfl,.q rfl,.q rfl,trivial⟩ ⟨rfl,rfl,⟨rfl,rfl,trivial⟩⟩
   ·refine W.exit rfl ?_
    have hr25:=Si hm
    clear hm
    subst hr25
    have hm:=hk17
    try dsimp only at hm
    refine Aq<|W.seq<|W.block ?_
    obtain ⟨s26,hs27,hk28⟩:=Bs hm
    clear hm
    refine W.loop (fun m (s:((List api_TrackedUnit)×Int)×Tok)=>M.redline_woven_api_Unit_api_Unit_api_TrackedUnit_loop3 b comes e m s.1.1 s.1.2=some s26) (fun s=>[(13,(tO tapi_TrackedUnit s.2 s.1.1)),(15,(I6.is s.1.2)),(0,((tL tapi_Unit).is a)),(1,((tL tapi_Unit).is b)),(3,((tFun Tryz.prog (fun (f:api_Unit→Option api_TrackedUnit)=>(fun s:api_Unit×api_TrackedUnit=>f s.1=some s.2)) (fun s:api_Unit×api_TrackedUnit=>[tapi_Unit.is s.1]) (fun s:api_Unit×api_TrackedUnit=>(tapi_TrackedUnit.is s.2))).is goes)),(4,((tFun Tryz.prog (fun (f:api_Unit→Option api_TrackedUnit)=>(fun s:api_Unit×api_TrackedUnit=>f s.1=some s.2)) (fun s:api_Unit×api_TrackedUnit=>[tapi_Unit.is s.1]) (fun s:api_Unit×api_TrackedUnit=>(tapi_TrackedUnit.is s.2))).is comes)),(5,((tFun Tryz.prog (fun (f:api_Unit→api_Unit→Option api_TrackedUnit)=>(fun s:api_Unit×api_Unit×api_TrackedUnit=>f s.1 s.2.1=some s.2.2)) (fun s:api_Unit×api_Unit×api_TrackedUnit=>[tapi_Unit.is s.1,tapi_Unit.is s.2.1]) (fun s:api_Unit×api_Unit×api_TrackedUnit=>(tapi_TrackedUnit.is s.2.2))).is stays)),(14,(I6.is i2)),(17,(tapi_Pair.ptr e)),(26,(tO tapi_Pair k1 out)),(27,(I6.is (out.length:Int))),(28,(I6.is i1))]) (fun s=>[(13,Dec.Own tapi_TrackedUnit 33 s.2 s.1.1.length),(19,Dec.Own tapi_Pair 94 k1 out.length)]) _ ((out2,k2),k4) hs27 ⟨.q rfl,.q rfl,.q rfl,.q rfl,.q rfl,.q rfl,.q rfl,.q rfl,.q rfl,.q rfl,.q rfl,.q rfl,trivial⟩ ⟨rfl,rfl,⟨rfl,rfl,trivial⟩⟩ ?_
    rintro n29 ⟨⟨out4,k6⟩,k7⟩ hm
    try dsimp only at hm
    change W _ _ _ _ _ _ _ [(13,(tO tapi_TrackedUnit k7 out4)),(15,(I6.is k6)),(0,((tL tapi_Unit).is a)),(1,((tL tapi_Unit).is b)),(3,((tFun Tryz.prog (fun (f:api_Unit→Option api_TrackedUnit)=>(fun s:api_Unit×api_TrackedUnit=>f s.1=some s.2)) (fun s:api_Unit×api_TrackedUnit=>[tapi_Unit.is s.1]) (fun s:api_Unit×api_TrackedUnit=>(tapi_TrackedUnit.is s.2))).is goes)),(4,((tFun Tryz.prog (fun (f:api_Unit→Option api_TrackedUnit)=>(fun s:api_Unit×api_TrackedUnit=>f s.1=some s.2)) (fun s:api_Unit×api_TrackedUnit=>[tapi_Unit.is s.1]) (fun s:api_Unit×api_TrackedUnit=>(tapi_TrackedUnit.is s.2))).is comes)),(5,((tFun Tryz.prog (fun (f:api_Unit→api_Unit→Option api_TrackedUnit)=>(fun s:api_Unit×api_Unit×api_TrackedUnit=>f s.1 s.2.1=some s.2.2)) (fun s:api_Unit×api_Unit×api_TrackedUnit=>[tapi_Unit.is s.1,tapi_Unit.is s.2.1]) (fun s:api_Unit×api_Unit×api_TrackedUnit=>(tapi_TrackedUnit.is s.2.2))).is stays)),(14,(I6.is i2)),(17,(tapi_Pair.ptr e)),(26,(tO tapi_Pair k1 out)),(27,(I6.is (out.length:Int))),(28,(I6.is i1))] [(13,Dec.Own tapi_TrackedUnit 33 k7 out4.length),(19,Dec.Own tapi_Pair 94 k1 out.length)]
    cases n29 with
    | zero=>rw [M.redline_woven_api_Unit_api_Unit_api_TrackedUnit_loop3.eq_1] at hm;cases hm
    | succ n29=>
     rw [M.redline_woven_api_Unit_api_Unit_api_TrackedUnit_loop3.eq_2] at hm
     refine W.seq<|Aw<|Am rfl rfl<|Ao rfl (.fieldAddr U94 rfl J3 fapi_Pair_1 (.t rfl))<|Ao rfl (.load ty3 (.t rfl))<|Ao rfl (.ltI (.t rfl) (.t rfl))<|An<|W.cD hm (.t rfl) (fun hp31 hm=>?_) (fun hp31 hm=>?_)
     ·refine W.skip<|Aq<|W.seq<|W.block<|W.region<|Am rfl rfl<|Am rfl rfl<|Am rfl rfl<|WL.mv rfl rfl ?_
      obtain ⟨v3,hv32,hm⟩:=Bs hm
      refine Ao rfl (.idx hv32 U25 Z27 (.t rfl) (.t rfl))<|Ao rfl (.load ty27 (.t rfl)) ?_
      obtain ⟨v4,hv33,hm⟩:=Bs hm
      refine Ao rfl (.callFun (ok:=(fun (f:api_Unit→Option api_TrackedUnit)=>(fun s:api_Unit×api_TrackedUnit=>f s.1=some s.2))) (As:=(fun s:api_Unit×api_TrackedUnit=>[tapi_Unit.is s.1])) (A:=(fun s:api_Unit×api_TrackedUnit=>(tapi_TrackedUnit.is s.2))) (f:=comes) (s:=(v3,v4)) (.t rfl) hv33 ⟨(.t rfl),trivial⟩)<|Ao rfl (.buildSlice (n:=1) (ys:=[(0,v4)]) (z:=zapi_TrackedUnit) (xs:=[v4]) U31 el33 ze33 ⟨rfl,(.t rfl),trivial⟩ (by simp) (by decide) rfl) ?_
      obtain ⟨out5,hv34,hm⟩:=Bs hm
      refine WL.opR rfl (OpR.appC (key:=13) hv34 U31 el33 (.t rfl) (.t rfl) rfl) fun k8=>Ag rfl rfl<|WL.nil<|WN.block<|Aq<|W.region<|WL.mv rfl rfl ?_
      obtain ⟨v5,hv35,hm⟩:=Bs hm
      exact Ao rfl (.addC hv35 (.t rfl) .i64)<|Ag rfl rfl<|WL.nil<|WN.again n29 ((out5,v5),k8) (Nat.lt_succ_self n29) hm ⟨.q rfl,.q rfl,.q rfl,.q rfl,.q rfl,.q rfl,.q rfl,.q rfl,.q rfl,.q rfl,.q rfl,.q rfl,trivial⟩ ⟨rfl,rfl,⟨rfl,rfl,trivial⟩⟩
     ·refine W.exit rfl ?_
      have hr36:=Si hm
      clear hm
      subst hr36
      have hm:=hk28
      try dsimp only at hm
      refine WN.seq ?_
      obtain ⟨s37,hs38,hk39⟩:=Bs hm
      clear hm
      refine W.join (fun s:Bool=>s=s37) (fun s=>[(73,(tB.is s)),(0,((tL tapi_Unit).is a)),(1,((tL tapi_Unit).is b)),(3,((tFun Tryz.prog (fun (f:api_Unit→Option api_TrackedUnit)=>(fun s:api_Unit×api_TrackedUnit=>f s.1=some s.2)) (fun s:api_Unit×api_TrackedUnit=>[tapi_Unit.is s.1]) (fun s:api_Unit×api_TrackedUnit=>(tapi_TrackedUnit.is s.2))).is goes)),(4,((tFun Tryz.prog (fun (f:api_Unit→Option api_TrackedUnit)=>(fun s:api_Unit×api_TrackedUnit=>f s.1=some s.2)) (fun s:api_Unit×api_TrackedUnit=>[tapi_Unit.is s.1]) (fun s:api_Unit×api_TrackedUnit=>(tapi_TrackedUnit.is s.2))).is comes)),(5,((tFun Tryz.prog (fun (f:api_Unit→api_Unit→Option api_TrackedUnit)=>(fun s:api_Unit×api_Unit×api_TrackedUnit=>f s.1 s.2.1=some s.2.2)) (fun s:api_Unit×api_Unit×api_TrackedUnit=>[tapi_Unit.is s.1,tapi_Unit.is s.2.1]) (fun s:api_Unit×api_Unit×api_TrackedUnit=>(tapi_TrackedUnit.is s.2.2))).is stays)),(13,(tO tapi_TrackedUnit k7 out4)),(14,(I6.is i2)),(15,(I6.is k6)),(26,(tO tapi_Pair k1 out)),(27,(I6.is (out.length:Int))),(28,(I6.is i1))]) (fun s=>[(13,Dec.Own tapi_TrackedUnit 33 k7 out4.length),(19,Dec.Own tapi_Pair 94 k1 out.length)]) ?_ ?_
      ·rintro v6 hj50
       try dsimp only at hj50
       subst hj50
       have hm:=hk39
       clear hk39
       try dsimp only at hm
       change W _ _ _ _ _ _ _ [(73,(tB.is v6)),(0,((tL tapi_Unit).is a)),(1,((tL tapi_Unit).is b)),(3,((tFun Tryz.prog (fun (f:api_Unit→Option api_TrackedUnit)=>(fun s:api_Unit×api_TrackedUnit=>f s.1=some s.2)) (fun s:api_Unit×api_TrackedUnit=>[tapi_Unit.is s.1]) (fun s:api_Unit×api_TrackedUnit=>(tapi_TrackedUnit.is s.2))).is goes)),(4,((tFun Tryz.prog (fun (f:api_Unit→Option api_TrackedUnit)=>(fun s:api_Unit×api_TrackedUnit=>f s.1=some s.2)) (fun s:api_Unit×api_TrackedUnit=>[tapi_Unit.is s.1]) (fun s:api_Unit×api_TrackedUnit=>(tapi_TrackedUnit.is s.2))).is comes)),(5,((tFun Tryz.prog (fun (f:api_Unit→api_Unit→Option api_TrackedUnit)=>(fun s:api_Unit×api_Unit×api_TrackedUnit=>f s.1 s.2.1=some s.2.2)) (fun s:api_Unit×api_Unit×api_TrackedUnit=>[tapi_Unit.is s.1,tapi_Unit.is s.2.1]) (fun s:api_Unit×api_Unit×api_TrackedUnit=>(tapi_TrackedUnit.is s.2.2))).is stays)),(13,(tO tapi_TrackedUnit k7 out4)),(14,(I6.is i2)),(15,(I6.is k6)),(26,(tO tapi_Pair k1 out)),(27,(I6.is (out.length:Int))),(28,(I6.is i1))] [(13,Dec.Own tapi_TrackedUnit 33 k7 out4.length),(19,Dec.Own tapi_Pair 94 k1 out.length)]
       refine W.cB hm (.t rfl) (fun hp43 hm=>?_) (fun hp43 hm=>?_)
       ·refine W.seq ?_
        obtain ⟨v7,hv44,hm⟩:=Bs hm
        obtain ⟨v8,hv45,hm⟩:=Bs hm
        obtain ⟨v9,hv46,hm⟩:=Bs hm
        obtain ⟨out6,hv47,hm⟩:=Bs hm
        refine W.drawR [.c (tO tapi_TrackedUnit k7 out4),.c ((tFun Tryz.prog (fun (f:api_Unit→api_Unit→Option api_TrackedUnit)=>(fun s:api_Unit×api_Unit×api_TrackedUnit=>f s.1 s.2.1=some s.2.2)) (fun s:api_Unit×api_Unit×api_TrackedUnit=>[tapi_Unit.is s.1,tapi_Unit.is s.2.1]) (fun s:api_Unit×api_Unit×api_TrackedUnit=>(tapi_TrackedUnit.is s.2.2))).is stays),.c ((tL tapi_Unit).is a),.c (I6.is i2),.c (tapi_Unit.ptr v7),.c (tapi_Unit.is v7),.c ((tL tapi_Unit).is b),.c (I6.is k6),.c (tapi_Unit.ptr v8),.c (tapi_Unit.is v8),.c (tapi_TrackedUnit.is v9),.c ((tL tapi_TrackedUnit).is [v9]),.f (fun k9=>(tO tapi_TrackedUnit k9 out6)),.f (fun k9=>(tO tapi_TrackedUnit k9 out6))] [([],[13]),([],[5]),([],[0]),([],[14]),([2,3],[]),([4],[]),([],[1]),([],[15]),([6,7],[]),([8],[]),([1,5,9],[]),([10],[]),([0,11],[]),([12],[])] 12 [13] (fun k:Tok=>tO tapi_TrackedUnit k out6) (fun k:Tok=>[(13,Dec.Own tapi_TrackedUnit 33 k out6.length)]) (none:Tok) Mx rfl rfl rfl (fun k9=>⟨.inr (Op1.move (.t rfl)),.inr (Op1.move (.t rfl)),.inr (Op1.move (.t rfl)),.inr (Op1.move (.t rfl)),.inr (Op1.idx hv44 U25 Z27 (.t rfl) (.t rfl)),.inr (Op1.load ty27 (.t rfl)),.inr (Op1.move (.t rfl)),.inr (Op1.move (.t rfl)),.inr (Op1.idx hv45 U25 Z27 (.t rfl) (.t rfl)),.inr (Op1.load ty27 (.t rfl)),.inr (Op1.callFun (ok:=(fun (f:api_Unit→api_Unit→Option api_TrackedUnit)=>(fun s:api_Unit×api_Unit×api_TrackedUnit=>f s.1 s.2.1=some s.2.2))) (As:=(fun s:api_Unit×api_Unit×api_TrackedUnit=>[tapi_Unit.is s.1,tapi_Unit.is s.2.1])) (A:=(fun s:api_Unit×api_Unit×api_TrackedUnit=>(tapi_TrackedUnit.is s.2.2))) (f:=stays) (s:=(v7,v8,v9)) (.t rfl) hv46 ⟨(.t rfl),(.t rfl),trivial⟩),.inr (Op1.buildSlice (n:=1) (ys:=[(0,v9)]) (z:=zapi_TrackedUnit) (xs:=[v9]) U31 el33 ze33 ⟨rfl,(.t rfl),trivial⟩ (by simp) (by decide) rfl),.inl rfl,.inr (Op1.assign (.t rfl)),trivial⟩) (.inl ⟨by decide,_,_,rfl,rfl,rfl,rfl,OpR.appC (key:=13) hv47 U31 el33 (.t rfl) (.t rfl) rfl⟩) fun k9=>Aq<|W.region<|WL.mv rfl rfl ?_
        obtain ⟨v10,hv48,hm⟩:=Bs hm
        refine Ao rfl (.addC hv48 (.t rfl) .i64)<|WL.mv rfl rfl ?_
        obtain ⟨v11,hv49,hm⟩:=Bs hm
        exact Ao rfl (.addC hv49 (.t rfl) .i64)<|Ag rfl rfl<|Ag rfl rfl<|WL.nil<|WN.block<|Aq<|W.region<|Ao rfl (.addI (.t rfl) .i64 (range_inR hi7 hp12 hlen8))<|Am rfl rfl<|WL.nil<|WN.again es.length (i1+1,pre++ [e],es,((out6,v10,v11),k9)) (range_lt hn9) ⟨rfl,range_step hxs6,range_idx hi7,hm⟩ ⟨.q rfl,.q rfl,.q rfl,.q rfl,.q rfl,.q rfl,.q rfl,.q rfl,.q rfl,.q rfl,.q rfl,trivial⟩ ⟨rfl,rfl,⟨rfl,rfl,trivial⟩⟩
       ·exact W.skip<|WN.block<|Aq<|W.region<|Ao rfl (.addI (.t rfl) .i64 (range_inR hi7 hp12 hlen8))<|Am rfl rfl<|WL.nil<|WN.again es.length (i1+1,pre++ [e],es,((out4,i2,k6),k7)) (range_lt hn9) ⟨rfl,range_step hxs6,range_idx hi7,hm⟩ ⟨.q rfl,.q rfl,.q rfl,.q rfl,.q rfl,.q rfl,.q rfl,.q rfl,.q rfl,.q rfl,.q rfl,trivial⟩ ⟨rfl,rfl,⟨rfl,rfl,trivial⟩⟩
      ·have hm:=hs38
       clear hs38
       refine W.region<|Ao rfl (.fieldAddr U94 rfl J3 fapi_Pair_0 (.t rfl))<|Ao rfl (.load ty3 (.t rfl))<|Am rfl rfl<|Ao rfl (.lenL U25 (.t rfl))<|Ao rfl (.ltI (.t rfl) (.t rfl))<|WL.mv rfl rfl ?_
       rcases iteD hm with ⟨hp41,hb40,hm⟩ | ⟨hp41,hb40,hm⟩
       ·exact Ax rfl hb40 (.fieldAddr U94 rfl J3 fapi_Pair_1 (.t rfl))<|Ax rfl hb40 (.load ty3 (.t rfl))<|Ax rfl hb40 (.move (.t rfl))<|Ax rfl hb40 (.lenL U25 (.t rfl))<|Ax rfl hb40 (.ltI (.t rfl) (.t rfl))<|Ao rfl (.pickT (.t rfl) hb40 (.t rfl))<|WL.nil<|WN.meet (decide (e.B<(b.length:Int))) (Si hm) ⟨.q rfl,.q rfl,.q rfl,.q rfl,.q rfl,.q rfl,.q rfl,.q rfl,.q rfl,.q rfl,.q rfl,.q rfl,trivial⟩ ⟨rfl,rfl,⟨rfl,rfl,trivial⟩⟩
       ·exact Ap rfl hb40<|Ap rfl hb40<|Ap rfl hb40<|Ap rfl hb40<|Ap rfl hb40<|Ao rfl (.pickF (.t rfl) hb40 .bool)<|WL.nil<|WN.meet false (Si hm) ⟨.q rfl,.q rfl,.q rfl,.q rfl,.q rfl,.q rfl,.q rfl,.q rfl,.q rfl,.q rfl,.q rfl,.q rfl,trivial⟩ ⟨rfl,rfl,⟨rfl,rfl,trivial⟩⟩
 ·have hrest14:=range_end hxs6 hi7 (of_decide_eq_false hc11)
  subst hrest14
  rw [M.redline_woven_api_Unit_api_Unit_api_TrackedUnit_loop1.eq_1] at hm
  refine W.exit rfl ?_
  have hr51:=Si hm
  clear hm
  subst hr51
  have hm:=hk5
  try dsimp only at hm
  refine Aq<|Aw<|Am rfl rfl<|Ag rfl rfl<|WL.ns ?_
  cases hm
  exact W.ret1 () rfl (Opd.own (.t rfl)) trivial
theorem redline_books_fresh_spec:∀ (n:Nat) (x:redline_books) (u:api_Unit) (r:api_TrackedUnit),M.redline_books_fresh n x u=some r→FSpec Tryz.prog 27 [(tredline_books.is x),(tapi_Unit.is u)] (tapi_TrackedUnit.is r):=by
 intro n
 induction n with
 | zero=>intro x u r hm;cases hm
 | succ n ih=>
  intro x u r hm
  rw [M.redline_books_fresh.eq_2] at hm
  refine FSpec.of Tryz.func27 rfl rfl rfl fun g0=>Aw<|Ao rfl (.box (.t rfl))<|Ao rfl (.box (.t rfl))<|WL.opR rfl (OpR.alloc 4 ze33) fun b=>Ar<|Ao rfl (.fieldAddr Tryz.underlying59 rfl J56 fredline_books_0 (.t rfl))<|Ao rfl (.load ty56 (.t rfl))<|Ao rfl (.fieldAddr U27 rfl J23 fapi_Unit_0 (.t rfl))<|Ao rfl (.load ty23 (.t rfl))<|Ao rfl (.lookupSOkQ U56 kt23 ze27 (.t rfl) (.t rfl))<|Am rfl rfl<|Ao rfl (.extract0 (.t rfl))<|Ao rfl (.extract1 (.t rfl))<|WL.opR rfl (OpR.alloc 5 ze27) fun b1=>WL.opU (OpR.storeB (b:=b1) 5 Z27 (Cellable.is tapi_Unit ((mget x.a_ u.Id zapi_Unit,mhas x.a_ u.Id).1)) rfl (.t rfl) (.t rfl)) (fun _=>?_)
  refine WL.sealed (t:=tapi_Unit) (u:=((mget x.a_ u.Id zapi_Unit,mhas x.a_ u.Id).1)) 5 5 rfl rfl<|Ag rfl rfl<|An<|W.seq ?_
  obtain ⟨words,hv1,hm⟩:=Bs hm
  obtain ⟨words1,hv2,hm⟩:=Bs hm
  refine W.weakR (res':=[(4,(Bx 11 true 33 (tapi_TrackedUnit.is zapi_TrackedUnit) b))]) ⟨rfl,rfl,trivial⟩<|W.drawM [.c (I6.ptr u.Kind),.c (I6.is u.Kind),.c (tapi_Id.ptr u.Id),.c (tapi_Id.is u.Id),.c (tS.ptr u.Label),.c (tS.is u.Label),.c ((tL tapi_Word).ptr (((mget x.a_ u.Id zapi_Unit,mhas x.a_ u.Id).1).Head)),.c ((tL tapi_Word).is (((mget x.a_ u.Id zapi_Unit,mhas x.a_ u.Id).1).Head)),.c ((tL tapi_Word).ptr u.Head),.c ((tL tapi_Word).is u.Head),.c ((tL tapi_TrackedWord).is words),.c ((tL tapi_Word).ptr (((mget x.a_ u.Id zapi_Unit,mhas x.a_ u.Id).1).Words)),.c ((tL tapi_Word).is (((mget x.a_ u.Id zapi_Unit,mhas x.a_ u.Id).1).Words)),.c ((tL tapi_Word).ptr u.Words),.c ((tL tapi_Word).is u.Words),.c ((tL tapi_TrackedWord).is words1),.c ((tQ tapi_Id tB).ptr x.moved_),.c ((tQ tapi_Id tB).is x.moved_),.c (tapi_Id.ptr u.Id),.c (tapi_Id.is u.Id),.c (tB.is (mget x.moved_ u.Id false)),.c (tapi_TrackedUnit.is (⟨(0:Int),u.Kind,u.Id,u.Label,([]:Str),mget x.moved_ u.Id false,words,words1,([]:List api_TrackedUnit)⟩:api_TrackedUnit)),.f (fun cv=>(Bp (bk (cv 0)) 0)),.c Asn.any] [([],[3]),([0],[]),([],[3]),([2],[]),([],[3]),([4],[]),([],[5]),([6],[]),([],[3]),([8],[]),([7,9],[]),([],[5]),([11],[]),([],[3]),([13],[]),([12,14],[]),([],[2]),([16],[]),([],[3]),([18],[]),([17,19],[]),([1,3,5,10,15,20],[]),([],[]),([21,22],[])] [22,23] [[],[],[],[],[],[],[],[],[],[],[],[],[],[],[],[],[],[],[],[],[],[],[true],[]] (fun m cv=>match m with | 0=>[(4,(Bx 11 true 33 (tapi_TrackedUnit.is zapi_TrackedUnit) b))] | 1=>[(7,(Bx 11 true 33 (tapi_TrackedUnit.is zapi_TrackedUnit) (bk (cv 0)))),(4,(Bx 11 true 33 (tapi_TrackedUnit.is zapi_TrackedUnit) b))] | _=>[(7,(Bx 11 true 33 (tapi_TrackedUnit.is (⟨(0:Int),u.Kind,u.Id,u.Label,([]:Str),mget x.moved_ u.Id false,words,words1,([]:List api_TrackedUnit)⟩:api_TrackedUnit)) (bk (cv 0)))),(4,(Bx 11 true 33 (tapi_TrackedUnit.is zapi_TrackedUnit) b))]) (fun _=>none) Mx rfl rfl rfl rfl rfl ⟨fun _ _ _ _=>rfl,⟨fun _ _ _ _=>rfl,⟨fun _ _ _ _=>rfl,⟨fun _ _ _ _=>rfl,⟨fun _ _ _ _=>rfl,⟨fun _ _ _ _=>rfl,⟨fun _ _ _ _=>rfl,⟨fun _ _ _ _=>rfl,⟨fun _ _ _ _=>rfl,⟨fun _ _ _ _=>rfl,⟨fun _ _ _ _=>rfl,⟨fun _ _ _ _=>rfl,⟨fun _ _ _ _=>rfl,⟨fun _ _ _ _=>rfl,⟨fun _ _ _ _=>rfl,⟨fun _ _ _ _=>rfl,⟨fun _ _ _ _=>rfl,⟨fun _ _ _ _=>rfl,⟨fun _ _ _ _=>rfl,⟨fun _ _ _ _=>rfl,⟨fun _ _ _ _=>rfl,⟨fun _ _ _ _=>rfl,⟨fun m hm c t=>by simp only [DA.at,upd_dep (r:=[true]) (j:=0) rfl hm],⟨fun _ _ _ _=>rfl,trivial⟩⟩⟩⟩⟩⟩⟩⟩⟩⟩⟩⟩⟩⟩⟩⟩⟩⟩⟩⟩⟩⟩⟩⟩ rfl ⟨mo fun cv=>Op1.fieldAddr U27 rfl J3 fapi_Unit_1 (.t rfl),⟨mo fun cv=>Op1.load ty3 (.t rfl),⟨mo fun cv=>Op1.fieldAddr U27 rfl J23 fapi_Unit_0 (.t rfl),⟨mo fun cv=>Op1.load ty23 (.t rfl),⟨mo fun cv=>Op1.fieldAddr U27 rfl J9 fapi_Unit_2 (.t rfl),⟨mo fun cv=>Op1.load ty9 (.t rfl),⟨mo fun cv=>Op1.fieldAddr U27 rfl J24 fapi_Unit_3 (.t rfl),⟨mo fun cv=>Op1.load ty24 (.t rfl),⟨mo fun cv=>Op1.fieldAddr U27 rfl J24 fapi_Unit_3 (.t rfl),⟨mo fun cv=>Op1.load ty24 (.t rfl),⟨mo fun cv=>Op1.call C51 (redline_words_spec _ _ _ _ hv1) ⟨(.t rfl),(.t rfl),trivial⟩,⟨mo fun cv=>Op1.fieldAddr U27 rfl J24 fapi_Unit_4 (.t rfl),⟨mo fun cv=>Op1.load ty24 (.t rfl),⟨mo fun cv=>Op1.fieldAddr U27 rfl J24 fapi_Unit_4 (.t rfl),⟨mo fun cv=>Op1.load ty24 (.t rfl),⟨mo fun cv=>Op1.call C51 (redline_words_spec _ _ _ _ hv2) ⟨(.t rfl),(.t rfl),trivial⟩,⟨mo fun cv=>Op1.fieldAddr Tryz.underlying59 rfl J57 fredline_books_2 (.t rfl),⟨mo fun cv=>Op1.load ty57 (.t rfl),⟨mo fun cv=>Op1.fieldAddr U27 rfl J23 fapi_Unit_0 (.t rfl),⟨mo fun cv=>Op1.load ty23 (.t rfl),⟨mo fun cv=>Op1.lookupSQ U57 kt23 ze4 (.t rfl) (.t rfl),⟨mo fun cv=>Op1.build (s:=tapi_TrackedUnit) (x:=(⟨(0:Int),u.Kind,u.Id,u.Label,([]:Str),mget x.moved_ u.Id false,words,words1,([]:List api_TrackedUnit)⟩:api_TrackedUnit)) zapi_TrackedUnit_f rfl U33 (zapi_TrackedUnit_sz _ U33) ze33 ⟨_,I6,u.Kind,_,_,rfl,Z3,(.t rfl),sapi_TrackedUnit_1,⟨_,tapi_Id,u.Id,_,_,rfl,Z23,(.t rfl),sapi_TrackedUnit_2,⟨_,tS,u.Label,_,_,rfl,Z9,(.t rfl),sapi_TrackedUnit_3,⟨_,(tL tapi_TrackedWord),words,_,_,rfl,Z30,(.t rfl),sapi_TrackedUnit_6,⟨_,(tL tapi_TrackedWord),words1,_,_,rfl,Z30,(.t rfl),sapi_TrackedUnit_7,⟨_,tB,(mget x.moved_ u.Id false),_,_,rfl,Z4,(.t rfl),sapi_TrackedUnit_5,rfl⟩⟩⟩⟩⟩⟩,⟨.inl rfl,⟨.inl rfl,trivial⟩⟩⟩⟩⟩⟩⟩⟩⟩⟩⟩⟩⟩⟩⟩⟩⟩⟩⟩⟩⟩⟩⟩⟩ ⟨⟨_,_,_,[],(fun cv=>[(7,(Bx 11 true 33 (tapi_TrackedUnit.is zapi_TrackedUnit) (bk (cv 0))))]),rfl,rfl,rfl,rfl,fun _=>rfl,fun _ _=>rfl,fun cv=>OpR.viaB (OpR.alloc 7 ze33)⟩,⟨⟨_,_,_,[7],(fun cv=>[(7,(Bx 11 true 33 (tapi_TrackedUnit.is (⟨(0:Int),u.Kind,u.Id,u.Label,([]:Str),mget x.moved_ u.Id false,words,words1,([]:List api_TrackedUnit)⟩:api_TrackedUnit)) (bk (cv 0))))]),rfl,rfl,rfl,rfl,fun _=>rfl,fun _ _=>rfl,fun cv=>OpR.viaU (OpR.storeB (b:=(bk (cv 0))) 7 Z33 (Cellable.is tapi_TrackedUnit (⟨(0:Int),u.Kind,u.Id,u.Label,([]:Str),mget x.moved_ u.Id false,words,words1,([]:List api_TrackedUnit)⟩:api_TrackedUnit)) rfl (.t rfl) (.t rfl))⟩,trivial⟩⟩ fun cv=>WN.seq ?_
  obtain ⟨s3,hs4,hk5⟩:=Bs hm
  clear hm
  refine W.join (fun s:api_TrackedUnit=>s=s3) (fun s=>[(2,(tredline_books.ptr x)),(3,(tapi_Unit.ptr u)),(4,(Bp b 0)),(5,(tapi_Unit.ptr ((mget x.a_ u.Id zapi_Unit,mhas x.a_ u.Id).1))),(6,(tB.is ((mget x.a_ u.Id zapi_Unit,mhas x.a_ u.Id).2))),(7,(Bp (bk (cv 0)) 0))]) (fun s=>[(7,(Bx 11 true 33 (tapi_TrackedUnit.is s) (bk (cv 0)))),(4,(Bx 11 true 33 (tapi_TrackedUnit.is zapi_TrackedUnit) b))]) ?_ ?_
  ·rintro t hj42
   try dsimp only at hj42
   subst hj42
   have hm:=hk5
   clear hk5
   try dsimp only at hm
   change W _ _ _ _ _ _ _ [(2,(tredline_books.ptr x)),(3,(tapi_Unit.ptr u)),(4,(Bp b 0)),(5,(tapi_Unit.ptr ((mget x.a_ u.Id zapi_Unit,mhas x.a_ u.Id).1))),(6,(tB.is ((mget x.a_ u.Id zapi_Unit,mhas x.a_ u.Id).2))),(7,(Bp (bk (cv 0)) 0))] [(7,(Bx 11 true 33 (tapi_TrackedUnit.is t) (bk (cv 0)))),(4,(Bx 11 true 33 (tapi_TrackedUnit.is zapi_TrackedUnit) b))]
   obtain ⟨s10,hs11,hk12⟩:=Bs hm
   clear hm
   refine W.join (fun s:api_TrackedUnit=>s=s10) (fun s=>[(2,(tredline_books.ptr x)),(3,(tapi_Unit.ptr u)),(4,(Bp b 0)),(5,(tapi_Unit.ptr ((mget x.a_ u.Id zapi_Unit,mhas x.a_ u.Id).1))),(7,(Bp (bk (cv 0)) 0))]) (fun s=>[(7,(Bx 11 true 33 (tapi_TrackedUnit.is s) (bk (cv 0)))),(4,(Bx 11 true 33 (tapi_TrackedUnit.is zapi_TrackedUnit) b))]) ?_ ?_
   ·rintro t1 hj41
    try dsimp only at hj41
    subst hj41
    have hm:=hk12
    clear hk12
    try dsimp only at hm
    change W _ _ _ _ _ _ _ [(2,(tredline_books.ptr x)),(3,(tapi_Unit.ptr u)),(4,(Bp b 0)),(5,(tapi_Unit.ptr ((mget x.a_ u.Id zapi_Unit,mhas x.a_ u.Id).1))),(7,(Bp (bk (cv 0)) 0))] [(7,(Bx 11 true 33 (tapi_TrackedUnit.is t1) (bk (cv 0)))),(4,(Bx 11 true 33 (tapi_TrackedUnit.is zapi_TrackedUnit) b))]
    refine Aw<|WL.addNil (t:=tapi_Pair) (E:=94) 8<|Ao rfl (.assign (Opd.nilO (t:=tapi_Pair)))<|An<|W.seq<|Aw<|Ao rfl (.fieldAddr U27 rfl J25 fapi_Unit_5 (.t rfl))<|Ao rfl (.load ty25 (.t rfl))<|Ao rfl (.lenL U25 (.t rfl))<|Ao rfl (.move .i64)<|An<|W.block ?_
    obtain ⟨s17,hs18,hk19⟩:=Bs hm
    clear hm
    refine W.loop (fun m (s:Int×List api_Unit×List api_Unit×(((List api_Pair))×Tok))=>m=s.2.2.1.length∧((mget x.a_ u.Id zapi_Unit,mhas x.a_ u.Id).1).Kids=s.2.1++s.2.2.1∧s.1=(s.2.1.length:Int)∧M.redline_books_fresh_loop1 n x u s.2.2.1 s.1 s.2.2.2.1=some s17) (fun s=>[(65,(I6.is s.1)),(8,(tO tapi_Pair s.2.2.2.2 s.2.2.2.1)),(2,(tredline_books.ptr x)),(3,(tapi_Unit.ptr u)),(4,(Bp b 0)),(5,(tapi_Unit.ptr ((mget x.a_ u.Id zapi_Unit,mhas x.a_ u.Id).1))),(7,(Bp (bk (cv 0)) 0)),(63,((tL tapi_Unit).is (((mget x.a_ u.Id zapi_Unit,mhas x.a_ u.Id).1).Kids))),(64,(I6.is ((((mget x.a_ u.Id zapi_Unit,mhas x.a_ u.Id).1).Kids).length:Int)))]) (fun s=>[(8,Dec.Own tapi_Pair 94 s.2.2.2.2 s.2.2.2.1.length),(4,(Bx 11 true 33 (tapi_TrackedUnit.is zapi_TrackedUnit) b)),(7,(Bx 11 true 33 (tapi_TrackedUnit.is t1) (bk (cv 0))))]) (((mget x.a_ u.Id zapi_Unit,mhas x.a_ u.Id).1).Kids).length ((0:Int),[],((mget x.a_ u.Id zapi_Unit,mhas x.a_ u.Id).1).Kids,(([]:List api_Pair),(none:Tok))) ⟨rfl,rfl,rfl,hs18⟩ ⟨.q rfl,.q rfl,.q rfl,.q rfl,.q rfl,.q rfl,.q rfl,.q rfl,.q rfl,trivial⟩ ⟨rfl,rfl,⟨rfl,rfl,⟨rfl,rfl,trivial⟩⟩⟩ ?_
    rintro m ⟨i,pre,rest1,⟨pairs,k⟩⟩ ⟨hn23,hxs20,hi21,hm⟩
    try dsimp only at hn23 hxs20 hi21 hm
    change W _ _ _ _ _ _ _ [(65,(I6.is i)),(8,(tO tapi_Pair k pairs)),(2,(tredline_books.ptr x)),(3,(tapi_Unit.ptr u)),(4,(Bp b 0)),(5,(tapi_Unit.ptr ((mget x.a_ u.Id zapi_Unit,mhas x.a_ u.Id).1))),(7,(Bp (bk (cv 0)) 0)),(63,((tL tapi_Unit).is (((mget x.a_ u.Id zapi_Unit,mhas x.a_ u.Id).1).Kids))),(64,(I6.is ((((mget x.a_ u.Id zapi_Unit,mhas x.a_ u.Id).1).Kids).length:Int)))] [(8,Dec.Own tapi_Pair 94 k pairs.length),(4,(Bx 11 true 33 (tapi_TrackedUnit.is zapi_TrackedUnit) b)),(7,(Bx 11 true 33 (tapi_TrackedUnit.is t1) (bk (cv 0))))]
    refine W.lenL (s:=63) (.t rfl) fun hlen22=>Aw<|Ao rfl (.ltI (.t rfl) (.t rfl))<|An<|W.seq<|W.cond (.t rfl) (fun hc25=>?_) (fun hc25=>?_)
    ·have hp26:=of_decide_eq_true hc25
     obtain ⟨e,es,hrest28⟩:=range_more hxs20 hi21 hp26
     subst hrest28
     rw [M.redline_books_fresh_loop1.eq_2] at hm
     refine W.skip<|Aq<|W.seq<|W.block<|Aw<|Am rfl rfl<|Ao rfl (.idxPre hxs20 hi21 U25 Z27 (.t rfl) (.t rfl))<|Ao rfl (.load ty27 (.t rfl))<|WL.opR rfl (OpR.alloc 10 ze27) fun b2=>Ag rfl rfl<|WL.opU (OpR.storeB (b:=b2) 10 Z27 (Cellable.is tapi_Unit e) rfl (.t rfl) (.t rfl)) fun _=>WL.sealed (t:=tapi_Unit) (u:=e) 10 10 rfl rfl<|Ar<|Ao rfl (.fieldAddr Tryz.underlying59 rfl J56 fredline_books_1 (.t rfl))<|Ao rfl (.load ty56 (.t rfl))<|Ao rfl (.fieldAddr U27 rfl J23 fapi_Unit_0 (.t rfl)) ?_
     refine Ao rfl (.load ty23 (.t rfl))<|Ao rfl (.lookupSOkQ U56 kt23 ze27 (.t rfl) (.t rfl))<|Am rfl rfl<|Ao rfl (.extract0 (.t rfl))<|Ao rfl (.extract1 (.t rfl))<|WL.opR rfl (OpR.alloc 11 ze27) fun b3=>WL.opU (OpR.storeB (b:=b3) 11 Z27 (Cellable.is tapi_Unit ((mget x.b_ e.Id zapi_Unit,mhas x.b_ e.Id).1)) rfl (.t rfl) (.t rfl)) fun _=>WL.sealed (t:=tapi_Unit) (u:=((mget x.b_ e.Id zapi_Unit,mhas x.b_ e.Id).1)) 11 11 rfl rfl<|Ag rfl rfl<|WL.ns ?_
     obtain ⟨s29,hs30,hk31⟩:=Bs hm
     clear hm
     refine W.join (fun s:Bool=>s=s29) (fun s=>[(86,(tB.is s)),(2,(tredline_books.ptr x)),(3,(tapi_Unit.ptr u)),(4,(Bp b 0)),(5,(tapi_Unit.ptr ((mget x.a_ u.Id zapi_Unit,mhas x.a_ u.Id).1))),(7,(Bp (bk (cv 0)) 0)),(8,(tO tapi_Pair k pairs)),(9,(I6.is i)),(10,(tapi_Unit.ptr e)),(63,((tL tapi_Unit).is (((mget x.a_ u.Id zapi_Unit,mhas x.a_ u.Id).1).Kids))),(64,(I6.is ((((mget x.a_ u.Id zapi_Unit,mhas x.a_ u.Id).1).Kids).length:Int))),(65,(I6.is i))]) (fun s=>[(8,Dec.Own tapi_Pair 94 k pairs.length),(4,(Bx 11 true 33 (tapi_TrackedUnit.is zapi_TrackedUnit) b)),(7,(Bx 11 true 33 (tapi_TrackedUnit.is t1) (bk (cv 0))))]) ?_ ?_
     ·rintro v hj38
      try dsimp only at hj38
      subst hj38
      have hm:=hk31
      clear hk31
      try dsimp only at hm
      change W _ _ _ _ _ _ _ [(86,(tB.is v)),(2,(tredline_books.ptr x)),(3,(tapi_Unit.ptr u)),(4,(Bp b 0)),(5,(tapi_Unit.ptr ((mget x.a_ u.Id zapi_Unit,mhas x.a_ u.Id).1))),(7,(Bp (bk (cv 0)) 0)),(8,(tO tapi_Pair k pairs)),(9,(I6.is i)),(10,(tapi_Unit.ptr e)),(63,((tL tapi_Unit).is (((mget x.a_ u.Id zapi_Unit,mhas x.a_ u.Id).1).Kids))),(64,(I6.is ((((mget x.a_ u.Id zapi_Unit,mhas x.a_ u.Id).1).Kids).length:Int))),(65,(I6.is i))] [(8,Dec.Own tapi_Pair 94 k pairs.length),(4,(Bx 11 true 33 (tapi_TrackedUnit.is zapi_TrackedUnit) b)),(7,(Bx 11 true 33 (tapi_TrackedUnit.is t1) (bk (cv 0))))]
      refine W.cB hm (.t rfl) (fun hp35 hm=>?_) (fun hp35 hm=>?_)
      ·refine Aw<|Ao rfl (.fieldAddr U27 rfl J25 fapi_Unit_5 (.t rfl))<|Ao rfl (.load ty25 (.t rfl))<|Ao rfl (.makeFunc (ok:=(fun s:api_Unit×Bool=>(fun s0=>M.redline_books_fresh_1 s0 e) s.1=some s.2)) (As:=(fun s:api_Unit×Bool=>[tapi_Unit.is s.1])) (A:=(fun s:api_Unit×Bool=>(tB.is s.2))) (Cs:=[(tapi_Unit.ptr e)]) (cap:=[.tmp 10]) C53 ⟨(.t rfl),trivial⟩ (fun s hs=>redline_books_fresh_1_spec _ _ _ hs)) ?_
       obtain ⟨unit,hv36,hm⟩:=Bs hm
       refine Ao rfl (.call C52 (slices_IndexFunc_api_Unit_api_Unit_spec _ _ _ _ hv36) ⟨(.t rfl),(.t rfl),trivial⟩)<|Ag rfl rfl<|WL.nr1<|Am rfl rfl<|Am rfl rfl<|Am rfl rfl<|Ao rfl (.build (s:=tapi_Pair) (x:=(⟨i,unit⟩:api_Pair)) zapi_Pair_f rfl U94 (zapi_Pair_sz _ U94) ze94 ⟨_,I6,i,_,_,rfl,Z3,(.t rfl),sapi_Pair_0,⟨_,I6,unit,_,_,rfl,Z3,(.t rfl),sapi_Pair_1,rfl⟩⟩)<|Ao rfl (.buildSlice (n:=1) (ys:=[(0,(⟨i,unit⟩:api_Pair))]) (z:=zapi_Pair) (xs:=[(⟨i,unit⟩:api_Pair)]) U91 el94 ze94 ⟨rfl,(.t rfl),trivial⟩ (by simp) (by decide) rfl) ?_
       obtain ⟨pairs1,hv37,hm⟩:=Bs hm
       exact WL.opR rfl (OpR.appC (key:=8) hv37 U91 el94 (.t rfl) (.t rfl) rfl) fun k1=>Ag rfl rfl<|WL.nil<|WN.block<|Aq<|W.region<|Ao rfl (.addI (.t rfl) .i64 (range_inR hi21 hp26 hlen22))<|Am rfl rfl<|WL.nil<|WN.again es.length (i+1,pre++ [e],es,(pairs1,k1)) (range_lt hn23) ⟨rfl,range_step hxs20,range_idx hi21,hm⟩ ⟨.q rfl,.q rfl,.q rfl,.q rfl,.q rfl,.q rfl,.q rfl,.q rfl,.q rfl,trivial⟩ ⟨rfl,rfl,⟨rfl,rfl,⟨rfl,rfl,trivial⟩⟩⟩
      ·exact W.skip<|WN.block<|Aq<|W.region<|Ao rfl (.addI (.t rfl) .i64 (range_inR hi21 hp26 hlen22))<|Am rfl rfl<|WL.nil<|WN.again es.length (i+1,pre++ [e],es,(pairs,k)) (range_lt hn23) ⟨rfl,range_step hxs20,range_idx hi21,hm⟩ ⟨.q rfl,.q rfl,.q rfl,.q rfl,.q rfl,.q rfl,.q rfl,.q rfl,.q rfl,trivial⟩ ⟨rfl,rfl,⟨rfl,rfl,⟨rfl,rfl,trivial⟩⟩⟩
     ·have hm:=hs30
      clear hs30
      refine W.region<|Am rfl rfl<|WL.mv rfl rfl ?_
      rcases iteB hm with ⟨hp33,hb32,hm⟩ | ⟨hp33,hb32,hm⟩
      ·exact Ax rfl hb32 (.fieldAddr Tryz.underlying59 rfl J57 fredline_books_2 (.t rfl))<|Ax rfl hb32 (.load ty57 (.t rfl))<|Ax rfl hb32 (.fieldAddr U27 rfl J23 fapi_Unit_0 (.t rfl))<|Ax rfl hb32 (.load ty23 (.t rfl))<|Ax rfl hb32 (.lookupSQ U57 kt23 ze4 (.t rfl) (.t rfl))<|Ax rfl hb32 (.notB (.t rfl))<|Ao rfl (.pickT (.t rfl) hb32 (.t rfl))<|WL.nil<|WN.meet (!(mget x.moved_ e.Id false)) (Si hm) ⟨.q rfl,.q rfl,.q rfl,.q rfl,.q rfl,.q rfl,.q rfl,.q rfl,.q rfl,.q rfl,.q rfl,.q rfl,trivial⟩ ⟨rfl,rfl,⟨rfl,rfl,⟨rfl,rfl,trivial⟩⟩⟩
      ·exact Ap rfl hb32<|Ap rfl hb32<|Ap rfl hb32<|Ap rfl hb32<|Ap rfl hb32<|Ap rfl hb32<|Ao rfl (.pickF (.t rfl) hb32 .bool)<|WL.nil<|WN.meet false (Si hm) ⟨.q rfl,.q rfl,.q rfl,.q rfl,.q rfl,.q rfl,.q rfl,.q rfl,.q rfl,.q rfl,.q rfl,.q rfl,trivial⟩ ⟨rfl,rfl,⟨rfl,rfl,⟨rfl,rfl,trivial⟩⟩⟩
    ·have hrest28:=range_end hxs20 hi21 (of_decide_eq_false hc25)
     subst hrest28
     rw [M.redline_books_fresh_loop1.eq_1] at hm
     refine W.exit rfl ?_
     have hr39:=Si hm
     clear hm
     subst hr39
     have hm:=hk19
     try dsimp only at hm
     refine Aq<|Aw<|Ao rfl (.fieldAddr U27 rfl J25 fapi_Unit_5 (.t rfl))<|Ao rfl (.load ty25 (.t rfl))<|Ao rfl (.fieldAddr U27 rfl J25 fapi_Unit_5 (.t rfl))<|Ao rfl (.load ty25 (.t rfl))<|Am rfl rfl<|Ao rfl (.load ty59 (.t rfl))<|Ao rfl (.bindFunc (ok:=(fun s:api_Unit×api_TrackedUnit=>(fun s0=>M.redline_books_gone n x s0) s.1=some s.2)) (As:=(fun s:api_Unit×api_TrackedUnit=>[tapi_Unit.is s.1])) (A:=(fun s:api_Unit×api_TrackedUnit=>(tapi_TrackedUnit.is s.2))) (Ps:=[tredline_books.is x]) (pre:=[.tmp 103]) C55 ⟨(.t rfl),trivial⟩ (fun s hs=>redline_books_gone_spec _ _ _ _ hs))<|Ao rfl (.load ty59 (.t rfl))<|Ao rfl (.bindFunc (ok:=(fun s:api_Unit×api_TrackedUnit=>(fun s0=>(M.redline_books_fresh n) x s0) s.1=some s.2)) (As:=(fun s:api_Unit×api_TrackedUnit=>[tapi_Unit.is s.1])) (A:=(fun s:api_Unit×api_TrackedUnit=>(tapi_TrackedUnit.is s.2))) (Ps:=[tredline_books.is x]) (pre:=[.tmp 105]) C27 ⟨(.t rfl),trivial⟩ (fun s hs=>ih _ _ _ hs))<|Ao rfl (.makeFunc (ok:=(fun s:api_Unit×api_Unit×api_TrackedUnit=>(fun s0 s1=>M.redline_books_fresh_2 (M.redline_books_fresh n) s0 s1 x) s.1 s.2.1=some s.2.2)) (As:=(fun s:api_Unit×api_Unit×api_TrackedUnit=>[tapi_Unit.is s.1,tapi_Unit.is s.2.1])) (A:=(fun s:api_Unit×api_Unit×api_TrackedUnit=>(tapi_TrackedUnit.is s.2.2))) (Cs:=[(tredline_books.ptr x)]) (cap:=[.tmp 2]) C56 ⟨(.t rfl),trivial⟩ (fun s hs=>redline_books_fresh_2_spec (M.redline_books_fresh n) ih _ _ _ _ hs)) ?_
     obtain ⟨tracke,hv40,hm⟩:=Bs hm
     refine Ao rfl (.call C54 (redline_woven_api_Unit_api_Unit_api_TrackedUnit_spec _ _ _ _ _ _ _ _ hv40) ⟨(.t rfl),(.t rfl),(Opd.own (.t rfl)),(Opd.tFun (.t rfl)),(Opd.tFun (.t rfl)),(Opd.tFun (.t rfl)),trivial⟩)<|Ao rfl (.fieldAddrB (o:=0) U33 rfl J31 (.t rfl) rfl)<|WL.opU (OpR.storeBF (b:=(bk (cv 0))) 7 rfl ty31 sapi_TrackedUnit_8 rfl (by decide) (.t rfl) (.t rfl)) fun _=>Ar<|Ao rfl (.loadB 7 Y33 Z33 rfl (.t rfl))<|WL.opU (OpR.storeB (b:=b) 4 Z33 (Cellable.is tapi_TrackedUnit ({t1 with Kids:=tracke}:api_TrackedUnit)) rfl (.t rfl) (.t rfl)) fun _=>WL.ns ?_
     cases hm
     exact W.retQ1 () rfl (ResAt.cell 4 Y33 Z33 rfl (.t rfl)) trivial
   ·have hm:=hs11
    clear hs11
    refine Aw<|Am rfl rfl<|WL.mv rfl rfl ?_
    rcases iteB hm with ⟨hp14,hb13,hm⟩ | ⟨hp14,hb13,hm⟩
    ·refine Ax rfl hb13 (.fieldAddr U27 rfl J9 fapi_Unit_2 (.t rfl))<|Ax rfl hb13 (.load ty9 (.t rfl))<|Ax rfl hb13 (.fieldAddr U27 rfl J9 fapi_Unit_2 (.t rfl))<|Ax rfl hb13 (.load ty9 (.t rfl))<|Ax rfl hb13 (.neS (.t rfl) (.t rfl))<|Ao rfl (.pickT (.t rfl) hb13 (.t rfl))<|An<|W.cB hm (.t rfl) (fun hp16 hm=>?_) (fun hp16 hm=>?_)
     ·exact W.region<|Ao rfl (.fieldAddr U27 rfl J9 fapi_Unit_2 (.t rfl))<|Ao rfl (.load ty9 (.t rfl))<|Ao rfl (.fieldAddrB (o:=0) U33 rfl J9 (.t rfl) rfl)<|WL.opU (OpR.storeBF (b:=(bk (cv 0))) 7 rfl ty9 sapi_TrackedUnit_4 rfl (by decide) (.t rfl) (.t rfl)) fun _=>WL.nil<|WN.meet ({t with Was:=((mget x.a_ u.Id zapi_Unit,mhas x.a_ u.Id).1).Label}:api_TrackedUnit) (Si hm) ⟨.q rfl,.q rfl,.q rfl,.q rfl,.q rfl,trivial⟩ ⟨rfl,rfl,⟨rfl,rfl,trivial⟩⟩
     ·exact W.skip<|WN.meet t (Si hm) ⟨.q rfl,.q rfl,.q rfl,.q rfl,.q rfl,trivial⟩ ⟨rfl,rfl,⟨rfl,rfl,trivial⟩⟩
    ·exact Ap rfl hb13<|Ap rfl hb13<|Ap rfl hb13<|Ap rfl hb13<|Ap rfl hb13<|Ao rfl (.pickF (.t rfl) hb13 .bool)<|An<|W.condF (.t rfl)<|W.skip<|WN.meet t (Si hm) ⟨.q rfl,.q rfl,.q rfl,.q rfl,.q rfl,trivial⟩ ⟨rfl,rfl,⟨rfl,rfl,trivial⟩⟩
  ·have hm:=hs4
   clear hs4
   refine Aw<|Am rfl rfl<|Ao rfl (.notB (.t rfl))<|WL.mv rfl rfl ?_
   rcases iteR hm with ⟨hp7,hb6,hm⟩ | ⟨hp7,hb6,hm⟩
   ·exact Ap rfl hb6<|Ap rfl hb6<|Ao rfl (.pickT (.t rfl) hb6 .bool)<|An<|W.condT (.t rfl)<|W.region<|Ao rfl (.fieldAddrB (o:=0) U33 rfl J3 (.t rfl) rfl)<|WL.opU (OpR.storeBF (b:=(bk (cv 0))) 7 rfl ty3 sapi_TrackedUnit_0 rfl (by decide) (.t rfl) .i64) fun _=>WL.nil<|WN.meet ({(⟨(0:Int),u.Kind,u.Id,u.Label,([]:Str),mget x.moved_ u.Id false,words,words1,([]:List api_TrackedUnit)⟩:api_TrackedUnit) with State:=(1:Int)}:api_TrackedUnit) (Si hm) ⟨.q rfl,.q rfl,.q rfl,.q rfl,.q rfl,.q rfl,trivial⟩ ⟨rfl,rfl,⟨rfl,rfl,trivial⟩⟩
   ·refine Ax rfl hb6 (.fieldAddrB (o:=0) U33 rfl J4 (.t rfl) rfl)<|Ax rfl hb6 (.loadBF 7 rfl ty4 fapi_TrackedUnit_5 rfl (.t rfl))<|Ao rfl (.pickF (.t rfl) hb6 (.t rfl))<|An<|W.cB hm (.t rfl) (fun hp9 hm=>?_) (fun hp9 hm=>?_)
    ·exact W.region<|Ao rfl (.fieldAddrB (o:=0) U33 rfl J3 (.t rfl) rfl)<|WL.opU (OpR.storeBF (b:=(bk (cv 0))) 7 rfl ty3 sapi_TrackedUnit_0 rfl (by decide) (.t rfl) .i64) fun _=>WL.nil<|WN.meet ({(⟨(0:Int),u.Kind,u.Id,u.Label,([]:Str),mget x.moved_ u.Id false,words,words1,([]:List api_TrackedUnit)⟩:api_TrackedUnit) with State:=(1:Int)}:api_TrackedUnit) (Si hm) ⟨.q rfl,.q rfl,.q rfl,.q rfl,.q rfl,.q rfl,trivial⟩ ⟨rfl,rfl,⟨rfl,rfl,trivial⟩⟩
    ·exact W.skip<|WN.meet (⟨(0:Int),u.Kind,u.Id,u.Label,([]:Str),mget x.moved_ u.Id false,words,words1,([]:List api_TrackedUnit)⟩:api_TrackedUnit) (Si hm) ⟨.q rfl,.q rfl,.q rfl,.q rfl,.q rfl,.q rfl,trivial⟩ ⟨rfl,rfl,⟨rfl,rfl,trivial⟩⟩
theorem redline_Diff_spec(n:Nat)(a:api_Unit)(b:api_Unit)(r:api_TrackedUnit×Int)(hm:M.redline_Diff n a b=some r):FSpecR Tryz.prog 8 [(tapi_Unit.is a),(tapi_Unit.is b)] [(700002,Gl (tA 8 tS) 2 gv2),(700004,Gl (tA 8 (tL I6)) 4 gv4)] (fun _:Unit=>(Asn.tuple2 (tapi_TrackedUnit.is r.1) (I6.is r.2))) (fun _=>[]):=by
 unfold M.redline_Diff at hm
 refine FSpecR.of Tryz.func8 rfl rfl rfl fun g0=>Aw<|Ao rfl (.box (.t rfl))<|Ao rfl (.box (.t rfl))<|WL.opR rfl (OpR.alloc 4 ze33) fun b1=>Ao rfl (.assign .i64)<|Ar<|Ao rfl (.load ty27 (.t rfl))<|Ao rfl (.load ty27 (.t rfl)) ?_
 obtain ⟨held,hv1,hm⟩:=Bs hm
 refine Ao rfl (.callG (rin:=[(700002,Gl (tA 8 tS) 2 gv2),(700004,Gl (tA 8 (tL I6)) 4 gv4)]) C26 (redline_held_spec _ _ _ _ hv1) ⟨rfl,rfl,trivial⟩ ⟨rfl,rfl,⟨rfl,rfl,trivial⟩⟩ ⟨(.t rfl),(.t rfl),trivial⟩)<|Am rfl rfl<|Ao rfl (.extract0 (.t rfl))<|Ao rfl (.extract1 (.t rfl))<|WL.opR rfl (OpR.alloc 6 ze59) fun b2=>WL.opU (OpR.storeB (b:=b2) 6 Z59 (Cellable.is tredline_books held.1) rfl (.t rfl) (.t rfl)) fun _=>WL.sealed (t:=tredline_books) (u:=held.1) 6 6 rfl rfl<|Ag rfl rfl<|An<|W.seq<|Aw<|Am rfl rfl<|Ao rfl (.notB (.t rfl))<|An<|W.cR hm (.t rfl) (fun hp3 hm=>?_) (fun hp3 hm=>?_)
 ·refine Aw<|Ao rfl (.build (s:=tapi_TrackedUnit) (x:=(⟨(0:Int),(0:Int),zapi_Id,([]:Str),([]:Str),false,([]:List api_TrackedWord),([]:List api_TrackedWord),([]:List api_TrackedUnit)⟩:api_TrackedUnit)) zapi_TrackedUnit_f rfl U33 (zapi_TrackedUnit_sz _ U33) ze33 rfl)<|WL.opU (OpR.storeB (b:=b1) 4 Z33 (Cellable.is tapi_TrackedUnit (⟨(0:Int),(0:Int),zapi_Id,([]:Str),([]:Str),false,([]:List api_TrackedWord),([]:List api_TrackedWord),([]:List api_TrackedUnit)⟩:api_TrackedUnit)) rfl (.t rfl) (.t rfl)) fun _=>Ao rfl (.assign .i64)<|WL.ns ?_
  cases hm
  exact W.retQ2 () rfl rfl (ResAt.cell 4 Y33 Z33 rfl (.t rfl)) (ResAt.tmp (.t rfl)) trivial
 ·refine W.skip<|Aq<|Aw<|Ao rfl (.load ty59 (.t rfl))<|Ao rfl (.load ty27 (.t rfl)) ?_
  obtain ⟨fresh,hv4,hm⟩:=Bs hm
  refine Ao rfl (.call C27 (redline_books_fresh_spec _ _ _ _ hv4) ⟨(.t rfl),(.t rfl),trivial⟩)<|WL.opU (OpR.storeB (b:=b1) 4 Z33 (Cellable.is tapi_TrackedUnit fresh) rfl (.t rfl) (.t rfl)) fun _=>Ao rfl (.assign .i64)<|WL.ns ?_
  cases hm
  exact W.retQ2 () rfl rfl (ResAt.cell 4 Y33 Z33 rfl (.t rfl)) (ResAt.tmp (.t rfl)) trivial
theorem r53_number_spec(n0_:Int)(r:Bool)(hm:M.r53_number n0_=some r):FSpec Tryz.prog 130 [(I6.is n0_)] (tB.is r):=by
 unfold M.r53_number at hm
 refine FSpec.of Tryz.func130 rfl rfl rfl fun g0=>Aw<|Ao rfl (.assign .bool)<|Ar<|Am rfl rfl<|Ao rfl (.geI (.t rfl) .i64)<|WL.mv rfl rfl ?_
 rcases iteD hm with ⟨hp2,hb1,hm⟩ | ⟨hp2,hb1,hm⟩
 ·refine Ax rfl hb1 (.move (.t rfl))<|Ax rfl hb1 (.leI (.t rfl) .i64)<|Ao rfl (.pickT (.t rfl) hb1 (.t rfl))<|Ag rfl rfl<|WL.ns ?_
  cases hm
  exact W.ret1 () rfl (.t rfl) trivial
 ·refine Ap rfl hb1<|Ap rfl hb1<|Ao rfl (.pickF (.t rfl) hb1 .bool)<|Ag rfl rfl<|WL.ns ?_
  cases hm
  exact W.ret1 () rfl (.t rfl) trivial
theorem r53_numbers_spec(id:api_Id)(r:Bool)(hm:M.r53_numbers id=some r):FSpec Tryz.prog 92 [(tapi_Id.is id)] (tB.is r):=by
 unfold M.r53_numbers at hm
 refine FSpec.of Tryz.func92 rfl rfl rfl fun g0=>Aw<|Ao rfl (.box (.t rfl))<|Ao rfl (.assign .bool)<|Ar<|Ao rfl (.fieldAddr U23 rfl J3 fapi_Id_0 (.t rfl))<|Ao rfl (.load ty3 (.t rfl)) ?_
 obtain ⟨number,hv1,hm⟩:=Bs hm
 refine Ao rfl (.call C130 (r53_number_spec _ _ hv1) ⟨(.t rfl),trivial⟩)<|WL.mv rfl rfl ?_
 rcases iteB hm with ⟨hp3,hb2,hm⟩ | ⟨hp3,hb2,hm⟩
 ·refine Ax rfl hb2 (.fieldAddr U23 rfl J3 fapi_Id_1 (.t rfl))<|Ax rfl hb2 (.load ty3 (.t rfl)) ?_
  obtain ⟨number1,hv4,hm⟩:=Bs hm
  refine Ax rfl hb2 (.call C130 (r53_number_spec _ _ hv4) ⟨(.t rfl),trivial⟩)<|Ao rfl (.pickT (.t rfl) hb2 (.t rfl))<|WL.mv rfl rfl ?_
  rcases iteB hm with ⟨hp6,hb5,hm⟩ | ⟨hp6,hb5,hm⟩
  ·refine Ax rfl hb5 (.fieldAddr U23 rfl J3 fapi_Id_2 (.t rfl))<|Ax rfl hb5 (.load ty3 (.t rfl)) ?_
   obtain ⟨number2,hv7,hm⟩:=Bs hm
   refine Ax rfl hb5 (.call C130 (r53_number_spec _ _ hv7) ⟨(.t rfl),trivial⟩)<|Ao rfl (.pickT (.t rfl) hb5 (.t rfl))<|Ag rfl rfl<|WL.ns ?_
   cases hm
   exact W.ret1 () rfl (.t rfl) trivial
  ·refine Ap rfl hb5<|Ap rfl hb5<|Ap rfl hb5<|Ao rfl (.pickF (.t rfl) hb5 .bool)<|Ag rfl rfl<|WL.ns ?_
   cases hm
   exact W.ret1 () rfl (.t rfl) trivial
 ·refine Ap rfl hb2<|Ap rfl hb2<|Ap rfl hb2<|Ao rfl (.pickF (.t rfl) hb2 .bool)<|Am rfl rfl<|Ap rfl rfl<|Ap rfl rfl<|Ap rfl rfl<|Ao rfl (.pickF (.t rfl) rfl .bool)<|Ag rfl rfl<|WL.ns ?_
  cases hm
  exact W.ret1 () rfl (.t rfl) trivial
theorem r53_Place_spec(t:api_TrackedUnit)(r:Bool)(hm:M.r53_Place t=some r):FSpec Tryz.prog 57 [(tapi_TrackedUnit.is t)] (tB.is r):=by
 unfold M.r53_Place at hm
 refine FSpec.of Tryz.func57 rfl rfl rfl fun g0=>Aw<|Ao rfl (.box (.t rfl))<|Ao rfl (.assign .bool)<|Ar<|Ao rfl (.fieldAddr U33 rfl J3 fapi_TrackedUnit_0 (.t rfl))<|Ao rfl (.load ty3 (.t rfl))<|Ao rfl (.eqI (.t rfl) .i64)<|WL.mv rfl rfl ?_
 rcases iteD hm with ⟨hp2,hb1,hm⟩ | ⟨hp2,hb1,hm⟩
 ·refine Ax rfl hb1 (.fieldAddr U33 rfl J4 fapi_TrackedUnit_5 (.t rfl))<|Ax rfl hb1 (.load ty4 (.t rfl))<|Ao rfl (.pickT (.t rfl) hb1 (.t rfl))<|WL.mv rfl rfl ?_
  rcases iteB hm with ⟨hp4,hb3,hm⟩ | ⟨hp4,hb3,hm⟩
  ·refine Ax rfl hb3 (.fieldAddr U33 rfl J23 fapi_TrackedUnit_2 (.t rfl))<|Ax rfl hb3 (.load ty23 (.t rfl)) ?_
   obtain ⟨number,hv5,hm⟩:=Bs hm
   refine Ax rfl hb3 (.call C92 (r53_numbers_spec _ _ hv5) ⟨(.t rfl),trivial⟩)<|Ao rfl (.pickT (.t rfl) hb3 (.t rfl))<|WL.mv rfl rfl ?_
   rcases iteB hm with ⟨hp7,hb6,hm⟩ | ⟨hp7,hb6,hm⟩
   ·refine Ax rfl hb6 (.fieldAddr U33 rfl J3 fapi_TrackedUnit_1 (.t rfl))<|Ax rfl hb6 (.load ty3 (.t rfl))<|Ax rfl hb6 (.eqI (.t rfl) .i64)<|Ao rfl (.pickT (.t rfl) hb6 (.t rfl))<|WL.mv rfl rfl ?_
    rcases iteD hm with ⟨hp9,hb8,hm⟩ | ⟨hp9,hb8,hm⟩
    ·refine Ax rfl hb8 (.fieldAddr U33 rfl J9 fapi_TrackedUnit_3 (.t rfl))<|Ax rfl hb8 (.load ty9 (.t rfl))<|Ax rfl hb8 (.eqS (.t rfl) (.str rfl (by decide)))<|Ao rfl (.pickT (.t rfl) hb8 (.t rfl))<|WL.mv rfl rfl ?_
     rcases iteB hm with ⟨hp11,hb10,hm⟩ | ⟨hp11,hb10,hm⟩
     ·refine Ax rfl hb10 (.fieldAddr U33 rfl J9 fapi_TrackedUnit_4 (.t rfl))<|Ax rfl hb10 (.load ty9 (.t rfl))<|Ax rfl hb10 (.eqS (.t rfl) (.str rfl (by decide)))<|Ao rfl (.pickT (.t rfl) hb10 (.t rfl))<|WL.mv rfl rfl ?_
      rcases iteB hm with ⟨hp13,hb12,hm⟩ | ⟨hp13,hb12,hm⟩
      ·refine Ax rfl hb12 (.fieldAddr U33 rfl J30 fapi_TrackedUnit_6 (.t rfl))<|Ax rfl hb12 (.load ty30 (.t rfl))<|Ax rfl hb12 (.lenL U30 (.t rfl))<|Ax rfl hb12 (.fieldAddr U33 rfl J30 fapi_TrackedUnit_7 (.t rfl))<|Ax rfl hb12 (.load ty30 (.t rfl))<|Ax rfl hb12 (.lenL U30 (.t rfl)) ?_
       obtain ⟨v,hv14,hm⟩:=Bs hm
       refine Ax rfl hb12 (.addC hv14 (.t rfl) (.t rfl))<|Ax rfl hb12 (.fieldAddr U33 rfl J31 fapi_TrackedUnit_8 (.t rfl))<|Ax rfl hb12 (.load ty31 (.t rfl))<|Ax rfl hb12 (.lenL U31 (.t rfl)) ?_
       obtain ⟨v1,hv15,hm⟩:=Bs hm
       refine Ax rfl hb12 (.addC hv15 (.t rfl) (.t rfl))<|Ax rfl hb12 (.eqI (.t rfl) .i64)<|Ao rfl (.pickT (.t rfl) hb12 (.t rfl))<|Ag rfl rfl<|WL.ns ?_
       cases hm
       exact W.ret1 () rfl (.t rfl) trivial
      ·refine Ap rfl hb12<|Ap rfl hb12<|Ap rfl hb12<|Ap rfl hb12<|Ap rfl hb12<|Ap rfl hb12<|Ap rfl hb12<|Ap rfl hb12<|Ap rfl hb12<|Ap rfl hb12<|Ap rfl hb12<|Ap rfl hb12<|Ao rfl (.pickF (.t rfl) hb12 .bool)<|Ag rfl rfl<|WL.ns ?_
       cases hm
       exact W.ret1 () rfl (.t rfl) trivial
     ·refine Ap rfl hb10<|Ap rfl hb10<|Ap rfl hb10<|Ao rfl (.pickF (.t rfl) hb10 .bool)<|Am rfl rfl<|Ap rfl rfl<|Ap rfl rfl<|Ap rfl rfl<|Ap rfl rfl<|Ap rfl rfl<|Ap rfl rfl<|Ap rfl rfl<|Ap rfl rfl<|Ap rfl rfl<|Ap rfl rfl<|Ap rfl rfl ?_
      refine Ap rfl rfl<|Ao rfl (.pickF (.t rfl) rfl .bool)<|Ag rfl rfl<|WL.ns ?_
      cases hm
      exact W.ret1 () rfl (.t rfl) trivial
    ·refine Ap rfl hb8<|Ap rfl hb8<|Ap rfl hb8<|Ao rfl (.pickF (.t rfl) hb8 .bool)<|Am rfl rfl<|Ap rfl rfl<|Ap rfl rfl<|Ap rfl rfl<|Ao rfl (.pickF (.t rfl) rfl .bool)<|Am rfl rfl<|Ap rfl rfl<|Ap rfl rfl<|Ap rfl rfl<|Ap rfl rfl<|Ap rfl rfl<|Ap rfl rfl ?_
     refine Ap rfl rfl<|Ap rfl rfl<|Ap rfl rfl<|Ap rfl rfl<|Ap rfl rfl<|Ap rfl rfl<|Ao rfl (.pickF (.t rfl) rfl .bool)<|Ag rfl rfl<|WL.ns ?_
     cases hm
     exact W.ret1 () rfl (.t rfl) trivial
   ·refine Ap rfl hb6<|Ap rfl hb6<|Ap rfl hb6<|Ao rfl (.pickF (.t rfl) hb6 .bool)<|Am rfl rfl<|Ap rfl rfl<|Ap rfl rfl<|Ap rfl rfl<|Ao rfl (.pickF (.t rfl) rfl .bool)<|Am rfl rfl<|Ap rfl rfl<|Ap rfl rfl<|Ap rfl rfl<|Ao rfl (.pickF (.t rfl) rfl .bool)<|Am rfl rfl<|Ap rfl rfl ?_
    refine Ap rfl rfl<|Ap rfl rfl<|Ap rfl rfl<|Ap rfl rfl<|Ap rfl rfl<|Ap rfl rfl<|Ap rfl rfl<|Ap rfl rfl<|Ap rfl rfl<|Ap rfl rfl<|Ap rfl rfl<|Ao rfl (.pickF (.t rfl) rfl .bool)<|Ag rfl rfl<|WL.ns ?_
    cases hm
    exact W.ret1 () rfl (.t rfl) trivial
  ·refine Ap rfl hb3<|Ap rfl hb3<|Ap rfl hb3<|Ao rfl (.pickF (.t rfl) hb3 .bool)<|Am rfl rfl<|Ap rfl rfl<|Ap rfl rfl<|Ap rfl rfl<|Ao rfl (.pickF (.t rfl) rfl .bool)<|Am rfl rfl<|Ap rfl rfl<|Ap rfl rfl<|Ap rfl rfl<|Ao rfl (.pickF (.t rfl) rfl .bool)<|Am rfl rfl<|Ap rfl rfl ?_
   refine Ap rfl rfl<|Ap rfl rfl<|Ao rfl (.pickF (.t rfl) rfl .bool)<|Am rfl rfl<|Ap rfl rfl<|Ap rfl rfl<|Ap rfl rfl<|Ap rfl rfl<|Ap rfl rfl<|Ap rfl rfl<|Ap rfl rfl<|Ap rfl rfl<|Ap rfl rfl<|Ap rfl rfl<|Ap rfl rfl<|Ap rfl rfl ?_
   refine Ao rfl (.pickF (.t rfl) rfl .bool)<|Ag rfl rfl<|WL.ns ?_
   cases hm
   exact W.ret1 () rfl (.t rfl) trivial
 ·refine Ap rfl hb1<|Ap rfl hb1<|Ao rfl (.pickF (.t rfl) hb1 .bool)<|Am rfl rfl<|Ap rfl rfl<|Ap rfl rfl<|Ap rfl rfl<|Ao rfl (.pickF (.t rfl) rfl .bool)<|Am rfl rfl<|Ap rfl rfl<|Ap rfl rfl<|Ap rfl rfl<|Ao rfl (.pickF (.t rfl) rfl .bool)<|Am rfl rfl<|Ap rfl rfl<|Ap rfl rfl ?_
  refine Ap rfl rfl<|Ao rfl (.pickF (.t rfl) rfl .bool)<|Am rfl rfl<|Ap rfl rfl<|Ap rfl rfl<|Ap rfl rfl<|Ao rfl (.pickF (.t rfl) rfl .bool)<|Am rfl rfl<|Ap rfl rfl<|Ap rfl rfl<|Ap rfl rfl<|Ap rfl rfl<|Ap rfl rfl<|Ap rfl rfl<|Ap rfl rfl<|Ap rfl rfl ?_
  refine Ap rfl rfl<|Ap rfl rfl<|Ap rfl rfl<|Ap rfl rfl<|Ao rfl (.pickF (.t rfl) rfl .bool)<|Ag rfl rfl<|WL.ns ?_
  cases hm
  exact W.ret1 () rfl (.t rfl) trivial
theorem r04_Word_spec(n:Nat)(s0_:Str)(r:Bool)(hm:M.r04_Word n s0_=some r):FSpec Tryz.prog 131 [(tS.is s0_)] (tB.is r):=by
 unfold M.r04_Word at hm
 refine FSpec.of Tryz.func131 rfl rfl rfl fun g0=>Aw<|Ao rfl (.assign .bool)<|An<|W.seq ?_
 obtain ⟨s1,hs2,hk3⟩:=Bs hm
 clear hm
 refine W.join (fun s:Bool=>s=s1) (fun s=>[(11,(tB.is s)),(0,(tS.is s0_))]) (fun s=>[]) ?_ ?_
 ·rintro v hj24
  try dsimp only at hj24
  subst hj24
  have hm:=hk3
  clear hk3
  try dsimp only at hm
  change W _ _ _ _ _ _ _ [(11,(tB.is v)),(0,(tS.is s0_))] []
  refine W.cB hm (.t rfl) (fun hp7 hm=>?_) (fun hp7 hm=>?_)
  ·refine Aw<|Ao rfl (.assign .bool)<|WL.ns ?_
   cases hm
   exact W.ret1 () rfl (.t rfl) trivial
  ·refine W.skip<|Aq<|W.seq<|Aw<|Ao rfl (.assign .i64)<|An<|W.block ?_
   obtain ⟨s8,hs9,hk10⟩:=Bs hm
   clear hm
   refine W.loop (fun m (s:Int)=>M.r04_Word_loop1 s0_ m s=some s8) (fun s=>[(3,(I6.is s)),(0,(tS.is s0_))]) (fun s=>[]) _ (0:Int) hs9 ⟨.q rfl,.q rfl,trivial⟩ trivial ?_
   rintro n11 i hm
   try dsimp only at hm
   change W _ _ _ _ _ _ _ [(3,(I6.is i)),(0,(tS.is s0_))] []
   cases n11 with
   | zero=>rw [M.r04_Word_loop1.eq_1] at hm;cases hm
   | succ n11=>
    rw [M.r04_Word_loop1.eq_2] at hm
    refine W.seq<|Aw<|Am rfl rfl<|Am rfl rfl<|Ao rfl (.lenS U9 (.t rfl))<|Ao rfl (.ltI (.t rfl) (.t rfl))<|An<|W.cD hm (.t rfl) (fun hp13 hm=>?_) (fun hp13 hm=>?_)
    ·refine W.skip<|Aq<|W.seq<|W.block<|Aw<|Am rfl rfl<|WL.mv rfl rfl ?_
     obtain ⟨b,hv14,hm⟩:=Bs hm
     refine Ao rfl (.sidx hv14 U9 (.t rfl) (.t rfl))<|Ao rfl (.ltI (.t rfl) (.int (inR8.2 (by omega))))<|WL.mv rfl rfl ?_
     rcases iteD hm with ⟨hp16,hb15,hm⟩ | ⟨hp16,hb15,hm⟩
     ·refine Ap rfl hb15<|Ap rfl hb15<|Ap rfl hb15<|Ap rfl hb15<|Ao rfl (.pickT (.t rfl) hb15 .bool)<|An<|W.condT (.t rfl)<|Aw<|Ao rfl (.assign .bool)<|WL.ns ?_
      have hr17:=Si hm
      clear hm
      subst hr17
      have hm:=hk10
      try dsimp only at hm
      cases hm
      exact W.ret1 () rfl (.t rfl) trivial
     ·refine Ax rfl hb15 (.move (.t rfl))<|Ax rfl hb15 (.move (.t rfl)) ?_
      obtain ⟨b1,hv18,hm⟩:=Bs hm
      refine Ax rfl hb15 (.sidx hv18 U9 (.t rfl) (.t rfl))<|Ax rfl hb15 (.gtI (.t rfl) (.int (inR8.2 (by omega))))<|Ao rfl (.pickF (.t rfl) hb15 (.t rfl))<|An<|W.cD hm (.t rfl) (fun hp20 hm=>?_) (fun hp20 hm=>?_)
      ·refine Aw<|Ao rfl (.assign .bool)<|WL.ns ?_
       have hr21:=Si hm
       clear hm
       subst hr21
       have hm:=hk10
       try dsimp only at hm
       cases hm
       exact W.ret1 () rfl (.t rfl) trivial
      ·exact W.skip<|WN.block<|Aq<|W.region<|Am rfl rfl<|WL.lenS (s:=0) (.t rfl) fun hl22=>Ao rfl (.addI1 (.t rfl) .i64 hp13 hl22)<|Ag rfl rfl<|WL.nil<|WN.again n11 (i+1) (Nat.lt_succ_self n11) hm ⟨.q rfl,.q rfl,trivial⟩ trivial
    ·refine W.exit rfl ?_
     have hr23:=Si hm
     clear hm
     subst hr23
     have hm:=hk10
     try dsimp only at hm
     refine Aq<|Aw<|Ao rfl (.assign .bool)<|WL.ns ?_
     cases hm
     exact W.ret1 () rfl (.t rfl) trivial
 ·have hm:=hs2
  clear hs2
  refine W.region<|Am rfl rfl<|Ao rfl (.lenS U9 (.t rfl))<|Ao rfl (.ltI (.t rfl) .i64)<|WL.mv rfl rfl ?_
  rcases iteD hm with ⟨hp5,hb4,hm⟩ | ⟨hp5,hb4,hm⟩
  ·exact Ap rfl hb4<|Ap rfl hb4<|Ap rfl hb4<|Ao rfl (.pickT (.t rfl) hb4 .bool)<|WL.nil<|WN.meet true (Si hm) ⟨.q rfl,.q rfl,trivial⟩ trivial
  ·exact Ax rfl hb4 (.move (.t rfl))<|Ax rfl hb4 (.lenS U9 (.t rfl))<|Ax rfl hb4 (.gtI (.t rfl) .i64)<|Ao rfl (.pickF (.t rfl) hb4 (.t rfl))<|WL.nil<|WN.meet (decide ((24:Int)< (s0_.length:Int))) (Si hm) ⟨.q rfl,.q rfl,trivial⟩ trivial
theorem r53_MayRow_spec(n:Nat)(l:List api_TrackedWord)(r:Bool)(hm:M.r53_MayRow n l=some r):FSpec Tryz.prog 93 [((tL tapi_TrackedWord).is l)] (tB.is r):=by
 unfold M.r53_MayRow at hm
 refine FSpec.of Tryz.func93 rfl rfl rfl fun g0=>Aw<|Ao rfl (.assign .bool)<|An<|W.seq<|Aw<|Ao rfl (.assign .i64)<|An<|W.block ?_
 obtain ⟨s1,hs2,hk3⟩:=Bs hm
 clear hm
 refine W.loop (fun m (s:Int)=>M.r53_MayRow_loop1 l m s=some s1) (fun s=>[(3,(I6.is s)),(0,((tL tapi_TrackedWord).is l))]) (fun s=>[]) _ (0:Int) hs2 ⟨.q rfl,.q rfl,trivial⟩ trivial ?_
 rintro n4 i hm
 try dsimp only at hm
 change W _ _ _ _ _ _ _ [(3,(I6.is i)),(0,((tL tapi_TrackedWord).is l))] []
 cases n4 with
 | zero=>rw [M.r53_MayRow_loop1.eq_1] at hm;cases hm
 | succ n4=>
  rw [M.r53_MayRow_loop1.eq_2] at hm
  refine W.seq<|Aw<|Am rfl rfl<|Am rfl rfl<|Ao rfl (.lenL U30 (.t rfl))<|Ao rfl (.ltI (.t rfl) (.t rfl))<|An<|W.cD hm (.t rfl) (fun hp6 hm=>?_) (fun hp6 hm=>?_)
  ·refine W.skip<|Aq<|W.seq<|W.block<|Aw<|Am rfl rfl<|WL.mv rfl rfl ?_
   obtain ⟨v,hv7,hm⟩:=Bs hm
   refine Ao rfl (.idx hv7 U30 Z53 (.t rfl) (.t rfl))<|Ao rfl (.fieldAddr U53 rfl J9 fapi_TrackedWord_1 (.t rfl))<|Ao rfl (.load ty9 (.t rfl)) ?_
   obtain ⟨word,hv8,hm⟩:=Bs hm
   refine Ao rfl (.call C131 (r04_Word_spec _ _ _ hv8) ⟨(.t rfl),trivial⟩)<|Ao rfl (.notB (.t rfl))<|WL.mv rfl rfl ?_
   rcases iteR hm with ⟨hp10,hb9,hm⟩ | ⟨hp10,hb9,hm⟩
   ·refine Ap rfl hb9<|Ap rfl hb9<|Ap rfl hb9<|Ap rfl hb9<|Ap rfl hb9<|Ap rfl hb9<|Ao rfl (.pickT (.t rfl) hb9 .bool)<|Am rfl rfl<|Ap rfl rfl<|Ap rfl rfl<|Ap rfl rfl<|Ap rfl rfl<|Ap rfl rfl<|Ap rfl rfl<|Ao rfl (.pickT (.t rfl) rfl .bool)<|WL.ns ?_
    refine W.condT (.t rfl)<|Aw<|Ao rfl (.assign .bool)<|WL.ns ?_
    have hr11:=Si hm
    clear hm
    subst hr11
    have hm:=hk3
    try dsimp only at hm
    cases hm
    exact W.ret1 () rfl (.t rfl) trivial
   ·refine Ax rfl hb9 (.move (.t rfl))<|Ax rfl hb9 (.move (.t rfl)) ?_
    obtain ⟨v1,hv12,hm⟩:=Bs hm
    refine Ax rfl hb9 (.idx hv12 U30 Z53 (.t rfl) (.t rfl))<|Ax rfl hb9 (.fieldAddr U53 rfl J3 fapi_TrackedWord_0 (.t rfl))<|Ax rfl hb9 (.load ty3 (.t rfl))<|Ax rfl hb9 (.ltI (.t rfl) .i64)<|Ao rfl (.pickF (.t rfl) hb9 (.t rfl))<|WL.mv rfl rfl ?_
    rcases iteD hm with ⟨hp14,hb13,hm⟩ | ⟨hp14,hb13,hm⟩
    ·refine Ap rfl hb13<|Ap rfl hb13<|Ap rfl hb13<|Ap rfl hb13<|Ap rfl hb13<|Ap rfl hb13<|Ao rfl (.pickT (.t rfl) hb13 .bool)<|An<|W.condT (.t rfl)<|Aw<|Ao rfl (.assign .bool)<|WL.ns ?_
     have hr15:=Si hm
     clear hm
     subst hr15
     have hm:=hk3
     try dsimp only at hm
     cases hm
     exact W.ret1 () rfl (.t rfl) trivial
    ·refine Ax rfl hb13 (.move (.t rfl))<|Ax rfl hb13 (.move (.t rfl)) ?_
     obtain ⟨v2,hv16,hm⟩:=Bs hm
     refine Ax rfl hb13 (.idx hv16 U30 Z53 (.t rfl) (.t rfl))<|Ax rfl hb13 (.fieldAddr U53 rfl J3 fapi_TrackedWord_0 (.t rfl))<|Ax rfl hb13 (.load ty3 (.t rfl))<|Ax rfl hb13 (.gtI (.t rfl) .i64)<|Ao rfl (.pickF (.t rfl) hb13 (.t rfl))<|An<|W.cD hm (.t rfl) (fun hp18 hm=>?_) (fun hp18 hm=>?_)
     ·refine Aw<|Ao rfl (.assign .bool)<|WL.ns ?_
      have hr19:=Si hm
      clear hm
      subst hr19
      have hm:=hk3
      try dsimp only at hm
      cases hm
      exact W.ret1 () rfl (.t rfl) trivial
     ·exact W.skip<|WN.block<|Aq<|W.region<|Am rfl rfl<|WL.lenL (s:=0) (.t rfl) fun hl20=>Ao rfl (.addI1 (.t rfl) .i64 hp6 hl20)<|Ag rfl rfl<|WL.nil<|WN.again n4 (i+1) (Nat.lt_succ_self n4) hm ⟨.q rfl,.q rfl,trivial⟩ trivial
  ·refine W.exit rfl ?_
   have hr21:=Si hm
   clear hm
   subst hr21
   have hm:=hk3
   try dsimp only at hm
   refine Aq<|Aw<|Am rfl rfl<|Ao rfl (.lenL U30 (.t rfl))<|Ao rfl (.leI (.t rfl) .i64)<|Ag rfl rfl<|WL.ns ?_
   cases hm
   exact W.ret1 () rfl (.t rfl) trivial
theorem r03_digits_spec(n:Nat)(s0_:Str)(r:Int)(hm:M.r03_digits n s0_=some r):FSpec Tryz.prog 132 [(tS.is s0_)] (I6.is r):=by
 unfold M.r03_digits at hm
 refine FSpec.of Tryz.func132 rfl rfl rfl fun g0=>Aw<|Ao rfl (.assign .i64)<|Ar<|Ao rfl (.assign .i64)<|An<|W.seq<|W.block ?_
 obtain ⟨s1,hs2,hk3⟩:=Bs hm
 clear hm
 refine W.loop (fun m (s:Int)=>M.r03_digits_loop1 s0_ m s=some s1) (fun s=>[(3,(I6.is s)),(0,(tS.is s0_))]) (fun s=>[]) _ (0:Int) hs2 ⟨.q rfl,.q rfl,trivial⟩ trivial ?_
 rintro n4 n0_ hm
 try dsimp only at hm
 change W _ _ _ _ _ _ _ [(3,(I6.is n0_)),(0,(tS.is s0_))] []
 cases n4 with
 | zero=>rw [M.r03_digits_loop1.eq_1] at hm;cases hm
 | succ n4=>
  rw [M.r03_digits_loop1.eq_2] at hm
  refine W.seq<|Aw<|Am rfl rfl<|Am rfl rfl<|Ao rfl (.lenS U9 (.t rfl))<|Ao rfl (.ltI (.t rfl) (.t rfl))<|WL.mv rfl rfl ?_
  rcases iteD hm with ⟨hp6,hb5,hm⟩ | ⟨hp6,hb5,hm⟩
  ·refine Ax rfl hb5 (.move (.t rfl))<|Ax rfl hb5 (.move (.t rfl)) ?_
   obtain ⟨b,hv7,hm⟩:=Bs hm
   refine Ax rfl hb5 (.sidx hv7 U9 (.t rfl) (.t rfl))<|Ax rfl hb5 (.geI (.t rfl) (.int (inR8.2 (by omega))))<|Ao rfl (.pickT (.t rfl) hb5 (.t rfl))<|WL.mv rfl rfl ?_
   rcases iteD hm with ⟨hp9,hb8,hm⟩ | ⟨hp9,hb8,hm⟩
   ·refine Ax rfl hb8 (.move (.t rfl))<|Ax rfl hb8 (.move (.t rfl)) ?_
    obtain ⟨b1,hv10,hm⟩:=Bs hm
    refine Ax rfl hb8 (.sidx hv10 U9 (.t rfl) (.t rfl))<|Ax rfl hb8 (.leI (.t rfl) (.int (inR8.2 (by omega))))<|Ao rfl (.pickT (.t rfl) hb8 (.t rfl))<|An<|W.cD hm (.t rfl) (fun hp12 hm=>?_) (fun hp12 hm=>?_)
    ·exact W.skip<|Aq<|W.block<|W.region<|Am rfl rfl<|WL.lenS (s:=0) (.t rfl) fun hl13=>Ao rfl (.addI1 (.t rfl) .i64 hp6 hl13)<|Ag rfl rfl<|WL.nil<|WN.block<|WN.again n4 (n0_+1) (Nat.lt_succ_self n4) hm ⟨.q rfl,.q rfl,trivial⟩ trivial
    ·refine W.exit rfl ?_
     have hr14:=Si hm
     clear hm
     subst hr14
     have hm:=hk3
     try dsimp only at hm
     refine Aq<|Aw<|Am rfl rfl<|Ag rfl rfl<|WL.ns ?_
     cases hm
     exact W.ret1 () rfl (.t rfl) trivial
   ·refine Ap rfl hb8<|Ap rfl hb8<|Ap rfl hb8<|Ap rfl hb8<|Ao rfl (.pickF (.t rfl) hb8 .bool)<|An<|W.condF (.t rfl)<|W.exit rfl ?_
    have hr15:=Si hm
    clear hm
    subst hr15
    have hm:=hk3
    try dsimp only at hm
    refine Aq<|Aw<|Am rfl rfl<|Ag rfl rfl<|WL.ns ?_
    cases hm
    exact W.ret1 () rfl (.t rfl) trivial
  ·refine Ap rfl hb5<|Ap rfl hb5<|Ap rfl hb5<|Ap rfl hb5<|Ao rfl (.pickF (.t rfl) hb5 .bool)<|Am rfl rfl<|Ap rfl rfl<|Ap rfl rfl<|Ap rfl rfl<|Ap rfl rfl<|Ao rfl (.pickF (.t rfl) rfl .bool)<|An<|W.condF (.t rfl)<|W.exit rfl ?_
   have hr16:=Si hm
   clear hm
   subst hr16
   have hm:=hk3
   try dsimp only at hm
   refine Aq<|Aw<|Am rfl rfl<|Ag rfl rfl<|WL.ns ?_
   cases hm
   exact W.ret1 () rfl (.t rfl) trivial
theorem r03_May_spec(n:Nat)(s0_:Str)(r:Bool)(hm:M.r03_May n s0_=some r):FSpec Tryz.prog 94 [(tS.is s0_)] (tB.is r):=by
 unfold M.r03_May at hm
 refine FSpec.of Tryz.func94 rfl rfl rfl fun g0=>Aw<|Ao rfl (.assign .bool)<|Ar<|WL.mv rfl rfl ?_
 obtain ⟨digits,hv1,hm⟩:=Bs hm
 refine Ao rfl (.call C132 (r03_digits_spec _ _ _ hv1) ⟨(.t rfl),trivial⟩)<|Ag rfl rfl<|An<|W.seq ?_
 obtain ⟨s2,hs3,hk4⟩:=Bs hm
 clear hm
 refine W.join (fun s:Bool=>s=s2) (fun s=>[(24,(tB.is s)),(0,(tS.is s0_)),(3,(I6.is digits))]) (fun s=>[]) ?_ ?_
 ·rintro v hj31
  try dsimp only at hj31
  subst hj31
  have hm:=hk4
  clear hk4
  try dsimp only at hm
  change W _ _ _ _ _ _ _ [(24,(tB.is v)),(0,(tS.is s0_)),(3,(I6.is digits))] []
  refine W.cB hm (.t rfl) (fun hp14 hm=>?_) (fun hp14 hm=>?_)
  ·refine Aw<|Ao rfl (.assign .bool)<|WL.ns ?_
   cases hm
   exact W.ret1 () rfl (.t rfl) trivial
  ·refine W.skip<|Aq<|W.seq<|Aw<|Am rfl rfl<|Ag rfl rfl<|An<|W.block ?_
   obtain ⟨s15,hs16,hk17⟩:=Bs hm
   clear hm
   refine W.loop (fun m (s:Int)=>M.r03_May_loop1 s0_ m s=some s15) (fun s=>[(4,(I6.is s)),(0,(tS.is s0_))]) (fun s=>[]) _ digits hs16 ⟨.q rfl,.q rfl,trivial⟩ trivial ?_
   rintro n18 i hm
   try dsimp only at hm
   change W _ _ _ _ _ _ _ [(4,(I6.is i)),(0,(tS.is s0_))] []
   cases n18 with
   | zero=>rw [M.r03_May_loop1.eq_1] at hm;cases hm
   | succ n18=>
    rw [M.r03_May_loop1.eq_2] at hm
    refine W.seq<|Aw<|Am rfl rfl<|Am rfl rfl<|Ao rfl (.lenS U9 (.t rfl))<|Ao rfl (.ltI (.t rfl) (.t rfl))<|An<|W.cD hm (.t rfl) (fun hp20 hm=>?_) (fun hp20 hm=>?_)
    ·refine W.skip<|Aq<|W.seq<|W.block<|Aw<|Am rfl rfl<|WL.mv rfl rfl ?_
     obtain ⟨b1,hv21,hm⟩:=Bs hm
     refine Ao rfl (.sidx hv21 U9 (.t rfl) (.t rfl))<|Ao rfl (.ltI (.t rfl) (.int (inR8.2 (by omega))))<|WL.mv rfl rfl ?_
     rcases iteD hm with ⟨hp23,hb22,hm⟩ | ⟨hp23,hb22,hm⟩
     ·refine Ap rfl hb22<|Ap rfl hb22<|Ap rfl hb22<|Ap rfl hb22<|Ao rfl (.pickT (.t rfl) hb22 .bool)<|An<|W.condT (.t rfl)<|Aw<|Ao rfl (.assign .bool)<|WL.ns ?_
      have hr24:=Si hm
      clear hm
      subst hr24
      have hm:=hk17
      try dsimp only at hm
      cases hm
      exact W.ret1 () rfl (.t rfl) trivial
     ·refine Ax rfl hb22 (.move (.t rfl))<|Ax rfl hb22 (.move (.t rfl)) ?_
      obtain ⟨b2,hv25,hm⟩:=Bs hm
      refine Ax rfl hb22 (.sidx hv25 U9 (.t rfl) (.t rfl))<|Ax rfl hb22 (.gtI (.t rfl) (.int (inR8.2 (by omega))))<|Ao rfl (.pickF (.t rfl) hb22 (.t rfl))<|An<|W.cD hm (.t rfl) (fun hp27 hm=>?_) (fun hp27 hm=>?_)
      ·refine Aw<|Ao rfl (.assign .bool)<|WL.ns ?_
       have hr28:=Si hm
       clear hm
       subst hr28
       have hm:=hk17
       try dsimp only at hm
       cases hm
       exact W.ret1 () rfl (.t rfl) trivial
      ·exact W.skip<|WN.block<|Aq<|W.region<|Am rfl rfl<|WL.lenS (s:=0) (.t rfl) fun hl29=>Ao rfl (.addI1 (.t rfl) .i64 hp20 hl29)<|Ag rfl rfl<|WL.nil<|WN.again n18 (i+1) (Nat.lt_succ_self n18) hm ⟨.q rfl,.q rfl,trivial⟩ trivial
    ·refine W.exit rfl ?_
     have hr30:=Si hm
     clear hm
     subst hr30
     have hm:=hk17
     try dsimp only at hm
     refine Aq<|Aw<|Ao rfl (.assign .bool)<|WL.ns ?_
     cases hm
     exact W.ret1 () rfl (.t rfl) trivial
 ·have hm:=hs3
  clear hs3
  refine W.region<|Am rfl rfl<|Ao rfl (.ltI (.t rfl) .i64)<|WL.mv rfl rfl ?_
  rcases iteD hm with ⟨hp6,hb5,hm⟩ | ⟨hp6,hb5,hm⟩
  ·refine Ap rfl hb5<|Ap rfl hb5<|Ao rfl (.pickT (.t rfl) hb5 .bool)<|Am rfl rfl<|Ap rfl rfl<|Ap rfl rfl<|Ap rfl rfl<|Ao rfl (.pickT (.t rfl) rfl .bool)<|Am rfl rfl<|Ap rfl rfl<|Ap rfl rfl<|Ap rfl rfl<|Ap rfl rfl<|Ap rfl rfl<|Ao rfl (.pickT (.t rfl) rfl .bool)<|WL.nil ?_
   exact WN.meet true (Si hm) ⟨.q rfl,.q rfl,.q rfl,trivial⟩ trivial
  ·refine Ax rfl hb5 (.move (.t rfl))<|Ax rfl hb5 (.gtI (.t rfl) .i64)<|Ao rfl (.pickF (.t rfl) hb5 (.t rfl))<|WL.mv rfl rfl ?_
   rcases iteD hm with ⟨hp8,hb7,hm⟩ | ⟨hp8,hb7,hm⟩
   ·exact Ap rfl hb7<|Ap rfl hb7<|Ap rfl hb7<|Ao rfl (.pickT (.t rfl) hb7 .bool)<|Am rfl rfl<|Ap rfl rfl<|Ap rfl rfl<|Ap rfl rfl<|Ap rfl rfl<|Ap rfl rfl<|Ao rfl (.pickT (.t rfl) rfl .bool)<|WL.nil<|WN.meet true (Si hm) ⟨.q rfl,.q rfl,.q rfl,trivial⟩ trivial
   ·refine Ax rfl hb7 (.move (.t rfl)) ?_
    obtain ⟨b,hv9,hm⟩:=Bs hm
    refine Ax rfl hb7 (.sidx hv9 U9 (.t rfl) .i64)<|Ax rfl hb7 (.eqI (.t rfl) (.int (inR8.2 (by omega))))<|Ao rfl (.pickF (.t rfl) hb7 (.t rfl))<|WL.mv rfl rfl ?_
    rcases iteD hm with ⟨hp11,hb10,hm⟩ | ⟨hp11,hb10,hm⟩
    ·exact Ap rfl hb10<|Ap rfl hb10<|Ap rfl hb10<|Ap rfl hb10<|Ap rfl hb10<|Ao rfl (.pickT (.t rfl) hb10 .bool)<|WL.nil<|WN.meet true (Si hm) ⟨.q rfl,.q rfl,.q rfl,trivial⟩ trivial
    ·refine Ax rfl hb10 (.move (.t rfl))<|Ax rfl hb10 (.lenS U9 (.t rfl))<|Ax rfl hb10 (.move (.t rfl)) ?_
     obtain ⟨v1,hv12,hm⟩:=Bs hm
     exact Ax rfl hb10 (.subC hv12 (.t rfl) (.t rfl))<|Ax rfl hb10 (.gtI (.t rfl) .i64)<|Ao rfl (.pickF (.t rfl) hb10 (.t rfl))<|WL.nil<|WN.meet (decide ((3:Int)< v1)) (Si hm) ⟨.q rfl,.q rfl,.q rfl,trivial⟩ trivial
theorem r53_own_spec(n:Nat)(t:api_TrackedUnit)(r:Bool)(hm:M.r53_own n t=some r):FSpec Tryz.prog 58 [(tapi_TrackedUnit.is t)] (tB.is r):=by
 unfold M.r53_own at hm
 refine FSpec.of Tryz.func58 rfl rfl rfl fun g0=>Aw<|Ao rfl (.box (.t rfl))<|Ao rfl (.assign .bool)<|An<|W.seq ?_
 obtain ⟨s1,hs2,hk3⟩:=Bs hm
 clear hm
 refine W.join (fun s:Bool=>s=s1) (fun s=>[(28,(tB.is s)),(1,(tapi_TrackedUnit.ptr t))]) (fun s=>[]) ?_ ?_
 ·rintro v hj45
  try dsimp only at hj45
  subst hj45
  have hm:=hk3
  clear hk3
  try dsimp only at hm
  change W _ _ _ _ _ _ _ [(28,(tB.is v)),(1,(tapi_TrackedUnit.ptr t))] []
  refine W.cB hm (.t rfl) (fun hp16 hm=>?_) (fun hp16 hm=>?_)
  ·refine Aw<|Ao rfl (.assign .bool)<|WL.ns ?_
   cases hm
   exact W.ret1 () rfl (.t rfl) trivial
  ·refine W.skip<|Aq<|W.seq ?_
   obtain ⟨s17,hs18,hk19⟩:=Bs hm
   clear hm
   refine W.join (fun s:Bool=>s=s17) (fun s=>[(46,(tB.is s)),(1,(tapi_TrackedUnit.ptr t))]) (fun s=>[]) ?_ ?_
   ·rintro v1 hj44
    try dsimp only at hj44
    subst hj44
    have hm:=hk19
    clear hk19
    try dsimp only at hm
    change W _ _ _ _ _ _ _ [(46,(tB.is v1)),(1,(tapi_TrackedUnit.ptr t))] []
    refine W.cB hm (.t rfl) (fun hp26 hm=>?_) (fun hp26 hm=>?_)
    ·refine Aw<|Ao rfl (.assign .bool)<|WL.ns ?_
     cases hm
     exact W.ret1 () rfl (.t rfl) trivial
    ·refine W.skip<|Aq<|W.seq ?_
     obtain ⟨s27,hs28,hk29⟩:=Bs hm
     clear hm
     refine W.join (fun s:Bool=>s=s27) (fun s=>[(62,(tB.is s)),(1,(tapi_TrackedUnit.ptr t))]) (fun s=>[]) ?_ ?_
     ·rintro v2 hj43
      try dsimp only at hj43
      subst hj43
      have hm:=hk29
      clear hk29
      try dsimp only at hm
      change W _ _ _ _ _ _ _ [(62,(tB.is v2)),(1,(tapi_TrackedUnit.ptr t))] []
      refine W.cB hm (.t rfl) (fun hp36 hm=>?_) (fun hp36 hm=>?_)
      ·refine Aw<|Ao rfl (.assign .bool)<|WL.ns ?_
       cases hm
       exact W.ret1 () rfl (.t rfl) trivial
      ·refine W.skip<|Aq<|Aw<|Ao rfl (.fieldAddr U33 rfl J3 fapi_TrackedUnit_0 (.t rfl))<|Ao rfl (.load ty3 (.t rfl))<|Ao rfl (.eqI (.t rfl) .i64)<|WL.mv rfl rfl ?_
       rcases iteD hm with ⟨hp38,hb37,hm⟩ | ⟨hp38,hb37,hm⟩
       ·refine Ap rfl hb37<|Ap rfl hb37<|Ap rfl hb37<|Ap rfl hb37<|WL.pass2 rfl rfl rfl rfl rfl rfl<|WL.pass2 rfl rfl rfl rfl rfl rfl<|WL.pass2 rfl rfl rfl rfl rfl rfl<|Ap rfl hb37<|Ap rfl hb37<|WL.pass2 rfl rfl rfl rfl rfl rfl<|WL.pass2 rfl rfl rfl rfl rfl rfl<|WL.pass2 rfl rfl rfl rfl rfl rfl<|Ap rfl hb37<|Ao rfl (.pickT (.t rfl) hb37 .bool)<|Ag rfl rfl<|WL.ns ?_
        cases hm
        exact W.ret1 () rfl (.t rfl) trivial
       ·refine Ax rfl hb37 (.fieldAddr U33 rfl J3 fapi_TrackedUnit_0 (.t rfl))<|Ax rfl hb37 (.load ty3 (.t rfl))<|Ax rfl hb37 (.eqI (.t rfl) .i64)<|Ax rfl hb37 (.move (.t rfl)) ?_
        rcases iteD hm with ⟨hp40,hb39,hm⟩ | ⟨hp40,hb39,hm⟩
        ·refine Ap rfl hb39<|Ap rfl hb39<|Ap rfl hb39<|Ax rfl hb37 (.pickT (.t rfl) hb39 .bool)<|Ax rfl hb37 (.move (.t rfl))<|Ax rfl rfl (.fieldAddr U33 rfl J4 fapi_TrackedUnit_5 (.t rfl))<|Ax rfl rfl (.load ty4 (.t rfl))<|Ax rfl rfl (.notB (.t rfl))<|Ax rfl hb37 (.pickT (.t rfl) rfl (.t rfl))<|Ao rfl (.pickF (.t rfl) hb37 (.t rfl))<|Ag rfl rfl<|WL.ns ?_
         cases hm
         exact W.ret1 () rfl (.t rfl) trivial
        ·refine Ax rfl hb39 (.fieldAddr U33 rfl J3 fapi_TrackedUnit_0 (.t rfl))<|Ax rfl hb39 (.load ty3 (.t rfl))<|Ax rfl hb39 (.eqI (.t rfl) .i64)<|Ax rfl hb37 (.pickF (.t rfl) hb39 (.t rfl))<|Ax rfl hb37 (.move (.t rfl)) ?_
         rcases iteD hm with ⟨hp42,hb41,hm⟩ | ⟨hp42,hb41,hm⟩
         ·refine Ax rfl hb41 (.fieldAddr U33 rfl J4 fapi_TrackedUnit_5 (.t rfl))<|Ax rfl hb41 (.load ty4 (.t rfl))<|Ax rfl hb41 (.notB (.t rfl))<|Ax rfl hb37 (.pickT (.t rfl) hb41 (.t rfl))<|Ao rfl (.pickF (.t rfl) hb37 (.t rfl))<|Ag rfl rfl<|WL.ns ?_
          cases hm
          exact W.ret1 () rfl (.t rfl) trivial
         ·refine Ap rfl hb41<|Ap rfl hb41<|Ap rfl hb41<|Ax rfl hb37 (.pickF (.t rfl) hb41 .bool)<|Ao rfl (.pickF (.t rfl) hb37 (.t rfl))<|Ag rfl rfl<|WL.ns ?_
          cases hm
          exact W.ret1 () rfl (.t rfl) trivial
     ·have hm:=hs28
      clear hs28
      refine W.region<|Ao rfl (.fieldAddr U33 rfl J9 fapi_TrackedUnit_4 (.t rfl))<|Ao rfl (.load ty9 (.t rfl))<|Ao rfl (.neS (.t rfl) (.str rfl (by decide)))<|WL.mv rfl rfl ?_
      rcases iteB hm with ⟨hp31,hb30,hm⟩ | ⟨hp31,hb30,hm⟩
      ·refine Ax rfl hb30 (.fieldAddr U33 rfl J9 fapi_TrackedUnit_4 (.t rfl))<|Ax rfl hb30 (.load ty9 (.t rfl)) ?_
       obtain ⟨may1,hv32,hm⟩:=Bs hm
       refine Ax rfl hb30 (.call C94 (r03_May_spec _ _ _ hv32) ⟨(.t rfl),trivial⟩)<|Ax rfl hb30 (.notB (.t rfl))<|Ax rfl hb30 (.move (.t rfl)) ?_
       rcases iteR hm with ⟨hp34,hb33,hm⟩ | ⟨hp34,hb33,hm⟩
       ·exact Ap rfl hb33<|Ap rfl hb33<|Ap rfl hb33<|Ap rfl hb33<|Ap rfl hb33<|Ax rfl hb30 (.pickT (.t rfl) hb33 .bool)<|Ao rfl (.pickT (.t rfl) hb30 (.t rfl))<|WL.nil<|WN.meet true (Si hm) ⟨.q rfl,.q rfl,trivial⟩ trivial
       ·exact Ax rfl hb33 (.fieldAddr U33 rfl J9 fapi_TrackedUnit_4 (.t rfl))<|Ax rfl hb33 (.load ty9 (.t rfl))<|Ax rfl hb33 (.fieldAddr U33 rfl J9 fapi_TrackedUnit_3 (.t rfl))<|Ax rfl hb33 (.load ty9 (.t rfl))<|Ax rfl hb33 (.eqS (.t rfl) (.t rfl))<|Ax rfl hb30 (.pickF (.t rfl) hb33 (.t rfl))<|Ao rfl (.pickT (.t rfl) hb30 (.t rfl))<|WL.nil<|WN.meet (t.Was==t.Label) (Si hm) ⟨.q rfl,.q rfl,trivial⟩ trivial
      ·exact Ap rfl hb30<|Ap rfl hb30<|Ap rfl hb30<|Ap rfl hb30<|Ap rfl hb30<|WL.pass2 rfl rfl rfl rfl rfl rfl<|WL.pass2 rfl rfl rfl rfl rfl rfl<|WL.pass2 rfl rfl rfl rfl rfl rfl<|WL.pass2 rfl rfl rfl rfl rfl rfl<|WL.pass2 rfl rfl rfl rfl rfl rfl<|Ap rfl hb30<|Ao rfl (.pickF (.t rfl) hb30 .bool)<|WL.nil<|WN.meet false (Si hm) ⟨.q rfl,.q rfl,trivial⟩ trivial
   ·have hm:=hs18
    clear hs18
    refine W.region<|Ao rfl (.fieldAddr U33 rfl J3 fapi_TrackedUnit_1 (.t rfl))<|Ao rfl (.load ty3 (.t rfl))<|Ao rfl (.eqI (.t rfl) .i64)<|Ao rfl (.fieldAddr U33 rfl J9 fapi_TrackedUnit_3 (.t rfl))<|Ao rfl (.load ty9 (.t rfl))<|Ao rfl (.eqS (.t rfl) (.str rfl (by decide)))<|Ao rfl (.neB U4 (.t rfl) (.t rfl))<|WL.mv rfl rfl ?_
    rcases iteB hm with ⟨hp21,hb20,hm⟩ | ⟨hp21,hb20,hm⟩
    ·exact Ap rfl hb20<|Ap rfl hb20<|Ap rfl hb20<|Ap rfl hb20<|WL.pass2 rfl rfl rfl rfl rfl rfl<|WL.pass2 rfl rfl rfl rfl rfl rfl<|WL.pass2 rfl rfl rfl rfl rfl rfl<|WL.pass2 rfl rfl rfl rfl rfl rfl<|Ap rfl hb20<|Ao rfl (.pickT (.t rfl) hb20 .bool)<|WL.nil<|WN.meet true (Si hm) ⟨.q rfl,.q rfl,trivial⟩ trivial
    ·refine Ax rfl hb20 (.fieldAddr U33 rfl J9 fapi_TrackedUnit_3 (.t rfl))<|Ax rfl hb20 (.load ty9 (.t rfl))<|Ax rfl hb20 (.neS (.t rfl) (.str rfl (by decide)))<|Ax rfl hb20 (.move (.t rfl)) ?_
     rcases iteB hm with ⟨hp23,hb22,hm⟩ | ⟨hp23,hb22,hm⟩
     ·refine Ax rfl hb22 (.fieldAddr U33 rfl J9 fapi_TrackedUnit_3 (.t rfl))<|Ax rfl hb22 (.load ty9 (.t rfl)) ?_
      obtain ⟨may,hv24,hm⟩:=Bs hm
      exact Ax rfl hb22 (.call C94 (r03_May_spec _ _ _ hv24) ⟨(.t rfl),trivial⟩)<|Ax rfl hb22 (.notB (.t rfl))<|Ax rfl hb20 (.pickT (.t rfl) hb22 (.t rfl))<|Ao rfl (.pickF (.t rfl) hb20 (.t rfl))<|WL.nil<|WN.meet (!may) (Si hm) ⟨.q rfl,.q rfl,trivial⟩ trivial
     ·exact Ap rfl hb22<|Ap rfl hb22<|Ap rfl hb22<|Ap rfl hb22<|Ax rfl hb20 (.pickF (.t rfl) hb22 .bool)<|Ao rfl (.pickF (.t rfl) hb20 (.t rfl))<|WL.nil<|WN.meet false (Si hm) ⟨.q rfl,.q rfl,trivial⟩ trivial
 ·have hm:=hs2
  clear hs2
  refine W.region<|Ao rfl (.fieldAddr U33 rfl J3 fapi_TrackedUnit_1 (.t rfl))<|Ao rfl (.load ty3 (.t rfl))<|Ao rfl (.ltI (.t rfl) .i64)<|WL.mv rfl rfl ?_
  rcases iteD hm with ⟨hp5,hb4,hm⟩ | ⟨hp5,hb4,hm⟩
  ·refine Ap rfl hb4<|Ap rfl hb4<|Ap rfl hb4<|Ao rfl (.pickT (.t rfl) hb4 .bool)<|Am rfl rfl<|Ap rfl rfl<|Ap rfl rfl<|Ap rfl rfl<|Ap rfl rfl<|Ao rfl (.pickT (.t rfl) rfl .bool)<|Am rfl rfl<|Ap rfl rfl<|Ap rfl rfl<|Ap rfl rfl<|Ap rfl rfl<|Ao rfl (.pickT (.t rfl) rfl .bool) ?_
   exact Am rfl rfl<|Ap rfl rfl<|Ap rfl rfl<|Ap rfl rfl<|Ap rfl rfl<|Ao rfl (.pickT (.t rfl) rfl .bool)<|WL.nil<|WN.meet true (Si hm) ⟨.q rfl,.q rfl,trivial⟩ trivial
  ·refine Ax rfl hb4 (.fieldAddr U33 rfl J3 fapi_TrackedUnit_1 (.t rfl))<|Ax rfl hb4 (.load ty3 (.t rfl))<|Ax rfl hb4 (.gtI (.t rfl) .i64)<|Ao rfl (.pickF (.t rfl) hb4 (.t rfl))<|WL.mv rfl rfl ?_
   rcases iteD hm with ⟨hp7,hb6,hm⟩ | ⟨hp7,hb6,hm⟩
   ·refine Ap rfl hb6<|Ap rfl hb6<|Ap rfl hb6<|Ap rfl hb6<|Ao rfl (.pickT (.t rfl) hb6 .bool)<|Am rfl rfl<|Ap rfl rfl<|Ap rfl rfl<|Ap rfl rfl<|Ap rfl rfl<|Ao rfl (.pickT (.t rfl) rfl .bool)<|Am rfl rfl<|Ap rfl rfl<|Ap rfl rfl<|Ap rfl rfl<|Ap rfl rfl ?_
    exact Ao rfl (.pickT (.t rfl) rfl .bool)<|WL.nil<|WN.meet true (Si hm) ⟨.q rfl,.q rfl,trivial⟩ trivial
   ·refine Ax rfl hb6 (.fieldAddr U33 rfl J23 fapi_TrackedUnit_2 (.t rfl))<|Ax rfl hb6 (.load ty23 (.t rfl)) ?_
    obtain ⟨number,hv8,hm⟩:=Bs hm
    refine Ax rfl hb6 (.call C92 (r53_numbers_spec _ _ hv8) ⟨(.t rfl),trivial⟩)<|Ax rfl hb6 (.notB (.t rfl))<|Ao rfl (.pickF (.t rfl) hb6 (.t rfl))<|WL.mv rfl rfl ?_
    rcases iteR hm with ⟨hp10,hb9,hm⟩ | ⟨hp10,hb9,hm⟩
    ·exact Ap rfl hb9<|Ap rfl hb9<|Ap rfl hb9<|Ap rfl hb9<|Ao rfl (.pickT (.t rfl) hb9 .bool)<|Am rfl rfl<|Ap rfl rfl<|Ap rfl rfl<|Ap rfl rfl<|Ap rfl rfl<|Ao rfl (.pickT (.t rfl) rfl .bool)<|WL.nil<|WN.meet true (Si hm) ⟨.q rfl,.q rfl,trivial⟩ trivial
    ·refine Ax rfl hb9 (.fieldAddr U33 rfl J30 fapi_TrackedUnit_6 (.t rfl))<|Ax rfl hb9 (.load ty30 (.t rfl)) ?_
     obtain ⟨mayrow,hv11,hm⟩:=Bs hm
     refine Ax rfl hb9 (.call C93 (r53_MayRow_spec _ _ _ hv11) ⟨(.t rfl),trivial⟩)<|Ax rfl hb9 (.notB (.t rfl))<|Ao rfl (.pickF (.t rfl) hb9 (.t rfl))<|WL.mv rfl rfl ?_
     rcases iteR hm with ⟨hp13,hb12,hm⟩ | ⟨hp13,hb12,hm⟩
     ·exact Ap rfl hb12<|Ap rfl hb12<|Ap rfl hb12<|Ap rfl hb12<|Ao rfl (.pickT (.t rfl) hb12 .bool)<|WL.nil<|WN.meet true (Si hm) ⟨.q rfl,.q rfl,trivial⟩ trivial
     ·refine Ax rfl hb12 (.fieldAddr U33 rfl J30 fapi_TrackedUnit_7 (.t rfl))<|Ax rfl hb12 (.load ty30 (.t rfl)) ?_
      obtain ⟨mayrow1,hv14,hm⟩:=Bs hm
      exact Ax rfl hb12 (.call C93 (r53_MayRow_spec _ _ _ hv14) ⟨(.t rfl),trivial⟩)<|Ax rfl hb12 (.notB (.t rfl))<|Ao rfl (.pickF (.t rfl) hb12 (.t rfl))<|WL.nil<|WN.meet (!mayrow1) (Si hm) ⟨.q rfl,.q rfl,trivial⟩ trivial
theorem r53_may_spec:∀ (n:Nat) (t:api_TrackedUnit) (depth:Int) (r:Bool),M.r53_may n t depth=some r→FSpec Tryz.prog 28 [(tapi_TrackedUnit.is t),(I6.is depth)] (tB.is r):=by
 intro n
 induction n with
 | zero=>intro t depth r hm;cases hm
 | succ n ih=>
  intro t depth r hm
  rw [M.r53_may.eq_2] at hm
  refine FSpec.of Tryz.func28 rfl rfl rfl fun g0=>Aw<|Ao rfl (.box (.t rfl))<|Ao rfl (.assign .bool)<|An<|W.seq<|Aw<|Am rfl rfl<|Ao rfl (.gtI (.t rfl) .i64)<|An<|W.cD hm (.t rfl) (fun hp2 hm=>?_) (fun hp2 hm=>?_)
  ·refine Aw<|Ao rfl (.assign .bool)<|WL.ns ?_
   cases hm
   exact W.ret1 () rfl (.t rfl) trivial
  ·refine W.skip<|Aq<|W.seq ?_
   obtain ⟨s3,hs4,hk5⟩:=Bs hm
   clear hm
   refine W.join (fun s:Bool=>s=s3) (fun s=>[(13,(tB.is s)),(1,(I6.is depth)),(2,(tapi_TrackedUnit.ptr t))]) (fun s=>[]) ?_ ?_
   ·rintro v hj28
    try dsimp only at hj28
    subst hj28
    have hm:=hk5
    clear hk5
    try dsimp only at hm
    change W _ _ _ _ _ _ _ [(13,(tB.is v)),(1,(I6.is depth)),(2,(tapi_TrackedUnit.ptr t))] []
    refine W.cB hm (.t rfl) (fun hp10 hm=>?_) (fun hp10 hm=>?_)
    ·refine Aw<|Ao rfl (.assign .bool)<|WL.ns ?_
     cases hm
     exact W.ret1 () rfl (.t rfl) trivial
    ·refine W.skip<|Aq<|W.seq<|Aw<|Ao rfl (.load ty33 (.t rfl)) ?_
     obtain ⟨own,hv11,hm⟩:=Bs hm
     refine Ao rfl (.call C58 (r53_own_spec _ _ _ hv11) ⟨(.t rfl),trivial⟩)<|Ao rfl (.notB (.t rfl))<|An<|W.cR hm (.t rfl) (fun hp13 hm=>?_) (fun hp13 hm=>?_)
     ·refine Aw<|Ao rfl (.assign .bool)<|WL.ns ?_
      cases hm
      exact W.ret1 () rfl (.t rfl) trivial
     ·refine W.skip<|Aq<|W.seq<|Aw<|Ao rfl (.assign .i64)<|An<|W.block ?_
      obtain ⟨s14,hs15,hk16⟩:=Bs hm
      clear hm
      refine W.loop (fun m (s:Int)=>M.r53_may_loop1 t depth (M.r53_may n) m s=some s14) (fun s=>[(5,(I6.is s)),(1,(I6.is depth)),(2,(tapi_TrackedUnit.ptr t))]) (fun s=>[]) _ (0:Int) hs15 ⟨.q rfl,.q rfl,.q rfl,trivial⟩ trivial ?_
      rintro n17 i hm
      try dsimp only at hm
      change W _ _ _ _ _ _ _ [(5,(I6.is i)),(1,(I6.is depth)),(2,(tapi_TrackedUnit.ptr t))] []
      cases n17 with
      | zero=>rw [M.r53_may_loop1.eq_1] at hm;cases hm
      | succ n17=>
       rw [M.r53_may_loop1.eq_2] at hm
       refine W.seq<|Aw<|Am rfl rfl<|Ao rfl (.fieldAddr U33 rfl J31 fapi_TrackedUnit_8 (.t rfl))<|Ao rfl (.load ty31 (.t rfl))<|Ao rfl (.lenL U31 (.t rfl))<|Ao rfl (.ltI (.t rfl) (.t rfl))<|An<|W.cD hm (.t rfl) (fun hp19 hm=>?_) (fun hp19 hm=>?_)
       ·refine W.skip<|Aq<|W.seq<|W.block<|Aw<|Ao rfl (.fieldAddr U33 rfl J31 fapi_TrackedUnit_8 (.t rfl))<|Ao rfl (.load ty31 (.t rfl))<|WL.mv rfl rfl ?_
        obtain ⟨v1,hv20,hm⟩:=Bs hm
        refine Ao rfl (.idx hv20 U31 Z33 (.t rfl) (.t rfl))<|Ao rfl (.load ty33 (.t rfl))<|WL.mv rfl rfl ?_
        obtain ⟨v2,hv21,hm⟩:=Bs hm
        refine Ao rfl (.addC hv21 (.t rfl) .i64) ?_
        obtain ⟨may,hv22,hm⟩:=Bs hm
        refine Ao rfl (.call C28 (ih _ _ _ hv22) ⟨(.t rfl),(.t rfl),trivial⟩)<|Ao rfl (.notB (.t rfl))<|An<|W.cR hm (.t rfl) (fun hp24 hm=>?_) (fun hp24 hm=>?_)
        ·refine Aw<|Ao rfl (.assign .bool)<|WL.ns ?_
         have hr25:=Si hm
         clear hm
         subst hr25
         have hm:=hk16
         try dsimp only at hm
         cases hm
         exact W.ret1 () rfl (.t rfl) trivial
        ·exact W.skip<|WN.block<|Aq<|W.region<|Am rfl rfl<|WL.lenL (s:=19) (.t rfl) fun hl26=>Ao rfl (.addI1 (.t rfl) .i64 hp19 hl26)<|Ag rfl rfl<|WL.nil<|WN.again n17 (i+1) (Nat.lt_succ_self n17) hm ⟨.q rfl,.q rfl,.q rfl,trivial⟩ trivial
       ·refine W.exit rfl ?_
        have hr27:=Si hm
        clear hm
        subst hr27
        have hm:=hk16
        try dsimp only at hm
        refine Aq<|Aw<|Ao rfl (.assign .bool)<|WL.ns ?_
        cases hm
        exact W.ret1 () rfl (.t rfl) trivial
   ·have hm:=hs4
    clear hs4
    refine W.region<|Am rfl rfl<|Ao rfl (.gtI (.t rfl) .i64)<|WL.mv rfl rfl ?_
    rcases iteD hm with ⟨hp7,hb6,hm⟩ | ⟨hp7,hb6,hm⟩
    ·refine Ax rfl hb6 (.load ty33 (.t rfl)) ?_
     obtain ⟨place,hv8,hm⟩:=Bs hm
     exact Ax rfl hb6 (.call C57 (r53_Place_spec _ _ hv8) ⟨(.t rfl),trivial⟩)<|Ao rfl (.pickT (.t rfl) hb6 (.t rfl))<|WL.nil<|WN.meet place (Si hm) ⟨.q rfl,.q rfl,.q rfl,trivial⟩ trivial
    ·exact Ap rfl hb6<|Ap rfl hb6<|Ao rfl (.pickF (.t rfl) hb6 .bool)<|WL.nil<|WN.meet false (Si hm) ⟨.q rfl,.q rfl,.q rfl,trivial⟩ trivial
theorem r53_May_spec(n:Nat)(t:api_TrackedUnit)(r:Bool)(hm:M.r53_May n t=some r):FSpec Tryz.prog 9 [(tapi_TrackedUnit.is t)] (tB.is r):=by
 unfold M.r53_May at hm
 refine FSpec.of Tryz.func9 rfl rfl rfl fun g0=>Aw<|Ao rfl (.box (.t rfl))<|Ao rfl (.assign .bool)<|Ar<|Ao rfl (.load ty33 (.t rfl)) ?_
 obtain ⟨may,hv1,hm⟩:=Bs hm
 refine Ao rfl (.call C28 (r53_may_spec _ _ _ _ hv1) ⟨(.t rfl),.i64,trivial⟩)<|Ag rfl rfl<|WL.ns ?_
 cases hm
 exact W.ret1 () rfl (.t rfl) trivial
theorem r06_Count_spec:∀ (n:Nat) (u:api_Unit) (r:Int),M.r06_Count n u=some r→FSpec Tryz.prog 11 [(tapi_Unit.is u)] (I6.is r):=by
 intro n
 induction n with
 | zero=>intro u r hm;cases hm
 | succ n ih=>
  intro u r hm
  rw [M.r06_Count.eq_2] at hm
  refine FSpec.of Tryz.func11 rfl rfl rfl fun g0=>Aw<|Ao rfl (.box (.t rfl))<|Ao rfl (.assign .i64)<|Ar<|Ao rfl (.assign .i64)<|An<|W.seq<|Aw<|Ao rfl (.assign .i64)<|An<|W.block ?_
  obtain ⟨s1,hs2,hk3⟩:=Bs hm
  clear hm
  refine W.loop (fun m (s:Int×Int)=>M.r06_Count_loop1 u (M.r06_Count n) m s.1 s.2=some s1) (fun s=>[(3,(I6.is s.1)),(4,(I6.is s.2)),(1,(tapi_Unit.ptr u))]) (fun s=>[]) _ ((1:Int),(0:Int)) hs2 ⟨.q rfl,.q rfl,.q rfl,trivial⟩ trivial ?_
  rintro n4 ⟨n0_,i⟩ hm
  try dsimp only at hm
  change W _ _ _ _ _ _ _ [(3,(I6.is n0_)),(4,(I6.is i)),(1,(tapi_Unit.ptr u))] []
  cases n4 with
  | zero=>rw [M.r06_Count_loop1.eq_1] at hm;cases hm
  | succ n4=>
   rw [M.r06_Count_loop1.eq_2] at hm
   refine W.seq<|Aw<|Am rfl rfl<|Ao rfl (.fieldAddr U27 rfl J25 fapi_Unit_5 (.t rfl))<|Ao rfl (.load ty25 (.t rfl))<|Ao rfl (.lenL U25 (.t rfl))<|Ao rfl (.ltI (.t rfl) (.t rfl))<|An<|W.cD hm (.t rfl) (fun hp6 hm=>?_) (fun hp6 hm=>?_)
   ·refine W.skip<|Aq<|W.seq<|W.block<|W.region<|Am rfl rfl<|Ao rfl (.fieldAddr U27 rfl J25 fapi_Unit_5 (.t rfl))<|Ao rfl (.load ty25 (.t rfl))<|WL.mv rfl rfl ?_
    obtain ⟨v,hv7,hm⟩:=Bs hm
    refine Ao rfl (.idx hv7 U25 Z27 (.t rfl) (.t rfl))<|Ao rfl (.load ty27 (.t rfl)) ?_
    obtain ⟨count,hv8,hm⟩:=Bs hm
    refine Ao rfl (.call C11 (ih _ _ hv8) ⟨(.t rfl),trivial⟩) ?_
    obtain ⟨v1,hv9,hm⟩:=Bs hm
    exact Ao rfl (.addC hv9 (.t rfl) (.t rfl))<|Ag rfl rfl<|WL.nil<|WN.block<|Aq<|W.region<|Am rfl rfl<|WL.lenL (s:=7) (.t rfl) fun hl10=>Ao rfl (.addI1 (.t rfl) .i64 hp6 hl10)<|Ag rfl rfl<|WL.nil<|WN.again n4 (v1,i+1) (Nat.lt_succ_self n4) hm ⟨.q rfl,.q rfl,.q rfl,trivial⟩ trivial
   ·refine W.exit rfl ?_
    have hr11:=Si hm
    clear hm
    subst hr11
    have hm:=hk3
    try dsimp only at hm
    refine Aq<|Aw<|Am rfl rfl<|Ag rfl rfl<|WL.ns ?_
    cases hm
    exact W.ret1 () rfl (.t rfl) trivial
theorem r04_Pieces_spec(n:Nat)(s0_:Str)(r:List Str)(hm:M.r04_Pieces n s0_=some r):FSpec Tryz.prog 12 [(tS.is s0_)] ((tL tS).is r):=by
 unfold M.r04_Pieces at hm
 refine FSpec.of Tryz.func12 rfl rfl rfl fun g0=>Aw<|Ao rfl (.assign (.nil (t:=tS)))<|Ar<|WL.opR rfl (OpR.buildSlice (n:=0) (ys:=[]) (z:=([]:Str)) (xs:=([]:List Str)) 6 U38 el9 ze9 trivial (by simp) (by decide) rfl) fun k=>Ag rfl rfl<|An<|W.seq<|Aw<|Am rfl rfl<|Ao rfl (.eqS (.t rfl) (.str rfl (by decide)))<|An<|W.cB hm (.t rfl) (fun hp2 hm=>?_) (fun hp2 hm=>?_)
 ·refine Aw<|Am rfl rfl<|Ag rfl rfl<|WL.ns ?_
  cases hm
  exact W.ret1 () rfl (Opd.own (.t rfl)) trivial
 ·refine W.skip<|Aq<|Aw<|Ao rfl (.assign .i64)<|An<|W.seq<|Aw<|Ao rfl (.assign .i64)<|An<|W.block ?_
  obtain ⟨s3,hs4,hk5⟩:=Bs hm
  clear hm
  refine W.loop (fun m (s:((List Str)×Int×Int)×Tok)=>M.r04_Pieces_loop1 s0_ m s.1.1 s.1.2.1 s.1.2.2=some s3) (fun s=>[(3,(tO tS s.2 s.1.1)),(4,(I6.is s.1.2.1)),(5,(I6.is s.1.2.2)),(0,(tS.is s0_))]) (fun s=>[(6,Dec.Own tS 9 s.2 s.1.1.length)]) _ ((([]:List Str),(0:Int),(0:Int)),k) hs4 ⟨.q rfl,.q rfl,.q rfl,.q rfl,trivial⟩ ⟨rfl,rfl,trivial⟩ ?_
  rintro n6 ⟨⟨out,from0_,i⟩,k1⟩ hm
  try dsimp only at hm
  change W _ _ _ _ _ _ _ [(3,(tO tS k1 out)),(4,(I6.is from0_)),(5,(I6.is i)),(0,(tS.is s0_))] [(6,Dec.Own tS 9 k1 out.length)]
  cases n6 with
  | zero=>rw [M.r04_Pieces_loop1.eq_1] at hm;cases hm
  | succ n6=>
   rw [M.r04_Pieces_loop1.eq_2] at hm
   refine W.seq<|Aw<|Am rfl rfl<|Am rfl rfl<|Ao rfl (.lenS U9 (.t rfl))<|Ao rfl (.leI (.t rfl) (.t rfl))<|An<|W.cD hm (.t rfl) (fun hp8 hm=>?_) (fun hp8 hm=>?_)
   ·refine W.skip<|Aq<|W.seq<|W.block ?_
    obtain ⟨s9,hs10,hk11⟩:=Bs hm
    clear hm
    refine W.join (fun s:Bool=>s=s9) (fun s=>[(25,(tB.is s)),(0,(tS.is s0_)),(3,(tO tS k1 out)),(4,(I6.is from0_)),(5,(I6.is i))]) (fun s=>[(6,Dec.Own tS 9 k1 out.length)]) ?_ ?_
    ·rintro v hj22
     try dsimp only at hj22
     subst hj22
     have hm:=hk11
     clear hk11
     try dsimp only at hm
     change W _ _ _ _ _ _ _ [(25,(tB.is v)),(0,(tS.is s0_)),(3,(tO tS k1 out)),(4,(I6.is from0_)),(5,(I6.is i))] [(6,Dec.Own tS 9 k1 out.length)]
     refine W.cB hm (.t rfl) (fun hp16 hm=>?_) (fun hp16 hm=>?_)
     ·refine Aw<|Am rfl rfl<|Am rfl rfl<|Am rfl rfl<|WL.mv rfl rfl ?_
      obtain ⟨v1,hv17,hm⟩:=Bs hm
      refine Ao rfl (.sslc hv17 U9 (.t rfl) (.t rfl) (.t rfl))<|Ao rfl (.buildSlice (n:=1) (ys:=[(0,v1)]) (z:=([]:Str)) (xs:=[v1]) U38 el9 ze9 ⟨rfl,(.t rfl),trivial⟩ (by simp) (by decide) rfl) ?_
      obtain ⟨out1,hv18,hm⟩:=Bs hm
      refine WL.opR rfl (OpR.appC (key:=6) hv18 U38 el9 (.t rfl) (.t rfl) rfl) fun k2=>Ag rfl rfl<|WL.nr1<|WL.mv rfl rfl ?_
      obtain ⟨v2,hv19,hm⟩:=Bs hm
      refine Ao rfl (.addC hv19 (.t rfl) .i64)<|Ag rfl rfl<|WL.nil<|WN.block<|Aq<|W.region<|WL.mv rfl rfl ?_
      obtain ⟨v3,hv20,hm⟩:=Bs hm
      exact Ao rfl (.addC hv20 (.t rfl) .i64)<|Ag rfl rfl<|WL.nil<|WN.again n6 ((out1,v2,v3),k2) (Nat.lt_succ_self n6) hm ⟨.q rfl,.q rfl,.q rfl,.q rfl,trivial⟩ ⟨rfl,rfl,trivial⟩
     ·refine W.skip<|WN.block<|Aq<|W.region<|WL.mv rfl rfl ?_
      obtain ⟨v4,hv21,hm⟩:=Bs hm
      exact Ao rfl (.addC hv21 (.t rfl) .i64)<|Ag rfl rfl<|WL.nil<|WN.again n6 ((out,from0_,v4),k1) (Nat.lt_succ_self n6) hm ⟨.q rfl,.q rfl,.q rfl,.q rfl,trivial⟩ ⟨rfl,rfl,trivial⟩
    ·have hm:=hs10
     clear hs10
     refine W.region<|Am rfl rfl<|Am rfl rfl<|Ao rfl (.lenS U9 (.t rfl))<|Ao rfl (.eqI (.t rfl) (.t rfl))<|WL.mv rfl rfl ?_
     rcases iteD hm with ⟨hp13,hb12,hm⟩ | ⟨hp13,hb12,hm⟩
     ·exact Ap rfl hb12<|Ap rfl hb12<|Ap rfl hb12<|Ap rfl hb12<|Ao rfl (.pickT (.t rfl) hb12 .bool)<|WL.nil<|WN.meet true (Si hm) ⟨.q rfl,.q rfl,.q rfl,.q rfl,.q rfl,trivial⟩ ⟨rfl,rfl,trivial⟩
     ·refine Ax rfl hb12 (.move (.t rfl))<|Ax rfl hb12 (.move (.t rfl)) ?_
      obtain ⟨b,hv14,hm⟩:=Bs hm
      exact Ax rfl hb12 (.sidx hv14 U9 (.t rfl) (.t rfl))<|Ax rfl hb12 (.eqI (.t rfl) (.int (inR8.2 (by omega))))<|Ao rfl (.pickF (.t rfl) hb12 (.t rfl))<|WL.nil<|WN.meet (decide ((b.toNat:Int)=(32:Int))) (Si hm) ⟨.q rfl,.q rfl,.q rfl,.q rfl,.q rfl,trivial⟩ ⟨rfl,rfl,trivial⟩
   ·refine W.exit rfl ?_
    have hr23:=Si hm
    clear hm
    subst hr23
    have hm:=hk5
    try dsimp only at hm
    refine Aq<|Aw<|Am rfl rfl<|Ag rfl rfl<|WL.ns ?_
    cases hm
    exact W.ret1 () rfl (Opd.own (.t rfl)) trivial
theorem law53_MarkupUnchanged_spec(n:Nat)(a:api_Unit)(r:Bool)(hm:M.law53_MarkupUnchanged n a=some r):FSpecR Tryz.prog 3 [(tapi_Unit.is a)] [(700000,Gl (tA 3 tS) 0 gv0),(700001,Gl (tA 3 tS) 1 gv1),(700002,Gl (tA 8 tS) 2 gv2),(700003,GlE 3),(700004,Gl (tA 8 (tL I6)) 4 gv4),(700007,GlT Tryz.prog "internal/strconv.uint64pow10" .u64 Lib.pow10Tab)] (fun _:Unit=>(tB.is r)) (fun _=>[]):=by
 unfold M.law53_MarkupUnchanged at hm
 refine FSpecR.of Tryz.func3 rfl rfl rfl fun g0=>Aw<|Ao rfl (.box (.t rfl))<|Ao rfl (.assign .bool)<|An<|W.seq<|W.sr ?_
 obtain ⟨awake,hv1,hm⟩:=Bs hm
 refine Ao rfl (.callG (rin:=[(700000,Gl (tA 3 tS) 0 gv0),(700001,Gl (tA 3 tS) 1 gv1),(700002,Gl (tA 8 tS) 2 gv2),(700003,GlE 3),(700007,GlT Tryz.prog "internal/strconv.uint64pow10" .u64 Lib.pow10Tab)]) C6 (law53_awake_spec _ _ hv1) ⟨rfl,rfl,rfl,rfl,rfl,trivial⟩ ⟨rfl,rfl,⟨rfl,rfl,⟨rfl,rfl,⟨rfl,rfl,⟨rfl,rfl,trivial⟩⟩⟩⟩⟩ trivial)<|Ao rfl (.notB (.t rfl))<|An<|W.cR hm (.t rfl) (fun hp3 hm=>?_) (fun hp3 hm=>?_)
 ·refine Aw<|Ao rfl (.assign .bool)<|WL.ns ?_
  cases hm
  exact W.ret1 () rfl (.t rfl) trivial
 ·refine W.skip<|Aq<|W.seq<|Aw<|Ao rfl (.load ty27 (.t rfl)) ?_
  obtain ⟨few,hv4,hm⟩:=Bs hm
  refine Ao rfl (.call C7 (r06_Few_spec _ _ _ _ hv4) ⟨(.t rfl),.i64,trivial⟩)<|Ao rfl (.notB (.t rfl))<|An<|W.cR hm (.t rfl) (fun hp6 hm=>?_) (fun hp6 hm=>?_)
  ·refine Aw<|Ao rfl (.assign .bool)<|WL.ns ?_
   cases hm
   exact W.ret1 () rfl (.t rfl) trivial
  ·refine W.skip<|Aq<|Aw<|Ao rfl (.load ty27 (.t rfl))<|Ao rfl (.load ty27 (.t rfl)) ?_
   obtain ⟨diff,hv7,hm⟩:=Bs hm
   refine Ao rfl (.callG (rin:=[(700002,Gl (tA 8 tS) 2 gv2),(700004,Gl (tA 8 (tL I6)) 4 gv4)]) C8 (redline_Diff_spec _ _ _ _ hv7) ⟨rfl,rfl,trivial⟩ ⟨rfl,rfl,⟨rfl,rfl,trivial⟩⟩ ⟨(.t rfl),(.t rfl),trivial⟩)<|Am rfl rfl<|Ao rfl (.extract0 (.t rfl))<|Ao rfl (.extract1 (.t rfl))<|WL.opR rfl (OpR.alloc 3 ze33) fun b=>WL.opU (OpR.storeB (b:=b) 3 Z33 (Cellable.is tapi_TrackedUnit diff.1) rfl (.t rfl) (.t rfl)) fun _=>WL.sealed (t:=tapi_TrackedUnit) (u:=diff.1) 3 3 rfl rfl<|Ag rfl rfl<|An<|W.seq ?_
   obtain ⟨s8,hs9,hk10⟩:=Bs hm
   clear hm
   refine W.join (fun s:Bool=>s=s8) (fun s=>[(27,(tB.is s)),(1,(tapi_Unit.ptr a)),(3,(tapi_TrackedUnit.ptr diff.1))]) (fun s=>[(700000,Gl (tA 3 tS) 0 gv0),(700001,Gl (tA 3 tS) 1 gv1),(700002,Gl (tA 8 tS) 2 gv2),(700003,GlE 3),(700004,Gl (tA 8 (tL I6)) 4 gv4),(700007,GlT Tryz.prog "internal/strconv.uint64pow10" .u64 Lib.pow10Tab)]) ?_ ?_
   ·rintro v hj127
    try dsimp only at hj127
    subst hj127
    have hm:=hk10
    clear hk10
    try dsimp only at hm
    change W _ _ _ _ _ _ _ [(27,(tB.is v)),(1,(tapi_Unit.ptr a)),(3,(tapi_TrackedUnit.ptr diff.1))] [(700000,Gl (tA 3 tS) 0 gv0),(700001,Gl (tA 3 tS) 1 gv1),(700002,Gl (tA 8 tS) 2 gv2),(700003,GlE 3),(700004,Gl (tA 8 (tL I6)) 4 gv4),(700007,GlT Tryz.prog "internal/strconv.uint64pow10" .u64 Lib.pow10Tab)]
    refine W.cB hm (.t rfl) (fun hp15 hm=>?_) (fun hp15 hm=>?_)
    ·refine Aw<|Ao rfl (.assign .bool)<|WL.ns ?_
     cases hm
     exact W.ret1 () rfl (.t rfl) trivial
    ·refine W.skip<|Aq<|Aw<|Ao rfl (.load ty33 (.t rfl)) ?_
     obtain ⟨lines,hv16,hm⟩:=Bs hm
     refine Ao rfl (.callG (rin:=[(700000,Gl (tA 3 tS) 0 gv0),(700001,Gl (tA 3 tS) 1 gv1),(700002,Gl (tA 8 tS) 2 gv2),(700003,GlE 3),(700007,GlT Tryz.prog "internal/strconv.uint64pow10" .u64 Lib.pow10Tab)]) C10 (markup_Lines_spec _ _ _ hv16) ⟨rfl,rfl,rfl,rfl,rfl,trivial⟩ ⟨rfl,rfl,⟨rfl,rfl,⟨rfl,rfl,⟨rfl,rfl,⟨rfl,rfl,trivial⟩⟩⟩⟩⟩ ⟨(.t rfl),trivial⟩)<|Ag rfl rfl<|An<|W.seq<|Aw<|Am rfl rfl<|Ao rfl (.lenL U38 (.t rfl))<|Ao rfl (.load ty27 (.t rfl)) ?_
     obtain ⟨count,hv17,hm⟩:=Bs hm
     refine Ao rfl (.call C11 (r06_Count_spec _ _ _ hv17) ⟨(.t rfl),trivial⟩)<|Ao rfl (.neI (.t rfl) (.t rfl))<|An<|W.cD hm (.t rfl) (fun hp19 hm=>?_) (fun hp19 hm=>?_)
     ·refine Aw<|Ao rfl (.assign .bool)<|WL.ns ?_
      cases hm
      exact W.ret1 () rfl (.t rfl) trivial
     ·refine W.skip<|Aq<|W.seq<|Aw<|Ao rfl (.assign .i64)<|An<|W.block ?_
      obtain ⟨s20,hs21,hk22⟩:=Bs hm
      clear hm
      refine W.loop (fun m (s:Int)=>M.law53_MarkupUnchanged_loop1 lines m s=some s20) (fun s=>[(6,(I6.is s)),(5,((tL tS).is lines))]) (fun s=>[(700000,Gl (tA 3 tS) 0 gv0),(700001,Gl (tA 3 tS) 1 gv1),(700002,Gl (tA 8 tS) 2 gv2),(700003,GlE 3),(700004,Gl (tA 8 (tL I6)) 4 gv4),(700007,GlT Tryz.prog "internal/strconv.uint64pow10" .u64 Lib.pow10Tab)]) _ (0:Int) hs21 ⟨.q rfl,.q rfl,trivial⟩ ⟨rfl,rfl,⟨rfl,rfl,⟨rfl,rfl,⟨rfl,rfl,⟨rfl,rfl,⟨rfl,rfl,trivial⟩⟩⟩⟩⟩⟩ ?_
      rintro n23 i hm
      try dsimp only at hm
      change W _ _ _ _ _ _ _ [(6,(I6.is i)),(5,((tL tS).is lines))] [(700000,Gl (tA 3 tS) 0 gv0),(700001,Gl (tA 3 tS) 1 gv1),(700002,Gl (tA 8 tS) 2 gv2),(700003,GlE 3),(700004,Gl (tA 8 (tL I6)) 4 gv4),(700007,GlT Tryz.prog "internal/strconv.uint64pow10" .u64 Lib.pow10Tab)]
      cases n23 with
      | zero=>rw [M.law53_MarkupUnchanged_loop1.eq_1] at hm;cases hm
      | succ n23=>
       rw [M.law53_MarkupUnchanged_loop1.eq_2] at hm
       refine W.seq<|Aw<|Am rfl rfl<|Am rfl rfl<|Ao rfl (.lenL U38 (.t rfl))<|Ao rfl (.ltI (.t rfl) (.t rfl))<|An<|W.cD hm (.t rfl) (fun hp25 hm=>?_) (fun hp25 hm=>?_)
       ·refine W.skip<|Aq<|W.seq<|W.block<|Aw<|Ao rfl (.assign .i64)<|An<|W.seq<|W.block ?_
        obtain ⟨s26,hs27,hk28⟩:=Bs hm
        clear hm
        refine W.loop (fun m (s:Int)=>M.law53_MarkupUnchanged_loop2 lines i m s=some s26) (fun s=>[(7,(I6.is s)),(5,((tL tS).is lines)),(6,(I6.is i))]) (fun s=>[(700000,Gl (tA 3 tS) 0 gv0),(700001,Gl (tA 3 tS) 1 gv1),(700002,Gl (tA 8 tS) 2 gv2),(700003,GlE 3),(700004,Gl (tA 8 (tL I6)) 4 gv4),(700007,GlT Tryz.prog "internal/strconv.uint64pow10" .u64 Lib.pow10Tab)]) _ (0:Int) hs27 ⟨.q rfl,.q rfl,.q rfl,trivial⟩ ⟨rfl,rfl,⟨rfl,rfl,⟨rfl,rfl,⟨rfl,rfl,⟨rfl,rfl,⟨rfl,rfl,trivial⟩⟩⟩⟩⟩⟩ ?_
        rintro n29 at0_ hm
        try dsimp only at hm
        change W _ _ _ _ _ _ _ [(7,(I6.is at0_)),(5,((tL tS).is lines)),(6,(I6.is i))] [(700000,Gl (tA 3 tS) 0 gv0),(700001,Gl (tA 3 tS) 1 gv1),(700002,Gl (tA 8 tS) 2 gv2),(700003,GlE 3),(700004,Gl (tA 8 (tL I6)) 4 gv4),(700007,GlT Tryz.prog "internal/strconv.uint64pow10" .u64 Lib.pow10Tab)]
        cases n29 with
        | zero=>rw [M.law53_MarkupUnchanged_loop2.eq_1] at hm;cases hm
        | succ n29=>
         rw [M.law53_MarkupUnchanged_loop2.eq_2] at hm
         refine W.seq<|Aw<|Am rfl rfl<|Am rfl rfl<|WL.mv rfl rfl ?_
         obtain ⟨v1,hv30,hm⟩:=Bs hm
         refine Ao rfl (.idx hv30 U38 Z9 (.t rfl) (.t rfl))<|Ao rfl (.load ty9 (.t rfl))<|Ao rfl (.lenS U9 (.t rfl))<|Ao rfl (.ltI (.t rfl) (.t rfl))<|WL.mv rfl rfl ?_
         rcases iteD hm with ⟨hp32,hb31,hm⟩ | ⟨hp32,hb31,hm⟩
         ·refine Ax rfl hb31 (.move (.t rfl))<|Ax rfl hb31 (.move (.t rfl)) ?_
          obtain ⟨v2,hv33,hm⟩:=Bs hm
          refine Ax rfl hb31 (.idx hv33 U38 Z9 (.t rfl) (.t rfl))<|Ax rfl hb31 (.load ty9 (.t rfl))<|Ax rfl hb31 (.move (.t rfl)) ?_
          obtain ⟨b1,hv34,hm⟩:=Bs hm
          refine Ax rfl hb31 (.sidx hv34 U9 (.t rfl) (.t rfl))<|Ax rfl hb31 (.eqI (.t rfl) (.int (inR8.2 (by omega))))<|Ao rfl (.pickT (.t rfl) hb31 (.t rfl))<|An<|W.cD hm (.t rfl) (fun hp36 hm=>?_) (fun hp36 hm=>?_)
          ·exact W.skip<|Aq<|W.block<|W.region<|Am rfl rfl<|WL.lenS (s:=45) (.t rfl) fun hl37=>Ao rfl (.addI1 (.t rfl) .i64 hp32 hl37)<|Ag rfl rfl<|WL.nil<|WN.block<|WN.again n29 (at0_+1) (Nat.lt_succ_self n29) hm ⟨.q rfl,.q rfl,.q rfl,trivial⟩ ⟨rfl,rfl,⟨rfl,rfl,⟨rfl,rfl,⟨rfl,rfl,⟨rfl,rfl,⟨rfl,rfl,trivial⟩⟩⟩⟩⟩⟩
          ·refine W.exit rfl ?_
           have hr38:=Si hm
           clear hm
           subst hr38
           have hm:=hk28
           try dsimp only at hm
           refine Aq<|W.seq ?_
           obtain ⟨s39,hs40,hk41⟩:=Bs hm
           clear hm
           refine W.join (fun s:Bool=>s=s39) (fun s=>[(74,(tB.is s)),(5,((tL tS).is lines)),(6,(I6.is i))]) (fun s=>[(700000,Gl (tA 3 tS) 0 gv0),(700001,Gl (tA 3 tS) 1 gv1),(700002,Gl (tA 8 tS) 2 gv2),(700003,GlE 3),(700004,Gl (tA 8 (tL I6)) 4 gv4),(700007,GlT Tryz.prog "internal/strconv.uint64pow10" .u64 Lib.pow10Tab)]) ?_ ?_
           ·rintro v3 hj81
            try dsimp only at hj81
            subst hj81
            have hm:=hk41
            clear hk41
            try dsimp only at hm
            change W _ _ _ _ _ _ _ [(74,(tB.is v3)),(5,((tL tS).is lines)),(6,(I6.is i))] [(700000,Gl (tA 3 tS) 0 gv0),(700001,Gl (tA 3 tS) 1 gv1),(700002,Gl (tA 8 tS) 2 gv2),(700003,GlE 3),(700004,Gl (tA 8 (tL I6)) 4 gv4),(700007,GlT Tryz.prog "internal/strconv.uint64pow10" .u64 Lib.pow10Tab)]
            refine W.cB hm (.t rfl) (fun hp48 hm=>?_) (fun hp48 hm=>?_)
            ·refine Aw<|Ao rfl (.assign .bool)<|WL.ns ?_
             have hr49:=Si hm
             clear hm
             subst hr49
             have hm:=hk22
             try dsimp only at hm
             cases hm
             exact W.ret1 () rfl (.t rfl) trivial
            ·refine W.skip<|Aq<|Aw<|Am rfl rfl<|WL.mv rfl rfl ?_
             obtain ⟨v6,hv50,hm⟩:=Bs hm
             refine Ao rfl (.idx hv50 U38 Z9 (.t rfl) (.t rfl))<|Ao rfl (.load ty9 (.t rfl)) ?_
             obtain ⟨pieces,hv51,hm⟩:=Bs hm
             refine Ao rfl (.call C12 (r04_Pieces_spec _ _ _ hv51) ⟨(.t rfl),trivial⟩)<|Ag rfl rfl<|Ar<|Ao rfl (.assign .i64)<|An<|W.block ?_
             obtain ⟨s52,hs53,hk54⟩:=Bs hm
             clear hm
             refine W.loop (fun m (s:Int)=>M.law53_MarkupUnchanged_loop3 pieces m s=some s52) (fun s=>[(9,(I6.is s)),(5,((tL tS).is lines)),(6,(I6.is i)),(8,((tL tS).is pieces))]) (fun s=>[(700000,Gl (tA 3 tS) 0 gv0),(700001,Gl (tA 3 tS) 1 gv1),(700002,Gl (tA 8 tS) 2 gv2),(700003,GlE 3),(700004,Gl (tA 8 (tL I6)) 4 gv4),(700007,GlT Tryz.prog "internal/strconv.uint64pow10" .u64 Lib.pow10Tab)]) _ (0:Int) hs53 ⟨.q rfl,.q rfl,.q rfl,.q rfl,trivial⟩ ⟨rfl,rfl,⟨rfl,rfl,⟨rfl,rfl,⟨rfl,rfl,⟨rfl,rfl,⟨rfl,rfl,trivial⟩⟩⟩⟩⟩⟩ ?_
             rintro n55 k hm
             try dsimp only at hm
             change W _ _ _ _ _ _ _ [(9,(I6.is k)),(5,((tL tS).is lines)),(6,(I6.is i)),(8,((tL tS).is pieces))] [(700000,Gl (tA 3 tS) 0 gv0),(700001,Gl (tA 3 tS) 1 gv1),(700002,Gl (tA 8 tS) 2 gv2),(700003,GlE 3),(700004,Gl (tA 8 (tL I6)) 4 gv4),(700007,GlT Tryz.prog "internal/strconv.uint64pow10" .u64 Lib.pow10Tab)]
             cases n55 with
             | zero=>rw [M.law53_MarkupUnchanged_loop3.eq_1] at hm;cases hm
             | succ n55=>
              rw [M.law53_MarkupUnchanged_loop3.eq_2] at hm
              refine W.seq<|Aw<|Am rfl rfl<|Am rfl rfl<|Ao rfl (.lenL U38 (.t rfl))<|Ao rfl (.ltI (.t rfl) (.t rfl))<|An<|W.cD hm (.t rfl) (fun hp57 hm=>?_) (fun hp57 hm=>?_)
              ·refine W.skip<|Aq<|W.seq<|W.block<|Aw<|Am rfl rfl<|WL.mv rfl rfl ?_
               obtain ⟨v7,hv58,hm⟩:=Bs hm
               refine Ao rfl (.idx hv58 U38 Z9 (.t rfl) (.t rfl))<|Ao rfl (.load ty9 (.t rfl))<|Ao rfl (.eqS (.t rfl) (.str rfl (by decide)))<|WL.mv rfl rfl ?_
               rcases iteB hm with ⟨hp60,hb59,hm⟩ | ⟨hp60,hb59,hm⟩
               ·refine Ap rfl hb59<|Ap rfl hb59<|Ap rfl hb59<|Ap rfl hb59<|Ap rfl hb59<|Ao rfl (.pickT (.t rfl) hb59 .bool)<|Am rfl rfl<|Ap rfl rfl<|Ap rfl rfl<|Ap rfl rfl<|Ap rfl rfl<|Ap rfl rfl<|Ao rfl (.pickT (.t rfl) rfl .bool)<|Am rfl rfl<|Ap rfl rfl<|Ap rfl rfl ?_
                refine Ap rfl rfl<|Ap rfl rfl<|Ap rfl rfl<|Ao rfl (.pickT (.t rfl) rfl .bool)<|An<|W.condT (.t rfl)<|Aw<|Ao rfl (.assign .bool)<|WL.ns ?_
                have hr61:=Si hm
                clear hm
                subst hr61
                have hm:=hk54
                try dsimp only at hm
                have hr62:=Si hm
                clear hm
                subst hr62
                have hm:=hk22
                try dsimp only at hm
                cases hm
                exact W.ret1 () rfl (.t rfl) trivial
               ·refine Ax rfl hb59 (.move (.t rfl))<|Ax rfl hb59 (.move (.t rfl)) ?_
                obtain ⟨v8,hv63,hm⟩:=Bs hm
                refine Ax rfl hb59 (.idx hv63 U38 Z9 (.t rfl) (.t rfl))<|Ax rfl hb59 (.load ty9 (.t rfl))<|Ax rfl hb59 (.eqS (.t rfl) (.str rfl (by decide)))<|Ao rfl (.pickF (.t rfl) hb59 (.t rfl))<|WL.mv rfl rfl ?_
                rcases iteB hm with ⟨hp65,hb64,hm⟩ | ⟨hp65,hb64,hm⟩
                ·refine Ap rfl hb64<|Ap rfl hb64<|Ap rfl hb64<|Ap rfl hb64<|Ap rfl hb64<|Ao rfl (.pickT (.t rfl) hb64 .bool)<|Am rfl rfl<|Ap rfl rfl<|Ap rfl rfl<|Ap rfl rfl<|Ap rfl rfl<|Ap rfl rfl<|Ao rfl (.pickT (.t rfl) rfl .bool)<|An<|W.condT (.t rfl)<|W.sr ?_
                 refine Ao rfl (.assign .bool)<|WL.ns ?_
                 have hr66:=Si hm
                 clear hm
                 subst hr66
                 have hm:=hk54
                 try dsimp only at hm
                 have hr67:=Si hm
                 clear hm
                 subst hr67
                 have hm:=hk22
                 try dsimp only at hm
                 cases hm
                 exact W.ret1 () rfl (.t rfl) trivial
                ·refine Ax rfl hb64 (.move (.t rfl))<|Ax rfl hb64 (.move (.t rfl)) ?_
                 obtain ⟨v9,hv68,hm⟩:=Bs hm
                 refine Ax rfl hb64 (.idx hv68 U38 Z9 (.t rfl) (.t rfl))<|Ax rfl hb64 (.load ty9 (.t rfl))<|Ax rfl hb64 (.eqS (.t rfl) (.str rfl (by decide)))<|Ao rfl (.pickF (.t rfl) hb64 (.t rfl))<|WL.mv rfl rfl ?_
                 rcases iteB hm with ⟨hp70,hb69,hm⟩ | ⟨hp70,hb69,hm⟩
                 ·refine Ap rfl hb69<|Ap rfl hb69<|Ap rfl hb69<|Ap rfl hb69<|Ap rfl hb69<|Ao rfl (.pickT (.t rfl) hb69 .bool)<|An<|W.condT (.t rfl)<|Aw<|Ao rfl (.assign .bool)<|WL.ns ?_
                  have hr71:=Si hm
                  clear hm
                  subst hr71
                  have hm:=hk54
                  try dsimp only at hm
                  have hr72:=Si hm
                  clear hm
                  subst hr72
                  have hm:=hk22
                  try dsimp only at hm
                  cases hm
                  exact W.ret1 () rfl (.t rfl) trivial
                 ·refine Ax rfl hb69 (.move (.t rfl))<|Ax rfl hb69 (.move (.t rfl)) ?_
                  obtain ⟨v10,hv73,hm⟩:=Bs hm
                  refine Ax rfl hb69 (.idx hv73 U38 Z9 (.t rfl) (.t rfl))<|Ax rfl hb69 (.load ty9 (.t rfl))<|Ax rfl hb69 (.eqS (.t rfl) (.str rfl (by decide)))<|Ao rfl (.pickF (.t rfl) hb69 (.t rfl))<|An<|W.cB hm (.t rfl) (fun hp75 hm=>?_) (fun hp75 hm=>?_)
                  ·refine Aw<|Ao rfl (.assign .bool)<|WL.ns ?_
                   have hr76:=Si hm
                   clear hm
                   subst hr76
                   have hm:=hk54
                   try dsimp only at hm
                   have hr77:=Si hm
                   clear hm
                   subst hr77
                   have hm:=hk22
                   try dsimp only at hm
                   cases hm
                   exact W.ret1 () rfl (.t rfl) trivial
                  ·exact W.skip<|WN.block<|Aq<|W.region<|Am rfl rfl<|WL.lenL (s:=8) (.t rfl) fun hl78=>Ao rfl (.addI1 (.t rfl) .i64 hp57 hl78)<|Ag rfl rfl<|WL.nil<|WN.again n55 (k+1) (Nat.lt_succ_self n55) hm ⟨.q rfl,.q rfl,.q rfl,.q rfl,trivial⟩ ⟨rfl,rfl,⟨rfl,rfl,⟨rfl,rfl,⟨rfl,rfl,⟨rfl,rfl,⟨rfl,rfl,trivial⟩⟩⟩⟩⟩⟩
              ·refine W.exit rfl ?_
               have hr79:=Si hm
               clear hm
               subst hr79
               have hm:=hk54
               try dsimp only at hm
               refine WN.block<|Aq<|W.region<|WL.mv rfl rfl ?_
               obtain ⟨v11,hv80,hm⟩:=Bs hm
               exact Ao rfl (.addC hv80 (.t rfl) .i64)<|Ag rfl rfl<|WL.nil<|WN.again n23 v11 (Nat.lt_succ_self n23) hm ⟨.q rfl,.q rfl,trivial⟩ ⟨rfl,rfl,⟨rfl,rfl,⟨rfl,rfl,⟨rfl,rfl,⟨rfl,rfl,⟨rfl,rfl,trivial⟩⟩⟩⟩⟩⟩
           ·have hm:=hs40
            clear hs40
            refine W.region<|Am rfl rfl<|Am rfl rfl<|WL.mv rfl rfl ?_
            obtain ⟨v4,hv42,hm⟩:=Bs hm
            refine Ao rfl (.idx hv42 U38 Z9 (.t rfl) (.t rfl))<|Ao rfl (.load ty9 (.t rfl))<|Ao rfl (.lenS U9 (.t rfl))<|Ao rfl (.geI (.t rfl) (.t rfl))<|WL.mv rfl rfl ?_
            rcases iteD hm with ⟨hp44,hb43,hm⟩ | ⟨hp44,hb43,hm⟩
            ·exact Ap rfl hb43<|Ap rfl hb43<|Ap rfl hb43<|Ap rfl hb43<|Ap rfl hb43<|Ap rfl hb43<|Ap rfl hb43<|Ao rfl (.pickT (.t rfl) hb43 .bool)<|WL.nil<|WN.meet true (Si hm) ⟨.q rfl,.q rfl,.q rfl,trivial⟩ ⟨rfl,rfl,⟨rfl,rfl,⟨rfl,rfl,⟨rfl,rfl,⟨rfl,rfl,⟨rfl,rfl,trivial⟩⟩⟩⟩⟩⟩
            ·refine Ax rfl hb43 (.move (.t rfl))<|Ax rfl hb43 (.move (.t rfl)) ?_
             obtain ⟨v5,hv45,hm⟩:=Bs hm
             refine Ax rfl hb43 (.idx hv45 U38 Z9 (.t rfl) (.t rfl))<|Ax rfl hb43 (.load ty9 (.t rfl))<|Ax rfl hb43 (.move (.t rfl)) ?_
             obtain ⟨b2,hv46,hm⟩:=Bs hm
             exact Ax rfl hb43 (.sidx hv46 U9 (.t rfl) (.t rfl))<|Ax rfl hb43 (.neI (.t rfl) (.int (inR8.2 (by omega))))<|Ao rfl (.pickF (.t rfl) hb43 (.t rfl))<|WL.nil<|WN.meet (decide ((b2.toNat:Int)≠(61:Int))) (Si hm) ⟨.q rfl,.q rfl,.q rfl,trivial⟩ ⟨rfl,rfl,⟨rfl,rfl,⟨rfl,rfl,⟨rfl,rfl,⟨rfl,rfl,⟨rfl,rfl,trivial⟩⟩⟩⟩⟩⟩
         ·refine Ap rfl hb31<|Ap rfl hb31<|Ap rfl hb31<|Ap rfl hb31<|Ap rfl hb31<|Ap rfl hb31<|Ap rfl hb31<|Ao rfl (.pickF (.t rfl) hb31 .bool)<|An<|W.condF (.t rfl)<|W.exit rfl ?_
          have hr82:=Si hm
          clear hm
          subst hr82
          have hm:=hk28
          try dsimp only at hm
          refine Aq<|W.seq ?_
          obtain ⟨s83,hs84,hk85⟩:=Bs hm
          clear hm
          refine W.join (fun s:Bool=>s=s83) (fun s=>[(74,(tB.is s)),(5,((tL tS).is lines)),(6,(I6.is i))]) (fun s=>[(700000,Gl (tA 3 tS) 0 gv0),(700001,Gl (tA 3 tS) 1 gv1),(700002,Gl (tA 8 tS) 2 gv2),(700003,GlE 3),(700004,Gl (tA 8 (tL I6)) 4 gv4),(700007,GlT Tryz.prog "internal/strconv.uint64pow10" .u64 Lib.pow10Tab)]) ?_ ?_
          ·rintro v12 hj125
           try dsimp only at hj125
           subst hj125
           have hm:=hk85
           clear hk85
           try dsimp only at hm
           change W _ _ _ _ _ _ _ [(74,(tB.is v12)),(5,((tL tS).is lines)),(6,(I6.is i))] [(700000,Gl (tA 3 tS) 0 gv0),(700001,Gl (tA 3 tS) 1 gv1),(700002,Gl (tA 8 tS) 2 gv2),(700003,GlE 3),(700004,Gl (tA 8 (tL I6)) 4 gv4),(700007,GlT Tryz.prog "internal/strconv.uint64pow10" .u64 Lib.pow10Tab)]
           refine W.cB hm (.t rfl) (fun hp92 hm=>?_) (fun hp92 hm=>?_)
           ·refine Aw<|Ao rfl (.assign .bool)<|WL.ns ?_
            have hr93:=Si hm
            clear hm
            subst hr93
            have hm:=hk22
            try dsimp only at hm
            cases hm
            exact W.ret1 () rfl (.t rfl) trivial
           ·refine W.skip<|Aq<|Aw<|Am rfl rfl<|WL.mv rfl rfl ?_
            obtain ⟨v15,hv94,hm⟩:=Bs hm
            refine Ao rfl (.idx hv94 U38 Z9 (.t rfl) (.t rfl))<|Ao rfl (.load ty9 (.t rfl)) ?_
            obtain ⟨pieces1,hv95,hm⟩:=Bs hm
            refine Ao rfl (.call C12 (r04_Pieces_spec _ _ _ hv95) ⟨(.t rfl),trivial⟩)<|Ag rfl rfl<|Ar<|Ao rfl (.assign .i64)<|An<|W.block ?_
            obtain ⟨s96,hs97,hk98⟩:=Bs hm
            clear hm
            refine W.loop (fun m (s:Int)=>M.law53_MarkupUnchanged_loop3 pieces1 m s=some s96) (fun s=>[(9,(I6.is s)),(5,((tL tS).is lines)),(6,(I6.is i)),(8,((tL tS).is pieces1))]) (fun s=>[(700000,Gl (tA 3 tS) 0 gv0),(700001,Gl (tA 3 tS) 1 gv1),(700002,Gl (tA 8 tS) 2 gv2),(700003,GlE 3),(700004,Gl (tA 8 (tL I6)) 4 gv4),(700007,GlT Tryz.prog "internal/strconv.uint64pow10" .u64 Lib.pow10Tab)]) _ (0:Int) hs97 ⟨.q rfl,.q rfl,.q rfl,.q rfl,trivial⟩ ⟨rfl,rfl,⟨rfl,rfl,⟨rfl,rfl,⟨rfl,rfl,⟨rfl,rfl,⟨rfl,rfl,trivial⟩⟩⟩⟩⟩⟩ ?_
            rintro n99 k1 hm
            try dsimp only at hm
            change W _ _ _ _ _ _ _ [(9,(I6.is k1)),(5,((tL tS).is lines)),(6,(I6.is i)),(8,((tL tS).is pieces1))] [(700000,Gl (tA 3 tS) 0 gv0),(700001,Gl (tA 3 tS) 1 gv1),(700002,Gl (tA 8 tS) 2 gv2),(700003,GlE 3),(700004,Gl (tA 8 (tL I6)) 4 gv4),(700007,GlT Tryz.prog "internal/strconv.uint64pow10" .u64 Lib.pow10Tab)]
            cases n99 with
            | zero=>rw [M.law53_MarkupUnchanged_loop3.eq_1] at hm;cases hm
            | succ n99=>
             rw [M.law53_MarkupUnchanged_loop3.eq_2] at hm
             refine W.seq<|Aw<|Am rfl rfl<|Am rfl rfl<|Ao rfl (.lenL U38 (.t rfl))<|Ao rfl (.ltI (.t rfl) (.t rfl))<|An<|W.cD hm (.t rfl) (fun hp101 hm=>?_) (fun hp101 hm=>?_)
             ·refine W.skip<|Aq<|W.seq<|W.block<|Aw<|Am rfl rfl<|WL.mv rfl rfl ?_
              obtain ⟨v16,hv102,hm⟩:=Bs hm
              refine Ao rfl (.idx hv102 U38 Z9 (.t rfl) (.t rfl))<|Ao rfl (.load ty9 (.t rfl))<|Ao rfl (.eqS (.t rfl) (.str rfl (by decide)))<|WL.mv rfl rfl ?_
              rcases iteB hm with ⟨hp104,hb103,hm⟩ | ⟨hp104,hb103,hm⟩
              ·refine Ap rfl hb103<|Ap rfl hb103<|Ap rfl hb103<|Ap rfl hb103<|Ap rfl hb103<|Ao rfl (.pickT (.t rfl) hb103 .bool)<|Am rfl rfl<|Ap rfl rfl<|Ap rfl rfl<|Ap rfl rfl<|Ap rfl rfl<|Ap rfl rfl<|Ao rfl (.pickT (.t rfl) rfl .bool)<|Am rfl rfl<|Ap rfl rfl<|Ap rfl rfl ?_
               refine Ap rfl rfl<|Ap rfl rfl<|Ap rfl rfl<|Ao rfl (.pickT (.t rfl) rfl .bool)<|An<|W.condT (.t rfl)<|Aw<|Ao rfl (.assign .bool)<|WL.ns ?_
               have hr105:=Si hm
               clear hm
               subst hr105
               have hm:=hk98
               try dsimp only at hm
               have hr106:=Si hm
               clear hm
               subst hr106
               have hm:=hk22
               try dsimp only at hm
               cases hm
               exact W.ret1 () rfl (.t rfl) trivial
              ·refine Ax rfl hb103 (.move (.t rfl))<|Ax rfl hb103 (.move (.t rfl)) ?_
               obtain ⟨v17,hv107,hm⟩:=Bs hm
               refine Ax rfl hb103 (.idx hv107 U38 Z9 (.t rfl) (.t rfl))<|Ax rfl hb103 (.load ty9 (.t rfl))<|Ax rfl hb103 (.eqS (.t rfl) (.str rfl (by decide)))<|Ao rfl (.pickF (.t rfl) hb103 (.t rfl))<|WL.mv rfl rfl ?_
               rcases iteB hm with ⟨hp109,hb108,hm⟩ | ⟨hp109,hb108,hm⟩
               ·refine Ap rfl hb108<|Ap rfl hb108<|Ap rfl hb108<|Ap rfl hb108<|Ap rfl hb108<|Ao rfl (.pickT (.t rfl) hb108 .bool)<|Am rfl rfl<|Ap rfl rfl<|Ap rfl rfl<|Ap rfl rfl<|Ap rfl rfl<|Ap rfl rfl<|Ao rfl (.pickT (.t rfl) rfl .bool)<|An<|W.condT (.t rfl)<|W.sr ?_
                refine Ao rfl (.assign .bool)<|WL.ns ?_
                have hr110:=Si hm
                clear hm
                subst hr110
                have hm:=hk98
                try dsimp only at hm
                have hr111:=Si hm
                clear hm
                subst hr111
                have hm:=hk22
                try dsimp only at hm
                cases hm
                exact W.ret1 () rfl (.t rfl) trivial
               ·refine Ax rfl hb108 (.move (.t rfl))<|Ax rfl hb108 (.move (.t rfl)) ?_
                obtain ⟨v18,hv112,hm⟩:=Bs hm
                refine Ax rfl hb108 (.idx hv112 U38 Z9 (.t rfl) (.t rfl))<|Ax rfl hb108 (.load ty9 (.t rfl))<|Ax rfl hb108 (.eqS (.t rfl) (.str rfl (by decide)))<|Ao rfl (.pickF (.t rfl) hb108 (.t rfl))<|WL.mv rfl rfl ?_
                rcases iteB hm with ⟨hp114,hb113,hm⟩ | ⟨hp114,hb113,hm⟩
                ·refine Ap rfl hb113<|Ap rfl hb113<|Ap rfl hb113<|Ap rfl hb113<|Ap rfl hb113<|Ao rfl (.pickT (.t rfl) hb113 .bool)<|An<|W.condT (.t rfl)<|Aw<|Ao rfl (.assign .bool)<|WL.ns ?_
                 have hr115:=Si hm
                 clear hm
                 subst hr115
                 have hm:=hk98
                 try dsimp only at hm
                 have hr116:=Si hm
                 clear hm
                 subst hr116
                 have hm:=hk22
                 try dsimp only at hm
                 cases hm
                 exact W.ret1 () rfl (.t rfl) trivial
                ·refine Ax rfl hb113 (.move (.t rfl))<|Ax rfl hb113 (.move (.t rfl)) ?_
                 obtain ⟨v19,hv117,hm⟩:=Bs hm
                 refine Ax rfl hb113 (.idx hv117 U38 Z9 (.t rfl) (.t rfl))<|Ax rfl hb113 (.load ty9 (.t rfl))<|Ax rfl hb113 (.eqS (.t rfl) (.str rfl (by decide)))<|Ao rfl (.pickF (.t rfl) hb113 (.t rfl))<|An<|W.cB hm (.t rfl) (fun hp119 hm=>?_) (fun hp119 hm=>?_)
                 ·refine Aw<|Ao rfl (.assign .bool)<|WL.ns ?_
                  have hr120:=Si hm
                  clear hm
                  subst hr120
                  have hm:=hk98
                  try dsimp only at hm
                  have hr121:=Si hm
                  clear hm
                  subst hr121
                  have hm:=hk22
                  try dsimp only at hm
                  cases hm
                  exact W.ret1 () rfl (.t rfl) trivial
                 ·exact W.skip<|WN.block<|Aq<|W.region<|Am rfl rfl<|WL.lenL (s:=8) (.t rfl) fun hl122=>Ao rfl (.addI1 (.t rfl) .i64 hp101 hl122)<|Ag rfl rfl<|WL.nil<|WN.again n99 (k1+1) (Nat.lt_succ_self n99) hm ⟨.q rfl,.q rfl,.q rfl,.q rfl,trivial⟩ ⟨rfl,rfl,⟨rfl,rfl,⟨rfl,rfl,⟨rfl,rfl,⟨rfl,rfl,⟨rfl,rfl,trivial⟩⟩⟩⟩⟩⟩
             ·refine W.exit rfl ?_
              have hr123:=Si hm
              clear hm
              subst hr123
              have hm:=hk98
              try dsimp only at hm
              refine WN.block<|Aq<|W.region<|WL.mv rfl rfl ?_
              obtain ⟨v20,hv124,hm⟩:=Bs hm
              exact Ao rfl (.addC hv124 (.t rfl) .i64)<|Ag rfl rfl<|WL.nil<|WN.again n23 v20 (Nat.lt_succ_self n23) hm ⟨.q rfl,.q rfl,trivial⟩ ⟨rfl,rfl,⟨rfl,rfl,⟨rfl,rfl,⟨rfl,rfl,⟨rfl,rfl,⟨rfl,rfl,trivial⟩⟩⟩⟩⟩⟩
          ·have hm:=hs84
           clear hs84
           refine W.region<|Am rfl rfl<|Am rfl rfl<|WL.mv rfl rfl ?_
           obtain ⟨v13,hv86,hm⟩:=Bs hm
           refine Ao rfl (.idx hv86 U38 Z9 (.t rfl) (.t rfl))<|Ao rfl (.load ty9 (.t rfl))<|Ao rfl (.lenS U9 (.t rfl))<|Ao rfl (.geI (.t rfl) (.t rfl))<|WL.mv rfl rfl ?_
           rcases iteD hm with ⟨hp88,hb87,hm⟩ | ⟨hp88,hb87,hm⟩
           ·exact Ap rfl hb87<|Ap rfl hb87<|Ap rfl hb87<|Ap rfl hb87<|Ap rfl hb87<|Ap rfl hb87<|Ap rfl hb87<|Ao rfl (.pickT (.t rfl) hb87 .bool)<|WL.nil<|WN.meet true (Si hm) ⟨.q rfl,.q rfl,.q rfl,trivial⟩ ⟨rfl,rfl,⟨rfl,rfl,⟨rfl,rfl,⟨rfl,rfl,⟨rfl,rfl,⟨rfl,rfl,trivial⟩⟩⟩⟩⟩⟩
           ·refine Ax rfl hb87 (.move (.t rfl))<|Ax rfl hb87 (.move (.t rfl)) ?_
            obtain ⟨v14,hv89,hm⟩:=Bs hm
            refine Ax rfl hb87 (.idx hv89 U38 Z9 (.t rfl) (.t rfl))<|Ax rfl hb87 (.load ty9 (.t rfl))<|Ax rfl hb87 (.move (.t rfl)) ?_
            obtain ⟨b3,hv90,hm⟩:=Bs hm
            exact Ax rfl hb87 (.sidx hv90 U9 (.t rfl) (.t rfl))<|Ax rfl hb87 (.neI (.t rfl) (.int (inR8.2 (by omega))))<|Ao rfl (.pickF (.t rfl) hb87 (.t rfl))<|WL.nil<|WN.meet (decide ((b3.toNat:Int)≠(61:Int))) (Si hm) ⟨.q rfl,.q rfl,.q rfl,trivial⟩ ⟨rfl,rfl,⟨rfl,rfl,⟨rfl,rfl,⟨rfl,rfl,⟨rfl,rfl,⟨rfl,rfl,trivial⟩⟩⟩⟩⟩⟩
       ·refine W.exit rfl ?_
        have hr126:=Si hm
        clear hm
        subst hr126
        have hm:=hk22
        try dsimp only at hm
        refine Aq<|Aw<|Ao rfl (.assign .bool)<|WL.ns ?_
        cases hm
        exact W.ret1 () rfl (.t rfl) trivial
   ·have hm:=hs9
    clear hs9
    refine W.region<|Am rfl rfl<|Ao rfl (.neI (.t rfl) .i64)<|WL.mv rfl rfl ?_
    rcases iteD hm with ⟨hp12,hb11,hm⟩ | ⟨hp12,hb11,hm⟩
    ·exact Ap rfl hb11<|Ap rfl hb11<|Ap rfl hb11<|Ao rfl (.pickT (.t rfl) hb11 .bool)<|WL.nil<|WN.meet true (Si hm) ⟨.q rfl,.q rfl,.q rfl,trivial⟩ ⟨rfl,rfl,⟨rfl,rfl,⟨rfl,rfl,⟨rfl,rfl,⟨rfl,rfl,⟨rfl,rfl,trivial⟩⟩⟩⟩⟩⟩
    ·refine Ax rfl hb11 (.load ty33 (.t rfl)) ?_
     obtain ⟨may,hv13,hm⟩:=Bs hm
     exact Ax rfl hb11 (.call C9 (r53_May_spec _ _ _ hv13) ⟨(.t rfl),trivial⟩)<|Ax rfl hb11 (.notB (.t rfl))<|Ao rfl (.pickF (.t rfl) hb11 (.t rfl))<|WL.nil<|WN.meet (!may) (Si hm) ⟨.q rfl,.q rfl,.q rfl,trivial⟩ ⟨rfl,rfl,⟨rfl,rfl,⟨rfl,rfl,⟨rfl,rfl,⟨rfl,rfl,⟨rfl,rfl,trivial⟩⟩⟩⟩⟩⟩
end Go.Proofs.YtalogjkalmkpjaaGreatDoor
