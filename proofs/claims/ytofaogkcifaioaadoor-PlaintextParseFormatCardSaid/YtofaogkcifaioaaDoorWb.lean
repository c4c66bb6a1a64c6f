/-
  The code does what the models say: written by program.
-/
import Derived.Test.YtofaogkcifaioaaDoorWa
set_option linter.unusedVariables false
set_option linter.unusedSimpArgs false
namespace Go.Proofs.YtofaogkcifaioaaDoor
open Go Go.Dec
set_option maxRecDepth 100000
set_option maxHeartbeats 4000000
theorem strings_makeASCIISet_spec(n:Nat)(chars:Str)(r:(List Bool)×Bool)(hm:M.strings_makeASCIISet n chars=some r):FSpec Tryd.prog 58 [(tS.is chars)] (Asn.tuple2 ((tA 256 tB).is r.1) (tB.is r.2)):=by
 unfold M.strings_makeASCIISet at hm
 refine FSpec.of Tryd.func58 rfl rfl rfl fun g0=>Aw<|WL.opR rfl (OpR.alloc 2 ze104) fun b=>Ao rfl (.assign .bool)<|An<|W.seq<|Aw<|Ao rfl (.assign .i64)<|An<|W.block ?_
 obtain ⟨s1,hs2,hk3⟩:=Bs hm
 clear hm
 refine W.loop (fun m (s:Int×(List Bool))=>M.strings_makeASCIISet_loop1 chars m s.1 s.2=some s1) (fun s=>[(4,(I6.is s.1)),(0,(tS.is chars)),(2,(Bp b 0))]) (fun s=>[(2,(Bx 256 true 104 ((tA 256 tB).is s.2) b))]) _ ((0:Int),(List.replicate 256 false)) hs2 ⟨.q rfl,.q rfl,.q rfl,trivial⟩ ⟨rfl,rfl,trivial⟩ ?_
 rintro n4 ⟨i,as0_⟩ hm
 try dsimp only at hm
 change W _ _ _ _ _ _ _ [(4,(I6.is i)),(0,(tS.is chars)),(2,(Bp b 0))] [(2,(Bx 256 true 104 ((tA 256 tB).is as0_) b))]
 cases n4 with
 | zero=>rw [M.strings_makeASCIISet_loop1.eq_1] at hm;cases hm
 | succ n4=>
  rw [M.strings_makeASCIISet_loop1.eq_2] at hm
  refine W.seq<|Aw<|Am rfl rfl<|Am rfl rfl<|Ao rfl (.lenS U9 (.t rfl))<|Ao rfl (.ltI (.t rfl) (.t rfl))<|An<|W.cD hm (.t rfl) (fun hp6 hm=>?_) (fun hp6 hm=>?_)
  ·refine W.skip<|Aq<|W.seq<|W.block<|Aw<|Am rfl rfl<|WL.mv rfl rfl ?_
   obtain ⟨b1,hv7,hm⟩:=Bs hm
   refine Ao rfl (.sidx hv7 U9 (.t rfl) (.t rfl))<|Ag rfl rfl<|An<|W.seq<|Aw<|Am rfl rfl<|Ao rfl (.geI (.t rfl) (.int (inR8.2 (by omega))))<|An<|W.cD hm (.t rfl) (fun hp9 hm=>?_) (fun hp9 hm=>?_)
   ·refine Aw<|Ao rfl (.loadB 2 Y104 Z104 rfl (.t rfl))<|WL.opU (OpR.storeB (b:=b) 2 Z104 (Cellable.is (tA 256 tB) as0_) rfl (.t rfl) (.t rfl)) fun _=>Ao rfl (.assign .bool)<|WL.ns ?_
    have hr10:=Si hm
    clear hm
    subst hr10
    have hm:=hk3
    try dsimp only at hm
    cases hm
    exact W.retQ2 () rfl rfl (ResAt.cell 2 Y104 Z104 rfl (.t rfl)) (ResAt.tmp (.t rfl)) trivial
   ·refine W.skip<|Aq<|W.region<|WL.mv rfl rfl ?_
    obtain ⟨_,hv11,hm⟩:=Bs hm
    exact Ao rfl (.indexAddrB U104 Z4 (.t rfl) (.t rfl) (rngC_in hv11))<|WL.opU (OpR.storeBF (b:=b) 2 rfl ty4 (FldSet.arr (rngC_nat hv11)) rfl (arr_le (rngC_nat hv11)) (.t rfl) .bool) fun _=>WL.nil<|WN.block<|Aq<|W.region<|Am rfl rfl<|WL.lenS (s:=0) (.t rfl) fun hl12=>Ao rfl (.addI1 (.t rfl) .i64 hp6 hl12)<|Ag rfl rfl<|WL.nil<|WN.again n4 (i+1,as0_.set (b1.toNat:Int).toNat true) (Nat.lt_succ_self n4) hm ⟨.q rfl,.q rfl,.q rfl,trivial⟩ ⟨rfl,rfl,trivial⟩
  ·refine W.exit rfl ?_
   have hr13:=Si hm
   clear hm
   subst hr13
   have hm:=hk3
   try dsimp only at hm
   refine Aq<|Aw<|Ao rfl (.loadB 2 Y104 Z104 rfl (.t rfl))<|WL.opU (OpR.storeB (b:=b) 2 Z104 (Cellable.is (tA 256 tB) as0_) rfl (.t rfl) (.t rfl)) fun _=>Ao rfl (.assign .bool)<|WL.ns ?_
   cases hm
   exact W.retQ2 () rfl rfl (ResAt.cell 2 Y104 Z104 rfl (.t rfl)) (ResAt.tmp (.t rfl)) trivial
theorem strings_asciiSet_contains_spec(as0_:List Bool)(c:Int)(r:Bool)(hm:M.strings_asciiSet_contains as0_ c=some r):FSpec Tryd.prog 77 [((tA 256 tB).ptr as0_),((tI .u8).is c)] (tB.is r):=by
 unfold M.strings_asciiSet_contains at hm
 refine FSpec.of Tryd.func77 rfl rfl rfl fun g0=>Aw<|Ao rfl (.assign .bool)<|Ar<|Am rfl rfl<|Am rfl rfl<|Ao rfl (.nilCheck (.t rfl)) ?_
 obtain ⟨v,hv1,hm⟩:=Bs hm
 refine Ao rfl (.idxA hv1 U104 Z4 (.t rfl) (.t rfl))<|Ao rfl (.load ty4 (.t rfl))<|Ag rfl rfl<|WL.ns ?_
 cases hm
 exact W.ret1 () rfl (.t rfl) trivial
theorem strings_trimLeftASCII_spec(n:Nat)(s0_:Str)(as0_:List Bool)(r:Str)(hm:M.strings_trimLeftASCII n s0_ as0_=some r):FSpec Tryd.prog 59 [(tS.is s0_),((tA 256 tB).ptr as0_)] (tS.is r):=by
 unfold M.strings_trimLeftASCII at hm
 refine FSpec.of Tryd.func59 rfl rfl rfl fun g0=>Aw<|Ao rfl (.assign (.str rfl (by decide)))<|An<|W.seq<|W.block ?_
 obtain ⟨s1,hs2,hk3⟩:=Bs hm
 clear hm
 refine W.loop (fun m (s:Str)=>M.strings_trimLeftASCII_loop1 as0_ m s=some s1) (fun s=>[(0,(tS.is s)),(1,((tA 256 tB).ptr as0_))]) (fun s=>[]) _ s0_ hs2 ⟨.q rfl,.q rfl,trivial⟩ trivial ?_
 rintro n4 s0_1 hm
 try dsimp only at hm
 change W _ _ _ _ _ _ _ [(0,(tS.is s0_1)),(1,((tA 256 tB).ptr as0_))] []
 cases n4 with
 | zero=>rw [M.strings_trimLeftASCII_loop1.eq_1] at hm;cases hm
 | succ n4=>
  rw [M.strings_trimLeftASCII_loop1.eq_2] at hm
  refine W.seq<|Aw<|Am rfl rfl<|Ao rfl (.lenS U9 (.t rfl))<|Ao rfl (.gtI (.t rfl) .i64)<|An<|W.cD hm (.t rfl) (fun hp6 hm=>?_) (fun hp6 hm=>?_)
  ·refine W.skip<|Aq<|W.block<|W.seq<|Aw<|Am rfl rfl<|WL.mv rfl rfl ?_
   obtain ⟨b,hv7,hm⟩:=Bs hm
   refine Ao rfl (.sidx hv7 U9 (.t rfl) .i64) ?_
   obtain ⟨contai,hv8,hm⟩:=Bs hm
   refine Ao rfl (.call C77 (strings_asciiSet_contains_spec _ _ _ hv8) ⟨(.t rfl),(.t rfl),trivial⟩)<|Ao rfl (.notB (.t rfl))<|An<|W.cR hm (.t rfl) (fun hp10 hm=>?_) (fun hp10 hm=>?_)
   ·refine W.exit rfl ?_
    have hr11:=Si hm
    clear hm
    subst hr11
    have hm:=hk3
    try dsimp only at hm
    refine Aq<|Aw<|Am rfl rfl<|Ag rfl rfl<|WL.ns ?_
    cases hm
    exact W.ret1 () rfl (.t rfl) trivial
   ·refine W.skip<|Aq<|W.region<|WL.mv rfl rfl ?_
    obtain ⟨v,hv12,hm⟩:=Bs hm
    exact Ao rfl (.sslcLo hv12 U9 (.t rfl) .i64)<|Ag rfl rfl<|WL.nil<|WN.block<|WN.again n4 v (Nat.lt_succ_self n4) hm ⟨.q rfl,.q rfl,trivial⟩ trivial
  ·refine W.exit rfl ?_
   have hr13:=Si hm
   clear hm
   subst hr13
   have hm:=hk3
   try dsimp only at hm
   refine Aq<|Aw<|Am rfl rfl<|Ag rfl rfl<|WL.ns ?_
   cases hm
   exact W.ret1 () rfl (.t rfl) trivial
theorem strings_TrimLeft_spec(n:Nat)(s0_:Str)(cutset:Str)(r:Str)(hm:M.strings_TrimLeft n s0_ cutset=some r):FSpec Tryd.prog 36 [(tS.is s0_),(tS.is cutset)] (tS.is r):=by
 unfold M.strings_TrimLeft at hm
 refine FSpec.of Tryd.func36 rfl rfl rfl fun g0=>Aw<|Ao rfl (.assign (.str rfl (by decide)))<|An<|W.seq ?_
 obtain ⟨s1,hs2,hk3⟩:=Bs hm
 clear hm
 refine W.join (fun s:Bool=>s=s1) (fun s=>[(12,(tB.is s)),(0,(tS.is s0_)),(1,(tS.is cutset))]) (fun s=>[]) ?_ ?_
 ·rintro v hj23
  try dsimp only at hj23
  subst hj23
  have hm:=hk3
  clear hk3
  try dsimp only at hm
  change W _ _ _ _ _ _ _ [(12,(tB.is v)),(0,(tS.is s0_)),(1,(tS.is cutset))] []
  refine W.cB hm (.t rfl) (fun hp7 hm=>?_) (fun hp7 hm=>?_)
  ·refine Aw<|Am rfl rfl<|Ag rfl rfl<|WL.ns ?_
   cases hm
   exact W.ret1 () rfl (.t rfl) trivial
  ·refine W.skip<|Aq<|W.seq ?_
   obtain ⟨s8,hs9,hk10⟩:=Bs hm
   clear hm
   refine W.join (fun s:Bool=>s=s8) (fun s=>[(21,(tB.is s)),(0,(tS.is s0_)),(1,(tS.is cutset))]) (fun s=>[]) ?_ ?_
   ·rintro v1 hj22
    try dsimp only at hj22
    subst hj22
    have hm:=hk10
    clear hk10
    try dsimp only at hm
    change W _ _ _ _ _ _ _ [(21,(tB.is v1)),(0,(tS.is s0_)),(1,(tS.is cutset))] []
    refine W.cB hm (.t rfl) (fun hp15 hm=>?_) (fun hp15 hm=>?_)
    ·refine Aw<|Am rfl rfl<|WL.mv rfl rfl ?_
     obtain ⟨b1,hv16,hm⟩:=Bs hm
     refine Ao rfl (.sidx hv16 U9 (.t rfl) .i64) ?_
     obtain ⟨trimle,hv17,hm⟩:=Bs hm
     refine Ao rfl (.call C57 (strings_trimLeftByte_spec _ _ _ _ hv17) ⟨(.t rfl),(.t rfl),trivial⟩)<|Ag rfl rfl<|WL.ns ?_
     cases hm
     exact W.ret1 () rfl (.t rfl) trivial
    ·refine W.skip<|Aq<|W.seq<|Aw<|WL.mv rfl rfl ?_
     obtain ⟨makeas,hv18,hm⟩:=Bs hm
     refine Ao rfl (.call C58 (strings_makeASCIISet_spec _ _ _ hv18) ⟨(.t rfl),trivial⟩)<|Am rfl rfl<|Ao rfl (.extract0 (.t rfl))<|Ao rfl (.extract1 (.t rfl))<|WL.opR rfl (OpR.alloc 5 ze104) fun b2=>WL.opU (OpR.storeB (b:=b2) 5 Z104 (Cellable.is (tA 256 tB) makeas.1) rfl (.t rfl) (.t rfl)) fun _=>WL.sealed (t:=(tA 256 tB)) (u:=makeas.1) 5 5 rfl rfl<|Ag rfl rfl<|Ar<|Am rfl rfl<|An<|W.cB hm (.t rfl) (fun hp20 hm=>?_) (fun hp20 hm=>?_)
     ·refine Aw<|WL.mv rfl rfl ?_
      obtain ⟨trimle1,hv21,hm⟩:=Bs hm
      refine Ao rfl (.call C59 (strings_trimLeftASCII_spec _ _ _ _ hv21) ⟨(.t rfl),(.t rfl),trivial⟩)<|Ag rfl rfl<|WL.ns ?_
      cases hm
      exact W.ret1 () rfl (.t rfl) trivial
     ·cases hm
   ·have hm:=hs9
    clear hs9
    refine W.region<|Am rfl rfl<|Ao rfl (.lenS U9 (.t rfl))<|Ao rfl (.eqI (.t rfl) .i64)<|WL.mv rfl rfl ?_
    rcases iteD hm with ⟨hp12,hb11,hm⟩ | ⟨hp12,hb11,hm⟩
    ·refine Ax rfl hb11 (.move (.t rfl)) ?_
     obtain ⟨b,hv13,hm⟩:=Bs hm
     exact Ax rfl hb11 (.sidx hv13 U9 (.t rfl) .i64)<|Ax rfl hb11 (.ltI (.t rfl) (.int (inR8.2 (by omega))))<|Ao rfl (.pickT (.t rfl) hb11 (.t rfl))<|WL.nil<|WN.meet (decide ((b.toNat:Int)< (128:Int))) (Si hm) ⟨.q rfl,.q rfl,.q rfl,trivial⟩ trivial
    ·exact Ap rfl hb11<|Ap rfl hb11<|Ap rfl hb11<|Ao rfl (.pickF (.t rfl) hb11 .bool)<|WL.nil<|WN.meet false (Si hm) ⟨.q rfl,.q rfl,.q rfl,trivial⟩ trivial
 ·have hm:=hs2
  clear hs2
  refine W.region<|Am rfl rfl<|Ao rfl (.eqS (.t rfl) (.str rfl (by decide)))<|WL.mv rfl rfl ?_
  rcases iteB hm with ⟨hp5,hb4,hm⟩ | ⟨hp5,hb4,hm⟩
  ·exact Ap rfl hb4<|Ap rfl hb4<|Ao rfl (.pickT (.t rfl) hb4 .bool)<|WL.nil<|WN.meet true (Si hm) ⟨.q rfl,.q rfl,.q rfl,trivial⟩ trivial
  ·exact Ax rfl hb4 (.move (.t rfl))<|Ax rfl hb4 (.eqS (.t rfl) (.str rfl (by decide)))<|Ao rfl (.pickF (.t rfl) hb4 (.t rfl))<|WL.nil<|WN.meet (cutset==([]:Str)) (Si hm) ⟨.q rfl,.q rfl,.q rfl,trivial⟩ trivial
theorem strings_Split_spec(s sep:Str)(r:List Str)(hm:splitM s sep=some r):FSpecR Tryd.prog 37 [tS.is s,tS.is sep] [(700001,GlE 1)] (fun _:Unit=>(tL tS).is r) (fun _=>[]):=
 split_spec (fun s sep m w hs hm h1=>Tryd.strings_Split s sep m w hs hm h1) _ s sep r hm
theorem plaintext_kind_spec(n:Nat)(s0_:Str)(r:Int×Bool)(hm:M.plaintext_kind n s0_=some r):FSpecR Tryd.prog 38 [(tS.is s0_)] [(700000,Gl (tA 8 tS) 0 gv0)] (fun _:Unit=>(Asn.tuple2 (I6.is r.1) (tB.is r.2))) (fun _=>[]):=by
 unfold M.plaintext_kind at hm
 refine FSpecR.of Tryd.func38 rfl rfl rfl fun g0=>Aw<|Ao rfl (.assign .i64)<|Ao rfl (.assign .bool)<|An<|W.seq<|Aw<|Ao rfl (.move .i64)<|An<|W.block ?_
 obtain ⟨s1,hs2,hk3⟩:=Bs hm
 clear hm
 refine W.loop (fun m (s:Int)=>M.plaintext_kind_loop1 s0_ m s=some s1) (fun s=>[(5,(I6.is s)),(0,(tS.is s0_))]) (fun s=>[(700000,Gl (tA 8 tS) 0 gv0)]) _ (0:Int) hs2 ⟨.q rfl,.q rfl,trivial⟩ ⟨rfl,rfl,trivial⟩ ?_
 rintro n4 v hm
 try dsimp only at hm
 change W _ _ _ _ _ _ _ [(5,(I6.is v)),(0,(tS.is s0_))] [(700000,Gl (tA 8 tS) 0 gv0)]
 cases n4 with
 | zero=>rw [M.plaintext_kind_loop1.eq_1] at hm;cases hm
 | succ n4=>
  rw [M.plaintext_kind_loop1.eq_2] at hm
  refine Aw<|Ao rfl (.ltI (.t rfl) .i64)<|An<|W.seq<|W.cD hm (.t rfl) (fun hp6 hm=>?_) (fun hp6 hm=>?_)
  ·refine W.skip<|Aq<|W.seq<|W.block<|Aw<|Am rfl rfl<|Ag rfl rfl<|Ar<|WL.mv rfl rfl ?_
   obtain ⟨kindna,hv7,hm⟩:=Bs hm
   refine Ao rfl (.callG (rin:=[(700000,Gl (tA 8 tS) 0 gv0)]) C33 (unit_KindName_spec _ _ hv7) ⟨rfl,trivial⟩ ⟨rfl,rfl,trivial⟩ ⟨(.t rfl),trivial⟩)<|Am rfl rfl<|Ao rfl (.eqS (.t rfl) (.t rfl))<|An<|W.cB hm (.t rfl) (fun hp9 hm=>?_) (fun hp9 hm=>?_)
   ·refine Aw<|Am rfl rfl<|Ag rfl rfl<|Ao rfl (.assign .bool)<|WL.ns ?_
    have hr10:=Si hm
    clear hm
    subst hr10
    have hm:=hk3
    try dsimp only at hm
    cases hm
    exact W.ret2 () rfl rfl (.t rfl) (.t rfl) trivial
   ·refine W.skip<|WN.block<|Aq<|W.region ?_
    obtain ⟨v1,hv11,hm⟩:=Bs hm
    exact Ao rfl (.addC hv11 (.t rfl) .i64)<|Am rfl rfl<|WL.nil<|WN.again n4 v1 (Nat.lt_succ_self n4) hm ⟨.q rfl,.q rfl,trivial⟩ ⟨rfl,rfl,trivial⟩
  ·refine W.exit rfl ?_
   have hr12:=Si hm
   clear hm
   subst hr12
   have hm:=hk3
   try dsimp only at hm
   refine Aq<|Aw<|Ao rfl (.assign .i64)<|Ao rfl (.assign .bool)<|WL.ns ?_
   cases hm
   exact W.ret2 () rfl rfl (.t rfl) (.t rfl) trivial
theorem internal_stringslite_HasSuffix_spec(s0_:Str)(suffix:Str)(r:Bool)(hm:M.internal_stringslite_HasSuffix s0_ suffix=some r):FSpec Tryd.prog 83 [(tS.is s0_),(tS.is suffix)] (tB.is r):=by
 unfold M.internal_stringslite_HasSuffix at hm
 refine FSpec.of Tryd.func83 rfl rfl rfl fun g0=>Aw<|Ao rfl (.assign .bool)<|Ar<|Am rfl rfl<|Ao rfl (.lenS U9 (.t rfl))<|Am rfl rfl<|Ao rfl (.lenS U9 (.t rfl))<|Ao rfl (.geI (.t rfl) (.t rfl))<|WL.mv rfl rfl ?_
 rcases iteD hm with ⟨hp2,hb1,hm⟩ | ⟨hp2,hb1,hm⟩
 ·refine Ax rfl hb1 (.move (.t rfl))<|Ax rfl hb1 (.move (.t rfl))<|Ax rfl hb1 (.lenS U9 (.t rfl))<|Ax rfl hb1 (.move (.t rfl))<|Ax rfl hb1 (.lenS U9 (.t rfl)) ?_
  obtain ⟨v,hv3,hm⟩:=Bs hm
  refine Ax rfl hb1 (.subC hv3 (.t rfl) (.t rfl)) ?_
  obtain ⟨v1,hv4,hm⟩:=Bs hm
  refine Ax rfl hb1 (.sslcLo hv4 U9 (.t rfl) (.t rfl))<|Ax rfl hb1 (.move (.t rfl))<|Ax rfl hb1 (.eqS (.t rfl) (.t rfl))<|Ao rfl (.pickT (.t rfl) hb1 (.t rfl))<|Ag rfl rfl<|WL.ns ?_
  cases hm
  exact W.ret1 () rfl (.t rfl) trivial
 ·refine Ap rfl hb1<|Ap rfl hb1<|Ap rfl hb1<|Ap rfl hb1<|Ap rfl hb1<|Ap rfl hb1<|Ap rfl hb1<|Ap rfl hb1<|Ap rfl hb1<|Ao rfl (.pickF (.t rfl) hb1 .bool)<|Ag rfl rfl<|WL.ns ?_
  cases hm
  exact W.ret1 () rfl (.t rfl) trivial
theorem internal_stringslite_CutSuffix_spec(s0_:Str)(suffix:Str)(r:Str×Bool)(hm:M.internal_stringslite_CutSuffix s0_ suffix=some r):FSpec Tryd.prog 62 [(tS.is s0_),(tS.is suffix)] (Asn.tuple2 (tS.is r.1) (tB.is r.2)):=by
 unfold M.internal_stringslite_CutSuffix at hm
 refine FSpec.of Tryd.func62 rfl rfl rfl fun g0=>Aw<|Ao rfl (.assign (.str rfl (by decide)))<|Ao rfl (.assign .bool)<|An<|W.seq<|Aw<|Am rfl rfl<|WL.mv rfl rfl ?_
 obtain ⟨hassuf,hv1,hm⟩:=Bs hm
 refine Ao rfl (.call C83 (internal_stringslite_HasSuffix_spec _ _ _ hv1) ⟨(.t rfl),(.t rfl),trivial⟩)<|Ao rfl (.notB (.t rfl))<|An<|W.cR hm (.t rfl) (fun hp3 hm=>?_) (fun hp3 hm=>?_)
 ·refine Aw<|Am rfl rfl<|Ag rfl rfl<|Ao rfl (.assign .bool)<|WL.ns ?_
  cases hm
  exact W.ret2 () rfl rfl (.t rfl) (.t rfl) trivial
 ·refine W.skip<|Aq<|Aw<|Am rfl rfl<|Am rfl rfl<|Ao rfl (.lenS U9 (.t rfl))<|Am rfl rfl<|Ao rfl (.lenS U9 (.t rfl)) ?_
  obtain ⟨v,hv4,hm⟩:=Bs hm
  refine Ao rfl (.subC hv4 (.t rfl) (.t rfl)) ?_
  obtain ⟨v1,hv5,hm⟩:=Bs hm
  refine Ao rfl (.sslcHi hv5 U9 (.t rfl) (.t rfl))<|Ag rfl rfl<|Ao rfl (.assign .bool)<|WL.ns ?_
  cases hm
  exact W.ret2 () rfl rfl (.t rfl) (.t rfl) trivial
theorem strings_CutSuffix_spec(s0_:Str)(suffix:Str)(r:Str×Bool)(hm:M.strings_CutSuffix s0_ suffix=some r):FSpec Tryd.prog 39 [(tS.is s0_),(tS.is suffix)] (Asn.tuple2 (tS.is r.1) (tB.is r.2)):=by
 unfold M.strings_CutSuffix at hm
 refine FSpec.of Tryd.func39 rfl rfl rfl fun g0=>Aw<|Ao rfl (.assign (.str rfl (by decide)))<|Ao rfl (.assign .bool)<|Ar<|Am rfl rfl<|WL.mv rfl rfl ?_
 obtain ⟨cutsuf,hv1,hm⟩:=Bs hm
 refine Ao rfl (.call C62 (internal_stringslite_CutSuffix_spec _ _ _ hv1) ⟨(.t rfl),(.t rfl),trivial⟩)<|Ao rfl (.extract0 (.t rfl))<|Ao rfl (.extract1 (.t rfl))<|Ag rfl rfl<|Ag rfl rfl<|WL.ns ?_
 cases hm
 exact W.ret2 () rfl rfl (.t rfl) (.t rfl) trivial
theorem slices_Index_string_string_spec(n:Nat)(s0_:List Str)(v:Str)(r:Int)(hm:M.slices_Index_string_string n s0_ v=some r):FSpec Tryd.prog 40 [((tL tS).is s0_),(tS.is v)] (I6.is r):=by
 unfold M.slices_Index_string_string at hm
 refine FSpec.of Tryd.func40 rfl rfl rfl fun g0=>Aw<|Ao rfl (.assign .i64)<|An<|W.seq<|Aw<|Am rfl rfl<|Ao rfl (.lenL U35 (.t rfl))<|Ao rfl (.move .i64)<|An<|W.block ?_
 obtain ⟨s1,hs2,hk3⟩:=Bs hm
 clear hm
 refine W.loop (fun m (s:Int)=>M.slices_Index_string_string_loop1 s0_ v m s=some s1) (fun s=>[(8,(I6.is s)),(0,((tL tS).is s0_)),(1,(tS.is v)),(7,(I6.is (s0_.length:Int)))]) (fun s=>[]) _ (0:Int) hs2 ⟨.q rfl,.q rfl,.q rfl,.q rfl,trivial⟩ trivial ?_
 rintro n4 v1 hm
 try dsimp only at hm
 change W _ _ _ _ _ _ _ [(8,(I6.is v1)),(0,((tL tS).is s0_)),(1,(tS.is v)),(7,(I6.is (s0_.length:Int)))] []
 cases n4 with
 | zero=>rw [M.slices_Index_string_string_loop1.eq_1] at hm;cases hm
 | succ n4=>
  rw [M.slices_Index_string_string_loop1.eq_2] at hm
  refine Aw<|Ao rfl (.ltI (.t rfl) (.t rfl))<|An<|W.seq<|W.cD hm (.t rfl) (fun hp6 hm=>?_) (fun hp6 hm=>?_)
  ·refine W.skip<|Aq<|W.seq<|W.block<|Aw<|Am rfl rfl<|Ag rfl rfl<|Ar<|Am rfl rfl<|Am rfl rfl<|WL.mv rfl rfl ?_
   obtain ⟨v2,hv7,hm⟩:=Bs hm
   refine Ao rfl (.idx hv7 U35 Z9 (.t rfl) (.t rfl))<|Ao rfl (.load ty9 (.t rfl))<|Ao rfl (.eqS (.t rfl) (.t rfl))<|An<|W.cB hm (.t rfl) (fun hp9 hm=>?_) (fun hp9 hm=>?_)
   ·refine Aw<|Am rfl rfl<|Ag rfl rfl<|WL.ns ?_
    have hr10:=Si hm
    clear hm
    subst hr10
    have hm:=hk3
    try dsimp only at hm
    cases hm
    exact W.ret1 () rfl (.t rfl) trivial
   ·exact W.skip<|WN.block<|Aq<|W.region<|WL.lenL (s:=0) (.t rfl) fun hl11=>Ao rfl (.addI1 (.t rfl) .i64 hp6 hl11)<|Am rfl rfl<|WL.nil<|WN.again n4 (v1+1) (Nat.lt_succ_self n4) hm ⟨.q rfl,.q rfl,.q rfl,.q rfl,trivial⟩ trivial
  ·refine W.exit rfl ?_
   have hr12:=Si hm
   clear hm
   subst hr12
   have hm:=hk3
   try dsimp only at hm
   refine Aq<|Aw<|Ao rfl (.assign .i64)<|WL.ns ?_
   cases hm
   exact W.ret1 () rfl (.t rfl) trivial
theorem internal_stringslite_HasPrefix_spec(s0_:Str)(prefix0_:Str)(r:Bool)(hm:M.internal_stringslite_HasPrefix s0_ prefix0_=some r):FSpec Tryd.prog 74 [(tS.is s0_),(tS.is prefix0_)] (tB.is r):=by
 unfold M.internal_stringslite_HasPrefix at hm
 refine FSpec.of Tryd.func74 rfl rfl rfl fun g0=>Aw<|Ao rfl (.assign .bool)<|Ar<|Am rfl rfl<|Ao rfl (.lenS U9 (.t rfl))<|Am rfl rfl<|Ao rfl (.lenS U9 (.t rfl))<|Ao rfl (.geI (.t rfl) (.t rfl))<|WL.mv rfl rfl ?_
 rcases iteD hm with ⟨hp2,hb1,hm⟩ | ⟨hp2,hb1,hm⟩
 ·refine Ax rfl hb1 (.move (.t rfl))<|Ax rfl hb1 (.move (.t rfl))<|Ax rfl hb1 (.lenS U9 (.t rfl)) ?_
  obtain ⟨v,hv3,hm⟩:=Bs hm
  refine Ax rfl hb1 (.sslcHi hv3 U9 (.t rfl) (.t rfl))<|Ax rfl hb1 (.move (.t rfl))<|Ax rfl hb1 (.eqS (.t rfl) (.t rfl))<|Ao rfl (.pickT (.t rfl) hb1 (.t rfl))<|Ag rfl rfl<|WL.ns ?_
  cases hm
  exact W.ret1 () rfl (.t rfl) trivial
 ·refine Ap rfl hb1<|Ap rfl hb1<|Ap rfl hb1<|Ap rfl hb1<|Ap rfl hb1<|Ap rfl hb1<|Ao rfl (.pickF (.t rfl) hb1 .bool)<|Ag rfl rfl<|WL.ns ?_
  cases hm
  exact W.ret1 () rfl (.t rfl) trivial
theorem internal_stringslite_TrimPrefix_spec(s0_:Str)(prefix0_:Str)(r:Str)(hm:M.internal_stringslite_TrimPrefix s0_ prefix0_=some r):FSpec Tryd.prog 84 [(tS.is s0_),(tS.is prefix0_)] (tS.is r):=by
 unfold M.internal_stringslite_TrimPrefix at hm
 refine FSpec.of Tryd.func84 rfl rfl rfl fun g0=>Aw<|Ao rfl (.assign (.str rfl (by decide)))<|An<|W.seq<|Aw<|Am rfl rfl<|WL.mv rfl rfl ?_
 obtain ⟨haspre,hv1,hm⟩:=Bs hm
 refine Ao rfl (.call C74 (internal_stringslite_HasPrefix_spec _ _ _ hv1) ⟨(.t rfl),(.t rfl),trivial⟩)<|An<|W.cB hm (.t rfl) (fun hp3 hm=>?_) (fun hp3 hm=>?_)
 ·refine Aw<|Am rfl rfl<|Am rfl rfl<|Ao rfl (.lenS U9 (.t rfl)) ?_
  obtain ⟨v,hv4,hm⟩:=Bs hm
  refine Ao rfl (.sslcLo hv4 U9 (.t rfl) (.t rfl))<|Ag rfl rfl<|WL.ns ?_
  cases hm
  exact W.ret1 () rfl (.t rfl) trivial
 ·refine W.skip<|Aq<|Aw<|Am rfl rfl<|Ag rfl rfl<|WL.ns ?_
  cases hm
  exact W.ret1 () rfl (.t rfl) trivial
theorem strings_TrimPrefix_spec(s0_:Str)(prefix0_:Str)(r:Str)(hm:M.strings_TrimPrefix s0_ prefix0_=some r):FSpec Tryd.prog 63 [(tS.is s0_),(tS.is prefix0_)] (tS.is r):=by
 unfold M.strings_TrimPrefix at hm
 refine FSpec.of Tryd.func63 rfl rfl rfl fun g0=>Aw<|Ao rfl (.assign (.str rfl (by decide)))<|Ar<|Am rfl rfl<|WL.mv rfl rfl ?_
 obtain ⟨trimpr,hv1,hm⟩:=Bs hm
 refine Ao rfl (.call C84 (internal_stringslite_TrimPrefix_spec _ _ _ hv1) ⟨(.t rfl),(.t rfl),trivial⟩)<|Ag rfl rfl<|WL.ns ?_
 cases hm
 exact W.ret1 () rfl (.t rfl) trivial
theorem plaintext_words_spec(l:List Str)(r:(List api_Word))(hm:M.plaintext_words l=some r):FSpec Tryd.prog 41 [((tL tS).is l)] ((tL tapi_Word).is r):=by
 unfold M.plaintext_words at hm
 refine FSpec.of Tryd.func41 rfl rfl rfl fun g0=>Aw<|Ao rfl (.assign (.nil (t:=tapi_Word)))<|Ar<|WL.addNil (t:=tapi_Word) (E:=54) 3<|Ao rfl (.assign (Opd.nilO (t:=tapi_Word)))<|An<|W.seq<|Aw<|Am rfl rfl<|Ao rfl (.lenL U35 (.t rfl))<|Ao rfl (.move .i64)<|An<|W.block ?_
 obtain ⟨s1,hs2,hk3⟩:=Bs hm
 clear hm
 refine W.loop (fun m (s:Int×List Str×List Str×(((List api_Word))×Tok))=>m=s.2.2.1.length∧l=s.2.1++s.2.2.1∧s.1=(s.2.1.length:Int)∧M.plaintext_words_loop1 s.2.2.1 s.2.2.2.1=some s1) (fun s=>[(8,(I6.is s.1)),(3,(tO tapi_Word s.2.2.2.2 s.2.2.2.1)),(6,((tL tS).is l)),(7,(I6.is (l.length:Int)))]) (fun s=>[(3,Dec.Own tapi_Word 54 s.2.2.2.2 s.2.2.2.1.length)]) l.length ((0:Int),[],l,(([]:List api_Word),(none:Tok))) ⟨rfl,rfl,rfl,hs2⟩ ⟨.q rfl,.q rfl,.q rfl,.q rfl,trivial⟩ ⟨rfl,rfl,trivial⟩ ?_
 rintro m ⟨i,pre,rest1,⟨out,k⟩⟩ ⟨hn7,hxs4,hi5,hm⟩
 try dsimp only at hn7 hxs4 hi5 hm
 change W _ _ _ _ _ _ _ [(8,(I6.is i)),(3,(tO tapi_Word k out)),(6,((tL tS).is l)),(7,(I6.is (l.length:Int)))] [(3,Dec.Own tapi_Word 54 k out.length)]
 refine W.lenL (s:=6) (.t rfl) fun hlen6=>Aw<|Ao rfl (.ltI (.t rfl) (.t rfl))<|An<|W.seq<|W.cond (.t rfl) (fun hc9=>?_) (fun hc9=>?_)
 ·have hp10:=of_decide_eq_true hc9
  obtain ⟨e,es,hrest12⟩:=range_more hxs4 hi5 hp10
  subst hrest12
  rw [M.plaintext_words_loop1.eq_2] at hm
  refine W.skip<|Aq<|W.seq<|W.block<|Aw<|Ao rfl (.idxPre hxs4 hi5 U35 Z9 (.t rfl) (.t rfl))<|Ao rfl (.load ty9 (.t rfl))<|Ag rfl rfl<|WL.nr1<|Am rfl rfl<|WL.mv rfl rfl ?_
  obtain ⟨trimpr,hv13,hm⟩:=Bs hm
  refine Ao rfl (.call C63 (strings_TrimPrefix_spec _ _ _ hv13) ⟨(.t rfl),(.str rfl (by decide)),trivial⟩)<|Ao rfl (.build (s:=tapi_Word) (x:=(⟨trimpr,zapi_Mark⟩:api_Word)) zapi_Word_f rfl U54 (zapi_Word_sz _ U54) ze54 ⟨_,tS,trimpr,_,_,rfl,Z9,(.t rfl),sapi_Word_0,rfl⟩)<|Ao rfl (.buildSlice (n:=1) (ys:=[(0,(⟨trimpr,zapi_Mark⟩:api_Word))]) (z:=zapi_Word) (xs:=[(⟨trimpr,zapi_Mark⟩:api_Word)]) U25 el54 ze54 ⟨rfl,(.t rfl),trivial⟩ (by simp) (by decide) rfl) ?_
  obtain ⟨out1,hv14,hm⟩:=Bs hm
  exact WL.opR rfl (OpR.appC (key:=3) hv14 U25 el54 (.t rfl) (.t rfl) rfl) fun k1=>Ag rfl rfl<|WL.nil<|WN.block<|Aq<|W.region<|Ao rfl (.addI (.t rfl) .i64 (range_inR hi5 hp10 hlen6))<|Am rfl rfl<|WL.nil<|WN.again es.length (i+1,pre++ [e],es,(out1,k1)) (range_lt hn7) ⟨rfl,range_step hxs4,range_idx hi5,hm⟩ ⟨.q rfl,.q rfl,.q rfl,.q rfl,trivial⟩ ⟨rfl,rfl,trivial⟩
 ·have hrest12:=range_end hxs4 hi5 (of_decide_eq_false hc9)
  subst hrest12
  rw [M.plaintext_words_loop1.eq_1] at hm
  refine W.exit rfl ?_
  have hr15:=Si hm
  clear hm
  subst hr15
  have hm:=hk3
  try dsimp only at hm
  refine Aq<|Aw<|Am rfl rfl<|Ag rfl rfl<|WL.ns ?_
  cases hm
  exact W.ret1 () rfl (Opd.own (.t rfl)) trivial
theorem plaintext_ParseLine_spec(n:Nat)(s0_:Str)(r:api_Unit×Int×Int)(hm:M.plaintext_ParseLine n s0_=some r):FSpecR Tryd.prog 20 [(tS.is s0_)] [(700000,Gl (tA 8 tS) 0 gv0),(700001,GlE 1),(700002,Gl (tA 8 (tL I6)) 2 gv2)] (fun _:Unit=>(Asn.tuple3 ((tapi_Unit_k5 none).is r.1) (I6.is r.2.1) (I6.is r.2.2))) (fun _=>[]):=by
 unfold M.plaintext_ParseLine at hm
 refine FSpecR.of Tryd.func20 rfl rfl rfl fun g0=>Aw<|WL.opR rfl (OpR.alloc 2 zeapi_Unit_k5) fun b=>Ao rfl (.assign .i64)<|Ao rfl (.assign .i64)<|Ar<|WL.mv rfl rfl ?_
 obtain ⟨trimle,hv1,hm⟩:=Bs hm
 refine Ao rfl (.call C36 (strings_TrimLeft_spec _ _ _ _ hv1) ⟨(.t rfl),(.str rfl (by decide)),trivial⟩)<|Ag rfl rfl<|Ar<|Am rfl rfl<|Ao rfl (.lenS U9 (.t rfl))<|Am rfl rfl<|Ao rfl (.lenS U9 (.t rfl)) ?_
 obtain ⟨v,hv2,hm⟩:=Bs hm
 refine Ao rfl (.subC hv2 (.t rfl) (.t rfl)) ?_
 obtain ⟨v1,hv3,hm⟩:=Bs hm
 refine Ao rfl (.quoC hv3 (.t rfl) .i64)<|Ag rfl rfl<|Ar<|WL.mv rfl rfl ?_
 obtain ⟨split,hv4,hm⟩:=Bs hm
 refine Ao rfl (.callG (rin:=[(700001,GlE 1)]) C37 (strings_Split_spec _ _ _ hv4) ⟨rfl,trivial⟩ ⟨rfl,rfl,trivial⟩ ⟨(.t rfl),(.str rfl (by decide)),trivial⟩)<|Ag rfl rfl<|Ar<|WL.mv rfl rfl ?_
 obtain ⟨v2,hv5,hm⟩:=Bs hm
 refine Ao rfl (.idx hv5 U35 Z9 (.t rfl) .i64)<|Ao rfl (.load ty9 (.t rfl)) ?_
 obtain ⟨kind,hv6,hm⟩:=Bs hm
 refine Ao rfl (.callG (rin:=[(700000,Gl (tA 8 tS) 0 gv0)]) C38 (plaintext_kind_spec _ _ _ hv6) ⟨rfl,trivial⟩ ⟨rfl,rfl,trivial⟩ ⟨(.t rfl),trivial⟩)<|Am rfl rfl<|Ao rfl (.extract0 (.t rfl))<|Ao rfl (.extract1 (.t rfl))<|Ag rfl rfl<|Ag rfl rfl<|An<|W.seq<|Aw<|Am rfl rfl<|Ao rfl (.notB (.t rfl))<|An<|W.cR hm (.t rfl) (fun hp8 hm=>?_) (fun hp8 hm=>?_)
 ·refine Aw<|Ao rfl (.build (s:=(tapi_Unit_k5 none)) (x:=(⟨zapi_Id,(0:Int),([]:Str),([]:List api_Word),([]:List api_Word),([]:List api_Unit)⟩:api_Unit)) zapi_Unit_f rfl U28 (zapi_Unit_sz _ U28) zeapi_Unit_k5 rfl)<|WL.opU (OpR.storeB (b:=b) 2 Z28 (Cellable.is (tapi_Unit_k5 none) (⟨zapi_Id,(0:Int),([]:Str),([]:List api_Word),([]:List api_Word),([]:List api_Unit)⟩:api_Unit)) rfl (.t rfl) (.t rfl)) fun _=>Ao rfl (.assign .i64)<|Ao rfl (.assign .i64)<|WL.ns ?_
  cases hm
  exact W.retQ3 () rfl rfl (ResAt.cell 2 Y28 Z28 rfl (.t rfl)) (ResAt.tmp (.t rfl)) (ResAt.tmp (.t rfl)) trivial
 ·refine W.skip<|Aq<|Aw<|Am rfl rfl<|Ao rfl (.build (s:=(tapi_Unit_k5 none)) (x:=(⟨zapi_Id,kind.1,([]:Str),([]:List api_Word),([]:List api_Word),([]:List api_Unit)⟩:api_Unit)) zapi_Unit_f rfl U28 (zapi_Unit_sz _ U28) zeapi_Unit_k5 ⟨_,I6,kind.1,_,_,rfl,Z3,(.t rfl),(sapi_Unit_k5_1 none),rfl⟩)<|WL.opR rfl (OpR.alloc 10 zeapi_Unit_k5) fun b1=>WL.opU (OpR.storeB (b:=b1) 10 Z28 (Cellable.is (tapi_Unit_k5 none) (⟨zapi_Id,kind.1,([]:Str),([]:List api_Word),([]:List api_Word),([]:List api_Unit)⟩:api_Unit)) rfl (.t rfl) (.t rfl)) fun _=>Ar<|WL.mv rfl rfl ?_
  obtain ⟨v3,hv9,hm⟩:=Bs hm
  refine Ao rfl (.slcLo hv9 U35 Z9 (.t rfl) .i64)<|Ag rfl rfl<|WL.ns ?_
  obtain ⟨s10,hs11,hk12⟩:=Bs hm
  clear hm
  refine W.join (fun s:api_Unit=>s=s10) (fun s=>[(0,(tS.is s0_)),(2,(Bp b 0)),(6,(I6.is v1)),(10,(Bp b1 0))]) (fun s=>[(10,(Bx 8 true 28 ((tapi_Unit_k5 none).is s) b1)),(2,(Bx 8 true 28 ((tapi_Unit_k5 none).is zapi_Unit) b)),(700000,Gl (tA 8 tS) 0 gv0),(700001,GlE 1),(700002,Gl (tA 8 (tL I6)) 2 gv2)]) ?_ ?_
  ·rintro u hj45
   try dsimp only at hj45
   subst hj45
   have hm:=hk12
   clear hk12
   try dsimp only at hm
   change W _ _ _ _ _ _ _ [(0,(tS.is s0_)),(2,(Bp b 0)),(6,(I6.is v1)),(10,(Bp b1 0))] [(10,(Bx 8 true 28 ((tapi_Unit_k5 none).is u) b1)),(2,(Bx 8 true 28 ((tapi_Unit_k5 none).is zapi_Unit) b)),(700000,Gl (tA 8 tS) 0 gv0),(700001,GlE 1),(700002,Gl (tA 8 (tL I6)) 2 gv2)]
   refine W.seq<|Aw<|Ao rfl (.loadB 10 Y28 Z28 rfl (.t rfl))<|WL.mv rfl rfl ?_
   obtain ⟨format,hv42,hm⟩:=Bs hm
   refine Ao rfl (.callG (rin:=[(700000,Gl (tA 8 tS) 0 gv0),(700002,Gl (tA 8 (tL I6)) 2 gv2)]) C18 (plaintext_FormatLine_spec _ _ _ _ hv42) ⟨rfl,rfl,trivial⟩ ⟨rfl,rfl,⟨rfl,rfl,trivial⟩⟩ ⟨(Opd.leT (leapi_Unit_k5 none) (.t rfl)),(.t rfl),trivial⟩)<|Am rfl rfl<|Ao rfl (.neS (.t rfl) (.t rfl))<|An<|W.cB hm (.t rfl) (fun hp44 hm=>?_) (fun hp44 hm=>?_)
   ·refine Aw<|Ao rfl (.build (s:=(tapi_Unit_k5 none)) (x:=(⟨zapi_Id,(0:Int),([]:Str),([]:List api_Word),([]:List api_Word),([]:List api_Unit)⟩:api_Unit)) zapi_Unit_f rfl U28 (zapi_Unit_sz _ U28) zeapi_Unit_k5 rfl)<|WL.opU (OpR.storeB (b:=b) 2 Z28 (Cellable.is (tapi_Unit_k5 none) (⟨zapi_Id,(0:Int),([]:Str),([]:List api_Word),([]:List api_Word),([]:List api_Unit)⟩:api_Unit)) rfl (.t rfl) (.t rfl)) fun _=>Ao rfl (.assign .i64)<|Ao rfl (.assign .i64)<|WL.ns ?_
    cases hm
    exact W.retQ3 () rfl rfl (ResAt.cell 2 Y28 Z28 rfl (.t rfl)) (ResAt.tmp (.t rfl)) (ResAt.tmp (.t rfl)) trivial
   ·refine W.skip<|Aq<|Aw<|Ao rfl (.loadB 10 Y28 Z28 rfl (.t rfl))<|Am rfl rfl<|WL.opU (OpR.storeB (b:=b) 2 Z28 (Cellable.is (tapi_Unit_k5 none) u) rfl (.t rfl) (.t rfl)) fun _=>Ag rfl rfl<|Ao rfl (.assign .i64)<|WL.ns ?_
    cases hm
    exact W.retQ3 () rfl rfl (ResAt.cell 2 Y28 Z28 rfl (.t rfl)) (ResAt.tmp (.t rfl)) (ResAt.tmp (.t rfl)) trivial
  ·have hm:=hs11
   clear hs11
   obtain ⟨s13,hs14,hk15⟩:=Bs hm
   clear hm
   refine W.join (fun s:Bool=>s=s13) (fun s=>[(44,(tB.is s)),(0,(tS.is s0_)),(2,(Bp b 0)),(6,(I6.is v1)),(7,((tL tS).is v3)),(10,(Bp b1 0))]) (fun s=>[(2,(Bx 8 true 28 ((tapi_Unit_k5 none).is zapi_Unit) b)),(10,(Bx 8 true 28 ((tapi_Unit_k5 none).is (⟨zapi_Id,kind.1,([]:Str),([]:List api_Word),([]:List api_Word),([]:List api_Unit)⟩:api_Unit)) b1)),(700000,Gl (tA 8 tS) 0 gv0),(700001,GlE 1),(700002,Gl (tA 8 (tL I6)) 2 gv2)]) ?_ ?_
   ·rintro v4 hj41
    try dsimp only at hj41
    subst hj41
    have hm:=hk15
    clear hk15
    try dsimp only at hm
    change W _ _ _ _ _ _ _ [(44,(tB.is v4)),(0,(tS.is s0_)),(2,(Bp b 0)),(6,(I6.is v1)),(7,((tL tS).is v3)),(10,(Bp b1 0))] [(2,(Bx 8 true 28 ((tapi_Unit_k5 none).is zapi_Unit) b)),(10,(Bx 8 true 28 ((tapi_Unit_k5 none).is (⟨zapi_Id,kind.1,([]:Str),([]:List api_Word),([]:List api_Word),([]:List api_Unit)⟩:api_Unit)) b1)),(700000,Gl (tA 8 tS) 0 gv0),(700001,GlE 1),(700002,Gl (tA 8 (tL I6)) 2 gv2)]
    refine W.cB hm (.t rfl) (fun hp19 hm=>?_) (fun hp19 hm=>?_)
    ·refine Aw<|WL.mv rfl rfl ?_
     obtain ⟨v5,hv20,hm⟩:=Bs hm
     refine Ao rfl (.idx hv20 U35 Z9 (.t rfl) .i64)<|Ao rfl (.load ty9 (.t rfl)) ?_
     obtain ⟨cutsuf,hv21,hm⟩:=Bs hm
     refine Ao rfl (.call C39 (strings_CutSuffix_spec _ _ _ hv21) ⟨(.t rfl),(.str rfl (by decide)),trivial⟩)<|Am rfl rfl<|Ao rfl (.extract0 (.t rfl))<|Ao rfl (.extract1 (.t rfl))<|Ag rfl rfl<|Ag rfl rfl<|An<|W.seq ?_
     obtain ⟨v6,hv22,hm⟩:=Bs hm
     refine W.weakR (res':=[(2,(Bx 8 true 28 ((tapi_Unit_k5 none).is zapi_Unit) b)),(10,(Bx 8 true 28 ((tapi_Unit_k5 none).is (⟨zapi_Id,kind.1,([]:Str),([]:List api_Word),([]:List api_Word),([]:List api_Unit)⟩:api_Unit)) b1)),(700000,Gl (tA 8 tS) 0 gv0),(700001,GlE 1),(700002,Gl (tA 8 (tL I6)) 2 gv2)]) ⟨rfl,rfl,⟨rfl,rfl,⟨rfl,rfl,⟨rfl,rfl,⟨rfl,rfl,trivial⟩⟩⟩⟩⟩<|W.drawM [.c (tS.is cutsuf.1),.c ((tL tS).is v3),.c ((tL tS).is v6),.c (Bp b1 4),.c Asn.any,.c ((tL tS).is v6)] [([],[11]),([],[7]),([1],[]),([],[10]),([0,3],[]),([2],[])] [4] [[],[],[],[],[],[]] (fun m cv=>match m with | 0=>[(2,(Bx 8 true 28 ((tapi_Unit_k5 none).is zapi_Unit) b)),(10,(Bx 8 true 28 ((tapi_Unit_k5 none).is (⟨zapi_Id,kind.1,([]:Str),([]:List api_Word),([]:List api_Word),([]:List api_Unit)⟩:api_Unit)) b1)),(700000,Gl (tA 8 tS) 0 gv0),(700001,GlE 1),(700002,Gl (tA 8 (tL I6)) 2 gv2)] | _=>[(10,(Bx 8 true 28 ((tapi_Unit_k5 none).is ({(⟨zapi_Id,kind.1,([]:Str),([]:List api_Word),([]:List api_Word),([]:List api_Unit)⟩:api_Unit) with Label:=cutsuf.1}:api_Unit)) b1)),(2,(Bx 8 true 28 ((tapi_Unit_k5 none).is zapi_Unit) b)),(700000,Gl (tA 8 tS) 0 gv0),(700001,GlE 1),(700002,Gl (tA 8 (tL I6)) 2 gv2)]) (fun _=>none) Mx rfl rfl rfl rfl rfl ⟨fun _ _ _ _=>rfl,⟨fun _ _ _ _=>rfl,⟨fun _ _ _ _=>rfl,⟨fun _ _ _ _=>rfl,⟨fun _ _ _ _=>rfl,⟨fun _ _ _ _=>rfl,trivial⟩⟩⟩⟩⟩⟩ rfl ⟨mo fun cv=>Op1.move (.t rfl),⟨mo fun cv=>Op1.move (.t rfl),⟨mo fun cv=>Op1.slcLo hv22 U35 Z9 (.t rfl) .i64,⟨mo fun cv=>Op1.fieldAddrB (o:=0) U28 rfl J9 (.t rfl) rfl,⟨.inl rfl,⟨mo fun cv=>Op1.assign (.t rfl),trivial⟩⟩⟩⟩⟩⟩ ⟨⟨_,_,_,[10],(fun cv=>[(10,(Bx 8 true 28 ((tapi_Unit_k5 none).is ({(⟨zapi_Id,kind.1,([]:Str),([]:List api_Word),([]:List api_Word),([]:List api_Unit)⟩:api_Unit) with Label:=cutsuf.1}:api_Unit)) b1))]),rfl,rfl,rfl,rfl,fun _=>rfl,fun _ _=>rfl,fun cv=>OpR.viaU (OpR.storeBF (b:=b1) 10 rfl ty9 (sapi_Unit_k5_2 none) rfl (show 4+1≤8 by decide) (.t rfl) (.t rfl))⟩,trivial⟩ fun cv=>Aq<|Aw<|WL.mv rfl rfl ?_
     obtain ⟨string,hv23,hm⟩:=Bs hm
     refine Ao rfl (.call C40 (slices_Index_string_string_spec _ _ _ _ hv23) ⟨(.t rfl),(.str rfl (by decide)),trivial⟩)<|Ag rfl rfl<|WL.ns ?_
     obtain ⟨s24,hs25,hk26⟩:=Bs hm
     clear hm
     refine W.join (fun s:Int=>s=s24) (fun s=>[(13,(I6.is s)),(0,(tS.is s0_)),(2,(Bp b 0)),(6,(I6.is v1)),(7,((tL tS).is v6)),(10,(Bp b1 0)),(12,(tB.is cutsuf.2))]) (fun s=>[(2,(Bx 8 true 28 ((tapi_Unit_k5 none).is zapi_Unit) b)),(10,(Bx 8 true 28 ((tapi_Unit_k5 none).is ({(⟨zapi_Id,kind.1,([]:Str),([]:List api_Word),([]:List api_Word),([]:List api_Unit)⟩:api_Unit) with Label:=cutsuf.1}:api_Unit)) b1)),(700000,Gl (tA 8 tS) 0 gv0),(700001,GlE 1),(700002,Gl (tA 8 (tL I6)) 2 gv2)]) ?_ ?_
     ·rintro bar hj40
      try dsimp only at hj40
      subst hj40
      have hm:=hk26
      clear hk26
      try dsimp only at hm
      change W _ _ _ _ _ _ _ [(13,(I6.is bar)),(0,(tS.is s0_)),(2,(Bp b 0)),(6,(I6.is v1)),(7,((tL tS).is v6)),(10,(Bp b1 0)),(12,(tB.is cutsuf.2))] [(2,(Bx 8 true 28 ((tapi_Unit_k5 none).is zapi_Unit) b)),(10,(Bx 8 true 28 ((tapi_Unit_k5 none).is ({(⟨zapi_Id,kind.1,([]:Str),([]:List api_Word),([]:List api_Word),([]:List api_Unit)⟩:api_Unit) with Label:=cutsuf.1}:api_Unit)) b1)),(700000,Gl (tA 8 tS) 0 gv0),(700001,GlE 1),(700002,Gl (tA 8 (tL I6)) 2 gv2)]
      obtain ⟨s29,hs30,hk31⟩:=Bs hm
      clear hm
      refine W.join (fun s:api_Unit=>s=s29) (fun s=>[(0,(tS.is s0_)),(2,(Bp b 0)),(6,(I6.is v1)),(7,((tL tS).is v6)),(10,(Bp b1 0)),(13,(I6.is bar))]) (fun s=>[(10,(Bx 8 true 28 ((tapi_Unit_k5 none).is s) b1)),(2,(Bx 8 true 28 ((tapi_Unit_k5 none).is zapi_Unit) b)),(700000,Gl (tA 8 tS) 0 gv0),(700001,GlE 1),(700002,Gl (tA 8 (tL I6)) 2 gv2)]) ?_ ?_
      ·rintro u1 hj39
       try dsimp only at hj39
       subst hj39
       have hm:=hk31
       clear hk31
       try dsimp only at hm
       change W _ _ _ _ _ _ _ [(0,(tS.is s0_)),(2,(Bp b 0)),(6,(I6.is v1)),(7,((tL tS).is v6)),(10,(Bp b1 0)),(13,(I6.is bar))] [(10,(Bx 8 true 28 ((tapi_Unit_k5 none).is u1) b1)),(2,(Bx 8 true 28 ((tapi_Unit_k5 none).is zapi_Unit) b)),(700000,Gl (tA 8 tS) 0 gv0),(700001,GlE 1),(700002,Gl (tA 8 (tL I6)) 2 gv2)]
       refine W.region<|Am rfl rfl<|WL.mv rfl rfl ?_
       obtain ⟨v8,hv36,hm⟩:=Bs hm
       refine Ao rfl (.addC hv36 (.t rfl) .i64)<|Am rfl rfl<|Ao rfl (.lenL U35 (.t rfl))<|Ao rfl (.minI (.t rfl) (.t rfl)) ?_
       obtain ⟨v9,hv37,hm⟩:=Bs hm
       refine Ao rfl (.slcLo hv37 U35 Z9 (.t rfl) (.t rfl)) ?_
       obtain ⟨words1,hv38,hm⟩:=Bs hm
       exact Ao rfl (.call C41 (plaintext_words_spec _ _ hv38) ⟨(.t rfl),trivial⟩)<|Ao rfl (.fieldAddrB (o:=0) U28 rfl J25 (.t rfl) rfl)<|WL.opU (OpR.storeBF (b:=b1) 10 rfl ty25 (sapi_Unit_k5_4 none) rfl (show 6+1≤8 by decide) (.t rfl) (.t rfl)) fun _=>WL.nil<|WN.meet ({u1 with Words:=words1}:api_Unit) (Si hm) ⟨.q rfl,.q rfl,.q rfl,.q rfl,trivial⟩ ⟨rfl,rfl,⟨rfl,rfl,⟨rfl,rfl,⟨rfl,rfl,⟨rfl,rfl,trivial⟩⟩⟩⟩⟩
      ·have hm:=hs30
       clear hs30
       refine Aw<|Am rfl rfl<|An<|W.cB hm (.t rfl) (fun hp33 hm=>?_) (fun hp33 hm=>?_)
       ·refine W.region<|Am rfl rfl<|WL.mv rfl rfl ?_
        obtain ⟨v7,hv34,hm⟩:=Bs hm
        refine Ao rfl (.slcHi hv34 U35 Z9 (.t rfl) (.t rfl)) ?_
        obtain ⟨words,hv35,hm⟩:=Bs hm
        exact Ao rfl (.call C41 (plaintext_words_spec _ _ hv35) ⟨(.t rfl),trivial⟩)<|Ao rfl (.fieldAddrB (o:=0) U28 rfl J25 (.t rfl) rfl)<|WL.opU (OpR.storeBF (b:=b1) 10 rfl ty25 (sapi_Unit_k5_3 none) rfl (show 5+1≤8 by decide) (.t rfl) (.t rfl)) fun _=>WL.nil<|WN.meet ({({(⟨zapi_Id,kind.1,([]:Str),([]:List api_Word),([]:List api_Word),([]:List api_Unit)⟩:api_Unit) with Label:=cutsuf.1}:api_Unit) with Head:=words}:api_Unit) (Si hm) ⟨.q rfl,.q rfl,.q rfl,.q rfl,.q rfl,.q rfl,trivial⟩ ⟨rfl,rfl,⟨rfl,rfl,⟨rfl,rfl,⟨rfl,rfl,⟨rfl,rfl,trivial⟩⟩⟩⟩⟩
       ·exact W.skip<|WN.meet ({(⟨zapi_Id,kind.1,([]:Str),([]:List api_Word),([]:List api_Word),([]:List api_Unit)⟩:api_Unit) with Label:=cutsuf.1}:api_Unit) (Si hm) ⟨.q rfl,.q rfl,.q rfl,.q rfl,.q rfl,.q rfl,trivial⟩ ⟨rfl,rfl,⟨rfl,rfl,⟨rfl,rfl,⟨rfl,rfl,⟨rfl,rfl,trivial⟩⟩⟩⟩⟩
     ·have hm:=hs25
      clear hs25
      refine Aw<|Am rfl rfl<|Ao rfl (.ltI (.t rfl) .i64)<|An<|W.cD hm (.t rfl) (fun hp28 hm=>?_) (fun hp28 hm=>?_)
      ·exact W.region<|Am rfl rfl<|Ao rfl (.lenL U35 (.t rfl))<|Ag rfl rfl<|WL.nil<|WN.meet (v6.length:Int) (Si hm) ⟨.q rfl,.q rfl,.q rfl,.q rfl,.q rfl,.q rfl,.q rfl,trivial⟩ ⟨rfl,rfl,⟨rfl,rfl,⟨rfl,rfl,⟨rfl,rfl,⟨rfl,rfl,trivial⟩⟩⟩⟩⟩
      ·exact W.skip<|WN.meet string (Si hm) ⟨.q rfl,.q rfl,.q rfl,.q rfl,.q rfl,.q rfl,.q rfl,trivial⟩ ⟨rfl,rfl,⟨rfl,rfl,⟨rfl,rfl,⟨rfl,rfl,⟨rfl,rfl,trivial⟩⟩⟩⟩⟩
    ·exact W.skip<|WN.meet (⟨zapi_Id,kind.1,([]:Str),([]:List api_Word),([]:List api_Word),([]:List api_Unit)⟩:api_Unit) (Si hm) ⟨.q rfl,.q rfl,.q rfl,.q rfl,trivial⟩ ⟨rfl,rfl,⟨rfl,rfl,⟨rfl,rfl,⟨rfl,rfl,⟨rfl,rfl,trivial⟩⟩⟩⟩⟩
   ·have hm:=hs14
    clear hs14
    refine W.region<|Am rfl rfl<|Ao rfl (.neI (.t rfl) .i64)<|WL.mv rfl rfl ?_
    rcases iteD hm with ⟨hp17,hb16,hm⟩ | ⟨hp17,hb16,hm⟩
    ·exact Ax rfl hb16 (.move (.t rfl))<|Ax rfl hb16 (.lenL U35 (.t rfl))<|Ax rfl hb16 (.gtI (.t rfl) .i64)<|Ao rfl (.pickT (.t rfl) hb16 (.t rfl))<|WL.nil<|WN.meet (decide ((0:Int)< (v3.length:Int))) (Si hm) ⟨.q rfl,.q rfl,.q rfl,.q rfl,.q rfl,.q rfl,trivial⟩ ⟨rfl,rfl,⟨rfl,rfl,⟨rfl,rfl,⟨rfl,rfl,⟨rfl,rfl,trivial⟩⟩⟩⟩⟩
    ·exact Ap rfl hb16<|Ap rfl hb16<|Ap rfl hb16<|Ao rfl (.pickF (.t rfl) hb16 .bool)<|WL.nil<|WN.meet false (Si hm) ⟨.q rfl,.q rfl,.q rfl,.q rfl,.q rfl,.q rfl,trivial⟩ ⟨rfl,rfl,⟨rfl,rfl,⟨rfl,rfl,⟨rfl,rfl,⟨rfl,rfl,trivial⟩⟩⟩⟩⟩
theorem strings_Cut_spec(s sep:Str)(r:Str×Str×Bool)(hm:cutM s sep=some r):FSpecR Tryd.prog 10 [tS.is s,tS.is sep] [(700001,GlE 1)] (fun _:Unit=>Asn.tuple3 (tS.is r.1) (tS.is r.2.1) (tB.is r.2.2)) (fun _=>[]):=
 cut_spec (fun s sep m w hs hm=>Tryd.strings_Cut s sep m w hs hm) _ s sep r hm
theorem slcHi_out{α:Type}{l w:List α}{j:Int}(h:slcHi l j=some w):0≤j∧j≤(l.length:Int)∧w=l.take j.toNat:=by
  unfold slcHi at h
  split at h
  · rename_i hc;exact ⟨hc.1,hc.2,(Option.some.inj h).symm⟩
  · cases h
def tNode(bs:List Nat)(k:Tok):Ty (api_Unit×List Nat):=tP (tapi_Unit_k5 none) (tOne (tOT (tNp bs) k))
theorem fN0(bs:List Nat)(k:Tok):Fld (tNode bs k) 0 (tapi_Unit_k5 none) (fun x=>x.1):=Fld.here _ _
theorem fN1(bs:List Nat)(k:Tok):Fld (tNode bs k) 8 (tOT (tNp bs) k) (fun x=>x.2):=(Fld.next (s:=tapi_Unit_k5 none) (Fld.one _)).cast rfl rfl
theorem sN0(bs:List Nat)(k:Tok):FldSet (tNode bs k) 0 (tapi_Unit_k5 none) (fun x y=>(y,x.2)):=FldSet.here _ _
theorem sN1(bs:List Nat)(k k2:Tok):FldSetT (tNode bs k) (tNode bs k2) 8 (tOT (tNp bs) k2) (fun x y=>(x.1,y)):=(FldSetT.next (s:=tapi_Unit_k5 none) (FldSetT.one (tOT (tNp bs) k) (tOT (tNp bs) k2) rfl)).cast rfl rfl
theorem leN(bs cs:List Nat)(k:Tok):Le (tNode bs k) (tNode (bs++cs) k):=Le.pair (Le.refl _) (Le.one ((tNp_le cs).ot k))
def nodeR(bs:List Nat)(b:Nat)(k:Tok)(nd:api_Unit×List Nat):List Res:=[Bx 9 true 56 ((tNode bs k).is nd) b,Dec.Own (tNp bs) 44 k nd.2.length]
def arL(bs0:List Nat):List Nat→List Tok→NodeL→List Res
  | b :: bs,k :: ks,nd :: ns=>nodeR bs0 b k nd++arL bs0 bs ks ns
  | _,_,_=>[]
def Arena(bs:List Nat)(ks:List Tok)(ar:NodeL):Res:=Many (Fact (bs.length=ar.length∧ks.length=ar.length) :: arL bs bs ks ar)
theorem Arena.len{bs:List Nat}{ks:List Tok}{ar:NodeL}{g:G}(h:(Arena bs ks ar).holds g):bs.length=ar.length∧ks.length=ar.length:=h.1 _ List.mem_cons_self
theorem arL_at(bs0:List Nat):∀ {bs:List Nat} {ks:List Tok} {ar:NodeL} {i:Nat} {nd:api_Unit×List Nat},bs.length=ar.length→ks.length=ar.length→ar[i]? =some nd→
    ∃ b k l1 l2,bs[i]? =some b∧ks[i]? =some k∧arL bs0 bs ks ar=l1++nodeR bs0 b k nd++l2∧ ∀ k' nd',arL bs0 bs (ks.set i k') (ar.set i nd')=l1++nodeR bs0 b k' nd'++l2
  | [],_,[],_,_,_,_,h=>by simp at h
  | [],_,_ :: _,_,_,h,_,_=>by simp at h
  | _ :: _,_,[],_,_,h,_,_=>by simp at h
  | _ :: _,[],_ :: _,_,_,_,h,_=>by simp at h
  | b :: bs,k :: ks,nd :: ns,0,_,_,_,h=>by
    cases h
    exact ⟨b,k,[],arL bs0 bs ks ns,rfl,rfl,rfl,fun _ _=>rfl⟩
  | b :: bs,k :: ks,nd :: ns,i+1,_,h1,h2,h=>by
    obtain ⟨b',k',l1,l2,q1,q2,q3,q4⟩:=arL_at bs0 (bs:=bs) (ks:=ks) (ar:=ns) (i:=i) (by simpa using h1) (by simpa using h2) (by simpa using h)
    refine ⟨b',k',nodeR bs0 b k nd++l1,l2,by simpa using q1,by simpa using q2,?_,fun k2 nd2=>?_⟩
    · show nodeR bs0 b k nd++arL bs0 bs ks ns=_
      rw [q3];simp
    · show nodeR bs0 b k nd++arL bs0 bs (ks.set i k2) (ns.set i nd2)=_
      rw [q4];simp
theorem Arena.at{bs:List Nat}{ks:List Tok}{ar:NodeL}{i:Nat}{nd:api_Unit×List Nat}(h:bs.length=ar.length∧ks.length=ar.length)(hi:ar[i]? =some nd) :
    ∃ b k l1 l2,bs[i]? =some b∧Arena bs ks ar=Many (l1++nodeR bs b k nd++l2)∧ ∀ k' nd',Arena bs (ks.set i k') (ar.set i nd')=Many (l1++nodeR bs b k' nd'++l2):=by
  obtain ⟨b,k,l1,l2,q1,q2,q3,q4⟩:=arL_at bs h.1 h.2 hi
  refine ⟨b,k,Fact (bs.length=ar.length∧ks.length=ar.length) :: l1,l2,q1,?_,fun k' nd'=>?_⟩
  · unfold Arena;rw [q3];rfl
  · unfold Arena;rw [q4];simp
theorem arL_app(bs0:List Nat)(b:Nat)(k:Tok)(nd:api_Unit×List Nat):∀ {bs:List Nat} {ks:List Tok} {ar:NodeL},bs.length=ar.length→ks.length=ar.length→arL bs0 (bs++ [b]) (ks++ [k]) (ar++ [nd])=arL bs0 bs ks ar++nodeR bs0 b k nd
  | [],[],[],_,_=>by simp [arL]
  | [],_ :: _,[],_,h=>by simp at h
  | [],_,_ :: _,h,_=>by simp at h
  | _ :: _,_,[],h,_=>by simp at h
  | _ :: _,[],_ :: _,_,h=>by simp at h
  | b' :: bs,k' :: ks,nd' :: ns,h1,h2=>by
    show nodeR bs0 b' k' nd'++arL bs0 (bs++ [b]) (ks++ [k]) (ns++ [nd])=(nodeR bs0 b' k' nd'++arL bs0 bs ks ns)++nodeR bs0 b k nd
    rw [arL_app bs0 b k nd (by simpa using h1) (by simpa using h2)];simp
theorem arL_blk(bs0 bs1:List Nat):∀ (bs:List Nat) (ks:List Tok) (ar:NodeL),(arL bs0 bs ks ar).map Res.blk=(arL bs1 bs ks ar).map Res.blk
  | b :: bs,k :: ks,nd :: ns=>by
    show (nodeR bs0 b k nd++arL bs0 bs ks ns).map Res.blk=(nodeR bs1 b k nd++arL bs1 bs ks ns).map Res.blk
    rw [List.map_append,List.map_append,arL_blk bs0 bs1 bs ks ns];rfl
  | [],_,_=>by simp [arL]
  | _ :: _,[],_=>by simp [arL]
  | _ :: _,_ :: _,[]=>by simp [arL]
theorem arL_le(bs0 cs:List Nat){g:G}:∀ (bs:List Nat) (ks:List Tok) (ar:NodeL),(∀ R∈arL bs0 bs ks ar,R.holds g)→∀ R∈arL (bs0++cs) bs ks ar,R.holds g
  | b :: bs,k :: ks,nd :: ns,h,R,hR=>by
    have hR:R∈nodeR (bs0++cs) b k nd++arL (bs0++cs) bs ks ns:=hR
    have h:∀ R∈nodeR bs0 b k nd++arL bs0 bs ks ns,R.holds g:=h
    rcases List.mem_append.1 hR with hR | hR
    · rcases List.mem_cons.1 hR with rfl | hR
      · exact Bx.le (leN bs0 cs k) (h _ (by simp [nodeR]))
      · rw [List.mem_singleton.1 hR]
        exact Own.le (tNp_le cs) (h (Dec.Own (tNp bs0) 44 k nd.2.length) (by simp [nodeR]))
    · exact arL_le bs0 cs bs ks ns (fun R hR=>h R (List.mem_append.2 (.inr hR))) R hR
  | [],_,_,_,R,hR=>by simp [arL] at hR
  | _ :: _,[],_,_,R,hR=>by simp [arL] at hR
  | _ :: _,_ :: _,[],_,R,hR=>by simp [arL] at hR
def ArenaW(bs cs:List Nat)(ks:List Tok)(ar:NodeL):Res:=Many (Fact (bs.length=ar.length∧ks.length=ar.length) :: arL (bs++cs) bs ks ar)
theorem Arena.wide{bs cs:List Nat}{ks:List Tok}{ar:NodeL}{g:G}(h:(Arena bs ks ar).holds g):(ArenaW bs cs ks ar).holds g:=by
  refine ⟨fun R hR=>?_,?_⟩
  · rcases List.mem_cons.1 hR with rfl | hR
    · exact Arena.len h
    · exact arL_le bs cs bs ks ar (fun R hR=>h.1 R (List.mem_cons_of_mem _ hR)) R hR
  · have hp:=h.2
    have e:(Fact (bs.length=ar.length∧ks.length=ar.length) :: arL (bs++cs) bs ks ar).map Res.blk=(Fact (bs.length=ar.length∧ks.length=ar.length) :: arL bs bs ks ar).map Res.blk:=by
      rw [List.map_cons,List.map_cons,arL_blk (bs++cs) bs]
    have h2:((Fact (bs.length=ar.length∧ks.length=ar.length) :: arL bs bs ks ar).map Res.blk).Pairwise (fun (x y:Nat→Prop)=>∀ b,x b→¬ y b):=List.pairwise_map.2 hp
    rw [←e] at h2
    exact List.pairwise_map.1 h2
theorem Arena.wideB{bs cs:List Nat}{ks:List Tok}{ar:NodeL}(b:Nat)(h:(ArenaW bs cs ks ar).blk b):(Arena bs ks ar).blk b:=by
  obtain ⟨R,hR,hb⟩:=h
  have e:(Fact (bs.length=ar.length∧ks.length=ar.length) :: arL (bs++cs) bs ks ar).map Res.blk=(Fact (bs.length=ar.length∧ks.length=ar.length) :: arL bs bs ks ar).map Res.blk:=by
    rw [List.map_cons,List.map_cons,arL_blk (bs++cs) bs]
  have:R.blk∈(Fact (bs.length=ar.length∧ks.length=ar.length) :: arL bs bs ks ar).map Res.blk:=by rw [←e];exact List.mem_map_of_mem hR
  obtain ⟨R',hR',e'⟩:=List.mem_map.1 this
  exact ⟨R',hR',by rw [e'];exact hb⟩
theorem ArenaW.at{bs cs:List Nat}{ks:List Tok}{ar:NodeL}{i:Nat}{nd:api_Unit×List Nat}(h:bs.length=ar.length∧ks.length=ar.length)(hi:ar[i]? =some nd) :
    ∃ b k l1 l2,bs[i]? =some b∧ArenaW bs cs ks ar=Many (l1++nodeR (bs++cs) b k nd++l2)∧ ∀ k' nd',ArenaW bs cs (ks.set i k') (ar.set i nd')=Many (l1++nodeR (bs++cs) b k' nd'++l2):=by
  obtain ⟨b,k,l1,l2,q1,q2,q3,q4⟩:=arL_at (bs++cs) h.1 h.2 hi
  refine ⟨b,k,Fact (bs.length=ar.length∧ks.length=ar.length) :: l1,l2,q1,?_,fun k' nd'=>?_⟩
  · unfold ArenaW;rw [q3];rfl
  · unfold ArenaW;rw [q4];simp
theorem ArenaW.push{bs:List Nat}{b:Nat}{ks:List Tok}{k:Tok}{ar:NodeL}{nd:api_Unit×List Nat}(h:bs.length=ar.length∧ks.length=ar.length) :
    Arena (bs++ [b]) (ks++ [k]) (ar++ [nd])=Many ((Fact (bs.length=ar.length∧ks.length=ar.length) :: arL (bs++ [b]) bs ks ar)++nodeR (bs++ [b]) b k nd++ []):=by
  unfold Arena
  rw [arL_app _ b k nd h.1 h.2]
  simp
section
variable {P:Program} {N:Nat} {g0:G} {T0:Nat→Prop} {env:Env} {res:Rs}
theorem openN{R:Res}{bs:List Nat}{b:Nat}{k:Tok}{nd:api_Unit×List Nat}{l1 l2:List Res}(key k1 k2:Nat)(hA:R=Many (l1++nodeR bs b k nd++l2))(hr:findR key res=some R)(a:Act)(g:G)(h:St N g0 T0 env res a g) :
    St N g0 T0 env ((k1,Bx 9 true 56 ((tNode bs k).is nd) b) :: (k2,Dec.Own (tNp bs) 44 k nd.2.length) :: (key,Many (l1++l2)) :: res.drop [key]) a g:=by
  rw [hA] at hr
  exact St.open2 hr h
theorem closeN{R:Res}{bs:List Nat}{b:Nat}{k:Tok}{nd:api_Unit×List Nat}{l1 l2:List Res}(key k1 k2:Nat)(hk:k1≠k2∧k1≠key∧k2≠key)(hA:R=Many (l1++nodeR bs b k nd++l2))(h1:findR k1 res=some (Bx 9 true 56 ((tNode bs k).is nd) b))(h2:findR k2 res=some (Dec.Own (tNp bs) 44 k nd.2.length))(hr:findR key res=some (Many (l1++l2)))(a:Act)(g:G)(h:St N g0 T0 env res a g) :
    St N g0 T0 env ((key,R) :: res.drop [k1,k2,key]) a g:=by
  rw [hA]
  exact St.close2 l1 l2 h1 h2 hr hk h
theorem ptrN{bs:List Nat}{i b:Nat}(s:Nat)(hb:bs[i]? =some b)(hs:Dec.look s env=some ((tNp bs).is i))(a:Act)(g:G)(h:St N g0 T0 env res a g):St N g0 T0 ((s,Bp b 0) :: env) res a g:=h.slotA hs fun _ _=>tNp_at hb
theorem tyPN(bs:List Nat):TyAt Tryd.prog 44 (tNp bs):=⟨Tryd.isAgg44,Tryd.sizeOf44⟩
theorem elPN(bs:List Nat):ElAt Tryd.prog 44 (tNp bs):=⟨⟨Tryd.t44,_,Tryd.type44,rfl,rfl,by decide,rfl⟩,Nat.zero_lt_one⟩
theorem elPNO(bs:List Nat):ElAt Tryd.prog 44 (tNpO bs):=⟨⟨Tryd.t44,_,Tryd.type44,rfl,rfl,by decide,rfl⟩,Nat.zero_lt_one⟩
theorem zePNO(bs:List Nat):ZeroAt Tryd.prog 44 (tNpO bs) none:=⟨_,Tryd.zeroValue44,fun _=>⟨_,rfl,rfl⟩⟩
def fNd(fd:Field):Nat:=if fd.type=28 then 8 else if fd.type=39 then 1 else 0
theorem fNd_sz:∀ fs,Tryd.prog.underlying 56=some (.struct fs)→∀ fd,fd∈fs→∀ w,(sizeOf fd.type).run Tryd.prog w= .ok (fNd fd) w:=by
  intro fs h
  rw [Tryd.underlying56] at h
  cases h
  intro fd hfd w
  simp only [List.mem_toArray,List.mem_cons,List.not_mem_nil,or_false] at hfd
  rcases hfd with rfl | rfl
  · exact Tryd.sizeOf28 w
  · exact Tryd.sizeOf39 w
theorem tyLPN(bs:List Nat)(k:Tok):TyAt Tryd.prog 39 (tOT (tNp bs) k):=⟨Tryd.isAgg39,Tryd.sizeOf39⟩
theorem zeN(bs:List Nat):ZeroAt Tryd.prog 56 (tNode bs none) (zapi_Unit,[]):=⟨_,Tryd.zeroValue56,fun _=>⟨_,⟨_,_,rfl,⟨_,_,rfl,⟨_,_,rfl,⟨rfl,inR64.2 ⟨by decide,by decide⟩⟩,⟨_,_,rfl,⟨rfl,inR64.2 ⟨by decide,by decide⟩⟩,⟨rfl,inR64.2 ⟨by decide,by decide⟩⟩⟩⟩,⟨_,_,rfl,⟨rfl,inR64.2 ⟨by decide,by decide⟩⟩,⟨_,_,rfl,⟨rfl,by decide⟩,⟨_,_,rfl,⟨none,0,rfl,Nat.le_refl _,Nat.zero_le _,fun _=>rfl,rfl⟩,⟨_,_,rfl,⟨none,0,rfl,Nat.le_refl _,Nat.zero_le _,fun _=>rfl,rfl⟩,⟨_,rfl,⟨rfl,Nat.le_refl _,Nat.zero_le _,rfl⟩⟩⟩⟩⟩⟩⟩,⟨_,rfl,⟨rfl,Nat.le_refl _,Nat.zero_le _,rfl⟩⟩⟩,rfl⟩⟩
end
theorem node_takes_spec(n:Nat)(bs:List Nat)(ks:List Tok)(ar:NodeL)(i:Nat)(u:api_Unit)(r:Int)(hm:M.node_takes n ar i u=some r) :
    FSpecR Tryd.prog 21 [(tNp bs).is i,tapi_Unit.is u] [(0,Arena bs ks ar),(700002,Gl (tA 8 (tL (tI .i64))) 2 gv2)] (fun _:Unit=>(tI .i64).is r) (fun _=>[(0,Arena bs ks ar),(700002,Gl (tA 8 (tL (tI .i64))) 2 gv2)]):=by
  unfold M.node_takes at hm
  obtain ⟨nd,hv1,hm⟩:=bind_some hm
  obtain ⟨c,hv2,hm⟩:=bind_some hm
  refine FSpecR.of Tryd.func21 rfl rfl rfl (fun g0=>?_)
  refine W.know (p:=bs.length=ar.length∧ks.length=ar.length) (fun a g h=>Arena.len (h.hres (0,Arena bs ks ar) List.mem_cons_self)) fun hlen=>?_
  obtain ⟨b,k,l1,l2,hb,hA,_⟩:=Arena.at hlen hv1
  refine W.chg (ptrN 0 hb rfl) ?_
  refine W.chg (openN 0 11 12 hA rfl) ?_
  refine W.seq ?_
  refine W.region ?_
  refine WL.op rfl (Op1.box (t:=tapi_Unit) (.tmp rfl)) ?_
  refine WL.op rfl (Op1.assign (.int (inR64.2 (by omega)))) ?_
  refine WL.nil ?_
  refine WN.seq ?_
  refine W.seq ?_
  refine W.seq ?_
  refine W.draw [.c (Bp b 0),.c (Bp b 0),.c (Bp b 0),.c (Bp b 3),.c ((tI .i64).is nd.1.Kind),.c ((tI .i64).ptr u.Kind),.c ((tI .i64).is u.Kind),.c (tB.is c),.c (tB.is (!c))] [([],[0]),([0],[]),([1],[]),([2],[]),([3],[]),([],[3]),([5],[]),([4,6],[]),([7],[])] Tryd.mixed rfl rfl rfl rfl ⟨.inr (Op1.move (.tmp rfl)),.inr (Op1.nilCheckB (.tmp rfl)),.inr (Op1.fieldAddrB (o:=0) Tryd.underlying56 rfl (fun w=>⟨7,Tryd.sizeOf28 w⟩) (.tmp rfl) rfl),.inr (Op1.fieldAddrB (o:=0) Tryd.underlying28 rfl (fun w=>⟨0,Tryd.sizeOf3 w⟩) (.tmp rfl) rfl),.inr (Op1.loadBF (s:=tNode bs k) (f:=fun x:api_Unit×List Nat=>x.1.Kind) (u:=nd) 11 rfl ty3 (Fld.comp (fN0 bs k) (fapi_Unit_k5_1 none)) rfl (.tmp rfl)),.inr (Op1.fieldAddr Tryd.underlying28 rfl (fun w=>⟨0,Tryd.sizeOf3 w⟩) fapi_Unit_1 (.tmp rfl)),.inr (Op1.load ty3 (.tmp rfl)),.inr (Op1.callG (rin:=[(700002,Gl (tA 8 (tL (tI .i64))) 2 gv2)]) Tryd.call42 (unit_CanContain_spec _ _ _ _ hv2) ⟨rfl,trivial⟩ ⟨rfl,rfl,trivial⟩ ⟨(.tmp rfl),(.tmp rfl),trivial⟩),.inr (Op1.notB (.tmp rfl)),trivial⟩ ?_
  refine WN.seq ?_
  refine W.cond (.tmp rfl) (fun hc=>?_) (fun hc=>?_)
  · have hp:=not_pos hc
    rw [if_pos hp] at hm
    refine W.seq ?_
    refine W.region ?_
    refine WL.op rfl (Op1.assign (.int (inR64.2 (by omega)))) ?_
    refine WL.nil ?_
    refine WN.seq ?_
    cases hm
    refine W.chg (closeN 0 11 12 (by decide) hA rfl rfl rfl) ?_
    exact W.ret1 () rfl (.tmp rfl) ⟨rfl,rfl,⟨rfl,rfl,trivial⟩⟩
  · have hp:=not_neg hc
    rw [if_neg hp] at hm
    obtain ⟨d,hv3,hm⟩:=bind_some hm
    refine W.skip ?_
    refine WN.seq ?_
    refine W.seq ?_
    refine W.seq ?_
    refine W.region ?_
    refine WL.op rfl (Op1.move (.tmp rfl)) ?_
    refine WL.op rfl (Op1.nilCheckB (.tmp rfl)) ?_
    refine WL.op rfl (Op1.fieldAddrB (o:=0) Tryd.underlying56 rfl (fun w=>⟨0,Tryd.sizeOf39 w⟩) (.tmp rfl) rfl) ?_
    refine WL.op rfl (Op1.weak (Op1.ofOT (Op1.loadBF 11 rfl (tyLPN bs k) (fN1 bs k) rfl (.tmp rfl))) (fun _ _=>tO_tL)) ?_
    refine WL.op rfl (Op1.lenL Tryd.underlying39 (.tmp rfl)) ?_
    refine WL.op rfl (Op1.move (.int (inR64.2 (by omega)))) ?_
    refine WL.nil ?_
    refine WN.seq ?_
    refine W.chg (closeN 0 11 12 (by decide) hA rfl rfl rfl) ?_
    refine W.block ?_
    refine W.loop (fun m (s:Int×List Nat×List Nat)=>m=s.2.2.length∧nd.2=s.2.1++s.2.2∧s.1=(s.2.1.length:Int)∧M.node_same ar u s.2.2=some d) (fun s=>[(21,((tI .i64).is s.1)),(0,(Bp b 0)),(3,(tapi_Unit.ptr u)),(19,((tL (tNp bs)).is nd.2)),(20,((tI .i64).is (nd.2.length:Int)))]) (fun s=>[(0,Arena bs ks ar),(700002,Gl (tA 8 (tL (tI .i64))) 2 gv2)]) nd.2.length ((0:Int),[],nd.2) ⟨rfl,rfl,rfl,hv3⟩ ⟨Ent.q rfl,Ent.q rfl,Ent.q rfl,Ent.q rfl,Ent.q rfl,trivial⟩ ⟨rfl,rfl,⟨rfl,rfl,trivial⟩⟩ ?_
    rintro m ⟨ii,pre,rest⟩ ⟨hn9,hxs6,hi7,hm2⟩
    try dsimp only at hn9 hxs6 hi7 hm2
    change W _ _ _ _ _ _ _ [(21,((tI .i64).is ii)),(0,(Bp b 0)),(3,(tapi_Unit.ptr u)),(19,((tL (tNp bs)).is nd.2)),(20,((tI .i64).is (nd.2.length:Int)))] [(0,Arena bs ks ar),(700002,Gl (tA 8 (tL (tI .i64))) 2 gv2)]
    refine W.lenL (s:=19) (.tmp rfl) fun hlen8=>?_
    refine W.seq ?_
    refine W.region ?_
    refine WL.op rfl (Op1.ltI (.tmp rfl) (.tmp rfl)) ?_
    refine WL.nil ?_
    refine WN.seq ?_
    refine W.seq ?_
    refine W.cond (.tmp rfl) (fun hc11=>?_) (fun hc11=>?_)
    · have hp12:=of_decide_eq_true hc11
      obtain ⟨e,es,hrest14⟩:=range_more hxs6 hi7 hp12
      subst hrest14
      unfold M.node_same at hm2
      obtain ⟨nd2,hv4,hm2⟩:=bind_some hm2
      obtain ⟨b2,k2,l3,l4,hb2,hA2,_⟩:=Arena.at hlen hv4
      refine W.skip ?_
      refine WN.seq ?_
      refine W.seq ?_
      refine W.block ?_
      refine W.seq ?_
      refine W.region ?_
      refine WL.op rfl (Op1.idxPre hxs6 hi7 Tryd.underlying39 Tryd.sizeOf44 (.tmp rfl) (.tmp rfl)) ?_
      refine WL.op rfl (Op1.load (tyPN bs) (.tmp rfl)) ?_
      refine WL.op rfl (Op1.assign (.tmp rfl)) ?_
      refine WL.nil ?_
      refine WN.seq ?_
      refine W.chg (ptrN 6 hb2 rfl) ?_
      refine W.chg (openN 0 11 12 hA2 rfl) ?_
      refine W.seq ?_
      rcases bcases (decide (nd2.1.Kind=u.Kind)) with hb1 | hb1
      · have hp2:=of_decide_eq_true hb1
        rw [if_pos hp2] at hm2
        refine W.draw [.c (Bp b2 0),.c (Bp b2 0),.c (Bp b2 0),.c (Bp b2 3),.c ((tI .i64).is nd2.1.Kind),.c ((tI .i64).ptr u.Kind),.c ((tI .i64).is u.Kind),.c (tB.is (decide (nd2.1.Kind=u.Kind))),.c (tB.is (decide (nd2.1.Kind=u.Kind))),.c (Bp b2 0),.c (Bp b2 0),.c (Bp b2 0),.c (Bp b2 4),.c (tS.is nd2.1.Label),.c (tS.ptr u.Label),.c (tS.is u.Label),.c (tB.is (nd2.1.Label==u.Label)),.c (tB.is (nd2.1.Label==u.Label))] [([],[6]),([0],[]),([1],[]),([2],[]),([3],[]),([],[3]),([5],[]),([4,6],[]),([7],[]),([8],[6]),([8,9],[]),([8,10],[]),([8,11],[]),([8,12],[]),([8],[3]),([8,14],[]),([8,13,15],[]),([8,16],[])] Tryd.mixed rfl rfl rfl rfl ⟨.inr (Op1.move (.tmp rfl)),.inr (Op1.nilCheckB (.tmp rfl)),.inr (Op1.fieldAddrB (o:=0) Tryd.underlying56 rfl (fun w=>⟨7,Tryd.sizeOf28 w⟩) (.tmp rfl) rfl),.inr (Op1.fieldAddrB (o:=0) Tryd.underlying28 rfl (fun w=>⟨0,Tryd.sizeOf3 w⟩) (.tmp rfl) rfl),.inr (Op1.loadBF (s:=tNode bs k2) (f:=fun x:api_Unit×List Nat=>x.1.Kind) (u:=nd2) 11 rfl ty3 (Fld.comp (fN0 bs k2) (fapi_Unit_k5_1 none)) rfl (.tmp rfl)),.inr (Op1.fieldAddr Tryd.underlying28 rfl (fun w=>⟨0,Tryd.sizeOf3 w⟩) fapi_Unit_1 (.tmp rfl)),.inr (Op1.load ty3 (.tmp rfl)),.inr (Op1.eqI (.tmp rfl) (.tmp rfl)),.inr (Op1.move (.tmp rfl)),.inr ⟨_,_,_,rfl,rfl,.inl ⟨rfl,.inl ⟨hb1,Op1.move (.tmp rfl)⟩⟩⟩,.inr ⟨_,_,_,rfl,rfl,.inl ⟨rfl,.inl ⟨hb1,Op1.nilCheckB (.tmp rfl)⟩⟩⟩,.inr ⟨_,_,_,rfl,rfl,.inl ⟨rfl,.inl ⟨hb1,Op1.fieldAddrB (o:=0) Tryd.underlying56 rfl (fun w=>⟨7,Tryd.sizeOf28 w⟩) (.tmp rfl) rfl⟩⟩⟩,.inr ⟨_,_,_,rfl,rfl,.inl ⟨rfl,.inl ⟨hb1,Op1.fieldAddrB (o:=0) Tryd.underlying28 rfl (fun w=>⟨0,Tryd.sizeOf9 w⟩) (.tmp rfl) rfl⟩⟩⟩,.inr ⟨_,_,_,rfl,rfl,.inl ⟨rfl,.inl ⟨hb1,Op1.loadBF (s:=tNode bs k2) (f:=fun x:api_Unit×List Nat=>x.1.Label) (u:=nd2) 11 rfl ty9 (Fld.comp (fN0 bs k2) (fapi_Unit_k5_2 none)) rfl (.tmp rfl)⟩⟩⟩,.inr ⟨_,_,_,rfl,rfl,.inl ⟨rfl,.inl ⟨hb1,Op1.fieldAddr Tryd.underlying28 rfl (fun w=>⟨0,Tryd.sizeOf9 w⟩) fapi_Unit_2 (.tmp rfl)⟩⟩⟩,.inr ⟨_,_,_,rfl,rfl,.inl ⟨rfl,.inl ⟨hb1,Op1.load ty9 (.tmp rfl)⟩⟩⟩,.inr ⟨_,_,_,rfl,rfl,.inl ⟨rfl,.inl ⟨hb1,Op1.eqS (.tmp rfl) (.tmp rfl)⟩⟩⟩,.inr (Op1.pickT (.tmp rfl) hb1 (.tmp rfl)),trivial⟩ ?_
        refine WN.seq ?_
        refine W.chg (closeN 0 11 12 (by decide) hA2 rfl rfl rfl) ?_
        refine W.cond (.tmp rfl) (fun hc13=>?_) (fun hc13=>?_)
        · rw [if_pos hc13] at hm2
          cases hm2
          rw [if_pos rfl] at hm
          cases hm
          refine W.seq ?_
          refine W.region ?_
          refine WL.op rfl (Op1.assign (.int (inR64.2 (by omega)))) ?_
          refine WL.nil ?_
          refine WN.seq ?_
          exact W.ret1 () rfl (.tmp rfl) ⟨rfl,rfl,⟨rfl,rfl,trivial⟩⟩
        · rw [if_neg (ne_of_false hc13)] at hm2
          refine W.skip ?_
          refine WN.block ?_
          refine WN.seq ?_
          refine W.region ?_
          refine WL.op rfl (Op1.addI (.tmp rfl) (.int (inR64.2 (by omega))) (range_inR hi7 hp12 hlen8)) ?_
          refine WL.op rfl (Op1.move (.tmp rfl)) ?_
          refine WL.nil ?_
          exact WN.again es.length (ii+1,pre++ [e],es) (range_lt hn9) ⟨rfl,range_step hxs6,range_idx hi7,hm2⟩ ⟨Ent.q rfl,Ent.q rfl,Ent.q rfl,Ent.q rfl,Ent.q rfl,trivial⟩ ⟨rfl,rfl,⟨rfl,rfl,trivial⟩⟩
      · have hp2:=of_decide_eq_false hb1
        rw [if_neg hp2] at hm2
        refine W.draw [.c (Bp b2 0),.c (Bp b2 0),.c (Bp b2 0),.c (Bp b2 3),.c ((tI .i64).is nd2.1.Kind),.c ((tI .i64).ptr u.Kind),.c ((tI .i64).is u.Kind),.c (tB.is (decide (nd2.1.Kind=u.Kind))),.c (tB.is (decide (nd2.1.Kind=u.Kind))),.c (Asn.eq undef),.c (Asn.eq undef),.c (Asn.eq undef),.c (Asn.eq undef),.c (Asn.eq undef),.c (Asn.eq undef),.c (Asn.eq undef),.c (Asn.eq undef),.c (tB.is false)] [([],[6]),([0],[]),([1],[]),([2],[]),([3],[]),([],[3]),([5],[]),([4,6],[]),([7],[]),([8],[6]),([8,9],[]),([8,10],[]),([8,11],[]),([8,12],[]),([8],[3]),([8,14],[]),([8,13,15],[]),([8,16],[])] Tryd.mixed rfl rfl rfl rfl ⟨.inr (Op1.move (.tmp rfl)),.inr (Op1.nilCheckB (.tmp rfl)),.inr (Op1.fieldAddrB (o:=0) Tryd.underlying56 rfl (fun w=>⟨7,Tryd.sizeOf28 w⟩) (.tmp rfl) rfl),.inr (Op1.fieldAddrB (o:=0) Tryd.underlying28 rfl (fun w=>⟨0,Tryd.sizeOf3 w⟩) (.tmp rfl) rfl),.inr (Op1.loadBF (s:=tNode bs k2) (f:=fun x:api_Unit×List Nat=>x.1.Kind) (u:=nd2) 11 rfl ty3 (Fld.comp (fN0 bs k2) (fapi_Unit_k5_1 none)) rfl (.tmp rfl)),.inr (Op1.fieldAddr Tryd.underlying28 rfl (fun w=>⟨0,Tryd.sizeOf3 w⟩) fapi_Unit_1 (.tmp rfl)),.inr (Op1.load ty3 (.tmp rfl)),.inr (Op1.eqI (.tmp rfl) (.tmp rfl)),.inr (Op1.move (.tmp rfl)),.inr ⟨_,_,_,rfl,rfl,.inl ⟨rfl,.inr ⟨hb1,rfl⟩⟩⟩,.inr ⟨_,_,_,rfl,rfl,.inl ⟨rfl,.inr ⟨hb1,rfl⟩⟩⟩,.inr ⟨_,_,_,rfl,rfl,.inl ⟨rfl,.inr ⟨hb1,rfl⟩⟩⟩,.inr ⟨_,_,_,rfl,rfl,.inl ⟨rfl,.inr ⟨hb1,rfl⟩⟩⟩,.inr ⟨_,_,_,rfl,rfl,.inl ⟨rfl,.inr ⟨hb1,rfl⟩⟩⟩,.inr ⟨_,_,_,rfl,rfl,.inl ⟨rfl,.inr ⟨hb1,rfl⟩⟩⟩,.inr ⟨_,_,_,rfl,rfl,.inl ⟨rfl,.inr ⟨hb1,rfl⟩⟩⟩,.inr ⟨_,_,_,rfl,rfl,.inl ⟨rfl,.inr ⟨hb1,rfl⟩⟩⟩,.inr (Op1.pickF (.tmp rfl) hb1 .bool),trivial⟩ ?_
        refine WN.seq ?_
        refine W.chg (closeN 0 11 12 (by decide) hA2 rfl rfl rfl) ?_
        refine W.cond (.tmp rfl) (fun hc13=>absurd hc13 (by decide)) (fun hc13=>?_)
        refine W.skip ?_
        refine WN.block ?_
        refine WN.seq ?_
        refine W.region ?_
        refine WL.op rfl (Op1.addI (.tmp rfl) (.int (inR64.2 (by omega))) (range_inR hi7 hp12 hlen8)) ?_
        refine WL.op rfl (Op1.move (.tmp rfl)) ?_
        refine WL.nil ?_
        exact WN.again es.length (ii+1,pre++ [e],es) (range_lt hn9) ⟨rfl,range_step hxs6,range_idx hi7,hm2⟩ ⟨Ent.q rfl,Ent.q rfl,Ent.q rfl,Ent.q rfl,Ent.q rfl,trivial⟩ ⟨rfl,rfl,⟨rfl,rfl,trivial⟩⟩
    · have hrest14:=range_end hxs6 hi7 (of_decide_eq_false hc11)
      subst hrest14
      cases hm2
      rw [if_neg (by decide)] at hm
      refine W.exit rfl ?_
      refine WN.seq ?_
      refine W.chg (openN 0 11 12 hA rfl) ?_
      refine W.seq ?_
      refine W.seq ?_
      refine W.region ?_
      refine WL.op rfl (Op1.move (.tmp rfl)) ?_
      refine WL.op rfl (Op1.nilCheckB (.tmp rfl)) ?_
      refine WL.op rfl (Op1.fieldAddrB (o:=0) Tryd.underlying56 rfl (fun w=>⟨0,Tryd.sizeOf39 w⟩) (.tmp rfl) rfl) ?_
      refine WL.op rfl (Op1.weak (Op1.ofOT (Op1.loadBF 11 rfl (tyLPN bs k) (fN1 bs k) rfl (.tmp rfl))) (fun _ _=>tO_tL)) ?_
      refine WL.op rfl (Op1.lenL Tryd.underlying39 (.tmp rfl)) ?_
      refine WL.op rfl (Op1.geI (.tmp rfl) (.int (inR64.2 (by omega)))) ?_
      refine WL.nil ?_
      refine WN.seq ?_
      refine W.chg (closeN 0 11 12 (by decide) hA rfl rfl rfl) ?_
      refine W.cond (.tmp rfl) (fun hc15=>?_) (fun hc15=>?_)
      · rw [if_pos (of_decide_eq_true hc15)] at hm
        cases hm
        refine W.seq ?_
        refine W.region ?_
        refine WL.op rfl (Op1.assign (.int (inR64.2 (by omega)))) ?_
        refine WL.nil ?_
        refine WN.seq ?_
        exact W.ret1 () rfl (.tmp rfl) ⟨rfl,rfl,⟨rfl,rfl,trivial⟩⟩
      · rw [if_neg (of_decide_eq_false hc15)] at hm
        cases hm
        refine W.skip ?_
        refine WN.seq ?_
        refine W.seq ?_
        refine W.region ?_
        refine WL.op rfl (Op1.assign (.int (inR64.2 (by omega)))) ?_
        refine WL.nil ?_
        refine WN.seq ?_
        exact W.ret1 () rfl (.tmp rfl) ⟨rfl,rfl,⟨rfl,rfl,trivial⟩⟩
theorem node_unit_spec(bs:List Nat)(ks:List Tok)(ar:NodeL):∀ (n:Nat) (i:Nat) (r:api_Unit),M.node_unit ar n i=some r→
    FSpecR Tryd.prog 12 [(tNp bs).is i] [(0,Arena bs ks ar)] (fun _:Unit=>tapi_Unit.is r) (fun _=>[(0,Arena bs ks ar)]):=by
  intro n
  induction n with
  | zero=>intro i r hm;cases hm
  | succ n ih=>
    intro i r hm
    unfold M.node_unit at hm
    obtain ⟨nd,hv1,hm⟩:=bind_some hm
    refine FSpecR.of Tryd.func12 rfl rfl rfl (fun g0=>?_)
    refine W.know (p:=bs.length=ar.length∧ks.length=ar.length) (fun a g h=>Arena.len (h.hres (0,Arena bs ks ar) List.mem_cons_self)) fun hlen=>?_
    obtain ⟨b,k,l1,l2,hb,hA,_⟩:=Arena.at hlen hv1
    refine W.chg (ptrN 0 hb rfl) ?_
    refine W.chg (openN 0 11 12 hA rfl) ?_
    refine W.seq ?_
    refine W.region ?_
    refine WL.opR rfl (OpR.alloc 2 ze28) (fun b0=>?_)
    refine WL.nil ?_
    refine WN.seq ?_
    refine W.seq ?_
    refine W.region ?_
    refine WL.op rfl (Op1.move (.tmp rfl)) ?_
    refine WL.op rfl (Op1.nilCheckB (.tmp rfl)) ?_
    refine WL.op rfl (Op1.fieldAddrB (o:=0) Tryd.underlying56 rfl (fun w=>⟨7,Tryd.sizeOf28 w⟩) (.tmp rfl) rfl) ?_
    refine WL.op rfl (Op1.loadBF (t:=tapi_Unit_k5 none) 11 rfl ⟨ty28.agg,ty28.size⟩ (fN0 bs k) rfl (.tmp rfl)) ?_
    refine WL.opR rfl (OpR.alloc 3 ze28) (fun b1=>?_)
    refine WL.nkOwn (E:=28) (fapi_Unit_k5_5 none) 9 1000003 rfl ?_
    refine WL.opU (OpR.storeB (b:=b1) 3 Tryd.sizeOf28 (Cellable.is (tapi_Unit_k5 none) nd.1) rfl (.tmp rfl) (.tmp rfl)) (fun _=>?_)
    refine WL.nil ?_
    refine WN.seq ?_
    refine W.seq ?_
    refine W.seq ?_
    refine W.region ?_
    refine WL.op rfl (Op1.move (.tmp rfl)) ?_
    refine WL.op rfl (Op1.nilCheckB (.tmp rfl)) ?_
    refine WL.op rfl (Op1.fieldAddrB (o:=0) Tryd.underlying56 rfl (fun w=>⟨0,Tryd.sizeOf39 w⟩) (.tmp rfl) rfl) ?_
    refine WL.op rfl (Op1.weak (Op1.ofOT (Op1.loadBF 11 rfl (tyLPN bs k) (fN1 bs k) rfl (.tmp rfl))) (fun _ _=>tO_tL)) ?_
    refine WL.op rfl (Op1.lenL Tryd.underlying39 (.tmp rfl)) ?_
    refine WL.op rfl (Op1.move (.int (inR64.2 (by omega)))) ?_
    refine WL.nil ?_
    refine WN.seq ?_
    refine W.chg (closeN 0 11 12 (by decide) hA rfl rfl rfl) ?_
    refine W.block ?_
    refine W.loop (fun m (s:Int×List Nat×List Nat×api_Unit×Tok)=>m=s.2.2.1.length∧nd.2=s.2.1++s.2.2.1∧s.1=(s.2.1.length:Int)∧M.node_kids (M.node_unit ar n) s.2.2.1 s.2.2.2.1=some r) (fun s=>[(15,((tI .i64).is s.1)),(13,((tL (tNp bs)).is nd.2)),(14,((tI .i64).is (nd.2.length:Int))),(2,(Bp b0 0)),(3,(Bp b1 0))]) (fun s=>[(1000003,Dec.Own tapi_Unit 28 s.2.2.2.2 s.2.2.2.1.Kids.length),(3,(Bx 8 true 28 ((tapi_Unit_k5 s.2.2.2.2).is s.2.2.2.1) b1)),(0,Arena bs ks ar),(2,(Bx 8 true 28 (tapi_Unit.is zapi_Unit) b0))]) nd.2.length ((0:Int),[],nd.2,nd.1,none) ⟨rfl,rfl,rfl,hm⟩ ⟨Ent.q rfl,Ent.q rfl,Ent.q rfl,Ent.q rfl,Ent.q rfl,trivial⟩ ⟨rfl,rfl,⟨rfl,rfl,⟨rfl,rfl,⟨rfl,rfl,trivial⟩⟩⟩⟩ ?_
    rintro m ⟨ii,pre,rest,u,kt⟩ ⟨hn9,hxs6,hi7,hm2⟩
    try dsimp only at hn9 hxs6 hi7 hm2
    change W _ _ _ _ _ _ _ [(15,((tI .i64).is ii)),(13,((tL (tNp bs)).is nd.2)),(14,((tI .i64).is (nd.2.length:Int))),(2,(Bp b0 0)),(3,(Bp b1 0))] [(1000003,Dec.Own tapi_Unit 28 kt u.Kids.length),(3,(Bx 8 true 28 ((tapi_Unit_k5 kt).is u) b1)),(0,Arena bs ks ar),(2,(Bx 8 true 28 (tapi_Unit.is zapi_Unit) b0))]
    refine W.lenL (s:=13) (.tmp rfl) fun hlen8=>?_
    refine W.seq ?_
    refine W.region ?_
    refine WL.op rfl (Op1.ltI (.tmp rfl) (.tmp rfl)) ?_
    refine WL.nil ?_
    refine WN.seq ?_
    refine W.seq ?_
    refine W.cond (.tmp rfl) (fun hc11=>?_) (fun hc11=>?_)
    · have hp12:=of_decide_eq_true hc11
      obtain ⟨e,es,hrest14⟩:=range_more hxs6 hi7 hp12
      subst hrest14
      unfold M.node_kids at hm2
      obtain ⟨y,hy,hm2⟩:=bind_some hm2
      obtain ⟨out,hout,hm2⟩:=bind_some hm2
      refine W.skip ?_
      refine WN.seq ?_
      refine W.seq ?_
      refine W.block ?_
      refine W.seq ?_
      refine W.region ?_
      refine WL.op rfl (Op1.idxPre hxs6 hi7 Tryd.underlying39 Tryd.sizeOf44 (.tmp rfl) (.tmp rfl)) ?_
      refine WL.op rfl (Op1.load (tyPN bs) (.tmp rfl)) ?_
      refine WL.op rfl (Op1.assign (.tmp rfl)) ?_
      refine WL.nil ?_
      refine WN.seq ?_
      refine W.drawM [.c (Bp b1 7),.c (tO tapi_Unit kt u.Kids),.c ((tNp bs).is e),.c (tapi_Unit.is y),.c ((tL tapi_Unit).is [y]),.f (fun cv=>(tO tapi_Unit (cv 1) out)),.c (Bp b1 7),.c Asn.any] [([],[3]),([0],[]),([],[5]),([2],[]),([3],[]),([1,4],[]),([],[3]),([5,6],[])] [3,5,7] [[],[],[],[],[],[false,true],[],[]] (fun m cv=>match m with | 0=>[(1000003,Dec.Own tapi_Unit 28 kt u.Kids.length),(3,(Bx 8 true 28 ((tapi_Unit_k5 kt).is u) b1)),(0,Arena bs ks ar),(2,(Bx 8 true 28 (tapi_Unit.is zapi_Unit) b0))] | 1=>[(0,Arena bs ks ar),(1000003,Dec.Own tapi_Unit 28 kt u.Kids.length),(3,(Bx 8 true 28 ((tapi_Unit_k5 kt).is u) b1)),(2,(Bx 8 true 28 (tapi_Unit.is zapi_Unit) b0))] | 2=>[(1000003,Dec.Own tapi_Unit 28 (cv 1) out.length),(0,Arena bs ks ar),(3,(Bx 8 true 28 ((tapi_Unit_k5 kt).is u) b1)),(2,(Bx 8 true 28 (tapi_Unit.is zapi_Unit) b0))] | _=>[(3,(Bx 8 true 28 ((tapi_Unit_k5 (cv 1)).is ({u with Kids:=out}:api_Unit)) b1)),(1000003,Dec.Own tapi_Unit 28 (cv 1) out.length),(0,Arena bs ks ar),(2,(Bx 8 true 28 (tapi_Unit.is zapi_Unit) b0))]) (fun _=>none) Tryd.mixed rfl rfl rfl rfl rfl ⟨fun _ _ _ _=>rfl,⟨fun _ _ _ _=>rfl,⟨fun _ _ _ _=>rfl,⟨fun _ _ _ _=>rfl,⟨fun _ _ _ _=>rfl,⟨fun m hm c t=>by simp only [DA.at,upd_dep (r:=[false,true]) (j:=1) rfl hm],⟨fun _ _ _ _=>rfl,⟨fun _ _ _ _=>rfl,trivial⟩⟩⟩⟩⟩⟩⟩⟩ rfl ⟨.inr ⟨fun cv=>[],(fun _ _ _ _=>trivial),fun cv=>Op1.fieldAddrB (o:=0) Tryd.underlying28 rfl (fun w=>⟨0,Tryd.sizeOf26 w⟩) (.tmp rfl) rfl⟩,⟨.inr ⟨fun cv=>[(3,(Bx 8 true 28 ((tapi_Unit_k5 kt).is u) b1))],(AllUpTo.at ⟨⟨⟨(fun _ _=>⟨rfl,rfl,trivial⟩),(fun _ _=>⟨rfl,rfl,trivial⟩)⟩,(fun hw=>absurd hw (by decide))⟩,(fun hw=>absurd hw (by decide))⟩),fun cv=>Op1.ofOT (Op1.loadBF (t:=(tOT tapi_Unit kt)) (f:=fun x:api_Unit=>x.Kids) (u:=u) 3 rfl ⟨ty26.agg,ty26.size⟩ (fapi_Unit_k5_5 kt) rfl (.tmp rfl))⟩,⟨.inr ⟨fun cv=>[],(fun _ _ _ _=>trivial),fun cv=>Op1.move (.tmp rfl)⟩,⟨.inl rfl,⟨.inr ⟨fun cv=>[],(fun _ _ _ _=>trivial),fun cv=>Op1.buildSlice (n:=1) (ys:=[(0,y)]) (z:=zapi_Unit) (xs:=[y]) Tryd.underlying26 el28 ze28 ⟨rfl,(.tmp rfl),trivial⟩ (by simp) (by decide) rfl⟩,⟨.inl rfl,⟨.inr ⟨fun cv=>[],(fun _ _ _ _=>trivial),fun cv=>Op1.fieldAddrB (o:=0) Tryd.underlying28 rfl (fun w=>⟨0,Tryd.sizeOf26 w⟩) (.tmp rfl) rfl⟩,⟨.inl rfl,trivial⟩⟩⟩⟩⟩⟩⟩⟩ ⟨⟨_,_,_,[0],(fun cv=>[(0,Arena bs ks ar)]),rfl,rfl,rfl,rfl,fun _=>rfl,fun _ _=>rfl,fun cv=>OpR.viaU (OpR.call (us:=[0]) (A:=fun _:Unit=>tapi_Unit.is y) Tryd.call12 (ih _ _ hy) rfl (by exact ⟨(.tmp rfl),trivial⟩))⟩,⟨⟨_,_,_,[1000003],(fun cv=>[(1000003,Dec.Own tapi_Unit 28 (cv 1) out.length)]),rfl,rfl,rfl,rfl,fun _=>rfl,fun _ _=>rfl,fun cv=>OpR.appC (key:=1000003) hout Tryd.underlying26 el28 (.tmp rfl) (.tmp rfl) rfl⟩,⟨⟨_,_,_,[3],(fun cv=>[(3,(Bx 8 true 28 ((tapi_Unit_k5 (cv 1)).is ({u with Kids:=out}:api_Unit)) b1))]),rfl,rfl,rfl,rfl,fun _=>rfl,fun _ _=>rfl,fun cv=>OpR.viaU (OpR.storeBFT (b:=b1) (s:=(tapi_Unit_k5 kt)) (s':=(tapi_Unit_k5 (cv 1))) (t:=(tOT tapi_Unit (cv 1))) 3 rfl rfl ⟨ty26.agg,ty26.size⟩ (sTapi_Unit_k5 kt (cv 1)) rfl (show 7+1≤8 by decide) (.tmp rfl) (Opd.toOT (.tmp rfl)))⟩,trivial⟩⟩⟩ (fun cv=>?_)
      refine WN.block ?_
      refine WN.seq ?_
      refine W.region ?_
      refine WL.op rfl (Op1.addI (.tmp rfl) (.int (inR64.2 (by omega))) (range_inR hi7 hp12 hlen8)) ?_
      refine WL.op rfl (Op1.move (.tmp rfl)) ?_
      refine WL.nil ?_
      exact WN.again es.length (ii+1,pre++ [e],es,({u with Kids:=out}:api_Unit),(cv 1)) (range_lt hn9) ⟨rfl,range_step hxs6,range_idx hi7,hm2⟩ ⟨Ent.q rfl,Ent.q rfl,Ent.q rfl,Ent.q rfl,Ent.q rfl,trivial⟩ ⟨rfl,rfl,⟨rfl,rfl,⟨rfl,rfl,⟨rfl,rfl,trivial⟩⟩⟩⟩
    · have hrest14:=range_end hxs6 hi7 (of_decide_eq_false hc11)
      subst hrest14
      cases hm2
      refine W.exit rfl ?_
      refine WN.seq ?_
      refine W.seq ?_
      refine W.region ?_
      refine WL.op rfl (Op1.loadB 3 Tryd.isAgg28 Tryd.sizeOf28 rfl (.tmp rfl)) ?_
      refine WL.opU (OpR.storeB (b:=b0) 2 Tryd.sizeOf28 (Cellable.is tapi_Unit r) rfl (.tmp rfl) (Opd.leT (leapi_Unit_k5 kt) (.tmp rfl))) (fun _=>?_)
      refine WL.nil ?_
      refine WN.seq ?_
      exact W.retQ1 () rfl (ResAt.cell 2 Tryd.isAgg28 Tryd.sizeOf28 rfl (.tmp rfl)) ⟨rfl,rfl,trivial⟩
theorem plaintext_grow_spec(n:Nat)(bs:List Nat)(ks:List Tok)(ar:NodeL)(kw:Tok)(way:List Nat)(line:Str)(count:Int)(r:(List Nat×Int)×NodeL)(hm:M.plaintext_grow n ar way line count=some r) :
    FSpecR Tryd.prog 11 [tU kw way.length,tS.is line,(tI .i64).is count] [(0,OwnU (tNp bs) 44 kw way),(1,Arena bs ks ar),(700000,Gl (tA 8 tS) 0 gv0),(700001,GlE 1),(700002,Gl (tA 8 (tL (tI .i64))) 2 gv2)] (fun x:Tok×List Nat×List Tok=>Asn.tuple2 (tU x.1 r.1.1.length) ((tI .i64).is r.1.2)) (fun x=>[(0,OwnU (tNp x.2.1) 44 x.1 r.1.1),(1,Arena x.2.1 x.2.2 r.2),(700000,Gl (tA 8 tS) 0 gv0),(700001,GlE 1),(700002,Gl (tA 8 (tL (tI .i64))) 2 gv2)]):=by
  unfold M.plaintext_grow at hm
  obtain ⟨v,hv1,hm⟩:=bind_some hm
  refine FSpecR.of Tryd.func11 rfl rfl rfl (fun g0=>?_)
  refine W.know (p:=bs.length=ar.length∧ks.length=ar.length) (fun a g h=>Arena.len (h.hres (1,Arena bs ks ar) (by simp))) fun hlen=>?_
  refine W.seq ?_
  refine W.region ?_
  refine WL.op rfl (Op1.assign (show Opd _ (Operand.const (Value.slice none 0 0)) (tU none 0) from fun _ _ _=>⟨rfl,Nat.le_refl _,Nat.zero_le _⟩)) ?_
  refine WL.op rfl (Op1.assign (.int (inR64.2 (by omega)))) ?_
  refine WL.nil ?_
  refine WN.seq ?_
  refine W.seq ?_
  refine W.region ?_
  refine WL.op rfl (Op1.move (.tmp rfl)) ?_
  refine WL.op rfl (Op1.callG (rin:=[(700000,Gl (tA 8 tS) 0 gv0),(700001,GlE 1),(700002,Gl (tA 8 (tL (tI .i64))) 2 gv2)]) Tryd.call20 (plaintext_ParseLine_spec _ _ _ hv1) ⟨rfl,rfl,rfl,trivial⟩ ⟨rfl,rfl,⟨rfl,rfl,⟨rfl,rfl,trivial⟩⟩⟩ ⟨(.tmp rfl),trivial⟩) ?_
  refine WL.op rfl (Op1.move (.tmp rfl)) ?_
  refine WL.op rfl (Op1.extract30 (.tmp rfl)) ?_
  refine WL.op rfl (Op1.extract31 (.tmp rfl)) ?_
  refine WL.op rfl (Op1.extract32 (.tmp rfl)) ?_
  refine WL.opR rfl (OpR.alloc 8 ze28) (fun b8=>?_)
  refine WL.opU (OpR.storeB (b:=b8) 8 Tryd.sizeOf28 (Cellable.is (tapi_Unit_k5 none) v.1) rfl (.tmp rfl) (.tmp rfl)) (fun _=>?_)
  refine WL.op rfl (Op1.assign (.tmp rfl)) ?_
  refine WL.op rfl (Op1.assign (.tmp rfl)) ?_
  refine WL.nil ?_
  refine WN.seq ?_
  refine W.seq ?_
  refine W.seq ?_
  refine W.region ?_
  refine WL.op rfl (Op1.move (.tmp rfl)) ?_
  refine WL.op rfl (Op1.neI (.tmp rfl) (.int (inR64.2 (by omega)))) ?_
  refine WL.nil ?_
  refine WN.seq ?_
  refine W.cond (.tmp rfl) (fun hc1=>?_) (fun hc1=>?_)
  · rw [if_pos (of_decide_eq_true hc1)] at hm
    refine W.seq ?_
    refine W.region ?_
    refine WL.op rfl (Op1.move (.tmp rfl)) ?_
    refine WL.chgE (fun a g h=>St.turn (key:=0) (R':=OwnU (tNp bs) 44 none []) rfl (fun _ _=>rfl) (fun _ hb=>by cases hb) h) ?_
    refine WL.op rfl (Op1.assign (show Opd _ (Operand.const (Value.slice none 0 0)) (tU none 0) from fun _ _ _=>⟨rfl,Nat.le_refl _,Nat.zero_le _⟩)) ?_
    refine WL.op rfl (Op1.assign (.tmp rfl)) ?_
    refine WL.nil ?_
    refine WN.seq ?_
    cases hm
    exact W.ret2 (none,bs,ks) rfl rfl (.tmp rfl) (.tmp rfl) ⟨rfl,rfl,⟨rfl,rfl,⟨rfl,rfl,⟨rfl,rfl,⟨rfl,rfl,trivial⟩⟩⟩⟩⟩
  · rw [if_neg (of_decide_eq_false hc1)] at hm
    refine W.skip ?_
    refine WN.seq ?_
    refine W.seq ?_
    refine W.seq ?_
    refine W.region ?_
    refine WL.op rfl (Op1.move (.tmp rfl)) ?_
    refine WL.op rfl (Op1.lenU Tryd.underlying39 (.tmp rfl)) ?_
    refine WL.op rfl (Op1.eqI (.tmp rfl) (.int (inR64.2 (by omega)))) ?_
    refine WL.nil ?_
    refine WN.seq ?_
    refine W.cond (.tmp rfl) (fun hc2=>?_) (fun hc2=>?_)
    · rw [if_pos (of_decide_eq_true hc2)] at hm
      refine W.seq ?_
      refine W.seq ?_
      refine W.region ?_
      refine WL.op rfl (Op1.move (.tmp rfl)) ?_
      refine WL.op rfl (Op1.neI (.tmp rfl) (.int (inR64.2 (by omega)))) ?_
      refine WL.nil ?_
      refine WN.seq ?_
      refine W.cond (.tmp rfl) (fun hc3=>?_) (fun hc3=>?_)
      · rw [if_pos (of_decide_eq_true hc3)] at hm
        refine W.seq ?_
        refine W.region ?_
        refine WL.chgE (fun a g h=>St.turn (key:=0) (R':=OwnU (tNp bs) 44 none []) rfl (fun _ _=>rfl) (fun _ hb=>by cases hb) h) ?_
        refine WL.op rfl (Op1.assign (show Opd _ (Operand.const (Value.slice none 0 0)) (tU none 0) from fun _ _ _=>⟨rfl,Nat.le_refl _,Nat.zero_le _⟩)) ?_
        refine WL.op rfl (Op1.assign (.int (inR64.2 (by omega)))) ?_
        refine WL.nil ?_
        refine WN.seq ?_
        cases hm
        exact W.ret2 (none,bs,ks) rfl rfl (.tmp rfl) (.tmp rfl) ⟨rfl,rfl,⟨rfl,rfl,⟨rfl,rfl,⟨rfl,rfl,⟨rfl,rfl,trivial⟩⟩⟩⟩⟩
      · rw [if_neg (of_decide_eq_false hc3)] at hm
        refine W.skip ?_
        refine WN.seq ?_
        refine W.seq ?_
        refine W.region ?_
        refine WL.op rfl (Op1.loadB 8 Tryd.isAgg28 Tryd.sizeOf28 rfl (.tmp rfl)) ?_
        refine WL.op rfl (Op1.build (s:=tNode bs none) (x:=(v.1,[])) fNd rfl Tryd.underlying56 (fNd_sz _ Tryd.underlying56) (zeN bs) ⟨_,tapi_Unit_k5 none,v.1,_,_,rfl,Tryd.sizeOf28,.tmp rfl,sN0 bs none,rfl⟩) ?_
        refine WL.opR rfl (OpR.boxB 55 (Cellable.is (tNode bs none) (v.1,[])) (.tmp rfl)) (fun b=>?_)
        have hbn:(bs++ [b])[ar.length]? =some b:=by rw [←hlen.1];simp
        refine WL.opR rfl (OpR.loosen Flat.Np (OpR.bsMap (xs:=[ar.length]) (OpR.buildSlice (n:=1) (t:=tNpO (bs++ [b])) (ys:=[(0,some ar.length)]) (z:=none) (xs:=[some ar.length]) 0 Tryd.underlying39 (elPNO _) (zePNO _) ⟨rfl,Opd.toNp hbn (.tmp rfl),trivial⟩ (by simp) (show 1*1≤16777216 by decide) rfl))) (fun k1=>?_)
        refine WL.op rfl (Op1.assign (.tmp rfl)) ?_
        refine WL.op rfl (Op1.assign (.int (inR64.2 (by omega)))) ?_
        refine WL.addNil (t:=tNp (bs++ [b])) (E:=44) 56 ?_
        refine WL.chgE (fun a g h=>St.turn (key:=55) (R':=Bx 9 true 56 ((tNode (bs++ [b]) none).is (v.1,[])) b) rfl (fun _=>Bx.le (leN bs [b] none)) (fun _ hb=>hb) h) ?_
        refine WL.chgE (fun a g h=>St.turn (key:=1) (R':=ArenaW bs [b] ks ar) rfl (fun _=>Arena.wide) (fun _=>Arena.wideB _) h) ?_
        refine WL.chgE (closeN 1 55 56 (by decide) (by exact ArenaW.push (k:=none) (nd:=(v.1,[])) hlen) rfl rfl (by rw [List.append_nil];rfl)) ?_
        refine WL.nil ?_
        refine WN.seq ?_
        cases hm
        exact W.ret2 (k1,bs++ [b],ks++ [none]) rfl rfl (.tmp rfl) (.tmp rfl) ⟨rfl,rfl,⟨rfl,rfl,⟨rfl,rfl,⟨rfl,rfl,⟨rfl,rfl,trivial⟩⟩⟩⟩⟩
    · rw [if_neg (of_decide_eq_false hc2)] at hm
      refine W.skip ?_
      refine WN.seq ?_
      refine W.seq ?_
      refine W.seq ?_
      refine W.region ?_
      refine WL.op rfl (Op1.move (.tmp rfl)) ?_
      refine WL.op rfl (Op1.ltI (.tmp rfl) (.int (inR64.2 (by omega)))) ?_
      refine WL.op rfl (Op1.move (.tmp rfl)) ?_
      rcases bcases (decide (v.2.1<(1:Int))) with hb | hb
      · rw [if_pos (of_decide_eq_true hb)] at hm
        refine WL.pass rfl rfl rfl rfl hb rfl rfl ?_
        refine WL.pass rfl rfl rfl rfl hb rfl rfl ?_
        refine WL.pass rfl rfl rfl rfl hb rfl rfl ?_
        refine WL.pass rfl rfl rfl rfl hb rfl rfl ?_
        refine WL.op rfl (Op1.pickT (.tmp rfl) hb .bool) ?_
        refine WL.nil ?_
        refine WN.seq ?_
        refine W.cond (.tmp rfl) (fun hc4=>?_) (fun hc4=>absurd hc4 (by decide))
        refine W.seq ?_
        refine W.region ?_
        refine WL.chgE (fun a g h=>St.turn (key:=0) (R':=OwnU (tNp bs) 44 none []) rfl (fun _ _=>rfl) (fun _ hb=>by cases hb) h) ?_
        refine WL.op rfl (Op1.assign (show Opd _ (Operand.const (Value.slice none 0 0)) (tU none 0) from fun _ _ _=>⟨rfl,Nat.le_refl _,Nat.zero_le _⟩)) ?_
        refine WL.op rfl (Op1.assign (.int (inR64.2 (by omega)))) ?_
        refine WL.nil ?_
        refine WN.seq ?_
        cases hm
        exact W.ret2 (none,bs,ks) rfl rfl (.tmp rfl) (.tmp rfl) ⟨rfl,rfl,⟨rfl,rfl,⟨rfl,rfl,⟨rfl,rfl,⟨rfl,rfl,trivial⟩⟩⟩⟩⟩
      rw [if_neg (of_decide_eq_false hb)] at hm
      refine WL.run rfl rfl rfl rfl hb rfl rfl (Op1.move (.tmp rfl)) ?_
      refine WL.run rfl rfl rfl rfl hb rfl rfl (Op1.move (.tmp rfl)) ?_
      refine WL.run rfl rfl rfl rfl hb rfl rfl (Op1.lenU Tryd.underlying39 (.tmp rfl)) ?_
      refine WL.run rfl rfl rfl rfl hb rfl rfl (Op1.gtI (.tmp rfl) (.tmp rfl)) ?_
      refine WL.op rfl (Op1.pickF (.tmp rfl) hb (.tmp rfl)) ?_
      refine WL.nil ?_
      refine WN.seq ?_
      refine W.cond (.tmp rfl) (fun hc4=>?_) (fun hc4=>?_)
      · rw [if_pos (of_decide_eq_true hc4)] at hm
        refine W.seq ?_
        refine W.region ?_
        refine WL.chgE (fun a g h=>St.turn (key:=0) (R':=OwnU (tNp bs) 44 none []) rfl (fun _ _=>rfl) (fun _ hb=>by cases hb) h) ?_
        refine WL.op rfl (Op1.assign (show Opd _ (Operand.const (Value.slice none 0 0)) (tU none 0) from fun _ _ _=>⟨rfl,Nat.le_refl _,Nat.zero_le _⟩)) ?_
        refine WL.op rfl (Op1.assign (.int (inR64.2 (by omega)))) ?_
        refine WL.nil ?_
        refine WN.seq ?_
        cases hm
        exact W.ret2 (none,bs,ks) rfl rfl (.tmp rfl) (.tmp rfl) ⟨rfl,rfl,⟨rfl,rfl,⟨rfl,rfl,⟨rfl,rfl,⟨rfl,rfl,trivial⟩⟩⟩⟩⟩
      · rw [if_neg (of_decide_eq_false hc4)] at hm
        obtain ⟨d,hd,hm⟩:=bind_some hm
        obtain ⟨p,hp,hm⟩:=bind_some hm
        obtain ⟨e,he,hm⟩:=bind_some hm
        refine W.skip ?_
        refine WN.seq ?_
        refine W.seq ?_
        refine W.region ?_
        refine WL.op rfl (Op1.move (.tmp rfl)) ?_
        refine WL.op rfl (Op1.move (.tmp rfl)) ?_
        refine WL.op rfl (Op1.subC hd (.tmp rfl) (.int (inR64.2 (by omega)))) ?_
        refine WL.op rfl (Op1.idxU (t:=tNp bs) hp Tryd.underlying39 Tryd.sizeOf44 (.tmp rfl) (.tmp rfl)) ?_
        refine WL.op rfl (Op1.loadU 0 hp (tyPN bs) rfl (.tmp rfl)) ?_
        refine WL.op rfl (Op1.assign (.tmp rfl)) ?_
        refine WL.nil ?_
        refine WN.seq ?_
        refine W.seq ?_
        refine W.seq ?_
        refine W.region ?_
        refine WL.op rfl (Op1.move (.tmp rfl)) ?_
        refine WL.op rfl (Op1.loadB 8 Tryd.isAgg28 Tryd.sizeOf28 rfl (.tmp rfl)) ?_
        refine WL.opR rfl (OpR.call (us:=[1,700002]) (A:=fun _:Unit=>(tI .i64).is e) Tryd.call21 (FSpecR.keys (rin':=[(1,Arena bs ks ar),(700002,Gl (tA 8 (tL (tI .i64))) 2 gv2)]) (out':=fun _=>[(1,Arena bs ks ar),(700002,Gl (tA 8 (tL (tI .i64))) 2 gv2)]) (node_takes_spec n bs ks ar p v.1 e he) rfl (fun _=>rfl)) rfl ⟨(.tmp rfl),Opd.leT (leapi_Unit_k5 none) (.tmp rfl),trivial⟩) (fun _=>?_)
        refine WL.op rfl (Op1.assign (.tmp rfl)) ?_
        refine WL.nil ?_
        refine WN.seq ?_
        refine W.seq ?_
        refine W.region ?_
        refine WL.op rfl (Op1.move (.tmp rfl)) ?_
        refine WL.op rfl (Op1.neI (.tmp rfl) (.int (inR64.2 (by omega)))) ?_
        refine WL.nil ?_
        refine WN.seq ?_
        refine W.cond (.tmp rfl) (fun hc5=>?_) (fun hc5=>?_)
        · rw [if_pos (of_decide_eq_true hc5)] at hm
          refine W.seq ?_
          refine W.region ?_
          refine WL.op rfl (Op1.move (.tmp rfl)) ?_
          refine WL.chgE (fun a g h=>St.turn (key:=0) (R':=OwnU (tNp bs) 44 none []) rfl (fun _ _=>rfl) (fun _ hb=>by cases hb) h) ?_
          refine WL.op rfl (Op1.assign (show Opd _ (Operand.const (Value.slice none 0 0)) (tU none 0) from fun _ _ _=>⟨rfl,Nat.le_refl _,Nat.zero_le _⟩)) ?_
          refine WL.op rfl (Op1.assign (.tmp rfl)) ?_
          refine WL.nil ?_
          refine WN.seq ?_
          cases hm
          exact W.ret2 (none,bs,ks) rfl rfl (.tmp rfl) (.tmp rfl) ⟨rfl,rfl,⟨rfl,rfl,⟨rfl,rfl,⟨rfl,rfl,⟨rfl,rfl,trivial⟩⟩⟩⟩⟩
        rw [if_neg (of_decide_eq_false hc5)] at hm
        refine W.skip ?_
        refine WN.seq ?_
        refine W.seq ?_
        refine W.seq ?_
        refine W.region ?_
        refine WL.op rfl (Op1.move (.tmp rfl)) ?_
        refine WL.op rfl (Op1.geI (.tmp rfl) (.int (inR64.2 (by omega)))) ?_
        refine WL.nil ?_
        refine WN.seq ?_
        refine W.cond (.tmp rfl) (fun hc6=>?_) (fun hc6=>?_)
        · rw [if_pos (of_decide_eq_true hc6)] at hm
          refine W.seq ?_
          refine W.region ?_
          refine WL.chgE (fun a g h=>St.turn (key:=0) (R':=OwnU (tNp bs) 44 none []) rfl (fun _ _=>rfl) (fun _ hb=>by cases hb) h) ?_
          refine WL.op rfl (Op1.assign (show Opd _ (Operand.const (Value.slice none 0 0)) (tU none 0) from fun _ _ _=>⟨rfl,Nat.le_refl _,Nat.zero_le _⟩)) ?_
          refine WL.op rfl (Op1.assign (.int (inR64.2 (by omega)))) ?_
          refine WL.nil ?_
          refine WN.seq ?_
          cases hm
          exact W.ret2 (none,bs,ks) rfl rfl (.tmp rfl) (.tmp rfl) ⟨rfl,rfl,⟨rfl,rfl,⟨rfl,rfl,⟨rfl,rfl,⟨rfl,rfl,trivial⟩⟩⟩⟩⟩
        rw [if_neg (of_decide_eq_false hc6)] at hm
        obtain ⟨nd,hnd,hm⟩:=bind_some hm
        obtain ⟨ks1,hks1,hm⟩:=bind_some hm
        obtain ⟨w,hw,hm⟩:=bind_some hm
        obtain ⟨w2,hw2,hm⟩:=bind_some hm
        have hr:=Option.some.inj hm
        refine W.skip ?_
        refine WN.seq ?_
        refine W.seq ?_
        refine W.region ?_
        refine WL.op rfl (Op1.loadB 8 Tryd.isAgg28 Tryd.sizeOf28 rfl (.tmp rfl)) ?_
        refine WL.op rfl (Op1.build (s:=tNode bs none) (x:=(v.1,[])) fNd rfl Tryd.underlying56 (fNd_sz _ Tryd.underlying56) (zeN bs) ⟨_,tapi_Unit_k5 none,v.1,_,_,rfl,Tryd.sizeOf28,.tmp rfl,sN0 bs none,rfl⟩) ?_
        refine WL.opR rfl (OpR.boxB 55 (Cellable.is (tNode bs none) (v.1,[])) (.tmp rfl)) (fun b=>?_)
        have hbn:(bs++ [b])[ar.length]? =some b:=by rw [←hlen.1];simp
        refine WL.op rfl (Op1.assign (.tmp rfl)) ?_
        refine WL.nil ?_
        refine WN.seq ?_
        obtain ⟨bp,kp,l1,l2,hbp,hA,hA2⟩:=ArenaW.at (cs:=[b]) hlen hnd
        refine W.chg (ptrN 11 hbp rfl) ?_
        refine W.addNil (t:=tNp (bs++ [b])) (E:=44) 56 ?_
        refine W.chg (fun a g h=>St.turn (key:=55) (R':=Bx 9 true 56 ((tNode (bs++ [b]) none).is (v.1,[])) b) rfl (fun _=>Bx.le (leN bs [b] none)) (fun _ hb=>hb) h) ?_
        refine W.chg (fun a g h=>St.turn (key:=1) (R':=ArenaW bs [b] ks ar) rfl (fun _=>Arena.wide) (fun _=>Arena.wideB _) h) ?_
        refine W.chg (openN 1 57 58 hA rfl) ?_
        refine W.seq ?_
        refine W.region ?_
        refine WL.op rfl (Op1.move (.tmp rfl)) ?_
        refine WL.op rfl (Op1.move (.tmp rfl)) ?_
        refine WL.op rfl (Op1.nilCheckB (.tmp rfl)) ?_
        refine WL.op rfl (Op1.fieldAddrB (o:=0) Tryd.underlying56 rfl (fun w=>⟨0,Tryd.sizeOf39 w⟩) (.tmp rfl) rfl) ?_
        refine WL.op rfl (Op1.ofOT (Op1.loadBF 57 rfl (tyLPN _ kp) (fN1 (bs++ [b]) kp) rfl (.tmp rfl))) ?_
        refine WL.op rfl (Op1.move (.tmp rfl)) ?_
        refine WL.op rfl (Op1.weak (Op1.buildSlice (n:=1) (t:=tNpO (bs++ [b])) (ys:=[(0,some ar.length)]) (z:=none) (xs:=[some ar.length]) Tryd.underlying39 (elPNO _) (zePNO _) ⟨rfl,Opd.toNp hbn (.tmp rfl),trivial⟩ (by simp) (show 1*1≤16777216 by decide) rfl) (fun _ _=>tL_map (xs:=[ar.length]))) ?_
        refine WL.opR rfl (OpR.appC (key:=58) hks1 Tryd.underlying39 (elPN _) (.tmp rfl) (.tmp rfl) rfl) (fun k1=>?_)
        refine WL.op rfl (Op1.nilCheckB (.tmp rfl)) ?_
        refine WL.op rfl (Op1.fieldAddrB (o:=0) Tryd.underlying56 rfl (fun w=>⟨0,Tryd.sizeOf39 w⟩) (.tmp rfl) rfl) ?_
        refine WL.opU (OpR.storeBFT (b:=bp) (s:=tNode (bs++ [b]) kp) (s':=tNode (bs++ [b]) k1) (t:=tOT (tNp (bs++ [b])) k1) 57 rfl rfl (tyLPN _ _) (sN1 _ _ _) rfl (show 8+1≤9 by decide) (.tmp rfl) (Opd.toOT (.tmp rfl))) (fun _=>?_)
        refine WL.nil ?_
        refine WN.seq ?_
        refine W.chg (closeN 1 57 58 (by decide) (hA2 k1 (nd.1,ks1)) rfl rfl rfl) ?_
        have hlen2:bs.length=(ar.set p (nd.1,ks1)).length∧(ks.set p k1).length=(ar.set p (nd.1,ks1)).length:=by simpa using hlen
        refine W.chg (closeN 1 55 56 (by decide) (by exact ArenaW.push (k:=none) (nd:=(v.1,[])) hlen2) rfl rfl (by rw [List.append_nil];rfl)) ?_
        obtain ⟨hw0,hw1,rfl⟩:=slcHi_out hw
        refine W.chg (fun a g h=>St.turn (key:=0) (R':=OwnU (tNp (bs++ [b])) 44 kw (way.take v.2.1.toNat)) rfl (fun _ hR=>OwnU.take _ (by omega) (OwnU.le (tNp_le [b]) hR)) (fun _ hb=>hb) h) ?_
        refine W.seq ?_
        refine W.region ?_
        refine WL.op rfl (Op1.move (.tmp rfl)) ?_
        refine WL.op rfl (Op1.move (.tmp rfl)) ?_
        refine WL.op rfl (Op1.sliceUhi (m:=(way.take v.2.1.toNat).length) Tryd.underlying39 Tryd.sizeOf44 (.tmp rfl) (.tmp rfl) hw0 hw1 (by rw [List.length_take];omega)) ?_
        refine WL.op rfl (Op1.move (.tmp rfl)) ?_
        refine WL.op rfl (Op1.weak (Op1.buildSlice (n:=1) (t:=tNpO (bs++ [b])) (ys:=[(0,some ar.length)]) (z:=none) (xs:=[some ar.length]) Tryd.underlying39 (elPNO _) (zePNO _) ⟨rfl,Opd.toNp hbn (.tmp rfl),trivial⟩ (by simp) (show 1*1≤16777216 by decide) rfl) (fun _ _=>tL_map (xs:=[ar.length]))) ?_
        refine WL.opR rfl (OpR.appendL (key:=0) hw2 (by simp) Tryd.underlying39 (elPN _) (.tmp rfl) (.tmp rfl) rfl) (fun k2=>?_)
        refine WL.op rfl (Op1.assign (.tmp rfl)) ?_
        refine WL.op rfl (Op1.assign (.int (inR64.2 (by omega)))) ?_
        refine WL.nil ?_
        refine WN.seq ?_
        subst hr
        exact W.ret2 (k2,bs++ [b],(ks.set p k1)++ [none]) rfl rfl (.tmp rfl) (.tmp rfl) ⟨rfl,rfl,⟨rfl,rfl,⟨rfl,rfl,⟨rfl,rfl,⟨rfl,rfl,trivial⟩⟩⟩⟩⟩
theorem plaintext_Parse_spec(n:Nat)(s:Str)(r:api_Unit×Int×Int)(hm:M.plaintext_Parse n s=some r) :
    FSpecR Tryd.prog 5 [tS.is s] [(700000,Gl (tA 8 tS) 0 gv0),(700001,GlE 1),(700002,Gl (tA 8 (tL (tI .i64))) 2 gv2)] (fun _:Unit=>Asn.tuple3 (tapi_Unit.is r.1) ((tI .i64).is r.2.1) ((tI .i64).is r.2.2)) (fun _=>[]):=by
  unfold M.plaintext_Parse at hm
  refine FSpecR.of Tryd.func5 rfl rfl rfl (fun g0=>?_)
  refine W.seq ?_
  refine W.region ?_
  refine WL.opR rfl (OpR.alloc 2 ze28) (fun b0=>?_)
  refine WL.op rfl (Op1.assign (.int (inR64.2 (by omega)))) ?_
  refine WL.op rfl (Op1.assign (.int (inR64.2 (by omega)))) ?_
  refine WL.nil ?_
  refine WN.seq ?_
  refine W.seq ?_
  refine W.seq ?_
  refine W.region ?_
  refine WL.op rfl (Op1.move (.tmp rfl)) ?_
  refine WL.op rfl (Op1.lenS Tryd.underlying9 (.tmp rfl)) ?_
  refine WL.op rfl (Op1.gtI (.tmp rfl) (.int (inR64.2 (by omega)))) ?_
  refine WL.nil ?_
  refine WN.seq ?_
  refine W.cond (.tmp rfl) (fun hc1=>?_) (fun hc1=>?_)
  · rw [if_pos (of_decide_eq_true hc1)] at hm
    refine W.seq ?_
    refine W.region ?_
    refine WL.op rfl (Op1.build (s:=tapi_Unit) (x:=zapi_Unit) zapi_Unit_f rfl Tryd.underlying28 (zapi_Unit_sz _ Tryd.underlying28) ze28 rfl) ?_
    refine WL.opU (OpR.storeB (b:=b0) 2 Tryd.sizeOf28 (Cellable.is tapi_Unit zapi_Unit) rfl (.tmp rfl) (.tmp rfl)) (fun _=>?_)
    refine WL.op rfl (Op1.assign (.int (inR64.2 (by omega)))) ?_
    refine WL.op rfl (Op1.assign (.int (inR64.2 (by omega)))) ?_
    refine WL.nil ?_
    refine WN.seq ?_
    cases hm
    exact W.retQ3 () rfl rfl (ResAt.cell 2 Tryd.isAgg28 Tryd.sizeOf28 rfl (.tmp rfl)) (ResAt.tmp (.tmp rfl)) (ResAt.tmp (.tmp rfl)) trivial
  rw [if_neg (of_decide_eq_false hc1)] at hm
  refine W.skip ?_
  refine WN.seq ?_
  refine W.seq ?_
  refine W.seq ?_
  refine W.region ?_
  refine WL.op rfl (Op1.move (.tmp rfl)) ?_
  refine WL.op rfl (Op1.eqS (.tmp rfl) (.str rfl (by decide))) ?_
  refine WL.nil ?_
  refine WN.seq ?_
  refine W.cond (.tmp rfl) (fun hc2=>?_) (fun hc2=>?_)
  · rw [if_pos hc2] at hm
    refine W.seq ?_
    refine W.region ?_
    refine WL.op rfl (Op1.build (s:=tapi_Unit) (x:=zapi_Unit) zapi_Unit_f rfl Tryd.underlying28 (zapi_Unit_sz _ Tryd.underlying28) ze28 rfl) ?_
    refine WL.opU (OpR.storeB (b:=b0) 2 Tryd.sizeOf28 (Cellable.is tapi_Unit zapi_Unit) rfl (.tmp rfl) (.tmp rfl)) (fun _=>?_)
    refine WL.op rfl (Op1.assign (.int (inR64.2 (by omega)))) ?_
    refine WL.op rfl (Op1.assign (.int (inR64.2 (by omega)))) ?_
    refine WL.nil ?_
    refine WN.seq ?_
    cases hm
    exact W.retQ3 () rfl rfl (ResAt.cell 2 Tryd.isAgg28 Tryd.sizeOf28 rfl (.tmp rfl)) (ResAt.tmp (.tmp rfl)) (ResAt.tmp (.tmp rfl)) trivial
  rw [if_neg (ne_of_false hc2)] at hm
  obtain ⟨o,hlo,hk⟩:=bind_some hm
  clear hm
  refine W.skip ?_
  refine WN.seq ?_
  refine W.seq ?_
  refine W.region ?_
  refine WL.op rfl (Op1.assign (show Opd _ (Operand.const (Value.slice none 0 0)) (tU none 0) from fun _ _ _=>⟨rfl,Nat.le_refl _,Nat.zero_le _⟩)) ?_
  refine WL.nil ?_
  refine WN.seq ?_
  refine W.seq ?_
  refine W.region ?_
  refine WL.op rfl (Op1.assign (.int (inR64.2 (by omega)))) ?_
  refine WL.nil ?_
  refine WN.seq ?_
  refine W.chg (fun a g h=>St.free 11 (R:=Arena [] [] []) (fun b ⟨R,hR,hb⟩=>by rw [List.mem_singleton.1 (show R∈ [Fact (([]:List Nat).length=([]:NodeL).length∧([]:List Tok).length=([]:NodeL).length)] from hR)] at hb;exact hb) ⟨fun R hR=>by rw [List.mem_singleton.1 (show R∈ [Fact (([]:List Nat).length=([]:NodeL).length∧([]:List Tok).length=([]:NodeL).length)] from hR)];exact ⟨rfl,rfl⟩,List.pairwise_singleton _ _⟩ h) ?_
  refine W.chg (fun a g h=>St.free 10 (R:=OwnU (tNp []) 44 none []) (fun b hb=>by cases hb) rfl h) ?_
  refine W.seq ?_
  refine W.block ?_
  refine W.loop (fun m (s:Str×NodeL×List Nat×Int×Tok×List Nat×List Tok)=>M.plaintext_Parse_loop m s.1 s.2.1 s.2.2.1 s.2.2.2.1=some o) (fun s=>[(0,(tS.is s.1)),(5,(tU s.2.2.2.2.1 s.2.2.1.length)),(6,((tI .i64).is s.2.2.2.1)),(2,(Bp b0 0))]) (fun s=>[(10,OwnU (tNp s.2.2.2.2.2.1) 44 s.2.2.2.2.1 s.2.2.1),(11,Arena s.2.2.2.2.2.1 s.2.2.2.2.2.2 s.2.1),(700000,Gl (tA 8 tS) 0 gv0),(700001,GlE 1),(700002,Gl (tA 8 (tL (tI .i64))) 2 gv2),(2,(Bx 8 true 28 (tapi_Unit.is zapi_Unit) b0))]) n (s,[],[],(0:Int),none,[],[]) hlo ⟨Ent.q rfl,Ent.q rfl,Ent.q rfl,Ent.q rfl,trivial⟩ ⟨rfl,rfl,⟨rfl,rfl,⟨rfl,rfl,⟨rfl,rfl,⟨rfl,rfl,⟨rfl,rfl,trivial⟩⟩⟩⟩⟩⟩ ?_
  rintro m ⟨s,ar,way,i,kw,bs,ks⟩ hm
  try dsimp only at hm
  change W _ _ _ _ _ _ _ [(0,(tS.is s)),(5,(tU kw way.length)),(6,((tI .i64).is i)),(2,(Bp b0 0))] [(10,OwnU (tNp bs) 44 kw way),(11,Arena bs ks ar),(700000,Gl (tA 8 tS) 0 gv0),(700001,GlE 1),(700002,Gl (tA 8 (tL (tI .i64))) 2 gv2),(2,(Bx 8 true 28 (tapi_Unit.is zapi_Unit) b0))]
  cases m with
  | zero=>cases hm
  | succ m=>
  unfold M.plaintext_Parse_loop at hm
  refine W.seq ?_
  refine W.seq ?_
  refine W.region ?_
  refine WL.op rfl (Op1.move (.tmp rfl)) ?_
  refine WL.op rfl (Op1.neS (.tmp rfl) (.str rfl (by decide))) ?_
  refine WL.nil ?_
  refine WN.seq ?_
  refine W.cond (.tmp rfl) (fun hc3=>?_) (fun hc3=>?_)
  · rw [if_pos hc3] at hm
    obtain ⟨c,hcut,hm⟩:=bind_some hm
    refine W.skip ?_
    refine WN.seq ?_
    refine W.block ?_
    refine W.seq ?_
    refine W.region ?_
    refine WL.op rfl (Op1.move (.tmp rfl)) ?_
    refine WL.op rfl (Op1.callG (rin:=[(700001,GlE 1)]) Tryd.call10 (strings_Cut_spec _ _ _ hcut) ⟨rfl,trivial⟩ ⟨rfl,rfl,trivial⟩ ⟨(.tmp rfl),(.str rfl (by decide)),trivial⟩) ?_
    refine WL.op rfl (Op1.move (.tmp rfl)) ?_
    refine WL.op rfl (Op1.extract30 (.tmp rfl)) ?_
    refine WL.op rfl (Op1.extract31 (.tmp rfl)) ?_
    refine WL.op rfl (Op1.extract32 (.tmp rfl)) ?_
    refine WL.op rfl (Op1.assign (.tmp rfl)) ?_
    refine WL.op rfl (Op1.assign (.tmp rfl)) ?_
    refine WL.op rfl (Op1.assign (.tmp rfl)) ?_
    refine WL.nil ?_
    refine WN.seq ?_
    refine W.seq ?_
    refine W.seq ?_
    refine W.region ?_
    refine WL.op rfl (Op1.move (.tmp rfl)) ?_
    refine WL.op rfl (Op1.notB (.tmp rfl)) ?_
    refine WL.nil ?_
    refine WN.seq ?_
    refine W.cond (.tmp rfl) (fun hc4=>?_) (fun hc4=>?_)
    · rw [if_pos (not_pos hc4)] at hm
      cases hm
      refine W.seq ?_
      refine W.region ?_
      refine WL.op rfl (Op1.build (s:=tapi_Unit) (x:=zapi_Unit) zapi_Unit_f rfl Tryd.underlying28 (zapi_Unit_sz _ Tryd.underlying28) ze28 rfl) ?_
      refine WL.op rfl (Op1.move (.tmp rfl)) ?_
      refine WL.opU (OpR.storeB (b:=b0) 2 Tryd.sizeOf28 (Cellable.is tapi_Unit zapi_Unit) rfl (.tmp rfl) (.tmp rfl)) (fun _=>?_)
      refine WL.op rfl (Op1.assign (.tmp rfl)) ?_
      refine WL.op rfl (Op1.assign (.int (inR64.2 (by omega)))) ?_
      refine WL.nil ?_
      refine WN.seq ?_
      cases hk
      exact W.retQ3 () rfl rfl (ResAt.cell 2 Tryd.isAgg28 Tryd.sizeOf28 rfl (.tmp rfl)) (ResAt.tmp (.tmp rfl)) (ResAt.tmp (.tmp rfl)) trivial
    rw [if_neg (not_neg hc4)] at hm
    obtain ⟨gr,hgr,hm⟩:=bind_some hm
    refine W.skip ?_
    refine WN.seq ?_
    refine W.seq ?_
    refine W.region ?_
    refine WL.op rfl (Op1.move (.tmp rfl)) ?_
    refine WL.op rfl (Op1.move (.tmp rfl)) ?_
    refine WL.op rfl (Op1.move (.tmp rfl)) ?_
    refine WL.opR rfl (OpR.call (us:=[10,11,700000,700001,700002]) (A:=fun x:Tok×List Nat×List Tok=>Asn.tuple2 (tU x.1 gr.1.1.length) ((tI .i64).is gr.1.2)) Tryd.call11 (FSpecR.keys (rin':=[(10,OwnU (tNp bs) 44 kw way),(11,Arena bs ks ar),(700000,Gl (tA 8 tS) 0 gv0),(700001,GlE 1),(700002,Gl (tA 8 (tL (tI .i64))) 2 gv2)]) (out':=fun x:Tok×List Nat×List Tok=>[(10,OwnU (tNp x.2.1) 44 x.1 gr.1.1),(11,Arena x.2.1 x.2.2 gr.2),(700000,Gl (tA 8 tS) 0 gv0),(700001,GlE 1),(700002,Gl (tA 8 (tL (tI .i64))) 2 gv2)]) (plaintext_grow_spec m bs ks ar kw way c.1 i gr hgr) rfl (fun _=>rfl)) rfl ⟨(.tmp rfl),(.tmp rfl),(.tmp rfl),trivial⟩) (fun x=>?_)
    obtain ⟨kw2,bs2,ks2⟩:=x
    try dsimp only
    refine WL.op rfl (Op1.move (.tmp rfl)) ?_
    refine WL.op rfl (Op1.extract0 (.tmp rfl)) ?_
    refine WL.op rfl (Op1.extract1 (.tmp rfl)) ?_
    refine WL.op rfl (Op1.assign (.tmp rfl)) ?_
    refine WL.op rfl (Op1.assign (.tmp rfl)) ?_
    refine WL.nil ?_
    refine WN.seq ?_
    refine W.seq ?_
    refine W.seq ?_
    refine W.region ?_
    refine WL.op rfl (Op1.move (.tmp rfl)) ?_
    refine WL.op rfl (Op1.neI (.tmp rfl) (.int (inR64.2 (by omega)))) ?_
    refine WL.nil ?_
    refine WN.seq ?_
    refine W.cond (.tmp rfl) (fun hc5=>?_) (fun hc5=>?_)
    · rw [if_pos (of_decide_eq_true hc5)] at hm
      cases hm
      refine W.seq ?_
      refine W.region ?_
      refine WL.op rfl (Op1.build (s:=tapi_Unit) (x:=zapi_Unit) zapi_Unit_f rfl Tryd.underlying28 (zapi_Unit_sz _ Tryd.underlying28) ze28 rfl) ?_
      refine WL.op rfl (Op1.move (.tmp rfl)) ?_
      refine WL.op rfl (Op1.move (.tmp rfl)) ?_
      refine WL.opU (OpR.storeB (b:=b0) 2 Tryd.sizeOf28 (Cellable.is tapi_Unit zapi_Unit) rfl (.tmp rfl) (.tmp rfl)) (fun _=>?_)
      refine WL.op rfl (Op1.assign (.tmp rfl)) ?_
      refine WL.op rfl (Op1.assign (.tmp rfl)) ?_
      refine WL.nil ?_
      refine WN.seq ?_
      cases hk
      exact W.retQ3 () rfl rfl (ResAt.cell 2 Tryd.isAgg28 Tryd.sizeOf28 rfl (.tmp rfl)) (ResAt.tmp (.tmp rfl)) (ResAt.tmp (.tmp rfl)) trivial
    rw [if_neg (of_decide_eq_false hc5)] at hm
    obtain ⟨i2,hi2,hm⟩:=bind_some hm
    refine W.skip ?_
    refine WN.seq ?_
    refine W.region ?_
    refine WL.op rfl (Op1.move (.tmp rfl)) ?_
    refine WL.op rfl (Op1.move (.tmp rfl)) ?_
    refine WL.op rfl (Op1.move (.tmp rfl)) ?_
    refine WL.op rfl (Op1.addC hi2 (.tmp rfl) (.int (inR64.2 (by omega)))) ?_
    refine WL.op rfl (Op1.assign (.tmp rfl)) ?_
    refine WL.op rfl (Op1.assign (.tmp rfl)) ?_
    refine WL.op rfl (Op1.assign (.tmp rfl)) ?_
    refine WL.nil ?_
    refine WN.block ?_
    exact WN.again m (c.2.1,gr.2,gr.1.1,i2,kw2,bs2,ks2) (Nat.lt_succ_self m) hm ⟨Ent.q rfl,Ent.q rfl,Ent.q rfl,Ent.q rfl,trivial⟩ ⟨rfl,rfl,⟨rfl,rfl,⟨rfl,rfl,⟨rfl,rfl,⟨rfl,rfl,⟨rfl,rfl,trivial⟩⟩⟩⟩⟩⟩
  · rw [if_neg (ne_of_false hc3)] at hm
    cases hm
    obtain ⟨w,hw,hk⟩:=bind_some hk
    obtain ⟨u,hu,hk⟩:=bind_some hk
    cases hk
    refine W.exit rfl ?_
    refine WN.seq ?_
    refine W.seq ?_
    refine W.region ?_
    refine WL.op rfl (Op1.move (.tmp rfl)) ?_
    refine WL.op rfl (Op1.idxU (t:=tNp bs) hw Tryd.underlying39 Tryd.sizeOf44 (.tmp rfl) (.int (inR64.2 (by omega)))) ?_
    refine WL.op rfl (Op1.loadU 10 hw (tyPN bs) rfl (.tmp rfl)) ?_
    refine WL.opR rfl (OpR.call (us:=[11]) (A:=fun _:Unit=>tapi_Unit.is u) Tryd.call12 (FSpecR.keys (rin':=[(11,Arena bs ks ar)]) (out':=fun _=>[(11,Arena bs ks ar)]) (node_unit_spec bs ks ar n w u hu) rfl (fun _=>rfl)) rfl ⟨(.tmp rfl),trivial⟩) (fun _=>?_)
    refine WL.op rfl (Op1.move (.tmp rfl)) ?_
    refine WL.opU (OpR.storeB (b:=b0) 2 Tryd.sizeOf28 (Cellable.is tapi_Unit u) rfl (.tmp rfl) (.tmp rfl)) (fun _=>?_)
    refine WL.op rfl (Op1.assign (.tmp rfl)) ?_
    refine WL.op rfl (Op1.assign (.int (inR64.2 (by omega)))) ?_
    refine WL.nil ?_
    refine WN.seq ?_
    exact W.retQ3 () rfl rfl (ResAt.cell 2 Tryd.isAgg28 Tryd.sizeOf28 rfl (.tmp rfl)) (ResAt.tmp (.tmp rfl)) (ResAt.tmp (.tmp rfl)) trivial
theorem r11_Texts_spec(n:Nat)(a:List api_Word)(b:List api_Word)(r:Bool)(hm:M.r11_Texts n a b=some r):FSpec Tryd.prog 13 [((tL tapi_Word).is a),((tL tapi_Word).is b)] (tB.is r):=by
 unfold M.r11_Texts at hm
 refine FSpec.of Tryd.func13 rfl rfl rfl fun g0=>Aw<|Ao rfl (.assign .bool)<|An<|W.seq<|Aw<|Am rfl rfl<|Ao rfl (.lenL U25 (.t rfl))<|Am rfl rfl<|Ao rfl (.lenL U25 (.t rfl))<|Ao rfl (.neI (.t rfl) (.t rfl))<|An<|W.cD hm (.t rfl) (fun hp2 hm=>?_) (fun hp2 hm=>?_)
 ·refine Aw<|Ao rfl (.assign .bool)<|WL.ns ?_
  cases hm
  exact W.ret1 () rfl (.t rfl) trivial
 ·refine W.skip<|Aq<|W.seq<|Aw<|Ao rfl (.assign .i64)<|An<|W.block ?_
  obtain ⟨s3,hs4,hk5⟩:=Bs hm
  clear hm
  refine W.loop (fun m (s:Int)=>M.r11_Texts_loop1 a b m s=some s3) (fun s=>[(5,(I6.is s)),(0,((tL tapi_Word).is a)),(1,((tL tapi_Word).is b))]) (fun s=>[]) _ (0:Int) hs4 ⟨.q rfl,.q rfl,.q rfl,trivial⟩ trivial ?_
  rintro n6 i hm
  try dsimp only at hm
  change W _ _ _ _ _ _ _ [(5,(I6.is i)),(0,((tL tapi_Word).is a)),(1,((tL tapi_Word).is b))] []
  cases n6 with
  | zero=>rw [M.r11_Texts_loop1.eq_1] at hm;cases hm
  | succ n6=>
   rw [M.r11_Texts_loop1.eq_2] at hm
   refine W.seq<|Aw<|Am rfl rfl<|Am rfl rfl<|Ao rfl (.lenL U25 (.t rfl))<|Ao rfl (.ltI (.t rfl) (.t rfl))<|An<|W.cD hm (.t rfl) (fun hp8 hm=>?_) (fun hp8 hm=>?_)
   ·refine W.skip<|Aq<|W.seq<|W.block<|W.seq ?_
    obtain ⟨v,hv9,hm⟩:=Bs hm
    obtain ⟨v1,hv10,hm⟩:=Bs hm
    refine W.draw [.c _,.c _,.c _,.c _,.c _,.c _,.c _,.c _,.c _,.c _,.c _] [([],[0]),([],[5]),([0,1],[]),([2],[]),([3],[]),([],[1]),([],[5]),([5,6],[]),([7],[]),([8],[]),([4,9],[])] Mx rfl rfl rfl rfl ⟨Dn (.move (.t rfl)),Dn (.move (.t rfl)),Dn (.idx hv9 U25 Z54 (.t rfl) (.t rfl)),Dn (.fieldAddr U54 rfl J9 fapi_Word_0 (.t rfl)),Dn (.load ty9 (.t rfl)),Dn (.move (.t rfl)),Dn (.move (.t rfl)),Dn (.idx hv10 U25 Z54 (.t rfl) (.t rfl)),Dn (.fieldAddr U54 rfl J9 fapi_Word_0 (.t rfl)),Dn (.load ty9 (.t rfl)),Dn (.neS (.t rfl) (.t rfl)),trivial⟩<|Aq<|W.cB hm (.t rfl) (fun hp12 hm=>?_) (fun hp12 hm=>?_)
    ·refine Aw<|Ao rfl (.assign .bool)<|WL.ns ?_
     have hr13:=Si hm
     clear hm
     subst hr13
     have hm:=hk5
     try dsimp only at hm
     cases hm
     exact W.ret1 () rfl (.t rfl) trivial
    ·exact W.skip<|WN.block<|Aq<|W.region<|Am rfl rfl<|WL.lenL (s:=0) (.t rfl) fun hl14=>Ao rfl (.addI1 (.t rfl) .i64 hp8 hl14)<|Ag rfl rfl<|WL.nil<|WN.again n6 (i+1) (Nat.lt_succ_self n6) hm ⟨.q rfl,.q rfl,.q rfl,trivial⟩ trivial
   ·refine W.exit rfl ?_
    have hr15:=Si hm
    clear hm
    subst hr15
    have hm:=hk5
    try dsimp only at hm
    refine Aq<|Aw<|Ao rfl (.assign .bool)<|WL.ns ?_
    cases hm
    exact W.ret1 () rfl (.t rfl) trivial
theorem r11_Says_spec:∀ (n:Nat) (a:api_Unit) (b:api_Unit) (r:Bool),M.r11_Says n a b=some r→FSpec Tryd.prog 6 [(tapi_Unit.is a),(tapi_Unit.is b)] (tB.is r):=by
 intro n
 induction n with
 | zero=>intro a b r hm;cases hm
 | succ n ih=>
  intro a b r hm
  rw [M.r11_Says.eq_2] at hm
  refine FSpec.of Tryd.func6 rfl rfl rfl fun g0=>Aw<|Ao rfl (.box (.t rfl))<|Ao rfl (.box (.t rfl))<|Ao rfl (.assign .bool)<|An<|W.seq ?_
  obtain ⟨s1,hs2,hk3⟩:=Bs hm
  clear hm
  refine W.join (fun s:Bool=>s=s1) (fun s=>[(42,(tB.is s)),(2,(tapi_Unit.ptr a)),(3,(tapi_Unit.ptr b))]) (fun s=>[]) ?_ ?_
  ·rintro v hj30
   try dsimp only at hj30
   subst hj30
   have hm:=hk3
   clear hk3
   try dsimp only at hm
   change W _ _ _ _ _ _ _ [(42,(tB.is v)),(2,(tapi_Unit.ptr a)),(3,(tapi_Unit.ptr b))] []
   refine W.cB hm (.t rfl) (fun hp15 hm=>?_) (fun hp15 hm=>?_)
   ·refine Aw<|Ao rfl (.assign .bool)<|WL.ns ?_
    cases hm
    exact W.ret1 () rfl (.t rfl) trivial
   ·refine W.skip<|Aq<|W.seq<|Aw<|Ao rfl (.assign .i64)<|An<|W.block ?_
    obtain ⟨s16,hs17,hk18⟩:=Bs hm
    clear hm
    refine W.loop (fun m (s:Int)=>M.r11_Says_loop1 a b (M.r11_Says n) m s=some s16) (fun s=>[(5,(I6.is s)),(2,(tapi_Unit.ptr a)),(3,(tapi_Unit.ptr b))]) (fun s=>[]) _ (0:Int) hs17 ⟨.q rfl,.q rfl,.q rfl,trivial⟩ trivial ?_
    rintro n19 i hm
    try dsimp only at hm
    change W _ _ _ _ _ _ _ [(5,(I6.is i)),(2,(tapi_Unit.ptr a)),(3,(tapi_Unit.ptr b))] []
    cases n19 with
    | zero=>rw [M.r11_Says_loop1.eq_1] at hm;cases hm
    | succ n19=>
     rw [M.r11_Says_loop1.eq_2] at hm
     refine W.seq<|Aw<|Am rfl rfl<|Ao rfl (.fieldAddr U28 rfl J26 fapi_Unit_5 (.t rfl))<|Ao rfl (.load ty26 (.t rfl))<|Ao rfl (.lenL U26 (.t rfl))<|Ao rfl (.ltI (.t rfl) (.t rfl))<|An<|W.cD hm (.t rfl) (fun hp21 hm=>?_) (fun hp21 hm=>?_)
     ·refine W.skip<|Aq<|W.seq<|W.block<|W.seq ?_
      obtain ⟨v1,hv22,hm⟩:=Bs hm
      obtain ⟨v2,hv23,hm⟩:=Bs hm
      obtain ⟨says,hv24,hm⟩:=Bs hm
      refine W.draw [.c _,.c _,.c _,.c _,.c _,.c _,.c _,.c _,.c _,.c _,.c _,.c _] [([],[2]),([0],[]),([],[5]),([1,2],[]),([3],[]),([],[3]),([5],[]),([],[5]),([6,7],[]),([8],[]),([4,9],[]),([10],[])] Mx rfl rfl rfl rfl ⟨Dn (.fieldAddr U28 rfl J26 fapi_Unit_5 (.t rfl)),Dn (.load ty26 (.t rfl)),Dn (.move (.t rfl)),Dn (.idx hv22 U26 Z28 (.t rfl) (.t rfl)),Dn (.load ty28 (.t rfl)),Dn (.fieldAddr U28 rfl J26 fapi_Unit_5 (.t rfl)),Dn (.load ty26 (.t rfl)),Dn (.move (.t rfl)),Dn (.idx hv23 U26 Z28 (.t rfl) (.t rfl)),Dn (.load ty28 (.t rfl)),Dn (.call C6 (ih _ _ _ hv24) ⟨(.t rfl),(.t rfl),trivial⟩),Dn (.notB (.t rfl)),trivial⟩<|Aq<|W.cR hm (.t rfl) (fun hp26 hm=>?_) (fun hp26 hm=>?_)
      ·refine Aw<|Ao rfl (.assign .bool)<|WL.ns ?_
       have hr27:=Si hm
       clear hm
       subst hr27
       have hm:=hk18
       try dsimp only at hm
       cases hm
       exact W.ret1 () rfl (.t rfl) trivial
      ·exact W.skip<|WN.block<|Aq<|W.region<|Am rfl rfl<|WL.lenL (s:=45) (.t rfl) fun hl28=>Ao rfl (.addI1 (.t rfl) .i64 hp21 hl28)<|Ag rfl rfl<|WL.nil<|WN.again n19 (i+1) (Nat.lt_succ_self n19) hm ⟨.q rfl,.q rfl,.q rfl,trivial⟩ trivial
     ·refine W.exit rfl ?_
      have hr29:=Si hm
      clear hm
      subst hr29
      have hm:=hk18
      try dsimp only at hm
      refine Aq<|Aw<|Ao rfl (.assign .bool)<|WL.ns ?_
      cases hm
      exact W.ret1 () rfl (.t rfl) trivial
  ·have hm:=hs2
   clear hs2
   refine W.region<|Ao rfl (.fieldAddr U28 rfl J3 fapi_Unit_1 (.t rfl))<|Ao rfl (.load ty3 (.t rfl))<|Ao rfl (.fieldAddr U28 rfl J3 fapi_Unit_1 (.t rfl))<|Ao rfl (.load ty3 (.t rfl))<|Ao rfl (.neI (.t rfl) (.t rfl))<|WL.mv rfl rfl ?_
   rcases iteD hm with ⟨hp5,hb4,hm⟩ | ⟨hp5,hb4,hm⟩
   ·refine Ap rfl hb4<|Ap rfl hb4<|Ap rfl hb4<|Ap rfl hb4<|Ap rfl hb4<|Ao rfl (.pickT (.t rfl) hb4 .bool)<|Am rfl rfl<|Ap rfl rfl<|Ap rfl rfl<|Ap rfl rfl<|Ap rfl rfl<|Ap rfl rfl<|Ap rfl rfl<|Ao rfl (.pickT (.t rfl) rfl .bool)<|Am rfl rfl<|Ap rfl rfl ?_
    refine Ap rfl rfl<|Ap rfl rfl<|Ap rfl rfl<|Ap rfl rfl<|Ap rfl rfl<|Ao rfl (.pickT (.t rfl) rfl .bool)<|Am rfl rfl<|Ap rfl rfl<|Ap rfl rfl<|Ap rfl rfl<|Ap rfl rfl<|Ap rfl rfl<|Ap rfl rfl<|Ap rfl rfl<|Ao rfl (.pickT (.t rfl) rfl .bool)<|WL.nil ?_
    exact WN.meet true (Si hm) ⟨.q rfl,.q rfl,.q rfl,trivial⟩ trivial
   ·refine Ax rfl hb4 (.fieldAddr U28 rfl J9 fapi_Unit_2 (.t rfl))<|Ax rfl hb4 (.load ty9 (.t rfl))<|Ax rfl hb4 (.fieldAddr U28 rfl J9 fapi_Unit_2 (.t rfl))<|Ax rfl hb4 (.load ty9 (.t rfl))<|Ax rfl hb4 (.neS (.t rfl) (.t rfl))<|Ao rfl (.pickF (.t rfl) hb4 (.t rfl))<|WL.mv rfl rfl ?_
    rcases iteB hm with ⟨hp7,hb6,hm⟩ | ⟨hp7,hb6,hm⟩
    ·refine Ap rfl hb6<|Ap rfl hb6<|Ap rfl hb6<|Ap rfl hb6<|Ap rfl hb6<|Ap rfl hb6<|Ao rfl (.pickT (.t rfl) hb6 .bool)<|Am rfl rfl<|Ap rfl rfl<|Ap rfl rfl<|Ap rfl rfl<|Ap rfl rfl<|Ap rfl rfl<|Ap rfl rfl<|Ao rfl (.pickT (.t rfl) rfl .bool)<|WL.mv rfl rfl ?_
     exact Ap rfl rfl<|Ap rfl rfl<|Ap rfl rfl<|Ap rfl rfl<|Ap rfl rfl<|Ap rfl rfl<|Ap rfl rfl<|Ao rfl (.pickT (.t rfl) rfl .bool)<|WL.nil<|WN.meet true (Si hm) ⟨.q rfl,.q rfl,.q rfl,trivial⟩ trivial
    ·refine Ax rfl hb6 (.fieldAddr U28 rfl J25 fapi_Unit_3 (.t rfl))<|Ax rfl hb6 (.load ty25 (.t rfl))<|Ax rfl hb6 (.fieldAddr U28 rfl J25 fapi_Unit_3 (.t rfl))<|Ax rfl hb6 (.load ty25 (.t rfl)) ?_
     obtain ⟨texts,hv8,hm⟩:=Bs hm
     refine Ax rfl hb6 (.call C13 (r11_Texts_spec _ _ _ _ hv8) ⟨(.t rfl),(.t rfl),trivial⟩)<|Ax rfl hb6 (.notB (.t rfl))<|Ao rfl (.pickF (.t rfl) hb6 (.t rfl))<|WL.mv rfl rfl ?_
     rcases iteR hm with ⟨hp10,hb9,hm⟩ | ⟨hp10,hb9,hm⟩
     ·refine Ap rfl hb9<|Ap rfl hb9<|Ap rfl hb9<|Ap rfl hb9<|Ap rfl hb9<|Ap rfl hb9<|Ao rfl (.pickT (.t rfl) hb9 .bool)<|Am rfl rfl<|Ap rfl rfl<|Ap rfl rfl<|Ap rfl rfl<|Ap rfl rfl<|Ap rfl rfl<|Ap rfl rfl<|Ap rfl rfl<|Ao rfl (.pickT (.t rfl) rfl .bool) ?_
      exact WL.nil<|WN.meet true (Si hm) ⟨.q rfl,.q rfl,.q rfl,trivial⟩ trivial
     ·refine Ax rfl hb9 (.fieldAddr U28 rfl J25 fapi_Unit_4 (.t rfl))<|Ax rfl hb9 (.load ty25 (.t rfl))<|Ax rfl hb9 (.fieldAddr U28 rfl J25 fapi_Unit_4 (.t rfl))<|Ax rfl hb9 (.load ty25 (.t rfl)) ?_
      obtain ⟨texts1,hv11,hm⟩:=Bs hm
      refine Ax rfl hb9 (.call C13 (r11_Texts_spec _ _ _ _ hv11) ⟨(.t rfl),(.t rfl),trivial⟩)<|Ax rfl hb9 (.notB (.t rfl))<|Ao rfl (.pickF (.t rfl) hb9 (.t rfl))<|WL.mv rfl rfl ?_
      rcases iteR hm with ⟨hp13,hb12,hm⟩ | ⟨hp13,hb12,hm⟩
      ·exact Ap rfl hb12<|Ap rfl hb12<|Ap rfl hb12<|Ap rfl hb12<|Ap rfl hb12<|Ap rfl hb12<|Ap rfl hb12<|Ao rfl (.pickT (.t rfl) hb12 .bool)<|WL.nil<|WN.meet true (Si hm) ⟨.q rfl,.q rfl,.q rfl,trivial⟩ trivial
      ·exact Ax rfl hb12 (.fieldAddr U28 rfl J26 fapi_Unit_5 (.t rfl))<|Ax rfl hb12 (.load ty26 (.t rfl))<|Ax rfl hb12 (.lenL U26 (.t rfl))<|Ax rfl hb12 (.fieldAddr U28 rfl J26 fapi_Unit_5 (.t rfl))<|Ax rfl hb12 (.load ty26 (.t rfl))<|Ax rfl hb12 (.lenL U26 (.t rfl))<|Ax rfl hb12 (.neI (.t rfl) (.t rfl))<|Ao rfl (.pickF (.t rfl) hb12 (.t rfl))<|WL.nil<|WN.meet (decide ((a.Kids.length:Int)≠(b.Kids.length:Int))) (Si hm) ⟨.q rfl,.q rfl,.q rfl,trivial⟩ trivial
theorem law11_awake_spec(n:Nat) (r:Bool)(hm:M.law11_awake n=some r):FSpecR Tryd.prog 4 [] [(700000,Gl (tA 8 tS) 0 gv0),(700001,GlE 1),(700002,Gl (tA 8 (tL I6)) 2 gv2)] (fun _:Unit=>(tB.is r)) (fun _=>[]):=by
 unfold M.law11_awake at hm
 refine FSpecR.of Tryd.func4 rfl rfl rfl fun g0=>Aw<|Ao rfl (.assign .bool)<|WL.nr ?_
 obtain ⟨sectio,hv1,hm⟩:=Bs hm
 refine Ao rfl (.call C9 (law11_section_spec _ hv1) trivial) ?_
 obtain ⟨format,hv2,hm⟩:=Bs hm
 refine Ao rfl (.callG (rin:=[(700000,Gl (tA 8 tS) 0 gv0),(700002,Gl (tA 8 (tL I6)) 2 gv2)]) C7 (plaintext_Format_spec _ _ _ hv2) ⟨rfl,rfl,trivial⟩ ⟨rfl,rfl,⟨rfl,rfl,trivial⟩⟩ ⟨(.t rfl),trivial⟩)<|Am rfl rfl<|Ao rfl (.extract0 (.t rfl))<|Ao rfl (.extract1 (.t rfl))<|Ag rfl rfl<|Ag rfl rfl<|Ar<|WL.mv rfl rfl ?_
 obtain ⟨parse,hv3,hm⟩:=Bs hm
 refine Ao rfl (.callG (rin:=[(700000,Gl (tA 8 tS) 0 gv0),(700001,GlE 1),(700002,Gl (tA 8 (tL I6)) 2 gv2)]) C5 (plaintext_Parse_spec _ _ _ hv3) ⟨rfl,rfl,rfl,trivial⟩ ⟨rfl,rfl,⟨rfl,rfl,⟨rfl,rfl,trivial⟩⟩⟩ ⟨(.t rfl),trivial⟩)<|Am rfl rfl<|Ao rfl (.extract30 (.t rfl))<|Ao rfl (.extract31 (.t rfl))<|Ao rfl (.extract32 (.t rfl))<|WL.opR rfl (OpR.alloc 3 ze28) fun b=>WL.opU (OpR.storeB (b:=b) 3 Z28 (Cellable.is tapi_Unit parse.1) rfl (.t rfl) (.t rfl)) fun _=>WL.sealed (t:=tapi_Unit) (u:=parse.1) 3 3 rfl rfl<|Ag rfl rfl<|Ag rfl rfl<|An<|W.seq ?_
 rcases iteD hm with ⟨hp5,hb4,hm⟩ | ⟨hp5,hb4,hm⟩
 ·rcases iteB hm with ⟨hp7,hb6,hm⟩ | ⟨hp7,hb6,hm⟩
  ·rcases iteD hm with ⟨hp9,hb8,hm⟩ | ⟨hp9,hb8,hm⟩
   ·rcases iteD hm with ⟨hp11,hb10,hm⟩ | ⟨hp11,hb10,hm⟩
    ·obtain ⟨sectio1,hv12,hm⟩:=Bs hm
     obtain ⟨says,hv13,hm⟩:=Bs hm
     refine W.draw [.c _,.c _,.c _,.c _,.c _,.c _,.c _,.c _,.c _,.c _,.c _,.c _,.c _,.c _,.c _,.c _,.c _,.c _,.c _,.c _] [([],[2]),([0],[]),([1],[]),([2],[1]),([2,3],[]),([2,4],[]),([5],[]),([6],[5]),([6,7],[]),([6,8],[]),([9],[]),([10],[4]),([10,11],[]),([10,12],[]),([13],[]),([14],[3]),([14],[]),([14,15,16],[]),([14,17],[]),([18],[])] Mx rfl rfl rfl rfl ⟨Dn (.move (.t rfl)),Dn (.eqI (.t rfl) .i64),Dn (.move (.t rfl)),Dr rfl hb4 (.move (.t rfl)),Dr rfl hb4 (.eqS (.t rfl) (.str rfl (by decide))),Dn (.pickT (.t rfl) hb4 (.t rfl)),Dn (.move (.t rfl)),Dr rfl hb6 (.move (.t rfl)),Dr rfl hb6 (.eqI (.t rfl) .i64),Dn (.pickT (.t rfl) hb6 (.t rfl)),Dn (.move (.t rfl)),Dr rfl hb8 (.move (.t rfl)),Dr rfl hb8 (.eqI (.t rfl) .i64),Dn (.pickT (.t rfl) hb8 (.t rfl)),Dn (.move (.t rfl)),Dr rfl hb10 (.load ty28 (.t rfl)),Dr rfl hb10 (.call C9 (law11_section_spec _ hv12) trivial),Dr rfl hb10 (.call C6 (r11_Says_spec _ _ _ _ hv13) ⟨(.t rfl),(.t rfl),trivial⟩),Dn (.pickT (.t rfl) hb10 (.t rfl)),Dn (.assign (.t rfl)),trivial⟩<|WN.seq ?_
     cases hm
     exact W.ret1 () rfl (.t rfl) trivial
    ·refine W.draw [.c _,.c _,.c _,.c _,.c _,.c _,.c _,.c _,.c _,.c _,.c _,.c _,.c _,.c _,.c _,.c _,.c _,.c _,.c _,.c _] [([],[2]),([0],[]),([1],[]),([2],[1]),([2,3],[]),([2,4],[]),([5],[]),([6],[5]),([6,7],[]),([6,8],[]),([9],[]),([10],[4]),([10,11],[]),([10,12],[]),([13],[]),([14],[3]),([14],[]),([14,15,16],[]),([14,17],[]),([18],[])] Mx rfl rfl rfl rfl ⟨Dn (.move (.t rfl)),Dn (.eqI (.t rfl) .i64),Dn (.move (.t rfl)),Dr rfl hb4 (.move (.t rfl)),Dr rfl hb4 (.eqS (.t rfl) (.str rfl (by decide))),Dn (.pickT (.t rfl) hb4 (.t rfl)),Dn (.move (.t rfl)),Dr rfl hb6 (.move (.t rfl)),Dr rfl hb6 (.eqI (.t rfl) .i64),Dn (.pickT (.t rfl) hb6 (.t rfl)),Dn (.move (.t rfl)),Dr rfl hb8 (.move (.t rfl)),Dr rfl hb8 (.eqI (.t rfl) .i64),Dn (.pickT (.t rfl) hb8 (.t rfl)),Dn (.move (.t rfl)),Dp rfl hb10,Dp rfl hb10,Dp rfl hb10,Dn (.pickF (.t rfl) hb10 .bool),Dn (.assign (.t rfl)),trivial⟩<|WN.seq ?_
     cases hm
     exact W.ret1 () rfl (.t rfl) trivial
   ·refine W.draw [.c _,.c (tB.is (decide (format.2=(0:Int)))),.c (tB.is (decide (format.2=(0:Int)))),.c _,.c (tB.is (format.1==([115,101,99,116,105,111,110,32,53,58,32,97,32,98,32,124,32,99,32,92,124,32,100,10,32,32,112,97,114,97,103,114,97,112,104,32,49,32,124,32,101,10]:Str))),.c (tB.is (format.1==([115,101,99,116,105,111,110,32,53,58,32,97,32,98,32,124,32,99,32,92,124,32,100,10,32,32,112,97,114,97,103,114,97,112,104,32,49,32,124,32,101,10]:Str))),.c (tB.is (format.1==([115,101,99,116,105,111,110,32,53,58,32,97,32,98,32,124,32,99,32,92,124,32,100,10,32,32,112,97,114,97,103,114,97,112,104,32,49,32,124,32,101,10]:Str))),.c _,.c (tB.is (decide (parse.2.2=(0:Int)))),.c (tB.is (decide (parse.2.2=(0:Int)))),.c (tB.is (decide (parse.2.2=(0:Int)))),.c _,.c _,.c (tB.is false),.c (tB.is false),.c _,.c _,.c _,.c (tB.is false),.c (tB.is false)] [([],[2]),([0],[]),([1],[]),([2],[1]),([2,3],[]),([2,4],[]),([5],[]),([6],[5]),([6,7],[]),([6,8],[]),([9],[]),([10],[4]),([10,11],[]),([10,12],[]),([13],[]),([14],[3]),([14],[]),([14,15,16],[]),([14,17],[]),([18],[])] Mx rfl rfl rfl rfl ⟨Dn (.move (.t rfl)),Dn (.eqI (.t rfl) .i64),Dn (.move (.t rfl)),Dr rfl hb4 (.move (.t rfl)),Dr rfl hb4 (.eqS (.t rfl) (.str rfl (by decide))),Dn (.pickT (.t rfl) hb4 (.t rfl)),Dn (.move (.t rfl)),Dr rfl hb6 (.move (.t rfl)),Dr rfl hb6 (.eqI (.t rfl) .i64),Dn (.pickT (.t rfl) hb6 (.t rfl)),Dn (.move (.t rfl)),Dp rfl hb8,Dp rfl hb8,Dn (.pickF (.t rfl) hb8 .bool),Dn (.move (.t rfl)),Dp rfl rfl,Dp rfl rfl,Dp rfl rfl,Dn (.pickF (.t rfl) rfl .bool),Dn (.assign (.t rfl)),trivial⟩<|WN.seq ?_
    cases hm
    exact W.ret1 () rfl (.t rfl) trivial
  ·refine W.draw [.c _,.c (tB.is (decide (format.2=(0:Int)))),.c (tB.is (decide (format.2=(0:Int)))),.c _,.c (tB.is (format.1==([115,101,99,116,105,111,110,32,53,58,32,97,32,98,32,124,32,99,32,92,124,32,100,10,32,32,112,97,114,97,103,114,97,112,104,32,49,32,124,32,101,10]:Str))),.c (tB.is (format.1==([115,101,99,116,105,111,110,32,53,58,32,97,32,98,32,124,32,99,32,92,124,32,100,10,32,32,112,97,114,97,103,114,97,112,104,32,49,32,124,32,101,10]:Str))),.c (tB.is (format.1==([115,101,99,116,105,111,110,32,53,58,32,97,32,98,32,124,32,99,32,92,124,32,100,10,32,32,112,97,114,97,103,114,97,112,104,32,49,32,124,32,101,10]:Str))),.c _,.c _,.c (tB.is false),.c (tB.is false),.c _,.c _,.c (tB.is false),.c (tB.is false),.c _,.c _,.c _,.c (tB.is false),.c (tB.is false)] [([],[2]),([0],[]),([1],[]),([2],[1]),([2,3],[]),([2,4],[]),([5],[]),([6],[5]),([6,7],[]),([6,8],[]),([9],[]),([10],[4]),([10,11],[]),([10,12],[]),([13],[]),([14],[3]),([14],[]),([14,15,16],[]),([14,17],[]),([18],[])] Mx rfl rfl rfl rfl ⟨Dn (.move (.t rfl)),Dn (.eqI (.t rfl) .i64),Dn (.move (.t rfl)),Dr rfl hb4 (.move (.t rfl)),Dr rfl hb4 (.eqS (.t rfl) (.str rfl (by decide))),Dn (.pickT (.t rfl) hb4 (.t rfl)),Dn (.move (.t rfl)),Dp rfl hb6,Dp rfl hb6,Dn (.pickF (.t rfl) hb6 .bool),Dn (.move (.t rfl)),Dp rfl rfl,Dp rfl rfl,Dn (.pickF (.t rfl) rfl .bool),Dn (.move (.t rfl)),Dp rfl rfl,Dp rfl rfl,Dp rfl rfl,Dn (.pickF (.t rfl) rfl .bool),Dn (.assign (.t rfl)),trivial⟩<|WN.seq ?_
   cases hm
   exact W.ret1 () rfl (.t rfl) trivial
 ·refine W.draw [.c _,.c (tB.is (decide (format.2=(0:Int)))),.c (tB.is (decide (format.2=(0:Int)))),.c _,.c _,.c (tB.is false),.c (tB.is false),.c _,.c _,.c (tB.is false),.c (tB.is false),.c _,.c _,.c (tB.is false),.c (tB.is false),.c _,.c _,.c _,.c (tB.is false),.c (tB.is false)] [([],[2]),([0],[]),([1],[]),([2],[1]),([2,3],[]),([2,4],[]),([5],[]),([6],[5]),([6,7],[]),([6,8],[]),([9],[]),([10],[4]),([10,11],[]),([10,12],[]),([13],[]),([14],[3]),([14],[]),([14,15,16],[]),([14,17],[]),([18],[])] Mx rfl rfl rfl rfl ⟨Dn (.move (.t rfl)),Dn (.eqI (.t rfl) .i64),Dn (.move (.t rfl)),Dp rfl hb4,Dp rfl hb4,Dn (.pickF (.t rfl) hb4 .bool),Dn (.move (.t rfl)),Dp rfl rfl,Dp rfl rfl,Dn (.pickF (.t rfl) rfl .bool),Dn (.move (.t rfl)),Dp rfl rfl,Dp rfl rfl,Dn (.pickF (.t rfl) rfl .bool),Dn (.move (.t rfl)),Dp rfl rfl,Dp rfl rfl,Dp rfl rfl,Dn (.pickF (.t rfl) rfl .bool),Dn (.assign (.t rfl)),trivial⟩<|WN.seq ?_
  cases hm
  exact W.ret1 () rfl (.t rfl) trivial
theorem law11_PlaintextParseFormat_spec(n:Nat)(s0_:Str)(r:Bool)(hm:M.law11_PlaintextParseFormat n s0_=some r):FSpecR Tryd.prog 3 [(tS.is s0_)] [(700000,Gl (tA 8 tS) 0 gv0),(700001,GlE 1),(700002,Gl (tA 8 (tL I6)) 2 gv2)] (fun _:Unit=>(tB.is r)) (fun _=>[]):=by
 unfold M.law11_PlaintextParseFormat at hm
 refine FSpecR.of Tryd.func3 rfl rfl rfl fun g0=>Aw<|Ao rfl (.assign .bool)<|An<|W.seq ?_
 obtain ⟨s1,hs2,hk3⟩:=Bs hm
 clear hm
 refine W.join (fun s:Bool=>s=s1) (fun s=>[(14,(tB.is s)),(0,(tS.is s0_))]) (fun s=>[(700000,Gl (tA 8 tS) 0 gv0),(700001,GlE 1),(700002,Gl (tA 8 (tL I6)) 2 gv2)]) ?_ ?_
 ·rintro v hj20
  try dsimp only at hj20
  subst hj20
  have hm:=hk3
  clear hk3
  try dsimp only at hm
  change W _ _ _ _ _ _ _ [(14,(tB.is v)),(0,(tS.is s0_))] [(700000,Gl (tA 8 tS) 0 gv0),(700001,GlE 1),(700002,Gl (tA 8 (tL I6)) 2 gv2)]
  refine W.cB hm (.t rfl) (fun hp8 hm=>?_) (fun hp8 hm=>?_)
  ·refine W.sr ?_
   obtain ⟨awake1,hv9,hm⟩:=Bs hm
   refine Ao rfl (.callG (rin:=[(700000,Gl (tA 8 tS) 0 gv0),(700001,GlE 1),(700002,Gl (tA 8 (tL I6)) 2 gv2)]) C4 (law11_awake_spec _ _ hv9) ⟨rfl,rfl,rfl,trivial⟩ ⟨rfl,rfl,⟨rfl,rfl,⟨rfl,rfl,trivial⟩⟩⟩ trivial)<|Ag rfl rfl<|WL.ns ?_
   cases hm
   exact W.ret1 () rfl (.t rfl) trivial
  ·refine W.skip<|Aq<|Aw<|WL.mv rfl rfl ?_
   obtain ⟨parse,hv10,hm⟩:=Bs hm
   refine Ao rfl (.callG (rin:=[(700000,Gl (tA 8 tS) 0 gv0),(700001,GlE 1),(700002,Gl (tA 8 (tL I6)) 2 gv2)]) C5 (plaintext_Parse_spec _ _ _ hv10) ⟨rfl,rfl,rfl,trivial⟩ ⟨rfl,rfl,⟨rfl,rfl,⟨rfl,rfl,trivial⟩⟩⟩ ⟨(.t rfl),trivial⟩)<|Am rfl rfl<|Ao rfl (.extract30 (.t rfl))<|Ao rfl (.extract31 (.t rfl))<|Ao rfl (.extract32 (.t rfl))<|WL.opR rfl (OpR.alloc 3 ze28) fun b=>WL.opU (OpR.storeB (b:=b) 3 Z28 (Cellable.is tapi_Unit parse.1) rfl (.t rfl) (.t rfl)) fun _=>WL.sealed (t:=tapi_Unit) (u:=parse.1) 3 3 rfl rfl<|Ag rfl rfl<|Ag rfl rfl<|An<|W.seq<|Aw<|Am rfl rfl<|Ao rfl (.neI (.t rfl) .i64)<|WL.ns ?_
   refine W.cD hm (.t rfl) (fun hp12 hm=>?_) (fun hp12 hm=>?_)
   ·refine Aw<|Ao rfl (.load ty28 (.t rfl))<|Ao rfl (.build (s:=tapi_Unit) (x:=(⟨zapi_Id,(0:Int),([]:Str),([]:List api_Word),([]:List api_Word),([]:List api_Unit)⟩:api_Unit)) zapi_Unit_f rfl U28 (zapi_Unit_sz _ U28) ze28 rfl) ?_
    obtain ⟨says,hv13,hm⟩:=Bs hm
    refine Ao rfl (.call C6 (r11_Says_spec _ _ _ _ hv13) ⟨(.t rfl),(.t rfl),trivial⟩)<|Ag rfl rfl<|WL.ns ?_
    cases hm
    exact W.ret1 () rfl (.t rfl) trivial
   ·refine W.skip<|Aq<|Aw<|Ao rfl (.load ty28 (.t rfl)) ?_
    obtain ⟨format,hv14,hm⟩:=Bs hm
    refine Ao rfl (.callG (rin:=[(700000,Gl (tA 8 tS) 0 gv0),(700002,Gl (tA 8 (tL I6)) 2 gv2)]) C7 (plaintext_Format_spec _ _ _ hv14) ⟨rfl,rfl,trivial⟩ ⟨rfl,rfl,⟨rfl,rfl,trivial⟩⟩ ⟨(.t rfl),trivial⟩)<|Am rfl rfl<|Ao rfl (.extract0 (.t rfl))<|Ao rfl (.extract1 (.t rfl))<|Ag rfl rfl<|Ag rfl rfl<|Ar<|Am rfl rfl<|Ao rfl (.eqI (.t rfl) .i64)<|WL.mv rfl rfl ?_
    rcases iteD hm with ⟨hp16,hb15,hm⟩ | ⟨hp16,hb15,hm⟩
    ·refine Ax rfl hb15 (.move (.t rfl))<|Ax rfl hb15 (.move (.t rfl))<|Ax rfl hb15 (.eqS (.t rfl) (.t rfl))<|Ao rfl (.pickT (.t rfl) hb15 (.t rfl))<|WL.mv rfl rfl ?_
     rcases iteB hm with ⟨hp18,hb17,hm⟩ | ⟨hp18,hb17,hm⟩
     ·refine Ax rfl hb17 (.load ty28 (.t rfl)) ?_
      obtain ⟨lines,hv19,hm⟩:=Bs hm
      refine Ax rfl hb17 (.callG (rin:=[(700000,Gl (tA 8 tS) 0 gv0),(700002,Gl (tA 8 (tL I6)) 2 gv2)]) C8 (plaintext_Lines_spec _ _ _ hv19) ⟨rfl,rfl,trivial⟩ ⟨rfl,rfl,⟨rfl,rfl,trivial⟩⟩ ⟨(.t rfl),trivial⟩)<|Ax rfl hb17 (.lenL U35 (.t rfl))<|Ax rfl hb17 (.move (.t rfl))<|Ax rfl hb17 (.eqI (.t rfl) (.t rfl))<|Ao rfl (.pickT (.t rfl) hb17 (.t rfl))<|Ag rfl rfl<|WL.ns ?_
      cases hm
      exact W.ret1 () rfl (.t rfl) trivial
     ·refine Ap rfl hb17<|Ap rfl hb17<|Ap rfl hb17<|Ap rfl hb17<|Ap rfl hb17<|Ao rfl (.pickF (.t rfl) hb17 .bool)<|Ag rfl rfl<|WL.ns ?_
      cases hm
      exact W.ret1 () rfl (.t rfl) trivial
    ·refine Ap rfl hb15<|Ap rfl hb15<|Ap rfl hb15<|Ao rfl (.pickF (.t rfl) hb15 .bool)<|Am rfl rfl<|Ap rfl rfl<|Ap rfl rfl<|Ap rfl rfl<|Ap rfl rfl<|Ap rfl rfl<|Ao rfl (.pickF (.t rfl) rfl .bool)<|Ag rfl rfl<|WL.ns ?_
     cases hm
     exact W.ret1 () rfl (.t rfl) trivial
 ·have hm:=hs2
  clear hs2
  refine W.region ?_
  obtain ⟨awake,hv4,hm⟩:=Bs hm
  refine Ao rfl (.callG (rin:=[(700000,Gl (tA 8 tS) 0 gv0),(700001,GlE 1),(700002,Gl (tA 8 (tL I6)) 2 gv2)]) C4 (law11_awake_spec _ _ hv4) ⟨rfl,rfl,rfl,trivial⟩ ⟨rfl,rfl,⟨rfl,rfl,⟨rfl,rfl,trivial⟩⟩⟩ trivial)<|Ao rfl (.notB (.t rfl))<|WL.mv rfl rfl ?_
  rcases iteR hm with ⟨hp6,hb5,hm⟩ | ⟨hp6,hb5,hm⟩
  ·exact Ap rfl hb5<|Ap rfl hb5<|Ap rfl hb5<|Ao rfl (.pickT (.t rfl) hb5 .bool)<|WL.nil<|WN.meet true (Si hm) ⟨.q rfl,.q rfl,trivial⟩ ⟨rfl,rfl,⟨rfl,rfl,⟨rfl,rfl,trivial⟩⟩⟩
  ·exact Ax rfl hb5 (.move (.t rfl))<|Ax rfl hb5 (.lenS U9 (.t rfl))<|Ax rfl hb5 (.gtI (.t rfl) .i64)<|Ao rfl (.pickF (.t rfl) hb5 (.t rfl))<|WL.nil<|WN.meet (decide ((6000:Int)< (s0_.length:Int))) (Si hm) ⟨.q rfl,.q rfl,trivial⟩ ⟨rfl,rfl,⟨rfl,rfl,⟨rfl,rfl,trivial⟩⟩⟩
end Go.Proofs.YtofaogkcifaioaaDoor
