/-
  The code does what the models say: written by program.
-/
import Derived.Test.YtofaogkcifaioaaGreatDoorWb
set_option linter.unusedVariables false
set_option linter.unusedSimpArgs false
namespace Go.Proofs.YtofaogkcifaioaaGreatDoor
open Go Go.Dec
set_option maxRecDepth 100000
set_option maxHeartbeats 4000000
theorem r11_words_spec(n:Nat)(l:List api_Word)(r:Str)(hm:M.r11_words n l=some r):FSpec Tryz.prog 43 [((tL tapi_Word).is l)] (tS.is r):=by
 unfold M.r11_words at hm
 refine FSpec.of Tryz.func43 rfl rfl rfl fun g0=>Aw<|Ao rfl (.assign (.str rfl (by decide)))<|Ar<|Ao rfl (.assign (.str rfl (by decide)))<|An<|W.seq<|Aw<|Ao rfl (.assign .i64)<|An<|W.block ?_
 obtain ⟨s1,hs2,hk3⟩:=Bs hm
 clear hm
 refine W.loop (fun m (s:Str×Int)=>M.r11_words_loop1 l m s.1 s.2=some s1) (fun s=>[(3,(tS.is s.1)),(4,(I6.is s.2)),(0,((tL tapi_Word).is l))]) (fun s=>[]) _ (([]:Str),(0:Int)) hs2 ⟨.q rfl,.q rfl,.q rfl,trivial⟩ trivial ?_
 rintro n4 ⟨s0_,i⟩ hm
 try dsimp only at hm
 change W _ _ _ _ _ _ _ [(3,(tS.is s0_)),(4,(I6.is i)),(0,((tL tapi_Word).is l))] []
 cases n4 with
 | zero=>rw [M.r11_words_loop1.eq_1] at hm;cases hm
 | succ n4=>
  rw [M.r11_words_loop1.eq_2] at hm
  refine W.seq<|Aw<|Am rfl rfl<|Am rfl rfl<|Ao rfl (.lenL U24 (.t rfl))<|Ao rfl (.ltI (.t rfl) (.t rfl))<|An<|W.cD hm (.t rfl) (fun hp6 hm=>?_) (fun hp6 hm=>?_)
  ·refine W.skip<|Aq<|W.seq<|W.block<|Aw<|Am rfl rfl<|WL.mv rfl rfl ?_
   obtain ⟨v,hv7,hm⟩:=Bs hm
   refine Ao rfl (.idx hv7 U24 Z68 (.t rfl) (.t rfl))<|Ao rfl (.fieldAddr U68 rfl J9 fapi_Word_0 (.t rfl))<|Ao rfl (.load ty9 (.t rfl))<|Ag rfl rfl<|An<|W.seq ?_
   obtain ⟨s8,hs9,hk10⟩:=Bs hm
   clear hm
   refine W.join (fun s:Bool=>s=s8) (fun s=>[(24,(tB.is s)),(0,((tL tapi_Word).is l)),(3,(tS.is s0_)),(4,(I6.is i)),(5,(tS.is v.Text))]) (fun s=>[]) ?_ ?_
   ·rintro v1 hj24
    try dsimp only at hj24
    subst hj24
    have hm:=hk10
    clear hk10
    try dsimp only at hm
    change W _ _ _ _ _ _ _ [(24,(tB.is v1)),(0,((tL tapi_Word).is l)),(3,(tS.is s0_)),(4,(I6.is i)),(5,(tS.is v.Text))] []
    refine W.cB hm (.t rfl) (fun hp16 hm=>?_) (fun hp16 hm=>?_)
    ·refine W.region<|WL.mv rfl rfl ?_
     obtain ⟨v2,hv17,hm⟩:=Bs hm
     refine Ao rfl (.catC hv17 (.str rfl (by decide)) (.t rfl))<|Ag rfl rfl<|WL.nr1<|WL.mv rfl rfl ?_
     obtain ⟨v3,hv18,hm⟩:=Bs hm
     refine Ao rfl (.catC hv18 (.t rfl) (.str rfl (by decide)))<|WL.mv rfl rfl ?_
     obtain ⟨v4,hv19,hm⟩:=Bs hm
     exact Ao rfl (.catC hv19 (.t rfl) (.t rfl))<|Ag rfl rfl<|WL.nil<|WN.block<|Aq<|W.region<|Am rfl rfl<|WL.lenL (s:=0) (.t rfl) fun hl20=>Ao rfl (.addI1 (.t rfl) .i64 hp6 hl20)<|Ag rfl rfl<|WL.nil<|WN.again n4 (v4,i+1) (Nat.lt_succ_self n4) hm ⟨.q rfl,.q rfl,.q rfl,trivial⟩ trivial
    ·refine W.skip<|Aq<|W.region<|WL.mv rfl rfl ?_
     obtain ⟨v5,hv21,hm⟩:=Bs hm
     refine Ao rfl (.catC hv21 (.t rfl) (.str rfl (by decide)))<|WL.mv rfl rfl ?_
     obtain ⟨v6,hv22,hm⟩:=Bs hm
     exact Ao rfl (.catC hv22 (.t rfl) (.t rfl))<|Ag rfl rfl<|WL.nil<|WN.block<|Aq<|W.region<|Am rfl rfl<|WL.lenL (s:=0) (.t rfl) fun hl23=>Ao rfl (.addI1 (.t rfl) .i64 hp6 hl23)<|Ag rfl rfl<|WL.nil<|WN.again n4 (v6,i+1) (Nat.lt_succ_self n4) hm ⟨.q rfl,.q rfl,.q rfl,trivial⟩ trivial
   ·have hm:=hs9
    clear hs9
    refine W.region<|WL.mv rfl rfl ?_
    obtain ⟨b,hv11,hm⟩:=Bs hm
    refine Ao rfl (.sidx hv11 U9 (.t rfl) .i64)<|Ao rfl (.eqI (.t rfl) (.int (inR8.2 (by omega))))<|WL.mv rfl rfl ?_
    rcases iteD hm with ⟨hp13,hb12,hm⟩ | ⟨hp13,hb12,hm⟩
    ·exact Ap rfl hb12<|Ap rfl hb12<|Ap rfl hb12<|Ao rfl (.pickT (.t rfl) hb12 .bool)<|WL.nil<|WN.meet true (Si hm) ⟨.q rfl,.q rfl,.q rfl,.q rfl,.q rfl,trivial⟩ trivial
    ·refine Ax rfl hb12 (.move (.t rfl)) ?_
     obtain ⟨b1,hv14,hm⟩:=Bs hm
     exact Ax rfl hb12 (.sidx hv14 U9 (.t rfl) .i64)<|Ax rfl hb12 (.eqI (.t rfl) (.int (inR8.2 (by omega))))<|Ao rfl (.pickF (.t rfl) hb12 (.t rfl))<|WL.nil<|WN.meet (decide ((b1.toNat:Int)=(92:Int))) (Si hm) ⟨.q rfl,.q rfl,.q rfl,.q rfl,.q rfl,trivial⟩ trivial
  ·refine W.exit rfl ?_
   have hr25:=Si hm
   clear hm
   subst hr25
   have hm:=hk3
   try dsimp only at hm
   refine Aq<|Aw<|Am rfl rfl<|Ag rfl rfl<|WL.ns ?_
   cases hm
   exact W.ret1 () rfl (.t rfl) trivial
theorem r11_Line_spec(n:Nat)(u:api_Unit)(depth:Int)(r:Str)(hm:M.r11_Line n u depth=some r):FSpec Tryz.prog 18 [(tapi_Unit.is u),(I6.is depth)] (tS.is r):=by
 unfold M.r11_Line at hm
 refine FSpec.of Tryz.func18 rfl rfl rfl fun g0=>Aw<|Ao rfl (.box (.t rfl))<|Ao rfl (.assign (.str rfl (by decide)))<|An<|W.seq ?_
 obtain ⟨s1,hs2,hk3⟩:=Bs hm
 clear hm
 refine W.join (fun s:Bool=>s=s1) (fun s=>[(17,(tB.is s)),(1,(I6.is depth)),(2,(tapi_Unit.ptr u))]) (fun s=>[]) ?_ ?_
 ·rintro v hj45
  try dsimp only at hj45
  subst hj45
  have hm:=hk3
  clear hk3
  try dsimp only at hm
  change W _ _ _ _ _ _ _ [(17,(tB.is v)),(1,(I6.is depth)),(2,(tapi_Unit.ptr u))] []
  refine W.cB hm (.t rfl) (fun hp10 hm=>?_) (fun hp10 hm=>?_)
  ·refine Aw<|Ao rfl (.assign (.str rfl (by decide)))<|WL.ns ?_
   cases hm
   exact W.ret1 () rfl (.t rfl) trivial
  ·refine W.skip<|Aq<|Aw<|Ao rfl (.assign (.str rfl (by decide)))<|An<|W.seq<|Aw<|Ao rfl (.assign .i64)<|An<|W.block ?_
   obtain ⟨s11,hs12,hk13⟩:=Bs hm
   clear hm
   refine W.loop (fun m (s:Str×Int)=>M.r11_Line_loop1 depth m s.1 s.2=some s11) (fun s=>[(5,(tS.is s.1)),(6,(I6.is s.2)),(1,(I6.is depth)),(2,(tapi_Unit.ptr u))]) (fun s=>[]) _ (([]:Str),(0:Int)) hs12 ⟨.q rfl,.q rfl,.q rfl,.q rfl,trivial⟩ trivial ?_
   rintro n14 ⟨s0_,i⟩ hm
   try dsimp only at hm
   change W _ _ _ _ _ _ _ [(5,(tS.is s0_)),(6,(I6.is i)),(1,(I6.is depth)),(2,(tapi_Unit.ptr u))] []
   cases n14 with
   | zero=>rw [M.r11_Line_loop1.eq_1] at hm;cases hm
   | succ n14=>
    rw [M.r11_Line_loop1.eq_2] at hm
    refine W.seq<|Aw<|Am rfl rfl<|Am rfl rfl<|Ao rfl (.ltI (.t rfl) (.t rfl))<|An<|W.cD hm (.t rfl) (fun hp16 hm=>?_) (fun hp16 hm=>?_)
    ·refine W.skip<|Aq<|W.seq<|W.block<|W.region<|WL.mv rfl rfl ?_
     obtain ⟨v1,hv17,hm⟩:=Bs hm
     refine Ao rfl (.catC hv17 (.t rfl) (.str rfl (by decide)))<|Ag rfl rfl<|WL.nil<|WN.block<|Aq<|W.region<|WL.mv rfl rfl ?_
     obtain ⟨v2,hv18,hm⟩:=Bs hm
     exact Ao rfl (.addC hv18 (.t rfl) .i64)<|Ag rfl rfl<|WL.nil<|WN.again n14 (v1,v2) (Nat.lt_succ_self n14) hm ⟨.q rfl,.q rfl,.q rfl,.q rfl,trivial⟩ trivial
    ·refine W.exit rfl ?_
     have hr19:=Si hm
     clear hm
     subst hr19
     have hm:=hk13
     try dsimp only at hm
     refine Aq<|W.seq ?_
     obtain ⟨names,hv20,hm⟩:=Bs hm
     obtain ⟨v3,hv21,hm⟩:=Bs hm
     obtain ⟨v4,hv22,hm⟩:=Bs hm
     refine W.draw [.c _,.c _,.c _,.c _,.c _,.c _,.c _,.c _] [([],[5]),([],[]),([],[2]),([2],[]),([1,3],[]),([4],[]),([0,5],[]),([6],[])] Mx rfl rfl rfl rfl ⟨Dn (.move (.t rfl)),Dn (.call C42 (r07_Names_spec _ hv20) trivial),Dn (.fieldAddr U27 rfl J3 fapi_Unit_1 (.t rfl)),Dn (.load ty3 (.t rfl)),Dn (.idx hv21 U47 Z9 (.t rfl) (.t rfl)),Dn (.load ty9 (.t rfl)),Dn (.catC hv22 (.t rfl) (.t rfl)),Dn (.assign (.t rfl)),trivial⟩<|WN.seq ?_
     obtain ⟨s23,hs24,hk25⟩:=Bs hm
     clear hm
     refine W.join (fun s:Str=>s=s23) (fun s=>[(5,(tS.is s)),(2,(tapi_Unit.ptr u))]) (fun s=>[]) ?_ ?_
     ·rintro s0_1 hj44
      try dsimp only at hj44
      subst hj44
      have hm:=hk25
      clear hk25
      try dsimp only at hm
      change W _ _ _ _ _ _ _ [(5,(tS.is s0_1)),(2,(tapi_Unit.ptr u))] []
      obtain ⟨s30,hs31,hk32⟩:=Bs hm
      clear hm
      refine W.join (fun s:Str=>s=s30) (fun s=>[(5,(tS.is s)),(2,(tapi_Unit.ptr u))]) (fun s=>[]) ?_ ?_
      ·rintro s0_2 hj43
       try dsimp only at hj43
       subst hj43
       have hm:=hk32
       clear hk32
       try dsimp only at hm
       change W _ _ _ _ _ _ _ [(5,(tS.is s0_2)),(2,(tapi_Unit.ptr u))] []
       refine W.seq<|Aw<|Ao rfl (.fieldAddr U27 rfl J24 fapi_Unit_4 (.t rfl))<|Ao rfl (.load ty24 (.t rfl))<|Ao rfl (.lenL U24 (.t rfl))<|Ao rfl (.gtI (.t rfl) .i64)<|An<|W.cD hm (.t rfl) (fun hp39 hm=>?_) (fun hp39 hm=>?_)
       ·refine W.region<|WL.mv rfl rfl ?_
        obtain ⟨v9,hv40,hm⟩:=Bs hm
        refine Ao rfl (.catC hv40 (.t rfl) (.str rfl (by decide)))<|Ao rfl (.fieldAddr U27 rfl J24 fapi_Unit_4 (.t rfl))<|Ao rfl (.load ty24 (.t rfl)) ?_
        obtain ⟨words1,hv41,hm⟩:=Bs hm
        refine Ao rfl (.call C43 (r11_words_spec _ _ _ hv41) ⟨(.t rfl),trivial⟩) ?_
        obtain ⟨v10,hv42,hm⟩:=Bs hm
        refine Ao rfl (.catC hv42 (.t rfl) (.t rfl))<|Ag rfl rfl<|Ar<|Am rfl rfl<|Ag rfl rfl<|WL.ns ?_
        cases hm
        exact W.ret1 () rfl (.t rfl) trivial
       ·refine W.skip<|Aq<|Aw<|Am rfl rfl<|Ag rfl rfl<|WL.ns ?_
        cases hm
        exact W.ret1 () rfl (.t rfl) trivial
      ·have hm:=hs31
       clear hs31
       refine Aw<|Ao rfl (.fieldAddr U27 rfl J24 fapi_Unit_3 (.t rfl))<|Ao rfl (.load ty24 (.t rfl))<|Ao rfl (.lenL U24 (.t rfl))<|Ao rfl (.gtI (.t rfl) .i64)<|An<|W.cD hm (.t rfl) (fun hp34 hm=>?_) (fun hp34 hm=>?_)
       ·refine W.region<|WL.mv rfl rfl ?_
        obtain ⟨v7,hv35,hm⟩:=Bs hm
        refine Ao rfl (.catC hv35 (.t rfl) (.str rfl (by decide)))<|Ao rfl (.fieldAddr U27 rfl J24 fapi_Unit_3 (.t rfl))<|Ao rfl (.load ty24 (.t rfl)) ?_
        obtain ⟨words,hv36,hm⟩:=Bs hm
        refine Ao rfl (.call C43 (r11_words_spec _ _ _ hv36) ⟨(.t rfl),trivial⟩) ?_
        obtain ⟨v8,hv37,hm⟩:=Bs hm
        exact Ao rfl (.catC hv37 (.t rfl) (.t rfl))<|Ag rfl rfl<|WL.nil<|WN.meet v8 (Si hm) ⟨.q rfl,.q rfl,trivial⟩ trivial
       ·exact W.skip<|WN.meet s0_1 (Si hm) ⟨.q rfl,.q rfl,trivial⟩ trivial
     ·have hm:=hs24
      clear hs24
      refine Aw<|Ao rfl (.fieldAddr U27 rfl J3 fapi_Unit_1 (.t rfl))<|Ao rfl (.load ty3 (.t rfl))<|Ao rfl (.neI (.t rfl) .i64)<|An<|W.cD hm (.t rfl) (fun hp27 hm=>?_) (fun hp27 hm=>?_)
      ·refine W.region<|WL.mv rfl rfl ?_
       obtain ⟨v5,hv28,hm⟩:=Bs hm
       refine Ao rfl (.catC hv28 (.t rfl) (.str rfl (by decide)))<|Ao rfl (.fieldAddr U27 rfl J9 fapi_Unit_2 (.t rfl))<|Ao rfl (.load ty9 (.t rfl)) ?_
       obtain ⟨v6,hv29,hm⟩:=Bs hm
       exact Ao rfl (.catC hv29 (.t rfl) (.t rfl))<|Ag rfl rfl<|WL.nil<|WN.meet v6 (Si hm) ⟨.q rfl,.q rfl,trivial⟩ trivial
      ·exact W.skip<|WN.meet v4 (Si hm) ⟨.q rfl,.q rfl,trivial⟩ trivial
 ·have hm:=hs2
  clear hs2
  refine W.region<|Am rfl rfl<|Ao rfl (.ltI (.t rfl) .i64)<|WL.mv rfl rfl ?_
  rcases iteD hm with ⟨hp5,hb4,hm⟩ | ⟨hp5,hb4,hm⟩
  ·exact Ap rfl hb4<|Ap rfl hb4<|Ao rfl (.pickT (.t rfl) hb4 .bool)<|Am rfl rfl<|Ap rfl rfl<|Ap rfl rfl<|Ap rfl rfl<|Ao rfl (.pickT (.t rfl) rfl .bool)<|WL.nil<|WN.meet true (Si hm) ⟨.q rfl,.q rfl,.q rfl,trivial⟩ trivial
  ·refine Ax rfl hb4 (.move (.t rfl))<|Ax rfl hb4 (.gtI (.t rfl) .i64)<|Ao rfl (.pickF (.t rfl) hb4 (.t rfl))<|WL.mv rfl rfl ?_
   rcases iteD hm with ⟨hp7,hb6,hm⟩ | ⟨hp7,hb6,hm⟩
   ·exact Ap rfl hb6<|Ap rfl hb6<|Ap rfl hb6<|Ao rfl (.pickT (.t rfl) hb6 .bool)<|WL.nil<|WN.meet true (Si hm) ⟨.q rfl,.q rfl,.q rfl,trivial⟩ trivial
   ·refine Ax rfl hb6 (.load ty27 (.t rfl)) ?_
    obtain ⟨alone,hv8,hm⟩:=Bs hm
    exact Ax rfl hb6 (.call C41 (r11_Alone_spec _ _ _ hv8) ⟨(.t rfl),trivial⟩)<|Ax rfl hb6 (.notB (.t rfl))<|Ao rfl (.pickF (.t rfl) hb6 (.t rfl))<|WL.nil<|WN.meet (!alone) (Si hm) ⟨.q rfl,.q rfl,.q rfl,trivial⟩ trivial
theorem r11_lines_spec:∀ (n:Nat) (u:api_Unit) (depth:Int) (r:(List Str)),M.r11_lines n u depth=some r→FSpec Tryz.prog 61 [(tapi_Unit.is u),(I6.is depth)] ((tL tS).is r):=by
 intro n
 induction n with
 | zero=>intro u depth r hm;cases hm
 | succ n ih=>
  intro u depth r hm
  rw [M.r11_lines.eq_2] at hm
  refine FSpec.of Tryz.func61 rfl rfl rfl fun g0=>Aw<|Ao rfl (.box (.t rfl))<|Ao rfl (.assign (.nil (t:=tS)))<|Ar<|Ao rfl (.load ty27 (.t rfl))<|WL.mv rfl rfl ?_
  obtain ⟨line,hv1,hm⟩:=Bs hm
  refine Ao rfl (.call C18 (r11_Line_spec _ _ _ _ hv1) ⟨(.t rfl),(.t rfl),trivial⟩)<|WL.opR rfl (OpR.buildSlice (n:=1) (ys:=[(0,line)]) (z:=([]:Str)) (xs:=[line]) 10 U47 el9 ze9 ⟨rfl,(.t rfl),trivial⟩ (by simp) (by decide) rfl) fun k=>Ag rfl rfl<|An<|W.seq<|Aw<|Ao rfl (.assign .i64)<|An<|W.block ?_
  obtain ⟨s2,hs3,hk4⟩:=Bs hm
  clear hm
  refine W.loop (fun m (s:((List Str)×Int)×Tok)=>M.r11_lines_loop1 u depth (M.r11_lines n) m s.1.1 s.1.2=some s2) (fun s=>[(5,(tO tS s.2 s.1.1)),(6,(I6.is s.1.2)),(1,(I6.is depth)),(2,(tapi_Unit.ptr u))]) (fun s=>[(10,Dec.Own tS 9 s.2 s.1.1.length)]) _ (([line],(0:Int)),k) hs3 ⟨.q rfl,.q rfl,.q rfl,.q rfl,trivial⟩ ⟨rfl,rfl,trivial⟩ ?_
  rintro n5 ⟨⟨out,i⟩,k1⟩ hm
  try dsimp only at hm
  change W _ _ _ _ _ _ _ [(5,(tO tS k1 out)),(6,(I6.is i)),(1,(I6.is depth)),(2,(tapi_Unit.ptr u))] [(10,Dec.Own tS 9 k1 out.length)]
  cases n5 with
  | zero=>rw [M.r11_lines_loop1.eq_1] at hm;cases hm
  | succ n5=>
   rw [M.r11_lines_loop1.eq_2] at hm
   refine W.seq<|Aw<|Am rfl rfl<|Ao rfl (.fieldAddr U27 rfl J25 fapi_Unit_5 (.t rfl))<|Ao rfl (.load ty25 (.t rfl))<|Ao rfl (.lenL U25 (.t rfl))<|Ao rfl (.ltI (.t rfl) (.t rfl))<|An<|W.cD hm (.t rfl) (fun hp7 hm=>?_) (fun hp7 hm=>?_)
   ·refine W.skip<|Aq<|W.seq<|W.block<|W.region<|Am rfl rfl<|Ao rfl (.fieldAddr U27 rfl J25 fapi_Unit_5 (.t rfl))<|Ao rfl (.load ty25 (.t rfl))<|WL.mv rfl rfl ?_
    obtain ⟨v,hv8,hm⟩:=Bs hm
    refine Ao rfl (.idx hv8 U25 Z27 (.t rfl) (.t rfl))<|Ao rfl (.load ty27 (.t rfl))<|WL.mv rfl rfl ?_
    obtain ⟨v1,hv9,hm⟩:=Bs hm
    refine Ao rfl (.addC hv9 (.t rfl) .i64) ?_
    obtain ⟨lines,hv10,hm⟩:=Bs hm
    refine Ao rfl (.call C61 (ih _ _ _ hv10) ⟨(.t rfl),(.t rfl),trivial⟩) ?_
    obtain ⟨out1,hv11,hm⟩:=Bs hm
    exact WL.opR rfl (OpR.appC (key:=10) hv11 U47 el9 (.t rfl) (.t rfl) rfl) fun k2=>Ag rfl rfl<|WL.nil<|WN.block<|Aq<|W.region<|Am rfl rfl<|WL.lenL (s:=13) (.t rfl) fun hl12=>Ao rfl (.addI1 (.t rfl) .i64 hp7 hl12)<|Ag rfl rfl<|WL.nil<|WN.again n5 ((out1,i+1),k2) (Nat.lt_succ_self n5) hm ⟨.q rfl,.q rfl,.q rfl,.q rfl,trivial⟩ ⟨rfl,rfl,trivial⟩
   ·refine W.exit rfl ?_
    have hr13:=Si hm
    clear hm
    subst hr13
    have hm:=hk4
    try dsimp only at hm
    refine Aq<|Aw<|Am rfl rfl<|Ag rfl rfl<|WL.ns ?_
    cases hm
    exact W.ret1 () rfl (Opd.own (.t rfl)) trivial
theorem r11_Lines_spec(n:Nat)(u:api_Unit)(r:(List Str))(hm:M.r11_Lines n u=some r):FSpec Tryz.prog 29 [(tapi_Unit.is u)] ((tL tS).is r):=by
 unfold M.r11_Lines at hm
 refine FSpec.of Tryz.func29 rfl rfl rfl fun g0=>Aw<|Ao rfl (.box (.t rfl))<|Ao rfl (.assign (.nil (t:=tS)))<|An<|W.seq<|Aw<|Ao rfl (.load ty27 (.t rfl)) ?_
 obtain ⟨shape,hv1,hm⟩:=Bs hm
 refine Ao rfl (.call C28 (r11_Shape_spec _ _ _ hv1) ⟨(.t rfl),trivial⟩)<|Ao rfl (.notB (.t rfl))<|An<|W.cR hm (.t rfl) (fun hp3 hm=>?_) (fun hp3 hm=>?_)
 ·refine Aw<|Ao rfl (.buildSlice (n:=0) (ys:=[]) (z:=([]:Str)) (xs:=([]:List Str)) U47 el9 ze9 trivial (by simp) (by decide) rfl)<|Ag rfl rfl<|WL.ns ?_
  cases hm
  exact W.ret1 () rfl (.t rfl) trivial
 ·refine W.skip<|Aq<|Aw<|Ao rfl (.load ty27 (.t rfl)) ?_
  obtain ⟨lines,hv4,hm⟩:=Bs hm
  refine Ao rfl (.call C61 (r11_lines_spec _ _ _ _ hv4) ⟨(.t rfl),.i64,trivial⟩)<|Ag rfl rfl<|WL.ns ?_
  cases hm
  exact W.ret1 () rfl (.t rfl) trivial
theorem r11_Text_spec(n:Nat)(u:api_Unit)(r:Str×Int)(hm:M.r11_Text n u=some r):FSpec Tryz.prog 12 [(tapi_Unit.is u)] (Asn.tuple2 (tS.is r.1) (I6.is r.2)):=by
 unfold M.r11_Text at hm
 refine FSpec.of Tryz.func12 rfl rfl rfl fun g0=>Aw<|Ao rfl (.box (.t rfl))<|Ao rfl (.assign (.str rfl (by decide)))<|Ao rfl (.assign .i64)<|An<|W.seq<|Aw<|Ao rfl (.load ty27 (.t rfl)) ?_
 obtain ⟨shape,hv1,hm⟩:=Bs hm
 refine Ao rfl (.call C28 (r11_Shape_spec _ _ _ hv1) ⟨(.t rfl),trivial⟩)<|Ao rfl (.notB (.t rfl))<|An<|W.cR hm (.t rfl) (fun hp3 hm=>?_) (fun hp3 hm=>?_)
 ·refine Aw<|Ao rfl (.assign (.str rfl (by decide)))<|Ao rfl (.assign .i64)<|WL.ns ?_
  cases hm
  exact W.ret2 () rfl rfl (.t rfl) (.t rfl) trivial
 ·refine W.skip<|Aq<|Aw<|Ao rfl (.load ty27 (.t rfl)) ?_
  obtain ⟨lines,hv4,hm⟩:=Bs hm
  refine Ao rfl (.call C29 (r11_Lines_spec _ _ _ hv4) ⟨(.t rfl),trivial⟩)<|Ag rfl rfl<|Ar<|Ao rfl (.assign (.str rfl (by decide)))<|An<|W.seq<|Aw<|Ao rfl (.assign .i64)<|An<|W.block ?_
  obtain ⟨s5,hs6,hk7⟩:=Bs hm
  clear hm
  refine W.loop (fun m (s:Str×Int)=>M.r11_Text_loop1 lines m s.1 s.2=some s5) (fun s=>[(5,(tS.is s.1)),(6,(I6.is s.2)),(4,((tL tS).is lines))]) (fun s=>[]) _ (([]:Str),(0:Int)) hs6 ⟨.q rfl,.q rfl,.q rfl,trivial⟩ trivial ?_
  rintro n8 ⟨s0_,i⟩ hm
  try dsimp only at hm
  change W _ _ _ _ _ _ _ [(5,(tS.is s0_)),(6,(I6.is i)),(4,((tL tS).is lines))] []
  cases n8 with
  | zero=>rw [M.r11_Text_loop1.eq_1] at hm;cases hm
  | succ n8=>
   rw [M.r11_Text_loop1.eq_2] at hm
   refine W.seq<|Aw<|Am rfl rfl<|Am rfl rfl<|Ao rfl (.lenL U47 (.t rfl))<|Ao rfl (.ltI (.t rfl) (.t rfl))<|An<|W.cD hm (.t rfl) (fun hp10 hm=>?_) (fun hp10 hm=>?_)
   ·refine W.skip<|Aq<|W.seq<|W.block<|W.region<|Am rfl rfl<|Am rfl rfl<|WL.mv rfl rfl ?_
    obtain ⟨v,hv11,hm⟩:=Bs hm
    refine Ao rfl (.idx hv11 U47 Z9 (.t rfl) (.t rfl))<|Ao rfl (.load ty9 (.t rfl)) ?_
    obtain ⟨v1,hv12,hm⟩:=Bs hm
    refine Ao rfl (.catC hv12 (.t rfl) (.t rfl)) ?_
    obtain ⟨v2,hv13,hm⟩:=Bs hm
    exact Ao rfl (.catC hv13 (.t rfl) (.str rfl (by decide)))<|Ag rfl rfl<|WL.nil<|WN.block<|Aq<|W.region<|Am rfl rfl<|WL.lenL (s:=4) (.t rfl) fun hl14=>Ao rfl (.addI1 (.t rfl) .i64 hp10 hl14)<|Ag rfl rfl<|WL.nil<|WN.again n8 (v2,i+1) (Nat.lt_succ_self n8) hm ⟨.q rfl,.q rfl,.q rfl,trivial⟩ trivial
   ·refine W.exit rfl ?_
    have hr15:=Si hm
    clear hm
    subst hr15
    have hm:=hk7
    try dsimp only at hm
    refine Aq<|W.seq<|Aw<|Am rfl rfl<|Ao rfl (.lenS U9 (.t rfl))<|Ao rfl (.gtI (.t rfl) .i64)<|An<|W.cD hm (.t rfl) (fun hp17 hm=>?_) (fun hp17 hm=>?_)
    ·refine Aw<|Ao rfl (.assign (.str rfl (by decide)))<|Ao rfl (.assign .i64)<|WL.ns ?_
     cases hm
     exact W.ret2 () rfl rfl (.t rfl) (.t rfl) trivial
    ·refine W.skip<|Aq<|Aw<|Am rfl rfl<|Ag rfl rfl<|Ao rfl (.assign .i64)<|WL.ns ?_
     cases hm
     exact W.ret2 () rfl rfl (.t rfl) (.t rfl) trivial
theorem law11_PlaintextFormat_spec(n:Nat)(u:api_Unit)(r:Bool)(hm:M.law11_PlaintextFormat n u=some r):FSpecR Tryz.prog 3 [(tapi_Unit.is u)] [(700000,Gl (tA 8 tS) 0 gv0),(700001,GlE 1),(700002,Gl (tA 8 (tL I6)) 2 gv2)] (fun _:Unit=>(tB.is r)) (fun _=>[]):=by
 unfold M.law11_PlaintextFormat at hm
 refine FSpecR.of Tryz.func3 rfl rfl rfl fun g0=>Aw<|Ao rfl (.box (.t rfl))<|Ao rfl (.assign .bool)<|An<|W.seq ?_
 obtain ⟨s1,hs2,hk3⟩:=Bs hm
 clear hm
 refine W.join (fun s:Bool=>s=s1) (fun s=>[(13,(tB.is s)),(1,(tapi_Unit.ptr u))]) (fun s=>[(700000,Gl (tA 8 tS) 0 gv0),(700001,GlE 1),(700002,Gl (tA 8 (tL I6)) 2 gv2)]) ?_ ?_
 ·rintro v hj15
  try dsimp only at hj15
  subst hj15
  have hm:=hk3
  clear hk3
  try dsimp only at hm
  change W _ _ _ _ _ _ _ [(13,(tB.is v)),(1,(tapi_Unit.ptr u))] [(700000,Gl (tA 8 tS) 0 gv0),(700001,GlE 1),(700002,Gl (tA 8 (tL I6)) 2 gv2)]
  refine W.cB hm (.t rfl) (fun hp9 hm=>?_) (fun hp9 hm=>?_)
  ·refine W.sr ?_
   obtain ⟨awake1,hv10,hm⟩:=Bs hm
   refine Ao rfl (.callG (rin:=[(700000,Gl (tA 8 tS) 0 gv0),(700001,GlE 1),(700002,Gl (tA 8 (tL I6)) 2 gv2)]) C9 (law11_awake_spec _ _ hv10) ⟨rfl,rfl,rfl,trivial⟩ ⟨rfl,rfl,⟨rfl,rfl,⟨rfl,rfl,trivial⟩⟩⟩ trivial)<|Ag rfl rfl<|WL.ns ?_
   cases hm
   exact W.ret1 () rfl (.t rfl) trivial
  ·refine W.skip<|Aq<|Aw<|Ao rfl (.load ty27 (.t rfl)) ?_
   obtain ⟨format,hv11,hm⟩:=Bs hm
   refine Ao rfl (.callG (rin:=[(700000,Gl (tA 8 tS) 0 gv0),(700002,Gl (tA 8 (tL I6)) 2 gv2)]) C11 (plaintext_Format_spec _ _ _ hv11) ⟨rfl,rfl,trivial⟩ ⟨rfl,rfl,⟨rfl,rfl,trivial⟩⟩ ⟨(.t rfl),trivial⟩)<|Am rfl rfl<|Ao rfl (.extract0 (.t rfl))<|Ao rfl (.extract1 (.t rfl))<|Ag rfl rfl<|Ag rfl rfl<|Ar<|Ao rfl (.load ty27 (.t rfl)) ?_
   obtain ⟨text,hv12,hm⟩:=Bs hm
   refine Ao rfl (.call C12 (r11_Text_spec _ _ _ hv12) ⟨(.t rfl),trivial⟩)<|Am rfl rfl<|Ao rfl (.extract0 (.t rfl))<|Ao rfl (.extract1 (.t rfl))<|Ag rfl rfl<|Ag rfl rfl<|Ar<|Am rfl rfl<|Am rfl rfl<|Ao rfl (.eqS (.t rfl) (.t rfl))<|WL.mv rfl rfl ?_
   rcases iteB hm with ⟨hp14,hb13,hm⟩ | ⟨hp14,hb13,hm⟩
   ·refine Ax rfl hb13 (.move (.t rfl))<|Ax rfl hb13 (.move (.t rfl))<|Ax rfl hb13 (.eqI (.t rfl) (.t rfl))<|Ao rfl (.pickT (.t rfl) hb13 (.t rfl))<|Ag rfl rfl<|WL.ns ?_
    cases hm
    exact W.ret1 () rfl (.t rfl) trivial
   ·refine Ap rfl hb13<|Ap rfl hb13<|Ap rfl hb13<|Ao rfl (.pickF (.t rfl) hb13 .bool)<|Ag rfl rfl<|WL.ns ?_
    cases hm
    exact W.ret1 () rfl (.t rfl) trivial
 ·have hm:=hs2
  clear hs2
  refine W.region ?_
  obtain ⟨awake,hv4,hm⟩:=Bs hm
  refine Ao rfl (.callG (rin:=[(700000,Gl (tA 8 tS) 0 gv0),(700001,GlE 1),(700002,Gl (tA 8 (tL I6)) 2 gv2)]) C9 (law11_awake_spec _ _ hv4) ⟨rfl,rfl,rfl,trivial⟩ ⟨rfl,rfl,⟨rfl,rfl,⟨rfl,rfl,trivial⟩⟩⟩ trivial)<|Ao rfl (.notB (.t rfl))<|WL.mv rfl rfl ?_
  rcases iteR hm with ⟨hp6,hb5,hm⟩ | ⟨hp6,hb5,hm⟩
  ·exact Ap rfl hb5<|Ap rfl hb5<|Ap rfl hb5<|Ao rfl (.pickT (.t rfl) hb5 .bool)<|WL.nil<|WN.meet true (Si hm) ⟨.q rfl,.q rfl,trivial⟩ ⟨rfl,rfl,⟨rfl,rfl,⟨rfl,rfl,trivial⟩⟩⟩
  ·refine Ax rfl hb5 (.load ty27 (.t rfl)) ?_
   obtain ⟨few,hv7,hm⟩:=Bs hm
   exact Ax rfl hb5 (.call C10 (law11_few_spec _ _ _ hv7) ⟨(.t rfl),trivial⟩)<|Ax rfl hb5 (.notB (.t rfl))<|Ao rfl (.pickF (.t rfl) hb5 (.t rfl))<|WL.nil<|WN.meet (!few) (Si hm) ⟨.q rfl,.q rfl,trivial⟩ ⟨rfl,rfl,⟨rfl,rfl,⟨rfl,rfl,trivial⟩⟩⟩
theorem r07_Cut_spec(n:Nat)(s0_:Str)(r:(List Str))(hm:M.r07_Cut n s0_=some r):FSpec Tryz.prog 50 [(tS.is s0_)] ((tL tS).is r):=by
 unfold M.r07_Cut at hm
 refine FSpec.of Tryz.func50 rfl rfl rfl fun g0=>Aw<|Ao rfl (.assign (.nil (t:=tS)))<|Ar<|WL.opR rfl (OpR.buildSlice (n:=0) (ys:=[]) (z:=([]:Str)) (xs:=([]:List Str)) 6 U47 el9 ze9 trivial (by simp) (by decide) rfl) fun k=>Ag rfl rfl<|Ar<|Ao rfl (.assign .i64)<|An<|W.seq<|Aw<|Ao rfl (.assign .i64)<|An<|W.block ?_
 obtain ⟨s1,hs2,hk3⟩:=Bs hm
 clear hm
 refine W.loop (fun m (s:((List Str)×Int×Int)×Tok)=>M.r07_Cut_loop1 s0_ m s.1.1 s.1.2.1 s.1.2.2=some s1) (fun s=>[(3,(tO tS s.2 s.1.1)),(4,(I6.is s.1.2.1)),(5,(I6.is s.1.2.2)),(0,(tS.is s0_))]) (fun s=>[(6,Dec.Own tS 9 s.2 s.1.1.length)]) _ ((([]:List Str),(0:Int),(0:Int)),k) hs2 ⟨.q rfl,.q rfl,.q rfl,.q rfl,trivial⟩ ⟨rfl,rfl,trivial⟩ ?_
 rintro n4 ⟨⟨out,from0_,i⟩,k1⟩ hm
 try dsimp only at hm
 change W _ _ _ _ _ _ _ [(3,(tO tS k1 out)),(4,(I6.is from0_)),(5,(I6.is i)),(0,(tS.is s0_))] [(6,Dec.Own tS 9 k1 out.length)]
 cases n4 with
 | zero=>rw [M.r07_Cut_loop1.eq_1] at hm;cases hm
 | succ n4=>
  rw [M.r07_Cut_loop1.eq_2] at hm
  refine W.seq<|Aw<|Am rfl rfl<|Am rfl rfl<|Ao rfl (.lenS U9 (.t rfl))<|Ao rfl (.leI (.t rfl) (.t rfl))<|An<|W.cD hm (.t rfl) (fun hp6 hm=>?_) (fun hp6 hm=>?_)
  ·refine W.skip<|Aq<|W.seq<|W.block ?_
   obtain ⟨s7,hs8,hk9⟩:=Bs hm
   clear hm
   refine W.join (fun s:Bool=>s=s7) (fun s=>[(22,(tB.is s)),(0,(tS.is s0_)),(3,(tO tS k1 out)),(4,(I6.is from0_)),(5,(I6.is i))]) (fun s=>[(6,Dec.Own tS 9 k1 out.length)]) ?_ ?_
   ·rintro v hj20
    try dsimp only at hj20
    subst hj20
    have hm:=hk9
    clear hk9
    try dsimp only at hm
    change W _ _ _ _ _ _ _ [(22,(tB.is v)),(0,(tS.is s0_)),(3,(tO tS k1 out)),(4,(I6.is from0_)),(5,(I6.is i))] [(6,Dec.Own tS 9 k1 out.length)]
    refine W.cB hm (.t rfl) (fun hp14 hm=>?_) (fun hp14 hm=>?_)
    ·refine Aw<|Am rfl rfl<|Am rfl rfl<|Am rfl rfl<|WL.mv rfl rfl ?_
     obtain ⟨v1,hv15,hm⟩:=Bs hm
     refine Ao rfl (.sslc hv15 U9 (.t rfl) (.t rfl) (.t rfl))<|Ao rfl (.buildSlice (n:=1) (ys:=[(0,v1)]) (z:=([]:Str)) (xs:=[v1]) U47 el9 ze9 ⟨rfl,(.t rfl),trivial⟩ (by simp) (by decide) rfl) ?_
     obtain ⟨out1,hv16,hm⟩:=Bs hm
     refine WL.opR rfl (OpR.appC (key:=6) hv16 U47 el9 (.t rfl) (.t rfl) rfl) fun k2=>Ag rfl rfl<|WL.nr1<|WL.mv rfl rfl ?_
     obtain ⟨v2,hv17,hm⟩:=Bs hm
     refine Ao rfl (.addC hv17 (.t rfl) .i64)<|Ag rfl rfl<|WL.nil<|WN.block<|Aq<|W.region<|WL.mv rfl rfl ?_
     obtain ⟨v3,hv18,hm⟩:=Bs hm
     exact Ao rfl (.addC hv18 (.t rfl) .i64)<|Ag rfl rfl<|WL.nil<|WN.again n4 ((out1,v2,v3),k2) (Nat.lt_succ_self n4) hm ⟨.q rfl,.q rfl,.q rfl,.q rfl,trivial⟩ ⟨rfl,rfl,trivial⟩
    ·refine W.skip<|WN.block<|Aq<|W.region<|WL.mv rfl rfl ?_
     obtain ⟨v4,hv19,hm⟩:=Bs hm
     exact Ao rfl (.addC hv19 (.t rfl) .i64)<|Ag rfl rfl<|WL.nil<|WN.again n4 ((out,from0_,v4),k1) (Nat.lt_succ_self n4) hm ⟨.q rfl,.q rfl,.q rfl,.q rfl,trivial⟩ ⟨rfl,rfl,trivial⟩
   ·have hm:=hs8
    clear hs8
    refine W.region<|Am rfl rfl<|Am rfl rfl<|Ao rfl (.lenS U9 (.t rfl))<|Ao rfl (.eqI (.t rfl) (.t rfl))<|WL.mv rfl rfl ?_
    rcases iteD hm with ⟨hp11,hb10,hm⟩ | ⟨hp11,hb10,hm⟩
    ·exact Ap rfl hb10<|Ap rfl hb10<|Ap rfl hb10<|Ap rfl hb10<|Ao rfl (.pickT (.t rfl) hb10 .bool)<|WL.nil<|WN.meet true (Si hm) ⟨.q rfl,.q rfl,.q rfl,.q rfl,.q rfl,trivial⟩ ⟨rfl,rfl,trivial⟩
    ·refine Ax rfl hb10 (.move (.t rfl))<|Ax rfl hb10 (.move (.t rfl)) ?_
     obtain ⟨b,hv12,hm⟩:=Bs hm
     exact Ax rfl hb10 (.sidx hv12 U9 (.t rfl) (.t rfl))<|Ax rfl hb10 (.eqI (.t rfl) (.int (inR8.2 (by omega))))<|Ao rfl (.pickF (.t rfl) hb10 (.t rfl))<|WL.nil<|WN.meet (decide ((b.toNat:Int)=(32:Int))) (Si hm) ⟨.q rfl,.q rfl,.q rfl,.q rfl,.q rfl,trivial⟩ ⟨rfl,rfl,trivial⟩
  ·refine W.exit rfl ?_
   have hr21:=Si hm
   clear hm
   subst hr21
   have hm:=hk3
   try dsimp only at hm
   refine Aq<|Aw<|Am rfl rfl<|Ag rfl rfl<|WL.ns ?_
   cases hm
   exact W.ret1 () rfl (Opd.own (.t rfl)) trivial
theorem r07_Kind_spec(n:Nat)(s0_:Str)(r:Int)(hm:M.r07_Kind n s0_=some r):FSpec Tryz.prog 51 [(tS.is s0_)] (I6.is r):=by
 unfold M.r07_Kind at hm
 refine FSpec.of Tryz.func51 rfl rfl rfl fun g0=>Aw<|Ao rfl (.assign .i64)<|An<|W.seq<|Aw<|Ao rfl (.assign .i64)<|An<|W.block ?_
 obtain ⟨s1,hs2,hk3⟩:=Bs hm
 clear hm
 refine W.loop (fun m (s:Int)=>M.r07_Kind_loop1 s0_ m s=some s1) (fun s=>[(3,(I6.is s)),(0,(tS.is s0_))]) (fun s=>[]) _ (0:Int) hs2 ⟨.q rfl,.q rfl,trivial⟩ trivial ?_
 rintro n4 i hm
 try dsimp only at hm
 change W _ _ _ _ _ _ _ [(3,(I6.is i)),(0,(tS.is s0_))] []
 cases n4 with
 | zero=>rw [M.r07_Kind_loop1.eq_1] at hm;cases hm
 | succ n4=>
  rw [M.r07_Kind_loop1.eq_2] at hm
  refine W.seq<|Aw<|Am rfl rfl<|Ao rfl (.ltI (.t rfl) .i64)<|An<|W.cD hm (.t rfl) (fun hp6 hm=>?_) (fun hp6 hm=>?_)
  ·refine W.skip<|Aq<|W.seq<|W.block<|W.sr ?_
   obtain ⟨names,hv7,hm⟩:=Bs hm
   refine Ao rfl (.call C42 (r07_Names_spec _ hv7) trivial)<|WL.mv rfl rfl ?_
   obtain ⟨v,hv8,hm⟩:=Bs hm
   refine Ao rfl (.idx hv8 U47 Z9 (.t rfl) (.t rfl))<|Ao rfl (.load ty9 (.t rfl))<|Am rfl rfl<|Ao rfl (.eqS (.t rfl) (.t rfl))<|An<|W.cB hm (.t rfl) (fun hp10 hm=>?_) (fun hp10 hm=>?_)
   ·refine Aw<|Am rfl rfl<|Ag rfl rfl<|WL.ns ?_
    have hr11:=Si hm
    clear hm
    subst hr11
    have hm:=hk3
    try dsimp only at hm
    cases hm
    exact W.ret1 () rfl (.t rfl) trivial
   ·refine W.skip<|WN.block<|Aq<|W.region<|WL.mv rfl rfl ?_
    obtain ⟨v1,hv12,hm⟩:=Bs hm
    exact Ao rfl (.addC hv12 (.t rfl) .i64)<|Ag rfl rfl<|WL.nil<|WN.again n4 v1 (Nat.lt_succ_self n4) hm ⟨.q rfl,.q rfl,trivial⟩ trivial
  ·refine W.exit rfl ?_
   have hr13:=Si hm
   clear hm
   subst hr13
   have hm:=hk3
   try dsimp only at hm
   refine Aq<|Aw<|Ao rfl (.assign .i64)<|WL.ns ?_
   cases hm
   exact W.ret1 () rfl (.t rfl) trivial
theorem r11_take_spec(n:Nat)(w:List Str)(r:(List api_Word)×(List Str)×Bool)(hm:M.r11_take n w=some r):FSpec Tryz.prog 52 [((tL tS).is w)] (Asn.tuple3 ((tL tapi_Word).is r.1) ((tL tS).is r.2.1) (tB.is r.2.2)):=by
 unfold M.r11_take at hm
 refine FSpec.of Tryz.func52 rfl rfl rfl fun g0=>Aw<|Ao rfl (.assign (.nil (t:=tapi_Word)))<|Ao rfl (.assign (.nil (t:=tS)))<|Ao rfl (.assign .bool)<|Ar<|WL.opR rfl (OpR.buildSlice (n:=0) (ys:=[]) (z:=zapi_Word) (xs:=([]:List api_Word)) 8 U24 el68 ze68 trivial (by simp) (by decide) rfl) fun k=>Ag rfl rfl<|An<|W.seq<|Aw<|Ao rfl (.assign .i64)<|An<|W.block ?_
 obtain ⟨s1,hs2,hk3⟩:=Bs hm
 clear hm
 refine W.loop (fun m (s:((List api_Word)×Int)×Tok)=>M.r11_take_loop1 w m s.1.1 s.1.2=some s1) (fun s=>[(5,(tO tapi_Word s.2 s.1.1)),(6,(I6.is s.1.2)),(0,((tL tS).is w))]) (fun s=>[(8,Dec.Own tapi_Word 68 s.2 s.1.1.length)]) _ ((([]:List api_Word),(0:Int)),k) hs2 ⟨.q rfl,.q rfl,.q rfl,trivial⟩ ⟨rfl,rfl,trivial⟩ ?_
 rintro n4 ⟨⟨out,i⟩,k1⟩ hm
 try dsimp only at hm
 change W _ _ _ _ _ _ _ [(5,(tO tapi_Word k1 out)),(6,(I6.is i)),(0,((tL tS).is w))] [(8,Dec.Own tapi_Word 68 k1 out.length)]
 cases n4 with
 | zero=>rw [M.r11_take_loop1.eq_1] at hm;cases hm
 | succ n4=>
  rw [M.r11_take_loop1.eq_2] at hm
  refine W.seq<|Aw<|Am rfl rfl<|Am rfl rfl<|Ao rfl (.lenL U47 (.t rfl))<|Ao rfl (.ltI (.t rfl) (.t rfl))<|An<|W.cD hm (.t rfl) (fun hp6 hm=>?_) (fun hp6 hm=>?_)
  ·refine W.skip<|Aq<|W.seq<|W.block<|Aw<|Am rfl rfl<|WL.mv rfl rfl ?_
   obtain ⟨v,hv7,hm⟩:=Bs hm
   refine Ao rfl (.idx hv7 U47 Z9 (.t rfl) (.t rfl))<|Ao rfl (.load ty9 (.t rfl))<|Ag rfl rfl<|An<|W.seq<|Aw<|Am rfl rfl<|Ao rfl (.eqS (.t rfl) (.str rfl (by decide)))<|An<|W.cB hm (.t rfl) (fun hp9 hm=>?_) (fun hp9 hm=>?_)
   ·refine W.seq ?_
    obtain ⟨v1,hv10,hm⟩:=Bs hm
    refine W.draw [.c _,.c _,.c _,.c _,.c _,.c _,.c _] [([],[5]),([],[0]),([],[6]),([1,2],[]),([0],[]),([3],[]),([],[])] Mx rfl rfl rfl rfl ⟨Dn (.move (.t rfl)),Dn (.move (.t rfl)),Dn (.move (.t rfl)),Dn (.slcLo hv10 U47 Z9 (.t rfl) (.t rfl)),Dn (.assign (.t rfl)),Dn (.assign (.t rfl)),Dn (.assign .bool),trivial⟩<|WN.seq ?_
    have hr11:=Si hm
    clear hm
    subst hr11
    have hm:=hk3
    try dsimp only at hm
    cases hm
    exact W.ret3 () rfl rfl (Opd.own (.t rfl)) (.t rfl) (.t rfl) trivial
   ·refine W.skip<|WN.seq ?_
    obtain ⟨s12,hs13,hk14⟩:=Bs hm
    clear hm
    refine W.join (fun s:Str=>s=s12) (fun s=>[(7,(tS.is s)),(0,((tL tS).is w)),(5,(tO tapi_Word k1 out)),(6,(I6.is i))]) (fun s=>[(8,Dec.Own tapi_Word 68 k1 out.length)]) ?_ ?_
    ·rintro t hj23
     try dsimp only at hj23
     subst hj23
     have hm:=hk14
     clear hk14
     try dsimp only at hm
     change W _ _ _ _ _ _ _ [(7,(tS.is t)),(0,((tL tS).is w)),(5,(tO tapi_Word k1 out)),(6,(I6.is i))] [(8,Dec.Own tapi_Word 68 k1 out.length)]
     refine W.region<|Am rfl rfl<|Am rfl rfl<|Ao rfl (.build (s:=tapi_Word) (x:=(⟨t,zapi_Mark⟩:api_Word)) zapi_Word_f rfl U68 (zapi_Word_sz _ U68) ze68 ⟨_,tS,t,_,_,rfl,Z9,(.t rfl),sapi_Word_0,rfl⟩)<|Ao rfl (.buildSlice (n:=1) (ys:=[(0,(⟨t,zapi_Mark⟩:api_Word))]) (z:=zapi_Word) (xs:=[(⟨t,zapi_Mark⟩:api_Word)]) U24 el68 ze68 ⟨rfl,(.t rfl),trivial⟩ (by simp) (by decide) rfl) ?_
     obtain ⟨out1,hv21,hm⟩:=Bs hm
     exact WL.opR rfl (OpR.appC (key:=8) hv21 U24 el68 (.t rfl) (.t rfl) rfl) fun k2=>Ag rfl rfl<|WL.nil<|WN.block<|Aq<|W.region<|Am rfl rfl<|WL.lenL (s:=0) (.t rfl) fun hl22=>Ao rfl (.addI1 (.t rfl) .i64 hp6 hl22)<|Ag rfl rfl<|WL.nil<|WN.again n4 ((out1,i+1),k2) (Nat.lt_succ_self n4) hm ⟨.q rfl,.q rfl,.q rfl,trivial⟩ ⟨rfl,rfl,trivial⟩
    ·have hm:=hs13
     clear hs13
     refine Aw<|Am rfl rfl<|Ao rfl (.lenS U9 (.t rfl))<|Ao rfl (.gtI (.t rfl) .i64)<|WL.mv rfl rfl ?_
     rcases iteD hm with ⟨hp16,hb15,hm⟩ | ⟨hp16,hb15,hm⟩
     ·refine Ax rfl hb15 (.move (.t rfl)) ?_
      obtain ⟨b,hv17,hm⟩:=Bs hm
      refine Ax rfl hb15 (.sidx hv17 U9 (.t rfl) .i64)<|Ax rfl hb15 (.eqI (.t rfl) (.int (inR8.2 (by omega))))<|Ao rfl (.pickT (.t rfl) hb15 (.t rfl))<|An<|W.cD hm (.t rfl) (fun hp19 hm=>?_) (fun hp19 hm=>?_)
      ·refine W.region<|WL.mv rfl rfl ?_
       obtain ⟨v2,hv20,hm⟩:=Bs hm
       exact Ao rfl (.sslcLo hv20 U9 (.t rfl) .i64)<|Ag rfl rfl<|WL.nil<|WN.meet v2 (Si hm) ⟨.q rfl,.q rfl,.q rfl,.q rfl,trivial⟩ ⟨rfl,rfl,trivial⟩
      ·exact W.skip<|WN.meet v (Si hm) ⟨.q rfl,.q rfl,.q rfl,.q rfl,trivial⟩ ⟨rfl,rfl,trivial⟩
     ·exact Ap rfl hb15<|Ap rfl hb15<|Ap rfl hb15<|Ao rfl (.pickF (.t rfl) hb15 .bool)<|An<|W.condF (.t rfl)<|W.skip<|WN.meet v (Si hm) ⟨.q rfl,.q rfl,.q rfl,.q rfl,trivial⟩ ⟨rfl,rfl,trivial⟩
  ·refine W.exit rfl ?_
   have hr24:=Si hm
   clear hm
   subst hr24
   have hm:=hk3
   try dsimp only at hm
   refine Aq<|Aw<|Am rfl rfl<|Ag rfl rfl<|Ao rfl (.assign (.nil (t:=tS)))<|Ao rfl (.assign .bool)<|WL.ns ?_
   cases hm
   exact W.ret3 () rfl rfl (Opd.own (.t rfl)) (.t rfl) (.t rfl) trivial
theorem r11_Read_spec(n:Nat)(s0_:Str)(r:api_Unit×Int×Bool)(hm:M.r11_Read n s0_=some r):FSpec Tryz.prog 20 [(tS.is s0_)] (Asn.tuple3 ((tapi_Unit_k5 none).is r.1) (I6.is r.2.1) (tB.is r.2.2)):=by
 unfold M.r11_Read at hm
 refine FSpec.of Tryz.func20 rfl rfl rfl fun g0=>Aw<|WL.opR rfl (OpR.alloc 2 zeapi_Unit_k5) fun b=>Ao rfl (.assign .i64)<|Ao rfl (.assign .bool)<|Ar<|Ao rfl (.assign .i64)<|An<|W.seq<|W.block ?_
 obtain ⟨s1,hs2,hk3⟩:=Bs hm
 clear hm
 refine W.loop (fun m (s:Int)=>M.r11_Read_loop1 s0_ m s=some s1) (fun s=>[(5,(I6.is s)),(0,(tS.is s0_)),(2,(Bp b 0))]) (fun s=>[(2,(Bx 8 true 27 ((tapi_Unit_k5 none).is zapi_Unit) b))]) _ (0:Int) hs2 ⟨.q rfl,.q rfl,.q rfl,trivial⟩ ⟨rfl,rfl,trivial⟩ ?_
 rintro n4 n0_ hm
 try dsimp only at hm
 change W _ _ _ _ _ _ _ [(5,(I6.is n0_)),(0,(tS.is s0_)),(2,(Bp b 0))] [(2,(Bx 8 true 27 ((tapi_Unit_k5 none).is zapi_Unit) b))]
 cases n4 with
 | zero=>rw [M.r11_Read_loop1.eq_1] at hm;cases hm
 | succ n4=>
  rw [M.r11_Read_loop1.eq_2] at hm
  refine W.seq<|Aw<|Am rfl rfl<|Am rfl rfl<|Ao rfl (.lenS U9 (.t rfl))<|Ao rfl (.ltI (.t rfl) (.t rfl))<|WL.mv rfl rfl ?_
  rcases iteD hm with ⟨hp6,hb5,hm⟩ | ⟨hp6,hb5,hm⟩
  ·refine Ax rfl hb5 (.move (.t rfl))<|Ax rfl hb5 (.move (.t rfl)) ?_
   obtain ⟨b1,hv7,hm⟩:=Bs hm
   refine Ax rfl hb5 (.sidx hv7 U9 (.t rfl) (.t rfl))<|Ax rfl hb5 (.eqI (.t rfl) (.int (inR8.2 (by omega))))<|Ao rfl (.pickT (.t rfl) hb5 (.t rfl))<|An<|W.cD hm (.t rfl) (fun hp9 hm=>?_) (fun hp9 hm=>?_)
   ·exact W.skip<|Aq<|W.block<|W.region<|Am rfl rfl<|WL.lenS (s:=0) (.t rfl) fun hl10=>Ao rfl (.addI1 (.t rfl) .i64 hp6 hl10)<|Ag rfl rfl<|WL.nil<|WN.block<|WN.again n4 (n0_+1) (Nat.lt_succ_self n4) hm ⟨.q rfl,.q rfl,.q rfl,trivial⟩ ⟨rfl,rfl,trivial⟩
   ·refine W.exit rfl ?_
    have hr11:=Si hm
    clear hm
    subst hr11
    have hm:=hk3
    try dsimp only at hm
    refine Aq<|Aw<|Am rfl rfl<|WL.mv rfl rfl ?_
    obtain ⟨v,hv12,hm⟩:=Bs hm
    refine Ao rfl (.sslcLo hv12 U9 (.t rfl) (.t rfl)) ?_
    obtain ⟨cut,hv13,hm⟩:=Bs hm
    refine Ao rfl (.call C50 (r07_Cut_spec _ _ _ hv13) ⟨(.t rfl),trivial⟩)<|Ag rfl rfl<|Ar<|Ao rfl (.build (s:=(tapi_Unit_k5 none)) (x:=(⟨zapi_Id,(0:Int),([]:Str),([]:List api_Word),([]:List api_Word),([]:List api_Unit)⟩:api_Unit)) zapi_Unit_f rfl U27 (zapi_Unit_sz _ U27) zeapi_Unit_k5 rfl)<|WL.opR rfl (OpR.alloc 7 zeapi_Unit_k5) fun b2=>WL.opU (OpR.storeB (b:=b2) 7 Z27 (Cellable.is (tapi_Unit_k5 none) (⟨zapi_Id,(0:Int),([]:Str),([]:List api_Word),([]:List api_Word),([]:List api_Unit)⟩:api_Unit)) rfl (.t rfl) (.t rfl)) fun _=>Ar<|Ao rfl (.assign .bool)<|Ar<|Ao rfl (.assign .i64)<|Ar<|WL.mv rfl rfl ?_
    obtain ⟨v1,hv14,hm⟩:=Bs hm
    refine Ao rfl (.idx hv14 U47 Z9 (.t rfl) .i64)<|Ao rfl (.load ty9 (.t rfl)) ?_
    obtain ⟨kind,hv15,hm⟩:=Bs hm
    refine Ao rfl (.call C51 (r07_Kind_spec _ _ _ hv15) ⟨(.t rfl),trivial⟩)<|Ao rfl (.fieldAddrB (o:=0) U27 rfl J3 (.t rfl) rfl)<|WL.opU (OpR.storeBF (b:=b2) 7 rfl ty3 (sapi_Unit_k5_1 none) rfl (show 3+1≤8 by decide) (.t rfl) (.t rfl)) fun _=>An<|W.seq<|Aw<|Ao rfl (.fieldAddrB (o:=0) U27 rfl J3 (.t rfl) rfl)<|Ao rfl (.loadBF 7 rfl ty3 (fapi_Unit_k5_1 none) rfl (.t rfl))<|Ao rfl (.ltI (.t rfl) .i64)<|An<|W.cD hm (.t rfl) (fun hp17 hm=>?_) (fun hp17 hm=>?_)
    ·refine Aw<|Ao rfl (.build (s:=(tapi_Unit_k5 none)) (x:=(⟨zapi_Id,(0:Int),([]:Str),([]:List api_Word),([]:List api_Word),([]:List api_Unit)⟩:api_Unit)) zapi_Unit_f rfl U27 (zapi_Unit_sz _ U27) zeapi_Unit_k5 rfl)<|WL.opU (OpR.storeB (b:=b) 2 Z27 (Cellable.is (tapi_Unit_k5 none) (⟨zapi_Id,(0:Int),([]:Str),([]:List api_Word),([]:List api_Word),([]:List api_Unit)⟩:api_Unit)) rfl (.t rfl) (.t rfl)) fun _=>Ao rfl (.assign .i64)<|Ao rfl (.assign .bool)<|WL.ns ?_
     cases hm
     exact W.retQ3 () rfl rfl (ResAt.cell 2 Y27 Z27 rfl (.t rfl)) (ResAt.tmp (.t rfl)) (ResAt.tmp (.t rfl)) trivial
    ·refine W.skip<|WN.seq ?_
     obtain ⟨s18,hs19,hk20⟩:=Bs hm
     clear hm
     refine W.join (fun s:Bool×Int×api_Unit×api_Unit=>(Sum.inl s:(Bool×Int×api_Unit×api_Unit) ⊕ (api_Unit×Int×Bool))=s18) (fun s=>[(8,(tB.is s.1)),(9,(I6.is s.2.1)),(0,(tS.is s0_)),(2,(Bp b 0)),(5,(I6.is n0_)),(6,((tL tS).is cut)),(7,(Bp b2 0))]) (fun s=>[(2,(Bx 8 true 27 ((tapi_Unit_k5 none).is s.2.2.1) b)),(7,(Bx 8 true 27 ((tapi_Unit_k5 none).is s.2.2.2) b2))]) ?_ ?_
     ·rintro ⟨headed,i,v2,u⟩ hj75
      try dsimp only at hj75
      subst hj75
      have hm:=hk20
      clear hk20
      try dsimp only at hm
      change W _ _ _ _ _ _ _ [(8,(tB.is headed)),(9,(I6.is i)),(0,(tS.is s0_)),(2,(Bp b 0)),(5,(I6.is n0_)),(6,((tL tS).is cut)),(7,(Bp b2 0))] [(2,(Bx 8 true 27 ((tapi_Unit_k5 none).is v2) b)),(7,(Bx 8 true 27 ((tapi_Unit_k5 none).is u) b2))]
      refine Aw<|Am rfl rfl<|WL.mv rfl rfl ?_
      obtain ⟨v8,hv39,hm⟩:=Bs hm
      refine Ao rfl (.slcLo hv39 U47 Z9 (.t rfl) (.t rfl))<|Ag rfl rfl<|WL.ns ?_
      obtain ⟨s40,hs41,hk42⟩:=Bs hm
      clear hm
      refine W.join (fun s:(List Str)×api_Unit=>s=s40) (fun s=>[(10,((tL tS).is s.1)),(0,(tS.is s0_)),(2,(Bp b 0)),(5,(I6.is n0_)),(7,(Bp b2 0))]) (fun s=>[(7,(Bx 8 true 27 ((tapi_Unit_k5 none).is s.2) b2)),(2,(Bx 8 true 27 ((tapi_Unit_k5 none).is v2) b))]) ?_ ?_
      ·rintro ⟨rest,u1⟩ hj74
       try dsimp only at hj74
       subst hj74
       have hm:=hk42
       clear hk42
       try dsimp only at hm
       change W _ _ _ _ _ _ _ [(10,((tL tS).is rest)),(0,(tS.is s0_)),(2,(Bp b 0)),(5,(I6.is n0_)),(7,(Bp b2 0))] [(7,(Bx 8 true 27 ((tapi_Unit_k5 none).is u1) b2)),(2,(Bx 8 true 27 ((tapi_Unit_k5 none).is v2) b))]
       obtain ⟨s46,hs47,hk48⟩:=Bs hm
       clear hm
       refine W.join (fun s:(List Str)×api_Unit=>s=s46) (fun s=>[(10,((tL tS).is s.1)),(0,(tS.is s0_)),(2,(Bp b 0)),(5,(I6.is n0_)),(7,(Bp b2 0))]) (fun s=>[(7,(Bx 8 true 27 ((tapi_Unit_k5 none).is s.2) b2)),(2,(Bx 8 true 27 ((tapi_Unit_k5 none).is v2) b))]) ?_ ?_
       ·rintro ⟨rest1,u2⟩ hj73
        try dsimp only at hj73
        subst hj73
        have hm:=hk48
        clear hk48
        try dsimp only at hm
        change W _ _ _ _ _ _ _ [(10,((tL tS).is rest1)),(0,(tS.is s0_)),(2,(Bp b 0)),(5,(I6.is n0_)),(7,(Bp b2 0))] [(7,(Bx 8 true 27 ((tapi_Unit_k5 none).is u2) b2)),(2,(Bx 8 true 27 ((tapi_Unit_k5 none).is v2) b))]
        refine W.seq ?_
        obtain ⟨s60,hs61,hk62⟩:=Bs hm
        clear hm
        refine W.join (fun s:Bool=>s=s60) (fun s=>[(112,(tB.is s)),(2,(Bp b 0)),(5,(I6.is n0_)),(7,(Bp b2 0))]) (fun s=>[(2,(Bx 8 true 27 ((tapi_Unit_k5 none).is v2) b)),(7,(Bx 8 true 27 ((tapi_Unit_k5 none).is u2) b2))]) ?_ ?_
        ·rintro v12 hj72
         try dsimp only at hj72
         subst hj72
         have hm:=hk62
         clear hk62
         try dsimp only at hm
         change W _ _ _ _ _ _ _ [(112,(tB.is v12)),(2,(Bp b 0)),(5,(I6.is n0_)),(7,(Bp b2 0))] [(2,(Bx 8 true 27 ((tapi_Unit_k5 none).is v2) b)),(7,(Bx 8 true 27 ((tapi_Unit_k5 none).is u2) b2))]
         refine W.cB hm (.t rfl) (fun hp70 hm=>?_) (fun hp70 hm=>?_)
         ·refine Aw<|Ao rfl (.build (s:=(tapi_Unit_k5 none)) (x:=(⟨zapi_Id,(0:Int),([]:Str),([]:List api_Word),([]:List api_Word),([]:List api_Unit)⟩:api_Unit)) zapi_Unit_f rfl U27 (zapi_Unit_sz _ U27) zeapi_Unit_k5 rfl)<|WL.opU (OpR.storeB (b:=b) 2 Z27 (Cellable.is (tapi_Unit_k5 none) (⟨zapi_Id,(0:Int),([]:Str),([]:List api_Word),([]:List api_Word),([]:List api_Unit)⟩:api_Unit)) rfl (.t rfl) (.t rfl)) fun _=>Ao rfl (.assign .i64)<|Ao rfl (.assign .bool)<|WL.ns ?_
          cases hm
          exact W.retQ3 () rfl rfl (ResAt.cell 2 Y27 Z27 rfl (.t rfl)) (ResAt.tmp (.t rfl)) (ResAt.tmp (.t rfl)) trivial
         ·refine W.skip<|Aq<|Aw<|Ao rfl (.loadB 7 Y27 Z27 rfl (.t rfl))<|WL.mv rfl rfl ?_
          obtain ⟨v14,hv71,hm⟩:=Bs hm
          refine Ao rfl (.quoC hv71 (.t rfl) .i64)<|WL.opU (OpR.storeB (b:=b) 2 Z27 (Cellable.is (tapi_Unit_k5 none) u2) rfl (.t rfl) (.t rfl)) fun _=>Ag rfl rfl<|Ao rfl (.assign .bool)<|WL.ns ?_
          cases hm
          exact W.retQ3 () rfl rfl (ResAt.cell 2 Y27 Z27 rfl (.t rfl)) (ResAt.tmp (.t rfl)) (ResAt.tmp (.t rfl)) trivial
        ·have hm:=hs61
         clear hs61
         refine W.region<|Am rfl rfl<|Ao rfl (.lenL U47 (.t rfl))<|Ao rfl (.gtI (.t rfl) .i64)<|WL.mv rfl rfl ?_
         rcases iteD hm with ⟨hp64,hb63,hm⟩ | ⟨hp64,hb63,hm⟩
         ·exact Ap rfl hb63<|Ap rfl hb63<|Ap rfl hb63<|Ap rfl hb63<|Ap rfl hb63<|Ap rfl hb63<|Ao rfl (.pickT (.t rfl) hb63 .bool)<|Am rfl rfl<|Ap rfl rfl<|Ap rfl rfl<|Ao rfl (.pickT (.t rfl) rfl .bool)<|WL.nil<|WN.meet true (Si hm) ⟨.q rfl,.q rfl,.q rfl,.q rfl,trivial⟩ ⟨rfl,rfl,⟨rfl,rfl,trivial⟩⟩
         ·refine Ax rfl hb63 (.loadB 7 Y27 Z27 rfl (.t rfl))<|Ax rfl hb63 (.move (.t rfl)) ?_
          obtain ⟨v13,hv65,hm⟩:=Bs hm
          refine Ax rfl hb63 (.quoC hv65 (.t rfl) .i64) ?_
          obtain ⟨line,hv66,hm⟩:=Bs hm
          refine Ax rfl hb63 (.call C18 (r11_Line_spec _ _ _ _ hv66) ⟨(Opd.leT (leapi_Unit_k5 none) (.t rfl)),(.t rfl),trivial⟩)<|Ax rfl hb63 (.move (.t rfl))<|Ax rfl hb63 (.neS (.t rfl) (.t rfl))<|Ao rfl (.pickF (.t rfl) hb63 (.t rfl))<|WL.mv rfl rfl ?_
          rcases iteB hm with ⟨hp68,hb67,hm⟩ | ⟨hp68,hb67,hm⟩
          ·exact Ap rfl hb67<|Ap rfl hb67<|Ao rfl (.pickT (.t rfl) hb67 .bool)<|WL.nil<|WN.meet true (Si hm) ⟨.q rfl,.q rfl,.q rfl,.q rfl,trivial⟩ ⟨rfl,rfl,⟨rfl,rfl,trivial⟩⟩
          ·exact Ax rfl hb67 (.move (.t rfl))<|Ax rfl hb67 (.eqS (.t rfl) (.str rfl (by decide)))<|Ao rfl (.pickF (.t rfl) hb67 (.t rfl))<|WL.nil<|WN.meet (s0_==([]:Str)) (Si hm) ⟨.q rfl,.q rfl,.q rfl,.q rfl,trivial⟩ ⟨rfl,rfl,⟨rfl,rfl,trivial⟩⟩
       ·have hm:=hs47
        clear hs47
        obtain ⟨s49,hs50,hk51⟩:=Bs hm
        clear hm
        refine W.join (fun s:Bool=>s=s49) (fun s=>[(89,(tB.is s)),(0,(tS.is s0_)),(2,(Bp b 0)),(5,(I6.is n0_)),(7,(Bp b2 0)),(10,((tL tS).is rest))]) (fun s=>[(2,(Bx 8 true 27 ((tapi_Unit_k5 none).is v2) b)),(7,(Bx 8 true 27 ((tapi_Unit_k5 none).is u1) b2))]) ?_ ?_
        ·rintro v9 hj59
         try dsimp only at hj59
         subst hj59
         have hm:=hk51
         clear hk51
         try dsimp only at hm
         change W _ _ _ _ _ _ _ [(89,(tB.is v9)),(0,(tS.is s0_)),(2,(Bp b 0)),(5,(I6.is n0_)),(7,(Bp b2 0)),(10,((tL tS).is rest))] [(2,(Bx 8 true 27 ((tapi_Unit_k5 none).is v2) b)),(7,(Bx 8 true 27 ((tapi_Unit_k5 none).is u1) b2))]
         refine W.cB hm (.t rfl) (fun hp56 hm=>?_) (fun hp56 hm=>?_)
         ·refine W.region<|WL.mv rfl rfl ?_
          obtain ⟨v11,hv57,hm⟩:=Bs hm
          refine Ao rfl (.slcLo hv57 U47 Z9 (.t rfl) .i64) ?_
          obtain ⟨take1,hv58,hm⟩:=Bs hm
          exact Ao rfl (.call C52 (r11_take_spec _ _ _ hv58) ⟨(.t rfl),trivial⟩)<|Am rfl rfl<|Ao rfl (.extract30 (.t rfl))<|Ao rfl (.extract31 (.t rfl))<|Ao rfl (.extract32 (.t rfl))<|Ao rfl (.fieldAddrB (o:=0) U27 rfl J24 (.t rfl) rfl)<|WL.opU (OpR.storeBF (b:=b2) 7 rfl ty24 (sapi_Unit_k5_4 none) rfl (show 6+1≤8 by decide) (.t rfl) (.t rfl)) fun _=>Ag rfl rfl<|WL.nil<|WN.meet (take1.2.1,({u1 with Words:=take1.1}:api_Unit)) (Si hm) ⟨.q rfl,.q rfl,.q rfl,.q rfl,.q rfl,trivial⟩ ⟨rfl,rfl,⟨rfl,rfl,trivial⟩⟩
         ·exact W.skip<|WN.meet (rest,u1) (Si hm) ⟨.q rfl,.q rfl,.q rfl,.q rfl,.q rfl,trivial⟩ ⟨rfl,rfl,⟨rfl,rfl,trivial⟩⟩
        ·have hm:=hs50
         clear hs50
         refine W.region<|Am rfl rfl<|Ao rfl (.lenL U47 (.t rfl))<|Ao rfl (.gtI (.t rfl) .i64)<|WL.mv rfl rfl ?_
         rcases iteD hm with ⟨hp53,hb52,hm⟩ | ⟨hp53,hb52,hm⟩
         ·refine Ax rfl hb52 (.move (.t rfl)) ?_
          obtain ⟨v10,hv54,hm⟩:=Bs hm
          exact Ax rfl hb52 (.idx hv54 U47 Z9 (.t rfl) .i64)<|Ax rfl hb52 (.load ty9 (.t rfl))<|Ax rfl hb52 (.eqS (.t rfl) (.str rfl (by decide)))<|Ao rfl (.pickT (.t rfl) hb52 (.t rfl))<|WL.nil<|WN.meet (v10==([124]:Str)) (Si hm) ⟨.q rfl,.q rfl,.q rfl,.q rfl,.q rfl,.q rfl,trivial⟩ ⟨rfl,rfl,⟨rfl,rfl,trivial⟩⟩
         ·exact Ap rfl hb52<|Ap rfl hb52<|Ap rfl hb52<|Ap rfl hb52<|Ao rfl (.pickF (.t rfl) hb52 .bool)<|WL.nil<|WN.meet false (Si hm) ⟨.q rfl,.q rfl,.q rfl,.q rfl,.q rfl,.q rfl,trivial⟩ ⟨rfl,rfl,⟨rfl,rfl,trivial⟩⟩
      ·have hm:=hs41
       clear hs41
       refine Aw<|Am rfl rfl<|An<|W.cB hm (.t rfl) (fun hp44 hm=>?_) (fun hp44 hm=>?_)
       ·refine W.region<|WL.mv rfl rfl ?_
        obtain ⟨take,hv45,hm⟩:=Bs hm
        exact Ao rfl (.call C52 (r11_take_spec _ _ _ hv45) ⟨(.t rfl),trivial⟩)<|Am rfl rfl<|Ao rfl (.extract30 (.t rfl))<|Ao rfl (.extract31 (.t rfl))<|Ao rfl (.extract32 (.t rfl))<|Ao rfl (.fieldAddrB (o:=0) U27 rfl J24 (.t rfl) rfl)<|WL.opU (OpR.storeBF (b:=b2) 7 rfl ty24 (sapi_Unit_k5_3 none) rfl (show 5+1≤8 by decide) (.t rfl) (.t rfl)) fun _=>Ag rfl rfl<|WL.nil<|WN.meet (take.2.1,({u with Head:=take.1}:api_Unit)) (Si hm) ⟨.q rfl,.q rfl,.q rfl,.q rfl,.q rfl,trivial⟩ ⟨rfl,rfl,⟨rfl,rfl,trivial⟩⟩
       ·exact W.skip<|WN.meet (v8,u) (Si hm) ⟨.q rfl,.q rfl,.q rfl,.q rfl,.q rfl,trivial⟩ ⟨rfl,rfl,⟨rfl,rfl,trivial⟩⟩
     ·have hm:=hs19
      clear hs19
      refine Aw<|Ao rfl (.fieldAddrB (o:=0) U27 rfl J3 (.t rfl) rfl)<|Ao rfl (.loadBF 7 rfl ty3 (fapi_Unit_k5_1 none) rfl (.t rfl))<|Ao rfl (.neI (.t rfl) .i64)<|An<|W.cD hm (.t rfl) (fun hp22 hm=>?_) (fun hp22 hm=>?_)
      ·refine W.seq<|Aw<|Am rfl rfl<|Ao rfl (.lenL U47 (.t rfl))<|Ao rfl (.ltI (.t rfl) .i64)<|An<|W.cD hm (.t rfl) (fun hp24 hm=>?_) (fun hp24 hm=>?_)
       ·refine Aw<|Ao rfl (.build (s:=(tapi_Unit_k5 none)) (x:=(⟨zapi_Id,(0:Int),([]:Str),([]:List api_Word),([]:List api_Word),([]:List api_Unit)⟩:api_Unit)) zapi_Unit_f rfl U27 (zapi_Unit_sz _ U27) zeapi_Unit_k5 rfl)<|WL.opU (OpR.storeB (b:=b) 2 Z27 (Cellable.is (tapi_Unit_k5 none) (⟨zapi_Id,(0:Int),([]:Str),([]:List api_Word),([]:List api_Word),([]:List api_Unit)⟩:api_Unit)) rfl (.t rfl) (.t rfl)) fun _=>Ao rfl (.assign .i64)<|Ao rfl (.assign .bool)<|WL.ns ?_
        have hr25:=Si hm
        clear hm
        subst hr25
        have hm:=hk20
        try dsimp only at hm
        cases hm
        exact W.retQ3 () rfl rfl (ResAt.cell 2 Y27 Z27 rfl (.t rfl)) (ResAt.tmp (.t rfl)) (ResAt.tmp (.t rfl)) trivial
       ·refine W.skip<|Aq<|Aw<|WL.mv rfl rfl ?_
        obtain ⟨v3,hv26,hm⟩:=Bs hm
        refine Ao rfl (.idx hv26 U47 Z9 (.t rfl) .i64)<|Ao rfl (.load ty9 (.t rfl))<|Ao rfl (.fieldAddrB (o:=0) U27 rfl J9 (.t rfl) rfl)<|WL.opU (OpR.storeBF (b:=b2) 7 rfl ty9 (sapi_Unit_k5_2 none) rfl (show 4+1≤8 by decide) (.t rfl) (.t rfl)) fun _=>An<|W.seq ?_
        obtain ⟨s27,hs28,hk29⟩:=Bs hm
        clear hm
        refine W.join (fun s:Bool=>s=s27) (fun s=>[(61,(tB.is s)),(0,(tS.is s0_)),(2,(Bp b 0)),(5,(I6.is n0_)),(6,((tL tS).is cut)),(7,(Bp b2 0)),(8,(tB.is false))]) (fun s=>[(2,(Bx 8 true 27 ((tapi_Unit_k5 none).is zapi_Unit) b)),(7,(Bx 8 true 27 ((tapi_Unit_k5 none).is ({({(⟨zapi_Id,(0:Int),([]:Str),([]:List api_Word),([]:List api_Word),([]:List api_Unit)⟩:api_Unit) with Kind:=kind}:api_Unit) with Label:=v3}:api_Unit)) b2))]) ?_ ?_
        ·rintro v4 hj38
         try dsimp only at hj38
         subst hj38
         have hm:=hk29
         clear hk29
         try dsimp only at hm
         change W _ _ _ _ _ _ _ [(61,(tB.is v4)),(0,(tS.is s0_)),(2,(Bp b 0)),(5,(I6.is n0_)),(6,((tL tS).is cut)),(7,(Bp b2 0)),(8,(tB.is false))] [(2,(Bx 8 true 27 ((tapi_Unit_k5 none).is zapi_Unit) b)),(7,(Bx 8 true 27 ((tapi_Unit_k5 none).is ({({(⟨zapi_Id,(0:Int),([]:Str),([]:List api_Word),([]:List api_Word),([]:List api_Unit)⟩:api_Unit) with Kind:=kind}:api_Unit) with Label:=v3}:api_Unit)) b2))]
         refine W.cB hm (.t rfl) (fun hp35 hm=>?_) (fun hp35 hm=>?_)
         ·refine Aw<|Ao rfl (.assign .bool)<|WL.nr1<|Ao rfl (.fieldAddrB (o:=0) U27 rfl J9 (.t rfl) rfl)<|Ao rfl (.loadBF 7 rfl ty9 (fapi_Unit_k5_2 none) rfl (.t rfl))<|Ao rfl (.fieldAddrB (o:=0) U27 rfl J9 (.t rfl) rfl)<|Ao rfl (.loadBF 7 rfl ty9 (fapi_Unit_k5_2 none) rfl (.t rfl))<|Ao rfl (.lenS U9 (.t rfl)) ?_
          obtain ⟨v6,hv36,hm⟩:=Bs hm
          refine Ao rfl (.subC hv36 (.t rfl) .i64) ?_
          obtain ⟨v7,hv37,hm⟩:=Bs hm
          exact Ao rfl (.sslcHi hv37 U9 (.t rfl) (.t rfl))<|Ao rfl (.fieldAddrB (o:=0) U27 rfl J9 (.t rfl) rfl)<|WL.opU (OpR.storeBF (b:=b2) 7 rfl ty9 (sapi_Unit_k5_2 none) rfl (show 4+1≤8 by decide) (.t rfl) (.t rfl)) fun _=>WL.nr1<|Ao rfl (.assign .i64)<|WL.nil<|WN.meet (true,(2:Int),zapi_Unit,({({({(⟨zapi_Id,(0:Int),([]:Str),([]:List api_Word),([]:List api_Word),([]:List api_Unit)⟩:api_Unit) with Kind:=kind}:api_Unit) with Label:=v3}:api_Unit) with Label:=v7}:api_Unit)) (Si hm) ⟨.q rfl,.q rfl,.q rfl,.q rfl,.q rfl,.q rfl,.q rfl,trivial⟩ ⟨rfl,rfl,⟨rfl,rfl,trivial⟩⟩
         ·exact W.skip<|Aq<|W.region<|Ao rfl (.assign .i64)<|WL.nil<|WN.meet (false,(2:Int),zapi_Unit,({({(⟨zapi_Id,(0:Int),([]:Str),([]:List api_Word),([]:List api_Word),([]:List api_Unit)⟩:api_Unit) with Kind:=kind}:api_Unit) with Label:=v3}:api_Unit)) (Si hm) ⟨.q rfl,.q rfl,.q rfl,.q rfl,.q rfl,.q rfl,.q rfl,trivial⟩ ⟨rfl,rfl,⟨rfl,rfl,trivial⟩⟩
        ·have hm:=hs28
         clear hs28
         refine W.region<|Ao rfl (.fieldAddrB (o:=0) U27 rfl J9 (.t rfl) rfl)<|Ao rfl (.loadBF 7 rfl ty9 (fapi_Unit_k5_2 none) rfl (.t rfl))<|Ao rfl (.lenS U9 (.t rfl))<|Ao rfl (.gtI (.t rfl) .i64)<|WL.mv rfl rfl ?_
         rcases iteD hm with ⟨hp31,hb30,hm⟩ | ⟨hp31,hb30,hm⟩
         ·refine Ax rfl hb30 (.fieldAddrB (o:=0) U27 rfl J9 (.t rfl) rfl)<|Ax rfl hb30 (.loadBF 7 rfl ty9 (fapi_Unit_k5_2 none) rfl (.t rfl))<|Ax rfl hb30 (.fieldAddrB (o:=0) U27 rfl J9 (.t rfl) rfl)<|Ax rfl hb30 (.loadBF 7 rfl ty9 (fapi_Unit_k5_2 none) rfl (.t rfl))<|Ax rfl hb30 (.lenS U9 (.t rfl)) ?_
          obtain ⟨v5,hv32,hm⟩:=Bs hm
          refine Ax rfl hb30 (.subC hv32 (.t rfl) .i64) ?_
          obtain ⟨b3,hv33,hm⟩:=Bs hm
          exact Ax rfl hb30 (.sidx hv33 U9 (.t rfl) (.t rfl))<|Ax rfl hb30 (.eqI (.t rfl) (.int (inR8.2 (by omega))))<|Ao rfl (.pickT (.t rfl) hb30 (.t rfl))<|WL.nil<|WN.meet (decide ((b3.toNat:Int)=(58:Int))) (Si hm) ⟨.q rfl,.q rfl,.q rfl,.q rfl,.q rfl,.q rfl,.q rfl,trivial⟩ ⟨rfl,rfl,⟨rfl,rfl,trivial⟩⟩
         ·exact Ap rfl hb30<|Ap rfl hb30<|Ap rfl hb30<|Ap rfl hb30<|Ap rfl hb30<|Ap rfl hb30<|Ap rfl hb30<|Ap rfl hb30<|Ao rfl (.pickF (.t rfl) hb30 .bool)<|WL.nil<|WN.meet false (Si hm) ⟨.q rfl,.q rfl,.q rfl,.q rfl,.q rfl,.q rfl,.q rfl,trivial⟩ ⟨rfl,rfl,⟨rfl,rfl,trivial⟩⟩
      ·exact W.skip<|WN.meet (false,(1:Int),zapi_Unit,({(⟨zapi_Id,(0:Int),([]:Str),([]:List api_Word),([]:List api_Word),([]:List api_Unit)⟩:api_Unit) with Kind:=kind}:api_Unit)) (Si hm) ⟨.q rfl,.q rfl,.q rfl,.q rfl,.q rfl,.q rfl,.q rfl,trivial⟩ ⟨rfl,rfl,⟨rfl,rfl,trivial⟩⟩
  ·refine Ap rfl hb5<|Ap rfl hb5<|Ap rfl hb5<|Ap rfl hb5<|Ao rfl (.pickF (.t rfl) hb5 .bool)<|An<|W.condF (.t rfl)<|W.exit rfl ?_
   have hr76:=Si hm
   clear hm
   subst hr76
   have hm:=hk3
   try dsimp only at hm
   refine Aq<|Aw<|Am rfl rfl<|WL.mv rfl rfl ?_
   obtain ⟨v15,hv77,hm⟩:=Bs hm
   refine Ao rfl (.sslcLo hv77 U9 (.t rfl) (.t rfl)) ?_
   obtain ⟨cut1,hv78,hm⟩:=Bs hm
   refine Ao rfl (.call C50 (r07_Cut_spec _ _ _ hv78) ⟨(.t rfl),trivial⟩)<|Ag rfl rfl<|Ar<|Ao rfl (.build (s:=(tapi_Unit_k5 none)) (x:=(⟨zapi_Id,(0:Int),([]:Str),([]:List api_Word),([]:List api_Word),([]:List api_Unit)⟩:api_Unit)) zapi_Unit_f rfl U27 (zapi_Unit_sz _ U27) zeapi_Unit_k5 rfl)<|WL.opR rfl (OpR.alloc 7 zeapi_Unit_k5) fun b4=>WL.opU (OpR.storeB (b:=b4) 7 Z27 (Cellable.is (tapi_Unit_k5 none) (⟨zapi_Id,(0:Int),([]:Str),([]:List api_Word),([]:List api_Word),([]:List api_Unit)⟩:api_Unit)) rfl (.t rfl) (.t rfl)) fun _=>Ar<|Ao rfl (.assign .bool)<|Ar<|Ao rfl (.assign .i64)<|Ar<|WL.mv rfl rfl ?_
   obtain ⟨v16,hv79,hm⟩:=Bs hm
   refine Ao rfl (.idx hv79 U47 Z9 (.t rfl) .i64)<|Ao rfl (.load ty9 (.t rfl)) ?_
   obtain ⟨kind1,hv80,hm⟩:=Bs hm
   refine Ao rfl (.call C51 (r07_Kind_spec _ _ _ hv80) ⟨(.t rfl),trivial⟩)<|Ao rfl (.fieldAddrB (o:=0) U27 rfl J3 (.t rfl) rfl)<|WL.opU (OpR.storeBF (b:=b4) 7 rfl ty3 (sapi_Unit_k5_1 none) rfl (show 3+1≤8 by decide) (.t rfl) (.t rfl)) fun _=>An<|W.seq<|Aw<|Ao rfl (.fieldAddrB (o:=0) U27 rfl J3 (.t rfl) rfl)<|Ao rfl (.loadBF 7 rfl ty3 (fapi_Unit_k5_1 none) rfl (.t rfl))<|Ao rfl (.ltI (.t rfl) .i64)<|An<|W.cD hm (.t rfl) (fun hp82 hm=>?_) (fun hp82 hm=>?_)
   ·refine Aw<|Ao rfl (.build (s:=(tapi_Unit_k5 none)) (x:=(⟨zapi_Id,(0:Int),([]:Str),([]:List api_Word),([]:List api_Word),([]:List api_Unit)⟩:api_Unit)) zapi_Unit_f rfl U27 (zapi_Unit_sz _ U27) zeapi_Unit_k5 rfl)<|WL.opU (OpR.storeB (b:=b) 2 Z27 (Cellable.is (tapi_Unit_k5 none) (⟨zapi_Id,(0:Int),([]:Str),([]:List api_Word),([]:List api_Word),([]:List api_Unit)⟩:api_Unit)) rfl (.t rfl) (.t rfl)) fun _=>Ao rfl (.assign .i64)<|Ao rfl (.assign .bool)<|WL.ns ?_
    cases hm
    exact W.retQ3 () rfl rfl (ResAt.cell 2 Y27 Z27 rfl (.t rfl)) (ResAt.tmp (.t rfl)) (ResAt.tmp (.t rfl)) trivial
   ·refine W.skip<|WN.seq ?_
    obtain ⟨s83,hs84,hk85⟩:=Bs hm
    clear hm
    refine W.join (fun s:Bool×Int×api_Unit×api_Unit=>(Sum.inl s:(Bool×Int×api_Unit×api_Unit) ⊕ (api_Unit×Int×Bool))=s83) (fun s=>[(8,(tB.is s.1)),(9,(I6.is s.2.1)),(0,(tS.is s0_)),(2,(Bp b 0)),(5,(I6.is n0_)),(6,((tL tS).is cut1)),(7,(Bp b4 0))]) (fun s=>[(2,(Bx 8 true 27 ((tapi_Unit_k5 none).is s.2.2.1) b)),(7,(Bx 8 true 27 ((tapi_Unit_k5 none).is s.2.2.2) b4))]) ?_ ?_
    ·rintro ⟨headed1,i1,v17,u3⟩ hj140
     try dsimp only at hj140
     subst hj140
     have hm:=hk85
     clear hk85
     try dsimp only at hm
     change W _ _ _ _ _ _ _ [(8,(tB.is headed1)),(9,(I6.is i1)),(0,(tS.is s0_)),(2,(Bp b 0)),(5,(I6.is n0_)),(6,((tL tS).is cut1)),(7,(Bp b4 0))] [(2,(Bx 8 true 27 ((tapi_Unit_k5 none).is v17) b)),(7,(Bx 8 true 27 ((tapi_Unit_k5 none).is u3) b4))]
     refine Aw<|Am rfl rfl<|WL.mv rfl rfl ?_
     obtain ⟨v23,hv104,hm⟩:=Bs hm
     refine Ao rfl (.slcLo hv104 U47 Z9 (.t rfl) (.t rfl))<|Ag rfl rfl<|WL.ns ?_
     obtain ⟨s105,hs106,hk107⟩:=Bs hm
     clear hm
     refine W.join (fun s:(List Str)×api_Unit=>s=s105) (fun s=>[(10,((tL tS).is s.1)),(0,(tS.is s0_)),(2,(Bp b 0)),(5,(I6.is n0_)),(7,(Bp b4 0))]) (fun s=>[(7,(Bx 8 true 27 ((tapi_Unit_k5 none).is s.2) b4)),(2,(Bx 8 true 27 ((tapi_Unit_k5 none).is v17) b))]) ?_ ?_
     ·rintro ⟨rest2,u4⟩ hj139
      try dsimp only at hj139
      subst hj139
      have hm:=hk107
      clear hk107
      try dsimp only at hm
      change W _ _ _ _ _ _ _ [(10,((tL tS).is rest2)),(0,(tS.is s0_)),(2,(Bp b 0)),(5,(I6.is n0_)),(7,(Bp b4 0))] [(7,(Bx 8 true 27 ((tapi_Unit_k5 none).is u4) b4)),(2,(Bx 8 true 27 ((tapi_Unit_k5 none).is v17) b))]
      obtain ⟨s111,hs112,hk113⟩:=Bs hm
      clear hm
      refine W.join (fun s:(List Str)×api_Unit=>s=s111) (fun s=>[(10,((tL tS).is s.1)),(0,(tS.is s0_)),(2,(Bp b 0)),(5,(I6.is n0_)),(7,(Bp b4 0))]) (fun s=>[(7,(Bx 8 true 27 ((tapi_Unit_k5 none).is s.2) b4)),(2,(Bx 8 true 27 ((tapi_Unit_k5 none).is v17) b))]) ?_ ?_
      ·rintro ⟨rest3,u5⟩ hj138
       try dsimp only at hj138
       subst hj138
       have hm:=hk113
       clear hk113
       try dsimp only at hm
       change W _ _ _ _ _ _ _ [(10,((tL tS).is rest3)),(0,(tS.is s0_)),(2,(Bp b 0)),(5,(I6.is n0_)),(7,(Bp b4 0))] [(7,(Bx 8 true 27 ((tapi_Unit_k5 none).is u5) b4)),(2,(Bx 8 true 27 ((tapi_Unit_k5 none).is v17) b))]
       refine W.seq ?_
       obtain ⟨s125,hs126,hk127⟩:=Bs hm
       clear hm
       refine W.join (fun s:Bool=>s=s125) (fun s=>[(112,(tB.is s)),(2,(Bp b 0)),(5,(I6.is n0_)),(7,(Bp b4 0))]) (fun s=>[(2,(Bx 8 true 27 ((tapi_Unit_k5 none).is v17) b)),(7,(Bx 8 true 27 ((tapi_Unit_k5 none).is u5) b4))]) ?_ ?_
       ·rintro v27 hj137
        try dsimp only at hj137
        subst hj137
        have hm:=hk127
        clear hk127
        try dsimp only at hm
        change W _ _ _ _ _ _ _ [(112,(tB.is v27)),(2,(Bp b 0)),(5,(I6.is n0_)),(7,(Bp b4 0))] [(2,(Bx 8 true 27 ((tapi_Unit_k5 none).is v17) b)),(7,(Bx 8 true 27 ((tapi_Unit_k5 none).is u5) b4))]
        refine W.cB hm (.t rfl) (fun hp135 hm=>?_) (fun hp135 hm=>?_)
        ·refine Aw<|Ao rfl (.build (s:=(tapi_Unit_k5 none)) (x:=(⟨zapi_Id,(0:Int),([]:Str),([]:List api_Word),([]:List api_Word),([]:List api_Unit)⟩:api_Unit)) zapi_Unit_f rfl U27 (zapi_Unit_sz _ U27) zeapi_Unit_k5 rfl)<|WL.opU (OpR.storeB (b:=b) 2 Z27 (Cellable.is (tapi_Unit_k5 none) (⟨zapi_Id,(0:Int),([]:Str),([]:List api_Word),([]:List api_Word),([]:List api_Unit)⟩:api_Unit)) rfl (.t rfl) (.t rfl)) fun _=>Ao rfl (.assign .i64)<|Ao rfl (.assign .bool)<|WL.ns ?_
         cases hm
         exact W.retQ3 () rfl rfl (ResAt.cell 2 Y27 Z27 rfl (.t rfl)) (ResAt.tmp (.t rfl)) (ResAt.tmp (.t rfl)) trivial
        ·refine W.skip<|Aq<|Aw<|Ao rfl (.loadB 7 Y27 Z27 rfl (.t rfl))<|WL.mv rfl rfl ?_
         obtain ⟨v29,hv136,hm⟩:=Bs hm
         refine Ao rfl (.quoC hv136 (.t rfl) .i64)<|WL.opU (OpR.storeB (b:=b) 2 Z27 (Cellable.is (tapi_Unit_k5 none) u5) rfl (.t rfl) (.t rfl)) fun _=>Ag rfl rfl<|Ao rfl (.assign .bool)<|WL.ns ?_
         cases hm
         exact W.retQ3 () rfl rfl (ResAt.cell 2 Y27 Z27 rfl (.t rfl)) (ResAt.tmp (.t rfl)) (ResAt.tmp (.t rfl)) trivial
       ·have hm:=hs126
        clear hs126
        refine W.region<|Am rfl rfl<|Ao rfl (.lenL U47 (.t rfl))<|Ao rfl (.gtI (.t rfl) .i64)<|WL.mv rfl rfl ?_
        rcases iteD hm with ⟨hp129,hb128,hm⟩ | ⟨hp129,hb128,hm⟩
        ·exact Ap rfl hb128<|Ap rfl hb128<|Ap rfl hb128<|Ap rfl hb128<|Ap rfl hb128<|Ap rfl hb128<|Ao rfl (.pickT (.t rfl) hb128 .bool)<|Am rfl rfl<|Ap rfl rfl<|Ap rfl rfl<|Ao rfl (.pickT (.t rfl) rfl .bool)<|WL.nil<|WN.meet true (Si hm) ⟨.q rfl,.q rfl,.q rfl,.q rfl,trivial⟩ ⟨rfl,rfl,⟨rfl,rfl,trivial⟩⟩
        ·refine Ax rfl hb128 (.loadB 7 Y27 Z27 rfl (.t rfl))<|Ax rfl hb128 (.move (.t rfl)) ?_
         obtain ⟨v28,hv130,hm⟩:=Bs hm
         refine Ax rfl hb128 (.quoC hv130 (.t rfl) .i64) ?_
         obtain ⟨line1,hv131,hm⟩:=Bs hm
         refine Ax rfl hb128 (.call C18 (r11_Line_spec _ _ _ _ hv131) ⟨(Opd.leT (leapi_Unit_k5 none) (.t rfl)),(.t rfl),trivial⟩)<|Ax rfl hb128 (.move (.t rfl))<|Ax rfl hb128 (.neS (.t rfl) (.t rfl))<|Ao rfl (.pickF (.t rfl) hb128 (.t rfl))<|WL.mv rfl rfl ?_
         rcases iteB hm with ⟨hp133,hb132,hm⟩ | ⟨hp133,hb132,hm⟩
         ·exact Ap rfl hb132<|Ap rfl hb132<|Ao rfl (.pickT (.t rfl) hb132 .bool)<|WL.nil<|WN.meet true (Si hm) ⟨.q rfl,.q rfl,.q rfl,.q rfl,trivial⟩ ⟨rfl,rfl,⟨rfl,rfl,trivial⟩⟩
         ·exact Ax rfl hb132 (.move (.t rfl))<|Ax rfl hb132 (.eqS (.t rfl) (.str rfl (by decide)))<|Ao rfl (.pickF (.t rfl) hb132 (.t rfl))<|WL.nil<|WN.meet (s0_==([]:Str)) (Si hm) ⟨.q rfl,.q rfl,.q rfl,.q rfl,trivial⟩ ⟨rfl,rfl,⟨rfl,rfl,trivial⟩⟩
      ·have hm:=hs112
       clear hs112
       obtain ⟨s114,hs115,hk116⟩:=Bs hm
       clear hm
       refine W.join (fun s:Bool=>s=s114) (fun s=>[(89,(tB.is s)),(0,(tS.is s0_)),(2,(Bp b 0)),(5,(I6.is n0_)),(7,(Bp b4 0)),(10,((tL tS).is rest2))]) (fun s=>[(2,(Bx 8 true 27 ((tapi_Unit_k5 none).is v17) b)),(7,(Bx 8 true 27 ((tapi_Unit_k5 none).is u4) b4))]) ?_ ?_
       ·rintro v24 hj124
        try dsimp only at hj124
        subst hj124
        have hm:=hk116
        clear hk116
        try dsimp only at hm
        change W _ _ _ _ _ _ _ [(89,(tB.is v24)),(0,(tS.is s0_)),(2,(Bp b 0)),(5,(I6.is n0_)),(7,(Bp b4 0)),(10,((tL tS).is rest2))] [(2,(Bx 8 true 27 ((tapi_Unit_k5 none).is v17) b)),(7,(Bx 8 true 27 ((tapi_Unit_k5 none).is u4) b4))]
        refine W.cB hm (.t rfl) (fun hp121 hm=>?_) (fun hp121 hm=>?_)
        ·refine W.region<|WL.mv rfl rfl ?_
         obtain ⟨v26,hv122,hm⟩:=Bs hm
         refine Ao rfl (.slcLo hv122 U47 Z9 (.t rfl) .i64) ?_
         obtain ⟨take3,hv123,hm⟩:=Bs hm
         exact Ao rfl (.call C52 (r11_take_spec _ _ _ hv123) ⟨(.t rfl),trivial⟩)<|Am rfl rfl<|Ao rfl (.extract30 (.t rfl))<|Ao rfl (.extract31 (.t rfl))<|Ao rfl (.extract32 (.t rfl))<|Ao rfl (.fieldAddrB (o:=0) U27 rfl J24 (.t rfl) rfl)<|WL.opU (OpR.storeBF (b:=b4) 7 rfl ty24 (sapi_Unit_k5_4 none) rfl (show 6+1≤8 by decide) (.t rfl) (.t rfl)) fun _=>Ag rfl rfl<|WL.nil<|WN.meet (take3.2.1,({u4 with Words:=take3.1}:api_Unit)) (Si hm) ⟨.q rfl,.q rfl,.q rfl,.q rfl,.q rfl,trivial⟩ ⟨rfl,rfl,⟨rfl,rfl,trivial⟩⟩
        ·exact W.skip<|WN.meet (rest2,u4) (Si hm) ⟨.q rfl,.q rfl,.q rfl,.q rfl,.q rfl,trivial⟩ ⟨rfl,rfl,⟨rfl,rfl,trivial⟩⟩
       ·have hm:=hs115
        clear hs115
        refine W.region<|Am rfl rfl<|Ao rfl (.lenL U47 (.t rfl))<|Ao rfl (.gtI (.t rfl) .i64)<|WL.mv rfl rfl ?_
        rcases iteD hm with ⟨hp118,hb117,hm⟩ | ⟨hp118,hb117,hm⟩
        ·refine Ax rfl hb117 (.move (.t rfl)) ?_
         obtain ⟨v25,hv119,hm⟩:=Bs hm
         exact Ax rfl hb117 (.idx hv119 U47 Z9 (.t rfl) .i64)<|Ax rfl hb117 (.load ty9 (.t rfl))<|Ax rfl hb117 (.eqS (.t rfl) (.str rfl (by decide)))<|Ao rfl (.pickT (.t rfl) hb117 (.t rfl))<|WL.nil<|WN.meet (v25==([124]:Str)) (Si hm) ⟨.q rfl,.q rfl,.q rfl,.q rfl,.q rfl,.q rfl,trivial⟩ ⟨rfl,rfl,⟨rfl,rfl,trivial⟩⟩
        ·exact Ap rfl hb117<|Ap rfl hb117<|Ap rfl hb117<|Ap rfl hb117<|Ao rfl (.pickF (.t rfl) hb117 .bool)<|WL.nil<|WN.meet false (Si hm) ⟨.q rfl,.q rfl,.q rfl,.q rfl,.q rfl,.q rfl,trivial⟩ ⟨rfl,rfl,⟨rfl,rfl,trivial⟩⟩
     ·have hm:=hs106
      clear hs106
      refine Aw<|Am rfl rfl<|An<|W.cB hm (.t rfl) (fun hp109 hm=>?_) (fun hp109 hm=>?_)
      ·refine W.region<|WL.mv rfl rfl ?_
       obtain ⟨take2,hv110,hm⟩:=Bs hm
       exact Ao rfl (.call C52 (r11_take_spec _ _ _ hv110) ⟨(.t rfl),trivial⟩)<|Am rfl rfl<|Ao rfl (.extract30 (.t rfl))<|Ao rfl (.extract31 (.t rfl))<|Ao rfl (.extract32 (.t rfl))<|Ao rfl (.fieldAddrB (o:=0) U27 rfl J24 (.t rfl) rfl)<|WL.opU (OpR.storeBF (b:=b4) 7 rfl ty24 (sapi_Unit_k5_3 none) rfl (show 5+1≤8 by decide) (.t rfl) (.t rfl)) fun _=>Ag rfl rfl<|WL.nil<|WN.meet (take2.2.1,({u3 with Head:=take2.1}:api_Unit)) (Si hm) ⟨.q rfl,.q rfl,.q rfl,.q rfl,.q rfl,trivial⟩ ⟨rfl,rfl,⟨rfl,rfl,trivial⟩⟩
      ·exact W.skip<|WN.meet (v23,u3) (Si hm) ⟨.q rfl,.q rfl,.q rfl,.q rfl,.q rfl,trivial⟩ ⟨rfl,rfl,⟨rfl,rfl,trivial⟩⟩
    ·have hm:=hs84
     clear hs84
     refine Aw<|Ao rfl (.fieldAddrB (o:=0) U27 rfl J3 (.t rfl) rfl)<|Ao rfl (.loadBF 7 rfl ty3 (fapi_Unit_k5_1 none) rfl (.t rfl))<|Ao rfl (.neI (.t rfl) .i64)<|An<|W.cD hm (.t rfl) (fun hp87 hm=>?_) (fun hp87 hm=>?_)
     ·refine W.seq<|Aw<|Am rfl rfl<|Ao rfl (.lenL U47 (.t rfl))<|Ao rfl (.ltI (.t rfl) .i64)<|An<|W.cD hm (.t rfl) (fun hp89 hm=>?_) (fun hp89 hm=>?_)
      ·refine Aw<|Ao rfl (.build (s:=(tapi_Unit_k5 none)) (x:=(⟨zapi_Id,(0:Int),([]:Str),([]:List api_Word),([]:List api_Word),([]:List api_Unit)⟩:api_Unit)) zapi_Unit_f rfl U27 (zapi_Unit_sz _ U27) zeapi_Unit_k5 rfl)<|WL.opU (OpR.storeB (b:=b) 2 Z27 (Cellable.is (tapi_Unit_k5 none) (⟨zapi_Id,(0:Int),([]:Str),([]:List api_Word),([]:List api_Word),([]:List api_Unit)⟩:api_Unit)) rfl (.t rfl) (.t rfl)) fun _=>Ao rfl (.assign .i64)<|Ao rfl (.assign .bool)<|WL.ns ?_
       have hr90:=Si hm
       clear hm
       subst hr90
       have hm:=hk85
       try dsimp only at hm
       cases hm
       exact W.retQ3 () rfl rfl (ResAt.cell 2 Y27 Z27 rfl (.t rfl)) (ResAt.tmp (.t rfl)) (ResAt.tmp (.t rfl)) trivial
      ·refine W.skip<|Aq<|Aw<|WL.mv rfl rfl ?_
       obtain ⟨v18,hv91,hm⟩:=Bs hm
       refine Ao rfl (.idx hv91 U47 Z9 (.t rfl) .i64)<|Ao rfl (.load ty9 (.t rfl))<|Ao rfl (.fieldAddrB (o:=0) U27 rfl J9 (.t rfl) rfl)<|WL.opU (OpR.storeBF (b:=b4) 7 rfl ty9 (sapi_Unit_k5_2 none) rfl (show 4+1≤8 by decide) (.t rfl) (.t rfl)) fun _=>An<|W.seq ?_
       obtain ⟨s92,hs93,hk94⟩:=Bs hm
       clear hm
       refine W.join (fun s:Bool=>s=s92) (fun s=>[(61,(tB.is s)),(0,(tS.is s0_)),(2,(Bp b 0)),(5,(I6.is n0_)),(6,((tL tS).is cut1)),(7,(Bp b4 0)),(8,(tB.is false))]) (fun s=>[(2,(Bx 8 true 27 ((tapi_Unit_k5 none).is zapi_Unit) b)),(7,(Bx 8 true 27 ((tapi_Unit_k5 none).is ({({(⟨zapi_Id,(0:Int),([]:Str),([]:List api_Word),([]:List api_Word),([]:List api_Unit)⟩:api_Unit) with Kind:=kind1}:api_Unit) with Label:=v18}:api_Unit)) b4))]) ?_ ?_
       ·rintro v19 hj103
        try dsimp only at hj103
        subst hj103
        have hm:=hk94
        clear hk94
        try dsimp only at hm
        change W _ _ _ _ _ _ _ [(61,(tB.is v19)),(0,(tS.is s0_)),(2,(Bp b 0)),(5,(I6.is n0_)),(6,((tL tS).is cut1)),(7,(Bp b4 0)),(8,(tB.is false))] [(2,(Bx 8 true 27 ((tapi_Unit_k5 none).is zapi_Unit) b)),(7,(Bx 8 true 27 ((tapi_Unit_k5 none).is ({({(⟨zapi_Id,(0:Int),([]:Str),([]:List api_Word),([]:List api_Word),([]:List api_Unit)⟩:api_Unit) with Kind:=kind1}:api_Unit) with Label:=v18}:api_Unit)) b4))]
        refine W.cB hm (.t rfl) (fun hp100 hm=>?_) (fun hp100 hm=>?_)
        ·refine Aw<|Ao rfl (.assign .bool)<|WL.nr1<|Ao rfl (.fieldAddrB (o:=0) U27 rfl J9 (.t rfl) rfl)<|Ao rfl (.loadBF 7 rfl ty9 (fapi_Unit_k5_2 none) rfl (.t rfl))<|Ao rfl (.fieldAddrB (o:=0) U27 rfl J9 (.t rfl) rfl)<|Ao rfl (.loadBF 7 rfl ty9 (fapi_Unit_k5_2 none) rfl (.t rfl))<|Ao rfl (.lenS U9 (.t rfl)) ?_
         obtain ⟨v21,hv101,hm⟩:=Bs hm
         refine Ao rfl (.subC hv101 (.t rfl) .i64) ?_
         obtain ⟨v22,hv102,hm⟩:=Bs hm
         exact Ao rfl (.sslcHi hv102 U9 (.t rfl) (.t rfl))<|Ao rfl (.fieldAddrB (o:=0) U27 rfl J9 (.t rfl) rfl)<|WL.opU (OpR.storeBF (b:=b4) 7 rfl ty9 (sapi_Unit_k5_2 none) rfl (show 4+1≤8 by decide) (.t rfl) (.t rfl)) fun _=>WL.nr1<|Ao rfl (.assign .i64)<|WL.nil<|WN.meet (true,(2:Int),zapi_Unit,({({({(⟨zapi_Id,(0:Int),([]:Str),([]:List api_Word),([]:List api_Word),([]:List api_Unit)⟩:api_Unit) with Kind:=kind1}:api_Unit) with Label:=v18}:api_Unit) with Label:=v22}:api_Unit)) (Si hm) ⟨.q rfl,.q rfl,.q rfl,.q rfl,.q rfl,.q rfl,.q rfl,trivial⟩ ⟨rfl,rfl,⟨rfl,rfl,trivial⟩⟩
        ·exact W.skip<|Aq<|W.region<|Ao rfl (.assign .i64)<|WL.nil<|WN.meet (false,(2:Int),zapi_Unit,({({(⟨zapi_Id,(0:Int),([]:Str),([]:List api_Word),([]:List api_Word),([]:List api_Unit)⟩:api_Unit) with Kind:=kind1}:api_Unit) with Label:=v18}:api_Unit)) (Si hm) ⟨.q rfl,.q rfl,.q rfl,.q rfl,.q rfl,.q rfl,.q rfl,trivial⟩ ⟨rfl,rfl,⟨rfl,rfl,trivial⟩⟩
       ·have hm:=hs93
        clear hs93
        refine W.region<|Ao rfl (.fieldAddrB (o:=0) U27 rfl J9 (.t rfl) rfl)<|Ao rfl (.loadBF 7 rfl ty9 (fapi_Unit_k5_2 none) rfl (.t rfl))<|Ao rfl (.lenS U9 (.t rfl))<|Ao rfl (.gtI (.t rfl) .i64)<|WL.mv rfl rfl ?_
        rcases iteD hm with ⟨hp96,hb95,hm⟩ | ⟨hp96,hb95,hm⟩
        ·refine Ax rfl hb95 (.fieldAddrB (o:=0) U27 rfl J9 (.t rfl) rfl)<|Ax rfl hb95 (.loadBF 7 rfl ty9 (fapi_Unit_k5_2 none) rfl (.t rfl))<|Ax rfl hb95 (.fieldAddrB (o:=0) U27 rfl J9 (.t rfl) rfl)<|Ax rfl hb95 (.loadBF 7 rfl ty9 (fapi_Unit_k5_2 none) rfl (.t rfl))<|Ax rfl hb95 (.lenS U9 (.t rfl)) ?_
         obtain ⟨v20,hv97,hm⟩:=Bs hm
         refine Ax rfl hb95 (.subC hv97 (.t rfl) .i64) ?_
         obtain ⟨b5,hv98,hm⟩:=Bs hm
         exact Ax rfl hb95 (.sidx hv98 U9 (.t rfl) (.t rfl))<|Ax rfl hb95 (.eqI (.t rfl) (.int (inR8.2 (by omega))))<|Ao rfl (.pickT (.t rfl) hb95 (.t rfl))<|WL.nil<|WN.meet (decide ((b5.toNat:Int)=(58:Int))) (Si hm) ⟨.q rfl,.q rfl,.q rfl,.q rfl,.q rfl,.q rfl,.q rfl,trivial⟩ ⟨rfl,rfl,⟨rfl,rfl,trivial⟩⟩
        ·exact Ap rfl hb95<|Ap rfl hb95<|Ap rfl hb95<|Ap rfl hb95<|Ap rfl hb95<|Ap rfl hb95<|Ap rfl hb95<|Ap rfl hb95<|Ao rfl (.pickF (.t rfl) hb95 .bool)<|WL.nil<|WN.meet false (Si hm) ⟨.q rfl,.q rfl,.q rfl,.q rfl,.q rfl,.q rfl,.q rfl,trivial⟩ ⟨rfl,rfl,⟨rfl,rfl,trivial⟩⟩
     ·exact W.skip<|WN.meet (false,(1:Int),zapi_Unit,({(⟨zapi_Id,(0:Int),([]:Str),([]:List api_Word),([]:List api_Word),([]:List api_Unit)⟩:api_Unit) with Kind:=kind1}:api_Unit)) (Si hm) ⟨.q rfl,.q rfl,.q rfl,.q rfl,.q rfl,.q rfl,.q rfl,trivial⟩ ⟨rfl,rfl,⟨rfl,rfl,trivial⟩⟩
theorem r11_parent_spec(n:Nat)(l:List pandectref11_node)(depth:Int)(r:Int)(hm:M.r11_parent n l depth=some r):FSpec Tryz.prog 34 [((tL tpandectref11_node).is l),(I6.is depth)] (I6.is r):=by
 unfold M.r11_parent at hm
 refine FSpec.of Tryz.func34 rfl rfl rfl fun g0=>Aw<|Ao rfl (.assign .i64)<|Ar<|Am rfl rfl<|Ao rfl (.lenL U58 (.t rfl)) ?_
 obtain ⟨v,hv1,hm⟩:=Bs hm
 refine Ao rfl (.subC hv1 (.t rfl) .i64)<|Ag rfl rfl<|An<|W.seq<|W.block ?_
 obtain ⟨s2,hs3,hk4⟩:=Bs hm
 clear hm
 refine W.loop (fun m (s:Int)=>M.r11_parent_loop1 l depth m s=some s2) (fun s=>[(5,(I6.is s)),(0,((tL tpandectref11_node).is l)),(1,(I6.is depth))]) (fun s=>[]) _ v hs3 ⟨.q rfl,.q rfl,.q rfl,trivial⟩ trivial ?_
 rintro n5 p hm
 try dsimp only at hm
 change W _ _ _ _ _ _ _ [(5,(I6.is p)),(0,((tL tpandectref11_node).is l)),(1,(I6.is depth))] []
 cases n5 with
 | zero=>rw [M.r11_parent_loop1.eq_1] at hm;cases hm
 | succ n5=>
  rw [M.r11_parent_loop1.eq_2] at hm
  refine W.seq<|Aw<|Am rfl rfl<|WL.mv rfl rfl ?_
  obtain ⟨v1,hv6,hm⟩:=Bs hm
  refine Ao rfl (.idx hv6 U58 Z60 (.t rfl) (.t rfl))<|Ao rfl (.fieldAddr Tryz.underlying60 rfl J3 fpandectref11_node_1 (.t rfl))<|Ao rfl (.load ty3 (.t rfl))<|WL.mv rfl rfl ?_
  obtain ⟨v2,hv7,hm⟩:=Bs hm
  refine Ao rfl (.subC hv7 (.t rfl) .i64)<|Ao rfl (.neI (.t rfl) (.t rfl))<|An<|W.cD hm (.t rfl) (fun hp9 hm=>?_) (fun hp9 hm=>?_)
  ·refine W.skip<|Aq<|W.block<|W.region<|WL.mv rfl rfl ?_
   obtain ⟨v3,hv10,hm⟩:=Bs hm
   exact Ao rfl (.subC hv10 (.t rfl) .i64)<|Ag rfl rfl<|WL.nil<|WN.block<|WN.again n5 v3 (Nat.lt_succ_self n5) hm ⟨.q rfl,.q rfl,.q rfl,trivial⟩ trivial
  ·refine W.exit rfl ?_
   have hr11:=Si hm
   clear hm
   subst hr11
   have hm:=hk4
   try dsimp only at hm
   refine Aq<|Aw<|Am rfl rfl<|Ag rfl rfl<|WL.ns ?_
   cases hm
   exact W.ret1 () rfl (.t rfl) trivial
theorem r11_wrong_spec(n:Nat)(l:List pandectref11_node)(x:pandectref11_node)(r:Int)(hm:M.r11_wrong n l x=some r):FSpec Tryz.prog 33 [((tL tpandectref11_node).is l),(tpandectref11_node.is x)] (I6.is r):=by
 unfold M.r11_wrong at hm
 refine FSpec.of Tryz.func33 rfl rfl rfl fun g0=>Aw<|Ao rfl (.box (.t rfl))<|Ao rfl (.assign .i64)<|An<|W.seq<|Aw<|Am rfl rfl<|Ao rfl (.lenL U58 (.t rfl))<|Ao rfl (.eqI (.t rfl) .i64)<|An<|W.cD hm (.t rfl) (fun hp2 hm=>?_) (fun hp2 hm=>?_)
 ·refine W.seq<|Aw<|Ao rfl (.fieldAddr Tryz.underlying60 rfl J3 fpandectref11_node_1 (.t rfl))<|Ao rfl (.load ty3 (.t rfl))<|Ao rfl (.neI (.t rfl) .i64)<|An<|W.cD hm (.t rfl) (fun hp4 hm=>?_) (fun hp4 hm=>?_)
  ·refine Aw<|Ao rfl (.assign .i64)<|WL.ns ?_
   cases hm
   exact W.ret1 () rfl (.t rfl) trivial
  ·refine W.skip<|Aq<|Aw<|Ao rfl (.assign .i64)<|WL.ns ?_
   cases hm
   exact W.ret1 () rfl (.t rfl) trivial
 ·refine W.skip<|Aq<|W.seq<|W.seq ?_
  rcases iteD hm with ⟨hp6,hb5,hm⟩ | ⟨hp6,hb5,hm⟩
  ·refine W.draw [.c _,.c _,.c _,.c _,.c _,.c _,.c _,.c _,.c _,.c _,.c _,.c _,.c _,.c _,.c _,.c _] [([],[3]),([0],[]),([1],[]),([2],[]),([3],[3]),([3,4],[]),([3],[0]),([3],[0]),([3,7],[]),([3,8],[]),([3,6,9],[]),([3,10],[]),([3,11],[]),([3,12],[]),([3,5,13],[]),([3,14],[])] Mx rfl rfl rfl rfl ⟨Dn (.fieldAddr Tryz.underlying60 rfl J3 fpandectref11_node_1 (.t rfl)),Dn (.load ty3 (.t rfl)),Dn (.ltI (.t rfl) .i64),Dn (.move (.t rfl)),Dp rfl hb5,Dp rfl hb5,Dp rfl hb5,Dp rfl hb5,Dp rfl hb5,Dp rfl hb5,Dp rfl hb5,Dp rfl hb5,Dp rfl hb5,Dp rfl hb5,Dp rfl hb5,Dn (.pickT (.t rfl) hb5 .bool),trivial⟩<|Aq<|W.condT (.t rfl)<|Aw<|Ao rfl (.assign .i64)<|WL.ns ?_
   cases hm
   exact W.ret1 () rfl (.t rfl) trivial
  ·obtain ⟨v,hv7,hm⟩:=Bs hm
   obtain ⟨v1,hv8,hm⟩:=Bs hm
   obtain ⟨v2,hv9,hm⟩:=Bs hm
   refine W.draw [.c _,.c _,.c _,.c _,.c _,.c _,.c _,.c _,.c _,.c _,.c _,.c _,.c _,.c _,.c _,.c _] [([],[3]),([0],[]),([1],[]),([2],[]),([3],[3]),([3,4],[]),([3],[0]),([3],[0]),([3,7],[]),([3,8],[]),([3,6,9],[]),([3,10],[]),([3,11],[]),([3,12],[]),([3,5,13],[]),([3,14],[])] Mx rfl rfl rfl rfl ⟨Dn (.fieldAddr Tryz.underlying60 rfl J3 fpandectref11_node_1 (.t rfl)),Dn (.load ty3 (.t rfl)),Dn (.ltI (.t rfl) .i64),Dn (.move (.t rfl)),Dr rfl hb5 (.fieldAddr Tryz.underlying60 rfl J3 fpandectref11_node_1 (.t rfl)),Dr rfl hb5 (.load ty3 (.t rfl)),Dr rfl hb5 (.move (.t rfl)),Dr rfl hb5 (.move (.t rfl)),Dr rfl hb5 (.lenL U58 (.t rfl)),Dr rfl hb5 (.subC hv7 (.t rfl) .i64),Dr rfl hb5 (.idx hv8 U58 Z60 (.t rfl) (.t rfl)),Dr rfl hb5 (.fieldAddr Tryz.underlying60 rfl J3 fpandectref11_node_1 (.t rfl)),Dr rfl hb5 (.load ty3 (.t rfl)),Dr rfl hb5 (.addC hv9 (.t rfl) .i64),Dr rfl hb5 (.gtI (.t rfl) (.t rfl)),Dn (.pickF (.t rfl) hb5 (.t rfl)),trivial⟩<|Aq<|W.cD hm (.t rfl) (fun hp11 hm=>?_) (fun hp11 hm=>?_)
   ·refine Aw<|Ao rfl (.assign .i64)<|WL.ns ?_
    cases hm
    exact W.ret1 () rfl (.t rfl) trivial
   ·refine W.skip<|Aq<|Aw<|Am rfl rfl<|Ao rfl (.fieldAddr Tryz.underlying60 rfl J3 fpandectref11_node_1 (.t rfl))<|Ao rfl (.load ty3 (.t rfl)) ?_
    obtain ⟨parent,hv12,hm⟩:=Bs hm
    refine Ao rfl (.call C34 (r11_parent_spec _ _ _ _ hv12) ⟨(.t rfl),(.t rfl),trivial⟩)<|Ag rfl rfl<|An<|W.seq<|W.seq ?_
    rcases iteD hm with ⟨hp14,hb13,hm⟩ | ⟨hp14,hb13,hm⟩
    ·refine W.draw [.c _,.c _,.c _,.c _,.c _,.c _,.c _,.c _,.c _,.c _,.c _,.c _,.c _,.c _,.c _,.c _,.c _] [([],[3]),([0],[]),([1],[]),([2],[]),([3],[]),([4],[0]),([4],[5]),([4,5,6],[]),([4,7],[]),([4,8],[]),([4,9],[]),([4],[3]),([4,11],[]),([4,12],[]),([4,10,13],[]),([4,14],[]),([4,15],[])] Mx rfl rfl rfl rfl ⟨Dn (.fieldAddr Tryz.underlying60 rfl J27 fpandectref11_node_0 (.t rfl)),Dn (.fieldAddr U27 rfl J3 (fapi_Unit_k5_1 none) (.t rfl)),Dn (.load ty3 (.t rfl)),Dn (.eqI (.t rfl) .i64),Dn (.move (.t rfl)),Dp rfl hb13,Dp rfl hb13,Dp rfl hb13,Dp rfl hb13,Dp rfl hb13,Dp rfl hb13,Dp rfl hb13,Dp rfl hb13,Dp rfl hb13,Dp rfl hb13,Dp rfl hb13,Dn (.pickT (.t rfl) hb13 .bool),trivial⟩<|Aq<|W.condT (.t rfl)<|Aw<|Ao rfl (.assign .i64)<|WL.ns ?_
     cases hm
     exact W.ret1 () rfl (.t rfl) trivial
    ·obtain ⟨v3,hv15,hm⟩:=Bs hm
     obtain ⟨nests,hv16,hm⟩:=Bs hm
     refine W.draw [.c _,.c _,.c _,.c _,.c _,.c _,.c _,.c _,.c _,.c _,.c _,.c _,.c _,.c _,.c _,.c _,.c _] [([],[3]),([0],[]),([1],[]),([2],[]),([3],[]),([4],[0]),([4],[5]),([4,5,6],[]),([4,7],[]),([4,8],[]),([4,9],[]),([4],[3]),([4,11],[]),([4,12],[]),([4,10,13],[]),([4,14],[]),([4,15],[])] Mx rfl rfl rfl rfl ⟨Dn (.fieldAddr Tryz.underlying60 rfl J27 fpandectref11_node_0 (.t rfl)),Dn (.fieldAddr U27 rfl J3 (fapi_Unit_k5_1 none) (.t rfl)),Dn (.load ty3 (.t rfl)),Dn (.eqI (.t rfl) .i64),Dn (.move (.t rfl)),Dr rfl hb13 (.move (.t rfl)),Dr rfl hb13 (.move (.t rfl)),Dr rfl hb13 (.idx hv15 U58 Z60 (.t rfl) (.t rfl)),Dr rfl hb13 (.fieldAddr Tryz.underlying60 rfl J27 fpandectref11_node_0 (.t rfl)),Dr rfl hb13 (.fieldAddr U27 rfl J3 (fapi_Unit_k5_1 none) (.t rfl)),Dr rfl hb13 (.load ty3 (.t rfl)),Dr rfl hb13 (.fieldAddr Tryz.underlying60 rfl J27 fpandectref11_node_0 (.t rfl)),Dr rfl hb13 (.fieldAddr U27 rfl J3 (fapi_Unit_k5_1 none) (.t rfl)),Dr rfl hb13 (.load ty3 (.t rfl)),Dr rfl hb13 (.call C64 (r11_Nests_spec _ _ _ hv16) ⟨(.t rfl),(.t rfl),trivial⟩),Dr rfl hb13 (.notB (.t rfl)),Dn (.pickF (.t rfl) hb13 (.t rfl)),trivial⟩<|Aq<|W.cR hm (.t rfl) (fun hp18 hm=>?_) (fun hp18 hm=>?_)
     ·refine Aw<|Ao rfl (.assign .i64)<|WL.ns ?_
      cases hm
      exact W.ret1 () rfl (.t rfl) trivial
     ·refine W.skip<|Aq<|Aw<|Ao rfl (.assign .i64)<|An<|W.seq<|Aw<|Ao rfl (.assign .i64)<|An<|W.block ?_
      obtain ⟨s19,hs20,hk21⟩:=Bs hm
      clear hm
      refine W.loop (fun m (s:Int×Int)=>M.r11_wrong_loop1 l x parent m s.1 s.2=some s19) (fun s=>[(6,(I6.is s.1)),(7,(I6.is s.2)),(0,((tL tpandectref11_node).is l)),(3,(tpandectref11_node.ptr x)),(5,(I6.is parent))]) (fun s=>[]) _ ((0:Int),(1:Int)) hs20 ⟨.q rfl,.q rfl,.q rfl,.q rfl,.q rfl,trivial⟩ trivial ?_
      rintro n22 ⟨n0_,i⟩ hm
      try dsimp only at hm
      change W _ _ _ _ _ _ _ [(6,(I6.is n0_)),(7,(I6.is i)),(0,((tL tpandectref11_node).is l)),(3,(tpandectref11_node.ptr x)),(5,(I6.is parent))] []
      cases n22 with
      | zero=>rw [M.r11_wrong_loop1.eq_1] at hm;cases hm
      | succ n22=>
       rw [M.r11_wrong_loop1.eq_2] at hm
       refine W.seq<|Aw<|Am rfl rfl<|Am rfl rfl<|Ao rfl (.lenL U58 (.t rfl))<|Ao rfl (.ltI (.t rfl) (.t rfl))<|An<|W.cD hm (.t rfl) (fun hp24 hm=>?_) (fun hp24 hm=>?_)
       ·refine W.skip<|Aq<|W.seq<|W.block<|W.seq<|Aw<|Am rfl rfl<|WL.mv rfl rfl ?_
        obtain ⟨v4,hv25,hm⟩:=Bs hm
        refine Ao rfl (.idx hv25 U58 Z60 (.t rfl) (.t rfl))<|Ao rfl (.fieldAddr Tryz.underlying60 rfl J3 fpandectref11_node_2 (.t rfl))<|Ao rfl (.load ty3 (.t rfl))<|Am rfl rfl<|Ao rfl (.neI (.t rfl) (.t rfl))<|An<|W.cD hm (.t rfl) (fun hp27 hm=>?_) (fun hp27 hm=>?_)
        ·exact W.exit rfl<|Aq<|W.region<|Am rfl rfl<|WL.lenL (s:=0) (.t rfl) fun hl28=>Ao rfl (.addI1 (.t rfl) .i64 hp24 hl28)<|Ag rfl rfl<|WL.nil<|WN.again n22 (n0_,i+1) (Nat.lt_succ_self n22) hm ⟨.q rfl,.q rfl,.q rfl,.q rfl,.q rfl,trivial⟩ trivial
        ·refine W.skip<|Aq<|Aw<|WL.mv rfl rfl ?_
         obtain ⟨v5,hv29,hm⟩:=Bs hm
         refine Ao rfl (.addC hv29 (.t rfl) .i64)<|Ag rfl rfl<|An<|W.seq ?_
         obtain ⟨v6,hv30,hm⟩:=Bs hm
         rcases iteD hm with ⟨hp32,hb31,hm⟩ | ⟨hp32,hb31,hm⟩
         ·obtain ⟨v7,hv33,hm⟩:=Bs hm
          refine W.draw [.c _,.c _,.c _,.c _,.c _,.c _,.c _,.c _,.c _,.c _,.c _,.c _,.c _,.c _,.c _,.c _,.c _,.c _,.c _,.c _,.c _,.c _] [([],[0]),([],[7]),([0,1],[]),([2],[]),([3],[]),([4],[]),([],[3]),([6],[]),([7],[]),([5,8],[]),([9],[]),([10],[0]),([10],[7]),([10,11,12],[]),([10,13],[]),([10,14],[]),([10,15],[]),([10],[3]),([10,17],[]),([10,18],[]),([10,16,19],[]),([10,20],[])] Mx rfl rfl rfl rfl (by exact ⟨Dn (.move (.t rfl)),Dn (.move (.t rfl)),Dn (.idx hv30 U58 Z60 (.t rfl) (.t rfl)),Dn (.fieldAddr Tryz.underlying60 rfl J27 fpandectref11_node_0 (.t rfl)),Dn (.fieldAddr U27 rfl J3 (fapi_Unit_k5_1 none) (.t rfl)),Dn (.load ty3 (.t rfl)),Dn (.fieldAddr Tryz.underlying60 rfl J27 fpandectref11_node_0 (.t rfl)),Dn (.fieldAddr U27 rfl J3 (fapi_Unit_k5_1 none) (.t rfl)),Dn (.load ty3 (.t rfl)),Dn (.eqI (.t rfl) (.t rfl)),Dn (.move (.t rfl)),Dr rfl hb31 (.move (.t rfl)),Dr rfl hb31 (.move (.t rfl)),Dr rfl hb31 (.idx hv33 U58 Z60 (.t rfl) (.t rfl)),Dr rfl hb31 (.fieldAddr Tryz.underlying60 rfl J27 fpandectref11_node_0 (.t rfl)),Dr rfl hb31 (.fieldAddr U27 rfl J9 (fapi_Unit_k5_2 none) (.t rfl)),Dr rfl hb31 (.load ty9 (.t rfl)),Dr rfl hb31 (.fieldAddr Tryz.underlying60 rfl J27 fpandectref11_node_0 (.t rfl)),Dr rfl hb31 (.fieldAddr U27 rfl J9 (fapi_Unit_k5_2 none) (.t rfl)),Dr rfl hb31 (.load ty9 (.t rfl)),Dr rfl hb31 (.eqS (.t rfl) (.t rfl)),Dn (.pickT (.t rfl) hb31 (.t rfl)),trivial⟩)<|Aq<|W.cB hm (.t rfl) (fun hp35 hm=>?_) (fun hp35 hm=>?_)
          ·refine Aw<|Ao rfl (.assign .i64)<|WL.ns ?_
           have hr36:=Si hm
           clear hm
           subst hr36
           have hm:=hk21
           try dsimp only at hm
           cases hm
           exact W.ret1 () rfl (.t rfl) trivial
          ·exact W.skip<|WN.block<|Aq<|W.region<|Am rfl rfl<|WL.lenL (s:=0) (.t rfl) fun hl37=>Ao rfl (.addI1 (.t rfl) .i64 hp24 hl37)<|Ag rfl rfl<|WL.nil<|WN.again n22 (v5,i+1) (Nat.lt_succ_self n22) hm ⟨.q rfl,.q rfl,.q rfl,.q rfl,.q rfl,trivial⟩ trivial
         ·exact W.draw [.c _,.c _,.c _,.c _,.c _,.c _,.c _,.c _,.c _,.c _,.c _,.c _,.c _,.c _,.c _,.c _,.c _,.c _,.c _,.c _,.c _,.c _] [([],[0]),([],[7]),([0,1],[]),([2],[]),([3],[]),([4],[]),([],[3]),([6],[]),([7],[]),([5,8],[]),([9],[]),([10],[0]),([10],[7]),([10,11,12],[]),([10,13],[]),([10,14],[]),([10,15],[]),([10],[3]),([10,17],[]),([10,18],[]),([10,16,19],[]),([10,20],[])] Mx rfl rfl rfl rfl (by exact ⟨Dn (.move (.t rfl)),Dn (.move (.t rfl)),Dn (.idx hv30 U58 Z60 (.t rfl) (.t rfl)),Dn (.fieldAddr Tryz.underlying60 rfl J27 fpandectref11_node_0 (.t rfl)),Dn (.fieldAddr U27 rfl J3 (fapi_Unit_k5_1 none) (.t rfl)),Dn (.load ty3 (.t rfl)),Dn (.fieldAddr Tryz.underlying60 rfl J27 fpandectref11_node_0 (.t rfl)),Dn (.fieldAddr U27 rfl J3 (fapi_Unit_k5_1 none) (.t rfl)),Dn (.load ty3 (.t rfl)),Dn (.eqI (.t rfl) (.t rfl)),Dn (.move (.t rfl)),Dp rfl hb31,Dp rfl hb31,Dp rfl hb31,Dp rfl hb31,Dp rfl hb31,Dp rfl hb31,Dp rfl hb31,Dp rfl hb31,Dp rfl hb31,Dp rfl hb31,Dn (.pickF (.t rfl) hb31 .bool),trivial⟩)<|Aq<|W.condF (.t rfl)<|W.skip<|WN.block<|Aq<|W.region<|Am rfl rfl<|WL.lenL (s:=0) (.t rfl) fun hl38=>Ao rfl (.addI1 (.t rfl) .i64 hp24 hl38)<|Ag rfl rfl<|WL.nil<|WN.again n22 (v5,i+1) (Nat.lt_succ_self n22) hm ⟨.q rfl,.q rfl,.q rfl,.q rfl,.q rfl,trivial⟩ trivial
       ·refine W.exit rfl ?_
        have hr39:=Si hm
        clear hm
        subst hr39
        have hm:=hk21
        try dsimp only at hm
        refine Aq<|W.seq<|Aw<|Am rfl rfl<|Ao rfl (.geI (.t rfl) .i64)<|WL.mv rfl rfl ?_
        rcases iteD hm with ⟨hp41,hb40,hm⟩ | ⟨hp41,hb40,hm⟩
        ·refine Ap rfl hb40<|Ap rfl hb40<|Ap rfl hb40<|Ao rfl (.pickT (.t rfl) hb40 .bool)<|An<|W.condT (.t rfl)<|Aw<|Ao rfl (.assign .i64)<|WL.ns ?_
         cases hm
         exact W.ret1 () rfl (.t rfl) trivial
        ·refine Ax rfl hb40 (.move (.t rfl))<|Ax rfl hb40 (.lenL U58 (.t rfl))<|Ax rfl hb40 (.geI (.t rfl) .i64)<|Ao rfl (.pickF (.t rfl) hb40 (.t rfl))<|An<|W.cD hm (.t rfl) (fun hp43 hm=>?_) (fun hp43 hm=>?_)
         ·refine Aw<|Ao rfl (.assign .i64)<|WL.ns ?_
          cases hm
          exact W.ret1 () rfl (.t rfl) trivial
         ·refine W.skip<|Aq<|Aw<|Ao rfl (.assign .i64)<|WL.ns ?_
          cases hm
          exact W.ret1 () rfl (.t rfl) trivial
theorem r11_build_spec:∀ (n:Nat) (l:List pandectref11_node) (at0_:Int) (r:api_Unit),M.r11_build n l at0_=some r→FSpec Tryz.prog 35 [((tL tpandectref11_node).is l),(I6.is at0_)] (tapi_Unit.is r):=by
 intro n
 induction n with
 | zero=>intro l at0_ r hm;cases hm
 | succ n ih=>
  intro l at0_ r hm
  rw [M.r11_build.eq_2] at hm
  refine FSpec.of Tryz.func35 rfl rfl rfl fun g0=>Aw<|WL.opR rfl (OpR.alloc 4 ze27) fun b=>Ar<|Am rfl rfl<|WL.mv rfl rfl ?_
  obtain ⟨v,hv1,hm⟩:=Bs hm
  refine Ao rfl (.idx hv1 U58 Z60 (.t rfl) (.t rfl))<|Ao rfl (.fieldAddr Tryz.underlying60 rfl J27 fpandectref11_node_0 (.t rfl))<|Ao rfl (.load (t:=(tapi_Unit_k5 none)) ⟨ty27.agg,ty27.size⟩ (.t rfl))<|WL.opR rfl (OpR.alloc 5 ze27) fun b1=>WL.nkOwn (E:=27) (fapi_Unit_k5_5 none) 11 1000005 rfl<|WL.opU (OpR.storeB (b:=b1) 5 Z27 (Cellable.is (tapi_Unit_k5 none) v.u_) rfl (.t rfl) (.t rfl)) fun _=>An<|W.seq<|Aw<|WL.mv rfl rfl ?_
  obtain ⟨v1,hv2,hm⟩:=Bs hm
  refine Ao rfl (.addC hv2 (.t rfl) .i64)<|Ag rfl rfl<|An<|W.block ?_
  obtain ⟨s3,hs4,hk5⟩:=Bs hm
  clear hm
  refine W.loop (fun m (s:(Int×api_Unit)×Tok)=>M.r11_build_loop1 l at0_ (M.r11_build n) m s.1.1 s.1.2=some s3) (fun s=>[(6,(I6.is s.1.1)),(0,((tL tpandectref11_node).is l)),(1,(I6.is at0_)),(4,(Bp b 0)),(5,(Bp b1 0))]) (fun s=>[(1000005,Dec.Own tapi_Unit 27 s.2 s.1.2.Kids.length),(5,(Bx 8 true 27 ((tapi_Unit_k5 s.2).is s.1.2) b1)),(4,(Bx 8 true 27 (tapi_Unit.is zapi_Unit) b))]) _ ((v1,v.u_),(none:Tok)) hs4 ⟨.q rfl,.q rfl,.q rfl,.q rfl,.q rfl,trivial⟩ ⟨rfl,rfl,⟨rfl,rfl,⟨rfl,rfl,trivial⟩⟩⟩ ?_
  rintro n6 ⟨⟨i,u⟩,k⟩ hm
  try dsimp only at hm
  change W _ _ _ _ _ _ _ [(6,(I6.is i)),(0,((tL tpandectref11_node).is l)),(1,(I6.is at0_)),(4,(Bp b 0)),(5,(Bp b1 0))] [(1000005,Dec.Own tapi_Unit 27 k u.Kids.length),(5,(Bx 8 true 27 ((tapi_Unit_k5 k).is u) b1)),(4,(Bx 8 true 27 (tapi_Unit.is zapi_Unit) b))]
  cases n6 with
  | zero=>rw [M.r11_build_loop1.eq_1] at hm;cases hm
  | succ n6=>
   rw [M.r11_build_loop1.eq_2] at hm
   refine W.seq<|Aw<|Am rfl rfl<|Am rfl rfl<|Ao rfl (.lenL U58 (.t rfl))<|Ao rfl (.ltI (.t rfl) (.t rfl))<|An<|W.cD hm (.t rfl) (fun hp8 hm=>?_) (fun hp8 hm=>?_)
   ·refine W.skip<|Aq<|W.seq<|W.block<|Aw<|Am rfl rfl<|WL.mv rfl rfl ?_
    obtain ⟨v2,hv9,hm⟩:=Bs hm
    refine Ao rfl (.idx hv9 U58 Z60 (.t rfl) (.t rfl))<|Ao rfl (.fieldAddr Tryz.underlying60 rfl J3 fpandectref11_node_2 (.t rfl))<|Ao rfl (.load ty3 (.t rfl))<|Am rfl rfl<|Ao rfl (.eqI (.t rfl) (.t rfl))<|An<|W.cD hm (.t rfl) (fun hp11 hm=>?_) (fun hp11 hm=>?_)
    ·obtain ⟨build,hv12,hm⟩:=Bs hm
     obtain ⟨out,hv13,hm⟩:=Bs hm
     exact W.weakR (res':=[(1000005,Dec.Own tapi_Unit 27 k u.Kids.length),(5,(Bx 8 true 27 ((tapi_Unit_k5 k).is u) b1)),(4,(Bx 8 true 27 (tapi_Unit.is zapi_Unit) b))]) ⟨rfl,rfl,⟨rfl,rfl,⟨rfl,rfl,trivial⟩⟩⟩<|W.drawM [.c (Bp b1 7),.c (tO tapi_Unit k u.Kids),.c ((tL tpandectref11_node).is l),.c (I6.is i),.c (tapi_Unit.is build),.c ((tL tapi_Unit).is [build]),.f (fun cv=>(tO tapi_Unit (cv 0) out)),.c (Bp b1 7),.c Asn.any] [([],[5]),([0],[]),([],[0]),([],[6]),([2,3],[]),([4],[]),([1,5],[]),([],[5]),([6,7],[])] [6,8] [[],[],[],[],[],[],[true],[],[]] (fun m cv=>match m with | 0=>[(1000005,Dec.Own tapi_Unit 27 k u.Kids.length),(5,(Bx 8 true 27 ((tapi_Unit_k5 k).is u) b1)),(4,(Bx 8 true 27 (tapi_Unit.is zapi_Unit) b))] | 1=>[(1000005,Dec.Own tapi_Unit 27 (cv 0) out.length),(5,(Bx 8 true 27 ((tapi_Unit_k5 k).is u) b1)),(4,(Bx 8 true 27 (tapi_Unit.is zapi_Unit) b))] | _=>[(5,(Bx 8 true 27 ((tapi_Unit_k5 (cv 0)).is ({u with Kids:=out}:api_Unit)) b1)),(1000005,Dec.Own tapi_Unit 27 (cv 0) out.length),(4,(Bx 8 true 27 (tapi_Unit.is zapi_Unit) b))]) (fun _=>none) Mx rfl rfl rfl rfl rfl ⟨fun _ _ _ _=>rfl,⟨fun _ _ _ _=>rfl,⟨fun _ _ _ _=>rfl,⟨fun _ _ _ _=>rfl,⟨fun _ _ _ _=>rfl,⟨fun _ _ _ _=>rfl,⟨fun m hm c t=>by simp only [DA.at,upd_dep (r:=[true]) (j:=0) rfl hm],⟨fun _ _ _ _=>rfl,⟨fun _ _ _ _=>rfl,trivial⟩⟩⟩⟩⟩⟩⟩⟩⟩ rfl ⟨mo fun cv=>Op1.fieldAddrB (o:=0) U27 rfl J25 (.t rfl) rfl,⟨.inr ⟨fun cv=>[(5,(Bx 8 true 27 ((tapi_Unit_k5 k).is u) b1))],(AllUpTo.at ⟨⟨(fun _ _=>⟨rfl,rfl,trivial⟩),(fun hw=>absurd hw (by decide))⟩,(fun hw=>absurd hw (by decide))⟩),fun cv=>Op1.ofOT (Op1.loadBF (t:=(tOT tapi_Unit k)) (f:=fun x:api_Unit=>x.Kids) (u:=u) 5 rfl ⟨ty25.agg,ty25.size⟩ (fapi_Unit_k5_5 k) rfl (.t rfl))⟩,⟨mo fun cv=>Op1.move (.t rfl),⟨mo fun cv=>Op1.move (.t rfl),⟨mo fun cv=>Op1.call C35 (ih _ _ _ hv12) ⟨(.t rfl),(.t rfl),trivial⟩,⟨mo fun cv=>Op1.buildSlice (n:=1) (ys:=[(0,build)]) (z:=zapi_Unit) (xs:=[build]) U25 el27 ze27 ⟨rfl,(.t rfl),trivial⟩ (by simp) (by decide) rfl,⟨.inl rfl,⟨mo fun cv=>Op1.fieldAddrB (o:=0) U27 rfl J25 (.t rfl) rfl,⟨.inl rfl,trivial⟩⟩⟩⟩⟩⟩⟩⟩⟩ ⟨⟨_,_,_,[1000005],(fun cv=>[(1000005,Dec.Own tapi_Unit 27 (cv 0) out.length)]),rfl,rfl,rfl,rfl,fun _=>rfl,fun _ _=>rfl,fun cv=>OpR.appC (key:=1000005) hv13 U25 el27 (.t rfl) (.t rfl) rfl⟩,⟨⟨_,_,_,[5],(fun cv=>[(5,(Bx 8 true 27 ((tapi_Unit_k5 (cv 0)).is ({u with Kids:=out}:api_Unit)) b1))]),rfl,rfl,rfl,rfl,fun _=>rfl,fun _ _=>rfl,fun cv=>OpR.viaU (OpR.storeBFT (b:=b1) (s:=(tapi_Unit_k5 k)) (s':=(tapi_Unit_k5 (cv 0))) (t:=(tOT tapi_Unit (cv 0))) 5 rfl rfl ⟨ty25.agg,ty25.size⟩ (sTapi_Unit_k5 k (cv 0)) rfl (show 7+1≤8 by decide) (.t rfl) (Opd.toOT (.t rfl)))⟩,trivial⟩⟩ fun cv=>WN.block<|Aq<|W.region<|Am rfl rfl<|WL.lenL (s:=0) (.t rfl) fun hl14=>Ao rfl (.addI1 (.t rfl) .i64 hp8 hl14)<|Ag rfl rfl<|WL.nil<|WN.again n6 ((i+1,({u with Kids:=out}:api_Unit)),(cv 0)) (Nat.lt_succ_self n6) hm ⟨.q rfl,.q rfl,.q rfl,.q rfl,.q rfl,trivial⟩ ⟨rfl,rfl,⟨rfl,rfl,⟨rfl,rfl,trivial⟩⟩⟩
    ·exact W.skip<|WN.block<|Aq<|W.region<|Am rfl rfl<|WL.lenL (s:=0) (.t rfl) fun hl15=>Ao rfl (.addI1 (.t rfl) .i64 hp8 hl15)<|Ag rfl rfl<|WL.nil<|WN.again n6 ((i+1,u),k) (Nat.lt_succ_self n6) hm ⟨.q rfl,.q rfl,.q rfl,.q rfl,.q rfl,trivial⟩ ⟨rfl,rfl,⟨rfl,rfl,⟨rfl,rfl,trivial⟩⟩⟩
   ·refine W.exit rfl ?_
    have hr16:=Si hm
    clear hm
    subst hr16
    have hm:=hk5
    try dsimp only at hm
    refine Aq<|Aw<|Ao rfl (.loadB 5 Y27 Z27 rfl (.t rfl))<|WL.opU (OpR.storeB (b:=b) 4 Z27 (Cellable.is tapi_Unit u) rfl (.t rfl) (Opd.leT (leapi_Unit_k5 k) (.t rfl))) fun _=>WL.ns ?_
    cases hm
    exact W.retQ1 () rfl (ResAt.cell 4 Y27 Z27 rfl (.t rfl)) trivial
theorem r11_Parse_spec(n:Nat)(s0_:Str)(r:api_Unit×Int×Int)(hm:M.r11_Parse n s0_=some r):FSpec Tryz.prog 14 [(tS.is s0_)] (Asn.tuple3 (tapi_Unit.is r.1) (I6.is r.2.1) (I6.is r.2.2)):=by
 unfold M.r11_Parse at hm
 refine FSpec.of Tryz.func14 rfl rfl rfl fun g0=>Aw<|WL.opR rfl (OpR.alloc 2 ze27) fun b=>Ao rfl (.assign .i64)<|Ao rfl (.assign .i64)<|An<|W.seq<|Aw<|Am rfl rfl<|Ao rfl (.lenS U9 (.t rfl))<|Ao rfl (.gtI (.t rfl) .i64)<|An<|W.cD hm (.t rfl) (fun hp2 hm=>?_) (fun hp2 hm=>?_)
 ·refine Aw<|Ao rfl (.build (s:=tapi_Unit) (x:=(⟨zapi_Id,(0:Int),([]:Str),([]:List api_Word),([]:List api_Word),([]:List api_Unit)⟩:api_Unit)) zapi_Unit_f rfl U27 (zapi_Unit_sz _ U27) ze27 rfl)<|WL.opU (OpR.storeB (b:=b) 2 Z27 (Cellable.is tapi_Unit (⟨zapi_Id,(0:Int),([]:Str),([]:List api_Word),([]:List api_Word),([]:List api_Unit)⟩:api_Unit)) rfl (.t rfl) (.t rfl)) fun _=>Ao rfl (.assign .i64)<|Ao rfl (.assign .i64)<|WL.ns ?_
  cases hm
  exact W.retQ3 () rfl rfl (ResAt.cell 2 Y27 Z27 rfl (.t rfl)) (ResAt.tmp (.t rfl)) (ResAt.tmp (.t rfl)) trivial
 ·refine W.skip<|Aq<|Aw<|WL.opR rfl (OpR.buildSlice (n:=0) (ys:=[]) (z:=zpandectref11_node) (xs:=([]:List pandectref11_node)) 17 U58 el60 ze60 trivial (by simp) (by decide) rfl) fun k=>Ag rfl rfl<|Ar<|Ao rfl (.assign .i64)<|An<|W.seq<|Aw<|Ao rfl (.assign .i64)<|An<|W.block ?_
  obtain ⟨s3,hs4,hk5⟩:=Bs hm
  clear hm
  refine W.loop (fun m (s:((List pandectref11_node)×Int×Int×api_Unit)×Tok)=>M.r11_Parse_loop1 s0_ m s.1.1 s.1.2.1 s.1.2.2.1 s.1.2.2.2=some s3) (fun s=>[(5,(tO tpandectref11_node s.2 s.1.1)),(6,(I6.is s.1.2.1)),(7,(I6.is s.1.2.2.1)),(0,(tS.is s0_)),(2,(Bp b 0))]) (fun s=>[(17,Dec.Own tpandectref11_node 60 s.2 s.1.1.length),(2,(Bx 8 true 27 (tapi_Unit.is s.1.2.2.2) b))]) _ ((([]:List pandectref11_node),(0:Int),(0:Int),zapi_Unit),k) hs4 ⟨.q rfl,.q rfl,.q rfl,.q rfl,.q rfl,trivial⟩ ⟨rfl,rfl,⟨rfl,rfl,trivial⟩⟩ ?_
  rintro n6 ⟨⟨l,from0_,i,v⟩,k1⟩ hm
  try dsimp only at hm
  change W _ _ _ _ _ _ _ [(5,(tO tpandectref11_node k1 l)),(6,(I6.is from0_)),(7,(I6.is i)),(0,(tS.is s0_)),(2,(Bp b 0))] [(17,Dec.Own tpandectref11_node 60 k1 l.length),(2,(Bx 8 true 27 (tapi_Unit.is v) b))]
  cases n6 with
  | zero=>rw [M.r11_Parse_loop1.eq_1] at hm;cases hm
  | succ n6=>
   rw [M.r11_Parse_loop1.eq_2] at hm
   refine W.seq<|Aw<|Am rfl rfl<|Am rfl rfl<|Ao rfl (.lenS U9 (.t rfl))<|Ao rfl (.ltI (.t rfl) (.t rfl))<|An<|W.cD hm (.t rfl) (fun hp8 hm=>?_) (fun hp8 hm=>?_)
   ·refine W.skip<|Aq<|W.seq<|W.block<|W.seq<|Aw<|Am rfl rfl<|WL.mv rfl rfl ?_
    obtain ⟨b1,hv9,hm⟩:=Bs hm
    refine Ao rfl (.sidx hv9 U9 (.t rfl) (.t rfl))<|Ao rfl (.neI (.t rfl) (.int (inR8.2 (by omega))))<|An<|W.cD hm (.t rfl) (fun hp11 hm=>?_) (fun hp11 hm=>?_)
    ·exact W.exit rfl<|Aq<|W.region<|Am rfl rfl<|WL.lenS (s:=0) (.t rfl) fun hl12=>Ao rfl (.addI1 (.t rfl) .i64 hp8 hl12)<|Ag rfl rfl<|WL.nil<|WN.again n6 ((l,from0_,i+1,v),k1) (Nat.lt_succ_self n6) hm ⟨.q rfl,.q rfl,.q rfl,.q rfl,.q rfl,trivial⟩ ⟨rfl,rfl,⟨rfl,rfl,trivial⟩⟩
    ·refine W.skip<|Aq<|Aw<|Am rfl rfl<|Am rfl rfl<|WL.mv rfl rfl ?_
     obtain ⟨v1,hv13,hm⟩:=Bs hm
     refine Ao rfl (.sslc hv13 U9 (.t rfl) (.t rfl) (.t rfl)) ?_
     obtain ⟨read,hv14,hm⟩:=Bs hm
     refine Ao rfl (.call C20 (r11_Read_spec _ _ _ hv14) ⟨(.t rfl),trivial⟩)<|Am rfl rfl<|Ao rfl (.extract30 (.t rfl))<|Ao rfl (.extract31 (.t rfl))<|Ao rfl (.extract32 (.t rfl))<|WL.opR rfl (OpR.alloc 8 ze27) fun b2=>WL.opU (OpR.storeB (b:=b2) 8 Z27 (Cellable.is (tapi_Unit_k5 none) read.1) rfl (.t rfl) (.t rfl)) fun _=>WL.sealed (t:=(tapi_Unit_k5 none)) (u:=read.1) 8 8 rfl rfl<|Ag rfl rfl<|Ag rfl rfl<|An<|W.seq<|Aw<|Am rfl rfl<|Ao rfl (.notB (.t rfl))<|WL.ns ?_
     refine W.cR hm (.t rfl) (fun hp16 hm=>?_) (fun hp16 hm=>?_)
     ·refine Aw<|Ao rfl (.build (s:=tapi_Unit) (x:=(⟨zapi_Id,(0:Int),([]:Str),([]:List api_Word),([]:List api_Word),([]:List api_Unit)⟩:api_Unit)) zapi_Unit_f rfl U27 (zapi_Unit_sz _ U27) ze27 rfl)<|Am rfl rfl<|Ao rfl (.lenL U58 (Opd.own (.t rfl)))<|WL.opU (OpR.storeB (b:=b) 2 Z27 (Cellable.is tapi_Unit (⟨zapi_Id,(0:Int),([]:Str),([]:List api_Word),([]:List api_Word),([]:List api_Unit)⟩:api_Unit)) rfl (.t rfl) (.t rfl)) fun _=>Ag rfl rfl<|Ao rfl (.assign .i64)<|WL.ns ?_
      have hr17:=Si hm
      clear hm
      subst hr17
      have hm:=hk5
      try dsimp only at hm
      cases hm
      exact W.retQ3 () rfl rfl (ResAt.cell 2 Y27 Z27 rfl (.t rfl)) (ResAt.tmp (.t rfl)) (ResAt.tmp (.t rfl)) trivial
     ·refine W.skip<|Aq<|Aw<|Ao rfl (.load (t:=(tapi_Unit_k5 none)) ⟨ty27.agg,ty27.size⟩ (.t rfl))<|Am rfl rfl<|Ao rfl (.build (s:=tpandectref11_node) (x:=(⟨read.1,read.2.1,(-1:Int)⟩:pandectref11_node)) zpandectref11_node_f rfl Tryz.underlying60 (zpandectref11_node_sz _ Tryz.underlying60) ze60 ⟨_,(tapi_Unit_k5 none),read.1,_,_,rfl,Z27,(.t rfl),spandectref11_node_0,⟨_,I6,read.2.1,_,_,rfl,Z3,(.t rfl),spandectref11_node_1,⟨_,I6,(-1:Int),_,_,rfl,Z3,.i64,spandectref11_node_2,rfl⟩⟩⟩)<|WL.opR rfl (OpR.alloc 11 ze60) fun b3=>WL.opU (OpR.storeB (b:=b3) 11 Z60 (Cellable.is tpandectref11_node (⟨read.1,read.2.1,(-1:Int)⟩:pandectref11_node)) rfl (.t rfl) (.t rfl)) fun _=>An<|W.seq<|Aw<|Am rfl rfl<|Ao rfl (.loadB 11 Y60 Z60 rfl (.t rfl)) ?_
      obtain ⟨wrong,hv18,hm⟩:=Bs hm
      refine Ao rfl (.call C33 (r11_wrong_spec _ _ _ _ hv18) ⟨(Opd.own (.t rfl)),(.t rfl),trivial⟩)<|Ag rfl rfl<|Ar<|Am rfl rfl<|Ao rfl (.neI (.t rfl) .i64)<|An<|W.cD hm (.t rfl) (fun hp20 hm=>?_) (fun hp20 hm=>?_)
      ·refine Aw<|Ao rfl (.build (s:=tapi_Unit) (x:=(⟨zapi_Id,(0:Int),([]:Str),([]:List api_Word),([]:List api_Word),([]:List api_Unit)⟩:api_Unit)) zapi_Unit_f rfl U27 (zapi_Unit_sz _ U27) ze27 rfl)<|Am rfl rfl<|Ao rfl (.lenL U58 (Opd.own (.t rfl)))<|Am rfl rfl<|WL.opU (OpR.storeB (b:=b) 2 Z27 (Cellable.is tapi_Unit (⟨zapi_Id,(0:Int),([]:Str),([]:List api_Word),([]:List api_Word),([]:List api_Unit)⟩:api_Unit)) rfl (.t rfl) (.t rfl)) fun _=>Ag rfl rfl<|Ag rfl rfl<|WL.ns ?_
       have hr21:=Si hm
       clear hm
       subst hr21
       have hm:=hk5
       try dsimp only at hm
       cases hm
       exact W.retQ3 () rfl rfl (ResAt.cell 2 Y27 Z27 rfl (.t rfl)) (ResAt.tmp (.t rfl)) (ResAt.tmp (.t rfl)) trivial
      ·refine W.skip<|WN.seq ?_
       obtain ⟨s22,hs23,hk24⟩:=Bs hm
       clear hm
       refine W.join (fun s:pandectref11_node=>s=s22) (fun s=>[(0,(tS.is s0_)),(2,(Bp b 0)),(5,(tO tpandectref11_node k1 l)),(7,(I6.is i)),(11,(Bp b3 0))]) (fun s=>[(17,Dec.Own tpandectref11_node 60 k1 l.length),(11,(Bx 10 true 60 (tpandectref11_node.is s) b3)),(2,(Bx 8 true 27 (tapi_Unit.is v) b))]) ?_ ?_
       ·rintro x hj31
        try dsimp only at hj31
        subst hj31
        have hm:=hk24
        clear hk24
        try dsimp only at hm
        change W _ _ _ _ _ _ _ [(0,(tS.is s0_)),(2,(Bp b 0)),(5,(tO tpandectref11_node k1 l)),(7,(I6.is i)),(11,(Bp b3 0))] [(17,Dec.Own tpandectref11_node 60 k1 l.length),(11,(Bx 10 true 60 (tpandectref11_node.is x) b3)),(2,(Bx 8 true 27 (tapi_Unit.is v) b))]
        refine Aw<|Am rfl rfl<|Ao rfl (.loadB 11 Y60 Z60 rfl (.t rfl))<|Ao rfl (.buildSlice (n:=1) (ys:=[(0,x)]) (z:=zpandectref11_node) (xs:=[x]) U58 el60 ze60 ⟨rfl,(.t rfl),trivial⟩ (by simp) (by decide) rfl) ?_
        obtain ⟨out,hv28,hm⟩:=Bs hm
        refine WL.opR rfl (OpR.appC (key:=17) hv28 U58 el60 (.t rfl) (.t rfl) rfl) fun k2=>Ag rfl rfl<|WL.nr1<|Am rfl rfl<|WL.lenS (s:=0) (.t rfl) fun hl29=>Ao rfl (.addI1 (.t rfl) .i64 hp8 hl29)<|Ag rfl rfl<|WL.nil<|WN.block<|Aq<|W.region<|Am rfl rfl<|WL.lenS (s:=0) (.t rfl) fun hl30=>Ao rfl (.addI1 (.t rfl) .i64 hp8 hl30)<|Ag rfl rfl<|WL.nil ?_
        exact WN.again n6 ((out,i+1,i+1,v),k2) (Nat.lt_succ_self n6) hm ⟨.q rfl,.q rfl,.q rfl,.q rfl,.q rfl,trivial⟩ ⟨rfl,rfl,⟨rfl,rfl,trivial⟩⟩
       ·have hm:=hs23
        clear hs23
        refine Aw<|Am rfl rfl<|Ao rfl (.lenL U58 (Opd.own (.t rfl)))<|Ao rfl (.gtI (.t rfl) .i64)<|An<|W.cD hm (.t rfl) (fun hp26 hm=>?_) (fun hp26 hm=>?_)
        ·refine W.region<|Am rfl rfl<|WL.mv rfl rfl ?_
         obtain ⟨parent,hv27,hm⟩:=Bs hm
         exact Ao rfl (.call C34 (r11_parent_spec _ _ _ _ hv27) ⟨(Opd.own (.t rfl)),(.t rfl),trivial⟩)<|Ao rfl (.fieldAddrB (o:=0) Tryz.underlying60 rfl J3 (.t rfl) rfl)<|WL.opU (OpR.storeBF (b:=b3) 11 rfl ty3 spandectref11_node_2 rfl (by decide) (.t rfl) (.t rfl)) fun _=>WL.nil<|WN.meet ({(⟨read.1,read.2.1,(-1:Int)⟩:pandectref11_node) with parent_:=parent}:pandectref11_node) (Si hm) ⟨.q rfl,.q rfl,.q rfl,.q rfl,.q rfl,trivial⟩ ⟨rfl,rfl,⟨rfl,rfl,⟨rfl,rfl,trivial⟩⟩⟩
        ·exact W.skip<|WN.meet (⟨read.1,read.2.1,(-1:Int)⟩:pandectref11_node) (Si hm) ⟨.q rfl,.q rfl,.q rfl,.q rfl,.q rfl,trivial⟩ ⟨rfl,rfl,⟨rfl,rfl,⟨rfl,rfl,trivial⟩⟩⟩
   ·refine W.exit rfl ?_
    have hr32:=Si hm
    clear hm
    subst hr32
    have hm:=hk5
    try dsimp only at hm
    refine Aq<|W.seq ?_
    obtain ⟨s33,hs34,hk35⟩:=Bs hm
    clear hm
    refine W.join (fun s:Bool=>s=s33) (fun s=>[(75,(tB.is s)),(2,(Bp b 0)),(5,(tO tpandectref11_node k1 l))]) (fun s=>[(17,Dec.Own tpandectref11_node 60 k1 l.length),(2,(Bx 8 true 27 (tapi_Unit.is v) b))]) ?_ ?_
    ·rintro v2 hj41
     try dsimp only at hj41
     subst hj41
     have hm:=hk35
     clear hk35
     try dsimp only at hm
     change W _ _ _ _ _ _ _ [(75,(tB.is v2)),(2,(Bp b 0)),(5,(tO tpandectref11_node k1 l))] [(17,Dec.Own tpandectref11_node 60 k1 l.length),(2,(Bx 8 true 27 (tapi_Unit.is v) b))]
     refine W.cB hm (.t rfl) (fun hp39 hm=>?_) (fun hp39 hm=>?_)
     ·refine Aw<|Ao rfl (.build (s:=tapi_Unit) (x:=(⟨zapi_Id,(0:Int),([]:Str),([]:List api_Word),([]:List api_Word),([]:List api_Unit)⟩:api_Unit)) zapi_Unit_f rfl U27 (zapi_Unit_sz _ U27) ze27 rfl)<|Am rfl rfl<|Ao rfl (.lenL U58 (Opd.own (.t rfl)))<|WL.opU (OpR.storeB (b:=b) 2 Z27 (Cellable.is tapi_Unit (⟨zapi_Id,(0:Int),([]:Str),([]:List api_Word),([]:List api_Word),([]:List api_Unit)⟩:api_Unit)) rfl (.t rfl) (.t rfl)) fun _=>Ag rfl rfl<|Ao rfl (.assign .i64)<|WL.ns ?_
      cases hm
      exact W.retQ3 () rfl rfl (ResAt.cell 2 Y27 Z27 rfl (.t rfl)) (ResAt.tmp (.t rfl)) (ResAt.tmp (.t rfl)) trivial
     ·refine W.skip<|Aq<|Aw<|WL.mv rfl rfl ?_
      obtain ⟨build,hv40,hm⟩:=Bs hm
      refine Ao rfl (.call C35 (r11_build_spec _ _ _ _ hv40) ⟨(Opd.own (.t rfl)),.i64,trivial⟩)<|Am rfl rfl<|Ao rfl (.lenL U58 (Opd.own (.t rfl)))<|WL.opU (OpR.storeB (b:=b) 2 Z27 (Cellable.is tapi_Unit build) rfl (.t rfl) (.t rfl)) fun _=>Ag rfl rfl<|Ao rfl (.assign .i64)<|WL.ns ?_
      cases hm
      exact W.retQ3 () rfl rfl (ResAt.cell 2 Y27 Z27 rfl (.t rfl)) (ResAt.tmp (.t rfl)) (ResAt.tmp (.t rfl)) trivial
    ·have hm:=hs34
     clear hs34
     refine W.region<|Am rfl rfl<|Am rfl rfl<|Ao rfl (.lenS U9 (.t rfl))<|Ao rfl (.ltI (.t rfl) (.t rfl))<|WL.mv rfl rfl ?_
     rcases iteD hm with ⟨hp37,hb36,hm⟩ | ⟨hp37,hb36,hm⟩
     ·exact Ap rfl hb36<|Ap rfl hb36<|Ap rfl hb36<|Ao rfl (.pickT (.t rfl) hb36 .bool)<|WL.nil<|WN.meet true (Si hm) ⟨.q rfl,.q rfl,.q rfl,trivial⟩ ⟨rfl,rfl,⟨rfl,rfl,trivial⟩⟩
     ·exact Ax rfl hb36 (.move (.t rfl))<|Ax rfl hb36 (.lenL U58 (Opd.own (.t rfl)))<|Ax rfl hb36 (.eqI (.t rfl) .i64)<|Ao rfl (.pickF (.t rfl) hb36 (.t rfl))<|WL.nil<|WN.meet (decide ((l.length:Int)=(0:Int))) (Si hm) ⟨.q rfl,.q rfl,.q rfl,trivial⟩ ⟨rfl,rfl,⟨rfl,rfl,trivial⟩⟩
theorem r11_Bare_spec:∀ (n:Nat) (u:api_Unit) (r:Bool),M.r11_Bare n u=some r→FSpec Tryz.prog 16 [(tapi_Unit.is u)] (tB.is r):=by
 intro n
 induction n with
 | zero=>intro u r hm;cases hm
 | succ n ih=>
  intro u r hm
  rw [M.r11_Bare.eq_2] at hm
  refine FSpec.of Tryz.func16 rfl rfl rfl fun g0=>Aw<|Ao rfl (.box (.t rfl))<|Ao rfl (.assign .bool)<|An<|W.seq<|Aw<|Ao rfl (.fieldAddr U27 rfl J23 fapi_Unit_0 (.t rfl))<|Ao rfl (.load ty23 (.t rfl))<|Ao rfl (.build (s:=tapi_Id) (x:=(⟨(0:Int),(0:Int),(0:Int)⟩:api_Id)) zapi_Id_f rfl U23 (zapi_Id_sz _ U23) ze23 rfl)<|Ao rfl (.neSt (D:=2) rfl (by decide) eg23 eq23 (.t rfl) (.t rfl))<|An<|W.cD hm (.t rfl) (fun hp2 hm=>?_) (fun hp2 hm=>?_)
  ·refine Aw<|Ao rfl (.assign .bool)<|WL.ns ?_
   cases hm
   exact W.ret1 () rfl (.t rfl) trivial
  ·refine W.skip<|Aq<|W.seq<|Aw<|Ao rfl (.assign .i64)<|An<|W.block ?_
   obtain ⟨s3,hs4,hk5⟩:=Bs hm
   clear hm
   refine W.loop (fun m (s:Int)=>M.r11_Bare_loop1 u m s=some s3) (fun s=>[(3,(I6.is s)),(1,(tapi_Unit.ptr u))]) (fun s=>[]) _ (0:Int) hs4 ⟨.q rfl,.q rfl,trivial⟩ trivial ?_
   rintro n6 i hm
   try dsimp only at hm
   change W _ _ _ _ _ _ _ [(3,(I6.is i)),(1,(tapi_Unit.ptr u))] []
   cases n6 with
   | zero=>rw [M.r11_Bare_loop1.eq_1] at hm;cases hm
   | succ n6=>
    rw [M.r11_Bare_loop1.eq_2] at hm
    refine W.seq<|Aw<|Am rfl rfl<|Ao rfl (.fieldAddr U27 rfl J24 fapi_Unit_3 (.t rfl))<|Ao rfl (.load ty24 (.t rfl))<|Ao rfl (.lenL U24 (.t rfl))<|Ao rfl (.ltI (.t rfl) (.t rfl))<|An<|W.cD hm (.t rfl) (fun hp8 hm=>?_) (fun hp8 hm=>?_)
    ·refine W.skip<|Aq<|W.seq<|W.block<|Aw<|Ao rfl (.fieldAddr U27 rfl J24 fapi_Unit_3 (.t rfl))<|Ao rfl (.load ty24 (.t rfl))<|WL.mv rfl rfl ?_
     obtain ⟨v,hv9,hm⟩:=Bs hm
     refine Ao rfl (.idx hv9 U24 Z68 (.t rfl) (.t rfl))<|Ao rfl (.fieldAddr U68 rfl J66 fapi_Word_1 (.t rfl))<|Ao rfl (.load ty66 (.t rfl))<|Ao rfl (.build (s:=tapi_Mark) (x:=(⟨(0:Int),(0:Int),(0:Int)⟩:api_Mark)) zapi_Mark_f rfl U66 (zapi_Mark_sz _ U66) ze66 rfl)<|Ao rfl (.neSt (D:=2) rfl (by decide) eg66 eq66 (.t rfl) (.t rfl))<|An<|W.cD hm (.t rfl) (fun hp11 hm=>?_) (fun hp11 hm=>?_)
     ·refine Aw<|Ao rfl (.assign .bool)<|WL.ns ?_
      have hr12:=Si hm
      clear hm
      subst hr12
      have hm:=hk5
      try dsimp only at hm
      cases hm
      exact W.ret1 () rfl (.t rfl) trivial
     ·exact W.skip<|WN.block<|Aq<|W.region<|Am rfl rfl<|WL.lenL (s:=12) (.t rfl) fun hl13=>Ao rfl (.addI1 (.t rfl) .i64 hp8 hl13)<|Ag rfl rfl<|WL.nil<|WN.again n6 (i+1) (Nat.lt_succ_self n6) hm ⟨.q rfl,.q rfl,trivial⟩ trivial
    ·refine W.exit rfl ?_
     have hr14:=Si hm
     clear hm
     subst hr14
     have hm:=hk5
     try dsimp only at hm
     refine Aq<|W.seq<|Aw<|Ao rfl (.assign .i64)<|An<|W.block ?_
     obtain ⟨s15,hs16,hk17⟩:=Bs hm
     clear hm
     refine W.loop (fun m (s:Int)=>M.r11_Bare_loop2 u m s=some s15) (fun s=>[(4,(I6.is s)),(1,(tapi_Unit.ptr u))]) (fun s=>[]) _ (0:Int) hs16 ⟨.q rfl,.q rfl,trivial⟩ trivial ?_
     rintro n18 i1 hm
     try dsimp only at hm
     change W _ _ _ _ _ _ _ [(4,(I6.is i1)),(1,(tapi_Unit.ptr u))] []
     cases n18 with
     | zero=>rw [M.r11_Bare_loop2.eq_1] at hm;cases hm
     | succ n18=>
      rw [M.r11_Bare_loop2.eq_2] at hm
      refine W.seq<|Aw<|Am rfl rfl<|Ao rfl (.fieldAddr U27 rfl J24 fapi_Unit_4 (.t rfl))<|Ao rfl (.load ty24 (.t rfl))<|Ao rfl (.lenL U24 (.t rfl))<|Ao rfl (.ltI (.t rfl) (.t rfl))<|An<|W.cD hm (.t rfl) (fun hp20 hm=>?_) (fun hp20 hm=>?_)
      ·refine W.skip<|Aq<|W.seq<|W.block<|Aw<|Ao rfl (.fieldAddr U27 rfl J24 fapi_Unit_4 (.t rfl))<|Ao rfl (.load ty24 (.t rfl))<|WL.mv rfl rfl ?_
       obtain ⟨v1,hv21,hm⟩:=Bs hm
       refine Ao rfl (.idx hv21 U24 Z68 (.t rfl) (.t rfl))<|Ao rfl (.fieldAddr U68 rfl J66 fapi_Word_1 (.t rfl))<|Ao rfl (.load ty66 (.t rfl))<|Ao rfl (.build (s:=tapi_Mark) (x:=(⟨(0:Int),(0:Int),(0:Int)⟩:api_Mark)) zapi_Mark_f rfl U66 (zapi_Mark_sz _ U66) ze66 rfl)<|Ao rfl (.neSt (D:=2) rfl (by decide) eg66 eq66 (.t rfl) (.t rfl))<|An<|W.cD hm (.t rfl) (fun hp23 hm=>?_) (fun hp23 hm=>?_)
       ·refine Aw<|Ao rfl (.assign .bool)<|WL.ns ?_
        have hr24:=Si hm
        clear hm
        subst hr24
        have hm:=hk17
        try dsimp only at hm
        cases hm
        exact W.ret1 () rfl (.t rfl) trivial
       ·exact W.skip<|WN.block<|Aq<|W.region<|Am rfl rfl<|WL.lenL (s:=27) (.t rfl) fun hl25=>Ao rfl (.addI1 (.t rfl) .i64 hp20 hl25)<|Ag rfl rfl<|WL.nil<|WN.again n18 (i1+1) (Nat.lt_succ_self n18) hm ⟨.q rfl,.q rfl,trivial⟩ trivial
      ·refine W.exit rfl ?_
       have hr26:=Si hm
       clear hm
       subst hr26
       have hm:=hk17
       try dsimp only at hm
       refine Aq<|W.seq<|Aw<|Ao rfl (.assign .i64)<|An<|W.block ?_
       obtain ⟨s27,hs28,hk29⟩:=Bs hm
       clear hm
       refine W.loop (fun m (s:Int)=>M.r11_Bare_loop3 u (M.r11_Bare n) m s=some s27) (fun s=>[(5,(I6.is s)),(1,(tapi_Unit.ptr u))]) (fun s=>[]) _ (0:Int) hs28 ⟨.q rfl,.q rfl,trivial⟩ trivial ?_
       rintro n30 i2 hm
       try dsimp only at hm
       change W _ _ _ _ _ _ _ [(5,(I6.is i2)),(1,(tapi_Unit.ptr u))] []
       cases n30 with
       | zero=>rw [M.r11_Bare_loop3.eq_1] at hm;cases hm
       | succ n30=>
        rw [M.r11_Bare_loop3.eq_2] at hm
        refine W.seq<|Aw<|Am rfl rfl<|Ao rfl (.fieldAddr U27 rfl J25 fapi_Unit_5 (.t rfl))<|Ao rfl (.load ty25 (.t rfl))<|Ao rfl (.lenL U25 (.t rfl))<|Ao rfl (.ltI (.t rfl) (.t rfl))<|An<|W.cD hm (.t rfl) (fun hp32 hm=>?_) (fun hp32 hm=>?_)
        ·refine W.skip<|Aq<|W.seq<|W.block<|Aw<|Ao rfl (.fieldAddr U27 rfl J25 fapi_Unit_5 (.t rfl))<|Ao rfl (.load ty25 (.t rfl))<|WL.mv rfl rfl ?_
         obtain ⟨v2,hv33,hm⟩:=Bs hm
         refine Ao rfl (.idx hv33 U25 Z27 (.t rfl) (.t rfl))<|Ao rfl (.load ty27 (.t rfl)) ?_
         obtain ⟨bare,hv34,hm⟩:=Bs hm
         refine Ao rfl (.call C16 (ih _ _ hv34) ⟨(.t rfl),trivial⟩)<|Ao rfl (.notB (.t rfl))<|An<|W.cR hm (.t rfl) (fun hp36 hm=>?_) (fun hp36 hm=>?_)
         ·refine Aw<|Ao rfl (.assign .bool)<|WL.ns ?_
          have hr37:=Si hm
          clear hm
          subst hr37
          have hm:=hk29
          try dsimp only at hm
          cases hm
          exact W.ret1 () rfl (.t rfl) trivial
         ·exact W.skip<|WN.block<|Aq<|W.region<|Am rfl rfl<|WL.lenL (s:=42) (.t rfl) fun hl38=>Ao rfl (.addI1 (.t rfl) .i64 hp32 hl38)<|Ag rfl rfl<|WL.nil<|WN.again n30 (i2+1) (Nat.lt_succ_self n30) hm ⟨.q rfl,.q rfl,trivial⟩ trivial
        ·refine W.exit rfl ?_
         have hr39:=Si hm
         clear hm
         subst hr39
         have hm:=hk29
         try dsimp only at hm
         refine Aq<|Aw<|Ao rfl (.assign .bool)<|WL.ns ?_
         cases hm
         exact W.ret1 () rfl (.t rfl) trivial
theorem law11_PlaintextParse_spec(n:Nat)(s0_:Str)(r:Bool)(hm:M.law11_PlaintextParse n s0_=some r):FSpecR Tryz.prog 4 [(tS.is s0_)] [(700000,Gl (tA 8 tS) 0 gv0),(700001,GlE 1),(700002,Gl (tA 8 (tL I6)) 2 gv2)] (fun _:Unit=>(tB.is r)) (fun _=>[]):=by
 unfold M.law11_PlaintextParse at hm
 refine FSpecR.of Tryz.func4 rfl rfl rfl fun g0=>Aw<|Ao rfl (.assign .bool)<|An<|W.seq ?_
 obtain ⟨s1,hs2,hk3⟩:=Bs hm
 clear hm
 refine W.join (fun s:Bool=>s=s1) (fun s=>[(15,(tB.is s)),(0,(tS.is s0_))]) (fun s=>[(700000,Gl (tA 8 tS) 0 gv0),(700001,GlE 1),(700002,Gl (tA 8 (tL I6)) 2 gv2)]) ?_ ?_
 ·rintro v hj20
  try dsimp only at hj20
  subst hj20
  have hm:=hk3
  clear hk3
  try dsimp only at hm
  change W _ _ _ _ _ _ _ [(15,(tB.is v)),(0,(tS.is s0_))] [(700000,Gl (tA 8 tS) 0 gv0),(700001,GlE 1),(700002,Gl (tA 8 (tL I6)) 2 gv2)]
  refine W.cB hm (.t rfl) (fun hp8 hm=>?_) (fun hp8 hm=>?_)
  ·refine W.sr ?_
   obtain ⟨awake1,hv9,hm⟩:=Bs hm
   refine Ao rfl (.callG (rin:=[(700000,Gl (tA 8 tS) 0 gv0),(700001,GlE 1),(700002,Gl (tA 8 (tL I6)) 2 gv2)]) C9 (law11_awake_spec _ _ hv9) ⟨rfl,rfl,rfl,trivial⟩ ⟨rfl,rfl,⟨rfl,rfl,⟨rfl,rfl,trivial⟩⟩⟩ trivial)<|Ag rfl rfl<|WL.ns ?_
   cases hm
   exact W.ret1 () rfl (.t rfl) trivial
  ·refine W.skip<|Aq<|Aw<|WL.mv rfl rfl ?_
   obtain ⟨parse,hv10,hm⟩:=Bs hm
   refine Ao rfl (.callG (rin:=[(700000,Gl (tA 8 tS) 0 gv0),(700001,GlE 1),(700002,Gl (tA 8 (tL I6)) 2 gv2)]) C13 (plaintext_Parse_spec _ _ _ hv10) ⟨rfl,rfl,rfl,trivial⟩ ⟨rfl,rfl,⟨rfl,rfl,⟨rfl,rfl,trivial⟩⟩⟩ ⟨(.t rfl),trivial⟩)<|Am rfl rfl<|Ao rfl (.extract30 (.t rfl))<|Ao rfl (.extract31 (.t rfl))<|Ao rfl (.extract32 (.t rfl))<|WL.opR rfl (OpR.alloc 3 ze27) fun b=>WL.opU (OpR.storeB (b:=b) 3 Z27 (Cellable.is tapi_Unit parse.1) rfl (.t rfl) (.t rfl)) fun _=>WL.sealed (t:=tapi_Unit) (u:=parse.1) 3 3 rfl rfl<|Ag rfl rfl<|Ag rfl rfl<|Ar<|WL.mv rfl rfl ?_
   obtain ⟨parse1,hv11,hm⟩:=Bs hm
   refine Ao rfl (.call C14 (r11_Parse_spec _ _ _ hv11) ⟨(.t rfl),trivial⟩)<|Am rfl rfl<|Ao rfl (.extract30 (.t rfl))<|Ao rfl (.extract31 (.t rfl))<|Ao rfl (.extract32 (.t rfl))<|WL.opR rfl (OpR.alloc 6 ze27) fun b1=>WL.opU (OpR.storeB (b:=b1) 6 Z27 (Cellable.is tapi_Unit parse1.1) rfl (.t rfl) (.t rfl)) fun _=>WL.sealed (t:=tapi_Unit) (u:=parse1.1) 6 6 rfl rfl<|Ag rfl rfl<|Ag rfl rfl<|Ar<|Am rfl rfl<|Am rfl rfl<|Ao rfl (.eqI (.t rfl) (.t rfl))<|WL.mv rfl rfl ?_
   rcases iteD hm with ⟨hp13,hb12,hm⟩ | ⟨hp13,hb12,hm⟩
   ·refine Ax rfl hb12 (.move (.t rfl))<|Ax rfl hb12 (.move (.t rfl))<|Ax rfl hb12 (.eqI (.t rfl) (.t rfl))<|Ao rfl (.pickT (.t rfl) hb12 (.t rfl))<|WL.mv rfl rfl ?_
    rcases iteD hm with ⟨hp15,hb14,hm⟩ | ⟨hp15,hb14,hm⟩
    ·refine Ax rfl hb14 (.load ty27 (.t rfl))<|Ax rfl hb14 (.load ty27 (.t rfl)) ?_
     obtain ⟨says,hv16,hm⟩:=Bs hm
     refine Ax rfl hb14 (.call C15 (r11_Says_spec _ _ _ _ hv16) ⟨(.t rfl),(.t rfl),trivial⟩)<|Ao rfl (.pickT (.t rfl) hb14 (.t rfl))<|WL.mv rfl rfl ?_
     rcases iteB hm with ⟨hp18,hb17,hm⟩ | ⟨hp18,hb17,hm⟩
     ·refine Ax rfl hb17 (.load ty27 (.t rfl)) ?_
      obtain ⟨bare,hv19,hm⟩:=Bs hm
      refine Ax rfl hb17 (.call C16 (r11_Bare_spec _ _ _ hv19) ⟨(.t rfl),trivial⟩)<|Ao rfl (.pickT (.t rfl) hb17 (.t rfl))<|Ag rfl rfl<|WL.ns ?_
      cases hm
      exact W.ret1 () rfl (.t rfl) trivial
     ·refine Ap rfl hb17<|Ap rfl hb17<|Ao rfl (.pickF (.t rfl) hb17 .bool)<|Ag rfl rfl<|WL.ns ?_
      cases hm
      exact W.ret1 () rfl (.t rfl) trivial
    ·refine Ap rfl hb14<|Ap rfl hb14<|Ap rfl hb14<|Ao rfl (.pickF (.t rfl) hb14 .bool)<|Am rfl rfl<|Ap rfl rfl<|Ap rfl rfl<|Ao rfl (.pickF (.t rfl) rfl .bool)<|Ag rfl rfl<|WL.ns ?_
     cases hm
     exact W.ret1 () rfl (.t rfl) trivial
   ·refine Ap rfl hb12<|Ap rfl hb12<|Ap rfl hb12<|Ao rfl (.pickF (.t rfl) hb12 .bool)<|Am rfl rfl<|Ap rfl rfl<|Ap rfl rfl<|Ap rfl rfl<|Ao rfl (.pickF (.t rfl) rfl .bool)<|Am rfl rfl<|Ap rfl rfl<|Ap rfl rfl<|Ao rfl (.pickF (.t rfl) rfl .bool)<|Ag rfl rfl<|WL.ns ?_
    cases hm
    exact W.ret1 () rfl (.t rfl) trivial
 ·have hm:=hs2
  clear hs2
  refine W.region ?_
  obtain ⟨awake,hv4,hm⟩:=Bs hm
  refine Ao rfl (.callG (rin:=[(700000,Gl (tA 8 tS) 0 gv0),(700001,GlE 1),(700002,Gl (tA 8 (tL I6)) 2 gv2)]) C9 (law11_awake_spec _ _ hv4) ⟨rfl,rfl,rfl,trivial⟩ ⟨rfl,rfl,⟨rfl,rfl,⟨rfl,rfl,trivial⟩⟩⟩ trivial)<|Ao rfl (.notB (.t rfl))<|WL.mv rfl rfl ?_
  rcases iteR hm with ⟨hp6,hb5,hm⟩ | ⟨hp6,hb5,hm⟩
  ·exact Ap rfl hb5<|Ap rfl hb5<|Ap rfl hb5<|Ao rfl (.pickT (.t rfl) hb5 .bool)<|WL.nil<|WN.meet true (Si hm) ⟨.q rfl,.q rfl,trivial⟩ ⟨rfl,rfl,⟨rfl,rfl,⟨rfl,rfl,trivial⟩⟩⟩
  ·exact Ax rfl hb5 (.move (.t rfl))<|Ax rfl hb5 (.lenS U9 (.t rfl))<|Ax rfl hb5 (.gtI (.t rfl) .i64)<|Ao rfl (.pickF (.t rfl) hb5 (.t rfl))<|WL.nil<|WN.meet (decide ((6000:Int)< (s0_.length:Int))) (Si hm) ⟨.q rfl,.q rfl,trivial⟩ ⟨rfl,rfl,⟨rfl,rfl,⟨rfl,rfl,trivial⟩⟩⟩
theorem law11_PlaintextFormatLine_spec(n:Nat)(u:api_Unit)(depth:Int)(r:Bool)(hm:M.law11_PlaintextFormatLine n u depth=some r):FSpecR Tryz.prog 5 [(tapi_Unit.is u),(I6.is depth)] [(700000,Gl (tA 8 tS) 0 gv0),(700001,GlE 1),(700002,Gl (tA 8 (tL I6)) 2 gv2)] (fun _:Unit=>(tB.is r)) (fun _=>[]):=by
 unfold M.law11_PlaintextFormatLine at hm
 refine FSpecR.of Tryz.func5 rfl rfl rfl fun g0=>Aw<|WL.opR rfl (OpR.boxB 2 (Cellable.is tapi_Unit u) (.t rfl)) fun b=>Ao rfl (.assign .bool)<|An<|W.seq ?_
 obtain ⟨s1,hs2,hk3⟩:=Bs hm
 clear hm
 refine W.join (fun s:Bool=>s=s1) (fun s=>[(15,(tB.is s)),(1,(I6.is depth)),(2,(Bp b 0))]) (fun s=>[(2,(Bx 8 true 27 (tapi_Unit.is u) b)),(700000,Gl (tA 8 tS) 0 gv0),(700001,GlE 1),(700002,Gl (tA 8 (tL I6)) 2 gv2)]) ?_ ?_
 ·rintro v hj28
  try dsimp only at hj28
  subst hj28
  have hm:=hk3
  clear hk3
  try dsimp only at hm
  change W _ _ _ _ _ _ _ [(15,(tB.is v)),(1,(I6.is depth)),(2,(Bp b 0))] [(2,(Bx 8 true 27 (tapi_Unit.is u) b)),(700000,Gl (tA 8 tS) 0 gv0),(700001,GlE 1),(700002,Gl (tA 8 (tL I6)) 2 gv2)]
  refine W.cB hm (.t rfl) (fun hp9 hm=>?_) (fun hp9 hm=>?_)
  ·refine W.sr ?_
   obtain ⟨awake1,hv10,hm⟩:=Bs hm
   refine Ao rfl (.callG (rin:=[(700000,Gl (tA 8 tS) 0 gv0),(700001,GlE 1),(700002,Gl (tA 8 (tL I6)) 2 gv2)]) C9 (law11_awake_spec _ _ hv10) ⟨rfl,rfl,rfl,trivial⟩ ⟨rfl,rfl,⟨rfl,rfl,⟨rfl,rfl,trivial⟩⟩⟩ trivial)<|Ag rfl rfl<|WL.ns ?_
   cases hm
   exact W.ret1 () rfl (.t rfl) trivial
  ·refine W.skip<|Aq<|Aw<|Ao rfl (.loadB 2 Y27 Z27 rfl (.t rfl))<|WL.mv rfl rfl ?_
   obtain ⟨format,hv11,hm⟩:=Bs hm
   refine Ao rfl (.callG (rin:=[(700000,Gl (tA 8 tS) 0 gv0),(700002,Gl (tA 8 (tL I6)) 2 gv2)]) C17 (plaintext_FormatLine_spec _ _ _ _ hv11) ⟨rfl,rfl,trivial⟩ ⟨rfl,rfl,⟨rfl,rfl,trivial⟩⟩ ⟨(.t rfl),(.t rfl),trivial⟩)<|Ag rfl rfl<|An<|W.seq<|Aw<|Am rfl rfl<|Ao rfl (.loadB 2 Y27 Z27 rfl (.t rfl))<|WL.mv rfl rfl ?_
   obtain ⟨line,hv12,hm⟩:=Bs hm
   refine Ao rfl (.call C18 (r11_Line_spec _ _ _ _ hv12) ⟨(.t rfl),(.t rfl),trivial⟩)<|Ao rfl (.neS (.t rfl) (.t rfl))<|An<|W.cB hm (.t rfl) (fun hp14 hm=>?_) (fun hp14 hm=>?_)
   ·refine Aw<|Ao rfl (.assign .bool)<|WL.ns ?_
    cases hm
    exact W.ret1 () rfl (.t rfl) trivial
   ·refine W.skip<|Aq<|W.seq<|Aw<|Am rfl rfl<|Ao rfl (.eqS (.t rfl) (.str rfl (by decide)))<|An<|W.cB hm (.t rfl) (fun hp16 hm=>?_) (fun hp16 hm=>?_)
    ·refine Aw<|Ao rfl (.assign .bool)<|WL.ns ?_
     cases hm
     exact W.ret1 () rfl (.t rfl) trivial
    ·refine W.skip<|Aq<|Aw<|WL.mv rfl rfl ?_
     obtain ⟨parsel,hv17,hm⟩:=Bs hm
     refine Ao rfl (.callG (rin:=[(700000,Gl (tA 8 tS) 0 gv0),(700001,GlE 1),(700002,Gl (tA 8 (tL I6)) 2 gv2)]) C19 (plaintext_ParseLine_spec _ _ _ hv17) ⟨rfl,rfl,rfl,trivial⟩ ⟨rfl,rfl,⟨rfl,rfl,⟨rfl,rfl,trivial⟩⟩⟩ ⟨(.t rfl),trivial⟩)<|Am rfl rfl<|Ao rfl (.extract30 (.t rfl))<|Ao rfl (.extract31 (.t rfl))<|Ao rfl (.extract32 (.t rfl))<|WL.opR rfl (OpR.alloc 6 ze27) fun b1=>WL.opU (OpR.storeB (b:=b1) 6 Z27 (Cellable.is (tapi_Unit_k5 none) parsel.1) rfl (.t rfl) (.t rfl)) fun _=>WL.sealed (t:=(tapi_Unit_k5 none)) (u:=parsel.1) 6 6 rfl rfl<|Ag rfl rfl<|Ag rfl rfl<|Ar<|Ao rfl (.fieldAddrB (o:=0) U27 rfl J25 (.t rfl) rfl)<|WL.opU (OpR.storeBF (b:=b) 2 rfl ty25 sapi_Unit_5 rfl (by decide) (.t rfl) (.nil (t:=tapi_Unit))) fun _=>Ar<|Am rfl rfl<|Ao rfl (.eqI (.t rfl) .i64) ?_
     refine WL.mv rfl rfl ?_
     rcases iteD hm with ⟨hp19,hb18,hm⟩ | ⟨hp19,hb18,hm⟩
     ·refine Ax rfl hb18 (.move (.t rfl))<|Ax rfl hb18 (.move (.t rfl))<|Ax rfl hb18 (.eqI (.t rfl) (.t rfl))<|Ao rfl (.pickT (.t rfl) hb18 (.t rfl))<|WL.mv rfl rfl ?_
      rcases iteD hm with ⟨hp21,hb20,hm⟩ | ⟨hp21,hb20,hm⟩
      ·refine Ax rfl hb20 (.load (t:=(tapi_Unit_k5 none)) ⟨ty27.agg,ty27.size⟩ (.t rfl))<|Ax rfl hb20 (.loadB 2 Y27 Z27 rfl (.t rfl)) ?_
       obtain ⟨says,hv22,hm⟩:=Bs hm
       refine Ax rfl hb20 (.call C15 (r11_Says_spec _ _ _ _ hv22) ⟨(Opd.leT (leapi_Unit_k5 none) (.t rfl)),(.t rfl),trivial⟩)<|Ao rfl (.pickT (.t rfl) hb20 (.t rfl))<|WL.mv rfl rfl ?_
       rcases iteB hm with ⟨hp24,hb23,hm⟩ | ⟨hp24,hb23,hm⟩
       ·refine Ax rfl hb23 (.load (t:=(tapi_Unit_k5 none)) ⟨ty27.agg,ty27.size⟩ (.t rfl)) ?_
        obtain ⟨bare,hv25,hm⟩:=Bs hm
        refine Ax rfl hb23 (.call C16 (r11_Bare_spec _ _ _ hv25) ⟨(Opd.leT (leapi_Unit_k5 none) (.t rfl)),trivial⟩)<|Ao rfl (.pickT (.t rfl) hb23 (.t rfl))<|WL.mv rfl rfl ?_
        rcases iteB hm with ⟨hp27,hb26,hm⟩ | ⟨hp27,hb26,hm⟩
        ·refine Ax rfl hb26 (.fieldAddr U27 rfl J25 fapi_Unit_5 (Opd.lePtr (leapi_Unit_k5 none) (.t rfl)))<|Ax rfl hb26 (.load ty25 (.t rfl))<|Ax rfl hb26 (.lenL U25 (.t rfl))<|Ax rfl hb26 (.eqI (.t rfl) .i64)<|Ao rfl (.pickT (.t rfl) hb26 (.t rfl))<|Ag rfl rfl<|WL.ns ?_
         cases hm
         exact W.ret1 () rfl (.t rfl) trivial
        ·refine Ap rfl hb26<|Ap rfl hb26<|Ap rfl hb26<|Ap rfl hb26<|Ao rfl (.pickF (.t rfl) hb26 .bool)<|Ag rfl rfl<|WL.ns ?_
         cases hm
         exact W.ret1 () rfl (.t rfl) trivial
       ·refine Ap rfl hb23<|Ap rfl hb23<|Ao rfl (.pickF (.t rfl) hb23 .bool)<|Am rfl rfl<|Ap rfl rfl<|Ap rfl rfl<|Ap rfl rfl<|Ap rfl rfl<|Ao rfl (.pickF (.t rfl) rfl .bool)<|Ag rfl rfl<|WL.ns ?_
        cases hm
        exact W.ret1 () rfl (.t rfl) trivial
      ·refine Ap rfl hb20<|Ap rfl hb20<|Ap rfl hb20<|Ao rfl (.pickF (.t rfl) hb20 .bool)<|Am rfl rfl<|Ap rfl rfl<|Ap rfl rfl<|Ao rfl (.pickF (.t rfl) rfl .bool)<|Am rfl rfl<|Ap rfl rfl<|Ap rfl rfl<|Ap rfl rfl<|Ap rfl rfl<|Ao rfl (.pickF (.t rfl) rfl .bool)<|Ag rfl rfl<|WL.ns ?_
       cases hm
       exact W.ret1 () rfl (.t rfl) trivial
     ·refine Ap rfl hb18<|Ap rfl hb18<|Ap rfl hb18<|Ao rfl (.pickF (.t rfl) hb18 .bool)<|Am rfl rfl<|Ap rfl rfl<|Ap rfl rfl<|Ap rfl rfl<|Ao rfl (.pickF (.t rfl) rfl .bool)<|Am rfl rfl<|Ap rfl rfl<|Ap rfl rfl<|Ao rfl (.pickF (.t rfl) rfl .bool)<|Am rfl rfl<|Ap rfl rfl<|Ap rfl rfl ?_
      refine Ap rfl rfl<|Ap rfl rfl<|Ao rfl (.pickF (.t rfl) rfl .bool)<|Ag rfl rfl<|WL.ns ?_
      cases hm
      exact W.ret1 () rfl (.t rfl) trivial
 ·have hm:=hs2
  clear hs2
  refine W.region ?_
  obtain ⟨awake,hv4,hm⟩:=Bs hm
  refine Ao rfl (.callG (rin:=[(700000,Gl (tA 8 tS) 0 gv0),(700001,GlE 1),(700002,Gl (tA 8 (tL I6)) 2 gv2)]) C9 (law11_awake_spec _ _ hv4) ⟨rfl,rfl,rfl,trivial⟩ ⟨rfl,rfl,⟨rfl,rfl,⟨rfl,rfl,trivial⟩⟩⟩ trivial)<|Ao rfl (.notB (.t rfl))<|WL.mv rfl rfl ?_
  rcases iteR hm with ⟨hp6,hb5,hm⟩ | ⟨hp6,hb5,hm⟩
  ·exact Ap rfl hb5<|Ap rfl hb5<|Ap rfl hb5<|Ao rfl (.pickT (.t rfl) hb5 .bool)<|WL.nil<|WN.meet true (Si hm) ⟨.q rfl,.q rfl,.q rfl,trivial⟩ ⟨rfl,rfl,⟨rfl,rfl,⟨rfl,rfl,⟨rfl,rfl,trivial⟩⟩⟩⟩
  ·refine Ax rfl hb5 (.loadB 2 Y27 Z27 rfl (.t rfl)) ?_
   obtain ⟨few,hv7,hm⟩:=Bs hm
   exact Ax rfl hb5 (.call C10 (law11_few_spec _ _ _ hv7) ⟨(.t rfl),trivial⟩)<|Ax rfl hb5 (.notB (.t rfl))<|Ao rfl (.pickF (.t rfl) hb5 (.t rfl))<|WL.nil<|WN.meet (!few) (Si hm) ⟨.q rfl,.q rfl,.q rfl,trivial⟩ ⟨rfl,rfl,⟨rfl,rfl,⟨rfl,rfl,⟨rfl,rfl,trivial⟩⟩⟩⟩
theorem law11_PlaintextParseLine_spec(n:Nat)(s0_:Str)(r:Bool)(hm:M.law11_PlaintextParseLine n s0_=some r):FSpecR Tryz.prog 6 [(tS.is s0_)] [(700000,Gl (tA 8 tS) 0 gv0),(700001,GlE 1),(700002,Gl (tA 8 (tL I6)) 2 gv2)] (fun _:Unit=>(tB.is r)) (fun _=>[]):=by
 unfold M.law11_PlaintextParseLine at hm
 refine FSpecR.of Tryz.func6 rfl rfl rfl fun g0=>Aw<|Ao rfl (.assign .bool)<|An<|W.seq ?_
 obtain ⟨s1,hs2,hk3⟩:=Bs hm
 clear hm
 refine W.join (fun s:Bool=>s=s1) (fun s=>[(15,(tB.is s)),(0,(tS.is s0_))]) (fun s=>[(700000,Gl (tA 8 tS) 0 gv0),(700001,GlE 1),(700002,Gl (tA 8 (tL I6)) 2 gv2)]) ?_ ?_
 ·rintro v hj31
  try dsimp only at hj31
  subst hj31
  have hm:=hk3
  clear hk3
  try dsimp only at hm
  change W _ _ _ _ _ _ _ [(15,(tB.is v)),(0,(tS.is s0_))] [(700000,Gl (tA 8 tS) 0 gv0),(700001,GlE 1),(700002,Gl (tA 8 (tL I6)) 2 gv2)]
  refine W.cB hm (.t rfl) (fun hp8 hm=>?_) (fun hp8 hm=>?_)
  ·refine W.sr ?_
   obtain ⟨awake1,hv9,hm⟩:=Bs hm
   refine Ao rfl (.callG (rin:=[(700000,Gl (tA 8 tS) 0 gv0),(700001,GlE 1),(700002,Gl (tA 8 (tL I6)) 2 gv2)]) C9 (law11_awake_spec _ _ hv9) ⟨rfl,rfl,rfl,trivial⟩ ⟨rfl,rfl,⟨rfl,rfl,⟨rfl,rfl,trivial⟩⟩⟩ trivial)<|Ag rfl rfl<|WL.ns ?_
   cases hm
   exact W.ret1 () rfl (.t rfl) trivial
  ·refine W.skip<|Aq<|Aw<|WL.mv rfl rfl ?_
   obtain ⟨parsel,hv10,hm⟩:=Bs hm
   refine Ao rfl (.callG (rin:=[(700000,Gl (tA 8 tS) 0 gv0),(700001,GlE 1),(700002,Gl (tA 8 (tL I6)) 2 gv2)]) C19 (plaintext_ParseLine_spec _ _ _ hv10) ⟨rfl,rfl,rfl,trivial⟩ ⟨rfl,rfl,⟨rfl,rfl,⟨rfl,rfl,trivial⟩⟩⟩ ⟨(.t rfl),trivial⟩)<|Am rfl rfl<|Ao rfl (.extract30 (.t rfl))<|Ao rfl (.extract31 (.t rfl))<|Ao rfl (.extract32 (.t rfl))<|WL.opR rfl (OpR.alloc 3 ze27) fun b=>WL.opU (OpR.storeB (b:=b) 3 Z27 (Cellable.is (tapi_Unit_k5 none) parsel.1) rfl (.t rfl) (.t rfl)) fun _=>WL.sealed (t:=(tapi_Unit_k5 none)) (u:=parsel.1) 3 3 rfl rfl<|Ag rfl rfl<|Ag rfl rfl<|Ar<|WL.mv rfl rfl ?_
   obtain ⟨read,hv11,hm⟩:=Bs hm
   refine Ao rfl (.call C20 (r11_Read_spec _ _ _ hv11) ⟨(.t rfl),trivial⟩)<|Am rfl rfl<|Ao rfl (.extract30 (.t rfl))<|Ao rfl (.extract31 (.t rfl))<|Ao rfl (.extract32 (.t rfl))<|WL.opR rfl (OpR.alloc 6 ze27) fun b1=>WL.opU (OpR.storeB (b:=b1) 6 Z27 (Cellable.is (tapi_Unit_k5 none) read.1) rfl (.t rfl) (.t rfl)) fun _=>WL.sealed (t:=(tapi_Unit_k5 none)) (u:=read.1) 6 6 rfl rfl<|Ag rfl rfl<|Ag rfl rfl<|An<|W.seq<|Aw<|Am rfl rfl<|Ao rfl (.notB (.t rfl))<|WL.ns ?_
   refine W.cR hm (.t rfl) (fun hp13 hm=>?_) (fun hp13 hm=>?_)
   ·obtain ⟨s14,hs15,hk16⟩:=Bs hm
    clear hm
    refine W.join (fun s:Bool=>s=s14) (fun s=>[(2,(tB.is s))]) (fun s=>[(700000,Gl (tA 8 tS) 0 gv0),(700001,GlE 1),(700002,Gl (tA 8 (tL I6)) 2 gv2)]) ?_ ?_
    ·rintro v1 hj22
     try dsimp only at hj22
     subst hj22
     have hm:=hk16
     clear hk16
     try dsimp only at hm
     change W _ _ _ _ _ _ _ [(2,(tB.is v1))] [(700000,Gl (tA 8 tS) 0 gv0),(700001,GlE 1),(700002,Gl (tA 8 (tL I6)) 2 gv2)]
     cases hm
     exact W.ret1 () rfl (.t rfl) trivial
    ·have hm:=hs15
     clear hs15
     refine W.region<|Am rfl rfl<|Ao rfl (.eqI (.t rfl) .i64)<|WL.mv rfl rfl ?_
     rcases iteD hm with ⟨hp18,hb17,hm⟩ | ⟨hp18,hb17,hm⟩
     ·refine Ax rfl hb17 (.move (.t rfl))<|Ax rfl hb17 (.eqI (.t rfl) .i64)<|Ao rfl (.pickT (.t rfl) hb17 (.t rfl))<|WL.mv rfl rfl ?_
      rcases iteD hm with ⟨hp20,hb19,hm⟩ | ⟨hp20,hb19,hm⟩
      ·refine Ax rfl hb19 (.load (t:=(tapi_Unit_k5 none)) ⟨ty27.agg,ty27.size⟩ (.t rfl))<|Ax rfl hb19 (.build (s:=tapi_Unit) (x:=(⟨zapi_Id,(0:Int),([]:Str),([]:List api_Word),([]:List api_Word),([]:List api_Unit)⟩:api_Unit)) zapi_Unit_f rfl U27 (zapi_Unit_sz _ U27) ze27 rfl) ?_
       obtain ⟨says,hv21,hm⟩:=Bs hm
       exact Ax rfl hb19 (.call C15 (r11_Says_spec _ _ _ _ hv21) ⟨(Opd.leT (leapi_Unit_k5 none) (.t rfl)),(.t rfl),trivial⟩)<|Ao rfl (.pickT (.t rfl) hb19 (.t rfl))<|Ag rfl rfl<|WL.nil<|WN.meet says (Si hm) ⟨.q rfl,trivial⟩ ⟨rfl,rfl,⟨rfl,rfl,⟨rfl,rfl,trivial⟩⟩⟩
      ·exact Ap rfl hb19<|Ap rfl hb19<|Ap rfl hb19<|Ao rfl (.pickF (.t rfl) hb19 .bool)<|Ag rfl rfl<|WL.nil<|WN.meet false (Si hm) ⟨.q rfl,trivial⟩ ⟨rfl,rfl,⟨rfl,rfl,⟨rfl,rfl,trivial⟩⟩⟩
     ·exact Ap rfl hb17<|Ap rfl hb17<|Ao rfl (.pickF (.t rfl) hb17 .bool)<|Am rfl rfl<|Ap rfl rfl<|Ap rfl rfl<|Ap rfl rfl<|Ao rfl (.pickF (.t rfl) rfl .bool)<|Ag rfl rfl<|WL.nil<|WN.meet false (Si hm) ⟨.q rfl,trivial⟩ ⟨rfl,rfl,⟨rfl,rfl,⟨rfl,rfl,trivial⟩⟩⟩
   ·refine W.skip<|Aq<|Aw<|Am rfl rfl<|Ao rfl (.eqI (.t rfl) .i64)<|WL.mv rfl rfl ?_
    rcases iteD hm with ⟨hp24,hb23,hm⟩ | ⟨hp24,hb23,hm⟩
    ·refine Ax rfl hb23 (.move (.t rfl))<|Ax rfl hb23 (.move (.t rfl))<|Ax rfl hb23 (.eqI (.t rfl) (.t rfl))<|Ao rfl (.pickT (.t rfl) hb23 (.t rfl))<|WL.mv rfl rfl ?_
     rcases iteD hm with ⟨hp26,hb25,hm⟩ | ⟨hp26,hb25,hm⟩
     ·refine Ax rfl hb25 (.load (t:=(tapi_Unit_k5 none)) ⟨ty27.agg,ty27.size⟩ (.t rfl))<|Ax rfl hb25 (.load (t:=(tapi_Unit_k5 none)) ⟨ty27.agg,ty27.size⟩ (.t rfl)) ?_
      obtain ⟨says1,hv27,hm⟩:=Bs hm
      refine Ax rfl hb25 (.call C15 (r11_Says_spec _ _ _ _ hv27) ⟨(Opd.leT (leapi_Unit_k5 none) (.t rfl)),(Opd.leT (leapi_Unit_k5 none) (.t rfl)),trivial⟩)<|Ao rfl (.pickT (.t rfl) hb25 (.t rfl))<|WL.mv rfl rfl ?_
      rcases iteB hm with ⟨hp29,hb28,hm⟩ | ⟨hp29,hb28,hm⟩
      ·refine Ax rfl hb28 (.load (t:=(tapi_Unit_k5 none)) ⟨ty27.agg,ty27.size⟩ (.t rfl))<|Ax rfl hb28 (.move (.t rfl)) ?_
       obtain ⟨format,hv30,hm⟩:=Bs hm
       refine Ax rfl hb28 (.callG (rin:=[(700000,Gl (tA 8 tS) 0 gv0),(700002,Gl (tA 8 (tL I6)) 2 gv2)]) C17 (plaintext_FormatLine_spec _ _ _ _ hv30) ⟨rfl,rfl,trivial⟩ ⟨rfl,rfl,⟨rfl,rfl,trivial⟩⟩ ⟨(Opd.leT (leapi_Unit_k5 none) (.t rfl)),(.t rfl),trivial⟩)<|Ax rfl hb28 (.move (.t rfl))<|Ax rfl hb28 (.eqS (.t rfl) (.t rfl))<|Ao rfl (.pickT (.t rfl) hb28 (.t rfl))<|Ag rfl rfl<|WL.ns ?_
       cases hm
       exact W.ret1 () rfl (.t rfl) trivial
      ·refine Ap rfl hb28<|Ap rfl hb28<|Ap rfl hb28<|Ap rfl hb28<|Ap rfl hb28<|Ao rfl (.pickF (.t rfl) hb28 .bool)<|Ag rfl rfl<|WL.ns ?_
       cases hm
       exact W.ret1 () rfl (.t rfl) trivial
     ·refine Ap rfl hb25<|Ap rfl hb25<|Ap rfl hb25<|Ao rfl (.pickF (.t rfl) hb25 .bool)<|Am rfl rfl<|Ap rfl rfl<|Ap rfl rfl<|Ap rfl rfl<|Ap rfl rfl<|Ap rfl rfl<|Ao rfl (.pickF (.t rfl) rfl .bool)<|Ag rfl rfl<|WL.ns ?_
      cases hm
      exact W.ret1 () rfl (.t rfl) trivial
    ·refine Ap rfl hb23<|Ap rfl hb23<|Ap rfl hb23<|Ao rfl (.pickF (.t rfl) hb23 .bool)<|Am rfl rfl<|Ap rfl rfl<|Ap rfl rfl<|Ap rfl rfl<|Ao rfl (.pickF (.t rfl) rfl .bool)<|Am rfl rfl<|Ap rfl rfl<|Ap rfl rfl<|Ap rfl rfl<|Ap rfl rfl<|Ap rfl rfl<|Ao rfl (.pickF (.t rfl) rfl .bool) ?_
     refine Ag rfl rfl<|WL.ns ?_
     cases hm
     exact W.ret1 () rfl (.t rfl) trivial
 ·have hm:=hs2
  clear hs2
  refine W.region ?_
  obtain ⟨awake,hv4,hm⟩:=Bs hm
  refine Ao rfl (.callG (rin:=[(700000,Gl (tA 8 tS) 0 gv0),(700001,GlE 1),(700002,Gl (tA 8 (tL I6)) 2 gv2)]) C9 (law11_awake_spec _ _ hv4) ⟨rfl,rfl,rfl,trivial⟩ ⟨rfl,rfl,⟨rfl,rfl,⟨rfl,rfl,trivial⟩⟩⟩ trivial)<|Ao rfl (.notB (.t rfl))<|WL.mv rfl rfl ?_
  rcases iteR hm with ⟨hp6,hb5,hm⟩ | ⟨hp6,hb5,hm⟩
  ·exact Ap rfl hb5<|Ap rfl hb5<|Ap rfl hb5<|Ao rfl (.pickT (.t rfl) hb5 .bool)<|WL.nil<|WN.meet true (Si hm) ⟨.q rfl,.q rfl,trivial⟩ ⟨rfl,rfl,⟨rfl,rfl,⟨rfl,rfl,trivial⟩⟩⟩
  ·exact Ax rfl hb5 (.move (.t rfl))<|Ax rfl hb5 (.lenS U9 (.t rfl))<|Ax rfl hb5 (.gtI (.t rfl) .i64)<|Ao rfl (.pickF (.t rfl) hb5 (.t rfl))<|WL.nil<|WN.meet (decide ((2000:Int)< (s0_.length:Int))) (Si hm) ⟨.q rfl,.q rfl,trivial⟩ ⟨rfl,rfl,⟨rfl,rfl,⟨rfl,rfl,trivial⟩⟩⟩
theorem law11_PlaintextFormatParse_spec(n:Nat)(u:api_Unit)(r:Bool)(hm:M.law11_PlaintextFormatParse n u=some r):FSpecR Tryz.prog 7 [(tapi_Unit.is u)] [(700000,Gl (tA 8 tS) 0 gv0),(700001,GlE 1),(700002,Gl (tA 8 (tL I6)) 2 gv2)] (fun _:Unit=>(tB.is r)) (fun _=>[]):=by
 unfold M.law11_PlaintextFormatParse at hm
 refine FSpecR.of Tryz.func7 rfl rfl rfl fun g0=>Aw<|Ao rfl (.box (.t rfl))<|Ao rfl (.assign .bool)<|An<|W.seq ?_
 obtain ⟨s1,hs2,hk3⟩:=Bs hm
 clear hm
 refine W.join (fun s:Bool=>s=s1) (fun s=>[(16,(tB.is s)),(1,(tapi_Unit.ptr u))]) (fun s=>[(700000,Gl (tA 8 tS) 0 gv0),(700001,GlE 1),(700002,Gl (tA 8 (tL I6)) 2 gv2)]) ?_ ?_
 ·rintro v hj29
  try dsimp only at hj29
  subst hj29
  have hm:=hk3
  clear hk3
  try dsimp only at hm
  change W _ _ _ _ _ _ _ [(16,(tB.is v)),(1,(tapi_Unit.ptr u))] [(700000,Gl (tA 8 tS) 0 gv0),(700001,GlE 1),(700002,Gl (tA 8 (tL I6)) 2 gv2)]
  refine W.cB hm (.t rfl) (fun hp9 hm=>?_) (fun hp9 hm=>?_)
  ·refine W.sr ?_
   obtain ⟨awake1,hv10,hm⟩:=Bs hm
   refine Ao rfl (.callG (rin:=[(700000,Gl (tA 8 tS) 0 gv0),(700001,GlE 1),(700002,Gl (tA 8 (tL I6)) 2 gv2)]) C9 (law11_awake_spec _ _ hv10) ⟨rfl,rfl,rfl,trivial⟩ ⟨rfl,rfl,⟨rfl,rfl,⟨rfl,rfl,trivial⟩⟩⟩ trivial)<|Ag rfl rfl<|WL.ns ?_
   cases hm
   exact W.ret1 () rfl (.t rfl) trivial
  ·refine W.skip<|Aq<|Aw<|Ao rfl (.load ty27 (.t rfl)) ?_
   obtain ⟨format,hv11,hm⟩:=Bs hm
   refine Ao rfl (.callG (rin:=[(700000,Gl (tA 8 tS) 0 gv0),(700002,Gl (tA 8 (tL I6)) 2 gv2)]) C11 (plaintext_Format_spec _ _ _ hv11) ⟨rfl,rfl,trivial⟩ ⟨rfl,rfl,⟨rfl,rfl,trivial⟩⟩ ⟨(.t rfl),trivial⟩)<|Am rfl rfl<|Ao rfl (.extract0 (.t rfl))<|Ao rfl (.extract1 (.t rfl))<|Ag rfl rfl<|Ag rfl rfl<|An<|W.seq<|Aw<|Am rfl rfl<|Ao rfl (.neI (.t rfl) .i64)<|An<|W.cD hm (.t rfl) (fun hp13 hm=>?_) (fun hp13 hm=>?_)
   ·refine Aw<|Am rfl rfl<|Ao rfl (.eqS (.t rfl) (.str rfl (by decide)))<|Ag rfl rfl<|WL.ns ?_
    cases hm
    exact W.ret1 () rfl (.t rfl) trivial
   ·refine W.skip<|Aq<|Aw<|WL.mv rfl rfl ?_
    obtain ⟨parse,hv14,hm⟩:=Bs hm
    refine Ao rfl (.callG (rin:=[(700000,Gl (tA 8 tS) 0 gv0),(700001,GlE 1),(700002,Gl (tA 8 (tL I6)) 2 gv2)]) C13 (plaintext_Parse_spec _ _ _ hv14) ⟨rfl,rfl,rfl,trivial⟩ ⟨rfl,rfl,⟨rfl,rfl,⟨rfl,rfl,trivial⟩⟩⟩ ⟨(.t rfl),trivial⟩)<|Am rfl rfl<|Ao rfl (.extract30 (.t rfl))<|Ao rfl (.extract31 (.t rfl))<|Ao rfl (.extract32 (.t rfl))<|WL.opR rfl (OpR.alloc 5 ze27) fun b=>WL.opU (OpR.storeB (b:=b) 5 Z27 (Cellable.is tapi_Unit parse.1) rfl (.t rfl) (.t rfl)) fun _=>WL.sealed (t:=tapi_Unit) (u:=parse.1) 5 5 rfl rfl<|Ag rfl rfl<|Ag rfl rfl<|Ar<|Ao rfl (.load ty27 (.t rfl)) ?_
    obtain ⟨format1,hv15,hm⟩:=Bs hm
    refine Ao rfl (.callG (rin:=[(700000,Gl (tA 8 tS) 0 gv0),(700002,Gl (tA 8 (tL I6)) 2 gv2)]) C11 (plaintext_Format_spec _ _ _ hv15) ⟨rfl,rfl,trivial⟩ ⟨rfl,rfl,⟨rfl,rfl,trivial⟩⟩ ⟨(.t rfl),trivial⟩)<|Am rfl rfl<|Ao rfl (.extract0 (.t rfl))<|Ao rfl (.extract1 (.t rfl))<|Ag rfl rfl<|Ag rfl rfl<|Ar<|Am rfl rfl<|Ao rfl (.eqI (.t rfl) .i64)<|WL.mv rfl rfl ?_
    rcases iteD hm with ⟨hp17,hb16,hm⟩ | ⟨hp17,hb16,hm⟩
    ·refine Ax rfl hb16 (.move (.t rfl))<|Ax rfl hb16 (.load ty27 (.t rfl)) ?_
     obtain ⟨count,hv18,hm⟩:=Bs hm
     refine Ax rfl hb16 (.call C21 (r11_Count_spec _ _ _ hv18) ⟨(.t rfl),trivial⟩)<|Ax rfl hb16 (.eqI (.t rfl) (.t rfl))<|Ao rfl (.pickT (.t rfl) hb16 (.t rfl))<|WL.mv rfl rfl ?_
     rcases iteD hm with ⟨hp20,hb19,hm⟩ | ⟨hp20,hb19,hm⟩
     ·refine Ax rfl hb19 (.load ty27 (.t rfl))<|Ax rfl hb19 (.load ty27 (.t rfl)) ?_
      obtain ⟨says,hv21,hm⟩:=Bs hm
      refine Ax rfl hb19 (.call C15 (r11_Says_spec _ _ _ _ hv21) ⟨(.t rfl),(.t rfl),trivial⟩)<|Ao rfl (.pickT (.t rfl) hb19 (.t rfl))<|WL.mv rfl rfl ?_
      rcases iteB hm with ⟨hp23,hb22,hm⟩ | ⟨hp23,hb22,hm⟩
      ·refine Ax rfl hb22 (.load ty27 (.t rfl)) ?_
       obtain ⟨bare,hv24,hm⟩:=Bs hm
       refine Ax rfl hb22 (.call C16 (r11_Bare_spec _ _ _ hv24) ⟨(.t rfl),trivial⟩)<|Ao rfl (.pickT (.t rfl) hb22 (.t rfl))<|WL.mv rfl rfl ?_
       rcases iteB hm with ⟨hp26,hb25,hm⟩ | ⟨hp26,hb25,hm⟩
       ·refine Ax rfl hb25 (.move (.t rfl))<|Ax rfl hb25 (.eqI (.t rfl) .i64)<|Ao rfl (.pickT (.t rfl) hb25 (.t rfl))<|WL.mv rfl rfl ?_
        rcases iteD hm with ⟨hp28,hb27,hm⟩ | ⟨hp28,hb27,hm⟩
        ·refine Ax rfl hb27 (.move (.t rfl))<|Ax rfl hb27 (.move (.t rfl))<|Ax rfl hb27 (.eqS (.t rfl) (.t rfl))<|Ao rfl (.pickT (.t rfl) hb27 (.t rfl))<|Ag rfl rfl<|WL.ns ?_
         cases hm
         exact W.ret1 () rfl (.t rfl) trivial
        ·refine Ap rfl hb27<|Ap rfl hb27<|Ap rfl hb27<|Ao rfl (.pickF (.t rfl) hb27 .bool)<|Ag rfl rfl<|WL.ns ?_
         cases hm
         exact W.ret1 () rfl (.t rfl) trivial
       ·refine Ap rfl hb25<|Ap rfl hb25<|Ao rfl (.pickF (.t rfl) hb25 .bool)<|Am rfl rfl<|Ap rfl rfl<|Ap rfl rfl<|Ap rfl rfl<|Ao rfl (.pickF (.t rfl) rfl .bool)<|Ag rfl rfl<|WL.ns ?_
        cases hm
        exact W.ret1 () rfl (.t rfl) trivial
      ·refine Ap rfl hb22<|Ap rfl hb22<|Ao rfl (.pickF (.t rfl) hb22 .bool)<|Am rfl rfl<|Ap rfl rfl<|Ap rfl rfl<|Ao rfl (.pickF (.t rfl) rfl .bool)<|Am rfl rfl<|Ap rfl rfl<|Ap rfl rfl<|Ap rfl rfl<|Ao rfl (.pickF (.t rfl) rfl .bool)<|Ag rfl rfl<|WL.ns ?_
       cases hm
       exact W.ret1 () rfl (.t rfl) trivial
     ·refine Ap rfl hb19<|Ap rfl hb19<|Ap rfl hb19<|Ao rfl (.pickF (.t rfl) hb19 .bool)<|Am rfl rfl<|Ap rfl rfl<|Ap rfl rfl<|Ao rfl (.pickF (.t rfl) rfl .bool)<|Am rfl rfl<|Ap rfl rfl<|Ap rfl rfl<|Ao rfl (.pickF (.t rfl) rfl .bool)<|Am rfl rfl<|Ap rfl rfl<|Ap rfl rfl<|Ap rfl rfl ?_
      refine Ao rfl (.pickF (.t rfl) rfl .bool)<|Ag rfl rfl<|WL.ns ?_
      cases hm
      exact W.ret1 () rfl (.t rfl) trivial
    ·refine Ap rfl hb16<|Ap rfl hb16<|Ap rfl hb16<|Ap rfl hb16<|Ao rfl (.pickF (.t rfl) hb16 .bool)<|Am rfl rfl<|Ap rfl rfl<|Ap rfl rfl<|Ap rfl rfl<|Ao rfl (.pickF (.t rfl) rfl .bool)<|Am rfl rfl<|Ap rfl rfl<|Ap rfl rfl<|Ao rfl (.pickF (.t rfl) rfl .bool)<|Am rfl rfl<|Ap rfl rfl ?_
     refine Ap rfl rfl<|Ao rfl (.pickF (.t rfl) rfl .bool)<|Am rfl rfl<|Ap rfl rfl<|Ap rfl rfl<|Ap rfl rfl<|Ao rfl (.pickF (.t rfl) rfl .bool)<|Ag rfl rfl<|WL.ns ?_
     cases hm
     exact W.ret1 () rfl (.t rfl) trivial
 ·have hm:=hs2
  clear hs2
  refine W.region ?_
  obtain ⟨awake,hv4,hm⟩:=Bs hm
  refine Ao rfl (.callG (rin:=[(700000,Gl (tA 8 tS) 0 gv0),(700001,GlE 1),(700002,Gl (tA 8 (tL I6)) 2 gv2)]) C9 (law11_awake_spec _ _ hv4) ⟨rfl,rfl,rfl,trivial⟩ ⟨rfl,rfl,⟨rfl,rfl,⟨rfl,rfl,trivial⟩⟩⟩ trivial)<|Ao rfl (.notB (.t rfl))<|WL.mv rfl rfl ?_
  rcases iteR hm with ⟨hp6,hb5,hm⟩ | ⟨hp6,hb5,hm⟩
  ·exact Ap rfl hb5<|Ap rfl hb5<|Ap rfl hb5<|Ao rfl (.pickT (.t rfl) hb5 .bool)<|WL.nil<|WN.meet true (Si hm) ⟨.q rfl,.q rfl,trivial⟩ ⟨rfl,rfl,⟨rfl,rfl,⟨rfl,rfl,trivial⟩⟩⟩
  ·refine Ax rfl hb5 (.load ty27 (.t rfl)) ?_
   obtain ⟨few,hv7,hm⟩:=Bs hm
   exact Ax rfl hb5 (.call C10 (law11_few_spec _ _ _ hv7) ⟨(.t rfl),trivial⟩)<|Ax rfl hb5 (.notB (.t rfl))<|Ao rfl (.pickF (.t rfl) hb5 (.t rfl))<|WL.nil<|WN.meet (!few) (Si hm) ⟨.q rfl,.q rfl,trivial⟩ ⟨rfl,rfl,⟨rfl,rfl,⟨rfl,rfl,trivial⟩⟩⟩
theorem law11_stamped_spec:∀ (n:Nat) (u:api_Unit) (n0_:Int) (r:api_Unit),M.law11_stamped n u n0_=some r→FSpec Tryz.prog 22 [(tapi_Unit.is u),(I6.is n0_)] (tapi_Unit.is r):=by
 intro n
 induction n with
 | zero=>intro u n0_ r hm;cases hm
 | succ n ih=>
  intro u n0_ r hm
  rw [M.law11_stamped.eq_2] at hm
  refine FSpec.of Tryz.func22 rfl rfl rfl fun g0=>Aw<|WL.opR rfl (OpR.boxB 2 (Cellable.is tapi_Unit u) (.t rfl)) fun b=>WL.opR rfl (OpR.alloc 4 ze27) fun b1=>Ar<|Am rfl rfl<|WL.mv rfl rfl ?_
  obtain ⟨v,hv1,hm⟩:=Bs hm
  refine Ao rfl (.addC hv1 (.t rfl) .i64)<|Ao rfl (.build (s:=tapi_Id) (x:=(⟨n0_,(1:Int),v⟩:api_Id)) zapi_Id_f rfl U23 (zapi_Id_sz _ U23) ze23 ⟨_,I6,n0_,_,_,rfl,Z3,(.t rfl),sapi_Id_0,⟨_,I6,(1:Int),_,_,rfl,Z3,.i64,sapi_Id_1,⟨_,I6,v,_,_,rfl,Z3,(.t rfl),sapi_Id_2,rfl⟩⟩⟩)<|Ao rfl (.fieldAddrB (o:=0) U27 rfl J23 (.t rfl) rfl)<|WL.opU (OpR.storeBF (b:=b) 2 rfl ty23 sapi_Unit_0 rfl (by decide) (.t rfl) (.t rfl)) fun _=>Ar<|WL.opR rfl (OpR.buildSlice (n:=0) (ys:=[]) (z:=zapi_Word) (xs:=([]:List api_Word)) 16 U24 el68 ze68 trivial (by simp) (by decide) rfl) fun k=>WL.opR rfl (OpR.buildSlice (n:=0) (ys:=[]) (z:=zapi_Word) (xs:=([]:List api_Word)) 17 U24 el68 ze68 trivial (by simp) (by decide) rfl) fun k1=>WL.opR rfl (OpR.buildSlice (n:=0) (ys:=[]) (z:=zapi_Unit) (xs:=([]:List api_Unit)) 18 U25 el27 ze27 trivial (by simp) (by decide) rfl) fun k2=>Ag rfl rfl<|Ag rfl rfl<|Ag rfl rfl<|An<|W.seq<|Aw<|Ao rfl (.assign .i64)<|WL.ns ?_
  refine W.block ?_
  obtain ⟨s2,hs3,hk4⟩:=Bs hm
  clear hm
  refine W.loop (fun m (s:((List api_Word)×Int)×Tok)=>M.law11_stamped_loop1 u n0_ v m s.1.1 s.1.2=some s2) (fun s=>[(5,(tO tapi_Word s.2 s.1.1)),(8,(I6.is s.1.2)),(1,(I6.is n0_)),(2,(Bp b 0)),(4,(Bp b1 0)),(6,(tO tapi_Word k1 ([]:List api_Word))),(7,(tO tapi_Unit k2 ([]:List api_Unit)))]) (fun s=>[(16,Dec.Own tapi_Word 68 s.2 s.1.1.length),(17,Dec.Own tapi_Word 68 k1 ([]:List api_Word).length),(18,Dec.Own tapi_Unit 27 k2 ([]:List api_Unit).length),(2,(Bx 8 true 27 (tapi_Unit.is ({u with Id:=(⟨n0_,(1:Int),v⟩:api_Id)}:api_Unit)) b)),(4,(Bx 8 true 27 (tapi_Unit.is zapi_Unit) b1))]) _ ((([]:List api_Word),(0:Int)),k) hs3 ⟨.q rfl,.q rfl,.q rfl,.q rfl,.q rfl,.q rfl,.q rfl,trivial⟩ ⟨rfl,rfl,⟨rfl,rfl,⟨rfl,rfl,⟨rfl,rfl,⟨rfl,rfl,trivial⟩⟩⟩⟩⟩ ?_
  rintro n5 ⟨⟨head,i⟩,k3⟩ hm
  try dsimp only at hm
  change W _ _ _ _ _ _ _ [(5,(tO tapi_Word k3 head)),(8,(I6.is i)),(1,(I6.is n0_)),(2,(Bp b 0)),(4,(Bp b1 0)),(6,(tO tapi_Word k1 ([]:List api_Word))),(7,(tO tapi_Unit k2 ([]:List api_Unit)))] [(16,Dec.Own tapi_Word 68 k3 head.length),(17,Dec.Own tapi_Word 68 k1 ([]:List api_Word).length),(18,Dec.Own tapi_Unit 27 k2 ([]:List api_Unit).length),(2,(Bx 8 true 27 (tapi_Unit.is ({u with Id:=(⟨n0_,(1:Int),v⟩:api_Id)}:api_Unit)) b)),(4,(Bx 8 true 27 (tapi_Unit.is zapi_Unit) b1))]
  cases n5 with
  | zero=>rw [M.law11_stamped_loop1.eq_1] at hm;cases hm
  | succ n5=>
   rw [M.law11_stamped_loop1.eq_2] at hm
   refine W.seq<|Aw<|Am rfl rfl<|Ao rfl (.fieldAddrB (o:=0) U27 rfl J24 (.t rfl) rfl)<|Ao rfl (.loadBF 2 rfl ty24 fapi_Unit_3 rfl (.t rfl))<|Ao rfl (.lenL U24 (.t rfl))<|Ao rfl (.ltI (.t rfl) (.t rfl))<|An<|W.cD hm (.t rfl) (fun hp7 hm=>?_) (fun hp7 hm=>?_)
   ·refine W.skip<|Aq<|W.seq<|W.block<|W.region<|Am rfl rfl<|Ao rfl (.fieldAddrB (o:=0) U27 rfl J24 (.t rfl) rfl)<|Ao rfl (.loadBF 2 rfl ty24 fapi_Unit_3 rfl (.t rfl))<|WL.mv rfl rfl ?_
    obtain ⟨v1,hv8,hm⟩:=Bs hm
    refine Ao rfl (.idx hv8 U24 Z68 (.t rfl) (.t rfl))<|Ao rfl (.fieldAddr U68 rfl J9 fapi_Word_0 (.t rfl))<|Ao rfl (.load ty9 (.t rfl))<|Am rfl rfl<|Am rfl rfl<|Ao rfl (.build (s:=tapi_Mark) (x:=(⟨n0_,(0:Int),i⟩:api_Mark)) zapi_Mark_f rfl U66 (zapi_Mark_sz _ U66) ze66 ⟨_,I6,n0_,_,_,rfl,Z3,(.t rfl),sapi_Mark_0,⟨_,I6,i,_,_,rfl,Z3,(.t rfl),sapi_Mark_2,rfl⟩⟩)<|Ao rfl (.build (s:=tapi_Word) (x:=(⟨v1.Text,(⟨n0_,(0:Int),i⟩:api_Mark)⟩:api_Word)) zapi_Word_f rfl U68 (zapi_Word_sz _ U68) ze68 ⟨_,tS,v1.Text,_,_,rfl,Z9,(.t rfl),sapi_Word_0,⟨_,tapi_Mark,(⟨n0_,(0:Int),i⟩:api_Mark),_,_,rfl,Z66,(.t rfl),sapi_Word_1,rfl⟩⟩)<|Ao rfl (.buildSlice (n:=1) (ys:=[(0,(⟨v1.Text,(⟨n0_,(0:Int),i⟩:api_Mark)⟩:api_Word))]) (z:=zapi_Word) (xs:=[(⟨v1.Text,(⟨n0_,(0:Int),i⟩:api_Mark)⟩:api_Word)]) U24 el68 ze68 ⟨rfl,(.t rfl),trivial⟩ (by simp) (by decide) rfl) ?_
    obtain ⟨out,hv9,hm⟩:=Bs hm
    exact WL.opR rfl (OpR.appC (key:=16) hv9 U24 el68 (.t rfl) (.t rfl) rfl) fun k4=>Ag rfl rfl<|WL.nil<|WN.block<|Aq<|W.region<|Am rfl rfl<|WL.lenL (s:=21) (.t rfl) fun hl10=>Ao rfl (.addI1 (.t rfl) .i64 hp7 hl10)<|Ag rfl rfl<|WL.nil<|WN.again n5 ((out,i+1),k4) (Nat.lt_succ_self n5) hm ⟨.q rfl,.q rfl,.q rfl,.q rfl,.q rfl,.q rfl,.q rfl,trivial⟩ ⟨rfl,rfl,⟨rfl,rfl,⟨rfl,rfl,⟨rfl,rfl,⟨rfl,rfl,trivial⟩⟩⟩⟩⟩
   ·refine W.exit rfl ?_
    have hr11:=Si hm
    clear hm
    subst hr11
    have hm:=hk4
    try dsimp only at hm
    refine Aq<|W.seq<|Aw<|Ao rfl (.assign .i64)<|An<|W.block ?_
    obtain ⟨s12,hs13,hk14⟩:=Bs hm
    clear hm
    refine W.loop (fun m (s:((List api_Word)×Int)×Tok)=>M.law11_stamped_loop2 u n0_ v m s.1.1 s.1.2=some s12) (fun s=>[(6,(tO tapi_Word s.2 s.1.1)),(9,(I6.is s.1.2)),(1,(I6.is n0_)),(2,(Bp b 0)),(4,(Bp b1 0)),(5,(tO tapi_Word k3 head)),(7,(tO tapi_Unit k2 ([]:List api_Unit)))]) (fun s=>[(17,Dec.Own tapi_Word 68 s.2 s.1.1.length),(16,Dec.Own tapi_Word 68 k3 head.length),(18,Dec.Own tapi_Unit 27 k2 ([]:List api_Unit).length),(2,(Bx 8 true 27 (tapi_Unit.is ({u with Id:=(⟨n0_,(1:Int),v⟩:api_Id)}:api_Unit)) b)),(4,(Bx 8 true 27 (tapi_Unit.is zapi_Unit) b1))]) _ ((([]:List api_Word),(0:Int)),k1) hs13 ⟨.q rfl,.q rfl,.q rfl,.q rfl,.q rfl,.q rfl,.q rfl,trivial⟩ ⟨rfl,rfl,⟨rfl,rfl,⟨rfl,rfl,⟨rfl,rfl,⟨rfl,rfl,trivial⟩⟩⟩⟩⟩ ?_
    rintro n15 ⟨⟨words,i1⟩,k5⟩ hm
    try dsimp only at hm
    change W _ _ _ _ _ _ _ [(6,(tO tapi_Word k5 words)),(9,(I6.is i1)),(1,(I6.is n0_)),(2,(Bp b 0)),(4,(Bp b1 0)),(5,(tO tapi_Word k3 head)),(7,(tO tapi_Unit k2 ([]:List api_Unit)))] [(17,Dec.Own tapi_Word 68 k5 words.length),(16,Dec.Own tapi_Word 68 k3 head.length),(18,Dec.Own tapi_Unit 27 k2 ([]:List api_Unit).length),(2,(Bx 8 true 27 (tapi_Unit.is ({u with Id:=(⟨n0_,(1:Int),v⟩:api_Id)}:api_Unit)) b)),(4,(Bx 8 true 27 (tapi_Unit.is zapi_Unit) b1))]
    cases n15 with
    | zero=>rw [M.law11_stamped_loop2.eq_1] at hm;cases hm
    | succ n15=>
     rw [M.law11_stamped_loop2.eq_2] at hm
     refine W.seq<|Aw<|Am rfl rfl<|Ao rfl (.fieldAddrB (o:=0) U27 rfl J24 (.t rfl) rfl)<|Ao rfl (.loadBF 2 rfl ty24 fapi_Unit_4 rfl (.t rfl))<|Ao rfl (.lenL U24 (.t rfl))<|Ao rfl (.ltI (.t rfl) (.t rfl))<|An<|W.cD hm (.t rfl) (fun hp17 hm=>?_) (fun hp17 hm=>?_)
     ·refine W.skip<|Aq<|W.seq<|W.block<|W.region<|Am rfl rfl<|Ao rfl (.fieldAddrB (o:=0) U27 rfl J24 (.t rfl) rfl)<|Ao rfl (.loadBF 2 rfl ty24 fapi_Unit_4 rfl (.t rfl))<|WL.mv rfl rfl ?_
      obtain ⟨v2,hv18,hm⟩:=Bs hm
      refine Ao rfl (.idx hv18 U24 Z68 (.t rfl) (.t rfl))<|Ao rfl (.fieldAddr U68 rfl J9 fapi_Word_0 (.t rfl))<|Ao rfl (.load ty9 (.t rfl))<|Am rfl rfl<|Am rfl rfl<|Ao rfl (.negW64 (.t rfl))<|Ao rfl (.build (s:=tapi_Mark) (x:=(⟨n0_,(0:Int),wrap64 (0-i1)⟩:api_Mark)) zapi_Mark_f rfl U66 (zapi_Mark_sz _ U66) ze66 ⟨_,I6,n0_,_,_,rfl,Z3,(.t rfl),sapi_Mark_0,⟨_,I6,(wrap64 (0-i1)),_,_,rfl,Z3,(.t rfl),sapi_Mark_2,rfl⟩⟩)<|Ao rfl (.build (s:=tapi_Word) (x:=(⟨v2.Text,(⟨n0_,(0:Int),wrap64 (0-i1)⟩:api_Mark)⟩:api_Word)) zapi_Word_f rfl U68 (zapi_Word_sz _ U68) ze68 ⟨_,tS,v2.Text,_,_,rfl,Z9,(.t rfl),sapi_Word_0,⟨_,tapi_Mark,(⟨n0_,(0:Int),wrap64 (0-i1)⟩:api_Mark),_,_,rfl,Z66,(.t rfl),sapi_Word_1,rfl⟩⟩)<|Ao rfl (.buildSlice (n:=1) (ys:=[(0,(⟨v2.Text,(⟨n0_,(0:Int),wrap64 (0-i1)⟩:api_Mark)⟩:api_Word))]) (z:=zapi_Word) (xs:=[(⟨v2.Text,(⟨n0_,(0:Int),wrap64 (0-i1)⟩:api_Mark)⟩:api_Word)]) U24 el68 ze68 ⟨rfl,(.t rfl),trivial⟩ (by simp) (by decide) rfl) ?_
      obtain ⟨out1,hv19,hm⟩:=Bs hm
      exact WL.opR rfl (OpR.appC (key:=17) hv19 U24 el68 (.t rfl) (.t rfl) rfl) fun k6=>Ag rfl rfl<|WL.nil<|WN.block<|Aq<|W.region<|Am rfl rfl<|WL.lenL (s:=41) (.t rfl) fun hl20=>Ao rfl (.addI1 (.t rfl) .i64 hp17 hl20)<|Ag rfl rfl<|WL.nil<|WN.again n15 ((out1,i1+1),k6) (Nat.lt_succ_self n15) hm ⟨.q rfl,.q rfl,.q rfl,.q rfl,.q rfl,.q rfl,.q rfl,trivial⟩ ⟨rfl,rfl,⟨rfl,rfl,⟨rfl,rfl,⟨rfl,rfl,⟨rfl,rfl,trivial⟩⟩⟩⟩⟩
     ·refine W.exit rfl ?_
      have hr21:=Si hm
      clear hm
      subst hr21
      have hm:=hk14
      try dsimp only at hm
      refine Aq<|W.seq<|Aw<|Ao rfl (.assign .i64)<|An<|W.block ?_
      obtain ⟨s22,hs23,hk24⟩:=Bs hm
      clear hm
      refine W.loop (fun m (s:((List api_Unit)×Int)×Tok)=>M.law11_stamped_loop3 u n0_ v (M.law11_stamped n) m s.1.1 s.1.2=some s22) (fun s=>[(7,(tO tapi_Unit s.2 s.1.1)),(10,(I6.is s.1.2)),(1,(I6.is n0_)),(2,(Bp b 0)),(4,(Bp b1 0)),(5,(tO tapi_Word k3 head)),(6,(tO tapi_Word k5 words))]) (fun s=>[(18,Dec.Own tapi_Unit 27 s.2 s.1.1.length),(16,Dec.Own tapi_Word 68 k3 head.length),(17,Dec.Own tapi_Word 68 k5 words.length),(2,(Bx 8 true 27 (tapi_Unit.is ({u with Id:=(⟨n0_,(1:Int),v⟩:api_Id)}:api_Unit)) b)),(4,(Bx 8 true 27 (tapi_Unit.is zapi_Unit) b1))]) _ ((([]:List api_Unit),(0:Int)),k2) hs23 ⟨.q rfl,.q rfl,.q rfl,.q rfl,.q rfl,.q rfl,.q rfl,trivial⟩ ⟨rfl,rfl,⟨rfl,rfl,⟨rfl,rfl,⟨rfl,rfl,⟨rfl,rfl,trivial⟩⟩⟩⟩⟩ ?_
      rintro n25 ⟨⟨kids,i2⟩,k7⟩ hm
      try dsimp only at hm
      change W _ _ _ _ _ _ _ [(7,(tO tapi_Unit k7 kids)),(10,(I6.is i2)),(1,(I6.is n0_)),(2,(Bp b 0)),(4,(Bp b1 0)),(5,(tO tapi_Word k3 head)),(6,(tO tapi_Word k5 words))] [(18,Dec.Own tapi_Unit 27 k7 kids.length),(16,Dec.Own tapi_Word 68 k3 head.length),(17,Dec.Own tapi_Word 68 k5 words.length),(2,(Bx 8 true 27 (tapi_Unit.is ({u with Id:=(⟨n0_,(1:Int),v⟩:api_Id)}:api_Unit)) b)),(4,(Bx 8 true 27 (tapi_Unit.is zapi_Unit) b1))]
      cases n25 with
      | zero=>rw [M.law11_stamped_loop3.eq_1] at hm;cases hm
      | succ n25=>
       rw [M.law11_stamped_loop3.eq_2] at hm
       refine W.seq<|Aw<|Am rfl rfl<|Ao rfl (.fieldAddrB (o:=0) U27 rfl J25 (.t rfl) rfl)<|Ao rfl (.loadBF 2 rfl ty25 fapi_Unit_5 rfl (.t rfl))<|Ao rfl (.lenL U25 (.t rfl))<|Ao rfl (.ltI (.t rfl) (.t rfl))<|An<|W.cD hm (.t rfl) (fun hp27 hm=>?_) (fun hp27 hm=>?_)
       ·refine W.skip<|Aq<|W.seq<|W.block<|W.region<|Am rfl rfl<|Ao rfl (.fieldAddrB (o:=0) U27 rfl J25 (.t rfl) rfl)<|Ao rfl (.loadBF 2 rfl ty25 fapi_Unit_5 rfl (.t rfl))<|WL.mv rfl rfl ?_
        obtain ⟨v3,hv28,hm⟩:=Bs hm
        refine Ao rfl (.idx hv28 U25 Z27 (.t rfl) (.t rfl))<|Ao rfl (.load ty27 (.t rfl))<|Am rfl rfl<|WL.mv rfl rfl ?_
        obtain ⟨v4,hv29,hm⟩:=Bs hm
        refine Ao rfl (.addC hv29 (.t rfl) (.t rfl)) ?_
        obtain ⟨stampe,hv30,hm⟩:=Bs hm
        refine Ao rfl (.call C22 (ih _ _ _ hv30) ⟨(.t rfl),(.t rfl),trivial⟩)<|Ao rfl (.buildSlice (n:=1) (ys:=[(0,stampe)]) (z:=zapi_Unit) (xs:=[stampe]) U25 el27 ze27 ⟨rfl,(.t rfl),trivial⟩ (by simp) (by decide) rfl) ?_
        obtain ⟨out2,hv31,hm⟩:=Bs hm
        exact WL.opR rfl (OpR.appC (key:=18) hv31 U25 el27 (.t rfl) (.t rfl) rfl) fun k8=>Ag rfl rfl<|WL.nil<|WN.block<|Aq<|W.region<|Am rfl rfl<|WL.lenL (s:=62) (.t rfl) fun hl32=>Ao rfl (.addI1 (.t rfl) .i64 hp27 hl32)<|Ag rfl rfl<|WL.nil<|WN.again n25 ((out2,i2+1),k8) (Nat.lt_succ_self n25) hm ⟨.q rfl,.q rfl,.q rfl,.q rfl,.q rfl,.q rfl,.q rfl,trivial⟩ ⟨rfl,rfl,⟨rfl,rfl,⟨rfl,rfl,⟨rfl,rfl,⟨rfl,rfl,trivial⟩⟩⟩⟩⟩
       ·refine W.exit rfl ?_
        have hr33:=Si hm
        clear hm
        subst hr33
        have hm:=hk24
        try dsimp only at hm
        refine Aq<|Aw<|Am rfl rfl<|Am rfl rfl<|Am rfl rfl<|Ao rfl (.fieldAddrB (o:=0) U27 rfl J24 (.t rfl) rfl)<|WL.opU (OpR.storeBF (b:=b) 2 rfl ty24 sapi_Unit_3 rfl (by decide) (.t rfl) (Opd.own (.t rfl))) fun _=>Ao rfl (.fieldAddrB (o:=0) U27 rfl J24 (.t rfl) rfl)<|WL.opU (OpR.storeBF (b:=b) 2 rfl ty24 sapi_Unit_4 rfl (by decide) (.t rfl) (Opd.own (.t rfl))) fun _=>Ao rfl (.fieldAddrB (o:=0) U27 rfl J25 (.t rfl) rfl)<|WL.opU (OpR.storeBF (b:=b) 2 rfl ty25 sapi_Unit_5 rfl (by decide) (.t rfl) (Opd.own (.t rfl))) fun _=>Ar<|Ao rfl (.loadB 2 Y27 Z27 rfl (.t rfl))<|WL.opU (OpR.storeB (b:=b1) 4 Z27 (Cellable.is tapi_Unit ({({({({u with Id:=(⟨n0_,(1:Int),v⟩:api_Id)}:api_Unit) with Head:=head}:api_Unit) with Words:=words}:api_Unit) with Kids:=kids}:api_Unit)) rfl (.t rfl) (.t rfl)) fun _=>WL.ns ?_
        cases hm
        exact W.retQ1 () rfl (ResAt.cell 4 Y27 Z27 rfl (.t rfl)) trivial
theorem law11_PlaintextIgnoresMarks_spec(n:Nat)(u:api_Unit)(n0_:Int)(r:Bool)(hm:M.law11_PlaintextIgnoresMarks n u n0_=some r):FSpecR Tryz.prog 8 [(tapi_Unit.is u),((tI .u8).is n0_)] [(700000,Gl (tA 8 tS) 0 gv0),(700001,GlE 1),(700002,Gl (tA 8 (tL I6)) 2 gv2)] (fun _:Unit=>(tB.is r)) (fun _=>[]):=by
 unfold M.law11_PlaintextIgnoresMarks at hm
 refine FSpecR.of Tryz.func8 rfl rfl rfl fun g0=>Aw<|Ao rfl (.box (.t rfl))<|Ao rfl (.assign .bool)<|An<|W.seq ?_
 obtain ⟨s1,hs2,hk3⟩:=Bs hm
 clear hm
 refine W.join (fun s:Bool=>s=s1) (fun s=>[(18,(tB.is s)),(1,((tI .u8).is n0_)),(2,(tapi_Unit.ptr u))]) (fun s=>[(700000,Gl (tA 8 tS) 0 gv0),(700001,GlE 1),(700002,Gl (tA 8 (tL I6)) 2 gv2)]) ?_ ?_
 ·rintro v hj42
  try dsimp only at hj42
  subst hj42
  have hm:=hk3
  clear hk3
  try dsimp only at hm
  change W _ _ _ _ _ _ _ [(18,(tB.is v)),(1,((tI .u8).is n0_)),(2,(tapi_Unit.ptr u))] [(700000,Gl (tA 8 tS) 0 gv0),(700001,GlE 1),(700002,Gl (tA 8 (tL I6)) 2 gv2)]
  refine W.cB hm (.t rfl) (fun hp9 hm=>?_) (fun hp9 hm=>?_)
  ·refine W.sr ?_
   obtain ⟨awake1,hv10,hm⟩:=Bs hm
   refine Ao rfl (.callG (rin:=[(700000,Gl (tA 8 tS) 0 gv0),(700001,GlE 1),(700002,Gl (tA 8 (tL I6)) 2 gv2)]) C9 (law11_awake_spec _ _ hv10) ⟨rfl,rfl,rfl,trivial⟩ ⟨rfl,rfl,⟨rfl,rfl,⟨rfl,rfl,trivial⟩⟩⟩ trivial)<|Ag rfl rfl<|WL.ns ?_
   cases hm
   exact W.ret1 () rfl (.t rfl) trivial
  ·refine W.skip<|Aq<|Aw<|Ao rfl (.load ty27 (.t rfl)) ?_
   obtain ⟨format,hv11,hm⟩:=Bs hm
   refine Ao rfl (.callG (rin:=[(700000,Gl (tA 8 tS) 0 gv0),(700002,Gl (tA 8 (tL I6)) 2 gv2)]) C11 (plaintext_Format_spec _ _ _ hv11) ⟨rfl,rfl,trivial⟩ ⟨rfl,rfl,⟨rfl,rfl,trivial⟩⟩ ⟨(.t rfl),trivial⟩)<|Am rfl rfl<|Ao rfl (.extract0 (.t rfl))<|Ao rfl (.extract1 (.t rfl))<|Ag rfl rfl<|Ag rfl rfl<|Ar<|Ao rfl (.load ty27 (.t rfl))<|Am rfl rfl<|Ao rfl (.conv8 U5 U3 (.t rfl)) ?_
   obtain ⟨stampe,hv12,hm⟩:=Bs hm
   refine Ao rfl (.call C22 (law11_stamped_spec _ _ _ _ hv12) ⟨(.t rfl),(.t rfl),trivial⟩) ?_
   obtain ⟨format1,hv13,hm⟩:=Bs hm
   refine Ao rfl (.callG (rin:=[(700000,Gl (tA 8 tS) 0 gv0),(700002,Gl (tA 8 (tL I6)) 2 gv2)]) C11 (plaintext_Format_spec _ _ _ hv13) ⟨rfl,rfl,trivial⟩ ⟨rfl,rfl,⟨rfl,rfl,trivial⟩⟩ ⟨(.t rfl),trivial⟩)<|Am rfl rfl<|Ao rfl (.extract0 (.t rfl))<|Ao rfl (.extract1 (.t rfl))<|Ag rfl rfl<|Ag rfl rfl<|Ar<|Ao rfl (.assign (.str rfl (by decide)))<|An<|W.seq<|Aw<|Ao rfl (.load ty27 (.t rfl)) ?_
   obtain ⟨lines,hv14,hm⟩:=Bs hm
   refine Ao rfl (.callG (rin:=[(700000,Gl (tA 8 tS) 0 gv0),(700002,Gl (tA 8 (tL I6)) 2 gv2)]) C23 (plaintext_Lines_spec _ _ _ hv14) ⟨rfl,rfl,trivial⟩ ⟨rfl,rfl,⟨rfl,rfl,trivial⟩⟩ ⟨(.t rfl),trivial⟩)<|Ao rfl (.lenL U47 (.t rfl))<|Ao rfl (.move .i64)<|An<|W.block ?_
   obtain ⟨s15,hs16,hk17⟩:=Bs hm
   clear hm
   refine W.loop (fun m (s:Int×List Str×List Str×Str)=>m=s.2.2.1.length∧lines=s.2.1++s.2.2.1∧s.1=(s.2.1.length:Int)∧M.law11_PlaintextIgnoresMarks_loop1 s.2.2.1 s.2.2.2=some s15) (fun s=>[(36,(I6.is s.1)),(9,(tS.is s.2.2.2)),(5,(tS.is format.1)),(6,(I6.is format.2)),(7,(tS.is format1.1)),(8,(I6.is format1.2)),(34,((tL tS).is lines)),(35,(I6.is (lines.length:Int)))]) (fun s=>[(700000,Gl (tA 8 tS) 0 gv0),(700001,GlE 1),(700002,Gl (tA 8 (tL I6)) 2 gv2)]) lines.length ((0:Int),[],lines,([]:Str)) ⟨rfl,rfl,rfl,hs16⟩ ⟨.q rfl,.q rfl,.q rfl,.q rfl,.q rfl,.q rfl,.q rfl,.q rfl,trivial⟩ ⟨rfl,rfl,⟨rfl,rfl,⟨rfl,rfl,trivial⟩⟩⟩ ?_
   rintro m ⟨i,pre,rest1,all⟩ ⟨hn21,hxs18,hi19,hm⟩
   try dsimp only at hn21 hxs18 hi19 hm
   change W _ _ _ _ _ _ _ [(36,(I6.is i)),(9,(tS.is all)),(5,(tS.is format.1)),(6,(I6.is format.2)),(7,(tS.is format1.1)),(8,(I6.is format1.2)),(34,((tL tS).is lines)),(35,(I6.is (lines.length:Int)))] [(700000,Gl (tA 8 tS) 0 gv0),(700001,GlE 1),(700002,Gl (tA 8 (tL I6)) 2 gv2)]
   refine W.lenL (s:=34) (.t rfl) fun hlen20=>Aw<|Ao rfl (.ltI (.t rfl) (.t rfl))<|An<|W.seq<|W.cond (.t rfl) (fun hc23=>?_) (fun hc23=>?_)
   ·have hp24:=of_decide_eq_true hc23
    obtain ⟨e,es,hrest26⟩:=range_more hxs18 hi19 hp24
    subst hrest26
    rw [M.law11_PlaintextIgnoresMarks_loop1.eq_2] at hm
    refine W.skip<|Aq<|W.seq<|W.block<|Aw<|Ao rfl (.idxPre hxs18 hi19 U47 Z9 (.t rfl) (.t rfl))<|Ao rfl (.load ty9 (.t rfl))<|Ag rfl rfl<|WL.nr1<|Am rfl rfl<|WL.mv rfl rfl ?_
    obtain ⟨v1,hv27,hm⟩:=Bs hm
    refine Ao rfl (.catC hv27 (.t rfl) (.str rfl (by decide))) ?_
    obtain ⟨v2,hv28,hm⟩:=Bs hm
    exact Ao rfl (.catC hv28 (.t rfl) (.t rfl))<|Ag rfl rfl<|WL.nil<|WN.block<|Aq<|W.region<|Ao rfl (.addI (.t rfl) .i64 (range_inR hi19 hp24 hlen20))<|Am rfl rfl<|WL.nil<|WN.again es.length (i+1,pre++ [e],es,v2) (range_lt hn21) ⟨rfl,range_step hxs18,range_idx hi19,hm⟩ ⟨.q rfl,.q rfl,.q rfl,.q rfl,.q rfl,.q rfl,.q rfl,.q rfl,trivial⟩ ⟨rfl,rfl,⟨rfl,rfl,⟨rfl,rfl,trivial⟩⟩⟩
   ·have hrest26:=range_end hxs18 hi19 (of_decide_eq_false hc23)
    subst hrest26
    rw [M.law11_PlaintextIgnoresMarks_loop1.eq_1] at hm
    refine W.exit rfl ?_
    have hr29:=Si hm
    clear hm
    subst hr29
    have hm:=hk17
    try dsimp only at hm
    refine Aq<|Aw<|Am rfl rfl<|Am rfl rfl<|Ao rfl (.eqS (.t rfl) (.t rfl))<|WL.mv rfl rfl ?_
    rcases iteB hm with ⟨hp31,hb30,hm⟩ | ⟨hp31,hb30,hm⟩
    ·refine Ax rfl hb30 (.move (.t rfl))<|Ax rfl hb30 (.move (.t rfl))<|Ax rfl hb30 (.eqI (.t rfl) (.t rfl))<|Ao rfl (.pickT (.t rfl) hb30 (.t rfl))<|WL.mv rfl rfl ?_
     rcases iteD hm with ⟨hp33,hb32,hm⟩ | ⟨hp33,hb32,hm⟩
     ·refine Ax rfl hb32 (.move (.t rfl))<|Ax rfl hb32 (.neI (.t rfl) .i64)<|Ax rfl hb32 (.move (.t rfl)) ?_
      rcases iteD hm with ⟨hp35,hb34,hm⟩ | ⟨hp35,hb34,hm⟩
      ·refine Ap rfl hb34<|Ap rfl hb34<|Ap rfl hb34<|Ax rfl hb32 (.pickT (.t rfl) hb34 .bool)<|Ao rfl (.pickT (.t rfl) hb32 (.t rfl))<|Am rfl rfl<|Ax rfl rfl (.move (.t rfl))<|Ax rfl rfl (.neI (.t rfl) .i64)<|Ax rfl rfl (.move (.t rfl)) ?_
       rcases iteD hm with ⟨hp37,hb36,hm⟩ | ⟨hp37,hb36,hm⟩
       ·refine Ap rfl hb36<|Ap rfl hb36<|Ax rfl rfl (.pickT (.t rfl) hb36 .bool)<|Ao rfl (.pickT (.t rfl) rfl (.t rfl))<|Ag rfl rfl<|WL.ns ?_
        cases hm
        exact W.ret1 () rfl (.t rfl) trivial
       ·refine Ax rfl hb36 (.move (.t rfl))<|Ax rfl hb36 (.eqS (.t rfl) (.str rfl (by decide)))<|Ax rfl rfl (.pickF (.t rfl) hb36 (.t rfl))<|Ao rfl (.pickT (.t rfl) rfl (.t rfl))<|Ag rfl rfl<|WL.ns ?_
        cases hm
        exact W.ret1 () rfl (.t rfl) trivial
      ·refine Ax rfl hb34 (.move (.t rfl))<|Ax rfl hb34 (.move (.t rfl))<|Ax rfl hb34 (.eqS (.t rfl) (.t rfl))<|Ax rfl hb32 (.pickF (.t rfl) hb34 (.t rfl))<|Ao rfl (.pickT (.t rfl) hb32 (.t rfl))<|WL.mv rfl rfl ?_
       rcases iteB hm with ⟨hp39,hb38,hm⟩ | ⟨hp39,hb38,hm⟩
       ·refine Ax rfl hb38 (.move (.t rfl))<|Ax rfl hb38 (.neI (.t rfl) .i64)<|Ax rfl hb38 (.move (.t rfl)) ?_
        rcases iteD hm with ⟨hp41,hb40,hm⟩ | ⟨hp41,hb40,hm⟩
        ·refine Ap rfl hb40<|Ap rfl hb40<|Ax rfl hb38 (.pickT (.t rfl) hb40 .bool)<|Ao rfl (.pickT (.t rfl) hb38 (.t rfl))<|Ag rfl rfl<|WL.ns ?_
         cases hm
         exact W.ret1 () rfl (.t rfl) trivial
        ·refine Ax rfl hb40 (.move (.t rfl))<|Ax rfl hb40 (.eqS (.t rfl) (.str rfl (by decide)))<|Ax rfl hb38 (.pickF (.t rfl) hb40 (.t rfl))<|Ao rfl (.pickT (.t rfl) hb38 (.t rfl))<|Ag rfl rfl<|WL.ns ?_
         cases hm
         exact W.ret1 () rfl (.t rfl) trivial
       ·refine Ap rfl hb38<|Ap rfl hb38<|Ap rfl hb38<|WL.pass2 rfl rfl rfl rfl rfl rfl<|WL.pass2 rfl rfl rfl rfl rfl rfl<|Ap rfl hb38<|Ao rfl (.pickF (.t rfl) hb38 .bool)<|Ag rfl rfl<|WL.ns ?_
        cases hm
        exact W.ret1 () rfl (.t rfl) trivial
     ·refine Ap rfl hb32<|Ap rfl hb32<|Ap rfl hb32<|WL.pass2 rfl rfl rfl rfl rfl rfl<|WL.pass2 rfl rfl rfl rfl rfl rfl<|WL.pass2 rfl rfl rfl rfl rfl rfl<|Ap rfl hb32<|Ao rfl (.pickF (.t rfl) hb32 .bool)<|Am rfl rfl<|Ap rfl rfl<|Ap rfl rfl<|Ap rfl rfl<|WL.pass2 rfl rfl rfl rfl rfl rfl<|WL.pass2 rfl rfl rfl rfl rfl rfl<|Ap rfl rfl<|Ao rfl (.pickF (.t rfl) rfl .bool) ?_
      refine Ag rfl rfl<|WL.ns ?_
      cases hm
      exact W.ret1 () rfl (.t rfl) trivial
    ·refine Ap rfl hb30<|Ap rfl hb30<|Ap rfl hb30<|Ao rfl (.pickF (.t rfl) hb30 .bool)<|Am rfl rfl<|Ap rfl rfl<|Ap rfl rfl<|Ap rfl rfl<|WL.pass2 rfl rfl rfl rfl rfl rfl<|WL.pass2 rfl rfl rfl rfl rfl rfl<|WL.pass2 rfl rfl rfl rfl rfl rfl<|Ap rfl rfl<|Ao rfl (.pickF (.t rfl) rfl .bool)<|Am rfl rfl<|Ap rfl rfl<|Ap rfl rfl ?_
     refine Ap rfl rfl<|WL.pass2 rfl rfl rfl rfl rfl rfl<|WL.pass2 rfl rfl rfl rfl rfl rfl<|Ap rfl rfl<|Ao rfl (.pickF (.t rfl) rfl .bool)<|Ag rfl rfl<|WL.ns ?_
     cases hm
     exact W.ret1 () rfl (.t rfl) trivial
 ·have hm:=hs2
  clear hs2
  refine W.region ?_
  obtain ⟨awake,hv4,hm⟩:=Bs hm
  refine Ao rfl (.callG (rin:=[(700000,Gl (tA 8 tS) 0 gv0),(700001,GlE 1),(700002,Gl (tA 8 (tL I6)) 2 gv2)]) C9 (law11_awake_spec _ _ hv4) ⟨rfl,rfl,rfl,trivial⟩ ⟨rfl,rfl,⟨rfl,rfl,⟨rfl,rfl,trivial⟩⟩⟩ trivial)<|Ao rfl (.notB (.t rfl))<|WL.mv rfl rfl ?_
  rcases iteR hm with ⟨hp6,hb5,hm⟩ | ⟨hp6,hb5,hm⟩
  ·exact Ap rfl hb5<|Ap rfl hb5<|Ap rfl hb5<|Ao rfl (.pickT (.t rfl) hb5 .bool)<|WL.nil<|WN.meet true (Si hm) ⟨.q rfl,.q rfl,.q rfl,trivial⟩ ⟨rfl,rfl,⟨rfl,rfl,⟨rfl,rfl,trivial⟩⟩⟩
  ·refine Ax rfl hb5 (.load ty27 (.t rfl)) ?_
   obtain ⟨few,hv7,hm⟩:=Bs hm
   exact Ax rfl hb5 (.call C10 (law11_few_spec _ _ _ hv7) ⟨(.t rfl),trivial⟩)<|Ax rfl hb5 (.notB (.t rfl))<|Ao rfl (.pickF (.t rfl) hb5 (.t rfl))<|WL.nil<|WN.meet (!few) (Si hm) ⟨.q rfl,.q rfl,.q rfl,trivial⟩ ⟨rfl,rfl,⟨rfl,rfl,⟨rfl,rfl,trivial⟩⟩⟩
end Go.Proofs.YtofaogkcifaioaaGreatDoor
