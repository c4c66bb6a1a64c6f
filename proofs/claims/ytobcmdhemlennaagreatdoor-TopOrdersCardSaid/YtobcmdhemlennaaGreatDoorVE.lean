import Derived.Test.YtobcmdhemlennaaGreatDoorVB
import Derived.Test.YtobcmdhemlennaaGreatDoorVo
import Derived.Test.YtobcmdhemlennaaGreatDoorVy
/-
  The code does what the models say: written by program.
-/
set_option linter.unusedVariables false
set_option linter.unusedSimpArgs false
namespace Go.Proofs.YtobcmdhemlennaaGreatDoor
open Go Go.Dec
set_option maxRecDepth 1000000
set_option maxHeartbeats 4000000
abbrev Ut:=λ(l:List ak)(nn:Nat)(s0:Int)(s1:aa)=>mkLp (τ:=Int×aa) (M.fM l nn s0 s1) (λmm s=>M.fM l mm s.1 s.2) nn (s0,s1) [1,2,4] [4] (λs _ _ _ _ _ _ e=>(5,I6.is s.1)::e) (λs _ _ _ b1 _ _ e=>(2,Bx 8 true 27 (ae.is s.2) b1)::e) (λ_=>M.fM.eq_1 ..) (λ_ _=>M.fM.eq_2 ..)
abbrev FR:=λ(l:List aS)(order:List Int)(nn:Nat)(s0:Int)(s1:aa)=>mkLp (τ:=Int×aa) (M.dw l order nn s0 s1) (λmm s=>M.dw l order mm s.1 s.2) nn (s0,s1) [1,2,3,6] [6] (λs _ _ _ _ _ _ e=>(7,I6.is s.1)::e) (λs _ _ _ b1 _ _ e=>(3,Bx 8 true 27 (ae.is s.2) b1)::e) (λ_=>M.dw.eq_1 ..) (λ_ _=>M.dw.eq_2 ..)
attribute [instance] Ut FR
section
attribute [local irreducible] W WL WN DM Op1 OpR Opd Dep
instance Ms(n:Nat)(u:aa)(r:Bool):z2 234 (M.rO n u=some r) [ae.is u] (tB.is r) [E1,E4]:=.fx Tryz.call234 Tryz.func234 (M.rO.eq_1 ..)
instance QT(n:Nat)(u:aa)(l:List ak)(r:aa):z1 59 (M.zl n u l=some r) [ae.is u,(tL aJ).is l] (ae.is r):=.fx Tryz.call59 Tryz.func59 (M.zl.eq_1 ..) [1000002]
instance KQ(n:Nat)(u:aa)(found:aa)(d:ak)(r:aa×Int):z2 141 (M.fG n u found d=some r) [ae.is u,ae.is found,aJ.is d] (Asn.tuple2 (ae.is r.1) (I6.is r.2)) [E1]:=.fx Tryz.call141 Tryz.func141 (M.fG.eq_1 ..) [8,9,11,13,15]
instance NJ(n:Nat)(u:aa)(x:aa)(d:ak)(r:aa×Int):z2 147 (M.jo n u x d=some r) [ae.is u,ae.is x,aJ.is d] (Asn.tuple2 (ae.is r.1) (I6.is r.2)) [E1]:=.fx Tryz.call147 Tryz.func147 (M.jo.eq_1 ..) [8,9,11,14,15]
instance uj(n:Nat)(u:aa)(depth:Int)(r:Str):z2 282 (M.kQ n u depth=some r) [ae.is u,I6.is depth] (tS.is r) [E1,E4]:=.fx Tryz.call282 Tryz.func282 (M.kQ.eq_1 ..)
instance Sa(n:Nat)(u:aa)(a:aS)(r:aa):z1 30 (M.zm n u a=some r) [ae.is u,jE.is a] (ae.is r):=.fx Tryz.call30 Tryz.func30 (M.zm.eq_1 ..)
instance Mt(n:Nat) (r:List (Int×(aa->aa->ak->Option (aa×Int)))):z2 133 (M.uy n=some r) [] ((tQ I6 (tFun Tryz.prog (λ(f:aa->aa->ak->Option (aa×Int))=>(λs:aa×aa×ak×(aa×Int)=>f s.1 s.2.1 s.2.2.1=some s.2.2.2)) (λs:aa×aa×ak×(aa×Int)=>[ae.is s.1,ae.is s.2.1,aJ.is s.2.2.1]) (λs:aa×aa×ak×(aa×Int)=>(Asn.tuple2 (ae.is s.2.2.2.1) (I6.is s.2.2.2.2))))).is r) [E1]:=SpG.of Tryz.call133 Tryz.func133 X X λg0 hm=>by
  unfold M.uy at hm;have h141:FnM 141 (λs0 s1 s2=>M.fG n s0 s1 s2):=⟨()⟩
  have h142:FnM 142 (λs0 s1 s2=>M.nG n s0 s1 s2):=⟨()⟩
  have h143:FnM 143 (λs0 s1 s2=>M.oM n s0 s1 s2):=⟨()⟩
  have h144:FnM 144 (λs0 s1 s2=>M.qW n s0 s1 s2):=⟨()⟩
  have h145:FnM 145 (λs0 s1 s2=>M.lg n s0 s1 s2):=⟨()⟩
  have h146:FnM 146 (λs0 s1 s2=>M.lh n s0 s1 s2):=⟨()⟩
  have h147:FnM 147 (λs0 s1 s2=>M.jo n s0 s1 s2):=⟨()⟩
  refine W.aG λhb=>?_;exact Fx hm
end
theorem vO:∀ (n:Nat) (u:aa) (depth:Int) (c:List Str) (b:Nat) (k:Tok) (b1:Nat) (r:List Str),M.gD n u depth c=some r->aR Tryz.prog 281 [ae.is u,I6.is depth,Bp b 0,Bp b1 0] [(2,Bx 1 false 38 (tO tS k c) b),(1000002,Dec.Own tS 9 k c.length),(3,Bx 1 false 267 (cloA 281 [Bp b 0,Bp b1 0]) b1),(700001,Gl (tA 8 (tL I6)) 1 gv1),E4] (λkx:Tok=>(Asn.eq (.tuple #[]))) (λkx:Tok=>[(2,Bx 1 false 38 (tO tS kx r) b),(1000002,Dec.Own tS 9 kx r.length),(3,Bx 1 false 267 (cloA 281 [Bp b 0,Bp b1 0]) b1),(700001,Gl (tA 8 (tL I6)) 1 gv1),E4]):=by
 intro n;induction n with
 | zero=>intro u depth c b k b1 r hm;cases hm
 | succ n ih=>
  intro u depth c b k b1 r hm;rw [M.gD.eq_2] at hm;refine aR.of Tryz.func281 X X X λg0=>Aw<|Ao X (.box (.t X))<|An<|W.seq ?_;obtain ⟨format,hv1,hm⟩:=Bs hm;obtain ⟨out,hv2,hm⟩:=Bs hm;refine W.weakR (res':=[(1000002,Dec.Own tS 9 k c.length),(2,(Bx 1 false 38 (tO tS k c) b)),(3,(Bx 1 false 267 (cloA 281 [(Bp b 0),(Bp b1 0)]) b1)),(700001,Gl (tA 8 (tL I6)) 1 gv1),E4]) ⟨X,X,X,X,X,X,X,X,X,X,trivial⟩<|W.drawM [.c (tO tS k c),.c (ae.is u),.c (I6.is depth),.c (tS.is format),.c ((tL tS).is [format]),.f (λcv=>(tO tS (cv 0) out)),.c Asn.any] [([],[2]),([],[4]),([],[1]),([1,2],[]),([3],[]),([0,4],[]),([5],[2])] [5,6] [[],[],[],[],[],[true],[]] (λm cv=>match m with | 0=>[(1000002,Dec.Own tS 9 k c.length),(2,(Bx 1 false 38 (tO tS k c) b)),(3,(Bx 1 false 267 (cloA 281 [(Bp b 0),(Bp b1 0)]) b1)),(700001,Gl (tA 8 (tL I6)) 1 gv1),E4] | 1=>[(1000002,Dec.Own tS 9 (cv 0) out.length),(2,(Bx 1 false 38 (tO tS k c) b)),(3,(Bx 1 false 267 (cloA 281 [(Bp b 0),(Bp b1 0)]) b1)),(700001,Gl (tA 8 (tL I6)) 1 gv1),E4] | _=>[(2,(Bx 1 false 38 (tO tS (cv 0) out) b)),(1000002,Dec.Own tS 9 (cv 0) out.length),(3,(Bx 1 false 267 (cloA 281 [(Bp b 0),(Bp b1 0)]) b1)),(700001,Gl (tA 8 (tL I6)) 1 gv1),E4]) (λ_=>none) Mx X X X X X ⟨λ_ _ _ _=>X,λ_ _ _ _=>X,λ_ _ _ _=>X,λ_ _ _ _=>X,λ_ _ _ _=>X,λm hm c t=>by simp only [DA.at,pX (r:=[true]) (j:=0) X hm],λ_ _ _ _=>X,trivial⟩ X ⟨.inr ⟨λcv=>[(2,(Bx 1 false 38 (tO tS k c) b))],(gB.at ⟨⟨(λ_ _=>⟨X,X,trivial⟩),(nn)⟩,(nn)⟩),λcv=>Op1.qG 2 Y38 Z38 X (.t X)⟩,mo λcv=>Op1.load ty27.h (.t X),mo λcv=>Op1.move (.t X),.inr ⟨λcv=>[(700001,Gl (tA 8 (tL I6)) 1 gv1),E4],(gB.at ⟨⟨(λ_ _=>⟨X,X,X,X,trivial⟩),(nn)⟩,(nn)⟩),λcv=>Op1.callG (rin:=[(700001,Gl (tA 8 (tL I6)) 1 gv1),E4]) C282 ((uj _ _ _ _).h hv1) ⟨X,X,trivial⟩ ⟨X,X,X,X,trivial⟩ ⟨(.t X),(.t X),trivial⟩⟩,mo λcv=>Op1.buildSlice (n:=1) (ys:=[(0,format)]) (z:=([]:Str)) (xs:=[format]) U38 el9.h ze9.h ⟨X,(.t X),trivial⟩ (by simp) (by decide) X,.inl X,.inl X,trivial⟩ ⟨⟨_,_,_,[1000002],(λcv=>[(1000002,Dec.Own tS 9 (cv 0) out.length)]),X,X,X,X,λ_=>X,λ_ _=>X,λcv=>OpR.appC (key:=1000002) hv2 U38 el9.h (.t X) (.t X) X⟩,⟨_,_,_,[2],(λcv=>[(2,(Bx 1 false 38 (tO tS (cv 0) out) b))]),X,X,X,X,λ_=>X,λ_ _=>X,λcv=>OpR.viaU (OpR.storeB (b:=b) 2 Z38 (bg.o tS (cv 0) out) X (.t X) (.t X))⟩,trivial⟩ λcv=>Aq<|Aw<|Ao X (.fieldAddr U27 X J25 ny.h (.t X))<|Ao X (.load ty25.h (.t X))<|Ao X (.qd U25 (.t X))<|Ao X (.move .i64)<|An<|W.block ?_;obtain ⟨s3,hs4,hk5⟩:=Bs hm;clear hm;refine W.loop (λm (s:Int×List aa×List aa×(((List Str))×Tok))=>m=s.2.2.1.length/\u.Kids=s.2.1++s.2.2.1/\s.1=(s.2.1.length:Int)/\M.dR depth (M.gD n) s.2.2.1 s.2.2.2.1=some s3) (λs=>[(17,(I6.is s.1)),(1,(I6.is depth)),(3,(Bp b1 0)),(15,((tL ae).is u.Kids)),(16,(I6.is (u.Kids.length:Int)))]) (λs=>[(1000002,Dec.Own tS 9 s.2.2.2.2 s.2.2.2.1.length),(2,(Bx 1 false 38 (tO tS s.2.2.2.2 s.2.2.2.1) b)),(3,(Bx 1 false 267 (cloA 281 [(Bp b 0),(Bp b1 0)]) b1)),(700001,Gl (tA 8 (tL I6)) 1 gv1),E4]) u.Kids.length ((0:Int),[],u.Kids,(out,(cv 0))) ⟨X,X,X,hs4⟩ ⟨.q X,.q X,.q X,.q X,.q X,trivial⟩ ⟨X,X,X,X,X,X,X,X,X,X,trivial⟩ ?_;rintro m ⟨i,pre,rest1,v,k1⟩ ⟨hn9,hxs6,hi7,hm⟩;try dsimp only at hn9 hxs6 hi7 hm
  change W _ _ _ _ _ _ _ [(17,(I6.is i)),(1,(I6.is depth)),(3,(Bp b1 0)),(15,((tL ae).is u.Kids)),(16,(I6.is (u.Kids.length:Int)))] [(1000002,Dec.Own tS 9 k1 v.length),(2,(Bx 1 false 38 (tO tS k1 v) b)),(3,(Bx 1 false 267 (cloA 281 [(Bp b 0),(Bp b1 0)]) b1)),(700001,Gl (tA 8 (tL I6)) 1 gv1),E4];refine W.qd (s:=15) (.t X) λhlen8=>Aw<|Ao X (.ltI (.t X) (.t X))<|An<|W.seq<|W.cond (.t X) (λhc11=>?_) (λhc11=>?_)
  .have hp12:=of_decide_eq_true hc11;obtain ⟨e,es,hrest14⟩:=qR hxs6 hi7 hp12;subst hrest14;rw [M.dR.eq_2] at hm;refine W.skip<|Aq<|W.seq<|W.block<|Aw<|Ao X (.idxPre hxs6 hi7 U25 Z27 (.t X) (.t X))<|Ao X (.load ty27.h (.t X))<|WL.opR X (OpR.alloc 7 ze27.h) λb2=>WL.opU (OpR.storeB (b:=b2) 7 Z27 (bg.is ae e) X (.t X) (.t X)) λ_=>WL.sealed (t:=ae) (u:=e) 7 7 X X<|WL.nr1<|Ao X (.qG 3 Y267 Z267 X (.t X))<|Ao X (.load ty27.h (.t X))<|WL.mv X X ?_;obtain ⟨v1,hv15,hm⟩:=Bs hm;refine Ao X (.addC hv15 (.t X) .i64) ?_;obtain ⟨w,hv16,hm⟩:=Bs hm;exact WL.weakR (res':=[(2,(Bx 1 false 38 (tO tS k1 v) b)),(1000002,Dec.Own tS 9 k1 v.length),(3,(Bx 1 false 267 (cloA 281 [(Bp b 0),(Bp b1 0)]) b1)),(700001,Gl (tA 8 (tL I6)) 1 gv1),E4]) ⟨X,X,X,X,X,X,X,X,X,X,trivial⟩<|WL.opR X (OpR.callClo (us:=[2,1000002,3,700001,700004]) (A:=λkx:Tok=>(Asn.eq (.tuple #[]))) (As:=[ae.is e,I6.is v1]) C281 (.t X) (aR.keys (rin':=[(2,(Bx 1 false 38 (tO tS k1 v) b)),(1000002,Dec.Own tS 9 k1 v.length),(3,(Bx 1 false 267 (cloA 281 [(Bp b 0),(Bp b1 0)]) b1)),(700001,Gl (tA 8 (tL I6)) 1 gv1),E4]) (out':=λkx:Tok=>[(2,(Bx 1 false 38 (tO tS kx w) b)),(1000002,Dec.Own tS 9 kx w.length),(3,(Bx 1 false 267 (cloA 281 [(Bp b 0),(Bp b1 0)]) b1)),(700001,Gl (tA 8 (tL I6)) 1 gv1),E4]) (ih _ _ _ _ _ _ _ hv16) X (λ_=>X)) X ⟨(.t X),(.t X),trivial⟩) λk2=>WL.nil<|WN.block<|Aq<|W.region<|Ao X (.addI (.t X) .i64 (uN hi7 hp12 hlen8))<|Am X X<|WL.nil<|WN.again es.length (i+1,pre++ [e],es,(w,k2)) (wm hn9) ⟨X,sV hxs6,uK hi7,hm⟩ ⟨.q X,.q X,.q X,.q X,.q X,trivial⟩ ⟨X,X,X,X,X,X,X,X,X,X,trivial⟩
  .have hrest14:=sH hxs6 hi7 (of_decide_eq_false hc11);subst hrest14;rw [M.dR.eq_1] at hm;refine W.exit X ?_;have hr17:=Si hm;clear hm;subst hr17;have hm:=hk5;try dsimp only at hm
   have hr:=Si hm;clear hm;subst hr;exact WN.fin k1 X (λ_=>X) ⟨X,X,X,X,X,X,X,X,X,X,trivial⟩
section
attribute [local irreducible] W WL WN DM Op1 OpR Opd Dep
instance D9(n:Nat)(u:aa)(l:List aS)(order:List Int)(r:aa):z1 9 (M.jr n u l order=some r) [ae.is u,(tL jE).is l,(tL I6).is order] (ae.is r):=.fx Tryz.call9 Tryz.func9 (M.jr.eq_1 ..) [1000003]
end
theorem wX(n:Nat)(u:aa)(r:List Str)(hm:M.lQ n u=some r):aR Tryz.prog 255 [ae.is u] [(700001,Gl (tA 8 (tL I6)) 1 gv1),E4] (λ_:Unit=>((tL tS).is r)) (λ_=>[]):=by
 unfold M.lQ at hm;refine aR.of Tryz.func255 X X X λg0=>Aw<|Ao X (.box (.t X))<|Ao X (.assign (.nil (t:=tS)))<|An<|W.seq<|Aw<|Ao X (.load ty27.h (.t X)) ?_;obtain ⟨strip,hv1,hm⟩:=Bs hm;refine Ao X (.call C280 (vV _ _ _ hv1) ⟨(.t X),trivial⟩) ?_;obtain ⟨valid,hv2,hm⟩:=Bs hm;refine Ao X (.callG (rin:=[(700001,Gl (tA 8 (tL I6)) 1 gv1),E4]) C257 ((Bi _ _ _).h hv2) ⟨X,X,trivial⟩ ⟨X,X,X,X,trivial⟩ ⟨(.t X),trivial⟩)<|Ao X (.notB (.t X))<|An<|W.cR hm (.t X) (λhp4 hm=>?_) (λhp4 hm=>?_)
 .refine Aw<|Ao X (.assign (.nil (t:=tS)))<|WL.ns ?_;cases hm;exact W.ret1 () X (.t X) trivial
 .refine W.skip<|Aq<|Aw<|WL.addNil (t:=tS) (E:=9) 1000003<|WL.opR X (OpR.allocO (t:=tS) 3 Tryz.zeroValue38) λb=>Ar<|WL.opR X (OpR.allocF 4 Tryz.zeroValue267) λb1=>Ar<|Ao X (.makeClo (Cs:=[(Bp b 0),(Bp b1 0)]) (cap:=[.tmp 3,.tmp 4]) ⟨(.t X),(.t X),trivial⟩)<|WL.opU (OpR.storeB (b:=b1) 4 Z267 (bg.clo 281 _) X (.t X) (.t X)) λ_=>Ar<|Ao X (.qG 4 Y267 Z267 X (.t X))<|Ao X (.load ty27.h (.t X)) ?_;obtain ⟨out,hv5,hm⟩:=Bs hm;refine WL.weakR (res':=[(3,(Bx 1 false 38 (tO tS (none:Tok) ([]:List Str)) b)),(1000003,Dec.Own tS 9 (none:Tok) ([]:List Str).length),(4,(Bx 1 false 267 (cloA 281 [(Bp b 0),(Bp b1 0)]) b1)),(700001,Gl (tA 8 (tL I6)) 1 gv1),E4]) ⟨X,X,X,X,X,X,X,X,X,X,trivial⟩<|WL.opR X (OpR.callClo (us:=[3,1000003,4,700001,700004]) (A:=λkx:Tok=>(Asn.eq (.tuple #[]))) (As:=[ae.is u,I6.is (0:Int)]) C281 (.t X) (aR.keys (rin':=[(3,(Bx 1 false 38 (tO tS (none:Tok) ([]:List Str)) b)),(1000003,Dec.Own tS 9 (none:Tok) ([]:List Str).length),(4,(Bx 1 false 267 (cloA 281 [(Bp b 0),(Bp b1 0)]) b1)),(700001,Gl (tA 8 (tL I6)) 1 gv1),E4]) (out':=λkx:Tok=>[(3,(Bx 1 false 38 (tO tS kx out) b)),(1000003,Dec.Own tS 9 kx out.length),(4,(Bx 1 false 267 (cloA 281 [(Bp b 0),(Bp b1 0)]) b1)),(700001,Gl (tA 8 (tL I6)) 1 gv1),E4]) (vO _ _ _ _ _ _ _ _ hv5) X (λ_=>X)) X ⟨(.t X),.i64,trivial⟩) λk=>Ar<|Ao X (.qG 3 Y38 Z38 X (.t X))<|Ag X X<|WL.ns ?_;cases hm;exact W.ret1 () X (Opd.own (.t X)) trivial
instance JQ(n:Nat)(u:aa)(r:List Str):z2 255 (M.lQ n u=some r) [ae.is u] ((tL tS).is r) [E1,E4]:=⟨Tryz.call255,(by repeat' first | exact trivial | refine ⟨X,?_⟩),λhm=>(wX n u r hm)⟩
section
attribute [local irreducible] W WL WN DM Op1 OpR Opd Dep
instance FT(n:Nat)(u:aa)(r:Str×Int):z2 233 (M.mO n u=some r) [ae.is u] (Asn.tuple2 (tS.is r.1) (I6.is r.2)) [E1,E4]:=.fx Tryz.call233 Tryz.func233 (M.mO.eq_1 ..)
abbrev KT:=λ(n:Nat)(nn:List ak)(s0:(List iC))(s1:aa)=>mkRg (τ:=(List iC)×aa) (M.cZ n nn s0 s1) (λmm jj s=>M.cZ n mm s.1 s.2) nn (s0,s1) 13 [2,4,11,12] [4,700000,700001,700004] (λs k1 _ _ _ _ _ e=>(6,tO jU k1 s.1)::e) (λs k1 _ _ b1 _ _ e=>(6,Dec.Own jU 158 k1 s.1.length)::(2,Bx 8 true 27 (ae.is s.2) b1)::e) (λ_ _=>M.cZ.eq_1 ..) (λ_ _ _ _=>M.cZ.eq_2 ..)
abbrev KU:=λ(a:aS)(nn:List ag)(ii:Int)(s0:List ak)=>mkRi (τ:=List ak) (M.dJ a nn ii s0) (λmm jj s=>M.dJ a mm jj s) nn ii s0 12 [2,3,4,10,11] [4,700000,700001,700004] (λs k1 _ _ _ _ _ e=>(6,tO aJ k1 s)::e) (λs k1 _ _ _ _ _ e=>(6,Dec.Own aJ 120 k1 s.length)::e) (λ_ _=>M.dJ.eq_1 ..) (λ_ _ _ _=>M.dJ.eq_2 ..)
abbrev MB:=λ(n:Nat)(l:List aS)(nn:List Int)(s0:aa)=>mkRg (M.gp n l nn s0) (λmm jj s=>M.gp n l mm s) nn s0 11 [2,3,6,9,10] [6,700000,700001,700004] z7 (λs _ _ _ b1 _ _ e=>(3,Bx 8 true 27 (ae.is s) b1)::e) (λ_ _=>M.gp.eq_1 ..) (λ_ _ _ _=>M.gp.eq_2 ..)
abbrev MC:=λ(n:Nat)(u:aa)(l:List aS)(nn:List (List Int))(s0:List aa)=>mkRg (τ:=List aa) (M.gq n u l nn s0) (λmm jj s=>M.gq n u l mm s) nn s0 18 [1,2,6,16,17] [700000,700001,700004] (λs k1 _ _ _ _ _ e=>(7,tO ae k1 s)::e) (λs k1 _ _ _ _ _ e=>(7,Dec.Own ae 27 k1 s.length)::e) (λ_ _=>M.gq.eq_1 ..) (λ_ _ _ _=>M.gq.eq_2 ..)
attribute [instance] KT KU MB MC
instance JR(n:Nat)(u:aa)(r:Bool):z2 183 (M.rz n u=some r) [ae.is u] (tB.is r) [E1,E4]:=.fx Tryz.call183 Tryz.func183 (M.rz.eq_1 ..)
instance IU(n:Nat)(it:ag)(r:Bool):z2 181 (M.mP n it=some r) [aB.is it] (tB.is r) [E1,E4]:=.fx Tryz.call181 Tryz.func181 (M.mP.eq_1 ..)
instance KR(n:Nat) (r:List (Int×eF)):z2 148 (M.sw n=some r) [] ((tQ I6 dx).is r) [(700000,Gl dx 0 gv0),E1,E4]:=SpG.of Tryz.call148 Tryz.func148 X X λg0 hm=>by
 unfold M.sw at hm;have h180:FnM 180 (λs0=>M.oN s0):=⟨()⟩
 have h181:FnM 181 (λs0=>M.mP n s0):=⟨()⟩
 have h184:FnM 184 (λs0=>M.oP s0):=⟨()⟩
 have h185:FnM 185 (λs0=>M.oQ s0):=⟨()⟩
 have h186:FnM 186 (λs0=>M.oU s0):=⟨()⟩
 have h187:FnM 187 (λs0=>M.mQ n s0):=⟨()⟩
 have h190:FnM 190 (λs0=>M.oV s0):=⟨()⟩
 have h191:FnM 191 (λs0=>M.mR n s0):=⟨()⟩
 have h192:FnM 192 (λs0=>M.oW s0):=⟨()⟩
 have h193:FnM 193 (λs0=>M.lT n s0):=⟨()⟩
 have h194:FnM 194 (λs0=>M.nT s0):=⟨()⟩
 have h195:FnM 195 (λs0=>M.lU n s0):=⟨()⟩
 have h197:FnM 197 (λs0=>M.nU s0):=⟨()⟩
 have h198:FnM 198 (λs0=>M.lV n s0):=⟨()⟩
 have h199:FnM 199 (λs0=>M.p9 s0):=⟨()⟩
 have h200:FnM 200 (λs0=>M.qa n s0):=⟨()⟩
 have h202:FnM 202 (λs0=>M.qb s0):=⟨()⟩
 have h203:FnM 203 (λ_=>none:ag->Option Bool):=⟨()⟩
 refine W.aG λhb=>?_;exact Fx hm
instance KS(n:Nat)(it:ag)(r:Bool):z2 134 (M.kG n it=some r) [aB.is it] (tB.is r) [(700000,Gl dx 0 gv0),E1,E4]:=SpG.of Tryz.call134 Tryz.func134 X X λg0 hm=>by
 unfold M.kG at hm;dsimp only at hm;exact Fx hm
instance Mw(n:Nat)(u:aa)(d:ak)(r:aa×Int):z2 119 (M.dS n u d=some r) [ae.is u,aJ.is d] (Asn.tuple2 (ae.is r.1) (I6.is r.2)) [(700000,Gl dx 0 gv0),E1,E4]:=.fx Tryz.call119 Tryz.func119 (M.dS.eq_1 ..) [8,10,12]
instance IV(n:Nat)(u:aa)(l:List ak)(r:aa×(List iC)):z2 91 (M.qL n u l=some r) [ae.is u,(tL aJ).is l] (Asn.tuple2 (ae.is r.1) ((tL jU).is r.2)) [(700000,Gl dx 0 gv0),E1,E4]:=.fx Tryz.call91 Tryz.func91 (M.qL.eq_1 ..) [8,9,1000002]
instance IW(n:Nat)(u:aa)(a:aS)(r:aa×(List iC)):z2 80 (M.oZ n u a=some r) [ae.is u,jE.is a] (Asn.tuple2 (ae.is r.1) ((tL jU).is r.2)) [(700000,Gl dx 0 gv0),E1,E4]:=.fx Tryz.call80 Tryz.func80 (M.oZ.eq_1 ..) [8]
instance JS(n:Nat)(u:aa)(order:List Int)(l:List aS)(r:aa):z2 57 (M.oC n u order l=some r) [ae.is u,(tL I6).is order,(tL jE).is l] (ae.is r) [(700000,Gl dx 0 gv0),E1,E4]:=.fx Tryz.call57 Tryz.func57 (M.oC.eq_1 ..) [1000003]
instance JU(n:Nat)(u:aa)(l:List aS)(r:(List (List Int))×(List aa)):z2 26 (M.mi n u l=some r) [ae.is u,(tL jE).is l] (Asn.tuple2 ((tL (tL I6)).is r.1) ((tL ae).is r.2)) [(700000,Gl dx 0 gv0),E1,E4]:=.fx Tryz.call26 Tryz.func26 (M.mi.eq_1 ..)
abbrev IX:=λ(l:List aS)(rows:(List (List Int))×(List aa))(v:Int)(nn:Nat)(s0:(List Int))(s1:Bool)(s2:Int)=>mkLp (τ:=(List Int)×Bool×Int) (M.bD l rows v nn s0 s1 s2) (λmm s=>M.bD l rows v mm s.1 s.2.1 s.2.2) nn (s0,s1,s2) [1,6,7,25] [700000,700001,700004] (λs _ _ _ _ _ _ e=>(8,(tL I6).is s.1)::(9,tB.is s.2.1)::(26,I6.is s.2.2)::e) z7 (λ_=>M.bD.eq_1 ..) (λ_ _=>M.bD.eq_2 ..)
abbrev IY:=λ(l:List aS)(v1:Int)(nn:Nat)(s0:(List Int))(s1:Int)=>mkLp (τ:=(List Int)×Int) (M.bq l v1 nn s0 s1) (λmm s=>M.bq l v1 mm s.1 s.2) nn (s0,s1) [1,6,7,8,9,10,25,26,30] [700000,700001,700004] (λs k1 _ _ _ _ _ e=>(11,tO I6 k1 s.1)::(31,I6.is s.2)::e) (λs k1 _ _ _ _ _ e=>(11,Dec.Own I6 3 k1 s.1.length)::e) (λ_=>M.bq.eq_1 ..) (λ_ _=>M.bq.eq_2 ..)
abbrev Dk:=λ(n:Nat)(nn:List aa)(s0:List aa)=>mkRg (τ:=List aa) (M.bA n nn s0) (λmm jj s=>M.bA n mm s) nn s0 21 [19,20] [700000,700001,700004] (λs k1 _ _ _ _ _ e=>(7,tO ae k1 s)::e) (λs k1 _ _ _ _ _ e=>(7,Dec.Own ae 27 k1 s.length)::e) (λ_ _=>M.bA.eq_1 ..) (λ_ _ _ _=>M.bA.eq_2 ..)
abbrev Ea:=λ(l:List aS)(nn:Nat)(s0:Int)=>mkLp (M.bz l nn s0) (λmm s=>M.bz l mm s) nn s0 [1,2] [700000,700001,700004] (λs _ _ _ _ _ _ e=>(5,I6.is s)::e) z7 (λ_=>M.bz.eq_1 ..) (λ_ _=>M.bz.eq_2 ..)
abbrev Eb:=λ(l:List aS)(i:Int)(nn:Nat)(s0:Int)=>mkLp (M.bJ l i nn s0) (λmm s=>M.bJ l i mm s) nn s0 [1,2,5] [700000,700001,700004] (λs _ _ _ _ _ _ e=>(6,I6.is s)::e) z7 (λ_=>M.bJ.eq_1 ..) (λ_ _=>M.bJ.eq_2 ..)
abbrev Ec:=λ(l:List aS)(nn:Nat)(s0:(List Int))(s1:Int)=>mkLp (τ:=(List Int)×Int) (M.bv l nn s0 s1) (λmm s=>M.bv l mm s.1 s.2) nn (s0,s1) [1,2,7] [700000,700001,700004] (λs k1 _ _ _ _ _ e=>(9,tO I6 k1 s.1)::(10,I6.is s.2)::e) (λs k1 _ _ _ _ _ e=>(65,Dec.Own I6 3 k1 s.1.length)::e) (λ_=>M.bv.eq_1 ..) (λ_ _=>M.bv.eq_2 ..)
abbrev Ed:=λ(u:aa)(l:List aS)(inorde:aa)(orders:List (List Int))(nn:Nat)(s0:Int)=>mkLp (M.cK u l inorde orders nn s0) (λmm s=>M.cK u l inorde orders mm s) nn s0 [1,2,7,11,12] [700000,700001,700004] (λs _ _ _ _ _ _ e=>(13,I6.is s)::e) z7 (λ_=>M.cK.eq_1 ..) (λ_ _=>M.cK.eq_2 ..)
abbrev Ee:=λ(u:aa)(l:List aS)(minimu:(List Int)×Int)(nn:Nat)(s0:Int)=>mkLp (M.cz u l minimu nn s0) (λmm s=>M.cz u l minimu mm s) nn s0 [1,2,7] [700000,700001,700004] (λs _ _ _ _ _ _ e=>(14,I6.is s)::e) z7 (λ_=>M.cz.eq_1 ..) (λ_ _=>M.cz.eq_2 ..)
attribute [instance] IX IY Dk Ea Eb Ec Ed Ee
instance FU(n:Nat)(u:aa)(l:List aS)(r:(List Int)×Int):z2 7 (M.mU n u l=some r) [ae.is u,(tL jE).is l] (Asn.tuple2 ((tL I6).is r.1) (I6.is r.2)) [(700000,Gl dx 0 gv0),E1,E4]:=.fx Tryz.call7 Tryz.func7 (M.mU.eq_1 ..)
instance Dw(n:Nat)(u:aa)(keep:List Int)(l:List aS)(r:Bool):z2 8 (M.jY n u keep l=some r) [ae.is u,(tL I6).is keep,(tL jE).is l] (tB.is r) [(700000,Gl dx 0 gv0),E1,E4]:=.fx Tryz.call8 Tryz.func8 (M.jY.eq_1 ..)
instance Bv(n:Nat)(u:aa)(l:List aS)(r:Int):z2 12 (M.jT n u l=some r) [ae.is u,(tL jE).is l] (I6.is r) [(700000,Gl dx 0 gv0),E1,E4]:=.fx Tryz.call12 Tryz.func12 (M.jT.eq_1 ..) [9]
instance uk(n:Nat)(u:aa)(l:List aS)(r:Bool):z2 3 (M.mf n u l=some r) [ae.is u,(tL jE).is l] (tB.is r) [(700000,Gl dx 0 gv0),E1,E4]:=.fx Tryz.call3 Tryz.func3 (M.mf.eq_1 ..) [11]
end
end Go.Proofs.YtobcmdhemlennaaGreatDoor
