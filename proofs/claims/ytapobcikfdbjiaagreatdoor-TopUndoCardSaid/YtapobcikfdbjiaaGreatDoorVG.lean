import Derived.Test.YtapobcikfdbjiaaGreatDoorVs
import Derived.Test.YtapobcikfdbjiaaGreatDoorVy
import Derived.Test.YtapobcikfdbjiaaGreatDoorVA
import Derived.Test.YtapobcikfdbjiaaGreatDoorVB
import Derived.Test.YtapobcikfdbjiaaGreatDoorVo
import Derived.Test.YtapobcikfdbjiaaGreatDoorVz
/-
  The code does what the models say: written by program.
-/
set_option linter.unusedVariables false
set_option linter.unusedSimpArgs false
namespace Go.Proofs.YtapobcikfdbjiaaGreatDoor
open Go Go.Dec
set_option maxRecDepth 1000000
set_option maxHeartbeats 4000000
abbrev Nu:=fun (slf:aa->Option Bool)(nn:List aa)=>mkRg (M.fP slf nn) (fun mm jj s=>M.fP slf mm) nn () 14 [1,12,13] [700001,700004] z7 z7 (fun _ _=>M.fP.eq_1 ..) (fun _ _ _ _=>M.fP.eq_2 ..)
abbrev Mf:=fun (l:List ak)(nn:Nat)(s0:Int)=>mkLp (M.cO l nn s0) (fun mm s=>M.cO l mm s) nn s0 [0] [] (fun s _ _ _ _ _ _ e=>(5,I6.is s)::e) z7 (fun _=>M.cO.eq_1 ..) (fun _ _=>M.cO.eq_2 ..)
attribute [instance] Nu Mf
section
attribute [local irreducible] W WL WN DM Op1 OpR Opd Dep
instance Iu(n:Nat)(u:aa)(p:List ax)(r:ai×Int):z1 29 (M.cu n u p=some r) [ae.is u,(tL bu).is p] (Asn.tuple2 (aB.is r.1) (I6.is r.2)):=.fx Tryz.call29 Tryz.func29 (M.cu.eq_1 ..)
instance KA:∀ (n:Nat) (u:aa) (r:Bool),z2 215 (M.kX n u=some r) [ae.is u,cloA 285 []] (tB.is r) [E1,E4]:=by
 intro n;induction n with
 | zero=>exact fun _ _=>⟨Tryz.call215,(by repeat' first | exact trivial | refine ⟨rfl,?_⟩),fun hm=>by cases hm⟩
 | succ n ih=>
  intro u r;refine SpG.of Tryz.call215 Tryz.func215 X X fun g0 hm=>?_;rw [M.kX.eq_2] at hm;exact Fx hm [6]
instance OO(n:Nat)(d:ak)(r:Bool):z1 13 (M.uT n d=some r) [aO.is d] (tB.is r):=.fx Tryz.call13 Tryz.func13 (M.uT.eq_1 ..)
instance Dv(n:Nat)(u:aa)(p:List ax)(where0_:Int)(r:ai×Int×Int):z1 208 (M.jQ n u p where0_=some r) [ae.is u,(tL bu).is p,I6.is where0_] (Asn.tuple3 (aB.is r.1) (I6.is r.2.1) (I6.is r.2.2)):=.fx Tryz.call208 Tryz.func208 (M.jQ.eq_1 ..) [9]
instance Ch(n:Nat)(u:aa)(r:Bool):z2 246 (M.mH n u=some r) [ae.is u] (tB.is r) [E1,E4]:=.fx Tryz.call246 Tryz.func246 (M.mH.eq_1 ..)
instance Vj(n:Nat)(u:aa)(d:ak)(r:aa×Int):z1 18 (M.mK n u d=some r) [ae.is u,aO.is d] (Asn.tuple2 (ae.is r.1) (I6.is r.2)):=.fx Tryz.call18 Tryz.func18 (M.mK.eq_1 ..) [6]
instance JI(n:Nat)(l:List ak)(most:Int)(r:Bool):z1 5 (M.qb n l most=some r) [(tL aO).is l,I6.is most] (tB.is r):=.fx Tryz.call5 Tryz.func5 (M.qb.eq_1 ..)
instance EO(n:Nat)(u:aa)(it:ah)(r:ai×Int×Int):z1 115 (M.jc n u it=some r) [ae.is u,aD.is it] (Asn.tuple3 (aB.is r.1) (I6.is r.2.1) (I6.is r.2.2)):=.fx Tryz.call115 Tryz.func115 (M.jc.eq_1 ..) [7,9,10]
abbrev VR:=fun (l:List ak)(nn:Nat)(s0:(List jL))(s1:Int)(s2:aa)=>mkLp (τ:=(List jL)×Int×aa) (M.gM l nn s0 s1 s2) (fun mm s=>M.gM l mm s.1 s.2.1 s.2.2) nn (s0,s1,s2) [1,2,4] [4] (fun s k1 _ _ _ _ _ e=>(6,tO j6 k1 s.1)::(7,I6.is s.2.1)::e) (fun s k1 _ _ b1 _ _ e=>(10,Dec.Own j6 61 k1 s.1.length)::(2,Bx 8 true 27 (ae.is s.2.2) b1)::e) (fun _=>M.gM.eq_1 ..) (fun _ _=>M.gM.eq_2 ..)
attribute [instance] VR
instance KD(n:Nat)(u:aa)(depth:Int)(r:Bool):z2 317 (M.qO n u depth=some r) [ae.is u,I6.is depth] (tB.is r) [E1,E4]:=SpG.of Tryz.call317 Tryz.func317 X X fun g0 hm=>by
 unfold M.qO at hm;dsimp only at hm;exact Fx hm [1000002]
instance Nv(n:Nat)(u:aa)(r:Bool):z2 229 (M.tV n u=some r) [ae.is u] (tB.is r) [E1,E4]:=.fx Tryz.call229 Tryz.func229 (M.tV.eq_1 ..)
instance TB(n:Nat)(u:aa)(l:List ak)(r:aa×(List jL)):z1 7 (M.yF n u l=some r) [ae.is u,(tL aO).is l] (Asn.tuple2 (ae.is r.1) ((tL j6).is r.2)):=.fx Tryz.call7 Tryz.func7 (M.yF.eq_1 ..) [1000002]
instance Iw(n:Nat)(u:aa)(r:Bool):z2 172 (M.eU n u=some r) [ae.is u] (tB.is r) [E1,E4]:=.fx Tryz.call172 Tryz.func172 (M.eU.eq_1 ..)
instance Mg(n:Nat)(u:aa)(found:aa)(d:ak)(r:aa×Int):z2 70 (M.fE n u found d=some r) [ae.is u,ae.is found,aO.is d] (Asn.tuple2 (ae.is r.1) (I6.is r.2)) [E1]:=.fx Tryz.call70 Tryz.func70 (M.fE.eq_1 ..) [8,9,11,13,15]
instance OP(n:Nat)(u:aa)(x:aa)(d:ak)(r:aa×Int):z2 76 (M.jd n u x d=some r) [ae.is u,ae.is x,aO.is d] (Asn.tuple2 (ae.is r.1) (I6.is r.2)) [E1]:=.fx Tryz.call76 Tryz.func76 (M.jd.eq_1 ..) [8,9,11,14,15]
instance vz(n:Nat)(u:aa)(depth:Int)(r:Str):z2 303 (M.kH n u depth=some r) [ae.is u,I6.is depth] (tS.is r) [E1,E4]:=.fx Tryz.call303 Tryz.func303 (M.kH.eq_1 ..)
instance FW(n:Nat)(c:aa)(r:Bool):z2 171 (M.mg n c=some r) [ae.ptr c] (tB.is r) [E1,E4]:=.fx Tryz.call171 Tryz.func171 (M.mg.eq_1 ..)
instance KE(n:Nat)(u:aa)(parent:ai)(place:Int)(x:aa)(r:Int):z2 178 (M.sV n u parent place x=some r) [ae.is u,aB.is parent,I6.is place,ae.is x] (I6.is r) [E1,E4]:=SpG.of Tryz.call178 Tryz.func178 X X fun g0 hm=>by
 unfold M.sV at hm;have c248:∀ p0 p1,HB Tryz.prog 248 [ae.ptr p0,ae.ptr p1] (fun _=>M.oD n p0 p1):=fun _ _=>⟨()⟩
 have c250:∀ p0 p1 p2 p3,HB Tryz.prog 250 [ae.ptr p0,ae.ptr p1,aB.ptr p2,ae.ptr p3] (fun _=>M.oF n p0 p1 p2 p3):=fun _ _ _ _=>⟨()⟩
 have c251:∀ p0,HB Tryz.prog 251 [tB.ptr p0] (fun _=>M.oG p0):=fun _=>⟨()⟩
 have c252:∀ p0 p1,HB Tryz.prog 252 [ae.ptr p0,ae.ptr p1] (fun _=>M.oH n p0 p1):=fun _ _=>⟨()⟩
 have c253:∀ p0 p1,HB Tryz.prog 253 [I6.ptr p0,ae.ptr p1] (fun _=>M.oI p0 p1):=fun _ _=>⟨()⟩
 have c254:∀ p0 p1,HB Tryz.prog 254 [ae.ptr p0,ae.ptr p1] (fun _=>M.oJ n p0 p1):=fun _ _=>⟨()⟩
 exact Fx hm [9,10]
instance Iy(n:Nat)(c:aa)(r:Bool):z2 181 (M.oK n c=some r) [ae.ptr c] (tB.is r) [E1,E4]:=.fx Tryz.call181 Tryz.func181 (M.oK.eq_1 ..)
instance GG(n:Nat)(u:aa)(id:ai)(name:Str)(r:aa×Int):z2 98 (M.qG n u id name=some r) [ae.is u,aB.is id,tS.is name] (Asn.tuple2 (ae.is r.1) (I6.is r.2)) [E1,E4]:=SpG.of Tryz.call98 Tryz.func98 X X fun g0 hm=>by
  unfold M.qG at hm;have c190:∀ p0 p1 p2 p3,HB Tryz.prog 190 [ae.ptr p0,aB.ptr p1,ae.ptr p2,tS.ptr p3] (fun _=>M.lH n p0 p1 p2 p3):=fun _ _ _ _=>⟨()⟩
  have c191:∀ p0,HB Tryz.prog 191 [tB.ptr p0] (fun _=>M.lI p0):=fun _=>⟨()⟩
  have c192:∀ p0,HB Tryz.prog 192 [ae.ptr p0] (fun _=>M.lJ p0):=fun _=>⟨()⟩
  exact Fx hm [8,9]
instance GH(n:Nat)(c:aa)(c1:List af)(c2:af->Option Bool)(r:Bool):z2 260 (M.lc n c c1 c2=some r) [ae.ptr c,(tL aj).ptr c1,((tFun Tryz.prog (fun (f:af->Option Bool)=>(fun s:af×Bool=>f s.1=some s.2)) (fun s:af×Bool=>[aj.is s.1]) (fun s:af×Bool=>(tB.is s.2))).ptr c2)] (tB.is r) [E1,E4]:=.fx Tryz.call260 Tryz.func260 (M.lc.eq_1 ..)
instance Nw(n:Nat) (r:List (Int×(aa->aa->ak->Option (aa×Int)))):z2 32 (M.vI n=some r) [] ((tQ I6 (tFun Tryz.prog (fun (f:aa->aa->ak->Option (aa×Int))=>(fun s:aa×aa×ak×(aa×Int)=>f s.1 s.2.1 s.2.2.1=some s.2.2.2)) (fun s:aa×aa×ak×(aa×Int)=>[ae.is s.1,ae.is s.2.1,aO.is s.2.2.1]) (fun s:aa×aa×ak×(aa×Int)=>(Asn.tuple2 (ae.is s.2.2.2.1) (I6.is s.2.2.2.2))))).is r) [E1]:=SpG.of Tryz.call32 Tryz.func32 X X fun g0 hm=>by
  unfold M.vI at hm;have h70:FnM 70 (fun s0 s1 s2=>M.fE n s0 s1 s2):=⟨()⟩
  have h71:FnM 71 (fun s0 s1 s2=>M.nU n s0 s1 s2):=⟨()⟩
  have h72:FnM 72 (fun s0 s1 s2=>M.qc n s0 s1 s2):=⟨()⟩
  have h73:FnM 73 (fun s0 s1 s2=>M.sJ n s0 s1 s2):=⟨()⟩
  have h74:FnM 74 (fun s0 s1 s2=>M.kU n s0 s1 s2):=⟨()⟩
  have h75:FnM 75 (fun s0 s1 s2=>M.kV n s0 s1 s2):=⟨()⟩
  have h76:FnM 76 (fun s0 s1 s2=>M.jd n s0 s1 s2):=⟨()⟩
  refine W.aG fun hb=>?_;exact Fx hm
end
theorem w9:∀ (n:Nat) (u:aa) (depth:Int) (c:List Str) (b:Nat) (k:Tok) (b1:Nat) (r:List Str),M.fU n u depth c=some r->aT Tryz.prog 302 [ae.is u,I6.is depth,Bp b 0,Bp b1 0] [(2,Bx 1 false 45 (tO tS k c) b),(1000002,Dec.Own tS 9 k c.length),(3,Bx 1 false 244 (cloA 302 [Bp b 0,Bp b1 0]) b1),(700001,Gl (tA 8 (tL I6)) 1 gv1),E4] (fun kx:Tok=>(Asn.eq (.tuple #[]))) (fun kx:Tok=>[(2,Bx 1 false 45 (tO tS kx r) b),(1000002,Dec.Own tS 9 kx r.length),(3,Bx 1 false 244 (cloA 302 [Bp b 0,Bp b1 0]) b1),(700001,Gl (tA 8 (tL I6)) 1 gv1),E4]):=by
 intro n;induction n with
 | zero=>intro u depth c b k b1 r hm;cases hm
 | succ n ih=>
  intro u depth c b k b1 r hm;rw [M.fU.eq_2] at hm;refine aT.of Tryz.func302 X X X fun g0=>Aw<|Co .box<|An<|W.seq ?_;obtain ⟨format,hv1,hm⟩:=Bs hm;obtain ⟨out,hv2,hm⟩:=Bs hm;refine W.wR [(1000002,Dec.Own tS 9 k c.length),(2,(Bx 1 false 45 (tO tS k c) b)),(3,(Bx 1 false 244 (cloA 302 [(Bp b 0),(Bp b1 0)]) b1)),(700001,Gl (tA 8 (tL I6)) 1 gv1),E4]<|W.dM [.c (tO tS k c),.c (ae.is u),.c (I6.is depth),.c (tS.is format),.c ((tL tS).is [format]),.f (fun cv=>(tO tS (cv 0) out)),.c Asn.any] [([],[2]),([],[4]),([],[1]),([1,2],[]),([3],[]),([0,4],[]),([5],[2])] [5,6] [[],[],[],[],[],[true],[]] (fun m cv=>match m with | 0=>[(1000002,Dec.Own tS 9 k c.length),(2,(Bx 1 false 45 (tO tS k c) b)),(3,(Bx 1 false 244 (cloA 302 [(Bp b 0),(Bp b1 0)]) b1)),(700001,Gl (tA 8 (tL I6)) 1 gv1),E4] | 1=>[(1000002,Dec.Own tS 9 (cv 0) out.length),(2,(Bx 1 false 45 (tO tS k c) b)),(3,(Bx 1 false 244 (cloA 302 [(Bp b 0),(Bp b1 0)]) b1)),(700001,Gl (tA 8 (tL I6)) 1 gv1),E4] | _=>[(2,(Bx 1 false 45 (tO tS (cv 0) out) b)),(1000002,Dec.Own tS 9 (cv 0) out.length),(3,(Bx 1 false 244 (cloA 302 [(Bp b 0),(Bp b1 0)]) b1)),(700001,Gl (tA 8 (tL I6)) 1 gv1),E4]) Mx ⟨.inr ⟨fun cv=>[(2,(Bx 1 false 45 (tO tS k c) b))],(jm.at ⟨⟨(fun _ _=>⟨X,X,trivial⟩),(nn)⟩,(nn)⟩),fun cv=>Op1.mP 2 Y45 Z45 X .r⟩,mo fun cv=>.load ty27.h,mo fun cv=>.move,.inr ⟨fun cv=>[(700001,Gl (tA 8 (tL I6)) 1 gv1),E4],(jm.at ⟨⟨(fun _ _=>⟨X,X,X,X,trivial⟩),(nn)⟩,(nn)⟩),fun cv=>Op1.callG (rin:=[(700001,Gl (tA 8 (tL I6)) 1 gv1),E4]) C303 ((vz _ _ _ _).h hv1) ⟨X,X,trivial⟩ ⟨X,X,X,X,trivial⟩ ⟨.r,.r,trivial⟩⟩,mo fun cv=>.buildSlice (n:=1) (ys:=[(0,format)]) (z:=([]:Str)) (xs:=[format]) U45 el9.h ze9.h ⟨X,.r,trivial⟩ (by simp) (by decide) X,.inl X,.inl X,trivial⟩ ⟨⟨_,_,_,[1000002],(fun cv=>[(1000002,Dec.Own tS 9 (cv 0) out.length)]),X,X,X,X,fun _=>X,fun _ _=>X,fun cv=>OpR.appC (key:=1000002) hv2 U45 el9.h .r .r X⟩,⟨_,_,_,[2],(fun cv=>[(2,(Bx 1 false 45 (tO tS (cv 0) out) b))]),X,X,X,X,fun _=>X,fun _ _=>X,fun cv=>OpR.viaU (OpR.storeB (b:=b) 2 Z45 (aN.o tS (cv 0) out) X)⟩,trivial⟩ fun cv=>Aq<|Aw<|Co (.fA U27 J25 ib.h)<|Co (.load ty25.h)<|Co (.nM U25)<|Co (.move .i64)<|An<|W.block ?_;obtain ⟨s3,hs4,hk5⟩:=Bs hm;clear hm;refine W.lp (fun m (s:Int×List aa×List aa×(((List Str))×Tok))=>m=s.2.2.1.length/\u.Kids=s.2.1++s.2.2.1/\s.1=(s.2.1.length:Int)/\M.dL depth (M.fU n) s.2.2.1 s.2.2.2.1=some s3) (fun s=>[(17,(I6.is s.1)),(1,(I6.is depth)),(3,(Bp b1 0)),(15,((tL ae).is u.Kids)),(16,(I6.is (u.Kids.length:Int)))]) (fun s=>[(1000002,Dec.Own tS 9 s.2.2.2.2 s.2.2.2.1.length),(2,(Bx 1 false 45 (tO tS s.2.2.2.2 s.2.2.2.1) b)),(3,(Bx 1 false 244 (cloA 302 [(Bp b 0),(Bp b1 0)]) b1)),(700001,Gl (tA 8 (tL I6)) 1 gv1),E4]) u.Kids.length ((0:Int),[],u.Kids,(out,(cv 0))) ⟨X,X,X,hs4⟩ ?_;rintro m ⟨i,pre,rest1,v,k1⟩ ⟨hn9,hxs6,hi7,hm⟩;try dsimp only at hn9 hxs6 hi7 hm
  refine W.nM (s:=15) .r fun hlen8=>Aw<|Co .ltI<|An<|W.seq<|W.cond .r (fun hc11=>?_) (fun hc11=>?_)
  ·have hp12:=of_decide_eq_true hc11;obtain ⟨e,es,hrest14⟩:=mD hxs6 hi7 hp12;subst hrest14;rw [M.dL.eq_2] at hm;refine W.skip<|Aq<|W.seq<|W.block<|Aw<|Co (.idxPre hxs6 hi7 U25 Z27)<|Co (.load ty27.h)<|Cr (OpR.alloc 7 ze27.h) fun b2=>WL.opU (OpR.storeB (b:=b2) 7 Z27 (aN.is ae e) X) fun _=>WL.sealed (t:=ae) (u:=e) 7 7 X X<|WL.nr1<|Co (.mP 3 Y244 Z244 X)<|Co (.load ty27.h)<|WL.mv X X ?_;obtain ⟨v1,hv15,hm⟩:=Bs hm;refine Co (.addC hv15 .r .i64) ?_;obtain ⟨w,hv16,hm⟩:=Bs hm;exact WL.weakR (res':=[(2,(Bx 1 false 45 (tO tS k1 v) b)),(1000002,Dec.Own tS 9 k1 v.length),(3,(Bx 1 false 244 (cloA 302 [(Bp b 0),(Bp b1 0)]) b1)),(700001,Gl (tA 8 (tL I6)) 1 gv1),E4]) ⟨X,X,X,X,X,X,X,X,X,X,trivial⟩<|Cr (OpR.callClo (us:=[2,1000002,3,700001,700004]) (A:=fun kx:Tok=>(Asn.eq (.tuple #[]))) (As:=[ae.is e,I6.is v1]) C302 .r (aT.keys (rin':=[(2,(Bx 1 false 45 (tO tS k1 v) b)),(1000002,Dec.Own tS 9 k1 v.length),(3,(Bx 1 false 244 (cloA 302 [(Bp b 0),(Bp b1 0)]) b1)),(700001,Gl (tA 8 (tL I6)) 1 gv1),E4]) (out':=fun kx:Tok=>[(2,(Bx 1 false 45 (tO tS kx w) b)),(1000002,Dec.Own tS 9 kx w.length),(3,(Bx 1 false 244 (cloA 302 [(Bp b 0),(Bp b1 0)]) b1)),(700001,Gl (tA 8 (tL I6)) 1 gv1),E4]) (ih _ _ _ _ _ _ _ hv16) X (fun _=>X)) X ⟨.r,.r,trivial⟩) fun k2=>WL.nil<|WN.block<|Aq<|W.region<|Co (.addI .r .i64 (oU hi7 hp12 hlen8))<|Cm X<|WL.nil<|WN.ag es.length (i+1,pre++ [e],es,(w,k2)) (qI hn9) ⟨X,mE hxs6,oQ hi7,hm⟩
  ·have hrest14:=oP hxs6 hi7 (of_decide_eq_false hc11);subst hrest14;rw [M.dL.eq_1] at hm;refine W.exit X ?_;have hr17:=Si hm;clear hm;subst hr17;have hm:=hk5;try dsimp only at hm
   have hr:=Si hm;clear hm;subst hr;exact WN.fin k1 X (fun _=>X) ⟨X,X,X,X,X,X,X,X,X,X,trivial⟩
section
attribute [local irreducible] W WL WN DM Op1 OpR Opd Dep
instance Iz(n:Nat)(u:aa)(id:ai)(r:aa×aa×Int):z2 92 (M.ru n u id=some r) [ae.is u,aB.is id] (Asn.tuple3 (ae.is r.1) (ae.is r.2.1) (I6.is r.2.2)) [E1,E4]:=SpG.of Tryz.call92 Tryz.func92 X X fun g0 hm=>by
  unfold M.ru at hm;have c171:∀ p0,HB Tryz.prog 171 [ae.ptr p0] (fun _=>M.mg n p0):=fun _=>⟨()⟩
  have c173:∀ p0 p1,HB Tryz.prog 173 [ae.ptr p0,aB.ptr p1] (fun _=>M.mh n p0 p1):=fun _ _=>⟨()⟩
  have c175:∀ p0 p1,HB Tryz.prog 175 [ae.ptr p0,aB.ptr p1] (fun _=>M.mi p0 p1):=fun _ _=>⟨()⟩
  exact Fx hm [8]
instance IA(n:Nat)(u:aa)(parent:ai)(place:Int)(x:aa)(r:aa×Int):z2 94 (M.ry n u parent place x=some r) [ae.is u,aB.is parent,I6.is place,ae.is x] (Asn.tuple2 (ae.is r.1) (I6.is r.2)) [E1,E4]:=.fx Tryz.call94 Tryz.func94 (M.ry.eq_1 ..)
instance KG(n:Nat)(u:aa)(id:ai)(parent:ai)(place:Int)(r:aa×Int):z2 96 (M.sW n u id parent place=some r) [ae.is u,aB.is id,aB.is parent,I6.is place] (Asn.tuple2 (ae.is r.1) (I6.is r.2)) [E1,E4]:=SpG.of Tryz.call96 Tryz.func96 X X fun g0 hm=>by
  unfold M.sW at hm;have c181:∀ p0,HB Tryz.prog 181 [ae.ptr p0] (fun _=>M.oK n p0):=fun _=>⟨()⟩
  have c182:∀ p0 p1 p2,HB Tryz.prog 182 [ae.ptr p0,aB.ptr p1,aB.ptr p2] (fun _=>M.oL n p0 p1 p2):=fun _ _ _=>⟨()⟩
  have c184:∀ p0 p1 p2 p3,HB Tryz.prog 184 [ae.ptr p0,ae.ptr p1,aB.ptr p2,ae.ptr p3] (fun _=>M.oM n p0 p1 p2 p3):=fun _ _ _ _=>⟨()⟩
  have c187:∀ p0 p1,HB Tryz.prog 187 [I6.ptr p0,ae.ptr p1] (fun _=>M.oN p0 p1):=fun _ _=>⟨()⟩
  have c188:∀ p0 p1,HB Tryz.prog 188 [ae.ptr p0,ae.ptr p1] (fun _=>M.oO n p0 p1):=fun _ _=>⟨()⟩
  exact Fx hm [11,13,15,16]
instance KH(n:Nat)(u:aa)(p:az)(r:aa×Int):z2 97 (M.pK n u p=some r) [ae.is u,aL.is p] (Asn.tuple2 (ae.is r.1) (I6.is r.2)) [E1,E4]:=.fx Tryz.call97 Tryz.func97 (M.pK.eq_1 ..)
instance JJ(n:Nat)(u:aa)(id:ai)(l:List af)(does:aa->Option aa)(r:aa×Int):z2 194 (M.nC n u id l does=some r) [ae.is u,aB.is id,(tL aj).is l,((tFun Tryz.prog (fun (f:aa->Option aa)=>(fun s:aa×aa=>f s.1=some s.2)) (fun s:aa×aa=>[ae.is s.1]) (fun s:aa×aa=>(ae.is s.2))).is does)] (Asn.tuple2 (ae.is r.1) (I6.is r.2)) [E1,E4]:=SpG.of Tryz.call194 Tryz.func194 X X fun g0 hm=>by
  unfold M.nC at hm;have c260:∀ p0 p1 p2,HB Tryz.prog 260 [ae.ptr p0,(tL aj).ptr p1,(tFun Tryz.prog (fun (f:af->Option Bool)=>(fun s:af×Bool=>f s.1=some s.2)) (fun s:af×Bool=>[aj.is s.1]) (fun s:af×Bool=>(tB.is s.2))).ptr p2] (fun _=>M.lc n p0 p1 p2):=fun _ _ _=>⟨()⟩
  have c262:∀ p0,HB Tryz.prog 262 [tB.ptr p0] (fun _=>M.lg p0):=fun _=>⟨()⟩
  have c263:∀ p0,HB Tryz.prog 263 [ae.ptr p0] (fun _=>M.lh p0):=fun _=>⟨()⟩
  have c264:∀ p0,HB Tryz.prog 264 [(tL aj).ptr p0] (fun _=>M.ll p0):=fun _=>⟨()⟩
  have h259:FnM 259 (fun s0=>M.jl n s0):=⟨()⟩
  exact Fx hm [10,11,12,3000012]
end
theorem yc(n:Nat)(u:aa)(r:List Str)(hm:M.lV n u=some r):aT Tryz.prog 272 [ae.is u] [(700001,Gl (tA 8 (tL I6)) 1 gv1),E4] (fun _:Unit=>((tL tS).is r)) (fun _=>[]):=by
 unfold M.lV at hm;refine aT.of Tryz.func272 X X X fun g0=>Aw<|Co .box<|Co (.assign (.nil (t:=tS)))<|An<|W.seq<|Aw<|Co (.load ty27.h) ?_;obtain ⟨strip,hv1,hm⟩:=Bs hm;refine Co (.call C301 (xu _ _ _ hv1) ⟨.r,trivial⟩) ?_;obtain ⟨valid,hv2,hm⟩:=Bs hm;refine Co (.callG (rin:=[(700001,Gl (tA 8 (tL I6)) 1 gv1),E4]) C246 ((Ch _ _ _).h hv2) ⟨X,X,trivial⟩ ⟨X,X,X,X,trivial⟩ ⟨.r,trivial⟩)<|Co .notB<|An<|W.cR hm .r (fun hp4 hm=>?_) (fun hp4 hm=>?_)
 ·refine Aw<|Co (.assign (.nil (t:=tS)))<|WL.ns ?_;cases hm;exact W.e1
 ·refine W.skip<|Aq<|Aw<|WL.addNil (t:=tS) (E:=9) 1000003<|Cr (OpR.allocO (t:=tS) 3 Tryz.zeroValue45) fun b=>Ar<|Cr (OpR.allocF 4 Tryz.zeroValue244) fun b1=>Ar<|Co (.makeClo (Cs:=[(Bp b 0),(Bp b1 0)]) (cap:=[.tmp 3,.tmp 4]) ⟨.r,.r,trivial⟩)<|WL.opU (OpR.storeB (b:=b1) 4 Z244 (aN.clo 302 _) X) fun _=>Ar<|Co (.mP 4 Y244 Z244 X)<|Co (.load ty27.h) ?_;obtain ⟨out,hv5,hm⟩:=Bs hm;refine WL.weakR (res':=[(3,(Bx 1 false 45 (tO tS (none:Tok) ([]:List Str)) b)),(1000003,Dec.Own tS 9 (none:Tok) ([]:List Str).length),(4,(Bx 1 false 244 (cloA 302 [(Bp b 0),(Bp b1 0)]) b1)),(700001,Gl (tA 8 (tL I6)) 1 gv1),E4]) ⟨X,X,X,X,X,X,X,X,X,X,trivial⟩<|Cr (OpR.callClo (us:=[3,1000003,4,700001,700004]) (A:=fun kx:Tok=>(Asn.eq (.tuple #[]))) (As:=[ae.is u,I6.is (0:Int)]) C302 .r (aT.keys (rin':=[(3,(Bx 1 false 45 (tO tS (none:Tok) ([]:List Str)) b)),(1000003,Dec.Own tS 9 (none:Tok) ([]:List Str).length),(4,(Bx 1 false 244 (cloA 302 [(Bp b 0),(Bp b1 0)]) b1)),(700001,Gl (tA 8 (tL I6)) 1 gv1),E4]) (out':=fun kx:Tok=>[(3,(Bx 1 false 45 (tO tS kx out) b)),(1000003,Dec.Own tS 9 kx out.length),(4,(Bx 1 false 244 (cloA 302 [(Bp b 0),(Bp b1 0)]) b1)),(700001,Gl (tA 8 (tL I6)) 1 gv1),E4]) (w9 _ _ _ _ _ _ _ _ hv5) X (fun _=>X)) X ⟨.r,.i64,trivial⟩) fun k=>Ar<|Co (.mP 3 Y45 Z45 X)<|Cg X<|WL.ns ?_;cases hm;exact W.ret1 () X (Opd.own .r) trivial
instance KI(n:Nat)(u:aa)(r:List Str):z2 272 (M.lV n u=some r) [ae.is u] ((tL tS).is r) [E1,E4]:=⟨Tryz.call272,(by repeat' first | exact trivial | refine ⟨X,?_⟩),fun hm=>(yc n u r hm)⟩
section
attribute [local irreducible] W WL WN DM Op1 OpR Opd Dep
instance KJ(n:Nat)(u:aa)(p:az)(r:aa×Int):z2 91 (M.pG n u p=some r) [ae.is u,aL.is p] (Asn.tuple2 (ae.is r.1) (I6.is r.2)) [E1,E4]:=.fx Tryz.call91 Tryz.func91 (M.pG.eq_1 ..) [6,7]
instance KM(n:Nat)(u:aa)(p:az)(r:aa×Int):z2 93 (M.pI n u p=some r) [ae.is u,aL.is p] (Asn.tuple2 (ae.is r.1) (I6.is r.2)) [E1,E4]:=.fx Tryz.call93 Tryz.func93 (M.pI.eq_1 ..)
instance KN(n:Nat)(u:aa)(p:az)(r:aa×Int):z2 95 (M.pJ n u p=some r) [ae.is u,aL.is p] (Asn.tuple2 (ae.is r.1) (I6.is r.2)) [E1,E4]:=.fx Tryz.call95 Tryz.func95 (M.pJ.eq_1 ..)
instance FX(n:Nat)(u:aa)(id:ai)(l:List af)(r:aa×Int):z2 100 (M.pV n u id l=some r) [ae.is u,aB.is id,(tL aj).is l] (Asn.tuple2 (ae.is r.1) (I6.is r.2)) [E1,E4]:=.fx Tryz.call100 Tryz.func100 (M.pV.eq_1 ..)
instance Ep(n:Nat)(u:aa)(id:ai)(l:List af)(r:aa×Int):z2 102 (M.mM n u id l=some r) [ae.is u,aB.is id,(tL aj).is l] (Asn.tuple2 (ae.is r.1) (I6.is r.2)) [E1,E4]:=.fx Tryz.call102 Tryz.func102 (M.mM.eq_1 ..)
instance GI(n:Nat)(u:aa)(r:Str×Int):z2 228 (M.ng n u=some r) [ae.is u] (Asn.tuple2 (tS.is r.1) (I6.is r.2)) [E1,E4]:=.fx Tryz.call228 Tryz.func228 (M.ng.eq_1 ..)
instance KO(n:Nat)(u:aa)(p:az)(r:aa×Int):z2 99 (M.pM n u p=some r) [ae.is u,aL.is p] (Asn.tuple2 (ae.is r.1) (I6.is r.2)) [E1,E4]:=.fx Tryz.call99 Tryz.func99 (M.pM.eq_1 ..)
instance KP(n:Nat)(u:aa)(p:az)(r:aa×Int):z2 101 (M.pO n u p=some r) [ae.is u,aL.is p] (Asn.tuple2 (ae.is r.1) (I6.is r.2)) [E1,E4]:=.fx Tryz.call101 Tryz.func101 (M.pO.eq_1 ..)
instance KQ(n:Nat)(u:aa)(r:Bool):z2 139 (M.sU n u=some r) [ae.is u] (tB.is r) [E1,E4]:=.fx Tryz.call139 Tryz.func139 (M.sU.eq_1 ..)
instance Ny(n:Nat) (r:List (Int×(aa->az->Option (aa×Int)))):z2 45 (M.mq n=some r) [] ((tQ I6 (tFun Tryz.prog (fun (f:aa->az->Option (aa×Int))=>(fun s:aa×az×(aa×Int)=>f s.1 s.2.1=some s.2.2)) (fun s:aa×az×(aa×Int)=>[ae.is s.1,aL.is s.2.1]) (fun s:aa×az×(aa×Int)=>(Asn.tuple2 (ae.is s.2.2.1) (I6.is s.2.2.2))))).is r) [E1,E4]:=SpG.of Tryz.call45 Tryz.func45 X X fun g0 hm=>by
  unfold M.mq at hm;have h91:FnM 91 (fun s0 s1=>M.pG n s0 s1):=⟨()⟩
  have h93:FnM 93 (fun s0 s1=>M.pI n s0 s1):=⟨()⟩
  have h95:FnM 95 (fun s0 s1=>M.pJ n s0 s1):=⟨()⟩
  have h97:FnM 97 (fun s0 s1=>M.pK n s0 s1):=⟨()⟩
  have h99:FnM 99 (fun s0 s1=>M.pM n s0 s1):=⟨()⟩
  have h101:FnM 101 (fun s0 s1=>M.pO n s0 s1):=⟨()⟩
  refine W.aG fun hb=>?_;exact Fx hm
instance JK(n:Nat)(it:ah)(r:Bool):z2 137 (M.ni n it=some r) [aD.is it] (tB.is r) [E1,E4]:=.fx Tryz.call137 Tryz.func137 (M.ni.eq_1 ..)
instance Bj(n:Nat)(u:aa)(p:az)(r:aa×Int):z2 21 (M.di n u p=some r) [ae.is u,aL.is p] (Asn.tuple2 (ae.is r.1) (I6.is r.2)) [E1,E4]:=.fx Tryz.call21 Tryz.func21 (M.di.eq_1 ..)
instance Mh(n:Nat) (r:List (Int×dX)):z2 77 (M.uC n=some r) [] ((tQ I6 eO).is r) [(700000,Gl eO 0 gv0),E1,E4]:=SpG.of Tryz.call77 Tryz.func77 X X fun g0 hm=>by
  unfold M.uC at hm;have h136:FnM 136 (fun s0=>M.qd s0):=⟨()⟩
  have h137:FnM 137 (fun s0=>M.ni n s0):=⟨()⟩
  have h140:FnM 140 (fun s0=>M.qg s0):=⟨()⟩
  have h141:FnM 141 (fun s0=>M.qh s0):=⟨()⟩
  have h142:FnM 142 (fun s0=>M.qi s0):=⟨()⟩
  have h143:FnM 143 (fun s0=>M.nk n s0):=⟨()⟩
  have h146:FnM 146 (fun s0=>M.qj s0):=⟨()⟩
  have h147:FnM 147 (fun s0=>M.nu n s0):=⟨()⟩
  have h148:FnM 148 (fun s0=>M.ql s0):=⟨()⟩
  have h149:FnM 149 (fun s0=>M.lX n s0):=⟨()⟩
  have h150:FnM 150 (fun s0=>M.oz s0):=⟨()⟩
  have h151:FnM 151 (fun s0=>M.lY n s0):=⟨()⟩
  have h153:FnM 153 (fun s0=>M.oC s0):=⟨()⟩
  have h154:FnM 154 (fun s0=>M.lZ n s0):=⟨()⟩
  have h155:FnM 155 (fun s0=>M.qY s0):=⟨()⟩
  have h156:FnM 156 (fun s0=>M.qZ n s0):=⟨()⟩
  have h158:FnM 158 (fun s0=>M.rf s0):=⟨()⟩
  have h159:FnM 159 (fun _=>none:ah->Option Bool):=⟨()⟩
  refine W.aG fun hb=>?_;exact Fx hm
end
theorem y8(n:Nat)(u:aa)(l:List az)(r:aa×Int)(hm:M.lL n u l=some r):aT Tryz.prog 9 [ae.is u,(tL aL).is l] [(700001,Gl (tA 8 (tL I6)) 1 gv1),E4] (fun _:Unit=>Asn.tuple2 (ae.is r.1) (I6.is r.2)) (fun _=>[]):=by
 unfold M.lL at hm;obtain ⟨v,hv,hm⟩:=Bs hm;refine aT.ofN fun g0 vs hvs hrg=>(callsIn_wide (n:=3)).1 (callsIn_of_wp_marks Tryz.func9 X trivial ?_ X);refine WR.beginG (rin:=[(700001,Gl (tA 8 (tL I6)) 1 gv1),E4]) (As:=[ae.is u,(tL aL).is l]) (N:=26) X X hvs hrg ⟨X,X,trivial⟩<|WR.seq<|WR.region X<|Cr (OpR.boxB 2 (aN.is ae u)) fun b2=>Cr (OpR.alloc 4 ze27.h) fun b4=>Cr (OpR.alloc 5 ze38.h) fun b5=>WL.nil<|WN.wr<|WR.seq<|WR.seq<|WR.region X<|Co .move<|Co (.call C20 (H8 _) ⟨.tmp X,trivial⟩)<|WL.nil<|WN.wr<|WR.block ?_;refine WR.weaken (env':=[(11,cloA 44 [(tL aL).ptr l]),(5,Bp b5 0),(4,Bp b4 0),(2,Bp b2 0)]) (res':=[(2,Bx 8 true 27 (ae.is u) b2),(4,Bx 8 true 27 (ae.is au) b4),(5,Bx 1 false 38 (I6.is (0:Int)) b5),(700001,Gl (tA 8 (tL I6)) 1 gv1),E4]) ⟨.q X,.q X,.q X,.q X,trivial⟩ ⟨X,X,X,X,X,X,X,X,X,X,trivial⟩<|WR.backS (kD:=99) (v:=v) (t:=aL) (xs:=l) (st:=M.kP n) (resA:=fun q:aa=>[(2,Bx 8 true 27 (ae.is q) b2),(4,Bx 8 true 27 (ae.is au) b4),(5,Bx 1 false 38 (I6.is (0:Int)) b5),(700001,Gl (tA 8 (tL I6)) 1 gv1),E4]) (resX:=fun r:aa×Int=>[(4,Bx 8 true 27 (ae.is r.1) b4),(5,Bx 1 false 38 (I6.is r.2) b5)])
  (envA:=fun x=>[(7,aL.ptr x),(5,Bp b5 0),(4,Bp b4 0),(2,Bp b2 0)]) u back44 (by omega) C44 X hv X X X X X X ?hA ?hB ?hR ?hX ?hdone ?hstop
 case hA=>
  intro g1 x q B hk;refine Cr (OpR.alloc 7 ze56.h) fun b7=>WL.opU (OpR.storeB (b:=b7) 7 Z56 (aN.is aL x) X) fun _=>WL.sealed (t:=aL) (u:=x) 7 7 X X<|WL.nil<|WN.weaken ?_ ?_ hk
  ·exact ⟨.q X,.q X,.q X,.q X,trivial⟩
  ·exact ⟨X,X,X,X,X,X,X,X,X,X,trivial⟩
 case hR=>
  rintro q b ⟨y,hy,hb⟩;rcases List.mem_cons.1 hy with rfl | hy
  ·exact ⟨_,List.mem_cons_self,hb⟩
  ·exact ⟨y,List.mem_cons_of_mem _ hy,hb⟩
 case hX=>
  rintro r b ⟨y,hy,hb⟩;rcases List.mem_cons.1 hy with rfl | hy
  ·exact ⟨_,List.mem_cons_of_mem _ List.mem_cons_self,hb⟩
  ·rw [List.mem_singleton.1 hy] at hb;exact ⟨_,List.mem_cons_of_mem _ (List.mem_cons_of_mem _ List.mem_cons_self),hb⟩
 case hdone=>
  intro q hn a' g' D hst;subst hn;cases hm;change Code.wpIn (ring none) 3 Tryz.prog _ _ (sh (markD D) a') g'.w;refine WR.go ?_ hst;exact WR.seq<|WR.region X<|Co (.mP 2 Y27 Z27 X)<|WL.opU (OpR.storeB (b:=b4) 4 Z27 (aN.is ae q) X) fun _=>WL.opU (OpR.storeB (b:=b5) 5 Z38 (aN.is I6 (0:Int)) X .r .i64) fun _=>WL.nil<|WN.wr<|WR.ret fun a9 g9 h9=>leave2 (kD:=99) (h9.weaken (env':=[(5,Bp b5 0),(4,Bp b4 0)]) (res':=[(99,Dq D),(4,Bx 8 true 27 (ae.is q) b4),(5,Bx 1 false 38 (I6.is (0:Int)) b5)]) ⟨.q X,.q X,trivial⟩ ⟨X,X,X,X,X,X,trivial⟩) X (ResAt.cell 4 Y27 Z27 X .r) (ResAt.cell 5 Y38 Z38 X .r)
 case hstop=>
  intro r2 hr a' g' D hst;subst hr;cases hm;exact leave2 (kD:=99) hst X (ResAt.cell 4 Y27 Z27 X .r) (ResAt.cell 5 Y38 Z38 X .r)
 case hB=>
  intro l n1 g1 x u o Q' hm hN hR;unfold M.kP at hm;refine WR.block<|WR.seq<|WR.region X<|Co (.mP 2 Y27 Z27 X)<|Co (.load ty56.h) ?_;obtain ⟨revert,hv1,hm⟩:=Bs hm;refine Co (.callG (rin:=[(700001,Gl (tA 8 (tL I6)) 1 gv1),E4]) C21 ((Bj _ _ _ _).h hv1) ⟨X,X,trivial⟩ ⟨X,X,X,X,trivial⟩ ⟨.r,.r,trivial⟩)<|Cm X<|Co .extract0<|Co .extract1<|Cr (OpR.alloc 8 ze27.h) fun b=>WL.opU (OpR.storeB (b:=b) 8 Z27 (aN.is ae revert.1) X) fun _=>WL.sealed (t:=ae) (u:=revert.1) 8 8 X X<|Co .assign<|WL.nil<|WN.wr<|WR.seq<|WR.seq<|WR.region X<|Cm X<|Co (.neI .r .i64)<|WL.nil ?_;refine WN.wr<|WR.cond .r (fun hc2=>?_) (fun hc2=>?_)
  ·have hp3:=of_decide_eq_true hc2;rw [if_pos hp3] at hm;refine WR.seq<|WR.region X<|Co (.build (s:=ae) (x:=(⟨aF,(0:Int),([]:Str),([]:List af),([]:List af),([]:List aa)⟩:aa)) xO X U27 (Ai _ U27) ze27.h X)<|Cm X<|WL.opU (OpR.storeB (b:=b4) 4 Z27 (aN.is ae (⟨aF,(0:Int),([]:Str),([]:List af),([]:List af),([]:List aa)⟩:aa)) X) fun _=>WL.opU (OpR.storeB (b:=b5) 5 Z38 (aN.is I6 revert.2) X) fun _=>WL.nil<|WN.wr<|WR.ret (fun a9 g9 h9=>?_);cases hm;show Q' .ret (sh [] _) _;rw [p8];exact hR _ X _ _ (h9.weaken trivial ⟨X,X,X,X,trivial⟩)
  ·have hp3:=of_decide_eq_false hc2;rw [if_neg hp3] at hm;refine WR.skipS<|WR.region X<|Co (.load ty27.h)<|WL.opU (OpR.storeB (b:=b2) 2 Z27 (aN.is ae revert.1) X) fun _=>WL.nil ?_;cases hm;intro a9 g9 h9;show Q' .normal (sh [] _) _;rw [p8];exact hN _ X _ _ (h9.weaken trivial ⟨X,X,X,X,X,X,X,X,X,X,trivial⟩)
instance Mi(n:Nat)(u:aa)(l:List az)(r:aa×Int):z2 9 (M.lL n u l=some r) [ae.is u,(tL aL).is l] (Asn.tuple2 (ae.is r.1) (I6.is r.2)) [E1,E4]:=⟨Tryz.call9,(by repeat' first | exact trivial | refine ⟨X,?_⟩),fun hm=>(y8 n u l r hm)⟩
section
attribute [local irreducible] W WL WN DM Op1 OpR Opd Dep
instance Mj(n:Nat)(it:ah)(r:Bool):z2 33 (M.j3 n it=some r) [aD.is it] (tB.is r) [(700000,Gl eO 0 gv0),E1,E4]:=SpG.of Tryz.call33 Tryz.func33 X X fun g0 hm=>by
  unfold M.j3 at hm;dsimp only at hm;exact Fx hm
abbrev NA:=fun (n:Nat)(nn:List ak)(s0:(List az))(s1:aa)=>mkRg (τ:=(List az)×aa) (M.cz n nn s0 s1) (fun mm jj s=>M.cz n mm s.1 s.2) nn (s0,s1) 13 [2,4,11,12] [4,700000,700001,700004] (fun s k1 _ _ _ _ _ e=>(6,tO aL k1 s.1)::e) (fun s k1 _ _ b1 _ _ e=>(6,Dec.Own aL 56 k1 s.1.length)::(2,Bx 8 true 27 (ae.is s.2) b1)::e) (fun _ _=>M.cz.eq_1 ..) (fun _ _ _ _=>M.cz.eq_2 ..)
attribute [instance] NA
instance Nz(n:Nat)(u:aa)(d:ak)(r:aa×Int):z2 16 (M.bW n u d=some r) [ae.is u,aO.is d] (Asn.tuple2 (ae.is r.1) (I6.is r.2)) [(700000,Gl eO 0 gv0),E1,E4]:=.fx Tryz.call16 Tryz.func16 (M.bW.eq_1 ..) [8,10,12]
instance Mk(n:Nat)(u:aa)(d:ak)(r:az×Int):z2 15 (M.j4 n u d=some r) [ae.is u,aO.is d] (Asn.tuple2 (aL.is r.1) (I6.is r.2)) [(700000,Gl eO 0 gv0),E1,E4]:=.fx Tryz.call15 Tryz.func15 (M.j4.eq_1 ..) [6,8,10]
instance KR(n:Nat)(u:aa)(l:List ak)(r:aa×(List az)):z2 6 (M.pE n u l=some r) [ae.is u,(tL aO).is l] (Asn.tuple2 (ae.is r.1) ((tL aL).is r.2)) [(700000,Gl eO 0 gv0),E1,E4]:=.fx Tryz.call6 Tryz.func6 (M.pE.eq_1 ..) [8,9,1000002]
instance wH(n:Nat)(u:aa)(l:List ak)(cut:Int)(r:Bool):z2 3 (M.nW n u l cut=some r) [ae.is u,(tL aO).is l,(tI .u8).is cut] (tB.is r) [(700000,Gl eO 0 gv0),E1,E4]:=.fx Tryz.call3 Tryz.func3 (M.nW.eq_1 ..) [7,9,11]
end
end Go.Proofs.YtapobcikfdbjiaaGreatDoor
