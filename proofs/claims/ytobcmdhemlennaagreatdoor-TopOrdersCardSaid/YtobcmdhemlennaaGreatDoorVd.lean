import Derived.Test.YtobcmdhemlennaaGreatDoorVg
/-
  The code does what the models say: written by program.
-/
set_option linter.unusedVariables false
set_option linter.unusedSimpArgs false
namespace Go.Proofs.YtobcmdhemlennaaGreatDoor
open Go Go.Dec
set_option maxRecDepth 1000000
set_option maxHeartbeats 4000000
abbrev TS:=λ(a:List av)(b:List av)(nn:Nat)(s0:Int)=>mkLp (M.iJ a b nn s0) (λmm s=>M.iJ a b mm s) nn s0 [0,1] [] (λs _ _ _ _ _ _ e=>(5,I6.is s)::e) z7 (λ_=>M.iJ.eq_1 ..) (λ_ _=>M.iJ.eq_2 ..)
abbrev TT:=λ(a:List Str)(b:List Str)(nn:Nat)(s0:Int)=>mkLp (M.iK a b nn s0) (λmm s=>M.iK a b mm s) nn s0 [0,1] [] (λs _ _ _ _ _ _ e=>(5,I6.is s)::e) z7 (λ_=>M.iK.eq_1 ..) (λ_ _=>M.iK.eq_2 ..)
abbrev TU:=λ(a:List af)(b:List af)(nn:Nat)(s0:Int)=>mkLp (M.iL a b nn s0) (λmm s=>M.iL a b mm s) nn s0 [0,1] [] (λs _ _ _ _ _ _ e=>(5,I6.is s)::e) z7 (λ_=>M.iL.eq_1 ..) (λ_ _=>M.iL.eq_2 ..)
abbrev TV:=λ(s0_:Str)(nn:Nat)(s0:Int)=>mkLp (M.dz s0_ nn s0) (λmm s=>M.dz s0_ mm s) nn s0 [0] [] (λs _ _ _ _ _ _ e=>(3,I6.is s)::e) z7 (λ_=>M.dz.eq_1 ..) (λ_ _=>M.dz.eq_2 ..)
abbrev TW:=λ(s0_:Str)(nn:Nat)(s0:Int)=>mkLp (M.jH s0_ nn s0) (λmm s=>M.jH s0_ mm s) nn s0 [0] [] (λs _ _ _ _ _ _ e=>(3,I6.is s)::e) z7 (λ_=>M.jH.eq_1 ..) (λ_ _=>M.jH.eq_2 ..)
abbrev Rh:=λ(u:aa)(slf:aa->Option Int)(nn:Nat)(s0:Int)(s1:Int)=>mkLp (τ:=Int×Int) (M.iZ u slf nn s0 s1) (λmm s=>M.iZ u slf mm s.1 s.2) nn (s0,s1) [1] [] (λs _ _ _ _ _ _ e=>(3,I6.is s.1)::(4,I6.is s.2)::e) z7 (λ_=>M.iZ.eq_1 ..) (λ_ _=>M.iZ.eq_2 ..)
abbrev Ri:=λ(l:List af)(nn:Nat)(s0:Str)(s1:Int)=>mkLp (τ:=Str×Int) (M.fe l nn s0 s1) (λmm s=>M.fe l mm s.1 s.2) nn (s0,s1) [0] [] (λs _ _ _ _ _ _ e=>(3,tS.is s.1)::(4,I6.is s.2)::e) z7 (λ_=>M.fe.eq_1 ..) (λ_ _=>M.fe.eq_2 ..)
abbrev Rj:=λ(l:List af)(nn:Nat)(s0:(List af))(s1:Int)=>mkLp (τ:=(List af)×Int) (M.jb l nn s0 s1) (λmm s=>M.jb l mm s.1 s.2) nn (s0,s1) [0] [] (λs k1 _ _ _ _ _ e=>(3,tO aj k1 s.1)::(4,I6.is s.2)::e) (λs k1 _ _ _ _ _ e=>(5,Dec.Own aj 106 k1 s.1.length)::e) (λ_=>M.jb.eq_1 ..) (λ_ _=>M.jb.eq_2 ..)
abbrev KG:=λ(n0_:Int)(nn:Nat)(s0:(List Int))(s1:Int)=>mkLp (τ:=(List Int)×Int) (M.jw n0_ nn s0 s1) (λmm s=>M.jw n0_ mm s.1 s.2) nn (s0,s1) [5] [] (λs k1 _ _ _ _ _ e=>(3,tO I6 k1 s.1)::(6,I6.is s.2)::e) (λs k1 _ _ _ _ _ e=>(3,Dec.Own I6 3 k1 s.1.length)::e) (λ_=>M.jw.eq_1 ..) (λ_ _=>M.jw.eq_2 ..)
attribute [instance] TS TT TU TV TW Rh Ri Rj KG
section
attribute [local irreducible] W WL WN DM Op1 OpR Opd Dep
instance Qm(n:Nat)(a:List av)(b:List av)(r:Bool):z1 48 (M.uV n a b=some r) [(tL bE).is a,(tL bE).is b] (tB.is r):=.fx Tryz.call48 Tryz.func48 (M.uV.eq_1 ..)
instance Qn(n:Nat)(a:List Str)(b:List Str)(r:Bool):z1 49 (M.uW n a b=some r) [(tL tS).is a,(tL tS).is b] (tB.is r):=.fx Tryz.call49 Tryz.func49 (M.uW.eq_1 ..)
instance Qo(n:Nat)(a:List af)(b:List af)(r:Bool):z1 74 (M.rF n a b=some r) [(tL aj).is a,(tL aj).is b] (tB.is r):=.fx Tryz.call74 Tryz.func74 (M.rF.eq_1 ..)
instance Qp(s0_:av)(r:Bool):z1 51 (M.uX s0_=some r) [bE.is s0_] (tB.is r):=.fx Tryz.call51 Tryz.func51 (M.uX.eq_1 ..)
instance Qq(n:Nat)(s0_:Str)(r:Bool):z1 20 (M.rG n s0_=some r) [tS.is s0_] (tB.is r):=.fx Tryz.call20 Tryz.func20 (M.rG.eq_1 ..)
instance Qr(n:Nat)(s0_:Str)(r:Bool):z1 132 (M.wC n s0_=some r) [tS.is s0_] (tB.is r):=.fx Tryz.call132 Tryz.func132 (M.wC.eq_1 ..)
instance Ow(parent:Int)(kind:Int)(r:Bool):z1 89 (M.qx parent kind=some r) [I6.is parent,I6.is kind] (tB.is r):=.fx Tryz.call89 Tryz.func89 (M.qx.eq_1 ..)
instance Ox:∀ (n:Nat) (u:aa) (r:Int),z1 76 (M.lJ n u=some r) [ae.is u] (I6.is r):=by
  intro n;induction n with
  | zero=>exactλ_ _=>⟨Tryz.call76,λhm=>by cases hm⟩
  | succ n ih=>intro u r;refine SpC.of Tryz.call76 Tryz.func76 X X λg0 hm=>?_;rw [M.lJ.eq_2] at hm;exact Fx hm
instance OA(r:List Str):z1 116 (M.zU=some r) [] ((tL tS).is r):=.fx Tryz.call116 Tryz.func116 (M.zU.eq_1 ..)
instance OB(n:Nat)(l:List af)(r:Str):z1 117 (M.sN n l=some r) [(tL aj).is l] (tS.is r):=.fx Tryz.call117 Tryz.func117 (M.sN.eq_1 ..)
instance wT(n:Nat)(l:List af)(r:List af):z1 78 (M.sO n l=some r) [(tL aj).is l] ((tL aj).is r):=.fx Tryz.call78 Tryz.func78 (M.sO.eq_1 ..)
instance rY(n:Nat)(n0_:Int)(r:List Int):z6 34 (M.mH n n0_=some r) (λ_ _ _ _=>[I6.is n0_]) (λ_ _ _ _=>[]) _ (λ_ _ _ _=>(λk:Tok=>tO I6 k r)) (λ_ _ _ _=>(λk=>[(77777,Dec.Own I6 3 k r.length)])):=.fx Tryz.call34 Tryz.func34 (M.mH.eq_1 ..)
end
theorem tT(x:List Int):FSpec Tryz.prog 32 [(tL I6).is x] (cloA 63 [(tL I6).ptr x]):=by
 exact FSpec.of Tryz.func32 X X X λg0=>Aw<|Ao X (.box (.t X))<|Ao X (.assign Opd.const)<|WL.nil<|Aq<|Aw<|Ao X (.makeClo (Cs:=[(tL I6).ptr x]) (cap:=[.tmp 1]) ⟨(.t X),trivial⟩)<|Ag X X<|WL.nil<|Aq<|W.ret1 () X (.t X) trivial
abbrev D5:=λ(s1_:List Int)(s2_:List Int)(nn:Nat)(s0:Int)=>mkLp (M.fo s1_ s2_ nn s0) (λmm s=>M.fo s1_ s2_ mm s) nn s0 [0,1,12] [] (λs _ _ _ _ _ _ e=>(13,I6.is s)::e) z7 (λ_=>M.fo.eq_1 ..) (λ_ _=>M.fo.eq_2 ..)
abbrev Ma:=λ(nn:List Int)(s0:List Bool)=>mkRg (τ:=List Bool) (M.dW nn s0) (λmm jj s=>M.dW mm s) nn s0 8 [2,3,6,7] [2] z7 (λs _ _ _ b1 _ _ e=>(3,Bx 5 true 66 ((tA 5 tB).is s) b1)::e) (λ_ _=>M.dW.eq_1 ..) (λ_ _ _ _=>M.dW.eq_2 ..)
abbrev Jv:=λ(nn:List Int)(ii:Int)(s0:List Int)=>mkRi (τ:=List Int) (M.iG nn ii s0) (λmm jj s=>M.iG mm jj s) nn ii s0 8 [2,3,6,7] [2] z7 (λs _ _ _ b1 _ _ e=>(3,Bx 5 true 101 ((tA 5 I6).is s) b1)::e) (λ_ _=>M.iG.eq_1 ..) (λ_ _ _ _=>M.iG.eq_2 ..)
attribute [instance] D5 Ma Jv
theorem GN(l:List Int):IterR Tryz.prog 63 [(tL I6).ptr l] intK (λ_ _=>[]) l:=by
  intro g caps n hcaps lp J W hW hJ hJ0 hY;obtain ⟨pv,rfl,hpv⟩:∃ pv,caps= [pv]/\((tL I6).ptr l).holds pv g:=by
    match caps,hcaps with
    | [pv],h=>exact ⟨pv,rfl,h.1⟩
  have hS0:Stays g W:=(Stays.refl g).below hW;obtain ⟨cs5,hraw,hv5,hlim⟩:∃ cs,((tEq (tL I6) cs).ptr l).holds pv g/\((tL I6).is l).holds (mkVal false cs) g/\l.length<=lim:=by obtain ⟨b,o,e1,cs,k2,k3⟩:=hpv;exact ⟨cs,⟨b,o,e1,cs,⟨X,k2⟩,k3⟩,⟨cs,k2,X⟩,let ⟨_,_,_,_,h,_⟩:=k2;h⟩
  have hin:∀ k:Nat,k<=l.length->inR .i64 (k:Int):=λk hk=>inR64.2 (by unfold lim at hlim;omega);have hJn:∀ {i:Nat} {ga gb:G},J i none ga.w->Ext No ga gb->J i none gb.w:=λh e=>hJ _ _ _ _ none h (grown_of e) (λr e=>by cases e);refine callsIn_of_wp Tryz.func63 X trivial ?_ X;refine WR.begin (N:=16) (g:=g.at W) (vs:=[.func (.yield lp) #[] #[],pv]) (As:=[Asn.eq (.func (.yield lp) #[] #[]),Asn.eq pv]) X X ⟨X,X,trivial⟩ ?_;intro a g1 hst;have hg1:Stays g g1.w:=hS0.on hst.ext;have hJ1:J 0 none g1.w:=hJ0 none _ (grown_of hst.ext) (λb hb=>by cases hb);have hst1:=hst.eqs (L:=[(0,.func (.yield lp) #[] #[]),(1,pv)]) ⟨Ent.q X,Ent.q X,trivial⟩ (g.at g1.w);have hst2:=hst1.entry (s:=1) (A:=(tEq (tL I6) cs5).ptr l) (by rw [show a.tmps.getD 1 undef=pv from hst1.henv 1 _ X];exact ((tEq (tL I6) cs5).ptr l).mono hg1.ext hraw);refine WR.go (D:=[]) (g:=g.at g1.w) (env:=(1,(tEq (tL I6) cs5).ptr l) :: eqs [(0,.func (.yield lp) #[] #[]),(1,pv)]) (res:=[]) (g0:=g.at g1.w) (T0:=No) (N:=16) ?_ hst2;have hv5':∀ {w:World},Stays g w->((tL I6).is l).holds (mkVal false cs5) (g.at w):=λh=>((tL I6).is l).mono h.ext hv5;have h5:∀ {a2:Act} {w:World},Stays g w->a2.tmps.getD 5 undef=mkVal false cs5->(Asn.both (Asn.eq (mkVal false cs5)) ((tL I6).is l)).holds (a2.tmps.getD 5 undef) (g.at w):=λhw he=>⟨he,by rw [he];exact hv5' hw⟩
  refine WR.seq ?_;refine WR.region X ?_;refine WL.op (A:=Asn.both (Asn.eq (mkVal false cs5)) ((tL I6).is l)) X (Op1.weak (Op1.load (t:=tEq (tL I6) cs5) ⟨Tryz.isAgg41,Tryz.sizeOf41⟩ (.tmp X)) (λ_ _=>NY)) ?_;refine WL.op X (Op1.qd Tryz.underlying41 (Opd.weak (.tmp X) (λ_ _ h=>h.2))) ?_;refine WL.op X (Op1.move (.int (n:=0) (inR64.2 (by omega)))) ?_;refine WL.nil ?_;refine WN.wr ?_;refine WR.block ?_;refine WR.Tm (λa w=>∃ k:Nat,k<=l.length/\Stays g w/\J k none w/\St 16 (g.at w) No (eqs [(7,.int .i64 (k:Int)),(6,.int .i64 (l.length:Int)),(5,mkVal false cs5),(0,.func (.yield lp) #[] #[])]) [] a (g.at w))
    (λa _=>match a.tmps.getD 7 undef with | .int _ q=>l.length-q.toNat | _=>0) ?_ ?_
  . intro a2 g2 h2;refine ⟨0,Nat.zero_le _,hg1.on h2.ext,hJn (ga:=g.at g1.w) hJ1 h2.ext,h2.eqs (L:=[(7,.int .i64 ((0:Nat):Int)),(6,.int .i64 (l.length:Int)),(5,mkVal false cs5),(0,.func (.yield lp) #[] #[])]) ⟨Ent.w X (λv g h=>xB h X),Ent.w X (λv g h=>xB h X),Ent.w X (λv g h=>h.1),.q X,trivial⟩ _⟩
  . rintro a2 w ⟨k,hk,hs,hj,hsk⟩;have hq:=hin k hk;have hql:=hin l.length (Nat.le_refl _);have hsk':=hsk.entry (h5 hs (hsk.henv 5 _ X));refine WR.go0 ?_ hsk' X;refine WR.seq ?_;refine WR.region X ?_;refine WL.op X (Op1.ltI (.eqInt hq (.tmp X)) (.eqInt hql (.tmp X))) ?_;refine WL.nil ?_;refine WN.wr ?_;refine WR.seq ?_;refine WR.cond (.tmp X) (λhc=>?_) (λhc=>?_)
    . have hlt:k<l.length:=by have:=of_decide_eq_true hc;omega
      refine WR.skipS ?_;refine WR.seq ?_;refine WR.block ?_;refine WR.seq ?_;refine WR.region X ?_;refine WL.op X (Op1.idx (u:=l[k]) (by unfold Dec.idx;rw [if_pos (by omega),Int.toNat_natCast];exact List.getElem?_eq_getElem hlt) Tryz.underlying41 Tryz.sizeOf3 (Opd.weak (.tmp X) (λ_ _ h=>h.2)) (.eqInt hq (.tmp X))) ?_;refine WL.op X (Op1.load (t:=tI .i64) ⟨Tryz.isAgg3,Tryz.sizeOf3⟩ (.tmp X)) ?_;refine WL.op X (Op1.assign (.tmp X)) ?_;refine WL.nil ?_;refine WN.wr ?_;refine WR.seq ?_;refine WR.regionI ?_;refine WLI.op X X (Op1.move (.tmp X)) ?_;refine WLI.op X X (Op1.move (.tmp X)) ?_;refine WLI.yield1 (v0:=.int .i64 l[k]) (A:=λW'=>J (k+1) none W'/\Stays g W') (.tmp X) (Opd.weak (.tmp X) (λv g h=>xB h X)) (λa3 g3 h3=>?_) (λa3 g3 w3 h3 hA=>?_)
      . have hj3:J k none g3.w:=hJn (ga:=g.at w) hj h3.ext;have hlk:inR .i64 l[k]:=by obtain ⟨cs,⟨_,h⟩,_⟩:=h3.henv 4 _ rfl;exact h
        obtain ⟨fn,tmps,assign,body,hy,hR⟩:=hY k l[k] none (.int .i64 l[k]) g3.w (List.getElem?_eq_getElem hlt) hj3 ⟨⟨rfl,[.int .i64 l[k]],⟨rfl,hlk⟩,rfl⟩,λy hy=>by cases hy⟩;refine ⟨fn,tmps,assign,body,hy,hR.mono ?_⟩;rintro e W' ⟨h1,h2,_,h4⟩;exact ⟨h1,h2,h4 (hs.on h3.ext)⟩
      . have h4:=h3.eqs (L:=[(7,.int .i64 (k:Int)),(6,.int .i64 (l.length:Int)),(5,mkVal false cs5),(0,.func (.yield lp) #[] #[])]) ⟨.q X,.q X,Ent.w X (λv g h=>h.1),.q X,trivial⟩ (g.at w3);have h5':=h4.put (d:=13) (v:=.bool true) (A:=tB.is true) (by decide) (Ext.refl _ _) ⟨_,X,X⟩;refine (?_:WLI Tryz.prog none n 16 (g.at w3) No _ _ _ _ []) _ _ h5';refine WLI.op X X (Op1.notB (.tmp X)) ?_;refine WLI.nil (λa5 g5 h6=>?_);change Code.wpIn (ring none) n Tryz.prog _ _ a5 g5.w;refine WR.go0 ?_ h6 X;refine WR.condF (.tmp X) ?_;refine WR.skip (λa6 g6 h7=>?_);change Code.wpIn (ring none) n Tryz.prog _ _ (sh [] a6) g6.w;rw [oG];refine WR.go0 ?_ h7 X;refine WR.region X ?_;refine WL.op X (Op1.addI (.eqInt hq (.tmp X)) (.int (n:=1) (inR64.2 (by omega))) (by have:=hin (k+1) hlt;rwa [show ((k+1:Nat):Int)=(k:Int)+1 by omega] at this)) ?_;refine WL.op X (Op1.move (.tmp X)) ?_;refine WL.nil ?_;intro a7 g7 h8;show _/\_;rw [oG];have h9:=h8.eqs (L:=[(7,.int .i64 ((k+1:Nat):Int)),(6,.int .i64 (l.length:Int)),(5,mkVal false cs5),(0,.func (.yield lp) #[] #[])]) ⟨Ent.w X (λv g h=>xB h (by omega)),.q X,.q X,.q X,trivial⟩ (g.at g7.w);have hS7:Stays g g7.w:=hA.2.on h8.ext;refine ⟨⟨k+1,hlt,hS7,hJn (ga:=g.at w3) hA.1 h8.ext,h9⟩,?_⟩;have e1:a7.tmps.getD 7 undef=_:=h9.henv 7 _ X;have e2:a2.tmps.getD 7 undef=_:=hsk.henv 7 _ X;rw [e1,e2];show l.length-(((k+1:Nat):Int)).toNat<l.length-((k:Int)).toNat;omega
    . have hge:k=l.length:=by have:=of_decide_eq_false hc;omega
      refine WR.exit (λa3 g3 h3=>?_);have hj3:J k none g3.w:=hJn (ga:=g.at w) hj h3.ext;subst hge;refine DJ (DJ (EK ?_));rw [oG];show _/\_;exact ⟨h3.dfr,_,results_none X _ _ _,⟨_,X⟩,none,hj3⟩
theorem GQ{gv:Nat}{Cs:List Asn}{l r:List Int}(hit:IterR Tryz.prog gv Cs intK (λ_ _=>[]) l)(eg:∀ args w,(callFunc gv args).run Tryz.prog w= .ok (.enter gv args) w)(hm:allC l=some r) :
    aR Tryz.prog 84 [Asn.eq (.slice none 0 0),cloA gv Cs] [] (λk:Tok=>tO I6 k r) (λk=>[(1000002,Dec.Own I6 3 k r.length)]):=by
  intro g0 vs hvs hr hd;refine (callsIn_wide (n:=3)).1 (callsIn_of_wp_marks Tryz.func84 X trivial ?_ X);refine WR.begin (As:=[Asn.eq (.slice none 0 0),cloA gv Cs]) (N:=13) X X hvs ?_;refine WR.seq ?_;refine WR.region X ?_;refine WL.addNil (t:=tI .i64) (E:=3) 1000002 ?_;refine WL.opR X (OpR.boxB 2 (bg.o I6 none []) (Opd.weak (.tmp X) (λv g h=>⟨h,Nat.le_refl _,Nat.zero_le _,X⟩))) (λb2=>?_);refine WL.op X (Op1.assign (.nil (t:=tI .i64))) ?_;refine WL.nil ?_;refine WN.wr ?_;refine WR.seq ?_;refine WR.seq ?_;refine WR.region X ?_;refine WL.op X (Op1.move (.tmp X)) ?_;refine WL.nil ?_;refine WN.wr ?_;refine WR.block ?_;refine WR.weaken (env':=[(6,cloA gv Cs),(2,Bp b2 0)]) (res':=[(2,Bx 1 false 41 (tO I6 none []) b2),(1000002,Dec.Own I6 3 none 0)]) ⟨.q X,.q X,trivial⟩ ⟨X,X,X,X,trivial⟩ ?_;refine WR.forR (kD:=99) (resA:=λq (k:Tok)=>[(2,Bx 1 false 41 (tO I6 k q) b2),(1000002,Dec.Own I6 3 k q.length)]) (envA:=λ_ x=>[(5,I6.is x),(2,Bp b2 0)]) (st:=λq x=>appC q [x]) [] none Lend.int hit (by omega) eg X hm X X X ?hA ?hB ?hdone
  case hA=>
    intro g1 T1 k x q t B hk;refine WL.op X (Op1.assign (Opd.weak (.tmp X) (λ_ _ h=>h.2))) ?_;refine WL.nil ?_;refine WN.weaken ?_ ?_ hk
    . exact ⟨.q X,.q X,trivial⟩
    . exact ⟨X,X,X,X,trivial⟩
  case hB=>
    intro l n1 g1 T1 k x q t o Q' hm hN;refine WR.block ?_;refine WR.region X ?_;refine WL.op X (Op1.qG 2 Tryz.isAgg41 Tryz.sizeOf41 X (.tmp X)) ?_;refine WL.op X (Op1.move (.tmp X)) ?_;refine WL.op X (Op1.buildSlice (n:=1) (ys:=[(0,x)]) (z:=(0:Int)) (xs:=[x]) Tryz.underlying41 el3.h ze3.h ⟨X,(.tmp X),trivial⟩ (by simp) (by decide) X) ?_;refine WL.opR X (OpR.appC (key:=1000002) hm Tryz.underlying41 el3.h (.tmp X) (.tmp X) X) (λk1=>?_);refine WL.opU (OpR.storeB (b:=b2) 2 Tryz.sizeOf41 (bg.o I6 k1 o) X (.tmp X) (.tmp X)) (λ_=>?_);refine WL.nil ?_;intro a9 g9 h9;show Q' .normal (sh [] a9) g9.w;rw [oG];exact hN k1 a9 g9 (h9.weaken trivial ⟨X,X,X,X,trivial⟩)
  case hdone=>
    intro t' a' g' D hst;change Code.wpIn (ring none) 3 Tryz.prog _ _ (sh (markD D) a') g'.w;refine WR.go ?_ hst;refine WR.seq ?_;refine WR.region X ?_;refine WL.op X (Op1.qG 2 Tryz.isAgg41 Tryz.sizeOf41 X (.tmp X)) ?_;refine WL.op X (Op1.assign (.tmp X)) ?_;refine WL.nil ?_;refine WN.wr ?_;refine WR.ret (λa9 g9 h9=>?_);exact UH (kD:=99) (A:=λk:Tok=>tO I6 k r) (out:=λk=>[(1000002,Dec.Own I6 3 k r.length)]) t' (h9.weaken (env':=[(4,tO I6 t' r)]) (res':=[(99,Dq D),(1000002,Dec.Own I6 3 t' r.length)]) ⟨.q X,trivial⟩ ⟨X,X,X,X,trivial⟩) X (ResAt.tmp (.tmp X)) ⟨X,X,trivial⟩
theorem ET{gv:Nat}{Cs:List Asn}{l r:List Int}(hit:IterR Tryz.prog gv Cs intK (λ_ _=>[]) l)(eg:∀ args w,(callFunc gv args).run Tryz.prog w= .ok (.enter gv args) w)(hm:allC l=some r) :
    aR Tryz.prog 61 [cloA gv Cs] [] (λk:Tok=>tO I6 k r) (λk=>[(4,Dec.Own I6 3 k r.length)]):=by
  refine aR.of Tryz.func61 X X X (λg0=>?_);refine W.seq ?_;refine W.region ?_;refine WL.op X (Op1.assign (.nil (t:=tI .i64))) ?_;refine WL.nil ?_;refine WN.seq ?_;refine W.seq ?_;refine W.region ?_;refine WL.op X (Op1.move (.tmp X)) ?_;refine WL.opR X (OpR.call (us:=[]) Tryz.call84 ((GQ hit eg hm).rekey 4) X ⟨Opd.const,(.tmp X),trivial⟩) (λk=>?_);refine WL.op X (Op1.assign (.tmp X)) ?_;refine WL.nil ?_;refine WN.seq ?_;exact W.ret1 k X (.tmp X) ⟨X,X,trivial⟩
theorem vK(l r:List Int)(hm:sortedC l=some r):FSpec Tryz.prog 31 [cloA 63 [(tL I6).ptr l]] ((tL I6).is r):=by unfold sortedC at hm;obtain ⟨q,hq,hm⟩:=bind_some hm;cases hm;refine FSpec.of Tryz.func31 X X X (λg0=>?_);refine W.seq ?_;refine W.region ?_;refine WL.op X (Op1.assign (.nil (t:=tI .i64))) ?_;refine WL.nil ?_;refine WN.seq ?_;refine W.seq ?_;refine W.region ?_;refine WL.op X (Op1.move (.tmp X)) ?_;refine WL.opR X (OpR.loosen fl3 (OpR.call (us:=[]) Tryz.call61 ((ET (GN l) Tryz.call63 hq).rekey 5) X ⟨(.tmp X),trivial⟩)) (λk=>?_);refine WL.op X (Op1.assign (.tmp X)) ?_;refine WL.nil ?_;refine WN.seq ?_;refine W.seq ?_;refine W.region ?_;refine WL.op X (Op1.move (.tmp X)) ?_;refine WL.opR X (OpR.call (us:=[5]) Tryz.call62 (NW Tryz.slices_Sort_int (Go.Proofs.Any.slices_Sort_int_none Tryz.lays189) 5 k q) X ⟨(.tmp X),trivial⟩) (λ_=>?_);refine WL.nil ?_;refine WN.kv 3 (AC q) X ?_;refine WN.seq ?_;refine W.seq ?_;refine W.region ?_;refine WL.fixU 3 5 X X ?_;refine WL.op X (Op1.move (.tmp X)) ?_;refine WL.op X (Op1.assign (.tmp X)) ?_;refine WL.nil ?_;refine WN.seq ?_;exact W.ret1 () X (Opd.own (.tmp X)) trivial
section
attribute [local irreducible] W WL WN DM Op1 OpR Opd Dep
instance uh(n:Nat)(s1_:List Int)(s2_:List Int)(r:Bool):z1 33 (M.l6 n s1_ s2_=some r) [(tL I6).is s1_,(tL I6).is s2_] (tB.is r):=.fx Tryz.call33 Tryz.func33 (M.l6.eq_1 ..)
end
theorem mg{xs v:List Int}{i:Int}(hm:revFrom xs i=some v)(key:Nat)(k:Tok):aR Tryz.prog 65 [tUw k xs.length i] [(key,OwnU I6 3 k xs)] (λ_:Unit=>Asn.any) (λ_=>[(key,OwnU I6 3 k v)]):=
  EL Tryz.slices_Reverse_int Tryz.slices_Reverse_int_empty hm key k
theorem wU(x:Int):FSpec Tryz.prog 35 [I6.is x] (cloA 64 [I6.ptr x]):=by
 exact FSpec.of Tryz.func35 X X X λg0=>Aw<|Ao X (.box (.t X))<|Ao X (.assign Opd.const)<|WL.nil<|Aq<|Aw<|Ao X (.makeClo (Cs:=[I6.ptr x]) (cap:=[.tmp 1]) ⟨(.t X),trivial⟩)<|Ag X X<|WL.nil<|Aq<|W.ret1 () X (.t X) trivial
section
attribute [local irreducible] W WL WN DM Op1 OpR Opd Dep
instance yL(keep:List Int)(r:List Bool):z1 29 (M.kF keep=some r) [(tL I6).is keep] ((tA 5 tB).is r):=.fx Tryz.call29 Tryz.func29 (M.kF.eq_1 ..)
instance GR(order:List Int)(r:List Int):z1 66 (M.pY order=some r) [(tL I6).is order] ((tA 5 I6).is r):=.fx Tryz.call66 Tryz.func66 (M.pY.eq_1 ..)
end
theorem pF(l:List Int)(r:List Int)(hm:M.gI l=some r):aR Tryz.prog 37 [(tL I6).is l] [] (λk:Tok=>tO I6 k r) (λk=>[(5,Dec.Own I6 3 k r.length)]):=by
 unfold M.gI at hm;refine aR.of Tryz.func37 X X X λg0=>W.seq<|W.region<|Ao X (.assign (.nil (t:=I6)))<|WL.nil<|Aq<|W.seq<|W.seq<|W.region<|Ao X (.move (.t X))<|WL.opR X (OpR.eqNil U41 (.t X)) λb=>WL.nil<|Aq<|W.cond (.t X) (λhc=>?_) (λhc=>?_)
 .have hl:=b.2 hc;subst hl;have hr:[]=r:=by simpa [appC] using hm
  subst hr;exact W.seq<|W.region<|WL.addNil (t:=I6) (E:=3) 5<|Ao X (.assign (Opd.nilO (t:=I6)))<|WL.nil<|Aq<|W.ret1 (none:Tok) X (.t X) ⟨X,X,trivial⟩
 .exact W.skip<|Aq<|W.seq<|W.region<|WL.opR X (OpR.buildSlice (n:=0) (ys:=[]) (z:=(0:Int)) (xs:=[]) 5 U41 el3.h ze3.h trivial (by simp) (by decide) X) λk5=>Ao X (.move (.t X))<|WL.opR X (OpR.appC (key:=5) hm U41 el3.h (.t X) (.t X) X) λk7=>Ao X (.assign (.t X))<|WL.nil<|Aq<|W.ret1 k7 X (.t X) ⟨X,X,trivial⟩
section
attribute [local irreducible] W WL WN DM Op1 OpR Opd Dep
instance D6(kind:Int)(r:Bool):z1 118 (M.gJ kind=some r) [I6.is kind] (tB.is r):=.fx Tryz.call118 Tryz.func118 (M.gJ.eq_1 ..)
instance IK(where0_:Int)(r:Bool):z1 213 (M.lw where0_=some r) [I6.is where0_] (tB.is r):=.fx Tryz.call213 Tryz.func213 (M.lw.eq_1 ..)
instance KH(s0_:av)(r:Bool):z1 205 (M.o9 s0_=some r) [bE.is s0_] (tB.is r):=.fx Tryz.call205 Tryz.func205 (M.o9.eq_1 ..)
end
theorem vL(n:Nat)(s0_:Str)(f:Int->Option Bool)(truth:Bool)(r:Int)(hm:M.strings_indexFunc n s0_ f truth=some r):FSpec Tryz.prog 292 [tS.is s0_,(tF Tryz.prog (λs:Int×Bool=>f s.1=some s.2) (λs:Int×Bool=>[(tI .i32).is s.1]) (λs:Int×Bool=>(tB.is s.2))),tB.is truth] (I6.is r):=by
 unfold M.strings_indexFunc at hm;refine FSpec.of Tryz.func292 X X X λg0=>Aw<|Ao X (.assign .i64)<|An<|W.seq<|Aw<|Am X X<|WL.opR X (OpR.range 10 U9 (.t X)) λb=>An<|W.block ?_;obtain ⟨s1,hs2,hk3⟩:=Bs hm;clear hm;refine W.loop (λm (s:Nat)=>M.dC s0_ f truth m s=some s1) (λs=>[(1,(tF Tryz.prog (λs:Int×Bool=>f s.1=some s.2) (λs:Int×Bool=>[(tI .i32).is s.1]) (λs:Int×Bool=>(tB.is s.2)))),(2,(tB.is truth)),(10,(Bp b 0))]) (λs=>[(10,It s0_ s b)]) _ 0 hs2 ⟨.q X,.q X,.q X,trivial⟩ ⟨X,X,trivial⟩ ?_;rintro n4 v hm;try dsimp only at hm
 change W _ _ _ _ _ _ _ [(1,(tF Tryz.prog (λs:Int×Bool=>f s.1=some s.2) (λs:Int×Bool=>[(tI .i32).is s.1]) (λs:Int×Bool=>(tB.is s.2)))),(2,(tB.is truth)),(10,(Bp b 0))] [(10,It s0_ v b)];cases n4 with
 | zero=>rw [M.dC.eq_1] at hm;cases hm
 | succ n4=>
  rw [M.dC.eq_2] at hm;refine W.sr ?_;by_cases hp5:v<s0_.length
  .rw [if_pos hp5] at hm;refine WL.opR X (OpR.nextT (b:=b) 10 hp5 X (.t X)) λ_=>Ao X (.extract30 (.t X))<|An<|W.seq<|W.condT (.t X)<|W.skip<|Aq<|W.block<|Aw<|Ao X (.extract31 (.t X))<|Ao X (.extract32 (.t X))<|Ag X X<|Ag X X<|Ar<|Am X X<|WL.mv X X ?_;obtain ⟨v1,hv6,hm⟩:=Bs hm;refine Ao X (.callF (ok:=(λs:Int×Bool=>f s.1=some s.2)) (As:=(λs:Int×Bool=>[(tI .i32).is s.1])) (A:=(λs:Int×Bool=>(tB.is s.2))) (s:=(((runeAt s0_ v).1:Int),v1)) (.t X) hv6 ⟨(.t X),trivial⟩)<|Am X X<|Ao X (.eqB U4 (.t X) (.t X))<|An<|W.cB hm (.t X) (λhp8 hm=>?_) (λhp8 hm=>?_)
   .refine Aw<|Am X X<|Ag X X<|WL.ns ?_;have hr9:=Si hm;clear hm;subst hr9;have hm:=hk3;try dsimp only at hm
    cases hm;exact W.ret1 () X (.t X) trivial
   .exact W.skip<|WN.block<|WN.again n4 (v+(runeAt s0_ v).2) (Nat.lt_succ_self n4) hm ⟨.q X,.q X,.q X,trivial⟩ ⟨X,X,trivial⟩
  .rw [if_neg hp5] at hm;refine Ao X (.nextF 10 hp5 X (.t X))<|Ao X (.extract10 (.t X))<|An<|W.seq<|W.condF (.t X)<|W.exit X ?_;have hr10:=Si hm;clear hm;subst hr10;have hm:=hk3;try dsimp only at hm
   refine Aq<|Aw<|Ao X (.assign .i64)<|WL.ns ?_;cases hm;exact W.ret1 () X (.t X) trivial
instance GU(n:Nat)(s0_:Str)(f:Int->Option Bool)(truth:Bool)(r:Int):z1 292 (M.strings_indexFunc n s0_ f truth=some r) [tS.is s0_,(tF Tryz.prog (λs:Int×Bool=>f s.1=some s.2) (λs:Int×Bool=>[(tI .i32).is s.1]) (λs:Int×Bool=>(tB.is s.2))),tB.is truth] (I6.is r):=⟨Tryz.call292,λhm=>vL n s0_ f truth r hm⟩
section
attribute [local irreducible] W WL WN DM Op1 OpR Opd Dep
instance IL(b:Int)(r:Bool):z1 265 (M.mI b=some r) [(tI .i32).is b] (tB.is r):=.fx Tryz.call265 Tryz.func265 (M.mI.eq_1 ..)
instance Jw(b:Int)(r:Bool):z1 237 (M.oh b=some r) [(tI .i32).is b] (tB.is r):=.fx Tryz.call237 Tryz.func237 (M.oh.eq_1 ..)
instance xX(u:aa)(s0_:av)(r:Bool):z1 248 (M.mJ u s0_=some r) [ae.is u,bE.is s0_] (tB.is r):=.fx Tryz.call248 Tryz.func248 (M.mJ.eq_1 ..)
end
theorem yu:∀ (n:Nat) (u:aa) (id:ai) (r:List aa),M.mK n u id=some r->FSpec Tryz.prog 154 [ae.is u,aH.is id] ((tLn ae).is r):=by
 intro n;induction n with
 | zero=>intro u id r hm;cases hm
 | succ n ih=>
  intro u id r hm;rw [M.mK.eq_2] at hm;refine FSpec.of Tryz.func154 X X X λg0=>Aw<|Ao X (.box (.t X))<|Ao X (.box (.t X))<|Ao X (.assign (.nilN (t:=ae)))<|An<|W.seq<|Aw<|Ao X (.fieldAddr U27 X J23 wK.h (.t X))<|Ao X (.load ty23.h (.t X))<|Ao X (.load ty23.h (.t X))<|Ao X (.eqSt (D:=2) X (by decide) eg23 eq23 (.t X) (.t X))<|An<|W.cD hm (.t X) (λhp2 hm=>?_) (λhp2 hm=>?_)
  .refine Aw<|Ao X (.load ty27.h (.t X))<|Ao X (.buildSlice (n:=1) (ys:=[(0,u)]) (z:=az) (xs:=[u]) U25 el27.h ze27.h ⟨X,(.t X),trivial⟩ (by simp) (by decide) X)<|Ag X X<|WL.ns ?_;obtain ⟨_,hz3,hm⟩:=Bs hm;cases hm;exact W.ret1 () X (Opd.asLn (NK hz3) (.t X)) trivial
  .refine W.skip<|Aq<|W.seq<|Aw<|Ao X (.fieldAddr U27 X J25 ny.h (.t X))<|Ao X (.load ty25.h (.t X))<|Ao X (.qd U25 (.t X))<|Ao X (.move .i64)<|An<|W.block ?_;obtain ⟨s5,hs6,hk7⟩:=Bs hm;clear hm;refine W.loop (λm (s:Int×List aa×List aa×Unit)=>m=s.2.2.1.length/\u.Kids=s.2.1++s.2.2.1/\s.1=(s.2.1.length:Int)/\M.kJ u id (M.mK n) s.2.2.1=some s5) (λs=>[(17,(I6.is s.1)),(2,(ae.ptr u)),(3,(aH.ptr id)),(15,((tL ae).is u.Kids)),(16,(I6.is (u.Kids.length:Int)))]) (λs=>[]) u.Kids.length ((0:Int),[],u.Kids,()) ⟨X,X,X,hs6⟩ ⟨.q X,.q X,.q X,.q X,.q X,trivial⟩ trivial ?_;rintro m ⟨i,pre,rest1,_⟩ ⟨hn11,hxs8,hi9,hm⟩;try dsimp only at hn11 hxs8 hi9 hm
   change W _ _ _ _ _ _ _ [(17,(I6.is i)),(2,(ae.ptr u)),(3,(aH.ptr id)),(15,((tL ae).is u.Kids)),(16,(I6.is (u.Kids.length:Int)))] [];refine W.qd (s:=15) (.t X) λhlen10=>Aw<|Ao X (.ltI (.t X) (.t X))<|An<|W.seq<|W.cond (.t X) (λhc13=>?_) (λhc13=>?_)
   .have hp14:=of_decide_eq_true hc13;obtain ⟨e,es,hrest16⟩:=qR hxs8 hi9 hp14;subst hrest16;rw [M.kJ.eq_2] at hm;refine W.skip<|Aq<|W.seq<|W.block<|Aw<|Ao X (.idxPre hxs8 hi9 U25 Z27 (.t X) (.t X))<|Ao X (.load ty27.h (.t X))<|WL.opR X (OpR.alloc 6 ze27.h) λb=>WL.opU (OpR.storeB (b:=b) 6 Z27 (bg.is ae e) X (.t X) (.t X)) λ_=>WL.sealed (t:=ae) (u:=e) 6 6 X X<|Ar<|Ao X (.load ty27.h (.t X))<|Ao X (.load ty23.h (.t X)) ?_;obtain ⟨way,hv17,hm⟩:=Bs hm;refine Ao X (.call C154 (ih _ _ _ hv17) ⟨(.t X),(.t X),trivial⟩)<|Ag X X<|Ar<|Am X X<|Ao X (.neNil U25 (.t X))<|An<|W.cR hm (.t X) (λhp19 hm=>?_) (λhp19 hm=>?_)
    .refine Aw<|Ao X (.load ty27.h (.t X))<|WL.opR X (OpR.buildSlice (n:=1) (ys:=[(0,u)]) (z:=az) (xs:=[u]) 27 U25 el27.h ze27.h ⟨X,(.t X),trivial⟩ (by simp) (by decide) X) λk=>WL.mv X X ?_;obtain ⟨out,hv20,hm⟩:=Bs hm;refine WL.opR X (OpR.appC (key:=27) hv20 U25 el27.h (.t X) (Opd.tLn (.t X)) X) λk1=>Ag X X<|WL.ns ?_;obtain ⟨_,hz21,hm⟩:=Bs hm;have hr23:=Si hm;clear hm;subst hr23;have hm:=hk7;try dsimp only at hm
     cases hm;exact W.ret1 () X (Opd.asLn (NK hz21) (Opd.own (.t X))) trivial
    .exact W.skip<|WN.block<|Aq<|W.region<|Ao X (.addI (.t X) .i64 (uN hi9 hp14 hlen10))<|Am X X<|WL.nil<|WN.again es.length (i+1,pre++ [e],es,()) (wm hn11) ⟨X,sV hxs8,uK hi9,hm⟩ ⟨.q X,.q X,.q X,.q X,.q X,trivial⟩ trivial
   .have hrest16:=sH hxs8 hi9 (of_decide_eq_false hc13);subst hrest16;rw [M.kJ.eq_1] at hm;refine W.exit X ?_;have hr24:=Si hm;clear hm;subst hr24;have hm:=hk7;try dsimp only at hm
    refine Aq<|Aw<|Ao X (.assign (.nilN (t:=ae)))<|WL.ns ?_;cases hm;exact W.ret1 () X (.t X) trivial
instance TY(n:Nat)(u:aa)(id:ai)(r:List aa):z1 154 (M.mK n u id=some r) [ae.is u,aH.is id] ((tLn ae).is r):=⟨Tryz.call154,λhm=>yu n u id r hm⟩
theorem iQ(l:List af)(r:List af)(hm:M.bP l=some r):aR Tryz.prog 211 [(tL aj).is l] [] (λk:Tok=>tO aj k r) (λk=>[(5,Dec.Own aj 106 k r.length)]):=by
 unfold M.bP at hm;refine aR.of Tryz.func211 X X X λg0=>W.seq<|W.region<|Ao X (.assign (.nil (t:=aj)))<|WL.nil<|Aq<|W.seq<|W.seq<|W.region<|Ao X (.move (.t X))<|WL.opR X (OpR.eqNil U24 (.t X)) λb=>WL.nil<|Aq<|W.cond (.t X) (λhc=>?_) (λhc=>?_)
 .have hl:=b.2 hc;subst hl;have hr:[]=r:=by simpa [appC] using hm
  subst hr;exact W.seq<|W.region<|WL.addNil (t:=aj) (E:=106) 5<|Ao X (.assign (Opd.nilO (t:=aj)))<|WL.nil<|Aq<|W.ret1 (none:Tok) X (.t X) ⟨X,X,trivial⟩
 .exact W.skip<|Aq<|W.seq<|W.region<|WL.opR X (OpR.buildSlice (n:=0) (ys:=[]) (z:=sK) (xs:=[]) 5 U24 el106.h ze106.h trivial (by simp) (by decide) X) λk5=>Ao X (.move (.t X))<|WL.opR X (OpR.appC (key:=5) hm U24 el106.h (.t X) (.t X) X) λk7=>Ao X (.assign (.t X))<|WL.nil<|Aq<|W.ret1 k7 X (.t X) ⟨X,X,trivial⟩
instance yY(l:List af)(r:List af):z6 211 (M.bP l=some r) (λ_ _ _ _=>[(tL aj).is l]) (λ_ _ _ _=>[]) _ (λ_ _ _ _=>(λk:Tok=>tO aj k r)) (λ_ _ _ _=>(λk=>[(5,Dec.Own aj 106 k r.length)])):=⟨Tryz.call211,λhm _ _ _ _=>iQ l r hm⟩
section
attribute [local irreducible] W WL WN DM Op1 OpR Opd Dep
instance FP(a:Int)(r:Int):z1 272 (M.pg a=some r) [I6.is a] (I6.is r):=.fx Tryz.call272 Tryz.func272 (M.pg.eq_1 ..)
instance FQ(kids:Int)(r:Int):z1 274 (M.pq kids=some r) [I6.is kids] (I6.is r):=.fx Tryz.call274 Tryz.func274 (M.pq.eq_1 ..)
end
end Go.Proofs.YtobcmdhemlennaaGreatDoor
