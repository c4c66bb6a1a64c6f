import Derived.Test.YtobcmdhemlennaaGreatDoorPs
import Derived.KernelRfl
/-
  Single insertions: the program does what the reference does, and the patch undoes it.
-/
set_option linter.unusedVariables false
set_option linter.unusedSimpArgs false
namespace Go.Proofs.YtobcmdhemlennaaGreatDoor
open Go Go.Dec
theorem Ok.good{u:aa}(h:Ok u):Good u:=by
 refine ⟨λx hx=>?_,by rw [Ll];exact h.hdp,h.nd⟩;have hok:=h.oks x hx;obtain ⟨h1,h2,_,h4,_,_⟩:=vQ (uD hok);have h5:=zD hok;simp only [Wu,Bool.and_eq_true,List.all_eq_true,decide_eq_true_eq] at h5;refine ⟨⟨h1,h2⟩,h4,λk hk e=>?_,λi j hi hj hij he=>?_⟩
 .have:=h5.1.1 k hk;rw [e,E5] at this;cases this
 .have:=h5.1.2;rw [List.Nodup,List.pairwise_map,List.pairwise_iff_getElem] at this;exact this i j hi hj hij (Prod.ext he.1 he.2)
theorem Ok.dest{u:aa}(h:Ok u)(it:ag):To (λn=>M.jm n u it) (WF u it):=
 Vn u (by have:=h.hcnt;omega) h.oks.labs h.good it
structure Lead (u t:aa) (w:Int) (e:Nat) (p:aa) (dd:Nat) (D:aa->aa) (a b:List aa):Prop where
 here:At p dd u D
 kids:p.Kids=a++b
 lead:iE t.Id u w=(p.Id,((a.length:Nat):Int),0)
 how:((w=0\/w=1)/\p=t/\dd=e/\(w=0->a= [])/\(w=1->b= []))\/((w=2\/w=3)/\t.Id≠u.Id/\ ∃ l r,p.Kids=l++t :: r/\(w=2->a=l++ [t]/\b=r)/\(w=3->a=l/\b=t :: r))
theorem Lp{u t:aa}{e:Nat}{E:aa->aa}(hn:Nice u)(ht:At t e u E){w:Int}(h0:0<=w)(h3:w<=3):((w=2\/w=3)/\t.Id=u.Id/\iE t.Id u w=(aO,0,9))\/ ∃ p dd D a b,Lead u t w e p dd D a b:=by
 have hf:(findR t.Id u).1=t:=by unfold findR;rw [ht.findE hn.nd]
 have hw:w=0\/w=1\/w=2\/w=3:=by omega
 rcases hw with rfl | rfl | hw
 .exact .inr ⟨t,e,E,[],t.Kids,ht,rfl,by unfold iE;rw [if_pos rfl];rfl,.inl ⟨.inl rfl,rfl,rfl,λ_=>rfl,λh=>absurd h (by decide)⟩⟩
 .exact .inr ⟨t,e,E,t.Kids,[],ht,by rw [List.append_nil],by unfold iE;rw [if_neg (by decide),if_pos rfl,hf],.inl ⟨.inr rfl,rfl,rfl,λh=>absurd h (by decide),λ_=>rfl⟩⟩
 .by_cases hr:t.Id=u.Id
  .refine .inl ⟨hw,hr,?_⟩;unfold iE;rw [if_neg (by omega),if_neg (by omega),if_pos hr.symm]
  .cases e with
   | zero=>obtain ⟨rfl,_⟩:=ht.zero;exact absurd rfl hr
   | succ e=>
    obtain ⟨p,l,r,D,ek,hp,_⟩:=ht.up;have hpar:=hp.parE hn.nd ek;rcases hw with rfl | rfl
    .refine .inr ⟨p,e,D,l++ [t],r,hp,by rw [ek];simp,?_,.inr ⟨.inl rfl,hr,l,r,ek,λ_=>⟨rfl,rfl⟩,λh=>absurd h (by decide)⟩⟩;unfold iE;rw [if_neg (by decide),if_neg (by decide),if_neg (λh=>hr h.symm),hpar];simp
    .refine .inr ⟨p,e,D,l,t :: r,hp,ek,?_,.inr ⟨.inr rfl,hr,l,r,ek,λh=>absurd h (by decide),λ_=>⟨rfl,rfl⟩⟩⟩;unfold iE;rw [if_neg (by decide),if_neg (by decide),if_neg (λh=>hr h.symm),hpar];simp
theorem Xb(u:aa)(h:cnt u<=1000000):To (λn=>M.mV n u) (desc u):=Ei u h
theorem Qa(u x:aa)(hu:Nice u)(hx:cnt x<=10000):∃ r,To (λn=>M.eB u (desc x) n (0:Int) az) r/\((r= .inl az/\ ∀ i∈ids x,i ∉ ids u)\/(r= .inr (u,5)/\ ∃ i∈ids x,i∈ids u)):=by
 have loop:∀ (xs:List aa) (i:Nat),(desc x).drop i=xs->∃ r,To (λn=>M.eB u (desc x) n (i:Int) az) r/\((r= .inl az/\ ∀ y∈xs,y.Id ∉ ids u)\/(r= .inr (u,5)/\ ∃ y∈xs,y.Id∈ids u)):=by
  intro xs;induction xs with
  | nil=>intro i hx;exact ⟨.inl az,To.succ (by simp only [M.eB];exact To.neg (aM hx) To.pure),.inl ⟨rfl,λy hy=>by cases hy⟩⟩
  | cons y xs ih=>
   intro i hx;by_cases hy:y.Id∈ids u
   .obtain ⟨z,hz,hzi⟩:=uC.1 hy;obtain ⟨k,E,hE⟩:=At.Af hz;have hg:=get_at hE hu.nd (by have:=hE.dpO;have:=E9 u;have:=hu.few;omega);rw [hzi] at hg;refine ⟨.inr (u,5),To.succ ?_,.inr ⟨rfl,y,by simp,hy⟩⟩;simp only [M.eB];exact To.pos (aD hx) (To.bindS (ax hx) (To.bind hg (To.pos (by simp) To.pure)))
   .obtain ⟨r,h1,h2⟩:=ih (i+1) (aC hx);refine ⟨r,To.succ ?_,?_⟩
    .simp only [M.eB];refine To.pos (aD hx) (To.bindS (ax hx) (To.bind (J8 _ u hy) (To.neg (by simp) ?_)));rw [bT];exact h1
    .rcases h2 with ⟨e,h2⟩ | ⟨e,z,hz,h2⟩
     .refine .inl ⟨e,λz hz=>?_⟩;rcases List.mem_cons.1 hz with rfl | hz
      .exact hy
      .exact h2 z hz
     .exact .inr ⟨e,z,by simp [hz],h2⟩
 obtain ⟨r,h1,h2⟩:=loop (desc x) 0 rfl;refine ⟨r,h1,?_⟩;rcases h2 with ⟨e,h2⟩ | ⟨e,z,hz,h2⟩
 .exact .inl ⟨e,λi hi=>by obtain ⟨y,hy,rfl⟩:=uC.1 hi;exact h2 y hy⟩
 .exact .inr ⟨e,z.Id,uC.2 ⟨z,hz,rfl⟩,h2⟩
theorem Ir(u x:aa):To (λn=>M.bV n (ids x) (λs0=>M.lD n s0 (ids u))) (decide (∃ i∈ids x,i∈ids u)):=by
 refine (XO (ids x) (λn s0=>M.lD n s0 (ids u)) (λi=>decide (i∈ids u)) λi _=>?_).of ?_
 .simp only [M.lD];exact To.bind (A9 _ _) To.pure
 .rw [Bool.eq_iff_iff,List.any_eq_true,decide_eq_true_eq];simp
theorem Ta{u:aa}(h:Wv u=true):Oks u/\dp u<=8/\cnt u<=1024:=by
 obtain ⟨h1,h2,h3⟩:=Fe h;exact ⟨h3,h2,h1⟩
theorem FB{p x u:aa}{dd:Nat}{D:aa->aa}(h:Nice u)(hp:At p dd u D)(hx:smT x)(hd:dd<=10000):To (λn=>M.lC n u p.Id x) (decide (8<dd+1+dp x)):=by
 obtain ⟨r,h1,h2⟩:=Vp h hp;simp only [M.lC];have hx1:=E9 x;have hx2:=hx.1;refine To.bind h1 (To.bindS (ku (by rw [h2];omega) (by rw [h2];omega)) (To.bind (KZ x hx) (To.bindS (ku (by rw [h2];omega) (by rw [h2];omega)) (To.pure.of ?_))));rw [h2,decide_eq_decide];omega
theorem Iu{u:aa}{d:ak}(h:Aim u d)(hk:d.It.Kind=0):Step u d:=by
 have hd:nL d.It.Kind (λn s0 s1 s2=>M.fG n s0 s1 s2):=hk▸Xx;by_cases he:(oneOf ((units u d.It.At).map aa.Id)).2=0
 case neg=>exact Io h hd he
 obtain ⟨t,htm,hti⟩:=yR u d.It.At he;have ho:oneOf ((units u d.It.At).map aa.Id)=(t.Id,0):=Prod.ext hti.symm he;obtain ⟨e,E,ht⟩:=At.Af htm;have h1:=h.one d.It.At;have h2:=h.oneR d.It.At h.few.atL;rw [ho] at h1 h2;have hn:=h.ok.nice;have hft:=qc hn ht;have hget:=get_at ht h.ok.nd (by have:=h.lim ht;omega);obtain ⟨⟨w0,w3⟩,hval,hu0⟩:=h.facts.k0 hk;obtain ⟨uo,ud,uc⟩:=Ta hval;have hdest:=h.ok.dest d.It;have hde:WF u d.It=iE t.Id u d.It.Where:=by
  unfold WF;rw [if_pos hk];unfold Xu;rw [if_neg (by omega),ho];simp
 rw [hde] at hdest;have hapd:∀ {r:aa×Int},To (λn=>M.fG n u t d) r->To (λn=>M.dS n u d) r:=λhr=>Bb hd h.facts.valid h1 hft (.inr hk) hr;have hdo:∀ {r:aa×Int},To (λn=>M.kg n u t.Id d) r->To (λn=>M.nJ n u d) r:=λhr=>by
  simp only [M.nJ];exact To.bind (rW (u:=u) h.facts.kind h.may) (To.neg (by simp) (To.bind h2 (To.neg (by simp) (To.pos hk (To.bind hr To.pure)))))
 have hkk:To (λ_:Nat=>if d.It.Where=(0:Int) then some (0:Int) else some (t.Kids.length:Int)) (if d.It.Where=0 then 0 else (t.Kids.length:Int)):=To.ite (λa=>To.pure.of (if_pos a).symm) λa=>To.pure.of (if_neg a).symm;have hbes:To (λ_:Nat=>if d.It.Where=(2:Int) then some true else some (decide (d.It.Where=(3:Int)))) (decide (d.It.Where=2\/d.It.Where=3)):=To.ite (λa=>To.pure.of (by simp [a])) λa=>To.pure.of (by simp [a]);rcases Lp hn ht w0 w3 with ⟨hw,htr,hl⟩ | ⟨p,dd,D,a,b,L⟩
 .rw [hl] at hdest;refine .inr ⟨9,9,by decide,by decide,hapd ?_,hdo ?_⟩
  .simp only [M.fG];exact To.bind hdest (To.pos (by decide) To.pure)
  .simp only [M.kg];refine To.bind hget (To.bind hkk (To.bind (a:=.inr (u,9)) (To.bind hbes (To.pos (decide_eq_true hw) (To.pos htr To.pure))) ?_));exact To.pure
 .have hp:=L.here;have ek:=L.kids;rw [L.lead] at hdest;have hpre:To (λn=>Option.bind (if d.It.Where=(2:Int) then some true else some (decide (d.It.Where=(3:Int)))) λv1=>if v1=true then if t.Id=u.Id then some (Sum.inr (u,(9:Int))) else Option.bind (M.gy n u t.Id) λparent=>if d.It.Where=(2:Int) then Option.bind (addC parent.2.2 (1:Int)) λv2=>some (.inl (parent.2.1,v2,az,parent.1)) else some (.inl (parent.2.1,parent.2.2,az,parent.1)) else some (.inl ((e:Int),(if d.It.Where=0 then 0 else (t.Kids.length:Int)),az,t))) (Sum.inl (((dd:Nat):Int),((a.length:Nat):Int),az,p):(Int×Int×aa×aa) ⊕ (aa×Int)):=by
   refine To.bind hbes ?_;rcases L.how with ⟨hw,rfl,rfl,ha,hb⟩ | ⟨hw,hne,l,r,ekl,hw2,hw3⟩
   .refine To.neg (by rw [decide_eq_true_eq];omega) (To.pure.of ?_);rcases hw with hw | hw
    .rw [if_pos hw,ha hw];rfl
    .rw [if_neg (by omega),ek,hb hw,List.append_nil]
   .refine To.pos (decide_eq_true hw) (To.neg hne (To.bind (vT hp h.ok.nd ekl (by have:=h.lim hp;omega)) ?_));have hkl:=(h.ok.oks.sub hp.mem).kidsLen;have hll:l.length<=64:=by rw [ekl] at hkl;simp at hkl;omega
    rcases hw with hw | hw
    .refine To.pos hw (To.bindS (nk _ (by omega)) (To.pure.of ?_));rw [(hw2 hw).1];simp
    .refine To.neg (by omega) (To.pure.of ?_);rw [(hw3 hw).1]
  have hst:=stamped d.Act d.Item d.It.Unit 1 0;have hsp:=PV uo uc d.Act d.Item;have hsr:=PW uo uc d.Act d.Item;have hsnd:=PL d.Act d.Item d.It.Unit 1 0;have hsid:=PM d.Act d.Item d.It.Unit 1 0;generalize hx:V4 d.Act d.Item d.It.Unit 1 0=x at hst hsp hsr hsnd hsid;have xk:=hst.hk;have xo:=hst.ho uo;have xd:=hst.hd;have xc:=hst.hc;rw [hx] at xk xo xd xc;have hfp:=qc hn hp;have hxs:smT x:=xo.sm (by omega);have hds:dd<=8:=h.lim hp;have hkl:=(h.ok.oks.sub hp.mem).kidsLen
  -- an error of both
  have bad:∀ e:Int,e≠0->To (λn=>M.fG n u t d) (u,e)->To (λn=>M.kg n u t.Id d) (u,e)->Step u d:=λe he q1 q2=>.inr ⟨e,e,he,he,hapd q1,hdo q2⟩;by_cases hnest:nestB p.Kind x.Kind=true
  case neg=>
   have hnest:nestB p.Kind x.Kind=false:=by simpa using hnest
   refine bad 9 (by decide) ?_ ?_
   .simp only [M.fG];exact To.bind hdest (To.neg (by simp) (To.bind hfp (To.bind hsp (To.bind (Iq p x hnest) (To.pos (by decide) To.pure)))))
   .simp only [M.kg];exact To.bind hget (To.bind hkk (To.bind hpre (To.bind hsr (To.bindS (rV _ _) (To.pos hnest To.pure)))))
  by_cases hkey:keyU x∈p.Kids.map keyU
  .refine bad 10 (by decide) ?_ ?_
   .simp only [M.fG];exact To.bind hdest (To.neg (by simp) (To.bind hfp (To.bind hsp (To.bind ((uf p x hnest).of (if_pos hkey)) (To.pos (by decide) To.pure)))))
   .simp only [M.kg];exact To.bind hget (To.bind hkk (To.bind hpre (To.bind hsr (To.bindS (rV _ _) (To.neg (by simp [hnest]) (To.bind ((Wy p.Kids x.Kind x.Label).of (decide_eq_true hkey)) (To.pos rfl To.pure)))))))
  have gop:∀ {r:aa×Int},To (λn=>if (64:Int)<=(p.Kids.length:Int) then some (u,(6:Int)) else Option.bind (M.lC n u p.Id x) λdeep=>if deep=true then some (u,(6:Int)) else
     Option.bind (M.nE n u) λcount=>Option.bind (M.nE n x) λcount1=>Option.bind (addC count count1) λv=>if (1024:Int)< v then some (u,(6:Int)) else
      Option.bind (M.pM n u) λids=>Option.bind (M.pM n x) λids1=>Option.bind (M.bV n ids1 (λs0=>M.lD n s0 ids)) λid=>if id=true then some (u,(5:Int)) else
       Option.bind (M.gu n u p.Id (λs0=>M.kP s0 ((a.length:Nat):Int) x)) λwith0_=>some (with0_,(0:Int))) r->To (λn=>M.fG n u t d) r:=λhr=>by
   simp only [M.fG];exact To.bind hdest (To.neg (by simp) (To.bind hfp (To.bind hsp (To.bind ((uf p x hnest).of (if_neg hkey)) (To.neg (by simp) hr)))))
  have gor:∀ {r:aa×Int},To (λn=>if (64:Int)<=(p.Kids.length:Int) then some (u,(6:Int)) else Option.bind (addC ((dd:Nat):Int) (1:Int)) λv3=>Option.bind (M.o5 n x) λdeep1=>Option.bind (addC v3 deep1) λv4=>if (8:Int)< v4 then some (u,(6:Int)) else
     Option.bind (M.lJ n u) λcount=>Option.bind (M.lJ n x) λcount1=>Option.bind (addC count count1) λv5=>if (1024:Int)< v5 then some (u,(6:Int)) else
      Option.bind (M.mV n x) λevery=>Option.bind (M.eB u every n (0:Int) az) λ
       | .inl v6=>Option.bind (M.vH p.Kids ((a.length:Nat):Int) x) λin0_=>Option.bind (M.kV n u ({p with Kids:=in0_}:aa)) λwith0_=>some (with0_,(0:Int))
       | .inr ret0=>some ret0) r->To (λn=>M.kg n u t.Id d) r:=λhr=>by
   simp only [M.kg];exact To.bind hget (To.bind hkk (To.bind hpre (To.bind hsr (To.bindS (rV _ _) (To.neg (by simp [hnest]) (To.bind ((Wy p.Kids x.Kind x.Label).of (decide_eq_false hkey)) (To.neg (by simp) hr)))))))
  by_cases h64:64<=p.Kids.length
  .exact bad 6 (by decide) (gop (To.pos (by omega) To.pure)) (gor (To.pos (by omega) To.pure))
  have hdeep:=FB hn hp hxs (by omega);have hcu:=Fa u (h.ok.oks.sm hn.few);have hcx:=Fa x hxs;have hru:=Cu u (by have:=h.ok.hcnt;omega);have hrx:=Cu x (by omega);have hrd:=Xh x (by omega);have hcn:=h.ok.hcnt;have had:addC ((dd:Nat):Int) (1:Int)=some ((dd+1:Nat):Int):=nk dd (by omega);have had2:addC ((dd+1:Nat):Int) ((dp x:Nat):Int)=some ((dd+1+dp x:Nat):Int):=fD _ _ (by omega);have hac:addC ((cnt u:Nat):Int) ((cnt x:Nat):Int)=some ((cnt u+cnt x:Nat):Int):=fD _ _ (by omega);by_cases h8:8<dd+1+dp x
  .refine bad 6 (by decide) (gop (To.neg (by omega) (To.bind hdeep (To.pos (decide_eq_true h8) To.pure)))) (gor (To.neg (by omega) (To.bindS had (To.bind hrd (To.bindS had2 (To.pos (by omega) To.pure))))))
  have n8:¬ decide (8<dd+1+dp x)=true:=by rw [decide_eq_true_eq];exact h8
  by_cases h1024:1024<cnt u+cnt x
  .have q1:To (λn=>M.fG n u t d) (u,6):=gop<|To.neg (by omega)<|To.bind hdeep<|To.neg n8<|To.bind hcu<|To.bind hcx<|To.bindS hac<|To.pos (by omega) To.pure;have q2:To (λn=>M.kg n u t.Id d) (u,6):=gor<|To.neg (by omega)<|To.bindS had<|To.bind hrd<|To.bindS had2<|To.neg (by omega)<|To.bind hru<|To.bind hrx<|To.bindS hac<|To.pos (by omega) To.pure;exact bad 6 (by decide) q1 q2
  have hxn:Nice x:=⟨xo,by omega,hsnd⟩
  obtain ⟨rr,hr1,hr2⟩:=Qa u x hn (by omega);rcases hr2 with ⟨rfl,hdis⟩ | ⟨rfl,hsh⟩
  case inr=>
   have q1:To (λn=>M.fG n u t d) (u,5):=gop<|To.neg (by omega)<|To.bind hdeep<|To.neg n8<|To.bind hcu<|To.bind hcx<|To.bindS hac<|To.neg (by omega)<|To.bind (Lf hn)<|To.bind (Lf hxn)<|To.bind (Ir u x)<|To.pos (decide_eq_true hsh) To.pure;have q2:To (λn=>M.kg n u t.Id d) (u,5):=gor<|To.neg (by omega)<|To.bindS had<|To.bind hrd<|To.bindS had2<|To.neg (by omega)<|To.bind hru<|To.bind hrx<|To.bindS hac<|To.neg (by omega)<|To.bind (Xb x (by omega))<|To.bind hr1 To.pure;exact bad 5 (by decide) q1 q2
  have hnsh:¬ decide (∃ i∈ids x,i∈ids u)=true:=by rw [decide_eq_true_eq];exactλ⟨i,hi,hj⟩=>hdis i hi hj
  have hv:=h.ok.ins hp ek xo hnest hkey (by omega) (by omega) (by omega) hsnd hdis;have hak:(a++b).length<=64:=by rw [<-ek];exact hkl
  have ha:To (λn=>M.dS n u d) (D (V3 p (a++x :: b)),0):=hapd<|gop<|To.neg (by omega)<|To.bind hdeep<|To.neg n8<|To.bind hcu<|To.bind hcx<|To.bindS hac<|To.neg (by omega)<|To.bind (Lf hn)<|To.bind (Lf hxn)<|To.bind (Ir u x)<|To.neg hnsh<|To.bind (WG hn hp ek) To.pure;have hrin:M.vH p.Kids ((a.length:Nat):Int) x=some (a++x :: b):=by rw [ek];exact rin a b x (by omega)
  have q2:To (λn=>M.kg n u t.Id d) (D (V3 p (a++x :: b)),0):=gor<|To.neg (by omega)<|To.bindS had<|To.bind hrd<|To.bindS had2<|To.neg (by omega)<|To.bind hru<|To.bind hrx<|To.bindS hac<|To.neg (by omega)<|To.bind (Xb x (by omega))<|To.bind hr1<|To.bindS hrin<|To.bind (vU (y:=V3 p (a++x :: b)) hn hp rfl) To.pure;exact .inl ⟨D (V3 p (a++x :: b)),ha,hdo q2,hv⟩
theorem Bc{x y:aa}(h:y∈desc x):y.Id∈ids x:=uC.2 ⟨y,h,rfl⟩
theorem Vv{u a b:aa}(hn:(ids u).Nodup)(ha:a∈desc u)(hb:b∈desc u)(e:a.Id=b.Id):a=b:=zC hn ha hb e
theorem Ex{x:aa}:∀ {a b l r:List aa},a++b=l++x :: r->(∃ c,a=l++x :: c/\r=c++b)\/(∃ c,l=a++c/\b=c++x :: r)
 | [],b,l,r,h=>.inr ⟨l,rfl,h⟩
 | y :: a,b,[],r,h=>by
  simp only [List.cons_append,List.nil_append,List.cons.injEq] at h;exact .inl ⟨a,by rw [h.1];rfl,h.2.symm⟩
 | y :: a,b,z :: l,r,h=>by
  simp only [List.cons_append,List.cons.injEq] at h;rcases Ex h.2 with ⟨c,e1,e2⟩ | ⟨c,e1,e2⟩
  .exact .inl ⟨c,by rw [h.1,e1];rfl,e2⟩
  .exact .inr ⟨c,by rw [h.1,e1];rfl,e2⟩
structure Goes (u x t p rest:aa) (l:List aa) (w:Int) (z:aa) (dd:Nat) (E:aa->aa) (a b:List aa) (p2:aa) (K:List aa):Prop where
 here:At z dd rest E
 kids:z.Kids=a++b
 dest:V9 u x.Id t.Id w=(z.Id,((a.length:Nat):Int),0)
 bare:V8 z=V8 p2
 at2:∃ D,At p2 dd u D
 of:(w=0\/w=1)/\p2=t\/(w=2\/w=3)/\t.Id≠u.Id/\ ∃ l r,p2.Kids=l++t :: r
 kk:(p.Id=p2.Id/\M.qM p2.Kids ((l.length:Nat):Int)=some K)\/(p.Id≠p2.Id/\K=p2.Kids)
 keys:K.map keyU=z.Kids.map keyU
 same:p.Id=p2.Id->K.length<=63
 first:w=0->a= []
 last:w=1->b= []
 after:w=2->∃ c t',a=c++ [t']/\t'.Id=t.Id
 ahead:w=3->∃ c t',b=t' :: c/\t'.Id=t.Id
theorem Bj{c:List aa}{t:aa}{a b l':List aa}(h:a++b=c++ [t])(hb:b≠ []):∃ b',b=b'++ [t]/\c=a++b':=by
 have h1:=List.dropLast_concat_getLast hb;have e:a++b.dropLast++ [b.getLast hb]=c++ [t]:=by rw [List.append_assoc,h1,h]
 have:=List.append_inj' e rfl;exact ⟨b.dropLast,by rw [<-(List.cons.inj this.2).1,h1],this.1.symm⟩
theorem Tc{u x t p:aa}{k e:Nat}{D E0:aa->aa}{l r:List aa}(h:Ok u)(hp:At p k u D)(ek:p.Kids=l++x :: r)(ht:At t e u E0){w:Int}(w0:0<=w)(w3:w<=3)(htx:t.Id ∉ ids x) :
  ((w=2\/w=3)/\t.Id=u.Id/\V9 u x.Id t.Id w=(aO,0,9))\/ ∃ z dd E a b p2 K,Goes u x t p (D (V3 p (l++r))) l w z dd E a b p2 K:=by
 have hn:=h.nice;have hx:=hp.step ek;have hux:u.Id≠x.Id:=hx.ne h.nd;have hxt:t.Id≠x.Id:=λe=>htx (e▸nV x);have htx':¬ t.Id=x.Id:=hxt;have hins:V6 u x.Id t.Id=false:=by
  unfold V6 findR;rw [hx.findE h.nd];show (Wh t.Id x).isSome=false;rw [Ah htx];rfl
 have hpar:=hp.parE h.nd ek;have hmid:=h.mid hp ek;have hg0:V9 u x.Id t.Id w=(if (iE t.Id u w).2.2≠0 then (aO,0,9) else if (iE t.Id u w).1=p.Id/\((l.length:Nat):Int)< (iE t.Id u w).2.1 then ((iE t.Id u w).1,(iE t.Id u w).2.1-1,0) else ((iE t.Id u w).1,(iE t.Id u w).2.1,0)):=by
  unfold V9;rw [if_neg (by simp [hux,hins,hxt]),if_neg hxt,hpar]
 rcases Lp hn ht w0 w3 with ⟨hw,htr,hl⟩ | ⟨p2,dd,D2,a,b,L⟩
 .refine .inl ⟨hw,htr,?_⟩;rw [hg0,hl];rfl
 refine .inr ?_;rw [L.lead] at hg0;simp only [ne_eq,not_true_eq_false,if_false] at hg0;have hp2x:p2 ∉ desc x:=λhm=>by
  rcases L.how with ⟨_,rfl,_⟩ | ⟨_,_,l2,r2,e2,_⟩
  .exact htx (Bc hm)
  .exact htx (Bc (xg hm (by rw [e2];simp)))
 have hof:(w=0\/w=1)/\p2=t\/(w=2\/w=3)/\t.Id≠u.Id/\ ∃ l r,p2.Kids=l++t :: r:=by
  rcases L.how with ⟨q1,q2,_⟩ | ⟨q1,q2,l2,r2,e2,_⟩
  .exact .inl ⟨q1,q2⟩
  .exact .inr ⟨q1,q2,l2,r2,e2⟩
 have hkl:=(h.oks.sub L.here.mem).kidsLen;by_cases hpp:p.Id=p2.Id
 .have e1:p=p2:=Vv h.nd hp.mem L.here.mem hpp;subst e1;have e2:=hp.uniq h.nd L.here;subst e2;have hz:=hp.re (V3 p (l++r));have hout:M.qM p.Kids ((l.length:Nat):Int)=some (l++r):=by rw [ek];exact Xv l r x (by have:=hmid.len;omega)
  have hab:=L.kids;rw [ek] at hab;have tne:∀ y:aa,y.Id=t.Id->y≠x:=λy e1 e2=>hxt (by rw [<-e1,e2])
  -- the two sides of the place
  rcases Ex hab.symm with ⟨c,ea,er⟩ | ⟨c,el,eb⟩
  .refine ⟨V3 p (l++r),k,D,l++c,b,p,l++r,hz,by rw [ng,er,List.append_assoc],?_,rfl,⟨D,hp⟩,hof,.inl ⟨rfl,hout⟩,rfl,λ_=>hmid.len,λhw=>?_,λhw=>?_,λhw=>?_,λhw=>?_⟩
   .rw [hg0,if_pos ⟨rfl,by rw [ea];simp;omega⟩,ea,Lc];simp;omega
   .rcases L.how with ⟨_,_,_,q,_⟩ | ⟨q,_⟩
    .have:=q hw;rw [ea] at this;simp at this
    .omega
   .rcases L.how with ⟨_,_,_,_,q⟩ | ⟨q,_⟩
    .exact q hw
    .omega
   .rcases L.how with ⟨q,_⟩ | ⟨_,_,l2,r2,e2,q,_⟩
    .omega
    .have q1:=(q hw).1;have:l++(x :: c)=l2++ [t]:=by rw [<-ea,q1]
     obtain ⟨b',hb1,hb2⟩:=Bj (l':=[]) this (by simp);cases b' with
     | nil=>
      simp only [List.nil_append,List.cons.injEq] at hb1;exact absurd hb1.1.symm (tne t rfl)
     | cons y b'=>
      simp only [List.cons_append,List.cons.injEq] at hb1;exact ⟨l++b',t,by rw [hb1.2,List.append_assoc],rfl⟩
   .rcases L.how with ⟨q,_⟩ | ⟨_,_,l2,r2,e2,_,q⟩
    .omega
    .exact ⟨r2,t,(q hw).2,rfl⟩
  .refine ⟨V3 p (l++r),k,D,a,c++r,p,l++r,hz,by rw [ng,el,List.append_assoc],?_,rfl,⟨D,hp⟩,hof,.inl ⟨rfl,hout⟩,rfl,λ_=>hmid.len,λhw=>?_,λhw=>?_,λhw=>?_,λhw=>?_⟩
   .rw [hg0,if_neg (λq=>by have:=q.2;rw [el] at this;simp at this;omega),Lc]
   .rcases L.how with ⟨_,_,_,q,_⟩ | ⟨q,_⟩
    .exact q hw
    .omega
   .rcases L.how with ⟨_,_,_,_,q⟩ | ⟨q,_⟩
    .have:=q hw;rw [eb] at this;simp at this
    .omega
   .rcases L.how with ⟨q,_⟩ | ⟨_,_,l2,r2,e2,q,_⟩
    .omega
    .exact ⟨l2,t,(q hw).1,rfl⟩
   .rcases L.how with ⟨q,_⟩ | ⟨_,_,l2,r2,e2,_,q⟩
    .omega
    .have q1:=(q hw).2;rw [eb] at q1;cases c with
     | nil=>
      simp only [List.nil_append,List.cons.injEq] at q1;exact absurd q1.1.symm (tne t rfl)
     | cons y c=>
      simp only [List.cons_append,List.cons.injEq] at q1;exact ⟨c++r,t,by rw [q1.1];rfl,rfl⟩
 .have hz:∃ z E,At z dd (D (V3 p (l++r))) E/\V8 z=V8 p2/\z.Kids.map V8=p2.Kids.map V8:=by
   rcases hp.two (l++r) L.here with ⟨k0,h1,h2,h3⟩ | ⟨z',E',h1,h2,h3⟩
   .have:k0∈l++r:=by
     rw [ek] at h1;rcases List.mem_append.1 h1 with h1 | h1
     .exact List.mem_append.2 (.inl h1)
     rcases List.mem_cons.1 h1 with rfl | h1
     .exact absurd h2 hp2x
     .exact List.mem_append.2 (.inr h1)
    obtain ⟨E',hE⟩:=h3 this;exact ⟨p2,E',hE,rfl,rfl⟩
   .rcases h3 with ⟨e1,_⟩ | h3
    .exact absurd (by rw [e1]) hpp
    .exact ⟨z',E',h1,h2,h3⟩
  obtain ⟨z,E,hz1,hz2,hz3⟩:=hz;have hzl:z.Kids.length=p2.Kids.length:=by have:=congrArg List.length hz3;simpa using this
  have hal:a.length<=z.Kids.length:=by rw [hzl,L.kids];simp
  have hzid:z.Id=p2.Id:=Lg hz2;have hta:(z.Kids.take a.length).map aa.Id=a.map aa.Id:=by
   have:=H9 hz3;rw [List.map_take,this,L.kids,List.map_append,List.take_left'];simp
  have hdb:(z.Kids.drop a.length).map aa.Id=b.map aa.Id:=by
   have:=H9 hz3;rw [List.map_drop,this,L.kids,List.map_append,List.drop_left'];simp
  refine ⟨z,dd,E,z.Kids.take a.length,z.Kids.drop a.length,p2,p2.Kids,hz1,(List.take_append_drop _ _).symm,?_,hz2,⟨_,L.here⟩,hof,.inr ⟨hpp,rfl⟩,(PK hz3).symm,λq=>absurd q hpp,λhw=>?_,λhw=>?_,λhw=>?_,λhw=>?_⟩
  .rw [hg0,if_neg (λq=>hpp q.1.symm),hzid,PP _ _ hal]
  .rcases L.how with ⟨_,_,_,q,_⟩ | ⟨q,_⟩
   .rw [q hw];rfl
   .omega
  .rcases L.how with ⟨_,_,_,_,q⟩ | ⟨q,_⟩
   .have:=congrArg List.length hdb;rw [q hw] at this;exact List.eq_nil_of_length_eq_zero (by simpa using this)
   .omega
  .rcases L.how with ⟨q,_⟩ | ⟨_,_,l2,r2,e2,q,_⟩
   .omega
   .rw [(q hw).1,List.map_append] at hta;obtain ⟨c,c2,e3,e4,e5⟩:=List.map_eq_append_iff.1 hta;cases c2 with
    | nil=>simp at e5
    | cons t' c2=>
     simp only [List.map_cons,List.map_nil,List.cons.injEq,List.map_eq_nil_iff] at e5;rw [(q hw).1,e3,e5.2];exact ⟨c,t',rfl,e5.1⟩
  .rcases L.how with ⟨q,_⟩ | ⟨_,_,l2,r2,e2,_,q⟩
   .omega
   .rw [(q hw).2] at hdb;cases hd:z.Kids.drop a.length with
    | nil=>rw [hd] at hdb;simp at hdb
    | cons t' c=>
     rw [hd] at hdb;simp only [List.map_cons,List.cons.injEq] at hdb;exact ⟨c,t',rfl,hdb.1⟩
theorem Lr{z t:aa}{a b:List aa}(hn:((a++b).map aa.Id).Nodup){c c2:List aa}{t':aa}(e:a++b=c++t' :: c2)(ht:t'.Id=t.Id):To (λn=>M.yE n (a++b) t.Id) (c.length:Int):=by
 rw [e,<-ht];refine rat c t' c2 λk hk he=>?_;rw [e,List.map_append,List.map_cons] at hn;exact (List.nodup_append.1 hn).2.2 k.Id (List.mem_map.2 ⟨k,hk,rfl⟩) t'.Id (by simp) he
theorem Td{u:aa}(h:(ids u).Nodup):(u.Kids.map aa.Id).Nodup:=by
 rw [rf,List.nodup_cons] at h;have:∀ l:List aa,(l.flatMap ids).Nodup->(l.map aa.Id).Nodup:=by
  intro l;induction l with
  | nil=>intro _;simp
  | cons k l ih=>
   intro h;rw [List.flatMap_cons,List.nodup_append] at h;rw [List.map_cons,List.nodup_cons];refine ⟨λhm=>?_,ih h.2.1⟩;obtain ⟨y,hy,he⟩:=List.mem_map.1 hm;exact h.2.2 k.Id (nV k) k.Id (List.mem_flatMap.2 ⟨y,hy,he▸nV y⟩) rfl
 exact this _ h.2
theorem Na{u:aa}{d:ak}(h:Aim u d)(hk:d.It.Kind=6):Step u d:=by
 have hd:nL d.It.Kind (λn s0 s1 s2=>M.jo n s0 s1 s2):=hk▸XD;refine h.cases hd (by omega) λx k C hC ho hne=>?_;obtain ⟨p,l,r,D,ek,hp,_⟩:=hC.up;have h1:=h.one d.It.At;have h2:=h.oneR d.It.At h.few.atL;have h3:=h.oneR d.It.To h.few.toL;rw [ho] at h1 h2;have hn:=h.ok.nice;have hfx:=qc hn hC;obtain ⟨⟨w0,w3⟩,_⟩:=h.facts.k6 hk;have hget:=get_at hC h.ok.nd (by have:=h.lim hC;omega);have hdest:=h.ok.dest d.It;have hapd:∀ {r:aa×Int},To (λn=>M.jo n u x d) r->To (λn=>M.dS n u d) r:=λhr=>Bb hd h.facts.valid h1 hfx (.inl hne) hr;have hdo:∀ {r:aa×Int},To (λn=>M.ma n u x.Id d) r->To (λn=>M.nJ n u d) r:=λhr=>by
  simp only [M.nJ];exact To.bind (rW (u:=u) h.facts.kind h.may) (To.neg (by simp) (To.bind h2 (To.neg (by simp) (To.neg (by omega) (To.pos hk (To.bind hr To.pure))))))
 have hde:WF u d.It=if (oneOf ((units u d.It.To).map aa.Id)).2≠0 then (aO,0,(oneOf ((units u d.It.To).map aa.Id)).2) else V9 u x.Id (oneOf ((units u d.It.To).map aa.Id)).1 d.It.Where:=by
  unfold WF;rw [if_neg (by omega),if_neg (by omega),ho];simp
 by_cases he:(oneOf ((units u d.It.To).map aa.Id)).2=0
 case neg=>
  rw [hde,if_pos he] at hdest;refine .inr ⟨_,_,he,he,hapd ?_,hdo ?_⟩
  .simp only [M.jo];exact To.bind hdest (To.pos he To.pure)
  .simp only [M.ma];exact To.bind h3 (To.pos he To.pure)
 obtain ⟨t,htm,hti⟩:=yR u d.It.To he;have hot:oneOf ((units u d.It.To).map aa.Id)=(t.Id,0):=Prod.ext hti.symm he;obtain ⟨e,E,ht⟩:=At.Af htm;rw [hde,if_neg (by rw [he];simp),hot] at hdest;rw [hot] at h3;have hbes:To (λ_:Nat=>if d.It.Where=(2:Int) then some true else some (decide (d.It.Where=(3:Int)))) (decide (d.It.Where=2\/d.It.Where=3)):=To.ite (λa=>To.pure.of (by simp [a])) λa=>To.pure.of (by simp [a]);have hnx:=hn.sub hC;have hlimC:=h.lim hC;have hlimT:=h.lim ht;have hlimP:=h.lim hp
 -- errors of both
 have bad9:∀ {g1:aa×Int},V9 u x.Id t.Id d.It.Where=(aO,0,9)->To (λn=>M.jh n x t.Id) g1->
   To (λn:Nat=>if x.Id=u.Id then some true else if decide (d.It.Where=2\/d.It.Where=3)=true then if t.Id=u.Id then some true else if (0:Int)< g1.2 then some true else if g1.2=(0:Int) then some (!decide (d.It.Where=2\/d.It.Where=3)) else some false else if (0:Int)< g1.2 then some true else if g1.2=(0:Int) then some (!decide (d.It.Where=2\/d.It.Where=3)) else some false) true->Step u d:=λhgo hg1 hc=>by
  rw [hgo] at hdest;refine .inr ⟨9,9,by decide,by decide,hapd ?_,hdo ?_⟩
  .simp only [M.jo];exact To.bind hdest (To.pos (by decide) To.pure)
  .simp only [M.ma];exact To.bind h3 (To.neg (by simp) (To.bind hbes (To.bind hget (To.bind hg1 (To.bind hc (To.pos rfl To.pure))))))
 have hins:V6 u x.Id t.Id=(Wh t.Id x).isSome:=by
  unfold V6 findR;rw [hC.findE h.ok.nd]
 have hux:u.Id≠x.Id:=λe=>hne e.symm;have hmid:=h.ok.mid hp ek;have hr:=h.ok.del hp ek;have hpar:=J6 hn hp ek;have hwo:=WH hn hp ek;have hrp:=vT hp h.ok.nd ek (by omega);have hsx:smT x:=hnx.oks.sm hnx.few;have hdx:k+1+dp x<=8:=by have:=hC.dpO;have:=h.ok.hdp;omega
 have hout:M.qM p.Kids ((l.length:Nat):Int)=some (l++r):=by rw [ek];exact Xv l r x (by have:=hmid.len;omega)
 have hrd:=Xh x hnx.few;by_cases htx:t.Id∈ids x
 .by_cases hxt:t.Id=x.Id
  . -- onto itself
   have hg1:To (λn=>M.jh n x t.Id) (x,0):=by rw [hxt];exact get_at (d:=0) .here hnx.nd (Nat.zero_le _)
   by_cases hw:d.It.Where=2\/d.It.Where=3
   case neg=>
    refine bad9 ?_ hg1 ?_
    .unfold V9;rw [if_pos (.inr (.inr ⟨hxt,by omega⟩))]
    .exact To.neg hne (To.neg (by rw [decide_eq_true_eq];exact hw) (To.neg (by simp) (To.pos rfl (To.pure.of (by simp [hw])))))
   have hgo:V9 u x.Id t.Id d.It.Where=(p.Id,((l.length:Nat):Int),0):=by
    unfold V9;rw [if_neg (by simp [hux,hxt];omega),if_pos hxt,hp.parE h.ok.nd ek]
   rw [hgo] at hdest;have hz:=hp.re (V3 p (l++r));have hfp:To (λn=>M.j6 n (D (V3 p (l++r))) p.Id) (V3 p (l++r),true):=qc (p:=V3 p (l++r)) hr.nice hz;have hdeep:To (λn=>M.lC n (D (V3 p (l++r))) p.Id x) (decide (8<k+1+dp x)):=FB (p:=V3 p (l++r)) hr.nice hz hsx (by omega);have hpu:D (V3 p (l++x :: r))=u:=hp.ins ek;have hei:=WG (x:=x) hr.nice hz (a:=l) (b:=r) rfl;rw [CR,hpu] at hei;have ha:To (λn=>M.dS n u d) (u,0):=hapd<|by
    simp only [M.jo];refine To.bind hdest<|To.neg (by simp)<|To.bind hpar<|To.bind hwo<|To.bind hfp<|To.bind ((uf (V3 p (l++r)) x hmid.nest).of (if_neg hmid.key))<|To.neg (by simp)<|To.bind (a:=false) (To.neg (by simp) (To.bind hdeep (To.pure.of (by rw [decide_eq_false_iff_not];omega))))<|To.neg (by simp) ?_;exact To.bind hei To.pure
   refine .inl ⟨u,ha,hdo ?_,h.ok⟩;simp only [M.ma];have hgt:To (λn=>M.jh n u t.Id) (x,((k+1:Nat):Int)):=by rw [hxt];exact hget
   have hpt:To (λn=>M.gy n u t.Id) (p,(k:Int),((l.length:Nat):Int)):=by rw [hxt];exact hrp
   have hrt:=(Wy (l++r) x.Kind x.Label).of (decide_eq_false hmid.key);have hln:=hmid.len;refine To.bind h3<|To.neg (by simp)<|To.bind hbes<|To.bind hget<|To.bind hg1<|To.bind (a:=false) (To.neg hne (To.pos (decide_eq_true hw) (To.neg (λq=>hne (hxt.symm.trans q)) (To.neg (by simp) (To.pos rfl (To.pure.of (by simp [hw])))))))<|To.neg (by simp)<|To.bind hgt<|To.bind (a:=((k:Int),p)) (To.pos (decide_eq_true hw) (To.bind hpt To.pure))<|To.bindS (rV _ _)<|To.neg (by simp [hmid.nest])<|To.bind hrp ?_;refine To.bind (a:=l++r) (To.pos rfl (To.bindS hout To.pure))<|To.bind hrt<|To.neg (by simp)<|To.bind (a:=false) (To.neg (by omega) (To.bindS (nk k (by omega)) (To.bind hrd (To.bindS (fD _ _ (by omega)) (To.pure.of (by rw [decide_eq_false_iff_not];omega))))))<|To.neg (by simp)<|To.pos hxt To.pure
  . -- into itself
   obtain ⟨y,hy,hyi⟩:=uC.1 htx;obtain ⟨f,F,hF⟩:=At.Af hy;have hf0:f≠0:=λh0=>by
    subst h0;obtain ⟨rfl,_⟩:=hF.zero;exact hxt hyi.symm
   have hg1:To (λn=>M.jh n x t.Id) (y,(f:Int)):=by rw [<-hyi];exact get_at hF hnx.nd (by have:=hF.dpO;omega)
   have htu:t.Id≠u.Id:=λq=>by
    have h7:=hC.ne h.ok.nd;have:t.Id∈ids x:=htx;cases hC with
    | kid e0 hs0=>
     obtain ⟨A,B,hAB⟩:=hs0.idL;have hq:=hAB x;rw [hs0.plug] at hq;exact (nW e0 h.ok.nd (i:=t.Id) (by rw [hq];simp [htx])).1 q.symm
   refine bad9 ?_ hg1 ?_
   .unfold V9;have:V6 u x.Id t.Id=true:=by
     rw [hins];cases hfo:Wh t.Id x with
     | some _=>rfl
     | none=>
      have:=hF.findE hnx.nd;rw [hyi,hfo] at this;cases this
    rw [if_pos (.inr (.inl ⟨this,hxt⟩))]
   .refine To.neg hne (To.ite (λ_=>To.neg htu (To.pos (by simp;omega) To.pure)) λ_=>To.pos (by simp;omega) To.pure)
 . -- elsewhere
  have hxt:¬ t.Id=x.Id:=λq=>htx (q▸nV x);have hg1:=J8 t.Id x htx;rcases Tc h.ok hp ek ht w0 w3 htx with ⟨hw,htr,hgo⟩ | ⟨z,dd,F,a,b,p2,K,G⟩
  .exact bad9 hgo hg1 (To.neg hne (To.pos (decide_eq_true hw) (To.pos htr To.pure)))
  rw [G.dest] at hdest;have hzr:=G.here;have hfz:=qc hr.nice hzr;have hzk:z.Kind=p2.Kind:=M3 G.bare;have hzi:z.Id=p2.Id:=Lg G.bare;have hdd:dd<=8:=by have:=hzr.dpO;have:=hr.hdp;omega
  have hdeep:=FB hr.nice hzr hsx (by omega);obtain ⟨D2,hp2⟩:=G.at2;have hgt:=get_at ht h.ok.nd (by omega);have hcond:To (λn:Nat=>if x.Id=u.Id then some true else if decide (d.It.Where=2\/d.It.Where=3)=true then if t.Id=u.Id then some true else if (0:Int)< (-1:Int) then some true else if (-1:Int)=(0:Int) then some (!decide (d.It.Where=2\/d.It.Where=3)) else some false else if (0:Int)< (-1:Int) then some true else if (-1:Int)=(0:Int) then some (!decide (d.It.Where=2\/d.It.Where=3)) else some false) false:=by
   refine To.neg hne (To.ite (λq=>?_) λ_=>To.neg (by decide) (To.neg (by decide) To.pure));have q:=of_decide_eq_true q;rcases G.of with ⟨q2,_⟩ | ⟨_,q3,_⟩
   .omega
   .exact To.neg q3 (To.neg (by decide) (To.neg (by decide) To.pure))
  have hdp2:To (λn=>if decide (d.It.Where=2\/d.It.Where=3)=true then Option.bind (M.gy n u t.Id) λparent=>some (parent.2.1,parent.1) else some ((e:Int),t)) ((dd:Int),p2):=by
   rcases G.of with ⟨q1,rfl⟩ | ⟨q1,q2,l2,r2,e2⟩
   .refine To.neg (by rw [decide_eq_true_eq];omega) (To.pure.of ?_);rw [hp2.uniq h.ok.nd ht]
   .exact To.pos (decide_eq_true q1) (To.bind (vT hp2 h.ok.nd e2 (by omega)) To.pure)
  have hkids:To (λn:Nat=>if p.Id=p2.Id then Option.bind (M.qM p2.Kids ((l.length:Nat):Int)) λout=>some out else some p2.Kids) K:=by
   rcases G.kk with ⟨q1,q2⟩ | ⟨q1,rfl⟩
   .exact To.pos q1 (To.bindS q2 To.pure)
   .exact To.neg q1 To.pure
  have hKl:K.length=z.Kids.length:=by have:=congrArg List.length G.keys;simpa using this
  have hrt:=Wy K x.Kind x.Label;rw [G.keys] at hrt;have bad:∀ v:Int,v≠0->To (λn=>M.jo n u x d) (u,v)->To (λn=>M.ma n u x.Id d) (u,v)->Step u d:=λv hv q1 q2=>.inr ⟨v,v,hv,hv,hapd q1,hdo q2⟩;by_cases hnest:nestB z.Kind x.Kind=true
  case neg=>
   have hnest:nestB z.Kind x.Kind=false:=by simpa using hnest
   refine bad 9 (by decide) ?_ ?_
   .simp only [M.jo];exact To.bind hdest<|To.neg (by simp)<|To.bind hpar<|To.bind hwo<|To.bind hfz<|To.bind (Iq z x hnest)<|To.pos (by decide) To.pure
   .simp only [M.ma];exact To.bind h3<|To.neg (by simp)<|To.bind hbes<|To.bind hget<|To.bind hg1<|To.bind hcond<|To.neg (by simp)<|To.bind hgt<|To.bind hdp2<|To.bindS (rV _ _)<|To.pos (by rw [<-hzk];exact hnest) To.pure
  have hnest2:¬ nestB p2.Kind x.Kind=false:=by rw [<-hzk,hnest];simp
  by_cases hkey:keyU x∈z.Kids.map keyU
  .refine bad 10 (by decide) ?_ ?_
   .simp only [M.jo];exact To.bind hdest<|To.neg (by simp)<|To.bind hpar<|To.bind hwo<|To.bind hfz<|To.bind ((uf z x hnest).of (if_pos hkey))<|To.pos (by decide) To.pure
   .simp only [M.ma];exact To.bind h3<|To.neg (by simp)<|To.bind hbes<|To.bind hget<|To.bind hg1<|To.bind hcond<|To.neg (by simp)<|To.bind hgt<|To.bind hdp2<|To.bindS (rV _ _)<|To.neg hnest2<|To.bind hrp<|To.bind hkids<|To.bind (hrt.of (decide_eq_true hkey))<|To.pos rfl To.pure
  -- full or not, by both
  have hfull:To (λn=>if z.Id≠p.Id then if (64:Int)<=(z.Kids.length:Int) then some true else Option.bind (M.lC n (D (V3 p (l++r))) z.Id x) λdeep=>some deep else Option.bind (M.lC n (D (V3 p (l++r))) z.Id x) λdeep1=>some deep1) (decide (64<=z.Kids.length) || decide (8<dd+1+dp x)):=by
   by_cases hzp:z.Id=p.Id
   .have:=G.same (hzp.symm.trans hzi);refine To.neg (by simpa using hzp) (To.bind hdeep (To.pure.of ?_));rw [decide_eq_false (p:=64<=z.Kids.length) (by omega)];rfl
   .refine To.pos hzp (To.ite (λq=>To.pure.of ?_) λq=>To.bind hdeep (To.pure.of ?_))
    .rw [decide_eq_true (p:=64<=z.Kids.length) (by omega)];rfl
    .rw [decide_eq_false (p:=64<=z.Kids.length) (by omega)];rfl
  have hfullr:To (λn=>if (64:Int)<=(K.length:Int) then some true else Option.bind (addC (dd:Int) (1:Int)) λv2=>Option.bind (M.o5 n x) λdeep1=>Option.bind (addC v2 deep1) λv3=>some (decide ((8:Int)< v3))) (decide (64<=z.Kids.length) || decide (8<dd+1+dp x)):=by
   refine To.ite (λq=>To.pure.of ?_) λq=>To.bindS (nk dd (by omega)) (To.bind hrd (To.bindS (fD _ _ (by omega)) (To.pure.of ?_)))
   .rw [decide_eq_true (p:=64<=z.Kids.length) (by omega)];rfl
   .rw [decide_eq_false (p:=64<=z.Kids.length) (by omega),Bool.false_or,decide_eq_decide];omega
  by_cases hf:(decide (64<=z.Kids.length) || decide (8<dd+1+dp x))=true
  .refine bad 6 (by decide) ?_ ?_
   .simp only [M.jo];exact To.bind hdest<|To.neg (by simp)<|To.bind hpar<|To.bind hwo<|To.bind hfz<|To.bind ((uf z x hnest).of (if_neg hkey))<|To.neg (by simp)<|To.bind hfull<|To.pos hf To.pure
   .simp only [M.ma];exact To.bind h3<|To.neg (by simp)<|To.bind hbes<|To.bind hget<|To.bind hg1<|To.bind hcond<|To.neg (by simp)<|To.bind hgt<|To.bind hdp2<|To.bindS (rV _ _)<|To.neg hnest2<|To.bind hrp<|To.bind hkids<|To.bind (hrt.of (decide_eq_false hkey))<|To.neg (by simp)<|To.bind hfullr<|To.pos hf To.pure
  have hf2:=hf;simp only [Bool.or_eq_true,decide_eq_true_eq,not_or] at hf2;obtain ⟨hf3,hf4⟩:=hf2;have hper:=xh (x:=x) hp l r;rw [hp.ins ek] at hper;have hcn:=hper.length_eq;rw [List.length_append,<-nK,<-nK,<-nK] at hcn;have hndp:=hper.nodup_iff.1 h.ok.nd;have hcu:=h.ok.hcnt;have hv:=hr.ins hzr G.kids hnx.oks hnest hkey (by omega) (by omega) (by omega) hnx.nd (λi hi hj=>(List.nodup_append.1 hndp).2.2 i hi i hj rfl);have ha:To (λn=>M.dS n u d) (F (V3 z (a++x :: b)),0):=hapd<|by
   simp only [M.jo];refine To.bind hdest<|To.neg (by simp)<|To.bind hpar<|To.bind hwo<|To.bind hfz<|To.bind ((uf z x hnest).of (if_neg hkey))<|To.neg (by simp)<|To.bind hfull<|To.neg hf ?_;exact To.bind (WG hr.nice hzr G.kids) To.pure
  refine .inl ⟨F (V3 z (a++x :: b)),ha,hdo ?_,hv⟩;have hwith:To (λn=>M.kV n u (V3 p (l++r))) (D (V3 p (l++r))):=vU (y:=V3 p (l++r)) hn hp rfl;have hgz:To (λn=>M.jh n (D (V3 p (l++r))) p2.Id) (z,(dd:Int)):=by rw [<-hzi];exact get_at hzr hr.nd (by omega)
  have hk0:To (λ_:Nat=>if d.It.Where=(0:Int) then some (0:Int) else some (z.Kids.length:Int)) (if d.It.Where=0 then 0 else (z.Kids.length:Int)):=To.ite (λa=>To.pure.of (if_pos a).symm) λa=>To.pure.of (if_neg a).symm;have hznd:=Td (hr.nice.sub hzr).nd;rw [G.kids] at hznd;have hal:a.length<=64:=by have:=congrArg List.length G.kids;rw [List.length_append] at this;omega
  have hpos:To (λn=>if decide (d.It.Where=2\/d.It.Where=3)=true then Option.bind (M.yE n z.Kids t.Id) λat0_=>if d.It.Where=(2:Int) then Option.bind (addC at0_ (1:Int)) λv4=>some v4 else some at0_ else some (if d.It.Where=0 then 0 else (z.Kids.length:Int))) ((a.length:Nat):Int):=by
   by_cases hw:d.It.Where=2\/d.It.Where=3
   .refine To.pos (decide_eq_true hw) ?_;rcases hw with hw | hw
    .obtain ⟨c,t',e1,e2⟩:=G.after hw;have:=Lr (z:=z) (t:=t) hznd (c:=c) (c2:=b) (t':=t') (by rw [e1];simp) e2;rw [<-G.kids] at this;rw [e1] at hal;simp only [List.length_append,List.length_singleton] at hal;exact To.bind this (To.pos hw (To.bindS (nk _ (by omega)) (To.pure.of (by rw [e1];simp))))
    .obtain ⟨c,t',e1,e2⟩:=G.ahead hw;have:=Lr (z:=z) (t:=t) hznd (c:=a) (c2:=c) (t':=t') (by rw [e1]) e2;rw [<-G.kids] at this;exact To.bind this (To.neg (by omega) To.pure)
   .refine To.neg (by rw [decide_eq_true_eq];exact hw) (To.pure.of ?_);by_cases hw0:d.It.Where=0
    .rw [if_pos hw0,G.first hw0];rfl
    .rw [if_neg hw0,G.kids,G.last (by omega),List.append_nil]
  have hrin:M.vH z.Kids ((a.length:Nat):Int) x=some (a++x :: b):=by rw [G.kids];exact rin a b x (by rw [<-G.kids];omega)
  have hw2:To (λn=>M.kV n (D (V3 p (l++r))) (V3 z (a++x :: b))) (F (V3 z (a++x :: b))):=vU (y:=V3 z (a++x :: b)) hr.nice hzr rfl;simp only [M.ma];exact To.bind h3<|To.neg (by simp)<|To.bind hbes<|To.bind hget<|To.bind hg1<|To.bind hcond<|To.neg (by simp)<|To.bind hgt<|To.bind hdp2<|To.bindS (rV _ _)<|To.neg hnest2<|To.bind hrp<|To.bind hkids<|To.bind (hrt.of (decide_eq_false hkey))<|To.neg (by simp)<|To.bind hfullr<|To.neg hf<|To.neg hxt<|To.bindS hout<|To.bind hwith<|To.bind hgz<|To.bind hk0<|To.bind hpos<|To.bindS hrin<|To.bind hw2 To.pure
theorem step{u:aa}{d:ak}(h:Aim u d):Step u d:=by
 have hk:=h.facts.kind;have hcase:d.It.Kind=0\/d.It.Kind=1\/d.It.Kind=2\/d.It.Kind=3\/d.It.Kind=4\/d.It.Kind=5\/d.It.Kind=6:=by omega
 rcases hcase with hk | hk | hk | hk | hk | hk | hk
 .exact Iu h hk
 .exact Ip h hk
 .exact Fy h hk
 .exact P9 h hk
 .exact Fz h hk
 .exact step_label h hk
 .exact Na h hk
theorem Chk.tot{f:Nat->Option Bool}{P:Prop}(h:Chk f P):Tot f:=let ⟨b,h1,_⟩:=h;⟨b,h1⟩
theorem zK{α β:Type}{f:Nat->Option α}{g:Nat->α->Option β}{a:α}(h:To f a)(k:Tot (λn=>g n a)):Tot (λn=>Option.bind (f n) (g n)):=k.imp λ_ hr=>To.bind h hr
theorem Qb(a:ag):∀ b,Tot (λn=>M.nO n a b):=by
 refine Xw (P:=λa=>∀ b,Tot (λn=>M.nO n a b)) ?_ a;intro a ih b;have loop:∀ (xs:List ag) (slf:Nat->ag->ag->Option Bool) (i:Nat),a.By.drop i=xs->a.By.length=b.By.length->(∀ x∈xs,∀ y,Tot (λn=>slf n x y))->Tot (λn=>M.gH a b (slf n) n (i:Int)):=by
  intro xs;induction xs with
  | nil=>intro slf i hx _ _;refine Tot.succ ?_;simp only [M.gH];exact Tot.neg (aM hx) Tot.pure
  | cons x xs ih=>
   intro slf i hx hl hs;have hn:=ih (λn=>slf (n+1)) (i+1) (aC hx) hl (λy hy z=>(hs y (by simp [hy]) z).shift);obtain ⟨z,hz,_⟩:=pW (l:=b.By) (i:=(i:Int)) (by omega) (by have:=aD hx;omega);refine Tot.succ ?_;simp only [M.gH];rw [aP];exact Tot.pos (aD hx) (Tot.bindS (ax hx) (Tot.bindS hz (Tot.bind (hs x (by simp) z).shift λ_ _=>Tot.ite (λ_=>Tot.pure) λ_=>hn)))
 refine Tot.succ ?_;simp only [M.nO];refine Tot.bind ?_ λv _=>Tot.ite (λ_=>Tot.pure) λ_=>?_
 .repeat' (first | exact Tot.pure | refine Tot.ite (λ_=>?_) λ_=>?_)
 .obtain ⟨c,h1,h2⟩:=show Nchk _ (a.By.length=b.By.length) from Nchk.or0 (xQ a.At b.At) λ_=>Nchk.or0 (xQ a.To b.To) λ_=>Nchk.or0 (zH a.Old b.Old) λ_=>Nchk.or0 (zH a.New b.New) λ_=>Nchk.or0 (Ai a.Unit b.Unit) λ_=>Nchk.pure (b:=decide ((a.By.length:Int)≠(b.By.length:Int))) λe=>Int.ofNat.inj (by simpa using e);refine zK h1 ?_;cases c with
  | true=>exact Tot.pos rfl Tot.pure
  | false=>
   refine Tot.neg (by simp) (Tot.bind (loop a.By (λn=>M.nO n) 0 rfl (h2 rfl) λx hx y=>ih x hx y) λr _=>?_);cases r<;> exact Tot.pure
theorem Qc(x:ag):Tot (λ_:Nat=>M.lZ x):=by
 unfold M.lZ
 repeat' (first | exact Tot.pure | refine Tot.ite (λ_=>?_) λ_=>?_ | refine Tot.bind ?_ λ_ _=>?_)
theorem Te(x:ag):Chk (λn=>M.uu n x) (FewP x/\ ∀ y∈x.By,FewP y):=by
 refine Xw (P:=λx=>Chk (λn=>M.uu n x) (FewP x/\ ∀ y∈x.By,FewP y)) ?_ x;intro x ih;have l5:∀ (xs:List ag) (slf:Nat->ag->Option Bool) (i:Nat),x.By.drop i=xs->(∀ k,k∈xs->Chk (λn=>slf n k) (FewP k))->∃ r,To (λn=>M.fQ x (slf n) n (i:Int)) r/\(r= .inr false\/r= .inl ()/\ ∀ k∈xs,FewP k):=by
  intro xs;induction xs with
  | nil=>intro slf i hx _;exact ⟨.inl (),To.succ (by simp only [M.fQ];exact To.neg (aM hx) To.pure),.inr ⟨rfl,λk hk=>by cases hk⟩⟩
  | cons y xs ih=>
   intro slf i hx hs;obtain ⟨r,hr,hrP⟩:=ih (λn=>slf (n+1)) (i+1) (aC hx) (λk hk=>let ⟨b,h1,h2⟩:=hs k (by simp [hk]);⟨b,h1.shift,h2⟩);obtain ⟨b,hb,hbP⟩:=hs y (by simp);have tail:∃ r,To (λn=>Option.bind (slf (n+1) y) λfew=>if few=false then some (.inr false) else M.fQ x (slf (n+1)) n ((i+1:Nat):Int)) r/\(r= .inr false\/r= .inl ()/\ ∀ k∈y :: xs,FewP k):=by
    cases b with
    | false=>exact ⟨.inr false,To.bind hb.shift (To.pos rfl To.pure),.inl rfl⟩
    | true=>
     refine ⟨r,To.bind hb.shift (To.neg (by simp) hr),?_⟩;rcases hrP with h | ⟨h,h2⟩
     .exact .inl h
     .exact .inr ⟨h,λk hk=>(List.mem_cons.1 hk).elim (λe=>e▸hbP rfl) (h2 k)⟩
   obtain ⟨r',ht,htP⟩:=tail;by_cases h0:(0:Int)< (y.By.length:Int)
   .obtain ⟨z,hz,_⟩:=pW (l:=y.By) (i:=0) (by omega) h0;by_cases h1:(0:Int)< (z.By.length:Int)
    .refine ⟨.inr false,To.succ ?_,.inl rfl⟩;simp only [M.fQ];exact To.pos (aD hx) (To.bindS (ax hx) (To.pos h0 (To.bindS (ax hx) (To.bindS hz (To.pos h1 To.pure)))))
    .refine ⟨r',To.succ ?_,htP⟩;simp only [M.fQ];rw [aP];exact To.pos (aD hx) (To.bindS (ax hx) (To.pos h0 (To.bindS (ax hx) (To.bindS hz (To.neg h1 (To.bindS (ax hx) ht))))))
   .refine ⟨r',To.succ ?_,htP⟩;simp only [M.fQ];rw [aP];exact To.pos (aD hx) (To.bindS (ax hx) (To.neg h0 (To.bindS (ax hx) ht)))
 have hA:Nchk (λn=>if (12:Int)< (x.At.length:Int) then some true else if (12:Int)< (x.To.length:Int) then some true else if (300:Int)< (x.Old.length:Int) then some true else if (300:Int)< (x.New.length:Int) then some true else
   if (100:Int)< (x.Label.length:Int) then some true else if (100:Int)< (x.For.length:Int) then some true else if (100:Int)< (x.Start.Event.length:Int) then some true else if (100:Int)< (x.Event.length:Int) then some true else
   if (2:Int)< (x.By.length:Int) then some true else Option.bind (M.rZ n x.Unit (30:Int)) λfew=>some (!few)) (x.Label.length<=100/\cnt x.Unit<=30/\labs x.Unit):=
  Nchk.or λ_=>Nchk.or λ_=>Nchk.or λ_=>Nchk.or λ_=>Nchk.or λh=>Nchk.or λ_=>Nchk.or λ_=>Nchk.or λ_=>Nchk.or λ_=>Nchk.last (let ⟨b,h1,h2⟩:=Pq x.Unit 30 (by omega) (by omega);⟨b,h1,λe=>⟨by omega,by have:=(h2 e).1;omega,(h2 e).2⟩⟩)
 refine Chk.succ ?_;simp only [M.uu];refine Chk.wrong hA λ⟨q1,q2,q3⟩=>?_;rcases SI x _ 0 rfl with h1 | ⟨h1,_⟩
 .exact Chk.bind h1 Chk.ff
 rcases SK x _ 0 rfl with h2 | ⟨h2,_⟩
 .exact Chk.bind h1 (Chk.bind h2 Chk.ff)
 rcases SN x _ 0 rfl with h3 | ⟨h3,k3⟩
 .exact Chk.bind h1 (Chk.bind h2 (Chk.bind h3 Chk.ff))
 rcases SQ x _ 0 rfl with h4 | ⟨h4,k4⟩
 .exact Chk.bind h1 (Chk.bind h2 (Chk.bind h3 (Chk.bind h4 Chk.ff)))
 obtain ⟨c,hc,hcP⟩:=l5 x.By (λn=>M.uu n) 0 rfl (λk hk=>(ih k hk).imp λh=>h.1);refine Chk.bind h1 (Chk.bind h2 (Chk.bind h3 (Chk.bind h4 (Chk.bind hc ?_))));rcases hcP with rfl | ⟨rfl,h5⟩
 .exact Chk.ff
 .exact Chk.pure λ_=>⟨⟨k3,k4,q1,q2,q3⟩,h5⟩
theorem Tf(x:ag)(hF:FewP x)(hB:∀ y∈x.By,FewP y):Chk (λn=>M.mq n x) (0<=x.Kind/\x.Kind<=6->CZ x):=by
 by_cases hk:0<=x.Kind/\x.Kind<=6
 .exact (Lm x hF hk).imp λh _=>h
 have ht:Tot (λn=>M.mq n x):=by
  refine Tot.succ ?_;simp only [M.mq];obtain ⟨b,h1,h2⟩:=qO x.Kind 0 11;refine zK h1 ?_;cases b with
  | false=>exact Tot.pos rfl Tot.pure
  | true=>
   have hr:=h2 rfl;refine Tot.neg (by simp) (Tot.bind (Qc x) λy _=>Tot.bind (Qb x y) λ_ _=>Tot.ite (λ_=>Tot.pure) λ_=>zK (a:=false) (To.neg (by omega) To.pure) (Tot.neg (by simp) ?_));refine Tot.neg (by omega) (Tot.neg (by omega) (Tot.neg (by omega) (Tot.neg (by omega) (Tot.neg (by omega) (Tot.neg (by omega) ?_)))));refine Tot.bind (by repeat' (first | exact Tot.pure | refine Tot.ite (λ_=>?_) λ_=>?_)) λ_ _=>Tot.ite (λ_=>?_) λ_=>Tot.ite (λ_=>?_) λ_=>Tot.ite (λ_=>?_) λ_=>Tot.pure
   .exact Tot.bind (qO _ _ _).tot λ_ _=>Tot.ite (λ_=>Tot.bind (qO _ _ _).tot λ_ _=>Tot.ite (λ_=>Tot.bind (qO _ _ _).tot λ_ _=>Tot.pure) λ_=>Tot.pure) λ_=>Tot.pure
   .exact Tot.bind (WO _).tot λ_ _=>Tot.ite (λ_=>Tot.bind (qO _ _ _).tot λ_ _=>Tot.pure) λ_=>Tot.pure
   .refine Tot.bind (qO _ _ _).tot λ_ _=>Tot.ite (λ_=>Tot.bind (qO _ _ _).tot λ_ _=>Tot.ite (λ_=>Tot.ite (λhl=>?_) λ_=>Tot.pure) λ_=>Tot.pure) λ_=>Tot.pure;obtain ⟨z,hz,hzm⟩:=pW (l:=x.By) (i:=0) (by omega) (by omega);obtain ⟨b,h1,h2⟩:=qO z.Kind 0 6;refine Tot.bindS hz (zK h1 ?_);cases b with
    | false=>exact Tot.neg (by simp) Tot.pure
    | true=>exact Tot.pos rfl (Tot.bindS hz (Tot.bind (Lm z (hB z hzm) (h2 rfl)).tot λ_ _=>Tot.pure))
 obtain ⟨b,hb⟩:=ht;exact ⟨b,hb,λ_ h=>absurd h hk⟩
def Fit(x:ag):Prop:=FewP x/\(0<=x.Kind/\x.Kind<=6->CZ x)/\To (λn=>M.mq n x) true
def deedsL(a:aS):Nat->List ag->List ak
 | _,[]=>[]
 | i,x :: xs=>⟨a.Number,(i:Int),a.Day,x⟩ :: deedsL a (i+1) xs
theorem Da(a:aS):∀ (i:Nat) (xs:List ag),(deedsL a i xs).length=xs.length
 | _,[]=>rfl
 | i,x :: xs=>by simp [deedsL,Da a (i+1) xs]
theorem Ey(a:aS):∀ (i:Nat) (xs:List ag) (d:ak),d∈deedsL a i xs->d.It∈xs
 | _,[],d,h=>by cases h
 | i,x :: xs,d,h=>by
  rcases List.mem_cons.1 h with rfl | h
  .simp
  .have:=Ey a (i+1) xs d h;simp [this]
theorem Nb(a:aS)(h:a.Items.length<=1000):To (λ_:Nat=>M.dJ a a.Items (0:Int) ([]:List ak)) (deedsL a 0 a.Items):=by
 have loop:∀ (xs:List ag) (i:Nat) (l:List ak),l.length+xs.length<=1000->M.dJ a xs (i:Int) l=some (l++deedsL a i xs):=by
  intro xs;induction xs with
  | nil=>intro i l _;simp [M.dJ,deedsL]
  | cons x xs ih=>
   intro i l hl;simp only [List.length_cons] at hl;simp only [M.dJ];rw [bu (by simp;omega),Option.bind_some,aP,ih (i+1) _ (by simp;omega)];simp [deedsL]
 exact To.opt (by have:=loop a.Items 0 [] (by simpa using h);simpa using this)
theorem Iw(a:aS)(h:a.Items.length<=1000):To (λn=>M.u6 n a) (deedsL a 0 a.Items):=by
 have loop:∀ (xs:List ag) (i:Nat) (l:List ak),a.Items.drop i=xs->l.length+xs.length<=1000->To (λn=>M.jd a n l (i:Int)) (l++deedsL a i xs):=by
  intro xs;induction xs with
  | nil=>intro i l hx _;refine To.succ ?_;simp only [M.jd];exact To.neg (aM hx) (To.pure.of (by simp [deedsL]))
  | cons x xs ih=>
   intro i l hx hl;simp only [List.length_cons] at hl;refine To.succ ?_;simp only [M.jd];refine To.pos (aD hx) (To.bindS (ax hx) (To.bindS (bu (by simp;omega)) ?_));rw [aP];exact (ih (i+1) _ (aC hx) (by simp;omega)).of (by simp [deedsL])
 simp only [M.u6];exact To.bind (loop a.Items 0 [] rfl (by simpa using h)) To.pure
theorem Kc:∀ (l:List ak) (u:aa),Ok u->(∀ d∈l,Fit d.It)->∃ v,Ok v/\(∀ ms:List iC,ms.length+l.length<=1000->∃ ms',To (λn=>M.cZ n l ms u) (ms',v))/\
  ∀ (all:List ak) (i:Nat),all.drop i=l->To (λn=>M.fM all n (i:Int) u) v:=by
 intro l;induction l with
 | nil=>
  intro u hu _;exact ⟨u,hu,λms _=>⟨ms,To.pure⟩,λall i hx=>To.succ (by simp only [M.fM];exact To.neg (aM hx) To.pure)⟩
 | cons d l ih=>
  intro u hu hl;obtain ⟨hF,hM,hT⟩:=hl d (by simp);have hl':∀ e∈l,Fit e.It:=λe he=>hl e (by simp [he]);by_cases hk:0<=d.It.Kind/\d.It.Kind<=6
  .have hc:To (λn=>M.qh n d) true:=by simp only [M.qh];exact To.bindS (P8 hk) (To.pos rfl (To.bind hT To.pure))
   rcases step ⟨hu,hF,hM hk,hT⟩ with ⟨v,a1,a2,a3⟩ | ⟨e,f,b1,b2,b3,b4⟩
   .obtain ⟨w,hw,h1,h2⟩:=ih v a3 hl';refine ⟨w,hw,λms hm=>?_,λall i hx=>To.succ ?_⟩
    .simp only [List.length_cons] at hm;obtain ⟨ms',h3⟩:=h1 ms (by omega);refine ⟨ms',?_⟩;simp only [M.cZ];exact To.bindS (C8 hk) (To.neg (by simp) (To.bind a1 (To.neg (by simp) h3)))
    .simp only [M.fM];rw [aP];exact To.pos (aD hx) (To.bindS (ax hx) (To.bind hc (To.pos rfl (To.bindS (ax hx) (To.bind a2 (h2 all (i+1) (aC hx)))))))
   .obtain ⟨w,hw,h1,h2⟩:=ih u hu hl';refine ⟨w,hw,λms hm=>?_,λall i hx=>To.succ ?_⟩
    .simp only [List.length_cons] at hm;obtain ⟨ms',h3⟩:=h1 (ms++ [⟨d.Act,d.Item,e⟩]) (by simp;omega);refine ⟨ms',?_⟩;simp only [M.cZ];exact To.bindS (C8 hk) (To.neg (by simp) (To.bind b3 (To.pos b1 (To.bindS (bu (by simp;omega)) h3))))
    .simp only [M.fM];rw [aP];exact To.pos (aD hx) (To.bindS (ax hx) (To.bind hc (To.pos rfl (To.bindS (ax hx) (To.bind b4 (h2 all (i+1) (aC hx)))))))
  .have ha:M.gJ d.It.Kind=some false:=by
    simp only [M.gJ];by_cases h0:(0:Int)<=d.It.Kind
    .rw [if_pos h0,decide_eq_false (by omega)]
    .rw [if_neg h0]
   have hc:M.nI d.It.Kind=some false:=by
    simp only [M.nI];by_cases h0:(0:Int)<=d.It.Kind
    .rw [if_pos h0,decide_eq_false (by omega)]
    .rw [if_neg h0]
   obtain ⟨w,hw,h1,h2⟩:=ih u hu hl';refine ⟨w,hw,λms hm=>?_,λall i hx=>To.succ ?_⟩
   .simp only [List.length_cons] at hm;obtain ⟨ms',h3⟩:=h1 ms (by omega);refine ⟨ms',?_⟩;simp only [M.cZ];exact To.bindS ha (To.pos rfl h3)
   .have hcc:To (λn=>M.qh n d) false:=by simp only [M.qh];exact To.bindS hc (To.neg (by simp) To.pure)
    simp only [M.fM];rw [aP];exact To.pos (aD hx) (To.bindS (ax hx) (To.bind hcc (To.neg (by simp) (h2 all (i+1) (aC hx)))))
theorem Qd(a:aS)(u:aa)(hu:Ok u)(h:a.Items.length<=1000)(hf:∀ x∈a.Items,Fit x):∃ v,Ok v/\(∃ ms,To (λn=>M.oZ n u a) (v,ms))/\To (λn=>M.zm n u a) v:=by
 obtain ⟨v,hv,h1,h2⟩:=Kc (deedsL a 0 a.Items) u hu λd hd=>hf _ (Ey a 0 _ d hd);obtain ⟨ms,h3⟩:=h1 [] (by rw [Da];simpa using h);refine ⟨v,hv,⟨ms,?_⟩,?_⟩
 .simp only [M.oZ,M.qL];exact To.bind (Nb a h) (To.bind (To.bind h3 To.pure) To.pure)
 .simp only [M.zm,M.zl];exact To.bind (Iw a h) (To.bind (To.bind (h2 _ 0 rfl) To.pure) To.pure)
set_option maxRecDepth 100000
def giv:Nat->List Int
 | 0=>[]
 | 1=>[0]
 | 2=>[0,1]
 | 3=>[0,1,2]
 | 4=>[0,1,2,3]
 | _=>[]
def allR:Nat->List (List Int)
 | 0=>[[]]
 | 1=>[[0]]
 | 2=>[[0,1],[1,0]]
 | 3=>[[0,1,2],[0,2,1],[1,0,2],[1,2,0],[2,0,1],[2,1,0]]
 | 4=>[[0,1,2,3],[0,1,3,2],[0,2,1,3],[0,2,3,1],[0,3,1,2],[0,3,2,1],[1,0,2,3],[1,0,3,2],[1,2,0,3],[1,2,3,0],[1,3,0,2],[1,3,2,0],
   [2,0,1,3],[2,0,3,1],[2,1,0,3],[2,1,3,0],[2,3,0,1],[2,3,1,0],[3,0,1,2],[3,0,2,1],[3,1,0,2],[3,1,2,0],[3,2,0,1],[3,2,1,0]]
 | _=>[]
theorem five{N:Nat}(h:N<=4):N=0\/N=1\/N=2\/N=3\/N=4:=by omega
theorem Iy{N:Nat}(h:N<=4):To (λn=>M.mH n (N:Int)) (giv N):=by
 rcases five h with rfl | rfl | rfl | rfl | rfl<;> exact To.far 10 λm=>by kernel_rfl
theorem Nc{N:Nat}(h:N<=4):To (λn=>M.oH n (N:Int)) (allR N):=by
 rcases five h with rfl | rfl | rfl | rfl | rfl<;> exact To.far 40 λm=>by kernel_rfl
theorem Db{N:Nat}(h:N<=4):∃ r,allR N=giv N :: r:=by rcases five h with rfl | rfl | rfl | rfl | rfl<;> exact ⟨_,rfl⟩
theorem FD{N:Nat}(h:N<=4):(allR N).length<=24:=by rcases five h with rfl | rfl | rfl | rfl | rfl<;> decide
theorem all_in{N:Nat}(h:N<=4):∀ row∈allR N,∀ i∈row,0<=i/\i<(N:Int):=by rcases five h with rfl | rfl | rfl | rfl | rfl<;> decide
theorem Tg{N:Nat}(h:N<=4):To (λn=>M.l6 n (giv N) (giv N)) true:=by
 rcases five h with rfl | rfl | rfl | rfl | rfl<;> exact To.far 10 λm=>by kernel_rfl
theorem Nf{N:Nat}(h:N<=4):sortedC (giv N)=some (giv N):=by
 have h1:allC (giv N)=some (giv N):=by rcases five h with rfl | rfl | rfl | rfl | rfl<;> kernel_rfl
 unfold sortedC;rw [h1,Option.bind_some];congr 1;unfold sortedM;refine List.mergeSort_of_pairwise ?_;rcases five h with rfl | rfl | rfl | rfl | rfl<;> decide
theorem Vw{N:Nat}(h:N<=4):shlI (1:Int) (N:Int)=some ((2 ^ N:Nat):Int):=by
 rcases five h with rfl | rfl | rfl | rfl | rfl<;> kernel_rfl
def allIs:List (List Bool):=[true,false].flatMap λa=>[true,false].flatMap λb=>[true,false].flatMap λc=>[true,false].flatMap λd=>[true,false].map λe=>[a,b,c,d,e]
theorem Vx{is:List Bool}(h:is.length=5):is∈allIs:=by
 match is,h with
 | [a,b,c,d,e],_=>cases a<;> cases b<;> cases c<;> cases d<;> cases e<;> decide
def kb(N:Nat)(row:List Int)(is:List Bool):Bool:=(M.lv 20 row (giv N) is).getD false
theorem Ng{N:Nat}(h:N<=4)(m:Nat):(allIs.all λis=>(allR N).all λrow=>M.lv (m+20) row (giv N) is==some (kb N row is))=true:=by
 rcases five h with rfl | rfl | rfl | rfl | rfl<;> kernel_rfl
theorem Iz{N:Nat}(h:N<=4){row:List Int}(hr:row∈allR N){is:List Bool}(hi:is.length=5):To (λn=>M.lv n row (giv N) is) (kb N row is):=
 To.far 20 λm=>eq_of_beq (List.all_eq_true.1 (List.all_eq_true.1 (Ng h m) is (Vx hi)) row hr)
theorem Ls{N:Nat}(h:N<=4):∀ row∈allR N,kb N row (List.replicate 5 false)=true:=by
 have:((allR N).all λrow=>kb N row (List.replicate 5 false))=true:=by rcases five h with rfl | rfl | rfl | rfl | rfl<;> kernel_rfl
 exact List.all_eq_true.1 this
def kep(keep:List Int):List Bool:=(M.kF keep).getD []
theorem uE(keep:List Int):M.kF keep=some (kep keep)/\(kep keep).length=5:=by
 have loop:∀ (xs:List Int) (out:List Bool),out.length=5->∃ r,M.dW xs out=some r/\r.length=5:=by
  intro xs;induction xs with
  | nil=>intro out h;exact ⟨out,rfl,h⟩
  | cons x xs ih=>
   intro out h;simp only [M.dW];by_cases h0:(0:Int)<=x
   .by_cases h1:x<(5:Int)
    .obtain ⟨r,hr,hl⟩:=ih (out.set x.toNat true) (by simpa using h);refine ⟨r,?_,hl⟩;rw [if_pos h0,if_pos h1,show rngC 5 x=some () by unfold rngC;rw [if_pos ⟨h0,h1⟩],Option.bind_some,hr]
    .obtain ⟨r,hr,hl⟩:=ih out h;exact ⟨r,by rw [if_pos h0,if_neg h1,hr],hl⟩
   .obtain ⟨r,hr,hl⟩:=ih out h;exact ⟨r,by rw [if_neg h0,hr],hl⟩
 obtain ⟨r,hr,hl⟩:=loop keep (List.replicate 5 false) rfl;have:M.kF keep=some r:=by simp only [M.kF];rw [hr];rfl
 unfold kep;rw [this];exact ⟨rfl,hl⟩
theorem Ti{N:Nat}(h:N<=4):∀ row∈allR N,kb N row (kep (giv N))=true->row=giv N:=by
 have:((allR N).all λrow=>!kb N row (kep (giv N)) || row==giv N)=true:=by rcases five h with rfl | rfl | rfl | rfl | rfl<;> kernel_rfl
 intro row hr hk;have h1:=List.all_eq_true.1 this row hr;rw [hk] at h1;exact eq_of_beq (by simpa using h1)
theorem Lt:kep []=List.replicate 5 false:=rfl
def Wl(N s:Nat):List Int:=(M.bq (List.replicate N zf) (s:Int) 20 [] (0:Int)).getD []
theorem Ez(l l':List aS)(h:l.length=l'.length)(v:Int):∀ (n:Nat) (row:List Int) (i:Int),M.bq l v n row i=M.bq l' v n row i
 | 0,_,_=>rfl
 | n+1,row,i=>by
  rw [M.bq.eq_2,M.bq.eq_2,h];simp only [Ez l l' h v n]
theorem Qe{N:Nat}(h:N<=4)(m:Nat):((List.range (2 ^ N)).all λs=>M.bq (List.replicate N zf) (s:Int) (m+20) [] (0:Int)==some (Wl N s))=true:=by
 rcases five h with rfl | rfl | rfl | rfl | rfl<;> kernel_rfl
theorem Tj{l:List aS}(h:l.length<=4){s:Nat}(hs:s<2 ^ l.length):To (λn=>M.bq l (s:Int) n [] (0:Int)) (Wl l.length s):=
 To.far 20 λm=>by
  rw [Ez l (List.replicate l.length zf) (by simp)];exact eq_of_beq (List.all_eq_true.1 (Qe h m) s (List.mem_range.2 hs))
theorem Nh{N:Nat}(h:N<=4):Wl N (2 ^ N-1)=giv N:=by rcases five h with rfl | rfl | rfl | rfl | rfl<;> kernel_rfl
theorem Ni{N:Nat}(h:N<=4):Wl N 0= []:=by rcases five h with rfl | rfl | rfl | rfl | rfl<;> kernel_rfl
theorem Nj{N:Nat}(h:N<=4){s i:Nat}(hs:s<2 ^ N)(hi:i<(Wl N s).length):∃ s',s'< 2 ^ N/\Wl N s'=(Wl N s).take i++(Wl N s).drop (i+1):=by
 have:((List.range (2 ^ N)).all λs=>(List.range (Wl N s).length).all λi=>(List.range (2 ^ N)).any λs'=>Wl N s'==(Wl N s).take i++(Wl N s).drop (i+1))=true:=by
  rcases five h with rfl | rfl | rfl | rfl | rfl<;> kernel_rfl
 obtain ⟨s',h1,h2⟩:=List.any_eq_true.1 (List.all_eq_true.1 (List.all_eq_true.1 this s (List.mem_range.2 hs)) i (List.mem_range.2 hi));exact ⟨s',List.mem_range.1 h1,eq_of_beq h2⟩
theorem Qf{N:Nat}(h:N<=4){s:Nat}(hs:s<2 ^ N):(Wl N s).length<=4:=by
 have:((List.range (2 ^ N)).all λs=>decide ((Wl N s).length<=4))=true:=by rcases five h with rfl | rfl | rfl | rfl | rfl<;> kernel_rfl
 exact of_decide_eq_true (List.all_eq_true.1 this s (List.mem_range.2 hs))
theorem EA(l l':List aS)(h:l.length=l'.length):∀ (n:Nat) (row:List Int) (i:Int),M.bv l n row i=M.bv l' n row i
 | 0,_,_=>rfl
 | n+1,row,i=>by
  rw [M.bv.eq_2,M.bv.eq_2,h];simp only [EA l l' h n]
theorem VT{l:List aS}(h:l.length<=4):To (λn=>M.bv l n [] (0:Int)) (giv l.length):=
 To.far 10 λm=>by
  rw [EA l (List.replicate l.length zf) (by simp)];rcases five h with e | e | e | e | e<;> (rw [e];kernel_rfl)
theorem Ke(a b:List Int):∃ c,M.iq a b=some c:=by
 have loop:∀ (xs:List Int) (i:Nat),∃ r,M.df b xs (i:Int)=some r:=by
  intro xs;induction xs with
  | nil=>intro i;exact ⟨_,rfl⟩
  | cons x xs ih=>
   intro i;simp only [M.df];by_cases h:(b.length:Int)<=(i:Int)
   .rw [if_pos h];exact ⟨_,rfl⟩
   .obtain ⟨z,hz,_⟩:=pW (l:=b) (i:=(i:Int)) (by omega) (by omega);obtain ⟨r,hr⟩:=ih (i+1);have hc:∃ c,M.cmp_Compare_int x z=some c:=by
     simp only [M.cmp_Compare_int,M.cmp_isNaN_int,Option.bind_some]
     repeat' split
     all_goals exact ⟨_,rfl⟩
    obtain ⟨c,hc⟩:=hc;rw [if_neg h,hz,Option.bind_some,hc,Option.bind_some,aP,hr];split<;> exact ⟨_,rfl⟩
 obtain ⟨r,hr⟩:=loop a 0;simp only [M.iq];rw [show ((0:Int))=((0:Nat):Int) from rfl,hr,Option.bind_some];cases r with
 | inl _=>dsimp only;split<;> exact ⟨_,rfl⟩
 | inr c=>exact ⟨_,rfl⟩
theorem Lu(a b:List af):Chk (λn=>M.bR n a b) (a=b):=by
 have loop:∀ (xs:List af) (i:Nat),a.drop i=xs->a.length=b.length->∃ r,To (λn=>M.aK a b n (i:Int)) r/\(r= .inr false\/(r= .inl ()/\a.drop i=b.drop i)):=by
  intro xs;induction xs with
  | nil=>
   intro i hx hl;refine ⟨.inl (),To.succ (by simp only [M.aK];exact To.neg (aM hx) To.pure),.inr ⟨rfl,?_⟩⟩;have:=List.drop_eq_nil_iff.1 hx;rw [hx,List.drop_eq_nil_of_le (by omega)]
  | cons x xs ih=>
   intro i hx hl;have hlt:=(fT hx).1;have hlb:i<b.length:=by omega
   have hb:idx b (i:Int)=some b[i]:=by rw [lI];exact List.getElem?_eq_getElem hlb
   have hdb:b.drop i=b[i] :: b.drop (i+1):=List.drop_eq_getElem_cons hlb;by_cases hxy:x=b[i]
   .obtain ⟨r,hr,hP⟩:=ih (i+1) (aC hx) hl;refine ⟨r,To.succ ?_,?_⟩
    .simp only [M.aK];rw [aP];exact To.pos (aD hx) (To.bindS (ax hx) (To.bindS hb (To.neg (by simpa using hxy) hr)))
    .rcases hP with h | ⟨h,h2⟩
     .exact .inl h
     .refine .inr ⟨h,?_⟩;rw [aC hx] at h2;rw [hx,hdb,hxy,h2]
   .refine ⟨.inr false,To.succ ?_,.inl rfl⟩;simp only [M.aK];exact To.pos (aD hx) (To.bindS (ax hx) (To.bindS hb (To.pos hxy To.pure)))
 simp only [M.bR];refine Chk.ite (λ_=>Chk.ff) λhl=>?_;obtain ⟨r,hr,hP⟩:=loop a 0 rfl (by omega);refine Chk.bind hr ?_;rcases hP with rfl | ⟨rfl,h⟩
 .exact Chk.ff
 .exact Chk.pure λ_=>by simpa using h
theorem Tk(a:aa):∀ b,Chk (λn=>M.iB n a b) (a=b):=by
 refine Wd (P:=λa=>∀ b,Chk (λn=>M.iB n a b) (a=b)) ?_ a;intro a ih b;have loop:∀ (xs:List aa) (bs:List aa) (i:Nat),b.Kids.drop i=bs->xs.length=bs.length->(∀ x∈xs,∀ y,Chk (λn=>M.iB n x y) (x=y))->
   ∃ r,To (λn=>M.aA b.Kids (λs0 s1=>M.iB n s0 s1) xs (i:Int)) r/\(r= .inr false\/(r= .inl ()/\xs=bs)):=by
  intro xs;induction xs with
  | nil=>
   intro bs i hx hl _;exact ⟨.inl (),To.pure,.inr ⟨rfl,(List.eq_nil_of_length_eq_zero hl.symm).symm⟩⟩
  | cons x xs ihx=>
   intro bs i hx hl hs;cases bs with
   | nil=>cases hl
   | cons y ys=>
    obtain ⟨c,hc,hcP⟩:=hs x (by simp) y;cases c with
    | false=>
     refine ⟨.inr false,?_,.inl rfl⟩;simp only [M.aA];exact To.bindS (ax hx) (To.bind hc (To.pos rfl To.pure))
    | true=>
     obtain ⟨r,hr,hP⟩:=ihx ys (i+1) (aC hx) (by simpa using hl) (λz hz=>hs z (by simp [hz]));refine ⟨r,?_,?_⟩
     .simp only [M.aA];rw [aP];exact To.bindS (ax hx) (To.bind hc (To.neg (by simp) hr))
     .rcases hP with h | ⟨h,h2⟩
      .exact .inl h
      .exact .inr ⟨h,by rw [hcP rfl,h2]⟩
 refine Chk.succ ?_;simp only [M.iB,M.bn];refine Chk.ite (λh1=>Chk.ite (λh2=>Chk.ite (λh3=>Chk.and1 (Lu _ _) λh4=>Chk.and1 (Lu _ _) λh5=>Chk.last ?_) λ_=>Chk.ff) λ_=>Chk.ff) λ_=>Chk.ff;refine Chk.ite (λ_=>Chk.ff) λhl=>?_;obtain ⟨r,hr,hP⟩:=loop a.Kids b.Kids 0 rfl (by omega) (λx hx y=>ih x hx y);refine Chk.bind hr ?_;rcases hP with rfl | ⟨rfl,h6⟩
 .exact Chk.ff
 .exact Chk.pure λ_=>Ij h1 h2 (by simpa using h3) h4 h5 h6
noncomputable def eqU (a b:aa):Bool:=@decide (a=b) (Classical.propDecidable _)
theorem xR{a b:aa}:eqU a b=true ↔ a=b:=@decide_eq_true_iff _ (Classical.propDecidable _)
theorem Ak(a b:aa):To (λn=>M.iB n a b) (eqU a b):=by
 by_cases h:a=b
 .subst h;exact (Lj a).of (xR.2 rfl).symm
 .obtain ⟨c,h1,h2⟩:=Tk a b;refine h1.of ?_;have e1:c=false:=by
   cases c with
   | false=>rfl
   | true=>exact absurd (h2 rfl) h
  have e2:eqU a b=false:=by
   cases e:eqU a b with
   | false=>rfl
   | true=>exact absurd (xR.1 e) h
  rw [e1,e2]
theorem Qg(l:List aS):Chk (λn=>M.zk n l (4:Int) (2:Int)) (l.length<=4/\ ∀ a∈l,a.Items.length<=2/\ ∀ x∈a.Items,FewP x/\ ∀ y∈x.By,FewP y):=by
 have inner:∀ (a:aS) (i:Nat),l[i]? =some a->∀ (xs:List ag) (k:Nat),a.Items.drop k=xs->∃ r,To (λn=>M.jF l (i:Int) n (k:Int)) r/\(r= .inr false\/r= .inl ()/\ ∀ x∈xs,FewP x/\ ∀ y∈x.By,FewP y):=by
  intro a i hi xs;have hia:idx l (i:Int)=some a:=by rw [lI];exact hi
  induction xs with
  | nil=>intro k hx;exact ⟨.inl (),To.succ (by simp only [M.jF];exact To.bindS hia (To.neg (aM hx) To.pure)),.inr ⟨rfl,λx h=>by cases h⟩⟩
  | cons x xs ih=>
   intro k hx;obtain ⟨c,hc,hcP⟩:=Te x;cases c with
   | false=>
    refine ⟨.inr false,To.succ ?_,.inl rfl⟩;simp only [M.jF];exact To.bindS hia (To.pos (aD hx) (To.bindS hia (To.bindS (ax hx) (To.bind hc (To.pos rfl To.pure)))))
   | true=>
    obtain ⟨r,hr,hP⟩:=ih (k+1) (aC hx);refine ⟨r,To.succ ?_,?_⟩
    .simp only [M.jF];rw [aP];exact To.bindS hia (To.pos (aD hx) (To.bindS hia (To.bindS (ax hx) (To.bind hc (To.neg (by simp) hr)))))
    .rcases hP with h | ⟨h,h2⟩
     .exact .inl h
     .refine .inr ⟨h,λy hy=>?_⟩;rcases List.mem_cons.1 hy with rfl | hy
      .exact hcP rfl
      .exact h2 y hy
 have outer:∀ (xs:List aS) (i:Nat),l.drop i=xs->l.length<=4->∃ r,To (λn=>M.iI l (2:Int) n (i:Int)) r/\(r= .inr false\/r= .inl ()/\ ∀ a∈xs,a.Items.length<=2/\ ∀ x∈a.Items,FewP x/\ ∀ y∈x.By,FewP y):=by
  intro xs;induction xs with
  | nil=>intro i hx _;exact ⟨.inl (),To.succ (by simp only [M.iI];exact To.neg (aM hx) To.pure),.inr ⟨rfl,λx h=>by cases h⟩⟩
  | cons a xs ih=>
   intro i hx hl;have hi:=(fT hx).2.1;have hlt:=(fT hx).1;by_cases h2:(2:Int)< (a.Items.length:Int)
   .refine ⟨.inr false,To.succ ?_,.inl rfl⟩;simp only [M.iI];exact To.pos (aD hx) (To.bindS (ax hx) (To.pos h2 To.pure))
   .obtain ⟨c,hc,hcP⟩:=inner a i hi a.Items 0 rfl;rcases hcP with rfl | ⟨rfl,hcP⟩
    .refine ⟨.inr false,To.succ ?_,.inl rfl⟩;simp only [M.iI];exact To.pos (aD hx) (To.bindS (ax hx) (To.neg h2 (To.bind hc To.pure)))
    .obtain ⟨r,hr,hP⟩:=ih (i+1) (aC hx) hl;refine ⟨r,To.succ ?_,?_⟩
     .simp only [M.iI];exact To.pos (aD hx) (To.bindS (ax hx) (To.neg h2 (To.bind hc (To.bindS (eO (by omega)) hr))))
     .rcases hP with h | ⟨h,h3⟩
      .exact .inl h
      .refine .inr ⟨h,λy hy=>?_⟩;rcases List.mem_cons.1 hy with rfl | hy
       .exact ⟨by omega,hcP⟩
       .exact h3 y hy
 simp only [M.zk];refine Chk.ite (λ_=>Chk.ff) λhl=>?_;have hl:l.length<=4:=by omega
 obtain ⟨r,hr,hP⟩:=outer l 0 rfl hl;refine Chk.bind hr ?_;rcases hP with rfl | ⟨rfl,h⟩
 .exact Chk.ff
 .exact Chk.pure λ_=>⟨hl,h⟩
theorem Qh(l:List aS)(hl:l.length<=4)(hf:∀ a∈l,∀ x∈a.Items,FewP x/\ ∀ y∈x.By,FewP y):∃ r,To (λn=>M.bz l n (0:Int)) r/\(r= .inr true\/r= .inl ()/\ ∀ a∈l,∀ x∈a.Items,Fit x):=by
 have inner:∀ (a:aS) (i:Nat),l[i]? =some a->∀ (xs:List ag) (k:Nat),a.Items.drop k=xs->∃ r,To (λn=>M.bJ l (i:Int) n (k:Int)) r/\(r= .inr true\/r= .inl ()/\ ∀ x∈xs,Fit x):=by
  intro a i hi xs;have hia:idx l (i:Int)=some a:=by rw [lI];exact hi
  have hal:a∈l:=List.mem_of_getElem? hi;induction xs with
  | nil=>intro k hx;exact ⟨.inl (),To.succ (by simp only [M.bJ];exact To.bindS hia (To.neg (aM hx) To.pure)),.inr ⟨rfl,λx h=>by cases h⟩⟩
  | cons x xs ih=>
   intro k hx;have hxa:x∈a.Items:=zy (ax hx);have hF:=hf a hal x hxa;obtain ⟨c,hc,hcP⟩:=Tf x hF.1 hF.2;cases c with
   | false=>
    refine ⟨.inr true,To.succ ?_,.inl rfl⟩;simp only [M.bJ];exact To.bindS hia (To.pos (aD hx) (To.bindS hia (To.bindS (ax hx) (To.bind hc (To.pos rfl To.pure)))))
   | true=>
    obtain ⟨r,hr,hP⟩:=ih (k+1) (aC hx);refine ⟨r,To.succ ?_,?_⟩
    .simp only [M.bJ];rw [aP];exact To.bindS hia (To.pos (aD hx) (To.bindS hia (To.bindS (ax hx) (To.bind hc (To.neg (by simp) hr)))))
    .rcases hP with h | ⟨h,h2⟩
     .exact .inl h
     .refine .inr ⟨h,λy hy=>?_⟩;rcases List.mem_cons.1 hy with rfl | hy
      .exact ⟨hF.1,hcP rfl,hc⟩
      .exact h2 y hy
 have outer:∀ (xs:List aS) (i:Nat),l.drop i=xs->∃ r,To (λn=>M.bz l n (i:Int)) r/\(r= .inr true\/r= .inl ()/\ ∀ a∈xs,∀ x∈a.Items,Fit x):=by
  intro xs;induction xs with
  | nil=>intro i hx;exact ⟨.inl (),To.succ (by simp only [M.bz];exact To.neg (aM hx) To.pure),.inr ⟨rfl,λx h=>by cases h⟩⟩
  | cons a xs ih=>
   intro i hx;have hi:=(fT hx).2.1;have hlt:=(fT hx).1;obtain ⟨c,hc,hcP⟩:=inner a i hi a.Items 0 rfl;rcases hcP with rfl | ⟨rfl,hcP⟩
   .refine ⟨.inr true,To.succ ?_,.inl rfl⟩;simp only [M.bz];exact To.pos (aD hx) (To.bind hc To.pure)
   .obtain ⟨r,hr,hP⟩:=ih (i+1) (aC hx);refine ⟨r,To.succ ?_,?_⟩
    .simp only [M.bz];exact To.pos (aD hx) (To.bind hc (To.bindS (eO (by omega)) hr))
    .rcases hP with h | ⟨h,h3⟩
     .exact .inl h
     .refine .inr ⟨h,λy hy=>?_⟩;rcases List.mem_cons.1 hy with rfl | hy
      .exact hcP
      .exact h3 y hy
 exact outer l 0 rfl
theorem Nk(l:List aS)(hf:∀ a∈l,a.Items.length<=2/\ ∀ x∈a.Items,Fit x):∀ (o:List Int) (u:aa),Ok u->(∀ i∈o,0<=i/\i<(l.length:Int))->∃ v,To (λn=>M.gp n l o u) v/\
  ∀ (all:List Int) (i:Nat),all.drop i=o->To (λn=>M.dw l all n (i:Int) u) v:=by
 intro o;induction o with
 | nil=>intro u _ _;exact ⟨u,To.pure,λall i hx=>To.succ (by simp only [M.dw];exact To.neg (aM hx) To.pure)⟩
 | cons e o ih=>
  intro u hu hv;obtain ⟨h0,h1⟩:=hv e (by simp);obtain ⟨a,ha,ham⟩:=pW (l:=l) h0 h1;obtain ⟨w,hw,⟨ms,a1⟩,a2⟩:=Qd a u hu (by have:=(hf a ham).1;omega) (hf a ham).2;obtain ⟨v,b1,b2⟩:=ih w hw λi hi=>hv i (by simp [hi]);refine ⟨v,?_,λall i hx=>To.succ ?_⟩
  .simp only [M.gp];exact To.bindS ha (To.bind a1 b1)
  .simp only [M.dw];rw [aP];exact To.pos (aD hx) (To.bindS (ax hx) (To.bindS ha (To.bind a2 (b2 all (i+1) (aC hx)))))
section
variable {u:aa} {l:List aS} {f:List Int->aa}
def WP(u:aa)(l:List aS)(f:List Int->aa):Prop:=∀ o:List Int,(∀ i∈o,0<=i/\i<(l.length:Int))->To (λn=>M.oC n u o l) (f o)/\To (λn=>M.jr n u l o) (f o)
open Classical in
theorem Qi(hu:Ok u)(hf:∀ a∈l,a.Items.length<=2/\ ∀ x∈a.Items,Fit x):∃ f,WP u l f:=by
 have H:∀ o:List Int,(∀ i∈o,0<=i/\i<(l.length:Int))->∃ v,To (λn=>M.oC n u o l) v/\To (λn=>M.jr n u l o) v:=λo ho=>by
  obtain ⟨v,h1,h2⟩:=Nk l hf o u hu ho;refine ⟨v,?_,?_⟩
  .simp only [M.oC];exact To.bind h1 To.pure
  .simp only [M.jr];exact To.bind (h2 o 0 rfl) To.pure
 refine ⟨λo=>if h:∀ i∈o,0<=i/\i<(l.length:Int) then Classical.choose (H o h) else u,λo ho=>?_⟩;dsimp only;rw [dif_pos ho];exact Classical.choose_spec (H o ho)
theorem EB(hl:l.length<=4)(keep:List Int):To (λn=>M.kS n (l.length:Int) keep (giv l.length)) ((allR l.length).filter λrow=>kb l.length row (kep keep)):=by
 have loop:∀ (rows q:List (List Int)),(∀ r∈rows,r∈allR l.length)->q.length+rows.length<=1000->To (λn=>foldS (M.kI n (l.length:Int) keep (giv l.length)) q rows) (q++rows.filter λrow=>kb l.length row (kep keep)):=by
  intro rows;induction rows with
  | nil=>intro q _ _;exact To.pure.of (by simp)
  | cons r rows ih=>
   intro q hr hq;simp only [List.length_cons] at hq;have hk:=Iz hl (hr r (by simp)) (uE keep).2;have hr':∀ x∈rows,x∈allR l.length:=λx hx=>hr x (by simp [hx]);have hlen:r.length<=1000:=by
    have:∀ r∈allR l.length,r.length<=4:=by rcases five hl with e | e | e | e | e<;> (rw [e];decide)
    have:=this r (hr r (by simp));omega
   simp only [foldS,M.kI];cases hb:kb l.length r (kep keep) with
   | true=>
    rw [hb] at hk;refine To.bind (a:=q++ [r]) (To.bindS (uE keep).1 (To.bind hk (To.pos rfl (To.bindS (a:=r) (by simp only [M.gI];rw [bu (by simp;omega)];simp) (To.bindS (bu (by simp;omega)) To.pure))))) ?_;exact (ih (q++ [r]) hr' (by simp;omega)).of (by simp [hb])
   | false=>
    rw [hb] at hk;refine To.bind (a:=q) (To.bindS (uE keep).1 (To.bind hk (To.neg (by simp) To.pure))) ?_;exact (ih q hr' (by omega)).of (by simp [hb])
 simp only [M.kS];refine To.bindS (Nf hl) (To.bind (a:=false) (To.neg (by omega) (To.neg (by omega) (To.bind (Iy hl) (To.bind (Tg hl) To.pure)))) (To.neg (by simp) (To.bind (Nc hl) (To.bind (loop _ [] (λ_ h=>h) (by have:=FD hl;simp;omega)) (To.pure.of (by simp))))))
theorem FE(hl:l.length<=4)(hB:WP u l f):To (λn=>M.mi n u l) (allR l.length,(allR l.length).map f):=by
 have loop:∀ (rows:List (List Int)) (q:List aa),(∀ r∈rows,r∈allR l.length)->q.length+rows.length<=1000->To (λn=>M.gq n u l rows q) (q++rows.map f):=by
  intro rows;induction rows with
  | nil=>intro q _ _;exact To.pure.of (by simp)
  | cons r rows ih=>
   intro q hr hq;simp only [List.length_cons] at hq;simp only [M.gq];refine To.bind (hB r (all_in hl r (hr r (by simp)))).1 (To.bindS (bu (by simp;omega)) ?_);exact (ih _ (λx hx=>hr x (by simp [hx])) (by simp;omega)).of (by simp)
 have h0:(allR l.length).filter (λrow=>kb l.length row (kep []))=allR l.length:=by
  rw [List.filter_eq_self];intro r hr;rw [Lt];exact Ls hl r hr
 simp only [M.mi];refine To.bind (Iy hl) (To.bind ((EB hl []).of h0) (To.bind (loop _ [] (λ_ h=>h) (by have:=FD hl;simp;omega)) (To.pure.of (by simp))))
def EP(l:List aS)(f:List Int->aa)(is:List Bool):Prop:=∀ row∈allR l.length,kb l.length row is=true->f row=f (giv l.length)
theorem EC(hl:l.length<=4){is:List Bool}(hi:is.length=5):∃ b,To (λn=>M.lW n (allR l.length) ((allR l.length).map f) is) b/\(b=true ↔ EP l f is):=by
 obtain ⟨tl,htl⟩:=Db hl;have ha0:idx (allR l.length) (0:Int)=some (giv l.length):=by rw [htl];exact eP
 have hb0:idx ((allR l.length).map f) (0:Int)=some (f (giv l.length)):=by rw [htl];exact eP
 have loop:∀ (xs:List (List Int)) (i:Nat),(allR l.length).drop i=xs->∃ r,To (λn=>M.di n (allR l.length) ((allR l.length).map f) is xs (i:Int)) r/\
   ((r= .inr false/\ ∃ row∈xs,kb l.length row is=true/\f row≠f (giv l.length))\/(r= .inl ()/\ ∀ row∈xs,kb l.length row is=true->f row=f (giv l.length))):=by
  intro xs;induction xs with
  | nil=>intro i _;exact ⟨.inl (),To.pure,.inr ⟨rfl,λr h=>by cases h⟩⟩
  | cons x xs ih=>
   intro i hx;have hxm:x∈allR l.length:=zy (ax hx);have hbx:idx ((allR l.length).map f) (i:Int)=some (f x):=by
    rw [lI,List.getElem?_map,(fT hx).2.1];rfl
   have hk:=Iz hl hxm hi;obtain ⟨r,hr,hP⟩:=ih (i+1) (aC hx);cases hb:kb l.length x is with
   | false=>
    rw [hb] at hk;refine ⟨r,?_,?_⟩
    .simp only [M.di];rw [aP];exact To.bindS ha0 (To.bind hk (To.neg (by simp) hr))
    .rcases hP with ⟨h,row,h1,h2,h3⟩ | ⟨h,h2⟩
     .exact .inl ⟨h,row,by simp [h1],h2,h3⟩
     .refine .inr ⟨h,λrow hrow hkr=>?_⟩;rcases List.mem_cons.1 hrow with rfl | hrow
      .rw [hb] at hkr;cases hkr
      .exact h2 row hrow hkr
   | true=>
    rw [hb] at hk;by_cases he:f x=f (giv l.length)
    .refine ⟨r,?_,?_⟩
     .simp only [M.di];rw [aP];exact To.bindS ha0 (To.bind hk (To.pos rfl (To.bindS hbx (To.bindS hb0 (To.bind (Ak _ _) (To.neg (by rw [xR.2 he];simp) hr))))))
     .rcases hP with ⟨h,row,h1,h2,h3⟩ | ⟨h,h2⟩
      .exact .inl ⟨h,row,by simp [h1],h2,h3⟩
      .refine .inr ⟨h,λrow hrow hkr=>?_⟩;rcases List.mem_cons.1 hrow with rfl | hrow
       .exact he
       .exact h2 row hrow hkr
    .refine ⟨.inr false,?_,.inl ⟨rfl,x,by simp,hb,he⟩⟩;simp only [M.di];have hq:eqU (f x) (f (giv l.length))=false:=by
      cases e:eqU (f x) (f (giv l.length)) with
      | false=>rfl
      | true=>exact absurd (xR.1 e) he
     exact To.bindS ha0 (To.bind hk (To.pos rfl (To.bindS hbx (To.bindS hb0 (To.bind (Ak _ _) (To.pos hq To.pure))))))
 obtain ⟨r,hr,hP⟩:=loop (allR l.length) 0 rfl;simp only [M.lW];rcases hP with ⟨rfl,row,h1,h2,h3⟩ | ⟨rfl,h⟩
 .exact ⟨false,To.bind hr To.pure,(λh=>by cases h),λh=>absurd (h row h1 h2) h3⟩
 .exact ⟨true,To.bind hr To.pure,λ_=>h,λ_=>rfl⟩
theorem yx(hl:l.length<=4)(hB:WP u l f)(keep:List Int):∃ b,To (λn=>M.jY n u keep l) b/\(b=true ↔ EP l f (kep keep)):=by
 obtain ⟨b,h1,h2⟩:=EC (f:=f) hl (uE keep).2;refine ⟨b,?_,h2⟩;simp only [M.jY];exact To.neg (by omega) (To.bind (FE hl hB) (To.bindS (uE keep).1 (To.bind h1 To.pure)))
theorem Kg(hl:l.length<=4)(hB:WP u l f):∃ best,To (λn=>M.mU n u l) (best,0)/\(∃ s,s<2 ^ l.length/\best=Wl l.length s)/\EP l f (kep best)/\ ∀ s,s<2 ^ l.length->EP l f (kep (Wl l.length s))->best.length<=(Wl l.length s).length:=by
 have full:EP l f (kep (Wl l.length (2 ^ l.length-1))):=by
  rw [Nh hl];intro row hr hk;rw [Ti hl row hr hk]
 have loop:∀ (d k:Nat) (best:List Int) (found:Bool),k+d=2 ^ l.length->(found=true->(∃ s,s<2 ^ l.length/\best=Wl l.length s)/\EP l f (kep best))->(∀ s,s<k->EP l f (kep (Wl l.length s))->found=true/\best.length<=(Wl l.length s).length)->
   ∃ r,To (λn=>M.bD l (allR l.length,(allR l.length).map f) ((2 ^ l.length:Nat):Int) n best found (k:Int)) r/\(∃ s,s<2 ^ l.length/\r=Wl l.length s)/\EP l f (kep r)/\ ∀ s,s<2 ^ l.length->EP l f (kep (Wl l.length s))->r.length<=(Wl l.length s).length:=by
  intro d;induction d with
  | zero=>
   intro k best found hk h1 h2;have hpos:0<2 ^ l.length:=Nat.pow_pos (by omega);obtain ⟨hf,_⟩:=h2 (2 ^ l.length-1) (by omega) full;obtain ⟨h3,h4⟩:=h1 hf;refine ⟨best,To.succ ?_,h3,h4,λs hs he=>(h2 s (by omega) he).2⟩;simp only [M.bD];exact To.neg (by omega) To.pure
  | succ d ih=>
   intro k best found hk h1 h2;have hks:k<2 ^ l.length:=by omega
   have hrow:=Tj hl hks;have hbig:2 ^ l.length<=16:=Nat.pow_le_pow_right (by omega) hl (n:=2);have hadd:addC (k:Int) (1:Int)=some ((k+1:Nat):Int):=eO (by omega);obtain ⟨c,hc⟩:=Ke (Wl l.length k) best;obtain ⟨ah,hah,hahP⟩:∃ ah,To (λ_:Nat=>if found=false then some true else if ((Wl l.length k).length:Int)< (best.length:Int) then some true else if ((Wl l.length k).length:Int)=(best.length:Int) then Option.bind (M.iq (Wl l.length k) best) λint=>some (decide (int<(0:Int))) else some false) ah/\
     (ah=true->found=false\/(Wl l.length k).length<=best.length)/\(ah=false->found=true/\best.length<=(Wl l.length k).length):=by
    cases found with
    | false=>exact ⟨true,To.pos rfl To.pure,λ_=>.inl rfl,λh=>by cases h⟩
    | true=>
     by_cases h3:((Wl l.length k).length:Int)< (best.length:Int)
     .exact ⟨true,To.neg (by simp) (To.pos h3 To.pure),λ_=>.inr (by omega),λh=>by cases h⟩
     .by_cases h4:((Wl l.length k).length:Int)=(best.length:Int)
      .exact ⟨_,To.neg (by simp) (To.neg h3 (To.pos h4 (To.bindS hc To.pure))),λ_=>.inr (by omega),λ_=>⟨rfl,by omega⟩⟩
      .exact ⟨false,To.neg (by simp) (To.neg h3 (To.neg h4 To.pure)),(λh=>by cases h),λ_=>⟨rfl,by omega⟩⟩
   have keepOn:(EP l f (kep (Wl l.length k))->found=true/\best.length<=(Wl l.length k).length)->∀ s,s<k+1->EP l f (kep (Wl l.length s))->found=true/\best.length<=(Wl l.length s).length:=λh s hs he=>by
    by_cases e:s=k
    .subst e;exact h he
    .exact h2 s (by omega) he
   cases ah with
   | false=>
    obtain ⟨r,hr,hP⟩:=ih (k+1) best found (by omega) h1 (keepOn λ_=>hahP.2 rfl);refine ⟨r,To.succ ?_,hP⟩;simp only [M.bD];exact To.pos (by omega) (To.bind hrow (To.bind hah (To.neg (by simp) (To.bindS hadd hr))))
   | true=>
    obtain ⟨b,hb,hbP⟩:=EC (f:=f) hl (uE (Wl l.length k)).2;cases b with
    | false=>
     obtain ⟨r,hr,hP⟩:=ih (k+1) best found (by omega) h1 (keepOn λhe=>by have:=hbP.2 he;cases this);refine ⟨r,To.succ ?_,hP⟩;simp only [M.bD];exact To.pos (by omega) (To.bind hrow (To.bind hah (To.pos rfl (To.bindS (uE _).1 (To.bind hb (To.neg (by simp) (To.bindS hadd hr)))))))
    | true=>
     have hE:=hbP.1 rfl;obtain ⟨r,hr,hP⟩:=ih (k+1) (Wl l.length k) true (by omega) (λ_=>⟨⟨k,hks,rfl⟩,hE⟩) (λs hs he=>by
      refine ⟨rfl,?_⟩;by_cases e:s=k
      .subst e;exact Nat.le_refl _
      .obtain ⟨h3,h4⟩:=h2 s (by omega) he;rcases hahP.1 rfl with h5 | h5
       .rw [h5] at h3;cases h3
       .omega)
     refine ⟨r,To.succ ?_,hP⟩;simp only [M.bD];exact To.pos (by omega) (To.bind hrow (To.bind hah (To.pos rfl (To.bindS (uE _).1 (To.bind hb (To.pos rfl (To.bindS hadd hr)))))))
 obtain ⟨r,hr,hP⟩:=loop (2 ^ l.length) 0 [] false (by omega) (λh=>by cases h) (λs hs=>by omega);refine ⟨r,?_,hP⟩;simp only [M.mU];exact To.neg (by omega) (To.bind (FE hl hB) (To.bindS (Vw hl) (To.bind hr To.pure)))
theorem Qj(hl:l.length<=4)(hB:WP u l f):∃ c:Int,To (λn=>M.jT n u l) c/\(c=1 ↔ ∀ row∈allR l.length,f row=f (giv l.length)):=by
 have loop:∀ (es q:List aa),q.length+es.length<=1000->q.Nodup->∃ r,To (λn=>M.bA n es q) r/\r.Nodup/\(∀ x,x∈r ↔ x∈q\/x∈es):=by
  intro es;induction es with
  | nil=>intro q _ hq;exact ⟨q,To.pure,hq,λx=>by simp⟩
  | cons e es ih=>
   intro q hl hq;simp only [List.length_cons] at hl;have hh:=XM q (λz=>eqU z e) (λn s0=>M.iP n s0 e) λz _=>by
    simp only [M.iP];exact To.bind (Ak z e) To.pure
   cases hb:q.any (λz=>eqU z e) with
   | true=>
    rw [hb] at hh;obtain ⟨r,hr,h1,h2⟩:=ih q (by omega) hq;obtain ⟨z,hz,hze⟩:=List.any_eq_true.1 hb;have hze:=xR.1 hze;subst hze;refine ⟨r,?_,h1,λx=>?_⟩
    .simp only [M.bA];exact To.bind hh (To.neg (by simp) hr)
    .rw [h2 x];constructor
     .rintro (h | h)
      .exact .inl h
      .exact .inr (by simp [h])
     .rintro (h | h)
      .exact .inl h
      .rcases List.mem_cons.1 h with rfl | h
       .exact .inl hz
       .exact .inr h
   | false=>
    rw [hb] at hh;have hn:e ∉ q:=λhe=>by
     have:=List.any_eq_false.1 hb e he;exact this (xR.2 rfl)
    obtain ⟨r,hr,h1,h2⟩:=ih (q++ [e]) (by simp;omega) (by
     rw [List.nodup_append];refine ⟨hq,by simp,λa ha b hb=>?_⟩;rw [List.mem_singleton.1 hb];rintro rfl;exact hn ha)
    refine ⟨r,?_,h1,λx=>?_⟩
    .simp only [M.bA];exact To.bind hh (To.pos rfl (To.bindS (bu (by simp;omega)) hr))
    .rw [h2 x];simp [or_assoc]
 obtain ⟨r,hr,h1,h2⟩:=loop ((allR l.length).map f) [] (by have:=FD hl;simp;omega) List.nodup_nil;refine ⟨(r.length:Int),?_,?_⟩
 .simp only [M.jT];exact To.neg (by omega) (To.bind (FE hl hB) (To.bind hr To.pure))
 .have hg:f (giv l.length)∈r:=by obtain ⟨tl,htl⟩:=Db hl;exact (h2 _).2 (.inr (by rw [htl];simp))
  constructor
  .intro h row hrow;have hf:f row∈r:=(h2 _).2 (.inr (List.mem_map.2 ⟨row,hrow,rfl⟩))
   match r,h with
   | [z],_=>rw [List.mem_singleton.1 hf,List.mem_singleton.1 hg]
  .intro h;have hall:∀ x∈r,x=f (giv l.length):=λx hx=>by
    rcases (h2 x).1 hx with hx | hx
    .cases hx
    .obtain ⟨row,hrow,rfl⟩:=List.mem_map.1 hx;exact h row hrow
   match r,h1,hg,hall with
   | [z],_,_,_=>rfl
   | z :: w :: q,h1,_,hall=>
    have e1:=hall z (by simp);have e2:=hall w (by simp);rw [List.nodup_cons] at h1;exact absurd (by simp [e1,e2]) h1.1
end
theorem Dc(u:aa)(l:List aS):To (λn=>M.mf n u l) true:=by
 simp only [M.mf];obtain ⟨b,hb1,hb2⟩:=PZ u;cases b with
 | false=>exact To.bind (a:=true) (To.bind hb1 (To.pos rfl To.pure)) (To.pos rfl To.pure)
 | true=>
  obtain ⟨c,hc1,hc2⟩:=Qg l;cases c with
  | false=>exact To.bind (a:=true) (To.bind hb1 (To.neg (by simp) (To.bind hc1 To.pure))) (To.pos rfl To.pure)
  | true=>
   obtain ⟨hl,hall⟩:=hc2 rfl;have hu:=hb2 rfl;refine To.bind (a:=false) (To.bind hb1 (To.neg (by simp) (To.bind hc1 To.pure))) (To.neg (by simp) ?_);obtain ⟨r,hr,hrP⟩:=Qh l hl λa ha=>(hall a ha).2;refine To.bind hr ?_;rcases hrP with rfl | ⟨rfl,hfit⟩
   .exact To.pure
   obtain ⟨f,hB⟩:=Qi (u:=u) (l:=l) hu λa ha=>⟨(hall a ha).1,hfit a ha⟩
   obtain ⟨best,hbest,⟨s0,hs0,hs0e⟩,hE,hmin⟩:=Kg hl hB;obtain ⟨b1,hs1,hs2⟩:=yx hl hB best;have hb1t:b1=true:=hs2.2 hE;subst hb1t;refine To.bind hbest (To.bind (a:=false) (To.neg (by simp) (To.bind hs1 To.pure)) (To.neg (by simp) (To.bind (VT hl) ?_)));have hgin:∀ i∈giv l.length,0<=i/\i<(l.length:Int):=by
    obtain ⟨tl,htl⟩:=Db hl;exact all_in hl _ (by rw [htl];simp)
   have hwant:=(hB (giv l.length) hgin).2;refine To.bind hwant (To.bind (EB hl best) ?_);have loop4:∀ (all:List (List Int)),(∀ row∈all,row∈allR l.length/\f row=f (giv l.length))->∀ (xs:List (List Int)) (i:Nat),all.drop i=xs->To (λn=>M.cK u l (f (giv l.length)) all n (i:Int)) (.inl ()):=by
    intro all hall xs;induction xs with
    | nil=>intro i hx;refine To.succ ?_;simp only [M.cK];exact To.neg (aM hx) To.pure
    | cons x xs ih=>
     intro i hx;obtain ⟨hx1,hx2⟩:=hall x (zy (ax hx));refine To.succ ?_;simp only [M.cK];rw [aP];refine To.pos (aD hx) (To.bindS (ax hx) (To.bind (hB x (all_in hl x hx1)).2 ?_));rw [hx2];exact To.bind (rsame _) (To.neg (by simp) (ih (i+1) (aC hx)))
   refine To.bind (loop4 _ (λrow hrow=>?_) _ 0 rfl) ?_
   .obtain ⟨h1,h2⟩:=List.mem_filter.1 hrow;exact ⟨h1,hE row h1 h2⟩
   have loop5:∀ (d i:Nat),i+d=best.length->To (λn=>M.cz u l (best,0) n (i:Int)) (.inl ()):=by
    intro d;induction d with
    | zero=>intro i hi;refine To.succ ?_;simp only [M.cz];exact To.neg (by omega) To.pure
    | succ d ih=>
     intro i hi;have hb4:best.length<=4:=by rw [hs0e];exact Qf hl hs0
     have h1:slcHi best (i:Int)=some (best.take i):=by unfold slcHi;rw [if_pos (by omega),Int.toNat_natCast]
     have h2:slcLo best ((i+1:Nat):Int)=some (best.drop (i+1)):=by unfold slcLo;rw [if_pos (by omega),Int.toNat_natCast]
     obtain ⟨s',hs',hs'e⟩:=Nj hl hs0 (i:=i) (by rw [<-hs0e];omega);rw [<-hs0e] at hs'e;obtain ⟨b,hb,hbP⟩:=yx hl hB (best.take i++best.drop (i+1));have hbf:b=false:=by
      cases b with
      | false=>rfl
      | true=>
       have:=hmin s' hs' (by rw [hs'e];exact hbP.1 rfl);rw [hs'e] at this;simp at this;omega
     subst hbf;refine To.succ ?_;simp only [M.cz];rw [aP];refine To.pos (by omega) (To.bindS h1 (To.bindS (bu (by simp;omega)) (To.bindS (eO (by omega)) (To.bindS h2 (To.bindS (bu (by simp;omega)) ?_)))));rw [List.nil_append];exact To.bind hb (To.neg (by simp) (ih (i+1) (by omega)))
   refine To.bind (loop5 best.length 0 (by omega)) ?_;obtain ⟨c,hc,hcP⟩:=Qj hl hB;refine To.bind hc (To.pure.of ?_);have hiff:(best.length:Int)=0 ↔ c=1:=by
    rw [hcP];constructor
    .intro h row hrow;have hbn:best= []:=List.eq_nil_of_length_eq_zero (by omega);refine hE row hrow ?_;rw [hbn,Lt];exact Ls hl row hrow
    .intro h;have:=hmin 0 (Nat.pow_pos (by omega)) (λrow hrow _=>h row hrow);rw [Ni hl] at this;simp at this;rw [this];rfl
   by_cases h:(best.length:Int)=0
   .rw [decide_eq_true h,decide_eq_true (hiff.1 h)];rfl
   .rw [decide_eq_false h,decide_eq_false (λe=>h (hiff.2 e))];rfl
end Go.Proofs.YtobcmdhemlennaaGreatDoor
