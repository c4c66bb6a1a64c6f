/-
  Trees, addresses, places and targets: what other chapters' texts hold (P41a, P21f), beside P11p to P11d.
-/
import Derived.Test.YtobcmdhemlennaaGreatDoorPd
import Derived.KernelRfl
set_option linter.unusedVariables false
set_option linter.unusedSimpArgs false
namespace Go.Proofs.YtobcmdhemlennaaGreatDoor
open Go Go.Dec
theorem Eh(u:aa)(deep most:Int)(hd0:0<=deep)(hd:deep<=20)(hm0:0<=most)(hm:most<=1000000):∀ (xs:List aa) (slf:Nat->aa->Int->Int->Option Int) (i:Nat) (n0:Int),u.Kids.drop i=xs->
  (∀ k,k∈xs->∀ m:Int,0<=m->m<=1000000->∃ r,To (λn=>slf n k (deep+1) m) r/\1<=r/\r<=m+1/\(r<=m->(cnt k:Int)<=r))->(i:Int)+1<=n0->n0<=most+1->
  ∃ r,To (λn=>M.iH u deep most (slf n) n n0 (i:Int)) r/\n0<=r/\r<=most+1/\(r<=most->n0+((xs.map cnt).sum:Nat)<=r)
 | [],slf,i,n0,hx,hs,h1,h2=>by
  refine ⟨n0,To.succ ?_,by omega,h2,λh=>by simp⟩;simp only [M.iH];refine To.bind (a:=false) (To.neg (aM hx) To.pure) ?_;exact To.neg (by simp) To.pure
 | x :: xs,slf,i,n0,hx,hs,h1,h2=>by
  by_cases hle:n0<=most
  .obtain ⟨r1,ht1,hr1,hr2,hr3⟩:=hs x (by simp) (most-n0) (by omega) (by omega);have ih:=Eh u deep most hd0 hd hm0 hm xs (λn=>slf (n+1)) (i+1) (n0+r1) (aC hx) (λk hk m a b=>by
    obtain ⟨r,h1,h2⟩:=hs k (by simp [hk]) m a b;exact ⟨r,h1.shift,h2⟩) (by omega) (by omega)
   obtain ⟨r,ht,q1,q2,q3⟩:=ih;refine ⟨r,To.succ ?_,by omega,q2,λh=>?_⟩
   .simp only [M.iH];refine To.bind (a:=true) (To.pos (aD hx) (To.pure.of (by simp [hle]))) ?_;refine To.pos rfl ?_;refine To.bindS (ax hx) ?_;refine To.bindS (ku (by omega) (by omega)) ?_;refine To.bindS (lY (by omega) (by omega)) ?_;refine To.bind ht1.shift ?_;refine To.bindS (ku (by omega) (by omega)) ?_;refine To.bindS (eO (by omega)) ?_;exact ht
   .have:=q3 h;have:=hr3 (by omega);simp only [List.map_cons,List.sum_cons];omega
  .refine ⟨n0,To.succ ?_,by omega,h2,λh=>by omega⟩;simp only [M.iH];refine To.bind (a:=false) (To.pos (aD hx) (To.pure.of (by simp;omega))) ?_;exact To.neg (by simp) To.pure
theorem Sq(u:aa):∀ (deep most:Int),0<=deep->deep<=21->0<=most->most<=1000000->∃ r,To (λn=>M.qI n u deep most) r/\1<=r/\r<=most+1/\(r<=most->(cnt u:Int)<=r):=by
 refine Wd (P:=λu=>∀ (deep most:Int),0<=deep->deep<=21->0<=most->most<=1000000->∃ r,To (λn=>M.qI n u deep most) r/\1<=r/\r<=most+1/\(r<=most->(cnt u:Int)<=r)) ?_ u;intro u ih deep most h1 h2 h3 h4;by_cases hd:20<deep
 .refine ⟨most+1,To.succ ?_,by omega,by omega,λh=>by omega⟩;simp only [M.qI];refine To.pos hd (To.bindS (ku (by omega) (by omega)) To.pure)
 .obtain ⟨r,ht,q1,q2,q3⟩:=Eh u deep most h1 (by omega) h3 h4 u.Kids (λn=>M.qI n) 0 1 rfl (λk hk m a b=>ih k hk (deep+1) m (by omega) (by omega) a b) (by omega) (by omega);refine ⟨r,To.succ ?_,q1,q2,λh=>?_⟩
  .simp only [M.qI];refine To.neg hd (To.bind ht To.pure)
  .rw [lH];have:=q3 h;omega
theorem Hz(l:List af):∃ b,To (λn=>M.qm n l) b/\(b=true->l.length<=300):=by
 have loop:∀ (xs:List af) (i:Nat),l.drop i=xs->∃ c:Unit ⊕ Bool,To (λn=>M.gL l n (i:Int)) c/\(c= .inl ()\/c= .inr false):=by
  intro xs;induction xs with
  | nil=>
   intro i hx;refine ⟨.inl (),To.succ ?_,.inl rfl⟩;simp only [M.gL];exact To.neg (aM hx) To.pure
  | cons x xs ih=>
   intro i hx;by_cases h:100<x.Text.length
   .refine ⟨.inr false,To.succ ?_,.inr rfl⟩;simp only [M.gL];exact To.pos (aD hx) (To.bindS (ax hx) (To.pos (by omega) To.pure))
   .obtain ⟨c,h1,h2⟩:=ih (i+1) (aC hx);refine ⟨c,To.succ ?_,h2⟩;simp only [M.gL];rw [aP];exact To.pos (aD hx) (To.bindS (ax hx) (To.neg (by omega) h1))
 obtain ⟨c,h1,h2⟩:=loop l 0 rfl;simp only [M.qm];rcases h2 with rfl | rfl
 .exact ⟨_,To.bind h1 To.pure,λh=>by have:=of_decide_eq_true h;omega⟩
 .exact ⟨_,To.bind h1 To.pure,λh=>by cases h⟩
def labs(u:aa):Prop:=∀ x,x∈desc u->x.Label.length<=5000/\x.Head.length<=5000/\x.Words.length<=5000
theorem CJ{u k:aa}(h:labs u)(hk:k∈u.Kids):labs k:=λx hx=>h x (mX hk hx)
theorem Pp(u:aa):∃ b,To (λn=>M.mF n u) b/\(b=true->labs u):=by
 refine Wd (P:=λu=>∃ b,To (λn=>M.mF n u) b/\(b=true->labs u)) ?_ u;intro u ih;have loop:∀ (xs:List aa) (slf:Nat->aa->Option Bool) (i:Nat),u.Kids.drop i=xs->(∀ k,k∈xs->∃ b,To (λn=>slf n k) b/\(b=true->labs k))->
   To (λn=>M.eY u (slf n) n (i:Int)) (.inr false)\/(To (λn=>M.eY u (slf n) n (i:Int)) (.inl ())/\ ∀ k,k∈xs->labs k):=by
  intro xs;induction xs with
  | nil=>
   intro slf i hx hs;refine .inr ⟨To.succ ?_,λk hk=>by cases hk⟩;simp only [M.eY];exact To.neg (aM hx) To.pure
  | cons x xs ih=>
   intro slf i hx hs;obtain ⟨b,hb,hl⟩:=hs x (by simp);cases b with
   | false=>
    refine .inl (To.succ ?_);simp only [M.eY];exact To.pos (aD hx) (To.bindS (ax hx) (To.bind hb.shift (To.pos rfl To.pure)))
   | true=>
    rcases ih (λn=>slf (n+1)) (i+1) (aC hx) (λk hk=>by
     obtain ⟨b,h1,h2⟩:=hs k (by simp [hk]);exact ⟨b,h1.shift,h2⟩) with h | ⟨h,hk⟩
    .refine .inl (To.succ ?_);simp only [M.eY];refine To.pos (aD hx) (To.bindS (ax hx) (To.bind hb.shift (To.neg (by simp) ?_)));rw [aP];exact h
    .refine .inr ⟨To.succ ?_,λk hk'=>?_⟩
     .simp only [M.eY];refine To.pos (aD hx) (To.bindS (ax hx) (To.bind hb.shift (To.neg (by simp) ?_)));rw [aP];exact h
     .rcases List.mem_cons.1 hk' with rfl | hk'
      .exact hl rfl
      .exact hk k hk'
 by_cases hlab:30<u.Label.length
 .refine ⟨false,To.succ ?_,λh=>by cases h⟩;simp only [M.mF];exact To.bind (a:=true) (To.pos (by omega) To.pure) (To.pos rfl To.pure)
 .obtain ⟨b1,k1,l1⟩:=Hz u.Head;obtain ⟨b2,k2,l2⟩:=Hz u.Words;have ha:To (λn=>Option.bind (M.qm n u.Head) λshort=>if short=false then some true else Option.bind (M.qm n u.Words) λshort1=>some (!short1)) (!(b1 && b2)):=by
   refine To.bind k1 ?_;cases b1 with
   | false=>exact To.pos rfl To.pure
   | true=>exact To.neg (by simp) (To.bind k2 (To.pure.of (by simp)))
  cases hb:(b1 && b2) with
  | false=>
   rw [hb] at ha;refine ⟨false,To.succ ?_,λh=>by cases h⟩;simp only [M.mF];exact To.bind (a:=true) (To.neg (by omega) ha) (To.pos rfl To.pure)
  | true=>
   rw [hb] at ha;rw [Bool.and_eq_true] at hb;have e1:=l1 hb.1;have e2:=l2 hb.2;rcases loop u.Kids (λn=>M.mF n) 0 rfl ih with h | ⟨h,hk⟩
   .refine ⟨false,To.succ ?_,λh=>by cases h⟩;simp only [M.mF];exact To.bind (a:=false) (To.neg (by omega) ha) (To.neg (by simp) (To.bind h To.pure))
   .refine ⟨true,To.succ ?_,λ_ x hx=>?_⟩
    .simp only [M.mF];exact To.bind (a:=false) (To.neg (by omega) ha) (To.neg (by simp) (To.bind h To.pure))
    .rw [fJ] at hx;rcases List.mem_cons.1 hx with rfl | hx
     .exact ⟨by omega,by omega,by omega⟩
     .obtain ⟨k,h1,h2⟩:=List.mem_flatMap.1 hx;exact hk k h1 x h2
theorem Pq(u:aa)(most:Int)(h0:0<=most)(h1:most<=1000000):∃ b,To (λn=>M.rZ n u most) b/\(b=true->(cnt u:Int)<=most/\labs u):=by
 obtain ⟨r,ht,q1,q2,q3⟩:=Sq u 0 most (by omega) (by omega) h0 h1;by_cases hr:r<=most
 .obtain ⟨b,hb,hl⟩:=Pp u;refine ⟨b,?_,λh=>⟨by have:=q3 hr;omega,hl h⟩⟩;simp only [M.rZ];exact To.bind ht (To.pos hr (To.bind hb To.pure))
 .refine ⟨false,?_,λh=>by cases h⟩;simp only [M.rZ];exact To.bind ht (To.neg hr To.pure)
theorem yw{u k:aa}(hk:k∈u.Kids):k∈desc u:=mX hk (fU k)
theorem MR(u:aa):cnt u<=1000000->To (λn=>M.qp n u) (cnt u:Int):=by
 refine Wd (P:=λu=>cnt u<=1000000->To (λn=>M.qp n u) (cnt u:Int)) ?_ u;intro u ih hc;have loop:∀ (xs:List aa) (slf:Nat->aa->Option Int) (i d:Nat),u.Kids.drop i=xs->(∀ k,k∈xs->To (λn=>slf n k) (cnt k:Int))->d+(xs.map cnt).sum<=1000000->
   To (λn=>M.iV u (slf n) n (d:Int) (i:Int)) ((d+(xs.map cnt).sum:Nat):Int):=by
  intro xs;induction xs with
  | nil=>
   intro slf i d hx hs hd;refine To.succ ?_;simp only [M.iV];exact To.neg (aM hx) (To.pure.of (by simp))
  | cons x xs ih=>
   intro slf i d hx hs hd;simp only [List.map_cons,List.sum_cons] at hd;refine To.succ ?_;simp only [M.iV];refine To.pos (aD hx) (To.bindS (ax hx) (To.bind (hs x (by simp)).shift (To.bindS (ku (by omega) (by omega)) ?_)));rw [aP,show (d:Int)+(cnt x:Int)=((d+cnt x:Nat):Int) by omega];refine (ih (λn=>slf (n+1)) (i+1) (d+cnt x) (aC hx) (λk hk=>(hs k (by simp [hk])).shift) (by omega)).of ?_;simp only [List.map_cons,List.sum_cons];congr 1;omega
 have he:=lH u;refine To.succ ?_;simp only [M.qp];refine To.bind (loop u.Kids (λn=>M.qp n) 0 1 rfl (λk hk=>ih k hk (by have:=jW hk;omega)) (by omega)) (To.pure.of (by rw [he]))
theorem Ff(u:aa):cnt u<=1000000->To (λn=>M.ut n u) ((desc u).map aa.Id):=by
 refine Wd (P:=λu=>cnt u<=1000000->To (λn=>M.ut n u) ((desc u).map aa.Id)) ?_ u;intro u ih hc;have loop:∀ (xs:List aa) (slf:Nat->aa->Option (List ai)) (i:Nat) (out:List ai),u.Kids.drop i=xs->(∀ k,k∈xs->To (λn=>slf n k) ((desc k).map aa.Id))->out.length+(xs.map cnt).sum<=1000000->
   To (λn=>M.kz u (slf n) n out (i:Int)) (out++(xs.flatMap desc).map aa.Id):=by
  intro xs;induction xs with
  | nil=>
   intro slf i out hx hs hd;refine To.succ ?_;simp only [M.kz];exact To.neg (aM hx) (To.pure.of (by simp))
  | cons x xs ih=>
   intro slf i out hx hs hd;simp only [List.map_cons,List.sum_cons] at hd;refine To.succ ?_;simp only [M.kz];have hlen:((desc x).map aa.Id).length=cnt x:=by simp [cnt]
   refine To.pos (aD hx) (To.bindS (ax hx) (To.bind (hs x (by simp)).shift (To.bindS (bu (by omega)) ?_)));rw [aP];refine (ih (λn=>slf (n+1)) (i+1) _ (aC hx) (λk hk=>(hs k (by simp [hk])).shift) (by rw [List.length_append];omega)).of ?_;simp
 have he:=lH u;refine To.succ ?_;simp only [M.ut];refine To.bind (loop u.Kids (λn=>M.ut n) 0 [u.Id] rfl (λk hk=>ih k hk (by have:=jW hk;omega)) (by simp;omega)) (To.pure.of (by rw [fJ u];simp))
theorem Ps(all:List ai)(i:Nat)(hi:i<all.length)(hb:all.length<=1000000):∀ (d k:Nat),i-k<=d->Tot (λn=>M.dV all (i:Int) n (k:Int)):=by
 intro d;induction d with
 | zero=>
  intro k hk;refine Tot.succ ?_;simp only [M.dV];exact Tot.neg (by omega) Tot.pure
 | succ d ih=>
  intro k hk;refine Tot.succ ?_;simp only [M.dV];by_cases h:k<i
  .obtain ⟨x,hx,_⟩:=pW (l:=all) (i:=(k:Int)) (by omega) (by omega);obtain ⟨y,hy,_⟩:=pW (l:=all) (i:=(i:Int)) (by omega) (by omega);exact Tot.pos (by omega) (Tot.bindS hx (Tot.bindS hy (Tot.ite (λ_=>Tot.pure) λ_=>Tot.bindS (eO (by omega)) (ih (k+1) (by omega)))))
  .exact Tot.neg (by omega) Tot.pure
theorem Pt(all:List ai)(hb:all.length<=1000000):∀ (xs:List ai) (i:Nat),all.drop i=xs->Tot (λn=>M.eG all n (i:Int)):=by
 intro xs;induction xs with
 | nil=>
  intro i hx;refine Tot.succ ?_;simp only [M.eG];exact Tot.neg (aM hx) Tot.pure
 | cons x xs ih=>
  intro i hx;have hi:=(fT hx).1;refine Tot.succ ?_;simp only [M.eG];refine Tot.pos (aD hx) (Tot.bind (Ps all i hi hb i 0 (by omega)) λc _=>?_);cases c with
  | inl _=>exact Tot.bindS (eO (by omega)) (ih (i+1) (aC hx))
  | inr _=>exact Tot.pure
theorem Pv(all:List ai):∀ (xs:List ai) (i:Nat) (b:Bool),all.drop i=xs->Tot (λn=>M.fw all n b (i:Int)):=by
 intro xs;induction xs with
 | nil=>
  intro i b hx;refine Tot.succ ?_;simp only [M.fw];exact Tot.neg (aM hx) Tot.pure
 | cons x xs ih=>
  intro i b hx;refine Tot.succ ?_;simp only [M.fw];rw [aP];exact Tot.pos (aD hx) (Tot.ite (λ_=>Tot.bindS (ax hx) (ih (i+1) _ (aC hx))) λ_=>ih (i+1) _ (aC hx))
theorem Su(u:aa)(hc:cnt u<=1000000):Tot (λn=>M.r9 n u):=by
 have hl:((desc u).map aa.Id).length<=1000000:=by simpa [cnt] using hc
 simp only [M.r9];refine Tot.bind (Ff u hc).tot λa ha=>?_;obtain rfl:=ha.det (Ff u hc);refine Tot.bind (Pv _ _ 0 true rfl) λb _=>Tot.ite (λ_=>Tot.pure) λ_=>?_;have h0:idx ((desc u).map aa.Id) 0=some u.Id:=by rw [fJ];simp [idx]
 refine Tot.bindS h0 (Tot.ite (λ_=>Tot.pure) λ_=>Tot.bind (Pt _ hl _ 0 rfl) λc _=>?_);cases c<;> exact Tot.pure
def Wm(s:av):Bool:=decide (s.Kind=0) && (s.Label==([]:Str))
def VY(x:aa)(s:av):Bool:=decide (x.Kind=s.Kind) && (x.Label==s.Label)
def We(s:av):Bool:=decide (1<=s.Kind) && decide (s.Kind<=7) && qP s.Label
def Wj:List av->Bool
 | []=>true
 | s :: p=>We s && Wj p
def V7(p:List av):Bool:=
 (match p with
  | []=>true
  | s :: q=>(Wm s || We s) && Wj q) && decide (p.length<=9)
theorem JW(s:av):M.o9 s=some (Wm s):=by
 simp only [M.o9,Wm];split<;> simp_all
theorem JX(s:av):M.uX s=some (Wm s):=by
 simp only [M.uX,Wm];split<;> simp_all
theorem CK(x:aa)(s:av):M.mJ x s=some (VY x s):=by
 simp only [M.mJ,VY];split<;> simp_all
theorem HV(x:aa)(s:av):M.zV x s=some (VY x s):=by
 simp only [M.zV,VY];split<;> simp_all
theorem CL(p:List av)(i:Int)(hi:1<=i):To (λn=>M.bO n p i) (if Wj p then .inl () else .inr false):=by
 induction p generalizing i with
 | nil=>simp only [M.bO];exact To.pure
 | cons s p ih=>
  simp only [M.bO];refine To.bind (a:=false) (To.neg (by omega) To.pure) (To.neg (by simp) ?_);by_cases h1:s.Kind<=0
  .exact To.pos h1 (To.pure.of (by rw [if_neg];simp [Wj,We];omega))
  refine To.neg h1 ?_;by_cases h2:7<s.Kind
  .exact To.pos h2 (To.pure.of (by rw [if_neg];simp [Wj,We];omega))
  refine To.neg h2 (To.bind (tV s.Label) ?_);cases hl:qP s.Label with
  | false=>exact To.pos rfl (To.pure.of (by rw [if_neg];simp [Wj,We,hl]))
  | true=>
   refine To.neg (by simp) ((ih (i+1) (by omega)).of ?_);have:We s=true:=by simp [We,hl];omega
   simp [Wj,this]
theorem CO(p:List av):To (λn=>M.mh n p) (V7 p):=by
 simp only [M.mh];cases p with
 | nil=>
  simp only [M.bO];exact To.bind (f:=λ_=>some (Sum.inl ())) To.pure (To.pure.of (by simp [V7]))
 | cons s p=>
  have fin:∀ b:Bool,To (λn=>M.bO n (s :: p) 0) (if b then .inl () else .inr false)->b=((Wm s || We s) && Wj p)->To (λn=>Option.bind (M.bO n (s :: p) 0) λ
    | .inl _=>some (decide (((s :: p).length:Int)<=(9:Int)))
    | .inr ret0=>some ret0) (V7 (s :: p)):=by
   intro b hb he;refine To.bind hb ?_;cases b with
   | true=>exact To.pure.of (by simp only [V7,<-he];simp;omega)
   | false=>exact To.pure.of (by simp [V7,<-he])
  refine fin ((Wm s || We s) && Wj p) ?_ rfl;simp only [M.bO];refine To.bind (a:=Wm s) (To.pos (by simp) (To.bindS (JW s) To.pure)) ?_;cases hb:Wm s with
  | true=>
   refine To.pos rfl ((CL p (0+1) (by omega)).of (by simp))
  | false=>
   refine To.neg (by simp) ?_;simp only [Bool.false_or];by_cases h1:s.Kind<=0
   .exact To.pos h1 (To.pure.of (by rw [if_neg];simp [We];omega))
   refine To.neg h1 ?_;by_cases h2:7<s.Kind
   .exact To.pos h2 (To.pure.of (by rw [if_neg];simp [We];omega))
   refine To.neg h2 (To.bind (tV s.Label) ?_);cases hl:qP s.Label with
   | false=>exact To.pos rfl (To.pure.of (by rw [if_neg];simp [We,hl]))
   | true=>
    refine To.neg (by simp) ((CL p (0+1) (by omega)).of ?_);have:We s=true:=by simp [We,hl];omega
    simp [this]
theorem Pw(p:List av)(hp:∀ y,y∈p->y.Label.length<=1000000000):∀ (xs:List av) (i:Nat),1<=i->p.drop i=xs->To (λn=>M.fA p n (i:Int)) (if Wj xs then .inl () else .inr false):=by
 intro xs;induction xs with
 | nil=>
  intro i _ hx;refine To.succ ?_;simp only [M.fA];exact To.neg (aM hx) To.pure
 | cons s xs ih=>
  intro i hi hx;refine To.succ ?_;simp only [M.fA];refine To.pos (aD hx) (To.bind (a:=false) (To.neg (by omega) To.pure) (To.neg (by simp) (To.bindS (ax hx) ?_)));by_cases h1:s.Kind<1
  .exact To.pos h1 (To.pure.of (by rw [if_neg];simp [Wj,We];omega))
  refine To.neg h1 (To.bindS (ax hx) ?_);by_cases h2:7<s.Kind
  .exact To.pos h2 (To.pure.of (by rw [if_neg];simp [Wj,We];omega))
  have hm:s∈p:=List.mem_of_getElem? (fT hx).2.1;refine To.neg h2 (To.bindS (ax hx) (To.bind (WK s.Label (hp s hm)) ?_));cases hl:qP s.Label with
  | false=>exact To.pos rfl (To.pure.of (by rw [if_neg];simp [Wj,We,hl]))
  | true=>
   refine To.neg (by simp) ?_;rw [aP];refine (ih (i+1) (by omega) (aC hx)).of ?_;have:We s=true:=by simp [We,hl];omega
   simp [Wj,this]
theorem JY(p:List av)(hp:∀ y,y∈p->y.Label.length<=1000000000):To (λn=>M.uw n p) (V7 p):=by
 simp only [M.uw];by_cases h9:9<p.length
 .refine To.pos (by omega) (To.pure.of ?_);cases p with
  | nil=>simp at h9
  | cons s q=>simp only [V7];rw [decide_eq_false (show ¬ (s :: q).length<=9 by omega)];simp
 refine To.neg (by omega) ?_;cases p with
 | nil=>
  refine To.bind (a:=.inl ()) (To.succ ?_) ?_
  .simp only [M.fA];exact To.neg (by simp) To.pure
  .exact To.pure.of (by simp [V7])
 | cons s p=>
  have fin:∀ b:Bool,To (λn=>M.fA (s :: p) n 0) (if b then .inl () else .inr false)->b=((Wm s || We s) && Wj p)->To (λn=>Option.bind (M.fA (s :: p) n 0) λ
    | .inl _=>some true
    | .inr ret0=>some ret0) (V7 (s :: p)):=by
   intro b hb he;refine To.bind hb ?_;cases b with
   | true=>exact To.pure.of (by simp only [V7,<-he];simp at h9 ⊢;omega)
   | false=>exact To.pure.of (by simp [V7,<-he])
  refine fin ((Wm s || We s) && Wj p) (To.succ ?_) rfl;have hs:=hp s (by simp);have hn:=Pw (s :: p) hp p 1 (by omega) rfl;simp only [M.fA];refine To.pos (by simp) (To.bind (a:=Wm s) (To.pos (by simp) (To.bindS eP (To.bindS (JX s) To.pure))) ?_);cases hb:Wm s with
  | true=>exact To.pos rfl (hn.of (by simp))
  | false=>
   refine To.neg (by simp) (To.bindS eP ?_);simp only [Bool.false_or];by_cases h1:s.Kind<1
   .exact To.pos h1 (To.pure.of (by rw [if_neg];simp [We];omega))
   refine To.neg h1 (To.bindS eP ?_);by_cases h2:7<s.Kind
   .exact To.pos h2 (To.pure.of (by rw [if_neg];simp [We];omega))
   refine To.neg h2 (To.bindS eP (To.bind (WK s.Label hs) ?_));cases hl:qP s.Label with
   | false=>exact To.pos rfl (To.pure.of (by rw [if_neg];simp [We,hl]))
   | true=>
    refine To.neg (by simp) (hn.of ?_);have:We s=true:=by simp [We,hl];omega
    simp [this]
theorem Ei(u:aa):cnt u<=1000000->To (λn=>M.mV n u) (desc u):=by
 refine Wd (P:=λu=>cnt u<=1000000->To (λn=>M.mV n u) (desc u)) ?_ u;intro u ih hc;have loop:∀ (xs:List aa) (slf:Nat->aa->Option (List aa)) (i:Nat) (out:List aa),u.Kids.drop i=xs->(∀ k,k∈xs->To (λn=>slf n k) (desc k))->out.length+(xs.map cnt).sum<=1000000->
   To (λn=>M.je u (slf n) n out (i:Int)) (out++xs.flatMap desc):=by
  intro xs;induction xs with
  | nil=>
   intro slf i out hx hs hd;refine To.succ ?_;simp only [M.je];exact To.neg (aM hx) (To.pure.of (by simp))
  | cons x xs ih=>
   intro slf i out hx hs hd;simp only [List.map_cons,List.sum_cons] at hd;refine To.succ ?_;simp only [M.je];have hlen:(desc x).length=cnt x:=rfl;refine To.pos (aD hx) (To.bindS (ax hx) (To.bind (hs x (by simp)).shift (To.bindS (bu (by omega)) ?_)));rw [aP];refine (ih (λn=>slf (n+1)) (i+1) _ (aC hx) (λk hk=>(hs k (by simp [hk])).shift) (by rw [List.length_append];omega)).of ?_;simp
 have he:=lH u;refine To.succ ?_;simp only [M.mV];refine To.bind (loop u.Kids (λn=>M.mV n) 0 [u] rfl (λk hk=>ih k hk (by have:=jW hk;omega)) (by simp;omega)) (To.pure.of (by rw [fJ u];simp))
def wsum(l:List aa):Nat:=(l.map cnt).sum
theorem HY(l:List aa):l.length<=wsum l:=EY cnt xL l
theorem qC(x:aa)(l:List aa):wsum (x :: l)=cnt x+wsum l:=by simp [wsum]
theorem HZ(l m:List aa):wsum (l++m)=wsum l+wsum m:=by simp [wsum]
theorem rQ(p:aa->Bool):∀ l:List aa,wsum (l.filter p)<=wsum l
 | []=>by simp [wsum]
 | x :: l=>by
  have:=rQ p l;rw [List.filter_cons];split
  .rw [qC,qC];omega
  .rw [qC];omega
theorem Ej:∀ l:List aa,wsum (l.flatMap aa.Kids)<=wsum l
 | []=>by simp [wsum]
 | x :: l=>by
  have:=Ej l;have:=lH x;rw [List.flatMap_cons,HZ,qC];unfold wsum at *;omega
theorem Ac(u:aa):wsum (desc u)<=cnt u*cnt u:=by
 have:∀ l:List aa,(∀ x,x∈l->cnt x<=cnt u)->wsum l<=l.length*cnt u:=by
  intro l;induction l with
  | nil=>intro _;simp [wsum]
  | cons x l ih=>
   intro h;have h1:=h x (by simp);have h2:=ih (λy hy=>h y (by simp [hy]));rw [qC,List.length_cons,Nat.add_mul];omega
 refine this _ ?_;refine Wd (P:=λu=>∀ x,x∈desc u->cnt x<=cnt u) ?_ u;intro u ih x hx;rw [fJ] at hx;rcases List.mem_cons.1 hx with rfl | hx
 .exact Nat.le_refl _
 .obtain ⟨k,h1,h2⟩:=List.mem_flatMap.1 hx;have:=ih k h1 x h2;have:=jW h1;omega
def down(s:av)(l:List aa):List aa:=(l.flatMap aa.Kids).filter (λx=>VY x s)
theorem Ad(s:av)(l:List aa):wsum (down s l)<=wsum l:=Nat.le_trans (rQ _ _) (Ej l)
def way:List av->List aa->List aa
 | [],l=>l
 | s :: p,l=>way p (down s l)
def units(u:aa)(p:List av):List aa:=
 if V7 p then
  match p with
  | []=>[u]
  | s :: q=>way q (if Wm s then [u] else (desc u).filter (λx=>VY x s))
 else []
def lim38:Nat:=100000000000
theorem WM(s:av):∀ (xs next:List aa),next.length+xs.length<=lim38->M.dX s xs next=some (next++xs.filter (λx=>VY x s))
 | [],next,_=>by simp [M.dX]
 | x :: xs,next,h=>by
  simp only [List.length_cons] at h;simp only [M.dX,CK,Option.bind_some];cases hc:VY x s with
  | true=>
   rw [if_pos rfl,bu (by unfold lim38 at h;simp;omega)];simp only [Option.bind_some];rw [WM s xs _ (by simp;omega)];simp [hc]
  | false=>
   rw [if_neg (by simp),WM s xs _ (by omega)];simp [hc]
theorem WX(s:av):∀ (xs next:List aa),next.length+wsum xs<=lim38->M.eQ s xs next=some (next++down s xs)
 | [],next,_=>by simp [M.eQ,down]
 | x :: xs,next,h=>by
  rw [qC] at h;have hk:=qN x;simp only [M.eQ];rw [WM s x.Kids next (by omega)];simp only [Option.bind_some];have hf:=List.length_filter_le (λy=>VY y s) x.Kids;rw [WX s xs _ (by simp only [List.length_append];omega)];simp [down]
theorem found1:∀ (p:List av) (l:List aa),wsum l<=lim38->M.dY p l=some (way p l)
 | [],l,_=>by simp [M.dY,way]
 | s :: p,l,h=>by
  simp only [M.dY];rw [WX s l [] (by simpa using h)];simp only [Option.bind_some,List.nil_append];rw [found1 p _ (Nat.le_trans (Ad s l) h)];rfl
theorem Sv(s:av)(q:List av)(u:aa):∀ w:List aa,w.length+cnt u<=lim38->To (λn=>M.jc n u (s :: q) w) (w++(desc u).filter (λx=>VY x s)):=by
 refine Wd (P:=λu=>∀ w:List aa,w.length+cnt u<=lim38->To (λn=>M.jc n u (s :: q) w) (w++(desc u).filter (λx=>VY x s))) ?_ u;intro u ih w hw;have loop:∀ (xs:List aa) (slf:Nat->aa->List av->List aa->Option (List aa)) (w:List aa),(∀ k,k∈xs->∀ w:List aa,w.length+cnt k<=lim38->To (λn=>slf n k (s :: q) w) (w++(desc k).filter (λx=>VY x s)))->
   w.length+wsum xs<=lim38->To (λn=>M.dE (s :: q) (slf n) xs w) (w++(xs.flatMap desc).filter (λx=>VY x s)):=by
  intro xs;induction xs with
  | nil=>intro slf w hs hw;simp only [M.dE];exact To.pure.of (by simp)
  | cons x xs ih=>
   intro slf w hs hw;rw [qC] at hw;simp only [M.dE];refine To.bind (hs x (by simp) w (by omega)) ?_;have hf:=List.length_filter_le (λy=>VY y s) (desc x);have hl:(desc x).length=cnt x:=rfl;refine (ih slf _ (λk hk=>hs k (by simp [hk])) (by rw [List.length_append];omega)).of ?_;simp
 have he:=lH u;refine To.succ ?_;simp only [M.jc,M.nP];have fin:∀ w2:List aa,w2=w++([u].filter (λx=>VY x s))->To (λn=>Option.bind (M.dE (s :: q) (M.jc n) u.Kids w2) λv=>some v) (w++(desc u).filter (λx=>VY x s)):=by
  intro w2 hw2;have hf:=List.length_filter_le (λy=>VY y s) [u];simp only [List.length_singleton] at hf;refine To.bind (loop u.Kids (λn=>M.jc n) w2 (λk hk=>ih k hk) (by rw [hw2,List.length_append];unfold wsum;omega)) (To.pure.of ?_);rw [hw2,fJ u,List.filter_cons];by_cases hc:VY u s=true
  .simp [hc]
  .simp [hc]
 cases hc:VY u s with
 | true=>
  refine To.bindS (a:=w++ [u]) ?_ (fin _ (by simp [hc]));rw [eP];simp only [Option.bind_some,CK,hc];rw [if_pos trivial,bu (by unfold lim38 at hw;simp;omega)];rfl
 | false=>
  refine To.bindS (a:=w) ?_ (fin _ (by simp [hc]));rw [eP];simp only [Option.bind_some,CK,hc];rw [if_neg (by simp)]
theorem Px(u:aa)(p:List av)(hc:cnt u<=10000):To (λn=>M.pI n u p) (units u p):=by
 simp only [M.pI];refine To.bind (CO p) ?_;unfold units;cases hv:V7 p with
 | false=>exact To.pos rfl (To.pure.of (by simp))
 | true=>
  refine To.neg (by simp) ?_;cases p with
  | nil=>
   refine To.bind (a:=.inr [u]) (To.pos (by simp) To.pure) ?_;exact To.pure.of (by simp)
  | cons s q=>
   have h2:cnt u*cnt u<=10000*10000:=Nat.mul_le_mul hc hc;have hslc:slcLo (s :: q) 1=some q:=by simp [slcLo];omega
   have fin:∀ l:List aa,wsum l<=lim38->l=(if Wm s then [u] else (desc u).filter (λx=>VY x s))->To (λn:Nat=>Option.bind (slcLo (s :: q) (1:Int)) λv1=>Option.bind (M.dY v1 l) λat0_2=>some at0_2) (way q (if Wm s then [u] else (desc u).filter (λx=>VY x s))):=by
    intro l hl he;rw [hslc];simp only [Option.bind_some];rw [found1 q l hl];exact To.pure.of (by rw [he])
   simp only [if_true];cases hb:Wm s with
   | true=>
    refine To.bind (a:=.inl [u]) (To.neg (by simp;omega) (To.bindS eP (To.bindS (JW s) (To.pos (by simp [hb]) To.pure)))) ?_;have:=fin [u] (by simp [wsum,lim38];omega) (by simp [hb]);rw [hb] at this;exact this
   | false=>
    have he:=Sv s q u [] (by simp [lim38];omega);refine To.bind (a:=.inl ((desc u).filter (λx=>VY x s))) (To.neg (by simp;omega) (To.bindS eP (To.bindS (JW s) (To.neg (by simp [hb]) (To.bind he (To.pure.of (by simp))))))) ?_;have hw:=Nat.le_trans (rQ (λx=>VY x s) (desc u)) (Ac u);have:=fin ((desc u).filter (λx=>VY x s)) (by unfold lim38;omega) (by simp [hb]);rw [hb] at this;exact this
theorem JZ(u:aa)(p:List av)(hc:cnt u<=10000)(hl:(units u p).length<=lim38):To (λn=>M.nQ n u p) ((units u p).map aa.Id):=by
 have loop:∀ (xs:List aa) (out:List ai),out.length+xs.length<=lim38->M.dN xs out=some (out++xs.map aa.Id):=by
  intro xs;induction xs with
  | nil=>intro out _;simp [M.dN]
  | cons x xs ih=>
   intro out h;simp only [List.length_cons] at h;simp only [M.dN];rw [bu (by unfold lim38 at h;simp;omega)];simp only [Option.bind_some];rw [ih _ (by simp;omega)];simp
 simp only [M.nQ];refine To.bind (Px u p hc) ?_;rw [loop _ [] (by simpa using hl)];exact To.pure.of (by simp)
def oneOf:List ai->ai×Int
 | []=>(aO,7)
 | [x]=>(x,0)
 | _=>(aO,8)
theorem vR(u:aa)(p:List av)(hc:cnt u<=10000)(hl:(units u p).length<=lim38):To (λn=>M.dM n u p) (oneOf ((units u p).map aa.Id)):=by
 simp only [M.dM];refine To.bind (JZ u p hc hl) ?_
 match (units u p).map aa.Id with
 | []=>exact To.pos (by simp) To.pure
 | [x]=>exact To.neg (by simp) (To.pos (by simp) (To.bindS eP To.pure))
 | x :: y :: l=>exact To.neg (by simp;omega) (To.neg (by simp;omega) To.pure)
theorem K7:∀ (p:List av) (l:List aa),(way p l).length<=wsum l
 | [],l=>HY l
 | s :: p,l=>Nat.le_trans (K7 p _) (Ad s l)
theorem xM(u:aa)(p:List av):(units u p).length<=cnt u*cnt u:=by
 have h1:=xL u;have h2:1*cnt u<=cnt u*cnt u:=Nat.mul_le_mul_right _ h1;unfold units;split
 .split
  .simp;omega
  .rename_i s q _;refine Nat.le_trans (K7 q _) ?_;split
   .simp [wsum];omega
   .exact Nat.le_trans (rQ _ _) (Ac u)
 .simp
theorem VK(p:List av)(now:List aa)(k i:Nat)(s:av)(y:aa)(hs:idx p (k:Int)=some s)(hy:idx now (i:Int)=some y):∀ (xs:List aa) (j:Nat) (next:List aa),y.Kids.drop j=xs->next.length+xs.length<=lim38->
  To (λn=>M.gV p now (k:Int) (i:Int) n next (j:Int)) (next++xs.filter (λx=>VY x s)):=by
 intro xs;induction xs with
 | nil=>
  intro j next hx _
  refine To.succ ?_;simp only [M.gV];exact To.bindS hy (To.neg (aM hx) (To.pure.of (by simp)))
 | cons x xs ih=>
  intro j next hx h
  simp only [List.length_cons] at h;refine To.succ ?_;simp only [M.gV];refine To.bindS hy (To.pos (aD hx) (To.bindS hy (To.bindS (ax hx) (To.bindS hs (To.bindS (HV x s) ?_)))));cases hc:VY x s with
  | true=>
   refine To.pos rfl (To.bindS hy (To.bindS (ax hx) (To.bindS (bu (by unfold lim38 at h;simp;omega)) ?_)));rw [aP];exact (ih (j+1) _ (aC hx) (by simp;omega)).of (by simp [hc])
  | false=>
   refine To.neg (by simp) ?_;rw [aP];exact (ih (j+1) _ (aC hx) (by omega)).of (by simp [hc])
theorem VL(p:List av)(now:List aa)(k:Nat)(s:av)(hs:idx p (k:Int)=some s):∀ (xs:List aa) (i:Nat) (next:List aa),now.drop i=xs->next.length+wsum xs<=lim38->i+xs.length<=lim38->
  To (λn=>M.jf p now (k:Int) n next (i:Int)) (next++down s xs):=by
 intro xs;induction xs with
 | nil=>
  intro i next hx _ _
  refine To.succ ?_;simp only [M.jf];exact To.neg (aM hx) (To.pure.of (by simp [down]))
 | cons x xs ih=>
  intro i next hx h hi
  rw [qC] at h;simp only [List.length_cons] at hi;have hk:=qN x;refine To.succ ?_;simp only [M.jf];refine To.pos (aD hx) (To.bind (VK p now k i s x hs (ax hx) x.Kids 0 next rfl (by omega)) (To.bindS (eO (by unfold lim38 at hi;omega)) ?_));have hf:=List.length_filter_le (λy=>VY y s) x.Kids;exact (ih (i+1) _ (aC hx) (by rw [List.length_append];omega) (by omega)).of (by simp [down])
theorem Uv(p:List av):∀ (xs:List av) (k:Nat) (now:List aa),p.drop k=xs->wsum now<=lim38->k+xs.length<=lim38->To (λn=>M.jg p n now (k:Int)) (way xs now):=by
 intro xs;induction xs with
 | nil=>
  intro k now hx _ _;refine To.succ ?_;simp only [M.jg];exact To.neg (aM hx) To.pure
 | cons s xs ih=>
  intro k now hx h hk;simp only [List.length_cons] at hk;refine To.succ ?_;simp only [M.jg];refine To.pos (aD hx) (To.bind (VL p now k s (ax hx) now 0 [] rfl (by simpa using h) (by have:=HY now;omega)) (To.bindS (eO (by unfold lim38 at hk;omega)) ?_));rw [List.nil_append];exact ih (k+1) _ (aC hx) (Nat.le_trans (Ad s now) h) (by omega)
theorem VM(p:List av)(s:av)(hs:idx p (0:Int)=some s)(every:List aa):∀ (xs:List aa) (i:Nat) (now:List aa),every.drop i=xs->now.length+xs.length<=lim38->To (λn=>M.gU p every n now (i:Int)) (now++xs.filter (λx=>VY x s)):=by
 intro xs;induction xs with
 | nil=>
  intro i now hx _;refine To.succ ?_;simp only [M.gU];exact To.neg (aM hx) (To.pure.of (by simp))
 | cons x xs ih=>
  intro i now hx h;simp only [List.length_cons] at h;refine To.succ ?_;simp only [M.gU];refine To.pos (aD hx) (To.bindS (ax hx) (To.bindS hs (To.bindS (HV x s) ?_)));cases hc:VY x s with
  | true=>
   refine To.pos rfl (To.bindS (ax hx) (To.bindS (bu (by unfold lim38 at h;simp;omega)) ?_));rw [aP];exact (ih (i+1) _ (aC hx) (by simp;omega)).of (by simp [hc])
  | false=>
   refine To.neg (by simp) ?_;rw [aP];exact (ih (i+1) _ (aC hx) (by omega)).of (by simp [hc])
theorem Sw(u:aa)(p:List av)(hc:cnt u<=10000)(hp:∀ y,y∈p->y.Label.length<=1000000000):To (λn=>M.u7 n u p) (units u p):=by
 simp only [M.u7];refine To.bind (JY p hp) ?_;unfold units;cases hv:V7 p with
 | false=>exact To.pos rfl (To.pure.of (by simp))
 | true=>
  refine To.neg (by simp) ?_;cases p with
  | nil=>exact To.pos (by simp) (To.pure.of (by simp))
  | cons s q=>
   have h2:cnt u*cnt u<=10000*10000:=Nat.mul_le_mul hc hc;have hq:(s :: q).length<=9:=by
    simp only [V7,Bool.and_eq_true,decide_eq_true_eq] at hv;exact hv.2
   simp only [List.length_cons] at hq;refine To.neg (by simp;omega) ?_;simp only [if_true];cases hb:Wm s with
   | true=>
    refine To.bind (a:=[u]) (To.bindS eP (To.bindS (JX s) (To.pos hb (To.bindS (bu (by simp)) To.pure)))) ?_;exact To.bind (Uv (s :: q) q 1 [u] rfl (by simp [wsum,lim38];omega) (by unfold lim38;omega)) To.pure
   | false=>
    have hw:=Nat.le_trans (rQ (λx=>VY x s) (desc u)) (Ac u);refine To.bind (a:=(desc u).filter (λx=>VY x s)) (To.bindS eP (To.bindS (JX s) (To.neg (by simp [hb]) (To.bind (Ei u (by omega)) (To.bind (VM (s :: q) s eP (desc u) (desc u) 0 [] rfl (by show 0+cnt u<=_;unfold lim38;omega)) (To.pure.of (by simp))))))) ?_;exact To.bind (Uv (s :: q) q 1 _ rfl (by unfold lim38;omega) (by unfold lim38;omega)) To.pure
theorem Vj(u:aa)(p:List av)(hc:cnt u<=10000)(hp:∀ y,y∈p->y.Label.length<=1000000000):To (λn=>M.wH n u p) ((units u p).map aa.Id):=by
 have hl:=xM u p;have h2:cnt u*cnt u<=10000*10000:=Nat.mul_le_mul hc hc;have loop:∀ (xs:List aa) (i:Nat) (out:List ai),(units u p).drop i=xs->out.length+xs.length<=lim38->To (λn=>M.jP (units u p) n out (i:Int)) (out++xs.map aa.Id):=by
  intro xs;induction xs with
  | nil=>
   intro i out hx _;refine To.succ ?_;simp only [M.jP];exact To.neg (aM hx) (To.pure.of (by simp))
  | cons x xs ih=>
   intro i out hx h;simp only [List.length_cons] at h;refine To.succ ?_;simp only [M.jP];refine To.pos (aD hx) (To.bindS (ax hx) (To.bindS (bu (by unfold lim38 at h;simp;omega)) ?_));rw [aP];exact (ih (i+1) _ (aC hx) (by simp;omega)).of (by simp)
 simp only [M.wH];exact To.bind (Sw u p hc hp) (To.bind (loop _ 0 [] rfl (by unfold lim38;simp;omega)) (To.pure.of (by simp)))
theorem VN(u:aa)(p:List av)(hc:cnt u<=10000)(hp:∀ y,y∈p->y.Label.length<=1000000000):To (λn=>M.uz n u p) (oneOf ((units u p).map aa.Id)):=by
 simp only [M.uz];refine To.bind (Vj u p hc hp) ?_
 match (units u p).map aa.Id with
 | []=>exact To.pos (by simp) To.pure
 | [x]=>exact To.neg (by simp) (To.neg (by simp) (To.bindS eP To.pure))
 | x :: y :: l=>exact To.neg (by simp;omega) (To.pos (by simp;omega) To.pure)
def Wh(id:ai)(u:aa):Option aa:=if u.Id=id then some u else u.Kids.attach.findSome? (λk=>Wh id k.1)
termination_by SizeOf.sizeOf u
decreasing_by exact vP k.2
theorem vX{β:Type}(f:aa->Option β)(l:List aa):l.attach.findSome? (λk=>f k.1)=l.findSome? f:=by
 rw [show (λk:{x // x∈l}=>f k.1)=f ∘ Subtype.val from rfl,<-List.findSome?_map,List.attach_map_subtype_val]
theorem vv(id:ai)(u:aa):Wh id u=if u.Id=id then some u else u.Kids.findSome? (Wh id):=by
 rw [Wh];split
 .rfl
 .exact vX (Wh id) u.Kids
def VZ(id:ai)(u:aa):Option (List aa):=if u.Id=id then some [u] else (u.Kids.attach.findSome? (λk=>VZ id k.1)).map (u :: ·)
termination_by SizeOf.sizeOf u
decreasing_by exact vP k.2
theorem mZ(id:ai)(u:aa):VZ id u=if u.Id=id then some [u] else (u.Kids.findSome? (VZ id)).map (u :: ·):=by
 rw [VZ];split
 .rfl
 .rw [vX (VZ id) u.Kids]
theorem sG(id:ai)(u:aa):∀ w,VZ id u=some w->w≠ []:=by
 intro w h;rw [mZ] at h;split at h
 .cases h;simp
 .obtain ⟨v,_,rfl⟩:=Option.map_eq_some_iff.1 h;simp
theorem w9(id:ai)(u:aa):∀ w,VZ id u=some w->w.length<=cnt u:=by
 refine Wd (P:=λu=>∀ w,VZ id u=some w->w.length<=cnt u) ?_ u;intro u ih w h;rw [mZ] at h;split at h
 .cases h;exact xL u
 .obtain ⟨v,hv,rfl⟩:=Option.map_eq_some_iff.1 h;obtain ⟨k,hk,he⟩:=List.exists_of_findSome?_eq_some hv;have:=ih k hk v he;have:=jW hk;simp only [List.length_cons];omega
theorem vw(id:ai)(u:aa):Wh id u=(VZ id u).bind List.getLast?:=by
 refine Wd (P:=λu=>Wh id u=(VZ id u).bind List.getLast?) ?_ u;intro u ih;rw [vv,mZ];split
 .rfl
 .have:∀ l:List aa,(∀ k,k∈l->Wh id k=(VZ id k).bind List.getLast?)->l.findSome? (Wh id)=((l.findSome? (VZ id)).map (u :: ·)).bind List.getLast?:=by
   intro l;induction l with
   | nil=>intro _;rfl
   | cons k l ihl=>
    intro h;have h1:=h k (by simp);have h2:=ihl λx hx=>h x (by simp [hx]);rw [List.findSome?_cons,List.findSome?_cons];cases hp:VZ id k with
    | none=>
     rw [hp] at h1;simp only [Option.bind_none] at h1;rw [h1];exact h2
    | some w=>
     rw [hp] at h1;have hw:=sG id k w hp;simp only [Option.bind_some] at h1;obtain ⟨x,hx⟩:∃ x,w.getLast? =some x:=by
      cases w with
      | nil=>exact absurd rfl hw
      | cons a b=>exact ⟨_,List.getLast?_eq_some_getLast (by simp)⟩
     rw [h1,hx];simp only [Option.map_some,Option.bind_some];rw [List.getLast?_cons,hx];rfl
  exact this u.Kids ih
theorem CP(id:ai)(u:aa):cnt u<=10000->To (λn=>M.mK n u id) ((VZ id u).getD []):=by
 refine Wd (P:=λu=>cnt u<=10000->To (λn=>M.mK n u id) ((VZ id u).getD [])) ?_ u;intro u ih hc;have loop:∀ (xs:List aa) (slf:Nat->aa->ai->Option (List aa)),(∀ k,k∈xs->cnt k<cnt u/\To (λn=>slf n k id) ((VZ id k).getD []))->
   To (λn=>M.kJ u id (slf n) xs) (match xs.findSome? (VZ id) with | none=>.inl () | some w=>.inr (u :: w)):=by
  intro xs;induction xs with
  | nil=>intro slf _;simp only [M.kJ];exact To.pure
  | cons x xs ih=>
   intro slf hs;obtain ⟨h1,h2⟩:=hs x (by simp);simp only [M.kJ];refine To.bind h2 ?_;rw [List.findSome?_cons];cases hp:VZ id x with
   | none=>exact To.neg (by simp) (ih slf λk hk=>hs k (by simp [hk]))
   | some w=>
    have hw:=sG id x w hp;have hl:=w9 id x w hp;refine To.pos (by simpa using hw) (To.bindS (bu (by simp;omega)) (To.bindS (a:=()) (by simp [neC]) (To.pure.of (by simp))))
 refine To.succ ?_;simp only [M.mK];rw [mZ];by_cases hid:u.Id=id
 .exact To.pos hid (To.bindS (a:=()) (by simp [neC]) (To.pure.of (by simp [hid])))
 .refine To.neg hid (To.bind (loop u.Kids (λn=>M.mK n) λk hk=>⟨jW hk,ih k hk (by have:=jW hk;omega)⟩) ?_);rw [if_neg hid];cases u.Kids.findSome? (VZ id) with
  | none=>exact To.pure
  | some w=>exact To.pure
theorem J2(u:aa):cnt u<=10000->labs u->To (λn=>M.fZ n u) u:=by
 refine Wd (P:=λu=>cnt u<=10000->labs u->To (λn=>M.fZ n u) u) ?_ u;intro u ih hc hl;have loop:∀ (xs:List aa) (slf:Nat->aa->Option aa) (out:List aa),(∀ k,k∈xs->To (λn=>slf n k) k)->out.length+xs.length<=10000->To (λn=>M.bY (slf n) xs out) (out++xs):=by
  intro xs;induction xs with
  | nil=>intro slf out _ _;simp only [M.bY];exact To.pure.of (by simp)
  | cons x xs ih=>
   intro slf out hs ho;simp only [List.length_cons] at ho;simp only [M.bY];refine To.bind (hs x (by simp)) (To.bindS (bu (by simp;omega)) ?_);exact (ih slf _ (λk hk=>hs k (by simp [hk])) (by simp;omega)).of (by simp)
 obtain ⟨h1,h2,h3⟩:=hl u (fU u);have hk:=qN u;refine To.succ ?_;simp only [M.fZ,M.bP];refine To.bindS (bu (by simp;omega)) (To.bindS (bu (by simp;omega)) ?_);simp only [List.nil_append];exact To.bind (loop u.Kids (λn=>M.fZ n) [] (λk hk=>ih k hk (by have:=jW hk;omega) (CJ hl hk)) (by simp;omega)) (To.pure.of (by rw [List.nil_append];cases u;rfl))
theorem tZ(id:ai)(u:aa):∀ x,Wh id u=some x->x∈desc u/\x.Id=id:=by
 refine Wd (P:=λu=>∀ x,Wh id u=some x->x∈desc u/\x.Id=id) ?_ u;intro u ih x h;rw [vv] at h;split at h
 .cases h;exact ⟨fU u,by assumption⟩
 .obtain ⟨k,hk,he⟩:=List.exists_of_findSome?_eq_some h;exact ⟨mX hk (ih k hk x he).1,(ih k hk x he).2⟩
theorem vz(id:ai)(u:aa):∀ x,x∈desc u->x.Id=id->∃ y,Wh id u=some y:=by
 refine Wd (P:=λu=>∀ x,x∈desc u->x.Id=id->∃ y,Wh id u=some y) ?_ u;intro u ih x hx he;rw [vv];split
 .exact ⟨_,rfl⟩
 .rename_i hn;rw [fJ] at hx;rcases List.mem_cons.1 hx with rfl | hx
  .exact absurd he hn
  .obtain ⟨k,h1,h2⟩:=List.mem_flatMap.1 hx;obtain ⟨y,hy⟩:=ih k h1 x h2 he;cases hf:u.Kids.findSome? (Wh id) with
   | some z=>exact ⟨z,rfl⟩
   | none=>
    have:=List.findSome?_eq_none_iff.1 hf k h1;rw [hy] at this;cases this
def findR(id:ai)(u:aa):aa×Bool:=match Wh id u with
 | some x=>(x,true)
 | none=>(az,false)
theorem zB{u x:aa}(h:x∈desc u):∀ y,y∈desc x->y∈desc u:=by
 refine Wd (P:=λu=>∀ x,x∈desc u->∀ y,y∈desc x->y∈desc u) ?_ u x h;intro u ih x hx y hy;rw [fJ] at hx;rcases List.mem_cons.1 hx with rfl | hx
 .exact hy
 .obtain ⟨k,h1,h2⟩:=List.mem_flatMap.1 hx;exact mX h1 (ih k h1 x h2 y hy)
theorem xN{u x:aa}(h:x∈desc u):cnt x<=cnt u:=by
 refine Wd (P:=λu=>∀ x,x∈desc u->cnt x<=cnt u) ?_ u x h;intro u ih x hx;rw [fJ] at hx;rcases List.mem_cons.1 hx with rfl | hx
 .exact Nat.le_refl _
 .obtain ⟨k,h1,h2⟩:=List.mem_flatMap.1 hx;have:=ih k h1 x h2;have:=jW h1;omega
theorem Py{u x:aa}(h:x∈desc u)(hl:labs u):labs x:=λy hy=>hl y (zB h y hy)
theorem J4(id:ai)(u:aa)(hc:cnt u<=10000)(hl:labs u):To (λn=>M.j6 n u id) (findR id u):=by
 simp only [M.j6];refine To.bind (CP id u hc) ?_;unfold findR;rw [vw];cases hp:VZ id u with
 | none=>exact To.pos (by simp) To.pure
 | some w=>
  have hw:=sG id u w hp;have hlen:=w9 id u w hp;obtain ⟨x,hx⟩:∃ x,w.getLast? =some x:=by
   cases w with
   | nil=>exact absurd rfl hw
   | cons a b=>exact ⟨_,List.getLast?_eq_some_getLast (by simp)⟩
  have hpos:0<w.length:=List.length_pos_iff.2 hw;have hf:Wh id u=some x:=by rw [vw,hp];exact hx
  have hm:=(tZ id u x hf).1;simp only [Option.getD_some,Option.bind_some,hx];refine To.neg (by omega) (To.bindS (lY (by omega) (by omega)) (To.bindS (a:=x) ?_ (To.bind (J2 x (by have:=xN hm;omega) (Py hm hl)) To.pure)));rw [List.getLast?_eq_getElem?] at hx;rw [show (w.length:Int)-1=((w.length-1:Nat):Int) by omega,lI];exact hx
def placeK(id:ai)(l:List aa):Nat:=l.findIdx (λk=>(VZ id k).isSome)
def WT(id:ai)(w:List aa):ai×Int×Bool:=match w.reverse with
 | _ :: p :: _=>(p.Id,((placeK id p.Kids:Nat):Int),true)
 | _=>(aO,-1,false)
def Wt(id:ai)(u:aa):ai×Int×Bool:=match VZ id u with
 | some w=>WT id w
 | none=>(aO,-1,false)
theorem El(id:ai)(u:aa)(w:List aa)(h:2<=w.length):WT id (u :: w)=WT id w:=by
 unfold WT;rw [List.reverse_cons];have:2<=w.reverse.length:=by simpa using h
 match hw:w.reverse,this with
 | a :: b :: c,_=>rfl
theorem vB{id:ai}{u:aa}(h:u.Id=id):VZ id u=some [u]:=by rw [mZ,if_pos h]
theorem xe{id:ai}{u:aa}{w:List aa}(h:u.Id≠id)(hw:VZ id u=some w):2<=w.length/\ ∃ v,u.Kids.findSome? (VZ id)=some v/\w=u :: v:=by
 rw [mZ,if_neg h] at hw;obtain ⟨v,hv,rfl⟩:=Option.map_eq_some_iff.1 hw;obtain ⟨k,hk,he⟩:=List.exists_of_findSome?_eq_some hv;have:=List.length_pos_iff.2 (sG id k v he);exact ⟨by simp;omega,v,hv,rfl⟩
theorem Em{id:ai}{u:aa}(h:VZ id u=none):u.Id≠id/\Wh id u=none:=by
 refine ⟨λe=>?_,?_⟩
 .rw [vB e] at h;cases h
 .rw [vw,h];rfl
theorem Ae{id:ai}{u:aa}{w:List aa}(h:VZ id u=some w):∃ x,Wh id u=some x:=by
 rw [vw,h];cases w with
 | nil=>exact absurd rfl (sG id u [] h)
 | cons a b=>
  refine ⟨(a :: b).getLast (by simp),?_⟩;rw [Option.bind_some];exact List.getLast?_eq_some_getLast (by simp)
theorem WY(l:List aa)(p:aa->Bool)(fs:Nat->aa->Option Bool)(hf:∀ k,k∈l->To (λn=>fs n k) (p k)):To (λn=>M.dm n l (fs n)) (if l.any p then ((l.findIdx p:Nat):Int) else -1):=by
 have loop:∀ (xs:List aa) (fs:Nat->aa->Option Bool) (i:Nat),l.drop i=xs->(∀ k,k∈xs->To (λn=>fs n k) (p k))->
   To (λn=>M.aU l (fs n) n (i:Int)) (if xs.any p then .inr ((i+xs.findIdx p:Nat):Int) else .inl ()):=by
  intro xs;induction xs with
  | nil=>
   intro fs i hx _;refine To.succ ?_;simp only [M.aU];exact To.neg (aM hx) (To.pure.of (by simp))
  | cons x xs ih=>
   intro fs i hx hs;refine To.succ ?_;simp only [M.aU];refine To.pos (aD hx) (To.bindS (ax hx) (To.bind (hs x (by simp)).shift ?_));cases hp:p x with
   | true=>exact To.pos rfl (To.pure.of (by simp [hp,List.findIdx_cons]))
   | false=>
    refine To.neg (by simp) ?_;rw [aP];refine (ih (λn=>fs (n+1)) (i+1) (aC hx) λk hk=>(hs k (by simp [hk])).shift).of ?_;simp only [List.any_cons,hp,Bool.false_or,List.findIdx_cons,cond_false];split
    .congr 2;omega
    .rfl
 simp only [M.dm];refine To.bind (loop l fs 0 rfl hf) ?_;by_cases h:l.any p=true
 .rw [if_pos h,if_pos h];exact To.pure.of (by simp)
 .rw [if_neg h,if_neg h];exact To.pure
theorem H5(id:ai)(u:aa):∀ w,VZ id u=some w->2<=w.length->∃ p,p∈desc u/\w[w.length-2]? =some p/\(p.Kids.any λk=>(VZ id k).isSome)=true/\WT id w=(p.Id,((placeK id p.Kids:Nat):Int),true):=by
 refine Wd (P:=λu=>∀ w,VZ id u=some w->2<=w.length->∃ p,p∈desc u/\w[w.length-2]? =some p/\(p.Kids.any λk=>(VZ id k).isSome)=true/\WT id w=(p.Id,((placeK id p.Kids:Nat):Int),true)) ?_ u;intro u ih w hw h2;by_cases hid:u.Id=id
 .rw [vB hid] at hw;cases hw;simp at h2
 .obtain ⟨_,v,hv,rfl⟩:=xe hid hw;obtain ⟨k,hk,he⟩:=List.exists_of_findSome?_eq_some hv;by_cases h3:2<=v.length
  .obtain ⟨p,q0,q1,q2,q3⟩:=ih k hk v he h3;refine ⟨p,mX hk q0,?_,q2,by rw [El id u v h3];exact q3⟩;rw [List.length_cons,show v.length+1-2=(v.length-2)+1 by omega,List.getElem?_cons_succ];exact q1
  .have hpos:=List.length_pos_iff.2 (sG id k v he);have h1:v.length=1:=by omega
   match v,h1 with
   | [a],_=>
    refine ⟨u,fU u,rfl,?_,by simp [WT]⟩;rw [List.any_eq_true];exact ⟨k,hk,by rw [he];rfl⟩
theorem Pz(id:ai)(u:aa)(hc:cnt u<=10000):To (λn=>M.kY n u id) (Wt id u):=by
 simp only [M.kY];refine To.bind (CP id u hc) ?_;unfold Wt;cases hp:VZ id u with
 | none=>exact To.pos (by simp) To.pure
 | some w=>
  simp only [Option.getD_some];have hlen:=w9 id u w hp;by_cases h2:w.length<2
  .refine To.pos (by omega) (To.pure.of ?_);have hpos:=List.length_pos_iff.2 (sG id u w hp)
   match w,hpos,h2 with
   | [a],_,_=>rfl
  .obtain ⟨p,q0,q1,q2,q3⟩:=H5 id u w hp (by omega);refine To.neg (by omega) (To.bindS (lY (by omega) (by omega)) (To.bindS (a:=p) ?_ ?_))
   .rw [show (w.length:Int)-2=((w.length-2:Nat):Int) by omega,lI];exact q1
   .have hi:=WY p.Kids (λk=>(VZ id k).isSome) (λn s0=>M.ol n s0 id) (λk hk=>by
     simp only [M.ol];refine To.bind (CP id k (by have:=jW hk;have:=xN q0;omega)) (To.pure.of ?_);cases hk:VZ id k with
     | none=>rfl
     | some v=>
      have:=sG id k v hk;cases v with
      | nil=>exact absurd rfl this
      | cons a b=>rfl)
    rw [if_pos q2] at hi;refine To.bind hi (To.pure.of ?_);rw [q3];rfl
theorem K8(u:aa):∀ (p:List av) (l:List aa),(∀ x,x∈l->x∈desc u)->∀ x,x∈way p l->x∈desc u
 | [],l,h,x,hx=>h x hx
 | s :: p,l,h,x,hx=>by
  refine K8 u p (down s l) (λy hy=>?_) x hx;obtain ⟨z,hz,hk⟩:=List.mem_flatMap.1 (List.mem_filter.1 hy).1;exact zB (h z hz) y (yw hk)
theorem MS(u:aa)(p:List av):∀ x,x∈units u p->x∈desc u:=by
 intro x hx;unfold units at hx;split at hx
 .split at hx
  .rw [List.mem_singleton.1 hx];exact fU u
  .refine K8 u _ _ (λy hy=>?_) x hx;split at hy
   .rw [List.mem_singleton.1 hy];exact fU u
   .exact (List.mem_filter.1 hy).1
 .cases hx
theorem yR(u:aa)(p:List av)(h:(oneOf ((units u p).map aa.Id)).2=0):∃ x,x∈desc u/\x.Id=(oneOf ((units u p).map aa.Id)).1:=by
 cases hu:(units u p).map aa.Id with
 | nil=>rw [hu] at h;simp [oneOf] at h
 | cons a l=>
  cases l with
  | nil=>
   have:a∈(units u p).map aa.Id:=by rw [hu];simp
   obtain ⟨x,hx,rfl⟩:=List.mem_map.1 this;exact ⟨x,MS u p x hx,rfl⟩
  | cons b m=>rw [hu] at h;simp [oneOf] at h
theorem H6{id:ai}{u:aa}(h:u.Id=id):Wt id u=(aO,-1,false):=by unfold Wt;rw [vB h];rfl
theorem CQ{id:ai}{u x:aa}(hx:x∈desc u)(he:x.Id=id)(h:u.Id≠id):(Wt id u).2.2=true/\0<=(Wt id u).2.1/\(Wt id u).2.1<=cnt u:=by
 obtain ⟨y,hy⟩:=vz id u x hx he;cases hp:VZ id u with
 | none=>rw [(Em hp).2] at hy;cases hy
 | some w=>
  obtain ⟨h2,_⟩:=xe h hp;obtain ⟨p,q0,_,_,q3⟩:=H5 id u w hp h2;unfold Wt;rw [hp];simp only;rw [q3];refine ⟨rfl,by simp,?_⟩;have h1:placeK id p.Kids<=p.Kids.length:=List.findIdx_le_length;have h2:=qN p;have h3:=xN q0;simp only;omega
theorem qD{α:Type}{l:List α}{i:Nat}(h:i<l.length):idx l (i:Int)=some l[i]:=by rw [lI,List.getElem?_eq_getElem h]
theorem Sy(all:List ai)(i:Nat)(hi:i<all.length)(hb:all.length<=1000000):∀ (d k:Nat),i-k<=d->
  To (λn=>M.dV all (i:Int) n (k:Int)) (.inr false)\/(To (λn=>M.dV all (i:Int) n (k:Int)) (.inl ())/\ ∀ j (hj:j<i),k<=j->all[j]≠all[i]):=by
 intro d;induction d with
 | zero=>
  intro k hk;refine .inr ⟨To.succ ?_,λj hj hkj=>by omega⟩;simp only [M.dV];exact To.neg (by omega) To.pure
 | succ d ih=>
  intro k hk;by_cases h:k<i
  .have hx:=qD (l:=all) (i:=k) (by omega);have hy:=qD (l:=all) (i:=i) (by omega);by_cases he:all[k]=all[i]
   .refine .inl (To.succ ?_);simp only [M.dV];exact To.pos (by omega) (To.bindS hx (To.bindS hy (To.pos he To.pure)))
   .rcases ih (k+1) (by omega) with h1 | ⟨h1,h2⟩
    .refine .inl (To.succ ?_);simp only [M.dV];exact To.pos (by omega) (To.bindS hx (To.bindS hy (To.neg he (To.bindS (eO (by omega)) h1))))
    .refine .inr ⟨To.succ ?_,λj hj hkj=>?_⟩
     .simp only [M.dV];exact To.pos (by omega) (To.bindS hx (To.bindS hy (To.neg he (To.bindS (eO (by omega)) h1))))
     .by_cases hjk:j=k
      .subst hjk;exact he
      .exact h2 j hj (by omega)
  .refine .inr ⟨To.succ ?_,λj hj hkj=>by omega⟩;simp only [M.dV];exact To.neg (by omega) To.pure
theorem Sz(all:List ai)(hb:all.length<=1000000):∀ (xs:List ai) (i:Nat),all.drop i=xs->
  To (λn=>M.eG all n (i:Int)) (.inr false)\/(To (λn=>M.eG all n (i:Int)) (.inl ())/\ ∀ a (ha:a<all.length),i<=a->∀ j (hj:j<a),all[j]≠all[a]):=by
 intro xs;induction xs with
 | nil=>
  intro i hx;have:=List.drop_eq_nil_iff.1 hx;refine .inr ⟨To.succ ?_,λa ha hia=>by omega⟩;simp only [M.eG];exact To.neg (aM hx) To.pure
 | cons x xs ih=>
  intro i hx;have hi:=(fT hx).1;rcases Sy all i hi hb i 0 (by omega) with h1 | ⟨h1,h2⟩
  .refine .inl (To.succ ?_);simp only [M.eG];exact To.pos (aD hx) (To.bind h1 To.pure)
  .rcases ih (i+1) (aC hx) with h3 | ⟨h3,h4⟩
   .refine .inl (To.succ ?_);simp only [M.eG];exact To.pos (aD hx) (To.bind h1 (To.bindS (eO (by omega)) h3))
   .refine .inr ⟨To.succ ?_,λa ha hia j hj=>?_⟩
    .simp only [M.eG];exact To.pos (aD hx) (To.bind h1 (To.bindS (eO (by omega)) h3))
    .by_cases hai:a=i
     .subst hai;exact h2 j hj (by omega)
     .exact h4 a ha (by omega) j hj
theorem K9(all:List ai):∀ (xs:List ai) (i:Nat) (b:Bool),all.drop i=xs->∃ c,To (λn=>M.fw all n b (i:Int)) c/\(c=true->b=true/\ ∀ x,x∈xs->x=aO):=by
 intro xs;induction xs with
 | nil=>
  intro i b hx;refine ⟨b,To.succ ?_,λh=>⟨h,λx hx=>by cases hx⟩⟩;simp only [M.fw];exact To.neg (aM hx) To.pure
 | cons x xs ih=>
  intro i b hx;cases b with
  | true=>
   obtain ⟨c,h1,h2⟩:=ih (i+1) (decide (x=aO)) (aC hx);refine ⟨c,To.succ ?_,λh=>⟨rfl,λy hy=>?_⟩⟩
   .simp only [M.fw];rw [aP];exact To.pos (aD hx) (To.pos (by simp) (To.bindS (ax hx) h1))
   .rcases List.mem_cons.1 hy with rfl | hy
    .exact of_decide_eq_true (h2 h).1
    .exact (h2 h).2 y hy
  | false=>
   obtain ⟨c,h1,h2⟩:=ih (i+1) false (aC hx);refine ⟨c,To.succ ?_,λh=>by cases (h2 h).1⟩;simp only [M.fw];rw [aP];exact To.pos (aD hx) (To.neg (by simp) h1)
theorem Vk(u:aa)(hc:cnt u<=1000000)(h:To (λn=>M.r9 n u) true):(∀ x,x∈desc u->x.Id=aO)\/((desc u).map aa.Id).Nodup:=by
 have hl:((desc u).map aa.Id).length<=1000000:=by simpa [cnt] using hc
 simp only [M.r9] at h
 replace h:=h.unbind (Ff u hc)
 generalize hall:(desc u).map aa.Id=all at h hl ⊢;obtain ⟨c,h1,h2⟩:=K9 all all 0 true rfl
 replace h:=h.unbind h1
 cases c with
 | true=>
  refine .inl λx hx=>(h2 rfl).2 _ ?_;rw [<-hall];exact List.mem_map.2 ⟨x,hx,rfl⟩
 | false=>
  replace h:=h.unneg (by simp)
  have h0:idx all 0=some u.Id:=by rw [<-hall,fJ];simp [idx]
  rw [h0] at h
  replace h:=h.unbind (f:=λ_=>some u.Id) To.pure
  by_cases hk:(decide (u.Id=(⟨(0:Int),(0:Int),(0:Int)⟩:ai)) !=decide (u.Kind=(0:Int)))=true
  .replace h:=(h.unpos hk).unpure
   cases h
  .replace h:=h.unneg hk
   rcases Sz all hl all 0 rfl with h3 | ⟨h3,h4⟩
   .cases (h.unbind h3).unpure
   .refine .inr ?_;rw [List.Nodup,List.pairwise_iff_getElem];intro i j hi hj hij;exact h4 j hj (by omega) i hij
structure Fine (u:aa):Prop where
 kind:0<=u.Kind/\u.Kind<=7
 label:u.Kind≠0->qP u.Label=true
 kids:∀ k,k∈u.Kids->k.Kind≠0
 apart:∀ i j (hi:i<u.Kids.length) (hj:j<u.Kids.length),i<j->¬ (u.Kids[i].Kind=u.Kids[j].Kind/\u.Kids[i].Label=u.Kids[j].Label)
theorem MU(u:aa)(i:Nat)(hi:i<u.Kids.length)(hb:u.Kids.length<=1000000):∀ (d k:Nat),i-k<=d->
  To (λn=>M.dF u (i:Int) n (k:Int)) (.inr false)\/(To (λn=>M.dF u (i:Int) n (k:Int)) (.inl ())/\ ∀ j (hj:j<i),k<=j->¬ (u.Kids[j].Kind=u.Kids[i].Kind/\u.Kids[j].Label=u.Kids[i].Label)):=by
 intro d;induction d with
 | zero=>
  intro k hk;refine .inr ⟨To.succ ?_,λj hj hkj=>by omega⟩;simp only [M.dF];exact To.neg (by omega) To.pure
 | succ d ih=>
  intro k hk;by_cases h:k<i
  .have hx:=qD (l:=u.Kids) (i:=k) (by omega);have hy:=qD (l:=u.Kids) (i:=i) (by omega);have step:∀ r,To (λn=>M.dF u (i:Int) n ((k+1:Nat):Int)) r->¬ (u.Kids[k].Kind=u.Kids[i].Kind/\u.Kids[k].Label=u.Kids[i].Label)->To (λn=>M.dF u (i:Int) n (k:Int)) r:=by
    intro r hr hne;refine To.succ ?_;simp only [M.dF];refine To.pos (by omega) (To.bindS hx (To.bindS hy ?_));by_cases hkk:u.Kids[k].Kind=u.Kids[i].Kind
    .refine To.pos hkk (To.bindS hx (To.bindS hy (To.neg (by simp;exactλe=>hne ⟨hkk,e⟩) (To.bindS (eO (by omega)) hr))))
    .exact To.neg hkk (To.bindS (eO (by omega)) hr)
   by_cases he:u.Kids[k].Kind=u.Kids[i].Kind/\u.Kids[k].Label=u.Kids[i].Label
   .refine .inl (To.succ ?_);simp only [M.dF];exact To.pos (by omega) (To.bindS hx (To.bindS hy (To.pos he.1 (To.bindS hx (To.bindS hy (To.pos (by simp [he.2]) To.pure))))))
   .rcases ih (k+1) (by omega) with h1 | ⟨h1,h2⟩
    .exact .inl (step _ h1 he)
    .refine .inr ⟨step _ h1 he,λj hj hkj=>?_⟩;by_cases hjk:j=k
     .subst hjk;exact he
     .exact h2 j hj (by omega)
  .refine .inr ⟨To.succ ?_,λj hj hkj=>by omega⟩;simp only [M.dF];exact To.neg (by omega) To.pure
def deep(u:aa):Nat:=(u.Kids.attach.map (λk=>1+deep k.1)).foldl max 0
termination_by SizeOf.sizeOf u
decreasing_by exact vP k.2
theorem La(u:aa):deep u=(u.Kids.map (λk=>1+deep k)).foldl max 0:=by
 rw [deep];congr 1;rw [show (λk:{x // x∈u.Kids}=>1+deep k.1)=(λk=>1+deep k) ∘ Subtype.val from rfl,<-List.map_map,List.attach_map_subtype_val]
theorem J5(u:aa):cnt u<=1000000->deep u<=cnt u/\To (λn=>M.qo n u) (deep u:Int):=by
 refine Wd (P:=λu=>cnt u<=1000000->deep u<=cnt u/\To (λn=>M.qo n u) (deep u:Int)) ?_ u;intro u ih hc;have loop:∀ (xs:List aa) (slf:Nat->aa->Option Int) (i d:Nat),u.Kids.drop i=xs->(∀ k,k∈xs->cnt k<cnt u/\deep k<=cnt k/\To (λn=>slf n k) (deep k:Int))->d<=cnt u->
   (xs.map (λk=>1+deep k)).foldl max d<=cnt u/\To (λn=>M.iU u (slf n) n (d:Int) (i:Int)) (((xs.map (λk=>1+deep k)).foldl max d:Nat):Int):=by
  intro xs;induction xs with
  | nil=>
   intro slf i d hx hs hd;refine ⟨hd,To.succ ?_⟩;simp only [M.iU];exact To.neg (aM hx) To.pure
  | cons x xs ih=>
   intro slf i d hx hs hd;obtain ⟨h1,h2,h3⟩:=hs x (by simp);obtain ⟨q1,q2⟩:=ih (λn=>slf (n+1)) (i+1) (max d (1+deep x)) (aC hx) (λk hk=>by
    obtain ⟨a,b,c⟩:=hs k (by simp [hk]);exact ⟨a,b,c.shift⟩) (by omega)
   refine ⟨q1,To.succ ?_⟩;simp only [M.iU];refine To.pos (aD hx) (To.bindS (ax hx) (To.bind h3.shift (To.bindS (ku (by omega) (by omega)) ?_)));rw [aP,show max (d:Int) (1+(deep x:Int))=((max d (1+deep x):Nat):Int) by omega];exact q2
 obtain ⟨h1,h2⟩:=loop u.Kids (λn=>M.qo n) 0 0 rfl (λk hk=>⟨jW hk,ih k hk (by have:=jW hk;omega)⟩) (by omega);rw [La];refine ⟨h1,To.succ ?_⟩;simp only [M.qo];exact To.bind h2 To.pure
structure Good (u:aa):Prop where
 fine:∀ x,x∈desc u->Fine x
 deep:deep u<=8
 apart:((desc u).map aa.Id).Nodup
theorem MV{u k:aa}(h:((desc u).map aa.Id).Nodup)(hk:k∈u.Kids):((desc k).map aa.Id).Nodup:=by
 rw [fJ] at h;simp only [List.map_cons,List.nodup_cons] at h;have h2:=h.2;rw [List.map_flatMap] at h2;have:(u.Kids.map (λk=>(desc k).map aa.Id)).flatten.Nodup:=by rw [<-List.flatMap_def];exact h2
 rw [List.Nodup,List.pairwise_flatten] at this;exact this.1 _ (List.mem_map.2 ⟨k,hk,rfl⟩)
theorem zC{u x y:aa}(h:((desc u).map aa.Id).Nodup)(hx:x∈desc u)(hy:y∈desc u)(he:x.Id=y.Id):x=y:=by
 have:∀ l:List aa,(l.map aa.Id).Nodup->x∈l->y∈l->x=y:=by
  intro l;induction l with
  | nil=>intro _ hx;cases hx
  | cons z l ih=>
   intro hn hx hy;simp only [List.map_cons,List.nodup_cons] at hn;rcases List.mem_cons.1 hx with e1 | m1
   .rcases List.mem_cons.1 hy with e2 | m2
    .rw [e1,e2]
    .exact absurd (List.mem_map.2 ⟨y,m2,by rw [<-he,e1]⟩) hn.1
   .rcases List.mem_cons.1 hy with e2 | m2
    .exact absurd (List.mem_map.2 ⟨x,m1,by rw [he,e2]⟩) hn.1
    .exact ih hn.2 m1 m2
 exact this _ h hx hy
theorem H7(id:ai)(u:aa):((desc u).map aa.Id).Nodup->∀ w,VZ id u=some w->∀ z,z∈desc u->(∃ y,y∈desc z/\y.Id=id)->z∈w:=by
 refine Wd (P:=λu=>((desc u).map aa.Id).Nodup->∀ w,VZ id u=some w->∀ z,z∈desc u->(∃ y,y∈desc z/\y.Id=id)->z∈w) ?_ u;intro u ih hn w hw z hz hy;have hz0:=hz;rw [fJ] at hz;rcases List.mem_cons.1 hz with rfl | hz
 .by_cases hid:z.Id=id
  .rw [vB hid] at hw;cases hw;simp
  .obtain ⟨_,v,_,rfl⟩:=xe hid hw;simp
 .obtain ⟨k,hk,hzk⟩:=List.mem_flatMap.1 hz;obtain ⟨y,hyz,hye⟩:=hy;by_cases hid:u.Id=id
  .exfalso;have hyu:=zB hz0 y hyz;have:=zC hn hyu (fU u) (by rw [hye,hid]);subst this;have h1:=xN hyz;have h2:=xN hzk;have h3:=jW hk;omega
  .obtain ⟨_,v,hv,rfl⟩:=xe hid hw;obtain ⟨j,hj,hje⟩:=List.exists_of_findSome?_eq_some hv;obtain ⟨y2,hy2⟩:=Ae hje;obtain ⟨hm,hi⟩:=tZ id j y2 hy2;have hyk:=zB hzk y hyz
   -- the kid that the way takes is the one that holds z
   have hzj:z∈desc j:=by
    have e:=zC hn (mX hk hyk) (mX hj hm) (by rw [hye,hi]);subst e
    -- y lies in both kids
    have hkj:k=j:=by
     have hnn:=hn;rw [fJ] at hnn;simp only [List.map_cons,List.nodup_cons] at hnn;have h2:=hnn.2;rw [List.map_flatMap,List.flatMap_def] at h2;rw [List.Nodup,List.pairwise_flatten] at h2;have h3:=h2.2;rw [List.pairwise_map] at h3;obtain ⟨a,ha,hka⟩:=List.mem_iff_getElem.1 hk;obtain ⟨b,hb,hjb⟩:=List.mem_iff_getElem.1 hj;rw [List.pairwise_iff_getElem] at h3;rcases Nat.lt_trichotomy a b with hlt | heq | hlt
     .exact absurd rfl (h3 a b ha hb hlt y.Id (by rw [hka];exact List.mem_map.2 ⟨y,hyk,rfl⟩) y.Id (by rw [hjb];exact List.mem_map.2 ⟨y,hm,rfl⟩))
     .subst heq;rw [<-hka,<-hjb]
     .exact absurd rfl (h3 b a hb ha hlt y.Id (by rw [hjb];exact List.mem_map.2 ⟨y,hm,rfl⟩) y.Id (by rw [hka];exact List.mem_map.2 ⟨y,hyk,rfl⟩))
    rw [<-hkj];exact hzk
   exact List.mem_cons_of_mem _ (ih j hj (MV hn hj) v hje z hzj ⟨y,hyz,hye⟩)
theorem PD(id:ai)(u:aa):∀ w,VZ id u=some w->∀ z,z∈w->z∈desc u/\ ∃ y,y∈desc z/\y.Id=id:=by
 refine Wd (P:=λu=>∀ w,VZ id u=some w->∀ z,z∈w->z∈desc u/\ ∃ y,y∈desc z/\y.Id=id) ?_ u;intro u ih w hw z hz;by_cases hid:u.Id=id
 .rw [vB hid] at hw;cases hw;rw [List.mem_singleton.1 hz];exact ⟨fU u,u,fU u,hid⟩
 .obtain ⟨x,hx⟩:=Ae hw;obtain ⟨hm,hi⟩:=tZ id u x hx;obtain ⟨_,v,hv,rfl⟩:=xe hid hw;rcases List.mem_cons.1 hz with rfl | hz
  .exact ⟨fU z,x,hm,hi⟩
  .obtain ⟨k,hk,he⟩:=List.exists_of_findSome?_eq_some hv;obtain ⟨h1,h2⟩:=ih k hk v he z hz;exact ⟨mX hk h1,h2⟩
theorem SA(id:ai)(u:aa):∀ w,VZ id u=some w->∃ x,w.getLast? =some x/\x.Id=id:=by
 intro w hw;obtain ⟨x,hx⟩:=Ae hw;have h:=vw id u;rw [hw,hx] at h;exact ⟨x,h.symm,(tZ id u x hx).2⟩
def iE(id:ai)(u:aa)(w:Int):ai×Int×Int:=
 if w=0 then (id,0,0)
 else if w=1 then (id,((findR id u).1.Kids.length:Int),0)
 else if u.Id=id then (aO,0,9)
 else ((Wt id u).1,(Wt id u).2.1+(if w=2 then 1 else 0),0)
def Xu(u:aa)(p:List av)(w:Int):ai×Int×Int:=
 if w<0\/3<w then (aO,0,1)
 else
  let o:=oneOf ((units u p).map aa.Id)
  if o.2≠0 then (aO,0,o.2) else iE o.1 u w
theorem Lb(id:ai)(u:aa)(w:Int)(hc:cnt u<=10000)(hl:labs u)(h0:0<=w)(h3:w<=3)(hm:∃ x,x∈desc u/\x.Id=id) :
  To (λn=>Option.bind (M.l7 n) λleads=>Option.bind (idx leads w) λv=>v u id) ((⟨(iE id u w).1,(iE id u w).2.1⟩:aF),(iE id u w).2.2):=by
 obtain ⟨x,hx,he⟩:=hm;have hf:=J4 id u hc hl;have hp:=Pz id u hc;have beside:∀ b:Int,0<=b->b<=1->To (λn=>M.om n u id b) (if u.Id=id then ((⟨aO,0⟩:aF),(9:Int)) else ((⟨(Wt id u).1,(Wt id u).2.1+b⟩:aF),0)):=by
  intro b hb0 hb1;simp only [M.om];refine To.bind hp ?_;by_cases hid:u.Id=id
  .rw [if_pos hid,H6 hid];exact To.pos rfl To.pure
  .obtain ⟨k1,k2,k3⟩:=CQ hx he hid;rw [if_neg hid];refine To.neg (by rw [k1];simp) (To.bindS (ku (by omega) (by omega)) To.pure)
 have hw:w=0\/w=1\/w=2\/w=3:=by omega
 simp only [M.l7,Option.bind_some];rcases hw with rfl | rfl | rfl | rfl
 .refine To.eq (g:=λn=>M.kK n u id) ?_ (λn=>rfl);simp only [M.kK,M.qA,M.pg];exact To.bind (To.bind hf To.pure) (To.pure.of (by simp [iE]))
 .refine To.eq (g:=λn=>M.kL n u id) ?_ (λn=>rfl);simp only [M.kL,M.qA,M.pq];exact To.bind (To.bind hf To.pure) (To.pure.of (by simp [iE]))
 .refine To.eq (g:=λn=>M.kM n u id) ?_ (λn=>rfl);simp only [M.kM];refine To.bind (beside 1 (by omega) (by omega)) (To.pure.of ?_);by_cases hid:u.Id=id<;> simp [iE,hid]
 .refine To.eq (g:=λn=>M.kN n u id) ?_ (λn=>rfl);simp only [M.kN];refine To.bind (beside 0 (by omega) (by omega)) (To.pure.of ?_);by_cases hid:u.Id=id<;> simp [iE,hid]
theorem bind_assoc'{α β γ:Type}(o:Option α)(f:α->Option β)(g:β->Option γ):Option.bind (Option.bind o f) g=Option.bind o λx=>Option.bind (f x) g:=by cases o<;> rfl
theorem VO(u:aa)(p:List av)(w:Int)(hc:cnt u<=10000)(hl:labs u):To (λn=>M.j4 n u p w) (Xu u p w):=by
 have hul:(units u p).length<=lim38:=by
  have h1:=xM u p;have h2:cnt u*cnt u<=10000*10000:=Nat.mul_le_mul hc hc;unfold lim38;omega
 simp only [M.j4,M.lw];unfold Xu;by_cases hw:w<0\/3<w
 .refine To.bindS (a:=false) ?_ (To.pos rfl (To.pure.of (by rw [if_pos hw]<;> rfl)));by_cases h0:0<=w
  .rw [if_pos h0];simp;omega
  .rw [if_neg h0]
 .refine To.bindS (a:=true) (by rw [if_pos (by omega)];simp;omega) (To.neg (by simp) (To.bind (vR u p hc hul) ?_));rw [if_neg hw];simp only;by_cases he:(oneOf ((units u p).map aa.Id)).2=0
  .have hm:=yR u p he;generalize oneOf ((units u p).map aa.Id)=o at he hm ⊢;have hld:=Lb o.1 u w hc hl (by omega) (by omega) hm;rw [if_neg (by simpa using he)];refine To.neg (by simpa using he) ?_;have:=To.bind (g:=λn v1=>if v1.2≠(0:Int) then some ((⟨(0:Int),(0:Int),(0:Int)⟩:ai),(0:Int),v1.2) else some (v1.1.parent_,v1.1.at_,(0:Int))) hld (r:=iE o.1 u w) (by
    by_cases h9:(iE o.1 u w).2.2=0
    .refine To.neg (by simpa using h9) (To.pure.of ?_);simp only;rw [<-h9]
    .refine To.pos (by simpa using h9) (To.pure.of ?_);have:u.Id=o.1/\ ¬ w=0/\ ¬ w=1:=by
      unfold iE at h9;split at h9
      .exact absurd rfl h9
      .split at h9
       .exact absurd rfl h9
       .split at h9
        .exact ⟨by assumption,by assumption,by assumption⟩
        .exact absurd rfl h9
     simp [iE,this,aO])
   refine this.eq λn=>?_;simp only [bind_assoc']
  .refine To.pos (by simpa using he) (To.pure.of ?_);rw [if_pos (by simpa using he)]<;> rfl
theorem PE(w:List aa)(hb:w.length<=10000):∀ (k:Nat) (out:List ai),k<=w.length->out.length+k<=20000->∃ r,To (λn=>M.bQ w n out ((k:Int)-1)) r/\ ∀ x,x∈r ↔ (x∈out\/x∈(w.take k).map aa.Id):=by
 intro k;induction k with
 | zero=>
  intro out _ _;refine ⟨out,To.succ ?_,λx=>by simp⟩;simp only [M.bQ];exact To.neg (by omega) To.pure
 | succ k ih=>
  intro out hk ho;have hx:=qD (l:=w) (i:=k) (by omega);obtain ⟨r,h1,h2⟩:=ih (out++ [w[k].Id]) (by omega) (by simp;omega);refine ⟨r,To.succ ?_,λx=>?_⟩
  .simp only [M.bQ];rw [show ((k+1:Nat):Int)-1=(k:Int) by omega];exact To.pos (by omega) (To.bindS hx (To.bindS (bu (by simp;omega)) (To.bindS (lY (by omega) (by omega)) h1)))
  .rw [h2,List.take_succ_eq_append_getElem (by omega)];simp only [List.map_append,List.mem_append,List.mem_singleton,List.map_cons,List.map_nil];constructor
   .rintro ((h | h) | h)
    .exact .inl h
    .exact .inr (.inr h)
    .exact .inr (.inl h)
   .rintro (h | h | h)
    .exact .inl (.inl h)
    .exact .inr h
    .exact .inl (.inr h)
theorem Vl(id:ai)(u:aa)(hc:cnt u<=10000):∃ r,To (λn=>M.jL n u id) r/\ ∀ x,x∈r ↔ x∈(((VZ id u).getD []).dropLast).map aa.Id:=by
 generalize hw:(VZ id u).getD []=w;have hl:w.length<=10000:=by
  rw [<-hw];cases hp:VZ id u with
  | none=>simp
  | some v=>have:=w9 id u v hp;simp;omega
 have hway:=CP id u hc;rw [hw] at hway;by_cases h0:w.length=0
 .refine ⟨[],?_,λx=>?_⟩
  .simp only [M.jL];refine To.bind hway (To.bindS (lY (by omega) (by omega)) (To.bind (a:=[]) (To.succ ?_) To.pure));simp only [M.bQ];exact To.neg (by omega) To.pure
  .rw [List.eq_nil_of_length_eq_zero h0];simp
 .obtain ⟨r,h1,h2⟩:=PE w hl (w.length-1) [] (by omega) (by simp;omega);refine ⟨r,?_,λx=>by rw [h2,List.dropLast_eq_take];simp⟩;simp only [M.jL];refine To.bind hway (To.bindS (lY (by omega) (by omega)) (To.bind ?_ To.pure));rw [show (w.length:Int)-2=((w.length-1:Nat):Int)-1 by omega];exact h1
theorem A9(l:List ai)(v:ai):To (λn=>M.dQ n l v) (decide (v∈l)):=by
 have loop:∀ (xs:List ai) (i:Nat),l.drop i=xs->(v∈xs/\ ∃ j:Nat,To (λn=>M.aT l v n (i:Int)) (.inr (j:Int)))\/(v ∉ xs/\To (λn=>M.aT l v n (i:Int)) (.inl ())):=by
  intro xs;induction xs with
  | nil=>
   intro i hx;refine .inr ⟨by simp,To.succ ?_⟩;simp only [M.aT];exact To.neg (aM hx) To.pure
  | cons x xs ih=>
   intro i hx;by_cases h:v=x
   .refine .inl ⟨by simp [h],i,To.succ ?_⟩;simp only [M.aT];exact To.pos (aD hx) (To.bindS (ax hx) (To.pos h To.pure))
   .rcases ih (i+1) (aC hx) with ⟨h1,j,h2⟩ | ⟨h1,h2⟩
    .refine .inl ⟨by simp [h1],j,To.succ ?_⟩;simp only [M.aT];rw [aP];exact To.pos (aD hx) (To.bindS (ax hx) (To.neg h h2))
    .refine .inr ⟨by simp [h1,h],To.succ ?_⟩;simp only [M.aT];rw [aP];exact To.pos (aD hx) (To.bindS (ax hx) (To.neg h h2))
 simp only [M.dQ,M.jM];rcases loop l 0 rfl with ⟨h1,j,h2⟩ | ⟨h1,h2⟩
 .exact To.bind (To.bind h2 To.pure) (To.pure.of (by simp [h1]))
 .exact To.bind (To.bind h2 To.pure) (To.pure.of (by simp [h1]))
def V6(u:aa)(id to:ai):Bool:=(Wh to (findR id u).1).isSome
theorem MW(u:aa)(hg:Good u)(id to:ai)(hid:∃ x,x∈desc u/\x.Id=id)(hto:∃ x,x∈desc u/\x.Id=to)(hne:to≠id):(id∈(((VZ to u).getD []).dropLast).map aa.Id) ↔ V6 u id to=true:=by
 obtain ⟨x0,hx0,he0⟩:=hid;obtain ⟨x,hx⟩:=vz id u x0 hx0 he0;obtain ⟨hxm,hxi⟩:=tZ id u x hx;obtain ⟨y0,hy0,hye0⟩:=hto;obtain ⟨y,hy⟩:=vz to u y0 hy0 hye0;have hins:V6 u id to=(Wh to x).isSome:=by unfold V6 findR;rw [hx]
 rw [hins];cases hp:VZ to u with
 | none=>rw [(Em hp).2] at hy;cases hy
 | some w=>
  simp only [Option.getD_some];obtain ⟨e,hwe,hei⟩:=SA to u w hp;constructor
  .intro h;obtain ⟨z,hz,hzi⟩:=List.mem_map.1 h;obtain ⟨h1,y1,h2,h3⟩:=PD to u w hp z (List.dropLast_subset w hz);have:=zC hg.apart h1 hxm (by rw [hzi,hxi]);subst this;obtain ⟨v,hv⟩:=vz to z y1 h2 h3;rw [hv];rfl
  .intro h;obtain ⟨v,hv⟩:=Option.isSome_iff_exists.1 h;obtain ⟨hvm,hvi⟩:=tZ to x v hv;have hxw:=H7 to u hg.apart w hp x hxm ⟨v,hvm,hvi⟩;refine List.mem_map.2 ⟨x,?_,hxi⟩;have hw0:w≠ []:=sG to u w hp;have hwl:w=w.dropLast++ [e]:=by have:=List.dropLast_concat_getLast hw0;rw [List.getLast?_eq_some_getLast hw0] at hwe;cases hwe;exact this.symm
   rw [hwl] at hxw;rcases List.mem_append.1 hxw with h1 | h1
   .exact h1
   .rw [List.mem_singleton.1 h1] at hxi;exact absurd (hei.symm.trans hxi) hne
def V9(u:aa)(id to:ai)(w:Int):ai×Int×Int:=
 if u.Id=id\/(V6 u id to=true/\to≠id)\/(to=id/\w<2) then (aO,0,9)
 else if to=id then ((Wt id u).1,(Wt id u).2.1,0)
 else
  let x:=iE to u w
  if x.2.2≠0 then (aO,0,9)
  else if x.1=(Wt id u).1/\(Wt id u).2.1<x.2.1 then (x.1,x.2.1-1,0) else (x.1,x.2.1,0)
theorem SB(u:aa)(id:ai)(w:Int)(hc:cnt u<=10000)(hid:∃ x,x∈desc u/\x.Id=id):0<=(iE id u w).2.1/\(iE id u w).2.1<=20000/\((iE id u w).2.2≠0->(iE id u w)=(aO,0,9)/\u.Id=id/\w≠0/\w≠1):=by
 obtain ⟨x0,hx0,he0⟩:=hid;unfold iE;by_cases h0:w=0
 .rw [if_pos h0];exact ⟨by simp,by simp,λh=>absurd rfl h⟩
 rw [if_neg h0];by_cases h1:w=1
 .rw [if_pos h1];obtain ⟨x,hx⟩:=vz id u x0 hx0 he0;obtain ⟨hxm,hxi⟩:=tZ id u x hx;have:=qN x;have:=xN hxm;refine ⟨by simp,?_,λh=>absurd rfl h⟩;unfold findR;rw [hx];simp only;omega
 rw [if_neg h1];by_cases hid:u.Id=id
 .rw [if_pos hid];exact ⟨by simp,by simp,λ_=>⟨rfl,hid,h0,h1⟩⟩
 rw [if_neg hid];obtain ⟨k1,k2,k3⟩:=CQ hx0 he0 hid;refine ⟨?_,?_,λh=>absurd rfl h⟩
 .simp only;split<;> omega
 .simp only;split<;> omega
theorem Vm(u:aa)(hc:cnt u<=10000)(hl:labs u)(hg:Good u)(id to:ai)(w:Int)(h0:0<=w)(h3:w<=3)(hid:∃ x,x∈desc u/\x.Id=id)(hto:∃ x,x∈desc u/\x.Id=to) :
  To (λn=>M.rH n u id to w) ((⟨(V9 u id to w).1,(V9 u id to w).2.1⟩:aF),(V9 u id to w).2.2):=by
 have hp:=Pz id u hc;obtain ⟨x0,hx0,he0⟩:=hid;have hpar:(Wt id u).2.2= !decide (u.Id=id):=by
  by_cases h:u.Id=id
  .rw [H6 h];simp [h]
  .rw [(CQ hx0 he0 h).1];simp [h]
 simp only [M.rH];refine To.bind (a:=decide (2<=w)) ?_ (To.bind hp ?_)
 .by_cases h:w=2
  .exact To.pos h (To.pure.of (by simp [h]))
  .exact To.neg h (To.pure.of (by rw [Bool.eq_iff_iff];simp;omega))
 by_cases hti:to=id
 .subst hti;refine To.neg (by simp) ?_;by_cases hu:u.Id=to
  .refine To.bind (a:=true) (To.pos (by rw [hpar];simp [hu]) To.pure) (To.pos rfl (To.pure.of ?_));simp [V9,hu]
  .refine To.bind (a:=!decide (2<=w)) (To.neg (by rw [hpar];simp [hu]) (To.pos rfl To.pure)) ?_;by_cases h2:2<=w
   .refine To.neg (by simp [h2]) (To.pos rfl (To.pure.of ?_));have:¬ (u.Id=to\/(V6 u to to=true/\to≠to)\/(to=to/\w<2)):=by
     rintro (h | ⟨_,h⟩ | ⟨_,h⟩)
     .exact hu h
     .exact h rfl
     .omega
    unfold V9;rw [if_neg this,if_pos rfl]
   .refine To.pos (by simp;omega) (To.pure.of ?_);have:(u.Id=to\/(V6 u to to=true/\to≠to)\/(to=to/\w<2)):=.inr (.inr ⟨rfl,by omega⟩);unfold V9;rw [if_pos this]
 .obtain ⟨an,ha1,ha2⟩:=Vl to u hc;have hbel:=MW u hg id to ⟨x0,hx0,he0⟩ hto hti;refine To.pos hti (To.bind ha1 (To.bind (A9 an id) ?_));have hdec:decide (id∈an)=V6 u id to:=by rw [Bool.eq_iff_iff,decide_eq_true_eq,ha2,hbel]
  rw [hdec];by_cases hu:u.Id=id
  .refine To.bind (a:=true) (To.pos (by rw [hpar];simp [hu]) To.pure) (To.pos rfl (To.pure.of ?_));simp [V9,hu]
  cases hin:V6 u id to with
  | true=>
   refine To.bind (a:=true) (To.neg (by rw [hpar];simp [hu]) (To.pos rfl To.pure)) (To.pos rfl (To.pure.of ?_));have:(u.Id=id\/(V6 u id to=true/\to≠id)\/(to=id/\w<2)):=.inr (.inl ⟨hin,hti⟩);unfold V9;rw [if_pos this]
  | false=>
   refine To.bind (a:=false) (To.neg (by rw [hpar];simp [hu]) (To.neg (by simp) (To.neg hti To.pure))) (To.neg (by simp) (To.neg hti ?_));have hcond:¬ (u.Id=id\/(V6 u id to=true/\to≠id)\/(to=id/\w<2)):=by
    rintro (h | ⟨h,_⟩ | ⟨h,_⟩)
    .exact hu h
    .rw [hin] at h;cases h
    .exact hti h
   have hld:=Lb to u w hc hl h0 h3 hto;obtain ⟨b1,b2,b3⟩:=SB u to w hc hto;have key:=To.bind (g:=λn (v2:aF×Int)=>Option.bind (
        if v2.2=(0:Int) then
         if v2.1.parent_=(Wt id u).1 then
          some (decide ((Wt id u).2.1<v2.1.at_))
         else
          some false
        else
         some false
       ) λv3=>
       if v3=true then
        Option.bind (subC v2.1.at_ (1:Int)) λv4=>
        some (({v2.1 with at_:=v4}:aF),v2.2)
       else
        some (v2.1,v2.2)) (r:=((⟨(V9 u id to w).1,(V9 u id to w).2.1⟩:aF),(V9 u id to w).2.2)) hld (by
    have hgr:V9 u id to w=if (iE to u w).2.2≠0 then (aO,0,9) else if (iE to u w).1=(Wt id u).1/\(Wt id u).2.1<(iE to u w).2.1 then ((iE to u w).1,(iE to u w).2.1-1,0) else ((iE to u w).1,(iE to u w).2.1,0):=by
     unfold V9;rw [if_neg hcond,if_neg hti]
    by_cases h9:(iE to u w).2.2=0
    .rw [if_neg (λh=>h h9)] at hgr;by_cases hpp:(iE to u w).1=(Wt id u).1
     .refine To.bind (a:=decide ((Wt id u).2.1<(iE to u w).2.1)) (To.pos h9 (To.pos hpp To.pure)) ?_;by_cases hlt:(Wt id u).2.1<(iE to u w).2.1
      .rw [if_pos ⟨hpp,hlt⟩] at hgr;exact To.pos (by simp [hlt]) (To.bindS (lY (by simp only;omega) (by simp only;omega)) (To.pure.of (by rw [hgr,h9])))
      .rw [if_neg (λh=>hlt h.2)] at hgr;exact To.neg (by simp [hlt]) (To.pure.of (by rw [hgr,h9]))
     .rw [if_neg (λh=>hpp h.1)] at hgr;exact To.bind (a:=false) (To.pos h9 (To.neg hpp To.pure)) (To.neg (by simp) (To.pure.of (by rw [hgr,h9])))
    .rw [if_pos h9] at hgr;refine To.bind (a:=false) (To.neg h9 To.pure) (To.neg (by simp) (To.pure.of ?_));rw [hgr,(b3 h9).1])
   exact key.eq λn=>by simp only [bind_assoc']
def WF(u:aa)(it:ag):ai×Int×Int:=
 if it.Kind=0 then Xu u it.At it.Where
 else if it.Kind≠6\/it.Where<0\/3<it.Where then (aO,0,1)
 else
  let a:=oneOf ((units u it.At).map aa.Id)
  if a.2≠0 then (aO,0,a.2)
  else
   let b:=oneOf ((units u it.To).map aa.Id)
   if b.2≠0 then (aO,0,b.2) else V9 u a.1 b.1 it.Where
theorem MX(u:aa)(id to:ai)(w:Int)(h:(V9 u id to w).2.2≠0):V9 u id to w=(aO,0,9):=by
 unfold V9 at h ⊢;split
 .rfl
 .rename_i h1;rw [if_neg h1] at h;split
  .rename_i h2;rw [if_pos h2] at h;exact absurd rfl h
  .rename_i h2;rw [if_neg h2] at h;simp only at h ⊢;split
   .rfl
   .rename_i h3;rw [if_neg h3] at h;split at h<;> exact absurd rfl h
theorem Vn(u:aa)(hc:cnt u<=10000)(hl:labs u)(hg:Good u)(it:ag):To (λn=>M.jm n u it) (WF u it):=by
 have hul:∀ p,(units u p).length<=lim38:=λp=>by
  have h1:=xM u p;have h2:cnt u*cnt u<=10000*10000:=Nat.mul_le_mul hc hc;unfold lim38;omega
 simp only [M.jm];unfold WF;by_cases hk:it.Kind=0
 .rw [if_pos hk];exact To.pos hk (To.bind (VO u it.At it.Where hc hl) To.pure)
 rw [if_neg hk];refine To.neg hk ?_;by_cases hw:it.Kind≠6\/it.Where<0\/3<it.Where
 .rw [if_pos hw];refine To.bind (a:=true) ?_ (To.pos rfl To.pure);by_cases h6:it.Kind≠6
  .exact To.pos h6 To.pure
  .refine To.neg h6 ?_;simp only [M.lw];by_cases h0:0<=it.Where
   .exact To.bindS (a:=false) (by rw [if_pos h0];simp;omega) To.pure
   .exact To.bindS (a:=false) (by rw [if_neg h0]) To.pure
 rw [if_neg hw];refine To.bind (a:=false) (To.neg (by omega) ?_) (To.neg (by simp) (To.bind (vR u it.At hc (hul _)) ?_))
 .simp only [M.lw];exact To.bindS (a:=true) (by rw [if_pos (by omega)];simp;omega) To.pure
 simp only;by_cases ha:(oneOf ((units u it.At).map aa.Id)).2=0
 .have hma:=yR u it.At ha;generalize oneOf ((units u it.At).map aa.Id)=a at ha hma ⊢;rw [if_neg (λh=>h ha)];refine To.neg (λh=>h ha) (To.bind (vR u it.To hc (hul _)) ?_);by_cases hb:(oneOf ((units u it.To).map aa.Id)).2=0
  .have hmb:=yR u it.To hb;generalize oneOf ((units u it.To).map aa.Id)=b at hb hmb ⊢;rw [if_neg (λh=>h hb)];refine To.neg (λh=>h hb) (To.bind (Vm u hc hl hg a.1 b.1 it.Where (by omega) (by omega) hma hmb) ?_);by_cases h9:(V9 u a.1 b.1 it.Where).2.2=0
   .refine To.neg (λh=>h h9) (To.pure.of ?_);simp only;rw [<-h9]
   .refine To.pos h9 (To.pure.of ?_);rw [MX u _ _ _ h9]<;> rfl
  .rw [if_pos hb];exact To.pos hb To.pure
 .rw [if_pos ha];exact To.pos ha To.pure
end Go.Proofs.YtobcmdhemlennaaGreatDoor
