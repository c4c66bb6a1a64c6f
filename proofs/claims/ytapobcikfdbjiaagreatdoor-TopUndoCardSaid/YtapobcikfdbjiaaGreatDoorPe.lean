/- Plain law. -/
import Derived.Test.YtapobcikfdbjiaaGreatDoorPd
import Derived.KernelRfl
set_option linter.unusedVariables false
set_option linter.unusedSimpArgs false
namespace Go.Proofs.YtapobcikfdbjiaaGreatDoor
open Go Go.Dec
theorem ER(u:aa)(deep most:Int)(hd0:0<=deep)(hd:deep<=20)(hm0:0<=most)(hm:most<=1000000):∀ (xs:List aa) (slf:Nat->aa->Int->Int->Option Int) (i:Nat) (n0:Int),u.Kids.drop i=xs->
  (∀ k,k∈xs->∀ m:Int,0<=m->m<=1000000->∃ r,To (fun n=>slf n k (deep+1) m) r/\1<=r/\r<=m+1/\(r<=m->(cnt k:Int)<=r))->(i:Int)+1<=n0->n0<=most+1->
  ∃ r,To (fun n=>M.ig u deep most (slf n) n n0 (i:Int)) r/\n0<=r/\r<=most+1/\(r<=most->n0+((xs.map cnt).sum:Nat)<=r)
 | [],slf,i,n0,hx,hs,h1,h2=>by
  refine ⟨n0,To.succ ?_,by omega,h2,fun h=>by simp⟩;simp only [M.ig];refine To.bind (a:=false) (To.neg (aS hx) To.pure) ?_;exact To.neg (by simp) To.pure
 | x :: xs,slf,i,n0,hx,hs,h1,h2=>by
  by_cases hle:n0<=most
  ·obtain ⟨r1,ht1,hr1,hr2,hr3⟩:=hs x (by simp) (most-n0) (by omega) (by omega);have ih:=ER u deep most hd0 hd hm0 hm xs (fun n=>slf (n+1)) (i+1) (n0+r1) (aI hx) (fun k hk m a b=>by
    obtain ⟨r,h1,h2⟩:=hs k (by simp [hk]) m a b;exact ⟨r,h1.shift,h2⟩) (by omega) (by omega)
   obtain ⟨r,ht,q1,q2,q3⟩:=ih;refine ⟨r,To.succ ?_,by omega,q2,fun h=>?_⟩
   ·simp only [M.ig];refine To.bind (a:=true) (To.pos (aK hx) (To.pure.of (by simp [hle]))) ?_;refine To.pos rfl ?_;refine To.bindS (aA hx) ?_;refine To.bindS (gp (by omega) (by omega)) ?_;refine To.bindS (l6 (by omega) (by omega)) ?_;refine To.bind ht1.shift ?_;refine To.bindS (gp (by omega) (by omega)) ?_;refine To.bindS (gm (by omega)) ?_;exact ht
   ·have:=q3 h;have:=hr3 (by omega);simp only [List.map_cons,List.sum_cons];omega
  ·refine ⟨n0,To.succ ?_,by omega,h2,fun h=>by omega⟩;simp only [M.ig];refine To.bind (a:=false) (To.pos (aK hx) (To.pure.of (by simp;omega))) ?_;exact To.neg (by simp) To.pure
theorem TJ(u:aa):∀ (deep most:Int),0<=deep->deep<=21->0<=most->most<=1000000->∃ r,To (fun n=>M.r9 n u deep most) r/\1<=r/\r<=most+1/\(r<=most->(cnt u:Int)<=r):=by
 refine uind (P:=fun u=>∀ (deep most:Int),0<=deep->deep<=21->0<=most->most<=1000000->∃ r,To (fun n=>M.r9 n u deep most) r/\1<=r/\r<=most+1/\(r<=most->(cnt u:Int)<=r)) ?_ u;intro u ih deep most h1 h2 h3 h4;by_cases hd:20<deep
 ·refine ⟨most+1,To.succ ?_,by omega,by omega,fun h=>by omega⟩;simp only [M.r9];refine To.pos hd (To.bindS (gp (by omega) (by omega)) To.pure)
 ·obtain ⟨r,ht,q1,q2,q3⟩:=ER u deep most h1 (by omega) h3 h4 u.Kids (fun n=>M.r9 n) 0 1 rfl (fun k hk m a b=>ih k hk (deep+1) m (by omega) (by omega) a b) (by omega) (by omega);refine ⟨r,To.succ ?_,q1,q2,fun h=>?_⟩
  ·simp only [M.r9];refine To.neg hd (To.bind ht To.pure)
  ·rw [lN];have:=q3 h;omega
theorem IR(l:List af):∃ b,To (fun n=>M.rG n l) b/\(b=true->l.length<=300):=by
 have loop:∀ (xs:List af) (i:Nat),l.drop i=xs->∃ c:Unit ⊕ Bool,To (fun n=>M.gy l n (i:Int)) c/\(c= .inl ()\/c= .inr false):=by
  intro xs;induction xs with
  | nil=>
   intro i hx;refine ⟨.inl (),To.succ ?_,.inl rfl⟩;simp only [M.gy];exact To.neg (aS hx) To.pure
  | cons x xs ih=>
   intro i hx;by_cases h:100<x.Text.length
   ·refine ⟨.inr false,To.succ ?_,.inr rfl⟩;simp only [M.gy];exact To.pos (aK hx) (To.bindS (aA hx) (To.pos (by omega) To.pure))
   ·obtain ⟨c,h1,h2⟩:=ih (i+1) (aI hx);refine ⟨c,To.succ ?_,h2⟩;simp only [M.gy];rw [bA];exact To.pos (aK hx) (To.bindS (aA hx) (To.neg (by omega) h1))
 obtain ⟨c,h1,h2⟩:=loop l 0 rfl;simp only [M.rG];rcases h2 with rfl | rfl
 ·exact ⟨_,To.bind h1 To.pure,fun h=>by have:=of_decide_eq_true h;omega⟩
 ·exact ⟨_,To.bind h1 To.pure,fun h=>by cases h⟩
def labs(u:aa):Prop:=∀ x,x∈desc u->x.Label.length<=5000/\x.Head.length<=5000/\x.Words.length<=5000
theorem DJ{u k:aa}(h:labs u)(hk:k∈u.Kids):labs k:=fun x hx=>h x (nG hk hx)
theorem Qi(u:aa):∃ b,To (fun n=>M.mU n u) b/\(b=true->labs u):=by
 refine uind (P:=fun u=>∃ b,To (fun n=>M.mU n u) b/\(b=true->labs u)) ?_ u;intro u ih;have loop:∀ (xs:List aa) (slf:Nat->aa->Option Bool) (i:Nat),u.Kids.drop i=xs->(∀ k,k∈xs->∃ b,To (fun n=>slf n k) b/\(b=true->labs k))->
   To (fun n=>M.eP u (slf n) n (i:Int)) (.inr false)\/(To (fun n=>M.eP u (slf n) n (i:Int)) (.inl ())/\ ∀ k,k∈xs->labs k):=by
  intro xs;induction xs with
  | nil=>
   intro slf i hx hs;refine .inr ⟨To.succ ?_,fun k hk=>by cases hk⟩;simp only [M.eP];exact To.neg (aS hx) To.pure
  | cons x xs ih=>
   intro slf i hx hs;obtain ⟨b,hb,hl⟩:=hs x (by simp);cases b with
   | false=>
    refine .inl (To.succ ?_);simp only [M.eP];exact To.pos (aK hx) (To.bindS (aA hx) (To.bind hb.shift (To.pos rfl To.pure)))
   | true=>
    rcases ih (fun n=>slf (n+1)) (i+1) (aI hx) (fun k hk=>by
     obtain ⟨b,h1,h2⟩:=hs k (by simp [hk]);exact ⟨b,h1.shift,h2⟩) with h | ⟨h,hk⟩
    ·refine .inl (To.succ ?_);simp only [M.eP];refine To.pos (aK hx) (To.bindS (aA hx) (To.bind hb.shift (To.neg (by simp) ?_)));rw [bA];exact h
    ·refine .inr ⟨To.succ ?_,fun k hk'=>?_⟩
     ·simp only [M.eP];refine To.pos (aK hx) (To.bindS (aA hx) (To.bind hb.shift (To.neg (by simp) ?_)));rw [bA];exact h
     ·rcases List.mem_cons.1 hk' with rfl | hk'
      ·exact hl rfl
      ·exact hk k hk'
 by_cases hlab:30<u.Label.length
 ·refine ⟨false,To.succ ?_,fun h=>by cases h⟩;simp only [M.mU];exact To.bind (a:=true) (To.pos (by omega) To.pure) (To.pos rfl To.pure)
 ·obtain ⟨b1,k1,l1⟩:=IR u.Head;obtain ⟨b2,k2,l2⟩:=IR u.Words;have ha:To (fun n=>Option.bind (M.rG n u.Head) fun short=>if short=false then some true else Option.bind (M.rG n u.Words) fun short1=>some (!short1)) (!(b1 && b2)):=by
   refine To.bind k1 ?_;cases b1 with
   | false=>exact To.pos rfl To.pure
   | true=>exact To.neg (by simp) (To.bind k2 (To.pure.of (by simp)))
  cases hb:(b1 && b2) with
  | false=>
   rw [hb] at ha;refine ⟨false,To.succ ?_,fun h=>by cases h⟩;simp only [M.mU];exact To.bind (a:=true) (To.neg (by omega) ha) (To.pos rfl To.pure)
  | true=>
   rw [hb] at ha;rw [Bool.and_eq_true] at hb;have e1:=l1 hb.1;have e2:=l2 hb.2;rcases loop u.Kids (fun n=>M.mU n) 0 rfl ih with h | ⟨h,hk⟩
   ·refine ⟨false,To.succ ?_,fun h=>by cases h⟩;simp only [M.mU];exact To.bind (a:=false) (To.neg (by omega) ha) (To.neg (by simp) (To.bind h To.pure))
   ·refine ⟨true,To.succ ?_,fun _ x hx=>?_⟩
    ·simp only [M.mU];exact To.bind (a:=false) (To.neg (by omega) ha) (To.neg (by simp) (To.bind h To.pure))
    ·rw [fH] at hx;rcases List.mem_cons.1 hx with rfl | hx
     ·exact ⟨by omega,by omega,by omega⟩
     ·obtain ⟨k,h1,h2⟩:=List.mem_flatMap.1 hx;exact hk k h1 x h2
theorem Qj(u:aa)(most:Int)(h0:0<=most)(h1:most<=1000000):∃ b,To (fun n=>M.uw n u most) b/\(b=true->(cnt u:Int)<=most/\labs u):=by
 obtain ⟨r,ht,q1,q2,q3⟩:=TJ u 0 most (by omega) (by omega) h0 h1;by_cases hr:r<=most
 ·obtain ⟨b,hb,hl⟩:=Qi u;refine ⟨b,?_,fun h=>⟨by have:=q3 hr;omega,hl h⟩⟩;simp only [M.uw];exact To.bind ht (To.pos hr (To.bind hb To.pure))
 ·refine ⟨false,?_,fun h=>by cases h⟩;simp only [M.uw];exact To.bind ht (To.neg hr To.pure)
theorem zl{u k:aa}(hk:k∈u.Kids):k∈desc u:=nG hk (fC k)
theorem NP(u:aa):cnt u<=1000000->To (fun n=>M.rM n u) (cnt u:Int):=by
 refine uind (P:=fun u=>cnt u<=1000000->To (fun n=>M.rM n u) (cnt u:Int)) ?_ u;intro u ih hc;have loop:∀ (xs:List aa) (slf:Nat->aa->Option Int) (i d:Nat),u.Kids.drop i=xs->(∀ k,k∈xs->To (fun n=>slf n k) (cnt k:Int))->d+(xs.map cnt).sum<=1000000->
   To (fun n=>M.iI u (slf n) n (d:Int) (i:Int)) ((d+(xs.map cnt).sum:Nat):Int):=by
  intro xs;induction xs with
  | nil=>
   intro slf i d hx hs hd;refine To.succ ?_;simp only [M.iI];exact To.neg (aS hx) (To.pure.of (by simp))
  | cons x xs ih=>
   intro slf i d hx hs hd;simp only [List.map_cons,List.sum_cons] at hd;refine To.succ ?_;simp only [M.iI];refine To.pos (aK hx) (To.bindS (aA hx) (To.bind (hs x (by simp)).shift (To.bindS (gp (by omega) (by omega)) ?_)));rw [bA,show (d:Int)+(cnt x:Int)=((d+cnt x:Nat):Int) by omega];refine (ih (fun n=>slf (n+1)) (i+1) (d+cnt x) (aI hx) (fun k hk=>(hs k (by simp [hk])).shift) (by omega)).of ?_;simp only [List.map_cons,List.sum_cons];congr 1;omega
 have he:=lN u;refine To.succ ?_;simp only [M.rM];refine To.bind (loop u.Kids (fun n=>M.rM n) 0 1 rfl (fun k hk=>ih k hk (by have:=jH hk;omega)) (by omega)) (To.pure.of (by rw [he]))
theorem F8(u:aa):cnt u<=1000000->To (fun n=>M.vF n u) ((desc u).map aa.Id):=by
 refine uind (P:=fun u=>cnt u<=1000000->To (fun n=>M.vF n u) ((desc u).map aa.Id)) ?_ u;intro u ih hc;have loop:∀ (xs:List aa) (slf:Nat->aa->Option (List ai)) (i:Nat) (out:List ai),u.Kids.drop i=xs->(∀ k,k∈xs->To (fun n=>slf n k) ((desc k).map aa.Id))->out.length+(xs.map cnt).sum<=1000000->
   To (fun n=>M.jY u (slf n) n out (i:Int)) (out++(xs.flatMap desc).map aa.Id):=by
  intro xs;induction xs with
  | nil=>
   intro slf i out hx hs hd;refine To.succ ?_;simp only [M.jY];exact To.neg (aS hx) (To.pure.of (by simp))
  | cons x xs ih=>
   intro slf i out hx hs hd;simp only [List.map_cons,List.sum_cons] at hd;refine To.succ ?_;simp only [M.jY];have hlen:((desc x).map aa.Id).length=cnt x:=by simp [cnt]
   refine To.pos (aK hx) (To.bindS (aA hx) (To.bind (hs x (by simp)).shift (To.bindS (bJ (by omega)) ?_)));rw [bA];refine (ih (fun n=>slf (n+1)) (i+1) _ (aI hx) (fun k hk=>(hs k (by simp [hk])).shift) (by rw [List.length_append];omega)).of ?_;simp
 have he:=lN u;refine To.succ ?_;simp only [M.vF];refine To.bind (loop u.Kids (fun n=>M.vF n) 0 [u.Id] rfl (fun k hk=>ih k hk (by have:=jH hk;omega)) (by simp;omega)) (To.pure.of (by rw [fH u];simp))
theorem Qk(all:List ai)(i:Nat)(hi:i<all.length)(hb:all.length<=1000000):∀ (d k:Nat),i-k<=d->Tot (fun n=>M.dO all (i:Int) n (k:Int)):=by
 intro d;induction d with
 | zero=>
  intro k hk;refine Tot.succ ?_;simp only [M.dO];exact Tot.neg (by omega) Tot.pure
 | succ d ih=>
  intro k hk;refine Tot.succ ?_;simp only [M.dO];by_cases h:k<i
  ·obtain ⟨x,hx,_⟩:=wI (l:=all) (i:=(k:Int)) (by omega) (by omega);obtain ⟨y,hy,_⟩:=wI (l:=all) (i:=(i:Int)) (by omega) (by omega);exact Tot.pos (by omega) (Tot.bindS hx (Tot.bindS hy (Tot.ite (fun _=>Tot.pure) fun _=>Tot.bindS (gm (by omega)) (ih (k+1) (by omega)))))
  ·exact Tot.neg (by omega) Tot.pure
theorem Ql(all:List ai)(hb:all.length<=1000000):∀ (xs:List ai) (i:Nat),all.drop i=xs->Tot (fun n=>M.dZ all n (i:Int)):=by
 intro xs;induction xs with
 | nil=>
  intro i hx;refine Tot.succ ?_;simp only [M.dZ];exact Tot.neg (aS hx) Tot.pure
 | cons x xs ih=>
  intro i hx;have hi:=(jV hx).1;refine Tot.succ ?_;simp only [M.dZ];refine Tot.pos (aK hx) (Tot.bind (Qk all i hi hb i 0 (by omega)) fun c _=>?_);cases c with
  | inl _=>exact Tot.bindS (gm (by omega)) (ih (i+1) (aI hx))
  | inr _=>exact Tot.pure
theorem Qm(all:List ai):∀ (xs:List ai) (i:Nat) (b:Bool),all.drop i=xs->Tot (fun n=>M.fq all n b (i:Int)):=by
 intro xs;induction xs with
 | nil=>
  intro i b hx;refine Tot.succ ?_;simp only [M.fq];exact Tot.neg (aS hx) Tot.pure
 | cons x xs ih=>
  intro i b hx;refine Tot.succ ?_;simp only [M.fq];rw [bA];exact Tot.pos (aK hx) (Tot.ite (fun _=>Tot.bindS (aA hx) (ih (i+1) _ (aI hx))) fun _=>ih (i+1) _ (aI hx))
theorem TK(u:aa)(hc:cnt u<=1000000):Tot (fun n=>M.uy n u):=by
 have hl:((desc u).map aa.Id).length<=1000000:=by simpa [cnt] using hc
 simp only [M.uy];refine Tot.bind (F8 u hc).tot fun a ha=>?_;obtain rfl:=ha.det (F8 u hc);refine Tot.bind (Qm _ _ 0 true rfl) fun b _=>Tot.ite (fun _=>Tot.pure) fun _=>?_;have h0:idx ((desc u).map aa.Id) 0=some u.Id:=by rw [fH];simp [idx]
 refine Tot.bindS h0 (Tot.ite (fun _=>Tot.pure) fun _=>Tot.bind (Ql _ hl _ 0 rfl) fun c _=>?_);cases c<;> exact Tot.pure
def W9(s:ax):Bool:=decide (s.Kind=0) && (s.Label==([]:Str))
def WM(x:aa)(s:ax):Bool:=decide (x.Kind=s.Kind) && (x.Label==s.Label)
def WX(s:ax):Bool:=decide (1<=s.Kind) && decide (s.Kind<=7) && sF s.Label
def WZ:List ax->Bool
 | []=>true
 | s :: p=>WX s && WZ p
def WV(p:List ax):Bool:=
 (match p with
  | []=>true
  | s :: q=>(W9 s || WX s) && WZ q) && decide (p.length<=9)
theorem KT(s:ax):M.qz s=some (W9 s):=by
 simp only [M.qz,W9];split<;> simp_all
theorem KU(s:ax):M.wB s=some (W9 s):=by
 simp only [M.wB,W9];split<;> simp_all
theorem DK(x:aa)(s:ax):M.mX x s=some (WM x s):=by
 simp only [M.mX,WM];split<;> simp_all
theorem IU(x:aa)(s:ax):M.Bc x s=some (WM x s):=by
 simp only [M.Bc,WM];split<;> simp_all
theorem DL(p:List ax)(i:Int)(hi:1<=i):To (fun n=>M.bL n p i) (if WZ p then .inl () else .inr false):=by
 induction p generalizing i with
 | nil=>simp only [M.bL];exact To.pure
 | cons s p ih=>
  simp only [M.bL];refine To.bind (a:=false) (To.neg (by omega) To.pure) (To.neg (by simp) ?_);by_cases h1:s.Kind<=0
  ·exact To.pos h1 (To.pure.of (by rw [if_neg];simp [WZ,WX];omega))
  refine To.neg h1 ?_;by_cases h2:7<s.Kind
  ·exact To.pos h2 (To.pure.of (by rw [if_neg];simp [WZ,WX];omega))
  refine To.neg h2 (To.bind (tZ s.Label) ?_);cases hl:sF s.Label with
  | false=>exact To.pos rfl (To.pure.of (by rw [if_neg];simp [WZ,WX,hl]))
  | true=>
   refine To.neg (by simp) ((ih (i+1) (by omega)).of ?_);have:WX s=true:=by simp [WX,hl];omega
   simp [WZ,this]
theorem DN(p:List ax):To (fun n=>M.mF n p) (WV p):=by
 simp only [M.mF];cases p with
 | nil=>
  simp only [M.bL];exact To.bind (f:=fun _=>some (Sum.inl ())) To.pure (To.pure.of (by simp [WV]))
 | cons s p=>
  have fin:∀ b:Bool,To (fun n=>M.bL n (s :: p) 0) (if b then .inl () else .inr false)->b=((W9 s || WX s) && WZ p)->To (fun n=>Option.bind (M.bL n (s :: p) 0) fun
    | .inl _=>some (decide (((s :: p).length:Int)<=(9:Int)))
    | .inr ret0=>some ret0) (WV (s :: p)):=by
   intro b hb he;refine To.bind hb ?_;cases b with
   | true=>exact To.pure.of (by simp only [WV,<-he];simp;omega)
   | false=>exact To.pure.of (by simp [WV,<-he])
  refine fin ((W9 s || WX s) && WZ p) ?_ rfl;simp only [M.bL];refine To.bind (a:=W9 s) (To.pos (by simp) (To.bindS (KT s) To.pure)) ?_;cases hb:W9 s with
  | true=>
   refine To.pos rfl ((DL p (0+1) (by omega)).of (by simp))
  | false=>
   refine To.neg (by simp) ?_;simp only [Bool.false_or];by_cases h1:s.Kind<=0
   ·exact To.pos h1 (To.pure.of (by rw [if_neg];simp [WX];omega))
   refine To.neg h1 ?_;by_cases h2:7<s.Kind
   ·exact To.pos h2 (To.pure.of (by rw [if_neg];simp [WX];omega))
   refine To.neg h2 (To.bind (tZ s.Label) ?_);cases hl:sF s.Label with
   | false=>exact To.pos rfl (To.pure.of (by rw [if_neg];simp [WX,hl]))
   | true=>
    refine To.neg (by simp) ((DL p (0+1) (by omega)).of ?_);have:WX s=true:=by simp [WX,hl];omega
    simp [this]
theorem Qn(p:List ax)(hp:∀ y,y∈p->y.Label.length<=1000000000):∀ (xs:List ax) (i:Nat),1<=i->p.drop i=xs->To (fun n=>M.fu p n (i:Int)) (if WZ xs then .inl () else .inr false):=by
 intro xs;induction xs with
 | nil=>
  intro i _ hx;refine To.succ ?_;simp only [M.fu];exact To.neg (aS hx) To.pure
 | cons s xs ih=>
  intro i hi hx;refine To.succ ?_;simp only [M.fu];refine To.pos (aK hx) (To.bind (a:=false) (To.neg (by omega) To.pure) (To.neg (by simp) (To.bindS (aA hx) ?_)));by_cases h1:s.Kind<1
  ·exact To.pos h1 (To.pure.of (by rw [if_neg];simp [WZ,WX];omega))
  refine To.neg h1 (To.bindS (aA hx) ?_);by_cases h2:7<s.Kind
  ·exact To.pos h2 (To.pure.of (by rw [if_neg];simp [WZ,WX];omega))
  have hm:s∈p:=List.mem_of_getElem? (jV hx).2.1;refine To.neg h2 (To.bindS (aA hx) (To.bind (may03 s.Label (hp s hm)) ?_));cases hl:sF s.Label with
  | false=>exact To.pos rfl (To.pure.of (by rw [if_neg];simp [WZ,WX,hl]))
  | true=>
   refine To.neg (by simp) ?_;rw [bA];refine (ih (i+1) (by omega) (aI hx)).of ?_;have:WX s=true:=by simp [WX,hl];omega
   simp [WZ,this]
theorem KV(p:List ax)(hp:∀ y,y∈p->y.Label.length<=1000000000):To (fun n=>M.vH n p) (WV p):=by
 simp only [M.vH];by_cases h9:9<p.length
 ·refine To.pos (by omega) (To.pure.of ?_);cases p with
  | nil=>simp at h9
  | cons s q=>simp only [WV];rw [decide_eq_false (show ¬ (s :: q).length<=9 by omega)];simp
 refine To.neg (by omega) ?_;cases p with
 | nil=>
  refine To.bind (a:=.inl ()) (To.succ ?_) ?_
  ·simp only [M.fu];exact To.neg (by simp) To.pure
  ·exact To.pure.of (by simp [WV])
 | cons s p=>
  have fin:∀ b:Bool,To (fun n=>M.fu (s :: p) n 0) (if b then .inl () else .inr false)->b=((W9 s || WX s) && WZ p)->To (fun n=>Option.bind (M.fu (s :: p) n 0) fun
    | .inl _=>some true
    | .inr ret0=>some ret0) (WV (s :: p)):=by
   intro b hb he;refine To.bind hb ?_;cases b with
   | true=>exact To.pure.of (by simp only [WV,<-he];simp at h9 ⊢;omega)
   | false=>exact To.pure.of (by simp [WV,<-he])
  refine fin ((W9 s || WX s) && WZ p) (To.succ ?_) rfl;have hs:=hp s (by simp);have hn:=Qn (s :: p) hp p 1 (by omega) rfl;simp only [M.fu];refine To.pos (by simp) (To.bind (a:=W9 s) (To.pos (by simp) (To.bindS fB (To.bindS (KU s) To.pure))) ?_);cases hb:W9 s with
  | true=>exact To.pos rfl (hn.of (by simp))
  | false=>
   refine To.neg (by simp) (To.bindS fB ?_);simp only [Bool.false_or];by_cases h1:s.Kind<1
   ·exact To.pos h1 (To.pure.of (by rw [if_neg];simp [WX];omega))
   refine To.neg h1 (To.bindS fB ?_);by_cases h2:7<s.Kind
   ·exact To.pos h2 (To.pure.of (by rw [if_neg];simp [WX];omega))
   refine To.neg h2 (To.bindS fB (To.bind (may03 s.Label hs) ?_));cases hl:sF s.Label with
   | false=>exact To.pos rfl (To.pure.of (by rw [if_neg];simp [WX,hl]))
   | true=>
    refine To.neg (by simp) (hn.of ?_);have:WX s=true:=by simp [WX,hl];omega
    simp [this]
theorem ES(u:aa):cnt u<=1000000->To (fun n=>M.ny n u) (desc u):=by
 refine uind (P:=fun u=>cnt u<=1000000->To (fun n=>M.ny n u) (desc u)) ?_ u;intro u ih hc;have loop:∀ (xs:List aa) (slf:Nat->aa->Option (List aa)) (i:Nat) (out:List aa),u.Kids.drop i=xs->(∀ k,k∈xs->To (fun n=>slf n k) (desc k))->out.length+(xs.map cnt).sum<=1000000->
   To (fun n=>M.iO u (slf n) n out (i:Int)) (out++xs.flatMap desc):=by
  intro xs;induction xs with
  | nil=>
   intro slf i out hx hs hd;refine To.succ ?_;simp only [M.iO];exact To.neg (aS hx) (To.pure.of (by simp))
  | cons x xs ih=>
   intro slf i out hx hs hd;simp only [List.map_cons,List.sum_cons] at hd;refine To.succ ?_;simp only [M.iO];have hlen:(desc x).length=cnt x:=rfl;refine To.pos (aK hx) (To.bindS (aA hx) (To.bind (hs x (by simp)).shift (To.bindS (bJ (by omega)) ?_)));rw [bA];refine (ih (fun n=>slf (n+1)) (i+1) _ (aI hx) (fun k hk=>(hs k (by simp [hk])).shift) (by rw [List.length_append];omega)).of ?_;simp
 have he:=lN u;refine To.succ ?_;simp only [M.ny];refine To.bind (loop u.Kids (fun n=>M.ny n) 0 [u] rfl (fun k hk=>ih k hk (by have:=jH hk;omega)) (by simp;omega)) (To.pure.of (by rw [fH u];simp))
def wsum(l:List aa):Nat:=(l.map cnt).sum
theorem IV(l:List aa):l.length<=wsum l:=FY cnt yJ l
theorem rV(x:aa)(l:List aa):wsum (x :: l)=cnt x+wsum l:=by simp [wsum]
theorem IW(l m:List aa):wsum (l++m)=wsum l+wsum m:=by simp [wsum]
theorem uf(p:aa->Bool):∀ l:List aa,wsum (l.filter p)<=wsum l
 | []=>by simp [wsum]
 | x :: l=>by
  have:=uf p l;rw [List.filter_cons];split
  ·rw [rV,rV];omega
  ·rw [rV];omega
theorem ET:∀ l:List aa,wsum (l.flatMap aa.Kids)<=wsum l
 | []=>by simp [wsum]
 | x :: l=>by
  have:=ET l;have:=lN x;rw [List.flatMap_cons,IW,rV];unfold wsum at *;omega
theorem Bq(u:aa):wsum (desc u)<=cnt u*cnt u:=by
 have:∀ l:List aa,(∀ x,x∈l->cnt x<=cnt u)->wsum l<=l.length*cnt u:=by
  intro l;induction l with
  | nil=>intro _;simp [wsum]
  | cons x l ih=>
   intro h;have h1:=h x (by simp);have h2:=ih (fun y hy=>h y (by simp [hy]));rw [rV,List.length_cons,Nat.add_mul];omega
 refine this _ ?_;refine uind (P:=fun u=>∀ x,x∈desc u->cnt x<=cnt u) ?_ u;intro u ih x hx;rw [fH] at hx;rcases List.mem_cons.1 hx with rfl | hx
 ·exact Nat.le_refl _
 ·obtain ⟨k,h1,h2⟩:=List.mem_flatMap.1 hx;have:=ih k h1 x h2;have:=jH h1;omega
def down(s:ax)(l:List aa):List aa:=(l.flatMap aa.Kids).filter (fun x=>WM x s)
theorem Br(s:ax)(l:List aa):wsum (down s l)<=wsum l:=Nat.le_trans (uf _ _) (ET l)
def way:List ax->List aa->List aa
 | [],l=>l
 | s :: p,l=>way p (down s l)
def units(u:aa)(p:List ax):List aa:=
 if WV p then
  match p with
  | []=>[u]
  | s :: q=>way q (if W9 s then [u] else (desc u).filter (fun x=>WM x s))
 else []
def lim38:Nat:=100000000000
theorem Xm(s:ax):∀ (xs next:List aa),next.length+xs.length<=lim38->M.eB s xs next=some (next++xs.filter (fun x=>WM x s))
 | [],next,_=>by simp [M.eB]
 | x :: xs,next,h=>by
  simp only [List.length_cons] at h;simp only [M.eB,DK,Option.bind_some];cases hc:WM x s with
  | true=>
   rw [if_pos rfl,bJ (by unfold lim38 at h;simp;omega)];simp only [Option.bind_some];rw [Xm s xs _ (by simp;omega)];simp [hc]
  | false=>
   rw [if_neg (by simp),Xm s xs _ (by omega)];simp [hc]
theorem Xt(s:ax):∀ (xs next:List aa),next.length+wsum xs<=lim38->M.fM s xs next=some (next++down s xs)
 | [],next,_=>by simp [M.fM,down]
 | x :: xs,next,h=>by
  rw [rV] at h;have hk:=sw x;simp only [M.fM];rw [Xm s x.Kids next (by omega)];simp only [Option.bind_some];have hf:=List.length_filter_le (fun y=>WM y s) x.Kids;rw [Xt s xs _ (by simp only [List.length_append];omega)];simp [down]
theorem found1:∀ (p:List ax) (l:List aa),wsum l<=lim38->M.eD p l=some (way p l)
 | [],l,_=>by simp [M.eD,way]
 | s :: p,l,h=>by
  simp only [M.eD];rw [Xt s l [] (by simpa using h)];simp only [Option.bind_some,List.nil_append];rw [found1 p _ (Nat.le_trans (Br s l) h)];rfl
theorem TL(s:ax)(q:List ax)(u:aa):∀ w:List aa,w.length+cnt u<=lim38->To (fun n=>M.iN n u (s :: q) w) (w++(desc u).filter (fun x=>WM x s)):=by
 refine uind (P:=fun u=>∀ w:List aa,w.length+cnt u<=lim38->To (fun n=>M.iN n u (s :: q) w) (w++(desc u).filter (fun x=>WM x s))) ?_ u;intro u ih w hw;have loop:∀ (xs:List aa) (slf:Nat->aa->List ax->List aa->Option (List aa)) (w:List aa),(∀ k,k∈xs->∀ w:List aa,w.length+cnt k<=lim38->To (fun n=>slf n k (s :: q) w) (w++(desc k).filter (fun x=>WM x s)))->
   w.length+wsum xs<=lim38->To (fun n=>M.dz (s :: q) (slf n) xs w) (w++(xs.flatMap desc).filter (fun x=>WM x s)):=by
  intro xs;induction xs with
  | nil=>intro slf w hs hw;simp only [M.dz];exact To.pure.of (by simp)
  | cons x xs ih=>
   intro slf w hs hw;rw [rV] at hw;simp only [M.dz];refine To.bind (hs x (by simp) w (by omega)) ?_;have hf:=List.length_filter_le (fun y=>WM y s) (desc x);have hl:(desc x).length=cnt x:=rfl;refine (ih slf _ (fun k hk=>hs k (by simp [hk])) (by rw [List.length_append];omega)).of ?_;simp
 have he:=lN u;refine To.succ ?_;simp only [M.iN,M.om];have fin:∀ w2:List aa,w2=w++([u].filter (fun x=>WM x s))->To (fun n=>Option.bind (M.dz (s :: q) (M.iN n) u.Kids w2) fun v=>some v) (w++(desc u).filter (fun x=>WM x s)):=by
  intro w2 hw2;have hf:=List.length_filter_le (fun y=>WM y s) [u];simp only [List.length_singleton] at hf;refine To.bind (loop u.Kids (fun n=>M.iN n) w2 (fun k hk=>ih k hk) (by rw [hw2,List.length_append];unfold wsum;omega)) (To.pure.of ?_);rw [hw2,fH u,List.filter_cons];by_cases hc:WM u s=true
  ·simp [hc]
  ·simp [hc]
 cases hc:WM u s with
 | true=>
  refine To.bindS (a:=w++ [u]) ?_ (fin _ (by simp [hc]));rw [fB];simp only [Option.bind_some,DK,hc];rw [if_pos trivial,bJ (by unfold lim38 at hw;simp;omega)];rfl
 | false=>
  refine To.bindS (a:=w) ?_ (fin _ (by simp [hc]));rw [fB];simp only [Option.bind_some,DK,hc];rw [if_neg (by simp)]
theorem Qo(u:aa)(p:List ax)(hc:cnt u<=10000):To (fun n=>M.o5 n u p) (units u p):=by
 simp only [M.o5];refine To.bind (DN p) ?_;unfold units;cases hv:WV p with
 | false=>exact To.pos rfl (To.pure.of (by simp))
 | true=>
  refine To.neg (by simp) ?_;cases p with
  | nil=>
   refine To.bind (a:=.inr [u]) (To.pos (by simp) To.pure) ?_;exact To.pure.of (by simp)
  | cons s q=>
   have h2:cnt u*cnt u<=10000*10000:=Nat.mul_le_mul hc hc;have hslc:slcLo (s :: q) 1=some q:=by simp [slcLo];omega
   have fin:∀ l:List aa,wsum l<=lim38->l=(if W9 s then [u] else (desc u).filter (fun x=>WM x s))->To (fun n:Nat=>Option.bind (slcLo (s :: q) (1:Int)) fun v1=>Option.bind (M.eD v1 l) fun at0_2=>some at0_2) (way q (if W9 s then [u] else (desc u).filter (fun x=>WM x s))):=by
    intro l hl he;rw [hslc];simp only [Option.bind_some];rw [found1 q l hl];exact To.pure.of (by rw [he])
   simp only [if_true];cases hb:W9 s with
   | true=>
    refine To.bind (a:=.inl [u]) (To.neg (by simp;omega) (To.bindS fB (To.bindS (KT s) (To.pos (by simp [hb]) To.pure)))) ?_;have:=fin [u] (by simp [wsum,lim38];omega) (by simp [hb]);rw [hb] at this;exact this
   | false=>
    have he:=TL s q u [] (by simp [lim38];omega);refine To.bind (a:=.inl ((desc u).filter (fun x=>WM x s))) (To.neg (by simp;omega) (To.bindS fB (To.bindS (KT s) (To.neg (by simp [hb]) (To.bind he (To.pure.of (by simp))))))) ?_;have hw:=Nat.le_trans (uf (fun x=>WM x s) (desc u)) (Bq u);have:=fin ((desc u).filter (fun x=>WM x s)) (by unfold lim38;omega) (by simp [hb]);rw [hb] at this;exact this
theorem KW(u:aa)(p:List ax)(hc:cnt u<=10000)(hl:(units u p).length<=lim38):To (fun n=>M.oo n u p) ((units u p).map aa.Id):=by
 have loop:∀ (xs:List aa) (out:List ai),out.length+xs.length<=lim38->M.dI xs out=some (out++xs.map aa.Id):=by
  intro xs;induction xs with
  | nil=>intro out _;simp [M.dI]
  | cons x xs ih=>
   intro out h;simp only [List.length_cons] at h;simp only [M.dI];rw [bJ (by unfold lim38 at h;simp;omega)];simp only [Option.bind_some];rw [ih _ (by simp;omega)];simp
 simp only [M.oo];refine To.bind (Qo u p hc) ?_;rw [loop _ [] (by simpa using hl)];exact To.pure.of (by simp)
def oneOf:List ai->ai×Int
 | []=>(aF,7)
 | [x]=>(x,0)
 | _=>(aF,8)
theorem xg(u:aa)(p:List ax)(hc:cnt u<=10000)(hl:(units u p).length<=lim38):To (fun n=>M.cu n u p) (oneOf ((units u p).map aa.Id)):=by
 simp only [M.cu];refine To.bind (KW u p hc hl) ?_
 match (units u p).map aa.Id with
 | []=>exact To.pos (by simp) To.pure
 | [x]=>exact To.neg (by simp) (To.pos (by simp) (To.bindS fB To.pure))
 | x :: y :: l=>exact To.neg (by simp;omega) (To.neg (by simp;omega) To.pure)
theorem MB:∀ (p:List ax) (l:List aa),(way p l).length<=wsum l
 | [],l=>IV l
 | s :: p,l=>Nat.le_trans (MB p _) (Br s l)
theorem yL(u:aa)(p:List ax):(units u p).length<=cnt u*cnt u:=by
 have h1:=yJ u;have h2:1*cnt u<=cnt u*cnt u:=Nat.mul_le_mul_right _ h1;unfold units;split
 ·split
  ·simp;omega
  ·rename_i s q _;refine Nat.le_trans (MB q _) ?_;split
   ·simp [wsum];omega
   ·exact Nat.le_trans (uf _ _) (Bq u)
 ·simp
theorem Ww(p:List ax)(now:List aa)(k i:Nat)(s:ax)(y:aa)(hs:idx p (k:Int)=some s)(hy:idx now (i:Int)=some y):∀ (xs:List aa) (j:Nat) (next:List aa),y.Kids.drop j=xs->next.length+xs.length<=lim38->
  To (fun n=>M.gJ p now (k:Int) (i:Int) n next (j:Int)) (next++xs.filter (fun x=>WM x s)):=by
 intro xs;induction xs with
 | nil=>
  intro j next hx _
  refine To.succ ?_;simp only [M.gJ];exact To.bindS hy (To.neg (aS hx) (To.pure.of (by simp)))
 | cons x xs ih=>
  intro j next hx h
  simp only [List.length_cons] at h;refine To.succ ?_;simp only [M.gJ];refine To.bindS hy (To.pos (aK hx) (To.bindS hy (To.bindS (aA hx) (To.bindS hs (To.bindS (IU x s) ?_)))));cases hc:WM x s with
  | true=>
   refine To.pos rfl (To.bindS hy (To.bindS (aA hx) (To.bindS (bJ (by unfold lim38 at h;simp;omega)) ?_)));rw [bA];exact (ih (j+1) _ (aI hx) (by simp;omega)).of (by simp [hc])
  | false=>
   refine To.neg (by simp) ?_;rw [bA];exact (ih (j+1) _ (aI hx) (by omega)).of (by simp [hc])
theorem Wx(p:List ax)(now:List aa)(k:Nat)(s:ax)(hs:idx p (k:Int)=some s):∀ (xs:List aa) (i:Nat) (next:List aa),now.drop i=xs->next.length+wsum xs<=lim38->i+xs.length<=lim38->
  To (fun n=>M.iP p now (k:Int) n next (i:Int)) (next++down s xs):=by
 intro xs;induction xs with
 | nil=>
  intro i next hx _ _
  refine To.succ ?_;simp only [M.iP];exact To.neg (aS hx) (To.pure.of (by simp [down]))
 | cons x xs ih=>
  intro i next hx h hi
  rw [rV] at h;simp only [List.length_cons] at hi;have hk:=sw x;refine To.succ ?_;simp only [M.iP];refine To.pos (aK hx) (To.bind (Ww p now k i s x hs (aA hx) x.Kids 0 next rfl (by omega)) (To.bindS (gm (by unfold lim38 at hi;omega)) ?_));have hf:=List.length_filter_le (fun y=>WM y s) x.Kids;exact (ih (i+1) _ (aI hx) (by rw [List.length_append];omega) (by omega)).of (by simp [down])
theorem Vl(p:List ax):∀ (xs:List ax) (k:Nat) (now:List aa),p.drop k=xs->wsum now<=lim38->k+xs.length<=lim38->To (fun n=>M.iQ p n now (k:Int)) (way xs now):=by
 intro xs;induction xs with
 | nil=>
  intro k now hx _ _;refine To.succ ?_;simp only [M.iQ];exact To.neg (aS hx) To.pure
 | cons s xs ih=>
  intro k now hx h hk;simp only [List.length_cons] at hk;refine To.succ ?_;simp only [M.iQ];refine To.pos (aK hx) (To.bind (Wx p now k s (aA hx) now 0 [] rfl (by simpa using h) (by have:=IV now;omega)) (To.bindS (gm (by unfold lim38 at hk;omega)) ?_));rw [List.nil_append];exact ih (k+1) _ (aI hx) (Nat.le_trans (Br s now) h) (by omega)
theorem Wy(p:List ax)(s:ax)(hs:idx p (0:Int)=some s)(every:List aa):∀ (xs:List aa) (i:Nat) (now:List aa),every.drop i=xs->now.length+xs.length<=lim38->To (fun n=>M.gI p every n now (i:Int)) (now++xs.filter (fun x=>WM x s)):=by
 intro xs;induction xs with
 | nil=>
  intro i now hx _;refine To.succ ?_;simp only [M.gI];exact To.neg (aS hx) (To.pure.of (by simp))
 | cons x xs ih=>
  intro i now hx h;simp only [List.length_cons] at h;refine To.succ ?_;simp only [M.gI];refine To.pos (aK hx) (To.bindS (aA hx) (To.bindS hs (To.bindS (IU x s) ?_)));cases hc:WM x s with
  | true=>
   refine To.pos rfl (To.bindS (aA hx) (To.bindS (bJ (by unfold lim38 at h;simp;omega)) ?_));rw [bA];exact (ih (i+1) _ (aI hx) (by simp;omega)).of (by simp [hc])
  | false=>
   refine To.neg (by simp) ?_;rw [bA];exact (ih (i+1) _ (aI hx) (by omega)).of (by simp [hc])
theorem TM(u:aa)(p:List ax)(hc:cnt u<=10000)(hp:∀ y,y∈p->y.Label.length<=1000000000):To (fun n=>M.wE n u p) (units u p):=by
 simp only [M.wE];refine To.bind (KV p hp) ?_;unfold units;cases hv:WV p with
 | false=>exact To.pos rfl (To.pure.of (by simp))
 | true=>
  refine To.neg (by simp) ?_;cases p with
  | nil=>exact To.pos (by simp) (To.pure.of (by simp))
  | cons s q=>
   have h2:cnt u*cnt u<=10000*10000:=Nat.mul_le_mul hc hc;have hq:(s :: q).length<=9:=by
    simp only [WV,Bool.and_eq_true,decide_eq_true_eq] at hv;exact hv.2
   simp only [List.length_cons] at hq;refine To.neg (by simp;omega) ?_;simp only [if_true];cases hb:W9 s with
   | true=>
    refine To.bind (a:=[u]) (To.bindS fB (To.bindS (KU s) (To.pos hb (To.bindS (bJ (by simp)) To.pure)))) ?_;exact To.bind (Vl (s :: q) q 1 [u] rfl (by simp [wsum,lim38];omega) (by unfold lim38;omega)) To.pure
   | false=>
    have hw:=Nat.le_trans (uf (fun x=>WM x s) (desc u)) (Bq u);refine To.bind (a:=(desc u).filter (fun x=>WM x s)) (To.bindS fB (To.bindS (KU s) (To.neg (by simp [hb]) (To.bind (ES u (by omega)) (To.bind (Wy (s :: q) s fB (desc u) (desc u) 0 [] rfl (by show 0+cnt u<=_;unfold lim38;omega)) (To.pure.of (by simp))))))) ?_;exact To.bind (Vl (s :: q) q 1 _ rfl (by unfold lim38;omega) (by unfold lim38;omega)) To.pure
theorem VX(u:aa)(p:List ax)(hc:cnt u<=10000)(hp:∀ y,y∈p->y.Label.length<=1000000000):To (fun n=>M.xI n u p) ((units u p).map aa.Id):=by
 have hl:=yL u p;have h2:cnt u*cnt u<=10000*10000:=Nat.mul_le_mul hc hc;have loop:∀ (xs:List aa) (i:Nat) (out:List ai),(units u p).drop i=xs->out.length+xs.length<=lim38->To (fun n=>M.jC (units u p) n out (i:Int)) (out++xs.map aa.Id):=by
  intro xs;induction xs with
  | nil=>
   intro i out hx _;refine To.succ ?_;simp only [M.jC];exact To.neg (aS hx) (To.pure.of (by simp))
  | cons x xs ih=>
   intro i out hx h;simp only [List.length_cons] at h;refine To.succ ?_;simp only [M.jC];refine To.pos (aK hx) (To.bindS (aA hx) (To.bindS (bJ (by unfold lim38 at h;simp;omega)) ?_));rw [bA];exact (ih (i+1) _ (aI hx) (by simp;omega)).of (by simp)
 simp only [M.xI];exact To.bind (TM u p hc hp) (To.bind (loop _ 0 [] rfl (by unfold lim38;simp;omega)) (To.pure.of (by simp)))
theorem Wz(u:aa)(p:List ax)(hc:cnt u<=10000)(hp:∀ y,y∈p->y.Label.length<=1000000000):To (fun n=>M.vK n u p) (oneOf ((units u p).map aa.Id)):=by
 simp only [M.vK];refine To.bind (VX u p hc hp) ?_
 match (units u p).map aa.Id with
 | []=>exact To.pos (by simp) To.pure
 | [x]=>exact To.neg (by simp) (To.neg (by simp) (To.bindS fB To.pure))
 | x :: y :: l=>exact To.neg (by simp;omega) (To.pos (by simp;omega) To.pure)
def WY(id:ai)(u:aa):Option aa:=if u.Id=id then some u else u.Kids.attach.findSome? (fun k=>WY id k.1)
termination_by SizeOf.sizeOf u
decreasing_by exact xe k.2
theorem xx{β:Type}(f:aa->Option β)(l:List aa):l.attach.findSome? (fun k=>f k.1)=l.findSome? f:=by
 rw [show (fun k:{x // x∈l}=>f k.1)=f ∘ Subtype.val from rfl,<-List.findSome?_map,List.attach_map_subtype_val]
theorem wM(id:ai)(u:aa):WY id u=if u.Id=id then some u else u.Kids.findSome? (WY id):=by
 rw [WY];split
 ·rfl
 ·exact xx (WY id) u.Kids
def WP(id:ai)(u:aa):Option (List aa):=if u.Id=id then some [u] else (u.Kids.attach.findSome? (fun k=>WP id k.1)).map (u :: ·)
termination_by SizeOf.sizeOf u
decreasing_by exact xe k.2
theorem nI(id:ai)(u:aa):WP id u=if u.Id=id then some [u] else (u.Kids.findSome? (WP id)).map (u :: ·):=by
 rw [WP];split
 ·rfl
 ·rw [xx (WP id) u.Kids]
theorem uF(id:ai)(u:aa):∀ w,WP id u=some w->w≠ []:=by
 intro w h;rw [nI] at h;split at h
 ·cases h;simp
 ·obtain ⟨v,_,rfl⟩:=Option.map_eq_some_iff.1 h;simp
theorem yh(id:ai)(u:aa):∀ w,WP id u=some w->w.length<=cnt u:=by
 refine uind (P:=fun u=>∀ w,WP id u=some w->w.length<=cnt u) ?_ u;intro u ih w h;rw [nI] at h;split at h
 ·cases h;exact yJ u
 ·obtain ⟨v,hv,rfl⟩:=Option.map_eq_some_iff.1 h;obtain ⟨k,hk,he⟩:=List.exists_of_findSome?_eq_some hv;have:=ih k hk v he;have:=jH hk;simp only [List.length_cons];omega
theorem wN(id:ai)(u:aa):WY id u=(WP id u).bind List.getLast?:=by
 refine uind (P:=fun u=>WY id u=(WP id u).bind List.getLast?) ?_ u;intro u ih;rw [wM,nI];split
 ·rfl
 ·have:∀ l:List aa,(∀ k,k∈l->WY id k=(WP id k).bind List.getLast?)->l.findSome? (WY id)=((l.findSome? (WP id)).map (u :: ·)).bind List.getLast?:=by
   intro l;induction l with
   | nil=>intro _;rfl
   | cons k l ihl=>
    intro h;have h1:=h k (by simp);have h2:=ihl fun x hx=>h x (by simp [hx]);rw [List.findSome?_cons,List.findSome?_cons];cases hp:WP id k with
    | none=>
     rw [hp] at h1;simp only [Option.bind_none] at h1;rw [h1];exact h2
    | some w=>
     rw [hp] at h1;have hw:=uF id k w hp;simp only [Option.bind_some] at h1;obtain ⟨x,hx⟩:∃ x,w.getLast? =some x:=by
      cases w with
      | nil=>exact absurd rfl hw
      | cons a b=>exact ⟨_,List.getLast?_eq_some_getLast (by simp)⟩
     rw [h1,hx];simp only [Option.map_some,Option.bind_some];rw [List.getLast?_cons,hx];rfl
  exact this u.Kids ih
theorem DR(id:ai)(u:aa):cnt u<=10000->To (fun n=>M.mY n u id) ((WP id u).getD []):=by
 refine uind (P:=fun u=>cnt u<=10000->To (fun n=>M.mY n u id) ((WP id u).getD [])) ?_ u;intro u ih hc;have loop:∀ (xs:List aa) (slf:Nat->aa->ai->Option (List aa)),(∀ k,k∈xs->cnt k<cnt u/\To (fun n=>slf n k id) ((WP id k).getD []))->
   To (fun n=>M.ku u id (slf n) xs) (match xs.findSome? (WP id) with | none=>.inl () | some w=>.inr (u :: w)):=by
  intro xs;induction xs with
  | nil=>intro slf _;simp only [M.ku];exact To.pure
  | cons x xs ih=>
   intro slf hs;obtain ⟨h1,h2⟩:=hs x (by simp);simp only [M.ku];refine To.bind h2 ?_;rw [List.findSome?_cons];cases hp:WP id x with
   | none=>exact To.neg (by simp) (ih slf fun k hk=>hs k (by simp [hk]))
   | some w=>
    have hw:=uF id x w hp;have hl:=yh id x w hp;refine To.pos (by simpa using hw) (To.bindS (bJ (by simp;omega)) (To.bindS (a:=()) (by simp [neC]) (To.pure.of (by simp))))
 refine To.succ ?_;simp only [M.mY];rw [nI];by_cases hid:u.Id=id
 ·exact To.pos hid (To.bindS (a:=()) (by simp [neC]) (To.pure.of (by simp [hid])))
 ·refine To.neg hid (To.bind (loop u.Kids (fun n=>M.mY n) fun k hk=>⟨jH hk,ih k hk (by have:=jH hk;omega)⟩) ?_);rw [if_neg hid];cases u.Kids.findSome? (WP id) with
  | none=>exact To.pure
  | some w=>exact To.pure
theorem KX(u:aa):cnt u<=10000->labs u->To (fun n=>M.fO n u) u:=by
 refine uind (P:=fun u=>cnt u<=10000->labs u->To (fun n=>M.fO n u) u) ?_ u;intro u ih hc hl;have loop:∀ (xs:List aa) (slf:Nat->aa->Option aa) (out:List aa),(∀ k,k∈xs->To (fun n=>slf n k) k)->out.length+xs.length<=10000->To (fun n=>M.bU (slf n) xs out) (out++xs):=by
  intro xs;induction xs with
  | nil=>intro slf out _ _;simp only [M.bU];exact To.pure.of (by simp)
  | cons x xs ih=>
   intro slf out hs ho;simp only [List.length_cons] at ho;simp only [M.bU];refine To.bind (hs x (by simp)) (To.bindS (bJ (by simp;omega)) ?_);exact (ih slf _ (fun k hk=>hs k (by simp [hk])) (by simp;omega)).of (by simp)
 obtain ⟨h1,h2,h3⟩:=hl u (fC u);have hk:=sw u;refine To.succ ?_;simp only [M.fO,M.aM];refine To.bindS (bJ (by simp;omega)) (To.bindS (bJ (by simp;omega)) ?_);simp only [List.nil_append];exact To.bind (loop u.Kids (fun n=>M.fO n) [] (fun k hk=>ih k hk (by have:=jH hk;omega) (DJ hl hk)) (by simp;omega)) (To.pure.of (by rw [List.nil_append];cases u;rfl))
theorem u6(id:ai)(u:aa):∀ x,WY id u=some x->x∈desc u/\x.Id=id:=by
 refine uind (P:=fun u=>∀ x,WY id u=some x->x∈desc u/\x.Id=id) ?_ u;intro u ih x h;rw [wM] at h;split at h
 ·cases h;exact ⟨fC u,by assumption⟩
 ·obtain ⟨k,hk,he⟩:=List.exists_of_findSome?_eq_some h;exact ⟨nG hk (ih k hk x he).1,(ih k hk x he).2⟩
theorem wO(id:ai)(u:aa):∀ x,x∈desc u->x.Id=id->∃ y,WY id u=some y:=by
 refine uind (P:=fun u=>∀ x,x∈desc u->x.Id=id->∃ y,WY id u=some y) ?_ u;intro u ih x hx he;rw [wM];split
 ·exact ⟨_,rfl⟩
 ·rename_i hn;rw [fH] at hx;rcases List.mem_cons.1 hx with rfl | hx
  ·exact absurd he hn
  ·obtain ⟨k,h1,h2⟩:=List.mem_flatMap.1 hx;obtain ⟨y,hy⟩:=ih k h1 x h2 he;cases hf:u.Kids.findSome? (WY id) with
   | some z=>exact ⟨z,rfl⟩
   | none=>
    have:=List.findSome?_eq_none_iff.1 hf k h1;rw [hy] at this;cases this
def findR(id:ai)(u:aa):aa×Bool:=match WY id u with
 | some x=>(x,true)
 | none=>(au,false)
theorem AC{u x:aa}(h:x∈desc u):∀ y,y∈desc x->y∈desc u:=by
 refine uind (P:=fun u=>∀ x,x∈desc u->∀ y,y∈desc x->y∈desc u) ?_ u x h;intro u ih x hx y hy;rw [fH] at hx;rcases List.mem_cons.1 hx with rfl | hx
 ·exact hy
 ·obtain ⟨k,h1,h2⟩:=List.mem_flatMap.1 hx;exact nG h1 (ih k h1 x h2 y hy)
theorem yN{u x:aa}(h:x∈desc u):cnt x<=cnt u:=by
 refine uind (P:=fun u=>∀ x,x∈desc u->cnt x<=cnt u) ?_ u x h;intro u ih x hx;rw [fH] at hx;rcases List.mem_cons.1 hx with rfl | hx
 ·exact Nat.le_refl _
 ·obtain ⟨k,h1,h2⟩:=List.mem_flatMap.1 hx;have:=ih k h1 x h2;have:=jH h1;omega
theorem Qp{u x:aa}(h:x∈desc u)(hl:labs u):labs x:=fun y hy=>hl y (AC h y hy)
theorem KY(id:ai)(u:aa)(hc:cnt u<=10000)(hl:labs u):To (fun n=>M.dC n u id) (findR id u):=by
 simp only [M.dC];refine To.bind (DR id u hc) ?_;unfold findR;rw [wN];cases hp:WP id u with
 | none=>exact To.pos (by simp) To.pure
 | some w=>
  have hw:=uF id u w hp;have hlen:=yh id u w hp;obtain ⟨x,hx⟩:∃ x,w.getLast? =some x:=by
   cases w with
   | nil=>exact absurd rfl hw
   | cons a b=>exact ⟨_,List.getLast?_eq_some_getLast (by simp)⟩
  have hpos:0<w.length:=List.length_pos_iff.2 hw;have hf:WY id u=some x:=by rw [wN,hp];exact hx
  have hm:=(u6 id u x hf).1;simp only [Option.getD_some,Option.bind_some,hx];refine To.neg (by omega) (To.bindS (l6 (by omega) (by omega)) (To.bindS (a:=x) ?_ (To.bind (KX x (by have:=yN hm;omega) (Qp hm hl)) To.pure)));rw [List.getLast?_eq_getElem?] at hx;rw [show (w.length:Int)-1=((w.length-1:Nat):Int) by omega,pR];exact hx
def placeK(id:ai)(l:List aa):Nat:=l.findIdx (fun k=>(WP id k).isSome)
def Xq(id:ai)(w:List aa):ai×Int×Bool:=match w.reverse with
 | _ :: p :: _=>(p.Id,((placeK id p.Kids:Nat):Int),true)
 | _=>(aF,-1,false)
def Xb(id:ai)(u:aa):ai×Int×Bool:=match WP id u with
 | some w=>Xq id w
 | none=>(aF,-1,false)
theorem EU(id:ai)(u:aa)(w:List aa)(h:2<=w.length):Xq id (u :: w)=Xq id w:=by
 unfold Xq;rw [List.reverse_cons];have:2<=w.reverse.length:=by simpa using h
 match hw:w.reverse,this with
 | a :: b :: c,_=>rfl
theorem wP{id:ai}{u:aa}(h:u.Id=id):WP id u=some [u]:=by rw [nI,if_pos h]
theorem yj{id:ai}{u:aa}{w:List aa}(h:u.Id≠id)(hw:WP id u=some w):2<=w.length/\ ∃ v,u.Kids.findSome? (WP id)=some v/\w=u :: v:=by
 rw [nI,if_neg h] at hw;obtain ⟨v,hv,rfl⟩:=Option.map_eq_some_iff.1 hw;obtain ⟨k,hk,he⟩:=List.exists_of_findSome?_eq_some hv;have:=List.length_pos_iff.2 (uF id k v he);exact ⟨by simp;omega,v,hv,rfl⟩
theorem EW{id:ai}{u:aa}(h:WP id u=none):u.Id≠id/\WY id u=none:=by
 refine ⟨fun e=>?_,?_⟩
 ·rw [wP e] at h;cases h
 ·rw [wN,h];rfl
theorem Bt{id:ai}{u:aa}{w:List aa}(h:WP id u=some w):∃ x,WY id u=some x:=by
 rw [wN,h];cases w with
 | nil=>exact absurd rfl (uF id u [] h)
 | cons a b=>
  refine ⟨(a :: b).getLast (by simp),?_⟩;rw [Option.bind_some];exact List.getLast?_eq_some_getLast (by simp)
theorem Xu(l:List aa)(p:aa->Bool)(fs:Nat->aa->Option Bool)(hf:∀ k,k∈l->To (fun n=>fs n k) (p k)):To (fun n=>M.bY n l (fs n)) (if l.any p then ((l.findIdx p:Nat):Int) else -1):=by
 have loop:∀ (xs:List aa) (fs:Nat->aa->Option Bool) (i:Nat),l.drop i=xs->(∀ k,k∈xs->To (fun n=>fs n k) (p k))->
   To (fun n=>M.aW l (fs n) n (i:Int)) (if xs.any p then .inr ((i+xs.findIdx p:Nat):Int) else .inl ()):=by
  intro xs;induction xs with
  | nil=>
   intro fs i hx _;refine To.succ ?_;simp only [M.aW];exact To.neg (aS hx) (To.pure.of (by simp))
  | cons x xs ih=>
   intro fs i hx hs;refine To.succ ?_;simp only [M.aW];refine To.pos (aK hx) (To.bindS (aA hx) (To.bind (hs x (by simp)).shift ?_));cases hp:p x with
   | true=>exact To.pos rfl (To.pure.of (by simp [hp,List.findIdx_cons]))
   | false=>
    refine To.neg (by simp) ?_;rw [bA];refine (ih (fun n=>fs (n+1)) (i+1) (aI hx) fun k hk=>(hs k (by simp [hk])).shift).of ?_;simp only [List.any_cons,hp,Bool.false_or,List.findIdx_cons,cond_false];split
    ·congr 2;omega
    ·rfl
 simp only [M.bY];refine To.bind (loop l fs 0 rfl hf) ?_;by_cases h:l.any p=true
 ·rw [if_pos h,if_pos h];exact To.pure.of (by simp)
 ·rw [if_neg h,if_neg h];exact To.pure
theorem IX(id:ai)(u:aa):∀ w,WP id u=some w->2<=w.length->∃ p,p∈desc u/\w[w.length-2]? =some p/\(p.Kids.any fun k=>(WP id k).isSome)=true/\Xq id w=(p.Id,((placeK id p.Kids:Nat):Int),true):=by
 refine uind (P:=fun u=>∀ w,WP id u=some w->2<=w.length->∃ p,p∈desc u/\w[w.length-2]? =some p/\(p.Kids.any fun k=>(WP id k).isSome)=true/\Xq id w=(p.Id,((placeK id p.Kids:Nat):Int),true)) ?_ u;intro u ih w hw h2;by_cases hid:u.Id=id
 ·rw [wP hid] at hw;cases hw;simp at h2
 ·obtain ⟨_,v,hv,rfl⟩:=yj hid hw;obtain ⟨k,hk,he⟩:=List.exists_of_findSome?_eq_some hv;by_cases h3:2<=v.length
  ·obtain ⟨p,q0,q1,q2,q3⟩:=ih k hk v he h3;refine ⟨p,nG hk q0,?_,q2,by rw [EU id u v h3];exact q3⟩;rw [List.length_cons,show v.length+1-2=(v.length-2)+1 by omega,List.getElem?_cons_succ];exact q1
  ·have hpos:=List.length_pos_iff.2 (uF id k v he);have h1:v.length=1:=by omega
   match v,h1 with
   | [a],_=>
    refine ⟨u,fC u,rfl,?_,by simp [Xq]⟩;rw [List.any_eq_true];exact ⟨k,hk,by rw [he];rfl⟩
theorem Qq(id:ai)(u:aa)(hc:cnt u<=10000):To (fun n=>M.jg n u id) (Xb id u):=by
 simp only [M.jg];refine To.bind (DR id u hc) ?_;unfold Xb;cases hp:WP id u with
 | none=>exact To.pos (by simp) To.pure
 | some w=>
  simp only [Option.getD_some];have hlen:=yh id u w hp;by_cases h2:w.length<2
  ·refine To.pos (by omega) (To.pure.of ?_);have hpos:=List.length_pos_iff.2 (uF id u w hp)
   match w,hpos,h2 with
   | [a],_,_=>rfl
  ·obtain ⟨p,q0,q1,q2,q3⟩:=IX id u w hp (by omega);refine To.neg (by omega) (To.bindS (l6 (by omega) (by omega)) (To.bindS (a:=p) ?_ ?_))
   ·rw [show (w.length:Int)-2=((w.length-2:Nat):Int) by omega,pR];exact q1
   ·have hi:=Xu p.Kids (fun k=>(WP id k).isSome) (fun n s0=>M.o6 n s0 id) (fun k hk=>by
     simp only [M.o6];refine To.bind (DR id k (by have:=jH hk;have:=yN q0;omega)) (To.pure.of ?_);cases hk:WP id k with
     | none=>rfl
     | some v=>
      have:=uF id k v hk;cases v with
      | nil=>exact absurd rfl this
      | cons a b=>rfl)
    rw [if_pos q2] at hi;refine To.bind hi (To.pure.of ?_);rw [q3];rfl
theorem MC(u:aa):∀ (p:List ax) (l:List aa),(∀ x,x∈l->x∈desc u)->∀ x,x∈way p l->x∈desc u
 | [],l,h,x,hx=>h x hx
 | s :: p,l,h,x,hx=>by
  refine MC u p (down s l) (fun y hy=>?_) x hx;obtain ⟨z,hz,hk⟩:=List.mem_flatMap.1 (List.mem_filter.1 hy).1;exact AC (h z hz) y (zl hk)
theorem NQ(u:aa)(p:List ax):∀ x,x∈units u p->x∈desc u:=by
 intro x hx;unfold units at hx;split at hx
 ·split at hx
  ·rw [List.mem_singleton.1 hx];exact fC u
  ·refine MC u _ _ (fun y hy=>?_) x hx;split at hy
   ·rw [List.mem_singleton.1 hy];exact fC u
   ·exact (List.mem_filter.1 hy).1
 ·cases hx
theorem zN(u:aa)(p:List ax)(h:(oneOf ((units u p).map aa.Id)).2=0):∃ x,x∈desc u/\x.Id=(oneOf ((units u p).map aa.Id)).1:=by
 cases hu:(units u p).map aa.Id with
 | nil=>rw [hu] at h;simp [oneOf] at h
 | cons a l=>
  cases l with
  | nil=>
   have:a∈(units u p).map aa.Id:=by rw [hu];simp
   obtain ⟨x,hx,rfl⟩:=List.mem_map.1 this;exact ⟨x,NQ u p x hx,rfl⟩
  | cons b m=>rw [hu] at h;simp [oneOf] at h
theorem IY{id:ai}{u:aa}(h:u.Id=id):Xb id u=(aF,-1,false):=by unfold Xb;rw [wP h];rfl
theorem DT{id:ai}{u x:aa}(hx:x∈desc u)(he:x.Id=id)(h:u.Id≠id):(Xb id u).2.2=true/\0<=(Xb id u).2.1/\(Xb id u).2.1<=cnt u:=by
 obtain ⟨y,hy⟩:=wO id u x hx he;cases hp:WP id u with
 | none=>rw [(EW hp).2] at hy;cases hy
 | some w=>
  obtain ⟨h2,_⟩:=yj h hp;obtain ⟨p,q0,_,_,q3⟩:=IX id u w hp h2;unfold Xb;rw [hp];simp only;rw [q3];refine ⟨rfl,by simp,?_⟩;have h1:placeK id p.Kids<=p.Kids.length:=List.findIdx_le_length;have h2:=sw p;have h3:=yN q0;simp only;omega
theorem rW{α:Type}{l:List α}{i:Nat}(h:i<l.length):idx l (i:Int)=some l[i]:=by rw [pR,List.getElem?_eq_getElem h]
theorem TN(all:List ai)(i:Nat)(hi:i<all.length)(hb:all.length<=1000000):∀ (d k:Nat),i-k<=d->
  To (fun n=>M.dO all (i:Int) n (k:Int)) (.inr false)\/(To (fun n=>M.dO all (i:Int) n (k:Int)) (.inl ())/\ ∀ j (hj:j<i),k<=j->all[j]≠all[i]):=by
 intro d;induction d with
 | zero=>
  intro k hk;refine .inr ⟨To.succ ?_,fun j hj hkj=>by omega⟩;simp only [M.dO];exact To.neg (by omega) To.pure
 | succ d ih=>
  intro k hk;by_cases h:k<i
  ·have hx:=rW (l:=all) (i:=k) (by omega);have hy:=rW (l:=all) (i:=i) (by omega);by_cases he:all[k]=all[i]
   ·refine .inl (To.succ ?_);simp only [M.dO];exact To.pos (by omega) (To.bindS hx (To.bindS hy (To.pos he To.pure)))
   ·rcases ih (k+1) (by omega) with h1 | ⟨h1,h2⟩
    ·refine .inl (To.succ ?_);simp only [M.dO];exact To.pos (by omega) (To.bindS hx (To.bindS hy (To.neg he (To.bindS (gm (by omega)) h1))))
    ·refine .inr ⟨To.succ ?_,fun j hj hkj=>?_⟩
     ·simp only [M.dO];exact To.pos (by omega) (To.bindS hx (To.bindS hy (To.neg he (To.bindS (gm (by omega)) h1))))
     ·by_cases hjk:j=k
      ·subst hjk;exact he
      ·exact h2 j hj (by omega)
  ·refine .inr ⟨To.succ ?_,fun j hj hkj=>by omega⟩;simp only [M.dO];exact To.neg (by omega) To.pure
theorem TP(all:List ai)(hb:all.length<=1000000):∀ (xs:List ai) (i:Nat),all.drop i=xs->
  To (fun n=>M.dZ all n (i:Int)) (.inr false)\/(To (fun n=>M.dZ all n (i:Int)) (.inl ())/\ ∀ a (ha:a<all.length),i<=a->∀ j (hj:j<a),all[j]≠all[a]):=by
 intro xs;induction xs with
 | nil=>
  intro i hx;have:=List.drop_eq_nil_iff.1 hx;refine .inr ⟨To.succ ?_,fun a ha hia=>by omega⟩;simp only [M.dZ];exact To.neg (aS hx) To.pure
 | cons x xs ih=>
  intro i hx;have hi:=(jV hx).1;rcases TN all i hi hb i 0 (by omega) with h1 | ⟨h1,h2⟩
  ·refine .inl (To.succ ?_);simp only [M.dZ];exact To.pos (aK hx) (To.bind h1 To.pure)
  ·rcases ih (i+1) (aI hx) with h3 | ⟨h3,h4⟩
   ·refine .inl (To.succ ?_);simp only [M.dZ];exact To.pos (aK hx) (To.bind h1 (To.bindS (gm (by omega)) h3))
   ·refine .inr ⟨To.succ ?_,fun a ha hia j hj=>?_⟩
    ·simp only [M.dZ];exact To.pos (aK hx) (To.bind h1 (To.bindS (gm (by omega)) h3))
    ·by_cases hai:a=i
     ·subst hai;exact h2 j hj (by omega)
     ·exact h4 a ha (by omega) j hj
theorem ME(all:List ai):∀ (xs:List ai) (i:Nat) (b:Bool),all.drop i=xs->∃ c,To (fun n=>M.fq all n b (i:Int)) c/\(c=true->b=true/\ ∀ x,x∈xs->x=aF):=by
 intro xs;induction xs with
 | nil=>
  intro i b hx;refine ⟨b,To.succ ?_,fun h=>⟨h,fun x hx=>by cases hx⟩⟩;simp only [M.fq];exact To.neg (aS hx) To.pure
 | cons x xs ih=>
  intro i b hx;cases b with
  | true=>
   obtain ⟨c,h1,h2⟩:=ih (i+1) (decide (x=aF)) (aI hx);refine ⟨c,To.succ ?_,fun h=>⟨rfl,fun y hy=>?_⟩⟩
   ·simp only [M.fq];rw [bA];exact To.pos (aK hx) (To.pos (by simp) (To.bindS (aA hx) h1))
   ·rcases List.mem_cons.1 hy with rfl | hy
    ·exact of_decide_eq_true (h2 h).1
    ·exact (h2 h).2 y hy
  | false=>
   obtain ⟨c,h1,h2⟩:=ih (i+1) false (aI hx);refine ⟨c,To.succ ?_,fun h=>by cases (h2 h).1⟩;simp only [M.fq];rw [bA];exact To.pos (aK hx) (To.neg (by simp) h1)
theorem VY(u:aa)(hc:cnt u<=1000000)(h:To (fun n=>M.uy n u) true):(∀ x,x∈desc u->x.Id=aF)\/((desc u).map aa.Id).Nodup:=by
 have hl:((desc u).map aa.Id).length<=1000000:=by simpa [cnt] using hc
 simp only [M.uy] at h
 replace h:=h.unbind (F8 u hc)
 generalize hall:(desc u).map aa.Id=all at h hl ⊢;obtain ⟨c,h1,h2⟩:=ME all all 0 true rfl
 replace h:=h.unbind h1
 cases c with
 | true=>
  refine .inl fun x hx=>(h2 rfl).2 _ ?_;rw [<-hall];exact List.mem_map.2 ⟨x,hx,rfl⟩
 | false=>
  replace h:=h.unneg (by simp)
  have h0:idx all 0=some u.Id:=by rw [<-hall,fH];simp [idx]
  rw [h0] at h
  replace h:=h.unbind (f:=fun _=>some u.Id) To.pure
  by_cases hk:(decide (u.Id=(⟨(0:Int),(0:Int),(0:Int)⟩:ai)) !=decide (u.Kind=(0:Int)))=true
  ·replace h:=(h.unpos hk).unpure
   cases h
  ·replace h:=h.unneg hk
   rcases TP all hl all 0 rfl with h3 | ⟨h3,h4⟩
   ·cases (h.unbind h3).unpure
   ·refine .inr ?_;rw [List.Nodup,List.pairwise_iff_getElem];intro i j hi hj hij;exact h4 j hj (by omega) i hij
structure Fine (u:aa):Prop where
 kind:0<=u.Kind/\u.Kind<=7
 label:u.Kind≠0->sF u.Label=true
 kids:∀ k,k∈u.Kids->k.Kind≠0
 apart:∀ i j (hi:i<u.Kids.length) (hj:j<u.Kids.length),i<j->¬ (u.Kids[i].Kind=u.Kids[j].Kind/\u.Kids[i].Label=u.Kids[j].Label)
theorem NR(u:aa)(i:Nat)(hi:i<u.Kids.length)(hb:u.Kids.length<=1000000):∀ (d k:Nat),i-k<=d->
  To (fun n=>M.dA u (i:Int) n (k:Int)) (.inr false)\/(To (fun n=>M.dA u (i:Int) n (k:Int)) (.inl ())/\ ∀ j (hj:j<i),k<=j->¬ (u.Kids[j].Kind=u.Kids[i].Kind/\u.Kids[j].Label=u.Kids[i].Label)):=by
 intro d;induction d with
 | zero=>
  intro k hk;refine .inr ⟨To.succ ?_,fun j hj hkj=>by omega⟩;simp only [M.dA];exact To.neg (by omega) To.pure
 | succ d ih=>
  intro k hk;by_cases h:k<i
  ·have hx:=rW (l:=u.Kids) (i:=k) (by omega);have hy:=rW (l:=u.Kids) (i:=i) (by omega);have step:∀ r,To (fun n=>M.dA u (i:Int) n ((k+1:Nat):Int)) r->¬ (u.Kids[k].Kind=u.Kids[i].Kind/\u.Kids[k].Label=u.Kids[i].Label)->To (fun n=>M.dA u (i:Int) n (k:Int)) r:=by
    intro r hr hne;refine To.succ ?_;simp only [M.dA];refine To.pos (by omega) (To.bindS hx (To.bindS hy ?_));by_cases hkk:u.Kids[k].Kind=u.Kids[i].Kind
    ·refine To.pos hkk (To.bindS hx (To.bindS hy (To.neg (by simp;exact fun e=>hne ⟨hkk,e⟩) (To.bindS (gm (by omega)) hr))))
    ·exact To.neg hkk (To.bindS (gm (by omega)) hr)
   by_cases he:u.Kids[k].Kind=u.Kids[i].Kind/\u.Kids[k].Label=u.Kids[i].Label
   ·refine .inl (To.succ ?_);simp only [M.dA];exact To.pos (by omega) (To.bindS hx (To.bindS hy (To.pos he.1 (To.bindS hx (To.bindS hy (To.pos (by simp [he.2]) To.pure))))))
   ·rcases ih (k+1) (by omega) with h1 | ⟨h1,h2⟩
    ·exact .inl (step _ h1 he)
    ·refine .inr ⟨step _ h1 he,fun j hj hkj=>?_⟩;by_cases hjk:j=k
     ·subst hjk;exact he
     ·exact h2 j hj (by omega)
  ·refine .inr ⟨To.succ ?_,fun j hj hkj=>by omega⟩;simp only [M.dA];exact To.neg (by omega) To.pure
def deep(u:aa):Nat:=(u.Kids.attach.map (fun k=>1+deep k.1)).foldl max 0
termination_by SizeOf.sizeOf u
decreasing_by exact xe k.2
theorem MF(u:aa):deep u=(u.Kids.map (fun k=>1+deep k)).foldl max 0:=by
 rw [deep];congr 1;rw [show (fun k:{x // x∈u.Kids}=>1+deep k.1)=(fun k=>1+deep k) ∘ Subtype.val from rfl,<-List.map_map,List.attach_map_subtype_val]
theorem KZ(u:aa):cnt u<=1000000->deep u<=cnt u/\To (fun n=>M.rH n u) (deep u:Int):=by
 refine uind (P:=fun u=>cnt u<=1000000->deep u<=cnt u/\To (fun n=>M.rH n u) (deep u:Int)) ?_ u;intro u ih hc;have loop:∀ (xs:List aa) (slf:Nat->aa->Option Int) (i d:Nat),u.Kids.drop i=xs->(∀ k,k∈xs->cnt k<cnt u/\deep k<=cnt k/\To (fun n=>slf n k) (deep k:Int))->d<=cnt u->
   (xs.map (fun k=>1+deep k)).foldl max d<=cnt u/\To (fun n=>M.iH u (slf n) n (d:Int) (i:Int)) (((xs.map (fun k=>1+deep k)).foldl max d:Nat):Int):=by
  intro xs;induction xs with
  | nil=>
   intro slf i d hx hs hd;refine ⟨hd,To.succ ?_⟩;simp only [M.iH];exact To.neg (aS hx) To.pure
  | cons x xs ih=>
   intro slf i d hx hs hd;obtain ⟨h1,h2,h3⟩:=hs x (by simp);obtain ⟨q1,q2⟩:=ih (fun n=>slf (n+1)) (i+1) (max d (1+deep x)) (aI hx) (fun k hk=>by
    obtain ⟨a,b,c⟩:=hs k (by simp [hk]);exact ⟨a,b,c.shift⟩) (by omega)
   refine ⟨q1,To.succ ?_⟩;simp only [M.iH];refine To.pos (aK hx) (To.bindS (aA hx) (To.bind h3.shift (To.bindS (gp (by omega) (by omega)) ?_)));rw [bA,show max (d:Int) (1+(deep x:Int))=((max d (1+deep x):Nat):Int) by omega];exact q2
 obtain ⟨h1,h2⟩:=loop u.Kids (fun n=>M.rH n) 0 0 rfl (fun k hk=>⟨jH hk,ih k hk (by have:=jH hk;omega)⟩) (by omega);rw [MF];refine ⟨h1,To.succ ?_⟩;simp only [M.rH];exact To.bind h2 To.pure
structure Good (u:aa):Prop where
 fine:∀ x,x∈desc u->Fine x
 deep:deep u<=8
 apart:((desc u).map aa.Id).Nodup
theorem NS{u k:aa}(h:((desc u).map aa.Id).Nodup)(hk:k∈u.Kids):((desc k).map aa.Id).Nodup:=by
 rw [fH] at h;simp only [List.map_cons,List.nodup_cons] at h;have h2:=h.2;rw [List.map_flatMap] at h2;have:(u.Kids.map (fun k=>(desc k).map aa.Id)).flatten.Nodup:=by rw [<-List.flatMap_def];exact h2
 rw [List.Nodup,List.pairwise_flatten] at this;exact this.1 _ (List.mem_map.2 ⟨k,hk,rfl⟩)
theorem AJ{u x y:aa}(h:((desc u).map aa.Id).Nodup)(hx:x∈desc u)(hy:y∈desc u)(he:x.Id=y.Id):x=y:=by
 have:∀ l:List aa,(l.map aa.Id).Nodup->x∈l->y∈l->x=y:=by
  intro l;induction l with
  | nil=>intro _ hx;cases hx
  | cons z l ih=>
   intro hn hx hy;simp only [List.map_cons,List.nodup_cons] at hn;rcases List.mem_cons.1 hx with e1 | m1
   ·rcases List.mem_cons.1 hy with e2 | m2
    ·rw [e1,e2]
    ·exact absurd (List.mem_map.2 ⟨y,m2,by rw [<-he,e1]⟩) hn.1
   ·rcases List.mem_cons.1 hy with e2 | m2
    ·exact absurd (List.mem_map.2 ⟨x,m1,by rw [he,e2]⟩) hn.1
    ·exact ih hn.2 m1 m2
 exact this _ h hx hy
theorem IZ(id:ai)(u:aa):((desc u).map aa.Id).Nodup->∀ w,WP id u=some w->∀ z,z∈desc u->(∃ y,y∈desc z/\y.Id=id)->z∈w:=by
 refine uind (P:=fun u=>((desc u).map aa.Id).Nodup->∀ w,WP id u=some w->∀ z,z∈desc u->(∃ y,y∈desc z/\y.Id=id)->z∈w) ?_ u;intro u ih hn w hw z hz hy;have hz0:=hz;rw [fH] at hz;rcases List.mem_cons.1 hz with rfl | hz
 ·by_cases hid:z.Id=id
  ·rw [wP hid] at hw;cases hw;simp
  ·obtain ⟨_,v,_,rfl⟩:=yj hid hw;simp
 ·obtain ⟨k,hk,hzk⟩:=List.mem_flatMap.1 hz;obtain ⟨y,hyz,hye⟩:=hy;by_cases hid:u.Id=id
  ·exfalso;have hyu:=AC hz0 y hyz;have:=AJ hn hyu (fC u) (by rw [hye,hid]);subst this;have h1:=yN hyz;have h2:=yN hzk;have h3:=jH hk;omega
  ·obtain ⟨_,v,hv,rfl⟩:=yj hid hw;obtain ⟨j,hj,hje⟩:=List.exists_of_findSome?_eq_some hv;obtain ⟨y2,hy2⟩:=Bt hje;obtain ⟨hm,hi⟩:=u6 id j y2 hy2;have hyk:=AC hzk y hyz
   -- the kid that the way takes is the one that holds z
   have hzj:z∈desc j:=by
    have e:=AJ hn (nG hk hyk) (nG hj hm) (by rw [hye,hi]);subst e
    -- y lies in both kids
    have hkj:k=j:=by
     have hnn:=hn;rw [fH] at hnn;simp only [List.map_cons,List.nodup_cons] at hnn;have h2:=hnn.2;rw [List.map_flatMap,List.flatMap_def] at h2;rw [List.Nodup,List.pairwise_flatten] at h2;have h3:=h2.2;rw [List.pairwise_map] at h3;obtain ⟨a,ha,hka⟩:=List.mem_iff_getElem.1 hk;obtain ⟨b,hb,hjb⟩:=List.mem_iff_getElem.1 hj;rw [List.pairwise_iff_getElem] at h3;rcases Nat.lt_trichotomy a b with hlt | heq | hlt
     ·exact absurd rfl (h3 a b ha hb hlt y.Id (by rw [hka];exact List.mem_map.2 ⟨y,hyk,rfl⟩) y.Id (by rw [hjb];exact List.mem_map.2 ⟨y,hm,rfl⟩))
     ·subst heq;rw [<-hka,<-hjb]
     ·exact absurd rfl (h3 b a hb ha hlt y.Id (by rw [hjb];exact List.mem_map.2 ⟨y,hm,rfl⟩) y.Id (by rw [hka];exact List.mem_map.2 ⟨y,hyk,rfl⟩))
    rw [<-hkj];exact hzk
   exact List.mem_cons_of_mem _ (ih j hj (NS hn hj) v hje z hzj ⟨y,hyz,hye⟩)
theorem Qr(id:ai)(u:aa):∀ w,WP id u=some w->∀ z,z∈w->z∈desc u/\ ∃ y,y∈desc z/\y.Id=id:=by
 refine uind (P:=fun u=>∀ w,WP id u=some w->∀ z,z∈w->z∈desc u/\ ∃ y,y∈desc z/\y.Id=id) ?_ u;intro u ih w hw z hz;by_cases hid:u.Id=id
 ·rw [wP hid] at hw;cases hw;rw [List.mem_singleton.1 hz];exact ⟨fC u,u,fC u,hid⟩
 ·obtain ⟨x,hx⟩:=Bt hw;obtain ⟨hm,hi⟩:=u6 id u x hx;obtain ⟨_,v,hv,rfl⟩:=yj hid hw;rcases List.mem_cons.1 hz with rfl | hz
  ·exact ⟨fC z,x,hm,hi⟩
  ·obtain ⟨k,hk,he⟩:=List.exists_of_findSome?_eq_some hv;obtain ⟨h1,h2⟩:=ih k hk v he z hz;exact ⟨nG hk h1,h2⟩
theorem TQ(id:ai)(u:aa):∀ w,WP id u=some w->∃ x,w.getLast? =some x/\x.Id=id:=by
 intro w hw;obtain ⟨x,hx⟩:=Bt hw;have h:=wN id u;rw [hw,hx] at h;exact ⟨x,h.symm,(u6 id u x hx).2⟩
def ic(id:ai)(u:aa)(w:Int):ai×Int×Int:=
 if w=0 then (id,0,0)
 else if w=1 then (id,((findR id u).1.Kids.length:Int),0)
 else if u.Id=id then (aF,0,9)
 else ((Xb id u).1,(Xb id u).2.1+(if w=2 then 1 else 0),0)
def XK(u:aa)(p:List ax)(w:Int):ai×Int×Int:=
 if w<0\/3<w then (aF,0,1)
 else
  let o:=oneOf ((units u p).map aa.Id)
  if o.2≠0 then (aF,0,o.2) else ic o.1 u w
theorem MG(id:ai)(u:aa)(w:Int)(hc:cnt u<=10000)(hl:labs u)(h0:0<=w)(h3:w<=3)(hm:∃ x,x∈desc u/\x.Id=id) :
  To (fun n=>Option.bind (M.l7 n) fun leads=>Option.bind (idx leads w) fun v=>v u id) ((⟨(ic id u w).1,(ic id u w).2.1⟩:aH),(ic id u w).2.2):=by
 obtain ⟨x,hx,he⟩:=hm;have hf:=KY id u hc hl;have hp:=Qq id u hc;have beside:∀ b:Int,0<=b->b<=1->To (fun n=>M.o7 n u id b) (if u.Id=id then ((⟨aF,0⟩:aH),(9:Int)) else ((⟨(Xb id u).1,(Xb id u).2.1+b⟩:aH),0)):=by
  intro b hb0 hb1;simp only [M.o7];refine To.bind hp ?_;by_cases hid:u.Id=id
  ·rw [if_pos hid,IY hid];exact To.pos rfl To.pure
  ·obtain ⟨k1,k2,k3⟩:=DT hx he hid;rw [if_neg hid];refine To.neg (by rw [k1];simp) (To.bindS (gp (by omega) (by omega)) To.pure)
 have hw:w=0\/w=1\/w=2\/w=3:=by omega
 simp only [M.l7,Option.bind_some];rcases hw with rfl | rfl | rfl | rfl
 ·refine To.eq (g:=fun n=>M.kv n u id) ?_ (fun n=>rfl);simp only [M.kv,M.rT,M.qA];exact To.bind (To.bind hf To.pure) (To.pure.of (by simp [ic]))
 ·refine To.eq (g:=fun n=>M.ky n u id) ?_ (fun n=>rfl);simp only [M.ky,M.rT,M.qB];exact To.bind (To.bind hf To.pure) (To.pure.of (by simp [ic]))
 ·refine To.eq (g:=fun n=>M.kz n u id) ?_ (fun n=>rfl);simp only [M.kz];refine To.bind (beside 1 (by omega) (by omega)) (To.pure.of ?_);by_cases hid:u.Id=id<;> simp [ic,hid]
 ·refine To.eq (g:=fun n=>M.kE n u id) ?_ (fun n=>rfl);simp only [M.kE];refine To.bind (beside 0 (by omega) (by omega)) (To.pure.of ?_);by_cases hid:u.Id=id<;> simp [ic,hid]
theorem bind_assoc'{α β γ:Type}(o:Option α)(f:α->Option β)(g:β->Option γ):Option.bind (Option.bind o f) g=Option.bind o fun x=>Option.bind (f x) g:=by cases o<;> rfl
theorem WB(u:aa)(p:List ax)(w:Int)(hc:cnt u<=10000)(hl:labs u):To (fun n=>M.jQ n u p w) (XK u p w):=by
 have hul:(units u p).length<=lim38:=by
  have h1:=yL u p;have h2:cnt u*cnt u<=10000*10000:=Nat.mul_le_mul hc hc;unfold lim38;omega
 simp only [M.jQ,M.lq];unfold XK;by_cases hw:w<0\/3<w
 ·refine To.bindS (a:=false) ?_ (To.pos rfl (To.pure.of (by rw [if_pos hw])));by_cases h0:0<=w
  ·rw [if_pos h0];simp;omega
  ·rw [if_neg h0]
 ·refine To.bindS (a:=true) (by rw [if_pos (by omega)];simp;omega) (To.neg (by simp) (To.bind (xg u p hc hul) ?_));rw [if_neg hw];simp only;by_cases he:(oneOf ((units u p).map aa.Id)).2=0
  ·have hm:=zN u p he;generalize oneOf ((units u p).map aa.Id)=o at he hm ⊢;have hld:=MG o.1 u w hc hl (by omega) (by omega) hm;rw [if_neg (by simpa using he)];refine To.neg (by simpa using he) ?_;have:=To.bind (g:=fun n v1=>if v1.2≠(0:Int) then some ((⟨(0:Int),(0:Int),(0:Int)⟩:ai),(0:Int),v1.2) else some (v1.1.parent_,v1.1.at_,(0:Int))) hld (r:=ic o.1 u w) (by
    by_cases h9:(ic o.1 u w).2.2=0
    ·refine To.neg (by simpa using h9) (To.pure.of ?_);simp only;rw [<-h9]
    ·refine To.pos (by simpa using h9) (To.pure.of ?_);have:u.Id=o.1/\ ¬ w=0/\ ¬ w=1:=by
      unfold ic at h9;split at h9
      ·exact absurd rfl h9
      ·split at h9
       ·exact absurd rfl h9
       ·split at h9
        ·exact ⟨by assumption,by assumption,by assumption⟩
        ·exact absurd rfl h9
     simp [ic,this,aF])
   refine this.eq fun n=>?_;simp only [bind_assoc']
  ·refine To.pos (by simpa using he) (To.pure.of ?_);rw [if_pos (by simpa using he)]
theorem Qs(w:List aa)(hb:w.length<=10000):∀ (k:Nat) (out:List ai),k<=w.length->out.length+k<=20000->∃ r,To (fun n=>M.bO w n out ((k:Int)-1)) r/\ ∀ x,x∈r ↔ (x∈out\/x∈(w.take k).map aa.Id):=by
 intro k;induction k with
 | zero=>
  intro out _ _;refine ⟨out,To.succ ?_,fun x=>by simp⟩;simp only [M.bO];exact To.neg (by omega) To.pure
 | succ k ih=>
  intro out hk ho;have hx:=rW (l:=w) (i:=k) (by omega);obtain ⟨r,h1,h2⟩:=ih (out++ [w[k].Id]) (by omega) (by simp;omega);refine ⟨r,To.succ ?_,fun x=>?_⟩
  ·simp only [M.bO];rw [show ((k+1:Nat):Int)-1=(k:Int) by omega];exact To.pos (by omega) (To.bindS hx (To.bindS (bJ (by simp;omega)) (To.bindS (l6 (by omega) (by omega)) h1)))
  ·rw [h2,List.take_succ_eq_append_getElem (by omega)];simp only [List.map_append,List.mem_append,List.mem_singleton,List.map_cons,List.map_nil];constructor
   ·rintro ((h | h) | h)
    ·exact .inl h
    ·exact .inr (.inr h)
    ·exact .inr (.inl h)
   ·rintro (h | h | h)
    ·exact .inl (.inl h)
    ·exact .inr h
    ·exact .inl (.inr h)
theorem VZ(id:ai)(u:aa)(hc:cnt u<=10000):∃ r,To (fun n=>M.iC n u id) r/\ ∀ x,x∈r ↔ x∈(((WP id u).getD []).dropLast).map aa.Id:=by
 generalize hw:(WP id u).getD []=w;have hl:w.length<=10000:=by
  rw [<-hw];cases hp:WP id u with
  | none=>simp
  | some v=>have:=yh id u v hp;simp;omega
 have hway:=DR id u hc;rw [hw] at hway;by_cases h0:w.length=0
 ·refine ⟨[],?_,fun x=>?_⟩
  ·simp only [M.iC];refine To.bind hway (To.bindS (l6 (by omega) (by omega)) (To.bind (a:=[]) (To.succ ?_) To.pure));simp only [M.bO];exact To.neg (by omega) To.pure
  ·rw [List.eq_nil_of_length_eq_zero h0];simp
 ·obtain ⟨r,h1,h2⟩:=Qs w hl (w.length-1) [] (by omega) (by simp;omega);refine ⟨r,?_,fun x=>by rw [h2,List.dropLast_eq_take];simp⟩;simp only [M.iC];refine To.bind hway (To.bindS (l6 (by omega) (by omega)) (To.bind ?_ To.pure));rw [show (w.length:Int)-2=((w.length-1:Nat):Int)-1 by omega];exact h1
theorem BS(l:List ai)(v:ai):To (fun n=>M.dK n l v) (decide (v∈l)):=by
 have loop:∀ (xs:List ai) (i:Nat),l.drop i=xs->(v∈xs/\ ∃ j:Nat,To (fun n=>M.aU l v n (i:Int)) (.inr (j:Int)))\/(v ∉ xs/\To (fun n=>M.aU l v n (i:Int)) (.inl ())):=by
  intro xs;induction xs with
  | nil=>
   intro i hx;refine .inr ⟨by simp,To.succ ?_⟩;simp only [M.aU];exact To.neg (aS hx) To.pure
  | cons x xs ih=>
   intro i hx;by_cases h:v=x
   ·refine .inl ⟨by simp [h],i,To.succ ?_⟩;simp only [M.aU];exact To.pos (aK hx) (To.bindS (aA hx) (To.pos h To.pure))
   ·rcases ih (i+1) (aI hx) with ⟨h1,j,h2⟩ | ⟨h1,h2⟩
    ·refine .inl ⟨by simp [h1],j,To.succ ?_⟩;simp only [M.aU];rw [bA];exact To.pos (aK hx) (To.bindS (aA hx) (To.neg h h2))
    ·refine .inr ⟨by simp [h1,h],To.succ ?_⟩;simp only [M.aU];rw [bA];exact To.pos (aK hx) (To.bindS (aA hx) (To.neg h h2))
 simp only [M.dK,M.jy];rcases loop l 0 rfl with ⟨h1,j,h2⟩ | ⟨h1,h2⟩
 ·exact To.bind (To.bind h2 To.pure) (To.pure.of (by simp [h1]))
 ·exact To.bind (To.bind h2 To.pure) (To.pure.of (by simp [h1]))
def WU(u:aa)(id to:ai):Bool:=(WY to (findR id u).1).isSome
theorem NT(u:aa)(hg:Good u)(id to:ai)(hid:∃ x,x∈desc u/\x.Id=id)(hto:∃ x,x∈desc u/\x.Id=to)(hne:to≠id):(id∈(((WP to u).getD []).dropLast).map aa.Id) ↔ WU u id to=true:=by
 obtain ⟨x0,hx0,he0⟩:=hid;obtain ⟨x,hx⟩:=wO id u x0 hx0 he0;obtain ⟨hxm,hxi⟩:=u6 id u x hx;obtain ⟨y0,hy0,hye0⟩:=hto;obtain ⟨y,hy⟩:=wO to u y0 hy0 hye0;have hins:WU u id to=(WY to x).isSome:=by unfold WU findR;rw [hx]
 rw [hins];cases hp:WP to u with
 | none=>rw [(EW hp).2] at hy;cases hy
 | some w=>
  simp only [Option.getD_some];obtain ⟨e,hwe,hei⟩:=TQ to u w hp;constructor
  ·intro h;obtain ⟨z,hz,hzi⟩:=List.mem_map.1 h;obtain ⟨h1,y1,h2,h3⟩:=Qr to u w hp z (List.dropLast_subset w hz);have:=AJ hg.apart h1 hxm (by rw [hzi,hxi]);subst this;obtain ⟨v,hv⟩:=wO to z y1 h2 h3;rw [hv];rfl
  ·intro h;obtain ⟨v,hv⟩:=Option.isSome_iff_exists.1 h;obtain ⟨hvm,hvi⟩:=u6 to x v hv;have hxw:=IZ to u hg.apart w hp x hxm ⟨v,hvm,hvi⟩;refine List.mem_map.2 ⟨x,?_,hxi⟩;have hw0:w≠ []:=uF to u w hp;have hwl:w=w.dropLast++ [e]:=by have:=List.dropLast_concat_getLast hw0;rw [List.getLast?_eq_some_getLast hw0] at hwe;cases hwe;exact this.symm
   rw [hwl] at hxw;rcases List.mem_append.1 hxw with h1 | h1
   ·exact h1
   ·rw [List.mem_singleton.1 h1] at hxi;exact absurd (hei.symm.trans hxi) hne
def WW(u:aa)(id to:ai)(w:Int):ai×Int×Int:=
 if u.Id=id\/(WU u id to=true/\to≠id)\/(to=id/\w<2) then (aF,0,9)
 else if to=id then ((Xb id u).1,(Xb id u).2.1,0)
 else
  let x:=ic to u w
  if x.2.2≠0 then (aF,0,9)
  else if x.1=(Xb id u).1/\(Xb id u).2.1<x.2.1 then (x.1,x.2.1-1,0) else (x.1,x.2.1,0)
theorem TR(u:aa)(id:ai)(w:Int)(hc:cnt u<=10000)(hid:∃ x,x∈desc u/\x.Id=id):0<=(ic id u w).2.1/\(ic id u w).2.1<=20000/\((ic id u w).2.2≠0->(ic id u w)=(aF,0,9)/\u.Id=id/\w≠0/\w≠1):=by
 obtain ⟨x0,hx0,he0⟩:=hid;unfold ic;by_cases h0:w=0
 ·rw [if_pos h0];exact ⟨by simp,by simp,fun h=>absurd rfl h⟩
 rw [if_neg h0];by_cases h1:w=1
 ·rw [if_pos h1];obtain ⟨x,hx⟩:=wO id u x0 hx0 he0;obtain ⟨hxm,hxi⟩:=u6 id u x hx;have:=sw x;have:=yN hxm;refine ⟨by simp,?_,fun h=>absurd rfl h⟩;unfold findR;rw [hx];simp only;omega
 rw [if_neg h1];by_cases hid:u.Id=id
 ·rw [if_pos hid];exact ⟨by simp,by simp,fun _=>⟨rfl,hid,h0,h1⟩⟩
 rw [if_neg hid];obtain ⟨k1,k2,k3⟩:=DT hx0 he0 hid;refine ⟨?_,?_,fun h=>absurd rfl h⟩
 ·simp only;split<;> omega
 ·simp only;split<;> omega
theorem V3(u:aa)(hc:cnt u<=10000)(hl:labs u)(hg:Good u)(id to:ai)(w:Int)(h0:0<=w)(h3:w<=3)(hid:∃ x,x∈desc u/\x.Id=id)(hto:∃ x,x∈desc u/\x.Id=to) :
  To (fun n=>M.tN n u id to w) ((⟨(WW u id to w).1,(WW u id to w).2.1⟩:aH),(WW u id to w).2.2):=by
 have hp:=Qq id u hc;obtain ⟨x0,hx0,he0⟩:=hid;have hpar:(Xb id u).2.2= !decide (u.Id=id):=by
  by_cases h:u.Id=id
  ·rw [IY h];simp [h]
  ·rw [(DT hx0 he0 h).1];simp [h]
 simp only [M.tN];refine To.bind (a:=decide (2<=w)) ?_ (To.bind hp ?_)
 ·by_cases h:w=2
  ·exact To.pos h (To.pure.of (by simp [h]))
  ·exact To.neg h (To.pure.of (by rw [Bool.eq_iff_iff];simp;omega))
 by_cases hti:to=id
 ·subst hti;refine To.neg (by simp) ?_;by_cases hu:u.Id=to
  ·refine To.bind (a:=true) (To.pos (by rw [hpar];simp [hu]) To.pure) (To.pos rfl (To.pure.of ?_));simp [WW,hu]
  ·refine To.bind (a:=!decide (2<=w)) (To.neg (by rw [hpar];simp [hu]) (To.pos rfl To.pure)) ?_;by_cases h2:2<=w
   ·refine To.neg (by simp [h2]) (To.pos rfl (To.pure.of ?_));have:¬ (u.Id=to\/(WU u to to=true/\to≠to)\/(to=to/\w<2)):=by
     rintro (h | ⟨_,h⟩ | ⟨_,h⟩)
     ·exact hu h
     ·exact h rfl
     ·omega
    unfold WW;rw [if_neg this,if_pos rfl]
   ·refine To.pos (by simp;omega) (To.pure.of ?_);have:(u.Id=to\/(WU u to to=true/\to≠to)\/(to=to/\w<2)):=.inr (.inr ⟨rfl,by omega⟩);unfold WW;rw [if_pos this]
 ·obtain ⟨an,ha1,ha2⟩:=VZ to u hc;have hbel:=NT u hg id to ⟨x0,hx0,he0⟩ hto hti;refine To.pos hti (To.bind ha1 (To.bind (BS an id) ?_));have hdec:decide (id∈an)=WU u id to:=by rw [Bool.eq_iff_iff,decide_eq_true_eq,ha2,hbel]
  rw [hdec];by_cases hu:u.Id=id
  ·refine To.bind (a:=true) (To.pos (by rw [hpar];simp [hu]) To.pure) (To.pos rfl (To.pure.of ?_));simp [WW,hu]
  cases hin:WU u id to with
  | true=>
   refine To.bind (a:=true) (To.neg (by rw [hpar];simp [hu]) (To.pos rfl To.pure)) (To.pos rfl (To.pure.of ?_));have:(u.Id=id\/(WU u id to=true/\to≠id)\/(to=id/\w<2)):=.inr (.inl ⟨hin,hti⟩);unfold WW;rw [if_pos this]
  | false=>
   refine To.bind (a:=false) (To.neg (by rw [hpar];simp [hu]) (To.neg (by simp) (To.neg hti To.pure))) (To.neg (by simp) (To.neg hti ?_));have hcond:¬ (u.Id=id\/(WU u id to=true/\to≠id)\/(to=id/\w<2)):=by
    rintro (h | ⟨h,_⟩ | ⟨h,_⟩)
    ·exact hu h
    ·rw [hin] at h;cases h
    ·exact hti h
   have hld:=MG to u w hc hl h0 h3 hto;obtain ⟨b1,b2,b3⟩:=TR u to w hc hto;have key:=To.bind (g:=fun n (v2:aH×Int)=>Option.bind (
        if v2.2=(0:Int) then
         if v2.1.parent_=(Xb id u).1 then
          some (decide ((Xb id u).2.1<v2.1.at_))
         else
          some false
        else
         some false
       ) fun v3=>
       if v3=true then
        Option.bind (subC v2.1.at_ (1:Int)) fun v4=>
        some (({v2.1 with at_:=v4}:aH),v2.2)
       else
        some (v2.1,v2.2)) (r:=((⟨(WW u id to w).1,(WW u id to w).2.1⟩:aH),(WW u id to w).2.2)) hld (by
    have hgr:WW u id to w=if (ic to u w).2.2≠0 then (aF,0,9) else if (ic to u w).1=(Xb id u).1/\(Xb id u).2.1<(ic to u w).2.1 then ((ic to u w).1,(ic to u w).2.1-1,0) else ((ic to u w).1,(ic to u w).2.1,0):=by
     unfold WW;rw [if_neg hcond,if_neg hti]
    by_cases h9:(ic to u w).2.2=0
    ·rw [if_neg (fun h=>h h9)] at hgr;by_cases hpp:(ic to u w).1=(Xb id u).1
     ·refine To.bind (a:=decide ((Xb id u).2.1<(ic to u w).2.1)) (To.pos h9 (To.pos hpp To.pure)) ?_;by_cases hlt:(Xb id u).2.1<(ic to u w).2.1
      ·rw [if_pos ⟨hpp,hlt⟩] at hgr;exact To.pos (by simp [hlt]) (To.bindS (l6 (by simp only;omega) (by simp only;omega)) (To.pure.of (by rw [hgr,h9])))
      ·rw [if_neg (fun h=>hlt h.2)] at hgr;exact To.neg (by simp [hlt]) (To.pure.of (by rw [hgr,h9]))
     ·rw [if_neg (fun h=>hpp h.1)] at hgr;exact To.bind (a:=false) (To.pos h9 (To.neg hpp To.pure)) (To.neg (by simp) (To.pure.of (by rw [hgr,h9])))
    ·rw [if_pos h9] at hgr;refine To.bind (a:=false) (To.neg h9 To.pure) (To.neg (by simp) (To.pure.of ?_));rw [hgr,(b3 h9).1])
   exact key.eq fun n=>by simp only [bind_assoc']
def Xg(u:aa)(it:ah):ai×Int×Int:=
 if it.Kind=0 then XK u it.At it.Where
 else if it.Kind≠6\/it.Where<0\/3<it.Where then (aF,0,1)
 else
  let a:=oneOf ((units u it.At).map aa.Id)
  if a.2≠0 then (aF,0,a.2)
  else
   let b:=oneOf ((units u it.To).map aa.Id)
   if b.2≠0 then (aF,0,b.2) else WW u a.1 b.1 it.Where
theorem NU(u:aa)(id to:ai)(w:Int)(h:(WW u id to w).2.2≠0):WW u id to w=(aF,0,9):=by
 unfold WW at h ⊢;split
 ·rfl
 ·rename_i h1;rw [if_neg h1] at h;split
  ·rename_i h2;rw [if_pos h2] at h;exact absurd rfl h
  ·rename_i h2;rw [if_neg h2] at h;simp only at h ⊢;split
   ·rfl
   ·rename_i h3;rw [if_neg h3] at h;split at h<;> exact absurd rfl h
theorem V4(u:aa)(hc:cnt u<=10000)(hl:labs u)(hg:Good u)(it:ah):To (fun n=>M.jc n u it) (Xg u it):=by
 have hul:∀ p,(units u p).length<=lim38:=fun p=>by
  have h1:=yL u p;have h2:cnt u*cnt u<=10000*10000:=Nat.mul_le_mul hc hc;unfold lim38;omega
 simp only [M.jc];unfold Xg;by_cases hk:it.Kind=0
 ·rw [if_pos hk];exact To.pos hk (To.bind (WB u it.At it.Where hc hl) To.pure)
 rw [if_neg hk];refine To.neg hk ?_;by_cases hw:it.Kind≠6\/it.Where<0\/3<it.Where
 ·rw [if_pos hw];refine To.bind (a:=true) ?_ (To.pos rfl To.pure);by_cases h6:it.Kind≠6
  ·exact To.pos h6 To.pure
  ·refine To.neg h6 ?_;simp only [M.lq];by_cases h0:0<=it.Where
   ·exact To.bindS (a:=false) (by rw [if_pos h0];simp;omega) To.pure
   ·exact To.bindS (a:=false) (by rw [if_neg h0]) To.pure
 rw [if_neg hw];refine To.bind (a:=false) (To.neg (by omega) ?_) (To.neg (by simp) (To.bind (xg u it.At hc (hul _)) ?_))
 ·simp only [M.lq];exact To.bindS (a:=true) (by rw [if_pos (by omega)];simp;omega) To.pure
 simp only;by_cases ha:(oneOf ((units u it.At).map aa.Id)).2=0
 ·have hma:=zN u it.At ha;generalize oneOf ((units u it.At).map aa.Id)=a at ha hma ⊢;rw [if_neg (fun h=>h ha)];refine To.neg (fun h=>h ha) (To.bind (xg u it.To hc (hul _)) ?_);by_cases hb:(oneOf ((units u it.To).map aa.Id)).2=0
  ·have hmb:=zN u it.To hb;generalize oneOf ((units u it.To).map aa.Id)=b at hb hmb ⊢;rw [if_neg (fun h=>h hb)];refine To.neg (fun h=>h hb) (To.bind (V3 u hc hl hg a.1 b.1 it.Where (by omega) (by omega) hma hmb) ?_);by_cases h9:(WW u a.1 b.1 it.Where).2.2=0
   ·refine To.neg (fun h=>h h9) (To.pure.of ?_);simp only;rw [<-h9]
   ·refine To.pos h9 (To.pure.of ?_);rw [NU u _ _ _ h9]
  ·rw [if_pos hb];exact To.pos hb To.pure
 ·rw [if_pos ha];exact To.pos ha To.pure
end Go.Proofs.YtapobcikfdbjiaaGreatDoor
