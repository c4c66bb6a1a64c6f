import Derived.Test.YtalogjkalmkpjaaGreatDoorRj
/-
  Longest rising rows: what is answered rises.
-/
set_option linter.unusedVariables false
set_option linter.unusedSimpArgs false
namespace Go.Proofs.YtalogjkalmkpjaaGreatDoor
open Go Go.Dec
def RowB(m:Nat)(r:List Int):Prop:=r.length=m∧ ∀ (j:Nat) (v:Int),r[j]? =some v→0≤v∧v≤(m:Int)-(j:Int)
theorem RowB.get{m:Nat}{r:List Int}(h:RowB m r){j:Nat}(hj:j<m):∃ v,idx r (j:Int)=some v∧0≤v∧v≤(m:Int)-(j:Int):=by
 have hl:j<r.length:=by rw [h.1];exact hj
 exact ⟨r[j],dZ hl,h.2 j _ (List.getElem?_eq_getElem hl)⟩
theorem RowB.put{m:Nat}{r:List Int}(h:RowB m r){i:Nat}(hi:i<m){x:Int}(h0:0≤x)(h1:x≤(m:Int)-(i:Int)):setC r (i:Int) x=some (r.set i x)∧RowB m (r.set i x):=by
 have hl:i<r.length:=by rw [h.1];exact hi
 refine ⟨Dj hl x,by rw [List.length_set];exact h.1,fun j v hv=>?_⟩;by_cases hj:i=j
 ·subst hj;rw [List.getElem?_set_self hl] at hv;cases hv;exact ⟨h0,h1⟩
 ·rw [List.getElem?_set_ne hj] at hv;exact h.2 j v hv
theorem lg2(l:List Int)(hm:l.length≤1000)(i:Nat)(hi:i<l.length):∀ (d k:Nat) (r:List Int),l.length-k=d→i<k→k≤l.length→RowB l.length r→
  ∃ r',To (fun n=>M.bK l (i:Int) n r (k:Int)) r'∧RowB l.length r':=by
 intro d;induction d with
 | zero=>
  intro k r hd hk hkm hr;refine ⟨r,To.succ ?_,hr⟩;simp only [M.bK];exact To.neg (by omega) To.pure
 | succ d ih=>
  intro k r hd hk hkm hr;have hkl:k<l.length:=by omega
  obtain ⟨u,hu,hu0,hu1⟩:=hr.get hi;obtain ⟨w,hw,hw0,hw1⟩:=hr.get hkl;obtain ⟨hs,hr2⟩:=hr.put hi (x:=max u (w+1)) (by omega) (by omega);by_cases hlt:l[i]< l[k]
  ·obtain ⟨r',h1,h2⟩:=ih (k+1) _ (by omega) (by omega) (by omega) hr2;refine ⟨r',To.succ ?_,h2⟩;simp only [M.bK];refine To.pos (by omega) (To.bindS (dZ hkl) (To.bindS (dZ hi) (To.pos hlt (To.bindS hu (To.bindS hw (To.bindS (gp (by omega) (by omega)) (To.bindS hu (To.bindS hs ?_))))))));rw [bZ];exact h1
  ·obtain ⟨r',h1,h2⟩:=ih (k+1) r (by omega) (by omega) (by omega) hr;refine ⟨r',To.succ ?_,h2⟩;simp only [M.bK];refine To.pos (by omega) (To.bindS (dZ hkl) (To.bindS (dZ hi) (To.neg hlt ?_)));rw [bZ];exact h1
theorem lg1(l:List Int)(hm:l.length≤1000):∀ (p:Nat) (r:List Int) (most:Int),p≤l.length→RowB l.length r→0≤most→most≤l.length→
  ∃ r' most',To (fun n=>M.dw l n r most ((p:Int)-1)) (r',most')∧RowB l.length r'∧0≤most'∧most'≤(l.length:Int):=by
 intro p;induction p with
 | zero=>
  intro r most hp hr h0 h1;refine ⟨r,most,To.succ ?_,hr,h0,h1⟩;simp only [M.dw];exact To.neg (by omega) To.pure
 | succ p ih=>
  intro r most hp hr h0 h1;have hpl:p<l.length:=by omega
  have e1:(((p+1:Nat):Int)-1)=(p:Int):=by omega
  obtain ⟨u,hu,hu0,hu1⟩:=hr.get hpl;obtain ⟨hs,hr2⟩:=hr.put hpl (x:=1) (by omega) (by omega);obtain ⟨r3,h3,hr3⟩:=lg2 l hm p hpl _ (p+1) _ rfl (by omega) (by omega) hr2;obtain ⟨w,hw,hw0,hw1⟩:=hr3.get hpl;obtain ⟨r',most',h4,h5⟩:=ih r3 (max most w) (by omega) hr3 (by omega) (by omega);refine ⟨r',most',?_,h5⟩;rw [e1];refine To.succ ?_;simp only [M.dw];exact To.pos (by omega) (To.bindS hu (To.bindS hs (To.bindS (dS (by omega)) (To.bind h3 (To.bindS hw (To.bindS (iH (by omega) (by omega)) h4))))))
def RisL(l:List Int)(js:List Nat):Prop:=js.Pairwise fun p q=>p<q∧l.getD p 0<l.getD q 0
def intL(js:List Nat):List Int:=js.map fun j:Nat=>(j:Int)
theorem gJ(js:List Nat):(intL js).length=js.length:=by simp [intL]
theorem lg3(l r:List Int)(hm:l.length≤1000)(hr:RowB l.length r)(most:Int)(h0:0≤most)(h1:most≤l.length):∀ (d v:Nat) (js:List Nat),l.length-v=d→v≤l.length→js.length≤v→(∀ j∈js,j<v)→RisL l js→
  ∃ js',To (fun n=>M.aO l r most n (intL js) (v:Int)) (intL js')∧(∀ j∈js',j<l.length)∧RisL l js':=by
 intro d;induction d with
 | zero=>
  intro v js hd hv hl hj hp;refine ⟨js,To.succ ?_,fun j h=>by have:=hj j h;omega,hp⟩;simp only [M.aO];exact To.neg (by omega) To.pure
 | succ d ih=>
  intro v js hd hv hl hj hp;have hvl:v<l.length:=by omega
  obtain ⟨js1,q1,q2,q3⟩:=ih (v+1) js (by omega) (by omega) (by omega) (fun j h=>by have:=hj j h;omega) hp;have happ:appC (intL js) [(v:Int)]=some (intL (js++ [v])):=by rw [dL (by rw [gJ];simp;omega)];simp [intL]
  have add:RisL l (js++ [v])→∃ js',To (fun n=>M.aO l r most n (intL (js++ [v])) ((v+1:Nat):Int)) (intL js')∧(∀ j∈js',j<l.length)∧RisL l js':=fun hq=>
   ih (v+1) (js++ [v]) (by omega) (by omega) (by simp;omega) (fun j h=>by
    rcases List.mem_append.1 h with h | h
    ·have:=hj j h;omega
    ·rw [List.mem_singleton.1 h];omega) hq
  obtain ⟨w,hw,hw0,hw1⟩:=hr.get hvl;by_cases c1:(js.length:Int)< most
  ·by_cases c2:w=most-(js.length:Int)
   ·by_cases c3:js= []
    ·subst c3;obtain ⟨js2,p1,p2⟩:=add (by simp [RisL]);refine ⟨js2,To.succ ?_,p2⟩;simp only [M.aO];refine To.pos (by omega) (To.pos (by rw [gJ];exact c1) (To.bindS hw (To.bindS (iH (by rw [gJ];omega) (by rw [gJ];omega)) (To.pos (by rw [gJ];exact c2) (To.pos (by rw [gJ];rfl) (To.bindS happ ?_))))));rw [bZ];exact p1
    ·obtain ⟨js0,q,rfl⟩:∃ js0 q,js=js0++ [q]:=⟨js.dropLast,js.getLast c3,(List.dropLast_concat_getLast c3).symm⟩
     have hq:q<v:=hj q (by simp);have hlast:idx (intL (js0++ [q])) ((js0.length:Nat):Int)=some (q:Int):=by rw [jX];simp [intL]
     have hidq:idx l (q:Int)=some l[q]:=dZ (by omega);have hsub:subC ((intL (js0++ [q])).length:Int) 1=some ((js0.length:Nat):Int):=by
      have hln:(js0++ [q]).length=js0.length+1:=by simp
      rw [gJ,hln,iH (by omega) (by omega)];congr 1;omega
     have hne:¬ ((intL (js0++ [q])).length:Int)=0:=by rw [gJ];simp;omega
     have gq:l.getD q 0=l[q]:=by simp [List.getD,List.getElem?_eq_getElem (show q<l.length by omega)]
     have gv:l.getD v 0=l[v]:=by simp [List.getD,List.getElem?_eq_getElem hvl]
     by_cases c4:l[q]< l[v]
     ·obtain ⟨js2,p1,p2⟩:=add (by
       refine List.pairwise_append.2 ⟨hp,by simp,fun x hx y hy=>?_⟩;rw [List.mem_singleton.1 hy];refine ⟨hj x hx,?_⟩;rcases List.mem_append.1 hx with hx | hx
       ·have:=((List.pairwise_append.1 hp).2.2 x hx q (by simp)).2;omega
       ·rw [List.mem_singleton.1 hx];omega)
      refine ⟨js2,To.succ ?_,p2⟩;simp only [M.aO];refine To.pos (by omega) (To.pos (by rw [gJ];exact c1) (To.bindS hw (To.bindS (iH (by rw [gJ];omega) (by rw [gJ];omega)) (To.pos (by rw [gJ];exact c2) (To.neg hne (To.bindS (dZ hvl) (To.bindS hsub (To.bindS hlast (To.bindS hidq (To.pos c4 (To.bindS happ ?_)))))))))));rw [bZ];exact p1
     ·refine ⟨js1,To.succ ?_,q2,q3⟩;simp only [M.aO];refine To.pos (by omega) (To.pos (by rw [gJ];exact c1) (To.bindS hw (To.bindS (iH (by rw [gJ];omega) (by rw [gJ];omega)) (To.pos (by rw [gJ];exact c2) (To.neg hne (To.bindS (dZ hvl) (To.bindS hsub (To.bindS hlast (To.bindS hidq (To.neg c4 ?_))))))))));rw [bZ];exact q1
   ·refine ⟨js1,To.succ ?_,q2,q3⟩;simp only [M.aO];refine To.pos (by omega) (To.pos (by rw [gJ];exact c1) (To.bindS hw (To.bindS (iH (by rw [gJ];omega) (by rw [gJ];omega)) (To.neg (by rw [gJ];exact c2) ?_))));rw [bZ];exact q1
  ·refine ⟨js1,To.succ ?_,q2,q3⟩;simp only [M.aO];refine To.pos (by omega) (To.neg (by rw [gJ];exact c1) ?_);rw [bZ];exact q1
theorem IZ(l:List Int)(hm:l.length≤256):∃ js,To (fun n=>M.iD n l) (intL js)∧(∀ j∈js,j<l.length)∧RisL l js:=by
 have hmk:makeC (0:Int) (l.length:Int)=some (List.replicate l.length 0):=by
  unfold makeC;rw [if_pos (by omega),Int.toNat_natCast]
 have hr0:RowB l.length (List.replicate l.length (0:Int)):=by
  refine ⟨by simp,fun j v hv=>?_⟩;obtain ⟨hj,rfl⟩:=List.getElem?_eq_some_iff.1 hv;simp at hj ⊢;omega
 obtain ⟨r,most,h1,h2,h3,h4⟩:=lg1 l (by omega) l.length _ 0 (Nat.le_refl _) hr0 (by omega) (by omega);obtain ⟨js,h5,h6⟩:=lg3 l r (by omega) h2 most h3 h4 l.length 0 [] (by omega) (by omega) (by simp) (by simp) (by simp [RisL]);refine ⟨js,?_,h6⟩;have h5:To (fun n=>M.aO l r most n ([]:List Int) (0:Int)) (intL js):=h5;simp only [M.iD];exact To.neg (by omega) (To.bindS hmk (To.bindS (iH (by omega) (by omega)) (To.bind h1 (To.bind h5 To.pure))))
end Go.Proofs.YtalogjkalmkpjaaGreatDoor
/-
  Two books: which units stay, which are moved.
-/
namespace Go.Proofs.YtalogjkalmkpjaaGreatDoor
open Go Go.Dec
theorem Au{τ α:Type}[DecidableEq α](f:τ→α)(y:α):∀ (xs:List τ) (m:List (α×Bool)),(mget m y false=true∨y∈xs.map f)→mget (fillS f (fun _=>true) xs m) y false=true
 | [],m,h=>by
  rcases h with h | h
  ·exact h
  ·cases h
 | x :: xs,m,h=>by
  show mget (fillS f (fun _=>true) xs (mset m (f x) true)) y false=true;refine Au f y xs _ ?_;rw [mM];by_cases hy:y=f x
  ·rw [if_pos hy];exact .inl rfl
  ·rw [if_neg hy];refine h.imp id fun hm=>?_;rw [List.map_cons] at hm;rcases List.mem_cons.1 hm with e | e
   ·exact absurd e hy
   ·exact e
theorem Av{α:Type}{st:α→Option Bool}:∀ {l:List α},(∀ e∈l,st e=some false)→anyM st l=some false
 | [],_=>rfl
 | x :: l,h=>by
  rw [anyM,h x List.mem_cons_self,Option.bind_some,Av (fun y hy=>h y (List.mem_cons_of_mem _ hy))];rfl
theorem Ay{α:Type}{st:α→Option Bool}{p:α→Bool}:∀ {l:List α},(∀ e∈l,st e=some (p e))→anyM st l=some (l.any p)
 | [],_=>rfl
 | x :: l,h=>by
  rw [anyM,h x List.mem_cons_self,Option.bind_some,Ay (fun y hy=>h y (List.mem_cons_of_mem _ hy)),List.any_cons];cases p x<;> rfl
def posL:List au→au→Nat
 | [],_=>0
 | x :: l,y=>if x=y then 0 else posL l y+1
theorem Dq:∀ {l:List au} {i:Nat} {x:au},l.Nodup→l[i]? =some x→posL l x=i
 | [],i,x,_,h=>by simp at h
 | z :: l,0,x,_,h=>by
  simp at h;simp [posL,h]
 | z :: l,i+1,x,hn,h=>by
  rw [List.nodup_cons] at hn;rw [List.getElem?_cons_succ] at h;have hne:¬ z=x:=fun e=>hn.1 (by rw [e];exact List.mem_of_getElem? h);rw [posL,if_neg hne,Dq hn.2 h]
def posK(u e:af):Nat:=posL (u.Kids.map af.Id) e.Id
theorem wG{u e:af}{i:Nat}(hn:(u.Kids.map af.Id).Nodup)(h:u.Kids[i]? =some e):posK u e=i:=
 Dq hn (by rw [List.getElem?_map,h];rfl)
theorem Dt{u:af}(hn:(u.Kids.map af.Id).Nodup):u.Kids.Pairwise fun x y=>posK u x<posK u y:=by
 rw [List.pairwise_iff_getElem];intro i j hi hj hij;rw [wG hn (List.getElem?_eq_getElem hi),wG hn (List.getElem?_eq_getElem hj)];exact hij
theorem Ee{α:Type}{R:α→α→Prop}:∀ {l:List α},l.Pairwise R→∀ x∈l,∀ y∈l,x=y∨R x y∨R y x
 | [],_,x,hx,_,_=>by cases hx
 | z :: l,h,x,hx,y,hy=>by
  obtain ⟨h1,h2⟩:=List.pairwise_cons.1 h;rcases List.mem_cons.1 hx with ex | hx'
  ·rcases List.mem_cons.1 hy with ey | hy'
   ·exact .inl (ex.trans ey.symm)
   ·exact .inr (.inl (by rw [ex];exact h1 y hy'))
  ·rcases List.mem_cons.1 hy with ey | hy'
   ·exact .inr (.inr (by rw [ey];exact h1 x hx'))
   ·exact Ee h2 x hx' y hy'
theorem u7{τ α β:Type}[DecidableEq α](f:τ→α)(g:τ→β):∀ (l:List τ) (m:List (α×β)),(m.map Prod.fst).Nodup→∀ y∈(fillS f g l m).map Prod.fst,y∈m.map Prod.fst∨y∈l.map f
 | [],m,_,y,h=>.inl h
 | x :: l,m,hn,y,h=>by
  obtain ⟨h1,h2⟩:=j4 (f x) (g x) m hn;rcases u7 f g l (mset m (f x) (g x)) h1 y h with h | h
  ·rcases h2 y h with h | h
   ·exact .inr (by rw [h];simp)
   ·exact .inl h
  ·exact .inr (List.mem_cons_of_mem _ h)
theorem lN{u:af}(h:(idsOf u).Nodup):(allP u).length=cnt u:=by
 unfold allP plS;rw [wC _ _ _ _ ?_ (by simp),EN]
 ·simp
 ·have e:(plA u).map (fun p=>p.1.Id)=idsOf u:=by unfold idsOf;rw [←rA,List.map_map];rfl
  rw [e];exact h
theorem Az{u:af}(h:(idsOf u).Nodup):(allU u).length=cnt u:=by
 unfold allU;rw [wC _ _ _ _ h (by simp)];simp [cnt]
theorem EX{u:af}(h:(idsOf u).Nodup){y:au}(hy:mhas (allP u) y=true):∃ x∈desc u,x.Id=y∧(mget (allP u) y aY).unit_=x:=by
 obtain ⟨e,hn⟩:=x9 (lN h);have hk:=(jM y _).1 hy;rw [e,List.map_map] at hk;obtain ⟨p,hp,hpy⟩:=List.mem_map.1 hk;have hpy:p.1.Id=y:=hpy;have hm:=wB (z:=aY) hn (show (y,(⟨p.2.1,p.2.2,p.1⟩:aC))∈allP u by rw [e];exact List.mem_map.2 ⟨p,hp,by rw [hpy]⟩);exact ⟨p.1,by rw [←rA];exact List.mem_map_of_mem hp,hpy,by rw [hm.1]⟩
theorem Du{u:af}(h:(idsOf u).Nodup){y:au}:mhas (allP u) y=true ↔ y∈idsOf u:=by
 constructor
 ·intro hy;obtain ⟨x,hx,rfl,_⟩:=EX h hy;exact List.mem_map_of_mem hx
 ·intro hy;obtain ⟨x,hx,rfl⟩:=List.mem_map.1 hy;exact GK (lN h) hx
theorem l5{u:af}(h:(idsOf u).Nodup){y:au}:mhas (allU u) y=true ↔ y∈idsOf u:=by
 constructor
 ·intro hy;have hk:=(jM y _).1 hy;rcases u7 _ _ _ _ (by simp) y hk with h | h
  ·simp at h
  ·exact h
 ·intro hy;obtain ⟨x,hx,rfl⟩:=List.mem_map.1 hy;exact ((tT (Az h)).2 x hx).2
def pq(a b:af):aW:=⟨a,b,allP a,allP b⟩
def keptB(a u e:af):Bool:=mhas (allP a) e.Id && decide ((mget (allP a) e.Id aY).parent_=u.Id) && mhas (allP a) u.Id
def atF(a e:af):Int:=(mget (allP a) e.Id aY).at_
theorem stays1(a b u:af):∀ (xs:List af) (is:List au) (js:List Int),is.length+xs.length≤100000→js.length+xs.length≤100000→
  M.dn (pq a b) u xs is js=some (is++(xs.filter (keptB a u)).map af.Id,js++(xs.filter (keptB a u)).map (atF a)):=by
 intro xs;induction xs with
 | nil=>intro is js _ _;simp [M.dn]
 | cons x xs ih=>
  intro is js h1 h2;simp only [List.length_cons] at h1 h2;have skip:keptB a u x=false→M.dn (pq a b) u xs is js=some (is++((x :: xs).filter (keptB a u)).map af.Id,js++((x :: xs).filter (keptB a u)).map (atF a)):=fun h=>by
   rw [ih is js (by omega) (by omega),List.filter_cons,h];rfl
  rw [M.dn];by_cases c1:mhas (allP a) x.Id=true
  ·rw [if_pos (show (mget (pq a b).p_ x.Id aY,mhas (pq a b).p_ x.Id).2=true from c1),Option.bind_some];by_cases c2:(mget (allP a) x.Id aY).parent_=u.Id
   ·rw [if_pos (show decide ((mget (pq a b).p_ x.Id aY,mhas (pq a b).p_ x.Id).1.parent_=u.Id)=true from decide_eq_true c2)];by_cases c3:mhas (allP a) u.Id=true
    ·have hk:keptB a u x=true:=by unfold keptB;rw [c1,c3,decide_eq_true c2];rfl
     rw [if_pos (show (mget (pq a b).p_ u.Id aY,mhas (pq a b).p_ u.Id).2=true from c3),dL (by simp;omega),Option.bind_some,dL (by simp;omega),Option.bind_some];refine (ih _ _ (by simp;omega) (by simp;omega)).trans ?_;rw [List.filter_cons,hk];simp [atF,pq]
    ·rw [if_neg (show ¬ (mget (pq a b).p_ u.Id aY,mhas (pq a b).p_ u.Id).2=true from c3)];exact skip (by unfold keptB;rw [Bool.eq_false_iff.2 c3];simp)
   ·rw [if_neg (show ¬ decide ((mget (pq a b).p_ x.Id aY,mhas (pq a b).p_ x.Id).1.parent_=u.Id)=true from fun h=>c2 (of_decide_eq_true h))];exact skip (by unfold keptB;rw [decide_eq_false c2];simp)
  ·rw [if_neg (show ¬ (mget (pq a b).p_ x.Id aY,mhas (pq a b).p_ x.Id).2=true from c1),Option.bind_some,if_neg (by decide)];exact skip (by unfold keptB;rw [Bool.eq_false_iff.2 c1];rfl)
theorem stays2(is:List au):∀ (js:List Nat) (m:List (au×Bool)),(∀ j∈js,j<is.length)→M.dY is (intL js) m=some (fillS id (fun _=>true) (js.map fun j=>is.getD j cu) m)
 | [],m,_=>rfl
 | j :: js,m,h=>by
  have hj:=h j List.mem_cons_self;have e:=stays2 is js (mset m (is.getD j cu) true) (fun q hq=>h q (List.mem_cons_of_mem _ hq));have hi:idx is (j:Int)=some (is.getD j cu):=by rw [jX,List.getD,List.getElem?_eq_getElem hj];rfl
  show M.dY is ((j:Int) :: intL js) m=_;simp only [M.dY];rw [hi,Option.bind_some,e];rfl
theorem xk(a b:af){u:af}(hn:(u.Kids.map af.Id).Nodup)(hk:u.Kids.length≤256) :
  ∃ (S:List (au×Bool)) (Ks:List af),To (fun n=>M.jJ n (pq a b) u) S∧(∀ y∈S.map Prod.fst,∃ e∈Ks,e.Id=y)∧(∀ e∈Ks,e∈u.Kids∧keptB a u e=true)∧Ks.Pairwise (fun x y=>posK u x<posK u y∧atF a x<atF a y):=by
 have h1:=stays1 a b u u.Kids [] [] (by simp;omega) (by simp;omega);rw [List.nil_append,List.nil_append] at h1;have hlf:(u.Kids.filter (keptB a u)).length≤256:=Nat.le_trans (List.length_filter_le _ _) hk;generalize hK:u.Kids.filter (keptB a u)=K at h1 hlf;have hKm:∀ e∈K,e∈u.Kids∧keptB a u e=true:=fun e he=>by rw [←hK] at he;exact List.mem_filter.1 he
 have hKp:K.Pairwise fun x y=>posK u x<posK u y:=by rw [←hK];exact (Dt hn).filter _
 obtain ⟨js,q1,q2,q3⟩:=IZ (K.map (atF a)) (by simpa using hlf);have hjK:∀ j∈js,j<K.length:=fun j hj=>by simpa using q2 j hj
 have h2:=stays2 (K.map af.Id) js [] (fun j hj=>by simpa using q2 j hj);refine ⟨fillS id (fun _=>true) (js.map fun j=>(K.map af.Id).getD j cu) [],js.map fun j=>K.getD j aB,?_,fun y hy=>?_,fun e he=>?_,?_⟩
 ·simp only [M.jJ];refine To.bindS h1 ?_;dsimp only;exact To.bind q1 (To.bindS h2 To.pure)
 ·rcases u7 _ _ _ _ (by simp) y hy with h | h
  ·simp at h
  ·rw [List.map_id] at h;obtain ⟨j,hj,rfl⟩:=List.mem_map.1 h;refine ⟨K.getD j aB,List.mem_map.2 ⟨j,hj,rfl⟩,?_⟩;simp [List.getD,List.getElem?_eq_getElem (hjK j hj)]
 ·obtain ⟨j,hj,rfl⟩:=List.mem_map.1 he;refine hKm _ ?_;simp [List.getD,List.getElem?_eq_getElem (hjK j hj)]
 ·rw [List.pairwise_map];refine List.Pairwise.imp_of_mem ?_ q3;intro p q hp hq ⟨r1,r2⟩;have e1:=hjK p hp;have e2:=hjK q hq;have g1:K.getD p aB=K[p]:=by simp [List.getD,List.getElem?_eq_getElem e1]
  have g2:K.getD q aB=K[q]:=by simp [List.getD,List.getElem?_eq_getElem e2]
  rw [g1,g2];refine ⟨List.pairwise_iff_getElem.1 hKp p q e1 e2 r1,?_⟩;simpa [List.getD,List.getElem?_eq_getElem e1,List.getElem?_eq_getElem e2] using r2
def Stay(a b u:af)(y:au):Prop:=∃ S,To (fun n=>M.jJ n (pq a b) u) S∧y∈S.map Prod.fst
theorem Stay.info{a b u:af}{y:au}(h:Stay a b u y)(hn:(u.Kids.map af.Id).Nodup)(hk:u.Kids.length≤256):∃ e∈u.Kids,e.Id=y∧keptB a u e=true:=by
 obtain ⟨S,h1,h2⟩:=h;obtain ⟨S',Ks,q1,q2,q3,_⟩:=xk a b hn hk;rw [h1.det q1] at h2;obtain ⟨e,he,hy⟩:=q2 y h2;exact ⟨e,(q3 e he).1,hy,(q3 e he).2⟩
theorem Stay.rise{a b u:af}{e1 e2:af}(h1:Stay a b u e1.Id)(h2:Stay a b u e2.Id)(hn:(u.Kids.map af.Id).Nodup)(hk:u.Kids.length≤256)(hp:posK u e1<posK u e2):atF a e1<atF a e2:=by
 obtain ⟨S1,p1,p2⟩:=h1;obtain ⟨S2,p3,p4⟩:=h2;obtain ⟨S',Ks,q1,q2,q3,q4⟩:=xk a b hn hk;rw [p1.det q1] at p2;rw [p3.det q1] at p4;obtain ⟨x1,hx1,i1⟩:=q2 _ p2;obtain ⟨x2,hx2,i2⟩:=q2 _ p4;have r1:posK u x1=posK u e1:=by unfold posK;rw [i1]
 have r2:posK u x2=posK u e2:=by unfold posK;rw [i2]
 have r3:atF a x1=atF a e1:=by unfold atF;rw [i1]
 have r4:atF a x2=atF a e2:=by unfold atF;rw [i2]
 rcases Ee q4 x1 hx1 x2 hx2 with h | h | h
 ·rw [h] at r1;omega
 ·omega
 ·omega
def InvC(a b:af)(c:List (au×Bool)):Prop:=∀ y,mget c y false=true→∃ w∈desc b,Stay a b w y
def Good(a b:af)(L:List au)(x:af):Prop:=mhas (allP a) x.Id=true→x.Kind≠0→x.Id∈L∨ ∃ w∈desc b,Stay a b w x.Id
theorem Good.mono{a b x:af}{L L':List au}(h:Good a b L x)(hs:∀ y∈L,y∈L'):Good a b L' x:=fun h1 h2=>(h h1 h2).imp (hs _) id
theorem ze{a b u par:af}(hu:u∈desc b)(hn:(u.Kids.map af.Id).Nodup)(hk:u.Kids.length≤256)(c1:List (au×Bool))(out:List au)(hc:InvC a b c1)(ho:out.length≤100000) :
  ∃ c2 out',To (fun n=>M.iW n u par (pq a b) c1 out) (c2,out')∧InvC a b c2∧(∀ y∈out,y∈out')∧out'.length≤out.length+1∧Good a b out' u:=by
 obtain ⟨S,Ks,hS,_⟩:=xk a b hn hk;have hinv:InvC a b (fillS Prod.fst (fun _=>true) S c1):=fun y hy=>by
  rcases qC Prod.fst y S c1 hy with h | h
  ·exact hc y h
  ·exact ⟨u,hu,S,hS,h⟩
 simp only [M.iW];by_cases h1:mhas (allP a) u.Id=true
 ·by_cases h0:u.Kind=0
  ·exact ⟨_,out,To.bind hS (To.bindS (a:=fillS Prod.fst (fun _=>true) S c1) rfl (To.pos h1 (To.neg (by simpa using h0) To.pure))),hinv,fun y hy=>hy,by omega,fun _ h=>absurd h0 h⟩
  ·cases hg:mget (fillS Prod.fst (fun _=>true) S c1) u.Id false with
   | true=>exact ⟨_,out,To.bind hS (To.bindS (a:=fillS Prod.fst (fun _=>true) S c1) rfl (To.pos h1 (To.pos h0 (To.neg (by rw [hg];decide) To.pure)))),hinv,fun y hy=>hy,by omega,fun _ _=>.inr (hinv _ hg)⟩
   | false=>exact ⟨_,out++ [u.Id],To.bind hS (To.bindS (a:=fillS Prod.fst (fun _=>true) S c1) rfl (To.pos h1 (To.pos h0 (To.pos hg (To.bindS (dL (by simp;omega)) To.pure))))),hinv,fun y hy=>List.mem_append_left _ hy,by simp,fun _ _=>.inl (by simp)⟩
 ·exact ⟨_,out,To.bind hS (To.bindS (a:=fillS Prod.fst (fun _=>true) S c1) rfl (To.neg h1 To.pure)),hinv,fun y hy=>hy,by omega,fun h=>absurd h h1⟩
theorem FM{a b:af}(hn:∀ x∈desc b,(x.Kids.map af.Id).Nodup)(hk:∀ x∈desc b,x.Kids.length≤256):∀ (u:af),(∀ x∈desc u,x∈desc b)→∀ (c1:List (au×Bool)) (out:List au),InvC a b c1→out.length+cnt u≤100000→
  ∃ c2 out',To (fun n=>M.ji n u (pq a b) c1 out) (c2,out')∧InvC a b c2∧(∀ y∈out,y∈out')∧out'.length+1≤out.length+cnt u∧ ∀ k∈u.Kids,∀ x∈desc k,Good a b out' x:=by
 refine uind ?_;intro u ih hsub c1 out hc ho;have loop:∀ (xs:List af) (F:Nat→af→aW→List (au×Bool)→List au→Option (List (au×Bool)×List au)) (c1:List (au×Bool)) (out:List au),(∀ x∈xs,x∈u.Kids)→InvC a b c1→out.length+(xs.map cnt).sum+1≤100000→
   (∀ x∈xs,∀ (c:List (au×Bool)) (o:List au),InvC a b c→o.length+cnt x≤100000→∃ c2 out',To (fun n=>F n x (pq a b) c o) (c2,out')∧InvC a b c2∧(∀ y∈o,y∈out')∧out'.length+1≤o.length+cnt x∧ ∀ k∈x.Kids,∀ z∈desc k,Good a b out' z)→
   ∃ c2 out',To (fun n=>M.fo n u (pq a b) (F n) xs c1 out) (c2,out')∧InvC a b c2∧(∀ y∈out,y∈out')∧out'.length≤out.length+(xs.map cnt).sum∧ ∀ k∈xs,∀ x∈desc k,Good a b out' x:=by
  intro xs;induction xs with
  | nil=>
   intro F c1 out _ hc _ _;exact ⟨c1,out,by simp only [M.fo];exact To.pure,hc,fun y h=>h,by simp,fun k hk=>by cases hk⟩
  | cons x xs ih2=>
   intro F c1 out hm hc ho hF;rw [List.map_cons,List.sum_cons] at ho;have hp:=rz x;have hx:=hm x List.mem_cons_self;have hxb:x∈desc b:=hsub x (dh hx);obtain ⟨c2,o2,h2,k2,s2,l2,g2⟩:=ze (par:=u) hxb (hn x hxb) (hk x hxb) c1 out hc (by omega);obtain ⟨c3,o3,h3,k3,s3,l3,g3⟩:=hF x List.mem_cons_self c2 o2 k2 (by omega);obtain ⟨c4,o4,h4,k4,s4,l4,g4⟩:=ih2 F c3 o3 (fun y hy=>hm y (List.mem_cons_of_mem _ hy)) k3 (by omega) (fun y hy=>hF y (List.mem_cons_of_mem _ hy));refine ⟨c4,o4,?_,k4,fun y hy=>s4 _ (s3 _ (s2 _ hy)),by rw [List.map_cons,List.sum_cons];omega,fun k hk z hz=>?_⟩
   ·simp only [M.fo];refine To.bind h2 ?_;dsimp only;refine To.bind h3 ?_;exact h4
   ·rcases List.mem_cons.1 hk with rfl | hk
    ·rw [iC] at hz;rcases List.mem_cons.1 hz with rfl | hz
     ·exact (g2.mono s3).mono s4
     ·obtain ⟨j,hj,hzj⟩:=List.mem_flatMap.1 hz;exact (g3 j hj z hzj).mono s4
    ·exact g4 k hk z hz
 have hcu:=qB u;obtain ⟨c2,o2,h2,k2,s2,l2,g2⟩:=loop u.Kids (fun n=>M.ji n) c1 out (fun x hx=>hx) hc (by omega) (fun x hx c o hc2 ho2=>ih x hx (fun y hy=>hsub y (oD hx hy)) c o hc2 ho2);refine ⟨c2,o2,To.succ ?_,k2,s2,by omega,g2⟩;simp only [M.ji];refine To.bind h2 ?_;exact To.pure
end Go.Proofs.YtalogjkalmkpjaaGreatDoor
/-
  Two books that are comparable.
-/
namespace Go.Proofs.YtalogjkalmkpjaaGreatDoor
open Go Go.Dec
theorem rX{u x:af}(h:(idsOf u).Nodup)(hx:x∈desc u):(idsOf x).Nodup:=by
 have:∀ u:af,(idsOf u).Nodup→∀ x∈desc u,(idsOf x).Nodup:=by
  refine uind (P:=fun u=>(idsOf u).Nodup→∀ x∈desc u,(idsOf x).Nodup) ?_;intro u ih h x hx;rw [iC] at hx;rcases List.mem_cons.1 hx with rfl | hx
  ·exact h
  ·obtain ⟨k,hk,hxk⟩:=List.mem_flatMap.1 hx;exact ih k hk (Ai h hk) x hxk
 exact this u h x hx
theorem zf{u:af}(h:(idsOf u).Nodup):(u.Kids.map af.Id).Nodup:=by
 unfold idsOf at h;rw [iC] at h;simp only [List.map_cons,List.nodup_cons] at h;have h2:=h.2;have:∀ xs:List af,((xs.flatMap desc).map af.Id).Nodup→(xs.map af.Id).Nodup:=by
  intro xs;induction xs with
  | nil=>intro _;exact List.nodup_nil
  | cons x xs ih=>
   intro hn;rw [List.flatMap_cons,List.map_append,List.nodup_append] at hn;rw [List.map_cons,List.nodup_cons];refine ⟨fun hm=>?_,ih hn.2.1⟩;obtain ⟨y,hy,he⟩:=List.mem_map.1 hm;exact hn.2.2 x.Id (List.mem_map_of_mem (fZ x)) y.Id (List.mem_map_of_mem (List.mem_flatMap.2 ⟨y,hy,fZ y⟩)) he.symm
 exact this _ h2
theorem rY{a:af}:∀ x∈desc a,cnt x≤cnt a:=by
 have:∀ a:af,∀ x∈desc a,cnt x≤cnt a:=by
  refine uind ?_;intro u ih x hx;rw [iC] at hx;rcases List.mem_cons.1 hx with rfl | hx
  ·exact Nat.le_refl _
  ·obtain ⟨k,hk,hxk⟩:=List.mem_flatMap.1 hx;have:=ih k hk x hxk;have:=qp hk;omega
 exact this a
theorem iq{a x:af}(hx:x∈desc a):∀ y∈desc x,y∈desc a:=by
 have:∀ a:af,∀ x∈desc a,∀ y∈desc x,y∈desc a:=by
  refine uind ?_;intro u ih x hx y hy;rw [iC] at hx;rcases List.mem_cons.1 hx with rfl | hx
  ·exact hy
  ·obtain ⟨k,hk,hxk⟩:=List.mem_flatMap.1 hx;exact oD hk (ih k hk x hxk y hy)
 exact this a x hx
theorem l6{a x:af}(h:cnt a≤256)(hx:x∈desc a):x.Kids.length≤256:=by
 have:=wy x;have:=rY x hx;omega
structure HF (a b:af) (mv:List (au×Bool)):Prop where
 ca:cnt a≤256
 cb:cnt b≤256
 na:(idsOf a).Nodup
 nb:(idsOf b).Nodup
 ua:∀ x∈desc a,tN x
 ub:∀ x∈desc b,tN x
 da:deep a≤8
 db:deep b≤8
 ka:a.Kind=0
 kb:b.Kind=0
 za:a.Id=cu
 zb:b.Id=cu
 kk:∀ x∈desc a,∀ y∈desc b,x.Id=y.Id→x.Kind=y.Kind
 st:∀ y∈desc b,y.Id∈idsOf a→y.Kind≠0→mget mv y.Id false=false→∃ w∈desc b,Stay a b w y.Id
theorem GR(u:af)(hc:cnt u≤10000)(hv:To (fun n=>M.ig n u) true)(h0:u.Kind=0)(hn:(idsOf u).Nodup):To (fun n=>M.oU n u) true:=by
 have hp:=lN hn;simp only [M.oU];exact To.bind hv (To.pos rfl (To.pos h0 (To.bind (xh u) (To.bindS (y9 (by omega)) (To.bind (x8 u hc) (To.pure.of (by simp [hp])))))))
theorem FN(a b:af)(hca:cnt a≤256)(hcb:cnt b≤256)(va:To (fun n=>M.ig n a) true)(vb:To (fun n=>M.ig n b) true)(ka:a.Kind=0)(kb:b.Kind=0)(na:(idsOf a).Nodup)(nb:(idsOf b).Nodup)
  (kk:∀ x∈desc a,∀ y∈desc b,x.Id=y.Id→x.Kind=y.Kind):∃ L,To (fun n=>M.pg n a b) L∧ ∀ x∈desc b,Good a b L x:=by
 have ba:=GR a (by omega) va ka na;have bb:=GR b (by omega) vb kb nb;have hh:To (fun n=>M.qH n a b) (pq a b,true):=by
  simp only [M.qH];refine To.bind (a:=false) (To.bind ba (To.neg (by decide) (To.bind bb (To.pure.of rfl)))) (To.neg (by decide) (To.bind (xh a) (To.bind (xh b) (To.bindS (a:=false) (Av fun e he=>?_) (To.neg (by decide) (To.pure.of rfl))))));obtain ⟨eb,_⟩:=x9 (lN nb);rw [eb] at he;obtain ⟨p,hp,rfl⟩:=List.mem_map.1 he;have hpb:p.1∈desc b:=by rw [←rA];exact List.mem_map_of_mem hp
  rw [M.l7];by_cases c1:mhas (allP a) p.1.Id=true
  ·rw [if_pos (show (mget (⟨a,b,allP a,allP b⟩:aW).p_ p.1.Id aY,mhas (⟨a,b,allP a,allP b⟩:aW).p_ p.1.Id).2=true from c1)];obtain ⟨x,hx,hxi,hxu⟩:=EX na c1;refine if_neg (fun h=>h ?_);show (mget (allP a) p.1.Id aY).unit_.Kind=p.1.Kind;rw [hxu];exact kk x hx p.1 hpb hxi
  ·exact if_neg c1
 have hn:∀ x∈desc b,(x.Kids.map af.Id).Nodup:=fun x hx=>zf (rX nb hx);have hk:∀ x∈desc b,x.Kids.length≤256:=fun x hx=>l6 hcb hx;obtain ⟨c2,o2,h2,k2,s2,l2,g2⟩:=ze (par:=(⟨cu,(0:Int),([]:Str),([]:List aH),([]:List aH),([]:List af)⟩:af)) (a:=a) (fZ b) (hn b (fZ b)) (hk b (fZ b)) [] [] (fun y hy=>by simp [mget] at hy) (by simp);obtain ⟨c3,o3,h3,k3,s3,l3,g3⟩:=FM hn hk b (fun x hx=>hx) c2 o2 k2 (by simp only [List.length_nil] at l2;omega);refine ⟨o3,?_,fun x hx=>?_⟩
 ·simp only [M.pg];refine To.bind hh (To.neg (by simp) (To.bind (a:=o3) ?_ To.pure));simp only [M.l8,M.oL];refine To.bind (a:=(c3,o3)) (To.bind h2 ?_) ?_
  ·dsimp only;refine To.bind h3 ?_;exact To.pure
  ·exact To.pure
 ·rw [iC] at hx;rcases List.mem_cons.1 hx with rfl | hx
  ·exact g2.mono s3
  ·obtain ⟨k,hk,hxk⟩:=List.mem_flatMap.1 hx;exact g3 k hk x hxk
theorem GU(a b:af)(hca:cnt a≤256)(hcb:cnt b≤256)(hla:labs a)(hlb:labs b):∃ r,To (fun n=>M.gL n a b) r∧(r.2=true→∃ mv,r.1=⟨allU a,allU b,mv⟩∧HF a b mv):=by
 obtain ⟨v,hv,hv2⟩:=EM a (by omega) hla;obtain ⟨w,hw,hw2⟩:=EM b (by omega) hlb;have no:∀ x:ay,To (fun n=>M.gL n a b) (x,false)→∃ r,To (fun n=>M.gL n a b) r∧(r.2=true→∃ mv,r.1=⟨allU a,allU b,mv⟩∧HF a b mv):=fun x h=>⟨(x,false),h,fun h=>by cases h⟩
 have bad:To (fun n=>if a.Kind≠(0:Int) then some true else if b.Kind≠(0:Int) then some true else Option.bind (M.ig n a) fun valid=>if valid=false then some true else Option.bind (M.ig n b) fun valid1=>some (!valid1)) true→
   ∃ r,To (fun n=>M.gL n a b) r∧(r.2=true→∃ mv,r.1=⟨allU a,allU b,mv⟩∧HF a b mv):=fun h=>no ⟨[],[],[]⟩ (by
  simp only [M.gL];exact To.bind h (To.pos rfl To.pure))
 by_cases ka:a.Kind=0
 ·by_cases kb:b.Kind=0
  ·cases v with
   | false=>exact bad (To.neg (by simpa using ka) (To.neg (by simpa using kb) (To.bind hv (To.pos rfl To.pure))))
   | true=>
    cases w with
    | false=>exact bad (To.neg (by simpa using ka) (To.neg (by simpa using kb) (To.bind hv (To.neg (by decide) (To.bind hw (To.pure.of rfl))))))
    | true=>
     obtain ⟨ua,da,ia⟩:=hv2 rfl;obtain ⟨ub,db,ib⟩:=hw2 rfl;have ea:To (fun n=>M.fO n a ([]:List (au×af))) (allU a):=Dh a [];have eb:To (fun n=>M.fO n b ([]:List (au×af))) (allU b):=Dh b [];have hv1:To (fun n=>if a.Kind≠(0:Int) then some true else if b.Kind≠(0:Int) then some true else Option.bind (M.ig n a) fun valid=>if valid=false then some true else Option.bind (M.ig n b) fun valid1=>some (!valid1)) false:=
      To.neg (by simpa using ka) (To.neg (by simpa using kb) (To.bind hv (To.neg (by decide) (To.bind hw (To.pure.of rfl)))))
     have la:=Di a;have lb:=Di b;have ga:=y9 (n:=(allU a).length) (by omega);have gb:=y9 (n:=(allU b).length) (by omega);have na2:=x8 a (by omega);have nb2:=x8 b (by omega);by_cases hA:(allU a).length=cnt a
     ·by_cases hB:(allU b).length=cnt b
      ·have na:=(tT hA).1;have nb:=(tT hB).1;have hcount:To (fun n=>Option.bind (growC ((allU a).length:Int)) fun _=>Option.bind (M.jV n a) fun count=>if ((allU a).length:Int)≠count then some true else Option.bind (growC ((allU b).length:Int)) fun _=>Option.bind (M.jV n b) fun count1=>some (decide (((allU b).length:Int)≠count1))) false:=
        To.bindS ga (To.bind na2 (To.neg (by omega) (To.bindS gb (To.bind nb2 (To.pure.of (by simp [hB]))))))
       have hany:=Ay (st:=M.jC (allU b)) (p:=fun e=>mhas (allU b) e.1 && decide ((mget (allU b) e.1 aB).Kind≠e.2.Kind)) (l:=allU a) (fun e he=>by
        rw [M.jC];by_cases c1:mhas (allU b) e.1=true
        ·rw [if_pos (show (mget (allU b) e.1 aB,mhas (allU b) e.1).2=true from c1),c1];by_cases c2:(mget (allU b) e.1 aB).Kind≠e.2.Kind
         ·rw [if_pos (show (mget (allU b) e.1 aB,mhas (allU b) e.1).1.Kind≠e.2.Kind from c2),decide_eq_true c2];rfl
         ·rw [if_neg (show ¬ (mget (allU b) e.1 aB,mhas (allU b) e.1).1.Kind≠e.2.Kind from c2),decide_eq_false c2];rfl
        ·rw [if_neg (show ¬ (mget (allU b) e.1 aB,mhas (allU b) e.1).2=true from c1),Bool.eq_false_iff.2 c1];rfl)
       generalize hf:(allU a).any (fun e=>mhas (allU b) e.1 && decide ((mget (allU b) e.1 aB).Kind≠e.2.Kind))=f at hany;cases f with
       | true=>
        refine no ⟨allU a,allU b,[]⟩ ?_;simp only [M.gL];exact To.bind hv1 (To.neg (by decide) (To.bind ea (To.bind eb (To.bind hcount (To.neg (by decide) (To.bindS hany (To.pos rfl To.pure)))))))
       | false=>
        have kk:∀ x∈desc a,∀ y∈desc b,x.Id=y.Id→x.Kind=y.Kind:=by
         intro x hx y hy he;obtain ⟨q1,q2⟩:=(tT hB).2 y hy;have hm:(x.Id,x)∈allU a:=by
          obtain ⟨h1,h2⟩:=rW af.Id id (desc a) [] List.nodup_nil (by simpa [allU,cnt] using hA);have e:allU a=(desc a).map (fun x=>(x.Id,x)):=by rw [List.nil_append] at h1;exact h1
          rw [e];exact List.mem_map_of_mem (f:=fun x=>(x.Id,x)) hx
         have:=List.any_eq_false.1 hf _ hm;dsimp only at this;rw [he,q1,q2] at this;simp at this;exact this.symm
        obtain ⟨L,hL,hG⟩:=FN a b hca hcb hv hw ka kb na nb kk;have l2:∀ (L:List au) (m:List (au×Bool)),M.gP L m=some (fillS id (fun _=>true) L m):=by
         intro L;induction L with
         | nil=>intro m;rfl
         | cons x L ih=>intro m;simp only [M.gP];exact ih _
        refine ⟨(⟨allU a,allU b,fillS id (fun _=>true) L []⟩,true),?_,fun _=>⟨_,rfl,hca,hcb,na,nb,ua,ub,da,db,ka,kb,ia na ka,ib nb kb,kk,fun y hy h1 h2 h3=>?_⟩⟩
        ·simp only [M.gL];exact To.bind hv1 (To.neg (by decide) (To.bind ea (To.bind eb (To.bind hcount (To.neg (by decide) (To.bindS hany (To.neg (by decide) (To.bind hL (To.bindS (l2 L []) (To.pure.of rfl))))))))))
        ·rcases hG y hy ((Du na).2 h1) h2 with h | h
         ·have:=Au id y.Id L [] (.inr (by rw [List.map_id];exact h));rw [h3] at this;cases this
         ·exact h
      ·refine no ⟨allU a,allU b,[]⟩ ?_;simp only [M.gL];exact To.bind hv1 (To.neg (by decide) (To.bind ea (To.bind eb (To.bind (a:=true) (To.bindS ga (To.bind na2 (To.neg (by omega) (To.bindS gb (To.bind nb2 (To.pure.of (decide_eq_true (by omega)))))))) (To.pos rfl To.pure)))))
     ·refine no ⟨allU a,allU b,[]⟩ ?_;simp only [M.gL];exact To.bind hv1 (To.neg (by decide) (To.bind ea (To.bind eb (To.bind (a:=true) (To.bindS ga (To.bind na2 (To.pos (by omega) To.pure))) (To.pos rfl To.pure)))))
  ·exact bad (To.neg (by simpa using ka) (To.pos kb To.pure))
 ·exact bad (To.pos ka To.pure)
end Go.Proofs.YtalogjkalmkpjaaGreatDoor
/-
  Tracked words; which units stay below which.
-/
namespace Go.Proofs.YtalogjkalmkpjaaGreatDoor
open Go Go.Dec
def wE:Option Str×Option Str→TW
 | (some x,none)=>⟨2,x⟩
 | (none,some y)=>⟨1,y⟩
 | (some x,some _)=>⟨0,x⟩
 | (none,none)=>⟨1,[]⟩
def WRel(a b:List aH)(t:List TW):Prop:=(t.filter fun w=>decide (w.State≠1)).map (fun w=>w.Text)=a.map aH.Text∧(t.filter fun w=>decide (w.State≠2)).map (fun w=>w.Text)=b.map aH.Text∧t.length≤a.length+b.length
theorem Jl:∀ l:List (Option Str×Option Str),(((l.map wE).filter fun w=>decide (w.State≠1)).map fun w=>w.Text)=l.filterMap Prod.fst
 | []=>rfl
 | (x,y) :: l=>by
  have ih:=Jl l;cases x<;> cases y<;> simp [wE,ih]<;> simpa using ih
theorem Jm:∀ l:List (Option Str×Option Str),(∀ e∈l,e≠(none,none)∧ ∀ x y,e=(some x,some y)→x=y)→(((l.map wE).filter fun w=>decide (w.State≠2)).map fun w=>w.Text)=l.filterMap Prod.snd
 | [],_=>rfl
 | (x,y) :: l,h=>by
  have ih:=Jm l (fun e he=>h e (List.mem_cons_of_mem _ he));have h0:=h (x,y) List.mem_cons_self;cases x with
  | none=>
   cases y with
   | none=>exact absurd rfl h0.1
   | some y=>simp [wE];simpa using ih
  | some x=>
   cases y with
   | none=>simp [wE];simpa using ih
   | some y=>
    have:=h0.2 x y rfl;subst this;simp [wE];simpa using ih
theorem AA(l:List aH)(h:l.length≤100000):M.kX l=some (l.map aH.Text):=by
 have loop:∀ (xs:List aH) (out:List Str),out.length+xs.length≤100000→M.fq xs out=some (out++xs.map aH.Text):=by
  intro xs;induction xs with
  | nil=>intro out _;simp [M.fq]
  | cons x xs ih=>
   intro out h;simp only [List.length_cons] at h;simp only [M.fq];rw [dL (by simp;omega),Option.bind_some,ih _ (by simp;omega)];simp
 simp only [M.kX];rw [loop l [] (by simpa using h)];rfl
theorem uo(a b:List aH)(ha:a.length≤256)(hb:b.length≤256):∃ t,To (fun n=>M.jk n a b) t∧WRel a b t:=by
 obtain ⟨ps,hp,hr⟩:=GQ (a.map aH.Text) (b.map aH.Text) (by simpa using ha) (by simpa using hb);have hat:=u6 hr;have hw:=Jo (a.map aH.Text) (b.map aH.Text) (fun _ s=>M.jD s 2) (fun _ s=>M.jD s 1) (fun _ s t=>M.kN s t (fun s0=>M.jD s0 0)) wE (by simp;omega) ps hr (fun e he=>by
  obtain ⟨x,y⟩:=e;cases x<;> cases y
  ·trivial
  ·exact To.pure
  ·exact To.pure
  ·exact To.pure)
 refine ⟨(aln (a.map aH.Text) (b.map aH.Text) 0 0 ps).map wE,?_,?_,?_,?_⟩
 ·simp only [M.jk,M.lK];exact To.bindS (AA a (by omega)) (To.bindS (AA b (by omega)) (To.bindS rfl (To.bind hp (To.bindS rfl (To.bindS rfl (To.bind hw To.pure))))))
 ·rw [Jl,EU hr];rfl
 ·rw [Jm,Dm hr]
  ·rfl
  ·intro e he;have h:=hat e he;refine ⟨fun h0=>by rw [h0] at h;exact h,fun x y h0=>?_⟩;rw [h0] at h;obtain ⟨q,hq,h1,h2⟩:=h;have h3:(a.map aH.Text)[q.1]? =(b.map aH.Text)[q.2]?:=(yc hr q hq).2.2.2.2;rw [h1,h2] at h3;exact Option.some.inj h3
 ·have:=wF (by omega) (by omega) hr;simpa using this
theorem GV{a:af}:∀ x∈desc a,x=a∨ ∃ p∈desc a,x∈p.Kids:=by
 have:∀ a:af,∀ x∈desc a,x=a∨ ∃ p∈desc a,x∈p.Kids:=by
  refine uind ?_;intro u ih x hx;have hx0:=hx;rw [iC] at hx;rcases List.mem_cons.1 hx with rfl | hx
  ·exact .inl rfl
  ·obtain ⟨k,hk,hxk⟩:=List.mem_flatMap.1 hx;rcases ih k hk x hxk with rfl | ⟨p,hp,hxp⟩
   ·exact .inr ⟨u,fZ u,hk⟩
   ·exact .inr ⟨p,oD hk hp,hxp⟩
 exact this a
theorem BO{a p q x y:af}(hn:(idsOf a).Nodup)(hp:p∈desc a)(hq:q∈desc a)(hx:x∈p.Kids)(hy:y∈q.Kids)(he:x.Id=y.Id):p=q∧x=y:=by
 obtain ⟨i,hi⟩:=List.getElem?_of_mem hx;obtain ⟨j,hj⟩:=List.getElem?_of_mem hy;have h1:=(tV (lN hn) hp hi).1;have h2:=(tV (lN hn) hq hj).1;rw [he,h2] at h1;simp only [aC.mk.injEq] at h1;exact ⟨oF hn hp hq h1.1.symm,h1.2.2.symm⟩
theorem xm{u:af}{y:au}(h:y∈idsOf u):∃ x∈desc u,x.Id=y:=by
 obtain ⟨x,hx,he⟩:=List.mem_map.1 h;exact ⟨x,hx,he⟩
theorem HF.stay{a b:af}{mv:List (au×Bool)}(h:HF a b mv){y:af}(hy:y∈desc b)(h1:y.Id∈idsOf a)(h2:y.Kind≠0)(h3:mget mv y.Id false=false) :
  ∃ u∈desc b,∃ v∈desc a,y∈u.Kids∧v.Id=u.Id∧Stay a b u y.Id∧ ∃ x∈v.Kids,x.Id=y.Id:=by
 obtain ⟨u,hu,hs⟩:=h.st y hy h1 h2 h3;obtain ⟨e,he,hei,hk⟩:=hs.info (zf (rX h.nb hu)) (l6 h.cb hu);have hey:e=y:=oF h.nb (iq hu e (dh he)) hy hei;subst hey;unfold keptB at hk;rw [Bool.and_eq_true,Bool.and_eq_true] at hk;obtain ⟨⟨k1,k2⟩,k3⟩:=hk;obtain ⟨x,hx,hxi⟩:=xm h1;obtain ⟨v,hv,hvi⟩:=xm ((Du h.na).1 k3);refine ⟨u,hu,v,hv,he,hvi,hs,x,?_,hxi⟩;rcases GV x hx with rfl | ⟨p,hp,hxp⟩
 ·exact absurd ((h.kk _ hx e hy hxi).symm.trans h.ka) h2
 ·obtain ⟨i,hi⟩:=List.getElem?_of_mem hxp;have q:=(tV (lN h.na) hp hi).1;have k2:=of_decide_eq_true k2;rw [←hxi,q] at k2;have:p=v:=oF h.na hp hv (k2.trans hvi.symm);rw [←this];exact hxp
theorem HF.I1{a b:af}{mv:List (au×Bool)}(h:HF a b mv){u v x:af}(hu:u∈desc b)(hv:v∈desc a)(hi:v.Id=u.Id)(hx:x∈v.Kids)(h1:x.Id∈idsOf b)(h3:mget mv x.Id false=false) :
  ∃ y∈u.Kids,y.Id=x.Id∧Stay a b u y.Id:=by
 obtain ⟨y,hy,hyi⟩:=xm h1;have hxa:x∈desc a:=iq hv x (dh hx);have hk:y.Kind≠0:=by
  rw [←h.kk x hxa y hy hyi.symm];exact (h.ua v hv).2.2.2 x hx
 obtain ⟨u',hu',v',hv',q1,q2,q3,x',hx',q4⟩:=h.stay hy (by rw [hyi];exact List.mem_map_of_mem hxa) hk (by rw [hyi];exact h3);have e1:=(BO h.na hv' hv hx' hx (q4.trans hyi)).1;subst e1;have e2:u'=u:=oF h.nb hu' hu (q2.symm.trans hi);subst e2;exact ⟨y,q1,hyi,q3⟩
def prF(sel:af→Bool)(f:af→Nat):Nat→List af→List (Nat×Nat)
 | _,[]=>[]
 | i,x :: xs=>if sel x=true then (i,f x) :: prF sel f (i+1) xs else prF sel f (i+1) xs
theorem BP(sel:af→Bool)(f:af→Nat)(l:List af)(n:Nat):∀ (xs:List af) (i k:Nat),l.drop i=xs→(∀ x∈xs,sel x=true→k≤f x∧f x<n)→xs.Pairwise (fun x y=>sel x=true→sel y=true→f x<f y)→
  Ris l.length n (fun i k=>∃ x,l[i]? =some x∧sel x=true∧k=f x) i k (prF sel f i xs)
 | [],_,_,_,_,_=>trivial
 | x :: xs,i,k,hd,hk,hp=>by
  obtain ⟨hlt,hget,hnext⟩:=iZ hd;obtain ⟨p1,p2⟩:=List.pairwise_cons.1 hp;unfold prF;by_cases hs:sel x=true
  ·rw [if_pos hs];obtain ⟨k1,k2⟩:=hk x List.mem_cons_self hs;refine ⟨Nat.le_refl _,k1,hlt,k2,⟨x,hget,hs,rfl⟩,?_⟩;exact BP sel f l n xs (i+1) (f x+1) hnext (fun y hy hsy=>⟨p1 y hy hs hsy,(hk y (List.mem_cons_of_mem _ hy) hsy).2⟩) p2
  ·rw [if_neg hs];have h:=BP sel f l n xs (i+1) k hnext (fun y hy hsy=>hk y (List.mem_cons_of_mem _ hy) hsy) p2;cases hq:prF sel f (i+1) xs with
   | nil=>trivial
   | cons p ps=>
    rw [hq] at h;obtain ⟨h1,h2⟩:=h;exact ⟨by omega,h2⟩
theorem BQ{sel:af→Bool}{f:af→Nat}{l:List af}:∀ {xs:List af} {i j:Nat} {x:af},l.drop i=xs→i≤j→l[j]? =some x→sel x=true→(j,f x)∈prF sel f i xs
 | [],i,j,x,hd,hij,hx,hs=>by
  have:=(List.getElem?_eq_some_iff.1 hx).1;have:=List.drop_eq_nil_iff.1 hd;omega
 | z :: xs,i,j,x,hd,hij,hx,hs=>by
  obtain ⟨hlt,hget,hnext⟩:=iZ hd;unfold prF;by_cases hji:j=i
  ·subst hji;rw [hget] at hx;cases hx;rw [if_pos hs];exact List.mem_cons_self
  ·have:=BQ (f:=f) hnext (by omega) hx hs;split
   ·exact List.mem_cons_of_mem _ this
   ·exact this
end Go.Proofs.YtalogjkalmkpjaaGreatDoor
/-
  What goes and what comes.
-/
namespace Go.Proofs.YtalogjkalmkpjaaGreatDoor
open Go Go.Dec
def plcF(i:au):TU:=⟨2,0,i,[],[],true,[],[],[]⟩
theorem AB{X:ay}{u:af}(hU:uZ u)(hk:u.Kids.length≤256)(F:af→TU)(hF:∀ k∈u.Kids,To (fun n=>M.bL n X k) (F k)) :
  ∃ h w,WRel u.Head [] h∧WRel u.Words [] w∧To (fun n=>M.bL n X u) (if mhas X.b_ u.Id=true then plcF u.Id else ⟨2,u.Kind,u.Id,u.Label,[],false,h,w,u.Kids.map F⟩):=by
 obtain ⟨h,h1,h2⟩:=uo u.Head [] hU.1 (by simp);obtain ⟨w,w1,w2⟩:=uo u.Words [] hU.2 (by simp);refine ⟨h,w,h2,w2,To.succ ?_⟩;simp only [M.bL];by_cases hb:mhas X.b_ u.Id=true
 ·rw [if_pos hb];exact To.pos hb To.pure
 ·rw [if_neg hb];have loop:∀ (xs:List af) (S:Nat→ay→af→Option TU) (t:TU),t.Kids.length+xs.length≤100000→(∀ k∈xs,To (fun n=>S n X k) (F k))→
    To (fun n=>M.dJ X (S n) xs t) {t with Kids:=t.Kids++xs.map F}:=by
   intro xs;induction xs with
   | nil=>intro S t _ _;simp only [M.dJ];exact To.pure.of (by cases t;simp)
   | cons x xs ih=>
    intro S t hl hS;simp only [List.length_cons] at hl;simp only [M.dJ];refine To.bind (hS x List.mem_cons_self) (To.bindS (dL (by simp;omega)) ?_);exact (ih S {t with Kids:=t.Kids++ [F x]} (by simp;omega) (fun k hk=>hS k (List.mem_cons_of_mem _ hk))).of (by simp)
  exact To.neg hb (To.bind h1 (To.bind w1 (To.bind (loop u.Kids (fun n=>M.bL n) _ (by simp;omega) hF) (To.pure.of (by simp)))))
def selB(X:ay)(x:af):Bool:=mhas X.b_ x.Id && !(mget X.moved_ x.Id false)
def kE(G F:af→TU):Option af×Option af→TU
 | (some x,none)=>G x
 | (none,some y)=>F y
 | (some _,some y)=>F y
 | (none,none)=>plcF cu
theorem Dv{X:ay}{u:af}:∀ (xs:List af) (i:Nat) (out:List aI),i+xs.length≤1000→out.length≤i→(∀ x∈xs,selB X x=true→To (fun n=>M.bA n u.Kids (fun s0=>M.bD s0 x)) (posK u x:Int))→
  To (fun n=>M.bR n X u xs (i:Int) out) (out++(prF (selB X) (posK u) i xs).map toP):=by
 intro xs;induction xs with
 | nil=>intro i out _ _ _;simp only [M.bR];exact To.pure.of (by simp [prF])
 | cons x xs ih=>
  intro i out hi ho hx;simp only [List.length_cons] at hi;have h0:=hx x List.mem_cons_self;have hxs:∀ y∈xs,selB X y=true→To (fun n=>M.bA n u.Kids (fun s0=>M.bD s0 y)) (posK u y:Int):=fun y hy=>hx y (List.mem_cons_of_mem _ hy);have first:To (fun (_:Nat)=>if mhas X.b_ x.Id=true then some (!(mget X.moved_ x.Id false)) else some false) (selB X x):=by
   unfold selB;by_cases c:mhas X.b_ x.Id=true
   ·exact To.pos c (To.pure.of (by rw [c];rfl))
   ·exact To.neg c (To.pure.of (by rw [Bool.eq_false_iff.2 c];rfl))
  simp only [M.bR];refine To.bind first ?_
  by_cases hs:selB X x=true
  ·refine To.pos hs (To.bind (h0 hs) (To.bindS (dL (by simp;omega)) ?_));rw [bZ];refine (ih (i+1) _ (by omega) (by simp;omega) hxs).of ?_;unfold prF;rw [if_pos hs];simp [toP,prF];cases xs<;> rfl
  ·refine To.neg hs ?_;rw [bZ];refine (ih (i+1) out (by omega) (by omega) hxs).of ?_
   conv=>rhs;unfold prF
   rw [if_neg hs]
theorem Ef{X:ay}{u v:af}(hv:mget X.a_ u.Id aB=v)(rv:uZ v)(ru:uZ u)(kv:v.Kids.length≤256)(ku:u.Kids.length≤256)(G F:af→TU){Q:Nat→Nat→Prop}
  (hG:∀ k∈v.Kids,To (fun n=>M.bL n X k) (G k)) (hF:∀ k∈u.Kids,To (fun n=>M.bv n X k) (F k))
  (hidx:∀ x∈v.Kids,selB X x=true→To (fun n=>M.bA n u.Kids (fun s0=>M.bD s0 x)) (posK u x:Int))
  (hr:Ris v.Kids.length u.Kids.length Q 0 0 (prF (selB X) (posK u) 0 v.Kids)) :
  ∃ h w,WRel v.Head u.Head h∧WRel v.Words u.Words w∧To (fun n=>M.bv n X u)
   ⟨if mhas X.a_ u.Id=true∧mget X.moved_ u.Id false=false then 0 else 1,u.Kind,u.Id,u.Label,if mhas X.a_ u.Id=true∧v.Label≠u.Label then v.Label else [],mget X.moved_ u.Id false,h,w,(aln v.Kids u.Kids 0 0 (prF (selB X) (posK u) 0 v.Kids)).map (kE G F)⟩:=by
 obtain ⟨h,h1,h2⟩:=uo v.Head u.Head rv.1 ru.1;obtain ⟨w,w1,w2⟩:=uo v.Words u.Words rv.2 ru.2;have hat:=u6 hr;have hw:=Jp v.Kids u.Kids (fun n s=>M.bL n X s) (fun n s=>M.bv n X s) (fun n s t=>M.fu (M.bv n) s t X) (kE G F) (by omega) _ hr (fun e he=>by
  have hat:=hat e he;obtain ⟨x,y⟩:=e;cases x with
  | none=>
   cases y with
   | none=>trivial
   | some y=>
    obtain ⟨j,_,hj,_⟩:=hat;exact hF y (List.mem_of_getElem? hj)
  | some x=>
   cases y with
   | none=>
    obtain ⟨j,_,hj,_⟩:=hat;exact hG x (List.mem_of_getElem? hj)
   | some y=>
    obtain ⟨q,_,_,hj⟩:=hat;have:=hF y (List.mem_of_getElem? hj);show To (fun n=>M.fu (M.bv n) x y X) (F y);simp only [M.fu];exact To.bind this To.pure)
 have hp:To (fun n=>M.bR n X u v.Kids (0:Int) []) ((prF (selB X) (posK u) 0 v.Kids).map toP):=Dv v.Kids 0 [] (by omega) (by simp) hidx;refine ⟨h,w,h2,w2,To.succ ?_⟩;simp only [M.bv];rw [hv];refine To.bind h1 (To.bind w1 (To.bind (a:=(⟨if mhas X.a_ u.Id=true∧mget X.moved_ u.Id false=false then 0 else 1,u.Kind,u.Id,u.Label,[],mget X.moved_ u.Id false,h,w,[]⟩:TU)) ?_ (To.bind (a:=(⟨if mhas X.a_ u.Id=true∧mget X.moved_ u.Id false=false then 0 else 1,u.Kind,u.Id,u.Label,if mhas X.a_ u.Id=true∧v.Label≠u.Label then v.Label else [],mget X.moved_ u.Id false,h,w,[]⟩:TU)) ?_ (To.bind hp (To.bind hw To.pure)))))
 ·by_cases c1:mhas X.a_ u.Id=true
  ·refine To.neg (by rw [c1];decide) ?_;by_cases c2:mget X.moved_ u.Id false=true
   ·exact To.pos c2 (To.pure.of (by rw [if_neg (by rw [c2];simp)]))
   ·exact To.neg c2 (To.pure.of (by rw [if_pos ⟨c1,Bool.eq_false_iff.2 c2⟩]))
  ·exact To.pos (Bool.eq_false_iff.2 c1) (To.pure.of (by rw [if_neg (fun h=>c1 h.1)]))
 ·by_cases c1:mhas X.a_ u.Id=true
  ·refine To.pos c1 ?_;by_cases c2:v.Label=u.Label
   ·exact To.neg (by simp [c2]) (To.pure.of (by rw [if_neg (c:=mhas X.a_ u.Id=true∧v.Label≠u.Label) (fun h=>h.2 c2)]))
   ·exact To.pos (by simpa using c2) (To.pure.of (by rw [if_pos (c:=mhas X.a_ u.Id=true∧v.Label≠u.Label) ⟨c1,c2⟩]))
  ·exact To.neg c1 (To.pure.of (by rw [if_neg (c:=mhas X.a_ u.Id=true∧v.Label≠u.Label) (fun h=>c1 h.1)]))
end Go.Proofs.YtalogjkalmkpjaaGreatDoor
/-
  The tracked tree of two books.
-/
namespace Go.Proofs.YtalogjkalmkpjaaGreatDoor
open Go Go.Dec
theorem EY{α β:Type}[DecidableEq α]{k:α}{z:β}:∀ {m:List (α×β)},k ∉ m.map Prod.fst→mget m k z=z
 | [],_=>rfl
 | p :: m,h=>by
  rw [List.map_cons,List.mem_cons,not_or] at h;rw [mget,if_neg h.1];exact EY h.2
theorem FO{l:List af}(hn:(l.map af.Id).Nodup){i:Nat}{e:af}(he:l[i]? =some e):To (fun n=>M.bA n l (fun s0=>M.bD s0 e)) (i:Int):=by
 have hil:=(List.getElem?_eq_some_iff.1 he).1;have loop:∀ (d j:Nat),i-j=d→j≤i→To (fun n=>M.aZ l (fun s0=>M.bD s0 e) n (j:Int)) (.inr (i:Int)):=by
  intro d;induction d with
  | zero=>
   intro j hd hj;have:j=i:=by omega
   subst this;refine To.succ ?_;simp only [M.aZ];refine To.pos (by omega) (To.bindS (a:=e) (by rw [jX];exact he) (To.bindS (a:=true) ?_ (To.pos rfl To.pure)));unfold M.bD;rw [decide_eq_true rfl]
  | succ d ih=>
   intro j hd hj;obtain ⟨x,hx⟩:∃ x,l[j]? =some x:=⟨_,List.getElem?_eq_getElem (by omega)⟩
   have hne:¬ x.Id=e.Id:=by
    intro h;have hj':(l.map af.Id)[j]? =some e.Id:=by rw [List.getElem?_map,hx,←h];rfl
    have hi':(l.map af.Id)[i]? =some e.Id:=by rw [List.getElem?_map,he];rfl
    have hp:=List.pairwise_iff_getElem.1 hn j i (by simp;omega) (by simpa using hil) (by omega);rw [List.getElem?_eq_some_iff] at hj' hi';obtain ⟨_,q1⟩:=hj';obtain ⟨_,q2⟩:=hi';exact hp (q1.trans q2.symm)
   refine To.succ ?_;simp only [M.aZ];refine To.pos (by omega) (To.bindS (a:=x) (by rw [jX];exact hx) (To.bindS (a:=false) ?_ (To.neg (by decide) ?_)))
   ·unfold M.bD;rw [decide_eq_false hne]
   ·rw [bZ];exact ih (j+1) (by omega) (by omega)
 simp only [M.bA];refine To.bind (loop i 0 (by omega) (by omega)) ?_;exact To.pure
def bkX(a b:af)(mv:List (au×Bool)):ay:=⟨allU a,allU b,mv⟩
def vOf(a u:af):af:=mget (allU a) u.Id aB
theorem ve{a u:af}(hn:(idsOf a).Nodup)(h:u.Id∈idsOf a):vOf a u∈desc a∧(vOf a u).Id=u.Id:=by
 obtain ⟨x,hx,he⟩:=xm h;have:=((tT (Az hn)).2 x hx).1;unfold vOf;rw [←he,this];exact ⟨hx,rfl⟩
theorem yf{a u:af}(hn:(idsOf a).Nodup)(h:u.Id ∉ idsOf a):vOf a u=aB:=by
 unfold vOf;refine EY (fun hm=>h ?_);exact (l5 hn).1 ((jM _ _).2 hm)
section
variable {a b:af} {mv:List (au×Bool)}
theorem HF.pair(h:HF a b mv){u:af}(hu:u∈desc b){x:af}(hx:x∈(vOf a u).Kids)(hs:selB (bkX a b mv) x=true) :
  u.Id∈idsOf a∧ ∃ y∈u.Kids,y.Id=x.Id∧Stay a b u y.Id:=by
 by_cases hk:u.Id∈idsOf a
 ·obtain ⟨v1,v2⟩:=ve h.na hk;unfold selB at hs;rw [Bool.and_eq_true] at hs;refine ⟨hk,h.I1 hu v1 v2 hx ((l5 h.nb).1 hs.1) ?_⟩;have:=hs.2;simpa [bkX] using this
 ·rw [yf h.na hk] at hx;cases hx
theorem HF.wH(h:HF a b mv){u:af}(hu:u∈desc b):(u.Kids.map af.Id).Nodup:=zf (rX h.nb hu)
theorem HF.at(h:HF a b mv){u:af}(hu:u∈desc b){x:af}(hx:x∈(vOf a u).Kids)(hs:selB (bkX a b mv) x=true):∃ i y,u.Kids[i]? =some y∧y.Id=x.Id∧posK u x=i:=by
 obtain ⟨_,y,hy,hyi,_⟩:=h.pair hu hx hs;obtain ⟨i,hi⟩:=List.getElem?_of_mem hy;refine ⟨i,y,hi,hyi,?_⟩;have:=wG (h.wH hu) hi;unfold posK at this ⊢;rw [←hyi];exact this
theorem HF.ris(h:HF a b mv){u:af}(hu:u∈desc b) :
  Ris (vOf a u).Kids.length u.Kids.length (fun i k=>∃ x,(vOf a u).Kids[i]? =some x∧selB (bkX a b mv) x=true∧k=posK u x) 0 0 (prF (selB (bkX a b mv)) (posK u) 0 (vOf a u).Kids):=by
 refine BP _ _ _ _ _ 0 0 rfl (fun x hx hs=>?_) ?_
 ·obtain ⟨i,y,h1,_,h3⟩:=h.at hu hx hs;rw [h3];exact ⟨Nat.zero_le _,(List.getElem?_eq_some_iff.1 h1).1⟩
 ·rw [List.pairwise_iff_getElem];intro i j hi hj hij s1 s2;have m1:=List.getElem_mem hi;have m2:=List.getElem_mem hj;obtain ⟨hk,y1,hy1,e1,t1⟩:=h.pair hu m1 s1;obtain ⟨_,y2,hy2,e2,t2⟩:=h.pair hu m2 s2;obtain ⟨v1,v2⟩:=ve h.na hk;have p1:posK u (vOf a u).Kids[i]=posK u y1:=by unfold posK;rw [e1]
  have p2:posK u (vOf a u).Kids[j]=posK u y2:=by unfold posK;rw [e2]
  have a1:atF a y1=(i:Int):=by unfold atF;rw [e1,(tV (lN h.na) v1 (List.getElem?_eq_getElem hi)).1]
  have a2:atF a y2=(j:Int):=by unfold atF;rw [e2,(tV (lN h.na) v1 (List.getElem?_eq_getElem hj)).1]
  rw [p1,p2];rcases Ee (Dt (h.wH hu)) y1 hy1 y2 hy2 with q | q | q
  ·rw [q,a2] at a1;omega
  ·exact q
  ·have:=Stay.rise t2 t1 (h.wH hu) (l6 h.cb hu) q;omega
theorem HF.idx(h:HF a b mv){u:af}(hu:u∈desc b):∀ x∈(vOf a u).Kids,selB (bkX a b mv) x=true→To (fun n=>M.bA n u.Kids (fun s0=>M.bD s0 x)) (posK u x:Int):=by
 intro x hx hs;obtain ⟨i,y,h1,h2,h3⟩:=h.at hu hx hs;have:=FO (h.wH hu) h1;have e:(fun s0=>M.bD s0 x)=(fun s0=>M.bD s0 y):=by
  funext s;unfold M.bD;rw [h2]
 rw [e,h3];exact this
theorem BR{P:af→Prop}{R:af→TU→Prop}(h:∀ u,P u→∃ t,R u t):∃ F:af→TU,∀ u,P u→R u (F u):=by
 have h2:∀ u,∃ t,P u→R u t:=fun u=>by
  by_cases hp:P u
  ·obtain ⟨t,ht⟩:=h u hp;exact ⟨t,fun _=>ht⟩
  ·exact ⟨plcF cu,fun hq=>absurd hq hp⟩
 exact Classical.axiomOfChoice h2
def nQ(b:af)(G:af→TU)(u:af):Prop:=∃ h w,WRel u.Head [] h∧WRel u.Words [] w∧G u=if mhas (allU b) u.Id=true then plcF u.Id else ⟨2,u.Kind,u.Id,u.Label,[],false,h,w,u.Kids.map G⟩
theorem HF.gone(h:HF a b mv):∃ G:af→TU,∀ u∈desc a,To (fun n=>M.bL n (bkX a b mv) u) (G u)∧nQ b G u:=by
 have tot:∀ u:af,u∈desc a→∃ t,To (fun n=>M.bL n (bkX a b mv) u) t:=by
  refine uind (P:=fun u=>u∈desc a→∃ t,To (fun n=>M.bL n (bkX a b mv) u) t) ?_;intro u ih hu;obtain ⟨F,hF⟩:=BR (P:=fun k=>k∈u.Kids) (fun k hk=>ih k hk (iq hu k (dh hk)));obtain ⟨hd,w,_,_,q⟩:=AB (h.ua u hu).1 (l6 h.ca hu) F hF;exact ⟨_,q⟩
 obtain ⟨G,hG⟩:=BR (P:=fun u=>u∈desc a) tot;refine ⟨G,fun u hu=>⟨hG u hu,?_⟩⟩;obtain ⟨hd,w,q1,q2,q⟩:=AB (h.ua u hu).1 (l6 h.ca hu) G (fun k hk=>hG k (iq hu k (dh hk)));exact ⟨hd,w,q1,q2,(hG u hu).det q⟩
def mf(a b:af)(mv:List (au×Bool))(G F:af→TU)(u:af):Prop:=∃ h w,WRel (vOf a u).Head u.Head h∧WRel (vOf a u).Words u.Words w∧
 F u=⟨if mhas (allU a) u.Id=true∧mget mv u.Id false=false then 0 else 1,u.Kind,u.Id,u.Label,if mhas (allU a) u.Id=true∧(vOf a u).Label≠u.Label then (vOf a u).Label else [],mget mv u.Id false,h,w,(aln (vOf a u).Kids u.Kids 0 0 (prF (selB (bkX a b mv)) (posK u) 0 (vOf a u).Kids)).map (kE G F)⟩
theorem HF.vrow(h:HF a b mv){u:af}(hu:u∈desc b):uZ (vOf a u)∧(vOf a u).Kids.length≤256∧ ∀ k∈(vOf a u).Kids,k∈desc a:=by
 by_cases hk:u.Id∈idsOf a
 ·obtain ⟨v1,v2⟩:=ve h.na hk;exact ⟨(h.ua _ v1).1,l6 h.ca v1,fun k hk=>iq v1 k (dh hk)⟩
 ·rw [yf h.na hk];exact ⟨⟨by decide,by decide⟩,by decide,fun k hk=>by cases hk⟩
theorem HF.fresh(h:HF a b mv){G:af→TU}(hG:∀ u∈desc a,To (fun n=>M.bL n (bkX a b mv) u) (G u)) :
  ∃ F:af→TU,∀ u∈desc b,To (fun n=>M.bv n (bkX a b mv) u) (F u)∧mf a b mv G F u:=by
 have step:∀ (u:af) (F:af→TU),u∈desc b→(∀ k∈u.Kids,To (fun n=>M.bv n (bkX a b mv) k) (F k))→_:=fun u F hu hF=>
  Ef (X:=bkX a b mv) (v:=vOf a u) rfl (h.vrow hu).1 (h.ub u hu).1 (h.vrow hu).2.1 (l6 h.cb hu) G F (fun k hk=>hG k ((h.vrow hu).2.2 k hk)) hF (h.idx hu) (h.ris hu)
 have tot:∀ u:af,u∈desc b→∃ t,To (fun n=>M.bv n (bkX a b mv) u) t:=by
  refine uind (P:=fun u=>u∈desc b→∃ t,To (fun n=>M.bv n (bkX a b mv) u) t) ?_;intro u ih hu;obtain ⟨F,hF⟩:=BR (P:=fun k=>k∈u.Kids) (fun k hk=>ih k hk (iq hu k (dh hk)));obtain ⟨hd,w,_,_,q⟩:=step u F hu hF;exact ⟨_,q⟩
 obtain ⟨F,hF⟩:=BR (P:=fun u=>u∈desc b) tot;refine ⟨F,fun u hu=>⟨hF u hu,?_⟩⟩;obtain ⟨hd,w,q1,q2,q⟩:=step u F hu (fun k hk=>hF k (iq hu k (dh hk)));exact ⟨hd,w,q1,q2,(hF u hu).det q⟩
end
end Go.Proofs.YtalogjkalmkpjaaGreatDoor
/-
  The new book is recovered; trees that are alike.
-/
namespace Go.Proofs.YtalogjkalmkpjaaGreatDoor
open Go Go.Dec
def mkW(l:List Str):List aH:=l.map fun s=>⟨s,oQ⟩
theorem nR(s:Int)(l:List TW)(h:l.length≤100000):M.fP l s=some (mkW ((l.filter fun w=>decide (w.State≠s)).map fun w=>w.Text)):=by
 have loop:∀ (xs:List TW) (out:List aH),out.length+xs.length≤100000→M.dP s xs out=some (out++mkW ((xs.filter fun w=>decide (w.State≠s)).map fun w=>w.Text)):=by
  intro xs;induction xs with
  | nil=>intro out _;simp [M.dP,mkW]
  | cons x xs ih=>
   intro out h;simp only [List.length_cons] at h;simp only [M.dP];by_cases hx:x.State≠s
   ·rw [if_pos hx,dL (by simp;omega),Option.bind_some,ih _ (by simp;omega),List.filter_cons,if_pos (decide_eq_true hx)];simp [mkW]
   ·rw [if_neg hx,ih _ (by omega),List.filter_cons,if_neg (by simpa using hx)]
 simp only [M.fP];rw [loop l [] (by simpa using h)];rfl
def stF(u:af):af:=⟨u.Id,u.Kind,u.Label,mkW (u.Head.map aH.Text),mkW (u.Words.map aH.Text),u.Kids.attach.map (fun k=>stF k.1)⟩
termination_by SizeOf.sizeOf u
decreasing_by exact BI k.2
theorem I4{β:Type}(f:af→β)(l:List af):l.attach.map (fun k=>f k.1)=l.map f:=by
 rw [show (fun k:{x // x∈l}=>f k.1)=f ∘ Subtype.val from rfl,←List.map_map,List.attach_map_subtype_val]
theorem qD(u:af):stF u=⟨u.Id,u.Kind,u.Label,mkW (u.Head.map aH.Text),mkW (u.Words.map aH.Text),u.Kids.map stF⟩:=by
 rw [stF,I4]
theorem AC(l:List Str):(mkW l).map aH.Text=l:=by
 unfold mkW;rw [List.map_map];exact List.map_id l
theorem qw(l:List aH)(h:l.length≤100000):To (fun n=>M.mI n l) (l.map aH.Text):=by
 have loop:∀ (xs:List aH) (out:List Str) (i:Nat),out.length+xs.length≤100000→l.drop i=xs→To (fun n=>M.iy l n out (i:Int)) (out++xs.map aH.Text):=by
  intro xs;induction xs with
  | nil=>
   intro out i _ hx;refine To.succ ?_;simp only [M.iy];exact To.neg (gm hx) (To.pure.of (by simp))
  | cons x xs ih=>
   intro out i h hx;simp only [List.length_cons] at h;refine To.succ ?_;simp only [M.iy];refine To.pos (eQ hx) (To.bindS (cZ hx) (To.bindS (dL (by simp;omega)) ?_));rw [bZ];exact (ih _ (i+1) (by simp;omega) (fE hx)).of (by simp)
 simp only [M.mI];exact To.bind (loop l [] 0 (by simpa using h) rfl) (To.pure.of (by simp))
theorem AJ(l:List Str):To (fun n=>M.qK n l l) true:=by
 have loop:∀ (xs:List Str) (i:Nat),l.drop i=xs→To (fun n=>M.iT l l n (i:Int)) (.inl ()):=by
  intro xs;induction xs with
  | nil=>
   intro i hx;refine To.succ ?_;simp only [M.iT];exact To.neg (gm hx) To.pure
  | cons x xs ih=>
   intro i hx;refine To.succ ?_;simp only [M.iT];refine To.pos (eQ hx) (To.bindS (cZ hx) (To.bindS (cZ hx) (To.neg (by simp) ?_)));rw [bZ];exact ih (i+1) (fE hx)
 simp only [M.qK];exact To.neg (fun h=>h rfl) (To.bind (loop l 0 rfl) To.pure)
theorem Dw:∀ u:af,(∀ x∈desc u,uZ x)→To (fun n=>M.jP n (stF u) u) true:=by
 refine uind ?_;intro u ih hr;obtain ⟨r1,r2⟩:=hr u (fZ u);have t1:=qw (stF u).Head (by rw [qD];simp [mkW];omega);have t2:=qw u.Head (by omega);have t3:=qw (stF u).Words (by rw [qD];simp [mkW];omega);have t4:=qw u.Words (by omega);have e1:(stF u).Head.map aH.Text=u.Head.map aH.Text:=by rw [qD];exact AC _
 have e2:(stF u).Words.map aH.Text=u.Words.map aH.Text:=by rw [qD];exact AC _
 rw [e1] at t1;rw [e2] at t3;have ek:(stF u).Kids=u.Kids.map stF:=by rw [qD]
 have loop:∀ (xs:List af) (S:Nat→af→af→Option Bool) (i:Nat),(∀ x∈xs,To (fun n=>S n (stF x) x) true)→u.Kids.drop i=xs→To (fun n=>M.gz (stF u) u (S n) n (i:Int)) (.inl ()):=by
  intro xs;induction xs with
  | nil=>
   intro S i _ hx;refine To.succ ?_;simp only [M.gz];refine To.neg ?_ To.pure;rw [ek,List.length_map];exact gm hx
  | cons x xs ih2=>
   intro S i hS hx;have h2:=ih2 (fun n=>S (n+1)) (i+1) (fun y hy=>(hS y (List.mem_cons_of_mem _ hy)).shift) (fE hx);have hi:idx (stF u).Kids (i:Int)=some (stF x):=by rw [jX,ek,List.getElem?_map,(iZ hx).2.1];rfl
   refine To.succ ?_;simp only [M.gz];refine To.pos (by rw [ek,List.length_map];exact eQ hx) (To.bindS hi (To.bindS (cZ hx) (To.bind (hS x List.mem_cons_self).shift (To.neg (by decide) ?_))));rw [bZ];exact h2
 have hk:=loop u.Kids (fun n=>M.jP n) 0 (fun x hx=>ih x hx (fun y hy=>hr y (oD hx hy))) rfl;refine To.succ ?_;simp only [M.jP];refine To.neg (by rw [qD];simp) (To.neg (by rw [qD];simp) (To.neg (by rw [qD];simp) (To.bind t1 (To.bind t2 (To.bind (AJ _) (To.neg (by decide) (To.bind t3 (To.bind t4 (To.bind (AJ _) (To.neg (by decide) (To.neg ?_ (To.bind hk To.pure))))))))))));rw [ek,List.length_map];exact fun h=>h rfl
section
variable {a b:af} {mv:List (au×Bool)} {G F:af→TU}
theorem zg{u:af}(h:nQ b G u):(G u).State=2∧(G u).Id=u.Id:=by
 obtain ⟨hd,w,_,_,e⟩:=h;rw [e];split<;> exact ⟨rfl,rfl⟩
theorem xG{u:af}(h:mf a b mv G F u):(F u).State≠2∧(F u).Id=u.Id:=by
 obtain ⟨hd,w,_,_,e⟩:=h;rw [e];refine ⟨?_,rfl⟩;show (if mhas (allU a) u.Id=true∧mget mv u.Id false=false then (0:Int) else 1)≠2;split<;> decide
theorem HF.new(h:HF a b mv)(hG:∀ u∈desc a,nQ b G u)(hF:∀ u∈desc b,mf a b mv G F u):∀ u:af,u∈desc b→To (fun n=>M.jQ n (F u)) (stF u):=by
 refine uind (P:=fun u=>u∈desc b→To (fun n=>M.jQ n (F u)) (stF u)) ?_;intro u ih hu;obtain ⟨hd,w,q1,q2,e⟩:=hF u hu;obtain ⟨rv,kv,dv⟩:=h.vrow hu;have ru:=(h.ub u hu).1;have hris:=h.ris hu;have hat:=u6 hris;have hr:=Dm hris;have loop:∀ (al:List (Option af×Option af)) (S:Nat→TU→Option af) (t:af),t.Kids.length+al.length≤100000→(∀ e∈al,AlnAt (vOf a u).Kids u.Kids 0 0 (prF (selB (bkX a b mv)) (posK u) 0 (vOf a u).Kids) e)→(∀ y∈u.Kids,To (fun n=>S n (F y)) (stF y))→
   To (fun n=>M.dX (S n) (al.map (kE G F)) t) {t with Kids:=t.Kids++(al.filterMap Prod.snd).map stF}:=by
  intro al;induction al with
  | nil=>intro S t _ _ _;simp only [List.map_nil,M.dX];exact To.pure.of (by cases t;simp)
  | cons e al ih2=>
   intro S t hl hA hS;simp only [List.length_cons] at hl;have hA2:=fun e he=>hA e (List.mem_cons_of_mem _ he);have h0:=hA e List.mem_cons_self;obtain ⟨x,y⟩:=e;have some_y:∀ y,y∈u.Kids→To (fun n=>M.dX (S n) (F y :: al.map (kE G F)) t) {t with Kids:=t.Kids++stF y :: (al.filterMap Prod.snd).map stF}:=fun y hy=>by
    have hyb:=iq hu y (dh hy);simp only [M.dX];refine To.pos (xG (hF y hyb)).1 (To.bind (hS y hy) (To.bindS (dL (by simp;omega)) ?_));exact (ih2 S {t with Kids:=t.Kids++ [stF y]} (by simp;omega) hA2 hS).of (by simp)
   cases x with
   | none=>
    cases y with
    | none=>exact h0.elim
    | some y=>
     obtain ⟨j,_,hj,_⟩:=h0;exact some_y y (List.mem_of_getElem? hj)
   | some x=>
    cases y with
    | none=>
     obtain ⟨j,_,hj,_⟩:=h0;have hs:=(zg (hG x (dv x (List.mem_of_getElem? hj)))).1;simp only [List.map_cons,kE,M.dX];refine To.neg (fun hne=>hne hs) ?_;exact (ih2 S t (by omega) hA2 hS).of (by simp)
    | some y=>
     obtain ⟨q,_,_,hj⟩:=h0;exact some_y y (List.mem_of_getElem? hj)
 have hlen:=wF (by omega) (by omega) hris;have hk:=l6 h.cb hu;have hl2:=loop _ (fun n=>M.jQ n) ⟨u.Id,u.Kind,u.Label,mkW (u.Head.map aH.Text),mkW (u.Words.map aH.Text),[]⟩ (by simp;omega) hat (fun y hy=>ih y hy (iq hu y (dh hy)));have w1:=nR 2 hd (by have:=q1.2.2;have:=rv.1;have:=ru.1;omega);have w2:=nR 2 w (by have:=q2.2.2;have:=rv.2;have:=ru.2;omega);rw [q1.2.1] at w1;rw [q2.2.1] at w2;rw [e];refine To.succ ?_;simp only [M.jQ];refine To.bindS w1 (To.bindS w2 (To.bind hl2 (To.pure.of ?_)));rw [qD,hr];simp
end
end Go.Proofs.YtalogjkalmkpjaaGreatDoor
/-
  The old book is recovered.
-/
namespace Go.Proofs.YtalogjkalmkpjaaGreatDoor
open Go Go.Dec
abbrev MapT:=List (au×aa)
def PW(b:af)(F:af→TU)(m:MapT):Prop:=∀ i,mhas m i=true→∃ u∈desc b,u.Id=i∧mget m i av=F u
theorem xn{α β:Type}[DecidableEq α](k:α)(v:β)(m:List (α×β))(i:α)(h:mhas m k=false):mhas (mset m k v) i=true ↔ i=k∨mhas m i=true:=by
 rw [jb h,jM,jM,List.map_append,List.mem_append];simp only [List.map_cons,List.map_nil,List.mem_singleton];exact Or.comm
section
variable {a b:af} {mv:List (au×Bool)} {G F:af→TU}
theorem Eg(hG:∀ u∈desc a,nQ b G u):∀ u:af,u∈desc a→∀ m:MapT,To (fun n=>M.eu n (G u) m) m:=by
 refine uind (P:=fun u=>u∈desc a→∀ m:MapT,To (fun n=>M.eu n (G u) m) m) ?_;intro u ih hu m;have hs:=(zg (hG u hu)).1;have loop:∀ (xs:List af) (S:Nat→TU→MapT→Option MapT),(∀ x∈xs,To (fun n=>S n (G x) m) m)→To (fun n=>M.bM (S n) (xs.map G) m) m:=by
  intro xs;induction xs with
  | nil=>intro S _;simp only [List.map_nil,M.bM];exact To.pure
  | cons x xs ih2=>
   intro S hS;simp only [List.map_cons,M.bM];exact To.bind (hS x List.mem_cons_self) (ih2 S (fun y hy=>hS y (List.mem_cons_of_mem _ hy)))
 have hk:To (fun n=>M.bM (M.eu n) (G u).Kids m) m:=by
  obtain ⟨hd,w,_,_,e⟩:=hG u hu;rw [e];split
  ·simp only [plcF,M.bM];exact To.pure
  ·exact loop u.Kids (fun n=>M.eu n) (fun x hx=>ih x hx (iq hu x (dh hx)) m)
 refine To.succ ?_;simp only [M.eu];refine To.bind (a:=m) ?_ (To.bind hk To.pure);by_cases c:mhas m (G u).Id=false
 ·exact To.pos c (To.neg (by rw [hs];decide) To.pure)
 ·exact To.neg c To.pure
theorem Dx(h:HF a b mv)(hG:∀ u∈desc a,nQ b G u)(hF:∀ u∈desc b,mf a b mv G F u):∀ u:af,u∈desc b→∀ m:MapT,PW b F m→
  ∃ m',To (fun n=>M.eu n (F u) m) m'∧PW b F m'∧(∀ i,mhas m i=true→mhas m' i=true)∧ ∀ y∈desc u,(F y).State=1→(F y).Moved=true→mhas m' y.Id=true:=by
 refine uind (P:=fun u=>u∈desc b→∀ m:MapT,PW b F m→∃ m',To (fun n=>M.eu n (F u) m) m'∧PW b F m'∧(∀ i,mhas m i=true→mhas m' i=true)∧ ∀ y∈desc u,(F y).State=1→(F y).Moved=true→mhas m' y.Id=true) ?_;intro u ih hu m hm;obtain ⟨rv,kv,dv⟩:=h.vrow hu;have hris:=h.ris hu;have hat:=u6 hris;have hr:=Dm hris;have loop:∀ (al:List (Option af×Option af)) (S:Nat→TU→MapT→Option MapT) (m:MapT),PW b F m→(∀ e∈al,AlnAt (vOf a u).Kids u.Kids 0 0 (prF (selB (bkX a b mv)) (posK u) 0 (vOf a u).Kids) e)→
   (∀ x∈(vOf a u).Kids,∀ m:MapT,To (fun n=>S n (G x) m) m)→
   (∀ y∈u.Kids,∀ m:MapT,PW b F m→∃ m',To (fun n=>S n (F y) m) m'∧PW b F m'∧(∀ i,mhas m i=true→mhas m' i=true)∧ ∀ z∈desc y,(F z).State=1→(F z).Moved=true→mhas m' z.Id=true)→
   ∃ m',To (fun n=>M.bM (S n) (al.map (kE G F)) m) m'∧PW b F m'∧(∀ i,mhas m i=true→mhas m' i=true)∧ ∀ y∈al.filterMap Prod.snd,∀ z∈desc y,(F z).State=1→(F z).Moved=true→mhas m' z.Id=true:=by
  intro al;induction al with
  | nil=>intro S m hm _ _ _;exact ⟨m,by simp only [List.map_nil,M.bM];exact To.pure,hm,fun i hi=>hi,fun y hy=>by cases hy⟩
  | cons e al ih2=>
   intro S m hm hA hSG hSF;have hA2:=fun e he=>hA e (List.mem_cons_of_mem _ he);have h0:=hA e List.mem_cons_self;obtain ⟨x,y⟩:=e;have some_y:∀ y,y∈u.Kids→∃ m',To (fun n=>M.bM (S n) (F y :: al.map (kE G F)) m) m'∧PW b F m'∧(∀ i,mhas m i=true→mhas m' i=true)∧ ∀ y'∈y :: al.filterMap Prod.snd,∀ z∈desc y',(F z).State=1→(F z).Moved=true→mhas m' z.Id=true:=fun y hy=>by
    obtain ⟨m1,t1,p1,k1,q1⟩:=hSF y hy m hm;obtain ⟨m2,t2,p2,k2,q2⟩:=ih2 S m1 p1 hA2 hSG hSF;refine ⟨m2,?_,p2,fun i hi=>k2 i (k1 i hi),fun y' hy' z hz s1 s2=>?_⟩
    ·simp only [M.bM];exact To.bind t1 t2
    ·rcases List.mem_cons.1 hy' with rfl | hy'
     ·exact k2 _ (q1 z hz s1 s2)
     ·exact q2 y' hy' z hz s1 s2
   cases x with
   | none=>
    cases y with
    | none=>exact h0.elim
    | some y=>
     obtain ⟨j,_,hj,_⟩:=h0;exact some_y y (List.mem_of_getElem? hj)
   | some x=>
    cases y with
    | none=>
     obtain ⟨j,_,hj,_⟩:=h0;obtain ⟨m2,t2,p2,k2,q2⟩:=ih2 S m hm hA2 hSG hSF;refine ⟨m2,?_,p2,k2,q2⟩;simp only [List.map_cons,kE,M.bM];exact To.bind (hSG x (List.mem_of_getElem? hj) m) t2
    | some y=>
     obtain ⟨q,_,_,hj⟩:=h0;exact some_y y (List.mem_of_getElem? hj)
 have hid:=(xG (hF u hu)).2
 -- the unit itself
 have first:∃ m1,To (fun (_:Nat)=>if mhas m (F u).Id=false then (if (F u).State=(1:Int) then (if (F u).Moved=true then some (mset m (F u).Id (F u)) else some m) else some m) else some m) m1∧PW b F m1∧(∀ i,mhas m i=true→mhas m1 i=true)∧((F u).State=1→(F u).Moved=true→mhas m1 u.Id=true):=by
  by_cases c1:mhas m (F u).Id=false
  ·by_cases c2:(F u).State=1
   ·by_cases c3:(F u).Moved=true
    ·refine ⟨mset m (F u).Id (F u),To.pos c1 (To.pos c2 (To.pos c3 To.pure)),fun i hi=>?_,fun i hi=>(xn _ _ _ _ c1).2 (.inr hi),fun _ _=>(xn _ _ _ _ c1).2 (.inl hid.symm)⟩;rw [mM];by_cases hik:i=(F u).Id
     ·rw [if_pos hik];exact ⟨u,hu,by rw [hik,hid],rfl⟩
     ·rw [if_neg hik];exact hm i (((xn _ _ _ _ c1).1 hi).resolve_left hik)
    ·exact ⟨m,To.pos c1 (To.pos c2 (To.neg c3 To.pure)),hm,fun i hi=>hi,fun _ h=>absurd h c3⟩
   ·exact ⟨m,To.pos c1 (To.neg c2 To.pure),hm,fun i hi=>hi,fun h=>absurd h c2⟩
  ·exact ⟨m,To.neg c1 To.pure,hm,fun i hi=>hi,fun _ _=>by
   rw [←hid];cases hh:mhas m (F u).Id with
   | true=>rfl
   | false=>exact absurd hh c1⟩
 obtain ⟨m1,t1,p1,k1,q1⟩:=first
 obtain ⟨m2,t2,p2,k2,q2⟩:=loop _ (fun n=>M.eu n) m1 p1 hat (fun x hx m=>Eg hG x (dv x hx) m) (fun y hy m hm=>ih y hy (iq hu y (dh hy)) m hm);have hkids:(F u).Kids=(aln (vOf a u).Kids u.Kids 0 0 (prF (selB (bkX a b mv)) (posK u) 0 (vOf a u).Kids)).map (kE G F):=by
  obtain ⟨hd,w,_,_,e⟩:=hF u hu;rw [e]
 refine ⟨m2,To.succ ?_,p2,fun i hi=>k2 i (k1 i hi),fun y hy s1 s2=>?_⟩
 ·simp only [M.eu];rw [hkids];exact To.bind t1 (To.bind t2 To.pure)
 ·rw [iC] at hy;rcases List.mem_cons.1 hy with rfl | hy
  ·exact k2 _ (q1 s1 s2)
  ·obtain ⟨k,hk,hyk⟩:=List.mem_flatMap.1 hy;exact q2 k (by rw [hr];exact hk) y hyk s1 s2
def Rel(a b:af)(G F:af→TU)(v:af)(t:TU):Prop:=(∃ u∈desc b,u.Id=v.Id∧t=F u)∨(v.Id ∉ idsOf b∧t=G v)
def KR(a b:af)(G F:af→TU)(W:MapT):List TU→List af→Prop
 | [],xs=>xs= []
 | k :: es,xs=>(k.State=1∧KR a b G F W es xs)∨ ∃ x xs',xs=x :: xs'∧KR a b G F W es xs'∧
   ((k=plcF x.Id∧mhas W x.Id=true∧ ∃ y∈desc b,y.Id=x.Id∧mget W x.Id av=F y)∨((k.State=0∨(k.State=2∧k.Moved=false))∧Rel a b G F x k))
abbrev Met:=List (au×Bool)
def Out(v:af)(met met':Met):Prop:=∀ i,mget met' i false=true→mget met i false=true∨ ∃ x∈desc v,x≠v∧x.Id=i
theorem zh{W:MapT}:∀ (es:List TU) (xs:List af) (S:Nat→MapT→Met→TU→Option (af×MapT×Met)) (t:af) (met:Met),KR a b G F W es xs→t.Kids.length+es.length≤100000→
  (∀ x∈xs,(idsOf x).Nodup)→xs.Pairwise (fun x x'=>∀ z∈desc x,∀ z'∈desc x',z.Id≠z'.Id)→(∀ x∈xs,∀ z∈desc x,mget met z.Id false=false)→
  (∀ x∈xs,∀ t,Rel a b G F x t→∀ met:Met,(∀ z∈desc x,z≠x→mget met z.Id false=false)→∃ met',To (fun n=>S n W met t) (stF x,W,met')∧Out x met met')→
  ∃ met',To (fun n=>M.aX (S n) es t W met) ({t with Kids:=t.Kids++xs.map stF},W,met')∧ ∀ i,mget met' i false=true→mget met i false=true∨ ∃ x∈xs,∃ z∈desc x,z.Id=i
 | [],xs,S,t,met,hk,hl,hn,hp,hc,hS=>by
  have hk:xs= []:=hk;subst hk;refine ⟨met,?_,fun i hi=>.inl hi⟩;simp only [M.aX];exact To.pure.of (by cases t;simp)
 | k :: es,xs,S,t,met,hk,hl,hn,hp,hc,hS=>by
  simp only [List.length_cons] at hl;rcases hk with ⟨h1,hk⟩ | ⟨x,xs',rfl,hk,hx⟩
  ·obtain ⟨met',q1,q2⟩:=zh es xs S t met hk (by omega) hn hp hc hS;refine ⟨met',?_,q2⟩;simp only [M.aX];exact To.bind (a:=true) (To.pos (by rw [h1];decide) (To.pure.of (by rw [h1];decide))) (To.pos rfl q1)
  ·obtain ⟨p1,p2⟩:=List.pairwise_cons.1 hp;have hnx:=hn x List.mem_cons_self;have hS0:=hS x List.mem_cons_self;have hc0:=hc x List.mem_cons_self
   -- behind one kid
   have next:∀ met1:Met,(∀ i,mget met1 i false=true→mget met i false=true∨ ∃ z∈desc x,z.Id=i)→
     ∃ met',To (fun n=>M.aX (S n) es {t with Kids:=t.Kids++ [stF x]} W met1) ({t with Kids:=t.Kids++(x :: xs').map stF},W,met')∧ ∀ i,mget met' i false=true→mget met i false=true∨ ∃ x'∈x :: xs',∃ z∈desc x',z.Id=i:=by
    intro met1 h1;obtain ⟨met',q1,q2⟩:=zh es xs' S {t with Kids:=t.Kids++ [stF x]} met1 hk (by simp;omega) (fun y hy=>hn y (List.mem_cons_of_mem _ hy)) p2 (fun y hy z hz=>by
     cases hm:mget met1 z.Id false with
     | false=>rfl
     | true=>
      rcases h1 _ hm with h | ⟨z',hz',he⟩
      ·rw [hc y (List.mem_cons_of_mem _ hy) z hz] at h;cases h
      ·exact absurd he (p1 y hy z' hz' z hz)) (fun y hy=>hS y (List.mem_cons_of_mem _ hy))
    refine ⟨met',q1.of (by simp),fun i hi=>?_⟩;rcases q2 i hi with h | ⟨y,hy,z,hz,he⟩
    ·rcases h1 i h with h | ⟨z,hz,he⟩
     ·exact .inl h
     ·exact .inr ⟨x,List.mem_cons_self,z,hz,he⟩
    ·exact .inr ⟨y,List.mem_cons_of_mem _ hy,z,hz,he⟩
   rcases hx with ⟨rfl,hw,y,hy,hyi,hg⟩ | ⟨hs,hrel⟩
   · -- a placeholder
    have hx0:mget met x.Id false=false:=hc0 x (fZ x);obtain ⟨met2,q1,q2⟩:=hS0 (F y) (.inl ⟨y,hy,hyi,rfl⟩) (mset met x.Id true) (fun z hz hne=>by
     rw [mM,if_neg (fun he=>hne (oF hnx hz (fZ x) he))];exact hc0 z hz)
    obtain ⟨met',q3,q4⟩:=next met2 (fun i hi=>by
     rcases q2 i hi with h | ⟨z,hz,_,he⟩
     ·rw [mM] at h;by_cases hix:i=x.Id
      ·exact .inr ⟨x,fZ x,hix.symm⟩
      ·rw [if_neg hix] at h;exact .inl h
     ·exact .inr ⟨z,hz,he⟩)
    refine ⟨met',?_,q4⟩;have e1:(plcF x.Id).State=2:=rfl;have e2:(plcF x.Id).Moved=true:=rfl;have e3:(plcF x.Id).Id=x.Id:=rfl;generalize plcF x.Id=k at e1 e2 e3 ⊢;simp only [M.aX];refine To.bind (a:=false) (To.pos (by rw [e1];decide) (To.pure.of (by rw [e1];decide))) (To.neg (by decide) (To.bind (a:=true) (To.pos e1 (To.pure.of e2)) (To.pos rfl (To.bind (a:=false) (To.neg (by rw [e3,hw];decide) (To.pure.of (by rw [e3];exact hx0))) (To.neg (by decide) ?_)))));rw [e3,hg];refine To.bind q1 ?_;exact To.bindS (dL (by simp;omega)) q3
   ·obtain ⟨met2,q1,q2⟩:=hS0 k hrel met (fun z hz _=>hc0 z hz);obtain ⟨met',q3,q4⟩:=next met2 (fun i hi=>by
     rcases q2 i hi with h | ⟨z,hz,_,he⟩
     ·exact .inl h
     ·exact .inr ⟨z,hz,he⟩)
    refine ⟨met',?_,q4⟩;have tail:To (fun n=>Option.bind (S n W met k) fun x_1=>Option.bind (appC t.Kids [x_1.1]) fun out=>M.aX (S n) es {t with Kids:=out} x_1.2.1 x_1.2.2) ({t with Kids:=t.Kids++(x :: xs').map stF},W,met'):=by
     refine To.bind q1 ?_;exact To.bindS (dL (by simp;omega)) q3
    simp only [M.aX];rcases hs with h0 | ⟨h2,hm⟩
    ·exact To.bind (a:=false) (To.neg (by rw [h0];decide) To.pure) (To.neg (by decide) (To.bind (a:=false) (To.neg (by rw [h0];decide) To.pure) (To.neg (by decide) tail)))
    ·exact To.bind (a:=false) (To.pos (by rw [h2];decide) (To.pure.of (by rw [h2];decide))) (To.neg (by decide) (To.bind (a:=false) (To.pos h2 (To.pure.of hm)) (To.neg (by decide) tail)))
end
end Go.Proofs.YtalogjkalmkpjaaGreatDoor
/-
  The old book is recovered: what stands for what.
-/
namespace Go.Proofs.YtalogjkalmkpjaaGreatDoor
open Go Go.Dec
theorem Eh{v:af}(h:(idsOf v).Nodup):v.Kids.Pairwise (fun x x'=>∀ z∈desc x,∀ z'∈desc x',z.Id≠z'.Id)∧ ∀ x∈v.Kids,∀ z∈desc x,z.Id≠v.Id:=by
 unfold idsOf at h;rw [iC,List.map_cons,List.nodup_cons] at h;have:∀ xs:List af,((xs.flatMap desc).map af.Id).Nodup→xs.Pairwise (fun x x'=>∀ z∈desc x,∀ z'∈desc x',z.Id≠z'.Id):=by
  intro xs;induction xs with
  | nil=>intro _;exact List.Pairwise.nil
  | cons x xs ih=>
   intro hn;rw [List.flatMap_cons,List.map_append,List.nodup_append] at hn;exact List.pairwise_cons.2 ⟨fun y hy z hz z' hz'=>hn.2.2 z.Id (List.mem_map_of_mem hz) z'.Id (List.mem_map_of_mem (List.mem_flatMap.2 ⟨y,hy,hz'⟩)),ih hn.2.1⟩
 exact ⟨this _ h.2,fun x hx z hz he=>h.1 (by rw [←he];exact List.mem_map_of_mem (List.mem_flatMap.2 ⟨x,hx,hz⟩))⟩
section
variable {a b:af} {mv:List (au×Bool)} {G F:af→TU} {W:MapT}
def HasW(b:af)(F:af→TU)(W:MapT):Prop:=∀ y∈desc b,(F y).State=1→(F y).Moved=true→mhas W y.Id=true∧mget W y.Id av=F y
theorem GX(h:HF a b mv)(hF:∀ u∈desc b,mf a b mv G F u)(hW:HasW b F W){x:af}(h2:x.Id∈idsOf b)(h3:mget mv x.Id false=true) :
  mhas W x.Id=true∧ ∃ y∈desc b,y.Id=x.Id∧mget W x.Id av=F y:=by
 obtain ⟨y,hy,hyi⟩:=xm h2;obtain ⟨hd,w,_,_,e⟩:=hF y hy;have s1:(F y).State=1:=by
  rw [e];exact if_neg (fun hc=>by rw [hyi,h3] at hc;exact absurd hc.2 (by decide))
 have s2:(F y).Moved=true:=by rw [e];show mget mv y.Id false=true;rw [hyi];exact h3
 obtain ⟨q1,q2⟩:=hW y hy s1 s2;rw [hyi] at q1 q2;exact ⟨q1,y,hy,hyi,q2⟩
theorem Dy(h:HF a b mv)(hG:∀ u∈desc a,nQ b G u)(hF:∀ u∈desc b,mf a b mv G F u)(hW:HasW b F W){x:af}(hx:x∈desc a)(hn:x.Id∈idsOf b→mget mv x.Id false=true) :
  (G x=plcF x.Id∧mhas W x.Id=true∧ ∃ y∈desc b,y.Id=x.Id∧mget W x.Id av=F y)∨(((G x).State=0∨((G x).State=2∧(G x).Moved=false))∧Rel a b G F x (G x)):=by
 obtain ⟨hd,w,_,_,e⟩:=hG x hx;by_cases hb:x.Id∈idsOf b
 ·obtain ⟨q1,q2⟩:=GX h hF hW hb (hn hb);exact .inl ⟨by rw [e,if_pos ((l5 h.nb).2 hb)],q1,q2⟩
 ·rw [if_neg (fun hc=>hb ((l5 h.nb).1 hc))] at e;exact .inr ⟨.inr ⟨by rw [e],by rw [e]⟩,.inr ⟨hb,rfl⟩⟩
theorem EZ(h:HF a b mv)(hG:∀ u∈desc a,nQ b G u)(hF:∀ u∈desc b,mf a b mv G F u)(hW:HasW b F W){v:af}(hv:v∈desc a)(hb:v.Id ∉ idsOf b):∀ xs:List af,(∀ x∈xs,x∈v.Kids)→KR a b G F W (xs.map G) xs
 | [],_=>rfl
 | x :: xs,hx=>by
  have hxk:=hx x List.mem_cons_self;have hxa:=iq hv x (dh hxk);refine .inr ⟨x,xs,rfl,EZ h hG hF hW hv hb xs (fun y hy=>hx y (List.mem_cons_of_mem _ hy)),Dy h hG hF hW hxa (fun hxb=>?_)⟩;cases hm:mget mv x.Id false with
  | true=>rfl
  | false=>
   exfalso;obtain ⟨y,hy,hyi⟩:=xm hxb;have hk:y.Kind≠0:=by
    rw [←h.kk x hxa y hy hyi.symm];exact (h.ua v hv).2.2.2 x hxk
   obtain ⟨u',hu',v',hv',_,q2,_,x',hx',q4⟩:=h.stay hy (by rw [hyi];exact List.mem_map_of_mem hxa) hk (by rw [hyi];exact hm);have e1:=(BO h.na hv' hv hx' hxk (q4.trans hyi)).1;subst e1;exact hb (by rw [q2];exact List.mem_map_of_mem hu')
theorem Dz(h:HF a b mv)(hG:∀ u∈desc a,nQ b G u)(hF:∀ u∈desc b,mf a b mv G F u)(hW:HasW b F W){u:af}(hu:u∈desc b)(hk:u.Id∈idsOf a) :
  ∀ al:List (Option af×Option af),(∀ e∈al,AlnAt (vOf a u).Kids u.Kids 0 0 (prF (selB (bkX a b mv)) (posK u) 0 (vOf a u).Kids) e)→KR a b G F W (al.map (kE G F)) (al.filterMap Prod.fst)
 | [],_=>rfl
 | e :: al,hA=>by
  have ih:=Dz h hG hF hW hu hk al (fun e he=>hA e (List.mem_cons_of_mem _ he));have h0:=hA e List.mem_cons_self;obtain ⟨v1,v2⟩:=ve h.na hk;obtain ⟨x,y⟩:=e;cases x with
  | none=>
   cases y with
   | none=>exact h0.elim
   | some y=>
    obtain ⟨j,_,hj,hq⟩:=h0;have hyk:=List.mem_of_getElem? hj;have hyb:=iq hu y (dh hyk);refine .inl ⟨?_,ih⟩;obtain ⟨hd,w,_,_,e⟩:=hF y hyb;show (F y).State=1;rw [e];refine if_neg (fun ⟨c1,c2⟩=>?_);have hya:=(l5 h.na).1 c1;obtain ⟨u',hu',v',hv',q1,q2,q3,x',hx',q4⟩:=h.stay hyb hya ((h.ub u hu).2.2.2 y hyk) c2;have e1:=(BO h.nb hu' hu q1 hyk rfl).1;subst e1;have e2:v'=vOf a u':=oF h.na hv' v1 (q2.trans v2.symm);rw [e2] at hx';obtain ⟨i,hi⟩:=List.getElem?_of_mem hx';have hs:selB (bkX a b mv) x'=true:=by
     unfold selB bkX;dsimp only;rw [q4,c2,(l5 h.nb).2 (List.mem_map_of_mem hyb)];rfl
    have hm:=BQ (f:=posK u') (sel:=selB (bkX a b mv)) (l:=(vOf a u').Kids) rfl (Nat.zero_le i) hi hs;refine hq _ hm ?_;have:=wG (h.wH hu') hj;unfold posK at this ⊢;rw [q4];exact this
  | some x=>
   cases y with
   | none=>
    obtain ⟨j,_,hj,hq⟩:=h0;have hxk:=List.mem_of_getElem? hj;have hxa:=iq v1 x (dh hxk);refine .inr ⟨x,al.filterMap Prod.fst,rfl,ih,Dy h hG hF hW hxa (fun hxb=>?_)⟩;cases hm:mget mv x.Id false with
    | true=>rfl
    | false=>
     exfalso;have hs:selB (bkX a b mv) x=true:=by
      unfold selB bkX;dsimp only;rw [hm,(l5 h.nb).2 hxb];rfl
     exact hq _ (BQ (f:=posK u) (sel:=selB (bkX a b mv)) (l:=(vOf a u).Kids) rfl (Nat.zero_le j) hj hs) rfl
   | some y=>
    obtain ⟨q,hq,hx,hy⟩:=h0;obtain ⟨x',hx',hs,hp⟩:=(yc (h.ris hu) q hq).2.2.2.2;rw [hx] at hx';cases hx';have hxk:=List.mem_of_getElem? hx;obtain ⟨i,y',g1,g2,g3⟩:=h.at hu hxk hs;rw [hp,g3,g1] at hy;cases hy;have hyb:=iq hu y (dh (List.mem_of_getElem? g1));refine .inr ⟨x,al.filterMap Prod.fst,rfl,ih,.inr ⟨.inl ?_,.inl ⟨y,hyb,g2,rfl⟩⟩⟩;obtain ⟨hd,w,_,_,e⟩:=hF y hyb;show (F y).State=0;rw [e];unfold selB bkX at hs;dsimp only at hs;rw [Bool.and_eq_true] at hs;refine if_pos ⟨(l5 h.na).2 (by rw [g2];exact List.mem_map_of_mem (iq v1 x (dh hxk))),?_⟩;rw [g2];simpa using hs.2
theorem AL{v:af}{t:TU}(hn:(idsOf v).Nodup)(hid:t.Id=v.Id)(hkd:t.Kind=v.Kind)(hw1:M.fP t.Head 1=some (mkW (v.Head.map aH.Text)))(hw2:M.fP t.Words 1=some (mkW (v.Words.map aH.Text)))
  (hlab:(if t.Was= [] then t.Label else t.Was)=v.Label) (hk:KR a b G F W t.Kids v.Kids) (hl:t.Kids.length≤100000)
  (hS:∀ x∈v.Kids,∀ t,Rel a b G F x t→∀ met:Met,(∀ z∈desc x,z≠x→mget met z.Id false=false)→∃ met',To (fun n=>M.dE n W met t) (stF x,W,met')∧Out x met met')
  (met:Met) (hm:∀ z∈desc v,z≠v→mget met z.Id false=false):∃ met',To (fun n=>M.dE n W met t) (stF v,W,met')∧Out v met met':=by
 obtain ⟨a1,a2⟩:=Eh hn;obtain ⟨met',q1,q2⟩:=zh t.Kids v.Kids (fun n=>M.dE n) ⟨v.Id,v.Kind,v.Label,mkW (v.Head.map aH.Text),mkW (v.Words.map aH.Text),[]⟩ met hk (by simpa using hl) (fun x hx=>Ai hn hx) a1 (fun x hx z hz=>hm z (oD hx hz) (fun e=>a2 x hx z hz (by rw [e]))) hS;refine ⟨met',To.succ ?_,fun i hi=>(q2 i hi).imp id fun ⟨x,hx,z,hz,he⟩=>⟨z,oD hx hz,fun e=>a2 x hx z hz (by rw [e]),he⟩⟩;simp only [M.dE];refine To.bindS hw1 (To.bindS hw2 (To.bind (a:=(⟨v.Id,v.Kind,v.Label,mkW (v.Head.map aH.Text),mkW (v.Words.map aH.Text),[]⟩:af)) ?_ (To.bind q1 (To.pure.of ?_))))
 ·by_cases hw:t.Was= []
  ·rw [if_pos hw] at hlab;exact To.neg (by simp [hw]) (To.pure.of (by rw [hid,hkd,hlab]))
  ·rw [if_neg hw] at hlab;exact To.pos (by simpa using hw) (To.pure.of (by rw [hid,hkd,hlab]))
 ·rw [qD];simp
theorem HF.old(h:HF a b mv)(hG:∀ u∈desc a,nQ b G u)(hF:∀ u∈desc b,mf a b mv G F u)(hW:HasW b F W):∀ v:af,v∈desc a→∀ t,Rel a b G F v t→∀ met:Met,(∀ z∈desc v,z≠v→mget met z.Id false=false)→
  ∃ met',To (fun n=>M.dE n W met t) (stF v,W,met')∧Out v met met':=by
 refine uind (P:=fun v=>v∈desc a→∀ t,Rel a b G F v t→∀ met:Met,(∀ z∈desc v,z≠v→mget met z.Id false=false)→∃ met',To (fun n=>M.dE n W met t) (stF v,W,met')∧Out v met met') ?_;intro v ih hv t hrel met hm;have hS:∀ x∈v.Kids,∀ t,Rel a b G F x t→∀ met:Met,(∀ z∈desc x,z≠x→mget met z.Id false=false)→∃ met',To (fun n=>M.dE n W met t) (stF x,W,met')∧Out x met met':=fun x hx=>ih x hx (iq hv x (dh hx));have hn:=rX h.na hv;have hkl:=l6 h.ca hv;have rv:=(h.ua v hv).1;rcases hrel with ⟨u,hu,hui,rfl⟩ | ⟨hb,rfl⟩
 ·have hk:u.Id∈idsOf a:=by rw [hui];exact List.mem_map_of_mem hv
  obtain ⟨v1,v2⟩:=ve h.na hk;have ev:vOf a u=v:=oF h.na v1 hv (v2.trans hui);have hA:=Dz h hG hF hW hu hk _ (u6 (h.ris hu));rw [EU (h.ris hu)] at hA;have hln:=wF (by omega) (by omega) (h.ris hu);obtain ⟨hd,w,q1,q2,e⟩:=hF u hu;have ru:=(h.ub u hu).1;rw [ev] at q1 q2 hA hln;have w1:=nR 1 hd (by have:=q1.2.2;have:=rv.1;have:=ru.1;omega);have w2:=nR 1 w (by have:=q2.2.2;have:=rv.2;have:=ru.2;omega);rw [q1.1] at w1;rw [q2.1] at w2;have hku:=l6 h.cb hu;refine AL hn (by rw [e];exact hui) (by rw [e];exact (h.kk v hv u hu hui.symm).symm) (by rw [e];exact w1) (by rw [e];exact w2) ?_ (by rw [e];dsimp only;rw [ev];exact hA) (by rw [e];dsimp only;rw [ev,List.length_map];omega) hS met hm;rw [e];dsimp only;rw [ev];have hmh:mhas (allU a) u.Id=true:=(l5 h.na).2 hk;by_cases hl:v.Label=u.Label
  ·rw [if_neg (c:=mhas (allU a) u.Id=true∧v.Label≠u.Label) (fun hc=>hc.2 hl),if_pos rfl,hl]
  ·rw [if_pos (c:=mhas (allU a) u.Id=true∧v.Label≠u.Label) ⟨hmh,hl⟩];refine if_neg (fun h0=>hl ?_);have hv0:v.Kind=0:=by
    by_cases hv0:v.Kind=0
    ·exact hv0
    ·exact absurd h0 ((h.ua v hv).2.2.1 hv0)
   rw [h0,(h.ub u hu).2.1 ((h.kk v hv u hu hui.symm).symm.trans hv0)]
 ·have hkr:=EZ h hG hF hW hv hb v.Kids (fun x hx=>hx);obtain ⟨hd,w,q1,q2,e⟩:=hG v hv;rw [if_neg (fun hc=>hb ((l5 h.nb).1 hc))] at e;have w1:=nR 1 hd (by have h9:=q1.2.2;have:=rv.1;simp only [List.length_nil] at h9;omega);have w2:=nR 1 w (by have h9:=q2.2.2;have:=rv.2;simp only [List.length_nil] at h9;omega);rw [q1.1] at w1;rw [q2.1] at w2;exact AL hn (by rw [e]) (by rw [e]) (by rw [e];exact w1) (by rw [e];exact w2) (by rw [e];exact if_pos rfl) (by rw [e];exact hkr) (by rw [e];simp;omega) hS met hm
theorem HF.Old(h:HF a b mv)(hG:∀ u∈desc a,nQ b G u)(hF:∀ u∈desc b,mf a b mv G F u):To (fun n=>M.om n (F b)) (stF a):=by
 obtain ⟨W,t1,p1,_,q1⟩:=Dx h hG hF b (fZ b) [] (fun i hi=>by simp [mhas] at hi);have hW:HasW b F W:=fun y hy s1 s2=>by
  have hm:=q1 y hy s1 s2;obtain ⟨u,hu,hui,hg⟩:=p1 y.Id hm;have:=oF h.nb hu hy hui;subst this;exact ⟨hm,hg⟩
 obtain ⟨met',q2,_⟩:=h.old hG hF hW a (fZ a) (F b) (.inl ⟨b,fZ b,h.zb.trans h.za.symm,rfl⟩) [] (fun z hz _=>rfl);simp only [M.om];refine To.bind t1 (To.bind q2 ?_);exact To.pure
end
end Go.Proofs.YtalogjkalmkpjaaGreatDoor
