import Derived.Test.YtobcmdhemlennaaGreatDoorDec10
import Derived.Lib.ConvBytes
import Derived.Laws.RangeString
import Derived.Laws.RangeAny
/-
  Regions whose order is drawn, with several operations that use resources, one behind the other.
-/
set_option linter.unusedVariables false
set_option linter.unusedSimpArgs false
namespace Go.Dec
open Go
variable {P:Program}{base:Env}{es:List Nat}{l l0:List Oper}{us:List Nat}
abbrev Val:=Nat->Tok
def upd(c:Val)(m:Nat)(k:Tok):Val:=λi=>match Nat.beq i m with
 | true=>k
 | false=>c i
def bk(k:Tok):Nat:=match k with
 | none=>0
 | some p=>p.1
section
variable {P:Program} {env:Env} {res:Rs}
theorem OpR.via{o:Oper}{ρ:Type}{A:ρ->Asn}{out:ρ->Rs}(f:Tok->ρ)(g:ρ->Tok)(hfg:∀ x,f (g x)=x)(h:OpR P o env res us A out):OpR P o env res us (λk=>A (f k)) (λk=>out (f k)):=
 λa gh K Q hc hd hK=>h a gh K Q hc hd λx v g' e h1 h2 h3 h4=>hK (g x) v g' e (by dsimp only;rw [hfg];exact h1) (by dsimp only;rw [hfg];exact h2) (by dsimp only;rw [hfg];exact h3) (by dsimp only;rw [hfg];exact h4)
theorem OpR.viaB{o:Oper}{A:Nat->Asn}{out:Nat->Rs}(h:OpR P o env res us A out):OpR P o env res us (λk:Tok=>A (bk k)) (λk=>out (bk k)):=OpR.via bk (λb=>some (b,0)) (λ_=>rfl) h
theorem OpR.viaU{o:Oper}{A:Unit->Asn}{out:Unit->Rs}(h:OpR P o env res us A out):OpR P o env res us (λ_:Tok=>A ()) (λ_=>out ()):=OpR.via (λ_=>()) (λ_=>none) (λ_=>rfl) h
end
def mOne(N:Nat)(l:List Oper)(i:Nat)(o:Oper)(pre reads:List Nat):Bool:=
 (match o.dst with
  | some d=>Nat.blt d N
  | none=>true) &&
 (o.after.toList.all (λx=>Nat.blt x.on i || !Region.binds .any x) &&
 (pre.all (λj=>waits o j) &&
 (l.all (λk=>match k.dst with
  | some s=>!memB s reads || waits k i
  | none=>true) &&
 (match o.guard with
  | some (j,_)=>memB j pre
  | none=>true))))
def mChk(N:Nat)(l:List Oper):Nat->List Oper->List (List Nat×List Nat)->Bool
 | _,[],[]=>true
 | i,o :: os,p :: ps=>mOne N l i o p.1 p.2 && mChk N l (i+1) os ps
 | _,_,_=>false
theorem ED{N:Nat}:∀ {i:Nat} {l:List Oper} {ps:List (List Nat×List Nat)},mChk N l0 i l ps=true->l.length=ps.length/\ ∀ (j:Nat) o p,l[j]? =some o->ps[j]? =some p->mOne N l0 (i+j) o p.1 p.2=true
 | _,[],[],_=>⟨rfl,λj o p h=>by simp at h⟩
 | _,[],_ :: _,h=>by cases h
 | _,_ :: _,[],h=>by cases h
 | i,o :: l,p :: ps,h=>by
  unfold mChk at h;rw [Bool.and_eq_true] at h;obtain ⟨h1,h2⟩:=ED h.2;refine ⟨by simp [h1],λj o' p' hj hp=>?_⟩;cases j with
  | zero=>simp at hj hp;subst hj hp;exact h.1
  | succ j=>simp at hj hp;have:=h2 j o' p' hj hp;rwa [show i+1+j=i+(j+1) by omega] at this
def depAt(D:List (List Bool))(k m:Nat):Bool:=(D.getD k []).getD m false
def depRow(l:List Oper)(D:List (List Bool))(es:List Nat)(k:Nat)(o:Oper):Nat->List Bool->Bool
 | _,[]=>true
 | m,b :: bs=>(!b || (Nat.beq (es.getD m 0) k && Nat.blt m es.length) || (List.range l.length).any (λj=>waits o j && depAt D j m)) && depRow l D es k o (m+1) bs
def depChk(l0:List Oper)(D0:List (List Bool))(es:List Nat):Nat->List Oper->List (List Bool)->Bool
 | _,[],[]=>true
 | k,o :: l,r :: D=>depRow l0 D0 es k o 0 r && depChk l0 D0 es (k+1) l D
 | _,_,_=>false
theorem uO{D:List (List Bool)}{k:Nat}{o:Oper}:∀ {m:Nat} {r:List Bool},depRow l D es k o m r=true->∀ (j:Nat),r.getD j false=true->(es.getD (m+j) 0=k/\m+j<es.length)\/ ∃ q,q<l.length/\waits o q=true/\depAt D q (m+j)=true
 | _,[],_,j,h=>by simp at h
 | m,b :: bs,h,j,hj=>by
  unfold depRow at h;rw [Bool.and_eq_true] at h;cases j with
  | zero=>
   simp only [List.getD_cons_zero] at hj;subst hj;have h1:=h.1;simp only [Bool.not_true,Bool.false_or,Bool.or_eq_true,Bool.and_eq_true,List.any_eq_true,List.mem_range] at h1;rcases h1 with ⟨h2,h3⟩ | ⟨q,h2,h3⟩
   .exact .inl ⟨Nat.eq_of_beq_eq_true h2,by simpa [Nat.blt_eq] using h3⟩
   .exact .inr ⟨q,h2,h3⟩
  | succ j=>
   have:=uO h.2 j (by simpa using hj);rwa [show m+1+j=m+(j+1) by omega] at this
theorem uP{D0:List (List Bool)}:∀ {k:Nat} {l:List Oper} {D:List (List Bool)},depChk l0 D0 es k l D=true->∀ (i:Nat) o,l[i]? =some o->∃ r,D[i]? =some r/\depRow l0 D0 es (k+i) o 0 r=true
 | _,[],_,_,i,o,h=>by simp at h
 | _,_ :: _,[],h,_,_,_=>by cases h
 | k,o :: l,r :: D,h,i,o',hi=>by
  unfold depChk at h;rw [Bool.and_eq_true] at h;cases i with
  | zero=>simp at hi;subst hi;exact ⟨r,rfl,h.1⟩
  | succ i=>
   simp at hi;obtain ⟨r',h1,h2⟩:=uP h.2 i o' hi;exact ⟨r',by simpa using h1,by rwa [show k+1+i=k+(i+1) by omega] at h2⟩
def DepOk:List (DA Val)->List (List Bool)->Prop
 | [],[]=>True
 | A :: As,r :: D=>(∀ m,r.getD m false=false->∀ c t,A.at (upd c m t)=A.at c)/\DepOk As D
 | _,_=>False
theorem BJ:∀ {As:List (DA Val)} {D:List (List Bool)},DepOk As D->∀ (k:Nat) A,As[k]? =some A->∀ m,depAt D k m=false->∀ c t,A.at (upd c m t)=A.at c
 | [],_,_,k,A,h=>by simp at h
 | _ :: _,[],h,_,_,_=>by exact h.elim
 | A :: As,r :: D,h,k,A',hk=>by
  cases k with
  | zero=>simp at hk;subst hk;intro m hm;exact h.1 m (by simpa [depAt] using hm)
  | succ k=>
   simp at hk;intro m hm;exact BJ h.2 k A' hk m (by simpa [depAt] using hm)
def mayAt(l:List Oper)(es:List Nat)(k m:Nat):Bool:=
 !((List.range es.length).any λj=>match l[k]?,l[es.getD j 0]? with
  | some ok,some oe=>(Nat.ble m j && waits ok (es.getD j 0)) || (Nat.blt j m && waits oe k)
  | _,_=>false)
def MOps(P:Program)(l:List Oper)(As:List (DA Val))(base:Env)(es:List Nat)(Rm:Nat->Val->Rs):Nat->List Oper->List (DA Val)->List (List Nat×List Nat)->Prop
 | i,o :: os,A :: Bs,p :: ps=>(memB i es=true\/ ∃ rk:Val->Rs,(∀ m,Nat.ble m es.length=true->mayAt l es i m=true->∀ c,RSub (rk c) (Rm m c))/\ ∀ c,DObl P l o (preEnv l As c p.1++readEnv base p.2) (rk c) (A.at c))/\MOps P l As base es Rm (i+1) os Bs ps
 | _,_,_,_=>True
theorem mo{As:List (DA Val)}{Rm:Nat->Val->Rs}{i:Nat}{o:Oper}{p:List Nat×List Nat}{A:DA Val}(h:∀ c,DObl P l o (preEnv l As c p.1++readEnv base p.2) [] (A.at c)) :
  memB i es=true\/ ∃ rk:Val->Rs,(∀ m,Nat.ble m es.length=true->mayAt l es i m=true->∀ c,RSub (rk c) (Rm m c))/\ ∀ c,DObl P l o (preEnv l As c p.1++readEnv base p.2) (rk c) (A.at c):=
 .inr ⟨λ_=>[],λ_ _ _ _=>trivial,h⟩
theorem Kj{As0:List (DA Val)}{Rm:Nat->Val->Rs}:∀ {i:Nat} {l:List Oper} {As:List (DA Val)} {ps:List (List Nat×List Nat)},MOps P l0 As0 base es Rm i l As ps->
  ∀ (j:Nat) o A p,l[j]? =some o->As[j]? =some A->ps[j]? =some p->¬ (i+j)∈es->∃ rk:Val->Rs,(∀ m,Nat.ble m es.length=true->mayAt l0 es (i+j) m=true->∀ c,RSub (rk c) (Rm m c))/\ ∀ c,DObl P l0 o (preEnv l0 As0 c p.1++readEnv base p.2) (rk c) (A.at c)
 | i,o :: l,A :: As,p :: ps,h,j,o',A',p',h1,h2,h3,h4=>by
  cases j with
  | zero=>
   simp at h1 h2 h3;subst h1 h2 h3;exact h.1.resolve_left λhb=>h4 (gG.1 hb)
  | succ j=>
   simp at h1 h2 h3;have:=Kj h.2 j o' A' p' h1 h2 h3 (by rwa [show i+1+j=i+(j+1) by omega]);rwa [show i+1+j=i+(j+1) by omega] at this
 | _,[],_,_,_,j,_,_,_,h,_,_,_=>by simp at h
 | _,_ :: _,[],_,_,j,_,_,_,_,h,_,_=>by simp at h
 | _,_ :: _,_ :: _,[],_,j,_,_,_,_,_,h,_=>by simp at h
def MEff(P:Program)(l:List Oper)(As:List (DA Val))(ps:List (List Nat×List Nat))(base:Env)(Rm:Nat->Val->Rs):Nat->List Nat->Prop
 | _,[]=>True
 | m,e :: es=>(∃ (o:Oper) (p:List Nat×List Nat) (A:DA Val) (us:List Nat) (out:Val->Rs),l[e]? =some o/\ps[e]? =some p/\As[e]? =some A/\o.guard=none/\
   (∀ c,Rm (m+1) c=out c++(Rm m c).drop us)/\(∀ c k,Rm m (upd c m k)=Rm m c)/\
   ∀ c,OpR P o (preEnv l As c p.1++readEnv base p.2) (Rm m c) us (λk=>A.at (upd c m k)) (λk=>out (upd c m k)))/\MEff P l As ps base Rm (m+1) es
theorem EE{As:List (DA Val)}{ps:List (List Nat×List Nat)}{Rm:Nat->Val->Rs}:∀ {m:Nat} {es:List Nat},MEff P l As ps base Rm m es->∀ (j e:Nat),es[j]? =some e->
  ∃ (o:Oper) (p:List Nat×List Nat) (A:DA Val) (us:List Nat) (out:Val->Rs),l[e]? =some o/\ps[e]? =some p/\As[e]? =some A/\o.guard=none/\
   (∀ c,Rm (m+j+1) c=out c++(Rm (m+j) c).drop us)/\(∀ c k,Rm (m+j) (upd c (m+j) k)=Rm (m+j) c)/\
   ∀ c,OpR P o (preEnv l As c p.1++readEnv base p.2) (Rm (m+j) c) us (λk=>A.at (upd c (m+j) k)) (λk=>out (upd c (m+j) k))
 | _,[],_,j,e,h=>by simp at h
 | m,e :: es,h,j,e',hj=>by
  cases j with
  | zero=>simp at hj;subst hj;exact h.1
  | succ j=>
   simp at hj;have:=EE h.2 j e' hj;rwa [show m+1+j=m+(j+1) by omega] at this
def gB(Q:Nat->Prop):Nat->Prop
 | 0=>Q 0
 | M+1=>gB Q M/\Q (M+1)
theorem gB.at{Q:Nat->Prop}:∀ {M:Nat},gB Q M->∀ m,Nat.ble m M=true->Q m
 | 0,h,m,hm=>by
  have:m=0:=by have:=Nat.le_of_ble_eq_true hm;omega
  subst this;exact h
 | M+1,h,m,hm=>by
  by_cases e:m=M+1
  .subst e;exact h.2
  .exact gB.at h.1 m (Nat.ble_eq_true_of_le (by have:=Nat.le_of_ble_eq_true hm;omega))
theorem pX{r:List Bool}{j m:Nat}(hj:r.getD j false=true)(hm:r.getD m false=false)(c:Val)(t:Tok):upd c m t j=c j:=by
 unfold upd;cases hb:Nat.beq j m with
 | false=>rfl
 | true=>
  have:=Nat.eq_of_beq_eq_true hb;subst this;rw [hj] at hm;cases hm
def esChk(l:List Oper):List Nat->Bool
 | []=>true
 | [e]=>Nat.blt e l.length
 | e :: f :: es=>(match l[f]? with
  | some o=>waits o e
  | none=>false) && esChk l (f :: es)
theorem BK:∀ {es:List Nat},esChk l es=true->∀ (j e f:Nat),es[j]? =some e->es[j+1]? =some f->∃ o,l[f]? =some o/\waits o e=true
 | [],_,j,e,f,h,_=>by simp at h
 | [_],_,j,e,f,_,h=>by simp at h
 | e :: f :: es,h,j,e',f',h1,h2=>by
  unfold esChk at h;rw [Bool.and_eq_true] at h;cases j with
  | zero=>
   simp at h1 h2;subst h1 h2;have h3:=h.1;split at h3
   .rename_i o ho;exact ⟨o,ho,h3⟩
   .cases h3
  | succ j=>exact BK h.2 j e' f' (by simpa using h1) (by simpa using h2)
section
variable {P:Program} {N:Nat} {g0:G} {T0:Nat->Prop} {ks:List KF} {B:Exit->Act->World->Prop} {env:Env} {res:Rs}
structure MInv (N:Nat) (l:List Oper) (As:List (DA Val)) (es:List Nat) (res:Rs) (Rm:Nat->Val->Rs) (a0:Act) (g1:G) (listed:Array Bool) (a:Act) (g:G):Prop where
 size:listed.size=l.length
 sz:a.tmps.size=N
 dfr:a.defers= []
 closed:∀ (k:Nat) o,l[k]? =some o->listed.getD k false=true->∀ j,waits o j=true->listed.getD j false=true
 old:∀ s,(∀ (k:Nat) o,l[k]? =some o->listed.getD k false=true->o.dst≠some s)->a.tmps.getD s undef=a0.tmps.getD s undef
 here:∃ m c,m<=es.length/\(∀ j e,es[j]? =some e->(listed.getD e false=true ↔ j<m))/\Ext res.blks g1 g/\(Rm m c).all g/\(Rm m c).dis/\(∀ b,(Rm m c).blks b->res.blks b\/g1.w.heap.size<=b)/\
  ∀ (k:Nat) o A,l[k]? =some o->As[k]? =some A->listed.getD k false=true->∀ d,o.dst=some d->(A.at c).holds (a.tmps.getD d undef) g
theorem MInv.put{As:List (DA Val)}{Rm:Nat->Val->Rs}{a0:Act}{g1:G}{listed:Array Bool}{a:Act}{g g':G}{i:Nat}{o:Oper}{v:Value}
  (h:MInv N l As es res Rm a0 g1 listed a g) (hi:i<l.length) (ho:l[i]? =some o) (hd:dstsD l=true) (hN:∀ d,o.dst=some d->d<N) (hnl:listed.getD i false=false) (hw:∀ j,waits o j=true->listed.getD j false=true)
  (hat:∃ m c,m<=es.length/\(∀ j e,es[j]? =some e->((e=i\/listed.getD e false=true) ↔ j<m))/\Ext res.blks g1 g'/\(Rm m c).all g'/\(Rm m c).dis/\(∀ b,(Rm m c).blks b->res.blks b\/g1.w.heap.size<=b)/\
   (∃ A,As[i]? =some A/\(A.at c).holds v g')/\ ∀ (k:Nat) q A,l[k]? =some q->As[k]? =some A->listed.getD k false=true->∀ d,q.dst=some d->(A.at c).holds (a.tmps.getD d undef) g') :
  MInv N l As es res Rm a0 g1 (listed.setIfInBounds i true) (a.put o.dst v) g':=by
 have hsz:i<listed.size:=by rw [h.size];exact hi
 have hput:∀ (k:Nat) p d,l[k]? =some p->listed.getD k false=true->p.dst=some d->(a.put o.dst v).tmps.getD d undef=a.tmps.getD d undef:=by
  intro k p d hk hl hp;cases hod:o.dst with
  | none=>rfl
  | some d'=>
   refine mr λhdd=>?_;subst hdd;have:=ww hd i k o p d' ho hk hod hp;subst this;rw [hnl] at hl;cases hl
 have hown:∀ d,o.dst=some d->(a.put o.dst v).tmps.getD d undef=v:=by
  intro d hod;rw [hod];exact ry (by rw [h.sz];exact hN d hod)
 refine ⟨by simp [h.size],by cases hod:o.dst<;> simp [Act.put,h.sz],by cases hod:o.dst<;> exact h.dfr,?_,?_,?_⟩
 .intro k p hk hl j hj;rw [getD_set_true hsz] at hl ⊢;rcases hl with rfl | hl
  .rw [ho] at hk;cases hk;exact .inr (hw j hj)
  .exact .inr (h.closed k p hk hl j hj)
 .intro s hs;have hne:o.dst≠some s:=hs i o ho ((getD_set_true hsz).2 (.inl rfl));have h2:(a.put o.dst v).tmps.getD s undef=a.tmps.getD s undef:=by
   cases hod:o.dst with
   | none=>rfl
   | some d'=>exact mr λhdd=>hne (by rw [hod,hdd])
  rw [h2];exact h.old s λk p hk hl=>hs k p hk ((getD_set_true hsz).2 (.inr hl))
 .obtain ⟨m,c,h1,h2,h3,h4,h5,h6,⟨A0,h7,h8⟩,h9⟩:=hat;refine ⟨m,c,h1,λj e he=>by rw [getD_set_true hsz];exact h2 j e he,h3,h4,h5,h6,λk p C hk hC hl d hdd=>?_⟩;rcases (getD_set_true hsz).1 hl with rfl | hl'
  .rw [ho] at hk;cases hk;rw [h7] at hC;cases hC;rw [hown d hdd];exact h8
  .rw [hput k p d hk hl' hdd];exact h9 k p C hk hC hl' d hdd
theorem W.weakR{c:Code}{res':Rs}(hr:RSub res' res)(h:W P N g0 T0 c ks B env res'):W P N g0 T0 c ks B env res:=
 λa g hst=>h a g ⟨hst.sz,hst.dfr,hst.henv,λx hx=>hst.hres x (hr.mem x hx),hr.dis hst.dis,λb ⟨x,hx,hb⟩=>hst.own b ⟨x,hr.mem x hx,hb⟩,hst.ext⟩
theorem WA.drawM(As:List (DA Val))(ps:List (List Nat×List Nat))(es:List Nat)(D:List (List Bool))(Rm:Nat->Val->Rs)(c0:Val)(hm:P.follows .mixedOrders=true)
  (hchk:mChk N l 0 l ps=true) (hdst:dstsD l=true) (hlen:As.length=l.length) (hes:esChk l es=true) (hdc:depChk l D es 0 l D=true) (hdep:DepOk As D) (hR0:Rm 0 c0=res)
  (hops:MOps P l As env es Rm 0 l As ps) (heff:MEff P l As ps env Rm 0 es)
  (k:∀ c,WN P N g0 T0 ks B (outEnv c l As++env) (Rm es.length c)):WA P N g0 T0 l ks B env res:=by
 intro a0 ga hst;obtain ⟨hlps,hone⟩:=ED hchk;have hone':∀ (i:Nat) o p,l[i]? =some o->ps[i]? =some p->mOne N l i o p.1 p.2=true:=λi o p h1 h2=>by have:=hone i o p h1 h2;rwa [Nat.zero_add] at this
 let g1:G:=ga.drew;have e01:Ext No ga g1:=Ext.drew No ga;have hafter:∀ (i:Nat) o,l[i]? =some o->∀ j,waits o j=true->j<i:=by
  intro i o ho j hj;obtain ⟨p,hp⟩:∃ p,ps[i]? =some p:=⟨_,List.getElem?_eq_getElem (by have:=(List.getElem?_eq_some_iff.1 ho).1;omega)⟩
  have hch:=hone' i o p ho hp;simp only [mOne,Bool.and_eq_true] at hch;obtain ⟨x,hx,rfl,hb⟩:=uM.1 hj;have:=List.all_eq_true.1 hch.2.1 x (by simpa using hx);rw [hb] at this;simpa [Nat.blt_eq] using this
 -- what hangs on a choice comes behind it
 have hbehind:∀ listed a g,MInv N l As es res Rm a0 g1 listed a g->∀ (n kk:Nat),kk<=n->∀ o,l[kk]? =some o->listed.getD kk false=true->∀ m,depAt D kk m=true->∃ e,es[m]? =some e/\listed.getD e false=true:=by
  intro listed a g hinv n;induction n with
  | zero=>
   intro kk hk o ho hl m hd;obtain ⟨r,hr,hrow⟩:=uP hdc kk o ho;have hr2:r.getD m false=true:=by simpa [depAt,List.getD,hr] using hd
   rcases uO hrow m hr2 with ⟨h1,h2⟩ | ⟨q,_,h2,_⟩
   .rw [Nat.zero_add] at h1 h2;refine ⟨es[m],List.getElem?_eq_getElem h2,?_⟩;have:es.getD m 0=es[m]:=by simp [List.getD,h2]
    rw [<-this,h1,Nat.zero_add];exact hl
   .have:=hafter kk o ho q h2;omega
  | succ n ih=>
   intro kk hk o ho hl m hd;obtain ⟨r,hr,hrow⟩:=uP hdc kk o ho;have hr2:r.getD m false=true:=by simpa [depAt,List.getD,hr] using hd
   rcases uO hrow m hr2 with ⟨h1,h2⟩ | ⟨q,h1,h2,h3⟩
   .rw [Nat.zero_add] at h1 h2;refine ⟨es[m],List.getElem?_eq_getElem h2,?_⟩;have:es.getD m 0=es[m]:=by simp [List.getD,h2]
    rw [<-this,h1,Nat.zero_add];exact hl
   .have hq:=hafter kk o ho q h2;rw [Nat.zero_add] at h3;exact ih q (by omega) l[q] (List.getElem?_eq_getElem h1) (hinv.closed kk o ho hl q h2) m h3
 have hctx:∀ listed a g c (i:Nat) o p,MInv N l As es res Rm a0 g1 listed a g->l[i]? =some o->ps[i]? =some p->listed.getD i false=false->(∀ j,waits o j=true->listed.getD j false=true)->(∃ T,Ext T g1 g)->
   (∀ (k:Nat) q A,l[k]? =some q->As[k]? =some A->listed.getD k false=true->∀ d,q.dst=some d->(A.at c).holds (a.tmps.getD d undef) g)->
   ∀ s C,look s (preEnv l As c p.1++readEnv env p.2)=some C->C.holds (a.tmps.getD s undef) g:=by
  intro listed a g c i o p hinv ho hp hnl hw ⟨T,hext⟩ hvals s C hC;have hch:=hone' i o p ho hp;simp only [mOne,Bool.and_eq_true] at hch;obtain ⟨_,_,h3,h4,_⟩:=hch;rcases List.mem_append.1 (BD hC) with h | h
  .obtain ⟨j,q,A,hj,hq,hA,hd,rfl⟩:=qf h;exact hvals j q A hq hA (hw j (List.all_eq_true.1 h3 j hj)) s hd
  .obtain ⟨hs,hlk⟩:=oI h;have hold:=hinv.old s λkk q hq hl hqd=>by
    have h5:=List.all_eq_true.1 h4 q (List.mem_of_getElem? hq);rw [hqd] at h5;have h6:memB s p.2=true:=gG.2 hs;simp only [h6,Bool.not_true,Bool.false_or] at h5;have:=hinv.closed kk q hq hl i h5;rw [hnl] at this;cases this
   rw [hold];exact C.mono hext (C.mono e01 (hst.henv s C hlk))
 have key:∀ fuel listed a g,MInv N l As es res Rm a0 g1 listed a g->undone listed l.length=fuel->wpAny P .any l.toArray (KF.sem P ks B) fuel listed a g.w:=by
  intro fuel;induction fuel with
  | zero=>
   intro listed a g hinv hu;have hall:=wy hu;refine ⟨?_,?_⟩
   .rw [List.eq_nil_iff_forall_not_mem];intro i hi;obtain ⟨h1,h2,_⟩:=sI.1 hi;have h3:=hall i h1;have hsz:i<listed.size:=by rw [hinv.size];exact h1
    simp [Array.getD,hsz] at h2 h3;rw [h2] at h3;cases h3
   .obtain ⟨m,c,h1,h2,hext,h4,h5,h6,h7⟩:=hinv.here;have hmM:m=es.length:=by
     rcases Nat.lt_or_ge m es.length with hlt | hge
     .exfalso;have he:=List.getElem?_eq_getElem hlt;obtain ⟨o,p,A,us,out,q1,_⟩:=EE heff m _ he;have:=(h2 m _ he).1 (hall _ (List.getElem?_eq_some_iff.1 q1).1);omega
     .omega
    subst hmM;have hga:Ext res.blks ga g:=(e01.no).trans hext (λ_ _ h=>h);refine k c a g ⟨hinv.sz,hinv.dfr,λs C hC=>?_,h4,h5,λb hb=>?_,?_⟩
    .rcases wu hC with h | ⟨k1,k2⟩
     .obtain ⟨i,o,A,hi,hA,hd,rfl⟩:=qU h;exact h7 i o A hi hA (hall i (List.getElem?_eq_some_iff.1 hi).1) s hd
     .have hold:=hinv.old s λkk q hq _ hqd=>by
       have hkl:=(List.getElem?_eq_some_iff.1 hq).1;obtain ⟨A,hA⟩:∃ A,As[kk]? =some A:=⟨_,List.getElem?_eq_getElem (by rw [hlen];exact hkl)⟩
       exact k1 _ (sW hq hA hqd)
      rw [hold];exact C.mono hga (hst.henv s C k2)
    .rcases h6 b hb with h | h
     .exact hst.own b h
     .exact .inl (Nat.le_trans hst.ext.size h)
    .refine hst.ext.trans hga (λb hb hT=>?_);rcases hst.own b hT with h1 | h1
     .omega
     .exact h1
  | succ fuel ih=>
   intro listed a g hinv hu;refine ⟨λhr=>?_,λi hi=>?_⟩
   .exfalso;obtain ⟨i,h1,h2,h3⟩:=BG (listed:=listed) (n:=l.length) (by omega);have:i∈Region.ready .any l.toArray listed:=by
     refine sI.2 ⟨h1,?_,l[i],List.getElem?_eq_getElem h1,λj hj=>h3 j (hafter i _ (List.getElem?_eq_getElem h1) j hj)⟩;have hsz:i<listed.size:=by rw [hinv.size];exact h1
     simp [Array.getD,hsz] at h2 ⊢;exact h2
    rw [hr] at this;cases this
   .obtain ⟨hil,hnl',o,ho,hw⟩:=sI.1 hi;have hsz:i<listed.size:=by rw [hinv.size];exact hil
    have hnl:listed.getD i false=false:=by
     simp [Array.getD,hsz] at hnl' ⊢;exact hnl'
    obtain ⟨p,hp⟩:∃ p,ps[i]? =some p:=⟨_,List.getElem?_eq_getElem (by omega)⟩
    obtain ⟨A,hA⟩:∃ A,As[i]? =some A:=⟨_,List.getElem?_eq_getElem (by omega)⟩
    have hch:=hone' i o p ho hp;simp only [mOne,Bool.and_eq_true] at hch;obtain ⟨hc1,_,hc3,_,hc5⟩:=hch;have hN:∀ d,o.dst=some d->d<N:=λd hd=>by rw [hd] at hc1;simpa [Nat.blt_eq] using hc1
    have hund:undone (listed.setIfInBounds i true) l.length=fuel:=by have:=BF hsz hnl l.length hil;omega
    obtain ⟨m,c,hm1,hm2,hext,hRa,hRd,hRb,hvals⟩:=hinv.here;have hcx0:=hctx listed a g c i o p hinv ho hp hnl hw ⟨_,hext⟩ hvals;unfold wpOp;simp only [List.getElem?_toArray,ho];by_cases hie:i∈es
    . -- an effect
     obtain ⟨j,hj⟩:=List.getElem?_of_mem hie;have hjm:j=m:=by
      have h1:¬ j<m:=λh=>by
       have:=(hm2 j i hj).2 h;rw [hnl] at this;cases this
      rcases Nat.lt_or_ge m j with h2 | h2
      .exfalso;obtain ⟨j',rfl⟩:∃ j',j=j'+1:=⟨j-1,by omega⟩
       have hj':=(List.getElem?_eq_some_iff.1 hj).1;have he':=List.getElem?_eq_getElem (show j'< es.length by omega);obtain ⟨o',ho',hwt⟩:=BK hes j' _ i he' hj;rw [ho] at ho';cases ho';have:=(hm2 j' _ he').1 (hw _ hwt);omega
      .omega
     subst hjm;obtain ⟨o',p',A',us,out,q1,q2,q3,q4,q5,q6,q7⟩:=EE heff j i hj;rw [ho] at q1;cases q1;rw [hp] at q2;cases q2;rw [Nat.zero_add] at q5 q6 q7;rw [if_pos (by simp [Region.wanted,q4])];refine .inl (q7 c a g _ _ ⟨hcx0,hRa⟩ hRd λt v g' he hv r1 r2 r3=>?_);have hpick:∀ b,((Rm j c).pick us).blks b->(Rm j c).blks b:=λb ⟨y,hy,hb⟩=>⟨y,(List.mem_filter.1 hy).1,hb⟩
     have hext':Ext res.blks g1 g':=hext.trans he (λb hb hT=>by
      rcases hRb b (hpick b hT) with h | h
      .exact h
      .omega)
     have hjl:=(List.getElem?_eq_some_iff.1 hj).1;refine ih _ _ _ (hinv.put hil ho hdst hN hnl hw ⟨j+1,upd c j t,by omega,λj2 e2 he2=>?_,hext',?_,?_,?_,⟨A',q3,hv⟩,λkk q C hq hC hl d hd=>?_⟩) hund
     .rw [hm2 j2 e2 he2];constructor
      .rintro (h | h)
       .subst h;rcases Nat.lt_trichotomy j2 j with h3 | h3 | h3
        .omega
        .omega
        .exfalso
         -- a later place of the list holds the same operation
         obtain ⟨j',rfl⟩:∃ j',j2=j'+1:=⟨j2-1,by omega⟩
         have hj2:=(List.getElem?_eq_some_iff.1 he2).1;have he':=List.getElem?_eq_getElem (show j'< es.length by omega);obtain ⟨o',ho',hwt⟩:=BK hes j' _ e2 he' he2;rw [ho] at ho';cases ho';have:=(hm2 j' _ he').1 (hw _ hwt);omega
       .omega
      .intro h;rcases Nat.lt_or_ge j2 j with h3 | h3
       .exact .inr h3
       .have:j2=j:=by omega
        subst this;rw [hj] at he2;exact .inl (Option.some.inj he2).symm
     .rw [q5,q6];intro y hy;rcases List.mem_append.1 hy with hy | hy
      .exact r1 y hy
      .exact y.2.stay he (λb hb hT=>hRd.split us b ⟨y,hy,hb⟩ hT) (hRa y (List.mem_filter.1 hy).1)
     .rw [q5,q6];refine List.pairwise_append.2 ⟨r2,hRd.filter _,λy hy z hz b hyb hzb=>?_⟩;rcases r3 b ⟨y,hy,hyb⟩ with hp | hp
      .exact hRd.split us b ⟨z,hz,hzb⟩ hp
      .have:=z.2.lt (hRa z (List.mem_filter.1 hz).1) hzb;omega
     .rw [q5,q6];rintro b ⟨y,hy,hb⟩;rcases List.mem_append.1 hy with hy | hy
      .rcases r3 b ⟨y,hy,hb⟩ with hp | hp
       .exact hRb b (hpick b hp)
       .exact .inr (Nat.le_trans hext.size hp)
      .exact hRb b ⟨y,(List.mem_filter.1 hy).1,hb⟩
     .have hnd:depAt D kk j=false:=by
       cases hdd:depAt D kk j with
       | false=>rfl
       | true=>
        obtain ⟨e,he1,he2⟩:=hbehind listed a g hinv kk kk (Nat.le_refl _) q hq hl j hdd;rw [hj] at he1;cases he1;rw [hnl] at he2;cases he2
      rw [BJ hdep kk C hC j hnd];exact (C.at c).mono he (hvals kk q C hq hC hl d hd)
    . -- every other one
     obtain ⟨rk,hrk,hob⟩:=Kj hops i o A p ho hA hp (by rw [Nat.zero_add];exact hie);rw [Nat.zero_add] at hrk;have hmay:mayAt l es i m=true:=by
      cases hb:mayAt l es i m with
      | true=>rfl
      | false=>
       exfalso;unfold mayAt at hb;simp only [Bool.not_eq_false',List.any_eq_true,List.mem_range] at hb;obtain ⟨j,hj,hb⟩:=hb;have hg:es.getD j 0=es[j]:=by simp [List.getD,hj]
       rw [hg] at hb;have hej:=List.getElem?_eq_getElem hj;split at hb
       .rename_i ok oe hok hoe;rw [ho] at hok;cases hok;rw [Bool.or_eq_true,Bool.and_eq_true,Bool.and_eq_true] at hb;rcases hb with ⟨b1,b2⟩ | ⟨b1,b2⟩
        .have:=(hm2 j _ hej).1 (hw _ b2);have:=Nat.le_of_ble_eq_true b1;omega
        .have hjm:j<m:=by simpa [Nat.blt_eq] using b1
         have hle:=(hm2 j _ hej).2 hjm;have:=hinv.closed _ oe hoe hle i b2;rw [hnl] at this;cases this
       .cases hb
     have hsub:=hrk m (Nat.ble_eq_true_of_le hm1) hmay c;have hcx:Cx (preEnv l As c p.1++readEnv env p.2) (rk c) a g:=⟨hcx0,λy hy=>hRa y (hsub.mem y hy)⟩
     have hK:∀ v g',Ext No g g'->(A.at c).holds v g'->wpAny P .any l.toArray (KF.sem P ks B) fuel (listed.setIfInBounds i true) (a.put o.dst v) g'.w:=by
      intro v g' he hv;refine ih _ _ _ (hinv.put hil ho hdst hN hnl hw ⟨m,c,hm1,λj2 e2 he2=>?_,hext.trans' he,hRa.stay he (λ_ _ hf=>hf),hRd,hRb,⟨A,hA,hv⟩,λkk q C hq hC hl d hd=>(C.at c).mono he (hvals kk q C hq hC hl d hd)⟩) hund;rw [hm2 j2 e2 he2];constructor
      .rintro (h | h)
       .exact (hie (by rw [<-h];exact List.mem_of_getElem? he2)).elim
       .exact h
      .exact .inr
     have hobc:=hob c;unfold DObl at hobc;split at hobc
     .rename_i hgd;rw [if_pos (by simp [Region.wanted,hgd])];exact .inl (hobc a g _ _ hcx hK)
     .rename_i j want hgd;obtain ⟨oj,dj,b,hj,hdj,hor0⟩:=hobc;have hjp:j∈p.1:=by rw [hgd] at hc5;exact gG.1 hc5
      have hljs:=(List.getElem?_eq_some_iff.1 hj).1;obtain ⟨pj,hpj⟩:∃ pj,ps[j]? =some pj:=⟨_,List.getElem?_eq_getElem (by omega)⟩
      have hchj:=hone' j oj pj hj hpj;simp only [mOne,Bool.and_eq_true] at hchj;have hdN:dj<a.tmps.size:=by rw [hinv.sz];have:=hchj.1;rw [hdj] at this;simpa [Nat.blt_eq] using this
      rcases hor0 with ⟨hlk,hor⟩ | ⟨hlk,hund2⟩
      rotate_left
      .have hwd:=wo (ops:=l.toArray) (o:=o) (oj:=oj) (j:=j) (dj:=dj) (want:=want) (a:=a) (g:=g) hgd (by simpa using hj) hdj hlk hcx.henv hdN;rw [if_neg (by rw [hwd];decide)];exact hK undef g (Ext.refl _ _) (by rw [hund2];rfl)
      have hwd:=xu (ops:=l.toArray) (o:=o) (oj:=oj) (j:=j) (dj:=dj) (b:=b) (want:=want) (a:=a) (g:=g) hgd (by simpa using hj) hdj (Opd.tmp hlk) hcx.henv hdN;rcases hor with ⟨hb,hop⟩ | ⟨hb,hany⟩
      .rw [if_pos (by rw [hwd,hb];cases want<;> rfl)];exact .inl (hop a g _ _ hcx hK)
      .rw [if_neg (by rw [hwd,hb];cases want<;> decide)];exact hK undef g (Ext.refl _ _) (by rw [hany];rfl)
 have hf:∀ j,(Array.replicate l.length false).getD j false=false:=λj=>by simp [Array.getD]
 have hstart:MInv N l As es res Rm a0 g1 (Array.replicate l.length false) a0 g1:=by
  refine ⟨by simp,hst.sz,hst.dfr,?_,λ_ _=>rfl,0,c0,Nat.zero_le _,?_,Ext.refl _ _,?_,?_,?_,?_⟩
  .intro kk o _ hl;rw [hf] at hl;cases hl
  .intro j e he;rw [hf];constructor
   .intro h;cases h
   .intro h;omega
  .rw [hR0];exactλy hy=>y.2.stay e01 (λ_ _ hf=>hf) (hst.hres y hy)
  .rw [hR0];exact hst.dis
  .rw [hR0];exactλb hb=>.inl hb
  .intro kk o A _ _ hl;rw [hf] at hl;cases hl
 have hu0:undone (Array.replicate l.length false) l.length=l.length:=by
  unfold undone;rw [List.countP_eq_length.2]
  .simp
  .intro i _;simp [Array.getD]
 have:=key l.length _ a0 g1 hstart hu0;rw [show l.toArray.size=l.length from rfl];exact this
theorem W.drawM{id:Nat}(As:List (DA Val))(ps:List (List Nat×List Nat))(es:List Nat)(D:List (List Bool))(Rm:Nat->Val->Rs)(c0:Val)(hm:P.follows .mixedOrders=true)
  (hchk:mChk N l 0 l ps=true) (hdst:dstsD l=true) (hlen:As.length=l.length) (hes:esChk l es=true) (hdc:depChk l D es 0 l D=true) (hdep:DepOk As D) (hR0:Rm 0 c0=res)
  (hops:MOps P l As env es Rm 0 l As ps) (heff:MEff P l As ps env Rm 0 es)
  (k:∀ c,WN P N g0 T0 ks B (outEnv c l As++env) (Rm es.length c)):W P N g0 T0 (.region id l.toArray true) ks B env res:=
 W.ofA hm (WA.drawM As ps es D Rm c0 hm hchk hdst hlen hes hdc hdep hR0 hops heff k)
end
end Go.Dec
/-
  Rules for max, for bytes of a string, and for slices of which nil is the only empty one.
-/
namespace Go.Dec
open Go
variable {x:Operand}
section
variable {P:Program} {env:Env} {res:Rs} {d:Option Tmp} {ty:TypeId} {pos:String} {aft:Array Edge} {gd:Option (Nat×Bool)}
theorem Op1.maxI{k:IntKind}{y:Operand}{m n:Int}{T:Array TypeId}(hx:Opd env x ((tI k).is m):=by exact .tmp rfl)(hy:Opd env y ((tI k).is n):=by exact .tmp rfl) :
  Op1 P ⟨d,.call ⟨.builtin .max,#[x,y],T⟩,ty,pos,aft,gd⟩ env res ((tI k).is (max m n)):=
 Op1.same λa g hc=>by
  have h1:=hx.atInt hc;have h2:=hy.atInt hc;refine ⟨.int k (max m n),?_,Asn.int (by have:=h1.2;have:=h2.2;unfold inR at *;omega)⟩;have e:(if n > m then n else m)=max m n:=by split<;> omega
  simp [execOp,resolve,invoke,builtin,Builtin.max_,Builtin.max2,h1.1,h2.1,e]
theorem Op1.bytes{l:Str}{T U E:TypeId}(hT:P.underlying T=some .string)(hU:P.underlying U=some (.slice E))(hE:P.underlying E=some (.int .u8))(hx:Opd env x (tS.is l):=by exact .tmp rfl) :
  Op1 P ⟨d,.convert T U x,ty,pos,aft,gd⟩ env res ((tL (tI .u8)).is (bytesOf l)):=
 Op1.val λa g hc=>by
  obtain ⟨h1,h2⟩:=hx.atStr hc;have hrun:=Lib.run_convert_string_bytes (P:=P) g.w T U E (Dec.str l) hT hU hE;have hlen:(Dec.str l).size=l.length:=nM l;let g':G:=⟨Lib.bytesWorld g.w E (Dec.str l),λb=>if b=g.w.heap.size then l.length else g.S b⟩
  have e:Ext No g g':=by
   refine ⟨rfl,rfl,rfl,?_,λb hb _=>⟨Lib.bytesWorld_at_old g.w E _ b hb,?_⟩,λb i v hv=>⟨?_,?_⟩,λb n hv=>hv.same (Lib.bytesWorld_at_old g.w E _ b hv.lt) ?_⟩
   .show g.w.heap.size<=(Lib.bytesWorld g.w E (Dec.str l)).heap.size;rw [Lib.bytesWorld_size];omega
   .show (if b=g.w.heap.size then _ else _)=_;rw [if_neg (by omega)]
   .show i<(if b=g.w.heap.size then _ else _);have:=hv.lt;rw [if_neg (by omega)];exact hv.1
   .show (Lib.bytesWorld g.w E (Dec.str l)).cell? _=_;rw [Lib.bytesWorld_old _ _ _ _ (show (⟨b,i,none⟩:Addr).block<g.w.heap.size from hv.lt)];exact hv.2
   .show g.S b<=(if b=g.w.heap.size then _ else _);have:=hv.lt;rw [if_neg (by omega)];exact Nat.le_refl _
  refine ⟨.slice (some ⟨g.w.heap.size,0,none⟩) (Dec.str l).size (grownCap g.w (Dec.str l).size 0 E),g',by simp [execOp,h1,hrun,g'],e,?_⟩;have hb:(bytesOf l).length=l.length:=by simp [bytesOf]
  have hrow:Row (tI .u8) g' (some ⟨g.w.heap.size,0,none⟩) (bytesOf l):=by
   refine ⟨.inr rfl,λi u hi=>?_⟩;have hil:i<l.length:=by have:=(List.getElem?_eq_some_iff.1 hi).1;omega
   have hu:u=(l[i].toNat:Int):=by simpa [bytesOf,hil] using hi.symm
   refine ⟨[.int .u8 u],⟨rfl,by rw [hu,inR8];have:=l[i].toNat_lt;omega⟩,λj v hj=>?_⟩;have hj0:j=0:=by have:=(List.getElem?_eq_some_iff.1 hj).1;simp at this;exact this
   subst hj0;simp at hj;subst hj;have hsz:(tI .u8).size=1:=rfl;refine ⟨?_,?_⟩
   .show 0+i*(tI .u8).size+0<(if g.w.heap.size=g.w.heap.size then _ else _);rw [if_pos rfl,hsz];omega
   .show (Lib.bytesWorld g.w E (Dec.str l)).cell? ⟨g.w.heap.size,0+i*(tI .u8).size+0,none⟩=_;rw [hsz,Nat.mul_one,Nat.zero_add,Nat.add_zero,Lib.bytesWorld_cell _ _ _ _ (by rw [hlen];exact hil),hu];simp [Dec.str,List.getD,hil]
  refine ⟨[_],⟨some ⟨g.w.heap.size,0,none⟩,grownCap g.w (Dec.str l).size 0 E,by rw [hb,hlen],?_,by rw [hb];exact h2,λh=>(by cases h),hrow⟩,rfl⟩;rw [hb];have:=grownCap_ge g.w (Dec.str l).size 0 E;omega
theorem UB{α:Type}{t:Ty α}{xs:List α}(h0:xs≠ []){v:Value}{g:G}(h:((tL t).is xs).holds v g):((tLn t).is xs).holds v g:=by
 obtain ⟨cs,⟨p,c,h1,h2,h3,h4,h5⟩,hv⟩:=h;exact ⟨cs,⟨p,c,h1,h2,h3,h4,h5,λe=>absurd e h0⟩,hv⟩
theorem Opd.asLn{α:Type}{t:Ty α}{xs:List α}(h0:xs≠ [])(h:Opd env x ((tL t).is xs)):Opd env x ((Dec.tLn t).is xs):=h.weak λ_ _=>UB h0
end
end Go.Dec
/-
  Ranging over a string.
-/
namespace Go.Dec
open Go
variable {l:Str}{p:Nat}{x:Operand}
theorem EF(h:p<l.length)(ha:l[p].toNat<128):runeAt l p=(l[p].toNat,1):=by
 have hs:p<(Dec.str l).size:=by rw [nM];exact h
 have e:(Dec.str l)[p]'hs=l[p]:=by simp [Dec.str,ByteArray.getElem_eq_getElem_data];rfl
 have:=decode_ascii (Dec.str l) p hs (by rw [e];exact ha);rw [e] at this;exact this
theorem FY(h:p<l.length)(ha:128<=l[p].toNat):128<=(runeAt l p).1/\1<=(runeAt l p).2:=by
 have hs:p<(Dec.str l).size:=by rw [nM];exact h
 have e:(Dec.str l)[p]'hs=l[p]:=by simp [Dec.str,ByteArray.getElem_eq_getElem_data];rfl
 exact decode_high (Dec.str l) p hs (by rw [e];exact ha)
def It(l:Str)(p:Nat)(b:Nat):Res where
 blk:=λx=>some b=some x
 holds:=λg=>g.w.heap[b]? =some (.stringIter (Dec.str l) p)/\l.length<=lim
 stay:=λ{T g g'} e hn h=>by
  have hlt:=(Array.getElem?_eq_some_iff.1 h.1).1;exact ⟨(e.same b hlt (hn b rfl)).1.trans h.1,h.2⟩
 lt:=λ{g b'} h hb=>by cases hb;exact (Array.getElem?_eq_some_iff.1 h.1).1
def Asn.tuple1(A:Asn):Asn:=⟨λv g=>∃ x,v= .tuple #[x]/\A.holds x g,λe ⟨x,h,a⟩=>⟨x,h,A.mono e a⟩⟩
section
variable {P:Program} {env:Env} {res:Rs} {d:Option Tmp} {ty:TypeId} {pos:String} {aft:Array Edge} {gd:Option (Nat×Bool)}
theorem OpR.range{T:TypeId}(key:Nat)(hT:P.underlying T=some .string)(hx:Opd env x (tS.is l):=by exact .tmp rfl) :
  OpR P ⟨d,.range T x,ty,pos,aft,gd⟩ env res [] (λb:Nat=>Bp b 0) (λb=>[(key,It l 0 b)]):=by
 intro a g K Q hc hd hK;have h1:=(hx.atStr hc).1;have hrun:(execOp a.eval ⟨d,.range T x,ty,pos,aft,gd⟩).run P g.w= .ok (.value (.pointer (some ⟨g.w.heap.size,0,none⟩))) (g.alloc (.stringIter (Dec.str l) 0) 0).w:=by
  simp [execOp,h1,run_range_string g.w T _ hT,World.iter,G.alloc]
 show Oper.upon P _ a K Q ((execOp a.eval _).run P g.w);rw [hrun];refine hK g.w.heap.size _ (g.alloc (.stringIter (Dec.str l) 0) 0) (Ext.alloc _ _ _ _) rfl (λy hy=>?_) (List.pairwise_singleton _ _) (λb hb=>.inr (by rw [(iA rfl).1 hb];exact Nat.le_refl _));rw [List.mem_singleton.1 hy];exact ⟨heap_alloc_new g.w _,(hx.atStr hc).2⟩
theorem Op1.nextF{b:Nat}(key:Nat)(hp:¬ p<l.length)(hr:findR key res=some (It l p b))(hx:Opd env x (Bp b 0):=by exact .tmp rfl):Op1 P ⟨d,.next x true,ty,pos,aft,gd⟩ env res (Asn.tuple1 (tB.is false)):=
 Op1.same λa g hc=>by
  have hv:a.eval x= .pointer (some ⟨b,0,none⟩):=hx a g hc.henv;have hh:g.w.heap[b]? =some (.stringIter (Dec.str l) p):=(hc.hres _ (fO hr)).1;refine ⟨.tuple #[.bool false],?_,_,rfl,Asn.bool⟩;have hsz:¬ p<(Dec.str l).size:=by rw [nM];exact hp
  simp [execOp,hv,Instr.next,getObj,Sem.run,hh,hsz]
theorem OpR.nextT{b:Nat}(key:Nat)(hp:p<l.length)(hr:res.pick [key]= [(key,It l p b)])(hx:Opd env x (Bp b 0):=by exact .tmp rfl) :
  OpR P ⟨d,.next x true,ty,pos,aft,gd⟩ env res [key] (λ_:Unit=>Asn.tuple3 (tB.is true) ((tI .i64).is (p:Int)) ((tI .i32).is ((runeAt l p).1:Int))) (λ_=>[(key,It l (p+(runeAt l p).2) b)]):=by
 intro a g K Q hc hd hK;have hin:(key,It l p b)∈res:=by
  have:(key,It l p b)∈res.pick [key]:=by rw [hr];exact List.mem_singleton.2 rfl
  exact (List.mem_filter.1 this).1
 obtain ⟨hh,hl⟩:g.w.heap[b]? =some (.stringIter (Dec.str l) p)/\l.length<=lim:=hc.hres _ hin;have hb:=(Array.getElem?_eq_some_iff.1 hh).1;have hv:a.eval x= .pointer (some ⟨b,0,none⟩):=hx a g hc.henv;have hsz:p<(Dec.str l).size:=by rw [nM];exact hp
 have hrt:runeAt l p=Utf8.decode (Dec.str l) p:=rfl;let w':World:={g.w with heap:=g.w.heap.setIfInBounds b (.stringIter (Dec.str l) (p+(runeAt l p).2))}
 have hrun:(execOp a.eval ⟨d,.next x true,ty,pos,aft,gd⟩).run P g.w= .ok (.value (.tuple #[.bool true,.int .i64 p,.int .i32 (runeAt l p).1])) w':=by
  simp [execOp,hv,Instr.next,getObj,setObj,Sem.run,hh,hsz,hrt,w',goInt,Result.andThen]
 show Oper.upon P _ a K Q ((execOp a.eval _).run P g.w);rw [hrun];have other:∀ y,y≠b->w'.heap[y]? =g.w.heap[y]?:=λy hy=>by
  show (g.w.heap.setIfInBounds b _)[y]? =_;rw [Array.getElem?_setIfInBounds_ne (Ne.symm hy)]
 have e:Ext (res.pick [key]).blks g ⟨w',g.S⟩:=by
  refine ⟨rfl,rfl,rfl,by simp [w'],λy _ hn=>⟨other y (λhy=>hn (by rw [hr];exact (iA rfl).2 hy)),rfl⟩,λy i v hv=>⟨hv.1,?_⟩,λy n hF=>hF.same (other y (λhy=>by rw [hy] at hF;rcases hF.row hh with ⟨_,_,_,he,_⟩ | ⟨_,_,he,_⟩<;> cases he)) (Nat.le_refl _)⟩;have hyb:y≠b:=λhy=>by
   have:=hv.2;subst hy;simp [World.cell?,hh] at this
  have:=hv.2;simp only [World.cell?] at this ⊢;rw [show (({w:=w',S:=g.S}:G).w).heap[y]? =g.w.heap[y]? from other y hyb];exact this
 refine hK () _ ⟨w',g.S⟩ e ⟨_,_,_,rfl,Asn.bool,Asn.int (inR64.2 (by unfold lim at hl;omega)),Asn.int ?_⟩ (λy hy=>?_) (List.pairwise_singleton _ _) (λb' hb'=>.inl (by rw [hr];exact (iA rfl).2 ((iA rfl).1 hb')))
 .rw [inR32];have:=decode_le (Dec.str l) p;rw [hrt];omega
 .rw [List.mem_singleton.1 hy];refine ⟨?_,hl⟩;show (g.w.heap.setIfInBounds b _)[b]? =_;simp [hb]
theorem Opd.fnE{σ:Type}{ok:σ->Prop}{As:σ->List Asn}{A:σ->Asn}{f:FuncId}(hx:Opd env x (Asn.eq (.func (.func f) #[] #[])))(hcall:∀ az w,(callFunc f az).run P w= .ok (.enter f az) w)(h:∀ s,ok s->FSpec P f (As s) (A s)):Opd env x (tF P ok As A):=
 λa g he=>by
  have h1:a.eval x= .func (.func f) #[] #[]:=hx a g he;have h2:=(Opd.fn (env:=env) hcall h) a g he;rw [h1];exact h2
theorem W.condT{N:Nat}{g0:G}{T0:Nat->Prop}{ks:List KF}{B:Exit->Act->World->Prop}{c c':Code}(hx:Opd env x (tB.is true))(h:W P N g0 T0 c ks B env res):W P N g0 T0 (.cond x c c') ks B env res:=W.cond hx (λ_=>h) (λe=>by cases e)
theorem W.condF{N:Nat}{g0:G}{T0:Nat->Prop}{ks:List KF}{B:Exit->Act->World->Prop}{c c':Code}(hx:Opd env x (tB.is false))(h:W P N g0 T0 c' ks B env res):W P N g0 T0 (.cond x c c') ks B env res:=W.cond hx (λe=>by cases e) (λ_=>h)
theorem Op1.extract10{A:Asn}(h:Opd env x (Asn.tuple1 A):=by exact .tmp rfl):Op1 P ⟨d,.extract x 0,ty,pos,aft,gd⟩ env res A:=
 Op1.same λa g hc=>by
  obtain ⟨v,hv,hA⟩:=h a g hc.henv;exact ⟨v,by simp [execOp,hv,Instr.extract],hA⟩
end
end Go.Dec
/-
  Arrays.
-/
namespace Go.Dec
open Go
variable {E T:TypeId}{α:Type}{xs:List α}
def tA{α:Type}(n:Nat)(t:Ty α):Ty (List α) where
 size:=n*t.size
 agg:=true
 rep:=λg cs xs=>xs.length=n/\Cells t g cs xs
 len:=λh=>by rw [h.2.1,h.1]
 one:=λh=>h.2.2.1
 mono:=λe h=>⟨h.1,h.2.mono e⟩
 sing:=λh=>by cases h
section
variable {P:Program} {env:Env} {res:Rs} {d:Option Tmp} {ty:TypeId} {pos:String} {aft:Array Edge} {gd:Option (Nat×Bool)}
theorem oF.array{n:Nat}{t:Ty α}{z:α}{v:Value}{arr:Array Value}(he:oF P E t z)(hE:∀ w,(zeroValue E).run P w= .ok v w)(hz:∀ w,(zeroValue T).run P w= .ok (.agg arr) w)
  (harr:arr.toList=(List.replicate n v.cells.toList).flatten) (w0:World):oF P T (tA n t) (List.replicate n z):=by
 obtain ⟨v',hv',hr⟩:=he.zero;have hvv:v'=v:=by
  have h1:=hv' w0;rw [hE w0] at h1;cases h1;rfl
 subst hvv;refine ⟨_,hz,λg=>?_⟩;obtain ⟨cs,h1,h2⟩:=hr g;have hc:v'.cells=cs.toArray:=by rw [h2];exact t.cells h1
 refine ⟨arr.toList,⟨by simp,?_⟩,by simp [mkVal,tA]⟩;rw [harr,hc];exact Cells.replicate h1 n
theorem Op1.buildA{t:Ty α}{n:Nat}{ps:List (Nat×Operand)}{ys:List (Nat×α)}{z:α}(hT:P.underlying T=some (.array n E))(hsz:∀ w,(sizeOf E).run P w= .ok t.size w)(hz:oF P T (tA n t) (List.replicate n z))
  (hp:Parts env t ps ys) (hlt:∀ p∈ys,p.1<n) (hxs:ys.foldl (λl p=>l.set p.1 p.2) (List.replicate n z)=xs):Op1 P ⟨d,.build T ps.toArray,ty,pos,aft,gd⟩ env res ((tA n t).is xs):=
 Op1.same λa g hc=>by
  obtain ⟨v,hv,hzr⟩:=hz.zero;obtain ⟨cs0,hcs0,hv0⟩:=hzr g;have hvc:v.cells=cs0.toArray:=by rw [hv0];exact (tA n t).cells hcs0
  obtain ⟨cs,h1,h2⟩:=yA (n:=n) hc.henv ps ys (List.replicate n z) cs0.toArray hp (by simp) hlt (by simpa using hcs0.2);rw [hxs] at h2;have hl:xs.length=n:=by
   have:∀ (ys:List (Nat×α)) (l:List α),(ys.foldl (λl p=>l.set p.1 p.2) l).length=l.length:=by
    intro ys;induction ys with
    | nil=>intro l;rfl
    | cons y ys ih=>intro l;rw [List.foldl_cons,ih];simp
   rw [<-hxs,this];simp
  refine ⟨.agg cs,?_,cs.toList,⟨hl,h2⟩,by simp [mkVal,tA]⟩;simp only [execOp,Instr.build,Sem.run_bind,hv,Result.andThen_ok,hvc,run_underlying hT,hsz,List.map_toArray,h1,Sem.run_pure]
theorem Op1.idxA{t:Ty α}{n:Nat}{x y:Operand}{k:IntKind}{i:Int}{u:α}(h:Dec.idx xs i=some u)(hT:P.underlying T=some (.array n E))(hsz:∀ w,(sizeOf E).run P w= .ok t.size w)(hx:Opd env x ((tA n t).ptr xs):=by exact .tmp rfl)(hy:Opd env y ((tI k).is i):=by exact .tmp rfl):Op1 P ⟨d,.indexAddr T x y,ty,pos,aft,gd⟩ env res (t.ptr u):=
 Op1.same λa g hc=>by
  obtain ⟨b,o,hv,cs,⟨hl,hcs⟩,hat⟩:=hx a g hc.henv;have h1:=(hy.atInt hc).1;unfold Dec.idx at h;split at h
  .rename_i h0;have hlt:=(List.getElem?_eq_some_iff.1 h).1;have hi:i<(n:Int):=by omega
   obtain ⟨ds,k1,k2⟩:=hcs.2.2 i.toNat u h;refine ⟨.pointer (some ⟨b,o+i.toNat*t.size,none⟩),?_,b,o+i.toNat*t.size,rfl,ds,k1,λj v hj=>?_⟩
   .have ht:P.underlying T=some (.array n E):=hT;simp [execOp,Instr.indexAt,asIntOf,hv,h1,run_underlying hT,hsz,h0,hi,Instr.sureAddr,Addr.add_lit]
   .rw [Nat.add_assoc];exact hat _ _ (k2 j v hj)
  .cases h
theorem Op1.indexA{t:Ty α}{n:Nat}{x y:Operand}{k:IntKind}{i:Int}{u:α}(h:Dec.idx xs i=some u)(hT:P.underlying T=some (.array n E))(ht:TyAt P E t)(hx:Opd env x ((tA n t).is xs):=by exact .tmp rfl)(hy:Opd env y ((tI k).is i):=by exact .tmp rfl):Op1 P ⟨d,.index T x y,ty,pos,aft,gd⟩ env res (t.is u):=
 Op1.same λa g hc=>by
  obtain ⟨cs,⟨hl,hcs⟩,hv⟩:=hx a g hc.henv;have hv':a.eval x= .agg cs.toArray:=hv;have h1:=(hy.atInt hc).1;unfold Dec.idx at h;split at h
  .rename_i h0;have hlt:=(List.getElem?_eq_some_iff.1 h).1;have hi:i<(n:Int):=by omega
   obtain ⟨ds,k1,k2⟩:=hcs.2.2 i.toNat u h;have hpart:∀ w,(part E cs.toArray (i.toNat*t.size)).run P w= .ok (mkVal t.agg ds) w:=by
    intro w;have hlen:=t.len k1;cases ha:t.agg with
    | true=>
     have hagg:=ht.agg w;rw [ha] at hagg;have hex:cs.toArray.extract (i.toNat*t.size) (i.toNat*t.size+t.size)=ds.toArray:=by
      apply Array.ext';simp only [List.extract_toArray,List.extract_eq_take_drop];apply List.ext_getElem?;intro q;rw [Nat.add_sub_cancel_left,List.getElem?_take,List.getElem?_drop];split
      .rename_i hq;rw [<-hlen] at hq;rw [List.getElem?_eq_getElem hq];exact k2 q _ (List.getElem?_eq_getElem hq)
      .rename_i hq;rw [List.getElem?_eq_none (by omega)]
     simp only [part,Sem.run_bind,hagg,Result.andThen_ok,ht.size,hex,mkVal,Sem.run_pure,if_true]
    | false=>
     have hagg:=ht.agg w;rw [ha] at hagg;rw [t.sing ha] at hlen
     match ds,hlen with
     | [c],_=>
      have hc0:=k2 0 c rfl;rw [Nat.add_zero] at hc0;simp [part,hagg,hc0,mkVal]
   refine ⟨mkVal t.agg ds,?_,ds,k1,rfl⟩;simp [execOp,Instr.index,asIntOf,hv',h1,run_underlying hT,ht.size,h0,hi,hpart]
  .cases h
end
end Go.Dec
/-
  Function values in cells.
-/
namespace Go.Dec
open Go
def tFun(P:Program){φ σ:Type}(ok:φ->σ->Prop)(As:σ->List Asn)(A:σ->Asn):Ty φ where
 size:=1
 agg:=false
 rep:=λg cs f=>∃ v,cs= [v]/\((tF P (ok f) As A).holds v g\/(v.oneCell'=true/\ ∀ s,¬ ok f s))
 len:=λ⟨v,h,_⟩=>by rw [h];rfl
 one:=λ⟨v,h,hv⟩ c hc=>by
  rw [h] at hc;rw [List.mem_singleton.1 hc];rcases hv with ⟨f,pre,cap,h1,_⟩ | ⟨h1,_⟩
  .rw [h1];rfl
  .exact h1
 mono:=λe ⟨v,h,hv⟩=>⟨v,h,hv.imp (λh=>(tF P _ As A).mono e h) id⟩
 sing:=λ_=>rfl
section
variable {P:Program} {env:Env} {res:Rs} {d:Option Tmp} {ty:TypeId} {pos:String} {aft:Array Edge} {gd:Option (Nat×Bool)}
variable {φ σ:Type} {ok:φ->σ->Prop} {As:σ->List Asn} {A:σ->Asn}
theorem Opd.tFun{x:Operand}{f:φ}(h:Opd env x (tF P (ok f) As A)):Opd env x ((Dec.tFun P ok As A).is f):=h.weak λv g hv=>⟨[v],⟨v,rfl,.inl hv⟩,rfl⟩
theorem Op1.callFun{x:Operand}{xs:List Operand}{ats:Array TypeId}{f:φ}(s:σ)(hx:Opd env x ((tFun P ok As A).is f))(hs:ok f s)(h:Opds env xs (As s)) :
  Op1 P ⟨d,.call ⟨.value x,xs.toArray,ats⟩,ty,pos,aft,gd⟩ env res (A s):=
 Op1.qF λa g hc=>by
  obtain ⟨cs,⟨v,rfl,hv⟩,he⟩:=hx a g hc.henv;have he':a.eval x=v:=he;rcases hv with ⟨fid,pre,cap,h1,hcall,hdo⟩ | ⟨_,hn⟩
  .refine ⟨fid,pre++(xs.map a.eval).toArray++cap,?_,hdo s hs No g (Ext.refl _ _) _ (Opds.all hc.henv h)⟩;simp [execOp,resolve,he',h1,Deferred.ofValue,invoke,hcall]
  .exact absurd hs (hn s)
end
end Go.Dec
/-
  Regions whose order is drawn, with several operations that use resources, some of them in either order: what is there goes by the set of those that are done.
-/
namespace Go.Dec
open Go
variable {es:List Nat}{l:List Oper}
abbrev Mask:=List Bool
def setM:Mask->Nat->Mask
 | [],_=>[]
 | _ :: r,0=>true :: r
 | b :: r,j+1=>b :: setM r j
theorem Ay:∀ (mk:Mask) (j:Nat),(setM mk j).length=mk.length
 | [],_=>rfl
 | _ :: _,0=>rfl
 | _ :: r,j+1=>by simp [setM,Ay r j]
theorem FZ:∀ (mk:Mask) (j i:Nat),j<mk.length->((setM mk j).getD i false=true ↔ i=j\/mk.getD i false=true)
 | [],j,i,h=>by simp at h
 | b :: r,0,i,h=>by
  cases i with
  | zero=>simp [setM]
  | succ i=>simp [setM]
 | b :: r,j+1,i,h=>by
  cases i with
  | zero=>simp [setM]
  | succ i=>
   have:=FZ r j i (by simpa using h);simpa [setM] using this
def allM:Nat->List Mask
 | 0=>[[]]
 | n+1=>(allM n).flatMap λm=>[false :: m,true :: m]
theorem BL:∀ {mk:Mask},mk∈allM mk.length
 | []=>by simp [allM]
 | b :: r=>by
  have:=BL (mk:=r);simp only [allM,List.length_cons,List.mem_flatMap];exact ⟨r,this,by cases b<;> simp⟩
def AllIn{α:Type}(Q:α->Prop):List α->Prop
 | []=>True
 | x :: r=>Q x/\AllIn Q r
theorem AllIn.all{α:Type}{Q:α->Prop}(h:∀ x,Q x):∀ l:List α,AllIn Q l
 | []=>trivial
 | x :: r=>⟨h x,AllIn.all h r⟩
theorem AllIn.at{α:Type}{Q:α->Prop}:∀ {l:List α},AllIn Q l->∀ x∈l,Q x
 | [],_,x,h=>by cases h
 | y :: r,h,x,hx=>by
  rcases List.mem_cons.1 hx with rfl | hx
  .exact h.1
  .exact AllIn.at h.2 x hx
def waitL(l:List Oper)(i:Nat):List Nat:=match l[i]? with
 | some o=>(o.after.toList.filter λe=>Region.binds .any e).map (·.on)
 | none=>[]
def downs(l:List Oper):Nat->List Nat->List Nat
 | 0,acc=>acc
 | i+1,acc=>if memB i acc=true then downs l i (waitL l i++acc) else downs l i acc
def doneL:List Nat->Mask->List Nat
 | e :: es,b :: mk=>if b=true then e :: doneL es mk else doneL es mk
 | _,_=>[]
def mayIn(l:List Oper)(es:List Nat)(k:Nat)(mk:Mask):Bool:=
 !(let a:=downs l l.length (waitL l k++doneL es mk);memB k a || (List.range es.length).any λj=>!mk.getD j false && memB (es.getD j 0) a)
def SOps(P:Program)(l:List Oper)(As:List (DA Val))(base:Env)(es:List Nat)(Rm:Mask->Val->Rs):Nat->List Oper->List (DA Val)->List (List Nat×List Nat)->Prop
 | i,o :: os,A :: Bs,p :: ps=>(memB i es=true\/ ∃ rk:Val->Rs,AllIn (λmk=>mayIn l es i mk=true->∀ c,RSub (rk c) (Rm mk c)) (allM es.length)/\ ∀ c,DObl P l o (preEnv l As c p.1++readEnv base p.2) (rk c) (A.at c))/\SOps P l As base es Rm (i+1) os Bs ps
 | _,_,_,_=>True
theorem Kk{P:Program}{l0:List Oper}{As0:List (DA Val)}{base:Env}{Rm:Mask->Val->Rs}:∀ {i:Nat} {l:List Oper} {As:List (DA Val)} {ps:List (List Nat×List Nat)},SOps P l0 As0 base es Rm i l As ps->
  ∀ (j:Nat) o A p,l[j]? =some o->As[j]? =some A->ps[j]? =some p->¬ (i+j)∈es->∃ rk:Val->Rs,AllIn (λmk=>mayIn l0 es (i+j) mk=true->∀ c,RSub (rk c) (Rm mk c)) (allM es.length)/\ ∀ c,DObl P l0 o (preEnv l0 As0 c p.1++readEnv base p.2) (rk c) (A.at c)
 | i,o :: l,A :: As,p :: ps,h,j,o',A',p',h1,h2,h3,h4=>by
  cases j with
  | zero=>
   simp at h1 h2 h3;subst h1 h2 h3;exact h.1.resolve_left λhb=>h4 (gG.1 hb)
  | succ j=>
   simp at h1 h2 h3;have:=Kk h.2 j o' A' p' h1 h2 h3 (by rwa [show i+1+j=i+(j+1) by omega]);rwa [show i+1+j=i+(j+1) by omega] at this
 | _,[],_,_,_,j,_,_,_,h,_,_,_=>by simp at h
 | _,_ :: _,[],_,_,j,_,_,_,_,h,_,_=>by simp at h
 | _,_ :: _,_ :: _,[],_,j,_,_,_,_,_,h,_=>by simp at h
def SEff(P:Program)(l:List Oper)(As:List (DA Val))(ps:List (List Nat×List Nat))(base:Env)(es0:List Nat)(Rm:Mask->Val->Rs):Nat->List Nat->Prop
 | _,[]=>True
 | j,e :: es=>(∃ (o:Oper) (p:List Nat×List Nat) (A:DA Val),l[e]? =some o/\ps[e]? =some p/\As[e]? =some A/\o.guard=none/\
   AllIn (λmk=>mk.getD j false=false->mayIn l es0 e mk=true->∃ (us:List Nat) (out:Val->Rs),(∀ c,RSub (Rm (setM mk j) c) (out c++(Rm mk c).drop us))/\(∀ c k,Rm mk (upd c j k)=Rm mk c)/\
    ∀ c,OpR P o (preEnv l As c p.1++readEnv base p.2) (Rm mk c) us (λk=>A.at (upd c j k)) (λk=>out (upd c j k))) (allM es0.length))/\SEff P l As ps base es0 Rm (j+1) es
theorem EG{P:Program}{As:List (DA Val)}{ps:List (List Nat×List Nat)}{base:Env}{es0:List Nat}{Rm:Mask->Val->Rs}:∀ {m:Nat} {es:List Nat},SEff P l As ps base es0 Rm m es->∀ (j e:Nat),es[j]? =some e->
  ∃ (o:Oper) (p:List Nat×List Nat) (A:DA Val),l[e]? =some o/\ps[e]? =some p/\As[e]? =some A/\o.guard=none/\
   AllIn (λmk=>mk.getD (m+j) false=false->mayIn l es0 e mk=true->∃ (us:List Nat) (out:Val->Rs),(∀ c,RSub (Rm (setM mk (m+j)) c) (out c++(Rm mk c).drop us))/\(∀ c k,Rm mk (upd c (m+j) k)=Rm mk c)/\
    ∀ c,OpR P o (preEnv l As c p.1++readEnv base p.2) (Rm mk c) us (λk=>A.at (upd c (m+j) k)) (λk=>out (upd c (m+j) k))) (allM es0.length)
 | _,[],_,j,e,h=>by simp at h
 | m,e :: es,h,j,e',hj=>by
  cases j with
  | zero=>simp at hj;subst hj;exact h.1
  | succ j=>
   simp at hj;have:=EG h.2 j e' hj;rwa [show m+1+j=m+(j+1) by omega] at this
def noM:Nat->Mask
 | 0=>[]
 | n+1=>false :: noM n
def fullM:Nat->Mask
 | 0=>[]
 | n+1=>true :: fullM n
theorem BM:∀ n,(noM n).length=n
 | 0=>rfl
 | n+1=>by simp [noM,BM n]
theorem Kl:∀ n j,(noM n).getD j false=false
 | 0,j=>by simp [noM]
 | n+1,0=>rfl
 | n+1,j+1=>by simpa [noM] using Kl n j
theorem full_of:∀ {m:Mask} {n:Nat},m.length=n->(∀ j,j<n->m.getD j false=true)->m=fullM n
 | [],n,h,_=>by subst h;rfl
 | b :: r,n,h,k=>by
  subst h;have h0:=k 0 (by simp);simp at h0;subst h0;have h1:=full_of (m:=r) rfl (λj hj=>by have:=k (j+1) (by simpa using hj);simpa using this);show true :: r=true :: fullM r.length;rw [<-h1]
def esDis:List Nat->Bool
 | []=>true
 | e :: es=>!memB e es && esDis es
theorem F3:∀ {es:List Nat},esDis es=true->∀ (i j e:Nat),es[i]? =some e->es[j]? =some e->i=j
 | [],_,i,_,_,h,_=>by simp at h
 | x :: es,h,i,j,e,hi,hj=>by
  unfold esDis at h;rw [Bool.and_eq_true] at h;have hx:¬ x∈es:=λhm=>by
   have:=gG.2 hm;simp [this] at h
  cases i with
  | zero=>
   simp at hi;subst hi;cases j with
   | zero=>rfl
   | succ j=>simp at hj;exact (hx (List.mem_of_getElem? hj)).elim
  | succ i=>
   simp at hi;cases j with
   | zero=>simp at hj;subst hj;exact (hx (List.mem_of_getElem? hi)).elim
   | succ j=>simp at hj;have:=F3 h.2 i j e hi hj;omega
theorem DC{i j:Nat}{o:Oper}(ho:l[i]? =some o)(h:j∈waitL l i):waits o j=true:=by
 unfold waitL at h;rw [ho] at h;simp only [List.mem_map,List.mem_filter] at h;obtain ⟨e,⟨he,hb⟩,rfl⟩:=h;exact uM.2 ⟨e,by simpa using he,rfl,hb⟩
theorem zQ{Q:Nat->Prop}(h:∀ i o,l[i]? =some o->Q i->∀ j,waits o j=true->Q j):∀ (n:Nat) (acc:List Nat),(∀ x∈acc,Q x)->∀ x∈downs l n acc,Q x
 | 0,_,ha=>ha
 | i+1,acc,ha=>by
  unfold downs;by_cases hi:memB i acc=true
  .rw [if_pos hi];refine zQ h i _ λx hx=>?_;rcases List.mem_append.1 hx with hx | hx
   .cases ho:l[i]? with
    | none=>simp [waitL,ho] at hx
    | some o=>exact h i o ho (ha i (gG.1 hi)) x (DC ho hx)
   .exact ha x hx
  .rw [if_neg hi];exact zQ h i acc ha
theorem zR:∀ {es:List Nat} {mk:Mask} {x:Nat},x∈doneL es mk->∃ j,es[j]? =some x/\mk.getD j false=true
 | [],_,x,h=>by simp [doneL] at h
 | _ :: _,[],x,h=>by simp [doneL] at h
 | e :: es,b :: mk,x,h=>by
  unfold doneL at h;cases b with
  | true=>
   simp only [if_true] at h;rcases List.mem_cons.1 h with rfl | h
   .exact ⟨0,rfl,rfl⟩
   .obtain ⟨j,h1,h2⟩:=zR h;exact ⟨j+1,h1,h2⟩
  | false=>
   rw [if_neg (by simp)] at h;obtain ⟨j,h1,h2⟩:=zR h;exact ⟨j+1,h1,h2⟩
theorem F4{listed:Array Bool}{i:Nat}{o:Oper}{m:Mask}(ho:l[i]? =some o)(hw:∀ j,waits o j=true->listed.getD j false=true)(hnl:listed.getD i false=false)
  (hcl:∀ (k:Nat) o,l[k]? =some o->listed.getD k false=true->∀ j,waits o j=true->listed.getD j false=true) (hm2:∀ j e,es[j]? =some e->(listed.getD e false=true ↔ m.getD j false=true)):mayIn l es i m=true:=by
 have hall:∀ x∈downs l l.length (waitL l i++doneL es m),listed.getD x false=true:=by
  refine zQ hcl _ _ λx hx=>?_;rcases List.mem_append.1 hx with hx | hx
  .exact hw x (DC ho hx)
  .obtain ⟨j,h1,h2⟩:=zR hx;exact (hm2 j x h1).2 h2
 cases hb:mayIn l es i m with
 | true=>rfl
 | false=>
  exfalso;unfold mayIn at hb;simp only [Bool.not_eq_false',Bool.or_eq_true,List.any_eq_true,List.mem_range,Bool.and_eq_true] at hb;rcases hb with hb | ⟨j,hj,hb1,hb2⟩
  .have:=hall i (gG.1 hb);rw [hnl] at this;cases this
  .have hg:es.getD j 0=es[j]:=by simp [List.getD,hj]
   rw [hg] at hb2;have:=(hm2 j _ (List.getElem?_eq_getElem hj)).1 (hall _ (gG.1 hb2));rw [this] at hb1;cases hb1
section
variable {P:Program} {N:Nat} {g0:G} {T0:Nat->Prop} {ks:List KF} {B:Exit->Act->World->Prop} {env:Env} {res:Rs}
structure SInv (N:Nat) (l:List Oper) (As:List (DA Val)) (es:List Nat) (res:Rs) (Rm:Mask->Val->Rs) (a0:Act) (g1:G) (listed:Array Bool) (a:Act) (g:G):Prop where
 size:listed.size=l.length
 sz:a.tmps.size=N
 dfr:a.defers= []
 closed:∀ (k:Nat) o,l[k]? =some o->listed.getD k false=true->∀ j,waits o j=true->listed.getD j false=true
 old:∀ s,(∀ (k:Nat) o,l[k]? =some o->listed.getD k false=true->o.dst≠some s)->a.tmps.getD s undef=a0.tmps.getD s undef
 here:∃ m c,m.length=es.length/\(∀ j e,es[j]? =some e->(listed.getD e false=true ↔ m.getD j false=true))/\Ext res.blks g1 g/\(Rm m c).all g/\(Rm m c).dis/\(∀ b,(Rm m c).blks b->res.blks b\/g1.w.heap.size<=b)/\
  ∀ (k:Nat) o A,l[k]? =some o->As[k]? =some A->listed.getD k false=true->∀ d,o.dst=some d->(A.at c).holds (a.tmps.getD d undef) g
theorem SInv.put{As:List (DA Val)}{Rm:Mask->Val->Rs}{a0:Act}{g1:G}{listed:Array Bool}{a:Act}{g g':G}{i:Nat}{o:Oper}{v:Value}
  (h:SInv N l As es res Rm a0 g1 listed a g) (hi:i<l.length) (ho:l[i]? =some o) (hd:dstsD l=true) (hN:∀ d,o.dst=some d->d<N) (hnl:listed.getD i false=false) (hw:∀ j,waits o j=true->listed.getD j false=true)
  (hat:∃ m c,m.length=es.length/\(∀ j e,es[j]? =some e->((e=i\/listed.getD e false=true) ↔ m.getD j false=true))/\Ext res.blks g1 g'/\(Rm m c).all g'/\(Rm m c).dis/\(∀ b,(Rm m c).blks b->res.blks b\/g1.w.heap.size<=b)/\
   (∃ A,As[i]? =some A/\(A.at c).holds v g')/\ ∀ (k:Nat) q A,l[k]? =some q->As[k]? =some A->listed.getD k false=true->∀ d,q.dst=some d->(A.at c).holds (a.tmps.getD d undef) g') :
  SInv N l As es res Rm a0 g1 (listed.setIfInBounds i true) (a.put o.dst v) g':=by
 have hsz:i<listed.size:=by rw [h.size];exact hi
 have hput:∀ (k:Nat) p d,l[k]? =some p->listed.getD k false=true->p.dst=some d->(a.put o.dst v).tmps.getD d undef=a.tmps.getD d undef:=by
  intro k p d hk hl hp;cases hod:o.dst with
  | none=>rfl
  | some d'=>
   refine mr λhdd=>?_;subst hdd;have:=ww hd i k o p d' ho hk hod hp;subst this;rw [hnl] at hl;cases hl
 have hown:∀ d,o.dst=some d->(a.put o.dst v).tmps.getD d undef=v:=by
  intro d hod;rw [hod];exact ry (by rw [h.sz];exact hN d hod)
 refine ⟨by simp [h.size],by cases hod:o.dst<;> simp [Act.put,h.sz],by cases hod:o.dst<;> exact h.dfr,?_,?_,?_⟩
 .intro k p hk hl j hj;rw [getD_set_true hsz] at hl ⊢;rcases hl with rfl | hl
  .rw [ho] at hk;cases hk;exact .inr (hw j hj)
  .exact .inr (h.closed k p hk hl j hj)
 .intro s hs;have hne:o.dst≠some s:=hs i o ho ((getD_set_true hsz).2 (.inl rfl));have h2:(a.put o.dst v).tmps.getD s undef=a.tmps.getD s undef:=by
   cases hod:o.dst with
   | none=>rfl
   | some d'=>exact mr λhdd=>hne (by rw [hod,hdd])
  rw [h2];exact h.old s λk p hk hl=>hs k p hk ((getD_set_true hsz).2 (.inr hl))
 .obtain ⟨m,c,h1,h2,h3,h4,h5,h6,⟨A0,h7,h8⟩,h9⟩:=hat;refine ⟨m,c,h1,λj e he=>by rw [getD_set_true hsz];exact h2 j e he,h3,h4,h5,h6,λk p C hk hC hl d hdd=>?_⟩;rcases (getD_set_true hsz).1 hl with rfl | hl'
  .rw [ho] at hk;cases hk;rw [h7] at hC;cases hC;rw [hown d hdd];exact h8
  .rw [hput k p d hk hl' hdd];exact h9 k p C hk hC hl' d hdd
theorem WA.drawS(As:List (DA Val))(ps:List (List Nat×List Nat))(es:List Nat)(D:List (List Bool))(Rm:Mask->Val->Rs)(c0:Val)(hm:P.follows .mixedOrders=true)
  (hchk:mChk N l 0 l ps=true) (hdst:dstsD l=true) (hlen:As.length=l.length) (hes:esDis es=true) (hdc:depChk l D es 0 l D=true) (hdep:DepOk As D) (hR0:Rm (noM es.length) c0=res)
  (hops:SOps P l As env es Rm 0 l As ps) (heff:SEff P l As ps env es Rm 0 es)
  (k:∀ c,WN P N g0 T0 ks B (outEnv c l As++env) (Rm (fullM es.length) c)):WA P N g0 T0 l ks B env res:=by
 intro a0 ga hst;obtain ⟨hlps,hone⟩:=ED hchk;have hone':∀ (i:Nat) o p,l[i]? =some o->ps[i]? =some p->mOne N l i o p.1 p.2=true:=λi o p h1 h2=>by have:=hone i o p h1 h2;rwa [Nat.zero_add] at this
 let g1:G:=ga.drew;have e01:Ext No ga g1:=Ext.drew No ga;have hafter:∀ (i:Nat) o,l[i]? =some o->∀ j,waits o j=true->j<i:=by
  intro i o ho j hj;obtain ⟨p,hp⟩:∃ p,ps[i]? =some p:=⟨_,List.getElem?_eq_getElem (by have:=(List.getElem?_eq_some_iff.1 ho).1;omega)⟩
  have hch:=hone' i o p ho hp;simp only [mOne,Bool.and_eq_true] at hch;obtain ⟨x,hx,rfl,hb⟩:=uM.1 hj;have:=List.all_eq_true.1 hch.2.1 x (by simpa using hx);rw [hb] at this;simpa [Nat.blt_eq] using this
 -- what hangs on a choice comes behind it
 have hbehind:∀ listed a g,SInv N l As es res Rm a0 g1 listed a g->∀ (n kk:Nat),kk<=n->∀ o,l[kk]? =some o->listed.getD kk false=true->∀ m,depAt D kk m=true->∃ e,es[m]? =some e/\listed.getD e false=true:=by
  intro listed a g hinv n;induction n with
  | zero=>
   intro kk hk o ho hl m hd;obtain ⟨r,hr,hrow⟩:=uP hdc kk o ho;have hr2:r.getD m false=true:=by simpa [depAt,List.getD,hr] using hd
   rcases uO hrow m hr2 with ⟨h1,h2⟩ | ⟨q,_,h2,_⟩
   .rw [Nat.zero_add] at h1 h2;refine ⟨es[m],List.getElem?_eq_getElem h2,?_⟩;have:es.getD m 0=es[m]:=by simp [List.getD,h2]
    rw [<-this,h1,Nat.zero_add];exact hl
   .have:=hafter kk o ho q h2;omega
  | succ n ih=>
   intro kk hk o ho hl m hd;obtain ⟨r,hr,hrow⟩:=uP hdc kk o ho;have hr2:r.getD m false=true:=by simpa [depAt,List.getD,hr] using hd
   rcases uO hrow m hr2 with ⟨h1,h2⟩ | ⟨q,h1,h2,h3⟩
   .rw [Nat.zero_add] at h1 h2;refine ⟨es[m],List.getElem?_eq_getElem h2,?_⟩;have:es.getD m 0=es[m]:=by simp [List.getD,h2]
    rw [<-this,h1,Nat.zero_add];exact hl
   .have hq:=hafter kk o ho q h2;rw [Nat.zero_add] at h3;exact ih q (by omega) l[q] (List.getElem?_eq_getElem h1) (hinv.closed kk o ho hl q h2) m h3
 have hctx:∀ listed a g c (i:Nat) o p,SInv N l As es res Rm a0 g1 listed a g->l[i]? =some o->ps[i]? =some p->listed.getD i false=false->(∀ j,waits o j=true->listed.getD j false=true)->(∃ T,Ext T g1 g)->
   (∀ (k:Nat) q A,l[k]? =some q->As[k]? =some A->listed.getD k false=true->∀ d,q.dst=some d->(A.at c).holds (a.tmps.getD d undef) g)->
   ∀ s C,look s (preEnv l As c p.1++readEnv env p.2)=some C->C.holds (a.tmps.getD s undef) g:=by
  intro listed a g c i o p hinv ho hp hnl hw ⟨T,hext⟩ hvals s C hC;have hch:=hone' i o p ho hp;simp only [mOne,Bool.and_eq_true] at hch;obtain ⟨_,_,h3,h4,_⟩:=hch;rcases List.mem_append.1 (BD hC) with h | h
  .obtain ⟨j,q,A,hj,hq,hA,hd,rfl⟩:=qf h;exact hvals j q A hq hA (hw j (List.all_eq_true.1 h3 j hj)) s hd
  .obtain ⟨hs,hlk⟩:=oI h;have hold:=hinv.old s λkk q hq hl hqd=>by
    have h5:=List.all_eq_true.1 h4 q (List.mem_of_getElem? hq);rw [hqd] at h5;have h6:memB s p.2=true:=gG.2 hs;simp only [h6,Bool.not_true,Bool.false_or] at h5;have:=hinv.closed kk q hq hl i h5;rw [hnl] at this;cases this
   rw [hold];exact C.mono hext (C.mono e01 (hst.henv s C hlk))
 have key:∀ fuel listed a g,SInv N l As es res Rm a0 g1 listed a g->undone listed l.length=fuel->wpAny P .any l.toArray (KF.sem P ks B) fuel listed a g.w:=by
  intro fuel;induction fuel with
  | zero=>
   intro listed a g hinv hu;have hall:=wy hu;refine ⟨?_,?_⟩
   .rw [List.eq_nil_iff_forall_not_mem];intro i hi;obtain ⟨h1,h2,_⟩:=sI.1 hi;have h3:=hall i h1;have hsz:i<listed.size:=by rw [hinv.size];exact h1
    simp [Array.getD,hsz] at h2 h3;rw [h2] at h3;cases h3
   .obtain ⟨m,c,h1,h2,hext,h4,h5,h6,h7⟩:=hinv.here;have hmM:m=fullM es.length:=by refine full_of h1 λj hj=>?_;have he:=List.getElem?_eq_getElem hj;obtain ⟨o,p,A,q1,_⟩:=EG heff j _ he;exact (h2 j _ he).1 (hall _ (List.getElem?_eq_some_iff.1 q1).1)
    subst hmM;have hga:Ext res.blks ga g:=(e01.no).trans hext (λ_ _ h=>h);refine k c a g ⟨hinv.sz,hinv.dfr,λs C hC=>?_,h4,h5,λb hb=>?_,?_⟩
    .rcases wu hC with h | ⟨k1,k2⟩
     .obtain ⟨i,o,A,hi,hA,hd,rfl⟩:=qU h;exact h7 i o A hi hA (hall i (List.getElem?_eq_some_iff.1 hi).1) s hd
     .have hold:=hinv.old s λkk q hq _ hqd=>by
       have hkl:=(List.getElem?_eq_some_iff.1 hq).1;obtain ⟨A,hA⟩:∃ A,As[kk]? =some A:=⟨_,List.getElem?_eq_getElem (by rw [hlen];exact hkl)⟩
       exact k1 _ (sW hq hA hqd)
      rw [hold];exact C.mono hga (hst.henv s C k2)
    .rcases h6 b hb with h | h
     .exact hst.own b h
     .exact .inl (Nat.le_trans hst.ext.size h)
    .refine hst.ext.trans hga (λb hb hT=>?_);rcases hst.own b hT with h1 | h1
     .omega
     .exact h1
  | succ fuel ih=>
   intro listed a g hinv hu;refine ⟨λhr=>?_,λi hi=>?_⟩
   .exfalso;obtain ⟨i,h1,h2,h3⟩:=BG (listed:=listed) (n:=l.length) (by omega);have:i∈Region.ready .any l.toArray listed:=by
     refine sI.2 ⟨h1,?_,l[i],List.getElem?_eq_getElem h1,λj hj=>h3 j (hafter i _ (List.getElem?_eq_getElem h1) j hj)⟩;have hsz:i<listed.size:=by rw [hinv.size];exact h1
     simp [Array.getD,hsz] at h2 ⊢;exact h2
    rw [hr] at this;cases this
   .obtain ⟨hil,hnl',o,ho,hw⟩:=sI.1 hi;have hsz:i<listed.size:=by rw [hinv.size];exact hil
    have hnl:listed.getD i false=false:=by
     simp [Array.getD,hsz] at hnl' ⊢;exact hnl'
    obtain ⟨p,hp⟩:∃ p,ps[i]? =some p:=⟨_,List.getElem?_eq_getElem (by omega)⟩
    obtain ⟨A,hA⟩:∃ A,As[i]? =some A:=⟨_,List.getElem?_eq_getElem (by omega)⟩
    have hch:=hone' i o p ho hp;simp only [mOne,Bool.and_eq_true] at hch;obtain ⟨hc1,_,hc3,_,hc5⟩:=hch;have hN:∀ d,o.dst=some d->d<N:=λd hd=>by rw [hd] at hc1;simpa [Nat.blt_eq] using hc1
    have hund:undone (listed.setIfInBounds i true) l.length=fuel:=by have:=BF hsz hnl l.length hil;omega
    obtain ⟨m,c,hm1,hm2,hext,hRa,hRd,hRb,hvals⟩:=hinv.here;have hcx0:=hctx listed a g c i o p hinv ho hp hnl hw ⟨_,hext⟩ hvals;unfold wpOp;simp only [List.getElem?_toArray,ho];by_cases hie:i∈es
    . -- an effect
     obtain ⟨j,hj⟩:=List.getElem?_of_mem hie;have hjl:=(List.getElem?_eq_some_iff.1 hj).1;have hmf:m.getD j false=false:=by
      cases hb:m.getD j false with
      | false=>rfl
      | true=>
       have:=(hm2 j i hj).2 hb;rw [hnl] at this;cases this
     have hmay:mayIn l es i m=true:=F4 ho hw hnl hinv.closed hm2;obtain ⟨o',p',A',q1,q2,q3,q4,q8⟩:=EG heff j i hj;rw [ho] at q1;cases q1;rw [hp] at q2;cases q2;rw [Nat.zero_add] at q8;obtain ⟨us,out,q5,q6,q7⟩:=AllIn.at q8 m (by rw [<-hm1];exact BL) hmf hmay;rw [if_pos (by simp [Region.wanted,q4])];refine .inl (q7 c a g _ _ ⟨hcx0,hRa⟩ hRd λt v g' he hv r1 r2 r3=>?_);have hpick:∀ b,((Rm m c).pick us).blks b->(Rm m c).blks b:=λb ⟨y,hy,hb⟩=>⟨y,(List.mem_filter.1 hy).1,hb⟩
     have hext':Ext res.blks g1 g':=hext.trans he (λb hb hT=>by
      rcases hRb b (hpick b hT) with h | h
      .exact h
      .omega)
     refine ih _ _ _ (hinv.put hil ho hdst hN hnl hw ⟨setM m j,upd c j t,by rw [Ay];exact hm1,λj2 e2 he2=>?_,hext',?_,?_,?_,⟨A',q3,hv⟩,λkk q C hq hC hl d hd=>?_⟩) hund
     .rw [FZ m j j2 (by omega),<-hm2 j2 e2 he2];constructor
      .rintro (h | h)
       .subst h;exact .inl (F3 hes j2 j e2 he2 hj)
       .exact .inr h
      .rintro (h | h)
       .subst h;rw [hj] at he2;exact .inl (Option.some.inj he2).symm
       .exact .inr h
     .intro y hy;have hy:=(q5 (upd c j t)).mem y hy;rw [q6] at hy;rcases List.mem_append.1 hy with hy | hy
      .exact r1 y hy
      .exact y.2.stay he (λb hb hT=>hRd.split us b ⟨y,hy,hb⟩ hT) (hRa y (List.mem_filter.1 hy).1)
     .refine (q5 (upd c j t)).dis ?_;rw [q6];refine List.pairwise_append.2 ⟨r2,hRd.filter _,λy hy z hz b hyb hzb=>?_⟩;rcases r3 b ⟨y,hy,hyb⟩ with hp | hp
      .exact hRd.split us b ⟨z,hz,hzb⟩ hp
      .have:=z.2.lt (hRa z (List.mem_filter.1 hz).1) hzb;omega
     .rintro b ⟨y,hy,hb⟩;have hy:=(q5 (upd c j t)).mem y hy;rw [q6] at hy;rcases List.mem_append.1 hy with hy | hy
      .rcases r3 b ⟨y,hy,hb⟩ with hp | hp
       .exact hRb b (hpick b hp)
       .exact .inr (Nat.le_trans hext.size hp)
      .exact hRb b ⟨y,(List.mem_filter.1 hy).1,hb⟩
     .have hnd:depAt D kk j=false:=by
       cases hdd:depAt D kk j with
       | false=>rfl
       | true=>
        obtain ⟨e,he1,he2⟩:=hbehind listed a g hinv kk kk (Nat.le_refl _) q hq hl j hdd;rw [hj] at he1;cases he1;rw [hnl] at he2;cases he2
      rw [BJ hdep kk C hC j hnd];exact (C.at c).mono he (hvals kk q C hq hC hl d hd)
    . -- every other one
     obtain ⟨rk,hrk,hob⟩:=Kk hops i o A p ho hA hp (by rw [Nat.zero_add];exact hie);rw [Nat.zero_add] at hrk;have hmay:mayIn l es i m=true:=F4 ho hw hnl hinv.closed hm2;have hsub:=AllIn.at hrk m (by rw [<-hm1];exact BL) hmay c;have hcx:Cx (preEnv l As c p.1++readEnv env p.2) (rk c) a g:=⟨hcx0,λy hy=>hRa y (hsub.mem y hy)⟩
     have hK:∀ v g',Ext No g g'->(A.at c).holds v g'->wpAny P .any l.toArray (KF.sem P ks B) fuel (listed.setIfInBounds i true) (a.put o.dst v) g'.w:=by
      intro v g' he hv;refine ih _ _ _ (hinv.put hil ho hdst hN hnl hw ⟨m,c,hm1,λj2 e2 he2=>?_,hext.trans' he,hRa.stay he (λ_ _ hf=>hf),hRd,hRb,⟨A,hA,hv⟩,λkk q C hq hC hl d hd=>(C.at c).mono he (hvals kk q C hq hC hl d hd)⟩) hund;rw [hm2 j2 e2 he2];constructor
      .rintro (h | h)
       .exact (hie (by rw [<-h];exact List.mem_of_getElem? he2)).elim
       .exact h
      .exact .inr
     have hobc:=hob c;unfold DObl at hobc;split at hobc
     .rename_i hgd;rw [if_pos (by simp [Region.wanted,hgd])];exact .inl (hobc a g _ _ hcx hK)
     .rename_i j want hgd;obtain ⟨oj,dj,b,hj,hdj,hor0⟩:=hobc;have hjp:j∈p.1:=by rw [hgd] at hc5;exact gG.1 hc5
      have hljs:=(List.getElem?_eq_some_iff.1 hj).1;obtain ⟨pj,hpj⟩:∃ pj,ps[j]? =some pj:=⟨_,List.getElem?_eq_getElem (by omega)⟩
      have hchj:=hone' j oj pj hj hpj;simp only [mOne,Bool.and_eq_true] at hchj;have hdN:dj<a.tmps.size:=by rw [hinv.sz];have:=hchj.1;rw [hdj] at this;simpa [Nat.blt_eq] using this
      rcases hor0 with ⟨hlk,hor⟩ | ⟨hlk,hund2⟩
      rotate_left
      .have hwd:=wo (ops:=l.toArray) (o:=o) (oj:=oj) (j:=j) (dj:=dj) (want:=want) (a:=a) (g:=g) hgd (by simpa using hj) hdj hlk hcx.henv hdN;rw [if_neg (by rw [hwd];decide)];exact hK undef g (Ext.refl _ _) (by rw [hund2];rfl)
      have hwd:=xu (ops:=l.toArray) (o:=o) (oj:=oj) (j:=j) (dj:=dj) (b:=b) (want:=want) (a:=a) (g:=g) hgd (by simpa using hj) hdj (Opd.tmp hlk) hcx.henv hdN;rcases hor with ⟨hb,hop⟩ | ⟨hb,hany⟩
      .rw [if_pos (by rw [hwd,hb];cases want<;> rfl)];exact .inl (hop a g _ _ hcx hK)
      .rw [if_neg (by rw [hwd,hb];cases want<;> decide)];exact hK undef g (Ext.refl _ _) (by rw [hany];rfl)
 have hf:∀ j,(Array.replicate l.length false).getD j false=false:=λj=>by simp [Array.getD]
 have hstart:SInv N l As es res Rm a0 g1 (Array.replicate l.length false) a0 g1:=by
  refine ⟨by simp,hst.sz,hst.dfr,?_,λ_ _=>rfl,noM es.length,c0,BM _,?_,Ext.refl _ _,?_,?_,?_,?_⟩
  .intro kk o _ hl;rw [hf] at hl;cases hl
  .intro j e he;rw [hf,Kl]
  .rw [hR0];exactλy hy=>y.2.stay e01 (λ_ _ hf=>hf) (hst.hres y hy)
  .rw [hR0];exact hst.dis
  .rw [hR0];exactλb hb=>.inl hb
  .intro kk o A _ _ hl;rw [hf] at hl;cases hl
 have hu0:undone (Array.replicate l.length false) l.length=l.length:=by
  unfold undone;rw [List.countP_eq_length.2]
  .simp
  .intro i _;simp [Array.getD]
 have:=key l.length _ a0 g1 hstart hu0;rw [show l.toArray.size=l.length from rfl];exact this
theorem W.drawS{id:Nat}(As:List (DA Val))(ps:List (List Nat×List Nat))(es:List Nat)(D:List (List Bool))(Rm:Mask->Val->Rs)(c0:Val)(hm:P.follows .mixedOrders=true)
  (hchk:mChk N l 0 l ps=true) (hdst:dstsD l=true) (hlen:As.length=l.length) (hes:esDis es=true) (hdc:depChk l D es 0 l D=true) (hdep:DepOk As D) (hR0:Rm (noM es.length) c0=res)
  (hops:SOps P l As env es Rm 0 l As ps) (heff:SEff P l As ps env es Rm 0 es)
  (k:∀ c,WN P N g0 T0 ks B (outEnv c l As++env) (Rm (fullM es.length) c)):W P N g0 T0 (.region id l.toArray true) ks B env res:=
 W.ofA hm (WA.drawS As ps es D Rm c0 hm hchk hdst hlen hes hdc hdep hR0 hops heff k)
end
end Go.Dec
/-
  Known closures, calls that write their caller's variables, and resources under other keys.
-/
namespace Go.Dec
open Go
variable {Q:Exit->Act->World->Prop}{c:Code}{f:FuncId}{l:List Oper}{ops:Array Oper}
theorem Rs.xw{r:Rs}{g:G}:r.all g ↔ ∀ R∈r.map Prod.snd,R.holds g:=by
 constructor
 .intro h R hR;obtain ⟨x,hx,rfl⟩:=List.mem_map.1 hR;exact h x hx
 .intro h x hx;exact h x.2 (List.mem_map.2 ⟨x,hx,rfl⟩)
theorem Rs.y7{r:Rs}{b:Nat}:r.blks b ↔ ∃ R∈r.map Prod.snd,R.blk b:=by
 constructor
 .rintro ⟨x,hx,hb⟩;exact ⟨x.2,List.mem_map.2 ⟨x,hx,rfl⟩,hb⟩
 .rintro ⟨R,hR,hb⟩;obtain ⟨x,hx,rfl⟩:=List.mem_map.1 hR;exact ⟨x,hx,hb⟩
theorem Rs.xx{r:Rs}:r.dis ↔ (r.map Prod.snd).Pairwise (λx y=>∀ b,x.blk b->¬ y.blk b):=by
 unfold Rs.dis;rw [List.pairwise_map]
theorem Rs.EH{r s:Rs}(h:r.map Prod.snd=s.map Prod.snd):r.blks=s.blks:=by
 funext b;exact propext ⟨λhb=>Rs.y7.2 (h▸Rs.y7.1 hb),λhb=>Rs.y7.2 (h▸Rs.y7.1 hb)⟩
theorem aR.keys{P:Program}{As:List Asn}{rin rin':Rs}{ρ:Type}{A:ρ->Asn}{out out':ρ->Rs}(h:aR P f As rin A out)(h1:rin.map Prod.snd=rin'.map Prod.snd)
  (h2:∀ x,(out x).map Prod.snd=(out' x).map Prod.snd):aR P f As rin' A out':=by
 intro g vs hvs hr hd;refine (h g vs hvs (Rs.xw.2 (h1▸Rs.xw.1 hr)) (Rs.xx.2 (h1▸Rs.xx.1 hd))).mono ?_;rintro e w' ⟨x,v,g',k1,k2,k3,k4,k5,k6,k7⟩;rw [Rs.EH h1] at k3 k7;refine ⟨x,v,g',k1,k2,k3,k4,Rs.xw.2 (h2 x▸Rs.xw.1 k5),Rs.xx.2 (h2 x▸Rs.xx.1 k6),λb hb=>k7 b ?_⟩;rw [Rs.EH (h2 x)];exact hb
def cloA(f:FuncId)(Cs:List Asn):Asn:=
 ⟨λv g=>∃ caps:List Value,v= .func (.func f) #[] caps.toArray/\All2 Cs caps g,λe ⟨caps,h,k⟩=>⟨caps,h,All2.mono e k⟩⟩
theorem bg.clo(f:FuncId)(Cs:List Asn):bg 1 false (cloA f Cs):=λv g ⟨caps,hv,_⟩=>⟨[v],by rw [hv];rfl,rfl,λ_=>rfl,rfl,λc hc=>by rw [List.mem_singleton.1 hc,hv];rfl⟩
section
variable {P:Program} {N:Nat} {g0:G} {T0:Nat->Prop} {env:Env} {res:Rs} {d:Option Tmp} {ty:TypeId} {pos:String} {aft:Array Edge} {gd:Option (Nat×Bool)}
theorem Opd.cloFn:Opd env (.func f) (cloA f []):=λa g he=>⟨[],rfl,trivial⟩
theorem Op1.makeClo{cap:List Operand}{Cs:List Asn}(hcap:Opds env cap Cs):Op1 P ⟨d,.makeFunc (.func f) #[] cap.toArray,ty,pos,aft,gd⟩ env res (cloA f Cs):=
 Op1.same λa g hc=>⟨.func (.func f) #[] (cap.map a.eval).toArray,by simp [execOp,Instr.makeFunc],_,rfl,Opds.all hc.henv hcap⟩
theorem yB{caps:List Value}(hcall:∀ az w,(callFunc f az).run P w= .ok (.enter f az) w){x:Operand}{xs:List Operand}{ats:Array TypeId}(a:Act)(w:World)(hx:a.eval x= .func (.func f) #[] caps.toArray) :
  (execOp a.eval ⟨d,.call ⟨.value x,xs.toArray,ats⟩,ty,pos,aft,gd⟩).run P w= .ok (.enter f (xs.map a.eval++caps).toArray) w:=by
 have h:=hcall ((xs.map a.eval).toArray++caps.toArray) w;simp [execOp,resolve,hx,Deferred.ofValue,invoke] at h ⊢;exact h
theorem OpR.callClo{x:Operand}{xs:List Operand}{ats:Array TypeId}{As Cs:List Asn}{us:List Nat}{rin:Rs}{ρ:Type}{A:ρ->Asn}{out:ρ->Rs}(hcall:∀ az w,(callFunc f az).run P w= .ok (.enter f az) w)
  (hx:Opd env x (cloA f Cs)) (hf:aR P f (As++Cs) rin A out) (hr:res.pick us=rin) (h:Opds env xs As):OpR P ⟨d,.call ⟨.value x,xs.toArray,ats⟩,ty,pos,aft,gd⟩ env res us A out:=
 OpR.qF λa g hc hd=>by
  obtain ⟨caps,hv,hcs⟩:=hx a g hc.henv;refine ⟨f,_,yB hcall a g.w hv,?_⟩;subst hr;exact hf g _ (All2.append (Opds.all hc.henv h) hcs) (λy hy=>hc.hres y (List.mem_filter.1 hy).1) (hd.filter _)
theorem WL.weakR{res':Rs}(hr:RSub res' res)(h:WL P N g0 T0 ops Q l env res'):WL P N g0 T0 ops Q l env res:=
 λa g hst=>h a g ⟨hst.sz,hst.dfr,hst.henv,λx hx=>hst.hres x (hr.mem x hx),hr.dis hst.dis,λb ⟨x,hx,hb⟩=>hst.own b ⟨x,hr.mem x hx,hb⟩,hst.ext⟩
theorem OpR.allocF{T:TypeId}(key:Nat)(hz:∀ w,(zeroValue T).run P w= .ok .nilFunc w) :
  OpR P ⟨d,.alloc T,ty,pos,aft,gd⟩ env res [] (λb:Nat=>Bp b 0) (λb=>[(key,Bx 1 false T (Asn.eq .nilFunc) b)]):=by
 intro a g K Q hc hd hK;have hrun:(execOp a.eval ⟨d,.alloc T,ty,pos,aft,gd⟩).run P g.w= .ok (.value (.pointer (some ⟨g.w.heap.size,0,none⟩))) (g.alloc (.cells #[.nilFunc] T) 0).w:=by simp [execOp,Instr.alloc,hz,newVar,newRow,Value.cells,G.alloc]
 show Oper.upon P _ a K Q ((execOp a.eval _).run P g.w);rw [hrun];refine hK g.w.heap.size _ (g.alloc (.cells #[.nilFunc] T) 0) (Ext.alloc _ _ _ _) rfl (λy hy=>?_) (List.pairwise_singleton _ _) (λb hb=>.inr (by rw [(iA rfl).1 hb];exact Nat.le_refl _));rw [List.mem_singleton.1 hy];exact BI (cs:=[.nilFunc]) rfl (λ_=>rfl) (λc hc=>by rw [List.mem_singleton.1 hc];rfl) rfl
section
variable {ks:List KF} {B:Exit->Act->World->Prop}
theorem W.sr{id:Nat}(h:WL P N g0 T0 l.toArray (KF.sem P (.seq c :: ks) B) l env res):W P N g0 T0 (.seq (.region id l.toArray false) c) ks B env res:=W.seq (W.region h)
theorem WL.ns(h:W P N g0 T0 c ks B env res):WL P N g0 T0 ops (KF.sem P (.seq c :: ks) B) [] env res:=WL.nil (WN.seq h)
theorem WL.nr{id:Nat}(h:WL P N g0 T0 l.toArray (KF.sem P (.seq c :: ks) B) l env res):WL P N g0 T0 ops (KF.sem P (.seq (.seq (.region id l.toArray false) c) :: ks) B) [] env res:=WL.ns (W.sr h)
theorem WL.nr1{id:Nat}(h:WL P N g0 T0 l.toArray (KF.sem P ks B) l env res):WL P N g0 T0 ops (KF.sem P (.seq (.region id l.toArray false) :: ks) B) [] env res:=WL.ns (W.region h)
theorem WL.mv{rest:List Oper}{d t:Nat}{A:Asn}(h:look t env=some A)(hd:Nat.blt d N=true)(k:WL P N g0 T0 ops Q rest ((d,A) :: env) res):WL P N g0 T0 ops Q (⟨some d,.move (.tmp t),ty,pos,aft,none⟩ :: rest) env res:=WL.op hd (Op1.move (.tmp h)) k
theorem WL.gv{rest:List Oper}{d t:Nat}{A:Asn}(h:look t env=some A)(hd:Nat.blt d N=true)(k:WL P N g0 T0 ops Q rest ((d,A) :: env) res):WL P N g0 T0 ops Q (⟨some d,.assign (.tmp t),ty,pos,aft,none⟩ :: rest) env res:=WL.op hd (Op1.assign (.tmp h)) k
end
end
end Go.Dec
