/-
  Regions whose order is drawn, with several operations that use resources, one behind the other.
-/
import Derived.Test.YtlegkjbldofkmaaGreatDec10
set_option linter.unusedVariables false
set_option linter.unusedSimpArgs false
namespace Go.Dec
open Go
abbrev Val:=Nat→Tok
def upd(c:Val)(m:Nat)(k:Tok):Val:=fun i=>match Nat.beq i m with
 | true=>k
 | false=>c i
def bk(k:Tok):Nat:=match k with
 | none=>0
 | some p=>p.1
section
variable {P:Program} {env:Env} {res:Rs}
theorem OpR.via{o:Oper}{us:List Nat}{ρ:Type}{A:ρ→Asn}{out:ρ→Rs}(f:Tok→ρ)(g:ρ→Tok)(hfg:∀ x,f (g x)=x)(h:OpR P o env res us A out):OpR P o env res us (fun k=>A (f k)) (fun k=>out (f k)):=
 fun a gh K Q hc hd hK=>h a gh K Q hc hd fun x v g' e h1 h2 h3 h4=>hK (g x) v g' e (by dsimp only;rw [hfg];exact h1) (by dsimp only;rw [hfg];exact h2) (by dsimp only;rw [hfg];exact h3) (by dsimp only;rw [hfg];exact h4)
theorem OpR.viaB{o:Oper}{us:List Nat}{A:Nat→Asn}{out:Nat→Rs}(h:OpR P o env res us A out):OpR P o env res us (fun k:Tok=>A (bk k)) (fun k=>out (bk k)):=OpR.via bk (fun b=>some (b,0)) (fun _=>rfl) h
theorem OpR.viaU{o:Oper}{us:List Nat}{A:Unit→Asn}{out:Unit→Rs}(h:OpR P o env res us A out):OpR P o env res us (fun _:Tok=>A ()) (fun _=>out ()):=OpR.via (fun _=>()) (fun _=>none) (fun _=>rfl) h
end
def mOne(N:Nat)(l:List Oper)(i:Nat)(o:Oper)(pre reads:List Nat):Bool:=
 (match o.dst with
  | some d=>Nat.blt d N
  | none=>true) &&
 (o.after.toList.all (fun x=>Nat.blt x.on i || !Region.binds .any x) &&
 (pre.all (fun j=>waits o j) &&
 (l.all (fun k=>match k.dst with
  | some s=>!memB s reads || waits k i
  | none=>true) &&
 (match o.guard with
  | some (j,_)=>memB j pre
  | none=>true))))
def mChk(N:Nat)(l:List Oper):Nat→List Oper→List (List Nat×List Nat)→Bool
 | _,[],[]=>true
 | i,o :: os,p :: ps=>mOne N l i o p.1 p.2 && mChk N l (i+1) os ps
 | _,_,_=>false
theorem mChk_at{N:Nat}{l0:List Oper}:∀ {i:Nat} {l:List Oper} {ps:List (List Nat×List Nat)},mChk N l0 i l ps=true→l.length=ps.length∧ ∀ (j:Nat) o p,l[j]? =some o→ps[j]? =some p→mOne N l0 (i+j) o p.1 p.2=true
 | _,[],[],_=>⟨rfl,fun j o p h=>by simp at h⟩
 | _,[],_ :: _,h=>by cases h
 | _,_ :: _,[],h=>by cases h
 | i,o :: l,p :: ps,h=>by
  unfold mChk at h
  rw [Bool.and_eq_true] at h
  obtain ⟨h1,h2⟩:=mChk_at h.2
  refine ⟨by simp [h1],fun j o' p' hj hp=>?_⟩
  cases j with
  | zero=>simp at hj hp;subst hj hp;exact h.1
  | succ j=>simp at hj hp;have:=h2 j o' p' hj hp;rwa [show i+1+j=i+(j+1) by omega] at this
def depAt(D:List (List Bool))(k m:Nat):Bool:=(D.getD k []).getD m false
def depRow(l:List Oper)(D:List (List Bool))(es:List Nat)(k:Nat)(o:Oper):Nat→List Bool→Bool
 | _,[]=>true
 | m,b :: bs=>(!b || (Nat.beq (es.getD m 0) k && Nat.blt m es.length) || (List.range l.length).any (fun j=>waits o j && depAt D j m)) && depRow l D es k o (m+1) bs
def depChk(l0:List Oper)(D0:List (List Bool))(es:List Nat):Nat→List Oper→List (List Bool)→Bool
 | _,[],[]=>true
 | k,o :: l,r :: D=>depRow l0 D0 es k o 0 r && depChk l0 D0 es (k+1) l D
 | _,_,_=>false
theorem depRow_at{l:List Oper}{D:List (List Bool)}{es:List Nat}{k:Nat}{o:Oper}:∀ {m:Nat} {r:List Bool},depRow l D es k o m r=true→∀ (j:Nat),r.getD j false=true→(es.getD (m+j) 0=k∧m+j<es.length)∨ ∃ q,q<l.length∧waits o q=true∧depAt D q (m+j)=true
 | _,[],_,j,h=>by simp at h
 | m,b :: bs,h,j,hj=>by
  unfold depRow at h
  rw [Bool.and_eq_true] at h
  cases j with
  | zero=>
   simp only [List.getD_cons_zero] at hj
   subst hj
   have h1:=h.1
   simp only [Bool.not_true,Bool.false_or,Bool.or_eq_true,Bool.and_eq_true,List.any_eq_true,List.mem_range] at h1
   rcases h1 with ⟨h2,h3⟩ | ⟨q,h2,h3⟩
   ·exact .inl ⟨Nat.eq_of_beq_eq_true h2,by simpa [Nat.blt_eq] using h3⟩
   ·exact .inr ⟨q,h2,h3⟩
  | succ j=>
   have:=depRow_at h.2 j (by simpa using hj)
   rwa [show m+1+j=m+(j+1) by omega] at this
theorem depChk_at{l0:List Oper}{D0:List (List Bool)}{es:List Nat}:∀ {k:Nat} {l:List Oper} {D:List (List Bool)},depChk l0 D0 es k l D=true→∀ (i:Nat) o,l[i]? =some o→∃ r,D[i]? =some r∧depRow l0 D0 es (k+i) o 0 r=true
 | _,[],_,_,i,o,h=>by simp at h
 | _,_ :: _,[],h,_,_,_=>by cases h
 | k,o :: l,r :: D,h,i,o',hi=>by
  unfold depChk at h
  rw [Bool.and_eq_true] at h
  cases i with
  | zero=>simp at hi;subst hi;exact ⟨r,rfl,h.1⟩
  | succ i=>
   simp at hi
   obtain ⟨r',h1,h2⟩:=depChk_at h.2 i o' hi
   exact ⟨r',by simpa using h1,by rwa [show k+1+i=k+(i+1) by omega] at h2⟩
def DepOk:List (DA Val)→List (List Bool)→Prop
 | [],[]=>True
 | A :: As,r :: D=>(∀ m,r.getD m false=false→∀ c t,A.at (upd c m t)=A.at c)∧DepOk As D
 | _,_=>False
theorem DepOk_at:∀ {As:List (DA Val)} {D:List (List Bool)},DepOk As D→∀ (k:Nat) A,As[k]? =some A→∀ m,depAt D k m=false→∀ c t,A.at (upd c m t)=A.at c
 | [],_,_,k,A,h=>by simp at h
 | _ :: _,[],h,_,_,_=>by exact h.elim
 | A :: As,r :: D,h,k,A',hk=>by
  cases k with
  | zero=>simp at hk;subst hk;intro m hm;exact h.1 m (by simpa [depAt] using hm)
  | succ k=>
   simp at hk
   intro m hm
   exact DepOk_at h.2 k A' hk m (by simpa [depAt] using hm)
def mayAt(l:List Oper)(es:List Nat)(k m:Nat):Bool:=
 !((List.range es.length).any fun j=>match l[k]?,l[es.getD j 0]? with
  | some ok,some oe=>(Nat.ble m j && waits ok (es.getD j 0)) || (Nat.blt j m && waits oe k)
  | _,_=>false)
def MOps(P:Program)(l:List Oper)(As:List (DA Val))(base:Env)(es:List Nat)(Rm:Nat→Val→Rs):Nat→List Oper→List (DA Val)→List (List Nat×List Nat)→Prop
 | i,o :: os,A :: Bs,p :: ps=>(memB i es=true∨ ∃ rk:Val→Rs,(∀ m,Nat.ble m es.length=true→mayAt l es i m=true→∀ c,RSub (rk c) (Rm m c))∧ ∀ c,DObl P l o (preEnv l As c p.1++readEnv base p.2) (rk c) (A.at c))∧MOps P l As base es Rm (i+1) os Bs ps
 | _,_,_,_=>True
theorem mo{P:Program}{l:List Oper}{As:List (DA Val)}{base:Env}{es:List Nat}{Rm:Nat→Val→Rs}{i:Nat}{o:Oper}{p:List Nat×List Nat}{A:DA Val}(h:∀ c,DObl P l o (preEnv l As c p.1++readEnv base p.2) [] (A.at c)) :
  memB i es=true∨ ∃ rk:Val→Rs,(∀ m,Nat.ble m es.length=true→mayAt l es i m=true→∀ c,RSub (rk c) (Rm m c))∧ ∀ c,DObl P l o (preEnv l As c p.1++readEnv base p.2) (rk c) (A.at c):=
 .inr ⟨fun _=>[],fun _ _ _ _=>trivial,h⟩
theorem MOps_at{P:Program}{l0:List Oper}{As0:List (DA Val)}{base:Env}{es:List Nat}{Rm:Nat→Val→Rs}:∀ {i:Nat} {l:List Oper} {As:List (DA Val)} {ps:List (List Nat×List Nat)},MOps P l0 As0 base es Rm i l As ps→
  ∀ (j:Nat) o A p,l[j]? =some o→As[j]? =some A→ps[j]? =some p→¬ (i+j)∈es→∃ rk:Val→Rs,(∀ m,Nat.ble m es.length=true→mayAt l0 es (i+j) m=true→∀ c,RSub (rk c) (Rm m c))∧ ∀ c,DObl P l0 o (preEnv l0 As0 c p.1++readEnv base p.2) (rk c) (A.at c)
 | i,o :: l,A :: As,p :: ps,h,j,o',A',p',h1,h2,h3,h4=>by
  cases j with
  | zero=>
   simp at h1 h2 h3
   subst h1 h2 h3
   exact h.1.resolve_left fun hb=>h4 (memB_iff.1 hb)
  | succ j=>
   simp at h1 h2 h3
   have:=MOps_at h.2 j o' A' p' h1 h2 h3 (by rwa [show i+1+j=i+(j+1) by omega])
   rwa [show i+1+j=i+(j+1) by omega] at this
 | _,[],_,_,_,j,_,_,_,h,_,_,_=>by simp at h
 | _,_ :: _,[],_,_,j,_,_,_,_,h,_,_=>by simp at h
 | _,_ :: _,_ :: _,[],_,j,_,_,_,_,_,h,_=>by simp at h
def MEff(P:Program)(l:List Oper)(As:List (DA Val))(ps:List (List Nat×List Nat))(base:Env)(Rm:Nat→Val→Rs):Nat→List Nat→Prop
 | _,[]=>True
 | m,e :: es=>(∃ (o:Oper) (p:List Nat×List Nat) (A:DA Val) (us:List Nat) (out:Val→Rs),l[e]? =some o∧ps[e]? =some p∧As[e]? =some A∧o.guard=none∧
   (∀ c,Rm (m+1) c=out c++(Rm m c).drop us)∧(∀ c k,Rm m (upd c m k)=Rm m c)∧
   ∀ c,OpR P o (preEnv l As c p.1++readEnv base p.2) (Rm m c) us (fun k=>A.at (upd c m k)) (fun k=>out (upd c m k)))∧MEff P l As ps base Rm (m+1) es
theorem MEff_at{P:Program}{l:List Oper}{As:List (DA Val)}{ps:List (List Nat×List Nat)}{base:Env}{Rm:Nat→Val→Rs}:∀ {m:Nat} {es:List Nat},MEff P l As ps base Rm m es→∀ (j e:Nat),es[j]? =some e→
  ∃ (o:Oper) (p:List Nat×List Nat) (A:DA Val) (us:List Nat) (out:Val→Rs),l[e]? =some o∧ps[e]? =some p∧As[e]? =some A∧o.guard=none∧
   (∀ c,Rm (m+j+1) c=out c++(Rm (m+j) c).drop us)∧(∀ c k,Rm (m+j) (upd c (m+j) k)=Rm (m+j) c)∧
   ∀ c,OpR P o (preEnv l As c p.1++readEnv base p.2) (Rm (m+j) c) us (fun k=>A.at (upd c (m+j) k)) (fun k=>out (upd c (m+j) k))
 | _,[],_,j,e,h=>by simp at h
 | m,e :: es,h,j,e',hj=>by
  cases j with
  | zero=>simp at hj;subst hj;exact h.1
  | succ j=>
   simp at hj
   have:=MEff_at h.2 j e' hj
   rwa [show m+1+j=m+(j+1) by omega] at this
def AllUpTo(Q:Nat→Prop):Nat→Prop
 | 0=>Q 0
 | M+1=>AllUpTo Q M∧Q (M+1)
theorem AllUpTo.at{Q:Nat→Prop}:∀ {M:Nat},AllUpTo Q M→∀ m,Nat.ble m M=true→Q m
 | 0,h,m,hm=>by
  have:m=0:=by have:=Nat.le_of_ble_eq_true hm;omega
  subst this;exact h
 | M+1,h,m,hm=>by
  by_cases e:m=M+1
  ·subst e;exact h.2
  ·exact AllUpTo.at h.1 m (Nat.ble_eq_true_of_le (by have:=Nat.le_of_ble_eq_true hm;omega))
theorem upd_dep{r:List Bool}{j m:Nat}(hj:r.getD j false=true)(hm:r.getD m false=false)(c:Val)(t:Tok):upd c m t j=c j:=by
 unfold upd
 cases hb:Nat.beq j m with
 | false=>rfl
 | true=>
  have:=Nat.eq_of_beq_eq_true hb
  subst this
  rw [hj] at hm;cases hm
def esChk(l:List Oper):List Nat→Bool
 | []=>true
 | [e]=>Nat.blt e l.length
 | e :: f :: es=>(match l[f]? with
  | some o=>waits o e
  | none=>false) && esChk l (f :: es)
theorem esChk_at{l:List Oper}:∀ {es:List Nat},esChk l es=true→∀ (j e f:Nat),es[j]? =some e→es[j+1]? =some f→∃ o,l[f]? =some o∧waits o e=true
 | [],_,j,e,f,h,_=>by simp at h
 | [_],_,j,e,f,_,h=>by simp at h
 | e :: f :: es,h,j,e',f',h1,h2=>by
  unfold esChk at h
  rw [Bool.and_eq_true] at h
  cases j with
  | zero=>
   simp at h1 h2
   subst h1 h2
   have h3:=h.1
   split at h3
   ·rename_i o ho;exact ⟨o,ho,h3⟩
   ·cases h3
  | succ j=>exact esChk_at h.2 j e' f' (by simpa using h1) (by simpa using h2)
section
variable {P:Program} {N:Nat} {g0:G} {T0:Nat→Prop} {ks:List KF} {B:Exit→Act→World→Prop} {env:Env} {res:Rs}
structure MInv (N:Nat) (l:List Oper) (As:List (DA Val)) (es:List Nat) (res:Rs) (Rm:Nat→Val→Rs) (a0:Act) (g1:G) (listed:Array Bool) (a:Act) (g:G):Prop where
 size:listed.size=l.length
 sz:a.tmps.size=N
 dfr:a.defers= []
 closed:∀ (k:Nat) o,l[k]? =some o→listed.getD k false=true→∀ j,waits o j=true→listed.getD j false=true
 old:∀ s,(∀ (k:Nat) o,l[k]? =some o→listed.getD k false=true→o.dst≠some s)→a.tmps.getD s undef=a0.tmps.getD s undef
 here:∃ m c,m≤es.length∧(∀ j e,es[j]? =some e→(listed.getD e false=true ↔ j<m))∧Ext res.blks g1 g∧(Rm m c).all g∧(Rm m c).dis∧(∀ b,(Rm m c).blks b→res.blks b∨g1.w.heap.size≤b)∧
  ∀ (k:Nat) o A,l[k]? =some o→As[k]? =some A→listed.getD k false=true→∀ d,o.dst=some d→(A.at c).holds (a.tmps.getD d undef) g
theorem MInv.put{l:List Oper}{As:List (DA Val)}{es:List Nat}{Rm:Nat→Val→Rs}{a0:Act}{g1:G}{listed:Array Bool}{a:Act}{g g':G}{i:Nat}{o:Oper}{v:Value}
  (h:MInv N l As es res Rm a0 g1 listed a g) (hi:i<l.length) (ho:l[i]? =some o) (hd:dstsD l=true) (hN:∀ d,o.dst=some d→d<N) (hnl:listed.getD i false=false) (hw:∀ j,waits o j=true→listed.getD j false=true)
  (hat:∃ m c,m≤es.length∧(∀ j e,es[j]? =some e→((e=i∨listed.getD e false=true) ↔ j<m))∧Ext res.blks g1 g'∧(Rm m c).all g'∧(Rm m c).dis∧(∀ b,(Rm m c).blks b→res.blks b∨g1.w.heap.size≤b)∧
   (∃ A,As[i]? =some A∧(A.at c).holds v g')∧ ∀ (k:Nat) q A,l[k]? =some q→As[k]? =some A→listed.getD k false=true→∀ d,q.dst=some d→(A.at c).holds (a.tmps.getD d undef) g') :
  MInv N l As es res Rm a0 g1 (listed.setIfInBounds i true) (a.put o.dst v) g':=by
 have hsz:i<listed.size:=by rw [h.size];exact hi
 have hput:∀ (k:Nat) p d,l[k]? =some p→listed.getD k false=true→p.dst=some d→(a.put o.dst v).tmps.getD d undef=a.tmps.getD d undef:=by
  intro k p d hk hl hp
  cases hod:o.dst with
  | none=>rfl
  | some d'=>
   refine getD_put_other fun hdd=>?_
   subst hdd
   have:=dstsD_at hd i k o p d' ho hk hod hp
   subst this
   rw [hnl] at hl;cases hl
 have hown:∀ d,o.dst=some d→(a.put o.dst v).tmps.getD d undef=v:=by
  intro d hod
  rw [hod]
  exact getD_put_same (by rw [h.sz];exact hN d hod)
 refine ⟨by simp [h.size],by cases hod:o.dst<;> simp [Act.put,h.sz],by cases hod:o.dst<;> exact h.dfr,?_,?_,?_⟩
 ·intro k p hk hl j hj
  rw [getD_set_true hsz] at hl ⊢
  rcases hl with rfl | hl
  ·rw [ho] at hk;cases hk;exact .inr (hw j hj)
  ·exact .inr (h.closed k p hk hl j hj)
 ·intro s hs
  have hne:o.dst≠some s:=hs i o ho ((getD_set_true hsz).2 (.inl rfl))
  have h2:(a.put o.dst v).tmps.getD s undef=a.tmps.getD s undef:=by
   cases hod:o.dst with
   | none=>rfl
   | some d'=>exact getD_put_other fun hdd=>hne (by rw [hod,hdd])
  rw [h2]
  exact h.old s fun k p hk hl=>hs k p hk ((getD_set_true hsz).2 (.inr hl))
 ·obtain ⟨m,c,h1,h2,h3,h4,h5,h6,⟨A0,h7,h8⟩,h9⟩:=hat
  refine ⟨m,c,h1,fun j e he=>by rw [getD_set_true hsz];exact h2 j e he,h3,h4,h5,h6,fun k p C hk hC hl d hdd=>?_⟩
  rcases (getD_set_true hsz).1 hl with rfl | hl'
  ·rw [ho] at hk;cases hk
   rw [h7] at hC;cases hC
   rw [hown d hdd];exact h8
  ·rw [hput k p d hk hl' hdd]
   exact h9 k p C hk hC hl' d hdd
theorem W.weakR{c:Code}{res':Rs}(hr:RSub res' res)(h:W P N g0 T0 c ks B env res'):W P N g0 T0 c ks B env res:=
 fun a g hst=>h a g ⟨hst.sz,hst.dfr,hst.henv,fun x hx=>hst.hres x (hr.mem x hx),hr.dis hst.dis,fun b ⟨x,hx,hb⟩=>hst.own b ⟨x,hr.mem x hx,hb⟩,hst.ext⟩
theorem WN.sealed{α:Type}{t:Ty α}{u:α}{T:TypeId}{b:Nat}(key slot:Nat)(hr:findR key res=some (Bx t.size t.agg T (t.is u) b))(hs:look slot env=some (Bp b 0))
  (k:WN P N g0 T0 ks B ((slot,t.ptr u) :: env) (res.drop [key])):WN P N g0 T0 ks B env res:=by
 intro a g hst
 obtain ⟨g',h1,h2⟩:=St.sealed hr hs hst
 have:=k a g' h2
 rw [h1] at this
 exact this
theorem WA.drawM{l:List Oper}(As:List (DA Val))(ps:List (List Nat×List Nat))(es:List Nat)(D:List (List Bool))(Rm:Nat→Val→Rs)(c0:Val)(hm:P.follows .mixedOrders=true)
  (hchk:mChk N l 0 l ps=true) (hdst:dstsD l=true) (hlen:As.length=l.length) (hes:esChk l es=true) (hdc:depChk l D es 0 l D=true) (hdep:DepOk As D) (hR0:Rm 0 c0=res)
  (hops:MOps P l As env es Rm 0 l As ps) (heff:MEff P l As ps env Rm 0 es)
  (k:∀ c,WN P N g0 T0 ks B (outEnv c l As++env) (Rm es.length c)):WA P N g0 T0 l ks B env res:=by
 intro a0 ga hst
 obtain ⟨hlps,hone⟩:=mChk_at hchk
 have hone':∀ (i:Nat) o p,l[i]? =some o→ps[i]? =some p→mOne N l i o p.1 p.2=true:=fun i o p h1 h2=>by have:=hone i o p h1 h2;rwa [Nat.zero_add] at this
 let g1:G:=ga.drew
 have e01:Ext No ga g1:=Ext.drew No ga
 have hafter:∀ (i:Nat) o,l[i]? =some o→∀ j,waits o j=true→j<i:=by
  intro i o ho j hj
  obtain ⟨p,hp⟩:∃ p,ps[i]? =some p:=⟨_,List.getElem?_eq_getElem (by have:=(List.getElem?_eq_some_iff.1 ho).1;omega)⟩
  have hch:=hone' i o p ho hp
  simp only [mOne,Bool.and_eq_true] at hch
  obtain ⟨x,hx,rfl,hb⟩:=waits_iff.1 hj
  have:=List.all_eq_true.1 hch.2.1 x (by simpa using hx)
  rw [hb] at this
  simpa [Nat.blt_eq] using this
 -- what hangs on a choice comes behind it
 have hbehind:∀ listed a g,MInv N l As es res Rm a0 g1 listed a g→∀ (n kk:Nat),kk≤n→∀ o,l[kk]? =some o→listed.getD kk false=true→∀ m,depAt D kk m=true→∃ e,es[m]? =some e∧listed.getD e false=true:=by
  intro listed a g hinv n
  induction n with
  | zero=>
   intro kk hk o ho hl m hd
   obtain ⟨r,hr,hrow⟩:=depChk_at hdc kk o ho
   have hr2:r.getD m false=true:=by simpa [depAt,List.getD,hr] using hd
   rcases depRow_at hrow m hr2 with ⟨h1,h2⟩ | ⟨q,_,h2,_⟩
   ·rw [Nat.zero_add] at h1 h2
    refine ⟨es[m],List.getElem?_eq_getElem h2,?_⟩
    have:es.getD m 0=es[m]:=by simp [List.getD,h2]
    rw [←this,h1,Nat.zero_add];exact hl
   ·have:=hafter kk o ho q h2;omega
  | succ n ih=>
   intro kk hk o ho hl m hd
   obtain ⟨r,hr,hrow⟩:=depChk_at hdc kk o ho
   have hr2:r.getD m false=true:=by simpa [depAt,List.getD,hr] using hd
   rcases depRow_at hrow m hr2 with ⟨h1,h2⟩ | ⟨q,h1,h2,h3⟩
   ·rw [Nat.zero_add] at h1 h2
    refine ⟨es[m],List.getElem?_eq_getElem h2,?_⟩
    have:es.getD m 0=es[m]:=by simp [List.getD,h2]
    rw [←this,h1,Nat.zero_add];exact hl
   ·have hq:=hafter kk o ho q h2
    rw [Nat.zero_add] at h3
    exact ih q (by omega) l[q] (List.getElem?_eq_getElem h1) (hinv.closed kk o ho hl q h2) m h3
 have hctx:∀ listed a g c (i:Nat) o p,MInv N l As es res Rm a0 g1 listed a g→l[i]? =some o→ps[i]? =some p→listed.getD i false=false→(∀ j,waits o j=true→listed.getD j false=true)→(∃ T,Ext T g1 g)→
   (∀ (k:Nat) q A,l[k]? =some q→As[k]? =some A→listed.getD k false=true→∀ d,q.dst=some d→(A.at c).holds (a.tmps.getD d undef) g)→
   ∀ s C,look s (preEnv l As c p.1++readEnv env p.2)=some C→C.holds (a.tmps.getD s undef) g:=by
  intro listed a g c i o p hinv ho hp hnl hw ⟨T,hext⟩ hvals s C hC
  have hch:=hone' i o p ho hp
  simp only [mOne,Bool.and_eq_true] at hch
  obtain ⟨_,_,h3,h4,_⟩:=hch
  rcases List.mem_append.1 (look_mem hC) with h | h
  ·obtain ⟨j,q,A,hj,hq,hA,hd,rfl⟩:=preEnv_mem h
   exact hvals j q A hq hA (hw j (List.all_eq_true.1 h3 j hj)) s hd
  ·obtain ⟨hs,hlk⟩:=readEnv_mem h
   have hold:=hinv.old s fun kk q hq hl hqd=>by
    have h5:=List.all_eq_true.1 h4 q (List.mem_of_getElem? hq)
    rw [hqd] at h5
    have h6:memB s p.2=true:=memB_iff.2 hs
    simp only [h6,Bool.not_true,Bool.false_or] at h5
    have:=hinv.closed kk q hq hl i h5
    rw [hnl] at this;cases this
   rw [hold]
   exact C.mono hext (C.mono e01 (hst.henv s C hlk))
 have key:∀ fuel listed a g,MInv N l As es res Rm a0 g1 listed a g→undone listed l.length=fuel→wpAny P .any l.toArray (KF.sem P ks B) fuel listed a g.w:=by
  intro fuel
  induction fuel with
  | zero=>
   intro listed a g hinv hu
   have hall:=undone_zero hu
   refine ⟨?_,?_⟩
   ·rw [List.eq_nil_iff_forall_not_mem]
    intro i hi
    obtain ⟨h1,h2,_⟩:=ready_iff.1 hi
    have h3:=hall i h1
    have hsz:i<listed.size:=by rw [hinv.size];exact h1
    simp [Array.getD,hsz] at h2 h3
    rw [h2] at h3;cases h3
   ·obtain ⟨m,c,h1,h2,hext,h4,h5,h6,h7⟩:=hinv.here
    have hmM:m=es.length:=by
     rcases Nat.lt_or_ge m es.length with hlt | hge
     ·exfalso
      have he:=List.getElem?_eq_getElem hlt
      obtain ⟨o,p,A,us,out,q1,_⟩:=MEff_at heff m _ he
      have:=(h2 m _ he).1 (hall _ (List.getElem?_eq_some_iff.1 q1).1)
      omega
     ·omega
    subst hmM
    have hga:Ext res.blks ga g:=(e01.no).trans hext (fun _ _ h=>h)
    refine k c a g ⟨hinv.sz,hinv.dfr,fun s C hC=>?_,h4,h5,fun b hb=>?_,?_⟩
    ·rcases look_append hC with h | ⟨k1,k2⟩
     ·obtain ⟨i,o,A,hi,hA,hd,rfl⟩:=outEnv_mem h
      exact h7 i o A hi hA (hall i (List.getElem?_eq_some_iff.1 hi).1) s hd
     ·have hold:=hinv.old s fun kk q hq _ hqd=>by
       have hkl:=(List.getElem?_eq_some_iff.1 hq).1
       obtain ⟨A,hA⟩:∃ A,As[kk]? =some A:=⟨_,List.getElem?_eq_getElem (by rw [hlen];exact hkl)⟩
       exact k1 _ (outEnv_has hq hA hqd)
      rw [hold]
      exact C.mono hga (hst.henv s C k2)
    ·rcases h6 b hb with h | h
     ·exact hst.own b h
     ·exact .inl (Nat.le_trans hst.ext.size h)
    ·refine hst.ext.trans hga (fun b hb hT=>?_)
     rcases hst.own b hT with h1 | h1
     ·omega
     ·exact h1
  | succ fuel ih=>
   intro listed a g hinv hu
   refine ⟨fun hr=>?_,fun i hi=>?_⟩
   ·exfalso
    obtain ⟨i,h1,h2,h3⟩:=undone_pos (listed:=listed) (n:=l.length) (by omega)
    have:i∈Region.ready .any l.toArray listed:=by
     refine ready_iff.2 ⟨h1,?_,l[i],List.getElem?_eq_getElem h1,fun j hj=>h3 j (hafter i _ (List.getElem?_eq_getElem h1) j hj)⟩
     have hsz:i<listed.size:=by rw [hinv.size];exact h1
     simp [Array.getD,hsz] at h2 ⊢
     exact h2
    rw [hr] at this;cases this
   ·obtain ⟨hil,hnl',o,ho,hw⟩:=ready_iff.1 hi
    have hsz:i<listed.size:=by rw [hinv.size];exact hil
    have hnl:listed.getD i false=false:=by
     simp [Array.getD,hsz] at hnl' ⊢;exact hnl'
    obtain ⟨p,hp⟩:∃ p,ps[i]? =some p:=⟨_,List.getElem?_eq_getElem (by omega)⟩
    obtain ⟨A,hA⟩:∃ A,As[i]? =some A:=⟨_,List.getElem?_eq_getElem (by omega)⟩
    have hch:=hone' i o p ho hp
    simp only [mOne,Bool.and_eq_true] at hch
    obtain ⟨hc1,_,hc3,_,hc5⟩:=hch
    have hN:∀ d,o.dst=some d→d<N:=fun d hd=>by rw [hd] at hc1;simpa [Nat.blt_eq] using hc1
    have hund:undone (listed.setIfInBounds i true) l.length=fuel:=by have:=undone_set hsz hnl l.length hil;omega
    obtain ⟨m,c,hm1,hm2,hext,hRa,hRd,hRb,hvals⟩:=hinv.here
    have hcx0:=hctx listed a g c i o p hinv ho hp hnl hw ⟨_,hext⟩ hvals
    unfold wpOp
    simp only [List.getElem?_toArray,ho]
    by_cases hie:i∈es
    · -- an effect
     obtain ⟨j,hj⟩:=List.getElem?_of_mem hie
     have hjm:j=m:=by
      have h1:¬ j<m:=fun h=>by
       have:=(hm2 j i hj).2 h
       rw [hnl] at this;cases this
      rcases Nat.lt_or_ge m j with h2 | h2
      ·exfalso
       obtain ⟨j',rfl⟩:∃ j',j=j'+1:=⟨j-1,by omega⟩
       have hj':=(List.getElem?_eq_some_iff.1 hj).1
       have he':=List.getElem?_eq_getElem (show j'< es.length by omega)
       obtain ⟨o',ho',hwt⟩:=esChk_at hes j' _ i he' hj
       rw [ho] at ho';cases ho'
       have:=(hm2 j' _ he').1 (hw _ hwt)
       omega
      ·omega
     subst hjm
     obtain ⟨o',p',A',us,out,q1,q2,q3,q4,q5,q6,q7⟩:=MEff_at heff j i hj
     rw [ho] at q1;cases q1
     rw [hp] at q2;cases q2
     rw [Nat.zero_add] at q5 q6 q7
     rw [if_pos (by simp [Region.wanted,q4])]
     refine .inl (q7 c a g _ _ ⟨hcx0,hRa⟩ hRd fun t v g' he hv r1 r2 r3=>?_)
     have hpick:∀ b,((Rm j c).pick us).blks b→(Rm j c).blks b:=fun b ⟨y,hy,hb⟩=>⟨y,(List.mem_filter.1 hy).1,hb⟩
     have hext':Ext res.blks g1 g':=hext.trans he (fun b hb hT=>by
      rcases hRb b (hpick b hT) with h | h
      ·exact h
      ·omega)
     have hjl:=(List.getElem?_eq_some_iff.1 hj).1
     refine ih _ _ _ (hinv.put hil ho hdst hN hnl hw ⟨j+1,upd c j t,by omega,fun j2 e2 he2=>?_,hext',?_,?_,?_,⟨A',q3,hv⟩,fun kk q C hq hC hl d hd=>?_⟩) hund
     ·rw [hm2 j2 e2 he2]
      constructor
      ·rintro (h | h)
       ·subst h
        rcases Nat.lt_trichotomy j2 j with h3 | h3 | h3
        ·omega
        ·omega
        ·exfalso
         -- a later place of the list holds the same operation
         obtain ⟨j',rfl⟩:∃ j',j2=j'+1:=⟨j2-1,by omega⟩
         have hj2:=(List.getElem?_eq_some_iff.1 he2).1
         have he':=List.getElem?_eq_getElem (show j'< es.length by omega)
         obtain ⟨o',ho',hwt⟩:=esChk_at hes j' _ e2 he' he2
         rw [ho] at ho';cases ho'
         have:=(hm2 j' _ he').1 (hw _ hwt)
         omega
       ·omega
      ·intro h
       rcases Nat.lt_or_ge j2 j with h3 | h3
       ·exact .inr h3
       ·have:j2=j:=by omega
        subst this
        rw [hj] at he2
        exact .inl (Option.some.inj he2).symm
     ·rw [q5,q6]
      intro y hy
      rcases List.mem_append.1 hy with hy | hy
      ·exact r1 y hy
      ·exact y.2.stay he (fun b hb hT=>hRd.split us b ⟨y,hy,hb⟩ hT) (hRa y (List.mem_filter.1 hy).1)
     ·rw [q5,q6]
      refine List.pairwise_append.2 ⟨r2,hRd.filter _,fun y hy z hz b hyb hzb=>?_⟩
      rcases r3 b ⟨y,hy,hyb⟩ with hp | hp
      ·exact hRd.split us b ⟨z,hz,hzb⟩ hp
      ·have:=z.2.lt (hRa z (List.mem_filter.1 hz).1) hzb
       omega
     ·rw [q5,q6]
      rintro b ⟨y,hy,hb⟩
      rcases List.mem_append.1 hy with hy | hy
      ·rcases r3 b ⟨y,hy,hb⟩ with hp | hp
       ·exact hRb b (hpick b hp)
       ·exact .inr (Nat.le_trans hext.size hp)
      ·exact hRb b ⟨y,(List.mem_filter.1 hy).1,hb⟩
     ·have hnd:depAt D kk j=false:=by
       cases hdd:depAt D kk j with
       | false=>rfl
       | true=>
        obtain ⟨e,he1,he2⟩:=hbehind listed a g hinv kk kk (Nat.le_refl _) q hq hl j hdd
        rw [hj] at he1;cases he1
        rw [hnl] at he2;cases he2
      rw [DepOk_at hdep kk C hC j hnd]
      exact (C.at c).mono he (hvals kk q C hq hC hl d hd)
    · -- every other one
     obtain ⟨rk,hrk,hob⟩:=MOps_at hops i o A p ho hA hp (by rw [Nat.zero_add];exact hie)
     rw [Nat.zero_add] at hrk
     have hmay:mayAt l es i m=true:=by
      cases hb:mayAt l es i m with
      | true=>rfl
      | false=>
       exfalso
       unfold mayAt at hb
       simp only [Bool.not_eq_false',List.any_eq_true,List.mem_range] at hb
       obtain ⟨j,hj,hb⟩:=hb
       have hg:es.getD j 0=es[j]:=by simp [List.getD,hj]
       rw [hg] at hb
       have hej:=List.getElem?_eq_getElem hj
       split at hb
       ·rename_i ok oe hok hoe
        rw [ho] at hok;cases hok
        rw [Bool.or_eq_true,Bool.and_eq_true,Bool.and_eq_true] at hb
        rcases hb with ⟨b1,b2⟩ | ⟨b1,b2⟩
        ·have:=(hm2 j _ hej).1 (hw _ b2)
         have:=Nat.le_of_ble_eq_true b1
         omega
        ·have hjm:j<m:=by simpa [Nat.blt_eq] using b1
         have hle:=(hm2 j _ hej).2 hjm
         have:=hinv.closed _ oe hoe hle i b2
         rw [hnl] at this;cases this
       ·cases hb
     have hsub:=hrk m (Nat.ble_eq_true_of_le hm1) hmay c
     have hcx:Cx (preEnv l As c p.1++readEnv env p.2) (rk c) a g:=⟨hcx0,fun y hy=>hRa y (hsub.mem y hy)⟩
     have hK:∀ v g',Ext No g g'→(A.at c).holds v g'→wpAny P .any l.toArray (KF.sem P ks B) fuel (listed.setIfInBounds i true) (a.put o.dst v) g'.w:=by
      intro v g' he hv
      refine ih _ _ _ (hinv.put hil ho hdst hN hnl hw ⟨m,c,hm1,fun j2 e2 he2=>?_,hext.trans' he,hRa.stay he (fun _ _ hf=>hf),hRd,hRb,⟨A,hA,hv⟩,fun kk q C hq hC hl d hd=>(C.at c).mono he (hvals kk q C hq hC hl d hd)⟩) hund
      rw [hm2 j2 e2 he2]
      constructor
      ·rintro (h | h)
       ·exact (hie (by rw [←h];exact List.mem_of_getElem? he2)).elim
       ·exact h
      ·exact .inr
     have hobc:=hob c
     unfold DObl at hobc
     split at hobc
     ·rename_i hgd
      rw [if_pos (by simp [Region.wanted,hgd])]
      exact .inl (hobc a g _ _ hcx hK)
     ·rename_i j want hgd
      obtain ⟨oj,dj,b,hj,hdj,hor0⟩:=hobc
      have hjp:j∈p.1:=by rw [hgd] at hc5;exact memB_iff.1 hc5
      have hljs:=(List.getElem?_eq_some_iff.1 hj).1
      obtain ⟨pj,hpj⟩:∃ pj,ps[j]? =some pj:=⟨_,List.getElem?_eq_getElem (by omega)⟩
      have hchj:=hone' j oj pj hj hpj
      simp only [mOne,Bool.and_eq_true] at hchj
      have hdN:dj<a.tmps.size:=by rw [hinv.sz];have:=hchj.1;rw [hdj] at this;simpa [Nat.blt_eq] using this
      rcases hor0 with ⟨hlk,hor⟩ | ⟨hlk,hund2⟩
      rotate_left
      ·have hwd:=unwanted_of (ops:=l.toArray) (o:=o) (oj:=oj) (j:=j) (dj:=dj) (want:=want) (a:=a) (g:=g) hgd (by simpa using hj) hdj hlk hcx.henv hdN
       rw [if_neg (by rw [hwd];decide)]
       exact hK undef g (Ext.refl _ _) (by rw [hund2];rfl)
      have hwd:=wanted_of (ops:=l.toArray) (o:=o) (oj:=oj) (j:=j) (dj:=dj) (b:=b) (want:=want) (a:=a) (g:=g) hgd (by simpa using hj) hdj (Opd.tmp hlk) hcx.henv hdN
      rcases hor with ⟨hb,hop⟩ | ⟨hb,hany⟩
      ·rw [if_pos (by rw [hwd,hb];cases want<;> rfl)]
       exact .inl (hop a g _ _ hcx hK)
      ·rw [if_neg (by rw [hwd,hb];cases want<;> decide)]
       exact hK undef g (Ext.refl _ _) (by rw [hany];rfl)
 have hf:∀ j,(Array.replicate l.length false).getD j false=false:=fun j=>by simp [Array.getD]
 have hstart:MInv N l As es res Rm a0 g1 (Array.replicate l.length false) a0 g1:=by
  refine ⟨by simp,hst.sz,hst.dfr,?_,fun _ _=>rfl,0,c0,Nat.zero_le _,?_,Ext.refl _ _,?_,?_,?_,?_⟩
  ·intro kk o _ hl;rw [hf] at hl;cases hl
  ·intro j e he
   rw [hf]
   constructor
   ·intro h;cases h
   ·intro h;omega
  ·rw [hR0];exact fun y hy=>y.2.stay e01 (fun _ _ hf=>hf) (hst.hres y hy)
  ·rw [hR0];exact hst.dis
  ·rw [hR0];exact fun b hb=>.inl hb
  ·intro kk o A _ _ hl;rw [hf] at hl;cases hl
 have hu0:undone (Array.replicate l.length false) l.length=l.length:=by
  unfold undone
  rw [List.countP_eq_length.2]
  ·simp
  ·intro i _;simp [Array.getD]
 have:=key l.length _ a0 g1 hstart hu0
 rw [show l.toArray.size=l.length from rfl]
 exact this
theorem W.drawM{id:Nat}{l:List Oper}(As:List (DA Val))(ps:List (List Nat×List Nat))(es:List Nat)(D:List (List Bool))(Rm:Nat→Val→Rs)(c0:Val)(hm:P.follows .mixedOrders=true)
  (hchk:mChk N l 0 l ps=true) (hdst:dstsD l=true) (hlen:As.length=l.length) (hes:esChk l es=true) (hdc:depChk l D es 0 l D=true) (hdep:DepOk As D) (hR0:Rm 0 c0=res)
  (hops:MOps P l As env es Rm 0 l As ps) (heff:MEff P l As ps env Rm 0 es)
  (k:∀ c,WN P N g0 T0 ks B (outEnv c l As++env) (Rm es.length c)):W P N g0 T0 (.region id l.toArray true) ks B env res:=
 W.ofA hm (WA.drawM As ps es D Rm c0 hm hchk hdst hlen hes hdc hdep hR0 hops heff k)
end
end Go.Dec
