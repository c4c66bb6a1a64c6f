/-
  Regions whose order is drawn, with several operations that use resources, some of them in either order: what is there goes by the set of those that are done.
-/
import Derived.Test.YtlegkjbldofkmaaGreatDec15
set_option linter.unusedVariables false
set_option linter.unusedSimpArgs false
namespace Go.Dec
open Go
abbrev Mask:=List Bool
def setM:Mask→Nat→Mask
 | [],_=>[]
 | _ :: r,0=>true :: r
 | b :: r,j+1=>b :: setM r j
theorem setM_length:∀ (mk:Mask) (j:Nat),(setM mk j).length=mk.length
 | [],_=>rfl
 | _ :: _,0=>rfl
 | _ :: r,j+1=>by simp [setM,setM_length r j]
theorem setM_get:∀ (mk:Mask) (j i:Nat),j<mk.length→((setM mk j).getD i false=true ↔ i=j∨mk.getD i false=true)
 | [],j,i,h=>by simp at h
 | b :: r,0,i,h=>by
  cases i with
  | zero=>simp [setM]
  | succ i=>simp [setM]
 | b :: r,j+1,i,h=>by
  cases i with
  | zero=>simp [setM]
  | succ i=>
   have:=setM_get r j i (by simpa using h)
   simpa [setM] using this
def allM:Nat→List Mask
 | 0=>[[]]
 | n+1=>(allM n).flatMap fun m=>[false :: m,true :: m]
theorem allM_mem:∀ {mk:Mask},mk∈allM mk.length
 | []=>by simp [allM]
 | b :: r=>by
  have:=allM_mem (mk:=r)
  simp only [allM,List.length_cons,List.mem_flatMap]
  exact ⟨r,this,by cases b<;> simp⟩
def AllIn{α:Type}(Q:α→Prop):List α→Prop
 | []=>True
 | x :: r=>Q x∧AllIn Q r
theorem AllIn.all{α:Type}{Q:α→Prop}(h:∀ x,Q x):∀ l:List α,AllIn Q l
 | []=>trivial
 | x :: r=>⟨h x,AllIn.all h r⟩
theorem AllIn.at{α:Type}{Q:α→Prop}:∀ {l:List α},AllIn Q l→∀ x∈l,Q x
 | [],_,x,h=>by cases h
 | y :: r,h,x,hx=>by
  rcases List.mem_cons.1 hx with rfl | hx
  ·exact h.1
  ·exact AllIn.at h.2 x hx
def mayIn(l:List Oper)(es:List Nat)(k:Nat)(mk:Mask):Bool:=
 !((List.range es.length).any fun j=>match l[k]?,l[es.getD j 0]? with
  | some ok,some oe=>(!mk.getD j false && waits ok (es.getD j 0)) || (mk.getD j false && waits oe k)
  | _,_=>false)
def SOps(P:Program)(l:List Oper)(As:List (DA Val))(base:Env)(es:List Nat)(Rm:Mask→Val→Rs):Nat→List Oper→List (DA Val)→List (List Nat×List Nat)→Prop
 | i,o :: os,A :: Bs,p :: ps=>(memB i es=true∨ ∃ rk:Val→Rs,AllIn (fun mk=>mayIn l es i mk=true→∀ c,RSub (rk c) (Rm mk c)) (allM es.length)∧ ∀ c,DObl P l o (preEnv l As c p.1++readEnv base p.2) (rk c) (A.at c))∧SOps P l As base es Rm (i+1) os Bs ps
 | _,_,_,_=>True
theorem SOps_at{P:Program}{l0:List Oper}{As0:List (DA Val)}{base:Env}{es:List Nat}{Rm:Mask→Val→Rs}:∀ {i:Nat} {l:List Oper} {As:List (DA Val)} {ps:List (List Nat×List Nat)},SOps P l0 As0 base es Rm i l As ps→
  ∀ (j:Nat) o A p,l[j]? =some o→As[j]? =some A→ps[j]? =some p→¬ (i+j)∈es→∃ rk:Val→Rs,AllIn (fun mk=>mayIn l0 es (i+j) mk=true→∀ c,RSub (rk c) (Rm mk c)) (allM es.length)∧ ∀ c,DObl P l0 o (preEnv l0 As0 c p.1++readEnv base p.2) (rk c) (A.at c)
 | i,o :: l,A :: As,p :: ps,h,j,o',A',p',h1,h2,h3,h4=>by
  cases j with
  | zero=>
   simp at h1 h2 h3
   subst h1 h2 h3
   exact h.1.resolve_left fun hb=>h4 (memB_iff.1 hb)
  | succ j=>
   simp at h1 h2 h3
   have:=SOps_at h.2 j o' A' p' h1 h2 h3 (by rwa [show i+1+j=i+(j+1) by omega])
   rwa [show i+1+j=i+(j+1) by omega] at this
 | _,[],_,_,_,j,_,_,_,h,_,_,_=>by simp at h
 | _,_ :: _,[],_,_,j,_,_,_,_,h,_,_=>by simp at h
 | _,_ :: _,_ :: _,[],_,j,_,_,_,_,_,h,_=>by simp at h
def SEff(P:Program)(l:List Oper)(As:List (DA Val))(ps:List (List Nat×List Nat))(base:Env)(es0:List Nat)(Rm:Mask→Val→Rs):Nat→List Nat→Prop
 | _,[]=>True
 | j,e :: es=>(∃ (o:Oper) (p:List Nat×List Nat) (A:DA Val),l[e]? =some o∧ps[e]? =some p∧As[e]? =some A∧o.guard=none∧
   AllIn (fun mk=>mk.getD j false=false→mayIn l es0 e mk=true→∃ (us:List Nat) (out:Val→Rs),(∀ c,RSub (Rm (setM mk j) c) (out c++(Rm mk c).drop us))∧(∀ c k,Rm mk (upd c j k)=Rm mk c)∧
    ∀ c,OpR P o (preEnv l As c p.1++readEnv base p.2) (Rm mk c) us (fun k=>A.at (upd c j k)) (fun k=>out (upd c j k))) (allM es0.length))∧SEff P l As ps base es0 Rm (j+1) es
theorem SEff_at{P:Program}{l:List Oper}{As:List (DA Val)}{ps:List (List Nat×List Nat)}{base:Env}{es0:List Nat}{Rm:Mask→Val→Rs}:∀ {m:Nat} {es:List Nat},SEff P l As ps base es0 Rm m es→∀ (j e:Nat),es[j]? =some e→
  ∃ (o:Oper) (p:List Nat×List Nat) (A:DA Val),l[e]? =some o∧ps[e]? =some p∧As[e]? =some A∧o.guard=none∧
   AllIn (fun mk=>mk.getD (m+j) false=false→mayIn l es0 e mk=true→∃ (us:List Nat) (out:Val→Rs),(∀ c,RSub (Rm (setM mk (m+j)) c) (out c++(Rm mk c).drop us))∧(∀ c k,Rm mk (upd c (m+j) k)=Rm mk c)∧
    ∀ c,OpR P o (preEnv l As c p.1++readEnv base p.2) (Rm mk c) us (fun k=>A.at (upd c (m+j) k)) (fun k=>out (upd c (m+j) k))) (allM es0.length)
 | _,[],_,j,e,h=>by simp at h
 | m,e :: es,h,j,e',hj=>by
  cases j with
  | zero=>simp at hj;subst hj;exact h.1
  | succ j=>
   simp at hj
   have:=SEff_at h.2 j e' hj
   rwa [show m+1+j=m+(j+1) by omega] at this
def noM:Nat→Mask
 | 0=>[]
 | n+1=>false :: noM n
def fullM:Nat→Mask
 | 0=>[]
 | n+1=>true :: fullM n
theorem noM_length:∀ n,(noM n).length=n
 | 0=>rfl
 | n+1=>by simp [noM,noM_length n]
theorem noM_get:∀ n j,(noM n).getD j false=false
 | 0,j=>by simp [noM]
 | n+1,0=>rfl
 | n+1,j+1=>by simpa [noM] using noM_get n j
theorem full_of:∀ {m:Mask} {n:Nat},m.length=n→(∀ j,j<n→m.getD j false=true)→m=fullM n
 | [],n,h,_=>by subst h;rfl
 | b :: r,n,h,k=>by
  subst h
  have h0:=k 0 (by simp)
  simp at h0
  subst h0
  have h1:=full_of (m:=r) rfl (fun j hj=>by have:=k (j+1) (by simpa using hj);simpa using this)
  show true :: r=true :: fullM r.length
  rw [←h1]
def esDis:List Nat→Bool
 | []=>true
 | e :: es=>!memB e es && esDis es
theorem esDis_at:∀ {es:List Nat},esDis es=true→∀ (i j e:Nat),es[i]? =some e→es[j]? =some e→i=j
 | [],_,i,_,_,h,_=>by simp at h
 | x :: es,h,i,j,e,hi,hj=>by
  unfold esDis at h
  rw [Bool.and_eq_true] at h
  have hx:¬ x∈es:=fun hm=>by
   have:=memB_iff.2 hm
   simp [this] at h
  cases i with
  | zero=>
   simp at hi;subst hi
   cases j with
   | zero=>rfl
   | succ j=>simp at hj;exact (hx (List.mem_of_getElem? hj)).elim
  | succ i=>
   simp at hi
   cases j with
   | zero=>simp at hj;subst hj;exact (hx (List.mem_of_getElem? hi)).elim
   | succ j=>simp at hj;have:=esDis_at h.2 i j e hi hj;omega
theorem mayIn_of{l:List Oper}{es:List Nat}{listed:Array Bool}{i:Nat}{o:Oper}{m:Mask}(ho:l[i]? =some o)(hw:∀ j,waits o j=true→listed.getD j false=true)(hnl:listed.getD i false=false)
  (hcl:∀ (k:Nat) o,l[k]? =some o→listed.getD k false=true→∀ j,waits o j=true→listed.getD j false=true) (hm2:∀ j e,es[j]? =some e→(listed.getD e false=true ↔ m.getD j false=true)):mayIn l es i m=true:=by
 cases hb:mayIn l es i m with
 | true=>rfl
 | false=>
  exfalso
  unfold mayIn at hb
  simp only [Bool.not_eq_false',List.any_eq_true,List.mem_range] at hb
  obtain ⟨j,hj,hb⟩:=hb
  have hg:es.getD j 0=es[j]:=by simp [List.getD,hj]
  rw [hg] at hb
  have hej:=List.getElem?_eq_getElem hj
  split at hb
  ·rename_i ok oe hok hoe
   rw [ho] at hok;cases hok
   rw [Bool.or_eq_true,Bool.and_eq_true,Bool.and_eq_true] at hb
   rcases hb with ⟨b1,b2⟩ | ⟨b1,b2⟩
   ·have:=(hm2 j _ hej).1 (hw _ b2)
    rw [this] at b1;cases b1
   ·have hle:=(hm2 j _ hej).2 b1
    have:=hcl _ oe hoe hle i b2
    rw [hnl] at this;cases this
  ·cases hb
section
variable {P:Program} {N:Nat} {g0:G} {T0:Nat→Prop} {ks:List KF} {B:Exit→Act→World→Prop} {env:Env} {res:Rs}
structure SInv (N:Nat) (l:List Oper) (As:List (DA Val)) (es:List Nat) (res:Rs) (Rm:Mask→Val→Rs) (a0:Act) (g1:G) (listed:Array Bool) (a:Act) (g:G):Prop where
 size:listed.size=l.length
 sz:a.tmps.size=N
 dfr:a.defers= []
 closed:∀ (k:Nat) o,l[k]? =some o→listed.getD k false=true→∀ j,waits o j=true→listed.getD j false=true
 old:∀ s,(∀ (k:Nat) o,l[k]? =some o→listed.getD k false=true→o.dst≠some s)→a.tmps.getD s undef=a0.tmps.getD s undef
 here:∃ m c,m.length=es.length∧(∀ j e,es[j]? =some e→(listed.getD e false=true ↔ m.getD j false=true))∧Ext res.blks g1 g∧(Rm m c).all g∧(Rm m c).dis∧(∀ b,(Rm m c).blks b→res.blks b∨g1.w.heap.size≤b)∧
  ∀ (k:Nat) o A,l[k]? =some o→As[k]? =some A→listed.getD k false=true→∀ d,o.dst=some d→(A.at c).holds (a.tmps.getD d undef) g
theorem SInv.put{l:List Oper}{As:List (DA Val)}{es:List Nat}{Rm:Mask→Val→Rs}{a0:Act}{g1:G}{listed:Array Bool}{a:Act}{g g':G}{i:Nat}{o:Oper}{v:Value}
  (h:SInv N l As es res Rm a0 g1 listed a g) (hi:i<l.length) (ho:l[i]? =some o) (hd:dstsD l=true) (hN:∀ d,o.dst=some d→d<N) (hnl:listed.getD i false=false) (hw:∀ j,waits o j=true→listed.getD j false=true)
  (hat:∃ m c,m.length=es.length∧(∀ j e,es[j]? =some e→((e=i∨listed.getD e false=true) ↔ m.getD j false=true))∧Ext res.blks g1 g'∧(Rm m c).all g'∧(Rm m c).dis∧(∀ b,(Rm m c).blks b→res.blks b∨g1.w.heap.size≤b)∧
   (∃ A,As[i]? =some A∧(A.at c).holds v g')∧ ∀ (k:Nat) q A,l[k]? =some q→As[k]? =some A→listed.getD k false=true→∀ d,q.dst=some d→(A.at c).holds (a.tmps.getD d undef) g') :
  SInv N l As es res Rm a0 g1 (listed.setIfInBounds i true) (a.put o.dst v) g':=by
 have hsz:i<listed.size:=by rw [h.size];exact hi
 have hput:∀ (k:Nat) p d,l[k]? =some p→listed.getD k false=true→p.dst=some d→(a.put o.dst v).tmps.getD d undef=a.tmps.getD d undef:=by
  intro k p d hk hl hp
  cases hod:o.dst with
  | none=>rfl
  | some d'=>
   refine getD_put_other fun hdd=>?_
   subst hdd
   have:=dstsD_at hd i k o p d' ho hk hod hp
   subst this
   rw [hnl] at hl;cases hl
 have hown:∀ d,o.dst=some d→(a.put o.dst v).tmps.getD d undef=v:=by
  intro d hod
  rw [hod]
  exact getD_put_same (by rw [h.sz];exact hN d hod)
 refine ⟨by simp [h.size],by cases hod:o.dst<;> simp [Act.put,h.sz],by cases hod:o.dst<;> exact h.dfr,?_,?_,?_⟩
 ·intro k p hk hl j hj
  rw [getD_set_true hsz] at hl ⊢
  rcases hl with rfl | hl
  ·rw [ho] at hk;cases hk;exact .inr (hw j hj)
  ·exact .inr (h.closed k p hk hl j hj)
 ·intro s hs
  have hne:o.dst≠some s:=hs i o ho ((getD_set_true hsz).2 (.inl rfl))
  have h2:(a.put o.dst v).tmps.getD s undef=a.tmps.getD s undef:=by
   cases hod:o.dst with
   | none=>rfl
   | some d'=>exact getD_put_other fun hdd=>hne (by rw [hod,hdd])
  rw [h2]
  exact h.old s fun k p hk hl=>hs k p hk ((getD_set_true hsz).2 (.inr hl))
 ·obtain ⟨m,c,h1,h2,h3,h4,h5,h6,⟨A0,h7,h8⟩,h9⟩:=hat
  refine ⟨m,c,h1,fun j e he=>by rw [getD_set_true hsz];exact h2 j e he,h3,h4,h5,h6,fun k p C hk hC hl d hdd=>?_⟩
  rcases (getD_set_true hsz).1 hl with rfl | hl'
  ·rw [ho] at hk;cases hk
   rw [h7] at hC;cases hC
   rw [hown d hdd];exact h8
  ·rw [hput k p d hk hl' hdd]
   exact h9 k p C hk hC hl' d hdd
theorem WA.drawS{l:List Oper}(As:List (DA Val))(ps:List (List Nat×List Nat))(es:List Nat)(D:List (List Bool))(Rm:Mask→Val→Rs)(c0:Val)(hm:P.follows .mixedOrders=true)
  (hchk:mChk N l 0 l ps=true) (hdst:dstsD l=true) (hlen:As.length=l.length) (hes:esDis es=true) (hdc:depChk l D es 0 l D=true) (hdep:DepOk As D) (hR0:Rm (noM es.length) c0=res)
  (hops:SOps P l As env es Rm 0 l As ps) (heff:SEff P l As ps env es Rm 0 es)
  (k:∀ c,WN P N g0 T0 ks B (outEnv c l As++env) (Rm (fullM es.length) c)):WA P N g0 T0 l ks B env res:=by
 intro a0 ga hst
 obtain ⟨hlps,hone⟩:=mChk_at hchk
 have hone':∀ (i:Nat) o p,l[i]? =some o→ps[i]? =some p→mOne N l i o p.1 p.2=true:=fun i o p h1 h2=>by have:=hone i o p h1 h2;rwa [Nat.zero_add] at this
 let g1:G:=ga.drew
 have e01:Ext No ga g1:=Ext.drew No ga
 have hafter:∀ (i:Nat) o,l[i]? =some o→∀ j,waits o j=true→j<i:=by
  intro i o ho j hj
  obtain ⟨p,hp⟩:∃ p,ps[i]? =some p:=⟨_,List.getElem?_eq_getElem (by have:=(List.getElem?_eq_some_iff.1 ho).1;omega)⟩
  have hch:=hone' i o p ho hp
  simp only [mOne,Bool.and_eq_true] at hch
  obtain ⟨x,hx,rfl,hb⟩:=waits_iff.1 hj
  have:=List.all_eq_true.1 hch.2.1 x (by simpa using hx)
  rw [hb] at this
  simpa [Nat.blt_eq] using this
 -- what hangs on a choice comes behind it
 have hbehind:∀ listed a g,SInv N l As es res Rm a0 g1 listed a g→∀ (n kk:Nat),kk≤n→∀ o,l[kk]? =some o→listed.getD kk false=true→∀ m,depAt D kk m=true→∃ e,es[m]? =some e∧listed.getD e false=true:=by
  intro listed a g hinv n
  induction n with
  | zero=>
   intro kk hk o ho hl m hd
   obtain ⟨r,hr,hrow⟩:=depChk_at hdc kk o ho
   have hr2:r.getD m false=true:=by simpa [depAt,List.getD,hr] using hd
   rcases depRow_at hrow m hr2 with ⟨h1,h2⟩ | ⟨q,_,h2,_⟩
   ·rw [Nat.zero_add] at h1 h2
    refine ⟨es[m],List.getElem?_eq_getElem h2,?_⟩
    have:es.getD m 0=es[m]:=by simp [List.getD,h2]
    rw [←this,h1,Nat.zero_add];exact hl
   ·have:=hafter kk o ho q h2;omega
  | succ n ih=>
   intro kk hk o ho hl m hd
   obtain ⟨r,hr,hrow⟩:=depChk_at hdc kk o ho
   have hr2:r.getD m false=true:=by simpa [depAt,List.getD,hr] using hd
   rcases depRow_at hrow m hr2 with ⟨h1,h2⟩ | ⟨q,h1,h2,h3⟩
   ·rw [Nat.zero_add] at h1 h2
    refine ⟨es[m],List.getElem?_eq_getElem h2,?_⟩
    have:es.getD m 0=es[m]:=by simp [List.getD,h2]
    rw [←this,h1,Nat.zero_add];exact hl
   ·have hq:=hafter kk o ho q h2
    rw [Nat.zero_add] at h3
    exact ih q (by omega) l[q] (List.getElem?_eq_getElem h1) (hinv.closed kk o ho hl q h2) m h3
 have hctx:∀ listed a g c (i:Nat) o p,SInv N l As es res Rm a0 g1 listed a g→l[i]? =some o→ps[i]? =some p→listed.getD i false=false→(∀ j,waits o j=true→listed.getD j false=true)→(∃ T,Ext T g1 g)→
   (∀ (k:Nat) q A,l[k]? =some q→As[k]? =some A→listed.getD k false=true→∀ d,q.dst=some d→(A.at c).holds (a.tmps.getD d undef) g)→
   ∀ s C,look s (preEnv l As c p.1++readEnv env p.2)=some C→C.holds (a.tmps.getD s undef) g:=by
  intro listed a g c i o p hinv ho hp hnl hw ⟨T,hext⟩ hvals s C hC
  have hch:=hone' i o p ho hp
  simp only [mOne,Bool.and_eq_true] at hch
  obtain ⟨_,_,h3,h4,_⟩:=hch
  rcases List.mem_append.1 (look_mem hC) with h | h
  ·obtain ⟨j,q,A,hj,hq,hA,hd,rfl⟩:=preEnv_mem h
   exact hvals j q A hq hA (hw j (List.all_eq_true.1 h3 j hj)) s hd
  ·obtain ⟨hs,hlk⟩:=readEnv_mem h
   have hold:=hinv.old s fun kk q hq hl hqd=>by
    have h5:=List.all_eq_true.1 h4 q (List.mem_of_getElem? hq)
    rw [hqd] at h5
    have h6:memB s p.2=true:=memB_iff.2 hs
    simp only [h6,Bool.not_true,Bool.false_or] at h5
    have:=hinv.closed kk q hq hl i h5
    rw [hnl] at this;cases this
   rw [hold]
   exact C.mono hext (C.mono e01 (hst.henv s C hlk))
 have key:∀ fuel listed a g,SInv N l As es res Rm a0 g1 listed a g→undone listed l.length=fuel→wpAny P .any l.toArray (KF.sem P ks B) fuel listed a g.w:=by
  intro fuel
  induction fuel with
  | zero=>
   intro listed a g hinv hu
   have hall:=undone_zero hu
   refine ⟨?_,?_⟩
   ·rw [List.eq_nil_iff_forall_not_mem]
    intro i hi
    obtain ⟨h1,h2,_⟩:=ready_iff.1 hi
    have h3:=hall i h1
    have hsz:i<listed.size:=by rw [hinv.size];exact h1
    simp [Array.getD,hsz] at h2 h3
    rw [h2] at h3;cases h3
   ·obtain ⟨m,c,h1,h2,hext,h4,h5,h6,h7⟩:=hinv.here
    have hmM:m=fullM es.length:=by
     refine full_of h1 fun j hj=>?_
     have he:=List.getElem?_eq_getElem hj
     obtain ⟨o,p,A,q1,_⟩:=SEff_at heff j _ he
     exact (h2 j _ he).1 (hall _ (List.getElem?_eq_some_iff.1 q1).1)
    subst hmM
    have hga:Ext res.blks ga g:=(e01.no).trans hext (fun _ _ h=>h)
    refine k c a g ⟨hinv.sz,hinv.dfr,fun s C hC=>?_,h4,h5,fun b hb=>?_,?_⟩
    ·rcases look_append hC with h | ⟨k1,k2⟩
     ·obtain ⟨i,o,A,hi,hA,hd,rfl⟩:=outEnv_mem h
      exact h7 i o A hi hA (hall i (List.getElem?_eq_some_iff.1 hi).1) s hd
     ·have hold:=hinv.old s fun kk q hq _ hqd=>by
       have hkl:=(List.getElem?_eq_some_iff.1 hq).1
       obtain ⟨A,hA⟩:∃ A,As[kk]? =some A:=⟨_,List.getElem?_eq_getElem (by rw [hlen];exact hkl)⟩
       exact k1 _ (outEnv_has hq hA hqd)
      rw [hold]
      exact C.mono hga (hst.henv s C k2)
    ·rcases h6 b hb with h | h
     ·exact hst.own b h
     ·exact .inl (Nat.le_trans hst.ext.size h)
    ·refine hst.ext.trans hga (fun b hb hT=>?_)
     rcases hst.own b hT with h1 | h1
     ·omega
     ·exact h1
  | succ fuel ih=>
   intro listed a g hinv hu
   refine ⟨fun hr=>?_,fun i hi=>?_⟩
   ·exfalso
    obtain ⟨i,h1,h2,h3⟩:=undone_pos (listed:=listed) (n:=l.length) (by omega)
    have:i∈Region.ready .any l.toArray listed:=by
     refine ready_iff.2 ⟨h1,?_,l[i],List.getElem?_eq_getElem h1,fun j hj=>h3 j (hafter i _ (List.getElem?_eq_getElem h1) j hj)⟩
     have hsz:i<listed.size:=by rw [hinv.size];exact h1
     simp [Array.getD,hsz] at h2 ⊢
     exact h2
    rw [hr] at this;cases this
   ·obtain ⟨hil,hnl',o,ho,hw⟩:=ready_iff.1 hi
    have hsz:i<listed.size:=by rw [hinv.size];exact hil
    have hnl:listed.getD i false=false:=by
     simp [Array.getD,hsz] at hnl' ⊢;exact hnl'
    obtain ⟨p,hp⟩:∃ p,ps[i]? =some p:=⟨_,List.getElem?_eq_getElem (by omega)⟩
    obtain ⟨A,hA⟩:∃ A,As[i]? =some A:=⟨_,List.getElem?_eq_getElem (by omega)⟩
    have hch:=hone' i o p ho hp
    simp only [mOne,Bool.and_eq_true] at hch
    obtain ⟨hc1,_,hc3,_,hc5⟩:=hch
    have hN:∀ d,o.dst=some d→d<N:=fun d hd=>by rw [hd] at hc1;simpa [Nat.blt_eq] using hc1
    have hund:undone (listed.setIfInBounds i true) l.length=fuel:=by have:=undone_set hsz hnl l.length hil;omega
    obtain ⟨m,c,hm1,hm2,hext,hRa,hRd,hRb,hvals⟩:=hinv.here
    have hcx0:=hctx listed a g c i o p hinv ho hp hnl hw ⟨_,hext⟩ hvals
    unfold wpOp
    simp only [List.getElem?_toArray,ho]
    by_cases hie:i∈es
    · -- an effect
     obtain ⟨j,hj⟩:=List.getElem?_of_mem hie
     have hjl:=(List.getElem?_eq_some_iff.1 hj).1
     have hmf:m.getD j false=false:=by
      cases hb:m.getD j false with
      | false=>rfl
      | true=>
       have:=(hm2 j i hj).2 hb
       rw [hnl] at this;cases this
     have hmay:mayIn l es i m=true:=mayIn_of ho hw hnl hinv.closed hm2
     obtain ⟨o',p',A',q1,q2,q3,q4,q8⟩:=SEff_at heff j i hj
     rw [ho] at q1;cases q1
     rw [hp] at q2;cases q2
     rw [Nat.zero_add] at q8
     obtain ⟨us,out,q5,q6,q7⟩:=AllIn.at q8 m (by rw [←hm1];exact allM_mem) hmf hmay
     rw [if_pos (by simp [Region.wanted,q4])]
     refine .inl (q7 c a g _ _ ⟨hcx0,hRa⟩ hRd fun t v g' he hv r1 r2 r3=>?_)
     have hpick:∀ b,((Rm m c).pick us).blks b→(Rm m c).blks b:=fun b ⟨y,hy,hb⟩=>⟨y,(List.mem_filter.1 hy).1,hb⟩
     have hext':Ext res.blks g1 g':=hext.trans he (fun b hb hT=>by
      rcases hRb b (hpick b hT) with h | h
      ·exact h
      ·omega)
     refine ih _ _ _ (hinv.put hil ho hdst hN hnl hw ⟨setM m j,upd c j t,by rw [setM_length];exact hm1,fun j2 e2 he2=>?_,hext',?_,?_,?_,⟨A',q3,hv⟩,fun kk q C hq hC hl d hd=>?_⟩) hund
     ·rw [setM_get m j j2 (by omega),←hm2 j2 e2 he2]
      constructor
      ·rintro (h | h)
       ·subst h
        exact .inl (esDis_at hes j2 j e2 he2 hj)
       ·exact .inr h
      ·rintro (h | h)
       ·subst h
        rw [hj] at he2
        exact .inl (Option.some.inj he2).symm
       ·exact .inr h
     ·intro y hy
      have hy:=(q5 (upd c j t)).mem y hy
      rw [q6] at hy
      rcases List.mem_append.1 hy with hy | hy
      ·exact r1 y hy
      ·exact y.2.stay he (fun b hb hT=>hRd.split us b ⟨y,hy,hb⟩ hT) (hRa y (List.mem_filter.1 hy).1)
     ·refine (q5 (upd c j t)).dis ?_
      rw [q6]
      refine List.pairwise_append.2 ⟨r2,hRd.filter _,fun y hy z hz b hyb hzb=>?_⟩
      rcases r3 b ⟨y,hy,hyb⟩ with hp | hp
      ·exact hRd.split us b ⟨z,hz,hzb⟩ hp
      ·have:=z.2.lt (hRa z (List.mem_filter.1 hz).1) hzb
       omega
     ·rintro b ⟨y,hy,hb⟩
      have hy:=(q5 (upd c j t)).mem y hy
      rw [q6] at hy
      rcases List.mem_append.1 hy with hy | hy
      ·rcases r3 b ⟨y,hy,hb⟩ with hp | hp
       ·exact hRb b (hpick b hp)
       ·exact .inr (Nat.le_trans hext.size hp)
      ·exact hRb b ⟨y,(List.mem_filter.1 hy).1,hb⟩
     ·have hnd:depAt D kk j=false:=by
       cases hdd:depAt D kk j with
       | false=>rfl
       | true=>
        obtain ⟨e,he1,he2⟩:=hbehind listed a g hinv kk kk (Nat.le_refl _) q hq hl j hdd
        rw [hj] at he1;cases he1
        rw [hnl] at he2;cases he2
      rw [DepOk_at hdep kk C hC j hnd]
      exact (C.at c).mono he (hvals kk q C hq hC hl d hd)
    · -- every other one
     obtain ⟨rk,hrk,hob⟩:=SOps_at hops i o A p ho hA hp (by rw [Nat.zero_add];exact hie)
     rw [Nat.zero_add] at hrk
     have hmay:mayIn l es i m=true:=mayIn_of ho hw hnl hinv.closed hm2
     have hsub:=AllIn.at hrk m (by rw [←hm1];exact allM_mem) hmay c
     have hcx:Cx (preEnv l As c p.1++readEnv env p.2) (rk c) a g:=⟨hcx0,fun y hy=>hRa y (hsub.mem y hy)⟩
     have hK:∀ v g',Ext No g g'→(A.at c).holds v g'→wpAny P .any l.toArray (KF.sem P ks B) fuel (listed.setIfInBounds i true) (a.put o.dst v) g'.w:=by
      intro v g' he hv
      refine ih _ _ _ (hinv.put hil ho hdst hN hnl hw ⟨m,c,hm1,fun j2 e2 he2=>?_,hext.trans' he,hRa.stay he (fun _ _ hf=>hf),hRd,hRb,⟨A,hA,hv⟩,fun kk q C hq hC hl d hd=>(C.at c).mono he (hvals kk q C hq hC hl d hd)⟩) hund
      rw [hm2 j2 e2 he2]
      constructor
      ·rintro (h | h)
       ·exact (hie (by rw [←h];exact List.mem_of_getElem? he2)).elim
       ·exact h
      ·exact .inr
     have hobc:=hob c
     unfold DObl at hobc
     split at hobc
     ·rename_i hgd
      rw [if_pos (by simp [Region.wanted,hgd])]
      exact .inl (hobc a g _ _ hcx hK)
     ·rename_i j want hgd
      obtain ⟨oj,dj,b,hj,hdj,hor0⟩:=hobc
      have hjp:j∈p.1:=by rw [hgd] at hc5;exact memB_iff.1 hc5
      have hljs:=(List.getElem?_eq_some_iff.1 hj).1
      obtain ⟨pj,hpj⟩:∃ pj,ps[j]? =some pj:=⟨_,List.getElem?_eq_getElem (by omega)⟩
      have hchj:=hone' j oj pj hj hpj
      simp only [mOne,Bool.and_eq_true] at hchj
      have hdN:dj<a.tmps.size:=by rw [hinv.sz];have:=hchj.1;rw [hdj] at this;simpa [Nat.blt_eq] using this
      rcases hor0 with ⟨hlk,hor⟩ | ⟨hlk,hund2⟩
      rotate_left
      ·have hwd:=unwanted_of (ops:=l.toArray) (o:=o) (oj:=oj) (j:=j) (dj:=dj) (want:=want) (a:=a) (g:=g) hgd (by simpa using hj) hdj hlk hcx.henv hdN
       rw [if_neg (by rw [hwd];decide)]
       exact hK undef g (Ext.refl _ _) (by rw [hund2];rfl)
      have hwd:=wanted_of (ops:=l.toArray) (o:=o) (oj:=oj) (j:=j) (dj:=dj) (b:=b) (want:=want) (a:=a) (g:=g) hgd (by simpa using hj) hdj (Opd.tmp hlk) hcx.henv hdN
      rcases hor with ⟨hb,hop⟩ | ⟨hb,hany⟩
      ·rw [if_pos (by rw [hwd,hb];cases want<;> rfl)]
       exact .inl (hop a g _ _ hcx hK)
      ·rw [if_neg (by rw [hwd,hb];cases want<;> decide)]
       exact hK undef g (Ext.refl _ _) (by rw [hany];rfl)
 have hf:∀ j,(Array.replicate l.length false).getD j false=false:=fun j=>by simp [Array.getD]
 have hstart:SInv N l As es res Rm a0 g1 (Array.replicate l.length false) a0 g1:=by
  refine ⟨by simp,hst.sz,hst.dfr,?_,fun _ _=>rfl,noM es.length,c0,noM_length _,?_,Ext.refl _ _,?_,?_,?_,?_⟩
  ·intro kk o _ hl;rw [hf] at hl;cases hl
  ·intro j e he
   rw [hf,noM_get]
  ·rw [hR0];exact fun y hy=>y.2.stay e01 (fun _ _ hf=>hf) (hst.hres y hy)
  ·rw [hR0];exact hst.dis
  ·rw [hR0];exact fun b hb=>.inl hb
  ·intro kk o A _ _ hl;rw [hf] at hl;cases hl
 have hu0:undone (Array.replicate l.length false) l.length=l.length:=by
  unfold undone
  rw [List.countP_eq_length.2]
  ·simp
  ·intro i _;simp [Array.getD]
 have:=key l.length _ a0 g1 hstart hu0
 rw [show l.toArray.size=l.length from rfl]
 exact this
theorem W.drawS{id:Nat}{l:List Oper}(As:List (DA Val))(ps:List (List Nat×List Nat))(es:List Nat)(D:List (List Bool))(Rm:Mask→Val→Rs)(c0:Val)(hm:P.follows .mixedOrders=true)
  (hchk:mChk N l 0 l ps=true) (hdst:dstsD l=true) (hlen:As.length=l.length) (hes:esDis es=true) (hdc:depChk l D es 0 l D=true) (hdep:DepOk As D) (hR0:Rm (noM es.length) c0=res)
  (hops:SOps P l As env es Rm 0 l As ps) (heff:SEff P l As ps env es Rm 0 es)
  (k:∀ c,WN P N g0 T0 ks B (outEnv c l As++env) (Rm (fullM es.length) c)):W P N g0 T0 (.region id l.toArray true) ks B env res:=
 W.ofA hm (WA.drawS As ps es D Rm c0 hm hchk hdst hlen hes hdc hdep hR0 hops heff k)
end
end Go.Dec
