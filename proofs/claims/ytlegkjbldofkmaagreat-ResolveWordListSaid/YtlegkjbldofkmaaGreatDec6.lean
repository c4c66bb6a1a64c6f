/-
  Regions whose order is drawn: every operation by what it reads; at most one of them uses resources.
-/
import Derived.Test.YtlegkjbldofkmaaGreatDec5
set_option linter.unusedVariables false
set_option linter.unusedSimpArgs false
namespace Go.Dec
open Go
theorem look_mem{s:Nat}{B:Asn}:∀ {e:Env},look s e=some B→(s,B)∈e
 | [],h=>by simp [look] at h
 | (k,A) :: r,h=>by
  by_cases hk:k=s
  ·subst hk;rw [look_here] at h;cases h;exact List.mem_cons_self
  ·rw [look_there _ _ hk] at h;exact List.mem_cons_of_mem _ (look_mem h)
theorem look_append{s:Nat}{B:Asn}:∀ {e f:Env},look s (e++f)=some B→(s,B)∈e∨((∀ C,(s,C) ∉ e)∧look s f=some B)
 | [],f,h=>.inr ⟨fun _ h=>(by cases h),h⟩
 | (k,A) :: r,f,h=>by
  by_cases hk:k=s
  ·subst hk;rw [List.cons_append,look_here] at h;cases h;exact .inl List.mem_cons_self
  ·rw [List.cons_append,look_there _ _ hk] at h
   rcases look_append h with h | ⟨h1,h2⟩
   ·exact .inl (List.mem_cons_of_mem _ h)
   ·refine .inr ⟨fun C hC=>?_,h2⟩
    rcases List.mem_cons.1 hC with e | hC
    ·cases e;exact hk rfl
    ·exact h1 C hC
inductive DA (ρ:Type) where
 | c (A:Asn)
 | f (A:ρ→Asn)
def DA.at{ρ:Type}(x:ρ):DA ρ→Asn
 | .c A=>A
 | .f A=>A x
def DA.late{ρ:Type}:DA ρ→Bool
 | .c _=>false
 | .f _=>true
def preEnv{ρ:Type}(l:List Oper)(As:List (DA ρ))(x:ρ):List Nat→Env
 | []=>[]
 | j :: js=>match l[j]?,As[j]? with
  | some o,some A=>(match o.dst with
   | some d=>(d,A.at x) :: preEnv l As x js
   | none=>preEnv l As x js)
  | _,_=>preEnv l As x js
def readEnv(base:Env):List Nat→Env
 | []=>[]
 | s :: ss=>match look s base with
  | some A=>(s,A) :: readEnv base ss
  | none=>readEnv base ss
def outEnv{ρ:Type}(x:ρ):List Oper→List (DA ρ)→Env
 | o :: l,A :: As=>(match o.dst with
  | some d=>(d,A.at x) :: outEnv x l As
  | none=>outEnv x l As)
 | _,_=>[]
theorem preEnv_mem{ρ:Type}{l:List Oper}{As:List (DA ρ)}{x:ρ}{s:Nat}{B:Asn}:∀ {js:List Nat},(s,B)∈preEnv l As x js→∃ (j:Nat) (o:Oper) (A:DA ρ),j∈js∧l[j]? =some o∧As[j]? =some A∧o.dst=some s∧B=A.at x
 | [],h=>by cases h
 | j :: js,h=>by
  unfold preEnv at h
  split at h
  ·rename_i o A ho hA
   split at h
   ·rename_i d hd
    rcases List.mem_cons.1 h with e | h
    ·cases e;exact ⟨j,o,A,List.mem_cons_self,ho,hA,hd,rfl⟩
    ·obtain ⟨j',o',A',h1,h2⟩:=preEnv_mem h;exact ⟨j',o',A',List.mem_cons_of_mem _ h1,h2⟩
   ·obtain ⟨j',o',A',h1,h2⟩:=preEnv_mem h;exact ⟨j',o',A',List.mem_cons_of_mem _ h1,h2⟩
  ·obtain ⟨j',o',A',h1,h2⟩:=preEnv_mem h;exact ⟨j',o',A',List.mem_cons_of_mem _ h1,h2⟩
theorem readEnv_mem{base:Env}{s:Nat}{B:Asn}:∀ {ss:List Nat},(s,B)∈readEnv base ss→s∈ss∧look s base=some B
 | [],h=>by cases h
 | r :: ss,h=>by
  unfold readEnv at h
  split at h
  ·rename_i A hA
   rcases List.mem_cons.1 h with e | h
   ·cases e;exact ⟨List.mem_cons_self,hA⟩
   ·exact ⟨List.mem_cons_of_mem _ (readEnv_mem h).1,(readEnv_mem h).2⟩
  ·exact ⟨List.mem_cons_of_mem _ (readEnv_mem h).1,(readEnv_mem h).2⟩
theorem outEnv_mem{ρ:Type}{x:ρ}{s:Nat}{B:Asn}:∀ {l:List Oper} {As:List (DA ρ)},(s,B)∈outEnv x l As→∃ (i:Nat) (o:Oper) (A:DA ρ),l[i]? =some o∧As[i]? =some A∧o.dst=some s∧B=A.at x
 | [],As,h=>by cases As<;> cases h
 | o :: l,[],h=>by cases h
 | o :: l,A :: As,h=>by
  unfold outEnv at h
  split at h
  ·rename_i d hd
   rcases List.mem_cons.1 h with e | h
   ·cases e;exact ⟨0,o,A,rfl,rfl,hd,rfl⟩
   ·obtain ⟨i,o',A',h1,h2,h3⟩:=outEnv_mem h;exact ⟨i+1,o',A',by simpa using h1,by simpa using h2,h3⟩
  ·obtain ⟨i,o',A',h1,h2,h3⟩:=outEnv_mem h;exact ⟨i+1,o',A',by simpa using h1,by simpa using h2,h3⟩
theorem outEnv_has{ρ:Type}{x:ρ}{s:Nat}{o:Oper}{A:DA ρ}:∀ {l:List Oper} {As:List (DA ρ)} {i:Nat},l[i]? =some o→As[i]? =some A→o.dst=some s→(s,A.at x)∈outEnv x l As
 | [],_,i,h,_,_=>by simp at h
 | _ :: _,[],i,_,h,_=>by simp at h
 | o' :: l,A' :: As,0,h1,h2,h3=>by
  simp at h1 h2
  subst h1 h2
  unfold outEnv
  rw [h3]
  exact List.mem_cons_self
 | o' :: l,A' :: As,i+1,h1,h2,h3=>by
  simp at h1 h2
  unfold outEnv
  split
  ·exact List.mem_cons_of_mem _ (outEnv_has h1 h2 h3)
  ·exact outEnv_has h1 h2 h3
def waits(o:Oper)(j:Nat):Bool:=o.after.toList.any fun e=>Nat.beq e.on j && Region.binds .any e
def chkOne(N:Nat)(l:List Oper)(late:List Bool)(e:Nat)(i:Nat)(o:Oper)(pre reads:List Nat):Bool:=
 (match o.dst with
  | some d=>Nat.blt d N
  | none=>true) &&
 o.after.toList.all (fun x=>Nat.blt x.on i) &&
 pre.all (fun j=>waits o j) &&
 l.all (fun k=>match k.dst with
  | some s=>!memB s reads || waits k i
  | none=>true) &&
 (match o.guard with
  | some (j,_)=>memB j pre
  | none=>true) &&
 (!(late.getD i false) || Nat.beq i e || pre.any (fun j=>late.getD j false))
def chkD(N:Nat)(l:List Oper)(late:List Bool)(e:Nat):Nat→List Oper→List (List Nat×List Nat)→Bool
 | _,[],[]=>true
 | i,o :: os,p :: ps=>chkOne N l late e i o p.1 p.2 && chkD N l late e (i+1) os ps
 | _,_,_=>false
def dstsD:List Oper→Bool
 | []=>true
 | o :: l=>(match o.dst with
  | some d=>l.all fun k=>match k.dst with
   | some s=>!(Nat.beq d s)
   | none=>true
  | none=>true) && dstsD l
theorem chkD_at{N:Nat}{l0:List Oper}{late:List Bool}{e:Nat}:∀ {i:Nat} {l:List Oper} {ps:List (List Nat×List Nat)},chkD N l0 late e i l ps=true→l.length=ps.length∧ ∀ j o p,l[j]? =some o→ps[j]? =some p→chkOne N l0 late e (i+j) o p.1 p.2=true
 | _,[],[],_=>⟨rfl,fun j o p h=>by simp at h⟩
 | _,[],_ :: _,h=>by cases h
 | _,_ :: _,[],h=>by cases h
 | i,o :: l,p :: ps,h=>by
  unfold chkD at h
  rw [Bool.and_eq_true] at h
  obtain ⟨h1,h2⟩:=chkD_at h.2
  refine ⟨by simp [h1],fun j o' p' hj hp=>?_⟩
  cases j with
  | zero=>simp at hj hp;subst hj hp;exact h.1
  | succ j=>simp at hj hp;have:=h2 j o' p' hj hp;rwa [show i+1+j=i+(j+1) by omega] at this
theorem dstsD_at:∀ {l:List Oper},dstsD l=true→∀ (i j:Nat) o o' d,l[i]? =some o→l[j]? =some o'→o.dst=some d→o'.dst=some d→i=j
 | [],_,i,_,_,_,_,h,_,_,_=>by simp at h
 | x :: l,h,i,j,o,o',d,hi,hj,ho,ho'=>by
  unfold dstsD at h
  rw [Bool.and_eq_true] at h
  have step:∀ (j:Nat) (o':Oper),l[j]? =some o'→o'.dst=some d→x.dst=some d→False:=by
   intro j o' hj ho' hx
   have h1:=h.1
   rw [hx] at h1
   have:=List.all_eq_true.1 h1 o' (List.mem_of_getElem? hj)
   rw [ho'] at this
   simp [Nat.beq_refl] at this
  cases i with
  | zero=>
   simp at hi;subst hi
   cases j with
   | zero=>rfl
   | succ j=>simp at hj;exact (step j o' hj ho' ho).elim
  | succ i=>
   simp at hi
   cases j with
   | zero=>simp at hj;subst hj;exact (step i o hi ho ho').elim
   | succ j=>simp at hj;have:=dstsD_at h.2 i j o o' d hi hj ho ho';omega
theorem memB_iff{k:Nat}:∀ {l:List Nat},memB k l=true ↔ k∈l
 | []=>by simp [memB]
 | x :: r=>by
  unfold memB
  cases hb:Nat.beq x k with
  | true=>have:=Nat.eq_of_beq_eq_true hb;simp [this]
  | false=>
   have hne:x≠k:=fun e=>by subst e;rw [Nat.beq_refl] at hb;cases hb
   simp [memB_iff (l:=r),Ne.symm hne]
def DObl(P:Program)(l:List Oper)(o:Oper)(e:Env)(res:Rs)(A:Asn):Prop:=
 match o.guard with
 | none=>Op1 P o e res A
 | some (j,want)=>∃ oj dj b,l[j]? =some oj∧oj.dst=some dj∧((look dj e=some (tB.is b)∧((b=want∧Op1 P o e res A)∨(b= !want∧A=Asn.eq undef)))∨(look dj e=some (Asn.eq undef)∧A=Asn.eq undef))
theorem dp{P:Program}{l:List Oper}{d:Option Tmp}{op:Op}{ty:TypeId}{pos:String}{aft:Array Edge}{j:Nat}{want b:Bool}{oj:Oper}{dj:Nat}{e:Env}{res:Rs}(hj:l[j]? =some oj)(hd:oj.dst=some dj)(hl:look dj e=some (tB.is b))(hb:b= !want) :
  DObl P l ⟨d,op,ty,pos,aft,some (j,want)⟩ e res (Asn.eq undef):=⟨oj,dj,b,hj,hd,.inl ⟨hl,.inr ⟨hb,rfl⟩⟩⟩
theorem dr{P:Program}{l:List Oper}{d:Option Tmp}{op:Op}{ty:TypeId}{pos:String}{aft:Array Edge}{j:Nat}{want b:Bool}{oj:Oper}{dj:Nat}{e:Env}{res:Rs}{A:Asn}(hj:l[j]? =some oj)(hd:oj.dst=some dj)(hl:look dj e=some (tB.is b))(hb:b=want)
  (h:Op1 P ⟨d,op,ty,pos,aft,some (j,want)⟩ e res A):DObl P l ⟨d,op,ty,pos,aft,some (j,want)⟩ e res A:=⟨oj,dj,b,hj,hd,.inl ⟨hl,.inl ⟨hb,h⟩⟩⟩
def DOps(P:Program){ρ:Type}(x:ρ)(l:List Oper)(As:List (DA ρ))(base:Env)(res:Rs)(e:Nat):Nat→List Oper→List (DA ρ)→List (List Nat×List Nat)→Prop
 | i,o :: os,A :: Bs,p :: ps=>(Nat.beq i e=true∨DObl P l o (preEnv l As x p.1++readEnv base p.2) res (A.at x))∧DOps P x l As base res e (i+1) os Bs ps
 | _,_,_,_=>True
theorem DOps_at{P:Program}{ρ:Type}{x:ρ}{l0:List Oper}{As0:List (DA ρ)}{base:Env}{res:Rs}{e:Nat}:∀ {i:Nat} {l:List Oper} {As:List (DA ρ)} {ps:List (List Nat×List Nat)},DOps P x l0 As0 base res e i l As ps→
  ∀ (j:Nat) o A p,l[j]? =some o→As[j]? =some A→ps[j]? =some p→i+j≠e→DObl P l0 o (preEnv l0 As0 x p.1++readEnv base p.2) res (A.at x)
 | i,o :: l,A :: As,p :: ps,h,j,o',A',p',h1,h2,h3,h4=>by
  cases j with
  | zero=>
   simp at h1 h2 h3
   subst h1 h2 h3
   exact h.1.resolve_left fun hb=>h4 (Nat.eq_of_beq_eq_true hb)
  | succ j=>simp at h1 h2 h3;exact DOps_at h.2 j o' A' p' h1 h2 h3 (by omega)
 | _,[],_,_,_,j,_,_,_,h,_,_,_=>by simp at h
 | _,_ :: _,[],_,_,j,_,_,_,_,h,_,_=>by simp at h
 | _,_ :: _,_ :: _,[],_,j,_,_,_,_,_,h,_=>by simp at h
section
variable {P:Program} {N:Nat} {g0:G} {T0:Nat→Prop} {ks:List KF} {B:Exit→Act→World→Prop} {env:Env} {res:Rs}
structure DInv {ρ:Type} (N:Nat) (l:List Oper) (As:List (DA ρ)) (e:Nat) (res:Rs) (us:List Nat) (out:ρ→Rs) (a0:Act) (g1:G) (listed:Array Bool) (a:Act) (g:G):Prop where
 size:listed.size=l.length
 sz:a.tmps.size=N
 dfr:a.defers= []
 closed:∀ (k:Nat) o,l[k]? =some o→listed.getD k false=true→∀ j,waits o j=true→listed.getD j false=true
 old:∀ s,(∀ (k:Nat) o,l[k]? =some o→listed.getD k false=true→o.dst≠some s)→a.tmps.getD s undef=a0.tmps.getD s undef
 early:listed.getD e false=false→Ext No g1 g∧ ∀ (k:Nat) o A,l[k]? =some o→As[k]? =some A→listed.getD k false=true→∃ A0,A= .c A0∧ ∀ d,o.dst=some d→A0.holds (a.tmps.getD d undef) g
 late:listed.getD e false=true→∃ x,Ext (res.pick us).blks g1 g∧(out x).all g∧(out x).dis∧(∀ b,(out x).blks b→(res.pick us).blks b∨g1.w.heap.size≤b)∧
  ∀ (k:Nat) o A,l[k]? =some o→As[k]? =some A→listed.getD k false=true→∀ d,o.dst=some d→(A.at x).holds (a.tmps.getD d undef) g
theorem getD_set_true{listed:Array Bool}{i k:Nat}(hi:i<listed.size):(listed.setIfInBounds i true).getD k false=true ↔ k=i∨listed.getD k false=true:=by
 simp only [Array.getD_eq_getD_getElem?,Array.getElem?_setIfInBounds]
 by_cases h:i=k
 ·subst h;simp [hi]
 ·rw [if_neg h];constructor
  ·exact .inr
  ·rintro (h' | h')
   ·exact absurd h'.symm h
   ·exact h'
def undone(listed:Array Bool)(n:Nat):Nat:=(List.range n).countP fun i=>!listed.getD i false
theorem undone_set{listed:Array Bool}{i:Nat}(hi:i<listed.size)(hl:listed.getD i false=false):∀ n,i<n→undone (listed.setIfInBounds i true) n+1=undone listed n:=by
 have other:∀ k,k≠i→(listed.setIfInBounds i true).getD k false=listed.getD k false:=by
  intro k hk
  simp only [Array.getD_eq_getD_getElem?,Array.getElem?_setIfInBounds]
  rw [if_neg (Ne.symm hk)]
 have same:(listed.setIfInBounds i true).getD i false=true:=by
  simp only [Array.getD_eq_getD_getElem?,Array.getElem?_setIfInBounds]
  simp [hi]
 have low:∀ n,n≤i→undone (listed.setIfInBounds i true) n=undone listed n:=by
  intro n
  induction n with
  | zero=>intro _;rfl
  | succ n ih=>
   intro h
   have:=ih (by omega)
   unfold undone at this ⊢
   rw [List.range_succ,List.countP_append,List.countP_append,this]
   simp only [List.countP_cons,List.countP_nil,other n (by omega)]
 intro n
 induction n with
 | zero=>intro h;omega
 | succ n ih=>
  intro h
  by_cases hn:i=n
  ·subst hn
   have:=low i (Nat.le_refl _)
   unfold undone at this ⊢
   rw [List.range_succ,List.countP_append,List.countP_append,this]
   simp only [List.countP_cons,List.countP_nil,same,hl]
   simp
  ·have:=ih (by omega)
   unfold undone at this ⊢
   rw [List.range_succ,List.countP_append,List.countP_append]
   simp only [List.countP_cons,List.countP_nil,other n (by omega)]
   omega
theorem undone_zero{listed:Array Bool}:∀ {n:Nat},undone listed n=0→∀ i,i<n→listed.getD i false=true:=by
 intro n h i hi
 have:=List.countP_eq_zero.1 h i (List.mem_range.2 hi)
 simpa using this
theorem undone_pos{listed:Array Bool}:∀ {n:Nat},undone listed n≠0→∃ i,i<n∧listed.getD i false=false∧ ∀ j,j<i→listed.getD j false=true:=by
 intro n
 induction n with
 | zero=>intro h;exact absurd rfl h
 | succ n ih=>
  intro h
  by_cases h0:undone listed n=0
  ·refine ⟨n,by omega,?_,undone_zero h0⟩
   cases hn:listed.getD n false with
   | false=>rfl
   | true=>
    exfalso
    apply h
    unfold undone at h0 ⊢
    rw [List.range_succ,List.countP_append,h0]
    simp only [List.countP_cons,List.countP_nil,hn]
    rfl
  ·obtain ⟨i,h1,h2⟩:=ih h0
   exact ⟨i,by omega,h2⟩
theorem waits_iff{o:Oper}{j:Nat}:waits o j=true ↔ ∃ x,x∈o.after∧x.on=j∧Region.binds .any x=true:=by
 simp only [waits,List.any_eq_true,Bool.and_eq_true]
 constructor
 ·rintro ⟨x,hx,h1,h2⟩;exact ⟨x,by simpa using hx,Nat.eq_of_beq_eq_true h1,h2⟩
 ·rintro ⟨x,hx,h1,h2⟩;exact ⟨x,by simpa using hx,by rw [h1];exact Nat.beq_refl j,h2⟩
theorem ready_iff{l:List Oper}{listed:Array Bool}{i:Nat}:i∈Region.ready .any l.toArray listed ↔ i<l.length∧listed.getD i true=false∧ ∃ o,l[i]? =some o∧ ∀ j,waits o j=true→listed.getD j false=true:=by
 unfold Region.ready
 rw [List.mem_filter,List.mem_range]
 simp only [List.size_toArray,Bool.and_eq_true,List.getElem?_toArray]
 constructor
 ·rintro ⟨h1,h2,h3⟩
  refine ⟨h1,by simpa using h2,?_⟩
  rw [List.getElem?_eq_getElem h1] at h3 ⊢
  refine ⟨_,rfl,fun j hj=>?_⟩
  obtain ⟨x,hx,rfl,hb⟩:=waits_iff.1 hj
  simp only [Option.map_some,Option.getD_some,Array.all_eq_true'] at h3
  have:=h3 x hx
  rw [hb] at this
  simpa using this
 ·rintro ⟨h1,h2,o,ho,h3⟩
  refine ⟨h1,by simpa using h2,?_⟩
  rw [ho]
  simp only [Option.map_some,Option.getD_some,Array.all_eq_true']
  intro x hx
  cases hb:Region.binds .any x with
  | false=>rfl
  | true=>simp [h3 x.on (waits_iff.2 ⟨x,hx,rfl,hb⟩)]
theorem DInv.put{ρ:Type}{l:List Oper}{As:List (DA ρ)}{e:Nat}{us:List Nat}{out:ρ→Rs}{a0:Act}{g1:G}{listed:Array Bool}{a:Act}{g g':G}{i:Nat}{o:Oper}{v:Value}
  (h:DInv N l As e res us out a0 g1 listed a g) (hi:i<l.length) (ho:l[i]? =some o) (hd:dstsD l=true) (hN:∀ d,o.dst=some d→d<N) (hnl:listed.getD i false=false) (hw:∀ j,waits o j=true→listed.getD j false=true)
  (hearly:(listed.setIfInBounds i true).getD e false=false→Ext No g g'∧ ∃ A0,As[i]? =some (.c A0)∧A0.holds v g')
  (hlate:(listed.setIfInBounds i true).getD e false=true→∃ x A,As[i]? =some A∧(A.at x).holds v g'∧Ext (res.pick us).blks g1 g'∧(out x).all g'∧(out x).dis∧(∀ b,(out x).blks b→(res.pick us).blks b∨g1.w.heap.size≤b)∧
   ∀ (k:Nat) p C,l[k]? =some p→As[k]? =some C→listed.getD k false=true→∀ d,p.dst=some d→(C.at x).holds (a.tmps.getD d undef) g') :
  DInv N l As e res us out a0 g1 (listed.setIfInBounds i true) (a.put o.dst v) g':=by
 have hsz:i<listed.size:=by rw [h.size];exact hi
 have hput:∀ (k:Nat) p d,l[k]? =some p→listed.getD k false=true→p.dst=some d→(a.put o.dst v).tmps.getD d undef=a.tmps.getD d undef:=by
  intro k p d hk hl hp
  cases hod:o.dst with
  | none=>rfl
  | some d'=>
   refine getD_put_other fun hdd=>?_
   subst hdd
   have:=dstsD_at hd i k o p d' ho hk hod hp
   subst this
   rw [hnl] at hl;cases hl
 have hown:∀ d,o.dst=some d→(a.put o.dst v).tmps.getD d undef=v:=by
  intro d hod
  rw [hod]
  exact getD_put_same (by rw [h.sz];exact hN d hod)
 refine ⟨by simp [h.size],by cases hod:o.dst<;> simp [Act.put,h.sz],by cases hod:o.dst<;> exact h.dfr,?_,?_,?_,?_⟩
 ·intro k p hk hl j hj
  rw [getD_set_true hsz] at hl ⊢
  rcases hl with rfl | hl
  ·rw [ho] at hk;cases hk;exact .inr (hw j hj)
  ·exact .inr (h.closed k p hk hl j hj)
 ·intro s hs
  have hne:o.dst≠some s:=hs i o ho ((getD_set_true hsz).2 (.inl rfl))
  have h2:(a.put o.dst v).tmps.getD s undef=a.tmps.getD s undef:=by
   cases hod:o.dst with
   | none=>rfl
   | some d'=>exact getD_put_other fun hdd=>hne (by rw [hod,hdd])
  rw [h2]
  exact h.old s fun k p hk hl=>hs k p hk ((getD_set_true hsz).2 (.inr hl))
 ·intro he
  obtain ⟨e1,A0,hA0,hv⟩:=hearly he
  have he':listed.getD e false=false:=by
   cases hb:listed.getD e false with
   | false=>rfl
   | true=>rw [(getD_set_true hsz).2 (.inr hb)] at he;cases he
  obtain ⟨e0,hvals⟩:=h.early he'
  refine ⟨e0.trans' e1,fun k p A hk hA hl=>?_⟩
  rcases (getD_set_true hsz).1 hl with rfl | hl'
  ·rw [ho] at hk;cases hk
   rw [hA0] at hA;cases hA
   exact ⟨A0,rfl,fun d hdd=>by rw [hown d hdd];exact hv⟩
  ·obtain ⟨C,rfl,hC⟩:=hvals k p A hk hA hl'
   exact ⟨C,rfl,fun d hdd=>by rw [hput k p d hk hl' hdd];exact C.mono e1 (hC d hdd)⟩
 ·intro he
  obtain ⟨x,A,hA,hv,h1,h2,h3,h4,h5⟩:=hlate he
  refine ⟨x,h1,h2,h3,h4,fun k p C hk hC hl d hdd=>?_⟩
  rcases (getD_set_true hsz).1 hl with rfl | hl'
  ·rw [ho] at hk;cases hk
   rw [hA] at hC;cases hC
   rw [hown d hdd];exact hv
  ·rw [hput k p d hk hl' hdd]
   exact h5 k p C hk hC hl' d hdd
def WA(P:Program)(N:Nat)(g0:G)(T0:Nat→Prop)(l:List Oper)(ks:List KF)(B:Exit→Act→World→Prop)(env:Env)(res:Rs):Prop:=
 ∀ a g,St N g0 T0 env res a g→wpAny P .any l.toArray (KF.sem P ks B) l.toArray.size (Array.replicate l.toArray.size false) a {g.w with drawn:=g.w.drawn+1}
theorem W.ofA{id:Nat}{l:List Oper}(hm:P.follows .mixedOrders=true)(h:WA P N g0 T0 l ks B env res):W P N g0 T0 (.region id l.toArray true) ks B env res:=
 fun a g hst=>wp_region_any hm (h a g hst)
theorem WA.drawR{l:List Oper}{ρ:Type}(As:List (DA ρ))(ps:List (List Nat×List Nat))(e:Nat)(us:List Nat)(Ax:ρ→Asn)(out:ρ→Rs)(x0:ρ)(hm:P.follows .mixedOrders=true)
  (hchk:chkD N l (As.map DA.late) e 0 l ps=true) (hdst:dstsD l=true) (hlen:As.length=l.length) (hops:∀ x,DOps P x l As env (res.drop us) e 0 l As ps)
  (heff:(e<l.length∧ ∃ o p,l[e]? =some o∧ps[e]? =some p∧o.guard=none∧As[e]? =some (.f Ax)∧OpR P o (preEnv l As x0 p.1++readEnv env p.2) res us Ax out)∨(l.length≤e∧us= []∧out x0= []∧As.all (fun A=>!A.late)=true))
  (k:∀ x,WN P N g0 T0 ks B (outEnv x l As++env) (out x++res.drop us)):WA P N g0 T0 l ks B env res:=by
 intro a0 ga hst
 obtain ⟨hlps,hone⟩:=chkD_at hchk
 have hone':∀ (i:Nat) o p,l[i]? =some o→ps[i]? =some p→chkOne N l (As.map DA.late) e i o p.1 p.2=true:=fun i o p h1 h2=>by have:=hone i o p h1 h2;rwa [Nat.zero_add] at this
 let g1:G:=ga.drew
 have e01:Ext No ga g1:=Ext.drew No ga
 have hlateAt:∀ (i:Nat) (A:DA ρ),As[i]? =some A→(As.map DA.late).getD i false=A.late:=by
  intro i A hA
  simp [List.getD,hA]
 -- what an operation may lean on
 have hctx:∀ listed a g x (i:Nat) o p,DInv N l As e res us out a0 g1 listed a g→l[i]? =some o→ps[i]? =some p→listed.getD i false=false→(∀ j,waits o j=true→listed.getD j false=true)→(∃ T,Ext T g1 g)→
   (∀ (k:Nat) q A,l[k]? =some q→As[k]? =some A→listed.getD k false=true→k∈p.1→∀ d,q.dst=some d→(A.at x).holds (a.tmps.getD d undef) g)→
   ∀ s C,look s (preEnv l As x p.1++readEnv env p.2)=some C→C.holds (a.tmps.getD s undef) g:=by
  intro listed a g x i o p hinv ho hp hnl hw ⟨T,hext⟩ hvals s C hC
  have hch:=hone' i o p ho hp
  simp only [chkOne,Bool.and_eq_true] at hch
  obtain ⟨⟨⟨⟨⟨_,_⟩,h3⟩,h4⟩,_⟩,_⟩:=hch
  rcases List.mem_append.1 (look_mem hC) with h | h
  ·obtain ⟨j,q,A,hj,hq,hA,hd,rfl⟩:=preEnv_mem h
   have hlj:=hw j (List.all_eq_true.1 h3 j hj)
   exact hvals j q A hq hA hlj hj s hd
  ·obtain ⟨hs,hlk⟩:=readEnv_mem h
   have hold:=hinv.old s fun kk q hq hl hqd=>by
    have h5:=List.all_eq_true.1 h4 q (List.mem_of_getElem? hq)
    rw [hqd] at h5
    have h6:memB s p.2=true:=memB_iff.2 hs
    simp only [h6,Bool.not_true,Bool.false_or] at h5
    have:=hinv.closed kk q hq hl i h5
    rw [hnl] at this;cases this
   rw [hold]
   exact C.mono hext (C.mono e01 (hst.henv s C hlk))
 have hresAt:∀ g,Ext (res.pick us).blks g1 g→(res.drop us).all g:=fun g hx=>by
  have h0:(res.drop us).all g1:=fun y hy=>y.2.stay e01 (fun _ _ hf=>hf) (hst.hres y (List.mem_filter.1 hy).1)
  exact h0.stay hx (fun b hb hp=>hst.dis.split us b hb hp)
 have key:∀ fuel listed a g,DInv N l As e res us out a0 g1 listed a g→undone listed l.length=fuel→wpAny P .any l.toArray (KF.sem P ks B) fuel listed a g.w:=by
  intro fuel
  induction fuel with
  | zero=>
   intro listed a g hinv hu
   have hall:=undone_zero hu
   refine ⟨?_,?_⟩
   ·rw [List.eq_nil_iff_forall_not_mem]
    intro i hi
    obtain ⟨h1,h2,_⟩:=ready_iff.1 hi
    have h3:=hall i h1
    have hsz:i<listed.size:=by rw [hinv.size];exact h1
    simp [Array.getD,hsz] at h2 h3
    rw [h2] at h3;cases h3
   ·have final:∀ x,Ext (res.pick us).blks g1 g→(out x).all g→(out x).dis→(∀ b,(out x).blks b→(res.pick us).blks b∨g1.w.heap.size≤b)→
      (∀ (k:Nat) o A,l[k]? =some o→As[k]? =some A→listed.getD k false=true→∀ d,o.dst=some d→(A.at x).holds (a.tmps.getD d undef) g)→KF.sem P ks B .normal a g.w:=by
     intro x hext ho hod hob hvals
     have hga:Ext (res.pick us).blks ga g:=(e01.no).trans hext (fun _ _ h=>h)
     refine k x a g ⟨hinv.sz,hinv.dfr,fun s C hC=>?_,?_,?_,?_,?_⟩
     ·rcases look_append hC with h | ⟨h1,h2⟩
      ·obtain ⟨i,o,A,hi,hA,hd,rfl⟩:=outEnv_mem h
       exact hvals i o A hi hA (hall i (List.getElem?_eq_some_iff.1 hi).1) s hd
      ·have hold:=hinv.old s fun kk q hq _ hqd=>by
        have hkl:=(List.getElem?_eq_some_iff.1 hq).1
        obtain ⟨A,hA⟩:∃ A,As[kk]? =some A:=⟨_,List.getElem?_eq_getElem (by rw [hlen];exact hkl)⟩
        exact h1 _ (outEnv_has hq hA hqd)
       rw [hold]
       exact C.mono hga (hst.henv s C h2)
     ·intro y hy
      rcases List.mem_append.1 hy with hy | hy
      ·exact ho y hy
      ·exact hresAt g hext y hy
     ·refine List.pairwise_append.2 ⟨hod,hst.dis.filter _,fun y hy z hz b hyb hzb=>?_⟩
      rcases hob b ⟨y,hy,hyb⟩ with hp | hp
      ·exact hst.dis.split us b ⟨z,hz,hzb⟩ hp
      ·have:=z.2.lt (hst.hres z (List.mem_filter.1 hz).1) hzb
       have h7:g1.w.heap.size=ga.w.heap.size:=rfl
       omega
     ·rintro b ⟨y,hy,hb⟩
      rcases List.mem_append.1 hy with hy | hy
      ·rcases hob b ⟨y,hy,hb⟩ with ⟨z,hz,hzb⟩ | hp
       ·exact hst.own b ⟨z,(List.mem_filter.1 hz).1,hzb⟩
       ·exact .inl (Nat.le_trans hst.ext.size hp)
      ·exact hst.own b ⟨y,(List.mem_filter.1 hy).1,hb⟩
     ·refine hst.ext.trans hga (fun b hb ⟨y,hy,hyb⟩=>?_)
      rcases hst.own b ⟨y,(List.mem_filter.1 hy).1,hyb⟩ with h1 | h1
      ·omega
      ·exact h1
    rcases heff with ⟨he,_⟩ | ⟨he,hus,hout,hall2⟩
    ·obtain ⟨x,h1,h2,h3,h4,h5⟩:=hinv.late (hall e he)
     exact final x h1 h2 h3 h4 h5
    ·have hne:listed.getD e false=false:=by
      have:listed.size≤e:=by rw [hinv.size];exact he
      simp [Array.getD,this]
      omega
     obtain ⟨h1,h2⟩:=hinv.early hne
     refine final x0 h1.no (by rw [hout];intro y hy;cases hy) (by rw [hout];exact List.Pairwise.nil) (by rw [hout];rintro b ⟨y,hy,_⟩;cases hy) ?_
     intro kk o A hk hA hl d hd
     obtain ⟨A0,rfl,hA0⟩:=h2 kk o A hk hA hl
     exact hA0 d hd
  | succ fuel ih=>
   intro listed a g hinv hu
   refine ⟨fun hr=>?_,fun i hi=>?_⟩
   ·exfalso
    obtain ⟨i,h1,h2,h3⟩:=undone_pos (listed:=listed) (n:=l.length) (by omega)
    have:i∈Region.ready .any l.toArray listed:=by
     refine ready_iff.2 ⟨h1,?_,l[i],List.getElem?_eq_getElem h1,fun j hj=>?_⟩
     ·have hsz:i<listed.size:=by rw [hinv.size];exact h1
      simp [Array.getD,hsz] at h2 ⊢
      exact h2
     ·obtain ⟨p,hp⟩:∃ p,ps[i]? =some p:=⟨_,List.getElem?_eq_getElem (by omega)⟩
      have hch:=hone' i _ p (List.getElem?_eq_getElem h1) hp
      simp only [chkOne,Bool.and_eq_true] at hch
      obtain ⟨x,hx,rfl,_⟩:=waits_iff.1 hj
      have:=List.all_eq_true.1 hch.1.1.1.1.2 x (by simpa using hx)
      exact h3 _ (by simpa [Nat.blt_eq] using this)
    rw [hr] at this;cases this
   ·obtain ⟨hil,hnl',o,ho,hw⟩:=ready_iff.1 hi
    have hsz:i<listed.size:=by rw [hinv.size];exact hil
    have hnl:listed.getD i false=false:=by
     simp [Array.getD,hsz] at hnl' ⊢;exact hnl'
    obtain ⟨p,hp⟩:∃ p,ps[i]? =some p:=⟨_,List.getElem?_eq_getElem (by omega)⟩
    obtain ⟨A,hA⟩:∃ A,As[i]? =some A:=⟨_,List.getElem?_eq_getElem (by omega)⟩
    have hch:=hone' i o p ho hp
    simp only [chkOne,Bool.and_eq_true] at hch
    obtain ⟨⟨⟨⟨⟨hc1,_⟩,hc3⟩,_⟩,hc5⟩,hc6⟩:=hch
    have hN:∀ d,o.dst=some d→d<N:=fun d hd=>by rw [hd] at hc1;simpa [Nat.blt_eq] using hc1
    have hund:undone (listed.setIfInBounds i true) l.length=fuel:=by have:=undone_set hsz hnl l.length hil;omega
    unfold wpOp
    simp only [List.getElem?_toArray,ho]
    by_cases hie:i=e
    · -- the one that uses resources
     subst hie
     rcases heff with ⟨_,o',p',ho',hp',hgd,hAe,hop⟩ | ⟨he,_⟩
     rotate_left
     ·omega
     rw [ho] at ho';cases ho'
     rw [hp] at hp';cases hp'
     obtain ⟨hext,hvals⟩:=hinv.early hnl
     have hcx:Cx (preEnv l As x0 p.1++readEnv env p.2) res a g:=⟨hctx listed a g x0 i o p hinv ho hp hnl hw ⟨No,hext⟩ (fun kk q C hq hC hl _ d hd=>by
      obtain ⟨C0,rfl,hC0⟩:=hvals kk q C hq hC hl
      exact hC0 d hd),fun y hy=>y.2.stay ((e01).trans' hext) (fun _ _ hf=>hf) (hst.hres y hy)⟩
     rw [if_pos (by simp [Region.wanted,hgd])]
     refine .inl (hop a g _ _ hcx hst.dis fun x v g' he hv h1 h2 h3=>?_)
     refine ih _ _ _ (hinv.put hil ho hdst hN hnl hw (fun hf=>?_) (fun _=>?_)) hund
     ·rw [(getD_set_true hsz).2 (.inl rfl)] at hf;cases hf
     ·refine ⟨x,.f Ax,hAe,hv,(hext.no).trans he (fun _ _ h=>h),h1,h2,fun b hb=>?_,fun kk q C hq hC hl d hd=>?_⟩
      ·rcases h3 b hb with h | h
       ·exact .inl h
       ·exact .inr (Nat.le_trans hext.size h)
      ·obtain ⟨C0,rfl,hC0⟩:=hvals kk q C hq hC hl
       exact C0.mono he (hC0 d hd)
    · -- every other one
     have hstep:∀ x,(∀ (kk:Nat) q C,l[kk]? =some q→As[kk]? =some C→listed.getD kk false=true→kk∈p.1→∀ d,q.dst=some d→(C.at x).holds (a.tmps.getD d undef) g)→(∃ T,Ext T g1 g)→(res.drop us).all g→
       (∀ v g',Ext No g g'→(A.at x).holds v g'→wpAny P .any l.toArray (KF.sem P ks B) fuel (listed.setIfInBounds i true) (a.put o.dst v) g'.w)→
       (if Region.wanted o (yielded l.toArray a.tmps)=true then o.wp P a g.w (wpAny P .any l.toArray (KF.sem P ks B) fuel (listed.setIfInBounds i true)) (KF.sem P ks B)∨(o.asks P a g.w∧LetsOut (KF.sem P ks B)) else wpAny P .any l.toArray (KF.sem P ks B) fuel (listed.setIfInBounds i true) (a.put o.dst undef) g.w):=by
      intro x hvals hT hres hK
      have hcx:Cx (preEnv l As x p.1++readEnv env p.2) (res.drop us) a g:=⟨hctx listed a g x i o p hinv ho hp hnl hw hT hvals,hres⟩
      have hob:=DOps_at (hops x) i o A p ho hA hp (by omega)
      unfold DObl at hob
      split at hob
      ·rename_i hgd
       rw [if_pos (by simp [Region.wanted,hgd])]
       exact .inl (hob a g _ _ hcx hK)
      ·rename_i j want hgd
       obtain ⟨oj,dj,b,hj,hdj,hor0⟩:=hob
       have hjp:j∈p.1:=by rw [hgd] at hc5;exact memB_iff.1 hc5
       have hljs:=(List.getElem?_eq_some_iff.1 hj).1
       obtain ⟨pj,hpj⟩:∃ pj,ps[j]? =some pj:=⟨_,List.getElem?_eq_getElem (by omega)⟩
       have hchj:=hone' j oj pj hj hpj
       simp only [chkOne,Bool.and_eq_true] at hchj
       have hdN:dj<a.tmps.size:=by rw [hinv.sz];have:=hchj.1.1.1.1.1;rw [hdj] at this;simpa [Nat.blt_eq] using this
       rcases hor0 with ⟨hlk,hor⟩ | ⟨hlk,hund2⟩
       rotate_left
       ·have hwd:=unwanted_of (ops:=l.toArray) (o:=o) (oj:=oj) (j:=j) (dj:=dj) (want:=want) (a:=a) (g:=g) hgd (by simpa using hj) hdj hlk hcx.henv hdN
        rw [if_neg (by rw [hwd];decide)]
        exact hK undef g (Ext.refl _ _) (by rw [hund2];rfl)
       have hwd:=wanted_of (ops:=l.toArray) (o:=o) (oj:=oj) (j:=j) (dj:=dj) (b:=b) (want:=want) (a:=a) (g:=g) hgd (by simpa using hj) hdj (Opd.tmp hlk) hcx.henv hdN
       rcases hor with ⟨hb,hop⟩ | ⟨hb,hAany⟩
       ·rw [if_pos (by rw [hwd,hb];cases want<;> rfl)]
        exact .inl (hop a g _ _ hcx hK)
       ·rw [if_neg (by rw [hwd,hb];cases want<;> decide)]
        exact hK undef g (Ext.refl _ _) (by rw [hAany];rfl)
     cases hle:listed.getD e false with
     | false=>
      obtain ⟨hext,hvals⟩:=hinv.early hle
      have hAc:A.late=false:=by
       cases hAl:A.late with
       | false=>rfl
       | true=>
        exfalso
        rw [hlateAt i A hA,hAl] at hc6
        have hbe:Nat.beq i e=false:=by
         cases hb:Nat.beq i e with
         | false=>rfl
         | true=>exact absurd (Nat.eq_of_beq_eq_true hb) hie
        simp only [hbe,Bool.not_true,Bool.false_or,List.any_eq_true] at hc6
        obtain ⟨j,hj,hjl⟩:=hc6
        have hlj:=hw j (List.all_eq_true.1 hc3 j hj)
        have hjs:j<l.length:=by
         rcases Nat.lt_or_ge j l.length with h | h
         ·exact h
         ·have:listed.size≤j:=by rw [hinv.size];exact h
          rw [Array.getD,dif_neg (by omega)] at hlj
          cases hlj
        obtain ⟨C,hC⟩:∃ C,As[j]? =some C:=⟨_,List.getElem?_eq_getElem (by omega)⟩
        obtain ⟨C0,rfl,_⟩:=hvals j _ C (List.getElem?_eq_getElem hjs) hC hlj
        rw [hlateAt j _ hC] at hjl
        cases hjl
      obtain ⟨A0,rfl⟩:∃ A0,A= .c A0:=by cases A with
       | c A0=>exact ⟨A0,rfl⟩
       | f _=>cases hAc
      refine hstep x0 (fun kk q C hq hC hl _ d hd=>by obtain ⟨C0,rfl,hC0⟩:=hvals kk q C hq hC hl;exact hC0 d hd) ⟨No,hext⟩ (hresAt g hext.no) fun v g' he hv=>?_
      refine ih _ _ _ (hinv.put hil ho hdst hN hnl hw (fun _=>⟨he,A0,hA,hv⟩) (fun hf=>?_)) hund
      rcases (getD_set_true hsz).1 hf with h | h
      ·exact absurd h.symm hie
      ·rw [hle] at h;cases h
     | true=>
      obtain ⟨x,h1,h2,h3,h4,h5⟩:=hinv.late hle
      refine hstep x (fun kk q C hq hC hl _ d hd=>h5 kk q C hq hC hl d hd) ⟨_,h1⟩ (hresAt g h1) fun v g' he hv=>?_
      refine ih _ _ _ (hinv.put hil ho hdst hN hnl hw (fun hf=>?_) (fun _=>?_)) hund
      ·rw [(getD_set_true hsz).2 (.inr hle)] at hf;cases hf
      ·refine ⟨x,A,hA,hv,h1.trans' he,h2.stay he (fun _ _ hf=>hf),h3,h4,fun kk q C hq hC hl d hd=>?_⟩
       exact (C.at x).mono he (h5 kk q C hq hC hl d hd)
 have hstart:DInv N l As e res us out a0 g1 (Array.replicate l.length false) a0 g1:=by
  have hf:∀ j,(Array.replicate l.length false).getD j false=false:=fun j=>by simp [Array.getD]
  refine ⟨by simp,hst.sz,hst.dfr,?_,fun _ _=>rfl,?_,?_⟩
  ·intro kk o _ hl;rw [hf] at hl;cases hl
  ·intro _
   refine ⟨Ext.refl _ _,fun kk o A _ _ hl=>?_⟩
   rw [hf] at hl;cases hl
  ·intro hl;rw [hf] at hl;cases hl
 have hu0:undone (Array.replicate l.length false) l.length=l.length:=by
  unfold undone
  rw [List.countP_eq_length.2]
  ·simp
  ·intro i _;simp [Array.getD]
 have:=key l.length _ a0 g1 hstart hu0
 rw [show l.toArray.size=l.length from rfl]
 exact this
theorem W.drawR{id:Nat}{l:List Oper}{ρ:Type}(As:List (DA ρ))(ps:List (List Nat×List Nat))(e:Nat)(us:List Nat)(Ax:ρ→Asn)(out:ρ→Rs)(x0:ρ)(hm:P.follows .mixedOrders=true)
  (hchk:chkD N l (As.map DA.late) e 0 l ps=true) (hdst:dstsD l=true) (hlen:As.length=l.length) (hops:∀ x,DOps P x l As env (res.drop us) e 0 l As ps)
  (heff:(e<l.length∧ ∃ o p,l[e]? =some o∧ps[e]? =some p∧o.guard=none∧As[e]? =some (.f Ax)∧OpR P o (preEnv l As x0 p.1++readEnv env p.2) res us Ax out)∨(l.length≤e∧us= []∧out x0= []∧As.all (fun A=>!A.late)=true))
  (k:∀ x,WN P N g0 T0 ks B (outEnv x l As++env) (out x++res.drop us)):W P N g0 T0 (.region id l.toArray true) ks B env res:=
 W.ofA hm (WA.drawR As ps e us Ax out x0 hm hchk hdst hlen hops heff k)
theorem WA.draw{l:List Oper}(As:List (DA Unit))(ps:List (List Nat×List Nat))(hm:P.follows .mixedOrders=true)
  (hchk:chkD N l (As.map DA.late) l.length 0 l ps=true) (hdst:dstsD l=true) (hlen:As.length=l.length) (hlate:As.all (fun A=>!A.late)=true) (hops:DOps P () l As env res l.length 0 l As ps)
  (k:WN P N g0 T0 ks B (outEnv () l As++env) res):WA P N g0 T0 l ks B env res:=by
 have hdrop:res.drop []=res:=by simp [Rs.drop,memB]
 refine WA.drawR (ρ:=Unit) As ps l.length [] (fun _=>Asn.any) (fun _=>[]) () hm hchk hdst hlen (fun _=>by rw [hdrop];exact hops) (.inr ⟨Nat.le_refl _,rfl,rfl,hlate⟩) (fun _=>by rw [hdrop];exact k)
theorem W.draw{id:Nat}{l:List Oper}(As:List (DA Unit))(ps:List (List Nat×List Nat))(hm:P.follows .mixedOrders=true)
  (hchk:chkD N l (As.map DA.late) l.length 0 l ps=true) (hdst:dstsD l=true) (hlen:As.length=l.length) (hlate:As.all (fun A=>!A.late)=true) (hops:DOps P () l As env res l.length 0 l As ps)
  (k:WN P N g0 T0 ks B (outEnv () l As++env) res):W P N g0 T0 (.region id l.toArray true) ks B env res:=by
 have hdrop:res.drop []=res:=by simp [Rs.drop,memB]
 refine W.drawR (ρ:=Unit) As ps l.length [] (fun _=>Asn.any) (fun _=>[]) () hm hchk hdst hlen (fun _=>by rw [hdrop];exact hops) (.inr ⟨Nat.le_refl _,rfl,rfl,hlate⟩) (fun _=>by rw [hdrop];exact k)
end
end Go.Dec
