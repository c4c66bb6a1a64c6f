/-
  Rules for code and for regions, over the logic of the first text.
-/
import Derived.Test.YtalogjkalmkpjaaGreatDoorDec
set_option linter.unusedVariables false
set_option linter.unusedSimpArgs false
namespace Go.Dec
open Go
inductive KF where
 | seq (c:Code)
 | block (id:Nat)
 | loop (K:Act→World→Prop)
def KF.sem(P:Program):List KF→(Exit→Act→World→Prop)→Exit→Act→World→Prop
 | [],B=>B
 | .seq c :: ks,B=>Exit.then (c.wp P (KF.sem P ks B)) (KF.sem P ks B)
 | .block id :: ks,B=>Exit.inBlock id (KF.sem P ks B)
 | .loop K :: ks,B=>Exit.then K (KF.sem P ks B)
section
variable {P:Program} {N:Nat} {g0:G} {T0:Nat→Prop} {ks:List KF} {B:Exit→Act→World→Prop} {env:Env} {res:Rs}
def W(P:Program)(N:Nat)(g0:G)(T0:Nat→Prop)(c:Code)(ks:List KF)(B:Exit→Act→World→Prop)(env:Env)(res:Rs):Prop:=
 ∀ a g,St N g0 T0 env res a g→c.wp P (KF.sem P ks B) a g.w
def WN(P:Program)(N:Nat)(g0:G)(T0:Nat→Prop)(ks:List KF)(B:Exit→Act→World→Prop)(env:Env)(res:Rs):Prop:=
 ∀ a g,St N g0 T0 env res a g→KF.sem P ks B .normal a g.w
theorem W.seq{c d:Code}(h:W P N g0 T0 c (.seq d :: ks) B env res):W P N g0 T0 (.seq c d) ks B env res:=
 fun a g hs=>wp_seq (h a g hs)
theorem W.block{id:Nat}{c:Code}(h:W P N g0 T0 c (.block id :: ks) B env res):W P N g0 T0 (.block id c) ks B env res:=
 fun a g hs=>wp_block (h a g hs)
theorem W.skip(h:WN P N g0 T0 ks B env res):W P N g0 T0 .skip ks B env res:=fun a g hs=>wp_skip (h a g hs)
theorem WN.seq{c:Code}(h:W P N g0 T0 c ks B env res):WN P N g0 T0 (.seq c :: ks) B env res:=h
theorem WN.block{id:Nat}(h:WN P N g0 T0 ks B env res):WN P N g0 T0 (.block id :: ks) B env res:=h
theorem W.weaken{c:Code}{env':Env}{res':Rs}(hs:Sub env' env)(hr:RSub res' res)(h:W P N g0 T0 c ks B env' res'):W P N g0 T0 c ks B env res:=
 fun a g hst=>h a g (hst.weaken hs hr)
theorem WN.weaken{env':Env}{res':Rs}(hs:Sub env' env)(hr:RSub res' res)(h:WN P N g0 T0 ks B env' res'):WN P N g0 T0 ks B env res:=
 fun a g hst=>h a g (hst.weaken hs hr)
def popTo(id:Nat):List KF→Option (List KF)
 | []=>none
 | .block i :: ks=>match Nat.beq id i with
  | true=>some ks
  | false=>popTo id ks
 | .seq _ :: ks=>popTo id ks
 | .loop _ :: ks=>popTo id ks
theorem popTo_sem{id:Nat}:∀ {ks ks':List KF},popTo id ks=some ks'→∀ a w,KF.sem P ks' B .normal a w→KF.sem P ks B (.exit id) a w
 | [],_,h,_,_,_=>by cases h
 | .seq _ :: ks,ks',h,a,w,q=>popTo_sem (ks:=ks) h a w q
 | .loop _ :: ks,ks',h,a,w,q=>popTo_sem (ks:=ks) h a w q
 | .block i :: ks,ks',h,a,w,q=>by
  unfold popTo at h
  cases hb:Nat.beq id i with
  | true=>
   rw [hb] at h
   cases h
   have:=Nat.eq_of_beq_eq_true hb
   show (if id=i then _ else _)
   rw [if_pos this];exact q
  | false=>
   rw [hb] at h
   have hne:¬ id=i:=fun e=>by subst e;rw [Nat.beq_refl] at hb;cases hb
   show (if id=i then _ else _)
   rw [if_neg hne]
   exact popTo_sem (ks:=ks) h a w q
theorem W.exit{id:Nat}{ks':List KF}(hp:popTo id ks=some ks')(h:WN P N g0 T0 ks' B env res):W P N g0 T0 (.exit id) ks B env res:=
 fun a g hs=>wp_exit (popTo_sem hp a g.w (h a g hs))
theorem sem_ret:∀ {ks:List KF} {a:Act} {w:World},B .ret a w→KF.sem P ks B .ret a w
 | [],_,_,h=>h
 | .seq _ :: ks,_,_,h=>sem_ret (ks:=ks) h
 | .block _ :: ks,_,_,h=>sem_ret (ks:=ks) h
 | .loop _ :: ks,_,_,h=>sem_ret (ks:=ks) h
theorem W.ret(h:∀ a g,St N g0 T0 env res a g→B .ret a g.w):W P N g0 T0 .ret ks B env res:=
 fun a g hs=>wp_ret (sem_ret (h a g hs))
def Opd(env:Env)(x:Operand)(A:Asn):Prop:=∀ (a:Act) (g:G),(∀ s B,look s env=some B→B.holds (a.tmps.getD s undef) g)→A.holds (a.eval x) g
theorem Opd.tmp{t:Nat}{A:Asn}(h:look t env=some A):Opd env (.tmp t) A:=fun a g he=>he t A h
theorem Opd.int{k:IntKind}{n:Int}(h:inR k n):Opd env (.const (.int k n)) ((tI k).is n):=fun _ _ _=>⟨_,⟨rfl,h⟩,rfl⟩
theorem Opd.bool{b:Bool}:Opd env (.const (.bool b)) (tB.is b):=fun _ _ _=>⟨_,rfl,rfl⟩
theorem Opd.str{l:Str}{s:ByteArray}(hs:s=Dec.str l)(h:l.length≤lim):Opd env (.const (.string s)) (tS.is l):=fun _ _ _=>⟨_,⟨rfl,h⟩,by subst hs;rfl⟩
theorem Opd.nil{α:Type}{t:Ty α}:Opd env (.const (.slice none 0 0)) ((tL t).is []):=
 fun _ _ _=>⟨_,⟨none,0,rfl,Nat.le_refl _,Nat.zero_le _,fun _=>rfl,rfl⟩,rfl⟩
theorem Opd.const{v:Value}:Opd env (.const v) (Asn.eq v):=fun _ _ _=>rfl
theorem Opd.func{f:FuncId}:Opd env (.func f) (Asn.eq (.func (.func f) #[] #[])):=fun _ _ _=>rfl
theorem Opd.global{n:Nat}:Opd env (.global n) (Asn.eq (.pointer (some ⟨n,0,none⟩))):=fun _ _ _=>rfl
theorem Opd.weak{x:Operand}{A A':Asn}(h:Opd env x A)(hA:∀ v g,A.holds v g→A'.holds v g):Opd env x A':=fun a g he=>hA _ _ (h a g he)
theorem W.cond{x:Operand}{c d:Code}{b:Bool}(hx:Opd env x (tB.is b))(ht:b=true→W P N g0 T0 c ks B env res)(hf:b=false→W P N g0 T0 d ks B env res) :
  W P N g0 T0 (.cond x c d) ks B env res:=by
 intro a g hs
 obtain ⟨cs,hc,hv⟩:=hx a g hs.henv
 have hv':a.eval x= .bool b:=by rw [hv,show cs= [.bool b] from hc];rfl
 cases b with
 | true=>exact wp_cond_true hv' (ht rfl a g hs)
 | false=>exact wp_cond_false hv' (hf rfl a g hs)
theorem W.loop{σ:Type}{c:Code}(I:Nat→σ→Prop)(eI:σ→Env)(rI:σ→Rs)(n0:Nat)(s0:σ)(h0:I n0 s0)(hs:Sub (eI s0) env)(hr:RSub (rI s0) res)
  (round:∀ n s,I n s→W P N g0 T0 c (.loop (fun a w=>∃ n' s' g,n'< n∧I n' s'∧g.w=w∧St N g0 T0 (eI s') (rI s') a g) :: ks) B (eI s) (rI s)) :
  W P N g0 T0 (.loop c) ks B env res:=by
 intro a g hst
 refine wp_loop_ghost (fun n a w=>∃ s g,I n s∧g.w=w∧St N g0 T0 (eI s) (rI s) a g) n0 ⟨s0,g,h0,rfl,hst.weaken hs hr⟩ ?_
 rintro n a w ⟨s,g,hI,rfl,hst⟩
 refine wp_mono (round n s hI a g hst) ?_
 intro e a' w' hq
 cases e with
 | normal=>
  obtain ⟨n',s',g',h1,h2,h3,h4⟩:=hq
  exact ⟨n',h1,s',g',h2,h3,h4⟩
 | exit id=>exact hq
 | goto l=>exact hq
 | ret=>exact hq
 | panic ch=>exact hq
 | outgrown=>exact hq
theorem WN.again{σ:Type}{I:Nat→σ→Prop}{eI:σ→Env}{rI:σ→Rs}{n:Nat}(n':Nat)(s':σ)(hn:n'< n)(hI:I n' s')(hs:Sub (eI s') env)(hr:RSub (rI s') res) :
  WN P N g0 T0 (.loop (fun a w=>∃ n' s' g,n'< n∧I n' s'∧g.w=w∧St N g0 T0 (eI s') (rI s') a g) :: ks) B env res:=
 fun a g hst=>⟨n',s',g,hn,hI,rfl,hst.weaken hs hr⟩
def WL(P:Program)(N:Nat)(g0:G)(T0:Nat→Prop)(ops:Array Oper)(Q:Exit→Act→World→Prop)(l:List Oper)(env:Env)(res:Rs):Prop:=
 ∀ a g,St N g0 T0 env res a g→wpList P ops Q l a g.w
theorem W.region{id:Nat}{l:List Oper}(h:WL P N g0 T0 l.toArray (KF.sem P ks B) l env res):W P N g0 T0 (.region id l.toArray false) ks B env res:=
 fun a g hs=>wp_region_lit (h a g hs)
def Op1(P:Program)(o:Oper)(env:Env)(res:Rs)(A:Asn):Prop:=
 ∀ a g (K:Act→World→Prop) Q,Cx env res a g→(∀ v g',Ext No g g'→A.holds v g'→K (a.put o.dst v) g'.w)→o.wp P a g.w K Q
def OpR(P:Program)(o:Oper)(env:Env)(res:Rs)(ks:List Nat){ρ:Type}(A:ρ→Asn)(out:ρ→Rs):Prop:=
 ∀ a g (K:Act→World→Prop) Q,Cx env res a g→res.dis→
  (∀ x v g',Ext (res.pick ks).blks g g'→(A x).holds v g'→(out x).all g'→(out x).dis→(∀ b,(out x).blks b→(res.pick ks).blks b∨g.w.heap.size≤b)→K (a.put o.dst v) g'.w)→
  o.wp P a g.w K Q
section
variable {ops:Array Oper} {Q:Exit→Act→World→Prop} {rest:List Oper}
theorem WL.nil(h:WN P N g0 T0 ks B env res):WL P N g0 T0 ops (KF.sem P ks B) [] env res:=fun a g hs=>h a g hs
theorem WL.weaken{l:List Oper}{env':Env}{res':Rs}(hs:Sub env' env)(hr:RSub res' res)(h:WL P N g0 T0 ops Q l env' res'):WL P N g0 T0 ops Q l env res:=
 fun a g hst=>h a g (hst.weaken hs hr)
theorem WL.chg{l:List Oper}{res':Rs}(hr:∀ a g,St N g0 T0 env res a g→St N g0 T0 env res' a g)(h:WL P N g0 T0 ops Q l env res'):WL P N g0 T0 ops Q l env res:=
 fun a g hst=>h a g (hr a g hst)
theorem WL.op{A:Asn}{d:Nat}{op:Op}{ty:TypeId}{pos:String}{aft:Array Edge}(hd:Nat.blt d N=true)(h:Op1 P ⟨some d,op,ty,pos,aft,none⟩ env res A)
  (k:WL P N g0 T0 ops Q rest ((d,A) :: env) res):WL P N g0 T0 ops Q (⟨some d,op,ty,pos,aft,none⟩ :: rest) env res:=by
 intro a g hs
 refine wpList_plain rfl fun K hK=>h a g K Q hs.cx fun v g' e hv=>hK _ _ (k _ _ (hs.put (by simpa [Nat.blt_eq] using hd) e hv))
theorem WL.opR{ρ:Type}{A:ρ→Asn}{out:ρ→Rs}{d:Nat}{op:Op}{ty:TypeId}{pos:String}{aft:Array Edge}{us:List Nat}(hd:Nat.blt d N=true)
  (h:OpR P ⟨some d,op,ty,pos,aft,none⟩ env res us A out)
  (k:∀ x,WL P N g0 T0 ops Q rest ((d,A x) :: env) (out x++res.drop us)):WL P N g0 T0 ops Q (⟨some d,op,ty,pos,aft,none⟩ :: rest) env res:=by
 intro a g hs
 refine wpList_plain rfl fun K hK=>h a g K Q hs.cx hs.dis fun x v g' e hv ho hod hob=>hK _ _ (k x _ _ (hs.putR us (out x) (by simpa [Nat.blt_eq] using hd) e hv ho hod hob))
theorem WL.opU{ρ:Type}{A:ρ→Asn}{out:ρ→Rs}{op:Op}{ty:TypeId}{pos:String}{aft:Array Edge}{us:List Nat}
  (h:OpR P ⟨none,op,ty,pos,aft,none⟩ env res us A out)
  (k:∀ x,WL P N g0 T0 ops Q rest env (out x++res.drop us)):WL P N g0 T0 ops Q (⟨none,op,ty,pos,aft,none⟩ :: rest) env res:=by
 intro a g hs
 refine wpList_plain rfl fun K hK=>h a g K Q hs.cx hs.dis fun x v g' e hv ho hod hob=>hK _ _ (k x _ _ ?_)
 have hdr:∀ b,(res.drop us).blks b→b<g.w.heap.size:=by
  rintro b ⟨y,hy,hb⟩
  exact y.2.lt (hs.hres y (List.mem_filter.1 hy).1) hb
 refine ⟨hs.sz,hs.dfr,fun s C hC=>C.mono e (hs.henv s C hC),?_,?_,?_,?_⟩
 ·intro y hy
  rcases List.mem_append.1 hy with hy | hy
  ·exact ho y hy
  ·exact y.2.stay e (fun b hb ht=>hs.dis.split us b ⟨y,hy,hb⟩ ht) (hs.hres y (List.mem_filter.1 hy).1)
 ·refine List.pairwise_append.2 ⟨hod,hs.dis.filter _,fun y hy z hz b hyb hzb=>?_⟩
  rcases hob b ⟨y,hy,hyb⟩ with hp | hp
  ·exact hs.dis.split us b ⟨z,hz,hzb⟩ hp
  ·have:=hdr b ⟨z,hz,hzb⟩;omega
 ·rintro b ⟨y,hy,hb⟩
  rcases List.mem_append.1 hy with hy | hy
  ·rcases hob b ⟨y,hy,hb⟩ with ⟨z,hz,hzb⟩ | hp
   ·exact hs.own b ⟨z,(List.mem_filter.1 hz).1,hzb⟩
   ·exact .inl (Nat.le_trans hs.ext.size hp)
  ·exact hs.own b ⟨y,(List.mem_filter.1 hy).1,hb⟩
 ·refine hs.ext.trans e (fun b hb ⟨y,hy,hyb⟩=>?_)
  rcases hs.own b ⟨y,(List.mem_filter.1 hy).1,hyb⟩ with h1 | h1
  ·omega
  ·exact h1
theorem wanted_of{o oj:Oper}{j dj:Nat}{b want:Bool}{a:Act}{g:G}(hg:o.guard=some (j,want))(hj:ops[j]? =some oj)(hdj:oj.dst=some dj)
  (hx:Opd env (.tmp dj) (tB.is b)) (he:∀ s A,look s env=some A→A.holds (a.tmps.getD s undef) g) (hsz:dj<a.tmps.size):Region.wanted o (yielded ops a.tmps)=(b==want):=by
 obtain ⟨cs,hc,hv⟩:=hx a g he
 have hv':a.tmps.getD dj undef= .bool b:=by
  have:a.eval (.tmp dj)= .bool b:=by rw [hv,show cs= [.bool b] from hc];rfl
  exact this
 have hv2:a.tmps[dj]? =some (.bool b):=by
  rw [Array.getElem?_eq_getElem hsz]
  rw [←hv']
  simp [Array.getD,hsz]
 unfold Region.wanted
 rw [hg]
 simp only [yielded,hj,Option.bind_some,hdj,hv2]
 cases b<;> cases want<;> rfl
theorem WL.run{o:Oper}{j dj:Nat}{want b:Bool}{oj:Oper}{d:Nat}{op:Op}{ty:TypeId}{pos:String}{aft:Array Edge}(ho:o=⟨some d,op,ty,pos,aft,some (j,want)⟩){A:Asn}
  (hj:ops[j]? =some oj) (hdj:oj.dst=some dj) (hx:look dj env=some (tB.is b)) (hb:b=want) (hN:Nat.blt dj N=true) (hd:Nat.blt d N=true)
  (h:Op1 P ⟨some d,op,ty,pos,aft,some (j,want)⟩ env res A) (k:WL P N g0 T0 ops Q rest ((d,A) :: env) res):WL P N g0 T0 ops Q (o :: rest) env res:=by
 subst ho
 intro a g hs
 have hw:=wanted_of (o:=⟨some d,op,ty,pos,aft,some (j,want)⟩) rfl hj hdj (Opd.tmp hx) hs.henv (by rw [hs.sz];simpa [Nat.blt_eq] using hN)
 refine wpList_step fun K hK=>?_
 rw [if_pos (by rw [hw,hb];cases want<;> rfl)]
 exact h a g K Q hs.cx fun v g' e hv=>hK _ _ (k _ _ (hs.put (by simpa [Nat.blt_eq] using hd) e hv))
theorem WL.pass{o:Oper}{j dj:Nat}{want b:Bool}{oj:Oper}{d:Nat}{op:Op}{ty:TypeId}{pos:String}{aft:Array Edge}(ho:o=⟨some d,op,ty,pos,aft,some (j,want)⟩)
  (hj:ops[j]? =some oj) (hdj:oj.dst=some dj) (hx:look dj env=some (tB.is b)) (hb:b= !want) (hN:Nat.blt dj N=true) (hd:Nat.blt d N=true)
  (k:WL P N g0 T0 ops Q rest ((d,Asn.eq undef) :: env) res):WL P N g0 T0 ops Q (o :: rest) env res:=by
 subst ho
 intro a g hs
 have hw:=wanted_of (o:=⟨some d,op,ty,pos,aft,some (j,want)⟩) rfl hj hdj (Opd.tmp hx) hs.henv (by rw [hs.sz];simpa [Nat.blt_eq] using hN)
 refine wpList_step fun K hK=>?_
 rw [if_neg (by rw [hw,hb];cases want<;> decide)]
 exact hK _ _ (k _ _ (hs.put (by simpa [Nat.blt_eq] using hd) (Ext.refl _ _) rfl))
theorem unwanted_of{o oj:Oper}{j dj:Nat}{want:Bool}{a:Act}{g:G}(hg:o.guard=some (j,want))(hj:ops[j]? =some oj)(hdj:oj.dst=some dj)
  (hx:look dj env=some (Asn.eq undef)) (he:∀ s A,look s env=some A→A.holds (a.tmps.getD s undef) g) (hsz:dj<a.tmps.size):Region.wanted o (yielded ops a.tmps)=false:=by
 have hv':a.tmps.getD dj undef=undef:=he dj _ hx
 have hv2:a.tmps[dj]? =some undef:=by
  rw [Array.getElem?_eq_getElem hsz]
  rw [←hv']
  simp [Array.getD,hsz]
 unfold Region.wanted
 rw [hg]
 simp only [yielded,hj,Option.bind_some,hdj,hv2]
 rfl
theorem WL.pass2{o:Oper}{j dj:Nat}{want:Bool}{oj:Oper}{d:Nat}{op:Op}{ty:TypeId}{pos:String}{aft:Array Edge}(ho:o=⟨some d,op,ty,pos,aft,some (j,want)⟩)
  (hj:ops[j]? =some oj) (hdj:oj.dst=some dj) (hx:look dj env=some (Asn.eq undef)) (hN:Nat.blt dj N=true) (hd:Nat.blt d N=true)
  (k:WL P N g0 T0 ops Q rest ((d,Asn.eq undef) :: env) res):WL P N g0 T0 ops Q (o :: rest) env res:=by
 subst ho
 intro a g hs
 have hw:=unwanted_of (o:=⟨some d,op,ty,pos,aft,some (j,want)⟩) rfl hj hdj hx hs.henv (by rw [hs.sz];simpa [Nat.blt_eq] using hN)
 refine wpList_step fun K hK=>?_
 rw [if_neg (by rw [hw];decide)]
 exact hK _ _ (k _ _ (hs.put (by simpa [Nat.blt_eq] using hd) (Ext.refl _ _) rfl))
end
end
def All2:List Asn→List Value→G→Prop
 | [],[],_=>True
 | A :: As,v :: vs,g=>A.holds v g∧All2 As vs g
 | _,_,_=>False
theorem All2.len:∀ {As:List Asn} {vs:List Value} {g:G},All2 As vs g→vs.length=As.length
 | [],[],_,_=>rfl
 | A :: As,v :: vs,g,h=>by simp [All2.len h.2]
def FSpec(P:Program)(f:FuncId)(As:List Asn)(A:Asn):Prop:=
 ∀ g vs,All2 As vs g→Calls P f vs.toArray g.w fun e w'=>∃ v g',g'.w=w'∧e= .returned v∧Ext No g g'∧A.holds v g'
def FSpecR(P:Program)(f:FuncId)(As:List Asn)(rin:Rs){ρ:Type}(A:ρ→Asn)(out:ρ→Rs):Prop:=
 ∀ g vs,All2 As vs g→rin.all g→rin.dis→Calls P f vs.toArray g.w fun e w'=>∃ x v g',g'.w=w'∧e= .returned v∧Ext rin.blks g g'∧(A x).holds v g'∧
  (out x).all g'∧(out x).dis∧(∀ b,(out x).blks b→rin.blks b∨g.w.heap.size≤b)
def envFrom(k:Nat):List Asn→Env
 | []=>[]
 | A :: As=>(k,A) :: envFrom (k+1) As
theorem envFrom_holds{g:G}(all:List Value):∀ (As:List Asn) (vs:List Value) (k:Nat),All2 As vs g→(∀ j v,vs[j]? =some v→all[k+j]? =some v)→
  ∀ s B,look s (envFrom k As)=some B→∃ v,all[s]? =some v∧B.holds v g
 | [],_,_,_,_,s,B,h=>by simp [envFrom,look] at h
 | A :: As,[],_,hA,_,_,_,_=>by simp [All2] at hA
 | A :: As,v :: vs,k,hA,hj,s,B,h=>by
  unfold envFrom at h
  by_cases hk:k=s
  ·subst hk
   rw [look_here] at h
   cases h
   exact ⟨v,by have:=hj 0 v rfl;simpa using this,hA.1⟩
  ·rw [look_there _ _ hk] at h
   exact envFrom_holds all As vs (k+1) hA.2 (fun j u hu=>by have:=hj (j+1) u (by simpa using hu);rwa [show k+(j+1)=k+1+j by omega] at this) s B h
def Bo(P:Program)(fn:Func)(g0:G)(rin:Rs){ρ:Type}(A:ρ→Asn)(out:ρ→Rs):Exit→Act→World→Prop:=
 bodyPost P fn fun e w'=>∃ x v g',g'.w=w'∧e= .returned v∧Ext rin.blks g0 g'∧(A x).holds v g'∧(out x).all g'∧(out x).dis∧(∀ b,(out x).blks b→rin.blks b∨g0.w.heap.size≤b)
theorem FSpecR.of{P:Program}{f:FuncId}{fn:Func}{c:Code}{N:Nat}{As:List Asn}{rin:Rs}{ρ:Type}{A:ρ→Asn}{out:ρ→Rs}(hf:P.funcs[f]? =some fn)(hb:fn.body=some c)(hN:fn.ntmps=N)
  (hA:Nat.ble As.length N=true) (h:∀ g0,W P N g0 rin.blks c [] (Bo P fn g0 rin A out) (envFrom 0 As) rin):FSpecR P f As rin A out:=by
 intro g vs hvs hr hd
 refine calls_of_wp hf hb (h g _ g ?_)
 have hl:=hvs.len
 have hle:As.length≤N:=Nat.le_of_ble_eq_true hA
 refine ⟨by simp [hN,hl];omega,rfl,fun s B hB=>?_,hr,hd,fun b hb=>.inr hb,Ext.refl _ _⟩
 obtain ⟨v,hv,hBv⟩:=envFrom_holds vs As vs 0 hvs (fun j u hu=>by simpa using hu) s B hB
 have hlt:s<vs.length:=(List.getElem?_eq_some_iff.1 hv).1
 have:((vs.toArray++Array.replicate (fn.ntmps-vs.toArray.size) undef).getD s undef)=v:=by
  simp only [Array.getD_eq_getD_getElem?]
  rw [Array.getElem?_append_left (by simpa using hlt)]
  simp [hv]
 rw [this]
 exact hBv
theorem FSpecR.rekey{P:Program}{f:FuncId}{As:List Asn}{rin:Rs}{ρ:Type}{A:ρ→Asn}{k0:Nat}{R:ρ→Res}(h:FSpecR P f As rin A (fun x=>[(k0,R x)]))(k:Nat):FSpecR P f As rin A (fun x=>[(k,R x)]):=by
 intro g vs hvs hr hd
 refine (h g vs hvs hr hd).mono ?_
 rintro e w' ⟨x,v,g',h1,h2,h3,h4,h5,h6,h7⟩
 refine ⟨x,v,g',h1,h2,h3,h4,fun y hy=>?_,List.pairwise_singleton _ _,fun b ⟨y,hy,hb⟩=>?_⟩
 ·rw [List.mem_singleton.1 hy];exact h5 (k0,R x) (List.mem_singleton.2 rfl)
 ·rw [List.mem_singleton.1 hy] at hb;exact h7 b ⟨(k0,R x),List.mem_singleton.2 rfl,hb⟩
theorem FSpecR.pure{P:Program}{f:FuncId}{As:List Asn}{A:Asn}(h:FSpecR P f As [] (fun _:Unit=>A) (fun _=>[])):FSpec P f As A:=by
 intro g vs hvs
 refine (h g vs hvs (fun _ hx=>by cases hx) List.Pairwise.nil).mono ?_
 rintro e w' ⟨x,v,g',h1,h2,h3,h4,_⟩
 exact ⟨v,g',h1,h2,h3.mono (fun b ⟨y,hy,_⟩=>by cases hy),h4⟩
theorem FSpec.of{P:Program}{f:FuncId}{fn:Func}{c:Code}{N:Nat}{As:List Asn}{A:Asn}(hf:P.funcs[f]? =some fn)(hb:fn.body=some c)(hN:fn.ntmps=N)
  (hA:Nat.ble As.length N=true) (h:∀ g0,W P N g0 (Rs.blks []) c [] (Bo P fn g0 [] (fun _:Unit=>A) (fun _=>[])) (envFrom 0 As) []):FSpec P f As A:=
 FSpecR.pure (FSpecR.of hf hb hN hA h)
section
variable {P:Program} {N:Nat} {g0:G} {ks:List KF} {env:Env} {res rin:Rs} {fn:Func} {ρ:Type} {A:ρ→Asn} {out:ρ→Rs}
theorem W.ret1{t:Tmp}(x:ρ)(hr:fn.results= #[.tmp t])(h:Opd env (.tmp t) (A x))(hs:RSub (out x) res):W P N g0 rin.blks .ret ks (Bo P fn g0 rin A out) env res:=
 W.ret fun a g hst=>⟨hst.dfr,_,results_tmp hr _ _ _,x,_,g,rfl,rfl,hst.ext,h a g hst.henv,fun y hy=>hst.hres y (hs.mem y hy),hs.dis hst.dis,fun b ⟨y,hy,hyb⟩=>(hst.own b ⟨y,hs.mem y hy,hyb⟩).symm⟩
theorem W.ret2{t u:Tmp}(x:ρ){C D:Asn}(hr:fn.results= #[.tmp t,.tmp u])(hA:A x=Asn.tuple2 C D)(h:Opd env (.tmp t) C)(k:Opd env (.tmp u) D)(hs:RSub (out x) res):W P N g0 rin.blks .ret ks (Bo P fn g0 rin A out) env res:=
 W.ret fun a g hst=>⟨hst.dfr,_,results_tmp2 hr _ _ _,x,_,g,rfl,rfl,hst.ext,by rw [hA];exact ⟨_,_,rfl,h a g hst.henv,k a g hst.henv⟩,fun y hy=>hst.hres y (hs.mem y hy),hs.dis hst.dis,fun b ⟨y,hy,hyb⟩=>(hst.own b ⟨y,hs.mem y hy,hyb⟩).symm⟩
end
end Go.Dec
