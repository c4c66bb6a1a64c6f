/-
  Short names, and conditions in one step.
-/
import Derived.Test.YtalogjkalmkpjaaGreatDoorDec21
import Derived.Test.YtalogjkalmkpjaaGreatDoorDec17
set_option linter.unusedVariables false
set_option linter.unusedSimpArgs false
namespace Go.Dec
open Go
abbrev Un:Asn:=Asn.eq undef
theorem Si{α:Type}{a b:α}(h:some a=some b):a=b:=Option.some.inj h
theorem Bs{α β:Type}{o:Option α}{f:α→Option β}{b:β}(h:o.bind f=some b):∃ a,o=some a∧f a=some b:=bind_some h
section
variable {α:Type} {p:Prop} [Decidable p] {b0:Bool} {a b:Option α} {r:α}
theorem iteD(hm:(if p then a else b)=some r):(p∧decide p=true∧a=some r)∨(¬ p∧decide p=false∧b=some r):=by
 by_cases h:p
 ·rw [if_pos h] at hm;exact .inl ⟨h,decide_eq_true h,hm⟩
 ·rw [if_neg h] at hm;exact .inr ⟨h,decide_eq_false h,hm⟩
end
section
variable {α:Type} {b0:Bool} {a b:Option α} {r:α}
theorem iteB(hm:(if b0=true then a else b)=some r):(b0=true∧b0=true∧a=some r)∨(¬ b0=true∧b0=false∧b=some r):=by
 cases b0 with
 | true=>exact .inl ⟨rfl,rfl,hm⟩
 | false=>exact .inr ⟨Bool.noConfusion,rfl,hm⟩
theorem iteR(hm:(if b0=false then a else b)=some r):(b0=false∧(!b0)=true∧a=some r)∨(¬ b0=false∧(!b0)=false∧b=some r):=by
 cases b0 with
 | true=>exact .inr ⟨Bool.noConfusion,rfl,hm⟩
 | false=>exact .inl ⟨rfl,rfl,hm⟩
end
section
variable {P:Program} {N:Nat} {g0:G} {T0:Nat→Prop} {ks:List KF} {B:Exit→Act→World→Prop} {env:Env} {res:Rs} {α:Type} {a b:Option α} {r:α} {x:Operand} {c d:Code}
theorem Opd.t{t:Nat}{A:Asn}(h:look t env=some A):Opd env (.tmp t) A:=Opd.tmp h
theorem W.cD{p:Prop}[Decidable p](hm:(if p then a else b)=some r)(hx:Opd env x (tB.is (decide p)))(ht:p→a=some r→W P N g0 T0 c ks B env res)(hf:¬ p→b=some r→W P N g0 T0 d ks B env res):W P N g0 T0 (.cond x c d) ks B env res:=by
 rcases iteD hm with ⟨h,e,k⟩ | ⟨h,e,k⟩
 ·exact W.cond hx (fun _=>ht h k) (fun e'=>by rw [e] at e';cases e')
 ·exact W.cond hx (fun e'=>by rw [e] at e';cases e') (fun _=>hf h k)
theorem W.cB{b0:Bool}(hm:(if b0=true then a else b)=some r)(hx:Opd env x (tB.is b0))(ht:b0=true→a=some r→W P N g0 T0 c ks B env res)(hf:¬ b0=true→b=some r→W P N g0 T0 d ks B env res):W P N g0 T0 (.cond x c d) ks B env res:=by
 rcases iteB hm with ⟨h,e,k⟩ | ⟨h,e,k⟩
 ·exact W.cond hx (fun _=>ht h k) (fun e'=>by rw [e] at e';cases e')
 ·exact W.cond hx (fun e'=>by rw [e] at e';cases e') (fun _=>hf h k)
theorem W.cR{b0:Bool}(hm:(if b0=false then a else b)=some r)(hx:Opd env x (tB.is (!b0)))(ht:b0=false→a=some r→W P N g0 T0 c ks B env res)(hf:¬ b0=false→b=some r→W P N g0 T0 d ks B env res):W P N g0 T0 (.cond x c d) ks B env res:=by
 rcases iteR hm with ⟨h,e,k⟩ | ⟨h,e,k⟩
 ·exact W.cond hx (fun _=>ht h k) (fun e'=>by rw [e] at e';cases e')
 ·exact W.cond hx (fun e'=>by rw [e] at e';cases e') (fun _=>hf h k)
end
section
variable {P:Program} {N:Nat} {g0:G} {T0:Nat→Prop} {ks:List KF} {B:Exit→Act→World→Prop} {env:Env} {res:Rs} {ops:Array Oper} {Q:Exit→Act→World→Prop} {rest:List Oper}
theorem Ao{A:Asn}{d:Nat}{op:Op}{ty:TypeId}{pos:String}{aft:Array Edge}(hd:Nat.blt d N=true)(h:Op1 P ⟨some d,op,ty,pos,aft,none⟩ env res A)
  (k:WL P N g0 T0 ops Q rest ((d,A) :: env) res):WL P N g0 T0 ops Q (⟨some d,op,ty,pos,aft,none⟩ :: rest) env res:=WL.op hd h k
theorem Am{d t:Nat}{A:Asn}{ty:TypeId}{pos:String}{aft:Array Edge}(h:look t env=some A)(hd:Nat.blt d N=true)(k:WL P N g0 T0 ops Q rest ((d,A) :: env) res):WL P N g0 T0 ops Q (⟨some d,.move (.tmp t),ty,pos,aft,none⟩ :: rest) env res:=WL.mv h hd k
theorem Ag{d t:Nat}{A:Asn}{ty:TypeId}{pos:String}{aft:Array Edge}(h:look t env=some A)(hd:Nat.blt d N=true)(k:WL P N g0 T0 ops Q rest ((d,A) :: env) res):WL P N g0 T0 ops Q (⟨some d,.assign (.tmp t),ty,pos,aft,none⟩ :: rest) env res:=WL.gv h hd k
theorem An{c:Code}(h:W P N g0 T0 c ks B env res):WL P N g0 T0 ops (KF.sem P (.seq c :: ks) B) [] env res:=WL.ns h
theorem Ar{id:Nat}{l:List Oper}{c:Code}(h:WL P N g0 T0 l.toArray (KF.sem P (.seq c :: ks) B) l env res):WL P N g0 T0 ops (KF.sem P (.seq (.seq (.region id l.toArray false) c) :: ks) B) [] env res:=WL.nr h
theorem Aw{id:Nat}{l:List Oper}{c:Code}(h:WL P N g0 T0 l.toArray (KF.sem P (.seq c :: ks) B) l env res):W P N g0 T0 (.seq (.region id l.toArray false) c) ks B env res:=W.sr h
theorem Aq{c:Code}(h:W P N g0 T0 c ks B env res):WN P N g0 T0 (.seq c :: ks) B env res:=h
theorem Ap{o:Oper}{j dj:Nat}{want b:Bool}{oj:Oper}{d:Nat}{op:Op}{ty:TypeId}{pos:String}{aft:Array Edge}
  (h:(o,ops[j]?,oj.dst,look dj env,Nat.blt dj N,Nat.blt d N)=((⟨some d,op,ty,pos,aft,some (j,want)⟩,some oj,some dj,some (tB.is b),true,true):Oper×Option Oper×Option Nat×Option Asn×Bool×Bool)) (hb:b= !want)
  (k:WL P N g0 T0 ops Q rest ((d,Un) :: env) res):WL P N g0 T0 ops Q (o :: rest) env res:=by
 simp only [Prod.mk.injEq] at h
 exact WL.pass h.1 h.2.1 h.2.2.1 h.2.2.2.1 hb h.2.2.2.2.1 h.2.2.2.2.2 k
theorem Ax{o:Oper}{j dj:Nat}{want b:Bool}{oj:Oper}{d:Nat}{op:Op}{ty:TypeId}{pos:String}{aft:Array Edge}{A:Asn}
  (h:(o,ops[j]?,oj.dst,look dj env,Nat.blt dj N,Nat.blt d N)=((⟨some d,op,ty,pos,aft,some (j,want)⟩,some oj,some dj,some (tB.is b),true,true):Oper×Option Oper×Option Nat×Option Asn×Bool×Bool)) (hb:b=want)
  (h1:Op1 P ⟨some d,op,ty,pos,aft,some (j,want)⟩ env res A) (k:WL P N g0 T0 ops Q rest ((d,A) :: env) res):WL P N g0 T0 ops Q (o :: rest) env res:=by
 simp only [Prod.mk.injEq] at h
 exact WL.run h.1 h.2.1 h.2.2.1 h.2.2.2.1 hb h.2.2.2.2.1 h.2.2.2.2.2 h1 k
end
theorem Dp{c:Prop}{P:Program}{l:List Oper}{d:Option Tmp}{op:Op}{ty:TypeId}{pos:String}{aft:Array Edge}{j:Nat}{want b:Bool}{oj:Oper}{dj:Nat}{e:Env}{res:Rs}
  (h:(l[j]?,oj.dst,look dj e)=((some oj,some dj,some (tB.is b)):Option Oper×Option Nat×Option Asn)) (hb:b= !want):c∨DObl P l ⟨d,op,ty,pos,aft,some (j,want)⟩ e res Un:=by
 simp only [Prod.mk.injEq] at h
 exact .inr (dp h.1 h.2.1 h.2.2 hb)
theorem Dr{c:Prop}{P:Program}{l:List Oper}{d:Option Tmp}{op:Op}{ty:TypeId}{pos:String}{aft:Array Edge}{j:Nat}{want b:Bool}{oj:Oper}{dj:Nat}{e:Env}{res:Rs}{A:Asn}
  (h:(l[j]?,oj.dst,look dj e)=((some oj,some dj,some (tB.is b)):Option Oper×Option Nat×Option Asn)) (hb:b=want) (h1:Op1 P ⟨d,op,ty,pos,aft,some (j,want)⟩ e res A):c∨DObl P l ⟨d,op,ty,pos,aft,some (j,want)⟩ e res A:=by
 simp only [Prod.mk.injEq] at h
 exact .inr (dr h.1 h.2.1 h.2.2 hb h1)
theorem Dn{c:Prop}{P:Program}{l:List Oper}{d:Option Tmp}{op:Op}{ty:TypeId}{pos:String}{aft:Array Edge}{e:Env}{res:Rs}{A:Asn}(h:Op1 P ⟨d,op,ty,pos,aft,none⟩ e res A):c∨DObl P l ⟨d,op,ty,pos,aft,none⟩ e res A:=.inr h
end Go.Dec
