import Derived.Test.YtobcmdhemlennaaGreatDoorDec32
import Derived.Test.YtobcmdhemlennaaGreatDoorDec17
import Derived.Test.YtobcmdhemlennaaGreatDoorDec46
/-
  Runs of simple steps, found by Lean itself: a tactic script stands as the default of a premise.
-/
set_option linter.unusedVariables false
set_option linter.unusedSimpArgs false
namespace Go.Dec
open Go
variable {A:Asn}{j:Int}{α:Type}{l:List α}{u:α}
class UC (P:Program) (T:TypeId) (d:outParam TypeDesc):Type where
 h:P.underlying T=some d
class ZC (P:Program) (T:TypeId) (n:outParam Nat):Type where
 h:∀ w,(sizeOf T).run P w= .ok n w
class YC (P:Program) (T:TypeId) (α:outParam Type) (t:outParam (Ty α)):Type where
 h:TyAt P T t
class FC {α:Type} (s:Ty α) (o:Nat) (β:outParam Type) (t:outParam (Ty β)) (f:outParam (α->β)):Type where
 h:Fld s o t f
section
variable {P:Program} {env:Env} {res:Rs} {d:Option Tmp} {ty:TypeId} {pos:String} {aft:Array Edge} {gd:Option (Nat×Bool)} {x y z:Operand} {T e:TypeId}
theorem Opd.a(h:Opd env x A:=by first | exact .tmp rfl | exact .bool | exact .int (inR64.2 ⟨by decide,by decide⟩) | exact .int (inR8.2 ⟨by decide,by decide⟩) | exact .int (inR32.2 ⟨by decide,by decide⟩) | exact .str rfl (by decide) | exact .own (.tmp rfl) | exact .tLn (.tmp rfl) | exact .nil | exact .nilN):Opd env x A:=h
theorem Op1.VB{t:Ty α}[i:YC P T α t](h:Opd env x (t.ptr u):=by exact .tmp rfl):Op1 P ⟨d,.load T x,ty,pos,aft,gd⟩ env res (t.is u):=.load i.h h
theorem Op1.fAI{β:Type}{s:Ty α}{t:Ty β}{f:α->β}{fs:Array Field}{a1:String}{ft:TypeId}{off:Nat}{a4:Bool}{a5 a6:String}{a7:Nat}{n:Nat}{m:Nat}[iT:UC P T (.struct fs)](h:Opd env x (s.ptr u))(hf:fs[n]? =some ⟨a1,ft,off,a4,a5,a6,a7⟩)(iz:ZC P ft (m+1))(iF:FC s off β t f) :
  Op1 P ⟨d,.fieldAddr T x n,ty,pos,aft,gd⟩ env res (t.ptr (f u)):=.fieldAddr iT.h hf (λw=>⟨_,iz.h w⟩) iF.h h
theorem Op1.QZ{t:Ty α}{xs:List α}[iT:UC P T (.slice e)](h:Opd env x ((tL t).is xs):=by exact .tmp rfl):Op1 P ⟨d,.call ⟨.builtin .len,#[x],#[T]⟩,ty,pos,aft,gd⟩ env res ((tI .i64).is (xs.length:Int)):=.qd iT.h h
end
class SpC (P:Program) (f:FuncId) (q:Prop) (As:outParam (List Asn)) (A:outParam Asn):Prop where
 c:∀ vs w,(callFunc f vs).run P w= .ok (.enter f vs) w
 h:q->FSpec P f As A
section
variable {P:Program} {env:Env} {res:Rs} {d:Option Tmp} {ty:TypeId} {pos:String} {aft:Array Edge} {gd:Option (Nat×Bool)} {x y z:Operand} {T e:TypeId} {k k':IntKind}
theorem Op1.idxI{t:Ty α}{i:Int}(hx:Opd env x ((tL t).is l))(hy:Opd env y ((tI k).is i))(h:Dec.idx l i=some u)[iT:UC P T (.slice e)][iz:YC P e α t]:Op1 P ⟨d,.indexAddr T x y,ty,pos,aft,gd⟩ env res (t.ptr u):=.idx h iT.h iz.h.size hx hy
theorem Op1.addCI{m n w:Int}(h:Dec.addC m n=some w)(hx:Opd env x ((tI .i64).is m))(hy:Opd env y ((tI .i64).is n)):Op1 P ⟨d,.binOp .add T x y e,ty,pos,aft,gd⟩ env res ((tI .i64).is w):=.addC h hx hy
theorem Op1.subCI{m n w:Int}(h:Dec.subC m n=some w)(hx:Opd env x ((tI .i64).is m))(hy:Opd env y ((tI .i64).is n)):Op1 P ⟨d,.binOp .sub T x y e,ty,pos,aft,gd⟩ env res ((tI .i64).is w):=.subC h hx hy
theorem Op1.catCI{m n w:Str}(h:Dec.catC m n=some w)(hx:Opd env x (tS.is m))(hy:Opd env y (tS.is n)):Op1 P ⟨d,.binOp .add T x y e,ty,pos,aft,gd⟩ env res (tS.is w):=.catC h hx hy
theorem Op1.sidxI{l:Str}{i:Int}{b:UInt8}(h:Dec.idx l i=some b)(hx:Opd env x (tS.is l))(hy:Opd env y ((tI k).is i))[iT:UC P T .string]:Op1 P ⟨d,.index T x y,ty,pos,aft,gd⟩ env res ((tI .u8).is (b.toNat:Int)):=.sidx h iT.h hx hy
theorem Op1.slcI{t:Ty α}{r:List α}{i:Int}(h:Dec.slc l i j=some r)(hx:Opd env x ((tL t).is l))(hy:Opd env y ((tI k).is i))(hz:Opd env z ((tI k').is j))[iT:UC P T (.slice e)][iz:YC P e α t]:Op1 P ⟨d,.slice T x (some y) (some z) none,ty,pos,aft,gd⟩ env res ((tL t).is r):=.slc h iT.h iz.h.size hx hy hz
theorem Op1.slcLoI{t:Ty α}{r:List α}{i:Int}(h:Dec.slcLo l i=some r)(hx:Opd env x ((tL t).is l))(hy:Opd env y ((tI k).is i))[iT:UC P T (.slice e)][iz:YC P e α t]:Op1 P ⟨d,.slice T x (some y) none none,ty,pos,aft,gd⟩ env res ((tL t).is r):=.slcLo h iT.h iz.h.size hx hy
theorem Op1.slcHiI{t:Ty α}{r:List α}(h:Dec.slcHi l j=some r)(hx:Opd env x ((tL t).is l))(hy:Opd env y ((tI k).is j))[iT:UC P T (.slice e)][iz:YC P e α t]:Op1 P ⟨d,.slice T x none (some y) none,ty,pos,aft,gd⟩ env res ((tL t).is r):=.slcHi h iT.h iz.h.size hx hy
theorem Op1.sslcLoI{l r:Str}{i:Int}(h:Dec.slcLo l i=some r)(hx:Opd env x (tS.is l))(hy:Opd env y ((tI k).is i))[iT:UC P T .string]:Op1 P ⟨d,.slice T x (some y) none none,ty,pos,aft,gd⟩ env res (tS.is r):=.sslcLo h iT.h hx hy
theorem Op1.sslcHiI{l r:Str}(h:Dec.slcHi l j=some r)(hx:Opd env x (tS.is l))(hy:Opd env y ((tI k).is j))[iT:UC P T .string]:Op1 P ⟨d,.slice T x none (some y) none,ty,pos,aft,gd⟩ env res (tS.is r):=.sslcHi h iT.h hx hy
theorem Op1.NZ{l:Str}[iT:UC P T .string](h:Opd env x (tS.is l):=by exact .tmp rfl):Op1 P ⟨d,.call ⟨.builtin .len,#[x],#[T]⟩,ty,pos,aft,gd⟩ env res ((tI .i64).is (l.length:Int)):=.FX iT.h h
theorem Op1.callI{f:FuncId}{xs:List Operand}{ats:Array TypeId}{q:Prop}{As:List Asn}(hq:q)(s:SpC P f q As A)(h:Opds env xs As):Op1 P ⟨d,.call ⟨.value (.func f),xs.toArray,ats⟩,ty,pos,aft,gd⟩ env res A:=.call s.c (s.h hq) h
end
section
variable {P:Program} {N:Nat} {g0:G} {T0:Nat->Prop} {env:Env} {res:Rs} {ops:Array Oper} {Q:Exit->Act->World->Prop} {rest:List Oper} {d:Option Tmp} {ty:TypeId} {pos:String} {aft:Array Edge} {gd:Option (Nat×Bool)} {o:Oper}
theorem Oz(h:Op1 P o env res A:=by
 first
 | ((with_reducible apply Op1.VB);exact .tmp rfl)
 | ((with_reducible apply Op1.fAI);exact .tmp rfl;exact rfl;exact inferInstance;exact inferInstance)
 | ((with_reducible apply Op1.QZ);exact .tmp rfl)
 | ((with_reducible apply Op1.NZ);exact .tmp rfl)
 | ((with_reducible apply Op1.notB);exact .tmp rfl)
 | ((with_reducible apply Op1.extract0);exact .tmp rfl) | ((with_reducible apply Op1.extract1);exact .tmp rfl)
 | ((with_reducible apply Op1.extract30);exact .tmp rfl) | ((with_reducible apply Op1.extract31);exact .tmp rfl) | ((with_reducible apply Op1.extract32);exact .tmp rfl)
 | ((with_reducible apply Op1.pickT);exact .tmp rfl;(first | (with_reducible assumption) | with_reducible exact rfl);exact Opd.a)
 | ((with_reducible apply Op1.pickF);exact .tmp rfl;(first | (with_reducible assumption) | with_reducible exact rfl);exact Opd.a)
 | ((with_reducible apply Op1.assign);exact Opd.a) | ((with_reducible apply Op1.move);exact Opd.a)
 | ((with_reducible apply Op1.eqI);exact Opd.a;exact Opd.a) | ((with_reducible apply Op1.ltI);exact Opd.a;exact Opd.a) | ((with_reducible apply Op1.neI);exact Opd.a;exact Opd.a)
 | ((with_reducible apply Op1.gtI);exact Opd.a;exact Opd.a) | ((with_reducible apply Op1.leI);exact Opd.a;exact Opd.a) | ((with_reducible apply Op1.geI);exact Opd.a;exact Opd.a)
 | ((with_reducible apply Op1.eqS);exact Opd.a;exact Opd.a) | ((with_reducible apply Op1.neS);exact Opd.a;exact Opd.a)):Op1 P o env res A:=h
end
section
variable {P:Program} {N:Nat} {g0:G} {T0:Nat->Prop} {env:Env} {res:Rs} {ops:Array Oper} {Q:Exit->Act->World->Prop} {rest:List Oper} {j dj:Nat} {want b:Bool} {oj:Oper} {d:Nat} {op:Op} {ty:TypeId} {pos:String} {aft:Array Edge}
theorem WL.apC{o:Oper}{l l2:List Oper}(k:WL P N g0 T0 ops Q (o :: l.append l2) env res):WL P N g0 T0 ops Q ((o :: l).append l2) env res:=k
theorem WL.apN{l2:List Oper}(k:WL P N g0 T0 ops Q l2 env res):WL P N g0 T0 ops Q (List.append [] l2) env res:=k
theorem WL.passA(h:(ops[j]?,oj.dst,look dj env,Nat.blt dj N,Nat.blt d N)=(some oj,some dj,some (tB.is b),true,true))(hb:b= !want)(k:WL P N g0 T0 ops Q rest ((d,Un) :: env) res):WL P N g0 T0 ops Q (⟨some d,op,ty,pos,aft,some (j,want)⟩ :: rest) env res:=by
 simp only [Prod.mk.injEq] at h;exact WL.pass rfl h.1 h.2.1 h.2.2.1 hb h.2.2.2.1 h.2.2.2.2 k
theorem WL.runA(h:(ops[j]?,oj.dst,look dj env,Nat.blt dj N,Nat.blt d N)=(some oj,some dj,some (tB.is b),true,true))(hb:b=want)(h1:Op1 P ⟨some d,op,ty,pos,aft,some (j,want)⟩ env res A)(k:WL P N g0 T0 ops Q rest ((d,A) :: env) res):WL P N g0 T0 ops Q (⟨some d,op,ty,pos,aft,some (j,want)⟩ :: rest) env res:=by
 simp only [Prod.mk.injEq] at h;exact WL.run rfl h.1 h.2.1 h.2.2.1 hb h.2.2.2.1 h.2.2.2.2 h1 k
theorem WL.pass2A(h:(ops[j]?,oj.dst,look dj env,Nat.blt dj N,Nat.blt d N)=(some oj,some dj,some Un,true,true))(k:WL P N g0 T0 ops Q rest ((d,Un) :: env) res):WL P N g0 T0 ops Q (⟨some d,op,ty,pos,aft,some (j,want)⟩ :: rest) env res:=by
 simp only [Prod.mk.injEq] at h;exact WL.pass2 rfl h.1 h.2.1 h.2.2.1 h.2.2.2.1 h.2.2.2.2 k
end
def preOf(o:Oper):List Nat:=(o.after.toList.map λe=>e.on).filter λj=>waits o j
def opdT:Operand->List Nat
 | .tmp t=>[t]
 | _=>[]
def opT:Op->List Nat
 | .move x | .assign x | .load _ x | .fieldAddr _ x _ | .unOp _ _ x | .extract x _ | .nilCheck x | .box _ x | .convert _ _ x=>opdT x
 | .binOp _ _ x y _ | .indexAddr _ x y | .index _ x y | .store _ x y | .makeSlice _ x y | .lookup _ x y _=>opdT x++opdT y
 | .field _ x _=>opdT x
 | .makeFunc _ a b=>a.toList.flatMap opdT++b.toList.flatMap opdT
 | .insert _ x y z=>opdT x++opdT y++opdT z
 | .pick x y z=>opdT x++opdT y++opdT z
 | .call c=>(match c.callee with | .value x=>opdT x | _=>[])++c.args.toList.flatMap opdT
 | .slice _ x a b c=>opdT x++(match a with | some y=>opdT y | none=>[])++(match b with | some y=>opdT y | none=>[])++(match c with | some y=>opdT y | none=>[])
 | .build _ ps=>ps.toList.flatMap λq=>opdT q.2
 | .buildSlice _ _ ps=>ps.toList.flatMap λq=>opdT q.2
 | _=>[]
def rdOf(l:List Oper)(i:Nat)(o:Oper):List Nat:=(opT o.op).filter λs=>l.all λk=>match k.dst with
 | some d=>!(Nat.beq d s) || waits k i
 | none=>true
def psOf(l:List Oper):Nat->List Oper->List (List Nat×List Nat)
 | _,[]=>[]
 | i,o :: os=>(preOf o,rdOf l i o) :: psOf l (i+1) os
section
variable {P:Program} {N:Nat} {g0:G} {T0:Nat->Prop} {ks:List KF} {B:Exit->Act->World->Prop} {env:Env} {res:Rs} {l:List Oper} {done:List (DA Unit)} {os:List Oper}
class MxC (P:Program):Type where
 h:P.follows .mixedOrders=true
end
section
variable {P:Program} {N:Nat} {g0:G} {T0:Nat->Prop} {ks:List KF} {B:Exit->Act->World->Prop} {env:Env} {res:Rs} {x:Operand} {c c':Code} {b:Bool}
theorem W.gR(h:W P N g0 T0 .ret ks B env res):W P N g0 T0 .ret ks B env res:=h
theorem W.condY(hx:Opd env x (tB.is b))(hb:b=true)(h:W P N g0 T0 c ks B env res):W P N g0 T0 (.cond x c c') ks B env res:=by subst hb;exact .condT hx h
theorem W.condZ(hx:Opd env x (tB.is b))(hb:b=false)(h:W P N g0 T0 c' ks B env res):W P N g0 T0 (.cond x c c') ks B env res:=by subst hb;exact .condF hx h
end
section
variable {P:Program} {env:Env} {res:Rs} {rv:ResultVar} {A:Asn}
theorem ResAt.cellI{t:Ty α}{T T':TypeId}{b p:Nat}[i:YC P T α t](hr:findR p res=some (Bx t.size t.agg T' A b))(hx:Opd env (.tmp p) (Bp b 0)):ResAt P env res (.cell p T) A:=.cell p i.h.agg i.h.size hr hx
theorem ResAt.a(h:ResAt P env res rv A:=by first | exact .tmp Opd.a | exact .cellI rfl (.tmp rfl)):ResAt P env res rv A:=h
end
end Go.Dec
/-
  Regions whose order is drawn, step by step in the text's order, with effects one behind the other.
-/
namespace Go.Dec
open Go
variable {A:Asn}{E:Val->Env}{R R':Val->Rs}{Rl:List (Val->Rs)}{base:Env}{done:List (DA Val)}{e e':Env}{es:List Nat}{l:List Oper}{ml:List (List Nat)}{rds:List (Nat×(Val->Rs))}{res:Rs}
inductive Kp (env:Env):List Nat->Env->Prop
 | nil:Kp env [] []
 | cons {k:Nat} {ks:List Nat} {A:Asn} {e:Env} (h:look k env=some A) (t:Kp env ks e):Kp env (k :: ks) ((k,A) :: e)
inductive KpR (res:Rs):List Nat->Rs->Prop
 | nil:KpR res [] []
 | cons {k:Nat} {ks:List Nat} {A:Res} {e:Rs} (h:findR k res=some A) (t:KpR res ks e):KpR res (k :: ks) ((k,A) :: e)
inductive KpF (E:(Nat->Tok)->Env):List Nat->((Nat->Tok)->Env)->Prop
 | nil:KpF E [] (λ_=>[])
 | cons {k:Nat} {ks:List Nat} {A:(Nat->Tok)->Asn} {e:(Nat->Tok)->Env} (h:∀ c,look k (E c)=some (A c)) (t:KpF E ks e):KpF E (k :: ks) (λc=>(k,A c) :: e c)
theorem KpF.at{E:(Nat->Tok)->Env}{c:Nat->Tok}:∀ {ks:List Nat} {e:(Nat->Tok)->Env},KpF E ks e->Kp (E c) ks (e c)
 | _,_,.nil=>.nil
 | _,_,.cons h t=>.cons (h c) t.at
theorem Kp.sub2{env env':Env}:∀ {ks:List Nat} {e:Env},Kp env ks e->(∀ t A,t∈ks->look t env=some A->look t env'=some A)->Sub e env'
 | _,_,.nil,_=>trivial
 | _,_,.cons h t,k=>⟨.q (k _ _ List.mem_cons_self h),t.sub2 (λt A ht=>k t A (List.mem_cons_of_mem _ ht))⟩
theorem Cx.sub{a:Act}{g:G}(hs:Sub e e')(h:Cx e' res a g):Cx e res a g:=
 ⟨λs A hA=>by
  obtain ⟨A0,h1,h2⟩:=hs.look s A hA;exact h2 _ _ (h.henv s A0 h1),h.hres⟩
theorem Op1.sub{P:Program}{o:Oper}(hs:Sub e e')(h:Op1 P o e res A):Op1 P o e' res A:=
 λa g K Q hc hK=>h a g K Q (hc.sub hs) hK
theorem OpR.sub{P:Program}{o:Oper}{us:List Nat}{ρ:Type}{A:ρ->Asn}{out:ρ->Rs}(hs:Sub e e')(h:OpR P o e res us A out):OpR P o e' res us A out:=
 λa g K Q hc hd hK=>h a g K Q (hc.sub hs) hd hK
def okTA(o:Oper)(ts:List Nat)(i:Nat):Nat->List Oper->Bool
 | _,[]=>true
 | j,k :: ks=>(match k.dst with
  | some s=>!memB s ts || waits o j || (waits k i && Nat.blt i j)
  | none=>true) && okTA o ts i (j+1) ks
theorem Kr{o:Oper}{ts:List Nat}{i0:Nat}:∀ {i:Nat} {l:List Oper},okTA o ts i0 i l=true->∀ (j:Nat) k s,l[j]? =some k->k.dst=some s->s∈ts->waits o (i+j)=true\/(waits k i0=true/\i0<i+j)
 | _,[],_,j,k,s,h,_,_=>by simp at h
 | i,x :: l,h,j,k,s,hj,hs,hm=>by
  unfold okTA at h;rw [Bool.and_eq_true] at h;cases j with
  | zero=>
   simp at hj;subst hj;have h1:=h.1;rw [hs] at h1;have:memB s ts=true:=gG.2 hm;simpa [this,Nat.blt_eq] using h1
  | succ j=>
   simp at hj;have:=Kr h.2 j k s hj hs hm;rwa [show i+1+j=i+(j+1) by omega] at this
theorem zW{o:Oper}{j:Nat}(h:waits o j=true):j∈preOf o:=by
 unfold preOf;rw [List.mem_filter];refine ⟨?_,h⟩;unfold waits at h;obtain ⟨e,he,h2⟩:=List.any_eq_true.1 h;rw [Bool.and_eq_true] at h2;exact List.mem_map.2 ⟨e,he,Nat.eq_of_beq_eq_true h2.1⟩
theorem wI{s:Nat}:∀ {e:Env},(s,A)∈e->(∀ B,(s,B)∈e->B=A)->look s e=some A
 | [],h,_=>by cases h
 | (k,B) :: e,h,ha=>by
  by_cases hk:k=s
  .subst hk;rw [dh,ha B List.mem_cons_self]
  .rw [bL _ _ hk];refine wI ?_ (λC hC=>ha C (List.mem_cons_of_mem _ hC));rcases List.mem_cons.1 h with h | h
   .cases h;exact absurd rfl hk
   .exact h
theorem sD{s:Nat}:∀ {e:Env},(∀ B,(s,B) ∉ e)->look s e=none
 | [],_=>rfl
 | (k,B) :: e,ha=>by
  by_cases hk:k=s
  .subst hk;exact absurd List.mem_cons_self (ha B)
  .rw [bL _ _ hk];exact sD λC hC=>ha C (List.mem_cons_of_mem _ hC)
theorem yj{s:Nat}{f:Env}(h:look s e=some A):look s (e++f)=some A:=by
 induction e with
 | nil=>cases h
 | cons x e ih=>
  obtain ⟨k,B⟩:=x;by_cases hk:k=s
  .subst hk;rw [dh] at h;rw [List.cons_append,dh];exact h
  .rw [bL _ _ hk] at h;rw [List.cons_append,bL _ _ hk];exact ih h
theorem yl{s:Nat}{f:Env}(h:look s e=none):look s (e++f)=look s f:=by
 induction e with
 | nil=>rfl
 | cons x e ih=>
  obtain ⟨k,B⟩:=x;by_cases hk:k=s
  .subst hk;rw [dh] at h;cases h
  .rw [bL _ _ hk] at h;rw [List.cons_append,bL _ _ hk];exact ih h
theorem BV{ρ:Type}{As:List (DA ρ)}{x:ρ}{s j:Nat}{o:Oper}{A:DA ρ}(ho:l[j]? =some o)(hA:As[j]? =some A)(hd:o.dst=some s):∀ {js:List Nat},j∈js->(s,A.at x)∈preEnv l As x js
 | [],h=>by cases h
 | k :: js,h=>by
  unfold preEnv;rcases List.mem_cons.1 h with h | h
  .subst h;simp only [ho,hA,hd];exact List.mem_cons_self
  .have:=BV (x:=x) ho hA hd h;split
   .split
    .exact List.mem_cons_of_mem _ this
    .exact this
   .exact this
theorem vI{s:Nat}:∀ {ss:List Nat},s∈ss->look s (readEnv base ss)=look s base
 | [],h=>by cases h
 | k :: ss,h=>by
  unfold readEnv;by_cases hk:k=s
  .subst hk;split
   .rename_i A hA;rw [dh,hA]
   .rename_i hA;rw [hA];refine sD λB hB=>?_;obtain ⟨_,h2⟩:=oI hB;rw [hA] at h2;cases h2
  .have hs:s∈ss:=by
    rcases List.mem_cons.1 h with h | h
    .exact absurd h.symm hk
    .exact h
   split
   .rw [bL _ _ hk];exact vI hs
   .exact vI hs
section
variable {l:List Oper} {env:Env} {i:Nat} {done more:List (DA Val)} {E:Val->Env} {c:Val}
def EnvOk(l:List Oper)(env:Env)(done:List (DA Val))(E:Val->Env):Prop:=
 ∀ c t A,look t (E c)=some A->(∃ (j:Nat) (o:Oper) (B:DA Val),l[j]? =some o/\o.dst=some t/\done[j]? =some B/\A=B.at c)\/((∀ (j:Nat) (o:Oper),j<done.length->l[j]? =some o->o.dst≠some t)/\look t env=some A)
theorem EnvOk.start:EnvOk l env [] (λ_=>env):=λc t A h=>.inr ⟨λj o hj=>by simp at hj,h⟩
theorem EnvOk.step{o:Oper}{d:Nat}{B:DA Val}(h:EnvOk l env done E)(ho:l[done.length]? =some o)(hd:o.dst=some d):EnvOk l env (done++ [B]) (λc=>(d,B.at c) :: E c):=by
 intro c t A hA;by_cases hk:d=t
 .subst hk;rw [dh] at hA;cases hA;exact .inl ⟨done.length,o,B,ho,hd,by simp,rfl⟩
 .rw [bL _ _ hk] at hA;rcases h c t A hA with ⟨j,o',B',h1,h2,h3,h4⟩ | ⟨h1,h2⟩
  .refine .inl ⟨j,o',B',h1,h2,?_,h4⟩;rw [List.getElem?_append_left (List.getElem?_eq_some_iff.1 h3).1];exact h3
  .refine .inr ⟨λj o' hj ho'=>?_,h2⟩;by_cases hjl:j<done.length
   .exact h1 j o' hjl ho'
   .have:j=done.length:=by simp at hj;omega
    subst this;rw [ho] at ho';cases ho';rw [hd];intro e;cases e;exact hk rfl
theorem EnvOk.stepN{o:Oper}{B:DA Val}(h:EnvOk l env done E)(ho:l[done.length]? =some o)(hd:o.dst=none):EnvOk l env (done++ [B]) E:=by
 intro c t A hA;rcases h c t A hA with ⟨j,o',B',h1,h2,h3,h4⟩ | ⟨h1,h2⟩
 .refine .inl ⟨j,o',B',h1,h2,?_,h4⟩;rw [List.getElem?_append_left (List.getElem?_eq_some_iff.1 h3).1];exact h3
 .refine .inr ⟨λj o' hj ho'=>?_,h2⟩;by_cases hjl:j<done.length
  .exact h1 j o' hjl ho'
  .have:j=done.length:=by simp at hj;omega
   subst this;rw [ho] at ho';cases ho';rw [hd];intro e;cases e
theorem EnvOk.rd(h:EnvOk l env done E)(hdst:dstsD l=true){o:Oper}{ts:List Nat}(hp:(preOf o).all (λj=>Nat.blt j done.length)=true)(hok:okTA o ts done.length 0 l=true)(hts:∀ t,t∈ts->t∈opT o.op\/ ∃ (j:Nat) (k:Oper),waits o j=true/\l[j]? =some k/\k.dst=some t)
  {t:Nat}  (ht:t∈ts) (hl:look t (E c)=some A):look t (preEnv l (done++more) c (preOf o)++readEnv env (rdOf l done.length o))=some A:=by
 have hw:∀ (j:Nat) k,l[j]? =some k->k.dst=some t->(waits o j=true/\j<done.length)\/(waits k done.length=true/\done.length<j):=by
  intro j k hj hk;rcases Kr hok j k t hj hk ht with h1 | h1
  .rw [Nat.zero_add] at h1;have h2:=List.all_eq_true.1 hp j (zW h1);exact .inl ⟨h1,by simpa [Nat.blt_eq] using h2⟩
  .rw [Nat.zero_add] at h1;exact .inr h1
 rcases h c t A hl with ⟨j,o',B,h1,h2,h3,h4⟩ | ⟨h1,h2⟩
 .have hjl:=(List.getElem?_eq_some_iff.1 h3).1;have hjw:waits o j=true:=by
   rcases hw j o' h1 h2 with h | h
   .exact h.1
   .omega
  refine yj (wI ?_ λC hC=>?_)
  .rw [h4];exact BV h1 (by rw [List.getElem?_append_left hjl];exact h3) h2 (zW hjw)
  .obtain ⟨j',o2,A2,k1,k2,k3,k4,k5⟩:=qf hC;have:=ww hdst j j' o' o2 t h1 k2 h2 k4;subst this;rw [List.getElem?_append_left hjl,h3] at k3;cases k3;rw [k5,h4]
 .have hno:∀ (j:Nat) k,l[j]? =some k->k.dst=some t->waits k done.length=true/\done.length<j:=by
   intro j k hj hk;rcases hw j k hj hk with h | h
   .exact absurd hk (h1 j k h.2 hj)
   .exact h
  rw [yl (sD λB hB=>by
   obtain ⟨j',o2,A2,k1,k2,k3,k4,k5⟩:=qf hB;have h5:=(hno j' o2 k2 k4).2;have h6:=List.all_eq_true.1 hp j' k1;have h7:j'< done.length:=by simpa [Nat.blt_eq] using h6
   omega)]
  rw [vI,h2];unfold rdOf;rw [List.mem_filter];refine ⟨?_,?_⟩
  .rcases hts t ht with h | ⟨j,k,hwj,hj,hk⟩
   .exact h
   .have h5:=(hno j k hj hk).2;have h6:=List.all_eq_true.1 hp j (zW hwj);have h7:j<done.length:=by simpa [Nat.blt_eq] using h6
    omega
  .rw [List.all_eq_true];intro k hk;obtain ⟨j,hj⟩:=List.getElem?_of_mem hk;cases hkd:k.dst with
   | none=>rfl
   | some s=>
    dsimp only;cases hb:Nat.beq s t with
    | false=>rfl
    | true=>
     have:=Nat.eq_of_beq_eq_true hb;rw [(hno j k hj (by rw [hkd,this])).1];rfl
end
section
variable {P:Program} {N:Nat} {g0:G} {T0:Nat->Prop} {ks:List KF} {B:Exit->Act->World->Prop} {env:Env} {res pr:Rs} {l:List Oper}
def Dep{α:Type _}(A:Val->α)(ms:List Nat):Prop:=∀ c c':Val,(∀ m,memB m ms=true->c m=c' m)->A c=A c'
structure Gd (P:Program) (l:List Oper) (env:Env) (res pr:Rs) (done:List (DA Val)) (E:Val->Env) (Rl:List (Val->Rs)) (es:List Nat) (rds:List (Nat×(Val->Rs))) (ml:List (List Nat)) (os:List Oper):Prop where
 tail:l.drop done.length=os
 dst:dstsD l=true
 ev:EnvOk l env done E
 mlen:ml.length=done.length
 ops:∀ (j:Nat) (o:Oper) (A:DA Val),l[j]? =some o->done[j]? =some A->memB j es=false->∃ rk:Val->Rs,((∀ c,rk c=pr)\/(j,rk)∈rds)/\ ∀ more c,DObl P l o (preEnv l (done++more) c (preOf o)++readEnv env (rdOf l j o)) (rk c) (A.at c)
 dep:∀ (j:Nat) (A:DA Val) (ms:List Nat),done[j]? =some A->ml.reverse[j]? =some ms->Dep A.at ms
 r0:Rl[0]? =some (λ_=>res)
 rl:Rl.length=es.length+1
 lt:∀ e,e∈es->e<done.length
 eff:∀ (m e:Nat),es[m]? =some e->∃ (o:Oper) (A:DA Val) (us:List Nat) (out R R':Val->Rs),l[e]? =some o/\done[e]? =some A/\o.guard=none/\Rl[m]? =some R/\Rl[m+1]? =some R'/\
   (∀ c,R' c=out c++(R c).drop us)/\(∀ c k,R (upd c m k)=R c)/\
   ∀ more c,OpR P o (preEnv l (done++more) c (preOf o)++readEnv env (rdOf l e o)) (R c) us (λk=>A.at (upd c m k)) (λk=>out (upd c m k))
def DM(P:Program)(N:Nat)(g0:G)(T0:Nat->Prop)(ks:List KF)(B:Exit->Act->World->Prop)(l:List Oper)(env:Env)(res pr:Rs)(i:Nat)(E:Val->Env)(Rl:List (Val->Rs))(es:List Nat)(rds:List (Nat×(Val->Rs)))(ml:List (List Nat))(os:List Oper):Prop:=
 ∀ id done,done.length=i->Gd P l env res pr done E Rl es rds ml os->W P N g0 T0 (.region id l.toArray true) ks B env res
theorem BX{more:List (DA Val)}(h:EnvOk l env done E)(hdst:dstsD l=true){o:Oper}{c:Val}(hp:(preOf o).all (λj=>Nat.blt j done.length)=true)(hok:okTA o (opT o.op) done.length 0 l=true)(hk:Kp (E c) (opT o.op) e) :
  Sub e (preEnv l (done++more) c (preOf o)++readEnv env (rdOf l done.length o)):=
 hk.sub2 λt A ht hl=>h.rd hdst hp hok (λt ht=>.inl ht) ht hl
def depRows(l:List Oper)(es:List Nat):Nat->List Oper->List (List Bool)->List (List Bool)
 | _,[],acc=>acc
 | k,o :: os,acc=>depRows l es (k+1) os (acc++ [(List.range es.length).map λm=>Nat.beq (es.getD m 0) k || (List.range acc.length).any λj=>waits o j && (acc.getD j []).getD m false])
def mlOk:List (List Nat)->List (List Bool)->Bool
 | [],[]=>true
 | ms :: ml,r :: D=>ms.all (λm=>r.getD m false) && mlOk ml D
 | _,_=>false
theorem Kt:∀ {ml:List (List Nat)} {D:List (List Bool)},mlOk ml D=true->ml.length=D.length/\ ∀ (j:Nat) ms r,ml[j]? =some ms->D[j]? =some r->ms.all (λm=>r.getD m false)=true
 | [],[],_=>⟨rfl,λj ms r h=>by simp at h⟩
 | [],_ :: _,h=>by cases h
 | _ :: _,[],h=>by cases h
 | ms :: ml,r :: D,h=>by
  unfold mlOk at h;rw [Bool.and_eq_true] at h;obtain ⟨h1,h2⟩:=Kt h.2;refine ⟨by simp [h1],λj ms' r' hm hr=>?_⟩;cases j with
  | zero=>simp at hm hr;subst hm hr;exact h.1
  | succ j=>exact h2 j ms' r' (by simpa using hm) (by simpa using hr)
theorem Gg:∀ {As:List (DA Val)} {D:List (List Bool)},As.length=D.length->(∀ (j:Nat) A r,As[j]? =some A->D[j]? =some r->∀ m,r.getD m false=false->∀ c t,A.at (upd c m t)=A.at c)->DepOk As D
 | [],[],_,_=>trivial
 | [],_ :: _,h,_=>by simp at h
 | _ :: _,[],h,_=>by simp at h
 | A :: As,r :: D,h,k=>⟨k 0 A r rfl rfl,Gg (by simpa using h) λj A' r' h1 h2=>k (j+1) A' r' (by simpa using h1) (by simpa using h2)⟩
theorem EM{l0:List Oper}:∀ {i:Nat} {os:List Oper} (j:Nat) (o:Oper),os[j]? =some o->(psOf l0 i os)[j]? =some (preOf o,rdOf l0 (i+j) o)
 | _,[],j,o,h=>by simp at h
 | i,x :: os,j,o,h=>by
  cases j with
  | zero=>simp at h;subst h;rfl
  | succ j=>
   have:=EM (l0:=l0) (i:=i+1) j o (by simpa using h);unfold psOf;rw [List.getElem?_cons_succ,this,show i+1+j=i+(j+1) by omega]
theorem Ku{As:List (DA Val)}{Rm:Nat->Val->Rs}:∀ {i:Nat} {os:List Oper} {Bs:List (DA Val)} {ps:List (List Nat×List Nat)},
  (∀ (j:Nat) o A p,os[j]? =some o->Bs[j]? =some A->ps[j]? =some p->memB (i+j) es=true\/ ∃ rk:Val->Rs,(∀ m,m<=es.length->mayAt l es (i+j) m=true->∀ c,RSub (rk c) (Rm m c))/\ ∀ c,DObl P l o (preEnv l As c p.1++readEnv base p.2) (rk c) (A.at c))->MOps P l As base es Rm i os Bs ps
 | i,o :: os,A :: Bs,p :: ps,h=>⟨by
   rcases h 0 o A p rfl rfl rfl with h1 | h1
   .exact .inl h1
   .obtain ⟨rk,h2,h3⟩:=h1;exact .inr ⟨rk,λm hm hy c=>h2 m (Nat.le_of_ble_eq_true hm) hy c,h3⟩,Ku λj o' A' p' h1 h2 h3=>by
   have:=h (j+1) o' A' p' (by simpa using h1) (by simpa using h2) (by simpa using h3);rwa [show i+(j+1)=i+1+j by omega] at this⟩
 | _,[],_,_,_=>by simp [MOps]
 | _,_ :: _,[],_,_=>by simp [MOps]
 | _,_ :: _,_ :: _,[],_=>by simp [MOps]
theorem Kv{As:List (DA Val)}{ps:List (List Nat×List Nat)}{Rm:Nat->Val->Rs}:∀ {m:Nat} {es:List Nat},
  (∀ (j e:Nat),es[j]? =some e->∃ (o:Oper) (p:List Nat×List Nat) (A:DA Val) (us:List Nat) (out:Val->Rs),l[e]? =some o/\ps[e]? =some p/\As[e]? =some A/\o.guard=none/\
   (∀ c,Rm (m+j+1) c=out c++(Rm (m+j) c).drop us)/\(∀ c k,Rm (m+j) (upd c (m+j) k)=Rm (m+j) c)/\
   ∀ c,OpR P o (preEnv l As c p.1++readEnv base p.2) (Rm (m+j) c) us (λk=>A.at (upd c (m+j) k)) (λk=>out (upd c (m+j) k)))->MEff P l As ps base Rm m es
 | _,[],_=>trivial
 | m,e :: es,h=>⟨h 0 e rfl,Kv λj e' hj=>by
   have:=h (j+1) e' (by simpa using hj);rwa [show m+(j+1)=m+1+j by omega] at this⟩
def AllP(pr:Rs):List (Val->Rs)->Prop
 | []=>True
 | R :: Rl=>(∀ c,RSub pr (R c))/\AllP pr Rl
theorem AllP.at{pr:Rs}:∀ {Rl:List (Val->Rs)},AllP pr Rl->∀ (m:Nat) R,Rl[m]? =some R->∀ c,RSub pr (R c)
 | [],_,m,R,h=>by simp at h
 | _ :: _,h,0,R,hm=>by simp at hm;subst hm;exact h.1
 | _ :: _,h,m+1,R,hm=>h.2.at m R (by simpa using hm)
def AllM(l:List Oper)(es:List Nat)(i:Nat)(rk:Val->Rs):Nat->List (Val->Rs)->Prop
 | _,[]=>True
 | m,R :: Rl=>(mayAt l es i m=false\/ ∀ c,RSub (rk c) (R c))/\AllM l es i rk (m+1) Rl
theorem AllM.at{l:List Oper}{i:Nat}{rk:Val->Rs}:∀ {m0:Nat} {Rl:List (Val->Rs)},AllM l es i rk m0 Rl->∀ (m:Nat) R,Rl[m]? =some R->mayAt l es i (m0+m)=false\/ ∀ c,RSub (rk c) (R c)
 | _,[],_,m,R,h=>by simp at h
 | _,_ :: _,h,0,R,hm=>by simp at hm;subst hm;exact h.1
 | m0,_ :: _,h,m+1,R,hm=>by
  have:=h.2.at m R (by simpa using hm);rwa [show m0+1+m=m0+(m+1) by omega] at this
def AllRd(l:List Oper)(es:List Nat)(Rl:List (Val->Rs)):List (Nat×(Val->Rs))->Prop
 | []=>True
 | x :: r=>AllM l es x.1 x.2 0 Rl/\AllRd l es Rl r
theorem AllRd.at{l:List Oper}:∀ {rds:List (Nat×(Val->Rs))},AllRd l es Rl rds->∀ j rk,(j,rk)∈rds->∀ (m:Nat) R,Rl[m]? =some R->mayAt l es j m=false\/ ∀ c,RSub (rk c) (R c)
 | x :: r,h,j,rk,hm,m,R,hR=>by
  rcases List.mem_cons.1 hm with e | hm
  .subst e;have:=h.1.at m R hR;rwa [Nat.zero_add] at this
  .exact AllRd.at h.2 j rk hm m R hR
inductive PrR:Rs->Rs->Prop
 | nil:PrR [] []
 | take {k:Nat} {R:Res} {r p:Rs} (h:Nat.ble 700000 k=true) (t:PrR r p):PrR ((k,R) :: r) ((k,R) :: p)
 | skip {x:Nat×Res} {r p:Rs} (t:PrR r p):PrR (x :: r) p
def noEff(l:List Oper):Bool:=l.all λo=>o.dst.isSome && match o.op with
 | .alloc _ | .makeMap _ _ | .makeSlice _ _ _ | .buildSlice _ _ _ | .box _ _=>false
 | .call c=>(match c.callee with | .builtin .append=>false | _=>true)
 | _=>true
theorem W.drawN{id:Nat}(hdst:dstsD l=true)(hpr:PrR res pr)(hdm:DM P N g0 T0 ks B l env res pr 0 (λ_=>env) [λ_=>res] [] [] [] l):W P N g0 T0 (.region id l.toArray true) ks B env res:=
 hdm id [] rfl ⟨rfl,hdst,EnvOk.start,rfl,λj o A _ h=>by simp at h,λj A ms h=>by simp at h,rfl,rfl,λe h=>by simp at h,λm e h=>by simp at h⟩
theorem W.drawE{id:Nat}(hne:noEff l=true)(hdst:dstsD l=true)(hdm:DM P N g0 T0 ks B l env res res 0 (λ_=>env) [λ_=>res] [] [] [] l):W P N g0 T0 (.region id l.toArray true) ks B env res:=
 hdm id [] rfl ⟨rfl,hdst,EnvOk.start,rfl,λj o A _ h=>by simp at h,λj A ms h=>by simp at h,rfl,rfl,λe h=>by simp at h,λm e h=>by simp at h⟩
theorem DM.nil{i:Nat}[mx:MxC P](hchk:mChk N l 0 l (psOf l 0 l)=true)(hes:esChk l es=true)(hD:depChk l (depRows l es 0 l []) es 0 l (depRows l es 0 l [])=true)
  (hml:mlOk ml.reverse (depRows l es 0 l [])=true) (hR:Rl[es.length]? =some R) (hi:i=l.length) (hprs:AllP pr Rl) (hrds:AllRd l es Rl rds) (k:∀ c,WN P N g0 T0 ks B (E c) (R c)):DM P N g0 T0 ks B l env res pr i E Rl es rds ml []:=by
 intro id done hdl hg;have hdst:=hg.dst;have hlen:done.length=l.length:=by rw [hdl,hi]
 have hmlD:=Kt hml;refine W.drawM done (psOf l 0 l) es (depRows l es 0 l []) (λm=>Rl.getD m (λ_=>[])) (λ_=>none) mx.h hchk hdst hlen hes hD ?_ ?_ ?_ ?_ ?_
 .refine Gg (by rw [<-hmlD.1,List.length_reverse,hg.mlen]) λj A r hA hr m hm c t=>?_;obtain ⟨ms,hms⟩:∃ ms,ml.reverse[j]? =some ms:=⟨_,List.getElem?_eq_getElem (by rw [List.length_reverse,hg.mlen];exact (List.getElem?_eq_some_iff.1 hA).1)⟩
  refine hg.dep j A ms hA hms _ _ λq hq=>?_;have h1:=List.all_eq_true.1 (hmlD.2 j ms r hms hr) q (gG.1 hq);unfold upd;cases hb:Nat.beq q m with
  | false=>rfl
  | true=>
   have:=Nat.eq_of_beq_eq_true hb;subst this;rw [hm] at h1;cases h1
 .have h0:=hg.r0;show Rl.getD 0 (λ_=>[]) (λ_=>none)=res;rw [List.getD_eq_getElem?_getD,h0];rfl
 .refine Ku λj o A p h1 h2 h3=>?_;rw [EM j o h1] at h3;cases h3;rw [Nat.zero_add];cases hb:memB j es with
  | true=>exact .inl rfl
  | false=>
   obtain ⟨rk,hrk,hob⟩:=hg.ops j o A h1 h2 hb;refine .inr ⟨rk,λm hm hy c=>?_,λc=>?_⟩
   .obtain ⟨R1,hR1⟩:∃ R1,Rl[m]? =some R1:=⟨_,List.getElem?_eq_getElem (by rw [hg.rl];omega)⟩
    rw [List.getD_eq_getElem?_getD,hR1];rcases hrk with h | h
    .rw [h];exact hprs.at m R1 hR1 c
    .rcases hrds.at j rk h m R1 hR1 with h5 | h5
     .rw [h5] at hy;cases hy
     .exact h5 c
   .have:=hob [] c;rwa [List.append_nil] at this
 .refine Kv λj e hj=>?_;obtain ⟨o,A,us,out,R1,R2,h1,h2,h3,h4,h5,h6,h7,h8⟩:=hg.eff j e hj;refine ⟨o,_,A,us,out,h1,EM e o h1,h2,h3,?_,?_,?_⟩
  .intro c;rw [Nat.zero_add,List.getD_eq_getElem?_getD,List.getD_eq_getElem?_getD,h4,h5];exact h6 c
  .intro c k;rw [Nat.zero_add,List.getD_eq_getElem?_getD,h4];exact h7 c k
  .intro c;have:=h8 [] c;rw [List.append_nil] at this;simp only [Nat.zero_add];rw [List.getD_eq_getElem?_getD,h4];exact this
 .intro c;rw [List.getD_eq_getElem?_getD,hR];intro a g hst;refine k c a g ⟨hst.sz,hst.dfr,λs A hA=>?_,hst.hres,hst.dis,hst.own,hst.ext⟩;have:look s (outEnv c l done++env)=some A:=by
   rcases hg.ev c s A hA with ⟨j,o,B',h1,h2,h3,h4⟩ | ⟨h1,h2⟩
   .refine yj (wI ?_ λC hC=>?_)
    .rw [h4];exact sW h1 h3 h2
    .obtain ⟨j',o2,A2,k1,k2,k3,k4⟩:=qU hC;have:=ww hdst j j' o o2 s h1 k1 h2 k3;subst this;rw [h3] at k2;cases k2;rw [k4,h4]
   .rw [yl (sD λC hC=>by
     obtain ⟨j',o2,A2,k1,k2,k3,k4⟩:=qU hC;exact h1 j' o2 (by rw [hlen];exact (List.getElem?_eq_some_iff.1 k1).1) k1 k3)]
    exact h2
  exact hst.henv s A this
theorem upd_same(c:Val)(m:Nat)(k:Tok):upd c m k m=k:=by unfold upd;rw [Nat.beq_refl]
theorem Dep.n{α:Type _}{A:Val->α}(h:∀ c c':Val,A c=A c'):Dep A []:=λc c' _=>h c c'
theorem Dep.m{α:Type _}{A:Val->α}(ms:List Nat)(h:∀ c c':Val,(∀ m,memB m ms=true->c m=c' m)->A c=A c'):Dep A ms:=h
theorem Gd.pure{rds':List (Nat×(Val->Rs))}{rk:Val->Rs}{E':Val->Env}{os:List Oper}{o:Oper}{A:Val->Asn}{ms:List Nat}(hg:Gd P l env res pr done E Rl es rds ml (o :: os))(hE:EnvOk l env (done++ [.f A]) E')(hrk:(∀ c,rk c=pr)\/(done.length,rk)∈rds')(hsub:∀ x,x∈rds->x∈rds')
  (h:∀ more c,DObl P l o (preEnv l ((done++ [.f A])++more) c (preOf o)++readEnv env (rdOf l done.length o)) (rk c) (A c)) (hdep:Dep A ms):Gd P l env res pr (done++ [.f A]) E' Rl es rds' (ms :: ml) os:=by
 have ho:l[done.length]? =some o:=by
  have:=congrArg (λx=>x[0]?) hg.tail;simpa using this
 refine ⟨?_,hg.dst,hE,by simp [hg.mlen],?_,?_,hg.r0,hg.rl,λe he=>by have:=hg.lt e he;simp;omega,?_⟩
 .have:=congrArg (List.drop 1) hg.tail;simpa [List.drop_drop] using this
 .intro j o' A' h1 h2 h3;by_cases hj:j<done.length
  .rw [List.getElem?_append_left hj] at h2;obtain ⟨rk0,hr0,hob⟩:=hg.ops j o' A' h1 h2 h3;refine ⟨rk0,hr0.imp id (hsub _),λmore c=>?_⟩;have:=hob ([.f A]++more) c;rwa [<-List.append_assoc] at this
  .have hj2:j=done.length:=by have:=(List.getElem?_eq_some_iff.1 h2).1;simp at this;omega
   subst hj2;rw [ho] at h1;cases h1;rw [List.getElem?_append_right (Nat.le_refl _)] at h2;simp at h2;subst h2;exact ⟨rk,hrk,h⟩
 .intro j A' ms' h1 h2;rw [List.reverse_cons] at h2;by_cases hj:j<done.length
  .rw [List.getElem?_append_left hj] at h1;rw [List.getElem?_append_left (by rw [List.length_reverse,hg.mlen];exact hj)] at h2;exact hg.dep j A' ms' h1 h2
  .have hj2:j=done.length:=by have:=(List.getElem?_eq_some_iff.1 h1).1;simp at this;omega
   subst hj2;rw [List.getElem?_append_right (Nat.le_refl _)] at h1;rw [List.getElem?_append_right (by rw [List.length_reverse,hg.mlen];exact Nat.le_refl _)] at h2;simp at h1 h2;rw [hg.mlen] at h2;simp at h2;subst h1 h2;exact hdep
 .intro m e he;obtain ⟨o',A',us,out,R,R',h1,h2,h3⟩:=hg.eff m e he;refine ⟨o',A',us,out,R,R',h1,by rw [List.getElem?_append_left (hg.lt e (List.mem_of_getElem? he))];exact h2,h3.1,h3.2.1,h3.2.2.1,h3.2.2.2.1,h3.2.2.2.2.1,λmore c=>?_⟩;have:=h3.2.2.2.2.2 ([.f A]++more) c;rwa [<-List.append_assoc] at this
theorem Gd.effect{E':Val->Env}{os:List Oper}{o:Oper}{A:Val->Asn}{ms us:List Nat}{out:Val->Rs}(hg:Gd P l env res pr done E Rl es rds ml (o :: os))(hE:EnvOk l env (done++ [.f A]) E')
  (hgd:o.guard=none) (hR:Rl[es.length]? =some R) (hR':∀ c,R' c=out c++(R c).drop us) (hRu:∀ c k,R (upd c es.length k)=R c)
  (h:∀ more c,OpR P o (preEnv l ((done++ [.f A])++more) c (preOf o)++readEnv env (rdOf l done.length o)) (R c) us (λk=>A (upd c es.length k)) (λk=>out (upd c es.length k))) (hdep:Dep A ms) :
  Gd P l env res pr (done++ [.f A]) E' (Rl++ [R']) (es++ [done.length]) rds (ms :: ml) os:=by
 have ho:l[done.length]? =some o:=by
  have:=congrArg (λx=>x[0]?) hg.tail;simpa using this
 have h0:0<Rl.length:=by rw [hg.rl];omega
 refine ⟨?_,hg.dst,hE,by simp [hg.mlen],?_,?_,by rw [List.getElem?_append_left h0];exact hg.r0,by simp [hg.rl],λe he=>?_,?_⟩
 .have:=congrArg (List.drop 1) hg.tail;simpa [List.drop_drop] using this
 .intro j o' A' h1 h2 h3;have h3':memB j es=false:=by
   cases hb:memB j es with
   | false=>rfl
   | true=>
    have h4:memB j (es++ [done.length])=true:=gG.2 (List.mem_append_left _ (gG.1 hb));rw [h3] at h4;cases h4
  by_cases hj:j<done.length
  .rw [List.getElem?_append_left hj] at h2;obtain ⟨rk0,hr0,hob⟩:=hg.ops j o' A' h1 h2 h3';refine ⟨rk0,hr0,λmore c=>?_⟩;have:=hob ([.f A]++more) c;rwa [<-List.append_assoc] at this
  .have hj2:j=done.length:=by have:=(List.getElem?_eq_some_iff.1 h2).1;simp at this;omega
   subst hj2;have h4:memB done.length (es++ [done.length])=true:=gG.2 (List.mem_append_right _ (List.mem_singleton.2 rfl));rw [h3] at h4;cases h4
 .intro j A' ms' h1 h2;rw [List.reverse_cons] at h2;by_cases hj:j<done.length
  .rw [List.getElem?_append_left hj] at h1;rw [List.getElem?_append_left (by rw [List.length_reverse,hg.mlen];exact hj)] at h2;exact hg.dep j A' ms' h1 h2
  .have hj2:j=done.length:=by have:=(List.getElem?_eq_some_iff.1 h1).1;simp at this;omega
   subst hj2;rw [List.getElem?_append_right (Nat.le_refl _)] at h1;rw [List.getElem?_append_right (by rw [List.length_reverse,hg.mlen];exact Nat.le_refl _)] at h2;simp at h1 h2;rw [hg.mlen] at h2;simp at h2;subst h1 h2;exact hdep
 .rcases List.mem_append.1 he with he | he
  .have:=hg.lt e he;simp;omega
  .have:=List.mem_singleton.1 he;subst this;simp
 .intro m e he;by_cases hm:m<es.length
  .rw [List.getElem?_append_left hm] at he;obtain ⟨o',A',us',out',R1,R2,h1,h2,h3,h4,h5,h6⟩:=hg.eff m e he;refine ⟨o',A',us',out',R1,R2,h1,by rw [List.getElem?_append_left (hg.lt e (List.mem_of_getElem? he))];exact h2,h3,by rw [List.getElem?_append_left (by rw [hg.rl];omega)];exact h4,by rw [List.getElem?_append_left (by rw [hg.rl];omega)];exact h5,h6.1,h6.2.1,λmore c=>?_⟩;have:=h6.2.2 ([.f A]++more) c;rwa [<-List.append_assoc] at this
  .have hm2:m=es.length:=by have:=(List.getElem?_eq_some_iff.1 he).1;simp at this;omega
   subst hm2;rw [List.getElem?_append_right (Nat.le_refl _)] at he;simp at he;subst he;refine ⟨o,.f A,us,out,R,R',ho,by simp,hgd,by rw [List.getElem?_append_left (by rw [hg.rl];omega)];exact hR,?_,hR',hRu,h⟩;rw [List.getElem?_append_right (by rw [hg.rl];exact Nat.le_refl _),hg.rl];simp
section
variable {i:Nat} {E:Val->Env} {Rl:List (Val->Rs)} {es:List Nat} {rds:List (Nat×(Val->Rs))} {ml:List (List Nat)} {os:List Oper} {d:Nat} {op:Op} {ty:TypeId} {pos:String} {aft:Array Edge} {A:Val->Asn} {e:Val->Env} {ms:List Nat}
theorem DM.one(hp:((preOf ⟨some d,op,ty,pos,aft,none⟩).all λj=>Nat.blt j i)=true)(hok:okTA ⟨some d,op,ty,pos,aft,none⟩ (opT op) i 0 l=true)(hk:KpF E (opT op) e)(h:∀ c,Op1 P ⟨some d,op,ty,pos,aft,none⟩ (e c) pr (A c))(hdep:Dep A ms)
  (k:DM P N g0 T0 ks B l env res pr (i+1) (λc=>(d,A c) :: E c) Rl es rds (ms :: ml) os):DM P N g0 T0 ks B l env res pr i E Rl es rds ml (⟨some d,op,ty,pos,aft,none⟩ :: os):=by
 intro id done hdl hg;subst hdl;have ho:l[done.length]? =some ⟨some d,op,ty,pos,aft,none⟩:=by
  have:=congrArg (λx=>x[0]?) hg.tail;simpa using this
 refine k id (done++ [.f A]) (by simp) (hg.pure (rk:=λ_=>pr) (hg.ev.step (B:=.f A) ho rfl) (.inl λ_=>rfl) (λ_ h=>h) (λmore c=>?_) hdep);rw [List.append_assoc];exact (h c).sub (BX hg.ev hg.dst hp hok hk.at)
theorem DM.rd(rk:Val->Rs)(hp:((preOf ⟨some d,op,ty,pos,aft,none⟩).all λj=>Nat.blt j i)=true)(hok:okTA ⟨some d,op,ty,pos,aft,none⟩ (opT op) i 0 l=true)(hk:KpF E (opT op) e)(h:∀ c,Op1 P ⟨some d,op,ty,pos,aft,none⟩ (e c) (rk c) (A c))(hdep:Dep A ms)
  (k:DM P N g0 T0 ks B l env res pr (i+1) (λc=>(d,A c) :: E c) Rl es ((i,rk) :: rds) (ms :: ml) os):DM P N g0 T0 ks B l env res pr i E Rl es rds ml (⟨some d,op,ty,pos,aft,none⟩ :: os):=by
 intro id done hdl hg;subst hdl;have ho:l[done.length]? =some ⟨some d,op,ty,pos,aft,none⟩:=by
  have:=congrArg (λx=>x[0]?) hg.tail;simpa using this
 refine k id (done++ [.f A]) (by simp) (hg.pure (rk:=rk) (hg.ev.step (B:=.f A) ho rfl) (.inr List.mem_cons_self) (λ_ h=>List.mem_cons_of_mem _ h) (λmore c=>?_) hdep);rw [List.append_assoc];exact (h c).sub (BX hg.ev hg.dst hp hok hk.at)
section
variable {j dj:Nat} {want b:Bool} {oj:Oper}
theorem BZ{more:List (DA Val)}{o:Oper}{c:Val}{A:Asn}(hg:EnvOk l env done E)(hdst:dstsD l=true)(hp:(preOf o).all (λj=>Nat.blt j done.length)=true)(hj:l[j]? =some oj)(hdj:oj.dst=some dj)(hw:waits o j=true)(hok:okTA o [dj] done.length 0 l=true)(hl:look dj (E c)=some A) :
  look dj (preEnv l (done++more) c (preOf o)++readEnv env (rdOf l done.length o))=some A:=
 hg.rd hdst hp hok (λt ht=>.inr ⟨j,oj,hw,hj,by rw [hdj,List.mem_singleton.1 ht]⟩) List.mem_cons_self hl
theorem DM.pass(hp:((preOf ⟨some d,op,ty,pos,aft,some (j,want)⟩).all λj=>Nat.blt j i)=true)(hl:∀ c,(l[j]?,oj.dst,look dj (E c))=(some oj,some dj,some (tB.is b)))(hb:b= !want)(hw:(waits ⟨some d,op,ty,pos,aft,some (j,want)⟩ j && okTA ⟨some d,op,ty,pos,aft,some (j,want)⟩ [dj] i 0 l)=true)
  (k:DM P N g0 T0 ks B l env res pr (i+1) (λc=>(d,Un) :: E c) Rl es rds ([] :: ml) os):DM P N g0 T0 ks B l env res pr i E Rl es rds ml (⟨some d,op,ty,pos,aft,some (j,want)⟩ :: os):=by
 intro id done hdl hg;subst hdl;simp only [Prod.mk.injEq] at hl;rw [Bool.and_eq_true] at hw;have ho:l[done.length]? =some ⟨some d,op,ty,pos,aft,some (j,want)⟩:=by
  have:=congrArg (λx=>x[0]?) hg.tail;simpa using this
 refine k id (done++ [.f λ_=>Un]) (by simp) (hg.pure (rk:=λ_=>pr) (hg.ev.step (B:=.f λ_=>Un) ho rfl) (.inl λ_=>rfl) (λ_ h=>h) (λmore c=>?_) λ_ _ _=>rfl);rw [List.append_assoc];exact ⟨oj,dj,b,(hl c).1,(hl c).2.1,.inl ⟨BZ hg.ev hg.dst hp (hl c).1 (hl c).2.1 hw.1 hw.2 (hl c).2.2,.inr ⟨hb,rfl⟩⟩⟩
theorem DM.pass2(hp:((preOf ⟨some d,op,ty,pos,aft,some (j,want)⟩).all λj=>Nat.blt j i)=true)(hl:∀ c,(l[j]?,oj.dst,look dj (E c))=(some oj,some dj,some Un))(hw:(waits ⟨some d,op,ty,pos,aft,some (j,want)⟩ j && okTA ⟨some d,op,ty,pos,aft,some (j,want)⟩ [dj] i 0 l)=true)
  (k:DM P N g0 T0 ks B l env res pr (i+1) (λc=>(d,Un) :: E c) Rl es rds ([] :: ml) os):DM P N g0 T0 ks B l env res pr i E Rl es rds ml (⟨some d,op,ty,pos,aft,some (j,want)⟩ :: os):=by
 intro id done hdl hg;subst hdl;simp only [Prod.mk.injEq] at hl;rw [Bool.and_eq_true] at hw;have ho:l[done.length]? =some ⟨some d,op,ty,pos,aft,some (j,want)⟩:=by
  have:=congrArg (λx=>x[0]?) hg.tail;simpa using this
 refine k id (done++ [.f λ_=>Un]) (by simp) (hg.pure (rk:=λ_=>pr) (hg.ev.step (B:=.f λ_=>Un) ho rfl) (.inl λ_=>rfl) (λ_ h=>h) (λmore c=>?_) λ_ _ _=>rfl);rw [List.append_assoc];exact ⟨oj,dj,true,(hl c).1,(hl c).2.1,.inr ⟨BZ hg.ev hg.dst hp (hl c).1 (hl c).2.1 hw.1 hw.2 (hl c).2.2,rfl⟩⟩
theorem DM.run(hp:((preOf ⟨some d,op,ty,pos,aft,some (j,want)⟩).all λj=>Nat.blt j i)=true)(hl:∀ c,(l[j]?,oj.dst,look dj (E c))=(some oj,some dj,some (tB.is b)))(hb:b=want)(hw:(waits ⟨some d,op,ty,pos,aft,some (j,want)⟩ j && okTA ⟨some d,op,ty,pos,aft,some (j,want)⟩ [dj] i 0 l)=true)
  (hok:okTA ⟨some d,op,ty,pos,aft,some (j,want)⟩ (opT op) i 0 l=true) (hk:KpF E (opT op) e) (h:∀ c,Op1 P ⟨some d,op,ty,pos,aft,some (j,want)⟩ (e c) pr (A c)) (hdep:Dep A ms)
  (k:DM P N g0 T0 ks B l env res pr (i+1) (λc=>(d,A c) :: E c) Rl es rds (ms :: ml) os):DM P N g0 T0 ks B l env res pr i E Rl es rds ml (⟨some d,op,ty,pos,aft,some (j,want)⟩ :: os):=by
 intro id done hdl hg;subst hdl;simp only [Prod.mk.injEq] at hl;rw [Bool.and_eq_true] at hw;have ho:l[done.length]? =some ⟨some d,op,ty,pos,aft,some (j,want)⟩:=by
  have:=congrArg (λx=>x[0]?) hg.tail;simpa using this
 refine k id (done++ [.f A]) (by simp) (hg.pure (rk:=λ_=>pr) (hg.ev.step (B:=.f A) ho rfl) (.inl λ_=>rfl) (λ_ h=>h) (λmore c=>?_) hdep);rw [List.append_assoc];exact ⟨oj,dj,b,(hl c).1,(hl c).2.1,.inl ⟨BZ hg.ev hg.dst hp (hl c).1 (hl c).2.1 hw.1 hw.2 (hl c).2.2,.inl ⟨hb,(h c).sub (BX hg.ev hg.dst hp hok hk.at)⟩⟩⟩
end
theorem DM.eff(ms us:List Nat){out:Val->Rs}(hp:((preOf ⟨some d,op,ty,pos,aft,none⟩).all λj=>Nat.blt j i)=true)(hok:okTA ⟨some d,op,ty,pos,aft,none⟩ (opT op) i 0 l=true)(hR:Rl[es.length]? =some R)(hk:KpF E (opT op) e)
  (h:∀ c,OpR P ⟨some d,op,ty,pos,aft,none⟩ (e c) (R c) us (λk=>A (upd c es.length k)) (λk=>out (upd c es.length k))) (hR':∀ c,R' c=out c++(R c).drop us) (hRu:∀ c k,R (upd c es.length k)=R c) (hdep:Dep A ms)
  (k:DM P N g0 T0 ks B l env res pr (i+1) (λc=>(d,A c) :: E c) (Rl++ [R']) (es++ [i]) rds (ms :: ml) os):DM P N g0 T0 ks B l env res pr i E Rl es rds ml (⟨some d,op,ty,pos,aft,none⟩ :: os):=by
 intro id done hdl hg;subst hdl;have ho:l[done.length]? =some ⟨some d,op,ty,pos,aft,none⟩:=by
  have:=congrArg (λx=>x[0]?) hg.tail;simpa using this
 refine k id (done++ [.f A]) (by simp) (hg.effect (hg.ev.step (B:=.f A) ho rfl) rfl hR hR' hRu (λmore c=>?_) hdep);rw [List.append_assoc];exact (h c).sub (BX hg.ev hg.dst hp hok hk.at)
theorem DM.effN(us:List Nat){out:Val->Rs}(hp:((preOf ⟨none,op,ty,pos,aft,none⟩).all λj=>Nat.blt j i)=true)(hok:okTA ⟨none,op,ty,pos,aft,none⟩ (opT op) i 0 l=true)(hR:Rl[es.length]? =some R)(hk:KpF E (opT op) e)
  (h:∀ c,OpR P ⟨none,op,ty,pos,aft,none⟩ (e c) (R c) us (λ_:Tok=>Asn.any) (λk=>out (upd c es.length k))) (hR':∀ c,R' c=out c++(R c).drop us) (hRu:∀ c k,R (upd c es.length k)=R c)
  (k:DM P N g0 T0 ks B l env res pr (i+1) E (Rl++ [R']) (es++ [i]) rds ([] :: ml) os):DM P N g0 T0 ks B l env res pr i E Rl es rds ml (⟨none,op,ty,pos,aft,none⟩ :: os):=by
 intro id done hdl hg;subst hdl;have ho:l[done.length]? =some ⟨none,op,ty,pos,aft,none⟩:=by
  have:=congrArg (λx=>x[0]?) hg.tail;simpa using this
 refine k id (done++ [.f λ_=>Asn.any]) (by simp) (hg.effect (A:=λ_=>Asn.any) (hg.ev.stepN (B:=.f λ_=>Asn.any) ho rfl) rfl hR hR' hRu (λmore c=>?_) λ_ _ _=>rfl);rw [List.append_assoc];exact (h c).sub (BX hg.ev hg.dst hp hok hk.at)
end
end
end Go.Dec
