/-
  Whole functions walked by one script: loops by classes that the models' loop functions are members of, joins by walking what follows in each branch.
-/
import Derived.Test.YtobcmdhemlennaaGreatDoorDec50
import Derived.Test.YtobcmdhemlennaaGreatDoorDec46
set_option maxRecDepth 100000
set_option linter.unusedVariables false
set_option linter.unusedSimpArgs false
namespace Go.Dec
open Go
variable {A:Asn}{σ:Type}{As:σ->List Asn}{Cs:List Asn}{N:Nat}{P:Program}{Q:Exit->Act->World->Prop}{R:Val->Rs}{T T':TypeId}{T0:Nat->Prop}{aft:Array Edge}{ats:Array TypeId}{b1 b2 b3:Nat}{c:Code}{d:Nat}{dd:Option Tmp}{e' env:Env}{f:FuncId}{fs:Array Field}{gd:Option (Nat×Bool)}{goal:Prop}{j:Int}{k:IntKind}{ke:List Nat}{key:Nat}{ks:List KF}{ms:List Nat}{ops:Array Oper}{p:Prop}{ps:List (Nat×Operand)}{q1 q2 q3:Tok}{r' res:Rs}{rest:List Oper}{α:Type}{ty:TypeId}{x:Operand}{xs:List α}{y:Operand}{β ρ:Type}
class LpC {ρ:Type} (e:Option ρ) (τ:outParam Type) (F:outParam (Nat->τ->Option ρ)) (n:outParam Nat) (s:outParam τ) (E:outParam (τ->Tok->Tok->Tok->Nat->Nat->Nat->Env->Env)) (R:outParam (τ->Tok->Tok->Tok->Nat->Nat->Nat->Rs->Rs)) (ke:outParam (List Nat)) (kr:outParam (List Nat)) (G:outParam (Nat->τ->Option ρ)) where
 y:Unit:=()
 h:e=F n s
 z:∀ s,F 0 s=none
 u:∀ n s,F (n+1) s=G n s
class RgC {ρ:Type} (e:Option ρ) (α:outParam Type) (τ:outParam Type) (F:outParam (List α->Int->τ->Option ρ)) (l:outParam (List α)) (ok:outParam (Int->Prop)) (s:outParam τ) (E:outParam (τ->Tok->Tok->Tok->Nat->Nat->Nat->Env->Env)) (R:outParam (τ->Tok->Tok->Tok->Nat->Nat->Nat->Rs->Rs)) (at_:outParam Nat) (ke:outParam (List Nat)) (kr:outParam (List Nat)) (Z:outParam (Int->τ->Option ρ)) (G:outParam (α->List α->Int->τ->Option ρ)) where
 y:Unit:=()
 h:∀ j,ok j->e=F l j s
 z:∀ j s,F [] j s=Z j s
 u:∀ x l j s,F (x :: l) j s=G x l j s
structure RU {ρ τ α:Type} (F:List α->Int->τ->Option ρ) (Z:Int->τ->Option ρ) (G:α->List α->Int->τ->Option ρ):Prop where
 z:∀ j s,F [] j s=Z j s
 u:∀ x l j s,F (x :: l) j s=G x l j s
abbrev mkLp{ρ τ:Type}(e:Option ρ)(F:Nat->τ->Option ρ)(n:Nat)(s:τ)(ke kr:List Nat)(E:τ->Tok->Tok->Tok->Nat->Nat->Nat->Env->Env)(R:τ->Tok->Tok->Tok->Nat->Nat->Nat->Rs->Rs){G:Nat->τ->Option ρ}(z:∀ s,F 0 s=none)(u:∀ n s,F (n+1) s=G n s)(h:e=F n s:=by exact rfl):LpC e τ F n s E R ke kr G where
 h:=h
 z:=z
 u:=u
abbrev mkRg{ρ τ α:Type}(e:Option ρ)(F:List α->Int->τ->Option ρ)(l:List α)(s:τ)(at_:Nat)(ke kr:List Nat)(E:τ->Tok->Tok->Tok->Nat->Nat->Nat->Env->Env)(R:τ->Tok->Tok->Tok->Nat->Nat->Nat->Rs->Rs){Z:Int->τ->Option ρ}{G:α->List α->Int->τ->Option ρ}(z:∀ j s,F [] j s=Z j s)(u:∀ x l j s,F (x :: l) j s=G x l j s)(h:∀ j,e=F l j s:=by exactλ_=>rfl):RgC e α τ F l (λ_=>True) s E R at_ ke kr Z G where
 h:=λj _=>h j
 z:=z
 u:=u
abbrev mkRi{ρ τ α:Type}(e:Option ρ)(F:List α->Int->τ->Option ρ)(l:List α)(i:Int)(s:τ)(at_:Nat)(ke kr:List Nat)(E:τ->Tok->Tok->Tok->Nat->Nat->Nat->Env->Env)(R:τ->Tok->Tok->Tok->Nat->Nat->Nat->Rs->Rs){Z:Int->τ->Option ρ}{G:α->List α->Int->τ->Option ρ}(z:∀ j s,F [] j s=Z j s)(u:∀ x l j s,F (x :: l) j s=G x l j s)(h:e=F l i s:=by exact rfl):RgC e α τ F l (λj=>j=i) s E R at_ ke kr Z G where
 h:=λj hj=>by rw [hj];exact h
 z:=z
 u:=u
section
variable {P:Program} {N:Nat} {g0:G} {T0:Nat->Prop} {ks:List KF} {B:Exit->Act->World->Prop} {env:Env} {res:Rs} {ρ τ α:Type} {e:Option ρ} {r:ρ}
def LK(N:Nat)(g0:G)(T0:Nat->Prop)(F:Nat->τ->Option ρ)(r:ρ)(E:τ->Tok->Tok->Tok->Nat->Nat->Nat->Env->Env)(R:τ->Tok->Tok->Tok->Nat->Nat->Nat->Rs->Rs)(b1 b2 b3:Nat)(e':Env)(r':Rs)(n:Nat):Act->World->Prop:=
 λa w=>∃ n' s k1 k2 k3 g,n'< n/\F n' s=some r/\g.w=w/\St N g0 T0 (E s k1 k2 k3 b1 b2 b3 e') (R s k1 k2 k3 b1 b2 b3 r') a g
theorem W.lpC{F:Nat->τ->Option ρ}{n0:Nat}{s0:τ}{E:τ->Tok->Tok->Tok->Nat->Nat->Nat->Env->Env}{R:τ->Tok->Tok->Tok->Nat->Nat->Nat->Rs->Rs}{kr:List Nat}{G:Nat->τ->Option ρ}(hs:e=some r)[i:LpC e τ F n0 s0 E R ke kr G]
  (hk:Kp env ke e') (hk2:KpR res kr r') (he:Sub (E s0 q1 q2 q3 b1 b2 b3 e') env) (hr:RSub (R s0 q1 q2 q3 b1 b2 b3 r') res)
  (k:∀ n s k1 k2 k3,G n s=some r->W P N g0 T0 c (.loop (LK N g0 T0 F r E R b1 b2 b3 e' r' (n+1)) :: ks) B (E s k1 k2 k3 b1 b2 b3 e') (R s k1 k2 k3 b1 b2 b3 r')):W P N g0 T0 (.loop c) ks B env res:=by
 have h0:=i.h;have hz:=i.z;have hu:=i.u;refine W.weaken he hr ?_;intro a g hst;refine wp_loop_ghost (λn a w=>∃ s k1 k2 k3 g,F n s=some r/\g.w=w/\St N g0 T0 (E s k1 k2 k3 b1 b2 b3 e') (R s k1 k2 k3 b1 b2 b3 r') a g) n0 ⟨s0,q1,q2,q3,g,h0▸hs,rfl,hst⟩ ?_;rintro n a w ⟨s,k1,k2,k3,g,hI,rfl,hst⟩;cases n with
 | zero=>rw [hz] at hI;cases hI
 | succ n=>
  rw [hu] at hI;refine wp_mono (k n s k1 k2 k3 hI a g hst) ?_;intro e a' w' hq;cases e with
  | normal=>
   obtain ⟨n',s',k1',k2',k3',g',h1,h2,h3,h4⟩:=hq;exact ⟨n',h1,s',k1',k2',k3',g',h2,h3,h4⟩
  | exit id=>exact hq
  | goto l=>exact hq
  | ret=>exact hq
  | panic ch=>exact hq
  | outgrown=>exact hq
theorem WN.agC{F:Nat->τ->Option ρ}{n n':Nat}{s':τ}{E:τ->Tok->Tok->Tok->Nat->Nat->Nat->Env->Env}{R:τ->Tok->Tok->Tok->Nat->Nat->Nat->Rs->Rs}{kr:List Nat}{G:Nat->τ->Option ρ}(hs:e=some r)[i:LpC e τ F n' s' E R ke kr G](hn:n'< n)
  (he:Sub (E s' q1 q2 q3 b1 b2 b3 e') env) (hr:RSub (R s' q1 q2 q3 b1 b2 b3 r') res):WN P N g0 T0 (.loop (LK N g0 T0 F r E R b1 b2 b3 e' r' n) :: ks) B env res:=
 λa g hst=>⟨n',s',q1,q2,q3,g,hn,i.h▸hs,rfl,hst.weaken he hr⟩
def RK(N:Nat)(g0:G)(T0:Nat->Prop)(xs:List α)(F:List α->Int->τ->Option ρ)(r:ρ)(E:τ->Tok->Tok->Tok->Nat->Nat->Nat->Env->Env)(R:τ->Tok->Tok->Tok->Nat->Nat->Nat->Rs->Rs)(b1 b2 b3:Nat)(at_:Nat)(e':Env)(r':Rs)(n:Nat):Act->World->Prop:=
 λa w=>∃ pre rest s k1 k2 k3 g,rest.length<n/\xs=pre++rest/\F rest (pre.length:Int) s=some r/\g.w=w/\St N g0 T0 ((at_,(tI .i64).is (pre.length:Int)) :: (E s k1 k2 k3 b1 b2 b3 e')) (R s k1 k2 k3 b1 b2 b3 r') a g
theorem W.rgC{F:List α->Int->τ->Option ρ}{ok:Int->Prop}{l:List α}{s0:τ}{E:τ->Tok->Tok->Tok->Nat->Nat->Nat->Env->Env}{R:τ->Tok->Tok->Tok->Nat->Nat->Nat->Rs->Rs}{at_:Nat}{kr:List Nat}{Z:Int->τ->Option ρ}{G:α->List α->Int->τ->Option ρ}(hs:e=some r)[i:RgC e α τ F l ok s0 E R at_ ke kr Z G]
  (h0:ok 0) (hi:Ent at_ ((tI .i64).is (0:Int)) env) (hk:Kp env ke e') (hk2:KpR res kr r') (he:Sub (E s0 q1 q2 q3 b1 b2 b3 e') env) (hr:RSub (R s0 q1 q2 q3 b1 b2 b3 r') res)
  (k:∀ pre rest s k1 k2 k3 j,l=pre++rest->j=(pre.length:Int)->F rest j s=some r->RU F Z G->W P N g0 T0 c (.loop (RK N g0 T0 l F r E R b1 b2 b3 at_ e' r' rest.length) :: ks) B ((at_,(tI .i64).is j) :: (E s k1 k2 k3 b1 b2 b3 e')) (R s k1 k2 k3 b1 b2 b3 r')):W P N g0 T0 (.loop c) ks B env res:=by
 have h0:=i.h 0 h0;have hz:=i.z;have hu:=i.u;refine W.weaken (env':=(at_,(tI .i64).is (0:Int)) :: (E s0 q1 q2 q3 b1 b2 b3 e')) ⟨hi,he⟩ hr ?_;intro a g hst;refine wp_loop_ghost (λn a w=>∃ pre rest s k1 k2 k3 g,n=rest.length/\l=pre++rest/\F rest (pre.length:Int) s=some r/\g.w=w/\St N g0 T0 ((at_,(tI .i64).is (pre.length:Int)) :: (E s k1 k2 k3 b1 b2 b3 e')) (R s k1 k2 k3 b1 b2 b3 r') a g) l.length ⟨[],l,s0,q1,q2,q3,g,rfl,rfl,h0▸hs,rfl,hst⟩ ?_;rintro n a w ⟨pre,rest,s,k1,k2,k3,g,rfl,hp,hI,rfl,hst⟩;refine wp_mono (k pre rest s k1 k2 k3 _ hp rfl hI ⟨hz,hu⟩ a g hst) ?_;intro e a' w' hq;cases e with
 | normal=>
  obtain ⟨pre',rest',s',k1',k2',k3',g',h1,h2,h3,h4,h5⟩:=hq;exact ⟨_,h1,pre',rest',s',k1',k2',k3',g',rfl,h2,h3,h4,h5⟩
 | exit id=>exact hq
 | goto l=>exact hq
 | ret=>exact hq
 | panic ch=>exact hq
 | outgrown=>exact hq
theorem W.rgH{d:Code}{xs pre rest:List α}{F:List α->Int->τ->Option ρ}{s:τ}{Z:Int->τ->Option ρ}{G:α->List α->Int->τ->Option ρ}(hu:RU F Z G)(hm:F rest j s=some r)(hp:xs=pre++rest)(hj:j=(pre.length:Int))
  (hx:Opd env x (tB.is (decide (j<(xs.length:Int))))) (ht:∀ y ys,rest=y :: ys->xs=pre++y :: ys->G y ys j s=some r->W P N g0 T0 c ks B env res) (hf:rest= []->Z j s=some r->W P N g0 T0 d ks B env res):W P N g0 T0 (.cond x c d) ks B env res:=by
 refine W.cond hx (λh=>?_) (λh=>?_)
 .obtain ⟨y,ys,h1⟩:=qR hp hj (of_decide_eq_true h);subst h1;exact ht y ys rfl hp (by rw [<-hu.2];exact hm)
 .have h1:=sH hp hj (of_decide_eq_false h);subst h1;exact hf rfl (by rw [<-hu.1];exact hm)
theorem WN.agR{F:List α->Int->τ->Option ρ}{ok:Int->Prop}{xs pre ys:List α}{y:α}{s':τ}{E:τ->Tok->Tok->Tok->Nat->Nat->Nat->Env->Env}{R:τ->Tok->Tok->Tok->Nat->Nat->Nat->Rs->Rs}{at_:Nat}{kr:List Nat}{Z:Int->τ->Option ρ}{G:α->List α->Int->τ->Option ρ}(hs:e=some r)[i:RgC e α τ F ys ok s' E R at_ ke kr Z G]
  (h1:ok (j+1)) (hp:xs=pre++y :: ys) (hj:j=(pre.length:Int)) (he:Sub ((at_,(tI .i64).is (j+1)) :: (E s' q1 q2 q3 b1 b2 b3 e')) env) (hr:RSub (R s' q1 q2 q3 b1 b2 b3 r') res):WN P N g0 T0 (.loop (RK N g0 T0 xs F r E R b1 b2 b3 at_ e' r' (y :: ys).length) :: ks) B env res:=by
 have h0:=i.h _ h1;subst hj;have:((pre++ [y]).length:Int)=(pre.length:Int)+1:=by simp
 refineλa g hst=>⟨pre++ [y],ys,s',q1,q2,q3,g,by simp,by rw [hp];simp,(by rw [this,<-h0];exact hs),rfl,hst.weaken ?_ hr⟩
 rw [this];exact he
theorem WL.ltF{pos:String}{m n:Int}(hx:Opd env x ((tI .i64).is m))(hy:Opd env y ((tI .i64).is n))(hd:Nat.blt d N=true)
  (k:n<=9223372036854775807->WL P N g0 T0 ops Q rest ((d,tB.is (decide (m<n))) :: env) res):WL P N g0 T0 ops Q (⟨some d,.binOp .lss T x y T',ty,pos,aft,none⟩ :: rest) env res:=by
 intro a g hst;exact WL.op hd (Op1.ltI hx hy) (k (inR64.1 (hy.atInt hst.cx).2).2) a g hst
theorem Op1.addF{d:Option Tmp}{pos:String}{m n:Int}(hx:Opd env x ((tI .i64).is m))(hp:m<n)(hn:n<=9223372036854775807)(hy:Opd env y ((tI .i64).is 1)):Op1 P ⟨d,.binOp .add T x y T',ty,pos,aft,gd⟩ env res ((tI .i64).is (m+1)):=by
 intro a g K Q hc hK;have h1:=inR64.1 (hx.atInt hc).2;exact Op1.addI (P:=P) hx hy (inR64.2 (by omega)) a g K Q hc hK
theorem Op1.addR{d:Option Tmp}{pos:String}{xs pre ys:List α}{u:α}(hx:Opd env x ((tI .i64).is j))(hj:j=(pre.length:Int))(hp:xs=pre++u :: ys)(hn:(xs.length:Int)<=9223372036854775807)(hy:Opd env y ((tI .i64).is 1)):Op1 P ⟨d,.binOp .add T x y T',ty,pos,aft,gd⟩ env res ((tI .i64).is (j+1)):=by
 intro a g K Q hc hK;have h1:=inR64.1 (hx.atInt hc).2;have h2:(xs.length:Int)=pre.length+(ys.length+1):=by rw [hp];simp
 exact Op1.addI (P:=P) hx hy (inR64.2 (by omega)) a g K Q hc hK
theorem Op1.idxR{d:Option Tmp}{e:TypeId}{pos:String}{t:Ty α}{xs pre ys:List α}{u:α}(hx:Opd env x ((tL t).is xs))(hy:Opd env y ((tI k).is j))(hp:xs=pre++u :: ys)(hj:j=(pre.length:Int))[iT:UC P T (.slice e)][iz:YC P e α t] :
  Op1 P ⟨d,.indexAddr T x y,ty,pos,aft,gd⟩ env res (t.ptr u):=.idxPre hp hj iT.h iz.h.size hx hy
end
class ElC (P:Program) (E:TypeId) (α:outParam Type) (t:outParam (Ty α)):Type where
 h:ElAt P E t
class ZeC (P:Program) (T:TypeId) (α:outParam Type) (t:outParam (Ty α)) (z:outParam α):Type where
 h:oF P T t z
class EqC (P:Program) (T:TypeId) {α:Type} [DecidableEq α] (s:Ty α):Type where
 a:s.agg=true
 g:P.eqGuardType P.depth T=false
 e:∃ D,D<=10000/\EqT P T s D
class SFC {α:Type} (s:Ty α) (o:Nat) (β:outParam Type) (t:outParam (Ty β)) (f:outParam (α->β->α)):Type where
 h:dU s o t f
class BuC (P:Program) (T:TypeId) (α:outParam Type) (s:outParam (Ty α)) (fs:outParam (Array Field)) (z:outParam α):Type where
 a:s.agg=true
 u:P.underlying T=some (.struct fs)
 f:∃ f:Field->Nat,∀ fd,fd∈fs->∀ w,(sizeOf fd.type).run P w= .ok (f fd) w
 z:oF P T s z
inductive BuildQ (P:Program) (env:Env) {α:Type} (s:Ty α) (fs:Array Field):List (Nat×Operand)->α->α->Prop
 | nil {x:α}:BuildQ P env s fs [] x x
 | cons {i ft off a7:Nat} {a1 a5 a6:String} {a4:Bool} {o:Operand} {ps:List (Nat×Operand)} {β:Type} {t:Ty β} {y:β} {upd:α->β->α} {x x':α} (hf:fs[i]? =some ⟨a1,ft,off,a4,a5,a6,a7⟩) (iF:SFC s off β t upd) (iz:YC P ft β t) (h:Opd env o (t.is y)) (k:BuildQ P env s fs ps (upd x y) x'):BuildQ P env s fs ((i,o) :: ps) x x'
theorem BuildQ.build{s:Ty α}:∀ {ps:List (Nat×Operand)} {x x':α},BuildQ P env s fs ps x x'->Build P env s fs ps x x'
 | _,_,_,.nil=>rfl
 | _,_,_,.cons hf iF iz h k=>⟨_,_,_,_,_,hf,iz.h.size,h,iF.h,k.build⟩
inductive OpdsI (env:Env):List Operand->List Asn->Prop
 | nil:OpdsI env [] []
 | cons {x:Operand} {A:Asn} {xs:List Operand} {As:List Asn} (h:Opd env x A) (t:OpdsI env xs As):OpdsI env (x :: xs) (A :: As)
theorem OpdsI.opds:∀ {xs:List Operand} {As:List Asn},OpdsI env xs As->Opds env xs As
 | _,_,.nil=>trivial
 | _,_,.cons h t=>⟨h,t.opds⟩
inductive RkB (b:Nat):Rs->Nat->Nat->Bool->TypeId->Asn->Rs->Prop
 | here {k n:Nat} {agg:Bool} {T:TypeId} {A:Asn} {r:Rs}:RkB b ((k,Bx n agg T A b) :: r) k n agg T A r
 | there {x:Nat×Res} {k n:Nat} {agg:Bool} {T:TypeId} {A:Asn} {r r':Rs} (h:RkB b r k n agg T A r'):RkB b (x :: r) k n agg T A (x :: r')
inductive RkG (b:Nat):{α:Type}->Rs->Nat->Ty α->α->Rs->Prop
 | here {α:Type} {t:Ty α} {x:α} {k:Nat} {r:Rs}:RkG b ((k,Gl t b x) :: r) k t x r
 | there {α:Type} {t:Ty α} {u:α} {x:Nat×Res} {k:Nat} {r r':Rs} (h:RkG b r k t u r'):RkG b (x :: r) k t u (x :: r')
inductive RkO {α:Type} (t:Ty α) (E:TypeId) (tk:Tok):Rs->Nat->Nat->Rs->Prop
 | here {k n:Nat} {r:Rs}:RkO t E tk ((k,Own t E tk n) :: r) k n r
 | there {x:Nat×Res} {k n:Nat} {r r':Rs} (h:RkO t E tk r k n r'):RkO t E tk (x :: r) k n (x :: r')
inductive PartsQ (env:Env) {α:Type} (t:Ty α):Nat->List (Nat×Operand)->List α->Prop
 | nil {i:Nat}:PartsQ env t i [] []
 | cons {i j:Nat} {o:Operand} {y:α} {ps:List (Nat×Operand)} {xs:List α} (hi:i=j) (h:Opd env o (t.is y)) (k:PartsQ env t (j+1) ps xs):PartsQ env t j ((i,o) :: ps) (y :: xs)
theorem PartsQ.len{t:Ty α}:∀ {i:Nat} {ps:List (Nat×Operand)} {xs:List α},PartsQ env t i ps xs->ps.length=xs.length
 | _,_,_,.nil=>rfl
 | _,_,_,.cons _ _ k=>by simp [k.len]
theorem uF(pre:List α):∀ (xs zs:List α),zs.length=xs.length->(xs.zipIdx pre.length).foldl (λl p=>l.set p.2 p.1) (pre++zs)=pre++xs:=by
 intro xs;induction xs generalizing pre with
 | nil=>intro zs h;simp at h;subst h;rfl
 | cons x xs ih=>
  intro zs h;cases zs with
  | nil=>simp at h
  | cons z zs=>
   simp only [List.zipIdx_cons,List.foldl_cons];have h1:(pre++z :: zs).set pre.length x=(pre++ [x])++zs:=by simp
   rw [h1];have h2:=ih (pre++ [x]) zs (by simpa using h);simp only [List.length_append,List.length_cons,List.length_nil] at h2;rw [h2];simp
theorem PartsQ.parts{t:Ty α}:∀ {i:Nat} {ps:List (Nat×Operand)} {xs:List α},PartsQ env t i ps xs->Parts env t ps ((xs.zipIdx i).map λp=>(p.2,p.1))
 | _,_,_,.nil=>trivial
 | _,_,_,.cons hi h k=>⟨hi,h,by simpa using k.parts⟩
section
variable {P:Program} {env:Env} {res:Rs} {d:Option Tmp} {ty T T' E:TypeId} {pos:String} {aft:Array Edge} {gd:Option (Nat×Bool)} {x y s:Operand} {α β:Type}
theorem Op1.idxGI{n b ty2:Nat}{t:Ty α}{xs:List α}{u:α}(hy:Opd env (.tmp ty2) ((tI k).is j))(h:Dec.idx xs j=some u)(iT:UC P T (.array n E))(iz:YC P E α t)(hk:RkG b res key (tA n t) xs r')(hr:findR key res=some (Gl (tA n t) b xs)):Op1 P ⟨d,.indexAddr T (.global b) (.tmp ty2),ty,pos,aft,gd⟩ env res (t.ptr u):=by
 intro a g K Q hc hK;have hg:=hc.hres _ (fO hr);refine Op1.idxA (k:=k) (env:=[(ty2+1,gA (tA n t) b xs),(ty2,(tI k).is j)]) (res:=res) h iT.h iz.h.size (Opd.glob (s:=ty2+1) (dh _ _ _)) (.tmp ?_) a g K Q ⟨λs A hA=>?_,hc.hres⟩ hK
 .rw [bL _ _ (by omega),dh]
 .by_cases h1:ty2+1=s
  .subst h1;rw [dh] at hA;cases hA;exact hg
  .rw [bL _ _ h1] at hA;by_cases h2:ty2=s
   .subst h2;rw [dh] at hA;cases hA;exact hy a g hc.henv
   .rw [bL _ _ h2] at hA;cases hA
theorem Op1.UI{b:Nat}{t:Ty α}{u:α}(i:YC P T α t)(hk:RkG b res key t u r')(hr:findR key res=some (Gl t b u)):Op1 P ⟨d,.load T (.global b),ty,pos,aft,gd⟩ env res (t.is u):=by
 intro a g K Q hc hK;have hg:=hc.hres _ (fO hr);refine Op1.load (env:=[(0,gA t b u)]) (res:=res) i.h (Opd.glob (s:=0) (dh _ _ _)) a g K Q ⟨λs A hA=>?_,hc.hres⟩ hK;by_cases h1:0=s
 .subst h1;rw [dh] at hA;cases hA;exact hg
 .rw [bL _ _ h1] at hA;cases hA
theorem Op1.eqBI{b c:Bool}(hx:Opd env x (tB.is b))(hy:Opd env y (tB.is c))[i:UC P T .bool]:Op1 P ⟨d,.binOp .eql T x y T',ty,pos,aft,gd⟩ env res (tB.is (b==c)):=.eqB i.h hx hy
theorem Op1.neBI{b c:Bool}(hx:Opd env x (tB.is b))(hy:Opd env y (tB.is c))[i:UC P T .bool]:Op1 P ⟨d,.binOp .neq T x y T',ty,pos,aft,gd⟩ env res (tB.is (b !=c)):=.neB i.h hx hy
theorem Op1.eqStI{t:Ty α}{u v:α}(hx:Opd env x (t.is u))(hy:Opd env y (t.is v))(inst:DecidableEq α)(i:EqC P T t):Op1 P ⟨d,.binOp .eql T x y T',ty,pos,aft,gd⟩ env res (tB.is (decide (u=v))):=by
 obtain ⟨D,h1,h2⟩:=i.e;exact .eqSt i.a h1 i.g h2 hx hy
theorem Op1.neStI{t:Ty α}{u v:α}(hx:Opd env x (t.is u))(hy:Opd env y (t.is v))(inst:DecidableEq α)(i:EqC P T t):Op1 P ⟨d,.binOp .neq T x y T',ty,pos,aft,gd⟩ env res (tB.is (decide (u≠v))):=by
 obtain ⟨D,h1,h2⟩:=i.e;exact .neSt i.a h1 i.g h2 hx hy
theorem Op1.buildI{t:Ty α}{z u:α}[i:BuC P T α t fs z](h:BuildQ P env t fs ps z u):Op1 P ⟨d,.build T ps.toArray,ty,pos,aft,gd⟩ env res (t.is u):=by
 obtain ⟨f,hf⟩:=i.f;exact .build f i.a i.u hf i.z h.build
theorem Op1.mkCloI{cap:List Operand}(h:OpdsI env cap Cs):Op1 P ⟨d,.makeFunc (.func f) #[] cap.toArray,ty,pos,aft,gd⟩ env res (cloA f Cs):=.makeClo h.opds
theorem Op1.UJ{α':Type}{n:Nat}{agg:Bool}{b:Nat}{t:Ty α'}(hx:Opd env x (Bp b 0))(hk:RkB b res key n agg T' A r')[i:YC P T α' t](hn:n=t.size)(ha:agg=t.agg)(hr:findR key res=some (Bx n agg T' A b)):Op1 P ⟨d,.load T x,ty,pos,aft,gd⟩ env res A:=by
 subst hn ha;exact .qG key i.h.agg i.h.size hr hx
theorem Op1.fAB0{a1 a5 a6:String}{a4:Bool}{ft off a7:Nat}{n m b:Nat}[iT:UC P T (.struct fs)](hx:Opd env x (Bp b 0))(hf:fs[n]? =some ⟨a1,ft,off,a4,a5,a6,a7⟩)(iz:ZC P ft (m+1)):Op1 P ⟨d,.fieldAddr T x n,ty,pos,aft,gd⟩ env res (Bp b off):=
 .fieldAddrB iT.h hf (λw=>⟨_,iz.h w⟩) hx (Nat.zero_add _)
theorem Op1.UK{n b o:Nat}{agg:Bool}{s':Ty α}{t:Ty β}{f:α->β}{u:α}(hx:Opd env x (Bp b o))(hk:RkB b res key n agg T' (s'.is u) r')(iF:FC s' o β t f)(i:YC P T β t)(hs:s'.agg=true)(hr:findR key res=some (Bx s'.size true T' (s'.is u) b)):Op1 P ⟨d,.load T x,ty,pos,aft,gd⟩ env res (t.is (f u)):=
 .kR key hs i.h iF.h hr hx
end
section
variable {P:Program} {N:Nat} {g0:G} {T0:Nat->Prop} {env:Env} {res r':Rs} {ops:Array Oper} {Q:Exit->Act->World->Prop} {rest:List Oper} {d:Nat} {ty T T' E:TypeId} {pos:String} {aft:Array Edge} {x y s:Operand} {α β:Type}
theorem drop0{r:Rs}:r.drop []=r:=by
 unfold Rs.drop;rw [List.filter_eq_self];intro a _;rfl
theorem Op1.bsI{t:Ty α}{n:Nat}{z:α}{xs:List α}[iT:UC P T (.slice E)][iz:ZeC P E α t z][ie:ElC P E α t](h0:Nat.blt 0 n=true)(hp:PartsQ env t 0 ps xs)(hn:n=ps.length)(hl:n*t.size<=16777216) :
  Op1 P ⟨dd,.buildSlice T n ps.toArray,ty,pos,aft,gd⟩ env res ((tL t).is xs):=by
 refine Op1.buildSlice iT.h ie.h iz.h hp.parts ?_ hl ?_
 .intro p hpm;obtain ⟨q,hq,rfl⟩:=List.mem_map.1 hpm;have:=List.snd_lt_of_mem_zipIdx hq;rw [hn,hp.len];simpa using this
 .rw [List.foldl_map,hn,hp.len];have:=uF (α:=α) [] xs (List.replicate xs.length z) (by simp);simpa using this
theorem WL.bsA{t:Ty α}{n:Nat}{z:α}{xs:List α}[iT:UC P T (.slice E)][iz:ZeC P E α t z][ie:ElC P E α t](hp:PartsQ env t 0 ps xs)(hn:n=ps.length)(hl:n*t.size<=16777216)(hd:Nat.blt d N=true)
  (k:∀ k,WL P N g0 T0 ops Q rest ((d,tO t k xs) :: env) ((d,Own t E k xs.length) :: res)):WL P N g0 T0 ops Q (⟨some d,.buildSlice T n ps.toArray,ty,pos,aft,none⟩ :: rest) env res:=by
 refine WL.opR hd (OpR.buildSlice d iT.h ie.h iz.h hp.parts ?_ hl ?_) (λq=>by rw [drop0];exact k q)
 .intro p hpm;obtain ⟨q,hq,rfl⟩:=List.mem_map.1 hpm;have:=List.snd_lt_of_mem_zipIdx hq;rw [hn,hp.len];simpa using this
 .rw [List.foldl_map,hn,hp.len];have:=uF (α:=α) [] xs (List.replicate xs.length z) (by simp);simpa using this
theorem WL.apA{t:Ty α}{l m r:List α}{tk:Tok}{n:Nat}(hs:Opd env s (tO t tk l))[iT:UC P T (.slice E)][ie:ElC P E α t](hk:RkO t E tk res key n r')(hx:Opd env x ((tL t).is m))(h:Dec.appC l m=some r)(hr:(res.pick [key],res.drop [key])=([(key,Own t E tk l.length)],r'))(hd:Nat.blt d N=true)
  (k:∀ k,WL P N g0 T0 ops Q rest ((d,tO t k r) :: env) ((key,Own t E k r.length) :: r')):WL P N g0 T0 ops Q (⟨some d,.call ⟨.builtin .append,#[s,x],#[T,T]⟩,ty,pos,aft,none⟩ :: rest) env res:=by
 simp only [Prod.mk.injEq] at hr;refine WL.opR hd (OpR.appC h iT.h ie.h hs hx hr.1) (λq=>by rw [hr.2];exact k q)
theorem WL.alA{t:Ty α}{z:α}[i:ZeC P T α t z](hd:Nat.blt d N=true)(k:∀ b,WL P N g0 T0 ops Q rest ((d,Bp b 0) :: env) ((d,Bx t.size t.agg T (t.is z) b) :: res)):WL P N g0 T0 ops Q (⟨some d,.alloc T,ty,pos,aft,none⟩ :: rest) env res:=
 WL.opR hd (OpR.alloc d i.h) (λq=>by rw [drop0];exact k q)
theorem WL.stA{n m b:Nat}{agg:Bool}{A':Asn}(hx:Opd env x (Bp b 0))(hk:RkB b res key n agg T' A r')(hy:Opd env y A')(hB:bg n agg A')[i:ZC P T m](hm:m=n)(hr:(res.pick [key],res.drop [key])=([(key,Bx n agg T' A b)],r'))
  (k:WL P N g0 T0 ops Q rest env ((key,Bx n agg T' A' b) :: r')):WL P N g0 T0 ops Q (⟨none,.store T x y,ty,pos,aft,none⟩ :: rest) env res:=by
 subst hm;simp only [Prod.mk.injEq] at hr;exact WL.opU (OpR.storeB key i.h hB hr.1 hx hy) (λ_=>by rw [hr.2];exact k)
theorem WL.stR{m n b o:Nat}{agg:Bool}{i:Int}{t:Ty α}{xs:List α}{v:α}{w:Unit}(hx:Opd env x (Bp b o))(hk:RkB b res key m agg T' ((tA n t).is xs) r')(iy:YC P T α t)(hv:rngC n i=some w)(hy:Opd env y (t.is v))(ho:o=i.toNat*t.size)(hr:(res.pick [key],res.drop [key])=([(key,Bx (tA n t).size true T' ((tA n t).is xs) b)],r'))
  (k:WL P N g0 T0 ops Q rest env ((key,Bx (tA n t).size true T' ((tA n t).is (xs.set i.toNat v)) b) :: r')):WL P N g0 T0 ops Q (⟨none,.store T x y,ty,pos,aft,none⟩ :: rest) env res:=by
 subst ho;simp only [Prod.mk.injEq] at hr;exact WL.opU (OpR.storeBF key rfl iy.h (dU.arr (FV hv)) hr.1 (Uz (FV hv)) hx hy) (λ_=>by rw [hr.2];exact k)
theorem WL.stF{n b o:Nat}{agg:Bool}{s':Ty α}{t:Ty β}{f:α->β->α}{u:α}{v:β}(hx:Opd env x (Bp b o))(hk:RkB b res key n agg T' (s'.is u) r')(iF:SFC s' o β t f)(i:YC P T β t)(hy:Opd env y (t.is v))(hs:s'.agg=true)(ho:o+t.size<=s'.size)(hr:(res.pick [key],res.drop [key])=([(key,Bx s'.size true T' (s'.is u) b)],r'))
  (k:WL P N g0 T0 ops Q rest env ((key,Bx s'.size true T' (s'.is (f u v)) b) :: r')):WL P N g0 T0 ops Q (⟨none,.store T x y,ty,pos,aft,none⟩ :: rest) env res:=by
 simp only [Prod.mk.injEq] at hr;exact WL.opU (OpR.storeBF key hs i.h iF.h hr.1 ho hx hy) (λ_=>by rw [hr.2];exact k)
structure SL (S:List Nat):Prop where
 y:True
theorem WL.bxA{S:List Nat}{T:TypeId}{t:Ty α}{u:α}(hS:SL S)(hm:memB (1000000+d) S=true)(hx:Opd env x (t.is u))(hd:Nat.blt d N=true)
  (k:∀ b,WL P N g0 T0 ops Q rest ((d,Bp b 0) :: env) ((d,Bx t.size t.agg T (t.is u) b) :: res)):WL P N g0 T0 ops Q (⟨some d,.box T x,ty,pos,aft,none⟩ :: rest) env res:=
 WL.opR hd (OpR.boxB d (bg.is t u) hx) (λq=>by rw [drop0];exact k q)
theorem WL.slA{S:List Nat}{n b:Nat}{agg:Bool}{t:Ty α}{u:α}(hS:SL S)(hm:memB key S=true)(hn:n=t.size)(ha:agg=t.agg)(hs:look key env=some (Bp b 0))
  (k:WL P N g0 T0 ops Q rest ((key,t.ptr u) :: env) r') (hd:Rs.drop [key] ((key,Bx n agg T (t.is u) b) :: r')=r'):WL P N g0 T0 ops Q rest env ((key,Bx n agg T (t.is u) b) :: r'):=by
 subst hn ha;refine WL.sealed (T:=T) key key ?_ hs (by rw [hd];exact k);unfold findR;rw [Nat.beq_refl]
end
section
variable {P:Program} {N:Nat} {g0:G} {T0:Nat->Prop} {ks:List KF} {B:Exit->Act->World->Prop} {env:Env} {res pr:Rs} {l:List Oper} {i:Nat} {E:Val->Env} {Rl:List (Val->Rs)} {es:List Nat} {rds:List (Nat×(Val->Rs))} {ml:List (List Nat)} {os:List Oper} {d:Nat} {ty T T':TypeId} {pos:String} {aft:Array Edge} {e:Val->Env} {x y:Operand} {α β:Type}
theorem DM.al{t:Ty α}{z:α}[i1:ZeC P T α t z](hp:((preOf ⟨some d,.alloc T,ty,pos,aft,none⟩).all λj=>Nat.blt j i)=true)(hR:Rl[es.length]? =some R)(hRu:∀ c k,R (upd c es.length k)=R c)
  (k:DM P N g0 T0 ks B l env res pr (i+1) (λc=>(d,Bp (bk (c es.length)) 0) :: E c) (Rl++ [λc=>(d,Bx t.size t.agg T (t.is z) (bk (c es.length))) :: R c]) (es++ [i]) rds ([es.length] :: ml) os):DM P N g0 T0 ks B l env res pr i E Rl es rds ml (⟨some d,.alloc T,ty,pos,aft,none⟩ :: os):=by
 have hok:okTA ⟨some d,.alloc T,ty,pos,aft,none⟩ (opT (.alloc T)) i 0 l=true:=by
  have:∀ (o:Oper) (j:Nat) (l:List Oper) (i:Nat),okTA o [] j i l=true:=by
   intro o j l;induction l with
   | nil=>intro i;rfl
   | cons x l ih=>
    intro i;unfold okTA;rw [ih];cases x.dst<;> rfl
  exact this _ _ _ _
 refine DM.eff (e:=λ_=>[]) (out:=λc=>[(d,Bx t.size t.agg T (t.is z) (bk (c es.length)))]) [es.length] [] hp hok hR .nil (λc=>?_) (λc=>?_) hRu ?_ k
 .simp only [upd_same];exact OpR.viaB (OpR.alloc d i1.h)
 .rw [drop0];rfl
 .intro c c' h;dsimp only;rw [h _ (by simp [memB,Nat.beq_refl])]
theorem DM.st{r':Val->Rs}{n m:Nat}{agg:Bool}{b:Val->Nat}{A0 A':Val->Asn}(hp:((preOf ⟨none,.store T x y,ty,pos,aft,none⟩).all λj=>Nat.blt j i)=true)(hok:okTA ⟨none,.store T x y,ty,pos,aft,none⟩ (opT (.store T x y)) i 0 l=true)(hR:Rl[es.length]? =some R)(hk:KpF E (opT (.store T x y)) e)
  (hx:∀ c,Opd (e c) x (Bp (b c) 0)) (hk2:∀ c,RkB (b c) (R c) key n agg T' (A0 c) (r' c)) (hy:∀ c,Opd (e c) y (A' c)) (hB:∀ c,bg n agg (A' c)) [i1:ZC P T m] (hm:m=n) (hr:∀ c,((R c).pick [key],(R c).drop [key])=([(key,Bx n agg T' (A0 c) (b c))],r' c))
  (hRu:∀ c k,R (upd c es.length k)=R c) (hou:∀ c k,(A' (upd c es.length k),b (upd c es.length k))=(A' c,b c))
  (k:DM P N g0 T0 ks B l env res pr (i+1) E (Rl++ [λc=>(key,Bx n agg T' (A' c) (b c)) :: r' c]) (es++ [i]) rds ([] :: ml) os):DM P N g0 T0 ks B l env res pr i E Rl es rds ml (⟨none,.store T x y,ty,pos,aft,none⟩ :: os):=by
 subst hm;simp only [Prod.mk.injEq] at hr hou;refine DM.effN (e:=e) (out:=λc=>[(key,Bx m agg T' (A' c) (b c))]) [key] hp hok hR hk (λc=>?_) (λc=>?_) hRu k
 .simp only [(hou _ _).1,(hou _ _).2];exact OpR.viaU (OpR.storeB key i1.h (hB c) (hr c).1 (hx c) (hy c))
 .rw [(hr c).2];rfl
theorem DM.stF{r':Val->Rs}{n o:Nat}{agg:Bool}{b:Val->Nat}{s':Ty α}{t:Ty β}{f:α->β->α}{u:Val->α}{v:Val->β}(hp:((preOf ⟨none,.store T x y,ty,pos,aft,none⟩).all λj=>Nat.blt j i)=true)(hok:okTA ⟨none,.store T x y,ty,pos,aft,none⟩ (opT (.store T x y)) i 0 l=true)(hR:Rl[es.length]? =some R)(hk:KpF E (opT (.store T x y)) e)
  (hx:∀ c,Opd (e c) x (Bp (b c) o)) (hk2:∀ c,RkB (b c) (R c) key n agg T' (s'.is (u c)) (r' c)) (iF:SFC s' o β t f) (i1:YC P T β t) (hy:∀ c,Opd (e c) y (t.is (v c))) (hs:s'.agg=true) (ho:o+t.size<=s'.size) (hr:∀ c,((R c).pick [key],(R c).drop [key])=([(key,Bx s'.size true T' (s'.is (u c)) (b c))],r' c))
  (hRu:∀ c k,R (upd c es.length k)=R c) (hou:∀ c k,(u (upd c es.length k),v (upd c es.length k),b (upd c es.length k))=(u c,v c,b c))
  (k:DM P N g0 T0 ks B l env res pr (i+1) E (Rl++ [λc=>(key,Bx s'.size true T' (s'.is (f (u c) (v c))) (b c)) :: r' c]) (es++ [i]) rds ([] :: ml) os):DM P N g0 T0 ks B l env res pr i E Rl es rds ml (⟨none,.store T x y,ty,pos,aft,none⟩ :: os):=by
 simp only [Prod.mk.injEq] at hr hou;refine DM.effN (e:=e) (out:=λc=>[(key,Bx s'.size true T' (s'.is (f (u c) (v c))) (b c))]) [key] hp hok hR hk (λc=>?_) (λc=>?_) hRu k
 .simp only [(hou _ _).1,(hou _ _).2.1,(hou _ _).2.2];exact OpR.viaU (OpR.storeBF key hs i1.h iF.h (hr c).1 ho (hx c) (hy c))
 .rw [(hr c).2];rfl
end
theorem Opd.cloS{t:Nat}{ok:σ->Prop}{Bs:σ->List Asn}{A:σ->Asn}(h:look t env=some (cloA f Cs))(i:∀ s,SpC P f (ok s) (Bs s) (A s))(hB:∀ s,Bs s=As s++Cs)[Inhabited σ]:Opd env (.tmp t) (tF P ok As A):=
 λa g he=>by
  obtain ⟨caps,hv,hcs⟩:=he t _ h;have hv':a.eval (.tmp t)= .func (.func f) #[] caps.toArray:=hv;exact ⟨f,#[],caps.toArray,hv',(i default).c,λs hs=>by
   have:=Does.of (P:=P) (cap:=caps) (g:=g) (Cs:=Cs) (As:=As s) (A:=A s) (f:=f) (by rw [<-hB];exact (i s).h hs) hcs;simpa using this⟩
theorem Opd.fnS{ok:σ->Prop}{A:σ->Asn}(i:∀ s,SpC P f (ok s) (As s) (A s))[Inhabited σ]:Opd env (.func f) (tF P ok As A):=Opd.fn (i default).c (λs hs=>(i s).h hs)
theorem Opd.fnT{t:Nat}{ok:σ->Prop}{A:σ->Asn}(h:look t env=some (Asn.eq (.func (.func f) #[] #[])))(i:∀ s,SpC P f (ok s) (As s) (A s))[Inhabited σ]:Opd env (.tmp t) (tF P ok As A):=
 λa g he=>by
  rw [show a.eval (.tmp t)=(.func (.func f) #[] #[]) from he t _ h];exact Opd.fn (env:=env) (i default).c (λs hs=>(i s).h hs) a g he
theorem bI[Decidable p]{a b:Option α}{k:α->Option β}{r:β}(h:Option.bind (if p then a else b) k=some r):(if p then a.bind k else b.bind k)=some r:=by
 split at h<;> rename_i hp
 .rw [if_pos hp];exact h
 .rw [if_neg hp];exact h
theorem bB{γ:Type}{a:Option α}{f:α->Option β}{k:β->Option γ}{r:γ}(h:Option.bind (Option.bind a f) k=some r):(Option.bind a λx=>Option.bind (f x) k)=some r:=by
 cases a with
 | none=>exact h
 | some x=>exact h
theorem nZ{r:α}(h:(none:Option α)=some r):False:=by cases h
theorem iT{a b:Option α}{r:α}(h:(if true=true then a else b)=some r):a=some r:=h
theorem iF{a b:Option α}{r:α}(h:(if false=true then a else b)=some r):b=some r:=h
theorem bS{a:α}{k:α->Option β}{r:β}(h:Option.bind (some a) k=some r):k a=some r:=h
theorem ifP[Decidable p]{a b:Option α}{r:α}(h:(if p then a else b)=some r)(hp:p):decide p=true/\a=some r:=by rw [if_pos hp] at h;exact ⟨decide_eq_true hp,h⟩
theorem ifN[Decidable p]{a b:Option α}{r:α}(h:(if p then a else b)=some r)(hp:¬ p):decide p=false/\b=some r:=by rw [if_neg hp] at h;exact ⟨decide_eq_false hp,h⟩
theorem ifPk[Decidable p]{a b:Option α}{r:α}(h:(if p then a else b)=some r)(hp:p)(k:decide p=true->a=some r->goal):goal:=k (ifP h hp).1 (ifP h hp).2
theorem ifNk[Decidable p]{a b:Option α}{r:α}(h:(if p then a else b)=some r)(hp:¬ p)(k:decide p=false->b=some r->goal):goal:=k (ifN h hp).1 (ifN h hp).2
inductive TakeR (R:Res):Rs->Nat->Rs->Prop
 | here {k:Nat} {r:Rs}:TakeR R ((k,R) :: r) k r
 | there {x:Nat×Res} {k:Nat} {r r':Rs} (h:TakeR R r k r'):TakeR R (x :: r) k (x :: r')
inductive MatchR:Rs->Rs->Rs->Rs->Prop
 | nil {r:Rs}:MatchR [] r [] r
 | cons {k0 k:Nat} {R:Res} {rin r r1 rk r':Rs} (h:TakeR R r k r1) (t:MatchR rin r1 rk r'):MatchR ((k0,R) :: rin) r ((k,R) :: rk) r'
theorem MatchR.snd:∀ {rin r rk r':Rs},MatchR rin r rk r'->rin.map Prod.snd=rk.map Prod.snd
 | _,_,_,_,.nil=>rfl
 | _,_,_,_,.cons h t=>by simp [t.snd]
theorem TakeR.perm{R:Res}:∀ {r:Rs} {k:Nat} {r':Rs},TakeR R r k r'->∀ x,x∈(k,R) :: r' ↔ x∈r
 | _,_,_,.here,x=>Iff.rfl
 | _,_,_,.there h,x=>by
  have:=h.perm x;simp only [List.mem_cons] at this ⊢;constructor
  .rintro (h1 | h1 | h1)
   .exact .inr (this.1 (.inl h1))
   .exact .inl h1
   .exact .inr (this.1 (.inr h1))
  .rintro (h1 | h1)
   .exact .inr (.inl h1)
   .rcases this.2 h1 with h2 | h2
    .exact .inl h2
    .exact .inr (.inr h2)
theorem TakeR.dis{R:Res}:∀ {r:Rs} {k:Nat} {r':Rs},TakeR R r k r'->r.dis->Rs.dis ((k,R) :: r')
 | _,_,_,.here,h=>h
 | _,_,_,.there (x:=x) h,hd=>by
  have h1:=List.pairwise_cons.1 hd;have h2:=List.pairwise_cons.1 (h.dis h1.2);refine List.pairwise_cons.2 ⟨λy hy b hb hyb=>?_,List.pairwise_cons.2 ⟨λy hy=>h1.1 y ((h.perm y).1 (List.mem_cons_of_mem _ hy)),h2.2⟩⟩;rcases List.mem_cons.1 hy with rfl | hy
  .exact h1.1 _ ((h.perm _).1 List.mem_cons_self) b hyb hb
  .exact h2.1 y hy b hb hyb
theorem MatchR.mem:∀ {rin r rk r':Rs},MatchR rin r rk r'->∀ x,x∈rk++r' ↔ x∈r
 | _,_,_,_,.nil,x=>Iff.rfl
 | _,_,_,_,.cons h t,x=>by
  have h1:=h.perm x;have h2:=t.mem x;rw [List.cons_append,List.mem_cons,h2,<-h1,List.mem_cons]
theorem MatchR.dis:∀ {rin r rk r':Rs},MatchR rin r rk r'->r.dis->Rs.dis (rk++r')
 | _,_,_,_,.nil,h=>h
 | _,_,_,_,.cons (rk:=rk) (r':=r') (r1:=r1) h t,hd=>by
  have h1:=List.pairwise_cons.1 (h.dis hd);rw [List.cons_append];exact List.pairwise_cons.2 ⟨λy hy=>h1.1 y ((t.mem y).1 hy),t.dis h1.2⟩
inductive KeyM (d:Nat):Rs->Rs->Nat->Nat->Prop
 | nil {k0:Nat}:KeyM d [] [] k0 d
 | here {k0 k:Nat} {R R':Res} {a b:Rs}:KeyM d ((k0,R) :: a) ((k,R') :: b) k0 k
 | there {x y:Nat×Res} {k0 k:Nat} {a b:Rs} (h:KeyM d a b k0 k):KeyM d (x :: a) (y :: b) k0 k
inductive RenF {ρ:Type} (d:Nat) (rin rk r':Rs):(ρ->Rs)->(ρ->Rs)->(ρ->Rs)->Prop
 | nil:RenF d rin rk r' (λ_=>[]) (λ_=>[]) (λ_=>r')
 | cons {k0 k:Nat} {R:ρ->Res} {t t1 t':ρ->Rs} (h:KeyM d rin rk k0 k) (s:RenF d rin rk r' t t1 t'):RenF d rin rk r' (λx=>(k0,R x) :: t x) (λx=>(k,R x) :: t1 x) (λx=>(k,R x) :: t' x)
theorem RenF.app{rin rk:Rs}:∀ {out o1 o':ρ->Rs},RenF d rin rk r' out o1 o'->(∀ x,o' x=o1 x++r')/\ ∀ x,(out x).map Prod.snd=(o1 x).map Prod.snd
 | _,_,_,.nil=>⟨λ_=>rfl,λ_=>rfl⟩
 | _,_,_,.cons h s=>⟨λx=>by simp [s.app.1 x],λx=>by simp [s.app.2 x]⟩
class SpR (P:Program) (f:FuncId) (q:Prop) (As:outParam (Nat->Nat->Tok->Tok->List Asn)) (rin:outParam (Nat->Nat->Tok->Tok->Rs)) (ρ:outParam Type) (A:outParam (Nat->Nat->Tok->Tok->ρ->Asn)) (out:outParam (Nat->Nat->Tok->Tok->ρ->Rs)):Prop where
 c:∀ vs w,(callFunc f vs).run P w= .ok (.enter f vs) w
 h:q->∀ b1 b2 k1 k2,aR P f (As b1 b2 k1 k2) (rin b1 b2 k1 k2) (A b1 b2 k1 k2) (out b1 b2 k1 k2)
theorem SpR.of{fn:Func}{q:Prop}{As:Nat->Nat->Tok->Tok->List Asn}{rin:Nat->Nat->Tok->Tok->Rs}{A:Nat->Nat->Tok->Tok->ρ->Asn}{out:Nat->Nat->Tok->Tok->ρ->Rs}(hc:∀ vs w,(callFunc f vs).run P w= .ok (.enter f vs) w)(hf:P.funcs[f]? =some fn)(hb:fn.body=some c)(hA:∀ b1 b2 k1 k2,Nat.ble (As b1 b2 k1 k2).length fn.ntmps=true)
  (h:∀ b1 b2 k1 k2 g0,q->W P fn.ntmps g0 (rin b1 b2 k1 k2).blks c [] (Bo P fn g0 (rin b1 b2 k1 k2) (A b1 b2 k1 k2) (out b1 b2 k1 k2)) (envFrom 0 (As b1 b2 k1 k2)) (rin b1 b2 k1 k2)):SpR P f q As rin ρ A out:=
 ⟨hc,λhq b1 b2 k1 k2=>aR.of hf hb rfl (hA _ _ _ _) λg0=>h b1 b2 k1 k2 g0 hq⟩
section
variable {P:Program} {N:Nat} {g0:G} {T0:Nat->Prop} {env:Env} {res r' rk:Rs} {ops:Array Oper} {Q:Exit->Act->World->Prop} {rest:List Oper} {d:Nat} {ty:TypeId} {pos:String} {aft:Array Edge} {f:FuncId} {x:Operand} {xs:List Operand} {ats:Array TypeId} {q:Prop} {As:Nat->Nat->Tok->Tok->List Asn} {rin:Nat->Nat->Tok->Tok->Rs} {ρ:Type} {A:Nat->Nat->Tok->Tok->ρ->Asn} {out:Nat->Nat->Tok->Tok->ρ->Rs} {o1 out':ρ->Rs} {b1 b2:Nat} {k1 k2:Tok}
theorem WL.cR(hq:q)(s:SpR P f q As rin ρ A out)(h:Opds env xs (As b1 b2 k1 k2))(hm:MatchR (rin b1 b2 k1 k2) res rk r')(ho:RenF d (rin b1 b2 k1 k2) rk r' (out b1 b2 k1 k2) o1 out')(hp:(Rs.pick (rk.map Prod.fst) (rk++r'),Rs.drop (rk.map Prod.fst) (rk++r'))=(rk,r'))(hd:Nat.blt d N=true)
  (k:∀ x,WL P N g0 T0 ops Q rest ((d,A b1 b2 k1 k2 x) :: env) (out' x)):WL P N g0 T0 ops Q (⟨some d,.call ⟨.value (.func f),xs.toArray,ats⟩,ty,pos,aft,none⟩ :: rest) env res:=by
 simp only [Prod.mk.injEq] at hp;refine WL.chg (res':=rk++r') (λa g hst=>⟨hst.sz,hst.dfr,hst.henv,λy hy=>hst.hres y ((hm.mem y).1 hy),hm.dis hst.dis,λb ⟨y,hy,hb⟩=>hst.own b ⟨y,(hm.mem y).1 hy,hb⟩,hst.ext⟩) ?_;refine WL.opR hd (OpR.call (us:=rk.map Prod.fst) s.c (aR.keys (out':=o1) (s.h hq b1 b2 k1 k2) hm.snd ho.app.2) hp.1 h) λz=>?_;rw [hp.2,<-ho.app.1 z];exact k z
theorem WL.cRC(hx:Opd env x (cloA f Cs))(hq:q)(s:SpR P f q As rin ρ A out)(hB:As b1 b2 k1 k2=(As b1 b2 k1 k2).take xs.length++Cs)(h:Opds env xs ((As b1 b2 k1 k2).take xs.length))(hm:MatchR (rin b1 b2 k1 k2) res rk r')(ho:RenF d (rin b1 b2 k1 k2) rk r' (out b1 b2 k1 k2) o1 out')(hp:(Rs.pick (rk.map Prod.fst) (rk++r'),Rs.drop (rk.map Prod.fst) (rk++r'))=(rk,r'))(hd:Nat.blt d N=true)
  (k:∀ x,WL P N g0 T0 ops Q rest ((d,A b1 b2 k1 k2 x) :: env) (out' x)):WL P N g0 T0 ops Q (⟨some d,.call ⟨.value x,xs.toArray,ats⟩,ty,pos,aft,none⟩ :: rest) env res:=by
 simp only [Prod.mk.injEq] at hp;refine WL.chg (res':=rk++r') (λa g hst=>⟨hst.sz,hst.dfr,hst.henv,λy hy=>hst.hres y ((hm.mem y).1 hy),hm.dis hst.dis,λb ⟨y,hy,hb⟩=>hst.own b ⟨y,(hm.mem y).1 hy,hb⟩,hst.ext⟩) ?_;refine WL.opR hd (OpR.callClo (As:=(As b1 b2 k1 k2).take xs.length) (us:=rk.map Prod.fst) s.c hx (by rw [<-hB];exact aR.keys (out':=o1) (s.h hq b1 b2 k1 k2) hm.snd ho.app.2) hp.1 h) λz=>?_;rw [hp.2,<-ho.app.1 z];exact k z
end
inductive KL:Rs->List Nat->Prop
 | nil:KL [] []
 | cons {k:Nat} {R:Res} {r:Rs} {us:List Nat} (t:KL r us):KL ((k,R) :: r) (k :: us)
theorem OpR.perm{o:Oper}{res2:Rs}{us:List Nat}{A:ρ->Asn}{out:ρ->Rs}(hm:∀ x,x∈res2 ↔ x∈res)(hd:res.dis->res2.dis)(h:OpR P o env res2 us A out):OpR P o env res us A out:=by
 have hb:∀ b,(res2.pick us).blks b ↔ (res.pick us).blks b:=by
  intro b;constructor
  .rintro ⟨y,hy,hyb⟩;have:=List.mem_filter.1 hy;exact ⟨y,List.mem_filter.2 ⟨(hm y).1 this.1,this.2⟩,hyb⟩
  .rintro ⟨y,hy,hyb⟩;have:=List.mem_filter.1 hy;exact ⟨y,List.mem_filter.2 ⟨(hm y).2 this.1,this.2⟩,hyb⟩
 intro a g K Q hc hdis hK;refine h a g K Q ⟨hc.henv,λy hy=>hc.hres y ((hm y).1 hy)⟩ (hd hdis) λx v g' e h1 h2 h3 h4=>hK x v g' (e.mono λb hbb=>(hb b).1 hbb) h1 h2 h3 λb hbb=>?_;rcases h4 b hbb with h5 | h5
 .exact .inl ((hb b).1 h5)
 .exact .inr h5
section
variable {P:Program} {N:Nat} {g0:G} {T0:Nat->Prop} {ks:List KF} {B:Exit->Act->World->Prop} {env:Env} {res pr:Rs} {l:List Oper} {i:Nat} {E:Val->Env} {Rl:List (Val->Rs)} {es:List Nat} {rds:List (Nat×(Val->Rs))} {ml:List (List Nat)} {os:List Oper} {d:Nat} {ty T T' E2:TypeId} {pos:String} {aft:Array Edge} {e:Val->Env} {x y s:Operand} {α β:Type} {R r':Val->Rs}
theorem DM.ldB{R r':Val->Rs}{α':Type}{n:Nat}{agg:Bool}{A:Val->Asn}{b:Val->Nat}{t:Ty α'}(hp:((preOf ⟨some d,.load T x,ty,pos,aft,none⟩).all λj=>Nat.blt j i)=true)(hok:okTA ⟨some d,.load T x,ty,pos,aft,none⟩ (opT (.load T x)) i 0 l=true)(hR:Rl[es.length]? =some R)(hk:KpF E (opT (.load T x)) e)
  (hx:∀ c,Opd (e c) x (Bp (b c) 0)) (hk2:∀ c,RkB (b c) (R c) key n agg T' (A c) (r' c)) (iY:YC P T α' t) (hn:n=t.size) (ha:agg=t.agg) (hdep:Dep A ms)
  (k:DM P N g0 T0 ks B l env res pr (i+1) (λc=>(d,A c) :: E c) Rl es ((i,λc=>[(key,Bx n agg T' (A c) (b c))]) :: rds) (ms :: ml) os):DM P N g0 T0 ks B l env res pr i E Rl es rds ml (⟨some d,.load T x,ty,pos,aft,none⟩ :: os):=by
 subst hn ha;refine DM.rd (e:=e) (λc=>[(key,Bx t.size t.agg T' (A c) (b c))]) hp hok hk (λc=>.qG (T':=T') key iY.h.agg iY.h.size ?_ (hx c)) hdep k;unfold findR;rw [Nat.beq_refl]
theorem DM.ldF{R r':Val->Rs}{n o:Nat}{agg:Bool}{b:Val->Nat}{s':Ty α}{t:Ty β}{f:α->β}{u:Val->α}(hp:((preOf ⟨some d,.load T x,ty,pos,aft,none⟩).all λj=>Nat.blt j i)=true)(hok:okTA ⟨some d,.load T x,ty,pos,aft,none⟩ (opT (.load T x)) i 0 l=true)(hR:Rl[es.length]? =some R)(hk:KpF E (opT (.load T x)) e)
  (hx:∀ c,Opd (e c) x (Bp (b c) o)) (hk2:∀ c,RkB (b c) (R c) key n agg T' (s'.is (u c)) (r' c)) (iF:FC s' o β t f) (iY:YC P T β t) (hs:s'.agg=true) (hn:n=s'.size) (ha:agg=true) (hdep:Dep (λc=>t.is (f (u c))) ms)
  (k:DM P N g0 T0 ks B l env res pr (i+1) (λc=>(d,t.is (f (u c))) :: E c) Rl es ((i,λc=>[(key,Bx n agg T' (s'.is (u c)) (b c))]) :: rds) (ms :: ml) os):DM P N g0 T0 ks B l env res pr i E Rl es rds ml (⟨some d,.load T x,ty,pos,aft,none⟩ :: os):=by
 subst hn ha;refine DM.rd (e:=e) (λc=>[(key,Bx s'.size true T' (s'.is (u c)) (b c))]) hp hok hk (λc=>.kR (T':=T') key hs iY.h iF.h ?_ (hx c)) hdep k;unfold findR;rw [Nat.beq_refl]
theorem DM.bs{t:Ty α}{n:Nat}{z:α}{xs:List α}[iT:UC P T (.slice E2)][iz:ZeC P E2 α t z][ie:ElC P E2 α t](hp:((preOf ⟨some d,.buildSlice T n ps.toArray,ty,pos,aft,none⟩).all λj=>Nat.blt j i)=true)(hok:okTA ⟨some d,.buildSlice T n ps.toArray,ty,pos,aft,none⟩ (opT (.buildSlice T n ps.toArray)) i 0 l=true)(hR:Rl[es.length]? =some R)(hk:KpF E (opT (.buildSlice T n ps.toArray)) e)
  (hq:∀ c,PartsQ (e c) t 0 ps xs) (hn:n=ps.length) (hl:n*t.size<=16777216) (hRu:∀ c k,R (upd c es.length k)=R c)
  (k:DM P N g0 T0 ks B l env res pr (i+1) (λc=>(d,tO t (c es.length) xs) :: E c) (Rl++ [λc=>(d,Own t E2 (c es.length) xs.length) :: R c]) (es++ [i]) rds ([es.length] :: ml) os):DM P N g0 T0 ks B l env res pr i E Rl es rds ml (⟨some d,.buildSlice T n ps.toArray,ty,pos,aft,none⟩ :: os):=by
 refine DM.eff (e:=e) (out:=λc=>[(d,Own t E2 (c es.length) xs.length)]) [es.length] [] hp hok hR hk (λc=>?_) (λc=>?_) hRu ?_ k
 .simp only [upd_same];refine OpR.buildSlice d iT.h ie.h iz.h (hq c).parts ?_ hl ?_
  .intro p hpm;obtain ⟨q,hqm,rfl⟩:=List.mem_map.1 hpm;have:=List.snd_lt_of_mem_zipIdx hqm;rw [hn,(hq c).len];simpa using this
  .rw [List.foldl_map,hn,(hq c).len];have:=uF (α:=α) [] xs (List.replicate xs.length z) (by simp);simpa using this
 .rw [drop0];rfl
 .intro c c' h;dsimp only;rw [h _ (by simp [memB,Nat.beq_refl])]
theorem DM.ap{t:Ty α}{q m r:List α}{tk:Val->Tok}{n:Nat}[iT:UC P T (.slice E2)][ie:ElC P E2 α t](hp:((preOf ⟨some d,.call ⟨.builtin .append,#[s,x],#[T,T]⟩,ty,pos,aft,none⟩).all λj=>Nat.blt j i)=true)(hok:okTA ⟨some d,.call ⟨.builtin .append,#[s,x],#[T,T]⟩,ty,pos,aft,none⟩ (opT (.call ⟨.builtin .append,#[s,x],#[T,T]⟩)) i 0 l=true)(hR:Rl[es.length]? =some R)(hk:KpF E (opT (.call ⟨.builtin .append,#[s,x],#[T,T]⟩)) e)
  (hs:∀ c,Opd (e c) s (tO t (tk c) q)) (hk2:∀ c,RkO t E2 (tk c) (R c) key n (r' c)) (hx:∀ c,Opd (e c) x ((tL t).is m)) (h:Dec.appC q m=some r) (hr:∀ c,((R c).pick [key],(R c).drop [key])=([(key,Own t E2 (tk c) q.length)],r' c)) (hRu:∀ c k,R (upd c es.length k)=R c)
  (k:DM P N g0 T0 ks B l env res pr (i+1) (λc=>(d,tO t (c es.length) r) :: E c) (Rl++ [λc=>(key,Own t E2 (c es.length) r.length) :: r' c]) (es++ [i]) rds ([es.length] :: ml) os):DM P N g0 T0 ks B l env res pr i E Rl es rds ml (⟨some d,.call ⟨.builtin .append,#[s,x],#[T,T]⟩,ty,pos,aft,none⟩ :: os):=by
 simp only [Prod.mk.injEq] at hr;refine DM.eff (e:=e) (out:=λc=>[(key,Own t E2 (c es.length) r.length)]) [es.length] [key] hp hok hR hk (λc=>?_) (λc=>?_) hRu ?_ k
 .simp only [upd_same];exact OpR.appC h iT.h ie.h (hs c) (hx c) (hr c).1
 .rw [(hr c).2];rfl
 .intro c c' h;dsimp only;rw [h _ (by simp [memB,Nat.beq_refl])]
theorem DM.cT{xs:List Operand}{q:Prop}{As:Nat->Nat->Tok->Tok->List Asn}{rin:Nat->Nat->Tok->Tok->Rs}{A:Nat->Nat->Tok->Tok->Tok->Asn}{out:Nat->Nat->Tok->Tok->Tok->Rs}{o1 out':Val->Tok->Rs}{rk:Val->Rs}{b1 b2:Val->Nat}{k1 k2:Val->Tok}{us:List Nat}(hq:q)(sp:SpR P f q As rin Tok A out)
  (hp:((preOf ⟨some d,.call ⟨.value (.func f),xs.toArray,ats⟩,ty,pos,aft,none⟩).all λj=>Nat.blt j i)=true) (hok:okTA ⟨some d,.call ⟨.value (.func f),xs.toArray,ats⟩,ty,pos,aft,none⟩ (opT (.call ⟨.value (.func f),xs.toArray,ats⟩)) i 0 l=true) (hR:Rl[es.length]? =some R) (hk:KpF E (opT (.call ⟨.value (.func f),xs.toArray,ats⟩)) e)
  (h:∀ c,Opds (e c) xs (As (b1 c) (b2 c) (k1 c) (k2 c))) (hm:∀ c,MatchR (rin (b1 c) (b2 c) (k1 c) (k2 c)) (R c) (rk c) (r' c)) (ho:∀ c,RenF d (rin (b1 c) (b2 c) (k1 c) (k2 c)) (rk c) (r' c) (out (b1 c) (b2 c) (k1 c) (k2 c)) (o1 c) (out' c)) (hus:∀ c,KL (rk c) us) (hpk:∀ c,(Rs.pick us (rk c++r' c),(R c).drop us)=(rk c,r' c)) (hRu:∀ c k,R (upd c es.length k)=R c)
  (hou:∀ c k,(A (b1 (upd c es.length k)) (b2 (upd c es.length k)) (k1 (upd c es.length k)) (k2 (upd c es.length k)),o1 (upd c es.length k))=(A (b1 c) (b2 c) (k1 c) (k2 c),o1 c))  (hdep:Dep (λc=>A (b1 c) (b2 c) (k1 c) (k2 c) (c es.length)) ms)
  (k:DM P N g0 T0 ks B l env res pr (i+1) (λc=>(d,A (b1 c) (b2 c) (k1 c) (k2 c) (c es.length)) :: E c) (Rl++ [λc=>out' c (c es.length)]) (es++ [i]) rds (ms :: ml) os):DM P N g0 T0 ks B l env res pr i E Rl es rds ml (⟨some d,.call ⟨.value (.func f),xs.toArray,ats⟩,ty,pos,aft,none⟩ :: os):=by
 simp only [Prod.mk.injEq] at hpk hou;refine DM.eff (e:=e) (out:=λc=>o1 c (c es.length)) ms us hp hok hR hk (λc=>?_) (λc=>?_) hRu hdep k
 .simp only [upd_same,(hou _ _).1,(hou _ _).2];exact OpR.perm (hm c).mem (hm c).dis (OpR.call sp.c (aR.keys (out':=o1 c) (sp.h hq _ _ _ _) (hm c).snd (ho c).app.2) (hpk c).1 (h c))
 .rw [(hpk c).2];exact (ho c).app.1 _
end
theorem WN.finG{g0:G}{B:Exit->Act->World->Prop}(h:WN P N g0 T0 [] B env res):WN P N g0 T0 [] B env res:=h
def popN(id:Nat):List KF->Option (Nat×List KF)
 | []=>none
 | .block i :: ks=>match Nat.beq id i with
  | true=>some (0,ks)
  | false=>popN id ks
 | .seq _ :: ks=>popN id ks
 | .loop _ :: ks=>match popN id ks with
  | some (n,l)=>some (n+1,l)
  | none=>none
theorem Br{id:Nat}:∀ {ks ks':List KF} {n:Nat},popN id ks=some (n,ks')->popTo id ks=some ks'
 | [],_,_,h=>by cases h
 | .block i :: ks,ks',n,h=>by
  unfold popN at h;unfold popTo;cases hb:Nat.beq id i with
  | true=>rw [hb] at h;cases h;rfl
  | false=>rw [hb] at h;exact Br (ks:=ks) h
 | .seq _ :: ks,ks',n,h=>Br (ks:=ks) h
 | .loop _ :: ks,ks',n,h=>by
  unfold popN at h;cases hb:popN id ks with
  | none=>rw [hb] at h;cases h
  | some p=>obtain ⟨m,l⟩:=p;rw [hb] at h;cases h;exact Br (ks:=ks) hb
inductive RkV {α:Type} (t:Ty α) (k:Tok) (xs:List α) (b:Nat):Rs->Nat->Nat->Bool->TypeId->Prop
 | here {key n:Nat} {agg:Bool} {T:TypeId} {r:Rs}:RkV t k xs b ((key,Bx n agg T (tO t k xs) b) :: r) key n agg T
 | there {x:Nat×Res} {key n:Nat} {agg:Bool} {T:TypeId} {r:Rs} (h:RkV t k xs b r key n agg T):RkV t k xs b (x :: r) key n agg T
theorem W.bxL{g0:G}{B:Exit->Act->World->Prop}{t:Ty α}{k:Tok}{b n:Nat}{agg:Bool}(hk:RkV t k xs b res key n agg T)(hr:findR key res=some (Bx n agg T (tO t k xs) b))(h:W P N g0 T0 (.loop c) ks B env ((key,Bx n agg T ((tL t).is xs) b) :: res.drop [key])):W P N g0 T0 (.loop c) ks B env res:=W.boxV key hr (λ_ _=>uL) h
theorem WN.bxL{g0:G}{B:Exit->Act->World->Prop}{f:Act->World->Prop}{t:Ty α}{k:Tok}{b n:Nat}{agg:Bool}(hk:RkV t k xs b res key n agg T)(hr:findR key res=some (Bx n agg T (tO t k xs) b))(h:WN P N g0 T0 (.loop f :: ks) B env ((key,Bx n agg T ((tL t).is xs) b) :: res.drop [key])):WN P N g0 T0 (.loop f :: ks) B env res:=WN.boxV key hr (λ_ _=>uL) h
theorem W.exN{g0:G}{ks':List KF}{B:Exit->Act->World->Prop}{id:Nat}(n:Nat)(hp:popN id ks=some (n,ks'))(h:WN P N g0 T0 ks' B env res):W P N g0 T0 (.exit id) ks B env res:=.exit (Br hp) h
class SpG (P:Program) (f:FuncId) (q:Prop) (As:outParam (List Asn)) (A:outParam Asn) (rin:outParam Rs):Prop where
 c:∀ vs w,(callFunc f vs).run P w= .ok (.enter f vs) w
 b:NoBlk rin
 h:q->aR P f As rin (λ_:Unit=>A) (λ_=>[])
theorem SpG.of{fn:Func}{q:Prop}{As:List Asn}{rin:Rs}(hc:∀ vs w,(callFunc f vs).run P w= .ok (.enter f vs) w)(hf:P.funcs[f]? =some fn)(hb:fn.body=some c)(hA:Nat.ble As.length fn.ntmps=true)
  (h:∀ g0,q->W P fn.ntmps g0 rin.blks c [] (Bo P fn g0 rin (λ_:Unit=>A) (λ_=>[])) (envFrom 0 As) rin) (b:NoBlk rin:=by repeat' first | exact trivial | refine ⟨rfl,?_⟩):SpG P f q As A rin:=
 ⟨hc,b,λhq=>aR.of hf hb rfl hA λg0=>h g0 hq⟩
theorem Op1.callGI{rin:Rs}{d:Option Tmp}{pos:String}{xs:List Operand}{q:Prop}{As:List Asn}(hq:q)(s:SpG P f q As A rin)(hr:RSub rin res)(h:Opds env xs As):Op1 P ⟨d,.call ⟨.value (.func f),xs.toArray,ats⟩,ty,pos,aft,gd⟩ env res A:=
 .callG s.c (s.h hq) s.b hr h
theorem Op1.callCloGI{rin:Rs}{d:Option Tmp}{pos:String}{xs:List Operand}{q:Prop}{Bs:List Asn}(hx:Opd env x (cloA f Cs))(hq:q)(s:SpG P f q Bs A rin)(hB:Bs=Bs.take xs.length++Cs)(hr:RSub rin res)(h:Opds env xs (Bs.take xs.length)):Op1 P ⟨d,.call ⟨.value x,xs.toArray,ats⟩,ty,pos,aft,gd⟩ env res A:=
 .callCloG (As:=Bs.take xs.length) s.c hx (by rw [<-hB];exact s.h hq) s.b hr h
theorem SpC.of{fn:Func}{q:Prop}{As:List Asn}(hc:∀ vs w,(callFunc f vs).run P w= .ok (.enter f vs) w)(hf:P.funcs[f]? =some fn)(hb:fn.body=some c)(hA:Nat.ble As.length fn.ntmps=true)
  (h:∀ g0,q->W P fn.ntmps g0 (Rs.blks []) c [] (Bo P fn g0 [] (λ_:Unit=>A) (λ_=>[])) (envFrom 0 As) []):SpC P f q As A:=
 ⟨hc,λhq=>FSpec.of hf hb rfl hA λg0=>h g0 hq⟩
class KC (P:Program) (k:TypeId) (α:outParam Type) (i:outParam (DecidableEq α)) (tk:outParam (Ty α)):Type where
 h:KeyT P k tk
section
variable {P:Program} {env:Env} {res:Rs} {d:Option Tmp} {ty:TypeId} {pos:String} {aft:Array Edge} {gd:Option (Nat×Bool)} {T k e:TypeId} {x y:Operand} {α β:Type} {tk:Ty α} {tv:Ty β} {m:List (α×β)} {z:β} {u:α} {i:DecidableEq α}
theorem Op1.ixA{α:Type}{t:Ty α}{e T:TypeId}{n:Nat}{xs:List α}{k:IntKind}{i:Int}{u:α}(h:Dec.idx xs i=some u)(hx:Opd env x ((tA n t).is xs))(hy:Opd env y ((tI k).is i))(iT:UC P T (.array n e))(ik:YC P e α t):Op1 P ⟨d,.index T x y,ty,pos,aft,gd⟩ env res (t.is u):=.indexA h iT.h ik.h hx hy
theorem Op1.idxAI{α:Type}{t:Ty α}{e T:TypeId}{n:Nat}{xs:List α}{k:IntKind}{i:Int}{u:α}(h:Dec.idx xs i=some u)(hx:Opd env x ((tA n t).ptr xs))(hy:Opd env y ((tI k).is i))(iT:UC P T (.array n e))(iy:YC P e α t):Op1 P ⟨d,.indexAddr T x y,ty,pos,aft,gd⟩ env res (t.ptr u):=.idxA h iT.h iy.h.size hx hy
theorem Op1.ixBI{e T:TypeId}{n b sz:Nat}{k:IntKind}{i:Int}{u:Unit}(h:rngC n i=some u)(hx:Opd env x (Bp b 0))(hy:Opd env y ((tI k).is i))(iT:UC P T (.array n e))(iz:ZC P e sz):Op1 P ⟨d,.indexAddr T x y,ty,pos,aft,gd⟩ env res (Bp b (i.toNat*sz)):=.indexAddrB iT.h iz.h hx hy (Ki h)
theorem Op1.VW(hx:Opd env x ((tQ tk tv).is m))(hy:Opd env y (tk.is u))(iT:UC P T (.map k e))(ik:KC P k α i tk)(iz:ZeC P e β tv z):Op1 P ⟨d,.lookup T x y true,ty,pos,aft,gd⟩ env res (Asn.tuple2 (tv.is (mget m u z)) (tB.is (mhas m u))):=.I5 iT.h ik.h iz.h hx hy
end
section
variable {P:Program} {N:Nat} {g0:G} {T0:Nat->Prop} {env:Env} {res:Rs} {ops:Array Oper} {Q:Exit->Act->World->Prop} {rest:List Oper} {j dj:Nat} {b:Bool} {oj:Oper} {d:Nat} {op:Op} {ty:TypeId} {pos:String} {aft:Array Edge}
theorem WL.passT(h:(ops[j]?,oj.dst,look dj env,Nat.blt dj N,Nat.blt d N)=(some oj,some dj,some (tB.is b),true,true))(hb:b=false)(k:WL P N g0 T0 ops Q rest ((d,Un) :: env) res):WL P N g0 T0 ops Q (⟨some d,op,ty,pos,aft,some (j,true)⟩ :: rest) env res:=.passA h hb k
theorem WL.passF(h:(ops[j]?,oj.dst,look dj env,Nat.blt dj N,Nat.blt d N)=(some oj,some dj,some (tB.is b),true,true))(hb:b=true)(k:WL P N g0 T0 ops Q rest ((d,Un) :: env) res):WL P N g0 T0 ops Q (⟨some d,op,ty,pos,aft,some (j,false)⟩ :: rest) env res:=.passA h hb k
end
section
variable {P:Program} {N:Nat} {g0:G} {T0:Nat->Prop} {ks:List KF} {B:Exit->Act->World->Prop} {env:Env} {res pr:Rs} {l:List Oper} {i:Nat} {E:Val->Env} {Rl:List (Val->Rs)} {es:List Nat} {rds:List (Nat×(Val->Rs))} {ml:List (List Nat)} {os:List Oper} {d:Nat} {op:Op} {ty:TypeId} {pos:String} {aft:Array Edge} {j dj:Nat} {b:Bool} {oj:Oper}
theorem DM.passT(hp:((preOf ⟨some d,op,ty,pos,aft,some (j,true)⟩).all λj=>Nat.blt j i)=true)(hl:∀ c,(l[j]?,oj.dst,look dj (E c))=(some oj,some dj,some (tB.is b)))(hb:b=false)(hw:(waits ⟨some d,op,ty,pos,aft,some (j,true)⟩ j && okTA ⟨some d,op,ty,pos,aft,some (j,true)⟩ [dj] i 0 l)=true)
  (k:DM P N g0 T0 ks B l env res pr (i+1) (λc=>(d,Un) :: E c) Rl es rds ([] :: ml) os):DM P N g0 T0 ks B l env res pr i E Rl es rds ml (⟨some d,op,ty,pos,aft,some (j,true)⟩ :: os):=.pass hp hl hb hw k
theorem DM.passF(hp:((preOf ⟨some d,op,ty,pos,aft,some (j,false)⟩).all λj=>Nat.blt j i)=true)(hl:∀ c,(l[j]?,oj.dst,look dj (E c))=(some oj,some dj,some (tB.is b)))(hb:b=true)(hw:(waits ⟨some d,op,ty,pos,aft,some (j,false)⟩ j && okTA ⟨some d,op,ty,pos,aft,some (j,false)⟩ [dj] i 0 l)=true)
  (k:DM P N g0 T0 ks B l env res pr (i+1) (λc=>(d,Un) :: E c) Rl es rds ([] :: ml) os):DM P N g0 T0 ks B l env res pr i E Rl es rds ml (⟨some d,op,ty,pos,aft,some (j,false)⟩ :: os):=.pass hp hl hb hw k
end
inductive RkM (b:Nat) {α β:Type} (tk:Ty α) (tv:Ty β):Rs->Nat->List (α×β)->Rs->Prop
 | here {k:Nat} {m:List (α×β)} {r:Rs}:RkM b tk tv ((k,Mq tk tv m b) :: r) k m r
 | there {x:Nat×Res} {k:Nat} {m:List (α×β)} {r r':Rs} (h:RkM b tk tv r k m r'):RkM b tk tv (x :: r) k m (x :: r')
section
variable {P:Program} {N:Nat} {g0:G} {T0:Nat->Prop} {env:Env} {res r':Rs} {ops:Array Oper} {Q:Exit->Act->World->Prop} {rest:List Oper} {d:Nat} {ty T k e:TypeId} {pos:String} {aft:Array Edge} {gd:Option (Nat×Bool)} {x y w:Operand} {α β:Type} {tk:Ty α} {tv:Ty β} {i:DecidableEq α} {m:List (α×β)} {u:α} {v z:β} {b key:Nat}
theorem WL.mkM(iT:UC P T (.map k e))(ik:KC P k α i tk)(iz:YC P e β tv)(hd:Nat.blt d N=true)(h:∀ b,WL P N g0 T0 ops Q rest ((d,Mv b) :: env) ((d,Mq tk tv [] b) :: res)):WL P N g0 T0 ops Q (⟨some d,.makeMap T none,ty,pos,aft,none⟩ :: rest) env res:=
 WL.opR hd (OpR.makeMapQ tk tv d) (λq=>by rw [drop0];exact h q)
theorem WL.muM(iT:UC P T (.map k e))(ik:KC P k α i tk)(iz:YC P e β tv)(hx:Opd env x (Mv b))(hk:RkM b tk tv res key m r')(hy:Opd env y (tk.is u))(hw:Opd env w (tv.is v))(hr:(res.pick [key],res.drop [key])=([(key,Mq tk tv m b)],r'))(h:WL P N g0 T0 ops Q rest env ((key,Mq tk tv (mset m u v) b) :: r')):WL P N g0 T0 ops Q (⟨none,.mapUpdate T x y w,ty,pos,aft,none⟩ :: rest) env res:=by
 simp only [Prod.mk.injEq] at hr;exact WL.opU (OpR.mapUpdateQ key iT.h ik.h hr.1 hx hy hw) (λ_=>by rw [hr.2];exact h)
theorem WL.inM(iT:UC P T (.map k e))(ik:KC P k α i tk)(iz:YC P e β tv)(hx:Opd env x (Mv b))(hk:RkM b tk tv res key m r')(hy:Opd env y (tk.is u))(hw:Opd env w (tv.is v))(hr:(res.pick [key],res.drop [key])=([(key,Mq tk tv m b)],r'))(h:WL P N g0 T0 ops Q rest env ((key,Mq tk tv (mset m u v) b) :: r')):WL P N g0 T0 ops Q (⟨none,.insert T x y w,ty,pos,aft,none⟩ :: rest) env res:=by
 simp only [Prod.mk.injEq] at hr;exact WL.opU (OpR.insertQ key iT.h ik.h hr.1 hx hy hw) (λ_=>by rw [hr.2];exact h)
theorem Op1.lkM(iT:UC P T (.map k e))(ik:KC P k α i tk)(iz:ZeC P e β tv z)(hx:Opd env x (Mv b))(hy:Opd env y (tk.is u))(hk:RkM b tk tv res key m r')(hr:findR key res=some (Mq tk tv m b)):Op1 P ⟨dd,.lookup T x y false,ty,pos,aft,gd⟩ env res (tv.is (mget m u z)):=.QX key iT.h ik.h iz.h hr hx hy
theorem Op1.lnM{n:Int}{q:Unit}(hv:growC n=some q)(iT:UC P T (.map k e))(ik:KC P k α i tk)(iz:YC P e β tv)(hx:Opd env x (Mv b))(hk:RkM b tk tv res key m r')(hr:findR key res=some (Mq tk tv m b))(hn:n=(m.length:Int)):Op1 P ⟨dd,.call ⟨.builtin .len,#[x],#[T]⟩,ty,pos,aft,gd⟩ env res ((tI .i64).is (m.length:Int)):=.VV key iT.h hr hx (LA (by rw [<-hn];exact hv))
end
theorem Opd.cloFW{t0:Nat}[Inhabited α]{X:Tok->Ty α}{tp:Ty α}{t:Ty β}{E:TypeId}{sz k1 k2:Nat}{sl:α->List β}{fm:α->Option α}{As:α->α->Nat->Nat->Tok->Tok->List Asn}{rin:α->α->Nat->Nat->Tok->Tok->Rs}{A:α->α->Nat->Nat->Tok->Tok->Unit->Asn}{out:α->α->Nat->Nat->Tok->Tok->Unit->Rs}
  (h:look t0 env=some (cloA f Cs)) (i:∀ u u',SpR P f (fm u=some u') (As u u') (rin u u') Unit (A u u') (out u u')) (hA:∀ u u' b k,(As u u' b 0 k none,A u u' b 0 k none)=(Bp b 0 :: Cs,λ_=>Asn.eq (.tuple #[])))
  (hr:∀ u u' b k,(rin u u' b 0 k none,out u u' b 0 k none)=([(k1,Bx sz true T ((X k).is u) b),(k2,OwnU t E k (sl u))],λ_=>[(k1,Bx sz true T (tp.is u') b)])):Opd env (.tmp t0) (tFW P X tp t T E sz sl fm):=λa g he=>by
 obtain ⟨caps,hv,hcs⟩:=he t0 _ h;refine ⟨f,caps,Cs,hv,(i default default).c,hcs,λu u' k b hq=>?_⟩;have h1:=(i u u').h hq b 0 k none;have h2:=hA u u' b k;have h3:=hr u u' b k;simp only [Prod.mk.injEq] at h2 h3;rw [h2.1,h2.2,h3.1,h3.2] at h1;exact h1.keys (rin':=[(0,Bx sz true T ((X k).is u) b),(1,OwnU t E k (sl u))]) (out':=λ_=>[(0,Bx sz true T (tp.is u') b)]) rfl (λ_=>rfl)
theorem W.VC{g0:G}{B:Exit->Act->World->Prop}{rin rk:Rs}(hm:MatchR rin res rk r')(h:W P N g0 T0 c ks B env rin):W P N g0 T0 c ks B env res:=by
 refine W.chg (res':=rk++r') (env':=env) (λa g hst=>⟨hst.sz,hst.dfr,hst.henv,λy hy=>hst.hres y ((hm.mem y).1 hy),hm.dis hst.dis,λb ⟨y,hy,hb⟩=>hst.own b ⟨y,(hm.mem y).1 hy,hb⟩,hst.ext⟩) ?_;refine W.chg (res':=rk) (env':=env) (λa g hst=>⟨hst.sz,hst.dfr,hst.henv,λy hy=>hst.hres y (List.mem_append_left _ hy),(List.pairwise_append.1 hst.dis).1,λb ⟨y,hy,hb⟩=>hst.own b ⟨y,List.mem_append_left _ hy,hb⟩,hst.ext⟩) ?_;exact W.rekey hm.snd.symm h
section
variable {P:Program} {N:Nat} {g0:G} {ks:List KF} {env:Env} {res rin rk r':Rs} {fn:Func} {ρ:Type} {A:ρ->Asn} {out:ρ->Rs}
theorem W.ret1M{t:Tmp}(x:ρ)(hr:fn.results= #[.tmp t])(h:Opd env (.tmp t) (A x))(hm:∃ rk r',MatchR (out x) res rk r')(hs:RSub (out x) (out x)):W P N g0 rin.blks .ret ks (Bo P fn g0 rin A out) env res:=by
 obtain ⟨rk,r',hm⟩:=hm;exact W.VC hm (W.ret1 x hr h hs)
end
class FnM (f:FuncId) {φ:Type} (y:outParam φ):Type where
 u:Unit:=()
class ZvC (P:Program) (T:TypeId) (v:outParam Value):Type where
 h:∀ w,(zeroValue T).run P w= .ok v w
section
variable {P:Program} {env:Env} {f:FuncId} {φ σ:Type} {ok:φ->σ->Prop} {As:σ->List Asn} {A:σ->Asn} {y:φ}
theorem Opd.fnM(h:FnM f y)(n:Inhabited σ)(i:∀ s,SpC P f (ok y s) (As s) (A s)):Opd env (.func f) ((Dec.tFun P ok As A).is y):=.tFun (Opd.fnS i)
theorem Opd.fnMG{rin rin':Rs}{hb:NoBlk rin}(hs:look 800000 env=some (gR rin hb))(h:FnM f y)(n:Inhabited σ)(i:∀ s,SpG P f (ok y s) (As s) (A s) rin')(hr:RSub rin' rin):Opd env (.func f) ((Dec.tFun P ok As A).is y):=.tFun λa g he=>
 ⟨f,#[],#[],rfl,(i default).c,λs hq=>by
  have:=Does.ofG (P:=P) (cap:=[]) (g:=g) (Cs:=[]) (by simpa using (i s).h hq) (i default).b (λx hx=>he 800000 _ hs x (hr.mem x hx)) trivial;simpa using this⟩
theorem Opd.fnD(h:FnM f y)(hn:∀ s,¬ ok y s):Opd env (.func f) ((Dec.tFun P ok As A).is y):=λa g he=>⟨[_],⟨_,rfl,.inr ⟨rfl,hn⟩⟩,rfl⟩
theorem Opd.b{B:Asn}(h:Opd env x B:=by first
 | exact Opd.a
 | exact Opd.fnM inferInstance inferInstance (λs=>inferInstance)
 | exact Opd.fnMT rfl inferInstance inferInstance (λs=>inferInstance)
 | exact Opd.fnD inferInstance (λs h=>by cases h)
 | ((refine Opd.fnMG rfl inferInstance inferInstance (λs=>inferInstance) ?_);(· repeat' first | exact trivial | refine ⟨rfl,rfl,?_⟩))):Opd env x B:=h
end
section
variable {P:Program} {N:Nat} {g0:G} {T0:Nat->Prop} {ks:List KF} {B:Exit->Act->World->Prop} {env:Env} {res r':Rs} {ops:Array Oper} {Q:Exit->Act->World->Prop} {rest:List Oper} {d:Nat} {ty T T' E:TypeId} {pos:String} {aft:Array Edge} {x y:Operand} {α β:Type} {c:Code} {S:List Nat}
theorem W.aG(h:∀ hb:NoBlk res,W P N g0 T0 c ks B ((800000,Dec.gR res hb) :: env) res)(hb:NoBlk res:=by repeat' first | exact trivial | refine ⟨rfl,?_⟩):W P N g0 T0 c ks B env res:=
 λa g hst=>h hb a g ⟨hst.sz,hst.dfr,λs' A hA=>by
  by_cases hk:800000=s'
  .subst hk;rw [dh] at hA;cases hA;exactλy hy=>hst.hres y hy
  .rw [bL _ _ hk] at hA;exact hst.henv s' A hA,hst.hres,hst.dis,hst.own,hst.ext⟩
theorem WL.alO{t:Ty α}(hS:SL S)(hm:memB (2000000+d) S=true)(iz:ZvC P T (.slice none 0 0))(iT:UC P T (.slice E))(iy:YC P E α t)(hd:Nat.blt d N=true)(k:∀ b,WL P N g0 T0 ops Q rest ((d,Bp b 0) :: env) ((d,Bx 1 false T (tO t none []) b) :: (1000000+d,Own t E none 0) :: res)):WL P N g0 T0 ops Q (⟨some d,.alloc T,ty,pos,aft,none⟩ :: rest) env res:=
 WL.addNil (t:=t) (E:=E) (1000000+d) (WL.opR hd (OpR.allocO (t:=t) d iz.h) (λq=>by rw [drop0];exact k q))
end
theorem W.retS{g0:G}{rin:Rs}{fn:Func}{A:ρ->Asn}{out:ρ->Rs}{tk:Ty α}{tv:Ty β}{m:List (α×β)}{b:Nat}{t:Tmp}(x:ρ)(hr:fn.results= #[.tmp t])(hx:look t env=some (Mv b))(hA:A x=(tQ tk tv).is m)(hk:RkM b tk tv res key m r')(hf:findR key res=some (Mq tk tv m b))(hs:RSub (out x) ((key,Gq tk tv m b) :: res.drop [key])):W P N g0 rin.blks .ret ks (Bo P fn g0 rin A out) env res:=by
 refine W.sealQ key hf ?_;refine W.slotG ((tQ tk tv).is m) t hx (mapQ (key:=key) ?_) ?_
 .unfold findR;rw [Nat.beq_refl]
 .exact W.ret1 x hr (.tmp (by rw [dh,hA])) hs
section
variable {P:Program} {N:Nat} {g0:G} {T0:Nat->Prop} {ks:List KF} {B:Exit->Act->World->Prop} {env:Env} {res:Rs} {ops:Array Oper} {Q:Exit->Act->World->Prop} {l:List Oper} {c:Code}
theorem WL.g(h:WL P N g0 T0 ops Q l env res):WL P N g0 T0 ops Q l env res:=h
theorem W.g(h:W P N g0 T0 c ks B env res):W P N g0 T0 c ks B env res:=h
theorem WN.g(h:WN P N g0 T0 ks B env res):WN P N g0 T0 ks B env res:=h
theorem WL.kC{d:Option Nat}{c:Call}{pos:String}(h:WL P N g0 T0 ops Q (⟨d,.call c,ty,pos,aft,none⟩ :: rest) env res):WL P N g0 T0 ops Q (⟨d,.call c,ty,pos,aft,none⟩ :: rest) env res:=h
variable {pr:Rs} {i:Nat} {E:Val->Env} {Rl:List (Val->Rs)} {es:List Nat} {rds:List (Nat×(Val->Rs))} {ml:List (List Nat)} {os:List Oper}
theorem DM.g(h:DM P N g0 T0 ks B l env res pr i E Rl es rds ml os):DM P N g0 T0 ks B l env res pr i E Rl es rds ml os:=h
theorem DM.kC{d:Option Nat}{c:Call}{pos:String}(h:DM P N g0 T0 ks B l env res pr i E Rl es rds ml (⟨d,.call c,ty,pos,aft,none⟩ :: os)):DM P N g0 T0 ks B l env res pr i E Rl es rds ml (⟨d,.call c,ty,pos,aft,none⟩ :: os):=h
end
theorem BsR{o:Option α}{f:α->Option β}{b:β}(h:Option.bind o f=some b):∃ a,o=some a/\f a=some b:=bind_some h
theorem SiR{a b:α}(h:some a=some b):a=b:=Option.some.inj h
section
variable {P:Program} {N:Nat} {g0:G} {T0:Nat->Prop} {ks:List KF} {B:Exit->Act->World->Prop} {env:Env} {res:Rs}
theorem WL.addGd{pos:String}(h:WL P N g0 T0 ops Q (⟨some d,.binOp .add T x y T',ty,pos,aft,none⟩ :: rest) env res):WL P N g0 T0 ops Q (⟨some d,.binOp .add T x y T',ty,pos,aft,none⟩ :: rest) env res:=h
theorem WL.addGr{pos:String}{gd:Nat×Bool}(h:WL P N g0 T0 ops Q (⟨some d,.binOp .add T x y T',ty,pos,aft,some gd⟩ :: rest) env res):WL P N g0 T0 ops Q (⟨some d,.binOp .add T x y T',ty,pos,aft,some gd⟩ :: rest) env res:=h
theorem WL.nilA{E:TypeId}{t:Ty α}{pos:String}[UC P ty (.slice E)][YC P E α t](hd:Nat.blt d N=true)
  (k:WL P N g0 T0 ops Q rest ((d,tO t none []) :: env) ((d,Own t E none 0) :: res)):WL P N g0 T0 ops Q (⟨some d,.assign (.const (.slice none 0 0)),ty,pos,aft,none⟩ :: rest) env res:=WL.addNil (t:=t) (E:=E) d (WL.op hd (Op1.assign Opd.nilO) k)
theorem W.lpG(h:W P N g0 T0 (.loop c) ks B env res):W P N g0 T0 (.loop c) ks B env res:=h
end
theorem zaS(h:p:=by with_reducible_and_instances assumption):p:=h
theorem zOs(h:p:=by first | ((repeat' (first | exact trivial | refine ⟨Opd.a,?_⟩ | refine ⟨Opd.fnS (λs=>inferInstance),?_⟩ | refine ⟨Opd.cloFn,?_⟩ | refine ⟨Opd.cloE (.tmp rfl),?_⟩ | refine ⟨Opd.fnT rfl (λs=>inferInstance),?_⟩ | refine ⟨Opd.cloS rfl (λs=>inferInstance) (λ_=>rfl),?_⟩ | refine ⟨Opd.cloFW rfl (λ_ _=>inferInstance) (λ_ _ _ _=>rfl) (λ_ _ _ _=>rfl),?_⟩ | refine ⟨Opd.tFun (Opd.fnS (λs=>inferInstance)),?_⟩ | refine ⟨Opd.tFun (Opd.fnT rfl (λs=>inferInstance)),?_⟩ | refine ⟨Opd.tFun (Opd.cloS rfl (λs=>inferInstance) (λ_=>rfl)),?_⟩));done) | fail):p:=h
theorem zKf(h:p:=by first | ((repeat' first | exact KpF.nil | (apply KpF.cons;exactλc=>rfl));done) | fail):p:=h
theorem zRr(h:p:=by first | ((repeat' first | exact trivial | refine ⟨rfl,rfl,?_⟩);done) | fail):p:=h
theorem zSq(h:p:=by first | ((repeat' first | exact trivial | refine ⟨.q rfl,?_⟩ | refine ⟨.o rfl,?_⟩);done) | fail):p:=h
theorem zKB(h:p:=by first | ((repeat' first | with_reducible exact RkB.here | with_reducible apply RkB.there);done) | fail):p:=h
theorem zKO(h:p:=by first | ((repeat' first | with_reducible exact RkO.here | with_reducible apply RkO.there);done) | fail):p:=h
theorem zKM(h:p:=by first | ((repeat' first | with_reducible exact RkM.here | with_reducible apply RkM.there);done) | fail):p:=h
theorem zKG(h:p:=by first | ((repeat' first | with_reducible exact RkG.here | with_reducible apply RkG.there);done) | fail):p:=h
theorem zMr(h:p:=by first | ((repeat' first | exact MatchR.nil | (apply MatchR.cons;(· repeat' first | exact TakeR.here | apply TakeR.there)));done) | fail):p:=h
theorem zRn(h:p:=by first | ((repeat' first | exact RenF.nil | (apply RenF.cons;(· repeat' first | exact KeyM.here | apply KeyM.there | exact KeyM.nil)));done) | fail):p:=h
section
variable {P:Program} {env:Env} {res:Rs} {o:Oper} {A:Asn}
theorem Oy(h:Op1 P o env res A:=by
 first
 | ((with_reducible apply Op1.QZ);first | exact .tLn (.tmp rfl) | exact .own (.tmp rfl))
 | ((with_reducible apply Op1.assign);exact Opd.func)
 | ((with_reducible apply Op1.move);exact Opd.func)
 | ((with_reducible apply Op1.bsI);exact rfl;(· repeat' first | exact PartsQ.nil | (apply PartsQ.cons;exact rfl;exact Opd.b));exact rfl;decide)
 | ((with_reducible apply Op1.mkCloI);repeat' first | exact OpdsI.nil | (apply OpdsI.cons;exact .tmp rfl))
 | ((with_reducible apply Op1.UI);exact inferInstance;exact zKG;exact rfl)
 | ((with_reducible apply Op1.eqBI);exact Opd.a;exact Opd.a)
 | ((with_reducible apply Op1.neBI);exact Opd.a;exact Opd.a)
 | ((with_reducible apply Op1.eqStI);exact .tmp rfl;exact .tmp rfl;first | (exact inferInstance;exact inferInstance) | exact inferInstance)
 | ((with_reducible apply Op1.neStI);exact .tmp rfl;exact .tmp rfl;first | (exact inferInstance;exact inferInstance) | exact inferInstance)
 | ((with_reducible apply Op1.buildI);(· repeat' first | exact BuildQ.nil | (apply BuildQ.cons;exact rfl;exact inferInstance;exact inferInstance;exact Opd.b)))
 | ((with_reducible apply Op1.lkM);exact inferInstance;exact inferInstance;exact inferInstance;exact .tmp rfl;exact Opd.a;exact zKM;exact rfl)
 | ((with_reducible apply Op1.VW);exact .tmp rfl;exact Opd.a;(repeat' exact inferInstance))
 | ((with_reducible apply Op1.maxI);exact Opd.a;exact Opd.a)
 | ((with_reducible apply Op1.andI);exact Opd.a;exact Opd.a)
 | ((with_reducible apply Op1.UJ);exact .tmp rfl;exact zKB;exact rfl;exact rfl;exact rfl)
 | ((with_reducible apply Op1.fAB0);exact .tmp rfl;exact rfl;exact inferInstance)
 | ((with_reducible apply Op1.UK);exact .tmp rfl;exact zKB;exact inferInstance;exact inferInstance;exact rfl;exact rfl)
 | ((with_reducible apply Op1.nilCheckB);exact .tmp rfl)
 | ((with_reducible apply Op1.nilCheck);exact .tmp rfl)
 | ((with_reducible apply Op1.assign);exact Opd.const)):Op1 P o env res A:=h
theorem Oo(h:Op1 P o env res A:=by
 first
 | ((with_reducible apply Op1.idxGI);exact Opd.a;exact hv;exact inferInstance;exact inferInstance;exact zKG;exact rfl)
 | ((with_reducible apply Op1.idxI);exact Opd.a;exact Opd.a;exact hv)
 | ((with_reducible apply Op1.ixA hv);exact .tmp rfl;exact Opd.a;exact inferInstance;exact inferInstance)
 | ((with_reducible apply Op1.idxAI hv);exact .tmp rfl;exact Opd.a;exact inferInstance;exact inferInstance)
 | ((with_reducible apply Op1.ixBI hv);exact .tmp rfl;exact Opd.a;exact inferInstance;exact inferInstance)
 | ((with_reducible apply Op1.addCI hv);exact Opd.a;exact Opd.a)
 | ((with_reducible apply Op1.shlI hv);exact Opd.a;exact Opd.a)
 | ((with_reducible apply Op1.shrI hv);exact Opd.a;exact Opd.a)
 | ((with_reducible apply Op1.subCI hv);exact Opd.a;exact Opd.a)
 | ((with_reducible apply Op1.sidxI hv);exact Opd.a;exact Opd.a)
 | ((with_reducible apply Op1.catCI hv);exact Opd.a;exact Opd.a)
 | ((with_reducible apply Op1.sslcLoI hv);exact Opd.a;exact Opd.a)
 | ((with_reducible apply Op1.sslcHiI hv);exact Opd.a;exact Opd.a)
 | ((with_reducible apply Op1.slcI hv);exact Opd.a;exact Opd.a;exact Opd.a)
 | ((with_reducible apply Op1.slcLoI hv);exact Opd.a;exact Opd.a)
 | ((with_reducible apply Op1.slcHiI hv);exact Opd.a;exact Opd.a)):Op1 P o env res A:=h
theorem Oc(h:Op1 P o env res A:=by
 first
 | ((with_reducible apply Op1.callI hv);exact inferInstance;exact zOs)
 | ((with_reducible apply Op1.callGI hv);exact inferInstance;exact zRr;exact zOs)
 | ((with_reducible apply Op1.callCloGI);exact .tmp rfl;exact hv;exact inferInstance;exact rfl;exact zRr;exact zOs)
 | ((with_reducible apply Op1.callFun (_,_));exact .tmp rfl;exact hv;exact zOs)
 | ((with_reducible apply Op1.callFun v);exact .tmp rfl;exact hv;exact zOs)
 | ((with_reducible apply Op1.callFun (_,_,_));exact .tmp rfl;exact hv;exact zOs)
 | ((with_reducible apply Op1.callFun (_,_,_,_));exact .tmp rfl;exact hv;exact zOs)
 | ((with_reducible apply Op1.callF (_,_));exact .tmp rfl;exact hv;exact zOs)
 | ((with_reducible apply Op1.callF (_,_,_));exact .tmp rfl;exact hv;exact zOs)
 | ((with_reducible apply Op1.lnM hv);exact inferInstance;exact inferInstance;exact inferInstance;exact .tmp rfl;exact zKM;exact rfl;exact rfl)):Op1 P o env res A:=h
end
def WS(S:List Nat)(p:Prop):Prop:=p
theorem FxS{S:List Nat}{q:Prop}(hq:q)(h:SL S->q->goal:=by
 intro hS hm
 repeat' (first
  | ((with_reducible apply WL.kC);(first | ((with_reducible apply WL.op);exact rfl;(first | ((with_reducible apply Op1.QZ);first | exact .tmp rfl | exact .tLn (.tmp rfl) | exact .own (.tmp rfl)) | ((with_reducible apply Op1.NZ);exact .tmp rfl) | ((with_reducible apply Op1.maxI);exact Opd.a;exact Opd.a))) | ((with_reducible replace hm:=BsR hm);(obtain ⟨v,hv,hm⟩:=hm);first | ((with_reducible apply WL.cR hv);exact inferInstance;exact zOs;exact zMr;exact zRn;exact rfl;exact rfl;(repeat' first | exact (none:Tok) | exact (0:Nat) | exact ());intro k) | ((with_reducible apply WL.cRC);exact .tmp rfl;exact hv;exact inferInstance;exact rfl;exact zOs;exact zMr;exact zRn;exact rfl;exact rfl;(repeat' first | exact (none:Tok) | exact (0:Nat) | exact ());intro k)) | ((with_reducible replace hm:=BsR hm);(obtain ⟨v,hv,hm⟩:=hm);(with_reducible apply WL.apA);exact .tmp rfl;exact zKO;exact Opd.a;exact hv;exact rfl;exact rfl;intro k) | (with_reducible replace hm:=iT hm) | (with_reducible replace hm:=iF hm) | with_reducible exact (bZ hm).elim | with_reducible exact (nZ hm).elim | with_reducible replace hm:=bI hm | with_reducible replace hm:=bB hm | ((with_reducible replace hm:=bS hm);try dsimp only at hm) | ((with_reducible replace hm:=BsR hm);(obtain ⟨v,hv,hm⟩:=hm);((with_reducible apply WL.op);exact rfl);exact Oc)))
  | ((with_reducible apply WL.g);(first | ((with_reducible apply WL.addGd);(first | (with_reducible replace hm:=iT hm) | (with_reducible replace hm:=iF hm) | with_reducible exact (bZ hm).elim | with_reducible exact (nZ hm).elim | with_reducible replace hm:=bI hm | with_reducible replace hm:=bB hm | ((with_reducible replace hm:=bS hm);try dsimp only at hm))) | ((with_reducible apply WL.mv);exact rfl;exact rfl) | ((with_reducible apply WL.gv);exact rfl;exact rfl) | ((with_reducible apply WL.ltF);exact Opd.a;exact Opd.a;exact rfl;intro hn) | ((with_reducible apply WL.op);exact rfl;exact Oz) | ((with_reducible apply WL.passT);exact rfl;(first | exact zaS | with_reducible exact rfl)) | ((with_reducible apply WL.passF);exact rfl;(first | exact zaS | with_reducible exact rfl)) | ((with_reducible apply WL.pass2A);exact rfl) | ((with_reducible apply WL.runA);exact rfl;(first | exact zaS | with_reducible exact rfl);exact Oz) | with_reducible apply WL.apC | with_reducible apply WL.apN | with_reducible apply WL.nil | ((with_reducible apply WL.addGd);first | ((with_reducible replace hm:=BsR hm);(obtain ⟨v,hv,hm⟩:=hm);(with_reducible apply WL.op);exact rfl;first | ((with_reducible apply Op1.addCI hv);exact Opd.a;exact Opd.a) | ((with_reducible apply Op1.shlI hv);exact Opd.a;exact Opd.a) | ((with_reducible apply Op1.shrI hv);exact Opd.a;exact Opd.a) | ((with_reducible apply Op1.catCI hv);exact Opd.a;exact Opd.a)) | ((with_reducible apply WL.op);exact rfl;first | ((with_reducible apply Op1.addR);exact .tmp rfl;exact zaS;exact zaS;exact zaS;exact Opd.a) | ((with_reducible apply Op1.addF);exact .tmp rfl;exact zaS;exact zaS;exact Opd.a))) | ((with_reducible apply WL.nilA);exact rfl) | ((with_reducible apply WL.bxA hS);exact rfl;exact .tmp rfl;exact rfl;intro b) | ((with_reducible apply WL.alO hS);exact rfl;exact inferInstance;exact inferInstance;exact inferInstance;exact rfl;intro b) | ((with_reducible apply WL.alA);exact rfl;intro b) | ((with_reducible apply WL.mkM);exact inferInstance;exact inferInstance;exact inferInstance;exact rfl;intro b) | ((with_reducible apply WL.muM);exact inferInstance;exact inferInstance;exact inferInstance;exact .tmp rfl;exact zKM;exact Opd.a;exact Opd.b;exact rfl) | ((with_reducible apply WL.inM);exact inferInstance;exact inferInstance;exact inferInstance;exact .tmp rfl;exact zKM;exact Opd.a;exact Opd.b;exact rfl) | ((with_reducible apply WL.stY);exact .tmp rfl;exact zKB;exact inferInstance;exact Opd.b;exact inferInstance;exact rfl;exact rfl;exact rfl;exact rfl;try ((with_reducible apply WL.slA hS);exact rfl;exact rfl;exact rfl;exact rfl;rotate_left;exact rfl)) | ((with_reducible apply WL.stA);exact .tmp rfl;exact zKB;exact Opd.a;(first | exact bg.is _ _ | exact bg.o _ _ _ | exact bg.clo _ _);exact rfl;exact rfl;try ((with_reducible apply WL.slA hS);exact rfl;exact rfl;exact rfl;exact rfl;rotate_left;exact rfl)) | ((with_reducible apply WL.stF);exact .tmp rfl;exact zKB;exact inferInstance;exact inferInstance;exact Opd.a;exact rfl;decide;exact rfl) | ((with_reducible apply WL.stR);exact .tmp rfl;exact zKB;exact inferInstance;exact zaS;exact Opd.a;exact rfl;exact rfl) | ((with_reducible apply WL.bsA);(· repeat' first | exact PartsQ.nil | (apply PartsQ.cons;exact rfl;exact Opd.b));exact rfl;decide;exact rfl;intro k) | ((with_reducible apply WL.op);exact rfl;exact Oy) | ((with_reducible apply WL.runA);exact rfl;(first | exact zaS | with_reducible exact rfl);exact Oy) | ((with_reducible apply WL.addGr);first | ((with_reducible replace hm:=BsR hm);(obtain ⟨v,hv,hm⟩:=hm);(with_reducible apply WL.runA);exact rfl;(first | exact zaS | exact rfl);first | ((with_reducible apply Op1.addCI hv);exact Opd.a;exact Opd.a) | ((with_reducible apply Op1.shlI hv);exact Opd.a;exact Opd.a) | ((with_reducible apply Op1.shrI hv);exact Opd.a;exact Opd.a) | ((with_reducible apply Op1.catCI hv);exact Opd.a;exact Opd.a)) | ((with_reducible apply WL.runA);exact rfl;(first | exact zaS | with_reducible exact rfl);first | ((with_reducible apply Op1.addR);exact .tmp rfl;exact zaS;exact zaS;exact zaS;exact Opd.a) | ((with_reducible apply Op1.addF);exact .tmp rfl;exact zaS;exact zaS;exact Opd.a))) | ((with_reducible apply WL.op);exact rfl;first | ((with_reducible apply Op1.box);exact .tmp rfl) | ((with_reducible apply Op1.idxR);exact Opd.a;exact .tmp rfl;exact zaS;exact zaS)) | (with_reducible replace hm:=iT hm) | (with_reducible replace hm:=iF hm) | with_reducible exact (bZ hm).elim | with_reducible exact (nZ hm).elim | with_reducible replace hm:=bI hm | with_reducible replace hm:=bB hm | ((with_reducible replace hm:=bS hm);try dsimp only at hm) | ((with_reducible replace hm:=BsR hm);(obtain ⟨v,hv,hm⟩:=hm);first | (((with_reducible apply WL.op);exact rfl);exact Oo) | (((with_reducible apply WL.runA);exact rfl;(first | exact zaS | with_reducible exact rfl));first | exact Oo | exact Oc))))
  | ((with_reducible apply W.g);(first | (with_reducible replace hm:=iT hm) | (with_reducible replace hm:=iF hm) | with_reducible apply W.seq | with_reducible apply W.region | with_reducible apply W.skip | with_reducible apply W.block | ((with_reducible apply W.lpG);(first | (with_reducible obtain ⟨s1,hs,hk⟩:=BsR hm) | (with_reducible obtain ⟨s1,hs,hk⟩:=BtR hm));clear hm;first
   | ((with_reducible apply W.lpC hs);(· repeat' first | exact Kp.nil | (apply Kp.cons;exact rfl));(· repeat' first | exact KpR.nil | (apply KpR.cons;exact rfl));exact zSq;exact zRr;(repeat' first | exact (none:Tok) | exact (0:Nat) | exact ());(intro n s k1 k2 k3 hm);(try dsimp only at hm))
   | ((with_reducible apply W.rgC hs);(· first | exact trivial | exact rfl);(· exact Ent.q rfl);(· repeat' first | exact Kp.nil | (apply Kp.cons;exact rfl));(· repeat' first | exact KpR.nil | (apply KpR.cons;exact rfl));exact zSq;exact zRr;(repeat' first | exact (none:Tok) | exact (0:Nat) | exact ());(intro pre rest s k1 k2 k3 j hp hj hm hu))) | ((with_reducible apply W.rgH);exact zaS;(· exact hm);exact zaS;exact zaS;exact .tmp rfl;(repeat' exact ());intro y ys hz hp hz2;clear hm;subst hz;(have hm:=hz2);clear hz2;(try dsimp only at hm);rotate_left;intro hz hz2;clear hm;subst hz;(have hm:=hz2);clear hz2;(try dsimp only at hm);rotate_left) | ((with_reducible apply W.bxL);(· repeat' first | with_reducible exact RkV.here | with_reducible apply RkV.there);exact rfl) | ((with_reducible apply W.cD hm);exact .tmp rfl;all_goals (clear hm;intro hp hm)) | ((with_reducible apply W.cB hm);exact .tmp rfl;all_goals (clear hm;intro hp hm)) | ((with_reducible apply W.cR hm);exact .tmp rfl;all_goals (clear hm;intro hp hm)) | ((with_reducible apply W.cN hm);exact .tmp rfl;all_goals (clear hm;intro hp hm)) | ((with_reducible apply W.condY);exact .tmp rfl;(first | exact zaS | exact rfl)) | ((with_reducible apply W.condZ);exact .tmp rfl;(first | exact zaS | exact rfl)) | ((with_reducible apply W.gR);(repeat ((have hj:=hk);clear hk;(obtain rfl:=SiR hm);clear hm;(have hm:=hj);clear hj;try dsimp only at hm));cases hm;first | exact W.e1 | ((refine W.ret1 () rfl Opd.a ?_);exact zRr) | ((apply W.ret1);exact rfl;exact Opd.a;exact zRr) | ((refine W.ret2 () rfl rfl Opd.a Opd.a ?_);exact zRr) | ((apply W.ret2);exact rfl;exact rfl;exact Opd.a;exact Opd.a;exact zRr) | ((refine W.retQ1 () rfl ResAt.a ?_);exact zRr) | ((apply W.retQ1);exact rfl;exact ResAt.a;exact zRr) | ((refine W.retQ2 () rfl rfl ResAt.a ResAt.a ?_);exact zRr) | ((apply W.retQ2);exact rfl;exact rfl;exact ResAt.a;exact ResAt.a;exact zRr) | ((refine W.retQ3 () rfl rfl ResAt.a ResAt.a ResAt.a ?_);exact zRr) | ((apply W.retQ3);exact rfl;exact rfl;exact ResAt.a;exact ResAt.a;exact ResAt.a;exact zRr) | ((refine W.ret1 () rfl (Opd.tFun (Opd.cloS rfl (λs=>inferInstance) (λ_=>rfl))) ?_);exact zRr) | ((apply W.retS ();exact rfl;exact rfl;exact rfl;exact zKM;exact rfl);exact zRr) | ((refine W.ret1M _ rfl Opd.a ?_ ?_);(· apply Exists.intro;apply Exists.intro;repeat' first | exact MatchR.nil | (apply MatchR.cons;(· repeat' first | exact TakeR.here | apply TakeR.there)));exact zRr)) | ((with_reducible apply W.exN 0);exact rfl) | ((with_reducible apply W.exN 1);exact rfl;(have hj:=hk);clear hk;(obtain rfl:=SiR hm);clear hm;(have hm:=hj);clear hj;(try dsimp only at hm)) | ((with_reducible apply W.exN 2);exact rfl;(have hj:=hk);clear hk;(obtain rfl:=SiR hm);clear hm;(have hm:=hj);clear hj;(try dsimp only at hm);(have hj:=hk);clear hk;(obtain rfl:=SiR hm);clear hm;(have hm:=hj);clear hj;(try dsimp only at hm)) | ((with_reducible apply W.drawE);exact rfl;exact rfl) | ((with_reducible apply W.drawN);exact rfl;(· repeat' first | exact PrR.nil | (apply PrR.take;exact rfl) | apply PrR.skip)) | (with_reducible replace hm:=iT hm) | (with_reducible replace hm:=iF hm) | with_reducible exact (bZ hm).elim | with_reducible exact (nZ hm).elim | with_reducible replace hm:=bI hm | with_reducible replace hm:=bB hm | ((with_reducible replace hm:=bS hm);try dsimp only at hm)))
  | ((with_reducible apply WN.g);(first | (with_reducible replace hm:=iT hm) | (with_reducible replace hm:=iF hm) | with_reducible apply WN.seq | with_reducible apply WN.block | ((with_reducible apply WN.finG);(repeat ((have hj:=hk);clear hk;(obtain rfl:=SiR hm);clear hm;(have hm:=hj);clear hj;try dsimp only at hm));cases hm;first | ((refine WN.fin () rfl (λ_=>rfl) ?_);exact zRr) | ((apply WN.fin);exact rfl;exactλ_=>rfl;exact zRr)) | ((with_reducible apply WN.agC hm);exact Nat.lt_succ_self _;exact zSq;exact zRr) | ((with_reducible apply WN.agR hm);(· first | exact trivial | exact rfl);exact zaS;exact zaS;exact zSq;exact zRr) | ((with_reducible apply WN.bxL);(· repeat' first | with_reducible exact RkV.here | with_reducible apply RkV.there);exact rfl) | (with_reducible replace hm:=iT hm) | (with_reducible replace hm:=iF hm) | with_reducible exact (bZ hm).elim | with_reducible exact (nZ hm).elim | with_reducible replace hm:=bI hm | with_reducible replace hm:=bB hm | ((with_reducible replace hm:=bS hm);try dsimp only at hm)))
  | ((with_reducible apply DM.kC);(first | ((with_reducible apply DM.one);exact rfl;exact rfl;exact zKf;intro c;(first | ((with_reducible apply Op1.QZ);first | exact .tmp rfl | exact .tLn (.tmp rfl) | exact .own (.tmp rfl)) | ((with_reducible apply Op1.NZ);exact .tmp rfl) | ((with_reducible apply Op1.maxI);exact Opd.a;exact Opd.a))) | ((with_reducible replace hm:=BsR hm);(obtain ⟨v,hv,hm⟩:=hm);first | ((with_reducible apply DM.lnM hv);exact rfl;exact rfl;exact rfl;exact zKf;(intro c;exact .tmp rfl);exact inferInstance;exact inferInstance;exact inferInstance;(intro c;exact zKM);exact rfl) | ((with_reducible apply DM.ap);exact rfl;exact rfl;exact rfl;exact zKf;(intro c;exact .tmp rfl);(intro c;exact zKO);(intro c;exact Opd.a);exact hv;exactλ_=>rfl;exactλ_ _=>rfl) | ((with_reducible apply DM.cT hv);exact inferInstance;exact rfl;exact rfl;exact rfl;exact zKf;(intro c;exact zOs);(intro c;exact zMr);(intro c;exact zRn);(· intro c;repeat' first | exact KL.nil | apply KL.cons);exactλ_=>rfl;exactλ_ _=>rfl;exactλ_ _=>rfl;(repeat' first | exact (λ_=>(none:Tok)) | exact (λ_=>(0:Nat))))) | (with_reducible replace hm:=iT hm) | (with_reducible replace hm:=iF hm) | with_reducible exact (bZ hm).elim | with_reducible exact (nZ hm).elim | with_reducible replace hm:=bI hm | with_reducible replace hm:=bB hm | ((with_reducible replace hm:=bS hm);try dsimp only at hm) | ((with_reducible replace hm:=BsR hm);(obtain ⟨v,hv,hm⟩:=hm);((with_reducible apply DM.one);exact rfl;exact rfl;exact zKf;intro c);exact Oc)))
  | ((with_reducible apply DM.g);(first | ((with_reducible apply DM.passT);exact rfl;exactλ_=>rfl;(first | exact zaS | exact rfl);exact rfl) | ((with_reducible apply DM.passF);exact rfl;exactλ_=>rfl;(first | exact zaS | exact rfl);exact rfl) | ((with_reducible apply DM.pass2);exact rfl;exactλ_=>rfl;exact rfl) | ((with_reducible apply DM.one);exact rfl;exact rfl;exact zKf;intro c;first | exact Oz | exact Oy) | ((with_reducible apply DM.run);exact rfl;exactλ_=>rfl;(first | exact zaS | exact rfl);exact rfl;exact rfl;exact zKf;intro c;first | exact Oz | exact Oy) | ((with_reducible apply DM.ldB);exact rfl;exact rfl;exact rfl;exact zKf;(intro c;exact .tmp rfl);(intro c;exact zKB);exact inferInstance;exact rfl;exact rfl) | ((with_reducible apply DM.ldF);exact rfl;exact rfl;exact rfl;exact zKf;(intro c;exact .tmp rfl);(intro c;exact zKB);exact inferInstance;exact inferInstance;exact rfl;exact rfl;exact rfl) | ((with_reducible apply DM.al);exact rfl;exact rfl;exactλ_ _=>rfl) | ((with_reducible apply DM.st);exact rfl;exact rfl;exact rfl;exact zKf;(intro c;exact .tmp rfl);(intro c;exact zKB);(intro c;exact Opd.a);(intro c;first | exact bg.is _ _ | exact bg.o _ _ _ | exact bg.clo _ _);exact rfl;exactλ_=>rfl;exactλ_ _=>rfl;exactλ_ _=>rfl) | ((with_reducible apply DM.stF);exact rfl;exact rfl;exact rfl;exact zKf;(intro c;exact .tmp rfl);(intro c;exact zKB);exact inferInstance;exact inferInstance;(intro c;exact Opd.a);exact rfl;decide;exactλ_=>rfl;exactλ_ _=>rfl;exactλ_ _=>rfl) | ((with_reducible apply DM.bs);exact rfl;exact rfl;exact rfl;exact zKf;(· intro c;repeat' first | exact PartsQ.nil | (apply PartsQ.cons;exact rfl;exact Opd.b));exact rfl;decide;exactλ_ _=>rfl) | ((with_reducible apply DM.nil);exact rfl;exact rfl;exact rfl;exact rfl;exact rfl;exact rfl;(· repeat' first | exact trivial | refine ⟨λc=>(by repeat' first | exact trivial | refine ⟨rfl,rfl,?_⟩),?_⟩);(· repeat' first | exact trivial | refine ⟨.inl rfl,?_⟩ | refine ⟨.inr (λc=>(by repeat' first | exact trivial | refine ⟨rfl,rfl,?_⟩)),?_⟩ | apply And.intro);intro c) | (with_reducible replace hm:=iT hm) | (with_reducible replace hm:=iF hm) | with_reducible exact (bZ hm).elim | with_reducible exact (nZ hm).elim | with_reducible replace hm:=bI hm | with_reducible replace hm:=bB hm | ((with_reducible replace hm:=bS hm);try dsimp only at hm) | ((with_reducible replace hm:=BsR hm);(obtain ⟨v,hv,hm⟩:=hm);first | (((with_reducible apply DM.one);exact rfl;exact rfl;exact zKf;intro c);exact Oo) | (((with_reducible apply DM.run);exact rfl;exactλ_=>rfl;(first | assumption | exact rfl);exact rfl;exact rfl;exact zKf;intro c);first | exact Oo | exact Oc))))
  | ((with_reducible apply Dep.n);exactλ_ _=>rfl)
  | ((with_reducible apply Dep.m [0]);intro c c' h;(try simp only [List.nil_append,List.cons_append,List.length_cons,List.length_nil,Nat.zero_add,Nat.reduceAdd]);simp only [h 0 rfl])
  | ((with_reducible apply Dep.m [1]);intro c c' h;(try simp only [List.nil_append,List.cons_append,List.length_cons,List.length_nil,Nat.zero_add,Nat.reduceAdd]);simp only [h 1 rfl])
  | ((with_reducible apply Dep.m [2]);intro c c' h;(try simp only [List.nil_append,List.cons_append,List.length_cons,List.length_nil,Nat.zero_add,Nat.reduceAdd]);simp only [h 2 rfl])
  | ((with_reducible apply Dep.m [3]);intro c c' h;(try simp only [List.nil_append,List.cons_append,List.length_cons,List.length_nil,Nat.zero_add,Nat.reduceAdd]);simp only [h 3 rfl])
  | ((with_reducible apply Dep.m [4]);intro c c' h;(try simp only [List.nil_append,List.cons_append,List.length_cons,List.length_nil,Nat.zero_add,Nat.reduceAdd]);simp only [h 4 rfl])
  | (with_reducible replace hm:=iT hm)
  | (with_reducible replace hm:=iF hm)
  | with_reducible exact (bZ hm).elim
  | with_reducible exact (nZ hm).elim
  | with_reducible replace hm:=bI hm
  | with_reducible replace hm:=bB hm
  | ((with_reducible replace hm:=bS hm);try dsimp only at hm)
  | ((with_reducible refine ifPk hm ?_ ?_);(· first | exact zaS | decide);clear hm;intro hb hm)
  | ((with_reducible refine ifNk hm ?_ ?_);(· first | exact zaS | (apply bF;exact zaS) | (apply bN;exact zaS) | decide);clear hm;intro hb hm)
  | ((with_reducible have hz:=iteR hm);clear hm;rcases hz with ⟨hp,hb,hm⟩ | ⟨hp,hb,hm⟩)
  | ((with_reducible have hz:=iteB hm);clear hm;rcases hz with ⟨hp,hb,hm⟩ | ⟨hp,hb,hm⟩)
  | ((with_reducible have hz:=iteD hm);clear hm;rcases hz with ⟨hp,hb,hm⟩ | ⟨hp,hb,hm⟩)
  | exact (none:Tok)
  | exact (0:Nat)
  | exact ()
  | fail)):WS S goal:=h ⟨trivial⟩ hq
theorem Fx{q:Prop}(hq:q)(S:List Nat:=[])(h:WS S goal:=by exact FxS hm):goal:=h
section
variable {P:Program} {f:FuncId} {fn:Func} {c:Code} {τ ρ:Type} {e0 e1:Option τ} {r:τ} {As:List Asn} {A:Asn} {rin:Rs}
theorem SpC.fx(hc:∀ vs w,(callFunc f vs).run P w= .ok (.enter f vs) w)(hf:P.funcs[f]? =some fn)(he:e0=e1)(S:List Nat:=[])(hb:fn.body=some c:=by exact rfl)(hA:Nat.ble As.length fn.ntmps=true:=by exact rfl)
  (h:∀ g0,e1=some r->WS S (W P fn.ntmps g0 (Rs.blks []) c [] (Bo P fn g0 [] (λ_:Unit=>A) (λ_=>[])) (envFrom 0 As) []):=by
   intro g0 hm;exact FxS hm):SpC P f (e0=some r) As A:=.of hc hf hb hA λg0 hm=>h g0 (he▸hm)
theorem SpG.fx(hc:∀ vs w,(callFunc f vs).run P w= .ok (.enter f vs) w)(hf:P.funcs[f]? =some fn)(he:e0=e1)(S:List Nat:=[])(hb:fn.body=some c:=by exact rfl)(hA:Nat.ble As.length fn.ntmps=true:=by exact rfl)
  (h:∀ g0,e1=some r->WS S (W P fn.ntmps g0 rin.blks c [] (Bo P fn g0 rin (λ_:Unit=>A) (λ_=>[])) (envFrom 0 As) rin):=by
   intro g0 hm;exact FxS hm) (b:NoBlk rin:=by repeat' first | exact trivial | refine ⟨rfl,?_⟩):SpG P f (e0=some r) As A rin:=.of hc hf hb hA (λg0 hm=>h g0 (he▸hm)) b
theorem SpR.fx{As:Nat->Nat->Tok->Tok->List Asn}{rin:Nat->Nat->Tok->Tok->Rs}{A:Nat->Nat->Tok->Tok->ρ->Asn}{out:Nat->Nat->Tok->Tok->ρ->Rs}(hc:∀ vs w,(callFunc f vs).run P w= .ok (.enter f vs) w)(hf:P.funcs[f]? =some fn)(he:e0=e1)(S:List Nat:=[])(hb:fn.body=some c:=by exact rfl)(hA:∀ b1 b2 k1 k2,Nat.ble (As b1 b2 k1 k2).length fn.ntmps=true:=by exactλ_ _ _ _=>rfl)
  (h:∀ b1 b2 k1 k2 g0,e1=some r->WS S (W P fn.ntmps g0 (rin b1 b2 k1 k2).blks c [] (Bo P fn g0 (rin b1 b2 k1 k2) (A b1 b2 k1 k2) (out b1 b2 k1 k2)) (envFrom 0 (As b1 b2 k1 k2)) (rin b1 b2 k1 k2)):=by
   intro b1 b2 k1 k2 g0 hm;exact FxS hm):SpR P f (e0=some r) As rin ρ A out:=.of hc hf hb hA λb1 b2 k1 k2 g0 hm=>h b1 b2 k1 k2 g0 (he▸hm)
end
end Go.Dec
