/-
  The rules of operations, told of the models' own operations.
-/
import Derived.Test.YtalogjkalmkpjaaGreatDoorDec6
import Derived.Test.YtalogjkalmkpjaaGreatDoorMod
import Derived.Laws.BitsLemmas
set_option linter.unusedVariables false
set_option linter.unusedSimpArgs false
namespace Go.Dec
open Go
theorem fits64_iff{n:Int}:fits64 n=true ↔ inR .i64 n:=by rw [inR64];simp [fits64]
section
variable {P:Program} {N:Nat} {g0:G} {T0:Nat→Prop} {ks:List KF} {B:Exit→Act→World→Prop} {env:Env} {res:Rs} {d:Option Tmp} {ty:TypeId} {pos:String} {aft:Array Edge} {gd:Option (Nat×Bool)}
section
variable {x y:Operand} {m n z:Int} {T T':TypeId}
theorem Op1.addC(h:Dec.addC m n=some z)(hx:Opd env x ((tI .i64).is m))(hy:Opd env y ((tI .i64).is n)):Op1 P ⟨d,.binOp .add T x y T',ty,pos,aft,gd⟩ env res ((tI .i64).is z):=by
 unfold Dec.addC at h;split at h
 ·cases h;exact Op1.addI hx hy (fits64_iff.1 (by assumption))
 ·cases h
theorem Op1.addI1{l:Nat}(hx:Opd env x ((tI .i64).is m))(hy:Opd env y ((tI .i64).is 1))(hp:m<(l:Int))(hl:l≤lim):Op1 P ⟨d,.binOp .add T x y T',ty,pos,aft,gd⟩ env res ((tI .i64).is (m+1)):=by
 intro a g K Q hc hK
 have h1:=inR64.1 (hx.atInt hc).2
 exact Op1.addI (P:=P) hx hy (inR64.2 (by unfold lim at hl;omega)) a g K Q hc hK
theorem range_inR{α:Type}{pre xs:List α}{i:Int}(hi:i=(pre.length:Int))(hp:i<(xs.length:Int))(hl:xs.length≤lim):inR .i64 (i+1):=inR64.2 (by unfold lim at hl;omega)
theorem Op1.subC(h:Dec.subC m n=some z)(hx:Opd env x ((tI .i64).is m))(hy:Opd env y ((tI .i64).is n)):Op1 P ⟨d,.binOp .sub T x y T',ty,pos,aft,gd⟩ env res ((tI .i64).is z):=by
 unfold Dec.subC at h;split at h
 ·cases h;exact Op1.subI hx hy (fits64_iff.1 (by assumption))
 ·cases h
theorem Op1.mulC(h:Dec.mulC m n=some z)(hx:Opd env x ((tI .i64).is m))(hy:Opd env y ((tI .i64).is n)):Op1 P ⟨d,.binOp .mul T x y T',ty,pos,aft,gd⟩ env res ((tI .i64).is z):=by
 unfold Dec.mulC at h;split at h
 ·cases h;exact Op1.mulI hx hy (fits64_iff.1 (by assumption))
 ·cases h
theorem Op1.quoC(h:Dec.quoC m n=some z)(hx:Opd env x ((tI .i64).is m))(hy:Opd env y ((tI .i64).is n)):Op1 P ⟨d,.binOp .quo T x y T',ty,pos,aft,gd⟩ env res ((tI .i64).is z):=by
 unfold Dec.quoC at h;split at h
 ·rename_i hh;cases h;exact Op1.quoI hx hy hh.1 (fits64_iff.1 hh.2)
 ·cases h
end
section
variable {x y z:Operand} {l m r:Str} {i j:Int} {k k':IntKind} {T T':TypeId}
theorem Op1.catC(h:Dec.catC l m=some r)(hx:Opd env x (tS.is l))(hy:Opd env y (tS.is m)):Op1 P ⟨d,.binOp .add T x y T',ty,pos,aft,gd⟩ env res (tS.is r):=by
 unfold Dec.catC at h;split at h
 ·cases h;exact Op1.cat hx hy (by unfold lim;assumption)
 ·cases h
theorem Op1.sidx{b:UInt8}(h:idx l i=some b)(hT:P.underlying T=some .string)(hx:Opd env x (tS.is l))(hy:Opd env y ((tI k).is i)):Op1 P ⟨d,.index T x y,ty,pos,aft,gd⟩ env res ((tI .u8).is (b.toNat:Int)):=by
 unfold idx at h;split at h
 ·exact Op1.indexS hT hx hy (by assumption) h
 ·cases h
theorem Op1.sslc(h:slc l i j=some r)(hT:P.underlying T=some .string)(hx:Opd env x (tS.is l))(hy:Opd env y ((tI k).is i))(hz:Opd env z ((tI k').is j)):Op1 P ⟨d,.slice T x (some y) (some z) none,ty,pos,aft,gd⟩ env res (tS.is r):=by
 unfold slc at h;split at h
 ·rename_i hh;cases h;exact Op1.sliceS hT hx hy hz hh.1 hh.2.1 hh.2.2
 ·cases h
theorem Op1.sslcLo(h:slcLo l i=some r)(hT:P.underlying T=some .string)(hx:Opd env x (tS.is l))(hy:Opd env y ((tI k).is i)):Op1 P ⟨d,.slice T x (some y) none none,ty,pos,aft,gd⟩ env res (tS.is r):=by
 unfold slcLo at h;split at h
 ·rename_i hh;cases h;exact Op1.sliceSlo hT hx hy hh.1 hh.2
 ·cases h
theorem Op1.sslcHi(h:slcHi l j=some r)(hT:P.underlying T=some .string)(hx:Opd env x (tS.is l))(hy:Opd env y ((tI k).is j)):Op1 P ⟨d,.slice T x none (some y) none,ty,pos,aft,gd⟩ env res (tS.is r):=by
 unfold slcHi at h;split at h
 ·rename_i hh;cases h;exact Op1.sliceShi hT hx hy hh.1 hh.2
 ·cases h
end
section
variable {α:Type} {t:Ty α} {x y z:Operand} {l r:List α} {i j:Int} {k k':IntKind} {T e:TypeId}
theorem Op1.slc(h:Dec.slc l i j=some r)(hT:P.underlying T=some (.slice e))(hsz:∀ w,(sizeOf e).run P w= .ok t.size w)(hx:Opd env x ((tL t).is l))(hy:Opd env y ((tI k).is i))(hz:Opd env z ((tI k').is j)) :
  Op1 P ⟨d,.slice T x (some y) (some z) none,ty,pos,aft,gd⟩ env res ((tL t).is r):=by
 unfold Dec.slc at h;split at h
 ·rename_i hh;cases h;exact Op1.sliceL hT hsz hx hy hz hh.1 hh.2.1 hh.2.2
 ·cases h
theorem Op1.slcLo(h:Dec.slcLo l i=some r)(hT:P.underlying T=some (.slice e))(hsz:∀ w,(sizeOf e).run P w= .ok t.size w)(hx:Opd env x ((tL t).is l))(hy:Opd env y ((tI k).is i)) :
  Op1 P ⟨d,.slice T x (some y) none none,ty,pos,aft,gd⟩ env res ((tL t).is r):=by
 unfold Dec.slcLo at h;split at h
 ·rename_i hh;cases h;exact Op1.sliceLlo hT hsz hx hy hh.1 hh.2
 ·cases h
theorem Op1.slcHi(h:Dec.slcHi l j=some r)(hT:P.underlying T=some (.slice e))(hsz:∀ w,(sizeOf e).run P w= .ok t.size w)(hx:Opd env x ((tL t).is l))(hy:Opd env y ((tI k).is j)) :
  Op1 P ⟨d,.slice T x none (some y) none,ty,pos,aft,gd⟩ env res ((tL t).is r):=by
 unfold Dec.slcHi at h;split at h
 ·rename_i hh;cases h;exact Op1.sliceLhi hT hsz hx hy hh.1 hh.2
 ·cases h
theorem Op1.idx{u:α}(h:Dec.idx l i=some u)(hT:P.underlying T=some (.slice e))(hsz:∀ w,(sizeOf e).run P w= .ok t.size w)(hx:Opd env x ((tL t).is l))(hy:Opd env y ((tI k).is i)) :
  Op1 P ⟨d,.indexAddr T x y,ty,pos,aft,gd⟩ env res (t.ptr u):=by
 unfold Dec.idx at h;split at h
 ·exact Op1.indexAddr hT hsz hx hy (by assumption) h
 ·cases h
theorem Op1.idxPre{u:α}{pre rest:List α}(h:l=pre++u :: rest)(hi:i=pre.length)(hT:P.underlying T=some (.slice e))(hsz:∀ w,(sizeOf e).run P w= .ok t.size w)(hx:Opd env x ((tL t).is l))(hy:Opd env y ((tI k).is i)) :
  Op1 P ⟨d,.indexAddr T x y,ty,pos,aft,gd⟩ env res (t.ptr u):=by
 subst h hi
 exact Op1.indexAddr hT hsz hx hy (by omega) (by simp)
theorem OpR.appC{E:TypeId}{s:Operand}{tk:Tok}{m:List α}{key:Nat}(h:Dec.appC l m=some r)(hT:P.underlying T=some (.slice E))(hE:ElAt P E t)(hs:Opd env s (tO t tk l))(hx:Opd env x ((tL t).is m))
  (hr:res.pick [key]= [(key,Own t E tk l.length)]) :
  OpR P ⟨d,.call ⟨.builtin .append,#[s,x],#[T,T]⟩,ty,pos,aft,gd⟩ env res [key] (fun k':Tok=>tO t k' r) (fun k'=>[(key,Own t E k' r.length)]):=by
 unfold Dec.appC at h;split at h
 ·cases h;exact OpR.append hT hE hs hx hr (by unfold limA;assumption)
 ·cases h
end
theorem W.lenL{α:Type}{t:Ty α}{c:Code}{l:List α}{s:Nat}(h:Opd env (.tmp s) ((tL t).is l))(k:l.length≤lim→W P N g0 T0 c ks B env res):W P N g0 T0 c ks B env res:=by
 intro a g hst
 obtain ⟨_,_,_,_,h3,_⟩:=h.atL hst.cx
 exact k h3 a g hst
theorem W.lenS{c:Code}{l:Str}{s:Nat}(h:Opd env (.tmp s) (tS.is l))(k:l.length≤lim→W P N g0 T0 c ks B env res):W P N g0 T0 c ks B env res:=by
 intro a g hst
 exact k (h.atStr hst.cx).2 a g hst
theorem WL.lenL{ops:Array Oper}{Q:Exit→Act→World→Prop}{c:List Oper}{α:Type}{t:Ty α}{l:List α}{s:Nat}(h:Opd env (.tmp s) ((tL t).is l))(k:l.length≤lim→WL P N g0 T0 ops Q c env res):WL P N g0 T0 ops Q c env res:=by
 intro a g hst
 obtain ⟨_,_,_,_,h3,_⟩:=h.atL hst.cx
 exact k h3 a g hst
theorem WL.lenS{ops:Array Oper}{Q:Exit→Act→World→Prop}{c:List Oper}{l:Str}{s:Nat}(h:Opd env (.tmp s) (tS.is l))(k:l.length≤lim→WL P N g0 T0 ops Q c env res):WL P N g0 T0 ops Q c env res:=by
 intro a g hst
 exact k (h.atStr hst.cx).2 a g hst
theorem W.inR{c:Code}{n:Int}{kd:IntKind}{s:Nat}(h:Opd env (.tmp s) ((tI kd).is n))(k:inR kd n→W P N g0 T0 c ks B env res):W P N g0 T0 c ks B env res:=by
 intro a g hst
 exact k (h.atInt hst.cx).2 a g hst
theorem W.join{σ:Type}{c d:Code}(J:σ→Prop)(eJ:σ→Env)(rJ:σ→Rs)(rest:∀ s,J s→W P N g0 T0 d ks B (eJ s) (rJ s))
  (first:W P N g0 T0 c (.loop (fun a w=>∃ s g,J s∧g.w=w∧St N g0 T0 (eJ s) (rJ s) a g) :: ks) B env res):W P N g0 T0 (.seq c d) ks B env res:=by
 intro a g hst
 refine wp_seq (wp_mono (first a g hst) ?_)
 intro e a' w' hq
 cases e with
 | normal=>
  obtain ⟨s,g',h1,h2,h3⟩:=hq
  subst h2
  exact rest s h1 a' g' h3
 | exit id=>exact hq
 | goto l=>exact hq
 | ret=>exact hq
 | panic ch=>exact hq
 | outgrown=>exact hq
theorem WN.meet{σ:Type}{J:σ→Prop}{eJ:σ→Env}{rJ:σ→Rs}(s:σ)(hJ:J s)(hs:Sub (eJ s) env)(hr:RSub (rJ s) res) :
  WN P N g0 T0 (.loop (fun a w=>∃ s g,J s∧g.w=w∧St N g0 T0 (eJ s) (rJ s) a g) :: ks) B env res:=
 fun a g hst=>⟨s,g,hJ,rfl,hst.weaken hs hr⟩
theorem W.ret0{fn:Func}{rin:Rs}{ρ:Type}{A:ρ→Asn}{out:ρ→Rs}(x:ρ)(hr:fn.results= #[])(hA:∀ g,(A x).holds (.tuple #[]) g)(hs:RSub (out x) res) :
  W P N g0 rin.blks .ret ks (Bo P fn g0 rin A out) env res:=
 W.ret fun a g hst=>⟨hst.dfr,_,results_none hr _ _ _,x,_,g,rfl,rfl,hst.ext,hA g,fun y hy=>hst.hres y (hs.mem y hy),hs.dis hst.dis,fun b ⟨y,hy,hyb⟩=>(hst.own b ⟨y,hs.mem y hy,hyb⟩).symm⟩
theorem WN.fin{fn:Func}{rin:Rs}{ρ:Type}{A:ρ→Asn}{out:ρ→Rs}(x:ρ)(hr:fn.results= #[])(hA:∀ g,(A x).holds (.tuple #[]) g)(hs:RSub (out x) res) :
  WN P N g0 rin.blks [] (Bo P fn g0 rin A out) env res:=
 fun a g hst=>⟨hst.dfr,_,results_none hr _ _ _,x,_,g,rfl,rfl,hst.ext,hA g,fun y hy=>hst.hres y (hs.mem y hy),hs.dis hst.dis,fun b ⟨y,hy,hyb⟩=>(hst.own b ⟨y,hs.mem y hy,hyb⟩).symm⟩
end
end Go.Dec
