/-
  A slice in a variable of its own, grown in place: room first, then the element and the variable in either order.
-/
import Derived.Test.YtalogjkalmkpjaaGreatDoorDec17
set_option linter.unusedVariables false
set_option linter.unusedSimpArgs false
namespace Go.Dec
open Go
theorem appC_out{α:Type}{x y r:List α}(h:Dec.appC x y=some r):r=x++y∧x.length+y.length≤limA:=by
 unfold Dec.appC at h;split at h
 ·cases h;exact ⟨rfl,by unfold limA;assumption⟩
 ·cases h
def Grown{α:Type}(t:Ty α)(E:TypeId)(k:Tok)(xs:List α):Res where
 blk:=fun x=>k.map Prod.fst=some x
 holds:=fun g=>(Own t E k xs.length).holds g∧Row t g k.addr xs
 stay:=fun {T g g'} e hn h=>⟨(Own t E k xs.length).stay e hn h.1,h.2.mono e⟩
 lt:=fun {g b} h hb=>(Own t E k xs.length).lt h.1 hb
section
variable {P:Program} {N:Nat} {g0:G} {T0:Nat→Prop} {ks:List KF} {B:Exit→Act→World→Prop} {env:Env} {res:Rs} {d:Option Tmp} {ty:TypeId} {pos:String} {aft:Array Edge} {gd:Option (Nat×Bool)}
theorem St.boxV{n:Nat}{agg:Bool}{T:TypeId}{A A':Asn}{b key:Nat}(h1:findR key res=some (Bx n agg T A b))(hA:∀ v g,A.holds v g→A'.holds v g){a:Act}{g:G}(h:St N g0 T0 env res a g):St N g0 T0 env ((key,Bx n agg T A' b) :: res.drop [key]) a g:=by
 have m1:=findR_mem h1
 have hd:∀ y∈res.drop [key],y∈res∧y.1≠key:=fun y hy=>by
  have:=List.mem_filter.1 hy
  refine ⟨this.1,fun e=>?_⟩
  have h3:=this.2
  rw [memB_iff.2 (show y.1∈ [key] by rw [e];simp)] at h3;cases h3
 refine ⟨h.sz,h.dfr,h.henv,fun y hy=>?_,?_,fun b' ⟨y,hy,hb⟩=>?_,h.ext⟩
 ·rcases List.mem_cons.1 hy with rfl | hy
  ·obtain ⟨cs,q1,q2,q3,q4,q5,q6⟩:=h.hres _ m1
   exact ⟨cs,q1,q2,q3,q4,q5,hA _ _ q6⟩
  ·exact h.hres y (hd y hy).1
 ·refine List.pairwise_cons.2 ⟨fun y hy b' hb'=>?_,h.dis.filter _⟩
  exact h.dis.two _ m1 _ (hd y hy).1 (Ne.symm (hd y hy).2) b' hb'
 ·rcases List.mem_cons.1 hy with rfl | hy
  ·exact h.own b' ⟨_,m1,hb⟩
  ·exact h.own b' ⟨y,(hd y hy).1,hb⟩
theorem WN.boxV{n:Nat}{agg:Bool}{T:TypeId}{A A':Asn}{b:Nat}(key:Nat)(h1:findR key res=some (Bx n agg T A b))(hA:∀ v g,A.holds v g→A'.holds v g)(k:WN P N g0 T0 ks B env ((key,Bx n agg T A' b) :: res.drop [key])):WN P N g0 T0 ks B env res:=fun a g hst=>k a g (hst.boxV h1 hA)
theorem W.boxV{c:Code}{n:Nat}{agg:Bool}{T:TypeId}{A A':Asn}{b:Nat}(key:Nat)(h1:findR key res=some (Bx n agg T A b))(hA:∀ v g,A.holds v g→A'.holds v g)(k:W P N g0 T0 c ks B env ((key,Bx n agg T A' b) :: res.drop [key])):W P N g0 T0 c ks B env res:=fun a g hst=>k a g (hst.boxV h1 hA)
end
theorem ext_gen{T:Nat→Prop}{g:G}{w':World}(S':Nat→Nat)(hos:w'.os=g.w.os)(ht:w'.tape=g.w.tape)(ho:w'.output=g.w.output)(hsz:g.w.heap.size≤w'.heap.size)
  (hs:∀ x,x<g.w.heap.size→¬ T x→w'.heap[x]? =g.w.heap[x]? ∧S' x=g.S x) (hk:∀ x i v,T x→g.Has x i v→i<S' x∧w'.cell? ⟨x,i,none⟩=some v) (hr:∀ x n,T x→g.Full x n→(⟨w',S'⟩:G).Full x n):Ext T g ⟨w',S'⟩:=by
 refine ⟨hos,ht,ho,hsz,hs,fun x i v hv=>?_,fun x n hv=>?_⟩
 case refine_2=>
  by_cases hT:T x
  ·exact hr x n hT hv
  ·obtain ⟨h1,h2⟩:=hs x hv.lt hT
   exact hv.same h1 (Nat.le_of_eq h2.symm)
 by_cases hT:T x
 ·exact hk x i v hT hv
 ·obtain ⟨h1,h2⟩:=hs x hv.lt hT
  refine ⟨by show i<S' x;rw [h2];exact hv.1,?_⟩
  have:=hv.2
  show w'.cell? ⟨x,i,none⟩=some v
  simp only [World.cell?] at this ⊢
  rw [h1];exact this
theorem ext_of{T:Nat→Prop}{g:G}{w':World}(S':Nat→Nat)(hos:w'.os=g.w.os)(ht:w'.tape=g.w.tape)(ho:w'.output=g.w.output)(hsz:g.w.heap.size≤w'.heap.size)
  (hs:∀ x,x<g.w.heap.size→¬ T x→w'.heap[x]? =g.w.heap[x]? ∧S' x=g.S x) (hk:∀ x,T x→g.S x=0):Ext T g ⟨w',S'⟩:=
 ext_gen S' hos ht ho hsz hs (fun x i v hx hv=>by have:=hv.1;rw [hk x hx] at this;omega) (fun x n hx hv=>(hv.pos (hk x hx)).elim)
end Go.Dec
