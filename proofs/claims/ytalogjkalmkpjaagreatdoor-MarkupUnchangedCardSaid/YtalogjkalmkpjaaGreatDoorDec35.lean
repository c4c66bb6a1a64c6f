/-
  Many resources under one key; one of them may be taken out and put back. Facts as resources. Loose slices that are cut behind.
-/
import Derived.Test.YtalogjkalmkpjaaGreatDoorDec34
set_option linter.unusedVariables false
set_option linter.unusedSimpArgs false
namespace Go.Dec
open Go
section
variable {P:Program} {N:Nat} {g0:G} {T0:Nat→Prop} {env:Env} {res:Rs}
theorem St.toRes{res':Rs}{a:Act}{g:G}(h:St N g0 T0 env res a g)(ha:res'.all g)(hd:res'.dis)(hb:∀ b,res'.blks b→res.blks b):St N g0 T0 env res' a g:=
 ⟨h.sz,h.dfr,h.henv,ha,hd,fun b hx=>h.own b (hb b hx),h.ext⟩
theorem Rs.drop_mem{ks:List Nat}{y:Nat×Res}(h:y∈res.drop ks):y∈res∧y.1 ∉ ks:=by
 have:=List.mem_filter.1 h
 refine ⟨this.1,fun e=>?_⟩
 have h3:=this.2
 rw [memB_iff.2 e] at h3;cases h3
theorem St.turn{R R':Res}{key:Nat}(hr:findR key res=some R)(hh:∀ g,R.holds g→R'.holds g)(hb:∀ b,R'.blk b→R.blk b){a:Act}{g:G}(h:St N g0 T0 env res a g):St N g0 T0 env ((key,R') :: res.drop [key]) a g:=by
 have hin:=findR_mem hr
 have hd:∀ y∈res.drop [key],y∈res∧y.1≠key:=fun y hy=>by have:=Rs.drop_mem hy;exact ⟨this.1,by simpa using this.2⟩
 refine h.toRes (fun x hx=>?_) (List.pairwise_cons.2 ⟨fun y hy b hbb=>?_,h.dis.filter _⟩) (fun b ⟨x,hx,hbx⟩=>?_)
 ·rcases List.mem_cons.1 hx with rfl | hx
  ·exact hh g (h.hres _ hin)
  ·exact h.hres x (hd x hx).1
 ·exact h.dis.two _ hin y (hd y hy).1 (Ne.symm (hd y hy).2) b (hb b hbb)
 ·rcases List.mem_cons.1 hx with rfl | hx
  ·exact ⟨_,hin,hb b hbx⟩
  ·exact ⟨x,(hd x hx).1,hbx⟩
variable {c:Code} {ks:List KF} {B:Exit→Act→World→Prop} {ops:Array Oper} {Q:Exit→Act→World→Prop} {l:List Oper}
theorem W.chg{env':Env}{res':Rs}(hr:∀ a g,St N g0 T0 env res a g→St N g0 T0 env' res' a g)(h:W P N g0 T0 c ks B env' res'):W P N g0 T0 c ks B env res:=fun a g hst=>h a g (hr a g hst)
theorem WN.chg{env':Env}{res':Rs}(hr:∀ a g,St N g0 T0 env res a g→St N g0 T0 env' res' a g)(h:WN P N g0 T0 ks B env' res'):WN P N g0 T0 ks B env res:=fun a g hst=>h a g (hr a g hst)
theorem Row.mapT{α β:Type}{t:Ty β}{f:α→β}{g:G}{p:Option Addr}{xs:List α}(h:Row t g p (xs.map f)):Row (tMap t f) g p xs:=by
 cases p with
 | none=>exact List.map_eq_nil_iff.1 h
 | some a=>
  refine ⟨h.1.imp (fun e=>List.map_eq_nil_iff.1 e) id,fun i x hx=>?_⟩
  exact h.2 i (f x) (by rw [List.getElem?_map,hx];rfl)
theorem Own.le{α:Type}{s t:Ty α}(l:Le s t){E:TypeId}{k:Tok}{n:Nat}{g:G}(h:(Own s E k n).holds g):(Own t E k n).holds g:=by
 cases k with
 | none=>exact h
 | some p=>
  obtain ⟨cur,h1,h2,h3,h4,h5⟩:=h
  exact ⟨cur,h1,by rw [←l.size];exact h2,h3,h4,by rw [←l.size];exact h5⟩
theorem Le.o{α:Type}{s t:Ty α}(l:Le s t){k:Tok}{xs:List α}{v:Value}{g:G}(h:(tO s k xs).holds v g):(tO t k xs).holds v g:=⟨h.1,h.2.1,h.2.2.1,h.2.2.2.le l⟩
theorem Cells.le{α:Type}{s t:Ty α}(l:Le s t){g:G}{cs:List Value}{xs:List α}(h:Cells s g cs xs):Cells t g cs xs:=
 ⟨by rw [←l.size];exact h.1,h.2.1,fun i x hx=>by
  obtain ⟨ds,h1,h2⟩:=h.2.2 i x hx
  exact ⟨ds,l.rep _ _ _ h1,by rw [←l.size];exact h2⟩⟩
theorem OwnU.le{α:Type}{s t:Ty α}(l:Le s t){E:TypeId}{k:Tok}{xs:List α}{g:G}(h:(OwnU s E k xs).holds g):(OwnU t E k xs).holds g:=by
 cases k with
 | none=>exact h
 | some p=>
  obtain ⟨cur,h1,h2,h3,h4,h5,h6⟩:=h
  exact ⟨cur,h1,by rw [←l.size];exact h2,h3,h4,h5,by rw [←l.size];exact h6.le l⟩
theorem Bx.le{α:Type}{s t:Ty α}(l:Le s t){n:Nat}{agg:Bool}{T:TypeId}{u:α}{b:Nat}{g:G}(h:(Bx n agg T (s.is u) b).holds g):(Bx n agg T (t.is u) b).holds g:=by
 obtain ⟨cs,h1,h2,h3,h4,h5,h6⟩:=h
 exact ⟨cs,h1,h2,h3,h4,h5,l.is h6⟩
theorem Cells.take{α:Type}{t:Ty α}{g:G}{cs:List Value}{xs:List α}(j:Nat)(hj:j≤xs.length)(h:Cells t g cs xs):Cells t g (cs.take (j*t.size)) (xs.take j):=by
 obtain ⟨h1,h2,h3⟩:=h
 have hm:=Nat.mul_le_mul_right t.size hj
 refine ⟨by rw [List.length_take,List.length_take,h1,Nat.min_eq_left hm,Nat.min_eq_left hj],fun c hc=>h2 c (List.mem_of_mem_take hc),fun i x hx=>?_⟩
 rw [List.getElem?_take] at hx
 split at hx
 ·rename_i hij
  obtain ⟨ds,k1,k2⟩:=h3 i x hx
  refine ⟨ds,k1,fun q v hq=>?_⟩
  have hql:=(List.getElem?_eq_some_iff.1 hq).1
  rw [t.len k1] at hql
  have:=Nat.mul_le_mul_right t.size (show i+1≤j by omega)
  rw [Nat.add_mul,Nat.one_mul] at this
  rw [List.getElem?_take,if_pos (by omega)]
  exact k2 q v hq
 ·cases hx
theorem OwnU.take{α:Type}{t:Ty α}{E:TypeId}{k:Tok}{xs:List α}{g:G}(j:Nat)(hj:j≤xs.length)(h:(OwnU t E k xs).holds g):(OwnU t E k (xs.take j)).holds g:=by
 cases k with
 | none=>
  have h:xs= []:=h
  show xs.take j= []
  rw [h];simp
 | some p=>
  obtain ⟨cur,h1,h2,h3,h4,h5,h6⟩:=h
  have hm:=Nat.mul_le_mul_right t.size hj
  refine ⟨cur,h1,h2,by rw [List.length_take];omega,h4,h5,?_⟩
  have:=h6.take j hj
  rw [List.take_take,Nat.min_eq_left hm] at this
  rw [List.length_take,Nat.min_eq_left hj]
  exact this
end
section
variable {P:Program} {env:Env} {res:Rs} {d:Option Tmp} {ty:TypeId} {pos:String} {aft:Array Edge} {gd:Option (Nat×Bool)}
end
end Go.Dec
