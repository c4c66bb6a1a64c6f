/-
  Regions whose order is drawn, with several operations that use resources, some of them in either order: what is there goes by the set of those that are done.
-/
import Derived.Test.YtalogjkalmkpjaaGreatDoorDec15
set_option linter.unusedVariables false
set_option linter.unusedSimpArgs false
namespace Go.Dec
open Go
abbrev Mask:=List Bool
def AllIn{α:Type}(Q:α→Prop):List α→Prop
 | []=>True
 | x :: r=>Q x∧AllIn Q r
theorem AllIn.all{α:Type}{Q:α→Prop}(h:∀ x,Q x):∀ l:List α,AllIn Q l
 | []=>trivial
 | x :: r=>⟨h x,AllIn.all h r⟩
theorem AllIn.at{α:Type}{Q:α→Prop}:∀ {l:List α},AllIn Q l→∀ x∈l,Q x
 | [],_,x,h=>by cases h
 | y :: r,h,x,hx=>by
  rcases List.mem_cons.1 hx with rfl | hx
  ·exact h.1
  ·exact AllIn.at h.2 x hx
section
variable {P:Program} {N:Nat} {g0:G} {T0:Nat→Prop} {ks:List KF} {B:Exit→Act→World→Prop} {env:Env} {res:Rs}
structure SInv (N:Nat) (l:List Oper) (As:List (DA Val)) (es:List Nat) (res:Rs) (Rm:Mask→Val→Rs) (a0:Act) (g1:G) (listed:Array Bool) (a:Act) (g:G):Prop where
 size:listed.size=l.length
 sz:a.tmps.size=N
 dfr:a.defers= []
 closed:∀ (k:Nat) o,l[k]? =some o→listed.getD k false=true→∀ j,waits o j=true→listed.getD j false=true
 old:∀ s,(∀ (k:Nat) o,l[k]? =some o→listed.getD k false=true→o.dst≠some s)→a.tmps.getD s undef=a0.tmps.getD s undef
 here:∃ m c,m.length=es.length∧(∀ j e,es[j]? =some e→(listed.getD e false=true ↔ m.getD j false=true))∧Ext res.blks g1 g∧(Rm m c).all g∧(Rm m c).dis∧(∀ b,(Rm m c).blks b→res.blks b∨g1.w.heap.size≤b)∧
  ∀ (k:Nat) o A,l[k]? =some o→As[k]? =some A→listed.getD k false=true→∀ d,o.dst=some d→(A.at c).holds (a.tmps.getD d undef) g
theorem SInv.put{l:List Oper}{As:List (DA Val)}{es:List Nat}{Rm:Mask→Val→Rs}{a0:Act}{g1:G}{listed:Array Bool}{a:Act}{g g':G}{i:Nat}{o:Oper}{v:Value}
  (h:SInv N l As es res Rm a0 g1 listed a g) (hi:i<l.length) (ho:l[i]? =some o) (hd:dstsD l=true) (hN:∀ d,o.dst=some d→d<N) (hnl:listed.getD i false=false) (hw:∀ j,waits o j=true→listed.getD j false=true)
  (hat:∃ m c,m.length=es.length∧(∀ j e,es[j]? =some e→((e=i∨listed.getD e false=true) ↔ m.getD j false=true))∧Ext res.blks g1 g'∧(Rm m c).all g'∧(Rm m c).dis∧(∀ b,(Rm m c).blks b→res.blks b∨g1.w.heap.size≤b)∧
   (∃ A,As[i]? =some A∧(A.at c).holds v g')∧ ∀ (k:Nat) q A,l[k]? =some q→As[k]? =some A→listed.getD k false=true→∀ d,q.dst=some d→(A.at c).holds (a.tmps.getD d undef) g') :
  SInv N l As es res Rm a0 g1 (listed.setIfInBounds i true) (a.put o.dst v) g':=by
 have hsz:i<listed.size:=by rw [h.size];exact hi
 have hput:∀ (k:Nat) p d,l[k]? =some p→listed.getD k false=true→p.dst=some d→(a.put o.dst v).tmps.getD d undef=a.tmps.getD d undef:=by
  intro k p d hk hl hp
  cases hod:o.dst with
  | none=>rfl
  | some d'=>
   refine getD_put_other fun hdd=>?_
   subst hdd
   have:=dstsD_at hd i k o p d' ho hk hod hp
   subst this
   rw [hnl] at hl;cases hl
 have hown:∀ d,o.dst=some d→(a.put o.dst v).tmps.getD d undef=v:=by
  intro d hod
  rw [hod]
  exact getD_put_same (by rw [h.sz];exact hN d hod)
 refine ⟨by simp [h.size],by cases hod:o.dst<;> simp [Act.put,h.sz],by cases hod:o.dst<;> exact h.dfr,?_,?_,?_⟩
 ·intro k p hk hl j hj
  rw [getD_set_true hsz] at hl ⊢
  rcases hl with rfl | hl
  ·rw [ho] at hk;cases hk;exact .inr (hw j hj)
  ·exact .inr (h.closed k p hk hl j hj)
 ·intro s hs
  have hne:o.dst≠some s:=hs i o ho ((getD_set_true hsz).2 (.inl rfl))
  have h2:(a.put o.dst v).tmps.getD s undef=a.tmps.getD s undef:=by
   cases hod:o.dst with
   | none=>rfl
   | some d'=>exact getD_put_other fun hdd=>hne (by rw [hod,hdd])
  rw [h2]
  exact h.old s fun k p hk hl=>hs k p hk ((getD_set_true hsz).2 (.inr hl))
 ·obtain ⟨m,c,h1,h2,h3,h4,h5,h6,⟨A0,h7,h8⟩,h9⟩:=hat
  refine ⟨m,c,h1,fun j e he=>by rw [getD_set_true hsz];exact h2 j e he,h3,h4,h5,h6,fun k p C hk hC hl d hdd=>?_⟩
  rcases (getD_set_true hsz).1 hl with rfl | hl'
  ·rw [ho] at hk;cases hk
   rw [h7] at hC;cases hC
   rw [hown d hdd];exact h8
  ·rw [hput k p d hk hl' hdd]
   exact h9 k p C hk hC hl' d hdd
end
end Go.Dec
