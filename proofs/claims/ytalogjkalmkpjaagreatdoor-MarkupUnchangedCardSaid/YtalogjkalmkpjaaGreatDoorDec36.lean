/-
  Unsigned numbers of 64 bits; slices of arrays; slices made of zeros; errors that are nil or not; pointers to variables of one's own, in cells.
-/
import Derived.Test.YtalogjkalmkpjaaGreatDoorDec35
import Derived.Test.YtalogjkalmkpjaaGreatDoorDec29
import Derived.Laws.MakeOwn
import Derived.Below
set_option linter.unusedVariables false
set_option linter.unusedSimpArgs false
namespace Go.Dec
open Go
section
variable {P:Program} {env:Env} {res:Rs} {d:Option Tmp} {ty:TypeId} {pos:String} {aft:Array Edge} {gd:Option (Nat×Bool)}
section
variable {x y:Operand} {m n:Int} {T T':TypeId}
end
theorem OpR.makeSlice{α:Type}{t:Ty α}{z:α}{xs:List α}{n:Int}{x y:Operand}{T E:TypeId}{k:IntKind}(key:Nat)(h:makeC z n=some xs)(hT:P.underlying T=some (.slice E))(hE:ElAt P E t)(hz:ZeroAt P E t z)(hx:Opd env x ((tI .i64).is n))(hy:Opd env y ((tI .i64).is n)) :
  OpR P ⟨d,.makeSlice T x y,ty,pos,aft,gd⟩ env res [] (fun k:Tok=>tO t k xs) (fun k=>[(key,Own t E k xs.length)]):=by
 intro a g K Q hc hd hK
 unfold makeC at h
 split at h
 case isFalse=>cases h
 rename_i hn
 cases h
 obtain ⟨i,z0,r1,r2,r3,r4,r5⟩:=hE.row
 obtain ⟨v,hv,hzr⟩:=hz.zero
 have hvz:v=z0:=by
  have:=hv g.w
  simp [zeroValue,typeInfo,r1,r2] at this
  exact this.symm
 subst hvz
 obtain ⟨cs0,hcs0,hv0⟩:=hzr g
 have hvc:v.cells=cs0.toArray:=by rw [hv0];exact t.cells hcs0
 have hl0:=t.len hcs0
 have hbytes:(i.bytes:Int)*n≤281474976710656:=by
  have h1:(i.bytes:Int)*n≤512*n:=Int.mul_le_mul_of_nonneg_right (by omega) hn.1
  omega
 have hx1:=(hx.atInt hc).1
 have hy1:=(hy.atInt hc).1
 have hmk:Cells t g (madeCells v.cells (n.toNat*i.size)).toList (List.replicate n.toNat z):=by
  unfold madeCells
  rw [hvc,r3,←hl0,range_mod_replicate]
  exact Cells.replicate hcs0 n.toNat
 have hrun:=run_make (P:=P) g.w T E i v hT r1 r2 .i64 .i64 n n hn.1 (Int.le_refl _) hbytes (by omega)
 unfold Oper.wp execOp
 simp only [Sem.run_bind,hx1,hy1,hrun,Result.andThen_ok,Sem.run_pure]
 let g':G:=g.alloc (.cells (madeCells v.cells (n.toNat*i.size)) E) (n.toNat*t.size)
 have e:Ext No g g':=Ext.alloc No _ _ _
 have hheap:g'.w.heap[g.w.heap.size]? =some (.cells (madeCells v.cells (n.toNat*i.size)) E (0,0)):=heap_alloc_new g.w _
 have hcl:(madeCells v.cells (n.toNat*i.size)).size=n.toNat*t.size:=by rw [size_madeCells,r3]
 have hnlim:n.toNat≤lim:=by unfold lim;omega
 refine hK (some (g.w.heap.size,n.toNat)) (.slice (some ⟨g.w.heap.size,0,none⟩) n.toNat n.toNat) g' e.no ?_ ?_ (List.pairwise_singleton _ _) ?_
 ·refine ⟨by simp [Tok.addr,Tok.cap],by simp [Tok.cap],by simpa using hnlim,?_⟩
  show Row t g' (some ⟨g.w.heap.size,0,none⟩) (List.replicate n.toNat z)
  refine (hmk.mono e).row fun j v hj=>⟨?_,?_⟩
  ·show 0+j<(if g.w.heap.size=g.w.heap.size then _ else _)
   rw [if_pos rfl]
   have:=(List.getElem?_eq_some_iff.1 hj).1
   simp [size_madeCells,r3] at this
   omega
  ·rw [cell_of_row _ _ _ _ _ _ hheap,Nat.zero_add]
   simpa using hj
 ·intro y hy
  rw [List.mem_singleton.1 hy]
  refine ⟨_,hheap,hcl,by simp,by unfold maxLen;unfold lim at hnlim;omega,?_⟩
  show (if g.w.heap.size=g.w.heap.size then _ else _)=_
  rw [if_pos rfl]
  simp
 ·rintro b ⟨y,hy,hb⟩
  rw [List.mem_singleton.1 hy] at hb
  simp [Own] at hb
  exact .inr (by omega)
end
def ObP{α:Type}(c:Nat×Tok)(o:Option α):Asn:=Asn.eq (.pointer (match o with
 | none=>none
 | some _=>some ⟨c.1,0,none⟩))
section
variable {P:Program} {N:Nat} {g0:G} {T0:Nat→Prop} {env:Env} {res:Rs}
variable {α β:Type} {t:Tok→Ty α} {T:TypeId} {te:Ty β} {E:TypeId} {f:α→List β} {c:Nat×Tok} {u:α}
theorem ObP.some{o:Option α}(h:o= .some u){v:Value}{g:G}(hv:(ObP c o).holds v g):(Bp c.1 0).holds v g:=by subst h;exact hv
theorem ObP.of{v:Value}{g:G}(hv:(Bp c.1 0).holds v g):(ObP c (.some u)).holds v g:=hv
theorem ObP.nil{v:Value}{g:G}(hv:(Asn.eq (.pointer none)).holds v g):(ObP c (none:Option α)).holds v g:=hv
variable {cd:Code} {ks:List KF} {B:Exit→Act→World→Prop} {ops:Array Oper} {Q:Exit→Act→World→Prop} {l:List Oper}
end
section
variable {P:Program} {env:Env} {res:Rs} {d:Option Tmp} {ty:TypeId} {pos:String} {aft:Array Edge} {gd:Option (Nat×Bool)}
end
section
variable {P:Program} {N:Nat} {g0:G} {ks:List KF} {env:Env} {res rin:Rs} {fn:Func} {ρ:Type} {out:ρ→Rs} {d:Option Tmp} {ty:TypeId} {pos:String} {aft:Array Edge} {gd:Option (Nat×Bool)}
end
end Go.Dec
