/-
  Maps that are no longer written: plain values.
-/
import Derived.Test.YtalogjkalmkpjaaGreatDoorDec28
set_option linter.unusedVariables false
set_option linter.unusedSimpArgs false
namespace Go.Dec
open Go
theorem G.Full.map{g:G}{b:Nat}{es:Array MapEntry}{k:Nat}(h:g.Full b (.inr (es,k))):g.w.heap[b]? =some (.map es k):=by
 have hlt:=h.lt
 rcases h.row (o:=g.w.heap[b]'hlt) (Array.getElem?_eq_getElem hlt) with ⟨_,_,_,_,e⟩ | ⟨es',k',ho,e,_⟩
 ·cases e
 ·cases e;rw [Array.getElem?_eq_getElem hlt,ho]
section
variable {P:Program} {N:Nat} {g0:G} {T0:Nat→Prop} {env:Env} {res:Rs} {d:Option Tmp} {ty:TypeId} {pos:String} {aft:Array Edge} {gd:Option (Nat×Bool)} {α β:Type} {tk:Ty α} {tv:Ty β}
end
end Go.Dec
