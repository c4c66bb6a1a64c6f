/-
  Loose slices whose elements' readings may lean on memory: append of one or more elements.
-/
import Derived.Test.YtalogjkalmkpjaaGreatDoorDec32
import Derived.Test.YtalogjkalmkpjaaGreatDoorDec27
set_option linter.unusedVariables false
set_option linter.unusedSimpArgs false
namespace Go.Dec
open Go
section
variable {P:Program} {env:Env} {res:Rs} {d:Option Tmp} {ty:TypeId} {pos:String} {aft:Array Edge} {gd:Option (Nat×Bool)}
theorem OpR.loosen{α:Type}{t:Ty α}(hF:Flat t){E:TypeId}{o:Oper}{key:Nat}{xs:List α}(h:OpR P o env res [] (fun k:Tok=>tO t k xs) (fun k=>[(key,Own t E k xs.length)])) :
  OpR P o env res [] (fun k:Tok=>tU k xs.length) (fun k=>[(key,OwnU t E k xs)]):=by
 intro a g K Q hc hd hK
 refine h a g K Q hc hd fun k v g1 e hv ho _ hob=>?_
 have ho':(Own t E k xs.length).holds g1:=ho _ (List.mem_singleton.2 rfl)
 obtain ⟨hv1,hv2,hv3,hv4⟩:=hv
 have hk:∀ b,k.map Prod.fst=some b→((res.pick []).blks b∧g.S b=0)∨g.w.heap.size≤b:=fun b hb=>by
  rcases hob b ⟨_,List.mem_singleton.2 rfl,hb⟩ with ⟨y,hy,_⟩ | h1
  ·have:=(List.mem_filter.1 hy).2
   simp [memB] at this
  ·exact .inr h1
 refine hK k v (g1.fixd k 0) (e.loose hk) ⟨hv1,hv2,hv3⟩ (fun y hy=>?_) (List.pairwise_singleton _ _) ?_
 ·rw [List.mem_singleton.1 hy]
  exact OwnU.loose hF ho' hv4
 ·rintro b ⟨y,hy,hb⟩
  rw [List.mem_singleton.1 hy] at hb
  exact (hk b hb).imp (fun h=>h.1) id
end
section
variable {P:Program} {env:Env} {res:Rs}
end
section
variable {P:Program} {N:Nat} {g0:G} {T0:Nat→Prop} {env:Env} {res:Rs}
end
section
variable {P:Program} {env:Env} {res:Rs} {d:Option Tmp} {ty:TypeId} {pos:String} {aft:Array Edge} {gd:Option (Nat×Bool)}
end
end Go.Dec
