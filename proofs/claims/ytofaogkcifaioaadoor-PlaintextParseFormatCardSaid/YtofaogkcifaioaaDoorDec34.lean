/-
  Structs of which one field is the nil slice: what is appended there later is the call's own.
-/
import Derived.Test.YtofaogkcifaioaaDoorDec33
import Derived.Test.YtofaogkcifaioaaDoorDec26
set_option linter.unusedVariables false
set_option linter.unusedSimpArgs false
namespace Go.Dec
open Go
section
variable {P:Program} {N:Nat} {g0:G} {T0:Nat→Prop} {env:Env} {res:Rs}
theorem St.nkOwn{α β:Type}{s:Ty α}{t:Ty β}{o:Nat}{f:α→List β}{E:TypeId}{u:α}(hF:Fld s o (tOT t none) f)(slot key:Nat)(hs:look slot env=some (s.is u)){a:Act}{g:G}(h:St N g0 T0 env res a g) :
  St N g0 T0 env ((key,Own t E none (f u).length) :: res) a g:=by
 obtain ⟨cs,hr,_⟩:=h.henv slot _ hs
 obtain ⟨ds,hd,_⟩:=hF g cs u hr
 obtain ⟨v,_,hv⟩:=hd
 have h0:(f u).length=0:=Nat.le_zero.1 hv.2.1
 refine ⟨h.sz,h.dfr,h.henv,fun x hx=>?_,?_,fun b ⟨x,hx,hb⟩=>?_,h.ext⟩
 ·rcases List.mem_cons.1 hx with rfl | hx
  ·exact h0
  ·exact h.hres x hx
 ·exact List.pairwise_cons.2 ⟨fun y _ b hb=>(by cases hb),h.dis⟩
 ·rcases List.mem_cons.1 hx with rfl | hx
  ·cases hb
  ·exact h.own b ⟨x,hx,hb⟩
theorem WL.nkOwn{ops:Array Oper}{Q:Exit→Act→World→Prop}{l:List Oper}{α β:Type}{s:Ty α}{t:Ty β}{o:Nat}{f:α→List β}{E:TypeId}{u:α}(hF:Fld s o (tOT t none) f)(slot key:Nat)(hs:look slot env=some (s.is u))
  (k:WL P N g0 T0 ops Q l env ((key,Own t E none (f u).length) :: res)):WL P N g0 T0 ops Q l env res:=
 fun a g hst=>k a g (hst.nkOwn hF slot key hs)
theorem W.nkOwn{c:Code}{ks:List KF}{B:Exit→Act→World→Prop}{α β:Type}{s:Ty α}{t:Ty β}{o:Nat}{f:α→List β}{E:TypeId}{u:α}(hF:Fld s o (tOT t none) f)(slot key:Nat)(hs:look slot env=some (s.is u))
  (k:W P N g0 T0 c ks B env ((key,Own t E none (f u).length) :: res)):W P N g0 T0 c ks B env res:=
 fun a g hst=>k a g (hst.nkOwn hF slot key hs)
end
end Go.Dec
