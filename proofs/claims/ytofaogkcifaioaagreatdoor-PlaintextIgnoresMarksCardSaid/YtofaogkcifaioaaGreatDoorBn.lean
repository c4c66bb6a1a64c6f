/-
  What the machine's readings say of a tree's lengths.
-/
import Derived.Test.YtofaogkcifaioaaGreatDoorTy
import Derived.Test.YtofaogkcifaioaaGreatDoorPb
set_option linter.unusedVariables false
namespace Go.Proofs.YtofaogkcifaioaaGreatDoor
open Go Go.Dec
theorem list_len{α:Type}{t:Ty α}{g:G}{cs:List Value}{xs:List α}(h:(tL t).rep g cs xs):xs.length≤140737488355328:=by
 obtain ⟨p,c,_,_,h3,_⟩:=h
 exact h3
theorem list_elem{α:Type}{t:Ty α}{g:G}{cs:List Value}{xs:List α}(h:(tL t).rep g cs xs):∀ x,x∈xs→∃ ds,t.rep g ds x:=by
 obtain ⟨p,c,_,_,_,_,hr⟩:=h
 intro x hx
 cases p with
 | none=>rw [show xs= [] from hr] at hx;cases hx
 | some a=>
  obtain ⟨i,hi,he⟩:=List.getElem_of_mem hx
  obtain ⟨ds,hd,_⟩:=hr.2 i x (by rw [List.getElem?_eq_getElem hi,he])
  exact ⟨ds,hd⟩
theorem str_len{g:G}{cs:List Value}{x:Str}(h:tS.rep g cs x):x.length≤140737488355328:=h.2
theorem big_of(g:G)(u:api_Unit):∀ cs,tapi_Unit.rep g cs u→big u:=by
 refine uind (P:=fun u=>∀ cs,tapi_Unit.rep g cs u→big u) ?_ u
 intro u ih cs h
 obtain ⟨d2,h2,_⟩:=fapi_Unit_2 g cs u h
 obtain ⟨d3,h3,_⟩:=fapi_Unit_3 g cs u h
 obtain ⟨d4,h4,_⟩:=fapi_Unit_4 g cs u h
 obtain ⟨d5,h5,_⟩:=fapi_Unit_5 g cs u h
 intro x hx
 rw [desc_eq] at hx
 rcases List.mem_cons.1 hx with rfl | hx
 ·exact ⟨str_len h2,list_len h3,list_len h4,list_len h5⟩
 ·obtain ⟨k,hk,hxk⟩:=List.mem_flatMap.1 hx
  obtain ⟨ds,hd⟩:=list_elem h5 k hk
  exact ih k hk ds hd x hxk
theorem big_is{g:G}{u:api_Unit}{v:Value}(h:(tapi_Unit.is u).holds v g):big u:=by
 obtain ⟨cs,h,_⟩:=h
 exact big_of g u cs h
theorem byte_is{g:G}{n:Int}{v:Value}(h:((tI .u8).is n).holds v g):0≤n∧n≤255:=by
 obtain ⟨cs,h,_⟩:=h
 exact inR8.1 h.2
end Go.Proofs.YtofaogkcifaioaaGreatDoor
