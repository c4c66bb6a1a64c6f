/-
  Function values in cells.
-/
import Derived.Test.YtalogjkalmkpjaaGreatDoorDec14
set_option linter.unusedVariables false
set_option linter.unusedSimpArgs false
namespace Go.Dec
open Go
def tFun(P:Program){φ σ:Type}(ok:φ→σ→Prop)(As:σ→List Asn)(A:σ→Asn):Ty φ where
 size:=1
 agg:=false
 rep:=fun g cs f=>∃ v,cs= [v]∧((tF P (ok f) As A).holds v g∨(v= .nilFunc∧ ∀ s,¬ ok f s))
 len:=fun ⟨v,h,_⟩=>by rw [h];rfl
 one:=fun ⟨v,h,hv⟩ c hc=>by
  rw [h] at hc
  rw [List.mem_singleton.1 hc]
  rcases hv with ⟨f,pre,cap,h1,_⟩ | ⟨h1,_⟩
  ·rw [h1];rfl
  ·rw [h1];rfl
 mono:=fun e ⟨v,h,hv⟩=>⟨v,h,hv.imp (fun h=>(tF P _ As A).mono e h) id⟩
 sing:=fun _=>rfl
section
variable {P:Program} {env:Env} {res:Rs} {d:Option Tmp} {ty:TypeId} {pos:String} {aft:Array Edge} {gd:Option (Nat×Bool)}
variable {φ σ:Type} {ok:φ→σ→Prop} {As:σ→List Asn} {A:σ→Asn}
theorem Opd.tFun{x:Operand}{f:φ}(h:Opd env x (tF P (ok f) As A)):Opd env x ((Dec.tFun P ok As A).is f):=h.weak fun v g hv=>⟨[v],⟨v,rfl,.inl hv⟩,rfl⟩
theorem Op1.callFun{x:Operand}{xs:List Operand}{ats:Array TypeId}{f:φ}(s:σ)(hx:Opd env x ((tFun P ok As A).is f))(hs:ok f s)(h:Opds env xs (As s)) :
  Op1 P ⟨d,.call ⟨.value x,xs.toArray,ats⟩,ty,pos,aft,gd⟩ env res (A s):=
 Op1.of_calls fun a g hc=>by
  obtain ⟨cs,⟨v,rfl,hv⟩,he⟩:=hx a g hc.henv
  have he':a.eval x=v:=he
  rcases hv with ⟨fid,pre,cap,h1,hcall,hdo⟩ | ⟨_,hn⟩
  ·refine ⟨fid,pre++(xs.map a.eval).toArray++cap,?_,hdo s hs No g (Ext.refl _ _) _ (Opds.all hc.henv h)⟩
   simp [execOp,resolve,he',h1,Deferred.ofValue,invoke,hcall]
  ·exact absurd hs (hn s)
end
end Go.Dec
