/-
  Package variables that nobody writes: what they hold is known to whoever is told.
-/
import Derived.Test.YtlegkjbldofkmaaGreatDec20
set_option linter.unusedVariables false
set_option linter.unusedSimpArgs false
namespace Go.Dec
open Go
def NoBlk:Rs→Prop
 | []=>True
 | x :: r=>x.2.blk=none∧NoBlk r
theorem NoBlk.all:∀ {r:Rs},NoBlk r→∀ x∈r,x.2.blk=none
 | y :: r,⟨h1,h2⟩,x,hx=>by
  rcases List.mem_cons.1 hx with rfl | hx
  ·exact h1
  ·exact NoBlk.all h2 x hx
theorem NoBlk.blks{r:Rs}(h:NoBlk r)(b:Nat):¬ r.blks b:=fun ⟨x,hx,hb⟩=>by rw [h.all x hx] at hb;cases hb
theorem NoBlk.dis{r:Rs}(h:NoBlk r):r.dis:=by
 induction r with
 | nil=>exact List.Pairwise.nil
 | cons y r ih=>exact List.pairwise_cons.2 ⟨fun x hx b hb=>(by rw [h.1] at hb;cases hb),ih h.2⟩
section
variable {P:Program} {N:Nat} {g0:G} {T0:Nat→Prop} {ks:List KF} {B:Exit→Act→World→Prop} {env:Env} {res:Rs} {d:Option Tmp} {ty:TypeId} {pos:String} {aft:Array Edge} {gd:Option (Nat×Bool)}
end
theorem St.rekey{N:Nat}{g0:G}{T0:Nat→Prop}{env:Env}{res res':Rs}{a:Act}{g:G}(h:St N g0 T0 env res a g)(e:res.map Prod.snd=res'.map Prod.snd):St N g0 T0 env res' a g:=
 ⟨h.sz,h.dfr,h.henv,Rs.all_snd.2 (e▸Rs.all_snd.1 h.hres),Rs.dis_snd.2 (e▸Rs.dis_snd.1 h.dis),fun b hb=>h.own b (by rw [Rs.blks_eq e];exact hb),h.ext⟩
theorem W.rekey{P:Program}{N:Nat}{g0:G}{T0:Nat→Prop}{ks:List KF}{B:Exit→Act→World→Prop}{env:Env}{res res':Rs}{c:Code}(e:res.map Prod.snd=res'.map Prod.snd)(h:W P N g0 T0 c ks B env res'):W P N g0 T0 c ks B env res:=
 fun a g hst=>h a g (hst.rekey e)
end Go.Dec
