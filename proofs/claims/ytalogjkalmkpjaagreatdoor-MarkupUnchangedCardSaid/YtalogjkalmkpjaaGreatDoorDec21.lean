/-
  Package variables that nobody writes: what they hold is known to whoever is told.
-/
import Derived.Test.YtalogjkalmkpjaaGreatDoorDec20
set_option linter.unusedVariables false
set_option linter.unusedSimpArgs false
namespace Go.Dec
open Go
def gA{α:Type}(t:Ty α)(b:Nat)(x:α):Asn:=⟨fun _ g=>t.At g b 0 x,fun e h=>h.mono e⟩
def Gl{α:Type}(t:Ty α)(b:Nat)(x:α):Res where
 blk:=fun _=>False
 holds:=fun g=>t.At g b 0 x
 stay:=fun e _ h=>h.mono e
 lt:=fun _ hb=>by cases hb
def NoBlk:Rs→Prop
 | []=>True
 | x :: r=>x.2.blk=(fun _=>False)∧NoBlk r
theorem NoBlk.all:∀ {r:Rs},NoBlk r→∀ x∈r,x.2.blk=(fun _=>False)
 | y :: r,⟨h1,h2⟩,x,hx=>by
  rcases List.mem_cons.1 hx with rfl | hx
  ·exact h1
  ·exact NoBlk.all h2 x hx
theorem NoBlk.blks{r:Rs}(h:NoBlk r)(b:Nat):¬ r.blks b:=fun ⟨x,hx,hb⟩=>by rw [h.all x hx] at hb;cases hb
theorem NoBlk.dis{r:Rs}(h:NoBlk r):r.dis:=by
 induction r with
 | nil=>exact List.Pairwise.nil
 | cons y r ih=>exact List.pairwise_cons.2 ⟨fun x hx b hb=>(by rw [h.1] at hb;cases hb),ih h.2⟩
section
variable {P:Program} {N:Nat} {g0:G} {T0:Nat→Prop} {ks:List KF} {B:Exit→Act→World→Prop} {env:Env} {res:Rs} {d:Option Tmp} {ty:TypeId} {pos:String} {aft:Array Edge} {gd:Option (Nat×Bool)}
theorem Opd.glob{α:Type}{t:Ty α}{b s:Nat}{x:α}(h:look s env=some (gA t b x)):Opd env (.global b) (t.ptr x):=fun a g he=>⟨b,0,rfl,he s _ h⟩
theorem St.addG{α:Type}{t:Ty α}{b key:Nat}{x:α}(s:Nat)(hr:findR key res=some (Gl t b x)){a:Act}{g:G}(h:St N g0 T0 env res a g):St N g0 T0 ((s,gA t b x) :: env) res a g:=by
 refine ⟨h.sz,h.dfr,fun s' A hA=>?_,h.hres,h.dis,h.own,h.ext⟩
 by_cases hk:s=s'
 ·subst hk
  rw [look_here] at hA
  cases hA
  exact h.hres _ (findR_mem hr)
 ·rw [look_there _ _ hk] at hA
  exact h.henv s' A hA
theorem WL.addG{ops:Array Oper}{Q:Exit→Act→World→Prop}{l:List Oper}{α:Type}{t:Ty α}{b:Nat}{x:α}(s key:Nat)(hr:findR key res=some (Gl t b x))(h:WL P N g0 T0 ops Q l ((s,gA t b x) :: env) res):WL P N g0 T0 ops Q l env res:=
 fun a g hst=>h a g (hst.addG s hr)
theorem W.addG{c:Code}{α:Type}{t:Ty α}{b:Nat}{x:α}(s key:Nat)(hr:findR key res=some (Gl t b x))(h:W P N g0 T0 c ks B ((s,gA t b x) :: env) res):W P N g0 T0 c ks B env res:=
 fun a g hst=>h a g (hst.addG s hr)
theorem calls_G{f:FuncId}{As:List Asn}{rin:Rs}{A:Asn}{out:Unit→Rs}(hf:FSpecR P f As rin (fun _=>A) out)(hb:NoBlk rin){g:G}{vs:List Value}(hvs:All2 As vs g)(hr:rin.all g) :
  Calls P f vs.toArray g.w fun e w'=>∃ v g',g'.w=w'∧e= .returned v∧Ext No g g'∧A.holds v g':=by
 refine (hf g vs hvs hr hb.dis).mono ?_
 rintro e w' ⟨x,v,g',h1,h2,h3,h4,_⟩
 exact ⟨v,g',h1,h2,h3.mono (fun b hbk=>hb.blks b hbk),h4⟩
theorem Op1.callG{f:FuncId}{xs:List Operand}{ats:Array TypeId}{As:List Asn}{rin:Rs}{A:Asn}{out:Unit→Rs}(hcall:∀ as w,(callFunc f as).run P w= .ok (.enter f as) w)
  (hf:FSpecR P f As rin (fun _=>A) out) (hb:NoBlk rin) (hr:RSub rin res) (hx:Opds env xs As):Op1 P ⟨d,.call ⟨.value (.func f),xs.toArray,ats⟩,ty,pos,aft,gd⟩ env res A:=
 Op1.of_calls fun a g hc=>⟨f,_,exec_call (fun _=>rfl) hcall a g.w,calls_G hf hb (Opds.all hc.henv hx) fun y hy=>hc.hres y (hr.mem y hy)⟩
theorem Op1.callCloG{f:FuncId}{x:Operand}{xs:List Operand}{ats:Array TypeId}{As Cs:List Asn}{rin:Rs}{A:Asn}{out:Unit→Rs}(hcall:∀ as w,(callFunc f as).run P w= .ok (.enter f as) w)(hx:Opd env x (cloA f Cs))
  (hf:FSpecR P f (As++Cs) rin (fun _=>A) out) (hb:NoBlk rin) (hr:RSub rin res) (h:Opds env xs As):Op1 P ⟨d,.call ⟨.value x,xs.toArray,ats⟩,ty,pos,aft,gd⟩ env res A:=
 Op1.of_calls fun a g hc=>by
  obtain ⟨caps,hv,hcs⟩:=hx a g hc.henv
  exact ⟨f,_,exec_callV hcall a g.w hv,calls_G hf hb (All2.append (Opds.all hc.henv h) hcs) fun y hy=>hc.hres y (hr.mem y hy)⟩
end
theorem St.rekey{N:Nat}{g0:G}{T0:Nat→Prop}{env:Env}{res res':Rs}{a:Act}{g:G}(h:St N g0 T0 env res a g)(e:res.map Prod.snd=res'.map Prod.snd):St N g0 T0 env res' a g:=
 ⟨h.sz,h.dfr,h.henv,Rs.all_snd.2 (e▸Rs.all_snd.1 h.hres),Rs.dis_snd.2 (e▸Rs.dis_snd.1 h.dis),fun b hb=>h.own b (by rw [Rs.blks_eq e];exact hb),h.ext⟩
theorem W.rekey{P:Program}{N:Nat}{g0:G}{T0:Nat→Prop}{ks:List KF}{B:Exit→Act→World→Prop}{env:Env}{res res':Rs}{c:Code}(e:res.map Prod.snd=res'.map Prod.snd)(h:W P N g0 T0 c ks B env res'):W P N g0 T0 c ks B env res:=
 fun a g hst=>h a g (hst.rekey e)
end Go.Dec
