/-
  Arrays.
-/
import Derived.Test.YtalogjkalmkpjaaGreatDoorDec13
set_option linter.unusedVariables false
set_option linter.unusedSimpArgs false
namespace Go.Dec
open Go
def tA{α:Type}(n:Nat)(t:Ty α):Ty (List α) where
 size:=n*t.size
 agg:=true
 rep:=fun g cs xs=>xs.length=n∧Cells t g cs xs
 len:=fun h=>by rw [h.2.1,h.1]
 one:=fun h=>h.2.2.1
 mono:=fun e h=>⟨h.1,h.2.mono e⟩
 sing:=fun h=>by cases h
section
variable {P:Program} {env:Env} {res:Rs} {d:Option Tmp} {ty:TypeId} {pos:String} {aft:Array Edge} {gd:Option (Nat×Bool)}
theorem ZeroAt.array{α:Type}{n:Nat}{t:Ty α}{z:α}{T E:TypeId}{v:Value}{arr:Array Value}(he:ZeroAt P E t z)(hE:∀ w,(zeroValue E).run P w= .ok v w)(hz:∀ w,(zeroValue T).run P w= .ok (.agg arr) w)
  (harr:arr.toList=(List.replicate n v.cells.toList).flatten) (w0:World):ZeroAt P T (tA n t) (List.replicate n z):=by
 obtain ⟨v',hv',hr⟩:=he.zero
 have hvv:v'=v:=by
  have h1:=hv' w0
  rw [hE w0] at h1
  cases h1;rfl
 subst hvv
 refine ⟨_,hz,fun g=>?_⟩
 obtain ⟨cs,h1,h2⟩:=hr g
 have hc:v'.cells=cs.toArray:=by rw [h2];exact t.cells h1
 refine ⟨arr.toList,⟨by simp,?_⟩,by simp [mkVal,tA]⟩
 rw [harr,hc]
 exact Cells.replicate h1 n
theorem Op1.idxA{α:Type}{t:Ty α}{E T:TypeId}{n:Nat}{x y:Operand}{xs:List α}{k:IntKind}{i:Int}{u:α}(h:Dec.idx xs i=some u)(hT:P.underlying T=some (.array n E))(hsz:∀ w,(sizeOf E).run P w= .ok t.size w)
  (hx:Opd env x ((tA n t).ptr xs)) (hy:Opd env y ((tI k).is i)):Op1 P ⟨d,.indexAddr T x y,ty,pos,aft,gd⟩ env res (t.ptr u):=
 Op1.same fun a g hc=>by
  obtain ⟨b,o,hv,cs,⟨hl,hcs⟩,hat⟩:=hx a g hc.henv
  have h1:=(hy.atInt hc).1
  unfold Dec.idx at h
  split at h
  ·rename_i h0
   have hlt:=(List.getElem?_eq_some_iff.1 h).1
   have hi:i<(n:Int):=by omega
   obtain ⟨ds,k1,k2⟩:=hcs.2.2 i.toNat u h
   refine ⟨.pointer (some ⟨b,o+i.toNat*t.size,none⟩),?_,b,o+i.toNat*t.size,rfl,ds,k1,fun j v hj=>?_⟩
   ·have ht:P.underlying T=some (.array n E):=hT
    simp [execOp,Instr.indexAt,asIntOf,hv,h1,run_underlying hT,hsz,h0,hi,Instr.sureAddr,Addr.add_lit]
   ·rw [Nat.add_assoc]
    exact hat _ _ (k2 j v hj)
  ·cases h
end
end Go.Dec
