/-
  Rules for max, for bytes of a string, and for slices of which nil is the only empty one.
-/
import Derived.Test.YtalogjkalmkpjaaGreatDoorDec11
import Derived.Lib.ConvBytes
set_option linter.unusedVariables false
set_option linter.unusedSimpArgs false
namespace Go.Dec
open Go
section
variable {P:Program} {env:Env} {res:Rs} {d:Option Tmp} {ty:TypeId} {pos:String} {aft:Array Edge} {gd:Option (Nat×Bool)}
theorem Op1.maxI{k:IntKind}{x y:Operand}{m n:Int}{T:Array TypeId}(hx:Opd env x ((tI k).is m))(hy:Opd env y ((tI k).is n)) :
  Op1 P ⟨d,.call ⟨.builtin .max,#[x,y],T⟩,ty,pos,aft,gd⟩ env res ((tI k).is (max m n)):=
 Op1.same fun a g hc=>by
  have h1:=hx.atInt hc;have h2:=hy.atInt hc
  refine ⟨.int k (max m n),?_,Asn.int (by have:=h1.2;have:=h2.2;unfold inR at *;omega)⟩
  have e:(if n > m then n else m)=max m n:=by split<;> omega
  simp [execOp,resolve,invoke,builtin,Builtin.max_,Builtin.max2,h1.1,h2.1,e]
theorem Op1.bytes{x:Operand}{l:Str}{T U E:TypeId}(hT:P.underlying T=some .string)(hU:P.underlying U=some (.slice E))(hE:P.underlying E=some (.int .u8))(hx:Opd env x (tS.is l)) :
  Op1 P ⟨d,.convert T U x,ty,pos,aft,gd⟩ env res ((tL (tI .u8)).is (bytesOf l)):=
 Op1.val fun a g hc=>by
  obtain ⟨h1,h2⟩:=hx.atStr hc
  have hrun:=Lib.run_convert_string_bytes (P:=P) g.w T U E (Dec.str l) hT hU hE
  have hlen:(Dec.str l).size=l.length:=str_size l
  let g':G:=⟨Lib.bytesWorld g.w E (Dec.str l),fun b=>if b=g.w.heap.size then l.length else g.S b⟩
  have e:Ext No g g':=by
   refine ⟨rfl,rfl,rfl,?_,fun b hb _=>⟨Lib.bytesWorld_at_old g.w E _ b hb,?_⟩,fun b i v hv=>⟨?_,?_⟩,fun b n hv=>hv.same (Lib.bytesWorld_at_old g.w E _ b hv.lt) ?_⟩
   ·show g.w.heap.size≤(Lib.bytesWorld g.w E (Dec.str l)).heap.size
    rw [Lib.bytesWorld_size];omega
   ·show (if b=g.w.heap.size then _ else _)=_
    rw [if_neg (by omega)]
   ·show i<(if b=g.w.heap.size then _ else _)
    have:=hv.lt
    rw [if_neg (by omega)];exact hv.1
   ·show (Lib.bytesWorld g.w E (Dec.str l)).cell? _=_
    rw [Lib.bytesWorld_old _ _ _ _ (show (⟨b,i,none⟩:Addr).block<g.w.heap.size from hv.lt)];exact hv.2
   ·show g.S b≤(if b=g.w.heap.size then _ else _)
    have:=hv.lt
    rw [if_neg (by omega)];exact Nat.le_refl _
  refine ⟨.slice (some ⟨g.w.heap.size,0,none⟩) (Dec.str l).size (grownCap g.w (Dec.str l).size 0 E),g',by simp [execOp,h1,hrun,g'],e,?_⟩
  have hb:(bytesOf l).length=l.length:=by simp [bytesOf]
  have hrow:Row (tI .u8) g' (some ⟨g.w.heap.size,0,none⟩) (bytesOf l):=by
   refine ⟨.inr rfl,fun i u hi=>?_⟩
   have hil:i<l.length:=by have:=(List.getElem?_eq_some_iff.1 hi).1;omega
   have hu:u=(l[i].toNat:Int):=by simpa [bytesOf,hil] using hi.symm
   refine ⟨[.int .u8 u],⟨rfl,by rw [hu,inR8];have:=l[i].toNat_lt;omega⟩,fun j v hj=>?_⟩
   have hj0:j=0:=by have:=(List.getElem?_eq_some_iff.1 hj).1;simp at this;exact this
   subst hj0
   simp at hj;subst hj
   have hsz:(tI .u8).size=1:=rfl
   refine ⟨?_,?_⟩
   ·show 0+i*(tI .u8).size+0<(if g.w.heap.size=g.w.heap.size then _ else _)
    rw [if_pos rfl,hsz];omega
   ·show (Lib.bytesWorld g.w E (Dec.str l)).cell? ⟨g.w.heap.size,0+i*(tI .u8).size+0,none⟩=_
    rw [hsz,Nat.mul_one,Nat.zero_add,Nat.add_zero,Lib.bytesWorld_cell _ _ _ _ (by rw [hlen];exact hil),hu]
    simp [Dec.str,List.getD,hil]
  refine ⟨[_],⟨some ⟨g.w.heap.size,0,none⟩,grownCap g.w (Dec.str l).size 0 E,by rw [hb,hlen],?_,by rw [hb];exact h2,fun h=>(by cases h),hrow⟩,rfl⟩
  rw [hb]
  have:=grownCap_ge g.w (Dec.str l).size 0 E
  omega
end
end Go.Dec
