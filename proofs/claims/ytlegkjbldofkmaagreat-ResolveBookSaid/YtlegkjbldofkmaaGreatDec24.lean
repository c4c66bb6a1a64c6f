/-
  strings.Split at a separator of one byte: what it computes, in the words of this logic; out of the library's contract.
-/
import Derived.Test.YtlegkjbldofkmaaGreatDec23
import Derived.Lib.Split
import Derived.Lib.SplitLaws
set_option linter.unusedVariables false
set_option linter.unusedSimpArgs false
namespace Go.Dec
open Go
theorem ixB_lib(x:UInt8):∀ s:Str,Lib.indexByte s x=ixB s (x.toNat:Int)
 | []=>rfl
 | b :: l=>by
  have ih:=ixB_lib x l
  unfold Lib.indexByte ixB
  by_cases h:b=x
  ·subst h;simp
  ·have hn:¬ ((b.toNat:Int)=(x.toNat:Int)):=fun e=>h (UInt8.toNat_inj.1 (by omega))
   rw [if_neg hn,←ih]
   simp [h]
theorem ixB_range(c:Int):∀ s:Str,-1≤ixB s c∧ixB s c<s.length
 | []=>by simp [ixB]
 | b :: l=>by
  have ih:=ixB_range c l
  unfold ixB
  simp only [List.length_cons]
  split
  ·omega
  ·split<;> omega
theorem indexByte_spec{P:Program}{f:FuncId}
  (hsp:∀ (s:ByteArray) (c:Int) (w:World),Calls P f #[.string s,.int .u8 c] w fun e w'=>e= .returned (.int .i64 (Lib.indexByte s.data.toList c.toNat.toUInt8))∧w'=w)
  (s:Str) (c:Int) (r:Int) (hm:ixM s c=some r):FSpec P f [tS.is s,(tI .u8).is c] ((tI .i64).is r):=by
 cases hm
 intro g vs hvs
 match vs,hvs with
 | [v1,v2],hvs=>
  obtain ⟨⟨_,⟨rfl,hl1⟩,rfl⟩,⟨_,⟨rfl,hc⟩,rfl⟩,_⟩:=hvs
  refine (hsp (str s) c g.w).mono ?_
  rintro e w' ⟨rfl,rfl⟩
  have h0:0≤c∧c≤255:=hc
  have e1:((c.toNat.toUInt8).toNat:Int)=c:=by
   have:c.toNat.toUInt8.toNat=c.toNat % 256:=rfl
   rw [this];omega
  have e2:Lib.indexByte (str s).data.toList c.toNat.toUInt8=ixB s c:=by
   show Lib.indexByte s c.toNat.toUInt8=_
   rw [ixB_lib,e1]
  have hr:=ixB_range c s
  rw [e2]
  refine ⟨_,g,rfl,rfl,Ext.refl _ _,⟨_,⟨rfl,?_⟩,rfl⟩⟩
  have:s.length≤140737488355328:=hl1
  exact inR64.2 (by omega)
end Go.Dec
