/-
  strconv.FormatInt at base 10, strconv.Atoi and strings.Cut: what they compute, in the words of this logic; out of the library's contracts.
-/
import Derived.Test.YtalogjkalmkpjaaGreatDoorDec24
import Derived.Test.YtalogjkalmkpjaaGreatDoorDec28
import Derived.Lib.LaidTab
import Derived.Lib.ItoaLen
import Derived.Lib.AtoiAllCases
import Derived.Lib.AppendIntMem
import Derived.Below
import Derived.Lib.IndexMore
import Derived.Lib.BufferRead
import Derived.Lib.AtoiErrMem
set_option linter.unusedVariables false
set_option linter.unusedSimpArgs false
namespace Go.Dec
open Go Go.RowKit
def GlT(P:Program)(name:String)(k:IntKind)(zs:List Int):Res where
 blk:=fun _=>False
 holds:=fun g=>∃ b,P.globalNamed name=some b∧g.Full b (.inl zs.length)∧ ∀ (i:Nat) z,zs[i]? =some z→g.Has b i (.int k z)
 stay:=fun e _ ⟨b,h1,h2,h3⟩=>⟨b,h1,e.rows _ _ h2,fun i z hz=>e.kept _ _ _ (h3 i z hz)⟩
 lt:=fun _ hb=>by cases hb
theorem GlT.tab{P:Program}{name:String}{k:IntKind}{zs:List Int}{g:G}(h:(GlT P name k zs).holds g):Lib.TabIs P g.w name k zs:=by
 obtain ⟨b,h1,h2,h3⟩:=h
 show g.w.var? P name=_
 have he0:=Array.getElem?_eq_getElem h2.lt
 rcases h2.row he0 with ⟨cs,t,u,ho,hn0⟩ | ⟨_,_,_,hn0,_⟩
 ·have he:g.w.heap[b]? =some (.cells cs t u):=by rw [he0,ho]
  have hn:cs.size=zs.length:=(Sum.inl.inj hn0).symm
  have:cs=(zs.map fun z=>Value.int k z).toArray:=by
   apply Array.ext_getElem?
   intro i
   by_cases hi:i<zs.length
   ·have h4:=(h3 i _ (List.getElem?_eq_getElem hi)).2
    simp only [World.cell?,he] at h4
    simp [hi,List.getElem?_eq_getElem]
    simpa using h4
   ·rw [Array.getElem?_eq_none (by omega),Array.getElem?_eq_none (by simp;omega)]
  simp [World.var?,h1,he,this]
 ·cases hn0
theorem ext_below{g:G}{w':World}(h:Below g.w.heap.size g.w w'):Ext No g ⟨w',fun b=>if b<g.w.heap.size then g.S b else 0⟩:=
 ext_of _ h.os h.tape h.output h.size (fun x hx _=>⟨h.block x hx,if_pos hx⟩) (fun x hf=>hf.elim)
theorem specR_below{P:Program}{f:FuncId}{As:List Asn}{rin:Rs}{A:Asn}
  (h:∀ (g:G) (vs:List Value),All2 As vs g→rin.all g→Calls P f vs.toArray g.w fun e w'=>∃ v,e= .returned v∧Below g.w.heap.size g.w w'∧ ∀ g',A.holds v g'):FSpecR P f As rin (fun _:Unit=>A) (fun _=>[]):=by
 intro g vs hvs hr hd
 refine (h g vs hvs hr).mono ?_
 rintro e w' ⟨v,rfl,hb,hv⟩
 exact ⟨(),_,_,rfl,rfl,(ext_below hb).no,hv _,fun y hy=>(by cases hy),List.Pairwise.nil,fun b' ⟨y,hy,_⟩=>by cases hy⟩
theorem itoa_spec{P:Program}{f:FuncId}{nm:String}
  (hsp:∀ (n:Int),-9223372036854775808≤n→n≤9223372036854775807→∀ w:World,Lib.TabIs P w nm .u64 Lib.pow10Tab→
   Calls P f #[.int .i64 n] w fun e w'=>e= .returned (.string ⟨(Lib.itoa n).toArray⟩)∧ ∃ k os,w'=Sort.grow (w.drewN k) os)
  (key:Nat) (n:Int) (r:Str) (hm:itoaM n=some r):FSpecR P f [(tI .i64).is n] [(key,GlT P nm .u64 Lib.pow10Tab)] (fun _:Unit=>tS.is r) (fun _=>[]):=by
 cases hm
 refine specR_below fun g vs hvs hr=>?_
 match vs,hvs with
 | [v1],hvs=>
  obtain ⟨⟨_,⟨rfl,hl1⟩,rfl⟩,_⟩:=hvs
  have htab:=GlT.tab (hr _ List.mem_cons_self)
  have hb:-9223372036854775808≤n∧n≤9223372036854775807:=inR64.1 hl1
  refine (hsp n hb.1 hb.2 g.w htab).mono ?_
  rintro e w' ⟨rfl,k,os,rfl⟩
  exact ⟨_,rfl,Lib.below_grow _ _ (Nat.le_refl _) k os,fun g'=>⟨_,⟨rfl,by have:=Lib.itoa_length_le n hb.1 hb.2;unfold lim;omega⟩,rfl⟩⟩
def GlI(b:Nat):Res where
 blk:=fun _=>False
 holds:=fun g=>∃ ev,g.Has b 0 ev∧(ev= .nilIface∨ ∃ te pe,ev= .iface te pe)
 stay:=fun e _ ⟨m,h,k⟩=>⟨m,e.kept _ _ _ h,k⟩
 lt:=fun _ hb=>by cases hb
theorem Fld.arr{α:Type}{t:Ty α}{n j:Nat}(hj:j<n)(z:α):Fld (tA n t) (j*t.size) t (fun xs=>(xs[j]?).getD z):=by
 rintro g cs x ⟨hl,h⟩
 have hj':j<x.length:=by omega
 have h1:=h.2.2 j _ (List.getElem?_eq_getElem hj')
 show ∃ ds,t.rep g ds ((x[j]?).getD z)∧_
 rw [List.getElem?_eq_getElem hj']
 exact h1
theorem FldSet.arr{α:Type}{t:Ty α}{n j:Nat}(hj:j<n):FldSet (tA n t) (j*t.size) t (fun xs y=>xs.set j y):=by
 rintro g cs ds x y ⟨hl,h⟩ hy
 have hb:(j+1)*t.size≤n*t.size:=Nat.mul_le_mul_right _ hj
 rw [Nat.add_mul,Nat.one_mul] at hb
 refine ⟨by rw [h.1,t.len hy,hl];exact hb,by rw [List.length_set];exact hl,h.set hy (by omega)⟩
end Go.Dec
