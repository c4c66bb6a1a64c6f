/-
  strconv.FormatInt at base 10, strconv.Atoi and strings.Cut: what they compute, in the words of this logic; out of the library's contracts.
-/
import Derived.Test.YtofaogkcifaioaaDoorDec24
import Derived.Test.YtofaogkcifaioaaDoorDec28
import Derived.Lib.LaidTab
import Derived.Lib.ItoaLen
import Derived.Lib.AtoiAllCases
import Derived.Lib.AppendIntMem
import Derived.Below
import Derived.Lib.IndexMore
import Derived.Lib.BufferRead
import Derived.Lib.AtoiErrMem
set_option linter.unusedVariables false
set_option linter.unusedSimpArgs false
namespace Go.Dec
open Go Go.RowKit
theorem ext_below{g:G}{w':World}(h:Below g.w.heap.size g.w w'):Ext No g ⟨w',fun b=>if b<g.w.heap.size then g.S b else 0⟩:=
 ext_of _ h.os h.tape h.output h.size (fun x hx _=>⟨h.block x hx,if_pos hx⟩) (fun x hf=>hf.elim)
theorem specR_below{P:Program}{f:FuncId}{As:List Asn}{rin:Rs}{A:Asn}
  (h:∀ (g:G) (vs:List Value),All2 As vs g→rin.all g→Calls P f vs.toArray g.w fun e w'=>∃ v,e= .returned v∧Below g.w.heap.size g.w w'∧ ∀ g',A.holds v g'):FSpecR P f As rin (fun _:Unit=>A) (fun _=>[]):=by
 intro g vs hvs hr hd
 refine (h g vs hvs hr).mono ?_
 rintro e w' ⟨v,rfl,hb,hv⟩
 exact ⟨(),_,_,rfl,rfl,(ext_below hb).no,hv _,fun y hy=>(by cases hy),List.Pairwise.nil,fun b' ⟨y,hy,_⟩=>by cases hy⟩
theorem cut_lens(s sep:Str):(Lib.cut s sep).1.length≤s.length∧(Lib.cut s sep).2.1.length≤s.length:=by
 unfold Lib.cut
 split
 ·exact ⟨by simp [Nat.min_le_right],by simp⟩
 ·exact ⟨Nat.le_refl _,by simp⟩
theorem cut_spec{P:Program}{f:FuncId}{b:Nat}
  (hsp:∀ (s sep:ByteArray) (m:Int) (w:World),s.size<4294967281→w.cell? ⟨b,0,none⟩=some (.int .i64 m)→
   Calls P f #[.string s,.string sep] w fun e w'=>e= .returned (.tuple #[.string ⟨(Lib.cut s.data.toList sep.data.toList).1.toArray⟩,.string ⟨(Lib.cut s.data.toList sep.data.toList).2.1.toArray⟩,.bool (Lib.cut s.data.toList sep.data.toList).2.2])∧ ∃ n,w'=w.drewN n)
  (key:Nat) (s sep:Str) (r:Str×Str×Bool) (hm:cutM s sep=some r):FSpecR P f [tS.is s,tS.is sep] [(key,GlE b)] (fun _:Unit=>Asn.tuple3 (tS.is r.1) (tS.is r.2.1) (tB.is r.2.2)) (fun _=>[]):=by
 unfold cutM at hm
 split at hm
 ·rename_i hlen
  cases hm
  refine specR_below fun g vs hvs hr=>?_
  match vs,hvs with
  | [v1,v2],hvs=>
   obtain ⟨⟨_,⟨rfl,hl1⟩,rfl⟩,⟨_,⟨rfl,_⟩,rfl⟩,_⟩:=hvs
   obtain ⟨m,_,hmx⟩:=hr _ List.mem_cons_self
   have hsz:(str s).size=s.length:=by simp [str,ByteArray.size]
   have h1:=(cut_lens s sep).1
   have h2:=(cut_lens s sep).2
   refine (hsp (str s) (str sep) m g.w (by rw [hsz];exact hlen) hmx).mono ?_
   rintro e w' ⟨rfl,n,rfl⟩
   have e1:(str s).data.toList=s:=by simp [str]
   have e2:(str sep).data.toList=sep:=by simp [str]
   rw [e1,e2]
   exact ⟨_,rfl,⟨rfl,rfl,rfl,Nat.le_refl _,fun _ _=>rfl⟩,fun g'=>⟨_,_,_,rfl,⟨[.string (str (Lib.cut s sep).1)],⟨rfl,by unfold lim;omega⟩,rfl⟩,⟨[.string (str (Lib.cut s sep).2.1)],⟨rfl,by unfold lim;omega⟩,rfl⟩,⟨_,rfl,rfl⟩⟩⟩
 ·cases hm
theorem Fld.arr{α:Type}{t:Ty α}{n j:Nat}(hj:j<n)(z:α):Fld (tA n t) (j*t.size) t (fun xs=>(xs[j]?).getD z):=by
 rintro g cs x ⟨hl,h⟩
 have hj':j<x.length:=by omega
 have h1:=h.2.2 j _ (List.getElem?_eq_getElem hj')
 show ∃ ds,t.rep g ds ((x[j]?).getD z)∧_
 rw [List.getElem?_eq_getElem hj']
 exact h1
theorem FldSet.arr{α:Type}{t:Ty α}{n j:Nat}(hj:j<n):FldSet (tA n t) (j*t.size) t (fun xs y=>xs.set j y):=by
 rintro g cs ds x y ⟨hl,h⟩ hy
 have hb:(j+1)*t.size≤n*t.size:=Nat.mul_le_mul_right _ hj
 rw [Nat.add_mul,Nat.one_mul] at hb
 refine ⟨by rw [h.1,t.len hy,hl];exact hb,by rw [List.length_set];exact hl,h.set hy (by omega)⟩
theorem Op1.indexAddrB{P:Program}{d:Option Tmp}{ty:TypeId}{pos:String}{aft:Array Edge}{gd:Option (Nat×Bool)}{env:Env}{res:Rs}{T E:TypeId}{n b sz:Nat}{x y:Operand}{k:IntKind}{i:Int}(hT:P.underlying T=some (.array n E))(hsz:∀ w,(sizeOf E).run P w= .ok sz w)(hx:Opd env x (Bp b 0))(hy:Opd env y ((tI k).is i))(hi:0≤i∧i<n) :
  Op1 P ⟨d,.indexAddr T x y,ty,pos,aft,gd⟩ env res (Bp b (i.toNat*sz)):=
 Op1.same fun a g hc=>by
  have hv:a.eval x= .pointer (some ⟨b,0,none⟩):=hx a g hc.henv
  have hw:=(hy.atInt hc).1
  refine ⟨.pointer (some ⟨b,i.toNat*sz,none⟩),?_,rfl⟩
  simp [execOp,hv,hw,Instr.indexAt,run_underlying hT,Instr.sureAddr,hsz,hi,asIntOf,Addr.add_lit]
end Go.Dec
