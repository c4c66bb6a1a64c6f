/-
  Contracts of the shelf's, in these readings: Contains, Repeat.
-/
import Derived.Test.YtalogjkalmkpjaaGreatDoorDec29
set_option linter.unusedVariables false
set_option linter.unusedSimpArgs false
namespace Go.Dec
open Go Go.RowKit
theorem contains_spec{P:Program}{f:FuncId}{b:Nat}
  (hsp:∀ (s sub:ByteArray) (m:Int) (w:World),s.size<4294967281→w.cell? ⟨b,0,none⟩=some (.int .i64 m)→
   Calls P f #[.string s,.string sub] w fun e w'=>e= .returned (.bool (Lib.contains s.data.toList sub.data.toList))∧w'=w)
  (key:Nat) (s sub:Str) (r:Bool) (hm:containsM s sub=some r):FSpecR P f [tS.is s,tS.is sub] [(key,GlE b)] (fun _:Unit=>tB.is r) (fun _=>[]):=by
 unfold containsM at hm
 split at hm
 ·rename_i hlen
  cases hm
  refine specR_below fun g vs hvs hr=>?_
  match vs,hvs with
  | [v1,v2],hvs=>
   obtain ⟨⟨_,⟨rfl,hl1⟩,rfl⟩,⟨_,⟨rfl,_⟩,rfl⟩,_⟩:=hvs
   obtain ⟨m,_,hmx⟩:=hr _ List.mem_cons_self
   have hsz:(str s).size=s.length:=by simp [str,ByteArray.size]
   refine (hsp (str s) (str sub) m g.w (by rw [hsz];exact hlen) hmx).mono ?_
   rintro e w' ⟨rfl,rfl⟩
   have e1:(str s).data.toList=s:=by simp [str]
   have e2:(str sub).data.toList=sub:=by simp [str]
   rw [e1,e2]
   exact ⟨_,rfl,Below.refl _ _,fun g'=>⟨_,rfl,rfl⟩⟩
 ·cases hm
theorem repeat_len(l:Str):∀ c:Nat,(Lib.repeatL l c).length=l.length*c
 | 0=>rfl
 | c+1=>by rw [Lib.repeatL,List.length_append,repeat_len l c,Nat.mul_succ];omega
theorem repeat_spec{P:Program}{f:FuncId}
  (hsp:∀ (s:ByteArray) (c:Nat) (w:World),c≤9223372036854775807→s.size*c≤140737488355328→
   Calls P f #[.string s,.int .i64 c] w fun e w'=>e= .returned (.string ⟨(Lib.repeatL s.data.toList c).toArray⟩)∧Below w.heap.size w w')
  (s:Str) (n:Int) (r:Str) (hm:repeatM s n=some r):FSpec P f [tS.is s,(tI .i64).is n] (tS.is r):=by
 unfold repeatM at hm
 split at hm
 ·rename_i h
  cases hm
  refine FSpecR.pure (specR_below fun g vs hvs hr=>?_)
  match vs,hvs with
  | [v1,v2],hvs=>
   obtain ⟨⟨_,⟨rfl,hl1⟩,rfl⟩,⟨_,⟨rfl,hn⟩,rfl⟩,_⟩:=hvs
   have hb:=inR64.1 hn
   have hsz:(str s).size=s.length:=by simp [str,ByteArray.size]
   have hc:((n.toNat:Nat):Int)=n:=by omega
   have:=hsp (str s) n.toNat g.w (by omega) (by rw [hsz];exact h.2)
   rw [hc] at this
   refine this.mono ?_
   rintro e w' ⟨rfl,hbl⟩
   have e1:(str s).data.toList=s:=by simp [str]
   rw [e1]
   exact ⟨_,rfl,hbl,fun g'=>⟨_,⟨rfl,by rw [repeat_len];unfold lim;exact h.2⟩,rfl⟩⟩
 ·cases hm
end Go.Dec
