/-
  Tables and error variables of the library's own, out of what a row lists.
-/
import Derived.Test.YtalogjkalmkpjaaGreatDoorReadG
import Derived.Test.YtalogjkalmkpjaaGreatDoorDec29
set_option linter.unusedVariables false
set_option linter.unusedSimpArgs false
namespace Go.Dec
open Go
theorem GlT.ofLaid{P:Program}{W:World}{laid:List (String×DataW Unit)}(hp:(laid.all fun x=>x.2.handleName?.isNone)=true)(h:laidMetH P laid W){name:String}{d:DataW Unit}(hm:(name,d)∈laid){b:Nat}{T:TypeId}{n:Nat}{k:IntKind}{zs:List Int}
  (hg:P.globalNamed name=some b) (hT:(P.globals[b]?).map (·.type)=some T) (hr:RdV P W T (tA n (tI k)) d zs) (h0:0<n):(GlT P name k zs).holds (G.top W):=by
 rw [MakeChecks.laidMetH_plain _ _ _ hp] at h;obtain ⟨ps,hl,_⟩:=h;obtain ⟨g,t',cs,fuel,qs,h1,h2,h3,h4⟩:=Bc hl hm;obtain rfl:=Option.some.inj (hg.symm.trans h1);obtain rfl:=Option.some.inj (hT.symm.trans h2);obtain ⟨hn,hcl⟩:=hr _ _ _ _ _ h4;have hsz:cs.size=zs.length:=by
  have:=hcl.1;have e:(tI k).size=1:=rfl;rw [e,Nat.mul_one] at this;simpa using this
 have hrow:∃ t u,W.heap[b]? =some (.cells cs t u):=by
  unfold World.var? at h3;rw [h1] at h3;simp only [Option.bind_some] at h3;split at h3
  ·rename_i c t u he;cases h3;exact ⟨t,u,he⟩
  ·cases h3
 obtain ⟨t,u,hb⟩:=hrow;refine ⟨b,hg,⟨?_,?_,?_⟩,fun i z hz=>?_⟩
 ·show rowN W b=_;unfold rowN;rw [hb,←hsz];rfl
 ·show zs.length≤(match W.heap[b]? with | some (.cells c _ _)=>c.size | _=>0);rw [hb,←hsz];exact Nat.le_refl _
 ·show 0<zs.length;omega
 ·obtain ⟨ds,⟨rfl,_⟩,hd⟩:=hcl.2.2 i z hz;have hc:=hd 0 _ rfl;have e:(tI k).size=1:=rfl;rw [e,Nat.mul_one,Nat.add_zero] at hc;have hc':cs[i]? =some (.int k z):=by simpa using hc
  have hv:=World.var?_cell h1 h3 i;rw [hc'] at hv;exact (rE hv).2
theorem GlI.ofLaid{P:Program}{W:World}{laid:List (String×DataW Unit)}(hp:(laid.all fun x=>x.2.handleName?.isNone)=true)(h:laidMetH P laid W){name:String}{nm:String}{x:DataW Unit}(hm:(name,.iface nm x)∈laid){b:Nat}{T:TypeId}{ms:Array (String×TypeId)}
  (hg:P.globalNamed name=some b) (hT:(P.globals[b]?).map (·.type)=some T) (hu:P.underlying T=some (.interface ms)):(GlI b).holds (G.top W):=by
 rw [MakeChecks.laidMetH_plain _ _ _ hp] at h;obtain ⟨ps,hl,_⟩:=h;obtain ⟨g,t',cs,fuel,qs,h1,h2,h3,h4⟩:=Bc hl hm;obtain rfl:=Option.some.inj (hg.symm.trans h1);obtain rfl:=Option.some.inj (hT.symm.trans h2);have key:∃ te pe,cs[0]? =some (.iface te pe):=by
  have hcs:∃ te pe,cs.toList= [.iface te pe]:=by
   cases fuel with
   | zero=>cases h4
   | succ fuel=>
    unfold DataW.trod at h4;rw [hu] at h4;split at h4<;> first
     | exact ⟨_,_,by assumption⟩
     | (simp at *;done)
     | skip
    all_goals first
     | (exact ⟨_,_,by assumption⟩)
     | (simp at h4;done)
     | (rename_i e1 e2;first | exact ⟨_,_,e2⟩ | (cases e1))
  obtain ⟨te,pe,he⟩:=hcs;refine ⟨te,pe,?_⟩;have:cs.toList[0]? =some (.iface te pe):=by rw [he];rfl
  simpa using this
 obtain ⟨te,pe,hc⟩:=key;have hv:=World.var?_cell h1 h3 0;rw [hc] at hv;exact ⟨_,(rE hv).2,.inr ⟨te,pe,rfl⟩⟩
end Go.Dec
