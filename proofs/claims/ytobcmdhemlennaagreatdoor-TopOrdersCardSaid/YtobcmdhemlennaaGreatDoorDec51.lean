/-
  How types are read, in short: fields, zero values, sizes as instances whose proofs are found.
-/
import Derived.Test.YtobcmdhemlennaaGreatDoorDec49
set_option maxRecDepth 100000
set_option linter.unusedVariables false
namespace Go.Dec
open Go
section
variable {α β γ:Type} {s:Ty α} {t:Ty β} {u:Ty γ} {o o':Nat}
theorem Fh:Fld (tP s t) 0 s Prod.fst:=.here s t
theorem Fo:Fld (tOne s) 0 s (λx=>x):=.one s
theorem Fk{f:β->γ}(h:Fld t o u f):Fld (tP s t) (s.size+o) u (λx=>f x.2):=.next h
theorem Fm{f:β->γ}{m:α->β}{f':α->γ}(h:Fld t o u f)(ho:o'=o:=by exact rfl)(hf:f'=(λx=>f (m x)):=by exact rfl):Fld (tMap t m) o' u f':=(Fld.map h).cast ho hf
theorem Sh:dU (tP s t) 0 s (λx y=>(y,x.2)):=.here s t
theorem So:dU (tOne s) 0 s (λ_ y=>y):=.one s
theorem Sk{f:β->γ->β}(h:dU t o u f):dU (tP s t) (s.size+o) u (λx y=>(x.1,f x.2 y)):=.next h
theorem Sm{f:β->γ->β}{m:α->β}{f':α->γ->α}(h:dU t o u f)(ho:o'=o:=by exact rfl)(hm:∀ x y,m (f' x y)=f (m x) y:=by exactλ_ _=>rfl):dU (tMap t m) o' u f':=(dU.map h hm).cast ho rfl
abbrev fm{f:β->γ}{m:α->β}{f':α->γ}(h:Fld t o u f)(ho:o'=o:=by exact rfl)(hf:f'=(λx=>f (m x)):=by exact rfl):FC (tMap t m) o' γ u f':=⟨Fm h ho hf⟩
abbrev sm{f:β->γ->β}{m:α->β}{f':α->γ->α}(h:dU t o u f)(ho:o'=o:=by exact rfl)(hm:∀ x y,m (f' x y)=f (m x) y:=by exactλ_ _=>rfl):SFC (tMap t m) o' γ u f':=⟨Sm h ho hm⟩
theorem Rec.z{F:Ty α->Ty α}{n:Nat}{h:Rec F n}{g:G}{cs:List Value}{x:α}(hr:(F (tFix h)).rep g cs x):(tFix h).rep g cs x:=h.into.rep _ _ _ hr
theorem zPr{g:G}{c d:List Value}{x:α×β}(h1:s.rep g c x.1)(h2:t.rep g d x.2):(tP s t).rep g (c++d) x:=⟨c,d,rfl,h1,h2⟩
theorem zOn{g:G}{c:List Value}{x:α}(h:s.rep g c x):(tOne s).rep g c x:=h
theorem Fr{F:Ty α->Ty α}{n:Nat}{h:Rec F n}{f:α->γ}(k:Fld (F (tFix h)) o u f):Fld (tFix h) o u f:=.le h.out k
theorem Sr{F:Ty α->Ty α}{n:Nat}{h:Rec F n}{f:α->γ->α}(k:dU (F (tFix h)) o u f):dU (tFix h) o u f:=.le h.out h.into k
end
section
variable {P:Program} {α:Type} {t:Ty α} {T:TypeId}
abbrev yM(a:∀ w,(isAgg T).run P w= .ok t.agg w)(s:∀ w,(sizeOf T).run P w= .ok t.size w):YC P T α t:=⟨⟨a,s⟩⟩
abbrev zM{z:α}{v:Value}(hz:∀ w,(zeroValue T).run P w= .ok v w)(h:∀ g,∃ cs,t.rep g cs z/\v=mkVal t.agg cs:=by
 intro g;apply Exists.intro;apply And.intro
 .repeat' first | exact rfl | exact ⟨rfl,inR64.2 ⟨by decide,by decide⟩⟩ | exact ⟨rfl,by decide⟩ | exact ⟨none,0,rfl,Nat.le_refl _,Nat.zero_le _,λ_=>rfl,rfl⟩ | exact .inl ⟨rfl,rfl⟩ | exact ⟨.nilFunc,rfl,.inr ⟨rfl,λ_=>rfl⟩⟩ | exact ⟨.nilFunc,rfl,.inr ⟨rfl,λs h=>by cases h⟩⟩ | apply zPr | apply zOn | apply Rec.z | apply zMp
 .exact rfl):ZeC P T α t z:=⟨⟨v,hz,h⟩⟩
abbrev eM{i:TypeInfo}{z:Value}(h1:P.info? T=some i)(h2:i.zero=some z)(h3:i.size=t.size:=by exact rfl)(h4:i.bytes<=512:=by decide)(h5:z.cells.size=t.size:=by exact rfl)(h6:0<t.size:=by decide):ElC P T α t:=⟨⟨⟨i,z,h1,h2,h3,h4,h5⟩,h6⟩⟩
class Szs (P:Program) (l:List Field):Prop where
 h:∀ fd,fd∈l->∃ n,∀ w,(sizeOf fd.type).run P w= .ok n w
instance Szs.nil:Szs P []:=⟨λ_ h=>by cases h⟩
instance Szs.cons {a1 a5 a6:String} {a4:Bool} {ft off a7 n:Nat} {l:List Field} [i:ZC P ft n] [k:Szs P l]:Szs P (⟨a1,ft,off,a4,a5,a6,a7⟩ :: l):=⟨λfd h=>by
 rcases List.mem_cons.1 h with rfl | h
 .exact ⟨n,i.h⟩
 .exact k.h fd h⟩
abbrev bM{fs:List Field}{z:α}(u:P.underlying T=some (.struct fs.toArray))(i:ZeC P T α t z:=by exact inferInstance)(s:Szs P fs:=by exact inferInstance)(a:t.agg=true:=by exact rfl):BuC P T α t fs.toArray z where
 a:=a
 u:=u
 f:=by
  have h:∀ fd:Field,∃ n,fd∈fs.toArray->∀ w,(sizeOf fd.type).run P w= .ok n w:=λfd=>by
   by_cases hm:fd∈fs
   .obtain ⟨n,hn⟩:=s.h fd hm;exact ⟨n,λ_=>hn⟩
   .exact ⟨0,λh=>absurd (by simpa using h) hm⟩
  exact ⟨λfd=>(h fd).choose,λfd hm=>(h fd).choose_spec hm⟩
 z:=i.h
end
end Go.Dec
