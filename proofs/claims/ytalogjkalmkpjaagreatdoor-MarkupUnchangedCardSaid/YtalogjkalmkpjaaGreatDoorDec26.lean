/-
  Slices of the call's own inside structs: the token stands in the reading of the struct.
-/
import Derived.Test.YtalogjkalmkpjaaGreatDoorDec21
set_option linter.unusedVariables false
set_option linter.unusedSimpArgs false
namespace Go.Dec
open Go
def tOT{α:Type}(t:Ty α)(k:Tok):Ty (List α) where
 size:=1
 agg:=false
 rep:=fun g cs xs=>∃ v,cs= [v]∧(tO t k xs).holds v g
 len:=fun ⟨v,h,_⟩=>by rw [h];rfl
 one:=fun ⟨v,h,hv⟩ c hc=>by
  rw [h] at hc
  rw [List.mem_singleton.1 hc,hv.1];rfl
 mono:=fun e ⟨v,h,hv⟩=>⟨v,h,(tO t k _).mono e hv⟩
 sing:=fun _=>rfl
theorem tOT_le{α:Type}(t:Ty α)(k:Tok):Le (tOT t k) (tL t):=⟨rfl,rfl,by
 rintro g cs xs ⟨v,rfl,hv⟩
 obtain ⟨ds,hd,he⟩:=tO_tL hv
 have hl:=(tL t).len hd
 match ds,hl with
 | [c],_=>
  have:v=c:=he
  rw [this];exact hd⟩
theorem Le.pair{α β:Type}{s s':Ty α}{t t':Ty β}(h:Le s s')(k:Le t t'):Le (tP s t) (tP s' t'):=by
 refine ⟨?_,rfl,?_⟩
 ·show s.size+t.size=s'.size+t'.size
  rw [h.size,k.size]
 ·rintro g cs x ⟨c1,c2,rfl,h1,h2⟩
  exact ⟨c1,c2,rfl,h.rep _ _ _ h1,k.rep _ _ _ h2⟩
theorem Le.one{α:Type}{s s':Ty α}(h:Le s s'):Le (tOne s) (tOne s'):=⟨h.size,rfl,h.rep⟩
theorem Le.mapT{α β:Type}{t t':Ty β}(h:Le t t')(m:α→β):Le (tMap t m) (tMap t' m):=⟨h.size,h.agg,fun g cs x hx=>h.rep g cs (m x) hx⟩
def FldSetT{α β:Type}(s s':Ty α)(o:Nat)(t:Ty β)(upd:α→β→α):Prop:=
 ∀ g cs ds x y,s.rep g cs x→t.rep g ds y→o+ds.length≤cs.length∧s'.rep g (over cs o ds) (upd x y)
theorem FldSetT.here{α β:Type}(s s':Ty α)(t:Ty β)(hz:s.size=s'.size):FldSetT (tP s t) (tP s' t) 0 s' (fun x y=>(y,x.2)):=by
 rintro g cs ds x y ⟨c1,c2,rfl,h1,h2⟩ hy
 have e1:=s.len h1;have e2:=s'.len hy
 refine ⟨by rw [List.length_append];omega,ds,c2,?_,hy,h2⟩
 unfold over
 rw [List.take_zero,List.nil_append,Nat.zero_add,e2,←hz,←e1,List.drop_left]
theorem FldSetT.next{α β γ:Type}{s:Ty α}{t t':Ty β}{u:Ty γ}{o:Nat}{f:β→γ→β}(h:FldSetT t t' o u f):FldSetT (tP s t) (tP s t') (s.size+o) u (fun x y=>(x.1,f x.2 y)):=by
 rintro g cs ds x y ⟨c1,c2,rfl,h1,h2⟩ hy
 obtain ⟨hl,hr⟩:=h g c2 ds x.2 y h2 hy
 have e1:=s.len h1
 refine ⟨by rw [List.length_append];omega,c1,over c2 o ds,?_,h1,hr⟩
 unfold over
 rw [List.take_append,List.drop_append,e1]
 rw [List.take_of_length_le (by omega),show s.size+o-s.size=o by omega,List.drop_eq_nil_of_le (by omega),show s.size+o+ds.length-s.size=o+ds.length by omega]
 simp
theorem FldSetT.one{α:Type}(s s':Ty α)(hz:s.size=s'.size):FldSetT (tOne s) (tOne s') 0 s' (fun _ y=>y):=by
 intro g cs ds x y h1 hy
 have e1:=s.len h1;have e2:=s'.len hy
 refine ⟨by omega,?_⟩
 unfold over
 rw [List.take_zero,List.nil_append,Nat.zero_add,e2,←hz,←e1,List.drop_length,List.append_nil]
 exact hy
theorem FldSetT.map{α β γ:Type}{t t':Ty β}{u:Ty γ}{o:Nat}{f:β→γ→β}{m:α→β}{f':α→γ→α}(h:FldSetT t t' o u f)(hm:∀ x y,m (f' x y)=f (m x) y):FldSetT (tMap t m) (tMap t' m) o u f':=by
 intro g cs ds x y h1 hy
 obtain ⟨hl,hr⟩:=h g cs ds (m x) y h1 hy
 refine ⟨hl,?_⟩
 show t'.rep g _ (m (f' x y))
 rw [hm];exact hr
theorem FldSetT.cast{α β:Type}{s s':Ty α}{o o':Nat}{t:Ty β}{f f':α→β→α}(h:FldSetT s s' o t f)(ho:o'=o)(hf:f'=f):FldSetT s s' o' t f':=by subst ho hf;exact h
section
variable {P:Program} {N:Nat} {g0:G} {T0:Nat→Prop} {env:Env} {res:Rs} {d:Option Tmp} {ty:TypeId} {pos:String} {aft:Array Edge} {gd:Option (Nat×Bool)}
theorem Opd.toOT{α:Type}{t:Ty α}{k:Tok}{xs:List α}{x:Operand}(h:Opd env x (tO t k xs)):Opd env x ((tOT t k).is xs):=h.weak fun v g hv=>⟨[v],⟨v,rfl,hv⟩,rfl⟩
theorem Opd.leT{α:Type}{s t:Ty α}{u:α}{x:Operand}(l:Le s t)(h:Opd env x (s.is u)):Opd env x (t.is u):=h.weak fun v g ⟨cs,h1,h2⟩=>⟨cs,l.rep _ _ _ h1,by rw [←l.agg];exact h2⟩
theorem Op1.ofOT{α:Type}{t:Ty α}{k:Tok}{xs:List α}{o:Oper}(h:Op1 P o env res ((tOT t k).is xs)):Op1 P o env res (tO t k xs):=h.weak fun v g ⟨cs,⟨c,h1,h2⟩,h3⟩=>by
 subst h1
 have:v=c:=h3
 rw [this];exact h2
def BuildT(P:Program)(env:Env){α:Type}(s':Ty α)(fs:Array Field):List (Nat×Operand)→Ty α→α→α→Prop
 | [],s,x,x'=>s=s'∧x'=x
 | (i,o) :: ps,s,x,x'=>∃ (s1:Ty α) (β:Type) (t:Ty β) (y:β) (upd:α→β→α) (fd:Field),fs[i]? =some fd∧(∀ w,(sizeOf fd.type).run P w= .ok t.size w)∧Opd env o (t.is y)∧FldSetT s s1 fd.offset t upd∧BuildT P env s' fs ps s1 (upd x y) x'
theorem fill_buildT{α:Type}{s':Ty α}{fs:Array Field}{a:Act}{g:G}(he:∀ s B,look s env=some B→B.holds (a.tmps.getD s undef) g)(pl:Array (Nat×Nat))(hpl:∀ (i:Nat) (fd:Field) (sz:Nat),fs[i]? =some fd→(∀ w,(sizeOf fd.type).run P w= .ok sz w)→pl[i]? =some (fd.offset,sz)) :
  ∀ (ps:List (Nat×Operand)) (s:Ty α) (x x':α) (cells:Array Value),BuildT P env s' fs ps s x x'→s.rep g cells.toList x→∃ cs,Instr.fill (pl[·]?) cells (ps.map fun p=>(p.1,a.eval p.2))=some cs∧s'.rep g cs.toList x'
 | [],s,x,x',cells,h,hr=>⟨cells,rfl,by rw [show x'=x from h.2,←h.1];exact hr⟩
 | (i,o) :: ps,s,x,x',cells,h,hr=>by
  obtain ⟨s1,β,t,y,upd,fd,h1,h2,h3,h4,h5⟩:=h
  obtain ⟨ds,hd,hv⟩:=h3 a g he
  have hc:(a.eval o).cells=ds.toArray:=by rw [hv];exact t.cells hd
  obtain ⟨hl,hs⟩:=h4 g cells.toList ds x y hr hd
  have hsz:(a.eval o).cells.size=t.size:=by rw [hc];simp [t.len hd]
  have hl':fd.offset+(a.eval o).cells.size≤cells.size:=by rw [hc];simpa using hl
  have hfold:=fold_cells fd.offset (a.eval o) cells hl'
  rw [hc] at hfold
  obtain ⟨cs,hcs,hrs⟩:=fill_buildT he pl hpl ps s1 (upd x y) x' ((a.eval o).cells.zipIdx.foldl (fun cs (p:Value×Nat)=>cs.setIfInBounds (fd.offset+p.2) p.1) cells) h5 (by rw [hc,hfold];exact hs)
  refine ⟨cs,?_,hrs⟩
  simp only [List.map_cons,Instr.fill,hpl i fd t.size h1 h2]
  have h6:¬ ((decide ((a.eval o).cells.size≠t.size) || decide (fd.offset+(a.eval o).cells.size > cells.size))=true):=by
   simp only [Bool.or_eq_true,decide_eq_true_eq];omega
  rw [if_neg h6]
  exact hcs
theorem Op1.buildT{α:Type}{s s':Ty α}{T:TypeId}{fs:Array Field}{ps:List (Nat×Operand)}{z x:α}(f:Field→Nat)(hagg:s'.agg=true)(hT:P.underlying T=some (.struct fs))(hf:∀ fd,fd∈fs→∀ w,(sizeOf fd.type).run P w= .ok (f fd) w)
  (hz:ZeroAt P T s z) (h:BuildT P env s' fs ps s z x):Op1 P ⟨d,.build T ps.toArray,ty,pos,aft,gd⟩ env res (s'.is x):=
 Op1.same fun a g hc=>by
  obtain ⟨v,hv,hzr⟩:=hz.zero
  obtain ⟨cs0,hcs0,hv0⟩:=hzr g
  have hvc:v.cells=cs0.toArray:=by rw [hv0];exact s.cells hcs0
  obtain ⟨cs,h1,h2⟩:=fill_buildT (P:=P) hc.henv (fs.map fun fd=>(fd.offset,f fd)) (fun i fd sz hi hs=>by
   have hm:fd∈fs:=Array.mem_of_getElem? hi
   have:=(hf fd hm g.w).symm.trans (hs g.w)
   cases this
   simp [hi]) ps s z x cs0.toArray h (by simpa using hcs0)
  refine ⟨.agg cs,?_,⟨cs.toList,h2,by rw [hagg];simp [mkVal]⟩⟩
  simp only [execOp,Instr.build,Sem.run_bind,hv,Result.andThen_ok,hvc,run_underlying hT,run_places f hf,List.map_toArray,h1,Sem.run_pure]
theorem OpR.storeBFT{α β:Type}{s s':Ty α}{t:Ty β}{upd:α→β→α}{T T':TypeId}{b o:Nat}{u:α}{v:β}{x y:Operand}(key:Nat)(hs:s.agg=true)(hs':s'.agg=true)(ht:TyAt P T t)(hF:FldSetT s s' o t upd)(hr:res.pick [key]= [(key,Bx s.size true T' (s.is u) b)])
  (ho:o+t.size≤s.size) (hx:Opd env x (Bp b o)) (hy:Opd env y (t.is v)) :
  OpR P ⟨none,.store T x y,ty,pos,aft,gd⟩ env res [key] (fun _:Unit=>Asn.any) (fun _=>[(key,Bx s.size true T' (s'.is (upd u v)) b)]):=
 OpR.storeAt key ht.size (Cellable.is t v) hr hx hy ho (fun g g' cs ds e h1 h2 h3 h4=>by
  obtain ⟨cs',k1,k2⟩:=h2
  rw [hs] at k2
  have e1:cs=cs':=by
   have:=congrArg Value.cells k2
   simpa [mkVal,Value.cells] using this
  subst e1
  obtain ⟨ds',j1,j2⟩:=h3
  have e2:ds=ds':=by
   have hl:=t.len j1
   cases ha:t.agg with
   | true=>
    rw [ha] at j2
    have:=congrArg Value.cells j2
    simpa [mkVal,Value.cells] using this
   | false=>
    rw [ha] at j2
    have hn:=t.sing ha
    rw [hn] at h4 hl
    match ds,ds',h4,hl with
    | [c],[c'],_,_=>
     have:c=c':=j2
     rw [this]
  subst e2
  exact ⟨over cs o ds,(hF g' cs ds u v (s.mono e k1) (t.mono e j1)).2,by rw [hs']⟩)
end
theorem Le.is{α:Type}{s t:Ty α}(l:Le s t){u:α}{v:Value}{g:G}(h:(s.is u).holds v g):(t.is u).holds v g:=by
 obtain ⟨cs,h1,h2⟩:=h
 exact ⟨cs,l.rep _ _ _ h1,by rw [←l.agg];exact h2⟩
section
variable {P:Program} {N:Nat} {g0:G} {T0:Nat→Prop} {ks:List KF} {B:Exit→Act→World→Prop} {env:Env} {res:Rs}
theorem WN.weakR{res':Rs}(hr:RSub res' res)(h:WN P N g0 T0 ks B env res'):WN P N g0 T0 ks B env res:=
 fun a g hst=>h a g ⟨hst.sz,hst.dfr,hst.henv,fun x hx=>hst.hres x (hr.mem x hx),hr.dis hst.dis,fun b ⟨x,hx,hb⟩=>hst.own b ⟨x,hr.mem x hx,hb⟩,hst.ext⟩
theorem WN.rekey{res':Rs}(e:res.map Prod.snd=res'.map Prod.snd)(h:WN P N g0 T0 ks B env res'):WN P N g0 T0 ks B env res:=
 fun a g hst=>h a g (hst.rekey e)
end
end Go.Dec
