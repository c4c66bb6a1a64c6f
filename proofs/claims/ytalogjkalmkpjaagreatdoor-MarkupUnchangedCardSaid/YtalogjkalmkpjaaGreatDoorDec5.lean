/-
  Rules for literals, sealed boxes and function values.
-/
import Derived.Test.YtalogjkalmkpjaaGreatDoorDec4
set_option linter.unusedVariables false
set_option linter.unusedSimpArgs false
namespace Go.Dec
open Go
def over(cs:List Value)(o:Nat)(ds:List Value):List Value:=cs.take o++ds++cs.drop (o+ds.length)
theorem over_length{cs ds:List Value}{o:Nat}(h:o+ds.length≤cs.length):(over cs o ds).length=cs.length:=by
 simp only [over,List.length_append,List.length_take,List.length_drop];omega
theorem over_get{cs ds:List Value}{o:Nat}(h:o+ds.length≤cs.length)(i:Nat):(over cs o ds)[i]? =if o≤i∧i<o+ds.length then ds[i-o]? else cs[i]?:=by
 unfold over
 have hl:(cs.take o).length=o:=by rw [List.length_take];omega
 by_cases h1:i<o
 ·rw [List.append_assoc,List.getElem?_append_left (by omega),List.getElem?_take,if_pos h1,if_neg (by omega)]
 ·by_cases h2:i<o+ds.length
  ·rw [List.getElem?_append_left (by rw [List.length_append];omega),List.getElem?_append_right (by omega),hl,if_pos ⟨by omega,h2⟩]
  ·rw [List.getElem?_append_right (by rw [List.length_append];omega),List.length_append,hl,List.getElem?_drop,if_neg (by omega)]
   congr 1;omega
theorem fold_over(o:Nat):∀ (ds:List Value) (k:Nat) (cells:Array Value),o+k+ds.length≤cells.size→
  ((ds.zipIdx k).foldl (fun cs (p:Value×Nat)=>cs.setIfInBounds (o+p.2) p.1) cells).toList=over cells.toList (o+k) ds
 | [],k,cells,_=>by simp [over]
 | d :: ds,k,cells,h=>by
  simp only [List.length_cons] at h
  simp only [List.zipIdx_cons,List.foldl_cons]
  rw [fold_over o ds (k+1) _ (by simp;omega)]
  apply List.ext_getElem?
  intro i
  rw [over_get (by simp;omega),over_get (by simp;omega)]
  simp only [Array.toList_setIfInBounds,List.length_cons]
  by_cases h1:i=o+k
  ·subst h1
   rw [if_neg (by omega),if_pos (by omega),List.getElem?_set]
   simp
   omega
  ·by_cases h2:o+(k+1)≤i∧i<o+(k+1)+ds.length
   ·rw [if_pos h2,if_pos (by omega),show i-(o+k)=(i-(o+(k+1)))+1 by omega]
    rfl
   ·rw [if_neg h2,if_neg (by omega),List.getElem?_set]
    rw [if_neg (by omega)]
theorem fold_cells(o:Nat)(v:Value)(cells:Array Value)(h:o+v.cells.size≤cells.size) :
  (v.cells.zipIdx.foldl (fun cs (p:Value×Nat)=>cs.setIfInBounds (o+p.2) p.1) cells).toList=over cells.toList o v.cells.toList:=by
 rw [←Array.foldl_toList,Array.toList_zipIdx]
 have:=fold_over o v.cells.toList 0 cells (by simpa using h)
 simpa using this
theorem Cells.set{α:Type}{t:Ty α}{g:G}{cs ds:List Value}{xs:List α}{i:Nat}{y:α}(h:Cells t g cs xs)(k:t.rep g ds y)(hi:i<xs.length):Cells t g (over cs (i*t.size) ds) (xs.set i y):=by
 have hb:(i+1)*t.size≤xs.length*t.size:=Nat.mul_le_mul_right _ hi
 rw [Nat.add_mul,Nat.one_mul] at hb
 have hl:i*t.size+ds.length≤cs.length:=by rw [h.1,t.len k];exact hb
 refine ⟨by rw [over_length hl,h.1,List.length_set],fun c hc=>?_,fun j x hx=>?_⟩
 ·unfold over at hc
  rcases List.mem_append.1 hc with hc | hc
  ·rcases List.mem_append.1 hc with hc | hc
   ·exact h.2.1 c (List.mem_of_mem_take hc)
   ·exact t.one k c hc
  ·exact h.2.1 c (List.mem_of_mem_drop hc)
 ·rw [List.getElem?_set] at hx
  by_cases hj:i=j
  ·subst hj
   rw [if_pos rfl,if_pos hi] at hx
   cases hx
   refine ⟨ds,k,fun q v hq=>?_⟩
   rw [over_get hl,if_pos ⟨by omega,by have:=(List.getElem?_eq_some_iff.1 hq).1;omega⟩,Nat.add_sub_cancel_left]
   exact hq
  ·rw [if_neg hj] at hx
   obtain ⟨es,h1,h2⟩:=h.2.2 j x hx
   refine ⟨es,h1,fun q v hq=>?_⟩
   have hql:=(List.getElem?_eq_some_iff.1 hq).1
   rw [t.len h1] at hql
   rw [over_get hl,if_neg]
   ·exact h2 q v hq
   ·rw [t.len k]
    rcases Nat.lt_or_gt_of_ne hj with hlt | hgt
    ·have:=Nat.mul_le_mul_right t.size (show i+1≤j from hlt)
     rw [Nat.add_mul,Nat.one_mul] at this
     omega
    ·have:=Nat.mul_le_mul_right t.size (show j+1≤i from hgt)
     rw [Nat.add_mul,Nat.one_mul] at this
     omega
def FldSet{α β:Type}(s:Ty α)(o:Nat)(t:Ty β)(upd:α→β→α):Prop:=
 ∀ g cs ds x y,s.rep g cs x→t.rep g ds y→o+ds.length≤cs.length∧s.rep g (over cs o ds) (upd x y)
theorem FldSet.here{α β:Type}(s:Ty α)(t:Ty β):FldSet (tP s t) 0 s (fun x y=>(y,x.2)):=by
 rintro g cs ds x y ⟨c1,c2,rfl,h1,h2⟩ hy
 have e1:=s.len h1;have e2:=s.len hy
 refine ⟨by rw [List.length_append];omega,ds,c2,?_,hy,h2⟩
 unfold over
 rw [List.take_zero,List.nil_append,Nat.zero_add,e2,←e1,List.drop_left]
theorem FldSet.next{α β γ:Type}{s:Ty α}{t:Ty β}{u:Ty γ}{o:Nat}{f:β→γ→β}(h:FldSet t o u f):FldSet (tP s t) (s.size+o) u (fun x y=>(x.1,f x.2 y)):=by
 rintro g cs ds x y ⟨c1,c2,rfl,h1,h2⟩ hy
 obtain ⟨hl,hr⟩:=h g c2 ds x.2 y h2 hy
 have e1:=s.len h1
 refine ⟨by rw [List.length_append];omega,c1,over c2 o ds,?_,h1,hr⟩
 unfold over
 rw [List.take_append,List.drop_append,e1]
 rw [List.take_of_length_le (by omega),show s.size+o-s.size=o by omega,List.drop_eq_nil_of_le (by omega),show s.size+o+ds.length-s.size=o+ds.length by omega]
 simp
theorem FldSet.last{α:Type}(s:Ty α):FldSet s 0 s (fun _ y=>y):=by
 intro g cs ds x y h1 hy
 have e1:=s.len h1;have e2:=s.len hy
 refine ⟨by omega,?_⟩
 unfold over
 rw [List.take_zero,List.nil_append,Nat.zero_add,e2,←e1,List.drop_length,List.append_nil]
 exact hy
theorem FldSet.map{α β γ:Type}{t:Ty β}{u:Ty γ}{o:Nat}{f:β→γ→β}{m:α→β}{f':α→γ→α}(h:FldSet t o u f)(hm:∀ x y,m (f' x y)=f (m x) y):FldSet (tMap t m) o u f':=by
 intro g cs ds x y h1 hy
 obtain ⟨hl,hr⟩:=h g cs ds (m x) y h1 hy
 refine ⟨hl,?_⟩
 show t.rep g _ (m (f' x y))
 rw [hm];exact hr
theorem FldSet.cast{α β:Type}{s:Ty α}{o o':Nat}{t:Ty β}{f f':α→β→α}(h:FldSet s o t f)(ho:o'=o)(hf:f'=f):FldSet s o' t f':=by subst ho hf;exact h
structure ZeroAt (P:Program) {α:Type} (T:TypeId) (t:Ty α) (z:α):Prop where
 zero:∃ v,(∀ w,(zeroValue T).run P w= .ok v w)∧ ∀ g,∃ cs,t.rep g cs z∧v=mkVal t.agg cs
section
variable {P:Program} {N:Nat} {g0:G} {T0:Nat→Prop} {env:Env} {res:Rs} {d:Option Tmp} {ty:TypeId} {pos:String} {aft:Array Edge} {gd:Option (Nat×Bool)}
def Build(P:Program)(env:Env){α:Type}(s:Ty α)(fs:Array Field):List (Nat×Operand)→α→α→Prop
 | [],x,x'=>x'=x
 | (i,o) :: ps,x,x'=>∃ (β:Type) (t:Ty β) (y:β) (upd:α→β→α) (fd:Field),fs[i]? =some fd∧(∀ w,(sizeOf fd.type).run P w= .ok t.size w)∧Opd env o (t.is y)∧FldSet s fd.offset t upd∧Build P env s fs ps (upd x y) x'
theorem fill_build{α:Type}{s:Ty α}{fs:Array Field}{a:Act}{g:G}(he:∀ s B,look s env=some B→B.holds (a.tmps.getD s undef) g)(pl:Array (Nat×Nat))(hpl:∀ (i:Nat) (fd:Field) (sz:Nat),fs[i]? =some fd→(∀ w,(sizeOf fd.type).run P w= .ok sz w)→pl[i]? =some (fd.offset,sz)) :
  ∀ (ps:List (Nat×Operand)) (x x':α) (cells:Array Value),Build P env s fs ps x x'→s.rep g cells.toList x→∃ cs,Instr.fill (pl[·]?) cells (ps.map fun p=>(p.1,a.eval p.2))=some cs∧s.rep g cs.toList x'
 | [],x,x',cells,h,hr=>⟨cells,rfl,by rw [show x'=x from h];exact hr⟩
 | (i,o) :: ps,x,x',cells,h,hr=>by
  obtain ⟨β,t,y,upd,fd,h1,h2,h3,h4,h5⟩:=h
  obtain ⟨ds,hd,hv⟩:=h3 a g he
  have hc:(a.eval o).cells=ds.toArray:=by rw [hv];exact t.cells hd
  obtain ⟨hl,hs⟩:=h4 g cells.toList ds x y hr hd
  have hsz:(a.eval o).cells.size=t.size:=by rw [hc];simp [t.len hd]
  have hl':fd.offset+(a.eval o).cells.size≤cells.size:=by rw [hc];simpa using hl
  have hfold:=fold_cells fd.offset (a.eval o) cells hl'
  rw [hc] at hfold
  obtain ⟨cs,hcs,hrs⟩:=fill_build he pl hpl ps (upd x y) x' ((a.eval o).cells.zipIdx.foldl (fun cs (p:Value×Nat)=>cs.setIfInBounds (fd.offset+p.2) p.1) cells) h5 (by rw [hc,hfold];exact hs)
  refine ⟨cs,?_,hrs⟩
  simp only [List.map_cons,Instr.fill,hpl i fd t.size h1 h2]
  have h6:¬ ((decide ((a.eval o).cells.size≠t.size) || decide (fd.offset+(a.eval o).cells.size > cells.size))=true):=by
   simp only [Bool.or_eq_true,decide_eq_true_eq];omega
  rw [if_neg h6]
  exact hcs
theorem run_places{fs:Array Field}(f:Field→Nat)(hf:∀ fd,fd∈fs→∀ w,(sizeOf fd.type).run P w= .ok (f fd) w)(w:World) :
  (fs.mapM fun fd=>do pure (fd.offset,←sizeOf fd.type):Sem (Array (Nat×Nat))).run P w= .ok (fs.map fun fd=>(fd.offset,f fd)) w:=by
 obtain ⟨l⟩:=fs
 have:∀ (l:List Field),(∀ fd,fd∈l→∀ w,(sizeOf fd.type).run P w= .ok (f fd) w)→∀ w,(l.mapM fun fd=>do pure (fd.offset,←sizeOf fd.type):Sem (List (Nat×Nat))).run P w= .ok (l.map fun fd=>(fd.offset,f fd)) w:=by
  intro l
  induction l with
  | nil=>intro _ w;simp
  | cons x l ih=>
   intro h w
   have h1:=h x (by simp) w
   have h2:=ih (fun fd hfd=>h fd (by simp [hfd])) w
   simp [h1] at h2 ⊢
   simp [h2]
 have h:=this l (fun fd hfd=>hf fd (by simpa using hfd)) w
 simp at h ⊢
 simp [h]
theorem Op1.build{α:Type}{s:Ty α}{T:TypeId}{fs:Array Field}{ps:List (Nat×Operand)}{z x:α}(f:Field→Nat)(hagg:s.agg=true)(hT:P.underlying T=some (.struct fs))(hf:∀ fd,fd∈fs→∀ w,(sizeOf fd.type).run P w= .ok (f fd) w)
  (hz:ZeroAt P T s z) (h:Build P env s fs ps z x):Op1 P ⟨d,.build T ps.toArray,ty,pos,aft,gd⟩ env res (s.is x):=
 Op1.same fun a g hc=>by
  obtain ⟨v,hv,hzr⟩:=hz.zero
  obtain ⟨cs0,hcs0,hv0⟩:=hzr g
  have hvc:v.cells=cs0.toArray:=by rw [hv0];exact s.cells hcs0
  obtain ⟨cs,h1,h2⟩:=fill_build (P:=P) hc.henv (fs.map fun fd=>(fd.offset,f fd)) (fun i fd sz hi hs=>by
   have hm:fd∈fs:=Array.mem_of_getElem? hi
   have:=(hf fd hm g.w).symm.trans (hs g.w)
   cases this
   simp [hi]) ps z x cs0.toArray h (by simpa using hcs0)
  refine ⟨.agg cs,?_,⟨cs.toList,h2,by rw [hagg];simp [mkVal]⟩⟩
  simp only [execOp,Instr.build,Sem.run_bind,hv,Result.andThen_ok,hvc,run_underlying hT,run_places f hf,List.map_toArray,h1,Sem.run_pure]
def Parts(env:Env){α:Type}(t:Ty α):List (Nat×Operand)→List (Nat×α)→Prop
 | [],[]=>True
 | (i,o) :: ps,(j,y) :: ys=>i=j∧Opd env o (t.is y)∧Parts env t ps ys
 | _,_=>False
theorem fill_parts{α:Type}{t:Ty α}{n:Nat}{a:Act}{g:G}(he:∀ s B,look s env=some B→B.holds (a.tmps.getD s undef) g) :
  ∀ (ps:List (Nat×Operand)) (ys:List (Nat×α)) (xs:List α) (cells:Array Value),Parts env t ps ys→xs.length=n→(∀ p∈ys,p.1<n)→Cells t g cells.toList xs→
   ∃ cs,Instr.fill (fun i=>some (i*t.size,t.size)) cells (ps.map fun p=>(p.1,a.eval p.2))=some cs∧Cells t g cs.toList (ys.foldl (fun l p=>l.set p.1 p.2) xs)
 | [],[],xs,cells,_,_,_,hr=>⟨cells,rfl,hr⟩
 | [],_ :: _,_,_,h,_,_,_=>h.elim
 | _ :: _,[],_,_,h,_,_,_=>h.elim
 | (i,o) :: ps,(j,y) :: ys,xs,cells,h,hn,hlt,hr=>by
  obtain ⟨rfl,h2,h3⟩:=h
  obtain ⟨ds,hd,hv⟩:=h2 a g he
  have hc:(a.eval o).cells=ds.toArray:=by rw [hv];exact t.cells hd
  have hi:i<xs.length:=by rw [hn];exact hlt (i,y) (by simp)
  have hset:=hr.set hd hi
  have hb:(i+1)*t.size≤xs.length*t.size:=Nat.mul_le_mul_right _ hi
  rw [Nat.add_mul,Nat.one_mul] at hb
  have hcl:cells.size=xs.length*t.size:=by have:=hr.1;simpa using this
  have hsz:(a.eval o).cells.size=t.size:=by rw [hc];simp [t.len hd]
  have hl':i*t.size+(a.eval o).cells.size≤cells.size:=by rw [hsz,hcl];exact hb
  have hfold:=fold_cells (i*t.size) (a.eval o) cells hl'
  rw [hc] at hfold
  obtain ⟨cs,hcs,hrs⟩:=fill_parts he ps ys (xs.set i y) ((a.eval o).cells.zipIdx.foldl (fun cs (p:Value×Nat)=>cs.setIfInBounds (i*t.size+p.2) p.1) cells) h3 (by rw [List.length_set];exact hn) (fun p hp=>hlt p (by simp [hp])) (by rw [hc,hfold];exact hset)
  refine ⟨cs,?_,hrs⟩
  simp only [List.map_cons,Instr.fill]
  have h6:¬ ((decide ((a.eval o).cells.size≠t.size) || decide (i*t.size+(a.eval o).cells.size > cells.size))=true):=by
   simp only [Bool.or_eq_true,decide_eq_true_eq];omega
  rw [if_neg h6]
  exact hcs
theorem Cells.replicate{α:Type}{t:Ty α}{g:G}{cs:List Value}{z:α}(h:t.rep g cs z):∀ n,Cells t g (List.replicate n cs).flatten (List.replicate n z)
 | 0=>Cells.nil
 | n+1=>by
  rw [List.replicate_succ,List.replicate_succ,List.flatten_cons]
  exact Cells.cons h (Cells.replicate h n)
theorem range_mod_replicate(cs:List Value)(n:Nat):((Array.range (n*cs.length)).map (cs.toArray[· % cs.toArray.size]!)).toList=(List.replicate n cs).flatten:=by
 apply List.ext_getElem?
 intro i
 have hfl:∀ n,((List.replicate n cs).flatten).length=n*cs.length:=fun n=>by simp
 have hget:∀ n i,i<n*cs.length→((List.replicate n cs).flatten)[i]? =cs[i % cs.length]?:=by
  intro n
  induction n with
  | zero=>intro i h;simp at h
  | succ n ih=>
   intro i h
   rw [List.replicate_succ,List.flatten_cons]
   by_cases hi:i<cs.length
   ·rw [List.getElem?_append_left hi,Nat.mod_eq_of_lt hi]
   ·rw [List.getElem?_append_right (by omega),ih _ (by rw [Nat.add_mul] at h;omega)]
    congr 1
    exact (Nat.mod_eq_sub_mod (by omega)).symm
 by_cases hi:i<n*cs.length
 ·rw [hget n i hi]
  have hpos:0<cs.length:=by
   rcases Nat.eq_zero_or_pos cs.length with h0 | h0
   ·rw [h0] at hi;simp at hi
   ·exact h0
  have hm:=Nat.mod_lt i hpos
  simp [hi,hm]
 ·rw [List.getElem?_eq_none (by simp;omega)]
  rw [List.getElem?_eq_none (by rw [hfl];omega)]
theorem OpR.buildSlice{α:Type}{t:Ty α}{E T:TypeId}{n:Nat}{ps:List (Nat×Operand)}{ys:List (Nat×α)}{z:α}{xs:List α}(key:Nat)(hT:P.underlying T=some (.slice E))(hE:ElAt P E t)(hz:ZeroAt P E t z)
  (hp:Parts env t ps ys) (hlt:∀ p∈ys,p.1<n) (hn:n*t.size≤16777216) (hxs:ys.foldl (fun l p=>l.set p.1 p.2) (List.replicate n z)=xs) :
  OpR P ⟨d,.buildSlice T n ps.toArray,ty,pos,aft,gd⟩ env res [] (fun k:Tok=>tO t k xs) (fun k=>[(key,Own t E k xs.length)]):=by
 intro a g K Q hc hd hK
 obtain ⟨v,hv,hzr⟩:=hz.zero
 obtain ⟨cs0,hcs0,hv0⟩:=hzr g
 have hvc:v.cells=cs0.toArray:=by rw [hv0];exact t.cells hcs0
 have hl0:=t.len hcs0
 have hstart:Cells t g ((Array.range (n*t.size)).map (cs0.toArray[· % cs0.toArray.size]!)).toList (List.replicate n z):=by
  rw [←hl0,range_mod_replicate];exact Cells.replicate hcs0 n
 obtain ⟨cs,h1,h2⟩:=fill_parts (n:=n) hc.henv ps ys _ _ hp (by simp) hlt hstart
 rw [hxs] at h2
 have hxl:xs.length=n:=by
  have:∀ (ys:List (Nat×α)) (l:List α),(ys.foldl (fun l p=>l.set p.1 p.2) l).length=l.length:=by
   intro ys
   induction ys with
   | nil=>intro l;rfl
   | cons p ys ih=>intro l;rw [List.foldl_cons,ih,List.length_set]
  rw [←hxs,this];simp
 have hrun:(Instr.buildSlice T n (ps.toArray.map fun (i,x)=>(i,a.eval x))).run P g.w= .ok (.slice (some ⟨g.w.heap.size,0,none⟩) n n) (g.w.alloc (.cells cs E)):=by
  have hpos:=hE.pos
  have hsz:=hE.size g.w
  by_cases hn0:n*t.size=0
  ·have:n=0:=by rcases Nat.mul_eq_zero.1 hn0 with h | h;exact h;omega
   subst this
   have hcells:(Array.range (0*t.size)).map (cs0.toArray[· % cs0.toArray.size]!)=(#[]:Array Value):=by simp
   have hcells2:(Array.range (0*t.size)).map ((#[]:Array Value)[· % (#[]:Array Value).size]!)=(#[]:Array Value):=by simp
   rw [hcells] at h1
   simp only [Instr.buildSlice,Sem.run_bind,run_underlying hT,Result.andThen_ok,hsz]
   rw [if_neg (by omega),if_pos hn0]
   simp only [Sem.run_pure,Sem.run_bind,Result.andThen_ok,hcells2,List.map_toArray]
   simp only [h1,Sem.run_bind,newRow,run_newObj,Result.andThen_ok,Sem.run_pure,World.alloc_eq]
  ·simp only [Instr.buildSlice,Sem.run_bind,run_underlying hT,Result.andThen_ok,hsz]
   rw [if_neg (by omega),if_neg hn0]
   simp only [Sem.run_bind,hv,Result.andThen_ok,Sem.run_pure,hvc,List.map_toArray]
   simp only [h1,Sem.run_bind,newRow,run_newObj,Result.andThen_ok,Sem.run_pure,World.alloc_eq]
 unfold Oper.wp execOp
 simp only [Sem.run_bind,hrun,Result.andThen_ok,Sem.run_pure]
 let g':G:=g.alloc (.cells cs E) (n*t.size)
 have e:Ext No g g':=Ext.alloc No _ _ _
 have hheap:g'.w.heap[g.w.heap.size]? =some (.cells cs E (0,0)):=heap_alloc_new g.w _
 have hcl:cs.size=n*t.size:=by have:=h2.1;rw [hxl] at this;simpa using this
 have hnlim:n≤lim:=by
  have:=Nat.le_mul_of_pos_right n hE.pos
  unfold lim;omega
 refine hK (some (g.w.heap.size,n)) (.slice (some ⟨g.w.heap.size,0,none⟩) n n) g' e.no ?_ ?_ (List.pairwise_singleton _ _) ?_
 ·refine ⟨by simp [Tok.addr,Tok.cap,hxl],by simp [Tok.cap,hxl],by rw [hxl];exact hnlim,?_⟩
  show Row t g' (some ⟨g.w.heap.size,0,none⟩) xs
  refine (h2.mono e).row fun j v hj=>⟨?_,?_⟩
  ·show 0+j<(if g.w.heap.size=g.w.heap.size then _ else _)
   rw [if_pos rfl]
   have:=(List.getElem?_eq_some_iff.1 hj).1
   rw [h2.1,hxl] at this;omega
  ·rw [cell_of_row _ _ _ _ _ _ hheap,Nat.zero_add]
   simpa using hj
 ·intro y hy
  rw [List.mem_singleton.1 hy]
  refine ⟨cs,hheap,hcl,by simp [hxl],by unfold maxLen;unfold lim at hnlim;omega,?_⟩
  show (if g.w.heap.size=g.w.heap.size then _ else _)=_
  rw [if_pos rfl,hxl]
 ·rintro b ⟨y,hy,hb⟩
  rw [List.mem_singleton.1 hy] at hb
  simp [Own] at hb
  exact .inr (by omega)
theorem Op1.buildSlice{α:Type}{t:Ty α}{E T:TypeId}{n:Nat}{ps:List (Nat×Operand)}{ys:List (Nat×α)}{z:α}{xs:List α}(hT:P.underlying T=some (.slice E))(hE:ElAt P E t)(hz:ZeroAt P E t z)
  (hp:Parts env t ps ys) (hlt:∀ p∈ys,p.1<n) (hn:n*t.size≤16777216) (hxs:ys.foldl (fun l p=>l.set p.1 p.2) (List.replicate n z)=xs) :
  Op1 P ⟨d,.buildSlice T n ps.toArray,ty,pos,aft,gd⟩ env res ((tL t).is xs):=by
 intro a g K Q hc hK
 have h:=OpR.buildSlice (P:=P) (d:=d) (ty:=ty) (pos:=pos) (aft:=aft) (gd:=gd) (env:=env) (res:=[]) 0 hT hE hz hp hlt hn hxs
 refine h a g K Q ⟨hc.henv,fun _ h=>by cases h⟩ List.Pairwise.nil fun x v g' e hv _ _ _=>hK v g' (e.mono fun b ⟨y,hy,_⟩=>by cases hy) (tO_tL hv)
theorem at_alloc{α:Type}{t:Ty α}{T:TypeId}{g:G}{cs:List Value}{x:α}(h:t.rep g cs x) :
  (t.ptr x).holds (.pointer (some ⟨g.w.heap.size,0,none⟩)) (g.alloc (.cells cs.toArray T) cs.length):=by
 refine ⟨g.w.heap.size,0,rfl,cs,t.mono (Ext.alloc No g _ _) h,fun j v hj=>⟨?_,?_⟩⟩
 ·show 0+j<(if g.w.heap.size=g.w.heap.size then _ else _)
  rw [if_pos rfl,Nat.zero_add]
  exact (List.getElem?_eq_some_iff.1 hj).1
 ·have hheap:(g.alloc (.cells cs.toArray T) cs.length).w.heap[g.w.heap.size]? =some (.cells cs.toArray T (0,0)):=heap_alloc_new g.w _
  rw [cell_of_row _ _ _ _ _ _ hheap,Nat.zero_add]
  simpa using hj
theorem Op1.box{α:Type}{t:Ty α}{T:TypeId}{x:Operand}{u:α}(h:Opd env x (t.is u)):Op1 P ⟨d,.box T x,ty,pos,aft,gd⟩ env res (t.ptr u):=
 Op1.val fun a g hc=>by
  obtain ⟨cs,hr,hv⟩:=h a g hc.henv
  have hvc:(a.eval x).cells=cs.toArray:=by rw [hv];exact t.cells hr
  exact ⟨_,g.alloc (.cells cs.toArray T) cs.length,by simp [execOp,Instr.box,newVar,newRow,hvc,G.alloc],Ext.alloc _ _ _ _,at_alloc hr⟩
theorem Op1.alloc{α:Type}{t:Ty α}{T:TypeId}{z:α}(hz:ZeroAt P T t z):Op1 P ⟨d,.alloc T,ty,pos,aft,gd⟩ env res (t.ptr z):=
 Op1.val fun a g hc=>by
  obtain ⟨v,hv,hzr⟩:=hz.zero
  obtain ⟨cs,hr,hv0⟩:=hzr g
  have hvc:v.cells=cs.toArray:=by rw [hv0];exact t.cells hr
  exact ⟨_,g.alloc (.cells cs.toArray T) cs.length,by simp [execOp,Instr.alloc,hv,newVar,newRow,hvc,G.alloc],Ext.alloc _ _ _ _,at_alloc hr⟩
def tF(P:Program){σ:Type}(ok:σ→Prop)(As:σ→List Asn)(A:σ→Asn):Asn:=
 ⟨fun v g=>∃ f pre cap,v= .func (.func f) pre cap∧(∀ as w,(callFunc f as).run P w= .ok (.enter f as) w)∧ ∀ s,ok s→Does P (As s) (A s) f pre cap g,
  fun e ⟨f,pre,cap,h1,h2,h3⟩=>⟨f,pre,cap,h1,h2,fun s hs=>(h3 s hs).mono e⟩⟩
theorem All2.append{g:G}:∀ {As Bs:List Asn} {vs us:List Value},All2 As vs g→All2 Bs us g→All2 (As++Bs) (vs++us) g
 | [],_,[],_,_,h=>h
 | A :: As,_,v :: vs,_,h,k=>⟨h.1,All2.append h.2 k⟩
 | [],_,_ :: _,_,h,_=>h.elim
 | _ :: _,_,[],_,h,_=>h.elim
theorem All2.mono{T:Nat→Prop}{g g':G}(e:Ext T g g'):∀ {As:List Asn} {vs:List Value},All2 As vs g→All2 As vs g'
 | [],[],h=>h
 | A :: As,v :: vs,h=>⟨A.mono e h.1,All2.mono e h.2⟩
 | [],_ :: _,h=>h.elim
 | _ :: _,[],h=>h.elim
theorem Does.of{f:FuncId}{As Cs:List Asn}{A:Asn}{cap:List Value}{g:G}(h:FSpec P f (As++Cs) A)(hc:All2 Cs cap g):Does P As A f #[] cap.toArray g:=by
 intro T g1 e vs hvs
 have:=h g1 (vs++cap) (hvs.append (hc.mono e))
 simpa using this
theorem Does.ofP{f:FuncId}{Ps As:List Asn}{A:Asn}{pre:List Value}{g:G}(h:FSpec P f (Ps++As) A)(hp:All2 Ps pre g):Does P As A f pre.toArray #[] g:=by
 intro T g1 e vs hvs
 have:=h g1 (pre++vs) ((hp.mono e).append hvs)
 simpa using this
theorem Op1.makeFunc{σ:Type}{ok:σ→Prop}{As:σ→List Asn}{A:σ→Asn}{f:FuncId}{cap:List Operand}{Cs:List Asn}(hcall:∀ as w,(callFunc f as).run P w= .ok (.enter f as) w)(hcap:Opds env cap Cs)
  (h:∀ s,ok s→FSpec P f (As s++Cs) (A s)):Op1 P ⟨d,.makeFunc (.func f) #[] cap.toArray,ty,pos,aft,gd⟩ env res (tF P ok As A):=
 Op1.same fun a g hc=>⟨.func (.func f) #[] (cap.map a.eval).toArray,by simp [execOp,Instr.makeFunc],⟨f,_,_,rfl,hcall,fun s hs=>Does.of (h s hs) (Opds.all hc.henv hcap)⟩⟩
theorem Op1.bindFunc{σ:Type}{ok:σ→Prop}{As:σ→List Asn}{A:σ→Asn}{f:FuncId}{pre:List Operand}{Ps:List Asn}(hcall:∀ as w,(callFunc f as).run P w= .ok (.enter f as) w)(hpre:Opds env pre Ps)
  (h:∀ s,ok s→FSpec P f (Ps++As s) (A s)):Op1 P ⟨d,.makeFunc (.func f) pre.toArray #[],ty,pos,aft,gd⟩ env res (tF P ok As A):=
 Op1.same fun a g hc=>⟨.func (.func f) (pre.map a.eval).toArray #[],by simp [execOp,Instr.makeFunc],⟨f,_,_,rfl,hcall,fun s hs=>Does.ofP (h s hs) (Opds.all hc.henv hpre)⟩⟩
theorem Opd.fn{σ:Type}{ok:σ→Prop}{As:σ→List Asn}{A:σ→Asn}{f:FuncId}(hcall:∀ as w,(callFunc f as).run P w= .ok (.enter f as) w)(h:∀ s,ok s→FSpec P f (As s) (A s)):Opd env (.func f) (tF P ok As A):=
 fun a g he=>⟨f,#[],#[],rfl,hcall,fun s hs=>by
  have:=Does.of (P:=P) (cap:=[]) (g:=g) (Cs:=[]) (by simpa using h s hs) trivial
  simpa using this⟩
theorem Op1.callF{σ:Type}{ok:σ→Prop}{As:σ→List Asn}{A:σ→Asn}{x:Operand}{xs:List Operand}{ats:Array TypeId}(s:σ)(hx:Opd env x (tF P ok As A))(hs:ok s)(h:Opds env xs (As s)) :
  Op1 P ⟨d,.call ⟨.value x,xs.toArray,ats⟩,ty,pos,aft,gd⟩ env res (A s):=
 Op1.of_calls fun a g hc=>by
  obtain ⟨f,pre,cap,hv,hcall,hdo⟩:=hx a g hc.henv
  refine ⟨f,pre++(xs.map a.eval).toArray++cap,?_,hdo s hs No g (Ext.refl _ _) _ (Opds.all hc.henv h)⟩
  simp [execOp,resolve,hv,Deferred.ofValue,invoke,hcall]
end
end Go.Dec
