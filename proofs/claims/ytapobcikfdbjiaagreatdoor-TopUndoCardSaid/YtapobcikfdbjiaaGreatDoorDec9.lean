import Derived.Test.YtapobcikfdbjiaaGreatDoorDec4
import Derived.Laws.BitsLemmas
import Derived.Laws.StructEq
/-
  Rules for literals, sealed boxes and function values.
-/
set_option linter.unusedVariables false
set_option linter.unusedSimpArgs false
namespace Go.Dec
open Go
variable {σ:Type}{A:σ->Asn}{As:σ->List Asn}{T:TypeId}{cs ds:List Value}{f:FuncId}{fs:Array Field}{ps:List (Nat×Operand)}{α:Type}{xs:List α}{β:Type}
def over(cs:List Value)(o:Nat)(ds:List Value):List Value:=cs.take o++ds++cs.drop (o+ds.length)
theorem gq{o:Nat}(h:o+ds.length<=cs.length):(over cs o ds).length=cs.length:=by
 simp only [over,List.length_append,List.length_take,List.length_drop];omega
theorem mO{o:Nat}(h:o+ds.length<=cs.length)(i:Nat):(over cs o ds)[i]? =if o<=i/\i<o+ds.length then ds[i-o]? else cs[i]?:=by
 unfold over;have hl:(cs.take o).length=o:=by rw [List.length_take];omega
 by_cases h1:i<o
 ·rw [List.append_assoc,List.getElem?_append_left (by omega),List.getElem?_take,if_pos h1,if_neg (by omega)]
 ·by_cases h2:i<o+ds.length
  ·rw [List.getElem?_append_left (by rw [List.length_append];omega),List.getElem?_append_right (by omega),hl,if_pos ⟨by omega,h2⟩]
  ·rw [List.getElem?_append_right (by rw [List.length_append];omega),List.length_append,hl,List.getElem?_drop,if_neg (by omega)];congr 1;omega
theorem Er(o:Nat):∀ (ds:List Value) (k:Nat) (cells:Array Value),o+k+ds.length<=cells.size->
  ((ds.zipIdx k).foldl (fun cs (p:Value×Nat)=>cs.setIfInBounds (o+p.2) p.1) cells).toList=over cells.toList (o+k) ds
 | [],k,cells,_=>by simp [over]
 | d :: ds,k,cells,h=>by
  simp only [List.length_cons] at h;simp only [List.zipIdx_cons,List.foldl_cons];rw [Er o ds (k+1) _ (by simp;omega)];apply List.ext_getElem?;intro i;rw [mO (by simp;omega),mO (by simp;omega)];simp only [Array.toList_setIfInBounds,List.length_cons];by_cases h1:i=o+k
  ·subst h1;rw [if_neg (by omega),if_pos (by omega),List.getElem?_set];simp;omega
  ·by_cases h2:o+(k+1)<=i/\i<o+(k+1)+ds.length
   ·rw [if_pos h2,if_pos (by omega),show i-(o+k)=(i-(o+(k+1)))+1 by omega];rfl
   ·rw [if_neg h2,if_neg (by omega),List.getElem?_set];rw [if_neg (by omega)]
theorem CF(o:Nat)(v:Value)(cells:Array Value)(h:o+v.cells.size<=cells.size) :
  (v.cells.zipIdx.foldl (fun cs (p:Value×Nat)=>cs.setIfInBounds (o+p.2) p.1) cells).toList=over cells.toList o v.cells.toList:=by
 rw [<-Array.foldl_toList,Array.toList_zipIdx];have:=Er o v.cells.toList 0 cells (by simpa using h);simpa using this
theorem Cells.set{t:Ty α}{g:G}{i:Nat}{y:α}(h:Cells t g cs xs)(k:t.rep g ds y)(hi:i<xs.length):Cells t g (over cs (i*t.size) ds) (xs.set i y):=by
 have hb:(i+1)*t.size<=xs.length*t.size:=Nat.mul_le_mul_right _ hi;rw [Nat.add_mul,Nat.one_mul] at hb;have hl:i*t.size+ds.length<=cs.length:=by rw [h.1,t.len k];exact hb
 refine ⟨by rw [gq hl,h.1,List.length_set],fun c hc=>?_,fun j x hx=>?_⟩
 ·unfold over at hc;rcases List.mem_append.1 hc with hc | hc
  ·rcases List.mem_append.1 hc with hc | hc
   ·exact h.2.1 c (List.mem_of_mem_take hc)
   ·exact t.one k c hc
  ·exact h.2.1 c (List.mem_of_mem_drop hc)
 ·rw [List.getElem?_set] at hx;by_cases hj:i=j
  ·subst hj;rw [if_pos rfl,if_pos hi] at hx;cases hx;refine ⟨ds,k,fun q v hq=>?_⟩;rw [mO hl,if_pos ⟨by omega,by have:=(List.getElem?_eq_some_iff.1 hq).1;omega⟩,Nat.add_sub_cancel_left];exact hq
  ·rw [if_neg hj] at hx;obtain ⟨es,h1,h2⟩:=h.2.2 j x hx;refine ⟨es,h1,fun q v hq=>?_⟩;have hql:=(List.getElem?_eq_some_iff.1 hq).1;rw [t.len h1] at hql;rw [mO hl,if_neg]
   ·exact h2 q v hq
   ·rw [t.len k];rcases Nat.lt_or_gt_of_ne hj with hlt | hgt
    ·have:=Nat.mul_le_mul_right t.size (show i+1<=j from hlt);rw [Nat.add_mul,Nat.one_mul] at this;omega
    ·have:=Nat.mul_le_mul_right t.size (show j+1<=i from hgt);rw [Nat.add_mul,Nat.one_mul] at this;omega
def dN{α β:Type}(s:Ty α)(o:Nat)(t:Ty β)(upd:α->β->α):Prop:=
 ∀ g cs ds x y,s.rep g cs x->t.rep g ds y->o+ds.length<=cs.length/\s.rep g (over cs o ds) (upd x y)
theorem dN.here(s:Ty α)(t:Ty β):dN (tP s t) 0 s (fun x y=>(y,x.2)):=by
 rintro g cs ds x y ⟨c1,c2,rfl,h1,h2⟩ hy;have e1:=s.len h1;have e2:=s.len hy;refine ⟨by rw [List.length_append];omega,ds,c2,?_,hy,h2⟩;unfold over;rw [List.take_zero,List.nil_append,Nat.zero_add,e2,<-e1,List.drop_left]
theorem dN.next{γ:Type}{s:Ty α}{t:Ty β}{u:Ty γ}{o:Nat}{f:β->γ->β}(h:dN t o u f):dN (tP s t) (s.size+o) u (fun x y=>(x.1,f x.2 y)):=by
 rintro g cs ds x y ⟨c1,c2,rfl,h1,h2⟩ hy;obtain ⟨hl,hr⟩:=h g c2 ds x.2 y h2 hy;have e1:=s.len h1;refine ⟨by rw [List.length_append];omega,c1,over c2 o ds,?_,h1,hr⟩;unfold over;rw [List.take_append,List.drop_append,e1];rw [List.take_of_length_le (by omega),show s.size+o-s.size=o by omega,List.drop_eq_nil_of_le (by omega),show s.size+o+ds.length-s.size=o+ds.length by omega];simp
theorem dN.last(s:Ty α):dN s 0 s (fun _ y=>y):=by
 intro g cs ds x y h1 hy;have e1:=s.len h1;have e2:=s.len hy;refine ⟨by omega,?_⟩;unfold over;rw [List.take_zero,List.nil_append,Nat.zero_add,e2,<-e1,List.drop_length,List.append_nil];exact hy
theorem dN.map{γ:Type}{t:Ty β}{u:Ty γ}{o:Nat}{f:β->γ->β}{m:α->β}{f':α->γ->α}(h:dN t o u f)(hm:∀ x y,m (f' x y)=f (m x) y):dN (tMap t m) o u f':=by
 intro g cs ds x y h1 hy;obtain ⟨hl,hr⟩:=h g cs ds (m x) y h1 hy;refine ⟨hl,?_⟩;show t.rep g _ (m (f' x y));rw [hm];exact hr
theorem dN.cast{s:Ty α}{o o':Nat}{t:Ty β}{f f':α->β->α}(h:dN s o t f)(ho:o'=o)(hf:f'=f):dN s o' t f':=by subst ho hf;exact h
structure pW (P:Program) {α:Type} (T:TypeId) (t:Ty α) (z:α):Prop where
 zero:∃ v,(∀ w,(zeroValue T).run P w= .ok v w)/\ ∀ g,∃ cs,t.rep g cs z/\v=mkVal t.agg cs
section
variable {P:Program} {N:Nat} {g0:G} {T0:Nat->Prop} {env:Env} {res:Rs} {d:Option Tmp} {ty:TypeId} {pos:String} {aft:Array Edge} {gd:Option (Nat×Bool)}
def Build(P:Program)(env:Env){α:Type}(s:Ty α)(fs:Array Field):List (Nat×Operand)->α->α->Prop
 | [],x,x'=>x'=x
 | (i,o) :: ps,x,x'=>∃ (β:Type) (t:Ty β) (y:β) (upd:α->β->α) (fd:Field),fs[i]? =some fd/\(∀ w,(sizeOf fd.type).run P w= .ok t.size w)/\Opd env o (t.is y)/\dN s fd.offset t upd/\Build P env s fs ps (upd x y) x'
theorem CG{s:Ty α}{a:Act}{g:G}(he:∀ s B,look s env=some B->B.holds (a.tmps.getD s undef) g)(pl:Array (Nat×Nat))(hpl:∀ (i:Nat) (fd:Field) (sz:Nat),fs[i]? =some fd->(∀ w,(sizeOf fd.type).run P w= .ok sz w)->pl[i]? =some (fd.offset,sz)) :
  ∀ (ps:List (Nat×Operand)) (x x':α) (cells:Array Value),Build P env s fs ps x x'->s.rep g cells.toList x->∃ cs,Instr.fill (pl[·]?) cells (ps.map fun p=>(p.1,a.eval p.2))=some cs/\s.rep g cs.toList x'
 | [],x,x',cells,h,hr=>⟨cells,rfl,by rw [show x'=x from h];exact hr⟩
 | (i,o) :: ps,x,x',cells,h,hr=>by
  obtain ⟨β,t,y,upd,fd,h1,h2,h3,h4,h5⟩:=h;obtain ⟨ds,hd,hv⟩:=h3 a g he;have hc:(a.eval o).cells=ds.toArray:=by rw [hv];exact t.cells hd
  obtain ⟨hl,hs⟩:=h4 g cells.toList ds x y hr hd;have hsz:(a.eval o).cells.size=t.size:=by rw [hc];simp [t.len hd]
  have hl':fd.offset+(a.eval o).cells.size<=cells.size:=by rw [hc];simpa using hl
  have hfold:=CF fd.offset (a.eval o) cells hl';rw [hc] at hfold;obtain ⟨cs,hcs,hrs⟩:=CG he pl hpl ps (upd x y) x' ((a.eval o).cells.zipIdx.foldl (fun cs (p:Value×Nat)=>cs.setIfInBounds (fd.offset+p.2) p.1) cells) h5 (by rw [hc,hfold];exact hs);refine ⟨cs,?_,hrs⟩;simp only [List.map_cons,Instr.fill,hpl i fd t.size h1 h2];have h6:¬ ((decide ((a.eval o).cells.size≠t.size) || decide (fd.offset+(a.eval o).cells.size > cells.size))=true):=by
   simp only [Bool.or_eq_true,decide_eq_true_eq];omega
  rw [if_neg h6];exact hcs
theorem run_places(f:Field->Nat)(hf:∀ fd,fd∈fs->∀ w,(sizeOf fd.type).run P w= .ok (f fd) w)(w:World) :
  (fs.mapM fun fd=>do pure (fd.offset,<-sizeOf fd.type):Sem (Array (Nat×Nat))).run P w= .ok (fs.map fun fd=>(fd.offset,f fd)) w:=by
 obtain ⟨l⟩:=fs;have:∀ (l:List Field),(∀ fd,fd∈l->∀ w,(sizeOf fd.type).run P w= .ok (f fd) w)->∀ w,(l.mapM fun fd=>do pure (fd.offset,<-sizeOf fd.type):Sem (List (Nat×Nat))).run P w= .ok (l.map fun fd=>(fd.offset,f fd)) w:=by
  intro l;induction l with
  | nil=>intro _ w;simp
  | cons x l ih=>
   intro h w;have h1:=h x (by simp) w;have h2:=ih (fun fd hfd=>h fd (by simp [hfd])) w;simp [h1] at h2 ⊢;simp [h2]
 have h:=this l (fun fd hfd=>hf fd (by simpa using hfd)) w;simp at h ⊢;simp [h]
theorem Op1.build{s:Ty α}{z x:α}(f:Field->Nat)(hagg:s.agg=true)(hT:P.underlying T=some (.struct fs))(hf:∀ fd,fd∈fs->∀ w,(sizeOf fd.type).run P w= .ok (f fd) w)
  (hz:pW P T s z) (h:Build P env s fs ps z x):Op1 P ⟨d,.build T ps.toArray,ty,pos,aft,gd⟩ env res (s.is x):=
 Op1.same fun a g hc=>by
  obtain ⟨v,hv,hzr⟩:=hz.zero;obtain ⟨cs0,hcs0,hv0⟩:=hzr g;have hvc:v.cells=cs0.toArray:=by rw [hv0];exact s.cells hcs0
  obtain ⟨cs,h1,h2⟩:=CG (P:=P) hc.henv (fs.map fun fd=>(fd.offset,f fd)) (fun i fd sz hi hs=>by
   have hm:fd∈fs:=Array.mem_of_getElem? hi;have:=(hf fd hm g.w).symm.trans (hs g.w);cases this;simp [hi]) ps z x cs0.toArray h (by simpa using hcs0)
  refine ⟨.agg cs,?_,cs.toList,h2,by rw [hagg];simp [mkVal]⟩;simp only [execOp,Instr.build,Sem.run_bind,hv,Result.andThen_ok,hvc,run_underlying hT,run_places f hf,List.map_toArray,h1,Sem.run_pure]
def Parts(env:Env){α:Type}(t:Ty α):List (Nat×Operand)->List (Nat×α)->Prop
 | [],[]=>True
 | (i,o) :: ps,(j,y) :: ys=>i=j/\Opd env o (t.is y)/\Parts env t ps ys
 | _,_=>False
theorem zn{t:Ty α}{n:Nat}{a:Act}{g:G}(he:∀ s B,look s env=some B->B.holds (a.tmps.getD s undef) g) :
  ∀ (ps:List (Nat×Operand)) (ys:List (Nat×α)) (xs:List α) (cells:Array Value),Parts env t ps ys->xs.length=n->(∀ p∈ys,p.1<n)->Cells t g cells.toList xs->
   ∃ cs,Instr.fill (fun i=>some (i*t.size,t.size)) cells (ps.map fun p=>(p.1,a.eval p.2))=some cs/\Cells t g cs.toList (ys.foldl (fun l p=>l.set p.1 p.2) xs)
 | [],[],xs,cells,_,_,_,hr=>⟨cells,rfl,hr⟩
 | [],_ :: _,_,_,h,_,_,_=>h.elim
 | _ :: _,[],_,_,h,_,_,_=>h.elim
 | (i,o) :: ps,(j,y) :: ys,xs,cells,h,hn,hlt,hr=>by
  obtain ⟨rfl,h2,h3⟩:=h;obtain ⟨ds,hd,hv⟩:=h2 a g he;have hc:(a.eval o).cells=ds.toArray:=by rw [hv];exact t.cells hd
  have hi:i<xs.length:=by rw [hn];exact hlt (i,y) (by simp)
  have hset:=hr.set hd hi;have hb:(i+1)*t.size<=xs.length*t.size:=Nat.mul_le_mul_right _ hi;rw [Nat.add_mul,Nat.one_mul] at hb;have hcl:cells.size=xs.length*t.size:=by have:=hr.1;simpa using this
  have hsz:(a.eval o).cells.size=t.size:=by rw [hc];simp [t.len hd]
  have hl':i*t.size+(a.eval o).cells.size<=cells.size:=by rw [hsz,hcl];exact hb
  have hfold:=CF (i*t.size) (a.eval o) cells hl';rw [hc] at hfold;obtain ⟨cs,hcs,hrs⟩:=zn he ps ys (xs.set i y) ((a.eval o).cells.zipIdx.foldl (fun cs (p:Value×Nat)=>cs.setIfInBounds (i*t.size+p.2) p.1) cells) h3 (by rw [List.length_set];exact hn) (fun p hp=>hlt p (by simp [hp])) (by rw [hc,hfold];exact hset);refine ⟨cs,?_,hrs⟩;simp only [List.map_cons,Instr.fill];have h6:¬ ((decide ((a.eval o).cells.size≠t.size) || decide (i*t.size+(a.eval o).cells.size > cells.size))=true):=by
   simp only [Bool.or_eq_true,decide_eq_true_eq];omega
  rw [if_neg h6];exact hcs
theorem Cells.replicate{t:Ty α}{g:G}{z:α}(h:t.rep g cs z):∀ n,Cells t g (List.replicate n cs).flatten (List.replicate n z)
 | 0=>Cells.nil
 | n+1=>by
  rw [List.replicate_succ,List.replicate_succ,List.flatten_cons];exact Cells.cons h (Cells.replicate h n)
theorem um(cs:List Value)(n:Nat):((Array.range (n*cs.length)).map (cs.toArray[· % cs.toArray.size]!)).toList=(List.replicate n cs).flatten:=by
 apply List.ext_getElem?;intro i;have hfl:∀ n,((List.replicate n cs).flatten).length=n*cs.length:=fun n=>by simp
 have hget:∀ n i,i<n*cs.length->((List.replicate n cs).flatten)[i]? =cs[i % cs.length]?:=by
  intro n;induction n with
  | zero=>intro i h;simp at h
  | succ n ih=>
   intro i h;rw [List.replicate_succ,List.flatten_cons];by_cases hi:i<cs.length
   ·rw [List.getElem?_append_left hi,Nat.mod_eq_of_lt hi]
   ·rw [List.getElem?_append_right (by omega),ih _ (by rw [Nat.add_mul] at h;omega)];congr 1;exact (Nat.mod_eq_sub_mod (by omega)).symm
 by_cases hi:i<n*cs.length
 ·rw [hget n i hi];have hpos:0<cs.length:=by
   rcases Nat.eq_zero_or_pos cs.length with h0 | h0
   ·rw [h0] at hi;simp at hi
   ·exact h0
  have hm:=Nat.mod_lt i hpos;simp [hi,hm]
 ·rw [List.getElem?_eq_none (by simp;omega)];rw [List.getElem?_eq_none (by rw [hfl];omega)]
theorem OpR.buildSlice{t:Ty α}{E:TypeId}{n:Nat}{ys:List (Nat×α)}{z:α}(key:Nat)(hT:P.underlying T=some (.slice E))(hE:ElAt P E t)(hz:pW P E t z)
  (hp:Parts env t ps ys) (hlt:∀ p∈ys,p.1<n) (hn:n*t.size<=16777216) (hxs:ys.foldl (fun l p=>l.set p.1 p.2) (List.replicate n z)=xs) :
  OpR P ⟨d,.buildSlice T n ps.toArray,ty,pos,aft,gd⟩ env res [] (fun k:Tok=>tO t k xs) (fun k=>[(key,Own t E k xs.length)]):=by
 intro a g K Q hc hd hK;obtain ⟨v,hv,hzr⟩:=hz.zero;obtain ⟨cs0,hcs0,hv0⟩:=hzr g;have hvc:v.cells=cs0.toArray:=by rw [hv0];exact t.cells hcs0
 have hl0:=t.len hcs0;have hstart:Cells t g ((Array.range (n*t.size)).map (cs0.toArray[· % cs0.toArray.size]!)).toList (List.replicate n z):=by
  rw [<-hl0,um];exact Cells.replicate hcs0 n
 obtain ⟨cs,h1,h2⟩:=zn (n:=n) hc.henv ps ys _ _ hp (by simp) hlt hstart;rw [hxs] at h2;have hxl:xs.length=n:=by
  have:∀ (ys:List (Nat×α)) (l:List α),(ys.foldl (fun l p=>l.set p.1 p.2) l).length=l.length:=by
   intro ys;induction ys with
   | nil=>intro l;rfl
   | cons p ys ih=>intro l;rw [List.foldl_cons,ih,List.length_set]
  rw [<-hxs,this];simp
 have hrun:(Instr.buildSlice T n (ps.toArray.map fun (i,x)=>(i,a.eval x))).run P g.w= .ok (.slice (some ⟨g.w.heap.size,0,none⟩) n n) (g.w.alloc (.cells cs E)):=by
  have hpos:=hE.pos;have hsz:=hE.size g.w;by_cases hn0:n*t.size=0
  ·have:n=0:=by rcases Nat.mul_eq_zero.1 hn0 with h | h;exact h;omega
   subst this;have hcells:(Array.range (0*t.size)).map (cs0.toArray[· % cs0.toArray.size]!)=(#[]:Array Value):=by simp
   have hcells2:(Array.range (0*t.size)).map ((#[]:Array Value)[· % (#[]:Array Value).size]!)=(#[]:Array Value):=by simp
   rw [hcells] at h1;simp only [Instr.buildSlice,Sem.run_bind,run_underlying hT,Result.andThen_ok,hsz];rw [if_neg (by omega),if_pos hn0];simp only [Sem.run_pure,Sem.run_bind,Result.andThen_ok,hcells2,List.map_toArray];simp only [h1,Sem.run_bind,newRow,run_newObj,Result.andThen_ok,Sem.run_pure,World.alloc_eq]
  ·simp only [Instr.buildSlice,Sem.run_bind,run_underlying hT,Result.andThen_ok,hsz];rw [if_neg (by omega),if_neg hn0];simp only [Sem.run_bind,hv,Result.andThen_ok,Sem.run_pure,hvc,List.map_toArray];simp only [h1,Sem.run_bind,newRow,run_newObj,Result.andThen_ok,Sem.run_pure,World.alloc_eq]
 unfold Oper.wp execOp;simp only [Sem.run_bind,hrun,Result.andThen_ok,Sem.run_pure];let g':G:=g.alloc (.cells cs E) (n*t.size);have e:Ext No g g':=Ext.alloc No _ _ _;have hheap:g'.w.heap[g.w.heap.size]? =some (.cells cs E (0,0)):=heap_alloc_new g.w _;have hcl:cs.size=n*t.size:=by have:=h2.1;rw [hxl] at this;simpa using this
 have hnlim:n<=lim:=by
  have:=Nat.le_mul_of_pos_right n hE.pos;unfold lim;omega
 refine hK (some (g.w.heap.size,n)) (.slice (some ⟨g.w.heap.size,0,none⟩) n n) g' e.no ?_ ?_ (List.pairwise_singleton _ _) ?_
 ·refine ⟨by simp [Tok.addr,Tok.cap,hxl],by simp [Tok.cap,hxl],by rw [hxl];exact hnlim,?_⟩;show Row t g' (some ⟨g.w.heap.size,0,none⟩) xs;refine (h2.mono e).row fun j v hj=>⟨?_,?_⟩
  ·show 0+j<(if g.w.heap.size=g.w.heap.size then _ else _);rw [if_pos rfl];have:=(List.getElem?_eq_some_iff.1 hj).1;rw [h2.1,hxl] at this;omega
  ·rw [cell_of_row _ _ _ _ _ _ hheap,Nat.zero_add];simpa using hj
 ·intro y hy;rw [List.mem_singleton.1 hy];refine ⟨cs,hheap,hcl,by simp [hxl],by unfold maxLen;unfold lim at hnlim;omega,?_⟩;show (if g.w.heap.size=g.w.heap.size then _ else _)=_;rw [if_pos rfl,hxl]
 ·rintro b ⟨y,hy,hb⟩;rw [List.mem_singleton.1 hy] at hb;simp [Own] at hb;exact .inr (by omega)
theorem Op1.buildSlice{t:Ty α}{E:TypeId}{n:Nat}{ys:List (Nat×α)}{z:α}(hT:P.underlying T=some (.slice E))(hE:ElAt P E t)(hz:pW P E t z)
  (hp:Parts env t ps ys) (hlt:∀ p∈ys,p.1<n) (hn:n*t.size<=16777216) (hxs:ys.foldl (fun l p=>l.set p.1 p.2) (List.replicate n z)=xs) :
  Op1 P ⟨d,.buildSlice T n ps.toArray,ty,pos,aft,gd⟩ env res ((tL t).is xs):=by
 intro a g K Q hc hK;have h:=OpR.buildSlice (P:=P) (d:=d) (ty:=ty) (pos:=pos) (aft:=aft) (gd:=gd) (env:=env) (res:=[]) 0 hT hE hz hp hlt hn hxs;refine h a g K Q ⟨hc.henv,fun _ h=>by cases h⟩ List.Pairwise.nil fun x v g' e hv _ _ _=>hK v g' (e.mono fun b ⟨y,hy,_⟩=>by cases hy) (vU hv)
theorem OT{t:Ty α}{g:G}{x:α}(h:t.rep g cs x) :
  (t.ptr x).holds (.pointer (some ⟨g.w.heap.size,0,none⟩)) (g.alloc (.cells cs.toArray T) cs.length):=by
 refine ⟨g.w.heap.size,0,rfl,cs,t.mono (Ext.alloc No g _ _) h,fun j v hj=>⟨?_,?_⟩⟩
 ·show 0+j<(if g.w.heap.size=g.w.heap.size then _ else _);rw [if_pos rfl,Nat.zero_add];exact (List.getElem?_eq_some_iff.1 hj).1
 ·have hheap:(g.alloc (.cells cs.toArray T) cs.length).w.heap[g.w.heap.size]? =some (.cells cs.toArray T (0,0)):=heap_alloc_new g.w _;rw [cell_of_row _ _ _ _ _ _ hheap,Nat.zero_add];simpa using hj
theorem Op1.box{t:Ty α}{x:Operand}{u:α}(h:Opd env x (t.is u):=by exact .tmp rfl):Op1 P ⟨d,.box T x,ty,pos,aft,gd⟩ env res (t.ptr u):=
 Op1.val fun a g hc=>by
  obtain ⟨cs,hr,hv⟩:=h a g hc.henv;have hvc:(a.eval x).cells=cs.toArray:=by rw [hv];exact t.cells hr
  exact ⟨_,g.alloc (.cells cs.toArray T) cs.length,by simp [execOp,Instr.box,newVar,newRow,hvc,G.alloc],Ext.alloc _ _ _ _,OT hr⟩
def tF(P:Program){σ:Type}(ok:σ->Prop)(As:σ->List Asn)(A:σ->Asn):Asn:=
 ⟨fun v g=>∃ f pre cap,v= .func (.func f) pre cap/\(∀ as w,(callFunc f as).run P w= .ok (.enter f as) w)/\ ∀ s,ok s->Does P (As s) (A s) f pre cap g,
  fun e ⟨f,pre,cap,h1,h2,h3⟩=>⟨f,pre,cap,h1,h2,fun s hs=>(h3 s hs).mono e⟩⟩
theorem All2.append{g:G}:∀ {As Bs:List Asn} {vs us:List Value},All2 As vs g->All2 Bs us g->All2 (As++Bs) (vs++us) g
 | [],_,[],_,_,h=>h
 | A :: As,_,v :: vs,_,h,k=>⟨h.1,All2.append h.2 k⟩
 | [],_,_ :: _,_,h,_=>h.elim
 | _ :: _,_,[],_,h,_=>h.elim
theorem All2.mono{T:Nat->Prop}{g g':G}(e:Ext T g g'):∀ {As:List Asn} {vs:List Value},All2 As vs g->All2 As vs g'
 | [],[],h=>h
 | A :: As,v :: vs,h=>⟨A.mono e h.1,All2.mono e h.2⟩
 | [],_ :: _,h=>h.elim
 | _ :: _,[],h=>h.elim
theorem Does.of{As Cs:List Asn}{A:Asn}{cap:List Value}{g:G}(h:FSpec P f (As++Cs) A)(hc:All2 Cs cap g):Does P As A f #[] cap.toArray g:=by
 intro T g1 e vs hvs;have:=h g1 (vs++cap) (hvs.append (hc.mono e));simpa using this
theorem Op1.makeFunc{ok:σ->Prop}{cap:List Operand}{Cs:List Asn}(hcall:∀ as w,(callFunc f as).run P w= .ok (.enter f as) w)(hcap:Opds env cap Cs)
  (h:∀ s,ok s->FSpec P f (As s++Cs) (A s)):Op1 P ⟨d,.makeFunc (.func f) #[] cap.toArray,ty,pos,aft,gd⟩ env res (tF P ok As A):=
 Op1.same fun a g hc=>⟨.func (.func f) #[] (cap.map a.eval).toArray,by simp [execOp,Instr.makeFunc],f,_,_,rfl,hcall,fun s hs=>Does.of (h s hs) (Opds.all hc.henv hcap)⟩
theorem Opd.fn{ok:σ->Prop}(hcall:∀ as w,(callFunc f as).run P w= .ok (.enter f as) w)(h:∀ s,ok s->FSpec P f (As s) (A s)):Opd env (.func f) (tF P ok As A):=
 fun a g he=>⟨f,#[],#[],rfl,hcall,fun s hs=>by
  have:=Does.of (P:=P) (cap:=[]) (g:=g) (Cs:=[]) (by simpa using h s hs) trivial;simpa using this⟩
theorem Op1.callF{ok:σ->Prop}{x:Operand}{xs:List Operand}{ats:Array TypeId}(s:σ)(hx:Opd env x (tF P ok As A))(hs:ok s)(h:Opds env xs (As s)) :
  Op1 P ⟨d,.call ⟨.value x,xs.toArray,ats⟩,ty,pos,aft,gd⟩ env res (A s):=
 Op1.rY fun a g hc=>by
  obtain ⟨f,pre,cap,hv,hcall,hdo⟩:=hx a g hc.henv;refine ⟨f,pre++(xs.map a.eval).toArray++cap,?_,hdo s hs No g (Ext.refl _ _) _ (Opds.all hc.henv h)⟩;simp [execOp,resolve,hv,Deferred.ofValue,invoke,hcall]
end
end Go.Dec
/-
  Regions whose order is drawn: every operation by what it reads; at most one of them uses resources.
-/
namespace Go.Dec
open Go
variable {B:Asn}{e:Nat}{l:List Oper}{listed:Array Bool}{ρ:Type}{x:ρ}
theorem zY{s:Nat}:∀ {e:Env},look s e=some B->(s,B)∈e
 | [],h=>by simp [look] at h
 | (k,A) :: r,h=>by
  by_cases hk:k=s
  ·subst hk;rw [dm] at h;cases h;exact List.mem_cons_self
  ·rw [bX _ _ hk] at h;exact List.mem_cons_of_mem _ (zY h)
theorem vC{s:Nat}:∀ {e f:Env},look s (e++f)=some B->(s,B)∈e\/((∀ C,(s,C) ∉ e)/\look s f=some B)
 | [],f,h=>.inr ⟨fun _ h=>(by cases h),h⟩
 | (k,A) :: r,f,h=>by
  by_cases hk:k=s
  ·subst hk;rw [List.cons_append,dm] at h;cases h;exact .inl List.mem_cons_self
  ·rw [List.cons_append,bX _ _ hk] at h;rcases vC h with h | ⟨h1,h2⟩
   ·exact .inl (List.mem_cons_of_mem _ h)
   ·refine .inr ⟨fun C hC=>?_,h2⟩;rcases List.mem_cons.1 hC with e | hC
    ·cases e;exact hk rfl
    ·exact h1 C hC
inductive DA (ρ:Type) where
 | c (A:Asn)
 | f (A:ρ->Asn)
def DA.at{ρ:Type}(x:ρ):DA ρ->Asn
 | .c A=>A
 | .f A=>A x
def DA.late{ρ:Type}:DA ρ->Bool
 | .c _=>false
 | .f _=>true
def preEnv{ρ:Type}(l:List Oper)(As:List (DA ρ))(x:ρ):List Nat->Env
 | []=>[]
 | j :: js=>match l[j]?,As[j]? with
  | some o,some A=>(match o.dst with
   | some d=>(d,A.at x) :: preEnv l As x js
   | none=>preEnv l As x js)
  | _,_=>preEnv l As x js
def readEnv(base:Env):List Nat->Env
 | []=>[]
 | s :: ss=>match look s base with
  | some A=>(s,A) :: readEnv base ss
  | none=>readEnv base ss
def outEnv{ρ:Type}(x:ρ):List Oper->List (DA ρ)->Env
 | o :: l,A :: As=>(match o.dst with
  | some d=>(d,A.at x) :: outEnv x l As
  | none=>outEnv x l As)
 | _,_=>[]
theorem pX{As:List (DA ρ)}{s:Nat}:∀ {js:List Nat},(s,B)∈preEnv l As x js->∃ (j:Nat) (o:Oper) (A:DA ρ),j∈js/\l[j]? =some o/\As[j]? =some A/\o.dst=some s/\B=A.at x
 | [],h=>by cases h
 | j :: js,h=>by
  unfold preEnv at h;split at h
  ·rename_i o A ho hA;split at h
   ·rename_i d hd;rcases List.mem_cons.1 h with e | h
    ·cases e;exact ⟨j,o,A,List.mem_cons_self,ho,hA,hd,rfl⟩
    ·obtain ⟨j',o',A',h1,h2⟩:=pX h;exact ⟨j',o',A',List.mem_cons_of_mem _ h1,h2⟩
   ·obtain ⟨j',o',A',h1,h2⟩:=pX h;exact ⟨j',o',A',List.mem_cons_of_mem _ h1,h2⟩
  ·obtain ⟨j',o',A',h1,h2⟩:=pX h;exact ⟨j',o',A',List.mem_cons_of_mem _ h1,h2⟩
theorem nN{base:Env}{s:Nat}:∀ {ss:List Nat},(s,B)∈readEnv base ss->s∈ss/\look s base=some B
 | [],h=>by cases h
 | r :: ss,h=>by
  unfold readEnv at h;split at h
  ·rename_i A hA;rcases List.mem_cons.1 h with e | h
   ·cases e;exact ⟨List.mem_cons_self,hA⟩
   ·exact ⟨List.mem_cons_of_mem _ (nN h).1,(nN h).2⟩
  ·exact ⟨List.mem_cons_of_mem _ (nN h).1,(nN h).2⟩
theorem rA{s:Nat}:∀ {l:List Oper} {As:List (DA ρ)},(s,B)∈outEnv x l As->∃ (i:Nat) (o:Oper) (A:DA ρ),l[i]? =some o/\As[i]? =some A/\o.dst=some s/\B=A.at x
 | [],As,h=>by cases As<;> cases h
 | o :: l,[],h=>by cases h
 | o :: l,A :: As,h=>by
  unfold outEnv at h;split at h
  ·rename_i d hd;rcases List.mem_cons.1 h with e | h
   ·cases e;exact ⟨0,o,A,rfl,rfl,hd,rfl⟩
   ·obtain ⟨i,o',A',h1,h2,h3⟩:=rA h;exact ⟨i+1,o',A',by simpa using h1,by simpa using h2,h3⟩
  ·obtain ⟨i,o',A',h1,h2,h3⟩:=rA h;exact ⟨i+1,o',A',by simpa using h1,by simpa using h2,h3⟩
theorem sH{s:Nat}{o:Oper}{A:DA ρ}:∀ {l:List Oper} {As:List (DA ρ)} {i:Nat},l[i]? =some o->As[i]? =some A->o.dst=some s->(s,A.at x)∈outEnv x l As
 | [],_,i,h,_,_=>by simp at h
 | _ :: _,[],i,_,h,_=>by simp at h
 | o' :: l,A' :: As,0,h1,h2,h3=>by
  simp at h1 h2;subst h1 h2;unfold outEnv;rw [h3];exact List.mem_cons_self
 | o' :: l,A' :: As,i+1,h1,h2,h3=>by
  simp at h1 h2;unfold outEnv;split
  ·exact List.mem_cons_of_mem _ (sH h1 h2 h3)
  ·exact sH h1 h2 h3
def waits(o:Oper)(j:Nat):Bool:=o.after.toList.any fun e=>Nat.beq e.on j && Region.binds .any e
def chkOne(N:Nat)(l:List Oper)(late:List Bool)(e:Nat)(i:Nat)(o:Oper)(pre reads:List Nat):Bool:=
 (match o.dst with
  | some d=>Nat.blt d N
  | none=>true) &&
 o.after.toList.all (fun x=>Nat.blt x.on i) &&
 pre.all (fun j=>waits o j) &&
 l.all (fun k=>match k.dst with
  | some s=>!memB s reads || waits k i
  | none=>true) &&
 (match o.guard with
  | some (j,_)=>memB j pre
  | none=>true) &&
 (!(late.getD i false) || Nat.beq i e || pre.any (fun j=>late.getD j false))
def chkD(N:Nat)(l:List Oper)(late:List Bool)(e:Nat):Nat->List Oper->List (List Nat×List Nat)->Bool
 | _,[],[]=>true
 | i,o :: os,p :: ps=>chkOne N l late e i o p.1 p.2 && chkD N l late e (i+1) os ps
 | _,_,_=>false
def dstsD:List Oper->Bool
 | []=>true
 | o :: l=>(match o.dst with
  | some d=>l.all fun k=>match k.dst with
   | some s=>!(Nat.beq d s)
   | none=>true
  | none=>true) && dstsD l
theorem Lp{N:Nat}{l0:List Oper}{late:List Bool}:∀ {i:Nat} {l:List Oper} {ps:List (List Nat×List Nat)},chkD N l0 late e i l ps=true->l.length=ps.length/\ ∀ j o p,l[j]? =some o->ps[j]? =some p->chkOne N l0 late e (i+j) o p.1 p.2=true
 | _,[],[],_=>⟨rfl,fun j o p h=>by simp at h⟩
 | _,[],_ :: _,h=>by cases h
 | _,_ :: _,[],h=>by cases h
 | i,o :: l,p :: ps,h=>by
  unfold chkD at h;rw [Bool.and_eq_true] at h;obtain ⟨h1,h2⟩:=Lp h.2;refine ⟨by simp [h1],fun j o' p' hj hp=>?_⟩;cases j with
  | zero=>simp at hj hp;subst hj hp;exact h.1
  | succ j=>simp at hj hp;have:=h2 j o' p' hj hp;rwa [show i+1+j=i+(j+1) by omega] at this
theorem vV:∀ {l:List Oper},dstsD l=true->∀ (i j:Nat) o o' d,l[i]? =some o->l[j]? =some o'->o.dst=some d->o'.dst=some d->i=j
 | [],_,i,_,_,_,_,h,_,_,_=>by simp at h
 | x :: l,h,i,j,o,o',d,hi,hj,ho,ho'=>by
  unfold dstsD at h;rw [Bool.and_eq_true] at h;have step:∀ (j:Nat) (o':Oper),l[j]? =some o'->o'.dst=some d->x.dst=some d->False:=by
   intro j o' hj ho' hx;have h1:=h.1;rw [hx] at h1;have:=List.all_eq_true.1 h1 o' (List.mem_of_getElem? hj);rw [ho'] at this;simp [Nat.beq_refl] at this
  cases i with
  | zero=>
   simp at hi;subst hi;cases j with
   | zero=>rfl
   | succ j=>simp at hj;exact (step j o' hj ho' ho).elim
  | succ i=>
   simp at hi;cases j with
   | zero=>simp at hj;subst hj;exact (step i o hi ho ho').elim
   | succ j=>simp at hj;have:=vV h.2 i j o o' d hi hj ho ho';omega
theorem fI{k:Nat}:∀ {l:List Nat},memB k l=true ↔ k∈l
 | []=>by simp [memB]
 | x :: r=>by
  unfold memB;cases hb:Nat.beq x k with
  | true=>have:=Nat.eq_of_beq_eq_true hb;simp [this]
  | false=>
   have hne:x≠k:=fun e=>by subst e;rw [Nat.beq_refl] at hb;cases hb
   simp [fI (l:=r),Ne.symm hne]
def DObl(P:Program)(l:List Oper)(o:Oper)(e:Env)(res:Rs)(A:Asn):Prop:=
 match o.guard with
 | none=>Op1 P o e res A
 | some (j,want)=>∃ oj dj b,l[j]? =some oj/\oj.dst=some dj/\((look dj e=some (tB.is b)/\((b=want/\Op1 P o e res A)\/(b= !want/\A=Asn.eq undef)))\/(look dj e=some (Asn.eq undef)/\A=Asn.eq undef))
def DOps(P:Program){ρ:Type}(x:ρ)(l:List Oper)(As:List (DA ρ))(base:Env)(res:Rs)(e:Nat):Nat->List Oper->List (DA ρ)->List (List Nat×List Nat)->Prop
 | i,o :: os,A :: Bs,p :: ps=>(Nat.beq i e=true\/DObl P l o (preEnv l As x p.1++readEnv base p.2) res (A.at x))/\DOps P x l As base res e (i+1) os Bs ps
 | _,_,_,_=>True
theorem Lr{P:Program}{l0:List Oper}{As0:List (DA ρ)}{base:Env}{res:Rs}:∀ {i:Nat} {l:List Oper} {As:List (DA ρ)} {ps:List (List Nat×List Nat)},DOps P x l0 As0 base res e i l As ps->
  ∀ (j:Nat) o A p,l[j]? =some o->As[j]? =some A->ps[j]? =some p->i+j≠e->DObl P l0 o (preEnv l0 As0 x p.1++readEnv base p.2) res (A.at x)
 | i,o :: l,A :: As,p :: ps,h,j,o',A',p',h1,h2,h3,h4=>by
  cases j with
  | zero=>
   simp at h1 h2 h3;subst h1 h2 h3;exact h.1.resolve_left fun hb=>h4 (Nat.eq_of_beq_eq_true hb)
  | succ j=>simp at h1 h2 h3;exact Lr h.2 j o' A' p' h1 h2 h3 (by omega)
 | _,[],_,_,_,j,_,_,_,h,_,_,_=>by simp at h
 | _,_ :: _,[],_,_,j,_,_,_,_,h,_,_=>by simp at h
 | _,_ :: _,_ :: _,[],_,j,_,_,_,_,_,h,_=>by simp at h
section
variable {P:Program} {N:Nat} {g0:G} {T0:Nat->Prop} {ks:List KF} {B:Exit->Act->World->Prop} {env:Env} {res:Rs}
structure DInv {ρ:Type} (N:Nat) (l:List Oper) (As:List (DA ρ)) (e:Nat) (res:Rs) (us:List Nat) (out:ρ->Rs) (a0:Act) (g1:G) (listed:Array Bool) (a:Act) (g:G):Prop where
 size:listed.size=l.length
 sz:a.tmps.size=N
 dfr:a.defers= []
 closed:∀ (k:Nat) o,l[k]? =some o->listed.getD k false=true->∀ j,waits o j=true->listed.getD j false=true
 old:∀ s,(∀ (k:Nat) o,l[k]? =some o->listed.getD k false=true->o.dst≠some s)->a.tmps.getD s undef=a0.tmps.getD s undef
 early:listed.getD e false=false->Ext No g1 g/\ ∀ (k:Nat) o A,l[k]? =some o->As[k]? =some A->listed.getD k false=true->∃ A0,A= .c A0/\ ∀ d,o.dst=some d->A0.holds (a.tmps.getD d undef) g
 late:listed.getD e false=true->∃ x,Ext (res.pick us).blks g1 g/\(out x).all g/\(out x).dis/\(∀ b,(out x).blks b->(res.pick us).blks b\/g1.w.heap.size<=b)/\
  ∀ (k:Nat) o A,l[k]? =some o->As[k]? =some A->listed.getD k false=true->∀ d,o.dst=some d->(A.at x).holds (a.tmps.getD d undef) g
theorem getD_set_true{i k:Nat}(hi:i<listed.size):(listed.setIfInBounds i true).getD k false=true ↔ k=i\/listed.getD k false=true:=by
 simp only [Array.getD_eq_getD_getElem?,Array.getElem?_setIfInBounds];by_cases h:i=k
 ·subst h;simp [hi]
 ·rw [if_neg h];constructor
  ·exact .inr
  ·rintro (h' | h')
   ·exact absurd h'.symm h
   ·exact h'
def undone(listed:Array Bool)(n:Nat):Nat:=(List.range n).countP fun i=>!listed.getD i false
theorem zo{i:Nat}(hi:i<listed.size)(hl:listed.getD i false=false):∀ n,i<n->undone (listed.setIfInBounds i true) n+1=undone listed n:=by
 have other:∀ k,k≠i->(listed.setIfInBounds i true).getD k false=listed.getD k false:=by
  intro k hk;simp only [Array.getD_eq_getD_getElem?,Array.getElem?_setIfInBounds];rw [if_neg (Ne.symm hk)]
 have same:(listed.setIfInBounds i true).getD i false=true:=by
  simp only [Array.getD_eq_getD_getElem?,Array.getElem?_setIfInBounds];simp [hi]
 have low:∀ n,n<=i->undone (listed.setIfInBounds i true) n=undone listed n:=by
  intro n;induction n with
  | zero=>intro _;rfl
  | succ n ih=>
   intro h;have:=ih (by omega);unfold undone at this ⊢;rw [List.range_succ,List.countP_append,List.countP_append,this];simp only [List.countP_cons,List.countP_nil,other n (by omega)]
 intro n;induction n with
 | zero=>intro h;omega
 | succ n ih=>
  intro h;by_cases hn:i=n
  ·subst hn;have:=low i (Nat.le_refl _);unfold undone at this ⊢;rw [List.range_succ,List.countP_append,List.countP_append,this];simp only [List.countP_cons,List.countP_nil,same,hl];simp
  ·have:=ih (by omega);unfold undone at this ⊢;rw [List.range_succ,List.countP_append,List.countP_append];simp only [List.countP_cons,List.countP_nil,other n (by omega)];omega
theorem vD:∀ {n:Nat},undone listed n=0->∀ i,i<n->listed.getD i false=true:=by
 intro n h i hi;have:=List.countP_eq_zero.1 h i (List.mem_range.2 hi);simpa using this
theorem zq:∀ {n:Nat},undone listed n≠0->∃ i,i<n/\listed.getD i false=false/\ ∀ j,j<i->listed.getD j false=true:=by
 intro n;induction n with
 | zero=>intro h;exact absurd rfl h
 | succ n ih=>
  intro h;by_cases h0:undone listed n=0
  ·refine ⟨n,by omega,?_,vD h0⟩;cases hn:listed.getD n false with
   | false=>rfl
   | true=>
    exfalso;apply h;unfold undone at h0 ⊢;rw [List.range_succ,List.countP_append,h0];simp only [List.countP_cons,List.countP_nil,hn];rfl
  ·obtain ⟨i,h1,h2⟩:=ih h0;exact ⟨i,by omega,h2⟩
theorem uH{o:Oper}{j:Nat}:waits o j=true ↔ ∃ x,x∈o.after/\x.on=j/\Region.binds .any x=true:=by
 simp only [waits,List.any_eq_true,Bool.and_eq_true];constructor
 ·rintro ⟨x,hx,h1,h2⟩;exact ⟨x,by simpa using hx,Nat.eq_of_beq_eq_true h1,h2⟩
 ·rintro ⟨x,hx,h1,h2⟩;exact ⟨x,by simpa using hx,by rw [h1];exact Nat.beq_refl j,h2⟩
theorem qy{i:Nat}:i∈Region.ready .any l.toArray listed ↔ i<l.length/\listed.getD i true=false/\ ∃ o,l[i]? =some o/\ ∀ j,waits o j=true->listed.getD j false=true:=by
 unfold Region.ready;rw [List.mem_filter,List.mem_range];simp only [List.size_toArray,Bool.and_eq_true,List.getElem?_toArray];constructor
 ·rintro ⟨h1,h2,h3⟩;refine ⟨h1,by simpa using h2,?_⟩;rw [List.getElem?_eq_getElem h1] at h3 ⊢;refine ⟨_,rfl,fun j hj=>?_⟩;obtain ⟨x,hx,rfl,hb⟩:=uH.1 hj;simp only [Option.map_some,Option.getD_some,Array.all_eq_true'] at h3;have:=h3 x hx;rw [hb] at this;simpa using this
 ·rintro ⟨h1,h2,o,ho,h3⟩;refine ⟨h1,by simpa using h2,?_⟩;rw [ho];simp only [Option.map_some,Option.getD_some,Array.all_eq_true'];intro x hx;cases hb:Region.binds .any x with
  | false=>rfl
  | true=>simp [h3 x.on (uH.2 ⟨x,hx,rfl,hb⟩)]
theorem DInv.put{As:List (DA ρ)}{us:List Nat}{out:ρ->Rs}{a0:Act}{g1:G}{a:Act}{g g':G}{i:Nat}{o:Oper}{v:Value}
  (h:DInv N l As e res us out a0 g1 listed a g) (hi:i<l.length) (ho:l[i]? =some o) (hd:dstsD l=true) (hN:∀ d,o.dst=some d->d<N) (hnl:listed.getD i false=false) (hw:∀ j,waits o j=true->listed.getD j false=true)
  (hearly:(listed.setIfInBounds i true).getD e false=false->Ext No g g'/\ ∃ A0,As[i]? =some (.c A0)/\A0.holds v g')
  (hlate:(listed.setIfInBounds i true).getD e false=true->∃ x A,As[i]? =some A/\(A.at x).holds v g'/\Ext (res.pick us).blks g1 g'/\(out x).all g'/\(out x).dis/\(∀ b,(out x).blks b->(res.pick us).blks b\/g1.w.heap.size<=b)/\
   ∀ (k:Nat) p C,l[k]? =some p->As[k]? =some C->listed.getD k false=true->∀ d,p.dst=some d->(C.at x).holds (a.tmps.getD d undef) g') :
  DInv N l As e res us out a0 g1 (listed.setIfInBounds i true) (a.put o.dst v) g':=by
 have hsz:i<listed.size:=by rw [h.size];exact hi
 have hput:∀ (k:Nat) p d,l[k]? =some p->listed.getD k false=true->p.dst=some d->(a.put o.dst v).tmps.getD d undef=a.tmps.getD d undef:=by
  intro k p d hk hl hp;cases hod:o.dst with
  | none=>rfl
  | some d'=>
   refine kg fun hdd=>?_;subst hdd;have:=vV hd i k o p d' ho hk hod hp;subst this;rw [hnl] at hl;cases hl
 have hown:∀ d,o.dst=some d->(a.put o.dst v).tmps.getD d undef=v:=by
  intro d hod;rw [hod];exact qJ (by rw [h.sz];exact hN d hod)
 refine ⟨by simp [h.size],by cases hod:o.dst<;> simp [Act.put,h.sz],by cases hod:o.dst<;> exact h.dfr,?_,?_,?_,?_⟩
 ·intro k p hk hl j hj;rw [getD_set_true hsz] at hl ⊢;rcases hl with rfl | hl
  ·rw [ho] at hk;cases hk;exact .inr (hw j hj)
  ·exact .inr (h.closed k p hk hl j hj)
 ·intro s hs;have hne:o.dst≠some s:=hs i o ho ((getD_set_true hsz).2 (.inl rfl));have h2:(a.put o.dst v).tmps.getD s undef=a.tmps.getD s undef:=by
   cases hod:o.dst with
   | none=>rfl
   | some d'=>exact kg fun hdd=>hne (by rw [hod,hdd])
  rw [h2];exact h.old s fun k p hk hl=>hs k p hk ((getD_set_true hsz).2 (.inr hl))
 ·intro he;obtain ⟨e1,A0,hA0,hv⟩:=hearly he;have he':listed.getD e false=false:=by
   cases hb:listed.getD e false with
   | false=>rfl
   | true=>rw [(getD_set_true hsz).2 (.inr hb)] at he;cases he
  obtain ⟨e0,hvals⟩:=h.early he';refine ⟨e0.trans' e1,fun k p A hk hA hl=>?_⟩;rcases (getD_set_true hsz).1 hl with rfl | hl'
  ·rw [ho] at hk;cases hk;rw [hA0] at hA;cases hA;exact ⟨A0,rfl,fun d hdd=>by rw [hown d hdd];exact hv⟩
  ·obtain ⟨C,rfl,hC⟩:=hvals k p A hk hA hl';exact ⟨C,rfl,fun d hdd=>by rw [hput k p d hk hl' hdd];exact C.mono e1 (hC d hdd)⟩
 ·intro he;obtain ⟨x,A,hA,hv,h1,h2,h3,h4,h5⟩:=hlate he;refine ⟨x,h1,h2,h3,h4,fun k p C hk hC hl d hdd=>?_⟩;rcases (getD_set_true hsz).1 hl with rfl | hl'
  ·rw [ho] at hk;cases hk;rw [hA] at hC;cases hC;rw [hown d hdd];exact hv
  ·rw [hput k p d hk hl' hdd];exact h5 k p C hk hC hl' d hdd
def WA(P:Program)(N:Nat)(g0:G)(T0:Nat->Prop)(l:List Oper)(ks:List KF)(B:Exit->Act->World->Prop)(env:Env)(res:Rs):Prop:=
 ∀ a g,St N g0 T0 env res a g->wpAny P .any l.toArray (KF.sem P ks B) l.toArray.size (Array.replicate l.toArray.size false) a {g.w with drawn:=g.w.drawn+1}
theorem W.ofA{id:Nat}(hm:P.follows .mixedOrders=true)(h:WA P N g0 T0 l ks B env res):W P N g0 T0 (.region id l.toArray true) ks B env res:=
 fun a g hst=>wp_region_any hm (h a g hst)
theorem WA.drawR(As:List (DA ρ))(ps:List (List Nat×List Nat))(e:Nat)(us:List Nat)(Ax:ρ->Asn)(out:ρ->Rs)(x0:ρ)(hm:P.follows .mixedOrders=true)
  (hchk:chkD N l (As.map DA.late) e 0 l ps=true) (hdst:dstsD l=true) (hlen:As.length=l.length) (hops:∀ x,DOps P x l As env (res.drop us) e 0 l As ps)
  (heff:(e<l.length/\ ∃ o p,l[e]? =some o/\ps[e]? =some p/\o.guard=none/\As[e]? =some (.f Ax)/\OpR P o (preEnv l As x0 p.1++readEnv env p.2) res us Ax out)\/(l.length<=e/\us= []/\out x0= []/\As.all (fun A=>!A.late)=true))
  (k:∀ x,WN P N g0 T0 ks B (outEnv x l As++env) (out x++res.drop us)):WA P N g0 T0 l ks B env res:=by
 intro a0 ga hst;obtain ⟨hlps,hone⟩:=Lp hchk;have hone':∀ (i:Nat) o p,l[i]? =some o->ps[i]? =some p->chkOne N l (As.map DA.late) e i o p.1 p.2=true:=fun i o p h1 h2=>by have:=hone i o p h1 h2;rwa [Nat.zero_add] at this
 let g1:G:=ga.drew;have e01:Ext No ga g1:=Ext.drew No ga;have hlateAt:∀ (i:Nat) (A:DA ρ),As[i]? =some A->(As.map DA.late).getD i false=A.late:=by
  intro i A hA;simp [List.getD,hA]
 -- what an operation may lean on
 have hctx:∀ listed a g x (i:Nat) o p,DInv N l As e res us out a0 g1 listed a g->l[i]? =some o->ps[i]? =some p->listed.getD i false=false->(∀ j,waits o j=true->listed.getD j false=true)->(∃ T,Ext T g1 g)->
   (∀ (k:Nat) q A,l[k]? =some q->As[k]? =some A->listed.getD k false=true->k∈p.1->∀ d,q.dst=some d->(A.at x).holds (a.tmps.getD d undef) g)->
   ∀ s C,look s (preEnv l As x p.1++readEnv env p.2)=some C->C.holds (a.tmps.getD s undef) g:=by
  intro listed a g x i o p hinv ho hp hnl hw ⟨T,hext⟩ hvals s C hC;have hch:=hone' i o p ho hp;simp only [chkOne,Bool.and_eq_true] at hch;obtain ⟨⟨⟨⟨⟨_,_⟩,h3⟩,h4⟩,_⟩,_⟩:=hch;rcases List.mem_append.1 (zY hC) with h | h
  ·obtain ⟨j,q,A,hj,hq,hA,hd,rfl⟩:=pX h;have hlj:=hw j (List.all_eq_true.1 h3 j hj);exact hvals j q A hq hA hlj hj s hd
  ·obtain ⟨hs,hlk⟩:=nN h;have hold:=hinv.old s fun kk q hq hl hqd=>by
    have h5:=List.all_eq_true.1 h4 q (List.mem_of_getElem? hq);rw [hqd] at h5;have h6:memB s p.2=true:=fI.2 hs;simp only [h6,Bool.not_true,Bool.false_or] at h5;have:=hinv.closed kk q hq hl i h5;rw [hnl] at this;cases this
   rw [hold];exact C.mono hext (C.mono e01 (hst.henv s C hlk))
 have hresAt:∀ g,Ext (res.pick us).blks g1 g->(res.drop us).all g:=fun g hx=>by
  have h0:(res.drop us).all g1:=fun y hy=>y.2.stay e01 (fun _ _ hf=>hf) (hst.hres y (List.mem_filter.1 hy).1);exact h0.stay hx (fun b hb hp=>hst.dis.split us b hb hp)
 have key:∀ fuel listed a g,DInv N l As e res us out a0 g1 listed a g->undone listed l.length=fuel->wpAny P .any l.toArray (KF.sem P ks B) fuel listed a g.w:=by
  intro fuel;induction fuel with
  | zero=>
   intro listed a g hinv hu;have hall:=vD hu;refine ⟨?_,?_⟩
   ·rw [List.eq_nil_iff_forall_not_mem];intro i hi;obtain ⟨h1,h2,_⟩:=qy.1 hi;have h3:=hall i h1;have hsz:i<listed.size:=by rw [hinv.size];exact h1
    simp [Array.getD,hsz] at h2 h3;rw [h2] at h3;cases h3
   ·have final:∀ x,Ext (res.pick us).blks g1 g->(out x).all g->(out x).dis->(∀ b,(out x).blks b->(res.pick us).blks b\/g1.w.heap.size<=b)->
      (∀ (k:Nat) o A,l[k]? =some o->As[k]? =some A->listed.getD k false=true->∀ d,o.dst=some d->(A.at x).holds (a.tmps.getD d undef) g)->KF.sem P ks B .normal a g.w:=by
     intro x hext ho hod hob hvals;have hga:Ext (res.pick us).blks ga g:=(e01.no).trans hext (fun _ _ h=>h);refine k x a g ⟨hinv.sz,hinv.dfr,fun s C hC=>?_,?_,?_,?_,?_⟩
     ·rcases vC hC with h | ⟨h1,h2⟩
      ·obtain ⟨i,o,A,hi,hA,hd,rfl⟩:=rA h;exact hvals i o A hi hA (hall i (List.getElem?_eq_some_iff.1 hi).1) s hd
      ·have hold:=hinv.old s fun kk q hq _ hqd=>by
        have hkl:=(List.getElem?_eq_some_iff.1 hq).1;obtain ⟨A,hA⟩:∃ A,As[kk]? =some A:=⟨_,List.getElem?_eq_getElem (by rw [hlen];exact hkl)⟩
        exact h1 _ (sH hq hA hqd)
       rw [hold];exact C.mono hga (hst.henv s C h2)
     ·intro y hy;rcases List.mem_append.1 hy with hy | hy
      ·exact ho y hy
      ·exact hresAt g hext y hy
     ·refine List.pairwise_append.2 ⟨hod,hst.dis.filter _,fun y hy z hz b hyb hzb=>?_⟩;rcases hob b ⟨y,hy,hyb⟩ with hp | hp
      ·exact hst.dis.split us b ⟨z,hz,hzb⟩ hp
      ·have:=z.2.lt (hst.hres z (List.mem_filter.1 hz).1) hzb;have h7:g1.w.heap.size=ga.w.heap.size:=rfl;omega
     ·rintro b ⟨y,hy,hb⟩;rcases List.mem_append.1 hy with hy | hy
      ·rcases hob b ⟨y,hy,hb⟩ with ⟨z,hz,hzb⟩ | hp
       ·exact hst.own b ⟨z,(List.mem_filter.1 hz).1,hzb⟩
       ·exact .inl (Nat.le_trans hst.ext.size hp)
      ·exact hst.own b ⟨y,(List.mem_filter.1 hy).1,hb⟩
     ·refine hst.ext.trans hga (fun b hb ⟨y,hy,hyb⟩=>?_);rcases hst.own b ⟨y,(List.mem_filter.1 hy).1,hyb⟩ with h1 | h1
      ·omega
      ·exact h1
    rcases heff with ⟨he,_⟩ | ⟨he,hus,hout,hall2⟩
    ·obtain ⟨x,h1,h2,h3,h4,h5⟩:=hinv.late (hall e he);exact final x h1 h2 h3 h4 h5
    ·have hne:listed.getD e false=false:=by
      have:listed.size<=e:=by rw [hinv.size];exact he
      simp [Array.getD,this];omega
     obtain ⟨h1,h2⟩:=hinv.early hne;refine final x0 h1.no (by rw [hout];intro y hy;cases hy) (by rw [hout];exact List.Pairwise.nil) (by rw [hout];rintro b ⟨y,hy,_⟩;cases hy) ?_;intro kk o A hk hA hl d hd;obtain ⟨A0,rfl,hA0⟩:=h2 kk o A hk hA hl;exact hA0 d hd
  | succ fuel ih=>
   intro listed a g hinv hu;refine ⟨fun hr=>?_,fun i hi=>?_⟩
   ·exfalso;obtain ⟨i,h1,h2,h3⟩:=zq (listed:=listed) (n:=l.length) (by omega);have:i∈Region.ready .any l.toArray listed:=by
     refine qy.2 ⟨h1,?_,l[i],List.getElem?_eq_getElem h1,fun j hj=>?_⟩
     ·have hsz:i<listed.size:=by rw [hinv.size];exact h1
      simp [Array.getD,hsz] at h2 ⊢;exact h2
     ·obtain ⟨p,hp⟩:∃ p,ps[i]? =some p:=⟨_,List.getElem?_eq_getElem (by omega)⟩
      have hch:=hone' i _ p (List.getElem?_eq_getElem h1) hp;simp only [chkOne,Bool.and_eq_true] at hch;obtain ⟨x,hx,rfl,_⟩:=uH.1 hj;have:=List.all_eq_true.1 hch.1.1.1.1.2 x (by simpa using hx);exact h3 _ (by simpa [Nat.blt_eq] using this)
    rw [hr] at this;cases this
   ·obtain ⟨hil,hnl',o,ho,hw⟩:=qy.1 hi;have hsz:i<listed.size:=by rw [hinv.size];exact hil
    have hnl:listed.getD i false=false:=by
     simp [Array.getD,hsz] at hnl' ⊢;exact hnl'
    obtain ⟨p,hp⟩:∃ p,ps[i]? =some p:=⟨_,List.getElem?_eq_getElem (by omega)⟩
    obtain ⟨A,hA⟩:∃ A,As[i]? =some A:=⟨_,List.getElem?_eq_getElem (by omega)⟩
    have hch:=hone' i o p ho hp;simp only [chkOne,Bool.and_eq_true] at hch;obtain ⟨⟨⟨⟨⟨hc1,_⟩,hc3⟩,_⟩,hc5⟩,hc6⟩:=hch;have hN:∀ d,o.dst=some d->d<N:=fun d hd=>by rw [hd] at hc1;simpa [Nat.blt_eq] using hc1
    have hund:undone (listed.setIfInBounds i true) l.length=fuel:=by have:=zo hsz hnl l.length hil;omega
    unfold wpOp;simp only [List.getElem?_toArray,ho];by_cases hie:i=e
    · -- the one that uses resources
     subst hie;rcases heff with ⟨_,o',p',ho',hp',hgd,hAe,hop⟩ | ⟨he,_⟩
     rotate_left
     ·omega
     rw [ho] at ho';cases ho';rw [hp] at hp';cases hp';obtain ⟨hext,hvals⟩:=hinv.early hnl;have hcx:Cx (preEnv l As x0 p.1++readEnv env p.2) res a g:=⟨hctx listed a g x0 i o p hinv ho hp hnl hw ⟨No,hext⟩ (fun kk q C hq hC hl _ d hd=>by
      obtain ⟨C0,rfl,hC0⟩:=hvals kk q C hq hC hl;exact hC0 d hd),fun y hy=>y.2.stay ((e01).trans' hext) (fun _ _ hf=>hf) (hst.hres y hy)⟩
     rw [if_pos (by simp [Region.wanted,hgd])];refine .inl (hop a g _ _ hcx hst.dis fun x v g' he hv h1 h2 h3=>?_);refine ih _ _ _ (hinv.put hil ho hdst hN hnl hw (fun hf=>?_) (fun _=>?_)) hund
     ·rw [(getD_set_true hsz).2 (.inl rfl)] at hf;cases hf
     ·refine ⟨x,.f Ax,hAe,hv,(hext.no).trans he (fun _ _ h=>h),h1,h2,fun b hb=>?_,fun kk q C hq hC hl d hd=>?_⟩
      ·rcases h3 b hb with h | h
       ·exact .inl h
       ·exact .inr (Nat.le_trans hext.size h)
      ·obtain ⟨C0,rfl,hC0⟩:=hvals kk q C hq hC hl;exact C0.mono he (hC0 d hd)
    · -- every other one
     have hstep:∀ x,(∀ (kk:Nat) q C,l[kk]? =some q->As[kk]? =some C->listed.getD kk false=true->kk∈p.1->∀ d,q.dst=some d->(C.at x).holds (a.tmps.getD d undef) g)->(∃ T,Ext T g1 g)->(res.drop us).all g->
       (∀ v g',Ext No g g'->(A.at x).holds v g'->wpAny P .any l.toArray (KF.sem P ks B) fuel (listed.setIfInBounds i true) (a.put o.dst v) g'.w)->
       (if Region.wanted o (yielded l.toArray a.tmps)=true then o.wp P a g.w (wpAny P .any l.toArray (KF.sem P ks B) fuel (listed.setIfInBounds i true)) (KF.sem P ks B)\/(o.asks P a g.w/\LetsOut (KF.sem P ks B)) else wpAny P .any l.toArray (KF.sem P ks B) fuel (listed.setIfInBounds i true) (a.put o.dst undef) g.w):=by
      intro x hvals hT hres hK;have hcx:Cx (preEnv l As x p.1++readEnv env p.2) (res.drop us) a g:=⟨hctx listed a g x i o p hinv ho hp hnl hw hT hvals,hres⟩
      have hob:=Lr (hops x) i o A p ho hA hp (by omega);unfold DObl at hob;split at hob
      ·rename_i hgd;rw [if_pos (by simp [Region.wanted,hgd])];exact .inl (hob a g _ _ hcx hK)
      ·rename_i j want hgd;obtain ⟨oj,dj,b,hj,hdj,hor0⟩:=hob;have hjp:j∈p.1:=by rw [hgd] at hc5;exact fI.1 hc5
       have hljs:=(List.getElem?_eq_some_iff.1 hj).1;obtain ⟨pj,hpj⟩:∃ pj,ps[j]? =some pj:=⟨_,List.getElem?_eq_getElem (by omega)⟩
       have hchj:=hone' j oj pj hj hpj;simp only [chkOne,Bool.and_eq_true] at hchj;have hdN:dj<a.tmps.size:=by rw [hinv.sz];have:=hchj.1.1.1.1.1;rw [hdj] at this;simpa [Nat.blt_eq] using this
       rcases hor0 with ⟨hlk,hor⟩ | ⟨hlk,hund2⟩
       rotate_left
       ·have hwd:=vB (ops:=l.toArray) (o:=o) (oj:=oj) (j:=j) (dj:=dj) (want:=want) (a:=a) (g:=g) hgd (by simpa using hj) hdj hlk hcx.henv hdN;rw [if_neg (by rw [hwd];decide)];exact hK undef g (Ext.refl _ _) (by rw [hund2];rfl)
       have hwd:=vT (ops:=l.toArray) (o:=o) (oj:=oj) (j:=j) (dj:=dj) (b:=b) (want:=want) (a:=a) (g:=g) hgd (by simpa using hj) hdj (Opd.tmp hlk) hcx.henv hdN;rcases hor with ⟨hb,hop⟩ | ⟨hb,hAany⟩
       ·rw [if_pos (by rw [hwd,hb];cases want<;> rfl)];exact .inl (hop a g _ _ hcx hK)
       ·rw [if_neg (by rw [hwd,hb];cases want<;> decide)];exact hK undef g (Ext.refl _ _) (by rw [hAany];rfl)
     cases hle:listed.getD e false with
     | false=>
      obtain ⟨hext,hvals⟩:=hinv.early hle;have hAc:A.late=false:=by
       cases hAl:A.late with
       | false=>rfl
       | true=>
        exfalso;rw [hlateAt i A hA,hAl] at hc6;have hbe:Nat.beq i e=false:=by
         cases hb:Nat.beq i e with
         | false=>rfl
         | true=>exact absurd (Nat.eq_of_beq_eq_true hb) hie
        simp only [hbe,Bool.not_true,Bool.false_or,List.any_eq_true] at hc6;obtain ⟨j,hj,hjl⟩:=hc6;have hlj:=hw j (List.all_eq_true.1 hc3 j hj);have hjs:j<l.length:=by
         rcases Nat.lt_or_ge j l.length with h | h
         ·exact h
         ·have:listed.size<=j:=by rw [hinv.size];exact h
          rw [Array.getD,dif_neg (by omega)] at hlj;cases hlj
        obtain ⟨C,hC⟩:∃ C,As[j]? =some C:=⟨_,List.getElem?_eq_getElem (by omega)⟩
        obtain ⟨C0,rfl,_⟩:=hvals j _ C (List.getElem?_eq_getElem hjs) hC hlj;rw [hlateAt j _ hC] at hjl;cases hjl
      obtain ⟨A0,rfl⟩:∃ A0,A= .c A0:=by cases A with
       | c A0=>exact ⟨A0,rfl⟩
       | f _=>cases hAc
      refine hstep x0 (fun kk q C hq hC hl _ d hd=>by obtain ⟨C0,rfl,hC0⟩:=hvals kk q C hq hC hl;exact hC0 d hd) ⟨No,hext⟩ (hresAt g hext.no) fun v g' he hv=>?_;refine ih _ _ _ (hinv.put hil ho hdst hN hnl hw (fun _=>⟨he,A0,hA,hv⟩) (fun hf=>?_)) hund;rcases (getD_set_true hsz).1 hf with h | h
      ·exact absurd h.symm hie
      ·rw [hle] at h;cases h
     | true=>
      obtain ⟨x,h1,h2,h3,h4,h5⟩:=hinv.late hle;refine hstep x (fun kk q C hq hC hl _ d hd=>h5 kk q C hq hC hl d hd) ⟨_,h1⟩ (hresAt g h1) fun v g' he hv=>?_;refine ih _ _ _ (hinv.put hil ho hdst hN hnl hw (fun hf=>?_) (fun _=>?_)) hund
      ·rw [(getD_set_true hsz).2 (.inr hle)] at hf;cases hf
      ·refine ⟨x,A,hA,hv,h1.trans' he,h2.stay he (fun _ _ hf=>hf),h3,h4,fun kk q C hq hC hl d hd=>?_⟩;exact (C.at x).mono he (h5 kk q C hq hC hl d hd)
 have hstart:DInv N l As e res us out a0 g1 (Array.replicate l.length false) a0 g1:=by
  have hf:∀ j,(Array.replicate l.length false).getD j false=false:=fun j=>by simp [Array.getD]
  refine ⟨by simp,hst.sz,hst.dfr,?_,fun _ _=>rfl,?_,?_⟩
  ·intro kk o _ hl;rw [hf] at hl;cases hl
  ·intro _;refine ⟨Ext.refl _ _,fun kk o A _ _ hl=>?_⟩;rw [hf] at hl;cases hl
  ·intro hl;rw [hf] at hl;cases hl
 have hu0:undone (Array.replicate l.length false) l.length=l.length:=by
  unfold undone;rw [List.countP_eq_length.2]
  ·simp
  ·intro i _;simp [Array.getD]
 have:=key l.length _ a0 g1 hstart hu0;rw [show l.toArray.size=l.length from rfl];exact this
theorem W.drawR{id:Nat}(As:List (DA ρ))(ps:List (List Nat×List Nat))(e:Nat)(us:List Nat)(Ax:ρ->Asn)(out:ρ->Rs)(x0:ρ)(hm:P.follows .mixedOrders=true)
  (hchk:chkD N l (As.map DA.late) e 0 l ps=true) (hdst:dstsD l=true) (hlen:As.length=l.length) (hops:∀ x,DOps P x l As env (res.drop us) e 0 l As ps)
  (heff:(e<l.length/\ ∃ o p,l[e]? =some o/\ps[e]? =some p/\o.guard=none/\As[e]? =some (.f Ax)/\OpR P o (preEnv l As x0 p.1++readEnv env p.2) res us Ax out)\/(l.length<=e/\us= []/\out x0= []/\As.all (fun A=>!A.late)=true))
  (k:∀ x,WN P N g0 T0 ks B (outEnv x l As++env) (out x++res.drop us)):W P N g0 T0 (.region id l.toArray true) ks B env res:=
 W.ofA hm (WA.drawR As ps e us Ax out x0 hm hchk hdst hlen hops heff k)
theorem W.draw{id:Nat}(As:List (DA Unit))(ps:List (List Nat×List Nat))(hm:P.follows .mixedOrders=true)
  (hchk:chkD N l (As.map DA.late) l.length 0 l ps=true) (hdst:dstsD l=true) (hlen:As.length=l.length) (hlate:As.all (fun A=>!A.late)=true) (hops:DOps P () l As env res l.length 0 l As ps)
  (k:WN P N g0 T0 ks B (outEnv () l As++env) res):W P N g0 T0 (.region id l.toArray true) ks B env res:=by
 have hdrop:res.drop []=res:=by simp [Rs.drop,memB]
 refine W.drawR (ρ:=Unit) As ps l.length [] (fun _=>Asn.any) (fun _=>[]) () hm hchk hdst hlen (fun _=>by rw [hdrop];exact hops) (.inr ⟨Nat.le_refl _,rfl,rfl,hlate⟩) (fun _=>by rw [hdrop];exact k)
end
end Go.Dec
/-
  The rules of operations, told of the models' own operations.
-/
namespace Go.Dec
open Go
variable {α:Type}
theorem uQ{n:Int}:fits64 n=true ↔ inR .i64 n:=by rw [inR64];simp [fits64]
section
variable {P:Program} {N:Nat} {g0:G} {T0:Nat->Prop} {ks:List KF} {B:Exit->Act->World->Prop} {env:Env} {res:Rs} {d:Option Tmp} {ty:TypeId} {pos:String} {aft:Array Edge} {gd:Option (Nat×Bool)}
section
variable {x y:Operand} {m n z:Int} {T T':TypeId}
theorem Op1.addC(h:Dec.addC m n=some z)(hx:Opd env x ((tI .i64).is m):=by exact .tmp rfl)(hy:Opd env y ((tI .i64).is n):=by exact .tmp rfl):Op1 P ⟨d,.binOp .add T x y T',ty,pos,aft,gd⟩ env res ((tI .i64).is z):=by
 unfold Dec.addC at h;split at h
 ·cases h;exact Op1.addI hx hy (uQ.1 (by assumption))
 ·cases h
theorem Op1.addI1{l:Nat}(hx:Opd env x ((tI .i64).is m))(hy:Opd env y ((tI .i64).is 1))(hp:m<(l:Int))(hl:l<=lim):Op1 P ⟨d,.binOp .add T x y T',ty,pos,aft,gd⟩ env res ((tI .i64).is (m+1)):=by
 intro a g K Q hc hK;have h1:=inR64.1 (hx.atInt hc).2;exact Op1.addI (P:=P) hx hy (inR64.2 (by unfold lim at hl;omega)) a g K Q hc hK
theorem oU{pre xs:List α}{i:Int}(hi:i=(pre.length:Int))(hp:i<(xs.length:Int))(hl:xs.length<=lim):inR .i64 (i+1):=inR64.2 (by unfold lim at hl;omega)
theorem Op1.subC(h:Dec.subC m n=some z)(hx:Opd env x ((tI .i64).is m):=by exact .tmp rfl)(hy:Opd env y ((tI .i64).is n):=by exact .tmp rfl):Op1 P ⟨d,.binOp .sub T x y T',ty,pos,aft,gd⟩ env res ((tI .i64).is z):=by
 unfold Dec.subC at h;split at h
 ·cases h;exact Op1.subI hx hy (uQ.1 (by assumption))
 ·cases h
theorem Op1.mulC(h:Dec.mulC m n=some z)(hx:Opd env x ((tI .i64).is m):=by exact .tmp rfl)(hy:Opd env y ((tI .i64).is n):=by exact .tmp rfl):Op1 P ⟨d,.binOp .mul T x y T',ty,pos,aft,gd⟩ env res ((tI .i64).is z):=by
 unfold Dec.mulC at h;split at h
 ·cases h;exact Op1.mulI hx hy (uQ.1 (by assumption))
 ·cases h
theorem Op1.quoC(h:Dec.quoC m n=some z)(hx:Opd env x ((tI .i64).is m):=by exact .tmp rfl)(hy:Opd env y ((tI .i64).is n):=by exact .tmp rfl):Op1 P ⟨d,.binOp .quo T x y T',ty,pos,aft,gd⟩ env res ((tI .i64).is z):=by
 unfold Dec.quoC at h;split at h
 ·rename_i hh;cases h;exact Op1.quoI hx hy hh.1 (uQ.1 hh.2)
 ·cases h
theorem Op1.remC(h:Dec.remC m n=some z)(hx:Opd env x ((tI .i64).is m):=by exact .tmp rfl)(hy:Opd env y ((tI .i64).is n):=by exact .tmp rfl):Op1 P ⟨d,.binOp .rem T x y T',ty,pos,aft,gd⟩ env res ((tI .i64).is z):=by
 unfold Dec.remC at h;split at h
 ·rename_i hh;cases h;exact Op1.remI hx hy hh.1 (uQ.1 hh.2)
 ·cases h
end
section
variable {x y z:Operand} {l m r:Str} {i j:Int} {k k':IntKind} {T T':TypeId}
theorem Op1.catC(h:Dec.catC l m=some r)(hx:Opd env x (tS.is l):=by exact .tmp rfl)(hy:Opd env y (tS.is m):=by exact .tmp rfl):Op1 P ⟨d,.binOp .add T x y T',ty,pos,aft,gd⟩ env res (tS.is r):=by
 unfold Dec.catC at h;split at h
 ·cases h;exact Op1.cat hx hy (by unfold lim;assumption)
 ·cases h
theorem Op1.sidx{b:UInt8}(h:idx l i=some b)(hT:P.underlying T=some .string)(hx:Opd env x (tS.is l):=by exact .tmp rfl)(hy:Opd env y ((tI k).is i):=by exact .tmp rfl):Op1 P ⟨d,.index T x y,ty,pos,aft,gd⟩ env res ((tI .u8).is (b.toNat:Int)):=by
 unfold idx at h;split at h
 ·exact Op1.indexS hT hx hy (by assumption) h
 ·cases h
theorem Op1.sslcLo(h:slcLo l i=some r)(hT:P.underlying T=some .string)(hx:Opd env x (tS.is l):=by exact .tmp rfl)(hy:Opd env y ((tI k).is i):=by exact .tmp rfl):Op1 P ⟨d,.slice T x (some y) none none,ty,pos,aft,gd⟩ env res (tS.is r):=by
 unfold slcLo at h;split at h
 ·rename_i hh;cases h;exact Op1.sliceSlo hT hx hy hh.1 hh.2
 ·cases h
theorem Op1.sslcHi(h:slcHi l j=some r)(hT:P.underlying T=some .string)(hx:Opd env x (tS.is l):=by exact .tmp rfl)(hy:Opd env y ((tI k).is j):=by exact .tmp rfl):Op1 P ⟨d,.slice T x none (some y) none,ty,pos,aft,gd⟩ env res (tS.is r):=by
 unfold slcHi at h;split at h
 ·rename_i hh;cases h;exact Op1.sliceShi hT hx hy hh.1 hh.2
 ·cases h
end
section
variable {α:Type} {t:Ty α} {x y z:Operand} {l r:List α} {i j:Int} {k k':IntKind} {T e:TypeId}
theorem Op1.slc(h:Dec.slc l i j=some r)(hT:P.underlying T=some (.slice e))(hsz:∀ w,(sizeOf e).run P w= .ok t.size w)(hx:Opd env x ((tL t).is l):=by exact .tmp rfl)(hy:Opd env y ((tI k).is i):=by exact .tmp rfl)(hz:Opd env z ((tI k').is j):=by exact .tmp rfl) :
  Op1 P ⟨d,.slice T x (some y) (some z) none,ty,pos,aft,gd⟩ env res ((tL t).is r):=by
 unfold Dec.slc at h;split at h
 ·rename_i hh;cases h;exact Op1.sliceL hT hsz hx hy hz hh.1 hh.2.1 hh.2.2
 ·cases h
theorem Op1.slcLo(h:Dec.slcLo l i=some r)(hT:P.underlying T=some (.slice e))(hsz:∀ w,(sizeOf e).run P w= .ok t.size w)(hx:Opd env x ((tL t).is l):=by exact .tmp rfl)(hy:Opd env y ((tI k).is i):=by exact .tmp rfl) :
  Op1 P ⟨d,.slice T x (some y) none none,ty,pos,aft,gd⟩ env res ((tL t).is r):=by
 unfold Dec.slcLo at h;split at h
 ·rename_i hh;cases h;exact Op1.sliceLlo hT hsz hx hy hh.1 hh.2
 ·cases h
theorem Op1.slcHi(h:Dec.slcHi l j=some r)(hT:P.underlying T=some (.slice e))(hsz:∀ w,(sizeOf e).run P w= .ok t.size w)(hx:Opd env x ((tL t).is l):=by exact .tmp rfl)(hy:Opd env y ((tI k).is j):=by exact .tmp rfl) :
  Op1 P ⟨d,.slice T x none (some y) none,ty,pos,aft,gd⟩ env res ((tL t).is r):=by
 unfold Dec.slcHi at h;split at h
 ·rename_i hh;cases h;exact Op1.sliceLhi hT hsz hx hy hh.1 hh.2
 ·cases h
theorem Op1.idx{u:α}(h:Dec.idx l i=some u)(hT:P.underlying T=some (.slice e))(hsz:∀ w,(sizeOf e).run P w= .ok t.size w)(hx:Opd env x ((tL t).is l):=by exact .tmp rfl)(hy:Opd env y ((tI k).is i):=by exact .tmp rfl) :
  Op1 P ⟨d,.indexAddr T x y,ty,pos,aft,gd⟩ env res (t.ptr u):=by
 unfold Dec.idx at h;split at h
 ·exact Op1.indexAddr hT hsz hx hy (by assumption) h
 ·cases h
theorem Op1.idxPre{u:α}{pre rest:List α}(h:l=pre++u :: rest)(hi:i=pre.length)(hT:P.underlying T=some (.slice e))(hsz:∀ w,(sizeOf e).run P w= .ok t.size w)(hx:Opd env x ((tL t).is l):=by exact .tmp rfl)(hy:Opd env y ((tI k).is i):=by exact .tmp rfl) :
  Op1 P ⟨d,.indexAddr T x y,ty,pos,aft,gd⟩ env res (t.ptr u):=by
 subst h hi;exact Op1.indexAddr hT hsz hx hy (by omega) (by simp)
theorem OpR.appC{E:TypeId}{s:Operand}{tk:Tok}{m:List α}{key:Nat}(h:Dec.appC l m=some r)(hT:P.underlying T=some (.slice E))(hE:ElAt P E t)(hs:Opd env s (tO t tk l))(hx:Opd env x ((tL t).is m))
  (hr:res.pick [key]= [(key,Own t E tk l.length)]) :
  OpR P ⟨d,.call ⟨.builtin .append,#[s,x],#[T,T]⟩,ty,pos,aft,gd⟩ env res [key] (fun k':Tok=>tO t k' r) (fun k'=>[(key,Own t E k' r.length)]):=by
 unfold Dec.appC at h;split at h
 ·cases h;exact OpR.append hT hE hs hx hr (by unfold xy;assumption)
 ·cases h
end
theorem W.nM{t:Ty α}{c:Code}{l:List α}{s:Nat}(h:Opd env (.tmp s) ((tL t).is l))(k:l.length<=lim->W P N g0 T0 c ks B env res):W P N g0 T0 c ks B env res:=by
 intro a g hst;obtain ⟨_,_,_,_,h3,_⟩:=h.atL hst.cx;exact k h3 a g hst
theorem WL.nM{ops:Array Oper}{Q:Exit->Act->World->Prop}{c:List Oper}{t:Ty α}{l:List α}{s:Nat}(h:Opd env (.tmp s) ((tL t).is l))(k:l.length<=lim->WL P N g0 T0 ops Q c env res):WL P N g0 T0 ops Q c env res:=by
 intro a g hst;obtain ⟨_,_,_,_,h3,_⟩:=h.atL hst.cx;exact k h3 a g hst
theorem WL.CE{ops:Array Oper}{Q:Exit->Act->World->Prop}{c:List Oper}{l:Str}{s:Nat}(h:Opd env (.tmp s) (tS.is l))(k:l.length<=lim->WL P N g0 T0 ops Q c env res):WL P N g0 T0 ops Q c env res:=by
 intro a g hst;exact k (h.atStr hst.cx).2 a g hst
theorem W.join{σ:Type}{c d:Code}(J:σ->Prop)(eJ:σ->Env)(rJ:σ->Rs)(rest:∀ s,J s->W P N g0 T0 d ks B (eJ s) (rJ s))
  (first:W P N g0 T0 c (.loop (fun a w=>∃ s g,J s/\g.w=w/\St N g0 T0 (eJ s) (rJ s) a g) :: ks) B env res):W P N g0 T0 (.seq c d) ks B env res:=by
 intro a g hst;refine wp_seq (wp_mono (first a g hst) ?_);intro e a' w' hq;cases e with
 | normal=>
  obtain ⟨s,g',h1,h2,h3⟩:=hq;subst h2;exact rest s h1 a' g' h3
 | exit id=>exact hq
 | goto l=>exact hq
 | ret=>exact hq
 | panic ch=>exact hq
 | outgrown=>exact hq
theorem WN.meet{σ:Type}{J:σ->Prop}{eJ:σ->Env}{rJ:σ->Rs}(s:σ)(hJ:J s)(hs:Sub (eJ s) env)(hr:RSub (rJ s) res) :
  WN P N g0 T0 (.loop (fun a w=>∃ s g,J s/\g.w=w/\St N g0 T0 (eJ s) (rJ s) a g) :: ks) B env res:=
 fun a g hst=>⟨s,g,hJ,rfl,hst.weaken hs hr⟩
theorem W.ret0{fn:Func}{rin:Rs}{ρ:Type}{A:ρ->Asn}{out:ρ->Rs}(x:ρ)(hr:fn.results= #[])(hA:∀ g,(A x).holds (.tuple #[]) g)(hs:RSub (out x) res) :
  W P N g0 rin.blks .ret ks (Bo P fn g0 rin A out) env res:=
 W.ret fun a g hst=>⟨hst.dfr,_,results_none hr _ _ _,x,_,g,rfl,rfl,hst.ext,hA g,fun y hy=>hst.hres y (hs.mem y hy),hs.dis hst.dis,fun b ⟨y,hy,hyb⟩=>(hst.own b ⟨y,hs.mem y hy,hyb⟩).symm⟩
theorem WN.fin{fn:Func}{rin:Rs}{ρ:Type}{A:ρ->Asn}{out:ρ->Rs}(x:ρ)(hr:fn.results= #[])(hA:∀ g,(A x).holds (.tuple #[]) g)(hs:RSub (out x) res) :
  WN P N g0 rin.blks [] (Bo P fn g0 rin A out) env res:=
 fun a g hst=>⟨hst.dfr,_,results_none hr _ _ _,x,_,g,rfl,rfl,hst.ext,hA g,fun y hy=>hst.hres y (hs.mem y hy),hs.dis hst.dis,fun b ⟨y,hy,hyb⟩=>(hst.own b ⟨y,hs.mem y hy,hyb⟩).symm⟩
end
end Go.Dec
/-
  Rules for nil slices and for what package slices does with capacities.
-/
namespace Go.Dec
open Go
variable {T e:TypeId}{x:Operand}{α:Type}{xs:List α}
section
variable {P:Program} {N:Nat} {g0:G} {T0:Nat->Prop} {ks:List KF} {B:Exit->Act->World->Prop} {env:Env} {res:Rs} {d:Option Tmp} {ty:TypeId} {pos:String} {aft:Array Edge} {gd:Option (Nat×Bool)}
theorem OpR.same{o:Oper}{ρ:Type}{A:ρ->Asn}(h:∀ a g,Cx env res a g->∃ x v,(execOp a.eval o).run P g.w= .ok (.value v) g.w/\(A x).holds v g):OpR P o env res [] A (fun _=>[]):=by
 intro a g K Q hc _ hK;obtain ⟨x,v,hr,hv⟩:=h a g hc;show o.upon P a K Q ((execOp a.eval o).run P g.w);rw [hr];exact hK x v g (Ext.refl _ _) hv (fun _ h=>by cases h) List.Pairwise.nil (fun b ⟨y,hy,_⟩=>by cases hy)
theorem Ef{P:Program}(hT:P.underlying T=some (.slice e))(p:Option Addr)(n c:Nat)(w:World):(binOp .eql T (.slice p n c) (.slice none 0 0)).run P w= .ok (.bool p.isNone) w:=by
 have h:∀ d,(Op.equalIn (d+1) T (.slice p n c) (.slice none 0 0)).run P w= .ok p.isNone w:=by
  intro d;cases p<;> simp [Op.equalIn,run_underlying hT]
 have h2:(Op.equal T (.slice p n c) (.slice none 0 0)).run P w= .ok p.isNone w:=h 9999;simp only [binOp];simp [h2]
theorem Eg{P:Program}(hT:P.underlying T=some (.slice e))(p:Option Addr)(n c:Nat)(w:World):(binOp .neq T (.slice p n c) (.slice none 0 0)).run P w= .ok (.bool (!p.isNone)) w:=by
 have h:∀ d,(Op.equalIn (d+1) T (.slice p n c) (.slice none 0 0)).run P w= .ok p.isNone w:=by
  intro d;cases p<;> simp [Op.equalIn,run_underlying hT]
 have h2:(Op.equal T (.slice p n c) (.slice none 0 0)).run P w= .ok p.isNone w:=h 9999;simp only [binOp];simp [h2]
theorem OpR.eqNil{t:Ty α}{T':TypeId}(hT:P.underlying T=some (.slice e))(hx:Opd env x ((tL t).is xs):=by exact .tmp rfl) :
  OpR P ⟨d,.binOp .eql T x (.const (.slice none 0 0)) T',ty,pos,aft,gd⟩ env res [] (fun b:{b:Bool // b=true->xs= []}=>tB.is b.1) (fun _=>[]):=
 OpR.same fun a g hc=>by
  obtain ⟨p,c,hv,h2,h3,h4,h5⟩:=hx.atL hc;refine ⟨⟨p.isNone,fun h=>?_⟩,.bool p.isNone,?_,Asn.bool⟩
  ·cases p with
   | none=>exact h5
   | some _=>cases h
  ·exact tC hv rfl (eqGuard_at_slice _ _ _ _ _ _ _ _) (Ef hT _ _ _ _)
theorem Opd.atLn{t:Ty α}(h:Opd env x ((Dec.tLn t).is xs)){a:Act}{g:G}(hc:Cx env res a g) :
  ∃ p c,a.eval x= .slice p xs.length c/\Row t g p xs/\(xs= []->p=none):=by
 obtain ⟨cs,⟨p,c,h1,h2,h3,h4,h5,h6⟩,hv⟩:=h a g hc.henv;exact ⟨p,c,by rw [hv,h1];rfl,h5,h6⟩
theorem Op1.neNil{t:Ty α}{T':TypeId}(hT:P.underlying T=some (.slice e))(hx:Opd env x ((tLn t).is xs):=by exact .tmp rfl) :
  Op1 P ⟨d,.binOp .neq T x (.const (.slice none 0 0)) T',ty,pos,aft,gd⟩ env res (tB.is (!xs.isEmpty)):=
 Op1.same fun a g hc=>by
  obtain ⟨p,c,hv,h5,h6⟩:=hx.atLn hc;refine ⟨.bool (!p.isNone),tC hv rfl (eqGuard_at_slice _ _ _ _ _ _ _ _) (Eg hT _ _ _ _),?_⟩;have:p.isNone=xs.isEmpty:=by
   cases p with
   | none=>rw [show xs= [] from h5];rfl
   | some _=>cases xs with
    | nil=>cases h6 rfl
    | cons _ _=>rfl
  rw [<-this];exact Asn.bool
end
end Go.Dec
/-
  Readings of types that hold themselves; equality of structs.
-/
namespace Go.Dec
open Go
variable {D:Nat}{α β:Type}{F:Ty α->Ty β}{T:TypeId}{c:Nat->Ty α}{u:α}
theorem Fld.one(s:Ty α):Fld (tOne s) 0 s (fun x=>x):=Fld.last s
theorem dN.one(s:Ty α):dN (tOne s) 0 s (fun _ y=>y):=dN.last s
def tNone(α:Type)(n:Nat)(agg:Bool)(h:agg=false->n=1):Ty α where
 size:=n
 agg:=agg
 rep:=fun _ _ _=>False
 len:=fun h=>h.elim
 one:=fun h=>h.elim
 mono:=fun _ h=>h
 sing:=h
def itr{α:Type}(F:Ty α->Ty α)(z:Ty α):Nat->Ty α
 | 0=>z
 | d+1=>F (itr F z d)
structure Le {α:Type} (s t:Ty α):Prop where
 size:s.size=t.size
 agg:s.agg=t.agg
 rep:∀ g cs x,s.rep g cs x->t.rep g cs x
theorem Le.refl(s:Ty α):Le s s:=⟨rfl,rfl,fun _ _ _ h=>h⟩
theorem Le.trans{s t u:Ty α}(h:Le s t)(k:Le t u):Le s u:=⟨h.size.trans k.size,h.agg.trans k.agg,fun g cs x hx=>k.rep g cs x (h.rep g cs x hx)⟩
theorem Le.At{s t:Ty α}(h:Le s t){g:G}{b o:Nat}{x:α}(ha:s.At g b o x):t.At g b o x:=
 let ⟨cs,h1,h2⟩:=ha;⟨cs,h.rep g cs x h1,h2⟩
def tSup{α:Type}(c:Nat->Ty α)(hs:∀ d,(c d).size=(c 0).size)(ha:∀ d,(c d).agg=(c 0).agg):Ty α where
 size:=(c 0).size
 agg:=(c 0).agg
 rep:=fun g cs x=>∃ d,(c d).rep g cs x
 len:=fun ⟨d,h⟩=>((c d).len h).trans (hs d)
 one:=fun ⟨d,h⟩=>(c d).one h
 mono:=fun e ⟨d,h⟩=>⟨d,(c d).mono e h⟩
 sing:=(c 0).sing
structure Chain {α:Type} (c:Nat->Ty α):Prop where
 step:∀ d,Le (c d) (c (d+1))
theorem Chain.le(h:Chain c){d e:Nat}(hde:d<=e):Le (c d) (c e):=by
 induction hde with
 | refl=>exact Le.refl _
 | step _ ih=>exact ih.trans (h.step _)
theorem Chain.size(h:Chain c)(d:Nat):(c d).size=(c 0).size:=(h.le (Nat.zero_le d)).size.symm
theorem Chain.agg(h:Chain c)(d:Nat):(c d).agg=(c 0).agg:=(h.le (Nat.zero_le d)).agg.symm
def Chain.sup{α:Type}{c:Nat->Ty α}(h:Chain c):Ty α:=tSup c h.size h.agg
theorem Chain.up(h:Chain c)(d:Nat):Le (c d) h.sup:=⟨h.size d,h.agg d,fun g cs x hx=>⟨d,hx⟩⟩
structure Cont {α β:Type} (F:Ty α->Ty β):Prop where
 mono:∀ {s t},Le s t->Le (F s) (F t)
 sup:∀ {c:Nat->Ty α} (h:Chain c) g cs x,(F h.sup).rep g cs x->∃ d,(F (c d)).rep g cs x
theorem Cont.const(t:Ty β):Cont (fun _:Ty α=>t):=⟨fun _=>Le.refl _,fun _ _ _ _ h=>⟨0,h⟩⟩
theorem Cont.id:Cont (fun s:Ty α=>s):=⟨fun h=>h,fun h g cs x hx=>hx⟩
theorem Cont.at(hF:Cont F)(h:Chain c){d e:Nat}(hde:d<=e):Le (F (c d)) (F (c e)):=hF.mono (h.le hde)
theorem Cont.pair{γ:Type}{K:Ty α->Ty γ}(hF:Cont F)(hK:Cont K):Cont (fun s=>tP (F s) (K s)):=by
 refine ⟨fun {s t} h=>⟨?_,rfl,?_⟩,fun {c} h g cs x hx=>?_⟩
 ·show (F s).size+(K s).size=_;rw [(hF.mono h).size,(hK.mono h).size];rfl
 ·rintro g cs x ⟨c1,c2,rfl,h1,h2⟩;exact ⟨c1,c2,rfl,(hF.mono h).rep _ _ _ h1,(hK.mono h).rep _ _ _ h2⟩
 ·obtain ⟨c1,c2,rfl,h1,h2⟩:=hx;obtain ⟨d1,k1⟩:=hF.sup h _ _ _ h1;obtain ⟨d2,k2⟩:=hK.sup h _ _ _ h2;exact ⟨max d1 d2,c1,c2,rfl,(hF.at h (Nat.le_max_left _ _)).rep _ _ _ k1,(hK.at h (Nat.le_max_right _ _)).rep _ _ _ k2⟩
theorem Cont.one(hF:Cont F):Cont (fun s=>tOne (F s)):=
 ⟨fun h=>⟨(hF.mono h).size,rfl,fun g cs x hx=>(hF.mono h).rep g cs x hx⟩,fun h g cs x hx=>hF.sup h g cs x hx⟩
theorem Cont.map{γ:Type}(f:γ->β)(hF:Cont F):Cont (fun s=>tMap (F s) f):=
 ⟨fun h=>⟨(hF.mono h).size,(hF.mono h).agg,fun g cs x hx=>(hF.mono h).rep g cs (f x) hx⟩,fun h g cs x hx=>hF.sup h g cs (f x) hx⟩
theorem Row.le{s t:Ty α}(h:Le s t){g:G}{p:Option Addr}{xs:List α}(hr:Row s g p xs):Row t g p xs:=by
 cases p with
 | none=>exact hr
 | some a=>exact ⟨hr.1,fun i x hx=>by rw [<-h.size];exact h.At (hr.2 i x hx)⟩
theorem Chain.below(hF:Cont F)(h:Chain c)(Q:Nat->β->Nat->Prop)(hQ:∀ i x d e,d<=e->Q i x d->Q i x e) :
  ∀ (xs:List β) (o:Nat),(∀ i x,xs[i]? =some x->∃ d,Q (o+i) x d)->∃ d,∀ i x,xs[i]? =some x->Q (o+i) x d
 | [],_,_=>⟨0,fun i x h=>by simp at h⟩
 | y :: ys,o,hx=>by
  obtain ⟨d1,h1⟩:=hx 0 y rfl;obtain ⟨d2,h2⟩:=Chain.below hF h Q hQ ys (o+1) (fun i x hi=>by
   have:=hx (i+1) x (by simpa using hi);rwa [show o+(i+1)=o+1+i by omega] at this)
  refine ⟨max d1 d2,fun i x hi=>?_⟩;cases i with
  | zero=>
   simp at hi;subst hi;exact hQ _ _ _ _ (Nat.le_max_left _ _) h1
  | succ i=>
   have:=h2 i x (by simpa using hi);rw [show o+(i+1)=o+1+i by omega];exact hQ _ _ _ _ (Nat.le_max_right _ _) this
theorem Cont.list(hF:Cont F):Cont (fun s=>tL (F s)):=by
 refine ⟨fun {s t} h=>⟨rfl,rfl,?_⟩,fun {c} h g cs xs hx=>?_⟩
 ·rintro g cs xs ⟨p,c,h1,h2,h3,h4,h5⟩;exact ⟨p,c,h1,h2,h3,h4,h5.le (hF.mono h)⟩
 ·obtain ⟨p,k,h1,h2,h3,h4,h5⟩:=hx;cases p with
  | none=>exact ⟨0,none,k,h1,h2,h3,h4,h5⟩
  | some a=>
   obtain ⟨hs,hat⟩:=h5;have hsz:∀ d,(F h.sup).size=(F (c d)).size:=fun d=>((hF.mono (h.up d)).size).symm;obtain ⟨d,hd⟩:=Chain.below hF h (fun i x d=>(F (c d)).At g a.block (a.off+i*(F h.sup).size) x) (fun i x d e hde hq=>(hF.at h hde).At hq) xs 0 (fun i x hi=>by
    obtain ⟨cs,k1,k2⟩:=hat i x hi;obtain ⟨d,k3⟩:=hF.sup h _ _ _ k1;exact ⟨d,cs,k3,by rw [Nat.zero_add];exact k2⟩)
   refine ⟨d,some a,k,h1,h2,h3,h4,hs,fun i x hi=>?_⟩;have:=hd i x hi;rw [Nat.zero_add,hsz d] at this;exact this
structure Rec {α:Type} (F:Ty α->Ty α) (n:Nat):Prop where
 cont:Cont F
 size:(F (tNone α n true (fun h=>by cases h))).size=n
 agg:(F (tNone α n true (fun h=>by cases h))).agg=true
theorem Rec.chain{F:Ty α->Ty α}{n:Nat}(h:Rec F n):Chain (itr F (tNone α n true (fun h=>by cases h))):=by
 constructor;intro d;induction d with
 | zero=>exact ⟨h.size.symm,h.agg.symm,fun _ _ _ hf=>hf.elim⟩
 | succ d ih=>exact h.cont.mono ih
def tFix{α:Type}{F:Ty α->Ty α}{n:Nat}(h:Rec F n):Ty α where
 size:=n
 agg:=true
 rep:=fun g cs x=>∃ d,(itr F (tNone α n true (fun h=>by cases h)) d).rep g cs x
 len:=fun ⟨d,hd⟩=>((itr F _ d).len hd).trans (h.chain.size d)
 one:=fun ⟨d,hd⟩=>(itr F _ d).one hd
 mono:=fun e ⟨d,hd⟩=>⟨d,(itr F _ d).mono e hd⟩
 sing:=fun h=>by cases h
theorem Rec.out{F:Ty α->Ty α}{n:Nat}(h:Rec F n):Le (tFix h) (F (tFix h)):=by
 have hl:Le (F (tNone α n true (fun h=>by cases h))) (F (tFix h)):=h.cont.mono (h.chain.up 0);refine ⟨h.size.symm.trans hl.size,h.agg.symm.trans hl.agg,?_⟩;rintro g cs x ⟨d,hd⟩;have h1:Le (itr F (tNone α n true (fun h=>by cases h)) d) (itr F _ (d+1)):=h.chain.step d;exact (h.cont.mono (h.chain.up d)).rep _ _ _ (h1.rep _ _ _ hd)
theorem Rec.into{F:Ty α->Ty α}{n:Nat}(h:Rec F n):Le (F (tFix h)) (tFix h):=by
 refine ⟨h.out.size.symm,h.out.agg.symm,?_⟩;intro g cs x hx;obtain ⟨d,hd⟩:=h.cont.sup h.chain g cs x hx;exact ⟨d+1,hd⟩
theorem Fld.le{s s':Ty α}{o:Nat}{t:Ty β}{f:α->β}(l:Le s' s)(h:Fld s o t f):Fld s' o t f:=fun g cs x hx=>h g cs x (l.rep g cs x hx)
theorem dN.le{s s':Ty α}{o:Nat}{t:Ty β}{f:α->β->α}(l:Le s' s)(k:Le s s')(h:dN s o t f):dN s' o t f:=fun g cs ds x y hx hy=>
 let ⟨h1,h2⟩:=h g cs ds x y (l.rep g cs x hx) hy;⟨h1,k.rep _ _ _ h2⟩
structure EqT (P:Program) {α:Type} [DecidableEq α] (T:TypeId) (t:Ty α) (D:Nat):Prop where
 eq:∀ {g:G} {cs ds:List Value} {x y:α},t.rep g cs x->t.rep g ds y->∀ d,D<=d->∀ w,(Op.equalIn d T (mkVal t.agg cs) (mkVal t.agg ds)).run P w= .ok (decide (x=y)) w
theorem EqT.up{P:Program}[DecidableEq α]{t:Ty α}{D':Nat}(h:EqT P T t D)(hD:D<=D'):EqT P T t D':=⟨fun hx hy d hd w=>h.eq hx hy d (Nat.le_trans hD hd) w⟩
section
variable {P:Program}
theorem EqT.int{k:IntKind}(hT:P.underlying T=some (.int k)):EqT P T (tI k) 1:=by
 constructor;rintro g cs ds x y ⟨rfl,_⟩ ⟨rfl,_⟩ d hd w;obtain ⟨d,rfl⟩:∃ e,d=e+1:=⟨d-1,by omega⟩
 have:=run_equalIn_int (P:=P) w d T k k x y hT;show (Op.equalIn (d+1) T (.int k x) (.int k y)).run P w=_;rw [this];congr 1
theorem EqT.string(hT:P.underlying T=some .string):EqT P T tS 1:=by
 constructor;rintro g cs ds x y ⟨rfl,_⟩ ⟨rfl,_⟩ d hd w;obtain ⟨d,rfl⟩:∃ e,d=e+1:=⟨d-1,by omega⟩
 have:=run_equalIn_string (P:=P) w d T (Dec.str x) (Dec.str y) hT;show (Op.equalIn (d+1) T (.string (Dec.str x)) (.string (Dec.str y))).run P w=_;rw [this,wQ,wQ];congr 1;by_cases h:x=y<;> simp [h]
theorem CJ{s:Ty α}{t:Ty β}{f:α->β}{o:Nat}(ht:TyAt P T t)(hF:Fld s o t f){g:G}{cs:List Value}(hr:s.rep g cs u) :
  ∃ ds,t.rep g ds (f u)/\ ∀ w,(part T cs.toArray o).run P w= .ok (mkVal t.agg ds) w:=by
 obtain ⟨ds,hd,hj⟩:=hF g cs u hr;refine ⟨ds,hd,fun w=>?_⟩;have hlen:=t.len hd;cases ha:t.agg with
 | true=>
  have hagg:=ht.agg w;rw [ha] at hagg;have hex:cs.toArray.extract o (o+t.size)=ds.toArray:=by
   apply Array.ext';simp only [List.extract_toArray,List.extract_eq_take_drop];apply List.ext_getElem?;intro q;rw [Nat.add_sub_cancel_left,List.getElem?_take,List.getElem?_drop];split
   ·rename_i hq;rw [<-hlen] at hq;rw [List.getElem?_eq_getElem hq];exact hj q _ (List.getElem?_eq_getElem hq)
   ·rename_i hq;rw [List.getElem?_eq_none (by omega)]
  simp only [part,Sem.run_bind,hagg,Result.andThen_ok,ht.size,hex,mkVal,Sem.run_pure,if_true]
 | false=>
  have hagg:=ht.agg w;rw [ha] at hagg;rw [t.sing ha] at hlen
  match ds,hlen with
  | [c],_=>
   have h0:=hj 0 c rfl;rw [Nat.add_zero] at h0;simp [part,hagg,h0,mkVal]
def EqL(P:Program){α:Type}(s:Ty α)(D:Nat):List Field->(α->α->Prop)->Prop
 | [],R=>R=fun _ _=>True
 | f :: fs,R=>∃ (β:Type) (_:DecidableEq β) (t:Ty β) (p:α->β) (R':α->α->Prop),f.name≠ "_" /\TyAt P f.type t/\Fld s f.offset t p/\EqT P f.type t D/\EqL P s D fs R'/\R=fun x y=>p x=p y/\R' x y
theorem zZ{s:Ty α}{g:G}{cs ds:List Value}{x y:α}(hx:s.rep g cs x)(hy:s.rep g ds y):∀ (fs:List Field) (R:α->α->Prop),EqL P s D fs R->∀ d,D<=d->∀ w,
  (Op.eqFields d cs.toArray ds.toArray fs).run P w= .ok (@decide (R x y) (Classical.propDecidable _)) w
 | [],R,h,d,hd,w=>by
  have h':R=fun _ _=>True:=h;subst h';simp [Op.eqFields]
 | f :: fs,R,h,d,hd,w=>by
  obtain ⟨β,_,t,p,R',h1,h2,h3,h4,h5,rfl⟩:=h;obtain ⟨c1,k1,r1⟩:=CJ h2 h3 hx;obtain ⟨c2,k2,r2⟩:=CJ h2 h3 hy;have ih:=zZ hx hy fs R' h5 d hd w;have e:=h4.eq k1 k2 d hd w;simp only [Op.eqFields,if_pos h1,Sem.run_bind,r1,r2,Result.andThen_ok,e];by_cases hp:p x=p y
  ·have hR:(p x=p y/\R' x y) ↔ R' x y:=by simp [hp]
   have e1:decide (p x=p y)=true:=decide_eq_true hp;simp only [e1,Bool.not_true,Bool.false_eq_true,if_false,ih];congr 1;exact decide_eq_decide.2 hR.symm
  ·have hR:¬ (p x=p y/\R' x y):=fun h=>hp h.1;have e1:decide (p x=p y)=false:=decide_eq_false hp;simp only [e1,Bool.not_false,if_true,Sem.run_pure];congr 1;exact (@decide_eq_false _ (Classical.propDecidable _) hR).symm
theorem EqT.struct[DecidableEq α]{s:Ty α}{fs:Array Field}{R:α->α->Prop}(hs:s.agg=true)(hT:P.underlying T=some (.struct fs))(hp:P.stoodInHeld T=false)(h:EqL P s D fs.toList R)(hR:∀ x y,R x y ↔ x=y):EqT P T s (D+1):=by
 constructor;intro g cs ds x y hx hy d hd w;obtain ⟨d,rfl⟩:∃ e,d=e+1:=⟨d-1,by omega⟩
 have hf:P.fieldsOf T=fs:=by simp [Program.fieldsOf,hT]
 rw [hs];show (Op.equalIn (d+1) T (.agg cs.toArray) (.agg ds.toArray)).run P w=_;rw [run_equalIn_struct w d T _ _ (by rw [hf];exact hT) hp,hf,zZ hx hy fs.toList R h d (by omega) w];congr 1;have:=hR x y;by_cases he:x=y<;> simp_all
variable {env:Env} {res:Rs} {d:Option Tmp} {ty:TypeId} {pos:String} {aft:Array Edge} {gd:Option (Nat×Bool)}
theorem Op1.eqSt[DecidableEq α]{s:Ty α}{T':TypeId}{x y:Operand}{v:α}(hs:s.agg=true)(hD:D<=10000)(hg:P.eqGuardType P.depth T=false)(h:EqT P T s D)(hx:Opd env x (s.is u):=by exact .tmp rfl)(hy:Opd env y (s.is v):=by exact .tmp rfl) :
  Op1 P ⟨d,.binOp .eql T x y T',ty,pos,aft,gd⟩ env res (tB.is (decide (u=v))):=
 Op1.same fun a g hc=>by
  obtain ⟨cs,hr,hv⟩:=hx a g hc.henv;obtain ⟨ds,hr',hv'⟩:=hy a g hc.henv;have e:=h.eq hr hr' 10000 hD g.w;rw [hs] at hv hv' e;refine ⟨.bool (decide (u=v)),?_,Asn.bool⟩;have h1:a.eval x= .agg cs.toArray:=hv;have h2:a.eval y= .agg ds.toArray:=hv';have hgd:=run_eqGuard_agg (P:=P) g.w .eql T x y cs.toArray ds.toArray hg;have e':(Op.equalIn 10000 T (.agg cs.toArray) (.agg ds.toArray)).run P g.w= .ok (decide (u=v)) g.w:=e;simp only [execOp,h1,h2,Sem.run_bind,hgd,Result.andThen_ok,run_eql_struct,e',Sem.run_pure]
theorem Op1.neSt[DecidableEq α]{s:Ty α}{T':TypeId}{x y:Operand}{v:α}(hs:s.agg=true)(hD:D<=10000)(hg:P.eqGuardType P.depth T=false)(h:EqT P T s D)(hx:Opd env x (s.is u):=by exact .tmp rfl)(hy:Opd env y (s.is v):=by exact .tmp rfl) :
  Op1 P ⟨d,.binOp .neq T x y T',ty,pos,aft,gd⟩ env res (tB.is (decide (u≠v))):=
 Op1.same fun a g hc=>by
  obtain ⟨cs,hr,hv⟩:=hx a g hc.henv;obtain ⟨ds,hr',hv'⟩:=hy a g hc.henv;have e:=h.eq hr hr' 10000 hD g.w;rw [hs] at hv hv' e;refine ⟨.bool (decide (u≠v)),?_,Asn.bool⟩;have h1:a.eval x= .agg cs.toArray:=hv;have h2:a.eval y= .agg ds.toArray:=hv';have hgd:=run_eqGuard_agg (P:=P) g.w .neq T x y cs.toArray ds.toArray hg;have e':(Op.equalIn 10000 T (.agg cs.toArray) (.agg ds.toArray)).run P g.w= .ok (decide (u=v)) g.w:=e;simp only [execOp,h1,h2,Sem.run_bind,hgd,Result.andThen_ok,run_neq_struct,e',Sem.run_pure,decide_not]
end
end Go.Dec
