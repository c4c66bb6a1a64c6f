import Derived.Test.YtobcmdhemlennaaGreatDoorDec4
import Derived.Laws.BitsLemmas
import Derived.Laws.StructEq
import Derived.Laws.CopyRow
import Derived.Laws.Tables
/-
  Rules for literals, sealed boxes and function values.
-/
set_option linter.unusedVariables false
set_option linter.unusedSimpArgs false
namespace Go.Dec
open Go
variable {T:TypeId}{cs ds:List Value}{fs:Array Field}{ps:List (Nat×Operand)}{α:Type}{xs:List α}{β:Type}
def over(cs:List Value)(o:Nat)(ds:List Value):List Value:=cs.take o++ds++cs.drop (o+ds.length)
theorem gF{o:Nat}(h:o+ds.length<=cs.length):(over cs o ds).length=cs.length:=by
 simp only [over,List.length_append,List.length_take,List.length_drop];omega
theorem mD{o:Nat}(h:o+ds.length<=cs.length)(i:Nat):(over cs o ds)[i]? =if o<=i/\i<o+ds.length then ds[i-o]? else cs[i]?:=by
 unfold over;have hl:(cs.take o).length=o:=by rw [List.length_take];omega
 by_cases h1:i<o
 .rw [List.append_assoc,List.getElem?_append_left (by omega),List.getElem?_take,if_pos h1,if_neg (by omega)]
 .by_cases h2:i<o+ds.length
  .rw [List.getElem?_append_left (by rw [List.length_append];omega),List.getElem?_append_right (by omega),hl,if_pos ⟨by omega,h2⟩]
  .rw [List.getElem?_append_right (by rw [List.length_append];omega),List.length_append,hl,List.getElem?_drop,if_neg (by omega)];congr 1;omega
theorem Dz(o:Nat):∀ (ds:List Value) (k:Nat) (cells:Array Value),o+k+ds.length<=cells.size->
  ((ds.zipIdx k).foldl (λcs (p:Value×Nat)=>cs.setIfInBounds (o+p.2) p.1) cells).toList=over cells.toList (o+k) ds
 | [],k,cells,_=>by simp [over]
 | d :: ds,k,cells,h=>by
  simp only [List.length_cons] at h;simp only [List.zipIdx_cons,List.foldl_cons];rw [Dz o ds (k+1) _ (by simp;omega)];apply List.ext_getElem?;intro i;rw [mD (by simp;omega),mD (by simp;omega)];simp only [Array.toList_setIfInBounds,List.length_cons];by_cases h1:i=o+k
  .subst h1;rw [if_neg (by omega),if_pos (by omega),List.getElem?_set];simp;omega
  .by_cases h2:o+(k+1)<=i/\i<o+(k+1)+ds.length
   .rw [if_pos h2,if_pos (by omega),show i-(o+k)=(i-(o+(k+1)))+1 by omega];rfl
   .rw [if_neg h2,if_neg (by omega),List.getElem?_set];rw [if_neg (by omega)]
theorem BB(o:Nat)(v:Value)(cells:Array Value)(h:o+v.cells.size<=cells.size) :
  (v.cells.zipIdx.foldl (λcs (p:Value×Nat)=>cs.setIfInBounds (o+p.2) p.1) cells).toList=over cells.toList o v.cells.toList:=by
 rw [<-Array.foldl_toList,Array.toList_zipIdx];have:=Dz o v.cells.toList 0 cells (by simpa using h);simpa using this
theorem Cells.set{t:Ty α}{g:G}{i:Nat}{y:α}(h:Cells t g cs xs)(k:t.rep g ds y)(hi:i<xs.length):Cells t g (over cs (i*t.size) ds) (xs.set i y):=by
 have hb:(i+1)*t.size<=xs.length*t.size:=Nat.mul_le_mul_right _ hi;rw [Nat.add_mul,Nat.one_mul] at hb;have hl:i*t.size+ds.length<=cs.length:=by rw [h.1,t.len k];exact hb
 refine ⟨by rw [gF hl,h.1,List.length_set],λc hc=>?_,λj x hx=>?_⟩
 .unfold over at hc;rcases List.mem_append.1 hc with hc | hc
  .rcases List.mem_append.1 hc with hc | hc
   .exact h.2.1 c (List.mem_of_mem_take hc)
   .exact t.one k c hc
  .exact h.2.1 c (List.mem_of_mem_drop hc)
 .rw [List.getElem?_set] at hx;by_cases hj:i=j
  .subst hj;rw [if_pos rfl,if_pos hi] at hx;cases hx;refine ⟨ds,k,λq v hq=>?_⟩;rw [mD hl,if_pos ⟨by omega,by have:=(List.getElem?_eq_some_iff.1 hq).1;omega⟩,Nat.add_sub_cancel_left];exact hq
  .rw [if_neg hj] at hx;obtain ⟨es,h1,h2⟩:=h.2.2 j x hx;refine ⟨es,h1,λq v hq=>?_⟩;have hql:=(List.getElem?_eq_some_iff.1 hq).1;rw [t.len h1] at hql;rw [mD hl,if_neg]
   .exact h2 q v hq
   .rw [t.len k];rcases Nat.lt_or_gt_of_ne hj with hlt | hgt
    .have:=Nat.mul_le_mul_right t.size (show i+1<=j from hlt);rw [Nat.add_mul,Nat.one_mul] at this;omega
    .have:=Nat.mul_le_mul_right t.size (show j+1<=i from hgt);rw [Nat.add_mul,Nat.one_mul] at this;omega
def dU{α β:Type}(s:Ty α)(o:Nat)(t:Ty β)(upd:α->β->α):Prop:=
 ∀ g cs ds x y,s.rep g cs x->t.rep g ds y->o+ds.length<=cs.length/\s.rep g (over cs o ds) (upd x y)
theorem dU.here(s:Ty α)(t:Ty β):dU (tP s t) 0 s (λx y=>(y,x.2)):=by
 rintro g cs ds x y ⟨c1,c2,rfl,h1,h2⟩ hy;have e1:=s.len h1;have e2:=s.len hy;refine ⟨by rw [List.length_append];omega,ds,c2,?_,hy,h2⟩;unfold over;rw [List.take_zero,List.nil_append,Nat.zero_add,e2,<-e1,List.drop_left]
theorem dU.next{γ:Type}{s:Ty α}{t:Ty β}{u:Ty γ}{o:Nat}{f:β->γ->β}(h:dU t o u f):dU (tP s t) (s.size+o) u (λx y=>(x.1,f x.2 y)):=by
 rintro g cs ds x y ⟨c1,c2,rfl,h1,h2⟩ hy;obtain ⟨hl,hr⟩:=h g c2 ds x.2 y h2 hy;have e1:=s.len h1;refine ⟨by rw [List.length_append];omega,c1,over c2 o ds,?_,h1,hr⟩;unfold over;rw [List.take_append,List.drop_append,e1];rw [List.take_of_length_le (by omega),show s.size+o-s.size=o by omega,List.drop_eq_nil_of_le (by omega),show s.size+o+ds.length-s.size=o+ds.length by omega];simp
theorem dU.last(s:Ty α):dU s 0 s (λ_ y=>y):=by
 intro g cs ds x y h1 hy;have e1:=s.len h1;have e2:=s.len hy;refine ⟨by omega,?_⟩;unfold over;rw [List.take_zero,List.nil_append,Nat.zero_add,e2,<-e1,List.drop_length,List.append_nil];exact hy
theorem dU.map{γ:Type}{t:Ty β}{u:Ty γ}{o:Nat}{f:β->γ->β}{m:α->β}{f':α->γ->α}(h:dU t o u f)(hm:∀ x y,m (f' x y)=f (m x) y):dU (tMap t m) o u f':=by
 intro g cs ds x y h1 hy;obtain ⟨hl,hr⟩:=h g cs ds (m x) y h1 hy;refine ⟨hl,?_⟩;show t.rep g _ (m (f' x y));rw [hm];exact hr
theorem dU.cast{s:Ty α}{o o':Nat}{t:Ty β}{f f':α->β->α}(h:dU s o t f)(ho:o'=o)(hf:f'=f):dU s o' t f':=by subst ho hf;exact h
structure oF (P:Program) {α:Type} (T:TypeId) (t:Ty α) (z:α):Prop where
 zero:∃ v,(∀ w,(zeroValue T).run P w= .ok v w)/\ ∀ g,∃ cs,t.rep g cs z/\v=mkVal t.agg cs
section
variable {P:Program} {N:Nat} {g0:G} {T0:Nat->Prop} {env:Env} {res:Rs} {d:Option Tmp} {ty:TypeId} {pos:String} {aft:Array Edge} {gd:Option (Nat×Bool)}
def Build(P:Program)(env:Env){α:Type}(s:Ty α)(fs:Array Field):List (Nat×Operand)->α->α->Prop
 | [],x,x'=>x'=x
 | (i,o) :: ps,x,x'=>∃ (β:Type) (t:Ty β) (y:β) (upd:α->β->α) (fd:Field),fs[i]? =some fd/\(∀ w,(sizeOf fd.type).run P w= .ok t.size w)/\Opd env o (t.is y)/\dU s fd.offset t upd/\Build P env s fs ps (upd x y) x'
theorem BC{s:Ty α}{a:Act}{g:G}(he:∀ s B,look s env=some B->B.holds (a.tmps.getD s undef) g)(pl:Array (Nat×Nat))(hpl:∀ (i:Nat) (fd:Field) (sz:Nat),fs[i]? =some fd->(∀ w,(sizeOf fd.type).run P w= .ok sz w)->pl[i]? =some (fd.offset,sz)) :
  ∀ (ps:List (Nat×Operand)) (x x':α) (cells:Array Value),Build P env s fs ps x x'->s.rep g cells.toList x->∃ cs,Instr.fill (pl[·]?) cells (ps.map λp=>(p.1,a.eval p.2))=some cs/\s.rep g cs.toList x'
 | [],x,x',cells,h,hr=>⟨cells,rfl,by rw [show x'=x from h];exact hr⟩
 | (i,o) :: ps,x,x',cells,h,hr=>by
  obtain ⟨β,t,y,upd,fd,h1,h2,h3,h4,h5⟩:=h;obtain ⟨ds,hd,hv⟩:=h3 a g he;have hc:(a.eval o).cells=ds.toArray:=by rw [hv];exact t.cells hd
  obtain ⟨hl,hs⟩:=h4 g cells.toList ds x y hr hd;have hsz:(a.eval o).cells.size=t.size:=by rw [hc];simp [t.len hd]
  have hl':fd.offset+(a.eval o).cells.size<=cells.size:=by rw [hc];simpa using hl
  have hfold:=BB fd.offset (a.eval o) cells hl';rw [hc] at hfold;obtain ⟨cs,hcs,hrs⟩:=BC he pl hpl ps (upd x y) x' ((a.eval o).cells.zipIdx.foldl (λcs (p:Value×Nat)=>cs.setIfInBounds (fd.offset+p.2) p.1) cells) h5 (by rw [hc,hfold];exact hs);refine ⟨cs,?_,hrs⟩;simp only [List.map_cons,Instr.fill,hpl i fd t.size h1 h2];have h6:¬ ((decide ((a.eval o).cells.size≠t.size) || decide (fd.offset+(a.eval o).cells.size > cells.size))=true):=by
   simp only [Bool.or_eq_true,decide_eq_true_eq];omega
  rw [if_neg h6];exact hcs
theorem run_places(f:Field->Nat)(hf:∀ fd,fd∈fs->∀ w,(sizeOf fd.type).run P w= .ok (f fd) w)(w:World) :
  (fs.mapM λfd=>do pure (fd.offset,<-sizeOf fd.type):Sem (Array (Nat×Nat))).run P w= .ok (fs.map λfd=>(fd.offset,f fd)) w:=by
 obtain ⟨l⟩:=fs;have:∀ (l:List Field),(∀ fd,fd∈l->∀ w,(sizeOf fd.type).run P w= .ok (f fd) w)->∀ w,(l.mapM λfd=>do pure (fd.offset,<-sizeOf fd.type):Sem (List (Nat×Nat))).run P w= .ok (l.map λfd=>(fd.offset,f fd)) w:=by
  intro l;induction l with
  | nil=>intro _ w;simp
  | cons x l ih=>
   intro h w;have h1:=h x (by simp) w;have h2:=ih (λfd hfd=>h fd (by simp [hfd])) w;simp [h1] at h2 ⊢;simp [h2]
 have h:=this l (λfd hfd=>hf fd (by simpa using hfd)) w;simp at h ⊢;simp [h]
theorem Op1.build{s:Ty α}{z x:α}(f:Field->Nat)(hagg:s.agg=true)(hT:P.underlying T=some (.struct fs))(hf:∀ fd,fd∈fs->∀ w,(sizeOf fd.type).run P w= .ok (f fd) w)
  (hz:oF P T s z) (h:Build P env s fs ps z x):Op1 P ⟨d,.build T ps.toArray,ty,pos,aft,gd⟩ env res (s.is x):=
 Op1.same λa g hc=>by
  obtain ⟨v,hv,hzr⟩:=hz.zero;obtain ⟨cs0,hcs0,hv0⟩:=hzr g;have hvc:v.cells=cs0.toArray:=by rw [hv0];exact s.cells hcs0
  obtain ⟨cs,h1,h2⟩:=BC (P:=P) hc.henv (fs.map λfd=>(fd.offset,f fd)) (λi fd sz hi hs=>by
   have hm:fd∈fs:=Array.mem_of_getElem? hi;have:=(hf fd hm g.w).symm.trans (hs g.w);cases this;simp [hi]) ps z x cs0.toArray h (by simpa using hcs0)
  refine ⟨.agg cs,?_,cs.toList,h2,by rw [hagg];simp [mkVal]⟩;simp only [execOp,Instr.build,Sem.run_bind,hv,Result.andThen_ok,hvc,run_underlying hT,run_places f hf,List.map_toArray,h1,Sem.run_pure]
def Parts(env:Env){α:Type}(t:Ty α):List (Nat×Operand)->List (Nat×α)->Prop
 | [],[]=>True
 | (i,o) :: ps,(j,y) :: ys=>i=j/\Opd env o (t.is y)/\Parts env t ps ys
 | _,_=>False
theorem yA{t:Ty α}{n:Nat}{a:Act}{g:G}(he:∀ s B,look s env=some B->B.holds (a.tmps.getD s undef) g) :
  ∀ (ps:List (Nat×Operand)) (ys:List (Nat×α)) (xs:List α) (cells:Array Value),Parts env t ps ys->xs.length=n->(∀ p∈ys,p.1<n)->Cells t g cells.toList xs->
   ∃ cs,Instr.fill (λi=>some (i*t.size,t.size)) cells (ps.map λp=>(p.1,a.eval p.2))=some cs/\Cells t g cs.toList (ys.foldl (λl p=>l.set p.1 p.2) xs)
 | [],[],xs,cells,_,_,_,hr=>⟨cells,rfl,hr⟩
 | [],_ :: _,_,_,h,_,_,_=>h.elim
 | _ :: _,[],_,_,h,_,_,_=>h.elim
 | (i,o) :: ps,(j,y) :: ys,xs,cells,h,hn,hlt,hr=>by
  obtain ⟨rfl,h2,h3⟩:=h;obtain ⟨ds,hd,hv⟩:=h2 a g he;have hc:(a.eval o).cells=ds.toArray:=by rw [hv];exact t.cells hd
  have hi:i<xs.length:=by rw [hn];exact hlt (i,y) (by simp)
  have hset:=hr.set hd hi;have hb:(i+1)*t.size<=xs.length*t.size:=Nat.mul_le_mul_right _ hi;rw [Nat.add_mul,Nat.one_mul] at hb;have hcl:cells.size=xs.length*t.size:=by have:=hr.1;simpa using this
  have hsz:(a.eval o).cells.size=t.size:=by rw [hc];simp [t.len hd]
  have hl':i*t.size+(a.eval o).cells.size<=cells.size:=by rw [hsz,hcl];exact hb
  have hfold:=BB (i*t.size) (a.eval o) cells hl';rw [hc] at hfold;obtain ⟨cs,hcs,hrs⟩:=yA he ps ys (xs.set i y) ((a.eval o).cells.zipIdx.foldl (λcs (p:Value×Nat)=>cs.setIfInBounds (i*t.size+p.2) p.1) cells) h3 (by rw [List.length_set];exact hn) (λp hp=>hlt p (by simp [hp])) (by rw [hc,hfold];exact hset);refine ⟨cs,?_,hrs⟩;simp only [List.map_cons,Instr.fill];have h6:¬ ((decide ((a.eval o).cells.size≠t.size) || decide (i*t.size+(a.eval o).cells.size > cells.size))=true):=by
   simp only [Bool.or_eq_true,decide_eq_true_eq];omega
  rw [if_neg h6];exact hcs
theorem Cells.replicate{t:Ty α}{g:G}{z:α}(h:t.rep g cs z):∀ n,Cells t g (List.replicate n cs).flatten (List.replicate n z)
 | 0=>Cells.nil
 | n+1=>by
  rw [List.replicate_succ,List.replicate_succ,List.flatten_cons];exact Cells.cons h (Cells.replicate h n)
theorem rX(cs:List Value)(n:Nat):((Array.range (n*cs.length)).map (cs.toArray[· % cs.toArray.size]!)).toList=(List.replicate n cs).flatten:=by
 apply List.ext_getElem?;intro i;have hfl:∀ n,((List.replicate n cs).flatten).length=n*cs.length:=λn=>by simp
 have hget:∀ n i,i<n*cs.length->((List.replicate n cs).flatten)[i]? =cs[i % cs.length]?:=by
  intro n;induction n with
  | zero=>intro i h;simp at h
  | succ n ih=>
   intro i h;rw [List.replicate_succ,List.flatten_cons];by_cases hi:i<cs.length
   .rw [List.getElem?_append_left hi,Nat.mod_eq_of_lt hi]
   .rw [List.getElem?_append_right (by omega),ih _ (by rw [Nat.add_mul] at h;omega)];congr 1;exact (Nat.mod_eq_sub_mod (by omega)).symm
 by_cases hi:i<n*cs.length
 .rw [hget n i hi];have hpos:0<cs.length:=by
   rcases Nat.eq_zero_or_pos cs.length with h0 | h0
   .rw [h0] at hi;simp at hi
   .exact h0
  have hm:=Nat.mod_lt i hpos;simp [hi,hm]
 .rw [List.getElem?_eq_none (by simp;omega)];rw [List.getElem?_eq_none (by rw [hfl];omega)]
theorem OpR.buildSlice{t:Ty α}{E:TypeId}{n:Nat}{ys:List (Nat×α)}{z:α}(key:Nat)(hT:P.underlying T=some (.slice E))(hE:ElAt P E t)(hz:oF P E t z)
  (hp:Parts env t ps ys) (hlt:∀ p∈ys,p.1<n) (hn:n*t.size<=16777216) (hxs:ys.foldl (λl p=>l.set p.1 p.2) (List.replicate n z)=xs) :
  OpR P ⟨d,.buildSlice T n ps.toArray,ty,pos,aft,gd⟩ env res [] (λk:Tok=>tO t k xs) (λk=>[(key,Own t E k xs.length)]):=by
 intro a g K Q hc hd hK;obtain ⟨v,hv,hzr⟩:=hz.zero;obtain ⟨cs0,hcs0,hv0⟩:=hzr g;have hvc:v.cells=cs0.toArray:=by rw [hv0];exact t.cells hcs0
 have hl0:=t.len hcs0;have hstart:Cells t g ((Array.range (n*t.size)).map (cs0.toArray[· % cs0.toArray.size]!)).toList (List.replicate n z):=by
  rw [<-hl0,rX];exact Cells.replicate hcs0 n
 obtain ⟨cs,h1,h2⟩:=yA (n:=n) hc.henv ps ys _ _ hp (by simp) hlt hstart;rw [hxs] at h2;have hxl:xs.length=n:=by
  have:∀ (ys:List (Nat×α)) (l:List α),(ys.foldl (λl p=>l.set p.1 p.2) l).length=l.length:=by
   intro ys;induction ys with
   | nil=>intro l;rfl
   | cons p ys ih=>intro l;rw [List.foldl_cons,ih,List.length_set]
  rw [<-hxs,this];simp
 have hrun:(Instr.buildSlice T n (ps.toArray.map λ(i,x)=>(i,a.eval x))).run P g.w= .ok (.slice (some ⟨g.w.heap.size,0,none⟩) n n) (g.w.alloc (.cells cs E)):=by
  have hpos:=hE.pos;have hsz:=hE.size g.w;by_cases hn0:n*t.size=0
  .have:n=0:=by rcases Nat.mul_eq_zero.1 hn0 with h | h;exact h;omega
   subst this;have hcells:(Array.range (0*t.size)).map (cs0.toArray[· % cs0.toArray.size]!)=(#[]:Array Value):=by simp
   have hcells2:(Array.range (0*t.size)).map ((#[]:Array Value)[· % (#[]:Array Value).size]!)=(#[]:Array Value):=by simp
   rw [hcells] at h1;simp only [Instr.buildSlice,Sem.run_bind,run_underlying hT,Result.andThen_ok,hsz];rw [if_neg (by omega),if_pos hn0];simp only [Sem.run_pure,Sem.run_bind,Result.andThen_ok,hcells2,List.map_toArray];simp only [h1,Sem.run_bind,newRow,run_newObj,Result.andThen_ok,Sem.run_pure,World.alloc_eq]
  .simp only [Instr.buildSlice,Sem.run_bind,run_underlying hT,Result.andThen_ok,hsz];rw [if_neg (by omega),if_neg hn0];simp only [Sem.run_bind,hv,Result.andThen_ok,Sem.run_pure,hvc,List.map_toArray];simp only [h1,Sem.run_bind,newRow,run_newObj,Result.andThen_ok,Sem.run_pure,World.alloc_eq]
 unfold Oper.wp execOp;simp only [Sem.run_bind,hrun,Result.andThen_ok,Sem.run_pure];let g':G:=g.alloc (.cells cs E) (n*t.size);have e:Ext No g g':=Ext.alloc No _ _ _;have hheap:g'.w.heap[g.w.heap.size]? =some (.cells cs E (0,0)):=heap_alloc_new g.w _;have hcl:cs.size=n*t.size:=by have:=h2.1;rw [hxl] at this;simpa using this
 have hnlim:n<=lim:=by
  have:=Nat.le_mul_of_pos_right n hE.pos;unfold lim;omega
 refine hK (some (g.w.heap.size,n)) (.slice (some ⟨g.w.heap.size,0,none⟩) n n) g' e.no ?_ ?_ (List.pairwise_singleton _ _) ?_
 .refine ⟨by simp [Tok.addr,Tok.cap,hxl],by simp [Tok.cap,hxl],by rw [hxl];exact hnlim,?_⟩;show Row t g' (some ⟨g.w.heap.size,0,none⟩) xs;refine (h2.mono e).row λj v hj=>⟨?_,?_⟩
  .show 0+j<(if g.w.heap.size=g.w.heap.size then _ else _);rw [if_pos rfl];have:=(List.getElem?_eq_some_iff.1 hj).1;rw [h2.1,hxl] at this;omega
  .rw [cell_of_row _ _ _ _ _ _ hheap,Nat.zero_add];simpa using hj
 .intro y hy;rw [List.mem_singleton.1 hy];refine ⟨cs,hheap,hcl,by simp [hxl],by unfold maxLen;unfold lim at hnlim;omega,?_⟩;show (if g.w.heap.size=g.w.heap.size then _ else _)=_;rw [if_pos rfl,hxl]
 .rintro b ⟨y,hy,hb⟩;rw [List.mem_singleton.1 hy] at hb;simp [Own] at hb;exact .inr (by omega)
theorem Op1.buildSlice{t:Ty α}{E:TypeId}{n:Nat}{ys:List (Nat×α)}{z:α}(hT:P.underlying T=some (.slice E))(hE:ElAt P E t)(hz:oF P E t z)
  (hp:Parts env t ps ys) (hlt:∀ p∈ys,p.1<n) (hn:n*t.size<=16777216) (hxs:ys.foldl (λl p=>l.set p.1 p.2) (List.replicate n z)=xs) :
  Op1 P ⟨d,.buildSlice T n ps.toArray,ty,pos,aft,gd⟩ env res ((tL t).is xs):=by
 intro a g K Q hc hK;have h:=OpR.buildSlice (P:=P) (d:=d) (ty:=ty) (pos:=pos) (aft:=aft) (gd:=gd) (env:=env) (res:=[]) 0 hT hE hz hp hlt hn hxs;refine h a g K Q ⟨hc.henv,λ_ h=>by cases h⟩ List.Pairwise.nil λx v g' e hv _ _ _=>hK v g' (e.mono λb ⟨y,hy,_⟩=>by cases hy) (uL hv)
theorem NL{t:Ty α}{g:G}{x:α}(h:t.rep g cs x) :
  (t.ptr x).holds (.pointer (some ⟨g.w.heap.size,0,none⟩)) (g.alloc (.cells cs.toArray T) cs.length):=by
 refine ⟨g.w.heap.size,0,rfl,cs,t.mono (Ext.alloc No g _ _) h,λj v hj=>⟨?_,?_⟩⟩
 .show 0+j<(if g.w.heap.size=g.w.heap.size then _ else _);rw [if_pos rfl,Nat.zero_add];exact (List.getElem?_eq_some_iff.1 hj).1
 .have hheap:(g.alloc (.cells cs.toArray T) cs.length).w.heap[g.w.heap.size]? =some (.cells cs.toArray T (0,0)):=heap_alloc_new g.w _;rw [cell_of_row _ _ _ _ _ _ hheap,Nat.zero_add];simpa using hj
theorem Op1.box{t:Ty α}{x:Operand}{u:α}(h:Opd env x (t.is u):=by exact .tmp rfl):Op1 P ⟨d,.box T x,ty,pos,aft,gd⟩ env res (t.ptr u):=
 Op1.val λa g hc=>by
  obtain ⟨cs,hr,hv⟩:=h a g hc.henv;have hvc:(a.eval x).cells=cs.toArray:=by rw [hv];exact t.cells hr
  exact ⟨_,g.alloc (.cells cs.toArray T) cs.length,by simp [execOp,Instr.box,newVar,newRow,hvc,G.alloc],Ext.alloc _ _ _ _,NL hr⟩
def tF(P:Program){σ:Type}(ok:σ->Prop)(As:σ->List Asn)(A:σ->Asn):Asn:=
 ⟨λv g=>∃ f pre cap,v= .func (.func f) pre cap/\(∀ az w,(callFunc f az).run P w= .ok (.enter f az) w)/\ ∀ s,ok s->Does P (As s) (A s) f pre cap g,
  λe ⟨f,pre,cap,h1,h2,h3⟩=>⟨f,pre,cap,h1,h2,λs hs=>(h3 s hs).mono e⟩⟩
theorem All2.append{g:G}:∀ {As Bs:List Asn} {vs us:List Value},All2 As vs g->All2 Bs us g->All2 (As++Bs) (vs++us) g
 | [],_,[],_,_,h=>h
 | A :: As,_,v :: vs,_,h,k=>⟨h.1,All2.append h.2 k⟩
 | [],_,_ :: _,_,h,_=>h.elim
 | _ :: _,_,[],_,h,_=>h.elim
theorem All2.mono{T:Nat->Prop}{g g':G}(e:Ext T g g'):∀ {As:List Asn} {vs:List Value},All2 As vs g->All2 As vs g'
 | [],[],h=>h
 | A :: As,v :: vs,h=>⟨A.mono e h.1,All2.mono e h.2⟩
 | [],_ :: _,h=>h.elim
 | _ :: _,[],h=>h.elim
theorem Does.of{f:FuncId}{As Cs:List Asn}{A:Asn}{cap:List Value}{g:G}(h:FSpec P f (As++Cs) A)(hc:All2 Cs cap g):Does P As A f #[] cap.toArray g:=by
 intro T g1 e vs hvs;have:=h g1 (vs++cap) (hvs.append (hc.mono e));simpa using this
theorem Opd.fn{σ:Type}{ok:σ->Prop}{As:σ->List Asn}{A:σ->Asn}{f:FuncId}(hcall:∀ az w,(callFunc f az).run P w= .ok (.enter f az) w)(h:∀ s,ok s->FSpec P f (As s) (A s)):Opd env (.func f) (tF P ok As A):=
 λa g he=>⟨f,#[],#[],rfl,hcall,λs hs=>by
  have:=Does.of (P:=P) (cap:=[]) (g:=g) (Cs:=[]) (by simpa using h s hs) trivial;simpa using this⟩
theorem Op1.callF{σ:Type}{ok:σ->Prop}{As:σ->List Asn}{A:σ->Asn}{x:Operand}{xs:List Operand}{ats:Array TypeId}(s:σ)(hx:Opd env x (tF P ok As A))(hs:ok s)(h:Opds env xs (As s)) :
  Op1 P ⟨d,.call ⟨.value x,xs.toArray,ats⟩,ty,pos,aft,gd⟩ env res (A s):=
 Op1.qF λa g hc=>by
  obtain ⟨f,pre,cap,hv,hcall,hdo⟩:=hx a g hc.henv;refine ⟨f,pre++(xs.map a.eval).toArray++cap,?_,hdo s hs No g (Ext.refl _ _) _ (Opds.all hc.henv h)⟩;simp [execOp,resolve,hv,Deferred.ofValue,invoke,hcall]
end
end Go.Dec
/-
  Regions whose order is drawn: every operation by what it reads; at most one of them uses resources.
-/
namespace Go.Dec
open Go
variable {j:Nat}{l:List Oper}{listed:Array Bool}{ρ:Type}{x:ρ}
theorem BD{s:Nat}{B:Asn}:∀ {e:Env},look s e=some B->(s,B)∈e
 | [],h=>by simp [look] at h
 | (k,A) :: r,h=>by
  by_cases hk:k=s
  .subst hk;rw [dh] at h;cases h;exact List.mem_cons_self
  .rw [bL _ _ hk] at h;exact List.mem_cons_of_mem _ (BD h)
theorem wu{s:Nat}{B:Asn}:∀ {e f:Env},look s (e++f)=some B->(s,B)∈e\/((∀ C,(s,C) ∉ e)/\look s f=some B)
 | [],f,h=>.inr ⟨λ_ h=>(by cases h),h⟩
 | (k,A) :: r,f,h=>by
  by_cases hk:k=s
  .subst hk;rw [List.cons_append,dh] at h;cases h;exact .inl List.mem_cons_self
  .rw [List.cons_append,bL _ _ hk] at h;rcases wu h with h | ⟨h1,h2⟩
   .exact .inl (List.mem_cons_of_mem _ h)
   .refine .inr ⟨λC hC=>?_,h2⟩;rcases List.mem_cons.1 hC with e | hC
    .cases e;exact hk rfl
    .exact h1 C hC
inductive DA (ρ:Type) where
 | c (A:Asn)
 | f (A:ρ->Asn)
def DA.at{ρ:Type}(x:ρ):DA ρ->Asn
 | .c A=>A
 | .f A=>A x
def preEnv{ρ:Type}(l:List Oper)(As:List (DA ρ))(x:ρ):List Nat->Env
 | []=>[]
 | j :: js=>match l[j]?,As[j]? with
  | some o,some A=>(match o.dst with
   | some d=>(d,A.at x) :: preEnv l As x js
   | none=>preEnv l As x js)
  | _,_=>preEnv l As x js
def readEnv(base:Env):List Nat->Env
 | []=>[]
 | s :: ss=>match look s base with
  | some A=>(s,A) :: readEnv base ss
  | none=>readEnv base ss
def outEnv{ρ:Type}(x:ρ):List Oper->List (DA ρ)->Env
 | o :: l,A :: As=>(match o.dst with
  | some d=>(d,A.at x) :: outEnv x l As
  | none=>outEnv x l As)
 | _,_=>[]
theorem qf{As:List (DA ρ)}{s:Nat}{B:Asn}:∀ {js:List Nat},(s,B)∈preEnv l As x js->∃ (j:Nat) (o:Oper) (A:DA ρ),j∈js/\l[j]? =some o/\As[j]? =some A/\o.dst=some s/\B=A.at x
 | [],h=>by cases h
 | j :: js,h=>by
  unfold preEnv at h;split at h
  .rename_i o A ho hA;split at h
   .rename_i d hd;rcases List.mem_cons.1 h with e | h
    .cases e;exact ⟨j,o,A,List.mem_cons_self,ho,hA,hd,rfl⟩
    .obtain ⟨j',o',A',h1,h2⟩:=qf h;exact ⟨j',o',A',List.mem_cons_of_mem _ h1,h2⟩
   .obtain ⟨j',o',A',h1,h2⟩:=qf h;exact ⟨j',o',A',List.mem_cons_of_mem _ h1,h2⟩
  .obtain ⟨j',o',A',h1,h2⟩:=qf h;exact ⟨j',o',A',List.mem_cons_of_mem _ h1,h2⟩
theorem oI{base:Env}{s:Nat}{B:Asn}:∀ {ss:List Nat},(s,B)∈readEnv base ss->s∈ss/\look s base=some B
 | [],h=>by cases h
 | r :: ss,h=>by
  unfold readEnv at h;split at h
  .rename_i A hA;rcases List.mem_cons.1 h with e | h
   .cases e;exact ⟨List.mem_cons_self,hA⟩
   .exact ⟨List.mem_cons_of_mem _ (oI h).1,(oI h).2⟩
  .exact ⟨List.mem_cons_of_mem _ (oI h).1,(oI h).2⟩
theorem qU{s:Nat}{B:Asn}:∀ {l:List Oper} {As:List (DA ρ)},(s,B)∈outEnv x l As->∃ (i:Nat) (o:Oper) (A:DA ρ),l[i]? =some o/\As[i]? =some A/\o.dst=some s/\B=A.at x
 | [],As,h=>by cases As<;> cases h
 | o :: l,[],h=>by cases h
 | o :: l,A :: As,h=>by
  unfold outEnv at h;split at h
  .rename_i d hd;rcases List.mem_cons.1 h with e | h
   .cases e;exact ⟨0,o,A,rfl,rfl,hd,rfl⟩
   .obtain ⟨i,o',A',h1,h2,h3⟩:=qU h;exact ⟨i+1,o',A',by simpa using h1,by simpa using h2,h3⟩
  .obtain ⟨i,o',A',h1,h2,h3⟩:=qU h;exact ⟨i+1,o',A',by simpa using h1,by simpa using h2,h3⟩
theorem sW{s:Nat}{o:Oper}{A:DA ρ}:∀ {l:List Oper} {As:List (DA ρ)} {i:Nat},l[i]? =some o->As[i]? =some A->o.dst=some s->(s,A.at x)∈outEnv x l As
 | [],_,i,h,_,_=>by simp at h
 | _ :: _,[],i,_,h,_=>by simp at h
 | o' :: l,A' :: As,0,h1,h2,h3=>by
  simp at h1 h2;subst h1 h2;unfold outEnv;rw [h3];exact List.mem_cons_self
 | o' :: l,A' :: As,i+1,h1,h2,h3=>by
  simp at h1 h2;unfold outEnv;split
  .exact List.mem_cons_of_mem _ (sW h1 h2 h3)
  .exact sW h1 h2 h3
def waits(o:Oper)(j:Nat):Bool:=o.after.toList.any λe=>Nat.beq e.on j && Region.binds .any e
def dstsD:List Oper->Bool
 | []=>true
 | o :: l=>(match o.dst with
  | some d=>l.all λk=>match k.dst with
   | some s=>!(Nat.beq d s)
   | none=>true
  | none=>true) && dstsD l
theorem ww:∀ {l:List Oper},dstsD l=true->∀ (i j:Nat) o o' d,l[i]? =some o->l[j]? =some o'->o.dst=some d->o'.dst=some d->i=j
 | [],_,i,_,_,_,_,h,_,_,_=>by simp at h
 | x :: l,h,i,j,o,o',d,hi,hj,ho,ho'=>by
  unfold dstsD at h;rw [Bool.and_eq_true] at h;have step:∀ (j:Nat) (o':Oper),l[j]? =some o'->o'.dst=some d->x.dst=some d->False:=by
   intro j o' hj ho' hx;have h1:=h.1;rw [hx] at h1;have:=List.all_eq_true.1 h1 o' (List.mem_of_getElem? hj);rw [ho'] at this;simp [Nat.beq_refl] at this
  cases i with
  | zero=>
   simp at hi;subst hi;cases j with
   | zero=>rfl
   | succ j=>simp at hj;exact (step j o' hj ho' ho).elim
  | succ i=>
   simp at hi;cases j with
   | zero=>simp at hj;subst hj;exact (step i o hi ho ho').elim
   | succ j=>simp at hj;have:=ww h.2 i j o o' d hi hj ho ho';omega
theorem gG{k:Nat}:∀ {l:List Nat},memB k l=true ↔ k∈l
 | []=>by simp [memB]
 | x :: r=>by
  unfold memB;cases hb:Nat.beq x k with
  | true=>have:=Nat.eq_of_beq_eq_true hb;simp [this]
  | false=>
   have hne:x≠k:=λe=>by subst e;rw [Nat.beq_refl] at hb;cases hb
   simp [gG (l:=r),Ne.symm hne]
def DObl(P:Program)(l:List Oper)(o:Oper)(e:Env)(res:Rs)(A:Asn):Prop:=
 match o.guard with
 | none=>Op1 P o e res A
 | some (j,want)=>∃ oj dj b,l[j]? =some oj/\oj.dst=some dj/\((look dj e=some (tB.is b)/\((b=want/\Op1 P o e res A)\/(b= !want/\A=Asn.eq undef)))\/(look dj e=some (Asn.eq undef)/\A=Asn.eq undef))
theorem dp{P:Program}{d:Option Tmp}{op:Op}{ty:TypeId}{pos:String}{aft:Array Edge}{want b:Bool}{oj:Oper}{dj:Nat}{e:Env}{res:Rs}(hj:l[j]? =some oj)(hd:oj.dst=some dj)(hl:look dj e=some (tB.is b))(hb:b= !want) :
  DObl P l ⟨d,op,ty,pos,aft,some (j,want)⟩ e res (Asn.eq undef):=⟨oj,dj,b,hj,hd,.inl ⟨hl,.inr ⟨hb,rfl⟩⟩⟩
theorem dr{P:Program}{d:Option Tmp}{op:Op}{ty:TypeId}{pos:String}{aft:Array Edge}{want b:Bool}{oj:Oper}{dj:Nat}{e:Env}{res:Rs}{A:Asn}(hj:l[j]? =some oj)(hd:oj.dst=some dj)(hl:look dj e=some (tB.is b))(hb:b=want)
  (h:Op1 P ⟨d,op,ty,pos,aft,some (j,want)⟩ e res A):DObl P l ⟨d,op,ty,pos,aft,some (j,want)⟩ e res A:=⟨oj,dj,b,hj,hd,.inl ⟨hl,.inl ⟨hb,h⟩⟩⟩
section
variable {P:Program} {N:Nat} {g0:G} {T0:Nat->Prop} {ks:List KF} {B:Exit->Act->World->Prop} {env:Env} {res:Rs}
theorem getD_set_true{i k:Nat}(hi:i<listed.size):(listed.setIfInBounds i true).getD k false=true ↔ k=i\/listed.getD k false=true:=by
 simp only [Array.getD_eq_getD_getElem?,Array.getElem?_setIfInBounds];by_cases h:i=k
 .subst h;simp [hi]
 .rw [if_neg h];constructor
  .exact .inr
  .rintro (h' | h')
   .exact absurd h'.symm h
   .exact h'
def undone(listed:Array Bool)(n:Nat):Nat:=(List.range n).countP λi=>!listed.getD i false
theorem BF{i:Nat}(hi:i<listed.size)(hl:listed.getD i false=false):∀ n,i<n->undone (listed.setIfInBounds i true) n+1=undone listed n:=by
 have other:∀ k,k≠i->(listed.setIfInBounds i true).getD k false=listed.getD k false:=by
  intro k hk;simp only [Array.getD_eq_getD_getElem?,Array.getElem?_setIfInBounds];rw [if_neg (Ne.symm hk)]
 have same:(listed.setIfInBounds i true).getD i false=true:=by
  simp only [Array.getD_eq_getD_getElem?,Array.getElem?_setIfInBounds];simp [hi]
 have low:∀ n,n<=i->undone (listed.setIfInBounds i true) n=undone listed n:=by
  intro n;induction n with
  | zero=>intro _;rfl
  | succ n ih=>
   intro h;have:=ih (by omega);unfold undone at this ⊢;rw [List.range_succ,List.countP_append,List.countP_append,this];simp only [List.countP_cons,List.countP_nil,other n (by omega)]
 intro n;induction n with
 | zero=>intro h;omega
 | succ n ih=>
  intro h;by_cases hn:i=n
  .subst hn;have:=low i (Nat.le_refl _);unfold undone at this ⊢;rw [List.range_succ,List.countP_append,List.countP_append,this];simp only [List.countP_cons,List.countP_nil,same,hl];simp
  .have:=ih (by omega);unfold undone at this ⊢;rw [List.range_succ,List.countP_append,List.countP_append];simp only [List.countP_cons,List.countP_nil,other n (by omega)];omega
theorem wy:∀ {n:Nat},undone listed n=0->∀ i,i<n->listed.getD i false=true:=by
 intro n h i hi;have:=List.countP_eq_zero.1 h i (List.mem_range.2 hi);simpa using this
theorem BG:∀ {n:Nat},undone listed n≠0->∃ i,i<n/\listed.getD i false=false/\ ∀ j,j<i->listed.getD j false=true:=by
 intro n;induction n with
 | zero=>intro h;exact absurd rfl h
 | succ n ih=>
  intro h;by_cases h0:undone listed n=0
  .refine ⟨n,by omega,?_,wy h0⟩;cases hn:listed.getD n false with
   | false=>rfl
   | true=>
    exfalso;apply h;unfold undone at h0 ⊢;rw [List.range_succ,List.countP_append,h0];simp only [List.countP_cons,List.countP_nil,hn];rfl
  .obtain ⟨i,h1,h2⟩:=ih h0;exact ⟨i,by omega,h2⟩
theorem uM{o:Oper}:waits o j=true ↔ ∃ x,x∈o.after/\x.on=j/\Region.binds .any x=true:=by
 simp only [waits,List.any_eq_true,Bool.and_eq_true];constructor
 .rintro ⟨x,hx,h1,h2⟩;exact ⟨x,by simpa using hx,Nat.eq_of_beq_eq_true h1,h2⟩
 .rintro ⟨x,hx,h1,h2⟩;exact ⟨x,by simpa using hx,by rw [h1];exact Nat.beq_refl j,h2⟩
theorem sI{i:Nat}:i∈Region.ready .any l.toArray listed ↔ i<l.length/\listed.getD i true=false/\ ∃ o,l[i]? =some o/\ ∀ j,waits o j=true->listed.getD j false=true:=by
 unfold Region.ready;rw [List.mem_filter,List.mem_range];simp only [List.size_toArray,Bool.and_eq_true,List.getElem?_toArray];constructor
 .rintro ⟨h1,h2,h3⟩;refine ⟨h1,by simpa using h2,?_⟩;rw [List.getElem?_eq_getElem h1] at h3 ⊢;refine ⟨_,rfl,λj hj=>?_⟩;obtain ⟨x,hx,rfl,hb⟩:=uM.1 hj;simp only [Option.map_some,Option.getD_some,Array.all_eq_true'] at h3;have:=h3 x hx;rw [hb] at this;simpa using this
 .rintro ⟨h1,h2,o,ho,h3⟩;refine ⟨h1,by simpa using h2,?_⟩;rw [ho];simp only [Option.map_some,Option.getD_some,Array.all_eq_true'];intro x hx;cases hb:Region.binds .any x with
  | false=>rfl
  | true=>simp [h3 x.on (uM.2 ⟨x,hx,rfl,hb⟩)]
def WA(P:Program)(N:Nat)(g0:G)(T0:Nat->Prop)(l:List Oper)(ks:List KF)(B:Exit->Act->World->Prop)(env:Env)(res:Rs):Prop:=
 ∀ a g,St N g0 T0 env res a g->wpAny P .any l.toArray (KF.sem P ks B) l.toArray.size (Array.replicate l.toArray.size false) a {g.w with drawn:=g.w.drawn+1}
theorem W.ofA{id:Nat}(hm:P.follows .mixedOrders=true)(h:WA P N g0 T0 l ks B env res):W P N g0 T0 (.region id l.toArray true) ks B env res:=
 λa g hst=>wp_region_any hm (h a g hst)
end
end Go.Dec
/-
  The rules of operations, told of the models' own operations.
-/
namespace Go.Dec
open Go
variable {α:Type}
theorem vD{n:Int}:fits64 n=true ↔ inR .i64 n:=by rw [inR64];simp [fits64]
section
variable {P:Program} {N:Nat} {g0:G} {T0:Nat->Prop} {ks:List KF} {B:Exit->Act->World->Prop} {env:Env} {res:Rs} {d:Option Tmp} {ty:TypeId} {pos:String} {aft:Array Edge} {gd:Option (Nat×Bool)}
section
variable {x y:Operand} {m n z:Int} {T T':TypeId}
theorem Op1.addC(h:Dec.addC m n=some z)(hx:Opd env x ((tI .i64).is m):=by exact .tmp rfl)(hy:Opd env y ((tI .i64).is n):=by exact .tmp rfl):Op1 P ⟨d,.binOp .add T x y T',ty,pos,aft,gd⟩ env res ((tI .i64).is z):=by
 unfold Dec.addC at h;split at h
 .cases h;exact Op1.addI hx hy (vD.1 (by assumption))
 .cases h
theorem Op1.addI1{l:Nat}(hx:Opd env x ((tI .i64).is m))(hy:Opd env y ((tI .i64).is 1))(hp:m<(l:Int))(hl:l<=lim):Op1 P ⟨d,.binOp .add T x y T',ty,pos,aft,gd⟩ env res ((tI .i64).is (m+1)):=by
 intro a g K Q hc hK;have h1:=inR64.1 (hx.atInt hc).2;exact Op1.addI (P:=P) hx hy (inR64.2 (by unfold lim at hl;omega)) a g K Q hc hK
theorem uN{pre xs:List α}{i:Int}(hi:i=(pre.length:Int))(hp:i<(xs.length:Int))(hl:xs.length<=lim):inR .i64 (i+1):=inR64.2 (by unfold lim at hl;omega)
theorem Op1.subC(h:Dec.subC m n=some z)(hx:Opd env x ((tI .i64).is m):=by exact .tmp rfl)(hy:Opd env y ((tI .i64).is n):=by exact .tmp rfl):Op1 P ⟨d,.binOp .sub T x y T',ty,pos,aft,gd⟩ env res ((tI .i64).is z):=by
 unfold Dec.subC at h;split at h
 .cases h;exact Op1.subI hx hy (vD.1 (by assumption))
 .cases h
theorem Op1.mulC(h:Dec.mulC m n=some z)(hx:Opd env x ((tI .i64).is m):=by exact .tmp rfl)(hy:Opd env y ((tI .i64).is n):=by exact .tmp rfl):Op1 P ⟨d,.binOp .mul T x y T',ty,pos,aft,gd⟩ env res ((tI .i64).is z):=by
 unfold Dec.mulC at h;split at h
 .cases h;exact Op1.mulI hx hy (vD.1 (by assumption))
 .cases h
theorem Op1.quoC(h:Dec.quoC m n=some z)(hx:Opd env x ((tI .i64).is m):=by exact .tmp rfl)(hy:Opd env y ((tI .i64).is n):=by exact .tmp rfl):Op1 P ⟨d,.binOp .quo T x y T',ty,pos,aft,gd⟩ env res ((tI .i64).is z):=by
 unfold Dec.quoC at h;split at h
 .rename_i hh;cases h;exact Op1.quoI hx hy hh.1 (vD.1 hh.2)
 .cases h
end
section
variable {x y z:Operand} {l m r:Str} {i j:Int} {k k':IntKind} {T T':TypeId}
theorem Op1.catC(h:Dec.catC l m=some r)(hx:Opd env x (tS.is l):=by exact .tmp rfl)(hy:Opd env y (tS.is m):=by exact .tmp rfl):Op1 P ⟨d,.binOp .add T x y T',ty,pos,aft,gd⟩ env res (tS.is r):=by
 unfold Dec.catC at h;split at h
 .cases h;exact Op1.cat hx hy (by unfold lim;assumption)
 .cases h
theorem Op1.sidx{b:UInt8}(h:idx l i=some b)(hT:P.underlying T=some .string)(hx:Opd env x (tS.is l):=by exact .tmp rfl)(hy:Opd env y ((tI k).is i):=by exact .tmp rfl):Op1 P ⟨d,.index T x y,ty,pos,aft,gd⟩ env res ((tI .u8).is (b.toNat:Int)):=by
 unfold idx at h;split at h
 .exact Op1.indexS hT hx hy (by assumption) h
 .cases h
theorem Op1.sslcLo(h:slcLo l i=some r)(hT:P.underlying T=some .string)(hx:Opd env x (tS.is l):=by exact .tmp rfl)(hy:Opd env y ((tI k).is i):=by exact .tmp rfl):Op1 P ⟨d,.slice T x (some y) none none,ty,pos,aft,gd⟩ env res (tS.is r):=by
 unfold slcLo at h;split at h
 .rename_i hh;cases h;exact Op1.sliceSlo hT hx hy hh.1 hh.2
 .cases h
theorem Op1.sslcHi(h:slcHi l j=some r)(hT:P.underlying T=some .string)(hx:Opd env x (tS.is l):=by exact .tmp rfl)(hy:Opd env y ((tI k).is j):=by exact .tmp rfl):Op1 P ⟨d,.slice T x none (some y) none,ty,pos,aft,gd⟩ env res (tS.is r):=by
 unfold slcHi at h;split at h
 .rename_i hh;cases h;exact Op1.sliceShi hT hx hy hh.1 hh.2
 .cases h
end
section
variable {α:Type} {t:Ty α} {x y z:Operand} {l r:List α} {i j:Int} {k k':IntKind} {T e:TypeId}
theorem Op1.slc(h:Dec.slc l i j=some r)(hT:P.underlying T=some (.slice e))(hsz:∀ w,(sizeOf e).run P w= .ok t.size w)(hx:Opd env x ((tL t).is l):=by exact .tmp rfl)(hy:Opd env y ((tI k).is i):=by exact .tmp rfl)(hz:Opd env z ((tI k').is j):=by exact .tmp rfl) :
  Op1 P ⟨d,.slice T x (some y) (some z) none,ty,pos,aft,gd⟩ env res ((tL t).is r):=by
 unfold Dec.slc at h;split at h
 .rename_i hh;cases h;exact Op1.sliceL hT hsz hx hy hz hh.1 hh.2.1 hh.2.2
 .cases h
theorem Op1.slcLo(h:Dec.slcLo l i=some r)(hT:P.underlying T=some (.slice e))(hsz:∀ w,(sizeOf e).run P w= .ok t.size w)(hx:Opd env x ((tL t).is l):=by exact .tmp rfl)(hy:Opd env y ((tI k).is i):=by exact .tmp rfl) :
  Op1 P ⟨d,.slice T x (some y) none none,ty,pos,aft,gd⟩ env res ((tL t).is r):=by
 unfold Dec.slcLo at h;split at h
 .rename_i hh;cases h;exact Op1.sliceLlo hT hsz hx hy hh.1 hh.2
 .cases h
theorem Op1.slcHi(h:Dec.slcHi l j=some r)(hT:P.underlying T=some (.slice e))(hsz:∀ w,(sizeOf e).run P w= .ok t.size w)(hx:Opd env x ((tL t).is l):=by exact .tmp rfl)(hy:Opd env y ((tI k).is j):=by exact .tmp rfl) :
  Op1 P ⟨d,.slice T x none (some y) none,ty,pos,aft,gd⟩ env res ((tL t).is r):=by
 unfold Dec.slcHi at h;split at h
 .rename_i hh;cases h;exact Op1.sliceLhi hT hsz hx hy hh.1 hh.2
 .cases h
theorem Op1.idx{u:α}(h:Dec.idx l i=some u)(hT:P.underlying T=some (.slice e))(hsz:∀ w,(sizeOf e).run P w= .ok t.size w)(hx:Opd env x ((tL t).is l):=by exact .tmp rfl)(hy:Opd env y ((tI k).is i):=by exact .tmp rfl) :
  Op1 P ⟨d,.indexAddr T x y,ty,pos,aft,gd⟩ env res (t.ptr u):=by
 unfold Dec.idx at h;split at h
 .exact Op1.indexAddr hT hsz hx hy (by assumption) h
 .cases h
theorem Op1.idxPre{u:α}{pre rest:List α}(h:l=pre++u :: rest)(hi:i=pre.length)(hT:P.underlying T=some (.slice e))(hsz:∀ w,(sizeOf e).run P w= .ok t.size w)(hx:Opd env x ((tL t).is l):=by exact .tmp rfl)(hy:Opd env y ((tI k).is i):=by exact .tmp rfl) :
  Op1 P ⟨d,.indexAddr T x y,ty,pos,aft,gd⟩ env res (t.ptr u):=by
 subst h hi;exact Op1.indexAddr hT hsz hx hy (by omega) (by simp)
theorem OpR.appC{E:TypeId}{s:Operand}{tk:Tok}{m:List α}{key:Nat}(h:Dec.appC l m=some r)(hT:P.underlying T=some (.slice E))(hE:ElAt P E t)(hs:Opd env s (tO t tk l))(hx:Opd env x ((tL t).is m))
  (hr:res.pick [key]= [(key,Own t E tk l.length)]) :
  OpR P ⟨d,.call ⟨.builtin .append,#[s,x],#[T,T]⟩,ty,pos,aft,gd⟩ env res [key] (λk':Tok=>tO t k' r) (λk'=>[(key,Own t E k' r.length)]):=by
 unfold Dec.appC at h;split at h
 .cases h;exact OpR.append hT hE hs hx hr (by unfold vY;assumption)
 .cases h
end
theorem W.qd{t:Ty α}{c:Code}{l:List α}{s:Nat}(h:Opd env (.tmp s) ((tL t).is l))(k:l.length<=lim->W P N g0 T0 c ks B env res):W P N g0 T0 c ks B env res:=by
 intro a g hst;obtain ⟨_,_,_,_,h3,_⟩:=h.atL hst.cx;exact k h3 a g hst
theorem WL.qd{ops:Array Oper}{Q:Exit->Act->World->Prop}{c:List Oper}{t:Ty α}{l:List α}{s:Nat}(h:Opd env (.tmp s) ((tL t).is l))(k:l.length<=lim->WL P N g0 T0 ops Q c env res):WL P N g0 T0 ops Q c env res:=by
 intro a g hst;obtain ⟨_,_,_,_,h3,_⟩:=h.atL hst.cx;exact k h3 a g hst
theorem W.join{σ:Type}{c d:Code}(J:σ->Prop)(eJ:σ->Env)(rJ:σ->Rs)(rest:∀ s,J s->W P N g0 T0 d ks B (eJ s) (rJ s))
  (first:W P N g0 T0 c (.loop (λa w=>∃ s g,J s/\g.w=w/\St N g0 T0 (eJ s) (rJ s) a g) :: ks) B env res):W P N g0 T0 (.seq c d) ks B env res:=by
 intro a g hst;refine wp_seq (wp_mono (first a g hst) ?_);intro e a' w' hq;cases e with
 | normal=>
  obtain ⟨s,g',h1,h2,h3⟩:=hq;subst h2;exact rest s h1 a' g' h3
 | exit id=>exact hq
 | goto l=>exact hq
 | ret=>exact hq
 | panic ch=>exact hq
 | outgrown=>exact hq
theorem WN.meet{σ:Type}{J:σ->Prop}{eJ:σ->Env}{rJ:σ->Rs}(s:σ)(hJ:J s)(hs:Sub (eJ s) env)(hr:RSub (rJ s) res) :
  WN P N g0 T0 (.loop (λa w=>∃ s g,J s/\g.w=w/\St N g0 T0 (eJ s) (rJ s) a g) :: ks) B env res:=
 λa g hst=>⟨s,g,hJ,rfl,hst.weaken hs hr⟩
theorem W.ret0{fn:Func}{rin:Rs}{ρ:Type}{A:ρ->Asn}{out:ρ->Rs}(x:ρ)(hr:fn.results= #[])(hA:∀ g,(A x).holds (.tuple #[]) g)(hs:RSub (out x) res) :
  W P N g0 rin.blks .ret ks (Bo P fn g0 rin A out) env res:=
 W.ret λa g hst=>⟨hst.dfr,_,results_none hr _ _ _,x,_,g,rfl,rfl,hst.ext,hA g,λy hy=>hst.hres y (hs.mem y hy),hs.dis hst.dis,λb ⟨y,hy,hyb⟩=>(hst.own b ⟨y,hs.mem y hy,hyb⟩).symm⟩
theorem WN.fin{fn:Func}{rin:Rs}{ρ:Type}{A:ρ->Asn}{out:ρ->Rs}(x:ρ)(hr:fn.results= #[])(hA:∀ g,(A x).holds (.tuple #[]) g)(hs:RSub (out x) res) :
  WN P N g0 rin.blks [] (Bo P fn g0 rin A out) env res:=
 λa g hst=>⟨hst.dfr,_,results_none hr _ _ _,x,_,g,rfl,rfl,hst.ext,hA g,λy hy=>hst.hres y (hs.mem y hy),hs.dis hst.dis,λb ⟨y,hy,hyb⟩=>(hst.own b ⟨y,hs.mem y hy,hyb⟩).symm⟩
end
end Go.Dec
/-
  Rules for nil slices and for what package slices does with capacities.
-/
namespace Go.Dec
open Go
variable {T e:TypeId}{x:Operand}{α:Type}{xs:List α}
section
variable {P:Program} {N:Nat} {g0:G} {T0:Nat->Prop} {ks:List KF} {B:Exit->Act->World->Prop} {env:Env} {res:Rs} {d:Option Tmp} {ty:TypeId} {pos:String} {aft:Array Edge} {gd:Option (Nat×Bool)}
theorem OpR.same{o:Oper}{ρ:Type}{A:ρ->Asn}(h:∀ a g,Cx env res a g->∃ x v,(execOp a.eval o).run P g.w= .ok (.value v) g.w/\(A x).holds v g):OpR P o env res [] A (λ_=>[]):=by
 intro a g K Q hc _ hK;obtain ⟨x,v,hr,hv⟩:=h a g hc;show o.upon P a K Q ((execOp a.eval o).run P g.w);rw [hr];exact hK x v g (Ext.refl _ _) hv (λ_ h=>by cases h) List.Pairwise.nil (λb ⟨y,hy,_⟩=>by cases hy)
theorem Dl{P:Program}(hT:P.underlying T=some (.slice e))(p:Option Addr)(n c:Nat)(w:World):(binOp .eql T (.slice p n c) (.slice none 0 0)).run P w= .ok (.bool p.isNone) w:=by
 have h:∀ d,(Op.equalIn (d+1) T (.slice p n c) (.slice none 0 0)).run P w= .ok p.isNone w:=by
  intro d;cases p<;> simp [Op.equalIn,run_underlying hT]
 have h2:(Op.equal T (.slice p n c) (.slice none 0 0)).run P w= .ok p.isNone w:=h 9999;simp only [binOp];simp [h2]
theorem Dm{P:Program}(hT:P.underlying T=some (.slice e))(p:Option Addr)(n c:Nat)(w:World):(binOp .neq T (.slice p n c) (.slice none 0 0)).run P w= .ok (.bool (!p.isNone)) w:=by
 have h:∀ d,(Op.equalIn (d+1) T (.slice p n c) (.slice none 0 0)).run P w= .ok p.isNone w:=by
  intro d;cases p<;> simp [Op.equalIn,run_underlying hT]
 have h2:(Op.equal T (.slice p n c) (.slice none 0 0)).run P w= .ok p.isNone w:=h 9999;simp only [binOp];simp [h2]
theorem OpR.eqNil{t:Ty α}{T':TypeId}(hT:P.underlying T=some (.slice e))(hx:Opd env x ((tL t).is xs):=by exact .tmp rfl) :
  OpR P ⟨d,.binOp .eql T x (.const (.slice none 0 0)) T',ty,pos,aft,gd⟩ env res [] (λb:{b:Bool // b=true->xs= []}=>tB.is b.1) (λ_=>[]):=
 OpR.same λa g hc=>by
  obtain ⟨p,c,hv,h2,h3,h4,h5⟩:=hx.atL hc;refine ⟨⟨p.isNone,λh=>?_⟩,.bool p.isNone,?_,Asn.bool⟩
  .cases p with
   | none=>exact h5
   | some _=>cases h
  .exact rE hv rfl (eqGuard_at_slice _ _ _ _ _ _ _ _) (Dl hT _ _ _ _)
theorem Opd.atLn{t:Ty α}(h:Opd env x ((Dec.tLn t).is xs)){a:Act}{g:G}(hc:Cx env res a g) :
  ∃ p c,a.eval x= .slice p xs.length c/\Row t g p xs/\(xs= []->p=none):=by
 obtain ⟨cs,⟨p,c,h1,h2,h3,h4,h5,h6⟩,hv⟩:=h a g hc.henv;exact ⟨p,c,by rw [hv,h1];rfl,h5,h6⟩
theorem Op1.neNil{t:Ty α}{T':TypeId}(hT:P.underlying T=some (.slice e))(hx:Opd env x ((tLn t).is xs):=by exact .tmp rfl) :
  Op1 P ⟨d,.binOp .neq T x (.const (.slice none 0 0)) T',ty,pos,aft,gd⟩ env res (tB.is (!xs.isEmpty)):=
 Op1.same λa g hc=>by
  obtain ⟨p,c,hv,h5,h6⟩:=hx.atLn hc;refine ⟨.bool (!p.isNone),rE hv rfl (eqGuard_at_slice _ _ _ _ _ _ _ _) (Dm hT _ _ _ _),?_⟩;have:p.isNone=xs.isEmpty:=by
   cases p with
   | none=>rw [show xs= [] from h5];rfl
   | some _=>cases xs with
    | nil=>cases h6 rfl
    | cons _ _=>rfl
  rw [<-this];exact Asn.bool
end
end Go.Dec
/-
  Readings of types that hold themselves; equality of structs.
-/
namespace Go.Dec
open Go
variable {D:Nat}{α β:Type}{F:Ty α->Ty β}{T:TypeId}{c:Nat->Ty α}{u:α}
theorem Fld.one(s:Ty α):Fld (tOne s) 0 s (λx=>x):=Fld.last s
theorem dU.one(s:Ty α):dU (tOne s) 0 s (λ_ y=>y):=dU.last s
def tNone(α:Type)(n:Nat)(agg:Bool)(h:agg=false->n=1):Ty α where
 size:=n
 agg:=agg
 rep:=λ_ _ _=>False
 len:=λh=>h.elim
 one:=λh=>h.elim
 mono:=λ_ h=>h
 sing:=h
def itr{α:Type}(F:Ty α->Ty α)(z:Ty α):Nat->Ty α
 | 0=>z
 | d+1=>F (itr F z d)
structure Le {α:Type} (s t:Ty α):Prop where
 size:s.size=t.size
 agg:s.agg=t.agg
 rep:∀ g cs x,s.rep g cs x->t.rep g cs x
theorem Le.refl(s:Ty α):Le s s:=⟨rfl,rfl,λ_ _ _ h=>h⟩
theorem Le.trans{s t u:Ty α}(h:Le s t)(k:Le t u):Le s u:=⟨h.size.trans k.size,h.agg.trans k.agg,λg cs x hx=>k.rep g cs x (h.rep g cs x hx)⟩
theorem Le.At{s t:Ty α}(h:Le s t){g:G}{b o:Nat}{x:α}(ha:s.At g b o x):t.At g b o x:=
 let ⟨cs,h1,h2⟩:=ha;⟨cs,h.rep g cs x h1,h2⟩
def tSup{α:Type}(c:Nat->Ty α)(hs:∀ d,(c d).size=(c 0).size)(ha:∀ d,(c d).agg=(c 0).agg):Ty α where
 size:=(c 0).size
 agg:=(c 0).agg
 rep:=λg cs x=>∃ d,(c d).rep g cs x
 len:=λ⟨d,h⟩=>((c d).len h).trans (hs d)
 one:=λ⟨d,h⟩=>(c d).one h
 mono:=λe ⟨d,h⟩=>⟨d,(c d).mono e h⟩
 sing:=(c 0).sing
structure Chain {α:Type} (c:Nat->Ty α):Prop where
 step:∀ d,Le (c d) (c (d+1))
theorem Chain.le(h:Chain c){d e:Nat}(hde:d<=e):Le (c d) (c e):=by
 induction hde with
 | refl=>exact Le.refl _
 | step _ ih=>exact ih.trans (h.step _)
theorem Chain.size(h:Chain c)(d:Nat):(c d).size=(c 0).size:=(h.le (Nat.zero_le d)).size.symm
theorem Chain.agg(h:Chain c)(d:Nat):(c d).agg=(c 0).agg:=(h.le (Nat.zero_le d)).agg.symm
def Chain.sup{α:Type}{c:Nat->Ty α}(h:Chain c):Ty α:=tSup c h.size h.agg
theorem Chain.up(h:Chain c)(d:Nat):Le (c d) h.sup:=⟨h.size d,h.agg d,λg cs x hx=>⟨d,hx⟩⟩
structure Cont {α β:Type} (F:Ty α->Ty β):Prop where
 mono:∀ {s t},Le s t->Le (F s) (F t)
 sup:∀ {c:Nat->Ty α} (h:Chain c) g cs x,(F h.sup).rep g cs x->∃ d,(F (c d)).rep g cs x
theorem Cont.const(t:Ty β):Cont (λ_:Ty α=>t):=⟨λ_=>Le.refl _,λ_ _ _ _ h=>⟨0,h⟩⟩
theorem Cont.id:Cont (λs:Ty α=>s):=⟨λh=>h,λh g cs x hx=>hx⟩
theorem Cont.at(hF:Cont F)(h:Chain c){d e:Nat}(hde:d<=e):Le (F (c d)) (F (c e)):=hF.mono (h.le hde)
theorem Cont.pair{γ:Type}{K:Ty α->Ty γ}(hF:Cont F)(hK:Cont K):Cont (λs=>tP (F s) (K s)):=by
 refine ⟨λ{s t} h=>⟨?_,rfl,?_⟩,λ{c} h g cs x hx=>?_⟩
 .show (F s).size+(K s).size=_;rw [(hF.mono h).size,(hK.mono h).size];rfl
 .rintro g cs x ⟨c1,c2,rfl,h1,h2⟩;exact ⟨c1,c2,rfl,(hF.mono h).rep _ _ _ h1,(hK.mono h).rep _ _ _ h2⟩
 .obtain ⟨c1,c2,rfl,h1,h2⟩:=hx;obtain ⟨d1,k1⟩:=hF.sup h _ _ _ h1;obtain ⟨d2,k2⟩:=hK.sup h _ _ _ h2;exact ⟨max d1 d2,c1,c2,rfl,(hF.at h (Nat.le_max_left _ _)).rep _ _ _ k1,(hK.at h (Nat.le_max_right _ _)).rep _ _ _ k2⟩
theorem Cont.one(hF:Cont F):Cont (λs=>tOne (F s)):=
 ⟨λh=>⟨(hF.mono h).size,rfl,λg cs x hx=>(hF.mono h).rep g cs x hx⟩,λh g cs x hx=>hF.sup h g cs x hx⟩
theorem Cont.map{γ:Type}(f:γ->β)(hF:Cont F):Cont (λs=>tMap (F s) f):=
 ⟨λh=>⟨(hF.mono h).size,(hF.mono h).agg,λg cs x hx=>(hF.mono h).rep g cs (f x) hx⟩,λh g cs x hx=>hF.sup h g cs (f x) hx⟩
theorem Row.le{s t:Ty α}(h:Le s t){g:G}{p:Option Addr}{xs:List α}(hr:Row s g p xs):Row t g p xs:=by
 cases p with
 | none=>exact hr
 | some a=>exact ⟨hr.1,λi x hx=>by rw [<-h.size];exact h.At (hr.2 i x hx)⟩
theorem Chain.below(hF:Cont F)(h:Chain c)(Q:Nat->β->Nat->Prop)(hQ:∀ i x d e,d<=e->Q i x d->Q i x e) :
  ∀ (xs:List β) (o:Nat),(∀ i x,xs[i]? =some x->∃ d,Q (o+i) x d)->∃ d,∀ i x,xs[i]? =some x->Q (o+i) x d
 | [],_,_=>⟨0,λi x h=>by simp at h⟩
 | y :: ys,o,hx=>by
  obtain ⟨d1,h1⟩:=hx 0 y rfl;obtain ⟨d2,h2⟩:=Chain.below hF h Q hQ ys (o+1) (λi x hi=>by
   have:=hx (i+1) x (by simpa using hi);rwa [show o+(i+1)=o+1+i by omega] at this)
  refine ⟨max d1 d2,λi x hi=>?_⟩;cases i with
  | zero=>
   simp at hi;subst hi;exact hQ _ _ _ _ (Nat.le_max_left _ _) h1
  | succ i=>
   have:=h2 i x (by simpa using hi);rw [show o+(i+1)=o+1+i by omega];exact hQ _ _ _ _ (Nat.le_max_right _ _) this
theorem Cont.list(hF:Cont F):Cont (λs=>tL (F s)):=by
 refine ⟨λ{s t} h=>⟨rfl,rfl,?_⟩,λ{c} h g cs xs hx=>?_⟩
 .rintro g cs xs ⟨p,c,h1,h2,h3,h4,h5⟩;exact ⟨p,c,h1,h2,h3,h4,h5.le (hF.mono h)⟩
 .obtain ⟨p,k,h1,h2,h3,h4,h5⟩:=hx;cases p with
  | none=>exact ⟨0,none,k,h1,h2,h3,h4,h5⟩
  | some a=>
   obtain ⟨hs,hat⟩:=h5;have hsz:∀ d,(F h.sup).size=(F (c d)).size:=λd=>((hF.mono (h.up d)).size).symm;obtain ⟨d,hd⟩:=Chain.below hF h (λi x d=>(F (c d)).At g a.block (a.off+i*(F h.sup).size) x) (λi x d e hde hq=>(hF.at h hde).At hq) xs 0 (λi x hi=>by
    obtain ⟨cs,k1,k2⟩:=hat i x hi;obtain ⟨d,k3⟩:=hF.sup h _ _ _ k1;exact ⟨d,cs,k3,by rw [Nat.zero_add];exact k2⟩)
   refine ⟨d,some a,k,h1,h2,h3,h4,hs,λi x hi=>?_⟩;have:=hd i x hi;rw [Nat.zero_add,hsz d] at this;exact this
structure Rec {α:Type} (F:Ty α->Ty α) (n:Nat):Prop where
 cont:Cont F
 size:(F (tNone α n true (λh=>by cases h))).size=n
 agg:(F (tNone α n true (λh=>by cases h))).agg=true
theorem Rec.chain{F:Ty α->Ty α}{n:Nat}(h:Rec F n):Chain (itr F (tNone α n true (λh=>by cases h))):=by
 constructor;intro d;induction d with
 | zero=>exact ⟨h.size.symm,h.agg.symm,λ_ _ _ hf=>hf.elim⟩
 | succ d ih=>exact h.cont.mono ih
def tFix{α:Type}{F:Ty α->Ty α}{n:Nat}(h:Rec F n):Ty α where
 size:=n
 agg:=true
 rep:=λg cs x=>∃ d,(itr F (tNone α n true (λh=>by cases h)) d).rep g cs x
 len:=λ⟨d,hd⟩=>((itr F _ d).len hd).trans (h.chain.size d)
 one:=λ⟨d,hd⟩=>(itr F _ d).one hd
 mono:=λe ⟨d,hd⟩=>⟨d,(itr F _ d).mono e hd⟩
 sing:=λh=>by cases h
theorem Rec.out{F:Ty α->Ty α}{n:Nat}(h:Rec F n):Le (tFix h) (F (tFix h)):=by
 have hl:Le (F (tNone α n true (λh=>by cases h))) (F (tFix h)):=h.cont.mono (h.chain.up 0);refine ⟨h.size.symm.trans hl.size,h.agg.symm.trans hl.agg,?_⟩;rintro g cs x ⟨d,hd⟩;have h1:Le (itr F (tNone α n true (λh=>by cases h)) d) (itr F _ (d+1)):=h.chain.step d;exact (h.cont.mono (h.chain.up d)).rep _ _ _ (h1.rep _ _ _ hd)
theorem Rec.into{F:Ty α->Ty α}{n:Nat}(h:Rec F n):Le (F (tFix h)) (tFix h):=by
 refine ⟨h.out.size.symm,h.out.agg.symm,?_⟩;intro g cs x hx;obtain ⟨d,hd⟩:=h.cont.sup h.chain g cs x hx;exact ⟨d+1,hd⟩
theorem Fld.le{s s':Ty α}{o:Nat}{t:Ty β}{f:α->β}(l:Le s' s)(h:Fld s o t f):Fld s' o t f:=λg cs x hx=>h g cs x (l.rep g cs x hx)
theorem dU.le{s s':Ty α}{o:Nat}{t:Ty β}{f:α->β->α}(l:Le s' s)(k:Le s s')(h:dU s o t f):dU s' o t f:=λg cs ds x y hx hy=>
 let ⟨h1,h2⟩:=h g cs ds x y (l.rep g cs x hx) hy;⟨h1,k.rep _ _ _ h2⟩
structure EqT (P:Program) {α:Type} [DecidableEq α] (T:TypeId) (t:Ty α) (D:Nat):Prop where
 eq:∀ {g:G} {cs ds:List Value} {x y:α},t.rep g cs x->t.rep g ds y->∀ d,D<=d->∀ w,(Op.equalIn d T (mkVal t.agg cs) (mkVal t.agg ds)).run P w= .ok (decide (x=y)) w
theorem EqT.up{P:Program}[DecidableEq α]{t:Ty α}{D':Nat}(h:EqT P T t D)(hD:D<=D'):EqT P T t D':=⟨λhx hy d hd w=>h.eq hx hy d (Nat.le_trans hD hd) w⟩
section
variable {P:Program}
theorem EqT.int{k:IntKind}(hT:P.underlying T=some (.int k)):EqT P T (tI k) 1:=by
 constructor;rintro g cs ds x y ⟨rfl,_⟩ ⟨rfl,_⟩ d hd w;obtain ⟨d,rfl⟩:∃ e,d=e+1:=⟨d-1,by omega⟩
 have:=run_equalIn_int (P:=P) w d T k k x y hT;show (Op.equalIn (d+1) T (.int k x) (.int k y)).run P w=_;rw [this];congr 1
theorem EqT.string(hT:P.underlying T=some .string):EqT P T tS 1:=by
 constructor;rintro g cs ds x y ⟨rfl,_⟩ ⟨rfl,_⟩ d hd w;obtain ⟨d,rfl⟩:∃ e,d=e+1:=⟨d-1,by omega⟩
 have:=run_equalIn_string (P:=P) w d T (Dec.str x) (Dec.str y) hT;show (Op.equalIn (d+1) T (.string (Dec.str x)) (.string (Dec.str y))).run P w=_;rw [this,vC,vC];congr 1;by_cases h:x=y<;> simp [h]
theorem BH{s:Ty α}{t:Ty β}{f:α->β}{o:Nat}(ht:TyAt P T t)(hF:Fld s o t f){g:G}{cs:List Value}(hr:s.rep g cs u) :
  ∃ ds,t.rep g ds (f u)/\ ∀ w,(part T cs.toArray o).run P w= .ok (mkVal t.agg ds) w:=by
 obtain ⟨ds,hd,hj⟩:=hF g cs u hr;refine ⟨ds,hd,λw=>?_⟩;have hlen:=t.len hd;cases ha:t.agg with
 | true=>
  have hagg:=ht.agg w;rw [ha] at hagg;have hex:cs.toArray.extract o (o+t.size)=ds.toArray:=by
   apply Array.ext';simp only [List.extract_toArray,List.extract_eq_take_drop];apply List.ext_getElem?;intro q;rw [Nat.add_sub_cancel_left,List.getElem?_take,List.getElem?_drop];split
   .rename_i hq;rw [<-hlen] at hq;rw [List.getElem?_eq_getElem hq];exact hj q _ (List.getElem?_eq_getElem hq)
   .rename_i hq;rw [List.getElem?_eq_none (by omega)]
  simp only [part,Sem.run_bind,hagg,Result.andThen_ok,ht.size,hex,mkVal,Sem.run_pure,if_true]
 | false=>
  have hagg:=ht.agg w;rw [ha] at hagg;rw [t.sing ha] at hlen
  match ds,hlen with
  | [c],_=>
   have h0:=hj 0 c rfl;rw [Nat.add_zero] at h0;simp [part,hagg,h0,mkVal]
def EqL(P:Program){α:Type}(s:Ty α)(D:Nat):List Field->(α->α->Prop)->Prop
 | [],R=>R=λ_ _=>True
 | f :: fs,R=>∃ (β:Type) (_:DecidableEq β) (t:Ty β) (p:α->β) (R':α->α->Prop),f.name≠ "_" /\TyAt P f.type t/\Fld s f.offset t p/\EqT P f.type t D/\EqL P s D fs R'/\R=λx y=>p x=p y/\R' x y
theorem y5{s:Ty α}{g:G}{cs ds:List Value}{x y:α}(hx:s.rep g cs x)(hy:s.rep g ds y):∀ (fs:List Field) (R:α->α->Prop),EqL P s D fs R->∀ d,D<=d->∀ w,
  (Op.eqFields d cs.toArray ds.toArray fs).run P w= .ok (@decide (R x y) (Classical.propDecidable _)) w
 | [],R,h,d,hd,w=>by
  have h':R=λ_ _=>True:=h;subst h';simp [Op.eqFields]
 | f :: fs,R,h,d,hd,w=>by
  obtain ⟨β,_,t,p,R',h1,h2,h3,h4,h5,rfl⟩:=h;obtain ⟨c1,k1,r1⟩:=BH h2 h3 hx;obtain ⟨c2,k2,r2⟩:=BH h2 h3 hy;have ih:=y5 hx hy fs R' h5 d hd w;have e:=h4.eq k1 k2 d hd w;simp only [Op.eqFields,if_pos h1,Sem.run_bind,r1,r2,Result.andThen_ok,e];by_cases hp:p x=p y
  .have hR:(p x=p y/\R' x y) ↔ R' x y:=by simp [hp]
   have e1:decide (p x=p y)=true:=decide_eq_true hp;simp only [e1,Bool.not_true,Bool.false_eq_true,if_false,ih];congr 1;exact decide_eq_decide.2 hR.symm
  .have hR:¬ (p x=p y/\R' x y):=λh=>hp h.1;have e1:decide (p x=p y)=false:=decide_eq_false hp;simp only [e1,Bool.not_false,if_true,Sem.run_pure];congr 1;exact (@decide_eq_false _ (Classical.propDecidable _) hR).symm
theorem EqT.struct[DecidableEq α]{s:Ty α}{fs:Array Field}{R:α->α->Prop}(hs:s.agg=true)(hT:P.underlying T=some (.struct fs))(hp:P.stoodInHeld T=false)(h:EqL P s D fs.toList R)(hR:∀ x y,R x y ↔ x=y):EqT P T s (D+1):=by
 constructor;intro g cs ds x y hx hy d hd w;obtain ⟨d,rfl⟩:∃ e,d=e+1:=⟨d-1,by omega⟩
 have hf:P.fieldsOf T=fs:=by simp [Program.fieldsOf,hT]
 rw [hs];show (Op.equalIn (d+1) T (.agg cs.toArray) (.agg ds.toArray)).run P w=_;rw [run_equalIn_struct w d T _ _ (by rw [hf];exact hT) hp,hf,y5 hx hy fs.toList R h d (by omega) w];congr 1;have:=hR x y;by_cases he:x=y<;> simp_all
variable {env:Env} {res:Rs} {d:Option Tmp} {ty:TypeId} {pos:String} {aft:Array Edge} {gd:Option (Nat×Bool)}
theorem Op1.eqSt[DecidableEq α]{s:Ty α}{T':TypeId}{x y:Operand}{v:α}(hs:s.agg=true)(hD:D<=10000)(hg:P.eqGuardType P.depth T=false)(h:EqT P T s D)(hx:Opd env x (s.is u):=by exact .tmp rfl)(hy:Opd env y (s.is v):=by exact .tmp rfl) :
  Op1 P ⟨d,.binOp .eql T x y T',ty,pos,aft,gd⟩ env res (tB.is (decide (u=v))):=
 Op1.same λa g hc=>by
  obtain ⟨cs,hr,hv⟩:=hx a g hc.henv;obtain ⟨ds,hr',hv'⟩:=hy a g hc.henv;have e:=h.eq hr hr' 10000 hD g.w;rw [hs] at hv hv' e;refine ⟨.bool (decide (u=v)),?_,Asn.bool⟩;have h1:a.eval x= .agg cs.toArray:=hv;have h2:a.eval y= .agg ds.toArray:=hv';have hgd:=run_eqGuard_agg (P:=P) g.w .eql T x y cs.toArray ds.toArray hg;have e':(Op.equalIn 10000 T (.agg cs.toArray) (.agg ds.toArray)).run P g.w= .ok (decide (u=v)) g.w:=e;simp only [execOp,h1,h2,Sem.run_bind,hgd,Result.andThen_ok,run_eql_struct,e',Sem.run_pure]
theorem Op1.neSt[DecidableEq α]{s:Ty α}{T':TypeId}{x y:Operand}{v:α}(hs:s.agg=true)(hD:D<=10000)(hg:P.eqGuardType P.depth T=false)(h:EqT P T s D)(hx:Opd env x (s.is u):=by exact .tmp rfl)(hy:Opd env y (s.is v):=by exact .tmp rfl) :
  Op1 P ⟨d,.binOp .neq T x y T',ty,pos,aft,gd⟩ env res (tB.is (decide (u≠v))):=
 Op1.same λa g hc=>by
  obtain ⟨cs,hr,hv⟩:=hx a g hc.henv;obtain ⟨ds,hr',hv'⟩:=hy a g hc.henv;have e:=h.eq hr hr' 10000 hD g.w;rw [hs] at hv hv' e;refine ⟨.bool (decide (u≠v)),?_,Asn.bool⟩;have h1:a.eval x= .agg cs.toArray:=hv;have h2:a.eval y= .agg ds.toArray:=hv';have hgd:=run_eqGuard_agg (P:=P) g.w .neq T x y cs.toArray ds.toArray hg;have e':(Op.equalIn 10000 T (.agg cs.toArray) (.agg ds.toArray)).run P g.w= .ok (decide (u=v)) g.w:=e;simp only [execOp,h1,h2,Sem.run_bind,hgd,Result.andThen_ok,run_neq_struct,e',Sem.run_pure,decide_not]
end
end Go.Dec
/-
  Rules for variables that lie in cells of their own and are written again.
-/
namespace Go.Dec
open Go
variable {A:Asn}{T T':TypeId}{cs:List Value}{key:Nat}{rv:ResultVar}{α:Type}{u:α}{x y:Operand}
def Bx(n:Nat)(agg:Bool)(T:TypeId)(A:Asn)(b:Nat):Res where
 blk:=λx=>some b=some x
 holds:=λg=>∃ cs:List Value,g.w.heap[b]? =some (.cells cs.toArray T (0,0))/\cs.length=n/\(agg=false->n=1)/\(∀ c∈cs,c.oneCell'=true)/\g.S b=0/\A.holds (mkVal agg cs) g
 stay:=λ{T g g'} e hn ⟨cs,h1,h2,h3,h4,h5,h6⟩=>by
  have hlt:=(Array.getElem?_eq_some_iff.1 h1).1;have:=e.same b hlt (hn b rfl);exact ⟨cs,this.1.trans h1,h2,h3,h4,this.2.trans h5,A.mono e h6⟩
 lt:=λ{g b'} ⟨cs,h1,_⟩ hb=>by
  cases hb;exact (Array.getElem?_eq_some_iff.1 h1).1
def Bp(b o:Nat):Asn:=Asn.eq (.pointer (some ⟨b,o,none⟩))
def bg(n:Nat)(agg:Bool)(A:Asn):Prop:=∀ v g,A.holds v g->∃ cs:List Value,v.cells=cs.toArray/\cs.length=n/\(agg=false->n=1)/\v=mkVal agg cs/\ ∀ c∈cs,c.oneCell'=true
theorem bg.is(t:Ty α)(x:α):bg t.size t.agg (t.is x):=λv g ⟨cs,h,hv⟩=>⟨cs,by rw [hv];exact t.cells h,t.len h,t.sing,hv,t.one h⟩
theorem bg.o(t:Ty α)(k:Tok)(xs:List α):bg 1 false (tO t k xs):=λv g ⟨hv,_⟩=>⟨[v],by rw [hv];rfl,rfl,λ_=>rfl,rfl,λc hc=>by rw [List.mem_singleton.1 hc,hv];rfl⟩
section
variable {P:Program} {N:Nat} {g0:G} {T0:Nat->Prop} {env:Env} {res:Rs} {d:Option Tmp} {ty:TypeId} {pos:String} {aft:Array Edge} {gd:Option (Nat×Bool)}
theorem BI{n:Nat}{agg:Bool}{g:G}(h1:cs.length=n)(h2:agg=false->n=1)(h3:∀ c∈cs,c.oneCell'=true)(hA:A.holds (mkVal agg cs) g) :
  (Bx n agg T A g.w.heap.size).holds (g.alloc (.cells cs.toArray T) 0):=by
 refine ⟨cs,heap_alloc_new g.w _,h1,h2,h3,?_,A.mono (Ext.alloc No g _ 0) hA⟩;simp [G.alloc]
theorem iA{R:Res}{b b':Nat}(h:R.blk=λx=>some b=some x):Rs.blks [(key,R)] b' ↔ b'=b:=by
 constructor
 .rintro ⟨x,hx,hb⟩;rw [List.mem_singleton.1 hx] at hb;have hb:R.blk b':=hb;rw [h] at hb;exact (Option.some.inj hb).symm
 .rintro rfl;exact ⟨_,List.mem_singleton.2 rfl,by show R.blk _;rw [h]⟩
theorem OpR.alloc{t:Ty α}{z:α}(key:Nat)(hz:oF P T t z) :
  OpR P ⟨d,.alloc T,ty,pos,aft,gd⟩ env res [] (λb:Nat=>Bp b 0) (λb=>[(key,Bx t.size t.agg T (t.is z) b)]):=by
 intro a g K Q hc hd hK;obtain ⟨v,hv,hzr⟩:=hz.zero;obtain ⟨cs,hr,hv0⟩:=hzr g;have hvc:v.cells=cs.toArray:=by rw [hv0];exact t.cells hr
 have hrun:(execOp a.eval ⟨d,.alloc T,ty,pos,aft,gd⟩).run P g.w= .ok (.value (.pointer (some ⟨g.w.heap.size,0,none⟩))) (g.alloc (.cells cs.toArray T) 0).w:=by simp [execOp,Instr.alloc,hv,newVar,newRow,hvc,G.alloc]
 show Oper.upon P _ a K Q ((execOp a.eval _).run P g.w);rw [hrun];refine hK g.w.heap.size _ (g.alloc (.cells cs.toArray T) 0) (Ext.alloc _ _ _ _) rfl (λy hy=>?_) (List.pairwise_singleton _ _) (λb hb=>.inr (by rw [(iA rfl).1 hb];exact Nat.le_refl _));rw [List.mem_singleton.1 hy];exact BI (t.len hr) t.sing (t.one hr) ⟨cs,hr,rfl⟩
theorem OpR.allocO{t:Ty α}(key:Nat)(hz:∀ w,(zeroValue T).run P w= .ok (.slice none 0 0) w) :
  OpR P ⟨d,.alloc T,ty,pos,aft,gd⟩ env res [] (λb:Nat=>Bp b 0) (λb=>[(key,Bx 1 false T (tO t none []) b)]):=by
 intro a g K Q hc hd hK;have hrun:(execOp a.eval ⟨d,.alloc T,ty,pos,aft,gd⟩).run P g.w= .ok (.value (.pointer (some ⟨g.w.heap.size,0,none⟩))) (g.alloc (.cells #[.slice none 0 0] T) 0).w:=by simp [execOp,Instr.alloc,hz,newVar,newRow,Value.cells,G.alloc]
 show Oper.upon P _ a K Q ((execOp a.eval _).run P g.w);rw [hrun];refine hK g.w.heap.size _ (g.alloc (.cells #[.slice none 0 0] T) 0) (Ext.alloc _ _ _ _) rfl (λy hy=>?_) (List.pairwise_singleton _ _) (λb hb=>.inr (by rw [(iA rfl).1 hb];exact Nat.le_refl _));rw [List.mem_singleton.1 hy];exact BI (cs:=[.slice none 0 0]) rfl (λ_=>rfl) (λc hc=>by rw [List.mem_singleton.1 hc];rfl) ⟨rfl,Nat.le_refl _,Nat.zero_le _,rfl⟩
theorem OpR.boxB{n:Nat}{agg:Bool}(key:Nat)(hA:bg n agg A)(hx:Opd env x A:=by exact .tmp rfl) :
  OpR P ⟨d,.box T x,ty,pos,aft,gd⟩ env res [] (λb:Nat=>Bp b 0) (λb=>[(key,Bx n agg T A b)]):=by
 intro a g K Q hc hd hK;have hv:=hx a g hc.henv;obtain ⟨cs,h1,h2,h3,h4,h5⟩:=hA _ _ hv;have hrun:(execOp a.eval ⟨d,.box T x,ty,pos,aft,gd⟩).run P g.w= .ok (.value (.pointer (some ⟨g.w.heap.size,0,none⟩))) (g.alloc (.cells cs.toArray T) 0).w:=by simp [execOp,Instr.box,newVar,newRow,h1,G.alloc]
 show Oper.upon P _ a K Q ((execOp a.eval _).run P g.w);rw [hrun];refine hK g.w.heap.size _ (g.alloc (.cells cs.toArray T) 0) (Ext.alloc _ _ _ _) rfl (λy hy=>?_) (List.pairwise_singleton _ _) (λb hb=>.inr (by rw [(iA rfl).1 hb];exact Nat.le_refl _));rw [List.mem_singleton.1 hy];exact BI h2 h3 h5 (by rw [<-h4];exact hv)
theorem pG{n:Nat}{agg:Bool}(hg:∀ w,(isAgg T).run P w= .ok agg w)(hs:∀ w,(sizeOf T).run P w= .ok n w){w:World}{b o:Nat}(hl:cs.length=n)(h1:agg=false->n=1)
  (h:∀ j v,cs[j]? =some v->w.cell? ⟨b,o+j,none⟩=some v):(loadVar T ⟨b,o,none⟩).run P w= .ok (mkVal agg cs) w:=by
 have hcell:∀ j v,cs[j]? =some v->w.cell? ((⟨b,o,none⟩:Addr).add j)=some v:=λj v hj=>by rw [Addr.add_lit];exact h j v hj
 have hlo:=run_loadCells_list (P:=P) w ⟨b,o,none⟩ cs hcell;rw [hl] at hlo;unfold mkVal;cases agg with
 | true=>simp [loadVar,hg w,hs,hlo]
 | false=>
  rw [h1 rfl] at hl
  match cs,hl with
  | [c],_=>
   have hc0:=hcell 0 c rfl;rw [Addr.add_zero'] at hc0;simp [loadVar,hg w,hc0]
theorem Bx.at{n:Nat}{agg:Bool}{b:Nat}(hr:findR key res=some (Bx n agg T A b)){a:Act}{g:G}(hc:Cx env res a g):(Bx n agg T A b).holds g:=hc.hres _ (fO hr)
theorem Op1.qG{n:Nat}{agg:Bool}{b:Nat}(key:Nat)(hg:∀ w,(isAgg T).run P w= .ok agg w)(hs:∀ w,(sizeOf T).run P w= .ok n w)(hr:findR key res=some (Bx n agg T' A b))(hx:Opd env x (Bp b 0):=by exact .tmp rfl) :
  Op1 P ⟨d,.load T x,ty,pos,aft,gd⟩ env res A:=
 Op1.same λa g hc=>by
  obtain ⟨cs,h1,h2,h3,h4,h5,h6⟩:=Bx.at hr hc;have hv:a.eval x= .pointer (some ⟨b,0,none⟩):=hx a g hc.henv;have:=pG (P:=P) hg hs (w:=g.w) (b:=b) (o:=0) h2 h3 (λj v hj=>by
   rw [cell_of_row _ _ _ _ _ _ h1];simpa using hj)
  exact ⟨mkVal agg cs,by simp [execOp,hv,Instr.loadAt,Instr.sureAddr,this],h6⟩
theorem Op1.fieldAddrB{fs:Array Field}{fd:Field}{n b o o':Nat}(hT:P.underlying T=some (.struct fs))(hf:fs[n]? =some fd)(hz:∀ w,∃ m,(sizeOf fd.type).run P w= .ok (m+1) w)(h:Opd env x (Bp b o))(ho:o+fd.offset=o') :
  Op1 P ⟨d,.fieldAddr T x n,ty,pos,aft,gd⟩ env res (Bp b o'):=
 Op1.same λa g hc=>by
  have hv:a.eval x= .pointer (some ⟨b,o,none⟩):=h a g hc.henv;obtain ⟨m,hm⟩:=hz g.w;subst ho;refine ⟨.pointer (some ⟨b,o+fd.offset,none⟩),?_,rfl⟩;simp [execOp,hv,Instr.fieldAt,run_underlying hT,hf,Instr.sureAddr,fieldPlace,hm,Addr.add_lit]
theorem Op1.nilCheckB{b o:Nat}(h:Opd env x (Bp b o):=by exact .tmp rfl):Op1 P ⟨d,.nilCheck x,ty,pos,aft,gd⟩ env res (Bp b o):=
 Op1.same λa g hc=>by
  have hv:a.eval x= .pointer (some ⟨b,o,none⟩):=h a g hc.henv;exact ⟨_,by simp [execOp,hv],rfl⟩
theorem Op1.kR{β:Type}{s:Ty α}{t:Ty β}{f:α->β}{b o:Nat}(key:Nat)(hs:s.agg=true)(ht:TyAt P T t)(hF:Fld s o t f)(hr:findR key res=some (Bx s.size true T' (s.is u) b))(hx:Opd env x (Bp b o):=by exact .tmp rfl) :
  Op1 P ⟨d,.load T x,ty,pos,aft,gd⟩ env res (t.is (f u)):=
 Op1.same λa g hc=>by
  obtain ⟨cs,h1,h2,h3,h4,h5,cs',h6,h7⟩:=Bx.at hr hc;rw [hs] at h7;have e:cs=cs':=by
   have:=congrArg Value.cells h7;simpa [mkVal,Value.cells] using this
  subst e;obtain ⟨ds,hd,hj⟩:=hF g cs u h6;have hv:a.eval x= .pointer (some ⟨b,o,none⟩):=hx a g hc.henv;have:=pG (P:=P) ht.agg ht.size (w:=g.w) (b:=b) (o:=o) (t.len hd) t.sing (λj v hjv=>by
   rw [cell_of_row _ _ _ _ _ _ h1];simpa using hj j v hjv)
  exact ⟨mkVal t.agg ds,by simp [execOp,hv,Instr.loadAt,Instr.sureAddr,this],ds,hd,rfl⟩
theorem qH{E:TypeId}{n:Nat}(hs:∀ w,(sizeOf T).run P w= .ok n w){w:World}{b o:Nat}{cur ds:List Value}{v:Value}(hb:w.heap[b]? =some (.cells cur.toArray E (0,0)))(hv:v.cells=ds.toArray)(hl:ds.length=n)(ho:o+n<=cur.length)
  (h1:∀ c∈ds,c.oneCell'=true):(storeVar T ⟨b,o,none⟩ v).run P w= .ok () (w.setRow b (over cur o ds).toArray):=by
 have:=run_storeCells_at (P:=P) b o E ds 0 cur.toArray w hb (by simp;omega) h1;simp only [Nat.add_zero] at this;unfold over;simp [storeVar,hs,hv,hl,this]
theorem OpR.storeAt{n:Nat}{agg:Bool}{A' B:Asn}{b o:Nat}(key:Nat){m:Nat}{agg':Bool}(hs:∀ w,(sizeOf T).run P w= .ok m w)(hB:bg m agg' B)
  (hr:res.pick [key]= [(key,Bx n agg T' A b)]) (hx:Opd env x (Bp b o)) (hy:Opd env y B) (ho:o+m<=n)
  (hA:∀ g g' cs ds,Ext (· =b) g g'->cs.length=n->A.holds (mkVal agg cs) g->B.holds (mkVal agg' ds) g->ds.length=m->A'.holds (mkVal agg (over cs o ds)) g') :
  OpR P ⟨none,.store T x y,ty,pos,aft,gd⟩ env res [key] (λ_:Unit=>Asn.any) (λ_=>[(key,Bx n agg T' A' b)]):=by
 intro a g K Q hc hd hK;have hin:(key,Bx n agg T' A b)∈res:=by
  have:(key,Bx n agg T' A b)∈res.pick [key]:=by rw [hr];exact List.mem_singleton.2 rfl
  exact (List.mem_filter.1 this).1
 obtain ⟨cs,h1,h2,h3,h4,h5,h6⟩:=hc.hres _ hin;have hv:a.eval x= .pointer (some ⟨b,o,none⟩):=hx a g hc.henv;have hyv:=hy a g hc.henv;obtain ⟨ds,k1,k2,k3,k4,k5⟩:=hB _ _ hyv;have hrun:=qH (P:=P) (cur:=cs) (ds:=ds) (v:=a.eval y) (o:=o) hs h1 k1 k2 (by omega) k5;have hex:(execOp a.eval ⟨none,.store T x y,ty,pos,aft,gd⟩).run P g.w= .ok .skip (g.w.setRow b (over cs o ds).toArray):=by
  simp [execOp,hv,Instr.storeAt,Instr.sureAddr,hrun]
 show Oper.upon P _ a K Q ((execOp a.eval _).run P g.w);rw [hex];have hS:(λx=>if x=b then g.S b else g.S x)=g.S:=by funext x;split<;> simp_all
 have e:=o8 (g:=g) (b:=b) (new:=(over cs o ds).toArray) h1 (s:=g.S b) (Nat.le_refl _) (λi v hi=>by omega) (λh=>by omega);have hw:o+ds.length<=cs.length:=by omega
 refine hK () undef ⟨g.w.setRow b (over cs o ds).toArray,λx=>if x=b then g.S b else g.S x⟩ (e.mono (λx hx=>by rw [hr];exact (iA rfl).2 hx)) trivial (λy hy=>?_) (List.pairwise_singleton _ _) (λb' hb'=>.inl (by rw [hr];exact (iA rfl).2 ((iA rfl).1 hb')));rw [List.mem_singleton.1 hy];refine ⟨over cs o ds,setRow_heap g.w b cs.toArray _ T' _ h1,by rw [gF hw,h2],h3,λc hcm=>?_,by simp [h5],hA g _ cs ds e h2 h6 (by rw [<-k4];exact hyv) k2⟩;unfold over at hcm;rcases List.mem_append.1 hcm with hcm | hcm
 .rcases List.mem_append.1 hcm with hcm | hcm
  .exact h4 c (List.mem_of_mem_take hcm)
  .exact k5 c hcm
 .exact h4 c (List.mem_of_mem_drop hcm)
theorem NM{ds:List Value}(h:ds.length=cs.length):over cs 0 ds=ds:=by
 unfold over;rw [List.take_zero,List.nil_append,Nat.zero_add,List.drop_eq_nil_of_le (by omega),List.append_nil]
theorem OpR.storeB{n:Nat}{agg:Bool}{A':Asn}{b:Nat}(key:Nat)(hs:∀ w,(sizeOf T).run P w= .ok n w)(hB:bg n agg A')
  (hr:res.pick [key]= [(key,Bx n agg T' A b)]) (hx:Opd env x (Bp b 0):=by exact .tmp rfl)(hy:Opd env y A':=by exact .tmp rfl) :
  OpR P ⟨none,.store T x y,ty,pos,aft,gd⟩ env res [key] (λ_:Unit=>Asn.any) (λ_=>[(key,Bx n agg T' A' b)]):=
 OpR.storeAt key hs hB hr hx hy (by omega) (λg g' cs ds e h1 _ h2 h3=>by
  rw [NM (by omega)];exact A'.mono e h2)
theorem OpR.storeBF{β:Type}{s:Ty α}{t:Ty β}{upd:α->β->α}{b o:Nat}{v:β}(key:Nat)(hs:s.agg=true)(ht:TyAt P T t)(hF:dU s o t upd)(hr:res.pick [key]= [(key,Bx s.size true T' (s.is u) b)])
  (ho:o+t.size<=s.size) (hx:Opd env x (Bp b o):=by exact .tmp rfl)(hy:Opd env y (t.is v):=by exact .tmp rfl) :
  OpR P ⟨none,.store T x y,ty,pos,aft,gd⟩ env res [key] (λ_:Unit=>Asn.any) (λ_=>[(key,Bx s.size true T' (s.is (upd u v)) b)]):=
 OpR.storeAt key ht.size (bg.is t v) hr hx hy ho (λg g' cs ds e h1 h2 h3 h4=>by
  obtain ⟨cs',k1,k2⟩:=h2;rw [hs] at k2;have e1:cs=cs':=by
   have:=congrArg Value.cells k2;simpa [mkVal,Value.cells] using this
  subst e1;obtain ⟨ds',j1,j2⟩:=h3;have e2:ds=ds':=by
   have hl:=t.len j1;cases ha:t.agg with
   | true=>
    rw [ha] at j2;have:=congrArg Value.cells j2;simpa [mkVal,Value.cells] using this
   | false=>
    rw [ha] at j2;have hn:=t.sing ha;rw [hn] at h4 hl
    match ds,ds',h4,hl with
    | [c],[c'],_,_=>
     have:c=c':=j2;rw [this]
  subst e2;exact ⟨over cs o ds,(hF g' cs ds u v (s.mono e k1) (t.mono e j1)).2,by rw [hs]⟩)
theorem St.sealed{t:Ty α}{b slot:Nat}(hr:findR key res=some (Bx t.size t.agg T (t.is u) b))(hs:look slot env=some (Bp b 0)){a:Act}{g:G}(h:St N g0 T0 env res a g) :
  ∃ g',g'.w=g.w/\St N g0 T0 ((slot,t.ptr u) :: env) (res.drop [key]) a g':=by
 have hin:=fO hr;obtain ⟨cs,h1,h2,h3,h4,h5,cs',k1,k2⟩:=h.hres _ hin;have hcs:cs=cs':=by
  have hl:=t.len k1;cases ha:t.agg with
  | true=>
   rw [ha] at k2;have:=congrArg Value.cells k2;simpa [mkVal,Value.cells] using this
  | false=>
   rw [ha] at k2;have hn:=t.sing ha;rw [hn] at h2 hl
   match cs,cs',h2,hl with
   | [c],[c'],_,_=>
    have:c=c':=k2;rw [this]
 subst hcs;have e:Ext (· =b) g ⟨g.w,λx=>if x=b then t.size else g.S x⟩:=by
  refine ⟨rfl,rfl,rfl,Nat.le_refl _,λx _ hn=>⟨rfl,?_⟩,λx i v hv=>⟨?_,hv.2⟩,λx n hv=>?_⟩
  .show (if x=b then _ else _)=_;rw [if_neg hn]
  .show i<(if x=b then _ else _);by_cases hx:x=b
   .subst hx;have:=hv.1;omega
   .rw [if_neg hx];exact hv.1
  .by_cases hx:x=b
   .subst hx;have:=hv.2;omega
   .refine hv.same rfl ?_;show g.S x<=if x=b then _ else _;rw [if_neg hx];exact Nat.le_refl _
 refine ⟨⟨g.w,λx=>if x=b then t.size else g.S x⟩,rfl,h.sz,h.dfr,λs A hA=>?_,λy hy=>?_,h.dis.filter _,λb' ⟨y,hy,hb⟩=>h.own b' ⟨y,(List.mem_filter.1 hy).1,hb⟩,?_⟩
 .by_cases hk:slot=s
  .subst hk;rw [dh] at hA;cases hA;have hv:a.tmps.getD slot undef= .pointer (some ⟨b,0,none⟩):=h.henv slot _ hs;refine ⟨b,0,hv,cs,t.mono e k1,λj v hj=>⟨?_,?_⟩⟩
   .show 0+j<(if b=b then _ else _);rw [if_pos rfl];have:=(List.getElem?_eq_some_iff.1 hj).1;omega
   .show g.w.cell? ⟨b,0+j,none⟩=some v;rw [cell_of_row _ _ _ _ _ _ h1];simpa using hj
  .rw [bL _ _ hk] at hA;exact A.mono e (h.henv s A hA)
 .have hy':=(List.mem_filter.1 hy)
  refine y.2.stay e (λb' hb' hT=>?_) (h.hres y hy'.1);have hne:y.1≠key:=λe=>by
   have:=hy'.2;rw [e] at this;simp [memB,Nat.beq_refl] at this
  exact h.dis.two y hy'.1 _ hin hne b' hb' (by rw [show b'=b from hT];rfl)
 .refine h.ext.trans e (λx hx hT=>?_);rcases h.own b ⟨_,hin,rfl⟩ with h1 | h1
  .have:x=b:=hT;omega
  .rw [show x=b from hT];exact h1
theorem WL.sealed{ops:Array Oper}{Q:Exit->Act->World->Prop}{l:List Oper}{t:Ty α}{b:Nat}(key slot:Nat)(hr:findR key res=some (Bx t.size t.agg T (t.is u) b))(hs:look slot env=some (Bp b 0))
  (k:WL P N g0 T0 ops Q l ((slot,t.ptr u) :: env) (res.drop [key])):WL P N g0 T0 ops Q l env res:=by
 intro a g hst;obtain ⟨g',h1,h2⟩:=St.sealed hr hs hst;have:=k a g' h2;rw [h1] at this;exact this
def readRes(tmps:Array Value)(rv:ResultVar):Sem Value:=match rv with
 | .tmp t=>pure (tmps.getD t undef)
 | .cell a t=>do loadVar t (<-asAddr (tmps.getD a undef))
def ResAt(P:Program)(env:Env)(res:Rs)(rv:ResultVar)(A:Asn):Prop:=∀ a g,Cx env res a g->∃ v,(readRes a.tmps rv).run P g.w= .ok v g.w/\A.holds v g
theorem ResAt.tmp{t:Tmp}(h:Opd env (.tmp t) A):ResAt P env res (.tmp t) A:=λa g hc=>⟨_,rfl,h a g hc.henv⟩
theorem ResAt.cell{n:Nat}{agg:Bool}{b p:Nat}(key:Nat)(hg:∀ w,(isAgg T).run P w= .ok agg w)(hs:∀ w,(sizeOf T).run P w= .ok n w)(hr:findR key res=some (Bx n agg T' A b))(hx:Opd env (.tmp p) (Bp b 0)):ResAt P env res (.cell p T) A:=
 λa g hc=>by
  obtain ⟨cs,h1,h2,h3,h4,h5,h6⟩:=Bx.at hr hc;have hv:a.tmps.getD p undef= .pointer (some ⟨b,0,none⟩):=hx a g hc.henv;have:=pG (P:=P) hg hs (w:=g.w) (b:=b) (o:=0) h2 h3 (λj v hj=>by
   rw [cell_of_row _ _ _ _ _ _ h1];simpa using hj)
  exact ⟨mkVal agg cs,by simp [readRes,hv,asAddr,this],h6⟩
section
variable {rin:Rs} {fn:Func} {ρ:Type} {A:ρ->Asn} {out:ρ->Rs} {ks:List KF}
theorem sZ(fn:Func)(tmps:Array Value):results fn tmps=(do let vs<-fn.results.mapM (readRes tmps);pure (if h:vs.size=1 then vs[0] else .tuple vs)):=by
 unfold results;congr 2
theorem W.retQ1(x:ρ)(hr:fn.results= #[rv])(h:ResAt P env res rv (A x))(hs:RSub (out x) res):W P N g0 rin.blks .ret ks (Bo P fn g0 rin A out) env res:=
 W.ret λa g hst=>by
  obtain ⟨v,h1,h2⟩:=h a g hst.cx;exact ⟨hst.dfr,v,by rw [sZ,hr];simp [h1],x,v,g,rfl,rfl,hst.ext,h2,λy hy=>hst.hres y (hs.mem y hy),hs.dis hst.dis,λb ⟨y,hy,hyb⟩=>(hst.own b ⟨y,hs.mem y hy,hyb⟩).symm⟩
theorem W.retQ2{rv2:ResultVar}(x:ρ){C D:Asn}(hr:fn.results= #[rv,rv2])(hA:A x=Asn.tuple2 C D)(h:ResAt P env res rv C)(k:ResAt P env res rv2 D)(hs:RSub (out x) res):W P N g0 rin.blks .ret ks (Bo P fn g0 rin A out) env res:=
 W.ret λa g hst=>by
  obtain ⟨v,h1,h2⟩:=h a g hst.cx;obtain ⟨u,k1,k2⟩:=k a g hst.cx;exact ⟨hst.dfr,.tuple #[v,u],by rw [sZ,hr];simp [h1,k1],x,_,g,rfl,rfl,hst.ext,by rw [hA];exact ⟨v,u,rfl,h2,k2⟩,λy hy=>hst.hres y (hs.mem y hy),hs.dis hst.dis,λb ⟨y,hy,hyb⟩=>(hst.own b ⟨y,hs.mem y hy,hyb⟩).symm⟩
theorem W.retQ3{rv2 rv3:ResultVar}(x:ρ){C D E:Asn}(hr:fn.results= #[rv,rv2,rv3])(hA:A x=Asn.tuple3 C D E)(h:ResAt P env res rv C)(k:ResAt P env res rv2 D)(l:ResAt P env res rv3 E)(hs:RSub (out x) res):W P N g0 rin.blks .ret ks (Bo P fn g0 rin A out) env res:=
 W.ret λa g hst=>by
  obtain ⟨v,h1,h2⟩:=h a g hst.cx;obtain ⟨u,k1,k2⟩:=k a g hst.cx;obtain ⟨s,l1,l2⟩:=l a g hst.cx;exact ⟨hst.dfr,.tuple #[v,u,s],by rw [sZ,hr];simp [h1,k1,l1],x,_,g,rfl,rfl,hst.ext,by rw [hA];exact ⟨v,u,s,rfl,h2,k2,l2⟩,λy hy=>hst.hres y (hs.mem y hy),hs.dis hst.dis,λb ⟨y,hy,hyb⟩=>(hst.own b ⟨y,hs.mem y hy,hyb⟩).symm⟩
end
end
end Go.Dec
