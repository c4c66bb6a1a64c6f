import Derived.Test.YtalogjkalmkpjaaGreatDoorDec21
import Derived.Test.YtalogjkalmkpjaaGreatDoorDec29
import Derived.Laws.MakeOwn
import Derived.Below
/-
  Slices of the call's own inside structs: the token stands in the reading of the struct.
-/
set_option linter.unusedVariables false
set_option linter.unusedSimpArgs false
namespace Go.Dec
open Go
def tOT{α:Type}(t:Ty α)(k:Tok):Ty (List α) where
 size:=1
 agg:=false
 rep:=fun g cs xs=>∃ v,cs= [v]∧(tO t k xs).holds v g
 len:=fun ⟨v,h,_⟩=>by rw [h];rfl
 one:=fun ⟨v,h,hv⟩ c hc=>by
  rw [h] at hc;rw [List.mem_singleton.1 hc,hv.1];rfl
 mono:=fun e ⟨v,h,hv⟩=>⟨v,h,(tO t k _).mono e hv⟩
 sing:=fun _=>rfl
theorem Ga{α:Type}(t:Ty α)(k:Tok):Le (tOT t k) (tL t):=⟨rfl,rfl,by
 rintro g cs xs ⟨v,rfl,hv⟩;obtain ⟨ds,hd,he⟩:=En hv;have hl:=(tL t).len hd
 match ds,hl with
 | [c],_=>
  have:v=c:=he;rw [this];exact hd⟩
theorem Le.pair{α β:Type}{s s':Ty α}{t t':Ty β}(h:Le s s')(k:Le t t'):Le (tP s t) (tP s' t'):=by
 refine ⟨?_,rfl,?_⟩
 ·show s.size+t.size=s'.size+t'.size;rw [h.size,k.size]
 ·rintro g cs x ⟨c1,c2,rfl,h1,h2⟩;exact ⟨c1,c2,rfl,h.rep _ _ _ h1,k.rep _ _ _ h2⟩
theorem Le.one{α:Type}{s s':Ty α}(h:Le s s'):Le (tOne s) (tOne s'):=⟨h.size,rfl,h.rep⟩
theorem Le.mapT{α β:Type}{t t':Ty β}(h:Le t t')(m:α→β):Le (tMap t m) (tMap t' m):=⟨h.size,h.agg,fun g cs x hx=>h.rep g cs (m x) hx⟩
def bz{α β:Type}(s s':Ty α)(o:Nat)(t:Ty β)(upd:α→β→α):Prop:=
 ∀ g cs ds x y,s.rep g cs x→t.rep g ds y→o+ds.length≤cs.length∧s'.rep g (over cs o ds) (upd x y)
theorem bz.here{α β:Type}(s s':Ty α)(t:Ty β)(hz:s.size=s'.size):bz (tP s t) (tP s' t) 0 s' (fun x y=>(y,x.2)):=by
 rintro g cs ds x y ⟨c1,c2,rfl,h1,h2⟩ hy;have e1:=s.len h1;have e2:=s'.len hy;refine ⟨by rw [List.length_append];omega,ds,c2,?_,hy,h2⟩;unfold over;rw [List.take_zero,List.nil_append,Nat.zero_add,e2,←hz,←e1,List.drop_left]
theorem bz.next{α β γ:Type}{s:Ty α}{t t':Ty β}{u:Ty γ}{o:Nat}{f:β→γ→β}(h:bz t t' o u f):bz (tP s t) (tP s t') (s.size+o) u (fun x y=>(x.1,f x.2 y)):=by
 rintro g cs ds x y ⟨c1,c2,rfl,h1,h2⟩ hy;obtain ⟨hl,hr⟩:=h g c2 ds x.2 y h2 hy;have e1:=s.len h1;refine ⟨by rw [List.length_append];omega,c1,over c2 o ds,?_,h1,hr⟩;unfold over;rw [List.take_append,List.drop_append,e1];rw [List.take_of_length_le (by omega),show s.size+o-s.size=o by omega,List.drop_eq_nil_of_le (by omega),show s.size+o+ds.length-s.size=o+ds.length by omega];simp
theorem bz.one{α:Type}(s s':Ty α)(hz:s.size=s'.size):bz (tOne s) (tOne s') 0 s' (fun _ y=>y):=by
 intro g cs ds x y h1 hy;have e1:=s.len h1;have e2:=s'.len hy;refine ⟨by omega,?_⟩;unfold over;rw [List.take_zero,List.nil_append,Nat.zero_add,e2,←hz,←e1,List.drop_length,List.append_nil];exact hy
theorem bz.map{α β γ:Type}{t t':Ty β}{u:Ty γ}{o:Nat}{f:β→γ→β}{m:α→β}{f':α→γ→α}(h:bz t t' o u f)(hm:∀ x y,m (f' x y)=f (m x) y):bz (tMap t m) (tMap t' m) o u f':=by
 intro g cs ds x y h1 hy;obtain ⟨hl,hr⟩:=h g cs ds (m x) y h1 hy;refine ⟨hl,?_⟩;show t'.rep g _ (m (f' x y));rw [hm];exact hr
theorem bz.cast{α β:Type}{s s':Ty α}{o o':Nat}{t:Ty β}{f f':α→β→α}(h:bz s s' o t f)(ho:o'=o)(hf:f'=f):bz s s' o' t f':=by subst ho hf;exact h
section
variable {P:Program} {N:Nat} {g0:G} {T0:Nat→Prop} {env:Env} {res:Rs} {d:Option Tmp} {ty:TypeId} {pos:String} {aft:Array Edge} {gd:Option (Nat×Bool)}
theorem Opd.Hy{α:Type}{t:Ty α}{k:Tok}{xs:List α}{x:Operand}(h:Opd env x (tO t k xs)):Opd env x ((tOT t k).is xs):=h.weak fun v g hv=>⟨[v],⟨v,rfl,hv⟩,rfl⟩
theorem Opd.leT{α:Type}{s t:Ty α}{u:α}{x:Operand}(l:Le s t)(h:Opd env x (s.is u)):Opd env x (t.is u):=h.weak fun v g ⟨cs,h1,h2⟩=>⟨cs,l.rep _ _ _ h1,by rw [←l.agg];exact h2⟩
theorem Op1.ofOT{α:Type}{t:Ty α}{k:Tok}{xs:List α}{o:Oper}(h:Op1 P o env res ((tOT t k).is xs)):Op1 P o env res (tO t k xs):=h.weak fun v g ⟨cs,⟨c,h1,h2⟩,h3⟩=>by
 subst h1;have:v=c:=h3;rw [this];exact h2
def DU(P:Program)(env:Env){α:Type}(s':Ty α)(fs:Array Field):List (Nat×Operand)→Ty α→α→α→Prop
 | [],s,x,x'=>s=s'∧x'=x
 | (i,o) :: ps,s,x,x'=>∃ (s1:Ty α) (β:Type) (t:Ty β) (y:β) (upd:α→β→α) (fd:Field),fs[i]? =some fd∧(∀ w,(sizeOf fd.type).run P w= .ok t.size w)∧Opd env o (t.is y)∧bz s s1 fd.offset t upd∧DU P env s' fs ps s1 (upd x y) x'
theorem xB{α:Type}{s':Ty α}{fs:Array Field}{a:Act}{g:G}(he:∀ s B,look s env=some B→B.holds (a.tmps.getD s undef) g)(pl:Array (Nat×Nat))(hpl:∀ (i:Nat) (fd:Field) (sz:Nat),fs[i]? =some fd→(∀ w,(sizeOf fd.type).run P w= .ok sz w)→pl[i]? =some (fd.offset,sz)) :
  ∀ (ps:List (Nat×Operand)) (s:Ty α) (x x':α) (cells:Array Value),DU P env s' fs ps s x x'→s.rep g cells.toList x→∃ cs,Instr.fill (pl[·]?) cells (ps.map fun p=>(p.1,a.eval p.2))=some cs∧s'.rep g cs.toList x'
 | [],s,x,x',cells,h,hr=>⟨cells,rfl,by rw [show x'=x from h.2,←h.1];exact hr⟩
 | (i,o) :: ps,s,x,x',cells,h,hr=>by
  obtain ⟨s1,β,t,y,upd,fd,h1,h2,h3,h4,h5⟩:=h;obtain ⟨ds,hd,hv⟩:=h3 a g he;have hc:(a.eval o).cells=ds.toArray:=by rw [hv];exact t.cells hd
  obtain ⟨hl,hs⟩:=h4 g cells.toList ds x y hr hd;have hsz:(a.eval o).cells.size=t.size:=by rw [hc];simp [t.len hd]
  have hl':fd.offset+(a.eval o).cells.size≤cells.size:=by rw [hc];simpa using hl
  have hfold:=uH fd.offset (a.eval o) cells hl';rw [hc] at hfold;obtain ⟨cs,hcs,hrs⟩:=xB he pl hpl ps s1 (upd x y) x' ((a.eval o).cells.zipIdx.foldl (fun cs (p:Value×Nat)=>cs.setIfInBounds (fd.offset+p.2) p.1) cells) h5 (by rw [hc,hfold];exact hs);refine ⟨cs,?_,hrs⟩;simp only [List.map_cons,Instr.fill,hpl i fd t.size h1 h2];have h6:¬ ((decide ((a.eval o).cells.size≠t.size) || decide (fd.offset+(a.eval o).cells.size > cells.size))=true):=by
   simp only [Bool.or_eq_true,decide_eq_true_eq];omega
  rw [if_neg h6];exact hcs
theorem Op1.buildT{α:Type}{s s':Ty α}{T:TypeId}{fs:Array Field}{ps:List (Nat×Operand)}{z x:α}(f:Field→Nat)(hagg:s'.agg=true)(hT:P.underlying T=some (.struct fs))(hf:∀ fd,fd∈fs→∀ w,(sizeOf fd.type).run P w= .ok (f fd) w)
  (hz:eT P T s z) (h:DU P env s' fs ps s z x):Op1 P ⟨d,.build T ps.toArray,ty,pos,aft,gd⟩ env res (s'.is x):=
 Op1.same fun a g hc=>by
  obtain ⟨v,hv,hzr⟩:=hz.zero;obtain ⟨cs0,hcs0,hv0⟩:=hzr g;have hvc:v.cells=cs0.toArray:=by rw [hv0];exact s.cells hcs0
  obtain ⟨cs,h1,h2⟩:=xB (P:=P) hc.henv (fs.map fun fd=>(fd.offset,f fd)) (fun i fd sz hi hs=>by
   have hm:fd∈fs:=Array.mem_of_getElem? hi;have:=(hf fd hm g.w).symm.trans (hs g.w);cases this;simp [hi]) ps s z x cs0.toArray h (by simpa using hcs0)
  refine ⟨.agg cs,?_,cs.toList,h2,by rw [hagg];simp [mkVal]⟩;simp only [execOp,Instr.build,Sem.run_bind,hv,Result.andThen_ok,hvc,run_underlying hT,run_places f hf,List.map_toArray,h1,Sem.run_pure]
theorem OpR.storeBFT{α β:Type}{s s':Ty α}{t:Ty β}{upd:α→β→α}{T T':TypeId}{b o:Nat}{u:α}{v:β}{x y:Operand}(key:Nat)(hs:s.agg=true)(hs':s'.agg=true)(ht:TyAt P T t)(hF:bz s s' o t upd)(hr:res.pick [key]= [(key,Bx s.size true T' (s.is u) b)])
  (ho:o+t.size≤s.size) (hx:Opd env x (Bp b o):=by exact .tmp rfl)(hy:Opd env y (t.is v):=by exact .tmp rfl) :
  OpR P ⟨none,.store T x y,ty,pos,aft,gd⟩ env res [key] (fun _:Unit=>Asn.any) (fun _=>[(key,Bx s.size true T' (s'.is (upd u v)) b)]):=
 OpR.storeAt key ht.size (aF.is t v) hr hx hy ho (fun g g' cs ds e h1 h2 h3 h4=>by
  obtain ⟨cs',k1,k2⟩:=h2;rw [hs] at k2;have e1:cs=cs':=by
   have:=congrArg Value.cells k2;simpa [mkVal,Value.cells] using this
  subst e1;obtain ⟨ds',j1,j2⟩:=h3;have e2:ds=ds':=by
   have hl:=t.len j1;cases ha:t.agg with
   | true=>
    rw [ha] at j2;have:=congrArg Value.cells j2;simpa [mkVal,Value.cells] using this
   | false=>
    rw [ha] at j2;have hn:=t.sing ha;rw [hn] at h4 hl
    match ds,ds',h4,hl with
    | [c],[c'],_,_=>
     have:c=c':=j2;rw [this]
  subst e2;exact ⟨over cs o ds,(hF g' cs ds u v (s.mono e k1) (t.mono e j1)).2,by rw [hs']⟩)
end
theorem Le.is{α:Type}{s t:Ty α}(l:Le s t){u:α}{v:Value}{g:G}(h:(s.is u).holds v g):(t.is u).holds v g:=by
 obtain ⟨cs,h1,h2⟩:=h;exact ⟨cs,l.rep _ _ _ h1,by rw [←l.agg];exact h2⟩
section
variable {P:Program} {N:Nat} {g0:G} {T0:Nat→Prop} {ks:List KF} {B:Exit→Act→World→Prop} {env:Env} {res:Rs}
theorem WN.weakR{res':Rs}(hr:RSub res' res)(h:WN P N g0 T0 ks B env res'):WN P N g0 T0 ks B env res:=
 fun a g hst=>h a g ⟨hst.sz,hst.dfr,hst.henv,fun x hx=>hst.hres x (hr.mem x hx),hr.dis hst.dis,fun b ⟨x,hx,hb⟩=>hst.own b ⟨x,hr.mem x hx,hb⟩,hst.ext⟩
theorem WN.rekey{res':Rs}(e:res.map Prod.snd=res'.map Prod.snd)(h:WN P N g0 T0 ks B env res'):WN P N g0 T0 ks B env res:=
 fun a g hst=>h a g (hst.rekey e)
end
end Go.Dec
/-
  Slices of the call's own whose elements may still be written: what they are stands in the resource. Their elements' readings do not lean on memory.
-/
namespace Go.Dec
open Go
def Flat{α:Type}(t:Ty α):Prop:=∀ g g' cs x,t.rep g cs x→t.rep g' cs x
theorem Flat.I{k:IntKind}:Flat (tI k):=fun _ _ _ _ h=>h
def tU(k:Tok)(n:Nat):Asn:=⟨fun v _=>v= .slice k.addr n k.cap∧n≤k.cap∧n≤lim,fun _ h=>h⟩
def OwnU{α:Type}(t:Ty α)(E:TypeId)(k:Tok)(xs:List α):Res where
 blk:=fun x=>k.map Prod.fst=some x
 holds:=fun g=>match k with
  | none=>xs= []
  | some p=>∃ cur,g.w.heap[p.1]? =some (.cells cur E (0,0))∧cur.size=p.2*t.size∧xs.length≤p.2∧p.2≤maxLen∧g.S p.1=0∧Cells t g (cur.toList.take (xs.length*t.size)) xs
 stay:=fun {T g g'} e hn h=>by
  cases k with
  | none=>exact h
  | some p=>
   obtain ⟨cur,h1,h2,h3,h4,h5,h6⟩:=h;have hlt:p.1<g.w.heap.size:=(Array.getElem?_eq_some_iff.1 h1).1;have:=e.same p.1 hlt (hn p.1 rfl);exact ⟨cur,this.1.trans h1,h2,h3,h4,this.2.trans h5,h6.mono e⟩
 lt:=fun {g b} h hb=>by
  cases k with
  | none=>cases hb
  | some p=>
   obtain ⟨cur,h1,_⟩:=h;have hlt:p.1<g.w.heap.size:=(Array.getElem?_eq_some_iff.1 h1).1;cases hb;exact hlt
def G.fixd(g:G)(k:Tok)(s:Nat):G:=⟨g.w,fun x=>if k.map Prod.fst=some x then s else g.S x⟩
theorem OwnU.zero{α:Type}{t:Ty α}{E:TypeId}{k:Tok}{xs:List α}{g:G}(h:(OwnU t E k xs).holds g){b:Nat}(hb:k.map Prod.fst=some b):g.S b=0:=by
 cases k with
 | none=>cases hb
 | some p=>
  obtain ⟨cur,h1,h2,h3,h4,h5,h6⟩:=h;cases hb;exact h5
theorem OwnU.fixd{α:Type}{t:Ty α}{E:TypeId}{k:Tok}{xs:List α}{g:G}(h:(OwnU t E k xs).holds g) :
  Ext (fun b=>k.map Prod.fst=some b) g (g.fixd k (xs.length*t.size))∧(Own t E k xs.length).holds (g.fixd k (xs.length*t.size))∧Row t (g.fixd k (xs.length*t.size)) k.addr xs:=by
 have e:Ext (fun b=>k.map Prod.fst=some b) g (g.fixd k (xs.length*t.size)):=by
  refine ⟨rfl,rfl,rfl,Nat.le_refl _,fun x _ hn=>⟨rfl,?_⟩,fun x i v hv=>⟨?_,hv.2⟩,fun x n hv=>?_⟩
  ·show (if _ then _ else _)=_;rw [if_neg hn]
  ·show i<(if _ then _ else _);by_cases hx:k.map Prod.fst=some x
   ·have:=OwnU.zero h hx;have h2:=hv.1;omega
   ·rw [if_neg hx];exact hv.1
  ·by_cases hx:k.map Prod.fst=some x
   ·exact (hv.pos (OwnU.zero h hx)).elim
   ·refine hv.same rfl ?_;show g.S x≤if _ then _ else _;rw [if_neg hx];exact Nat.le_refl _
 refine ⟨e,?_⟩;cases k with
 | none=>
  have hx:xs= []:=h;subst hx;exact ⟨rfl,rfl⟩
 | some p=>
  obtain ⟨cur,h1,h2,h3,h4,h5,h6⟩:=h;have hS:(g.fixd (some p) (xs.length*t.size)).S p.1=xs.length*t.size:=if_pos rfl;refine ⟨⟨cur,h1,h2,h3,h4,hS⟩,(h6.mono e).row fun j v hj=>⟨?_,?_⟩⟩
  ·rw [hS];have:=(List.getElem?_eq_some_iff.1 hj).1;rw [h6.1] at this;omega
  ·show g.w.cell? ⟨p.1,0+j,none⟩=some v;rw [cell_of_row _ _ _ _ _ _ h1,Nat.zero_add];rw [List.getElem?_take] at hj;split at hj
   ·simpa using hj
   ·cases hj
theorem Ext.loose{T:Nat→Prop}{g g1:G}(e:Ext T g g1){k:Tok}(hk:∀ b,k.map Prod.fst=some b→(T b∧g.S b=0)∨g.w.heap.size≤b):Ext T g (g1.fixd k 0):=by
 refine ⟨e.os,e.tape,e.output,e.size,fun b hb hn=>⟨(e.same b hb hn).1,?_⟩,fun b i v hv=>⟨?_,(e.kept b i v hv).2⟩,fun b n hv=>(e.rows b n hv).same rfl ?_⟩
 ·show (if _ then _ else _)=_;by_cases h:k.map Prod.fst=some b
  ·rcases hk b h with h1 | h1
   ·exact absurd h1.1 hn
   ·omega
  ·rw [if_neg h];exact (e.same b hb hn).2
 ·show i<(if _ then _ else _);by_cases h:k.map Prod.fst=some b
  ·rcases hk b h with h1 | h1
   ·have:=hv.1;omega
   ·have:=hv.lt;omega
  ·rw [if_neg h];exact (e.kept b i v hv).1
 ·show g1.S b≤(if _ then _ else _);by_cases h:k.map Prod.fst=some b
  ·rcases hk b h with h1 | h1
   ·exact (hv.pos h1.2).elim
   ·have:=hv.lt;omega
  ·rw [if_neg h];exact Nat.le_refl _
theorem OwnU.loose{α:Type}{t:Ty α}(hF:Flat t){E:TypeId}{k:Tok}{xs:List α}{g:G}(h:(Own t E k xs.length).holds g)(hr:Row t g k.addr xs):(OwnU t E k xs).holds (g.fixd k 0):=by
 cases k with
 | none=>exact hr
 | some p=>
  obtain ⟨cur,h1,h2,h3,h4,h5⟩:=h;have hr:Row t g (some ⟨p.1,0,none⟩) xs:=hr;obtain ⟨olds,hoc,hoh⟩:=Row.cells hr.2;have hcl:cur.toList.length=cur.size:=by simp
  have hml:=Nat.mul_le_mul_right t.size h3;have heq:olds=cur.toList.take (xs.length*t.size):=by
   apply List.ext_getElem?;intro j;by_cases hj:j<olds.length
   ·have h1':=(hoh j _ (List.getElem?_eq_getElem hj)).2;rw [cell_of_row _ _ _ _ _ _ h1] at h1';rw [List.getElem?_eq_getElem hj,List.getElem?_take,if_pos (by rw [←hoc.1];exact hj)];simpa using h1'.symm
   ·rw [List.getElem?_eq_none (by omega),List.getElem?_eq_none (by rw [List.length_take,←hoc.1,hcl];omega)]
  refine ⟨cur,h1,h2,h3,h4,if_pos rfl,?_⟩;rw [←heq];exact ⟨hoc.1,hoc.2.1,fun i x hx=>let ⟨ds,k1,k2⟩:=hoc.2.2 i x hx;⟨ds,hF _ _ _ _ k1,k2⟩⟩
section
variable {P:Program} {N:Nat} {g0:G} {T0:Nat→Prop} {ks:List KF} {B:Exit→Act→World→Prop} {env:Env} {res:Rs} {d:Option Tmp} {ty:TypeId} {pos:String} {aft:Array Edge} {gd:Option (Nat×Bool)}
theorem vI{key:Nat}{R:Res}(hr:res.pick [key]= [(key,R)]):(key,R)∈res:=by
 have:(key,R)∈res.pick [key]:=by rw [hr];exact List.mem_singleton.2 rfl
 exact (List.mem_filter.1 this).1
theorem mG{key:Nat}{R:Res}(hr:res.pick [key]= [(key,R)])(b:Nat):(res.pick [key]).blks b ↔ R.blk b:=by
 rw [hr];constructor
 ·rintro ⟨y,hy,hb⟩;rw [List.mem_singleton.1 hy] at hb;exact hb
 ·intro hb;exact ⟨_,List.mem_singleton.2 rfl,hb⟩
theorem Op1.zA{k:Tok}{n:Nat}{x:Operand}{T e:TypeId}(hT:P.underlying T=some (.slice e))(h:Opd env x (tU k n):=by exact .tmp rfl) :
  Op1 P ⟨d,.call ⟨.builtin .len,#[x],#[T]⟩,ty,pos,aft,gd⟩ env res ((tI .i64).is (n:Int)):=
 Op1.same fun a g hc=>by
  obtain ⟨hv,_,h3⟩:=h a g hc.henv;exact ⟨.int .i64 n,by simp [execOp,resolve,invoke,builtin,Builtin.len_,run_underlying hT,hv,goInt],Asn.int (inRlen h3)⟩
theorem Gb{α:Type}{xs:List α}{i:Int}{u:α}(h:Dec.idx xs i=some u):0≤i∧i.toNat<xs.length∧xs[i.toNat]? =some u:=by
 unfold Dec.idx at h;split at h
 ·rename_i h0;exact ⟨h0,(List.getElem?_eq_some_iff.1 h).1,h⟩
 ·cases h
theorem Op1.idxU{α:Type}{t:Ty α}{T E:TypeId}{x y:Operand}{k:Tok}{xs:List α}{i:Int}{u:α}(h:Dec.idx xs i=some u)(hT:P.underlying T=some (.slice E))(hsz:∀ w,(sizeOf E).run P w= .ok t.size w)(hx:Opd env x (tU k xs.length):=by exact .tmp rfl)(hy:Opd env y ((tI .i64).is i):=by exact .tmp rfl) :
  Op1 P ⟨d,.indexAddr T x y,ty,pos,aft,gd⟩ env res (Bp (bk k) (i.toNat*t.size)):=
 Op1.same fun a g hc=>by
  obtain ⟨hv,h1,h2⟩:=hx a g hc.henv;have hi:=(hy.atInt hc).1;obtain ⟨q0,q1,_⟩:=Gb h;cases k with
  | none=>
   have:xs.length≤0:=h1;omega
  | some p=>
   refine ⟨.pointer (some ((⟨p.1,0,none⟩:Addr).add (i.toNat*t.size))),?_,?_⟩
   ·have hlt:i<(xs.length:Int):=by omega
    simp [execOp,Instr.indexAt,asIntOf,hv,hi,run_underlying hT,hsz,Tok.addr,q0,hlt]
   ·rw [Addr.add_lit,Nat.zero_add];rfl
theorem OwnU.cells{α:Type}{t:Ty α}{E:TypeId}{k:Tok}{xs:List α}{i:Nat}{u:α}{g:G}(h:(OwnU t E k xs).holds g)(hi:xs[i]? =some u):∃ cur ds,g.w.heap[bk k]? =some (.cells cur E (0,0))∧t.rep g ds u∧i*t.size+t.size≤cur.size∧ ∀ (j:Nat) v,ds[j]? =some v→cur[i*t.size+j]? =some v:=by
 cases k with
 | none=>
  have h:xs= []:=h;rw [h] at hi;cases hi
 | some p=>
  obtain ⟨cur,h1,h2,h3,h4,h5,h6⟩:=h;obtain ⟨ds,k1,k2⟩:=h6.2.2 i u hi;have hlt:=(List.getElem?_eq_some_iff.1 hi).1;refine ⟨cur,ds,h1,k1,?_,fun j v hj=>?_⟩
  ·have:=Nat.mul_le_mul_right t.size (show i+1≤p.2 by omega);rw [Nat.add_mul,Nat.one_mul] at this;omega
  ·have:=k2 j v hj;rw [List.getElem?_take] at this;split at this
   ·simpa using this
   ·cases this
theorem Op1.vJ{α:Type}{t:Ty α}{E:TypeId}{x:Operand}{k:Tok}{xs:List α}{i:Int}{u:α}(key:Nat)(h:Dec.idx xs i=some u)(ht:TyAt P E t)(hr:findR key res=some (OwnU t E k xs))(hx:Opd env x (Bp (bk k) (i.toNat*t.size)):=by exact .tmp rfl) :
  Op1 P ⟨d,.load E x,ty,pos,aft,gd⟩ env res (t.is u):=
 Op1.same fun a g hc=>by
  obtain ⟨_,_,q2⟩:=Gb h;obtain ⟨cur,ds,h1,k1,_,k3⟩:=OwnU.cells (hc.hres _ (bT hr)) q2;have hv:a.eval x= .pointer (some ⟨bk k,i.toNat*t.size,none⟩):=hx a g hc.henv;have:=iI (P:=P) ht.agg ht.size (w:=g.w) (b:=bk k) (o:=i.toNat*t.size) (t.len k1) t.sing (fun j v hj=>by
   rw [cell_of_row _ _ _ _ _ _ h1];exact k3 j v hj)
  exact ⟨mkVal t.agg ds,by simp [execOp,hv,Instr.loadAt,Instr.sureAddr,this],ds,k1,rfl⟩
theorem Ct{α:Type}{xs v:List α}{i:Int}{u:α}(h:setC xs i u=some v):0≤i∧i.toNat<xs.length∧v=xs.set i.toNat u:=by
 unfold setC at h;split at h
 ·rename_i hc;cases h;exact ⟨hc.1,hc.2,rfl⟩
 ·cases h
theorem nZ{α:Type}{xs v:List α}{i:Int}{u:α}(h:setC xs i u=some v):xs.length=v.length:=by
 rw [(Ct h).2.2];simp
theorem OpR.storeU{α:Type}{t:Ty α}{E:TypeId}{x y:Operand}{k:Tok}{xs v:List α}{i:Int}{u:α}{key:Nat}(h:setC xs i u=some v)(ht:TyAt P E t)(hx:Opd env x (Bp (bk k) (i.toNat*t.size)))(hy:Opd env y (t.is u))(hr:res.pick [key]= [(key,OwnU t E k xs)]) :
  OpR P ⟨none,.store E x y,ty,pos,aft,gd⟩ env res [key] (fun _:Unit=>Asn.any) (fun _=>[(key,OwnU t E k v)]):=by
 obtain ⟨hi0,hil,rfl⟩:=Ct h;intro a g K Q hc hd hK;have hres:(OwnU t E k xs).holds g:=hc.hres _ (vI hr);cases k with
 | none=>
  have hx:xs= []:=hres;rw [hx] at hil;simp at hil
 | some p=>
  obtain ⟨cur,h1,h2,h3,h4,h5,h6⟩:=hres;generalize i.toNat=m at hil hx hK ⊢;have hv:a.eval x= .pointer (some ⟨p.1,m*t.size,none⟩):=hx a g hc.henv;obtain ⟨ds,k1,k2⟩:=hy a g hc.henv;have hdl:=t.len k1;have hvc:(a.eval y).cells=ds.toArray:=by rw [k2];exact t.cells k1
  have hm1:=Nat.mul_le_mul_right t.size (show m+1≤xs.length by omega);have hm2:=Nat.mul_le_mul_right t.size h3;rw [Nat.add_mul,Nat.one_mul] at hm1;have hcl:cur.toList.length=p.2*t.size:=by simpa using h2
  have hrun:=mO (P:=P) (cur:=cur.toList) (ds:=ds) (v:=a.eval y) (o:=m*t.size) ht.size (by simpa using h1) hvc hdl (by omega) (t.one k1);have hex:(execOp a.eval ⟨none,.store E x y,ty,pos,aft,gd⟩).run P g.w= .ok .skip (g.w.setRow p.1 (over cur.toList (m*t.size) ds).toArray):=by
   simp [execOp,hv,Instr.storeAt,Instr.sureAddr,hrun]
  show Oper.upon P _ a K Q ((execOp a.eval _).run P g.w);rw [hex];have ho:m*t.size+ds.length≤cur.toList.length:=by omega
  let g':G:=⟨g.w.setRow p.1 (over cur.toList (m*t.size) ds).toArray,fun x=>if x=p.1 then 0 else g.S x⟩
  have e:Ext (fun x=>x=p.1) g g':=qi h1 (by omega) (fun i v hi _=>by omega) (fun h=>by omega);have hheap':g'.w.heap[p.1]? =some (.cells (over cur.toList (m*t.size) ds).toArray E (0,0)):=setRow_heap g.w p.1 cur _ E _ h1;refine hK () undef g' (e.mono (fun x hx=>(mG hr x).2 (by rw [show x=p.1 from hx];rfl))) trivial (fun y hy=>?_) (List.pairwise_singleton _ _) (fun b' hb'=>.inl ((mG hr b').2 ?_))
  ·rw [List.mem_singleton.1 hy];refine ⟨_,hheap',by rw [List.size_toArray,jL ho,hcl],by simpa using h3,h4,if_pos rfl,?_,?_,?_⟩
   ·rw [List.length_take,List.length_set,jL ho];omega
   ·intro c hcm;obtain ⟨j,hj⟩:=List.getElem?_of_mem hcm;rw [List.getElem?_take] at hj;split at hj
    ·rename_i hjl;simp only [List.length_set] at hjl;have hj:(over cur.toList (m*t.size) ds)[j]? =some c:=hj;rw [kJ ho] at hj;split at hj
     ·exact t.one k1 c (List.mem_of_getElem? hj)
     ·refine h6.2.1 c (List.mem_of_getElem? (i:=j) ?_);rw [List.getElem?_take,if_pos hjl];exact hj
    ·cases hj
   ·intro j z hz;by_cases hjm:j=m
    ·subst hjm;rw [List.getElem?_set_self hil] at hz;cases hz;refine ⟨ds,t.mono e k1,fun q w hq=>?_⟩;have hql:=(List.getElem?_eq_some_iff.1 hq).1;rw [List.getElem?_take,if_pos (by rw [List.length_set];omega)];show (over cur.toList (j*t.size) ds)[j*t.size+q]? =some w;rw [kJ ho,if_pos (by omega),show j*t.size+q-j*t.size=q by omega];exact hq
    ·rw [List.getElem?_set_ne (fun h=>hjm h.symm)] at hz;obtain ⟨es,q1,q2⟩:=h6.2.2 j z hz;refine ⟨es,t.mono e q1,fun q w hq=>?_⟩;have hql:=(List.getElem?_eq_some_iff.1 hq).1;have hel:=t.len q1;have h7:=q2 q w hq;rw [List.getElem?_take] at h7;split at h7
     ·rename_i hlt;rw [List.getElem?_take,if_pos (by rw [List.length_set];exact hlt)];show (over cur.toList (m*t.size) ds)[j*t.size+q]? =some w;rw [kJ ho,if_neg ?_]
      ·exact h7
      ·rcases Nat.lt_or_ge j m with hlt' | hge
       ·have:=Nat.mul_le_mul_right t.size (show j+1≤m by omega);rw [Nat.add_mul,Nat.one_mul] at this;omega
       ·have:=Nat.mul_le_mul_right t.size (show m+1≤j by omega);rw [Nat.add_mul,Nat.one_mul] at this;omega
     ·cases h7
  ·obtain ⟨y,hy,hyb⟩:=hb';rw [List.mem_singleton.1 hy] at hyb;exact hyb
end
section
variable {P:Program} {N:Nat} {g0:G} {T0:Nat→Prop} {ks:List KF} {B:Exit→Act→World→Prop} {env:Env} {res:Rs} {d:Option Tmp} {ty:TypeId} {pos:String} {aft:Array Edge} {gd:Option (Nat×Bool)}
theorem WN.zA{k:Tok}{n n':Nat}(slot:Nat)(hn:n=n')(hs:look slot env=some (tU k n))(h:WN P N g0 T0 ks B ((slot,tU k n') :: env) res):WN P N g0 T0 ks B env res:=by
 subst hn;intro a g hst;refine h a g ⟨hst.sz,hst.dfr,fun s A hA=>?_,hst.hres,hst.dis,hst.own,hst.ext⟩;by_cases hk:slot=s
 ·subst hk;rw [kT] at hA;cases hA;exact hst.henv slot _ hs
 ·rw [jU _ _ hk] at hA;exact hst.henv s A hA
end
end Go.Dec
/-
  Contracts of the shelf's, in these readings: Contains, Repeat.
-/
namespace Go.Dec
open Go Go.RowKit
theorem zB{P:Program}{f:FuncId}{b:Nat}
  (hsp:∀ (s sub:ByteArray) (m:Int) (w:World),s.size<4294967281→w.cell? ⟨b,0,none⟩=some (.int .i64 m)→
   Calls P f #[.string s,.string sub] w fun e w'=>e= .returned (.bool (Lib.contains s.data.toList sub.data.toList))∧w'=w)
  (key:Nat) (s sub:Str) (r:Bool) (hm:containsM s sub=some r):aG P f [tS.is s,tS.is sub] [(key,GlE b)] (fun _:Unit=>tB.is r) (fun _=>[]):=by
 unfold containsM at hm;split at hm
 ·rename_i hlen;cases hm;refine nY fun g vs hvs hr=>?_
  match vs,hvs with
  | [v1,v2],hvs=>
   obtain ⟨⟨_,⟨rfl,hl1⟩,rfl⟩,⟨_,⟨rfl,_⟩,rfl⟩,_⟩:=hvs;obtain ⟨m,_,hmx⟩:=hr _ List.mem_cons_self;have hsz:(str s).size=s.length:=by simp [str,ByteArray.size]
   refine (hsp (str s) (str sub) m g.w (by rw [hsz];exact hlen) hmx).mono ?_;rintro e w' ⟨rfl,rfl⟩;have e1:(str s).data.toList=s:=by simp [str]
   have e2:(str sub).data.toList=sub:=by simp [str]
   rw [e1,e2];exact ⟨_,rfl,Below.refl _ _,fun g'=>⟨_,rfl,rfl⟩⟩
 ·cases hm
theorem yC(l:Str):∀ c:Nat,(Lib.repeatL l c).length=l.length*c
 | 0=>rfl
 | c+1=>by rw [Lib.repeatL,List.length_append,yC l c,Nat.mul_succ];omega
theorem Cu{P:Program}{f:FuncId}
  (hsp:∀ (s:ByteArray) (c:Nat) (w:World),c≤9223372036854775807→s.size*c≤140737488355328→
   Calls P f #[.string s,.int .i64 c] w fun e w'=>e= .returned (.string ⟨(Lib.repeatL s.data.toList c).toArray⟩)∧Below w.heap.size w w')
  (s:Str) (n:Int) (r:Str) (hm:repeatM s n=some r):FSpec P f [tS.is s,(tI .i64).is n] (tS.is r):=by
 unfold repeatM at hm;split at hm
 ·rename_i h;cases hm;refine aG.pure (nY fun g vs hvs hr=>?_)
  match vs,hvs with
  | [v1,v2],hvs=>
   obtain ⟨⟨_,⟨rfl,hl1⟩,rfl⟩,⟨_,⟨rfl,hn⟩,rfl⟩,_⟩:=hvs;have hb:=inR64.1 hn;have hsz:(str s).size=s.length:=by simp [str,ByteArray.size]
   have hc:((n.toNat:Nat):Int)=n:=by omega
   have:=hsp (str s) n.toNat g.w (by omega) (by rw [hsz];exact h.2);rw [hc] at this;refine this.mono ?_;rintro e w' ⟨rfl,hbl⟩;have e1:(str s).data.toList=s:=by simp [str]
   rw [e1];exact ⟨_,rfl,hbl,fun g'=>⟨_,⟨rfl,by rw [yC];unfold lim;exact h.2⟩,rfl⟩⟩
 ·cases hm
end Go.Dec
/-
  Maps that are no longer written: plain values.
-/
namespace Go.Dec
open Go
theorem G.Full.map{g:G}{b:Nat}{es:Array MapEntry}{k:Nat}(h:g.Full b (.inr (es,k))):g.w.heap[b]? =some (.map es k):=by
 have hlt:=h.lt;rcases h.row (o:=g.w.heap[b]'hlt) (Array.getElem?_eq_getElem hlt) with ⟨_,_,_,_,e⟩ | ⟨es',k',ho,e,_⟩
 ·cases e
 ·cases e;rw [Array.getElem?_eq_getElem hlt,ho]
end Go.Dec
/-
  Maps whose values are slices of the call's own, grown in place: m[k] = append(m[k], x).
-/
namespace Go.Dec
open Go
def tMb{α β:Type}(b:Nat):Ty (List (α×β)) where
 size:=1
 agg:=false
 rep:=fun _ cs _=>cs= [.map (some b)]
 len:=fun h=>by rw [h];rfl
 one:=fun h c hc=>by
  rw [h] at hc;rw [List.mem_singleton.1 hc];rfl
 mono:=fun _ h=>h
 sing:=fun _=>rfl
section
variable {P:Program} {env:Env} {res:Rs}
theorem Opd.DV{α β:Type}{b:Nat}{x:Operand}{m:List (α×β)}(h:Opd env x (Mv b)):Opd env x ((tMb b).is m):=h.weak fun v g hv=>⟨[.map (some b)],rfl,hv⟩
theorem Op1.ofMb{α β:Type}{b:Nat}{m:List (α×β)}{o:Oper}(h:Op1 P o env res ((tMb b).is m)):Op1 P o env res (Mv b):=h.weak fun v g ⟨cs,h1,h2⟩=>by
 have h1:cs= [.map (some b)]:=h1;subst h1;exact h2
end
def CvT(g:G){α:Type}(s t:Ty α)(x y:α):Prop:=∀ cs,s.rep g cs x→t.rep g cs y
theorem CvT.pair{g:G}{α β:Type}{s s':Ty α}{t t':Ty β}{x y:α×β}(h:CvT g s s' x.1 y.1)(k:CvT g t t' x.2 y.2):CvT g (tP s t) (tP s' t') x y:=by
 rintro cs ⟨c1,c2,rfl,h1,h2⟩;exact ⟨c1,c2,rfl,h _ h1,k _ h2⟩
theorem CvT.mb{g:G}{α β:Type}{b:Nat}{x y:List (α×β)}:CvT g (tMb b) (tMb b) x y:=fun _ h=>h
theorem CvT.one{g:G}{α:Type}{s s':Ty α}{x y:α}(h:CvT g s s' x y):CvT g (tOne s) (tOne s') x y:=h
theorem CvT.map{g:G}{α β:Type}{t t':Ty β}{m:α→β}{x y:α}(h:CvT g t t' (m x) (m y)):CvT g (tMap t m) (tMap t' m) x y:=h
theorem CvT.same{g:G}{α:Type}{t:Ty α}{x:α}:CvT g t t x x:=fun _ h=>h
theorem CvT.is{g:G}{α:Type}{s t:Ty α}{x y:α}{v:Value}(ha:s.agg=t.agg)(h:CvT g s t x y)(hv:(s.is x).holds v g):(t.is y).holds v g:=by
 obtain ⟨cs,h1,h2⟩:=hv;exact ⟨cs,h _ h1,by rw [←ha];exact h2⟩
theorem CvT.at{g:G}{α:Type}{s t:Ty α}{x y:α}{v:Value}(h:CvT g s t x y)(hv:(s.ptr x).holds v g):(t.ptr y).holds v g:=by
 obtain ⟨b,o,h0,cs,h1,h2⟩:=hv;exact ⟨b,o,h0,cs,h _ h1,h2⟩
section
variable {P:Program} {N:Nat} {g0:G} {T0:Nat→Prop} {env:Env} {res:Rs}
theorem St.slotG{s:Nat}{A A':Asn}(hs:look s env=some A)(hA:∀ v g,res.all g→A.holds v g→A'.holds v g){a:Act}{g:G}(h:St N g0 T0 env res a g):St N g0 T0 ((s,A') :: env) res a g:=by
 refine ⟨h.sz,h.dfr,fun s' B hB=>?_,h.hres,h.dis,h.own,h.ext⟩;by_cases hk:s=s'
 ·subst hk;rw [kT] at hB;cases hB;exact hA _ _ h.hres (h.henv s _ hs)
 ·rw [jU _ _ hk] at hB;exact h.henv s' B hB
theorem W.slotG{c:Code}{ks:List KF}{B:Exit→Act→World→Prop}{A:Asn}(A':Asn)(s:Nat)(hs:look s env=some A)(hA:∀ v g,res.all g→A.holds v g→A'.holds v g)(k:W P N g0 T0 c ks B ((s,A') :: env) res):W P N g0 T0 c ks B env res:=fun a g h=>k a g (h.slotG hs hA)
theorem St.boxG{n:Nat}{agg:Bool}{T:TypeId}{A A':Asn}{b key:Nat}(h1:findR key res=some (Bx n agg T A b))(hA:∀ v g,res.all g→A.holds v g→A'.holds v g){a:Act}{g:G}(h:St N g0 T0 env res a g):St N g0 T0 env ((key,Bx n agg T A' b) :: res.drop [key]) a g:=by
 have m1:=bT h1;have hd:∀ y∈res.drop [key],y∈res∧y.1≠key:=fun y hy=>by
  have:=List.mem_filter.1 hy;refine ⟨this.1,fun e=>?_⟩;have h3:=this.2;rw [iN.2 (show y.1∈ [key] by rw [e];simp)] at h3;cases h3
 refine ⟨h.sz,h.dfr,h.henv,fun y hy=>?_,?_,fun b' ⟨y,hy,hb⟩=>?_,h.ext⟩
 ·rcases List.mem_cons.1 hy with rfl | hy
  ·obtain ⟨cs,q1,q2,q3,q4,q5,q6⟩:=h.hres _ m1;exact ⟨cs,q1,q2,q3,q4,q5,hA _ _ h.hres q6⟩
  ·exact h.hres y (hd y hy).1
 ·refine List.pairwise_cons.2 ⟨fun y hy b' hb'=>?_,h.dis.filter _⟩;exact h.dis.two _ m1 _ (hd y hy).1 (Ne.symm (hd y hy).2) b' hb'
 ·rcases List.mem_cons.1 hy with rfl | hy
  ·exact h.own b' ⟨_,m1,hb⟩
  ·exact h.own b' ⟨y,(hd y hy).1,hb⟩
theorem Rs.all.at{g:G}{key:Nat}{R:Res}(h:res.all g)(hr:findR key res=some R):R.holds g:=h _ (bT hr)
end
end Go.Dec
/-
  Loose slices whose elements' readings may lean on memory: append of one or more elements.
-/
namespace Go.Dec
open Go
section
variable {P:Program} {env:Env} {res:Rs} {d:Option Tmp} {ty:TypeId} {pos:String} {aft:Array Edge} {gd:Option (Nat×Bool)}
theorem OpR.appendL{α:Type}{t:Ty α}{E T:TypeId}{s x:Operand}{k:Tok}{xs ys v:List α}{key:Nat}(h:Dec.appC xs ys=some v)(hne:ys≠ [])(hT:P.underlying T=some (.slice E))(hE:ElAt P E t)(hs:Opd env s (tU k xs.length))(hx:Opd env x ((tL t).is ys))
  (hr:res.pick [key]= [(key,OwnU t E k xs)]) :
  OpR P ⟨d,.call ⟨.builtin .append,#[s,x],#[T,T]⟩,ty,pos,aft,gd⟩ env res [key] (fun k':Tok=>tU k' v.length) (fun k'=>[(key,OwnU t E k' v)]):=by
 obtain ⟨rfl,hl⟩:=vG h;intro a g K Q hc hd hK;obtain ⟨i,z,hi,hz,hsz,hby,hzs⟩:=hE.row;obtain ⟨hv,hc1,hl1⟩:=hs a g hc.henv;obtain ⟨p,c,hxv,hyc,hyl,hpn,hyrow⟩:=hx.atL hc;have hres:(OwnU t E k xs).holds g:=hc.hres _ (vI hr);have hlim:xs.length+ys.length≤lim:=by unfold r9 at hl;unfold lim;omega
 have hblk:∀ b,(res.pick [key]).blks b ↔ (k.map Prod.fst)=some b:=mG hr;have run:∀ v w',(Builtin.append_ #[T,T] ty #[a.eval s,a.eval x]).run P g.w= .ok v w'→K (a.put d v) w'→
   Oper.wp P ⟨d,.call ⟨.builtin .append,#[s,x],#[T,T]⟩,ty,pos,aft,gd⟩ a g.w K Q:=by
  intro v w' hrun hK';unfold Oper.wp execOp;simp only [resolve,invoke,builtin,Sem.run_bind,Sem.run_pure,Result.andThen_ok,List.map_toArray,List.map_cons,List.map_nil,hrun];exact hK'
 rw [hv,hxv] at run;have done:∀ (k':Tok) v g',Ext (res.pick [key]).blks g g'→(tU k' (xs++ys).length).holds v g'→(OwnU t E k' (xs++ys)).holds g'→(∀ b,(k'.map Prod.fst)=some b→(k.map Prod.fst)=some b∨g.w.heap.size≤b)→K (a.put d v) g'.w:=by
  intro k' v g' e h1 h2 h3;refine hK k' v g' e h1 (fun y hy=>by rw [List.mem_singleton.1 hy];exact h2) (List.pairwise_singleton _ _) ?_;rintro b ⟨y,hy,hb⟩;rw [List.mem_singleton.1 hy] at hb;rcases h3 b hb with h | h
  ·exact .inl ((hblk b).2 h)
  ·exact .inr h
 cases p with
 | none=>exact absurd hyrow hne
 | some ad=>
  obtain ⟨hsp,hyat⟩:=hyrow
  replace hsp:ad.spot=none:=hsp.resolve_left hne
  obtain ⟨bs,os,spot⟩:=ad;simp at hsp;subst hsp;obtain ⟨news,hnc,hnh⟩:=Row.cells hyat;have hypos:=List.length_pos_iff.2 hne;have hnl:news.length=ys.length*i.size:=by rw [hnc.1,hsz]
  have hnews:∀ (j:Nat) v,news[j]? =some v→g.w.cell? ((⟨bs,os,none⟩:Addr).add j)=some v:=fun j v hj=>by rw [Addr.add_lit];exact (hnh j v hj).2
  cases k with
  | none=>
   have hx0:xs= []:=hres;subst hx0;have h48:ys.length*i.bytes≤281474976710656:=by
    have:=Nat.mul_le_mul hl hby;unfold r9 at this;simp only [List.length_nil,Nat.zero_add] at this;omega
   have hrun:=run_append_nil (P:=P) g.w T ty E i z hT hi hz ⟨bs,os,none⟩ ys.length c news hnl hnews (by omega) (by unfold lim at hlim;simp at hlim;omega) h48;refine run _ _ hrun ?_;have hge:=grownCap_ge g.w ys.length 0 E;have hcm:grownCap g.w ys.length 0 E≤maxLen:=grownCap_le_maxLen g.w ys.length 0 E (by unfold lim at hlim;unfold maxLen;simp at hlim;omega);let cur:Array Value:=news.toArray++Builtin.zeroCells z.cells (grownCap g.w ys.length 0 E-ys.length);let g':G:=g.drew.alloc (.cells cur E) 0;have e:Ext No g g':=(Ext.drew No g).trans' (Ext.alloc No _ _ _);have hheap:g'.w.heap[g.w.heap.size]? =some (.cells cur E (0,0)):=heap_alloc_new g.w.drew _;refine done (some (g.w.heap.size,grownCap g.w ys.length 0 E)) _ g' e.no ⟨by simp [Tok.addr,Tok.cap],by simpa [Tok.cap] using hge,by simpa using hyl⟩ ?_ (fun b hb=>by simp at hb;exact .inr (by omega));refine ⟨cur,hheap,?_,by simpa using hge,hcm,?_,?_⟩
   ·simp only [cur,Array.size_append,List.size_toArray,size_zeroCells,hzs,hnc.1,←Nat.add_mul];congr 1;omega
   ·show (if g.w.heap.size=g.w.heap.size then _ else _)=_;rw [if_pos rfl]
   ·have:cur.toList.take (([]++ys).length*t.size)=news:=by simp only [cur,List.nil_append,Array.toList_append];rw [List.take_append_of_le_length (by simp [hnc.1])];simp [←hnc.1]
    rw [this];exact hnc.mono e
  | some q=>
   obtain ⟨cur,hheap,hcs,hncap,hcm,hS,hcl⟩:=hres;have hold:∀ (j:Nat) v,(cur.toList.take (xs.length*i.size))[j]? =some v→g.w.cell? ((⟨q.1,0,none⟩:Addr).add j)=some v:=fun j v hj=>by
    rw [Addr.add_lit,cell_of_row _ _ _ _ _ _ hheap];rw [List.getElem?_take] at hj;split at hj
    ·simpa using hj
    ·cases hj
   have holdl:(cur.toList.take (xs.length*i.size)).length=xs.length*i.size:=by
    have hcl:cur.toList.length=cur.size:=by simp
    rw [List.length_take,hcl];exact Nat.min_eq_left (by rw [hcs,hsz];exact Nat.mul_le_mul_right _ hncap)
   rw [←hsz] at hcl;by_cases hroom:xs.length+ys.length≤q.2
   ·have hfit:xs.length*i.size+news.length≤cur.size:=by rw [hnl,hcs,←hsz,←Nat.add_mul];exact Nat.mul_le_mul_right _ hroom
    have hrun:=run_append_room (P:=P) g.w T ty E i hT hi q.1 xs.length q.2 cur hheap ⟨bs,os,none⟩ ys.length c news hnl hnews hnc.2.1 hroom hfit;refine run _ _ hrun ?_;let new:Array Value:=(cur.toList.take (xs.length*i.size)++news++cur.toList.drop (xs.length*i.size+news.length)).toArray;let g':G:=⟨g.w.setRow q.1 new,fun x=>if x=q.1 then 0 else g.S x⟩
    have hnew:∀ i' v,i'< g.S q.1→cur[i']? =some v→new[i']? =some v:=by
     intro i' v h1 h2;rw [hS] at h1;omega
    have e:Ext (fun x=>x=q.1) g g':=qi hheap (by rw [hS];exact Nat.le_refl _) hnew (fun _=>by simp [new];omega);have e':Ext (res.pick [key]).blks g g':=e.mono fun x hx=>(hblk x).2 (by simp [hx]);have hheap':g'.w.heap[q.1]? =some (.cells new E (0,0)):=setRow_heap g.w q.1 cur new E _ hheap;refine done (some q) _ g' e' ⟨by simp [Tok.addr,Tok.cap],by simpa [Tok.cap] using hroom,by simpa using hlim⟩ ?_ (fun b hb=>.inl hb);refine ⟨new,hheap',?_,by simpa using hroom,hcm,?_,?_⟩
    ·simp only [new,List.size_toArray,List.length_append,holdl,List.length_drop,Array.length_toList];omega
    ·show (if q.1=q.1 then _ else _)=_;rw [if_pos rfl]
    ·have:new.toList.take ((xs++ys).length*t.size)=cur.toList.take (xs.length*i.size)++news:=by
      simp only [new];have hlen1:(cur.toList.take (xs.length*i.size)++news).length=(xs++ys).length*t.size:=by rw [List.length_append,holdl,hnl,←Nat.add_mul,List.length_append,hsz]
      rw [List.take_append_of_le_length (by rw [hlen1];exact Nat.le_refl _),←hlen1,List.take_length]
     rw [this];exact (hcl.mono e).append (hnc.mono e)
   ·have hfit2:Builtin.nextslicecap (xs.length+ys.length) q.2*i.bytes≤281474976710656:=growslice_fits (by omega) (by
     have:=Nat.mul_le_mul hl hby;unfold r9 at this;omega)
    have hrun:=run_append_grow (P:=P) g.w T ty E i z hT hi hz ⟨q.1,0,none⟩ xs.length q.2 _ holdl hold ⟨bs,os,none⟩ ys.length c news hnl hnews (by omega) (by unfold lim at hlim;omega) hfit2;refine run _ _ hrun ?_;have hge:=grownCap_ge g.w (xs.length+ys.length) q.2 E;have hcm':grownCap g.w (xs.length+ys.length) q.2 E≤maxLen:=grownCap_le_maxLen g.w _ q.2 E (by unfold lim at hlim;unfold maxLen;omega);let cur':Array Value:=(cur.toList.take (xs.length*i.size)).toArray++news.toArray++Builtin.zeroCells z.cells (grownCap g.w (xs.length+ys.length) q.2 E-(xs.length+ys.length));let g':G:=g.drew.alloc (.cells cur' E) 0;have e:Ext No g g':=(Ext.drew No g).trans' (Ext.alloc No _ _ _);have hheap':g'.w.heap[g.w.heap.size]? =some (.cells cur' E (0,0)):=heap_alloc_new g.w.drew _;refine done (some (g.w.heap.size,grownCap g.w (xs.length+ys.length) q.2 E)) _ g' e.no ⟨by simp [Tok.addr,Tok.cap],by simpa [Tok.cap] using hge,by simpa using hlim⟩ ?_ (fun b hb=>by simp at hb;exact .inr (by omega));refine ⟨cur',hheap',?_,by simpa using hge,hcm',?_,?_⟩
    ·have e1:(cur.toList.take (xs.length*i.size)).toArray.size=xs.length*t.size:=by rw [List.size_toArray,holdl,hsz]
     simp only [cur',Array.size_append,e1,List.size_toArray,hnc.1,size_zeroCells,hzs,←Nat.add_mul];congr 1;omega
    ·show (if g.w.heap.size=g.w.heap.size then _ else _)=_;rw [if_pos rfl]
    ·have:cur'.toList.take ((xs++ys).length*t.size)=cur.toList.take (xs.length*i.size)++news:=by
      simp only [cur',Array.toList_append];have hlen1:(cur.toList.take (xs.length*i.size)++news).length=(xs++ys).length*t.size:=by rw [List.length_append,holdl,hnl,←Nat.add_mul,List.length_append,hsz]
      rw [List.take_append_of_le_length (by rw [hlen1];exact Nat.le_refl _),←hlen1,List.take_length]
     rw [this];exact (hcl.mono e).append (hnc.mono e)
theorem OpR.loosen{α:Type}{t:Ty α}(hF:Flat t){E:TypeId}{o:Oper}{key:Nat}{xs:List α}(h:OpR P o env res [] (fun k:Tok=>tO t k xs) (fun k=>[(key,Own t E k xs.length)])) :
  OpR P o env res [] (fun k:Tok=>tU k xs.length) (fun k=>[(key,OwnU t E k xs)]):=by
 intro a g K Q hc hd hK;refine h a g K Q hc hd fun k v g1 e hv ho _ hob=>?_;have ho':(Own t E k xs.length).holds g1:=ho _ (List.mem_singleton.2 rfl);obtain ⟨hv1,hv2,hv3,hv4⟩:=hv;have hk:∀ b,k.map Prod.fst=some b→((res.pick []).blks b∧g.S b=0)∨g.w.heap.size≤b:=fun b hb=>by
  rcases hob b ⟨_,List.mem_singleton.2 rfl,hb⟩ with ⟨y,hy,_⟩ | h1
  ·have:=(List.mem_filter.1 hy).2;simp [memB] at this
  ·exact .inr h1
 refine hK k v (g1.fixd k 0) (e.loose hk) ⟨hv1,hv2,hv3⟩ (fun y hy=>?_) (List.pairwise_singleton _ _) ?_
 ·rw [List.mem_singleton.1 hy];exact OwnU.loose hF ho' hv4
 ·rintro b ⟨y,hy,hb⟩;rw [List.mem_singleton.1 hy] at hb;exact (hk b hb).imp (fun h=>h.1) id
end
def tUT{α:Type}(k:Tok):Ty (List α) where
 size:=1
 agg:=false
 rep:=fun _ cs xs=>cs= [.slice k.addr xs.length k.cap]∧xs.length≤k.cap∧xs.length≤lim
 len:=fun ⟨h,_⟩=>by rw [h];rfl
 one:=fun ⟨h,_⟩ c hc=>by
  rw [h] at hc;rw [List.mem_singleton.1 hc];rfl
 mono:=fun _ h=>h
 sing:=fun _=>rfl
section
variable {P:Program} {env:Env} {res:Rs}
theorem Op1.ofUT{α:Type}{k:Tok}{xs:List α}{o:Oper}(h:Op1 P o env res ((tUT k).is xs)):Op1 P o env res (tU k xs.length):=h.weak fun v g ⟨cs,⟨h1,h2,h3⟩,h4⟩=>by
 subst h1;exact ⟨h4,h2,h3⟩
end
end Go.Dec
/-
  Structs of which one field is the nil slice: what is appended there later is the call's own.
-/
namespace Go.Dec
open Go
end Go.Dec
/-
  Many resources under one key; one of them may be taken out and put back. Facts as resources. Loose slices that are cut behind.
-/
namespace Go.Dec
open Go
def Many(l:List Res):Res where
 blk:=fun x=>∃ R∈l,R.blk x
 holds:=fun g=>(∀ R∈l,R.holds g)∧l.Pairwise (fun (R R':Res)=>∀ b:Nat,R.blk b→¬ R'.blk b)
 stay:=fun e hn h=>⟨fun R hR=>R.stay e (fun b hb=>hn b ⟨R,hR,hb⟩) (h.1 R hR),h.2⟩
 lt:=fun h ⟨R,hR,hb⟩=>R.lt (h.1 R hR) hb
def Fact(p:Prop):Res where
 blk:=fun _=>False
 holds:=fun _=>p
 stay:=fun _ _ h=>h
 lt:=fun _ h=>h.elim
section
variable {P:Program} {N:Nat} {g0:G} {T0:Nat→Prop} {env:Env} {res:Rs}
theorem St.Gc{res':Rs}{a:Act}{g:G}(h:St N g0 T0 env res a g)(ha:res'.all g)(hd:res'.dis)(hb:∀ b,res'.blks b→res.blks b):St N g0 T0 env res' a g:=
 ⟨h.sz,h.dfr,h.henv,ha,hd,fun b hx=>h.own b (hb b hx),h.ext⟩
theorem Rs.vK{ks:List Nat}{y:Nat×Res}(h:y∈res.drop ks):y∈res∧y.1 ∉ ks:=by
 have:=List.mem_filter.1 h;refine ⟨this.1,fun e=>?_⟩;have h3:=this.2;rw [iN.2 e] at h3;cases h3
theorem St.turn{R R':Res}{key:Nat}(hr:findR key res=some R)(hh:∀ g,R.holds g→R'.holds g)(hb:∀ b,R'.blk b→R.blk b){a:Act}{g:G}(h:St N g0 T0 env res a g):St N g0 T0 env ((key,R') :: res.drop [key]) a g:=by
 have hin:=bT hr;have hd:∀ y∈res.drop [key],y∈res∧y.1≠key:=fun y hy=>by have:=Rs.vK hy;exact ⟨this.1,by simpa using this.2⟩
 refine h.Gc (fun x hx=>?_) (List.pairwise_cons.2 ⟨fun y hy b hbb=>?_,h.dis.filter _⟩) (fun b ⟨x,hx,hbx⟩=>?_)
 ·rcases List.mem_cons.1 hx with rfl | hx
  ·exact hh g (h.hres _ hin)
  ·exact h.hres x (hd x hx).1
 ·exact h.dis.two _ hin y (hd y hy).1 (Ne.symm (hd y hy).2) b (hb b hbb)
 ·rcases List.mem_cons.1 hx with rfl | hx
  ·exact ⟨_,hin,hb b hbx⟩
  ·exact ⟨x,(hd x hx).1,hbx⟩
theorem St.free{R:Res}(key:Nat)(hb:∀ b,¬ R.blk b){a:Act}{g:G}(hh:R.holds g)(h:St N g0 T0 env res a g):St N g0 T0 env ((key,R) :: res) a g:=
 h.Gc (fun x hx=>by rcases List.mem_cons.1 hx with rfl | hx;exact hh;exact h.hres x hx) (List.pairwise_cons.2 ⟨fun y hy b hbb=>absurd hbb (hb b),h.dis⟩)
  (fun b ⟨x,hx,hbx⟩=>by rcases List.mem_cons.1 hx with rfl | hx;exact absurd hbx (hb b);exact ⟨x,hx,hbx⟩)
variable {c:Code} {ks:List KF} {B:Exit→Act→World→Prop} {ops:Array Oper} {Q:Exit→Act→World→Prop} {l:List Oper}
theorem W.chg{env':Env}{res':Rs}(hr:∀ a g,St N g0 T0 env res a g→St N g0 T0 env' res' a g)(h:W P N g0 T0 c ks B env' res'):W P N g0 T0 c ks B env res:=fun a g hst=>h a g (hr a g hst)
theorem WN.chg{env':Env}{res':Rs}(hr:∀ a g,St N g0 T0 env res a g→St N g0 T0 env' res' a g)(h:WN P N g0 T0 ks B env' res'):WN P N g0 T0 ks B env res:=fun a g hst=>h a g (hr a g hst)
theorem W.know{p:Prop}(hp:∀ a g,St N g0 T0 env res a g→p)(h:p→W P N g0 T0 c ks B env res):W P N g0 T0 c ks B env res:=fun a g hst=>h (hp a g hst) a g hst
theorem St.slotA{s:Nat}{A A':Asn}(hs:look s env=some A)(hA:∀ v g,A.holds v g→A'.holds v g){a:Act}{g:G}(h:St N g0 T0 env res a g):St N g0 T0 ((s,A') :: env) res a g:=
 h.slotG hs (fun v g _ hv=>hA v g hv)
theorem Row.mapT{α β:Type}{t:Ty β}{f:α→β}{g:G}{p:Option Addr}{xs:List α}(h:Row t g p (xs.map f)):Row (tMap t f) g p xs:=by
 cases p with
 | none=>exact List.map_eq_nil_iff.1 h
 | some a=>
  refine ⟨h.1.imp (fun e=>List.map_eq_nil_iff.1 e) id,fun i x hx=>?_⟩;exact h.2 i (f x) (by rw [List.getElem?_map,hx];rfl)
theorem IE{α β:Type}{t:Ty β}{f:α→β}{k:Tok}{xs:List α}{v:Value}{g:G}(h:(tO t k (xs.map f)).holds v g):(tO (tMap t f) k xs).holds v g:=by
 obtain ⟨h1,h2,h3,h4⟩:=h;rw [List.length_map] at h1 h2 h3;exact ⟨h1,h2,h3,h4.mapT⟩
theorem IG{α β:Type}{t:Ty β}{f:α→β}{xs:List α}{v:Value}{g:G}(h:((tL t).is (xs.map f)).holds v g):((tL (tMap t f)).is xs).holds v g:=by
 obtain ⟨cs,⟨p,c,h1,h2,h3,h4,h5⟩,h6⟩:=h;rw [List.length_map] at h1 h2 h3;exact ⟨cs,⟨p,c,h1,h2,h3,h4,h5.mapT⟩,h6⟩
theorem OpR.bsMap{P:Program}{env:Env}{res:Rs}{o:Oper}{us:List Nat}{α β:Type}{t:Ty β}{f:α→β}{xs:List α}{E:TypeId}{key:Nat}(h:OpR P o env res us (fun k:Tok=>tO t k (xs.map f)) (fun k=>[(key,Own t E k (xs.map f).length)])) :
  OpR P o env res us (fun k:Tok=>tO (tMap t f) k xs) (fun k=>[(key,Own (tMap t f) E k xs.length)]):=by
 intro a g K Q hc hd hK;refine h a g K Q hc hd fun k v g1 e hv ho hod hob=>hK k v g1 e (IE hv) (fun y hy=>?_) (List.pairwise_singleton _ _) ?_
 ·rw [List.mem_singleton.1 hy];have:=ho _ (List.mem_singleton.2 rfl);rw [List.length_map] at this;exact this
 ·rintro b ⟨y,hy,hb⟩;rw [List.mem_singleton.1 hy] at hb;exact hob b ⟨_,List.mem_singleton.2 rfl,hb⟩
theorem Bx.le{α:Type}{s t:Ty α}(l:Le s t){n:Nat}{agg:Bool}{T:TypeId}{u:α}{b:Nat}{g:G}(h:(Bx n agg T (s.is u) b).holds g):(Bx n agg T (t.is u) b).holds g:=by
 obtain ⟨cs,h1,h2,h3,h4,h5,h6⟩:=h;exact ⟨cs,h1,h2,h3,h4,h5,l.is h6⟩
theorem Cells.take{α:Type}{t:Ty α}{g:G}{cs:List Value}{xs:List α}(j:Nat)(hj:j≤xs.length)(h:Cells t g cs xs):Cells t g (cs.take (j*t.size)) (xs.take j):=by
 obtain ⟨h1,h2,h3⟩:=h;have hm:=Nat.mul_le_mul_right t.size hj;refine ⟨by rw [List.length_take,List.length_take,h1,Nat.min_eq_left hm,Nat.min_eq_left hj],fun c hc=>h2 c (List.mem_of_mem_take hc),fun i x hx=>?_⟩;rw [List.getElem?_take] at hx;split at hx
 ·rename_i hij;obtain ⟨ds,k1,k2⟩:=h3 i x hx;refine ⟨ds,k1,fun q v hq=>?_⟩;have hql:=(List.getElem?_eq_some_iff.1 hq).1;rw [t.len k1] at hql;have:=Nat.mul_le_mul_right t.size (show i+1≤j by omega);rw [Nat.add_mul,Nat.one_mul] at this;rw [List.getElem?_take,if_pos (by omega)];exact k2 q v hq
 ·cases hx
theorem OwnU.take{α:Type}{t:Ty α}{E:TypeId}{k:Tok}{xs:List α}{g:G}(j:Nat)(hj:j≤xs.length)(h:(OwnU t E k xs).holds g):(OwnU t E k (xs.take j)).holds g:=by
 cases k with
 | none=>
  have h:xs= []:=h;show xs.take j= [];rw [h];simp
 | some p=>
  obtain ⟨cur,h1,h2,h3,h4,h5,h6⟩:=h;have hm:=Nat.mul_le_mul_right t.size hj;refine ⟨cur,h1,h2,by rw [List.length_take];omega,h4,h5,?_⟩;have:=h6.take j hj;rw [List.take_take,Nat.min_eq_left hm] at this;rw [List.length_take,Nat.min_eq_left hj];exact this
end
section
variable {P:Program} {env:Env} {res:Rs} {d:Option Tmp} {ty:TypeId} {pos:String} {aft:Array Edge} {gd:Option (Nat×Bool)}
theorem Op1.sliceUhi{kk:IntKind}{k:Tok}{n m:Nat}{x y:Operand}{j:Int}{T e:TypeId}{sz:Nat}(hT:P.underlying T=some (.slice e))(hsz:∀ w,(sizeOf e).run P w= .ok sz w)(hx:Opd env x (tU k n))(hy:Opd env y ((tI kk).is j))(h0:0≤j)(h1:j≤n)(hm:m=j.toNat) :
  Op1 P ⟨d,.slice T x none (some y) none,ty,pos,aft,gd⟩ env res (tU k m):=
 Op1.same fun a g hc=>by
  obtain ⟨hv,h2,h3⟩:=hx a g hc.henv;have hyv:=(hy.atInt hc).1;subst hm;have hb:(Instr.sliceBounds true n k.cap none (some (a.eval y)) none).run P g.w= .ok (0,j.toNat,k.cap) g.w:=by
   rw [hyv];have h5:j.toNat≤k.cap:=by omega
   simp [Instr.sliceBounds,Instr.sliceBound,asIntOf,h0,h5];omega
  refine ⟨.slice k.addr j.toNat k.cap,?_,rfl,by omega,by omega⟩;simp [execOp,hv,Instr.sliceAt,Instr.slice,run_underlying hT,hb,hsz];intro _;cases k with
  | none=>rfl
  | some p=>simp [Tok.addr,Addr.add]
end
end Go.Dec
/-
  Unsigned numbers of 64 bits; slices of arrays; slices made of zeros; errors that are nil or not; pointers to variables of one's own, in cells.
-/
namespace Go.Dec
open Go
section
variable {P:Program} {env:Env} {res:Rs} {d:Option Tmp} {ty:TypeId} {pos:String} {aft:Array Edge} {gd:Option (Nat×Bool)}
theorem OpR.makeSlice{α:Type}{t:Ty α}{z:α}{xs:List α}{n:Int}{x y:Operand}{T E:TypeId}{k:IntKind}(key:Nat)(h:makeC z n=some xs)(hT:P.underlying T=some (.slice E))(hE:ElAt P E t)(hz:eT P E t z)(hx:Opd env x ((tI .i64).is n):=by exact .tmp rfl)(hy:Opd env y ((tI .i64).is n):=by exact .tmp rfl) :
  OpR P ⟨d,.makeSlice T x y,ty,pos,aft,gd⟩ env res [] (fun k:Tok=>tO t k xs) (fun k=>[(key,Own t E k xs.length)]):=by
 intro a g K Q hc hd hK;unfold makeC at h;split at h
 case isFalse=>cases h
 rename_i hn;cases h;obtain ⟨i,z0,r1,r2,r3,r4,r5⟩:=hE.row;obtain ⟨v,hv,hzr⟩:=hz.zero;have hvz:v=z0:=by
  have:=hv g.w;simp [zeroValue,typeInfo,r1,r2] at this;exact this.symm
 subst hvz;obtain ⟨cs0,hcs0,hv0⟩:=hzr g;have hvc:v.cells=cs0.toArray:=by rw [hv0];exact t.cells hcs0
 have hl0:=t.len hcs0;have hbytes:(i.bytes:Int)*n≤281474976710656:=by
  have h1:(i.bytes:Int)*n≤512*n:=Int.mul_le_mul_of_nonneg_right (by omega) hn.1;omega
 have hx1:=(hx.atInt hc).1;have hy1:=(hy.atInt hc).1;have hmk:Cells t g (madeCells v.cells (n.toNat*i.size)).toList (List.replicate n.toNat z):=by
  unfold madeCells;rw [hvc,r3,←hl0,oJ];exact Cells.replicate hcs0 n.toNat
 have hrun:=run_make (P:=P) g.w T E i v hT r1 r2 .i64 .i64 n n hn.1 (Int.le_refl _) hbytes (by omega);unfold Oper.wp execOp;simp only [Sem.run_bind,hx1,hy1,hrun,Result.andThen_ok,Sem.run_pure];let g':G:=g.alloc (.cells (madeCells v.cells (n.toNat*i.size)) E) (n.toNat*t.size);have e:Ext No g g':=Ext.alloc No _ _ _;have hheap:g'.w.heap[g.w.heap.size]? =some (.cells (madeCells v.cells (n.toNat*i.size)) E (0,0)):=heap_alloc_new g.w _;have hcl:(madeCells v.cells (n.toNat*i.size)).size=n.toNat*t.size:=by rw [size_madeCells,r3]
 have hnlim:n.toNat≤lim:=by unfold lim;omega
 refine hK (some (g.w.heap.size,n.toNat)) (.slice (some ⟨g.w.heap.size,0,none⟩) n.toNat n.toNat) g' e.no ?_ ?_ (List.pairwise_singleton _ _) ?_
 ·refine ⟨by simp [Tok.addr,Tok.cap],by simp [Tok.cap],by simpa using hnlim,?_⟩;show Row t g' (some ⟨g.w.heap.size,0,none⟩) (List.replicate n.toNat z);refine (hmk.mono e).row fun j v hj=>⟨?_,?_⟩
  ·show 0+j<(if g.w.heap.size=g.w.heap.size then _ else _);rw [if_pos rfl];have:=(List.getElem?_eq_some_iff.1 hj).1;simp [size_madeCells,r3] at this;omega
  ·rw [cell_of_row _ _ _ _ _ _ hheap,Nat.zero_add];simpa using hj
 ·intro y hy;rw [List.mem_singleton.1 hy];refine ⟨_,hheap,hcl,by simp,by unfold maxLen;unfold lim at hnlim;omega,?_⟩;show (if g.w.heap.size=g.w.heap.size then _ else _)=_;rw [if_pos rfl];simp
 ·rintro b ⟨y,hy,hb⟩;rw [List.mem_singleton.1 hy] at hb;simp [Own] at hb;exact .inr (by omega)
def tEb:Ty Bool where
 size:=1
 agg:=false
 rep:=fun _ cs x=>match x with
  | false=>cs= [.nilIface]
  | true=>∃ T v,cs= [.iface T v]
 len:=fun {g cs x} h=>by
  cases x with
  | false=>rw [h];rfl
  | true=>obtain ⟨_,_,h⟩:=h;rw [h];rfl
 one:=fun {g cs x} h c hc=>by
  cases x with
  | false=>rw [h] at hc;rw [List.mem_singleton.1 hc];rfl
  | true=>obtain ⟨_,_,h⟩:=h;rw [h] at hc;rw [List.mem_singleton.1 hc];rfl
 mono:=fun _ h=>h
 sing:=fun _=>rfl
open Go.RowKit in
theorem DW{P:Program}{f:FuncId}{b1 b2:Nat}{T E U:TypeId}
  (hok:∀ (s:ByteArray),s.size≤9223372036854775806→∀ (v:Int),Lib.atoiAll s.data.toList= .ok v→∀ w:World,Calls P f #[.string s] w fun e w'=>e= .returned (.tuple #[.int .i64 v,.nilIface])∧(w'=w∨ ∃ t,w'=Lib.bytesWorld w U t))
  (hsy:∀ (s:ByteArray),s.size≤281474976710656→Lib.atoiAll s.data.toList=Lib.NumEnd.syntax→∀ (ev:Value) (w:World),w.cell? ⟨b1,0,none⟩=some ev→(ev= .nilIface∨ ∃ te pe,ev= .iface te pe)→
   Calls P f #[.string s] w fun e w'=>∃ N,e= .returned (.tuple #[.int .i64 0,.iface T (.pointer (some ⟨N,0,none⟩))])∧w.heap.size≤N∧w'.heap[N]? =some (.cells #[.string ⟨#[65,116,111,105]⟩,.string s,ev] E (0,0))∧Below w.heap.size w w')
  (hra:∀ (s:ByteArray),s.size≤281474976710656→Lib.atoiAll s.data.toList= .range→∀ (ev:Value) (w:World),w.cell? ⟨b2,0,none⟩=some ev→(ev= .nilIface∨ ∃ te pe,ev= .iface te pe)→
   Calls P f #[.string s] w fun e w'=>∃ N,e= .returned (.tuple #[.int .i64 (Lib.atoiSat s.data.toList),.iface T (.pointer (some ⟨N,0,none⟩))])∧w.heap.size≤N∧w'.heap[N]? =some (.cells #[.string ⟨#[65,116,111,105]⟩,.string s,ev] E (0,0))∧Below w.heap.size w w')
  (k1 k2:Nat) (s:Str) (r:Int×Bool) (hm:atoiB s=some r):aG P f [tS.is s] [(k1,GlI b1),(k2,GlI b2)] (fun _:Unit=>Asn.tuple2 ((tI .i64).is r.1) (tEb.is r.2)) (fun _=>[]):=by
 unfold atoiB at hm;split at hm
 ·rename_i hlen;have hm:=Option.some.inj hm;refine nY fun g vs hvs hr=>?_
  match vs,hvs with
  | [v1],hvs=>
   obtain ⟨⟨_,⟨rfl,hl1⟩,rfl⟩,_⟩:=hvs;obtain ⟨e1,⟨_,h1⟩,q1⟩:=hr _ List.mem_cons_self;obtain ⟨e2,⟨_,h2⟩,q2⟩:=hr _ (List.mem_cons_of_mem _ List.mem_cons_self);have hsz:(str s).size=s.length:=by simp [str,ByteArray.size]
   cases ha:Lib.atoiAll s with
   | ok v=>
    rw [ha] at hm;subst hm;have hbd:=Lib.atoiAll_bounds ha;refine (hok (str s) (by rw [hsz];omega) v (by simpa [str] using ha) g.w).mono ?_;rintro e w' ⟨rfl,hw⟩;refine ⟨_,rfl,?_,fun g'=>⟨_,_,rfl,⟨_,⟨rfl,inR64.2 (by omega)⟩,rfl⟩,_,rfl,rfl⟩⟩;rcases hw with rfl | ⟨t,rfl⟩
    ·exact Below.refl _ _
    ·exact Lib.bytesWorld_below _ _ _
   | range=>
    rw [ha] at hm;subst hm;have hst:Lib.atoiSat (str s).data.toList=Lib.atoiSat s:=by simp [str]
    refine (hra (str s) (by rw [hsz];omega) (by simpa [str] using ha) e2 g.w h2 q2).mono ?_;rintro e w' ⟨N,rfl,_,_,hb⟩;rw [hst];refine ⟨_,rfl,hb,fun g'=>⟨_,_,rfl,⟨_,⟨rfl,inR64.2 ?_⟩,rfl⟩,_,⟨_,_,rfl⟩,rfl⟩⟩;show -9223372036854775808≤Lib.atoiSat s∧Lib.atoiSat s≤9223372036854775807;unfold Lib.atoiSat;split<;> omega
   | _=>
    rw [ha] at hm;subst hm;refine (hsy (str s) (by rw [hsz];omega) (by simpa [str] using ha) e1 g.w h1 q1).mono ?_;rintro e w' ⟨N,rfl,_,_,hb⟩;exact ⟨_,rfl,hb,fun g'=>⟨_,_,rfl,⟨_,⟨rfl,inR64.2 (by show -9223372036854775808≤(0:Int)∧(0:Int)≤9223372036854775807;omega)⟩,rfl⟩,_,⟨_,_,rfl⟩,rfl⟩⟩
 ·cases hm
end
section
variable {P:Program} {env:Env} {res:Rs} {d:Option Tmp} {ty:TypeId} {pos:String} {aft:Array Edge} {gd:Option (Nat×Bool)}
theorem Gd{T:TypeId}{ms:_}(hT:P.underlying T=some (.interface ms))(op:BinOp)(b:Bool)(v:Value)(hv:tEb.rep ⟨default,fun _=>0⟩ [v] b)(w:World)(x:Operand) :
  (op= .eql→eqGuard op T x (.const .nilIface) v .nilIface=pure ()∧(binOp op T v .nilIface).run P w= .ok (.bool (!b)) w)∧(op= .neq→eqGuard op T x (.const .nilIface) v .nilIface=pure ()∧(binOp op T v .nilIface).run P w= .ok (.bool b) w):=by
 have h2:(Op.equal T v .nilIface).run P w= .ok (!b) w:=by
  have h:∀ d,(Op.equalIn (d+1) T v .nilIface).run P w= .ok (!b) w:=by
   intro d;cases b with
   | false=>have hv:[v]= [.nilIface]:=hv;cases hv;simp [Op.equalIn,run_underlying hT]
   | true=>obtain ⟨U,y,hv⟩:=hv;cases hv;simp [Op.equalIn,run_underlying hT]
  exact h 9999
 have hg:∀ op,eqGuard op T x (.const .nilIface) v .nilIface=pure ():=by
  intro op;cases b with
  | false=>have hv:[v]= [.nilIface]:=hv;cases hv;simp [eqGuard]
  | true=>obtain ⟨U,y,hv⟩:=hv;cases hv;simp [eqGuard]
 have hb:(binOp .eql T v .nilIface).run P w= .ok (.bool (!b)) w∧(binOp .neq T v .nilIface).run P w= .ok (.bool b) w:=by
  cases b with
  | false=>have hv:[v]= [.nilIface]:=hv;cases hv;constructor<;> (simp only [binOp];simp [h2])
  | true=>obtain ⟨U,y,hv⟩:=hv;cases hv;constructor<;> (simp only [binOp];simp [h2])
 exact ⟨fun e=>by subst e;exact ⟨hg _,hb.1⟩,fun e=>by subst e;exact ⟨hg _,hb.2⟩⟩
theorem Op1.neNilE{T T':TypeId}{x:Operand}{b:Bool}{ms:_}(hT:P.underlying T=some (.interface ms))(hx:Opd env x (tEb.is b):=by exact .tmp rfl):Op1 P ⟨d,.binOp .neq T x (.const .nilIface) T',ty,pos,aft,gd⟩ env res (tB.is b):=
 Op1.same fun a g hc=>by
  obtain ⟨cs,h1,h2⟩:=hx a g hc.henv;obtain ⟨v,rfl⟩:∃ v,cs= [v]:=by have:=tEb.len h1;match cs,this with | [v],_=>exact ⟨v,rfl⟩
  have hr:=(Gd hT .neq b v h1 g.w x).2 rfl;exact ⟨.bool b,nW h2 rfl hr.1 hr.2,Asn.bool⟩
end
end Go.Dec
/-
  A tree that grows along its last branch: in the slice of each level the last element may still be written; those ahead of it are sealed.
-/
namespace Go.Dec
open Go
def Lv{α:Type}(tx t:Ty α)(E:TypeId)(k:Tok)(xs:List α)(u:α):Res where
 blk:=fun x=>k.map Prod.fst=some x
 holds:=fun g=>match k with
  | none=>False
  | some p=>∃ cur ds,g.w.heap[p.1]? =some (.cells cur E (0,0))∧cur.size=p.2*t.size∧xs.length+1≤p.2∧p.2≤maxLen∧g.S p.1=xs.length*t.size∧Row t g (some ⟨p.1,0,none⟩) xs∧
    tx.size=t.size∧tx.rep g ds u∧ ∀ (j:Nat) v,ds[j]? =some v→cur[xs.length*t.size+j]? =some v
 stay:=fun {T g g'} e hn h=>by
  cases k with
  | none=>exact h
  | some p=>
   obtain ⟨cur,ds,h1,h2,h3,h4,h5,h6,h7,h8,h9⟩:=h;have hlt:p.1<g.w.heap.size:=(Array.getElem?_eq_some_iff.1 h1).1;have:=e.same p.1 hlt (hn p.1 rfl);exact ⟨cur,ds,this.1.trans h1,h2,h3,h4,this.2.trans h5,h6.mono e,h7,tx.mono e h8,h9⟩
 lt:=fun {g b} h hb=>by
  cases k with
  | none=>cases hb
  | some p=>
   obtain ⟨cur,ds,h1,_⟩:=h;have hlt:p.1<g.w.heap.size:=(Array.getElem?_eq_some_iff.1 h1).1;cases hb;exact hlt
structure Spk {α:Type} (tx:Tok→Ty α) (t:Ty α) (kids:α→List α) (sk:α→List α→α):Prop where
 size:∀ k,(tx k).size=t.size
 agg:∀ k,(tx k).agg=t.agg
 clo:∀ {g:G} {k:Tok} {u:α} {ys:List α} {ds:List Value},(tx k).rep g ds u→(kids u).length=ys.length→Row t g k.addr ys→t.rep g ds (sk u ys)
theorem Row.snoc{α:Type}{t:Ty α}{g:G}{b:Nat}{xs:List α}{x:α}(h:Row t g (some ⟨b,0,none⟩) xs)(hx:t.At g b (xs.length*t.size) x):Row t g (some ⟨b,0,none⟩) (xs++ [x]):=by
 refine ⟨.inr rfl,fun i y hy=>?_⟩;by_cases hi:i<xs.length
 ·rw [List.getElem?_append_left hi] at hy;exact h.2 i y hy
 ·rw [List.getElem?_append_right (by omega)] at hy;have hi0:i=xs.length:=by have:=(List.getElem?_eq_some_iff.1 hy).1;simp at this;omega
  subst hi0;simp at hy;subst hy;show t.At g b (0+xs.length*t.size) x;rw [Nat.zero_add];exact hx
theorem Lv.shut{α:Type}{tx:Tok→Ty α}{t:Ty α}{kids:α→List α}{sk:α→List α→α}(hS:Spk tx t kids sk){E:TypeId}{k kl:Tok}{xs ys:List α}{u:α}{g:G}(h:(Lv (tx kl) t E k xs u).holds g)(hl:(kids u).length=ys.length)(hr:Row t g kl.addr ys) :
  Ext (fun b=>k.map Prod.fst=some b) g (g.fixd k ((xs.length+1)*t.size))∧(Grown t E k (xs++ [sk u ys])).holds (g.fixd k ((xs.length+1)*t.size)):=by
 cases k with
 | none=>exact h.elim
 | some p=>
  obtain ⟨cur,ds,h1,h2,h3,h4,h5,h6,h7,h8,h9⟩:=h;have hSe:(g.fixd (some p) ((xs.length+1)*t.size)).S p.1=(xs.length+1)*t.size:=if_pos rfl;have hle:g.S p.1≤(xs.length+1)*t.size:=by rw [h5];exact Nat.mul_le_mul_right _ (by omega)
  have e:Ext (fun b=>(some p:Tok).map Prod.fst=some b) g (g.fixd (some p) ((xs.length+1)*t.size)):=by
   refine ⟨rfl,rfl,rfl,Nat.le_refl _,fun x _ hn=>⟨rfl,?_⟩,fun x i v hv=>⟨?_,hv.2⟩,fun x n hv=>hv.same rfl ?_⟩
   ·show (if _ then _ else _)=_;rw [if_neg hn]
   ·show i<(if _ then _ else _);by_cases hx:(some p:Tok).map Prod.fst=some x
    ·rw [if_pos hx];have hpx:p.1=x:=Option.some.inj hx;have:=hv.1;rw [←hpx] at this;omega
    ·rw [if_neg hx];exact hv.1
   ·show g.S x≤if _ then _ else _;by_cases hx:(some p:Tok).map Prod.fst=some x
    ·rw [if_pos hx];have hpx:p.1=x:=Option.some.inj hx;rw [←hpx];exact hle
    ·rw [if_neg hx];exact Nat.le_refl _
  have hds:ds.length=t.size:=by rw [(tx kl).len h8,hS.size]
  refine ⟨e,⟨cur,h1,h2,by simpa using h3,h4,by rw [hSe];simp⟩,(h6.mono e).snoc ⟨ds,t.mono e (hS.clo h8 hl hr),fun j v hj=>⟨?_,?_⟩⟩⟩
  ·rw [hSe,Nat.add_mul,Nat.one_mul];have:=(List.getElem?_eq_some_iff.1 hj).1;omega
  ·show g.w.cell? ⟨p.1,xs.length*t.size+j,none⟩=some v;rw [cell_of_row _ _ _ _ _ _ h1];exact h9 j v hj
section
variable {α:Type} (tx:Tok→Ty α) (t:Ty α) (E:TypeId) (kids:α→List α) (sk:α→List α→α)
def spR(kl:Tok):List Tok→List (List α×α)→List Res
 | k :: ks,(xs,u) :: sp=>Lv (tx (ks.headD kl)) t E k xs u :: spR kl ks sp
 | _,_=>[]
def spV:List (List α×α)→List α
 | []=>[]
 | (xs,u) :: sp=>xs++ [sk u (spV sp)]
def Chn:List (List α×α)→Prop
 | []=>True
 | [(xs,u)]=>kids u= []
 | (xs,u) :: (ys,w) :: sp=>(kids u).length=ys.length+1∧Chn ((ys,w) :: sp)
end
section
variable {α:Type} {tx:Tok→Ty α} {t:Ty α} {E:TypeId} {kids:α→List α} {sk:α→List α→α}
theorem Hz{sp:List (List α×α)}{xs:List α}{u:α}(h:∃ r,sp=(xs,u) :: r):(spV sk sp).length=xs.length+1:=by
 obtain ⟨r,rfl⟩:=h;simp [spV]
theorem Chn.cons{xs:List α}{u:α}{sp:List (List α×α)}(h:Chn kids ((xs,u) :: sp)):Chn kids sp∧(kids u).length=(spV sk sp).length:=by
 cases sp with
 | nil=>
  have h:kids u= []:=h;exact ⟨trivial,by rw [h];rfl⟩
 | cons y sp=>
  obtain ⟨ys,w⟩:=y;exact ⟨h.2,by rw [Hz ⟨sp,rfl⟩];exact h.1⟩
theorem Bg(kl:Tok):∀ (ks1:List Tok) (sp1:List (List α×α)) (ks2:List Tok) (sp2:List (List α×α)),ks1.length=sp1.length→spR tx t E kl (ks1++ks2) (sp1++sp2)=spR tx t E (ks2.headD kl) ks1 sp1++spR tx t E kl ks2 sp2
 | [],[],ks2,sp2,_=>rfl
 | [],_ :: _,_,_,h=>by cases h
 | _ :: _,[],_,_,h=>by cases h
 | k :: ks1,(xs,u) :: sp1,ks2,sp2,h=>by
  have ih:=Bg kl ks1 sp1 ks2 sp2 (by simpa using h);show Lv (tx ((ks1++ks2).headD kl)) t E k xs u :: spR tx t E kl (ks1++ks2) (sp1++sp2)=Lv (tx (ks1.headD (ks2.headD kl))) t E k xs u :: (spR tx t E (ks2.headD kl) ks1 sp1++spR tx t E kl ks2 sp2);rw [ih];cases ks1<;> rfl
theorem spClose(hS:Spk tx t kids sk):∀ (ks:List Tok) (sp:List (List α×α)) (g:G),ks.length=sp.length→Chn kids sp→(∀ R∈spR tx t E none ks sp,R.holds g)→(spR tx t E none ks sp).Pairwise (fun R R'=>∀ b,R.blk b→¬ R'.blk b)→
  ∃ g',g'.w=g.w∧Ext (fun b=>∃ R∈spR tx t E none ks sp,R.blk b) g g'∧(Grown t E (ks.headD none) (spV sk sp)).holds g'
 | [],[],g,_,_,_,_=>⟨g,rfl,Ext.refl _ _,rfl,rfl⟩
 | [],_ :: _,_,h,_,_,_=>by cases h
 | _ :: _,[],_,h,_,_,_=>by cases h
 | k :: ks,(xs,u) :: sp,g,h,hc,hh,hp=>by
  obtain ⟨hc1,hc2⟩:=hc.cons (sk:=sk);have hp1:=List.pairwise_cons.1 hp;obtain ⟨g1,e1,e2,e3⟩:=spClose hS ks sp g (by simpa using h) hc1 (fun R hR=>hh R (List.mem_cons_of_mem _ hR)) hp1.2;have hk:(Lv (tx (ks.headD none)) t E k xs u).holds g1:=(Lv (tx (ks.headD none)) t E k xs u).stay e2 (fun b hb ⟨R,hR,hRb⟩=>hp1.1 R hR b hb hRb) (hh _ List.mem_cons_self);obtain ⟨f1,f2⟩:=Lv.shut hS hk hc2 e3.2;refine ⟨g1.fixd k ((xs.length+1)*t.size),e1,?_,f2⟩;exact (e2.mono fun b ⟨R,hR,hb⟩=>⟨R,List.mem_cons_of_mem _ hR,hb⟩).trans f1 fun b _ hb=>⟨_,List.mem_cons_self,hb⟩
variable {P:Program} {N:Nat} {g0:G} {T0:Nat→Prop} {env:Env} {res:Rs}
theorem W.ghost{c:Code}{ks:List KF}{B:Exit→Act→World→Prop}{env':Env}{res':Rs}(h:∀ a g,St N g0 T0 env res a g→∃ g',g'.w=g.w∧St N g0 T0 env' res' a g')(k:W P N g0 T0 c ks B env' res'):W P N g0 T0 c ks B env res:=fun a g hs=>by
 obtain ⟨g',e,h'⟩:=h a g hs;have:=k a g' h';rw [e] at this;exact this
theorem St.spCut(hS:Spk tx t kids sk){p:Prop}{ks1 ks2:List Tok}{sp1 sp2:List (List α×α)}{k:Tok}{xs:List α}{u:α}(K K2 K3:Nat)(h1:ks1.length=sp1.length)(h2:ks2.length=sp2.length)(hc:Chn kids ((xs,u) :: sp2))
  (hr:findR K res=some (Many (Fact p :: spR tx t E none (ks1++k :: ks2) (sp1++(xs,u) :: sp2)))) (a:Act) (g:G) (h:St N g0 T0 env res a g) :
  ∃ g',g'.w=g.w∧St N g0 T0 env ((K,Many (spR tx t E k ks1 sp1)) :: (K2,Lv (tx (ks2.headD none)) t E k xs u) :: (K3,Grown t E (ks2.headD none) (spV sk sp2)) :: res.drop [K]) a g':=by
 have hin:=bT hr;obtain ⟨hm,hp⟩:=h.hres _ hin;have happ:=Bg (tx:=tx) (t:=t) (E:=E) none ks1 sp1 (k :: ks2) ((xs,u) :: sp2) h1;have hL:Fact p :: spR tx t E none (ks1++k :: ks2) (sp1++(xs,u) :: sp2)=Fact p :: (spR tx t E k ks1 sp1++Lv (tx (ks2.headD none)) t E k xs u :: spR tx t E none ks2 sp2):=by rw [happ];rfl
 rw [hL] at hm hp hin;have hp:=(List.pairwise_cons.1 hp).2;obtain ⟨p1,p2,p3⟩:=List.pairwise_append.1 hp;obtain ⟨p4,p5⟩:=List.pairwise_cons.1 p2;obtain ⟨hc1,hc2⟩:=hc.cons (sk:=sk);obtain ⟨g',e1,e2,e3⟩:=spClose hS ks2 sp2 g h2 hc1 (fun R hR=>hm R (by simp [hR])) p5;have hd:∀ y∈res.drop [K],y∈res∧y.1≠K:=fun y hy=>by have:=Rs.vK hy;exact ⟨this.1,by simpa using this.2⟩
 have hother:∀ y∈res.drop [K],∀ b,y.2.blk b→¬ (Many (Fact p :: (spR tx t E k ks1 sp1++Lv (tx (ks2.headD none)) t E k xs u :: spR tx t E none ks2 sp2))).blk b:=fun y hy b hb hb2=>
  h.dis.two y (hd y hy).1 _ hin (hd y hy).2 b hb hb2
 have gb:∀ b,(Grown t E (ks2.headD none) (spV sk sp2)).blk b→∃ R∈spR tx t E none ks2 sp2,R.blk b:=fun b hb=>by
  cases ks2 with
  | nil=>cases hb
  | cons k2 ks2=>
   cases sp2 with
   | nil=>cases h2
   | cons y sp2=>obtain ⟨ys,w⟩:=y;exact ⟨_,List.mem_cons_self,hb⟩
 refine ⟨g',e1,h.sz,h.dfr,fun s A hA=>A.mono e2 (h.henv s A hA),fun y hy=>?_,?_,fun b ⟨y,hy,hb⟩=>?_,?_⟩
 ·rcases List.mem_cons.1 hy with rfl | hy
  ·refine ⟨fun R hR=>R.stay e2 (fun b hb ⟨R',hR',hb'⟩=>p3 R hR R' (List.mem_cons_of_mem _ hR') b hb hb') (hm R (by simp [hR])),p1⟩
  rcases List.mem_cons.1 hy with rfl | hy
  ·exact (Lv (tx (ks2.headD none)) t E k xs u).stay e2 (fun b hb ⟨R',hR',hb'⟩=>p4 R' hR' b hb hb') (hm _ (by simp))
  rcases List.mem_cons.1 hy with rfl | hy
  ·exact e3
  ·exact y.2.stay e2 (fun b hb ⟨R',hR',hb'⟩=>hother y hy b hb ⟨R',by simp [hR'],hb'⟩) (h.hres y (hd y hy).1)
 ·refine List.pairwise_cons.2 ⟨fun y hy b hb=>?_,List.pairwise_cons.2 ⟨fun y hy b hb=>?_,List.pairwise_cons.2 ⟨fun y hy b hb hyb=>?_,h.dis.filter _⟩⟩⟩
  ·obtain ⟨R,hR,hRb⟩:=hb;rcases List.mem_cons.1 hy with rfl | hy
   ·exact p3 R hR _ List.mem_cons_self b hRb
   rcases List.mem_cons.1 hy with rfl | hy
   ·intro hb2;obtain ⟨R',hR',hb'⟩:=gb b hb2;exact p3 R hR R' (List.mem_cons_of_mem _ hR') b hRb hb'
   ·exact fun hyb=>hother y hy b hyb ⟨R,by simp [hR],hRb⟩
  ·rcases List.mem_cons.1 hy with rfl | hy
   ·intro hb2;obtain ⟨R',hR',hb'⟩:=gb b hb2;exact p4 R' hR' b hb hb'
   ·exact fun hyb=>hother y hy b hyb ⟨_,by simp,hb⟩
  ·obtain ⟨R',hR',hb'⟩:=gb b hb;exact hother y hy b hyb ⟨R',by simp [hR'],hb'⟩
 ·have hown:∀ b,(Many (Fact p :: (spR tx t E k ks1 sp1++Lv (tx (ks2.headD none)) t E k xs u :: spR tx t E none ks2 sp2))).blk b→T0 b∨g0.w.heap.size≤b:=fun b hb=>(h.own b ⟨_,hin,hb⟩).symm;have hmb:(Many (Fact p :: (spR tx t E k ks1 sp1++Lv (tx (ks2.headD none)) t E k xs u :: spR tx t E none ks2 sp2))).blk b∨ ∃ y∈res,y.2.blk b:=by
   rcases List.mem_cons.1 hy with rfl | hy
   ·obtain ⟨R,hR,hRb⟩:=hb;exact .inl ⟨R,by simp [hR],hRb⟩
   rcases List.mem_cons.1 hy with rfl | hy
   ·exact .inl ⟨_,by simp,hb⟩
   rcases List.mem_cons.1 hy with rfl | hy
   ·obtain ⟨R',hR',hb'⟩:=gb b hb;exact .inl ⟨R',by simp [hR'],hb'⟩
   ·exact .inr ⟨y,(hd y hy).1,hb⟩
  rcases hmb with hmb | ⟨y,hy,hb⟩
  ·exact h.own b ⟨_,hin,hmb⟩
  ·exact h.own b ⟨y,hy,hb⟩
 ·refine h.ext.trans e2 (fun x hx ⟨R',hR',hb'⟩=>?_);rcases h.own x ⟨_,hin,R',by simp [hR'],hb'⟩ with h1 | h1
  ·omega
  ·exact h1
theorem St.spJoin{p:Prop}(hp:p){ks1:List Tok}{sp1:List (List α×α)}{k kl:Tok}{xs ys:List α}{u w:α}(K K2 K3:Nat)(hk:K≠K2∧K≠K3∧K2≠K3)(h1:ks1.length=sp1.length)
  (hr1:findR K res=some (Many (spR tx t E k ks1 sp1))) (hr2:findR K2 res=some (Lv (tx kl) t E k xs u)) (hr3:findR K3 res=some (Lv (tx none) t E kl ys w)) (a:Act) (g:G) (h:St N g0 T0 env res a g) :
  St N g0 T0 env ((K,Many (Fact p :: spR tx t E none (ks1++ [k,kl]) (sp1++ [(xs,u),(ys,w)]))) :: res.drop [K,K2,K3]) a g:=by
 obtain ⟨hk1,hk2,hk3⟩:=hk;have i1:=bT hr1;have i2:=bT hr2;have i3:=bT hr3;obtain ⟨hm,hpw⟩:=h.hres _ i1;have happ:spR tx t E none (ks1++ [k,kl]) (sp1++ [(xs,u),(ys,w)])=spR tx t E k ks1 sp1++ [Lv (tx kl) t E k xs u,Lv (tx none) t E kl ys w]:=by
  rw [Bg none ks1 sp1 [k,kl] [(xs,u),(ys,w)] h1];rfl
 rw [happ];have d12:=h.dis.two _ i1 _ i2 hk1;have d13:=h.dis.two _ i1 _ i3 hk2;have d23:=h.dis.two _ i2 _ i3 hk3;have hd:∀ y∈res.drop [K,K2,K3],y∈res∧y.1≠K∧y.1≠K2∧y.1≠K3:=fun y hy=>by have:=Rs.vK hy;exact ⟨this.1,by simpa using this.2⟩
 refine h.Gc (fun x hx=>?_) ?_ (fun b ⟨x,hx,hb⟩=>?_)
 ·rcases List.mem_cons.1 hx with rfl | hx
  ·refine ⟨fun R hR=>?_,List.pairwise_cons.2 ⟨fun R _ b hb=>hb.elim,List.pairwise_append.2 ⟨hpw,List.pairwise_cons.2 ⟨fun R hR b hb=>?_,List.pairwise_singleton _ _⟩,fun R hR R' hR' b hb=>?_⟩⟩⟩
   ·rcases List.mem_cons.1 hR with rfl | hR
    ·exact hp
    rcases List.mem_append.1 hR with hR | hR
    ·exact hm R hR
    rcases List.mem_cons.1 hR with rfl | hR
    ·exact h.hres _ i2
    ·rw [List.mem_singleton.1 hR];exact h.hres _ i3
   ·rw [List.mem_singleton.1 hR];exact d23 b hb
   ·rcases List.mem_cons.1 hR' with rfl | hR'
    ·exact d12 b ⟨R,hR,hb⟩
    ·rw [List.mem_singleton.1 hR'];exact d13 b ⟨R,hR,hb⟩
  ·exact h.hres x (hd x hx).1
 ·refine List.pairwise_cons.2 ⟨fun y hy b hb hyb=>?_,h.dis.filter _⟩;obtain ⟨hy1,hy2,hy3,hy4⟩:=hd y hy;obtain ⟨R,hR,hRb⟩:=hb;rcases List.mem_cons.1 hR with rfl | hR
  ·exact hRb
  rcases List.mem_append.1 hR with hR | hR
  ·exact h.dis.two y hy1 _ i1 hy2 b hyb ⟨R,hR,hRb⟩
  rcases List.mem_cons.1 hR with rfl | hR
  ·exact h.dis.two y hy1 _ i2 hy3 b hyb hRb
  ·rw [List.mem_singleton.1 hR] at hRb;exact h.dis.two y hy1 _ i3 hy4 b hyb hRb
 ·rcases List.mem_cons.1 hx with rfl | hx
  ·obtain ⟨R,hR,hRb⟩:=hb;rcases List.mem_cons.1 hR with rfl | hR
   ·exact hRb.elim
   rcases List.mem_append.1 hR with hR | hR
   ·exact ⟨_,i1,R,hR,hRb⟩
   rcases List.mem_cons.1 hR with rfl | hR
   ·exact ⟨_,i2,hRb⟩
   ·rw [List.mem_singleton.1 hR] at hRb;exact ⟨_,i3,hRb⟩
  ·exact ⟨x,(hd x hx).1,hb⟩
theorem St.II(hS:Spk tx t kids sk){k kl:Tok}{xs ys:List α}{u:α}(K2 K3:Nat)(hl:(kids u).length=ys.length)(hr2:findR K2 res=some (Lv (tx kl) t E k xs u))(hr3:findR K3 res=some (Grown t E kl ys))(a:Act)(g:G)(h:St N g0 T0 env res a g) :
  ∃ g',g'.w=g.w∧St N g0 T0 env ((K2,Grown t E k (xs++ [sk u ys])) :: res.drop [K2]) a g':=by
 have i2:=bT hr2;obtain ⟨e,f⟩:=Lv.shut hS (h.hres _ i2) hl (h.hres _ (bT hr3)).2;have hd:∀ y∈res.drop [K2],y∈res∧y.1≠K2:=fun y hy=>by have:=Rs.vK hy;exact ⟨this.1,by simpa using this.2⟩
 refine ⟨g.fixd k ((xs.length+1)*t.size),rfl,h.sz,h.dfr,fun s A hA=>A.mono e (h.henv s A hA),fun y hy=>?_,?_,fun b ⟨y,hy,hb⟩=>?_,?_⟩
 ·rcases List.mem_cons.1 hy with rfl | hy
  ·exact f
  ·exact y.2.stay e (fun b hb hT=>h.dis.two y (hd y hy).1 _ i2 (hd y hy).2 b hb hT) (h.hres y (hd y hy).1)
 ·refine List.pairwise_cons.2 ⟨fun y hy b hb=>?_,h.dis.filter _⟩;exact h.dis.two _ i2 _ (hd y hy).1 (Ne.symm (hd y hy).2) b hb
 ·rcases List.mem_cons.1 hy with rfl | hy
  ·exact h.own b ⟨_,i2,hb⟩
  ·exact h.own b ⟨y,(hd y hy).1,hb⟩
 ·refine h.ext.trans e (fun x hx hT=>?_);rcases h.own x ⟨_,i2,hT⟩ with h1 | h1
  ·omega
  ·exact h1
theorem Lv.ofBx{tx:Ty α}{b:Nat}{u:α}{g:G}(hsz:tx.size=t.size)(hag:tx.agg=true)(h:(Bx t.size true E (tx.is u) b).holds g):(Lv tx t E (some (b,1)) [] u).holds g:=by
 obtain ⟨cs,h1,h2,_,_,h5,cs',h6,h7⟩:=h;rw [hag] at h7;have e:cs=cs':=by
  have:=congrArg Value.cells h7;simpa [mkVal,Value.cells] using this
 subst e;refine ⟨cs.toArray,cs,h1,by simp [h2],by simp,by unfold maxLen;simp,by simp [h5],⟨.inr rfl,fun i x hx=>by simp at hx⟩,hsz,h6,fun j v hj=>by simpa using hj⟩
end
section
variable {α:Type} {P:Program} {env:Env} {res:Rs} {d:Option Tmp} {ty:TypeId} {pos:String} {aft:Array Edge} {gd:Option (Nat×Bool)}
theorem Op1.HV{tx:Tok→Ty α}{t:Ty α}{kids:α→List α}{sk:α→List α→α}(hS:Spk tx t kids sk){E E':TypeId}{x:Operand}{k kl:Tok}{xs ys:List α}{u:α}(key key2:Nat)(ht:TyAt P E' t)(hr:findR key res=some (Lv (tx kl) t E k xs u))(hr2:findR key2 res=some (Grown t E kl ys))(hl:(kids u).length=ys.length)(hx:Opd env x (Bp (bk k) (xs.length*t.size)):=by exact .tmp rfl) :
  Op1 P ⟨d,.load E' x,ty,pos,aft,gd⟩ env res (t.is (sk u ys)):=
 Op1.same fun a g hc=>by
  have hres:=hc.hres _ (bT hr);have hrow:=(hc.hres _ (bT hr2)).2;cases k with
  | none=>exact hres.elim
  | some p=>
   obtain ⟨cur,ds,h1,h2,h3,h4,h5,h6,h7,h8,h9⟩:=hres;have h10:=hS.clo h8 hl hrow;have hv:a.eval x= .pointer (some ⟨p.1,xs.length*t.size,none⟩):=hx a g hc.henv;have:=iI (P:=P) ht.agg ht.size (w:=g.w) (b:=p.1) (o:=xs.length*t.size) (t.len h10) t.sing (fun j v hj=>by
    rw [cell_of_row _ _ _ _ _ _ h1];exact h9 j v hj)
   exact ⟨mkVal t.agg ds,by simp [execOp,hv,Instr.loadAt,Instr.sureAddr,this],ds,h10,rfl⟩
theorem Op1.HY{tx t:Ty α}{kids:α→List α}{E E':TypeId}{x:Operand}{k kl:Tok}{xs ys:List α}{u:α}{o:Nat}(key key2:Nat)(ht:TyAt P E' (tUT (α:=α) kl))(hF:Fld tx o (tUT kl) kids)(hr:findR key res=some (Lv tx t E k xs u))(hr2:findR key2 res=some (Grown t E kl ys))(hl:(kids u).length=ys.length)(hx:Opd env x (Bp (bk k) (xs.length*t.size+o)):=by exact .tmp rfl) :
  Op1 P ⟨d,.load E' x,ty,pos,aft,gd⟩ env res (tO t kl ys):=
 Op1.same fun a g hc=>by
  have hres:=hc.hres _ (bT hr);have hrow:=(hc.hres _ (bT hr2)).2;cases k with
  | none=>exact hres.elim
  | some p=>
   obtain ⟨cur,ds,h1,h2,h3,h4,h5,h6,h7,h8,h9⟩:=hres;obtain ⟨es,⟨q1,q2,q3⟩,q4⟩:=hF g ds u h8;have hv:a.eval x= .pointer (some ⟨p.1,xs.length*t.size+o,none⟩):=hx a g hc.henv;have:=iI (P:=P) ht.agg ht.size (w:=g.w) (b:=p.1) (o:=xs.length*t.size+o) (cs:=es) ((tUT (α:=α) kl).len (g:=g) ⟨q1,q2,q3⟩) (tUT (α:=α) kl).sing (fun j v hj=>by
    rw [cell_of_row _ _ _ _ _ _ h1,Nat.add_assoc];exact h9 (o+j) v (q4 j v hj))
   refine ⟨_,by simp [execOp,hv,Instr.loadAt,Instr.sureAddr,this];rfl,?_⟩;rw [q1];rw [hl] at q2 q3 ⊢;exact ⟨rfl,q2,q3,hrow⟩
theorem Op1.Ex{β:Type}{tx t:Ty α}{t2:Ty β}{f:α→β}{E E':TypeId}{x:Operand}{k:Tok}{xs:List α}{u:α}{o:Nat}(key:Nat)(ht:TyAt P E' t2)(hF:Fld tx o t2 f)(hr:findR key res=some (Lv tx t E k xs u))(hx:Opd env x (Bp (bk k) (xs.length*t.size+o)):=by exact .tmp rfl) :
  Op1 P ⟨d,.load E' x,ty,pos,aft,gd⟩ env res (t2.is (f u)):=
 Op1.same fun a g hc=>by
  have hres:=hc.hres _ (bT hr);cases k with
  | none=>exact hres.elim
  | some p=>
   obtain ⟨cur,ds,h1,h2,h3,h4,h5,h6,h7,h8,h9⟩:=hres;obtain ⟨es,q1,q4⟩:=hF g ds u h8;have hv:a.eval x= .pointer (some ⟨p.1,xs.length*t.size+o,none⟩):=hx a g hc.henv;have:=iI (P:=P) ht.agg ht.size (w:=g.w) (b:=p.1) (o:=xs.length*t.size+o) (cs:=es) (t2.len q1) t2.sing (fun j v hj=>by
    rw [cell_of_row _ _ _ _ _ _ h1,Nat.add_assoc];exact h9 (o+j) v (q4 j v hj))
   exact ⟨mkVal t2.agg es,by simp [execOp,hv,Instr.loadAt,Instr.sureAddr,this],es,q1,rfl⟩
theorem OpR.storeLv{tx tx' t:Ty α}{β:Type}{t2:Ty β}{E T:TypeId}{upd:α→β→α}{x y:Operand}{k:Tok}{xs:List α}{u:α}{w:β}{o key:Nat}(ht:TyAt P T t2)(hF:bz tx tx' o t2 upd)(hsz:tx'.size=t.size)(hx:Opd env x (Bp (bk k) (xs.length*t.size+o)))(hy:Opd env y (t2.is w))(hr:res.pick [key]= [(key,Lv tx t E k xs u)]) :
  OpR P ⟨none,.store T x y,ty,pos,aft,gd⟩ env res [key] (fun _:Unit=>Asn.any) (fun _=>[(key,Lv tx' t E k xs (upd u w))]):=by
 intro a g K Q hc hd hK;have hres:=hc.hres _ (vI hr);cases k with
 | none=>exact hres.elim
 | some p=>
  obtain ⟨cur,us,h1,h2,h3,h4,h5,h6,h7,h8,h9⟩:=hres;have hv:a.eval x= .pointer (some ⟨p.1,xs.length*t.size+o,none⟩):=hx a g hc.henv;obtain ⟨ds,k1,k2⟩:=hy a g hc.henv;have hdl:=t2.len k1;have hul:=tx.len h8;have hvc:(a.eval y).cells=ds.toArray:=by rw [k2];exact t2.cells k1
  obtain ⟨f1,f2⟩:=hF g us ds u w h8 k1;have hm:=Nat.mul_le_mul_right t.size h3;rw [Nat.add_mul,Nat.one_mul] at hm;have hcl:cur.toList.length=p.2*t.size:=by simpa using h2
  have hrun:=mO (P:=P) (cur:=cur.toList) (ds:=ds) (v:=a.eval y) (o:=xs.length*t.size+o) ht.size (by simpa using h1) hvc hdl (by omega) (t2.one k1);have hex:(execOp a.eval ⟨none,.store T x y,ty,pos,aft,gd⟩).run P g.w= .ok .skip (g.w.setRow p.1 (over cur.toList (xs.length*t.size+o) ds).toArray):=by
   simp [execOp,hv,Instr.storeAt,Instr.sureAddr,hrun]
  show Oper.upon P _ a K Q ((execOp a.eval _).run P g.w);rw [hex];have ho:xs.length*t.size+o+ds.length≤cur.toList.length:=by omega
  have hnew:∀ i v,i<g.S p.1→cur[i]? =some v→(over cur.toList (xs.length*t.size+o) ds).toArray[i]? =some v:=by
   intro i v hi hiv;rw [h5] at hi;simp only [List.getElem?_toArray];rw [kJ ho,if_neg (by omega)];simpa using hiv
  let g':G:=⟨g.w.setRow p.1 (over cur.toList (xs.length*t.size+o) ds).toArray,fun x=>if x=p.1 then xs.length*t.size else g.S x⟩
  have e:Ext (fun x=>x=p.1) g g':=qi h1 (by rw [h5];exact Nat.le_refl _) hnew (fun _=>by rw [List.size_toArray,jL ho];simp);have hheap':g'.w.heap[p.1]? =some (.cells (over cur.toList (xs.length*t.size+o) ds).toArray E (0,0)):=setRow_heap g.w p.1 cur _ E _ h1;refine hK () undef g' (e.mono (fun x hx=>(mG hr x).2 (by rw [show x=p.1 from hx];rfl))) trivial (fun y hy=>?_) (List.pairwise_singleton _ _) (fun b' hb'=>.inl ((mG hr b').2 (let ⟨y,hy,hyb⟩:=hb';by rw [List.mem_singleton.1 hy] at hyb;exact hyb)));rw [List.mem_singleton.1 hy];refine ⟨_,over us o ds,hheap',by rw [List.size_toArray,jL ho,hcl],h3,h4,if_pos rfl,h6.mono e,hsz,tx'.mono e f2,fun q w' hq=>?_⟩;have hql:=(List.getElem?_eq_some_iff.1 hq).1;rw [jL f1] at hql;simp only [List.getElem?_toArray];rw [kJ f1] at hq;rw [kJ ho];by_cases hqo:o≤q∧q<o+ds.length
  ·rw [if_pos hqo] at hq;rw [if_pos (by omega),show xs.length*t.size+q-(xs.length*t.size+o)=q-o by omega];exact hq
  ·rw [if_neg hqo] at hq;rw [if_neg (by omega)];have:=h9 q w' hq;simpa using this
theorem bz.all(tx tx':Ty α)(h:tx.size=tx'.size):bz tx tx' 0 tx' (fun _ y=>y):=fun g cs ds x y hx hy=>by
 have h1:=tx.len hx;have h2:=tx'.len hy;refine ⟨by omega,?_⟩;rw [Ca (by omega)];exact hy
theorem OpR.appendGr{t:Ty α}{E T:TypeId}{s x:Operand}{k:Tok}{xs:List α}{z:α}{key:Nat}(hl:xs.length+1≤r9)(hT:P.underlying T=some (.slice E))(hE:ElAt P E t)(hs:Opd env s (tO t k xs))(hx:Opd env x ((tL t).is [z]))
  (hr:res.pick [key]= [(key,Grown t E k xs)]) :
  OpR P ⟨d,.call ⟨.builtin .append,#[s,x],#[T,T]⟩,ty,pos,aft,gd⟩ env res [key] (fun k':Tok=>rawS k' (xs.length+1)) (fun k'=>[(key,Resv t E k' xs)]):=by
 intro a g K Q hc hd hK;have hres:(Grown t E k xs).holds g:=hc.hres _ (vI hr);have hp1:Rs.pick [key] [(key,Own t E k xs.length)]= [(key,Own t E k xs.length)]:=by simp [Rs.pick,memB,Nat.beq_refl]
 have h:=OpR.appendZ (P:=P) (env:=env) (res:=[(key,Own t E k xs.length)]) (d:=d) (ty:=ty) (pos:=pos) (aft:=aft) (gd:=gd) (key:=key) (z:=z) hl hT hE hs hx hp1;have hb:∀ b,(Rs.pick [key] [(key,Own t E k xs.length)]).blks b→(res.pick [key]).blks b:=fun b hb=>by
  rw [hp1] at hb;obtain ⟨y,hy,hyb⟩:=hb;rw [List.mem_singleton.1 hy] at hyb;exact (mG hr b).2 hyb
 exact h a g K Q ⟨hc.henv,fun y hy=>by rw [List.mem_singleton.1 hy];exact hres.1⟩ (List.pairwise_singleton _ _) fun k' v g' e h1 h2 h3 h4=>hK k' v g' (e.mono hb) h1 h2 h3 fun b hb'=>(h4 b hb').imp (hb b) id
theorem OpR.storeRv{tx t:Ty α}{E:TypeId}{x y:Operand}{k:Tok}{xs:List α}{u:α}{key:Nat}(ht:TyAt P E tx)(hsz:tx.size=t.size)(hx:Opd env x (Bp (bk k) (xs.length*t.size)))(hy:Opd env y (tx.is u))(hr:res.pick [key]= [(key,Resv t E k xs)]) :
  OpR P ⟨none,.store E x y,ty,pos,aft,gd⟩ env res [key] (fun _:Unit=>Asn.any) (fun _=>[(key,Lv tx t E k xs u)]):=by
 intro a g K Q hc hd hK;have hres:=hc.hres _ (vI hr);cases k with
 | none=>exact hres.elim
 | some p=>
  obtain ⟨cur,h1,h2,h3,h4,h5,h6⟩:=hres;have hv:a.eval x= .pointer (some ⟨p.1,xs.length*t.size,none⟩):=hx a g hc.henv;obtain ⟨ds,k1,k2⟩:=hy a g hc.henv;have hdl:=tx.len k1;have hvc:(a.eval y).cells=ds.toArray:=by rw [k2];exact tx.cells k1
  have hm:=Nat.mul_le_mul_right t.size h3;rw [Nat.add_mul,Nat.one_mul] at hm;have hcl:cur.toList.length=p.2*t.size:=by simpa using h2
  have hrun:=mO (P:=P) (cur:=cur.toList) (ds:=ds) (v:=a.eval y) (o:=xs.length*t.size) ht.size (by simpa using h1) hvc hdl (by omega) (tx.one k1);have hex:(execOp a.eval ⟨none,.store E x y,ty,pos,aft,gd⟩).run P g.w= .ok .skip (g.w.setRow p.1 (over cur.toList (xs.length*t.size) ds).toArray):=by
   simp [execOp,hv,Instr.storeAt,Instr.sureAddr,hrun]
  show Oper.upon P _ a K Q ((execOp a.eval _).run P g.w);rw [hex];have ho:xs.length*t.size+ds.length≤cur.toList.length:=by omega
  have hnew:∀ i v,i<g.S p.1→cur[i]? =some v→(over cur.toList (xs.length*t.size) ds).toArray[i]? =some v:=by
   intro i v hi hiv;rw [h5] at hi;simp only [List.getElem?_toArray];rw [kJ ho,if_neg (by omega)];simpa using hiv
  let g':G:=⟨g.w.setRow p.1 (over cur.toList (xs.length*t.size) ds).toArray,fun x=>if x=p.1 then xs.length*t.size else g.S x⟩
  have e:Ext (fun x=>x=p.1) g g':=qi h1 (by rw [h5];exact Nat.le_refl _) hnew (fun _=>by rw [List.size_toArray,jL ho];simp);have hheap':g'.w.heap[p.1]? =some (.cells (over cur.toList (xs.length*t.size) ds).toArray E (0,0)):=setRow_heap g.w p.1 cur _ E _ h1;refine hK () undef g' (e.mono (fun x hx=>(mG hr x).2 (by rw [show x=p.1 from hx];rfl))) trivial (fun y hy=>?_) (List.pairwise_singleton _ _) (fun b' hb'=>.inl ((mG hr b').2 (let ⟨y,hy,hyb⟩:=hb';by rw [List.mem_singleton.1 hy] at hyb;exact hyb)));rw [List.mem_singleton.1 hy];refine ⟨_,ds,hheap',by rw [List.size_toArray,jL ho,hcl],h3,h4,if_pos rfl,h6.mono e,hsz,tx.mono e k1,fun q w' hq=>?_⟩;have hql:=(List.getElem?_eq_some_iff.1 hq).1;simp only [List.getElem?_toArray];rw [kJ ho,if_pos (by omega),show xs.length*t.size+q-xs.length*t.size=q by omega];exact hq
theorem Opd.rawUT{k:Tok}{n:Nat}{x:Operand}{v:List α}(h:Opd env x (rawS k n))(hv:n=v.length):Opd env x ((tUT (α:=α) k).is v):=h.weak fun w g ⟨h1,h2,h3,_⟩=>⟨[w],⟨by rw [h1,hv],by rw [←hv];exact h2,by rw [←hv];exact h3⟩,rfl⟩
theorem Op1.IJ{t:Ty α}{E E':TypeId}{x:Operand}{k:Tok}{xs:List α}{i:Nat}{u:α}(key:Nat)(ht:TyAt P E' t)(hr:findR key res=some (Grown t E k xs))(hi:xs[i]? =some u)(hx:Opd env x (Bp (bk k) (i*t.size)):=by exact .tmp rfl) :
  Op1 P ⟨d,.load E' x,ty,pos,aft,gd⟩ env res (t.is u):=
 Op1.same fun a g hc=>by
  have hrow:=(hc.hres _ (bT hr)).2;cases k with
  | none=>
   have:xs= []:=hrow;rw [this] at hi;cases hi
  | some p=>
   obtain ⟨ds,q1,q2⟩:=hrow.2 i u hi;have hv:a.eval x= .pointer (some ⟨p.1,i*t.size,none⟩):=hx a g hc.henv;have:=iI (P:=P) ht.agg ht.size (w:=g.w) (b:=p.1) (o:=i*t.size) (t.len q1) t.sing (fun j v hj=>by
    have h9:=(q2 j v hj).2;have e0:(0:Nat)+i*t.size+j=i*t.size+j:=by omega
    have h9:g.w.cell? ⟨p.1,0+i*t.size+j,none⟩=some v:=h9;rw [e0] at h9;exact h9)
   exact ⟨mkVal t.agg ds,by simp [execOp,hv,Instr.loadAt,Instr.sureAddr,this],ds,q1,rfl⟩
end
def tAdO:Ty (Option (Nat×Nat)) where
 size:=1
 agg:=false
 rep:=fun _ cs x=>cs= [.pointer (x.map fun p=>⟨p.1,p.2,none⟩)]
 len:=fun h=>by rw [h];rfl
 one:=fun h c hc=>by
  rw [h] at hc;rw [List.mem_singleton.1 hc];rfl
 mono:=fun _ h=>h
 sing:=fun _=>rfl
def tAd:Ty (Nat×Nat):=tMap tAdO some
theorem Gf:Flat tAd:=fun _ _ _ _ h=>h
theorem Opd.I9{env:Env}{x:Operand}{b o:Nat}(h:Opd env x (Bp b o)):Opd env x (tAdO.is (some (b,o))):=h.weak fun v g hv=>⟨[v],by rw [show v=_ from hv];rfl,rfl⟩
theorem Opd.ofAd{env:Env}{x:Operand}{p:Nat×Nat}(h:Opd env x (tAd.is p)):Opd env x (Bp p.1 p.2):=h.weak fun v g ⟨cs,h1,h2⟩=>by
 have h1:cs= [.pointer (some ⟨p.1,p.2,none⟩)]:=h1;subst h1;exact h2
theorem Asn.ofAd{p:Nat×Nat}{v:Value}{g:G}(h:(tAd.is p).holds v g):(Bp p.1 p.2).holds v g:=by
 obtain ⟨cs,h1,h2⟩:=h;have h1:cs= [.pointer (some ⟨p.1,p.2,none⟩)]:=h1;subst h1;exact h2
def adr{α:Type}(t:Ty α):List Tok→List (List α×α)→List (Nat×Nat)
 | k :: ks,(xs,u) :: sp=>(bk k,xs.length*t.size) :: adr t ks sp
 | _,_=>[]
theorem uh{α:Type}(t:Ty α):∀ (ks:List Tok) (sp:List (List α×α)),ks.length=sp.length→(adr t ks sp).length=sp.length
 | [],[],_=>rfl
 | [],_ :: _,h=>by cases h
 | _ :: _,[],h=>by cases h
 | k :: ks,(xs,u) :: sp,h=>by simp [adr,uh t ks sp (by simpa using h)]
theorem ui{α:Type}(t:Ty α):∀ (ks1:List Tok) (sp1:List (List α×α)) (ks2:List Tok) (sp2:List (List α×α)),ks1.length=sp1.length→adr t (ks1++ks2) (sp1++sp2)=adr t ks1 sp1++adr t ks2 sp2
 | [],[],_,_,_=>rfl
 | [],_ :: _,_,_,h=>by cases h
 | _ :: _,[],_,_,h=>by cases h
 | k :: ks1,(xs,u) :: sp1,ks2,sp2,h=>by
  show _ :: adr t (ks1++ks2) (sp1++sp2)=_ :: (adr t ks1 sp1++adr t ks2 sp2);rw [ui t ks1 sp1 ks2 sp2 (by simpa using h)]
end Go.Dec
