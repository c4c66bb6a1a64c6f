import GoSem.Core.Utf8
import Derived.Lib.ItoaNum
import Derived.Lib.AtoiAll
import Derived.Lib.IndexMore
import Derived.Lib.Repeat
import Derived.WalkKit
import Derived.WalkSpells
import Derived.Deep.LoopGhost
import Derived.Laws.AppendOwnNone
/-
  The operations out of which the models are built: plain functions on lists and integers; nothing here speaks of a program or of the machine.
-/
set_option linter.unusedVariables false
set_option linter.unusedSimpArgs false
namespace Go.Dec
abbrev Str:=List UInt8
def bytesOf(l:Str):List Int:=l.map (λb:UInt8=>(b.toNat:Int))
def runeAt(l:Str)(p:Nat):Nat×Nat:=Go.Utf8.decode ⟨l.toArray⟩ p
theorem bind_some{α β:Type}{o:Option α}{f:α->Option β}{b:β}(h:o.bind f=some b):∃ a,o=some a/\f a=some b:=by
 cases o with
 | none=>cases h
 | some a=>exact ⟨a,rfl,h⟩
theorem Au{b:Bool}(h:b=false):¬ b=true:=by rw [h];exact Bool.false_ne_true
def idx{α:Type}(l:List α)(i:Int):Option α:=if 0<=i then l[i.toNat]? else none
def slc{α:Type}(l:List α)(i j:Int):Option (List α):=if 0<=i/\i<=j/\j<=l.length then some ((l.take j.toNat).drop i.toNat) else none
def slcLo{α:Type}(l:List α)(i:Int):Option (List α):=if 0<=i/\i<=l.length then some (l.drop i.toNat) else none
def slcHi{α:Type}(l:List α)(j:Int):Option (List α):=if 0<=j/\j<=l.length then some (l.take j.toNat) else none
def fits64(n:Int):Bool:=decide (-9223372036854775808<=n) && decide (n<=9223372036854775807)
def addC(x y:Int):Option Int:=if fits64 (x+y) then some (x+y) else none
def subC(x y:Int):Option Int:=if fits64 (x-y) then some (x-y) else none
def mulC(x y:Int):Option Int:=if fits64 (x*y) then some (x*y) else none
def quoC(x y:Int):Option Int:=if y≠0/\fits64 (x.tdiv y) then some (x.tdiv y) else none
def wrap64(n:Int):Int:=(n+9223372036854775808) % 18446744073709551616-9223372036854775808
def catC(x y:List UInt8):Option (List UInt8):=if x.length+y.length<=140737488355328 then some (x++y) else none
def copyC{α:Type}(xs ys:List α):Option (List α):=if xs.length=ys.length then some ys else none
def delC{α:Type}(l:List α)(i j:Int):Option (List α):=if 0<=i/\j=i+1/\j<=l.length then some (l.take i.toNat++l.drop j.toNat) else none
def insC{α:Type}(l:List α)(i:Int):List α->Option (List α)
 | [y]=>if 0<=i/\i<=l.length/\l.length+1<=274877906944 then some (l.take i.toNat++y :: l.drop i.toNat) else none
 | _=>none
def appC{α:Type}(x y:List α):Option (List α):=if x.length+y.length<=274877906944 then some (x++y) else none
def growC(n:Int):Option Unit:=if 0<=n/\n<=274877906944 then some () else none
theorem ku{x y:Int}(h1:-9223372036854775808<=x+y)(h2:x+y<=9223372036854775807):addC x y=some (x+y):=by simp [addC,fits64,h1,h2]
theorem lY{x y:Int}(h1:-9223372036854775808<=x-y)(h2:x-y<=9223372036854775807):subC x y=some (x-y):=by simp [subC,fits64,h1,h2]
theorem Kh{x y:Int}(h1:-9223372036854775808<=x*y)(h2:x*y<=9223372036854775807):mulC x y=some (x*y):=by simp [mulC,fits64,h1,h2]
theorem bu{α:Type}{x y:List α}(h:x.length+y.length<=274877906944):appC x y=some (x++y):=if_pos h
theorem gZ{x y:List UInt8}(h:x.length+y.length<=140737488355328):catC x y=some (x++y):=if_pos h
theorem lI{α:Type}(l:List α)(i:Nat):idx l (i:Int)=l[i]?:=by simp [idx]
theorem xn{α:Type}(l:List α)(i j:Nat)(h1:i<=j)(h2:j<=l.length):slc l (i:Int) (j:Int)=some ((l.take j).drop i):=by
 unfold slc;rw [if_pos (by omega)];simp
def neC{α:Type}(l:List α):Option Unit:=if l.isEmpty then none else some ()
theorem NK{α:Type}{l:List α}{u:Unit}(h:neC l=some u):l≠ []:=by
 intro e;rw [e] at h;cases h
theorem qR{α:Type}{xs pre rest:List α}{i:Int}(h:xs=pre++rest)(hi:i=(pre.length:Int))(hp:i<(xs.length:Int)):∃ e es,rest=e :: es:=by
 cases rest with
 | nil=>rw [h,hi] at hp;simp at hp
 | cons e es=>exact ⟨e,es,rfl⟩
theorem sH{α:Type}{xs pre rest:List α}{i:Int}(h:xs=pre++rest)(hi:i=(pre.length:Int))(hp:¬ i<(xs.length:Int)):rest= []:=by
 cases rest with
 | nil=>rfl
 | cons e es=>rw [h,hi] at hp;simp at hp;omega
theorem sV{α:Type}{xs pre es:List α}{e:α}(h:xs=pre++e :: es):xs=(pre++ [e])++es:=by rw [h];simp
theorem uK{α:Type}{pre:List α}{i:Int}{e:α}(hi:i=(pre.length:Int)):i+1=((pre++ [e]).length:Int):=by rw [hi];simp
theorem wm{α:Type}{m:Nat}{e:α}{es:List α}(h:m=(e :: es).length):es.length<m:=by rw [h];simp
def mget{α β:Type}[DecidableEq α]:List (α×β)->α->β->β
 | [],_,z=>z
 | p :: m,k,z=>if k=p.1 then p.2 else mget m k z
def mhas{α β:Type}[DecidableEq α]:List (α×β)->α->Bool
 | [],_=>false
 | p :: m,k=>if k=p.1 then true else mhas m k
def mset{α β:Type}[DecidableEq α]:List (α×β)->α->β->List (α×β)
 | [],k,v=>[(k,v)]
 | p :: m,k,v=>if k=p.1 then (k,v) :: m else p :: mset m k v
def setC{α:Type}(l:List α)(i:Int)(x:α):Option (List α):=if 0<=i/\i.toNat<l.length then some (l.set i.toNat x) else none
def repeatM(s:Str)(n:Int):Option Str:=if 0<=n/\s.length*n.toNat<=140737488355328 then some (Lib.repeatL s n.toNat) else none
def rngC(n:Nat)(i:Int):Option Unit:=if 0<=i/\i<n then some () else none
theorem Ki{n:Nat}{i:Int}{u:Unit}(h:rngC n i=some u):0<=i/\i<n:=by
 unfold rngC at h;split at h
 .assumption
 .cases h
theorem FV{n:Nat}{i:Int}{u:Unit}(h:rngC n i=some u):i.toNat<n:=by have:=Ki h;omega
theorem Uz{j n s:Nat}(h:j<n):j*s+s<=n*s:=by have:=Nat.mul_le_mul_right s (Nat.succ_le_of_lt h);rwa [Nat.succ_mul] at this
def andI(x y:Int):Int:=wrap64 (((x % 18446744073709551616).toNat &&& (y % 18446744073709551616).toNat:Nat):Int)
def makeC{α:Type}(z:α)(n:Int):Option (List α):=if 0<=n/\n<=274877906944 then some (List.replicate n.toNat z) else none
def rngLo{α:Type}(xs:List α)(i:Int):Option Unit:=if 0<=i/\i<=xs.length then some () else none
def revFrom{α:Type}(xs:List α)(i:Int):Option (List α):=if 0<=i/\i<=xs.length then some (xs.take i.toNat++(xs.drop i.toNat).reverse) else none
def sortedM(l:List Int):List Int:=l.mergeSort λx y=>decide (x<=y)
def foldS{σ α:Type}(st:σ->α->Option σ):σ->List α->Option σ
 | s,[]=>some s
 | s,x :: xs=>Option.bind (st s x) λs'=>foldS st s' xs
def allC(l:List Int):Option (List Int):=foldS (λq x=>appC q [x]) [] l
def sortedC(l:List Int):Option (List Int):=Option.bind (allC l) λr=>some (sortedM r)
def shlI(x n:Int):Option Int:=if 0<=n then some (wrap64 (x*2 ^ min n.toNat 64)) else none
def shrI(x n:Int):Option Int:=if 0<=n/\0<=x then some (x.fdiv (2 ^ min n.toNat 64)) else none
end Go.Dec
/-
  A small program logic over the model: ghost worlds with sealed cells, typed readings of values, environments of slots, resources, and rules for code, regions and operations. Nothing here speaks of a given program.
-/
namespace Go.Dec
open Go
variable {N:Nat}{T T0:Nat->Prop}{d k:Nat}{v:Value}{α:Type}{x:α}{β:Type}
structure G where
 w:World
 S:Nat->Nat
def G.Has(g:G)(b i:Nat)(v:Value):Prop:=i<g.S b/\g.w.cell? ⟨b,i,none⟩=some v
theorem G.Has.lt{g:G}{b i:Nat}(h:g.Has b i v):b<g.w.heap.size:=World.block_lt_of_cell? (a:=⟨b,i,none⟩) g.w h.2
abbrev Whl:=Nat ⊕ (Array MapEntry×Nat)
def mapsSeal:Bool:=true
def whl(o:Obj):Option Whl:=match o with
 | .cells cs _ _=>some (.inl cs.size)
 | .map es k=>bif mapsSeal then some (.inr (es,k)) else none
 | _=>none
def rowN(w:World)(b:Nat):Option Whl:=(w.heap[b]?).bind whl
def rsz:Whl->Nat
 | .inl n=>n
 | .inr _=>1
def G.Full(g:G)(b:Nat)(n:Whl):Prop:=rowN g.w b=some n/\rsz n<=g.S b/\0<rsz n
theorem G.Full.lt{g:G}{b:Nat}{n:Whl}(h:g.Full b n):b<g.w.heap.size:=by
 have h1:=h.1;unfold rowN at h1;cases e:g.w.heap[b]? with
 | none=>rw [e] at h1;cases h1
 | some o=>exact (Array.getElem?_eq_some_iff.1 e).1
theorem G.Full.row{g:G}{b:Nat}{n:Whl}(h:g.Full b n){o:Obj}(ho:g.w.heap[b]? =some o):(∃ cs t u,o= .cells cs t u/\n= .inl cs.size)\/(∃ es k,o= .map es k/\n= .inr (es,k)/\mapsSeal=true):=by
 have h1:=h.1;unfold rowN at h1;rw [ho] at h1;have h2:whl o=some n:=h1;cases o with
 | cells cs t u=>exact .inl ⟨_,_,_,rfl,(Option.some.inj h2).symm⟩
 | map es k=>
  simp only [whl] at h2;cases hm:mapsSeal with
  | true=>rw [hm] at h2;exact .inr ⟨_,_,rfl,(Option.some.inj h2).symm,rfl⟩
  | false=>rw [hm] at h2;cases h2
 | _=>cases h2
theorem G.Full.same{g g':G}{b:Nat}{n:Whl}(h:g.Full b n)(hh:g'.w.heap[b]? =g.w.heap[b]?)(hS:g.S b<=g'.S b):g'.Full b n:=
 ⟨by have:=h.1;unfold rowN at this ⊢;rw [hh];exact this,Nat.le_trans h.2.1 hS,h.2.2⟩
theorem G.Full.pos{g:G}{b:Nat}{n:Whl}(h:g.Full b n)(h0:g.S b=0):False:=by have:=h.2;omega
structure Ext (T:Nat->Prop) (g g':G):Prop where
 os:g'.w.os=g.w.os
 tape:g'.w.tape=g.w.tape
 output:g'.w.output=g.w.output
 size:g.w.heap.size<=g'.w.heap.size
 same:∀ b,b<g.w.heap.size->¬ T b->g'.w.heap[b]? =g.w.heap[b]? /\g'.S b=g.S b
 kept:∀ b i v,g.Has b i v->g'.Has b i v
 rows:∀ b n,g.Full b n->g'.Full b n
def No:Nat->Prop:=λ_=>False
theorem Ext.refl(T:Nat->Prop)(g:G):Ext T g g:=⟨rfl,rfl,rfl,Nat.le_refl _,λ_ _ _=>⟨rfl,rfl⟩,λ_ _ _ h=>h,λ_ _ h=>h⟩
theorem Ext.trans{T':Nat->Prop}{a b c:G}(h:Ext T a b)(k:Ext T' b c)(hT:∀ x,x<a.w.heap.size->T' x->T x):Ext T a c:=
 ⟨k.os.trans h.os,k.tape.trans h.tape,k.output.trans h.output,Nat.le_trans h.size k.size,
  λx hx hn=>by
   have h1:=h.same x hx hn;have h2:=k.same x (Nat.lt_of_lt_of_le hx h.size) (λht=>hn (hT x hx ht));exact ⟨h2.1.trans h1.1,h2.2.trans h1.2⟩,
  λx i v hv=>k.kept x i v (h.kept x i v hv),λx n hv=>k.rows x n (h.rows x n hv)⟩
theorem Ext.mono{T':Nat->Prop}{a b:G}(h:Ext T a b)(hT:∀ x,T x->T' x):Ext T' a b:=
 ⟨h.os,h.tape,h.output,h.size,λx hx hn=>h.same x hx (λht=>hn (hT x ht)),h.kept,h.rows⟩
theorem Ext.no{a b:G}(h:Ext No a b):Ext T a b:=h.mono (λ_ hf=>hf.elim)
theorem Ext.trans'{a b c:G}(h:Ext T a b)(k:Ext No b c):Ext T a c:=h.trans k (λ_ _ hf=>hf.elim)
def G.drew(g:G):G:=⟨g.w.drew,g.S⟩
theorem Ext.drew(T:Nat->Prop)(g:G):Ext T g g.drew:=⟨rfl,rfl,rfl,Nat.le_refl _,λ_ _ _=>⟨rfl,rfl⟩,λ_ _ _ h=>h,λ_ _ h=>h⟩
def G.alloc(g:G)(o:Obj)(s:Nat):G:=⟨g.w.alloc o,λb=>if b=g.w.heap.size then s else g.S b⟩
theorem Ext.alloc(T:Nat->Prop)(g:G)(o:Obj)(s:Nat):Ext T g (g.alloc o s):=by
 refine ⟨rfl,rfl,rfl,by simp [G.alloc],λb hb _=>⟨heap_alloc_old g.w o hb,?_⟩,λb i v hv=>?_,λb n hv=>hv.same (heap_alloc_old g.w o hv.lt) ?_⟩
 .simp only [G.alloc];rw [if_neg (by omega)]
 .have hb:=hv.lt;refine ⟨?_,?_⟩
  .simp only [G.alloc];rw [if_neg (by omega)];exact hv.1
  .show (g.w.alloc o).cell? _=_;rw [World.cell?_alloc_lt (a:=⟨b,i,none⟩) _ _ hb];exact hv.2
 .have:=hv.lt;simp only [G.alloc];rw [if_neg (by omega)];exact Nat.le_refl _
def mkVal(agg:Bool)(cs:List Value):Value:=match agg with
 | true=>.agg cs.toArray
 | false=>cs.headD undef
structure Ty (α:Type) where
 size:Nat
 agg:Bool
 rep:G->List Value->α->Prop
 len:∀ {g cs x},rep g cs x->cs.length=size
 one:∀ {g cs x},rep g cs x->∀ c∈cs,c.oneCell'=true
 mono:∀ {T g g' cs x},Ext T g g'->rep g cs x->rep g' cs x
 sing:agg=false->size=1
structure Asn where
 holds:Value->G->Prop
 mono:∀ {T v g g'},Ext T g g'->holds v g->holds v g'
def Ty.is{α:Type}(t:Ty α)(x:α):Asn:=⟨λv g=>∃ cs,t.rep g cs x/\v=mkVal t.agg cs,λe ⟨cs,h,hv⟩=>⟨cs,t.mono e h,hv⟩⟩
theorem Ty.cells(t:Ty α){g:G}{cs:List Value}(h:t.rep g cs x):(mkVal t.agg cs).cells=cs.toArray:=by
 unfold mkVal;cases hg:t.agg with
 | true=>rfl
 | false=>
  have hl:=t.len h;rw [t.sing hg] at hl
  match cs,hl with
  | [c],_=>
   have hc:=t.one h c (by simp);cases c<;> simp_all [Value.cells,Value.oneCell',List.headD]
def Asn.eq(v0:Value):Asn:=⟨λv _=>v=v0,λ_ h=>h⟩
def Asn.any:Asn:=⟨λ_ _=>True,λ_ h=>h⟩
def Asn.tuple2(A B:Asn):Asn:=⟨λv g=>∃ x y,v= .tuple #[x,y]/\A.holds x g/\B.holds y g,λe ⟨x,y,h,a,b⟩=>⟨x,y,h,A.mono e a,B.mono e b⟩⟩
def Asn.tuple3(A B C:Asn):Asn:=⟨λv g=>∃ x y z,v= .tuple #[x,y,z]/\A.holds x g/\B.holds y g/\C.holds z g,λe ⟨x,y,z,h,a,b,c⟩=>⟨x,y,z,h,A.mono e a,B.mono e b,C.mono e c⟩⟩
def lim:Nat:=140737488355328
def inR(k:IntKind)(n:Int):Prop:=k.min<=n/\n<=k.max
instance (k:IntKind) (n:Int):Decidable (inR k n):=inferInstanceAs (Decidable (_/\_))
def tI(k:IntKind):Ty Int where
 size:=1
 agg:=false
 rep:=λ_ cs n=>cs= [.int k n]/\inR k n
 len:=λh=>by rw [h.1];rfl
 one:=λh c hc=>by rw [h.1] at hc;simp at hc;subst hc;rfl
 mono:=λ_ h=>h
 sing:=λ_=>rfl
def tB:Ty Bool where
 size:=1
 agg:=false
 rep:=λ_ cs b=>cs= [.bool b]
 len:=λh=>by rw [h];rfl
 one:=λh c hc=>by rw [h] at hc;simp at hc;subst hc;rfl
 mono:=λ_ h=>h
 sing:=λ_=>rfl
def str(l:Str):ByteArray:=⟨l.toArray⟩
def tS:Ty Str where
 size:=1
 agg:=false
 rep:=λ_ cs l=>cs= [.string (str l)]/\l.length<=lim
 len:=λh=>by rw [h.1];rfl
 one:=λh c hc=>by rw [h.1] at hc;simp at hc;subst hc;rfl
 mono:=λ_ h=>h
 sing:=λ_=>rfl
def Ty.At{α:Type}(t:Ty α)(g:G)(b o:Nat)(x:α):Prop:=∃ cs,t.rep g cs x/\ ∀ j v,cs[j]? =some v->g.Has b (o+j) v
theorem Ty.At.mono{t:Ty α}{g g':G}{b o:Nat}(e:Ext T g g')(h:t.At g b o x):t.At g' b o x:=by
 obtain ⟨cs,h1,h2⟩:=h;exact ⟨cs,t.mono e h1,λj v hj=>e.kept _ _ _ (h2 j v hj)⟩
def Ty.ptr{α:Type}(t:Ty α)(x:α):Asn:=⟨λv g=>∃ b o,v= .pointer (some ⟨b,o,none⟩)/\t.At g b o x,λe ⟨b,o,h,k⟩=>⟨b,o,h,k.mono e⟩⟩
def Row{α:Type}(t:Ty α)(g:G)(p:Option Addr)(xs:List α):Prop:=
 match p with
 | none=>xs= []
 | some a=>(xs= []\/a.spot=none)/\ ∀ i x,xs[i]? =some x->t.At g a.block (a.off+i*t.size) x
theorem Row.mono{t:Ty α}{g g':G}{p:Option Addr}{xs:List α}(e:Ext T g g')(h:Row t g p xs):Row t g' p xs:=by
 cases p with
 | none=>exact h
 | some a=>exact ⟨h.1,λi x hx=>(h.2 i x hx).mono e⟩
def tL{α:Type}(t:Ty α):Ty (List α) where
 size:=1
 agg:=false
 rep:=λg cs xs=>∃ p c,cs= [.slice p xs.length c]/\xs.length<=c/\xs.length<=lim/\(p=none->c=0)/\Row t g p xs
 len:=λ⟨_,_,h,_⟩=>by rw [h];rfl
 one:=λ⟨_,_,h,_⟩ c hc=>by rw [h] at hc;simp at hc;subst hc;rfl
 mono:=λe ⟨p,c,h1,h2,h3,h4,h5⟩=>⟨p,c,h1,h2,h3,h4,h5.mono e⟩
 sing:=λ_=>rfl
def tLn{α:Type}(t:Ty α):Ty (List α) where
 size:=1
 agg:=false
 rep:=λg cs xs=>∃ p c,cs= [.slice p xs.length c]/\xs.length<=c/\xs.length<=lim/\(p=none->c=0)/\Row t g p xs/\(xs= []->p=none)
 len:=λ⟨_,_,h,_⟩=>by rw [h];rfl
 one:=λ⟨_,_,h,_⟩ c hc=>by rw [h] at hc;simp at hc;subst hc;rfl
 mono:=λe ⟨p,c,h1,h2,h3,h4,h5,h6⟩=>⟨p,c,h1,h2,h3,h4,h5.mono e,h6⟩
 sing:=λ_=>rfl
def tP{α β:Type}(s:Ty α)(t:Ty β):Ty (α×β) where
 size:=s.size+t.size
 agg:=true
 rep:=λg cs x=>∃ c1 c2,cs=c1++c2/\s.rep g c1 x.1/\t.rep g c2 x.2
 len:=λ⟨c1,c2,h,h1,h2⟩=>by rw [h,List.length_append,s.len h1,t.len h2]
 one:=λ⟨c1,c2,h,h1,h2⟩ c hc=>by
  rw [h] at hc;rcases List.mem_append.1 hc with hc | hc
  .exact s.one h1 c hc
  .exact t.one h2 c hc
 mono:=λe ⟨c1,c2,h,h1,h2⟩=>⟨c1,c2,h,s.mono e h1,t.mono e h2⟩
 sing:=λh=>by cases h
def tOne{α:Type}(s:Ty α):Ty α where
 size:=s.size
 agg:=true
 rep:=s.rep
 len:=s.len
 one:=s.one
 mono:=s.mono
 sing:=λh=>by cases h
def tMap{α β:Type}(t:Ty β)(f:α->β):Ty α where
 size:=t.size
 agg:=t.agg
 rep:=λg cs x=>t.rep g cs (f x)
 len:=t.len
 one:=t.one
 mono:=t.mono
 sing:=t.sing
def Fld{α β:Type}(s:Ty α)(o:Nat)(t:Ty β)(f:α->β):Prop:=
 ∀ g cs x,s.rep g cs x->∃ ds,t.rep g ds (f x)/\ ∀ j v,ds[j]? =some v->cs[o+j]? =some v
theorem Fld.here(s:Ty α)(t:Ty β):Fld (tP s t) 0 s Prod.fst:=by
 rintro g cs x ⟨c1,c2,rfl,h1,h2⟩;refine ⟨c1,h1,λj v hj=>?_⟩;rw [Nat.zero_add,List.getElem?_append_left (by have:=(List.getElem?_eq_some_iff.1 hj).1;omega)];exact hj
theorem Fld.next{γ:Type}{s:Ty α}{t:Ty β}{u:Ty γ}{o:Nat}{f:β->γ}(h:Fld t o u f):Fld (tP s t) (s.size+o) u (λx=>f x.2):=by
 rintro g cs x ⟨c1,c2,rfl,h1,h2⟩;obtain ⟨ds,hd,hj⟩:=h g c2 x.2 h2;refine ⟨ds,hd,λj v hv=>?_⟩;have:=hj j v hv;rw [List.getElem?_append_right (by rw [s.len h1];omega),s.len h1];rw [show s.size+o+j-s.size=o+j by omega];exact this
theorem Fld.last(s:Ty α):Fld s 0 s (λx=>x):=λg cs x h=>⟨cs,h,λj v hv=>by rw [Nat.zero_add];exact hv⟩
theorem Fld.map{γ:Type}{t:Ty β}{u:Ty γ}{o:Nat}{f:β->γ}{m:α->β}(h:Fld t o u f):Fld (tMap t m) o u (λx=>f (m x)):=
 λg cs x hx=>h g cs (m x) hx
theorem Fld.cast{s:Ty α}{o o':Nat}{t:Ty β}{f f':α->β}(h:Fld s o t f)(ho:o'=o)(hf:f'=f):Fld s o' t f':=by subst ho hf;exact h
theorem Fld.at{s:Ty α}{o:Nat}{t:Ty β}{f:α->β}(h:Fld s o t f){g:G}{b p:Nat}(ha:s.At g b p x):t.At g b (p+o) (f x):=by
 obtain ⟨cs,h1,h2⟩:=ha;obtain ⟨ds,hd,hj⟩:=h g cs x h1;refine ⟨ds,hd,λj v hv=>?_⟩;rw [Nat.add_assoc];exact h2 _ _ (hj j v hv)
abbrev Env:=List (Nat×Asn)
def look(s:Nat):Env->Option Asn
 | []=>none
 | (k,A) :: r=>match Nat.beq k s with
  | true=>some A
  | false=>look s r
theorem dh(s:Nat)(A:Asn)(r:Env):look s ((s,A) :: r)=some A:=by
 have:Nat.beq s s=true:=Nat.beq_refl s;simp only [look,this]
theorem bL{s:Nat}(A:Asn)(r:Env)(h:k≠s):look s ((k,A) :: r)=look s r:=by
 have:Nat.beq k s=false:=by
  cases hb:Nat.beq k s with
  | false=>rfl
  | true=>exact absurd (Nat.eq_of_beq_eq_true hb) h
 simp only [look,this]
def Ent(s:Nat)(A:Asn)(e:Env):Prop:=∃ A0,look s e=some A0/\ ∀ v g,A0.holds v g->A.holds v g
theorem Ent.q{s:Nat}{A:Asn}{e:Env}(h:look s e=some A):Ent s A e:=⟨A,h,λ_ _ h=>h⟩
theorem Ent.w{s:Nat}{A A0:Asn}{e:Env}(h:look s e=some A0)(k:∀ v g,A0.holds v g->A.holds v g):Ent s A e:=⟨A0,h,k⟩
def Sub:Env->Env->Prop
 | [],_=>True
 | (s,A) :: r,e=>Ent s A e/\Sub r e
theorem Sub.look:∀ {e' e:Env},Sub e' e->∀ s A,look s e'=some A->Ent s A e
 | [],_,_,s,A,h=>by simp [Dec.look] at h
 | (k,B) :: r,e,⟨h1,h2⟩,s,A,h=>by
  by_cases hk:k=s
  .subst hk;rw [dh] at h;cases h;exact h1
  .rw [bL _ _ hk] at h;exact Sub.look h2 s A h
structure Res where
 blk:Nat->Prop
 holds:G->Prop
 stay:∀ {T g g'},Ext T g g'->(∀ b,blk b->¬ T b)->holds g->holds g'
 lt:∀ {g b},holds g->blk b->b<g.w.heap.size
abbrev Rs:=List (Nat×Res)
def Rs.dis(r:Rs):Prop:=r.Pairwise (λx y=>∀ b,x.2.blk b->¬ y.2.blk b)
def Rs.blks(r:Rs)(b:Nat):Prop:=∃ x∈r,x.2.blk b
def Rs.all(r:Rs)(g:G):Prop:=∀ x∈r,x.2.holds g
def memB(k:Nat):List Nat->Bool
 | []=>false
 | x :: r=>match Nat.beq x k with
  | true=>true
  | false=>memB k r
def Rs.pick(ks:List Nat)(r:Rs):Rs:=r.filter (λx=>memB x.1 ks)
def Rs.drop(ks:List Nat)(r:Rs):Rs:=r.filter (λx=>!memB x.1 ks)
def findR(k:Nat):Rs->Option Res
 | []=>none
 | x :: r=>match Nat.beq x.1 k with
  | true=>some x.2
  | false=>findR k r
theorem fO{R:Res}:∀ {r:Rs},findR k r=some R->(k,R)∈r
 | [],h=>by simp [findR] at h
 | x :: r,h=>by
  unfold findR at h;cases hb:Nat.beq x.1 k with
  | true=>
   rw [hb] at h;cases h;have:=Nat.eq_of_beq_eq_true hb;subst this;exact List.mem_cons_self
  | false=>rw [hb] at h;exact List.mem_cons_of_mem _ (fO h)
def keyIn(k:Nat):Rs->Bool
 | []=>false
 | x :: r=>match Nat.beq x.1 k with
  | true=>true
  | false=>keyIn k r
theorem yZ{R:Res}:∀ {r:Rs},(k,R)∈r->keyIn k r=true
 | x :: r,h=>by
  unfold keyIn;cases hb:Nat.beq x.1 k with
  | true=>rfl
  | false=>
   rcases List.mem_cons.1 h with e | h
   .subst e;rw [Nat.beq_refl] at hb;cases hb
   .exact yZ h
def RSub:Rs->Rs->Prop
 | [],_=>True
 | x :: r',r=>findR x.1 r=some x.2/\keyIn x.1 r'=false/\RSub r' r
theorem RSub.mem:∀ {r' r:Rs},RSub r' r->∀ x∈r',x∈r
 | y :: r',r,⟨h1,_,h3⟩,x,hx=>by
  rcases List.mem_cons.1 hx with rfl | hx
  .exact fO h1
  .exact RSub.mem h3 x hx
theorem Rs.dis.two{r:Rs}(h:r.dis):∀ x∈r,∀ y∈r,x.1≠y.1->∀ b,x.2.blk b->¬ y.2.blk b:=by
 induction r with
 | nil=>intro x hx;cases hx
 | cons z r ih=>
  have hp:=List.pairwise_cons.1 h;intro x hx y hy hxy b hb hyb;rcases List.mem_cons.1 hx with hx1 | hx1
  .rcases List.mem_cons.1 hy with hy1 | hy1
   .exact hxy (by rw [hx1,hy1])
   .rw [hx1] at hb;exact hp.1 y hy1 b hb hyb
  .rcases List.mem_cons.1 hy with hy1 | hy1
   .rw [hy1] at hyb;exact hp.1 x hx1 b hyb hb
   .exact ih hp.2 x hx1 y hy1 hxy b hb hyb
theorem RSub.dis:∀ {r' r:Rs},RSub r' r->r.dis->r'.dis
 | [],_,_,_=>List.Pairwise.nil
 | x :: r',r,⟨h1,h2,h3⟩,hd=>by
  refine List.pairwise_cons.2 ⟨λy hy b hb=>?_,RSub.dis h3 hd⟩;refine hd.two x (fO h1) y (h3.mem y hy) (λe=>?_) b hb;obtain ⟨k,R⟩:=y;simp at e;rw [e,yZ hy] at h2;cases h2
structure St (N:Nat) (g0:G) (T0:Nat->Prop) (env:Env) (res:Rs) (a:Act) (g:G):Prop where
 sz:a.tmps.size=N
 dfr:a.defers= []
 henv:∀ s A,look s env=some A->A.holds (a.tmps.getD s undef) g
 hres:res.all g
 dis:res.dis
 own:∀ b,res.blks b->g0.w.heap.size<=b\/T0 b
 ext:Ext T0 g0 g
structure Cx (env:Env) (res:Rs) (a:Act) (g:G):Prop where
 henv:∀ s A,look s env=some A->A.holds (a.tmps.getD s undef) g
 hres:res.all g
theorem St.cx{g0:G}{env:Env}{res:Rs}{a:Act}{g:G}(h:St N g0 T0 env res a g):Cx env res a g:=⟨h.henv,h.hres⟩
theorem Rs.all.stay{r:Rs}{g g':G}(h:r.all g)(e:Ext T g g')(hT:∀ b,r.blks b->¬ T b):r.all g':=
 λx hx=>x.2.stay e (λb hb=>hT b ⟨x,hx,hb⟩) (h x hx)
theorem ry{a:Act}(h:d<a.tmps.size):(a.put (some d) v).tmps.getD d undef=v:=by
 simp [Act.put,Array.getD,h]
theorem mr{a:Act}{s:Nat}(h:d≠s):(a.put (some d) v).tmps.getD s undef=a.tmps.getD s undef:=by
 simp [Act.put,Array.getElem?_setIfInBounds_ne h]
theorem St.put{g0:G}{env:Env}{res:Rs}{a:Act}{g g':G}(h:St N g0 T0 env res a g){A:Asn}(hd:d<N)
  (e:Ext No g g') (hv:A.holds v g'):St N g0 T0 ((d,A) :: env) res (a.put (some d) v) g':=by
 refine ⟨by simp [Act.put,h.sz],h.dfr,λs B hs=>?_,h.hres.stay e (λ_ _ hf=>hf),h.dis,h.own,h.ext.trans' e⟩;by_cases hk:d=s
 .subst hk;rw [dh] at hs;cases hs;rw [ry (by rw [h.sz];exact hd)];exact hv
 .rw [bL _ _ hk] at hs;rw [mr hk];exact B.mono e (h.henv s B hs)
theorem St.weaken{g0:G}{env env':Env}{res res':Rs}{a:Act}{g:G}(h:St N g0 T0 env res a g)(hs:Sub env' env)(hr:RSub res' res):St N g0 T0 env' res' a g:=
 ⟨h.sz,h.dfr,λs A hA=>let ⟨A0,h1,h2⟩:=hs.look s A hA;h2 _ _ (h.henv s A0 h1),λx hx=>h.hres x (hr.mem x hx),hr.dis h.dis,λb ⟨x,hx,hb⟩=>h.own b ⟨x,hr.mem x hx,hb⟩,h.ext⟩
theorem Rs.dis.split{r:Rs}(h:r.dis)(ks:List Nat):∀ b,(r.drop ks).blks b->¬ (r.pick ks).blks b:=by
 rintro b ⟨x,hx,hxb⟩ ⟨y,hy,hyb⟩;have hx':=List.mem_filter.1 hx;have hy':=List.mem_filter.1 hy;induction r with
 | nil=>cases hx'.1
 | cons z r ih=>
  have hp:=List.pairwise_cons.1 h;rcases List.mem_cons.1 hx'.1 with rfl | hx1
  .rcases List.mem_cons.1 hy'.1 with rfl | hy1
   .have a1:=hx'.2;have a2:=hy'.2;simp at a1 a2;simp [a1] at a2
   .exact hp.1 y hy1 b hxb hyb
  .rcases List.mem_cons.1 hy'.1 with rfl | hy1
   .exact hp.1 x hx1 b hyb hxb
   .exact ih hp.2 (List.mem_filter.2 ⟨hx1,hx'.2⟩) (List.mem_filter.2 ⟨hy1,hy'.2⟩) ⟨hx1,hx'.2⟩ ⟨hy1,hy'.2⟩
theorem St.putR{g0:G}{env:Env}{res:Rs}{a:Act}{g g':G}(h:St N g0 T0 env res a g)(ks:List Nat)(out:Rs){A:Asn}(hd:d<N)
  (e:Ext (res.pick ks).blks g g') (hv:A.holds v g') (ho:out.all g') (hod:out.dis) (hob:∀ b,out.blks b->(res.pick ks).blks b\/g.w.heap.size<=b) :
  St N g0 T0 ((d,A) :: env) (out++res.drop ks) (a.put (some d) v) g':=by
 have hdr:∀ b,(res.drop ks).blks b->b<g.w.heap.size:=by
  rintro b ⟨x,hx,hb⟩;exact x.2.lt (h.hres x (List.mem_filter.1 hx).1) hb
 refine ⟨by simp [Act.put,h.sz],h.dfr,λs B hs=>?_,?_,?_,?_,?_⟩
 .by_cases hk:d=s
  .subst hk;rw [dh] at hs;cases hs;rw [ry (by rw [h.sz];exact hd)];exact hv
  .rw [bL _ _ hk] at hs;rw [mr hk];exact B.mono e (h.henv s B hs)
 .intro x hx;rcases List.mem_append.1 hx with hx | hx
  .exact ho x hx
  .exact x.2.stay e (λb hb ht=>h.dis.split ks b ⟨x,hx,hb⟩ ht) (h.hres x (List.mem_filter.1 hx).1)
 .refine List.pairwise_append.2 ⟨hod,h.dis.filter _,λx hx y hy b hxb hyb=>?_⟩;rcases hob b ⟨x,hx,hxb⟩ with hp | hp
  .exact h.dis.split ks b ⟨y,hy,hyb⟩ hp
  .have:=hdr b ⟨y,hy,hyb⟩;omega
 .rintro b ⟨x,hx,hb⟩;rcases List.mem_append.1 hx with hx | hx
  .rcases hob b ⟨x,hx,hb⟩ with ⟨y,hy,hyb⟩ | hp
   .exact h.own b ⟨y,(List.mem_filter.1 hy).1,hyb⟩
   .exact .inl (Nat.le_trans h.ext.size hp)
  .exact h.own b ⟨x,(List.mem_filter.1 hx).1,hb⟩
 .refine h.ext.trans e (λb hb ⟨x,hx,hxb⟩=>?_);rcases h.own b ⟨x,(List.mem_filter.1 hx).1,hxb⟩ with h1 | h1
  .omega
  .exact h1
end Go.Dec
/-
  Rules for code and for regions, over the logic of the first text.
-/
namespace Go.Dec
open Go
variable {A:Asn}{As:List Asn}{P:Program}{aft:Array Edge}{c:Code}{d dj:Nat}{f:FuncId}{j:Nat}{oj:Oper}{res':Rs}{ty:TypeId}{want:Bool}{ρ:Type}
inductive KF where
 | seq (c:Code)
 | block (id:Nat)
 | loop (K:Act->World->Prop)
def KF.sem(P:Program):List KF->(Exit->Act->World->Prop)->Exit->Act->World->Prop
 | [],B=>B
 | .seq c :: ks,B=>Exit.then (c.wp P (KF.sem P ks B)) (KF.sem P ks B)
 | .block id :: ks,B=>Exit.inBlock id (KF.sem P ks B)
 | .loop K :: ks,B=>Exit.then K (KF.sem P ks B)
section
variable {P:Program} {N:Nat} {g0:G} {T0:Nat->Prop} {ks:List KF} {B:Exit->Act->World->Prop} {env:Env} {res:Rs}
def W(P:Program)(N:Nat)(g0:G)(T0:Nat->Prop)(c:Code)(ks:List KF)(B:Exit->Act->World->Prop)(env:Env)(res:Rs):Prop:=
 ∀ a g,St N g0 T0 env res a g->c.wp P (KF.sem P ks B) a g.w
def WN(P:Program)(N:Nat)(g0:G)(T0:Nat->Prop)(ks:List KF)(B:Exit->Act->World->Prop)(env:Env)(res:Rs):Prop:=
 ∀ a g,St N g0 T0 env res a g->KF.sem P ks B .normal a g.w
theorem W.seq{d:Code}(h:W P N g0 T0 c (.seq d :: ks) B env res):W P N g0 T0 (.seq c d) ks B env res:=
 λa g hs=>wp_seq (h a g hs)
theorem W.block{id:Nat}(h:W P N g0 T0 c (.block id :: ks) B env res):W P N g0 T0 (.block id c) ks B env res:=
 λa g hs=>wp_block (h a g hs)
theorem W.skip(h:WN P N g0 T0 ks B env res):W P N g0 T0 .skip ks B env res:=λa g hs=>wp_skip (h a g hs)
theorem WN.seq(h:W P N g0 T0 c ks B env res):WN P N g0 T0 (.seq c :: ks) B env res:=h
theorem WN.block{id:Nat}(h:WN P N g0 T0 ks B env res):WN P N g0 T0 (.block id :: ks) B env res:=h
theorem W.weaken{env':Env}(hs:Sub env' env)(hr:RSub res' res)(h:W P N g0 T0 c ks B env' res'):W P N g0 T0 c ks B env res:=
 λa g hst=>h a g (hst.weaken hs hr)
theorem WN.weaken{env':Env}(hs:Sub env' env)(hr:RSub res' res)(h:WN P N g0 T0 ks B env' res'):WN P N g0 T0 ks B env res:=
 λa g hst=>h a g (hst.weaken hs hr)
def popTo(id:Nat):List KF->Option (List KF)
 | []=>none
 | .block i :: ks=>match Nat.beq id i with
  | true=>some ks
  | false=>popTo id ks
 | .seq _ :: ks=>popTo id ks
 | .loop _ :: ks=>popTo id ks
theorem xq{id:Nat}:∀ {ks ks':List KF},popTo id ks=some ks'->∀ a w,KF.sem P ks' B .normal a w->KF.sem P ks B (.exit id) a w
 | [],_,h,_,_,_=>by cases h
 | .seq _ :: ks,ks',h,a,w,q=>xq (ks:=ks) h a w q
 | .loop _ :: ks,ks',h,a,w,q=>xq (ks:=ks) h a w q
 | .block i :: ks,ks',h,a,w,q=>by
  unfold popTo at h;cases hb:Nat.beq id i with
  | true=>
   rw [hb] at h;cases h;have:=Nat.eq_of_beq_eq_true hb;show (if id=i then _ else _);rw [if_pos this];exact q
  | false=>
   rw [hb] at h;have hne:¬ id=i:=λe=>by subst e;rw [Nat.beq_refl] at hb;cases hb
   show (if id=i then _ else _);rw [if_neg hne];exact xq (ks:=ks) h a w q
theorem W.exit{id:Nat}{ks':List KF}(hp:popTo id ks=some ks')(h:WN P N g0 T0 ks' B env res):W P N g0 T0 (.exit id) ks B env res:=
 λa g hs=>wp_exit (xq hp a g.w (h a g hs))
theorem Bl:∀ {ks:List KF} {a:Act} {w:World},B .ret a w->KF.sem P ks B .ret a w
 | [],_,_,h=>h
 | .seq _ :: ks,_,_,h=>Bl (ks:=ks) h
 | .block _ :: ks,_,_,h=>Bl (ks:=ks) h
 | .loop _ :: ks,_,_,h=>Bl (ks:=ks) h
theorem W.ret(h:∀ a g,St N g0 T0 env res a g->B .ret a g.w):W P N g0 T0 .ret ks B env res:=
 λa g hs=>wp_ret (Bl (h a g hs))
def Opd(env:Env)(x:Operand)(A:Asn):Prop:=∀ (a:Act) (g:G),(∀ s B,look s env=some B->B.holds (a.tmps.getD s undef) g)->A.holds (a.eval x) g
theorem Opd.tmp{t:Nat}(h:look t env=some A):Opd env (.tmp t) A:=λa g he=>he t A h
theorem Opd.int{k:IntKind}{n:Int}(h:inR k n):Opd env (.const (.int k n)) ((tI k).is n):=λ_ _ _=>⟨_,⟨rfl,h⟩,rfl⟩
theorem Opd.bool{b:Bool}:Opd env (.const (.bool b)) (tB.is b):=λ_ _ _=>⟨_,rfl,rfl⟩
theorem Opd.str{l:Str}{s:ByteArray}(hs:s=Dec.str l)(h:l.length<=lim):Opd env (.const (.string s)) (tS.is l):=λ_ _ _=>⟨_,⟨rfl,h⟩,by subst hs;rfl⟩
theorem Opd.nil{α:Type}{t:Ty α}:Opd env (.const (.slice none 0 0)) ((tL t).is []):=
 λ_ _ _=>⟨_,⟨none,0,rfl,Nat.le_refl _,Nat.zero_le _,λ_=>rfl,rfl⟩,rfl⟩
theorem Opd.nilN{α:Type}{t:Ty α}:Opd env (.const (.slice none 0 0)) ((tLn t).is []):=
 λ_ _ _=>⟨_,⟨none,0,rfl,Nat.le_refl _,Nat.zero_le _,λ_=>rfl,rfl,λ_=>rfl⟩,rfl⟩
theorem Opd.const{v:Value}:Opd env (.const v) (Asn.eq v):=λ_ _ _=>rfl
theorem Opd.func:Opd env (.func f) (Asn.eq (.func (.func f) #[] #[])):=λ_ _ _=>rfl
theorem Opd.weak{x:Operand}{A':Asn}(h:Opd env x A)(hA:∀ v g,A.holds v g->A'.holds v g):Opd env x A':=λa g he=>hA _ _ (h a g he)
theorem W.cond{x:Operand}{d:Code}{b:Bool}(hx:Opd env x (tB.is b))(ht:b=true->W P N g0 T0 c ks B env res)(hf:b=false->W P N g0 T0 d ks B env res) :
  W P N g0 T0 (.cond x c d) ks B env res:=by
 intro a g hs;obtain ⟨cs,hc,hv⟩:=hx a g hs.henv;have hv':a.eval x= .bool b:=by rw [hv,show cs= [.bool b] from hc];rfl
 cases b with
 | true=>exact wp_cond_true hv' (ht rfl a g hs)
 | false=>exact wp_cond_false hv' (hf rfl a g hs)
theorem W.loop{σ:Type}(I:Nat->σ->Prop)(eI:σ->Env)(rI:σ->Rs)(n0:Nat)(s0:σ)(h0:I n0 s0)(hs:Sub (eI s0) env)(hr:RSub (rI s0) res)
  (round:∀ n s,I n s->W P N g0 T0 c (.loop (λa w=>∃ n' s' g,n'< n/\I n' s'/\g.w=w/\St N g0 T0 (eI s') (rI s') a g) :: ks) B (eI s) (rI s)) :
  W P N g0 T0 (.loop c) ks B env res:=by
 intro a g hst;refine wp_loop_ghost (λn a w=>∃ s g,I n s/\g.w=w/\St N g0 T0 (eI s) (rI s) a g) n0 ⟨s0,g,h0,rfl,hst.weaken hs hr⟩ ?_;rintro n a w ⟨s,g,hI,rfl,hst⟩;refine wp_mono (round n s hI a g hst) ?_;intro e a' w' hq;cases e with
 | normal=>
  obtain ⟨n',s',g',h1,h2,h3,h4⟩:=hq;exact ⟨n',h1,s',g',h2,h3,h4⟩
 | exit id=>exact hq
 | goto l=>exact hq
 | ret=>exact hq
 | panic ch=>exact hq
 | outgrown=>exact hq
theorem WN.again{σ:Type}{I:Nat->σ->Prop}{eI:σ->Env}{rI:σ->Rs}{n:Nat}(n':Nat)(s':σ)(hn:n'< n)(hI:I n' s')(hs:Sub (eI s') env)(hr:RSub (rI s') res) :
  WN P N g0 T0 (.loop (λa w=>∃ n' s' g,n'< n/\I n' s'/\g.w=w/\St N g0 T0 (eI s') (rI s') a g) :: ks) B env res:=
 λa g hst=>⟨n',s',g,hn,hI,rfl,hst.weaken hs hr⟩
def WL(P:Program)(N:Nat)(g0:G)(T0:Nat->Prop)(ops:Array Oper)(Q:Exit->Act->World->Prop)(l:List Oper)(env:Env)(res:Rs):Prop:=
 ∀ a g,St N g0 T0 env res a g->wpList P ops Q l a g.w
theorem W.region{id:Nat}{l:List Oper}(h:WL P N g0 T0 l.toArray (KF.sem P ks B) l env res):W P N g0 T0 (.region id l.toArray false) ks B env res:=
 λa g hs=>wp_region_lit (h a g hs)
def Op1(P:Program)(o:Oper)(env:Env)(res:Rs)(A:Asn):Prop:=
 ∀ a g (K:Act->World->Prop) Q,Cx env res a g->(∀ v g',Ext No g g'->A.holds v g'->K (a.put o.dst v) g'.w)->o.wp P a g.w K Q
def OpR(P:Program)(o:Oper)(env:Env)(res:Rs)(ks:List Nat){ρ:Type}(A:ρ->Asn)(out:ρ->Rs):Prop:=
 ∀ a g (K:Act->World->Prop) Q,Cx env res a g->res.dis->
  (∀ x v g',Ext (res.pick ks).blks g g'->(A x).holds v g'->(out x).all g'->(out x).dis->(∀ b,(out x).blks b->(res.pick ks).blks b\/g.w.heap.size<=b)->K (a.put o.dst v) g'.w)->
  o.wp P a g.w K Q
section
variable {ops:Array Oper} {Q:Exit->Act->World->Prop} {rest:List Oper}
theorem WL.nil(h:WN P N g0 T0 ks B env res):WL P N g0 T0 ops (KF.sem P ks B) [] env res:=λa g hs=>h a g hs
theorem WL.chg{l:List Oper}(hr:∀ a g,St N g0 T0 env res a g->St N g0 T0 env res' a g)(h:WL P N g0 T0 ops Q l env res'):WL P N g0 T0 ops Q l env res:=
 λa g hst=>h a g (hr a g hst)
theorem WL.op{op:Op}{pos:String}(hd:Nat.blt d N=true)(h:Op1 P ⟨some d,op,ty,pos,aft,none⟩ env res A)
  (k:WL P N g0 T0 ops Q rest ((d,A) :: env) res):WL P N g0 T0 ops Q (⟨some d,op,ty,pos,aft,none⟩ :: rest) env res:=by
 intro a g hs;refine wpList_plain rfl λK hK=>h a g K Q hs.cx λv g' e hv=>hK _ _ (k _ _ (hs.put (by simpa [Nat.blt_eq] using hd) e hv))
theorem WL.opR{A:ρ->Asn}{out:ρ->Rs}{op:Op}{pos:String}{us:List Nat}(hd:Nat.blt d N=true)
  (h:OpR P ⟨some d,op,ty,pos,aft,none⟩ env res us A out)
  (k:∀ x,WL P N g0 T0 ops Q rest ((d,A x) :: env) (out x++res.drop us)):WL P N g0 T0 ops Q (⟨some d,op,ty,pos,aft,none⟩ :: rest) env res:=by
 intro a g hs;refine wpList_plain rfl λK hK=>h a g K Q hs.cx hs.dis λx v g' e hv ho hod hob=>hK _ _ (k x _ _ (hs.putR us (out x) (by simpa [Nat.blt_eq] using hd) e hv ho hod hob))
theorem WL.opU{A:ρ->Asn}{out:ρ->Rs}{op:Op}{pos:String}{us:List Nat}
  (h:OpR P ⟨none,op,ty,pos,aft,none⟩ env res us A out)
  (k:∀ x,WL P N g0 T0 ops Q rest env (out x++res.drop us)):WL P N g0 T0 ops Q (⟨none,op,ty,pos,aft,none⟩ :: rest) env res:=by
 intro a g hs;refine wpList_plain rfl λK hK=>h a g K Q hs.cx hs.dis λx v g' e hv ho hod hob=>hK _ _ (k x _ _ ?_);have hdr:∀ b,(res.drop us).blks b->b<g.w.heap.size:=by
  rintro b ⟨y,hy,hb⟩;exact y.2.lt (hs.hres y (List.mem_filter.1 hy).1) hb
 refine ⟨hs.sz,hs.dfr,λs C hC=>C.mono e (hs.henv s C hC),?_,?_,?_,?_⟩
 .intro y hy;rcases List.mem_append.1 hy with hy | hy
  .exact ho y hy
  .exact y.2.stay e (λb hb ht=>hs.dis.split us b ⟨y,hy,hb⟩ ht) (hs.hres y (List.mem_filter.1 hy).1)
 .refine List.pairwise_append.2 ⟨hod,hs.dis.filter _,λy hy z hz b hyb hzb=>?_⟩;rcases hob b ⟨y,hy,hyb⟩ with hp | hp
  .exact hs.dis.split us b ⟨z,hz,hzb⟩ hp
  .have:=hdr b ⟨z,hz,hzb⟩;omega
 .rintro b ⟨y,hy,hb⟩;rcases List.mem_append.1 hy with hy | hy
  .rcases hob b ⟨y,hy,hb⟩ with ⟨z,hz,hzb⟩ | hp
   .exact hs.own b ⟨z,(List.mem_filter.1 hz).1,hzb⟩
   .exact .inl (Nat.le_trans hs.ext.size hp)
  .exact hs.own b ⟨y,(List.mem_filter.1 hy).1,hb⟩
 .refine hs.ext.trans e (λb hb ⟨y,hy,hyb⟩=>?_);rcases hs.own b ⟨y,(List.mem_filter.1 hy).1,hyb⟩ with h1 | h1
  .omega
  .exact h1
theorem xu{o:Oper}{b:Bool}{a:Act}{g:G}(hg:o.guard=some (j,want))(hj:ops[j]? =some oj)(hdj:oj.dst=some dj)
  (hx:Opd env (.tmp dj) (tB.is b)) (he:∀ s A,look s env=some A->A.holds (a.tmps.getD s undef) g) (hsz:dj<a.tmps.size):Region.wanted o (yielded ops a.tmps)=(b==want):=by
 obtain ⟨cs,hc,hv⟩:=hx a g he;have hv':a.tmps.getD dj undef= .bool b:=by
  have:a.eval (.tmp dj)= .bool b:=by rw [hv,show cs= [.bool b] from hc];rfl
  exact this
 have hv2:a.tmps[dj]? =some (.bool b):=by
  rw [Array.getElem?_eq_getElem hsz];rw [<-hv'];simp [Array.getD,hsz]
 unfold Region.wanted;rw [hg];simp only [yielded,hj,Option.bind_some,hdj,hv2];cases b<;> cases want<;> rfl
theorem WL.run{o:Oper}{b:Bool}{op:Op}{pos:String}(ho:o=⟨some d,op,ty,pos,aft,some (j,want)⟩)
  (hj:ops[j]? =some oj) (hdj:oj.dst=some dj) (hx:look dj env=some (tB.is b)) (hb:b=want) (hN:Nat.blt dj N=true) (hd:Nat.blt d N=true)
  (h:Op1 P ⟨some d,op,ty,pos,aft,some (j,want)⟩ env res A) (k:WL P N g0 T0 ops Q rest ((d,A) :: env) res):WL P N g0 T0 ops Q (o :: rest) env res:=by
 subst ho;intro a g hs;have hw:=xu (o:=⟨some d,op,ty,pos,aft,some (j,want)⟩) rfl hj hdj (Opd.tmp hx) hs.henv (by rw [hs.sz];simpa [Nat.blt_eq] using hN);refine wpList_step λK hK=>?_;rw [if_pos (by rw [hw,hb];cases want<;> rfl)];exact h a g K Q hs.cx λv g' e hv=>hK _ _ (k _ _ (hs.put (by simpa [Nat.blt_eq] using hd) e hv))
theorem WL.pass{o:Oper}{b:Bool}{op:Op}{pos:String}(ho:o=⟨some d,op,ty,pos,aft,some (j,want)⟩)
  (hj:ops[j]? =some oj) (hdj:oj.dst=some dj) (hx:look dj env=some (tB.is b)) (hb:b= !want) (hN:Nat.blt dj N=true) (hd:Nat.blt d N=true)
  (k:WL P N g0 T0 ops Q rest ((d,Asn.eq undef) :: env) res):WL P N g0 T0 ops Q (o :: rest) env res:=by
 subst ho;intro a g hs;have hw:=xu (o:=⟨some d,op,ty,pos,aft,some (j,want)⟩) rfl hj hdj (Opd.tmp hx) hs.henv (by rw [hs.sz];simpa [Nat.blt_eq] using hN);refine wpList_step λK hK=>?_;rw [if_neg (by rw [hw,hb];cases want<;> decide)];exact hK _ _ (k _ _ (hs.put (by simpa [Nat.blt_eq] using hd) (Ext.refl _ _) rfl))
theorem wo{o:Oper}{a:Act}{g:G}(hg:o.guard=some (j,want))(hj:ops[j]? =some oj)(hdj:oj.dst=some dj)
  (hx:look dj env=some (Asn.eq undef)) (he:∀ s A,look s env=some A->A.holds (a.tmps.getD s undef) g) (hsz:dj<a.tmps.size):Region.wanted o (yielded ops a.tmps)=false:=by
 have hv':a.tmps.getD dj undef=undef:=he dj _ hx;have hv2:a.tmps[dj]? =some undef:=by
  rw [Array.getElem?_eq_getElem hsz];rw [<-hv'];simp [Array.getD,hsz]
 unfold Region.wanted;rw [hg];simp only [yielded,hj,Option.bind_some,hdj,hv2];rfl
theorem WL.pass2{o:Oper}{op:Op}{pos:String}(ho:o=⟨some d,op,ty,pos,aft,some (j,want)⟩)
  (hj:ops[j]? =some oj) (hdj:oj.dst=some dj) (hx:look dj env=some (Asn.eq undef)) (hN:Nat.blt dj N=true) (hd:Nat.blt d N=true)
  (k:WL P N g0 T0 ops Q rest ((d,Asn.eq undef) :: env) res):WL P N g0 T0 ops Q (o :: rest) env res:=by
 subst ho;intro a g hs;have hw:=wo (o:=⟨some d,op,ty,pos,aft,some (j,want)⟩) rfl hj hdj hx hs.henv (by rw [hs.sz];simpa [Nat.blt_eq] using hN);refine wpList_step λK hK=>?_;rw [if_neg (by rw [hw];decide)];exact hK _ _ (k _ _ (hs.put (by simpa [Nat.blt_eq] using hd) (Ext.refl _ _) rfl))
end
end
def All2:List Asn->List Value->G->Prop
 | [],[],_=>True
 | A :: As,v :: vs,g=>A.holds v g/\All2 As vs g
 | _,_,_=>False
theorem All2.len:∀ {As:List Asn} {vs:List Value} {g:G},All2 As vs g->vs.length=As.length
 | [],[],_,_=>rfl
 | A :: As,v :: vs,g,h=>by simp [All2.len h.2]
def FSpec(P:Program)(f:FuncId)(As:List Asn)(A:Asn):Prop:=
 ∀ g vs,All2 As vs g->Calls P f vs.toArray g.w λe w'=>∃ v g',g'.w=w'/\e= .returned v/\Ext No g g'/\A.holds v g'
def aR(P:Program)(f:FuncId)(As:List Asn)(rin:Rs){ρ:Type}(A:ρ->Asn)(out:ρ->Rs):Prop:=
 ∀ g vs,All2 As vs g->rin.all g->rin.dis->Calls P f vs.toArray g.w λe w'=>∃ x v g',g'.w=w'/\e= .returned v/\Ext rin.blks g g'/\(A x).holds v g'/\
  (out x).all g'/\(out x).dis/\(∀ b,(out x).blks b->rin.blks b\/g.w.heap.size<=b)
def envFrom(k:Nat):List Asn->Env
 | []=>[]
 | A :: As=>(k,A) :: envFrom (k+1) As
theorem envFrom_holds{g:G}(all:List Value):∀ (As:List Asn) (vs:List Value) (k:Nat),All2 As vs g->(∀ j v,vs[j]? =some v->all[k+j]? =some v)->
  ∀ s B,look s (envFrom k As)=some B->∃ v,all[s]? =some v/\B.holds v g
 | [],_,_,_,_,s,B,h=>by simp [envFrom,look] at h
 | A :: As,[],_,hA,_,_,_,_=>by simp [All2] at hA
 | A :: As,v :: vs,k,hA,hj,s,B,h=>by
  unfold envFrom at h;by_cases hk:k=s
  .subst hk;rw [dh] at h;cases h;exact ⟨v,by have:=hj 0 v rfl;simpa using this,hA.1⟩
  .rw [bL _ _ hk] at h;exact envFrom_holds all As vs (k+1) hA.2 (λj u hu=>by have:=hj (j+1) u (by simpa using hu);rwa [show k+(j+1)=k+1+j by omega] at this) s B h
def Bo(P:Program)(fn:Func)(g0:G)(rin:Rs){ρ:Type}(A:ρ->Asn)(out:ρ->Rs):Exit->Act->World->Prop:=
 bodyPost P fn λe w'=>∃ x v g',g'.w=w'/\e= .returned v/\Ext rin.blks g0 g'/\(A x).holds v g'/\(out x).all g'/\(out x).dis/\(∀ b,(out x).blks b->rin.blks b\/g0.w.heap.size<=b)
theorem aR.of{fn:Func}{N:Nat}{rin:Rs}{A:ρ->Asn}{out:ρ->Rs}(hf:P.funcs[f]? =some fn)(hb:fn.body=some c)(hN:fn.ntmps=N)
  (hA:Nat.ble As.length N=true) (h:∀ g0,W P N g0 rin.blks c [] (Bo P fn g0 rin A out) (envFrom 0 As) rin):aR P f As rin A out:=by
 intro g vs hvs hr hd;refine calls_of_wp hf hb (h g _ g ?_);have hl:=hvs.len;have hle:As.length<=N:=Nat.le_of_ble_eq_true hA;refine ⟨by simp [hN,hl];omega,rfl,λs B hB=>?_,hr,hd,λb hb=>.inr hb,Ext.refl _ _⟩;obtain ⟨v,hv,hBv⟩:=envFrom_holds vs As vs 0 hvs (λj u hu=>by simpa using hu) s B hB;have hlt:s<vs.length:=(List.getElem?_eq_some_iff.1 hv).1;have:((vs.toArray++Array.replicate (fn.ntmps-vs.toArray.size) undef).getD s undef)=v:=by
  simp only [Array.getD_eq_getD_getElem?];rw [Array.getElem?_append_left (by simpa using hlt)];simp [hv]
 rw [this];exact hBv
theorem aR.rekey{rin:Rs}{A:ρ->Asn}{k0:Nat}{R:ρ->Res}(h:aR P f As rin A (λx=>[(k0,R x)]))(k:Nat):aR P f As rin A (λx=>[(k,R x)]):=by
 intro g vs hvs hr hd;refine (h g vs hvs hr hd).mono ?_;rintro e w' ⟨x,v,g',h1,h2,h3,h4,h5,h6,h7⟩;refine ⟨x,v,g',h1,h2,h3,h4,λy hy=>?_,List.pairwise_singleton _ _,λb ⟨y,hy,hb⟩=>?_⟩
 .rw [List.mem_singleton.1 hy];exact h5 (k0,R x) (List.mem_singleton.2 rfl)
 .rw [List.mem_singleton.1 hy] at hb;exact h7 b ⟨(k0,R x),List.mem_singleton.2 rfl,hb⟩
theorem aR.read{A:ρ->Asn}{out:ρ->Rs}{A':Asn}(h:aR P f As [] A out)(hA:∀ x v g,(A x).holds v g->A'.holds v g):FSpec P f As A':=by
 intro g vs hvs;refine (h g vs hvs (λ_ hx=>by cases hx) List.Pairwise.nil).mono ?_;rintro e w' ⟨x,v,g',h1,h2,h3,h4,_⟩;exact ⟨v,g',h1,h2,h3.mono (λb ⟨y,hy,_⟩=>by cases hy),hA x v g' h4⟩
theorem aR.pure(h:aR P f As [] (λ_:Unit=>A) (λ_=>[])):FSpec P f As A:=by
 intro g vs hvs;refine (h g vs hvs (λ_ hx=>by cases hx) List.Pairwise.nil).mono ?_;rintro e w' ⟨x,v,g',h1,h2,h3,h4,_⟩;exact ⟨v,g',h1,h2,h3.mono (λb ⟨y,hy,_⟩=>by cases hy),h4⟩
theorem FSpec.of{fn:Func}{N:Nat}(hf:P.funcs[f]? =some fn)(hb:fn.body=some c)(hN:fn.ntmps=N)
  (hA:Nat.ble As.length N=true) (h:∀ g0,W P N g0 (Rs.blks []) c [] (Bo P fn g0 [] (λ_:Unit=>A) (λ_=>[])) (envFrom 0 As) []):FSpec P f As A:=
 aR.pure (aR.of hf hb hN hA h)
section
variable {P:Program} {N:Nat} {g0:G} {ks:List KF} {env:Env} {res rin:Rs} {fn:Func} {ρ:Type} {A:ρ->Asn} {out:ρ->Rs}
theorem W.ret1{t:Tmp}(x:ρ)(hr:fn.results= #[.tmp t])(h:Opd env (.tmp t) (A x))(hs:RSub (out x) res):W P N g0 rin.blks .ret ks (Bo P fn g0 rin A out) env res:=
 W.ret λa g hst=>⟨hst.dfr,_,results_tmp hr _ _ _,x,_,g,rfl,rfl,hst.ext,h a g hst.henv,λy hy=>hst.hres y (hs.mem y hy),hs.dis hst.dis,λb ⟨y,hy,hyb⟩=>(hst.own b ⟨y,hs.mem y hy,hyb⟩).symm⟩
theorem W.ret2{t u:Tmp}(x:ρ){C D:Asn}(hr:fn.results= #[.tmp t,.tmp u])(hA:A x=Asn.tuple2 C D)(h:Opd env (.tmp t) C)(k:Opd env (.tmp u) D)(hs:RSub (out x) res):W P N g0 rin.blks .ret ks (Bo P fn g0 rin A out) env res:=
 W.ret λa g hst=>⟨hst.dfr,_,results_tmp2 hr _ _ _,x,_,g,rfl,rfl,hst.ext,by rw [hA];exact ⟨_,_,rfl,h a g hst.henv,k a g hst.henv⟩,λy hy=>hst.hres y (hs.mem y hy),hs.dis hst.dis,λb ⟨y,hy,hyb⟩=>(hst.own b ⟨y,hs.mem y hy,hyb⟩).symm⟩
end
end Go.Dec
/-
  Rules for single operations, over the logic of the first two texts.
-/
namespace Go.Dec
open Go
variable {A:Asn}{As:List Asn}{C:Asn}{T T':TypeId}{ats:Array TypeId}{f:FuncId}{j:Int}{k:IntKind}{l:Str}{α:Type}{u:α}{x:Operand}{xs:List α}{y:Operand}
section
variable {P:Program} {env:Env} {res:Rs} {d:Option Tmp} {ty:TypeId} {pos:String} {aft:Array Edge} {gd:Option (Nat×Bool)}
theorem Op1.val{o:Oper}(h:∀ a g,Cx env res a g->∃ v g',(execOp a.eval o).run P g.w= .ok (.value v) g'.w/\Ext No g g'/\A.holds v g'):Op1 P o env res A:=by
 intro a g K Q hc hK;obtain ⟨v,g',hr,e,hv⟩:=h a g hc;show o.upon P a K Q ((execOp a.eval o).run P g.w);rw [hr];exact hK v g' e hv
theorem Op1.same{o:Oper}(h:∀ a g,Cx env res a g->∃ v,(execOp a.eval o).run P g.w= .ok (.value v) g.w/\A.holds v g):Op1 P o env res A:=
 Op1.val λa g hc=>let ⟨v,hr,hv⟩:=h a g hc;⟨v,g,hr,Ext.refl _ _,hv⟩
theorem Op1.weak{o:Oper}{A':Asn}(h:Op1 P o env res A)(hA:∀ v g,A.holds v g->A'.holds v g):Op1 P o env res A':=
 λa g K Q hc hK=>h a g K Q hc λv g' e hv=>hK v g' e (hA v g' hv)
theorem Op1.move(h:Opd env x A:=by exact .tmp rfl):Op1 P ⟨d,.move x,ty,pos,aft,gd⟩ env res A:=
 Op1.same λa g hc=>⟨a.eval x,rfl,h a g hc.henv⟩
theorem Op1.assign(h:Opd env x A:=by exact .tmp rfl):Op1 P ⟨d,.assign x,ty,pos,aft,gd⟩ env res A:=
 Op1.same λa g hc=>⟨a.eval x,rfl,h a g hc.henv⟩
theorem Opd.atInt{n:Int}(h:Opd env x ((tI k).is n)){a:Act}{g:G}(hc:Cx env res a g):a.eval x= .int k n/\inR k n:=by
 obtain ⟨cs,⟨h1,h2⟩,hv⟩:=h a g hc.henv;exact ⟨by rw [hv,h1];rfl,h2⟩
theorem Opd.atBool{b:Bool}(h:Opd env x (tB.is b)){a:Act}{g:G}(hc:Cx env res a g):a.eval x= .bool b:=by
 obtain ⟨cs,h1,hv⟩:=h a g hc.henv;rw [hv,show cs= [.bool b] from h1];rfl
theorem Opd.atStr(h:Opd env x (tS.is l)){a:Act}{g:G}(hc:Cx env res a g):a.eval x= .string (Dec.str l)/\l.length<=lim:=by
 obtain ⟨cs,⟨h1,h2⟩,hv⟩:=h a g hc.henv;exact ⟨by rw [hv,h1];rfl,h2⟩
theorem Opd.atL{t:Ty α}(h:Opd env x ((tL t).is xs)){a:Act}{g:G}(hc:Cx env res a g) :
  ∃ p c,a.eval x= .slice p xs.length c/\xs.length<=c/\xs.length<=lim/\(p=none->c=0)/\Row t g p xs:=by
 obtain ⟨cs,⟨p,c,h1,h2,h3,h4,h5⟩,hv⟩:=h a g hc.henv;exact ⟨p,c,by rw [hv,h1];rfl,h2,h3,h4,h5⟩
theorem Asn.int{n:Int}{g:G}(h:inR k n):((tI k).is n).holds (.int k n) g:=⟨_,⟨rfl,h⟩,rfl⟩
theorem Asn.bool{b:Bool}{g:G}:(tB.is b).holds (.bool b) g:=⟨_,rfl,rfl⟩
theorem Asn.str{g:G}(h:l.length<=lim):(tS.is l).holds (.string (Dec.str l)) g:=⟨_,⟨rfl,h⟩,rfl⟩
theorem UA{t:Ty α}{v:Value}{g:G}(h:((tLn t).is xs).holds v g):((tL t).is xs).holds v g:=by
 obtain ⟨cs,⟨p,c,h1,h2,h3,h4,h5,_⟩,hv⟩:=h;exact ⟨cs,⟨p,c,h1,h2,h3,h4,h5⟩,hv⟩
theorem inR64{n:Int}:inR .i64 n ↔ -9223372036854775808<=n/\n<=9223372036854775807:=by
 unfold inR;have h1:IntKind.i64.min= -9223372036854775808:=by decide
 have h2:IntKind.i64.max=9223372036854775807:=by decide
 rw [h1,h2]
theorem Opd.i64{env:Env}{n:Int}(h:-9223372036854775808<=n/\n<=9223372036854775807:=by omega):Opd env (.const (.int .i64 n)) ((tI .i64).is n):=.int (inR64.2 h)
theorem inR8{n:Int}:inR .u8 n ↔ 0<=n/\n<=255:=by
 unfold inR;have h1:IntKind.u8.min=0:=by decide
 have h2:IntKind.u8.max=255:=by decide
 rw [h1,h2]
theorem inR32{n:Int}:inR .i32 n ↔ -2147483648<=n/\n<=2147483647:=by
 unfold inR;have h1:IntKind.i32.min= -2147483648:=by decide
 have h2:IntKind.i32.max=2147483647:=by decide
 rw [h1,h2]
theorem inRlen{n:Nat}(h:n<=lim):inR .i64 (n:Int):=by
 rw [inR64];unfold lim at h;omega
theorem Bn{n:Int}(h:inR k n):k.wrap n=n:=by
 unfold inR at h;cases k
 .exact IntWalk.i8_in n h
 .exact IntWalk.i16_in n h
 .exact IntWalk.i32_in n h
 .exact IntWalk.i64_in n h
 .exact IntWalk.u8_in n h
 .exact IntWalk.u16_in n h
 .exact IntWalk.u32_in n h
 .exact IntWalk.u64_in n h
theorem FW(k:IntKind)(n:Int):inR k (k.wrap n):=by
 unfold inR;have hb:(0:Int)< 2 ^ k.bits:=by cases k<;> decide
 have h1:=Int.emod_nonneg n (Int.ne_of_gt hb);have h2:=Int.emod_lt_of_pos n hb;have hh:(2:Int) ^ k.bits=2*2 ^ (k.bits-1):=by cases k<;> decide
 simp only [IntKind.wrap,IntKind.min,IntKind.max];cases hs:k.signed with
 | true=>
  simp only [if_true,Bool.true_and,decide_eq_true_eq];split<;> omega
 | false=>
  simp;omega
theorem rE{op:BinOp}{a:Act}{w:World}{u v r:Value}(h1:a.eval x=u)(h2:a.eval y=v)(hg:eqGuard op T x y u v=pure ())(hr:(binOp op T u v).run P w= .ok r w) :
  (execOp a.eval ⟨d,.binOp op T x y T',ty,pos,aft,gd⟩).run P w= .ok (.value r) w:=by
 simp [execOp,h1,h2,hg,hr]
theorem IZ(a b:Str):Dec.str a++Dec.str b=Dec.str (a++b):=by
 ext1;simp [Dec.str]
theorem vC(a:Str):(Dec.str a).toList=a:=ByteArray.toList_mk a
theorem nM(a:Str):(Dec.str a).size=a.length:=by simp [Dec.str,ByteArray.size]
theorem Av(a:Str)(i j:Nat):(Dec.str a).extract i j=Dec.str ((a.take j).drop i):=by
 ext1;simp [Dec.str,List.extract_eq_take_drop,List.drop_take]
theorem QU(a:Str)(i:Nat):(Dec.str a)[i]? =a[i]?:=by
 by_cases h:i<a.length
 .rw [List.getElem?_eq_getElem h,getElem?_pos (Dec.str a) i (by rw [nM];exact h)];rfl
 .rw [List.getElem?_eq_none (by omega),getElem?_neg (Dec.str a) i (by rw [nM];exact h)]
theorem Op1.qd{t:Ty α}{e:TypeId}(hT:P.underlying T=some (.slice e))(h:Opd env x ((tL t).is xs):=by exact .tmp rfl) :
  Op1 P ⟨d,.call ⟨.builtin .len,#[x],#[T]⟩,ty,pos,aft,gd⟩ env res ((tI .i64).is (xs.length:Int)):=
 Op1.same λa g hc=>by
  obtain ⟨p,c,hv,_,h3,_⟩:=h.atL hc;exact ⟨.int .i64 xs.length,by simp [execOp,resolve,invoke,builtin,Builtin.len_,run_underlying hT,hv,goInt],Asn.int (inRlen h3)⟩
theorem Op1.FX(hT:P.underlying T=some .string)(h:Opd env x (tS.is l):=by exact .tmp rfl) :
  Op1 P ⟨d,.call ⟨.builtin .len,#[x],#[T]⟩,ty,pos,aft,gd⟩ env res ((tI .i64).is (l.length:Int)):=
 Op1.same λa g hc=>by
  obtain ⟨hv,h3⟩:=h.atStr hc;exact ⟨.int .i64 l.length,by simp [execOp,resolve,invoke,builtin,Builtin.len_,run_underlying hT,hv,goInt,nM],Asn.int (inRlen h3)⟩
section
variable {x y:Operand} {k:IntKind} {m n:Int} {T T':TypeId}
theorem Op1.eqI(hx:Opd env x ((tI k).is m):=by exact .tmp rfl)(hy:Opd env y ((tI k).is n):=by exact .tmp rfl):Op1 P ⟨d,.binOp .eql T x y T',ty,pos,aft,gd⟩ env res (tB.is (decide (m=n))):=
 Op1.same λa g hc=>⟨.bool (decide (m=n)),rE (hx.atInt hc).1 (hy.atInt hc).1 (eqGuard_at_int _ _ _ _ _ _ _) (by simp [binOp,Op.intCmp];try rfl),Asn.bool⟩
theorem Op1.neI(hx:Opd env x ((tI k).is m):=by exact .tmp rfl)(hy:Opd env y ((tI k).is n):=by exact .tmp rfl):Op1 P ⟨d,.binOp .neq T x y T',ty,pos,aft,gd⟩ env res (tB.is (decide (m≠n))):=
 Op1.same λa g hc=>⟨.bool (decide (m≠n)),rE (hx.atInt hc).1 (hy.atInt hc).1 (eqGuard_at_int _ _ _ _ _ _ _) (by simp [binOp,Op.intCmp,bne];rfl),Asn.bool⟩
theorem Op1.ltI(hx:Opd env x ((tI k).is m):=by exact .tmp rfl)(hy:Opd env y ((tI k).is n):=by exact .tmp rfl):Op1 P ⟨d,.binOp .lss T x y T',ty,pos,aft,gd⟩ env res (tB.is (decide (m<n))):=
 Op1.same λa g hc=>⟨.bool (decide (m<n)),rE (hx.atInt hc).1 (hy.atInt hc).1 (eqGuard_at_int _ _ _ _ _ _ _) (by simp [binOp,Op.intCmp];try rfl),Asn.bool⟩
theorem Op1.leI(hx:Opd env x ((tI k).is m):=by exact .tmp rfl)(hy:Opd env y ((tI k).is n):=by exact .tmp rfl):Op1 P ⟨d,.binOp .leq T x y T',ty,pos,aft,gd⟩ env res (tB.is (decide (m<=n))):=
 Op1.same λa g hc=>⟨.bool (decide (m<=n)),rE (hx.atInt hc).1 (hy.atInt hc).1 (eqGuard_at_int _ _ _ _ _ _ _) (by simp [binOp,Op.intCmp];try rfl),Asn.bool⟩
theorem Op1.gtI(hx:Opd env x ((tI k).is m):=by exact .tmp rfl)(hy:Opd env y ((tI k).is n):=by exact .tmp rfl):Op1 P ⟨d,.binOp .gtr T x y T',ty,pos,aft,gd⟩ env res (tB.is (decide (n<m))):=
 Op1.same λa g hc=>⟨.bool (decide (n<m)),rE (hx.atInt hc).1 (hy.atInt hc).1 (eqGuard_at_int _ _ _ _ _ _ _) (by simp [binOp,Op.intCmp];try rfl),Asn.bool⟩
theorem Op1.geI(hx:Opd env x ((tI k).is m):=by exact .tmp rfl)(hy:Opd env y ((tI k).is n):=by exact .tmp rfl):Op1 P ⟨d,.binOp .geq T x y T',ty,pos,aft,gd⟩ env res (tB.is (decide (n<=m))):=
 Op1.same λa g hc=>⟨.bool (decide (n<=m)),rE (hx.atInt hc).1 (hy.atInt hc).1 (eqGuard_at_int _ _ _ _ _ _ _) (by simp [binOp,Op.intCmp];try rfl),Asn.bool⟩
theorem Op1.addI(hx:Opd env x ((tI k).is m))(hy:Opd env y ((tI k).is n))(h:inR k (m+n)):Op1 P ⟨d,.binOp .add T x y T',ty,pos,aft,gd⟩ env res ((tI k).is (m+n)):=
 Op1.same λa g hc=>⟨.int k (m+n),by have h1:=(hx.atInt hc).1;have h2:=(hy.atInt hc).1;simp [execOp,h1,h2,binOp_add,eqGuard_add,Op.intArith,Bn h],Asn.int h⟩
theorem Op1.subI(hx:Opd env x ((tI k).is m))(hy:Opd env y ((tI k).is n))(h:inR k (m-n)):Op1 P ⟨d,.binOp .sub T x y T',ty,pos,aft,gd⟩ env res ((tI k).is (m-n)):=
 Op1.same λa g hc=>⟨.int k (m-n),by have h1:=(hx.atInt hc).1;have h2:=(hy.atInt hc).1;simp [execOp,h1,h2,binOp_sub,eqGuard_sub,Op.intArith,Bn h],Asn.int h⟩
theorem Op1.mulI(hx:Opd env x ((tI k).is m))(hy:Opd env y ((tI k).is n))(h:inR k (m*n)):Op1 P ⟨d,.binOp .mul T x y T',ty,pos,aft,gd⟩ env res ((tI k).is (m*n)):=
 Op1.same λa g hc=>⟨.int k (m*n),by have h1:=(hx.atInt hc).1;have h2:=(hy.atInt hc).1;simp [execOp,h1,h2,binOp_mul,eqGuard_mul,Op.intArith,Bn h],Asn.int h⟩
theorem Op1.quoI(hx:Opd env x ((tI k).is m))(hy:Opd env y ((tI k).is n))(h0:n≠0)(h:inR k (m.tdiv n)):Op1 P ⟨d,.binOp .quo T x y T',ty,pos,aft,gd⟩ env res ((tI k).is (m.tdiv n)):=
 Op1.same λa g hc=>⟨.int k (m.tdiv n),by have h1:=(hx.atInt hc).1;have h2:=(hy.atInt hc).1;simp [execOp,h1,h2,eqGuard_quo,binOp,Op.intDiv,h0,Bn h],Asn.int h⟩
end
theorem Op1.notB{b:Bool}(h:Opd env x (tB.is b):=by exact .tmp rfl):Op1 P ⟨d,.unOp .not T x,ty,pos,aft,gd⟩ env res (tB.is (!b)):=
 Op1.same λa g hc=>⟨.bool (!b),by have h1:=h.atBool hc;simp [execOp,h1,Op.unary],Asn.bool⟩
theorem Op1.eqB{b c:Bool}(hT:P.underlying T=some .bool)(hx:Opd env x (tB.is b):=by exact .tmp rfl)(hy:Opd env y (tB.is c):=by exact .tmp rfl):Op1 P ⟨d,.binOp .eql T x y T',ty,pos,aft,gd⟩ env res (tB.is (b==c)):=
 Op1.same λa g hc=>⟨.bool (b==c),by have h1:=hx.atBool hc;have h2:=hy.atBool hc;simp [execOp,h1,h2,eqGuard_at_bool,run_eql_bool g.w T b c hT],Asn.bool⟩
theorem Op1.neB{b c:Bool}(hT:P.underlying T=some .bool)(hx:Opd env x (tB.is b):=by exact .tmp rfl)(hy:Opd env y (tB.is c):=by exact .tmp rfl):Op1 P ⟨d,.binOp .neq T x y T',ty,pos,aft,gd⟩ env res (tB.is (b !=c)):=
 Op1.same λa g hc=>⟨.bool (b !=c),by have h1:=hx.atBool hc;have h2:=hy.atBool hc;simp [execOp,h1,h2,eqGuard_at_bool,run_neq_bool g.w T b c hT,bne],Asn.bool⟩
theorem Op1.pickT{z:Operand}{b:Bool}(hx:Opd env x (tB.is b))(hb:b=true)(hy:Opd env y A:=by exact .tmp rfl):Op1 P ⟨d,.pick x y z,ty,pos,aft,gd⟩ env res A:=
 Op1.same λa g hc=>⟨a.eval y,by have h1:=hx.atBool hc;subst hb;simp [execOp,h1,asBool],hy a g hc.henv⟩
theorem Op1.pickF{z:Operand}{b:Bool}(hx:Opd env x (tB.is b))(hb:b=false)(hz:Opd env z A:=by exact .tmp rfl):Op1 P ⟨d,.pick x y z,ty,pos,aft,gd⟩ env res A:=
 Op1.same λa g hc=>⟨a.eval z,by have h1:=hx.atBool hc;subst hb;simp [execOp,h1,asBool],hz a g hc.henv⟩
section
variable {x y:Operand} {l m:Str} {T T':TypeId}
theorem Op1.cat(hx:Opd env x (tS.is l))(hy:Opd env y (tS.is m))(h:l.length+m.length<=lim):Op1 P ⟨d,.binOp .add T x y T',ty,pos,aft,gd⟩ env res (tS.is (l++m)):=
 Op1.same λa g hc=>⟨.string (Dec.str (l++m)),by
  have h1:=(hx.atStr hc).1;have h2:=(hy.atStr hc).1;have h3:(l.length:Int)+(m.length:Int)<=9223372036854775807:=by unfold lim at h;omega
  simp [execOp,h1,h2,eqGuard_add,binOp,Op.stringOp,IZ,nM,h3],Asn.str (by simpa using h)⟩
theorem Op1.eqS(hx:Opd env x (tS.is l):=by exact .tmp rfl)(hy:Opd env y (tS.is m):=by exact .tmp rfl):Op1 P ⟨d,.binOp .eql T x y T',ty,pos,aft,gd⟩ env res (tB.is (l==m)):=
 Op1.same λa g hc=>⟨.bool (l==m),by
  have h1:=(hx.atStr hc).1;have h2:=(hy.atStr hc).1;simp [execOp,h1,h2,eqGuard_at_string,binOp,Op.stringOp,vC],Asn.bool⟩
theorem Op1.neS(hx:Opd env x (tS.is l):=by exact .tmp rfl)(hy:Opd env y (tS.is m):=by exact .tmp rfl):Op1 P ⟨d,.binOp .neq T x y T',ty,pos,aft,gd⟩ env res (tB.is (l !=m)):=
 Op1.same λa g hc=>⟨.bool (l !=m),by
  have h1:=(hx.atStr hc).1;have h2:=(hy.atStr hc).1;simp [execOp,h1,h2,eqGuard_at_string,binOp,Op.stringOp,vC,bne],Asn.bool⟩
theorem Op1.indexS{i:Int}{b:UInt8}(hT:P.underlying T=some .string)(hx:Opd env x (tS.is l))(hy:Opd env y ((tI k).is i))(h0:0<=i)(hb:l[i.toNat]? =some b) :
  Op1 P ⟨d,.index T x y,ty,pos,aft,gd⟩ env res ((tI .u8).is (b.toNat:Int)):=
 Op1.same λa g hc=>⟨.int .u8 b.toNat,by
  have h1:=(hx.atStr hc).1;have h2:=(hy.atInt hc).1;have h3:(Dec.str l)[i.toNat]? =some b:=by rw [QU];exact hb
  simp [execOp,h1,h2,Instr.index,asIntOf,run_underlying hT,h0,h3],Asn.int (by rw [inR8];have:=b.toNat_lt;omega)⟩
theorem Op1.sliceSlo{i:Int}(hT:P.underlying T=some .string)(hx:Opd env x (tS.is l))(hy:Opd env y ((tI k).is i))(h0:0<=i)(h1:i<=l.length) :
  Op1 P ⟨d,.slice T x (some y) none none,ty,pos,aft,gd⟩ env res (tS.is (l.drop i.toNat)):=
 Op1.same λa g hc=>⟨.string (Dec.str (l.drop i.toNat)),by
  have e1:=(hx.atStr hc).1;have e2:=(hy.atInt hc).1;simp [execOp,e1,e2,Instr.sliceAt,Instr.slice,Instr.sliceBounds,Instr.sliceBound,asIntOf,run_underlying hT,h0,h1,nM,Av],Asn.str (by have:=(hx.atStr hc).2;simp only [List.length_drop];omega)⟩
theorem Op1.sliceShi(hT:P.underlying T=some .string)(hx:Opd env x (tS.is l))(hy:Opd env y ((tI k).is j))(h0:0<=j)(h1:j<=l.length) :
  Op1 P ⟨d,.slice T x none (some y) none,ty,pos,aft,gd⟩ env res (tS.is (l.take j.toNat)):=
 Op1.same λa g hc=>⟨.string (Dec.str (l.take j.toNat)),by
  have e1:=(hx.atStr hc).1;have e2:=(hy.atInt hc).1;simp [execOp,e1,e2,Instr.sliceAt,Instr.slice,Instr.sliceBounds,Instr.sliceBound,asIntOf,run_underlying hT,h0,h1,nM,Av],Asn.str (by have:=(hx.atStr hc).2;simp only [List.length_take];omega)⟩
end
theorem Row.part{t:Ty α}{g:G}{p:Option Addr}(h:Row t g p xs)(i j:Nat)(full:Bool)(hf:full=true->xs.length<=i\/j<=i) :
  Row t g (if full=true then p else p.map (·.add (i*t.size))) ((xs.take j).drop i):=by
 cases p with
 | none=>
  have:xs= []:=h;subst this;cases full<;> simp [Row]
 | some a=>
  obtain ⟨hs,hx⟩:=h;cases full with
  | true=>
   refine ⟨hs.imp (λh=>by rw [h];simp) id,λq x hq=>?_⟩;have:=hf rfl;have hl:=(List.getElem?_eq_some_iff.1 hq).1;simp only [List.length_drop,List.length_take] at hl;omega
  | false=>
   refine ⟨?_,λq x hq=>?_⟩
   .show _\/(a.add (i*t.size)).spot=none;refine hs.imp (λh=>by rw [h];simp) (λhs=>?_);unfold Addr.add;split
    .exact hs
    .rfl
   .have hq':xs[i+q]? =some x:=by
     rw [List.getElem?_drop,List.getElem?_take] at hq;split at hq
     .exact hq
     .cases hq
    have:=hx (i+q) x hq';show t.At g (a.add (i*t.size)).block ((a.add (i*t.size)).off+q*t.size) x;have e1:(a.add (i*t.size)).block=a.block:=by unfold Addr.add;split<;> rfl
    have e2:(a.add (i*t.size)).off=a.off+i*t.size:=by
     unfold Addr.add;split
     .rename_i h0;rw [h0];rfl
     .rfl
    rw [e1,e2,Nat.add_assoc,<-Nat.add_mul];exact this
theorem yz{t:Ty α}{e:TypeId}(hT:P.underlying T=some (.slice e))(hsz:∀ w,(sizeOf e).run P w= .ok t.size w){g:G}{p:Option Addr}{c:Nat}(hc:xs.length<=c)(hl:xs.length<=lim)
  (hp:p=none->c=0) (hr:Row t g p xs) (lo hi:Option Value) (i j:Nat) (hij:i<=j) (hj:j<=xs.length) (hlo:match lo with | none=>i=0 | some v=>∃ k,v= .int k i) (hhi:match hi with | none=>j=xs.length | some v=>∃ k,v= .int k j) :
  ∃ v,(Instr.sliceAt T (.slice p xs.length c) lo hi none).run P g.w= .ok v g.w/\((tL t).is ((xs.take j).drop i)).holds v g:=by
 have hb:(Instr.sliceBounds true xs.length c lo hi none).run P g.w= .ok (i,j,c) g.w:=by
  cases lo with
  | none=>
   cases hi with
   | none=>simp at hlo hhi;subst hlo hhi;simp [Instr.sliceBounds]
   | some v=>
    obtain ⟨k,rfl⟩:=hhi;simp at hlo;subst hlo;have:j<=c:=by omega
    simp [Instr.sliceBounds,Instr.sliceBound,asIntOf,this]
  | some v=>
   obtain ⟨k,rfl⟩:=hlo;cases hi with
   | none=>
    simp at hhi;subst hhi;have:i<=xs.length:=by omega
    simp [Instr.sliceBounds,Instr.sliceBound,asIntOf,this]
   | some v=>
    obtain ⟨k',rfl⟩:=hhi;have h1:j<=c:=by omega
    have h2:i<=j:=by omega
    simp [Instr.sliceBounds,Instr.sliceBound,asIntOf,h1,h2]
 refine ⟨.slice (if c=i then p else p.map (·.add (i*t.size))) (j-i) (c-i),?_,?_⟩
 .simp [Instr.sliceAt,Instr.slice,run_underlying hT,hb,hsz]
 .have hlen:((xs.take j).drop i).length=j-i:=by simp only [List.length_drop,List.length_take];omega
  refine ⟨[.slice (if c=i then p else p.map (·.add (i*t.size))) (j-i) (c-i)],⟨_,c-i,by rw [hlen],by rw [hlen];omega,by rw [hlen];omega,?_,?_⟩,rfl⟩
  .intro hn;split at hn
   .have:=hp hn;omega
   .cases p with
    | none=>have:=hp rfl;omega
    | some a=>cases hn
  .have:=hr.part i j (decide (c=i)) (by intro h;have:=of_decide_eq_true h;omega);simpa using this
section
variable {α:Type} {t:Ty α} {x y z:Operand} {xs:List α} {T e:TypeId}
theorem Op1.sliceL{k':IntKind}{i:Int}(hT:P.underlying T=some (.slice e))(hsz:∀ w,(sizeOf e).run P w= .ok t.size w)(hx:Opd env x ((tL t).is xs))(hy:Opd env y ((tI k).is i))(hz:Opd env z ((tI k').is j))(h0:0<=i)(h1:i<=j)(h2:j<=xs.length) :
  Op1 P ⟨d,.slice T x (some y) (some z) none,ty,pos,aft,gd⟩ env res ((tL t).is ((xs.take j.toNat).drop i.toNat)):=
 Op1.same λa g hc=>by
  obtain ⟨p,c,hv,h3,h4,h5,h6⟩:=hx.atL hc;obtain ⟨v,hr,hh⟩:=yz hT hsz h3 h4 h5 h6 (some (a.eval y)) (some (a.eval z)) i.toNat j.toNat (by omega) (by omega) ⟨k,by rw [(hy.atInt hc).1];simp;omega⟩ ⟨k',by rw [(hz.atInt hc).1];simp;omega⟩;exact ⟨v,by simp only [execOp,hv,Option.map,Sem.run_bind,hr,Result.andThen_ok];rfl,hh⟩
theorem Op1.sliceLlo{i:Int}(hT:P.underlying T=some (.slice e))(hsz:∀ w,(sizeOf e).run P w= .ok t.size w)(hx:Opd env x ((tL t).is xs))(hy:Opd env y ((tI k).is i))(h0:0<=i)(h1:i<=xs.length) :
  Op1 P ⟨d,.slice T x (some y) none none,ty,pos,aft,gd⟩ env res ((tL t).is (xs.drop i.toNat)):=
 Op1.same λa g hc=>by
  obtain ⟨p,c,hv,h3,h4,h5,h6⟩:=hx.atL hc;obtain ⟨v,hr,hh⟩:=yz hT hsz h3 h4 h5 h6 (some (a.eval y)) none i.toNat xs.length (by omega) (Nat.le_refl _) ⟨k,by rw [(hy.atInt hc).1];simp;omega⟩ rfl;exact ⟨v,by simp only [execOp,hv,Option.map,Sem.run_bind,hr,Result.andThen_ok];rfl,by simpa using hh⟩
theorem Op1.sliceLhi(hT:P.underlying T=some (.slice e))(hsz:∀ w,(sizeOf e).run P w= .ok t.size w)(hx:Opd env x ((tL t).is xs))(hy:Opd env y ((tI k).is j))(h0:0<=j)(h1:j<=xs.length) :
  Op1 P ⟨d,.slice T x none (some y) none,ty,pos,aft,gd⟩ env res ((tL t).is (xs.take j.toNat)):=
 Op1.same λa g hc=>by
  obtain ⟨p,c,hv,h3,h4,h5,h6⟩:=hx.atL hc;obtain ⟨v,hr,hh⟩:=yz hT hsz h3 h4 h5 h6 none (some (a.eval y)) 0 j.toNat (by omega) (by omega) rfl ⟨k,by rw [(hy.atInt hc).1];simp;omega⟩;exact ⟨v,by simp only [execOp,hv,Option.map,Sem.run_bind,hr,Result.andThen_ok];rfl,by simpa using hh⟩
theorem Op1.indexAddr{i:Int}{u:α}(hT:P.underlying T=some (.slice e))(hsz:∀ w,(sizeOf e).run P w= .ok t.size w)(hx:Opd env x ((tL t).is xs))(hy:Opd env y ((tI k).is i))(h0:0<=i)(hu:xs[i.toNat]? =some u) :
  Op1 P ⟨d,.indexAddr T x y,ty,pos,aft,gd⟩ env res (t.ptr u):=
 Op1.same λa g hc=>by
  obtain ⟨p,c,hv,h3,h4,h5,h6⟩:=hx.atL hc;have h1:=(hy.atInt hc).1;have hl:=(List.getElem?_eq_some_iff.1 hu).1;cases p with
  | none=>rw [show xs= [] from h6] at hl;simp at hl
  | some ad=>
   obtain ⟨hs,hrow⟩:=h6;refine ⟨.pointer (some (ad.add (i.toNat*t.size))),?_,?_⟩
   .have hlt:i<(xs.length:Int):=by omega
    simp [execOp,Instr.indexAt,asIntOf,hv,h1,run_underlying hT,hsz,h0,hlt]
   .refine ⟨ad.block,ad.off+i.toNat*t.size,?_,hrow _ _ hu⟩;obtain ⟨b,o,s⟩:=ad
    replace hs:=hs.resolve_left (λh=>by rw [h] at hu;simp at hu)
    simp at hs;subst hs;unfold Addr.add;split
    .rename_i hz;simp [hz]
    .rfl
end
structure TyAt (P:Program) {α:Type} (T:TypeId) (t:Ty α):Prop where
 agg:∀ w,(isAgg T).run P w= .ok t.agg w
 size:∀ w,(sizeOf T).run P w= .ok t.size w
theorem At.load{t:Ty α}(ht:TyAt P T t){g:G}{b o:Nat}{x:α}(h:t.At g b o x):∃ v,(loadVar T ⟨b,o,none⟩).run P g.w= .ok v g.w/\(t.is x).holds v g:=by
 obtain ⟨cs,h1,h2⟩:=h;refine ⟨mkVal t.agg cs,?_,cs,h1,rfl⟩;have hcell:∀ j v,cs[j]? =some v->g.w.cell? ((⟨b,o,none⟩:Addr).add j)=some v:=λj v hj=>by
  rw [Addr.add_lit];exact (h2 j v hj).2
 have hl:=run_loadCells_list (P:=P) g.w ⟨b,o,none⟩ cs hcell;rw [t.len h1] at hl;unfold mkVal;cases ha:t.agg with
 | true=>
  have hagg:=ht.agg g.w;rw [ha] at hagg;simp [loadVar,hagg,ht.size,hl]
 | false=>
  have hagg:=ht.agg g.w;rw [ha] at hagg;have hlen:=t.len h1;rw [t.sing ha] at hlen
  match cs,hlen with
  | [c],_=>
   have hc0:=hcell 0 c rfl;rw [Addr.add_zero'] at hc0;simp [loadVar,hagg,hc0]
theorem Op1.load{t:Ty α}(ht:TyAt P T t)(h:Opd env x (t.ptr u):=by exact .tmp rfl):Op1 P ⟨d,.load T x,ty,pos,aft,gd⟩ env res (t.is u):=
 Op1.same λa g hc=>by
  obtain ⟨b,o,hv,hat⟩:=h a g hc.henv;obtain ⟨v,hr,hh⟩:=At.load ht hat;exact ⟨v,by simp [execOp,hv,Instr.loadAt,Instr.sureAddr,hr],hh⟩
theorem Op1.fieldAddr{β:Type}{s:Ty α}{t:Ty β}{f:α->β}{fs:Array Field}{fd:Field}{n:Nat}(hT:P.underlying T=some (.struct fs))(hf:fs[n]? =some fd)
  (hz:∀ w,∃ m,(sizeOf fd.type).run P w= .ok (m+1) w) (hF:Fld s fd.offset t f) (h:Opd env x (s.ptr u):=by exact .tmp rfl):Op1 P ⟨d,.fieldAddr T x n,ty,pos,aft,gd⟩ env res (t.ptr (f u)):=
 Op1.same λa g hc=>by
  obtain ⟨b,o,hv,hat⟩:=h a g hc.henv;obtain ⟨m,hm⟩:=hz g.w;refine ⟨.pointer (some ⟨b,o+fd.offset,none⟩),?_,b,o+fd.offset,rfl,hF.at hat⟩;simp [execOp,hv,Instr.fieldAt,run_underlying hT,hf,Instr.sureAddr,fieldPlace,hm,Addr.add_lit]
theorem Op1.nilCheck{s:Ty α}(h:Opd env x (s.ptr u):=by exact .tmp rfl):Op1 P ⟨d,.nilCheck x,ty,pos,aft,gd⟩ env res (s.ptr u):=
 Op1.same λa g hc=>by
  obtain ⟨b,o,hv,hat⟩:=h a g hc.henv;exact ⟨_,by simp [execOp,hv],b,o,rfl,hat⟩
theorem Op1.extract0{B:Asn}(h:Opd env x (Asn.tuple2 A B):=by exact .tmp rfl):Op1 P ⟨d,.extract x 0,ty,pos,aft,gd⟩ env res A:=
 Op1.same λa g hc=>by
  obtain ⟨u,v,hv,h1,_⟩:=h a g hc.henv;exact ⟨u,by simp [execOp,hv,Instr.extract],h1⟩
theorem Op1.extract1{B:Asn}(h:Opd env x (Asn.tuple2 A B):=by exact .tmp rfl):Op1 P ⟨d,.extract x 1,ty,pos,aft,gd⟩ env res B:=
 Op1.same λa g hc=>by
  obtain ⟨u,v,hv,_,h1⟩:=h a g hc.henv;exact ⟨v,by simp [execOp,hv,Instr.extract],h1⟩
theorem Op1.extract30{B:Asn}(h:Opd env x (Asn.tuple3 A B C):=by exact .tmp rfl):Op1 P ⟨d,.extract x 0,ty,pos,aft,gd⟩ env res A:=
 Op1.same λa g hc=>by
  obtain ⟨u,v,w,hv,h1,_⟩:=h a g hc.henv;exact ⟨u,by simp [execOp,hv,Instr.extract],h1⟩
theorem Op1.extract31{B:Asn}(h:Opd env x (Asn.tuple3 A B C):=by exact .tmp rfl):Op1 P ⟨d,.extract x 1,ty,pos,aft,gd⟩ env res B:=
 Op1.same λa g hc=>by
  obtain ⟨u,v,w,hv,_,h1,_⟩:=h a g hc.henv;exact ⟨v,by simp [execOp,hv,Instr.extract],h1⟩
theorem Op1.extract32{B:Asn}(h:Opd env x (Asn.tuple3 A B C):=by exact .tmp rfl):Op1 P ⟨d,.extract x 2,ty,pos,aft,gd⟩ env res C:=
 Op1.same λa g hc=>by
  obtain ⟨u,v,w,hv,_,_,h1⟩:=h a g hc.henv;exact ⟨w,by simp [execOp,hv,Instr.extract],h1⟩
def Opds(env:Env):List Operand->List Asn->Prop
 | [],[]=>True
 | x :: xs,A :: As=>Opd env x A/\Opds env xs As
 | _,_=>False
theorem Opds.all{env:Env}{a:Act}{g:G}(he:∀ s B,look s env=some B->B.holds (a.tmps.getD s undef) g):∀ {xs:List Operand} {As:List Asn},Opds env xs As->All2 As (xs.map a.eval) g
 | [],[],_=>trivial
 | x :: xs,A :: As,h=>⟨h.1 a g he,Opds.all he h.2⟩
 | [],_ :: _,h=>h.elim
 | _ :: _,[],h=>h.elim
theorem Op1.qF{o:Oper}(h:∀ a g,Cx env res a g->∃ f vs,(execOp a.eval o).run P g.w= .ok (.enter f vs) g.w/\
  Calls P f vs g.w λe w'=>∃ v g',g'.w=w'/\e= .returned v/\Ext No g g'/\A.holds v g'):Op1 P o env res A:=by
 intro a g K Q hc hK;obtain ⟨f,vs,hr,hcall⟩:=h a g hc;show o.upon P a K Q ((execOp a.eval o).run P g.w);rw [hr];refine hcall.mono ?_;rintro e w' ⟨v,g',rfl,rfl,h1,h2⟩;exact hK v g' h1 h2
theorem OpR.qF{o:Oper}{us:List Nat}{ρ:Type}{A:ρ->Asn}{out:ρ->Rs}(h:∀ a g,Cx env res a g->res.dis->∃ f vs,(execOp a.eval o).run P g.w= .ok (.enter f vs) g.w/\
  Calls P f vs g.w λe w'=>∃ x v g',g'.w=w'/\e= .returned v/\Ext (res.pick us).blks g g'/\(A x).holds v g'/\(out x).all g'/\(out x).dis/\(∀ b,(out x).blks b->(res.pick us).blks b\/g.w.heap.size<=b)) :
  OpR P o env res us A out:=by
 intro a g K Q hc hd hK;obtain ⟨f,vs,hr,hcall⟩:=h a g hc hd;show o.upon P a K Q ((execOp a.eval o).run P g.w);rw [hr];refine hcall.mono ?_;rintro e w' ⟨x,v,g',rfl,rfl,h1,h2,h3,h4,h5⟩;exact hK x v g' h1 h2 h3 h4 h5
theorem zP(hb:∀ f:FuncId,f=f)(hcall:∀ az w,(callFunc f az).run P w= .ok (.enter f az) w){xs:List Operand}(a:Act)(w:World) :
  (execOp a.eval ⟨d,.call ⟨.value (.func f),xs.toArray,ats⟩,ty,pos,aft,gd⟩).run P w= .ok (.enter f (xs.map a.eval).toArray) w:=by
 simp [execOp,resolve,Act.eval,Deferred.ofValue,invoke,hcall]
theorem Op1.call{xs:List Operand}(hcall:∀ az w,(callFunc f az).run P w= .ok (.enter f az) w)(hf:FSpec P f As A)(hx:Opds env xs As) :
  Op1 P ⟨d,.call ⟨.value (.func f),xs.toArray,ats⟩,ty,pos,aft,gd⟩ env res A:=
 Op1.qF λa g hc=>⟨f,_,zP (λ_=>rfl) hcall a g.w,hf g _ (Opds.all hc.henv hx)⟩
theorem OpR.call{xs:List Operand}{us:List Nat}{rin:Rs}{ρ:Type}{A:ρ->Asn}{out:ρ->Rs}(hcall:∀ az w,(callFunc f az).run P w= .ok (.enter f az) w)
  (hf:aR P f As rin A out) (hr:res.pick us=rin) (hx:Opds env xs As):OpR P ⟨d,.call ⟨.value (.func f),xs.toArray,ats⟩,ty,pos,aft,gd⟩ env res us A out:=
 OpR.qF λa g hc hd=>⟨f,_,zP (λ_=>rfl) hcall a g.w,by
  subst hr;exact hf g _ (Opds.all hc.henv hx) (λy hy=>hc.hres y (List.mem_filter.1 hy).1) (hd.filter _)⟩
def Does(P:Program)(As:List Asn)(A:Asn)(f:FuncId)(pre cap:Array Value)(g:G):Prop:=
 ∀ T g1,Ext T g g1->∀ vs,All2 As vs g1->Calls P f (pre++vs.toArray++cap) g1.w λe w'=>∃ v g',g'.w=w'/\e= .returned v/\Ext No g1 g'/\A.holds v g'
theorem Does.mono{pre cap:Array Value}{T:Nat->Prop}{g g':G}(e:Ext T g g')(h:Does P As A f pre cap g):Does P As A f pre cap g':=
 λT' g1 e1=>h (λb=>T b\/T' b) g1 ((e.mono λ_ h=>.inl h).trans e1 (λ_ _ h=>.inr h))
end
end Go.Dec
/-
  Rules for slices that the call owns, for boxes, and for function values.
-/
namespace Go.Dec
open Go
variable {E:TypeId}{cs:List Value}{x:Operand}{α:Type}{xs:List α}
def Cells{α:Type}(t:Ty α)(g:G)(cs:List Value)(xs:List α):Prop:=
 cs.length=xs.length*t.size/\(∀ c∈cs,c.oneCell'=true)/\ ∀ (i:Nat) x,xs[i]? =some x->∃ ds,t.rep g ds x/\ ∀ (j:Nat) v,ds[j]? =some v->cs[i*t.size+j]? =some v
theorem Cells.nil{t:Ty α}{g:G}:Cells t g [] []:=by
 refine ⟨by simp,λc h=>?_,λi x h=>?_⟩
 .cases h
 .simp at h
theorem Cells.cons{t:Ty α}{g:G}{ds:List Value}{x:α}(h:t.rep g ds x)(k:Cells t g cs xs):Cells t g (ds++cs) (x :: xs):=by
 refine ⟨by simp only [List.length_append,List.length_cons,t.len h,k.1,Nat.add_mul];omega,λc hc=>?_,λi y hy=>?_⟩
 .rcases List.mem_append.1 hc with hc | hc
  .exact t.one h c hc
  .exact k.2.1 c hc
 .cases i with
  | zero=>
   simp at hy;subst hy;refine ⟨ds,h,λj v hj=>?_⟩;have hl:=(List.getElem?_eq_some_iff.1 hj).1;rw [Nat.zero_mul,Nat.zero_add,List.getElem?_append_left (by omega)];exact hj
  | succ i=>
   simp at hy;obtain ⟨es,h1,h2⟩:=k.2.2 i y hy;refine ⟨es,h1,λj v hj=>?_⟩;rw [List.getElem?_append_right (by rw [t.len h,Nat.add_mul];omega),t.len h];rw [show (i+1)*t.size+j-t.size=i*t.size+j by rw [Nat.add_mul];omega];exact h2 j v hj
theorem Cells.append{t:Ty α}{g:G}{ds:List Value}{ys:List α}(h:Cells t g cs xs)(k:Cells t g ds ys):Cells t g (cs++ds) (xs++ys):=by
 refine ⟨by rw [List.length_append,List.length_append,h.1,k.1,Nat.add_mul],λc hc=>?_,λi x hx=>?_⟩
 .rcases List.mem_append.1 hc with hc | hc
  .exact h.2.1 c hc
  .exact k.2.1 c hc
 .by_cases hi:i<xs.length
  .rw [List.getElem?_append_left hi] at hx;obtain ⟨es,h1,h2⟩:=h.2.2 i x hx;refine ⟨es,h1,λj v hj=>?_⟩;have:=h2 j v hj;rw [List.getElem?_append_left (List.getElem?_eq_some_iff.1 this).1];exact this
  .rw [List.getElem?_append_right (by omega)] at hx;obtain ⟨es,h1,h2⟩:=k.2.2 _ x hx;refine ⟨es,h1,λj v hj=>?_⟩;have:=h2 j v hj;have hm:i*t.size=xs.length*t.size+(i-xs.length)*t.size:=by rw [<-Nat.add_mul];congr 1;omega
   rw [List.getElem?_append_right (by rw [h.1];omega),h.1,show i*t.size+j-xs.length*t.size=(i-xs.length)*t.size+j by omega];exact this
theorem Cells.mono{t:Ty α}{T:Nat->Prop}{g g':G}(e:Ext T g g')(h:Cells t g cs xs):Cells t g' cs xs:=
 ⟨h.1,h.2.1,λi x hx=>let ⟨ds,h1,h2⟩:=h.2.2 i x hx;⟨ds,t.mono e h1,h2⟩⟩
theorem Row.cells{t:Ty α}{g:G}{b:Nat}:∀ {ys:List α} {o:Nat},(∀ (i:Nat) x,ys[i]? =some x->t.At g b (o+i*t.size) x)->
  ∃ cs,Cells t g cs ys/\ ∀ (j:Nat) v,cs[j]? =some v->g.Has b (o+j) v
 | [],o,_=>⟨[],Cells.nil,λj v h=>by simp at h⟩
 | y :: ys,o,h=>by
  obtain ⟨ds,h1,h2⟩:=h 0 y rfl;obtain ⟨cs,h3,h4⟩:=Row.cells (ys:=ys) (o:=o+t.size) (λi x hx=>by
   have:=h (i+1) x (by simpa using hx);rwa [show o+(i+1)*t.size=o+t.size+i*t.size by rw [Nat.add_mul];omega] at this)
  refine ⟨ds++cs,Cells.cons h1 h3,λj v hj=>?_⟩;by_cases hl:j<ds.length
  .rw [List.getElem?_append_left hl] at hj;have:=h2 j v hj;simpa using this
  .rw [List.getElem?_append_right (by omega)] at hj;have:=h4 _ v hj;rw [t.len h1] at this;rw [t.len h1] at hl;rwa [show o+t.size+(j-t.size)=o+j by omega] at this
theorem Cells.row{t:Ty α}{g:G}{b o:Nat}(h:Cells t g cs xs)(k:∀ (j:Nat) v,cs[j]? =some v->g.Has b (o+j) v):Row t g (some ⟨b,o,none⟩) xs:=
 ⟨.inr rfl,λi x hx=>let ⟨ds,h1,h2⟩:=h.2.2 i x hx;⟨ds,h1,λj v hj=>by
  have:=k _ v (h2 j v hj);rwa [show o+i*t.size+j=o+(i*t.size+j) by omega]⟩⟩
abbrev Tok:=Option (Nat×Nat)
def Tok.addr(k:Tok):Option Addr:=k.map λp=>⟨p.1,0,none⟩
def Tok.cap(k:Tok):Nat:=match k with
 | none=>0
 | some p=>p.2
def Own{α:Type}(t:Ty α)(E:TypeId)(k:Tok)(n:Nat):Res where
 blk:=λx=>k.map Prod.fst=some x
 holds:=λg=>match k with
  | none=>n=0
  | some p=>∃ cur,g.w.heap[p.1]? =some (.cells cur E (0,0))/\cur.size=p.2*t.size/\n<=p.2/\p.2<=maxLen/\g.S p.1=n*t.size
 stay:=λ{T g g'} e hn h=>by
  cases k with
  | none=>exact h
  | some p=>
   obtain ⟨cur,h1,h2,h3,h4,h5⟩:=h;have hlt:p.1<g.w.heap.size:=(Array.getElem?_eq_some_iff.1 h1).1;have:=e.same p.1 hlt (hn p.1 rfl);exact ⟨cur,this.1.trans h1,h2,h3,h4,this.2.trans h5⟩
 lt:=λ{g b} h hb=>by
  cases k with
  | none=>cases hb
  | some p=>
   obtain ⟨cur,h1,_⟩:=h;have hlt:p.1<g.w.heap.size:=(Array.getElem?_eq_some_iff.1 h1).1;cases hb;exact hlt
def tO{α:Type}(t:Ty α)(k:Tok)(xs:List α):Asn:=
 ⟨λv g=>v= .slice k.addr xs.length k.cap/\xs.length<=k.cap/\xs.length<=lim/\Row t g k.addr xs,λe ⟨h1,h2,h3,h4⟩=>⟨h1,h2,h3,h4.mono e⟩⟩
theorem uL{t:Ty α}{k:Tok}{v:Value}{g:G}(h:(tO t k xs).holds v g):((tL t).is xs).holds v g:=by
 obtain ⟨h1,h2,h3,h4⟩:=h;refine ⟨[v],⟨k.addr,k.cap,by rw [h1],h2,h3,?_,h4⟩,rfl⟩;intro hk;cases k with
 | none=>rfl
 | some p=>cases hk
theorem Ent.o{t:Ty α}{s:Nat}{k:Tok}{e:Env}(h:look s e=some (tO t k xs)):Ent s ((tL t).is xs) e:=⟨_,h,λ_ _=>uL⟩
def vY:Nat:=274877906944
section
variable {P:Program} {N:Nat} {g0:G} {T0:Nat->Prop} {env:Env} {res:Rs} {d:Option Tmp} {ty:TypeId} {pos:String} {aft:Array Edge} {gd:Option (Nat×Bool)}
theorem Opd.own{t:Ty α}{k:Tok}(h:Opd env x (tO t k xs)):Opd env x ((tL t).is xs):=h.weak λ_ _=>uL
theorem Opd.nilO{t:Ty α}:Opd env (.const (.slice none 0 0)) (tO t none []):=λ_ _ _=>⟨rfl,Nat.le_refl _,Nat.zero_le _,rfl⟩
theorem Opd.tLn{t:Ty α}(h:Opd env x ((tLn t).is xs)):Opd env x ((tL t).is xs):=h.weak λ_ _=>UA
theorem St.addNil{t:Ty α}{a:Act}{g:G}(key:Nat)(h:St N g0 T0 env res a g):St N g0 T0 env ((key,Own t E none 0) :: res) a g:=by
 refine ⟨h.sz,h.dfr,h.henv,λx hx=>?_,List.pairwise_cons.2 ⟨λ_ _ b hb=>(by cases hb),h.dis⟩,λb ⟨x,hx,hb⟩=>?_,h.ext⟩
 .rcases List.mem_cons.1 hx with rfl | hx
  .rfl
  .exact h.hres x hx
 .rcases List.mem_cons.1 hx with rfl | hx
  .cases hb
  .exact h.own b ⟨x,hx,hb⟩
theorem WL.addNil{ops:Array Oper}{Q:Exit->Act->World->Prop}{l:List Oper}{t:Ty α}(key:Nat)(h:WL P N g0 T0 ops Q l env ((key,Own t E none 0) :: res)):WL P N g0 T0 ops Q l env res:=
 WL.chg (λ_ _ hs=>hs.addNil key) h
structure ElAt (P:Program) {α:Type} (E:TypeId) (t:Ty α):Prop where
 row:∃ i z,P.info? E=some i/\i.zero=some z/\i.size=t.size/\i.bytes<=512/\z.cells.size=t.size
 pos:0<t.size
theorem ElAt.size{t:Ty α}(h:ElAt P E t)(w:World):(sizeOf E).run P w= .ok t.size w:=by
 obtain ⟨i,z,h1,_,h3,_⟩:=h.row;simp [sizeOf,typeInfo,h1,h3]
theorem o8{g:G}{b:Nat}{cur new:Array Value}(hb:g.w.heap[b]? =some (.cells cur E (0,0))){s:Nat}(hS:g.S b<=s)(hk:∀ i v,i<g.S b->cur[i]? =some v->new[i]? =some v)(hn:0<g.S b->new.size=cur.size) :
  Ext (λx=>x=b) g ⟨g.w.setRow b new,λx=>if x=b then s else g.S x⟩:=by
 refine ⟨rfl,rfl,rfl,by simp,λx _ hn=>⟨setRow_other _ _ _ _ hn,?_⟩,λx i v hv=>?_,λx n hv=>?_⟩
 .show (if x=b then s else g.S x)=_;rw [if_neg hn]
 .by_cases hx:x=b
  .subst hx;obtain ⟨h1,h2⟩:=hv;refine ⟨?_,?_⟩
   .show i<(if x=x then s else g.S x);rw [if_pos rfl];omega
   .show (g.w.setRow x new).cell? ⟨x,i,none⟩=some v;rw [cell_setRow_same _ _ _ _ _ _ _ hb];rw [cell_of_row _ _ _ _ _ _ hb] at h2;exact hk i v h1 h2
  .obtain ⟨h1,h2⟩:=hv;refine ⟨?_,?_⟩
   .show i<(if x=b then s else g.S x);rw [if_neg hx];exact h1
   .show (g.w.setRow b new).cell? ⟨x,i,none⟩=some v;rw [cell_setRow_other _ _ _ _ hx];exact h2
 .by_cases hx:x=b
  .subst hx;have h2:=hv.2;rcases hv.row hb with ⟨cs,t,u,he,hcs⟩ | ⟨es,k,he,_⟩
   .cases he;refine ⟨?_,?_,h2.2⟩
    .show rowN (g.w.setRow x new) x=some n;unfold rowN;rw [setRow_heap g.w x cur new E _ hb,hcs];show some (Sum.inl new.size)=_;rw [hn (by omega)]
    .show rsz n<=if x=x then s else g.S x;rw [if_pos rfl];omega
   .cases he
  .refine hv.same (setRow_other _ _ _ _ hx) ?_;show g.S x<=if x=b then s else g.S x;rw [if_neg hx];exact Nat.le_refl _
theorem OpR.append{t:Ty α}{T:TypeId}{s:Operand}{k:Tok}{ys:List α}{key:Nat}(hT:P.underlying T=some (.slice E))(hE:ElAt P E t)(hs:Opd env s (tO t k xs))(hx:Opd env x ((tL t).is ys))
  (hr:res.pick [key]= [(key,Own t E k xs.length)]) (hl:xs.length+ys.length<=vY) :
  OpR P ⟨d,.call ⟨.builtin .append,#[s,x],#[T,T]⟩,ty,pos,aft,gd⟩ env res [key] (λk':Tok=>tO t k' (xs++ys)) (λk'=>[(key,Own t E k' (xs++ys).length)]):=by
 intro a g K Q hc hd hK;obtain ⟨i,z,hi,hz,hsz,hby,hzs⟩:=hE.row;obtain ⟨hv,hc1,hl1,hrow⟩:=hs a g hc.henv;obtain ⟨p,c,hxv,hyc,hyl,hpn,hyrow⟩:=hx.atL hc;have hres:(Own t E k xs.length).holds g:=by
  have:(key,Own t E k xs.length)∈res.pick [key]:=by rw [hr];simp
  exact hc.hres _ (List.mem_filter.1 this).1
 have hlim:xs.length+ys.length<=lim:=by unfold vY at hl;unfold lim;omega
 have hblk:∀ b,(res.pick [key]).blks b ↔ (k.map Prod.fst)=some b:=by
  intro b;rw [hr];constructor
  .rintro ⟨y,hy,hb⟩;simp at hy;subst hy;exact hb
  .intro hb;exact ⟨_,List.mem_singleton.2 rfl,hb⟩
 have run:∀ v w',(Builtin.append_ #[T,T] ty #[a.eval s,a.eval x]).run P g.w= .ok v w'->K (a.put d v) w'->
   Oper.wp P ⟨d,.call ⟨.builtin .append,#[s,x],#[T,T]⟩,ty,pos,aft,gd⟩ a g.w K Q:=by
  intro v w' hrun hK';unfold Oper.wp execOp;simp only [resolve,invoke,builtin,Sem.run_bind,Sem.run_pure,Result.andThen_ok,List.map_toArray,List.map_cons,List.map_nil,hrun];exact hK'
 rw [hv,hxv] at run;have done:∀ (k':Tok) v g',Ext (res.pick [key]).blks g g'->(tO t k' (xs++ys)).holds v g'->(Own t E k' (xs++ys).length).holds g'->(∀ b,(k'.map Prod.fst)=some b->(k.map Prod.fst)=some b\/g.w.heap.size<=b)->K (a.put d v) g'.w:=by
  intro k' v g' e h1 h2 h3;refine hK k' v g' e h1 (λy hy=>by rw [List.mem_singleton.1 hy];exact h2) (List.pairwise_singleton _ _) ?_;rintro b ⟨y,hy,hb⟩;rw [List.mem_singleton.1 hy] at hb;rcases h3 b hb with h | h
  .exact .inl ((hblk b).2 h)
  .exact .inr h
 cases p with
 | none=>
  have hy0:ys= []:=hyrow;subst hy0;have hc0:=hpn rfl;subst hc0;cases k with
  | none=>
   have hx0:xs= []:=hrow;subst hx0;refine run (.slice none 0 0) g.w (by simp [Builtin.append_,run_underlying hT,sizeOf,typeInfo,hi,Builtin.lenOf,Builtin.firstCells,Tok.addr,Tok.cap]) ?_;exact done none _ g (Ext.refl _ _) ⟨rfl,Nat.le_refl _,Nat.zero_le _,rfl⟩ rfl (λb hb=>by cases hb)
  | some q=>
   have hroom:xs.length<=q.2:=hc1;refine run (.slice (Tok.addr (some q)) xs.length q.2) g.w (by simp [Builtin.append_,run_underlying hT,sizeOf,typeInfo,hi,Builtin.lenOf,Builtin.firstCells,Tok.addr,Tok.cap,hroom,storeCells]) ?_;refine done (some q) _ g (Ext.refl _ _) ?_ (by simpa using hres) (λb hb=>.inl hb);simp only [List.append_nil];exact ⟨rfl,hc1,hl1,hrow⟩
 | some ad=>
  obtain ⟨hsp,hyat⟩:=hyrow;by_cases hys:ys= []
  .subst hys;cases k with
   | none=>
    have hx0:xs= []:=hrow;subst hx0;refine run (.slice none 0 0) g.w (by simp [Builtin.append_,run_underlying hT,sizeOf,typeInfo,hi,Builtin.lenOf,Builtin.firstCells,loadCells,loadCellsFrom,Tok.addr,Tok.cap]) ?_;exact done none _ g (Ext.refl _ _) ⟨rfl,Nat.le_refl _,Nat.zero_le _,rfl⟩ rfl (λb hb=>by cases hb)
   | some q=>
    have hroom:xs.length<=q.2:=hc1;refine run (.slice (Tok.addr (some q)) xs.length q.2) g.w (by simp [Builtin.append_,run_underlying hT,sizeOf,typeInfo,hi,Builtin.lenOf,Builtin.firstCells,loadCells,loadCellsFrom,Tok.addr,Tok.cap,hroom,storeCells]) ?_;refine done (some q) _ g (Ext.refl _ _) ?_ (by simpa using hres) (λb hb=>.inl hb);simp only [List.append_nil];exact ⟨rfl,hc1,hl1,hrow⟩
  replace hsp:ad.spot=none:=hsp.resolve_left hys
  obtain ⟨bs,os,spot⟩:=ad;simp at hsp;subst hsp;obtain ⟨news,hnc,hnh⟩:=Row.cells hyat;have hnl:news.length=ys.length*i.size:=by rw [hnc.1,hsz]
  have hnews:∀ (j:Nat) v,news[j]? =some v->g.w.cell? ((⟨bs,os,none⟩:Addr).add j)=some v:=λj v hj=>by rw [Addr.add_lit];exact (hnh j v hj).2
  cases k with
  | none=>
   have hx0:xs= []:=hrow;subst hx0;by_cases hm:ys.length=0
   .have hy0:ys= []:=List.eq_nil_of_length_eq_zero hm;subst hy0;refine run (.slice none 0 0) g.w (by simp [Builtin.append_,run_underlying hT,sizeOf,typeInfo,hi,Builtin.lenOf,Builtin.firstCells,loadCells,loadCellsFrom,Tok.addr,Tok.cap]) ?_;exact done none _ g (Ext.refl _ _) ⟨rfl,Nat.le_refl _,Nat.zero_le _,rfl⟩ rfl (λb hb=>by cases hb)
   .have h48:ys.length*i.bytes<=281474976710656:=by have:=Nat.mul_le_mul hl hby;unfold vY at this;simp only [List.length_nil,Nat.zero_add] at this;omega
    have hrun:=run_append_nil (P:=P) g.w T ty E i z hT hi hz ⟨bs,os,none⟩ ys.length c news hnl hnews (by omega) (by unfold lim at hlim;simp at hlim;omega) h48;refine run _ _ hrun ?_;have hge:=grownCap_ge g.w ys.length 0 E;have hcm:grownCap g.w ys.length 0 E<=maxLen:=grownCap_le_maxLen g.w ys.length 0 E (by unfold lim at hlim;unfold maxLen;simp at hlim;omega);let cur:Array Value:=news.toArray++Builtin.zeroCells z.cells (grownCap g.w ys.length 0 E-ys.length);let g':G:=g.drew.alloc (.cells cur E) (ys.length*t.size);have e:Ext No g g':=(Ext.drew No g).trans' (Ext.alloc No _ _ _);have hheap:g'.w.heap[g.w.heap.size]? =some (.cells cur E (0,0)):=heap_alloc_new g.w.drew _;refine done (some (g.w.heap.size,grownCap g.w ys.length 0 E)) _ g' e.no ?_ ?_ (λb hb=>by simp at hb;exact .inr (by omega))
    .refine ⟨by simp [Tok.addr,Tok.cap],by simpa [Tok.cap] using hge,by simpa using hyl,?_⟩;show Row t g' (some ⟨g.w.heap.size,0,none⟩) ([]++ys);rw [List.nil_append];refine (hnc.mono e).row λj v hj=>⟨?_,?_⟩
     .show 0+j<(if g.w.heap.size=g.w.heap.size then _ else _);rw [if_pos rfl];have:=(List.getElem?_eq_some_iff.1 hj).1;rw [hnc.1] at this;omega
     .rw [cell_of_row _ _ _ _ _ _ hheap];have hjl:=(List.getElem?_eq_some_iff.1 hj).1;simp only [cur,Nat.zero_add];rw [Array.getElem?_append_left (by simpa using hjl)];simpa using hj
    .refine ⟨cur,hheap,?_,by simpa using hge,hcm,?_⟩
     .simp only [cur,Array.size_append,List.size_toArray,size_zeroCells,hzs,hnc.1,<-Nat.add_mul];congr 1;omega
     .show (if g.w.heap.size=g.w.heap.size then _ else _)=_;rw [if_pos rfl];simp
  | some q=>
   obtain ⟨cur,hheap,hcs,hncap,hcm,hS⟩:=hres;have hold:∀ (j:Nat) v,(cur.toList.take (xs.length*i.size))[j]? =some v->g.w.cell? ((⟨q.1,0,none⟩:Addr).add j)=some v:=λj v hj=>by
    rw [Addr.add_lit,cell_of_row _ _ _ _ _ _ hheap];rw [List.getElem?_take] at hj;split at hj
    .simpa using hj
    .cases hj
   have holdl:(cur.toList.take (xs.length*i.size)).length=xs.length*i.size:=by
    have hcl:cur.toList.length=cur.size:=by simp
    rw [List.length_take,hcl];exact Nat.min_eq_left (by rw [hcs,hsz];exact Nat.mul_le_mul_right _ hncap)
   have hrow':Row t g (some ⟨q.1,0,none⟩) xs:=hrow;by_cases hroom:xs.length+ys.length<=q.2
   .have hfit:xs.length*i.size+news.length<=cur.size:=by rw [hnl,hcs,<-hsz,<-Nat.add_mul];exact Nat.mul_le_mul_right _ hroom
    have hrun:=run_append_room (P:=P) g.w T ty E i hT hi q.1 xs.length q.2 cur hheap ⟨bs,os,none⟩ ys.length c news hnl hnews hnc.2.1 hroom hfit;refine run _ _ hrun ?_;let new:Array Value:=(cur.toList.take (xs.length*i.size)++news++cur.toList.drop (xs.length*i.size+news.length)).toArray;let g':G:=⟨g.w.setRow q.1 new,λx=>if x=q.1 then (xs.length+ys.length)*t.size else g.S x⟩
    have hnew:∀ i' v,i'< g.S q.1->cur[i']? =some v->new[i']? =some v:=by
     intro i' v h1 h2;rw [hS,<-hsz] at h1;simp only [new,List.getElem?_toArray];rw [List.append_assoc,List.getElem?_append_left (by rw [holdl];exact h1),List.getElem?_take,if_pos h1];simpa using h2
    have e:Ext (λx=>x=q.1) g g':=o8 hheap (by rw [hS];exact Nat.mul_le_mul_right _ (by omega)) hnew (λ_=>by simp [new];omega);have e':Ext (res.pick [key]).blks g g':=e.mono λx hx=>(hblk x).2 (by simp [hx]);have hheap':g'.w.heap[q.1]? =some (.cells new E (0,0)):=setRow_heap g.w q.1 cur new E _ hheap;refine done (some q) _ g' e' ?_ ?_ (λb hb=>.inl hb)
    .refine ⟨by simp [Tok.addr,Tok.cap],by simpa [Tok.cap] using hroom,by simpa using hlim,?_⟩;show Row t g' (some ⟨q.1,0,none⟩) (xs++ys);refine ⟨.inr rfl,λj y hj=>?_⟩;by_cases hjx:j<xs.length
     .rw [List.getElem?_append_left hjx] at hj;exact ((hrow'.2 j y hj).mono e)
     .rw [List.getElem?_append_right (by omega)] at hj;obtain ⟨ds,h1,h2⟩:=hnc.2.2 _ y hj;refine ⟨ds,t.mono e h1,λm v hm=>?_⟩;have h3:=h2 m v hm;have hml:=(List.getElem?_eq_some_iff.1 h3).1;have hmul:j*t.size=xs.length*t.size+(j-xs.length)*t.size:=by rw [<-Nat.add_mul];congr 1;omega
      refine ⟨?_,?_⟩
      .show 0+j*t.size+m<(if q.1=q.1 then _ else _);rw [if_pos rfl,Nat.add_mul,<-hnc.1];omega
      .rw [cell_of_row _ _ _ _ _ _ hheap'];simp only [new,List.getElem?_toArray];rw [List.append_assoc,List.getElem?_append_right (by rw [holdl,hsz];omega),holdl,hsz,List.getElem?_append_left (by omega)];rw [show 0+j*t.size+m-xs.length*t.size=(j-xs.length)*t.size+m by omega];exact h3
    .refine ⟨new,hheap',?_,by simpa using hroom,hcm,?_⟩
     .simp only [new,List.size_toArray,List.length_append,holdl,List.length_drop,Array.length_toList];omega
     .show (if q.1=q.1 then _ else _)=_;rw [if_pos rfl];simp
   .have hfit2:Builtin.nextslicecap (xs.length+ys.length) q.2*i.bytes<=281474976710656:=growslice_fits (by omega) (by
     have:=Nat.mul_le_mul hl hby;unfold vY at this;omega)
    have hrun:=run_append_grow (P:=P) g.w T ty E i z hT hi hz ⟨q.1,0,none⟩ xs.length q.2 _ holdl hold ⟨bs,os,none⟩ ys.length c news hnl hnews (by omega) (by unfold lim at hlim;omega) hfit2;refine run _ _ hrun ?_;have hge:=grownCap_ge g.w (xs.length+ys.length) q.2 E;have hcm':grownCap g.w (xs.length+ys.length) q.2 E<=maxLen:=grownCap_le_maxLen g.w _ q.2 E (by unfold lim at hlim;unfold maxLen;omega);let cur':Array Value:=(cur.toList.take (xs.length*i.size)).toArray++news.toArray++Builtin.zeroCells z.cells (grownCap g.w (xs.length+ys.length) q.2 E-(xs.length+ys.length));let g':G:=g.drew.alloc (.cells cur' E) ((xs.length+ys.length)*t.size);have e:Ext No g g':=(Ext.drew No g).trans' (Ext.alloc No _ _ _);have hheap':g'.w.heap[g.w.heap.size]? =some (.cells cur' E (0,0)):=heap_alloc_new g.w.drew _;refine done (some (g.w.heap.size,grownCap g.w (xs.length+ys.length) q.2 E)) _ g' e.no ?_ ?_ (λb hb=>by simp at hb;exact .inr (by omega))
    .refine ⟨by simp [Tok.addr,Tok.cap],by simpa [Tok.cap] using hge,by simpa using hlim,?_⟩;show Row t g' (some ⟨g.w.heap.size,0,none⟩) (xs++ys);obtain ⟨olds,hoc,hoh⟩:=Row.cells hrow'.2;have heq:olds=cur.toList.take (xs.length*i.size):=by
      apply List.ext_getElem?;intro j;by_cases hj:j<olds.length
      .have h1:=(hoh j _ (List.getElem?_eq_getElem hj)).2;rw [cell_of_row _ _ _ _ _ _ hheap] at h1;rw [List.getElem?_eq_getElem hj,List.getElem?_take,if_pos (by rw [hsz,<-hoc.1];exact hj)];simpa using h1.symm
      .rw [List.getElem?_eq_none (by omega),List.getElem?_eq_none (by rw [holdl,hsz,<-hoc.1];omega)]
     refine ((hoc.append hnc).mono e).row λj v hj=>⟨?_,?_⟩
     .show 0+j<(if g.w.heap.size=g.w.heap.size then _ else _);rw [if_pos rfl];have:=(List.getElem?_eq_some_iff.1 hj).1;rw [(hoc.append hnc).1,List.length_append] at this;omega
     .rw [cell_of_row _ _ _ _ _ _ hheap'];have hjl:=(List.getElem?_eq_some_iff.1 hj).1;simp only [cur',Nat.zero_add];rw [Array.getElem?_append_left (by rw [<-heq];simpa using hjl)];rw [<-heq];simpa using hj
    .refine ⟨cur',hheap',?_,by simpa using hge,hcm',?_⟩
     .have e1:(cur.toList.take (xs.length*i.size)).toArray.size=xs.length*t.size:=by rw [List.size_toArray,holdl,hsz]
      simp only [cur',Array.size_append,e1,List.size_toArray,hnc.1,size_zeroCells,hzs,<-Nat.add_mul];congr 1;omega
     .show (if g.w.heap.size=g.w.heap.size then _ else _)=_;rw [if_pos rfl];simp
end
end Go.Dec
