/-
  A small program logic over the model: ghost worlds with sealed cells, typed readings of values, environments of slots, resources, and rules for code, regions and operations. Nothing here speaks of a given program.
-/
import Derived.WalkKit
import Derived.WalkSpells
import Derived.Deep.LoopGhost
import Derived.Laws.AppendOwnNone
import Derived.Test.YtalogjkalmkpjaaGreatDoorMod
set_option linter.unusedVariables false
set_option linter.unusedSimpArgs false
namespace Go.Dec
open Go
structure G where
 w:World
 S:Nat→Nat
def G.Has(g:G)(b i:Nat)(v:Value):Prop:=i<g.S b∧g.w.cell? ⟨b,i,none⟩=some v
theorem G.Has.lt{g:G}{b i:Nat}{v:Value}(h:g.Has b i v):b<g.w.heap.size:=World.block_lt_of_cell? (a:=⟨b,i,none⟩) g.w h.2
abbrev Whl:=Nat ⊕ (Array MapEntry×Nat)
def mapsSeal:Bool:=true
def whl(o:Obj):Option Whl:=match o with
 | .cells cs _ _=>some (.inl cs.size)
 | .map es k=>bif mapsSeal then some (.inr (es,k)) else none
 | _=>none
def rowN(w:World)(b:Nat):Option Whl:=(w.heap[b]?).bind whl
def rsz:Whl→Nat
 | .inl n=>n
 | .inr _=>1
def G.Full(g:G)(b:Nat)(n:Whl):Prop:=rowN g.w b=some n∧rsz n≤g.S b∧0<rsz n
theorem G.Full.lt{g:G}{b:Nat}{n:Whl}(h:g.Full b n):b<g.w.heap.size:=by
 have h1:=h.1
 unfold rowN at h1
 cases e:g.w.heap[b]? with
 | none=>rw [e] at h1;cases h1
 | some o=>exact (Array.getElem?_eq_some_iff.1 e).1
theorem G.Full.row{g:G}{b:Nat}{n:Whl}(h:g.Full b n){o:Obj}(ho:g.w.heap[b]? =some o):(∃ cs t u,o= .cells cs t u∧n= .inl cs.size)∨(∃ es k,o= .map es k∧n= .inr (es,k)∧mapsSeal=true):=by
 have h1:=h.1
 unfold rowN at h1
 rw [ho] at h1
 have h2:whl o=some n:=h1
 cases o with
 | cells cs t u=>exact .inl ⟨_,_,_,rfl,(Option.some.inj h2).symm⟩
 | map es k=>
  simp only [whl] at h2
  cases hm:mapsSeal with
  | true=>rw [hm] at h2;exact .inr ⟨_,_,rfl,(Option.some.inj h2).symm,rfl⟩
  | false=>rw [hm] at h2;cases h2
 | _=>cases h2
theorem G.Full.same{g g':G}{b:Nat}{n:Whl}(h:g.Full b n)(hh:g'.w.heap[b]? =g.w.heap[b]?)(hS:g.S b≤g'.S b):g'.Full b n:=
 ⟨by have:=h.1;unfold rowN at this ⊢;rw [hh];exact this,Nat.le_trans h.2.1 hS,h.2.2⟩
theorem G.Full.pos{g:G}{b:Nat}{n:Whl}(h:g.Full b n)(h0:g.S b=0):False:=by have:=h.2;omega
structure Ext (T:Nat→Prop) (g g':G):Prop where
 os:g'.w.os=g.w.os
 tape:g'.w.tape=g.w.tape
 output:g'.w.output=g.w.output
 size:g.w.heap.size≤g'.w.heap.size
 same:∀ b,b<g.w.heap.size→¬ T b→g'.w.heap[b]? =g.w.heap[b]? ∧g'.S b=g.S b
 kept:∀ b i v,g.Has b i v→g'.Has b i v
 rows:∀ b n,g.Full b n→g'.Full b n
def No:Nat→Prop:=fun _=>False
theorem Ext.refl(T:Nat→Prop)(g:G):Ext T g g:=⟨rfl,rfl,rfl,Nat.le_refl _,fun _ _ _=>⟨rfl,rfl⟩,fun _ _ _ h=>h,fun _ _ h=>h⟩
theorem Ext.trans{T T':Nat→Prop}{a b c:G}(h:Ext T a b)(k:Ext T' b c)(hT:∀ x,x<a.w.heap.size→T' x→T x):Ext T a c:=
 ⟨k.os.trans h.os,k.tape.trans h.tape,k.output.trans h.output,Nat.le_trans h.size k.size,
  fun x hx hn=>by
   have h1:=h.same x hx hn
   have h2:=k.same x (Nat.lt_of_lt_of_le hx h.size) (fun ht=>hn (hT x hx ht))
   exact ⟨h2.1.trans h1.1,h2.2.trans h1.2⟩,
  fun x i v hv=>k.kept x i v (h.kept x i v hv),fun x n hv=>k.rows x n (h.rows x n hv)⟩
theorem Ext.mono{T T':Nat→Prop}{a b:G}(h:Ext T a b)(hT:∀ x,T x→T' x):Ext T' a b:=
 ⟨h.os,h.tape,h.output,h.size,fun x hx hn=>h.same x hx (fun ht=>hn (hT x ht)),h.kept,h.rows⟩
theorem Ext.no{T:Nat→Prop}{a b:G}(h:Ext No a b):Ext T a b:=h.mono (fun _ hf=>hf.elim)
theorem Ext.trans'{T:Nat→Prop}{a b c:G}(h:Ext T a b)(k:Ext No b c):Ext T a c:=h.trans k (fun _ _ hf=>hf.elim)
def G.drew(g:G):G:=⟨g.w.drew,g.S⟩
theorem Ext.drew(T:Nat→Prop)(g:G):Ext T g g.drew:=⟨rfl,rfl,rfl,Nat.le_refl _,fun _ _ _=>⟨rfl,rfl⟩,fun _ _ _ h=>h,fun _ _ h=>h⟩
def G.alloc(g:G)(o:Obj)(s:Nat):G:=⟨g.w.alloc o,fun b=>if b=g.w.heap.size then s else g.S b⟩
theorem Ext.alloc(T:Nat→Prop)(g:G)(o:Obj)(s:Nat):Ext T g (g.alloc o s):=by
 refine ⟨rfl,rfl,rfl,by simp [G.alloc],fun b hb _=>⟨heap_alloc_old g.w o hb,?_⟩,fun b i v hv=>?_,fun b n hv=>hv.same (heap_alloc_old g.w o hv.lt) ?_⟩
 ·simp only [G.alloc];rw [if_neg (by omega)]
 ·have hb:=hv.lt
  refine ⟨?_,?_⟩
  ·simp only [G.alloc];rw [if_neg (by omega)];exact hv.1
  ·show (g.w.alloc o).cell? _=_
   rw [World.cell?_alloc_lt (a:=⟨b,i,none⟩) _ _ hb];exact hv.2
 ·have:=hv.lt
  simp only [G.alloc];rw [if_neg (by omega)];exact Nat.le_refl _
def mkVal(agg:Bool)(cs:List Value):Value:=match agg with
 | true=>.agg cs.toArray
 | false=>cs.headD undef
structure Ty (α:Type) where
 size:Nat
 agg:Bool
 rep:G→List Value→α→Prop
 len:∀ {g cs x},rep g cs x→cs.length=size
 one:∀ {g cs x},rep g cs x→∀ c∈cs,c.oneCell'=true
 mono:∀ {T g g' cs x},Ext T g g'→rep g cs x→rep g' cs x
 sing:agg=false→size=1
structure Asn where
 holds:Value→G→Prop
 mono:∀ {T v g g'},Ext T g g'→holds v g→holds v g'
def Ty.is{α:Type}(t:Ty α)(x:α):Asn:=⟨fun v g=>∃ cs,t.rep g cs x∧v=mkVal t.agg cs,fun e ⟨cs,h,hv⟩=>⟨cs,t.mono e h,hv⟩⟩
theorem Ty.cells{α:Type}(t:Ty α){g:G}{cs:List Value}{x:α}(h:t.rep g cs x):(mkVal t.agg cs).cells=cs.toArray:=by
 unfold mkVal
 cases hg:t.agg with
 | true=>rfl
 | false=>
  have hl:=t.len h
  rw [t.sing hg] at hl
  match cs,hl with
  | [c],_=>
   have hc:=t.one h c (by simp)
   cases c<;> simp_all [Value.cells,Value.oneCell',List.headD]
def Asn.eq(v0:Value):Asn:=⟨fun v _=>v=v0,fun _ h=>h⟩
def Asn.any:Asn:=⟨fun _ _=>True,fun _ h=>h⟩
def Asn.tuple2(A B:Asn):Asn:=⟨fun v g=>∃ x y,v= .tuple #[x,y]∧A.holds x g∧B.holds y g,fun e ⟨x,y,h,a,b⟩=>⟨x,y,h,A.mono e a,B.mono e b⟩⟩
def Asn.tuple3(A B C:Asn):Asn:=⟨fun v g=>∃ x y z,v= .tuple #[x,y,z]∧A.holds x g∧B.holds y g∧C.holds z g,fun e ⟨x,y,z,h,a,b,c⟩=>⟨x,y,z,h,A.mono e a,B.mono e b,C.mono e c⟩⟩
def lim:Nat:=140737488355328
def inR(k:IntKind)(n:Int):Prop:=k.min≤n∧n≤k.max
instance (k:IntKind) (n:Int):Decidable (inR k n):=inferInstanceAs (Decidable (_∧_))
def tI(k:IntKind):Ty Int where
 size:=1
 agg:=false
 rep:=fun _ cs n=>cs= [.int k n]∧inR k n
 len:=fun h=>by rw [h.1];rfl
 one:=fun h c hc=>by rw [h.1] at hc;simp at hc;subst hc;rfl
 mono:=fun _ h=>h
 sing:=fun _=>rfl
def tB:Ty Bool where
 size:=1
 agg:=false
 rep:=fun _ cs b=>cs= [.bool b]
 len:=fun h=>by rw [h];rfl
 one:=fun h c hc=>by rw [h] at hc;simp at hc;subst hc;rfl
 mono:=fun _ h=>h
 sing:=fun _=>rfl
def str(l:Str):ByteArray:=⟨l.toArray⟩
def tS:Ty Str where
 size:=1
 agg:=false
 rep:=fun _ cs l=>cs= [.string (str l)]∧l.length≤lim
 len:=fun h=>by rw [h.1];rfl
 one:=fun h c hc=>by rw [h.1] at hc;simp at hc;subst hc;rfl
 mono:=fun _ h=>h
 sing:=fun _=>rfl
def Ty.At{α:Type}(t:Ty α)(g:G)(b o:Nat)(x:α):Prop:=∃ cs,t.rep g cs x∧ ∀ j v,cs[j]? =some v→g.Has b (o+j) v
theorem Ty.At.mono{α:Type}{t:Ty α}{T:Nat→Prop}{g g':G}{b o:Nat}{x:α}(e:Ext T g g')(h:t.At g b o x):t.At g' b o x:=by
 obtain ⟨cs,h1,h2⟩:=h
 exact ⟨cs,t.mono e h1,fun j v hj=>e.kept _ _ _ (h2 j v hj)⟩
def Ty.ptr{α:Type}(t:Ty α)(x:α):Asn:=⟨fun v g=>∃ b o,v= .pointer (some ⟨b,o,none⟩)∧t.At g b o x,fun e ⟨b,o,h,k⟩=>⟨b,o,h,k.mono e⟩⟩
def Row{α:Type}(t:Ty α)(g:G)(p:Option Addr)(xs:List α):Prop:=
 match p with
 | none=>xs= []
 | some a=>(xs= []∨a.spot=none)∧ ∀ i x,xs[i]? =some x→t.At g a.block (a.off+i*t.size) x
theorem Row.mono{α:Type}{t:Ty α}{T:Nat→Prop}{g g':G}{p:Option Addr}{xs:List α}(e:Ext T g g')(h:Row t g p xs):Row t g' p xs:=by
 cases p with
 | none=>exact h
 | some a=>exact ⟨h.1,fun i x hx=>(h.2 i x hx).mono e⟩
def tL{α:Type}(t:Ty α):Ty (List α) where
 size:=1
 agg:=false
 rep:=fun g cs xs=>∃ p c,cs= [.slice p xs.length c]∧xs.length≤c∧xs.length≤lim∧(p=none→c=0)∧Row t g p xs
 len:=fun ⟨_,_,h,_⟩=>by rw [h];rfl
 one:=fun ⟨_,_,h,_⟩ c hc=>by rw [h] at hc;simp at hc;subst hc;rfl
 mono:=fun e ⟨p,c,h1,h2,h3,h4,h5⟩=>⟨p,c,h1,h2,h3,h4,h5.mono e⟩
 sing:=fun _=>rfl
def tLn{α:Type}(t:Ty α):Ty (List α) where
 size:=1
 agg:=false
 rep:=fun g cs xs=>∃ p c,cs= [.slice p xs.length c]∧xs.length≤c∧xs.length≤lim∧(p=none→c=0)∧Row t g p xs∧(xs= []→p=none)
 len:=fun ⟨_,_,h,_⟩=>by rw [h];rfl
 one:=fun ⟨_,_,h,_⟩ c hc=>by rw [h] at hc;simp at hc;subst hc;rfl
 mono:=fun e ⟨p,c,h1,h2,h3,h4,h5,h6⟩=>⟨p,c,h1,h2,h3,h4,h5.mono e,h6⟩
 sing:=fun _=>rfl
def tP{α β:Type}(s:Ty α)(t:Ty β):Ty (α×β) where
 size:=s.size+t.size
 agg:=true
 rep:=fun g cs x=>∃ c1 c2,cs=c1++c2∧s.rep g c1 x.1∧t.rep g c2 x.2
 len:=fun ⟨c1,c2,h,h1,h2⟩=>by rw [h,List.length_append,s.len h1,t.len h2]
 one:=fun ⟨c1,c2,h,h1,h2⟩ c hc=>by
  rw [h] at hc
  rcases List.mem_append.1 hc with hc | hc
  ·exact s.one h1 c hc
  ·exact t.one h2 c hc
 mono:=fun e ⟨c1,c2,h,h1,h2⟩=>⟨c1,c2,h,s.mono e h1,t.mono e h2⟩
 sing:=fun h=>by cases h
def tOne{α:Type}(s:Ty α):Ty α where
 size:=s.size
 agg:=true
 rep:=s.rep
 len:=s.len
 one:=s.one
 mono:=s.mono
 sing:=fun h=>by cases h
def tMap{α β:Type}(t:Ty β)(f:α→β):Ty α where
 size:=t.size
 agg:=t.agg
 rep:=fun g cs x=>t.rep g cs (f x)
 len:=t.len
 one:=t.one
 mono:=t.mono
 sing:=t.sing
def Fld{α β:Type}(s:Ty α)(o:Nat)(t:Ty β)(f:α→β):Prop:=
 ∀ g cs x,s.rep g cs x→∃ ds,t.rep g ds (f x)∧ ∀ j v,ds[j]? =some v→cs[o+j]? =some v
theorem Fld.here{α β:Type}(s:Ty α)(t:Ty β):Fld (tP s t) 0 s Prod.fst:=by
 rintro g cs x ⟨c1,c2,rfl,h1,h2⟩
 refine ⟨c1,h1,fun j v hj=>?_⟩
 rw [Nat.zero_add,List.getElem?_append_left (by have:=(List.getElem?_eq_some_iff.1 hj).1;omega)]
 exact hj
theorem Fld.next{α β γ:Type}{s:Ty α}{t:Ty β}{u:Ty γ}{o:Nat}{f:β→γ}(h:Fld t o u f):Fld (tP s t) (s.size+o) u (fun x=>f x.2):=by
 rintro g cs x ⟨c1,c2,rfl,h1,h2⟩
 obtain ⟨ds,hd,hj⟩:=h g c2 x.2 h2
 refine ⟨ds,hd,fun j v hv=>?_⟩
 have:=hj j v hv
 rw [List.getElem?_append_right (by rw [s.len h1];omega),s.len h1]
 rw [show s.size+o+j-s.size=o+j by omega];exact this
theorem Fld.last{α:Type}(s:Ty α):Fld s 0 s (fun x=>x):=fun g cs x h=>⟨cs,h,fun j v hv=>by rw [Nat.zero_add];exact hv⟩
theorem Fld.map{α β γ:Type}{t:Ty β}{u:Ty γ}{o:Nat}{f:β→γ}{m:α→β}(h:Fld t o u f):Fld (tMap t m) o u (fun x=>f (m x)):=
 fun g cs x hx=>h g cs (m x) hx
theorem Fld.cast{α β:Type}{s:Ty α}{o o':Nat}{t:Ty β}{f f':α→β}(h:Fld s o t f)(ho:o'=o)(hf:f'=f):Fld s o' t f':=by subst ho hf;exact h
theorem Fld.at{α β:Type}{s:Ty α}{o:Nat}{t:Ty β}{f:α→β}(h:Fld s o t f){g:G}{b p:Nat}{x:α}(ha:s.At g b p x):t.At g b (p+o) (f x):=by
 obtain ⟨cs,h1,h2⟩:=ha
 obtain ⟨ds,hd,hj⟩:=h g cs x h1
 refine ⟨ds,hd,fun j v hv=>?_⟩
 rw [Nat.add_assoc]
 exact h2 _ _ (hj j v hv)
abbrev Env:=List (Nat×Asn)
def look(s:Nat):Env→Option Asn
 | []=>none
 | (k,A) :: r=>match Nat.beq k s with
  | true=>some A
  | false=>look s r
theorem look_here(s:Nat)(A:Asn)(r:Env):look s ((s,A) :: r)=some A:=by
 have:Nat.beq s s=true:=Nat.beq_refl s
 simp only [look,this]
theorem look_there{s k:Nat}(A:Asn)(r:Env)(h:k≠s):look s ((k,A) :: r)=look s r:=by
 have:Nat.beq k s=false:=by
  cases hb:Nat.beq k s with
  | false=>rfl
  | true=>exact absurd (Nat.eq_of_beq_eq_true hb) h
 simp only [look,this]
def Ent(s:Nat)(A:Asn)(e:Env):Prop:=∃ A0,look s e=some A0∧ ∀ v g,A0.holds v g→A.holds v g
theorem Ent.q{s:Nat}{A:Asn}{e:Env}(h:look s e=some A):Ent s A e:=⟨A,h,fun _ _ h=>h⟩
theorem Ent.w{s:Nat}{A A0:Asn}{e:Env}(h:look s e=some A0)(k:∀ v g,A0.holds v g→A.holds v g):Ent s A e:=⟨A0,h,k⟩
def Sub:Env→Env→Prop
 | [],_=>True
 | (s,A) :: r,e=>Ent s A e∧Sub r e
theorem Sub.look:∀ {e' e:Env},Sub e' e→∀ s A,look s e'=some A→Ent s A e
 | [],_,_,s,A,h=>by simp [Dec.look] at h
 | (k,B) :: r,e,⟨h1,h2⟩,s,A,h=>by
  by_cases hk:k=s
  ·subst hk;rw [look_here] at h;cases h;exact h1
  ·rw [look_there _ _ hk] at h;exact Sub.look h2 s A h
structure Res where
 blk:Nat→Prop
 holds:G→Prop
 stay:∀ {T g g'},Ext T g g'→(∀ b,blk b→¬ T b)→holds g→holds g'
 lt:∀ {g b},holds g→blk b→b<g.w.heap.size
abbrev Rs:=List (Nat×Res)
def Rs.dis(r:Rs):Prop:=r.Pairwise (fun x y=>∀ b,x.2.blk b→¬ y.2.blk b)
def Rs.blks(r:Rs)(b:Nat):Prop:=∃ x∈r,x.2.blk b
def Rs.all(r:Rs)(g:G):Prop:=∀ x∈r,x.2.holds g
def memB(k:Nat):List Nat→Bool
 | []=>false
 | x :: r=>match Nat.beq x k with
  | true=>true
  | false=>memB k r
def Rs.pick(ks:List Nat)(r:Rs):Rs:=r.filter (fun x=>memB x.1 ks)
def Rs.drop(ks:List Nat)(r:Rs):Rs:=r.filter (fun x=>!memB x.1 ks)
def findR(k:Nat):Rs→Option Res
 | []=>none
 | x :: r=>match Nat.beq x.1 k with
  | true=>some x.2
  | false=>findR k r
theorem findR_mem{k:Nat}{R:Res}:∀ {r:Rs},findR k r=some R→(k,R)∈r
 | [],h=>by simp [findR] at h
 | x :: r,h=>by
  unfold findR at h
  cases hb:Nat.beq x.1 k with
  | true=>
   rw [hb] at h
   cases h
   have:=Nat.eq_of_beq_eq_true hb
   subst this
   exact List.mem_cons_self
  | false=>rw [hb] at h;exact List.mem_cons_of_mem _ (findR_mem h)
def keyIn(k:Nat):Rs→Bool
 | []=>false
 | x :: r=>match Nat.beq x.1 k with
  | true=>true
  | false=>keyIn k r
theorem keyIn_of_mem{k:Nat}{R:Res}:∀ {r:Rs},(k,R)∈r→keyIn k r=true
 | x :: r,h=>by
  unfold keyIn
  cases hb:Nat.beq x.1 k with
  | true=>rfl
  | false=>
   rcases List.mem_cons.1 h with e | h
   ·subst e;rw [Nat.beq_refl] at hb;cases hb
   ·exact keyIn_of_mem h
def RSub:Rs→Rs→Prop
 | [],_=>True
 | x :: r',r=>findR x.1 r=some x.2∧keyIn x.1 r'=false∧RSub r' r
theorem RSub.mem:∀ {r' r:Rs},RSub r' r→∀ x∈r',x∈r
 | y :: r',r,⟨h1,_,h3⟩,x,hx=>by
  rcases List.mem_cons.1 hx with rfl | hx
  ·exact findR_mem h1
  ·exact RSub.mem h3 x hx
theorem Rs.dis.two{r:Rs}(h:r.dis):∀ x∈r,∀ y∈r,x.1≠y.1→∀ b,x.2.blk b→¬ y.2.blk b:=by
 induction r with
 | nil=>intro x hx;cases hx
 | cons z r ih=>
  have hp:=List.pairwise_cons.1 h
  intro x hx y hy hxy b hb hyb
  rcases List.mem_cons.1 hx with hx1 | hx1
  ·rcases List.mem_cons.1 hy with hy1 | hy1
   ·exact hxy (by rw [hx1,hy1])
   ·rw [hx1] at hb;exact hp.1 y hy1 b hb hyb
  ·rcases List.mem_cons.1 hy with hy1 | hy1
   ·rw [hy1] at hyb;exact hp.1 x hx1 b hyb hb
   ·exact ih hp.2 x hx1 y hy1 hxy b hb hyb
theorem RSub.dis:∀ {r' r:Rs},RSub r' r→r.dis→r'.dis
 | [],_,_,_=>List.Pairwise.nil
 | x :: r',r,⟨h1,h2,h3⟩,hd=>by
  refine List.pairwise_cons.2 ⟨fun y hy b hb=>?_,RSub.dis h3 hd⟩
  refine hd.two x (findR_mem h1) y (h3.mem y hy) (fun e=>?_) b hb
  obtain ⟨k,R⟩:=y
  simp at e
  rw [e,keyIn_of_mem hy] at h2
  cases h2
structure St (N:Nat) (g0:G) (T0:Nat→Prop) (env:Env) (res:Rs) (a:Act) (g:G):Prop where
 sz:a.tmps.size=N
 dfr:a.defers= []
 henv:∀ s A,look s env=some A→A.holds (a.tmps.getD s undef) g
 hres:res.all g
 dis:res.dis
 own:∀ b,res.blks b→g0.w.heap.size≤b∨T0 b
 ext:Ext T0 g0 g
structure Cx (env:Env) (res:Rs) (a:Act) (g:G):Prop where
 henv:∀ s A,look s env=some A→A.holds (a.tmps.getD s undef) g
 hres:res.all g
theorem St.cx{N:Nat}{g0:G}{T0:Nat→Prop}{env:Env}{res:Rs}{a:Act}{g:G}(h:St N g0 T0 env res a g):Cx env res a g:=⟨h.henv,h.hres⟩
theorem Rs.all.stay{r:Rs}{T:Nat→Prop}{g g':G}(h:r.all g)(e:Ext T g g')(hT:∀ b,r.blks b→¬ T b):r.all g':=
 fun x hx=>x.2.stay e (fun b hb=>hT b ⟨x,hx,hb⟩) (h x hx)
theorem getD_put_same{a:Act}{d:Nat}{v:Value}(h:d<a.tmps.size):(a.put (some d) v).tmps.getD d undef=v:=by
 simp [Act.put,Array.getD,h]
theorem getD_put_other{a:Act}{d s:Nat}{v:Value}(h:d≠s):(a.put (some d) v).tmps.getD s undef=a.tmps.getD s undef:=by
 simp [Act.put,Array.getElem?_setIfInBounds_ne h]
theorem St.put{N:Nat}{g0:G}{T0:Nat→Prop}{env:Env}{res:Rs}{a:Act}{g g':G}(h:St N g0 T0 env res a g){d:Nat}{v:Value}{A:Asn}(hd:d<N)
  (e:Ext No g g') (hv:A.holds v g'):St N g0 T0 ((d,A) :: env) res (a.put (some d) v) g':=by
 refine ⟨by simp [Act.put,h.sz],h.dfr,fun s B hs=>?_,h.hres.stay e (fun _ _ hf=>hf),h.dis,h.own,h.ext.trans' e⟩
 by_cases hk:d=s
 ·subst hk
  rw [look_here] at hs
  cases hs
  rw [getD_put_same (by rw [h.sz];exact hd)]
  exact hv
 ·rw [look_there _ _ hk] at hs
  rw [getD_put_other hk]
  exact B.mono e (h.henv s B hs)
theorem St.weaken{N:Nat}{g0:G}{T0:Nat→Prop}{env env':Env}{res res':Rs}{a:Act}{g:G}(h:St N g0 T0 env res a g)(hs:Sub env' env)(hr:RSub res' res):St N g0 T0 env' res' a g:=
 ⟨h.sz,h.dfr,fun s A hA=>let ⟨A0,h1,h2⟩:=hs.look s A hA;h2 _ _ (h.henv s A0 h1),fun x hx=>h.hres x (hr.mem x hx),hr.dis h.dis,fun b ⟨x,hx,hb⟩=>h.own b ⟨x,hr.mem x hx,hb⟩,h.ext⟩
theorem Rs.dis.split{r:Rs}(h:r.dis)(ks:List Nat):∀ b,(r.drop ks).blks b→¬ (r.pick ks).blks b:=by
 rintro b ⟨x,hx,hxb⟩ ⟨y,hy,hyb⟩
 have hx':=List.mem_filter.1 hx
 have hy':=List.mem_filter.1 hy
 induction r with
 | nil=>cases hx'.1
 | cons z r ih=>
  have hp:=List.pairwise_cons.1 h
  rcases List.mem_cons.1 hx'.1 with rfl | hx1
  ·rcases List.mem_cons.1 hy'.1 with rfl | hy1
   ·have a1:=hx'.2;have a2:=hy'.2;simp at a1 a2;simp [a1] at a2
   ·exact hp.1 y hy1 b hxb hyb
  ·rcases List.mem_cons.1 hy'.1 with rfl | hy1
   ·exact hp.1 x hx1 b hyb hxb
   ·exact ih hp.2 (List.mem_filter.2 ⟨hx1,hx'.2⟩) (List.mem_filter.2 ⟨hy1,hy'.2⟩) ⟨hx1,hx'.2⟩ ⟨hy1,hy'.2⟩
theorem St.putR{N:Nat}{g0:G}{T0:Nat→Prop}{env:Env}{res:Rs}{a:Act}{g g':G}(h:St N g0 T0 env res a g)(ks:List Nat)(out:Rs){d:Nat}{v:Value}{A:Asn}(hd:d<N)
  (e:Ext (res.pick ks).blks g g') (hv:A.holds v g') (ho:out.all g') (hod:out.dis) (hob:∀ b,out.blks b→(res.pick ks).blks b∨g.w.heap.size≤b) :
  St N g0 T0 ((d,A) :: env) (out++res.drop ks) (a.put (some d) v) g':=by
 have hdr:∀ b,(res.drop ks).blks b→b<g.w.heap.size:=by
  rintro b ⟨x,hx,hb⟩
  exact x.2.lt (h.hres x (List.mem_filter.1 hx).1) hb
 refine ⟨by simp [Act.put,h.sz],h.dfr,fun s B hs=>?_,?_,?_,?_,?_⟩
 ·by_cases hk:d=s
  ·subst hk
   rw [look_here] at hs
   cases hs
   rw [getD_put_same (by rw [h.sz];exact hd)]
   exact hv
  ·rw [look_there _ _ hk] at hs
   rw [getD_put_other hk]
   exact B.mono e (h.henv s B hs)
 ·intro x hx
  rcases List.mem_append.1 hx with hx | hx
  ·exact ho x hx
  ·exact x.2.stay e (fun b hb ht=>h.dis.split ks b ⟨x,hx,hb⟩ ht) (h.hres x (List.mem_filter.1 hx).1)
 ·refine List.pairwise_append.2 ⟨hod,h.dis.filter _,fun x hx y hy b hxb hyb=>?_⟩
  rcases hob b ⟨x,hx,hxb⟩ with hp | hp
  ·exact h.dis.split ks b ⟨y,hy,hyb⟩ hp
  ·have:=hdr b ⟨y,hy,hyb⟩;omega
 ·rintro b ⟨x,hx,hb⟩
  rcases List.mem_append.1 hx with hx | hx
  ·rcases hob b ⟨x,hx,hb⟩ with ⟨y,hy,hyb⟩ | hp
   ·exact h.own b ⟨y,(List.mem_filter.1 hy).1,hyb⟩
   ·exact .inl (Nat.le_trans h.ext.size hp)
  ·exact h.own b ⟨x,(List.mem_filter.1 hx).1,hb⟩
 ·refine h.ext.trans e (fun b hb ⟨x,hx,hxb⟩=>?_)
  rcases h.own b ⟨x,(List.mem_filter.1 hx).1,hxb⟩ with h1 | h1
  ·omega
  ·exact h1
end Go.Dec
