import Derived.Test.YtalogjkalmkpjaaGreatDoorDec21
import Derived.Lib.Split
import Derived.Lib.SplitLaws
import Derived.Test.YtalogjkalmkpjaaGreatDoorDec17
import Derived.Lib.LaidTab
import Derived.Lib.ItoaLen
import Derived.Lib.AtoiAllCases
import Derived.Lib.AppendIntMem
import Derived.Below
import Derived.Lib.IndexMore
import Derived.Lib.BufferRead
import Derived.Lib.AtoiErrMem
/-
  strings.Split at a separator of one byte: what it computes, in the words of this logic; out of the library's contract.
-/
set_option linter.unusedVariables false
set_option linter.unusedSimpArgs false
namespace Go.Dec
open Go
theorem yA(c:UInt8):∀ s:Str,Lib.splitK [c] 0 (Lib.count s [c]) s=splitC c s
 | []=>by rw [Lib.count_miss (by simp [Lib.index])];rfl
 | b :: l=>by
  have ih:=yA c l;by_cases h:b=c
  ·subst h;have hix:Lib.index (b :: l) [b]=0:=by rw [Lib.index];simp [List.isPrefixOf]
   rw [Lib.count_cons_eq,Nat.add_comm,Lib.splitK,hix,if_neg (by decide)];show List.take 0 (b :: l) :: Lib.splitK [b] 0 (Lib.count l [b]) (List.drop 1 (b :: l))=_;rw [splitC,if_pos rfl,List.take_zero,List.drop_succ_cons,List.drop_zero,ih]
  ·have hp:([c]:List UInt8).isPrefixOf (b :: l)=false:=by simp [List.isPrefixOf,Ne.symm h]
   have hix:Lib.index (b :: l) [c]=if Lib.index l [c]== -1 then -1 else Lib.index l [c]+1:=by rw [Lib.index,hp];simp
   rw [Lib.count_cons_ne b c l h,splitC,if_neg h,←ih];by_cases hm:Lib.index l [c]= -1
   ·rw [Lib.count_miss hm];rfl
   ·have hge:=Lib.index_ge l [c];obtain ⟨j,hj⟩:∃ j:Nat,Lib.index l [c]=j:=⟨(Lib.index l [c]).toNat,by omega⟩
    have hix':Lib.index (b :: l) [c]=((j+1:Nat):Int):=by rw [hix,if_neg (fun e=>hm (beq_iff_eq.1 e)),hj];omega
    have n1:¬ (((j+1:Nat):Int)== -1)=true:=fun e=>by have:=beq_iff_eq.1 e;omega
    have n2:¬ ((j:Int)== -1)=true:=fun e=>by have:=beq_iff_eq.1 e;omega
    rw [Lib.count_hit (by simp) hj,Nat.add_comm,Lib.splitK,Lib.splitK,hix',hj,if_neg n1,if_neg n2];simp
def GlE(b:Nat):Res where
 blk:=fun _=>False
 holds:=fun g=>∃ m,g.Has b 0 (.int .i64 m)
 stay:=fun e _ ⟨m,h⟩=>⟨m,e.kept _ _ _ h⟩
 lt:=fun _ hb=>by cases hb
theorem rH(c:UInt8):∀ s:Str,∀ p∈splitC c s,p.length≤s.length
 | [],p,hp=>by simp [splitC] at hp;subst hp;exact Nat.le_refl _
 | b :: l,p,hp=>by
  unfold splitC at hp;split at hp
  ·rcases List.mem_cons.1 hp with rfl | hp
   ·simp
   ·have:=rH c l p hp;simp;omega
  ·split at hp
   ·simp at hp;subst hp;simp
   ·rename_i q qs hq;rcases List.mem_cons.1 hp with rfl | hp
    ·have:=rH c l q (by rw [hq];exact List.mem_cons_self);simp;omega
    ·have:=rH c l p (by rw [hq];exact List.mem_cons_of_mem _ hp);simp;omega
theorem Ci{s sep:Str}{r:List Str}(h:splitM s sep=some r):∃ c,sep= [c]∧s.length<4294967281∧r=splitC c s:=by
 unfold splitM at h;split at h
 ·split at h
  ·cases h;exact ⟨_,rfl,by assumption,rfl⟩
  ·cases h
 ·cases h
theorem DT{P:Program}{f:FuncId}{E:TypeId}{b:Nat}
  (hsp:∀ (s sep:ByteArray) (m:Int) (w:World),s.size<4294967281→w.cell? ⟨b,0,none⟩=some (.int .i64 m)→1≤sep.size→
   Calls P f #[.string s,.string sep] w fun e w'=>e= .returned (.slice (some ⟨w.heap.size,0,none⟩) (Lib.countB s sep+1) (Lib.countB s sep+1))∧w'=w.alloc (.cells ((Lib.splitB sep 0 (Lib.countB s sep) s).map Value.string).toArray E))
  (key:Nat) (s sep:Str) (r:List Str) (hm:splitM s sep=some r):aG P f [tS.is s,tS.is sep] [(key,GlE b)] (fun _:Unit=>(tL tS).is r) (fun _=>[]):=by
 obtain ⟨c,rfl,hlen,rfl⟩:=Ci hm;intro g vs hvs hr hd
 match vs,hvs with
 | [v1,v2],hvs=>
  obtain ⟨⟨_,⟨rfl,hl1⟩,rfl⟩,⟨_,⟨rfl,_⟩,rfl⟩,_⟩:=hvs;obtain ⟨m,_,hmx⟩:=hr _ List.mem_cons_self;have hsz:(str s).size=s.length:=by simp [str,ByteArray.size]
  have hpieces:(Lib.splitB (str [c]) 0 (Lib.countB (str s) (str [c])) (str s)).map (·.data.toList)=splitC c s:=by
   rw [Lib.splitB_data];exact yA c s
  refine (hsp (str s) (str [c]) m g.w (by rw [hsz];exact hlen) hmx (by simp [str,ByteArray.size])).mono ?_;rintro e w' ⟨rfl,rfl⟩;generalize hL:Lib.splitB (str [c]) 0 (Lib.countB (str s) (str [c])) (str s)=L at hpieces;have hL2:L=(splitC c s).map str:=by
   rw [←hpieces,List.map_map];exact (List.map_id'' (fun x=>by simp [str]) L).symm
  have hcnt:Lib.countB (str s) (str [c])+1=(splitC c s).length:=by
   have:=Lib.splitB_all (str [c]) (by simp [str,ByteArray.size]) 0 _ (str s) rfl;rw [hL,hL2] at this;simpa using this.symm
  have hcl:(splitC c s).length≤lim:=by
   have:=Lib.countB_le (str [c]) (by simp [str,ByteArray.size]) _ (str s) (Nat.le_refl _);rw [hsz] at this;unfold lim;omega
  rw [hcnt];let g':G:=g.alloc (.cells (L.map Value.string).toArray E) (splitC c s).length;have e:Ext No g g':=Ext.alloc No _ _ _;have hheap:g'.w.heap[g.w.heap.size]? =some (.cells (L.map Value.string).toArray E (0,0)):=heap_alloc_new g.w _;refine ⟨(),_,g',rfl,rfl,e.no,⟨_,⟨some ⟨g.w.heap.size,0,none⟩,_,rfl,Nat.le_refl _,hcl,(fun h=>by cases h),.inr rfl,fun i x hx=>?_⟩,rfl⟩,fun y hy=>(by cases hy),List.Pairwise.nil,fun b' ⟨y,hy,_⟩=>by cases hy⟩;have hil:=(List.getElem?_eq_some_iff.1 hx).1;have hxm:x∈splitC c s:=List.mem_of_getElem? hx;refine ⟨[.string (str x)],⟨rfl,by have:=rH c s x hxm;unfold lim;omega⟩,fun j v hj=>?_⟩;cases j with
  | succ j=>simp at hj
  | zero=>
   simp at hj;subst hj;refine ⟨?_,?_⟩
   ·show 0+i*1+0<(if g.w.heap.size=g.w.heap.size then _ else _);rw [if_pos rfl];omega
   ·rw [cell_of_row _ _ _ _ _ _ hheap,hL2];have:i*tS.size=i:=by show i*1=i;omega
    simp [this,hx]
end Go.Dec
/-
  Short names, and conditions in one step.
-/
namespace Go.Dec
open Go
abbrev Un:Asn:=Asn.eq undef
theorem Si{α:Type}{a b:α}(h:some a=some b):a=b:=Option.some.inj h
theorem Bs{α β:Type}{o:Option α}{f:α→Option β}{b:β}(h:o.bind f=some b):∃ a,o=some a∧f a=some b:=bind_some h
section
variable {α:Type} {p:Prop} [Decidable p] {b0:Bool} {a b:Option α} {r:α}
theorem iteD(hm:(if p then a else b)=some r):(p∧decide p=true∧a=some r)∨(¬ p∧decide p=false∧b=some r):=by
 by_cases h:p
 ·rw [if_pos h] at hm;exact .inl ⟨h,decide_eq_true h,hm⟩
 ·rw [if_neg h] at hm;exact .inr ⟨h,decide_eq_false h,hm⟩
end
section
variable {α:Type} {b0:Bool} {a b:Option α} {r:α}
theorem iteB(hm:(if b0=true then a else b)=some r):(b0=true∧b0=true∧a=some r)∨(¬ b0=true∧b0=false∧b=some r):=by
 cases b0 with
 | true=>exact .inl ⟨rfl,rfl,hm⟩
 | false=>exact .inr ⟨Bool.noConfusion,rfl,hm⟩
theorem iteR(hm:(if b0=false then a else b)=some r):(b0=false∧(!b0)=true∧a=some r)∨(¬ b0=false∧(!b0)=false∧b=some r):=by
 cases b0 with
 | true=>exact .inr ⟨Bool.noConfusion,rfl,hm⟩
 | false=>exact .inl ⟨rfl,rfl,hm⟩
end
section
variable {P:Program} {N:Nat} {g0:G} {T0:Nat→Prop} {ks:List KF} {B:Exit→Act→World→Prop} {env:Env} {res:Rs} {α:Type} {a b:Option α} {r:α} {x:Operand} {c d:Code}
theorem Opd.t{t:Nat}{A:Asn}(h:look t env=some A):Opd env (.tmp t) A:=Opd.tmp h
theorem W.cD{p:Prop}[Decidable p](hm:(if p then a else b)=some r)(hx:Opd env x (tB.is (decide p)))(ht:p→a=some r→W P N g0 T0 c ks B env res)(hf:¬ p→b=some r→W P N g0 T0 d ks B env res):W P N g0 T0 (.cond x c d) ks B env res:=by
 rcases iteD hm with ⟨h,e,k⟩ | ⟨h,e,k⟩
 ·exact W.cond hx (fun _=>ht h k) (fun e'=>by rw [e] at e';cases e')
 ·exact W.cond hx (fun e'=>by rw [e] at e';cases e') (fun _=>hf h k)
theorem W.cB{b0:Bool}(hm:(if b0=true then a else b)=some r)(hx:Opd env x (tB.is b0))(ht:b0=true→a=some r→W P N g0 T0 c ks B env res)(hf:¬ b0=true→b=some r→W P N g0 T0 d ks B env res):W P N g0 T0 (.cond x c d) ks B env res:=by
 rcases iteB hm with ⟨h,e,k⟩ | ⟨h,e,k⟩
 ·exact W.cond hx (fun _=>ht h k) (fun e'=>by rw [e] at e';cases e')
 ·exact W.cond hx (fun e'=>by rw [e] at e';cases e') (fun _=>hf h k)
theorem W.cR{b0:Bool}(hm:(if b0=false then a else b)=some r)(hx:Opd env x (tB.is (!b0)))(ht:b0=false→a=some r→W P N g0 T0 c ks B env res)(hf:¬ b0=false→b=some r→W P N g0 T0 d ks B env res):W P N g0 T0 (.cond x c d) ks B env res:=by
 rcases iteR hm with ⟨h,e,k⟩ | ⟨h,e,k⟩
 ·exact W.cond hx (fun _=>ht h k) (fun e'=>by rw [e] at e';cases e')
 ·exact W.cond hx (fun e'=>by rw [e] at e';cases e') (fun _=>hf h k)
end
section
variable {P:Program} {N:Nat} {g0:G} {T0:Nat→Prop} {ks:List KF} {B:Exit→Act→World→Prop} {env:Env} {res:Rs} {ops:Array Oper} {Q:Exit→Act→World→Prop} {rest:List Oper}
theorem Ao{A:Asn}{d:Nat}{op:Op}{ty:TypeId}{pos:String}{aft:Array Edge}(hd:Nat.blt d N=true)(h:Op1 P ⟨some d,op,ty,pos,aft,none⟩ env res A)
  (k:WL P N g0 T0 ops Q rest ((d,A) :: env) res):WL P N g0 T0 ops Q (⟨some d,op,ty,pos,aft,none⟩ :: rest) env res:=WL.op hd h k
theorem Am{d t:Nat}{A:Asn}{ty:TypeId}{pos:String}{aft:Array Edge}(h:look t env=some A)(hd:Nat.blt d N=true)(k:WL P N g0 T0 ops Q rest ((d,A) :: env) res):WL P N g0 T0 ops Q (⟨some d,.move (.tmp t),ty,pos,aft,none⟩ :: rest) env res:=WL.mv h hd k
theorem Ag{d t:Nat}{A:Asn}{ty:TypeId}{pos:String}{aft:Array Edge}(h:look t env=some A)(hd:Nat.blt d N=true)(k:WL P N g0 T0 ops Q rest ((d,A) :: env) res):WL P N g0 T0 ops Q (⟨some d,.assign (.tmp t),ty,pos,aft,none⟩ :: rest) env res:=WL.gv h hd k
theorem An{c:Code}(h:W P N g0 T0 c ks B env res):WL P N g0 T0 ops (KF.sem P (.seq c :: ks) B) [] env res:=WL.ns h
theorem Ar{id:Nat}{l:List Oper}{c:Code}(h:WL P N g0 T0 l.toArray (KF.sem P (.seq c :: ks) B) l env res):WL P N g0 T0 ops (KF.sem P (.seq (.seq (.region id l.toArray false) c) :: ks) B) [] env res:=WL.nr h
theorem Aw{id:Nat}{l:List Oper}{c:Code}(h:WL P N g0 T0 l.toArray (KF.sem P (.seq c :: ks) B) l env res):W P N g0 T0 (.seq (.region id l.toArray false) c) ks B env res:=W.sr h
theorem Aq{c:Code}(h:W P N g0 T0 c ks B env res):WN P N g0 T0 (.seq c :: ks) B env res:=h
theorem Ap{o:Oper}{j dj:Nat}{want b:Bool}{oj:Oper}{d:Nat}{op:Op}{ty:TypeId}{pos:String}{aft:Array Edge}
  (h:(o,ops[j]?,oj.dst,look dj env,Nat.blt dj N,Nat.blt d N)=((⟨some d,op,ty,pos,aft,some (j,want)⟩,some oj,some dj,some (tB.is b),true,true):Oper×Option Oper×Option Nat×Option Asn×Bool×Bool)) (hb:b= !want)
  (k:WL P N g0 T0 ops Q rest ((d,Un) :: env) res):WL P N g0 T0 ops Q (o :: rest) env res:=by
 simp only [Prod.mk.injEq] at h;exact WL.pass h.1 h.2.1 h.2.2.1 h.2.2.2.1 hb h.2.2.2.2.1 h.2.2.2.2.2 k
theorem Ax{o:Oper}{j dj:Nat}{want b:Bool}{oj:Oper}{d:Nat}{op:Op}{ty:TypeId}{pos:String}{aft:Array Edge}{A:Asn}
  (h:(o,ops[j]?,oj.dst,look dj env,Nat.blt dj N,Nat.blt d N)=((⟨some d,op,ty,pos,aft,some (j,want)⟩,some oj,some dj,some (tB.is b),true,true):Oper×Option Oper×Option Nat×Option Asn×Bool×Bool)) (hb:b=want)
  (h1:Op1 P ⟨some d,op,ty,pos,aft,some (j,want)⟩ env res A) (k:WL P N g0 T0 ops Q rest ((d,A) :: env) res):WL P N g0 T0 ops Q (o :: rest) env res:=by
 simp only [Prod.mk.injEq] at h;exact WL.run h.1 h.2.1 h.2.2.1 h.2.2.2.1 hb h.2.2.2.2.1 h.2.2.2.2.2 h1 k
end
theorem Dp{c:Prop}{P:Program}{l:List Oper}{d:Option Tmp}{op:Op}{ty:TypeId}{pos:String}{aft:Array Edge}{j:Nat}{want b:Bool}{oj:Oper}{dj:Nat}{e:Env}{res:Rs}
  (h:(l[j]?,oj.dst,look dj e)=((some oj,some dj,some (tB.is b)):Option Oper×Option Nat×Option Asn)) (hb:b= !want):c∨DObl P l ⟨d,op,ty,pos,aft,some (j,want)⟩ e res Un:=by
 simp only [Prod.mk.injEq] at h;exact .inr (dp h.1 h.2.1 h.2.2 hb)
theorem Dr{c:Prop}{P:Program}{l:List Oper}{d:Option Tmp}{op:Op}{ty:TypeId}{pos:String}{aft:Array Edge}{j:Nat}{want b:Bool}{oj:Oper}{dj:Nat}{e:Env}{res:Rs}{A:Asn}
  (h:(l[j]?,oj.dst,look dj e)=((some oj,some dj,some (tB.is b)):Option Oper×Option Nat×Option Asn)) (hb:b=want) (h1:Op1 P ⟨d,op,ty,pos,aft,some (j,want)⟩ e res A):c∨DObl P l ⟨d,op,ty,pos,aft,some (j,want)⟩ e res A:=by
 simp only [Prod.mk.injEq] at h;exact .inr (dr h.1 h.2.1 h.2.2 hb h1)
theorem Dn{c:Prop}{P:Program}{l:List Oper}{d:Option Tmp}{op:Op}{ty:TypeId}{pos:String}{aft:Array Edge}{e:Env}{res:Rs}{A:Asn}(h:Op1 P ⟨d,op,ty,pos,aft,none⟩ e res A):c∨DObl P l ⟨d,op,ty,pos,aft,none⟩ e res A:=.inr h
end Go.Dec
/-
  strconv.FormatInt at base 10, strconv.Atoi and strings.Cut: what they compute, in the words of this logic; out of the library's contracts.
-/
namespace Go.Dec
open Go Go.RowKit
def GlT(P:Program)(name:String)(k:IntKind)(zs:List Int):Res where
 blk:=fun _=>False
 holds:=fun g=>∃ b,P.globalNamed name=some b∧g.Full b (.inl zs.length)∧ ∀ (i:Nat) z,zs[i]? =some z→g.Has b i (.int k z)
 stay:=fun e _ ⟨b,h1,h2,h3⟩=>⟨b,h1,e.rows _ _ h2,fun i z hz=>e.kept _ _ _ (h3 i z hz)⟩
 lt:=fun _ hb=>by cases hb
theorem GlT.tab{P:Program}{name:String}{k:IntKind}{zs:List Int}{g:G}(h:(GlT P name k zs).holds g):Lib.TabIs P g.w name k zs:=by
 obtain ⟨b,h1,h2,h3⟩:=h;show g.w.var? P name=_;have he0:=Array.getElem?_eq_getElem h2.lt;rcases h2.row he0 with ⟨cs,t,u,ho,hn0⟩ | ⟨_,_,_,hn0,_⟩
 ·have he:g.w.heap[b]? =some (.cells cs t u):=by rw [he0,ho]
  have hn:cs.size=zs.length:=(Sum.inl.inj hn0).symm;have:cs=(zs.map fun z=>Value.int k z).toArray:=by
   apply Array.ext_getElem?;intro i;by_cases hi:i<zs.length
   ·have h4:=(h3 i _ (List.getElem?_eq_getElem hi)).2;simp only [World.cell?,he] at h4;simp [hi,List.getElem?_eq_getElem];simpa using h4
   ·rw [Array.getElem?_eq_none (by omega),Array.getElem?_eq_none (by simp;omega)]
  simp [World.var?,h1,he,this]
 ·cases hn0
theorem Ff{g:G}{w':World}(h:Below g.w.heap.size g.w w'):Ext No g ⟨w',fun b=>if b<g.w.heap.size then g.S b else 0⟩:=
 wN _ h.os h.tape h.output h.size (fun x hx _=>⟨h.block x hx,if_pos hx⟩) (fun x hf=>hf.elim)
theorem nY{P:Program}{f:FuncId}{As:List Asn}{rin:Rs}{A:Asn}
  (h:∀ (g:G) (vs:List Value),All2 As vs g→rin.all g→Calls P f vs.toArray g.w fun e w'=>∃ v,e= .returned v∧Below g.w.heap.size g.w w'∧ ∀ g',A.holds v g'):aG P f As rin (fun _:Unit=>A) (fun _=>[]):=by
 intro g vs hvs hr hd;refine (h g vs hvs hr).mono ?_;rintro e w' ⟨v,rfl,hb,hv⟩;exact ⟨(),_,_,rfl,rfl,(Ff hb).no,hv _,fun y hy=>(by cases hy),List.Pairwise.nil,fun b' ⟨y,hy,_⟩=>by cases hy⟩
theorem Fg{P:Program}{f:FuncId}{nm:String}
  (hsp:∀ (n:Int),-9223372036854775808≤n→n≤9223372036854775807→∀ w:World,Lib.TabIs P w nm .u64 Lib.pow10Tab→
   Calls P f #[.int .i64 n] w fun e w'=>e= .returned (.string ⟨(Lib.itoa n).toArray⟩)∧ ∃ k os,w'=Sort.grow (w.drewN k) os)
  (key:Nat) (n:Int) (r:Str) (hm:itoaM n=some r):aG P f [(tI .i64).is n] [(key,GlT P nm .u64 Lib.pow10Tab)] (fun _:Unit=>tS.is r) (fun _=>[]):=by
 cases hm;refine nY fun g vs hvs hr=>?_
 match vs,hvs with
 | [v1],hvs=>
  obtain ⟨⟨_,⟨rfl,hl1⟩,rfl⟩,_⟩:=hvs;have htab:=GlT.tab (hr _ List.mem_cons_self);have hb:-9223372036854775808≤n∧n≤9223372036854775807:=inR64.1 hl1;refine (hsp n hb.1 hb.2 g.w htab).mono ?_;rintro e w' ⟨rfl,k,os,rfl⟩;exact ⟨_,rfl,Lib.below_grow _ _ (Nat.le_refl _) k os,fun g'=>⟨_,⟨rfl,by have:=Lib.itoa_length_le n hb.1 hb.2;unfold lim;omega⟩,rfl⟩⟩
theorem Cj(s sep:Str):(Lib.cut s sep).1.length≤s.length∧(Lib.cut s sep).2.1.length≤s.length:=by
 unfold Lib.cut;split
 ·exact ⟨by simp [Nat.min_le_right],by simp⟩
 ·exact ⟨Nat.le_refl _,by simp⟩
theorem F7{P:Program}{f:FuncId}{b:Nat}
  (hsp:∀ (s sep:ByteArray) (m:Int) (w:World),s.size<4294967281→w.cell? ⟨b,0,none⟩=some (.int .i64 m)→
   Calls P f #[.string s,.string sep] w fun e w'=>e= .returned (.tuple #[.string ⟨(Lib.cut s.data.toList sep.data.toList).1.toArray⟩,.string ⟨(Lib.cut s.data.toList sep.data.toList).2.1.toArray⟩,.bool (Lib.cut s.data.toList sep.data.toList).2.2])∧ ∃ n,w'=w.drewN n)
  (key:Nat) (s sep:Str) (r:Str×Str×Bool) (hm:cutM s sep=some r):aG P f [tS.is s,tS.is sep] [(key,GlE b)] (fun _:Unit=>Asn.tuple3 (tS.is r.1) (tS.is r.2.1) (tB.is r.2.2)) (fun _=>[]):=by
 unfold cutM at hm;split at hm
 ·rename_i hlen;cases hm;refine nY fun g vs hvs hr=>?_
  match vs,hvs with
  | [v1,v2],hvs=>
   obtain ⟨⟨_,⟨rfl,hl1⟩,rfl⟩,⟨_,⟨rfl,_⟩,rfl⟩,_⟩:=hvs;obtain ⟨m,_,hmx⟩:=hr _ List.mem_cons_self;have hsz:(str s).size=s.length:=by simp [str,ByteArray.size]
   have h1:=(Cj s sep).1;have h2:=(Cj s sep).2;refine (hsp (str s) (str sep) m g.w (by rw [hsz];exact hlen) hmx).mono ?_;rintro e w' ⟨rfl,n,rfl⟩;have e1:(str s).data.toList=s:=by simp [str]
   have e2:(str sep).data.toList=sep:=by simp [str]
   rw [e1,e2];exact ⟨_,rfl,⟨rfl,rfl,rfl,Nat.le_refl _,fun _ _=>rfl⟩,fun g'=>⟨_,_,_,rfl,⟨[.string (str (Lib.cut s sep).1)],⟨rfl,by unfold lim;omega⟩,rfl⟩,⟨[.string (str (Lib.cut s sep).2.1)],⟨rfl,by unfold lim;omega⟩,rfl⟩,_,rfl,rfl⟩⟩
 ·cases hm
def GlI(b:Nat):Res where
 blk:=fun _=>False
 holds:=fun g=>∃ ev,g.Has b 0 ev∧(ev= .nilIface∨ ∃ te pe,ev= .iface te pe)
 stay:=fun e _ ⟨m,h,k⟩=>⟨m,e.kept _ _ _ h,k⟩
 lt:=fun _ hb=>by cases hb
theorem Fld.arr{α:Type}{t:Ty α}{n j:Nat}(hj:j<n)(z:α):Fld (tA n t) (j*t.size) t (fun xs=>(xs[j]?).getD z):=by
 rintro g cs x ⟨hl,h⟩;have hj':j<x.length:=by omega
 have h1:=h.2.2 j _ (List.getElem?_eq_getElem hj');show ∃ ds,t.rep g ds ((x[j]?).getD z)∧_;rw [List.getElem?_eq_getElem hj'];exact h1
theorem az.arr{α:Type}{t:Ty α}{n j:Nat}(hj:j<n):az (tA n t) (j*t.size) t (fun xs y=>xs.set j y):=by
 rintro g cs ds x y ⟨hl,h⟩ hy;have hb:(j+1)*t.size≤n*t.size:=Nat.mul_le_mul_right _ hj;rw [Nat.add_mul,Nat.one_mul] at hb;refine ⟨by rw [h.1,t.len hy,hl];exact hb,by rw [List.length_set];exact hl,h.set hy (by omega)⟩
theorem Op1.indexAddrB{P:Program}{d:Option Tmp}{ty:TypeId}{pos:String}{aft:Array Edge}{gd:Option (Nat×Bool)}{env:Env}{res:Rs}{T E:TypeId}{n b sz:Nat}{x y:Operand}{k:IntKind}{i:Int}(hT:P.underlying T=some (.array n E))(hsz:∀ w,(sizeOf E).run P w= .ok sz w)(hx:Opd env x (Bp b 0))(hy:Opd env y ((tI k).is i))(hi:0≤i∧i<n) :
  Op1 P ⟨d,.indexAddr T x y,ty,pos,aft,gd⟩ env res (Bp b (i.toNat*sz)):=
 Op1.same fun a g hc=>by
  have hv:a.eval x= .pointer (some ⟨b,0,none⟩):=hx a g hc.henv;have hw:=(hy.atInt hc).1;refine ⟨.pointer (some ⟨b,i.toNat*sz,none⟩),?_,rfl⟩;simp [execOp,hv,hw,Instr.indexAt,run_underlying hT,Instr.sureAddr,hsz,hi,asIntOf,Addr.add_lit]
end Go.Dec
