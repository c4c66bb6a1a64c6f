import Derived.Test.YtalogjkalmkpjaaGreatDoorDec17
import Derived.MapKept
/-
  A slice in a variable of its own, grown in place: room first, then the element and the variable in either order.
-/
set_option linter.unusedVariables false
set_option linter.unusedSimpArgs false
namespace Go.Dec
open Go
theorem vG{α:Type}{x y r:List α}(h:Dec.appC x y=some r):r=x++y∧x.length+y.length≤r9:=by
 unfold Dec.appC at h;split at h
 ·cases h;exact ⟨rfl,by unfold r9;assumption⟩
 ·cases h
def rawS(k:Tok)(n:Nat):Asn:=⟨fun v _=>v= .slice k.addr n k.cap∧n≤k.cap∧n≤lim∧k.isSome=true,fun _ h=>h⟩
def Resv{α:Type}(t:Ty α)(E:TypeId)(k:Tok)(xs:List α):Res where
 blk:=fun x=>k.map Prod.fst=some x
 holds:=fun g=>match k with
  | none=>False
  | some p=>∃ cur,g.w.heap[p.1]? =some (.cells cur E (0,0))∧cur.size=p.2*t.size∧xs.length+1≤p.2∧p.2≤maxLen∧g.S p.1=xs.length*t.size∧Row t g (some ⟨p.1,0,none⟩) xs
 stay:=fun {T g g'} e hn h=>by
  cases k with
  | none=>exact h
  | some p=>
   obtain ⟨cur,h1,h2,h3,h4,h5,h6⟩:=h;have hlt:p.1<g.w.heap.size:=(Array.getElem?_eq_some_iff.1 h1).1;have:=e.same p.1 hlt (hn p.1 rfl);exact ⟨cur,this.1.trans h1,h2,h3,h4,this.2.trans h5,h6.mono e⟩
 lt:=fun {g b} h hb=>by
  cases k with
  | none=>cases hb
  | some p=>
   obtain ⟨cur,h1,_⟩:=h;have hlt:p.1<g.w.heap.size:=(Array.getElem?_eq_some_iff.1 h1).1;cases hb;exact hlt
def Grown{α:Type}(t:Ty α)(E:TypeId)(k:Tok)(xs:List α):Res where
 blk:=fun x=>k.map Prod.fst=some x
 holds:=fun g=>(Own t E k xs.length).holds g∧Row t g k.addr xs
 stay:=fun {T g g'} e hn h=>⟨(Own t E k xs.length).stay e hn h.1,h.2.mono e⟩
 lt:=fun {g b} h hb=>(Own t E k xs.length).lt h.1 hb
section
variable {P:Program} {N:Nat} {g0:G} {T0:Nat→Prop} {ks:List KF} {B:Exit→Act→World→Prop} {env:Env} {res:Rs} {d:Option Tmp} {ty:TypeId} {pos:String} {aft:Array Edge} {gd:Option (Nat×Bool)}
theorem OpR.appendZ{α:Type}{t:Ty α}{E T:TypeId}{s x:Operand}{k:Tok}{xs:List α}{z:α}{key:Nat}(hl:xs.length+1≤r9)(hT:P.underlying T=some (.slice E))(hE:ElAt P E t)(hs:Opd env s (tO t k xs))(hx:Opd env x ((tL t).is [z]))
  (hr:res.pick [key]= [(key,Own t E k xs.length)]) :
  OpR P ⟨d,.call ⟨.builtin .append,#[s,x],#[T,T]⟩,ty,pos,aft,gd⟩ env res [key] (fun k':Tok=>rawS k' (xs.length+1)) (fun k'=>[(key,Resv t E k' xs)]):=by
 intro a g K Q hc hd hK;obtain ⟨i,zz,hi,hz,hsz,hby,hzs⟩:=hE.row;obtain ⟨hv,hc1,hl1,hrow⟩:=hs a g hc.henv;obtain ⟨p,c,hxv,hyc,hyl,hpn,hyrow⟩:=hx.atL hc;have hres:(Own t E k xs.length).holds g:=by
  have:(key,Own t E k xs.length)∈res.pick [key]:=by rw [hr];simp
  exact hc.hres _ (List.mem_filter.1 this).1
 have hlim:xs.length+1≤lim:=by unfold r9 at hl;unfold lim;omega
 have hblk:∀ b,(res.pick [key]).blks b ↔ (k.map Prod.fst)=some b:=by
  intro b;rw [hr];constructor
  ·rintro ⟨y,hy,hb⟩;simp at hy;subst hy;exact hb
  ·intro hb;exact ⟨_,List.mem_singleton.2 rfl,hb⟩
 have run:∀ v w',(Builtin.append_ #[T,T] ty #[a.eval s,a.eval x]).run P g.w= .ok v w'→K (a.put d v) w'→
   Oper.wp P ⟨d,.call ⟨.builtin .append,#[s,x],#[T,T]⟩,ty,pos,aft,gd⟩ a g.w K Q:=by
  intro v w' hrun hK';unfold Oper.wp execOp;simp only [resolve,invoke,builtin,Sem.run_bind,Sem.run_pure,Result.andThen_ok,List.map_toArray,List.map_cons,List.map_nil,hrun];exact hK'
 rw [hv,hxv] at run;have done:∀ (k':Tok) v g',Ext (res.pick [key]).blks g g'→(rawS k' (xs.length+1)).holds v g'→(Resv t E k' xs).holds g'→(∀ b,(k'.map Prod.fst)=some b→(k.map Prod.fst)=some b∨g.w.heap.size≤b)→K (a.put d v) g'.w:=by
  intro k' v g' e h1 h2 h3;refine hK k' v g' e h1 (fun y hy=>by rw [List.mem_singleton.1 hy];exact h2) (List.pairwise_singleton _ _) ?_;rintro b ⟨y,hy,hb⟩;rw [List.mem_singleton.1 hy] at hb;rcases h3 b hb with h | h
  ·exact .inl ((hblk b).2 h)
  ·exact .inr h
 cases p with
 | none=>have hy0:[z]= []:=hyrow;cases hy0
 | some ad=>
  obtain ⟨hsp,hyat⟩:=hyrow
  replace hsp:ad.spot=none:=hsp.resolve_left (by simp)
  obtain ⟨bs,os,spot⟩:=ad;simp at hsp;subst hsp;obtain ⟨news,hnc,hnh⟩:=Row.cells hyat;have hnl:news.length= [z].length*i.size:=by rw [hnc.1,hsz]
  have hnews:∀ (j:Nat) v,news[j]? =some v→g.w.cell? ((⟨bs,os,none⟩:Addr).add j)=some v:=fun j v hj=>by rw [Addr.add_lit];exact (hnh j v hj).2
  cases k with
  | none=>
   have hx0:xs= []:=hrow;subst hx0;have h48:[z].length*i.bytes≤281474976710656:=by simp;omega
   have hrun:=run_append_nil (P:=P) g.w T ty E i zz hT hi hz ⟨bs,os,none⟩ [z].length c news hnl hnews (by simp) (by simp) h48;refine run _ _ hrun ?_;have hge:=grownCap_ge g.w [z].length 0 E;have hcm:grownCap g.w [z].length 0 E≤maxLen:=grownCap_le_maxLen g.w [z].length 0 E (by unfold maxLen;simp);let cur:Array Value:=news.toArray++Builtin.zeroCells zz.cells (grownCap g.w [z].length 0 E- [z].length);let g':G:=g.drew.alloc (.cells cur E) 0;have e:Ext No g g':=(Ext.drew No g).trans' (Ext.alloc No _ _ _);have hheap:g'.w.heap[g.w.heap.size]? =some (.cells cur E (0,0)):=heap_alloc_new g.w.drew _;refine done (some (g.w.heap.size,grownCap g.w [z].length 0 E)) _ g' e.no ⟨by simp [Tok.addr,Tok.cap],by simpa [Tok.cap] using hge,by simpa using hlim,rfl⟩ ?_ (fun b hb=>by simp at hb;exact .inr (by omega));refine ⟨cur,hheap,?_,by simpa using hge,hcm,?_,.inr rfl,fun i x hx=>by simp at hx⟩
   ·simp only [cur,Array.size_append,List.size_toArray,size_zeroCells,hzs,hnc.1,←Nat.add_mul];congr 1;omega
   ·show (if g.w.heap.size=g.w.heap.size then _ else _)=_;rw [if_pos rfl];simp
  | some q=>
   obtain ⟨cur,hheap,hcs,hncap,hcm,hS⟩:=hres;have hold:∀ (j:Nat) v,(cur.toList.take (xs.length*i.size))[j]? =some v→g.w.cell? ((⟨q.1,0,none⟩:Addr).add j)=some v:=fun j v hj=>by
    rw [Addr.add_lit,cell_of_row _ _ _ _ _ _ hheap];rw [List.getElem?_take] at hj;split at hj
    ·simpa using hj
    ·cases hj
   have holdl:(cur.toList.take (xs.length*i.size)).length=xs.length*i.size:=by
    have hcl:cur.toList.length=cur.size:=by simp
    rw [List.length_take,hcl];exact Nat.min_eq_left (by rw [hcs,hsz];exact Nat.mul_le_mul_right _ hncap)
   have hrow':Row t g (some ⟨q.1,0,none⟩) xs:=hrow;by_cases hroom:xs.length+1≤q.2
   ·have hroom':xs.length+ [z].length≤q.2:=by simpa using hroom
    have hfit:xs.length*i.size+news.length≤cur.size:=by rw [hnl,hcs,←hsz,←Nat.add_mul];exact Nat.mul_le_mul_right _ hroom'
    have hrun:=run_append_room (P:=P) g.w T ty E i hT hi q.1 xs.length q.2 cur hheap ⟨bs,os,none⟩ [z].length c news hnl hnews hnc.2.1 hroom' hfit;refine run _ _ hrun ?_;let new:Array Value:=(cur.toList.take (xs.length*i.size)++news++cur.toList.drop (xs.length*i.size+news.length)).toArray;let g':G:=⟨g.w.setRow q.1 new,fun x=>if x=q.1 then xs.length*t.size else g.S x⟩
    have hnew:∀ i' v,i'< g.S q.1→cur[i']? =some v→new[i']? =some v:=by
     intro i' v h1 h2;rw [hS,←hsz] at h1;simp only [new,List.getElem?_toArray];rw [List.append_assoc,List.getElem?_append_left (by rw [holdl];exact h1),List.getElem?_take,if_pos h1];simpa using h2
    have e:Ext (fun x=>x=q.1) g g':=qi hheap (by rw [hS];exact Nat.le_refl _) hnew (fun _=>by simp [new];omega);have e':Ext (res.pick [key]).blks g g':=e.mono fun x hx=>(hblk x).2 (by simp [hx]);have hheap':g'.w.heap[q.1]? =some (.cells new E (0,0)):=setRow_heap g.w q.1 cur new E _ hheap;refine done (some q) _ g' e' ⟨by simp [Tok.addr,Tok.cap],hroom,hlim,rfl⟩ ?_ (fun b hb=>.inl hb);refine ⟨new,hheap',?_,hroom,hcm,?_,hrow'.mono e⟩
    ·simp only [new,List.size_toArray,List.length_append,holdl,List.length_drop,Array.length_toList];omega
    ·show (if q.1=q.1 then _ else _)=_;rw [if_pos rfl]
   ·have hroom':¬ xs.length+ [z].length≤q.2:=by simpa using hroom
    have hfit2:Builtin.nextslicecap (xs.length+ [z].length) q.2*i.bytes≤281474976710656:=growslice_fits (by omega) (by
     have:=Nat.mul_le_mul hl hby;unfold r9 at this;simp only [List.length_singleton];omega)
    have hrun:=run_append_grow (P:=P) g.w T ty E i zz hT hi hz ⟨q.1,0,none⟩ xs.length q.2 _ holdl hold ⟨bs,os,none⟩ [z].length c news hnl hnews (by omega) (by unfold lim at hlim;simp;omega) hfit2;refine run _ _ hrun ?_;have hge:=grownCap_ge g.w (xs.length+ [z].length) q.2 E;have hcm':grownCap g.w (xs.length+ [z].length) q.2 E≤maxLen:=grownCap_le_maxLen g.w _ q.2 E (by unfold lim at hlim;unfold maxLen;simp;omega);let cur':Array Value:=(cur.toList.take (xs.length*i.size)).toArray++news.toArray++Builtin.zeroCells zz.cells (grownCap g.w (xs.length+ [z].length) q.2 E-(xs.length+ [z].length));let g':G:=g.drew.alloc (.cells cur' E) (xs.length*t.size);have e:Ext No g g':=(Ext.drew No g).trans' (Ext.alloc No _ _ _);have hheap':g'.w.heap[g.w.heap.size]? =some (.cells cur' E (0,0)):=heap_alloc_new g.w.drew _;refine done (some (g.w.heap.size,grownCap g.w (xs.length+ [z].length) q.2 E)) _ g' e.no ⟨by simp [Tok.addr,Tok.cap],by simpa [Tok.cap] using hge,hlim,rfl⟩ ?_ (fun b hb=>by simp at hb;exact .inr (by omega));obtain ⟨olds,hoc,hoh⟩:=Row.cells hrow'.2;have heq:olds=cur.toList.take (xs.length*i.size):=by
     apply List.ext_getElem?;intro j;by_cases hj:j<olds.length
     ·have h1:=(hoh j _ (List.getElem?_eq_getElem hj)).2;rw [cell_of_row _ _ _ _ _ _ hheap] at h1;rw [List.getElem?_eq_getElem hj,List.getElem?_take,if_pos (by rw [hsz,←hoc.1];exact hj)];simpa using h1.symm
     ·rw [List.getElem?_eq_none (by omega),List.getElem?_eq_none (by rw [holdl,hsz,←hoc.1];omega)]
    refine ⟨cur',hheap',?_,by simpa using hge,hcm',?_,?_⟩
    ·have e1:(cur.toList.take (xs.length*i.size)).toArray.size=xs.length*t.size:=by rw [List.size_toArray,holdl,hsz]
     simp only [cur',Array.size_append,e1,List.size_toArray,hnc.1,size_zeroCells,hzs,←Nat.add_mul];congr 1;omega
    ·show (if g.w.heap.size=g.w.heap.size then _ else _)=_;rw [if_pos rfl]
    ·refine (hoc.mono e).row fun j v hj=>⟨?_,?_⟩
     ·show 0+j<(if g.w.heap.size=g.w.heap.size then _ else _);rw [if_pos rfl];have:=(List.getElem?_eq_some_iff.1 hj).1;rw [hoc.1] at this;omega
     ·rw [cell_of_row _ _ _ _ _ _ hheap'];have hjl:=(List.getElem?_eq_some_iff.1 hj).1;simp only [cur',Nat.zero_add,Array.append_assoc];rw [Array.getElem?_append_left (by rw [←heq];simpa using hjl)];rw [←heq];simpa using hj
theorem Op1.rawIdx{α:Type}{t:Ty α}{T E:TypeId}{x y:Operand}{k:Tok}{xs:List α}(hT:P.underlying T=some (.slice E))(hsz:∀ w,(sizeOf E).run P w= .ok t.size w)(hx:Opd env x (rawS k (xs.length+1)):=by exact .tmp rfl)(hy:Opd env y ((tI .i64).is (xs.length:Int)):=by exact .tmp rfl) :
  Op1 P ⟨d,.indexAddr T x y,ty,pos,aft,gd⟩ env res (Bp (bk k) (xs.length*t.size)):=
 Op1.same fun a g hc=>by
  obtain ⟨hv,h1,h2,h3⟩:=hx a g hc.henv;have hi:=(hy.atInt hc).1;cases k with
  | none=>cases h3
  | some p=>
   refine ⟨.pointer (some ((⟨p.1,0,none⟩:Addr).add (xs.length*t.size))),?_,?_⟩
   ·have hlt:(xs.length:Int)< ((xs.length+1:Nat):Int):=by omega
    have h0:(0:Int)≤(xs.length:Int):=by omega
    simp [execOp,Instr.indexAt,asIntOf,hv,hi,run_underlying hT,hsz,Tok.addr]
   ·rw [Addr.add_lit,Nat.zero_add];rfl
theorem Ch{α:Type}{xs v:List α}{y:α}(h:Dec.appC xs [y]=some v):xs.length+1=v.length:=by rw [(vG h).1];simp
theorem St.boxV{n:Nat}{agg:Bool}{T:TypeId}{A A':Asn}{b key:Nat}(h1:findR key res=some (Bx n agg T A b))(hA:∀ v g,A.holds v g→A'.holds v g){a:Act}{g:G}(h:St N g0 T0 env res a g):St N g0 T0 env ((key,Bx n agg T A' b) :: res.drop [key]) a g:=by
 have m1:=bT h1;have hd:∀ y∈res.drop [key],y∈res∧y.1≠key:=fun y hy=>by
  have:=List.mem_filter.1 hy;refine ⟨this.1,fun e=>?_⟩;have h3:=this.2;rw [iN.2 (show y.1∈ [key] by rw [e];simp)] at h3;cases h3
 refine ⟨h.sz,h.dfr,h.henv,fun y hy=>?_,?_,fun b' ⟨y,hy,hb⟩=>?_,h.ext⟩
 ·rcases List.mem_cons.1 hy with rfl | hy
  ·obtain ⟨cs,q1,q2,q3,q4,q5,q6⟩:=h.hres _ m1;exact ⟨cs,q1,q2,q3,q4,q5,hA _ _ q6⟩
  ·exact h.hres y (hd y hy).1
 ·refine List.pairwise_cons.2 ⟨fun y hy b' hb'=>?_,h.dis.filter _⟩;exact h.dis.two _ m1 _ (hd y hy).1 (Ne.symm (hd y hy).2) b' hb'
 ·rcases List.mem_cons.1 hy with rfl | hy
  ·exact h.own b' ⟨_,m1,hb⟩
  ·exact h.own b' ⟨y,(hd y hy).1,hb⟩
theorem WN.boxV{n:Nat}{agg:Bool}{T:TypeId}{A A':Asn}{b:Nat}(key:Nat)(h1:findR key res=some (Bx n agg T A b))(hA:∀ v g,A.holds v g→A'.holds v g)(k:WN P N g0 T0 ks B env ((key,Bx n agg T A' b) :: res.drop [key])):WN P N g0 T0 ks B env res:=fun a g hst=>k a g (hst.boxV h1 hA)
theorem W.boxV{c:Code}{n:Nat}{agg:Bool}{T:TypeId}{A A':Asn}{b:Nat}(key:Nat)(h1:findR key res=some (Bx n agg T A b))(hA:∀ v g,A.holds v g→A'.holds v g)(k:W P N g0 T0 c ks B env ((key,Bx n agg T A' b) :: res.drop [key])):W P N g0 T0 c ks B env res:=fun a g hst=>k a g (hst.boxV h1 hA)
end
theorem Ew{T:Nat→Prop}{g:G}{w':World}(S':Nat→Nat)(hos:w'.os=g.w.os)(ht:w'.tape=g.w.tape)(ho:w'.output=g.w.output)(hsz:g.w.heap.size≤w'.heap.size)
  (hs:∀ x,x<g.w.heap.size→¬ T x→w'.heap[x]? =g.w.heap[x]? ∧S' x=g.S x) (hk:∀ x i v,T x→g.Has x i v→i<S' x∧w'.cell? ⟨x,i,none⟩=some v) (hr:∀ x n,T x→g.Full x n→(⟨w',S'⟩:G).Full x n):Ext T g ⟨w',S'⟩:=by
 refine ⟨hos,ht,ho,hsz,hs,fun x i v hv=>?_,fun x n hv=>?_⟩
 case refine_2=>
  by_cases hT:T x
  ·exact hr x n hT hv
  ·obtain ⟨h1,h2⟩:=hs x hv.lt hT;exact hv.same h1 (Nat.le_of_eq h2.symm)
 by_cases hT:T x
 ·exact hk x i v hT hv
 ·obtain ⟨h1,h2⟩:=hs x hv.lt hT;refine ⟨by show i<S' x;rw [h2];exact hv.1,?_⟩;have:=hv.2;show w'.cell? ⟨x,i,none⟩=some v;simp only [World.cell?] at this ⊢;rw [h1];exact this
theorem wN{T:Nat→Prop}{g:G}{w':World}(S':Nat→Nat)(hos:w'.os=g.w.os)(ht:w'.tape=g.w.tape)(ho:w'.output=g.w.output)(hsz:g.w.heap.size≤w'.heap.size)
  (hs:∀ x,x<g.w.heap.size→¬ T x→w'.heap[x]? =g.w.heap[x]? ∧S' x=g.S x) (hk:∀ x,T x→g.S x=0):Ext T g ⟨w',S'⟩:=
 Ew S' hos ht ho hsz hs (fun x i v hx hv=>by have:=hv.1;rw [hk x hx] at this;omega) (fun x n hx hv=>(hv.pos (hk x hx)).elim)
end Go.Dec
/-
  Maps that the call has made itself, as lists of pairs in the order of their first writing.
-/
namespace Go.Dec
open Go
def Ents{α β:Type}(tk:Ty α)(tv:Ty β)(g:G):List MapEntry→List (α×β)→Prop
 | [],[]=>True
 | e :: es,p :: m=>(tk.is p.1).holds e.key g∧(tv.is p.2).holds e.val g∧Ents tk tv g es m
 | _,_=>False
theorem Ents.mono{α β:Type}{tk:Ty α}{tv:Ty β}{T:Nat→Prop}{g g':G}(e:Ext T g g'):∀ {es:List MapEntry} {m:List (α×β)},Ents tk tv g es m→Ents tk tv g' es m
 | [],[],_=>trivial
 | x :: es,p :: m,⟨h1,h2,h3⟩=>⟨(tk.is p.1).mono e h1,(tv.is p.2).mono e h2,Ents.mono e h3⟩
 | [],_ :: _,h=>h.elim
 | _ :: _,[],h=>h.elim
theorem Ents.len{α β:Type}{tk:Ty α}{tv:Ty β}{g:G}:∀ {es:List MapEntry} {m:List (α×β)},Ents tk tv g es m→es.length=m.length
 | [],[],_=>rfl
 | x :: es,p :: m,⟨_,_,h3⟩=>by simp [Ents.len h3]
 | [],_ :: _,h=>h.elim
 | _ :: _,[],h=>h.elim
def Mv(b:Nat):Asn:=Asn.eq (.map (some b))
def findAt{α:Type}[DecidableEq α](x:α):List α→List MapEntry→Nat→Option (Nat×Value)
 | y :: ys,e :: es,i=>if x=y then some (i,e.val) else findAt x ys es (i+1)
 | _,_,_=>none
structure KeyT (P:Program) {α:Type} [DecidableEq α] (T:TypeId) (t:Ty α):Prop where
 chk:∀ {g:G} {cs:List Value} {x:α},t.rep g cs x→∀ e w,(Instr.checkKey e 10000 T (mkVal t.agg cs)).run P w= .ok () w
 find:∀ {β:Type} {tv:Ty β} {g:G} {cs:List Value} {x:α} {es:List MapEntry} {m:List (α×β)},t.rep g cs x→Ents t tv g es m→∀ w,(Instr.findKey T (mkVal t.agg cs) es).run P w= .ok (findAt x (m.map Prod.fst) es 0) w
section
variable {P:Program}
theorem sF{α β:Type}[DecidableEq α]{T:TypeId}{t:Ty α}{tv:Ty β}{D:Nat}(h:EqT P T t D)(hD:D≤10000){g:G}{cs:List Value}{x:α}(hx:t.rep g cs x) :
  ∀ (es:List MapEntry) (m:List (α×β)),Ents t tv g es m→∀ i w,(Instr.findAsking T (mkVal t.agg cs) es i).run P w= .ok (findAt x (m.map Prod.fst) es i) w
 | [],[],_,i,w=>by simp [Instr.findAsking,findAt]
 | e :: es,p :: m,⟨⟨ds,h1,h2⟩,_,h3⟩,i,w=>by
  have heq:(Op.equal T (mkVal t.agg cs) e.key).run P w= .ok (decide (x=p.1)) w:=by rw [h2];exact h.eq hx h1 10000 hD w
  simp only [Instr.findAsking,Sem.run_bind,heq,Result.andThen_ok,List.map_cons,findAt];by_cases hp:x=p.1
  ·simp [hp]
  ·rw [if_neg hp];simp only [hp,decide_false,Bool.false_eq_true,if_false];exact sF h hD hx es m h3 (i+1) w
 | [],_ :: _,h,_,_=>h.elim
 | _ :: _,[],h,_,_=>h.elim
def CkL(P:Program){α:Type}(s:Ty α)(n:Nat):List Field→Prop
 | []=>True
 | f :: fs=>(∃ (β:Type) (t:Ty β) (p:α→β),TyAt P f.type t∧Fld s f.offset t p∧ ∀ {g:G} {cs:List Value} {x:β},t.rep g cs x→∀ e w,(Instr.checkKey e n f.type (mkVal t.agg cs)).run P w= .ok () w)∧CkL P s n fs
theorem Ba{T:TypeId}{k:IntKind}(hT:P.underlying T=some (.int k))(n:Nat){g:G}{cs:List Value}{x:Int}(h:(tI k).rep g cs x)(e:Bool)(w:World):(Instr.checkKey e (n+1) T (mkVal (tI k).agg cs)).run P w= .ok () w:=by
 rw [h.1];show (Instr.checkKey e (n+1) T (.int k x)).run P w=_;simp [Instr.checkKey,run_underlying hT]
theorem Fb{T:TypeId}(hT:P.underlying T=some .string)(n:Nat){g:G}{cs:List Value}{x:Str}(h:tS.rep g cs x)(e:Bool)(w:World):(Instr.checkKey e (n+1) T (mkVal tS.agg cs)).run P w= .ok () w:=by
 rw [h.1];show (Instr.checkKey e (n+1) T (.string (Dec.str x))).run P w=_;simp [Instr.checkKey,run_underlying hT]
theorem Fe{α:Type}{s:Ty α}{T:TypeId}{fs:Array Field}{n:Nat}(hs:s.agg=true)(hT:P.underlying T=some (.struct fs))(h:CkL P s n fs.toList){g:G}{cs:List Value}{x:α}(hx:s.rep g cs x)(e:Bool)(w:World) :
  (Instr.checkKey e (n+1) T (mkVal s.agg cs)).run P w= .ok () w:=by
 rw [hs];show (Instr.checkKey e (n+1) T (.agg cs.toArray)).run P w=_;rw [Instr.checkKey];simp only [Sem.run_bind,run_underlying hT,Result.andThen_ok];rw [←Array.forIn_toList];generalize fs.toList=L at h;induction L with
 | nil=>simp
 | cons f L ih=>
  obtain ⟨⟨β,t,p,h1,h2,h3⟩,h4⟩:=h;obtain ⟨ds,hd,hp⟩:=yn h1 h2 hx;have hc:=h3 hd e w;simp only [List.forIn_cons,Sem.run_bind,Result.andThen_ok];by_cases hn:f.name= "_"
  ·simp only [hn,ne_eq,not_true_eq_false,if_false,Sem.run_pure,Result.andThen_ok];exact ih h4
  ·simp only [hn,ne_eq,not_false_eq_true,if_true,Sem.run_bind,hp,hc,Result.andThen_ok,Sem.run_pure];exact ih h4
theorem KeyT.struct{α:Type}[DecidableEq α]{s:Ty α}{T:TypeId}{fs:Array Field}{D:Nat}(h:EqT P T s D)(hD:D≤10000)(hs:s.agg=true)(hT:P.underlying T=some (.struct fs))(hc:CkL P s 9999 fs.toList):KeyT P T s:=by
 refine ⟨fun hx e w=>Fe hs hT hc hx e w,fun {β tv g cs x es m} hx hE w=>?_⟩;have:(Instr.findKey T (mkVal s.agg cs) es).run P w=(Instr.findAsking T (mkVal s.agg cs) es).run P w:=by
  cases es with
  | nil=>simp [Instr.findKey,run_underlying hT,Instr.findNow,Instr.findAsking]
  | cons e es=>simp [Instr.findKey,run_underlying hT,Instr.findNow,Instr.sameNow]
 rw [this];exact sF h hD hx es m hE 0 w
theorem yz{α β:Type}[DecidableEq α]{tk:Ty α}{tv:Ty β}{g:G}(x:α)(v:β)(z:β):∀ (es:List MapEntry) (m:List (α×β)) (i:Nat),Ents tk tv g es m→
  (findAt x (m.map Prod.fst) es i=none∧mget m x z=z∧mhas m x=false∧mset m x v=m++ [(x,v)])∨
  (∃ j e,findAt x (m.map Prod.fst) es i=some (i+j,e.val)∧es[j]? =some e∧(tk.is x).holds e.key g∧(tv.is (mget m x z)).holds e.val g∧mhas m x=true∧
   ∀ key' val',(tk.is x).holds key' g→(tv.is v).holds val' g→Ents tk tv g (es.modify j (fun e=>{e with key:=key',val:=val'})) (mset m x v))
 | [],[],i,_=>.inl ⟨rfl,rfl,rfl,rfl⟩
 | e :: es,p :: m,i,⟨h1,h2,h3⟩=>by
  by_cases hp:x=p.1
  ·refine .inr ⟨0,e,by simp [findAt,hp],rfl,by rw [hp];exact h1,by simpa [mget,hp] using h2,by simp [mhas,hp],fun key' val' hk hv=>?_⟩;simp only [mset,if_pos hp];exact ⟨hk,hv,h3⟩
  ·rcases yz x v z es m (i+1) h3 with ⟨k1,k2,k3,k4⟩ | ⟨j,e',k1,k2,k3,k4,k5,k6⟩
   ·refine .inl ⟨by simp only [List.map_cons,findAt,if_neg hp];exact k1,by simpa [mget,hp] using k2,by simpa [mhas,hp] using k3,by simp [mset,hp,k4]⟩
   ·refine .inr ⟨j+1,e',by simp only [List.map_cons,findAt,if_neg hp];rw [k1];congr 2;omega,by simpa using k2,k3,by simpa [mget,hp] using k4,by simpa [mhas,hp] using k5,fun key' val' hk hv=>?_⟩;simp only [mset,if_neg hp];exact ⟨h1,h2,k6 key' val' hk hv⟩
 | [],_ :: _,_,h=>h.elim
 | _ :: _,[],_,h=>h.elim
theorem Ents.append{α β:Type}{tk:Ty α}{tv:Ty β}{g:G}{e:MapEntry}{p:α×β}(h1:(tk.is p.1).holds e.key g)(h2:(tv.is p.2).holds e.val g):∀ {es:List MapEntry} {m:List (α×β)},Ents tk tv g es m→Ents tk tv g (es++ [e]) (m++ [p])
 | [],[],_=>⟨h1,h2,trivial⟩
 | x :: es,q :: m,⟨k1,k2,k3⟩=>⟨k1,k2,Ents.append h1 h2 k3⟩
 | [],_ :: _,h=>h.elim
 | _ :: _,[],h=>h.elim
end
section
variable {P:Program} {N:Nat} {g0:G} {T0:Nat→Prop} {env:Env} {res:Rs} {d:Option Tmp} {ty:TypeId} {pos:String} {aft:Array Edge} {gd:Option (Nat×Bool)} {α β:Type} [DecidableEq α] {tk:Ty α} {tv:Ty β}
theorem kU{n:Nat}{u:Unit}(h:growC (n:Int)=some u):n≤lim:=by
 unfold growC at h;split at h
 ·unfold lim;omega
 ·cases h
end
end Go.Dec
/-
  Package variables that nobody writes: what they hold is known to whoever is told.
-/
namespace Go.Dec
open Go
def gA{α:Type}(t:Ty α)(b:Nat)(x:α):Asn:=⟨fun _ g=>t.At g b 0 x,fun e h=>h.mono e⟩
def Gl{α:Type}(t:Ty α)(b:Nat)(x:α):Res where
 blk:=fun _=>False
 holds:=fun g=>t.At g b 0 x
 stay:=fun e _ h=>h.mono e
 lt:=fun _ hb=>by cases hb
def NoBlk:Rs→Prop
 | []=>True
 | x :: r=>x.2.blk=(fun _=>False)∧NoBlk r
theorem NoBlk.all:∀ {r:Rs},NoBlk r→∀ x∈r,x.2.blk=(fun _=>False)
 | y :: r,⟨h1,h2⟩,x,hx=>by
  rcases List.mem_cons.1 hx with rfl | hx
  ·exact h1
  ·exact NoBlk.all h2 x hx
theorem NoBlk.blks{r:Rs}(h:NoBlk r)(b:Nat):¬ r.blks b:=fun ⟨x,hx,hb⟩=>by rw [h.all x hx] at hb;cases hb
theorem NoBlk.dis{r:Rs}(h:NoBlk r):r.dis:=by
 induction r with
 | nil=>exact List.Pairwise.nil
 | cons y r ih=>exact List.pairwise_cons.2 ⟨fun x hx b hb=>(by rw [h.1] at hb;cases hb),ih h.2⟩
section
variable {P:Program} {N:Nat} {g0:G} {T0:Nat→Prop} {ks:List KF} {B:Exit→Act→World→Prop} {env:Env} {res:Rs} {d:Option Tmp} {ty:TypeId} {pos:String} {aft:Array Edge} {gd:Option (Nat×Bool)}
theorem Opd.glob{α:Type}{t:Ty α}{b s:Nat}{x:α}(h:look s env=some (gA t b x)):Opd env (.global b) (t.ptr x):=fun a g he=>⟨b,0,rfl,he s _ h⟩
theorem St.addG{α:Type}{t:Ty α}{b key:Nat}{x:α}(s:Nat)(hr:findR key res=some (Gl t b x)){a:Act}{g:G}(h:St N g0 T0 env res a g):St N g0 T0 ((s,gA t b x) :: env) res a g:=by
 refine ⟨h.sz,h.dfr,fun s' A hA=>?_,h.hres,h.dis,h.own,h.ext⟩;by_cases hk:s=s'
 ·subst hk;rw [kT] at hA;cases hA;exact h.hres _ (bT hr)
 ·rw [jU _ _ hk] at hA;exact h.henv s' A hA
theorem WL.addG{ops:Array Oper}{Q:Exit→Act→World→Prop}{l:List Oper}{α:Type}{t:Ty α}{b:Nat}{x:α}(s key:Nat)(hr:findR key res=some (Gl t b x))(h:WL P N g0 T0 ops Q l ((s,gA t b x) :: env) res):WL P N g0 T0 ops Q l env res:=
 fun a g hst=>h a g (hst.addG s hr)
theorem W.addG{c:Code}{α:Type}{t:Ty α}{b:Nat}{x:α}(s key:Nat)(hr:findR key res=some (Gl t b x))(h:W P N g0 T0 c ks B ((s,gA t b x) :: env) res):W P N g0 T0 c ks B env res:=
 fun a g hst=>h a g (hst.addG s hr)
theorem Bb{f:FuncId}{As:List Asn}{rin:Rs}{A:Asn}{out:Unit→Rs}(hf:aG P f As rin (fun _=>A) out)(hb:NoBlk rin){g:G}{vs:List Value}(hvs:All2 As vs g)(hr:rin.all g) :
  Calls P f vs.toArray g.w fun e w'=>∃ v g',g'.w=w'∧e= .returned v∧Ext No g g'∧A.holds v g':=by
 refine (hf g vs hvs hr hb.dis).mono ?_;rintro e w' ⟨x,v,g',h1,h2,h3,h4,_⟩;exact ⟨v,g',h1,h2,h3.mono (fun b hbk=>hb.blks b hbk),h4⟩
theorem Op1.callG{f:FuncId}{xs:List Operand}{ats:Array TypeId}{As:List Asn}{rin:Rs}{A:Asn}{out:Unit→Rs}(hcall:∀ as w,(callFunc f as).run P w= .ok (.enter f as) w)
  (hf:aG P f As rin (fun _=>A) out) (hb:NoBlk rin) (hr:RSub rin res) (hx:Opds env xs As):Op1 P ⟨d,.call ⟨.value (.func f),xs.toArray,ats⟩,ty,pos,aft,gd⟩ env res A:=
 Op1.nX fun a g hc=>⟨f,_,wK (fun _=>rfl) hcall a g.w,Bb hf hb (Opds.all hc.henv hx) fun y hy=>hc.hres y (hr.mem y hy)⟩
theorem Op1.callCloG{f:FuncId}{x:Operand}{xs:List Operand}{ats:Array TypeId}{As Cs:List Asn}{rin:Rs}{A:Asn}{out:Unit→Rs}(hcall:∀ as w,(callFunc f as).run P w= .ok (.enter f as) w)(hx:Opd env x (cloA f Cs))
  (hf:aG P f (As++Cs) rin (fun _=>A) out) (hb:NoBlk rin) (hr:RSub rin res) (h:Opds env xs As):Op1 P ⟨d,.call ⟨.value x,xs.toArray,ats⟩,ty,pos,aft,gd⟩ env res A:=
 Op1.nX fun a g hc=>by
  obtain ⟨caps,hv,hcs⟩:=hx a g hc.henv;exact ⟨f,_,yx hcall a g.w hv,Bb hf hb (All2.append (Opds.all hc.henv h) hcs) fun y hy=>hc.hres y (hr.mem y hy)⟩
end
theorem St.rekey{N:Nat}{g0:G}{T0:Nat→Prop}{env:Env}{res res':Rs}{a:Act}{g:G}(h:St N g0 T0 env res a g)(e:res.map Prod.snd=res'.map Prod.snd):St N g0 T0 env res' a g:=
 ⟨h.sz,h.dfr,h.henv,Rs.tZ.2 (e▸Rs.tZ.1 h.hres),Rs.uf.2 (e▸Rs.uf.1 h.dis),fun b hb=>h.own b (by rw [Rs.A9 e];exact hb),h.ext⟩
end Go.Dec
