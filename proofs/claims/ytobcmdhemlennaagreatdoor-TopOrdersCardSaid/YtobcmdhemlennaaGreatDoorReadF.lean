import Derived.Test.YtobcmdhemlennaaGreatDoorDec17
import Derived.MapKept
import Derived.SizedLaws
import Derived.ChangeArms
import Derived.ChangeSlices
import Derived.Below
import Derived.ChangeSame
import Derived.Carry
import Derived.ProofKit
import Derived.LaidMore
import Derived.OpenShut
import Derived.Stop.Joined
import Derived.MakeChecks
import Derived.Lay
import Derived.RowKitVeiled
/-
  A slice in a variable of its own, grown in place: room first, then the element and the variable in either order.
-/
set_option linter.unusedVariables false
set_option linter.unusedSimpArgs false
namespace Go.Dec
open Go
variable {A A':Asn}{E T:TypeId}{k:Tok}{key:Nat}{α:Type}{v:List α}{x:Operand}{xs:List α}
theorem uQ{x y r:List α}(h:Dec.appC x y=some r):r=x++y/\x.length+y.length<=vY:=by
 unfold Dec.appC at h;split at h
 .cases h;exact ⟨rfl,by unfold vY;assumption⟩
 .cases h
def rawS(k:Tok)(n:Nat):Asn:=⟨λv _=>v= .slice k.addr n k.cap/\n<=k.cap/\n<=lim/\k.isSome=true,λ_ h=>h⟩
def Resv{α:Type}(t:Ty α)(E:TypeId)(k:Tok)(xs:List α):Res where
 blk:=λx=>k.map Prod.fst=some x
 holds:=λg=>match k with
  | none=>False
  | some p=>∃ cur,g.w.heap[p.1]? =some (.cells cur E (0,0))/\cur.size=p.2*t.size/\xs.length+1<=p.2/\p.2<=maxLen/\g.S p.1=xs.length*t.size/\Row t g (some ⟨p.1,0,none⟩) xs
 stay:=λ{T g g'} e hn h=>by
  cases k with
  | none=>exact h
  | some p=>
   obtain ⟨cur,h1,h2,h3,h4,h5,h6⟩:=h;have hlt:p.1<g.w.heap.size:=(Array.getElem?_eq_some_iff.1 h1).1;have:=e.same p.1 hlt (hn p.1 rfl);exact ⟨cur,this.1.trans h1,h2,h3,h4,this.2.trans h5,h6.mono e⟩
 lt:=λ{g b} h hb=>by
  cases k with
  | none=>cases hb
  | some p=>
   obtain ⟨cur,h1,_⟩:=h;have hlt:p.1<g.w.heap.size:=(Array.getElem?_eq_some_iff.1 h1).1;cases hb;exact hlt
def Grown{α:Type}(t:Ty α)(E:TypeId)(k:Tok)(xs:List α):Res where
 blk:=λx=>k.map Prod.fst=some x
 holds:=λg=>(Own t E k xs.length).holds g/\Row t g k.addr xs
 stay:=λ{T g g'} e hn h=>⟨(Own t E k xs.length).stay e hn h.1,h.2.mono e⟩
 lt:=λ{g b} h hb=>(Own t E k xs.length).lt h.1 hb
section
variable {P:Program} {N:Nat} {g0:G} {T0:Nat->Prop} {ks:List KF} {B:Exit->Act->World->Prop} {env:Env} {res:Rs} {d:Option Tmp} {ty:TypeId} {pos:String} {aft:Array Edge} {gd:Option (Nat×Bool)}
theorem OpR.appendZ{t:Ty α}{s:Operand}{z:α}(hl:xs.length+1<=vY)(hT:P.underlying T=some (.slice E))(hE:ElAt P E t)(hs:Opd env s (tO t k xs))(hx:Opd env x ((tL t).is [z]))
  (hr:res.pick [key]= [(key,Own t E k xs.length)]) :
  OpR P ⟨d,.call ⟨.builtin .append,#[s,x],#[T,T]⟩,ty,pos,aft,gd⟩ env res [key] (λk':Tok=>rawS k' (xs.length+1)) (λk'=>[(key,Resv t E k' xs)]):=by
 intro a g K Q hc hd hK;obtain ⟨i,zz,hi,hz,hsz,hby,hzs⟩:=hE.row;obtain ⟨hv,hc1,hl1,hrow⟩:=hs a g hc.henv;obtain ⟨p,c,hxv,hyc,hyl,hpn,hyrow⟩:=hx.atL hc;have hres:(Own t E k xs.length).holds g:=by
  have:(key,Own t E k xs.length)∈res.pick [key]:=by rw [hr];simp
  exact hc.hres _ (List.mem_filter.1 this).1
 have hlim:xs.length+1<=lim:=by unfold vY at hl;unfold lim;omega
 have hblk:∀ b,(res.pick [key]).blks b ↔ (k.map Prod.fst)=some b:=by
  intro b;rw [hr];constructor
  .rintro ⟨y,hy,hb⟩;simp at hy;subst hy;exact hb
  .intro hb;exact ⟨_,List.mem_singleton.2 rfl,hb⟩
 have run:∀ v w',(Builtin.append_ #[T,T] ty #[a.eval s,a.eval x]).run P g.w= .ok v w'->K (a.put d v) w'->
   Oper.wp P ⟨d,.call ⟨.builtin .append,#[s,x],#[T,T]⟩,ty,pos,aft,gd⟩ a g.w K Q:=by
  intro v w' hrun hK';unfold Oper.wp execOp;simp only [resolve,invoke,builtin,Sem.run_bind,Sem.run_pure,Result.andThen_ok,List.map_toArray,List.map_cons,List.map_nil,hrun];exact hK'
 rw [hv,hxv] at run;have done:∀ (k':Tok) v g',Ext (res.pick [key]).blks g g'->(rawS k' (xs.length+1)).holds v g'->(Resv t E k' xs).holds g'->(∀ b,(k'.map Prod.fst)=some b->(k.map Prod.fst)=some b\/g.w.heap.size<=b)->K (a.put d v) g'.w:=by
  intro k' v g' e h1 h2 h3;refine hK k' v g' e h1 (λy hy=>by rw [List.mem_singleton.1 hy];exact h2) (List.pairwise_singleton _ _) ?_;rintro b ⟨y,hy,hb⟩;rw [List.mem_singleton.1 hy] at hb;rcases h3 b hb with h | h
  .exact .inl ((hblk b).2 h)
  .exact .inr h
 cases p with
 | none=>have hy0:[z]= []:=hyrow;cases hy0
 | some ad=>
  obtain ⟨hsp,hyat⟩:=hyrow
  replace hsp:ad.spot=none:=hsp.resolve_left (by simp)
  obtain ⟨bs,os,spot⟩:=ad;simp at hsp;subst hsp;obtain ⟨news,hnc,hnh⟩:=Row.cells hyat;have hnl:news.length= [z].length*i.size:=by rw [hnc.1,hsz]
  have hnews:∀ (j:Nat) v,news[j]? =some v->g.w.cell? ((⟨bs,os,none⟩:Addr).add j)=some v:=λj v hj=>by rw [Addr.add_lit];exact (hnh j v hj).2
  cases k with
  | none=>
   have hx0:xs= []:=hrow;subst hx0;have h48:[z].length*i.bytes<=281474976710656:=by simp;omega
   have hrun:=run_append_nil (P:=P) g.w T ty E i zz hT hi hz ⟨bs,os,none⟩ [z].length c news hnl hnews (by simp) (by simp) h48;refine run _ _ hrun ?_;have hge:=grownCap_ge g.w [z].length 0 E;have hcm:grownCap g.w [z].length 0 E<=maxLen:=grownCap_le_maxLen g.w [z].length 0 E (by unfold maxLen;simp);let cur:Array Value:=news.toArray++Builtin.zeroCells zz.cells (grownCap g.w [z].length 0 E- [z].length);let g':G:=g.drew.alloc (.cells cur E) 0;have e:Ext No g g':=(Ext.drew No g).trans' (Ext.alloc No _ _ _);have hheap:g'.w.heap[g.w.heap.size]? =some (.cells cur E (0,0)):=heap_alloc_new g.w.drew _;refine done (some (g.w.heap.size,grownCap g.w [z].length 0 E)) _ g' e.no ⟨by simp [Tok.addr,Tok.cap],by simpa [Tok.cap] using hge,by simpa using hlim,rfl⟩ ?_ (λb hb=>by simp at hb;exact .inr (by omega));refine ⟨cur,hheap,?_,by simpa using hge,hcm,?_,.inr rfl,λi x hx=>by simp at hx⟩
   .simp only [cur,Array.size_append,List.size_toArray,size_zeroCells,hzs,hnc.1,<-Nat.add_mul];congr 1;omega
   .show (if g.w.heap.size=g.w.heap.size then _ else _)=_;rw [if_pos rfl];simp
  | some q=>
   obtain ⟨cur,hheap,hcs,hncap,hcm,hS⟩:=hres;have hold:∀ (j:Nat) v,(cur.toList.take (xs.length*i.size))[j]? =some v->g.w.cell? ((⟨q.1,0,none⟩:Addr).add j)=some v:=λj v hj=>by
    rw [Addr.add_lit,cell_of_row _ _ _ _ _ _ hheap];rw [List.getElem?_take] at hj;split at hj
    .simpa using hj
    .cases hj
   have holdl:(cur.toList.take (xs.length*i.size)).length=xs.length*i.size:=by
    have hcl:cur.toList.length=cur.size:=by simp
    rw [List.length_take,hcl];exact Nat.min_eq_left (by rw [hcs,hsz];exact Nat.mul_le_mul_right _ hncap)
   have hrow':Row t g (some ⟨q.1,0,none⟩) xs:=hrow;by_cases hroom:xs.length+1<=q.2
   .have hroom':xs.length+ [z].length<=q.2:=by simpa using hroom
    have hfit:xs.length*i.size+news.length<=cur.size:=by rw [hnl,hcs,<-hsz,<-Nat.add_mul];exact Nat.mul_le_mul_right _ hroom'
    have hrun:=run_append_room (P:=P) g.w T ty E i hT hi q.1 xs.length q.2 cur hheap ⟨bs,os,none⟩ [z].length c news hnl hnews hnc.2.1 hroom' hfit;refine run _ _ hrun ?_;let new:Array Value:=(cur.toList.take (xs.length*i.size)++news++cur.toList.drop (xs.length*i.size+news.length)).toArray;let g':G:=⟨g.w.setRow q.1 new,λx=>if x=q.1 then xs.length*t.size else g.S x⟩
    have hnew:∀ i' v,i'< g.S q.1->cur[i']? =some v->new[i']? =some v:=by
     intro i' v h1 h2;rw [hS,<-hsz] at h1;simp only [new,List.getElem?_toArray];rw [List.append_assoc,List.getElem?_append_left (by rw [holdl];exact h1),List.getElem?_take,if_pos h1];simpa using h2
    have e:Ext (λx=>x=q.1) g g':=o8 hheap (by rw [hS];exact Nat.le_refl _) hnew (λ_=>by simp [new];omega);have e':Ext (res.pick [key]).blks g g':=e.mono λx hx=>(hblk x).2 (by simp [hx]);have hheap':g'.w.heap[q.1]? =some (.cells new E (0,0)):=setRow_heap g.w q.1 cur new E _ hheap;refine done (some q) _ g' e' ⟨by simp [Tok.addr,Tok.cap],hroom,hlim,rfl⟩ ?_ (λb hb=>.inl hb);refine ⟨new,hheap',?_,hroom,hcm,?_,hrow'.mono e⟩
    .simp only [new,List.size_toArray,List.length_append,holdl,List.length_drop,Array.length_toList];omega
    .show (if q.1=q.1 then _ else _)=_;rw [if_pos rfl]
   .have hroom':¬ xs.length+ [z].length<=q.2:=by simpa using hroom
    have hfit2:Builtin.nextslicecap (xs.length+ [z].length) q.2*i.bytes<=281474976710656:=growslice_fits (by omega) (by
     have:=Nat.mul_le_mul hl hby;unfold vY at this;simp only [List.length_singleton];omega)
    have hrun:=run_append_grow (P:=P) g.w T ty E i zz hT hi hz ⟨q.1,0,none⟩ xs.length q.2 _ holdl hold ⟨bs,os,none⟩ [z].length c news hnl hnews (by omega) (by unfold lim at hlim;simp;omega) hfit2;refine run _ _ hrun ?_;have hge:=grownCap_ge g.w (xs.length+ [z].length) q.2 E;have hcm':grownCap g.w (xs.length+ [z].length) q.2 E<=maxLen:=grownCap_le_maxLen g.w _ q.2 E (by unfold lim at hlim;unfold maxLen;simp;omega);let cur':Array Value:=(cur.toList.take (xs.length*i.size)).toArray++news.toArray++Builtin.zeroCells zz.cells (grownCap g.w (xs.length+ [z].length) q.2 E-(xs.length+ [z].length));let g':G:=g.drew.alloc (.cells cur' E) (xs.length*t.size);have e:Ext No g g':=(Ext.drew No g).trans' (Ext.alloc No _ _ _);have hheap':g'.w.heap[g.w.heap.size]? =some (.cells cur' E (0,0)):=heap_alloc_new g.w.drew _;refine done (some (g.w.heap.size,grownCap g.w (xs.length+ [z].length) q.2 E)) _ g' e.no ⟨by simp [Tok.addr,Tok.cap],by simpa [Tok.cap] using hge,hlim,rfl⟩ ?_ (λb hb=>by simp at hb;exact .inr (by omega));obtain ⟨olds,hoc,hoh⟩:=Row.cells hrow'.2;have heq:olds=cur.toList.take (xs.length*i.size):=by
     apply List.ext_getElem?;intro j;by_cases hj:j<olds.length
     .have h1:=(hoh j _ (List.getElem?_eq_getElem hj)).2;rw [cell_of_row _ _ _ _ _ _ hheap] at h1;rw [List.getElem?_eq_getElem hj,List.getElem?_take,if_pos (by rw [hsz,<-hoc.1];exact hj)];simpa using h1.symm
     .rw [List.getElem?_eq_none (by omega),List.getElem?_eq_none (by rw [holdl,hsz,<-hoc.1];omega)]
    refine ⟨cur',hheap',?_,by simpa using hge,hcm',?_,?_⟩
    .have e1:(cur.toList.take (xs.length*i.size)).toArray.size=xs.length*t.size:=by rw [List.size_toArray,holdl,hsz]
     simp only [cur',Array.size_append,e1,List.size_toArray,hnc.1,size_zeroCells,hzs,<-Nat.add_mul];congr 1;omega
    .show (if g.w.heap.size=g.w.heap.size then _ else _)=_;rw [if_pos rfl]
    .refine (hoc.mono e).row λj v hj=>⟨?_,?_⟩
     .show 0+j<(if g.w.heap.size=g.w.heap.size then _ else _);rw [if_pos rfl];have:=(List.getElem?_eq_some_iff.1 hj).1;rw [hoc.1] at this;omega
     .rw [cell_of_row _ _ _ _ _ _ hheap'];have hjl:=(List.getElem?_eq_some_iff.1 hj).1;simp only [cur',Nat.zero_add,Array.append_assoc];rw [Array.getElem?_append_left (by rw [<-heq];simpa using hjl)];rw [<-heq];simpa using hj
theorem OpR.appendZC{t:Ty α}{s:Operand}{y z:α}(h:Dec.appC xs [y]=some v)(hT:P.underlying T=some (.slice E))(hE:ElAt P E t)(hs:Opd env s (tO t k xs))(hx:Opd env x ((tL t).is [z]))
  (hr:res.pick [key]= [(key,Own t E k xs.length)]) :
  OpR P ⟨d,.call ⟨.builtin .append,#[s,x],#[T,T]⟩,ty,pos,aft,gd⟩ env res [key] (λk':Tok=>rawS k' (xs.length+1)) (λk'=>[(key,Resv t E k' xs)]):=OpR.appendZ (by simpa using (uQ h).2) hT hE hs hx hr
theorem Op1.rawIdx{t:Ty α}{y:Operand}(hT:P.underlying T=some (.slice E))(hsz:∀ w,(sizeOf E).run P w= .ok t.size w)(hx:Opd env x (rawS k (xs.length+1)):=by exact .tmp rfl)(hy:Opd env y ((tI .i64).is (xs.length:Int)):=by exact .tmp rfl) :
  Op1 P ⟨d,.indexAddr T x y,ty,pos,aft,gd⟩ env res (Bp (bk k) (xs.length*t.size)):=
 Op1.same λa g hc=>by
  obtain ⟨hv,h1,h2,h3⟩:=hx a g hc.henv;have hi:=(hy.atInt hc).1;cases k with
  | none=>cases h3
  | some p=>
   refine ⟨.pointer (some ((⟨p.1,0,none⟩:Addr).add (xs.length*t.size))),?_,?_⟩
   .have hlt:(xs.length:Int)< ((xs.length+1:Nat):Int):=by omega
    have h0:(0:Int)<=(xs.length:Int):=by omega
    simp [execOp,Instr.indexAt,asIntOf,hv,hi,run_underlying hT,hsz,Tok.addr]
   .rw [Addr.add_lit,Nat.zero_add];rfl
theorem OpR.storeEl{t:Ty α}{y:Operand}{u:α}(h:Dec.appC xs [u]=some v)(ht:TyAt P E t)(hx:Opd env x (Bp (bk k) (xs.length*t.size)))(hy:Opd env y (t.is u))(hr:res.pick [key]= [(key,Resv t E k xs)]) :
  OpR P ⟨none,.store E x y,ty,pos,aft,gd⟩ env res [key] (λ_:Unit=>Asn.any) (λ_=>[(key,Grown t E k v)]):=by
 obtain ⟨rfl,hla⟩:=uQ h;intro a g K Q hc hd hK;have hin:(key,Resv t E k xs)∈res:=by
  have:(key,Resv t E k xs)∈res.pick [key]:=by rw [hr];exact List.mem_singleton.2 rfl
  exact (List.mem_filter.1 this).1
 have hres:=hc.hres _ hin;cases k with
 | none=>exact hres.elim
 | some p=>
  obtain ⟨cur,h1,h2,h3,h4,h5,h6⟩:=hres;have hv:a.eval x= .pointer (some ⟨p.1,xs.length*t.size,none⟩):=hx a g hc.henv;obtain ⟨ds,k1,k2⟩:=hy a g hc.henv;have hdl:=t.len k1;have hvc:(a.eval y).cells=ds.toArray:=by rw [k2];exact t.cells k1
  have hfit:(xs.length+1)*t.size<=p.2*t.size:=Nat.mul_le_mul_right _ h3;rw [Nat.add_mul,Nat.one_mul] at hfit;have hcl:cur.toList.length=p.2*t.size:=by simpa using h2
  have hrun:=qH (P:=P) (cur:=cur.toList) (ds:=ds) (v:=a.eval y) (o:=xs.length*t.size) ht.size (by simpa using h1) hvc hdl (by omega) (t.one k1);have hex:(execOp a.eval ⟨none,.store E x y,ty,pos,aft,gd⟩).run P g.w= .ok .skip (g.w.setRow p.1 (over cur.toList (xs.length*t.size) ds).toArray):=by
   simp [execOp,hv,Instr.storeAt,Instr.sureAddr,hrun]
  show Oper.upon P _ a K Q ((execOp a.eval _).run P g.w);rw [hex];have ho:xs.length*t.size+ds.length<=cur.toList.length:=by omega
  have hnew:∀ i v,i<g.S p.1->cur[i]? =some v->(over cur.toList (xs.length*t.size) ds).toArray[i]? =some v:=by
   intro i v hi hiv;rw [h5] at hi;simp only [List.getElem?_toArray];rw [mD ho,if_neg (by omega)];simpa using hiv
  let g':G:=⟨g.w.setRow p.1 (over cur.toList (xs.length*t.size) ds).toArray,λx=>if x=p.1 then (xs.length+1)*t.size else g.S x⟩
  have e:Ext (λx=>x=p.1) g g':=o8 h1 (by rw [h5];exact Nat.mul_le_mul_right _ (by omega)) hnew (λ_=>by rw [List.size_toArray,gF ho];simp);have hheap':g'.w.heap[p.1]? =some (.cells (over cur.toList (xs.length*t.size) ds).toArray E (0,0)):=setRow_heap g.w p.1 cur _ E _ h1;have hb:∀ b,(res.pick [key]).blks b ↔ b=p.1:=λb=>by rw [hr];exact iA rfl
  refine hK () undef g' (e.mono (λx hx=>(hb x).2 hx)) trivial (λy hy=>?_) (List.pairwise_singleton _ _) (λb' hb'=>.inl ((hb b').2 ((iA rfl).1 hb')));rw [List.mem_singleton.1 hy];refine ⟨⟨_,hheap',?_,?_,h4,?_⟩,.inr rfl,λi x hx=>?_⟩
  .rw [List.size_toArray,gF ho,hcl]
  .simpa using h3
  .show (if p.1=p.1 then _ else _)=_;rw [if_pos rfl];simp
  .by_cases hi:i<xs.length
   .rw [List.getElem?_append_left hi] at hx;exact (h6.2 i x hx).mono e
   .rw [List.getElem?_append_right (by omega)] at hx;have hi0:i=xs.length:=by have:=(List.getElem?_eq_some_iff.1 hx).1;simp at this;omega
    subst hi0;simp at hx;subst hx;refine ⟨ds,t.mono e k1,λj w hj=>⟨?_,?_⟩⟩
    .show 0+xs.length*t.size+j<(if p.1=p.1 then _ else _);rw [if_pos rfl,Nat.add_mul,Nat.one_mul];have:=(List.getElem?_eq_some_iff.1 hj).1;omega
    .rw [cell_of_row _ _ _ _ _ _ hheap'];have hjl:=(List.getElem?_eq_some_iff.1 hj).1;simp only [List.getElem?_toArray];rw [mD ho,if_pos (by omega),show 0+xs.length*t.size+j-xs.length*t.size=j by omega];exact hj
theorem bg.raw(k:Tok)(n:Nat):bg 1 false (rawS k n):=λv g ⟨hv,_⟩=>⟨[v],by rw [hv];rfl,rfl,λ_=>rfl,rfl,λc hc=>by rw [List.mem_singleton.1 hc,hv];rfl⟩
theorem St.grown{t:Ty α}{n:Nat}{b okey:Nat}(hk:key≠okey)(h1:findR key res=some (Bx 1 false T (rawS k n) b))(h2:findR okey res=some (Grown t E k xs))(hn:n=xs.length){a:Act}{g:G}
  (h:St N g0 T0 env res a g):St N g0 T0 env ((key,Bx 1 false T (tO t k xs) b) :: (okey,Own t E k xs.length) :: res.drop [key,okey]) a g:=by
 have m1:=fO h1;have m2:=fO h2;have hd:∀ y∈res.drop [key,okey],y∈res/\y.1≠key/\y.1≠okey:=λy hy=>by
  have:=List.mem_filter.1 hy;refine ⟨this.1,λe=>?_,λe=>?_⟩
  .have h3:=this.2;rw [gG.2 (show y.1∈ [key,okey] by rw [e];simp)] at h3;cases h3
  .have h3:=this.2;rw [gG.2 (show y.1∈ [key,okey] by rw [e];simp)] at h3;cases h3
 refine ⟨h.sz,h.dfr,h.henv,λy hy=>?_,?_,λb' ⟨y,hy,hb⟩=>?_,h.ext⟩
 .rcases List.mem_cons.1 hy with rfl | hy
  .obtain ⟨cs,q1,q2,q3,q4,q5,q6,q7,q8,q9⟩:=h.hres _ m1;have hg:(Grown t E k xs).holds g:=h.hres _ m2;obtain ⟨hown,hrow⟩:=hg;refine ⟨cs,q1,q2,q3,q4,q5,by rw [q6,hn],by rw [<-hn];exact q7,by rw [<-hn];exact q8,hrow⟩
  .rcases List.mem_cons.1 hy with rfl | hy
   .have hg:(Grown t E k xs).holds g:=h.hres _ m2;exact hg.1
   .exact h.hres y (hd y hy).1
 .refine List.pairwise_cons.2 ⟨λy hy b' hb'=>?_,List.pairwise_cons.2 ⟨λy hy b' hb'=>?_,h.dis.filter _⟩⟩
  .rcases List.mem_cons.1 hy with rfl | hy
   .exact h.dis.two _ m1 _ m2 hk b' hb'
   .exact h.dis.two _ m1 _ (hd y hy).1 (Ne.symm (hd y hy).2.1) b' hb'
  .exact h.dis.two _ m2 _ (hd y hy).1 (Ne.symm (hd y hy).2.2) b' hb'
 .rcases List.mem_cons.1 hy with rfl | hy
  .exact h.own b' ⟨_,m1,hb⟩
  .rcases List.mem_cons.1 hy with rfl | hy
   .exact h.own b' ⟨_,m2,hb⟩
   .exact h.own b' ⟨y,(hd y hy).1,hb⟩
theorem WN.grown{t:Ty α}{kt:Tok}{n:Nat}{b:Nat}(key okey:Nat)(hk:key≠okey)(h1:findR key res=some (Bx 1 false T (rawS kt n) b))(h2:findR okey res=some (Grown t E kt xs))(hn:n=xs.length)
  (k:WN P N g0 T0 ks B env ((key,Bx 1 false T (tO t kt xs) b) :: (okey,Own t E kt xs.length) :: res.drop [key,okey])):WN P N g0 T0 ks B env res:=λa g hst=>k a g (hst.grown hk h1 h2 hn)
theorem NN{y:α}(h:Dec.appC xs [y]=some v):xs.length+1=v.length:=by rw [(uQ h).1];simp
theorem St.boxV{n:Nat}{agg:Bool}{b:Nat}(h1:findR key res=some (Bx n agg T A b))(hA:∀ v g,A.holds v g->A'.holds v g){a:Act}{g:G}(h:St N g0 T0 env res a g):St N g0 T0 env ((key,Bx n agg T A' b) :: res.drop [key]) a g:=by
 have m1:=fO h1;have hd:∀ y∈res.drop [key],y∈res/\y.1≠key:=λy hy=>by
  have:=List.mem_filter.1 hy;refine ⟨this.1,λe=>?_⟩;have h3:=this.2;rw [gG.2 (show y.1∈ [key] by rw [e];simp)] at h3;cases h3
 refine ⟨h.sz,h.dfr,h.henv,λy hy=>?_,?_,λb' ⟨y,hy,hb⟩=>?_,h.ext⟩
 .rcases List.mem_cons.1 hy with rfl | hy
  .obtain ⟨cs,q1,q2,q3,q4,q5,q6⟩:=h.hres _ m1;exact ⟨cs,q1,q2,q3,q4,q5,hA _ _ q6⟩
  .exact h.hres y (hd y hy).1
 .refine List.pairwise_cons.2 ⟨λy hy b' hb'=>?_,h.dis.filter _⟩;exact h.dis.two _ m1 _ (hd y hy).1 (Ne.symm (hd y hy).2) b' hb'
 .rcases List.mem_cons.1 hy with rfl | hy
  .exact h.own b' ⟨_,m1,hb⟩
  .exact h.own b' ⟨y,(hd y hy).1,hb⟩
theorem WN.boxV{n:Nat}{agg:Bool}{b:Nat}(key:Nat)(h1:findR key res=some (Bx n agg T A b))(hA:∀ v g,A.holds v g->A'.holds v g)(k:WN P N g0 T0 ks B env ((key,Bx n agg T A' b) :: res.drop [key])):WN P N g0 T0 ks B env res:=λa g hst=>k a g (hst.boxV h1 hA)
theorem W.boxV{c:Code}{n:Nat}{agg:Bool}{b:Nat}(key:Nat)(h1:findR key res=some (Bx n agg T A b))(hA:∀ v g,A.holds v g->A'.holds v g)(k:W P N g0 T0 c ks B env ((key,Bx n agg T A' b) :: res.drop [key])):W P N g0 T0 c ks B env res:=λa g hst=>k a g (hst.boxV h1 hA)
end
theorem Km{T:Nat->Prop}{g:G}{w':World}(S':Nat->Nat)(hos:w'.os=g.w.os)(ht:w'.tape=g.w.tape)(ho:w'.output=g.w.output)(hsz:g.w.heap.size<=w'.heap.size)
  (hs:∀ x,x<g.w.heap.size->¬ T x->w'.heap[x]? =g.w.heap[x]? /\S' x=g.S x) (hk:∀ x i v,T x->g.Has x i v->i<S' x/\w'.cell? ⟨x,i,none⟩=some v) (hr:∀ x n,T x->g.Full x n->(⟨w',S'⟩:G).Full x n):Ext T g ⟨w',S'⟩:=by
 refine ⟨hos,ht,ho,hsz,hs,λx i v hv=>?_,λx n hv=>?_⟩
 case refine_2=>
  by_cases hT:T x
  .exact hr x n hT hv
  .obtain ⟨h1,h2⟩:=hs x hv.lt hT;exact hv.same h1 (Nat.le_of_eq h2.symm)
 by_cases hT:T x
 .exact hk x i v hT hv
 .obtain ⟨h1,h2⟩:=hs x hv.lt hT;refine ⟨by show i<S' x;rw [h2];exact hv.1,?_⟩;have:=hv.2;show w'.cell? ⟨x,i,none⟩=some v;simp only [World.cell?] at this ⊢;rw [h1];exact this
theorem yC{T:Nat->Prop}{g:G}{w':World}(S':Nat->Nat)(hos:w'.os=g.w.os)(ht:w'.tape=g.w.tape)(ho:w'.output=g.w.output)(hsz:g.w.heap.size<=w'.heap.size)
  (hs:∀ x,x<g.w.heap.size->¬ T x->w'.heap[x]? =g.w.heap[x]? /\S' x=g.S x) (hk:∀ x,T x->g.S x=0):Ext T g ⟨w',S'⟩:=
 Km S' hos ht ho hsz hs (λx i v hx hv=>by have:=hv.1;rw [hk x hx] at this;omega) (λx n hx hv=>(hv.pos (hk x hx)).elim)
end Go.Dec
/-
  Maps that the call has made itself, as lists of pairs in the order of their first writing.
-/
namespace Go.Dec
open Go
variable {T:TypeId}{cs:List Value}{α:Type}{tk:Ty α}{β:Type}{tv:Ty β}{x:α}
def Ents{α β:Type}(tk:Ty α)(tv:Ty β)(g:G):List MapEntry->List (α×β)->Prop
 | [],[]=>True
 | e :: es,p :: m=>(tk.is p.1).holds e.key g/\(tv.is p.2).holds e.val g/\Ents tk tv g es m
 | _,_=>False
theorem Ents.mono{T:Nat->Prop}{g g':G}(e:Ext T g g'):∀ {es:List MapEntry} {m:List (α×β)},Ents tk tv g es m->Ents tk tv g' es m
 | [],[],_=>trivial
 | x :: es,p :: m,⟨h1,h2,h3⟩=>⟨(tk.is p.1).mono e h1,(tv.is p.2).mono e h2,Ents.mono e h3⟩
 | [],_ :: _,h=>h.elim
 | _ :: _,[],h=>h.elim
theorem Ents.len{g:G}:∀ {es:List MapEntry} {m:List (α×β)},Ents tk tv g es m->es.length=m.length
 | [],[],_=>rfl
 | x :: es,p :: m,⟨_,_,h3⟩=>by simp [Ents.len h3]
 | [],_ :: _,h=>h.elim
 | _ :: _,[],h=>h.elim
def Mv(b:Nat):Asn:=Asn.eq (.map (some b))
def findAt{α:Type}[DecidableEq α](x:α):List α->List MapEntry->Nat->Option (Nat×Value)
 | y :: ys,e :: es,i=>if x=y then some (i,e.val) else findAt x ys es (i+1)
 | _,_,_=>none
structure KeyT (P:Program) {α:Type} [DecidableEq α] (T:TypeId) (t:Ty α):Prop where
 chk:∀ {g:G} {cs:List Value} {x:α},t.rep g cs x->∀ e w,(Instr.checkKey e 10000 T (mkVal t.agg cs)).run P w= .ok () w
 find:∀ {β:Type} {tv:Ty β} {g:G} {cs:List Value} {x:α} {es:List MapEntry} {m:List (α×β)},t.rep g cs x->Ents t tv g es m->∀ w,(Instr.findKey T (mkVal t.agg cs) es).run P w= .ok (findAt x (m.map Prod.fst) es 0) w
section
variable {P:Program}
theorem wz[DecidableEq α]{t:Ty α}{D:Nat}(h:EqT P T t D)(hD:D<=10000){g:G}(hx:t.rep g cs x) :
  ∀ (es:List MapEntry) (m:List (α×β)),Ents t tv g es m->∀ i w,(Instr.findAsking T (mkVal t.agg cs) es i).run P w= .ok (findAt x (m.map Prod.fst) es i) w
 | [],[],_,i,w=>by simp [Instr.findAsking,findAt]
 | e :: es,p :: m,⟨⟨ds,h1,h2⟩,_,h3⟩,i,w=>by
  have heq:(Op.equal T (mkVal t.agg cs) e.key).run P w= .ok (decide (x=p.1)) w:=by rw [h2];exact h.eq hx h1 10000 hD w
  simp only [Instr.findAsking,Sem.run_bind,heq,Result.andThen_ok,List.map_cons,findAt];by_cases hp:x=p.1
  .simp [hp]
  .rw [if_neg hp];simp only [hp,decide_false,Bool.false_eq_true,if_false];exact wz h hD hx es m h3 (i+1) w
 | [],_ :: _,h,_,_=>h.elim
 | _ :: _,[],h,_,_=>h.elim
def CkL(P:Program){α:Type}(s:Ty α)(n:Nat):List Field->Prop
 | []=>True
 | f :: fs=>(∃ (β:Type) (t:Ty β) (p:α->β),TyAt P f.type t/\Fld s f.offset t p/\ ∀ {g:G} {cs:List Value} {x:β},t.rep g cs x->∀ e w,(Instr.checkKey e n f.type (mkVal t.agg cs)).run P w= .ok () w)/\CkL P s n fs
theorem BN{k:IntKind}(hT:P.underlying T=some (.int k))(n:Nat){g:G}{x:Int}(h:(tI k).rep g cs x)(e:Bool)(w:World):(Instr.checkKey e (n+1) T (mkVal (tI k).agg cs)).run P w= .ok () w:=by
 rw [h.1];show (Instr.checkKey e (n+1) T (.int k x)).run P w=_;simp [Instr.checkKey,run_underlying hT]
theorem Lv(hT:P.underlying T=some .string)(n:Nat){g:G}{x:Str}(h:tS.rep g cs x)(e:Bool)(w:World):(Instr.checkKey e (n+1) T (mkVal tS.agg cs)).run P w= .ok () w:=by
 rw [h.1];show (Instr.checkKey e (n+1) T (.string (Dec.str x))).run P w=_;simp [Instr.checkKey,run_underlying hT]
theorem Lx{s:Ty α}{fs:Array Field}{n:Nat}(hs:s.agg=true)(hT:P.underlying T=some (.struct fs))(h:CkL P s n fs.toList){g:G}(hx:s.rep g cs x)(e:Bool)(w:World) :
  (Instr.checkKey e (n+1) T (mkVal s.agg cs)).run P w= .ok () w:=by
 rw [hs];show (Instr.checkKey e (n+1) T (.agg cs.toArray)).run P w=_;rw [Instr.checkKey];simp only [Sem.run_bind,run_underlying hT,Result.andThen_ok];rw [<-Array.forIn_toList];generalize fs.toList=L at h;induction L with
 | nil=>simp
 | cons f L ih=>
  obtain ⟨⟨β,t,p,h1,h2,h3⟩,h4⟩:=h;obtain ⟨ds,hd,hp⟩:=BH h1 h2 hx;have hc:=h3 hd e w;simp only [List.forIn_cons,Sem.run_bind,Result.andThen_ok];by_cases hn:f.name= "_"
  .simp only [hn,ne_eq,not_true_eq_false,if_false,Sem.run_pure,Result.andThen_ok];exact ih h4
  .simp only [hn,ne_eq,not_false_eq_true,if_true,Sem.run_bind,hp,hc,Result.andThen_ok,Sem.run_pure];exact ih h4
theorem KeyT.struct[DecidableEq α]{s:Ty α}{fs:Array Field}{D:Nat}(h:EqT P T s D)(hD:D<=10000)(hs:s.agg=true)(hT:P.underlying T=some (.struct fs))(hc:CkL P s 9999 fs.toList):KeyT P T s:=by
 refine ⟨λhx e w=>Lx hs hT hc hx e w,λ{β tv g cs x es m} hx hE w=>?_⟩;have:(Instr.findKey T (mkVal s.agg cs) es).run P w=(Instr.findAsking T (mkVal s.agg cs) es).run P w:=by
  cases es with
  | nil=>simp [Instr.findKey,run_underlying hT,Instr.findNow,Instr.findAsking]
  | cons e es=>simp [Instr.findKey,run_underlying hT,Instr.findNow,Instr.sameNow]
 rw [this];exact wz h hD hx es m hE 0 w
theorem Az[DecidableEq α]{t:Ty α}{k:TypeDesc}{g:G}(hx:t.rep g cs x)(hs:∀ ds y,t.rep g ds y->Instr.sameNow k (mkVal t.agg cs) (mkVal t.agg ds)=some (decide (x=y))) :
  ∀ (es:List MapEntry) (m:List (α×β)),Ents t tv g es m->∀ i,Instr.findNow k (mkVal t.agg cs) es i=some (findAt x (m.map Prod.fst) es i)
 | [],[],_,i=>by simp [Instr.findNow,findAt]
 | e :: es,p :: m,⟨⟨ds,h1,h2⟩,_,h3⟩,i=>by
  have:=hs ds p.1 h1;rw [<-h2] at this;simp only [Instr.findNow,this,List.map_cons,findAt];by_cases hp:x=p.1
  .simp [hp]
  .rw [if_neg hp];simp only [hp,decide_false];exact Az hx hs es m h3 (i+1)
 | [],_ :: _,h,_=>h.elim
 | _ :: _,[],h,_=>h.elim
theorem KeyT.int{k:IntKind}(hT:P.underlying T=some (.int k)):KeyT P T (tI k):=by
 refine ⟨λhx e w=>BN hT 9999 hx e w,λ{β tv g cs x es m} hx hE w=>?_⟩;have hn:=Az (k:=.int k) hx (λds y hy=>by
  rw [hx.1,hy.1];show Instr.sameNow (.int k) (.int k x) (.int k y)=_;simp only [Instr.sameNow,if_true];congr 1) es m hE 0
 simp [Instr.findKey,run_underlying hT,hn]
theorem BO[DecidableEq α]{g:G}(x:α)(v:β)(z:β):∀ (es:List MapEntry) (m:List (α×β)) (i:Nat),Ents tk tv g es m->
  (findAt x (m.map Prod.fst) es i=none/\mget m x z=z/\mhas m x=false/\mset m x v=m++ [(x,v)])\/
  (∃ j e,findAt x (m.map Prod.fst) es i=some (i+j,e.val)/\es[j]? =some e/\(tk.is x).holds e.key g/\(tv.is (mget m x z)).holds e.val g/\mhas m x=true/\
   ∀ key' val',(tk.is x).holds key' g->(tv.is v).holds val' g->Ents tk tv g (es.modify j (λe=>{e with key:=key',val:=val'})) (mset m x v))
 | [],[],i,_=>.inl ⟨rfl,rfl,rfl,rfl⟩
 | e :: es,p :: m,i,⟨h1,h2,h3⟩=>by
  by_cases hp:x=p.1
  .refine .inr ⟨0,e,by simp [findAt,hp],rfl,by rw [hp];exact h1,by simpa [mget,hp] using h2,by simp [mhas,hp],λkey' val' hk hv=>?_⟩;simp only [mset,if_pos hp];exact ⟨hk,hv,h3⟩
  .rcases BO x v z es m (i+1) h3 with ⟨k1,k2,k3,k4⟩ | ⟨j,e',k1,k2,k3,k4,k5,k6⟩
   .refine .inl ⟨by simp only [List.map_cons,findAt,if_neg hp];exact k1,by simpa [mget,hp] using k2,by simpa [mhas,hp] using k3,by simp [mset,hp,k4]⟩
   .refine .inr ⟨j+1,e',by simp only [List.map_cons,findAt,if_neg hp];rw [k1];congr 2;omega,by simpa using k2,k3,by simpa [mget,hp] using k4,by simpa [mhas,hp] using k5,λkey' val' hk hv=>?_⟩;simp only [mset,if_neg hp];exact ⟨h1,h2,k6 key' val' hk hv⟩
 | [],_ :: _,_,h=>h.elim
 | _ :: _,[],_,h=>h.elim
theorem Ents.append{g:G}{e:MapEntry}{p:α×β}(h1:(tk.is p.1).holds e.key g)(h2:(tv.is p.2).holds e.val g):∀ {es:List MapEntry} {m:List (α×β)},Ents tk tv g es m->Ents tk tv g (es++ [e]) (m++ [p])
 | [],[],_=>⟨h1,h2,trivial⟩
 | x :: es,q :: m,⟨k1,k2,k3⟩=>⟨k1,k2,Ents.append h1 h2 k3⟩
 | [],_ :: _,h=>h.elim
 | _ :: _,[],h=>h.elim
end
section
variable {P:Program} {N:Nat} {g0:G} {T0:Nat->Prop} {env:Env} {res:Rs} {d:Option Tmp} {ty:TypeId} {pos:String} {aft:Array Edge} {gd:Option (Nat×Bool)} {α β:Type} [DecidableEq α] {tk:Ty α} {tv:Ty β}
theorem LA{n:Nat}{u:Unit}(h:growC (n:Int)=some u):n<=lim:=by
 unfold growC at h;split at h
 .unfold lim;omega
 .cases h
end
end Go.Dec
/-
  Package variables that nobody writes: what they hold is known to whoever is told.
-/
namespace Go.Dec
open Go
variable {A:Asn}{As:List Asn}{f:FuncId}
def gA{α:Type}(t:Ty α)(b:Nat)(x:α):Asn:=⟨λ_ g=>t.At g b 0 x,λe h=>h.mono e⟩
def Gl{α:Type}(t:Ty α)(b:Nat)(x:α):Res where
 blk:=λ_=>False
 holds:=λg=>t.At g b 0 x
 stay:=λe _ h=>h.mono e
 lt:=λ_ hb=>by cases hb
def NoBlk:Rs->Prop
 | []=>True
 | x :: r=>x.2.blk=(λ_=>False)/\NoBlk r
theorem NoBlk.all:∀ {r:Rs},NoBlk r->∀ x∈r,x.2.blk=(λ_=>False)
 | y :: r,⟨h1,h2⟩,x,hx=>by
  rcases List.mem_cons.1 hx with rfl | hx
  .exact h1
  .exact NoBlk.all h2 x hx
theorem NoBlk.blks{r:Rs}(h:NoBlk r)(b:Nat):¬ r.blks b:=λ⟨x,hx,hb⟩=>by rw [h.all x hx] at hb;cases hb
theorem NoBlk.dis{r:Rs}(h:NoBlk r):r.dis:=by
 induction r with
 | nil=>exact List.Pairwise.nil
 | cons y r ih=>exact List.pairwise_cons.2 ⟨λx hx b hb=>(by rw [h.1] at hb;cases hb),ih h.2⟩
section
variable {P:Program} {N:Nat} {g0:G} {T0:Nat->Prop} {ks:List KF} {B:Exit->Act->World->Prop} {env:Env} {res:Rs} {d:Option Tmp} {ty:TypeId} {pos:String} {aft:Array Edge} {gd:Option (Nat×Bool)}
theorem Opd.glob{α:Type}{t:Ty α}{b s:Nat}{x:α}(h:look s env=some (gA t b x)):Opd env (.global b) (t.ptr x):=λa g he=>⟨b,0,rfl,he s _ h⟩
theorem Bq{rin:Rs}{out:Unit->Rs}(hf:aR P f As rin (λ_=>A) out)(hb:NoBlk rin){g:G}{vs:List Value}(hvs:All2 As vs g)(hr:rin.all g) :
  Calls P f vs.toArray g.w λe w'=>∃ v g',g'.w=w'/\e= .returned v/\Ext No g g'/\A.holds v g':=by
 refine (hf g vs hvs hr hb.dis).mono ?_;rintro e w' ⟨x,v,g',h1,h2,h3,h4,_⟩;exact ⟨v,g',h1,h2,h3.mono (λb hbk=>hb.blks b hbk),h4⟩
theorem Op1.callG{xs:List Operand}{ats:Array TypeId}{rin:Rs}{out:Unit->Rs}(hcall:∀ az w,(callFunc f az).run P w= .ok (.enter f az) w)
  (hf:aR P f As rin (λ_=>A) out) (hb:NoBlk rin) (hr:RSub rin res) (hx:Opds env xs As):Op1 P ⟨d,.call ⟨.value (.func f),xs.toArray,ats⟩,ty,pos,aft,gd⟩ env res A:=
 Op1.qF λa g hc=>⟨f,_,zP (λ_=>rfl) hcall a g.w,Bq hf hb (Opds.all hc.henv hx) λy hy=>hc.hres y (hr.mem y hy)⟩
theorem Op1.callCloG{x:Operand}{xs:List Operand}{ats:Array TypeId}{Cs:List Asn}{rin:Rs}{out:Unit->Rs}(hcall:∀ az w,(callFunc f az).run P w= .ok (.enter f az) w)(hx:Opd env x (cloA f Cs))
  (hf:aR P f (As++Cs) rin (λ_=>A) out) (hb:NoBlk rin) (hr:RSub rin res) (h:Opds env xs As):Op1 P ⟨d,.call ⟨.value x,xs.toArray,ats⟩,ty,pos,aft,gd⟩ env res A:=
 Op1.qF λa g hc=>by
  obtain ⟨caps,hv,hcs⟩:=hx a g hc.henv;exact ⟨f,_,yB hcall a g.w hv,Bq hf hb (All2.append (Opds.all hc.henv h) hcs) λy hy=>hc.hres y (hr.mem y hy)⟩
end
theorem St.rekey{N:Nat}{g0:G}{T0:Nat->Prop}{env:Env}{res res':Rs}{a:Act}{g:G}(h:St N g0 T0 env res a g)(e:res.map Prod.snd=res'.map Prod.snd):St N g0 T0 env res' a g:=
 ⟨h.sz,h.dfr,h.henv,Rs.xw.2 (e▸Rs.xw.1 h.hres),Rs.xx.2 (e▸Rs.xx.1 h.dis),λb hb=>h.own b (by rw [Rs.EH e];exact hb),h.ext⟩
theorem W.rekey{P:Program}{N:Nat}{g0:G}{T0:Nat->Prop}{ks:List KF}{B:Exit->Act->World->Prop}{env:Env}{res res':Rs}{c:Code}(e:res.map Prod.snd=res'.map Prod.snd)(h:W P N g0 T0 c ks B env res'):W P N g0 T0 c ks B env res:=
 λa g hst=>h a g (hst.rekey e)
end Go.Dec
/-
  From a reading of a call's arguments by data to a reading of this logic; and the last step of a row whose result is a bool.
-/
namespace Go.Dec
open Go Go.RowKit Go.WideShapes Go.ChangeShapes
variable {T:TypeId}{base:Nat}{e:TypeId}{v:Value}{α:Type}
def G.top(w:World):G:=⟨w,λb=>match w.heap[b]? with | some (.cells c _ _)=>c.size | _=>0⟩
theorem y8{w:World}{a:Addr}(h:w.cell? a=some v):a.spot=none/\(G.top w).Has a.block a.off v:=by
 obtain ⟨b,i,s⟩:=a;unfold World.cell? at h;cases ho:w.heap[b]? with
 | none=>simp [ho] at h
 | some o=>
  cases o with
  | map _ _=>simp [ho] at h
  | cells c t fr=>
   simp only [ho] at h;cases s with
   | some _=>simp at h
   | none=>
    refine ⟨rfl,?_,?_⟩
    .show i<(match w.heap[b]? with | some (.cells c _ _)=>c.size | _=>0);rw [ho];exact (Array.getElem?_eq_some_iff.1 (by simpa using h)).1
    .show w.cell? ⟨b,i,none⟩=some v;unfold World.cell?;simp only [ho];exact h
  | _=>simp [ho] at h
def Rds(P:Program)(W:World)(T:TypeId){α:Type}(t:Ty α):Prop:=
 ∀ (H:Type) (enc:TypeId×Value->H) (spare:Nat->Bool) (fuel:Nat) (cs:List Value) (d:DataW H) (ps:List MemPlace),
  DataW.trod enc P W 0 spare true fuel T cs=some (d,ps)->(∀ n∈d.weights P T,n<=reachBytes)->∃ x,t.rep (G.top W) cs x
section
variable {P:Program} {W:World}
theorem Rds.int{k:IntKind}(hT:P.underlying T=some (.int k)):Rds P W T (tI k):=by
 intro H enc spare fuel cs d ps h _;obtain ⟨n,rfl,_,hw⟩:=DataW.trod_int hT h;refine ⟨n,rfl,?_⟩;simpa [Lit.wf,inR,IntKind.has] using hw
theorem Rds.string(hT:P.underlying T=some .string):Rds P W T tS:=by
 intro H enc spare fuel cs d ps h hw;obtain ⟨s,rfl,hx,_⟩:=DataW.trod_string hT h;simp only [Prod.mk.injEq] at hx;obtain ⟨rfl,rfl⟩:=hx;refine ⟨s.data.toList,by simp [str],?_⟩;have:=hw s.data.toList.length (by simp [DataW.weights]);have hr:reachBytes<2 ^ 47:=reachBytes_lt;unfold lim;omega
theorem pickAll(Q:Nat->α->Prop):∀ (n:Nat),(∀ i,i<n->∃ x,Q i x)->∃ xs:List α,xs.length=n/\ ∀ i x,xs[i]? =some x->Q i x
 | 0,_=>⟨[],rfl,λi x h=>by simp at h⟩
 | n+1,h=>by
  obtain ⟨xs,hl,hx⟩:=pickAll Q n (λi hi=>h i (by omega));obtain ⟨y,hy⟩:=h n (by omega);refine ⟨xs++ [y],by simp [hl],λi x hi=>?_⟩;by_cases hin:i<n
  .rw [List.getElem?_append_left (by omega)] at hi;exact hx i x hi
  .have hlt:=(List.getElem?_eq_some_iff.1 hi).1;simp [hl] at hlt;have:i=n:=by omega
   subst this;rw [List.getElem?_append_right (by omega),hl] at hi;simp at hi;subst hi;exact hy
theorem rU{H:Type}:∀ {ds:List (DataW H)} {d:DataW H},d∈ds->∀ n∈d.weights P e,n∈DataW.weightsAll P e ds
 | d0 :: ds,d,hd,n,hn=>by
  simp only [DataW.weightsAll,List.mem_append];rcases List.mem_cons.1 hd with rfl | hd
  .exact .inl hn
  .exact .inr (rU hd n hn)
theorem Rds.slice{t:Ty α}(hT:P.underlying T=some (.slice e))(he:Rds P W e t)(hc:P.cellsOf e=t.size)(h0:0<t.size)(hb:0<P.bytesOf e):Rds P W T (tL t):=by
 intro H enc spare fuel cs d ps h hw;rcases DataW.trod_slice hT h with ⟨rfl,_⟩ | ⟨a,len,cap,elems,rest,n,_,rfl,hx,_,hl,_,hlen,hel,_,_⟩
 .exact ⟨[],none,0,rfl,Nat.zero_le _,Nat.zero_le _,λ_=>rfl,rfl⟩
 .simp only [Prod.mk.injEq] at hx;obtain ⟨rfl,rfl⟩:=hx;have hlim:len<=lim:=by have:=hw (((elems.map (·.1)).length+(rest.map (·.1)).length)*P.bytesOf e) (by simp [DataW.weights,hT]);have hr:reachBytes<2 ^ 47:=reachBytes_lt;simp only [List.length_map,hlen] at this;have h2:(len+rest.length)*1<=(len+rest.length)*P.bytesOf e:=Nat.mul_le_mul_left _ hb;unfold lim;omega
  have key:∀ i,i<len->∃ x,(i=0->a.spot=none)/\t.At (G.top W) a.block (a.off+i*t.size) x:=by
   intro i hi;have h1:=hel i hi;have hi':i<elems.length:=by omega
   rw [List.getElem?_eq_getElem hi',Option.bind_eq_some_iff] at h1;obtain ⟨cs',hcs,htr⟩:=h1;obtain ⟨x,hx⟩:=he H enc spare n cs' elems[i].1 elems[i].2 htr (λm hm=>hw m (by
    simp only [DataW.weights,hT,List.mem_cons,List.mem_append];exact .inr (.inl (rU (List.mem_map.2 ⟨elems[i],List.getElem_mem hi',rfl⟩) m hm))))
   obtain ⟨_,hlen',hcell⟩:=World.cells?_some hcs;have hA:∀ j v,cs'[j]? =some v->(G.top W).Has a.block (a.off+i*t.size+j) v/\(i*t.size+j=0->a.spot=none):=by
    intro j v hj;have hlt:=(List.getElem?_eq_some_iff.1 hj).1;have hc1:W.cell? ((a.add (i*P.cellsOf e)).add j)=some v:=by
     have:=hcell j (by omega);rw [this];exact hj
    obtain ⟨hs,hh⟩:=y8 hc1;have hbk:((a.add (i*P.cellsOf e)).add j).block=a.block:=by unfold Addr.add;split<;> split<;> rfl
    have hof:((a.add (i*P.cellsOf e)).add j).off=a.off+i*t.size+j:=by
     rw [hc];unfold Addr.add;split<;> split<;> simp_all<;> omega
    rw [hbk,hof] at hh;refine ⟨hh,λhz=>?_⟩;have h3:i*P.cellsOf e=0:=by rw [hc];omega
    have h4:j=0:=by omega
    rw [h3,h4] at hs;exact hs
   refine ⟨x,λhi0=>?_,cs',hx,λj v hj=>(hA j v hj).1⟩;have hl0:0<cs'.length:=by omega
   obtain ⟨_,hs⟩:=hA 0 cs'[0] (List.getElem?_eq_getElem hl0);exact hs (by rw [hi0];simp)
  obtain ⟨xs,hxl,hxq⟩:=pickAll (λi x=>(i=0->a.spot=none)/\t.At (G.top W) a.block (a.off+i*t.size) x) len key;refine ⟨xs,some a,cap,by rw [hxl],by omega,by omega,(λh=>by cases h),?_,λi x hi=>(hxq i x hi).2⟩;cases xs with
  | nil=>exact .inl rfl
  | cons x r=>exact .inr ((hxq 0 x rfl).1 rfl)
def RdF(P:Program)(W:World)(fs:List Field)(o:Nat){α:Type}(t:Ty α):Prop:=
 ∀ (H:Type) (enc:TypeId×Value->H) (spare:Nat->Bool) (n:Nat) (cs:List Value),cs.length=o+t.size->
  (∀ (i:Nat) f,fs[i]? =some f->∃ d ps,DataW.trod enc P W 0 spare true n f.type ((cs.drop f.offset).take (P.cellsOf f.type))=some (d,ps)/\(∀ m∈d.weights P f.type,m<=reachBytes))->
  ∃ x,t.rep (G.top W) (cs.drop o) x
theorem RdF.last{f:Field}{o:Nat}{t:Ty α}(ho:f.offset=o)(hc:P.cellsOf f.type=t.size)(h:Rds P W f.type t):RdF P W [f] o (tOne t):=by
 intro H enc spare n cs hl hf;obtain ⟨d,ps,h1,h2⟩:=hf 0 f rfl;obtain ⟨x,hx⟩:=h H enc spare n _ d ps h1 h2;refine ⟨x,?_⟩;rw [ho,hc,List.take_of_length_le (by rw [List.length_drop];have:(tOne t).size=t.size:=rfl;omega)] at hx;exact hx
theorem RdF.cons{f:Field}{fs:List Field}{o o':Nat}{β:Type}{t:Ty α}{u:Ty β}(ho:f.offset=o)(hc:P.cellsOf f.type=t.size)(ho':o'=o+t.size)(h:Rds P W f.type t)(k:RdF P W fs o' u):RdF P W (f :: fs) o (tP t u):=by
 intro H enc spare n cs hl hf;have hs:(tP t u).size=t.size+u.size:=rfl;obtain ⟨d,ps,h1,h2⟩:=hf 0 f rfl;obtain ⟨x,hx⟩:=h H enc spare n _ d ps h1 h2;obtain ⟨y,hy⟩:=k H enc spare n cs (by omega) (λi g hg=>hf (i+1) g (by simpa using hg));rw [ho,hc] at hx;refine ⟨(x,y),_,_,?_,hx,hy⟩;rw [ho',<-List.drop_drop,List.take_append_drop]
theorem Rds.struct{fs:Array Field}{β:Type}{t:Ty β}{f:α->β}(mk:β->α)(hf:∀ x,f (mk x)=x)(hT:P.underlying T=some (.struct fs))(hc:P.cellsOf T=t.size)(h:RdF P W fs.toList 0 t):Rds P W T (tMap t f):=by
 intro H enc spare fuel cs d ps htr hw;obtain ⟨xs,n,rfl,hx,hl,hxl,hel⟩:=DataW.trod_struct hT htr;simp only [Prod.mk.injEq] at hx;obtain ⟨rfl,rfl⟩:=hx;obtain ⟨x,hx⟩:=h H enc spare n cs (by omega) (λi g hg=>by
  have hg':fs[i]? =some g:=by simpa using hg
  have h1:=hel i g hg';have hi:i<xs.length:=by rw [hxl];exact (Array.getElem?_eq_some_iff.1 hg').1
  rw [List.getElem?_eq_getElem hi] at h1;refine ⟨xs[i].1,xs[i].2,h1,λm hm=>hw m ?_⟩;simp only [DataW.weights,hT];exact DataW.weights_mem_each (ts:=fs.toList.map (·.type)) (ds:=xs.map (·.1)) (j:=i) (t:=g.type) (d:=xs[i].1) (by simp [hg']) (by simp [hi]) m hm)
 refine ⟨mk x,?_⟩;show t.rep (G.top W) cs (f (mk x));rw [hf];exact hx
theorem Rds.is{t:Ty α}(h:Rds P W T t)(hk:∀ (v:Value),Value.okWide P W .any base T v->v=mkVal t.agg v.cells.toList){H:Type}{enc:TypeId×Value->H}{spare:Nat->Bool}{d:DataW H}{ps:List MemPlace}
  (hd:DataW.Trod enc P W 0 spare true T v d ps) (hw:∀ n∈d.weights P T,n<=reachBytes) (hv:Value.okWide P W .any base T v):∃ x,(t.is x).holds v (G.top W):=by
 obtain ⟨fuel,hf⟩:=hd;obtain ⟨x,hx⟩:=h H enc spare fuel _ d ps hf hw;exact ⟨x,v.cells.toList,hx,hk v hv⟩
theorem LB(hT:P.underlying T=some (.slice e))(v:Value)(h:Value.okWide P W .any base T v):v=mkVal false v.cells.toList:=by
 obtain ⟨a,len,cap,rfl⟩:=okWide_slice hT h;rfl
theorem I1{fs:Array Field}(hT:P.underlying T=some (.struct fs))(v:Value)(h:Value.okWide P W .any base T v):v=mkVal true v.cells.toList:=by
 obtain ⟨cs,rfl,_⟩:=okWide_struct hT h;simp [mkVal,Value.cells]
theorem Ext.below{g g':G}(h:Ext No g g'):Below g.w.heap.size g.w g'.w:=
 ⟨h.os,h.tape,h.output,h.size,λk hk=>(h.same k hk (λf=>f.elim)).1⟩
end
section
variable {H:Type} {enc:TypeId×Value->H} {P:Program}
theorem Dn{f:Func}{s:ChangeSpec}{apart fresh handsOn again:Bool}{W W':World}{args:Array Value}{ds gs:List (DataW H)}{before pa pv:List MemPlace}
  (hW:DataW.Whole enc P f.params.toList s.vars apart W args.toList ds gs before)
  (hres:∀ (b:Nat) (sp:Nat->Bool) (hd:Bool),DataW.TrodAll enc P W' b sp hd f.resultTypes.toList (v.resultList f.resultTypes.size) (s.fn H (ds++gs)).results [])
  (hargs:∀ sp:Nat->Bool,(∀ p∈before,sp p.block=true)->DataW.TrodAll enc P W' 0 sp true f.params.toList args.toList (s.fn H (ds++gs)).args pa)
  (hvars:∀ sp:Nat->Bool,(∀ p∈before,sp p.block=true)->DataW.TrodVars enc P W' sp s.vars (s.fn H (ds++gs)).vars pv)
  (hps:before=pa++pv) (hb:Below W.heap.size W W')
  (hok:∀ (j:Nat) (t:TypeId) (r:Value),f.resultTypes[j]? =some t->(v.resultList f.resultTypes.size)[j]? =some r->Value.okWide P W' .any 0 t r) :
  s.post enc P f apart fresh handsOn again W args v W':=by
 have hlt:∀ p∈before,p.block<W.heap.size:=λp hp=>hW.lt p hp;have hold:∀ p∈before,(λb=>decide (b<W.heap.size)) p.block=true:=λp hp=>by simpa using hlt p hp
 refine ⟨ds,gs,before,[],pa,pv,hW,hres _ _ _,hargs _ hold,hvars _ hold,World.keptBut_mono (λp hp=>⟨hp,?_⟩) (hb.frame (· ∈before)),λ_=>?_⟩
 .rw [hps,List.mem_append] at hp;exact Or.inr hp
 .obtain ⟨_,_,_,_,_,hz,hn⟩:=hW;refine ⟨hok,_,_,([]++pa)++pv,⟨[]++pa,pv,trodAll_append (hargs _ (λ_ _=>rfl)) (hres _ _ _),hvars _ (λ_ _=>rfl),rfl,?_,?_⟩,?_⟩
  .intro b off hp;have hin:MemPlace.cell b off∈before:=by rw [hps];simpa using hp
   rw [hb.frozen (hlt _ hin)];exact hz b off hin
  .intro ha;have:=hn ha;rw [hps] at this;simpa using this
  .intro p hp _;rw [hps];simpa using hp
def vE(P:Program)(W:World)(base:Nat)(Ts:List TypeId)(vs:List Value):Prop:=
 ∃ (H:Type) (enc:TypeId×Value->H) (ds:List (DataW H)) (ps:List MemPlace),DataW.TrodAll enc P W 0 (λ_=>true) true Ts vs ds ps/\
  (∀ n∈DataW.weightsEach P Ts ds,n<=reachBytes)/\ ∀ (j:Nat) t v,Ts[j]? =some t->vs[j]? =some v->Value.okWide P W .any base t v
theorem vE.cons{W:World}{Ts:List TypeId}{vs:List Value}{t:Ty α}(h:vE P W base (T :: Ts) vs)(hr:Rds P W T t)
  (hk:∀ (v:Value),Value.okWide P W .any base T v->v=mkVal t.agg v.cells.toList):∃ v vs' x,vs=v :: vs'/\(t.is x).holds v (G.top W)/\vE P W base Ts vs':=by
 obtain ⟨H,enc,ds,ps,h1,h2,h3⟩:=h
 match vs,ds,h1 with
 | v :: vs,d :: ds,h1=>
  obtain ⟨p,q,hd,hrest,_⟩:=h1;obtain ⟨x,hx⟩:=hr.is hk hd (λn hn=>h2 n (by simp only [DataW.weightsEach,List.mem_append];exact .inl hn)) (h3 0 T v rfl rfl);refine ⟨v,vs,x,rfl,hx,H,enc,ds,q,hrest,λn hn=>h2 n (by simp only [DataW.weightsEach,List.mem_append];exact .inr hn),λj t v hj hv=>h3 (j+1) t v (by simpa using hj) (by simpa using hv)⟩
theorem vE.nil{W:World}{vs:List Value}(h:vE P W base [] vs):vs= []:=by
 obtain ⟨H,enc,ds,ps,h1,_,_⟩:=h
 match vs,ds,h1 with
 | [],[],_=>rfl
theorem yg(hl:laidOutB P=true){W W':World}{sp:Nat->Bool}(hb:Below W.heap.size W W'):∀ {Ts:List TypeId} {vs:List Value} {ds:List (DataW H)} {ps:List MemPlace},
  (∀ t∈Ts,P.readableRec t=true/\t<P.types.size)->DataW.TrodAll enc P W 0 (λ_=>true) true Ts vs ds ps->(∀ p∈ps,p.block<W.heap.size)->(∀ p∈ps,sp p.block=true)->DataW.TrodAll enc P W' 0 sp true Ts vs ds ps
 | [],[],[],_,_,h,_,_=>h
 | t :: Ts,v :: vs,d :: ds,_,hr,⟨p,q,h1,h2,rfl⟩,hlt,hs=>by
  refine ⟨p,q,?_,yg hl hb (λt ht=>hr t (List.mem_cons_of_mem _ ht)) h2 (λx hx=>hlt x (List.mem_append_right _ hx)) (λx hx=>hs x (List.mem_append_right _ hx)),rfl⟩;exact WideElems.Trod_stays hl (hr t List.mem_cons_self).1 (hr t List.mem_cons_self).2 h1 (λx hx=>hb.same (hlt x (List.mem_append_left _ hx))) (λx hx=>hs x (List.mem_append_left _ hx))
theorem AA{W:World}{b:Nat}{sp:Nat->Bool}{hd:Bool}:∀ {Ts:List TypeId} {vs:List Value} {ds:List (DataW H)} {ps:List MemPlace},DataW.TrodAll enc P W b sp hd Ts vs ds ps->ds.length=Ts.length
 | [],[],[],_,_=>rfl
 | _ :: _,_ :: _,_ :: _,_,⟨_,_,_,h,_⟩=>by simp [AA h]
end
end Go.Dec
/-
  Readings of arguments of types that hold themselves.
-/
namespace Go.Dec
open Go Go.RowKit Go.WideShapes Go.ChangeShapes
variable {T:TypeId}{k:Nat}{α:Type}
def RdU(P:Program)(W:World)(k:Nat)(T:TypeId){α:Type}(t:Ty α):Prop:=
 ∀ (H:Type) (enc:TypeId×Value->H) (spare:Nat->Bool) (fuel:Nat) (cs:List Value) (d:DataW H) (ps:List MemPlace),fuel<=k->
  DataW.trod enc P W 0 spare true fuel T cs=some (d,ps)->(∀ n∈d.weights P T,n<=reachBytes)->∃ x,t.rep (G.top W) cs x
section
variable {P:Program} {W:World}
theorem Rds.to{t:Ty α}(h:Rds P W T t)(k:Nat):RdU P W k T t:=λH enc spare fuel cs d ps _ h1 h2=>h H enc spare fuel cs d ps h1 h2
theorem Rds.ofU{t:Ty α}(h:∀ k,RdU P W k T t):Rds P W T t:=λH enc spare fuel cs d ps h1 h2=>h fuel H enc spare fuel cs d ps (Nat.le_refl _) h1 h2
theorem RdU.down{j:Nat}{t:Ty α}(h:RdU P W k T t)(hj:j<=k):RdU P W j T t:=λH enc spare fuel cs d ps hf h1 h2=>h H enc spare fuel cs d ps (Nat.le_trans hf hj) h1 h2
theorem RdU.le{s t:Ty α}(l:Le s t)(h:RdU P W k T s):RdU P W k T t:=λH enc spare fuel cs d ps hf h1 h2=>
 let ⟨x,hx⟩:=h H enc spare fuel cs d ps hf h1 h2;⟨x,l.rep _ _ _ hx⟩
theorem RdU.slice{e:TypeId}{t:Ty α}(hT:P.underlying T=some (.slice e))(he:RdU P W k e t)(hc:P.cellsOf e=t.size)(h0:0<t.size)(hb:0<P.bytesOf e):RdU P W (k+1) T (tL t):=by
 intro H enc spare fuel cs d ps hfu h hw;rcases DataW.trod_slice hT h with ⟨rfl,_⟩ | ⟨a,len,cap,elems,rest,n,hn,rfl,hx,_,hl,_,hlen,hel,_,_⟩
 .exact ⟨[],none,0,rfl,Nat.zero_le _,Nat.zero_le _,λ_=>rfl,rfl⟩
 .simp only [Prod.mk.injEq] at hx;obtain ⟨rfl,rfl⟩:=hx;have hlim:len<=lim:=by have:=hw (((elems.map (·.1)).length+(rest.map (·.1)).length)*P.bytesOf e) (by simp [DataW.weights,hT]);have hr:reachBytes<2 ^ 47:=reachBytes_lt;simp only [List.length_map,hlen] at this;have h2:(len+rest.length)*1<=(len+rest.length)*P.bytesOf e:=Nat.mul_le_mul_left _ hb;unfold lim;omega
  have key:∀ i,i<len->∃ x,(i=0->a.spot=none)/\t.At (G.top W) a.block (a.off+i*t.size) x:=by
   intro i hi;have h1:=hel i hi;have hi':i<elems.length:=by omega
   rw [List.getElem?_eq_getElem hi',Option.bind_eq_some_iff] at h1;obtain ⟨cs',hcs,htr⟩:=h1;obtain ⟨x,hx⟩:=he H enc spare n cs' elems[i].1 elems[i].2 (by omega) htr (λm hm=>hw m (by
    simp only [DataW.weights,hT,List.mem_cons,List.mem_append];exact .inr (.inl (rU (List.mem_map.2 ⟨elems[i],List.getElem_mem hi',rfl⟩) m hm))))
   obtain ⟨_,hlen',hcell⟩:=World.cells?_some hcs;have hA:∀ j v,cs'[j]? =some v->(G.top W).Has a.block (a.off+i*t.size+j) v/\(i*t.size+j=0->a.spot=none):=by
    intro j v hj;have hlt:=(List.getElem?_eq_some_iff.1 hj).1;have hc1:W.cell? ((a.add (i*P.cellsOf e)).add j)=some v:=by
     have:=hcell j (by omega);rw [this];exact hj
    obtain ⟨hs,hh⟩:=y8 hc1;have hbk:((a.add (i*P.cellsOf e)).add j).block=a.block:=by unfold Addr.add;split<;> split<;> rfl
    have hof:((a.add (i*P.cellsOf e)).add j).off=a.off+i*t.size+j:=by
     rw [hc];unfold Addr.add;split<;> split<;> simp_all<;> omega
    rw [hbk,hof] at hh;refine ⟨hh,λhz=>?_⟩;have h3:i*P.cellsOf e=0:=by rw [hc];omega
    have h4:j=0:=by omega
    rw [h3,h4] at hs;exact hs
   refine ⟨x,λhi0=>?_,cs',hx,λj v hj=>(hA j v hj).1⟩;have hl0:0<cs'.length:=by omega
   obtain ⟨_,hs⟩:=hA 0 cs'[0] (List.getElem?_eq_getElem hl0);exact hs (by rw [hi0];simp)
  obtain ⟨xs,hxl,hxq⟩:=pickAll (λi x=>(i=0->a.spot=none)/\t.At (G.top W) a.block (a.off+i*t.size) x) len key;refine ⟨xs,some a,cap,by rw [hxl],by omega,by omega,(λh=>by cases h),?_,λi x hi=>(hxq i x hi).2⟩;cases xs with
  | nil=>exact .inl rfl
  | cons x r=>exact .inr ((hxq 0 x rfl).1 rfl)
def RdFU(P:Program)(W:World)(k:Nat)(fs:List Field)(o:Nat){α:Type}(t:Ty α):Prop:=
 ∀ (H:Type) (enc:TypeId×Value->H) (spare:Nat->Bool) (n:Nat) (cs:List Value),n<=k->cs.length=o+t.size->
  (∀ (i:Nat) f,fs[i]? =some f->∃ d ps,DataW.trod enc P W 0 spare true n f.type ((cs.drop f.offset).take (P.cellsOf f.type))=some (d,ps)/\(∀ m∈d.weights P f.type,m<=reachBytes))->
  ∃ x,t.rep (G.top W) (cs.drop o) x
theorem RdFU.last{f:Field}{o:Nat}{t:Ty α}(ho:f.offset=o)(hc:P.cellsOf f.type=t.size)(h:RdU P W k f.type t):RdFU P W k [f] o (tOne t):=by
 intro H enc spare n cs hn hl hf;obtain ⟨d,ps,h1,h2⟩:=hf 0 f rfl;obtain ⟨x,hx⟩:=h H enc spare n _ d ps hn h1 h2;refine ⟨x,?_⟩;rw [ho,hc,List.take_of_length_le (by rw [List.length_drop];have:(tOne t).size=t.size:=rfl;omega)] at hx;exact hx
theorem RdFU.cons{f:Field}{fs:List Field}{o o':Nat}{β:Type}{t:Ty α}{u:Ty β}(ho:f.offset=o)(hc:P.cellsOf f.type=t.size)(ho':o'=o+t.size)(h:RdU P W k f.type t)(kk:RdFU P W k fs o' u):RdFU P W k (f :: fs) o (tP t u):=by
 intro H enc spare n cs hn hl hf;have hs:(tP t u).size=t.size+u.size:=rfl;obtain ⟨d,ps,h1,h2⟩:=hf 0 f rfl;obtain ⟨x,hx⟩:=h H enc spare n _ d ps hn h1 h2;obtain ⟨y,hy⟩:=kk H enc spare n cs hn (by omega) (λi g hg=>hf (i+1) g (by simpa using hg));rw [ho,hc] at hx;refine ⟨(x,y),_,_,?_,hx,hy⟩;rw [ho',<-List.drop_drop,List.take_append_drop]
theorem RdU.struct{fs:Array Field}{β:Type}{t:Ty β}{f:α->β}(mk:β->α)(hf:∀ x,f (mk x)=x)(hT:P.underlying T=some (.struct fs))(hc:P.cellsOf T=t.size)(h:RdFU P W k fs.toList 0 t):RdU P W (k+1) T (tMap t f):=by
 intro H enc spare fuel cs d ps hfu htr hw;obtain ⟨xs,n,hn,hx,hl,hxl,hel⟩:=DataW.trod_struct hT htr;simp only [Prod.mk.injEq] at hx;obtain ⟨rfl,rfl⟩:=hx;obtain ⟨x,hx⟩:=h H enc spare n cs (by omega) (by omega) (λi g hg=>by
  have hg':fs[i]? =some g:=by simpa using hg
  have h1:=hel i g hg';have hi:i<xs.length:=by rw [hxl];exact (Array.getElem?_eq_some_iff.1 hg').1
  rw [List.getElem?_eq_getElem hi] at h1;refine ⟨xs[i].1,xs[i].2,h1,λm hm=>hw m ?_⟩;simp only [DataW.weights,hT];exact DataW.weights_mem_each (ts:=fs.toList.map (·.type)) (ds:=xs.map (·.1)) (j:=i) (t:=g.type) (d:=xs[i].1) (by simp [hg']) (by simp [hi]) m hm)
 refine ⟨mk x,?_⟩;show t.rep (G.top W) cs (f (mk x));rw [hf];exact hx
theorem Rds.fix{fs:Array Field}{F:Ty α->Ty α}{n:Nat}(r:Rec F n)(hT:P.underlying T=some (.struct fs))(h:∀ k,RdU P W k T (tFix r)->RdU P W (k+1) T (F (tFix r))):Rds P W T (tFix r):=by
 refine Rds.ofU λk=>?_;induction k with
 | zero=>
  intro H enc spare fuel cs d ps hf htr hw;obtain ⟨xs,n,hn,_⟩:=DataW.trod_struct hT htr;omega
 | succ k ih=>exact (h k ih).le r.into
end
end Go.Dec
/-
  The last step of a row that lists what package variables hold.
-/
namespace Go.Dec
open Go Go.RowKit Go.WideShapes Go.ChangeShapes
end Go.Dec
/-
  Readings of package variables whose contents are given, and the last step of a row whose law leans on them.
-/
namespace Go.Dec
open Go Go.RowKit Go.WideShapes Go.ChangeShapes
variable {T e:TypeId}{α:Type}
def RdV(P:Program)(W:World)(T:TypeId){α:Type}(t:Ty α)(d:DataW Unit)(x:α):Prop:=
 ∀ (spare:Nat->Bool) (held:Bool) (fuel:Nat) (cs:List Value) (ps:List MemPlace),DataW.trod (λ_=>()) P W 0 spare held fuel T cs=some (d,ps)->t.rep (G.top W) cs x
section
variable {P:Program} {W:World}
theorem RdV.int{k:IntKind}{n:Int}(hT:P.underlying T=some (.int k))(hn:inR k n):RdV P W T (tI k) (.lit (.int k n)) n:=by
 intro spare held fuel cs ps h;obtain ⟨m,rfl,hx,_⟩:=DataW.trod_int hT h;simp only [Prod.mk.injEq,DataW.lit.injEq,Lit.int.injEq,true_and] at hx;rw [<-hx.1];exact ⟨rfl,hn⟩
theorem RdV.string{l:Str}(hT:P.underlying T=some .string)(hl:l.length<=lim):RdV P W T tS (.lit (.string l)) l:=by
 intro spare held fuel cs ps h;obtain ⟨s,rfl,hx,_⟩:=DataW.trod_string hT h;simp only [Prod.mk.injEq,DataW.lit.injEq,Lit.string.injEq] at hx;refine ⟨?_,hl⟩;rw [hx.1];simp [str]
def RdVs(P:Program)(W:World)(E:TypeId){α:Type}(t:Ty α):List (DataW Unit)->List α->Prop
 | [],[]=>True
 | d :: ds,x :: xs=>RdV P W E t d x/\RdVs P W E t ds xs
 | _,_=>False
theorem RdVs.len{E:TypeId}{t:Ty α}:∀ {ds:List (DataW Unit)} {xs:List α},RdVs P W E t ds xs->ds.length=xs.length
 | [],[],_=>rfl
 | _ :: ds,_ :: xs,h=>by simp [RdVs.len h.2]
 | [],_ :: _,h=>h.elim
 | _ :: _,[],h=>h.elim
theorem RdVs.get{E:TypeId}{t:Ty α}:∀ {ds:List (DataW Unit)} {xs:List α},RdVs P W E t ds xs->∀ (i:Nat) (x:α),xs[i]? =some x->∃ d,ds[i]? =some d/\RdV P W E t d x
 | d :: ds,y :: xs,h,0,x,hx=>by
  simp at hx;subst hx;exact ⟨d,rfl,h.1⟩
 | d :: ds,y :: xs,h,i+1,x,hx=>by
  simp at hx;obtain ⟨e,he,hr⟩:=RdVs.get h.2 i x hx;exact ⟨e,by simpa using he,hr⟩
 | [],[],_,i,x,hx=>by simp at hx
theorem RdV.nil{t:Ty α}(hT:P.underlying T=some (.slice e)):RdV P W T (tL t) .nil []:=by
 intro spare held fuel cs ps h;rcases DataW.trod_slice hT h with ⟨rfl,_⟩ | ⟨a,len,cap,elems,rest,n,_,_,hx,_⟩
 .exact ⟨none,0,rfl,Nat.zero_le _,Nat.zero_le _,λ_=>rfl,rfl⟩
 .simp at hx
theorem RdV.slice{t:Ty α}{ds rs:List (DataW Unit)}{xs:List α}(hT:P.underlying T=some (.slice e))(hc:P.cellsOf e=t.size)(h0:0<t.size)(hl:xs.length<=lim)(hd:RdVs P W e t ds xs):RdV P W T (tL t) (.slice ds rs) xs:=by
 intro spare held fuel cs ps h;rcases DataW.trod_slice hT h with ⟨_,hx⟩ | ⟨a,len,cap,elems,rest,n,_,rfl,hx,_,hlc,_,hlen,hel,_,_⟩
 .simp at hx
 .simp only [Prod.mk.injEq,DataW.slice.injEq] at hx;have hds:=hx.1.1;have hxl:len=xs.length:=by have:=hd.len;rw [hds,List.length_map] at this;omega
  subst hxl;have key:∀ (i:Nat) (x:α),xs[i]? =some x->(i=0->a.spot=none)/\t.At (G.top W) a.block (a.off+i*t.size) x/\(i=0->t.size=0->True):=by
   intro i x hx;obtain ⟨d,hdi,hr⟩:=hd.get i x hx;have hi:i<xs.length:=(List.getElem?_eq_some_iff.1 hx).1;have h1:=hel i hi;have hi':i<elems.length:=by omega
   rw [List.getElem?_eq_getElem hi',Option.bind_eq_some_iff] at h1;obtain ⟨cs',hcs,htr⟩:=h1;have hde:elems[i].1=d:=by
    rw [hds] at hdi;simpa [hi'] using hdi
   have hrep:=hr spare held n cs' elems[i].2 (by rw [<-hde];exact htr);obtain ⟨_,hlen',hcell⟩:=World.cells?_some hcs;have hA:∀ j v,cs'[j]? =some v->(G.top W).Has a.block (a.off+i*t.size+j) v/\(i*t.size+j=0->a.spot=none):=by
    intro j v hj;have hlt:=(List.getElem?_eq_some_iff.1 hj).1;have hc1:W.cell? ((a.add (i*P.cellsOf e)).add j)=some v:=by
     have:=hcell j (by omega);rw [this];exact hj
    obtain ⟨hs,hh⟩:=y8 hc1;have hbk:((a.add (i*P.cellsOf e)).add j).block=a.block:=by unfold Addr.add;split<;> split<;> rfl
    have hof:((a.add (i*P.cellsOf e)).add j).off=a.off+i*t.size+j:=by
     rw [hc];unfold Addr.add;split<;> split<;> simp_all<;> omega
    rw [hbk,hof] at hh;refine ⟨hh,λhz=>?_⟩;have h3:i*P.cellsOf e=0:=by rw [hc];omega
    have h4:j=0:=by omega
    rw [h3,h4] at hs;exact hs
   refine ⟨λhi0=>?_,⟨cs',hrep,λj v hj=>(hA j v hj).1⟩,λ_ _=>trivial⟩;have hz:0<cs'.length:=by omega
   obtain ⟨_,hs⟩:=hA 0 cs'[0] (List.getElem?_eq_getElem hz);exact hs (by rw [hi0];simp)
  refine ⟨some a,cap,rfl,hlc,hl,(λh=>by cases h),?_,λi x hi=>(key i x hi).2.1⟩;cases xs with
  | nil=>exact .inl rfl
  | cons x r=>exact .inr ((key 0 x rfl).1 rfl)
theorem RdV.array{t:Ty α}{n:Nat}{ds:List (DataW Unit)}{xs:List α}(hT:P.underlying T=some (.array n e))(hc:P.cellsOf e=t.size)(hct:P.cellsOf T=n*t.size)(hn:xs.length=n)(hd:RdVs P W e t ds xs):RdV P W T (tA n t) (.agg ds) xs:=by
 intro spare held fuel cs ps h;obtain ⟨ys,m,_,hx,hcl,hyl,hel⟩:=DataW.trod_array hT h;simp only [Prod.mk.injEq,DataW.agg.injEq] at hx;have hds:=hx.1;rw [hct] at hcl;have key:∀ (i:Nat) (x:α),xs[i]? =some x->t.rep (G.top W) ((cs.drop (i*t.size)).take t.size) x:=by
  intro i x hx;obtain ⟨d,hdi,hr⟩:=hd.get i x hx;have hi:i<n:=by have:=(List.getElem?_eq_some_iff.1 hx).1;omega
  have h1:=hel i hi;have hi':i<ys.length:=by omega
  rw [List.getElem?_eq_getElem hi',hc] at h1;have hde:ys[i].1=d:=by
   rw [hds] at hdi;simpa [hi'] using hdi
  exact hr spare held m _ ys[i].2 (by rw [<-hde];exact h1)
 have hcells:∀ (xs:List α) (cs:List Value),cs.length=xs.length*t.size->(∀ (i:Nat) (x:α),xs[i]? =some x->t.rep (G.top W) ((cs.drop (i*t.size)).take t.size) x)->Cells t (G.top W) cs xs:=by
  intro xs;induction xs with
  | nil=>
   intro cs hl _;have:cs= []:=by simpa using hl
   rw [this];exact Cells.nil
  | cons x xs ih=>
   intro cs hl hk;have h0:=hk 0 x rfl;rw [Nat.zero_mul,List.drop_zero] at h0;have:=Cells.cons h0 (ih (cs.drop t.size) (by rw [List.length_drop,hl,List.length_cons,Nat.add_mul];omega) λi y hy=>by
    have:=hk (i+1) y (by simpa using hy);rw [List.drop_drop];rwa [show t.size+i*t.size=(i+1)*t.size by rw [Nat.add_mul];omega])
   rwa [List.take_append_drop] at this
 exact ⟨hn,hcells xs cs (by rw [hcl,hn]) key⟩
theorem QV{laid:List (String×DataW Unit)}:∀ {ps:List MemPlace},DataW.LaidVars P W laid ps->∀ {name:String} {d:DataW Unit},(name,d)∈laid->
  ∃ g t cs fuel qs,P.globalNamed name=some g/\(P.globals[g]?).map (·.type)=some t/\W.var? P name=some cs/\DataW.trod (λ_=>()) P W 0 (λ_=>true) false fuel t cs.toList=some (d,qs):=by
 induction laid with
 | nil=>intro ps _ name d hm;cases hm
 | cons y laid ih=>
  intro ps h name d hm;obtain ⟨n,d'⟩:=y;obtain ⟨g,t,cs,fuel,p,q,h1,h2,h3,h4,h5,_⟩:=h;rcases List.mem_cons.1 hm with e | hm
  .cases e;exact ⟨g,t,cs,fuel,p,h1,h2,h3,h4⟩
  .exact ih h5 hm
end
section
variable {P:Program} {H:Type}
theorem Be{C:Checked}{os:Os}{f:FuncId}{fn:Func}{s:ChangeSpec}{conds:List PathCond}{apart fresh handsOn again:Bool}{tb:TypeId}{enc:TypeId×Value->H}{X:World->Array Value->Prop}(hX:∀ (w w':World) (args:Array Value),w.heap=w'.heap->X w args->X w' args)
  (own:ownKnob C.prog.godebug=none) (started:os.Started) (noInit:C.prog.inits.idxOf? f=none) (hfn:C.prog.funcs[f]? =some fn)
  (witness:∃ (w:World) (tape:Tape) (i:Input),w.os=os/\(w.forCall tape i).Shaped C.prog/\i.vars= []/\Input.okWide C.prog (w.forCall tape i) .any w.heap.size f i/\
   ((s.pre enc C.prog fn conds apart (w.forCall tape i).memory i.args/\X (w.forCall tape i).memory i.args)/\sizedMet enc C.prog fn (OpenSpec.ofChange s) apart (w.forCall tape i).memory i.args)/\Assume.holds {} C.prog (lone (Frame.enter C.prog f i.args .normal) [] (w.forCall tape i)))
  (hl:laidOutB C.prog=true) (hr:fn.params.toList.all (λt=>C.prog.readableRec t && decide (t<C.prog.types.size))=true)
  (hres:fn.resultTypes= #[tb]) (htb:C.prog.underlying tb=some .bool) (hvars:s.vars= [])
  (hs:∀ ds:List (DataW H),ds.length=fn.params.toList.length->(s.fn H ds).results= [.lit (.bool true)]/\(s.fn H ds).args=ds/\(s.fn H ds).vars= [])
  (law:∀ W base vs,(∃ args,X W args)->vE C.prog W base fn.params.toList vs->∃ As rin,All2 As vs (G.top W)/\rin.all (G.top W)/\NoBlk rin/\aR C.prog f As rin (λ_:Unit=>tB.is true) (λ_=>[])) :
  ReturnsInHanded {} C os f .any (λw args=>(s.pre enc C.prog fn conds apart w args/\X w args)/\sizedMet enc C.prog fn (OpenSpec.ofChange s) apart w args) (s.post enc C.prog fn apart fresh handsOn again):=by
 refine returnsInHanded_of_change_and hX own started noInit hfn witness ?_;intro W base args ds gs before hval hW hcnd hsz hX2 _;have hW':=hW;obtain ⟨p,q,hA,hV,rfl,hfz,hnd⟩:=hW;rw [hvars] at hV;have hg:gs= []/\q= []:=by
  cases gs with
  | nil=>exact ⟨rfl,hV⟩
  | cons _ _=>exact hV.elim
 obtain ⟨rfl,rfl⟩:=hg;have hlt:∀ x∈p,x.block<W.heap.size:=λx hx=>hW'.lt x (by simpa using hx);have hr':∀ t∈fn.params.toList,C.prog.readableRec t=true/\t<C.prog.types.size:=λt ht=>by
  have:=List.all_eq_true.1 hr t ht;simpa using this
 have hvt:s.plain.varTypes C.prog= []:=by
  have:s.plain.vars= []:=hvars;simp [DataSpec.varTypes,this]
 have hsz':∀ n∈DataW.weightsEach C.prog fn.params.toList ds,n<=reachBytes:=λn hn=>by
  have:=List.all_eq_true.1 hsz n (by rw [hvt];simpa using hn);simpa using this
 obtain ⟨As,rin,hvs,hr2,hnb,hspec⟩:=law W base args.toList ⟨args,hX2⟩ ⟨H,enc,ds,p,hA,hsz',λj t v hj hv=>hval j t v (by simpa using hj) (by simpa using hv)⟩;have:=Bq hspec hnb hvs hr2;refine (show Calls C.prog f args W _ from by simpa [G.top] using this).mono ?_;rintro e W' ⟨v,g',rfl,rfl,hext,cs,hcs,hv⟩;have hcs':cs= [.bool true]:=hcs;subst hcs';have hv':v= .bool true:=hv;subst hv';have hb:Below W.heap.size W g'.w:=Ext.below hext;have hlen:(ds++ []).length=fn.params.toList.length:=by rw [List.append_nil];exact AA hA
 obtain ⟨hs1,hs2,hs3⟩:=hs (ds++ []) hlen;refine ⟨_,rfl,Dn (pa:=p) (pv:=[]) hW' ?_ ?_ ?_ rfl hb (ok_one hres rfl (okWide_bool_mk htb true))⟩
 .intro b sp hd;rw [hs1,hres];exact trodAll_mk1 (shut_bool htb true)
 .intro sp hsp;rw [hs2,List.append_nil];exact yg hl hb hr' hA hlt (λx hx=>hsp x (by simpa using hx))
 .intro sp _;rw [hs3,hvars];rfl
end
end Go.Dec
/-
  What a row lists where functions by name stand beside plain data.
-/
namespace Go.Dec
open Go
variable {P:Program}{laid:List (String×DataW Unit)}
theorem Bf{l:List (String×DataW Unit)}{w:World}(h:laidMetH P l w):laidMet P (l.filter λx=>x.2.handleName?.isNone) w:=by
 unfold laidMetH at h;generalize hfl:(l.filter λx=>x.2.handleName?.isSome)=fl at h;cases fl with
 | nil=>
  have e:(l.filter λx=>x.2.handleName?.isNone)=l:=by
   rw [List.filter_eq_self];intro x hx;have:=(List.filter_eq_nil_iff.1 hfl) x hx;cases hn:x.2.handleName? with
   | none=>rfl
   | some s=>rw [hn] at this;exact absurd rfl this
  rw [e];exact h
 | cons a az=>exact h.1
theorem Gl.ofLaidF{W:World}(h:laidMetH P laid W){name:String}{d:DataW Unit}(hm:(name,d)∈laid)(hd:d.handleName?.isNone=true){b:Nat}{T:TypeId}{α:Type}{t:Ty α}{x:α}
  (hg:P.globalNamed name=some b) (hT:(P.globals[b]?).map (·.type)=some T) (hr:RdV P W T t d x):(Gl t b x).holds (G.top W):=by
 obtain ⟨ps,hl,_⟩:=Bf h;obtain ⟨g,t',cs,fuel,qs,h1,h2,h3,h4⟩:=QV hl (List.mem_filter.2 ⟨hm,hd⟩);obtain rfl:=Option.some.inj (hg.symm.trans h1);obtain rfl:=Option.some.inj (hT.symm.trans h2);refine ⟨cs.toList,hr _ _ _ _ _ h4,λj v hj=>?_⟩;have hc:=World.var?_cell h1 h3 j;have hj':cs[j]? =some v:=by simpa using hj
 rw [hj'] at hc;have:=(y8 hc).2;rw [Nat.zero_add];exact this
theorem y9{v:Value}(h:RowKit.IsFunc v):v.oneCell'=true:=by
 cases v<;> first | rfl | exact h.elim
theorem Gl.ofFuncs{W:World}(h:laidMetH P laid W){name:String}{d:DataW Unit}(hm:(name,DataW.iface "func table" d)∈laid){b:Nat}{T:TypeId}{f0 f1:Field}{ps rs qs ss:Array TypeId}{va vb:Bool}{α:Type}{t:Ty α}{x:α}
  (hg:P.globalNamed name=some b) (hT:(P.globals[b]?).map (·.type)=some T) (hu:P.underlying T=some (.struct #[f0,f1])) (h0:P.underlying f0.type=some (.func ps rs va)) (h1:P.underlying f1.type=some (.func qs ss vb))
  (hc0:P.cellsOf f0.type=1) (hc1:P.cellsOf f1.type=1) (ho0:f0.offset=0) (ho1:f1.offset=1) (hc:P.cellsOf T=2) (hr:∀ v w:Value,v.oneCell'=true->w.oneCell'=true->t.rep (G.top W) [v,w] x):(Gl t b x).holds (G.top W):=by
 obtain ⟨g,t',cs,fuel,p,e1,e2,e3,e4⟩:=laidMetH.funcs h hm;obtain rfl:=Option.some.inj (hg.symm.trans e1);obtain rfl:=Option.some.inj (hT.symm.trans e2);obtain ⟨y0,y1,n,_,hl,k0,k1⟩:=ChangeShapes.trod_struct2 hu e4;obtain ⟨v,hv1,hv2,_⟩:=RowKit.func_of_trod h0 k0;obtain ⟨w,hw1,hw2,_⟩:=RowKit.func_of_trod h1 k1;rw [hc] at hl;rw [ho0,hc0] at hv1;rw [ho1,hc1] at hw1;obtain ⟨a,c,hac⟩:∃ a c,cs.toList= [a,c]:=by
  match hcs:cs.toList,hl with
  | [a,c],_=>exact ⟨a,c,rfl⟩
 rw [hac] at hv1 hw1;simp only [List.drop_zero,List.take_succ_cons,List.take_zero,List.drop_succ_cons,List.cons.injEq,and_true] at hv1 hw1;subst hv1 hw1;refine ⟨[a,c],hr a c (y9 hv2) (y9 hw2),λj z hj=>?_⟩;have hcell:=World.var?_cell e1 e3 j;have hj':cs[j]? =some z:=by rw [<-hac] at hj;simpa using hj
 rw [hj'] at hcell;have:=(y8 hcell).2;rw [Nat.zero_add];exact this
theorem xS{w0:World}(args:Array Value)(hf:w0.layFits P laid []=true)(hi:w0.layIfaces P laid (w0.layVars P laid)=true) :
  laidMet P laid ((w0.layVars P laid).forCall (λ_ _=>0) ⟨#[],args,[]⟩).memory:=by
 have e1:(laid.filter λx=>(laid.map (·.1)).contains x.1)=laid:=List.filter_eq_self.2 λx hx=>List.contains_iff_mem.2 (List.mem_map.2 ⟨x,hx,rfl⟩);have e2:(laid.filter λx=>!(laid.map (·.1)).contains x.1)= []:=List.filter_eq_nil_iff.2 λx hx=>by rw [List.contains_iff_mem.2 (List.mem_map.2 ⟨x,hx,rfl⟩)];simp
 have h:laidMet P laid (w0.layVars P laid):=laidMet_layVars (w0:=w0) (laid.map (·.1)) [] (by rw [e1]) (by rw [e1];exact hf) (by rw [e1];exact hi) (by rw [e2];exact LaidIn.none);exact h.of_heap (by simp [World.memory,World.forCall,Input.heap])
def setVars(w:World)(rows:List (Nat×List Value)):World:={w with heap:=⟨Lay.setRows w.heap.toList rows⟩}
end Go.Dec
