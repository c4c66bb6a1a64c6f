import Derived.Test.YtobcmdhemlennaaGreatDoorDec32
import Derived.Laws.MakeOwn
import Derived.Below
import Derived.Test.YtobcmdhemlennaaGreatDoorDec17
import Derived.Maps.RangeRun
import Derived.Lib.AppendZerosOnto
import Derived.Test.YtobcmdhemlennaaGreatDoorReadF
import Derived.RangeFuncNested
import Derived.RangeFuncCalls
import Derived.RangeFuncLeaves
import Derived.OrdersIn
import Derived.TacticsIn
/-
  Loose slices whose elements' readings may lean on memory: append of one or more elements.
-/
set_option linter.unusedVariables false
set_option linter.unusedSimpArgs false
namespace Go.Dec
open Go
variable {E:TypeId}{k:Tok}{key:Nat}{x:Operand}{α:Type}{xs:List α}
section
variable {P:Program} {env:Env} {res:Rs} {d:Option Tmp} {ty:TypeId} {pos:String} {aft:Array Edge} {gd:Option (Nat×Bool)}
theorem OpR.appendL{t:Ty α}{T:TypeId}{s:Operand}{ys v:List α}(h:Dec.appC xs ys=some v)(hne:ys≠ [])(hT:P.underlying T=some (.slice E))(hE:ElAt P E t)(hs:Opd env s (tU k xs.length))(hx:Opd env x ((tL t).is ys))
  (hr:res.pick [key]= [(key,OwnU t E k xs)]) :
  OpR P ⟨d,.call ⟨.builtin .append,#[s,x],#[T,T]⟩,ty,pos,aft,gd⟩ env res [key] (λk':Tok=>tU k' v.length) (λk'=>[(key,OwnU t E k' v)]):=by
 obtain ⟨rfl,hl⟩:=uQ h;intro a g K Q hc hd hK;obtain ⟨i,z,hi,hz,hsz,hby,hzs⟩:=hE.row;obtain ⟨hv,hc1,hl1⟩:=hs a g hc.henv;obtain ⟨p,c,hxv,hyc,hyl,hpn,hyrow⟩:=hx.atL hc;have hres:(OwnU t E k xs).holds g:=hc.hres _ (zb hr);have hlim:xs.length+ys.length<=lim:=by unfold vY at hl;unfold lim;omega
 have hblk:∀ b,(res.pick [key]).blks b ↔ (k.map Prod.fst)=some b:=nX hr;have run:∀ v w',(Builtin.append_ #[T,T] ty #[a.eval s,a.eval x]).run P g.w= .ok v w'->K (a.put d v) w'->
   Oper.wp P ⟨d,.call ⟨.builtin .append,#[s,x],#[T,T]⟩,ty,pos,aft,gd⟩ a g.w K Q:=by
  intro v w' hrun hK';unfold Oper.wp execOp;simp only [resolve,invoke,builtin,Sem.run_bind,Sem.run_pure,Result.andThen_ok,List.map_toArray,List.map_cons,List.map_nil,hrun];exact hK'
 rw [hv,hxv] at run;have done:∀ (k':Tok) v g',Ext (res.pick [key]).blks g g'->(tU k' (xs++ys).length).holds v g'->(OwnU t E k' (xs++ys)).holds g'->(∀ b,(k'.map Prod.fst)=some b->(k.map Prod.fst)=some b\/g.w.heap.size<=b)->K (a.put d v) g'.w:=by
  intro k' v g' e h1 h2 h3;refine hK k' v g' e h1 (λy hy=>by rw [List.mem_singleton.1 hy];exact h2) (List.pairwise_singleton _ _) ?_;rintro b ⟨y,hy,hb⟩;rw [List.mem_singleton.1 hy] at hb;rcases h3 b hb with h | h
  .exact .inl ((hblk b).2 h)
  .exact .inr h
 cases p with
 | none=>exact absurd hyrow hne
 | some ad=>
  obtain ⟨hsp,hyat⟩:=hyrow
  replace hsp:ad.spot=none:=hsp.resolve_left hne
  obtain ⟨bs,os,spot⟩:=ad;simp at hsp;subst hsp;obtain ⟨news,hnc,hnh⟩:=Row.cells hyat;have hypos:=List.length_pos_iff.2 hne;have hnl:news.length=ys.length*i.size:=by rw [hnc.1,hsz]
  have hnews:∀ (j:Nat) v,news[j]? =some v->g.w.cell? ((⟨bs,os,none⟩:Addr).add j)=some v:=λj v hj=>by rw [Addr.add_lit];exact (hnh j v hj).2
  cases k with
  | none=>
   have hx0:xs= []:=hres;subst hx0;have h48:ys.length*i.bytes<=281474976710656:=by
    have:=Nat.mul_le_mul hl hby;unfold vY at this;simp only [List.length_nil,Nat.zero_add] at this;omega
   have hrun:=run_append_nil (P:=P) g.w T ty E i z hT hi hz ⟨bs,os,none⟩ ys.length c news hnl hnews (by omega) (by unfold lim at hlim;simp at hlim;omega) h48;refine run _ _ hrun ?_;have hge:=grownCap_ge g.w ys.length 0 E;have hcm:grownCap g.w ys.length 0 E<=maxLen:=grownCap_le_maxLen g.w ys.length 0 E (by unfold lim at hlim;unfold maxLen;simp at hlim;omega);let cur:Array Value:=news.toArray++Builtin.zeroCells z.cells (grownCap g.w ys.length 0 E-ys.length);let g':G:=g.drew.alloc (.cells cur E) 0;have e:Ext No g g':=(Ext.drew No g).trans' (Ext.alloc No _ _ _);have hheap:g'.w.heap[g.w.heap.size]? =some (.cells cur E (0,0)):=heap_alloc_new g.w.drew _;refine done (some (g.w.heap.size,grownCap g.w ys.length 0 E)) _ g' e.no ⟨by simp [Tok.addr,Tok.cap],by simpa [Tok.cap] using hge,by simpa using hyl⟩ ?_ (λb hb=>by simp at hb;exact .inr (by omega));refine ⟨cur,hheap,?_,by simpa using hge,hcm,?_,?_⟩
   .simp only [cur,Array.size_append,List.size_toArray,size_zeroCells,hzs,hnc.1,<-Nat.add_mul];congr 1;omega
   .show (if g.w.heap.size=g.w.heap.size then _ else _)=_;rw [if_pos rfl]
   .have:cur.toList.take (([]++ys).length*t.size)=news:=by simp only [cur,List.nil_append,Array.toList_append];rw [List.take_append_of_le_length (by simp [hnc.1])];simp [<-hnc.1]
    rw [this];exact hnc.mono e
  | some q=>
   obtain ⟨cur,hheap,hcs,hncap,hcm,hS,hcl⟩:=hres;have hold:∀ (j:Nat) v,(cur.toList.take (xs.length*i.size))[j]? =some v->g.w.cell? ((⟨q.1,0,none⟩:Addr).add j)=some v:=λj v hj=>by
    rw [Addr.add_lit,cell_of_row _ _ _ _ _ _ hheap];rw [List.getElem?_take] at hj;split at hj
    .simpa using hj
    .cases hj
   have holdl:(cur.toList.take (xs.length*i.size)).length=xs.length*i.size:=by
    have hcl:cur.toList.length=cur.size:=by simp
    rw [List.length_take,hcl];exact Nat.min_eq_left (by rw [hcs,hsz];exact Nat.mul_le_mul_right _ hncap)
   rw [<-hsz] at hcl;by_cases hroom:xs.length+ys.length<=q.2
   .have hfit:xs.length*i.size+news.length<=cur.size:=by rw [hnl,hcs,<-hsz,<-Nat.add_mul];exact Nat.mul_le_mul_right _ hroom
    have hrun:=run_append_room (P:=P) g.w T ty E i hT hi q.1 xs.length q.2 cur hheap ⟨bs,os,none⟩ ys.length c news hnl hnews hnc.2.1 hroom hfit;refine run _ _ hrun ?_;let new:Array Value:=(cur.toList.take (xs.length*i.size)++news++cur.toList.drop (xs.length*i.size+news.length)).toArray;let g':G:=⟨g.w.setRow q.1 new,λx=>if x=q.1 then 0 else g.S x⟩
    have hnew:∀ i' v,i'< g.S q.1->cur[i']? =some v->new[i']? =some v:=by
     intro i' v h1 h2;rw [hS] at h1;omega
    have e:Ext (λx=>x=q.1) g g':=o8 hheap (by rw [hS];exact Nat.le_refl _) hnew (λ_=>by simp [new];omega);have e':Ext (res.pick [key]).blks g g':=e.mono λx hx=>(hblk x).2 (by simp [hx]);have hheap':g'.w.heap[q.1]? =some (.cells new E (0,0)):=setRow_heap g.w q.1 cur new E _ hheap;refine done (some q) _ g' e' ⟨by simp [Tok.addr,Tok.cap],by simpa [Tok.cap] using hroom,by simpa using hlim⟩ ?_ (λb hb=>.inl hb);refine ⟨new,hheap',?_,by simpa using hroom,hcm,?_,?_⟩
    .simp only [new,List.size_toArray,List.length_append,holdl,List.length_drop,Array.length_toList];omega
    .show (if q.1=q.1 then _ else _)=_;rw [if_pos rfl]
    .have:new.toList.take ((xs++ys).length*t.size)=cur.toList.take (xs.length*i.size)++news:=by
      simp only [new];have hlen1:(cur.toList.take (xs.length*i.size)++news).length=(xs++ys).length*t.size:=by rw [List.length_append,holdl,hnl,<-Nat.add_mul,List.length_append,hsz]
      rw [List.take_append_of_le_length (by rw [hlen1];exact Nat.le_refl _),<-hlen1,List.take_length]
     rw [this];exact (hcl.mono e).append (hnc.mono e)
   .have hfit2:Builtin.nextslicecap (xs.length+ys.length) q.2*i.bytes<=281474976710656:=growslice_fits (by omega) (by
     have:=Nat.mul_le_mul hl hby;unfold vY at this;omega)
    have hrun:=run_append_grow (P:=P) g.w T ty E i z hT hi hz ⟨q.1,0,none⟩ xs.length q.2 _ holdl hold ⟨bs,os,none⟩ ys.length c news hnl hnews (by omega) (by unfold lim at hlim;omega) hfit2;refine run _ _ hrun ?_;have hge:=grownCap_ge g.w (xs.length+ys.length) q.2 E;have hcm':grownCap g.w (xs.length+ys.length) q.2 E<=maxLen:=grownCap_le_maxLen g.w _ q.2 E (by unfold lim at hlim;unfold maxLen;omega);let cur':Array Value:=(cur.toList.take (xs.length*i.size)).toArray++news.toArray++Builtin.zeroCells z.cells (grownCap g.w (xs.length+ys.length) q.2 E-(xs.length+ys.length));let g':G:=g.drew.alloc (.cells cur' E) 0;have e:Ext No g g':=(Ext.drew No g).trans' (Ext.alloc No _ _ _);have hheap':g'.w.heap[g.w.heap.size]? =some (.cells cur' E (0,0)):=heap_alloc_new g.w.drew _;refine done (some (g.w.heap.size,grownCap g.w (xs.length+ys.length) q.2 E)) _ g' e.no ⟨by simp [Tok.addr,Tok.cap],by simpa [Tok.cap] using hge,by simpa using hlim⟩ ?_ (λb hb=>by simp at hb;exact .inr (by omega));refine ⟨cur',hheap',?_,by simpa using hge,hcm',?_,?_⟩
    .have e1:(cur.toList.take (xs.length*i.size)).toArray.size=xs.length*t.size:=by rw [List.size_toArray,holdl,hsz]
     simp only [cur',Array.size_append,e1,List.size_toArray,hnc.1,size_zeroCells,hzs,<-Nat.add_mul];congr 1;omega
    .show (if g.w.heap.size=g.w.heap.size then _ else _)=_;rw [if_pos rfl]
    .have:cur'.toList.take ((xs++ys).length*t.size)=cur.toList.take (xs.length*i.size)++news:=by
      simp only [cur',Array.toList_append];have hlen1:(cur.toList.take (xs.length*i.size)++news).length=(xs++ys).length*t.size:=by rw [List.length_append,holdl,hnl,<-Nat.add_mul,List.length_append,hsz]
      rw [List.take_append_of_le_length (by rw [hlen1];exact Nat.le_refl _),<-hlen1,List.take_length]
     rw [this];exact (hcl.mono e).append (hnc.mono e)
theorem OpR.loosen{t:Ty α}(hF:Flat t){o:Oper}(h:OpR P o env res [] (λk:Tok=>tO t k xs) (λk=>[(key,Own t E k xs.length)])) :
  OpR P o env res [] (λk:Tok=>tU k xs.length) (λk=>[(key,OwnU t E k xs)]):=by
 intro a g K Q hc hd hK;refine h a g K Q hc hd λk v g1 e hv ho _ hob=>?_;have ho':(Own t E k xs.length).holds g1:=ho _ (List.mem_singleton.2 rfl);obtain ⟨hv1,hv2,hv3,hv4⟩:=hv;have hk:∀ b,k.map Prod.fst=some b->((res.pick []).blks b/\g.S b=0)\/g.w.heap.size<=b:=λb hb=>by
  rcases hob b ⟨_,List.mem_singleton.2 rfl,hb⟩ with ⟨y,hy,_⟩ | h1
  .have:=(List.mem_filter.1 hy).2;simp [memB] at this
  .exact .inr h1
 refine hK k v (g1.fixd k 0) (e.loose hk) ⟨hv1,hv2,hv3⟩ (λy hy=>?_) (List.pairwise_singleton _ _) ?_
 .rw [List.mem_singleton.1 hy];exact OwnU.loose hF ho' hv4
 .rintro b ⟨y,hy,hb⟩;rw [List.mem_singleton.1 hy] at hb;exact (hk b hb).imp (λh=>h.1) id
end
def tUT{α:Type}(k:Tok):Ty (List α) where
 size:=1
 agg:=false
 rep:=λ_ cs xs=>cs= [.slice k.addr xs.length k.cap]/\xs.length<=k.cap/\xs.length<=lim
 len:=λ⟨h,_⟩=>by rw [h];rfl
 one:=λ⟨h,_⟩ c hc=>by
  rw [h] at hc;rw [List.mem_singleton.1 hc];rfl
 mono:=λ_ h=>h
 sing:=λ_=>rfl
section
variable {P:Program} {env:Env} {res:Rs}
theorem Opd.LD(h:Opd env x (tU k xs.length)):Opd env x ((tUT k).is xs):=h.weak λv g ⟨h1,h2,h3⟩=>⟨[v],⟨by rw [h1],h2,h3⟩,rfl⟩
theorem Op1.ofUT{o:Oper}(h:Op1 P o env res ((tUT k).is xs)):Op1 P o env res (tU k xs.length):=h.weak λv g ⟨cs,⟨h1,h2,h3⟩,h4⟩=>by
 subst h1;exact ⟨h4,h2,h3⟩
end
theorem CvT.gr{g:G}{t:Ty α}{x:List α}(h:(Grown t E k xs).holds g)(hl:x.length=xs.length):CvT g (tUT k) (tL t) x xs:=λcs ⟨h1,h2,h3⟩=>by
 refine ⟨k.addr,k.cap,by rw [h1,hl],by omega,by omega,λhk=>?_,h.2⟩;cases k with
 | none=>rfl
 | some p=>cases hk
section
variable {P:Program} {N:Nat} {g0:G} {T0:Nat->Prop} {env:Env} {res:Rs}
theorem St.fixG{t:Ty α}(hr:findR key res=some (OwnU t E k xs)){a:Act}{g:G}(h:St N g0 T0 env res a g) :
  ∃ g',g'.w=g.w/\St N g0 T0 env ((key,Grown t E k xs) :: res.drop [key]) a g':=by
 have hin:=fO hr;have hres:(OwnU t E k xs).holds g:=h.hres _ hin;obtain ⟨e,hown,hrow⟩:=OwnU.fixd hres;have hd:∀ y∈res.drop [key],y∈res/\y.1≠key:=λy hy=>by
  have:=List.mem_filter.1 hy;refine ⟨this.1,λe=>?_⟩;have h3:=this.2;rw [gG.2 (show y.1∈ [key] by rw [e];simp)] at h3;cases h3
 refine ⟨g.fixd k (xs.length*t.size),rfl,h.sz,h.dfr,λs A hA=>A.mono e (h.henv s A hA),λy hy=>?_,?_,λb' ⟨y,hy,hb⟩=>?_,?_⟩
 .rcases List.mem_cons.1 hy with rfl | hy
  .exact ⟨hown,hrow⟩
  .refine y.2.stay e (λb' hb' hT=>?_) (h.hres y (hd y hy).1);exact h.dis.two y (hd y hy).1 _ hin (hd y hy).2 b' hb' hT
 .refine List.pairwise_cons.2 ⟨λy hy b' hb'=>?_,h.dis.filter _⟩;exact h.dis.two _ hin _ (hd y hy).1 (Ne.symm (hd y hy).2) b' hb'
 .rcases List.mem_cons.1 hy with rfl | hy
  .exact h.own b' ⟨_,hin,hb⟩
  .exact h.own b' ⟨y,(hd y hy).1,hb⟩
 .refine h.ext.trans e (λx hx hT=>?_);rcases h.own x ⟨_,hin,hT⟩ with h1 | h1
  .omega
  .exact h1
theorem WL.fixG{ops:Array Oper}{Q:Exit->Act->World->Prop}{l:List Oper}{t:Ty α}(key:Nat)(hr:findR key res=some (OwnU t E k xs))
  (h:WL P N g0 T0 ops Q l env ((key,Grown t E k xs) :: res.drop [key])):WL P N g0 T0 ops Q l env res:=by
 intro a g hst;obtain ⟨g',h1,h2⟩:=hst.fixG hr;have:=h a g' h2;rw [h1] at this;exact this
end
section
variable {P:Program} {env:Env} {res:Rs} {d:Option Tmp} {ty:TypeId} {pos:String} {aft:Array Edge} {gd:Option (Nat×Bool)}
theorem OpR.storeUF{β:Type}{t:Ty α}{t2:Ty β}{T:TypeId}{upd:α->β->α}{y:Operand}{i:Int}{u:α}{w:β}{o:Nat}(h:Dec.idx xs i=some u)(ht:TyAt P T t2)(hF:dU t o t2 upd)(hx:Opd env x (Bp (bk k) (i.toNat*t.size+o)))(hy:Opd env y (t2.is w))(hr:res.pick [key]= [(key,OwnU t E k xs)]) :
  OpR P ⟨none,.store T x y,ty,pos,aft,gd⟩ env res [key] (λ_:Unit=>Asn.any) (λ_=>[(key,OwnU t E k (xs.set i.toNat (upd u w)))]):=by
 obtain ⟨hi0,hil,hiu⟩:=I4 h;intro a g K Q hc hd hK;have hres:(OwnU t E k xs).holds g:=hc.hres _ (zb hr);cases k with
 | none=>
  have hx:xs= []:=hres;rw [hx] at hil;simp at hil
 | some p=>
  obtain ⟨cur,h1,h2,h3,h4,h5,h6⟩:=hres;generalize i.toNat=m at hil hiu hx hK ⊢;have hv:a.eval x= .pointer (some ⟨p.1,m*t.size+o,none⟩):=hx a g hc.henv;obtain ⟨ds,k1,k2⟩:=hy a g hc.henv;have hdl:=t2.len k1;have hvc:(a.eval y).cells=ds.toArray:=by rw [k2];exact t2.cells k1
  obtain ⟨us,u1,u2⟩:=h6.2.2 m u hiu;have hul:=t.len u1;obtain ⟨f1,_⟩:=hF g us ds u w u1 k1;have hm1:=Nat.mul_le_mul_right t.size (show m+1<=xs.length by omega);have hm2:=Nat.mul_le_mul_right t.size h3;rw [Nat.add_mul,Nat.one_mul] at hm1;have hcl:cur.toList.length=p.2*t.size:=by simpa using h2
  have hrun:=qH (P:=P) (cur:=cur.toList) (ds:=ds) (v:=a.eval y) (o:=m*t.size+o) ht.size (by simpa using h1) hvc hdl (by omega) (t2.one k1);have hex:(execOp a.eval ⟨none,.store T x y,ty,pos,aft,gd⟩).run P g.w= .ok .skip (g.w.setRow p.1 (over cur.toList (m*t.size+o) ds).toArray):=by
   simp [execOp,hv,Instr.storeAt,Instr.sureAddr,hrun]
  show Oper.upon P _ a K Q ((execOp a.eval _).run P g.w);rw [hex];have ho:m*t.size+o+ds.length<=cur.toList.length:=by omega
  let g':G:=⟨g.w.setRow p.1 (over cur.toList (m*t.size+o) ds).toArray,λx=>if x=p.1 then 0 else g.S x⟩
  have e:Ext (λx=>x=p.1) g g':=o8 h1 (by omega) (λi v hi _=>by omega) (λh=>by omega);have hheap':g'.w.heap[p.1]? =some (.cells (over cur.toList (m*t.size+o) ds).toArray E (0,0)):=setRow_heap g.w p.1 cur _ E _ h1;refine hK () undef g' (e.mono (λx hx=>(nX hr x).2 (by rw [show x=p.1 from hx];rfl))) trivial (λy hy=>?_) (List.pairwise_singleton _ _) (λb' hb'=>.inl ((nX hr b').2 ?_))
  .rw [List.mem_singleton.1 hy];refine ⟨_,hheap',by rw [List.size_toArray,gF ho,hcl],by simpa using h3,h4,if_pos rfl,?_,?_,?_⟩
   .rw [List.length_take,List.length_set,gF ho];omega
   .intro c hcm;obtain ⟨j,hj⟩:=List.getElem?_of_mem hcm;rw [List.getElem?_take] at hj;split at hj
    .rename_i hjl;simp only [List.length_set] at hjl;have hj:(over cur.toList (m*t.size+o) ds)[j]? =some c:=hj;rw [mD ho] at hj;split at hj
     .exact t2.one k1 c (List.mem_of_getElem? hj)
     .refine h6.2.1 c (List.mem_of_getElem? (i:=j) ?_);rw [List.getElem?_take,if_pos hjl];exact hj
    .cases hj
   .intro j z hz;by_cases hjm:j=m
    .subst hjm;rw [List.getElem?_set_self hil] at hz;cases hz;refine ⟨over us o ds,(hF g' us ds u w (t.mono e u1) (t2.mono e k1)).2,λq w' hq=>?_⟩;have hql:=(List.getElem?_eq_some_iff.1 hq).1;rw [gF f1] at hql;rw [List.getElem?_take,if_pos (by rw [List.length_set];omega)];show (over cur.toList (j*t.size+o) ds)[j*t.size+q]? =some w';rw [mD f1] at hq;rw [mD ho];by_cases hqo:o<=q/\q<o+ds.length
     .rw [if_pos hqo] at hq;rw [if_pos (by omega),show j*t.size+q-(j*t.size+o)=q-o by omega];exact hq
     .rw [if_neg hqo] at hq;rw [if_neg (by omega)];have h7:=u2 q w' hq;rw [List.getElem?_take] at h7;split at h7
      .exact h7
      .cases h7
    .rw [List.getElem?_set_ne (λh=>hjm h.symm)] at hz;obtain ⟨es,q1,q2⟩:=h6.2.2 j z hz;refine ⟨es,t.mono e q1,λq w hq=>?_⟩;have hql:=(List.getElem?_eq_some_iff.1 hq).1;have hel:=t.len q1;have h7:=q2 q w hq;rw [List.getElem?_take] at h7;split at h7
     .rename_i hlt;rw [List.getElem?_take,if_pos (by rw [List.length_set];exact hlt)];show (over cur.toList (m*t.size+o) ds)[j*t.size+q]? =some w;rw [mD ho,if_neg ?_]
      .exact h7
      .rcases Nat.lt_or_ge j m with hlt' | hge
       .have:=Nat.mul_le_mul_right t.size (show j+1<=m by omega);rw [Nat.add_mul,Nat.one_mul] at this;omega
       .have:=Nat.mul_le_mul_right t.size (show m+1<=j by omega);rw [Nat.add_mul,Nat.one_mul] at this;omega
     .cases h7
  .obtain ⟨y,hy,hyb⟩:=hb';rw [List.mem_singleton.1 hy] at hyb;exact hyb
end
end Go.Dec
/-
  Structs of which one field is the nil slice: what is appended there later is the call's own.
-/
namespace Go.Dec
open Go
theorem aY.leL{α β:Type}{s s' s1:Ty α}{o:Nat}{t:Ty β}{upd:α->β->α}(l:Le s' s)(h:aY s s1 o t upd):aY s' s1 o t upd:=
 λg cs ds x y hx hy=>h g cs ds x y (l.rep _ _ _ hx) hy
end Go.Dec
/-
  Many resources under one key; one of them may be taken out and put back. Facts as resources. Loose slices that are cut behind.
-/
namespace Go.Dec
open Go
section
variable {P:Program} {N:Nat} {g0:G} {T0:Nat->Prop} {env:Env} {res:Rs}
variable {c:Code} {ks:List KF} {B:Exit->Act->World->Prop} {ops:Array Oper} {Q:Exit->Act->World->Prop} {l:List Oper}
theorem W.chg{env':Env}{res':Rs}(hr:∀ a g,St N g0 T0 env res a g->St N g0 T0 env' res' a g)(h:W P N g0 T0 c ks B env' res'):W P N g0 T0 c ks B env res:=λa g hst=>h a g (hr a g hst)
theorem Cells.take{α:Type}{t:Ty α}{g:G}{cs:List Value}{xs:List α}(j:Nat)(hj:j<=xs.length)(h:Cells t g cs xs):Cells t g (cs.take (j*t.size)) (xs.take j):=by
 obtain ⟨h1,h2,h3⟩:=h;have hm:=Nat.mul_le_mul_right t.size hj;refine ⟨by rw [List.length_take,List.length_take,h1,Nat.min_eq_left hm,Nat.min_eq_left hj],λc hc=>h2 c (List.mem_of_mem_take hc),λi x hx=>?_⟩;rw [List.getElem?_take] at hx;split at hx
 .rename_i hij;obtain ⟨ds,k1,k2⟩:=h3 i x hx;refine ⟨ds,k1,λq v hq=>?_⟩;have hql:=(List.getElem?_eq_some_iff.1 hq).1;rw [t.len k1] at hql;have:=Nat.mul_le_mul_right t.size (show i+1<=j by omega);rw [Nat.add_mul,Nat.one_mul] at this;rw [List.getElem?_take,if_pos (by omega)];exact k2 q v hq
 .cases hx
end
end Go.Dec
/-
  Unsigned numbers of 64 bits; slices of arrays; slices made of zeros; errors that are nil or not; pointers to variables of one's own, in cells.
-/
namespace Go.Dec
open Go
variable {k:IntKind}
section
variable {P:Program} {env:Env} {res:Rs} {d:Option Tmp} {ty:TypeId} {pos:String} {aft:Array Edge} {gd:Option (Nat×Bool)}
section
variable {x y:Operand} {m n:Int} {T T':TypeId}
theorem Op1.andI(hx:Opd env x ((tI .i64).is m):=by exact .tmp rfl)(hy:Opd env y ((tI .i64).is n):=by exact .tmp rfl):Op1 P ⟨d,.binOp .and T x y T',ty,pos,aft,gd⟩ env res ((tI .i64).is (Dec.andI m n)):=by
 have h:Op1 P ⟨d,.binOp .and T x y T',ty,pos,aft,gd⟩ env res ((tI .i64).is (IntKind.i64.wrap (((m % 18446744073709551616).toNat &&& (n % 18446744073709551616).toNat:Nat):Int))):=
  Op1.same λa g hc=>⟨.int .i64 (IntKind.i64.wrap (((m % 18446744073709551616).toNat &&& (n % 18446744073709551616).toNat:Nat):Int)),by have h1:=(hx.atInt hc).1;have h2:=(hy.atInt hc).1;simp [execOp,h1,h2,binOp,eqGuard,Op.intBits];rfl,Asn.int (FW _ _)⟩
 rw [IntKind.wrap_i64] at h;exact h
theorem Op1.shlI{r:Int}(h:Dec.shlI m n=some r)(hx:Opd env x ((tI .i64).is m))(hy:Opd env y ((tI k).is n)):Op1 P ⟨d,.binOp .shl T x y T',ty,pos,aft,gd⟩ env res ((tI .i64).is r):=by
 unfold Dec.shlI at h;split at h
 .rename_i h0;cases h;have h:Op1 P ⟨d,.binOp .shl T x y T',ty,pos,aft,gd⟩ env res ((tI .i64).is (IntKind.i64.wrap (m*2 ^ min n.toNat 64))):=
   Op1.same λa g hc=>⟨.int .i64 (IntKind.i64.wrap (m*2 ^ min n.toNat 64)),by
    have h1:=(hx.atInt hc).1;have h2:=(hy.atInt hc).1;have h3:¬ n<0:=by omega
    simp [execOp,h1,h2,binOp,eqGuard,Op.shift,h3,IntKind.bits],Asn.int (FW _ _)⟩
  rw [IntKind.wrap_i64] at h;exact h
 .cases h
theorem Op1.shrI{r:Int}(h:Dec.shrI m n=some r)(hx:Opd env x ((tI .i64).is m))(hy:Opd env y ((tI k).is n)):Op1 P ⟨d,.binOp .shr T x y T',ty,pos,aft,gd⟩ env res ((tI .i64).is r):=by
 unfold Dec.shrI at h;split at h
 .rename_i h0;cases h;exact Op1.same λa g hc=>⟨.int .i64 (m.fdiv (2 ^ min n.toNat 64)),by
   have h1:=(hx.atInt hc).1;have h2:=(hy.atInt hc).1;have h3:¬ n<0:=by omega
   simp [execOp,h1,h2,binOp,eqGuard,Op.shift,h3,IntKind.bits],Asn.int (by
    have h4:=inR64.1 (hx.atInt hc).2;have hp:(0:Int)< 2 ^ min n.toNat 64:=Int.pow_pos (by decide);rw [Int.fdiv_eq_ediv_of_nonneg _ (Int.le_of_lt hp)];exact inR64.2 ⟨Int.le_trans (by decide) (Int.ediv_nonneg h0.2 (Int.le_of_lt hp)),Int.le_trans (Int.ediv_le_self _ h0.2) h4.2⟩)⟩
 .cases h
end
theorem OpR.makeSlice{α:Type}{t:Ty α}{z:α}{xs:List α}{n:Int}{x y:Operand}{T E:TypeId}(key:Nat)(h:makeC z n=some xs)(hT:P.underlying T=some (.slice E))(hE:ElAt P E t)(hz:oF P E t z)(hx:Opd env x ((tI .i64).is n):=by exact .tmp rfl)(hy:Opd env y ((tI .i64).is n):=by exact .tmp rfl) :
  OpR P ⟨d,.makeSlice T x y,ty,pos,aft,gd⟩ env res [] (λk:Tok=>tO t k xs) (λk=>[(key,Own t E k xs.length)]):=by
 intro a g K Q hc hd hK;unfold makeC at h;split at h
 case isFalse=>cases h
 rename_i hn;cases h;obtain ⟨i,z0,r1,r2,r3,r4,r5⟩:=hE.row;obtain ⟨v,hv,hzr⟩:=hz.zero;have hvz:v=z0:=by
  have:=hv g.w;simp [zeroValue,typeInfo,r1,r2] at this;exact this.symm
 subst hvz;obtain ⟨cs0,hcs0,hv0⟩:=hzr g;have hvc:v.cells=cs0.toArray:=by rw [hv0];exact t.cells hcs0
 have hl0:=t.len hcs0;have hbytes:(i.bytes:Int)*n<=281474976710656:=by
  have h1:(i.bytes:Int)*n<=512*n:=Int.mul_le_mul_of_nonneg_right (by omega) hn.1;omega
 have hx1:=(hx.atInt hc).1;have hy1:=(hy.atInt hc).1;have hmk:Cells t g (madeCells v.cells (n.toNat*i.size)).toList (List.replicate n.toNat z):=by
  unfold madeCells;rw [hvc,r3,<-hl0,rX];exact Cells.replicate hcs0 n.toNat
 have hrun:=run_make (P:=P) g.w T E i v hT r1 r2 .i64 .i64 n n hn.1 (Int.le_refl _) hbytes (by omega);unfold Oper.wp execOp;simp only [Sem.run_bind,hx1,hy1,hrun,Result.andThen_ok,Sem.run_pure];let g':G:=g.alloc (.cells (madeCells v.cells (n.toNat*i.size)) E) (n.toNat*t.size);have e:Ext No g g':=Ext.alloc No _ _ _;have hheap:g'.w.heap[g.w.heap.size]? =some (.cells (madeCells v.cells (n.toNat*i.size)) E (0,0)):=heap_alloc_new g.w _;have hcl:(madeCells v.cells (n.toNat*i.size)).size=n.toNat*t.size:=by rw [size_madeCells,r3]
 have hnlim:n.toNat<=lim:=by unfold lim;omega
 refine hK (some (g.w.heap.size,n.toNat)) (.slice (some ⟨g.w.heap.size,0,none⟩) n.toNat n.toNat) g' e.no ?_ ?_ (List.pairwise_singleton _ _) ?_
 .refine ⟨by simp [Tok.addr,Tok.cap],by simp [Tok.cap],by simpa using hnlim,?_⟩;show Row t g' (some ⟨g.w.heap.size,0,none⟩) (List.replicate n.toNat z);refine (hmk.mono e).row λj v hj=>⟨?_,?_⟩
  .show 0+j<(if g.w.heap.size=g.w.heap.size then _ else _);rw [if_pos rfl];have:=(List.getElem?_eq_some_iff.1 hj).1;simp [size_madeCells,r3] at this;omega
  .rw [cell_of_row _ _ _ _ _ _ hheap,Nat.zero_add];simpa using hj
 .intro y hy;rw [List.mem_singleton.1 hy];refine ⟨_,hheap,hcl,by simp,by unfold maxLen;unfold lim at hnlim;omega,?_⟩;show (if g.w.heap.size=g.w.heap.size then _ else _)=_;rw [if_pos rfl];simp
 .rintro b ⟨y,hy,hb⟩;rw [List.mem_singleton.1 hy] at hb;simp [Own] at hb;exact .inr (by omega)
end
end Go.Dec
/-
  Loose slices that are cut behind, that are looked at by a call; bytes of a string that are written.
-/
namespace Go.Dec
open Go
section
variable {P:Program} {env:Env} {res:Rs} {d:Option Tmp} {ty:TypeId} {pos:String} {aft:Array Edge} {gd:Option (Nat×Bool)}
theorem OpR.Vz{α β:Type}{t:Ty α}{r:Ty β}(hF:Flat t)(hR:Flat r){E:TypeId}{f:FuncId}{n:Nat}{xs:List Operand}{ats:Array TypeId}{As:List Asn}{y:β}{k:Tok}{l:List α}{key:Nat}
  (hcall:∀ az w,(callFunc f az).run P w= .ok (.enter f az) w) (hf:FSpec P f As (r.is y)) (hs:look n env=some (tU k l.length)) (hx:Opds ((n,tO t k l) :: env) xs As)
  (hr:res.pick [key]= [(key,OwnU t E k l)]) :
  OpR P ⟨d,.call ⟨.value (.func f),xs.toArray,ats⟩,ty,pos,aft,gd⟩ env res [key] (λ_:Unit=>r.is y) (λ_=>[(key,OwnU t E k l)]):=by
 intro a g K Q hc hd hK;have hres:(OwnU t E k l).holds g:=hc.hres _ (zb hr);obtain ⟨e1,hown,hrow⟩:=OwnU.fixd hres;have h1:=Op1.call (P:=P) (env:=(n,tO t k l) :: env) (res:=[]) (d:=d) (ty:=ty) (pos:=pos) (aft:=aft) (gd:=gd) (ats:=ats) hcall hf hx;refine h1 a (g.fixd k (l.length*t.size)) K Q ⟨F7 hs hres hc.henv,λy hy=>by cases hy⟩ ?_;intro v g1 e2 hv;have e3:Ext (res.pick [key]).blks g g1:=(e1.mono λb hb=>(nX hr b).2 hb).trans e2 λ_ _ h=>h.elim;have hk':∀ b,k.map Prod.fst=some b->((res.pick [key]).blks b/\g.S b=0)\/g.w.heap.size<=b:=λb hb=>.inl ⟨(nX hr b).2 hb,OwnU.zero hres hb⟩;have hown1:(Own t E k l.length).holds g1:=(Own t E k l.length).stay e2 (λ_ _ h=>h.elim) hown;have hrow1:Row t g1 k.addr l:=hrow.mono e2;refine hK () v (g1.fixd k 0) (e3.loose hk') (let ⟨cs,q1,q2⟩:=hv;⟨cs,hR _ _ _ _ q1,q2⟩) (λy hy=>?_) (List.pairwise_singleton _ _) (λb hb=>.inl (by rw [hr];exact hb));rw [List.mem_singleton.1 hy];exact OwnU.loose hF hown1 hrow1
end
end Go.Dec
/-
  A tree that grows along its last branch: in the slice of each level the last element may still be written; those ahead of it are sealed.
-/
namespace Go.Dec
open Go
end Go.Dec
/-
  Maps whose pairs are known in any order (no key twice), and ranging over them.
-/
namespace Go.Dec
open Go
variable {T:TypeId}{clock:Nat}{e:TypeId}{es:Array MapEntry}{k:TypeId}{α β:Type}{tk:Ty α}{tv:Ty β}{x y:Operand}
section
variable {α β:Type} [DecidableEq α]
theorem LF{m m':List (α×β)}(h:m.Perm m')(hn:(m.map Prod.fst).Nodup)(x:α)(z:β):mget m x z=mget m' x z:=by
 induction h with
 | nil=>rfl
 | cons p h ih=>
  rw [List.map_cons,List.nodup_cons] at hn;simp only [mget];rw [ih hn.2]
 | swap p q l=>
  simp only [List.map_cons,List.nodup_cons,List.mem_cons,not_or] at hn;simp only [mget];by_cases h1:x=p.1
  .by_cases h2:x=q.1
   .exact absurd (h2.symm.trans h1) hn.1.1
   .rw [if_pos h1,if_neg h2,if_pos h1]
  .by_cases h2:x=q.1
   .rw [if_pos h2,if_neg h1,if_pos h2]
   .rw [if_neg h2,if_neg h1,if_neg h1,if_neg h2]
 | trans h k ih1 ih2=>rw [ih1 hn,ih2 ((h.map Prod.fst).nodup_iff.1 hn)]
theorem BQ(x:α):∀ m:List (α×β),mhas m x=true ↔ x∈m.map Prod.fst
 | []=>by simp [mhas]
 | p :: m=>by
  simp only [mhas,List.map_cons,List.mem_cons];by_cases h:x=p.1
  .simp [h]
  .rw [if_neg h,BQ x m];simp [h]
theorem DF{m m':List (α×β)}(h:m.Perm m')(x:α):mhas m x=mhas m' x:=by
 rw [Bool.eq_iff_iff,BQ,BQ];exact (h.map Prod.fst).mem_iff
theorem BR{x:α}{v:β}:∀ {m:List (α×β)},mhas m x=false->mset m x v=m++ [(x,v)]
 | [],_=>rfl
 | p :: m,h=>by
  simp only [mhas] at h;by_cases hp:x=p.1
  .rw [if_pos hp] at h;cases h
  .rw [if_neg hp] at h;simp only [mset,if_neg hp,BR h,List.cons_append]
theorem BS{x:α}{v:β}:∀ {m:List (α×β)},mhas m x=true->(m.map Prod.fst).Nodup->(mset m x v).Perm ((x,v) :: m.filter λp=>p.1≠x)
 | [],h,_=>by simp [mhas] at h
 | p :: m,h,hn=>by
  rw [List.map_cons,List.nodup_cons] at hn;simp only [mhas] at h;by_cases hp:x=p.1
  .simp only [mset,if_pos hp];have:(p :: m).filter (λq=>q.1≠x)=m:=by rw [List.filter_cons_of_neg (by simp [hp]),List.filter_eq_self.2];intro q hq;simp only [ne_eq,decide_not,Bool.not_eq_eq_eq_not,Bool.not_true,decide_eq_false_iff_not];intro e;exact hn.1 (by rw [<-hp,<-e];exact List.mem_map_of_mem hq)
   rw [this]
  .rw [if_neg hp] at h;simp only [mset,if_neg hp];have e:(p :: m).filter (λq=>q.1≠x)=p :: m.filter λq=>q.1≠x:=List.filter_cons_of_pos (by simpa using λe=>hp e.symm);rw [e];exact ((BS h hn.2).cons p).trans (List.Perm.swap _ _ _)
theorem LG{m m':List (α×β)}(h:m.Perm m')(hn:(m.map Prod.fst).Nodup)(x:α)(v:β):(mset m x v).Perm (mset m' x v):=by
 have hn':=(h.map Prod.fst).nodup_iff.1 hn;have hh:=DF h x;cases hx:mhas m x with
 | false=>rw [BR hx,BR (hh▸hx)];exact h.append_right _
 | true=>exact (BS hx hn).trans (((h.filter _).cons _).trans (BS (hh▸hx) hn').symm)
theorem DI(x:α)(v:β):∀ m:List (α×β),(m.map Prod.fst).Nodup->((mset m x v).map Prod.fst).Nodup/\ ∀ y,y∈(mset m x v).map Prod.fst->y=x\/y∈m.map Prod.fst
 | [],_=>by simp [mset]
 | p :: m,hn=>by
  rw [List.map_cons,List.nodup_cons] at hn;by_cases hp:x=p.1
  .simp only [mset,if_pos hp,List.map_cons,List.nodup_cons];refine ⟨⟨by rw [hp];exact hn.1,hn.2⟩,λy hy=>?_⟩;rcases List.mem_cons.1 hy with h | h
   .exact .inl h
   .exact .inr (List.mem_cons_of_mem _ h)
  .obtain ⟨h1,h2⟩:=DI x v m hn.2;simp only [mset,if_neg hp,List.map_cons,List.nodup_cons];refine ⟨⟨λh=>?_,h1⟩,λy hy=>?_⟩
   .rcases h2 _ h with e | e
    .exact hp e.symm
    .exact hn.1 e
   .rcases List.mem_cons.1 hy with e | e
    .exact .inr (by rw [e];exact List.mem_cons_self)
    .exact (h2 y e).imp id (List.mem_cons_of_mem _)
end
def Born(es:Array MapEntry)(clock:Nat):Prop:=(∀ x∈es.toList,x.born<clock)/\(es.toList.map (·.born)).Nodup
def EntsQ{α β:Type}(tk:Ty α)(tv:Ty β)(g:G)(es:Array MapEntry)(clock:Nat)(m:List (α×β)):Prop:=
 Born es clock/\ ∃ m',m'.Perm m/\(m'.map Prod.fst).Nodup/\Ents tk tv g es.toList m'
theorem EntsQ.mono{T:Nat->Prop}{g g':G}(e:Ext T g g'){m:List (α×β)}(h:EntsQ tk tv g es clock m):EntsQ tk tv g' es clock m:=
 ⟨h.1,let ⟨m',h1,h2,h3⟩:=h.2;⟨m',h1,h2,h3.mono e⟩⟩
theorem EntsQ.len{g:G}{m:List (α×β)}(h:EntsQ tk tv g es clock m):es.size=m.length:=by
 obtain ⟨_,m',h1,_,h3⟩:=h;have:=h3.len;rw [Array.length_toList] at this;rw [this,h1.length_eq]
def Mq{α β:Type}(tk:Ty α)(tv:Ty β)(m:List (α×β))(b:Nat):Res where
 blk:=λx=>some b=some x
 holds:=λg=>∃ es clock,g.w.heap[b]? =some (.map es clock)/\g.S b=0/\EntsQ tk tv g es clock m
 stay:=λ{T g g'} e hn ⟨es,c,h1,h0,h2⟩=>by
  have hlt:=(Array.getElem?_eq_some_iff.1 h1).1;have:=e.same b hlt (hn b rfl);exact ⟨es,c,this.1.trans h1,this.2.trans h0,h2.mono e⟩
 lt:=λ{g b'} ⟨es,c,h1,_⟩ hb=>by
  cases hb;exact (Array.getElem?_eq_some_iff.1 h1).1
def Gq{α β:Type}(tk:Ty α)(tv:Ty β)(m:List (α×β))(b:Nat):Res where
 blk:=λ_=>False
 holds:=λg=>∃ es k,g.Full b (.inr (es,k))/\EntsQ tk tv g es k m
 stay:=λe _ ⟨es,k,h1,h2⟩=>⟨es,k,e.rows _ _ h1,h2.mono e⟩
 lt:=λ_ h=>h.elim
def tQ{α β:Type}(tk:Ty α)(tv:Ty β):Ty (List (α×β)) where
 size:=1
 agg:=false
 rep:=λg cs m=>(cs= [.map none]/\m= [])\/ ∃ b es k,cs= [.map (some b)]/\g.Full b (.inr (es,k))/\EntsQ tk tv g es k m
 len:=by rintro g cs x (⟨rfl,_⟩ | ⟨b,es,k,rfl,_⟩)<;> rfl
 one:=by
  rintro g cs x (⟨rfl,_⟩ | ⟨b,es,k,rfl,_⟩) c hc
  .rw [List.mem_singleton.1 hc];rfl
  .rw [List.mem_singleton.1 hc];rfl
 mono:=by
  rintro T g g' cs x e (h | ⟨b,es,k,h1,h2,h3⟩)
  .exact .inl h
  .exact .inr ⟨b,es,k,h1,e.rows _ _ h2,h3.mono e⟩
 sing:=λ_=>rfl
theorem Gq.tQ{m:List (α×β)}{b:Nat}{v:Value}{g:G}(h:(Gq tk tv m b).holds g)(hv:(Mv b).holds v g):((tQ tk tv).is m).holds v g:=by
 obtain ⟨es,k,h1,h2⟩:=h;exact ⟨[.map (some b)],.inr ⟨b,es,k,rfl,h1,h2⟩,hv⟩
section
variable {P:Program} {N:Nat} {g0:G} {T0:Nat->Prop} {env:Env} {res:Rs} {d:Option Tmp} {ty:TypeId} {pos:String} {aft:Array Edge} {gd:Option (Nat×Bool)} {α β:Type} {tk:Ty α} {tv:Ty β}
theorem OpR.makeMapQ(tk:Ty α)(tv:Ty β)(key:Nat):OpR P ⟨d,.makeMap T none,ty,pos,aft,gd⟩ env res [] (λb:Nat=>Mv b) (λb=>[(key,Mq tk tv [] b)]):=by
 intro a g K Q hc hd hK;have hrun:(execOp a.eval ⟨d,.makeMap T none,ty,pos,aft,gd⟩).run P g.w= .ok (.value (.map (some g.w.heap.size))) (g.alloc (.map #[] 0) 0).w:=by simp [execOp,Instr.makeMap,G.alloc]
 show Oper.upon P _ a K Q ((execOp a.eval _).run P g.w);rw [hrun];refine hK g.w.heap.size _ (g.alloc (.map #[] 0) 0) (Ext.alloc _ _ _ _) rfl (λy hy=>?_) (List.pairwise_singleton _ _) (λb hb=>.inr (by rw [(iA rfl).1 hb];exact Nat.le_refl _));rw [List.mem_singleton.1 hy];exact ⟨#[],0,heap_alloc_new g.w _,by show (if g.w.heap.size=g.w.heap.size then 0 else _)=0;rw [if_pos rfl],⟨(λx hx=>by cases hx),List.nodup_nil⟩,[],List.Perm.refl _,List.nodup_nil,trivial⟩
theorem Op1.VV{m:List (α×β)}{b:Nat}(key:Nat)(hT:P.underlying T=some (.map k e))(hr:findR key res=some (Mq tk tv m b))(hx:Opd env x (Mv b))(hl:m.length<=lim) :
  Op1 P ⟨d,.call ⟨.builtin .len,#[x],#[T]⟩,ty,pos,aft,gd⟩ env res ((tI .i64).is (m.length:Int)):=
 Op1.same λa g hc=>by
  obtain ⟨es,clock,h1,_,h2⟩:=hc.hres _ (fO hr);have hv:a.eval x= .map (some b):=hx a g hc.henv;have hl2:=h2.len;refine ⟨.int .i64 (es.size:Int),by simp [execOp,resolve,invoke,builtin,Builtin.len_,Builtin.lenOf,run_underlying hT,hv,MapKept.run_getObj_map h1,goInt],?_⟩;rw [hl2];exact Asn.int (inR64.2 (by unfold lim at hl;omega))
theorem findQ[DecidableEq α]{e:TypeId}(hk:KeyT P k tk){g:G}{m:List (α×β)}(h:EntsQ tk tv g es clock m){u:α}{z:β}{cs:List Value}(hu:tk.rep g cs u)(w:World) :
  ((Instr.findKey k (mkVal tk.agg cs) es.toList).run P w= .ok none w/\mget m u z=z/\mhas m u=false)\/
  ∃ (i:Nat) (en:MapEntry),(Instr.findKey k (mkVal tk.agg cs) es.toList).run P w= .ok (some (i,en.val)) w/\(tv.is (mget m u z)).holds en.val g/\mhas m u=true:=by
 obtain ⟨_,m',h1,h2,h3⟩:=h;have hf:=hk.find hu h3 w;rw [<-LF h1 h2 u z,<-DF h1 u];rcases BO (tk:=tk) (tv:=tv) (g:=g) u z z es.toList m' 0 h3 with ⟨k1,k2,k5,_⟩ | ⟨j,en,k1,k2,k3,k4,k5,_⟩
 .rw [k1] at hf;exact .inl ⟨hf,k2,k5⟩
 .rw [k1] at hf;exact .inr ⟨_,en,hf,k4,k5⟩
theorem Op1.QX[DecidableEq α]{m:List (α×β)}{z:β}{u:α}{b:Nat}(key:Nat)(hT:P.underlying T=some (.map k e))(hk:KeyT P k tk)(hz:oF P e tv z)(hr:findR key res=some (Mq tk tv m b))(hx:Opd env x (Mv b):=by exact .tmp rfl)(hy:Opd env y (tk.is u):=by exact .tmp rfl) :
  Op1 P ⟨d,.lookup T x y false,ty,pos,aft,gd⟩ env res (tv.is (mget m u z)):=
 Op1.same λa g hc=>by
  obtain ⟨es,clock,h1,_,h2⟩:=hc.hres _ (fO hr);have hv:a.eval x= .map (some b):=hx a g hc.henv;obtain ⟨cs,hu,hyv⟩:=hy a g hc.henv;obtain ⟨zv,hz1,hz2⟩:=hz.zero;have hck:=hk.chk hu es.isEmpty g.w;rcases findQ (e:=e) hk h2 (z:=z) hu g.w with ⟨hf,k2,_⟩ | ⟨i,en,hf,k4,_⟩
  .refine ⟨zv,by simp [execOp,hv,hyv,Instr.lookup,run_underlying hT,MapKept.run_getObj_map h1,hck,hf,hz1],?_⟩;rw [k2];exact hz2 g
  .exact ⟨en.val,by simp [execOp,hv,hyv,Instr.lookup,run_underlying hT,MapKept.run_getObj_map h1,hck,hf],k4⟩
theorem Op1.I5[DecidableEq α]{m:List (α×β)}{z:β}{u:α}(hT:P.underlying T=some (.map k e))(hk:KeyT P k tk)(hz:oF P e tv z)(hx:Opd env x ((tQ tk tv).is m):=by exact .tmp rfl)(hy:Opd env y (tk.is u):=by exact .tmp rfl) :
  Op1 P ⟨d,.lookup T x y true,ty,pos,aft,gd⟩ env res (Asn.tuple2 (tv.is (mget m u z)) (tB.is (mhas m u))):=
 Op1.same λa g hc=>by
  obtain ⟨ms,hm,hv⟩:=hx a g hc.henv;obtain ⟨cs,hu,hyv⟩:=hy a g hc.henv;obtain ⟨zv,hz1,hz2⟩:=hz.zero;rcases hm with ⟨rfl,rfl⟩ | ⟨b,es,clock,rfl,hF,h2⟩
  .have hv:a.eval x= .map none:=hv;have hck:=hk.chk hu true g.w;have hf:=hk.find (es:=[]) (m:=[]) (tv:=tv) hu trivial g.w;have hf':(Instr.findKey k (mkVal tk.agg cs) []).run P g.w= .ok none g.w:=hf;exact ⟨.tuple #[zv,.bool false],by simp [execOp,hv,hyv,Instr.lookup,run_underlying hT,hck,hf',hz1],zv,.bool false,rfl,hz2 g,_,rfl,rfl⟩
  .have hv:a.eval x= .map (some b):=hv;have h1:=hF.map;have hck:=hk.chk hu es.isEmpty g.w;rcases findQ (e:=e) hk h2 (z:=z) hu g.w with ⟨hf,k2,k5⟩ | ⟨i,en,hf,k4,k5⟩
   .refine ⟨.tuple #[zv,.bool false],by simp [execOp,hv,hyv,Instr.lookup,run_underlying hT,MapKept.run_getObj_map h1,hck,hf,hz1],zv,.bool false,rfl,?_,?_⟩
    .rw [k2];exact hz2 g
    .rw [k5];exact ⟨_,rfl,rfl⟩
   .exact ⟨.tuple #[en.val,.bool true],by simp [execOp,hv,hyv,Instr.lookup,run_underlying hT,MapKept.run_getObj_map h1,hck,hf],en.val,.bool true,rfl,k4,by rw [k5];exact ⟨_,rfl,rfl⟩⟩
theorem OpR.mapUpdateQ[DecidableEq α]{m:List (α×β)}{u:α}{v:β}{b:Nat}{z:Operand}(key:Nat)(hT:P.underlying T=some (.map k e))(hk:KeyT P k tk)(hr:res.pick [key]= [(key,Mq tk tv m b)])(hx:Opd env x (Mv b):=by exact .tmp rfl)(hy:Opd env y (tk.is u):=by exact .tmp rfl)(hz:Opd env z (tv.is v):=by exact .tmp rfl) :
  OpR P ⟨none,.mapUpdate T x y z,ty,pos,aft,gd⟩ env res [key] (λ_:Unit=>Asn.any) (λ_=>[(key,Mq tk tv (mset m u v) b)]):=by
 intro a g K Q hc hd hK;have hin:(key,Mq tk tv m b)∈res:=by
  have:(key,Mq tk tv m b)∈res.pick [key]:=by rw [hr];exact List.mem_singleton.2 rfl
  exact (List.mem_filter.1 this).1
 obtain ⟨es,clock,h1,h0,hborn,m',hp,hn,h2⟩:=hc.hres _ hin;have hv:a.eval x= .map (some b):=hx a g hc.henv;have hyk:=hy a g hc.henv;obtain ⟨cs,hu,hyv⟩:=hyk;have hzv:=hz a g hc.henv;have hck:=hk.chk hu false g.w;have hf:=hk.find hu h2 g.w;have hlt:=(Array.getElem?_eq_some_iff.1 h1).1
 -- what follows from the block's new contents
 have fin:∀ (w':World) (es':Array MapEntry) (c':Nat),(∀ (w0:World),(w0=g.w\/w0=g.w.drew)->w'= {w0 with heap:=w0.heap.setIfInBounds b (.map es' c')}->(execOp a.eval ⟨none,.mapUpdate T x y z,ty,pos,aft,gd⟩).run P g.w= .ok .skip w'->Born es' c'->Ents tk tv g es'.toList (mset m' u v)->
   Oper.wp P ⟨none,.mapUpdate T x y z,ty,pos,aft,gd⟩ a g.w K Q):=by
  intro w' es' c' w0 hw0 hw' hrun hB hE;have hos:w0.os=g.w.os/\w0.tape=g.w.tape/\w0.output=g.w.output/\w0.heap=g.w.heap:=by rcases hw0 with rfl | rfl<;> exact ⟨rfl,rfl,rfl,rfl⟩
  obtain ⟨o1,o2,o3,o4⟩:=hos;have hheap:w'.heap=g.w.heap.setIfInBounds b (.map es' c'):=by rw [hw',<-o4]
  have e:Ext (· =b) g ⟨w',g.S⟩:=by
   refine yC g.S (by rw [hw'];exact o1) (by rw [hw'];exact o2) (by rw [hw'];exact o3) (by rw [hheap];simp) (λx' _ hne=>⟨?_,rfl⟩) (λx' hx'=>by rw [show x'=b from hx'];exact h0);rw [hheap];simp [Array.getElem?_setIfInBounds,Ne.symm hne]
  show Oper.upon P _ a K Q ((execOp a.eval _).run P g.w);rw [hrun];refine hK () undef ⟨w',g.S⟩ (e.mono (λx hx=>by rw [hr];exact (iA rfl).2 hx)) trivial (λy hy=>?_) (List.pairwise_singleton _ _) (λb' hb'=>.inl (by rw [hr];exact (iA rfl).2 ((iA rfl).1 hb')));rw [List.mem_singleton.1 hy];refine ⟨es',c',?_,h0,hB,mset m' u v,LG hp hn u v,(DI u v m' hn).1,hE.mono e⟩;show w'.heap[b]? =_;rw [hheap];simp [hlt]
 have hmod:∀ (j:Nat) (f:MapEntry->MapEntry),(∀ e,(f e).born=e.born)->Born (es.modify j f) clock:=by
  intro j f hfb;have e1:(es.modify j f).toList.map (·.born)=es.toList.map (·.born):=by
   rw [Array.toList_modify];generalize es.toList=l;induction l generalizing j with
   | nil=>simp
   | cons a l ih=>
    cases j with
    | zero=>simp [hfb]
    | succ j=>simp only [List.modify_succ_cons,List.map_cons,ih]
  refine ⟨λx hx=>?_,by rw [e1];exact hborn.2⟩;have:x.born∈(es.modify j f).toList.map (·.born):=List.mem_map_of_mem hx;rw [e1] at this;obtain ⟨y,hy,he⟩:=List.mem_map.1 this;rw [<-he];exact hborn.1 y hy
 rcases BO (tk:=tk) (tv:=tv) (g:=g) u v v es.toList m' 0 h2 with ⟨k1,_,_,k4⟩ | ⟨j,en,k1,k2,k3,_,_,k6⟩
 .rw [k1] at hf;refine fin _ (es.push ⟨mkVal tk.agg cs,a.eval z,clock⟩) (clock+1) g.w (.inl rfl) rfl ?_ ?_ ?_
  .simp [execOp,hv,hyv,Instr.mapUpdate,run_underlying hT,MapKept.run_getObj_map h1,hck,hf,MapKept.run_setObj_map _ h1]
  .refine ⟨λx hx=>?_,?_⟩
   .rw [Array.toList_push] at hx;rcases List.mem_append.1 hx with hx | hx
    .have:=hborn.1 x hx;omega
    .rw [List.mem_singleton.1 hx];exact Nat.lt_succ_self _
   .rw [Array.toList_push,List.map_append,List.nodup_append];refine ⟨hborn.2,by simp,λa ha c hc=>?_⟩;obtain ⟨y,hy,rfl⟩:=List.mem_map.1 ha;have h3:c=clock:=by simpa using hc
    rw [h3];have:=hborn.1 y hy;omega
  .rw [k4,Array.toList_push];exact Ents.append (p:=(u,v)) ⟨cs,hu,rfl⟩ hzv h2
 .rw [k1,Nat.zero_add] at hf;have hej:es[j]? =some en:=by simpa using k2
  by_cases hs:Instr.sameBits 10000 en.key (mkVal tk.agg cs)=true
  .refine fin _ (es.modify j (λe=>{e with key:=mkVal tk.agg cs,val:=a.eval z})) clock g.w (.inl rfl) rfl ?_ (hmod _ _ (λ_=>rfl)) ?_
   .simp [execOp,hv,hyv,Instr.mapUpdate,run_underlying hT,MapKept.run_getObj_map h1,hck,hf,hej,Instr.keyThatStays,hs,MapKept.run_setObj_map _ h1]
   .rw [Array.toList_modify];exact k6 _ _ ⟨cs,hu,rfl⟩ hzv
  .have h1':g.w.drew.heap[b]? =some (.map es clock):=h1;by_cases hq:(Question.extern "map.whichKeyStays" 2).cut (g.w.tape g.w.drawn (.extern "map.whichKeyStays" 2))=0
   .refine fin _ (es.modify j (λe=>{e with key:=mkVal tk.agg cs,val:=a.eval z})) clock g.w.drew (.inr rfl) rfl ?_ (hmod _ _ (λ_=>rfl)) ?_
    .simp [execOp,hv,hyv,Instr.mapUpdate,run_underlying hT,MapKept.run_getObj_map h1,hck,hf,hej,Instr.keyThatStays,hs,hq,MapKept.run_setObj_map _ h1',Question.forced]
    .rw [Array.toList_modify];exact k6 _ _ ⟨cs,hu,rfl⟩ hzv
   .refine fin _ (es.modify j (λe=>{e with key:=en.key,val:=a.eval z})) clock g.w.drew (.inr rfl) rfl ?_ (hmod _ _ (λ_=>rfl)) ?_
    .simp [execOp,hv,hyv,Instr.mapUpdate,run_underlying hT,MapKept.run_getObj_map h1,hck,hf,hej,Instr.keyThatStays,hs,hq,MapKept.run_setObj_map _ h1',Question.forced]
    .rw [Array.toList_modify];exact k6 _ _ k3 hzv
theorem OpR.insertQ[DecidableEq α]{m:List (α×β)}{u:α}{v:β}{b:Nat}{z:Operand}(key:Nat)(hT:P.underlying T=some (.map k e))(hk:KeyT P k tk)(hr:res.pick [key]= [(key,Mq tk tv m b)])(hx:Opd env x (Mv b):=by exact .tmp rfl)(hy:Opd env y (tk.is u):=by exact .tmp rfl)(hz:Opd env z (tv.is v):=by exact .tmp rfl) :
  OpR P ⟨none,.insert T x y z,ty,pos,aft,gd⟩ env res [key] (λ_:Unit=>Asn.any) (λ_=>[(key,Mq tk tv (mset m u v) b)]):=by
 intro a g K Q hc hd hK;exact OpR.mapUpdateQ (P:=P) (pos:=pos) (aft:=aft) (gd:=gd) (ty:=ty) key hT hk hr hx hy hz a g K Q hc hd hK
theorem St.sealQ{m:List (α×β)}{key b:Nat}(hr:findR key res=some (Mq tk tv m b)){a:Act}{g:G}(h:St N g0 T0 env res a g) :
  ∃ g',g'.w=g.w/\St N g0 T0 env ((key,Gq tk tv m b) :: res.drop [key]) a g':=by
 have hin:=fO hr;obtain ⟨es,clock,h1,h5,h2⟩:=h.hres _ hin;have e:Ext (· =b) g ⟨g.w,λx=>if x=b then 1 else g.S x⟩:=by
  refine ⟨rfl,rfl,rfl,Nat.le_refl _,λx _ hn=>⟨rfl,?_⟩,λx i v hv=>⟨?_,hv.2⟩,λx n hv=>?_⟩
  .show (if x=b then _ else _)=_;rw [if_neg hn]
  .show i<(if x=b then _ else _);by_cases hx:x=b
   .subst hx;have:=hv.1;omega
   .rw [if_neg hx];exact hv.1
  .by_cases hx:x=b
   .subst hx;exact (hv.pos h5).elim
   .refine hv.same rfl ?_;show g.S x<=if x=b then _ else _;rw [if_neg hx];exact Nat.le_refl _
 have hfull:(⟨g.w,λx=>if x=b then 1 else g.S x⟩:G).Full b (.inr (es,clock)):=by
  refine ⟨?_,?_,Nat.one_pos⟩
  .show rowN g.w b=_;unfold rowN;rw [h1];rfl
  .show 1<=if b=b then 1 else g.S b;rw [if_pos rfl];exact Nat.le_refl _
 refine ⟨⟨g.w,λx=>if x=b then 1 else g.S x⟩,rfl,h.sz,h.dfr,λs A hA=>A.mono e (h.henv s A hA),λy hy=>?_,?_,λb' ⟨y,hy,hb⟩=>?_,?_⟩
 .rcases List.mem_cons.1 hy with rfl | hy
  .exact ⟨es,clock,hfull,h2.mono e⟩
  .have hy':=List.mem_filter.1 hy;refine y.2.stay e (λb' hb' hT=>?_) (h.hres y hy'.1);rw [show b'=b from hT] at hb';exact h.dis.split [key] b ⟨y,hy,hb'⟩ ⟨(key,Mq tk tv m b),List.mem_filter.2 ⟨hin,by simp [memB]⟩,rfl⟩
 .refine List.pairwise_cons.2 ⟨λy _ b' hb'=>hb'.elim,h.dis.filter _⟩
 .rcases List.mem_cons.1 hy with rfl | hy
  .exact hb.elim
  .exact h.own b' ⟨y,(List.mem_filter.1 hy).1,hb⟩
 .refine h.ext.trans e (λx hx hxb=>?_);rcases h.own b ⟨_,hin,rfl⟩ with h' | h'
  .rw [show x=b from hxb] at hx;omega
  .rw [show x=b from hxb];exact h'
theorem W.sealQ{c:Code}{ks:List KF}{B:Exit->Act->World->Prop}{m:List (α×β)}{b:Nat}(key:Nat)(hr:findR key res=some (Mq tk tv m b))(k:W P N g0 T0 c ks B env ((key,Gq tk tv m b) :: res.drop [key])) :
  W P N g0 T0 c ks B env res:=λa g h=>by
 obtain ⟨g',hw,h'⟩:=h.sealQ hr;rw [<-hw];exact k a g' h'
theorem mapQ{m:List (α×β)}{b key:Nat}(hr:findR key res=some (Gq tk tv m b)):∀ v g,res.all g->(Mv b).holds v g->((tQ tk tv).is m).holds v g:=λv g h hv=>Gq.tQ (h _ (fO hr)) hv
end
section
variable {P:Program} {N:Nat} {g0:G} {T0:Nat->Prop} {env:Env} {res:Rs} {α β:Type} {tk:Ty α} {tv:Ty β}
theorem WN.addNil{ks:List KF}{B:Exit->Act->World->Prop}{α:Type}{t:Ty α}{E:TypeId}(key:Nat)(h:WN P N g0 T0 ks B env ((key,Own t E none 0) :: res)):WN P N g0 T0 ks B env res:=λa g hs=>h a g (hs.addNil key)
end
theorem NQ{k:Tok}{n n':Nat}(h:n=n'){v:Value}{g:G}(hA:(tU k n).holds v g):(tU k n').holds v g:=h▸hA
end Go.Dec
/-
  Shorter rules for printed walks: what Lean finds by itself is not printed.
-/
namespace Go.Dec
open Go
section
variable {P:Program} {N:Nat} {g0:G} {T0:Nat->Prop} {ks:List KF} {B:Exit->Act->World->Prop} {env:Env} {res:Rs} {ops:Array Oper} {Q:Exit->Act->World->Prop} {rest:List Oper}
end
section
variable {P:Program} {N:Nat} {g0:G} {T0:Nat->Prop} {ks:List KF} {B:Exit->Act->World->Prop} {env:Env} {res:Rs}
end
section
variable {P:Program} {N:Nat} {g0:G} {ks:List KF} {env:Env} {res rin:Rs} {fn:Func} {A:Unit->Asn} {out:Unit->Rs}
theorem W.e1{t:Tmp}(hr:fn.results= #[.tmp t]:=by exact rfl)(h:Opd env (.tmp t) (A ()):=by exact .tmp rfl)(hs:RSub (out ()) res:=by repeat' first | exact trivial | refine ⟨rfl,rfl,?_⟩):W P N g0 rin.blks .ret ks (Bo P fn g0 rin A out) env res:=W.ret1 () hr h hs
end
end Go.Dec
/-
  Function values that turn what a pointer points to: a struct one of whose slices is the caller's own.
-/
namespace Go.Dec
open Go
end Go.Dec
/-
  Function values whose functions lean on package variables: what these hold is known when the value is made, and stays.
-/
namespace Go.Dec
open Go
theorem NoBlk.stay{rin:Rs}(hb:NoBlk rin){T:Nat->Prop}{g g':G}(e:Ext T g g')(h:rin.all g):rin.all g':=
 λy hy=>y.2.stay e (λb hbk=>by rw [hb.all y hy] at hbk;cases hbk) (h y hy)
theorem Does.ofG{P:Program}{f:FuncId}{As Cs:List Asn}{A:Asn}{cap:List Value}{g:G}{rin:Rs}{out:Unit->Rs}(h:aR P f (As++Cs) rin (λ_=>A) out)(hb:NoBlk rin)(hr:rin.all g)(hc:All2 Cs cap g):Does P As A f #[] cap.toArray g:=by
 intro T g1 e vs hvs;have:=Bq h hb (hvs.append (hc.mono e)) (hb.stay e hr);simpa using this
def gR(rin:Rs)(hb:NoBlk rin):Asn:=⟨λ_ g=>rin.all g,λe h=>hb.stay e h⟩
end Go.Dec
/-
  The builtin copy: a loose slice is overwritten whole.
-/
namespace Go.Dec
open Go
variable {E:TypeId}{k:Tok}{key:Nat}{α:Type}{x:α}{xs ys:List α}
def lu{α:Type}(t:Ty α)(x:α):Prop:=∀ g g' cs,t.rep g cs x->t.rep g' cs x
theorem lu.of{t:Ty α}(h:Flat t):lu t x:=λg g' cs=>h g g' cs x
theorem lu.pair{β:Type}{s:Ty α}{t:Ty β}{x:α×β}(h:lu s x.1)(k:lu t x.2):lu (tP s t) x:=λg g' cs ⟨c1,c2,e,h1,h2⟩=>⟨c1,c2,e,h g g' _ h1,k g g' _ h2⟩
theorem lu.one{s:Ty α}(h:lu s x):lu (tOne s) x:=h
theorem lu.map{β:Type}{t:Ty β}{m:α->β}(h:lu t (m x)):lu (tMap t m) x:=λg g' cs hx=>h g g' cs hx
theorem lu.nil{t:Ty α}:lu (tL t) []:=λg g' cs ⟨p,c,h1,h2,h3,h4,h5⟩=>⟨p,c,h1,h2,h3,h4,by
 cases p with
 | none=>exact h5
 | some a=>exact ⟨h5.1,λi x hx=>by cases hx⟩⟩
theorem lu.fix{s t:Ty α}(h:lu t x)(o:Le s t)(i:Le t s):lu s x:=λg g' cs hx=>i.rep _ _ _ (h g g' cs (o.rep _ _ _ hx))
theorem OwnU.UE{t:Ty α}(hF:∀ x∈xs,lu t x){g:G}(h:(Own t E k xs.length).holds g)(hr:Row t g k.addr xs):(OwnU t E k xs).holds (g.fixd k 0):=by
 cases k with
 | none=>exact hr
 | some p=>
  obtain ⟨cur,h1,h2,h3,h4,h5⟩:=h;have hr:Row t g (some ⟨p.1,0,none⟩) xs:=hr;obtain ⟨olds,hoc,hoh⟩:=Row.cells hr.2;have hcl:cur.toList.length=cur.size:=by simp
  have hml:=Nat.mul_le_mul_right t.size h3;have heq:olds=cur.toList.take (xs.length*t.size):=by
   apply List.ext_getElem?;intro j;by_cases hj:j<olds.length
   .have h1':=(hoh j _ (List.getElem?_eq_getElem hj)).2;rw [cell_of_row _ _ _ _ _ _ h1] at h1';rw [List.getElem?_eq_getElem hj,List.getElem?_take,if_pos (by rw [<-hoc.1];exact hj)];simpa using h1'.symm
   .rw [List.getElem?_eq_none (by omega),List.getElem?_eq_none (by rw [List.length_take,<-hoc.1,hcl];omega)]
  refine ⟨cur,h1,h2,h3,h4,if_pos rfl,?_⟩;rw [<-heq];exact ⟨hoc.1,hoc.2.1,λi x hx=>let ⟨ds,k1,k2⟩:=hoc.2.2 i x hx;⟨ds,hF x (List.mem_of_getElem? hx) _ _ _ k1,k2⟩⟩
section
variable {P:Program} {env:Env} {res:Rs} {d:Option Tmp} {ty:TypeId} {pos:String} {aft:Array Edge} {gd:Option (Nat×Bool)}
theorem NR{cs ds:List Value}(h:ds.length<=cs.length):(over cs 0 ds).take ds.length=ds:=by simp [over]
theorem OpR.copyU{t:Ty α}{T:TypeId}{s x:Operand}(hl:xs.length=ys.length)(hT:P.underlying T=some (.slice E))(hsz:∀ w,(sizeOf E).run P w= .ok t.size w)(hr:res.pick [key]= [(key,OwnU t E k xs)])
  (hs:Opd env s (tU k xs.length):=by exact .tmp rfl) (hx:Opd env x ((tL t).is ys):=by exact .tmp rfl) :
  OpR P ⟨d,.call ⟨.builtin .copy,#[s,x],#[T,T]⟩,ty,pos,aft,gd⟩ env res [key] (λ_:Unit=>Asn.any) (λ_=>[(key,OwnU t E k ys)]):=by
 intro a g K Q hc hd hK;have hres:(OwnU t E k xs).holds g:=hc.hres _ (zb hr);obtain ⟨hv,hc1,hl1⟩:=hs a g hc.henv;obtain ⟨p,c,hxv,hyc,hyl,hpn,hyrow⟩:=hx.atL hc;have run:∀ v w',(Builtin.copy_ #[T,T] ty #[a.eval s,a.eval x]).run P g.w= .ok v w'->K (a.put d v) w'->
   Oper.wp P ⟨d,.call ⟨.builtin .copy,#[s,x],#[T,T]⟩,ty,pos,aft,gd⟩ a g.w K Q:=by
  intro v w' hrun hK';unfold Oper.wp execOp;simp only [resolve,invoke,builtin,Sem.run_bind,Sem.run_pure,Result.andThen_ok,List.map_toArray,List.map_cons,List.map_nil,hrun];exact hK'
 rw [hv,hxv] at run;have hmin:Nat.min ys.length xs.length=ys.length:=by rw [hl];exact Nat.min_self _
 by_cases h0:ys= []
 .subst h0;have hx0:xs= []:=List.eq_nil_of_length_eq_zero hl;subst hx0;have hlo:∀ ad:Addr,(loadCells ad 0).run P g.w= .ok #[] g.w:=λad=>by simpa using run_loadCells_list (P:=P) g.w ad [] (by simp)
  refine run (goInt 0) g.w ?_ ?_
  .cases p<;> cases k<;> simp [Builtin.copy_,run_underlying hT,hsz,Builtin.lenOf,Builtin.firstCells,storeCells,Tok.addr,hlo]
  .exact hK () _ g (Ext.refl _ _) trivial (λy hy=>by rw [List.mem_singleton.1 hy];exact hres) (List.pairwise_singleton _ _) (λb hb=>.inl ((nX hr b).2 (let ⟨y,hy,hyb⟩:=hb;by rw [List.mem_singleton.1 hy] at hyb;exact hyb)))
 .cases p with
  | none=>exact absurd hyrow h0
  | some ad=>
   obtain ⟨hsp,hyat⟩:=hyrow
   replace hsp:ad.spot=none:=hsp.resolve_left h0
   obtain ⟨bs,os,spot⟩:=ad;simp at hsp;subst hsp;obtain ⟨news,hnc,hnh⟩:=Row.cells hyat;have hnews:∀ (j:Nat) v,news[j]? =some v->g.w.cell? ((⟨bs,os,none⟩:Addr).add j)=some v:=λj v hj=>by rw [Addr.add_lit];exact (hnh j v hj).2
   have hlo:=run_loadCells_list (P:=P) g.w ⟨bs,os,none⟩ news hnews;cases k with
   | none=>
    have hx0:xs= []:=hres;rw [hx0] at hl;exact absurd (List.eq_nil_of_length_eq_zero hl.symm) h0
   | some q=>
    obtain ⟨cur,h1,h2,h3,h4,h5,h6⟩:=hres;have hcl:cur.toList.length=q.2*t.size:=by simpa using h2
    have hm:=Nat.mul_le_mul_right t.size (show ys.length<=q.2 by omega);have hnl:news.length=ys.length*t.size:=hnc.1;have hst:=run_storeCells_at (P:=P) q.1 0 E news 0 cur g.w h1 (by simp;omega) hnc.2.1;simp only [Nat.add_zero,Nat.zero_add] at hst;have hov:cur.toList.take 0++news++cur.toList.drop news.length=over cur.toList 0 news:=by simp [over]
    rw [hov] at hst;refine run (goInt ys.length) (g.w.setRow q.1 (over cur.toList 0 news).toArray) ?_ ?_
    .have hlo':(loadCells ⟨bs,os,none⟩ (ys.length*t.size)).run P g.w= .ok news.toArray g.w:=by rw [<-hnl];exact hlo
     simp [Builtin.copy_,run_underlying hT,hsz,Builtin.lenOf,Builtin.firstCells,Tok.addr,hl,hlo',hst]
    .let g':G:=⟨g.w.setRow q.1 (over cur.toList 0 news).toArray,λx=>if x=q.1 then 0 else g.S x⟩
     have e:Ext (λx=>x=q.1) g g':=o8 h1 (by omega) (λi v hi _=>by omega) (λh=>by omega);have hheap':g'.w.heap[q.1]? =some (.cells (over cur.toList 0 news).toArray E (0,0)):=setRow_heap g.w q.1 cur _ E _ h1;refine hK () _ g' (e.mono (λx hx=>(nX hr x).2 (by rw [show x=q.1 from hx];rfl))) trivial (λy hy=>?_) (List.pairwise_singleton _ _) (λb' hb'=>.inl ((nX hr b').2 ?_))
     .rw [List.mem_singleton.1 hy];refine ⟨_,hheap',by rw [List.size_toArray,gF (cs:=cur.toList) (ds:=news) (o:=0) (by omega),hcl],by omega,h4,if_pos rfl,?_⟩;have ht:(over cur.toList 0 news).take (ys.length*t.size)=news:=by rw [<-hnl];exact NR (by omega)
      show Cells t g' ((over cur.toList 0 news).take (ys.length*t.size)) ys;rw [ht];exact hnc.mono e
     .obtain ⟨y,hy,hyb⟩:=hb';rw [List.mem_singleton.1 hy] at hyb;exact hyb
theorem OpR.copyUC{t:Ty α}{T:TypeId}{s x:Operand}{v:List α}(h:Dec.copyC xs ys=some v)(hT:P.underlying T=some (.slice E))(hsz:∀ w,(sizeOf E).run P w= .ok t.size w)(hr:res.pick [key]= [(key,OwnU t E k xs)])
  (hs:Opd env s (tU k xs.length):=by exact .tmp rfl) (hx:Opd env x ((tL t).is ys):=by exact .tmp rfl) :
  OpR P ⟨d,.call ⟨.builtin .copy,#[s,x],#[T,T]⟩,ty,pos,aft,gd⟩ env res [key] (λ_:Unit=>Asn.any) (λ_=>[(key,OwnU t E k v)]):=by
 unfold Dec.copyC at h;split at h
 .rename_i hl;cases h;exact OpR.copyU hl hT hsz hr hs hx
 .cases h
theorem sJ{v:List α}(h:Dec.copyC xs ys=some v):xs.length=v.length:=by
 unfold Dec.copyC at h;split at h
 .rename_i hl;cases h;exact hl
 .cases h
theorem OpR.QY{t:Ty α}{z:α}(hz:lu t z){o:Oper}{n:Int}(hm:makeC z n=some xs)(h:OpR P o env res [] (λk:Tok=>tO t k xs) (λk=>[(key,Own t E k xs.length)])) :
  OpR P o env res [] (λk:Tok=>tU k xs.length) (λk=>[(key,OwnU t E k xs)]):=by
 have hF:∀ x∈xs,lu t x:=by
  unfold makeC at hm;split at hm
  .cases hm;intro x hx;rw [List.eq_of_mem_replicate hx];exact hz
  .cases hm
 intro a g K Q hc hd hK;refine h a g K Q hc hd λk v g1 e hv ho _ hob=>?_;have ho':(Own t E k xs.length).holds g1:=ho _ (List.mem_singleton.2 rfl);obtain ⟨hv1,hv2,hv3,hv4⟩:=hv;have hk:∀ b,k.map Prod.fst=some b->((res.pick []).blks b/\g.S b=0)\/g.w.heap.size<=b:=λb hb=>by
  rcases hob b ⟨_,List.mem_singleton.2 rfl,hb⟩ with ⟨y,hy,_⟩ | h1
  .have:=(List.mem_filter.1 hy).2;simp [memB] at this
  .exact .inr h1
 refine hK k v (g1.fixd k 0) (e.loose hk) ⟨hv1,hv2,hv3⟩ (λy hy=>?_) (List.pairwise_singleton _ _) ?_
 .rw [List.mem_singleton.1 hy];exact OwnU.UE hF ho' hv4
 .rintro b ⟨y,hy,hb⟩;rw [List.mem_singleton.1 hy] at hb;exact (hk b hb).imp (λh=>h.1) id
end
end Go.Dec
/-
  Rows of the call's own, by their cells: copy, clear, append of themselves; loose slices in a struct's field; function values that turn such a struct.
-/
namespace Go.Dec
open Go
variable {E:TypeId}{cs:List Value}{k:Tok}{α:Type}
section
variable {P:Program}
theorem Dp{z:Array Value}(h:∀ v∈z.toList,v.oneCell'=true)(n:Nat):∀ v∈(Builtin.zeroCells z n).toList,v.oneCell'=true:=by
 intro v hv;obtain ⟨j,hj⟩:=List.getElem?_of_mem hv;rw [Array.getElem?_toList] at hj;obtain ⟨hlt,he⟩:=Array.getElem?_eq_some_iff.1 hj;rw [size_zeroCells] at hlt;have hz:0<z.size:=by
  rcases Nat.eq_zero_or_pos z.size with h0 | h0
  .rw [h0] at hlt;simp at hlt
  .exact h0
 simp only [Builtin.zeroCells,Array.getElem_ofFn] at he;have:=Nat.mod_lt j hz;rw [<-he];refine h _ ?_;simp [getElem!_pos,this]
theorem xz(w:World)(T ty E:TypeId)(sz b o dl dc sl sc:Nat)(a:Addr)(cur:Array Value)(cs:List Value)(hT:P.underlying T=some (.slice E))(hsz:∀ w,(sizeOf E).run P w= .ok sz w)
  (hb:w.heap[b]? =some (.cells cur E (0,0))) (hn:cs.length=Nat.min sl dl*sz) (hsrc:∀ (j:Nat) v,cs[j]? =some v->w.cell? (a.add j)=some v) (h1:∀ v∈cs,v.oneCell'=true) (hfit:o+cs.length<=cur.size) :
  (Builtin.copy_ #[T,T] ty #[.slice (some ⟨b,o,none⟩) dl dc,.slice (some a) sl sc]).run P w= .ok (goInt (Nat.min sl dl)) (w.setRow b (over cur.toList o cs).toArray):=by
 have hlo:=run_loadCells_list (P:=P) w a cs hsrc;have hst:=run_storeCells_at (P:=P) b o E cs 0 cur w hb (by simpa using hfit) h1;simp only [Nat.add_zero] at hst;have hlo':(loadCells a (Nat.min sl dl*sz)).run P w= .ok cs.toArray w:=by rw [<-hn];exact hlo
 have hst':(storeCells ⟨b,o,none⟩ cs.toArray.toList).run P w= .ok () (w.setRow b (over cur.toList o cs).toArray):=hst;simp [Builtin.copy_,run_underlying hT,hsz,Builtin.lenOf,Builtin.firstCells,hlo',hst,over]
theorem I7(w:World)(T ty E:TypeId)(z:Value)(b o n c:Nat)(cur:Array Value)(hT:P.underlying T=some (.slice E))(hv:∀ w,(zeroValue E).run P w= .ok z w)(hb:w.heap[b]? =some (.cells cur E (0,0)))
  (h1:∀ v∈z.cells.toList,v.oneCell'=true) (hn:0<n) (hfit:o+n*z.cells.size<=cur.size) :
  (Builtin.clear_ #[T] ty #[.slice (some ⟨b,o,none⟩) n c]).run P w= .ok (.tuple #[]) (w.setRow b (over cur.toList o (Builtin.zeroCells z.cells n).toList).toArray):=by
 have hst:=run_storeCells_at (P:=P) b o E (Builtin.zeroCells z.cells n).toList 0 cur w hb (by simpa [size_zeroCells] using hfit) (Dp h1 n);simp only [Nat.add_zero] at hst;obtain ⟨m,rfl⟩:∃ m,n=m+1:=⟨n-1,by omega⟩
 simp [Builtin.clear_,run_underlying hT,hv,hst,over]
theorem zS(w:World)(tS tR e:TypeId)(ht:P.underlying tS=some (.slice e))(size:Nat)(hz:∀ w,(Go.sizeOf e).run P w= .ok size w)
  (a b:Addr) (la ca lb cb:Nat) (hne:a.block≠b.block) (tA tB:TypeId) (kA kB:Nat) (hsa:w.shape? a.block=some (tA,kA)) (hsb:w.shape? b.block=some (tB,kB)) (hkA:kA≠0)
  (hfb:w.frozen? b=false) (hfe:w.frozen? {block:=b.block,off:=kB}=false) :
  (Extern.SlicesOverlaps.overlaps #[tS,tS] #[tR] #[.slice (some a) la ca,.slice (some b) lb cb]).run P w= .ok (.bool false) w:=by
 have hnb:(a.block !=b.block)=true:=by simpa using hne
 have hnb':(a.block==b.block)=false:=by simpa using hne
 show Sem.run P (Bind.bind (underlying tS) _) w=_;rw [Sem.run_bind,run_underlying ht,Result.andThen_ok];show Sem.run P (Bind.bind (Go.sizeOf e) _) w=_;rw [Sem.run_bind,hz,Result.andThen_ok];dsimp only;by_cases h0:la=0\/lb=0\/size=0
 .simp [run_underlying ht,hz,h0]
 .cases kA with
  | zero=>exact absurd rfl hkA
  | succ kA=>
   cases h2:w.frozen? a<;> cases h3:w.frozen? {block:=a.block,off:=kA+1}<;>
    simp [run_underlying ht,hz,h0,hnb,hnb',frozen,noView,viewAt,mayBeOne,stringish,shape,Sem.run,hsa,hsb,hfb,hfe,h2,h3]
theorem Bg{ops:Array Oper}{o:Oper}{a:Act}{w:World}{K:Act->World->Prop}{Q:Exit->Act->World->Prop}{E:Prop}(hg:o.guard=none)(d x:Operand)(dT sT:TypeId)
  (hop:o.op=Op.call {callee:=Callee.builtin Builtin.append,args:=#[d,x],argTypes:=#[dT,sT]}) (v u:Value) (hd:a.eval d=v) (hx:a.eval x=u) {v':Value} {w':World} (hr:(Builtin.append_ #[dT,sT] o.type #[v,u]).run P w= .ok v' w') (hK:K (a.put o.dst v') w') :
  if Region.wanted o (yielded ops a.tmps)=true then Oper.wp P o a w K Q else E:=by
 rw [if_pos (by simp [Region.wanted,hg])];unfold Oper.wp;simp [execOp,hop,resolve,invoke,builtin,hd,hx,hr,Result.andThen];exact hK
theorem yh{ops:Array Oper}{o:Oper}{a:Act}{w:World}{K:Act->World->Prop}{Q:Exit->Act->World->Prop}{E:Prop}(hg:o.guard=none)(d x:Operand)(dT sT:TypeId)
  (hop:o.op=Op.call {callee:=Callee.builtin Builtin.copy,args:=#[d,x],argTypes:=#[dT,sT]}) (v u:Value) (hd:a.eval d=v) (hx:a.eval x=u) {v':Value} {w':World} (hr:(Builtin.copy_ #[dT,sT] o.type #[v,u]).run P w= .ok v' w') (hK:K (a.put o.dst v') w') :
  if Region.wanted o (yielded ops a.tmps)=true then Oper.wp P o a w K Q else E:=by
 rw [if_pos (by simp [Region.wanted,hg])];unfold Oper.wp;simp [execOp,hop,resolve,invoke,builtin,hd,hx,hr,Result.andThen];exact hK
end
theorem NS{R pre news:List Value}(hp:R.take pre.length=pre)(hl:pre.length+news.length+cs.length<=R.length) :
  (over (over R pre.length news) (pre.length+news.length) cs).take (pre.length+news.length+cs.length)=pre++news++cs:=by
 have h1:over R pre.length news=pre++news++R.drop (pre.length+news.length):=by simp only [over];rw [hp]
 rw [h1];simp only [over];rw [<-List.length_append,List.take_left,<-List.length_append,List.take_left]
theorem LH{R pre news:List Value}(hp:R.take pre.length=pre)(hl:pre.length+news.length+cs.length<=R.length) :
  (over (over R (pre.length+news.length) cs) pre.length news).take (pre.length+news.length+cs.length)=pre++news++cs:=by
 have h0:pre.length<=R.length:=by omega
 have h2:(R.take (pre.length+news.length)).length=pre.length+news.length:=by rw [List.length_take];omega
 have h1:over R (pre.length+news.length) cs=R.take (pre.length+news.length)++(cs++R.drop (pre.length+news.length+cs.length)):=by simp only [over,List.append_assoc]
 rw [h1];simp only [over];have h4:List.take pre.length (R.take (pre.length+news.length)++(cs++R.drop (pre.length+news.length+cs.length)))=pre:=by rw [List.take_append_of_le_length (by omega),List.take_take,Nat.min_eq_left (by omega),hp]
 have h3:List.drop (pre.length+news.length) (R.take (pre.length+news.length)++(cs++R.drop (pre.length+news.length+cs.length)))=cs++R.drop (pre.length+news.length+cs.length):=List.drop_left' h2;rw [h4,h3,<-List.append_assoc,<-List.length_append,<-List.length_append,List.take_left]
theorem I8{w:World}{b i:Nat}{v:Value}(h:w.cell? ⟨b,i,none⟩=some v):∃ T n,w.shape? b=some (T,n)/\n≠0:=by
 unfold World.shape?;simp only [World.cell?] at h;split at h
 .rename_i cs T fr hb;have h:cs[i]? =some v:=by simpa using h
  refine ⟨_,_,rfl,λh0=>?_⟩;have:=(Array.getElem?_eq_some_iff.1 h).1;omega
 .cases h
theorem All2.three{A B C:Asn}{vs:List Value}{g:G}(h:All2 [A,B,C] vs g):∃ a b c,vs= [a,b,c]/\A.holds a g/\B.holds b g/\C.holds c g:=by
 match vs,h with
 | [a,b,c],⟨h1,h2,h3,_⟩=>exact ⟨a,b,c,rfl,h1,h2,h3⟩
theorem I9{k:IntKind}{n:Int}{v:Value}{g:G}(h:((tI k).is n).holds v g):v= .int k n:=by
 obtain ⟨cs,h1,h2⟩:=h;rw [h2,show cs= [.int k n] from h1.1];rfl
theorem Cells.drop{t:Ty α}{g:G}{xs:List α}(j:Nat)(hj:j<=xs.length)(h:Cells t g cs xs):Cells t g (cs.drop (j*t.size)) (xs.drop j):=by
 obtain ⟨h1,h2,h3⟩:=h;refine ⟨by rw [List.length_drop,List.length_drop,h1,Nat.sub_mul],λc hc=>h2 c (List.mem_of_mem_drop hc),λi x hx=>?_⟩;rw [List.getElem?_drop] at hx;obtain ⟨ds,k1,k2⟩:=h3 _ x hx;refine ⟨ds,k1,λq v hq=>?_⟩;rw [List.getElem?_drop,<-Nat.add_assoc,<-Nat.add_mul];exact k2 q v hq
theorem aR.fixU{P:Program}{f:FuncId}{As:List Asn}{rin:Rs}{t:Ty α}{v:List α}{k0:Nat}(h:aR P f As rin (λk:Tok=>tU k v.length) (λk=>[(k0,OwnU t E k v)]))(key:Nat) :
  aR P f As rin (λk:Tok=>tO t k v) (λk=>[(key,Own t E k v.length)]):=by
 intro g vs hvs hr hd;refine (h g vs hvs hr hd).mono ?_;rintro e w' ⟨k,x,g',rfl,h2,h3,h4,h5,h6,h7⟩;have ho:(OwnU t E k v).holds g':=h5 _ (List.mem_singleton.2 rfl);obtain ⟨e1,hown,hrow⟩:=OwnU.fixd ho;obtain ⟨q1,q2,q3⟩:=h4;have hb:∀ b,k.map Prod.fst=some b->rin.blks b\/g.w.heap.size<=b:=λb hb=>h7 b ⟨_,List.mem_singleton.2 rfl,hb⟩;refine ⟨k,x,g'.fixd k (v.length*t.size),rfl,h2,h3.trans e1 (λb hlt ht=>(hb b ht).resolve_right (by omega)),⟨q1,q2,q3,hrow⟩,λy hy=>by rw [List.mem_singleton.1 hy];exact hown,List.pairwise_singleton _ _,?_⟩;rintro b ⟨y,hy,hyb⟩;rw [List.mem_singleton.1 hy] at hyb;exact hb b hyb
theorem OwnU.ofRow{t:Ty α}{b c:Nat}{v:List α}{new:Array Value}{g:G}(h1:g.w.heap[b]? =some (.cells new E (0,0)))(h2:new.size=c*t.size)(h3:v.length<=c)(h4:c<=maxLen)(h5:g.S b=0)
  (hc:Cells t g cs v) (he:new.toList.take (v.length*t.size)=cs):(OwnU t E (some (b,c)) v).holds g:=⟨new,h1,h2,h3,h4,h5,by rw [he];exact hc⟩
section
variable {P:Program} {env:Env} {res:Rs} {d:Option Tmp} {ty:TypeId} {pos:String} {aft:Array Edge} {gd:Option (Nat×Bool)}
theorem Op1.partU{T:TypeId}{x y:Operand}{n:Nat}{i:Int}{sz:Nat}(h0:0<=i)(h1:i<=n)(hT:P.underlying T=some (.slice E))(hsz:∀ w,(sizeOf E).run P w= .ok sz w)(hx:Opd env x (tU k n):=by exact .tmp rfl)(hy:Opd env y ((tI .i64).is i):=by exact .tmp rfl) :
  Op1 P ⟨d,.slice T x (some y) none none,ty,pos,aft,gd⟩ env res Asn.any:=
 Op1.same λa g hc=>by
  obtain ⟨hv,h2,h3⟩:=hx a g hc.henv;have hyv:=(hy.atInt hc).1;obtain ⟨m,rfl⟩:∃ m:Nat,i=(m:Int):=⟨i.toNat,by omega⟩
  have h4:m<=n:=by omega
  have hb:(Instr.sliceBounds true n k.cap (some (a.eval y)) none none).run P g.w= .ok (m,n,k.cap) g.w:=by
   rw [hyv];simp [Instr.sliceBounds,Instr.sliceBound,asIntOf,h4]
  have hrun:(Instr.sliceAt T (.slice k.addr n k.cap) (some (a.eval y)) none none).run P g.w= .ok (.slice (if k.cap=m then k.addr else k.addr.map (·.add (m*sz))) (n-m) (k.cap-m)) g.w:=by
   simp only [Instr.sliceAt,Instr.slice,Sem.run_bind,run_underlying hT,Result.andThen_ok,hb,hsz,Sem.run_pure]
  refine ⟨.slice (if k.cap=m then k.addr else k.addr.map (·.add (m*sz))) (n-m) (k.cap-m),?_,trivial⟩;simp only [execOp,hv,Option.map,Sem.run_bind,hrun,Result.andThen_ok];rfl
end
theorem aY.leR{β:Type}{s s1 s2:Ty α}{o:Nat}{t:Ty β}{upd:α->β->α}(l:Le s1 s2)(h:aY s s1 o t upd):aY s s2 o t upd:=
 λg cs ds x y hx hy=>let ⟨h1,h2⟩:=h g cs ds x y hx hy;⟨h1,l.rep _ _ _ h2⟩
section
variable {P:Program} {N:Nat} {g0:G} {T0:Nat->Prop} {ks:List KF} {B:Exit->Act->World->Prop} {env:Env} {res:Rs}
theorem WN.fixG{t:Ty α}{xs:List α}(key:Nat)(hr:findR key res=some (OwnU t E k xs))(h:WN P N g0 T0 ks B env ((key,Grown t E k xs) :: res.drop [key])):WN P N g0 T0 ks B env res:=by
 intro a g hst;obtain ⟨g',h1,h2⟩:=hst.fixG hr;have:=h a g' h2;rw [h1] at this;exact this
theorem WN.boxG{n:Nat}{agg:Bool}{T:TypeId}{A:Asn}{b:Nat}(A':Asn)(key:Nat)(h1:findR key res=some (Bx n agg T A b))(hA:∀ v g,res.all g->A.holds v g->A'.holds v g)(k:WN P N g0 T0 ks B env ((key,Bx n agg T A' b) :: res.drop [key])):WN P N g0 T0 ks B env res:=
 λa g h=>k a g (St.boxG h1 hA h)
end
def tFW(P:Program){α β:Type}(X:Tok->Ty α)(tp:Ty α)(t:Ty β)(T E:TypeId)(sz:Nat)(sl:α->List β)(fm:α->Option α):Asn:=
 ⟨λv g=>∃ (f:FuncId) (caps:List Value) (Cs:List Asn),v= .func (.func f) #[] caps.toArray/\(∀ vs w,(callFunc f vs).run P w= .ok (.enter f vs) w)/\All2 Cs caps g/\
  ∀ u u' k b,fm u=some u'->aR P f (Bp b 0 :: Cs) [(0,Bx sz true T ((X k).is u) b),(1,OwnU t E k (sl u))] (λ_:Unit=>Asn.eq (.tuple #[])) (λ_=>[(0,Bx sz true T (tp.is u') b)]),
  λe ⟨f,caps,Cs,h1,h2,h3,h4⟩=>⟨f,caps,Cs,h1,h2,All2.mono e h3,h4⟩⟩
section
variable {P:Program} {env:Env} {res:Rs} {d:Option Tmp} {ty:TypeId} {pos:String} {aft:Array Edge} {gd:Option (Nat×Bool)}
variable {α β:Type} {X:Tok->Ty α} {tp:Ty α} {t:Ty β} {T E:TypeId} {sz:Nat} {sl:α->List β} {fm:α->Option α}
theorem Op1.makeFW{f:FuncId}{cap:List Operand}{Cs:List Asn}(hcall:∀ vs w,(callFunc f vs).run P w= .ok (.enter f vs) w)(hcap:Opds env cap Cs)
  (h:∀ u u' k b,fm u=some u'->aR P f (Bp b 0 :: Cs) [(0,Bx sz true T ((X k).is u) b),(1,OwnU t E k (sl u))] (λ_:Unit=>Asn.eq (.tuple #[])) (λ_=>[(0,Bx sz true T (tp.is u') b)])) :
  Op1 P ⟨d,.makeFunc (.func f) #[] cap.toArray,ty,pos,aft,gd⟩ env res (tFW P X tp t T E sz sl fm):=
 Op1.same λa g hc=>⟨.func (.func f) #[] (cap.map a.eval).toArray,by simp [execOp,Instr.makeFunc],f,_,Cs,rfl,hcall,Opds.all hc.henv hcap,h⟩
theorem OpR.callFW{x r:Operand}{ats:Array TypeId}{b:Nat}{u u':α}(k1 k2:Nat)(hm:fm u=some u')(hr:res.pick [k1,k2]= [(k1,Bx sz true T ((X k).is u) b),(k2,OwnU t E k (sl u))])
  (hx:Opd env x (tFW P X tp t T E sz sl fm):=by exact .tmp rfl) (h:Opd env r (Bp b 0):=by exact .tmp rfl) :
  OpR P ⟨d,.call ⟨.value x,[r].toArray,ats⟩,ty,pos,aft,gd⟩ env res [k1,k2] (λ_:Unit=>Asn.eq (.tuple #[])) (λ_=>[(k1,Bx sz true T (tp.is u') b)]):=
 OpR.qF λa g hc hd=>by
  obtain ⟨f,caps,Cs,hv,hcall,hcs,hdo⟩:=hx a g hc.henv;refine ⟨f,_,yB hcall a g.w hv,?_⟩;have hf:=(hdo u u' k b hm).keys (rin':=[(k1,Bx sz true T ((X k).is u) b),(k2,OwnU t E k (sl u))]) (out':=λ_=>[(k1,Bx sz true T (tp.is u') b)]) rfl (λ_=>rfl);rw [<-hr] at hf;exact hf g _ (All2.append (Opds.all hc.henv (show Opds env [r] [Bp b 0] from ⟨h,trivial⟩)) hcs) (λy hy=>hc.hres y (List.mem_filter.1 hy).1) (hd.filter _)
end
end Go.Dec
/-
  Rounds of a range over a function: what is known of plain code is known in a round too, and where deferred calls are pending. Maps filled by a literal.
-/
namespace Go.Dec
open Go Go.RowKit
variable {K:Act->World->Prop}{Q:Exit->Act->World->Prop}{l:List Oper}
def nd(o:Oper):Bool:=match o.op with
 | .defer _=>false
 | _=>true
def ring:Option Nat->Fence
 | none=>Fence.wide
 | some l=>Fence.wide.inRound l
def sh(D:List Deferred)(a:Act):Act:={a with defers:=a.defers++D}
theorem Kn(D:List Deferred)(a:Act):(sh D a).eval=a.eval:=by
 funext x;cases x<;> rfl
theorem yD(D:List Deferred)(a:Act)(d:Option Tmp)(v:Value):(sh D a).put d v=sh D (a.put d v):=by cases d<;> rfl
def nq(K:Act->World->Prop):Exit->Act->World->Prop
 | .normal=>K
 | _=>λ_ _=>False
theorem Ja:¬ LetsOut (nq K):=λ⟨_,_,h⟩=>h
theorem EJ(r:Option Nat)(f:FuncId):(ring r).fn f:=by cases r<;> trivial
theorem BU(r:Option Nat)(n:Nat):(ring r).depth.isSome=true->1<=n:=by cases r<;> (intro h;cases h)
section
variable {P:Program} {r:Option Nat} {n:Nat} {D:List Deferred}
theorem Jb{f:FuncId}{args:Array Value}{w:World}{R:Ending->World->Prop}(h:Calls P f args w R):CallsIn (ring r) n P f args w R:=by
 have h':CallsIn Fence.wide n P f args w R:=callsIn_wide.2 h;cases r with
 | none=>exact h'
 | some l=>exact CallsIn.inRound l h'
theorem LJ{row:String}{args:Array Value}{w:World}{R:Value->World->Prop}(h:Rows P row args w R):RowsIn (ring r) n P row args w R:=by
 intro c cs _;obtain ⟨v,w',q,s⟩:=h c cs;refine ⟨v,w',q,?_⟩;have:=stepsIn_wide.2 s;cases r with
 | none=>exact this
 | some l=>exact this
theorem NT{o:Oper}{a:Act}{w:World}{K' Kx:Act->World->Prop}(hnd:nd o=true)(hk:∀ a w,K a w->K' (sh D a) w)(h:o.wp P a w K (nq Kx)) :
  o.wpIn (ring r) n P (sh D a) w K' Q:=by
 refine ⟨λf _=>EJ r f,?_⟩;rw [Oper.semAt_eq _ _ _ (by intro c e;simp [nd,e] at hnd),Kn];unfold Oper.wp at h;generalize (execOp a.eval o).run P w=q at h;cases q with
 | ok x w'=>
  cases x with
  | value v=>show K' ((sh D a).put o.dst v) w';rw [yD];exact hk _ _ h
  | skip=>show K' ((sh D a).put o.dst undef) w';rw [yD];exact hk _ _ h
  | defer d=>
   have:=hk _ _ h;rw [<-yD] at this;exact this
  | enter f args=>
   refine ⟨BU r n,?_⟩;refine (Jb h).mono ?_;intro e w'' he;cases e with
   | returned v=>show K' ((sh D a).put o.dst v) w'';rw [yD];exact hk _ _ he
   | panicked ch=>exact he.elim
   | outgrown=>exact (Ja he).elim
  | row row args=>
   refine ⟨BU r n,?_⟩;refine (LJ h).mono ?_;intro v w'' he;rw [yD];exact hk _ _ he
  | _=>exact h.elim
 | halt x w'=>cases x<;> exact h.elim
theorem LM{ops:Array Oper}(hk:∀ a w,K a w->Q .normal (sh D a) w):∀ (l:List Oper),l.all nd=true->∀ a w,wpList P ops (nq K) l a w->wpListIn (ring r) n P ops Q l (sh D a) w:=by
 intro l;induction l with
 | nil=>intro _ a w h;exact hk a w h
 | cons o l ih=>
  intro hnd a w h;rw [List.all_cons,Bool.and_eq_true] at hnd;unfold wpList at h;unfold wpListIn;show if Region.wanted o (yielded ops a.tmps)=true then _ else _;by_cases hw:Region.wanted o (yielded ops a.tmps)=true
  .rw [if_pos hw] at h ⊢;rcases h with h | ⟨_,h⟩
   .exact NT hnd.1 (λa w h=>ih hnd.2 a w h) h
   .exact (Ja h).elim
  .rw [if_neg hw] at h ⊢;refine ⟨λf _=>EJ r f,?_⟩;rw [yD];exact ih hnd.2 _ _ h
theorem NU{md:Region.Mode}{ops:Array Oper}(hk:∀ a w,K a w->Q .normal (sh D a) w)(hnd:ops.toList.all nd=true):∀ (fuel:Nat) (listed:Array Bool) (a:Act) (w:World),wpAny P md ops (nq K) fuel listed a w->wpAnyIn (ring r) n P md ops Q fuel listed (sh D a) w:=by
 intro fuel;induction fuel with
 | zero=>intro listed a w h;exact ⟨h.1,hk a w h.2⟩
 | succ fuel ih=>
  intro listed a w h;refine ⟨λe=>hk a w (h.1 e),λi hi=>?_⟩;have h1:=h.2 i hi;unfold wpOp at h1;unfold wpOpIn;cases ho:ops[i]? with
  | none=>simp only [ho] at h1 ⊢;exact ih _ _ _ h1
  | some o=>
   simp only [ho] at h1 ⊢;have hn:nd o=true:=List.all_eq_true.1 hnd o (by
    have:=Array.mem_of_getElem? ho;simpa using this)
   show if Region.wanted o (yielded ops a.tmps)=true then _ else _;by_cases hw:Region.wanted o (yielded ops a.tmps)=true
   .rw [if_pos hw] at h1 ⊢;rcases h1 with h1 | ⟨_,h1⟩
    .exact NT hn (λa w h=>ih _ a w h) h1
    .exact (Ja h1).elim
   .rw [if_neg hw] at h1 ⊢;refine ⟨λf _=>EJ r f,?_⟩;rw [yD];exact ih _ _ _ h1
end
def WR(P:Program)(r:Option Nat)(n:Nat)(D:List Deferred)(N:Nat)(g0:G)(T0:Nat->Prop)(c:Code)(Q:Exit->Act->World->Prop)(env:Env)(res:Rs):Prop:=
 ∀ a g,St N g0 T0 env res a g->c.wpIn (ring r) n P Q (sh D a) g.w
section
variable {P:Program} {r:Option Nat} {n:Nat} {D:List Deferred} {N:Nat} {g0:G} {T0:Nat->Prop} {Q:Exit->Act->World->Prop} {env:Env} {res:Rs}
def rq(D:List Deferred)(Q:Exit->Act->World->Prop):Exit->Act->World->Prop:=nq (λa w=>Q .normal (sh D a) w)
theorem WR.seq{x y:Code}(h:WR P r n D N g0 T0 x (Exit.then (y.wpIn (ring r) n P Q) Q) env res):WR P r n D N g0 T0 (.seq x y) Q env res:=
 λa g hs=>wpIn_seq (h a g hs)
theorem WR.block{id:Nat}{c:Code}(h:WR P r n D N g0 T0 c (Exit.inBlock id Q) env res):WR P r n D N g0 T0 (.block id c) Q env res:=
 λa g hs=>wpIn_block (h a g hs)
theorem WR.skip(h:∀ a g,St N g0 T0 env res a g->Q .normal (sh D a) g.w):WR P r n D N g0 T0 .skip Q env res:=λa g hs=>wpIn_skip (h a g hs)
theorem WR.ret(h:∀ a g,St N g0 T0 env res a g->Q .ret (sh D a) g.w):WR P r n D N g0 T0 .ret Q env res:=λa g hs=>wpIn_ret (h a g hs)
theorem WR.region{id:Nat}(hnd:l.all nd=true)(h:WL P N g0 T0 l.toArray (KF.sem P [] (rq D Q)) l env res):WR P r n D N g0 T0 (.region id l.toArray false) Q env res:=
 λa g hs=>wpIn_region_lit (LM (λ_ _ h=>h) l hnd a g.w (h a g hs))
theorem WR.draw{id:Nat}(hm:P.follows .mixedOrders=true)(hnd:l.all nd=true)(h:WA P N g0 T0 l [] (rq D Q) env res):WR P r n D N g0 T0 (.region id l.toArray true) Q env res:=
 λa g hs=>wpIn_region_any hm (NU (λ_ _ h=>h) hnd _ _ a _ (h a g hs))
theorem WR.cond{x:Operand}{c d:Code}{b:Bool}(hx:Opd env x (tB.is b))(ht:b=true->WR P r n D N g0 T0 c Q env res)(hf:b=false->WR P r n D N g0 T0 d Q env res):WR P r n D N g0 T0 (.cond x c d) Q env res:=by
 intro a g hs;obtain ⟨cs,hc,hv⟩:=hx a g hs.henv;have hv':(sh D a).eval x= .bool b:=by rw [Kn,hv,show cs= [.bool b] from hc];rfl
 cases b with
 | true=>exact wpIn_cond_true hv' (ht rfl a g hs)
 | false=>exact wpIn_cond_false hv' (hf rfl a g hs)
theorem WN.wr{y:Code}(h:WR P r n D N g0 T0 y Q env res):WN P N g0 T0 [] (rq D (Exit.then (y.wpIn (ring r) n P Q) Q)) env res:=λa g hs=>h a g hs
end
theorem oG(a:Act):sh [] a=a:=by cases a;simp [sh]
structure Stays (g:G) (w:World):Prop where
 os:w.os=g.w.os
 tape:w.tape=g.w.tape
 output:w.output=g.w.output
 size:g.w.heap.size<=w.heap.size
 kept:∀ b i v,g.Has b i v->w.cell? ⟨b,i,none⟩=some v
 rows:∀ b n,g.Full b n->rowN w b=some n
def G.at(g:G)(w:World):G:=⟨w,g.S⟩
theorem Stays.ext{g:G}{w:World}(h:Stays g w):Ext (λ_=>True) g (g.at w):=⟨h.os,h.tape,h.output,h.size,λ_ _ hn=>(hn trivial).elim,λb i v hv=>⟨hv.1,h.kept b i v hv⟩,λb n hv=>⟨h.rows b n hv,hv.2⟩⟩
theorem Stays.of{g g':G}{T:Nat->Prop}(h:Ext T g g'):Stays g g'.w:=⟨h.os,h.tape,h.output,h.size,λb i v hv=>(h.kept b i v hv).2,λb n hv=>(h.rows b n hv).1⟩
theorem Stays.below{g:G}{w w':World}(h:Stays g w)(hg:Below g.w.heap.size w w'):Stays g w':=
 ⟨hg.os.trans h.os,hg.tape.trans h.tape,hg.output.trans h.output,Nat.le_trans h.size hg.size,λb i v hv=>by
  rw [World.cell?_of_block (hg.block b hv.lt)];exact h.kept b i v hv,λb n hv=>by
  have:=h.rows b n hv;unfold rowN at this ⊢;rw [hg.block b hv.lt];exact this⟩
theorem Stays.refl(g:G):Stays g g.w:=⟨rfl,rfl,rfl,Nat.le_refl _,λ_ _ _ h=>h.2,λ_ _ h=>h.1⟩
theorem xA{g:G}{w':World}{row:Option Nat}(hg:g.w.grownBy w' row)(hr:∀ r,row=some r->∃ o:Obj,g.w.heap[r]? =some o/\whl o=none):Ext (λb=>row=some b) g (g.at w'):=
 ⟨hg.os,hg.tape,hg.output,hg.size,λb hb hn=>⟨hg.block b hb (λe=>hn e.symm),rfl⟩,λb i v hv=>by
  refine ⟨hv.1,?_⟩;show w'.cell? _=_;refine (World.cell?_of_block (hg.block b hv.lt (λe=>?_))).trans hv.2;obtain ⟨o,ho,hc⟩:=hr b e.symm;have h2:=hv.2;unfold World.cell? at h2;rw [ho] at h2;cases o<;> simp_all [whl],λb n hv=>hv.same (hg.block b hv.lt (λe=>by
  obtain ⟨o,ho,hc⟩:=hr b e.symm;have h1:=hv.1;unfold rowN at h1;rw [ho] at h1;rw [show (some o).bind whl=whl o from rfl,hc] at h1;cases h1)) (Nat.le_refl _)⟩
def WLI(P:Program)(r:Option Nat)(n:Nat)(N:Nat)(g0:G)(T0:Nat->Prop)(ops:Array Oper)(Q:Exit->Act->World->Prop)(l:List Oper)(env:Env)(res:Rs):Prop:=
 ∀ a g,St N g0 T0 env res a g->wpListIn (ring r) n P ops Q l a g.w
section
variable {P:Program} {r:Option Nat} {n:Nat} {N:Nat} {g0:G} {T0:Nat->Prop} {ops:Array Oper} {Q:Exit->Act->World->Prop} {rest:List Oper} {env:Env} {res:Rs}
theorem WLI.op{A:Asn}{d:Nat}{op:Op}{ty:TypeId}{pos:String}{aft:Array Edge}(hd:Nat.blt d N=true)(hnd:nd ⟨some d,op,ty,pos,aft,none⟩=true)(h:Op1 P ⟨some d,op,ty,pos,aft,none⟩ env res A)
  (k:WLI P r n N g0 T0 ops Q rest ((d,A) :: env) res):WLI P r n N g0 T0 ops Q (⟨some d,op,ty,pos,aft,none⟩ :: rest) env res:=by
 intro a g hs;refine wpListIn_plain rfl λK hK=>?_;have:=NT (r:=r) (n:=n) (D:=[]) (K':=K) (Q:=Q) (Kx:=λ_ _=>True) hnd (K:=λa w=>K (sh [] a) w) (λ_ _ h=>h) (h a g _ _ hs.cx λv g' e hv=>by
  rw [oG];exact hK _ _ (k _ _ (hs.put (by simpa [Nat.blt_eq] using hd) e hv)))
 rwa [oG] at this
theorem WLI.nil(h:∀ a g,St N g0 T0 env res a g->Q .normal a g.w):WLI P r n N g0 T0 ops Q [] env res:=λa g hs=>h a g hs
theorem WR.regionI{id:Nat}(h:WLI P r n N g0 T0 l.toArray Q l env res):WR P r n [] N g0 T0 (.region id l.toArray false) Q env res:=by
 intro a g hs;rw [oG];exact wpIn_region_lit (h a g hs)
end
end Go.Dec
/-
  A range over a function that hands out a slice's elements from the last to the first.
-/
namespace Go.Dec
open Go Go.RowKit
variable {D:List Deferred}{c:Code}
def Dq(D:Nat):Res where
 blk:=λx=>some D=some x
 holds:=λg=>g.w.heap[D]? =some (.deferred (some []))
 stay:=λ{T g g'} e hn h=>(e.same D (Array.getElem?_eq_some_iff.1 h).1 (hn D rfl)).1.trans h
 lt:=λ{g b} h hb=>by cases hb;exact (Array.getElem?_eq_some_iff.1 h).1
def markD(D:Nat):List Deferred:=[{target:=.collected D,args:=#[]}]
def eqs:List (Nat×Value)->Env
 | []=>[]
 | (k,v) :: r=>(k,Asn.eq v) :: eqs r
theorem Gb{s:Nat}{A:Asn}:∀ {L:List (Nat×Value)},look s (eqs L)=some A->∃ v,A=Asn.eq v
 | [],h=>by simp [eqs,look] at h
 | (k,v) :: r,h=>by
  unfold eqs at h;by_cases hk:k=s
  .subst hk;rw [dh] at h;cases h;exact ⟨v,rfl⟩
  .rw [bL _ _ hk] at h;exact Gb h
section
variable {P:Program} {r:Option Nat} {n:Nat} {N:Nat} {g0:G} {T0:Nat->Prop} {ops:Array Oper} {Q:Exit->Act->World->Prop} {rest:List Oper} {env:Env} {res:Rs}
theorem St.eqs{L:List (Nat×Value)}{a:Act}{g:G}(h:St N g0 T0 env res a g)(hs:Sub (eqs L) env)(gX:G):St N gX No (Dec.eqs L) [] a gX:=by
 refine ⟨h.sz,h.dfr,λs A hA=>?_,λ_ hx=>(by cases hx),List.Pairwise.nil,λb ⟨y,hy,_⟩=>(by cases hy),Ext.refl _ _⟩;obtain ⟨v,rfl⟩:=Gb hA;obtain ⟨A0,h1,h2⟩:=hs.look s _ hA;have:=h2 _ _ (h.henv s A0 h1);exact this
theorem St.entry{a:Act}{g:G}{s:Nat}{A:Asn}(h:St N g0 T0 env res a g)(hA:A.holds (a.tmps.getD s undef) g):St N g0 T0 ((s,A) :: env) res a g:=by
 refine ⟨h.sz,h.dfr,λq B hq=>?_,h.hres,h.dis,h.own,h.ext⟩;by_cases hk:s=q
 .subst hk;rw [dh] at hq;cases hq;exact hA
 .rw [bL _ _ hk] at hq;exact h.henv q B hq
theorem WR.begin{fn:Func}{As:List Asn}{vs:List Value}{g:G}{B:Exit->Act->World->Prop}(hN:fn.ntmps=N)(hA:Nat.ble As.length N=true)(hvs:All2 As vs g)
  (h:WR P none n [] N g No c B (envFrom 0 As) []):c.wpIn Fence.wide n P B {tmps:=vs.toArray++Array.replicate (fn.ntmps-vs.toArray.size) undef,defers:=[]} g.w:=by
 have hl:=hvs.len;have hle:As.length<=N:=Nat.le_of_ble_eq_true hA;have:=h {tmps:=vs.toArray++Array.replicate (fn.ntmps-vs.toArray.size) undef,defers:=[]} g ?_
 .rwa [oG] at this
 refine ⟨by simp [hN,hl];omega,rfl,λs B hB=>?_,λ_ hx=>(by cases hx),List.Pairwise.nil,λb ⟨y,hy,_⟩=>(by cases hy),Ext.refl _ _⟩;obtain ⟨v,hv,hBv⟩:=envFrom_holds vs As vs 0 hvs (λj u hu=>by simpa using hu) s B hB;have hlt:s<vs.length:=(List.getElem?_eq_some_iff.1 hv).1;have:((vs.toArray++Array.replicate (fn.ntmps-vs.toArray.size) undef).getD s undef)=v:=by
  simp only [Array.getD_eq_getD_getElem?];rw [Array.getElem?_append_left (by simpa using hlt)];simp [hv]
 rw [this];exact hBv
theorem WR.weaken{env':Env}{res':Rs}(hs:Sub env' env)(hr:RSub res' res)(h:WR P r n D N g0 T0 c Q env' res'):WR P r n D N g0 T0 c Q env res:=λa g hst=>h a g (hst.weaken hs hr)
theorem WR.weakR{res':Rs}(hr:RSub res' res)(h:WR P r n D N g0 T0 c Q env res'):WR P r n D N g0 T0 c Q env res:=
 λa g hst=>h a g ⟨hst.sz,hst.dfr,hst.henv,λx hx=>hst.hres x (hr.mem x hx),hr.dis hst.dis,λb ⟨x,hx,hb⟩=>hst.own b ⟨x,hr.mem x hx,hb⟩,hst.ext⟩
theorem WR.go{a:Act}{g:G}(h:WR P r n D N g0 T0 c Q env res)(hst:St N g0 T0 env res a g):c.wpIn (ring r) n P Q (sh D a) g.w:=h a g hst
theorem WR.condF{x:Operand}{d:Code}(hx:Opd env x (tB.is false))(hf:WR P r n D N g0 T0 d Q env res):WR P r n D N g0 T0 (.cond x c d) Q env res:=
 WR.cond hx (λh=>by cases h) (λ_=>hf)
theorem WR.skipS{y:Code}(h:WR P r n D N g0 T0 y Q env res):WR P r n D N g0 T0 .skip (Exit.then (y.wpIn (ring r) n P Q) Q) env res:=λa g hs=>wpIn_skip (h a g hs)
theorem WR.Tm(I:Act->World->Prop)(m:Act->World->Nat)(h0:∀ a g,St N g0 T0 env res a g->I a g.w)
  (round:∀ a w,I a w->c.wpIn (ring r) n P (Exit.then (λa' w'=>I a' w'/\m a' w'< m a w) Q) a w):WR P r n [] N g0 T0 (.loop c) Q env res:=by
 intro a g hst;rw [oG];exact wpIn_loop I m (h0 a g hst) round
theorem grown_of{g g':G}(h:Ext No g g'):g.w.grownBy g'.w none:=⟨h.os,h.tape,h.output,h.size,λk hk _=>(h.same k hk (λhf=>hf.elim)).1⟩
end
section
variable {P:Program} {n N:Nat} {g0:G} {env:Env} {res:Rs} {fn:Func} {ρ:Type}
theorem St.shut{kD D:Nat}{a:Act}{g:G}{T0:Nat->Prop}(h:St N g0 T0 env ((kD,Dq D) :: res) a g):St N g0 T0 env res a (g.at (g.w.putObj D (.deferred none))):=by
 have hD:g.w.heap[D]? =some (.deferred (some [])):=h.hres (kD,Dq D) List.mem_cons_self;have e:Ext (λb=>some D=some b) g (g.at (g.w.putObj D (.deferred none))):=xA (grownBy_putObj' g.w D (.deferred none)) (λr e=>by cases e;exact ⟨_,hD,rfl⟩);have hp:=List.pairwise_cons.1 h.dis;refine ⟨h.sz,h.dfr,λs A hA=>A.mono e (h.henv s A hA),λy hy=>y.2.stay e (λb hb hDb=>?_) (h.hres y (List.mem_cons_of_mem _ hy)),hp.2,λb ⟨y,hy,hb⟩=>h.own b ⟨y,List.mem_cons_of_mem _ hy,hb⟩,h.ext.trans e (λx hx hDx=>?_)⟩
 .have:=hp.1 y hy D rfl;cases hDb;exact this hb
 .cases hDx;exact (h.own D ⟨(kD,Dq D),List.mem_cons_self,rfl⟩).resolve_left (by omega)
end
def Asn.both(A B:Asn):Asn:=⟨λv g=>A.holds v g/\B.holds v g,λe h=>⟨A.mono e h.1,B.mono e h.2⟩⟩
theorem Opd.eqInt{env:Env}{x:Operand}{q:Int}(hq:inR .i64 q)(h:Opd env x (Asn.eq (.int .i64 q))):Opd env x ((tI .i64).is q):=
 h.weak λv g hv=>⟨[v],⟨by rw [show v=_ from hv],hq⟩,rfl⟩
theorem xB{q q':Int}{v:Value}{g:G}(h:((tI .i64).is q).holds v g)(e:q=q'):(Asn.eq (.int .i64 q')).holds v g:=by
 subst e;obtain ⟨cs,⟨h1,_⟩,h2⟩:=h;show v=_;rw [h2,h1];rfl
theorem Stays.on{g g':G}{w:World}{T:Nat->Prop}(h:Stays g w)(e:Ext T (g.at w) g'):Stays g g'.w:=
 ⟨e.os.trans h.os,e.tape.trans h.tape,e.output.trans h.output,Nat.le_trans h.size e.size,λb i v hv=>(e.kept b i v ⟨hv.1,h.kept b i v hv⟩).2,λb n hv=>(e.rows b n ⟨h.rows b n hv,hv.2⟩).1⟩
section
variable {P:Program} {r:Option Nat} {n:Nat} {N:Nat} {g0:G} {T0:Nat->Prop} {Q:Exit->Act->World->Prop} {env:Env} {res:Rs}
theorem WR.go0{a:Act}{g:G}{w:World}(h:WR P r n [] N g0 T0 c Q env res)(hst:St N g0 T0 env res a g)(hw:g.w=w):c.wpIn (ring r) n P Q a w:=by
 subst hw;have:=h a g hst;rwa [oG] at this
theorem WR.exit{id:Nat}(h:∀ a g,St N g0 T0 env res a g->Q (.exit id) (sh D a) g.w):WR P r n D N g0 T0 (.exit id) Q env res:=λa g hs=>wpIn_exit (h a g hs)
end
theorem EK{id:Nat}{Q:Exit->Act->World->Prop}{a:Act}{w:World}(h:Q .normal a w):Exit.inBlock id Q (.exit id) a w:=by
 show (if id=id then _ else _);rw [if_pos rfl];exact h
theorem DJ{id:Nat}{K:Act->World->Prop}{Q:Exit->Act->World->Prop}{a:Act}{w:World}(h:Q (.exit id) a w):Exit.then K Q (.exit id) a w:=h
end Go.Dec
/-
  A range over a function that hands out a slice's elements from the last to the first, whose body turns a variable: the rounds come in their order.
-/
namespace Go.Dec
open Go Go.RowKit
end Go.Dec
