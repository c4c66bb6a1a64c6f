/-
  Loose slices whose elements' readings may lean on memory: append of one or more elements.
-/
import Derived.Test.YtofaogkcifaioaaDoorDec32
import Derived.Test.YtofaogkcifaioaaDoorDec27
set_option linter.unusedVariables false
set_option linter.unusedSimpArgs false
namespace Go.Dec
open Go
section
variable {P:Program} {env:Env} {res:Rs} {d:Option Tmp} {ty:TypeId} {pos:String} {aft:Array Edge} {gd:Option (Nat×Bool)}
theorem OpR.appendL{α:Type}{t:Ty α}{E T:TypeId}{s x:Operand}{k:Tok}{xs ys v:List α}{key:Nat}(h:Dec.appC xs ys=some v)(hne:ys≠ [])(hT:P.underlying T=some (.slice E))(hE:ElAt P E t)(hs:Opd env s (tU k xs.length))(hx:Opd env x ((tL t).is ys))
  (hr:res.pick [key]= [(key,OwnU t E k xs)]) :
  OpR P ⟨d,.call ⟨.builtin .append,#[s,x],#[T,T]⟩,ty,pos,aft,gd⟩ env res [key] (fun k':Tok=>tU k' v.length) (fun k'=>[(key,OwnU t E k' v)]):=by
 obtain ⟨rfl,hl⟩:=appC_out h
 intro a g K Q hc hd hK
 obtain ⟨i,z,hi,hz,hsz,hby,hzs⟩:=hE.row
 obtain ⟨hv,hc1,hl1⟩:=hs a g hc.henv
 obtain ⟨p,c,hxv,hyc,hyl,hpn,hyrow⟩:=hx.atL hc
 have hres:(OwnU t E k xs).holds g:=hc.hres _ (pick_in hr)
 have hlim:xs.length+ys.length≤lim:=by unfold limA at hl;unfold lim;omega
 have hblk:∀ b,(res.pick [key]).blks b ↔ (k.map Prod.fst)=some b:=blks_pick hr
 have run:∀ v w',(Builtin.append_ #[T,T] ty #[a.eval s,a.eval x]).run P g.w= .ok v w'→K (a.put d v) w'→
   Oper.wp P ⟨d,.call ⟨.builtin .append,#[s,x],#[T,T]⟩,ty,pos,aft,gd⟩ a g.w K Q:=by
  intro v w' hrun hK'
  unfold Oper.wp execOp
  simp only [resolve,invoke,builtin,Sem.run_bind,Sem.run_pure,Result.andThen_ok,List.map_toArray,List.map_cons,List.map_nil,hrun]
  exact hK'
 rw [hv,hxv] at run
 have done:∀ (k':Tok) v g',Ext (res.pick [key]).blks g g'→(tU k' (xs++ys).length).holds v g'→(OwnU t E k' (xs++ys)).holds g'→(∀ b,(k'.map Prod.fst)=some b→(k.map Prod.fst)=some b∨g.w.heap.size≤b)→K (a.put d v) g'.w:=by
  intro k' v g' e h1 h2 h3
  refine hK k' v g' e h1 (fun y hy=>by rw [List.mem_singleton.1 hy];exact h2) (List.pairwise_singleton _ _) ?_
  rintro b ⟨y,hy,hb⟩
  rw [List.mem_singleton.1 hy] at hb
  rcases h3 b hb with h | h
  ·exact .inl ((hblk b).2 h)
  ·exact .inr h
 cases p with
 | none=>exact absurd hyrow hne
 | some ad=>
  obtain ⟨hsp,hyat⟩:=hyrow
  replace hsp:ad.spot=none:=hsp.resolve_left hne
  obtain ⟨bs,os,spot⟩:=ad
  simp at hsp;subst hsp
  obtain ⟨news,hnc,hnh⟩:=Row.cells hyat
  have hypos:=List.length_pos_iff.2 hne
  have hnl:news.length=ys.length*i.size:=by rw [hnc.1,hsz]
  have hnews:∀ (j:Nat) v,news[j]? =some v→g.w.cell? ((⟨bs,os,none⟩:Addr).add j)=some v:=fun j v hj=>by rw [Addr.add_lit];exact (hnh j v hj).2
  cases k with
  | none=>
   have hx0:xs= []:=hres
   subst hx0
   have h48:ys.length*i.bytes≤281474976710656:=by
    have:=Nat.mul_le_mul hl hby
    unfold limA at this
    simp only [List.length_nil,Nat.zero_add] at this
    omega
   have hrun:=run_append_nil (P:=P) g.w T ty E i z hT hi hz ⟨bs,os,none⟩ ys.length c news hnl hnews (by omega) (by unfold lim at hlim;simp at hlim;omega) h48
   refine run _ _ hrun ?_
   have hge:=grownCap_ge g.w ys.length 0 E
   have hcm:grownCap g.w ys.length 0 E≤maxLen:=grownCap_le_maxLen g.w ys.length 0 E (by unfold lim at hlim;unfold maxLen;simp at hlim;omega)
   let cur:Array Value:=news.toArray++Builtin.zeroCells z.cells (grownCap g.w ys.length 0 E-ys.length)
   let g':G:=g.drew.alloc (.cells cur E) 0
   have e:Ext No g g':=(Ext.drew No g).trans' (Ext.alloc No _ _ _)
   have hheap:g'.w.heap[g.w.heap.size]? =some (.cells cur E (0,0)):=heap_alloc_new g.w.drew _
   refine done (some (g.w.heap.size,grownCap g.w ys.length 0 E)) _ g' e.no ⟨by simp [Tok.addr,Tok.cap],by simpa [Tok.cap] using hge,by simpa using hyl⟩ ?_ (fun b hb=>by simp at hb;exact .inr (by omega))
   refine ⟨cur,hheap,?_,by simpa using hge,hcm,?_,?_⟩
   ·simp only [cur,Array.size_append,List.size_toArray,size_zeroCells,hzs,hnc.1,←Nat.add_mul]
    congr 1;omega
   ·show (if g.w.heap.size=g.w.heap.size then _ else _)=_
    rw [if_pos rfl]
   ·have:cur.toList.take (([]++ys).length*t.size)=news:=by
     simp only [cur,List.nil_append,Array.toList_append]
     rw [List.take_append_of_le_length (by simp [hnc.1])]
     simp [←hnc.1]
    rw [this]
    exact hnc.mono e
  | some q=>
   obtain ⟨cur,hheap,hcs,hncap,hcm,hS,hcl⟩:=hres
   have hold:∀ (j:Nat) v,(cur.toList.take (xs.length*i.size))[j]? =some v→g.w.cell? ((⟨q.1,0,none⟩:Addr).add j)=some v:=fun j v hj=>by
    rw [Addr.add_lit,cell_of_row _ _ _ _ _ _ hheap]
    rw [List.getElem?_take] at hj
    split at hj
    ·simpa using hj
    ·cases hj
   have holdl:(cur.toList.take (xs.length*i.size)).length=xs.length*i.size:=by
    have hcl:cur.toList.length=cur.size:=by simp
    rw [List.length_take,hcl]
    exact Nat.min_eq_left (by rw [hcs,hsz];exact Nat.mul_le_mul_right _ hncap)
   rw [←hsz] at hcl
   by_cases hroom:xs.length+ys.length≤q.2
   ·have hfit:xs.length*i.size+news.length≤cur.size:=by rw [hnl,hcs,←hsz,←Nat.add_mul];exact Nat.mul_le_mul_right _ hroom
    have hrun:=run_append_room (P:=P) g.w T ty E i hT hi q.1 xs.length q.2 cur hheap ⟨bs,os,none⟩ ys.length c news hnl hnews hnc.2.1 hroom hfit
    refine run _ _ hrun ?_
    let new:Array Value:=(cur.toList.take (xs.length*i.size)++news++cur.toList.drop (xs.length*i.size+news.length)).toArray
    let g':G:=⟨g.w.setRow q.1 new,fun x=>if x=q.1 then 0 else g.S x⟩
    have hnew:∀ i' v,i'< g.S q.1→cur[i']? =some v→new[i']? =some v:=by
     intro i' v h1 h2
     rw [hS] at h1;omega
    have e:Ext (fun x=>x=q.1) g g':=ext_row hheap (by rw [hS];exact Nat.le_refl _) hnew (fun _=>by simp [new];omega)
    have e':Ext (res.pick [key]).blks g g':=e.mono fun x hx=>(hblk x).2 (by simp [hx])
    have hheap':g'.w.heap[q.1]? =some (.cells new E (0,0)):=setRow_heap g.w q.1 cur new E _ hheap
    refine done (some q) _ g' e' ⟨by simp [Tok.addr,Tok.cap],by simpa [Tok.cap] using hroom,by simpa using hlim⟩ ?_ (fun b hb=>.inl hb)
    refine ⟨new,hheap',?_,by simpa using hroom,hcm,?_,?_⟩
    ·simp only [new,List.size_toArray,List.length_append,holdl,List.length_drop,Array.length_toList]
     omega
    ·show (if q.1=q.1 then _ else _)=_
     rw [if_pos rfl]
    ·have:new.toList.take ((xs++ys).length*t.size)=cur.toList.take (xs.length*i.size)++news:=by
      simp only [new]
      have hlen1:(cur.toList.take (xs.length*i.size)++news).length=(xs++ys).length*t.size:=by rw [List.length_append,holdl,hnl,←Nat.add_mul,List.length_append,hsz]
      rw [List.take_append_of_le_length (by rw [hlen1];exact Nat.le_refl _),←hlen1,List.take_length]
     rw [this]
     exact (hcl.mono e).append (hnc.mono e)
   ·have hfit2:Builtin.nextslicecap (xs.length+ys.length) q.2*i.bytes≤281474976710656:=growslice_fits (by omega) (by
     have:=Nat.mul_le_mul hl hby
     unfold limA at this
     omega)
    have hrun:=run_append_grow (P:=P) g.w T ty E i z hT hi hz ⟨q.1,0,none⟩ xs.length q.2 _ holdl hold ⟨bs,os,none⟩ ys.length c news hnl hnews (by omega) (by unfold lim at hlim;omega) hfit2
    refine run _ _ hrun ?_
    have hge:=grownCap_ge g.w (xs.length+ys.length) q.2 E
    have hcm':grownCap g.w (xs.length+ys.length) q.2 E≤maxLen:=grownCap_le_maxLen g.w _ q.2 E (by unfold lim at hlim;unfold maxLen;omega)
    let cur':Array Value:=(cur.toList.take (xs.length*i.size)).toArray++news.toArray++Builtin.zeroCells z.cells (grownCap g.w (xs.length+ys.length) q.2 E-(xs.length+ys.length))
    let g':G:=g.drew.alloc (.cells cur' E) 0
    have e:Ext No g g':=(Ext.drew No g).trans' (Ext.alloc No _ _ _)
    have hheap':g'.w.heap[g.w.heap.size]? =some (.cells cur' E (0,0)):=heap_alloc_new g.w.drew _
    refine done (some (g.w.heap.size,grownCap g.w (xs.length+ys.length) q.2 E)) _ g' e.no ⟨by simp [Tok.addr,Tok.cap],by simpa [Tok.cap] using hge,by simpa using hlim⟩ ?_ (fun b hb=>by simp at hb;exact .inr (by omega))
    refine ⟨cur',hheap',?_,by simpa using hge,hcm',?_,?_⟩
    ·have e1:(cur.toList.take (xs.length*i.size)).toArray.size=xs.length*t.size:=by rw [List.size_toArray,holdl,hsz]
     simp only [cur',Array.size_append,e1,List.size_toArray,hnc.1,size_zeroCells,hzs,←Nat.add_mul]
     congr 1;omega
    ·show (if g.w.heap.size=g.w.heap.size then _ else _)=_
     rw [if_pos rfl]
    ·have:cur'.toList.take ((xs++ys).length*t.size)=cur.toList.take (xs.length*i.size)++news:=by
      simp only [cur',Array.toList_append]
      have hlen1:(cur.toList.take (xs.length*i.size)++news).length=(xs++ys).length*t.size:=by rw [List.length_append,holdl,hnl,←Nat.add_mul,List.length_append,hsz]
      rw [List.take_append_of_le_length (by rw [hlen1];exact Nat.le_refl _),←hlen1,List.take_length]
     rw [this]
     exact (hcl.mono e).append (hnc.mono e)
theorem OpR.loosen{α:Type}{t:Ty α}(hF:Flat t){E:TypeId}{o:Oper}{key:Nat}{xs:List α}(h:OpR P o env res [] (fun k:Tok=>tO t k xs) (fun k=>[(key,Own t E k xs.length)])) :
  OpR P o env res [] (fun k:Tok=>tU k xs.length) (fun k=>[(key,OwnU t E k xs)]):=by
 intro a g K Q hc hd hK
 refine h a g K Q hc hd fun k v g1 e hv ho _ hob=>?_
 have ho':(Own t E k xs.length).holds g1:=ho _ (List.mem_singleton.2 rfl)
 obtain ⟨hv1,hv2,hv3,hv4⟩:=hv
 have hk:∀ b,k.map Prod.fst=some b→((res.pick []).blks b∧g.S b=0)∨g.w.heap.size≤b:=fun b hb=>by
  rcases hob b ⟨_,List.mem_singleton.2 rfl,hb⟩ with ⟨y,hy,_⟩ | h1
  ·have:=(List.mem_filter.1 hy).2
   simp [memB] at this
  ·exact .inr h1
 refine hK k v (g1.fixd k 0) (e.loose hk) ⟨hv1,hv2,hv3⟩ (fun y hy=>?_) (List.pairwise_singleton _ _) ?_
 ·rw [List.mem_singleton.1 hy]
  exact OwnU.loose hF ho' hv4
 ·rintro b ⟨y,hy,hb⟩
  rw [List.mem_singleton.1 hy] at hb
  exact (hk b hb).imp (fun h=>h.1) id
end
def tUT{α:Type}(k:Tok):Ty (List α) where
 size:=1
 agg:=false
 rep:=fun _ cs xs=>cs= [.slice k.addr xs.length k.cap]∧xs.length≤k.cap∧xs.length≤lim
 len:=fun ⟨h,_⟩=>by rw [h];rfl
 one:=fun ⟨h,_⟩ c hc=>by
  rw [h] at hc
  rw [List.mem_singleton.1 hc];rfl
 mono:=fun _ h=>h
 sing:=fun _=>rfl
section
variable {P:Program} {env:Env} {res:Rs}
theorem Opd.toUT{α:Type}{k:Tok}{x:Operand}{xs:List α}(h:Opd env x (tU k xs.length)):Opd env x ((tUT k).is xs):=h.weak fun v g ⟨h1,h2,h3⟩=>⟨[v],⟨by rw [h1],h2,h3⟩,rfl⟩
theorem Op1.ofUT{α:Type}{k:Tok}{xs:List α}{o:Oper}(h:Op1 P o env res ((tUT k).is xs)):Op1 P o env res (tU k xs.length):=h.weak fun v g ⟨cs,⟨h1,h2,h3⟩,h4⟩=>by
 subst h1
 exact ⟨h4,h2,h3⟩
end
theorem CvT.gr{g:G}{α:Type}{t:Ty α}{E:TypeId}{k:Tok}{x xs:List α}(h:(Grown t E k xs).holds g)(hl:x.length=xs.length):CvT g (tUT k) (tL t) x xs:=fun cs ⟨h1,h2,h3⟩=>by
 refine ⟨k.addr,k.cap,by rw [h1,hl],by omega,by omega,fun hk=>?_,h.2⟩
 cases k with
 | none=>rfl
 | some p=>cases hk
section
variable {P:Program} {N:Nat} {g0:G} {T0:Nat→Prop} {env:Env} {res:Rs}
theorem St.fixG{α:Type}{t:Ty α}{E:TypeId}{k:Tok}{xs:List α}{key:Nat}(hr:findR key res=some (OwnU t E k xs)){a:Act}{g:G}(h:St N g0 T0 env res a g) :
  ∃ g',g'.w=g.w∧St N g0 T0 env ((key,Grown t E k xs) :: res.drop [key]) a g':=by
 have hin:=findR_mem hr
 have hres:(OwnU t E k xs).holds g:=h.hres _ hin
 obtain ⟨e,hown,hrow⟩:=OwnU.fixd hres
 have hd:∀ y∈res.drop [key],y∈res∧y.1≠key:=fun y hy=>by
  have:=List.mem_filter.1 hy
  refine ⟨this.1,fun e=>?_⟩
  have h3:=this.2
  rw [memB_iff.2 (show y.1∈ [key] by rw [e];simp)] at h3;cases h3
 refine ⟨g.fixd k (xs.length*t.size),rfl,h.sz,h.dfr,fun s A hA=>A.mono e (h.henv s A hA),fun y hy=>?_,?_,fun b' ⟨y,hy,hb⟩=>?_,?_⟩
 ·rcases List.mem_cons.1 hy with rfl | hy
  ·exact ⟨hown,hrow⟩
  ·refine y.2.stay e (fun b' hb' hT=>?_) (h.hres y (hd y hy).1)
   exact h.dis.two y (hd y hy).1 _ hin (hd y hy).2 b' hb' hT
 ·refine List.pairwise_cons.2 ⟨fun y hy b' hb'=>?_,h.dis.filter _⟩
  exact h.dis.two _ hin _ (hd y hy).1 (Ne.symm (hd y hy).2) b' hb'
 ·rcases List.mem_cons.1 hy with rfl | hy
  ·exact h.own b' ⟨_,hin,hb⟩
  ·exact h.own b' ⟨y,(hd y hy).1,hb⟩
 ·refine h.ext.trans e (fun x hx hT=>?_)
  rcases h.own x ⟨_,hin,hT⟩ with h1 | h1
  ·omega
  ·exact h1
theorem WL.fixG{ops:Array Oper}{Q:Exit→Act→World→Prop}{l:List Oper}{α:Type}{t:Ty α}{E:TypeId}{k:Tok}{xs:List α}(key:Nat)(hr:findR key res=some (OwnU t E k xs))
  (h:WL P N g0 T0 ops Q l env ((key,Grown t E k xs) :: res.drop [key])):WL P N g0 T0 ops Q l env res:=by
 intro a g hst
 obtain ⟨g',h1,h2⟩:=hst.fixG hr
 have:=h a g' h2
 rw [h1] at this
 exact this
end
section
variable {P:Program} {env:Env} {res:Rs} {d:Option Tmp} {ty:TypeId} {pos:String} {aft:Array Edge} {gd:Option (Nat×Bool)}
theorem OpR.storeUF{α β:Type}{t:Ty α}{t2:Ty β}{E T:TypeId}{upd:α→β→α}{x y:Operand}{k:Tok}{xs:List α}{i:Int}{u:α}{w:β}{o key:Nat}(h:Dec.idx xs i=some u)(ht:TyAt P T t2)(hF:FldSet t o t2 upd)(hx:Opd env x (Bp (bk k) (i.toNat*t.size+o)))(hy:Opd env y (t2.is w))(hr:res.pick [key]= [(key,OwnU t E k xs)]) :
  OpR P ⟨none,.store T x y,ty,pos,aft,gd⟩ env res [key] (fun _:Unit=>Asn.any) (fun _=>[(key,OwnU t E k (xs.set i.toNat (upd u w)))]):=by
 obtain ⟨hi0,hil,hiu⟩:=idx_in h
 intro a g K Q hc hd hK
 have hres:(OwnU t E k xs).holds g:=hc.hres _ (pick_in hr)
 cases k with
 | none=>
  have hx:xs= []:=hres
  rw [hx] at hil;simp at hil
 | some p=>
  obtain ⟨cur,h1,h2,h3,h4,h5,h6⟩:=hres
  generalize i.toNat=m at hil hiu hx hK ⊢
  have hv:a.eval x= .pointer (some ⟨p.1,m*t.size+o,none⟩):=hx a g hc.henv
  obtain ⟨ds,k1,k2⟩:=hy a g hc.henv
  have hdl:=t2.len k1
  have hvc:(a.eval y).cells=ds.toArray:=by rw [k2];exact t2.cells k1
  obtain ⟨us,u1,u2⟩:=h6.2.2 m u hiu
  have hul:=t.len u1
  obtain ⟨f1,_⟩:=hF g us ds u w u1 k1
  have hm1:=Nat.mul_le_mul_right t.size (show m+1≤xs.length by omega)
  have hm2:=Nat.mul_le_mul_right t.size h3
  rw [Nat.add_mul,Nat.one_mul] at hm1
  have hcl:cur.toList.length=p.2*t.size:=by simpa using h2
  have hrun:=storeVar_cells (P:=P) (cur:=cur.toList) (ds:=ds) (v:=a.eval y) (o:=m*t.size+o) ht.size (by simpa using h1) hvc hdl (by omega) (t2.one k1)
  have hex:(execOp a.eval ⟨none,.store T x y,ty,pos,aft,gd⟩).run P g.w= .ok .skip (g.w.setRow p.1 (over cur.toList (m*t.size+o) ds).toArray):=by
   simp [execOp,hv,Instr.storeAt,Instr.sureAddr,hrun]
  show Oper.upon P _ a K Q ((execOp a.eval _).run P g.w)
  rw [hex]
  have ho:m*t.size+o+ds.length≤cur.toList.length:=by omega
  let g':G:=⟨g.w.setRow p.1 (over cur.toList (m*t.size+o) ds).toArray,fun x=>if x=p.1 then 0 else g.S x⟩
  have e:Ext (fun x=>x=p.1) g g':=ext_row h1 (by omega) (fun i v hi _=>by omega) (fun h=>by omega)
  have hheap':g'.w.heap[p.1]? =some (.cells (over cur.toList (m*t.size+o) ds).toArray E (0,0)):=setRow_heap g.w p.1 cur _ E _ h1
  refine hK () undef g' (e.mono (fun x hx=>(blks_pick hr x).2 (by rw [show x=p.1 from hx];rfl))) trivial (fun y hy=>?_) (List.pairwise_singleton _ _) (fun b' hb'=>.inl ((blks_pick hr b').2 ?_))
  ·rw [List.mem_singleton.1 hy]
   refine ⟨_,hheap',by rw [List.size_toArray,over_length ho,hcl],by simpa using h3,h4,if_pos rfl,?_,?_,?_⟩
   ·rw [List.length_take,List.length_set,over_length ho];omega
   ·intro c hcm
    obtain ⟨j,hj⟩:=List.getElem?_of_mem hcm
    rw [List.getElem?_take] at hj
    split at hj
    ·rename_i hjl
     simp only [List.length_set] at hjl
     have hj:(over cur.toList (m*t.size+o) ds)[j]? =some c:=hj
     rw [over_get ho] at hj
     split at hj
     ·exact t2.one k1 c (List.mem_of_getElem? hj)
     ·refine h6.2.1 c (List.mem_of_getElem? (i:=j) ?_)
      rw [List.getElem?_take,if_pos hjl];exact hj
    ·cases hj
   ·intro j z hz
    by_cases hjm:j=m
    ·subst hjm
     rw [List.getElem?_set_self hil] at hz
     cases hz
     refine ⟨over us o ds,(hF g' us ds u w (t.mono e u1) (t2.mono e k1)).2,fun q w' hq=>?_⟩
     have hql:=(List.getElem?_eq_some_iff.1 hq).1
     rw [over_length f1] at hql
     rw [List.getElem?_take,if_pos (by rw [List.length_set];omega)]
     show (over cur.toList (j*t.size+o) ds)[j*t.size+q]? =some w'
     rw [over_get f1] at hq
     rw [over_get ho]
     by_cases hqo:o≤q∧q<o+ds.length
     ·rw [if_pos hqo] at hq
      rw [if_pos (by omega),show j*t.size+q-(j*t.size+o)=q-o by omega]
      exact hq
     ·rw [if_neg hqo] at hq
      rw [if_neg (by omega)]
      have h7:=u2 q w' hq
      rw [List.getElem?_take] at h7
      split at h7
      ·exact h7
      ·cases h7
    ·rw [List.getElem?_set_ne (fun h=>hjm h.symm)] at hz
     obtain ⟨es,q1,q2⟩:=h6.2.2 j z hz
     refine ⟨es,t.mono e q1,fun q w hq=>?_⟩
     have hql:=(List.getElem?_eq_some_iff.1 hq).1
     have hel:=t.len q1
     have h7:=q2 q w hq
     rw [List.getElem?_take] at h7
     split at h7
     ·rename_i hlt
      rw [List.getElem?_take,if_pos (by rw [List.length_set];exact hlt)]
      show (over cur.toList (m*t.size+o) ds)[j*t.size+q]? =some w
      rw [over_get ho,if_neg ?_]
      ·exact h7
      ·rcases Nat.lt_or_ge j m with hlt' | hge
       ·have:=Nat.mul_le_mul_right t.size (show j+1≤m by omega)
        rw [Nat.add_mul,Nat.one_mul] at this
        omega
       ·have:=Nat.mul_le_mul_right t.size (show m+1≤j by omega)
        rw [Nat.add_mul,Nat.one_mul] at this
        omega
     ·cases h7
  ·obtain ⟨y,hy,hyb⟩:=hb'
   rw [List.mem_singleton.1 hy] at hyb
   exact hyb
end
end Go.Dec
