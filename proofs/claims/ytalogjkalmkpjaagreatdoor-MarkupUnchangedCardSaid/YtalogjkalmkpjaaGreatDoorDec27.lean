/-
  Slices of the call's own whose elements may still be written: what they are stands in the resource. Their elements' readings do not lean on memory.
-/
import Derived.Test.YtalogjkalmkpjaaGreatDoorDec26
set_option linter.unusedVariables false
set_option linter.unusedSimpArgs false
namespace Go.Dec
open Go
def Flat{α:Type}(t:Ty α):Prop:=∀ g g' cs x,t.rep g cs x→t.rep g' cs x
theorem Flat.S:Flat tS:=fun _ _ _ _ h=>h
theorem Flat.I{k:IntKind}:Flat (tI k):=fun _ _ _ _ h=>h
theorem Flat.B:Flat tB:=fun _ _ _ _ h=>h
theorem Flat.pair{α β:Type}{s:Ty α}{t:Ty β}(h:Flat s)(k:Flat t):Flat (tP s t):=fun g g' cs x ⟨c1,c2,e,h1,h2⟩=>⟨c1,c2,e,h g g' _ _ h1,k g g' _ _ h2⟩
theorem Flat.one{α:Type}{s:Ty α}(h:Flat s):Flat (tOne s):=h
theorem Flat.map{α β:Type}{t:Ty β}(h:Flat t)(m:α→β):Flat (tMap t m):=fun g g' cs x hx=>h g g' cs (m x) hx
def Tok.blk(k:Tok):Option Nat:=k.map Prod.fst
def tU(k:Tok)(n:Nat):Asn:=⟨fun v _=>v= .slice k.addr n k.cap∧n≤k.cap∧n≤lim,fun _ h=>h⟩
def OwnU{α:Type}(t:Ty α)(E:TypeId)(k:Tok)(xs:List α):Res where
 blk:=fun x=>k.map Prod.fst=some x
 holds:=fun g=>match k with
  | none=>xs= []
  | some p=>∃ cur,g.w.heap[p.1]? =some (.cells cur E (0,0))∧cur.size=p.2*t.size∧xs.length≤p.2∧p.2≤maxLen∧g.S p.1=0∧Cells t g (cur.toList.take (xs.length*t.size)) xs
 stay:=fun {T g g'} e hn h=>by
  cases k with
  | none=>exact h
  | some p=>
   obtain ⟨cur,h1,h2,h3,h4,h5,h6⟩:=h
   have hlt:p.1<g.w.heap.size:=(Array.getElem?_eq_some_iff.1 h1).1
   have:=e.same p.1 hlt (hn p.1 rfl)
   exact ⟨cur,this.1.trans h1,h2,h3,h4,this.2.trans h5,h6.mono e⟩
 lt:=fun {g b} h hb=>by
  cases k with
  | none=>cases hb
  | some p=>
   obtain ⟨cur,h1,_⟩:=h
   have hlt:p.1<g.w.heap.size:=(Array.getElem?_eq_some_iff.1 h1).1
   cases hb
   exact hlt
def G.fixd(g:G)(k:Tok)(s:Nat):G:=⟨g.w,fun x=>if k.map Prod.fst=some x then s else g.S x⟩
theorem OwnU.zero{α:Type}{t:Ty α}{E:TypeId}{k:Tok}{xs:List α}{g:G}(h:(OwnU t E k xs).holds g){b:Nat}(hb:k.map Prod.fst=some b):g.S b=0:=by
 cases k with
 | none=>cases hb
 | some p=>
  obtain ⟨cur,h1,h2,h3,h4,h5,h6⟩:=h
  cases hb
  exact h5
theorem OwnU.fixd{α:Type}{t:Ty α}{E:TypeId}{k:Tok}{xs:List α}{g:G}(h:(OwnU t E k xs).holds g) :
  Ext (fun b=>k.map Prod.fst=some b) g (g.fixd k (xs.length*t.size))∧(Own t E k xs.length).holds (g.fixd k (xs.length*t.size))∧Row t (g.fixd k (xs.length*t.size)) k.addr xs:=by
 have e:Ext (fun b=>k.map Prod.fst=some b) g (g.fixd k (xs.length*t.size)):=by
  refine ⟨rfl,rfl,rfl,Nat.le_refl _,fun x _ hn=>⟨rfl,?_⟩,fun x i v hv=>⟨?_,hv.2⟩,fun x n hv=>?_⟩
  ·show (if _ then _ else _)=_
   rw [if_neg hn]
  ·show i<(if _ then _ else _)
   by_cases hx:k.map Prod.fst=some x
   ·have:=OwnU.zero h hx
    have h2:=hv.1
    omega
   ·rw [if_neg hx];exact hv.1
  ·by_cases hx:k.map Prod.fst=some x
   ·exact (hv.pos (OwnU.zero h hx)).elim
   ·refine hv.same rfl ?_
    show g.S x≤if _ then _ else _
    rw [if_neg hx];exact Nat.le_refl _
 refine ⟨e,?_⟩
 cases k with
 | none=>
  have hx:xs= []:=h
  subst hx
  exact ⟨rfl,rfl⟩
 | some p=>
  obtain ⟨cur,h1,h2,h3,h4,h5,h6⟩:=h
  have hS:(g.fixd (some p) (xs.length*t.size)).S p.1=xs.length*t.size:=if_pos rfl
  refine ⟨⟨cur,h1,h2,h3,h4,hS⟩,(h6.mono e).row fun j v hj=>⟨?_,?_⟩⟩
  ·rw [hS]
   have:=(List.getElem?_eq_some_iff.1 hj).1
   rw [h6.1] at this;omega
  ·show g.w.cell? ⟨p.1,0+j,none⟩=some v
   rw [cell_of_row _ _ _ _ _ _ h1,Nat.zero_add]
   rw [List.getElem?_take] at hj
   split at hj
   ·simpa using hj
   ·cases hj
theorem Ext.loose{T:Nat→Prop}{g g1:G}(e:Ext T g g1){k:Tok}(hk:∀ b,k.map Prod.fst=some b→(T b∧g.S b=0)∨g.w.heap.size≤b):Ext T g (g1.fixd k 0):=by
 refine ⟨e.os,e.tape,e.output,e.size,fun b hb hn=>⟨(e.same b hb hn).1,?_⟩,fun b i v hv=>⟨?_,(e.kept b i v hv).2⟩,fun b n hv=>(e.rows b n hv).same rfl ?_⟩
 ·show (if _ then _ else _)=_
  by_cases h:k.map Prod.fst=some b
  ·rcases hk b h with h1 | h1
   ·exact absurd h1.1 hn
   ·omega
  ·rw [if_neg h];exact (e.same b hb hn).2
 ·show i<(if _ then _ else _)
  by_cases h:k.map Prod.fst=some b
  ·rcases hk b h with h1 | h1
   ·have:=hv.1;omega
   ·have:=hv.lt;omega
  ·rw [if_neg h];exact (e.kept b i v hv).1
 ·show g1.S b≤(if _ then _ else _)
  by_cases h:k.map Prod.fst=some b
  ·rcases hk b h with h1 | h1
   ·exact (hv.pos h1.2).elim
   ·have:=hv.lt;omega
  ·rw [if_neg h];exact Nat.le_refl _
theorem OwnU.loose{α:Type}{t:Ty α}(hF:Flat t){E:TypeId}{k:Tok}{xs:List α}{g:G}(h:(Own t E k xs.length).holds g)(hr:Row t g k.addr xs):(OwnU t E k xs).holds (g.fixd k 0):=by
 cases k with
 | none=>exact hr
 | some p=>
  obtain ⟨cur,h1,h2,h3,h4,h5⟩:=h
  have hr:Row t g (some ⟨p.1,0,none⟩) xs:=hr
  obtain ⟨olds,hoc,hoh⟩:=Row.cells hr.2
  have hcl:cur.toList.length=cur.size:=by simp
  have hml:=Nat.mul_le_mul_right t.size h3
  have heq:olds=cur.toList.take (xs.length*t.size):=by
   apply List.ext_getElem?
   intro j
   by_cases hj:j<olds.length
   ·have h1':=(hoh j _ (List.getElem?_eq_getElem hj)).2
    rw [cell_of_row _ _ _ _ _ _ h1] at h1'
    rw [List.getElem?_eq_getElem hj,List.getElem?_take,if_pos (by rw [←hoc.1];exact hj)]
    simpa using h1'.symm
   ·rw [List.getElem?_eq_none (by omega),List.getElem?_eq_none (by rw [List.length_take,←hoc.1,hcl];omega)]
  refine ⟨cur,h1,h2,h3,h4,if_pos rfl,?_⟩
  rw [←heq]
  exact ⟨hoc.1,hoc.2.1,fun i x hx=>let ⟨ds,k1,k2⟩:=hoc.2.2 i x hx;⟨ds,hF _ _ _ _ k1,k2⟩⟩
section
variable {P:Program} {N:Nat} {g0:G} {T0:Nat→Prop} {ks:List KF} {B:Exit→Act→World→Prop} {env:Env} {res:Rs} {d:Option Tmp} {ty:TypeId} {pos:String} {aft:Array Edge} {gd:Option (Nat×Bool)}
theorem pick_in{key:Nat}{R:Res}(hr:res.pick [key]= [(key,R)]):(key,R)∈res:=by
 have:(key,R)∈res.pick [key]:=by rw [hr];exact List.mem_singleton.2 rfl
 exact (List.mem_filter.1 this).1
theorem blks_pick{key:Nat}{R:Res}(hr:res.pick [key]= [(key,R)])(b:Nat):(res.pick [key]).blks b ↔ R.blk b:=by
 rw [hr]
 constructor
 ·rintro ⟨y,hy,hb⟩
  rw [List.mem_singleton.1 hy] at hb;exact hb
 ·intro hb
  exact ⟨_,List.mem_singleton.2 rfl,hb⟩
theorem Op1.lenU{k:Tok}{n:Nat}{x:Operand}{T e:TypeId}(hT:P.underlying T=some (.slice e))(h:Opd env x (tU k n)) :
  Op1 P ⟨d,.call ⟨.builtin .len,#[x],#[T]⟩,ty,pos,aft,gd⟩ env res ((tI .i64).is (n:Int)):=
 Op1.same fun a g hc=>by
  obtain ⟨hv,_,h3⟩:=h a g hc.henv
  exact ⟨.int .i64 n,by simp [execOp,resolve,invoke,builtin,Builtin.len_,run_underlying hT,hv,goInt],Asn.int (inRlen h3)⟩
theorem idx_in{α:Type}{xs:List α}{i:Int}{u:α}(h:Dec.idx xs i=some u):0≤i∧i.toNat<xs.length∧xs[i.toNat]? =some u:=by
 unfold Dec.idx at h
 split at h
 ·rename_i h0
  exact ⟨h0,(List.getElem?_eq_some_iff.1 h).1,h⟩
 ·cases h
theorem Op1.idxU{α:Type}{t:Ty α}{T E:TypeId}{x y:Operand}{k:Tok}{xs:List α}{i:Int}{u:α}(h:Dec.idx xs i=some u)(hT:P.underlying T=some (.slice E))(hsz:∀ w,(sizeOf E).run P w= .ok t.size w)(hx:Opd env x (tU k xs.length))(hy:Opd env y ((tI .i64).is i)) :
  Op1 P ⟨d,.indexAddr T x y,ty,pos,aft,gd⟩ env res (Bp (bk k) (i.toNat*t.size)):=
 Op1.same fun a g hc=>by
  obtain ⟨hv,h1,h2⟩:=hx a g hc.henv
  have hi:=(hy.atInt hc).1
  obtain ⟨q0,q1,_⟩:=idx_in h
  cases k with
  | none=>
   have:xs.length≤0:=h1
   omega
  | some p=>
   refine ⟨.pointer (some ((⟨p.1,0,none⟩:Addr).add (i.toNat*t.size))),?_,?_⟩
   ·have hlt:i<(xs.length:Int):=by omega
    simp [execOp,Instr.indexAt,asIntOf,hv,hi,run_underlying hT,hsz,Tok.addr,q0,hlt]
   ·rw [Addr.add_lit,Nat.zero_add];rfl
theorem OwnU.cells{α:Type}{t:Ty α}{E:TypeId}{k:Tok}{xs:List α}{i:Nat}{u:α}{g:G}(h:(OwnU t E k xs).holds g)(hi:xs[i]? =some u):∃ cur ds,g.w.heap[bk k]? =some (.cells cur E (0,0))∧t.rep g ds u∧i*t.size+t.size≤cur.size∧ ∀ (j:Nat) v,ds[j]? =some v→cur[i*t.size+j]? =some v:=by
 cases k with
 | none=>
  have h:xs= []:=h
  rw [h] at hi;cases hi
 | some p=>
  obtain ⟨cur,h1,h2,h3,h4,h5,h6⟩:=h
  obtain ⟨ds,k1,k2⟩:=h6.2.2 i u hi
  have hlt:=(List.getElem?_eq_some_iff.1 hi).1
  refine ⟨cur,ds,h1,k1,?_,fun j v hj=>?_⟩
  ·have:=Nat.mul_le_mul_right t.size (show i+1≤p.2 by omega)
   rw [Nat.add_mul,Nat.one_mul] at this
   omega
  ·have:=k2 j v hj
   rw [List.getElem?_take] at this
   split at this
   ·simpa using this
   ·cases this
theorem Op1.loadU{α:Type}{t:Ty α}{E:TypeId}{x:Operand}{k:Tok}{xs:List α}{i:Int}{u:α}(key:Nat)(h:Dec.idx xs i=some u)(ht:TyAt P E t)(hr:findR key res=some (OwnU t E k xs))(hx:Opd env x (Bp (bk k) (i.toNat*t.size))) :
  Op1 P ⟨d,.load E x,ty,pos,aft,gd⟩ env res (t.is u):=
 Op1.same fun a g hc=>by
  obtain ⟨_,_,q2⟩:=idx_in h
  obtain ⟨cur,ds,h1,k1,_,k3⟩:=OwnU.cells (hc.hres _ (findR_mem hr)) q2
  have hv:a.eval x= .pointer (some ⟨bk k,i.toNat*t.size,none⟩):=hx a g hc.henv
  have:=loadVar_cells (P:=P) ht.agg ht.size (w:=g.w) (b:=bk k) (o:=i.toNat*t.size) (t.len k1) t.sing (fun j v hj=>by
   rw [cell_of_row _ _ _ _ _ _ h1]
   exact k3 j v hj)
  exact ⟨mkVal t.agg ds,by simp [execOp,hv,Instr.loadAt,Instr.sureAddr,this],ds,k1,rfl⟩
theorem setC_out{α:Type}{xs v:List α}{i:Int}{u:α}(h:setC xs i u=some v):0≤i∧i.toNat<xs.length∧v=xs.set i.toNat u:=by
 unfold setC at h
 split at h
 ·rename_i hc
  cases h
  exact ⟨hc.1,hc.2,rfl⟩
 ·cases h
theorem setC_len{α:Type}{xs v:List α}{i:Int}{u:α}(h:setC xs i u=some v):xs.length=v.length:=by
 rw [(setC_out h).2.2];simp
theorem OpR.storeU{α:Type}{t:Ty α}{E:TypeId}{x y:Operand}{k:Tok}{xs v:List α}{i:Int}{u:α}{key:Nat}(h:setC xs i u=some v)(ht:TyAt P E t)(hx:Opd env x (Bp (bk k) (i.toNat*t.size)))(hy:Opd env y (t.is u))(hr:res.pick [key]= [(key,OwnU t E k xs)]) :
  OpR P ⟨none,.store E x y,ty,pos,aft,gd⟩ env res [key] (fun _:Unit=>Asn.any) (fun _=>[(key,OwnU t E k v)]):=by
 obtain ⟨hi0,hil,rfl⟩:=setC_out h
 intro a g K Q hc hd hK
 have hres:(OwnU t E k xs).holds g:=hc.hres _ (pick_in hr)
 cases k with
 | none=>
  have hx:xs= []:=hres
  rw [hx] at hil;simp at hil
 | some p=>
  obtain ⟨cur,h1,h2,h3,h4,h5,h6⟩:=hres
  generalize i.toNat=m at hil hx hK ⊢
  have hv:a.eval x= .pointer (some ⟨p.1,m*t.size,none⟩):=hx a g hc.henv
  obtain ⟨ds,k1,k2⟩:=hy a g hc.henv
  have hdl:=t.len k1
  have hvc:(a.eval y).cells=ds.toArray:=by rw [k2];exact t.cells k1
  have hm1:=Nat.mul_le_mul_right t.size (show m+1≤xs.length by omega)
  have hm2:=Nat.mul_le_mul_right t.size h3
  rw [Nat.add_mul,Nat.one_mul] at hm1
  have hcl:cur.toList.length=p.2*t.size:=by simpa using h2
  have hrun:=storeVar_cells (P:=P) (cur:=cur.toList) (ds:=ds) (v:=a.eval y) (o:=m*t.size) ht.size (by simpa using h1) hvc hdl (by omega) (t.one k1)
  have hex:(execOp a.eval ⟨none,.store E x y,ty,pos,aft,gd⟩).run P g.w= .ok .skip (g.w.setRow p.1 (over cur.toList (m*t.size) ds).toArray):=by
   simp [execOp,hv,Instr.storeAt,Instr.sureAddr,hrun]
  show Oper.upon P _ a K Q ((execOp a.eval _).run P g.w)
  rw [hex]
  have ho:m*t.size+ds.length≤cur.toList.length:=by omega
  let g':G:=⟨g.w.setRow p.1 (over cur.toList (m*t.size) ds).toArray,fun x=>if x=p.1 then 0 else g.S x⟩
  have e:Ext (fun x=>x=p.1) g g':=ext_row h1 (by omega) (fun i v hi _=>by omega) (fun h=>by omega)
  have hheap':g'.w.heap[p.1]? =some (.cells (over cur.toList (m*t.size) ds).toArray E (0,0)):=setRow_heap g.w p.1 cur _ E _ h1
  refine hK () undef g' (e.mono (fun x hx=>(blks_pick hr x).2 (by rw [show x=p.1 from hx];rfl))) trivial (fun y hy=>?_) (List.pairwise_singleton _ _) (fun b' hb'=>.inl ((blks_pick hr b').2 ?_))
  ·rw [List.mem_singleton.1 hy]
   refine ⟨_,hheap',by rw [List.size_toArray,over_length ho,hcl],by simpa using h3,h4,if_pos rfl,?_,?_,?_⟩
   ·rw [List.length_take,List.length_set,over_length ho];omega
   ·intro c hcm
    obtain ⟨j,hj⟩:=List.getElem?_of_mem hcm
    rw [List.getElem?_take] at hj
    split at hj
    ·rename_i hjl
     simp only [List.length_set] at hjl
     have hj:(over cur.toList (m*t.size) ds)[j]? =some c:=hj
     rw [over_get ho] at hj
     split at hj
     ·exact t.one k1 c (List.mem_of_getElem? hj)
     ·refine h6.2.1 c (List.mem_of_getElem? (i:=j) ?_)
      rw [List.getElem?_take,if_pos hjl];exact hj
    ·cases hj
   ·intro j z hz
    by_cases hjm:j=m
    ·subst hjm
     rw [List.getElem?_set_self hil] at hz
     cases hz
     refine ⟨ds,t.mono e k1,fun q w hq=>?_⟩
     have hql:=(List.getElem?_eq_some_iff.1 hq).1
     rw [List.getElem?_take,if_pos (by rw [List.length_set];omega)]
     show (over cur.toList (j*t.size) ds)[j*t.size+q]? =some w
     rw [over_get ho,if_pos (by omega),show j*t.size+q-j*t.size=q by omega]
     exact hq
    ·rw [List.getElem?_set_ne (fun h=>hjm h.symm)] at hz
     obtain ⟨es,q1,q2⟩:=h6.2.2 j z hz
     refine ⟨es,t.mono e q1,fun q w hq=>?_⟩
     have hql:=(List.getElem?_eq_some_iff.1 hq).1
     have hel:=t.len q1
     have h7:=q2 q w hq
     rw [List.getElem?_take] at h7
     split at h7
     ·rename_i hlt
      rw [List.getElem?_take,if_pos (by rw [List.length_set];exact hlt)]
      show (over cur.toList (m*t.size) ds)[j*t.size+q]? =some w
      rw [over_get ho,if_neg ?_]
      ·exact h7
      ·rcases Nat.lt_or_ge j m with hlt' | hge
       ·have:=Nat.mul_le_mul_right t.size (show j+1≤m by omega)
        rw [Nat.add_mul,Nat.one_mul] at this
        omega
       ·have:=Nat.mul_le_mul_right t.size (show m+1≤j by omega)
        rw [Nat.add_mul,Nat.one_mul] at this
        omega
     ·cases h7
  ·obtain ⟨y,hy,hyb⟩:=hb'
   rw [List.mem_singleton.1 hy] at hyb
   exact hyb
theorem WL.lenU{ops:Array Oper}{Q:Exit→Act→World→Prop}{l:List Oper}{k:Tok}{n n':Nat}(slot:Nat)(hn:n=n')(hs:look slot env=some (tU k n))(h:WL P N g0 T0 ops Q l ((slot,tU k n') :: env) res):WL P N g0 T0 ops Q l env res:=by
 subst hn
 intro a g hst
 refine h a g ⟨hst.sz,hst.dfr,fun s A hA=>?_,hst.hres,hst.dis,hst.own,hst.ext⟩
 by_cases hk:slot=s
 ·subst hk
  rw [look_here] at hA
  cases hA
  exact hst.henv slot _ hs
 ·rw [look_there _ _ hk] at hA
  exact hst.henv s A hA
end
section
variable {P:Program} {N:Nat} {g0:G} {T0:Nat→Prop} {ks:List KF} {B:Exit→Act→World→Prop} {env:Env} {res:Rs} {d:Option Tmp} {ty:TypeId} {pos:String} {aft:Array Edge} {gd:Option (Nat×Bool)}
theorem WN.lenU{k:Tok}{n n':Nat}(slot:Nat)(hn:n=n')(hs:look slot env=some (tU k n))(h:WN P N g0 T0 ks B ((slot,tU k n') :: env) res):WN P N g0 T0 ks B env res:=by
 subst hn
 intro a g hst
 refine h a g ⟨hst.sz,hst.dfr,fun s A hA=>?_,hst.hres,hst.dis,hst.own,hst.ext⟩
 by_cases hk:slot=s
 ·subst hk
  rw [look_here] at hA
  cases hA
  exact hst.henv slot _ hs
 ·rw [look_there _ _ hk] at hA
  exact hst.henv s A hA
def shA(n:Nat)(agg:Bool):Asn:=⟨fun v _=>∃ cs:List Value,v.cells=cs.toArray∧cs.length=n∧(agg=false→n=1)∧v=mkVal agg cs∧ ∀ c∈cs,c.oneCell'=true,fun _ h=>h⟩
theorem shA.of{n:Nat}{agg:Bool}{A:Asn}(c:Cellable n agg A){v:Value}{g:G}(h:A.holds v g):(shA n agg).holds v g:=c v g h
end
end Go.Dec
