/-
  Rules for slices that the call owns, for boxes, and for function values.
-/
import Derived.Test.YtalogjkalmkpjaaGreatDoorDec3
set_option linter.unusedVariables false
set_option linter.unusedSimpArgs false
namespace Go.Dec
open Go
def Cells{α:Type}(t:Ty α)(g:G)(cs:List Value)(xs:List α):Prop:=
 cs.length=xs.length*t.size∧(∀ c∈cs,c.oneCell'=true)∧ ∀ (i:Nat) x,xs[i]? =some x→∃ ds,t.rep g ds x∧ ∀ (j:Nat) v,ds[j]? =some v→cs[i*t.size+j]? =some v
theorem Cells.nil{α:Type}{t:Ty α}{g:G}:Cells t g [] []:=by
 refine ⟨by simp,fun c h=>?_,fun i x h=>?_⟩
 ·cases h
 ·simp at h
theorem Cells.cons{α:Type}{t:Ty α}{g:G}{ds cs:List Value}{x:α}{xs:List α}(h:t.rep g ds x)(k:Cells t g cs xs):Cells t g (ds++cs) (x :: xs):=by
 refine ⟨by simp only [List.length_append,List.length_cons,t.len h,k.1,Nat.add_mul];omega,fun c hc=>?_,fun i y hy=>?_⟩
 ·rcases List.mem_append.1 hc with hc | hc
  ·exact t.one h c hc
  ·exact k.2.1 c hc
 ·cases i with
  | zero=>
   simp at hy;subst hy
   refine ⟨ds,h,fun j v hj=>?_⟩
   have hl:=(List.getElem?_eq_some_iff.1 hj).1
   rw [Nat.zero_mul,Nat.zero_add,List.getElem?_append_left (by omega)]
   exact hj
  | succ i=>
   simp at hy
   obtain ⟨es,h1,h2⟩:=k.2.2 i y hy
   refine ⟨es,h1,fun j v hj=>?_⟩
   rw [List.getElem?_append_right (by rw [t.len h,Nat.add_mul];omega),t.len h]
   rw [show (i+1)*t.size+j-t.size=i*t.size+j by rw [Nat.add_mul];omega]
   exact h2 j v hj
theorem Cells.append{α:Type}{t:Ty α}{g:G}{cs ds:List Value}{xs ys:List α}(h:Cells t g cs xs)(k:Cells t g ds ys):Cells t g (cs++ds) (xs++ys):=by
 refine ⟨by rw [List.length_append,List.length_append,h.1,k.1,Nat.add_mul],fun c hc=>?_,fun i x hx=>?_⟩
 ·rcases List.mem_append.1 hc with hc | hc
  ·exact h.2.1 c hc
  ·exact k.2.1 c hc
 ·by_cases hi:i<xs.length
  ·rw [List.getElem?_append_left hi] at hx
   obtain ⟨es,h1,h2⟩:=h.2.2 i x hx
   refine ⟨es,h1,fun j v hj=>?_⟩
   have:=h2 j v hj
   rw [List.getElem?_append_left (List.getElem?_eq_some_iff.1 this).1]
   exact this
  ·rw [List.getElem?_append_right (by omega)] at hx
   obtain ⟨es,h1,h2⟩:=k.2.2 _ x hx
   refine ⟨es,h1,fun j v hj=>?_⟩
   have:=h2 j v hj
   have hm:i*t.size=xs.length*t.size+(i-xs.length)*t.size:=by rw [←Nat.add_mul];congr 1;omega
   rw [List.getElem?_append_right (by rw [h.1];omega),h.1,show i*t.size+j-xs.length*t.size=(i-xs.length)*t.size+j by omega]
   exact this
theorem Cells.mono{α:Type}{t:Ty α}{T:Nat→Prop}{g g':G}{cs:List Value}{xs:List α}(e:Ext T g g')(h:Cells t g cs xs):Cells t g' cs xs:=
 ⟨h.1,h.2.1,fun i x hx=>let ⟨ds,h1,h2⟩:=h.2.2 i x hx;⟨ds,t.mono e h1,h2⟩⟩
theorem Row.cells{α:Type}{t:Ty α}{g:G}{b:Nat}:∀ {ys:List α} {o:Nat},(∀ (i:Nat) x,ys[i]? =some x→t.At g b (o+i*t.size) x)→
  ∃ cs,Cells t g cs ys∧ ∀ (j:Nat) v,cs[j]? =some v→g.Has b (o+j) v
 | [],o,_=>⟨[],Cells.nil,fun j v h=>by simp at h⟩
 | y :: ys,o,h=>by
  obtain ⟨ds,h1,h2⟩:=h 0 y rfl
  obtain ⟨cs,h3,h4⟩:=Row.cells (ys:=ys) (o:=o+t.size) (fun i x hx=>by
   have:=h (i+1) x (by simpa using hx)
   rwa [show o+(i+1)*t.size=o+t.size+i*t.size by rw [Nat.add_mul];omega] at this)
  refine ⟨ds++cs,Cells.cons h1 h3,fun j v hj=>?_⟩
  by_cases hl:j<ds.length
  ·rw [List.getElem?_append_left hl] at hj
   have:=h2 j v hj
   simpa using this
  ·rw [List.getElem?_append_right (by omega)] at hj
   have:=h4 _ v hj
   rw [t.len h1] at this
   rw [t.len h1] at hl
   rwa [show o+t.size+(j-t.size)=o+j by omega] at this
theorem Cells.row{α:Type}{t:Ty α}{g:G}{b o:Nat}{cs:List Value}{xs:List α}(h:Cells t g cs xs)(k:∀ (j:Nat) v,cs[j]? =some v→g.Has b (o+j) v):Row t g (some ⟨b,o,none⟩) xs:=
 ⟨.inr rfl,fun i x hx=>let ⟨ds,h1,h2⟩:=h.2.2 i x hx;⟨ds,h1,fun j v hj=>by
  have:=k _ v (h2 j v hj)
  rwa [show o+i*t.size+j=o+(i*t.size+j) by omega]⟩⟩
abbrev Tok:=Option (Nat×Nat)
def Tok.addr(k:Tok):Option Addr:=k.map fun p=>⟨p.1,0,none⟩
def Tok.cap(k:Tok):Nat:=match k with
 | none=>0
 | some p=>p.2
def Own{α:Type}(t:Ty α)(E:TypeId)(k:Tok)(n:Nat):Res where
 blk:=fun x=>k.map Prod.fst=some x
 holds:=fun g=>match k with
  | none=>n=0
  | some p=>∃ cur,g.w.heap[p.1]? =some (.cells cur E (0,0))∧cur.size=p.2*t.size∧n≤p.2∧p.2≤maxLen∧g.S p.1=n*t.size
 stay:=fun {T g g'} e hn h=>by
  cases k with
  | none=>exact h
  | some p=>
   obtain ⟨cur,h1,h2,h3,h4,h5⟩:=h
   have hlt:p.1<g.w.heap.size:=(Array.getElem?_eq_some_iff.1 h1).1
   have:=e.same p.1 hlt (hn p.1 rfl)
   exact ⟨cur,this.1.trans h1,h2,h3,h4,this.2.trans h5⟩
 lt:=fun {g b} h hb=>by
  cases k with
  | none=>cases hb
  | some p=>
   obtain ⟨cur,h1,_⟩:=h
   have hlt:p.1<g.w.heap.size:=(Array.getElem?_eq_some_iff.1 h1).1
   cases hb
   exact hlt
def tO{α:Type}(t:Ty α)(k:Tok)(xs:List α):Asn:=
 ⟨fun v g=>v= .slice k.addr xs.length k.cap∧xs.length≤k.cap∧xs.length≤lim∧Row t g k.addr xs,fun e ⟨h1,h2,h3,h4⟩=>⟨h1,h2,h3,h4.mono e⟩⟩
theorem tO_tL{α:Type}{t:Ty α}{k:Tok}{xs:List α}{v:Value}{g:G}(h:(tO t k xs).holds v g):((tL t).is xs).holds v g:=by
 obtain ⟨h1,h2,h3,h4⟩:=h
 refine ⟨[v],⟨k.addr,k.cap,by rw [h1],h2,h3,?_,h4⟩,rfl⟩
 intro hk
 cases k with
 | none=>rfl
 | some p=>cases hk
theorem Ent.o{α:Type}{t:Ty α}{s:Nat}{k:Tok}{xs:List α}{e:Env}(h:look s e=some (tO t k xs)):Ent s ((tL t).is xs) e:=⟨_,h,fun _ _=>tO_tL⟩
theorem Ent.n{α:Type}{t:Ty α}{s:Nat}{xs:List α}{e:Env}(h:look s e=some ((tLn t).is xs)):Ent s ((tL t).is xs) e:=⟨_,h,fun _ _=>tLn_tL⟩
def limA:Nat:=274877906944
section
variable {P:Program} {N:Nat} {g0:G} {T0:Nat→Prop} {env:Env} {res:Rs} {d:Option Tmp} {ty:TypeId} {pos:String} {aft:Array Edge} {gd:Option (Nat×Bool)}
theorem Opd.own{x:Operand}{α:Type}{t:Ty α}{k:Tok}{xs:List α}(h:Opd env x (tO t k xs)):Opd env x ((tL t).is xs):=h.weak fun _ _=>tO_tL
theorem Opd.nilO{α:Type}{t:Ty α}:Opd env (.const (.slice none 0 0)) (tO t none []):=fun _ _ _=>⟨rfl,Nat.le_refl _,Nat.zero_le _,rfl⟩
theorem Opd.tLn{x:Operand}{α:Type}{t:Ty α}{xs:List α}(h:Opd env x ((tLn t).is xs)):Opd env x ((tL t).is xs):=h.weak fun _ _=>tLn_tL
theorem St.addNil{α:Type}{t:Ty α}{E:TypeId}{a:Act}{g:G}(key:Nat)(h:St N g0 T0 env res a g):St N g0 T0 env ((key,Own t E none 0) :: res) a g:=by
 refine ⟨h.sz,h.dfr,h.henv,fun x hx=>?_,List.pairwise_cons.2 ⟨fun _ _ b hb=>(by cases hb),h.dis⟩,fun b ⟨x,hx,hb⟩=>?_,h.ext⟩
 ·rcases List.mem_cons.1 hx with rfl | hx
  ·rfl
  ·exact h.hres x hx
 ·rcases List.mem_cons.1 hx with rfl | hx
  ·cases hb
  ·exact h.own b ⟨x,hx,hb⟩
theorem WL.addNil{ops:Array Oper}{Q:Exit→Act→World→Prop}{l:List Oper}{α:Type}{t:Ty α}{E:TypeId}(key:Nat)(h:WL P N g0 T0 ops Q l env ((key,Own t E none 0) :: res)):WL P N g0 T0 ops Q l env res:=
 WL.chg (fun _ _ hs=>hs.addNil key) h
theorem W.addNil{c:Code}{ks:List KF}{B:Exit→Act→World→Prop}{α:Type}{t:Ty α}{E:TypeId}(key:Nat)(h:W P N g0 T0 c ks B env ((key,Own t E none 0) :: res)):W P N g0 T0 c ks B env res:=
 fun a g hs=>h a g (hs.addNil key)
structure ElAt (P:Program) {α:Type} (E:TypeId) (t:Ty α):Prop where
 row:∃ i z,P.info? E=some i∧i.zero=some z∧i.size=t.size∧i.bytes≤512∧z.cells.size=t.size
 pos:0<t.size
theorem ElAt.size{α:Type}{E:TypeId}{t:Ty α}(h:ElAt P E t)(w:World):(sizeOf E).run P w= .ok t.size w:=by
 obtain ⟨i,z,h1,_,h3,_⟩:=h.row
 simp [sizeOf,typeInfo,h1,h3]
theorem ext_row{g:G}{b:Nat}{cur new:Array Value}{E:TypeId}(hb:g.w.heap[b]? =some (.cells cur E (0,0))){s:Nat}(hS:g.S b≤s)(hk:∀ i v,i<g.S b→cur[i]? =some v→new[i]? =some v)(hn:0<g.S b→new.size=cur.size) :
  Ext (fun x=>x=b) g ⟨g.w.setRow b new,fun x=>if x=b then s else g.S x⟩:=by
 refine ⟨rfl,rfl,rfl,by simp,fun x _ hn=>⟨setRow_other _ _ _ _ hn,?_⟩,fun x i v hv=>?_,fun x n hv=>?_⟩
 ·show (if x=b then s else g.S x)=_
  rw [if_neg hn]
 ·by_cases hx:x=b
  ·subst hx
   obtain ⟨h1,h2⟩:=hv
   refine ⟨?_,?_⟩
   ·show i<(if x=x then s else g.S x)
    rw [if_pos rfl];omega
   ·show (g.w.setRow x new).cell? ⟨x,i,none⟩=some v
    rw [cell_setRow_same _ _ _ _ _ _ _ hb]
    rw [cell_of_row _ _ _ _ _ _ hb] at h2
    exact hk i v h1 h2
  ·obtain ⟨h1,h2⟩:=hv
   refine ⟨?_,?_⟩
   ·show i<(if x=b then s else g.S x)
    rw [if_neg hx];exact h1
   ·show (g.w.setRow b new).cell? ⟨x,i,none⟩=some v
    rw [cell_setRow_other _ _ _ _ hx];exact h2
 ·by_cases hx:x=b
  ·subst hx
   have h2:=hv.2
   rcases hv.row hb with ⟨cs,t,u,he,hcs⟩ | ⟨es,k,he,_⟩
   ·cases he
    refine ⟨?_,?_,h2.2⟩
    ·show rowN (g.w.setRow x new) x=some n
     unfold rowN
     rw [setRow_heap g.w x cur new E _ hb,hcs]
     show some (Sum.inl new.size)=_
     rw [hn (by omega)]
    ·show rsz n≤if x=x then s else g.S x
     rw [if_pos rfl];omega
   ·cases he
  ·refine hv.same (setRow_other _ _ _ _ hx) ?_
   show g.S x≤if x=b then s else g.S x
   rw [if_neg hx];exact Nat.le_refl _
theorem OpR.append{α:Type}{t:Ty α}{E T:TypeId}{s x:Operand}{k:Tok}{xs ys:List α}{key:Nat}(hT:P.underlying T=some (.slice E))(hE:ElAt P E t)(hs:Opd env s (tO t k xs))(hx:Opd env x ((tL t).is ys))
  (hr:res.pick [key]= [(key,Own t E k xs.length)]) (hl:xs.length+ys.length≤limA) :
  OpR P ⟨d,.call ⟨.builtin .append,#[s,x],#[T,T]⟩,ty,pos,aft,gd⟩ env res [key] (fun k':Tok=>tO t k' (xs++ys)) (fun k'=>[(key,Own t E k' (xs++ys).length)]):=by
 intro a g K Q hc hd hK
 obtain ⟨i,z,hi,hz,hsz,hby,hzs⟩:=hE.row
 obtain ⟨hv,hc1,hl1,hrow⟩:=hs a g hc.henv
 obtain ⟨p,c,hxv,hyc,hyl,hpn,hyrow⟩:=hx.atL hc
 have hres:(Own t E k xs.length).holds g:=by
  have:(key,Own t E k xs.length)∈res.pick [key]:=by rw [hr];simp
  exact hc.hres _ (List.mem_filter.1 this).1
 have hlim:xs.length+ys.length≤lim:=by unfold limA at hl;unfold lim;omega
 have hblk:∀ b,(res.pick [key]).blks b ↔ (k.map Prod.fst)=some b:=by
  intro b
  rw [hr]
  constructor
  ·rintro ⟨y,hy,hb⟩
   simp at hy;subst hy;exact hb
  ·intro hb
   exact ⟨_,List.mem_singleton.2 rfl,hb⟩
 have run:∀ v w',(Builtin.append_ #[T,T] ty #[a.eval s,a.eval x]).run P g.w= .ok v w'→K (a.put d v) w'→
   Oper.wp P ⟨d,.call ⟨.builtin .append,#[s,x],#[T,T]⟩,ty,pos,aft,gd⟩ a g.w K Q:=by
  intro v w' hrun hK'
  unfold Oper.wp execOp
  simp only [resolve,invoke,builtin,Sem.run_bind,Sem.run_pure,Result.andThen_ok,List.map_toArray,List.map_cons,List.map_nil,hrun]
  exact hK'
 rw [hv,hxv] at run
 have done:∀ (k':Tok) v g',Ext (res.pick [key]).blks g g'→(tO t k' (xs++ys)).holds v g'→(Own t E k' (xs++ys).length).holds g'→(∀ b,(k'.map Prod.fst)=some b→(k.map Prod.fst)=some b∨g.w.heap.size≤b)→K (a.put d v) g'.w:=by
  intro k' v g' e h1 h2 h3
  refine hK k' v g' e h1 (fun y hy=>by rw [List.mem_singleton.1 hy];exact h2) (List.pairwise_singleton _ _) ?_
  rintro b ⟨y,hy,hb⟩
  rw [List.mem_singleton.1 hy] at hb
  rcases h3 b hb with h | h
  ·exact .inl ((hblk b).2 h)
  ·exact .inr h
 cases p with
 | none=>
  have hy0:ys= []:=hyrow
  subst hy0
  have hc0:=hpn rfl
  subst hc0
  cases k with
  | none=>
   have hx0:xs= []:=hrow
   subst hx0
   refine run (.slice none 0 0) g.w (by simp [Builtin.append_,run_underlying hT,sizeOf,typeInfo,hi,Builtin.lenOf,Builtin.firstCells,Tok.addr,Tok.cap]) ?_
   exact done none _ g (Ext.refl _ _) ⟨rfl,Nat.le_refl _,Nat.zero_le _,rfl⟩ rfl (fun b hb=>by cases hb)
  | some q=>
   have hroom:xs.length≤q.2:=hc1
   refine run (.slice (Tok.addr (some q)) xs.length q.2) g.w (by simp [Builtin.append_,run_underlying hT,sizeOf,typeInfo,hi,Builtin.lenOf,Builtin.firstCells,Tok.addr,Tok.cap,hroom,storeCells]) ?_
   refine done (some q) _ g (Ext.refl _ _) ?_ (by simpa using hres) (fun b hb=>.inl hb)
   simp only [List.append_nil]
   exact ⟨rfl,hc1,hl1,hrow⟩
 | some ad=>
  obtain ⟨hsp,hyat⟩:=hyrow
  by_cases hys:ys= []
  ·subst hys
   cases k with
   | none=>
    have hx0:xs= []:=hrow
    subst hx0
    refine run (.slice none 0 0) g.w (by simp [Builtin.append_,run_underlying hT,sizeOf,typeInfo,hi,Builtin.lenOf,Builtin.firstCells,loadCells,loadCellsFrom,Tok.addr,Tok.cap]) ?_
    exact done none _ g (Ext.refl _ _) ⟨rfl,Nat.le_refl _,Nat.zero_le _,rfl⟩ rfl (fun b hb=>by cases hb)
   | some q=>
    have hroom:xs.length≤q.2:=hc1
    refine run (.slice (Tok.addr (some q)) xs.length q.2) g.w (by simp [Builtin.append_,run_underlying hT,sizeOf,typeInfo,hi,Builtin.lenOf,Builtin.firstCells,loadCells,loadCellsFrom,Tok.addr,Tok.cap,hroom,storeCells]) ?_
    refine done (some q) _ g (Ext.refl _ _) ?_ (by simpa using hres) (fun b hb=>.inl hb)
    simp only [List.append_nil]
    exact ⟨rfl,hc1,hl1,hrow⟩
  replace hsp:ad.spot=none:=hsp.resolve_left hys
  obtain ⟨bs,os,spot⟩:=ad
  simp at hsp;subst hsp
  obtain ⟨news,hnc,hnh⟩:=Row.cells hyat
  have hnl:news.length=ys.length*i.size:=by rw [hnc.1,hsz]
  have hnews:∀ (j:Nat) v,news[j]? =some v→g.w.cell? ((⟨bs,os,none⟩:Addr).add j)=some v:=fun j v hj=>by rw [Addr.add_lit];exact (hnh j v hj).2
  cases k with
  | none=>
   have hx0:xs= []:=hrow
   subst hx0
   by_cases hm:ys.length=0
   ·have hy0:ys= []:=List.eq_nil_of_length_eq_zero hm
    subst hy0
    refine run (.slice none 0 0) g.w (by simp [Builtin.append_,run_underlying hT,sizeOf,typeInfo,hi,Builtin.lenOf,Builtin.firstCells,loadCells,loadCellsFrom,Tok.addr,Tok.cap]) ?_
    exact done none _ g (Ext.refl _ _) ⟨rfl,Nat.le_refl _,Nat.zero_le _,rfl⟩ rfl (fun b hb=>by cases hb)
   ·have h48:ys.length*i.bytes≤281474976710656:=by
     have:=Nat.mul_le_mul hl hby
     unfold limA at this
     simp only [List.length_nil,Nat.zero_add] at this
     omega
    have hrun:=run_append_nil (P:=P) g.w T ty E i z hT hi hz ⟨bs,os,none⟩ ys.length c news hnl hnews (by omega) (by unfold lim at hlim;simp at hlim;omega) h48
    refine run _ _ hrun ?_
    have hge:=grownCap_ge g.w ys.length 0 E
    have hcm:grownCap g.w ys.length 0 E≤maxLen:=grownCap_le_maxLen g.w ys.length 0 E (by unfold lim at hlim;unfold maxLen;simp at hlim;omega)
    let cur:Array Value:=news.toArray++Builtin.zeroCells z.cells (grownCap g.w ys.length 0 E-ys.length)
    let g':G:=g.drew.alloc (.cells cur E) (ys.length*t.size)
    have e:Ext No g g':=(Ext.drew No g).trans' (Ext.alloc No _ _ _)
    have hheap:g'.w.heap[g.w.heap.size]? =some (.cells cur E (0,0)):=heap_alloc_new g.w.drew _
    refine done (some (g.w.heap.size,grownCap g.w ys.length 0 E)) _ g' e.no ?_ ?_ (fun b hb=>by simp at hb;exact .inr (by omega))
    ·refine ⟨by simp [Tok.addr,Tok.cap],by simpa [Tok.cap] using hge,by simpa using hyl,?_⟩
     show Row t g' (some ⟨g.w.heap.size,0,none⟩) ([]++ys)
     rw [List.nil_append]
     refine (hnc.mono e).row fun j v hj=>⟨?_,?_⟩
     ·show 0+j<(if g.w.heap.size=g.w.heap.size then _ else _)
      rw [if_pos rfl]
      have:=(List.getElem?_eq_some_iff.1 hj).1
      rw [hnc.1] at this;omega
     ·rw [cell_of_row _ _ _ _ _ _ hheap]
      have hjl:=(List.getElem?_eq_some_iff.1 hj).1
      simp only [cur,Nat.zero_add]
      rw [Array.getElem?_append_left (by simpa using hjl)]
      simpa using hj
    ·refine ⟨cur,hheap,?_,by simpa using hge,hcm,?_⟩
     ·simp only [cur,Array.size_append,List.size_toArray,size_zeroCells,hzs,hnc.1,←Nat.add_mul]
      congr 1;omega
     ·show (if g.w.heap.size=g.w.heap.size then _ else _)=_
      rw [if_pos rfl];simp
  | some q=>
   obtain ⟨cur,hheap,hcs,hncap,hcm,hS⟩:=hres
   have hold:∀ (j:Nat) v,(cur.toList.take (xs.length*i.size))[j]? =some v→g.w.cell? ((⟨q.1,0,none⟩:Addr).add j)=some v:=fun j v hj=>by
    rw [Addr.add_lit,cell_of_row _ _ _ _ _ _ hheap]
    rw [List.getElem?_take] at hj
    split at hj
    ·simpa using hj
    ·cases hj
   have holdl:(cur.toList.take (xs.length*i.size)).length=xs.length*i.size:=by
    have hcl:cur.toList.length=cur.size:=by simp
    rw [List.length_take,hcl]
    exact Nat.min_eq_left (by rw [hcs,hsz];exact Nat.mul_le_mul_right _ hncap)
   have hrow':Row t g (some ⟨q.1,0,none⟩) xs:=hrow
   by_cases hroom:xs.length+ys.length≤q.2
   ·have hfit:xs.length*i.size+news.length≤cur.size:=by rw [hnl,hcs,←hsz,←Nat.add_mul];exact Nat.mul_le_mul_right _ hroom
    have hrun:=run_append_room (P:=P) g.w T ty E i hT hi q.1 xs.length q.2 cur hheap ⟨bs,os,none⟩ ys.length c news hnl hnews hnc.2.1 hroom hfit
    refine run _ _ hrun ?_
    let new:Array Value:=(cur.toList.take (xs.length*i.size)++news++cur.toList.drop (xs.length*i.size+news.length)).toArray
    let g':G:=⟨g.w.setRow q.1 new,fun x=>if x=q.1 then (xs.length+ys.length)*t.size else g.S x⟩
    have hnew:∀ i' v,i'< g.S q.1→cur[i']? =some v→new[i']? =some v:=by
     intro i' v h1 h2
     rw [hS,←hsz] at h1
     simp only [new,List.getElem?_toArray]
     rw [List.append_assoc,List.getElem?_append_left (by rw [holdl];exact h1),List.getElem?_take,if_pos h1]
     simpa using h2
    have e:Ext (fun x=>x=q.1) g g':=ext_row hheap (by rw [hS];exact Nat.mul_le_mul_right _ (by omega)) hnew (fun _=>by simp [new];omega)
    have e':Ext (res.pick [key]).blks g g':=e.mono fun x hx=>(hblk x).2 (by simp [hx])
    have hheap':g'.w.heap[q.1]? =some (.cells new E (0,0)):=setRow_heap g.w q.1 cur new E _ hheap
    refine done (some q) _ g' e' ?_ ?_ (fun b hb=>.inl hb)
    ·refine ⟨by simp [Tok.addr,Tok.cap],by simpa [Tok.cap] using hroom,by simpa using hlim,?_⟩
     show Row t g' (some ⟨q.1,0,none⟩) (xs++ys)
     refine ⟨.inr rfl,fun j y hj=>?_⟩
     by_cases hjx:j<xs.length
     ·rw [List.getElem?_append_left hjx] at hj
      exact ((hrow'.2 j y hj).mono e)
     ·rw [List.getElem?_append_right (by omega)] at hj
      obtain ⟨ds,h1,h2⟩:=hnc.2.2 _ y hj
      refine ⟨ds,t.mono e h1,fun m v hm=>?_⟩
      have h3:=h2 m v hm
      have hml:=(List.getElem?_eq_some_iff.1 h3).1
      have hmul:j*t.size=xs.length*t.size+(j-xs.length)*t.size:=by rw [←Nat.add_mul];congr 1;omega
      refine ⟨?_,?_⟩
      ·show 0+j*t.size+m<(if q.1=q.1 then _ else _)
       rw [if_pos rfl,Nat.add_mul,←hnc.1]
       omega
      ·rw [cell_of_row _ _ _ _ _ _ hheap']
       simp only [new,List.getElem?_toArray]
       rw [List.append_assoc,List.getElem?_append_right (by rw [holdl,hsz];omega),holdl,hsz,List.getElem?_append_left (by omega)]
       rw [show 0+j*t.size+m-xs.length*t.size=(j-xs.length)*t.size+m by omega]
       exact h3
    ·refine ⟨new,hheap',?_,by simpa using hroom,hcm,?_⟩
     ·simp only [new,List.size_toArray,List.length_append,holdl,List.length_drop,Array.length_toList]
      omega
     ·show (if q.1=q.1 then _ else _)=_
      rw [if_pos rfl];simp
   ·have hfit2:Builtin.nextslicecap (xs.length+ys.length) q.2*i.bytes≤281474976710656:=growslice_fits (by omega) (by
     have:=Nat.mul_le_mul hl hby
     unfold limA at this
     omega)
    have hrun:=run_append_grow (P:=P) g.w T ty E i z hT hi hz ⟨q.1,0,none⟩ xs.length q.2 _ holdl hold ⟨bs,os,none⟩ ys.length c news hnl hnews (by omega) (by unfold lim at hlim;omega) hfit2
    refine run _ _ hrun ?_
    have hge:=grownCap_ge g.w (xs.length+ys.length) q.2 E
    have hcm':grownCap g.w (xs.length+ys.length) q.2 E≤maxLen:=grownCap_le_maxLen g.w _ q.2 E (by unfold lim at hlim;unfold maxLen;omega)
    let cur':Array Value:=(cur.toList.take (xs.length*i.size)).toArray++news.toArray++Builtin.zeroCells z.cells (grownCap g.w (xs.length+ys.length) q.2 E-(xs.length+ys.length))
    let g':G:=g.drew.alloc (.cells cur' E) ((xs.length+ys.length)*t.size)
    have e:Ext No g g':=(Ext.drew No g).trans' (Ext.alloc No _ _ _)
    have hheap':g'.w.heap[g.w.heap.size]? =some (.cells cur' E (0,0)):=heap_alloc_new g.w.drew _
    refine done (some (g.w.heap.size,grownCap g.w (xs.length+ys.length) q.2 E)) _ g' e.no ?_ ?_ (fun b hb=>by simp at hb;exact .inr (by omega))
    ·refine ⟨by simp [Tok.addr,Tok.cap],by simpa [Tok.cap] using hge,by simpa using hlim,?_⟩
     show Row t g' (some ⟨g.w.heap.size,0,none⟩) (xs++ys)
     obtain ⟨olds,hoc,hoh⟩:=Row.cells hrow'.2
     have heq:olds=cur.toList.take (xs.length*i.size):=by
      apply List.ext_getElem?
      intro j
      by_cases hj:j<olds.length
      ·have h1:=(hoh j _ (List.getElem?_eq_getElem hj)).2
       rw [cell_of_row _ _ _ _ _ _ hheap] at h1
       rw [List.getElem?_eq_getElem hj,List.getElem?_take,if_pos (by rw [hsz,←hoc.1];exact hj)]
       simpa using h1.symm
      ·rw [List.getElem?_eq_none (by omega),List.getElem?_eq_none (by rw [holdl,hsz,←hoc.1];omega)]
     refine ((hoc.append hnc).mono e).row fun j v hj=>⟨?_,?_⟩
     ·show 0+j<(if g.w.heap.size=g.w.heap.size then _ else _)
      rw [if_pos rfl]
      have:=(List.getElem?_eq_some_iff.1 hj).1
      rw [(hoc.append hnc).1,List.length_append] at this;omega
     ·rw [cell_of_row _ _ _ _ _ _ hheap']
      have hjl:=(List.getElem?_eq_some_iff.1 hj).1
      simp only [cur',Nat.zero_add]
      rw [Array.getElem?_append_left (by rw [←heq];simpa using hjl)]
      rw [←heq]
      simpa using hj
    ·refine ⟨cur',hheap',?_,by simpa using hge,hcm',?_⟩
     ·have e1:(cur.toList.take (xs.length*i.size)).toArray.size=xs.length*t.size:=by rw [List.size_toArray,holdl,hsz]
      simp only [cur',Array.size_append,e1,List.size_toArray,hnc.1,size_zeroCells,hzs,←Nat.add_mul]
      congr 1;omega
     ·show (if g.w.heap.size=g.w.heap.size then _ else _)=_
      rw [if_pos rfl];simp
end
end Go.Dec
