/-
  Rules for variables that lie in cells of their own and are written again.
-/
import Derived.Test.YtalogjkalmkpjaaGreatDoorDec9
import Derived.Laws.CopyRow
import Derived.Laws.Tables
set_option linter.unusedVariables false
set_option linter.unusedSimpArgs false
namespace Go.Dec
open Go
def Bx(n:Nat)(agg:Bool)(T:TypeId)(A:Asn)(b:Nat):Res where
 blk:=fun x=>some b=some x
 holds:=fun g=>∃ cs:List Value,g.w.heap[b]? =some (.cells cs.toArray T (0,0))∧cs.length=n∧(agg=false→n=1)∧(∀ c∈cs,c.oneCell'=true)∧g.S b=0∧A.holds (mkVal agg cs) g
 stay:=fun {T g g'} e hn ⟨cs,h1,h2,h3,h4,h5,h6⟩=>by
  have hlt:=(Array.getElem?_eq_some_iff.1 h1).1
  have:=e.same b hlt (hn b rfl)
  exact ⟨cs,this.1.trans h1,h2,h3,h4,this.2.trans h5,A.mono e h6⟩
 lt:=fun {g b'} ⟨cs,h1,_⟩ hb=>by
  cases hb
  exact (Array.getElem?_eq_some_iff.1 h1).1
def Bp(b o:Nat):Asn:=Asn.eq (.pointer (some ⟨b,o,none⟩))
def Cellable(n:Nat)(agg:Bool)(A:Asn):Prop:=∀ v g,A.holds v g→∃ cs:List Value,v.cells=cs.toArray∧cs.length=n∧(agg=false→n=1)∧v=mkVal agg cs∧ ∀ c∈cs,c.oneCell'=true
theorem Cellable.is{α:Type}(t:Ty α)(x:α):Cellable t.size t.agg (t.is x):=fun v g ⟨cs,h,hv⟩=>⟨cs,by rw [hv];exact t.cells h,t.len h,t.sing,hv,t.one h⟩
theorem Cellable.o{α:Type}(t:Ty α)(k:Tok)(xs:List α):Cellable 1 false (tO t k xs):=fun v g ⟨hv,_⟩=>⟨[v],by rw [hv];rfl,rfl,fun _=>rfl,rfl,fun c hc=>by rw [List.mem_singleton.1 hc,hv];rfl⟩
theorem Cellable.cell(c:Value)(h:c.cells= #[c])(h1:c.oneCell'=true):Cellable 1 false (Asn.eq c):=fun v g hv=>⟨[c],by rw [show v=c from hv,h],rfl,fun _=>rfl,hv,fun x hx=>by rw [List.mem_singleton.1 hx];exact h1⟩
section
variable {P:Program} {N:Nat} {g0:G} {T0:Nat→Prop} {env:Env} {res:Rs} {d:Option Tmp} {ty:TypeId} {pos:String} {aft:Array Edge} {gd:Option (Nat×Bool)}
theorem bx_new{n:Nat}{agg:Bool}{T:TypeId}{A:Asn}{g:G}{cs:List Value}(h1:cs.length=n)(h2:agg=false→n=1)(h3:∀ c∈cs,c.oneCell'=true)(hA:A.holds (mkVal agg cs) g) :
  (Bx n agg T A g.w.heap.size).holds (g.alloc (.cells cs.toArray T) 0):=by
 refine ⟨cs,heap_alloc_new g.w _,h1,h2,h3,?_,A.mono (Ext.alloc No g _ 0) hA⟩
 simp [G.alloc]
theorem blks_one{key:Nat}{R:Res}{b b':Nat}(h:R.blk=fun x=>some b=some x):Rs.blks [(key,R)] b' ↔ b'=b:=by
 constructor
 ·rintro ⟨x,hx,hb⟩
  rw [List.mem_singleton.1 hx] at hb
  have hb:R.blk b':=hb
  rw [h] at hb
  exact (Option.some.inj hb).symm
 ·rintro rfl
  exact ⟨_,List.mem_singleton.2 rfl,by show R.blk _;rw [h]⟩
theorem OpR.alloc{α:Type}{t:Ty α}{T:TypeId}{z:α}(key:Nat)(hz:ZeroAt P T t z) :
  OpR P ⟨d,.alloc T,ty,pos,aft,gd⟩ env res [] (fun b:Nat=>Bp b 0) (fun b=>[(key,Bx t.size t.agg T (t.is z) b)]):=by
 intro a g K Q hc hd hK
 obtain ⟨v,hv,hzr⟩:=hz.zero
 obtain ⟨cs,hr,hv0⟩:=hzr g
 have hvc:v.cells=cs.toArray:=by rw [hv0];exact t.cells hr
 have hrun:(execOp a.eval ⟨d,.alloc T,ty,pos,aft,gd⟩).run P g.w= .ok (.value (.pointer (some ⟨g.w.heap.size,0,none⟩))) (g.alloc (.cells cs.toArray T) 0).w:=by simp [execOp,Instr.alloc,hv,newVar,newRow,hvc,G.alloc]
 show Oper.upon P _ a K Q ((execOp a.eval _).run P g.w)
 rw [hrun]
 refine hK g.w.heap.size _ (g.alloc (.cells cs.toArray T) 0) (Ext.alloc _ _ _ _) rfl (fun y hy=>?_) (List.pairwise_singleton _ _) (fun b hb=>.inr (by rw [(blks_one rfl).1 hb];exact Nat.le_refl _))
 rw [List.mem_singleton.1 hy]
 exact bx_new (t.len hr) t.sing (t.one hr) ⟨cs,hr,rfl⟩
theorem OpR.allocO{α:Type}{t:Ty α}{T:TypeId}(key:Nat)(hz:∀ w,(zeroValue T).run P w= .ok (.slice none 0 0) w) :
  OpR P ⟨d,.alloc T,ty,pos,aft,gd⟩ env res [] (fun b:Nat=>Bp b 0) (fun b=>[(key,Bx 1 false T (tO t none []) b)]):=by
 intro a g K Q hc hd hK
 have hrun:(execOp a.eval ⟨d,.alloc T,ty,pos,aft,gd⟩).run P g.w= .ok (.value (.pointer (some ⟨g.w.heap.size,0,none⟩))) (g.alloc (.cells #[.slice none 0 0] T) 0).w:=by simp [execOp,Instr.alloc,hz,newVar,newRow,Value.cells,G.alloc]
 show Oper.upon P _ a K Q ((execOp a.eval _).run P g.w)
 rw [hrun]
 refine hK g.w.heap.size _ (g.alloc (.cells #[.slice none 0 0] T) 0) (Ext.alloc _ _ _ _) rfl (fun y hy=>?_) (List.pairwise_singleton _ _) (fun b hb=>.inr (by rw [(blks_one rfl).1 hb];exact Nat.le_refl _))
 rw [List.mem_singleton.1 hy]
 exact bx_new (cs:=[.slice none 0 0]) rfl (fun _=>rfl) (fun c hc=>by rw [List.mem_singleton.1 hc];rfl) ⟨rfl,Nat.le_refl _,Nat.zero_le _,rfl⟩
theorem loadVar_cells{T:TypeId}{n:Nat}{agg:Bool}(hg:∀ w,(isAgg T).run P w= .ok agg w)(hs:∀ w,(sizeOf T).run P w= .ok n w){w:World}{b o:Nat}{cs:List Value}(hl:cs.length=n)(h1:agg=false→n=1)
  (h:∀ j v,cs[j]? =some v→w.cell? ⟨b,o+j,none⟩=some v):(loadVar T ⟨b,o,none⟩).run P w= .ok (mkVal agg cs) w:=by
 have hcell:∀ j v,cs[j]? =some v→w.cell? ((⟨b,o,none⟩:Addr).add j)=some v:=fun j v hj=>by rw [Addr.add_lit];exact h j v hj
 have hlo:=run_loadCells_list (P:=P) w ⟨b,o,none⟩ cs hcell
 rw [hl] at hlo
 unfold mkVal
 cases agg with
 | true=>simp [loadVar,hg w,hs,hlo]
 | false=>
  rw [h1 rfl] at hl
  match cs,hl with
  | [c],_=>
   have hc0:=hcell 0 c rfl
   rw [Addr.add_zero'] at hc0
   simp [loadVar,hg w,hc0]
theorem Bx.at{n:Nat}{agg:Bool}{T:TypeId}{A:Asn}{b key:Nat}(hr:findR key res=some (Bx n agg T A b)){a:Act}{g:G}(hc:Cx env res a g):(Bx n agg T A b).holds g:=hc.hres _ (findR_mem hr)
theorem Op1.loadB{n:Nat}{agg:Bool}{T T':TypeId}{A:Asn}{b:Nat}{x:Operand}(key:Nat)(hg:∀ w,(isAgg T).run P w= .ok agg w)(hs:∀ w,(sizeOf T).run P w= .ok n w)(hr:findR key res=some (Bx n agg T' A b))(hx:Opd env x (Bp b 0)) :
  Op1 P ⟨d,.load T x,ty,pos,aft,gd⟩ env res A:=
 Op1.same fun a g hc=>by
  obtain ⟨cs,h1,h2,h3,h4,h5,h6⟩:=Bx.at hr hc
  have hv:a.eval x= .pointer (some ⟨b,0,none⟩):=hx a g hc.henv
  have:=loadVar_cells (P:=P) hg hs (w:=g.w) (b:=b) (o:=0) h2 h3 (fun j v hj=>by
   rw [cell_of_row _ _ _ _ _ _ h1]
   simpa using hj)
  exact ⟨mkVal agg cs,by simp [execOp,hv,Instr.loadAt,Instr.sureAddr,this],h6⟩
theorem Op1.fieldAddrB{T:TypeId}{fs:Array Field}{fd:Field}{n b o o':Nat}{x:Operand}(hT:P.underlying T=some (.struct fs))(hf:fs[n]? =some fd)(hz:∀ w,∃ m,(sizeOf fd.type).run P w= .ok (m+1) w)(h:Opd env x (Bp b o))(ho:o+fd.offset=o') :
  Op1 P ⟨d,.fieldAddr T x n,ty,pos,aft,gd⟩ env res (Bp b o'):=
 Op1.same fun a g hc=>by
  have hv:a.eval x= .pointer (some ⟨b,o,none⟩):=h a g hc.henv
  obtain ⟨m,hm⟩:=hz g.w
  subst ho
  refine ⟨.pointer (some ⟨b,o+fd.offset,none⟩),?_,rfl⟩
  simp [execOp,hv,Instr.fieldAt,run_underlying hT,hf,Instr.sureAddr,fieldPlace,hm,Addr.add_lit]
theorem Op1.nilCheckB{x:Operand}{b o:Nat}(h:Opd env x (Bp b o)):Op1 P ⟨d,.nilCheck x,ty,pos,aft,gd⟩ env res (Bp b o):=
 Op1.same fun a g hc=>by
  have hv:a.eval x= .pointer (some ⟨b,o,none⟩):=h a g hc.henv
  exact ⟨_,by simp [execOp,hv],rfl⟩
theorem Op1.loadBF{α β:Type}{s:Ty α}{t:Ty β}{f:α→β}{T T':TypeId}{b o:Nat}{u:α}{x:Operand}(key:Nat)(hs:s.agg=true)(ht:TyAt P T t)(hF:Fld s o t f)(hr:findR key res=some (Bx s.size true T' (s.is u) b))(hx:Opd env x (Bp b o)) :
  Op1 P ⟨d,.load T x,ty,pos,aft,gd⟩ env res (t.is (f u)):=
 Op1.same fun a g hc=>by
  obtain ⟨cs,h1,h2,h3,h4,h5,cs',h6,h7⟩:=Bx.at hr hc
  rw [hs] at h7
  have e:cs=cs':=by
   have:=congrArg Value.cells h7
   simpa [mkVal,Value.cells] using this
  subst e
  obtain ⟨ds,hd,hj⟩:=hF g cs u h6
  have hv:a.eval x= .pointer (some ⟨b,o,none⟩):=hx a g hc.henv
  have:=loadVar_cells (P:=P) ht.agg ht.size (w:=g.w) (b:=b) (o:=o) (t.len hd) t.sing (fun j v hjv=>by
   rw [cell_of_row _ _ _ _ _ _ h1]
   simpa using hj j v hjv)
  exact ⟨mkVal t.agg ds,by simp [execOp,hv,Instr.loadAt,Instr.sureAddr,this],⟨ds,hd,rfl⟩⟩
theorem storeVar_cells{T E:TypeId}{n:Nat}(hs:∀ w,(sizeOf T).run P w= .ok n w){w:World}{b o:Nat}{cur ds:List Value}{v:Value}(hb:w.heap[b]? =some (.cells cur.toArray E (0,0)))(hv:v.cells=ds.toArray)(hl:ds.length=n)(ho:o+n≤cur.length)
  (h1:∀ c∈ds,c.oneCell'=true):(storeVar T ⟨b,o,none⟩ v).run P w= .ok () (w.setRow b (over cur o ds).toArray):=by
 have:=run_storeCells_at (P:=P) b o E ds 0 cur.toArray w hb (by simp;omega) h1
 simp only [Nat.add_zero] at this
 unfold over
 simp [storeVar,hs,hv,hl,this]
theorem OpR.storeAt{n:Nat}{agg:Bool}{T T':TypeId}{A A' B:Asn}{b o:Nat}{x y:Operand}(key:Nat){m:Nat}{agg':Bool}(hs:∀ w,(sizeOf T).run P w= .ok m w)(hB:Cellable m agg' B)
  (hr:res.pick [key]= [(key,Bx n agg T' A b)]) (hx:Opd env x (Bp b o)) (hy:Opd env y B) (ho:o+m≤n)
  (hA:∀ g g' cs ds,Ext (· =b) g g'→cs.length=n→A.holds (mkVal agg cs) g→B.holds (mkVal agg' ds) g→ds.length=m→A'.holds (mkVal agg (over cs o ds)) g') :
  OpR P ⟨none,.store T x y,ty,pos,aft,gd⟩ env res [key] (fun _:Unit=>Asn.any) (fun _=>[(key,Bx n agg T' A' b)]):=by
 intro a g K Q hc hd hK
 have hin:(key,Bx n agg T' A b)∈res:=by
  have:(key,Bx n agg T' A b)∈res.pick [key]:=by rw [hr];exact List.mem_singleton.2 rfl
  exact (List.mem_filter.1 this).1
 obtain ⟨cs,h1,h2,h3,h4,h5,h6⟩:=hc.hres _ hin
 have hv:a.eval x= .pointer (some ⟨b,o,none⟩):=hx a g hc.henv
 have hyv:=hy a g hc.henv
 obtain ⟨ds,k1,k2,k3,k4,k5⟩:=hB _ _ hyv
 have hrun:=storeVar_cells (P:=P) (cur:=cs) (ds:=ds) (v:=a.eval y) (o:=o) hs h1 k1 k2 (by omega) k5
 have hex:(execOp a.eval ⟨none,.store T x y,ty,pos,aft,gd⟩).run P g.w= .ok .skip (g.w.setRow b (over cs o ds).toArray):=by
  simp [execOp,hv,Instr.storeAt,Instr.sureAddr,hrun]
 show Oper.upon P _ a K Q ((execOp a.eval _).run P g.w)
 rw [hex]
 have hS:(fun x=>if x=b then g.S b else g.S x)=g.S:=by funext x;split<;> simp_all
 have e:=ext_row (g:=g) (b:=b) (new:=(over cs o ds).toArray) h1 (s:=g.S b) (Nat.le_refl _) (fun i v hi=>by omega) (fun h=>by omega)
 have hw:o+ds.length≤cs.length:=by omega
 refine hK () undef ⟨g.w.setRow b (over cs o ds).toArray,fun x=>if x=b then g.S b else g.S x⟩ (e.mono (fun x hx=>by rw [hr];exact (blks_one rfl).2 hx)) trivial (fun y hy=>?_) (List.pairwise_singleton _ _) (fun b' hb'=>.inl (by rw [hr];exact (blks_one rfl).2 ((blks_one rfl).1 hb')))
 rw [List.mem_singleton.1 hy]
 refine ⟨over cs o ds,setRow_heap g.w b cs.toArray _ T' _ h1,by rw [over_length hw,h2],h3,fun c hcm=>?_,by simp [h5],hA g _ cs ds e h2 h6 (by rw [←k4];exact hyv) k2⟩
 unfold over at hcm
 rcases List.mem_append.1 hcm with hcm | hcm
 ·rcases List.mem_append.1 hcm with hcm | hcm
  ·exact h4 c (List.mem_of_mem_take hcm)
  ·exact k5 c hcm
 ·exact h4 c (List.mem_of_mem_drop hcm)
theorem over_all{cs ds:List Value}(h:ds.length=cs.length):over cs 0 ds=ds:=by
 unfold over
 rw [List.take_zero,List.nil_append,Nat.zero_add,List.drop_eq_nil_of_le (by omega),List.append_nil]
theorem OpR.storeB{n:Nat}{agg:Bool}{T T':TypeId}{A A':Asn}{b:Nat}{x y:Operand}(key:Nat)(hs:∀ w,(sizeOf T).run P w= .ok n w)(hB:Cellable n agg A')
  (hr:res.pick [key]= [(key,Bx n agg T' A b)]) (hx:Opd env x (Bp b 0)) (hy:Opd env y A') :
  OpR P ⟨none,.store T x y,ty,pos,aft,gd⟩ env res [key] (fun _:Unit=>Asn.any) (fun _=>[(key,Bx n agg T' A' b)]):=
 OpR.storeAt key hs hB hr hx hy (by omega) (fun g g' cs ds e h1 _ h2 h3=>by
  rw [over_all (by omega)]
  exact A'.mono e h2)
theorem OpR.storeBF{α β:Type}{s:Ty α}{t:Ty β}{upd:α→β→α}{T T':TypeId}{b o:Nat}{u:α}{v:β}{x y:Operand}(key:Nat)(hs:s.agg=true)(ht:TyAt P T t)(hF:FldSet s o t upd)(hr:res.pick [key]= [(key,Bx s.size true T' (s.is u) b)])
  (ho:o+t.size≤s.size) (hx:Opd env x (Bp b o)) (hy:Opd env y (t.is v)) :
  OpR P ⟨none,.store T x y,ty,pos,aft,gd⟩ env res [key] (fun _:Unit=>Asn.any) (fun _=>[(key,Bx s.size true T' (s.is (upd u v)) b)]):=
 OpR.storeAt key ht.size (Cellable.is t v) hr hx hy ho (fun g g' cs ds e h1 h2 h3 h4=>by
  obtain ⟨cs',k1,k2⟩:=h2
  rw [hs] at k2
  have e1:cs=cs':=by
   have:=congrArg Value.cells k2
   simpa [mkVal,Value.cells] using this
  subst e1
  obtain ⟨ds',j1,j2⟩:=h3
  have e2:ds=ds':=by
   have hl:=t.len j1
   cases ha:t.agg with
   | true=>
    rw [ha] at j2
    have:=congrArg Value.cells j2
    simpa [mkVal,Value.cells] using this
   | false=>
    rw [ha] at j2
    have hn:=t.sing ha
    rw [hn] at h4 hl
    match ds,ds',h4,hl with
    | [c],[c'],_,_=>
     have:c=c':=j2
     rw [this]
  subst e2
  exact ⟨over cs o ds,(hF g' cs ds u v (s.mono e k1) (t.mono e j1)).2,by rw [hs]⟩)
theorem St.sealed{α:Type}{t:Ty α}{u:α}{T:TypeId}{key b slot:Nat}(hr:findR key res=some (Bx t.size t.agg T (t.is u) b))(hs:look slot env=some (Bp b 0)){a:Act}{g:G}(h:St N g0 T0 env res a g) :
  ∃ g',g'.w=g.w∧St N g0 T0 ((slot,t.ptr u) :: env) (res.drop [key]) a g':=by
 have hin:=findR_mem hr
 obtain ⟨cs,h1,h2,h3,h4,h5,cs',k1,k2⟩:=h.hres _ hin
 have hcs:cs=cs':=by
  have hl:=t.len k1
  cases ha:t.agg with
  | true=>
   rw [ha] at k2
   have:=congrArg Value.cells k2
   simpa [mkVal,Value.cells] using this
  | false=>
   rw [ha] at k2
   have hn:=t.sing ha
   rw [hn] at h2 hl
   match cs,cs',h2,hl with
   | [c],[c'],_,_=>
    have:c=c':=k2
    rw [this]
 subst hcs
 have e:Ext (· =b) g ⟨g.w,fun x=>if x=b then t.size else g.S x⟩:=by
  refine ⟨rfl,rfl,rfl,Nat.le_refl _,fun x _ hn=>⟨rfl,?_⟩,fun x i v hv=>⟨?_,hv.2⟩,fun x n hv=>?_⟩
  ·show (if x=b then _ else _)=_
   rw [if_neg hn]
  ·show i<(if x=b then _ else _)
   by_cases hx:x=b
   ·subst hx
    have:=hv.1
    omega
   ·rw [if_neg hx];exact hv.1
  ·by_cases hx:x=b
   ·subst hx
    have:=hv.2
    omega
   ·refine hv.same rfl ?_
    show g.S x≤if x=b then _ else _
    rw [if_neg hx];exact Nat.le_refl _
 refine ⟨⟨g.w,fun x=>if x=b then t.size else g.S x⟩,rfl,h.sz,h.dfr,fun s A hA=>?_,fun y hy=>?_,h.dis.filter _,fun b' ⟨y,hy,hb⟩=>h.own b' ⟨y,(List.mem_filter.1 hy).1,hb⟩,?_⟩
 ·by_cases hk:slot=s
  ·subst hk
   rw [look_here] at hA
   cases hA
   have hv:a.tmps.getD slot undef= .pointer (some ⟨b,0,none⟩):=h.henv slot _ hs
   refine ⟨b,0,hv,cs,t.mono e k1,fun j v hj=>⟨?_,?_⟩⟩
   ·show 0+j<(if b=b then _ else _)
    rw [if_pos rfl]
    have:=(List.getElem?_eq_some_iff.1 hj).1
    omega
   ·show g.w.cell? ⟨b,0+j,none⟩=some v
    rw [cell_of_row _ _ _ _ _ _ h1]
    simpa using hj
  ·rw [look_there _ _ hk] at hA
   exact A.mono e (h.henv s A hA)
 ·have hy':=(List.mem_filter.1 hy)
  refine y.2.stay e (fun b' hb' hT=>?_) (h.hres y hy'.1)
  have hne:y.1≠key:=fun e=>by
   have:=hy'.2
   rw [e] at this
   simp [memB,Nat.beq_refl] at this
  exact h.dis.two y hy'.1 _ hin hne b' hb' (by rw [show b'=b from hT];rfl)
 ·refine h.ext.trans e (fun x hx hT=>?_)
  rcases h.own b ⟨_,hin,rfl⟩ with h1 | h1
  ·have:x=b:=hT
   omega
  ·rw [show x=b from hT];exact h1
theorem WL.sealed{ops:Array Oper}{Q:Exit→Act→World→Prop}{l:List Oper}{α:Type}{t:Ty α}{u:α}{T:TypeId}{b:Nat}(key slot:Nat)(hr:findR key res=some (Bx t.size t.agg T (t.is u) b))(hs:look slot env=some (Bp b 0))
  (k:WL P N g0 T0 ops Q l ((slot,t.ptr u) :: env) (res.drop [key])):WL P N g0 T0 ops Q l env res:=by
 intro a g hst
 obtain ⟨g',h1,h2⟩:=St.sealed hr hs hst
 have:=k a g' h2
 rw [h1] at this
 exact this
def readRes(tmps:Array Value)(rv:ResultVar):Sem Value:=match rv with
 | .tmp t=>pure (tmps.getD t undef)
 | .cell a t=>do loadVar t (←asAddr (tmps.getD a undef))
def ResAt(P:Program)(env:Env)(res:Rs)(rv:ResultVar)(A:Asn):Prop:=∀ a g,Cx env res a g→∃ v,(readRes a.tmps rv).run P g.w= .ok v g.w∧A.holds v g
theorem ResAt.tmp{t:Tmp}{A:Asn}(h:Opd env (.tmp t) A):ResAt P env res (.tmp t) A:=fun a g hc=>⟨_,rfl,h a g hc.henv⟩
theorem ResAt.weak{rv:ResultVar}{A A':Asn}(h:ResAt P env res rv A)(hA:∀ v g,A.holds v g→A'.holds v g):ResAt P env res rv A':=fun a g hc=>let ⟨v,h1,h2⟩:=h a g hc;⟨v,h1,hA v g h2⟩
theorem ResAt.cell{n:Nat}{agg:Bool}{T T':TypeId}{A:Asn}{b p:Nat}(key:Nat)(hg:∀ w,(isAgg T).run P w= .ok agg w)(hs:∀ w,(sizeOf T).run P w= .ok n w)(hr:findR key res=some (Bx n agg T' A b))(hx:Opd env (.tmp p) (Bp b 0)):ResAt P env res (.cell p T) A:=
 fun a g hc=>by
  obtain ⟨cs,h1,h2,h3,h4,h5,h6⟩:=Bx.at hr hc
  have hv:a.tmps.getD p undef= .pointer (some ⟨b,0,none⟩):=hx a g hc.henv
  have:=loadVar_cells (P:=P) hg hs (w:=g.w) (b:=b) (o:=0) h2 h3 (fun j v hj=>by
   rw [cell_of_row _ _ _ _ _ _ h1]
   simpa using hj)
  exact ⟨mkVal agg cs,by simp [readRes,hv,asAddr,this],h6⟩
theorem ResAt.ptr{α:Type}{t:Ty α}{T:TypeId}{p:Nat}{u:α}(ht:TyAt P T t)(hx:Opd env (.tmp p) (t.ptr u)):ResAt P env res (.cell p T) (t.is u):=
 fun a g hc=>by
  obtain ⟨b,o,hv,hat⟩:=hx a g hc.henv
  have hv':a.tmps.getD p undef= .pointer (some ⟨b,o,none⟩):=hv
  obtain ⟨v,h1,h2⟩:=At.load ht hat
  exact ⟨v,by simp [readRes,hv',asAddr,h1],h2⟩
section
variable {rin:Rs} {fn:Func} {ρ:Type} {A:ρ→Asn} {out:ρ→Rs} {ks:List KF}
theorem results_eq(fn:Func)(tmps:Array Value):results fn tmps=(do let vs←fn.results.mapM (readRes tmps);pure (if h:vs.size=1 then vs[0] else .tuple vs)):=by
 unfold results
 congr 2
theorem W.retQ1{rv:ResultVar}(x:ρ)(hr:fn.results= #[rv])(h:ResAt P env res rv (A x))(hs:RSub (out x) res):W P N g0 rin.blks .ret ks (Bo P fn g0 rin A out) env res:=
 W.ret fun a g hst=>by
  obtain ⟨v,h1,h2⟩:=h a g hst.cx
  exact ⟨hst.dfr,v,by rw [results_eq,hr];simp [h1],x,v,g,rfl,rfl,hst.ext,h2,fun y hy=>hst.hres y (hs.mem y hy),hs.dis hst.dis,fun b ⟨y,hy,hyb⟩=>(hst.own b ⟨y,hs.mem y hy,hyb⟩).symm⟩
theorem W.retQ2{rv rv2:ResultVar}(x:ρ){C D:Asn}(hr:fn.results= #[rv,rv2])(hA:A x=Asn.tuple2 C D)(h:ResAt P env res rv C)(k:ResAt P env res rv2 D)(hs:RSub (out x) res):W P N g0 rin.blks .ret ks (Bo P fn g0 rin A out) env res:=
 W.ret fun a g hst=>by
  obtain ⟨v,h1,h2⟩:=h a g hst.cx
  obtain ⟨u,k1,k2⟩:=k a g hst.cx
  exact ⟨hst.dfr,.tuple #[v,u],by rw [results_eq,hr];simp [h1,k1],x,_,g,rfl,rfl,hst.ext,by rw [hA];exact ⟨v,u,rfl,h2,k2⟩,fun y hy=>hst.hres y (hs.mem y hy),hs.dis hst.dis,fun b ⟨y,hy,hyb⟩=>(hst.own b ⟨y,hs.mem y hy,hyb⟩).symm⟩
end
end
end Go.Dec
