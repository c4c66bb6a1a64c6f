/-
  Readings of arguments of types that hold themselves.
-/
import Derived.Test.YtalogjkalmkpjaaGreatDoorRead
set_option linter.unusedVariables false
set_option linter.unusedSimpArgs false
namespace Go.Dec
open Go Go.RowKit Go.WideShapes Go.ChangeShapes
def RdU(P:Program)(W:World)(k:Nat)(T:TypeId){α:Type}(t:Ty α):Prop:=
 ∀ (H:Type) (enc:TypeId×Value→H) (spare:Nat→Bool) (fuel:Nat) (cs:List Value) (d:DataW H) (ps:List MemPlace),fuel≤k→
  DataW.trod enc P W 0 spare true fuel T cs=some (d,ps)→(∀ n∈d.weights P T,n≤reachBytes)→∃ x,t.rep (G.top W) cs x
section
variable {P:Program} {W:World}
theorem Rds.to{T:TypeId}{α:Type}{t:Ty α}(h:Rds P W T t)(k:Nat):RdU P W k T t:=fun H enc spare fuel cs d ps _ h1 h2=>h H enc spare fuel cs d ps h1 h2
theorem Rds.ofU{T:TypeId}{α:Type}{t:Ty α}(h:∀ k,RdU P W k T t):Rds P W T t:=fun H enc spare fuel cs d ps h1 h2=>h fuel H enc spare fuel cs d ps (Nat.le_refl _) h1 h2
theorem RdU.down{k j:Nat}{T:TypeId}{α:Type}{t:Ty α}(h:RdU P W k T t)(hj:j≤k):RdU P W j T t:=fun H enc spare fuel cs d ps hf h1 h2=>h H enc spare fuel cs d ps (Nat.le_trans hf hj) h1 h2
theorem RdU.le{k:Nat}{T:TypeId}{α:Type}{s t:Ty α}(l:Le s t)(h:RdU P W k T s):RdU P W k T t:=fun H enc spare fuel cs d ps hf h1 h2=>
 let ⟨x,hx⟩:=h H enc spare fuel cs d ps hf h1 h2;⟨x,l.rep _ _ _ hx⟩
theorem RdU.slice{T e:TypeId}{α:Type}{t:Ty α}(hT:P.underlying T=some (.slice e)){k:Nat}(he:RdU P W k e t)(hc:P.cellsOf e=t.size)(h0:0<t.size)(hb:0<P.bytesOf e):RdU P W (k+1) T (tL t):=by
 intro H enc spare fuel cs d ps hfu h hw
 rcases DataW.trod_slice hT h with ⟨rfl,_⟩ | ⟨a,len,cap,elems,rest,n,hn,rfl,hx,_,hl,_,hlen,hel,_,_⟩
 ·exact ⟨[],none,0,rfl,Nat.zero_le _,Nat.zero_le _,fun _=>rfl,rfl⟩
 ·simp only [Prod.mk.injEq] at hx
  obtain ⟨rfl,rfl⟩:=hx
  have hlim:len≤lim:=by
   have:=hw (((elems.map (·.1)).length+(rest.map (·.1)).length)*P.bytesOf e) (by simp [DataW.weights,hT])
   have hr:reachBytes<2 ^ 47:=reachBytes_lt
   simp only [List.length_map,hlen] at this
   have h2:(len+rest.length)*1≤(len+rest.length)*P.bytesOf e:=Nat.mul_le_mul_left _ hb
   unfold lim
   omega
  have key:∀ i,i<len→∃ x,(i=0→a.spot=none)∧t.At (G.top W) a.block (a.off+i*t.size) x:=by
   intro i hi
   have h1:=hel i hi
   have hi':i<elems.length:=by omega
   rw [List.getElem?_eq_getElem hi',Option.bind_eq_some_iff] at h1
   obtain ⟨cs',hcs,htr⟩:=h1
   obtain ⟨x,hx⟩:=he H enc spare n cs' elems[i].1 elems[i].2 (by omega) htr (fun m hm=>hw m (by
    simp only [DataW.weights,hT,List.mem_cons,List.mem_append]
    exact .inr (.inl (weights_mem_all (List.mem_map.2 ⟨elems[i],List.getElem_mem hi',rfl⟩) m hm))))
   obtain ⟨_,hlen',hcell⟩:=World.cells?_some hcs
   have hA:∀ j v,cs'[j]? =some v→(G.top W).Has a.block (a.off+i*t.size+j) v∧(i*t.size+j=0→a.spot=none):=by
    intro j v hj
    have hlt:=(List.getElem?_eq_some_iff.1 hj).1
    have hc1:W.cell? ((a.add (i*P.cellsOf e)).add j)=some v:=by
     have:=hcell j (by omega)
     rw [this];exact hj
    obtain ⟨hs,hh⟩:=top_has hc1
    have hbk:((a.add (i*P.cellsOf e)).add j).block=a.block:=by unfold Addr.add;split<;> split<;> rfl
    have hof:((a.add (i*P.cellsOf e)).add j).off=a.off+i*t.size+j:=by
     rw [hc];unfold Addr.add;split<;> split<;> simp_all<;> omega
    rw [hbk,hof] at hh
    refine ⟨hh,fun hz=>?_⟩
    have h3:i*P.cellsOf e=0:=by rw [hc];omega
    have h4:j=0:=by omega
    rw [h3,h4] at hs
    exact hs
   refine ⟨x,fun hi0=>?_,cs',hx,fun j v hj=>(hA j v hj).1⟩
   have hl0:0<cs'.length:=by omega
   obtain ⟨_,hs⟩:=hA 0 cs'[0] (List.getElem?_eq_getElem hl0)
   exact hs (by rw [hi0];simp)
  obtain ⟨xs,hxl,hxq⟩:=pickAll (fun i x=>(i=0→a.spot=none)∧t.At (G.top W) a.block (a.off+i*t.size) x) len key
  refine ⟨xs,some a,cap,by rw [hxl],by omega,by omega,(fun h=>by cases h),?_,fun i x hi=>(hxq i x hi).2⟩
  cases xs with
  | nil=>exact .inl rfl
  | cons x r=>exact .inr ((hxq 0 x rfl).1 rfl)
def RdFU(P:Program)(W:World)(k:Nat)(fs:List Field)(o:Nat){α:Type}(t:Ty α):Prop:=
 ∀ (H:Type) (enc:TypeId×Value→H) (spare:Nat→Bool) (n:Nat) (cs:List Value),n≤k→cs.length=o+t.size→
  (∀ (i:Nat) f,fs[i]? =some f→∃ d ps,DataW.trod enc P W 0 spare true n f.type ((cs.drop f.offset).take (P.cellsOf f.type))=some (d,ps)∧(∀ m∈d.weights P f.type,m≤reachBytes))→
  ∃ x,t.rep (G.top W) (cs.drop o) x
theorem RdFU.last{k:Nat}{f:Field}{o:Nat}{α:Type}{t:Ty α}(ho:f.offset=o)(hc:P.cellsOf f.type=t.size)(h:RdU P W k f.type t):RdFU P W k [f] o (tOne t):=by
 intro H enc spare n cs hn hl hf
 obtain ⟨d,ps,h1,h2⟩:=hf 0 f rfl
 obtain ⟨x,hx⟩:=h H enc spare n _ d ps hn h1 h2
 refine ⟨x,?_⟩
 rw [ho,hc,List.take_of_length_le (by rw [List.length_drop];have:(tOne t).size=t.size:=rfl;omega)] at hx
 exact hx
theorem RdFU.cons{k:Nat}{f:Field}{fs:List Field}{o o':Nat}{α β:Type}{t:Ty α}{u:Ty β}(ho:f.offset=o)(hc:P.cellsOf f.type=t.size)(ho':o'=o+t.size)(h:RdU P W k f.type t)(kk:RdFU P W k fs o' u):RdFU P W k (f :: fs) o (tP t u):=by
 intro H enc spare n cs hn hl hf
 have hs:(tP t u).size=t.size+u.size:=rfl
 obtain ⟨d,ps,h1,h2⟩:=hf 0 f rfl
 obtain ⟨x,hx⟩:=h H enc spare n _ d ps hn h1 h2
 obtain ⟨y,hy⟩:=kk H enc spare n cs hn (by omega) (fun i g hg=>hf (i+1) g (by simpa using hg))
 rw [ho,hc] at hx
 refine ⟨(x,y),_,_,?_,hx,hy⟩
 rw [ho',←List.drop_drop,List.take_append_drop]
theorem RdU.struct{k:Nat}{T:TypeId}{fs:Array Field}{α β:Type}{t:Ty β}{f:α→β}(mk:β→α)(hf:∀ x,f (mk x)=x)(hT:P.underlying T=some (.struct fs))(hc:P.cellsOf T=t.size)(h:RdFU P W k fs.toList 0 t):RdU P W (k+1) T (tMap t f):=by
 intro H enc spare fuel cs d ps hfu htr hw
 obtain ⟨xs,n,hn,hx,hl,hxl,hel⟩:=DataW.trod_struct hT htr
 simp only [Prod.mk.injEq] at hx
 obtain ⟨rfl,rfl⟩:=hx
 obtain ⟨x,hx⟩:=h H enc spare n cs (by omega) (by omega) (fun i g hg=>by
  have hg':fs[i]? =some g:=by simpa using hg
  have h1:=hel i g hg'
  have hi:i<xs.length:=by rw [hxl];exact (Array.getElem?_eq_some_iff.1 hg').1
  rw [List.getElem?_eq_getElem hi] at h1
  refine ⟨xs[i].1,xs[i].2,h1,fun m hm=>hw m ?_⟩
  simp only [DataW.weights,hT]
  exact DataW.weights_mem_each (ts:=fs.toList.map (·.type)) (ds:=xs.map (·.1)) (j:=i) (t:=g.type) (d:=xs[i].1) (by simp [hg']) (by simp [hi]) m hm)
 refine ⟨mk x,?_⟩
 show t.rep (G.top W) cs (f (mk x))
 rw [hf];exact hx
theorem Rds.fix{T:TypeId}{fs:Array Field}{α:Type}{F:Ty α→Ty α}{n:Nat}(r:Rec F n)(hT:P.underlying T=some (.struct fs))(h:∀ k,RdU P W k T (tFix r)→RdU P W (k+1) T (F (tFix r))):Rds P W T (tFix r):=by
 refine Rds.ofU fun k=>?_
 induction k with
 | zero=>
  intro H enc spare fuel cs d ps hf htr hw
  obtain ⟨xs,n,hn,_⟩:=DataW.trod_struct hT htr
  omega
 | succ k ih=>exact (h k ih).le r.into
end
end Go.Dec
