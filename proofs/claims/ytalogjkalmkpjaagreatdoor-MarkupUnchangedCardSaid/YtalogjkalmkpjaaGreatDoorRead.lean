/-
  From a reading of a call's arguments by data to a reading of this logic; and the last step of a row whose result is a bool.
-/
import Derived.Test.YtalogjkalmkpjaaGreatDoorDec21
import Derived.SizedLaws
import Derived.ChangeArms
import Derived.ChangeSlices
import Derived.Below
import Derived.ChangeSame
import Derived.Carry
import Derived.ProofKit
set_option linter.unusedVariables false
set_option linter.unusedSimpArgs false
namespace Go.Dec
open Go Go.RowKit Go.WideShapes Go.ChangeShapes
def G.top(w:World):G:=⟨w,fun b=>match w.heap[b]? with | some (.cells c _ _)=>c.size | _=>0⟩
theorem top_has{w:World}{a:Addr}{v:Value}(h:w.cell? a=some v):a.spot=none∧(G.top w).Has a.block a.off v:=by
 obtain ⟨b,i,s⟩:=a
 unfold World.cell? at h
 cases ho:w.heap[b]? with
 | none=>simp [ho] at h
 | some o=>
  cases o with
  | map _ _=>simp [ho] at h
  | cells c t fr=>
   simp only [ho] at h
   cases s with
   | some _=>simp at h
   | none=>
    refine ⟨rfl,?_,?_⟩
    ·show i<(match w.heap[b]? with | some (.cells c _ _)=>c.size | _=>0)
     rw [ho]
     exact (Array.getElem?_eq_some_iff.1 (by simpa using h)).1
    ·show w.cell? ⟨b,i,none⟩=some v
     unfold World.cell?
     simp only [ho]
     exact h
  | _=>simp [ho] at h
def Rds(P:Program)(W:World)(T:TypeId){α:Type}(t:Ty α):Prop:=
 ∀ (H:Type) (enc:TypeId×Value→H) (spare:Nat→Bool) (fuel:Nat) (cs:List Value) (d:DataW H) (ps:List MemPlace),
  DataW.trod enc P W 0 spare true fuel T cs=some (d,ps)→(∀ n∈d.weights P T,n≤reachBytes)→∃ x,t.rep (G.top W) cs x
section
variable {P:Program} {W:World}
theorem Rds.int{T:TypeId}{k:IntKind}(hT:P.underlying T=some (.int k)):Rds P W T (tI k):=by
 intro H enc spare fuel cs d ps h _
 obtain ⟨n,rfl,_,hw⟩:=DataW.trod_int hT h
 refine ⟨n,rfl,?_⟩
 simpa [Lit.wf,inR,IntKind.has] using hw
theorem Rds.bool{T:TypeId}(hT:P.underlying T=some .bool):Rds P W T tB:=by
 intro H enc spare fuel cs d ps h _
 obtain ⟨b,rfl,_⟩:=DataW.trod_bool hT h
 exact ⟨b,rfl⟩
theorem Rds.string{T:TypeId}(hT:P.underlying T=some .string):Rds P W T tS:=by
 intro H enc spare fuel cs d ps h hw
 obtain ⟨s,rfl,hx,_⟩:=DataW.trod_string hT h
 simp only [Prod.mk.injEq] at hx
 obtain ⟨rfl,rfl⟩:=hx
 refine ⟨s.data.toList,by simp [str],?_⟩
 have:=hw s.data.toList.length (by simp [DataW.weights])
 have hr:reachBytes<2 ^ 47:=reachBytes_lt
 unfold lim
 omega
theorem pickAll{α:Type}(Q:Nat→α→Prop):∀ (n:Nat),(∀ i,i<n→∃ x,Q i x)→∃ xs:List α,xs.length=n∧ ∀ i x,xs[i]? =some x→Q i x
 | 0,_=>⟨[],rfl,fun i x h=>by simp at h⟩
 | n+1,h=>by
  obtain ⟨xs,hl,hx⟩:=pickAll Q n (fun i hi=>h i (by omega))
  obtain ⟨y,hy⟩:=h n (by omega)
  refine ⟨xs++ [y],by simp [hl],fun i x hi=>?_⟩
  by_cases hin:i<n
  ·rw [List.getElem?_append_left (by omega)] at hi;exact hx i x hi
  ·have hlt:=(List.getElem?_eq_some_iff.1 hi).1
   simp [hl] at hlt
   have:i=n:=by omega
   subst this
   rw [List.getElem?_append_right (by omega),hl] at hi
   simp at hi
   subst hi;exact hy
theorem weights_mem_all{H:Type}{e:TypeId}:∀ {ds:List (DataW H)} {d:DataW H},d∈ds→∀ n∈d.weights P e,n∈DataW.weightsAll P e ds
 | d0 :: ds,d,hd,n,hn=>by
  simp only [DataW.weightsAll,List.mem_append]
  rcases List.mem_cons.1 hd with rfl | hd
  ·exact .inl hn
  ·exact .inr (weights_mem_all hd n hn)
theorem Rds.slice{T e:TypeId}{α:Type}{t:Ty α}(hT:P.underlying T=some (.slice e))(he:Rds P W e t)(hc:P.cellsOf e=t.size)(h0:0<t.size)(hb:0<P.bytesOf e):Rds P W T (tL t):=by
 intro H enc spare fuel cs d ps h hw
 rcases DataW.trod_slice hT h with ⟨rfl,_⟩ | ⟨a,len,cap,elems,rest,n,_,rfl,hx,_,hl,_,hlen,hel,_,_⟩
 ·exact ⟨[],none,0,rfl,Nat.zero_le _,Nat.zero_le _,fun _=>rfl,rfl⟩
 ·simp only [Prod.mk.injEq] at hx
  obtain ⟨rfl,rfl⟩:=hx
  have hlim:len≤lim:=by
   have:=hw (((elems.map (·.1)).length+(rest.map (·.1)).length)*P.bytesOf e) (by simp [DataW.weights,hT])
   have hr:reachBytes<2 ^ 47:=reachBytes_lt
   simp only [List.length_map,hlen] at this
   have h2:(len+rest.length)*1≤(len+rest.length)*P.bytesOf e:=Nat.mul_le_mul_left _ hb
   unfold lim
   omega
  have key:∀ i,i<len→∃ x,(i=0→a.spot=none)∧t.At (G.top W) a.block (a.off+i*t.size) x:=by
   intro i hi
   have h1:=hel i hi
   have hi':i<elems.length:=by omega
   rw [List.getElem?_eq_getElem hi',Option.bind_eq_some_iff] at h1
   obtain ⟨cs',hcs,htr⟩:=h1
   obtain ⟨x,hx⟩:=he H enc spare n cs' elems[i].1 elems[i].2 htr (fun m hm=>hw m (by
    simp only [DataW.weights,hT,List.mem_cons,List.mem_append]
    exact .inr (.inl (weights_mem_all (List.mem_map.2 ⟨elems[i],List.getElem_mem hi',rfl⟩) m hm))))
   obtain ⟨_,hlen',hcell⟩:=World.cells?_some hcs
   have hA:∀ j v,cs'[j]? =some v→(G.top W).Has a.block (a.off+i*t.size+j) v∧(i*t.size+j=0→a.spot=none):=by
    intro j v hj
    have hlt:=(List.getElem?_eq_some_iff.1 hj).1
    have hc1:W.cell? ((a.add (i*P.cellsOf e)).add j)=some v:=by
     have:=hcell j (by omega)
     rw [this];exact hj
    obtain ⟨hs,hh⟩:=top_has hc1
    have hbk:((a.add (i*P.cellsOf e)).add j).block=a.block:=by unfold Addr.add;split<;> split<;> rfl
    have hof:((a.add (i*P.cellsOf e)).add j).off=a.off+i*t.size+j:=by
     rw [hc];unfold Addr.add;split<;> split<;> simp_all<;> omega
    rw [hbk,hof] at hh
    refine ⟨hh,fun hz=>?_⟩
    have h3:i*P.cellsOf e=0:=by rw [hc];omega
    have h4:j=0:=by omega
    rw [h3,h4] at hs
    exact hs
   refine ⟨x,fun hi0=>?_,cs',hx,fun j v hj=>(hA j v hj).1⟩
   have hl0:0<cs'.length:=by omega
   obtain ⟨_,hs⟩:=hA 0 cs'[0] (List.getElem?_eq_getElem hl0)
   exact hs (by rw [hi0];simp)
  obtain ⟨xs,hxl,hxq⟩:=pickAll (fun i x=>(i=0→a.spot=none)∧t.At (G.top W) a.block (a.off+i*t.size) x) len key
  refine ⟨xs,some a,cap,by rw [hxl],by omega,by omega,(fun h=>by cases h),?_,fun i x hi=>(hxq i x hi).2⟩
  cases xs with
  | nil=>exact .inl rfl
  | cons x r=>exact .inr ((hxq 0 x rfl).1 rfl)
def RdF(P:Program)(W:World)(fs:List Field)(o:Nat){α:Type}(t:Ty α):Prop:=
 ∀ (H:Type) (enc:TypeId×Value→H) (spare:Nat→Bool) (n:Nat) (cs:List Value),cs.length=o+t.size→
  (∀ (i:Nat) f,fs[i]? =some f→∃ d ps,DataW.trod enc P W 0 spare true n f.type ((cs.drop f.offset).take (P.cellsOf f.type))=some (d,ps)∧(∀ m∈d.weights P f.type,m≤reachBytes))→
  ∃ x,t.rep (G.top W) (cs.drop o) x
theorem RdF.last{f:Field}{o:Nat}{α:Type}{t:Ty α}(ho:f.offset=o)(hc:P.cellsOf f.type=t.size)(h:Rds P W f.type t):RdF P W [f] o (tOne t):=by
 intro H enc spare n cs hl hf
 obtain ⟨d,ps,h1,h2⟩:=hf 0 f rfl
 obtain ⟨x,hx⟩:=h H enc spare n _ d ps h1 h2
 refine ⟨x,?_⟩
 rw [ho,hc,List.take_of_length_le (by rw [List.length_drop];have:(tOne t).size=t.size:=rfl;omega)] at hx
 exact hx
theorem RdF.cons{f:Field}{fs:List Field}{o o':Nat}{α β:Type}{t:Ty α}{u:Ty β}(ho:f.offset=o)(hc:P.cellsOf f.type=t.size)(ho':o'=o+t.size)(h:Rds P W f.type t)(k:RdF P W fs o' u):RdF P W (f :: fs) o (tP t u):=by
 intro H enc spare n cs hl hf
 have hs:(tP t u).size=t.size+u.size:=rfl
 obtain ⟨d,ps,h1,h2⟩:=hf 0 f rfl
 obtain ⟨x,hx⟩:=h H enc spare n _ d ps h1 h2
 obtain ⟨y,hy⟩:=k H enc spare n cs (by omega) (fun i g hg=>hf (i+1) g (by simpa using hg))
 rw [ho,hc] at hx
 refine ⟨(x,y),_,_,?_,hx,hy⟩
 rw [ho',←List.drop_drop,List.take_append_drop]
theorem Rds.struct{T:TypeId}{fs:Array Field}{α β:Type}{t:Ty β}{f:α→β}(mk:β→α)(hf:∀ x,f (mk x)=x)(hT:P.underlying T=some (.struct fs))(hc:P.cellsOf T=t.size)(h:RdF P W fs.toList 0 t):Rds P W T (tMap t f):=by
 intro H enc spare fuel cs d ps htr hw
 obtain ⟨xs,n,rfl,hx,hl,hxl,hel⟩:=DataW.trod_struct hT htr
 simp only [Prod.mk.injEq] at hx
 obtain ⟨rfl,rfl⟩:=hx
 obtain ⟨x,hx⟩:=h H enc spare n cs (by omega) (fun i g hg=>by
  have hg':fs[i]? =some g:=by simpa using hg
  have h1:=hel i g hg'
  have hi:i<xs.length:=by rw [hxl];exact (Array.getElem?_eq_some_iff.1 hg').1
  rw [List.getElem?_eq_getElem hi] at h1
  refine ⟨xs[i].1,xs[i].2,h1,fun m hm=>hw m ?_⟩
  simp only [DataW.weights,hT]
  exact DataW.weights_mem_each (ts:=fs.toList.map (·.type)) (ds:=xs.map (·.1)) (j:=i) (t:=g.type) (d:=xs[i].1) (by simp [hg']) (by simp [hi]) m hm)
 refine ⟨mk x,?_⟩
 show t.rep (G.top W) cs (f (mk x))
 rw [hf];exact hx
theorem Rds.is{base:Nat}{T:TypeId}{α:Type}{t:Ty α}(h:Rds P W T t)(hk:∀ (v:Value),Value.okWide P W .any base T v→v=mkVal t.agg v.cells.toList){H:Type}{enc:TypeId×Value→H}{spare:Nat→Bool}{v:Value}{d:DataW H}{ps:List MemPlace}
  (hd:DataW.Trod enc P W 0 spare true T v d ps) (hw:∀ n∈d.weights P T,n≤reachBytes) (hv:Value.okWide P W .any base T v):∃ x,(t.is x).holds v (G.top W):=by
 obtain ⟨fuel,hf⟩:=hd
 obtain ⟨x,hx⟩:=h H enc spare fuel _ d ps hf hw
 exact ⟨x,v.cells.toList,hx,hk v hv⟩
theorem okW_int{base:Nat}{T:TypeId}{k:IntKind}(hT:P.underlying T=some (.int k))(v:Value)(h:Value.okWide P W .any base T v):v=mkVal false v.cells.toList:=by
 obtain ⟨n,rfl⟩:=okWide_int hT h;rfl
theorem okW_string{base:Nat}{T:TypeId}(hT:P.underlying T=some .string)(v:Value)(h:Value.okWide P W .any base T v):v=mkVal false v.cells.toList:=by
 obtain ⟨n,rfl⟩:=okWide_string hT h;rfl
theorem okW_slice{base:Nat}{T e:TypeId}(hT:P.underlying T=some (.slice e))(v:Value)(h:Value.okWide P W .any base T v):v=mkVal false v.cells.toList:=by
 obtain ⟨a,len,cap,rfl⟩:=okWide_slice hT h;rfl
theorem okW_struct{base:Nat}{T:TypeId}{fs:Array Field}(hT:P.underlying T=some (.struct fs))(v:Value)(h:Value.okWide P W .any base T v):v=mkVal true v.cells.toList:=by
 obtain ⟨cs,rfl,_⟩:=okWide_struct hT h;simp [mkVal,Value.cells]
theorem Ext.below{g g':G}(h:Ext No g g'):Below g.w.heap.size g.w g'.w:=
 ⟨h.os,h.tape,h.output,h.size,fun k hk=>(h.same k hk (fun f=>f.elim)).1⟩
end
section
variable {H:Type} {enc:TypeId×Value→H} {P:Program}
theorem post_of_below{f:Func}{s:ChangeSpec}{apart fresh handsOn again:Bool}{W W':World}{args:Array Value}{v:Value}{ds gs:List (DataW H)}{before pa pv:List MemPlace}
  (hW:DataW.Whole enc P f.params.toList s.vars apart W args.toList ds gs before)
  (hres:∀ (b:Nat) (sp:Nat→Bool) (hd:Bool),DataW.TrodAll enc P W' b sp hd f.resultTypes.toList (v.resultList f.resultTypes.size) (s.fn H (ds++gs)).results [])
  (hargs:∀ sp:Nat→Bool,(∀ p∈before,sp p.block=true)→DataW.TrodAll enc P W' 0 sp true f.params.toList args.toList (s.fn H (ds++gs)).args pa)
  (hvars:∀ sp:Nat→Bool,(∀ p∈before,sp p.block=true)→DataW.TrodVars enc P W' sp s.vars (s.fn H (ds++gs)).vars pv)
  (hps:before=pa++pv) (hb:Below W.heap.size W W')
  (hok:∀ (j:Nat) (t:TypeId) (r:Value),f.resultTypes[j]? =some t→(v.resultList f.resultTypes.size)[j]? =some r→Value.okWide P W' .any 0 t r) :
  s.post enc P f apart fresh handsOn again W args v W':=by
 have hlt:∀ p∈before,p.block<W.heap.size:=fun p hp=>hW.lt p hp
 have hold:∀ p∈before,(fun b=>decide (b<W.heap.size)) p.block=true:=fun p hp=>by simpa using hlt p hp
 refine ⟨ds,gs,before,[],pa,pv,hW,hres _ _ _,hargs _ hold,hvars _ hold,World.keptBut_mono (fun p hp=>⟨hp,?_⟩) (hb.frame (· ∈before)),fun _=>?_⟩
 ·rw [hps,List.mem_append] at hp
  exact Or.inr hp
 ·obtain ⟨_,_,_,_,_,hz,hn⟩:=hW
  refine ⟨hok,_,_,([]++pa)++pv,⟨[]++pa,pv,trodAll_append (hargs _ (fun _ _=>rfl)) (hres _ _ _),hvars _ (fun _ _=>rfl),rfl,?_,?_⟩,?_⟩
  ·intro b off hp
   have hin:MemPlace.cell b off∈before:=by rw [hps];simpa using hp
   rw [hb.frozen (hlt _ hin)]
   exact hz b off hin
  ·intro ha
   have:=hn ha
   rw [hps] at this
   simpa using this
  ·intro p hp _
   rw [hps]
   simpa using hp
def ArgsOk(P:Program)(W:World)(base:Nat)(Ts:List TypeId)(vs:List Value):Prop:=
 ∃ (H:Type) (enc:TypeId×Value→H) (ds:List (DataW H)) (ps:List MemPlace),DataW.TrodAll enc P W 0 (fun _=>true) true Ts vs ds ps∧
  (∀ n∈DataW.weightsEach P Ts ds,n≤reachBytes)∧ ∀ (j:Nat) t v,Ts[j]? =some t→vs[j]? =some v→Value.okWide P W .any base t v
theorem ArgsOk.cons{W:World}{base:Nat}{T:TypeId}{Ts:List TypeId}{vs:List Value}{α:Type}{t:Ty α}(h:ArgsOk P W base (T :: Ts) vs)(hr:Rds P W T t)
  (hk:∀ (v:Value),Value.okWide P W .any base T v→v=mkVal t.agg v.cells.toList):∃ v vs' x,vs=v :: vs'∧(t.is x).holds v (G.top W)∧ArgsOk P W base Ts vs':=by
 obtain ⟨H,enc,ds,ps,h1,h2,h3⟩:=h
 match vs,ds,h1 with
 | v :: vs,d :: ds,h1=>
  obtain ⟨p,q,hd,hrest,_⟩:=h1
  obtain ⟨x,hx⟩:=hr.is hk hd (fun n hn=>h2 n (by simp only [DataW.weightsEach,List.mem_append];exact .inl hn)) (h3 0 T v rfl rfl)
  refine ⟨v,vs,x,rfl,hx,H,enc,ds,q,hrest,fun n hn=>h2 n (by simp only [DataW.weightsEach,List.mem_append];exact .inr hn),fun j t v hj hv=>h3 (j+1) t v (by simpa using hj) (by simpa using hv)⟩
theorem ArgsOk.nil{W:World}{base:Nat}{vs:List Value}(h:ArgsOk P W base [] vs):vs= []:=by
 obtain ⟨H,enc,ds,ps,h1,_,_⟩:=h
 match vs,ds,h1 with
 | [],[],_=>rfl
theorem trodAll_stays(hl:laidOutB P=true){W W':World}{sp:Nat→Bool}(hb:Below W.heap.size W W'):∀ {Ts:List TypeId} {vs:List Value} {ds:List (DataW H)} {ps:List MemPlace},
  (∀ t∈Ts,P.readableRec t=true∧t<P.types.size)→DataW.TrodAll enc P W 0 (fun _=>true) true Ts vs ds ps→(∀ p∈ps,p.block<W.heap.size)→(∀ p∈ps,sp p.block=true)→DataW.TrodAll enc P W' 0 sp true Ts vs ds ps
 | [],[],[],_,_,h,_,_=>h
 | t :: Ts,v :: vs,d :: ds,_,hr,⟨p,q,h1,h2,rfl⟩,hlt,hs=>by
  refine ⟨p,q,?_,trodAll_stays hl hb (fun t ht=>hr t (List.mem_cons_of_mem _ ht)) h2 (fun x hx=>hlt x (List.mem_append_right _ hx)) (fun x hx=>hs x (List.mem_append_right _ hx)),rfl⟩
  exact WideElems.Trod_stays hl (hr t List.mem_cons_self).1 (hr t List.mem_cons_self).2 h1 (fun x hx=>hb.same (hlt x (List.mem_append_left _ hx))) (fun x hx=>hs x (List.mem_append_left _ hx))
theorem trodAll_len{W:World}{b:Nat}{sp:Nat→Bool}{hd:Bool}:∀ {Ts:List TypeId} {vs:List Value} {ds:List (DataW H)} {ps:List MemPlace},DataW.TrodAll enc P W b sp hd Ts vs ds ps→ds.length=Ts.length
 | [],[],[],_,_=>rfl
 | _ :: _,_ :: _,_ :: _,_,⟨_,_,_,h,_⟩=>by simp [trodAll_len h]
end
end Go.Dec
