import Derived.Test.YtalogjkalmkpjaaGreatDoorDec21
import Derived.SizedLaws
import Derived.ChangeArms
import Derived.ChangeSlices
import Derived.Below
import Derived.ChangeSame
import Derived.Carry
import Derived.ProofKit
import Derived.LaidMore
import Derived.OpenShut
import Derived.Stop.Joined
import Derived.MakeChecks
/-
  From a reading of a call's arguments by data to a reading of this logic; and the last step of a row whose result is a bool.
-/
set_option linter.unusedVariables false
set_option linter.unusedSimpArgs false
namespace Go.Dec
open Go Go.RowKit Go.WideShapes Go.ChangeShapes
def G.top(w:World):G:=⟨w,fun b=>match w.heap[b]? with | some (.cells c _ _)=>c.size | _=>0⟩
theorem rE{w:World}{a:Addr}{v:Value}(h:w.cell? a=some v):a.spot=none∧(G.top w).Has a.block a.off v:=by
 obtain ⟨b,i,s⟩:=a;unfold World.cell? at h;cases ho:w.heap[b]? with
 | none=>simp [ho] at h
 | some o=>
  cases o with
  | map _ _=>simp [ho] at h
  | cells c t fr=>
   simp only [ho] at h;cases s with
   | some _=>simp at h
   | none=>
    refine ⟨rfl,?_,?_⟩
    ·show i<(match w.heap[b]? with | some (.cells c _ _)=>c.size | _=>0);rw [ho];exact (Array.getElem?_eq_some_iff.1 (by simpa using h)).1
    ·show w.cell? ⟨b,i,none⟩=some v;unfold World.cell?;simp only [ho];exact h
  | _=>simp [ho] at h
def Rds(P:Program)(W:World)(T:TypeId){α:Type}(t:Ty α):Prop:=
 ∀ (H:Type) (enc:TypeId×Value→H) (spare:Nat→Bool) (fuel:Nat) (cs:List Value) (d:DataW H) (ps:List MemPlace),
  DataW.trod enc P W 0 spare true fuel T cs=some (d,ps)→(∀ n∈d.weights P T,n≤reachBytes)→∃ x,t.rep (G.top W) cs x
section
variable {P:Program} {W:World}
theorem Rds.int{T:TypeId}{k:IntKind}(hT:P.underlying T=some (.int k)):Rds P W T (tI k):=by
 intro H enc spare fuel cs d ps h _;obtain ⟨n,rfl,_,hw⟩:=DataW.trod_int hT h;refine ⟨n,rfl,?_⟩;simpa [Lit.wf,inR,IntKind.has] using hw
theorem Rds.string{T:TypeId}(hT:P.underlying T=some .string):Rds P W T tS:=by
 intro H enc spare fuel cs d ps h hw;obtain ⟨s,rfl,hx,_⟩:=DataW.trod_string hT h;simp only [Prod.mk.injEq] at hx;obtain ⟨rfl,rfl⟩:=hx;refine ⟨s.data.toList,by simp [str],?_⟩;have:=hw s.data.toList.length (by simp [DataW.weights]);have hr:reachBytes<2 ^ 47:=reachBytes_lt;unfold lim;omega
theorem pickAll{α:Type}(Q:Nat→α→Prop):∀ (n:Nat),(∀ i,i<n→∃ x,Q i x)→∃ xs:List α,xs.length=n∧ ∀ i x,xs[i]? =some x→Q i x
 | 0,_=>⟨[],rfl,fun i x h=>by simp at h⟩
 | n+1,h=>by
  obtain ⟨xs,hl,hx⟩:=pickAll Q n (fun i hi=>h i (by omega));obtain ⟨y,hy⟩:=h n (by omega);refine ⟨xs++ [y],by simp [hl],fun i x hi=>?_⟩;by_cases hin:i<n
  ·rw [List.getElem?_append_left (by omega)] at hi;exact hx i x hi
  ·have hlt:=(List.getElem?_eq_some_iff.1 hi).1;simp [hl] at hlt;have:i=n:=by omega
   subst this;rw [List.getElem?_append_right (by omega),hl] at hi;simp at hi;subst hi;exact hy
theorem oG{H:Type}{e:TypeId}:∀ {ds:List (DataW H)} {d:DataW H},d∈ds→∀ n∈d.weights P e,n∈DataW.weightsAll P e ds
 | d0 :: ds,d,hd,n,hn=>by
  simp only [DataW.weightsAll,List.mem_append];rcases List.mem_cons.1 hd with rfl | hd
  ·exact .inl hn
  ·exact .inr (oG hd n hn)
theorem Rds.slice{T e:TypeId}{α:Type}{t:Ty α}(hT:P.underlying T=some (.slice e))(he:Rds P W e t)(hc:P.cellsOf e=t.size)(h0:0<t.size)(hb:0<P.bytesOf e):Rds P W T (tL t):=by
 intro H enc spare fuel cs d ps h hw;rcases DataW.trod_slice hT h with ⟨rfl,_⟩ | ⟨a,len,cap,elems,rest,n,_,rfl,hx,_,hl,_,hlen,hel,_,_⟩
 ·exact ⟨[],none,0,rfl,Nat.zero_le _,Nat.zero_le _,fun _=>rfl,rfl⟩
 ·simp only [Prod.mk.injEq] at hx;obtain ⟨rfl,rfl⟩:=hx;have hlim:len≤lim:=by have:=hw (((elems.map (·.1)).length+(rest.map (·.1)).length)*P.bytesOf e) (by simp [DataW.weights,hT]);have hr:reachBytes<2 ^ 47:=reachBytes_lt;simp only [List.length_map,hlen] at this;have h2:(len+rest.length)*1≤(len+rest.length)*P.bytesOf e:=Nat.mul_le_mul_left _ hb;unfold lim;omega
  have key:∀ i,i<len→∃ x,(i=0→a.spot=none)∧t.At (G.top W) a.block (a.off+i*t.size) x:=by
   intro i hi;have h1:=hel i hi;have hi':i<elems.length:=by omega
   rw [List.getElem?_eq_getElem hi',Option.bind_eq_some_iff] at h1;obtain ⟨cs',hcs,htr⟩:=h1;obtain ⟨x,hx⟩:=he H enc spare n cs' elems[i].1 elems[i].2 htr (fun m hm=>hw m (by
    simp only [DataW.weights,hT,List.mem_cons,List.mem_append];exact .inr (.inl (oG (List.mem_map.2 ⟨elems[i],List.getElem_mem hi',rfl⟩) m hm))))
   obtain ⟨_,hlen',hcell⟩:=World.cells?_some hcs;have hA:∀ j v,cs'[j]? =some v→(G.top W).Has a.block (a.off+i*t.size+j) v∧(i*t.size+j=0→a.spot=none):=by
    intro j v hj;have hlt:=(List.getElem?_eq_some_iff.1 hj).1;have hc1:W.cell? ((a.add (i*P.cellsOf e)).add j)=some v:=by
     have:=hcell j (by omega);rw [this];exact hj
    obtain ⟨hs,hh⟩:=rE hc1;have hbk:((a.add (i*P.cellsOf e)).add j).block=a.block:=by unfold Addr.add;split<;> split<;> rfl
    have hof:((a.add (i*P.cellsOf e)).add j).off=a.off+i*t.size+j:=by
     rw [hc];unfold Addr.add;split<;> split<;> simp_all<;> omega
    rw [hbk,hof] at hh;refine ⟨hh,fun hz=>?_⟩;have h3:i*P.cellsOf e=0:=by rw [hc];omega
    have h4:j=0:=by omega
    rw [h3,h4] at hs;exact hs
   refine ⟨x,fun hi0=>?_,cs',hx,fun j v hj=>(hA j v hj).1⟩;have hl0:0<cs'.length:=by omega
   obtain ⟨_,hs⟩:=hA 0 cs'[0] (List.getElem?_eq_getElem hl0);exact hs (by rw [hi0];simp)
  obtain ⟨xs,hxl,hxq⟩:=pickAll (fun i x=>(i=0→a.spot=none)∧t.At (G.top W) a.block (a.off+i*t.size) x) len key;refine ⟨xs,some a,cap,by rw [hxl],by omega,by omega,(fun h=>by cases h),?_,fun i x hi=>(hxq i x hi).2⟩;cases xs with
  | nil=>exact .inl rfl
  | cons x r=>exact .inr ((hxq 0 x rfl).1 rfl)
def RdF(P:Program)(W:World)(fs:List Field)(o:Nat){α:Type}(t:Ty α):Prop:=
 ∀ (H:Type) (enc:TypeId×Value→H) (spare:Nat→Bool) (n:Nat) (cs:List Value),cs.length=o+t.size→
  (∀ (i:Nat) f,fs[i]? =some f→∃ d ps,DataW.trod enc P W 0 spare true n f.type ((cs.drop f.offset).take (P.cellsOf f.type))=some (d,ps)∧(∀ m∈d.weights P f.type,m≤reachBytes))→
  ∃ x,t.rep (G.top W) (cs.drop o) x
theorem RdF.last{f:Field}{o:Nat}{α:Type}{t:Ty α}(ho:f.offset=o)(hc:P.cellsOf f.type=t.size)(h:Rds P W f.type t):RdF P W [f] o (tOne t):=by
 intro H enc spare n cs hl hf;obtain ⟨d,ps,h1,h2⟩:=hf 0 f rfl;obtain ⟨x,hx⟩:=h H enc spare n _ d ps h1 h2;refine ⟨x,?_⟩;rw [ho,hc,List.take_of_length_le (by rw [List.length_drop];have:(tOne t).size=t.size:=rfl;omega)] at hx;exact hx
theorem RdF.cons{f:Field}{fs:List Field}{o o':Nat}{α β:Type}{t:Ty α}{u:Ty β}(ho:f.offset=o)(hc:P.cellsOf f.type=t.size)(ho':o'=o+t.size)(h:Rds P W f.type t)(k:RdF P W fs o' u):RdF P W (f :: fs) o (tP t u):=by
 intro H enc spare n cs hl hf;have hs:(tP t u).size=t.size+u.size:=rfl;obtain ⟨d,ps,h1,h2⟩:=hf 0 f rfl;obtain ⟨x,hx⟩:=h H enc spare n _ d ps h1 h2;obtain ⟨y,hy⟩:=k H enc spare n cs (by omega) (fun i g hg=>hf (i+1) g (by simpa using hg));rw [ho,hc] at hx;refine ⟨(x,y),_,_,?_,hx,hy⟩;rw [ho',←List.drop_drop,List.take_append_drop]
theorem Rds.struct{T:TypeId}{fs:Array Field}{α β:Type}{t:Ty β}{f:α→β}(mk:β→α)(hf:∀ x,f (mk x)=x)(hT:P.underlying T=some (.struct fs))(hc:P.cellsOf T=t.size)(h:RdF P W fs.toList 0 t):Rds P W T (tMap t f):=by
 intro H enc spare fuel cs d ps htr hw;obtain ⟨xs,n,rfl,hx,hl,hxl,hel⟩:=DataW.trod_struct hT htr;simp only [Prod.mk.injEq] at hx;obtain ⟨rfl,rfl⟩:=hx;obtain ⟨x,hx⟩:=h H enc spare n cs (by omega) (fun i g hg=>by
  have hg':fs[i]? =some g:=by simpa using hg
  have h1:=hel i g hg';have hi:i<xs.length:=by rw [hxl];exact (Array.getElem?_eq_some_iff.1 hg').1
  rw [List.getElem?_eq_getElem hi] at h1;refine ⟨xs[i].1,xs[i].2,h1,fun m hm=>hw m ?_⟩;simp only [DataW.weights,hT];exact DataW.weights_mem_each (ts:=fs.toList.map (·.type)) (ds:=xs.map (·.1)) (j:=i) (t:=g.type) (d:=xs[i].1) (by simp [hg']) (by simp [hi]) m hm)
 refine ⟨mk x,?_⟩;show t.rep (G.top W) cs (f (mk x));rw [hf];exact hx
theorem Rds.is{base:Nat}{T:TypeId}{α:Type}{t:Ty α}(h:Rds P W T t)(hk:∀ (v:Value),Value.okWide P W .any base T v→v=mkVal t.agg v.cells.toList){H:Type}{enc:TypeId×Value→H}{spare:Nat→Bool}{v:Value}{d:DataW H}{ps:List MemPlace}
  (hd:DataW.Trod enc P W 0 spare true T v d ps) (hw:∀ n∈d.weights P T,n≤reachBytes) (hv:Value.okWide P W .any base T v):∃ x,(t.is x).holds v (G.top W):=by
 obtain ⟨fuel,hf⟩:=hd;obtain ⟨x,hx⟩:=h H enc spare fuel _ d ps hf hw;exact ⟨x,v.cells.toList,hx,hk v hv⟩
theorem rF{base:Nat}{T:TypeId}{fs:Array Field}(hT:P.underlying T=some (.struct fs))(v:Value)(h:Value.okWide P W .any base T v):v=mkVal true v.cells.toList:=by
 obtain ⟨cs,rfl,_⟩:=okWide_struct hT h;simp [mkVal,Value.cells]
theorem Ext.below{g g':G}(h:Ext No g g'):Below g.w.heap.size g.w g'.w:=
 ⟨h.os,h.tape,h.output,h.size,fun k hk=>(h.same k hk (fun f=>f.elim)).1⟩
end
section
variable {H:Type} {enc:TypeId×Value→H} {P:Program}
theorem zy{f:Func}{s:ChangeSpec}{apart fresh handsOn again:Bool}{W W':World}{args:Array Value}{v:Value}{ds gs:List (DataW H)}{before pa pv:List MemPlace}
  (hW:DataW.Whole enc P f.params.toList s.vars apart W args.toList ds gs before)
  (hres:∀ (b:Nat) (sp:Nat→Bool) (hd:Bool),DataW.TrodAll enc P W' b sp hd f.resultTypes.toList (v.resultList f.resultTypes.size) (s.fn H (ds++gs)).results [])
  (hargs:∀ sp:Nat→Bool,(∀ p∈before,sp p.block=true)→DataW.TrodAll enc P W' 0 sp true f.params.toList args.toList (s.fn H (ds++gs)).args pa)
  (hvars:∀ sp:Nat→Bool,(∀ p∈before,sp p.block=true)→DataW.TrodVars enc P W' sp s.vars (s.fn H (ds++gs)).vars pv)
  (hps:before=pa++pv) (hb:Below W.heap.size W W')
  (hok:∀ (j:Nat) (t:TypeId) (r:Value),f.resultTypes[j]? =some t→(v.resultList f.resultTypes.size)[j]? =some r→Value.okWide P W' .any 0 t r) :
  s.post enc P f apart fresh handsOn again W args v W':=by
 have hlt:∀ p∈before,p.block<W.heap.size:=fun p hp=>hW.lt p hp;have hold:∀ p∈before,(fun b=>decide (b<W.heap.size)) p.block=true:=fun p hp=>by simpa using hlt p hp
 refine ⟨ds,gs,before,[],pa,pv,hW,hres _ _ _,hargs _ hold,hvars _ hold,World.keptBut_mono (fun p hp=>⟨hp,?_⟩) (hb.frame (· ∈before)),fun _=>?_⟩
 ·rw [hps,List.mem_append] at hp;exact Or.inr hp
 ·obtain ⟨_,_,_,_,_,hz,hn⟩:=hW;refine ⟨hok,_,_,([]++pa)++pv,⟨[]++pa,pv,trodAll_append (hargs _ (fun _ _=>rfl)) (hres _ _ _),hvars _ (fun _ _=>rfl),rfl,?_,?_⟩,?_⟩
  ·intro b off hp;have hin:MemPlace.cell b off∈before:=by rw [hps];simpa using hp
   rw [hb.frozen (hlt _ hin)];exact hz b off hin
  ·intro ha;have:=hn ha;rw [hps] at this;simpa using this
  ·intro p hp _;rw [hps];simpa using hp
def rG(P:Program)(W:World)(base:Nat)(Ts:List TypeId)(vs:List Value):Prop:=
 ∃ (H:Type) (enc:TypeId×Value→H) (ds:List (DataW H)) (ps:List MemPlace),DataW.TrodAll enc P W 0 (fun _=>true) true Ts vs ds ps∧
  (∀ n∈DataW.weightsEach P Ts ds,n≤reachBytes)∧ ∀ (j:Nat) t v,Ts[j]? =some t→vs[j]? =some v→Value.okWide P W .any base t v
theorem rG.cons{W:World}{base:Nat}{T:TypeId}{Ts:List TypeId}{vs:List Value}{α:Type}{t:Ty α}(h:rG P W base (T :: Ts) vs)(hr:Rds P W T t)
  (hk:∀ (v:Value),Value.okWide P W .any base T v→v=mkVal t.agg v.cells.toList):∃ v vs' x,vs=v :: vs'∧(t.is x).holds v (G.top W)∧rG P W base Ts vs':=by
 obtain ⟨H,enc,ds,ps,h1,h2,h3⟩:=h
 match vs,ds,h1 with
 | v :: vs,d :: ds,h1=>
  obtain ⟨p,q,hd,hrest,_⟩:=h1;obtain ⟨x,hx⟩:=hr.is hk hd (fun n hn=>h2 n (by simp only [DataW.weightsEach,List.mem_append];exact .inl hn)) (h3 0 T v rfl rfl);refine ⟨v,vs,x,rfl,hx,H,enc,ds,q,hrest,fun n hn=>h2 n (by simp only [DataW.weightsEach,List.mem_append];exact .inr hn),fun j t v hj hv=>h3 (j+1) t v (by simpa using hj) (by simpa using hv)⟩
theorem rG.nil{W:World}{base:Nat}{vs:List Value}(h:rG P W base [] vs):vs= []:=by
 obtain ⟨H,enc,ds,ps,h1,_,_⟩:=h
 match vs,ds,h1 with
 | [],[],_=>rfl
theorem uB(hl:laidOutB P=true){W W':World}{sp:Nat→Bool}(hb:Below W.heap.size W W'):∀ {Ts:List TypeId} {vs:List Value} {ds:List (DataW H)} {ps:List MemPlace},
  (∀ t∈Ts,P.readableRec t=true∧t<P.types.size)→DataW.TrodAll enc P W 0 (fun _=>true) true Ts vs ds ps→(∀ p∈ps,p.block<W.heap.size)→(∀ p∈ps,sp p.block=true)→DataW.TrodAll enc P W' 0 sp true Ts vs ds ps
 | [],[],[],_,_,h,_,_=>h
 | t :: Ts,v :: vs,d :: ds,_,hr,⟨p,q,h1,h2,rfl⟩,hlt,hs=>by
  refine ⟨p,q,?_,uB hl hb (fun t ht=>hr t (List.mem_cons_of_mem _ ht)) h2 (fun x hx=>hlt x (List.mem_append_right _ hx)) (fun x hx=>hs x (List.mem_append_right _ hx)),rfl⟩;exact WideElems.Trod_stays hl (hr t List.mem_cons_self).1 (hr t List.mem_cons_self).2 h1 (fun x hx=>hb.same (hlt x (List.mem_append_left _ hx))) (fun x hx=>hs x (List.mem_append_left _ hx))
theorem xz{W:World}{b:Nat}{sp:Nat→Bool}{hd:Bool}:∀ {Ts:List TypeId} {vs:List Value} {ds:List (DataW H)} {ps:List MemPlace},DataW.TrodAll enc P W b sp hd Ts vs ds ps→ds.length=Ts.length
 | [],[],[],_,_=>rfl
 | _ :: _,_ :: _,_ :: _,_,⟨_,_,_,h,_⟩=>by simp [xz h]
end
end Go.Dec
/-
  Readings of arguments of types that hold themselves.
-/
namespace Go.Dec
open Go Go.RowKit Go.WideShapes Go.ChangeShapes
def RdU(P:Program)(W:World)(k:Nat)(T:TypeId){α:Type}(t:Ty α):Prop:=
 ∀ (H:Type) (enc:TypeId×Value→H) (spare:Nat→Bool) (fuel:Nat) (cs:List Value) (d:DataW H) (ps:List MemPlace),fuel≤k→
  DataW.trod enc P W 0 spare true fuel T cs=some (d,ps)→(∀ n∈d.weights P T,n≤reachBytes)→∃ x,t.rep (G.top W) cs x
section
variable {P:Program} {W:World}
theorem Rds.to{T:TypeId}{α:Type}{t:Ty α}(h:Rds P W T t)(k:Nat):RdU P W k T t:=fun H enc spare fuel cs d ps _ h1 h2=>h H enc spare fuel cs d ps h1 h2
theorem Rds.ofU{T:TypeId}{α:Type}{t:Ty α}(h:∀ k,RdU P W k T t):Rds P W T t:=fun H enc spare fuel cs d ps h1 h2=>h fuel H enc spare fuel cs d ps (Nat.le_refl _) h1 h2
theorem RdU.down{k j:Nat}{T:TypeId}{α:Type}{t:Ty α}(h:RdU P W k T t)(hj:j≤k):RdU P W j T t:=fun H enc spare fuel cs d ps hf h1 h2=>h H enc spare fuel cs d ps (Nat.le_trans hf hj) h1 h2
theorem RdU.le{k:Nat}{T:TypeId}{α:Type}{s t:Ty α}(l:Le s t)(h:RdU P W k T s):RdU P W k T t:=fun H enc spare fuel cs d ps hf h1 h2=>
 let ⟨x,hx⟩:=h H enc spare fuel cs d ps hf h1 h2;⟨x,l.rep _ _ _ hx⟩
theorem RdU.slice{T e:TypeId}{α:Type}{t:Ty α}(hT:P.underlying T=some (.slice e)){k:Nat}(he:RdU P W k e t)(hc:P.cellsOf e=t.size)(h0:0<t.size)(hb:0<P.bytesOf e):RdU P W (k+1) T (tL t):=by
 intro H enc spare fuel cs d ps hfu h hw;rcases DataW.trod_slice hT h with ⟨rfl,_⟩ | ⟨a,len,cap,elems,rest,n,hn,rfl,hx,_,hl,_,hlen,hel,_,_⟩
 ·exact ⟨[],none,0,rfl,Nat.zero_le _,Nat.zero_le _,fun _=>rfl,rfl⟩
 ·simp only [Prod.mk.injEq] at hx;obtain ⟨rfl,rfl⟩:=hx;have hlim:len≤lim:=by have:=hw (((elems.map (·.1)).length+(rest.map (·.1)).length)*P.bytesOf e) (by simp [DataW.weights,hT]);have hr:reachBytes<2 ^ 47:=reachBytes_lt;simp only [List.length_map,hlen] at this;have h2:(len+rest.length)*1≤(len+rest.length)*P.bytesOf e:=Nat.mul_le_mul_left _ hb;unfold lim;omega
  have key:∀ i,i<len→∃ x,(i=0→a.spot=none)∧t.At (G.top W) a.block (a.off+i*t.size) x:=by
   intro i hi;have h1:=hel i hi;have hi':i<elems.length:=by omega
   rw [List.getElem?_eq_getElem hi',Option.bind_eq_some_iff] at h1;obtain ⟨cs',hcs,htr⟩:=h1;obtain ⟨x,hx⟩:=he H enc spare n cs' elems[i].1 elems[i].2 (by omega) htr (fun m hm=>hw m (by
    simp only [DataW.weights,hT,List.mem_cons,List.mem_append];exact .inr (.inl (oG (List.mem_map.2 ⟨elems[i],List.getElem_mem hi',rfl⟩) m hm))))
   obtain ⟨_,hlen',hcell⟩:=World.cells?_some hcs;have hA:∀ j v,cs'[j]? =some v→(G.top W).Has a.block (a.off+i*t.size+j) v∧(i*t.size+j=0→a.spot=none):=by
    intro j v hj;have hlt:=(List.getElem?_eq_some_iff.1 hj).1;have hc1:W.cell? ((a.add (i*P.cellsOf e)).add j)=some v:=by
     have:=hcell j (by omega);rw [this];exact hj
    obtain ⟨hs,hh⟩:=rE hc1;have hbk:((a.add (i*P.cellsOf e)).add j).block=a.block:=by unfold Addr.add;split<;> split<;> rfl
    have hof:((a.add (i*P.cellsOf e)).add j).off=a.off+i*t.size+j:=by
     rw [hc];unfold Addr.add;split<;> split<;> simp_all<;> omega
    rw [hbk,hof] at hh;refine ⟨hh,fun hz=>?_⟩;have h3:i*P.cellsOf e=0:=by rw [hc];omega
    have h4:j=0:=by omega
    rw [h3,h4] at hs;exact hs
   refine ⟨x,fun hi0=>?_,cs',hx,fun j v hj=>(hA j v hj).1⟩;have hl0:0<cs'.length:=by omega
   obtain ⟨_,hs⟩:=hA 0 cs'[0] (List.getElem?_eq_getElem hl0);exact hs (by rw [hi0];simp)
  obtain ⟨xs,hxl,hxq⟩:=pickAll (fun i x=>(i=0→a.spot=none)∧t.At (G.top W) a.block (a.off+i*t.size) x) len key;refine ⟨xs,some a,cap,by rw [hxl],by omega,by omega,(fun h=>by cases h),?_,fun i x hi=>(hxq i x hi).2⟩;cases xs with
  | nil=>exact .inl rfl
  | cons x r=>exact .inr ((hxq 0 x rfl).1 rfl)
def RdFU(P:Program)(W:World)(k:Nat)(fs:List Field)(o:Nat){α:Type}(t:Ty α):Prop:=
 ∀ (H:Type) (enc:TypeId×Value→H) (spare:Nat→Bool) (n:Nat) (cs:List Value),n≤k→cs.length=o+t.size→
  (∀ (i:Nat) f,fs[i]? =some f→∃ d ps,DataW.trod enc P W 0 spare true n f.type ((cs.drop f.offset).take (P.cellsOf f.type))=some (d,ps)∧(∀ m∈d.weights P f.type,m≤reachBytes))→
  ∃ x,t.rep (G.top W) (cs.drop o) x
theorem RdFU.last{k:Nat}{f:Field}{o:Nat}{α:Type}{t:Ty α}(ho:f.offset=o)(hc:P.cellsOf f.type=t.size)(h:RdU P W k f.type t):RdFU P W k [f] o (tOne t):=by
 intro H enc spare n cs hn hl hf;obtain ⟨d,ps,h1,h2⟩:=hf 0 f rfl;obtain ⟨x,hx⟩:=h H enc spare n _ d ps hn h1 h2;refine ⟨x,?_⟩;rw [ho,hc,List.take_of_length_le (by rw [List.length_drop];have:(tOne t).size=t.size:=rfl;omega)] at hx;exact hx
theorem RdFU.cons{k:Nat}{f:Field}{fs:List Field}{o o':Nat}{α β:Type}{t:Ty α}{u:Ty β}(ho:f.offset=o)(hc:P.cellsOf f.type=t.size)(ho':o'=o+t.size)(h:RdU P W k f.type t)(kk:RdFU P W k fs o' u):RdFU P W k (f :: fs) o (tP t u):=by
 intro H enc spare n cs hn hl hf;have hs:(tP t u).size=t.size+u.size:=rfl;obtain ⟨d,ps,h1,h2⟩:=hf 0 f rfl;obtain ⟨x,hx⟩:=h H enc spare n _ d ps hn h1 h2;obtain ⟨y,hy⟩:=kk H enc spare n cs hn (by omega) (fun i g hg=>hf (i+1) g (by simpa using hg));rw [ho,hc] at hx;refine ⟨(x,y),_,_,?_,hx,hy⟩;rw [ho',←List.drop_drop,List.take_append_drop]
theorem RdU.struct{k:Nat}{T:TypeId}{fs:Array Field}{α β:Type}{t:Ty β}{f:α→β}(mk:β→α)(hf:∀ x,f (mk x)=x)(hT:P.underlying T=some (.struct fs))(hc:P.cellsOf T=t.size)(h:RdFU P W k fs.toList 0 t):RdU P W (k+1) T (tMap t f):=by
 intro H enc spare fuel cs d ps hfu htr hw;obtain ⟨xs,n,hn,hx,hl,hxl,hel⟩:=DataW.trod_struct hT htr;simp only [Prod.mk.injEq] at hx;obtain ⟨rfl,rfl⟩:=hx;obtain ⟨x,hx⟩:=h H enc spare n cs (by omega) (by omega) (fun i g hg=>by
  have hg':fs[i]? =some g:=by simpa using hg
  have h1:=hel i g hg';have hi:i<xs.length:=by rw [hxl];exact (Array.getElem?_eq_some_iff.1 hg').1
  rw [List.getElem?_eq_getElem hi] at h1;refine ⟨xs[i].1,xs[i].2,h1,fun m hm=>hw m ?_⟩;simp only [DataW.weights,hT];exact DataW.weights_mem_each (ts:=fs.toList.map (·.type)) (ds:=xs.map (·.1)) (j:=i) (t:=g.type) (d:=xs[i].1) (by simp [hg']) (by simp [hi]) m hm)
 refine ⟨mk x,?_⟩;show t.rep (G.top W) cs (f (mk x));rw [hf];exact hx
theorem Rds.fix{T:TypeId}{fs:Array Field}{α:Type}{F:Ty α→Ty α}{n:Nat}(r:Rec F n)(hT:P.underlying T=some (.struct fs))(h:∀ k,RdU P W k T (tFix r)→RdU P W (k+1) T (F (tFix r))):Rds P W T (tFix r):=by
 refine Rds.ofU fun k=>?_;induction k with
 | zero=>
  intro H enc spare fuel cs d ps hf htr hw;obtain ⟨xs,n,hn,_⟩:=DataW.trod_struct hT htr;omega
 | succ k ih=>exact (h k ih).le r.into
end
end Go.Dec
/-
  The last step of a row that lists what package variables hold.
-/
namespace Go.Dec
open Go Go.RowKit Go.WideShapes Go.ChangeShapes
end Go.Dec
/-
  Readings of package variables whose contents are given, and the last step of a row whose law leans on them.
-/
namespace Go.Dec
open Go Go.RowKit Go.WideShapes Go.ChangeShapes
def RdV(P:Program)(W:World)(T:TypeId){α:Type}(t:Ty α)(d:DataW Unit)(x:α):Prop:=
 ∀ (spare:Nat→Bool) (held:Bool) (fuel:Nat) (cs:List Value) (ps:List MemPlace),DataW.trod (fun _=>()) P W 0 spare held fuel T cs=some (d,ps)→t.rep (G.top W) cs x
section
variable {P:Program} {W:World}
theorem RdV.int{T:TypeId}{k:IntKind}{n:Int}(hT:P.underlying T=some (.int k))(hn:inR k n):RdV P W T (tI k) (.lit (.int k n)) n:=by
 intro spare held fuel cs ps h;obtain ⟨m,rfl,hx,_⟩:=DataW.trod_int hT h;simp only [Prod.mk.injEq,DataW.lit.injEq,Lit.int.injEq,true_and] at hx;rw [←hx.1];exact ⟨rfl,hn⟩
theorem RdV.string{T:TypeId}{l:Str}(hT:P.underlying T=some .string)(hl:l.length≤lim):RdV P W T tS (.lit (.string l)) l:=by
 intro spare held fuel cs ps h;obtain ⟨s,rfl,hx,_⟩:=DataW.trod_string hT h;simp only [Prod.mk.injEq,DataW.lit.injEq,Lit.string.injEq] at hx;refine ⟨?_,hl⟩;rw [hx.1];simp [str]
def RdVs(P:Program)(W:World)(E:TypeId){α:Type}(t:Ty α):List (DataW Unit)→List α→Prop
 | [],[]=>True
 | d :: ds,x :: xs=>RdV P W E t d x∧RdVs P W E t ds xs
 | _,_=>False
theorem RdVs.len{E:TypeId}{α:Type}{t:Ty α}:∀ {ds:List (DataW Unit)} {xs:List α},RdVs P W E t ds xs→ds.length=xs.length
 | [],[],_=>rfl
 | _ :: ds,_ :: xs,h=>by simp [RdVs.len h.2]
 | [],_ :: _,h=>h.elim
 | _ :: _,[],h=>h.elim
theorem RdVs.get{E:TypeId}{α:Type}{t:Ty α}:∀ {ds:List (DataW Unit)} {xs:List α},RdVs P W E t ds xs→∀ (i:Nat) (x:α),xs[i]? =some x→∃ d,ds[i]? =some d∧RdV P W E t d x
 | d :: ds,y :: xs,h,0,x,hx=>by
  simp at hx;subst hx;exact ⟨d,rfl,h.1⟩
 | d :: ds,y :: xs,h,i+1,x,hx=>by
  simp at hx;obtain ⟨e,he,hr⟩:=RdVs.get h.2 i x hx;exact ⟨e,by simpa using he,hr⟩
 | [],[],_,i,x,hx=>by simp at hx
theorem RdV.nil{T e:TypeId}{α:Type}{t:Ty α}(hT:P.underlying T=some (.slice e)):RdV P W T (tL t) .nil []:=by
 intro spare held fuel cs ps h;rcases DataW.trod_slice hT h with ⟨rfl,_⟩ | ⟨a,len,cap,elems,rest,n,_,_,hx,_⟩
 ·exact ⟨none,0,rfl,Nat.zero_le _,Nat.zero_le _,fun _=>rfl,rfl⟩
 ·simp at hx
theorem RdV.slice{T e:TypeId}{α:Type}{t:Ty α}{ds rs:List (DataW Unit)}{xs:List α}(hT:P.underlying T=some (.slice e))(hc:P.cellsOf e=t.size)(h0:0<t.size)(hl:xs.length≤lim)(hd:RdVs P W e t ds xs):RdV P W T (tL t) (.slice ds rs) xs:=by
 intro spare held fuel cs ps h;rcases DataW.trod_slice hT h with ⟨_,hx⟩ | ⟨a,len,cap,elems,rest,n,_,rfl,hx,_,hlc,_,hlen,hel,_,_⟩
 ·simp at hx
 ·simp only [Prod.mk.injEq,DataW.slice.injEq] at hx;have hds:=hx.1.1;have hxl:len=xs.length:=by have:=hd.len;rw [hds,List.length_map] at this;omega
  subst hxl;have key:∀ (i:Nat) (x:α),xs[i]? =some x→(i=0→a.spot=none)∧t.At (G.top W) a.block (a.off+i*t.size) x∧(i=0→t.size=0→True):=by
   intro i x hx;obtain ⟨d,hdi,hr⟩:=hd.get i x hx;have hi:i<xs.length:=(List.getElem?_eq_some_iff.1 hx).1;have h1:=hel i hi;have hi':i<elems.length:=by omega
   rw [List.getElem?_eq_getElem hi',Option.bind_eq_some_iff] at h1;obtain ⟨cs',hcs,htr⟩:=h1;have hde:elems[i].1=d:=by
    rw [hds] at hdi;simpa [hi'] using hdi
   have hrep:=hr spare held n cs' elems[i].2 (by rw [←hde];exact htr);obtain ⟨_,hlen',hcell⟩:=World.cells?_some hcs;have hA:∀ j v,cs'[j]? =some v→(G.top W).Has a.block (a.off+i*t.size+j) v∧(i*t.size+j=0→a.spot=none):=by
    intro j v hj;have hlt:=(List.getElem?_eq_some_iff.1 hj).1;have hc1:W.cell? ((a.add (i*P.cellsOf e)).add j)=some v:=by
     have:=hcell j (by omega);rw [this];exact hj
    obtain ⟨hs,hh⟩:=rE hc1;have hbk:((a.add (i*P.cellsOf e)).add j).block=a.block:=by unfold Addr.add;split<;> split<;> rfl
    have hof:((a.add (i*P.cellsOf e)).add j).off=a.off+i*t.size+j:=by
     rw [hc];unfold Addr.add;split<;> split<;> simp_all<;> omega
    rw [hbk,hof] at hh;refine ⟨hh,fun hz=>?_⟩;have h3:i*P.cellsOf e=0:=by rw [hc];omega
    have h4:j=0:=by omega
    rw [h3,h4] at hs;exact hs
   refine ⟨fun hi0=>?_,⟨cs',hrep,fun j v hj=>(hA j v hj).1⟩,fun _ _=>trivial⟩;have hz:0<cs'.length:=by omega
   obtain ⟨_,hs⟩:=hA 0 cs'[0] (List.getElem?_eq_getElem hz);exact hs (by rw [hi0];simp)
  refine ⟨some a,cap,rfl,hlc,hl,(fun h=>by cases h),?_,fun i x hi=>(key i x hi).2.1⟩;cases xs with
  | nil=>exact .inl rfl
  | cons x r=>exact .inr ((key 0 x rfl).1 rfl)
theorem RdV.array{T e:TypeId}{α:Type}{t:Ty α}{n:Nat}{ds:List (DataW Unit)}{xs:List α}(hT:P.underlying T=some (.array n e))(hc:P.cellsOf e=t.size)(hct:P.cellsOf T=n*t.size)(hn:xs.length=n)(hd:RdVs P W e t ds xs):RdV P W T (tA n t) (.agg ds) xs:=by
 intro spare held fuel cs ps h;obtain ⟨ys,m,_,hx,hcl,hyl,hel⟩:=DataW.trod_array hT h;simp only [Prod.mk.injEq,DataW.agg.injEq] at hx;have hds:=hx.1;rw [hct] at hcl;have key:∀ (i:Nat) (x:α),xs[i]? =some x→t.rep (G.top W) ((cs.drop (i*t.size)).take t.size) x:=by
  intro i x hx;obtain ⟨d,hdi,hr⟩:=hd.get i x hx;have hi:i<n:=by have:=(List.getElem?_eq_some_iff.1 hx).1;omega
  have h1:=hel i hi;have hi':i<ys.length:=by omega
  rw [List.getElem?_eq_getElem hi',hc] at h1;have hde:ys[i].1=d:=by
   rw [hds] at hdi;simpa [hi'] using hdi
  exact hr spare held m _ ys[i].2 (by rw [←hde];exact h1)
 have hcells:∀ (xs:List α) (cs:List Value),cs.length=xs.length*t.size→(∀ (i:Nat) (x:α),xs[i]? =some x→t.rep (G.top W) ((cs.drop (i*t.size)).take t.size) x)→Cells t (G.top W) cs xs:=by
  intro xs;induction xs with
  | nil=>
   intro cs hl _;have:cs= []:=by simpa using hl
   rw [this];exact Cells.nil
  | cons x xs ih=>
   intro cs hl hk;have h0:=hk 0 x rfl;rw [Nat.zero_mul,List.drop_zero] at h0;have:=Cells.cons h0 (ih (cs.drop t.size) (by rw [List.length_drop,hl,List.length_cons,Nat.add_mul];omega) fun i y hy=>by
    have:=hk (i+1) y (by simpa using hy);rw [List.drop_drop];rwa [show t.size+i*t.size=(i+1)*t.size by rw [Nat.add_mul];omega])
   rwa [List.take_append_drop] at this
 exact ⟨hn,hcells xs cs (by rw [hcl,hn]) key⟩
theorem Bc{laid:List (String×DataW Unit)}:∀ {ps:List MemPlace},DataW.LaidVars P W laid ps→∀ {name:String} {d:DataW Unit},(name,d)∈laid→
  ∃ g t cs fuel qs,P.globalNamed name=some g∧(P.globals[g]?).map (·.type)=some t∧W.var? P name=some cs∧DataW.trod (fun _=>()) P W 0 (fun _=>true) false fuel t cs.toList=some (d,qs):=by
 induction laid with
 | nil=>intro ps _ name d hm;cases hm
 | cons y laid ih=>
  intro ps h name d hm;obtain ⟨n,d'⟩:=y;obtain ⟨g,t,cs,fuel,p,q,h1,h2,h3,h4,h5,_⟩:=h;rcases List.mem_cons.1 hm with e | hm
  ·cases e;exact ⟨g,t,cs,fuel,p,h1,h2,h3,h4⟩
  ·exact ih h5 hm
theorem Gl.ofLaid{laid:List (String×DataW Unit)}(hp:(laid.all fun x=>x.2.handleName?.isNone)=true)(h:laidMetH P laid W){name:String}{d:DataW Unit}(hm:(name,d)∈laid){b:Nat}{T:TypeId}{α:Type}{t:Ty α}{x:α}
  (hg:P.globalNamed name=some b) (hT:(P.globals[b]?).map (·.type)=some T) (hr:RdV P W T t d x):(Gl t b x).holds (G.top W):=by
 rw [MakeChecks.laidMetH_plain _ _ _ hp] at h;obtain ⟨ps,hl,_⟩:=h;obtain ⟨g,t',cs,fuel,qs,h1,h2,h3,h4⟩:=Bc hl hm;obtain rfl:=Option.some.inj (hg.symm.trans h1);obtain rfl:=Option.some.inj (hT.symm.trans h2);refine ⟨cs.toList,hr _ _ _ _ _ h4,fun j v hj=>?_⟩;have hc:=World.var?_cell h1 h3 j;have hj':cs[j]? =some v:=by simpa using hj
 rw [hj'] at hc;have:=(rE hc).2;rw [Nat.zero_add];exact this
end
section
variable {P:Program} {H:Type}
theorem wO{C:Checked}{os:Os}{f:FuncId}{fn:Func}{s:ChangeSpec}{conds:List PathCond}{apart fresh handsOn again:Bool}{tb:TypeId}{enc:TypeId×Value→H}{X:World→Array Value→Prop}(hX:∀ (w w':World) (args:Array Value),w.heap=w'.heap→X w args→X w' args)
  (own:ownKnob C.prog.godebug=none) (started:os.Started) (noInit:C.prog.inits.idxOf? f=none) (hfn:C.prog.funcs[f]? =some fn)
  (witness:∃ (w:World) (tape:Tape) (i:Input),w.os=os∧(w.forCall tape i).Shaped C.prog∧i.vars= []∧Input.okWide C.prog (w.forCall tape i) .any w.heap.size f i∧
   ((s.pre enc C.prog fn conds apart (w.forCall tape i).memory i.args∧X (w.forCall tape i).memory i.args)∧sizedMet enc C.prog fn (OpenSpec.ofChange s) apart (w.forCall tape i).memory i.args)∧Assume.holds {} C.prog (lone (Frame.enter C.prog f i.args .normal) [] (w.forCall tape i)))
  (hl:laidOutB C.prog=true) (hr:fn.params.toList.all (fun t=>C.prog.readableRec t && decide (t<C.prog.types.size))=true)
  (hres:fn.resultTypes= #[tb]) (htb:C.prog.underlying tb=some .bool) (hvars:s.vars= [])
  (hs:∀ ds:List (DataW H),ds.length=fn.params.toList.length→(s.fn H ds).results= [.lit (.bool true)]∧(s.fn H ds).args=ds∧(s.fn H ds).vars= [])
  (law:∀ W base vs,(∃ args,X W args)→W.ShapedOpen C.prog→rG C.prog W base fn.params.toList vs→∃ As rin,All2 As vs (G.top W)∧rin.all (G.top W)∧NoBlk rin∧aG C.prog f As rin (fun _:Unit=>tB.is true) (fun _=>[])) :
  ReturnsInHanded {} C os f .any (fun w args=>(s.pre enc C.prog fn conds apart w args∧X w args)∧sizedMet enc C.prog fn (OpenSpec.ofChange s) apart w args) (s.post enc C.prog fn apart fresh handsOn again):=by
 refine returnsInHanded_of_calls own started noInit witness ?_;intro w tape i _ hsh _ hok hpre hholds;obtain ⟨_,_,_,fn',hfn',_,_,_,_,hval⟩:=hok;have e:fn=fn':=Option.some.inj (hfn.symm.trans hfn');subst e;obtain ⟨⟨⟨ds,gs,before,hw,hc⟩,hx⟩,hz⟩:=hpre;have hw':=DataW.Whole.of_heap (w':=w.forCall tape i) (by rfl) hw;refine (show Calls C.prog f i.args (w.forCall tape i) fun e W'=>∃ v,e= .returned v∧s.post enc C.prog fn apart fresh handsOn again (w.forCall tape i) i.args v W' from ?_).mono fun e W' ⟨v,he,hp⟩=>by
  subst he;exact ChangeSpec.post_blind hp
 have hX2:=hX _ (w.forCall tape i) i.args (by rfl) hx;have hsz:(DataW.weightsEach C.prog (fn.params.toList++s.plain.varTypes C.prog) (ds++gs)).all (· ≤reachBytes)=true:=hz.weights hw;have hval:=hval;generalize hbase:w.heap.size=base at hval;generalize w.forCall tape i=W at *;generalize i.args=args at *;have hW:=hw';have hW':=hW;obtain ⟨p,q,hA,hV,rfl,hfz,hnd⟩:=hW;rw [hvars] at hV;have hg:gs= []∧q= []:=by
  cases gs with
  | nil=>exact ⟨rfl,hV⟩
  | cons _ _=>exact hV.elim
 obtain ⟨rfl,rfl⟩:=hg;have hlt:∀ x∈p,x.block<W.heap.size:=fun x hx=>hW'.lt x (by simpa using hx);have hr':∀ t∈fn.params.toList,C.prog.readableRec t=true∧t<C.prog.types.size:=fun t ht=>by
  have:=List.all_eq_true.1 hr t ht;simpa using this
 have hvt:s.plain.varTypes C.prog= []:=by
  have:s.plain.vars= []:=hvars;simp [DataSpec.varTypes,this]
 have hsz':∀ n∈DataW.weightsEach C.prog fn.params.toList ds,n≤reachBytes:=fun n hn=>by
  have:=List.all_eq_true.1 hsz n (by rw [hvt];simpa using hn);simpa using this
 obtain ⟨As,rin,hvs,hr2,hnb,hspec⟩:=law W base args.toList ⟨args,hX2⟩ hsh ⟨H,enc,ds,p,hA,hsz',fun j t v hj hv=>hval j t v (by simpa using hj) (by simpa using hv)⟩;have:=Bb hspec hnb hvs hr2;refine (show Calls C.prog f args W _ from by simpa [G.top] using this).mono ?_;rintro e W' ⟨v,g',rfl,rfl,hext,cs,hcs,hv⟩;have hcs':cs= [.bool true]:=hcs;subst hcs';have hv':v= .bool true:=hv;subst hv';have hb:Below W.heap.size W g'.w:=Ext.below hext;have hlen:(ds++ []).length=fn.params.toList.length:=by rw [List.append_nil];exact xz hA
 obtain ⟨hs1,hs2,hs3⟩:=hs (ds++ []) hlen;refine ⟨_,rfl,zy (pa:=p) (pv:=[]) hW' ?_ ?_ ?_ rfl hb (ok_one hres rfl (okWide_bool_mk htb true))⟩
 ·intro b sp hd;rw [hs1,hres];exact trodAll_mk1 (shut_bool htb true)
 ·intro sp hsp;rw [hs2,List.append_nil];exact uB hl hb hr' hA hlt (fun x hx=>hsp x (by simpa using hx))
 ·intro sp _;rw [hs3,hvars];rfl
end
end Go.Dec
