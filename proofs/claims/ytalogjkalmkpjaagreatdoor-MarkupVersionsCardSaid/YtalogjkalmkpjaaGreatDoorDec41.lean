import Derived.Test.YtalogjkalmkpjaaGreatDoorDec39
import Derived.Maps.RangeRun
import Derived.Test.YtalogjkalmkpjaaGreatDoorDec29
import Derived.Test.YtalogjkalmkpjaaGreatDoorDec17
/-
  Maps whose pairs are known in any order (no key twice), and ranging over them.
-/
set_option linter.unusedVariables false
set_option linter.unusedSimpArgs false
namespace Go.Dec
open Go
section
variable {α β:Type} [DecidableEq α]
theorem Fh{m m':List (α×β)}(h:m.Perm m')(hn:(m.map Prod.fst).Nodup)(x:α)(z:β):mget m x z=mget m' x z:=by
 induction h with
 | nil=>rfl
 | cons p h ih=>
  rw [List.map_cons,List.nodup_cons] at hn;simp only [mget];rw [ih hn.2]
 | swap p q l=>
  simp only [List.map_cons,List.nodup_cons,List.mem_cons,not_or] at hn;simp only [mget];by_cases h1:x=p.1
  ·by_cases h2:x=q.1
   ·exact absurd (h2.symm.trans h1) hn.1.1
   ·rw [if_pos h1,if_neg h2,if_pos h1]
  ·by_cases h2:x=q.1
   ·rw [if_pos h2,if_neg h1,if_pos h2]
   ·rw [if_neg h2,if_neg h1,if_neg h1,if_neg h2]
 | trans h k ih1 ih2=>rw [ih1 hn,ih2 ((h.map Prod.fst).nodup_iff.1 hn)]
theorem jM(x:α):∀ m:List (α×β),mhas m x=true ↔ x∈m.map Prod.fst
 | []=>by simp [mhas]
 | p :: m=>by
  simp only [mhas,List.map_cons,List.mem_cons];by_cases h:x=p.1
  ·simp [h]
  ·rw [if_neg h,jM x m];simp [h]
theorem zQ{m m':List (α×β)}(h:m.Perm m')(x:α):mhas m x=mhas m' x:=by
 rw [Bool.eq_iff_iff,jM,jM];exact (h.map Prod.fst).mem_iff
theorem jb{x:α}{v:β}:∀ {m:List (α×β)},mhas m x=false→mset m x v=m++ [(x,v)]
 | [],_=>rfl
 | p :: m,h=>by
  simp only [mhas] at h;by_cases hp:x=p.1
  ·rw [if_pos hp] at h;cases h
  ·rw [if_neg hp] at h;simp only [mset,if_neg hp,jb h,List.cons_append]
theorem j3{x:α}{v:β}:∀ {m:List (α×β)},mhas m x=true→(m.map Prod.fst).Nodup→(mset m x v).Perm ((x,v) :: m.filter fun p=>p.1≠x)
 | [],h,_=>by simp [mhas] at h
 | p :: m,h,hn=>by
  rw [List.map_cons,List.nodup_cons] at hn;simp only [mhas] at h;by_cases hp:x=p.1
  ·simp only [mset,if_pos hp];have:(p :: m).filter (fun q=>q.1≠x)=m:=by rw [List.filter_cons_of_neg (by simp [hp]),List.filter_eq_self.2];intro q hq;simp only [ne_eq,decide_not,Bool.not_eq_eq_eq_not,Bool.not_true,decide_eq_false_iff_not];intro e;exact hn.1 (by rw [←hp,←e];exact List.mem_map_of_mem hq)
   rw [this]
  ·rw [if_neg hp] at h;simp only [mset,if_neg hp];have e:(p :: m).filter (fun q=>q.1≠x)=p :: m.filter fun q=>q.1≠x:=List.filter_cons_of_pos (by simpa using fun e=>hp e.symm);rw [e];exact ((j3 h hn.2).cons p).trans (List.Perm.swap _ _ _)
theorem zR{m m':List (α×β)}(h:m.Perm m')(hn:(m.map Prod.fst).Nodup)(x:α)(v:β):(mset m x v).Perm (mset m' x v):=by
 have hn':=(h.map Prod.fst).nodup_iff.1 hn;have hh:=zQ h x;cases hx:mhas m x with
 | false=>rw [jb hx,jb (hh▸hx)];exact h.append_right _
 | true=>exact (j3 hx hn).trans (((h.filter _).cons _).trans (j3 (hh▸hx) hn').symm)
theorem j4(x:α)(v:β):∀ m:List (α×β),(m.map Prod.fst).Nodup→((mset m x v).map Prod.fst).Nodup∧ ∀ y,y∈(mset m x v).map Prod.fst→y=x∨y∈m.map Prod.fst
 | [],_=>by simp [mset]
 | p :: m,hn=>by
  rw [List.map_cons,List.nodup_cons] at hn;by_cases hp:x=p.1
  ·simp only [mset,if_pos hp,List.map_cons,List.nodup_cons];refine ⟨⟨by rw [hp];exact hn.1,hn.2⟩,fun y hy=>?_⟩;rcases List.mem_cons.1 hy with h | h
   ·exact .inl h
   ·exact .inr (List.mem_cons_of_mem _ h)
  ·obtain ⟨h1,h2⟩:=j4 x v m hn.2;simp only [mset,if_neg hp,List.map_cons,List.nodup_cons];refine ⟨⟨fun h=>?_,h1⟩,fun y hy=>?_⟩
   ·rcases h2 _ h with e | e
    ·exact hp e.symm
    ·exact hn.1 e
   ·rcases List.mem_cons.1 hy with e | e
    ·exact .inr (by rw [e];exact List.mem_cons_self)
    ·exact (h2 y e).imp id (List.mem_cons_of_mem _)
end
def Born(es:Array MapEntry)(clock:Nat):Prop:=(∀ x∈es.toList,x.born<clock)∧(es.toList.map (·.born)).Nodup
def EntsQ{α β:Type}(tk:Ty α)(tv:Ty β)(g:G)(es:Array MapEntry)(clock:Nat)(m:List (α×β)):Prop:=
 Born es clock∧ ∃ m',m'.Perm m∧(m'.map Prod.fst).Nodup∧Ents tk tv g es.toList m'
theorem EntsQ.mono{α β:Type}{tk:Ty α}{tv:Ty β}{T:Nat→Prop}{g g':G}(e:Ext T g g'){es:Array MapEntry}{clock:Nat}{m:List (α×β)}(h:EntsQ tk tv g es clock m):EntsQ tk tv g' es clock m:=
 ⟨h.1,let ⟨m',h1,h2,h3⟩:=h.2;⟨m',h1,h2,h3.mono e⟩⟩
theorem EntsQ.len{α β:Type}{tk:Ty α}{tv:Ty β}{g:G}{es:Array MapEntry}{clock:Nat}{m:List (α×β)}(h:EntsQ tk tv g es clock m):es.size=m.length:=by
 obtain ⟨_,m',h1,_,h3⟩:=h;have:=h3.len;rw [Array.length_toList] at this;rw [this,h1.length_eq]
theorem EntsQ.keys{α β:Type}{tk:Ty α}{tv:Ty β}{g:G}{es:Array MapEntry}{clock:Nat}{m:List (α×β)}(h:EntsQ tk tv g es clock m):(m.map Prod.fst).Nodup:=by
 obtain ⟨_,m',h1,h2,_⟩:=h;exact (h1.map Prod.fst).nodup_iff.1 h2
def Mq{α β:Type}(tk:Ty α)(tv:Ty β)(m:List (α×β))(b:Nat):Res where
 blk:=fun x=>some b=some x
 holds:=fun g=>∃ es clock,g.w.heap[b]? =some (.map es clock)∧g.S b=0∧EntsQ tk tv g es clock m
 stay:=fun {T g g'} e hn ⟨es,c,h1,h0,h2⟩=>by
  have hlt:=(Array.getElem?_eq_some_iff.1 h1).1;have:=e.same b hlt (hn b rfl);exact ⟨es,c,this.1.trans h1,this.2.trans h0,h2.mono e⟩
 lt:=fun {g b'} ⟨es,c,h1,_⟩ hb=>by
  cases hb;exact (Array.getElem?_eq_some_iff.1 h1).1
def Gq{α β:Type}(tk:Ty α)(tv:Ty β)(m:List (α×β))(b:Nat):Res where
 blk:=fun _=>False
 holds:=fun g=>∃ es k,g.Full b (.inr (es,k))∧EntsQ tk tv g es k m
 stay:=fun e _ ⟨es,k,h1,h2⟩=>⟨es,k,e.rows _ _ h1,h2.mono e⟩
 lt:=fun _ h=>h.elim
def tQ{α β:Type}(tk:Ty α)(tv:Ty β):Ty (List (α×β)) where
 size:=1
 agg:=false
 rep:=fun g cs m=>(cs= [.map none]∧m= [])∨ ∃ b es k,cs= [.map (some b)]∧g.Full b (.inr (es,k))∧EntsQ tk tv g es k m
 len:=by rintro g cs x (⟨rfl,_⟩ | ⟨b,es,k,rfl,_⟩)<;> rfl
 one:=by
  rintro g cs x (⟨rfl,_⟩ | ⟨b,es,k,rfl,_⟩) c hc
  ·rw [List.mem_singleton.1 hc];rfl
  ·rw [List.mem_singleton.1 hc];rfl
 mono:=by
  rintro T g g' cs x e (h | ⟨b,es,k,h1,h2,h3⟩)
  ·exact .inl h
  ·exact .inr ⟨b,es,k,h1,e.rows _ _ h2,h3.mono e⟩
 sing:=fun _=>rfl
theorem Gq.tQ{α β:Type}{tk:Ty α}{tv:Ty β}{m:List (α×β)}{b:Nat}{v:Value}{g:G}(h:(Gq tk tv m b).holds g)(hv:(Mv b).holds v g):((tQ tk tv).is m).holds v g:=by
 obtain ⟨es,k,h1,h2⟩:=h;exact ⟨[.map (some b)],.inr ⟨b,es,k,rfl,h1,h2⟩,hv⟩
section
variable {P:Program} {N:Nat} {g0:G} {T0:Nat→Prop} {env:Env} {res:Rs} {d:Option Tmp} {ty:TypeId} {pos:String} {aft:Array Edge} {gd:Option (Nat×Bool)} {α β:Type} {tk:Ty α} {tv:Ty β}
theorem OpR.makeMapQ{T:TypeId}(tk:Ty α)(tv:Ty β)(key:Nat):OpR P ⟨d,.makeMap T none,ty,pos,aft,gd⟩ env res [] (fun b:Nat=>Mv b) (fun b=>[(key,Mq tk tv [] b)]):=by
 intro a g K Q hc hd hK;have hrun:(execOp a.eval ⟨d,.makeMap T none,ty,pos,aft,gd⟩).run P g.w= .ok (.value (.map (some g.w.heap.size))) (g.alloc (.map #[] 0) 0).w:=by simp [execOp,Instr.makeMap,G.alloc]
 show Oper.upon P _ a K Q ((execOp a.eval _).run P g.w);rw [hrun];refine hK g.w.heap.size _ (g.alloc (.map #[] 0) 0) (Ext.alloc _ _ _ _) rfl (fun y hy=>?_) (List.pairwise_singleton _ _) (fun b hb=>.inr (by rw [(fw rfl).1 hb];exact Nat.le_refl _));rw [List.mem_singleton.1 hy];exact ⟨#[],0,heap_alloc_new g.w _,by show (if g.w.heap.size=g.w.heap.size then 0 else _)=0;rw [if_pos rfl],⟨(fun x hx=>by cases hx),List.nodup_nil⟩,[],List.Perm.refl _,List.nodup_nil,trivial⟩
theorem Op1.Bh{T k e:TypeId}{m:List (α×β)}{b:Nat}{x:Operand}(key:Nat)(hT:P.underlying T=some (.map k e))(hr:findR key res=some (Mq tk tv m b))(hx:Opd env x (Mv b))(hl:m.length≤lim) :
  Op1 P ⟨d,.call ⟨.builtin .len,#[x],#[T]⟩,ty,pos,aft,gd⟩ env res ((tI .i64).is (m.length:Int)):=
 Op1.same fun a g hc=>by
  obtain ⟨es,clock,h1,_,h2⟩:=hc.hres _ (bT hr);have hv:a.eval x= .map (some b):=hx a g hc.henv;have hl2:=h2.len;refine ⟨.int .i64 (es.size:Int),by simp [execOp,resolve,invoke,builtin,Builtin.len_,Builtin.lenOf,run_underlying hT,hv,MapKept.run_getObj_map h1,goInt],?_⟩;rw [hl2];exact Asn.int (inR64.2 (by unfold lim at hl;omega))
theorem Op1.Ja{T k e:TypeId}{m:List (α×β)}{x:Operand}(hT:P.underlying T=some (.map k e))(hx:Opd env x ((tQ tk tv).is m))(hl:m.length≤lim) :
  Op1 P ⟨d,.call ⟨.builtin .len,#[x],#[T]⟩,ty,pos,aft,gd⟩ env res ((tI .i64).is (m.length:Int)):=
 Op1.same fun a g hc=>by
  obtain ⟨ms,hm,hv⟩:=hx a g hc.henv;rcases hm with ⟨rfl,rfl⟩ | ⟨b,es,clock,rfl,hF,h2⟩
  ·have hv:a.eval x= .map none:=hv;exact ⟨.int .i64 0,by simp [execOp,resolve,invoke,builtin,Builtin.len_,Builtin.lenOf,run_underlying hT,hv,goInt],Asn.int (inR64.2 (by simp))⟩
  ·have hv:a.eval x= .map (some b):=hv;have h1:=hF.map;have hl2:=h2.len;refine ⟨.int .i64 (es.size:Int),by simp [execOp,resolve,invoke,builtin,Builtin.len_,Builtin.lenOf,run_underlying hT,hv,MapKept.run_getObj_map h1,goInt],?_⟩;rw [hl2];exact Asn.int (inR64.2 (by unfold lim at hl;omega))
theorem findQ[DecidableEq α]{k e:TypeId}(hk:KeyT P k tk){g:G}{es:Array MapEntry}{clock:Nat}{m:List (α×β)}(h:EntsQ tk tv g es clock m){u:α}{z:β}{cs:List Value}(hu:tk.rep g cs u)(w:World) :
  ((Instr.findKey k (mkVal tk.agg cs) es.toList).run P w= .ok none w∧mget m u z=z∧mhas m u=false)∨
  ∃ (i:Nat) (en:MapEntry),(Instr.findKey k (mkVal tk.agg cs) es.toList).run P w= .ok (some (i,en.val)) w∧(tv.is (mget m u z)).holds en.val g∧mhas m u=true:=by
 obtain ⟨_,m',h1,h2,h3⟩:=h;have hf:=hk.find hu h3 w;rw [←Fh h1 h2 u z,←zQ h1 u];rcases yz (tk:=tk) (tv:=tv) (g:=g) u z z es.toList m' 0 h3 with ⟨k1,k2,k5,_⟩ | ⟨j,en,k1,k2,k3,k4,k5,_⟩
 ·rw [k1] at hf;exact .inl ⟨hf,k2,k5⟩
 ·rw [k1] at hf;exact .inr ⟨_,en,hf,k4,k5⟩
theorem Op1.xQ[DecidableEq α]{T k e:TypeId}{m:List (α×β)}{z:β}{u:α}{b:Nat}{x y:Operand}(key:Nat)(hT:P.underlying T=some (.map k e))(hk:KeyT P k tk)(hz:eT P e tv z)(hr:findR key res=some (Mq tk tv m b))(hx:Opd env x (Mv b):=by exact .tmp rfl)(hy:Opd env y (tk.is u):=by exact .tmp rfl) :
  Op1 P ⟨d,.lookup T x y false,ty,pos,aft,gd⟩ env res (tv.is (mget m u z)):=
 Op1.same fun a g hc=>by
  obtain ⟨es,clock,h1,_,h2⟩:=hc.hres _ (bT hr);have hv:a.eval x= .map (some b):=hx a g hc.henv;obtain ⟨cs,hu,hyv⟩:=hy a g hc.henv;obtain ⟨zv,hz1,hz2⟩:=hz.zero;have hck:=hk.chk hu es.isEmpty g.w;rcases findQ (e:=e) hk h2 (z:=z) hu g.w with ⟨hf,k2,_⟩ | ⟨i,en,hf,k4,_⟩
  ·refine ⟨zv,by simp [execOp,hv,hyv,Instr.lookup,run_underlying hT,MapKept.run_getObj_map h1,hck,hf,hz1],?_⟩;rw [k2];exact hz2 g
  ·exact ⟨en.val,by simp [execOp,hv,hyv,Instr.lookup,run_underlying hT,MapKept.run_getObj_map h1,hck,hf],k4⟩
theorem Op1.wP[DecidableEq α]{T k e:TypeId}{m:List (α×β)}{z:β}{u:α}{b:Nat}{x y:Operand}(key:Nat)(hT:P.underlying T=some (.map k e))(hk:KeyT P k tk)(hz:eT P e tv z)(hr:findR key res=some (Mq tk tv m b))(hx:Opd env x (Mv b):=by exact .tmp rfl)(hy:Opd env y (tk.is u):=by exact .tmp rfl) :
  Op1 P ⟨d,.lookup T x y true,ty,pos,aft,gd⟩ env res (Asn.tuple2 (tv.is (mget m u z)) (tB.is (mhas m u))):=
 Op1.same fun a g hc=>by
  obtain ⟨es,clock,h1,_,h2⟩:=hc.hres _ (bT hr);have hv:a.eval x= .map (some b):=hx a g hc.henv;obtain ⟨cs,hu,hyv⟩:=hy a g hc.henv;obtain ⟨zv,hz1,hz2⟩:=hz.zero;have hck:=hk.chk hu es.isEmpty g.w;rcases findQ (e:=e) hk h2 (z:=z) hu g.w with ⟨hf,k2,k5⟩ | ⟨i,en,hf,k4,k5⟩
  ·refine ⟨.tuple #[zv,.bool false],by simp [execOp,hv,hyv,Instr.lookup,run_underlying hT,MapKept.run_getObj_map h1,hck,hf,hz1],zv,.bool false,rfl,?_,?_⟩
   ·rw [k2];exact hz2 g
   ·rw [k5];exact ⟨_,rfl,rfl⟩
  ·exact ⟨.tuple #[en.val,.bool true],by simp [execOp,hv,hyv,Instr.lookup,run_underlying hT,MapKept.run_getObj_map h1,hck,hf],en.val,.bool true,rfl,k4,by rw [k5];exact ⟨_,rfl,rfl⟩⟩
theorem Op1.Cv[DecidableEq α]{T k e:TypeId}{m:List (α×β)}{z:β}{u:α}{x y:Operand}(hT:P.underlying T=some (.map k e))(hk:KeyT P k tk)(hz:eT P e tv z)(hx:Opd env x ((tQ tk tv).is m):=by exact .tmp rfl)(hy:Opd env y (tk.is u):=by exact .tmp rfl) :
  Op1 P ⟨d,.lookup T x y false,ty,pos,aft,gd⟩ env res (tv.is (mget m u z)):=
 Op1.same fun a g hc=>by
  obtain ⟨ms,hm,hv⟩:=hx a g hc.henv;obtain ⟨cs,hu,hyv⟩:=hy a g hc.henv;obtain ⟨zv,hz1,hz2⟩:=hz.zero;rcases hm with ⟨rfl,rfl⟩ | ⟨b,es,clock,rfl,hF,h2⟩
  ·have hv:a.eval x= .map none:=hv;have hck:=hk.chk hu true g.w;have hf:=hk.find (es:=[]) (m:=[]) (tv:=tv) hu trivial g.w;have hf':(Instr.findKey k (mkVal tk.agg cs) []).run P g.w= .ok none g.w:=hf;exact ⟨zv,by simp [execOp,hv,hyv,Instr.lookup,run_underlying hT,hck,hf',hz1],hz2 g⟩
  ·have hv:a.eval x= .map (some b):=hv;have h1:=hF.map;have hck:=hk.chk hu es.isEmpty g.w;rcases findQ (e:=e) hk h2 (z:=z) hu g.w with ⟨hf,k2,_⟩ | ⟨i,en,hf,k4,_⟩
   ·refine ⟨zv,by simp [execOp,hv,hyv,Instr.lookup,run_underlying hT,MapKept.run_getObj_map h1,hck,hf,hz1],?_⟩;rw [k2];exact hz2 g
   ·exact ⟨en.val,by simp [execOp,hv,hyv,Instr.lookup,run_underlying hT,MapKept.run_getObj_map h1,hck,hf],k4⟩
theorem Op1.mg[DecidableEq α]{T k e:TypeId}{m:List (α×β)}{z:β}{u:α}{x y:Operand}(hT:P.underlying T=some (.map k e))(hk:KeyT P k tk)(hz:eT P e tv z)(hx:Opd env x ((tQ tk tv).is m):=by exact .tmp rfl)(hy:Opd env y (tk.is u):=by exact .tmp rfl) :
  Op1 P ⟨d,.lookup T x y true,ty,pos,aft,gd⟩ env res (Asn.tuple2 (tv.is (mget m u z)) (tB.is (mhas m u))):=
 Op1.same fun a g hc=>by
  obtain ⟨ms,hm,hv⟩:=hx a g hc.henv;obtain ⟨cs,hu,hyv⟩:=hy a g hc.henv;obtain ⟨zv,hz1,hz2⟩:=hz.zero;rcases hm with ⟨rfl,rfl⟩ | ⟨b,es,clock,rfl,hF,h2⟩
  ·have hv:a.eval x= .map none:=hv;have hck:=hk.chk hu true g.w;have hf:=hk.find (es:=[]) (m:=[]) (tv:=tv) hu trivial g.w;have hf':(Instr.findKey k (mkVal tk.agg cs) []).run P g.w= .ok none g.w:=hf;exact ⟨.tuple #[zv,.bool false],by simp [execOp,hv,hyv,Instr.lookup,run_underlying hT,hck,hf',hz1],zv,.bool false,rfl,hz2 g,_,rfl,rfl⟩
  ·have hv:a.eval x= .map (some b):=hv;have h1:=hF.map;have hck:=hk.chk hu es.isEmpty g.w;rcases findQ (e:=e) hk h2 (z:=z) hu g.w with ⟨hf,k2,k5⟩ | ⟨i,en,hf,k4,k5⟩
   ·refine ⟨.tuple #[zv,.bool false],by simp [execOp,hv,hyv,Instr.lookup,run_underlying hT,MapKept.run_getObj_map h1,hck,hf,hz1],zv,.bool false,rfl,?_,?_⟩
    ·rw [k2];exact hz2 g
    ·rw [k5];exact ⟨_,rfl,rfl⟩
   ·exact ⟨.tuple #[en.val,.bool true],by simp [execOp,hv,hyv,Instr.lookup,run_underlying hT,MapKept.run_getObj_map h1,hck,hf],en.val,.bool true,rfl,k4,by rw [k5];exact ⟨_,rfl,rfl⟩⟩
theorem OpR.mapUpdateQ[DecidableEq α]{T k e:TypeId}{m:List (α×β)}{u:α}{v:β}{b:Nat}{x y z:Operand}(key:Nat)(hT:P.underlying T=some (.map k e))(hk:KeyT P k tk)(hr:res.pick [key]= [(key,Mq tk tv m b)])(hx:Opd env x (Mv b):=by exact .tmp rfl)(hy:Opd env y (tk.is u):=by exact .tmp rfl)(hz:Opd env z (tv.is v):=by exact .tmp rfl) :
  OpR P ⟨none,.mapUpdate T x y z,ty,pos,aft,gd⟩ env res [key] (fun _:Unit=>Asn.any) (fun _=>[(key,Mq tk tv (mset m u v) b)]):=by
 intro a g K Q hc hd hK;have hin:(key,Mq tk tv m b)∈res:=by
  have:(key,Mq tk tv m b)∈res.pick [key]:=by rw [hr];exact List.mem_singleton.2 rfl
  exact (List.mem_filter.1 this).1
 obtain ⟨es,clock,h1,h0,hborn,m',hp,hn,h2⟩:=hc.hres _ hin;have hv:a.eval x= .map (some b):=hx a g hc.henv;have hyk:=hy a g hc.henv;obtain ⟨cs,hu,hyv⟩:=hyk;have hzv:=hz a g hc.henv;have hck:=hk.chk hu false g.w;have hf:=hk.find hu h2 g.w;have hlt:=(Array.getElem?_eq_some_iff.1 h1).1
 -- what follows from the block's new contents
 have fin:∀ (w':World) (es':Array MapEntry) (c':Nat),(∀ (w0:World),(w0=g.w∨w0=g.w.drew)→w'= {w0 with heap:=w0.heap.setIfInBounds b (.map es' c')}→(execOp a.eval ⟨none,.mapUpdate T x y z,ty,pos,aft,gd⟩).run P g.w= .ok .skip w'→Born es' c'→Ents tk tv g es'.toList (mset m' u v)→
   Oper.wp P ⟨none,.mapUpdate T x y z,ty,pos,aft,gd⟩ a g.w K Q):=by
  intro w' es' c' w0 hw0 hw' hrun hB hE;have hos:w0.os=g.w.os∧w0.tape=g.w.tape∧w0.output=g.w.output∧w0.heap=g.w.heap:=by rcases hw0 with rfl | rfl<;> exact ⟨rfl,rfl,rfl,rfl⟩
  obtain ⟨o1,o2,o3,o4⟩:=hos;have hheap:w'.heap=g.w.heap.setIfInBounds b (.map es' c'):=by rw [hw',←o4]
  have e:Ext (· =b) g ⟨w',g.S⟩:=by
   refine wN g.S (by rw [hw'];exact o1) (by rw [hw'];exact o2) (by rw [hw'];exact o3) (by rw [hheap];simp) (fun x' _ hne=>⟨?_,rfl⟩) (fun x' hx'=>by rw [show x'=b from hx'];exact h0);rw [hheap];simp [Array.getElem?_setIfInBounds,Ne.symm hne]
  show Oper.upon P _ a K Q ((execOp a.eval _).run P g.w);rw [hrun];refine hK () undef ⟨w',g.S⟩ (e.mono (fun x hx=>by rw [hr];exact (fw rfl).2 hx)) trivial (fun y hy=>?_) (List.pairwise_singleton _ _) (fun b' hb'=>.inl (by rw [hr];exact (fw rfl).2 ((fw rfl).1 hb')));rw [List.mem_singleton.1 hy];refine ⟨es',c',?_,h0,hB,mset m' u v,zR hp hn u v,(j4 u v m' hn).1,hE.mono e⟩;show w'.heap[b]? =_;rw [hheap];simp [hlt]
 have hmod:∀ (j:Nat) (f:MapEntry→MapEntry),(∀ e,(f e).born=e.born)→Born (es.modify j f) clock:=by
  intro j f hfb;have e1:(es.modify j f).toList.map (·.born)=es.toList.map (·.born):=by
   rw [Array.toList_modify];generalize es.toList=l;induction l generalizing j with
   | nil=>simp
   | cons a l ih=>
    cases j with
    | zero=>simp [hfb]
    | succ j=>simp only [List.modify_succ_cons,List.map_cons,ih]
  refine ⟨fun x hx=>?_,by rw [e1];exact hborn.2⟩;have:x.born∈(es.modify j f).toList.map (·.born):=List.mem_map_of_mem hx;rw [e1] at this;obtain ⟨y,hy,he⟩:=List.mem_map.1 this;rw [←he];exact hborn.1 y hy
 rcases yz (tk:=tk) (tv:=tv) (g:=g) u v v es.toList m' 0 h2 with ⟨k1,_,_,k4⟩ | ⟨j,en,k1,k2,k3,_,_,k6⟩
 ·rw [k1] at hf;refine fin _ (es.push ⟨mkVal tk.agg cs,a.eval z,clock⟩) (clock+1) g.w (.inl rfl) rfl ?_ ?_ ?_
  ·simp [execOp,hv,hyv,Instr.mapUpdate,run_underlying hT,MapKept.run_getObj_map h1,hck,hf,MapKept.run_setObj_map _ h1]
  ·refine ⟨fun x hx=>?_,?_⟩
   ·rw [Array.toList_push] at hx;rcases List.mem_append.1 hx with hx | hx
    ·have:=hborn.1 x hx;omega
    ·rw [List.mem_singleton.1 hx];exact Nat.lt_succ_self _
   ·rw [Array.toList_push,List.map_append,List.nodup_append];refine ⟨hborn.2,by simp,fun a ha c hc=>?_⟩;obtain ⟨y,hy,rfl⟩:=List.mem_map.1 ha;have h3:c=clock:=by simpa using hc
    rw [h3];have:=hborn.1 y hy;omega
  ·rw [k4,Array.toList_push];exact Ents.append (p:=(u,v)) ⟨cs,hu,rfl⟩ hzv h2
 ·rw [k1,Nat.zero_add] at hf;have hej:es[j]? =some en:=by simpa using k2
  by_cases hs:Instr.sameBits 10000 en.key (mkVal tk.agg cs)=true
  ·refine fin _ (es.modify j (fun e=>{e with key:=mkVal tk.agg cs,val:=a.eval z})) clock g.w (.inl rfl) rfl ?_ (hmod _ _ (fun _=>rfl)) ?_
   ·simp [execOp,hv,hyv,Instr.mapUpdate,run_underlying hT,MapKept.run_getObj_map h1,hck,hf,hej,Instr.keyThatStays,hs,MapKept.run_setObj_map _ h1]
   ·rw [Array.toList_modify];exact k6 _ _ ⟨cs,hu,rfl⟩ hzv
  ·have h1':g.w.drew.heap[b]? =some (.map es clock):=h1;by_cases hq:(Question.extern "map.whichKeyStays" 2).cut (g.w.tape g.w.drawn (.extern "map.whichKeyStays" 2))=0
   ·refine fin _ (es.modify j (fun e=>{e with key:=mkVal tk.agg cs,val:=a.eval z})) clock g.w.drew (.inr rfl) rfl ?_ (hmod _ _ (fun _=>rfl)) ?_
    ·simp [execOp,hv,hyv,Instr.mapUpdate,run_underlying hT,MapKept.run_getObj_map h1,hck,hf,hej,Instr.keyThatStays,hs,hq,MapKept.run_setObj_map _ h1',Question.forced]
    ·rw [Array.toList_modify];exact k6 _ _ ⟨cs,hu,rfl⟩ hzv
   ·refine fin _ (es.modify j (fun e=>{e with key:=en.key,val:=a.eval z})) clock g.w.drew (.inr rfl) rfl ?_ (hmod _ _ (fun _=>rfl)) ?_
    ·simp [execOp,hv,hyv,Instr.mapUpdate,run_underlying hT,MapKept.run_getObj_map h1,hck,hf,hej,Instr.keyThatStays,hs,hq,MapKept.run_setObj_map _ h1',Question.forced]
    ·rw [Array.toList_modify];exact k6 _ _ k3 hzv
theorem OpR.insertQ[DecidableEq α]{T k e:TypeId}{m:List (α×β)}{u:α}{v:β}{b:Nat}{x y z:Operand}(key:Nat)(hT:P.underlying T=some (.map k e))(hk:KeyT P k tk)(hr:res.pick [key]= [(key,Mq tk tv m b)])(hx:Opd env x (Mv b):=by exact .tmp rfl)(hy:Opd env y (tk.is u):=by exact .tmp rfl)(hz:Opd env z (tv.is v):=by exact .tmp rfl) :
  OpR P ⟨none,.insert T x y z,ty,pos,aft,gd⟩ env res [key] (fun _:Unit=>Asn.any) (fun _=>[(key,Mq tk tv (mset m u v) b)]):=by
 intro a g K Q hc hd hK;exact OpR.mapUpdateQ (P:=P) (pos:=pos) (aft:=aft) (gd:=gd) (ty:=ty) key hT hk hr hx hy hz a g K Q hc hd hK
theorem St.sealQ{m:List (α×β)}{key b:Nat}(hr:findR key res=some (Mq tk tv m b)){a:Act}{g:G}(h:St N g0 T0 env res a g) :
  ∃ g',g'.w=g.w∧St N g0 T0 env ((key,Gq tk tv m b) :: res.drop [key]) a g':=by
 have hin:=bT hr;obtain ⟨es,clock,h1,h5,h2⟩:=h.hres _ hin;have e:Ext (· =b) g ⟨g.w,fun x=>if x=b then 1 else g.S x⟩:=by
  refine ⟨rfl,rfl,rfl,Nat.le_refl _,fun x _ hn=>⟨rfl,?_⟩,fun x i v hv=>⟨?_,hv.2⟩,fun x n hv=>?_⟩
  ·show (if x=b then _ else _)=_;rw [if_neg hn]
  ·show i<(if x=b then _ else _);by_cases hx:x=b
   ·subst hx;have:=hv.1;omega
   ·rw [if_neg hx];exact hv.1
  ·by_cases hx:x=b
   ·subst hx;exact (hv.pos h5).elim
   ·refine hv.same rfl ?_;show g.S x≤if x=b then _ else _;rw [if_neg hx];exact Nat.le_refl _
 have hfull:(⟨g.w,fun x=>if x=b then 1 else g.S x⟩:G).Full b (.inr (es,clock)):=by
  refine ⟨?_,?_,Nat.one_pos⟩
  ·show rowN g.w b=_;unfold rowN;rw [h1];rfl
  ·show 1≤if b=b then 1 else g.S b;rw [if_pos rfl];exact Nat.le_refl _
 refine ⟨⟨g.w,fun x=>if x=b then 1 else g.S x⟩,rfl,h.sz,h.dfr,fun s A hA=>A.mono e (h.henv s A hA),fun y hy=>?_,?_,fun b' ⟨y,hy,hb⟩=>?_,?_⟩
 ·rcases List.mem_cons.1 hy with rfl | hy
  ·exact ⟨es,clock,hfull,h2.mono e⟩
  ·have hy':=List.mem_filter.1 hy;refine y.2.stay e (fun b' hb' hT=>?_) (h.hres y hy'.1);rw [show b'=b from hT] at hb';exact h.dis.split [key] b ⟨y,hy,hb'⟩ ⟨(key,Mq tk tv m b),List.mem_filter.2 ⟨hin,by simp [memB]⟩,rfl⟩
 ·refine List.pairwise_cons.2 ⟨fun y _ b' hb'=>hb'.elim,h.dis.filter _⟩
 ·rcases List.mem_cons.1 hy with rfl | hy
  ·exact hb.elim
  ·exact h.own b' ⟨y,(List.mem_filter.1 hy).1,hb⟩
 ·refine h.ext.trans e (fun x hx hxb=>?_);rcases h.own b ⟨_,hin,rfl⟩ with h' | h'
  ·rw [show x=b from hxb] at hx;omega
  ·rw [show x=b from hxb];exact h'
theorem WL.sealQ{ops:Array Oper}{Q:Exit→Act→World→Prop}{l:List Oper}{m:List (α×β)}{b:Nat}(key:Nat)(hr:findR key res=some (Mq tk tv m b))(k:WL P N g0 T0 ops Q l env ((key,Gq tk tv m b) :: res.drop [key])) :
  WL P N g0 T0 ops Q l env res:=fun a g h=>by
 obtain ⟨g',hw,h'⟩:=h.sealQ hr;rw [←hw];exact k a g' h'
theorem W.sealQ{c:Code}{ks:List KF}{B:Exit→Act→World→Prop}{m:List (α×β)}{b:Nat}(key:Nat)(hr:findR key res=some (Mq tk tv m b))(k:W P N g0 T0 c ks B env ((key,Gq tk tv m b) :: res.drop [key])) :
  W P N g0 T0 c ks B env res:=fun a g h=>by
 obtain ⟨g',hw,h'⟩:=h.sealQ hr;rw [←hw];exact k a g' h'
theorem WL.slotG{ops:Array Oper}{Q:Exit→Act→World→Prop}{l:List Oper}{A:Asn}(A':Asn)(s:Nat)(hs:look s env=some A)(hA:∀ v g,res.all g→A.holds v g→A'.holds v g)(k:WL P N g0 T0 ops Q l ((s,A') :: env) res):WL P N g0 T0 ops Q l env res:=
 fun a g h=>k a g (h.slotG hs hA)
theorem mapQ{m:List (α×β)}{b key:Nat}(hr:findR key res=some (Gq tk tv m b)):∀ v g,res.all g→(Mv b).holds v g→((tQ tk tv).is m).holds v g:=fun v g h hv=>Gq.tQ (h _ (bT hr)) hv
theorem CvT.mq{g:G}{m x:List (α×β)}{b:Nat}(h:(Gq tk tv m b).holds g):CvT g (tMb b) (tQ tk tv) x m:=fun cs hc=>by
 obtain ⟨es,k,h1,h2⟩:=h;exact .inr ⟨b,es,k,hc,h1,h2⟩
theorem Ents.at{g:G}:∀ {es:List MapEntry} {m:List (α×β)},Ents tk tv g es m→∀ {j:Nat} {e:MapEntry},es[j]? =some e→∃ p,m[j]? =some p∧(tk.is p.1).holds e.key g∧(tv.is p.2).holds e.val g∧m.Perm (p :: m.eraseIdx j)∧Ents tk tv g (es.eraseIdx j) (m.eraseIdx j)
 | [],[],_,j,e,he=>by simp at he
 | x :: es,p :: m,⟨h1,h2,h3⟩,0,e,he=>by
  simp only [List.getElem?_cons_zero,Option.some.injEq] at he;subst he;exact ⟨p,rfl,h1,h2,List.Perm.refl _,h3⟩
 | x :: es,p :: m,⟨h1,h2,h3⟩,j+1,e,he=>by
  obtain ⟨q,k1,k2,k3,k4,k5⟩:=Ents.at h3 (j:=j) (e:=e) (by simpa using he);refine ⟨q,by simpa using k1,k2,k3,?_,h1,h2,k5⟩;rw [List.eraseIdx_cons_succ];exact (k4.cons p).trans (List.Perm.swap _ _ _)
 | [],_ :: _,h,_,_,_=>h.elim
 | _ :: _,[],h,_,_,_=>h.elim
theorem yD:∀ {l:List MapEntry} {j:Nat} {e:MapEntry},(l.map (·.born)).Nodup→l[j]? =some e→l.filter (fun x=>x.born !=e.born)=l.eraseIdx j
 | [],j,e,_,he=>by simp at he
 | x :: l,0,e,hn,he=>by
  simp only [List.getElem?_cons_zero,Option.some.injEq] at he;subst he;rw [List.map_cons,List.nodup_cons] at hn;rw [List.filter_cons_of_neg (by simp),List.filter_eq_self.2]
  ·rfl
  ·intro y hy;have:y.born≠x.born:=fun e=>hn.1 (by rw [←e];exact List.mem_map_of_mem hy);simpa using this
 | x :: l,j+1,e,hn,he=>by
  rw [List.map_cons,List.nodup_cons] at hn;have he':l[j]? =some e:=by simpa using he
  have hx:x.born≠e.born:=fun e1=>hn.1 (by rw [e1];exact List.mem_map_of_mem (List.mem_of_getElem? he'));rw [List.filter_cons_of_pos (by simpa using hx),yD hn.2 he'];rfl
theorem uj(es:Array MapEntry)(seen:Array Nat):(leftOf es seen).toList=es.toList.filter fun e=>!seen.contains e.born:=by
 unfold leftOf;rw [Array.toList_filter]
theorem Fj{es:Array MapEntry}{seen:Array Nat}(hn:(es.toList.map (·.born)).Nodup){j:Nat}{e:MapEntry}(he:(leftOf es seen).toList[j]? =some e):(leftOf es (seen.push e.born)).toList=(leftOf es seen).toList.eraseIdx j:=by
 have hs:((leftOf es seen).toList.map (·.born)).Nodup:=by
  rw [uj];exact List.Sublist.nodup (List.Sublist.map _ List.filter_sublist) hn
 rw [←yD hs he,uj,uj,List.filter_filter];congr 1;funext x;rw [contains_push];cases seen.contains x.born<;> cases h:(x.born==e.born)<;> simp [bne,h]
def ItQ{α β:Type}(tk:Ty α)(tv:Ty β)(L:List (α×β))(last:Option (α×β))(r:Nat):Res where
 blk:=fun x=>some r=some x
 holds:=fun g=>g.S r=0∧((g.w.heap[r]? =some (.mapIter none 0 #[] 0)∧L= []∧last=none)∨
  ∃ b es clock since seen c0 L',g.Full b (.inr (es,clock))∧Born es clock∧(∀ x∈es.toList,x.born<since)∧since≤c0∧since≤clock∧g.w.heap[r]? =some (.mapIter (some b) since seen c0)∧L'.Perm L∧Ents tk tv g (leftOf es seen).toList L'∧
   ∀ p,last=some p→c0=clock∧ ∃ e∈es.toList,∃ seen0:Array Nat,seen=seen0.push e.born∧(tk.is p.1).holds e.key g∧(tv.is p.2).holds e.val g)
 stay:=fun {T g g'} e hn ⟨h0,h⟩=>by
  rcases h with ⟨h1,h2,h3⟩ | ⟨b,es,clock,since,seen,c0,L',h1,h2,h3,h4,h5,h6,h7,h8,h9⟩
  ·have hlt:=(Array.getElem?_eq_some_iff.1 h1).1;have:=e.same r hlt (hn r rfl);exact ⟨this.2.trans h0,.inl ⟨this.1.trans h1,h2,h3⟩⟩
  ·have hlt:=(Array.getElem?_eq_some_iff.1 h6).1;have:=e.same r hlt (hn r rfl);refine ⟨this.2.trans h0,.inr ⟨b,es,clock,since,seen,c0,L',e.rows _ _ h1,h2,h3,h4,h5,this.1.trans h6,h7,h8.mono e,fun p hp=>?_⟩⟩;obtain ⟨q1,en,q2,s0,q3,q4,q5⟩:=h9 p hp;exact ⟨q1,en,q2,s0,q3,(tk.is p.1).mono e q4,(tv.is p.2).mono e q5⟩
 lt:=fun {g b'} ⟨_,h⟩ hb=>by
  cases hb;rcases h with ⟨h1,_⟩ | ⟨b,es,clock,since,seen,c0,L',_,_,_,_,_,h6,_⟩
  ·exact (Array.getElem?_eq_some_iff.1 h1).1
  ·exact (Array.getElem?_eq_some_iff.1 h6).1
theorem OpR.rangeQ{T k e:TypeId}{x:Operand}{m:List (α×β)}(key:Nat)(hT:P.underlying T=some (.map k e))(hx:Opd env x ((tQ tk tv).is m):=by exact .tmp rfl) :
  OpR P ⟨d,.range T x,ty,pos,aft,gd⟩ env res [] (fun r:Nat=>Bp r 0) (fun r=>[(key,ItQ tk tv m none r)]):=by
 intro a g K Q hc hd hK;obtain ⟨ms,hm,hv⟩:=hx a g hc.henv;rcases hm with ⟨rfl,rfl⟩ | ⟨b,es,clock,rfl,hF,hB,m',hp,hn,hE⟩
 ·have hv:a.eval x= .map none:=hv;have hrun:(execOp a.eval ⟨d,.range T x,ty,pos,aft,gd⟩).run P g.w= .ok (.value (.pointer (some ⟨g.w.heap.size,0,none⟩))) (g.alloc (.mapIter none 0 #[] 0) 0).w:=by simp [execOp,hv,Instr.range,run_underlying hT,G.alloc]
  show Oper.upon P _ a K Q ((execOp a.eval _).run P g.w);rw [hrun];refine hK g.w.heap.size _ (g.alloc (.mapIter none 0 #[] 0) 0) (Ext.alloc _ _ _ _) rfl (fun y hy=>?_) (List.pairwise_singleton _ _) (fun b hb=>.inr (by rw [(fw rfl).1 hb];exact Nat.le_refl _));rw [List.mem_singleton.1 hy];exact ⟨by show (if g.w.heap.size=g.w.heap.size then 0 else _)=0;rw [if_pos rfl],.inl ⟨heap_alloc_new g.w _,rfl,rfl⟩⟩
 ·have hv:a.eval x= .map (some b):=hv;have h1:=hF.map;have hrun:(execOp a.eval ⟨d,.range T x,ty,pos,aft,gd⟩).run P g.w= .ok (.value (.pointer (some ⟨g.w.heap.size,0,none⟩))) (g.alloc (.mapIter (some b) clock #[] clock) 0).w:=by simp only [execOp,hv];simp [run_range_map g.w T k e b es clock hT h1,G.alloc]
  have hext:Ext No g (g.alloc (.mapIter (some b) clock #[] clock) 0):=Ext.alloc _ _ _ _;show Oper.upon P _ a K Q ((execOp a.eval _).run P g.w);rw [hrun];refine hK g.w.heap.size _ (g.alloc (.mapIter (some b) clock #[] clock) 0) (Ext.alloc _ _ _ _) rfl (fun y hy=>?_) (List.pairwise_singleton _ _) (fun b hb=>.inr (by rw [(fw rfl).1 hb];exact Nat.le_refl _));rw [List.mem_singleton.1 hy];refine ⟨by show (if g.w.heap.size=g.w.heap.size then 0 else _)=0;rw [if_pos rfl],.inr ⟨b,es,clock,clock,#[],clock,m',hext.rows _ _ hF,hB,hB.1,Nat.le_refl _,Nat.le_refl _,heap_alloc_new g.w _,hp,?_,fun p hp=>by cases hp⟩⟩;have:(leftOf es #[]).toList=es.toList:=by
   rw [uj,List.filter_eq_self.2];intro x hx;simp
  rw [this];exact hE.mono hext
theorem Op1.nextQF{x:Operand}{last:Option (α×β)}{r:Nat}(key:Nat)(hr:findR key res=some (ItQ tk tv [] last r))(hx:Opd env x (Bp r 0):=by exact .tmp rfl):Op1 P ⟨d,.next x false,ty,pos,aft,gd⟩ env res (Asn.tuple1 (tB.is false)):=
 Op1.same fun a g hc=>by
  have hv:a.eval x= .pointer (some ⟨r,0,none⟩):=hx a g hc.henv;obtain ⟨_,h⟩:=hc.hres _ (bT hr);refine ⟨.tuple #[.bool false],?_,_,rfl,Asn.bool⟩;rcases h with ⟨h1,_⟩ | ⟨b,es,clock,since,seen,c0,L',h1,h2,h3,h4,h5,h6,h7,h8,h9⟩
  ·simp [execOp,hv,Instr.next,getObj,Sem.run,h1]
  ·have hL:L'= []:=List.perm_nil.1 h7;subst hL;have hl:=h8.len;rcases run_next_at (P:=P) g.w ty r b since c0 seen es clock h6 h1.map h3 h4 with ⟨_,hrun⟩ | ⟨e,he,_⟩
   ·simp only [execOp,hv];simp [hrun]
   ·rw [List.length_eq_zero_iff.1 hl] at he;cases he
theorem OpR.nextQT{x:Operand}{L:List (α×β)}{last:Option (α×β)}{r:Nat}(key:Nat)(hL:L≠ [])(hr:res.pick [key]= [(key,ItQ tk tv L last r)])(hx:Opd env x (Bp r 0):=by exact .tmp rfl) :
  OpR P ⟨d,.next x false,ty,pos,aft,gd⟩ env res [key] (fun κ:{q:(α×β)×List (α×β) // L.Perm (q.1 :: q.2)}=>Asn.tuple3 (tB.is true) (tk.is κ.1.1.1) (tv.is κ.1.1.2)) (fun κ=>[(key,ItQ tk tv κ.1.2 (some κ.1.1) r)]):=by
 intro a g K Q hc hd hK;have hin:(key,ItQ tk tv L last r)∈res:=by
  have:(key,ItQ tk tv L last r)∈res.pick [key]:=by rw [hr];exact List.mem_singleton.2 rfl
  exact (List.mem_filter.1 this).1
 have hv:a.eval x= .pointer (some ⟨r,0,none⟩):=hx a g hc.henv;obtain ⟨h0,h⟩:=hc.hres _ hin;rcases h with ⟨_,h2,_⟩ | ⟨b,es,clock,since,seen,c0,L',h1,h2,h3,h4,h5,h6,h7,h8,h9⟩
 ·exact absurd h2 hL
 rcases run_next_at (P:=P) g.w ty r b since c0 seen es clock h6 h1.map h3 h4 with ⟨hz,_⟩ | ⟨e,he,w1,hal,hrun⟩
 ·have hl:=h8.len;rw [Array.length_toList,hz] at hl;have:L'= []:=List.length_eq_zero_iff.1 hl.symm;rw [this] at h7;exact absurd (List.nil_perm.1 h7) hL
 obtain ⟨j,hj⟩:=List.getElem?_of_mem he;obtain ⟨p,k1,k2,k3,k4,k5⟩:=Ents.at h8 hj;have hrun':(execOp a.eval ⟨d,.next x false,ty,pos,aft,gd⟩).run P g.w= .ok (.value (.tuple #[.bool true,e.key,e.val])) (Go.ChangeMaps.setBlock w1 r (.mapIter (some b) since (seen.push e.born) clock)):=by
  simp only [execOp,hv];simp [hrun]
 have hos:w1.os=g.w.os∧w1.tape=g.w.tape∧w1.output=g.w.output∧w1.heap=g.w.heap:=by rcases hal with rfl | rfl<;> exact ⟨rfl,rfl,rfl,rfl⟩
 obtain ⟨o1,o2,o3,o4⟩:=hos;have hlt:=(Array.getElem?_eq_some_iff.1 h6).1;have hheap:(Go.ChangeMaps.setBlock w1 r (.mapIter (some b) since (seen.push e.born) clock)).heap=g.w.heap.setIfInBounds r (.mapIter (some b) since (seen.push e.born) clock):=by
  show w1.heap.setIfInBounds r _=_;rw [o4]
 have hext:Ext (· =r) g ⟨Go.ChangeMaps.setBlock w1 r (.mapIter (some b) since (seen.push e.born) clock),g.S⟩:=by
  refine wN g.S o1 o2 o3 (by rw [hheap];simp) (fun x' _ hne=>⟨?_,rfl⟩) (fun x' hx'=>by rw [show x'=r from hx'];exact h0);rw [hheap];simp [Array.getElem?_setIfInBounds,Ne.symm hne]
 show Oper.upon P _ a K Q ((execOp a.eval _).run P g.w);rw [hrun'];refine hK ⟨(p,L'.eraseIdx j),h7.symm.trans k4⟩ _ ⟨_,g.S⟩ (hext.mono (fun x hx=>by rw [hr];exact (fw rfl).2 hx)) ⟨_,_,_,rfl,Asn.bool,(tk.is p.1).mono hext k2,(tv.is p.2).mono hext k3⟩ (fun y hy=>?_) (List.pairwise_singleton _ _) (fun b' hb'=>.inl (by rw [hr];exact (fw rfl).2 ((fw rfl).1 hb')));rw [List.mem_singleton.1 hy];refine ⟨h0,.inr ⟨b,es,clock,since,seen.push e.born,clock,L'.eraseIdx j,hext.rows _ _ h1,h2,h3,h5,h5,?_,List.Perm.refl _,?_,fun q hq=>?_⟩⟩
 ·show (Go.ChangeMaps.setBlock w1 r _).heap[r]? =_;rw [hheap];simp [hlt]
 ·rw [Fj h2.2 hj];exact k5.mono hext
 ·cases hq;exact ⟨rfl,e,(mem_left he).1,seen,rfl,(tk.is p.1).mono hext k2,(tv.is p.2).mono hext k3⟩
theorem Op1.entryQ{x:Operand}{L:List (α×β)}{p:α×β}{r:Nat}(key:Nat)(hr:findR key res=some (ItQ tk tv L (some p) r))(hx:Opd env x (Bp r 0):=by exact .tmp rfl):Op1 P ⟨d,.entry x,ty,pos,aft,gd⟩ env res (Asn.tuple2 (tk.is p.1) (tv.is p.2)):=
 Op1.same fun a g hc=>by
  have hv:a.eval x= .pointer (some ⟨r,0,none⟩):=hx a g hc.henv;obtain ⟨_,h⟩:=hc.hres _ (bT hr);rcases h with ⟨_,_,h3⟩ | ⟨b,es,clock,since,seen,c0,L',h1,h2,h3,h4,h5,h6,h7,h8,h9⟩
  ·cases h3
  ·obtain ⟨rfl,e,he,s0,rfl,q4,q5⟩:=h9 p rfl;have hrun:=run_entry_at (P:=P) g.w r b since s0 es c0 e h6 h1.map he h2.2;refine ⟨.tuple #[e.key,e.val],?_,_,_,rfl,q4,q5⟩;simp only [execOp,hv];simp [hrun]
end
section
variable {α β γ:Type}
def AnyI(st:α→Option Bool)(b:Bool)(L:List α):Prop:=(∀ e∈L,∃ o,st e=some o∧(o=true→b=true))∧(b=true→∃ e∈L,st e=some true)
theorem uL{st:α→Option Bool}:∀ {m:List α} {b:Bool},anyM st m=some b→AnyI st b m
 | [],b,h=>by
  cases h;exact ⟨fun e he=>(by cases he),fun h=>(by cases h)⟩
 | x :: m,b,h=>by
  obtain ⟨o,ho,h⟩:=bind_some h;obtain ⟨b',hb,h⟩:=bind_some h;cases h;obtain ⟨h1,h2⟩:=uL hb;refine ⟨fun e he=>?_,fun hob=>?_⟩
  ·rcases List.mem_cons.1 he with rfl | he
   ·exact ⟨o,ho,fun h=>by rw [h];rfl⟩
   ·obtain ⟨o',q1,q2⟩:=h1 e he;exact ⟨o',q1,fun h=>by rw [q2 h,Bool.or_true]⟩
  ·rw [Bool.or_eq_true] at hob;rcases hob with h | h
   ·exact ⟨x,List.mem_cons_self,by rw [ho,h]⟩
   ·obtain ⟨e,he,q⟩:=h2 h;exact ⟨e,List.mem_cons_of_mem _ he,q⟩
theorem zS{st:α→Option Bool}{b:Bool}{L L2:List α}{e:α}(h:AnyI st b L)(hp:L.Perm (e :: L2)):∃ o,st e=some o∧(o=true→b=true)∧(o=false→AnyI st b L2):=by
 obtain ⟨h1,h2⟩:=h;obtain ⟨o,ho,hb⟩:=h1 e (hp.mem_iff.2 List.mem_cons_self);refine ⟨o,ho,hb,fun hf=>⟨fun e' he'=>h1 e' (hp.mem_iff.2 (List.mem_cons_of_mem _ he')),fun hbt=>?_⟩⟩;obtain ⟨e',he',q⟩:=h2 hbt;rcases List.mem_cons.1 (hp.mem_iff.1 he') with rfl | he'
 ·rw [ho,hf] at q;cases q
 ·exact ⟨e',he',q⟩
theorem Cw{st:α→Option Bool}{b:Bool}(h:AnyI st b []):¬ b=true:=fun hb=>by
 obtain ⟨e,he,_⟩:=h.2 hb;cases he
variable [DecidableEq α]
theorem Fp(v:β){c:List (α×β)}(hn:(c.map Prod.fst).Nodup)(x y:α):(mset (mset c x v) y v).Perm (mset (mset c y v) x v):=by
 by_cases hxy:x=y
 ·subst hxy;exact List.Perm.refl _
 have k1:=j4 x v c hn;have k2:=j4 y v c hn;have hasX:mhas (mset c y v) x=mhas c x:=by
  rw [Bool.eq_iff_iff,jM,jM];refine ⟨fun h=>(k2.2 x h).resolve_left hxy,fun h=>?_⟩;cases hy:mhas c y with
  | false=>rw [jb hy,List.map_append];exact List.mem_append_left _ h
  | true=>
   refine ((j3 hy hn).map Prod.fst).mem_iff.2 (List.mem_cons_of_mem _ ?_);obtain ⟨p,hp,he⟩:=List.mem_map.1 h;exact List.mem_map.2 ⟨p,List.mem_filter.2 ⟨hp,by simpa [he] using hxy⟩,he⟩
 have hasY:mhas (mset c x v) y=mhas c y:=by
  rw [Bool.eq_iff_iff,jM,jM];refine ⟨fun h=>(k1.2 y h).resolve_left (fun e=>hxy e.symm),fun h=>?_⟩;cases hx:mhas c x with
  | false=>rw [jb hx,List.map_append];exact List.mem_append_left _ h
  | true=>
   refine ((j3 hx hn).map Prod.fst).mem_iff.2 (List.mem_cons_of_mem _ ?_);obtain ⟨p,hp,he⟩:=List.mem_map.1 h;exact List.mem_map.2 ⟨p,List.mem_filter.2 ⟨hp,by simpa [he] using fun e:y=x=>hxy e.symm⟩,he⟩
 cases hx:mhas c x with
 | false=>
  cases hy:mhas c y with
  | false=>
   rw [jb (hasY.trans hy),jb hx,jb (hasX.trans hx),jb hy,List.append_assoc,List.append_assoc];exact (List.Perm.swap _ _ _).append_left c
  | true=>
   rw [jb (hasX.trans hx)];have e1:=j3 (v:=v) (hasY.trans hy) k1.1;rw [jb hx] at e1 ⊢;refine e1.trans ?_;rw [List.filter_append,List.filter_cons_of_pos (by simpa using hxy),List.filter_nil];exact ((j3 hy hn).symm.append_right _)
 | true=>
  cases hy:mhas c y with
  | false=>
   rw [jb (hasY.trans hy)];have e1:=j3 (v:=v) (hasX.trans hx) k2.1;rw [jb hy] at e1 ⊢;refine List.Perm.trans ?_ e1.symm;rw [List.filter_append,List.filter_cons_of_pos (by simpa using fun e:y=x=>hxy e.symm),List.filter_nil];exact ((j3 hx hn).append_right _)
  | true=>
   have e1:=(j3 (v:=v) (hasY.trans hy) k1.1).trans (((j3 hx hn).filter _).cons _);have e2:=(j3 (v:=v) (hasX.trans hx) k2.1).trans (((j3 hy hn).filter _).cons _);rw [List.filter_cons_of_pos (by simpa using hxy)] at e1;rw [List.filter_cons_of_pos (by simpa using fun e:y=x=>hxy e.symm)] at e2;refine e1.trans (List.Perm.trans (List.Perm.swap _ _ _) (List.Perm.trans ?_ e2.symm));refine ((List.Perm.of_eq ?_).cons _).cons _;rw [List.filter_filter,List.filter_filter];congr 1;funext p;exact Bool.and_comm _ _
def setF(v:β)(L:List (α×γ))(c:List (α×β)):List (α×β):=L.foldl (fun c e=>mset c e.1 v) c
theorem zT(v:β):∀ (L:List (α×γ)) {c c':List (α×β)},c.Perm c'→(c.map Prod.fst).Nodup→(setF v L c).Perm (setF v L c')
 | [],_,_,h,_=>h
 | e :: L,c,c',h,hn=>zT v L (zR h hn e.1 v) (j4 e.1 v c hn).1
theorem DX(v:β){L L':List (α×γ)}(h:L.Perm L'):∀ {c:List (α×β)},(c.map Prod.fst).Nodup→(setF v L c).Perm (setF v L' c):=by
 induction h with
 | nil=>intro c _;exact List.Perm.refl _
 | cons e h ih=>intro c hn;exact ih (j4 e.1 v c hn).1
 | swap a b l=>intro c hn;exact zT v l (Fp v hn b.1 a.1) (j4 _ _ _ (j4 _ _ _ hn).1).1
 | trans h k ih1 ih2=>intro c hn;exact (ih1 hn).trans (ih2 hn)
def SetI(v:β)(F:List (α×β))(L:List (α×γ))(c:List (α×β)):Prop:=(c.map Prod.fst).Nodup∧(setF v L c).Perm F
theorem DY{v:β}{m:List (α×γ)}{c F:List (α×β)}(hn:(c.map Prod.fst).Nodup)(h:setAll m v c=some F):SetI v F m c:=by
 cases h;exact ⟨hn,List.Perm.refl _⟩
theorem Fq{v:β}{F c:List (α×β)}{L L2:List (α×γ)}{e:α×γ}(h:SetI v F L c)(hp:L.Perm (e :: L2)):SetI v F L2 (mset c e.1 v):=
 ⟨(j4 e.1 v c h.1).1,(DX v hp h.1).symm.trans h.2⟩
theorem Gg{v:β}{F c:List (α×β)}(h:SetI (γ:=γ) v F [] c):c.Perm F:=h.2
end
section
variable {P:Program} {N:Nat} {g0:G} {T0:Nat→Prop} {env:Env} {res:Rs} {α β:Type} {tk:Ty α} {tv:Ty β}
theorem W.keysQ{c:Code}{ks:List KF}{B:Exit→Act→World→Prop}{m:List (α×β)}{b:Nat}(key:Nat)(hr:findR key res=some (Mq tk tv m b))(k:(m.map Prod.fst).Nodup→W P N g0 T0 c ks B env res):W P N g0 T0 c ks B env res:=
 fun a g h=>by
  obtain ⟨es,clock,_,_,h2⟩:=h.hres _ (bT hr);exact k h2.keys a g h
theorem WN.addNil{ks:List KF}{B:Exit→Act→World→Prop}{α:Type}{t:Ty α}{E:TypeId}(key:Nat)(h:WN P N g0 T0 ks B env ((key,Own t E none 0) :: res)):WN P N g0 T0 ks B env res:=fun a g hs=>h a g (hs.addNil key)
theorem WN.permQ{ks:List KF}{B:Exit→Act→World→Prop}{m F:List (α×β)}{b:Nat}(key:Nat)(h:m.Perm F)(hr:findR key res=some (Mq tk tv m b))(k:WN P N g0 T0 ks B env ((key,Mq tk tv F b) :: res.drop [key])):WN P N g0 T0 ks B env res:=
 fun a g hst=>k a g (St.turn (R':=Mq tk tv F b) hr (fun g hB=>by
  obtain ⟨es,clock,h1,h2,h3,m',h4,h5,h6⟩:=hB;exact ⟨es,clock,h1,h2,h3,m',h4.trans h,h5,h6⟩) (fun b hb=>hb) hst)
end
theorem aF.tU(k:Tok)(n:Nat):aF 1 false (tU k n):=fun v g ⟨hv,_⟩=>⟨[v],by rw [hv];rfl,rfl,fun _=>rfl,rfl,fun c hc=>by rw [List.mem_singleton.1 hc,hv];rfl⟩
theorem IK{k:Tok}{n n':Nat}(h:n=n'){v:Value}{g:G}(hA:(tU k n).holds v g):(tU k n').holds v g:=h▸hA
def Rw{α:Type}(t:Ty α)(k:Tok)(xs:List α):Res where
 blk:=fun _=>False
 holds:=fun g=>Row t g k.addr xs
 stay:=fun e _ h=>h.mono e
 lt:=fun _ h=>h.elim
theorem Jb{α:Type}{t:Ty α}{k:Tok}{xs:List α}{v:Value}{g:G}(h:(Rw t k xs).holds g)(hA:(tU k xs.length).holds v g):((tL t).is xs).holds v g:=
 En ⟨hA.1,hA.2.1,hA.2.2,h⟩
def Sd{α:Type}(t:Ty α)(u:α)(b:Nat):Res where
 blk:=fun _=>False
 holds:=fun g=>t.At g b 0 u
 stay:=fun e _ h=>h.mono e
 lt:=fun _ h=>h.elim
theorem Sd.ptr{α:Type}{t:Ty α}{u:α}{b:Nat}{v:Value}{g:G}(h:(Sd t u b).holds g)(hv:(Bp b 0).holds v g):(t.ptr u).holds v g:=⟨b,0,hv,h⟩
theorem All2.cv{A A':Asn}{As As':List Asn}{g:G}(h:∀ v,A.holds v g→A'.holds v g)(k:∀ vs,All2 As vs g→All2 As' vs g):∀ vs,All2 (A :: As) vs g→All2 (A' :: As') vs g
 | [],hv=>hv.elim
 | v :: vs,hv=>⟨h v hv.1,k vs hv.2⟩
theorem HZ{P:Program}{φ σ:Type}{ok:φ→σ→Prop}{As:σ→List Asn}{A:σ→Asn}{f:FuncId}{Cs Cs':List Asn}{u:φ}{v:Value}{g:G}(hcall:∀ as w,(callFunc f as).run P w= .ok (.enter f as) w)(h:∀ s,ok u s→FSpec P f (As s++Cs') (A s))
  (hc:∀ caps,All2 Cs caps g→All2 Cs' caps g) (hv:(cloA f Cs).holds v g):((tFun P ok As A).is u).holds v g:=by
 obtain ⟨caps,rfl,h2⟩:=hv;exact ⟨[_],⟨_,rfl,.inl ⟨f,#[],_,rfl,hcall,fun s hs=>Does.of (h s hs) (hc _ h2)⟩⟩,rfl⟩
section
variable {P:Program} {N:Nat} {g0:G} {T0:Nat→Prop} {env:Env} {res:Rs} {c:Code} {ks:List KF} {B:Exit→Act→World→Prop}
theorem W.fixR{α:Type}{t:Ty α}{E:TypeId}{k:Tok}{xs:List α}(key kF:Nat)(hr:findR key res=some (OwnU t E k xs))(h:W P N g0 T0 c ks B env ((kF,Rw t k xs) :: (key,Own t E k xs.length) :: res.drop [key])):W P N g0 T0 c ks B env res:=by
 intro a g hst;have hin:=bT hr;have hres:(OwnU t E k xs).holds g:=hst.hres _ hin;obtain ⟨e,hown,hrow⟩:=OwnU.fixd hres;have hd:∀ y∈res.drop [key],y∈res∧y.1≠key:=fun y hy=>by
  have:=List.mem_filter.1 hy;refine ⟨this.1,fun e=>?_⟩;have h3:=this.2;rw [iN.2 (show y.1∈ [key] by rw [e];simp)] at h3;cases h3
 refine h a (g.fixd k (xs.length*t.size)) ⟨hst.sz,hst.dfr,fun s A hA=>A.mono e (hst.henv s A hA),fun y hy=>?_,?_,fun b' ⟨y,hy,hb⟩=>?_,?_⟩
 ·rcases List.mem_cons.1 hy with rfl | hy
  ·exact hrow
  rcases List.mem_cons.1 hy with rfl | hy
  ·exact hown
  ·refine y.2.stay e (fun b' hb' hT=>?_) (hst.hres y (hd y hy).1);exact hst.dis.two y (hd y hy).1 _ hin (hd y hy).2 b' hb' hT
 ·refine List.pairwise_cons.2 ⟨fun y hy b' hb'=>hb'.elim,List.pairwise_cons.2 ⟨fun y hy b' hb'=>?_,hst.dis.filter _⟩⟩;exact hst.dis.two _ hin _ (hd y hy).1 (Ne.symm (hd y hy).2) b' hb'
 ·rcases List.mem_cons.1 hy with rfl | hy
  ·exact hb.elim
  rcases List.mem_cons.1 hy with rfl | hy
  ·exact hst.own b' ⟨_,hin,hb⟩
  ·exact hst.own b' ⟨y,(hd y hy).1,hb⟩
 ·refine hst.ext.trans e (fun x hx hT=>?_);rcases hst.own x ⟨_,hin,hT⟩ with h1 | h1
  ·omega
  ·exact h1
theorem W.boxG{n:Nat}{agg:Bool}{T:TypeId}{A:Asn}{b:Nat}(A':Asn)(key:Nat)(h1:findR key res=some (Bx n agg T A b))(hA:∀ v g,res.all g→A.holds v g→A'.holds v g)(k:W P N g0 T0 c ks B env ((key,Bx n agg T A' b) :: res.drop [key])):W P N g0 T0 c ks B env res:=
 fun a g h=>k a g (St.boxG h1 hA h)
theorem W.sealB{α:Type}{t:Ty α}{u:α}{T:TypeId}{b:Nat}(key kS:Nat)(hr:findR key res=some (Bx t.size t.agg T (t.is u) b))(h:W P N g0 T0 c ks B env ((kS,Sd t u b) :: res.drop [key])):W P N g0 T0 c ks B env res:=by
 intro a g hst;have hin:=bT hr;obtain ⟨cs,h1,h2,h3,h4,h5,cs',k1,k2⟩:=hst.hres _ hin;have hcs:cs=cs':=by
  have hl:=t.len k1;cases ha:t.agg with
  | true=>
   rw [ha] at k2;have:=congrArg Value.cells k2;simpa [mkVal,Value.cells] using this
  | false=>
   rw [ha] at k2;have hn:=t.sing ha;rw [hn] at h2 hl
   match cs,cs',h2,hl with
   | [c],[c'],_,_=>
    have:c=c':=k2;rw [this]
 subst hcs;have e:Ext (· =b) g ⟨g.w,fun x=>if x=b then t.size else g.S x⟩:=by
  refine ⟨rfl,rfl,rfl,Nat.le_refl _,fun x _ hn=>⟨rfl,?_⟩,fun x i v hv=>⟨?_,hv.2⟩,fun x n hv=>?_⟩
  ·show (if x=b then _ else _)=_;rw [if_neg hn]
  ·show i<(if x=b then _ else _);by_cases hx:x=b
   ·subst hx;have:=hv.1;omega
   ·rw [if_neg hx];exact hv.1
  ·by_cases hx:x=b
   ·subst hx;have:=hv.2;omega
   ·refine hv.same rfl ?_;show g.S x≤if x=b then _ else _;rw [if_neg hx];exact Nat.le_refl _
 refine h a ⟨g.w,fun x=>if x=b then t.size else g.S x⟩ ⟨hst.sz,hst.dfr,fun s A hA=>A.mono e (hst.henv s A hA),fun y hy=>?_,List.pairwise_cons.2 ⟨fun y hy b' hb'=>hb'.elim,hst.dis.filter _⟩,fun b' ⟨y,hy,hb⟩=>?_,?_⟩
 ·rcases List.mem_cons.1 hy with rfl | hy
  ·refine ⟨cs,t.mono e k1,fun j v hj=>⟨?_,?_⟩⟩
   ·show 0+j<(if b=b then _ else _);rw [if_pos rfl];have:=(List.getElem?_eq_some_iff.1 hj).1;omega
   ·show g.w.cell? ⟨b,0+j,none⟩=some v;rw [cell_of_row _ _ _ _ _ _ h1];simpa using hj
  have hy':=(List.mem_filter.1 hy)
  refine y.2.stay e (fun b' hb' hT=>?_) (hst.hres y hy'.1);have hne:y.1≠key:=fun e=>by
   have:=hy'.2;rw [e] at this;simp [memB,Nat.beq_refl] at this
  exact hst.dis.two y hy'.1 _ hin hne b' hb' (by rw [show b'=b from hT];rfl)
 ·rcases List.mem_cons.1 hy with rfl | hy
  ·exact hb.elim
  ·exact hst.own b' ⟨y,(List.mem_filter.1 hy).1,hb⟩
 ·refine hst.ext.trans e (fun x hx hT=>?_);rcases hst.own b ⟨_,hin,rfl⟩ with h1 | h1
  ·have:x=b:=hT;omega
  ·rw [show x=b from hT];exact h1
end
end Go.Dec
/-
  Shorter rules for printed walks: what Lean finds by itself is not printed.
-/
namespace Go.Dec
open Go
section
variable {P:Program} {N:Nat} {g0:G} {T0:Nat→Prop} {ks:List KF} {B:Exit→Act→World→Prop} {env:Env} {res:Rs} {ops:Array Oper} {Q:Exit→Act→World→Prop} {rest:List Oper}
theorem Opd.r{t:Nat}{A:Asn}(h:look t env=some A:=by exact rfl):Opd env (.tmp t) A:=Opd.tmp h
theorem Opd.s{l:Str}{s:ByteArray}(hs:s=Dec.str l:=by exact rfl)(h:l.length≤lim:=by decide):Opd env (.const (.string s)) (tS.is l):=.str hs h
theorem Co{A:Asn}{d:Nat}{op:Op}{ty:TypeId}{pos:String}{aft:Array Edge}(h:Op1 P ⟨some d,op,ty,pos,aft,none⟩ env res A)
  (k:WL P N g0 T0 ops Q rest ((d,A) :: env) res) (hd:Nat.blt d N=true:=by exact rfl):WL P N g0 T0 ops Q (⟨some d,op,ty,pos,aft,none⟩ :: rest) env res:=WL.op hd h k
theorem Cm{d t:Nat}{A:Asn}{ty:TypeId}{pos:String}{aft:Array Edge}(h:look t env=some A)(k:WL P N g0 T0 ops Q rest ((d,A) :: env) res)(hd:Nat.blt d N=true:=by exact rfl):WL P N g0 T0 ops Q (⟨some d,.move (.tmp t),ty,pos,aft,none⟩ :: rest) env res:=WL.mv h hd k
theorem Cg{d t:Nat}{A:Asn}{ty:TypeId}{pos:String}{aft:Array Edge}(h:look t env=some A)(k:WL P N g0 T0 ops Q rest ((d,A) :: env) res)(hd:Nat.blt d N=true:=by exact rfl):WL P N g0 T0 ops Q (⟨some d,.assign (.tmp t),ty,pos,aft,none⟩ :: rest) env res:=WL.gv h hd k
theorem Cp{j dj:Nat}{want b:Bool}{oj:Oper}{d:Nat}{op:Op}{ty:TypeId}{pos:String}{aft:Array Edge}(hb:b= !want)(k:WL P N g0 T0 ops Q rest ((d,Un) :: env) res)
  (h:(ops[j]?,oj.dst,look dj env,Nat.blt dj N,Nat.blt d N)=(some oj,some dj,some (tB.is b),true,true):=by exact rfl):WL P N g0 T0 ops Q (⟨some d,op,ty,pos,aft,some (j,want)⟩ :: rest) env res:=by
 simp only [Prod.mk.injEq] at h;exact WL.pass rfl h.1 h.2.1 h.2.2.1 hb h.2.2.2.1 h.2.2.2.2 k
theorem Cy{j dj:Nat}{want b:Bool}{oj:Oper}{d:Nat}{op:Op}{ty:TypeId}{pos:String}{aft:Array Edge}{A:Asn}(hb:b=want)(h1:Op1 P ⟨some d,op,ty,pos,aft,some (j,want)⟩ env res A)(k:WL P N g0 T0 ops Q rest ((d,A) :: env) res)
  (h:(ops[j]?,oj.dst,look dj env,Nat.blt dj N,Nat.blt d N)=(some oj,some dj,some (tB.is b),true,true):=by exact rfl):WL P N g0 T0 ops Q (⟨some d,op,ty,pos,aft,some (j,want)⟩ :: rest) env res:=by
 simp only [Prod.mk.injEq] at h;exact WL.run rfl h.1 h.2.1 h.2.2.1 hb h.2.2.2.1 h.2.2.2.2 h1 k
theorem Cr{ρ:Type}{A:ρ→Asn}{out:ρ→Rs}{d:Nat}{op:Op}{ty:TypeId}{pos:String}{aft:Array Edge}{us:List Nat}(h:OpR P ⟨some d,op,ty,pos,aft,none⟩ env res us A out)
  (k:∀ x,WL P N g0 T0 ops Q rest ((d,A x) :: env) (out x++res.drop us)) (hd:Nat.blt d N=true:=by exact rfl):WL P N g0 T0 ops Q (⟨some d,op,ty,pos,aft,none⟩ :: rest) env res:=WL.opR hd h k
theorem Op1.pT{d:Option Tmp}{ty:TypeId}{pos:String}{aft:Array Edge}{gd:Option (Nat×Bool)}{x y z:Operand}{b:Bool}{A:Asn}(hb:b=true)(hy:Opd env y A:=by exact .tmp rfl)(hx:Opd env x (tB.is b):=by exact .tmp rfl):Op1 P ⟨d,.pick x y z,ty,pos,aft,gd⟩ env res A:=.pickT hx hb hy
theorem Op1.pF{d:Option Tmp}{ty:TypeId}{pos:String}{aft:Array Edge}{gd:Option (Nat×Bool)}{x y z:Operand}{b:Bool}{A:Asn}(hb:b=false)(hz:Opd env z A:=by exact .tmp rfl)(hx:Opd env x (tB.is b):=by exact .tmp rfl):Op1 P ⟨d,.pick x y z,ty,pos,aft,gd⟩ env res A:=.pickF hx hb hz
theorem Op1.fA{α β:Type}{s:Ty α}{t:Ty β}{f:α→β}{T:TypeId}{fs:Array Field}{fd:Field}{n:Nat}{x:Operand}{u:α}{d:Option Tmp}{ty:TypeId}{pos:String}{aft:Array Edge}{gd:Option (Nat×Bool)}(hT:P.underlying T=some (.struct fs))
  (hz:∀ w,∃ m,(sizeOf fd.type).run P w= .ok (m+1) w) (hF:Fld s fd.offset t f) (h:Opd env x (s.ptr u):=by exact .tmp rfl) (hf:fs[n]? =some fd:=by exact rfl):Op1 P ⟨d,.fieldAddr T x n,ty,pos,aft,gd⟩ env res (t.ptr (f u)):=.fieldAddr hT hf hz hF h
end
section
variable {c:Prop} {P:Program} {l:List Oper} {d:Option Tmp} {op:Op} {ty:TypeId} {pos:String} {aft:Array Edge} {j:Nat} {want b:Bool} {oj:Oper} {dj:Nat} {e:Env} {res:Rs} {A:Asn}
theorem Er(hb:b=want)(h1:Op1 P ⟨d,op,ty,pos,aft,some (j,want)⟩ e res A)(h:(l[j]?,oj.dst,look dj e)=(some oj,some dj,some (tB.is b)):=by exact rfl):c∨DObl P l ⟨d,op,ty,pos,aft,some (j,want)⟩ e res A:=Dr h hb h1
theorem Ep(hb:b= !want)(h:(l[j]?,oj.dst,look dj e)=(some oj,some dj,some (tB.is b)):=by exact rfl):c∨DObl P l ⟨d,op,ty,pos,aft,some (j,want)⟩ e res Un:=Dp h hb
end
section
variable {P:Program} {N:Nat} {g0:G} {T0:Nat→Prop} {ks:List KF} {B:Exit→Act→World→Prop} {env:Env} {res:Rs}
theorem W.lp{σ:Type}{c:Code}(I:Nat→σ→Prop)(eI:σ→Env)(rI:σ→Rs)(n0:Nat)(s0:σ)(h0:I n0 s0)
  (round:∀ n s,I n s→W P N g0 T0 c (.loop (fun a w=>∃ n' s' g,n'< n∧I n' s'∧g.w=w∧St N g0 T0 (eI s') (rI s') a g) :: ks) B (eI s) (rI s))
  (hs:Sub (eI s0) env:=by repeat' first | exact trivial | refine ⟨.q rfl,?_⟩) (hr:RSub (rI s0) res:=by repeat' first | exact trivial | refine ⟨rfl,rfl,?_⟩):W P N g0 T0 (.loop c) ks B env res:=W.loop I eI rI n0 s0 h0 hs hr round
theorem WN.ag{σ:Type}{I:Nat→σ→Prop}{eI:σ→Env}{rI:σ→Rs}{n:Nat}(n':Nat)(s':σ)(hn:n'< n)(hI:I n' s')
  (hs:Sub (eI s') env:=by repeat' first | exact trivial | refine ⟨.q rfl,?_⟩) (hr:RSub (rI s') res:=by repeat' first | exact trivial | refine ⟨rfl,rfl,?_⟩) :
  WN P N g0 T0 (.loop (fun a w=>∃ n' s' g,n'< n∧I n' s'∧g.w=w∧St N g0 T0 (eI s') (rI s') a g) :: ks) B env res:=WN.again n' s' hn hI hs hr
theorem WN.mt{σ:Type}{J:σ→Prop}{eJ:σ→Env}{rJ:σ→Rs}(s:σ)(hJ:J s)
  (hs:Sub (eJ s) env:=by repeat' first | exact trivial | refine ⟨.q rfl,?_⟩) (hr:RSub (rJ s) res:=by repeat' first | exact trivial | refine ⟨rfl,rfl,?_⟩) :
  WN P N g0 T0 (.loop (fun a w=>∃ s g,J s∧g.w=w∧St N g0 T0 (eJ s) (rJ s) a g) :: ks) B env res:=WN.meet s hJ hs hr
theorem W.wR{c:Code}(res':Rs)(h:W P N g0 T0 c ks B env res')(hr:RSub res' res:=by repeat' first | exact trivial | refine ⟨rfl,rfl,?_⟩):W P N g0 T0 c ks B env res:=W.weakR hr h
theorem W.d0{id:Nat}{l:List Oper}(As:List (DA Unit))(ps:List (List Nat×List Nat))(hm:P.follows .mixedOrders=true)(hops:DOps P () l As env res l.length 0 l As ps)
  (k:WN P N g0 T0 ks B (outEnv () l As++env) res)
  (hchk:chkD N l (As.map DA.late) l.length 0 l ps=true:=by exact rfl) (hdst:dstsD l=true:=by exact rfl) (hlen:As.length=l.length:=by exact rfl) (hlate:As.all (fun A=>!A.late)=true:=by exact rfl):W P N g0 T0 (.region id l.toArray true) ks B env res:=
 W.draw As ps hm hchk hdst hlen hlate hops k
theorem W.dM{id:Nat}{l:List Oper}(As:List (DA Val))(ps:List (List Nat×List Nat))(es:List Nat)(D:List (List Bool))(Rm:Nat→Val→Rs)(hm:P.follows .mixedOrders=true)
  (hops:MOps P l As env es Rm 0 l As ps) (heff:MEff P l As ps env Rm 0 es)
  (k:∀ c,WN P N g0 T0 ks B (outEnv c l As++env) (Rm es.length c))
  (hchk:mChk N l 0 l ps=true:=by exact rfl) (hdst:dstsD l=true:=by exact rfl) (hlen:As.length=l.length:=by exact rfl) (hes:esChk l es=true:=by exact rfl) (hdc:depChk l D es 0 l D=true:=by exact rfl)
  (hdep:DepOk As D:=by repeat' first | exact trivial | refine ⟨fun _ _ _ _=>rfl,?_⟩ | refine ⟨fun m hm c t=>by simp only [DA.at,lq (r:=[true]) (j:=0) rfl hm],?_⟩) (hR0:Rm 0 (fun _=>none)=res:=by exact rfl):W P N g0 T0 (.region id l.toArray true) ks B env res:=
 W.drawM As ps es D Rm (fun _=>none) hm hchk hdst hlen hes hdc hdep hR0 hops heff k
end
section
variable {P:Program} {N:Nat} {g0:G} {ks:List KF} {env:Env} {res rin:Rs} {fn:Func} {A:Unit→Asn} {out:Unit→Rs}
theorem W.e1{t:Tmp}(hr:fn.results= #[.tmp t]:=by exact rfl)(h:Opd env (.tmp t) (A ()):=by exact .tmp rfl)(hs:RSub (out ()) res:=by repeat' first | exact trivial | refine ⟨rfl,rfl,?_⟩):W P N g0 rin.blks .ret ks (Bo P fn g0 rin A out) env res:=W.ret1 () hr h hs
end
end Go.Dec
