/-
  Maps that the call has made itself, as lists of pairs in the order of their first writing.
-/
import Derived.Test.YtalogjkalmkpjaaGreatDoorDec18
import Derived.MapKept
set_option linter.unusedVariables false
set_option linter.unusedSimpArgs false
namespace Go.Dec
open Go
def Ents{α β:Type}(tk:Ty α)(tv:Ty β)(g:G):List MapEntry→List (α×β)→Prop
 | [],[]=>True
 | e :: es,p :: m=>(tk.is p.1).holds e.key g∧(tv.is p.2).holds e.val g∧Ents tk tv g es m
 | _,_=>False
theorem Ents.mono{α β:Type}{tk:Ty α}{tv:Ty β}{T:Nat→Prop}{g g':G}(e:Ext T g g'):∀ {es:List MapEntry} {m:List (α×β)},Ents tk tv g es m→Ents tk tv g' es m
 | [],[],_=>trivial
 | x :: es,p :: m,⟨h1,h2,h3⟩=>⟨(tk.is p.1).mono e h1,(tv.is p.2).mono e h2,Ents.mono e h3⟩
 | [],_ :: _,h=>h.elim
 | _ :: _,[],h=>h.elim
theorem Ents.len{α β:Type}{tk:Ty α}{tv:Ty β}{g:G}:∀ {es:List MapEntry} {m:List (α×β)},Ents tk tv g es m→es.length=m.length
 | [],[],_=>rfl
 | x :: es,p :: m,⟨_,_,h3⟩=>by simp [Ents.len h3]
 | [],_ :: _,h=>h.elim
 | _ :: _,[],h=>h.elim
def Mp{α β:Type}(tk:Ty α)(tv:Ty β)(m:List (α×β))(b:Nat):Res where
 blk:=fun x=>some b=some x
 holds:=fun g=>∃ es clock,g.w.heap[b]? =some (.map es clock)∧g.S b=0∧Ents tk tv g es.toList m
 stay:=fun {T g g'} e hn ⟨es,c,h1,h0,h2⟩=>by
  have hlt:=(Array.getElem?_eq_some_iff.1 h1).1
  have:=e.same b hlt (hn b rfl)
  exact ⟨es,c,this.1.trans h1,this.2.trans h0,h2.mono e⟩
 lt:=fun {g b'} ⟨es,c,h1,_⟩ hb=>by
  cases hb
  exact (Array.getElem?_eq_some_iff.1 h1).1
def Mv(b:Nat):Asn:=Asn.eq (.map (some b))
def findAt{α:Type}[DecidableEq α](x:α):List α→List MapEntry→Nat→Option (Nat×Value)
 | y :: ys,e :: es,i=>if x=y then some (i,e.val) else findAt x ys es (i+1)
 | _,_,_=>none
structure KeyT (P:Program) {α:Type} [DecidableEq α] (T:TypeId) (t:Ty α):Prop where
 chk:∀ {g:G} {cs:List Value} {x:α},t.rep g cs x→∀ e w,(Instr.checkKey e 10000 T (mkVal t.agg cs)).run P w= .ok () w
 find:∀ {β:Type} {tv:Ty β} {g:G} {cs:List Value} {x:α} {es:List MapEntry} {m:List (α×β)},t.rep g cs x→Ents t tv g es m→∀ w,(Instr.findKey T (mkVal t.agg cs) es).run P w= .ok (findAt x (m.map Prod.fst) es 0) w
section
variable {P:Program}
theorem findAsking_run{α β:Type}[DecidableEq α]{T:TypeId}{t:Ty α}{tv:Ty β}{D:Nat}(h:EqT P T t D)(hD:D≤10000){g:G}{cs:List Value}{x:α}(hx:t.rep g cs x) :
  ∀ (es:List MapEntry) (m:List (α×β)),Ents t tv g es m→∀ i w,(Instr.findAsking T (mkVal t.agg cs) es i).run P w= .ok (findAt x (m.map Prod.fst) es i) w
 | [],[],_,i,w=>by simp [Instr.findAsking,findAt]
 | e :: es,p :: m,⟨⟨ds,h1,h2⟩,_,h3⟩,i,w=>by
  have heq:(Op.equal T (mkVal t.agg cs) e.key).run P w= .ok (decide (x=p.1)) w:=by rw [h2];exact h.eq hx h1 10000 hD w
  simp only [Instr.findAsking,Sem.run_bind,heq,Result.andThen_ok,List.map_cons,findAt]
  by_cases hp:x=p.1
  ·simp [hp]
  ·rw [if_neg hp]
   simp only [hp,decide_false,Bool.false_eq_true,if_false]
   exact findAsking_run h hD hx es m h3 (i+1) w
 | [],_ :: _,h,_,_=>h.elim
 | _ :: _,[],h,_,_=>h.elim
def CkL(P:Program){α:Type}(s:Ty α)(n:Nat):List Field→Prop
 | []=>True
 | f :: fs=>(∃ (β:Type) (t:Ty β) (p:α→β),TyAt P f.type t∧Fld s f.offset t p∧ ∀ {g:G} {cs:List Value} {x:β},t.rep g cs x→∀ e w,(Instr.checkKey e n f.type (mkVal t.agg cs)).run P w= .ok () w)∧CkL P s n fs
theorem ck_int{T:TypeId}{k:IntKind}(hT:P.underlying T=some (.int k))(n:Nat){g:G}{cs:List Value}{x:Int}(h:(tI k).rep g cs x)(e:Bool)(w:World):(Instr.checkKey e (n+1) T (mkVal (tI k).agg cs)).run P w= .ok () w:=by
 rw [h.1]
 show (Instr.checkKey e (n+1) T (.int k x)).run P w=_
 simp [Instr.checkKey,run_underlying hT]
theorem ck_string{T:TypeId}(hT:P.underlying T=some .string)(n:Nat){g:G}{cs:List Value}{x:Str}(h:tS.rep g cs x)(e:Bool)(w:World):(Instr.checkKey e (n+1) T (mkVal tS.agg cs)).run P w= .ok () w:=by
 rw [h.1]
 show (Instr.checkKey e (n+1) T (.string (Dec.str x))).run P w=_
 simp [Instr.checkKey,run_underlying hT]
theorem ck_struct{α:Type}{s:Ty α}{T:TypeId}{fs:Array Field}{n:Nat}(hs:s.agg=true)(hT:P.underlying T=some (.struct fs))(h:CkL P s n fs.toList){g:G}{cs:List Value}{x:α}(hx:s.rep g cs x)(e:Bool)(w:World) :
  (Instr.checkKey e (n+1) T (mkVal s.agg cs)).run P w= .ok () w:=by
 rw [hs]
 show (Instr.checkKey e (n+1) T (.agg cs.toArray)).run P w=_
 rw [Instr.checkKey]
 simp only [Sem.run_bind,run_underlying hT,Result.andThen_ok]
 rw [←Array.forIn_toList]
 generalize fs.toList=L at h
 induction L with
 | nil=>simp
 | cons f L ih=>
  obtain ⟨⟨β,t,p,h1,h2,h3⟩,h4⟩:=h
  obtain ⟨ds,hd,hp⟩:=part_fld h1 h2 hx
  have hc:=h3 hd e w
  simp only [List.forIn_cons,Sem.run_bind,Result.andThen_ok]
  by_cases hn:f.name= "_"
  ·simp only [hn,ne_eq,not_true_eq_false,if_false,Sem.run_pure,Result.andThen_ok]
   exact ih h4
  ·simp only [hn,ne_eq,not_false_eq_true,if_true,Sem.run_bind,hp,hc,Result.andThen_ok,Sem.run_pure]
   exact ih h4
theorem KeyT.struct{α:Type}[DecidableEq α]{s:Ty α}{T:TypeId}{fs:Array Field}{D:Nat}(h:EqT P T s D)(hD:D≤10000)(hs:s.agg=true)(hT:P.underlying T=some (.struct fs))(hc:CkL P s 9999 fs.toList):KeyT P T s:=by
 refine ⟨fun hx e w=>ck_struct hs hT hc hx e w,fun {β tv g cs x es m} hx hE w=>?_⟩
 have:(Instr.findKey T (mkVal s.agg cs) es).run P w=(Instr.findAsking T (mkVal s.agg cs) es).run P w:=by
  cases es with
  | nil=>simp [Instr.findKey,run_underlying hT,Instr.findNow,Instr.findAsking]
  | cons e es=>simp [Instr.findKey,run_underlying hT,Instr.findNow,Instr.sameNow]
 rw [this]
 exact findAsking_run h hD hx es m hE 0 w
theorem findNow_run{α β:Type}[DecidableEq α]{t:Ty α}{tv:Ty β}{k:TypeDesc}{g:G}{cs:List Value}{x:α}(hx:t.rep g cs x)(hs:∀ ds y,t.rep g ds y→Instr.sameNow k (mkVal t.agg cs) (mkVal t.agg ds)=some (decide (x=y))) :
  ∀ (es:List MapEntry) (m:List (α×β)),Ents t tv g es m→∀ i,Instr.findNow k (mkVal t.agg cs) es i=some (findAt x (m.map Prod.fst) es i)
 | [],[],_,i=>by simp [Instr.findNow,findAt]
 | e :: es,p :: m,⟨⟨ds,h1,h2⟩,_,h3⟩,i=>by
  have:=hs ds p.1 h1
  rw [←h2] at this
  simp only [Instr.findNow,this,List.map_cons,findAt]
  by_cases hp:x=p.1
  ·simp [hp]
  ·rw [if_neg hp]
   simp only [hp,decide_false]
   exact findNow_run hx hs es m h3 (i+1)
 | [],_ :: _,h,_=>h.elim
 | _ :: _,[],h,_=>h.elim
theorem KeyT.int{T:TypeId}{k:IntKind}(hT:P.underlying T=some (.int k)):KeyT P T (tI k):=by
 refine ⟨fun hx e w=>ck_int hT 9999 hx e w,fun {β tv g cs x es m} hx hE w=>?_⟩
 have hn:=findNow_run (k:=.int k) hx (fun ds y hy=>by
  rw [hx.1,hy.1]
  show Instr.sameNow (.int k) (.int k x) (.int k y)=_
  simp only [Instr.sameNow,if_true]
  congr 1) es m hE 0
 simp [Instr.findKey,run_underlying hT,hn]
theorem KeyT.string{T:TypeId}(hT:P.underlying T=some .string):KeyT P T tS:=by
 refine ⟨fun hx e w=>ck_string hT 9999 hx e w,fun {β tv g cs x es m} hx hE w=>?_⟩
 have hn:=findNow_run (k:=.string) hx (fun ds y hy=>by
  rw [hx.1,hy.1]
  show Instr.sameNow .string (.string (Dec.str x)) (.string (Dec.str y))=_
  simp only [Instr.sameNow]
  congr 1
  by_cases h:x=y
  ·subst h;simp [MapKept.bytes_beq]
  ·have hne:Dec.str x≠Dec.str y:=fun e=>h (by
    have:=congrArg (fun b:ByteArray=>b.data.toList) e
    simpa [Dec.str] using this)
   have hb:¬ (Dec.str x==Dec.str y)=true:=fun e=>hne (by simpa [MapKept.bytes_beq] using e)
   simp [h,hb]) es m hE 0
 simp [Instr.findKey,run_underlying hT,hn]
theorem find_get{α β:Type}[DecidableEq α]{tk:Ty α}{tv:Ty β}{g:G}(x:α)(v:β)(z:β):∀ (es:List MapEntry) (m:List (α×β)) (i:Nat),Ents tk tv g es m→
  (findAt x (m.map Prod.fst) es i=none∧mget m x z=z∧mhas m x=false∧mset m x v=m++ [(x,v)])∨
  (∃ j e,findAt x (m.map Prod.fst) es i=some (i+j,e.val)∧es[j]? =some e∧(tk.is x).holds e.key g∧(tv.is (mget m x z)).holds e.val g∧mhas m x=true∧
   ∀ key' val',(tk.is x).holds key' g→(tv.is v).holds val' g→Ents tk tv g (es.modify j (fun e=>{e with key:=key',val:=val'})) (mset m x v))
 | [],[],i,_=>.inl ⟨rfl,rfl,rfl,rfl⟩
 | e :: es,p :: m,i,⟨h1,h2,h3⟩=>by
  by_cases hp:x=p.1
  ·refine .inr ⟨0,e,by simp [findAt,hp],rfl,by rw [hp];exact h1,by simpa [mget,hp] using h2,by simp [mhas,hp],fun key' val' hk hv=>?_⟩
   simp only [mset,if_pos hp]
   exact ⟨hk,hv,h3⟩
  ·rcases find_get x v z es m (i+1) h3 with ⟨k1,k2,k3,k4⟩ | ⟨j,e',k1,k2,k3,k4,k5,k6⟩
   ·refine .inl ⟨by simp only [List.map_cons,findAt,if_neg hp];exact k1,by simpa [mget,hp] using k2,by simpa [mhas,hp] using k3,by simp [mset,hp,k4]⟩
   ·refine .inr ⟨j+1,e',by simp only [List.map_cons,findAt,if_neg hp];rw [k1];congr 2;omega,by simpa using k2,k3,by simpa [mget,hp] using k4,by simpa [mhas,hp] using k5,fun key' val' hk hv=>?_⟩
    simp only [mset,if_neg hp]
    exact ⟨h1,h2,k6 key' val' hk hv⟩
 | [],_ :: _,_,h=>h.elim
 | _ :: _,[],_,h=>h.elim
theorem Ents.append{α β:Type}{tk:Ty α}{tv:Ty β}{g:G}{e:MapEntry}{p:α×β}(h1:(tk.is p.1).holds e.key g)(h2:(tv.is p.2).holds e.val g):∀ {es:List MapEntry} {m:List (α×β)},Ents tk tv g es m→Ents tk tv g (es++ [e]) (m++ [p])
 | [],[],_=>⟨h1,h2,trivial⟩
 | x :: es,q :: m,⟨k1,k2,k3⟩=>⟨k1,k2,Ents.append h1 h2 k3⟩
 | [],_ :: _,h=>h.elim
 | _ :: _,[],h=>h.elim
end
section
variable {P:Program} {N:Nat} {g0:G} {T0:Nat→Prop} {env:Env} {res:Rs} {d:Option Tmp} {ty:TypeId} {pos:String} {aft:Array Edge} {gd:Option (Nat×Bool)} {α β:Type} {tk:Ty α} {tv:Ty β}
theorem OpR.makeMap{T:TypeId}(tk:Ty α)(tv:Ty β)(key:Nat):OpR P ⟨d,.makeMap T none,ty,pos,aft,gd⟩ env res [] (fun b:Nat=>Mv b) (fun b=>[(key,Mp tk tv [] b)]):=by
 intro a g K Q hc hd hK
 have hrun:(execOp a.eval ⟨d,.makeMap T none,ty,pos,aft,gd⟩).run P g.w= .ok (.value (.map (some g.w.heap.size))) (g.alloc (.map #[] 0) 0).w:=by simp [execOp,Instr.makeMap,G.alloc]
 show Oper.upon P _ a K Q ((execOp a.eval _).run P g.w)
 rw [hrun]
 refine hK g.w.heap.size _ (g.alloc (.map #[] 0) 0) (Ext.alloc _ _ _ _) rfl (fun y hy=>?_) (List.pairwise_singleton _ _) (fun b hb=>.inr (by rw [(blks_one rfl).1 hb];exact Nat.le_refl _))
 rw [List.mem_singleton.1 hy]
 exact ⟨#[],0,heap_alloc_new g.w _,by show (if g.w.heap.size=g.w.heap.size then 0 else _)=0;rw [if_pos rfl],trivial⟩
end
section
variable {P:Program} {N:Nat} {g0:G} {T0:Nat→Prop} {env:Env} {res:Rs} {d:Option Tmp} {ty:TypeId} {pos:String} {aft:Array Edge} {gd:Option (Nat×Bool)} {α β:Type} [DecidableEq α] {tk:Ty α} {tv:Ty β}
theorem Op1.lookup{T k e:TypeId}{m:List (α×β)}{z:β}{u:α}{b:Nat}{x y:Operand}(key:Nat)(hT:P.underlying T=some (.map k e))(hk:KeyT P k tk)(hz:ZeroAt P e tv z)(hr:findR key res=some (Mp tk tv m b))(hx:Opd env x (Mv b))(hy:Opd env y (tk.is u)) :
  Op1 P ⟨d,.lookup T x y false,ty,pos,aft,gd⟩ env res (tv.is (mget m u z)):=
 Op1.same fun a g hc=>by
  obtain ⟨es,clock,h1,_,h2⟩:=hc.hres _ (findR_mem hr)
  have hv:a.eval x= .map (some b):=hx a g hc.henv
  obtain ⟨cs,hu,hyv⟩:=hy a g hc.henv
  obtain ⟨zv,hz1,hz2⟩:=hz.zero
  have hck:=hk.chk hu es.isEmpty g.w
  have hf:=hk.find hu h2 g.w
  rcases find_get (tk:=tk) (tv:=tv) (g:=g) u z z es.toList m 0 h2 with ⟨k1,k2,_,_⟩ | ⟨j,en,k1,k2,k3,k4,_,_⟩
  ·rw [k1] at hf
   refine ⟨zv,by simp [execOp,hv,hyv,Instr.lookup,run_underlying hT,MapKept.run_getObj_map h1,hck,hf,hz1],?_⟩
   rw [k2];exact hz2 g
  ·rw [k1] at hf
   exact ⟨en.val,by simp [execOp,hv,hyv,Instr.lookup,run_underlying hT,MapKept.run_getObj_map h1,hck,hf],k4⟩
theorem growC_lim{n:Nat}{u:Unit}(h:growC (n:Int)=some u):n≤lim:=by
 unfold growC at h
 split at h
 ·unfold lim;omega
 ·cases h
theorem OpR.mapUpdate{T k e:TypeId}{m:List (α×β)}{u:α}{v:β}{b:Nat}{x y z:Operand}(key:Nat)(hT:P.underlying T=some (.map k e))(hk:KeyT P k tk)(hr:res.pick [key]= [(key,Mp tk tv m b)])(hx:Opd env x (Mv b))(hy:Opd env y (tk.is u))(hz:Opd env z (tv.is v)) :
  OpR P ⟨none,.mapUpdate T x y z,ty,pos,aft,gd⟩ env res [key] (fun _:Unit=>Asn.any) (fun _=>[(key,Mp tk tv (mset m u v) b)]):=by
 intro a g K Q hc hd hK
 have hin:(key,Mp tk tv m b)∈res:=by
  have:(key,Mp tk tv m b)∈res.pick [key]:=by rw [hr];exact List.mem_singleton.2 rfl
  exact (List.mem_filter.1 this).1
 obtain ⟨es,clock,h1,h0,h2⟩:=hc.hres _ hin
 have hv:a.eval x= .map (some b):=hx a g hc.henv
 have hyk:=hy a g hc.henv
 obtain ⟨cs,hu,hyv⟩:=hyk
 have hzv:=hz a g hc.henv
 have hck:=hk.chk hu false g.w
 have hf:=hk.find hu h2 g.w
 have hlt:=(Array.getElem?_eq_some_iff.1 h1).1
 -- what follows from the block's new contents
 have fin:∀ (w':World) (es':Array MapEntry) (c':Nat),(∀ (w0:World),(w0=g.w∨w0=g.w.drew)→w'= {w0 with heap:=w0.heap.setIfInBounds b (.map es' c')}→(execOp a.eval ⟨none,.mapUpdate T x y z,ty,pos,aft,gd⟩).run P g.w= .ok .skip w'→Ents tk tv g es'.toList (mset m u v)→
   Oper.wp P ⟨none,.mapUpdate T x y z,ty,pos,aft,gd⟩ a g.w K Q):=by
  intro w' es' c' w0 hw0 hw' hrun hE
  have hos:w0.os=g.w.os∧w0.tape=g.w.tape∧w0.output=g.w.output∧w0.heap=g.w.heap:=by rcases hw0 with rfl | rfl<;> exact ⟨rfl,rfl,rfl,rfl⟩
  obtain ⟨o1,o2,o3,o4⟩:=hos
  have hheap:w'.heap=g.w.heap.setIfInBounds b (.map es' c'):=by rw [hw',←o4]
  have e:Ext (· =b) g ⟨w',g.S⟩:=by
   refine ext_of g.S (by rw [hw'];exact o1) (by rw [hw'];exact o2) (by rw [hw'];exact o3) (by rw [hheap];simp) (fun x' _ hne=>⟨?_,rfl⟩) (fun x' hx'=>by rw [show x'=b from hx'];exact h0)
   rw [hheap]
   simp [Array.getElem?_setIfInBounds,Ne.symm hne]
  show Oper.upon P _ a K Q ((execOp a.eval _).run P g.w)
  rw [hrun]
  refine hK () undef ⟨w',g.S⟩ (e.mono (fun x hx=>by rw [hr];exact (blks_one rfl).2 hx)) trivial (fun y hy=>?_) (List.pairwise_singleton _ _) (fun b' hb'=>.inl (by rw [hr];exact (blks_one rfl).2 ((blks_one rfl).1 hb')))
  rw [List.mem_singleton.1 hy]
  refine ⟨es',c',?_,h0,hE.mono e⟩
  show w'.heap[b]? =_
  rw [hheap];simp [hlt]
 rcases find_get (tk:=tk) (tv:=tv) (g:=g) u v v es.toList m 0 h2 with ⟨k1,_,_,k4⟩ | ⟨j,en,k1,k2,k3,_,_,k6⟩
 ·rw [k1] at hf
  refine fin _ (es.push ⟨mkVal tk.agg cs,a.eval z,clock⟩) (clock+1) g.w (.inl rfl) rfl ?_ ?_
  ·simp [execOp,hv,hyv,Instr.mapUpdate,run_underlying hT,MapKept.run_getObj_map h1,hck,hf,MapKept.run_setObj_map _ h1]
  ·rw [k4,Array.toList_push]
   exact Ents.append (p:=(u,v)) ⟨cs,hu,rfl⟩ hzv h2
 ·rw [k1,Nat.zero_add] at hf
  have hej:es[j]? =some en:=by simpa using k2
  by_cases hs:Instr.sameBits 10000 en.key (mkVal tk.agg cs)=true
  ·refine fin _ (es.modify j (fun e=>{e with key:=mkVal tk.agg cs,val:=a.eval z})) clock g.w (.inl rfl) rfl ?_ ?_
   ·simp [execOp,hv,hyv,Instr.mapUpdate,run_underlying hT,MapKept.run_getObj_map h1,hck,hf,hej,Instr.keyThatStays,hs,MapKept.run_setObj_map _ h1]
   ·rw [Array.toList_modify]
    exact k6 _ _ ⟨cs,hu,rfl⟩ hzv
  ·have h1':g.w.drew.heap[b]? =some (.map es clock):=h1
   by_cases hq:(Question.extern "map.whichKeyStays" 2).cut (g.w.tape g.w.drawn (.extern "map.whichKeyStays" 2))=0
   ·refine fin _ (es.modify j (fun e=>{e with key:=mkVal tk.agg cs,val:=a.eval z})) clock g.w.drew (.inr rfl) rfl ?_ ?_
    ·simp [execOp,hv,hyv,Instr.mapUpdate,run_underlying hT,MapKept.run_getObj_map h1,hck,hf,hej,Instr.keyThatStays,hs,hq,MapKept.run_setObj_map _ h1',Question.forced]
    ·rw [Array.toList_modify]
     exact k6 _ _ ⟨cs,hu,rfl⟩ hzv
   ·refine fin _ (es.modify j (fun e=>{e with key:=en.key,val:=a.eval z})) clock g.w.drew (.inr rfl) rfl ?_ ?_
    ·simp [execOp,hv,hyv,Instr.mapUpdate,run_underlying hT,MapKept.run_getObj_map h1,hck,hf,hej,Instr.keyThatStays,hs,hq,MapKept.run_setObj_map _ h1',Question.forced]
    ·rw [Array.toList_modify]
     exact k6 _ _ k3 hzv
end
section
variable {P:Program} {env:Env} {res:Rs} {pos:String} {aft:Array Edge} {gd:Option (Nat×Bool)} {ty:TypeId} {α β:Type} [DecidableEq α] {tk:Ty α} {tv:Ty β}
theorem OpR.insert{T k e:TypeId}{m:List (α×β)}{u:α}{v:β}{b:Nat}{x y z:Operand}(key:Nat)(hT:P.underlying T=some (.map k e))(hk:KeyT P k tk)(hr:res.pick [key]= [(key,Mp tk tv m b)])(hx:Opd env x (Mv b))(hy:Opd env y (tk.is u))(hz:Opd env z (tv.is v)) :
  OpR P ⟨none,.insert T x y z,ty,pos,aft,gd⟩ env res [key] (fun _:Unit=>Asn.any) (fun _=>[(key,Mp tk tv (mset m u v) b)]):=by
 intro a g K Q hc hd hK
 exact OpR.mapUpdate (P:=P) (pos:=pos) (aft:=aft) (gd:=gd) (ty:=ty) key hT hk hr hx hy hz a g K Q hc hd hK
end
end Go.Dec
