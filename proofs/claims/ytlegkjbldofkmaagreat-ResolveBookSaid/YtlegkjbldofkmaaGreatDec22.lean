/-
  Rounds of a range over a function: what is known of plain code is known in a round too, and where deferred calls are pending. Maps filled by a literal.
-/
import Derived.Test.YtlegkjbldofkmaaGreatDec21
import Derived.RangeFuncNested
import Derived.RangeFuncCalls
import Derived.RangeFuncLeaves
import Derived.OrdersIn
import Derived.TacticsIn
set_option linter.unusedVariables false
set_option linter.unusedSimpArgs false
namespace Go.Dec
open Go Go.RowKit
section
variable {P:Program} {env:Env} {res:Rs} {pos:String} {aft:Array Edge} {gd:Option (Nat×Bool)} {ty:TypeId} {α β:Type} [DecidableEq α] {tk:Ty α} {tv:Ty β}
theorem OpR.insert{T k e:TypeId}{m:List (α×β)}{u:α}{v:β}{b:Nat}{x y z:Operand}(key:Nat)(hT:P.underlying T=some (.map k e))(hk:KeyT P k tk)(hr:res.pick [key]= [(key,Mp tk tv m b)])(hx:Opd env x (Mv b))(hy:Opd env y (tk.is u))(hz:Opd env z (tv.is v)) :
  OpR P ⟨none,.insert T x y z,ty,pos,aft,gd⟩ env res [key] (fun _:Unit=>Asn.any) (fun _=>[(key,Mp tk tv (mset m u v) b)]):=by
 intro a g K Q hc hd hK
 exact OpR.mapUpdate (P:=P) (pos:=pos) (aft:=aft) (gd:=gd) (ty:=ty) key hT hk hr hx hy hz a g K Q hc hd hK
end
def nd(o:Oper):Bool:=match o.op with
 | .defer _=>false
 | _=>true
def ring:Option Nat→Fence
 | none=>Fence.wide
 | some l=>Fence.wide.inRound l
def sh(D:List Deferred)(a:Act):Act:={a with defers:=a.defers++D}
theorem sh_eval(D:List Deferred)(a:Act):(sh D a).eval=a.eval:=by
 funext x
 cases x<;> rfl
theorem sh_put(D:List Deferred)(a:Act)(d:Option Tmp)(v:Value):(sh D a).put d v=sh D (a.put d v):=by cases d<;> rfl
def nq(K:Act→World→Prop):Exit→Act→World→Prop
 | .normal=>K
 | _=>fun _ _=>False
theorem nq_out{K:Act→World→Prop}:¬ LetsOut (nq K):=fun ⟨_,_,h⟩=>h
theorem ring_fn(r:Option Nat)(f:FuncId):(ring r).fn f:=by cases r<;> trivial
theorem ring_depth(r:Option Nat)(n:Nat):(ring r).depth.isSome=true→1≤n:=by cases r<;> (intro h;cases h)
section
variable {P:Program} {r:Option Nat} {n:Nat} {D:List Deferred}
theorem calls_ring{f:FuncId}{args:Array Value}{w:World}{R:Ending→World→Prop}(h:Calls P f args w R):CallsIn (ring r) n P f args w R:=by
 have h':CallsIn Fence.wide n P f args w R:=callsIn_wide.2 h
 cases r with
 | none=>exact h'
 | some l=>exact CallsIn.inRound l h'
theorem rows_ring{row:String}{args:Array Value}{w:World}{R:Value→World→Prop}(h:Rows P row args w R):RowsIn (ring r) n P row args w R:=by
 intro c cs _
 obtain ⟨v,w',q,s⟩:=h c cs
 refine ⟨v,w',q,?_⟩
 have:=stepsIn_wide.2 s
 cases r with
 | none=>exact this
 | some l=>exact this
theorem op_in{o:Oper}{a:Act}{w:World}{K K' Kx:Act→World→Prop}{Q:Exit→Act→World→Prop}(hnd:nd o=true)(hk:∀ a w,K a w→K' (sh D a) w)(h:o.wp P a w K (nq Kx)) :
  o.wpIn (ring r) n P (sh D a) w K' Q:=by
 refine ⟨fun f _=>ring_fn r f,?_⟩
 rw [Oper.semAt_eq _ _ _ (by intro c e;simp [nd,e] at hnd),sh_eval]
 unfold Oper.wp at h
 generalize (execOp a.eval o).run P w=q at h
 cases q with
 | ok x w'=>
  cases x with
  | value v=>show K' ((sh D a).put o.dst v) w';rw [sh_put];exact hk _ _ h
  | skip=>show K' ((sh D a).put o.dst undef) w';rw [sh_put];exact hk _ _ h
  | defer d=>
   have:=hk _ _ h
   rw [←sh_put] at this
   exact this
  | enter f args=>
   refine ⟨ring_depth r n,?_⟩
   refine (calls_ring h).mono ?_
   intro e w'' he
   cases e with
   | returned v=>show K' ((sh D a).put o.dst v) w'';rw [sh_put];exact hk _ _ he
   | panicked ch=>exact he.elim
   | outgrown=>exact (nq_out he).elim
  | row row args=>
   refine ⟨ring_depth r n,?_⟩
   refine (rows_ring h).mono ?_
   intro v w'' he
   rw [sh_put];exact hk _ _ he
  | _=>exact h.elim
 | halt x w'=>cases x<;> exact h.elim
theorem wpList_in{ops:Array Oper}{K:Act→World→Prop}{Q:Exit→Act→World→Prop}(hk:∀ a w,K a w→Q .normal (sh D a) w):∀ (l:List Oper),l.all nd=true→∀ a w,wpList P ops (nq K) l a w→wpListIn (ring r) n P ops Q l (sh D a) w:=by
 intro l
 induction l with
 | nil=>intro _ a w h;exact hk a w h
 | cons o l ih=>
  intro hnd a w h
  rw [List.all_cons,Bool.and_eq_true] at hnd
  unfold wpList at h
  unfold wpListIn
  show if Region.wanted o (yielded ops a.tmps)=true then _ else _
  by_cases hw:Region.wanted o (yielded ops a.tmps)=true
  ·rw [if_pos hw] at h ⊢
   rcases h with h | ⟨_,h⟩
   ·exact op_in hnd.1 (fun a w h=>ih hnd.2 a w h) h
   ·exact (nq_out h).elim
  ·rw [if_neg hw] at h ⊢
   refine ⟨fun f _=>ring_fn r f,?_⟩
   rw [sh_put]
   exact ih hnd.2 _ _ h
theorem wpAny_in{md:Region.Mode}{ops:Array Oper}{K:Act→World→Prop}{Q:Exit→Act→World→Prop}(hk:∀ a w,K a w→Q .normal (sh D a) w)(hnd:ops.toList.all nd=true):∀ (fuel:Nat) (listed:Array Bool) (a:Act) (w:World),wpAny P md ops (nq K) fuel listed a w→wpAnyIn (ring r) n P md ops Q fuel listed (sh D a) w:=by
 intro fuel
 induction fuel with
 | zero=>intro listed a w h;exact ⟨h.1,hk a w h.2⟩
 | succ fuel ih=>
  intro listed a w h
  refine ⟨fun e=>hk a w (h.1 e),fun i hi=>?_⟩
  have h1:=h.2 i hi
  unfold wpOp at h1
  unfold wpOpIn
  cases ho:ops[i]? with
  | none=>simp only [ho] at h1 ⊢;exact ih _ _ _ h1
  | some o=>
   simp only [ho] at h1 ⊢
   have hn:nd o=true:=List.all_eq_true.1 hnd o (by
    have:=Array.mem_of_getElem? ho
    simpa using this)
   show if Region.wanted o (yielded ops a.tmps)=true then _ else _
   by_cases hw:Region.wanted o (yielded ops a.tmps)=true
   ·rw [if_pos hw] at h1 ⊢
    rcases h1 with h1 | ⟨_,h1⟩
    ·exact op_in hn (fun a w h=>ih _ a w h) h1
    ·exact (nq_out h1).elim
   ·rw [if_neg hw] at h1 ⊢
    refine ⟨fun f _=>ring_fn r f,?_⟩
    rw [sh_put]
    exact ih _ _ _ h1
end
def WR(P:Program)(r:Option Nat)(n:Nat)(D:List Deferred)(N:Nat)(g0:G)(T0:Nat→Prop)(c:Code)(Q:Exit→Act→World→Prop)(env:Env)(res:Rs):Prop:=
 ∀ a g,St N g0 T0 env res a g→c.wpIn (ring r) n P Q (sh D a) g.w
section
variable {P:Program} {r:Option Nat} {n:Nat} {D:List Deferred} {N:Nat} {g0:G} {T0:Nat→Prop} {Q:Exit→Act→World→Prop} {env:Env} {res:Rs}
def rq(D:List Deferred)(Q:Exit→Act→World→Prop):Exit→Act→World→Prop:=nq (fun a w=>Q .normal (sh D a) w)
theorem WR.seq{x y:Code}(h:WR P r n D N g0 T0 x (Exit.then (y.wpIn (ring r) n P Q) Q) env res):WR P r n D N g0 T0 (.seq x y) Q env res:=
 fun a g hs=>wpIn_seq (h a g hs)
theorem WR.block{id:Nat}{c:Code}(h:WR P r n D N g0 T0 c (Exit.inBlock id Q) env res):WR P r n D N g0 T0 (.block id c) Q env res:=
 fun a g hs=>wpIn_block (h a g hs)
theorem WR.skip(h:∀ a g,St N g0 T0 env res a g→Q .normal (sh D a) g.w):WR P r n D N g0 T0 .skip Q env res:=fun a g hs=>wpIn_skip (h a g hs)
theorem WR.ret(h:∀ a g,St N g0 T0 env res a g→Q .ret (sh D a) g.w):WR P r n D N g0 T0 .ret Q env res:=fun a g hs=>wpIn_ret (h a g hs)
theorem WR.region{id:Nat}{l:List Oper}(hnd:l.all nd=true)(h:WL P N g0 T0 l.toArray (KF.sem P [] (rq D Q)) l env res):WR P r n D N g0 T0 (.region id l.toArray false) Q env res:=
 fun a g hs=>wpIn_region_lit (wpList_in (fun _ _ h=>h) l hnd a g.w (h a g hs))
theorem WR.draw{id:Nat}{l:List Oper}(hm:P.follows .mixedOrders=true)(hnd:l.all nd=true)(h:WA P N g0 T0 l [] (rq D Q) env res):WR P r n D N g0 T0 (.region id l.toArray true) Q env res:=
 fun a g hs=>wpIn_region_any hm (wpAny_in (fun _ _ h=>h) hnd _ _ a _ (h a g hs))
theorem WR.cond{x:Operand}{c d:Code}{b:Bool}(hx:Opd env x (tB.is b))(ht:b=true→WR P r n D N g0 T0 c Q env res)(hf:b=false→WR P r n D N g0 T0 d Q env res):WR P r n D N g0 T0 (.cond x c d) Q env res:=by
 intro a g hs
 obtain ⟨cs,hc,hv⟩:=hx a g hs.henv
 have hv':(sh D a).eval x= .bool b:=by rw [sh_eval,hv,show cs= [.bool b] from hc];rfl
 cases b with
 | true=>exact wpIn_cond_true hv' (ht rfl a g hs)
 | false=>exact wpIn_cond_false hv' (hf rfl a g hs)
theorem WN.wr{y:Code}(h:WR P r n D N g0 T0 y Q env res):WN P N g0 T0 [] (rq D (Exit.then (y.wpIn (ring r) n P Q) Q)) env res:=fun a g hs=>h a g hs
end
theorem sh_nil(a:Act):sh [] a=a:=by cases a;simp [sh]
structure Stays (g:G) (w:World):Prop where
 os:w.os=g.w.os
 tape:w.tape=g.w.tape
 output:w.output=g.w.output
 size:g.w.heap.size≤w.heap.size
 kept:∀ b i v,g.Has b i v→w.cell? ⟨b,i,none⟩=some v
def G.at(g:G)(w:World):G:=⟨w,g.S⟩
theorem Stays.ext{g:G}{w:World}(h:Stays g w):Ext (fun _=>True) g (g.at w):=⟨h.os,h.tape,h.output,h.size,fun _ _ hn=>(hn trivial).elim,fun b i v hv=>⟨hv.1,h.kept b i v hv⟩⟩
theorem Stays.of{g g':G}{T:Nat→Prop}(h:Ext T g g'):Stays g g'.w:=⟨h.os,h.tape,h.output,h.size,fun b i v hv=>(h.kept b i v hv).2⟩
theorem Stays.grown{g:G}{w w':World}{row:Option Nat}(h:Stays g w)(hg:w.grownBy w' row)(hr:∀ r,row=some r→g.w.heap.size≤r):Stays g w':=
 ⟨hg.os.trans h.os,hg.tape.trans h.tape,hg.output.trans h.output,Nat.le_trans h.size hg.size,fun b i v hv=>by
  have hlt:=hv.lt
  rw [World.cell?_of_block (hg.block b (Nat.lt_of_lt_of_le hlt h.size) (fun e=>by have:=hr b e.symm;omega))]
  exact h.kept b i v hv⟩
theorem Stays.below{g:G}{w w':World}(h:Stays g w)(hg:Below g.w.heap.size w w'):Stays g w':=
 ⟨hg.os.trans h.os,hg.tape.trans h.tape,hg.output.trans h.output,Nat.le_trans h.size hg.size,fun b i v hv=>by
  rw [World.cell?_of_block (hg.block b hv.lt)]
  exact h.kept b i v hv⟩
theorem Stays.refl(g:G):Stays g g.w:=⟨rfl,rfl,rfl,Nat.le_refl _,fun _ _ _ h=>h.2⟩
theorem ext_grown{g:G}{w':World}{row:Option Nat}(hg:g.w.grownBy w' row)(hr:∀ r,row=some r→∃ o:Obj,g.w.heap[r]? =some o∧o.isCells=false):Ext (fun b=>row=some b) g (g.at w'):=
 ⟨hg.os,hg.tape,hg.output,hg.size,fun b hb hn=>⟨hg.block b hb (fun e=>hn e.symm),rfl⟩,fun b i v hv=>by
  refine ⟨hv.1,?_⟩
  show w'.cell? _=_
  refine (World.cell?_of_block (hg.block b hv.lt (fun e=>?_))).trans hv.2
  obtain ⟨o,ho,hc⟩:=hr b e.symm
  have h2:=hv.2
  unfold World.cell? at h2
  rw [ho] at h2
  cases o<;> simp_all [Obj.isCells]⟩
theorem St.turned{N:Nat}{g0:G}{T0:Nat→Prop}{env:Env}{res:Rs}{a:Act}{g:G}{w':World}{row:Option Nat}{B:Nat}(h:St N g0 T0 env res a g)(hg:g.w.grownBy w' row)
  (hr:∀ r,row=some r→B≤r∧ ∃ o:Obj,g.w.heap[r]? =some o∧o.isCells=false) (hB:g0.w.heap.size≤B) (hres:∀ b,res.blks b→b<B):St N g0 T0 env res a (g.at w'):=by
 have e:=ext_grown hg (fun r e=>(hr r e).2)
 refine ⟨h.sz,h.dfr,fun s A hA=>A.mono e (h.henv s A hA),h.hres.stay e (fun b hb hrow=>?_),h.dis,h.own,h.ext.trans e (fun x hx hrow=>?_)⟩
 ·have:=(hr b hrow).1;have:=hres b hb;omega
 ·have:=(hr x hrow).1;omega
def tRaw{α:Type}(t:Ty α):Ty (List Value) where
 size:=t.size
 agg:=t.agg
 rep:=fun _ cs x=>cs=x∧cs.length=t.size∧ ∀ c∈cs,c.oneCell'=true
 len:=fun h=>h.2.1
 one:=fun h=>h.2.2
 mono:=fun _ h=>h
 sing:=t.sing
theorem choose_list{α:Type}{n:Nat}{p:Nat→α→Prop}(h:∀ i,i<n→∃ y,p i y):∃ l:List α,l.length=n∧ ∀ i y,l[i]? =some y→p i y:=by
 induction n with
 | zero=>exact ⟨[],rfl,fun i y hy=>by simp at hy⟩
 | succ n ih=>
  obtain ⟨l,hl,hp⟩:=ih (fun i hi=>h i (by omega))
  obtain ⟨y,hy⟩:=h n (by omega)
  refine ⟨l++ [y],by simp [hl],fun i z hz=>?_⟩
  rcases Nat.lt_or_ge i l.length with hi | hi
  ·rw [List.getElem?_append_left hi] at hz
   exact hp i z hz
  ·rw [List.getElem?_append_right hi] at hz
   have:i-l.length=0:=by
    have:=(List.getElem?_eq_some_iff.1 hz).1
    simp at this;omega
   rw [this] at hz
   have hi2:i=n:=by omega
   simp at hz
   rw [hi2,←hz];exact hy
theorem raw_of{α:Type}{t:Ty α}{g:G}{cs:List Value}{xs:List α}(h:(tL t).rep g cs xs):∃ rs:List (List Value),rs.length=xs.length∧(tL (tRaw t)).rep g cs rs∧ ∀ (i:Nat) x c,xs[i]? =some x→rs[i]? =some c→t.rep g c x:=by
 obtain ⟨p,c,h1,h2,h3,h4,h5⟩:=h
 cases p with
 | none=>
  have:xs= []:=h5
  subst this
  exact ⟨[],rfl,⟨none,c,h1,h2,h3,h4,rfl⟩,fun i x c hx=>by simp at hx⟩
 | some a=>
  obtain ⟨h6,h7⟩:=h5
  obtain ⟨rs,hl,hp⟩:=choose_list (n:=xs.length) (p:=fun i (cs:List Value)=>∀ x,xs[i]? =some x→t.rep g cs x∧ ∀ j v,cs[j]? =some v→g.Has a.block (a.off+i*t.size+j) v) (fun i hi=>by
   obtain ⟨cs,k1,k2⟩:=h7 i xs[i] (List.getElem?_eq_getElem hi)
   exact ⟨cs,fun x hx=>by rw [List.getElem?_eq_getElem hi] at hx;cases hx;exact ⟨k1,k2⟩⟩)
  refine ⟨rs,hl,⟨some a,c,by rw [hl];exact h1,by rw [hl];exact h2,by rw [hl];exact h3,h4,?_,fun i y hy=>?_⟩,fun i x c hx hc=>(hp i c hc x hx).1⟩
  ·rcases h6 with h6 | h6
   ·subst h6;exact .inl (List.length_eq_zero_iff.1 (by simpa using hl))
   ·exact .inr h6
  ·have hi:i<xs.length:=by rw [←hl];exact (List.getElem?_eq_some_iff.1 hy).1
   obtain ⟨k1,k2⟩:=hp i y hy xs[i] (List.getElem?_eq_getElem hi)
   exact ⟨y,⟨rfl,t.len k1,t.one k1⟩,k2⟩
def WLI(P:Program)(r:Option Nat)(n:Nat)(N:Nat)(g0:G)(T0:Nat→Prop)(ops:Array Oper)(Q:Exit→Act→World→Prop)(l:List Oper)(env:Env)(res:Rs):Prop:=
 ∀ a g,St N g0 T0 env res a g→wpListIn (ring r) n P ops Q l a g.w
section
variable {P:Program} {r:Option Nat} {n:Nat} {N:Nat} {g0:G} {T0:Nat→Prop} {ops:Array Oper} {Q:Exit→Act→World→Prop} {rest:List Oper} {env:Env} {res:Rs}
theorem WLI.op{A:Asn}{d:Nat}{op:Op}{ty:TypeId}{pos:String}{aft:Array Edge}(hd:Nat.blt d N=true)(hnd:nd ⟨some d,op,ty,pos,aft,none⟩=true)(h:Op1 P ⟨some d,op,ty,pos,aft,none⟩ env res A)
  (k:WLI P r n N g0 T0 ops Q rest ((d,A) :: env) res):WLI P r n N g0 T0 ops Q (⟨some d,op,ty,pos,aft,none⟩ :: rest) env res:=by
 intro a g hs
 refine wpListIn_plain rfl fun K hK=>?_
 have:=op_in (r:=r) (n:=n) (D:=[]) (K':=K) (Q:=Q) (Kx:=fun _ _=>True) hnd (K:=fun a w=>K (sh [] a) w) (fun _ _ h=>h) (h a g _ _ hs.cx fun v g' e hv=>by
  rw [sh_nil]
  exact hK _ _ (k _ _ (hs.put (by simpa [Nat.blt_eq] using hd) e hv)))
 rwa [sh_nil] at this
theorem WLI.nil(h:∀ a g,St N g0 T0 env res a g→Q .normal a g.w):WLI P r n N g0 T0 ops Q [] env res:=fun a g hs=>h a g hs
theorem WR.regionI{id:Nat}{l:List Oper}(h:WLI P r n N g0 T0 l.toArray Q l env res):WR P r n [] N g0 T0 (.region id l.toArray false) Q env res:=by
 intro a g hs
 rw [sh_nil]
 exact wpIn_region_lit (h a g hs)
end
end Go.Dec
