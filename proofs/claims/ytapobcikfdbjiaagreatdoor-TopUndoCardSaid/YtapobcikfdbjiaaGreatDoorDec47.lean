import Derived.Test.YtapobcikfdbjiaaGreatDoorDec32
/-
  A range over a function that hands out a slice's elements from the last to the first, whose body turns a variable: the rounds come in their order.
-/
set_option linter.unusedVariables false
set_option linter.unusedSimpArgs false
namespace Go.Dec
open Go Go.RowKit
def AbN(J:Nat->World->Prop):Prop:=∀ s W W' row,J s W->W.grownBy W' row->(∀ r,row=some r->False)->J s W'
def BackO(P:Program)(gf:Nat){α:Type}(t:Ty α):Prop:=
 ∀ (g:G) (pv:Value) (rs:List (List Value)) (n:Nat),((tL (tRaw t)).ptr rs).holds pv g->∀ (l:Nat) (J Jx:Nat->World->Prop) (W:World),Below g.w.heap.size g.w W->AbN J->AbN Jx->
  (∀ (k:Nat) (_:k<rs.length) W1,J k W1->YieldAt Fence.wide (n-1) P l #[.int .i64 ((rs.length:Int)-1-(k:Int)),mkVal t.agg (rs.reverse.getD k [])] W1 fun e W'=>
   (e= .returned (.bool true)/\J (k+1) W'/\(Stays g W1->Stays g W'))\/(e= .returned (.bool false)/\Jx (k+1) W'))->
  J 0 W->CallsIn Fence.wide n P gf (#[.func (.yield l) #[] #[]]++ #[pv]) W fun e W'=>(∃ v,e= .returned v)/\(J rs.length W'\/ ∃ k,Jx k W')
theorem wT{σ α ρ:Type}{st:σ->α->Option (σ ⊕ ρ)}:∀ {xs ys:List α} {s q:σ},foldB st s xs=some (.inl q)->foldB st s (xs++ys)=foldB st q ys
 | [],_,s,q,h=>by cases h;rfl
 | x :: xs,ys,s,q,h=>by
  unfold foldB at h;obtain ⟨o,h1,h2⟩:=bind_some h;cases o with
  | inr r=>cases h2
  | inl s'=>
   show Option.bind (st s x) _=_;rw [h1];exact wT (xs:=xs) h2
section
variable {P:Program} {n:Nat} {N:Nat} {g0:G} {T0:Nat->Prop} {Q:Exit->Act->World->Prop} {env:Env}
theorem WR.backS{α ρ σ:Type}{t:Ty α}{xs:List α}{st:σ->α->Option (σ ⊕ ρ)}{v:σ ⊕ ρ}{gf s p0 p1 kD ida:Nat}{la:List Oper}{body:Code}{envA:α->Env}{resA:σ->Rs}{resX:ρ->Rs}(s0:σ)(hback:BackO P gf t)(h1:1<=n)
  (eg:∀ args w,(callFunc gf args).run P w= .ok (.enter gf args) w) (hs:look s env=some (cloA gf [(tL t).ptr xs])) (hv:foldB st s0 xs.reverse=some v) (hnd:la.all nd=true) (hp:Nat.blt p0 N=true) (hp1:Nat.blt p1 N=true)
  (hp01:Nat.beq p0 p1=false) (hl0:look p0 env=none) (hl1:look p1 env=none)
  (hA:∀ g1 x q B,WN P N g1 (resA s0).blks [] B (envA x) (resA q)->WL P N g1 (resA s0).blks la.toArray (KF.sem P [] B) la ((p1,t.is x) :: env) (resA q))
  (hB:∀ l n g1 x q o (Q':Exit->Act->World->Prop),st q x=some o->(∀ q',o= .inl q'->∀ a' g',St N g1 (resA s0).blks [] (resA q') a' g'->Q' .normal a' g'.w)->(∀ r,o= .inr r->∀ a' g',St N g1 (resA s0).blks [] (resX r) a' g'->Q' .ret a' g'.w)->WR P (some l) n [] N g1 (resA s0).blks body Q' (envA x) (resA q))
  (hR:∀ q b,(resA q).blks b->(resA s0).blks b) (hX:∀ r b,(resX r).blks b->(resA s0).blks b)
  (hdone:∀ q,v= .inl q->∀ a' g' D,St N g0 T0 env ((kD,Dq D) :: resA q) a' g'->Q .normal (sh (markD D) a') g'.w)
  (hstop:∀ r,v= .inr r->∀ a' g' D,St N g0 T0 env ((kD,Dq D) :: resX r) a' g'->Q .ret (sh (markD D) a') g'.w) :
  WR P none n [] N g0 T0 (.rangeFunc (.tmp s) #[p0,p1] (.region ida la.toArray false) body) Q env (resA s0):=by
 intro a g hst;rw [p8];obtain ⟨caps,hval,hcaps⟩:=hst.henv s _ hs;obtain ⟨pv,rfl,hpv⟩:∃ pv,caps= [pv]/\((tL t).ptr xs).holds pv g:=by
  match caps,hcaps with
  | [pv],h=>exact ⟨pv,rfl,h.1⟩
 obtain ⟨rs,hrl,hraw,hel⟩:∃ rs:List (List Value),rs.length=xs.length/\((tL (tRaw t)).ptr rs).holds pv g/\ ∀ (i:Nat) x c,xs[i]? =some x->rs[i]? =some c->t.rep g c x:=by
  obtain ⟨b,o,k1,cs,k2,k3⟩:=hpv;obtain ⟨rs,m1,m2,m3⟩:=Vs k2;exact ⟨rs,m1,⟨b,o,k1,cs,m2,k3⟩,m3⟩
 have hblk:∀ b,(resA s0).blks b->b<g.w.heap.size:=by
  rintro b ⟨y,hy,hb⟩;exact y.2.lt (hst.hres y hy) hb
 have hx:∀ k:Nat,k<rs.length->∃ x,xs.reverse[k]? =some x/\t.rep g (rs.reverse.getD k []) x:=by
  intro k hk;have hk2:k<xs.length:=by omega
  refine ⟨xs.reverse[k]'(by simpa using hk2),List.getElem?_eq_getElem (by simpa using hk2),?_⟩;have e1:rs.reverse.getD k []=rs[rs.length-1-k]'(by omega):=by
   rw [List.getD_eq_getElem?_getD,List.getElem?_eq_getElem (by simpa using hk),Option.getD_some,List.getElem_reverse]
  rw [e1,List.getElem_reverse];refine hel (xs.length-1-k) _ _ (List.getElem?_eq_getElem (by omega)) ?_;rw [List.getElem?_eq_getElem (by omega)];simp only [hrl]
 -- the state of the caller, between two rounds, and behind a round that left
 refine wpIn_rangeFunc (F:=Fence.wide) fun fn hfn=>?_;obtain ⟨rec,hrec⟩:∃ rec:LoopState->Option Code->Loop,rec=fun ls pe=>{state:=ls,pending:=pe,fn,tmps:=a.tmps,params:=#[p0,p1],assign:=.region ida la.toArray false,body,defers:=g.w.heap.size}:=⟨_,rfl⟩
 obtain ⟨L,hLdef⟩:∃ L,L=g.w.heap.size+1:=⟨_,rfl⟩
 let J:Nat->World->Prop:=fun k W=>∃ q g',g'.w=W/\St N g (resA s0).blks env (resA q) a g'/\foldB st s0 (xs.reverse.take k)=some (.inl q)/\W.heap[L]? =some (.loop (rec .ready none))/\W.heap[g.w.heap.size]? =some (.deferred (some []));let Jx:Nat->World->Prop:=fun _ W=>∃ r g',g'.w=W/\St N g (resA s0).blks env (resX r) a g'/\v= .inr r/\W.heap[L]? =some (.loop (rec .done (some .ret)))/\W.heap[g.w.heap.size]? =some (.deferred (some []));obtain ⟨W1,hW1⟩:∃ W1,(g.w.alloc (.deferred (some []))).alloc (.loop (rec .ready none))=W1:=⟨_,rfl⟩
 have hsz1:W1.heap.size=g.w.heap.size+2:=by rw [<-hW1];simp
 have hL1:W1.heap[L]? =some (.loop (rec .ready none)):=by
  rw [<-hW1,hLdef];have:=World.alloc_heap_new (g.w.alloc (.deferred (some []))) (.loop (rec .ready none));rwa [World.size_alloc] at this
 have hD1:W1.heap[g.w.heap.size]? =some (.deferred (some [])):=by
  rw [<-hW1];exact (Below.heap_alloc _ _ _ (by simp)).trans (World.alloc_heap_new g.w _)
 have hturn:∀ {q':Rs} {g':G} {W W':World} {row:Option Nat},g'.w=W->St N g (resA s0).blks env q' a g'->(∀ b,q'.blks b->(resA s0).blks b)->W.grownBy W' row->(∀ r,row=some r->False)->
   St N g (resA s0).blks env q' a (g'.at W'):=by
  rintro q' g' W W' row rfl h hq hg hr;exact h.turned (B:=g.w.heap.size) hg (fun r e=>(hr r e).elim) (Nat.le_refl _) (fun b hb=>hblk b (hq b hb))
 have hJ:AbN J:=by
  rintro k W W' row ⟨q,g',e1,h,hf,hl,hd⟩ hg hr;exact ⟨q,g'.at W',rfl,hturn e1 h (hR q) hg hr,hf,(grownBy_keeps hg (fun r e=>(hr r e).elim) hl rfl).trans hl,(grownBy_keeps hg (fun r e=>(hr r e).elim) hd rfl).trans hd⟩
 have hJx:AbN Jx:=by
  rintro k W W' row ⟨r,g',e1,h,hf,hl,hd⟩ hg hr;exact ⟨r,g'.at W',rfl,hturn e1 h (hX r) hg hr,hf,(grownBy_keeps hg (fun r e=>(hr r e).elim) hl rfl).trans hl,(grownBy_keeps hg (fun r e=>(hr r e).elim) hd rfl).trans hd⟩
 have hJ0:J 0 W1:=by
  refine ⟨s0,g.at W1,rfl,?_,rfl,hL1,hD1⟩;have h1:=(hst.start).turned (B:=g.w.heap.size) (World.grownBy_alloc g.w (.deferred (some [])) none) (fun r e=>by cases e) (Nat.le_refl _) hblk;have h2:=h1.turned (B:=g.w.heap.size) (World.grownBy_alloc _ (.loop (rec .ready none)) none) (fun r e=>by cases e) (Nat.le_refl _) hblk;rw [<-hW1];exact h2
 have hb1:Below g.w.heap.size g.w W1:=by
  rw [<-hW1];exact ((Below.refl _ g.w).alloc (Nat.le_refl _) _).alloc (by simp) _
 refine ⟨L,[{target:=.collected g.w.heap.size,args:=#[]}],W1,{target:=.fn (.func gf) #[pv],args:=#[.func (.yield L) #[] #[]]},W1,gf,#[.func (.yield L) #[] #[]]++ #[pv],W1,?_,?_,?_,?_,fun _=>h1,?_⟩
 ·rw [<-hW1,hrec,hLdef];exact run_enterLoop_outer _ _ _ _ _
 ·have:a.eval (.tmp s)= .func (.func gf) #[] #[pv]:=hval;simp only [resolve,this];simp [go_sem]
 ·intro f' hf';trivial
 ·simp [invoke,go_sem,eg]
 ·refine (hback g pv rs (n-1) hraw L J Jx W1 hb1 hJ hJx ?_ hJ0).mono ?_
  · -- a round
   rintro k hk W ⟨q,g',rfl,h,hf,hl,hd⟩;obtain ⟨x,hx1,hx2⟩:=hx k hk;have htk:xs.reverse.take (k+1)=xs.reverse.take k++ [x]:=by
    obtain ⟨hlt,he⟩:=List.getElem?_eq_some_iff.1 hx1;rw [List.take_add_one,List.getElem?_eq_getElem hlt,he];rfl
   obtain ⟨o,ho,hfo⟩:∃ o,st q x=some o/\(match o with | .inl q'=>foldB st s0 (xs.reverse.take (k+1))=some (.inl q') | .inr r=>v= .inr r):=by
    have h2:xs.reverse=xs.reverse.take k++x :: xs.reverse.drop (k+1):=by
     obtain ⟨hlt,he⟩:=List.getElem?_eq_some_iff.1 hx1;have:=List.take_append_drop k xs.reverse;rw [List.drop_eq_getElem_cons hlt,he] at this;exact this.symm
    have h3:=hv;rw [h2,wT hf] at h3;unfold foldB at h3;obtain ⟨o,ho,h4⟩:=bind_some h3;refine ⟨o,ho,?_⟩;cases o with
    | inl q'=>
     rw [htk,wT hf];show Option.bind (st q x) _=_;rw [ho];rfl
    | inr r=>exact (Option.some.inj h4).symm
   have hne:p0≠p1:=fun e=>by subst e;rw [Nat.beq_refl] at hp01;cases hp01
   have hp':p0<N:=by simpa [Nat.blt_eq] using hp
   have hp1':p1<N:=by simpa [Nat.blt_eq] using hp1
   obtain ⟨v0,hv0⟩:∃ v0:Value,v0= .int .i64 ((rs.length:Int)-1-(k:Int)):=⟨_,rfl⟩
   obtain ⟨v1,hv1⟩:∃ v1:Value,v1=mkVal t.agg (rs.reverse.getD k []):=⟨_,rfl⟩
   rw [<-hv0,<-hv1];have hy:=run_yield (P:=P) (args:=#[v0,v1]) hl (by rw [hrec];rfl);rw [hrec] at hy;refine ⟨fn,_,_,body,hy,roundIn_of_wpIn hfn ?_⟩;obtain ⟨a1,ha1⟩:∃ a1:Act,a1= {tmps:=(a.tmps.setIfInBounds p0 v0).setIfInBounds p1 v1,defers:=[]}:=⟨_,rfl⟩
   have he1:({tmps:=(#[p0,p1].zip #[v0,v1]).foldl (fun t (p,v)=>t.setIfInBounds p v) a.tmps,defers:=[]}:Act)=a1:=by rw [ha1];simp
   rw [he1];have hsz:a.tmps.size=N:=h.sz;have hS1:St N g' (resA s0).blks ((p1,t.is x) :: env) (resA q) a1 g':=by
    refine ⟨by rw [ha1];simp [hsz],by rw [ha1],fun y A hy=>?_,h.hres,h.dis,fun b hb=>.inr (hR q b hb),Ext.refl _ _⟩;by_cases hq1:p1=y
    ·subst hq1;rw [dm] at hy;cases hy;have:a1.tmps.getD p1 undef=v1:=by rw [ha1];simp [Array.getD,hsz,hp1']
     rw [this,hv1];exact (t.is x).mono h.ext ⟨_,hx2,rfl⟩
    ·rw [bX _ _ hq1] at hy;have hq0:p0≠y:=fun e=>by subst e;rw [hl0] at hy;cases hy
     have:a1.tmps.getD y undef=a.tmps.getD y undef:=by
      rw [ha1];simp only [Array.getD_eq_getD_getElem?,Array.getElem?_setIfInBounds_ne hq1,Array.getElem?_setIfInBounds_ne hq0]
     rw [this];exact h.henv y A hy
   -- rows that are not ours stay through the round's own code
   have hkeep:∀ {ga gb:G} {i:Nat} {o:Obj},g.w.heap.size<=i->Ext (resA s0).blks ga gb->ga.w.heap[i]? =some o->gb.w.heap[i]? =some o:=fun hi e ho=>(e.same _ (Array.getElem?_eq_some_iff.1 ho).1 (fun hb=>by have:=hblk _ hb;omega)).1.trans ho;have hW:=WR.region (r:=some L) (n:=n-1-1) (D:=[]) (id:=ida) (Q:=Exit.then (fun a₁ w₁=>∃ w₂,(Instr.beginRound L).run P w₁= .ok () w₂/\body.wpIn (Fence.wide.inRound L) (n-1-1) P (roundPost P L (fun e W'=>
    (e= .returned (.bool true)/\J (k+1) W'/\(Stays g g'.w->Stays g W'))\/(e= .returned (.bool false)/\Jx (k+1) W'))) a₁ w₂) (fun _ _ _=>False)) hnd (hA g' x q _ (fun a2 g2 h2=>?_)) a1 g' hS1
   ·rw [p8] at hW;exact hW
   ·show ∃ w₂,_;rw [p8];have hl2:g2.w.heap[L]? =some (.loop (rec .ready none)):=hkeep (by omega) h2.ext hl;have hd2:g2.w.heap[g.w.heap.size]? =some (.deferred (some [])):=hkeep (Nat.le_refl _) h2.ext hd;have hlt2:L<g2.w.heap.size:=(Array.getElem?_eq_some_iff.1 hl2).1;refine ⟨_,run_beginRound hl2 (by rw [hrec]),?_⟩;obtain ⟨w3,hw3⟩:∃ w3,w3=g2.w.putObj L (.loop {rec .ready none with state:=.busy}):=⟨_,rfl⟩
    rw [<-hw3];have hg3:g2.w.grownBy w3 (some L):=by rw [hw3];exact grownBy_putObj' _ _ _
    have hr3:∀ r,some L=some r->g.w.heap.size<=r/\ ∃ o:Obj,g2.w.heap[r]? =some o/\whl o=none:=fun r e=>by cases e;exact ⟨by omega,_,hl2,rfl⟩
    have e3:=A9 hg3 (fun r e=>(hr3 r e).2);have hnb:∀ b,(resA s0).blks b->¬ some L=some b:=fun b hb e=>by cases e;have:=hblk _ hb;omega
    have h3:St N (g2.at w3) (resA s0).blks (envA x) (resA q) a2 (g2.at w3):=
     ⟨h2.sz,h2.dfr,fun s A hA=>A.mono e3 (h2.henv s A hA),h2.hres.stay e3 (fun b hb=>hnb b (hR q b hb)),h2.dis,fun b hb=>.inr (hR q b hb),Ext.refl _ _⟩
    -- the caller's own state behind the round
    have hafter:∀ {q':Rs} {a4:Act} {g4:G} (jump:Option Code),(∀ b,q'.blks b->(resA s0).blks b)->St N (g2.at w3) (resA s0).blks [] q' a4 g4->
      ∃ w5,(Instr.endRound L jump).run P g4.w= .ok (.bool jump.isNone) w5/\St N g (resA s0).blks env q' a (g4.at w5)/\w5.heap[L]? =some (.loop (rec (if jump.isNone then .ready else .done) jump))/\w5.heap[g.w.heap.size]? =some (.deferred (some [])):=by
     intro q' a4 g4 jump hq h4;have hlw:w3.heap[L]? =some (.loop {rec .ready none with state:=.busy}):=by rw [hw3];exact World.putObj_heap_same hlt2
     have hdw:w3.heap[g.w.heap.size]? =some (.deferred (some [])):=by rw [hw3];exact (World.putObj_heap_other (by omega)).trans hd2
     have hl4:g4.w.heap[L]? =some (.loop {rec .ready none with state:=.busy}):=hkeep (ga:=g2.at w3) (by omega) h4.ext hlw;have hd4:g4.w.heap[g.w.heap.size]? =some (.deferred (some [])):=hkeep (ga:=g2.at w3) (Nat.le_refl _) h4.ext hdw;have hlt4:L<g4.w.heap.size:=(Array.getElem?_eq_some_iff.1 hl4).1;have hrun:=run_endRound (P:=P) jump hl4;obtain ⟨w5,hw5⟩:∃ w5,w5=g4.w.putObj L (.loop {{rec .ready none with state:=.busy} with state:=if jump.isNone then .ready else .done,pending:=jump}):=⟨_,rfl⟩
     rw [<-hw5] at hrun;have hg5:g4.w.grownBy w5 (some L):=by rw [hw5];exact grownBy_putObj' _ _ _
     have hr5:∀ r,some L=some r->g.w.heap.size<=r/\ ∃ o:Obj,g4.w.heap[r]? =some o/\whl o=none:=fun r e=>by cases e;exact ⟨by omega,_,hl4,rfl⟩
     have hS:St N g (resA s0).blks env q' a g4:=by
      have e1:Ext (resA s0).blks g' g2:=h2.ext;have eh:Ext (fun b=>(resA s0).blks b\/b=L) g' g4:=(e1.mono (fun _ h=>.inl h)).trans ((e3.mono (fun b h=>.inr (Option.some.inj h).symm)).trans (h4.ext.mono (fun _ h=>.inl h)) (fun _ _ h=>h)) (fun _ _ h=>h);refine ⟨h.sz,h.dfr,fun s A hA=>A.mono eh (h.henv s A hA),h4.hres,h4.dis,fun b hb=>.inr (hq b hb),?_⟩;exact h.ext.trans eh (fun b hb ht=>ht.resolve_right (by omega))
     refine ⟨w5,hrun,hS.turned (B:=g.w.heap.size) hg5 hr5 (Nat.le_refl _) (fun b hb=>hblk b (hq b hb)),?_,?_⟩
     ·rw [hw5,hrec];exact World.putObj_heap_same hlt4
     ·rw [hw5];exact (World.putObj_heap_other (by omega)).trans hd4
    have hW2:=hB L (n-1-1) (g2.at w3) x q o (roundPost P L (fun e W'=>(e= .returned (.bool true)/\J (k+1) W'/\(Stays g g'.w->Stays g W'))\/(e= .returned (.bool false)/\Jx (k+1) W'))) ho ?_ ?_ a2 (g2.at w3) h3
    ·rw [p8] at hW2;exact hW2
    ·rintro q' rfl a4 g4 h4;obtain ⟨w5,k1,k2,k3,k4⟩:=hafter none (hR q') h4;exact ⟨_,w5,k1,.inl ⟨rfl,⟨q',g4.at w5,rfl,k2,hfo,k3,k4⟩,fun _=>Stays.of k2.ext⟩⟩
    ·rintro r rfl a4 g4 h4;obtain ⟨w5,k1,k2,k3,k4⟩:=hafter (some .ret) (hX r) h4;exact ⟨_,w5,k1,.inr ⟨rfl,r,g4.at w5,rfl,k2,hfo,k3,k4⟩⟩
  · -- behind the iterator
   have hend:∀ {q':Rs} {g4:G} {ls:LoopState} {pe:Option Code},ls≠ .busy->(∀ b,q'.blks b->(resA s0).blks b)->St N g (resA s0).blks env q' a g4->g4.w.heap[L]? =some (.loop (rec ls pe))->g4.w.heap[g.w.heap.size]? =some (.deferred (some []))->
     ∃ w5,(Instr.endLoop L).run P g4.w= .ok pe w5/\St N g0 T0 env ((kD,Dq g.w.heap.size) :: q') a (g4.at w5):=by
    intro q' g4 ls pe hne hq h4 hl4 hd4;have hlt4:L<g4.w.heap.size:=(Array.getElem?_eq_some_iff.1 hl4).1;have hrun:=run_endLoop (P:=P) hl4 (by rw [hrec];exact hne);obtain ⟨w5,hw5⟩:∃ w5,w5=g4.w.putObj L (.loop {rec ls pe with state:=.exhausted}):=⟨_,rfl⟩
    rw [<-hw5] at hrun;have hg5:g4.w.grownBy w5 (some L):=by rw [hw5];exact grownBy_putObj' _ _ _
    have h5:=h4.turned (B:=g.w.heap.size) hg5 (fun r e=>by cases e;exact ⟨by omega,_,hl4,rfl⟩) (Nat.le_refl _) (fun b hb=>hblk b (hq b hb));have hd5:w5.heap[g.w.heap.size]? =some (.deferred (some [])):=by rw [hw5];exact (World.putObj_heap_other (by omega)).trans hd4
    refine ⟨w5,by rw [hrec] at hrun;rw [hrun],h5.sz,h5.dfr,h5.henv,?_,?_,?_,?_⟩
    ·intro y hy;rcases List.mem_cons.1 hy with rfl | hy
     ·exact hd5
     ·exact h5.hres y hy
    ·refine List.pairwise_cons.2 ⟨fun y hy b hb hyb=>?_,h5.dis⟩;have:=hblk b (hq b ⟨y,hy,hyb⟩);cases hb;omega
    ·rintro b ⟨y,hy,hb⟩;rcases List.mem_cons.1 hy with rfl | hy
     ·cases hb;exact .inl hst.ext.size
     ·exact hst.own b (hq b ⟨y,hy,hb⟩)
    ·exact hst.ext.trans h5.ext (fun b hb hT=>(hst.own b hT).resolve_left (by omega))
   have he:({a with defers:=[{target:=.collected g.w.heap.size,args:=#[]}]++a.defers}:Act)=sh (markD g.w.heap.size) a:=by
    simp [sh,markD,hst.dfr]
   rintro e W2 ⟨⟨v',rfl⟩,(⟨q,g4,rfl,h4,hf,hl4,hd4⟩ | ⟨_,r,g4,rfl,h4,hf,hl4,hd4⟩)⟩
   ·rw [List.take_of_length_le (by rw [List.length_reverse,hrl];exact Nat.le_refl _)] at hf;obtain ⟨w5,k1,k2⟩:=hend (by simp) (hR q) h4 hl4 hd4;refine ⟨none,w5,k1,?_⟩;rw [he];exact hdone q (Option.some.inj (hv.symm.trans hf)) a (g4.at w5) _ k2
   ·obtain ⟨w5,k1,k2⟩:=hend (by simp) (hX r) h4 hl4 hd4;refine ⟨some .ret,w5,k1,?_⟩;rw [he];exact wpIn_ret (hstop r hf a (g4.at w5) _ k2)
end
section
variable {P:Program} {n N:Nat}
theorem WR.beginG{fn:Func}{c:Code}{As:List Asn}{rin:Rs}{vs:List Value}{g:G}{B:Exit->Act->World->Prop}(hN:fn.ntmps=N)(hA:Nat.ble As.length N=true)(hvs:All2 As vs g)(hr:rin.all g)(hb:NoBlk rin)
  (h:WR P none n [] N g No c B (envFrom 0 As) rin):c.wpIn Fence.wide n P B {tmps:=vs.toArray++Array.replicate (fn.ntmps-vs.toArray.size) undef,defers:=[]} g.w:=by
 have hl:=hvs.len;have hle:As.length<=N:=Nat.le_of_ble_eq_true hA;have:=h {tmps:=vs.toArray++Array.replicate (fn.ntmps-vs.toArray.size) undef,defers:=[]} g ?_
 ·rwa [p8] at this
 refine ⟨by simp [hN,hl];omega,rfl,fun s B hB=>?_,hr,hb.dis,fun b hbk=>(hb.blks b hbk).elim,Ext.refl _ _⟩;obtain ⟨v,hv,hBv⟩:=envFrom_holds vs As vs 0 hvs (fun j u hu=>by simpa using hu) s B hB;have hlt:s<vs.length:=(List.getElem?_eq_some_iff.1 hv).1;have:((vs.toArray++Array.replicate (fn.ntmps-vs.toArray.size) undef).getD s undef)=v:=by
  simp only [Array.getD_eq_getD_getElem?];rw [Array.getElem?_append_left (by simpa using hlt)];simp [hv]
 rw [this];exact hBv
theorem aT.ofN{f:FuncId}{As:List Asn}{rin:Rs}{A:Asn}(h:∀ g vs,All2 As vs g->rin.all g->Calls P f vs.toArray g.w fun e w'=>∃ v g',g'.w=w'/\e= .returned v/\Ext No g g'/\A.holds v g'):aT P f As rin (fun _:Unit=>A) (fun _=>[]):=
 fun g vs hvs hr _=>(h g vs hvs hr).mono fun e w' ⟨v,g',h1,h2,h3,h4⟩=>⟨(),v,g',h1,h2,h3.no,h4,fun _ hx=>(by cases hx),List.Pairwise.nil,fun b ⟨y,hy,_⟩=>(by cases hy)⟩
end
end Go.Dec
/-
  append(append(s[:n:n], l...), m...): a slice of a plain slice that is full, and what grows from it.
-/
namespace Go.Dec
open Go
variable {T:TypeId}{α:Type}{v:List α}{x:Operand}{xs:List α}
def tLx{α:Type}(t:Ty α)(xs:List α):Asn:=
 ⟨fun v g=>∃ p,v= .slice p xs.length xs.length/\xs.length<=lim/\Row t g p xs,fun e ⟨p,h1,h2,h3⟩=>⟨p,h1,h2,h3.mono e⟩⟩
theorem Vv{t:Ty α}{v:Value}{g:G}(h:(tLx t xs).holds v g):((tL t).is xs).holds v g:=by
 obtain ⟨p,h1,h2,h3⟩:=h;refine ⟨[v],⟨p,xs.length,by rw [h1],Nat.le_refl _,h2,?_,h3⟩,rfl⟩;intro hp;subst hp;rw [show xs= [] from h3];rfl
def tOE{α:Type}(t:Ty α)(k:Tok)(xs:List α):Asn:=
 match k with
 | none=>tLx t xs
 | some q=>tO t (some q) xs
theorem Vw{t:Ty α}{k:Tok}{v:Value}{g:G}(h:(tOE t k xs).holds v g):((tL t).is xs).holds v g:=by
 cases k with
 | none=>exact Vv h
 | some q=>exact vU h
def Tok.len(k:Tok)(n:Nat):Nat:=match k with
 | none=>0
 | some _=>n
abbrev OwnE{α:Type}(t:Ty α)(E:TypeId)(k:Tok)(n:Nat):Res:=Own t E k (k.len n)
section
variable {P:Program} {N:Nat} {g0:G} {T0:Nat->Prop} {env:Env} {res:Rs} {d:Option Tmp} {ty:TypeId} {pos:String} {aft:Array Edge} {gd:Option (Nat×Bool)}
theorem Op1.slice3{t:Ty α}{y z:Operand}{e:TypeId}{k k':IntKind}{j:Int}(h:Dec.slcHi xs j=some v)(hT:P.underlying T=some (.slice e))(hsz:∀ w,(sizeOf e).run P w= .ok t.size w)
  (hx:Opd env x ((tL t).is xs):=by exact .tmp rfl) (hy:Opd env y ((tI k).is j):=by exact .tmp rfl) (hz:Opd env z ((tI k').is j):=by exact .tmp rfl) :
  Op1 P ⟨d,.slice T x none (some y) (some z),ty,pos,aft,gd⟩ env res (tLx t v):=by
 unfold Dec.slcHi at h;split at h
 case isFalse=>cases h
 rename_i hh;cases h;obtain ⟨h0,h1⟩:=hh;refine Op1.same fun a g hc=>?_;obtain ⟨p,c,hv,h3,h4,h5,h6⟩:=hx.atL hc;have hj:j=((j.toNat:Nat):Int):=by omega
 generalize hJ:j.toNat=J at *;subst hj;have hJl:J<=xs.length:=by omega
 have hJc:J<=c:=by omega
 have hlen:(xs.take J).length=J:=by rw [List.length_take];omega
 refine ⟨.slice (if J=0 then p else p.map (·.add (0*t.size))) J J,?_,?_⟩
 ·simp [execOp,hv,(hy.atInt hc).1,(hz.atInt hc).1,Option.map,Sem.run_bind,Instr.sliceAt,Instr.slice,run_underlying hT,hsz,Instr.sliceBounds,Instr.sliceBound,asIntOf,hJc]
 ·refine ⟨_,by rw [hlen],by rw [hlen];omega,?_⟩;have:=h6.part 0 J (decide (J=0)) (by intro h;have:=of_decide_eq_true h;omega);simpa using this
theorem OpR.appendX{t:Ty α}{E:TypeId}{s:Operand}{ys:List α}{key:Nat}(h:Dec.appC xs ys=some v)(hT:P.underlying T=some (.slice E))(hE:ElAt P E t)(hs:Opd env s (tLx t xs))(hx:Opd env x ((tL t).is ys)) :
  OpR P ⟨d,.call ⟨.builtin .append,#[s,x],#[T,T]⟩,ty,pos,aft,gd⟩ env res [] (fun k':Tok=>tOE t k' v) (fun k'=>[(key,OwnE t E k' v.length)]):=by
 obtain ⟨rfl,hl⟩:=vY h;intro a g K Q hc hd hK;obtain ⟨i,z,hi,hz,hsz,hby,hzs⟩:=hE.row;obtain ⟨pp,hv,hl1,hrow⟩:=hs a g hc.henv;obtain ⟨p,c,hxv,hyc,hyl,hpn,hyrow⟩:=hx.atL hc;have hlim:xs.length+ys.length<=lim:=by unfold xy at hl;unfold lim;omega
 have run:∀ v w',(Builtin.append_ #[T,T] ty #[a.eval s,a.eval x]).run P g.w= .ok v w'->K (a.put d v) w'->
   Oper.wp P ⟨d,.call ⟨.builtin .append,#[s,x],#[T,T]⟩,ty,pos,aft,gd⟩ a g.w K Q:=by
  intro v w' hrun hK';unfold Oper.wp execOp;simp only [resolve,invoke,builtin,Sem.run_bind,Sem.run_pure,Result.andThen_ok,List.map_toArray,List.map_cons,List.map_nil,hrun];exact hK'
 rw [hv,hxv] at run;have done:∀ (k':Tok) v g',Ext No g g'->(tOE t k' (xs++ys)).holds v g'->(OwnE t E k' (xs++ys).length).holds g'->(∀ b,(k'.map Prod.fst)=some b->g.w.heap.size<=b)->K (a.put d v) g'.w:=by
  intro k' v g' e h1 h2 h3;refine hK k' v g' e.no h1 (fun y hy=>by rw [List.mem_singleton.1 hy];exact h2) (List.pairwise_singleton _ _) ?_;rintro b ⟨y,hy,hb⟩;rw [List.mem_singleton.1 hy] at hb;exact .inr (h3 b hb)
 by_cases hys:ys= []
 ·subst hys;refine done none (.slice pp xs.length xs.length) g (Ext.refl _ _) (by rw [List.append_nil];exact ⟨pp,rfl,hl1,hrow⟩) rfl (fun b hb=>by cases hb) |> run _ g.w ?_;cases p with
  | none=>
   have hc0:=hpn rfl;subst hc0;cases pp with
   | none=>
    have hx0:xs= []:=hrow;subst hx0;simp [Builtin.append_,run_underlying hT,sizeOf,typeInfo,hi,Builtin.lenOf,Builtin.firstCells]
   | some ad=>simp [Builtin.append_,run_underlying hT,sizeOf,typeInfo,hi,Builtin.lenOf,Builtin.firstCells,storeCells]
  | some ay=>
   cases pp with
   | none=>
    have hx0:xs= []:=hrow;subst hx0;simp [Builtin.append_,run_underlying hT,sizeOf,typeInfo,hi,Builtin.lenOf,Builtin.firstCells,loadCells,loadCellsFrom]
   | some ad=>simp [Builtin.append_,run_underlying hT,sizeOf,typeInfo,hi,Builtin.lenOf,Builtin.firstCells,loadCells,loadCellsFrom,storeCells]
 cases p with
 | none=>exact absurd hyrow hys
 | some ad=>
  obtain ⟨hsp,hyat⟩:=hyrow
  replace hsp:ad.spot=none:=hsp.resolve_left hys
  obtain ⟨bs,os,spot⟩:=ad;simp at hsp;subst hsp;obtain ⟨news,hnc,hnh⟩:=Row.cells hyat;have hypos:=List.length_pos_iff.2 hys;have hnl:news.length=ys.length*i.size:=by rw [hnc.1,hsz]
  have hnews:∀ (j:Nat) v,news[j]? =some v->g.w.cell? ((⟨bs,os,none⟩:Addr).add j)=some v:=fun j v hj=>by rw [Addr.add_lit];exact (hnh j v hj).2
  -- the old cells
  have holds:∃ (olds:List Value),Cells t g olds xs/\ ∀ (b:Addr),pp=some b->∀ (j:Nat) v,olds[j]? =some v->g.w.cell? (b.add j)=some v:=by
   by_cases hx0:xs= []
   ·subst hx0;exact ⟨[],⟨by simp,fun c hc=>(by cases hc),fun i x hx=>(by cases hx)⟩,fun b _ j v hj=>(by cases hj)⟩
   ·cases pp with
    | none=>exact absurd hrow hx0
    | some b=>
     obtain ⟨hb,hat⟩:=hrow
     replace hb:b.spot=none:=hb.resolve_left hx0
     obtain ⟨bb,bo,bsp⟩:=b;simp at hb;subst hb;obtain ⟨olds,h1,h2⟩:=Row.cells hat;exact ⟨olds,h1,fun b' hb' j v hj=>by cases hb';rw [Addr.add_lit];exact (h2 j v hj).2⟩
  obtain ⟨olds,hoc,hoh⟩:=holds;have hol:olds.length=xs.length*i.size:=by rw [hoc.1,hsz]
  have fin:∀ (cp:Nat) (cur:Array Value),(∀ (j:Nat) v,(olds++news)[j]? =some v->cur[j]? =some v)->(xs++ys).length<=cp->cur.size=cp*t.size->cp<=maxLen->
    K (a.put d (.slice (some ⟨g.w.heap.size,0,none⟩) (xs++ys).length cp)) (g.w.drew.alloc (.cells cur E)):=by
   intro cp cur hcur hge hcs hcm;let g':G:=g.drew.alloc (.cells cur E) ((xs++ys).length*t.size);have e:Ext No g g':=(Ext.drew No g).trans' (Ext.alloc No _ _ _);have hheap:g'.w.heap[g.w.heap.size]? =some (.cells cur E (0,0)):=heap_alloc_new g.w.drew _;refine done (some (g.w.heap.size,cp)) _ g' e ?_ ?_ (fun b hb=>by simp at hb;omega)
   ·refine ⟨rfl,hge,by simpa using hlim,?_⟩;show Row t g' (some ⟨g.w.heap.size,0,none⟩) (xs++ys);refine ((hoc.append hnc).mono e).row fun j v hj=>⟨?_,?_⟩
    ·show 0+j<(if g.w.heap.size=g.w.heap.size then _ else _);rw [if_pos rfl];have:=(List.getElem?_eq_some_iff.1 hj).1;rw [(hoc.append hnc).1] at this;omega
    ·rw [cell_of_row _ _ _ _ _ _ hheap,Nat.zero_add];exact hcur j v hj
   ·refine ⟨cur,hheap,hcs,hge,hcm,?_⟩;show (if g.w.heap.size=g.w.heap.size then _ else _)=_;rw [if_pos rfl];rfl
  cases pp with
  | none=>
   have hx0:xs= []:=hrow;subst hx0;have ho0:olds= []:=List.eq_nil_of_length_eq_zero (by rw [hol];simp);subst ho0;have h48:ys.length*i.bytes<=281474976710656:=by
    have:=Nat.mul_le_mul hl hby;unfold xy at this;simp only [List.length_nil,Nat.zero_add] at this;omega
   have hrun:=run_append_nil (P:=P) g.w T ty E i z hT hi hz ⟨bs,os,none⟩ ys.length c news hnl hnews (by omega) (by unfold lim at hlim;simp at hlim;omega) h48;refine run _ _ hrun ?_;have hge:=grownCap_ge g.w ys.length 0 E;refine fin _ _ ?_ (by simpa using hge) ?_ (grownCap_le_maxLen g.w ys.length 0 E (by unfold lim at hlim;unfold maxLen;simp at hlim;omega))
   ·intro j v hj;have hjl:=(List.getElem?_eq_some_iff.1 hj).1;rw [Array.getElem?_append_left (by simpa using hjl)];simpa using hj
   ·simp only [Array.size_append,List.size_toArray,size_zeroCells,hzs,hnc.1,<-Nat.add_mul];congr 1;omega
  | some b=>
   have hfit2:Builtin.nextslicecap (xs.length+ys.length) xs.length*i.bytes<=281474976710656:=growslice_fits (by omega) (by
    have:=Nat.mul_le_mul hl hby;unfold xy at this;omega)
   have hrun:=run_append_grow (P:=P) g.w T ty E i z hT hi hz b xs.length xs.length olds hol (hoh b rfl) ⟨bs,os,none⟩ ys.length c news hnl hnews (by omega) (by unfold lim at hlim;omega) hfit2;rw [<-List.length_append] at hrun;refine run _ _ hrun ?_;have hge:=grownCap_ge g.w (xs++ys).length xs.length E;refine fin _ _ ?_ hge ?_ (grownCap_le_maxLen g.w _ xs.length E (by rw [List.length_append];unfold lim at hlim;unfold maxLen;omega))
   ·intro j v hj;have hjl:=(List.getElem?_eq_some_iff.1 hj).1;rw [Array.getElem?_append_left (by simpa using hjl)];simpa using hj
   ·simp only [Array.size_append,List.size_toArray,size_zeroCells,hzs,hnc.1,hoc.1,<-Nat.add_mul];congr 1;rw [List.length_append] at *;omega
theorem OpR.appendE{t:Ty α}{E:TypeId}{s:Operand}{k:Tok}{ys:List α}{key:Nat}(h:Dec.appC xs ys=some v)(hT:P.underlying T=some (.slice E))(hE:ElAt P E t)(hs:Opd env s (tOE t k xs))(hx:Opd env x ((tL t).is ys))
  (hr:res.pick [key]= [(key,OwnE t E k xs.length)]) :
  OpR P ⟨d,.call ⟨.builtin .append,#[s,x],#[T,T]⟩,ty,pos,aft,gd⟩ env res [key] (fun _:Tok=>(tL t).is v) (fun _=>[]):=by
 cases k with
 | none=>
  intro a g K Q hc hd hK;exact OpR.appendX (key:=key) h hT hE hs hx a g K Q hc hd fun k' v' g' e h1 _ _ _=>hK k' v' g' (e.mono fun b ⟨y,hy,_⟩=>absurd (List.mem_filter.1 hy).2 (by simp [memB])) (Vw h1) (fun _ hy=>by cases hy) .nil fun b ⟨y,hy,_⟩=>by cases hy
 | some q=>
  intro a g K Q hc hd hK;exact OpR.appC h hT hE hs hx hr a g K Q hc hd fun k' v' g' e h1 _ _ _=>hK k' v' g' e (vU h1) (fun _ hy=>by cases hy) .nil fun b ⟨y,hy,_⟩=>by cases hy
end
end Go.Dec
