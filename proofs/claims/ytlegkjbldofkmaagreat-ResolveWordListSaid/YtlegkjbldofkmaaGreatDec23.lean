/-
  A range over a function that hands out a slice's elements from the last to the first.
-/
import Derived.Test.YtlegkjbldofkmaaGreatDec22
set_option linter.unusedVariables false
set_option linter.unusedSimpArgs false
namespace Go.Dec
open Go Go.RowKit
def Dq(D:Nat):Res where
 blk:=some D
 holds:=fun g=>g.w.heap[D]? =some (.deferred (some []))
 stay:=fun {T g g'} e hn h=>(e.same D (Array.getElem?_eq_some_iff.1 h).1 (hn D rfl)).1.trans h
 lt:=fun {g b} h hb=>by cases hb;exact (Array.getElem?_eq_some_iff.1 h).1
def markD(D:Nat):List Deferred:=[{target:=.collected D,args:=#[]}]
def Back(P:Program)(gf:Nat){α:Type}(t:Ty α):Prop:=
 ∀ (g:G) (pv:Value) (rs:List (List Value)) (n:Nat),((tL (tRaw t)).ptr rs).holds pv g→
  SeqStopsK Fence.wide n P gf #[pv] (fun k:Fin rs.length=>#[.int .i64 ((rs.length:Int)-1-(k.1:Int)),mkVal t.agg (rs.reverse.getD k.1 [])]) (fun W W'=>Stays g W→Stays g W')
   (fun ys=>ys=List.finRange rs.length) (fun pre=>pre<+: List.finRange rs.length) rs.length g.w
theorem seqM_def{α ρ:Type}{st:α→Option (Option ρ)}:∀ {ys:List α} {v:Option ρ},seqM st ys=some v→∀ (i:Nat) x,ys[i]? =some x→∃ o,st x=some o
 | [],_,_,i,x,h=>by simp at h
 | y :: ys,v,hv,i,x,h=>by
  unfold seqM at hv
  obtain ⟨o,h1,h2⟩:=bind_some hv
  obtain ⟨o',h3,_⟩:=bind_some h2
  cases i with
  | zero=>simp at h;subst h;exact ⟨o,h1⟩
  | succ i=>simp at h;exact seqM_def h3 i x h
theorem seqM_none{α ρ:Type}{st:α→Option (Option ρ)}:∀ {ys:List α} {v:Option ρ},seqM st ys=some v→(∀ (i:Nat) x,ys[i]? =some x→st x=some none)→v=none
 | [],v,hv,_=>by cases hv;rfl
 | y :: ys,v,hv,h=>by
  unfold seqM at hv
  obtain ⟨o,h1,h2⟩:=bind_some hv
  obtain ⟨o',h3,h4⟩:=bind_some h2
  have:=h 0 y rfl
  rw [this] at h1;cases h1
  have h5:=seqM_none h3 (fun i x hx=>h (i+1) x (by simpa using hx))
  subst h5
  cases h4;rfl
theorem seqM_some{α ρ:Type}{st:α→Option (Option ρ)}:∀ {ys:List α} {v:Option ρ} {r:ρ} (k:Nat) {x:α},seqM st ys=some v→ys[k]? =some x→st x=some (some r)→(∀ (j:Nat) y,j<k→ys[j]? =some y→st y=some none)→v=some r
 | [],v,r,k,x,_,h,_,_=>by simp at h
 | y :: ys,v,r,k,x,hv,hx,hr,h=>by
  unfold seqM at hv
  obtain ⟨o,h1,h2⟩:=bind_some hv
  obtain ⟨o',h3,h4⟩:=bind_some h2
  cases k with
  | zero=>
   simp at hx;subst hx
   rw [hr] at h1;cases h1
   cases h4;rfl
  | succ k=>
   have:=h 0 y (by omega) rfl
   rw [this] at h1;cases h1
   have h5:=seqM_some k h3 (by simpa using hx) hr (fun j z hj hz=>h (j+1) z (by omega) (by simpa using hz))
   subst h5
   cases h4;rfl
section
variable {P:Program} {n:Nat} {N:Nat} {g0:G} {T0:Nat→Prop} {Q:Exit→Act→World→Prop} {env:Env} {res:Rs}
theorem St.later{T:Nat→Prop}{a:Act}{g g1:G}{g2:G}(h:St N g res.blks env res a g1)(e:Ext res.blks g1 g2)(hr:res.all g2):St N g res.blks env res a g2:=
 ⟨h.sz,h.dfr,fun s A hA=>A.mono e (h.henv s A hA),hr,h.dis,h.own,h.ext.trans e (fun _ _ h=>h)⟩
theorem St.base{res':Rs}{a:Act}{g g1 g2:G}(e:Ext res.blks g g1)(h:St N g1 res.blks env res' a g2)(hb:∀ b,res'.blks b→res.blks b):St N g res.blks env res' a g2:=
 ⟨h.sz,h.dfr,h.henv,h.hres,h.dis,fun b h=>.inr (hb b h),e.trans h.ext (fun _ _ h=>h)⟩
theorem St.start{a:Act}{g:G}(h:St N g0 T0 env res a g):St N g res.blks env res a g:=⟨h.sz,h.dfr,h.henv,h.hres,h.dis,fun b hb=>.inr hb,Ext.refl _ _⟩
theorem WR.back{α ρ:Type}{t:Ty α}{xs:List α}{st:α→Option (Option ρ)}{v:Option ρ}{gf s p0 p1 kD ida:Nat}{la:List Oper}{body:Code}{envA:α→Env}{resX:ρ→Rs}(hback:Back P gf t)(h1:1≤n)
  (eg:∀ args w,(callFunc gf args).run P w= .ok (.enter gf args) w) (hs:look s env=some (cloA gf [(tL t).ptr xs])) (hv:seqM st xs.reverse=some v) (hnd:la.all nd=true) (hp:Nat.blt p0 N=true) (hp1:Nat.blt p1 N=true)
  (hp01:Nat.beq p0 p1=false) (hl0:look p0 env=none) (hl1:look p1 env=none)
  (hA:∀ g1 x B,WN P N g1 res.blks [] B (envA x) res→WL P N g1 res.blks la.toArray (KF.sem P [] B) la ((p1,t.is x) :: env) res)
  (hB:∀ l n g1 x o (Q':Exit→Act→World→Prop),st x=some o→(o=none→∀ a' g',St N g1 res.blks [] res a' g'→Q' .normal a' g'.w)→(∀ r,o=some r→∀ a' g',St N g1 res.blks [] (resX r) a' g'→Q' .ret a' g'.w)→WR P (some l) n [] N g1 res.blks body Q' (envA x) res)
  (hX:∀ r b,(resX r).blks b→res.blks b)
  (hdone:v=none→∀ a' g' D,St N g0 T0 env ((kD,Dq D) :: res) a' g'→Q .normal (sh (markD D) a') g'.w)
  (hstop:∀ r,v=some r→∀ a' g' D,St N g0 T0 env ((kD,Dq D) :: resX r) a' g'→Q .ret (sh (markD D) a') g'.w) :
  WR P none n [] N g0 T0 (.rangeFunc (.tmp s) #[p0,p1] (.region ida la.toArray false) body) Q env res:=by
 intro a g hst
 rw [sh_nil]
 obtain ⟨caps,hval,hcaps⟩:=hst.henv s _ hs
 obtain ⟨pv,rfl,hpv⟩:∃ pv,caps= [pv]∧((tL t).ptr xs).holds pv g:=by
  match caps,hcaps with
  | [pv],h=>exact ⟨pv,rfl,h.1⟩
 obtain ⟨rs,hrl,hraw,hel⟩:∃ rs:List (List Value),rs.length=xs.length∧((tL (tRaw t)).ptr rs).holds pv g∧ ∀ (i:Nat) x c,xs[i]? =some x→rs[i]? =some c→t.rep g c x:=by
  obtain ⟨b,o,k1,cs,k2,k3⟩:=hpv
  obtain ⟨rs,m1,m2,m3⟩:=raw_of k2
  exact ⟨rs,m1,⟨b,o,k1,cs,m2,k3⟩,m3⟩
 have hblk:∀ b,res.blks b→b<g.w.heap.size:=by
  rintro b ⟨y,hy,hb⟩
  exact y.2.lt (hst.hres y hy) hb
 -- the element of a round
 have hx:∀ k:Fin rs.length,∃ x,xs.reverse[k.1]? =some x∧t.rep g (rs.reverse.getD k.1 []) x:=by
  intro k
  have hk:=k.2
  have hk2:k.1<xs.length:=by omega
  refine ⟨xs.reverse[k.1]'(by simpa using hk2),List.getElem?_eq_getElem (by simpa using hk2),?_⟩
  have e1:rs.reverse.getD k.1 []=rs[rs.length-1-k.1]'(by omega):=by
   rw [List.getD_eq_getElem?_getD,List.getElem?_eq_getElem (by simp),Option.getD_some,List.getElem_reverse]
  rw [e1,List.getElem_reverse]
  refine hel (xs.length-1-k.1) _ _ (List.getElem?_eq_getElem (by omega)) ?_
  rw [List.getElem?_eq_getElem (by omega)]
  simp only [hrl]
 have hS0:St N g res.blks env res a g:=hst.start
 have hKeep:∀ {ga gb:G},ga.w.heap.size≤gb.w.heap.size→Ext res.blks ga gb→KeepsFrom g.w.heap.size ga.w gb.w:=fun {ga gb} hsz e=>
  ⟨hsz,fun k o hk ho _=>(e.same k (Array.getElem?_eq_some_iff.1 ho).1 (fun hb=>by have:=hblk k hb;omega)).1.trans ho⟩
 refine wpIn_rangeFunc_ownH (F:=Fence.wide) rfl h1 (gf:=gf) (lb:=#[pv]) hval trivial eg (hback g pv rs (n-1) hraw)
  (fun h k hs=>k (h hs)) (fun W l o o' hl ho hc _ hs=>hs.grown (grownBy_putObj' W l o') (fun r e=>by cases e;exact hl)) (Below.refl _ _) (fun _=>rfl)
  (fun pre W=>∃ g',g'.w=W∧St N g res.blks env res a g'∧ ∀ k,k∈pre→∀ x,xs.reverse[k.1]? =some x→st x=some none)
  (fun c pre W=>c= .ret∧ ∃ pre' k x r g',pre=pre'++ [k]∧xs.reverse[k.1]? =some x∧st x=some (some r)∧(∀ k,k∈pre'→∀ x,xs.reverse[k.1]? =some x→st x=some none)∧g'.w=W∧St N g res.blks env (resX r) a g')
  ?_ ?_ ⟨g,rfl,hS0,fun k hk=>by cases hk⟩
  (fun k a' W=>∃ g',g'.w=W∧St N g res.blks env res a g'∧ ∃ x,xs.reverse[k.1]? =some x∧St N g res.blks (envA x) res a' g')
  ?_ ?_ ?_ ?_ ?_
 ·rintro pre W W' row ⟨g',rfl,h,hpre⟩ hg hr
  exact ⟨g'.at W',rfl,h.turned hg hr (Nat.le_refl _) hblk,hpre⟩
 ·rintro c pre W W' row ⟨hc,pre',k,x,r,g',e1,e2,e3,e4,rfl,h⟩ hg hr
  exact ⟨hc,pre',k,x,r,g'.at W',e1,e2,e3,e4,rfl,h.turned hg hr (Nat.le_refl _) (fun b hb=>hblk b (hX r b hb))⟩
 ·rintro k a' u W W' row ⟨g',rfl,h,x,hx,h'⟩ hg hr
  exact ⟨g'.at W',rfl,h.turned hg hr (Nat.le_refl _) hblk,x,hx,h'.turned hg hr (Nat.le_refl _) hblk⟩
 · -- the assignment
  rintro l pre k W K ⟨g',rfl,h,hpre⟩ hK
  obtain ⟨x,hx1,hx2⟩:=hx k
  have hne:p0≠p1:=fun e=>by subst e;rw [Nat.beq_refl] at hp01;cases hp01
  have hp':p0<N:=by simpa [Nat.blt_eq] using hp
  have hp1':p1<N:=by simpa [Nat.blt_eq] using hp1
  obtain ⟨v0,hv0⟩:∃ v0:Value,v0= .int .i64 ((rs.length:Int)-1-(k.1:Int)):=⟨_,rfl⟩
  obtain ⟨v1,hv1⟩:∃ v1:Value,v1=mkVal t.agg (rs.reverse.getD k.1 []):=⟨_,rfl⟩
  obtain ⟨a1,ha1⟩:∃ a1:Act,a1= {tmps:=(a.tmps.setIfInBounds p0 v0).setIfInBounds p1 v1,defers:=[]}:=⟨_,rfl⟩
  have hg1:({tmps:=(#[p0,p1].zip #[Value.int .i64 ((rs.length:Int)-1-(k.1:Int)),mkVal t.agg (rs.reverse.getD k.1 [])]).foldl (fun t (p,v)=>t.setIfInBounds p v) a.tmps,defers:=[]}:Act)=a1:=by
   rw [ha1,hv0,hv1];simp
  rw [hg1]
  have hsz:a.tmps.size=N:=h.sz
  have hS1:St N g' res.blks ((p1,t.is x) :: env) res a1 g':=by
   refine ⟨by rw [ha1];simp [hsz],by rw [ha1],fun q A hq=>?_,h.hres,h.dis,fun b hb=>.inr hb,Ext.refl _ _⟩
   by_cases hq1:p1=q
   ·subst hq1
    rw [look_here] at hq
    cases hq
    have:a1.tmps.getD p1 undef=v1:=by rw [ha1];simp [Array.getD,hsz,hp1']
    rw [this,hv1]
    exact (t.is x).mono h.ext ⟨_,hx2,rfl⟩
   ·rw [look_there _ _ hq1] at hq
    have hq0:p0≠q:=fun e=>by subst e;rw [hl0] at hq;cases hq
    have:a1.tmps.getD q undef=a.tmps.getD q undef:=by
     rw [ha1]
     simp only [Array.getD_eq_getD_getElem?,Array.getElem?_setIfInBounds_ne hq1,Array.getElem?_setIfInBounds_ne hq0]
    rw [this]
    exact h.henv q A hq
  have hW:=WR.region (r:=some l) (n:=n-1-1) (D:=[]) (id:=ida) (Q:=Exit.then K (fun _ _ _=>False)) hnd (hA g' x _ (fun a2 g2 h2=>?_)) a1 g' hS1
  ·rw [sh_nil] at hW
   exact hW
  ·show K (sh [] a2) g2.w
   rw [sh_nil]
   have hl:=h.later (T:=fun _=>True) h2.ext h2.hres
   exact hK a2 g2.w (hKeep h2.ext.size h2.ext) (fun _=>Stays.of hl.ext) ⟨g2,rfl,hl,hpre⟩ ⟨g2,rfl,hl,x,hx1,h2.base h.ext (fun _ h=>h)⟩
 · -- the body
  rintro l pre k a' W hle _ ⟨gi,_,_,hpre⟩ ⟨ga,rfl,ha,x,hx1,ha'⟩ hlen
  obtain ⟨o,ho⟩:=seqM_def hv k.1 x hx1
  have hW:=hB l (n-1-1) ga x o (ownPostG g.w.heap.size (fun W W'=>Stays g W→Stays g W')
   (fun pre W=>∃ g',g'.w=W∧St N g res.blks env res a g'∧ ∀ k,k∈pre→∀ x,xs.reverse[k.1]? =some x→st x=some none)
   (fun c pre W=>c= .ret∧ ∃ pre' k x r g',pre=pre'++ [k]∧xs.reverse[k.1]? =some x∧st x=some (some r)∧(∀ k,k∈pre'→∀ x,xs.reverse[k.1]? =some x→st x=some none)∧g'.w=W∧St N g res.blks env (resX r) a g') (pre++ [k]) ga.w) ho
   (fun e a2 g2 h2=>?_) (fun r e a2 g2 h2=>?_) a' ga ha'.start
  ·rw [sh_nil] at hW
   exact hW
  ·have hl:=ha.later (T:=fun _=>True) h2.ext h2.hres
   refine ⟨hKeep h2.ext.size h2.ext,fun _=>Stays.of hl.ext,g2,rfl,hl,fun k' hk' y hy=>?_⟩
   rcases List.mem_append.1 hk' with hk' | hk'
   ·exact hpre k' hk' y hy
   ·rw [List.mem_singleton.1 hk',hx1] at hy
    cases hy
    rw [ho,e]
  ·refine ⟨hKeep h2.ext.size h2.ext,rfl,pre,k,x,r,g2,rfl,hx1,by rw [ho,e],hpre,rfl,?_⟩
   exact ⟨ha.sz,ha.dfr,fun q A hq=>A.mono h2.ext (ha.henv q A hq),h2.hres,h2.dis,fun b hb=>.inr (hX r b hb),ha.ext.trans h2.ext (fun _ _ h=>h)⟩
 · -- all have come
  rintro D ys W hD rfl ⟨g',rfl,h,hpre⟩ hDq
  have hn:v=none:=seqM_none hv (fun i y hy=>by
   have hi:i<rs.length:=by have:=(List.getElem?_eq_some_iff.1 hy).1;rw [hrl];simpa using this
   exact hpre ⟨i,hi⟩ (List.mem_finRange _) y hy)
  have he:({a with defers:={target:=.collected D,args:=#[]} :: a.defers}:Act)=sh (markD D) a:=by
   simp [sh,markD,h.dfr]
  rw [he]
  refine hdone hn a g' D ⟨h.sz,h.dfr,h.henv,?_,?_,?_,?_⟩
  ·intro y hy
   rcases List.mem_cons.1 hy with rfl | hy
   ·exact hDq
   ·exact h.hres y hy
  ·refine List.pairwise_cons.2 ⟨fun y hy b hb hyb=>?_,h.dis⟩
   have:=hblk b ⟨y,hy,hyb⟩
   cases hb
   omega
  ·rintro b ⟨y,hy,hb⟩
   rcases List.mem_cons.1 hy with rfl | hy
   ·cases hb;exact .inl (Nat.le_trans hst.ext.size hD)
   ·exact hst.own b ⟨y,hy,hb⟩
  ·exact hst.ext.trans h.ext (fun b hb hT=>(hst.own b hT).resolve_left (by omega))
 · -- one round has left
  rintro D c pre W hD hSp ⟨rfl,pre',k,x,r,g',rfl,hx1,hx2,hx3,rfl,h⟩ hDq
  have hk:pre'=(List.finRange rs.length).take k.1∧True:=by
   obtain ⟨tl,htl⟩:=hSp
   have hlen:pre'.length=k.1:=by
    have e1:(List.finRange rs.length)[pre'.length]? =some k:=by rw [←htl];simp
    have hlt:=(List.getElem?_eq_some_iff.1 e1).1
    rw [List.getElem?_eq_getElem hlt] at e1
    have:=Option.some.inj e1
    rw [←this];simp
   refine ⟨?_,trivial⟩
   rw [←htl,←hlen]
   simp
  have hsome:v=some r:=seqM_some k.1 hv hx1 hx2 (fun j y hj hy=>by
   have hj2:j<rs.length:=by have:=k.2;omega
   refine hx3 ⟨j,hj2⟩ ?_ y hy
   rw [hk.1]
   refine List.mem_of_getElem? (i:=j) ?_
   rw [List.getElem?_take,if_pos hj,List.getElem?_eq_getElem (by simpa using hj2)]
   simp)
  have he:({a with defers:={target:=.collected D,args:=#[]} :: a.defers}:Act)=sh (markD D) a:=by
   simp [sh,markD,h.dfr]
  rw [he]
  refine wpIn_ret (hstop r hsome a g' D ⟨h.sz,h.dfr,h.henv,?_,?_,?_,?_⟩)
  ·intro y hy
   rcases List.mem_cons.1 hy with rfl | hy
   ·exact hDq
   ·exact h.hres y hy
  ·refine List.pairwise_cons.2 ⟨fun y hy b hb hyb=>?_,h.dis⟩
   have:=hblk b (hX r b ⟨y,hy,hyb⟩)
   cases hb
   omega
  ·rintro b ⟨y,hy,hb⟩
   rcases List.mem_cons.1 hy with rfl | hy
   ·cases hb;exact .inl (Nat.le_trans hst.ext.size hD)
   ·exact hst.own b (hX r b ⟨y,hy,hb⟩)
  ·exact hst.ext.trans h.ext (fun b hb hT=>(hst.own b hT).resolve_left (by omega))
end
def eqs:List (Nat×Value)→Env
 | []=>[]
 | (k,v) :: r=>(k,Asn.eq v) :: eqs r
theorem look_eqs{s:Nat}{A:Asn}:∀ {L:List (Nat×Value)},look s (eqs L)=some A→∃ v,A=Asn.eq v
 | [],h=>by simp [eqs,look] at h
 | (k,v) :: r,h=>by
  unfold eqs at h
  by_cases hk:k=s
  ·subst hk;rw [look_here] at h;cases h;exact ⟨v,rfl⟩
  ·rw [look_there _ _ hk] at h;exact look_eqs h
section
variable {P:Program} {r:Option Nat} {n:Nat} {N:Nat} {g0:G} {T0:Nat→Prop} {ops:Array Oper} {Q:Exit→Act→World→Prop} {rest:List Oper} {env:Env} {res:Rs}
theorem St.eqs{L:List (Nat×Value)}{a:Act}{g:G}(h:St N g0 T0 env res a g)(hs:Sub (eqs L) env)(gX:G):St N gX No (Dec.eqs L) [] a gX:=by
 refine ⟨h.sz,h.dfr,fun s A hA=>?_,fun _ hx=>(by cases hx),List.Pairwise.nil,fun b ⟨y,hy,_⟩=>(by cases hy),Ext.refl _ _⟩
 obtain ⟨v,rfl⟩:=look_eqs hA
 obtain ⟨A0,h1,h2⟩:=hs.look s _ hA
 have:=h2 _ _ (h.henv s A0 h1)
 exact this
theorem St.entry{a:Act}{g:G}{s:Nat}{A:Asn}(h:St N g0 T0 env res a g)(hA:A.holds (a.tmps.getD s undef) g):St N g0 T0 ((s,A) :: env) res a g:=by
 refine ⟨h.sz,h.dfr,fun q B hq=>?_,h.hres,h.dis,h.own,h.ext⟩
 by_cases hk:s=q
 ·subst hk;rw [look_here] at hq;cases hq;exact hA
 ·rw [look_there _ _ hk] at hq;exact h.henv q B hq
theorem WR.begin{fn:Func}{c:Code}{As:List Asn}{vs:List Value}{g:G}{B:Exit→Act→World→Prop}(hN:fn.ntmps=N)(hA:Nat.ble As.length N=true)(hvs:All2 As vs g)
  (h:WR P none n [] N g No c B (envFrom 0 As) []):c.wpIn Fence.wide n P B {tmps:=vs.toArray++Array.replicate (fn.ntmps-vs.toArray.size) undef,defers:=[]} g.w:=by
 have hl:=hvs.len
 have hle:As.length≤N:=Nat.le_of_ble_eq_true hA
 have:=h {tmps:=vs.toArray++Array.replicate (fn.ntmps-vs.toArray.size) undef,defers:=[]} g ?_
 ·rwa [sh_nil] at this
 refine ⟨by simp [hN,hl];omega,rfl,fun s B hB=>?_,fun _ hx=>(by cases hx),List.Pairwise.nil,fun b ⟨y,hy,_⟩=>(by cases hy),Ext.refl _ _⟩
 obtain ⟨v,hv,hBv⟩:=envFrom_holds vs As vs 0 hvs (fun j u hu=>by simpa using hu) s B hB
 have hlt:s<vs.length:=(List.getElem?_eq_some_iff.1 hv).1
 have:((vs.toArray++Array.replicate (fn.ntmps-vs.toArray.size) undef).getD s undef)=v:=by
  simp only [Array.getD_eq_getD_getElem?]
  rw [Array.getElem?_append_left (by simpa using hlt)]
  simp [hv]
 rw [this]
 exact hBv
theorem WR.weaken{c:Code}{D:List Deferred}{env':Env}{res':Rs}(hs:Sub env' env)(hr:RSub res' res)(h:WR P r n D N g0 T0 c Q env' res'):WR P r n D N g0 T0 c Q env res:=fun a g hst=>h a g (hst.weaken hs hr)
theorem WR.weakR{c:Code}{D:List Deferred}{res':Rs}(hr:RSub res' res)(h:WR P r n D N g0 T0 c Q env res'):WR P r n D N g0 T0 c Q env res:=
 fun a g hst=>h a g ⟨hst.sz,hst.dfr,hst.henv,fun x hx=>hst.hres x (hr.mem x hx),hr.dis hst.dis,fun b ⟨x,hx,hb⟩=>hst.own b ⟨x,hr.mem x hx,hb⟩,hst.ext⟩
theorem WR.go{c:Code}{D:List Deferred}{a:Act}{g:G}(h:WR P r n D N g0 T0 c Q env res)(hst:St N g0 T0 env res a g):c.wpIn (ring r) n P Q (sh D a) g.w:=h a g hst
theorem WR.condT{x:Operand}{c d:Code}{D:List Deferred}(hx:Opd env x (tB.is true))(ht:WR P r n D N g0 T0 c Q env res):WR P r n D N g0 T0 (.cond x c d) Q env res:=
 WR.cond hx (fun _=>ht) (fun h=>by cases h)
theorem WR.condF{x:Operand}{c d:Code}{D:List Deferred}(hx:Opd env x (tB.is false))(hf:WR P r n D N g0 T0 d Q env res):WR P r n D N g0 T0 (.cond x c d) Q env res:=
 WR.cond hx (fun h=>by cases h) (fun _=>hf)
theorem WR.skipS{y:Code}{D:List Deferred}(h:WR P r n D N g0 T0 y Q env res):WR P r n D N g0 T0 .skip (Exit.then (y.wpIn (ring r) n P Q) Q) env res:=fun a g hs=>wpIn_skip (h a g hs)
theorem WR.loopI{c:Code}(I:Act→World→Prop)(m:Act→World→Nat)(h0:∀ a g,St N g0 T0 env res a g→I a g.w)
  (round:∀ a w,I a w→c.wpIn (ring r) n P (Exit.then (fun a' w'=>I a' w'∧m a' w'< m a w) Q) a w):WR P r n [] N g0 T0 (.loop c) Q env res:=by
 intro a g hst
 rw [sh_nil]
 exact wpIn_loop I m (h0 a g hst) round
theorem WLI.yield{α:Type}{t:Ty α}{q:Int}{l0 d:Nat}{x y z:Operand}{ats:Array TypeId}{ty:TypeId}{pos:String}{aft:Array Edge}{A B:World→Prop}(hx:Opd env x (Asn.eq (.func (.yield l0) #[] #[])))(hy:Opd env y ((tI .i64).is q))
  {c:List Value} (hz:Opd env z ((tRaw t).is c))
  (hY:∀ a g,St N g0 T0 env res a g→YieldAt Fence.wide (n-1) P l0 #[.int .i64 q,mkVal t.agg c] g.w (fun e W'=>(e= .returned (.bool true)∧A W')∨(e= .returned (.bool false)∧B W')))
  (k:∀ a g w' b,St N g0 T0 env res a g→(b=true→A w')→(b=false→B w')→wpListIn (ring none) n P ops Q rest (a.put (some d) (.bool b)) w') :
  WLI P none n N g0 T0 ops Q (⟨some d,.call ⟨.value x,#[y,z],ats⟩,ty,pos,aft,none⟩ :: rest) env res:=by
 intro a g hs
 refine wpListIn_plain rfl fun K hK=>⟨fun f _=>trivial,?_⟩
 obtain ⟨fn,tmps,assign,body,hy1,hR⟩:=hY a g hs
 have e1:a.eval x= .func (.yield l0) #[] #[]:=hx a g hs.henv
 have e2:a.eval y= .int .i64 q:=(hy.atInt hs.cx).1
 have e3:a.eval z=mkVal t.agg c:=by
  obtain ⟨cs,⟨h1,_,_⟩,h2⟩:=hz a g hs.henv
  rw [h2,h1];rfl
 have hrun:(execOp a.eval ⟨some d,.call ⟨.value x,#[y,z],ats⟩,ty,pos,aft,none⟩).run P g.w= .ok (.round l0 fn tmps assign body) g.w:=by
  simp only [execOp,resolve,e1,e2,e3]
  simp [Deferred.ofValue,invoke,e1,e2,e3,hy1]
 show Oper.uponIn Fence.wide n P _ a K Q ((Oper.semAt none a.eval _).run P g.w)
 rw [Oper.semAt_none,hrun]
 refine ⟨fun h=>(by cases h),hR.mono ?_⟩
 rintro e w' (⟨rfl,h⟩ | ⟨rfl,h⟩)
 ·exact hK _ _ (k a g w' true hs (fun _=>h) (fun h=>by cases h))
 ·exact hK _ _ (k a g w' false hs (fun h=>by cases h) (fun _=>h))
theorem grown_of{g g':G}(h:Ext No g g'):g.w.grownBy g'.w none:=⟨h.os,h.tape,h.output,h.size,fun k hk _=>(h.same k hk (fun hf=>hf.elim)).1⟩
end
section
variable {P:Program} {n N:Nat} {g0:G} {env:Env} {res:Rs} {fn:Func} {ρ:Type}
theorem St.shut{kD D:Nat}{a:Act}{g:G}{T0:Nat→Prop}(h:St N g0 T0 env ((kD,Dq D) :: res) a g):St N g0 T0 env res a (g.at (g.w.putObj D (.deferred none))):=by
 have hD:g.w.heap[D]? =some (.deferred (some [])):=h.hres (kD,Dq D) List.mem_cons_self
 have e:Ext (fun b=>some D=some b) g (g.at (g.w.putObj D (.deferred none))):=ext_grown (grownBy_putObj' g.w D (.deferred none)) (fun r e=>by cases e;exact ⟨_,hD,rfl⟩)
 have hp:=List.pairwise_cons.1 h.dis
 refine ⟨h.sz,h.dfr,fun s A hA=>A.mono e (h.henv s A hA),fun y hy=>y.2.stay e (fun b hb hDb=>?_) (h.hres y (List.mem_cons_of_mem _ hy)),hp.2,fun b ⟨y,hy,hb⟩=>h.own b ⟨y,List.mem_cons_of_mem _ hy,hb⟩,h.ext.trans e (fun x hx hDx=>?_)⟩
 ·have:=hp.1 y hy D rfl
  cases hDb
  exact this hb
 ·cases hDx
  exact (h.own D ⟨(kD,Dq D),List.mem_cons_self,rfl⟩).resolve_left (by omega)
theorem leave2{kD D:Nat}{a:Act}{g:G}{A B:Asn}{rv rv2:ResultVar}(hst:St N g0 No env ((kD,Dq D) :: res) a g)(hr:fn.results= #[rv,rv2])(h:ResAt P env res rv A)(k:ResAt P env res rv2 B) :
  bodyPostM Fence.wide n P fn (fun e w'=>∃ v g',g'.w=w'∧e= .returned v∧Ext No g0 g'∧(Asn.tuple2 A B).holds v g') .ret (sh (markD D) a) g.w:=by
 have hD:g.w.heap[D]? =some (.deferred (some [])):=hst.hres (kD,Dq D) List.mem_cons_self
 have hS:=hst.shut
 obtain ⟨v,h1,h2⟩:=h a _ hS.cx
 obtain ⟨u,k1,k2⟩:=k a _ hS.cx
 show LeavesInM Fence.wide n P fn a.tmps _ (a.defers++markD D) .returning g.w
 rw [hst.dfr]
 refine ⟨by simp,.inl ⟨D,_,rfl,run_takeDeferred hD,?_⟩⟩
 refine ⟨.tuple #[v,u],?_,.tuple #[v,u],_,rfl,rfl,hS.ext,v,u,rfl,h2,k2⟩
 rw [results_eq,hr]
 have h1':(readRes a.tmps rv).run P (g.w.putObj D (.deferred none))= .ok v (g.w.putObj D (.deferred none)):=h1
 have k1':(readRes a.tmps rv2).run P (g.w.putObj D (.deferred none))= .ok u (g.w.putObj D (.deferred none)):=k1
 simp [h1',k1']
end
def Asn.both(A B:Asn):Asn:=⟨fun v g=>A.holds v g∧B.holds v g,fun e h=>⟨A.mono e h.1,B.mono e h.2⟩⟩
theorem Opd.eqInt{env:Env}{x:Operand}{q:Int}(hq:inR .i64 q)(h:Opd env x (Asn.eq (.int .i64 q))):Opd env x ((tI .i64).is q):=
 h.weak fun v g hv=>⟨[v],⟨by rw [show v=_ from hv],hq⟩,rfl⟩
theorem eq_of_int{q q':Int}{v:Value}{g:G}(h:((tI .i64).is q).holds v g)(e:q=q'):(Asn.eq (.int .i64 q')).holds v g:=by
 subst e
 obtain ⟨cs,⟨h1,_⟩,h2⟩:=h
 show v=_
 rw [h2,h1];rfl
theorem Stays.on{g g':G}{w:World}{T:Nat→Prop}(h:Stays g w)(e:Ext T (g.at w) g'):Stays g g'.w:=
 ⟨e.os.trans h.os,e.tape.trans h.tape,e.output.trans h.output,Nat.le_trans h.size e.size,fun b i v hv=>(e.kept b i v ⟨hv.1,h.kept b i v hv⟩).2⟩
section
variable {P:Program} {r:Option Nat} {n:Nat} {N:Nat} {g0:G} {T0:Nat→Prop} {Q:Exit→Act→World→Prop} {env:Env} {res:Rs}
theorem WR.go0{c:Code}{a:Act}{g:G}{w:World}(h:WR P r n [] N g0 T0 c Q env res)(hst:St N g0 T0 env res a g)(hw:g.w=w):c.wpIn (ring r) n P Q a w:=by
 subst hw
 have:=h a g hst
 rwa [sh_nil] at this
theorem WR.exit{id:Nat}{D:List Deferred}(h:∀ a g,St N g0 T0 env res a g→Q (.exit id) (sh D a) g.w):WR P r n D N g0 T0 (.exit id) Q env res:=fun a g hs=>wpIn_exit (h a g hs)
end
theorem inBlock_exit{id:Nat}{Q:Exit→Act→World→Prop}{a:Act}{w:World}(h:Q .normal a w):Exit.inBlock id Q (.exit id) a w:=by
 show (if id=id then _ else _)
 rw [if_pos rfl]
 exact h
theorem then_exit{id:Nat}{K:Act→World→Prop}{Q:Exit→Act→World→Prop}{a:Act}{w:World}(h:Q (.exit id) a w):Exit.then K Q (.exit id) a w:=h
theorem idx_back{α:Type}{rs:List α}{k:Nat}{d:α}(hk:k<rs.length):idx rs ((rs.length:Int)-1-(k:Int))=some (rs.reverse.getD k d):=by
 have h0:0≤(rs.length:Int)-1-(k:Int):=by omega
 have h1:((rs.length:Int)-1-(k:Int)).toNat=rs.length-1-k:=by omega
 unfold idx
 rw [if_pos h0,h1,List.getElem?_eq_getElem (by omega),List.getD_eq_getElem?_getD,List.getElem?_eq_getElem (by simpa using hk),Option.getD_some,List.getElem_reverse]
theorem take_next{n k:Nat}(hk:k<n):(List.finRange n).take (k+1)=(List.finRange n).take k++ [⟨k,hk⟩]:=by
 rw [List.take_succ_eq_append_getElem (by simpa using hk)]
 simp
end Go.Dec
