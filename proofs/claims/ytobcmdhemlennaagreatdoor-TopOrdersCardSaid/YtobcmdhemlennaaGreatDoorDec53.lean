import Derived.Test.YtobcmdhemlennaaGreatDoorDec46
import Derived.Test.YtobcmdhemlennaaGreatDoorDec32
import Derived.Sort.OwnSorted
/-
  append(append(s[:n:n], l...), m...): a slice of a plain slice that is full, and what grows from it.
-/
set_option linter.unusedVariables false
set_option linter.unusedSimpArgs false
namespace Go.Dec
open Go
variable {T:TypeId}{α:Type}{v:List α}{x:Operand}{xs:List α}
def tLx{α:Type}(t:Ty α)(xs:List α):Asn:=
 ⟨λv g=>∃ p,v= .slice p xs.length xs.length/\xs.length<=lim/\Row t g p xs,λe ⟨p,h1,h2,h3⟩=>⟨p,h1,h2,h3.mono e⟩⟩
theorem UF{t:Ty α}{v:Value}{g:G}(h:(tLx t xs).holds v g):((tL t).is xs).holds v g:=by
 obtain ⟨p,h1,h2,h3⟩:=h;refine ⟨[v],⟨p,xs.length,by rw [h1],Nat.le_refl _,h2,?_,h3⟩,rfl⟩;intro hp;subst hp;rw [show xs= [] from h3];rfl
def tOE{α:Type}(t:Ty α)(k:Tok)(xs:List α):Asn:=
 match k with
 | none=>tLx t xs
 | some q=>tO t (some q) xs
theorem UG{t:Ty α}{k:Tok}{v:Value}{g:G}(h:(tOE t k xs).holds v g):((tL t).is xs).holds v g:=by
 cases k with
 | none=>exact UF h
 | some q=>exact uL h
def Tok.len(k:Tok)(n:Nat):Nat:=match k with
 | none=>0
 | some _=>n
abbrev OwnE{α:Type}(t:Ty α)(E:TypeId)(k:Tok)(n:Nat):Res:=Own t E k (k.len n)
section
variable {P:Program} {N:Nat} {g0:G} {T0:Nat->Prop} {env:Env} {res:Rs} {d:Option Tmp} {ty:TypeId} {pos:String} {aft:Array Edge} {gd:Option (Nat×Bool)}
theorem Op1.slice3{t:Ty α}{y z:Operand}{e:TypeId}{k k':IntKind}{j:Int}(h:Dec.slcHi xs j=some v)(hT:P.underlying T=some (.slice e))(hsz:∀ w,(sizeOf e).run P w= .ok t.size w)
  (hx:Opd env x ((tL t).is xs):=by exact .tmp rfl) (hy:Opd env y ((tI k).is j):=by exact .tmp rfl) (hz:Opd env z ((tI k').is j):=by exact .tmp rfl) :
  Op1 P ⟨d,.slice T x none (some y) (some z),ty,pos,aft,gd⟩ env res (tLx t v):=by
 unfold Dec.slcHi at h;split at h
 case isFalse=>cases h
 rename_i hh;cases h;obtain ⟨h0,h1⟩:=hh;refine Op1.same λa g hc=>?_;obtain ⟨p,c,hv,h3,h4,h5,h6⟩:=hx.atL hc;have hj:j=((j.toNat:Nat):Int):=by omega
 generalize hJ:j.toNat=J at *;subst hj;have hJl:J<=xs.length:=by omega
 have hJc:J<=c:=by omega
 have hlen:(xs.take J).length=J:=by rw [List.length_take];omega
 refine ⟨.slice (if J=0 then p else p.map (·.add (0*t.size))) J J,?_,?_⟩
 .simp [execOp,hv,(hy.atInt hc).1,(hz.atInt hc).1,Option.map,Sem.run_bind,Instr.sliceAt,Instr.slice,run_underlying hT,hsz,Instr.sliceBounds,Instr.sliceBound,asIntOf,hJc]
 .refine ⟨_,by rw [hlen],by rw [hlen];omega,?_⟩;have:=h6.part 0 J (decide (J=0)) (by intro h;have:=of_decide_eq_true h;omega);simpa using this
theorem OpR.appendX{t:Ty α}{E:TypeId}{s:Operand}{ys:List α}{key:Nat}(h:Dec.appC xs ys=some v)(hT:P.underlying T=some (.slice E))(hE:ElAt P E t)(hs:Opd env s (tLx t xs))(hx:Opd env x ((tL t).is ys)) :
  OpR P ⟨d,.call ⟨.builtin .append,#[s,x],#[T,T]⟩,ty,pos,aft,gd⟩ env res [] (λk':Tok=>tOE t k' v) (λk'=>[(key,OwnE t E k' v.length)]):=by
 obtain ⟨rfl,hl⟩:=uQ h;intro a g K Q hc hd hK;obtain ⟨i,z,hi,hz,hsz,hby,hzs⟩:=hE.row;obtain ⟨pp,hv,hl1,hrow⟩:=hs a g hc.henv;obtain ⟨p,c,hxv,hyc,hyl,hpn,hyrow⟩:=hx.atL hc;have hlim:xs.length+ys.length<=lim:=by unfold vY at hl;unfold lim;omega
 have run:∀ v w',(Builtin.append_ #[T,T] ty #[a.eval s,a.eval x]).run P g.w= .ok v w'->K (a.put d v) w'->
   Oper.wp P ⟨d,.call ⟨.builtin .append,#[s,x],#[T,T]⟩,ty,pos,aft,gd⟩ a g.w K Q:=by
  intro v w' hrun hK';unfold Oper.wp execOp;simp only [resolve,invoke,builtin,Sem.run_bind,Sem.run_pure,Result.andThen_ok,List.map_toArray,List.map_cons,List.map_nil,hrun];exact hK'
 rw [hv,hxv] at run;have done:∀ (k':Tok) v g',Ext No g g'->(tOE t k' (xs++ys)).holds v g'->(OwnE t E k' (xs++ys).length).holds g'->(∀ b,(k'.map Prod.fst)=some b->g.w.heap.size<=b)->K (a.put d v) g'.w:=by
  intro k' v g' e h1 h2 h3;refine hK k' v g' e.no h1 (λy hy=>by rw [List.mem_singleton.1 hy];exact h2) (List.pairwise_singleton _ _) ?_;rintro b ⟨y,hy,hb⟩;rw [List.mem_singleton.1 hy] at hb;exact .inr (h3 b hb)
 by_cases hys:ys= []
 .subst hys;refine done none (.slice pp xs.length xs.length) g (Ext.refl _ _) (by rw [List.append_nil];exact ⟨pp,rfl,hl1,hrow⟩) rfl (λb hb=>by cases hb) |> run _ g.w ?_;cases p with
  | none=>
   have hc0:=hpn rfl;subst hc0;cases pp with
   | none=>
    have hx0:xs= []:=hrow;subst hx0;simp [Builtin.append_,run_underlying hT,sizeOf,typeInfo,hi,Builtin.lenOf,Builtin.firstCells]
   | some ad=>simp [Builtin.append_,run_underlying hT,sizeOf,typeInfo,hi,Builtin.lenOf,Builtin.firstCells,storeCells]
  | some ay=>
   cases pp with
   | none=>
    have hx0:xs= []:=hrow;subst hx0;simp [Builtin.append_,run_underlying hT,sizeOf,typeInfo,hi,Builtin.lenOf,Builtin.firstCells,loadCells,loadCellsFrom]
   | some ad=>simp [Builtin.append_,run_underlying hT,sizeOf,typeInfo,hi,Builtin.lenOf,Builtin.firstCells,loadCells,loadCellsFrom,storeCells]
 cases p with
 | none=>exact absurd hyrow hys
 | some ad=>
  obtain ⟨hsp,hyat⟩:=hyrow
  replace hsp:ad.spot=none:=hsp.resolve_left hys
  obtain ⟨bs,os,spot⟩:=ad;simp at hsp;subst hsp;obtain ⟨news,hnc,hnh⟩:=Row.cells hyat;have hypos:=List.length_pos_iff.2 hys;have hnl:news.length=ys.length*i.size:=by rw [hnc.1,hsz]
  have hnews:∀ (j:Nat) v,news[j]? =some v->g.w.cell? ((⟨bs,os,none⟩:Addr).add j)=some v:=λj v hj=>by rw [Addr.add_lit];exact (hnh j v hj).2
  -- the old cells
  have holds:∃ (olds:List Value),Cells t g olds xs/\ ∀ (b:Addr),pp=some b->∀ (j:Nat) v,olds[j]? =some v->g.w.cell? (b.add j)=some v:=by
   by_cases hx0:xs= []
   .subst hx0;exact ⟨[],⟨by simp,λc hc=>(by cases hc),λi x hx=>(by cases hx)⟩,λb _ j v hj=>(by cases hj)⟩
   .cases pp with
    | none=>exact absurd hrow hx0
    | some b=>
     obtain ⟨hb,hat⟩:=hrow
     replace hb:b.spot=none:=hb.resolve_left hx0
     obtain ⟨bb,bo,bsp⟩:=b;simp at hb;subst hb;obtain ⟨olds,h1,h2⟩:=Row.cells hat;exact ⟨olds,h1,λb' hb' j v hj=>by cases hb';rw [Addr.add_lit];exact (h2 j v hj).2⟩
  obtain ⟨olds,hoc,hoh⟩:=holds;have hol:olds.length=xs.length*i.size:=by rw [hoc.1,hsz]
  have fin:∀ (cp:Nat) (cur:Array Value),(∀ (j:Nat) v,(olds++news)[j]? =some v->cur[j]? =some v)->(xs++ys).length<=cp->cur.size=cp*t.size->cp<=maxLen->
    K (a.put d (.slice (some ⟨g.w.heap.size,0,none⟩) (xs++ys).length cp)) (g.w.drew.alloc (.cells cur E)):=by
   intro cp cur hcur hge hcs hcm;let g':G:=g.drew.alloc (.cells cur E) ((xs++ys).length*t.size);have e:Ext No g g':=(Ext.drew No g).trans' (Ext.alloc No _ _ _);have hheap:g'.w.heap[g.w.heap.size]? =some (.cells cur E (0,0)):=heap_alloc_new g.w.drew _;refine done (some (g.w.heap.size,cp)) _ g' e ?_ ?_ (λb hb=>by simp at hb;omega)
   .refine ⟨rfl,hge,by simpa using hlim,?_⟩;show Row t g' (some ⟨g.w.heap.size,0,none⟩) (xs++ys);refine ((hoc.append hnc).mono e).row λj v hj=>⟨?_,?_⟩
    .show 0+j<(if g.w.heap.size=g.w.heap.size then _ else _);rw [if_pos rfl];have:=(List.getElem?_eq_some_iff.1 hj).1;rw [(hoc.append hnc).1] at this;omega
    .rw [cell_of_row _ _ _ _ _ _ hheap,Nat.zero_add];exact hcur j v hj
   .refine ⟨cur,hheap,hcs,hge,hcm,?_⟩;show (if g.w.heap.size=g.w.heap.size then _ else _)=_;rw [if_pos rfl];rfl
  cases pp with
  | none=>
   have hx0:xs= []:=hrow;subst hx0;have ho0:olds= []:=List.eq_nil_of_length_eq_zero (by rw [hol];simp);subst ho0;have h48:ys.length*i.bytes<=281474976710656:=by
    have:=Nat.mul_le_mul hl hby;unfold vY at this;simp only [List.length_nil,Nat.zero_add] at this;omega
   have hrun:=run_append_nil (P:=P) g.w T ty E i z hT hi hz ⟨bs,os,none⟩ ys.length c news hnl hnews (by omega) (by unfold lim at hlim;simp at hlim;omega) h48;refine run _ _ hrun ?_;have hge:=grownCap_ge g.w ys.length 0 E;refine fin _ _ ?_ (by simpa using hge) ?_ (grownCap_le_maxLen g.w ys.length 0 E (by unfold lim at hlim;unfold maxLen;simp at hlim;omega))
   .intro j v hj;have hjl:=(List.getElem?_eq_some_iff.1 hj).1;rw [Array.getElem?_append_left (by simpa using hjl)];simpa using hj
   .simp only [Array.size_append,List.size_toArray,size_zeroCells,hzs,hnc.1,<-Nat.add_mul];congr 1;omega
  | some b=>
   have hfit2:Builtin.nextslicecap (xs.length+ys.length) xs.length*i.bytes<=281474976710656:=growslice_fits (by omega) (by
    have:=Nat.mul_le_mul hl hby;unfold vY at this;omega)
   have hrun:=run_append_grow (P:=P) g.w T ty E i z hT hi hz b xs.length xs.length olds hol (hoh b rfl) ⟨bs,os,none⟩ ys.length c news hnl hnews (by omega) (by unfold lim at hlim;omega) hfit2;rw [<-List.length_append] at hrun;refine run _ _ hrun ?_;have hge:=grownCap_ge g.w (xs++ys).length xs.length E;refine fin _ _ ?_ hge ?_ (grownCap_le_maxLen g.w _ xs.length E (by rw [List.length_append];unfold lim at hlim;unfold maxLen;omega))
   .intro j v hj;have hjl:=(List.getElem?_eq_some_iff.1 hj).1;rw [Array.getElem?_append_left (by simpa using hjl)];simpa using hj
   .simp only [Array.size_append,List.size_toArray,size_zeroCells,hzs,hnc.1,hoc.1,<-Nat.add_mul];congr 1;rw [List.length_append] at *;omega
theorem OpR.appendE{t:Ty α}{E:TypeId}{s:Operand}{k:Tok}{ys:List α}{key:Nat}(h:Dec.appC xs ys=some v)(hT:P.underlying T=some (.slice E))(hE:ElAt P E t)(hs:Opd env s (tOE t k xs))(hx:Opd env x ((tL t).is ys))
  (hr:res.pick [key]= [(key,OwnE t E k xs.length)]) :
  OpR P ⟨d,.call ⟨.builtin .append,#[s,x],#[T,T]⟩,ty,pos,aft,gd⟩ env res [key] (λ_:Tok=>(tL t).is v) (λ_=>[]):=by
 cases k with
 | none=>
  intro a g K Q hc hd hK;exact OpR.appendX (key:=key) h hT hE hs hx a g K Q hc hd λk' v' g' e h1 _ _ _=>hK k' v' g' (e.mono λb ⟨y,hy,_⟩=>absurd (List.mem_filter.1 hy).2 (by simp [memB])) (UG h1) (λ_ hy=>by cases hy) .nil λb ⟨y,hy,_⟩=>by cases hy
 | some q=>
  intro a g K Q hc hd hK;exact OpR.appC h hT hE hs hx hr a g K Q hc hd λk' v' g' e h1 _ _ _=>hK k' v' g' e (uL h1) (λ_ hy=>by cases hy) .nil λb ⟨y,hy,_⟩=>by cases hy
end
end Go.Dec
/-
  A range over a function that hands out rows of integers which it turns itself between the rounds; the body looks at a row, and its own slices grow.
-/
namespace Go.Dec
open Go Go.RowKit
theorem OwnU.flat{α:Type}{t:Ty α}(hF:Flat t){E:TypeId}{k:Tok}{xs:List α}{W:World}{S S':Nat->Nat}(h:(OwnU t E k xs).holds ⟨W,S⟩)(hS:∀ b,k.map Prod.fst=some b->S' b=0):(OwnU t E k xs).holds ⟨W,S'⟩:=by
 cases k with
 | none=>exact h
 | some p=>
  obtain ⟨cur,h1,h2,h3,h4,h5,h6⟩:=h;exact ⟨cur,h1,h2,h3,h4,hS p.1 rfl,h6.1,h6.2.1,λi x hx=>let ⟨ds,k1,k2⟩:=h6.2.2 i x hx;⟨ds,hF _ _ _ _ k1,k2⟩⟩
structure Lend {α:Type} (va:Tok->α->Asn) (ld:Tok->α->Rs):Prop where
 flat:∀ {k x v W S S'},(∀ b,k.map Prod.fst=some b->S' b=0)->(va k x).holds v ⟨W,S⟩->(ld k x).all ⟨W,S⟩->(va k x).holds v ⟨W,S'⟩/\(ld k x).all ⟨W,S'⟩
 blk:∀ {k x b},(ld k x).blks b->k.map Prod.fst=some b
 dis:∀ {k x},(ld k x).dis
 zero:∀ {k x v g},(va k x).holds v g->(ld k x).all g->∀ {b},k.map Prod.fst=some b->g.S b=0
 cov:∀ {k x v g},(va k x).holds v g->∀ {b},k.map Prod.fst=some b->(ld k x).blks b
def LentV{α:Type}(va:Tok->α->Asn)(ld:Tok->α->Rs)(k:Tok)(x:α)(v:Value)(W:World):Prop:=(va k x).holds v ⟨W,λ_=>0⟩/\(ld k x).all ⟨W,λ_=>0⟩
def IterR(P:Program)(gf:Nat)(Cs:List Asn){α:Type}(va:Tok->α->Asn)(ld:Tok->α->Rs)(rows:List α):Prop:=
 ∀ (g:G) (caps:List Value) (n:Nat),All2 Cs caps g->∀ (l:Nat) (J:Nat->Tok->World->Prop) (W:World),Below g.w.heap.size g.w W->
  (∀ i k W1 W2 row,J i k W1->W1.grownBy W2 row->(∀ r,row=some r->k.map Prod.fst=some r)->J i k W2)->
  (∀ k W2,W.grownBy W2 none->(∀ b,k.map Prod.fst=some b->W.heap.size<=b)->J 0 k W2)->
  (∀ (i:Nat) x k v W1,rows[i]? =some x->J i k W1->LentV va ld k x v W1->YieldAt Fence.wide (n-1) P l #[v] W1 λe W'=>
   e= .returned (.bool true)/\J (i+1) k W'/\LentV va ld k x v W'/\(Stays g W1->Stays g W'))->
  CallsIn Fence.wide n P gf (#[.func (.yield l) #[] #[]]++caps.toArray) W λe W'=>(∃ v,e= .returned v)/\ ∃ k,J rows.length k W'
theorem Lend.row{E:TypeId}{kr:Nat}:Lend (λk (xs:List Int)=>tU k xs.length) (λk xs=>[(kr,OwnU (tI .i64) E k xs)]) where
 flat:=λhS h1 h2=>⟨h1,λy hy=>by
  rw [List.mem_singleton.1 hy];exact OwnU.flat Flat.I (h2 _ List.mem_cons_self) hS⟩
 blk:=λ⟨y,hy,hb⟩=>by rw [List.mem_singleton.1 hy] at hb;exact hb
 dis:=List.pairwise_singleton _ _
 zero:=λ_ h b hb=>OwnU.zero (h _ List.mem_cons_self) hb
 cov:=λ_ b hb=>⟨_,List.mem_cons_self,hb⟩
def intK(k:Tok)(x:Int):Asn:=⟨λv g=>k=none/\((tI .i64).is x).holds v g,λe h=>⟨h.1,((tI .i64).is x).mono e h.2⟩⟩
theorem Lend.int:Lend intK (λ_ _=>[]) where
 flat:=λ_ h1 _=>⟨h1,λy hy=>by cases hy⟩
 blk:=λ⟨y,hy,_⟩=>by cases hy
 dis:=List.Pairwise.nil
 zero:=λh _ b hb=>by rw [h.1] at hb;cases hb
 cov:=λh b hb=>by rw [h.1] at hb;cases hb
theorem vF{σ α:Type}{st:σ->α->Option σ}:∀ {xs ys:List α} {s q:σ},foldS st s xs=some q->foldS st s (xs++ys)=foldS st q ys
 | [],_,s,q,h=>by cases h;rfl
 | x :: xs,ys,s,q,h=>by
  unfold foldS at h;obtain ⟨o,h1,h2⟩:=bind_some h;show Option.bind (st s x) _=_;rw [h1];exact vF (xs:=xs) h2
theorem St.Ko{N:Nat}{g0:G}{T0:Nat->Prop}{env:Env}{res:Rs}{a:Act}{g:G}{w':World}{row:Option Nat}(h:St N g0 T0 env res a g)(hg:g.w.grownBy w' row)
  (hr:∀ r,row=some r->g0.w.heap.size<=r/\ ¬ res.blks r/\ ∃ o:Obj,g.w.heap[r]? =some o/\whl o=none):St N g0 T0 env res a (g.at w'):=by
 have e:=xA hg (λr e=>(hr r e).2.2);refine ⟨h.sz,h.dfr,λs A hA=>A.mono e (h.henv s A hA),h.hres.stay e (λb hb hrow=>(hr b hrow).2.1 hb),h.dis,h.own,h.ext.trans e (λx hx hrow=>?_)⟩;have:=(hr x hrow).1;omega
theorem St.Kq{N:Nat}{g0:G}{T0:Nat->Prop}{env:Env}{res:Rs}{a:Act}{g:G}{w':World}{row:Option Nat}(h:St N g0 T0 env res a g)(hg:g.w.grownBy w' row)
  (hr:∀ r,row=some r->g0.w.heap.size<=r/\ ¬ res.blks r/\g.S r=0):St N g0 T0 env res a (g.at w'):=by
 have e:Ext (λb=>row=some b) g (g.at w'):=
  ⟨hg.os,hg.tape,hg.output,hg.size,λb hb hn=>⟨hg.block b hb (λe=>hn e.symm),rfl⟩,λb i v hv=>by
   refine ⟨hv.1,?_⟩;show w'.cell? _=_;refine (World.cell?_of_block (hg.block b hv.lt (λe=>?_))).trans hv.2;have:=(hr b e.symm).2.2;have:=hv.1;omega,λb n hv=>hv.same (hg.block b hv.lt (λe=>(hv.pos (hr b e.symm).2.2).elim)) (Nat.le_refl _)⟩
 refine ⟨h.sz,h.dfr,λs A hA=>A.mono e (h.henv s A hA),h.hres.stay e (λb hb hrow=>(hr b hrow).2.1 hb),h.dis,h.own,h.ext.trans e (λx hx hrow=>?_)⟩;have:=(hr x hrow).1;omega
def G.zero(g:G)(n:Nat):G:=⟨g.w,λb=>if n<=b then 0 else g.S b⟩
theorem Ext.zero{g:G}{n:Nat}(h:g.w.heap.size<=n):Ext No g (g.zero n):=by
 refine ⟨rfl,rfl,rfl,Nat.le_refl _,λb hb _=>⟨rfl,?_⟩,λb i v hv=>⟨?_,hv.2⟩,λb n hv=>hv.same rfl ?_⟩
 .show (if _ then _ else _)=_;rw [if_neg (by omega)]
 .show i<(if _ then _ else _);have:=hv.lt;have:=hv.1;rw [if_neg (by omega)];omega
 .show _<=(if _ then _ else _);have:=hv.lt;rw [if_neg (by omega)];exact Nat.le_refl _
section
variable {P:Program} {n:Nat} {N:Nat} {g0:G} {T0:Nat->Prop} {Q:Exit->Act->World->Prop} {env:Env}
theorem WR.forR{σ τ α:Type}{rows:List α}{va:Tok->α->Asn}{ld:Tok->α->Rs}{Cs:List Asn}{st:σ->α->Option σ}{v:σ}{gf s p0 kD ida:Nat}{la:List Oper}{body:Code}{envA:Tok->α->Env}{resA:σ->τ->Rs}(s0:σ)(t0:τ)
  (hL:Lend va ld) (hit:IterR P gf Cs va ld rows) (h1:1<=n) (eg:∀ args w,(callFunc gf args).run P w= .ok (.enter gf args) w) (hs:look s env=some (cloA gf Cs)) (hv:foldS st s0 rows=some v) (hnd:la.all nd=true) (hp:Nat.blt p0 N=true) (hl0:look p0 env=none)
  (hA:∀ g1 T1 k x q t B,WN P N g1 T1 [] B (envA k x) (ld k x++resA q t)->WL P N g1 T1 la.toArray (KF.sem P [] B) la ((p0,va k x) :: env) (ld k x++resA q t))
  (hB:∀ l n g1 T1 k x q t o (Q':Exit->Act->World->Prop),st q x=some o->(∀ t' a' g',St N g1 T1 [] (ld k x++resA o t') a' g'->Q' .normal a' g'.w)->WR P (some l) n [] N g1 T1 body Q' (envA k x) (ld k x++resA q t))
  (hdone:∀ t' a' g' D,St N g0 T0 env ((kD,Dq D) :: resA v t') a' g'->Q .normal (sh (markD D) a') g'.w) :
  WR P none n [] N g0 T0 (.rangeFunc (.tmp s) #[p0] (.region ida la.toArray false) body) Q env (resA s0 t0):=by
 intro a g hst;rw [oG];obtain ⟨caps,hval,hcaps⟩:=hst.henv s _ hs;have hblk:∀ b,(resA s0 t0).blks b->b<g.w.heap.size:=by
  rintro b ⟨y,hy,hb⟩;exact y.2.lt (hst.hres y hy) hb
 refine wpIn_rangeFunc (F:=Fence.wide) λfn hfn=>?_;obtain ⟨rec,hrec⟩:∃ rec:LoopState->Option Code->Loop,rec=λls pe=>{state:=ls,pending:=pe,fn,tmps:=a.tmps,params:=#[p0],assign:=.region ida la.toArray false,body,defers:=g.w.heap.size}:=⟨_,rfl⟩
 obtain ⟨L,hLdef⟩:∃ L,L=g.w.heap.size+1:=⟨_,rfl⟩
 -- what belongs to the call: what it had, and what is new
 let Tn:Nat->Prop:=λb=>(resA s0 t0).blks b;let Ok:Rs->Tok->Prop:=λrs k=>(∀ b,rs.blks b->(Tn b\/L<b)/\ ¬ k.map Prod.fst=some b) 
 let J:Nat->Tok->World->Prop:=λi k W=>∃ q t g',g'.w=W/\St N g Tn env (resA q t) a g'/\Ok (resA q t) k/\(∀ b,k.map Prod.fst=some b->L<b/\g'.S b=0)/\foldS st s0 (rows.take i)=some q/\W.heap[L]? =some (.loop (rec .ready none))/\W.heap[g.w.heap.size]? =some (.deferred (some []));obtain ⟨W1,hW1⟩:∃ W1,(g.w.alloc (.deferred (some []))).alloc (.loop (rec .ready none))=W1:=⟨_,rfl⟩
 have hsz1:W1.heap.size=g.w.heap.size+2:=by rw [<-hW1];simp
 have hL1:W1.heap[L]? =some (.loop (rec .ready none)):=by
  rw [<-hW1,hLdef];have:=World.alloc_heap_new (g.w.alloc (.deferred (some []))) (.loop (rec .ready none));rwa [World.size_alloc] at this
 have hD1:W1.heap[g.w.heap.size]? =some (.deferred (some [])):=by
  rw [<-hW1];exact (Below.heap_alloc _ _ _ (by simp)).trans (World.alloc_heap_new g.w _)
 have hb1:Below g.w.heap.size g.w W1:=by
  rw [<-hW1];exact ((Below.refl _ g.w).alloc (Nat.le_refl _) _).alloc (by simp) _
 have hgrow1:g.w.grownBy W1 none:=by
  rw [<-hW1];exact ⟨rfl,rfl,rfl,by simp;omega,λk hk _=>by rw [heap_alloc_old _ _ (by simp;omega),heap_alloc_old _ _ hk]⟩
 have hbig:∀ {k:Tok} {row:Option Nat} {W W':World},(∀ b,k.map Prod.fst=some b->L<b)->W.grownBy W' row->(∀ r,row=some r->k.map Prod.fst=some r)->∀ {i:Nat} {o:Obj},i<=L->W.heap[i]? =some o->W'.heap[i]? =some o:=by
  intro k row W W' hk hg hr i o hi ho;rw [hg.block i (Array.getElem?_eq_some_iff.1 ho).1 (λe=>?_)]
  .exact ho
  .have:=hk i (hr i e.symm);omega
 have hJ:∀ i k W1 W2 row,J i k W1->W1.grownBy W2 row->(∀ r,row=some r->k.map Prod.fst=some r)->J i k W2:=by
  rintro i k W W' row ⟨q,t,g',rfl,h,hO,hk,hf,hl,hd⟩ hg hr;refine ⟨q,t,g'.at W',rfl,h.Kq hg (λr e=>?_),hO,λb hb=>hk b hb,hf,hbig (λb hb=>(hk b hb).1) hg hr (Nat.le_refl _) hl,hbig (λb hb=>(hk b hb).1) hg hr (by omega) hd⟩;have h1:=hr r e;exact ⟨by have:=(hk r h1).1;omega,λhb=>(hO r hb).2 h1,(hk r h1).2⟩
 have hJ0:∀ k W2,W1.grownBy W2 none->(∀ b,k.map Prod.fst=some b->W1.heap.size<=b)->J 0 k W2:=by
  intro k W2 hg hk;have hz:St N g Tn env (resA s0 t0) a (g.zero g.w.heap.size):=by
   have e:=(Ext.zero (g:=g) (Nat.le_refl _)).mono (T':=Tn) (λ_ hf=>hf.elim);exact ⟨hst.sz,hst.dfr,λs A hA=>A.mono e (hst.henv s A hA),hst.hres.stay (Ext.zero (g:=g) (Nat.le_refl _)) (λ_ _ hf=>hf.elim),hst.dis,λb hb=>.inr hb,e⟩
  have hg1:g.w.grownBy W2 none:=⟨hg.os.trans hgrow1.os,hg.tape.trans hgrow1.tape,hg.output.trans hgrow1.output,Nat.le_trans hgrow1.size hg.size,λk hk _=>by
   rw [hg.block k (Nat.lt_of_lt_of_le hk hgrow1.size) (λe=>by cases e),hgrow1.block k hk (λe=>by cases e)]⟩
  refine ⟨s0,t0,(g.zero g.w.heap.size).at W2,rfl,hz.Kq hg1 (λr e=>by cases e),λb hb=>⟨.inl hb,λe=>?_⟩,λb hb=>⟨?_,?_⟩,rfl,?_,?_⟩
  .have:=hk b e;have:=hblk b hb;omega
  .have:=hk b hb;omega
  .have:=hk b hb;exact if_pos (by omega)
  .rw [hg.block L (Array.getElem?_eq_some_iff.1 hL1).1 (λe=>by cases e)];exact hL1
  .rw [hg.block _ (Array.getElem?_eq_some_iff.1 hD1).1 (λe=>by cases e)];exact hD1
 refine ⟨L,[{target:=.collected g.w.heap.size,args:=#[]}],W1,{target:=.fn (.func gf) caps.toArray,args:=#[.func (.yield L) #[] #[]]},W1,gf,#[.func (.yield L) #[] #[]]++caps.toArray,W1,?_,?_,?_,?_,λ_=>h1,?_⟩
 .rw [<-hW1,hrec,hLdef];exact run_enterLoop_outer _ _ _ _ _
 .have:a.eval (.tmp s)= .func (.func gf) #[] caps.toArray:=hval;simp only [resolve,this];simp [go_sem]
 .intro f' hf';trivial
 .simp [invoke,go_sem,eg]
 .refine (hit g caps (n-1) hcaps L J W1 hb1 hJ hJ0 ?_).mono ?_
  . -- a round
   rintro i xs k vr W hix ⟨q,t,g',rfl,h,hO,hk,hf,hl,hd⟩ hlv;obtain ⟨hi,hie⟩:=List.getElem?_eq_some_iff.1 hix;have htk:rows.take (i+1)=rows.take i++ [xs]:=by
    rw [List.take_add_one,hix];rfl
   obtain ⟨o,ho,hfo⟩:∃ o,st q xs=some o/\foldS st s0 (rows.take (i+1))=some o:=by
    have h2:rows=rows.take i++xs :: rows.drop (i+1):=by
     have:=List.take_append_drop i rows;rw [List.drop_eq_getElem_cons hi,hie] at this;exact this.symm
    have h3:=hv;rw [h2,vF hf] at h3;unfold foldS at h3;obtain ⟨o,ho,h4⟩:=bind_some h3;refine ⟨o,ho,?_⟩;rw [htk,vF hf];show Option.bind (st q xs) _=_;rw [ho];rfl
   have hp':p0<N:=by simpa [Nat.blt_eq] using hp
   have hy:=run_yield (P:=P) (args:=#[vr]) hl (by rw [hrec];rfl);rw [hrec] at hy;refine ⟨fn,_,_,body,hy,roundIn_of_wpIn hfn ?_⟩;obtain ⟨a1,ha1⟩:∃ a1:Act,a1= {tmps:=a.tmps.setIfInBounds p0 vr,defers:=[]}:=⟨_,rfl⟩
   have he1:({tmps:=(#[p0].zip #[vr]).foldl (λt (p,v)=>t.setIfInBounds p v) a.tmps,defers:=[]}:Act)=a1:=by rw [ha1];simp
   rw [he1];have hsz:a.tmps.size=N:=h.sz;let T1:Nat->Prop:=λb=>(resA q t).blks b\/k.map Prod.fst=some b;obtain ⟨hV,hU⟩:(va k xs).holds vr g'/\(ld k xs).all g':=hL.flat (S':=g'.S) (λb hb=>(hk b hb).2) hlv.1 hlv.2;have hS1:St N g' T1 ((p0,va k xs) :: env) (ld k xs++resA q t) a1 g':=by
    refine ⟨by rw [ha1];simp [hsz],by rw [ha1],λy A hy=>?_,λy hy=>?_,?_,?_,Ext.refl _ _⟩
    .by_cases hq0:p0=y
     .subst hq0;rw [dh] at hy;cases hy;have:a1.tmps.getD p0 undef=vr:=by rw [ha1];simp [Array.getD,hsz,hp']
      rw [this];exact hV
     .rw [bL _ _ hq0] at hy;have:a1.tmps.getD y undef=a.tmps.getD y undef:=by rw [ha1];simp only [Array.getD_eq_getD_getElem?,Array.getElem?_setIfInBounds_ne hq0]
      rw [this];exact h.henv y A hy
    .rcases List.mem_append.1 hy with hy | hy
     .exact hU y hy
     .exact h.hres y hy
    .refine List.pairwise_append.2 ⟨hL.dis,h.dis,λx hx y hy b hb hyb=>(hO b ⟨y,hy,hyb⟩).2 (hL.blk ⟨x,hx,hb⟩)⟩
    .rintro b ⟨y,hy,hb⟩;rcases List.mem_append.1 hy with hy | hy
     .exact .inr (.inr (hL.blk ⟨y,hy,hb⟩))
     .exact .inr (.inl ⟨y,hy,hb⟩)
   have hT1:∀ {b},T1 b->b<L->Tn b:=by
    rintro b (hb | hb) hlt
    .rcases (hO b hb).1 with h1 | h1
     .exact h1
     .omega
    .have:=(hk b hb).1;omega
   have hT1L:∀ {b},T1 b->b=L\/b=g.w.heap.size->False:=by
    rintro b hb hbL;rcases hb with hb | hb
    .rcases (hO b hb).1 with h1 | h1
     .have:=hblk b h1;omega
     .omega
    .have:=(hk b hb).1;omega
   -- rows that are not ours stay through the round's own code
   have hkeep:∀ {ga gb:G} {i:Nat} {o:Obj},i=L\/i=g.w.heap.size->Ext T1 ga gb->ga.w.heap[i]? =some o->gb.w.heap[i]? =some o:=λhi e ho=>(e.same _ (Array.getElem?_eq_some_iff.1 ho).1 (λhb=>hT1L hb hi)).1.trans ho;have hW:=WR.region (r:=some L) (n:=n-1-1) (D:=[]) (id:=ida) (Q:=Exit.then (λa₁ w₁=>∃ w₂,(Instr.beginRound L).run P w₁= .ok () w₂/\body.wpIn (Fence.wide.inRound L) (n-1-1) P (roundPost P L (λe W'=>
    e= .returned (.bool true)/\J (i+1) k W'/\LentV va ld k xs vr W'/\(Stays g g'.w->Stays g W'))) a₁ w₂) (λ_ _ _=>False)) hnd (hA g' T1 k xs q t _ (λa2 g2 h2=>?_)) a1 g' hS1
   .rw [oG] at hW;exact hW
   .show ∃ w₂,_;rw [oG];have hl2:g2.w.heap[L]? =some (.loop (rec .ready none)):=hkeep (.inl rfl) h2.ext hl;have hd2:g2.w.heap[g.w.heap.size]? =some (.deferred (some [])):=hkeep (.inr rfl) h2.ext hd;have hlt2:L<g2.w.heap.size:=(Array.getElem?_eq_some_iff.1 hl2).1;refine ⟨_,run_beginRound hl2 (by rw [hrec]),?_⟩;obtain ⟨w3,hw3⟩:∃ w3,w3=g2.w.putObj L (.loop {rec .ready none with state:=.busy}):=⟨_,rfl⟩
    rw [<-hw3];have hg3:g2.w.grownBy w3 (some L):=by rw [hw3];exact grownBy_putObj' _ _ _
    have e3:=xA hg3 (λr e=>by cases e;exact ⟨_,hl2,rfl⟩);have hno2:∀ b,Rs.blks (ld k xs++resA q t) b->¬ some L=some b:=λb hb e=>by
     cases e;obtain ⟨y,hy,hyb⟩:=hb;rcases List.mem_append.1 hy with hy | hy
     .exact hT1L (.inr (hL.blk ⟨y,hy,hyb⟩)) (.inl rfl)
     .exact hT1L (.inl ⟨y,hy,hyb⟩) (.inl rfl)
    have h3:St N (g2.at w3) T1 (envA k xs) (ld k xs++resA q t) a2 (g2.at w3):=by
     refine ⟨h2.sz,h2.dfr,λs A hA=>A.mono e3 (h2.henv s A hA),h2.hres.stay e3 hno2,h2.dis,?_,Ext.refl _ _⟩;rintro b ⟨y,hy,hb⟩;rcases List.mem_append.1 hy with hy | hy
     .exact .inr (.inr (hL.blk ⟨y,hy,hb⟩))
     .exact .inr (.inl ⟨y,hy,hb⟩)
    -- the caller's own state behind the round
    have hafter:∀ {q':Rs} {a4:Act} {g4:G} (jump:Option Code),St N (g2.at w3) T1 [] q' a4 g4->(∀ b,q'.blks b->¬ k.map Prod.fst=some b)->
      ∃ w5,(Instr.endRound L jump).run P g4.w= .ok (.bool jump.isNone) w5/\St N g Tn env q' a (g4.at w5)/\(∀ b,q'.blks b->(Tn b\/L<b))/\w5.heap[L]? =some (.loop (rec (if jump.isNone then .ready else .done) jump))/\w5.heap[g.w.heap.size]? =some (.deferred (some []))/\g4.w.grownBy w5 (some L):=by
     intro q' a4 g4 jump h4 hnk;have hlw:w3.heap[L]? =some (.loop {rec .ready none with state:=.busy}):=by rw [hw3];exact World.putObj_heap_same hlt2
     have hdw:w3.heap[g.w.heap.size]? =some (.deferred (some [])):=by rw [hw3];exact (World.putObj_heap_other (by omega)).trans hd2
     have hl4:g4.w.heap[L]? =some (.loop {rec .ready none with state:=.busy}):=hkeep (ga:=g2.at w3) (.inl rfl) h4.ext hlw;have hd4:g4.w.heap[g.w.heap.size]? =some (.deferred (some [])):=hkeep (ga:=g2.at w3) (.inr rfl) h4.ext hdw;have hlt4:L<g4.w.heap.size:=(Array.getElem?_eq_some_iff.1 hl4).1;have hrun:=run_endRound (P:=P) jump hl4;obtain ⟨w5,hw5⟩:∃ w5,w5=g4.w.putObj L (.loop {{rec .ready none with state:=.busy} with state:=if jump.isNone then .ready else .done,pending:=jump}):=⟨_,rfl⟩
     rw [<-hw5] at hrun;have hg5:g4.w.grownBy w5 (some L):=by rw [hw5];exact grownBy_putObj' _ _ _
     have hown:∀ b,q'.blks b->(Tn b\/L<b):=λb hb=>by
      rcases h4.own b hb with h5 | h5
      .have:w3.heap.size<=b:=h5;have h6:g2.w.heap.size=w3.heap.size:=by rw [hw3];simp
       exact .inr (by omega)
      .rcases h5 with h5 | h5
       .exact (hO b h5).1
       .exact absurd h5 (hnk b hb)
     have hS:St N g Tn env q' a g4:=by
      have eh:Ext (λb=>T1 b\/b=L) g' g4:=(h2.ext.mono (λ_ h=>.inl h)).trans ((e3.mono (λb h=>.inr (Option.some.inj h).symm)).trans (h4.ext.mono (λ_ h=>.inl h)) (λ_ _ h=>h)) (λ_ _ h=>h);refine ⟨h.sz,h.dfr,λs A hA=>A.mono eh (h.henv s A hA),h4.hres,h4.dis,λb hb=>?_,?_⟩
      .rcases hown b hb with h5 | h5
       .exact .inr h5
       .exact .inl (by omega)
      .exact h.ext.trans eh (λb hb ht=>by
        rcases ht with ht | rfl
        .exact hT1 ht (by omega)
        .omega)
     refine ⟨w5,hrun,hS.Ko hg5 (λr e=>by
      cases e;refine ⟨by omega,λhb=>?_,_,hl4,rfl⟩;rcases hown L hb with h5 | h5
      .have:=hblk L h5;omega
      .omega),hown,?_,?_,hg5⟩
     .rw [hw5,hrec];exact World.putObj_heap_same hlt4
     .rw [hw5];exact (World.putObj_heap_other (by omega)).trans hd4
    have hW2:=hB L (n-1-1) (g2.at w3) T1 k xs q t o (roundPost P L (λe W'=>e= .returned (.bool true)/\J (i+1) k W'/\LentV va ld k xs vr W'/\(Stays g g'.w->Stays g W'))) ho ?_ a2 (g2.at w3) h3
    .rw [oG] at hW2;exact hW2
    .rintro t' a4 g4 h4;have hp4:=List.pairwise_append.1 h4.dis;have hU4:(ld k xs).all g4:=λy hy=>h4.hres y (List.mem_append_left _ hy);have h4':St N (g2.at w3) T1 [] (resA o t') a4 g4:=⟨h4.sz,h4.dfr,h4.henv,λy hy=>h4.hres y (List.mem_append_right _ hy),hp4.2.1,λb ⟨y,hy,hb⟩=>h4.own b ⟨y,List.mem_append_right _ hy,hb⟩,h4.ext⟩
     have hV4:(va k xs).holds vr g4:=(va k xs).mono h4.ext ((va k xs).mono e3 ((va k xs).mono h2.ext hV));have hnk:∀ b,(resA o t').blks b->¬ k.map Prod.fst=some b:=λb ⟨y,hy,hyb⟩ hb=>by
      obtain ⟨x,hx,hxb⟩:=hL.cov hV4 hb;exact hp4.2.2 x hx y hy b hxb hyb
     obtain ⟨w5,k1,k2,k3,k4,k5,k6⟩:=hafter none h4' hnk;have e5:Ext (λb=>some L=some b) g4 (g4.at w5):=xA k6 (λr e=>by
      cases e;have hl4:g4.w.heap[L]? =some (.loop {rec .ready none with state:=.busy}):=hkeep (ga:=g2.at w3) (.inl rfl) h4.ext (by show w3.heap[L]? =_;rw [hw3];exact World.putObj_heap_same hlt2);exact ⟨_,hl4,rfl⟩)
     have hU5:(ld k xs).all (g4.at w5):=hU4.stay e5 (λb hb e=>by cases e;exact hT1L (.inr (hL.blk hb)) (.inl rfl));have hV5:(va k xs).holds vr (g4.at w5):=(va k xs).mono e5 hV4;refine ⟨_,w5,k1,rfl,⟨o,t',g4.at w5,rfl,k2,λb hb=>⟨k3 b hb,hnk b hb⟩,λb hb=>⟨(hk b hb).1,hL.zero hV5 hU5 hb⟩,hfo,k4,k5⟩,hL.flat (S':=λ_=>0) (λ_ _=>rfl) hV5 hU5,λhst'=>?_⟩;have:=Stays.of k2.ext;exact this
  . -- behind the iterator
   rintro e W2 ⟨⟨v',rfl⟩,k,q,t,g4,rfl,h4,hO,hk,hf,hl4,hd4⟩;rw [List.take_length] at hf;cases hf.symm.trans hv;have hlt4:L<g4.w.heap.size:=(Array.getElem?_eq_some_iff.1 hl4).1;have hrun:=run_endLoop (P:=P) hl4 (by rw [hrec];simp);obtain ⟨w5,hw5⟩:∃ w5,w5=g4.w.putObj L (.loop {rec .ready none with state:=.exhausted}):=⟨_,rfl⟩
   rw [<-hw5] at hrun;have hg5:g4.w.grownBy w5 (some L):=by rw [hw5];exact grownBy_putObj' _ _ _
   have hnL:∀ {b},(resA v t).blks b->b=L\/b=g.w.heap.size->False:=by
    rintro b hb hbL;rcases (hO b hb).1 with h1 | h1
    .have:=hblk b h1;omega
    .omega
   have h5:=h4.Ko hg5 (λr e=>by cases e;exact ⟨by omega,λhb=>hnL hb (.inl rfl),_,hl4,rfl⟩);have hd5:w5.heap[g.w.heap.size]? =some (.deferred (some [])):=by rw [hw5];exact (World.putObj_heap_other (by omega)).trans hd4
   have he:({a with defers:=[{target:=.collected g.w.heap.size,args:=#[]}]++a.defers}:Act)=sh (markD g.w.heap.size) a:=by
    simp [sh,markD,hst.dfr]
   refine ⟨none,w5,by rw [hrec] at hrun;rw [hrun],?_⟩;rw [he];refine hdone t a (g4.at w5) _ ⟨h5.sz,h5.dfr,h5.henv,?_,?_,?_,?_⟩
   .intro y hy;rcases List.mem_cons.1 hy with rfl | hy
    .exact hd5
    .exact h5.hres y hy
   .refine List.pairwise_cons.2 ⟨λy hy b hb hyb=>?_,h5.dis⟩;cases hb;exact hnL ⟨y,hy,hyb⟩ (.inr rfl)
   .rintro b ⟨y,hy,hb⟩;rcases List.mem_cons.1 hy with rfl | hy
    .cases hb;exact .inl hst.ext.size
    .rcases (hO b ⟨y,hy,hb⟩).1 with h1 | h1
     .exact hst.own b h1
     .have:=hst.ext.size;exact .inl (by omega)
   .exact hst.ext.trans h5.ext (λb hb hT=>(hst.own b hT).resolve_left (by omega))
end
end Go.Dec
/-
  The end of a loose row of integers, turned round; a yield of one value; a call that hands out a copy of a loose row; slices.Sorted against an iterator over a list.
-/
namespace Go.Dec
open Go Go.RowKit Go.Proofs Go.Sort
variable {E:TypeId}{P:Program}{c:Code}{f:FuncId}{k:Tok}{α:Type}{xs:List α}
theorem fV{v:List α}{i:Int}(h:revFrom xs i=some v):xs.length=v.length:=by
 unfold revFrom at h;split at h
 .cases h;simp;omega
 .cases h
def tUw(k:Tok)(n:Nat)(i:Int):Asn:=⟨λv _=>v= .slice (if k.cap-i.toNat=0 then k.addr else k.addr.map (·.add i.toNat)) (n-i.toNat) (k.cap-i.toNat)/\n<=k.cap/\n<=lim,λ_ h=>h⟩
section
variable {P:Program} {env:Env} {res:Rs} {d:Option Tmp} {ty:TypeId} {pos:String} {aft:Array Edge} {gd:Option (Nat×Bool)}
theorem Op1.endU{t:Ty α}{T:TypeId}{x y:Operand}{i:Int}{u:Unit}{kk:IntKind}(h:rngLo xs i=some u)(hT:P.underlying T=some (.slice E))(hsz:∀ w,(sizeOf E).run P w= .ok 1 w)(hx:Opd env x (tU k xs.length))(hy:Opd env y ((tI kk).is i)) :
  Op1 P ⟨d,.slice T x (some y) none none,ty,pos,aft,gd⟩ env res (tUw k xs.length i):=by
 have hi:0<=i/\i<=xs.length:=by
  unfold rngLo at h;split at h
  .assumption
  .cases h
 obtain ⟨m,rfl⟩:∃ m:Nat,i=(m:Int):=⟨i.toNat,by omega⟩
 intro a g K Q hc hK;obtain ⟨hv,h2,h3⟩:=hx a g hc.henv;have hyv:=(hy.atInt hc).1;have hb:(Instr.sliceBounds true xs.length k.cap (some (a.eval y)) none none).run P g.w= .ok (m,xs.length,k.cap) g.w:=by
  have h4:m<=xs.length:=by omega
  rw [hyv];simp [Instr.sliceBounds,Instr.sliceBound,asIntOf,h2,h4]
 have hrun:(Instr.sliceAt T (.slice k.addr xs.length k.cap) (some (a.eval y)) none none).run P g.w= .ok (.slice (if k.cap-m=0 then k.addr else k.addr.map (·.add m)) (xs.length-m) (k.cap-m)) g.w:=by
  simp only [Instr.sliceAt,Instr.slice,Sem.run_bind,run_underlying hT,Result.andThen_ok,hb,hsz,Sem.run_pure,Nat.mul_one];by_cases hz:k.cap-m=0
  .first | rfl | rw [if_pos hz,if_pos (by omega)]
  .first | rfl | rw [if_neg hz,if_neg (by omega)]
 have hex:(execOp a.eval ⟨d,.slice T x (some y) none none,ty,pos,aft,gd⟩).run P g.w= .ok (.value (.slice (if k.cap-m=0 then k.addr else k.addr.map (·.add m)) (xs.length-m) (k.cap-m))) g.w:=by
  simp only [execOp,hv,Option.map,Sem.run_bind,hrun,Result.andThen_ok];rfl
 show Oper.upon P _ a K Q ((execOp a.eval _).run P g.w);rw [hex];exact hK _ g (Ext.refl _ _) ⟨rfl,h2,h3⟩
theorem DK{g:G}{cs:List Value}{xs:List Int}(h:Cells (tI .i64) g cs xs):cs=xs.map (Value.int .i64)/\ ∀ x∈xs,inR .i64 x:=by
 have h1:cs.length=xs.length:=by have:=h.1;rw [show (tI .i64).size=1 from rfl,Nat.mul_one] at this;exact this
 have h2:∀ (i:Nat) x,xs[i]? =some x->cs[i]? =some (Value.int .i64 x)/\inR .i64 x:=λi x hx=>by
  obtain ⟨ds,⟨k1,k2⟩,k3⟩:=h.2.2 i x hx;refine ⟨?_,k2⟩;have:=k3 0 (.int .i64 x) (by rw [k1];rfl);simpa [show (tI .i64).size=1 from rfl] using this
 refine ⟨List.ext_getElem? λi=>?_,λx hx=>?_⟩
 .rw [List.getElem?_map];cases hx:xs[i]? with
  | none=>rw [List.getElem?_eq_none (by rw [h1];exact List.getElem?_eq_none_iff.1 hx)];rfl
  | some x=>rw [(h2 i x hx).1];rfl
 .obtain ⟨i,hi⟩:=List.getElem?_of_mem hx;exact (h2 i x hi).2
theorem ze{g:G}{xs:List Int}(h:∀ x∈xs,inR .i64 x):Cells (tI .i64) g (xs.map (Value.int .i64)) xs:=by
 refine ⟨by simp [show (tI .i64).size=1 from rfl],λc hc=>?_,λi x hx=>⟨[.int .i64 x],⟨rfl,h x (List.mem_of_getElem? hx)⟩,λj v hv=>?_⟩⟩
 .obtain ⟨x,_,rfl⟩:=List.mem_map.1 hc;rfl
 .have hj:j=0:=by have:=(List.getElem?_eq_some_iff.1 hv).1;simp at this;exact this
  subst hj;cases hv;simp [show (tI .i64).size=1 from rfl,hx]
theorem EL
  (hne:∀ (blk off cap:Nat) (zs:List Int) (w:World),Holds (Value.int .i64) w blk off zs.toArray->zs.length<=9223372036854775807->
   Calls P f #[.slice (some ⟨blk,off,none⟩) zs.length cap] w λe w'=>e= .returned (.tuple #[])/\ ∃ n,w'=putRow (Value.int .i64) (Sort.ahead w n) blk off zs.reverse.toArray)
  (he:∀ (a:Option Addr) (cap:Nat) (w:World),Calls P f #[.slice a 0 cap] w λe w'=>e= .returned (.tuple #[])/\w'=w)
  {xs v:List Int} {i:Int} (hm:revFrom xs i=some v) (key:Nat) (k:Tok):aR P f [tUw k xs.length i] [(key,OwnU (tI .i64) E k xs)] (λ_:Unit=>Asn.any) (λ_=>[(key,OwnU (tI .i64) E k v)]):=by
 have hi:(0<=i/\i<=xs.length)/\v=xs.take i.toNat++(xs.drop i.toNat).reverse:=by
  unfold revFrom at hm;split at hm
  .cases hm;exact ⟨by assumption,rfl⟩
  .cases hm
 obtain ⟨hi,rfl⟩:=hi;obtain ⟨m,rfl⟩:∃ m:Nat,i=(m:Int):=⟨i.toNat,by omega⟩
 simp only [Int.toNat_natCast] at *;have hml:m<=xs.length:=by omega
 intro g vs hvs hr hd
 match vs,hvs with
 | [v],hvs=>
  obtain ⟨⟨rfl,h1,h2⟩,_⟩:=hvs;simp only [Int.toNat_natCast] at *;have hO:(OwnU (tI .i64) E k xs).holds g:=hr _ List.mem_cons_self;have done:∀ {ys:List Int},ys=xs->∃ (_:Unit) (v:Value) (g':G),g'.w=g.w/\(Ending.returned (Value.tuple #[])= .returned v)/\Ext (Rs.blks [(key,OwnU (tI .i64) E k xs)]) g g'/\(Asn.any).holds v g'/\Rs.all [(key,OwnU (tI .i64) E k ys)] g'/\Rs.dis [(key,OwnU (tI .i64) E k ys)]/\ ∀ b,Rs.blks [(key,OwnU (tI .i64) E k ys)] b->Rs.blks [(key,OwnU (tI .i64) E k xs)] b\/g.w.heap.size<=b:=by
   rintro ys rfl;exact ⟨(),_,g,rfl,rfl,Ext.refl _ _,trivial,λy hy=>by rw [List.mem_singleton.1 hy];exact hO,List.pairwise_singleton _ _,λb hb=>.inl hb⟩
  by_cases h0:xs.length-m=0
  .rw [h0];refine (he _ _ g.w).mono ?_;rintro e w' ⟨rfl,rfl⟩;obtain ⟨x,v,g',k1,k2,k3,k4,k5,k6,k7⟩:=done (ys:=xs.take m++(xs.drop m).reverse) (by
    rw [List.drop_eq_nil_of_le (by omega),List.take_of_length_le (by omega)];simp)
   exact ⟨(),v,g',k1,k2,k3,k4,k5,k6,k7⟩
  .cases k with
   | none=>
    have hx:xs= []:=hO;subst hx;simp at h0
   | some p=>
    obtain ⟨cur,q1,q2,q3,q4,q5,q6⟩:=hO;have hc0:Tok.cap (some p)=p.2:=rfl;have q2:cur.size=p.2:=by rw [q2];exact Nat.mul_one _
    obtain ⟨c1,c2⟩:=DK q6;rw [show xs.length*(tI .i64).size=xs.length from Nat.mul_one _] at c1;have hcur:∀ j,j<xs.length->cur[j]? =some (Value.int .i64 (xs.getD j 0)):=by
     intro j hj;have:(cur.toList.take xs.length)[j]? =(xs.map (Value.int .i64))[j]?:=by rw [c1]
     rw [List.getElem?_take,if_pos hj,List.getElem?_map,List.getElem?_eq_getElem hj] at this;rw [List.getD_eq_getElem?_getD,List.getElem?_eq_getElem hj];simpa using this
    have hH:Holds (Value.int .i64) g.w p.1 m (xs.drop m).toArray:=by
     intro j hj;have hj:m+j<xs.length:=by simp at hj;omega
     refine ⟨?_,by simp [World.frozen?,q1]⟩;rw [cell_of_row _ _ _ _ _ _ q1,hcur _ hj];have:j<(xs.drop m).toArray.size:=by simp;omega
     rw [getElem!_pos _ j this];simp [List.getD_eq_getElem?_getD,List.getElem?_eq_getElem hj]
    have hcap:¬ (Tok.cap (some p)-m=0):=by rw [hc0];rw [hc0] at h1;omega
    rw [if_neg hcap];have hca:=hne p.1 m (Tok.cap (some p)-m) (xs.drop m) g.w hH (by rw [List.length_drop];unfold lim at h2;omega);rw [List.length_drop] at hca;have hadr:((Tok.addr (some p)).map (·.add m))=some (⟨p.1,m,none⟩:Addr):=by
     simp [Tok.addr,Addr.add];omega
    rw [hadr];refine hca.mono ?_;rintro e w' ⟨rfl,n,rfl⟩;let F:=(xs.drop m).reverse.toArray;let cur':=putCells (Value.int .i64) m F cur;have hheap:∀ b,(putRow (Value.int .i64) (Sort.ahead g.w n) p.1 m F).heap[b]? =if b=p.1 then some (.cells cur' E (0,0)) else g.w.heap[b]?:=by
     intro b;show ((Sort.ahead g.w n).heap.modify p.1 (onCells (putCells (Value.int .i64) m F)))[b]? =_;rw [Array.getElem?_modify];by_cases hb:p.1=b
     .subst hb;rw [if_pos rfl,if_pos rfl];show (g.w.heap[p.1]?).map _=_;rw [q1];rfl
     .rw [if_neg hb,if_neg (λe=>hb e.symm)];rfl
    have hcs:cur'.size=cur.size:=by simp [cur',putCells]
    have hext:Ext (Rs.blks [(key,OwnU (tI .i64) E (some p) xs)]) g ⟨putRow (Value.int .i64) (Sort.ahead g.w n) p.1 m F,g.S⟩:=by
     refine yC _ rfl rfl rfl ?_ (λx hx hn=>⟨?_,rfl⟩) (λx hx=>?_)
     .show g.w.heap.size<=(g.w.heap.modify p.1 _).size;rw [Array.size_modify];exact Nat.le_refl _
     .rw [hheap,if_neg];rintro rfl;exact hn ⟨_,List.mem_singleton.2 rfl,rfl⟩
     .obtain ⟨y,hy,hb⟩:=hx;rw [List.mem_singleton.1 hy] at hb;have hb:some p.1=some x:=hb;cases hb;exact q5
    have hlen:(xs.take m++(xs.drop m).reverse).length=xs.length:=by simp;omega
    have hFs:F.size=xs.length-m:=by simp [F]
    refine ⟨(),_,⟨_,g.S⟩,rfl,rfl,hext,trivial,λy hy=>?_,List.pairwise_singleton _ _,λb ⟨y,hy,hb⟩=>.inl ⟨_,List.mem_singleton.2 rfl,by rw [List.mem_singleton.1 hy] at hb;exact hb⟩⟩;rw [List.mem_singleton.1 hy];refine ⟨cur',(hheap p.1).trans (if_pos rfl),by rw [hcs];exact q2.trans (Nat.mul_one _).symm,by rw [hlen];exact q3,q4,q5,?_⟩;rw [show (xs.take m++(xs.drop m).reverse).length*(tI .i64).size=xs.length by rw [hlen];exact Nat.mul_one _];have e1:cur'.toList.take xs.length=(xs.take m++(xs.drop m).reverse).map (Value.int .i64):=by
     apply List.ext_getElem?;intro j;rw [List.getElem?_take,List.getElem?_map];by_cases hj:j<xs.length
     .rw [if_pos hj];have hjc:j<cur.size:=by omega
      have:cur'[j]? =some (if m<=j/\j<m+F.size then Value.int .i64 (F[j-m]!) else cur[j]):=by
       show (putCells (Value.int .i64) m F cur)[j]? =_;unfold putCells;rw [Array.getElem?_mapIdx,Array.getElem?_eq_getElem hjc];rfl
      rw [Array.getElem?_toList,this];by_cases hjm:m<=j
      .rw [if_pos ⟨hjm,by omega⟩,List.getElem?_append_right (by simp;omega)];have h5:j-m<F.size:=by omega
       rw [getElem!_pos F _ h5];have h6:j-(xs.take m).length=j-m:=by rw [List.length_take,Nat.min_eq_left hml]
       rw [h6,List.getElem?_eq_getElem (by simpa [F] using h5)];simp [F]
      .rw [if_neg (by omega),List.getElem?_append_left (by simp;omega),List.getElem?_take,if_pos (by omega),List.getElem?_eq_getElem hj];have:=hcur j hj;rw [Array.getElem?_eq_getElem hjc,List.getD_eq_getElem?_getD,List.getElem?_eq_getElem hj] at this;simpa using this
     .rw [if_neg hj,List.getElem?_eq_none (by omega)];rfl
    rw [e1];exact ze λx hx=>c2 x (by
     rcases List.mem_append.1 hx with hx | hx
     .exact List.mem_of_mem_take hx
     .exact List.mem_of_mem_drop (List.mem_reverse.1 hx))
end
section
variable {P:Program} {n:Nat} {N:Nat} {g0:G} {T0:Nat->Prop} {ops:Array Oper} {Q:Exit->Act->World->Prop} {rest:List Oper} {env:Env} {res:Rs}
theorem WLI.yield1{l0 d:Nat}{x y:Operand}{v0:Value}{ats:Array TypeId}{ty:TypeId}{pos:String}{aft:Array Edge}{A:World->Prop}(hx:Opd env x (Asn.eq (.func (.yield l0) #[] #[])))(hy:Opd env y (Asn.eq v0))
  (hY:∀ a g,St N g0 T0 env res a g->YieldAt Fence.wide (n-1) P l0 #[v0] g.w (λe W'=>e= .returned (.bool true)/\A W'))
  (k:∀ a g w',St N g0 T0 env res a g->A w'->wpListIn (ring none) n P ops Q rest (a.put (some d) (.bool true)) w') :
  WLI P none n N g0 T0 ops Q (⟨some d,.call ⟨.value x,#[y],ats⟩,ty,pos,aft,none⟩ :: rest) env res:=by
 intro a g hs;refine wpListIn_plain rfl λK hK=>⟨λf _=>trivial,?_⟩
 obtain ⟨fn,tmps,assign,body,hy1,hR⟩:=hY a g hs;have e1:a.eval x= .func (.yield l0) #[] #[]:=hx a g hs.henv;have e2:a.eval y=v0:=hy a g hs.henv;have hrun:(execOp a.eval ⟨some d,.call ⟨.value x,#[y],ats⟩,ty,pos,aft,none⟩).run P g.w= .ok (.round l0 fn tmps assign body) g.w:=by
  simp only [execOp,resolve,e1,e2];simp [Deferred.ofValue,invoke,e1,e2,hy1]
 show Oper.uponIn Fence.wide n P _ a K Q ((Oper.semAt none a.eval _).run P g.w);rw [Oper.semAt_none,hrun];refine ⟨λh=>(by cases h),hR.mono ?_⟩;rintro e w' ⟨rfl,h⟩;exact hK _ _ (k a g w' hs h)
theorem WR.ofW(h:W P N g0 T0 c [] Q env res):WR P none n [] N g0 T0 c Q env res:=λa g hs=>by
 rw [oG];exact wpIn_wide.2 (h a g hs)
theorem W.ofWR{ks:List KF}{B:Exit->Act->World->Prop}(h:WR P none n [] N g0 T0 c (KF.sem P ks B) env res):W P N g0 T0 c ks B env res:=λa g hs=>by
 have:=h a g hs;rw [oG] at this;exact wpIn_wide.1 this
theorem W.retB(h:∀ a g,St N g0 T0 env res a g->Q .ret a g.w):W P N g0 T0 .ret [] Q env res:=λa g hs=>wp_ret (h a g hs)
theorem zT{g g':G}(h:Ext (λb=>k.map Prod.fst=some b) g g'):g.w.grownBy g'.w (k.map Prod.fst):=⟨h.os,h.tape,h.output,h.size,λb hb hn=>(h.same b hb (λe=>hn e.symm)).1⟩
theorem Gc{p:Nat->Prop}(h:∃ n,p n):∃ n,p n/\ ∀ m,p m->n<=m:=by
 obtain ⟨n,hn⟩:=h;induction n using Nat.strongRecOn with
 | ind n ih=>
  by_cases h:∃ m,m<n/\p m
  .obtain ⟨m,h1,h2⟩:=h;exact ih m h1 h2
  .exact ⟨n,hn,λm hm=>Nat.le_of_not_lt λhlt=>h ⟨m,hlt,hm⟩⟩
open Classical in
noncomputable def least (p:Nat->Prop):Nat:=if h:∃ n,p n then Classical.choose (Gc h) else 0
theorem Gf{p:Nat->Prop}(h:∃ n,p n):p (least p)/\ ∀ m,p m->least p<=m:=by
 unfold least;rw [dif_pos h];exact Classical.choose_spec (Gc h)
theorem WR.VA(I:Nat->Act->World->Prop)(h0:∀ a g,St N g0 T0 env res a g->∃ j,I j a g.w)
  (round:∀ j a w,I j a w->∀ K:Act->World->Prop,(∀ a' w',(∃ j',j'< j/\I j' a' w')->K a' w')->c.wpIn (ring none) n P (Exit.then K Q) a w):WR P none n [] N g0 T0 (.loop c) Q env res:=by
 refine WR.Tm (λa w=>∃ j,I j a w) (λa w=>least λj=>I j a w) h0 (λa w h=>?_);obtain ⟨h1,h2⟩:=Gf h;refine round _ a w h1 _ ?_;rintro a' w' ⟨j',h3,h4⟩;exact ⟨⟨j',h4⟩,Nat.lt_of_le_of_lt ((Gf (p:=λj=>I j a' w') ⟨j',h4⟩).2 j' h4) h3⟩
end
theorem NV{t:Ty α}{k0 kr:Nat}{ys:List α}(hF:Flat t)(h:aR P f [(tL t).is xs] [] (λκ:Tok=>tO t κ ys) (λκ=>[(k0,Own t E κ ys.length)])) :
  aR P f [tU k xs.length] [(kr,OwnU t E k xs)] (λ_:Unit=>(tL t).is ys) (λ_=>[(kr,OwnU t E k xs)]):=by
 intro g vs hvs hr hd
 match vs,hvs with
 | [v],hvs=>
  obtain ⟨⟨rfl,h1,h2⟩,_⟩:=hvs;have hO:(OwnU t E k xs).holds g:=hr _ List.mem_cons_self;obtain ⟨e1,o1,r1⟩:=OwnU.fixd hO;have hT:((tL t).is xs).holds (.slice k.addr xs.length k.cap) (g.fixd k (xs.length*t.size)):=uL ⟨rfl,h1,h2,r1⟩;refine (h _ [_] ⟨hT,trivial⟩ (λy hy=>by cases hy) List.Pairwise.nil).mono ?_;rintro e w' ⟨κ,v,g',rfl,rfl,e2,a2,b2,c2,d2⟩;have e2':Ext No (g.fixd k (xs.length*t.size)) g':=e2.mono λb ⟨y,hy,_⟩=>by cases hy
  have hO2:(Own t E k xs.length).holds g':=(Own t E k xs.length).stay e2' (λ_ _ hf=>hf.elim) o1;have hr2:Row t g' k.addr xs:=r1.mono e2';have hnew:∀ b,κ.map Prod.fst=some b->g.w.heap.size<=b:=λb hb=>by
   rcases d2 b ⟨_,List.mem_cons_self,hb⟩ with ⟨y,hy,_⟩ | h3
   .cases hy
   .exact h3
  have hkl:∀ b,k.map Prod.fst=some b->b<g.w.heap.size:=λb hb=>(OwnU t E k xs).lt hO hb;have e3:Ext (λb=>k.map Prod.fst=some b) g (g'.fixd k 0):=(e1.trans e2' (λ_ _ hf=>hf.elim)).loose λb hb=>.inl ⟨hb,OwnU.zero hO hb⟩;refine ⟨(),v,g'.fixd k 0,rfl,rfl,e3.mono λb hb=>⟨_,List.mem_cons_self,hb⟩,uL ⟨a2.1,a2.2.1,a2.2.2.1,?_⟩,λy hy=>?_,List.pairwise_singleton _ _,λb hb=>.inl hb⟩
  . -- the copy's own cells are as they were
   cases κ with
   | none=>exact a2.2.2.2
   | some q=>
    obtain ⟨m1,m2⟩:Row t g' (some ⟨q.1,0,none⟩) ys:=a2.2.2.2;refine ⟨m1,λi x hx=>?_⟩;obtain ⟨ds,n1,n2⟩:=m2 i x hx;refine ⟨ds,hF _ _ _ _ n1,λj u hu=>?_⟩;have:=n2 j u hu;refine ⟨?_,this.2⟩;show _<(if _ then _ else _);have h8:=hnew q.1 rfl;rw [if_neg λe=>by have h9:q.1<g.w.heap.size:=hkl q.1 e;omega];exact this.1
  .rw [List.mem_singleton.1 hy];exact OwnU.loose hF hO2 hr2
theorem AC(l:List Int):l.length=(sortedM l).length:=(List.length_mergeSort _).symm
theorem NW
  (hs:∀ (blk off cap:Nat) (zs:List Int) (w:World),Holds (Value.int .i64) w blk off zs.toArray->blk<w.heap.size->zs.length<4611686018427387904->
   Calls P f #[.slice (some ⟨blk,off,none⟩) zs.length cap] w λe w'=>e= .returned (.tuple #[])/\ ∃ n os,w'=grow (putRow (Value.int .i64) (Sort.ahead w n) blk off (zs.mergeSort λx y=>decide (x<=y)).toArray) os)
  (hn:∀ (p:Option Addr) (cap:Nat) (w:World),Calls P f #[.slice p 0 cap] w λe w'=>e= .returned (.tuple #[])/\w'=w)
  (key:Nat) (k:Tok) (xs:List Int):aR P f [tU k xs.length] [(key,OwnU (tI .i64) E k xs)] (λ_:Unit=>Asn.any) (λ_=>[(key,OwnU (tI .i64) E k (sortedM xs))]):=by
 intro g vs hvs hr hd
 match vs,hvs with
 | [v],hvs=>
  obtain ⟨⟨rfl,h1,h2⟩,_⟩:=hvs;have hO:(OwnU (tI .i64) E k xs).holds g:=hr _ List.mem_cons_self;have hsl:(sortedM xs).length=xs.length:=(AC xs).symm;by_cases h0:xs= []
  .subst h0;refine (hn _ _ g.w).mono ?_;rintro e w' ⟨rfl,rfl⟩;have e0:sortedM []= []:=List.eq_nil_of_length_eq_zero hsl;rw [e0];exact ⟨(),_,g,rfl,rfl,Ext.refl _ _,trivial,λy hy=>by rw [List.mem_singleton.1 hy];exact hO,List.pairwise_singleton _ _,λb hb=>.inl hb⟩
  .cases k with
   | none=>exact absurd hO h0
   | some p=>
    obtain ⟨cur,q1,q2,q3,q4,q5,q6⟩:=hO;have q2:cur.size=p.2:=by rw [q2];exact Nat.mul_one _
    obtain ⟨c1,c2⟩:=DK q6;rw [show xs.length*(tI .i64).size=xs.length from Nat.mul_one _] at c1;have hpb:p.1<g.w.heap.size:=(Array.getElem?_eq_some_iff.1 q1).1;have hH:Holds (Value.int .i64) g.w p.1 0 xs.toArray:=by
     intro j hj;have hj:j<xs.length:=by simpa using hj
     refine ⟨?_,by simp [World.frozen?,q1]⟩;rw [cell_of_row _ _ _ _ _ _ q1,Nat.zero_add];have:(cur.toList.take xs.length)[j]? =(xs.map (Value.int .i64))[j]?:=by rw [c1]
     rw [List.getElem?_take,if_pos hj,List.getElem?_map,List.getElem?_eq_getElem hj] at this;rw [getElem!_pos _ j (by simpa using hj)];simpa using this
    refine (hs p.1 0 _ xs g.w hH hpb (by unfold lim at h2;omega)).mono ?_;rintro e w' ⟨rfl,n,os,rfl⟩;let F:=(xs.mergeSort λx y=>decide (x<=y)).toArray;have hFs:F.size=xs.length:=by simp [F]
    let cur':=putCells (Value.int .i64) 0 F cur;have hcs:cur'.size=cur.size:=by simp [cur',putCells]
    have hrow:∀ b,(putRow (Value.int .i64) (Sort.ahead g.w n) p.1 0 F).heap[b]? =if b=p.1 then some (.cells cur' E (0,0)) else g.w.heap[b]?:=by
     intro b;show ((Sort.ahead g.w n).heap.modify p.1 (onCells (putCells (Value.int .i64) 0 F)))[b]? =_;rw [Array.getElem?_modify];by_cases hb:p.1=b
     .subst hb;rw [if_pos rfl,if_pos rfl];show (g.w.heap[p.1]?).map _=_;rw [q1];rfl
     .rw [if_neg hb,if_neg (λe=>hb e.symm)];rfl
    have hpsz:(putRow (Value.int .i64) (Sort.ahead g.w n) p.1 0 F).heap.size=g.w.heap.size:=by
     show (g.w.heap.modify p.1 _).size=_;rw [Array.size_modify]
    have hheap:∀ b,b<g.w.heap.size->(grow (putRow (Value.int .i64) (Sort.ahead g.w n) p.1 0 F) os).heap[b]? =if b=p.1 then some (.cells cur' E (0,0)) else g.w.heap[b]?:=by
     intro b hb;rw [heap_grow_old _ _ (by rw [hpsz];exact hb),hrow]
    have hext:Ext (Rs.blks [(key,OwnU (tI .i64) E (some p) xs)]) g ⟨grow (putRow (Value.int .i64) (Sort.ahead g.w n) p.1 0 F) os,g.S⟩:=by
     refine yC _ rfl rfl rfl ?_ (λx hx hn=>⟨?_,rfl⟩) (λx hx=>?_)
     .have:=size_grow (putRow (Value.int .i64) (Sort.ahead g.w n) p.1 0 F) os;omega
     .rw [hheap _ hx,if_neg];rintro rfl;exact hn ⟨_,List.mem_singleton.2 rfl,rfl⟩
     .obtain ⟨y,hy,hb⟩:=hx;rw [List.mem_singleton.1 hy] at hb;have hb:some p.1=some x:=hb;cases hb;exact q5
    refine ⟨(),_,⟨_,g.S⟩,rfl,rfl,hext,trivial,λy hy=>?_,List.pairwise_singleton _ _,λb ⟨y,hy,hb⟩=>.inl ⟨_,List.mem_singleton.2 rfl,by rw [List.mem_singleton.1 hy] at hb;exact hb⟩⟩;rw [List.mem_singleton.1 hy];refine ⟨cur',(hheap p.1 hpb).trans (if_pos rfl),by rw [hcs];exact q2.trans (Nat.mul_one _).symm,by rw [hsl];exact q3,q4,q5,?_⟩;rw [show (sortedM xs).length*(tI .i64).size=xs.length by rw [hsl];exact Nat.mul_one _];have e1:cur'.toList.take xs.length=(sortedM xs).map (Value.int .i64):=by
     apply List.ext_getElem?;intro j;rw [List.getElem?_take,List.getElem?_map];by_cases hj:j<xs.length
     .rw [if_pos hj];have hjc:j<cur.size:=by omega
      have:cur'[j]? =some (if 0<=j/\j<0+F.size then Value.int .i64 (F[j-0]!) else cur[j]):=by
       show (putCells (Value.int .i64) 0 F cur)[j]? =_;unfold putCells;rw [Array.getElem?_mapIdx,Array.getElem?_eq_getElem hjc];rfl
      rw [Array.getElem?_toList,this,if_pos ⟨Nat.zero_le _,by omega⟩,Nat.sub_zero,getElem!_pos F j (by omega),List.getElem?_eq_getElem (by rw [hsl];exact hj)];simp [F,sortedM]
     .rw [if_neg hj,List.getElem?_eq_none (by omega)];rfl
    rw [e1];exact ze λx hx=>c2 x (List.mem_mergeSort.1 hx)
section
variable {P:Program} {n N:Nat} {g0:G} {env:Env} {res:Rs} {fn:Func}
theorem UH{kD D:Nat}{a:Act}{g:G}{ρ:Type}{A:ρ->Asn}{out:ρ->Rs}{rv:ResultVar}(x:ρ)(hst:St N g0 No env ((kD,Dq D) :: res) a g)(hr:fn.results= #[rv])(h:ResAt P env res rv (A x))(hs:RSub (out x) res) :
  bodyPostM Fence.wide n P fn (λe w'=>∃ x v g',g'.w=w'/\e= .returned v/\Ext (Rs.blks []) g0 g'/\(A x).holds v g'/\(out x).all g'/\(out x).dis/\(∀ b,(out x).blks b->Rs.blks [] b\/g0.w.heap.size<=b)) .ret (sh (markD D) a) g.w:=by
 have hD:g.w.heap[D]? =some (.deferred (some [])):=hst.hres (kD,Dq D) List.mem_cons_self;have hS:=hst.shut;obtain ⟨v,h1,h2⟩:=h a _ hS.cx;show LeavesInM Fence.wide n P fn a.tmps _ (a.defers++markD D) .returning g.w;rw [hst.dfr];refine ⟨by simp,.inl ⟨D,_,rfl,run_takeDeferred hD,?_⟩⟩;refine ⟨v,?_,x,v,_,rfl,rfl,hS.ext.no,h2,λy hy=>hS.hres y (hs.mem y hy),hs.dis hS.dis,λb ⟨y,hy,hyb⟩=>.inr ((hS.own b ⟨y,hs.mem y hy,hyb⟩).resolve_right id)⟩;rw [sZ,hr];have h1':(readRes a.tmps rv).run P (g.w.putObj D (.deferred none))= .ok v (g.w.putObj D (.deferred none)):=h1;simp [h1']
theorem leave1{kD D:Nat}{a:Act}{g:G}{A:Asn}{rv:ResultVar}(hst:St N g0 No env ((kD,Dq D) :: res) a g)(hr:fn.results= #[rv])(h:ResAt P env res rv A) :
  bodyPostM Fence.wide n P fn (λe w'=>∃ v g',g'.w=w'/\e= .returned v/\Ext No g0 g'/\A.holds v g') .ret (sh (markD D) a) g.w:=by
 have hD:g.w.heap[D]? =some (.deferred (some [])):=hst.hres (kD,Dq D) List.mem_cons_self;have hS:=hst.shut;obtain ⟨v,h1,h2⟩:=h a _ hS.cx;show LeavesInM Fence.wide n P fn a.tmps _ (a.defers++markD D) .returning g.w;rw [hst.dfr];refine ⟨by simp,.inl ⟨D,_,rfl,run_takeDeferred hD,?_⟩⟩;refine ⟨v,?_,v,_,rfl,rfl,hS.ext,h2⟩;rw [sZ,hr];have h1':(readRes a.tmps rv).run P (g.w.putObj D (.deferred none))= .ok v (g.w.putObj D (.deferred none)):=h1;simp [h1']
end
def tEq{α:Type}(t:Ty α)(c0:List Value):Ty α where
 size:=t.size
 agg:=t.agg
 rep:=λg cs x=>cs=c0/\t.rep g cs x
 len:=λh=>t.len h.2
 one:=λh=>t.one h.2
 mono:=λe h=>⟨h.1,t.mono e h.2⟩
 sing:=t.sing
theorem NY{t:Ty α}{c0:List Value}{x:α}{v:Value}{g:G}(h:((tEq t c0).is x).holds v g):(Asn.both (Asn.eq (mkVal t.agg c0)) (t.is x)).holds v g:=by
 obtain ⟨cs,⟨rfl,h1⟩,h2⟩:=h;exact ⟨h2,cs,h1,h2⟩
theorem Stays.zero{g:G}{w:World}(h:Stays g w):Stays (g.zero g.w.heap.size) w:=
 ⟨h.os,h.tape,h.output,h.size,λb i v hv=>by
  have h1:i<if g.w.heap.size<=b then 0 else g.S b:=hv.1;split at h1
  .omega
  .exact h.kept b i v ⟨h1,hv.2⟩,λb n hv=>by
  have h2:rsz n<=if g.w.heap.size<=b then 0 else g.S b:=hv.2.1;split at h2
  .have:=hv.2.2;omega
  .exact h.rows b n ⟨hv.1,h2,hv.2.2⟩⟩
theorem St.rebaseW{N:Nat}{a:Act}{g2 gz:G}{w:World}{S:Nat->Nat}{r:List Int}{pv y:Value}{B:Asn}{s:Nat}(hsz:a.tmps.size=N)(hd:a.defers= [])
  (h3:(tU k r.length).holds (a.tmps.getD s undef) g2) (h1:a.tmps.getD 1 undef=pv) (h0:a.tmps.getD 0 undef=y) (hr:(OwnU (tI .i64) E k r).holds ⟨w,S⟩) (hz:∀ b,k.map Prod.fst=some b->gz.S b=0) (hB:B.holds pv (gz.at w)) :
  St N (gz.at w) (λb=>k.map Prod.fst=some b) [(s,tU k r.length),(1,Asn.both (Asn.eq pv) B),(0,Asn.eq y)] [(s,OwnU (tI .i64) E k r)] a (gz.at w):=by
 refine ⟨hsz,hd,λq A hq=>?_,λx hx=>?_,List.pairwise_singleton _ _,λb ⟨x,hx,hb⟩=>.inr (by rw [List.mem_singleton.1 hx] at hb;exact hb),Ext.refl _ _⟩
 .by_cases e3:s=q
  .subst e3;rw [dh] at hq;cases hq;exact h3
  .rw [bL _ _ e3] at hq;by_cases e1:1=q
   .subst e1;rw [dh] at hq;cases hq;exact ⟨h1,by rw [h1];exact hB⟩
   .rw [bL _ _ e1] at hq;by_cases e0:0=q
    .subst e0;rw [dh] at hq;cases hq;exact h0
    .rw [bL _ _ e0] at hq;cases hq
 .rw [List.mem_singleton.1 hx];exact OwnU.flat Flat.I hr hz
theorem St.rebase{N:Nat}{gA:G}{T:Nat->Prop}{env:Env}{res:Rs}{a:Act}{g2 gz:G}{r:List Int}{pv y:Value}{B:Asn}{s:Nat}(h:St N gA T env res a g2)
  (h3:(tU k r.length).holds (a.tmps.getD s undef) g2) (h1:a.tmps.getD 1 undef=pv) (h0:a.tmps.getD 0 undef=y) (hr:(OwnU (tI .i64) E k r).holds g2) (hz:∀ b,k.map Prod.fst=some b->gz.S b=0) (hB:B.holds pv (gz.at g2.w)) :
  St N (gz.at g2.w) (λb=>k.map Prod.fst=some b) [(s,tU k r.length),(1,Asn.both (Asn.eq pv) B),(0,Asn.eq y)] [(s,OwnU (tI .i64) E k r)] a (gz.at g2.w):=
 St.rebaseW (w:=g2.w) (S:=g2.S) h.sz h.dfr h3 h1 h0 hr hz hB
theorem OpR.unit{o:Oper}{env:Env}{res:Rs}{us:List Nat}{A:Asn}{out:Rs}(h:OpR P o env res us (λ_:Unit=>A) (λ_=>out)):OpR P o env res us (λ_:Tok=>A) (λ_=>out):=
 λa g K Q hc hd hK=>h a g K Q hc hd (λ_=>hK none)
end Go.Dec
