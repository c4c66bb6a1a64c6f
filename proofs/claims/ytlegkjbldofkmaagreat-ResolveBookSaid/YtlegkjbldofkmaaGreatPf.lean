/-
  What each kind of citation means (picked by wip/scripts/pick.py).
-/
import Derived.Test.YtlegkjbldofkmaaGreatPe
import Derived.KernelRfl
set_option linter.unusedVariables false
set_option linter.unusedSimpArgs false
namespace Go.Proofs.YtlegkjbldofkmaaGreat
open Go Go.Dec
def plainR(u:api_Unit)(p:List api_Step):List api_Id×Int:=
 if (oneOf ((units u p).map api_Unit.Id)).2≠0 then ([],(oneOf ((units u p).map api_Unit.Id)).2) else ([(oneOf ((units u p).map api_Unit.Id)).1],0)
theorem units_lim(u:api_Unit)(p:List api_Step)(hc:cnt u≤30):(units u p).length≤lim38:=by
 have h1:=units_len u p
 have h2:cnt u*cnt u≤30*30:=Nat.mul_le_mul hc hc
 unfold lim38;omega
theorem plain_u(u:api_Unit)(hc:cnt u≤30)(at0:api_Id)(said:List api_Id)(c:api_Cite):To (fun n=>M.resolve_plain n ⟨u,at0,said⟩ c) (plainR u c.Path):=by
 simp only [M.resolve_plain]
 refine To.bind (findone_ok u c.Path (by omega) (units_lim u c.Path hc)) ?_
 by_cases h:(oneOf ((units u c.Path).map api_Unit.Id)).2≠0
 ·exact (To.pos h To.pure).of (if_pos h).symm
 ·exact (To.neg h To.pure).of (if_neg h).symm
def headKind:List api_Step→Int
 | []=>0
 | s :: _=>s.Kind
def thisR(u:api_Unit)(at0:api_Id)(p:List api_Step):List api_Id×Int:=
 if (enclR u at0 (headKind p)).2=false then ([],7) else downR u (enclR u at0 (headKind p)).1 p.tail
theorem this_u(u:api_Unit)(hc:cnt u≤10000)(hl:labs u)(at0:api_Id)(said:List api_Id)(c:api_Cite)(s:api_Step)(q:List api_Step)(hp:c.Path=s :: q):To (fun n=>M.resolve_this n ⟨u,at0,said⟩ c) (thisR u at0 c.Path):=by
 simp only [M.resolve_this]
 rw [hp]
 refine To.bindS idx_zero (To.bind (encl_u u hc hl at0 s.Kind) ?_)
 by_cases h:(enclR u at0 s.Kind).2=false
 ·exact (To.pos h To.pure).of (if_pos h).symm
 ·exact (To.neg h (To.bindS (slcLo1 s q) (To.bind (down_u u hc hl _ q) To.pure))).of (if_neg h).symm
theorem seqM_to{α ρ:Type}{st:Nat→α→Option (Option ρ)}{f:α→Option ρ}:∀ ys:List α,(∀ y,y∈ys→To (fun n=>st n y) (f y))→To (fun n=>seqM (st n) ys) (ys.findSome? f)
 | [],_=>by simp only [seqM];exact To.pure
 | y :: ys,h=>by
  simp only [seqM]
  refine To.bind (h y (by simp)) (To.bind (seqM_to ys fun z hz=>h z (by simp [hz])) (To.pure.of ?_))
  rw [List.findSome?_cons]
  cases f y<;> rfl
def saidF(u:api_Unit)(p:List api_Step)(id:api_Id):Option (List api_Id×Int):=
 if (findR id u).2=true∧(findR id u).1.Kind=headKind p then some (downR u id p.tail) else none
def saidR(u:api_Unit)(said:List api_Id)(p:List api_Step):List api_Id×Int:=match said.reverse.findSome? (saidF u p) with
 | some r=>r
 | none=>([],7)
theorem said_u(u:api_Unit)(hc:cnt u≤10000)(hl:labs u)(at0:api_Id)(said:List api_Id)(c:api_Cite)(s:api_Step)(q:List api_Step)(hp:c.Path=s :: q):To (fun n=>M.resolve_said n ⟨u,at0,said⟩ c) (saidR u said c.Path):=by
 simp only [M.resolve_said]
 refine To.bind (seqM_to (f:=saidF u c.Path) said.reverse fun y _=>?_) (To.pure.of ?_)
 ·simp only [M.resolve_said_step]
  refine To.bind (find_u y u hc hl) ?_
  unfold saidF
  rw [hp]
  by_cases h1:(findR y u).2=true
  ·refine To.pos h1 (To.bindS idx_zero ?_)
   by_cases h2:(findR y u).1.Kind=s.Kind
   ·rw [if_pos ⟨h1,h2⟩]
    exact To.pos h2 (To.bindS (slcLo1 s q) (To.bind (down_u u hc hl y q) To.pure))
   ·rw [if_neg (fun h=>h2 h.2)]
    exact To.neg h2 To.pure
  ·rw [if_neg (fun h=>h1 h.1)]
   exact To.neg h1 To.pure
 ·unfold saidR
  rfl
theorem said_r(u:api_Unit)(hc:cnt u≤10000)(said:List api_Id)(hs:said.length≤1000000)(c:api_Cite)(s:api_Step)(q:List api_Step)(hp:c.Path=s :: q)(hq:q.length≤10000) :
  ∀ k:Nat,k≤said.length→To (fun n=>M.r41_On_loop1 u c said n ((k:Int)-1)) (match (said.take k).reverse.findSome? (saidF u c.Path) with | some r=>.inr r | none=>.inl ()):=by
 intro k
 induction k with
 | zero=>
  intro _
  refine To.succ ?_
  simp only [M.r41_On_loop1]
  exact To.neg (by omega) To.pure
 | succ k ih=>
  intro hk
  have hx:=idx_getElem (l:=said) (i:=k) (by omega)
  have hi:=get_is said[k] u
  refine To.succ ?_
  simp only [M.r41_On_loop1]
  rw [show ((k+1:Nat):Int)-1=(k:Int) by omega,List.take_succ_eq_append_getElem (by omega),List.reverse_append,List.reverse_singleton,List.singleton_append,List.findSome?_cons]
  refine To.pos (by omega) (To.bindS hx (To.bind (get_r23 said[k] u hc) ?_))
  rw [get_find]
  have hih:=ih (by omega)
  rw [hp] at hih ⊢
  by_cases h1:(findR said[k] u).2=true
  ·rw [h1] at hi
   refine To.pos (of_decide_eq_true hi) (To.bindS idx_zero ?_)
   by_cases h2:(findR said[k] u).1.Kind=s.Kind
   ·have hf:saidF u (s :: q) said[k]=some (downR u said[k] q):=if_pos ⟨h1,h2⟩
    rw [hf]
    exact To.pos h2 (To.bindS hx (To.bindS (slcLo1 s q) (To.bind (down_r u hc said[k] q hq) To.pure)))
   ·have hf:saidF u (s :: q) said[k]=none:=if_neg (fun h=>h2 h.2)
    rw [hf]
    exact To.neg h2 (To.bindS (subC_eq (by omega) (by omega)) hih)
  ·have h1':(findR said[k] u).2=false:=by simpa using h1
   rw [h1'] at hi
   have hf:saidF u (s :: q) said[k]=none:=if_neg (fun h=>h1 h.1)
   rw [hf]
   exact To.neg (of_decide_eq_false hi) (To.bindS (subC_eq (by omega) (by omega)) hih)
theorem called_kl(y:api_Unit)(k:Int)(l:Str):calledB y ⟨k,l⟩=(decide (y.Kind=k) && (y.Label==l)):=rfl
def In(u:api_Unit)(l:List api_Id):Prop:=l.length≤cnt u+1∧ ∀ id∈l,∃ y∈desc u,y.Id=id
theorem In.nil(u:api_Unit):In u []:=⟨by simp,fun id h=>by cases h⟩
theorem In.one{u y:api_Unit}(h:y∈desc u):In u [y.Id]:=⟨by simp,fun id hi=>⟨y,h,(List.mem_singleton.1 hi).symm⟩⟩
theorem In.betw{u p:api_Unit}(h:p∈desc u)(i j:Nat)(kd:Int):In u (betwL p i j kd):=by
 have hk:=kids_len h
 refine ⟨?_,fun id hi=>?_⟩
 ·unfold betwL
  have h1:=List.length_filter_le (fun k:api_Unit=>decide (k.Kind=kd)) ((p.Kids.take (j+1)).drop i)
  rw [List.length_map]
  rw [List.length_drop,List.length_take] at h1
  omega
 ·unfold betwL at hi
  obtain ⟨y,hy,rfl⟩:=List.mem_map.1 hi
  have hy:=(List.mem_filter.1 hy).1
  have hy:=(List.take_sublist _ _).subset ((List.drop_sublist _ _).subset hy)
  exact ⟨y,desc_sub h y (mem_desc_kids hy),rfl⟩
theorem range_ok(u:api_Unit)(hc:cnt u≤30)(hl:labs u)(hg:Good u)(at0:api_Id)(said:List api_Id)(c:api_Cite)(hsm:small c.Path) :
  ∃ r,To (fun n=>M.resolve_through n ⟨u,at0,said⟩ c) r∧
   To (fun n=>Option.bind (M.r07_One n u c.Path) fun one=>if one.2≠(0:Int) then some (([]:List api_Id),one.2) else
     Option.bind (M.r23_Get n u one.1) fun get1=>Option.bind (M.r23_Parent n u one.1) fun parent=>Option.bind (M.r41_On_loop2 u c one get1 parent n (0:Int)) fun
      | .inl _=>some (([]:List api_Id),(7:Int))
      | .inr ret0=>some ret0) r∧
   (∀ x p i j y,units u c.Path= [x]→isPar u x.Id p i→p.Kids[i]? =some x→p.Kids[j]? =some y→y.Kind=x.Kind→y.Label=c.To→r=if j<i then ([],12) else (betwL p i j x.Kind,0))∧In u r.1:=by
 have hcc:cnt u≤10000:=by omega
 have hone:=one_r u c.Path hcc hsm
 have hfo:=findone_ok u c.Path hcc (units_lim u c.Path hc)
 by_cases h0:(oneOf ((units u c.Path).map api_Unit.Id)).2≠0
 ·refine ⟨([],(oneOf ((units u c.Path).map api_Unit.Id)).2),?_,?_,fun x p i j y hu=>?_,In.nil u⟩
  ·simp only [M.resolve_through]
   exact To.bind hfo (To.pos h0 To.pure)
  ·exact To.bind hone (To.pos h0 To.pure)
  ·rw [hu] at h0;simp [oneOf] at h0
 ·have h0':(oneOf ((units u c.Path).map api_Unit.Id)).2=0:=by omega
  obtain ⟨x,hxm,hxid⟩:=one_ok u c.Path h0'
  generalize hid:(oneOf ((units u c.Path).map api_Unit.Id))=o at *
  obtain ⟨p,i,ok,r,hr1,hr2,hor⟩:=rows o.1 u hcc hl hg.apart
  have hux:∀ x',units u c.Path= [x']→x'=x:=by
   intro x' hu
   have:x'∈desc u:=units_sub u c.Path x' (by rw [hu];simp)
   refine nodup_eq hg.apart this hxm ?_
   rw [hxid,←hid,hu];rfl
  rcases hor with ⟨rfl,e1,hno⟩ | ⟨rfl,i,rfl,e2,e3,hpar⟩
  ·refine ⟨([],7),?_,?_,fun x' p i j y hu hp=>?_,In.nil u⟩
   ·simp only [M.resolve_through]
    exact To.bind hfo (To.neg h0 (To.bind hr1 (To.pos rfl To.pure)))
   ·have hlp:To (fun n=>M.r41_On_loop2 u c o (getR o.1 u) r n (0:Int)) (.inl ()):=by
     refine To.succ ?_
     simp only [M.r41_On_loop2]
     exact To.bind (a:=false) (To.neg (by rw [e1];omega) To.pure) (To.neg (by simp) To.pure)
    exact To.bind hone (To.neg h0 (To.bind (get_r23 o.1 u hcc) (To.bind hr2 (To.bind hlp To.pure))))
   ·rw [hux x' hu,hxid] at hp
    exact (hno _ _ hp).elim
  ·obtain ⟨k,hk,hkid⟩:=hpar.2
   have hkx:k=x:=nodup_eq hg.apart (desc_sub hpar.1 k (mem_desc_kids (List.mem_of_getElem? hk))) hxm (by rw [hkid,hxid])
   subst hkx
   have hil:=(List.getElem?_eq_some_iff.1 hk).1
   have hpl:=kids_len hpar.1
   have hii:idx p.Kids (i:Int)=some k:=by rw [idx_nat];exact hk
   have hq:∀ y,y∈p.Kids→To (fun _:Nat=>M.resolve_through_1 y p (i:Int) c) (calledB y ⟨k.Kind,c.To⟩):=by
    intro y _
    simp only [M.resolve_through_1]
    refine To.bindS hii ?_
    rw [called_kl]
    by_cases hkk:y.Kind=k.Kind
    ·exact To.pos hkk (To.pure.of (by simp [hkk]))
    ·exact To.neg hkk (To.pure.of (by simp [hkk]))
   have hix:=indexK p.Kids (fun y=>calledB y ⟨k.Kind,c.To⟩) (fun _ y=>M.resolve_through_1 y p (i:Int) c) hq
   have hget:(getR o.1 u).1=k:=by
    rw [get_find,←hxid,found41 u hg.apart k hxm]
   have hf:=find_at (fun y=>calledB y ⟨k.Kind,c.To⟩) p.Kids
   -- the reference's loop
   have loop:∀ (b:api_Unit→List api_Id),(∀ y,y∈p.Kids→To (fun n=>M.r41_Between n u o.1 y.Id) (b y))→∀ (xs:List api_Unit) (m:Nat),p.Kids.drop m=xs→
     To (fun n=>M.r41_On_loop2 u c o (getR o.1 u) r n (m:Int)) (match xs.find? (fun y=>calledB y ⟨k.Kind,c.To⟩) with
      | none=>.inl ()
      | some y=>.inr (if m+xs.findIdx (fun y=>calledB y ⟨k.Kind,c.To⟩)< i then ([],12) else (b y,0))):=by
    intro b hb xs
    induction xs with
    | nil=>
     intro m hx
     refine To.succ ?_
     simp only [M.r41_On_loop2]
     refine To.bind (a:=false) (To.pos (by rw [e2];omega) (To.pure.of ?_)) (To.neg (by simp) To.pure)
     rw [e3]
     exact decide_eq_false (drop_end hx)
    | cons y xs ih=>
     intro m hx
     have hym:y∈p.Kids:=List.mem_of_getElem? (drop_cons hx).2.1
     have hml:=(drop_cons hx).1
     have hadd:addC (m:Int) 1=some ((m+1:Nat):Int):=addC_succ (by omega)
     refine To.succ ?_
     simp only [M.r41_On_loop2]
     refine To.bind (a:=true) (To.pos (by rw [e2];omega) (To.pure.of ?_)) (To.pos rfl ?_)
     ·rw [e3];exact decide_eq_true (drop_lt hx)
     rw [e3,hget,e2]
     refine To.bindS (drop_idx hx) ?_
     rw [List.find?_cons,List.findIdx_cons]
     have hrest:To (fun n=>M.r41_On_loop2 u c o (getR o.1 u) r n ((m+1:Nat):Int)) (match xs.find? (fun y=>calledB y ⟨k.Kind,c.To⟩) with
      | none=>.inl ()
      | some y=>.inr (if m+(xs.findIdx (fun y=>calledB y ⟨k.Kind,c.To⟩)+1)< i then ([],12) else (b y,0))):=by
      refine (ih (m+1) (drop_next hx)).of ?_
      rw [show m+1+xs.findIdx (fun y=>calledB y ⟨k.Kind,c.To⟩)=m+(xs.findIdx (fun y=>calledB y ⟨k.Kind,c.To⟩)+1) by omega]
     by_cases hkk:y.Kind=k.Kind
     ·refine To.pos hkk (To.bindS (drop_idx hx) ?_)
      by_cases hl1:(y.Label==c.To)=true
      ·have hcb:calledB y ⟨k.Kind,c.To⟩=true:=by rw [called_kl,hl1,decide_eq_true hkk];rfl
       rw [hcb]
       refine To.of (r:=(Sum.inr (if m<i then (([]:List api_Id),(12:Int)) else (b y,0)):Unit ⊕ (List api_Id×Int))) ?_ (by simp)
       by_cases hlt:m<i
       ·rw [if_pos hlt]
        exact To.pos hl1 (To.pos (by omega) To.pure)
       ·rw [if_neg hlt]
        exact To.pos hl1 (To.neg (by omega) (To.bindS (drop_idx hx) (To.bind (hb y hym) To.pure)))
      ·have hl2:(y.Label==c.To)=false:=by simpa using hl1
       have hcb:calledB y ⟨k.Kind,c.To⟩=false:=by rw [called_kl,hl2,Bool.and_false]
       rw [hcb]
       exact To.neg hl1 (To.bindS hadd hrest)
     ·have hcb:calledB y ⟨k.Kind,c.To⟩=false:=by rw [called_kl,decide_eq_false hkk];rfl
      rw [hcb]
      exact To.neg hkk (To.bindS hadd hrest)
   -- what lies between, by both texts
   have hbt:=fun y:api_Unit=>between_ok o.1 y.Id u hcc hl hg.apart
   obtain ⟨b,hb⟩:∃ b:api_Unit→List api_Id,∀ y,To (fun n=>M.resolve_Between n u o.1 y.Id) (b y)∧To (fun n=>M.r41_Between n u o.1 y.Id) (b y)∧
     ∀ p i j ka kb,isPar u o.1 p i→isPar u y.Id p j→i≤j→p.Kids[i]? =some ka→p.Kids[j]? =some kb→ka.Kind=kb.Kind→b y=betwL p i j ka.Kind:=
    ⟨fun y=>(hbt y).choose,fun y=>(hbt y).choose_spec⟩
   have hloop:=loop b (fun y _=>(hb y).2.1) p.Kids 0 rfl
   by_cases hany:p.Kids.any (fun y=>calledB y ⟨k.Kind,c.To⟩)=true
   ·rw [if_pos hany] at hix
    have hlt:p.Kids.findIdx (fun y=>calledB y ⟨k.Kind,c.To⟩)< p.Kids.length:=List.findIdx_lt_length_of_exists (List.any_eq_true.1 hany)
    rw [List.getElem?_eq_getElem hlt] at hf
    rw [←hf] at hloop
    simp only [Nat.zero_add] at hloop
    generalize hm:p.Kids.findIdx (fun y=>calledB y ⟨k.Kind,c.To⟩)=m at *
    have hcm:calledB p.Kids[m] ⟨k.Kind,c.To⟩=true:=by
     have:=List.findIdx_getElem (xs:=p.Kids) (p:=fun y=>calledB y ⟨k.Kind,c.To⟩) (w:=by rw [hm];exact hlt)
     simpa only [hm] using this
    refine ⟨if m<i then ([],12) else (b p.Kids[m],0),?_,?_,fun x' p' i' j' y hu hp' hi' hj' hyk hyl=>?_,?_⟩
    ·simp only [M.resolve_through]
     refine To.bind hfo (To.neg h0 (To.bind hr1 (To.neg (by simp) (To.bind hix (To.neg (by omega) ?_)))))
     by_cases hmi:m<i
     ·rw [if_pos hmi]
      exact To.pos (by simp;omega) To.pure
     ·rw [if_neg hmi]
      exact To.neg (by simp;omega) (To.bindS (idx_getElem hlt) (To.bind (hb p.Kids[m]).1 To.pure))
    ·refine To.bind hone (To.neg h0 (To.bind (get_r23 o.1 u hcc) (To.bind hr2 (To.bind hloop ?_))))
     exact To.pure
    ·rw [hux x' hu] at hp' hi' hyk ⊢
     rw [hxid] at hp'
     obtain ⟨e5,e6⟩:=par_unique u hg.apart _ _ _ _ hp' hpar
     subst e5 e6
     -- the kid with this label is the first one
     have hjm:j'=m:=by
      have hfine:=hg.fine p' hpar.1
      have hjl:=(List.getElem?_eq_some_iff.1 hj').1
      have hjy:=(List.getElem?_eq_some_iff.1 hj').2
      have hcm2:(p'.Kids[m]).Kind=k.Kind∧(p'.Kids[m]).Label=c.To:=by
       rw [called_kl] at hcm
       simpa using hcm
      rcases Nat.lt_trichotomy j' m with hlt' | heq | hgt
      ·exact (hfine.apart j' m hjl hlt hlt' ⟨by rw [hjy,hyk,hcm2.1],by rw [hjy,hyl,hcm2.2]⟩).elim
      ·exact heq
      ·exact (hfine.apart m j' hlt hjl hgt ⟨by rw [hjy,hyk,hcm2.1],by rw [hjy,hyl,hcm2.2]⟩).elim
     subst hjm
     by_cases hmi:j'< i'
     ·rw [if_pos hmi,if_pos hmi]
     ·rw [if_neg hmi,if_neg hmi]
      have hjy:=(List.getElem?_eq_some_iff.1 hj').2
      rw [(hb p'.Kids[j']).2.2 p' i' j' k y hpar ⟨hpar.1,p'.Kids[j'],List.getElem?_eq_getElem hlt,rfl⟩ (by omega) hi' hj' hyk.symm]
    ·by_cases hmi:m<i
     ·rw [if_pos hmi];exact In.nil u
     ·rw [if_neg hmi]
      have hcm2:(p.Kids[m]).Kind=k.Kind:=by
       rw [called_kl,Bool.and_eq_true] at hcm
       exact of_decide_eq_true hcm.1
      show In u (b p.Kids[m])
      rw [(hb p.Kids[m]).2.2 p i m k p.Kids[m] hpar ⟨hpar.1,p.Kids[m],List.getElem?_eq_getElem hlt,rfl⟩ (by omega) hk (List.getElem?_eq_getElem hlt) hcm2.symm]
      exact In.betw hpar.1 i m k.Kind
   ·have hnone:p.Kids.find? (fun y=>calledB y ⟨k.Kind,c.To⟩)=none:=by
     rw [List.find?_eq_none]
     intro y hy hq
     exact hany (List.any_eq_true.2 ⟨y,hy,hq⟩)
    rw [if_neg hany] at hix
    rw [hnone] at hloop
    refine ⟨([],7),?_,?_,fun x' p' i' j' y hu hp' hi' hj' hyk hyl=>?_,In.nil u⟩
    ·simp only [M.resolve_through]
     exact To.bind hfo (To.neg h0 (To.bind hr1 (To.neg (by simp) (To.bind hix (To.pos (by omega) To.pure)))))
    ·exact To.bind hone (To.neg h0 (To.bind (get_r23 o.1 u hcc) (To.bind hr2 (To.bind hloop To.pure))))
    ·rw [hux x' hu] at hp' hi' hyk
     rw [hxid] at hp'
     obtain ⟨e5,e6⟩:=par_unique u hg.apart _ _ _ _ hp' hpar
     subst e5 e6
     exact (hany (List.any_eq_true.2 ⟨y,List.mem_of_getElem? hj',by rw [called_kl];simp [hyk,hyl]⟩)).elim
theorem mean_eq(n:Nat):M.resolve_meanings n=some [(0,fun s0 s1=>M.resolve_plain n s0 s1),(1,fun s0 s1=>M.resolve_through n s0 s1),(2,fun s0 s1=>M.resolve_this n s0 s1),(3,fun s0 s1=>M.resolve_said n s0 s1),(4,fun s0 s1=>M.resolve_meanings_1 s0 s1)]:=by
 simp [M.resolve_meanings,mset]
theorem resolve_of(u:api_Unit)(at0:api_Id)(c:api_Cite)(said:List api_Id)(f:Nat→resolve_scene→api_Cite→Option (List api_Id×Int))
  (hf:∀ n,mget [((0:Int),fun s0 s1=>M.resolve_plain n s0 s1),(1,fun s0 s1=>M.resolve_through n s0 s1),(2,fun s0 s1=>M.resolve_this n s0 s1),(3,fun s0 s1=>M.resolve_said n s0 s1),(4,fun s0 s1=>M.resolve_meanings_1 s0 s1)] c.Kind (fun _ _=>none)=f n)
  (hh:∀ n,mhas [((0:Int),fun s0 s1=>M.resolve_plain n s0 s1),(1,fun s0 s1=>M.resolve_through n s0 s1),(2,fun s0 s1=>M.resolve_this n s0 s1),(3,fun s0 s1=>M.resolve_said n s0 s1),(4,fun s0 s1=>M.resolve_meanings_1 s0 s1)] c.Kind=true)
  {r:List api_Id×Int} (hr:citeB c=true→To (fun n=>f n ⟨u,at0,said⟩ c) r):To (fun n=>M.resolve_Resolve n u at0 c said) (if citeB c=true then r else ([],1)):=by
 have:∀ n,M.resolve_Resolve n u at0 c said=Option.bind (M.citation_Valid n c) fun b=>if (!b)=true then some (([]:List api_Id),(1:Int)) else Option.bind (f n ⟨u,at0,said⟩ c) fun v1=>some (v1.1,v1.2):=by
  intro n
  simp only [M.resolve_Resolve,mean_eq,Option.bind_some,hf,hh]
  rw [if_neg (by simp)]
  cases M.citation_Valid n c<;> rfl
 refine To.eq ?_ this
 refine To.bind (cvalid_ok c) ?_
 cases hb:citeB c with
 | false=>
  rw [if_neg (by simp)]
  exact To.pos rfl To.pure
 | true=>
  rw [if_pos rfl]
  exact To.neg (by simp) (To.bind (hr hb) To.pure)
theorem in_if{u:api_Unit}{b:Prop}[Decidable b]{r:List api_Id×Int}(h:In u r.1):In u (if b then r else ([],1)).1:=by
 by_cases hb:b
 ·rw [if_pos hb];exact h
 ·rw [if_neg hb];exact In.nil u
theorem plain_in(u:api_Unit)(p:List api_Step):In u (plainR u p).1:=by
 unfold plainR
 by_cases h:(oneOf ((units u p).map api_Unit.Id)).2≠0
 ·rw [if_pos h];exact In.nil u
 ·rw [if_neg h]
  obtain ⟨x,h1,h2⟩:=one_ok u p (by omega)
  rw [←h2]
  exact In.one h1
theorem downL_in:∀ (p:List api_Step) (x y:api_Unit),downL p x=some y→y∈desc x
 | [],x,y,h=>by
  have:x=y:=Option.some.inj h
  subst this
  exact desc_self x
 | s :: p,x,y,h=>by
  unfold downL at h
  cases hf:x.Kids.find? (fun k=>calledB k s) with
  | none=>rw [hf] at h;cases h
  | some k=>
   rw [hf] at h
   exact desc_kid (List.mem_of_find?_eq_some hf) (downL_in p k y h)
theorem found_in{u:api_Unit}{id:api_Id}(h:(findR id u).2=true):(findR id u).1∈desc u:=by
 unfold findR at h ⊢
 cases hf:findO id u with
 | none=>rw [hf] at h;cases h
 | some x=>exact (find_mem id u x hf).1
theorem down_in(u:api_Unit)(id:api_Id)(p:List api_Step)(h:(findR id u).2=true):In u (downR u id p).1:=by
 unfold downR
 cases hd:downL p (findR id u).1 with
 | none=>exact In.nil u
 | some y=>exact In.one (desc_sub (found_in h) y (downL_in p _ y hd))
theorem above_in{u:api_Unit}{id e:api_Id}(h:e∈aboveL id u):(findR e u).2=true:=by
 unfold aboveL at h
 obtain ⟨z,hz,rfl⟩:=List.mem_map.1 h
 have hz:=List.mem_reverse.1 hz
 cases hp:pathO id u with
 | none=>rw [hp] at hz;cases hz
 | some w=>
  rw [hp] at hz
  have hz:z∈w:=(List.dropLast_sublist w).subset hz
  obtain ⟨h1,_⟩:=way_desc id u w hp z hz
  obtain ⟨y,hy⟩:=find_some z.Id u z h1 rfl
  unfold findR
  rw [hy]
theorem this_in(u:api_Unit)(at0:api_Id)(p:List api_Step):In u (thisR u at0 p).1:=by
 unfold thisR
 by_cases h:(enclR u at0 (headKind p)).2=false
 ·rw [if_pos h];exact In.nil u
 ·rw [if_neg h]
  refine down_in u _ _ ?_
  unfold enclR at h ⊢
  by_cases hf:(findR at0 u).2=false
  ·rw [if_pos hf] at h;exact absurd rfl h
  ·rw [if_neg hf] at h ⊢
   cases hx:(at0 :: aboveL at0 u).find? (ofKind u (headKind p)) with
   | none=>rw [hx] at h;exact absurd rfl h
   | some e=>
    simp only
    have hm:=List.mem_of_find?_eq_some hx
    rcases List.mem_cons.1 hm with rfl | hm
    ·simpa using hf
    ·exact above_in hm
theorem said_in(u:api_Unit)(said:List api_Id)(p:List api_Step):In u (saidR u said p).1:=by
 unfold saidR
 cases hs:said.reverse.findSome? (saidF u p) with
 | none=>exact In.nil u
 | some r=>
  obtain ⟨id,_,hid⟩:=List.exists_of_findSome?_eq_some hs
  unfold saidF at hid
  by_cases hc:(findR id u).2=true∧(findR id u).1.Kind=headKind p
  ·rw [if_pos hc] at hid
   rw [←Option.some.inj hid]
   exact down_in u id p.tail hc.1
  ·rw [if_neg hc] at hid;cases hid
theorem resolve_same(u:api_Unit)(hc:cnt u≤30)(hl:labs u)(hg:Good u)(at0:api_Id)(c:api_Cite)(said:List api_Id)(hs:said.length≤1000000)(hsm:small c.Path)(hto:c.To.length≤1000000000) :
  ∃ r,To (fun n=>M.resolve_Resolve n u at0 c said) r∧To (fun n=>M.r41_On n u at0 c said) r∧In u r.1:=by
 have hcc:cnt u≤10000:=by omega
 have hmay:=cmay_ok c hsm hto
 by_cases h0:c.Kind=0
 ·refine ⟨_,resolve_of u at0 c said (fun n=>M.resolve_plain n) (fun n=>by rw [h0];rfl) (fun n=>by rw [h0];rfl) (r:=plainR u c.Path) (fun _=>plain_u u hc at0 said c),?_,in_if (plain_in u c.Path)⟩
  simp only [M.r41_On]
  refine To.bind hmay ?_
  cases hb:citeB c with
  | false=>rw [if_neg (by simp)];exact To.pos rfl To.pure
  | true=>
   rw [if_pos rfl]
   refine To.neg (by simp) (To.neg (by omega) (To.neg (by omega) (To.neg (by omega) (To.bind (one_r u c.Path hcc hsm) ?_))))
   by_cases h:(oneOf ((units u c.Path).map api_Unit.Id)).2≠0
   ·exact (To.pos h To.pure).of (if_pos h).symm
   ·exact (To.neg h (To.pos h0 To.pure)).of (if_neg h).symm
 by_cases h1:c.Kind=1
 ·obtain ⟨r,hr1,hr2,_,hin⟩:=range_ok u hc hl hg at0 said c hsm
  refine ⟨_,resolve_of u at0 c said (fun n=>M.resolve_through n) (fun n=>by rw [h1];rfl) (fun n=>by rw [h1];rfl) (r:=r) (fun _=>hr1),?_,in_if hin⟩
  simp only [M.r41_On]
  refine To.bind hmay ?_
  cases hb:citeB c with
  | false=>rw [if_neg (by simp)];exact To.pos rfl To.pure
  | true=>
   rw [if_pos rfl]
   refine To.neg (by simp) (To.neg (by omega) (To.neg (by omega) (To.neg (by omega) ?_)))
   simp only [if_neg h0]
   exact hr2
 by_cases h2:c.Kind=2
 ·have hne:citeB c=true→∃ s q,c.Path=s :: q∧q.length≤10000:=by
   intro hb
   by_cases h9:9<c.Path.length
   ·rw [cite9 h9] at hb;cases hb
   ·rw [cite23 h9 (.inl h2)] at hb
    cases hp:c.Path with
    | nil=>rw [hp] at hb;simp [nearB] at hb
    | cons s q=>rw [hp] at h9;simp at h9;exact ⟨s,q,rfl,by omega⟩
  refine ⟨_,resolve_of u at0 c said (fun n=>M.resolve_this n) (fun n=>by rw [h2];rfl) (fun n=>by rw [h2];rfl) (r:=thisR u at0 c.Path) (fun hb=>by
   obtain ⟨s,q,hp,_⟩:=hne hb
   exact this_u u hcc hl at0 said c s q hp),?_,in_if (this_in u at0 c.Path)⟩
  simp only [M.r41_On]
  refine To.bind hmay ?_
  cases hb:citeB c with
  | false=>rw [if_neg (by simp)];exact To.pos rfl To.pure
  | true=>
   rw [if_pos rfl]
   obtain ⟨s,q,hp,hq⟩:=hne hb
   refine To.neg (by simp) (To.neg (by omega) (To.pos h2 ?_))
   rw [hp]
   refine To.bindS idx_zero (To.bind (this_r u hcc at0 s.Kind) ?_)
   by_cases h:(enclR u at0 s.Kind).2=false
   ·exact (To.pos h To.pure).of (if_pos h).symm
   ·exact (To.neg h (To.bindS (slcLo1 s q) (To.bind (down_r u hcc _ q hq) To.pure))).of (if_neg h).symm
 by_cases h3:c.Kind=3
 ·have hne:citeB c=true→∃ s q,c.Path=s :: q∧q.length≤10000:=by
   intro hb
   by_cases h9:9<c.Path.length
   ·rw [cite9 h9] at hb;cases hb
   ·rw [cite23 h9 (.inr h3)] at hb
    cases hp:c.Path with
    | nil=>rw [hp] at hb;simp [nearB] at hb
    | cons s q=>rw [hp] at h9;simp at h9;exact ⟨s,q,rfl,by omega⟩
  refine ⟨_,resolve_of u at0 c said (fun n=>M.resolve_said n) (fun n=>by rw [h3];rfl) (fun n=>by rw [h3];rfl) (r:=saidR u said c.Path) (fun hb=>by
   obtain ⟨s,q,hp,_⟩:=hne hb
   exact said_u u hcc hl at0 said c s q hp),?_,in_if (said_in u said c.Path)⟩
  simp only [M.r41_On]
  refine To.bind hmay ?_
  cases hb:citeB c with
  | false=>rw [if_neg (by simp)];exact To.pos rfl To.pure
  | true=>
   rw [if_pos rfl]
   obtain ⟨s,q,hp,hq⟩:=hne hb
   refine To.neg (by simp) (To.neg (by omega) (To.neg (by omega) (To.pos h3 (To.bindS (subC_eq (by omega) (by omega)) (To.bind (said_r u hcc said hs c s q hp hq said.length (Nat.le_refl _)) ?_)))))
   rw [List.take_length]
   unfold saidR
   cases said.reverse.findSome? (saidF u c.Path) with
   | none=>exact To.pure
   | some r=>exact To.pure
 by_cases h4:c.Kind=4
 ·refine ⟨_,resolve_of u at0 c said (fun n=>M.resolve_meanings_1) (fun n=>by rw [h4];rfl) (fun n=>by rw [h4];rfl) (r:=([],11)) (fun _=>by simp only [M.resolve_meanings_1];exact To.pure),?_,in_if (In.nil u)⟩
  simp only [M.r41_On]
  refine To.bind hmay ?_
  cases hb:citeB c with
  | false=>rw [if_neg (by simp)];exact To.pos rfl To.pure
  | true=>
   rw [if_pos rfl]
   exact To.neg (by simp) (To.pos h4 To.pure)
 ·have hb:citeB c=false:=citeO (by omega) h1 (by omega)
  refine ⟨([],1),?_,?_,In.nil u⟩
  ·have:∀ n,M.resolve_Resolve n u at0 c said=some (([]:List api_Id),(1:Int)):=by
    intro n
    have hm:mhas [((0:Int),fun s0 s1=>M.resolve_plain n s0 s1),(1,fun s0 s1=>M.resolve_through n s0 s1),(2,fun s0 s1=>M.resolve_this n s0 s1),(3,fun s0 s1=>M.resolve_said n s0 s1),(4,fun s0 s1=>M.resolve_meanings_1 s0 s1)] c.Kind=false:=by
     simp [mhas,h0,h1,h2,h3,h4]
    simp only [M.resolve_Resolve,mean_eq,Option.bind_some,hm]
    rw [if_pos trivial];rfl
   exact To.pure.eq this
  ·simp only [M.r41_On]
   rw [hb] at hmay
   exact To.bind hmay (To.pos rfl To.pure)
theorem alike_same(a:List api_Id):To (fun n=>M.r06_Alike n a a) true:=by
 have loop:∀ (xs:List api_Id) (i:Nat),a.drop i=xs→To (fun n=>M.r06_Alike_loop1 a a n (i:Int)) (.inl ()):=by
  intro xs
  induction xs with
  | nil=>
   intro i hx
   refine To.succ ?_
   simp only [M.r06_Alike_loop1]
   exact To.neg (drop_end hx) To.pure
  | cons x xs ih=>
   intro i hx
   refine To.succ ?_
   simp only [M.r06_Alike_loop1]
   rw [cast_succ]
   exact To.pos (drop_lt hx) (To.bindS (drop_idx hx) (To.bindS (drop_idx hx) (To.neg (by simp) (ih (i+1) (drop_next hx)))))
 simp only [M.r06_Alike]
 exact To.neg (by simp) (To.bind (loop a 0 rfl) To.pure)
theorem awake41:To (fun n=>M.law41_awake n) true:=by
 refine To.far 60 fun m=>?_
 kernel_rfl
end Go.Proofs.YtlegkjbldofkmaaGreat
