/-
  Chapter 11: PlaintextParse.
-/
import Derived.Test.YtofaogkcifaioaaGreatDoorPg
set_option linter.unusedVariables false
set_option linter.unusedSimpArgs false
namespace Go.Proofs.YtofaogkcifaioaaGreatDoor
open Go Go.Dec
theorem St.wlen{P:List Nd}{W:List Nat}{S:Stk}(h:St P W S):∃ x,P[P.length-1]? =some x∧x.depth_+1=(W.length:Int):=by
 obtain ⟨W0,hw⟩:=h.top
 obtain ⟨x,h1,h2⟩:=h.rl.depth (i:=W0.length) (w:=P.length-1) (by rw [hw];simp)
 refine ⟨x,h1,?_⟩
 rw [h2,hw]
 simp
theorem St.at{P:List Nd}{W:List Nat}{S:Stk}(h:St P W S){d p:Nat}(hp:W[d]? =some p) :
  ∃ x K,P[p]? =some x∧topS S d=some (x.u_,K)∧(kidsOf P p).length=K.length∧ ∀ u,dupK P u (kidsOf P p)=decide (keyU u∈K.map keyU):=by
 obtain ⟨s1,s2⟩:=h.split d
 obtain ⟨x,K,h1,_,h3,h4⟩:=full h.back s1 h.rl hp s2
 exact ⟨x,K,h1,h3,h4.len,fun u=>h4.dup u⟩
theorem kids_first{P:List Nd}(hb:Back P)(p:Nat):kidsOf P p=kf p (P.drop 1) 1:=by
 cases P with
 | nil=>rfl
 | cons x P=>
  have:=hb 0 x rfl
  show (if x.parent_=(p:Int) then _ else _)=_
  rw [if_neg (by omega)];rfl
theorem wrong_nil(u:api_Unit)(d:Nat):To (fun n=>M.r11_wrong n [] ⟨u,(d:Int),-1⟩) (errS [] 0 u d):=by
 simp only [M.r11_wrong]
 cases d with
 | zero=>exact To.pos rfl (To.neg (by simp) To.pure)
 | succ d=>exact To.pos rfl (To.pos (by simp;omega) To.pure)
theorem wrong_ok{P:List Nd}{W:List Nat}{S:Stk}(h:St P W S)(hl:P.length≤100000)(u:api_Unit)(d:Nat)(hd:d≤100000):To (fun n=>M.r11_wrong n P ⟨u,(d:Int),-1⟩) (errS S P.length u d):=by
 have h0:=h.pos0
 have hwl:=h.rl.len
 obtain ⟨y,hy,hyd⟩:=h.wlen
 have hlow:=h.low _ y hy
 have hS:S≠ []:=by
  obtain ⟨ws,hw⟩:=h.root
  rintro rfl
  rw [hw] at hwl;cases hwl
 simp only [M.r11_wrong]
 refine To.neg (by omega) ?_
 cases d with
 | zero=>
  refine To.pos (by simp) (To.pure.of ?_)
  show _=if S= [] then (0:Int) else 3
  rw [if_neg hS]
 | succ d=>
  have hlen:subC (P.length:Int) 1=some ((P.length-1:Nat):Int):=by
   rw [subC_eq (by omega) (by omega)]
   congr 1;omega
  refine To.neg (by show ¬ ((d+1:Nat):Int)< 1;omega) (To.bindS hlen (To.bindS (a:=y) (by rw [idx_nat];exact hy) (To.bindS (addC_eq (by omega) (by omega)) ?_)))
  by_cases hdw:W.length≤d
  ·refine To.pos (by show y.depth_+1<((d+1:Nat):Int);omega) (To.pure.of ?_)
   show _=match topS S d with | none=>(3:Int) | some (v,K)=>errT v K P.length u
   rw [top_none (by omega)]
  ·refine To.neg (by show ¬ y.depth_+1<((d+1:Nat):Int);omega) ?_
   obtain ⟨p,hp⟩:∃ p,W[d]? =some p:=⟨_,List.getElem?_eq_getElem (by omega)⟩
   obtain ⟨x,K,hx,ht,hkl,hdup⟩:=h.at hp
   have he:errS S P.length u (d+1)=errT x.u_ K P.length u:=by
    show (match topS S d with | none=>(3:Int) | some (v,K)=>errT v K P.length u)=_
    rw [ht]
   rw [he]
   refine To.bind (parent_ok h (by omega) hp) ?_
   by_cases hk0:u.Kind=0
   ·refine To.pos hk0 (To.pure.of ?_)
    unfold errT
    rw [hk0,nest_no,if_pos rfl]
   ·refine To.neg hk0 (To.bindS (a:=x) (by rw [idx_nat];exact hx) (To.bindS (nest_r _ _) ?_))
    cases hn:nestB x.u_.Kind u.Kind with
    | false=>exact To.pos rfl (To.pure.of (by unfold errT;rw [hn,if_pos rfl]))
    | true=>
     have hE:errT x.u_ K P.length u=if keyU u∈K.map keyU then 10 else if 64≤K.length then 6 else if 1024≤P.length then 6 else 0:=by
      unfold errT
      rw [hn];rfl
     rw [hE]
     have hwr:=wrong_loop P ⟨u,((d+1:Nat):Int),-1⟩ p (by omega) (P.drop 1) 1 0 rfl (by rw [List.length_drop];omega)
     rw [←kids_first h.back,hdup u,hkl,Nat.zero_add] at hwr
     refine To.neg (by simp) (To.bind hwr ?_)
     by_cases hm:keyU u∈K.map keyU
     ·rw [if_pos hm,if_pos (decide_eq_true hm)];exact To.pure
     ·rw [if_neg hm,if_neg (fun e=>hm (of_decide_eq_true e))]
      by_cases h64:64≤K.length
      ·rw [if_pos h64];exact To.pos (by omega) To.pure
      ·rw [if_neg h64]
       by_cases hc:1024≤P.length
       ·rw [if_pos hc];exact To.neg (by omega) (To.pos (by omega) To.pure)
       ·rw [if_neg hc];exact To.neg (by omega) (To.neg (by omega) To.pure)
theorem grow_bad(ar:NodeL)(W:List Nat)(line:Str)(c:Int)(hs:line.length≤100000)(hr:rdL line=none):To (fun n=>M.plaintext_grow n ar W line c) (([],2),ar):=by
 have hp:=pline_ok line hs
 unfold resP at hp
 rw [hr] at hp
 simp only [M.plaintext_grow]
 exact To.bind hp (To.pos (by simp) To.pure)
theorem grow_nil(line:Str){u:api_Unit}{d:Nat}(hs:line.length≤100000)(hr:rdL line=some (u,d)):To (fun n=>M.plaintext_grow n [] [] line 0) (if errS [] 0 u d≠0 then (([],errS [] 0 u d),[]) else (([0],0),[(u,[])])):=by
 have hp:=pline_ok line hs
 unfold resP at hp
 rw [hr] at hp
 simp only [M.plaintext_grow]
 refine To.bind hp (To.neg (by simp) (To.pos rfl ?_))
 cases d with
 | zero=>exact To.neg (by simp) (To.pure.of rfl)
 | succ d=>exact To.pos (by simp;omega) (To.pure.of rfl)
theorem Ar.push{P:List Nd}{ar:NodeL}(ha:Ar P ar)(hb:Back P){u:api_Unit}{d:Int}{p:Nat}{x:Nd}(hx:P[p]? =some x) :
  Ar (P++ [⟨u,d,(p:Int)⟩]) (ar.set p (x.u_,kidsOf P p++ [P.length])++ [(u,[])]):=by
 have hpl:p<P.length:=(List.getElem?_eq_some_iff.1 hx).1
 refine ⟨by simp [ha.1],fun i y hy=>?_⟩
 have hal:=ha.1
 rw [kids_snoc]
 by_cases hi:i<P.length
 ·rw [List.getElem?_append_left hi] at hy
  rw [List.getElem?_append_left (by rw [List.length_set];omega),List.getElem?_set]
  by_cases hip:p=i
  ·subst hip
   rw [hx] at hy;cases hy
   rw [if_pos rfl,if_pos (by omega),if_pos rfl]
  ·rw [if_neg hip,ha.2 i y hy,if_neg (by show ¬ (p:Int)=(i:Int);omega),List.append_nil]
 ·rw [List.getElem?_append_right (by omega)] at hy
  cases hq:i-P.length with
  | zero=>
   rw [hq] at hy;cases hy
   obtain rfl:i=P.length:=by omega
   have:kidsOf P P.length= []:=by
    rw [kids_from hb,List.drop_eq_nil_iff.2 (by omega)];rfl
   rw [List.getElem?_append_right (by rw [List.length_set];omega),List.length_set,hal,Nat.sub_self,this,if_neg (by show ¬ (p:Int)=(P.length:Int);omega)]
   rfl
  | succ k=>rw [hq] at hy;cases hy
def nxt(P:List Nd)(W:List Nat)(u:api_Unit):Nat→List Nd
 | 0=>P
 | d+1=>P++ [⟨u,((d+1:Nat):Int),((W.getD d 0:Nat):Int)⟩]
theorem nxt_succ(P:List Nd)(W:List Nat)(u:api_Unit)(d:Nat):nxt P W u (d+1)=P++ [⟨u,((d+1:Nat):Int),((W.getD d 0:Nat):Int)⟩]:=rfl
theorem next_succ(S:Stk)(u:api_Unit)(d:Nat):nextS S u (d+1)=pushS S d u:=rfl
theorem grow_ok{P:List Nd}{W:List Nat}{S:Stk}{ar:NodeL}(h:St P W S)(ha:Ar P ar)(hl:P.length≤100000)(line:Str){u:api_Unit}{d:Nat}(hs:line.length≤100000)(hr:rdL line=some (u,d)) :
  ∃ ar2,To (fun n=>M.plaintext_grow n ar W line (P.length:Int)) (if errS S P.length u d≠0 then (([],errS S P.length u d),ar) else ((W.take d++ [P.length],0),ar2))∧(errS S P.length u d=0→Ar (nxt P W u d) ar2):=by
 have hp0:=pline_ok line hs
 unfold resP at hp0
 rw [hr] at hp0
 have hwl:=h.rl.len
 have h0:=h.pos0
 have hal:=ha.1
 have hS:S≠ []:=by
  obtain ⟨ws,hw⟩:=h.root
  rintro rfl
  rw [hw] at hwl;cases hwl
 have hW:W.length≠0:=by
  intro e
  rw [e] at hwl
  exact hS (List.eq_nil_of_length_eq_zero hwl.symm)
 simp only [M.plaintext_grow]
 cases d with
 | zero=>
  have he:errS S P.length u 0=3:=by
   show (if S= [] then (0:Int) else 3)=3
   rw [if_neg hS]
  rw [he]
  exact ⟨[],To.bind hp0 (To.neg (by simp) (To.neg (by omega) (To.pos (by simp) To.pure))),fun e=>by cases e⟩
 | succ d=>
  obtain ⟨y,hy,hyd⟩:=h.wlen
  have hlow:=h.low _ y hy
  by_cases hdw:W.length≤d
  ·have he:errS S P.length u (d+1)=3:=by
    show (match topS S d with | none=>(3:Int) | some (v,K)=>errT v K P.length u)=_
    rw [top_none (by omega)]
   rw [he]
   exact ⟨[],To.bind hp0 (To.neg (by simp) (To.neg (by omega) (To.neg (by simp;omega) (To.pos (by simp;omega) To.pure)))),fun e=>by cases e⟩
  ·obtain ⟨p,hp⟩:∃ p,W[d]? =some p:=⟨_,List.getElem?_eq_getElem (by omega)⟩
   obtain ⟨x,K,hx,ht,hkl,hdup⟩:=h.at hp
   have hpl:p<P.length:=(List.getElem?_eq_some_iff.1 hx).1
   have he:errS S P.length u (d+1)=errT x.u_ K P.length u:=by
    show (match topS S d with | none=>(3:Int) | some (v,K)=>errT v K P.length u)=_
    rw [ht]
   have hsub:subC ((d+1:Nat):Int) 1=some (d:Int):=by
    rw [subC_eq (by omega) (by omega)]
    congr 1;omega
   have hidx:idx W (d:Int)=some p:=by rw [idx_nat];exact hp
   have hsame:=same_ok ha u (kidsOf P p) (fun j hj=>(kids_gt h.back hj).2)
   rw [hdup u] at hsame
   have hki:=kids_len P p
   have takes:To (fun n=>M.node_takes n ar p u) (if nestB x.u_.Kind u.Kind=false then 9 else if keyU u∈K.map keyU then 10 else if 64≤K.length then 6 else 0):=by
    simp only [M.node_takes]
    refine To.bindS (ha.2 p x hx) (To.bind (nest_p _ _) ?_)
    by_cases hn:nestB x.u_.Kind u.Kind=false
    ·exact To.pos hn (To.pure.of (by rw [if_pos hn]))
    ·refine To.of (r:=if keyU u∈K.map keyU then 10 else if 64≤K.length then 6 else 0) ?_ (if_neg hn).symm
     refine To.neg hn (To.bindS hsame ?_)
     by_cases hm:keyU u∈K.map keyU
     ·rw [if_pos hm];exact To.pos (decide_eq_true hm) To.pure
     ·rw [if_neg hm]
      refine To.neg (fun e=>hm (of_decide_eq_true e)) ?_
      by_cases h64:64≤K.length
      ·rw [if_pos h64];exact To.pos (by rw [hkl];omega) To.pure
      ·rw [if_neg h64];exact To.neg (by rw [hkl];omega) To.pure
   have go:∀ t:Int,To (fun n=>M.node_takes n ar p u) t→∀ r,To (fun n=>if t≠(0:Int) then some (([],t),ar) else
     if (1024:Int)≤(P.length:Int) then some (([],6),ar) else
     Option.bind ar[p]? fun nd=>
     Option.bind (appC nd.2 [ar.length]) fun ks=>
     Option.bind (slcHi W ((d+1:Nat):Int)) fun w=>
     Option.bind (appC w [ar.length]) fun w2=>
     some ((w2,0),(ar.set p (nd.1,ks))++ [(u,[])])) r→To (fun n=>Option.bind (M.plaintext_ParseLine n line) fun v=>
 if v.2.2≠(0:Int) then some (([],v.2.2),ar) else
 if (W.length:Int)=(0:Int) then
  (if v.2.1≠(0:Int) then some (([],3),ar) else some (([ar.length],0),ar++ [(v.1,[])]))
 else if v.2.1<(1:Int) then some (([],3),ar)
 else if (W.length:Int)< v.2.1 then some (([],3),ar) else
 Option.bind (subC v.2.1 (1:Int)) fun d=>
 Option.bind (idx W d) fun p=>
 Option.bind (M.node_takes n ar p v.1) fun e=>
 if e≠(0:Int) then some (([],e),ar) else
 if (1024:Int)≤(P.length:Int) then some (([],6),ar) else
 Option.bind ar[p]? fun nd=>
 Option.bind (appC nd.2 [ar.length]) fun ks=>
 Option.bind (slcHi W v.2.1) fun w=>
 Option.bind (appC w [ar.length]) fun w2=>
 some ((w2,0),(ar.set p (nd.1,ks))++ [(v.1,[])])) r:=fun t ht r hr2=>
    To.bind hp0 (To.neg (by simp) (To.neg (by omega) (To.neg (by simp;omega) (To.neg (by simp;omega) (To.bindS hsub (To.bindS hidx (To.bind ht hr2)))))))
   refine ⟨ar.set p (x.u_,kidsOf P p++ [P.length])++ [(u,[])],go _ takes _ ?_,fun _=>?_⟩
   ·rw [he]
    unfold errT
    by_cases hn:nestB x.u_.Kind u.Kind=false
    ·rw [if_pos hn,if_pos hn]
     exact To.pos (by simp) To.pure
    rw [if_neg hn,if_neg hn]
    by_cases hm:keyU u∈K.map keyU
    ·rw [if_pos hm,if_pos hm]
     exact To.pos (by simp) To.pure
    rw [if_neg hm,if_neg hm]
    by_cases h64:64≤K.length
    ·rw [if_pos h64,if_pos h64]
     exact To.pos (by simp) To.pure
    rw [if_neg h64,if_neg h64]
    by_cases hc:1024≤P.length
    ·rw [if_pos hc]
     exact To.neg (by simp) (To.pos (by omega) To.pure)
    rw [if_neg hc]
    have hsl:slcHi W ((d+1:Nat):Int)=some (W.take (d+1)):=by
     unfold slcHi
     rw [if_pos (by omega),Int.toNat_natCast]
    refine To.neg (by simp) (To.neg (by omega) (To.bindS (ha.2 p x hx) (To.bindS (appC_eq (by simp;omega)) (To.bindS hsl (To.bindS (appC_eq (by simp;omega)) (To.pure.of ?_))))))
    rw [if_neg (by simp),hal]
   ·have hg:W.getD d 0=p:=by
     rw [List.getD_eq_getElem?_getD,hp];rfl
    rw [nxt_succ,hg]
    exact ha.push h.back hx
theorem St.next{P:List Nd}{W:List Nat}{S:Stk}(h:St P W S){u:api_Unit}(hu:bareU u){d:Nat}(he:errS S P.length u d=0) :
  St (nxt P W u d) (W.take d++ [P.length]) (nextS S u d)∧(nxt P W u d).length=P.length+1∧(∃ e p,d=e+1∧W[e]? =some p∧nxt P W u d=P++ [⟨u,(d:Int),(p:Int)⟩]):=by
 have hwl:=h.rl.len
 have hS:S≠ []:=by
  obtain ⟨ws,hw⟩:=h.root
  rintro rfl
  rw [hw] at hwl;cases hwl
 cases d with
 | zero=>
  exfalso
  have:errS S P.length u 0=3:=by
   show (if S= [] then (0:Int) else 3)=3
   rw [if_neg hS]
  rw [this] at he;cases he
 | succ d=>
  by_cases hdw:W.length≤d
  ·exfalso
   have:errS S P.length u (d+1)=3:=by
    show (match topS S d with | none=>(3:Int) | some (v,K)=>errT v K P.length u)=_
    rw [top_none (by omega)]
   rw [this] at he;cases he
  ·obtain ⟨p,hp⟩:∃ p,W[d]? =some p:=⟨_,List.getElem?_eq_getElem (by omega)⟩
   have hg:W.getD d 0=p:=by
    rw [List.getD_eq_getElem?_getD,hp];rfl
   rw [nxt_succ,next_succ,hg]
   exact ⟨h.push hu hp,by simp,d,p,rfl,hp,rfl⟩
def goS:Stk→Nat→List Str→api_Unit×Int×Int
 | S,c,[]=>(zU,(c:Int),2)
 | S,c,[p]=>if p= []∧S≠ [] then (treeHd S,(c:Int),0) else (zU,(c:Int),2)
 | S,c,p :: q :: ps=>match rdL p with
  | none=>(zU,(c:Int),2)
  | some (u,d)=>if errS S c u d≠0 then (zU,(c:Int),errS S c u d) else goS (nextS S u d) (c+1) (q :: ps)
theorem goS_last(S:Stk)(c:Nat)(p:Str):goS S c [p]=if p= []∧S≠ [] then (treeHd S,(c:Int),0) else (zU,(c:Int),2):=rfl
theorem goS_none(S:Stk)(c:Nat)(p q:Str)(ps:List Str)(h:rdL p=none):goS S c (p :: q :: ps)=(zU,(c:Int),2):=by
 show (match rdL p with | none=>(zU,(c:Int),(2:Int)) | some (u,d)=>if errS S c u d≠0 then (zU,(c:Int),errS S c u d) else goS (nextS S u d) (c+1) (q :: ps))=_
 rw [h]
theorem goS_some(S:Stk)(c:Nat)(p q:Str)(ps:List Str){u:api_Unit}{d:Nat}(h:rdL p=some (u,d)):goS S c (p :: q :: ps)=if errS S c u d≠0 then (zU,(c:Int),errS S c u d) else goS (nextS S u d) (c+1) (q :: ps):=by
 show (match rdL p with | none=>(zU,(c:Int),(2:Int)) | some (u,d)=>if errS S c u d≠0 then (zU,(c:Int),errS S c u d) else goS (nextS S u d) (c+1) (q :: ps))=_
 rw [h]
def finP(o:(NodeL×List Nat×Int) ⊕ (api_Unit×Int×Int))(r:api_Unit×Int×Int):Prop:=match o with
 | .inr x=>x=r
 | .inl (ar,way,i)=>∃ P W S,St P W S∧Ar P ar∧way=W∧P.length≤100000∧i=(P.length:Int)∧r=(treeHd S,i,0)
theorem pparse_loop:∀ (m:Nat) (s:Str),s.length≤m→s.length≤20000→∀ (P:List Nd) (W:List Nat) (S:Stk) (ar:NodeL),St P W S→Ar P ar→P.length+s.length≤40000→
  ∃ o,To (fun n=>M.plaintext_Parse_loop n s ar W (P.length:Int)) o∧finP o (goS S P.length (splitC 10 s))
 | m,[],hs,hs4,P,W,S,ar,h,ha,hl=>by
  have hS:S≠ []:=by
   obtain ⟨ws,hw⟩:=h.root
   have hwl:=h.rl.len
   rintro rfl
   rw [hw] at hwl;cases hwl
  refine ⟨.inl (ar,W,(P.length:Int)),To.succ ?_,P,W,S,h,ha,rfl,by simp at hl;omega,rfl,?_⟩
  ·simp only [M.plaintext_Parse_loop]
   exact To.neg (by simp) To.pure
  ·show goS S P.length [[]]=_
   rw [goS_last,if_pos ⟨rfl,hS⟩]
 | 0,b :: l,hs,_,_,_,_,_,_,_,_=>by simp at hs
 | m+1,b :: l,hs,hs4,P,W,S,ar,h,ha,hl=>by
  obtain ⟨p,ps,hsp⟩:=splitC_cons 10 (b :: l)
  have hcut:=cut_split 10 (b :: l) p ps hsp
  have hps:=splitC_lens 10 (b :: l) p (by rw [hsp];exact List.mem_cons_self)
  rw [hsp]
  cases ps with
  | nil=>
   obtain ⟨h1,h2⟩:=hcut.1 rfl
   have hc:cutM (b :: l) [10]=some (b :: l,[],false):=by
    unfold cutM
    rw [if_pos (by omega),h1]
   refine ⟨.inr (zapi_Unit,(P.length:Int),2),To.succ ?_,?_⟩
   ·simp only [M.plaintext_Parse_loop]
    exact To.pos (by simp) (To.bindS hc (To.pos rfl To.pure))
   ·show _=goS S P.length [p]
    rw [goS_last,if_neg (by rw [h2];simp)];rfl
  | cons q qs=>
   obtain ⟨rest,h1,h2,h3⟩:=hcut.2 (by simp)
   have hc:cutM (b :: l) [10]=some (p,rest,true):=by
    unfold cutM
    rw [if_pos (by omega),h1]
   have hlen:rest.length+p.length+1=(b :: l).length:=by rw [h3];simp;omega
   cases hr:rdL p with
   | none=>
    refine ⟨.inr (zapi_Unit,(P.length:Int),2),To.succ ?_,?_⟩
    ·simp only [M.plaintext_Parse_loop]
     exact To.pos (by simp) (To.bindS hc (To.neg (by simp) (To.bind (grow_bad ar W p _ (by omega) hr) (To.pos (by simp) To.pure))))
    ·show _=goS S P.length (p :: q :: qs)
     rw [goS_none _ _ _ _ _ hr];rfl
   | some ud=>
    obtain ⟨u,d⟩:=ud
    obtain ⟨ar2,hg,hn⟩:=grow_ok h ha (by omega) p (by omega) hr
    have hb:=(rdL_some hr).1
    by_cases he:errS S P.length u d=0
    ·obtain ⟨n1,n2,_⟩:=h.next hb he
     obtain ⟨o,ho,hf⟩:=pparse_loop m rest (by omega) (by omega) _ _ _ ar2 n1 (hn he) (by omega)
     rw [n2,h2] at hf
     rw [n2] at ho
     rw [if_neg (by simpa using he)] at hg
     refine ⟨o,To.succ ?_,?_⟩
     ·simp only [M.plaintext_Parse_loop]
      exact To.pos (by simp) (To.bindS hc (To.neg (by simp) (To.bind hg (To.neg (by simp) (To.bindS (addC_succ (by omega)) ho)))))
     ·rw [goS_some _ _ _ _ _ hr,if_neg (by simpa using he)]
      exact hf
    ·rw [if_pos he] at hg
     refine ⟨.inr (zapi_Unit,(P.length:Int),errS S P.length u d),To.succ ?_,?_⟩
     ·simp only [M.plaintext_Parse_loop]
      exact To.pos (by simp) (To.bindS hc (To.neg (by simp) (To.bind hg (To.pos he To.pure))))
     ·show _=goS S P.length (p :: q :: qs)
      rw [goS_some _ _ _ _ _ hr,if_pos he];rfl
theorem first_ok{u:api_Unit}(h:bareU u):Ar [⟨u,0,-1⟩] [(u,[])]:=by
 refine ⟨rfl,fun i x hx=>?_⟩
 cases i with
 | zero=>cases hx;rfl
 | succ i=>cases hx
theorem pparse_start(s:Str)(hs4:s.length≤20000)(hne:s≠ []):∃ o,To (fun n=>M.plaintext_Parse_loop n s [] [] (0:Int)) o∧finP o (goS [] 0 (splitC 10 s)):=by
 obtain ⟨p,ps,hsp⟩:=splitC_cons 10 s
 have hcut:=cut_split 10 s p ps hsp
 have hps:=splitC_lens 10 s p (by rw [hsp];exact List.mem_cons_self)
 rw [hsp]
 cases ps with
 | nil=>
  obtain ⟨h1,h2⟩:=hcut.1 rfl
  have hc:cutM s [10]=some (s,[],false):=by
   unfold cutM
   rw [if_pos (by omega),h1]
  refine ⟨.inr (zapi_Unit,0,2),To.succ ?_,?_⟩
  ·simp only [M.plaintext_Parse_loop]
   exact To.pos (by simpa using hne) (To.bindS hc (To.pos rfl To.pure))
  ·show _=goS [] 0 [p]
   rw [goS_last,if_neg (by simp)];rfl
 | cons q qs=>
  obtain ⟨rest,h1,h2,h3⟩:=hcut.2 (by simp)
  have hc:cutM s [10]=some (p,rest,true):=by
   unfold cutM
   rw [if_pos (by omega),h1]
  have hlen:rest.length+p.length+1=s.length:=by rw [h3];simp;omega
  cases hr:rdL p with
  | none=>
   refine ⟨.inr (zapi_Unit,0,2),To.succ ?_,?_⟩
   ·simp only [M.plaintext_Parse_loop]
    exact To.pos (by simpa using hne) (To.bindS hc (To.neg (by simp) (To.bind (grow_bad [] [] p _ (by omega) hr) (To.pos (by simp) To.pure))))
   ·show _=goS [] 0 (p :: q :: qs)
    rw [goS_none _ _ _ _ _ hr];rfl
  | some ud=>
   obtain ⟨u,d⟩:=ud
   have hg:=grow_nil p (by omega) hr
   have hb:=(rdL_some hr).1
   by_cases he:errS [] 0 u d=0
   ·have hd:d=0:=by
     cases d with
     | zero=>rfl
     | succ d=>cases he
    subst hd
    obtain ⟨o,ho,hf⟩:=pparse_loop rest.length rest (Nat.le_refl _) (by omega) _ _ _ _ (St.first hb) (first_ok hb) (by simp;omega)
    rw [h2] at hf
    rw [if_neg (by simpa using he)] at hg
    refine ⟨o,To.succ ?_,?_⟩
    ·simp only [M.plaintext_Parse_loop]
     exact To.pos (by simpa using hne) (To.bindS hc (To.neg (by simp) (To.bind hg (To.neg (by simp) (To.bindS (addC_eq (by omega) (by omega)) ho)))))
    ·rw [goS_some _ _ _ _ _ hr,if_neg (by simpa using he)]
     exact hf
   ·rw [if_pos he] at hg
    refine ⟨.inr (zapi_Unit,0,errS [] 0 u d),To.succ ?_,?_⟩
    ·simp only [M.plaintext_Parse_loop]
     exact To.pos (by simpa using hne) (To.bindS hc (To.neg (by simp) (To.bind hg (To.pos he To.pure))))
    ·show _=goS [] 0 (p :: q :: qs)
     rw [goS_some _ _ _ _ _ hr,if_pos he];rfl
def parseT(s:Str):api_Unit×Int×Int:=if 16384<s.length then (zU,0,6) else goS [] 0 (splitC 10 s)
theorem pparse_ok(s:Str)(hs:s.length≤1000000000):To (fun n=>M.plaintext_Parse n s) (parseT s):=by
 simp only [M.plaintext_Parse]
 unfold parseT
 by_cases hl:16384<s.length
 ·rw [if_pos hl];exact To.pos (by omega) To.pure
 ·rw [if_neg hl]
  refine To.neg (by omega) ?_
  by_cases he:s= []
  ·subst he
   exact To.pos rfl (To.pure.of rfl)
  ·refine To.neg (by simpa using he) ?_
   obtain ⟨o,ho,hf⟩:=pparse_start s (by omega) he
   refine To.bind ho ?_
   cases o with
   | inr x=>exact To.pure.of hf
   | inl x=>
    obtain ⟨ar,way,i⟩:=x
    obtain ⟨P,W,S,hst,har,rfl,hpl,rfl,hr⟩:=hf
    rw [hr]
    obtain ⟨ws,hw⟩:=hst.root
    have hu:To (fun n=>M.node_unit ar n 0) (treeHd S):=by
     refine To.far P.length fun m=>?_
     rw [node_unit_ok har hst.back hpl (fun x hx=>bare_kids (hst.bare x hx)) (m+P.length) 0 hst.pos0 (by omega),hst.tree (by omega)]
    exact To.bindS (a:=0) (by rw [hw];rfl) (To.bind hu To.pure)
def finR(s:Str)(o:((List Nd×Int×api_Unit) ⊕ (api_Unit×Int×Int)))(r:api_Unit×Int×Int):Prop:=match o with
 | .inr x=>x=r
 | .inl (l,f,_)=>if f<(s.length:Int)∨l= [] then r=(zU,(l.length:Int),2) else ∃ W S,St l W S∧l.length≤100000∧r=(treeHd S,(l.length:Int),0)
def Sx(P:List Nd)(W:List Nat)(S:Stk):Prop:=(P= []∧W= []∧S= [])∨St P W S
theorem dep_small{s:Str}{u:api_Unit}{d:Nat}(h:rdL s=some (u,d)):d≤8:=by
 have:=(rdL_some h).2.1
 unfold okL at this
 simp only [Bool.and_eq_true,decide_eq_true_eq] at this
 omega
theorem rparse_loop(s:Str)(hs:s.length≤20000):∀ (xs p:Str) (ps:List Str) (i f:Nat) (P:List Nd) (W:List Nat) (S:Stk) (v:api_Unit),s.drop i=xs→i≤s.length→f≤i→P.length≤f→Sx P W S→splitC 10 xs=p :: ps→
  ∃ o,To (fun n=>M.r11_Parse_loop1 s n P (f:Int) (i:Int) v) o∧finR s o (goS S P.length (((s.take i).drop f++p) :: ps))
 | [],p,ps,i,f,P,W,S,v,hx,hi,hf,hl,hst,hsp=>by
  have he:=drop_end hx
  have hil:i=s.length:=by omega
  simp only [splitC,List.cons.injEq] at hsp
  obtain ⟨rfl,rfl⟩:=hsp
  refine ⟨.inl (P,(f:Int),v),To.succ ?_,?_⟩
  ·simp only [M.r11_Parse_loop1]
   exact To.neg he To.pure
  ·rw [hil,List.take_length,List.append_nil,goS_last]
   unfold finR
   simp only
   rcases hst with ⟨rfl,rfl,rfl⟩ | hst
   ·rw [if_pos (.inr rfl),if_neg (by simp)]
   ·have hS:S≠ []:=by
     obtain ⟨ws,hw⟩:=hst.root
     have hwl:=hst.rl.len
     rintro rfl
     rw [hw] at hwl;cases hwl
    have hP:P≠ []:=by
     rintro rfl
     have:=hst.pos0
     simp at this
    by_cases hfl:f<s.length
    ·rw [if_pos (.inl (by omega)),if_neg]
     intro e
     have:=congrArg List.length e.1
     rw [List.length_drop] at this
     simp only [List.length_nil] at this
     omega
    ·rw [if_neg (by rintro (e | e);omega;exact hP e),if_pos ⟨List.drop_eq_nil_iff.2 (by omega),hS⟩]
     exact ⟨W,S,hst,by omega,rfl⟩
 | b :: xs,p,ps,i,f,P,W,S,v,hx,hi,hf,hl,hst,hsp=>by
  have hil:=(drop_cons hx).1
  obtain ⟨q,qs,hq⟩:=splitC_cons 10 xs
  unfold splitC at hsp
  by_cases hb:b=10
  ·rw [if_pos hb] at hsp
   simp only [List.cons.injEq] at hsp
   obtain ⟨rfl,rfl⟩:=hsp
   subst hb
   rw [List.append_nil,hq]
   have hsl:slc s (f:Int) (i:Int)=some ((s.take i).drop f):=by
    unfold slc
    rw [if_pos (by omega)]
    simp
   have hll:((s.take i).drop f).length≤20000:=by rw [List.length_drop,List.length_take];omega
   have hrd:=rd_ok _ (show ((s.take i).drop f).length≤100000 by omega)
   unfold resR at hrd
   cases hr:rdL ((s.take i).drop f) with
   | none=>
    rw [hr] at hrd
    refine ⟨.inr (zU,(P.length:Int),2),To.succ ?_,?_⟩
    ·simp only [M.r11_Parse_loop1]
     exact To.pos (drop_lt hx) (To.bindS (drop_idx hx) (To.neg (by simp) (To.bindS hsl (To.bind hrd (To.pos rfl (To.pure.of rfl))))))
    ·rw [goS_none _ _ _ _ _ hr];rfl
   | some ud=>
    obtain ⟨u,d⟩:=ud
    rw [hr] at hrd
    have hb:=(rdL_some hr).1
    have hd8:=dep_small hr
    have hwr:To (fun n=>M.r11_wrong n P ⟨u,(d:Int),-1⟩) (errS S P.length u d):=by
     rcases hst with ⟨rfl,rfl,rfl⟩ | hst
     ·exact wrong_nil u d
     ·exact wrong_ok hst (by omega) u d (by omega)
    rw [goS_some _ _ _ _ _ hr]
    by_cases he:errS S P.length u d=0
    ·rw [if_neg (by simpa using he)]
     have hnext:∃ P2 W2,Sx P2 W2 (nextS S u d)∧P2.length=P.length+1∧ ∃ y:Nd,To (fun n=>if (0:Int)< (P.length:Int) then
         Option.bind (M.r11_parent n P (d:Int)) fun parent=>
         some ({(⟨u,(d:Int),(-1:Int)⟩:pandectref11_node) with parent_:=parent}:pandectref11_node)
        else
         some (⟨u,(d:Int),(-1:Int)⟩:pandectref11_node)) y∧P2=P++ [y]:=by
      rcases hst with ⟨rfl,rfl,rfl⟩ | hst
      ·have hd:d=0:=by
        cases d with
        | zero=>rfl
        | succ d=>cases he
       subst hd
       exact ⟨_,_,.inr (St.first hb),rfl,_,To.neg (by simp) To.pure,rfl⟩
      ·obtain ⟨n1,n2,e,w,rfl,hw,n3⟩:=hst.next hb he
       have h0:=hst.pos0
       exact ⟨_,_,.inr n1,n2,_,To.pos (by omega) (To.bind (parent_ok hst (by omega) hw) To.pure),n3⟩
     obtain ⟨P2,W2,hst2,hl2,y,hy,hP2⟩:=hnext
     obtain ⟨o,ho,hfin⟩:=rparse_loop s hs xs q qs (i+1) (i+1) P2 W2 _ v (drop_next hx) (by omega) (Nat.le_refl _) (by omega) hst2 hq
     rw [hl2] at hfin
     refine ⟨o,To.succ ?_,?_⟩
     ·simp only [M.r11_Parse_loop1]
      refine To.pos (drop_lt hx) (To.bindS (drop_idx hx) (To.neg (by simp) (To.bindS hsl (To.bind hrd (To.neg (by simp) (To.bind hwr (To.neg (by simpa using he) (To.bind hy (To.bindS (appC_eq (by simp;omega)) ?_)))))))))
      rw [←hP2]
      exact ho
     ·have e:(s.take (i+1)).drop (i+1)= []:=by
       apply List.eq_nil_of_length_eq_zero
       rw [List.length_drop,List.length_take];omega
      rw [e,List.nil_append] at hfin
      exact hfin
    ·rw [if_pos he]
     refine ⟨.inr (zU,(P.length:Int),errS S P.length u d),To.succ ?_,rfl⟩
     simp only [M.r11_Parse_loop1]
     exact To.pos (drop_lt hx) (To.bindS (drop_idx hx) (To.neg (by simp) (To.bindS hsl (To.bind hrd (To.neg (by simp) (To.bind hwr (To.pos he (To.pure.of rfl))))))))
  ·rw [if_neg hb,hq] at hsp
   simp only [List.cons.injEq] at hsp
   obtain ⟨rfl,rfl⟩:=hsp
   obtain ⟨o,ho,hfin⟩:=rparse_loop s hs xs q qs (i+1) f P W S v (drop_next hx) (by omega) (by omega) hl hst hq
   refine ⟨o,To.succ ?_,?_⟩
   ·simp only [M.r11_Parse_loop1]
    refine To.pos (drop_lt hx) (To.bindS (drop_idx hx) (To.pos ?_ ?_))
    ·intro e
     apply hb
     apply UInt8.toNat_inj.1
     show b.toNat=10
     omega
    ·exact ho
   ·rw [take_next hx hf] at hfin
    simpa using hfin
theorem rparse_ok(s:Str)(hs:s.length≤1000000000):To (fun n=>M.r11_Parse n s) (parseT s):=by
 simp only [M.r11_Parse]
 unfold parseT
 by_cases hl:16384<s.length
 ·rw [if_pos hl];exact To.pos (by omega) (To.pure.of rfl)
 ·rw [if_neg hl]
  refine To.neg (by omega) ?_
  obtain ⟨p,ps,hsp⟩:=splitC_cons 10 s
  obtain ⟨o,ho,hf⟩:=rparse_loop s (by omega) s p ps 0 0 [] [] [] zapi_Unit rfl (by omega) (Nat.le_refl _) (by simp) (.inl ⟨rfl,rfl,rfl⟩) hsp
  simp only [List.take_zero,List.drop_nil,List.nil_append,List.length_nil] at hf
  rw [←hsp] at hf
  refine To.bind ho ?_
  cases o with
  | inr x=>exact To.pure.of hf
  | inl x=>
   obtain ⟨l,f,w⟩:=x
   unfold finR at hf
   simp only at hf
   by_cases hc:f<(s.length:Int)∨l= []
   ·rw [if_pos hc] at hf
    rw [hf]
    refine To.bind (a:=true) ?_ (To.pos rfl (To.pure.of rfl))
    by_cases hfl:f<(s.length:Int)
    ·exact To.pos hfl To.pure
    ·refine To.neg hfl (To.pure.of ?_)
     rw [hc.resolve_left hfl];rfl
   ·rw [if_neg hc] at hf
    obtain ⟨W,S,hst,hpl,hr⟩:=hf
    rw [hr]
    have h0:=hst.pos0
    have hb:=build_ok hst.back hpl (fun x hx=>bare_kids (hst.bare x hx)) l.length 0 h0 (by omega)
    rw [hst.tree (Nat.le_refl _)] at hb
    exact To.bind (a:=false) (To.neg (fun e=>hc (.inl e)) (To.pure.of (by simp;rintro rfl;simp at h0))) (To.neg (by simp) (To.bind hb To.pure))
def bareK:List api_Unit→Prop:=fun l=>∀ k∈l,stripT k=k
def bareS(S:Stk):Prop:=∀ p∈S,bareU p.1∧bareK p.2
theorem tree_bare:∀ {S:Stk},bareS S→bareK (treeOf S)
 | [],_,k,hk=>by cases hk
 | p :: r,h,k,hk=>by
  obtain ⟨hu,hks⟩:=h p (by simp)
  have ih:=tree_bare (S:=r) (fun q hq=>h q (by simp [hq]))
  rw [List.mem_singleton.1 hk,strip_eq_bU]
  have e:bU {p.1 with Kids:=p.2++treeOf r}=bU p.1:=rfl
  rw [e,bU_bare hu]
  have e2:(p.2++treeOf r).map stripT=p.2++treeOf r:=by
   refine (List.map_congr_left (g:=id) fun x hx=>?_).trans (List.map_id _)
   rcases List.mem_append.1 hx with hx | hx
   ·exact hks x hx
   ·exact ih x hx
  show {p.1 with Kids:=(p.2++treeOf r).map stripT}=_
  rw [e2]
theorem push_bare:∀ {S:Stk} {d:Nat} {u:api_Unit},bareS S→bareU u→bareS (pushS S d u)
 | [],_,u,_,hu,p,hp=>by
  rw [List.mem_singleton.1 hp];exact ⟨hu,fun k hk=>by cases hk⟩
 | q :: r,0,u,h,hu,p,hp=>by
  obtain ⟨h1,h2⟩:=h q (by simp)
  have ih:=tree_bare (S:=r) (fun x hx=>h x (by simp [hx]))
  rcases List.mem_cons.1 hp with rfl | hp
  ·exact ⟨h1,fun k hk=>(List.mem_append.1 hk).elim (h2 k) (ih k)⟩
  ·rw [List.mem_singleton.1 hp];exact ⟨hu,fun k hk=>by cases hk⟩
 | q :: r,d+1,u,h,hu,p,hp=>by
  rcases List.mem_cons.1 hp with rfl | hp
  ·exact h _ (by simp)
  ·exact push_bare (S:=r) (d:=d) (fun x hx=>h x (by simp [hx])) hu p hp
theorem next_bare{S:Stk}{d:Nat}{u:api_Unit}(h:bareS S)(hu:bareU u):bareS (nextS S u d):=by
 cases d with
 | zero=>intro p hp;rw [List.mem_singleton.1 hp];exact ⟨hu,fun k hk=>by cases hk⟩
 | succ d=>exact push_bare h hu
theorem hd_bare{S:Stk}(h:bareS S):stripT (treeHd S)=treeHd S:=by
 have:=tree_bare h
 unfold treeHd
 cases ht:treeOf S with
 | nil=>exact zU_bare
 | cons t ts=>exact this t (by rw [ht];simp)
theorem goS_bare:∀ (ps:List Str) (S:Stk) (c:Nat),bareS S→stripT (goS S c ps).1=(goS S c ps).1
 | [],_,_,_=>zU_bare
 | [p],S,c,h=>by
  rw [goS_last]
  split
  ·exact hd_bare h
  ·exact zU_bare
 | p :: q :: ps,S,c,h=>by
  cases hr:rdL p with
  | none=>rw [goS_none _ _ _ _ _ hr];exact zU_bare
  | some ud=>
   obtain ⟨u,d⟩:=ud
   rw [goS_some _ _ _ _ _ hr]
   split
   ·exact zU_bare
   ·exact goS_bare (q :: ps) _ _ (next_bare h (rdL_some hr).1)
theorem parse_bare(s:Str):stripT (parseT s).1=(parseT s).1:=by
 unfold parseT
 split
 ·exact zU_bare
 ·exact goS_bare _ _ _ (fun p hp=>by cases hp)
theorem pparse_true(s:Str):∃ n,M.law11_PlaintextParse n s=some true:=by
 refine To.ex ?_
 simp only [M.law11_PlaintextParse]
 by_cases hs:(6000:Int)< (s.length:Int)
 ·exact To.bind (a:=true) (To.bind awake11 (To.neg (by simp) (To.pure.of (by simp;omega)))) (To.pos rfl (To.bind awake11 To.pure))
 ·refine To.bind (a:=false) (To.bind awake11 (To.neg (by simp) (To.pure.of (by simp;omega)))) (To.neg (by simp) ?_)
  exact To.bind (pparse_ok s (by omega)) (To.bind (rparse_ok s (by omega)) (To.pos rfl (To.pos rfl (To.bind (says_ok _ _ rfl) (To.pos rfl (To.bind (bare_ok _ (parse_bare s)) To.pure))))))
end Go.Proofs.YtofaogkcifaioaaGreatDoor
