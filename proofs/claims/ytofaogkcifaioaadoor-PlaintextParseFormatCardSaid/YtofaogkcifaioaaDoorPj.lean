import Derived.Test.YtofaogkcifaioaaDoorPg
/-
  Chapter 11: PlaintextParse.
-/
set_option linter.unusedVariables false
set_option linter.unusedSimpArgs false
namespace Go.Proofs.YtofaogkcifaioaaDoor
open Go Go.Dec
theorem St.wlen{P:List Nd}{W:List Nat}{S:Stk}(h:St P W S):∃ x,P[P.length-1]? =some x∧x.depth_+1=(W.length:Int):=by
 obtain ⟨W0,hw⟩:=h.top
 obtain ⟨x,h1,h2⟩:=h.rl.depth (i:=W0.length) (w:=P.length-1) (by rw [hw];simp)
 refine ⟨x,h1,?_⟩
 rw [h2,hw]
 simp
theorem St.at{P:List Nd}{W:List Nat}{S:Stk}(h:St P W S){d p:Nat}(hp:W[d]? =some p) :
  ∃ x K,P[p]? =some x∧topS S d=some (x.u_,K)∧(kidsOf P p).length=K.length∧ ∀ u,dupK P u (kidsOf P p)=decide (keyU u∈K.map keyU):=by
 obtain ⟨s1,s2⟩:=h.split d
 obtain ⟨x,K,h1,_,h3,h4⟩:=full h.back s1 h.rl hp s2
 exact ⟨x,K,h1,h3,h4.len,fun u=>h4.dup u⟩
theorem grow_bad(ar:NodeL)(W:List Nat)(line:Str)(c:Int)(hs:line.length≤100000)(hr:rdL line=none):To (fun n=>M.plaintext_grow n ar W line c) (([],2),ar):=by
 have hp:=pline_ok line hs
 unfold resP at hp
 rw [hr] at hp
 simp only [M.plaintext_grow]
 exact To.bind hp (To.pos (by simp) To.pure)
theorem grow_nil(line:Str){u:api_Unit}{d:Nat}(hs:line.length≤100000)(hr:rdL line=some (u,d)):To (fun n=>M.plaintext_grow n [] [] line 0) (if errS [] 0 u d≠0 then (([],errS [] 0 u d),[]) else (([0],0),[(u,[])])):=by
 have hp:=pline_ok line hs
 unfold resP at hp
 rw [hr] at hp
 simp only [M.plaintext_grow]
 refine To.bind hp (To.neg (by simp) (To.pos rfl ?_))
 cases d with
 | zero=>exact To.neg (by simp) (To.pure.of rfl)
 | succ d=>exact To.pos (by simp;omega) (To.pure.of rfl)
theorem Ar.push{P:List Nd}{ar:NodeL}(ha:Ar P ar)(hb:Back P){u:api_Unit}{d:Int}{p:Nat}{x:Nd}(hx:P[p]? =some x) :
  Ar (P++ [⟨u,d,(p:Int)⟩]) (ar.set p (x.u_,kidsOf P p++ [P.length])++ [(u,[])]):=by
 have hpl:p<P.length:=(List.getElem?_eq_some_iff.1 hx).1
 refine ⟨by simp [ha.1],fun i y hy=>?_⟩
 have hal:=ha.1
 rw [kids_snoc]
 by_cases hi:i<P.length
 ·rw [List.getElem?_append_left hi] at hy
  rw [List.getElem?_append_left (by rw [List.length_set];omega),List.getElem?_set]
  by_cases hip:p=i
  ·subst hip
   rw [hx] at hy;cases hy
   rw [if_pos rfl,if_pos (by omega),if_pos rfl]
  ·rw [if_neg hip,ha.2 i y hy,if_neg (by show ¬ (p:Int)=(i:Int);omega),List.append_nil]
 ·rw [List.getElem?_append_right (by omega)] at hy
  cases hq:i-P.length with
  | zero=>
   rw [hq] at hy;cases hy
   obtain rfl:i=P.length:=by omega
   have:kidsOf P P.length= []:=by
    rw [kids_from hb,List.drop_eq_nil_iff.2 (by omega)];rfl
   rw [List.getElem?_append_right (by rw [List.length_set];omega),List.length_set,hal,Nat.sub_self,this,if_neg (by show ¬ (p:Int)=(P.length:Int);omega)]
   rfl
  | succ k=>rw [hq] at hy;cases hy
def nxt(P:List Nd)(W:List Nat)(u:api_Unit):Nat→List Nd
 | 0=>P
 | d+1=>P++ [⟨u,((d+1:Nat):Int),((W.getD d 0:Nat):Int)⟩]
theorem nxt_succ(P:List Nd)(W:List Nat)(u:api_Unit)(d:Nat):nxt P W u (d+1)=P++ [⟨u,((d+1:Nat):Int),((W.getD d 0:Nat):Int)⟩]:=rfl
theorem next_succ(S:Stk)(u:api_Unit)(d:Nat):nextS S u (d+1)=pushS S d u:=rfl
theorem grow_ok{P:List Nd}{W:List Nat}{S:Stk}{ar:NodeL}(h:St P W S)(ha:Ar P ar)(hl:P.length≤100000)(line:Str){u:api_Unit}{d:Nat}(hs:line.length≤100000)(hr:rdL line=some (u,d)) :
  ∃ ar2,To (fun n=>M.plaintext_grow n ar W line (P.length:Int)) (if errS S P.length u d≠0 then (([],errS S P.length u d),ar) else ((W.take d++ [P.length],0),ar2))∧(errS S P.length u d=0→Ar (nxt P W u d) ar2):=by
 have hp0:=pline_ok line hs
 unfold resP at hp0
 rw [hr] at hp0
 have hwl:=h.rl.len
 have h0:=h.pos0
 have hal:=ha.1
 have hS:S≠ []:=by
  obtain ⟨ws,hw⟩:=h.root
  rintro rfl
  rw [hw] at hwl;cases hwl
 have hW:W.length≠0:=by
  intro e
  rw [e] at hwl
  exact hS (List.eq_nil_of_length_eq_zero hwl.symm)
 simp only [M.plaintext_grow]
 cases d with
 | zero=>
  have he:errS S P.length u 0=3:=by
   show (if S= [] then (0:Int) else 3)=3
   rw [if_neg hS]
  rw [he]
  exact ⟨[],To.bind hp0 (To.neg (by simp) (To.neg (by omega) (To.pos (by simp) To.pure))),fun e=>by cases e⟩
 | succ d=>
  obtain ⟨y,hy,hyd⟩:=h.wlen
  have hlow:=h.low _ y hy
  by_cases hdw:W.length≤d
  ·have he:errS S P.length u (d+1)=3:=by
    show (match topS S d with | none=>(3:Int) | some (v,K)=>errT v K P.length u)=_
    rw [top_none (by omega)]
   rw [he]
   exact ⟨[],To.bind hp0 (To.neg (by simp) (To.neg (by omega) (To.neg (by simp;omega) (To.pos (by simp;omega) To.pure)))),fun e=>by cases e⟩
  ·obtain ⟨p,hp⟩:∃ p,W[d]? =some p:=⟨_,List.getElem?_eq_getElem (by omega)⟩
   obtain ⟨x,K,hx,ht,hkl,hdup⟩:=h.at hp
   have hpl:p<P.length:=(List.getElem?_eq_some_iff.1 hx).1
   have he:errS S P.length u (d+1)=errT x.u_ K P.length u:=by
    show (match topS S d with | none=>(3:Int) | some (v,K)=>errT v K P.length u)=_
    rw [ht]
   have hsub:subC ((d+1:Nat):Int) 1=some (d:Int):=by
    rw [subC_eq (by omega) (by omega)]
    congr 1;omega
   have hidx:idx W (d:Int)=some p:=by rw [idx_nat];exact hp
   have hsame:=same_ok ha u (kidsOf P p) (fun j hj=>(kids_gt h.back hj).2)
   rw [hdup u] at hsame
   have hki:=kids_len P p
   have takes:To (fun n=>M.node_takes n ar p u) (if nestB x.u_.Kind u.Kind=false then 9 else if keyU u∈K.map keyU then 10 else if 64≤K.length then 6 else 0):=by
    simp only [M.node_takes]
    refine To.bindS (ha.2 p x hx) (To.bind (nest_p _ _) ?_)
    by_cases hn:nestB x.u_.Kind u.Kind=false
    ·exact To.pos hn (To.pure.of (by rw [if_pos hn]))
    ·refine To.of (r:=if keyU u∈K.map keyU then 10 else if 64≤K.length then 6 else 0) ?_ (if_neg hn).symm
     refine To.neg hn (To.bindS hsame ?_)
     by_cases hm:keyU u∈K.map keyU
     ·rw [if_pos hm];exact To.pos (decide_eq_true hm) To.pure
     ·rw [if_neg hm]
      refine To.neg (fun e=>hm (of_decide_eq_true e)) ?_
      by_cases h64:64≤K.length
      ·rw [if_pos h64];exact To.pos (by rw [hkl];omega) To.pure
      ·rw [if_neg h64];exact To.neg (by rw [hkl];omega) To.pure
   have go:∀ t:Int,To (fun n=>M.node_takes n ar p u) t→∀ r,To (fun n=>if t≠(0:Int) then some (([],t),ar) else
     if (1024:Int)≤(P.length:Int) then some (([],6),ar) else
     Option.bind ar[p]? fun nd=>
     Option.bind (appC nd.2 [ar.length]) fun ks=>
     Option.bind (slcHi W ((d+1:Nat):Int)) fun w=>
     Option.bind (appC w [ar.length]) fun w2=>
     some ((w2,0),(ar.set p (nd.1,ks))++ [(u,[])])) r→To (fun n=>Option.bind (M.plaintext_ParseLine n line) fun v=>
 if v.2.2≠(0:Int) then some (([],v.2.2),ar) else
 if (W.length:Int)=(0:Int) then
  (if v.2.1≠(0:Int) then some (([],3),ar) else some (([ar.length],0),ar++ [(v.1,[])]))
 else if v.2.1<(1:Int) then some (([],3),ar)
 else if (W.length:Int)< v.2.1 then some (([],3),ar) else
 Option.bind (subC v.2.1 (1:Int)) fun d=>
 Option.bind (idx W d) fun p=>
 Option.bind (M.node_takes n ar p v.1) fun e=>
 if e≠(0:Int) then some (([],e),ar) else
 if (1024:Int)≤(P.length:Int) then some (([],6),ar) else
 Option.bind ar[p]? fun nd=>
 Option.bind (appC nd.2 [ar.length]) fun ks=>
 Option.bind (slcHi W v.2.1) fun w=>
 Option.bind (appC w [ar.length]) fun w2=>
 some ((w2,0),(ar.set p (nd.1,ks))++ [(v.1,[])])) r:=fun t ht r hr2=>
    To.bind hp0 (To.neg (by simp) (To.neg (by omega) (To.neg (by simp;omega) (To.neg (by simp;omega) (To.bindS hsub (To.bindS hidx (To.bind ht hr2)))))))
   refine ⟨ar.set p (x.u_,kidsOf P p++ [P.length])++ [(u,[])],go _ takes _ ?_,fun _=>?_⟩
   ·rw [he]
    unfold errT
    by_cases hn:nestB x.u_.Kind u.Kind=false
    ·rw [if_pos hn,if_pos hn]
     exact To.pos (by simp) To.pure
    rw [if_neg hn,if_neg hn]
    by_cases hm:keyU u∈K.map keyU
    ·rw [if_pos hm,if_pos hm]
     exact To.pos (by simp) To.pure
    rw [if_neg hm,if_neg hm]
    by_cases h64:64≤K.length
    ·rw [if_pos h64,if_pos h64]
     exact To.pos (by simp) To.pure
    rw [if_neg h64,if_neg h64]
    by_cases hc:1024≤P.length
    ·rw [if_pos hc]
     exact To.neg (by simp) (To.pos (by omega) To.pure)
    rw [if_neg hc]
    have hsl:slcHi W ((d+1:Nat):Int)=some (W.take (d+1)):=by
     unfold slcHi
     rw [if_pos (by omega),Int.toNat_natCast]
    refine To.neg (by simp) (To.neg (by omega) (To.bindS (ha.2 p x hx) (To.bindS (appC_eq (by simp;omega)) (To.bindS hsl (To.bindS (appC_eq (by simp;omega)) (To.pure.of ?_))))))
    rw [if_neg (by simp),hal]
   ·have hg:W.getD d 0=p:=by
     rw [List.getD_eq_getElem?_getD,hp];rfl
    rw [nxt_succ,hg]
    exact ha.push h.back hx
theorem St.next{P:List Nd}{W:List Nat}{S:Stk}(h:St P W S){u:api_Unit}(hu:bareU u){d:Nat}(he:errS S P.length u d=0) :
  St (nxt P W u d) (W.take d++ [P.length]) (nextS S u d)∧(nxt P W u d).length=P.length+1∧(∃ e p,d=e+1∧W[e]? =some p∧nxt P W u d=P++ [⟨u,(d:Int),(p:Int)⟩]):=by
 have hwl:=h.rl.len
 have hS:S≠ []:=by
  obtain ⟨ws,hw⟩:=h.root
  rintro rfl
  rw [hw] at hwl;cases hwl
 cases d with
 | zero=>
  exfalso
  have:errS S P.length u 0=3:=by
   show (if S= [] then (0:Int) else 3)=3
   rw [if_neg hS]
  rw [this] at he;cases he
 | succ d=>
  by_cases hdw:W.length≤d
  ·exfalso
   have:errS S P.length u (d+1)=3:=by
    show (match topS S d with | none=>(3:Int) | some (v,K)=>errT v K P.length u)=_
    rw [top_none (by omega)]
   rw [this] at he;cases he
  ·obtain ⟨p,hp⟩:∃ p,W[d]? =some p:=⟨_,List.getElem?_eq_getElem (by omega)⟩
   have hg:W.getD d 0=p:=by
    rw [List.getD_eq_getElem?_getD,hp];rfl
   rw [nxt_succ,next_succ,hg]
   exact ⟨h.push hu hp,by simp,d,p,rfl,hp,rfl⟩
def goS:Stk→Nat→List Str→api_Unit×Int×Int
 | S,c,[]=>(zU,(c:Int),2)
 | S,c,[p]=>if p= []∧S≠ [] then (treeHd S,(c:Int),0) else (zU,(c:Int),2)
 | S,c,p :: q :: ps=>match rdL p with
  | none=>(zU,(c:Int),2)
  | some (u,d)=>if errS S c u d≠0 then (zU,(c:Int),errS S c u d) else goS (nextS S u d) (c+1) (q :: ps)
theorem goS_last(S:Stk)(c:Nat)(p:Str):goS S c [p]=if p= []∧S≠ [] then (treeHd S,(c:Int),0) else (zU,(c:Int),2):=rfl
theorem goS_none(S:Stk)(c:Nat)(p q:Str)(ps:List Str)(h:rdL p=none):goS S c (p :: q :: ps)=(zU,(c:Int),2):=by
 show (match rdL p with | none=>(zU,(c:Int),(2:Int)) | some (u,d)=>if errS S c u d≠0 then (zU,(c:Int),errS S c u d) else goS (nextS S u d) (c+1) (q :: ps))=_
 rw [h]
theorem goS_some(S:Stk)(c:Nat)(p q:Str)(ps:List Str){u:api_Unit}{d:Nat}(h:rdL p=some (u,d)):goS S c (p :: q :: ps)=if errS S c u d≠0 then (zU,(c:Int),errS S c u d) else goS (nextS S u d) (c+1) (q :: ps):=by
 show (match rdL p with | none=>(zU,(c:Int),(2:Int)) | some (u,d)=>if errS S c u d≠0 then (zU,(c:Int),errS S c u d) else goS (nextS S u d) (c+1) (q :: ps))=_
 rw [h]
def finP(o:(NodeL×List Nat×Int) ⊕ (api_Unit×Int×Int))(r:api_Unit×Int×Int):Prop:=match o with
 | .inr x=>x=r
 | .inl (ar,way,i)=>∃ P W S,St P W S∧Ar P ar∧way=W∧P.length≤100000∧i=(P.length:Int)∧r=(treeHd S,i,0)
theorem pparse_loop:∀ (m:Nat) (s:Str),s.length≤m→s.length≤20000→∀ (P:List Nd) (W:List Nat) (S:Stk) (ar:NodeL),St P W S→Ar P ar→P.length+s.length≤40000→
  ∃ o,To (fun n=>M.plaintext_Parse_loop n s ar W (P.length:Int)) o∧finP o (goS S P.length (splitC 10 s))
 | m,[],hs,hs4,P,W,S,ar,h,ha,hl=>by
  have hS:S≠ []:=by
   obtain ⟨ws,hw⟩:=h.root
   have hwl:=h.rl.len
   rintro rfl
   rw [hw] at hwl;cases hwl
  refine ⟨.inl (ar,W,(P.length:Int)),To.succ ?_,P,W,S,h,ha,rfl,by simp at hl;omega,rfl,?_⟩
  ·simp only [M.plaintext_Parse_loop]
   exact To.neg (by simp) To.pure
  ·show goS S P.length [[]]=_
   rw [goS_last,if_pos ⟨rfl,hS⟩]
 | 0,b :: l,hs,_,_,_,_,_,_,_,_=>by simp at hs
 | m+1,b :: l,hs,hs4,P,W,S,ar,h,ha,hl=>by
  obtain ⟨p,ps,hsp⟩:=splitC_cons 10 (b :: l)
  have hcut:=cut_split 10 (b :: l) p ps hsp
  have hps:=splitC_lens 10 (b :: l) p (by rw [hsp];exact List.mem_cons_self)
  rw [hsp]
  cases ps with
  | nil=>
   obtain ⟨h1,h2⟩:=hcut.1 rfl
   have hc:cutM (b :: l) [10]=some (b :: l,[],false):=by
    unfold cutM
    rw [if_pos (by omega),h1]
   refine ⟨.inr (zapi_Unit,(P.length:Int),2),To.succ ?_,?_⟩
   ·simp only [M.plaintext_Parse_loop]
    exact To.pos (by simp) (To.bindS hc (To.pos rfl To.pure))
   ·show _=goS S P.length [p]
    rw [goS_last,if_neg (by rw [h2];simp)];rfl
  | cons q qs=>
   obtain ⟨rest,h1,h2,h3⟩:=hcut.2 (by simp)
   have hc:cutM (b :: l) [10]=some (p,rest,true):=by
    unfold cutM
    rw [if_pos (by omega),h1]
   have hlen:rest.length+p.length+1=(b :: l).length:=by rw [h3];simp;omega
   cases hr:rdL p with
   | none=>
    refine ⟨.inr (zapi_Unit,(P.length:Int),2),To.succ ?_,?_⟩
    ·simp only [M.plaintext_Parse_loop]
     exact To.pos (by simp) (To.bindS hc (To.neg (by simp) (To.bind (grow_bad ar W p _ (by omega) hr) (To.pos (by simp) To.pure))))
    ·show _=goS S P.length (p :: q :: qs)
     rw [goS_none _ _ _ _ _ hr];rfl
   | some ud=>
    obtain ⟨u,d⟩:=ud
    obtain ⟨ar2,hg,hn⟩:=grow_ok h ha (by omega) p (by omega) hr
    have hb:=(rdL_some hr).1
    by_cases he:errS S P.length u d=0
    ·obtain ⟨n1,n2,_⟩:=h.next hb he
     obtain ⟨o,ho,hf⟩:=pparse_loop m rest (by omega) (by omega) _ _ _ ar2 n1 (hn he) (by omega)
     rw [n2,h2] at hf
     rw [n2] at ho
     rw [if_neg (by simpa using he)] at hg
     refine ⟨o,To.succ ?_,?_⟩
     ·simp only [M.plaintext_Parse_loop]
      exact To.pos (by simp) (To.bindS hc (To.neg (by simp) (To.bind hg (To.neg (by simp) (To.bindS (addC_succ (by omega)) ho)))))
     ·rw [goS_some _ _ _ _ _ hr,if_neg (by simpa using he)]
      exact hf
    ·rw [if_pos he] at hg
     refine ⟨.inr (zapi_Unit,(P.length:Int),errS S P.length u d),To.succ ?_,?_⟩
     ·simp only [M.plaintext_Parse_loop]
      exact To.pos (by simp) (To.bindS hc (To.neg (by simp) (To.bind hg (To.pos he To.pure))))
     ·show _=goS S P.length (p :: q :: qs)
      rw [goS_some _ _ _ _ _ hr,if_pos he];rfl
theorem first_ok{u:api_Unit}(h:bareU u):Ar [⟨u,0,-1⟩] [(u,[])]:=by
 refine ⟨rfl,fun i x hx=>?_⟩
 cases i with
 | zero=>cases hx;rfl
 | succ i=>cases hx
theorem pparse_start(s:Str)(hs4:s.length≤20000)(hne:s≠ []):∃ o,To (fun n=>M.plaintext_Parse_loop n s [] [] (0:Int)) o∧finP o (goS [] 0 (splitC 10 s)):=by
 obtain ⟨p,ps,hsp⟩:=splitC_cons 10 s
 have hcut:=cut_split 10 s p ps hsp
 have hps:=splitC_lens 10 s p (by rw [hsp];exact List.mem_cons_self)
 rw [hsp]
 cases ps with
 | nil=>
  obtain ⟨h1,h2⟩:=hcut.1 rfl
  have hc:cutM s [10]=some (s,[],false):=by
   unfold cutM
   rw [if_pos (by omega),h1]
  refine ⟨.inr (zapi_Unit,0,2),To.succ ?_,?_⟩
  ·simp only [M.plaintext_Parse_loop]
   exact To.pos (by simpa using hne) (To.bindS hc (To.pos rfl To.pure))
  ·show _=goS [] 0 [p]
   rw [goS_last,if_neg (by simp)];rfl
 | cons q qs=>
  obtain ⟨rest,h1,h2,h3⟩:=hcut.2 (by simp)
  have hc:cutM s [10]=some (p,rest,true):=by
   unfold cutM
   rw [if_pos (by omega),h1]
  have hlen:rest.length+p.length+1=s.length:=by rw [h3];simp;omega
  cases hr:rdL p with
  | none=>
   refine ⟨.inr (zapi_Unit,0,2),To.succ ?_,?_⟩
   ·simp only [M.plaintext_Parse_loop]
    exact To.pos (by simpa using hne) (To.bindS hc (To.neg (by simp) (To.bind (grow_bad [] [] p _ (by omega) hr) (To.pos (by simp) To.pure))))
   ·show _=goS [] 0 (p :: q :: qs)
    rw [goS_none _ _ _ _ _ hr];rfl
  | some ud=>
   obtain ⟨u,d⟩:=ud
   have hg:=grow_nil p (by omega) hr
   have hb:=(rdL_some hr).1
   by_cases he:errS [] 0 u d=0
   ·have hd:d=0:=by
     cases d with
     | zero=>rfl
     | succ d=>cases he
    subst hd
    obtain ⟨o,ho,hf⟩:=pparse_loop rest.length rest (Nat.le_refl _) (by omega) _ _ _ _ (St.first hb) (first_ok hb) (by simp;omega)
    rw [h2] at hf
    rw [if_neg (by simpa using he)] at hg
    refine ⟨o,To.succ ?_,?_⟩
    ·simp only [M.plaintext_Parse_loop]
     exact To.pos (by simpa using hne) (To.bindS hc (To.neg (by simp) (To.bind hg (To.neg (by simp) (To.bindS (addC_eq (by omega) (by omega)) ho)))))
    ·rw [goS_some _ _ _ _ _ hr,if_neg (by simpa using he)]
     exact hf
   ·rw [if_pos he] at hg
    refine ⟨.inr (zapi_Unit,0,errS [] 0 u d),To.succ ?_,?_⟩
    ·simp only [M.plaintext_Parse_loop]
     exact To.pos (by simpa using hne) (To.bindS hc (To.neg (by simp) (To.bind hg (To.pos he To.pure))))
    ·show _=goS [] 0 (p :: q :: qs)
     rw [goS_some _ _ _ _ _ hr,if_pos he];rfl
def parseT(s:Str):api_Unit×Int×Int:=if 16384<s.length then (zU,0,6) else goS [] 0 (splitC 10 s)
theorem pparse_ok(s:Str)(hs:s.length≤1000000000):To (fun n=>M.plaintext_Parse n s) (parseT s):=by
 simp only [M.plaintext_Parse]
 unfold parseT
 by_cases hl:16384<s.length
 ·rw [if_pos hl];exact To.pos (by omega) To.pure
 ·rw [if_neg hl]
  refine To.neg (by omega) ?_
  by_cases he:s= []
  ·subst he
   exact To.pos rfl (To.pure.of rfl)
  ·refine To.neg (by simpa using he) ?_
   obtain ⟨o,ho,hf⟩:=pparse_start s (by omega) he
   refine To.bind ho ?_
   cases o with
   | inr x=>exact To.pure.of hf
   | inl x=>
    obtain ⟨ar,way,i⟩:=x
    obtain ⟨P,W,S,hst,har,rfl,hpl,rfl,hr⟩:=hf
    rw [hr]
    obtain ⟨ws,hw⟩:=hst.root
    have hu:To (fun n=>M.node_unit ar n 0) (treeHd S):=by
     refine To.far P.length fun m=>?_
     rw [node_unit_ok har hst.back hpl (fun x hx=>bare_kids (hst.bare x hx)) (m+P.length) 0 hst.pos0 (by omega),hst.tree (by omega)]
    exact To.bindS (a:=0) (by rw [hw];rfl) (To.bind hu To.pure)
theorem dep_small{s:Str}{u:api_Unit}{d:Nat}(h:rdL s=some (u,d)):d≤8:=by
 have:=(rdL_some h).2.1
 unfold okL at this
 simp only [Bool.and_eq_true,decide_eq_true_eq] at this
 omega
end Go.Proofs.YtofaogkcifaioaaDoor
/-
  Chapter 11: a tree's own text is parsed to it: PlaintextFormatParse. Marks do not matter: PlaintextIgnoresMarks.
-/
set_option linter.unusedVariables false
set_option linter.unusedSimpArgs false
namespace Go.Proofs.YtofaogkcifaioaaDoor
open Go Go.Dec
end Go.Proofs.YtofaogkcifaioaaDoor
/-
  Chapter 11: what is parsed is valid, and its text is the one that was parsed: PlaintextParseFormat.
-/
set_option linter.unusedVariables false
set_option linter.unusedSimpArgs false
namespace Go.Proofs.YtofaogkcifaioaaDoor
open Go Go.Dec
def linesK(l:List api_Unit)(e:Nat):List Str:=l.flatMap fun k=>linesT k e
def linesS:Stk→Nat→List Str
 | [],_=>[]
 | p :: r,e=>lineS p.1 (e:Int) :: (linesK p.2 (e+1)++linesS r (e+1))
def sumK(l:List api_Unit):Nat:=(l.map cnt).sum
def cntS:Stk→Nat
 | []=>0
 | p :: r=>1+sumK p.2+cntS r
theorem lines_mk(u:api_Unit)(ks:List api_Unit)(d:Nat):linesT {u with Kids:=ks} d=lineS u (d:Int) :: linesK ks (d+1):=by
 unfold linesT lns linesK
 rw [pre_eq,List.map_cons,List.map_flatMap]
 rfl
theorem cnt_mk(u:api_Unit)(ks:List api_Unit):cnt {u with Kids:=ks}=1+sumK ks:=cnt_eq _
theorem linesK_app(a b:List api_Unit)(e:Nat):linesK (a++b) e=linesK a e++linesK b e:=by simp [linesK]
theorem sumK_app(a b:List api_Unit):sumK (a++b)=sumK a+sumK b:=by simp [sumK]
theorem linesK_one(k:api_Unit)(e:Nat):linesK [k] e=linesT k e:=by simp [linesK]
theorem sumK_one(k:api_Unit):sumK [k]=cnt k:=by simp [sumK]
theorem lines_tree:∀ (S:Stk) (e:Nat),linesK (treeOf S) e=linesS S e
 | [],_=>rfl
 | p :: r,e=>by
  show linesK [{p.1 with Kids:=p.2++treeOf r}] e=_
  rw [linesK_one,lines_mk,linesK_app,lines_tree r (e+1)];rfl
theorem cnt_tree:∀ S:Stk,sumK (treeOf S)=cntS S
 | []=>rfl
 | p :: r=>by
  show sumK [{p.1 with Kids:=p.2++treeOf r}]=1+sumK p.2+cntS r
  rw [sumK_one,cnt_mk,sumK_app,cnt_tree r];omega
theorem lines_push:∀ (S:Stk) (d:Nat) (u:api_Unit) (e:Nat),d<S.length→linesS (pushS S d u) e=linesS S e++ [lineS u ((e+d+1:Nat):Int)]
 | p :: r,0,u,e,_=>by
  show lineS p.1 (e:Int) :: (linesK (p.2++treeOf r) (e+1)++(lineS u ((e+1:Nat):Int) :: ([]++ [])))=lineS p.1 (e:Int) :: (linesK p.2 (e+1)++linesS r (e+1))++ [lineS u ((e+0+1:Nat):Int)]
  rw [linesK_app,lines_tree]
  simp
 | p :: r,d+1,u,e,h=>by
  have ih:=lines_push r d u (e+1) (by simp at h;omega)
  show lineS p.1 (e:Int) :: (linesK p.2 (e+1)++linesS (pushS r d u) (e+1))=lineS p.1 (e:Int) :: (linesK p.2 (e+1)++linesS r (e+1))++ [lineS u ((e+(d+1)+1:Nat):Int)]
  rw [ih,show e+1+d+1=e+(d+1)+1 by omega]
  simp
theorem cnt_push:∀ (S:Stk) (d:Nat) (u:api_Unit),d<S.length→cntS (pushS S d u)=cntS S+1
 | p :: r,0,u,_=>by
  show 1+sumK (p.2++treeOf r)+(1+sumK []+0)=1+sumK p.2+cntS r+1
  rw [sumK_app,cnt_tree]
  show 1+(sumK p.2+cntS r)+(1+0+0)=_
  omega
 | p :: r,d+1,u,h=>by
  have ih:=cnt_push r d u (by simp at h;omega)
  show 1+sumK p.2+cntS (pushS r d u)=1+sumK p.2+cntS r+1
  rw [ih];omega
def vK(l:List api_Unit)(e:Nat):Prop:=∀ k∈l,(∀ x∈desc k,okU x=true)∧e+dp k≤8
theorem vK_nil(e:Nat):vK [] e:=fun x hx=>by cases hx
def vS:Stk→Nat→Prop
 | [],_=>True
 | p :: r,e=>e≤8∧aloB p.1=true∧vK p.2 (e+1)∧kidB {p.1 with Kids:=p.2++treeOf r}=true∧vS r (e+1)
theorem v_tree:∀ (S:Stk) (e:Nat),vS S e→vK (treeOf S) e
 | [],_,_,k,hk=>by cases hk
 | p :: r,e,⟨h1,h2,h3,h4,h5⟩,k,hk=>by
  have ih:=v_tree r (e+1) h5
  obtain rfl:=List.mem_singleton.1 hk
  have hkids:vK (p.2++treeOf r) (e+1):=fun x hx=>(List.mem_append.1 hx).elim (h3 x) (ih x)
  refine ⟨fun x hx=>?_,?_⟩
  ·rw [desc_eq] at hx
   rcases List.mem_cons.1 hx with rfl | hx
   ·unfold okU
    rw [h4]
    have:aloB {p.1 with Kids:=p.2++treeOf r}=aloB p.1:=rfl
    rw [this,h2];rfl
   ·obtain ⟨y,hy,hx⟩:=List.mem_flatMap.1 hx
    exact (hkids y hy).1 x hx
  ·have:dp {p.1 with Kids:=p.2++treeOf r}≤8-e:=by
    rw [dp_le]
    intro y hy
    have:=(hkids y hy).2
    omega
   omega
theorem kid_keys{a b:api_Unit}(hk:a.Kind=b.Kind)(hl:a.Kids.map keyU=b.Kids.map keyU):kidB a=kidB b:=by
 have e1:(a.Kids.all fun k=>nestB a.Kind k.Kind)=((a.Kids.map keyU).all fun p=>nestB a.Kind p.1):=by rw [List.all_map];rfl
 have e2:(b.Kids.all fun k=>nestB b.Kind k.Kind)=((b.Kids.map keyU).all fun p=>nestB b.Kind p.1):=by rw [List.all_map];rfl
 have e3:a.Kids.length=b.Kids.length:=by
  have:=congrArg List.length hl
  simpa using this
 unfold kidB
 rw [e1,e2,e3,hk,hl]
theorem push_key:∀ (r:Stk) (d:Nat) (u:api_Unit),d<r.length→(treeOf (pushS r d u)).map keyU=(treeOf r).map keyU
 | p :: r,0,u,_=>rfl
 | p :: r,d+1,u,_=>rfl
theorem errT_ok{v:api_Unit}{K:List api_Unit}{c:Nat}{u:api_Unit}(h:errT v K c u=0):nestB v.Kind u.Kind=true∧keyU u ∉ K.map keyU∧K.length<64∧c<1024:=by
 unfold errT at h
 split at h
 ·cases h
 ·rename_i h1
  split at h
  ·cases h
  ·rename_i h2
   split at h
   ·cases h
   ·rename_i h3
    split at h
    ·cases h
    ·rename_i h4
     exact ⟨by simpa using h1,h2,by omega,by omega⟩
theorem v_push:∀ (S:Stk) (d:Nat) (u:api_Unit) (e c:Nat) (v:api_Unit) (K:List api_Unit),vS S e→topS S d=some (v,K)→errT v K c u=0→aloB u=true→e+d+1≤8→d<S.length→vS (pushS S d u) e
 | p :: r,0,u,e,c,v,K,⟨h1,h2,h3,h4,h5⟩,ht,he,hu,hd,_=>by
  have ih:=v_tree r (e+1) h5
  cases ht
  obtain ⟨g1,g2,g3,g4⟩:=errT_ok he
  have hkids:vK (p.2++treeOf r) (e+1):=fun x hx=>(List.mem_append.1 hx).elim (h3 x) (ih x)
  refine ⟨h1,h2,hkids,?_,by omega,hu,vK_nil _,?_,trivial⟩
  ·unfold kidB at h4 ⊢
   simp only [Bool.and_eq_true,decide_eq_true_eq,List.all_eq_true] at h4 ⊢
   obtain ⟨⟨q1,q2⟩,q3⟩:=h4
   have et:treeOf [(u,([]:List api_Unit))]= [{u with Kids:=[]}]:=rfl
   rw [et]
   refine ⟨⟨fun x hx=>?_,?_⟩,?_⟩
   ·rcases List.mem_append.1 hx with hx | hx
    ·exact q1 x hx
    ·rw [List.mem_singleton.1 hx];exact g1
   ·rw [List.map_append,List.nodup_append]
    refine ⟨q2,by simp,fun x hx y hy=>?_⟩
    have hy:y∈ [keyU u]:=hy
    rw [List.mem_singleton.1 hy]
    rintro rfl
    exact g2 hx
   ·rw [List.length_append]
    simp only [List.length_singleton]
    omega
  ·unfold kidB
   simp [treeOf]
 | p :: r,d+1,u,e,c,v,K,⟨h1,h2,h3,h4,h5⟩,ht,he,hu,hd,hl=>by
  have hl':d<r.length:=by simp at hl;omega
  refine ⟨h1,h2,h3,?_,v_push r d u (e+1) c v K h5 ht he hu (by omega) hl'⟩
  rw [←h4]
  refine kid_keys rfl ?_
  show (p.2++treeOf (pushS r d u)).map keyU=(p.2++treeOf r).map keyU
  rw [List.map_append,List.map_append,push_key r d u hl']
theorem top_len:∀ {S:Stk} {d:Nat} {x:api_Unit×List api_Unit},topS S d=some x→d<S.length
 | _ :: _,0,_,_=>by simp
 | _ :: S,d+1,_,h=>by have:=top_len (S:=S) h;simp;omega
theorem goS_ok:∀ (ps:List Str) (S:Stk) (c:Nat),vS S 0→cntS S=c→c≤1024→(goS S c ps).2.2=0→
  ∃ S2 L,ps=L++ [[]]∧goS S c ps=(treeHd S2,(cntS S2:Int),0)∧vS S2 0∧linesS S2 0=linesS S 0++L∧S2≠ []∧cntS S2≤1024
 | [],S,c,_,_,_,h=>by cases h
 | [p],S,c,hv,hc,hm,h=>by
  rw [goS_last] at h ⊢
  split at h
  ·rename_i hp
   rw [if_pos hp]
   exact ⟨S,[],by rw [hp.1];rfl,by rw [hc],hv,by simp,hp.2,by omega⟩
  ·cases h
 | p :: q :: ps,S,c,hv,hc,hm,h=>by
  cases hr:rdL p with
  | none=>rw [goS_none _ _ _ _ _ hr] at h;cases h
  | some ud=>
   obtain ⟨u,d⟩:=ud
   obtain ⟨hb,hok,hline⟩:=rdL_some hr
   have hd8:=dep_small hr
   have ha:aloB u=true:=by
    unfold okL at hok
    simp only [Bool.and_eq_true] at hok
    exact hok.2
   rw [goS_some _ _ _ _ _ hr] at h ⊢
   by_cases he:errS S c u d=0
   ·rw [if_neg (by simpa using he)] at h ⊢
    have hnext:vS (nextS S u d) 0∧cntS (nextS S u d)=c+1∧c+1≤1024∧linesS (nextS S u d) 0=linesS S 0++ [p]:=by
     cases d with
     | zero=>
      have hS:S= []:=by
       have:(if S= [] then (0:Int) else 3)=0:=he
       split at this
       ·assumption
       ·cases this
      subst hS
      have hc0:c=0:=hc.symm
      refine ⟨⟨by omega,ha,vK_nil _,by unfold kidB;simp [treeOf],trivial⟩,by rw [hc0];rfl,by omega,?_⟩
      show [lineS u ((0:Nat):Int)]= [p]
      rw [hline]
     | succ d=>
      have he2:(match topS S d with | none=>(3:Int) | some (v,K)=>errT v K c u)=0:=he
      cases ht:topS S d with
      | none=>rw [ht] at he2;cases he2
      | some vK2=>
       obtain ⟨v,K⟩:=vK2
       rw [ht] at he2
       have he2:errT v K c u=0:=he2
       have hl:=top_len ht
       refine ⟨v_push S d u 0 c v K hv ht he2 ha (by omega) hl,by rw [next_succ,cnt_push S d u hl,hc],by have:=(errT_ok he2).2.2.2;omega,?_⟩
       rw [next_succ,lines_push S d u 0 hl,Nat.zero_add,hline]
    obtain ⟨n1,n2,n3,n4⟩:=hnext
    obtain ⟨S2,L,g1,g2,g3,g4,g5,g6⟩:=goS_ok (q :: ps) (nextS S u d) (c+1) n1 n2 n3 h
    exact ⟨S2,p :: L,by rw [g1];rfl,g2,g3,by rw [g4,n4];simp,g5,g6⟩
   ·rw [if_pos he] at h
    exact absurd h he
theorem goS_err:∀ (ps:List Str) (S:Stk) (c:Nat),(goS S c ps).2.2≠0→(goS S c ps).1=zU
 | [],_,_,_=>rfl
 | [p],S,c,h=>by
  rw [goS_last] at h ⊢
  split at h
  ·exact absurd rfl h
  ·rename_i hp;rw [if_neg hp]
 | p :: q :: ps,S,c,h=>by
  cases hr:rdL p with
  | none=>rw [goS_none _ _ _ _ _ hr]
  | some ud=>
   obtain ⟨u,d⟩:=ud
   rw [goS_some _ _ _ _ _ hr] at h ⊢
   split at h
   ·rename_i he;rw [if_pos he]
   ·rename_i he;rw [if_neg he];exact goS_err (q :: ps) _ _ h
theorem text_split:∀ (s:Str) (L:List Str),splitC 10 s=L++ [[]]→textN L=s
 | [],L,h=>by
  cases L with
  | nil=>rfl
  | cons p L=>
   have:=congrArg List.length h
   simp [splitC] at this
 | b :: l,L,h=>by
  unfold splitC at h
  by_cases hb:b=10
  ·rw [if_pos hb] at h
   cases L with
   | nil=>
    exfalso
    obtain ⟨p,ps,hp⟩:=splitC_cons 10 l
    rw [hp] at h
    have:=congrArg List.length h
    simp at this
   | cons p L=>
    rw [List.cons_append] at h
    injection h with h1 h2
    have ih:=text_split l L h2
    have e:textN (p :: L)=p++10 :: textN L:=by simp [textN]
    rw [e,ih,←h1,hb];rfl
  ·rw [if_neg hb] at h
   obtain ⟨p,ps,hp⟩:=splitC_cons 10 l
   rw [hp] at h
   simp only at h
   cases L with
   | nil=>injection h with h1 h2;cases h1
   | cons q L=>
    rw [List.cons_append] at h
    injection h with h1 h2
    have ih:=text_split l (p :: L) (by rw [hp,h2];rfl)
    have e1:textN (q :: L)=q++10 :: textN L:=by simp [textN]
    have e2:textN (p :: L)=p++10 :: textN L:=by simp [textN]
    rw [e2] at ih
    rw [e1,←h1,←ih];rfl
theorem pparseformat_true(s:Str):∃ n,M.law11_PlaintextParseFormat n s=some true:=by
 refine To.ex ?_
 simp only [M.law11_PlaintextParseFormat]
 by_cases hs:(6000:Int)< (s.length:Int)
 ·exact To.bind (a:=true) (To.bind awake11 (To.neg (by simp) (To.pure.of (by simp;omega)))) (To.pos rfl (To.bind awake11 To.pure))
 ·refine To.bind (a:=false) (To.bind awake11 (To.neg (by simp) (To.pure.of (by simp;omega)))) (To.neg (by simp) ?_)
  refine To.bind (pparse_ok s (by omega)) ?_
  have hp:parseT s=goS [] 0 (splitC 10 s):=by unfold parseT;rw [if_neg (by omega)]
  rw [hp]
  by_cases he:(goS [] 0 (splitC 10 s)).2.2=0
  ·obtain ⟨S2,L,g1,g2,g3,g4,g5,g6⟩:=goS_ok (splitC 10 s) [] 0 trivial rfl (by omega) he
   have htx:=text_split s L g1
   obtain ⟨p,r,hS⟩:∃ p r,S2=p :: r:=by
    cases S2 with
    | nil=>exact absurd rfl g5
    | cons p r=>exact ⟨p,r,rfl⟩
   obtain ⟨t,ht⟩:∃ t,treeOf S2= [t]:=by rw [hS];exact ⟨_,rfl⟩
   have hhd:treeHd S2=t:=by unfold treeHd;rw [ht]
   have hvk:=v_tree S2 0 g3
   have hl:=lines_tree S2 0
   have hc:=cnt_tree S2
   rw [ht] at hvk hl hc
   rw [linesK_one,g4] at hl
   rw [sumK_one] at hc
   have hL:linesT t 0=L:=by rw [hl];rfl
   obtain ⟨v1,v2⟩:=hvk t (by simp)
   have hval:valT t=true:=by
    unfold valT
    simp only [Bool.and_eq_true,decide_eq_true_eq,List.all_eq_true]
    exact ⟨⟨v1,by omega⟩,by omega⟩
   have hsm:smT t:=⟨by omega,fun x hx=>alo_small (by
    have:=v1 x hx
    unfold okU at this
    simp only [Bool.and_eq_true] at this
    exact this.1)⟩
   have hfmt:=format_p t hsm
   have hlin:=lines_p t hsm
   rw [if_pos hval,hL] at hlin
   have hft:fmtT t=(s,0):=by
    unfold fmtT
    rw [if_pos hval,hL,htx,if_neg (by omega)]
   rw [hft] at hfmt
   rw [g2,hhd]
   refine To.neg (by simp) (To.bind hfmt (To.pos rfl (To.pos (by simp) (To.bind hlin (To.pure.of ?_)))))
   have:L.length=cntS S2:=by
    rw [←hL,←hc]
    unfold linesT lns
    rw [List.length_map,pre_len]
   simp [this]
  ·have hz:=goS_err _ _ _ he
   refine To.pos he ?_
   rw [hz]
   exact To.bind (says_ok zU _ rfl) To.pure
end Go.Proofs.YtofaogkcifaioaaDoor
