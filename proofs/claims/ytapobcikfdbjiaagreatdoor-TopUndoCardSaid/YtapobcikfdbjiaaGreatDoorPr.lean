import Derived.Test.YtapobcikfdbjiaaGreatDoorPk
/- Plain law. -/
set_option linter.unusedVariables false
set_option linter.unusedSimpArgs false
namespace Go.Proofs.YtapobcikfdbjiaaGreatDoor
open Go Go.Dec
theorem D5(w:List af)(part:List Str)(hw:w.length<=1000)(hp:part.length<=1000)(h0:0<part.length) :
  ∃ ps,Sp part.length w.length 0 ps/\ps.length<=1000/\To (fun n=>M.lU n (txts w) part) (ints ps)/\To (fun n=>M.rC n w part) (ints ps):=by
 obtain ⟨ps,h1,h2,h3,h4⟩:=Ja w part (by omega) (by omega) h0 w.length 0 (by omega) (by omega);refine ⟨ps,h1,by omega,?_,?_⟩
 ·simp only [M.lU];exact To.neg (by omega) (To.bind (h3 [] (by simp;omega)) (To.pure.of (by simp)))
 ·simp only [M.rC];exact To.bind (h4 [] (by simp;omega)) (To.pure.of (by simp))
theorem QI{k n:Nat}:∀ (ps:List Nat) (fr:Nat),Sp k n fr ps->Sp 0 n fr (ps.map (· +k))
 | [],fr,h=>h
 | p :: ps,fr,h=>⟨by have:=h.1;show fr<=p+k;omega,QI ps _ h.2⟩
theorem Vm{k n:Nat}:∀ (ps:List Nat) (fr:Nat),Sp k n fr ps->∀ p∈ps,p+k<=n
 | p :: ps,fr,h,q,hq=>by
  rcases List.mem_cons.1 hq with rfl | hq
  ·exact h.2.le
  ·exact Vm ps _ h.2 q hq
def Both(w:List af)(new:List Str)(f g:Nat->Option (List af×Int)):Prop:=
 ∃ r s,To f r/\To g s/\((r.2≠0/\s.2≠0)\/(r=s/\r.2=0/\r.1.length<=256/\ ∀ x∈r.1,x∈w\/x.Text∈new))
theorem QJ(w:List af)(it:ah)(act item:Int)(ps:List Nat)(hw:w.length<=300)(ho:it.Old.length<=300)(hn:it.New.length<=300)(hk:it.Kind=2\/it.Kind=3)(h0:0<it.Old.length)(h1:Sp it.Old.length w.length 0 ps)(hps:ps.length<=1000)
  (hpl:To (fun n=>M.rC n w it.Old) (ints ps)) (hne:sel it.Nth ps 0≠ []) (hnn:0<=it.Nth) (l:List af)
  (hl:(if it.Kind=3 then editL act item w 0 it.New ((sel it.Nth ps 0).map (· +it.Old.length)) 0 0 else editL act item w it.Old.length it.New (sel it.Nth ps 0) 0 0)=l):To (fun n=>M.qp n w it act item) (if 256<l.length then ([],6) else (l,0)):=by
 have hm:ps.length*it.New.length<=1000*300:=Nat.mul_le_mul hps hn;obtain ⟨acc2,fr2,e1,e2,e3,e4⟩:=N8 w it act item ps (by omega) (by omega) (by omega) hk ps 0 0 0 [] rfl h1 (by omega) (by simp;omega) (by omega);rw [hl,List.nil_append] at e4;simp only [M.qp];refine To.bind (a:=false) (To.ite (fun _=>To.pure.of (by rw [decide_eq_false_iff_not];omega)) fun _=>To.pure) (To.neg (by simp) (To.bind hpl ?_));rw [gu];have hlen:¬ ((ps.length:Int)=0)/\ ¬ ((ps.length:Int)< it.Nth):=by
  constructor
  ·intro h;apply hne;rw [show ps= [] from List.eq_nil_of_length_eq_zero (by omega)];rfl
  ·intro h;apply hne;obtain ⟨k,hk⟩:∃ k:Nat,it.Nth=(k:Int)+1:=⟨(it.Nth-1).toNat,by omega⟩
   rw [hk,CB k ps 0 (by omega)];exact List.drop_eq_nil_of_le (by rw [List.length_take];omega)
 refine To.bind (a:=false) (To.neg hlen.1 (To.pure.of (by rw [decide_eq_false_iff_not];exact hlen.2))) (To.neg (by simp) (To.bind e1 (To.bindS (a:=w.drop fr2) (by unfold slcLo;rw [if_pos (by omega),Int.toNat_natCast]) (To.bindS (a:=l) ?_ ?_))))
 ·rw [bJ (by show acc2.length+_<=_;rw [List.length_drop];omega),e4]
 ·by_cases h:256<l.length
  ·exact To.pos (by omega) (To.pure.of (by simp [h]))
  ·exact To.neg (by omega) (To.pure.of (by simp [h]))
theorem Fb(w:List af)(it:ah)(act item:Int)(ps:List Nat)(hps:ps.length<=1000)(h0:0<it.Old.length)(hpl:To (fun n=>M.rC n w it.Old) (ints ps))(hne:sel it.Nth ps 0= [])(hnn:0<=it.Nth):To (fun n=>M.qp n w it act item) ([],4):=by
 simp only [M.qp];refine To.bind (a:=false) (To.ite (fun _=>To.pure.of (by rw [decide_eq_false_iff_not];omega)) fun _=>To.pure) (To.neg (by simp) (To.bind hpl ?_));rw [gu];have hb:To (fun _:Nat=>if (ps.length:Int)=(0:Int) then some true else some (decide ((ps.length:Int)< it.Nth))) true:=by
  by_cases h:(ps.length:Int)=0
  ·exact To.pos h To.pure
  ·refine To.neg h (To.pure.of ?_);rw [decide_eq_true_eq];by_cases hz:it.Nth=0
   ·rw [hz,Gf] at hne;rw [hne] at h;simp at h
   ·obtain ⟨k,hk⟩:∃ k:Nat,it.Nth=(k:Int)+1:=⟨(it.Nth-1).toNat,by omega⟩
    rw [hk,CB k ps 0 (by omega)] at hne;have:=congrArg List.length hne;rw [List.length_drop,List.length_take,List.length_nil] at this;omega
 exact To.bind hb (To.pos rfl To.pure)
theorem Jf(act item:Int)(w:List af)(gone:Nat)(new:List Str)(ps:List Nat):∀ x∈editL act item w gone new ps 0 0,x∈w\/x.Text∈new:=EY act item w gone new ps 0 0
theorem Gi{w:List af}{new:List Str}{f g:Nat->Option (List af×Int)}{l:List af}(hf:To f (if 256<l.length then ([],6) else (l,0)))(hg:To g (if 256<l.length then ([],6) else (l,0)))(hm:∀ x∈l,x∈w\/x.Text∈new):Both w new f g:=by
 refine ⟨_,_,hf,hg,?_⟩;by_cases h:256<l.length
 ·rw [if_pos h];exact .inl ⟨by simp,by simp⟩
 ·rw [if_neg h];exact .inr ⟨rfl,rfl,by show l.length<=256;omega,hm⟩
theorem Gj(w:List af)(it:ah)(act item:Int)(hw:w.length<=256)(ho:it.Old.length<=256)(hn:it.New.length<=256)(hk:it.Kind=2)(h0:0<it.Old.length)(hnn:0<=it.Nth) :
  Both w it.New (fun n=>M.kK n w it.Old it.New it.Nth act item) (fun n=>M.qp n w it act item):=by
 obtain ⟨ps,h1,h2,h3,h4⟩:=D5 w it.Old (by omega) (by omega) h0;have hpl:=Jd w it.Old it.Nth ps (by omega) (by omega) hnn h3;by_cases hne:sel it.Nth ps 0= []
 ·refine ⟨([],4),([],4),?_,Fb w it act item ps h2 h0 h4 hne hnn,.inl ⟨by simp,by simp⟩⟩;simp only [M.kK];rw [hne] at hpl;exact To.bind (a:=false) (To.neg (by omega) (To.pure.of (by rw [decide_eq_false_iff_not];omega))) (To.neg (by simp) (To.bind hpl (To.pos rfl To.pure)))
 ·have hr:=QJ w it act item ps (by omega) (by omega) (by omega) (.inl hk) h0 h1 h2 h4 hne hnn _ (if_neg (by omega));refine Gi (l:=editL act item w it.Old.length it.New (sel it.Nth ps 0) 0 0) ?_ hr (Jf _ _ _ _ _ _);simp only [M.kK];have hl:¬ ((ints (sel it.Nth ps 0)).length:Int)=0:=by rw [gu];intro h;exact hne (List.eq_nil_of_length_eq_zero (by omega))
  have hsl:=Gh it.Nth ps 0;exact To.bind (a:=false) (To.neg (by omega) (To.pure.of (by rw [decide_eq_false_iff_not];omega))) (To.neg (by simp) (To.bind hpl (To.neg hl (To.bind (QH act item w it.Old.length it.New _ (Gg _ _ _ _ h1) (by omega) (by omega) (by omega) (by omega)) To.pure))))
theorem Jg(w:List af)(it:ah)(act item:Int)(hw:w.length<=256)(ho:it.Old.length<=256)(hn:it.New.length<=256)(hn0:0<it.New.length)(hk:it.Kind=3)(hnn:0<=it.Nth)(h00:it.Old.length=0->it.Nth=0) :
  Both w it.New (fun n=>M.eH n w it.Old it.New it.Nth act item) (fun n=>M.qp n w it act item):=by
 have hb:To (fun _:Nat=>if (it.New.length:Int)=(0:Int) then some true else if it.Nth<(0:Int) then some true else if (it.Old.length:Int)=(0:Int) then some (decide (it.Nth≠(0:Int))) else some false) false:=by
  refine To.neg (by omega) (To.neg (by omega) (To.ite (fun h=>To.pure.of ?_) fun _=>To.pure));rw [h00 (by omega)];rfl
 by_cases h0:it.Old.length=0
 ·refine Gi (l:=markL act item 0 it.New++w) ?_ ?_ fun x hx=>?_
  ·simp only [M.eH];have:=QH act item w 0 it.New [0] ⟨Nat.zero_le _,by show 0+0<=w.length;omega⟩ (by omega) (by omega) (by simp) (by omega);rw [show editL act item w 0 it.New [0] 0 0=markL act item 0 it.New++w by simp [editL]] at this;exact To.bind hb (To.neg (by simp) (To.pos (by omega) (To.bind this To.pure)))
  ·simp only [M.qp];have hm:=DZ it.New act item 0 (by omega);have hl:=nL act item it.New 0;refine To.bind (a:=true) (To.pos hk (To.pure.of (by rw [decide_eq_true_eq];omega))) (To.pos rfl (To.bind hm (To.bindS (bJ (by omega)) ?_)));by_cases h:256<(markL act item 0 it.New++w).length
   ·rw [if_pos h];exact To.pos (by omega) To.pure
   ·rw [if_neg h];exact To.neg (by omega) To.pure
  ·rcases List.mem_append.1 hx with hx | hx
   ·exact .inr (zP _ _ _ _ _ hx)
   ·exact .inl hx
 ·have h0:0<it.Old.length:=by omega
  obtain ⟨ps,h1,h2,h3,h4⟩:=D5 w it.Old (by omega) (by omega) h0;have hpl:=Jd w it.Old it.Nth ps (by omega) (by omega) hnn h3;have hsl:=Gh it.Nth ps 0;have hcl:M.kG (ints (sel it.Nth ps 0))=some (ints (sel it.Nth ps 0)):=by
   simp only [M.kG];rw [bJ (by rw [gu];simp;omega)];rfl
  by_cases hne:sel it.Nth ps 0= []
  ·refine ⟨([],4),([],4),?_,Fb w it act item ps h2 h0 h4 hne hnn,.inl ⟨by simp,by simp⟩⟩;simp only [M.eH];rw [hne] at hpl hcl;exact To.bind hb (To.neg (by simp) (To.neg (by omega) (To.bind hpl (To.bindS hcl (To.pos rfl To.pure)))))
  ·have hr:=QJ w it act item ps (by omega) (by omega) (by omega) (.inr hk) h0 h1 h2 h4 hne hnn _ (if_pos hk);have hsp:=Gg it.Nth ps 0 0 h1;refine Gi (l:=editL act item w 0 it.New ((sel it.Nth ps 0).map (· +it.Old.length)) 0 0) ?_ hr (Jf _ _ _ _ _ _);simp only [M.eH];have hl:¬ ((ints (sel it.Nth ps 0)).length:Int)=0:=by rw [gu];intro h;exact hne (List.eq_nil_of_length_eq_zero (by omega))
   have hil:=Je it.Old (ints (sel it.Nth ps 0)) (by omega) (sel it.Nth ps 0) [] (by rw [gu];simp) (fun x hx=>by have:=Vm _ _ hsp x hx;omega) (by simp;omega);have hput:=QH act item w 0 it.New _ (QI _ _ hsp) (by omega) (by omega) (by rw [List.length_map];omega) (by omega);exact To.bind hb (To.neg (by simp) (To.neg (by omega) (To.bind hpl (To.bindS hcl (To.neg hl (To.bind hil (To.bind hput To.pure)))))))
theorem Vn(s:av)(w:List af)(m:Nat)(hm:s.word_=(m:Int))(h:m+w.length<=1000000):M.jI s w=some (markL s.act_ s.item_ m (txts w),{s with word_:=((m+w.length:Nat):Int)}):=by
 have hl:(txts w).length=w.length:=by simp [txts]
 simp only [M.jI];rw [E9 w (by omega),Option.bind_some,hm,K4 _ _ _ _ (by omega),Option.bind_some,nL,hl,fo m _ (by omega),Option.bind_some]
theorem MM(u:aa):Oks u->wcnt u<=cnt u*512:=by
 refine uind (P:=fun u=>Oks u->wcnt u<=cnt u*512) ?_ u;intro u ih ho;obtain ⟨h1,h2,h3,h4⟩:=sQ (ho u (fC u));rw [AO,lN,Nat.add_mul];have:∀ l:List aa,(∀ k∈l,wcnt k<=cnt k*512)->(l.map wcnt).sum<=(l.map cnt).sum*512:=by
  intro l;induction l with
  | nil=>intro _;simp
  | cons k l ihl=>
   intro h;have h1:=h k (by simp);have h2:=ihl fun k hk=>h k (by simp [hk]);rw [List.map_cons,List.sum_cons,List.map_cons,List.sum_cons,Nat.add_mul];omega
 have:=this u.Kids fun k hk=>ih k hk (((rz u).1 ho).2 k hk);omega
theorem TU(u:aa):Oks u->cnt u<=10000->∀ (act item:Int) (n m:Nat),n+cnt u<=100000->m+wcnt u<=1000000->To (fun f=>M.dE f ⟨act,item,(n:Int),(m:Int)⟩ u) (WQ act item u (n+1) m,⟨act,item,((n+cnt u:Nat):Int),((m+wcnt u:Nat):Int)⟩):=by
 refine uind (P:=fun u=>Oks u->cnt u<=10000->∀ (act item:Int) (n m:Nat),n+cnt u<=100000->m+wcnt u<=1000000->To (fun f=>M.dE f ⟨act,item,(n:Int),(m:Int)⟩ u) (WQ act item u (n+1) m,⟨act,item,((n+cnt u:Nat):Int),((m+wcnt u:Nat):Int)⟩)) ?_ u;intro u ih ho hc act item n m hn hm;obtain ⟨h1,h2,h3,h4⟩:=sQ (ho u (fC u));rw [AO] at hm;rw [lN] at hn;have loop:∀ (xs:List aa) (slf:Nat->av->aa->Option (aa×av)) (pre:List aa) (n m:Nat),pre.length+xs.length=u.Kids.length->n+(xs.map cnt).sum<=100000->m+(xs.map wcnt).sum<=1000000->
   (∀ k∈xs,∀ n m:Nat,n+cnt k<=100000->m+wcnt k<=1000000->To (fun f=>slf f ⟨act,item,(n:Int),(m:Int)⟩ k) (WQ act item k (n+1) m,⟨act,item,((n+cnt k:Nat):Int),((m+wcnt k:Nat):Int)⟩))->
   To (fun f=>M.cZ u.Kids (slf f) f (pre++xs) (pre.length:Int) ⟨act,item,(n:Int),(m:Int)⟩) (pre++stampK act item xs (n+1) m,⟨act,item,((n+(xs.map cnt).sum:Nat):Int),((m+(xs.map wcnt).sum:Nat):Int)⟩):=by
  intro xs;induction xs with
  | nil=>
   intro slf pre n m hl _ _ _;simp only [List.length_nil] at hl;refine To.succ ?_;simp only [M.cZ];exact To.neg (by omega) (To.pure.of (by simp [stampK]))
  | cons x xs ihx=>
   intro slf pre n m hl hn hm hs;simp only [List.map_cons,List.sum_cons,List.length_cons] at hn hm hl;have h5:=hs x (by simp) n m (by omega) (by omega);have hi:idx (pre++x :: xs) (pre.length:Int)=some x:=Xv;have hset:setC (pre++x :: xs) (pre.length:Int) (WQ act item x (n+1) m)=some (pre++WQ act item x (n+1) m :: xs):=Xn;refine To.succ ?_;simp only [M.cZ];refine To.pos (by omega) (To.bindS hi (To.bind h5.shift (To.bindS hi (To.bindS hset (To.bindS (mr _ (by omega)) ?_)))));have:=ihx (fun f=>slf (f+1)) (pre++ [WQ act item x (n+1) m]) (n+cnt x) (m+wcnt x) (by simp;omega) (by omega) (by omega) fun k hk n m a b=>(hs k (by simp [hk]) n m a b).shift;simp only [List.length_append,List.length_singleton,List.append_assoc,List.singleton_append] at this;refine this.of ?_;rw [stampK,List.map_cons,List.map_cons,List.sum_cons,List.sum_cons,Nat.add_right_comm,<-Nat.add_assoc,<-Nat.add_assoc]
 refine To.succ ?_;simp only [M.dE];refine To.bindS (mr n (by omega)) ?_;refine To.bindS (Vn _ _ m rfl (by show m+u.Head.length<=_;omega)) ?_;refine To.bindS (Vn _ _ (m+u.Head.length) rfl (by show m+u.Head.length+u.Words.length<=_;omega)) ?_;refine To.bindS (a:=List.replicate u.Kids.length au) (by unfold makeC;rw [if_pos (by omega)];simp) (To.bindS (a:=u.Kids) (by unfold copyC;rw [if_pos (by simp)]) ?_);have:=loop u.Kids (fun f=>M.dE f) [] (n+1) (m+u.Head.length+u.Words.length) (by simp) (by omega) (by omega) fun k hk n m a b=>ih k hk (((rz u).1 ho).2 k hk) (by have:=jH hk;omega) act item n m a b;refine To.bind this (To.pure.of ?_);have e1:n+(1+(u.Kids.map cnt).sum)=n+1+(u.Kids.map cnt).sum:=by omega
 have e2:m+(u.Head.length+u.Words.length+(u.Kids.map wcnt).sum)=m+u.Head.length+u.Words.length+(u.Kids.map wcnt).sum:=by omega
 rw [pQ,lN u,AO u,e1,e2];rfl
theorem QK{u:aa}(ho:Oks u)(hc:cnt u<=1024)(act item:Int):To (fun f=>M.qL f u act item) (WQ act item u 1 0):=by
 simp only [M.qL];refine To.bind (TU u ho (by omega) act item 0 0 (by omega) ?_) To.pure;have:=MM u ho;omega
theorem TV(u:aa):Oks u->cnt u<=10000->∀ (act item:Int) (n m:Nat),n+cnt u<=100000->m+wcnt u<=1000000->To (fun f=>M.rU f u act item (n:Int) (m:Int)) (WQ act item u n m,((n+cnt u:Nat):Int),((m+wcnt u:Nat):Int)):=by
 refine uind (P:=fun u=>Oks u->cnt u<=10000->∀ (act item:Int) (n m:Nat),n+cnt u<=100000->m+wcnt u<=1000000->To (fun f=>M.rU f u act item (n:Int) (m:Int)) (WQ act item u n m,((n+cnt u:Nat):Int),((m+wcnt u:Nat):Int))) ?_ u;intro u ih ho hc act item n m hn hm;obtain ⟨h1,h2,h3,h4⟩:=sQ (ho u (fC u));rw [AO] at hm;rw [lN] at hn;have loop:∀ (n0:Int) (mark mark1:List af) (xs:List aa) (slf:Nat->aa->Int->Int->Int->Int->Option (aa×Int×Int)) (i:Nat) (out:List aa) (n m:Nat),u.Kids.drop i=xs->out.length+xs.length<=1000->n+(xs.map cnt).sum<=100000->m+(xs.map wcnt).sum<=1000000->
   (∀ k∈xs,∀ n m:Nat,n+cnt k<=100000->m+wcnt k<=1000000->To (fun f=>slf f k act item (n:Int) (m:Int)) (WQ act item k n m,((n+cnt k:Nat):Int),((m+wcnt k:Nat):Int)))->
   To (fun f=>M.iW u act item n0 mark mark1 (slf f) f (n:Int) (m:Int) out (i:Int)) (((n+(xs.map cnt).sum:Nat):Int),((m+(xs.map wcnt).sum:Nat):Int),out++stampK act item xs n m):=by
  intro n0 mark mark1 xs;induction xs with
  | nil=>
   intro slf i out n m hx _ _ _ _;refine To.succ ?_;simp only [M.iW];exact To.neg (aS hx) (To.pure.of (by simp [stampK]))
  | cons x xs ihx=>
   intro slf i out n m hx hl hn hm hs;simp only [List.map_cons,List.sum_cons,List.length_cons] at hn hm hl;have h5:=hs x (by simp) n m (by omega) (by omega);refine To.succ ?_;simp only [M.iW];refine To.pos (aK hx) (To.bindS (aA hx) (To.bind h5.shift (To.bindS (bJ (by simp;omega)) ?_)));rw [bE];refine (ihx (fun f=>slf (f+1)) (i+1) (out++ [WQ act item x n m]) (n+cnt x) (m+wcnt x) (aI hx) (by simp;omega) (by omega) (by omega) fun k hk n m a b=>(hs k (by simp [hk]) n m a b).shift).of ?_;rw [stampK,List.map_cons,List.map_cons,List.sum_cons,List.sum_cons,<-Nat.add_assoc,<-Nat.add_assoc];simp
 have hl1:(markL act item m (txts u.Head)).length=u.Head.length:=by rw [nL];simp [txts]
 have hl2:(markL act item (m+u.Head.length) (txts u.Words)).length=u.Words.length:=by rw [nL];simp [txts]
 refine To.succ ?_;simp only [M.rU];refine To.bindS (mr n (by omega)) ?_;refine To.bind (ML u.Head (by omega)) (To.bind (DZ _ _ _ _ (by simp [txts];omega)) (To.bindS (a:=((m+u.Head.length:Nat):Int)) (by rw [hl1];exact fo m _ (by omega)) ?_));refine To.bind (ML u.Words (by omega)) (To.bind (DZ _ _ _ _ (by simp [txts];omega)) (To.bindS (a:=((m+u.Head.length+u.Words.length:Nat):Int)) (by rw [hl2];exact fo _ _ (by omega)) ?_));have:=loop (n:Int) (markL act item m (txts u.Head)) (markL act item (m+u.Head.length) (txts u.Words)) u.Kids (fun f=>M.rU f) 0 [] (n+1) (m+u.Head.length+u.Words.length) rfl (by simp;omega) (by omega) (by omega) fun k hk n m a b=>ih k hk (((rz u).1 ho).2 k hk) (by have:=jH hk;omega) act item n m a b;refine To.bind this (To.pure.of ?_);have e1:n+(1+(u.Kids.map cnt).sum)=n+1+(u.Kids.map cnt).sum:=by omega
 have e2:m+(u.Head.length+u.Words.length+(u.Kids.map wcnt).sum)=m+u.Head.length+u.Words.length+(u.Kids.map wcnt).sum:=by omega
 rw [pQ,lN u,AO u,e1,e2];rfl
theorem QL{u:aa}(ho:Oks u)(hc:cnt u<=1024)(act item:Int):To (fun f=>M.wF f u act item) (WQ act item u 1 0):=by
 simp only [M.wF];have:=MM u ho;exact To.bind (TV u ho (by omega) act item 1 0 (by omega) (by omega)) To.pure
theorem K5(id:ai)(u:aa):id ∉ ids u->To (fun n=>M.iR n u id) (au,-1):=by
 refine uind (P:=fun u=>id ∉ ids u->To (fun n=>M.iR n u id) (au,-1)) ?_ u;intro u ih h;rw [qH] at h;simp only [List.mem_cons,not_or,List.mem_flatMap,not_exists,not_and] at h;have loop:∀ (xs:List aa) (slf:Nat->aa->ai->Option (aa×Int)) (i:Nat) (v:aa),u.Kids.drop i=xs->(∀ k∈xs,To (fun n=>slf n k id) (au,-1))->To (fun n=>M.gK u id (slf n) n (i:Int) v) (.inl v):=by
  intro xs;induction xs with
  | nil=>intro slf i v hx _;refine To.succ ?_;simp only [M.gK];exact To.neg (aS hx) To.pure
  | cons x xs ihx=>
   intro slf i v hx hs;refine To.succ ?_;simp only [M.gK];refine To.pos (aK hx) (To.bindS (aA hx) (To.bind (hs x (by simp)).shift (To.neg (by simp) ?_)));rw [bE];exact ihx (fun n=>slf (n+1)) (i+1) v (aI hx) fun k hk=>(hs k (by simp [hk])).shift
 refine To.succ ?_;simp only [M.iR];exact To.neg (fun e=>h.1 e.symm) (To.bind (loop u.Kids (fun n=>M.iR n) 0 au rfl fun k hk=>ih k hk (h.2 k hk)) To.pure)
theorem get_at{p u:aa}{d:Nat}{C:aa->aa}(hp:At p d u C)(hn:(ids u).Nodup)(hd:d<=100000):To (fun n=>M.iR n u p.Id) (p,(d:Int)):=by
 induction hp with
 | here=>
  refine To.succ ?_;simp only [M.iR];exact To.pos trivial To.pure
 | @kid d u k C l r e hk ih=>
  obtain ⟨h1,h2,h3,h4⟩:=nK e hn hk.inId;have loop:∀ (xs:List aa) (slf:Nat->aa->ai->Option (aa×Int)) (i:Nat) (v:aa),u.Kids.drop i=xs++k :: r->(∀ k∈xs,To (fun n=>slf n k p.Id) (au,-1))->To (fun n=>slf n k p.Id) (p,(d:Int))->To (fun n=>M.gK u p.Id (slf n) n (i:Int) v) (.inr (p,((d+1:Nat):Int))):=by
   intro xs;induction xs with
   | nil=>
    intro slf i v hx _ hk;refine To.succ ?_;simp only [M.gK];exact To.pos (aK hx) (To.bindS (aA hx) (To.bind hk.shift (To.pos (by simp) (To.bindS (mr d (by omega)) To.pure))))
   | cons x xs ihx=>
    intro slf i v hx hs hk;refine To.succ ?_;simp only [M.gK];refine To.pos (aK hx) (To.bindS (aA hx) (To.bind (hs x (by simp)).shift (To.neg (by simp) ?_)));rw [bE];exact ihx (fun n=>slf (n+1)) (i+1) v (aI hx) (fun k hk=>(hs k (by simp [hk])).shift) hk.shift
  refine To.succ ?_;simp only [M.iR];exact To.neg h1 (To.bind (loop l (fun n=>M.iR n) 0 au e (fun z hz=>K5 _ z (h2 z hz)) (ih h4 (by omega))) To.pure)
theorem Fe(u:aa)(id:ai):∀ (xs:List aa) (i:Nat) (v:aa),u.Kids.drop i=xs->(∀ k∈xs,k.Id≠id)->To (fun n=>M.dU u id n (i:Int) v) (.inl v):=by
 intro xs;induction xs with
 | nil=>intro i v hx _;refine To.succ ?_;simp only [M.dU];exact To.neg (aS hx) To.pure
 | cons x xs ihx=>
  intro i v hx hs;refine To.succ ?_;simp only [M.dU];refine To.pos (aK hx) (To.bindS (aA hx) (To.neg (hs x (by simp)) ?_));rw [bE];exact ihx (i+1) v (aI hx) fun k hk=>hs k (by simp [hk])
theorem V8(id:ai)(u:aa):id ∉ ids u->To (fun n=>M.fT n u id) (au,0,-1):=by
 refine uind (P:=fun u=>id ∉ ids u->To (fun n=>M.fT n u id) (au,0,-1)) ?_ u;intro u ih h;rw [qH] at h;simp only [List.mem_cons,not_or,List.mem_flatMap,not_exists,not_and] at h;have loop:∀ (xs:List aa) (slf:Nat->aa->ai->Option (aa×Int×Int)) (i:Nat) (v:aa),u.Kids.drop i=xs->(∀ k∈xs,To (fun n=>slf n k id) (au,0,-1))->To (fun n=>M.dS u id (slf n) n (i:Int) v) (.inl v):=by
  intro xs;induction xs with
  | nil=>intro slf i v hx _;refine To.succ ?_;simp only [M.dS];exact To.neg (aS hx) To.pure
  | cons x xs ihx=>
   intro slf i v hx hs;refine To.succ ?_;simp only [M.dS];refine To.pos (aK hx) (To.bindS (aA hx) (To.bind (hs x (by simp)).shift (To.neg (by simp) ?_)));rw [bE];exact ihx (fun n=>slf (n+1)) (i+1) v (aI hx) fun k hk=>(hs k (by simp [hk])).shift
 refine To.succ ?_;simp only [M.fT];exact To.bind (Fe u id u.Kids 0 au rfl fun k hk e=>h.2 k hk (e▸nJ k)) (To.bind (loop u.Kids (fun n=>M.fT n) 0 au rfl fun k hk=>ih k hk (h.2 k hk)) To.pure)
theorem At.ne{x u:aa}{d:Nat}{C:aa->aa}(h:At x (d+1) u C)(hn:(ids u).Nodup):u.Id≠x.Id:=by
 cases h with
 | kid e h=>exact (nK e hn h.inId).1
theorem xm{p x u:aa}{d:Nat}{D:aa->aa}{l r:List aa}(hp:At p d u D)(hn:(ids u).Nodup)(e:p.Kids=l++x :: r)(hd:d<=100000):To (fun n=>M.fT n u x.Id) (p,(d:Int),((l.length:Nat):Int)):=by
 induction hp with
 | here=>
  obtain ⟨h1,h2,h3,h4⟩:=nK e hn (nJ x);have loop:∀ (xs:List aa) (i:Nat) (v:aa),p.Kids.drop i=xs++x :: r->(∀ k∈xs,k.Id≠x.Id)->To (fun n=>M.dU p x.Id n (i:Int) v) (.inr (p,0,((i+xs.length:Nat):Int))):=by
   intro xs;induction xs with
   | nil=>
    intro i v hx _;refine To.succ ?_;simp only [M.dU];exact To.pos (aK hx) (To.bindS (aA hx) (To.pos rfl To.pure))
   | cons y xs ihx=>
    intro i v hx hs;refine To.succ ?_;simp only [M.dU];refine To.pos (aK hx) (To.bindS (aA hx) (To.neg (hs y (by simp)) ?_));rw [bE];refine (ihx (i+1) v (aI hx) fun k hk=>hs k (by simp [hk])).of ?_;rw [List.length_cons,show i+1+xs.length=i+(xs.length+1) by omega]
  refine To.succ ?_;simp only [M.fT];exact To.bind (loop l 0 au e fun k hk he=>h2 k hk (he▸nJ k)) (To.pure.of (by simp))
 | @kid d u k C l0 r0 e0 hk ih=>
  have hs:=hk.step e;obtain ⟨h1,h2,h3,h4⟩:=nK e0 hn hs.inId;have hk0:k.Id≠x.Id:=hs.ne h4;have loop:∀ (xs:List aa) (slf:Nat->aa->ai->Option (aa×Int×Int)) (i:Nat) (v:aa),u.Kids.drop i=xs++k :: r0->(∀ k∈xs,To (fun n=>slf n k x.Id) (au,0,-1))->To (fun n=>slf n k x.Id) (p,(d:Int),((l.length:Nat):Int))->To (fun n=>M.dS u x.Id (slf n) n (i:Int) v) (.inr (p,((d+1:Nat):Int),((l.length:Nat):Int))):=by
   intro xs;induction xs with
   | nil=>
    intro slf i v hx _ hk;refine To.succ ?_;simp only [M.dS];exact To.pos (aK hx) (To.bindS (aA hx) (To.bind hk.shift (To.pos (by simp) (To.bindS (mr d (by omega)) To.pure))))
   | cons y xs ihx=>
    intro slf i v hx hs hk;refine To.succ ?_;simp only [M.dS];refine To.pos (aK hx) (To.bindS (aA hx) (To.bind (hs y (by simp)).shift (To.neg (by simp) ?_)));rw [bE];exact ihx (fun n=>slf (n+1)) (i+1) v (aI hx) (fun k hk=>(hs k (by simp [hk])).shift) hk.shift
  refine To.succ ?_;simp only [M.fT];refine To.bind (Fe u x.Id u.Kids 0 au rfl fun z hz he=>?_) (To.bind (loop l0 (fun n=>M.fT n) 0 au e0 (fun z hz=>V8 _ z (h2 z hz)) (ih h4 (by omega))) To.pure);rw [e0] at hz;rcases List.mem_append.1 hz with hz | hz
  ·exact h2 z hz (he▸nJ z)
  rcases List.mem_cons.1 hz with rfl | hz
  ·exact hk0 he
  ·exact h3 z hz (he▸nJ z)
theorem V9(x:aa)(u:aa):cnt u<=10000->To (fun n=>M.kM n u x) (upd x.Id (fun _=>x) u):=by
 refine uind (P:=fun u=>cnt u<=10000->To (fun n=>M.kM n u x) (upd x.Id (fun _=>x) u)) ?_ u;intro u ih hc;have hk:=sw u;have loop:∀ (xs:List aa) (slf:Nat->aa->aa->Option aa) (i:Nat) (out:List aa),u.Kids.drop i=xs->out.length+xs.length<=100000->(∀ k∈xs,To (fun n=>slf n k x) (upd x.Id (fun _=>x) k))->To (fun n=>M.jE u x (slf n) n out (i:Int)) (out++xs.map (upd x.Id (fun _=>x))):=by
  intro xs;induction xs with
  | nil=>intro slf i out hx _ _;refine To.succ ?_;simp only [M.jE];exact To.neg (aS hx) (To.pure.of (by simp))
  | cons y xs ihx=>
   intro slf i out hx hl hs;simp only [List.length_cons] at hl;refine To.succ ?_;simp only [M.jE];refine To.pos (aK hx) (To.bindS (aA hx) (To.bind (hs y (by simp)).shift (To.bindS (bJ (by simp;omega)) ?_)));rw [bE];exact (ihx (fun n=>slf (n+1)) (i+1) _ (aI hx) (by simp;omega) fun k hk=>(hs k (by simp [hk])).shift).of (by simp)
 refine To.succ ?_;simp only [M.kM];rw [F9];by_cases h:u.Id=x.Id
 ·rw [if_pos h];exact To.pos h To.pure
 ·rw [if_neg h];exact To.neg h (To.bind (loop u.Kids (fun n=>M.kM n) 0 [] rfl (by simp;omega) fun k hk=>ih k hk (by have:=jH hk;omega)) (To.pure.of (by simp [WO])))
theorem xn{p u y:aa}{d:Nat}{C:aa->aa}(h:Nice u)(hp:At p d u C)(e:y.Id=p.Id):To (fun n=>M.kM n u y) (C y):=
 (V9 y u h.few).of (by rw [e];exact hp.updE h.nd _)
theorem Xf(l:List aa)(k:Int)(s:Str):To (fun n=>M.sN n l k s) (decide ((k,s)∈l.map keyU)):=by
 have loop:∀ (xs:List aa) (i:Nat),l.drop i=xs->To (fun n=>M.gL l k s n (i:Int)) (if (k,s)∈xs.map keyU then .inr true else .inl ()):=by
  intro xs;induction xs with
  | nil=>intro i hx;refine To.succ ?_;simp only [M.gL];exact To.neg (aS hx) (To.pure.of (by simp))
  | cons x xs ih=>
   intro i hx;have ih:=ih (i+1) (aI hx);refine To.succ ?_;simp only [M.gL];refine To.pos (aK hx) (To.bindS (aA hx) ?_);rw [bE];by_cases h1:x.Kind=k
   ·refine To.pos h1 (To.bindS (aA hx) ?_);by_cases h2:x.Label=s
    ·exact To.pos (by simpa using h2) (To.pure.of (by rw [if_pos];simp [keyU,h1,h2]))
    ·refine To.neg (by simpa using h2) (ih.of ?_);have:(k,s)≠keyU x:=fun e=>h2 (congrArg Prod.snd e).symm;simp [this]
   ·refine To.neg h1 (ih.of ?_);have:(k,s)≠keyU x:=fun e=>h1 (congrArg Prod.fst e).symm;simp [this]
 simp only [M.sN];by_cases h:(k,s)∈l.map keyU
 ·exact To.bind ((loop l 0 rfl).of (if_pos h)) (To.pure.of (by simp only [h,decide_true]))
 ·exact To.bind ((loop l 0 rfl).of (if_neg h)) (To.pure.of (by simp only [h,decide_false]))
theorem XB(u:aa):cnt u<=10000->To (fun n=>M.qo n u) (dp u:Int):=by
 refine uind (P:=fun u=>cnt u<=10000->To (fun n=>M.qo n u) (dp u:Int)) ?_ u;intro u ih hc;have loop:∀ (xs:List aa) (slf:Nat->aa->Option Int) (i m:Nat),u.Kids.drop i=xs->(∀ k∈xs,To (fun n=>slf n k) (dp k:Int)/\dp k<=100000)->To (fun n=>M.iD u (slf n) n (m:Int) (i:Int)) (((xs.map fun k=>1+dp k).foldl max m:Nat):Int):=by
  intro xs;induction xs with
  | nil=>intro slf i m hx _;refine To.succ ?_;simp only [M.iD];exact To.neg (aS hx) To.pure
  | cons x xs ihx=>
   intro slf i m hx hs;obtain ⟨h1,h2⟩:=hs x (by simp);refine To.succ ?_;simp only [M.iD];refine To.pos (aK hx) (To.bindS (aA hx) (To.bind h1.shift (To.bindS (a:=((1+dp x:Nat):Int)) (by rw [gp (by omega) (by omega)];simp) ?_)));rw [bE];have:=fun m=>ihx (fun n=>slf (n+1)) (i+1) m (aI hx) fun k hk=>⟨(hs k (by simp [hk])).1.shift,(hs k (by simp [hk])).2⟩
   by_cases h:(m:Int)< ((1+dp x:Nat):Int)
   ·refine To.pos h ((this (1+dp x)).of ?_);rw [List.map_cons,List.foldl_cons,show max m (1+dp x)=1+dp x by omega]
   ·refine To.neg h ((this m).of ?_);rw [List.map_cons,List.foldl_cons,show max m (1+dp x)=m by omega]
 refine To.succ ?_;simp only [M.qo];rw [yg];exact To.bind (loop u.Kids (fun n=>M.qo n) 0 0 rfl fun k hk=>⟨ih k hk (by have:=jH hk;omega),by have:=jH hk;have:=F5 k;omega⟩) To.pure
theorem QM(a b:List aa):slcHi (a++b) (a.length:Int)=some a:=by
 unfold slcHi;rw [List.length_append,if_pos (by omega),Int.toNat_natCast,List.take_left'];rfl
theorem QN(a b:List aa):slcLo (a++b) (a.length:Int)=some b:=by
 unfold slcLo;rw [List.length_append,if_pos (by omega),Int.toNat_natCast,List.drop_left'];rfl
theorem XC{a b:List aa}(h:a.length+b.length<=200000):appC a b=some (a++b):=bJ (by omega)
theorem rin(a b:List aa)(x:aa)(h:(a++b).length<=100000):M.wV (a++b) (a.length:Int) x=some (a++x :: b):=by
 rw [List.length_append] at h;unfold M.wV;rw [QM,Option.bind_some,XC (by rw [List.length_nil];omega),Option.bind_some,List.nil_append,XC (by rw [List.length_singleton];omega),Option.bind_some,QN,Option.bind_some,XC (by rw [List.length_append,List.length_singleton];omega),Option.bind_some,List.append_assoc,List.singleton_append]
theorem XN(a b:List aa)(x:aa)(h:(a++b).length<=100000):M.su (a++x :: b) (a.length:Int)=some (a++b):=by
 rw [List.length_append] at h;have h2:slcLo (a++x :: b) ((a.length+1:Nat):Int)=some b:=by
  have:=QN (a++ [x]) b;rwa [List.append_assoc,List.singleton_append,List.length_append,List.length_singleton] at this
 unfold M.su;rw [QM,Option.bind_some,XC (by rw [List.length_nil];omega),Option.bind_some,List.nil_append,mr _ (by omega),Option.bind_some,h2,Option.bind_some,XC (by omega),Option.bind_some]
theorem rat(l:List aa)(x:aa)(r:List aa)(h:∀ k∈l,k.Id≠x.Id):To (fun n=>M.zw n (l++x :: r) x.Id) (l.length:Int):=by
 have loop:∀ (xs pre:List aa),l=pre++xs->To (fun n=>M.kQ (l++x :: r) x.Id n (pre.length:Int)) (.inr (l.length:Int)):=by
  intro xs;induction xs with
  | nil=>
   intro pre e;rw [List.append_nil] at e;subst e;refine To.succ ?_;simp only [M.kQ];exact To.pos (by rw [List.length_append,List.length_cons];omega) (To.bindS Xv (To.pos rfl To.pure))
  | cons y xs ih=>
   intro pre e;refine To.succ ?_;simp only [M.kQ];have hi:idx (l++x :: r) (pre.length:Int)=some y:=by rw [e,List.append_assoc];exact Xv
   have hl:pre.length<(l++x :: r).length:=by rw [e];simp
   refine To.pos (by omega) (To.bindS hi (To.neg (h y (by rw [e];simp)) ?_));have:=ih (pre++ [y]) (by rw [e];simp);simp only [List.length_append,List.length_singleton,Int.natCast_add] at this;exact this
 simp only [M.zw];exact To.bind (loop l [] rfl) To.pure
theorem Xw(a:List af):To (fun n=>M.uO n a a) true:=by
 have loop:∀ (xs:List af) (i:Nat),a.drop i=xs->To (fun n=>M.iZ a a n (i:Int)) (.inl ()):=by
  intro xs;induction xs with
  | nil=>intro i hx;refine To.succ ?_;simp only [M.iZ];exact To.neg (aS hx) To.pure
  | cons x xs ih=>
   intro i hx;refine To.succ ?_;simp only [M.iZ];refine To.pos (aK hx) (To.bindS (aA hx) (To.bindS (aA hx) (To.neg (by simp) ?_)));rw [bE];exact ih (i+1) (aI hx)
 simp only [M.uO];exact To.neg (by simp) (To.bind (loop a 0 rfl) To.pure)
theorem rsame(u:aa):To (fun n=>M.qU n u u) true:=by
 refine uind (P:=fun u=>To (fun n=>M.qU n u u) true) ?_ u;intro u ih;have loop:∀ (xs:List aa) (slf:Nat->aa->aa->Option Bool) (i:Nat),u.Kids.drop i=xs->(∀ k∈xs,To (fun n=>slf n k k) true)->To (fun n=>M.jF u u (slf n) n (i:Int)) (.inl ()):=by
  intro xs;induction xs with
  | nil=>intro slf i hx _;refine To.succ ?_;simp only [M.jF];exact To.neg (aS hx) To.pure
  | cons x xs ihx=>
   intro slf i hx hs;refine To.succ ?_;simp only [M.jF];refine To.pos (aK hx) (To.bindS (aA hx) (To.bindS (aA hx) (To.bind (hs x (by simp)).shift (To.neg (by simp) ?_))));rw [bE];exact ihx (fun n=>slf (n+1)) (i+1) (aI hx) fun k hk=>(hs k (by simp [hk])).shift
 refine To.succ ?_;simp only [M.qU];refine To.bind (a:=false) (To.neg (by simp) (To.neg (by simp) (To.neg (by simp) (To.bind (Xw _) (To.neg (by simp) (To.bind (Xw _) (To.neg (by simp) (To.pure.of (by simp))))))))) (To.neg (by simp) (To.bind (loop u.Kids (fun n=>M.qU n) 0 rfl fun k hk=>ih k hk) To.pure))
theorem Wd(s:Str):To (fun n=>M.xC n s) (wordB s):=by
 have loop:∀ (xs:Str) (i:Nat),s.drop i=xs->To (fun n=>M.jq s n (i:Int)) (if xs.all chB=true then .inl () else .inr false):=by
  intro xs;induction xs with
  | nil=>
   intro i hx;refine To.succ ?_;simp only [M.jq];exact To.neg (aS hx) To.pure
  | cons x xs ih=>
   intro i hx;refine To.succ ?_;simp only [M.jq];refine To.pos (aK hx) (To.bindS (aA hx) ?_);by_cases h1:(x.toNat:Int)< 33
   ·refine To.pos h1 (To.pure.of ?_);have:chB x=false:=by simp [chB];omega
    simp [this]
   ·refine To.neg h1 (To.bindS (aA hx) ?_);by_cases h2:(126:Int)< (x.toNat:Int)
    ·refine To.pos h2 (To.pure.of ?_);have:chB x=false:=by simp [chB];omega
     simp [this]
    ·refine To.neg h2 ?_;rw [bA];have:chB x=true:=by simp [chB];omega
     exact (ih (i+1) (aI hx)).of (by simp [this])
 simp only [M.xC];by_cases h1:(s.length:Int)< 1
 ·refine To.bind (a:=true) (To.pos h1 To.pure) (To.pos rfl (To.pure.of ?_));have:¬ 1<=s.length:=by omega
  simp [wordB,this]
 ·by_cases h2:(24:Int)< (s.length:Int)
  ·refine To.bind (a:=true) (To.neg h1 (To.pure.of (by simp [h2]))) (To.pos rfl (To.pure.of ?_));have:¬ s.length<=24:=by omega
   simp [wordB,this]
  ·refine To.bind (a:=false) (To.neg h1 (To.pure.of (by simp [h2]))) (To.neg (by simp) (To.bind (loop s 0 rfl) ?_));have k1:1<=s.length:=by omega
   have k2:s.length<=24:=by omega
   by_cases ha:s.all chB=true
   ·rw [if_pos ha];refine To.pure.of ?_;simp only [wordB,k1,k2,ha,decide_true,Bool.and_self]
   ·rw [if_neg ha];have ha':s.all chB=false:=by simpa using ha
    refine To.pure.of ?_;simp only [wordB,ha',Bool.and_false]
theorem Vo(l:List Str):To (fun n=>M.yB n l) (seqB l):=by
 have loop:∀ (xs:List Str) (i:Nat),l.drop i=xs->To (fun n=>M.jW l n (i:Int)) (if xs.all wordB=true then .inl () else .inr false):=by
  intro xs;induction xs with
  | nil=>
   intro i hx;refine To.succ ?_;simp only [M.jW];exact To.neg (aS hx) To.pure
  | cons x xs ih=>
   intro i hx;refine To.succ ?_;simp only [M.jW];refine To.pos (aK hx) (To.bindS (aA hx) (To.bind (Wd x) ?_));by_cases hw:wordB x=true
   ·refine To.neg (by simp [hw]) ?_;rw [bA];exact (ih (i+1) (aI hx)).of (by simp [hw])
   ·exact To.pos (by simpa using hw) (To.pure.of (by simp [hw]))
 simp only [M.yB];by_cases h:(256:Int)< (l.length:Int)
 ·refine To.pos h (To.pure.of ?_);have:¬ l.length<=256:=by omega
  simp [seqB,this]
 ·refine To.neg h (To.bind (loop l 0 rfl) ?_);have k:l.length<=256:=by omega
  by_cases ha:l.all wordB=true
  ·rw [if_pos ha];refine To.pure.of ?_;simp only [seqB,k,ha,decide_true,Bool.and_self]
  ·rw [if_neg ha];have ha':l.all wordB=false:=by simpa using ha
   refine To.pure.of ?_;simp only [seqB,ha',Bool.and_false]
theorem TW(x:ah):∀ (xs:List Str) (i:Nat),x.Old.drop i=xs->To (fun n=>M.gG x n (i:Int)) (.inr false)\/(To (fun n=>M.gG x n (i:Int)) (.inl ())/\ ∀ y,y∈xs->y.length<=100):=by
 intro xs;induction xs with
 | nil=>intro i hx;refine .inr ⟨To.succ ?_,fun y h=>by cases h⟩;simp only [M.gG];exact To.neg (aS hx) To.pure
 | cons y xs ih=>
  intro i hx;by_cases h:100<y.length
  ·refine .inl (To.succ ?_);simp only [M.gG];exact To.pos (aK hx) (To.bindS (aA hx) (To.pos (by omega) To.pure))
  ·rcases ih (i+1) (aI hx) with h1 | ⟨h1,h2⟩
   ·refine .inl (To.succ ?_);simp only [M.gG];rw [bA];exact To.pos (aK hx) (To.bindS (aA hx) (To.neg (by omega) h1))
   ·refine .inr ⟨To.succ ?_,fun z hz=>?_⟩
    ·simp only [M.gG];rw [bA];exact To.pos (aK hx) (To.bindS (aA hx) (To.neg (by omega) h1))
    ·rcases List.mem_cons.1 hz with rfl | hz
     ·omega
     ·exact h2 z hz
theorem TY(x:ah):∀ (xs:List Str) (i:Nat),x.New.drop i=xs->To (fun n=>M.gF x n (i:Int)) (.inr false)\/(To (fun n=>M.gF x n (i:Int)) (.inl ())/\ ∀ y,y∈xs->y.length<=100):=by
 intro xs;induction xs with
 | nil=>intro i hx;refine .inr ⟨To.succ ?_,fun y h=>by cases h⟩;simp only [M.gF];exact To.neg (aS hx) To.pure
 | cons y xs ih=>
  intro i hx;by_cases h:100<y.length
  ·refine .inl (To.succ ?_);simp only [M.gF];exact To.pos (aK hx) (To.bindS (aA hx) (To.pos (by omega) To.pure))
  ·rcases ih (i+1) (aI hx) with h1 | ⟨h1,h2⟩
   ·refine .inl (To.succ ?_);simp only [M.gF];rw [bA];exact To.pos (aK hx) (To.bindS (aA hx) (To.neg (by omega) h1))
   ·refine .inr ⟨To.succ ?_,fun z hz=>?_⟩
    ·simp only [M.gF];rw [bA];exact To.pos (aK hx) (To.bindS (aA hx) (To.neg (by omega) h1))
    ·rcases List.mem_cons.1 hz with rfl | hz
     ·omega
     ·exact h2 z hz
theorem TZ(x:ah):∀ (xs:List ax) (i:Nat),x.At.drop i=xs->To (fun n=>M.gD x n (i:Int)) (.inr false)\/(To (fun n=>M.gD x n (i:Int)) (.inl ())/\ ∀ y,y∈xs->y.Label.length<=100):=by
 intro xs;induction xs with
 | nil=>intro i hx;refine .inr ⟨To.succ ?_,fun y h=>by cases h⟩;simp only [M.gD];exact To.neg (aS hx) To.pure
 | cons y xs ih=>
  intro i hx;by_cases h:100<y.Label.length
  ·refine .inl (To.succ ?_);simp only [M.gD];exact To.pos (aK hx) (To.bindS (aA hx) (To.pos (by omega) To.pure))
  ·rcases ih (i+1) (aI hx) with h1 | ⟨h1,h2⟩
   ·refine .inl (To.succ ?_);simp only [M.gD];rw [bA];exact To.pos (aK hx) (To.bindS (aA hx) (To.neg (by omega) h1))
   ·refine .inr ⟨To.succ ?_,fun z hz=>?_⟩
    ·simp only [M.gD];rw [bA];exact To.pos (aK hx) (To.bindS (aA hx) (To.neg (by omega) h1))
    ·rcases List.mem_cons.1 hz with rfl | hz
     ·omega
     ·exact h2 z hz
theorem T9(x:ah):∀ (xs:List ax) (i:Nat),x.To.drop i=xs->To (fun n=>M.gB x n (i:Int)) (.inr false)\/(To (fun n=>M.gB x n (i:Int)) (.inl ())/\ ∀ y,y∈xs->y.Label.length<=100):=by
 intro xs;induction xs with
 | nil=>intro i hx;refine .inr ⟨To.succ ?_,fun y h=>by cases h⟩;simp only [M.gB];exact To.neg (aS hx) To.pure
 | cons y xs ih=>
  intro i hx;by_cases h:100<y.Label.length
  ·refine .inl (To.succ ?_);simp only [M.gB];exact To.pos (aK hx) (To.bindS (aA hx) (To.pos (by omega) To.pure))
  ·rcases ih (i+1) (aI hx) with h1 | ⟨h1,h2⟩
   ·refine .inl (To.succ ?_);simp only [M.gB];rw [bA];exact To.pos (aK hx) (To.bindS (aA hx) (To.neg (by omega) h1))
   ·refine .inr ⟨To.succ ?_,fun z hz=>?_⟩
    ·simp only [M.gB];rw [bA];exact To.pos (aK hx) (To.bindS (aA hx) (To.neg (by omega) h1))
    ·rcases List.mem_cons.1 hz with rfl | hz
     ·omega
     ·exact h2 z hz
def Chk(f:Nat->Option Bool)(P:Prop):Prop:=∃ b,To f b/\(b=true->P)
def Nchk(f:Nat->Option Bool)(P:Prop):Prop:=∃ b,To f b/\(b=false->P)
theorem Chk.of{f:Nat->Option Bool}{b:Bool}(h:To f b):Chk f (b=true):=⟨b,h,id⟩
theorem Chk.imp{f:Nat->Option Bool}{P Q:Prop}(h:Chk f P)(k:P->Q):Chk f Q:=let ⟨b,h1,h2⟩:=h;⟨b,h1,fun e=>k (h2 e)⟩
theorem Chk.last{f:Nat->Option Bool}{P:Prop}(h:Chk f P):Chk (fun n=>Option.bind (f n) fun b=>some b) P:=let ⟨b,h1,h2⟩:=h;⟨b,To.bind h1 To.pure,h2⟩
theorem Chk.ff{P:Prop}:Chk (fun _=>some false) P:=⟨false,To.pure,fun e=>by cases e⟩
theorem Chk.ite{p:Prop}[Decidable p]{f g:Nat->Option Bool}{P:Prop}(h:p->Chk f P)(k:¬ p->Chk g P):Chk (fun n=>if p then f n else g n) P:=by
 by_cases hp:p
 ·obtain ⟨b,h1,h2⟩:=h hp;exact ⟨b,To.pos hp h1,h2⟩
 ·obtain ⟨b,h1,h2⟩:=k hp;exact ⟨b,To.neg hp h1,h2⟩
theorem Chk.and1{f g:Nat->Option Bool}{P Q:Prop}(h:Chk f P)(k:P->Chk g Q):Chk (fun n=>Option.bind (f n) fun b=>if b=true then g n else some false) Q:=by
 obtain ⟨b,h1,h2⟩:=h;cases b with
 | true=>obtain ⟨c,h3,h4⟩:=k (h2 rfl);exact ⟨c,To.bind h1 (To.pos rfl h3),h4⟩
 | false=>exact ⟨false,To.bind h1 (To.neg (by simp) To.pure),fun e=>by cases e⟩
theorem Nchk.last{f:Nat->Option Bool}{P:Prop}(h:Chk f P):Nchk (fun n=>Option.bind (f n) fun b=>some (!b)) P:=by
 obtain ⟨b,h1,h2⟩:=h;exact ⟨!b,To.bind h1 To.pure,fun e=>h2 (by cases b<;> simp_all)⟩
theorem Nchk.or{p:Prop}[Decidable p]{g:Nat->Option Bool}{P:Prop}(k:¬ p->Nchk g P):Nchk (fun n=>if p then some true else g n) P:=by
 by_cases hp:p
 ·exact ⟨true,To.pos hp To.pure,fun e=>by cases e⟩
 ·obtain ⟨b,h1,h2⟩:=k hp;exact ⟨b,To.neg hp h1,h2⟩
theorem Nchk.ite{p:Prop}[Decidable p]{f g:Nat->Option Bool}{P:Prop}(h:p->Nchk f P)(k:¬ p->Nchk g P):Nchk (fun n=>if p then f n else g n) P:=by
 by_cases hp:p
 ·obtain ⟨b,h1,h2⟩:=h hp;exact ⟨b,To.pos hp h1,h2⟩
 ·obtain ⟨b,h1,h2⟩:=k hp;exact ⟨b,To.neg hp h1,h2⟩
theorem Nchk.or0{f g:Nat->Option Bool}{P Q:Prop}(h:Chk f P)(k:P->Nchk g Q):Nchk (fun n=>Option.bind (f n) fun b=>if b=false then some true else g n) Q:=by
 obtain ⟨b,h1,h2⟩:=h;cases b with
 | true=>obtain ⟨c,h3,h4⟩:=k (h2 rfl);exact ⟨c,To.bind h1 (To.neg (by simp) h3),h4⟩
 | false=>exact ⟨true,To.bind h1 (To.pos rfl To.pure),fun e=>by cases e⟩
theorem Nchk.bindS{α:Type}{o:Option α}{g:Nat->α->Option Bool}{a:α}{P:Prop}(h:o=some a)(k:Nchk (fun n=>g n a) P):Nchk (fun n=>Option.bind o (g n)) P:=let ⟨b,h1,h2⟩:=k;⟨b,To.bindS h h1,h2⟩
theorem Ff(a b:List ax):Chk (fun n=>M.wy n a b) (a=b):=by
 have loop:∀ (xs ys:List ax) (i:Nat),a.drop i=xs->b.drop i=ys->xs.length=ys.length->∃ r,To (fun n=>M.iq a b n (i:Int)) r/\(r= .inr false\/(r= .inl ()/\xs=ys)):=by
  intro xs;induction xs with
  | nil=>
   intro ys i hx hy hl;refine ⟨.inl (),To.succ ?_,.inr ⟨rfl,?_⟩⟩
   ·simp only [M.iq];exact To.neg (aS hx) To.pure
   ·cases ys with
    | nil=>rfl
    | cons y ys=>simp at hl
  | cons x xs ih=>
   intro ys i hx hy hl;cases ys with
   | nil=>simp at hl
   | cons y ys=>
    by_cases e:x=y
    ·obtain ⟨r,h1,h2⟩:=ih ys (i+1) (aI hx) (aI hy) (by simpa using hl);refine ⟨r,To.succ ?_,h2.imp id fun h=>⟨h.1,by rw [e,h.2]⟩⟩;simp only [M.iq];refine To.pos (aK hx) (To.bindS (aA hx) (To.bindS (aA hy) (To.neg (by simpa using e) ?_)));rw [bE];exact h1
    ·refine ⟨.inr false,To.succ ?_,.inl rfl⟩;simp only [M.iq];exact To.pos (aK hx) (To.bindS (aA hx) (To.bindS (aA hy) (To.pos e To.pure)))
 simp only [M.wy];by_cases h:a.length=b.length
 ·obtain ⟨r,h1,h2⟩:=loop a b 0 rfl rfl h;rcases h2 with rfl | ⟨rfl,e⟩
  ·exact ⟨false,To.neg (by omega) (To.bind h1 To.pure),fun e=>by cases e⟩
  ·exact ⟨true,To.neg (by omega) (To.bind h1 To.pure),fun _=>e⟩
 ·exact ⟨false,To.pos (by omega) To.pure,fun e=>by cases e⟩
theorem Fg(a b:List af):Chk (fun n=>M.tH n a b) (a=b):=by
 have loop:∀ (xs ys:List af) (i:Nat),a.drop i=xs->b.drop i=ys->xs.length=ys.length->∃ r,To (fun n=>M.iA a b n (i:Int)) r/\(r= .inr false\/(r= .inl ()/\xs=ys)):=by
  intro xs;induction xs with
  | nil=>
   intro ys i hx hy hl;refine ⟨.inl (),To.succ ?_,.inr ⟨rfl,?_⟩⟩
   ·simp only [M.iA];exact To.neg (aS hx) To.pure
   ·cases ys with
    | nil=>rfl
    | cons y ys=>simp at hl
  | cons x xs ih=>
   intro ys i hx hy hl;cases ys with
   | nil=>simp at hl
   | cons y ys=>
    by_cases e:x=y
    ·obtain ⟨r,h1,h2⟩:=ih ys (i+1) (aI hx) (aI hy) (by simpa using hl);refine ⟨r,To.succ ?_,h2.imp id fun h=>⟨h.1,by rw [e,h.2]⟩⟩;simp only [M.iA];refine To.pos (aK hx) (To.bindS (aA hx) (To.bindS (aA hy) (To.neg (by simpa using e) ?_)));rw [bE];exact h1
    ·refine ⟨.inr false,To.succ ?_,.inl rfl⟩;simp only [M.iA];exact To.pos (aK hx) (To.bindS (aA hx) (To.bindS (aA hy) (To.pos e To.pure)))
 simp only [M.tH];by_cases h:a.length=b.length
 ·obtain ⟨r,h1,h2⟩:=loop a b 0 rfl rfl h;rcases h2 with rfl | ⟨rfl,e⟩
  ·exact ⟨false,To.neg (by omega) (To.bind h1 To.pure),fun e=>by cases e⟩
  ·exact ⟨true,To.neg (by omega) (To.bind h1 To.pure),fun _=>e⟩
 ·exact ⟨false,To.pos (by omega) To.pure,fun e=>by cases e⟩
theorem Jh(a b:List Str):Chk (fun n=>M.wz n a b) (a=b):=by
 have loop:∀ (xs ys:List Str) (i:Nat),a.drop i=xs->b.drop i=ys->xs.length=ys.length->∃ r,To (fun n=>M.iw a b n (i:Int)) r/\(r= .inr false\/(r= .inl ()/\xs=ys)):=by
  intro xs;induction xs with
  | nil=>
   intro ys i hx hy hl;refine ⟨.inl (),To.succ ?_,.inr ⟨rfl,?_⟩⟩
   ·simp only [M.iw];exact To.neg (aS hx) To.pure
   ·cases ys with
    | nil=>rfl
    | cons y ys=>simp at hl
  | cons x xs ih=>
   intro ys i hx hy hl;cases ys with
   | nil=>simp at hl
   | cons y ys=>
    by_cases e:x=y
    ·obtain ⟨r,h1,h2⟩:=ih ys (i+1) (aI hx) (aI hy) (by simpa using hl);refine ⟨r,To.succ ?_,h2.imp id fun h=>⟨h.1,by rw [e,h.2]⟩⟩;simp only [M.iw];refine To.pos (aK hx) (To.bindS (aA hx) (To.bindS (aA hy) (To.neg (by simpa using e) ?_)));rw [bE];exact h1
    ·refine ⟨.inr false,To.succ ?_,.inl rfl⟩;simp only [M.iw];exact To.pos (aK hx) (To.bindS (aA hx) (To.bindS (aA hy) (To.pos (by simpa using e) To.pure)))
 simp only [M.wz];by_cases h:a.length=b.length
 ·obtain ⟨r,h1,h2⟩:=loop a b 0 rfl rfl h;rcases h2 with rfl | ⟨rfl,e⟩
  ·exact ⟨false,To.neg (by omega) (To.bind h1 To.pure),fun e=>by cases e⟩
  ·exact ⟨true,To.neg (by omega) (To.bind h1 To.pure),fun _=>e⟩
 ·exact ⟨false,To.pos (by omega) To.pure,fun e=>by cases e⟩
theorem QO{a b:aa}(h1:a.Id=b.Id)(h2:a.Kind=b.Kind)(h3:a.Label=b.Label)(h4:a.Head=b.Head)(h5:a.Words=b.Words)(h6:a.Kids=b.Kids):a=b:=by
 cases a;cases b;simp_all
theorem Fj(a:aa):∀ b,Chk (fun n=>M.qa n a b) (a=b):=by
 refine uind (P:=fun a=>∀ b,Chk (fun n=>M.qa n a b) (a=b)) ?_ a;intro a ih b;have loop:∀ (xs ys:List aa) (slf:Nat->aa->aa->Option Bool) (i:Nat),a.Kids.drop i=xs->b.Kids.drop i=ys->xs.length=ys.length->(∀ x∈xs,∀ y,Chk (fun n=>slf n x y) (x=y))->∃ r,To (fun n=>M.iB a b (slf n) n (i:Int)) r/\(r= .inr false\/(r= .inl ()/\xs=ys)):=by
  intro xs;induction xs with
  | nil=>
   intro ys slf i hx hy hl _;refine ⟨.inl (),To.succ ?_,.inr ⟨rfl,?_⟩⟩
   ·simp only [M.iB];exact To.neg (aS hx) To.pure
   ·cases ys with
    | nil=>rfl
    | cons y ys=>simp at hl
  | cons x xs ihx=>
   intro ys slf i hx hy hl hs;cases ys with
   | nil=>simp at hl
   | cons y ys=>
    obtain ⟨c,hc1,hc2⟩:=hs x (by simp) y;cases c with
    | true=>
     obtain ⟨r,h1,h2⟩:=ihx ys (fun n=>slf (n+1)) (i+1) (aI hx) (aI hy) (by simpa using hl) fun x hx y=>let ⟨c,h1,h2⟩:=hs x (by simp [hx]) y;⟨c,h1.shift,h2⟩;refine ⟨r,To.succ ?_,h2.imp id fun h=>⟨h.1,by rw [hc2 rfl,h.2]⟩⟩;simp only [M.iB];refine To.pos (aK hx) (To.bindS (aA hx) (To.bindS (aA hy) (To.bind hc1.shift (To.neg (by simp) ?_))));rw [bE];exact h1
    | false=>
     refine ⟨.inr false,To.succ ?_,.inl rfl⟩;simp only [M.iB];exact To.pos (aK hx) (To.bindS (aA hx) (To.bindS (aA hy) (To.bind hc1.shift (To.pos rfl To.pure))))
 have hc:Nchk (fun n=>if a.Id≠b.Id then some true else if a.Kind≠b.Kind then some true else if (a.Label !=b.Label)=true then some true else
   Option.bind (M.tH n a.Head b.Head) fun rows=>if rows=false then some true else Option.bind (M.tH n a.Words b.Words) fun rows1=>if rows1=false then some true else some (decide ((a.Kids.length:Int)≠(b.Kids.length:Int))))
   (a.Id=b.Id/\a.Kind=b.Kind/\a.Label=b.Label/\a.Head=b.Head/\a.Words=b.Words/\a.Kids.length=b.Kids.length):=by
  refine Nchk.or fun h1=>Nchk.or fun h2=>Nchk.or fun h3=>Nchk.or0 (Fg _ _) fun h4=>Nchk.or0 (Fg _ _) fun h5=>?_;exact ⟨_,To.pure,fun h=>⟨by simpa using h1,by simpa using h2,by simpa using h3,h4,h5,Int.ofNat.inj (by simpa using h)⟩⟩
 obtain ⟨v,hv1,hv2⟩:=hc;cases v with
 | true=>exact ⟨false,To.succ (by simp only [M.qa];exact To.bind hv1 (To.pos rfl To.pure)),fun e=>by cases e⟩
 | false=>
  obtain ⟨e1,e2,e3,e4,e5,e6⟩:=hv2 rfl;obtain ⟨r,h1,h2⟩:=loop a.Kids b.Kids (fun n=>M.qa n) 0 rfl rfl e6 fun x hx y=>ih x hx y;rcases h2 with rfl | ⟨rfl,e⟩
  ·exact ⟨false,To.succ (by simp only [M.qa];exact To.bind hv1 (To.neg (by simp) (To.bind h1 To.pure))),fun e=>by cases e⟩
  ·exact ⟨true,To.succ (by simp only [M.qa];exact To.bind hv1 (To.neg (by simp) (To.bind h1 To.pure))),fun _=>QO e1 e2 e3 e4 e5 e⟩
theorem Ji(a:List ax):To (fun n=>M.dG n a a) true:=by
 have loop:∀ (xs:List ax) (i:Nat),a.drop i=xs->To (fun n=>M.bi a a n (i:Int)) (.inl ()):=by
  intro xs;induction xs with
  | nil=>intro i hx;refine To.succ ?_;simp only [M.bi];exact To.neg (aS hx) To.pure
  | cons x xs ih=>
   intro i hx;refine To.succ ?_;simp only [M.bi];refine To.pos (aK hx) (To.bindS (aA hx) (To.bindS (aA hx) (To.neg (by simp) ?_)));rw [bE];exact ih (i+1) (aI hx)
 simp only [M.dG];exact To.neg (by simp) (To.bind (loop a 0 rfl) To.pure)
theorem Jj(a:List af):To (fun n=>M.dH n a a) true:=by
 have loop:∀ (xs:List af) (i:Nat),a.drop i=xs->To (fun n=>M.bn a a n (i:Int)) (.inl ()):=by
  intro xs;induction xs with
  | nil=>intro i hx;refine To.succ ?_;simp only [M.bn];exact To.neg (aS hx) To.pure
  | cons x xs ih=>
   intro i hx;refine To.succ ?_;simp only [M.bn];refine To.pos (aK hx) (To.bindS (aA hx) (To.bindS (aA hx) (To.neg (by simp) ?_)));rw [bE];exact ih (i+1) (aI hx)
 simp only [M.dH];exact To.neg (by simp) (To.bind (loop a 0 rfl) To.pure)
theorem Ua(u:aa):To (fun n=>M.qm n u u) true:=by
 refine uind (P:=fun u=>To (fun n=>M.qm n u u) true) ?_ u;intro u ih;have loop:∀ (xs:List aa) (slf:Nat->aa->aa->Option Bool) (i:Nat),u.Kids.drop i=xs->(∀ k∈xs,To (fun n=>slf n k k) true)->To (fun n=>M.aJ u.Kids (slf n) xs (i:Int)) (.inl ()):=by
  intro xs;induction xs with
  | nil=>intro slf i hx _;simp only [M.aJ];exact To.pure
  | cons x xs ihx=>
   intro slf i hx hs;simp only [M.aJ];refine To.bindS (aA hx) (To.bind (hs x (by simp)) (To.neg (by simp) ?_));rw [bE];exact ihx slf (i+1) (aI hx) fun k hk=>hs k (by simp [hk])
 refine To.succ ?_;simp only [M.qm,M.bP];exact To.pos trivial (To.pos trivial (To.pos (by simp) (To.bind (Jj _) (To.pos rfl (To.bind (Jj _) (To.pos rfl (To.bind (To.neg (by simp) (To.bind (loop u.Kids (fun n s0 s1=>M.qm n s0 s1) 0 rfl fun k hk=>ih k hk) To.pure)) To.pure)))))))
theorem Ub(x:ah)(h:x.By= []):To (fun n=>M.qE n x x) true:=by
 refine To.succ ?_;simp only [M.qE,M.bQ];rw [h];simp only [M.aQ];refine To.bind (a:=true) (To.pos trivial (To.pos trivial (To.pos trivial (To.pos trivial (To.pos trivial (To.pure.of (by simp))))))) (To.bind (a:=true) (To.pos (by simp) (To.pos (by simp) (To.pos (by simp) (To.pure.of (by simp))))) (To.bind (a:=true) (To.bind (Ji _) (To.pos rfl (To.bind (Ji _) (To.pos rfl (To.bind ((eqS _ _).of (by simp)) (To.pos rfl (To.bind ((eqS _ _).of (by simp)) To.pure))))))) ?_));exact To.pos rfl (To.pos rfl (To.pos rfl (To.bind (Ua _) (To.pos rfl (To.bind (To.neg (by simp) To.pure) To.pure)))))
theorem Chk.succ{f:Nat->Option Bool}{P:Prop}(h:Chk (fun n=>f (n+1)) P):Chk f P:=let ⟨b,h1,h2⟩:=h;⟨b,To.succ h1,h2⟩
theorem Chk.and0{f g:Nat->Option Bool}{P Q:Prop}(h:Chk f P)(k:P->Chk g Q):Chk (fun n=>Option.bind (f n) fun b=>if b=false then some false else g n) Q:=by
 obtain ⟨b,h1,h2⟩:=h;cases b with
 | true=>obtain ⟨c,h3,h4⟩:=k (h2 rfl);exact ⟨c,To.bind h1 (To.neg (by simp) h3),h4⟩
 | false=>exact ⟨false,To.bind h1 (To.pos rfl To.pure),fun e=>by cases e⟩
theorem Chk.wrong{c g:Nat->Option Bool}{P Q:Prop}(h:Nchk c P)(k:P->Chk g Q):Chk (fun n=>Option.bind (c n) fun v=>if v=true then some false else g n) Q:=by
 obtain ⟨b,h1,h2⟩:=h;cases b with
 | true=>exact ⟨false,To.bind h1 (To.pos rfl To.pure),fun e=>by cases e⟩
 | false=>obtain ⟨c,h3,h4⟩:=k (h2 rfl);exact ⟨c,To.bind h1 (To.neg (by simp) h3),h4⟩
theorem Chk.bindS{α:Type}{o:Option α}{g:Nat->α->Option Bool}{a:α}{P:Prop}(h:o=some a)(k:Chk (fun n=>g n a) P):Chk (fun n=>Option.bind o (g n)) P:=let ⟨b,h1,h2⟩:=k;⟨b,To.bindS h h1,h2⟩
theorem Chk.bind{α:Type}{f:Nat->Option α}{g:Nat->α->Option Bool}{a:α}{P:Prop}(h:To f a)(k:Chk (fun n=>g n a) P):Chk (fun n=>Option.bind (f n) (g n)) P:=let ⟨b,h1,h2⟩:=k;⟨b,To.bind h h1,h2⟩
theorem Chk.pure{b:Bool}{P:Prop}(h:b=true->P):Chk (fun _=>some b) P:=⟨b,To.pure,h⟩
theorem Nchk.pure{b:Bool}{P:Prop}(h:b=false->P):Nchk (fun _=>some b) P:=⟨b,To.pure,h⟩
theorem XD(l:List af)(hl:l.length<=1000):To (fun n=>M.wo n l) (txts l):=by
 have loop:∀ (xs:List af) (i:Nat) (out:List Str),l.drop i=xs->out.length+xs.length<=1000->To (fun n=>M.iG l n out (i:Int)) (out++txts xs):=by
  intro xs;induction xs with
  | nil=>intro i out hx _;refine To.succ ?_;simp only [M.iG];exact To.neg (aS hx) (To.pure.of (by simp [txts]))
  | cons x xs ih=>
   intro i out hx ho;simp only [List.length_cons] at ho;refine To.succ ?_;simp only [M.iG];refine To.pos (aK hx) (To.bindS (aA hx) (To.bindS (bJ (by simp;omega)) ?_));rw [bE];exact (ih (i+1) _ (aI hx) (by simp;omega)).of (by simp [txts])
 simp only [M.wo];exact To.bind (loop l 0 [] rfl (by simp;omega)) (To.pure.of (by simp))
theorem row6(l:List af):Chk (fun n=>M.yC n l) (rowB l=true):=by
 simp only [M.yC];exact Chk.ite (fun h=>Chk.bind (XD l (by omega)) (Chk.last (Chk.of (Vo _)))) fun _=>Chk.ff
theorem Gm(p k:Int):M.ww p k=some (nestB p k):=by
 rw [<-uj];simp only [M.ww,M.rP];by_cases h0:p=0
 ·rw [if_pos h0,if_pos h0]
 rw [if_neg h0,if_neg h0];by_cases h1:p=1
 ·rw [if_pos h1,if_pos h1]
 rw [if_neg h1,if_neg h1];by_cases h2:p=2
 ·simp [h2]
 by_cases h3:p=3
 ·simp [h3]
 ·simp [h2,h3]
theorem XE(u:aa)(hl:u.Label.length<=1000000000):Chk (fun n=>M.wu n u) (aloB u=true/\u.Kids.length<=64):=by
 simp only [M.wu];refine Chk.wrong (P:=0<=u.Kind/\u.Kind<=7/\u.Kids.length<=64/\rowB u.Head=true/\rowB u.Words=true) (Nchk.or fun h1=>Nchk.or fun h2=>Nchk.or fun h3=>Nchk.or0 (row6 _) fun h4=>(Nchk.last (Chk.imp (row6 _) fun h5=>⟨by omega,by omega,by omega,h4,h5⟩))) ?_;rintro ⟨h1,h2,h3,h4,h5⟩;unfold aloB;by_cases h0:u.Kind=0
 ·rw [if_pos h0];refine Chk.ite (fun _=>Chk.last ?_) fun h=>absurd h0 h;refine Chk.ite (fun a=>Chk.ite (fun b=>Chk.pure fun c=>?_) fun _=>Chk.ff) fun _=>Chk.ff;have c':=of_decide_eq_true c;refine ⟨?_,h3⟩;have e1:u.Head.length=0:=by omega
  have e2:u.Words.length=0:=by omega
  rw [a,e1,e2];rfl
 ·rw [if_neg h0];refine Chk.ite (fun h=>absurd h h0) fun _=>Chk.last (Chk.imp (Chk.of (may03 _ hl)) fun h=>⟨?_,h3⟩);have h7:1<=u.Kind:=by omega
  simp [h,h4,h5,h2,h7]
theorem XF(u:aa):cnt u<=1000000->labs u->Chk (fun n=>M.oV n u) (Oks u):=by
 refine uind (P:=fun u=>cnt u<=1000000->labs u->Chk (fun n=>M.oV n u) (Oks u)) ?_ u;intro u ih hc hl;have hk:=sw u;have loop:∀ (xs:List aa) (slf:Nat->aa->Option Bool) (i:Nat),u.Kids.drop i=xs->(∀ k∈xs,Chk (fun n=>slf n k) (Oks k))->
   ∃ r,To (fun n=>M.eQ u (slf n) n (i:Int)) r/\(r= .inr false\/(r= .inl ()/\(∀ k∈xs,nestB u.Kind k.Kind=true/\Oks k)/\(∀ a (ha:a<u.Kids.length),i<=a->∀ j (hj:j<a),¬ (u.Kids[j].Kind=u.Kids[a].Kind/\u.Kids[j].Label=u.Kids[a].Label)))):=by
  intro xs;induction xs with
  | nil=>
   intro slf i hx _;refine ⟨.inl (),To.succ ?_,.inr ⟨rfl,fun k hk=>(by cases hk),fun a ha hia=>?_⟩⟩
   ·simp only [M.eQ];exact To.neg (aS hx) To.pure
   ·have:=List.drop_eq_nil_iff.1 hx;omega
  | cons x xs ihx=>
   intro slf i hx hs;obtain ⟨hil,hget,hnext⟩:=jV hx;obtain ⟨c,hc1,hc2⟩:=hs x (by simp);cases hn:nestB u.Kind x.Kind with
   | false=>
    refine ⟨.inr false,To.succ ?_,.inl rfl⟩;simp only [M.eQ];exact To.pos (aK hx) (To.bindS (aA hx) (To.bindS (Gm _ _) (To.pos hn To.pure)))
   | true=>
    cases c with
    | false=>
     refine ⟨.inr false,To.succ ?_,.inl rfl⟩;simp only [M.eQ];exact To.pos (aK hx) (To.bindS (aA hx) (To.bindS (Gm _ _) (To.neg (by simp [hn]) (To.bindS (aA hx) (To.bind hc1.shift (To.pos rfl To.pure))))))
    | true=>
     rcases NR u i hil (by omega) i 0 (by omega) with h2 | ⟨h2,h3⟩
     ·refine ⟨.inr false,To.succ ?_,.inl rfl⟩;simp only [M.eQ];exact To.pos (aK hx) (To.bindS (aA hx) (To.bindS (Gm _ _) (To.neg (by simp [hn]) (To.bindS (aA hx) (To.bind hc1.shift (To.neg (by simp) (To.bind h2 To.pure)))))))
     ·obtain ⟨r,h4,h5⟩:=ihx (fun n=>slf (n+1)) (i+1) hnext fun k hk=>let ⟨c,a,b⟩:=hs k (by simp [hk]);⟨c,a.shift,b⟩;refine ⟨r,To.succ ?_,h5.imp id fun h=>⟨h.1,fun k hk=>?_,fun a ha hia j hj=>?_⟩⟩
      ·simp only [M.eQ];exact To.pos (aK hx) (To.bindS (aA hx) (To.bindS (Gm _ _) (To.neg (by simp [hn]) (To.bindS (aA hx) (To.bind hc1.shift (To.neg (by simp) (To.bind h2 (To.bindS (gm (by omega)) h4))))))))
      ·rcases List.mem_cons.1 hk with rfl | hk
       ·exact ⟨hn,hc2 rfl⟩
       ·exact h.2.1 k hk
      ·by_cases e:a=i
       ·subst e;exact h3 j hj (Nat.zero_le _)
       ·exact h.2.2 a ha (by omega) j hj
 obtain ⟨c,hc1,hc2⟩:=XE u (by have:=(hl u (fC u)).1;omega);cases c with
 | false=>exact ⟨false,To.succ (by simp only [M.oV];exact To.bind hc1 (To.pos rfl To.pure)),fun e=>by cases e⟩
 | true=>
  obtain ⟨h1,h2⟩:=hc2 rfl;obtain ⟨r,h3,h4⟩:=loop u.Kids (fun n=>M.oV n) 0 rfl fun k hk=>ih k hk (by have:=jH hk;omega) (DJ hl hk);rcases h4 with rfl | ⟨rfl,h5,h6⟩
  ·exact ⟨false,To.succ (by simp only [M.oV];exact To.bind hc1 (To.neg (by simp) (To.bind h3 To.pure))),fun e=>by cases e⟩
  ·refine ⟨true,To.succ (by simp only [M.oV];exact To.bind hc1 (To.neg (by simp) (To.bind h3 To.pure))),fun _=>(rz u).2 ⟨?_,fun k hk=>(h5 k hk).2⟩⟩;unfold okU kidB;simp only [Bool.and_eq_true,List.all_eq_true,decide_eq_true_eq];refine ⟨h1,⟨fun k hk=>(h5 k hk).1,?_⟩,h2⟩;rw [List.Nodup,List.pairwise_map,List.pairwise_iff_getElem];intro i j hi hj hij e;exact h6 j hj (Nat.zero_le _) i hij ⟨congrArg Prod.fst e,congrArg Prod.snd e⟩
theorem MN(u:aa):deep u=dp u:=by
 refine uind (P:=fun u=>deep u=dp u) ?_ u;intro u ih;rw [MF,yg];congr 1;exact List.map_congr_left fun k hk=>by rw [ih k hk]
theorem Yc(u:aa)(hc:cnt u<=1000000):Chk (fun n=>M.uy n u) ((∀ i∈ids u,i=aF)\/(ids u).Nodup/\(u.Kind=0->u.Id=aF)):=by
 obtain ⟨b,hb⟩:=TK u hc;refine ⟨b,hb,fun e=>?_⟩;subst e;rcases VY u hc hb with h | h
 ·exact .inl fun i hi=>by obtain ⟨x,hx,rfl⟩:=uG.1 hi;exact h x hx
 ·by_cases hk:u.Kind=0
  ·by_cases hz:u.Id=aF
   ·exact .inr ⟨h,fun _=>hz⟩
   ·exfalso;have hl:((desc u).map aa.Id).length<=1000000:=by simpa [cnt] using hc
    simp only [M.uy] at hb
    replace hb:=hb.unbind (F8 u hc)
    obtain ⟨c,hc1,hc2⟩:=ME ((desc u).map aa.Id) _ 0 true rfl
    replace hb:=hb.unbind hc1
    cases c with
    | true=>
     have:=(hc2 rfl).2 u.Id (List.mem_map.2 ⟨u,fC u,rfl⟩);exact hz this
    | false=>
     replace hb:=hb.unneg (by simp)
     have hi:idx ((desc u).map aa.Id) (0:Int)=some u.Id:=by rw [fH];exact fB
     replace hb:=hb.unbind (To.opt hi)
     have hz2:u.Id≠(⟨(0:Int),(0:Int),(0:Int)⟩:ai):=hz;exact absurd (hb.unpos (by simp [hz2,hk])).unpure (by simp)
  ·exact .inr ⟨h,fun e=>absurd e hk⟩
theorem X9(u:aa)(hc:cnt u<=1000000)(hl:labs u):Chk (fun n=>M.yD n u) (Oks u/\dp u<=8/\cnt u<=1024/\((∀ i∈ids u,i=aF)\/(ids u).Nodup/\(u.Kind=0->u.Id=aF))):=by
 simp only [M.yD];have hd:=(KZ u hc).2;rw [MN] at hd;exact Chk.and1 (XF u hc hl) fun h1=>Chk.bind hd (Chk.ite (fun h2=>Chk.bind (NP u hc) (Chk.ite (fun h3=>Chk.last (Chk.imp (Yc u hc) fun h4=>⟨h1,by omega,by omega,h4⟩)) fun _=>Chk.ff)) fun _=>Chk.ff)
theorem QP(u:aa):Chk (fun n=>M.oh n u 16) (Ok u):=by
 simp only [M.oh];have hf:Chk (fun n=>M.uw n u (16:Int)) (cnt u<=16/\labs u):=let ⟨b,h1,h2⟩:=Qj u 16 (by omega) (by omega);⟨b,h1,fun e=>⟨by have:=(h2 e).1;omega,(h2 e).2⟩⟩;refine Chk.and1 hf fun ⟨h1,h2⟩=>Chk.ite (fun hk=>Chk.and1 (X9 u (by omega) h2) fun ⟨h3,h4,h5,h6⟩=>Chk.ite (fun h0=>Chk.pure fun _=>?_) fun h0=>?_) fun _=>Chk.ff
 ·have hkn:u.Kids= []:=List.eq_nil_of_length_eq_zero (by omega);have hid:ids u= [u.Id]:=by rw [qH,hkn];rfl
  refine ⟨h3,h4,h5,by rw [hid];simp,hk,?_⟩;rcases h6 with h6 | h6
  ·exact h6 u.Id (nJ u)
  ·exact h6.2 hk
 ·cases hkk:u.Kids with
  | nil=>rw [hkk] at h0;simp at h0
  | cons k ks=>
   refine Chk.bindS fB (Chk.pure fun e=>?_);have e:k.Id≠u.Id:=of_decide_eq_true e;rcases h6 with h6 | h6
   ·have h7:=h6 u.Id (nJ u);have h8:=h6 k.Id (uG.2 ⟨k,zl (by rw [hkk];simp),rfl⟩);exact absurd (h8.trans h7.symm) e
   ·exact ⟨h3,h4,h5,h6.1,hk,h6.2 hk⟩
def okC(b:UInt8):Bool:=(decide (97<=b.toNat) && decide (b.toNat<=122)) || (decide (48<=b.toNat) && decide (b.toNat<=57)) || decide (b.toNat=45)
structure NameP (s:Str):Prop where
 len:1<=s.length/\s.length<=16
 first:∀ b t,s=b :: t->97<=b.toNat/\b.toNat<=122
 all:∀ b∈s,okC b=true
theorem Xx(s:Str):Chk (fun n=>M.tK n s) (NameP s):=by
 have loop:∀ (xs:Str) (i:Nat),s.drop i=xs->∃ r,To (fun n=>M.cK s n (i:Int)) r/\(r= .inr false\/(r= .inl ()/\ ∀ b∈xs,okC b=true)):=by
  intro xs;induction xs with
  | nil=>intro i hx;exact ⟨.inl (),To.succ (by simp only [M.cK];exact To.neg (aS hx) To.pure),.inr ⟨rfl,fun b hb=>by cases hb⟩⟩
  | cons x xs ih=>
   intro i hx;obtain ⟨r,h1,h2⟩:=ih (i+1) (aI hx);rw [<-bE] at h1;have good:okC x=true->∃ r,To (fun n=>M.cK s n (i:Int)) r/\(r= .inr false\/(r= .inl ()/\ ∀ b∈x :: xs,okC b=true)):=fun hx1=>by
    refine ⟨r,To.succ ?_,h2.imp id fun h=>⟨h.1,fun b hb=>?_⟩⟩
    ·simp only [M.cK];refine To.pos (aK hx) (To.bindS (aA hx) (To.ite (fun a1=>To.ite (fun _=>h1) fun a2=>To.ite (fun a3=>To.ite (fun _=>h1) fun a4=>To.neg ?_ h1) fun a3=>To.neg ?_ h1) fun a1=>To.ite (fun a3=>To.ite (fun _=>h1) fun a4=>To.neg ?_ h1) fun a3=>To.neg ?_ h1))
     all_goals (simp only [okC,Bool.or_eq_true,Bool.and_eq_true,decide_eq_true_eq] at hx1;omega)
    ·rcases List.mem_cons.1 hb with rfl | hb
     ·exact hx1
     ·exact h.2 b hb
   by_cases hc:okC x=true
   ·exact good hc
   ·refine ⟨.inr false,To.succ ?_,.inl rfl⟩;simp only [okC,Bool.or_eq_true,Bool.and_eq_true,decide_eq_true_eq] at hc;simp only [M.cK];refine To.pos (aK hx) (To.bindS (aA hx) (To.ite (fun a1=>To.neg (by omega) (To.ite (fun a3=>To.neg (by omega) (To.pos (by omega) To.pure)) fun a3=>To.pos (by omega) To.pure)) fun a1=>To.ite (fun a3=>To.neg (by omega) (To.pos (by omega) To.pure)) fun a3=>To.pos (by omega) To.pure))
 simp only [M.tK];have hpre:Nchk (fun n:Nat=>if (s.length:Int)< (1:Int) then some true else if (16:Int)< (s.length:Int) then some true else Option.bind (idx s (0:Int)) fun b=>if (b.toNat:Int)< (97:Int) then some true else Option.bind (idx s (0:Int)) fun b1=>some (decide ((122:Int)< (b1.toNat:Int))))
   ((1<=s.length/\s.length<=16)/\ ∀ b t,s=b :: t->97<=b.toNat/\b.toNat<=122):=by
  refine Nchk.or fun h1=>Nchk.or fun h2=>?_;cases s with
  | nil=>simp at h1
  | cons b t=>
   refine Nchk.bindS fB (Nchk.or fun h3=>Nchk.bindS fB (Nchk.pure fun e=>⟨⟨by omega,by omega⟩,fun b2 t2 e2=>?_⟩));have:=of_decide_eq_false e;cases e2;omega
 refine Chk.wrong hpre fun ⟨h1,h2⟩=>?_;obtain ⟨r,h3,h4⟩:=loop s 0 rfl;rcases h4 with rfl | ⟨rfl,h4⟩
 ·exact Chk.bind h3 Chk.ff
 ·exact Chk.bind h3 (Chk.pure fun _=>⟨h1,h2,h4⟩)
def cutS:Str:=[97,98,99,100,101,102,103,104,105,106,107,108,109,110,111,112,113,114,115,116,117,118,119,120,121,122,48,49,50,51,52,53,54,55,56,57,45]
set_option maxRecDepth 100000 in
theorem Uc(b:UInt8)(h:okC b=true):b∈cutS:=by
 have:∀ n:Fin 256,okC (UInt8.ofNat n.val)=true->UInt8.ofNat n.val∈cutS:=by decide
 have h2:=this ⟨b.toNat,b.toNat_lt⟩;simp only [UInt8.ofNat_toNat] at h2;exact h2 h
theorem Jk:∀ (xs:Str) (l:List Bool),l.length=256->(xs.foldl (fun l b=>l.set b.toNat true) l).length=256/\ ∀ b:UInt8,(l[b.toNat]? =some true\/b∈xs)->(xs.foldl (fun l b=>l.set b.toNat true) l)[b.toNat]? =some true
 | [],l,h=>⟨h,fun b hb=>by rcases hb with hb | hb;exact hb;cases hb⟩
 | x :: xs,l,h=>by
  obtain ⟨h1,h2⟩:=Jk xs (l.set x.toNat true) (by rw [List.length_set];exact h);refine ⟨h1,fun b hb=>h2 b ?_⟩;have hx:=x.toNat_lt;by_cases e:x=b
  ·subst e;exact .inl (by rw [List.getElem?_set_self (by omega)])
  ·rcases hb with hb | hb
   ·refine .inl ?_;rw [List.getElem?_set_ne (fun e2=>e (UInt8.toNat_inj.1 e2))];exact hb
   ·rcases List.mem_cons.1 hb with rfl | hb
    ·exact absurd rfl e
    ·exact .inr hb
theorem QQ(cs:Str)(h:∀ b∈cs,b.toNat<128):∀ (xs:Str) (i:Nat) (l:List Bool),cs.drop i=xs->To (fun n=>M.dh cs n (i:Int) l) (.inl (xs.foldl (fun l b=>l.set b.toNat true) l)):=by
 intro xs;induction xs with
 | nil=>intro i l hx;refine To.succ ?_;simp only [M.dh];exact To.neg (aS hx) To.pure
 | cons x xs ih=>
  intro i l hx;have hxm:x∈cs:=Cu (aA hx);have:=h x hxm;refine To.succ ?_;simp only [M.dh];refine To.pos (aK hx) (To.bindS (aA hx) (To.neg (by omega) (To.bindS (a:=()) (by unfold rngC;rw [if_pos (by omega)]) ?_)));rw [bE,Int.toNat_natCast];exact ih (i+1) _ (aI hx)
theorem Ud(s:Str)(h:∀ b∈s,okC b=true)(hl:s.length<=1000):To (fun n=>M.sj n s cutS) []:=by
 simp only [M.sj];by_cases hs:s= []
 ·subst hs;exact To.bind (a:=true) (To.pos (by simp) To.pure) (To.pos rfl To.pure)
 ·obtain ⟨e1,e2⟩:=Jk cutS (List.replicate 256 false) List.length_replicate;have hset:=QQ cutS (by decide) cutS 0 (List.replicate 256 false) rfl;generalize hA:cutS.foldl (fun l b=>l.set b.toNat true) (List.replicate 256 false)=A at e1 e2 hset;have hin:∀ b:UInt8,okC b=true->To (fun _=>M.dR A (b.toNat:Int)) true:=fun b hb=>by
   simp only [M.dR];exact To.bindS (a:=true) (by rw [pR];exact e2 b (.inr (Uc b hb))) To.pure
  have loop:∀ (k:Nat) (t:Str),t.length=k->(∀ b∈t,okC b=true)->k<=1000->To (fun n=>M.bK A n t) []:=by
   intro k;induction k with
   | zero=>
    intro t ht _ _;refine To.succ ?_;simp only [M.bK];exact To.neg (by omega) (To.pure.of (List.eq_nil_of_length_eq_zero ht))
   | succ k ih=>
    intro t ht hb hk;have hlt:k<t.length:=by omega
    refine To.succ ?_;simp only [M.bK];have hsub:subC (t.length:Int) (1:Int)=some (k:Int):=by rw [l6 (by omega) (by omega)];congr 1;omega
    refine To.pos (by omega) (To.bindS hsub (To.bindS (Cz hlt) (To.bind (hin _ (hb _ (List.getElem_mem hlt))) (To.neg (by simp) (To.bindS hsub (To.bindS (a:=t.take k) (by unfold slcHi;rw [if_pos (by omega),Int.toNat_natCast]) ?_))))));exact ih (t.take k) (by rw [List.length_take];omega) (fun b hbm=>hb b (List.mem_of_mem_take hbm)) (by omega)
  refine To.bind (a:=false) (To.neg (by simpa using hs) (To.pure.of (by simp [cutS]))) (To.neg (by simp) (To.bind (a:=false) (To.neg (by simp [cutS]) To.pure) (To.neg (by simp) ?_)));refine To.bind (a:=(A,true)) (by simp only [M.strings_makeASCIISet];exact To.bind hset To.pure) (To.pos rfl ?_);refine To.bind (a:=[]) (by simp only [M.strings_trimRightASCII];exact To.bind (loop s.length s rfl h hl) To.pure) ?_;refine To.bind (a:=[]) (by simp only [M.strings_trimLeftASCII];exact To.bind (To.succ (by simp only [M.dD];exact To.neg (by simp) To.pure)) To.pure) To.pure
theorem Fp{s:Str}(h:NameP s):To (fun n=>M.kY n s) true:=by
 simp only [M.kY];obtain ⟨h1,h2⟩:=h.len;refine To.bind (a:=false) (To.neg (by omega) (To.neg (by omega) ?_)) (To.neg (by simp) (To.bind (Ud s h.all (by omega)) To.pure));cases s with
 | nil=>simp at h1
 | cons b t=>
  have:=h.first b t rfl;exact To.bindS fB (To.neg (by omega) (To.bindS fB (To.pure.of (by rw [decide_eq_false_iff_not];omega))))
theorem Bw(a lo hi:Int):Chk (fun _=>M.p9 a lo hi) (lo<=a/\a<=hi):=by
 simp only [M.p9];exact Chk.ite (fun h=>Chk.pure fun e=>⟨h,of_decide_eq_true e⟩) fun _=>Chk.ff
theorem Bz{a lo hi:Int}(h:lo<=a/\a<=hi):M.kW a lo hi=some true:=by
 simp only [M.kW];rw [if_pos h.1,decide_eq_true h.2]
def D6(s:fZ):Prop:=(s.Kind=1/\(0<=s.Day/\s.Day<=1048576)/\s.Event= [])\/(s.Kind=3/\s.Day=0/\NameP s.Event)\/((s.Kind=0\/s.Kind=2)/\s.Day=0/\s.Event= [])
theorem Fq(s:fZ):Chk (fun n=>M.rO n s) (D6 s):=by
 simp only [M.rO];refine Chk.ite (fun h1=>Chk.and1 (Bw _ _ _) fun h2=>Chk.pure fun e=>.inl ⟨h1,h2,by simpa using e⟩) fun h1=>Chk.ite (fun h3=>Chk.ite (fun h4=>Chk.last (Chk.imp (Xx _) fun h5=>.inr (.inl ⟨h3,h4,h5⟩))) fun _=>Chk.ff) fun h3=>?_;by_cases h0:s.Kind=0
 ·exact Chk.bind (a:=true) (To.pos h0 (To.pure.of (by simp [h0]))) (Chk.ite (fun _=>Chk.ite (fun h4=>Chk.pure fun e=>.inr (.inr ⟨.inl h0,h4,by simpa using e⟩)) fun _=>Chk.ff) fun h=>absurd rfl h)
 ·by_cases h2:s.Kind=2
  ·exact Chk.bind (a:=true) (To.neg h0 (To.pure.of (by simp [h2]))) (Chk.ite (fun _=>Chk.ite (fun h4=>Chk.pure fun e=>.inr (.inr ⟨.inr h2,h4,by simpa using e⟩)) fun _=>Chk.ff) fun h=>absurd rfl h)
  ·exact Chk.bind (a:=false) (To.neg h0 (To.pure.of (by simp [h2]))) (Chk.ite (fun h=>by cases h) fun _=>Chk.ff)
theorem N9{s:fZ}(h:D6 s):To (fun n=>M.pq n s) true:=by
 simp only [M.pq];rcases h with ⟨h1,h2,h3⟩ | ⟨h1,h2,h3⟩ | ⟨h1,h2,h3⟩
 ·exact To.bind (a:=false) (To.neg (by omega) (To.pure.of (by rw [decide_eq_false_iff_not];omega))) (To.neg (by simp) (To.pos h1 (To.bindS (Bz h2) (To.pos rfl (To.pure.of (by rw [h3];rfl))))))
 ·exact To.bind (a:=false) (To.neg (by omega) (To.pure.of (by rw [decide_eq_false_iff_not];omega))) (To.neg (by simp) (To.neg (by omega) (To.pos h1 (To.pos h2 (To.bind (Fp h3) To.pure)))))
 ·refine To.bind (a:=true) ?_ (To.pos rfl (To.pos h2 (To.pure.of (by rw [h3];rfl))));rcases h1 with h1 | h1
  ·exact To.pos h1 (To.pure.of (by simp [h1]))
  ·exact To.neg (by omega) (To.pure.of (by simp [h1]))
theorem AQ(l:List Str)(k:Nat):Chk (fun n=>M.uz n l (k:Int)) (seqB l=true/\k<=l.length):=by
 simp only [M.uz];exact Chk.and1 (Chk.of (Vo l)) fun h=>Chk.pure fun e=>⟨h,by have:=of_decide_eq_true e;omega⟩
theorem ym{l:List Str}{k:Nat}(h:seqB l=true/\k<=l.length):To (fun n=>M.nV n l (k:Int)) true:=by
 simp only [M.nV];exact To.bind ((Cv l).of h.1) (To.pos rfl (To.pure.of (by rw [decide_eq_true_eq];omega)))
theorem QR{a b:ah}(h:a.Kind=b.Kind/\a.At=b.At/\a.To=b.To/\a.Where=b.Where/\a.Nth=b.Nth/\a.Unit=b.Unit/\a.Old=b.Old/\a.New=b.New/\a.Label=b.Label/\a.For=b.For/\a.Start=b.Start/\a.Act=b.Act/\a.Item=b.Item/\a.Day=b.Day/\a.Event=b.Event/\a.By=b.By):a=b:=by
 cases a;cases b;simp_all
theorem Oa(a b:ah)(hb:b.By= []):Chk (fun n=>M.tJ n a b) (a=b):=by
 refine Chk.succ ?_;simp only [M.tJ];refine Chk.wrong (P:=a.Kind=b.Kind/\a.Where=b.Where/\a.Nth=b.Nth/\a.Label=b.Label/\a.For=b.For/\a.Start=b.Start/\a.Act=b.Act/\a.Item=b.Item/\a.Day=b.Day/\a.Event=b.Event) (Nchk.or fun h1=>Nchk.or fun h2=>Nchk.or fun h3=>Nchk.or fun h4=>Nchk.or fun h5=>Nchk.or fun h6=>Nchk.or fun h7=>Nchk.or fun h8=>Nchk.or fun h9=>Nchk.pure fun h10=>?_) ?_
 ·exact ⟨by simpa using h1,by simpa using h2,by simpa using h3,by simpa using h4,by simpa using h5,by simpa using h6,by simpa using h7,by simpa using h8,by simpa using h9,by simpa using h10⟩
 rintro ⟨h1,h2,h3,h4,h5,h6,h7,h8,h9,h10⟩;refine Chk.wrong (P:=a.At=b.At/\a.To=b.To/\a.Old=b.Old/\a.New=b.New/\a.Unit=b.Unit/\a.By.length=b.By.length) (Nchk.or0 (Ff _ _) fun k1=>Nchk.or0 (Ff _ _) fun k2=>Nchk.or0 (Jh _ _) fun k3=>Nchk.or0 (Jh _ _) fun k4=>Nchk.or0 (Fj _ _) fun k5=>Nchk.pure fun e=>⟨k1,k2,k3,k4,k5,Int.ofNat.inj (by simpa using e)⟩) ?_;rintro ⟨k1,k2,k3,k4,k5,k6⟩;have ha:a.By= []:=List.eq_nil_of_length_eq_zero (by rw [k6,hb];rfl);have hlp:To (fun n=>M.ko a b (M.tJ n) n (0:Int)) (.inl ()):=To.succ (by simp only [M.ko];exact To.neg (by rw [ha];simp) To.pure);refine Chk.bind hlp (Chk.pure fun _=>QR ⟨h1,k1,k2,h2,h3,k5,k3,k4,h4,h5,h6,h7,h8,h9,h10,by rw [ha,hb]⟩)
theorem Xy(l:List af)(h:l.length<=100000):To (fun n=>M.uM n l) (M.bareWs l):=by
 have loop:∀ (xs:List af) (i:Nat) (t:List af),l.drop i=xs->t.length+xs.length<=100000->To (fun n=>M.iM l n t (i:Int)) (t++M.bareWs xs):=by
  intro xs;induction xs with
  | nil=>intro i t hx _;refine To.succ ?_;simp only [M.iM];exact To.neg (aS hx) (To.pure.of (by simp [M.bareWs]))
  | cons x xs ih=>
   intro i t hx ht;simp only [List.length_cons] at ht;refine To.succ ?_;simp only [M.iM];refine To.pos (aK hx) (To.bindS (aA hx) (To.bindS (bJ (by simp;omega)) ?_));rw [bE];exact (ih (i+1) _ (aI hx) (by simp;omega)).of (by simp [M.bareWs])
 simp only [M.uM];exact To.bind (loop l 0 [] rfl (by simp;omega)) (To.pure.of (by simp))
theorem strip6(u:aa):labs u->cnt u<=10000->To (fun n=>M.oW n u) (stripT u):=by
 refine uind (P:=fun u=>labs u->cnt u<=10000->To (fun n=>M.oW n u) (stripT u)) ?_ u;intro u ih hl hc;have hk:=sw u;obtain ⟨_,h2,h3⟩:=hl u (fC u);have loop:∀ (xs:List aa) (slf:Nat->aa->Option aa) (i:Nat) (out:aa),u.Kids.drop i=xs->out.Kids.length+xs.length<=100000->(∀ k∈xs,To (fun n=>slf n k) (stripT k))->To (fun n=>M.jM u (slf n) n (i:Int) out) (WO out (out.Kids++xs.map stripT)):=by
  intro xs;induction xs with
  | nil=>intro slf i out hx _ _;refine To.succ ?_;simp only [M.jM];exact To.neg (aS hx) (To.pure.of (by rw [List.map_nil,List.append_nil,rX]))
  | cons x xs ihx=>
   intro slf i out hx ho hs;simp only [List.length_cons] at ho;refine To.succ ?_;simp only [M.jM];refine To.pos (aK hx) (To.bindS (aA hx) (To.bind (hs x (by simp)).shift (To.bindS (bJ (by simp;omega)) ?_)));rw [bE];refine (ihx (fun n=>slf (n+1)) (i+1) (WO out (out.Kids++ [stripT x])) (aI hx) (by rw [jK];simp;omega) fun k hk=>(hs k (by simp [hk])).shift).of ?_;rw [jK,nX];simp
 refine To.succ ?_;simp only [M.oW];refine To.bind (Xy _ (by omega)) (To.bind (Xy _ (by omega)) (To.bind (loop u.Kids (fun n=>M.oW n) 0 _ rfl (by simp;omega) fun k hk=>ih k hk (DJ hl hk) (by have:=jH hk;omega)) (To.pure.of ?_)));rw [nH];rfl
theorem QS(u:aa)(hl:labs u)(hc:cnt u<=1000):Chk (fun n=>M.xH n u) (u=stripT u):=by
 simp only [M.xH];exact Chk.and1 (X9 u (by omega) hl) fun _=>Chk.bind (strip6 u hl (by omega)) (Chk.last (Fj _ _))
theorem K6(u:aa):∀ visit:Nat->aa->Option Bool,(∀ x∈desc u,To (fun n=>visit n x) true)->To (fun n=>M.qf n u (visit n)) true:=by
 refine uind (P:=fun u=>∀ visit:Nat->aa->Option Bool,(∀ x∈desc u,To (fun n=>visit n x) true)->To (fun n=>M.qf n u (visit n)) true) ?_ u;intro u ih visit h;have loop:∀ (xs:List aa) (slf:Nat->aa->(aa->Option Bool)->Option Bool) (visit:Nat->aa->Option Bool),(∀ k∈xs,To (fun n=>slf n k (visit n)) true)->To (fun n=>M.gU (visit n) (slf n) xs) (.inl ()):=by
  intro xs;induction xs with
  | nil=>intro slf visit _;simp only [M.gU];exact To.pure
  | cons x xs ihx=>
   intro slf visit hs;simp only [M.gU];exact To.bind (hs x (by simp)) (To.neg (by simp) (ihx slf visit fun k hk=>hs k (by simp [hk])))
 refine To.succ ?_;simp only [M.qf];exact To.bind (h u (fC u)).shift (To.neg (by simp) (To.bind (loop u.Kids (fun n=>M.qf n) (fun n=>visit (n+1)) fun k hk=>ih k hk (fun n=>visit (n+1)) fun x hx=>(h x (nG hk hx)).shift) To.pure))
theorem Ob{u:aa}(hs:smT u)(h:u=stripT u)(hv:valT u=true):To (fun n=>M.tV n u) true:=by
 simp only [M.tV];have h1:=F6 u hs;rw [<-h,hv] at h1;refine To.bind h1 (To.pos rfl (To.bind (K6 u (fun n s0=>M.qP n s0) fun x hx=>?_) To.pure));rw [h,uZ] at hx;obtain ⟨y,_,rfl⟩:=List.mem_map.1 hx;have hw:∀ l:List af,To (fun n=>M.bv n (M.bareWs l) (fun s0=>M.lW s0)) false:=fun l=>by
  refine (XM _ (fun _ s0=>M.lW s0) (fun w=>decide (w.By≠mR)) fun x hx=>To.pure).of ?_;rw [Bool.eq_false_iff];intro e;obtain ⟨w,hw,hw2⟩:=List.any_eq_true.1 e;obtain ⟨v,_,rfl⟩:=List.mem_map.1 hw;exact of_decide_eq_true hw2 rfl
 rw [nH];simp only [M.qP];exact To.pos trivial (To.bind (hw _) (To.pos rfl (To.bind (hw _) To.pure)))
theorem WF{u k:ah}(h:k∈u.By):SizeOf.sizeOf k<SizeOf.sizeOf u:=by
 cases u;have:=List.sizeOf_lt_of_mem h;simp at this ⊢;omega
theorem Ya{P:ah->Prop}(h:∀ u,(∀ k,k∈u.By->P k)->P u)(u:ah):P u:=
 h u (fun k hk=>Ya h k)
termination_by SizeOf.sizeOf u
decreasing_by exact WF hk
structure FewP (x:ah):Prop where
 atL:∀ y,y∈x.At->y.Label.length<=100
 toL:∀ y,y∈x.To->y.Label.length<=100
 lab:x.Label.length<=100
 cntU:cnt x.Unit<=30
 labU:labs x.Unit
theorem QT(x:ah):Chk (fun n=>M.vG n x) (FewP x):=by
 refine Ya (P:=fun x=>Chk (fun n=>M.vG n x) (FewP x)) ?_ x;intro x ih;have l5:∀ (xs:List ah) (slf:Nat->ah->Option Bool) (i:Nat),x.By.drop i=xs->(∀ k,k∈xs->Tot (fun n=>slf n k))->Tot (fun n=>M.il x (slf n) n (i:Int)):=by
  intro xs;induction xs with
  | nil=>intro slf i hx _;refine Tot.succ ?_;simp only [M.il];exact Tot.neg (aS hx) Tot.pure
  | cons y xs ih=>
   intro slf i hx hs;have hn:Tot (fun n=>M.il x (slf (n+1)) n ((i+1:Nat):Int)):=ih (fun n=>slf (n+1)) (i+1) (aI hx) (fun k hk=>(hs k (by simp [hk])).shift);refine Tot.succ ?_;simp only [M.il];rw [bA];refine Tot.pos (aK hx) (Tot.bindS (aA hx) (Tot.ite (fun h=>Tot.bindS (aA hx) ?_) fun _=>Tot.bindS (aA hx) (Tot.bind (hs y (by simp)).shift fun _ _=>Tot.ite (fun _=>Tot.pure) fun _=>hn)));obtain ⟨z,hz,_⟩:=wI (l:=y.By) (i:=0) (by omega) h;exact Tot.bindS hz (Tot.ite (fun _=>Tot.pure) fun _=>Tot.bindS (aA hx) (Tot.bind (hs y (by simp)).shift fun _ _=>Tot.ite (fun _=>Tot.pure) fun _=>hn))
 have hA:Nchk (fun n=>if (12:Int)< (x.At.length:Int) then some true else if (12:Int)< (x.To.length:Int) then some true else if (300:Int)< (x.Old.length:Int) then some true else if (300:Int)< (x.New.length:Int) then some true else
   if (100:Int)< (x.Label.length:Int) then some true else if (100:Int)< (x.For.length:Int) then some true else if (100:Int)< (x.Start.Event.length:Int) then some true else if (100:Int)< (x.Event.length:Int) then some true else
   if (2:Int)< (x.By.length:Int) then some true else Option.bind (M.uw n x.Unit (30:Int)) fun few=>some (!few)) (x.Label.length<=100/\cnt x.Unit<=30/\labs x.Unit):=
  Nchk.or fun _=>Nchk.or fun _=>Nchk.or fun _=>Nchk.or fun _=>Nchk.or fun h=>Nchk.or fun _=>Nchk.or fun _=>Nchk.or fun _=>Nchk.or fun _=>Nchk.last (let ⟨b,h1,h2⟩:=Qj x.Unit 30 (by omega) (by omega);⟨b,h1,fun e=>⟨by omega,by have:=(h2 e).1;omega,(h2 e).2⟩⟩)
 refine Chk.succ ?_;simp only [M.vG];refine Chk.wrong hA fun ⟨q1,q2,q3⟩=>?_;rcases TW x _ 0 rfl with h1 | ⟨h1,_⟩
 ·exact Chk.bind h1 Chk.ff
 rcases TY x _ 0 rfl with h2 | ⟨h2,_⟩
 ·exact Chk.bind h1 (Chk.bind h2 Chk.ff)
 rcases TZ x _ 0 rfl with h3 | ⟨h3,k3⟩
 ·exact Chk.bind h1 (Chk.bind h2 (Chk.bind h3 Chk.ff))
 rcases T9 x _ 0 rfl with h4 | ⟨h4,k4⟩
 ·exact Chk.bind h1 (Chk.bind h2 (Chk.bind h3 (Chk.bind h4 Chk.ff)))
 obtain ⟨c,hc⟩:=l5 x.By (fun n=>M.vG n) 0 rfl (fun k hk=>let ⟨b,h,_⟩:=ih k hk;⟨b,h⟩);refine Chk.bind h1 (Chk.bind h2 (Chk.bind h3 (Chk.bind h4 (Chk.bind hc ?_))));cases c with
 | inl _=>exact Chk.pure fun _=>⟨k3,k4,q1,q2,q3⟩
 | inr b=>exact Chk.pure fun _=>⟨k3,k4,q1,q2,q3⟩
structure zQ (x:ah):Prop where
 kind:0<=x.Kind/\x.Kind<=6
 at_:WV x.At=true
 valid:To (fun n=>M.j3 n x) true
 k0:x.Kind=0->(0<=x.Where/\x.Where<=3)/\valT x.Unit=true/\x.Unit.Kind≠0
 k2:x.Kind=2->(seqB x.Old=true/\1<=x.Old.length)/\seqB x.New=true/\0<=x.Nth
 k3:x.Kind=3->seqB x.Old=true/\(seqB x.New=true/\1<=x.New.length)/\0<=x.Nth/\(x.Old.length=0->x.Nth=0)
 k4:x.Kind=4->seqB x.New=true
 k5:x.Kind=5->sF x.Label=true
 k6:x.Kind=6->(0<=x.Where/\x.Where<=3)/\WV x.To=true
theorem D7{k:Int}(h:0<=k/\k<=6):M.jS k=some true:=by
 simp only [M.jS];rw [if_pos h.1,decide_eq_true h.2]
theorem sS(x v:ah)(r:Nat->dX)(h1:∀ n,∃ m,M.uC n=some m/\mget m x.Kind nQ=r n/\mhas m x.Kind=true)(h2:∀ n,(r n).has_ x=some v)(h3:To (fun n=>(r n).may_ x) true)
  (hk:0<=x.Kind/\x.Kind<=6) (ha:WV x.At=true) (hf:x.For= []\/NameP x.For) (hs:D6 x.Start) (he:(⟨x.Kind,x.At,v.To,v.Where,v.Nth,v.Unit,v.Old,v.New,v.Label,x.For,x.Start,v.Act,v.Item,v.Day,v.Event,v.By⟩:ah)=x) (hb:x.By= []):To (fun n=>M.j3 n x) true:=by
 obtain ⟨n1,a1⟩:=(DN x.At).of ha;obtain ⟨n2,a2⟩:=N9 hs;obtain ⟨n3,a3⟩:=Ub x hb;obtain ⟨n4,a4⟩:=h3;have hfor:∃ n5,∀ n,n5<=n->x.For= []\/(x.For≠ []/\M.kY n x.For=some true):=by
  by_cases h:x.For= []
  ·exact ⟨0,fun _ _=>.inl h⟩
  ·obtain ⟨n5,a5⟩:=Fp (hf.resolve_left h);exact ⟨n5,fun n hn=>.inr ⟨h,a5 n hn⟩⟩
 obtain ⟨n5,a5⟩:=hfor;refine ⟨n1+n2+n3+n4+n5,fun n hn=>?_⟩;obtain ⟨m,e1,e2,e3⟩:=h1 n;simp only [M.j3,e1,Option.bind_some,e2,e3,h2,D7 hk,a1 n (by omega),Bool.true_eq_false,if_false,if_true];rcases a5 n (by omega) with h | ⟨h,h5⟩
 ·have hb2:¬ (x.For !=([]:Str))=true:=by simp [h]
  rw [if_neg hb2];simp only [a2 n (by omega),Option.bind_some,Bool.true_eq_false,if_false,he,a3 n (by omega),if_true,a4 n (by omega)]
 ·have hb2:(x.For !=([]:Str))=true:=by simp [h]
  rw [if_pos hb2];simp only [h5,a2 n (by omega),Option.bind_some,Bool.true_eq_false,if_false,he,a3 n (by omega),if_true,a4 n (by omega)]
theorem rE{x y:ah}(hy:M.ol x=some y)(hyb:y.By= [])(hk:x.Kind<=6)(hl:∀ z,z∈x.At->z.Label.length<=100){g:Nat->Option Bool}{Q:Prop}(k:x=y->WV x.At=true->(x.For= []\/NameP x.For)->D6 x.Start->Chk g Q) :
  Chk (fun n=>Option.bind (M.ol x) fun told=>Option.bind (M.tJ n x told) fun same=>if same=false then some false else
   Option.bind (
      if x.Kind<=(6:Int) then
       Option.bind (M.vH n x.At) fun may=>
       if may=false then
        some true
       else
        if (x.For !=([]:Str))=true then
         Option.bind (M.tK n x.For) fun name=>
         if name=false then
          some true
         else
          Option.bind (M.rO n x.Start) fun start=>
          some (!start)
        else
         Option.bind (M.rO n x.Start) fun start1=>
         some (!start1)
      else
       some false
     ) fun v=>if v=true then some false else g n) Q:=by
 refine Chk.bindS hy (Chk.and0 (Oa x y hyb) fun e=>Chk.wrong (P:=WV x.At=true/\(x.For= []\/NameP x.For)/\D6 x.Start) (Nchk.ite (fun _=>Nchk.or0 (Chk.of (KV x.At fun z hz=>by have:=hl z hz;omega)) fun h1=>Nchk.ite (fun _=>Nchk.or0 (Xx _) fun h2=>Nchk.last (Chk.imp (Fq _) fun h3=>⟨h1,.inr h2,h3⟩)) fun h2=>Nchk.last (Chk.imp (Fq _) fun h3=>⟨h1,.inl (by simpa using h2),h3⟩)) fun h=>absurd hk h) fun ⟨h1,h2,h3⟩=>k e h1 h2 h3)
theorem Ue{u:aa}(h:(fmtT u).2=0):valT u=true:=by
 unfold fmtT at h;cases hv:valT u with
 | true=>rfl
 | false=>rw [hv] at h;simp at h
theorem K7{x:ah}(h:FewP x):smT x.Unit:=⟨by have:=h.cntU;omega,fun y hy=>by have:=h.labU y hy;unfold smallU;omega⟩
theorem Uf(x:ah)(hF:FewP x)(hk:0<=x.Kind/\x.Kind<=6):Chk (fun n=>M.nS n x) (zQ x):=by
 have hw:∀ y:ah,(0<=y.Where/\y.Where<=3)->M.qC y.Where=some true:=fun y h=>by
  simp only [M.qC];rw [Bz h];rfl
 have hn:∀ y:ah,(0<=y.Nth/\y.Nth<=256)->M.sK y=some true:=fun y h=>by
  simp only [M.sK];rw [Bz h];rfl
 refine Chk.succ ?_;simp only [M.nS];refine Chk.and0 (Bw _ _ _) fun _=>?_;have hcase:x.Kind=0\/x.Kind=1\/x.Kind=2\/x.Kind=3\/x.Kind=4\/x.Kind=5\/x.Kind=6:=by omega
 rcases hcase with h | h | h | h | h | h | h
 ·refine rE (y:=⟨x.Kind,x.At,[],x.Where,0,x.Unit,[],[],[],x.For,x.Start,0,0,0,[],[]⟩) (by simp [M.ol,h]) rfl hk.2 hF.atL fun e h1 h2 h3=>Chk.ite (fun _=>?_) fun h0=>absurd h h0;refine Chk.bind (VW x.Unit (K7 hF) (by have:=hF.cntU;omega)) (Chk.and1 (Bw _ _ _) fun h4=>Chk.and1 (QS x.Unit hF.labU (by have:=hF.cntU;omega)) fun h5=>Chk.ite (fun h6=>Chk.pure fun h7=>?_) fun _=>Chk.ff);have h7:=of_decide_eq_true h7;have hv:=Ue h7;refine ⟨hk,h1,?_,fun _=>⟨h4,hv,h6⟩,fun h'=>by omega,fun h'=>by omega,fun h'=>by omega,fun h'=>by omega,fun h'=>by omega⟩;refine sS x _ (fun n=>⟨fun s0=>M.qd s0,fun s0=>M.ni n s0⟩) (fun n=>⟨_,rfl,by rw [h];rfl,by rw [h];rfl⟩) (fun n=>rfl) ?_ hk h1 h2 h3 e.symm (congrArg ah.By e);simp only [M.ni,M.sU];refine To.bindS (hw x h4) (To.pos rfl (To.bind (a:=true) (To.bind (Qh x.Unit (K7 hF)) (To.bind (Ob (K7 hF) h5 hv) (To.pos rfl (To.pos h6 (To.pure.of (by rw [h7];rfl)))))) To.pure))
 ·refine rE (y:=⟨x.Kind,x.At,[],0,0,au,[],[],[],x.For,x.Start,0,0,0,[],[]⟩) (by simp [M.ol,h]) rfl hk.2 hF.atL fun e h1 h2 h3=>?_;have hval:To (fun n=>M.j3 n x) true:=sS x _ (fun n=>⟨fun s0=>M.qg s0,fun s0=>M.qh s0⟩) (fun n=>⟨_,rfl,by rw [h];rfl,by rw [h];rfl⟩) (fun n=>rfl) To.pure hk h1 h2 h3 e.symm (congrArg ah.By e);refine Chk.imp (P:=True) ⟨true,?_,fun _=>trivial⟩ fun _=>⟨hk,h1,hval,fun h'=>by omega,fun h'=>by omega,fun h'=>by omega,fun h'=>by omega,fun h'=>by omega,fun h'=>by omega⟩
  exact To.neg (by omega) (To.neg (by omega) (To.neg (by omega) (To.neg (by omega) (To.neg (by omega) (To.neg (by omega) (To.bind (a:=false) (To.neg (by omega) (To.neg (by omega) (To.pure.of (by rw [h];rfl)))) (To.neg (by simp) (To.neg (by omega) (To.neg (by omega) To.pure)))))))))
 ·refine rE (y:=⟨x.Kind,x.At,[],0,x.Nth,au,x.Old,x.New,[],x.For,x.Start,0,0,0,[],[]⟩) (by simp [M.ol,h]) rfl hk.2 hF.atL fun e h1 h2 h3=>Chk.ite (fun h0=>by omega) fun _=>Chk.ite (fun _=>?_) fun h0=>absurd h h0;refine Chk.and1 (AQ _ 1) fun h4=>Chk.and1 (AQ _ 0) fun h5=>Chk.last (Chk.imp (Bw _ _ _) fun h6=>?_);refine ⟨hk,h1,?_,fun h'=>by omega,fun _=>⟨h4,h5.1,h6.1⟩,fun h'=>by omega,fun h'=>by omega,fun h'=>by omega,fun h'=>by omega⟩;refine sS x _ (fun n=>⟨fun s0=>M.qi s0,fun s0=>M.nk n s0⟩) (fun n=>⟨_,rfl,by rw [h];rfl,by rw [h];rfl⟩) (fun n=>rfl) ?_ hk h1 h2 h3 e.symm (congrArg ah.By e);simp only [M.nk];exact To.bind (ym (k:=1) h4) (To.pos rfl (To.bind (ym (k:=0) h5) (To.pos rfl (To.bindS (hn x h6) To.pure))))
 ·refine rE (y:=⟨x.Kind,x.At,[],0,x.Nth,au,x.Old,x.New,[],x.For,x.Start,0,0,0,[],[]⟩) (by simp [M.ol,h]) rfl hk.2 hF.atL fun e h1 h2 h3=>Chk.ite (fun h0=>by omega) fun _=>Chk.ite (fun h0=>by omega) fun _=>Chk.ite (fun _=>?_) fun h0=>absurd h h0;refine Chk.and1 (AQ _ 0) fun h4=>Chk.and1 (AQ _ 1) fun h5=>Chk.and1 (Bw _ _ _) fun h6=>?_;have fin:(x.Old.length=0->x.Nth=0)->zQ x:=fun h7=>by
   refine ⟨hk,h1,?_,fun h'=>by omega,fun h'=>by omega,fun _=>⟨h4.1,h5,h6.1,h7⟩,fun h'=>by omega,fun h'=>by omega,fun h'=>by omega⟩;refine sS x _ (fun n=>⟨fun s0=>M.qj s0,fun s0=>M.nu n s0⟩) (fun n=>⟨_,rfl,by rw [h];rfl,by rw [h];rfl⟩) (fun n=>rfl) ?_ hk h1 h2 h3 e.symm (congrArg ah.By e);simp only [M.nu];refine To.bind (ym (k:=0) h4) (To.pos rfl (To.bind (ym (k:=1) h5) (To.pos rfl (To.bindS (hn x h6) (To.pos rfl (To.ite (fun _=>To.pure) fun h8=>To.pure.of ?_))))));rw [h7 (by omega)];rfl
  exact Chk.ite (fun h7=>Chk.pure fun _=>fin fun h8=>by omega) fun h7=>Chk.pure fun h8=>fin fun _=>of_decide_eq_true h8
 ·refine rE (y:=⟨x.Kind,x.At,[],0,0,au,[],x.New,[],x.For,x.Start,0,0,0,[],[]⟩) (by simp [M.ol,h]) rfl hk.2 hF.atL fun e h1 h2 h3=>Chk.ite (fun h0=>by omega) fun _=>Chk.ite (fun h0=>by omega) fun _=>Chk.ite (fun h0=>by omega) fun _=>Chk.ite (fun _=>?_) fun h0=>absurd h h0;refine Chk.last (Chk.imp (AQ _ 0) fun h4=>?_);refine ⟨hk,h1,?_,fun h'=>by omega,fun h'=>by omega,fun h'=>by omega,fun _=>h4.1,fun h'=>by omega,fun h'=>by omega⟩;refine sS x _ (fun n=>⟨fun s0=>M.ql s0,fun s0=>M.lX n s0⟩) (fun n=>⟨_,rfl,by rw [h];rfl,by rw [h];rfl⟩) (fun n=>rfl) ?_ hk h1 h2 h3 e.symm (congrArg ah.By e);simp only [M.lX];exact To.bind (ym (k:=0) h4) To.pure
 ·refine rE (y:=⟨x.Kind,x.At,[],0,0,au,[],[],x.Label,x.For,x.Start,0,0,0,[],[]⟩) (by simp [M.ol,h]) rfl hk.2 hF.atL fun e h1 h2 h3=>Chk.ite (fun h0=>by omega) fun _=>Chk.ite (fun h0=>by omega) fun _=>Chk.ite (fun h0=>by omega) fun _=>Chk.ite (fun h0=>by omega) fun _=>Chk.ite (fun _=>?_) fun h0=>absurd h h0;refine Chk.last (Chk.imp (Chk.of (may03 x.Label (by have:=hF.lab;omega))) fun h4=>?_);refine ⟨hk,h1,?_,fun h'=>by omega,fun h'=>by omega,fun h'=>by omega,fun h'=>by omega,fun _=>h4,fun h'=>by omega⟩;refine sS x _ (fun n=>⟨fun s0=>M.oz s0,fun s0=>M.lY n s0⟩) (fun n=>⟨_,rfl,by rw [h];rfl,by rw [h];rfl⟩) (fun n=>rfl) ?_ hk h1 h2 h3 e.symm (congrArg ah.By e);simp only [M.lY];exact To.bind ((tZ x.Label).of h4) To.pure
 ·refine rE (y:=⟨x.Kind,x.At,x.To,x.Where,0,au,[],[],[],x.For,x.Start,0,0,0,[],[]⟩) (by simp [M.ol,h]) rfl hk.2 hF.atL fun e h1 h2 h3=>Chk.ite (fun h0=>by omega) fun _=>Chk.ite (fun h0=>by omega) fun _=>Chk.ite (fun h0=>by omega) fun _=>Chk.ite (fun h0=>by omega) fun _=>Chk.ite (fun h0=>by omega) fun _=>Chk.ite (fun _=>?_) fun h0=>absurd h h0;refine Chk.and1 (Bw _ _ _) fun h4=>Chk.last (Chk.imp (Chk.of (KV x.To fun z hz=>by have:=hF.toL z hz;omega)) fun h5=>?_);refine ⟨hk,h1,?_,fun h'=>by omega,fun h'=>by omega,fun h'=>by omega,fun h'=>by omega,fun h'=>by omega,fun _=>⟨h4,h5⟩⟩;refine sS x _ (fun n=>⟨fun s0=>M.oC s0,fun s0=>M.lZ n s0⟩) (fun n=>⟨_,rfl,by rw [h];rfl,by rw [h];rfl⟩) (fun n=>rfl) ?_ hk h1 h2 h3 e.symm (congrArg ah.By e);simp only [M.lZ];exact To.bindS (hw x h4) (To.pos rfl (To.bind ((DN x.To).of h5) To.pure))
theorem K8(d:ak)(hF:FewP d.It):Chk (fun n=>M.uT n d) (zQ d.It/\To (fun n=>M.nS n d.It) true):=by
 simp only [M.uT,M.nR];by_cases h:0<=d.It.Kind/\d.It.Kind<=6
 ·refine Chk.bind (a:=true) (To.pos h.1 (To.pure.of (by simp [h.2]))) (Chk.ite (fun _=>Chk.last ?_) fun h=>absurd rfl h);obtain ⟨b,h1,h2⟩:=Uf d.It hF h;exact ⟨b,h1,fun e=>⟨h2 e,e▸h1⟩⟩
 ·refine Chk.bind (a:=false) ?_ (Chk.ite (fun h=>by cases h) fun _=>Chk.ff);by_cases h0:0<=d.It.Kind
  ·exact To.pos h0 (To.pure.of (by rw [decide_eq_false_iff_not];omega))
  ·exact To.neg h0 To.pure
theorem Od(l:List ak):Chk (fun n=>M.qb n l 8) (l.length<=8/\ ∀ d∈l,FewP d.It/\zQ d.It/\To (fun n=>M.nS n d.It) true):=by
 have loop:∀ (xs:List ak) (i:Nat),l.drop i=xs->∃ r,To (fun n=>M.cO l n (i:Int)) r/\(r= .inr false\/(r= .inl ()/\ ∀ d∈xs,FewP d.It/\zQ d.It/\To (fun n=>M.nS n d.It) true)):=by
  intro xs;induction xs with
  | nil=>intro i hx;exact ⟨.inl (),To.succ (by simp only [M.cO];exact To.neg (aS hx) To.pure),.inr ⟨rfl,fun b hb=>by cases hb⟩⟩
  | cons x xs ih=>
   intro i hx;obtain ⟨b,f1,f2⟩:=QT x.It;cases b with
   | false=>
    refine ⟨.inr false,To.succ ?_,.inl rfl⟩;simp only [M.cO];exact To.pos (aK hx) (To.bindS (aA hx) (To.bind f1 (To.pos rfl To.pure)))
   | true=>
    obtain ⟨c,g1,g2⟩:=K8 x (f2 rfl);cases c with
    | false=>
     refine ⟨.inr false,To.succ ?_,.inl rfl⟩;simp only [M.cO];exact To.pos (aK hx) (To.bindS (aA hx) (To.bind f1 (To.neg (by simp) (To.bindS (aA hx) (To.bind g1 (To.pos rfl To.pure))))))
    | true=>
     obtain ⟨r,h1,h2⟩:=ih (i+1) (aI hx);refine ⟨r,To.succ ?_,h2.imp id fun h=>⟨h.1,fun d hd=>?_⟩⟩
     ·simp only [M.cO];refine To.pos (aK hx) (To.bindS (aA hx) (To.bind f1 (To.neg (by simp) (To.bindS (aA hx) (To.bind g1 (To.neg (by simp) ?_))))));rw [bE];exact h1
     ·rcases List.mem_cons.1 hd with rfl | hd
      ·exact ⟨f2 rfl,g2 rfl⟩
      ·exact h.2 d hd
 simp only [M.qb];refine Chk.ite (fun _=>Chk.ff) fun h=>?_;obtain ⟨r,h1,h2⟩:=loop l 0 rfl;rcases h2 with rfl | ⟨rfl,h2⟩
 ·exact Chk.bind h1 Chk.ff
 ·exact Chk.bind h1 (Chk.pure fun _=>⟨by omega,h2⟩)
end Go.Proofs.YtapobcikfdbjiaaGreatDoor
