/-
  Chapter 11: a tree's own text is parsed to it: PlaintextFormatParse. Marks do not matter: PlaintextIgnoresMarks.
-/
import Derived.Test.YtofaogkcifaioaaGreatDoorPj
set_option linter.unusedVariables false
set_option linter.unusedSimpArgs false
namespace Go.Proofs.YtofaogkcifaioaaGreatDoor
open Go Go.Dec
def noN(s:Str):Prop:=∀ b∈s,32≤b.toNat
theorem noN_app{a b:Str}(ha:noN a)(hb:noN b):noN (a++b):=fun x hx=>(List.mem_append.1 hx).elim (ha x) (hb x)
theorem noN_cons{c:UInt8}{b:Str}(hc:32≤c.toNat)(hb:noN b):noN (c :: b):=fun x hx=>by
 rcases List.mem_cons.1 hx with rfl | hx
 ·exact hc
 ·exact hb x hx
theorem noN_nil:noN []:=fun x hx=>by cases hx
theorem lab_noN{s:Str}(h:labB s=true):noN s:=by
 unfold labB at h
 simp only [Bool.and_eq_true] at h
 intro b hm
 rw [←List.take_append_drop (s.takeWhile isDig).length s] at hm
 rcases List.mem_append.1 hm with hm | hm
 ·have e:s.take (s.takeWhile isDig).length=s.takeWhile isDig:=by
   have:=List.takeWhile_append_dropWhile (p:=isDig) (l:=s)
   calc s.take (s.takeWhile isDig).length=(s.takeWhile isDig++s.dropWhile isDig).take (s.takeWhile isDig).length:=by rw [this]
    _=s.takeWhile isDig:=by rw [List.take_append_of_le_length (Nat.le_refl _),List.take_length]
  rw [e] at hm
  have:∀ (l:Str),∀ b∈l.takeWhile isDig,isDig b=true:=by
   intro l
   induction l with
   | nil=>intro b hb;cases hb
   | cons x l ih=>
    intro b hb
    rw [List.takeWhile_cons] at hb
    split at hb
    ·rename_i hx
     rcases List.mem_cons.1 hb with rfl | hb
     ·exact hx
     ·exact ih b hb
    ·cases hb
  have h2:=this s b hm
  unfold isDig at h2
  simp only [Bool.and_eq_true,decide_eq_true_eq] at h2
  omega
 ·have h2:=List.all_eq_true.1 h.2 _ hm
  unfold isCap at h2
  simp only [Bool.and_eq_true,decide_eq_true_eq] at h2
  omega
theorem name_noN{k:Int}(h0:0≤k)(h1:k≤7):noN (nameOf k):=by
 obtain ⟨m,rfl⟩:∃ m:Nat,k=(m:Int):=⟨k.toNat,by omega⟩
 have hm:m=0∨m=1∨m=2∨m=3∨m=4∨m=5∨m=6∨m=7:=by omega
 rcases hm with rfl | rfl | rfl | rfl | rfl | rfl | rfl | rfl<;> (intro b hb;revert b;decide)
theorem word_noN{t:Str}(h:wordB t=true):noN t:=by
 intro b hb
 unfold wordB at h
 simp only [Bool.and_eq_true] at h
 have h2:=List.all_eq_true.1 h.2 b hb
 unfold chB at h2
 simp only [Bool.and_eq_true,decide_eq_true_eq] at h2
 omega
theorem esc_noN{t:Str}(h:noN t):noN (esc t):=by
 cases t with
 | nil=>exact noN_nil
 | cons c r=>
  rw [esc_cons]
  split
  ·exact noN_cons (by decide) h
  ·exact h
theorem put_noN:∀ {l:List api_Word},(∀ w∈l,wordB w.Text=true)→noN (putS l)
 | [],_=>noN_nil
 | w :: l,h=>by
  have e:putS (w :: l)=32 :: (esc w.Text++putS l):=rfl
  rw [e]
  exact noN_cons (by decide) (noN_app (esc_noN (word_noN (h w (by simp)))) (put_noN fun x hx=>h x (by simp [hx])))
theorem body_noN{u:api_Unit}(h:aloB u=true):noN (bodyS u):=by
 obtain ⟨k0,k7,hz,hl,hh,hw⟩:=alo_out h
 unfold bodyS
 refine noN_app (name_noN k0 k7) (noN_app ?_ (noN_app ?_ ?_))
 ·unfold labS
  split
  ·exact noN_nil
  ·rename_i hk;exact noN_cons (by decide) (lab_noN (hl hk))
 ·unfold headS
  split
  ·exact noN_nil
  ·exact noN_cons (by decide) (put_noN hh.2)
 ·unfold wordS
  split
  ·exact noN_nil
  ·exact noN_cons (by decide) (noN_cons (by decide) (put_noN hw.2))
theorem line_noN(u:api_Unit)(d:Int):noN (lineS u d):=by
 unfold lineS
 split
 ·rename_i h
  unfold okL at h
  simp only [Bool.and_eq_true] at h
  refine noN_app (fun b hb=>?_) (body_noN h.2)
  unfold spc at hb
  rw [(List.mem_replicate.1 hb).2];decide
 ·exact noN_nil
theorem lns_noN(l:List (api_Unit×Nat)):∀ s∈lns l,noN s:=by
 intro s hs
 obtain ⟨p,_,rfl⟩:=List.mem_map.1 hs
 exact line_noN _ _
theorem split_one{c:UInt8}:∀ (p s:Str),c ∉ p→splitC c (p++c :: s)=p :: splitC c s
 | [],s,_=>by
  show splitC c (c :: s)=_
  rw [splitC,if_pos rfl]
 | b :: p,s,h=>by
  simp only [List.mem_cons,not_or] at h
  have ih:=split_one p s h.2
  show splitC c (b :: (p++c :: s))=_
  rw [splitC,if_neg (fun e=>h.1 e.symm),ih]
theorem split_text:∀ l:List Str,(∀ s∈l,noN s)→splitC 10 (textN l)=l++ [[]]
 | [],_=>rfl
 | s :: l,h=>by
  have e:textN (s :: l)=s++10 :: textN l:=by simp [textN]
  rw [e,split_one s _ (fun hm=>by have:=h s (by simp) _ hm;revert this;decide),split_text l (fun x hx=>h x (by simp [hx]))]
  rfl
theorem bU_key(u:api_Unit):keyU (bU u)=keyU u:=rfl
theorem strip_key(l:List api_Unit):(l.map stripT).map keyU=l.map keyU:=by
 rw [List.map_map]
 exact List.map_congr_left fun k _=>key_strip k
theorem top_at:∀ (A:Stk) (p:api_Unit×List api_Unit) (r:Stk),topS (A++p :: r) A.length=some (p.1,p.2++treeOf r)
 | [],_,_=>rfl
 | _ :: A,p,r=>top_at A p r
theorem push_at:∀ (A:Stk) (p:api_Unit×List api_Unit) (r:Stk) (u:api_Unit),pushS (A++p :: r) A.length u=A++ [(p.1,p.2++treeOf r),(u,[])]
 | [],_,_,_=>rfl
 | q :: A,p,r,u=>by
  show q :: pushS (A++p :: r) A.length u=_
  rw [push_at A p r u];rfl
def sumC(l:List api_Unit):Nat:=(l.map cnt).sum
theorem tree_run(u:api_Unit):∀ (A:Stk) (c:Nat) (q:Str) (qs:List Str),(∀ x∈desc u,okU x=true)→A.length+dp u≤8→c+sumC u.Kids≤1024→
  ∃ ks r,goS (A++ [(bU u,[])]) c (lns (u.Kids.flatMap fun k=>pre k (A.length+1))++q :: qs)=goS (A++(bU u,ks) :: r) (c+sumC u.Kids) (q :: qs)∧ks++treeOf r=u.Kids.map stripT:=by
 refine uind (P:=fun u=>∀ (A:Stk) (c:Nat) (q:Str) (qs:List Str),(∀ x∈desc u,okU x=true)→A.length+dp u≤8→c+sumC u.Kids≤1024→
  ∃ ks r,goS (A++ [(bU u,[])]) c (lns (u.Kids.flatMap fun k=>pre k (A.length+1))++q :: qs)=goS (A++(bU u,ks) :: r) (c+sumC u.Kids) (q :: qs)∧ks++treeOf r=u.Kids.map stripT) ?_ u
 intro u ih A c q qs hok hdp hc
 have hself:=hok u (desc_self u)
 unfold okU kidB at hself
 simp only [Bool.and_eq_true,decide_eq_true_eq,List.all_eq_true] at hself
 obtain ⟨_,⟨hnest,hnd⟩,h64⟩:=hself
 have loop:∀ (l done:List api_Unit) (c:Nat) (ks:List api_Unit) (r:Stk),u.Kids=done++l→ks++treeOf r=done.map stripT→c+sumC l≤1024→
   ∃ ks2 r2,goS (A++(bU u,ks) :: r) c (lns (l.flatMap fun k=>pre k (A.length+1))++q :: qs)=goS (A++(bU u,ks2) :: r2) (c+sumC l) (q :: qs)∧ks2++treeOf r2=u.Kids.map stripT:=by
  intro l
  induction l with
  | nil=>
   intro done c ks r hd hk _
   refine ⟨ks,r,?_,?_⟩
   ·simp [lns,sumC]
   ·rw [hk,hd,List.append_nil]
  | cons k l ihl=>
   intro done c ks r hd hk hc
   have hkm:k∈u.Kids:=by rw [hd];simp
   have hsum:sumC (k :: l)=cnt k+sumC l:=by simp [sumC]
   rw [hsum] at hc
   have hck:=cnt_eq k
   have hdk:=(dp_le u (dp u)).1 (Nat.le_refl _) k hkm
   have hkok:=hok k (desc_kid hkm (desc_self k))
   have hkalo:aloB k=true:=by
    unfold okU at hkok
    simp only [Bool.and_eq_true] at hkok
    exact hkok.1
   have hokl:okL k ((A.length+1:Nat):Int)=true:=by
    unfold okL
    simp only [Bool.and_eq_true,decide_eq_true_eq]
    exact ⟨⟨by omega,by omega⟩,hkalo⟩
   have hrd:=rdL_line hokl
   have htop:=top_at A (bU u,ks) r
   simp only at htop
   rw [hk] at htop
   have hndk:keyU k ∉ done.map keyU:=by
    rw [hd,List.map_append,List.map_cons] at hnd
    intro hm
    exact (List.nodup_append.1 hnd).2.2 _ hm _ (by simp) rfl
   have hdl:done.length<64:=by
    rw [hd] at h64
    simp only [List.length_append,List.length_cons] at h64
    omega
   have herr:errS (A++(bU u,ks) :: r) c (bU k) (A.length+1)=0:=by
    show (match topS (A++(bU u,ks) :: r) A.length with | none=>(3:Int) | some (v,K)=>errT v K c (bU k))=0
    rw [htop]
    show errT (bU u) (done.map stripT) c (bU k)=0
    unfold errT
    rw [strip_key,bU_key,List.length_map]
    have:nestB (bU u).Kind (bU k).Kind=true:=hnest k hkm
    rw [this,if_neg (by simp),if_neg hndk,if_neg (by omega),if_neg (by omega)]
   have hline:lns ((k :: l).flatMap fun k=>pre k (A.length+1))++q :: qs=lineS k ((A.length+1:Nat):Int) :: (lns (k.Kids.flatMap fun k=>pre k (A.length+2))++(lns (l.flatMap fun k=>pre k (A.length+1))++q :: qs)):=by
    rw [List.flatMap_cons,pre_eq]
    simp [lns]
   obtain ⟨y,ys,hy⟩:∃ y ys,lns (l.flatMap fun k=>pre k (A.length+1))++q :: qs=y :: ys:=by
    cases lns (l.flatMap fun k=>pre k (A.length+1)) with
    | nil=>exact ⟨_,_,rfl⟩
    | cons y ys=>exact ⟨_,_,rfl⟩
   obtain ⟨z,zs,hz⟩:∃ z zs,lns (k.Kids.flatMap fun k=>pre k (A.length+2))++y :: ys=z :: zs:=by
    cases lns (k.Kids.flatMap fun k=>pre k (A.length+2)) with
    | nil=>exact ⟨_,_,rfl⟩
    | cons y ys=>exact ⟨_,_,rfl⟩
   have hck2:cnt k=1+sumC k.Kids:=hck
   obtain ⟨ks1,r1,g1,g2⟩:=ih k hkm (A++ [(bU u,done.map stripT)]) (c+1) y ys (fun x hx=>hok x (desc_kid hkm hx)) (by simp;omega) (by omega)
   have hlen:(A++ [(bU u,done.map stripT)]).length+1=A.length+2:=by simp
   rw [hlen,hz] at g1
   have hstep:goS (A++(bU u,ks) :: r) c (lineS k ((A.length+1:Nat):Int) :: (z :: zs))=goS (A++(bU u,done.map stripT) :: (bU k,ks1) :: r1) (c+cnt k) (y :: ys):=by
    rw [goS_some _ _ _ _ _ hrd,if_neg (by simpa using herr),next_succ,push_at]
    simp only
    rw [hk]
    rw [List.append_assoc] at g1
    have e:c+cnt k=c+1+sumC k.Kids:=by omega
    rw [e]
    refine Eq.trans ?_ (g1.trans ?_)
    ·rfl
    ·rw [List.append_assoc];rfl
   have htree:done.map stripT++treeOf ((bU k,ks1) :: r1)=(done++ [k]).map stripT:=by
    rw [List.map_append]
    congr 1
    show [{bU k with Kids:=ks1++treeOf r1}]= [stripT k]
    rw [g2,strip_eq_bU]
   obtain ⟨ks2,r2,q1,q2⟩:=ihl (done++ [k]) (c+cnt k) (done.map stripT) ((bU k,ks1) :: r1) (by rw [hd];simp) htree (by omega)
   refine ⟨ks2,r2,?_,q2⟩
   rw [hline,hy,hz,hstep,←hy,q1,hsum,Nat.add_assoc]
 obtain ⟨ks2,r2,q1,q2⟩:=loop u.Kids [] c [] [] rfl rfl hc
 exact ⟨ks2,r2,q1,q2⟩
theorem go_tree(u:api_Unit)(h:valT u=true):goS [] 0 (linesT u 0++ [[]])=(stripT u,(cnt u:Int),0):=by
 obtain ⟨hc,hd,hok⟩:=val_cnt h
 have hself:=hok u (desc_self u)
 have halo:aloB u=true:=by
  unfold okU at hself
  simp only [Bool.and_eq_true] at hself
  exact hself.1
 have hokl:okL u ((0:Nat):Int)=true:=by
  unfold okL
  simp only [Bool.and_eq_true,decide_eq_true_eq]
  exact ⟨⟨by omega,by omega⟩,halo⟩
 have hrd:=rdL_line hokl
 have hcu:cnt u=1+sumC u.Kids:=cnt_eq u
 obtain ⟨ks,r,g1,g2⟩:=tree_run u [] 1 [] [] hok (by simpa using hd) (by omega)
 have hline:linesT u 0++ [[]]=lineS u ((0:Nat):Int) :: (lns (u.Kids.flatMap fun k=>pre k 1)++ [[]]):=by
  unfold linesT
  rw [pre_eq]
  simp [lns]
 obtain ⟨z,zs,hz⟩:∃ z zs,lns (u.Kids.flatMap fun k=>pre k 1)++ [[]]=z :: zs:=by
  cases lns (u.Kids.flatMap fun k=>pre k 1) with
  | nil=>exact ⟨_,_,rfl⟩
  | cons y ys=>exact ⟨_,_,rfl⟩
 have g1':goS [(bU u,[])] 1 (z :: zs)=goS ((bU u,ks) :: r) (1+sumC u.Kids) [[]]:=by rw [←hz];exact g1
 rw [hline,hz,goS_some _ _ _ _ _ hrd,if_neg (by simp [errS])]
 show goS [(bU u,[])] 1 (z :: zs)=_
 rw [g1',goS_last,if_pos ⟨rfl,by simp⟩,←hcu]
 have:treeHd ((bU u,ks) :: r)= {bU u with Kids:=ks++treeOf r}:=rfl
 rw [this,g2,strip_eq_bU]
theorem lines_strip(u:api_Unit):∀ d,linesT (stripT u) d=linesT u d:=by
 refine uind (P:=fun u=>∀ d,linesT (stripT u) d=linesT u d) ?_ u
 intro u ih d
 unfold linesT lns at ih ⊢
 rw [pre_eq (stripT u),pre_eq u,List.map_cons,List.map_cons]
 have e1:lineS (stripT u) (d:Int)=lineS u (d:Int):=by rw [←line_bU (stripT u),bU_strip,line_bU]
 have e2:(stripT u).Kids=u.Kids.map stripT:=by rw [stripT_eq]
 rw [e2]
 simp only [e1]
 congr 1
 rw [List.map_flatMap,List.map_flatMap,List.flatMap_map,List.flatMap_def,List.flatMap_def]
 congr 1
 exact List.map_congr_left fun k hk=>ih k hk (d+1)
theorem fmt_strip(u:api_Unit):fmtT (stripT u)=fmtT u:=by
 unfold fmtT
 rw [lines_strip]
 have:valT (stripT u)=valT u:=by unfold valT;rw [all_strip,dp_strip,cnt_strip]
 rw [this]
theorem strip_idem(u:api_Unit):stripT (stripT u)=stripT u:=by
 refine uind (P:=fun u=>stripT (stripT u)=stripT u) ?_ u
 intro u ih
 rw [strip_eq_bU (stripT u),bU_strip,strip_eq_bU u]
 have:({bU u with Kids:=u.Kids.map stripT}:api_Unit).Kids.map stripT=u.Kids.map stripT:=by
  show (u.Kids.map stripT).map stripT=_
  rw [List.map_map]
  exact List.map_congr_left fun k hk=>ih k hk
 rw [this]
theorem pformatparse_true(u:api_Unit)(hb:big u):∃ n,M.law11_PlaintextFormatParse n u=some true:=by
 refine To.ex ?_
 simp only [M.law11_PlaintextFormatParse]
 obtain ⟨f,hf,hfl⟩:=few11 u hb
 cases f with
 | false=>exact To.bind (a:=true) (To.bind awake11 (To.neg (by simp) (To.bind hf (To.pure.of rfl)))) (To.pos rfl (To.bind awake11 To.pure))
 | true=>
  obtain ⟨h1,h2⟩:=hfl rfl
  refine To.bind (a:=false) (To.bind awake11 (To.neg (by simp) (To.bind hf (To.pure.of rfl)))) (To.neg (by simp) ?_)
  refine To.bind (format_p u h1) ?_
  by_cases hv:valT u=true
  ·by_cases hl:16384<(textN (linesT u 0)).length
   ·have he:fmtT u=([],6):=by unfold fmtT;rw [if_pos hv,if_pos hl]
    rw [he]
    exact To.pos (by simp) (To.pure.of rfl)
   ·have he:fmtT u=(textN (linesT u 0),0):=by unfold fmtT;rw [if_pos hv,if_neg hl]
    rw [he]
    have hp:=pparse_ok (textN (linesT u 0)) (by omega)
    have hpe:parseT (textN (linesT u 0))=(stripT u,(cnt u:Int),0):=by
     unfold parseT
     rw [if_neg hl,split_text (linesT u 0) (lns_noN _)]
     exact go_tree u hv
    rw [hpe] at hp
    have hf2:=format_p (stripT u) (small_strip h1)
    rw [fmt_strip,he] at hf2
    refine To.neg (by simp) (To.bind hp (To.bind hf2 (To.pos rfl (To.bind (count_ok u (by omega)) (To.pos rfl (To.bind (says_ok u (stripT u) (strip_idem u).symm) (To.pos rfl (To.bind (bare_ok (stripT u) (strip_idem u)) (To.pos rfl (To.pos rfl (To.pure.of ?_)))))))))))
    simp
  ·have he:fmtT u=([],1):=by unfold fmtT;rw [if_neg hv]
   rw [he]
   exact To.pos (by simp) (To.pure.of rfl)
theorem st_head(u:api_Unit)(n0 v:Int)(hl:u.Head.length≤10000000):∃ r,To (fun n=>M.law11_stamped_loop1 u n0 v n [] (0:Int)) r∧txts r=txts u.Head:=by
 have loop:∀ (xs:List api_Word) (i:Nat) (o:List api_Word),u.Head.drop i=xs→o.length+xs.length≤10000000→∃ r,To (fun n=>M.law11_stamped_loop1 u n0 v n o (i:Int)) r∧txts r=txts o++txts xs:=by
  intro xs
  induction xs with
  | nil=>
   intro i o hx _
   refine ⟨o,To.succ ?_,by simp [txts]⟩
   simp only [M.law11_stamped_loop1]
   exact To.neg (drop_end hx) To.pure
  | cons x xs ih=>
   intro i o hx ho
   simp only [List.length_cons] at ho
   obtain ⟨r,h1,h2⟩:=ih (i+1) (o++ [⟨x.Text,⟨n0,0,(i:Int)⟩⟩]) (drop_next hx) (by simp;omega)
   refine ⟨r,To.succ ?_,by rw [h2];simp [txts]⟩
   simp only [M.law11_stamped_loop1]
   refine To.pos (drop_lt hx) (To.bindS (drop_idx hx) (To.bindS (appC_eq (by simp;omega)) ?_))
   rw [cast_succ]
   exact h1
 obtain ⟨r,h1,h2⟩:=loop u.Head 0 [] rfl (by simp;omega)
 exact ⟨r,h1,by rw [h2];rfl⟩
theorem st_words(u:api_Unit)(n0 v:Int)(hl:u.Words.length≤10000000):∃ r,To (fun n=>M.law11_stamped_loop2 u n0 v n [] (0:Int)) r∧txts r=txts u.Words:=by
 have loop:∀ (xs:List api_Word) (i:Nat) (o:List api_Word),u.Words.drop i=xs→o.length+xs.length≤10000000→∃ r,To (fun n=>M.law11_stamped_loop2 u n0 v n o (i:Int)) r∧txts r=txts o++txts xs:=by
  intro xs
  induction xs with
  | nil=>
   intro i o hx _
   refine ⟨o,To.succ ?_,by simp [txts]⟩
   simp only [M.law11_stamped_loop2]
   exact To.neg (drop_end hx) To.pure
  | cons x xs ih=>
   intro i o hx ho
   simp only [List.length_cons] at ho
   obtain ⟨r,h1,h2⟩:=ih (i+1) (o++ [⟨x.Text,⟨n0,0,wrap64 (0-(i:Int))⟩⟩]) (drop_next hx) (by simp;omega)
   refine ⟨r,To.succ ?_,by rw [h2];simp [txts]⟩
   simp only [M.law11_stamped_loop2]
   refine To.pos (drop_lt hx) (To.bindS (drop_idx hx) (To.bindS (appC_eq (by simp;omega)) ?_))
   rw [cast_succ]
   exact h1
 obtain ⟨r,h1,h2⟩:=loop u.Words 0 [] rfl (by simp;omega)
 exact ⟨r,h1,by rw [h2];rfl⟩
theorem stamped_ok(u:api_Unit):smT u→(∀ x∈desc u,x.Kids.length≤1000)→∀ m:Nat,m+1000*dp u≤1000000→∃ r,To (fun n=>M.law11_stamped n u (m:Int)) r∧stripT r=stripT u:=by
 refine uind (P:=fun u=>smT u→(∀ x∈desc u,x.Kids.length≤1000)→∀ m:Nat,m+1000*dp u≤1000000→∃ r,To (fun n=>M.law11_stamped n u (m:Int)) r∧stripT r=stripT u) ?_ u
 intro u ih h hk m hm
 have hkl:=hk u (desc_self u)
 obtain ⟨_,s2,s3⟩:=smT_self h
 have loop:∀ (xs:List api_Unit) (i:Nat) (slf:Nat→api_Unit→Int→Option api_Unit) (o:List api_Unit),u.Kids.drop i=xs→o.length+xs.length≤1000→i+xs.length≤1000→(∀ k∈xs,∀ j:Nat,j≤1000→∃ r,To (fun n=>slf n k ((m+j:Nat):Int)) r∧stripT r=stripT k)→
   ∃ r,To (fun n=>M.law11_stamped_loop3 u (m:Int) ((m+1:Nat):Int) (slf n) n o (i:Int)) r∧r.map stripT=o.map stripT++xs.map stripT:=by
  intro xs
  induction xs with
  | nil=>
   intro i slf o hx _ _ _
   refine ⟨o,To.succ ?_,by simp⟩
   simp only [M.law11_stamped_loop3]
   exact To.neg (drop_end hx) To.pure
  | cons x xs ihl=>
   intro i slf o hx ho hi hs
   simp only [List.length_cons] at ho hi
   obtain ⟨y,hy,hy2⟩:=hs x (by simp) i (by omega)
   obtain ⟨r,h1,h2⟩:=ihl (i+1) (fun n=>slf (n+1)) (o++ [y]) (drop_next hx) (by simp;omega) (by omega) (fun k hk j hj=>by
    obtain ⟨r,q1,q2⟩:=hs k (by simp [hk]) j hj
    exact ⟨r,q1.shift,q2⟩)
   refine ⟨r,To.succ ?_,by rw [h2];simp [hy2]⟩
   simp only [M.law11_stamped_loop3]
   refine To.pos (drop_lt hx) (To.bindS (drop_idx hx) (To.bindS (addC_eq (by omega) (by omega)) ?_))
   rw [show (m:Int)+(i:Int)=((m+i:Nat):Int) by omega]
   refine To.bind hy.shift (To.bindS (appC_eq (by simp;omega)) ?_)
   rw [cast_succ]
   exact h1
 have hd:∀ k∈u.Kids,1+dp k≤dp u:=(dp_le u (dp u)).1 (Nat.le_refl _)
 obtain ⟨hs,hs1,hs2⟩:=st_head u (m:Int) ((m+1:Nat):Int) s2
 obtain ⟨ws,ws1,ws2⟩:=st_words u (m:Int) ((m+1:Nat):Int) s3
 obtain ⟨ks,ks1,ks2⟩:=loop u.Kids 0 (fun n=>M.law11_stamped n) [] rfl (by simp;omega) (by omega) (fun k hk2 j hj=>ih k hk2 (smT_kid h hk2) (fun x hx=>hk x (desc_kid hk2 hx)) (m+j) (by have:=hd k hk2;omega))
 refine ⟨{u with Id:=⟨(m:Int),1,((m+1:Nat):Int)⟩,Head:=hs,Words:=ws,Kids:=ks},To.succ ?_,?_⟩
 ·simp only [M.law11_stamped]
  exact To.bindS (addC_succ (by omega)) (To.bind hs1 (To.bind ws1 (To.bind ks1 (To.pure.of rfl))))
 ·rw [strip_eq_bU,strip_eq_bU u]
  have e1:bU ({u with Id:=⟨(m:Int),1,((m+1:Nat):Int)⟩,Head:=hs,Words:=ws,Kids:=ks}:api_Unit)=bU u:=by
   unfold bU
   simp only [hs2,ws2]
  rw [e1,ks2];rfl
theorem cnt_desc(u:api_Unit):∀ x,x∈desc u→cnt x≤cnt u:=by
 refine uind (P:=fun u=>∀ x,x∈desc u→cnt x≤cnt u) ?_ u
 intro u ih x hx
 rw [desc_eq] at hx
 rcases List.mem_cons.1 hx with rfl | hx
 ·exact Nat.le_refl _
 ·obtain ⟨k,hk,hx⟩:=List.mem_flatMap.1 hx
  have:=ih k hk x hx
  have:=cnt_kid hk
  omega
theorem small_of{u v:api_Unit}(h:smT u)(he:stripT v=stripT u):smT v:=by
 have hs:=small_strip h
 rw [←he] at hs
 refine ⟨by rw [←cnt_strip];exact hs.1,fun x hx=>?_⟩
 have h1:=hs.2 (stripT x) (by rw [desc_strip];exact List.mem_map.2 ⟨x,hx,rfl⟩)
 rw [stripT_eq] at h1
 unfold smallU at h1 ⊢
 simp only [M.bareWs,List.length_map] at h1
 exact h1
theorem all_loop:∀ (l:List Str) (o:Str),o.length+total l≤100000000→M.law11_PlaintextIgnoresMarks_loop1 l o=some (o++textN l)
 | [],o,_=>by simp [M.law11_PlaintextIgnoresMarks_loop1,textN]
 | s :: l,o,h=>by
  have ht:total (s :: l)=s.length+1+total l:=by simp [total]
  rw [ht] at h
  simp only [M.law11_PlaintextIgnoresMarks_loop1]
  rw [catC_eq (by simp;omega),Option.bind_some,catC_eq (by simp;omega),Option.bind_some,all_loop l _ (by simp;omega)]
  simp [textN]
theorem pmarks_true(u:api_Unit)(n0:Int)(hb:big u)(h0:0≤n0)(h255:n0≤255):∃ n,M.law11_PlaintextIgnoresMarks n u n0=some true:=by
 refine To.ex ?_
 simp only [M.law11_PlaintextIgnoresMarks]
 obtain ⟨f,hf,hfl⟩:=few11 u hb
 cases f with
 | false=>exact To.bind (a:=true) (To.bind awake11 (To.neg (by simp) (To.bind hf (To.pure.of rfl)))) (To.pos rfl (To.bind awake11 To.pure))
 | true=>
  obtain ⟨h1,h2⟩:=hfl rfl
  refine To.bind (a:=false) (To.bind awake11 (To.neg (by simp) (To.bind hf (To.pure.of rfl)))) (To.neg (by simp) ?_)
  obtain ⟨m,rfl⟩:∃ m:Nat,n0=(m:Int):=⟨n0.toNat,by omega⟩
  have hdc:=dp_cnt u
  have hkids:∀ x∈desc u,x.Kids.length≤1000:=by
   intro x hx
   have h3:=cnt_kids x
   have h4:cnt x≤cnt u:=cnt_desc u x hx
   omega
  obtain ⟨v,hv1,hv2⟩:=stamped_ok u h1 hkids m (by omega)
  have hfv:=format_p v (small_of h1 hv2)
  have he:fmtT v=fmtT u:=by rw [←fmt_strip v,hv2,fmt_strip]
  rw [he] at hfv
  have hlp:=lines_p u h1
  refine To.bind (format_p u h1) (To.bind hv1 (To.bind hfv (To.bind hlp ?_)))
  by_cases hv:valT u=true
  ·have hc:=val_cnt hv
   have ht:=total_lns (pre u 0)
   rw [pre_len] at ht
   have ht':total (linesT u 0)≤20017*1024:=Nat.le_trans ht (Nat.mul_le_mul_left _ hc.1)
   rw [if_pos hv]
   refine To.bindS (all_loop _ _ (by simp;omega)) (To.pos (by simp) (To.pos rfl ?_))
   rw [List.nil_append]
   by_cases hl:16384<(textN (linesT u 0)).length
   ·have he:fmtT u=([],6):=by unfold fmtT;rw [if_pos hv,if_pos hl]
    rw [he]
    exact To.pos (by simp) (To.pos (by simp) To.pure)
   ·have he:fmtT u=(textN (linesT u 0),0):=by unfold fmtT;rw [if_pos hv,if_neg hl]
    rw [he]
    exact To.neg (by simp) (To.pos (by simp) (To.pos (by simp) To.pure))
  ·have he:fmtT u=([],1):=by unfold fmtT;rw [if_neg hv]
   rw [if_neg hv,he]
   exact To.bindS (a:=[]) rfl (To.pos rfl (To.pos rfl (To.pos (by simp) (To.neg (by simp) (To.pure.of rfl)))))
end Go.Proofs.YtofaogkcifaioaaGreatDoor
