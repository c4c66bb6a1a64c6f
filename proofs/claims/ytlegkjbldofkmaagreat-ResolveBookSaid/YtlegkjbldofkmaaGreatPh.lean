/-
  Chapter 41: the meanings of all citations in a row of words and in a book, as plain mathematics.
-/
import Derived.Test.YtlegkjbldofkmaaGreatPg
set_option linter.unusedVariables false
set_option linter.unusedSimpArgs false
namespace Go.Proofs.YtlegkjbldofkmaaGreat
open Go Go.Dec
def WT(l:List api_Word):Prop:=l.length≤300∧ ∀ w∈l,w.Text.length≤100
def WTs(u:api_Unit):Prop:=∀ x∈desc u,WT x.Words
theorem shortT(l:List api_Word)(h:To (fun n=>M.r06_short n l) true):WT l:=by
 have loop:∀ (xs:List api_Word) (i:Nat),l.drop i=xs→To (fun n=>M.r06_short_loop1 l n (i:Int)) (.inr false)∨(To (fun n=>M.r06_short_loop1 l n (i:Int)) (.inl ())∧ ∀ w∈xs,w.Text.length≤100):=by
  intro xs
  induction xs with
  | nil=>
   intro i hx
   refine .inr ⟨To.succ ?_,fun w hw=>by cases hw⟩
   simp only [M.r06_short_loop1]
   exact To.neg (drop_end hx) To.pure
  | cons x xs ih=>
   intro i hx
   by_cases h:100<x.Text.length
   ·refine .inl (To.succ ?_)
    simp only [M.r06_short_loop1]
    exact To.pos (drop_lt hx) (To.bindS (drop_idx hx) (To.pos (by omega) To.pure))
   ·rcases ih (i+1) (drop_next hx) with h1 | ⟨h1,h2⟩
    ·refine .inl (To.succ ?_)
     simp only [M.r06_short_loop1]
     rw [cast_succ]
     exact To.pos (drop_lt hx) (To.bindS (drop_idx hx) (To.neg (by omega) h1))
    ·refine .inr ⟨To.succ ?_,fun w hw=>?_⟩
     ·simp only [M.r06_short_loop1]
      rw [cast_succ]
      exact To.pos (drop_lt hx) (To.bindS (drop_idx hx) (To.neg (by omega) h1))
     ·rcases List.mem_cons.1 hw with rfl | hw
      ·omega
      ·exact h2 w hw
 rcases loop l 0 rfl with h1 | ⟨h1,h2⟩
 ·have:To (fun n=>M.r06_short n l) false:=by
   simp only [M.r06_short]
   exact To.bind h1 To.pure
  cases h.det this
 ·have:To (fun n=>M.r06_short n l) (decide ((l.length:Int)≤300)):=by
   simp only [M.r06_short]
   exact To.bind h1 To.pure
  have e:=h.det this
  have:=of_decide_eq_true e.symm
  exact ⟨by omega,h2⟩
theorem wordsT(u:api_Unit):To (fun n=>M.r06_words n u) true→WTs u:=by
 refine uind (P:=fun u=>To (fun n=>M.r06_words n u) true→WTs u) ?_ u
 intro u ih h
 obtain ⟨b1,k1,_⟩:=short_ok u.Head
 obtain ⟨b2,k2,_⟩:=short_ok u.Words
 have hl:¬ 30<u.Label.length:=fun hl=>by
  have:To (fun n=>M.r06_words n u) false:=by
   refine To.succ ?_
   simp only [M.r06_words]
   exact To.bind (a:=true) (To.pos (by omega) To.pure) (To.pos rfl To.pure)
  cases h.det this
 have h1:b1=true:=by
  cases b1 with
  | true=>rfl
  | false=>
   have:To (fun n=>M.r06_words n u) false:=by
    refine To.succ ?_
    simp only [M.r06_words]
    exact To.bind (a:=true) (To.neg (by omega) (To.bind k1 (To.pos rfl To.pure))) (To.pos rfl To.pure)
   cases h.det this
 subst h1
 have h2:b2=true:=by
  cases b2 with
  | true=>rfl
  | false=>
   have:To (fun n=>M.r06_words n u) false:=by
    refine To.succ ?_
    simp only [M.r06_words]
    exact To.bind (a:=true) (To.neg (by omega) (To.bind k1 (To.neg (by simp) (To.bind k2 To.pure)))) (To.pos rfl To.pure)
   cases h.det this
 subst h2
 have loop:∀ (xs:List api_Unit) (slf:Nat→api_Unit→Option Bool) (i:Nat),u.Kids.drop i=xs→(∀ k,k∈xs→∃ b,To (fun n=>slf n k) b∧(b=true→WTs k))→
   To (fun n=>M.r06_words_loop1 u (slf n) n (i:Int)) (.inr false)∨(To (fun n=>M.r06_words_loop1 u (slf n) n (i:Int)) (.inl ())∧ ∀ k,k∈xs→WTs k):=by
  intro xs
  induction xs with
  | nil=>
   intro slf i hx hs
   refine .inr ⟨To.succ ?_,fun k hk=>by cases hk⟩
   simp only [M.r06_words_loop1]
   exact To.neg (drop_end hx) To.pure
  | cons x xs ih=>
   intro slf i hx hs
   obtain ⟨b,hb,hl⟩:=hs x (by simp)
   cases b with
   | false=>
    refine .inl (To.succ ?_)
    simp only [M.r06_words_loop1]
    exact To.pos (drop_lt hx) (To.bindS (drop_idx hx) (To.bind hb.shift (To.pos rfl To.pure)))
   | true=>
    rcases ih (fun n=>slf (n+1)) (i+1) (drop_next hx) (fun k hk=>by
     obtain ⟨b,h1,h2⟩:=hs k (by simp [hk])
     exact ⟨b,h1.shift,h2⟩) with h | ⟨h,hk⟩
    ·refine .inl (To.succ ?_)
     simp only [M.r06_words_loop1]
     refine To.pos (drop_lt hx) (To.bindS (drop_idx hx) (To.bind hb.shift (To.neg (by simp) ?_)))
     rw [cast_succ];exact h
    ·refine .inr ⟨To.succ ?_,fun k hk'=>?_⟩
     ·simp only [M.r06_words_loop1]
      refine To.pos (drop_lt hx) (To.bindS (drop_idx hx) (To.bind hb.shift (To.neg (by simp) ?_)))
      rw [cast_succ];exact h
     ·rcases List.mem_cons.1 hk' with rfl | hk'
      ·exact hl rfl
      ·exact hk k hk'
 have ha:To (fun n=>Option.bind (M.r06_short n u.Head) fun short=>if short=false then some true else Option.bind (M.r06_short n u.Words) fun short1=>some (!short1)) false:=
  To.bind k1 (To.neg (by simp) (To.bind k2 (To.pure.of (by simp))))
 rcases loop u.Kids (fun n=>M.r06_words n) 0 rfl (fun k hk=>by
  obtain ⟨b,hb,_⟩:=words_ok k
  exact ⟨b,hb,fun e=>ih k hk (e▸hb)⟩) with hx | ⟨hx,hk⟩
 ·have:To (fun n=>M.r06_words n u) false:=by
   refine To.succ ?_
   simp only [M.r06_words]
   exact To.bind (a:=false) (To.neg (by omega) ha) (To.neg (by simp) (To.bind hx To.pure))
  cases h.det this
 ·intro x hx'
  rw [desc_eq] at hx'
  rcases List.mem_cons.1 hx' with rfl | hx'
  ·exact shortT _ k2
  ·obtain ⟨k,h3,h4⟩:=List.mem_flatMap.1 hx'
   exact hk k h3 x h4
theorem bookT(u:api_Unit)(h:To (fun n=>M.law41_book n u) true):WTs u:=by
 obtain ⟨r,ht,q1,q2,q3⟩:=size_ok u 0 30 (by omega) (by omega) (by omega) (by omega)
 have hF:To (fun n=>M.r06_Few n u 30) true:=by
  obtain ⟨b,hb,_⟩:=few_ok u 30 (by omega) (by omega)
  cases b with
  | true=>exact hb
  | false=>
   have:To (fun n=>M.law41_book n u) false:=by
    simp only [M.law41_book]
    exact To.bind hb (To.neg (by simp) To.pure)
   cases h.det this
 by_cases hr:r≤30
 ·obtain ⟨b,hb,_⟩:=words_ok u
  have:To (fun n=>M.r06_Few n u 30) b:=by
   simp only [M.r06_Few]
   exact To.bind ht (To.pos hr (To.bind hb To.pure))
  have e:=hF.det this
  exact wordsT u (e▸hb)
 ·have:To (fun n=>M.r06_Few n u 30) false:=by
   simp only [M.r06_Few]
   exact To.bind ht (To.neg hr To.pure)
  cases hF.det this
theorem texts_w:∀ (w:List api_Word) (out:List Str),out.length+w.length≤1000000→M.resolve_ResolveWords_loop1 w out=some (out++w.map api_Word.Text)
 | [],out,_=>by simp [M.resolve_ResolveWords_loop1]
 | x :: w,out,h=>by
  simp only [List.length_cons] at h
  simp only [M.resolve_ResolveWords_loop1]
  rw [appC_eq (by simp;omega),Option.bind_some,texts_w w _ (by simp;omega)]
  simp
theorem texts_r(l:List api_Word)(hl:l.length≤1000000):To (fun n=>M.r06_Texts n l) (l.map api_Word.Text):=by
 have loop:∀ (xs:List api_Word) (i:Nat) (out:List Str),l.drop i=xs→out.length+xs.length≤1000000→To (fun n=>M.r06_Texts_loop1 l n out (i:Int)) (out++xs.map api_Word.Text):=by
  intro xs
  induction xs with
  | nil=>
   intro i out hx ho
   refine To.succ ?_
   simp only [M.r06_Texts_loop1]
   exact To.neg (drop_end hx) (To.pure.of (by simp))
  | cons x xs ih=>
   intro i out hx ho
   simp only [List.length_cons] at ho
   refine To.succ ?_
   simp only [M.r06_Texts_loop1]
   refine To.pos (drop_lt hx) (To.bindS (drop_idx hx) (To.bindS (appC_eq (by simp;omega)) ?_))
   rw [cast_succ]
   exact (ih (i+1) _ (drop_next hx) (by simp;omega)).of (by simp)
 simp only [M.r06_Texts]
 exact To.bind (loop l 0 [] rfl (by simp;omega)) (To.pure.of (by simp))
theorem scanF_all{l:List Str}:∀ (k i:Nat),∀ c∈scanF l k i,citeB c=true
 | 0,_,c,h=>by cases h
 | k+1,i,c,h=>by
  rw [scanF] at h
  by_cases hi:i<l.length
  ·rw [if_pos hi] at h
   by_cases hp:0<(longF l i).At
   ·rw [if_pos hp] at h
    rcases List.mem_cons.1 h with rfl | h
    ·obtain ⟨_,_,h1,_⟩:=long_place hp
     exact h1
    ·exact scanF_all k _ c h
   ·rw [if_neg hp] at h
    exact scanF_all k _ c h
  ·rw [if_neg hi] at h;cases h
theorem scanF_len{l:List Str}:∀ (k i:Nat),i≤l.length→(scanF l k i).length+i≤l.length
 | 0,i,h=>by simpa [scanF] using h
 | k+1,i,h=>by
  rw [scanF]
  by_cases hi:i<l.length
  ·rw [if_pos hi]
   by_cases hp:0<(longF l i).At
   ·rw [if_pos hp]
    obtain ⟨j,e,_,_,hj,_,h1,h2,_⟩:=long_place hp
    rw [hj,Int.toNat_natCast]
    have:=scanF_len (l:=l) k j h2
    simp only [List.length_cons]
    omega
   ·rw [if_neg hp]
    have:=scanF_len (l:=l) k (i+1) (by omega)
    omega
  ·rw [if_neg hi];simpa using h
def Mean(u:api_Unit)(at0:api_Id)(w:List api_Word)(R:List api_Meaning):Prop:=
 To (fun n=>M.resolve_ResolveWords n u at0 w) R∧To (fun n=>M.r41_All n u at0 w) R∧R.length≤w.length∧ ∀ m∈R,In u m.To
theorem mean_loop(u:api_Unit)(hc:cnt u≤30)(hl:labs u)(hg:Good u)(at0:api_Id)(scan:List api_Cite)(hs:scan.length≤1000)(hv:∀ c∈scan,citeB c=true) :
  ∀ (cs:List api_Cite) (i:Nat) (out:List api_Meaning) (said:List api_Id),scan.drop i=cs→out.length≤i→said.length≤40*i→(∀ m∈out,In u m.To)→
   ∃ R,To (fun n=>M.resolve_ResolveWords_loop2 n u at0 cs (i:Int) out said) R∧To (fun n=>M.r41_All_loop1 u at0 scan n out said (i:Int)) R∧R.length≤out.length+cs.length∧ ∀ m∈R,In u m.To:=by
 intro cs
 induction cs with
 | nil=>
  intro i out said hx ho hsd hm
  refine ⟨out,?_,To.succ ?_,by simp,hm⟩
  ·simp only [M.resolve_ResolveWords_loop2];exact To.pure
  ·simp only [M.r41_All_loop1]
   exact To.neg (drop_end hx) To.pure
 | cons c cs ih=>
  intro i out said hx ho hsd hm
  obtain ⟨h1,h2,h3⟩:=drop_cons hx
  have hcB:=hv c (List.mem_of_getElem? h2)
  obtain ⟨_,hto,hok⟩:=cite_small hcB
  obtain ⟨r,hr1,hr2,hin⟩:=resolve_same u hc hl hg at0 c said (by omega) (fun y hy=>by have:=(hok y hy).2.2.1;omega) (by omega)
  obtain ⟨R,q1,q2,q3,q4⟩:=ih (i+1) (out++ [⟨at0,(i:Int),r.1⟩]) (said++r.1) h3 (by simp;omega) (by
   rw [List.length_append]
   have:=hin.1
   omega) (fun m hm'=>by
    rcases List.mem_append.1 hm' with hm' | hm'
    ·exact hm m hm'
    ·rw [List.mem_singleton.1 hm'];exact hin)
  have hin1:=hin.1
  have ha1:appC out [(⟨at0,(i:Int),r.1⟩:api_Meaning)]=some (out++ [⟨at0,(i:Int),r.1⟩]):=appC_eq (by simp;omega)
  have ha2:appC said r.1=some (said++r.1):=appC_eq (by omega)
  have ha3:appC ([]:List api_Id) said=some said:=appC_eq (by simp;omega)
  refine ⟨R,?_,To.succ ?_,by simp at q3 ⊢;omega,q4⟩
  ·simp only [M.resolve_ResolveWords_loop2]
   refine To.bind hr1 (To.bindS ha1 (To.bindS ha2 ?_))
   rw [cast_succ]
   exact q1
  ·simp only [M.r41_All_loop1]
   refine To.pos (drop_lt hx) (To.bindS (drop_idx hx) (To.bind hr2 (To.bindS ha1 (To.bindS ha3 (To.bindS ha2 ?_)))))
   rw [cast_succ]
   exact q2
theorem mean_ex(u:api_Unit)(hc:cnt u≤30)(hl:labs u)(hg:Good u)(at0:api_Id)(w:List api_Word)(hw:WT w):∃ R,Mean u at0 w R:=by
 have hwl:=hw.1
 have hF:FineW (w.map api_Word.Text):=⟨by simp;omega,fun v hv=>by
  obtain ⟨x,hx,rfl⟩:=List.mem_map.1 hv
  have:=hw.2 x hx
  omega⟩
 have hsc:=scan_t hF (by simp;omega)
 have hrs:To (fun n=>M.r20_Scan n (w.map api_Word.Text)) (scanF (w.map api_Word.Text) ((w.map api_Word.Text).length+1) 0):=by
  simp only [M.r20_Scan]
  exact To.bind (rscan_loop hF (by simp;omega) ((w.map api_Word.Text).length+1) 0 [] (by omega) (by omega) (by simp)) (To.pure.of (by simp))
 have hlen:=scanF_len (l:=w.map api_Word.Text) ((w.map api_Word.Text).length+1) 0 (Nat.zero_le _)
 have hall:=scanF_all (l:=w.map api_Word.Text) ((w.map api_Word.Text).length+1) 0
 have hm:(w.map api_Word.Text).length=w.length:=by simp
 obtain ⟨R,q1,q2,q3,q4⟩:=mean_loop u hc hl hg at0 _ (by omega) hall _ 0 [] [] rfl (by simp) (by simp) (fun m hm=>by cases hm)
 refine ⟨R,?_,?_,by simp only [List.length_nil,Nat.zero_add,List.drop_zero] at q3;omega,q4⟩
 ·simp only [M.resolve_ResolveWords]
  exact To.bindS (texts_w w [] (by simp;omega)) (To.bind hsc (To.bind q1 To.pure))
 ·simp only [M.r41_All]
  exact To.bind (texts_r w (by omega)) (To.bind hrs (To.bind q2 To.pure))
theorem same41(a:List api_Meaning):To (fun n=>M.r41_Same n a a) true:=by
 have loop:∀ (xs:List api_Meaning) (i:Nat),a.drop i=xs→To (fun n=>M.r41_Same_loop1 a a n (i:Int)) (.inl ()):=by
  intro xs
  induction xs with
  | nil=>
   intro i hx
   refine To.succ ?_
   simp only [M.r41_Same_loop1]
   exact To.neg (drop_end hx) To.pure
  | cons x xs ih=>
   intro i hx
   refine To.succ ?_
   simp only [M.r41_Same_loop1]
   rw [cast_succ]
   have hi:=drop_idx hx
   exact To.pos (drop_lt hx) (To.bindS hi (To.bindS hi (To.neg (by simp) (To.bindS hi (To.bindS hi (To.neg (by simp) (To.bindS hi (To.bindS hi (To.bind (alike_same x.To) (To.neg (by simp) (ih (i+1) (drop_next hx))))))))))))
 simp only [M.r41_Same]
 exact To.neg (by simp) (To.bind (loop a 0 rfl) To.pure)
theorem wordlist_true(u:api_Unit)(at0:api_Id)(w:List api_Word):∃ n,M.law41_ResolveWordList n u at0 w=some true:=by
 refine To.ex ?_
 simp only [M.law41_ResolveWordList]
 refine To.bind awake41 (To.neg (by simp) ?_)
 obtain ⟨b,hb,hbk⟩:=book41 u
 cases b with
 | false=>exact To.bind (a:=true) (To.bind hb (To.pos rfl To.pure)) (To.pos rfl To.pure)
 | true=>
  obtain ⟨hc,hl,hg⟩:=hbk rfl
  by_cases h60:(60:Int)< (w.length:Int)
  ·exact To.bind (a:=true) (To.bind hb (To.neg (by simp) (To.pure.of (decide_eq_true h60)))) (To.pos rfl To.pure)
  ·refine To.bind (a:=false) (To.bind hb (To.neg (by simp) (To.pure.of (decide_eq_false h60)))) (To.neg (by simp) ?_)
   have loop:∀ (xs:List api_Word) (i:Nat),w.drop i=xs→To (fun n=>M.law41_ResolveWordList_loop1 w n (i:Int)) (.inr true)∨(To (fun n=>M.law41_ResolveWordList_loop1 w n (i:Int)) (.inl ())∧ ∀ x∈xs,x.Text.length≤100):=by
    intro xs
    induction xs with
    | nil=>
     intro i hx
     refine .inr ⟨To.succ ?_,fun y hy=>by cases hy⟩
     simp only [M.law41_ResolveWordList_loop1]
     exact To.neg (drop_end hx) To.pure
    | cons x xs ih=>
     intro i hx
     by_cases h:(100:Int)< (x.Text.length:Int)
     ·refine .inl (To.succ ?_)
      simp only [M.law41_ResolveWordList_loop1]
      exact To.pos (drop_lt hx) (To.bindS (drop_idx hx) (To.pos h To.pure))
     ·rcases ih (i+1) (drop_next hx) with h1 | ⟨h1,h2⟩
      ·refine .inl (To.succ ?_)
       simp only [M.law41_ResolveWordList_loop1]
       rw [cast_succ]
       exact To.pos (drop_lt hx) (To.bindS (drop_idx hx) (To.neg h h1))
      ·refine .inr ⟨To.succ ?_,fun y hy=>?_⟩
       ·simp only [M.law41_ResolveWordList_loop1]
        rw [cast_succ]
        exact To.pos (drop_lt hx) (To.bindS (drop_idx hx) (To.neg h h1))
       ·rcases List.mem_cons.1 hy with rfl | hy
        ·omega
        ·exact h2 y hy
   rcases loop w 0 rfl with h1 | ⟨h1,h2⟩
   ·exact To.bind h1 To.pure
   ·obtain ⟨R,q1,q2,_⟩:=mean_ex u hc hl hg at0 w ⟨by omega,h2⟩
    exact To.bind h1 (To.bind q1 (To.bind q2 (To.bind (same41 R) To.pure)))
inductive Means (u:api_Unit):List api_Unit→List api_Meaning→Prop
 | nil:Means u [] []
 | cons {x:api_Unit} {xs:List api_Unit} {R S:List api_Meaning}:Mean u x.Id x.Words R→Means u xs S→Means u (x :: xs) (R++S)
theorem means_ex(u:api_Unit)(hc:cnt u≤30)(hl:labs u)(hg:Good u):∀ xs:List api_Unit,(∀ x∈xs,WT x.Words)→∃ R,Means u xs R
 | [],_=>⟨[],.nil⟩
 | x :: xs,h=>by
  obtain ⟨R,hR⟩:=mean_ex u hc hl hg x.Id x.Words (h x List.mem_cons_self)
  obtain ⟨S,hS⟩:=means_ex u hc hl hg xs (fun y hy=>h y (List.mem_cons_of_mem _ hy))
  exact ⟨R++S,.cons hR hS⟩
theorem Means.split{u:api_Unit}:∀ {xs ys:List api_Unit} {R:List api_Meaning},Means u (xs++ys) R→∃ S T,R=S++T∧Means u xs S∧Means u ys T
 | [],ys,R,h=>⟨[],R,rfl,.nil,h⟩
 | x :: xs,ys,R,h=>by
  cases h with
  | cons h1 h2=>
   obtain ⟨S,T,e,h3,h4⟩:=Means.split h2
   exact ⟨_,T,by rw [e,List.append_assoc],.cons h1 h3,h4⟩
theorem Means.len{u:api_Unit}{B:Nat}:∀ {xs:List api_Unit} {R:List api_Meaning},Means u xs R→(∀ x∈xs,x.Words.length≤B)→R.length≤B*xs.length
 | [],R,h,_=>by cases h;simp
 | x :: xs,R,h,hb=>by
  cases h with
  | cons h1 h2=>
   have:=h1.2.2.1
   have h3:=hb x List.mem_cons_self
   have h4:=Means.len h2 (fun y hy=>hb y (List.mem_cons_of_mem _ hy))
   rw [List.length_append,List.length_cons,Nat.mul_succ]
   omega
theorem Means.inn{u:api_Unit}:∀ {xs:List api_Unit} {R:List api_Meaning},Means u xs R→∀ m∈R,In u m.To
 | [],R,h,m,hm=>by cases h;cases hm
 | x :: xs,R,h,m,hm=>by
  cases h with
  | cons h1 h2=>
   rcases List.mem_append.1 hm with hm | hm
   ·exact h1.2.2.2 m hm
   ·exact Means.inn h2 m hm
theorem book_walk(u:api_Unit)(x:api_Unit):WTs x→∀ (c R:List api_Meaning),c.length+300*cnt x≤1000000→Means u (desc x) R→To (fun n=>M.resolve_ResolveBook_1 n x c u) (c++R):=by
 refine uind (P:=fun x=>WTs x→∀ (c R:List api_Meaning),c.length+300*cnt x≤1000000→Means u (desc x) R→To (fun n=>M.resolve_ResolveBook_1 n x c u) (c++R)) ?_ x
 intro x ih hw c R hc hR
 have loop:∀ (ks:List api_Unit) (slf:Nat→api_Unit→List api_Meaning→api_Unit→Option (List api_Meaning)) (c R:List api_Meaning),c.length+300*(ks.map cnt).sum≤1000000→(∀ k∈ks,WTs k)→
   (∀ k∈ks,∀ (c R:List api_Meaning),c.length+300*cnt k≤1000000→Means u (desc k) R→To (fun n=>slf n k c u) (c++R))→Means u (ks.flatMap desc) R→
   To (fun n=>M.resolve_ResolveBook_1_loop1 u (slf n) ks c) (c++R):=by
  intro ks
  induction ks with
  | nil=>
   intro slf c R _ _ _ hR
   cases hR
   simp only [M.resolve_ResolveBook_1_loop1]
   exact To.pure.of (by simp)
  | cons k ks ihk=>
   intro slf c R hc hw hs hR
   rw [List.flatMap_cons] at hR
   obtain ⟨S,T,rfl,h1,h2⟩:=hR.split
   simp only [List.map_cons,List.sum_cons,Nat.mul_add] at hc
   have hS:=h1.len (B:=300) (fun y hy=>(hw k List.mem_cons_self y hy).1)
   have hS:S.length≤300*cnt k:=hS
   simp only [M.resolve_ResolveBook_1_loop1]
   refine To.bind (hs k List.mem_cons_self c S (by omega) h1) ?_
   refine (ihk slf (c++S) T (by rw [List.length_append];omega) (fun y hy=>hw y (List.mem_cons_of_mem _ hy)) (fun y hy=>hs y (List.mem_cons_of_mem _ hy)) h2).of (by simp)
 rw [desc_eq] at hR
 cases hR with
 | cons h1 h2=>
  rename_i R S
  have hl:=h1.2.2.1
  have hwx:=(hw x (desc_self x)).1
  have hce:=cnt_eq x
  rw [hce] at hc
  refine To.succ ?_
  simp only [M.resolve_ResolveBook_1]
  refine To.bind h1.1 (To.bindS (appC_eq (by omega)) (To.bind (loop x.Kids (fun n=>M.resolve_ResolveBook_1 n) (c++R) S (by rw [List.length_append];omega) (fun k hk y hy=>hw y (desc_kid hk hy)) (fun k hk c' R' h3 h4=>ih k hk (fun y hy=>hw y (desc_kid hk hy)) c' R' h3 h4) h2) (To.pure.of (by simp))))
theorem book_ref(u:api_Unit)(all:List api_Unit)(hall:∀ x∈all,x.Words.length≤300):∀ (xs:List api_Unit) (i:Nat) (out R:List api_Meaning),all.drop i=xs→out.length+300*xs.length≤1000000→Means u xs R→
  To (fun n=>M.r41_Book_loop1 u all n out (i:Int)) (out++R):=by
 intro xs
 induction xs with
 | nil=>
  intro i out R hx _ hR
  cases hR
  refine To.succ ?_
  simp only [M.r41_Book_loop1]
  exact To.neg (drop_end hx) (To.pure.of (by simp))
 | cons x xs ih=>
  intro i out R hx ho hR
  cases hR with
  | cons h1 h2=>
   rename_i R S
   have hl:=h1.2.2.1
   have hxw:=hall x (List.mem_of_getElem? (drop_cons hx).2.1)
   simp only [List.length_cons,Nat.mul_succ] at ho
   refine To.succ ?_
   simp only [M.r41_Book_loop1]
   refine To.pos (drop_lt hx) (To.bindS (drop_idx hx) (To.bindS (drop_idx hx) (To.bind h1.2.1 (To.bindS (appC_eq (by omega)) ?_))))
   rw [cast_succ]
   exact (ih (i+1) (out++R) S (drop_next hx) (by rw [List.length_append];omega) h2).of (by simp)
theorem book_chk(u:api_Unit)(R:List api_Meaning)(hR:R.length≤1000000)(hin:∀ m∈R,In u m.To):∀ (xs:List api_Meaning) (i:Nat),R.drop i=xs→To (fun n=>M.law41_ResolveBook_loop1 u R n (i:Int)) (.inl ()):=by
 intro xs
 induction xs with
 | nil=>
  intro i hx
  refine To.succ ?_
  simp only [M.law41_ResolveBook_loop1]
  exact To.neg (drop_end hx) To.pure
 | cons x xs ih=>
  intro i hx
  have hm:=hin x (List.mem_of_getElem? (drop_cons hx).2.1)
  have loop:∀ (ys:List api_Id) (k:Nat),x.To.drop k=ys→To (fun n=>M.law41_ResolveBook_loop2 u R (i:Int) n (k:Int)) (.inl ()):=by
   intro ys
   induction ys with
   | nil=>
    intro k hy
    refine To.succ ?_
    simp only [M.law41_ResolveBook_loop2]
    exact To.bindS (drop_idx hx) (To.neg (drop_end hy) To.pure)
   | cons y ys ihy=>
    intro k hy
    obtain ⟨z,hz,hzid⟩:=hm.2 y (List.mem_of_getElem? (drop_cons hy).2.1)
    obtain ⟨q,hq⟩:=find_some y u z hz hzid
    have hf:(findR y u).2=true:=by unfold findR;rw [hq]
    refine To.succ ?_
    simp only [M.law41_ResolveBook_loop2]
    refine To.bindS (drop_idx hx) (To.pos (drop_lt hy) (To.bindS (drop_idx hx) (To.bindS (drop_idx hy) (To.bind (find_r06 y u) (To.neg (by rw [hf];simp) ?_)))))
    rw [cast_succ]
    exact ihy (k+1) (drop_next hy)
  have hil:=(drop_cons hx).1
  refine To.succ ?_
  simp only [M.law41_ResolveBook_loop1]
  refine To.pos (drop_lt hx) (To.bind (loop x.To 0 rfl) (To.bindS (addC_succ (by omega)) ?_))
  exact ih (i+1) (drop_next hx)
theorem book_true(u:api_Unit):∃ n,M.law41_ResolveBook n u=some true:=by
 refine To.ex ?_
 simp only [M.law41_ResolveBook]
 refine To.bind awake41 (To.neg (by simp) ?_)
 obtain ⟨b,hb,hbk⟩:=book41 u
 cases b with
 | false=>exact To.bind hb (To.pos rfl To.pure)
 | true=>
  obtain ⟨hc,hl,hg⟩:=hbk rfl
  have hw:=bookT u hb
  obtain ⟨R,hR⟩:=means_ex u hc hl hg (desc u) hw
  have hlen:=hR.len (B:=300) (fun x hx=>(hw x hx).1)
  have hlen:R.length≤300*cnt u:=hlen
  have h1:=book_walk u u hw [] R (by simp;omega) hR
  have h2:=book_ref u (desc u) (fun x hx=>(hw x hx).1) (desc u) 0 [] R rfl (by show _+300*cnt u≤_;simp;omega) hR
  rw [List.nil_append] at h1 h2
  have h3:To (fun n=>M.resolve_ResolveBook n u) R:=by
   simp only [M.resolve_ResolveBook]
   exact To.bind h1 To.pure
  have h4:To (fun n=>M.r41_Book n u) R:=by
   simp only [M.r41_Book]
   exact To.bind (every_ok u (by omega)) (To.bind h2 To.pure)
  exact To.bind hb (To.neg (by simp) (To.bind h3 (To.bind (book_chk u R (by omega) hR.inn R 0 rfl) (To.bind h4 (To.bind (same41 R) To.pure)))))
end Go.Proofs.YtlegkjbldofkmaaGreat
