/-
  Trees, labels, addresses, paths: pieces that other chapters' texts hold too (picked by wip/scripts/pick.py).
-/
import Derived.Test.YtlegkjbldofkmaaGreatMdl
import Derived.Test.YtlegkjbldofkmaaGreatEv
import Derived.Test.YtlegkjbldofkmaaGreatDec13
import Derived.KernelRfl
set_option linter.unusedVariables false
set_option linter.unusedSimpArgs false
namespace Go.Proofs.YtlegkjbldofkmaaGreat
open Go Go.Dec
theorem kid_lt{u k:api_Unit}(h:k∈u.Kids):SizeOf.sizeOf k<SizeOf.sizeOf u:=by
 cases u
 have:=List.sizeOf_lt_of_mem h
 simp at this ⊢
 omega
theorem uind{P:api_Unit→Prop}(h:∀ u,(∀ k,k∈u.Kids→P k)→P u)(u:api_Unit):P u:=
 h u (fun k hk=>uind h k)
termination_by SizeOf.sizeOf u
decreasing_by exact kid_lt hk
def desc(u:api_Unit):List api_Unit:=u :: u.Kids.attach.flatMap (fun k=>desc k.1)
termination_by SizeOf.sizeOf u
decreasing_by exact kid_lt k.2
theorem desc_eq(u:api_Unit):desc u=u :: u.Kids.flatMap desc:=by
 rw [desc]
 congr 1
 have:∀ l:List api_Unit,l.attach.flatMap (fun k=>desc k.1)=l.flatMap desc:=by
  intro l
  rw [List.flatMap_def,List.flatMap_def]
  congr 1
  rw [show (fun k:{x // x∈l}=>desc k.1)=desc ∘ Subtype.val from rfl,←List.map_map,List.attach_map_subtype_val]
 exact this _
def cnt(u:api_Unit):Nat:=(desc u).length
theorem cnt_eq(u:api_Unit):cnt u=1+(u.Kids.map cnt).sum:=by
 unfold cnt
 rw [desc_eq]
 simp [List.length_flatMap]
 omega
theorem cnt_pos(u:api_Unit):1≤cnt u:=by rw [cnt_eq];omega
theorem sum_mem{α:Type}(f:α→Nat):∀ {l:List α} {x:α},x∈l→f x≤(l.map f).sum
 | y :: l,x,h=>by
  rcases List.mem_cons.1 h with rfl | h
  ·simp
  ·have:=sum_mem f h
   simp;omega
theorem sum_len{α:Type}(f:α→Nat)(h:∀ x,1≤f x):∀ l:List α,l.length≤(l.map f).sum
 | []=>by simp
 | x :: l=>by
  have:=sum_len f h l
  have:=h x
  simp;omega
theorem cnt_kid{u k:api_Unit}(h:k∈u.Kids):cnt k<cnt u:=by
 rw [cnt_eq u]
 have:=sum_mem cnt h
 omega
theorem cnt_kids(u:api_Unit):u.Kids.length<cnt u:=by
 rw [cnt_eq u]
 have:=sum_len cnt cnt_pos u.Kids
 omega
theorem size_loop(u:api_Unit)(deep most:Int)(hd0:0≤deep)(hd:deep≤20)(hm0:0≤most)(hm:most≤1000000):∀ (xs:List api_Unit) (slf:Nat→api_Unit→Int→Int→Option Int) (i:Nat) (n0:Int),u.Kids.drop i=xs→
  (∀ k,k∈xs→∀ m:Int,0≤m→m≤1000000→∃ r,To (fun n=>slf n k (deep+1) m) r∧1≤r∧r≤m+1∧(r≤m→(cnt k:Int)≤r))→(i:Int)+1≤n0→n0≤most+1→
  ∃ r,To (fun n=>M.r06_size_loop1 u deep most (slf n) n n0 (i:Int)) r∧n0≤r∧r≤most+1∧(r≤most→n0+((xs.map cnt).sum:Nat)≤r)
 | [],slf,i,n0,hx,hs,h1,h2=>by
  refine ⟨n0,To.succ ?_,by omega,h2,fun h=>by simp⟩
  simp only [M.r06_size_loop1]
  refine To.bind (a:=false) (To.neg (drop_end hx) To.pure) ?_
  exact To.neg (by simp) To.pure
 | x :: xs,slf,i,n0,hx,hs,h1,h2=>by
  by_cases hle:n0≤most
  ·obtain ⟨r1,ht1,hr1,hr2,hr3⟩:=hs x (by simp) (most-n0) (by omega) (by omega)
   have ih:=size_loop u deep most hd0 hd hm0 hm xs (fun n=>slf (n+1)) (i+1) (n0+r1) (drop_next hx) (fun k hk m a b=>by
    obtain ⟨r,h1,h2⟩:=hs k (by simp [hk]) m a b
    exact ⟨r,h1.shift,h2⟩) (by omega) (by omega)
   obtain ⟨r,ht,q1,q2,q3⟩:=ih
   refine ⟨r,To.succ ?_,by omega,q2,fun h=>?_⟩
   ·simp only [M.r06_size_loop1]
    refine To.bind (a:=true) (To.pos (drop_lt hx) (To.pure.of (by simp [hle]))) ?_
    refine To.pos rfl ?_
    refine To.bindS (drop_idx hx) ?_
    refine To.bindS (addC_eq (by omega) (by omega)) ?_
    refine To.bindS (subC_eq (by omega) (by omega)) ?_
    refine To.bind ht1.shift ?_
    refine To.bindS (addC_eq (by omega) (by omega)) ?_
    refine To.bindS (addC_succ (by omega)) ?_
    exact ht
   ·have:=q3 h
    have:=hr3 (by omega)
    simp only [List.map_cons,List.sum_cons]
    omega
  ·refine ⟨n0,To.succ ?_,by omega,h2,fun h=>by omega⟩
   simp only [M.r06_size_loop1]
   refine To.bind (a:=false) (To.pos (drop_lt hx) (To.pure.of (by simp;omega))) ?_
   exact To.neg (by simp) To.pure
theorem size_ok(u:api_Unit):∀ (deep most:Int),0≤deep→deep≤21→0≤most→most≤1000000→∃ r,To (fun n=>M.r06_size n u deep most) r∧1≤r∧r≤most+1∧(r≤most→(cnt u:Int)≤r):=by
 refine uind (P:=fun u=>∀ (deep most:Int),0≤deep→deep≤21→0≤most→most≤1000000→∃ r,To (fun n=>M.r06_size n u deep most) r∧1≤r∧r≤most+1∧(r≤most→(cnt u:Int)≤r)) ?_ u
 intro u ih deep most h1 h2 h3 h4
 by_cases hd:20<deep
 ·refine ⟨most+1,To.succ ?_,by omega,by omega,fun h=>by omega⟩
  simp only [M.r06_size]
  refine To.pos hd (To.bindS (addC_eq (by omega) (by omega)) To.pure)
 ·obtain ⟨r,ht,q1,q2,q3⟩:=size_loop u deep most h1 (by omega) h3 h4 u.Kids (fun n=>M.r06_size n) 0 1 rfl (fun k hk m a b=>ih k hk (deep+1) m (by omega) (by omega) a b) (by omega) (by omega)
  refine ⟨r,To.succ ?_,q1,q2,fun h=>?_⟩
  ·simp only [M.r06_size]
   refine To.neg hd (To.bind ht To.pure)
  ·rw [cnt_eq]
   have:=q3 h
   omega
theorem short_ok(l:List api_Word):∃ b,To (fun n=>M.r06_short n l) b∧(b=true→l.length≤300):=by
 have loop:∀ (xs:List api_Word) (i:Nat),l.drop i=xs→∃ c:Unit ⊕ Bool,To (fun n=>M.r06_short_loop1 l n (i:Int)) c∧(c= .inl ()∨c= .inr false):=by
  intro xs
  induction xs with
  | nil=>
   intro i hx
   refine ⟨.inl (),To.succ ?_,.inl rfl⟩
   simp only [M.r06_short_loop1]
   exact To.neg (drop_end hx) To.pure
  | cons x xs ih=>
   intro i hx
   by_cases h:100<x.Text.length
   ·refine ⟨.inr false,To.succ ?_,.inr rfl⟩
    simp only [M.r06_short_loop1]
    exact To.pos (drop_lt hx) (To.bindS (drop_idx hx) (To.pos (by omega) To.pure))
   ·obtain ⟨c,h1,h2⟩:=ih (i+1) (drop_next hx)
    refine ⟨c,To.succ ?_,h2⟩
    simp only [M.r06_short_loop1]
    rw [cast_succ]
    exact To.pos (drop_lt hx) (To.bindS (drop_idx hx) (To.neg (by omega) h1))
 obtain ⟨c,h1,h2⟩:=loop l 0 rfl
 simp only [M.r06_short]
 rcases h2 with rfl | rfl
 ·exact ⟨_,To.bind h1 To.pure,fun h=>by have:=of_decide_eq_true h;omega⟩
 ·exact ⟨_,To.bind h1 To.pure,fun h=>by cases h⟩
theorem desc_self(u:api_Unit):u∈desc u:=by rw [desc_eq];simp
theorem desc_kid{u k x:api_Unit}(hk:k∈u.Kids)(hx:x∈desc k):x∈desc u:=by
 rw [desc_eq]
 exact List.mem_cons_of_mem _ (List.mem_flatMap.2 ⟨k,hk,hx⟩)
def labs(u:api_Unit):Prop:=∀ x,x∈desc u→x.Label.length≤5000∧x.Head.length≤5000∧x.Words.length≤5000
theorem labs_kid{u k:api_Unit}(h:labs u)(hk:k∈u.Kids):labs k:=fun x hx=>h x (desc_kid hk hx)
theorem words_ok(u:api_Unit):∃ b,To (fun n=>M.r06_words n u) b∧(b=true→labs u):=by
 refine uind (P:=fun u=>∃ b,To (fun n=>M.r06_words n u) b∧(b=true→labs u)) ?_ u
 intro u ih
 have loop:∀ (xs:List api_Unit) (slf:Nat→api_Unit→Option Bool) (i:Nat),u.Kids.drop i=xs→(∀ k,k∈xs→∃ b,To (fun n=>slf n k) b∧(b=true→labs k))→
   To (fun n=>M.r06_words_loop1 u (slf n) n (i:Int)) (.inr false)∨(To (fun n=>M.r06_words_loop1 u (slf n) n (i:Int)) (.inl ())∧ ∀ k,k∈xs→labs k):=by
  intro xs
  induction xs with
  | nil=>
   intro slf i hx hs
   refine .inr ⟨To.succ ?_,fun k hk=>by cases hk⟩
   simp only [M.r06_words_loop1]
   exact To.neg (drop_end hx) To.pure
  | cons x xs ih=>
   intro slf i hx hs
   obtain ⟨b,hb,hl⟩:=hs x (by simp)
   cases b with
   | false=>
    refine .inl (To.succ ?_)
    simp only [M.r06_words_loop1]
    exact To.pos (drop_lt hx) (To.bindS (drop_idx hx) (To.bind hb.shift (To.pos rfl To.pure)))
   | true=>
    rcases ih (fun n=>slf (n+1)) (i+1) (drop_next hx) (fun k hk=>by
     obtain ⟨b,h1,h2⟩:=hs k (by simp [hk])
     exact ⟨b,h1.shift,h2⟩) with h | ⟨h,hk⟩
    ·refine .inl (To.succ ?_)
     simp only [M.r06_words_loop1]
     refine To.pos (drop_lt hx) (To.bindS (drop_idx hx) (To.bind hb.shift (To.neg (by simp) ?_)))
     rw [cast_succ];exact h
    ·refine .inr ⟨To.succ ?_,fun k hk'=>?_⟩
     ·simp only [M.r06_words_loop1]
      refine To.pos (drop_lt hx) (To.bindS (drop_idx hx) (To.bind hb.shift (To.neg (by simp) ?_)))
      rw [cast_succ];exact h
     ·rcases List.mem_cons.1 hk' with rfl | hk'
      ·exact hl rfl
      ·exact hk k hk'
 by_cases hlab:30<u.Label.length
 ·refine ⟨false,To.succ ?_,fun h=>by cases h⟩
  simp only [M.r06_words]
  exact To.bind (a:=true) (To.pos (by omega) To.pure) (To.pos rfl To.pure)
 ·obtain ⟨b1,k1,l1⟩:=short_ok u.Head
  obtain ⟨b2,k2,l2⟩:=short_ok u.Words
  have ha:To (fun n=>Option.bind (M.r06_short n u.Head) fun short=>if short=false then some true else Option.bind (M.r06_short n u.Words) fun short1=>some (!short1)) (!(b1 && b2)):=by
   refine To.bind k1 ?_
   cases b1 with
   | false=>exact To.pos rfl To.pure
   | true=>exact To.neg (by simp) (To.bind k2 (To.pure.of (by simp)))
  cases hb:(b1 && b2) with
  | false=>
   rw [hb] at ha
   refine ⟨false,To.succ ?_,fun h=>by cases h⟩
   simp only [M.r06_words]
   exact To.bind (a:=true) (To.neg (by omega) ha) (To.pos rfl To.pure)
  | true=>
   rw [hb] at ha
   rw [Bool.and_eq_true] at hb
   have e1:=l1 hb.1
   have e2:=l2 hb.2
   rcases loop u.Kids (fun n=>M.r06_words n) 0 rfl ih with h | ⟨h,hk⟩
   ·refine ⟨false,To.succ ?_,fun h=>by cases h⟩
    simp only [M.r06_words]
    exact To.bind (a:=false) (To.neg (by omega) ha) (To.neg (by simp) (To.bind h To.pure))
   ·refine ⟨true,To.succ ?_,fun _ x hx=>?_⟩
    ·simp only [M.r06_words]
     exact To.bind (a:=false) (To.neg (by omega) ha) (To.neg (by simp) (To.bind h To.pure))
    ·rw [desc_eq] at hx
     rcases List.mem_cons.1 hx with rfl | hx
     ·exact ⟨by omega,by omega,by omega⟩
     ·obtain ⟨k,h1,h2⟩:=List.mem_flatMap.1 hx
      exact hk k h1 x h2
theorem few_ok(u:api_Unit)(most:Int)(h0:0≤most)(h1:most≤1000000):∃ b,To (fun n=>M.r06_Few n u most) b∧(b=true→(cnt u:Int)≤most∧labs u):=by
 obtain ⟨r,ht,q1,q2,q3⟩:=size_ok u 0 most (by omega) (by omega) h0 h1
 by_cases hr:r≤most
 ·obtain ⟨b,hb,hl⟩:=words_ok u
  refine ⟨b,?_,fun h=>⟨by have:=q3 hr;omega,hl h⟩⟩
  simp only [M.r06_Few]
  exact To.bind ht (To.pos hr (To.bind hb To.pure))
 ·refine ⟨false,?_,fun h=>by cases h⟩
  simp only [M.r06_Few]
  exact To.bind ht (To.neg hr To.pure)
theorem texts_tot(l:List api_Word)(hl:l.length≤1000):Tot (fun n=>M.r06_Texts n l):=by
 have loop:∀ (xs:List api_Word) (i:Nat) (out:List Str),l.drop i=xs→out.length+xs.length≤1000→Tot (fun n=>M.r06_Texts_loop1 l n out (i:Int)):=by
  intro xs
  induction xs with
  | nil=>
   intro i out hx _
   refine Tot.succ ?_
   simp only [M.r06_Texts_loop1]
   exact Tot.neg (drop_end hx) Tot.pure
  | cons x xs ih=>
   intro i out hx h
   simp only [List.length_cons] at h
   refine Tot.succ ?_
   simp only [M.r06_Texts_loop1]
   refine Tot.pos (drop_lt hx) (Tot.bindS (drop_idx hx) (Tot.bindS (appC_eq (by simp;omega)) ?_))
   rw [cast_succ]
   exact ih (i+1) _ (drop_next hx) (by simp;omega)
 simp only [M.r06_Texts]
 exact Tot.bind (loop l 0 [] rfl (by simpa using hl)) fun _ _=>Tot.pure
theorem word_tot(s:Str):Tot (fun n=>M.r04_Word n s):=by
 have loop:∀ (xs:Str) (i:Nat),s.drop i=xs→Tot (fun n=>M.r04_Word_loop1 s n (i:Int)):=by
  intro xs
  induction xs with
  | nil=>
   intro i hx
   refine Tot.succ ?_
   simp only [M.r04_Word_loop1]
   exact Tot.neg (drop_end hx) Tot.pure
  | cons x xs ih=>
   intro i hx
   refine Tot.succ ?_
   simp only [M.r04_Word_loop1]
   refine Tot.pos (drop_lt hx) (Tot.bindS (drop_idx hx) (Tot.ite (fun _=>Tot.pure) fun _=>Tot.bindS (drop_idx hx) (Tot.ite (fun _=>Tot.pure) fun _=>?_)))
   rw [cast_succ]
   exact ih (i+1) (drop_next hx)
 simp only [M.r04_Word]
 refine Tot.bind (Tot.ite (fun _=>Tot.pure) fun _=>Tot.pure) fun a _=>Tot.ite (fun _=>Tot.pure) fun _=>Tot.bind (loop s 0 rfl) fun b _=>?_
 cases b<;> exact Tot.pure
theorem may04_tot(l:List Str):Tot (fun n=>M.r04_May n l):=by
 have loop:∀ (xs:List Str) (i:Nat),l.drop i=xs→Tot (fun n=>M.r04_May_loop1 l n (i:Int)):=by
  intro xs
  induction xs with
  | nil=>
   intro i hx
   refine Tot.succ ?_
   simp only [M.r04_May_loop1]
   exact Tot.neg (drop_end hx) Tot.pure
  | cons x xs ih=>
   intro i hx
   refine Tot.succ ?_
   simp only [M.r04_May_loop1]
   refine Tot.pos (drop_lt hx) (Tot.bindS (drop_idx hx) (Tot.bind (word_tot x) fun _ _=>Tot.ite (fun _=>Tot.pure) fun _=>?_))
   rw [cast_succ]
   exact ih (i+1) (drop_next hx)
 simp only [M.r04_May]
 refine Tot.ite (fun _=>Tot.pure) fun _=>Tot.bind (loop l 0 rfl) fun b _=>?_
 cases b<;> exact Tot.pure
theorem row_tot(l:List api_Word):Tot (fun n=>M.r06_row n l):=by
 simp only [M.r06_row]
 exact Tot.ite (fun h=>Tot.bind (texts_tot l (by omega)) fun _ _=>Tot.bind (may04_tot _) fun _ _=>Tot.pure) fun _=>Tot.pure
def isDig(b:UInt8):Bool:=decide (48≤b.toNat) && decide (b.toNat≤57)
def isCap(b:UInt8):Bool:=decide (65≤b.toNat) && decide (b.toNat≤90)
def labB(s:Str):Bool:=
 let d:=(s.takeWhile isDig).length
 decide (1≤d) && decide (d≤4) && decide (s.head? ≠some 48) && decide (s.length-d≤3) && (s.drop d).all isCap
theorem digits03(s:Str):To (fun n=>M.r03_digits n s) ((s.takeWhile isDig).length:Int):=by
 have loop:∀ (xs:Str) (i:Nat),s.drop i=xs→To (fun n=>M.r03_digits_loop1 s n (i:Int)) ((i+(xs.takeWhile isDig).length:Nat):Int):=by
  intro xs
  induction xs with
  | nil=>
   intro i hx
   refine To.succ ?_
   simp only [M.r03_digits_loop1]
   exact To.neg (drop_end hx) (To.pure.of (by simp))
  | cons x xs ih=>
   intro i hx
   refine To.succ ?_
   simp only [M.r03_digits_loop1]
   refine To.pos (drop_lt hx) (To.bindS (drop_idx hx) ?_)
   by_cases h1:48≤x.toNat
   ·refine To.pos (by omega) (To.bindS (drop_idx hx) ?_)
    by_cases h2:x.toNat≤57
    ·refine To.pos (by omega) ?_
     rw [cast_succ]
     refine (ih (i+1) (drop_next hx)).of ?_
     rw [List.takeWhile_cons_of_pos (by simp [isDig,h1,h2]),List.length_cons]
     omega
    ·refine To.neg (by omega) (To.pure.of ?_)
     rw [List.takeWhile_cons_of_neg (by simp [isDig];omega)];rfl
   ·refine To.neg (by omega) (To.pure.of ?_)
    rw [List.takeWhile_cons_of_neg (by simp [isDig];omega)];rfl
 simp only [M.r03_digits]
 refine To.bind (loop s 0 rfl) (To.pure.of (by simp))
theorem may03(s:Str)(hl:s.length≤1000000000):To (fun n=>M.r03_May n s) (labB s):=by
 have hd:(s.takeWhile isDig).length≤s.length:=by
  have:=(List.takeWhile_sublist isDig (l:=s)).length_le
  exact this
 have loop:∀ (xs:Str) (i:Nat),s.drop i=xs→To (fun n=>M.r03_May_loop1 s n (i:Int)) (if xs.all isCap then .inl () else .inr false):=by
  intro xs
  induction xs with
  | nil=>
   intro i hx
   refine To.succ ?_
   simp only [M.r03_May_loop1]
   exact To.neg (drop_end hx) (To.pure.of (by simp))
  | cons x xs ih=>
   intro i hx
   refine To.succ ?_
   simp only [M.r03_May_loop1]
   refine To.pos (drop_lt hx) (To.bindS (drop_idx hx) ?_)
   by_cases h1:x.toNat<65
   ·refine To.pos (by omega) (To.pure.of ?_)
    rw [if_neg (by simp [isCap];omega)]
   ·refine To.neg (by omega) (To.bindS (drop_idx hx) ?_)
    by_cases h2:90<x.toNat
    ·refine To.pos (by omega) (To.pure.of ?_)
     rw [if_neg (by simp [isCap];omega)]
    ·refine To.neg (by omega) ?_
     rw [cast_succ]
     refine (ih (i+1) (drop_next hx)).of ?_
     have:isCap x=true:=by simp [isCap];omega
     simp [this]
 generalize hdd:(s.takeWhile isDig).length=d at hd
 have hdig:=digits03 s
 rw [hdd] at hdig
 simp only [M.r03_May]
 refine To.bind hdig ?_
 by_cases h1:d<1
 ·refine To.bind (a:=true) (To.pos (by omega) To.pure) (To.pos rfl (To.pure.of ?_))
  simp [labB,hdd];omega
 by_cases h2:4<d
 ·refine To.bind (a:=true) (To.neg (by omega) (To.pos (by omega) To.pure)) (To.pos rfl (To.pure.of ?_))
  simp [labB,hdd];omega
 obtain ⟨x,xs,rfl⟩:∃ x xs,s=x :: xs:=by
  cases s with
  | nil=>simp at hd;omega
  | cons x xs=>exact ⟨x,xs,rfl⟩
 by_cases h3:x=48
 ·subst h3
  refine To.bind (a:=true) (To.neg (by omega) (To.neg (by omega) (To.bindS idx_zero (To.pos rfl To.pure)))) (To.pos rfl (To.pure.of ?_))
  simp [labB]
 have h3':¬ ((x.toNat:Int)=48):=by
  intro h
  exact h3 (UInt8.toNat_inj.1 (by have:(48:UInt8).toNat=48:=rfl;omega))
 by_cases h4:3<(x :: xs).length-d
 ·refine To.bind (a:=true) (To.neg (by omega) (To.neg (by omega) (To.bindS idx_zero (To.neg h3' (To.bindS (subC_eq (by omega) (by omega)) (To.pure.of (by simp;simp at h4 hd;omega))))))) (To.pos rfl (To.pure.of ?_))
  simp only [labB,hdd]
  rw [decide_eq_false (show ¬ (x :: xs).length-d≤3 by omega)]
  simp
 refine To.bind (a:=false) (To.neg (by omega) (To.neg (by omega) (To.bindS idx_zero (To.neg h3' (To.bindS (subC_eq (by omega) (by omega)) (To.pure.of (by simp;simp at h4 hd;omega))))))) (To.neg (by simp) ?_)
 refine To.bind (loop _ d rfl) ?_
 simp only [labB,hdd]
 rw [decide_eq_true (show 1≤d by omega),decide_eq_true (show d≤4 by omega),decide_eq_true (show (x :: xs).length-d≤3 by omega),decide_eq_true (show (x :: xs).head? ≠some 48 by simpa using h3)]
 by_cases h5:((x :: xs).drop d).all isCap=true
 ·rw [if_pos h5];exact To.pure.of (by rw [h5];rfl)
 ·rw [if_neg h5]
  exact To.pure.of (by simp only [Bool.not_eq_true] at h5;rw [h5];rfl)
theorem idxfun(s:Str)(f:Int→Option Bool)(p:UInt8→Bool)(hf:∀ b:UInt8,b.toNat<128→f (b.toNat:Int)=some (p b))(hh:∀ r:Nat,128≤r→f (r:Int)=some true)(hp:∀ b:UInt8,128≤b.toNat→p b=true) :
  To (fun n=>M.strings_IndexFunc n s f) (if s.any p then (((s.takeWhile fun b=>!p b).length:Nat):Int) else -1):=by
 have loop:∀ (xs:Str) (i:Nat),s.drop i=xs→∃ v,To (fun n=>M.strings_indexFunc_loop1 s f true n i) (if xs.any p then .inr ((i+(xs.takeWhile fun b=>!p b).length:Nat):Int) else .inl v):=by
  intro xs
  induction xs with
  | nil=>
   intro i hx
   have:=List.drop_eq_nil_iff.1 hx
   refine ⟨i,To.succ ?_⟩
   simp only [M.strings_indexFunc_loop1]
   exact To.neg (by omega) (To.pure.of (by simp))
  | cons x xs ih=>
   intro i hx
   obtain ⟨h1,h2,h3⟩:=drop_cons hx
   have hxi:s[i]=x:=by rw [List.getElem?_eq_getElem h1] at h2;exact Option.some.inj h2
   by_cases ha:x.toNat<128
   ·have hr:=runeAt_ascii h1 (by rw [hxi];exact ha)
    rw [hxi] at hr
    obtain ⟨v,hv⟩:=ih (i+1) h3
    refine ⟨v,To.succ ?_⟩
    simp only [M.strings_indexFunc_loop1]
    refine To.pos h1 ?_
    rw [hr]
    refine To.bindS (hf x ha) ?_
    cases hpx:p x with
    | true=>exact To.pos rfl (To.pure.of (by simp [hpx]))
    | false=>
     refine To.neg (by simp) (hv.of ?_)
     have tw:(x :: xs).takeWhile (fun b=>!p b)=x :: xs.takeWhile (fun b=>!p b):=List.takeWhile_cons_of_pos (by simp [hpx])
     rw [tw]
     simp only [List.any_cons,hpx,Bool.false_or,List.length_cons]
     split
     ·congr 1;omega
     ·rfl
   ·obtain ⟨q1,q2⟩:=runeAt_high h1 (by rw [hxi];omega)
    have hpx:=hp x (by omega)
    refine ⟨0,To.succ ?_⟩
    simp only [M.strings_indexFunc_loop1]
    refine To.pos h1 (To.bindS (hh _ q1) (To.pos rfl (To.pure.of (by simp [hpx]))))
 obtain ⟨v,hv⟩:=loop s 0 rfl
 simp only [M.strings_IndexFunc,M.strings_indexFunc]
 by_cases h:s.any p=true
 ·rw [if_pos h] at hv ⊢
  exact To.bind (To.bind hv To.pure) (To.pure.of (by simp))
 ·rw [if_neg h] at hv ⊢
  exact To.bind (To.bind hv To.pure) To.pure
theorem tw_all{α:Type}{p:α→Bool}:∀ {l:List α},(∀ b,b∈l→p b=true)→l.takeWhile p=l
 | [],_=>rfl
 | x :: l,h=>by rw [List.takeWhile_cons_of_pos (h x (by simp)),tw_all fun b hb=>h b (by simp [hb])]
theorem tw_not(s:Str):(s.takeWhile fun b=>!(!isDig b))=s.takeWhile isDig:=by simp
theorem parted_ok(s:Str):To (fun n=>M.label_parted n s) (s.take (s.takeWhile isDig).length,s.drop (s.takeWhile isDig).length):=by
 have h:=idxfun s (fun s0=>M.label_parted_1 s0) (fun b=>!isDig b) (fun b hb=>by
  simp only [M.label_parted_1,isDig]
  split
  ·simp;omega
  ·congr 1;rw [Bool.eq_iff_iff];simp;omega) (fun r hr=>by
  simp only [M.label_parted_1]
  rw [if_neg (by omega)];congr 1;simp;omega) (fun b hb=>by simp [isDig];omega)
 have hd:(s.takeWhile isDig).length≤s.length:=(List.takeWhile_sublist isDig (l:=s)).length_le
 simp only [M.label_parted]
 refine To.bind h ?_
 rw [tw_not]
 by_cases ha:(s.any fun b=>!isDig b)=true
 ·rw [if_pos ha]
  refine To.neg (by omega) (To.bindS (a:=s.take (s.takeWhile isDig).length) ?_ (To.bindS (a:=s.drop (s.takeWhile isDig).length) ?_ To.pure))
  ·simp [slcHi,hd]
  ·simp [slcLo,hd]
 ·rw [if_neg ha]
  refine To.pos (by omega) (To.pure.of ?_)
  have hall:s.takeWhile isDig=s:=by
   refine tw_all fun b hb=>?_
   simp only [Bool.not_eq_true,List.any_eq_false] at ha
   have:=ha b hb
   simpa using this
  rw [hall];simp
theorem label_ok(s:Str):To (fun n=>M.label_Valid n s) (labB s):=by
 have hd:(s.takeWhile isDig).length≤s.length:=(List.takeWhile_sublist isDig (l:=s)).length_le
 have h:=parted_ok s
 generalize hdd:(s.takeWhile isDig).length=d at hd h
 have hc:=idxfun (s.drop d) (fun s0=>M.label_Valid_1 s0) (fun b=>!isCap b) (fun b hb=>by
  simp only [M.label_Valid_1,isCap]
  split
  ·simp;omega
  ·congr 1;rw [Bool.eq_iff_iff];simp;omega) (fun r hr=>by
  simp only [M.label_Valid_1]
  rw [if_neg (by omega)];congr 1;simp;omega) (fun b hb=>by simp [isCap];omega)
 simp only [M.label_Valid]
 refine To.bind h ?_
 dsimp only
 have hl:((s.take d).length:Int)=d:=by rw [List.length_take];omega
 have hl2:(((s.drop d).length:Nat):Int)=((s.length-d:Nat):Int):=by rw [List.length_drop]
 by_cases h1:d<1
 ·exact To.neg (by omega) (To.pure.of (by simp [labB,hdd];omega))
 refine To.pos (by omega) ?_
 by_cases h2:4<d
 ·exact To.neg (by omega) (To.pure.of (by simp [labB,hdd];omega))
 refine To.pos (by omega) ?_
 obtain ⟨x,xs,rfl⟩:∃ x xs,s=x :: xs:=by
  cases s with
  | nil=>simp at hd;omega
  | cons x xs=>exact ⟨x,xs,rfl⟩
 have hx:idx ((x :: xs).take d) (0:Int)=some x:=by
  obtain ⟨e,rfl⟩:∃ e,d=e+1:=⟨d-1,by omega⟩
  simp [idx]
 refine To.bindS hx ?_
 by_cases h3:x=48
 ·subst h3
  exact To.neg (by simp) (To.pure.of (by simp [labB]))
 have h3':(x.toNat:Int)≠48:=by
  intro h
  exact h3 (UInt8.toNat_inj.1 (by have:(48:UInt8).toNat=48:=rfl;omega))
 refine To.pos h3' ?_
 simp only [labB,hdd]
 rw [decide_eq_true (show 1≤d by omega),decide_eq_true (show d≤4 by omega),decide_eq_true (show (x :: xs).head? ≠some 48 by simpa using h3)]
 by_cases h4:3<(x :: xs).length-d
 ·refine To.neg (by omega) (To.pure.of ?_)
  rw [decide_eq_false (show ¬ (x :: xs).length-d≤3 by omega)]
  simp
 refine To.pos (by omega) ?_
 rw [decide_eq_true (show (x :: xs).length-d≤3 by omega)]
 simp only [M.strings_ContainsFunc]
 refine To.bind (To.bind hc To.pure) (To.pure.of ?_)
 have he:(((x :: xs).drop d).any fun b=>!isCap b)= !(((x :: xs).drop d).all isCap):=by rw [List.not_all_eq_any_not]
 rw [he]
 cases ((x :: xs).drop d).all isCap<;> simp<;> omega
theorem alone_tot(u:api_Unit)(hl:u.Label.length≤1000000000):Tot (fun n=>M.r06_alone n u):=by
 simp only [M.r06_alone]
 refine Tot.bind ?_ fun a _=>Tot.ite (fun _=>Tot.pure) fun _=>Tot.ite (fun _=>Tot.bind ?_ fun _ _=>Tot.pure) fun _=>Tot.bind (may03 _ hl).tot fun _ _=>Tot.pure
 ·refine Tot.ite (fun _=>Tot.pure) fun _=>Tot.ite (fun _=>Tot.pure) fun _=>Tot.ite (fun _=>Tot.pure) fun _=>Tot.bind (row_tot _) fun a _=>Tot.ite (fun _=>Tot.pure) fun _=>Tot.bind (row_tot _) fun _ _=>Tot.pure
 ·exact Tot.ite (fun _=>Tot.ite (fun _=>Tot.pure) fun _=>Tot.pure) fun _=>Tot.pure
theorem nests_tot(p k:Int):∃ b,M.r06_Nests p k=some b:=by
 simp only [M.r06_Nests]
 repeat' split
 all_goals first | exact ⟨_,rfl⟩ | skip
 all_goals simp only [Option.bind_some]
 all_goals (repeat' split)
 all_goals exact ⟨_,rfl⟩
theorem mem_desc_kids{u k:api_Unit}(hk:k∈u.Kids):k∈desc u:=desc_kid hk (desc_self k)
theorem right2_tot(u:api_Unit)(i:Nat)(hi:i<u.Kids.length)(hb:u.Kids.length≤1000000):∀ (d k:Nat),i-k≤d→Tot (fun n=>M.r06_Right_loop2 u (i:Int) n (k:Int)):=by
 intro d
 induction d with
 | zero=>
  intro k hk
  refine Tot.succ ?_
  simp only [M.r06_Right_loop2]
  exact Tot.neg (by omega) Tot.pure
 | succ d ih=>
  intro k hk
  refine Tot.succ ?_
  simp only [M.r06_Right_loop2]
  by_cases h:k<i
  ·obtain ⟨x,hx,_⟩:=idx_some (l:=u.Kids) (i:=(k:Int)) (by omega) (by omega)
   obtain ⟨y,hy,_⟩:=idx_some (l:=u.Kids) (i:=(i:Int)) (by omega) (by omega)
   refine Tot.pos (by omega) (Tot.bindS hx (Tot.bindS hy (Tot.ite (fun _=>Tot.bindS hx (Tot.bindS hy (Tot.ite (fun _=>Tot.pure) fun _=>Tot.bindS (addC_succ (by omega)) (ih (k+1) (by omega))))) fun _=>Tot.bindS (addC_succ (by omega)) (ih (k+1) (by omega)))))
  ·exact Tot.neg (by omega) Tot.pure
theorem right_tot(u:api_Unit):cnt u≤1000000→labs u→Tot (fun n=>M.r06_Right n u):=by
 refine uind (P:=fun u=>cnt u≤1000000→labs u→Tot (fun n=>M.r06_Right n u)) ?_ u
 intro u ih hc hl
 have hk:=cnt_kids u
 have loop:∀ (xs:List api_Unit) (slf:Nat→api_Unit→Option Bool) (i:Nat),u.Kids.drop i=xs→(∀ k,k∈xs→Tot (fun n=>slf n k))→Tot (fun n=>M.r06_Right_loop1 u (slf n) n (i:Int)):=by
  intro xs
  induction xs with
  | nil=>
   intro slf i hx hs
   refine Tot.succ ?_
   simp only [M.r06_Right_loop1]
   exact Tot.neg (drop_end hx) Tot.pure
  | cons x xs ih=>
   intro slf i hx hs
   obtain ⟨b,hb⟩:=nests_tot u.Kind x.Kind
   have hi:=(drop_cons hx).1
   refine Tot.succ ?_
   simp only [M.r06_Right_loop1]
   refine Tot.pos (drop_lt hx) (Tot.bindS (drop_idx hx) (Tot.bindS hb (Tot.ite (fun _=>Tot.pure) fun _=>Tot.bindS (drop_idx hx) (Tot.bind (hs x (by simp)).shift fun a _=>Tot.ite (fun _=>Tot.pure) fun _=>Tot.bind (right2_tot u i hi (by omega) i 0 (by omega)) fun c _=>?_))))
   cases c with
   | inl _=>exact Tot.bindS (addC_succ (by omega)) (ih (fun n=>slf (n+1)) (i+1) (drop_next hx) (fun k hk=>(hs k (by simp [hk])).shift))
   | inr _=>exact Tot.pure
 refine Tot.succ ?_
 simp only [M.r06_Right]
 refine Tot.bind (alone_tot u (by have:=hl u (desc_self u);omega)) fun a _=>Tot.ite (fun _=>Tot.pure) fun _=>Tot.bind (loop u.Kids (fun n=>M.r06_Right n) 0 rfl (fun k hk=>ih k hk (by have:=cnt_kid hk;omega) (labs_kid hl hk))) fun b _=>?_
 cases b<;> exact Tot.pure
theorem depth_ok(u:api_Unit):cnt u≤1000000→∃ d:Nat,To (fun n=>M.r06_Depth n u) (d:Int)∧d≤cnt u:=by
 refine uind (P:=fun u=>cnt u≤1000000→∃ d:Nat,To (fun n=>M.r06_Depth n u) (d:Int)∧d≤cnt u) ?_ u
 intro u ih hc
 have loop:∀ (xs:List api_Unit) (slf:Nat→api_Unit→Option Int) (i d:Nat),u.Kids.drop i=xs→(∀ k,k∈xs→∃ d:Nat,To (fun n=>slf n k) (d:Int)∧d≤cnt k)→(∀ k,k∈xs→cnt k<cnt u)→d≤cnt u→
   ∃ e:Nat,To (fun n=>M.r06_Depth_loop1 u (slf n) n (d:Int) (i:Int)) (e:Int)∧e≤cnt u:=by
  intro xs
  induction xs with
  | nil=>
   intro slf i d hx hs _ hd
   refine ⟨d,To.succ ?_,hd⟩
   simp only [M.r06_Depth_loop1]
   exact To.neg (drop_end hx) To.pure
  | cons x xs ih=>
   intro slf i d hx hs hk hd
   obtain ⟨e,he,hle⟩:=hs x (by simp)
   have:=hk x (by simp)
   obtain ⟨f,hf,hlf⟩:=ih (fun n=>slf (n+1)) (i+1) (max d (1+e)) (drop_next hx) (fun k hk=>by
    obtain ⟨d,h1,h2⟩:=hs k (by simp [hk])
    exact ⟨d,h1.shift,h2⟩) (fun k h=>hk k (by simp [h])) (by omega)
   refine ⟨f,To.succ ?_,hlf⟩
   simp only [M.r06_Depth_loop1]
   refine To.pos (drop_lt hx) (To.bindS (drop_idx hx) (To.bind he.shift (To.bindS (addC_eq (by omega) (by omega)) ?_)))
   rw [cast_succ,show max (d:Int) (1+(e:Int))=((max d (1+e):Nat):Int) by omega]
   exact hf
 obtain ⟨d,h1,h2⟩:=loop u.Kids (fun n=>M.r06_Depth n) 0 0 rfl (fun k hk=>ih k hk (by have:=cnt_kid hk;omega)) (fun k hk=>cnt_kid hk) (by omega)
 refine ⟨d,To.succ ?_,h2⟩
 simp only [M.r06_Depth]
 exact To.bind h1 To.pure
theorem count_ok(u:api_Unit):cnt u≤1000000→To (fun n=>M.r06_Count n u) (cnt u:Int):=by
 refine uind (P:=fun u=>cnt u≤1000000→To (fun n=>M.r06_Count n u) (cnt u:Int)) ?_ u
 intro u ih hc
 have loop:∀ (xs:List api_Unit) (slf:Nat→api_Unit→Option Int) (i d:Nat),u.Kids.drop i=xs→(∀ k,k∈xs→To (fun n=>slf n k) (cnt k:Int))→d+(xs.map cnt).sum≤1000000→
   To (fun n=>M.r06_Count_loop1 u (slf n) n (d:Int) (i:Int)) ((d+(xs.map cnt).sum:Nat):Int):=by
  intro xs
  induction xs with
  | nil=>
   intro slf i d hx hs hd
   refine To.succ ?_
   simp only [M.r06_Count_loop1]
   exact To.neg (drop_end hx) (To.pure.of (by simp))
  | cons x xs ih=>
   intro slf i d hx hs hd
   simp only [List.map_cons,List.sum_cons] at hd
   refine To.succ ?_
   simp only [M.r06_Count_loop1]
   refine To.pos (drop_lt hx) (To.bindS (drop_idx hx) (To.bind (hs x (by simp)).shift (To.bindS (addC_eq (by omega) (by omega)) ?_)))
   rw [cast_succ,show (d:Int)+(cnt x:Int)=((d+cnt x:Nat):Int) by omega]
   refine (ih (fun n=>slf (n+1)) (i+1) (d+cnt x) (drop_next hx) (fun k hk=>(hs k (by simp [hk])).shift) (by omega)).of ?_
   simp only [List.map_cons,List.sum_cons]
   congr 1;omega
 have he:=cnt_eq u
 refine To.succ ?_
 simp only [M.r06_Count]
 refine To.bind (loop u.Kids (fun n=>M.r06_Count n) 0 1 rfl (fun k hk=>ih k hk (by have:=cnt_kid hk;omega)) (by omega)) (To.pure.of (by rw [he]))
theorem all_ok(u:api_Unit):cnt u≤1000000→To (fun n=>M.r06_All n u) ((desc u).map api_Unit.Id):=by
 refine uind (P:=fun u=>cnt u≤1000000→To (fun n=>M.r06_All n u) ((desc u).map api_Unit.Id)) ?_ u
 intro u ih hc
 have loop:∀ (xs:List api_Unit) (slf:Nat→api_Unit→Option (List api_Id)) (i:Nat) (out:List api_Id),u.Kids.drop i=xs→(∀ k,k∈xs→To (fun n=>slf n k) ((desc k).map api_Unit.Id))→out.length+(xs.map cnt).sum≤1000000→
   To (fun n=>M.r06_All_loop1 u (slf n) n out (i:Int)) (out++(xs.flatMap desc).map api_Unit.Id):=by
  intro xs
  induction xs with
  | nil=>
   intro slf i out hx hs hd
   refine To.succ ?_
   simp only [M.r06_All_loop1]
   exact To.neg (drop_end hx) (To.pure.of (by simp))
  | cons x xs ih=>
   intro slf i out hx hs hd
   simp only [List.map_cons,List.sum_cons] at hd
   refine To.succ ?_
   simp only [M.r06_All_loop1]
   have hlen:((desc x).map api_Unit.Id).length=cnt x:=by simp [cnt]
   refine To.pos (drop_lt hx) (To.bindS (drop_idx hx) (To.bind (hs x (by simp)).shift (To.bindS (appC_eq (by omega)) ?_)))
   rw [cast_succ]
   refine (ih (fun n=>slf (n+1)) (i+1) _ (drop_next hx) (fun k hk=>(hs k (by simp [hk])).shift) (by rw [List.length_append];omega)).of ?_
   simp
 have he:=cnt_eq u
 refine To.succ ?_
 simp only [M.r06_All]
 refine To.bind (loop u.Kids (fun n=>M.r06_All n) 0 [u.Id] rfl (fun k hk=>ih k hk (by have:=cnt_kid hk;omega)) (by simp;omega)) (To.pure.of (by rw [desc_eq u];simp))
theorem ids3_tot(all:List api_Id)(i:Nat)(hi:i<all.length)(hb:all.length≤1000000):∀ (d k:Nat),i-k≤d→Tot (fun n=>M.r06_Ids_loop3 all (i:Int) n (k:Int)):=by
 intro d
 induction d with
 | zero=>
  intro k hk
  refine Tot.succ ?_
  simp only [M.r06_Ids_loop3]
  exact Tot.neg (by omega) Tot.pure
 | succ d ih=>
  intro k hk
  refine Tot.succ ?_
  simp only [M.r06_Ids_loop3]
  by_cases h:k<i
  ·obtain ⟨x,hx,_⟩:=idx_some (l:=all) (i:=(k:Int)) (by omega) (by omega)
   obtain ⟨y,hy,_⟩:=idx_some (l:=all) (i:=(i:Int)) (by omega) (by omega)
   exact Tot.pos (by omega) (Tot.bindS hx (Tot.bindS hy (Tot.ite (fun _=>Tot.pure) fun _=>Tot.bindS (addC_succ (by omega)) (ih (k+1) (by omega)))))
  ·exact Tot.neg (by omega) Tot.pure
theorem ids2_tot(all:List api_Id)(hb:all.length≤1000000):∀ (xs:List api_Id) (i:Nat),all.drop i=xs→Tot (fun n=>M.r06_Ids_loop2 all n (i:Int)):=by
 intro xs
 induction xs with
 | nil=>
  intro i hx
  refine Tot.succ ?_
  simp only [M.r06_Ids_loop2]
  exact Tot.neg (drop_end hx) Tot.pure
 | cons x xs ih=>
  intro i hx
  have hi:=(drop_cons hx).1
  refine Tot.succ ?_
  simp only [M.r06_Ids_loop2]
  refine Tot.pos (drop_lt hx) (Tot.bind (ids3_tot all i hi hb i 0 (by omega)) fun c _=>?_)
  cases c with
  | inl _=>exact Tot.bindS (addC_succ (by omega)) (ih (i+1) (drop_next hx))
  | inr _=>exact Tot.pure
theorem ids1_tot(all:List api_Id):∀ (xs:List api_Id) (i:Nat) (b:Bool),all.drop i=xs→Tot (fun n=>M.r06_Ids_loop1 all n b (i:Int)):=by
 intro xs
 induction xs with
 | nil=>
  intro i b hx
  refine Tot.succ ?_
  simp only [M.r06_Ids_loop1]
  exact Tot.neg (drop_end hx) Tot.pure
 | cons x xs ih=>
  intro i b hx
  refine Tot.succ ?_
  simp only [M.r06_Ids_loop1]
  rw [cast_succ]
  exact Tot.pos (drop_lt hx) (Tot.ite (fun _=>Tot.bindS (drop_idx hx) (ih (i+1) _ (drop_next hx))) fun _=>ih (i+1) _ (drop_next hx))
theorem ids_tot(u:api_Unit)(hc:cnt u≤1000000):Tot (fun n=>M.r06_Ids n u):=by
 have hl:((desc u).map api_Unit.Id).length≤1000000:=by simpa [cnt] using hc
 simp only [M.r06_Ids]
 refine Tot.bind (all_ok u hc).tot fun a ha=>?_
 obtain rfl:=ha.det (all_ok u hc)
 refine Tot.bind (ids1_tot _ _ 0 true rfl) fun b _=>Tot.ite (fun _=>Tot.pure) fun _=>?_
 have h0:idx ((desc u).map api_Unit.Id) 0=some u.Id:=by rw [desc_eq];simp [idx]
 refine Tot.bindS h0 (Tot.ite (fun _=>Tot.pure) fun _=>Tot.bind (ids2_tot _ hl _ 0 rfl) fun c _=>?_)
 cases c<;> exact Tot.pure
theorem named_tot(u:api_Unit):Tot (fun n=>M.r08_named n u):=by
 refine uind (P:=fun u=>Tot (fun n=>M.r08_named n u)) ?_ u
 intro u ih
 have loop:∀ (xs:List api_Unit) (slf:Nat→api_Unit→Option Bool) (i:Nat),u.Kids.drop i=xs→(∀ k,k∈xs→Tot (fun n=>slf n k))→Tot (fun n=>M.r08_named_loop1 u (slf n) n (i:Int)):=by
  intro xs
  induction xs with
  | nil=>
   intro slf i hx hs
   refine Tot.succ ?_
   simp only [M.r08_named_loop1]
   exact Tot.neg (drop_end hx) Tot.pure
  | cons x xs ih=>
   intro slf i hx hs
   refine Tot.succ ?_
   simp only [M.r08_named_loop1]
   refine Tot.pos (drop_lt hx) (Tot.bindS (drop_idx hx) (Tot.bind (hs x (by simp)).shift fun a _=>Tot.ite (fun _=>Tot.pure) fun _=>?_))
   rw [cast_succ]
   exact ih (fun n=>slf (n+1)) (i+1) (drop_next hx) (fun k hk=>(hs k (by simp [hk])).shift)
 refine Tot.succ ?_
 simp only [M.r08_named]
 refine Tot.bind (Tot.ite (fun _=>Tot.pure) fun _=>Tot.pure) fun a _=>Tot.ite (fun _=>Tot.pure) fun _=>Tot.bind (loop u.Kids (fun n=>M.r08_named n) 0 rfl ih) fun b _=>?_
 cases b<;> exact Tot.pure
theorem stands_tot(u:api_Unit)(hc:cnt u≤1000000)(hl:labs u):Tot (fun n=>M.r08_Stands n u):=by
 obtain ⟨d,hd,_⟩:=depth_ok u hc
 simp only [M.r08_Stands,M.r06_May]
 refine Tot.bind ?_ fun _ _=>Tot.ite (fun _=>Tot.bind (named_tot u) fun _ _=>Tot.pure) fun _=>Tot.pure
 exact Tot.bind (right_tot u hc hl) fun _ _=>Tot.ite (fun _=>Tot.bind hd.tot fun _ _=>Tot.ite (fun _=>Tot.bind (count_ok u hc).tot fun _ _=>Tot.ite (fun _=>Tot.bind (ids_tot u hc) fun _ _=>Tot.pure) fun _=>Tot.pure) fun _=>Tot.pure) fun _=>Tot.pure
def bookB(s:api_Step):Bool:=decide (s.Kind=0) && (s.Label==([]:Str))
def calledB(x:api_Unit)(s:api_Step):Bool:=decide (x.Kind=s.Kind) && (x.Label==s.Label)
def stepB(s:api_Step):Bool:=decide (1≤s.Kind) && decide (s.Kind≤7) && labB s.Label
def stepsB:List api_Step→Bool
 | []=>true
 | s :: p=>stepB s && stepsB p
def validB(p:List api_Step):Bool:=
 (match p with
  | []=>true
  | s :: q=>(bookB s || stepB s) && stepsB q) && decide (p.length≤9)
theorem book_a(s:api_Step):M.address_book s=some (bookB s):=by
 simp only [M.address_book,bookB]
 split<;> simp_all
theorem book_r(s:api_Step):M.r07_book s=some (bookB s):=by
 simp only [M.r07_book,bookB]
 split<;> simp_all
theorem called_a(x:api_Unit)(s:api_Step):M.address_called x s=some (calledB x s):=by
 simp only [M.address_called,calledB]
 split<;> simp_all
theorem called_r(x:api_Unit)(s:api_Step):M.r07_at x s=some (calledB x s):=by
 simp only [M.r07_at,calledB]
 split<;> simp_all
theorem valid_loop(p:List api_Step)(i:Int)(hi:1≤i):To (fun n=>M.address_Valid_loop1 n p i) (if stepsB p then .inl () else .inr false):=by
 induction p generalizing i with
 | nil=>simp only [M.address_Valid_loop1];exact To.pure
 | cons s p ih=>
  simp only [M.address_Valid_loop1]
  refine To.bind (a:=false) (To.neg (by omega) To.pure) (To.neg (by simp) ?_)
  by_cases h1:s.Kind≤0
  ·exact To.pos h1 (To.pure.of (by rw [if_neg];simp [stepsB,stepB];omega))
  refine To.neg h1 ?_
  by_cases h2:7<s.Kind
  ·exact To.pos h2 (To.pure.of (by rw [if_neg];simp [stepsB,stepB];omega))
  refine To.neg h2 (To.bind (label_ok s.Label) ?_)
  cases hl:labB s.Label with
  | false=>exact To.pos rfl (To.pure.of (by rw [if_neg];simp [stepsB,stepB,hl]))
  | true=>
   refine To.neg (by simp) ((ih (i+1) (by omega)).of ?_)
   have:stepB s=true:=by simp [stepB,hl];omega
   simp [stepsB,this]
theorem valid_ok(p:List api_Step):To (fun n=>M.address_Valid n p) (validB p):=by
 simp only [M.address_Valid]
 cases p with
 | nil=>
  simp only [M.address_Valid_loop1]
  exact To.bind (f:=fun _=>some (Sum.inl ())) To.pure (To.pure.of (by simp [validB]))
 | cons s p=>
  have fin:∀ b:Bool,To (fun n=>M.address_Valid_loop1 n (s :: p) 0) (if b then .inl () else .inr false)→b=((bookB s || stepB s) && stepsB p)→To (fun n=>Option.bind (M.address_Valid_loop1 n (s :: p) 0) fun
    | .inl _=>some (decide (((s :: p).length:Int)≤(9:Int)))
    | .inr ret0=>some ret0) (validB (s :: p)):=by
   intro b hb he
   refine To.bind hb ?_
   cases b with
   | true=>exact To.pure.of (by simp only [validB,←he];simp;omega)
   | false=>exact To.pure.of (by simp [validB,←he])
  refine fin ((bookB s || stepB s) && stepsB p) ?_ rfl
  simp only [M.address_Valid_loop1]
  refine To.bind (a:=bookB s) (To.pos (by simp) (To.bindS (book_a s) To.pure)) ?_
  cases hb:bookB s with
  | true=>
   refine To.pos rfl ((valid_loop p (0+1) (by omega)).of (by simp))
  | false=>
   refine To.neg (by simp) ?_
   simp only [Bool.false_or]
   by_cases h1:s.Kind≤0
   ·exact To.pos h1 (To.pure.of (by rw [if_neg];simp [stepB];omega))
   refine To.neg h1 ?_
   by_cases h2:7<s.Kind
   ·exact To.pos h2 (To.pure.of (by rw [if_neg];simp [stepB];omega))
   refine To.neg h2 (To.bind (label_ok s.Label) ?_)
   cases hl:labB s.Label with
   | false=>exact To.pos rfl (To.pure.of (by rw [if_neg];simp [stepB,hl]))
   | true=>
    refine To.neg (by simp) ((valid_loop p (0+1) (by omega)).of ?_)
    have:stepB s=true:=by simp [stepB,hl];omega
    simp [this]
theorem may_loop(p:List api_Step)(hp:∀ y,y∈p→y.Label.length≤1000000000):∀ (xs:List api_Step) (i:Nat),1≤i→p.drop i=xs→To (fun n=>M.r07_May_loop1 p n (i:Int)) (if stepsB xs then .inl () else .inr false):=by
 intro xs
 induction xs with
 | nil=>
  intro i _ hx
  refine To.succ ?_
  simp only [M.r07_May_loop1]
  exact To.neg (drop_end hx) To.pure
 | cons s xs ih=>
  intro i hi hx
  refine To.succ ?_
  simp only [M.r07_May_loop1]
  refine To.pos (drop_lt hx) (To.bind (a:=false) (To.neg (by omega) To.pure) (To.neg (by simp) (To.bindS (drop_idx hx) ?_)))
  by_cases h1:s.Kind<1
  ·exact To.pos h1 (To.pure.of (by rw [if_neg];simp [stepsB,stepB];omega))
  refine To.neg h1 (To.bindS (drop_idx hx) ?_)
  by_cases h2:7<s.Kind
  ·exact To.pos h2 (To.pure.of (by rw [if_neg];simp [stepsB,stepB];omega))
  have hm:s∈p:=List.mem_of_getElem? (drop_cons hx).2.1
  refine To.neg h2 (To.bindS (drop_idx hx) (To.bind (may03 s.Label (hp s hm)) ?_))
  cases hl:labB s.Label with
  | false=>exact To.pos rfl (To.pure.of (by rw [if_neg];simp [stepsB,stepB,hl]))
  | true=>
   refine To.neg (by simp) ?_
   rw [cast_succ]
   refine (ih (i+1) (by omega) (drop_next hx)).of ?_
   have:stepB s=true:=by simp [stepB,hl];omega
   simp [stepsB,this]
theorem may_ok(p:List api_Step)(hp:∀ y,y∈p→y.Label.length≤1000000000):To (fun n=>M.r07_May n p) (validB p):=by
 simp only [M.r07_May]
 by_cases h9:9<p.length
 ·refine To.pos (by omega) (To.pure.of ?_)
  cases p with
  | nil=>simp at h9
  | cons s q=>simp only [validB];rw [decide_eq_false (show ¬ (s :: q).length≤9 by omega)];simp
 refine To.neg (by omega) ?_
 cases p with
 | nil=>
  refine To.bind (a:=.inl ()) (To.succ ?_) ?_
  ·simp only [M.r07_May_loop1]
   exact To.neg (by simp) To.pure
  ·exact To.pure.of (by simp [validB])
 | cons s p=>
  have fin:∀ b:Bool,To (fun n=>M.r07_May_loop1 (s :: p) n 0) (if b then .inl () else .inr false)→b=((bookB s || stepB s) && stepsB p)→To (fun n=>Option.bind (M.r07_May_loop1 (s :: p) n 0) fun
    | .inl _=>some true
    | .inr ret0=>some ret0) (validB (s :: p)):=by
   intro b hb he
   refine To.bind hb ?_
   cases b with
   | true=>exact To.pure.of (by simp only [validB,←he];simp at h9 ⊢;omega)
   | false=>exact To.pure.of (by simp [validB,←he])
  refine fin ((bookB s || stepB s) && stepsB p) (To.succ ?_) rfl
  have hs:=hp s (by simp)
  have hn:=may_loop (s :: p) hp p 1 (by omega) rfl
  simp only [M.r07_May_loop1]
  refine To.pos (by simp) (To.bind (a:=bookB s) (To.pos (by simp) (To.bindS idx_zero (To.bindS (book_r s) To.pure))) ?_)
  cases hb:bookB s with
  | true=>exact To.pos rfl (hn.of (by simp))
  | false=>
   refine To.neg (by simp) (To.bindS idx_zero ?_)
   simp only [Bool.false_or]
   by_cases h1:s.Kind<1
   ·exact To.pos h1 (To.pure.of (by rw [if_neg];simp [stepB];omega))
   refine To.neg h1 (To.bindS idx_zero ?_)
   by_cases h2:7<s.Kind
   ·exact To.pos h2 (To.pure.of (by rw [if_neg];simp [stepB];omega))
   refine To.neg h2 (To.bindS idx_zero (To.bind (may03 s.Label hs) ?_))
   cases hl:labB s.Label with
   | false=>exact To.pos rfl (To.pure.of (by rw [if_neg];simp [stepB,hl]))
   | true=>
    refine To.neg (by simp) (hn.of ?_)
    have:stepB s=true:=by simp [stepB,hl];omega
    simp [this]
theorem every_ok(u:api_Unit):cnt u≤1000000→To (fun n=>M.r07_Every n u) (desc u):=by
 refine uind (P:=fun u=>cnt u≤1000000→To (fun n=>M.r07_Every n u) (desc u)) ?_ u
 intro u ih hc
 have loop:∀ (xs:List api_Unit) (slf:Nat→api_Unit→Option (List api_Unit)) (i:Nat) (out:List api_Unit),u.Kids.drop i=xs→(∀ k,k∈xs→To (fun n=>slf n k) (desc k))→out.length+(xs.map cnt).sum≤1000000→
   To (fun n=>M.r07_Every_loop1 u (slf n) n out (i:Int)) (out++xs.flatMap desc):=by
  intro xs
  induction xs with
  | nil=>
   intro slf i out hx hs hd
   refine To.succ ?_
   simp only [M.r07_Every_loop1]
   exact To.neg (drop_end hx) (To.pure.of (by simp))
  | cons x xs ih=>
   intro slf i out hx hs hd
   simp only [List.map_cons,List.sum_cons] at hd
   refine To.succ ?_
   simp only [M.r07_Every_loop1]
   have hlen:(desc x).length=cnt x:=rfl
   refine To.pos (drop_lt hx) (To.bindS (drop_idx hx) (To.bind (hs x (by simp)).shift (To.bindS (appC_eq (by omega)) ?_)))
   rw [cast_succ]
   refine (ih (fun n=>slf (n+1)) (i+1) _ (drop_next hx) (fun k hk=>(hs k (by simp [hk])).shift) (by rw [List.length_append];omega)).of ?_
   simp
 have he:=cnt_eq u
 refine To.succ ?_
 simp only [M.r07_Every]
 refine To.bind (loop u.Kids (fun n=>M.r07_Every n) 0 [u] rfl (fun k hk=>ih k hk (by have:=cnt_kid hk;omega)) (by simp;omega)) (To.pure.of (by rw [desc_eq u];simp))
def wsum(l:List api_Unit):Nat:=(l.map cnt).sum
theorem wsum_len(l:List api_Unit):l.length≤wsum l:=sum_len cnt cnt_pos l
theorem wsum_cons(x:api_Unit)(l:List api_Unit):wsum (x :: l)=cnt x+wsum l:=by simp [wsum]
theorem wsum_append(l m:List api_Unit):wsum (l++m)=wsum l+wsum m:=by simp [wsum]
theorem wsum_filter(p:api_Unit→Bool):∀ l:List api_Unit,wsum (l.filter p)≤wsum l
 | []=>by simp [wsum]
 | x :: l=>by
  have:=wsum_filter p l
  rw [List.filter_cons]
  split
  ·rw [wsum_cons,wsum_cons];omega
  ·rw [wsum_cons];omega
theorem wsum_kids:∀ l:List api_Unit,wsum (l.flatMap api_Unit.Kids)≤wsum l
 | []=>by simp [wsum]
 | x :: l=>by
  have:=wsum_kids l
  have:=cnt_eq x
  rw [List.flatMap_cons,wsum_append,wsum_cons]
  unfold wsum at *
  omega
theorem wsum_desc(u:api_Unit):wsum (desc u)≤cnt u*cnt u:=by
 have:∀ l:List api_Unit,(∀ x,x∈l→cnt x≤cnt u)→wsum l≤l.length*cnt u:=by
  intro l
  induction l with
  | nil=>intro _;simp [wsum]
  | cons x l ih=>
   intro h
   have h1:=h x (by simp)
   have h2:=ih (fun y hy=>h y (by simp [hy]))
   rw [wsum_cons,List.length_cons,Nat.add_mul]
   omega
 refine this _ ?_
 refine uind (P:=fun u=>∀ x,x∈desc u→cnt x≤cnt u) ?_ u
 intro u ih x hx
 rw [desc_eq] at hx
 rcases List.mem_cons.1 hx with rfl | hx
 ·exact Nat.le_refl _
 ·obtain ⟨k,h1,h2⟩:=List.mem_flatMap.1 hx
  have:=ih k h1 x h2
  have:=cnt_kid h1
  omega
def down(s:api_Step)(l:List api_Unit):List api_Unit:=(l.flatMap api_Unit.Kids).filter (fun x=>calledB x s)
theorem wsum_down(s:api_Step)(l:List api_Unit):wsum (down s l)≤wsum l:=Nat.le_trans (wsum_filter _ _) (wsum_kids l)
def way:List api_Step→List api_Unit→List api_Unit
 | [],l=>l
 | s :: p,l=>way p (down s l)
def units(u:api_Unit)(p:List api_Step):List api_Unit:=
 if validB p then
  match p with
  | []=>[u]
  | s :: q=>way q (if bookB s then [u] else (desc u).filter (fun x=>calledB x s))
 else []
def lim38:Nat:=100000000000
theorem found3(s:api_Step):∀ (xs next:List api_Unit),next.length+xs.length≤lim38→M.address_found_loop3 s xs next=some (next++xs.filter (fun x=>calledB x s))
 | [],next,_=>by simp [M.address_found_loop3]
 | x :: xs,next,h=>by
  simp only [List.length_cons] at h
  simp only [M.address_found_loop3,called_a,Option.bind_some]
  cases hc:calledB x s with
  | true=>
   rw [if_pos rfl,appC_eq (by unfold lim38 at h;simp;omega)]
   simp only [Option.bind_some]
   rw [found3 s xs _ (by simp;omega)]
   simp [hc]
  | false=>
   rw [if_neg (by simp),found3 s xs _ (by omega)]
   simp [hc]
theorem found2(s:api_Step):∀ (xs next:List api_Unit),next.length+wsum xs≤lim38→M.address_found_loop2 s xs next=some (next++down s xs)
 | [],next,_=>by simp [M.address_found_loop2,down]
 | x :: xs,next,h=>by
  rw [wsum_cons] at h
  have hk:=cnt_kids x
  simp only [M.address_found_loop2]
  rw [found3 s x.Kids next (by omega)]
  simp only [Option.bind_some]
  have hf:=List.length_filter_le (fun y=>calledB y s) x.Kids
  rw [found2 s xs _ (by simp only [List.length_append];omega)]
  simp [down]
theorem found1:∀ (p:List api_Step) (l:List api_Unit),wsum l≤lim38→M.address_found_loop1 p l=some (way p l)
 | [],l,_=>by simp [M.address_found_loop1,way]
 | s :: p,l,h=>by
  simp only [M.address_found_loop1]
  rw [found2 s l [] (by simpa using h)]
  simp only [Option.bind_some,List.nil_append]
  rw [found1 p _ (Nat.le_trans (wsum_down s l) h)]
  rfl
theorem each_ok(s:api_Step)(q:List api_Step)(u:api_Unit):∀ w:List api_Unit,w.length+cnt u≤lim38→To (fun n=>M.address_each_i0 n u (s :: q) w) (w++(desc u).filter (fun x=>calledB x s)):=by
 refine uind (P:=fun u=>∀ w:List api_Unit,w.length+cnt u≤lim38→To (fun n=>M.address_each_i0 n u (s :: q) w) (w++(desc u).filter (fun x=>calledB x s))) ?_ u
 intro u ih w hw
 have loop:∀ (xs:List api_Unit) (slf:Nat→api_Unit→List api_Step→List api_Unit→Option (List api_Unit)) (w:List api_Unit),(∀ k,k∈xs→∀ w:List api_Unit,w.length+cnt k≤lim38→To (fun n=>slf n k (s :: q) w) (w++(desc k).filter (fun x=>calledB x s)))→
   w.length+wsum xs≤lim38→To (fun n=>M.address_each_i0_loop1 (s :: q) (slf n) xs w) (w++(xs.flatMap desc).filter (fun x=>calledB x s)):=by
  intro xs
  induction xs with
  | nil=>intro slf w hs hw;simp only [M.address_each_i0_loop1];exact To.pure.of (by simp)
  | cons x xs ih=>
   intro slf w hs hw
   rw [wsum_cons] at hw
   simp only [M.address_each_i0_loop1]
   refine To.bind (hs x (by simp) w (by omega)) ?_
   have hf:=List.length_filter_le (fun y=>calledB y s) (desc x)
   have hl:(desc x).length=cnt x:=rfl
   refine (ih slf _ (fun k hk=>hs k (by simp [hk])) (by rw [List.length_append];omega)).of ?_
   simp
 have he:=cnt_eq u
 refine To.succ ?_
 simp only [M.address_each_i0,M.address_found_1]
 have fin:∀ w2:List api_Unit,w2=w++([u].filter (fun x=>calledB x s))→To (fun n=>Option.bind (M.address_each_i0_loop1 (s :: q) (M.address_each_i0 n) u.Kids w2) fun v=>some v) (w++(desc u).filter (fun x=>calledB x s)):=by
  intro w2 hw2
  have hf:=List.length_filter_le (fun y=>calledB y s) [u]
  simp only [List.length_singleton] at hf
  refine To.bind (loop u.Kids (fun n=>M.address_each_i0 n) w2 (fun k hk=>ih k hk) (by rw [hw2,List.length_append];unfold wsum;omega)) (To.pure.of ?_)
  rw [hw2,desc_eq u,List.filter_cons]
  by_cases hc:calledB u s=true
  ·simp [hc]
  ·simp [hc]
 cases hc:calledB u s with
 | true=>
  refine To.bindS (a:=w++ [u]) ?_ (fin _ (by simp [hc]))
  rw [idx_zero]
  simp only [Option.bind_some,called_a,hc]
  rw [if_pos trivial,appC_eq (by unfold lim38 at hw;simp;omega)]
  rfl
 | false=>
  refine To.bindS (a:=w) ?_ (fin _ (by simp [hc]))
  rw [idx_zero]
  simp only [Option.bind_some,called_a,hc]
  rw [if_neg (by simp)]
theorem found_ok(u:api_Unit)(p:List api_Step)(hc:cnt u≤10000):To (fun n=>M.address_found n u p) (units u p):=by
 simp only [M.address_found]
 refine To.bind (valid_ok p) ?_
 unfold units
 cases hv:validB p with
 | false=>exact To.pos rfl (To.pure.of (by simp))
 | true=>
  refine To.neg (by simp) ?_
  cases p with
  | nil=>
   refine To.bind (a:=.inr [u]) (To.pos (by simp) To.pure) ?_
   exact To.pure.of (by simp)
  | cons s q=>
   have h2:cnt u*cnt u≤10000*10000:=Nat.mul_le_mul hc hc
   have hslc:slcLo (s :: q) 1=some q:=by simp [slcLo];omega
   have fin:∀ l:List api_Unit,wsum l≤lim38→l=(if bookB s then [u] else (desc u).filter (fun x=>calledB x s))→To (fun n:Nat=>Option.bind (slcLo (s :: q) (1:Int)) fun v1=>Option.bind (M.address_found_loop1 v1 l) fun at0_2=>some at0_2) (way q (if bookB s then [u] else (desc u).filter (fun x=>calledB x s))):=by
    intro l hl he
    rw [hslc]
    simp only [Option.bind_some]
    rw [found1 q l hl]
    exact To.pure.of (by rw [he])
   simp only [if_true]
   cases hb:bookB s with
   | true=>
    refine To.bind (a:=.inl [u]) (To.neg (by simp;omega) (To.bindS idx_zero (To.bindS (book_a s) (To.pos (by simp [hb]) To.pure)))) ?_
    have:=fin [u] (by simp [wsum,lim38];omega) (by simp [hb])
    rw [hb] at this
    exact this
   | false=>
    have he:=each_ok s q u [] (by simp [lim38];omega)
    refine To.bind (a:=.inl ((desc u).filter (fun x=>calledB x s))) (To.neg (by simp;omega) (To.bindS idx_zero (To.bindS (book_a s) (To.neg (by simp [hb]) (To.bind he (To.pure.of (by simp))))))) ?_
    have hw:=Nat.le_trans (wsum_filter (fun x=>calledB x s) (desc u)) (wsum_desc u)
    have:=fin ((desc u).filter (fun x=>calledB x s)) (by unfold lim38;omega) (by simp [hb])
    rw [hb] at this
    exact this
theorem findall_ok(u:api_Unit)(p:List api_Step)(hc:cnt u≤10000)(hl:(units u p).length≤lim38):To (fun n=>M.address_FindAll n u p) ((units u p).map api_Unit.Id):=by
 have loop:∀ (xs:List api_Unit) (out:List api_Id),out.length+xs.length≤lim38→M.address_FindAll_loop1 xs out=some (out++xs.map api_Unit.Id):=by
  intro xs
  induction xs with
  | nil=>intro out _;simp [M.address_FindAll_loop1]
  | cons x xs ih=>
   intro out h
   simp only [List.length_cons] at h
   simp only [M.address_FindAll_loop1]
   rw [appC_eq (by unfold lim38 at h;simp;omega)]
   simp only [Option.bind_some]
   rw [ih _ (by simp;omega)]
   simp
 simp only [M.address_FindAll]
 refine To.bind (found_ok u p hc) ?_
 rw [loop _ [] (by simpa using hl)]
 exact To.pure.of (by simp)
def oneOf:List api_Id→api_Id×Int
 | []=>(zapi_Id,7)
 | [x]=>(x,0)
 | _=>(zapi_Id,8)
theorem findone_ok(u:api_Unit)(p:List api_Step)(hc:cnt u≤10000)(hl:(units u p).length≤lim38):To (fun n=>M.address_FindOne n u p) (oneOf ((units u p).map api_Unit.Id)):=by
 simp only [M.address_FindOne]
 refine To.bind (findall_ok u p hc hl) ?_
 match (units u p).map api_Unit.Id with
 | []=>exact To.pos (by simp) To.pure
 | [x]=>exact To.neg (by simp) (To.pos (by simp) (To.bindS idx_zero To.pure))
 | x :: y :: l=>exact To.neg (by simp;omega) (To.neg (by simp;omega) To.pure)
theorem way_len:∀ (p:List api_Step) (l:List api_Unit),(way p l).length≤wsum l
 | [],l=>wsum_len l
 | s :: p,l=>Nat.le_trans (way_len p _) (wsum_down s l)
theorem units_len(u:api_Unit)(p:List api_Step):(units u p).length≤cnt u*cnt u:=by
 have h1:=cnt_pos u
 have h2:1*cnt u≤cnt u*cnt u:=Nat.mul_le_mul_right _ h1
 unfold units
 split
 ·split
  ·simp;omega
  ·rename_i s q _
   refine Nat.le_trans (way_len q _) ?_
   split
   ·simp [wsum];omega
   ·exact Nat.le_trans (wsum_filter _ _) (wsum_desc u)
 ·simp
theorem u4_ok(p:List api_Step)(now:List api_Unit)(k i:Nat)(s:api_Step)(y:api_Unit)(hs:idx p (k:Int)=some s)(hy:idx now (i:Int)=some y):∀ (xs:List api_Unit) (j:Nat) (next:List api_Unit),y.Kids.drop j=xs→next.length+xs.length≤lim38→
  To (fun n=>M.r07_Units_loop4 p now (k:Int) (i:Int) n next (j:Int)) (next++xs.filter (fun x=>calledB x s)):=by
 intro xs
 induction xs with
 | nil=>
  intro j next hx _
  refine To.succ ?_
  simp only [M.r07_Units_loop4]
  exact To.bindS hy (To.neg (drop_end hx) (To.pure.of (by simp)))
 | cons x xs ih=>
  intro j next hx h
  simp only [List.length_cons] at h
  refine To.succ ?_
  simp only [M.r07_Units_loop4]
  refine To.bindS hy (To.pos (drop_lt hx) (To.bindS hy (To.bindS (drop_idx hx) (To.bindS hs (To.bindS (called_r x s) ?_)))))
  cases hc:calledB x s with
  | true=>
   refine To.pos rfl (To.bindS hy (To.bindS (drop_idx hx) (To.bindS (appC_eq (by unfold lim38 at h;simp;omega)) ?_)))
   rw [cast_succ]
   exact (ih (j+1) _ (drop_next hx) (by simp;omega)).of (by simp [hc])
  | false=>
   refine To.neg (by simp) ?_
   rw [cast_succ]
   exact (ih (j+1) _ (drop_next hx) (by omega)).of (by simp [hc])
theorem u3_ok(p:List api_Step)(now:List api_Unit)(k:Nat)(s:api_Step)(hs:idx p (k:Int)=some s):∀ (xs:List api_Unit) (i:Nat) (next:List api_Unit),now.drop i=xs→next.length+wsum xs≤lim38→i+xs.length≤lim38→
  To (fun n=>M.r07_Units_loop3 p now (k:Int) n next (i:Int)) (next++down s xs):=by
 intro xs
 induction xs with
 | nil=>
  intro i next hx _ _
  refine To.succ ?_
  simp only [M.r07_Units_loop3]
  exact To.neg (drop_end hx) (To.pure.of (by simp [down]))
 | cons x xs ih=>
  intro i next hx h hi
  rw [wsum_cons] at h
  simp only [List.length_cons] at hi
  have hk:=cnt_kids x
  refine To.succ ?_
  simp only [M.r07_Units_loop3]
  refine To.pos (drop_lt hx) (To.bind (u4_ok p now k i s x hs (drop_idx hx) x.Kids 0 next rfl (by omega)) (To.bindS (addC_succ (by unfold lim38 at hi;omega)) ?_))
  have hf:=List.length_filter_le (fun y=>calledB y s) x.Kids
  exact (ih (i+1) _ (drop_next hx) (by rw [List.length_append];omega) (by omega)).of (by simp [down])
theorem u2_ok(p:List api_Step):∀ (xs:List api_Step) (k:Nat) (now:List api_Unit),p.drop k=xs→wsum now≤lim38→k+xs.length≤lim38→To (fun n=>M.r07_Units_loop2 p n now (k:Int)) (way xs now):=by
 intro xs
 induction xs with
 | nil=>
  intro k now hx _ _
  refine To.succ ?_
  simp only [M.r07_Units_loop2]
  exact To.neg (drop_end hx) To.pure
 | cons s xs ih=>
  intro k now hx h hk
  simp only [List.length_cons] at hk
  refine To.succ ?_
  simp only [M.r07_Units_loop2]
  refine To.pos (drop_lt hx) (To.bind (u3_ok p now k s (drop_idx hx) now 0 [] rfl (by simpa using h) (by have:=wsum_len now;omega)) (To.bindS (addC_succ (by unfold lim38 at hk;omega)) ?_))
  rw [List.nil_append]
  exact ih (k+1) _ (drop_next hx) (Nat.le_trans (wsum_down s now) h) (by omega)
theorem u1_ok(p:List api_Step)(s:api_Step)(hs:idx p (0:Int)=some s)(every:List api_Unit):∀ (xs:List api_Unit) (i:Nat) (now:List api_Unit),every.drop i=xs→now.length+xs.length≤lim38→To (fun n=>M.r07_Units_loop1 p every n now (i:Int)) (now++xs.filter (fun x=>calledB x s)):=by
 intro xs
 induction xs with
 | nil=>
  intro i now hx _
  refine To.succ ?_
  simp only [M.r07_Units_loop1]
  exact To.neg (drop_end hx) (To.pure.of (by simp))
 | cons x xs ih=>
  intro i now hx h
  simp only [List.length_cons] at h
  refine To.succ ?_
  simp only [M.r07_Units_loop1]
  refine To.pos (drop_lt hx) (To.bindS (drop_idx hx) (To.bindS hs (To.bindS (called_r x s) ?_)))
  cases hc:calledB x s with
  | true=>
   refine To.pos rfl (To.bindS (drop_idx hx) (To.bindS (appC_eq (by unfold lim38 at h;simp;omega)) ?_))
   rw [cast_succ]
   exact (ih (i+1) _ (drop_next hx) (by simp;omega)).of (by simp [hc])
  | false=>
   refine To.neg (by simp) ?_
   rw [cast_succ]
   exact (ih (i+1) _ (drop_next hx) (by omega)).of (by simp [hc])
theorem units_r(u:api_Unit)(p:List api_Step)(hc:cnt u≤10000)(hp:∀ y,y∈p→y.Label.length≤1000000000):To (fun n=>M.r07_Units n u p) (units u p):=by
 simp only [M.r07_Units]
 refine To.bind (may_ok p hp) ?_
 unfold units
 cases hv:validB p with
 | false=>exact To.pos rfl (To.pure.of (by simp))
 | true=>
  refine To.neg (by simp) ?_
  cases p with
  | nil=>exact To.pos (by simp) (To.pure.of (by simp))
  | cons s q=>
   have h2:cnt u*cnt u≤10000*10000:=Nat.mul_le_mul hc hc
   have hq:(s :: q).length≤9:=by
    simp only [validB,Bool.and_eq_true,decide_eq_true_eq] at hv
    exact hv.2
   simp only [List.length_cons] at hq
   refine To.neg (by simp;omega) ?_
   simp only [if_true]
   cases hb:bookB s with
   | true=>
    refine To.bind (a:=[u]) (To.bindS idx_zero (To.bindS (book_r s) (To.pos hb (To.bindS (appC_eq (by simp)) To.pure)))) ?_
    exact To.bind (u2_ok (s :: q) q 1 [u] rfl (by simp [wsum,lim38];omega) (by unfold lim38;omega)) To.pure
   | false=>
    have hw:=Nat.le_trans (wsum_filter (fun x=>calledB x s) (desc u)) (wsum_desc u)
    refine To.bind (a:=(desc u).filter (fun x=>calledB x s)) (To.bindS idx_zero (To.bindS (book_r s) (To.neg (by simp [hb]) (To.bind (every_ok u (by omega)) (To.bind (u1_ok (s :: q) s idx_zero (desc u) (desc u) 0 [] rfl (by show 0+cnt u≤_;unfold lim38;omega)) (To.pure.of (by simp))))))) ?_
    exact To.bind (u2_ok (s :: q) q 1 _ rfl (by unfold lim38;omega) (by unfold lim38;omega)) To.pure
theorem find_r(u:api_Unit)(p:List api_Step)(hc:cnt u≤10000)(hp:∀ y,y∈p→y.Label.length≤1000000000):To (fun n=>M.r07_Find n u p) ((units u p).map api_Unit.Id):=by
 have hl:=units_len u p
 have h2:cnt u*cnt u≤10000*10000:=Nat.mul_le_mul hc hc
 have loop:∀ (xs:List api_Unit) (i:Nat) (out:List api_Id),(units u p).drop i=xs→out.length+xs.length≤lim38→To (fun n=>M.r07_Find_loop1 (units u p) n out (i:Int)) (out++xs.map api_Unit.Id):=by
  intro xs
  induction xs with
  | nil=>
   intro i out hx _
   refine To.succ ?_
   simp only [M.r07_Find_loop1]
   exact To.neg (drop_end hx) (To.pure.of (by simp))
  | cons x xs ih=>
   intro i out hx h
   simp only [List.length_cons] at h
   refine To.succ ?_
   simp only [M.r07_Find_loop1]
   refine To.pos (drop_lt hx) (To.bindS (drop_idx hx) (To.bindS (appC_eq (by unfold lim38 at h;simp;omega)) ?_))
   rw [cast_succ]
   exact (ih (i+1) _ (drop_next hx) (by simp;omega)).of (by simp)
 simp only [M.r07_Find]
 exact To.bind (units_r u p hc hp) (To.bind (loop _ 0 [] rfl (by unfold lim38;simp;omega)) (To.pure.of (by simp)))
theorem one_r(u:api_Unit)(p:List api_Step)(hc:cnt u≤10000)(hp:∀ y,y∈p→y.Label.length≤1000000000):To (fun n=>M.r07_One n u p) (oneOf ((units u p).map api_Unit.Id)):=by
 simp only [M.r07_One]
 refine To.bind (find_r u p hc hp) ?_
 match (units u p).map api_Unit.Id with
 | []=>exact To.pos (by simp) To.pure
 | [x]=>exact To.neg (by simp) (To.neg (by simp) (To.bindS idx_zero To.pure))
 | x :: y :: l=>exact To.neg (by simp;omega) (To.pos (by simp;omega) To.pure)
def findO(id:api_Id)(u:api_Unit):Option api_Unit:=if u.Id=id then some u else u.Kids.attach.findSome? (fun k=>findO id k.1)
termination_by SizeOf.sizeOf u
decreasing_by exact kid_lt k.2
theorem attach_findSome{β:Type}(f:api_Unit→Option β)(l:List api_Unit):l.attach.findSome? (fun k=>f k.1)=l.findSome? f:=by
 rw [show (fun k:{x // x∈l}=>f k.1)=f ∘ Subtype.val from rfl,←List.findSome?_map,List.attach_map_subtype_val]
theorem findO_eq(id:api_Id)(u:api_Unit):findO id u=if u.Id=id then some u else u.Kids.findSome? (findO id):=by
 rw [findO]
 split
 ·rfl
 ·exact attach_findSome (findO id) u.Kids
def pathO(id:api_Id)(u:api_Unit):Option (List api_Unit):=if u.Id=id then some [u] else (u.Kids.attach.findSome? (fun k=>pathO id k.1)).map (u :: ·)
termination_by SizeOf.sizeOf u
decreasing_by exact kid_lt k.2
theorem pathO_eq(id:api_Id)(u:api_Unit):pathO id u=if u.Id=id then some [u] else (u.Kids.findSome? (pathO id)).map (u :: ·):=by
 rw [pathO]
 split
 ·rfl
 ·rw [attach_findSome (pathO id) u.Kids]
theorem path_ne(id:api_Id)(u:api_Unit):∀ w,pathO id u=some w→w≠ []:=by
 intro w h
 rw [pathO_eq] at h
 split at h
 ·cases h;simp
 ·obtain ⟨v,_,rfl⟩:=Option.map_eq_some_iff.1 h
  simp
theorem path_len(id:api_Id)(u:api_Unit):∀ w,pathO id u=some w→w.length≤cnt u:=by
 refine uind (P:=fun u=>∀ w,pathO id u=some w→w.length≤cnt u) ?_ u
 intro u ih w h
 rw [pathO_eq] at h
 split at h
 ·cases h;exact cnt_pos u
 ·obtain ⟨v,hv,rfl⟩:=Option.map_eq_some_iff.1 h
  obtain ⟨k,hk,he⟩:=List.exists_of_findSome?_eq_some hv
  have:=ih k hk v he
  have:=cnt_kid hk
  simp only [List.length_cons]
  omega
theorem path_last(id:api_Id)(u:api_Unit):findO id u=(pathO id u).bind List.getLast?:=by
 refine uind (P:=fun u=>findO id u=(pathO id u).bind List.getLast?) ?_ u
 intro u ih
 rw [findO_eq,pathO_eq]
 split
 ·rfl
 ·have:∀ l:List api_Unit,(∀ k,k∈l→findO id k=(pathO id k).bind List.getLast?)→l.findSome? (findO id)=((l.findSome? (pathO id)).map (u :: ·)).bind List.getLast?:=by
   intro l
   induction l with
   | nil=>intro _;rfl
   | cons k l ihl=>
    intro h
    have h1:=h k (by simp)
    have h2:=ihl fun x hx=>h x (by simp [hx])
    rw [List.findSome?_cons,List.findSome?_cons]
    cases hp:pathO id k with
    | none=>
     rw [hp] at h1
     simp only [Option.bind_none] at h1
     rw [h1];exact h2
    | some w=>
     rw [hp] at h1
     have hw:=path_ne id k w hp
     simp only [Option.bind_some] at h1
     obtain ⟨x,hx⟩:∃ x,w.getLast? =some x:=by
      cases w with
      | nil=>exact absurd rfl hw
      | cons a b=>exact ⟨_,List.getLast?_eq_some_getLast (by simp)⟩
     rw [h1,hx]
     simp only [Option.map_some,Option.bind_some]
     rw [List.getLast?_cons,hx];rfl
  exact this u.Kids ih
theorem way_ok(id:api_Id)(u:api_Unit):cnt u≤10000→To (fun n=>M.unit_way n u id) ((pathO id u).getD []):=by
 refine uind (P:=fun u=>cnt u≤10000→To (fun n=>M.unit_way n u id) ((pathO id u).getD [])) ?_ u
 intro u ih hc
 have loop:∀ (xs:List api_Unit) (slf:Nat→api_Unit→api_Id→Option (List api_Unit)),(∀ k,k∈xs→cnt k<cnt u∧To (fun n=>slf n k id) ((pathO id k).getD []))→
   To (fun n=>M.unit_way_loop1 u id (slf n) xs) (match xs.findSome? (pathO id) with | none=>.inl () | some w=>.inr (u :: w)):=by
  intro xs
  induction xs with
  | nil=>intro slf _;simp only [M.unit_way_loop1];exact To.pure
  | cons x xs ih=>
   intro slf hs
   obtain ⟨h1,h2⟩:=hs x (by simp)
   simp only [M.unit_way_loop1]
   refine To.bind h2 ?_
   rw [List.findSome?_cons]
   cases hp:pathO id x with
   | none=>exact To.neg (by simp) (ih slf fun k hk=>hs k (by simp [hk]))
   | some w=>
    have hw:=path_ne id x w hp
    have hl:=path_len id x w hp
    refine To.pos (by simpa using hw) (To.bindS (appC_eq (by simp;omega)) (To.bindS (a:=()) (by simp [neC]) (To.pure.of (by simp))))
 refine To.succ ?_
 simp only [M.unit_way]
 rw [pathO_eq]
 by_cases hid:u.Id=id
 ·exact To.pos hid (To.bindS (a:=()) (by simp [neC]) (To.pure.of (by simp [hid])))
 ·refine To.neg hid (To.bind (loop u.Kids (fun n=>M.unit_way n) fun k hk=>⟨cnt_kid hk,ih k hk (by have:=cnt_kid hk;omega)⟩) ?_)
  rw [if_neg hid]
  cases u.Kids.findSome? (pathO id) with
  | none=>exact To.pure
  | some w=>exact To.pure
theorem copied_ok(u:api_Unit):cnt u≤10000→labs u→To (fun n=>M.unit_copied n u) u:=by
 refine uind (P:=fun u=>cnt u≤10000→labs u→To (fun n=>M.unit_copied n u) u) ?_ u
 intro u ih hc hl
 have loop:∀ (xs:List api_Unit) (slf:Nat→api_Unit→Option api_Unit) (out:List api_Unit),(∀ k,k∈xs→To (fun n=>slf n k) k)→out.length+xs.length≤10000→To (fun n=>M.unit_copied_loop1 (slf n) xs out) (out++xs):=by
  intro xs
  induction xs with
  | nil=>intro slf out _ _;simp only [M.unit_copied_loop1];exact To.pure.of (by simp)
  | cons x xs ih=>
   intro slf out hs ho
   simp only [List.length_cons] at ho
   simp only [M.unit_copied_loop1]
   refine To.bind (hs x (by simp)) (To.bindS (appC_eq (by simp;omega)) ?_)
   exact (ih slf _ (fun k hk=>hs k (by simp [hk])) (by simp;omega)).of (by simp)
 obtain ⟨h1,h2,h3⟩:=hl u (desc_self u)
 have hk:=cnt_kids u
 refine To.succ ?_
 simp only [M.unit_copied,M.slices_Clone_api_Word_api_Word]
 refine To.bindS (appC_eq (by simp;omega)) (To.bindS (appC_eq (by simp;omega)) ?_)
 simp only [List.nil_append]
 exact To.bind (loop u.Kids (fun n=>M.unit_copied n) [] (fun k hk=>ih k hk (by have:=cnt_kid hk;omega) (labs_kid hl hk)) (by simp;omega)) (To.pure.of (by rw [List.nil_append];cases u;rfl))
theorem find_mem(id:api_Id)(u:api_Unit):∀ x,findO id u=some x→x∈desc u∧x.Id=id:=by
 refine uind (P:=fun u=>∀ x,findO id u=some x→x∈desc u∧x.Id=id) ?_ u
 intro u ih x h
 rw [findO_eq] at h
 split at h
 ·cases h;exact ⟨desc_self u,by assumption⟩
 ·obtain ⟨k,hk,he⟩:=List.exists_of_findSome?_eq_some h
  exact ⟨desc_kid hk (ih k hk x he).1,(ih k hk x he).2⟩
theorem find_some(id:api_Id)(u:api_Unit):∀ x,x∈desc u→x.Id=id→∃ y,findO id u=some y:=by
 refine uind (P:=fun u=>∀ x,x∈desc u→x.Id=id→∃ y,findO id u=some y) ?_ u
 intro u ih x hx he
 rw [findO_eq]
 split
 ·exact ⟨_,rfl⟩
 ·rename_i hn
  rw [desc_eq] at hx
  rcases List.mem_cons.1 hx with rfl | hx
  ·exact absurd he hn
  ·obtain ⟨k,h1,h2⟩:=List.mem_flatMap.1 hx
   obtain ⟨y,hy⟩:=ih k h1 x h2 he
   cases hf:u.Kids.findSome? (findO id) with
   | some z=>exact ⟨z,rfl⟩
   | none=>
    have:=List.findSome?_eq_none_iff.1 hf k h1
    rw [hy] at this;cases this
def findR(id:api_Id)(u:api_Unit):api_Unit×Bool:=match findO id u with
 | some x=>(x,true)
 | none=>(zapi_Unit,false)
theorem desc_sub{u x:api_Unit}(h:x∈desc u):∀ y,y∈desc x→y∈desc u:=by
 refine uind (P:=fun u=>∀ x,x∈desc u→∀ y,y∈desc x→y∈desc u) ?_ u x h
 intro u ih x hx y hy
 rw [desc_eq] at hx
 rcases List.mem_cons.1 hx with rfl | hx
 ·exact hy
 ·obtain ⟨k,h1,h2⟩:=List.mem_flatMap.1 hx
  exact desc_kid h1 (ih k h1 x h2 y hy)
theorem cnt_sub{u x:api_Unit}(h:x∈desc u):cnt x≤cnt u:=by
 refine uind (P:=fun u=>∀ x,x∈desc u→cnt x≤cnt u) ?_ u x h
 intro u ih x hx
 rw [desc_eq] at hx
 rcases List.mem_cons.1 hx with rfl | hx
 ·exact Nat.le_refl _
 ·obtain ⟨k,h1,h2⟩:=List.mem_flatMap.1 hx
  have:=ih k h1 x h2
  have:=cnt_kid h1
  omega
theorem labs_sub{u x:api_Unit}(h:x∈desc u)(hl:labs u):labs x:=fun y hy=>hl y (desc_sub h y hy)
theorem find_u(id:api_Id)(u:api_Unit)(hc:cnt u≤10000)(hl:labs u):To (fun n=>M.unit_Find n u id) (findR id u):=by
 simp only [M.unit_Find]
 refine To.bind (way_ok id u hc) ?_
 unfold findR
 rw [path_last]
 cases hp:pathO id u with
 | none=>exact To.pos (by simp) To.pure
 | some w=>
  have hw:=path_ne id u w hp
  have hlen:=path_len id u w hp
  obtain ⟨x,hx⟩:∃ x,w.getLast? =some x:=by
   cases w with
   | nil=>exact absurd rfl hw
   | cons a b=>exact ⟨_,List.getLast?_eq_some_getLast (by simp)⟩
  have hpos:0<w.length:=List.length_pos_iff.2 hw
  have hf:findO id u=some x:=by rw [path_last,hp];exact hx
  have hm:=(find_mem id u x hf).1
  simp only [Option.getD_some,Option.bind_some,hx]
  refine To.neg (by omega) (To.bindS (subC_eq (by omega) (by omega)) (To.bindS (a:=x) ?_ (To.bind (copied_ok x (by have:=cnt_sub hm;omega) (labs_sub hm hl)) To.pure)))
  rw [List.getLast?_eq_getElem?] at hx
  rw [show (w.length:Int)-1=((w.length-1:Nat):Int) by omega,idx_nat]
  exact hx
theorem find_r06(id:api_Id)(u:api_Unit):To (fun n=>M.r06_Find n u id) (findR id u):=by
 refine uind (P:=fun u=>To (fun n=>M.r06_Find n u id) (findR id u)) ?_ u
 intro u ih
 have loop:∀ (xs:List api_Unit) (slf:Nat→api_Unit→api_Id→Option (api_Unit×Bool)) (i:Nat) (v:api_Unit),u.Kids.drop i=xs→(∀ k,k∈xs→To (fun n=>slf n k id) (findR id k))→
   To (fun n=>M.r06_Find_loop1 u id (slf n) n (i:Int) v) (match xs.findSome? (findO id) with | none=>.inl v | some x=>.inr (x,true)):=by
  intro xs
  induction xs with
  | nil=>
   intro slf i v hx _
   refine To.succ ?_
   simp only [M.r06_Find_loop1]
   exact To.neg (drop_end hx) To.pure
  | cons x xs ih=>
   intro slf i v hx hs
   have h1:=hs x (by simp)
   refine To.succ ?_
   simp only [M.r06_Find_loop1]
   refine To.pos (drop_lt hx) (To.bindS (drop_idx hx) (To.bind h1.shift ?_))
   unfold findR
   rw [List.findSome?_cons]
   cases hf:findO id x with
   | none=>
    refine To.neg (by simp) ?_
    rw [cast_succ]
    exact ih (fun n=>slf (n+1)) (i+1) v (drop_next hx) fun k hk=>(hs k (by simp [hk])).shift
   | some y=>exact To.pos rfl To.pure
 refine To.succ ?_
 simp only [M.r06_Find]
 unfold findR
 rw [findO_eq]
 by_cases hid:u.Id=id
 ·exact To.pos hid (To.pure.of (by simp [hid]))
 ·refine To.neg hid (To.bind (loop u.Kids (fun n=>M.r06_Find n) 0 zapi_Unit rfl ih) ?_)
  rw [if_neg hid]
  cases u.Kids.findSome? (findO id) with
  | none=>exact To.pure
  | some w=>exact To.pure
def placeK(id:api_Id)(l:List api_Unit):Nat:=l.findIdx (fun k=>(pathO id k).isSome)
def parW(id:api_Id)(w:List api_Unit):api_Id×Int×Bool:=match w.reverse with
 | _ :: p :: _=>(p.Id,((placeK id p.Kids:Nat):Int),true)
 | _=>(zapi_Id,-1,false)
def parR(id:api_Id)(u:api_Unit):api_Id×Int×Bool:=match pathO id u with
 | some w=>parW id w
 | none=>(zapi_Id,-1,false)
theorem parW_cons(id:api_Id)(u:api_Unit)(w:List api_Unit)(h:2≤w.length):parW id (u :: w)=parW id w:=by
 unfold parW
 rw [List.reverse_cons]
 have:2≤w.reverse.length:=by simpa using h
 match hw:w.reverse,this with
 | a :: b :: c,_=>rfl
theorem path_self{id:api_Id}{u:api_Unit}(h:u.Id=id):pathO id u=some [u]:=by rw [pathO_eq,if_pos h]
theorem path_two{id:api_Id}{u:api_Unit}{w:List api_Unit}(h:u.Id≠id)(hw:pathO id u=some w):2≤w.length∧ ∃ v,u.Kids.findSome? (pathO id)=some v∧w=u :: v:=by
 rw [pathO_eq,if_neg h] at hw
 obtain ⟨v,hv,rfl⟩:=Option.map_eq_some_iff.1 hw
 obtain ⟨k,hk,he⟩:=List.exists_of_findSome?_eq_some hv
 have:=List.length_pos_iff.2 (path_ne id k v he)
 exact ⟨by simp;omega,v,hv,rfl⟩
theorem path_none{id:api_Id}{u:api_Unit}(h:pathO id u=none):u.Id≠id∧findO id u=none:=by
 refine ⟨fun e=>?_,?_⟩
 ·rw [path_self e] at h;cases h
 ·rw [path_last,h];rfl
theorem path_find{id:api_Id}{u:api_Unit}{w:List api_Unit}(h:pathO id u=some w):∃ x,findO id u=some x:=by
 rw [path_last,h]
 cases w with
 | nil=>exact absurd rfl (path_ne id u [] h)
 | cons a b=>
  refine ⟨(a :: b).getLast (by simp),?_⟩
  rw [Option.bind_some]
  exact List.getLast?_eq_some_getLast (by simp)
theorem indexK(l:List api_Unit)(p:api_Unit→Bool)(fs:Nat→api_Unit→Option Bool)(hf:∀ k,k∈l→To (fun n=>fs n k) (p k)):To (fun n=>M.slices_IndexFunc_api_Unit_api_Unit n l (fs n)) (if l.any p then ((l.findIdx p:Nat):Int) else -1):=by
 have loop:∀ (xs:List api_Unit) (fs:Nat→api_Unit→Option Bool) (i:Nat),l.drop i=xs→(∀ k,k∈xs→To (fun n=>fs n k) (p k))→
   To (fun n=>M.slices_IndexFunc_api_Unit_api_Unit_loop1 l (fs n) n (i:Int)) (if xs.any p then .inr ((i+xs.findIdx p:Nat):Int) else .inl ()):=by
  intro xs
  induction xs with
  | nil=>
   intro fs i hx _
   refine To.succ ?_
   simp only [M.slices_IndexFunc_api_Unit_api_Unit_loop1]
   exact To.neg (drop_end hx) (To.pure.of (by simp))
  | cons x xs ih=>
   intro fs i hx hs
   refine To.succ ?_
   simp only [M.slices_IndexFunc_api_Unit_api_Unit_loop1]
   refine To.pos (drop_lt hx) (To.bindS (drop_idx hx) (To.bind (hs x (by simp)).shift ?_))
   cases hp:p x with
   | true=>exact To.pos rfl (To.pure.of (by simp [hp,List.findIdx_cons]))
   | false=>
    refine To.neg (by simp) ?_
    rw [cast_succ]
    refine (ih (fun n=>fs (n+1)) (i+1) (drop_next hx) fun k hk=>(hs k (by simp [hk])).shift).of ?_
    simp only [List.any_cons,hp,Bool.false_or,List.findIdx_cons,cond_false]
    split
    ·congr 2;omega
    ·rfl
 simp only [M.slices_IndexFunc_api_Unit_api_Unit]
 refine To.bind (loop l fs 0 rfl hf) ?_
 by_cases h:l.any p=true
 ·rw [if_pos h,if_pos h];exact To.pure.of (by simp)
 ·rw [if_neg h,if_neg h];exact To.pure
theorem par_path(id:api_Id)(u:api_Unit):∀ w,pathO id u=some w→2≤w.length→∃ p,p∈desc u∧w[w.length-2]? =some p∧(p.Kids.any fun k=>(pathO id k).isSome)=true∧parW id w=(p.Id,((placeK id p.Kids:Nat):Int),true):=by
 refine uind (P:=fun u=>∀ w,pathO id u=some w→2≤w.length→∃ p,p∈desc u∧w[w.length-2]? =some p∧(p.Kids.any fun k=>(pathO id k).isSome)=true∧parW id w=(p.Id,((placeK id p.Kids:Nat):Int),true)) ?_ u
 intro u ih w hw h2
 by_cases hid:u.Id=id
 ·rw [path_self hid] at hw
  cases hw
  simp at h2
 ·obtain ⟨_,v,hv,rfl⟩:=path_two hid hw
  obtain ⟨k,hk,he⟩:=List.exists_of_findSome?_eq_some hv
  by_cases h3:2≤v.length
  ·obtain ⟨p,q0,q1,q2,q3⟩:=ih k hk v he h3
   refine ⟨p,desc_kid hk q0,?_,q2,by rw [parW_cons id u v h3];exact q3⟩
   rw [List.length_cons,show v.length+1-2=(v.length-2)+1 by omega,List.getElem?_cons_succ]
   exact q1
  ·have hpos:=List.length_pos_iff.2 (path_ne id k v he)
   have h1:v.length=1:=by omega
   match v,h1 with
   | [a],_=>
    refine ⟨u,desc_self u,rfl,?_,by simp [parW]⟩
    rw [List.any_eq_true]
    exact ⟨k,hk,by rw [he];rfl⟩
theorem par_u(id:api_Id)(u:api_Unit)(hc:cnt u≤10000):To (fun n=>M.unit_Parent n u id) (parR id u):=by
 simp only [M.unit_Parent]
 refine To.bind (way_ok id u hc) ?_
 unfold parR
 cases hp:pathO id u with
 | none=>exact To.pos (by simp) To.pure
 | some w=>
  simp only [Option.getD_some]
  have hlen:=path_len id u w hp
  by_cases h2:w.length<2
  ·refine To.pos (by omega) (To.pure.of ?_)
   have hpos:=List.length_pos_iff.2 (path_ne id u w hp)
   match w,hpos,h2 with
   | [a],_,_=>rfl
  ·obtain ⟨p,q0,q1,q2,q3⟩:=par_path id u w hp (by omega)
   refine To.neg (by omega) (To.bindS (subC_eq (by omega) (by omega)) (To.bindS (a:=p) ?_ ?_))
   ·rw [show (w.length:Int)-2=((w.length-2:Nat):Int) by omega,idx_nat]
    exact q1
   ·have hi:=indexK p.Kids (fun k=>(pathO id k).isSome) (fun n s0=>M.unit_Parent_1 n s0 id) (fun k hk=>by
     simp only [M.unit_Parent_1]
     refine To.bind (way_ok id k (by have:=cnt_kid hk;have:=cnt_sub q0;omega)) (To.pure.of ?_)
     cases hk:pathO id k with
     | none=>rfl
     | some v=>
      have:=path_ne id k v hk
      cases v with
      | nil=>exact absurd rfl this
      | cons a b=>rfl)
    rw [if_pos q2] at hi
    refine To.bind hi (To.pure.of ?_)
    rw [q3];rfl
theorem way_sub(u:api_Unit):∀ (p:List api_Step) (l:List api_Unit),(∀ x,x∈l→x∈desc u)→∀ x,x∈way p l→x∈desc u
 | [],l,h,x,hx=>h x hx
 | s :: p,l,h,x,hx=>by
  refine way_sub u p (down s l) (fun y hy=>?_) x hx
  obtain ⟨z,hz,hk⟩:=List.mem_flatMap.1 (List.mem_filter.1 hy).1
  exact desc_sub (h z hz) y (mem_desc_kids hk)
theorem units_sub(u:api_Unit)(p:List api_Step):∀ x,x∈units u p→x∈desc u:=by
 intro x hx
 unfold units at hx
 split at hx
 ·split at hx
  ·rw [List.mem_singleton.1 hx];exact desc_self u
  ·refine way_sub u _ _ (fun y hy=>?_) x hx
   split at hy
   ·rw [List.mem_singleton.1 hy];exact desc_self u
   ·exact (List.mem_filter.1 hy).1
 ·cases hx
theorem one_ok(u:api_Unit)(p:List api_Step)(h:(oneOf ((units u p).map api_Unit.Id)).2=0):∃ x,x∈desc u∧x.Id=(oneOf ((units u p).map api_Unit.Id)).1:=by
 cases hu:(units u p).map api_Unit.Id with
 | nil=>rw [hu] at h;simp [oneOf] at h
 | cons a l=>
  cases l with
  | nil=>
   have:a∈(units u p).map api_Unit.Id:=by rw [hu];simp
   obtain ⟨x,hx,rfl⟩:=List.mem_map.1 this
   exact ⟨x,units_sub u p x hx,rfl⟩
  | cons b m=>rw [hu] at h;simp [oneOf] at h
theorem idx_getElem{α:Type}{l:List α}{i:Nat}(h:i<l.length):idx l (i:Int)=some l[i]:=by rw [idx_nat,List.getElem?_eq_getElem h]
theorem ids3_ok(all:List api_Id)(i:Nat)(hi:i<all.length)(hb:all.length≤1000000):∀ (d k:Nat),i-k≤d→
  To (fun n=>M.r06_Ids_loop3 all (i:Int) n (k:Int)) (.inr false)∨(To (fun n=>M.r06_Ids_loop3 all (i:Int) n (k:Int)) (.inl ())∧ ∀ j (hj:j<i),k≤j→all[j]≠all[i]):=by
 intro d
 induction d with
 | zero=>
  intro k hk
  refine .inr ⟨To.succ ?_,fun j hj hkj=>by omega⟩
  simp only [M.r06_Ids_loop3]
  exact To.neg (by omega) To.pure
 | succ d ih=>
  intro k hk
  by_cases h:k<i
  ·have hx:=idx_getElem (l:=all) (i:=k) (by omega)
   have hy:=idx_getElem (l:=all) (i:=i) (by omega)
   by_cases he:all[k]=all[i]
   ·refine .inl (To.succ ?_)
    simp only [M.r06_Ids_loop3]
    exact To.pos (by omega) (To.bindS hx (To.bindS hy (To.pos he To.pure)))
   ·rcases ih (k+1) (by omega) with h1 | ⟨h1,h2⟩
    ·refine .inl (To.succ ?_)
     simp only [M.r06_Ids_loop3]
     exact To.pos (by omega) (To.bindS hx (To.bindS hy (To.neg he (To.bindS (addC_succ (by omega)) h1))))
    ·refine .inr ⟨To.succ ?_,fun j hj hkj=>?_⟩
     ·simp only [M.r06_Ids_loop3]
      exact To.pos (by omega) (To.bindS hx (To.bindS hy (To.neg he (To.bindS (addC_succ (by omega)) h1))))
     ·by_cases hjk:j=k
      ·subst hjk;exact he
      ·exact h2 j hj (by omega)
  ·refine .inr ⟨To.succ ?_,fun j hj hkj=>by omega⟩
   simp only [M.r06_Ids_loop3]
   exact To.neg (by omega) To.pure
theorem ids2_ok(all:List api_Id)(hb:all.length≤1000000):∀ (xs:List api_Id) (i:Nat),all.drop i=xs→
  To (fun n=>M.r06_Ids_loop2 all n (i:Int)) (.inr false)∨(To (fun n=>M.r06_Ids_loop2 all n (i:Int)) (.inl ())∧ ∀ a (ha:a<all.length),i≤a→∀ j (hj:j<a),all[j]≠all[a]):=by
 intro xs
 induction xs with
 | nil=>
  intro i hx
  have:=List.drop_eq_nil_iff.1 hx
  refine .inr ⟨To.succ ?_,fun a ha hia=>by omega⟩
  simp only [M.r06_Ids_loop2]
  exact To.neg (drop_end hx) To.pure
 | cons x xs ih=>
  intro i hx
  have hi:=(drop_cons hx).1
  rcases ids3_ok all i hi hb i 0 (by omega) with h1 | ⟨h1,h2⟩
  ·refine .inl (To.succ ?_)
   simp only [M.r06_Ids_loop2]
   exact To.pos (drop_lt hx) (To.bind h1 To.pure)
  ·rcases ih (i+1) (drop_next hx) with h3 | ⟨h3,h4⟩
   ·refine .inl (To.succ ?_)
    simp only [M.r06_Ids_loop2]
    exact To.pos (drop_lt hx) (To.bind h1 (To.bindS (addC_succ (by omega)) h3))
   ·refine .inr ⟨To.succ ?_,fun a ha hia j hj=>?_⟩
    ·simp only [M.r06_Ids_loop2]
     exact To.pos (drop_lt hx) (To.bind h1 (To.bindS (addC_succ (by omega)) h3))
    ·by_cases hai:a=i
     ·subst hai;exact h2 j hj (by omega)
     ·exact h4 a ha (by omega) j hj
theorem ids1_ok(all:List api_Id):∀ (xs:List api_Id) (i:Nat) (b:Bool),all.drop i=xs→∃ c,To (fun n=>M.r06_Ids_loop1 all n b (i:Int)) c∧(c=true→b=true∧ ∀ x,x∈xs→x=zapi_Id):=by
 intro xs
 induction xs with
 | nil=>
  intro i b hx
  refine ⟨b,To.succ ?_,fun h=>⟨h,fun x hx=>by cases hx⟩⟩
  simp only [M.r06_Ids_loop1]
  exact To.neg (drop_end hx) To.pure
 | cons x xs ih=>
  intro i b hx
  cases b with
  | true=>
   obtain ⟨c,h1,h2⟩:=ih (i+1) (decide (x=zapi_Id)) (drop_next hx)
   refine ⟨c,To.succ ?_,fun h=>⟨rfl,fun y hy=>?_⟩⟩
   ·simp only [M.r06_Ids_loop1]
    rw [cast_succ]
    exact To.pos (drop_lt hx) (To.pos (by simp) (To.bindS (drop_idx hx) h1))
   ·rcases List.mem_cons.1 hy with rfl | hy
    ·exact of_decide_eq_true (h2 h).1
    ·exact (h2 h).2 y hy
  | false=>
   obtain ⟨c,h1,h2⟩:=ih (i+1) false (drop_next hx)
   refine ⟨c,To.succ ?_,fun h=>by cases (h2 h).1⟩
   simp only [M.r06_Ids_loop1]
   rw [cast_succ]
   exact To.pos (drop_lt hx) (To.neg (by simp) h1)
theorem ids_ok(u:api_Unit)(hc:cnt u≤1000000)(h:To (fun n=>M.r06_Ids n u) true):(∀ x,x∈desc u→x.Id=zapi_Id)∨((desc u).map api_Unit.Id).Nodup:=by
 have hl:((desc u).map api_Unit.Id).length≤1000000:=by simpa [cnt] using hc
 simp only [M.r06_Ids] at h
 replace h:=h.unbind (all_ok u hc)
 generalize hall:(desc u).map api_Unit.Id=all at h hl ⊢
 obtain ⟨c,h1,h2⟩:=ids1_ok all all 0 true rfl
 replace h:=h.unbind h1
 cases c with
 | true=>
  refine .inl fun x hx=>(h2 rfl).2 _ ?_
  rw [←hall];exact List.mem_map.2 ⟨x,hx,rfl⟩
 | false=>
  replace h:=h.unneg (by simp)
  have h0:idx all 0=some u.Id:=by rw [←hall,desc_eq];simp [idx]
  rw [h0] at h
  replace h:=h.unbind (f:=fun _=>some u.Id) To.pure
  by_cases hk:(decide (u.Id=(⟨(0:Int),(0:Int),(0:Int)⟩:api_Id)) !=decide (u.Kind=(0:Int)))=true
  ·replace h:=(h.unpos hk).unpure
   cases h
  ·replace h:=h.unneg hk
   rcases ids2_ok all hl all 0 rfl with h3 | ⟨h3,h4⟩
   ·cases (h.unbind h3).unpure
   ·refine .inr ?_
    rw [List.Nodup,List.pairwise_iff_getElem]
    intro i j hi hj hij
    exact h4 j hj (by omega) i hij
structure Fine (u:api_Unit):Prop where
 kind:0≤u.Kind∧u.Kind≤7
 label:u.Kind≠0→labB u.Label=true
 kids:∀ k,k∈u.Kids→k.Kind≠0
 apart:∀ i j (hi:i<u.Kids.length) (hj:j<u.Kids.length),i<j→¬ (u.Kids[i].Kind=u.Kids[j].Kind∧u.Kids[i].Label=u.Kids[j].Label)
theorem nests_zero(p:Int):M.r06_Nests p 0=some false:=by
 simp only [M.r06_Nests]
 by_cases h0:p=0
 ·subst h0;rfl
 by_cases h1:p=1
 ·subst h1;rfl
 by_cases h2:p=2
 ·subst h2;rfl
 by_cases h3:p=3
 ·subst h3;rfl
 by_cases h4:p=4
 ·subst h4;rfl
 by_cases h5:p=5
 ·subst h5;rfl
 simp [h0,h1,h2,h3,h4,h5]
theorem right2_ok(u:api_Unit)(i:Nat)(hi:i<u.Kids.length)(hb:u.Kids.length≤1000000):∀ (d k:Nat),i-k≤d→
  To (fun n=>M.r06_Right_loop2 u (i:Int) n (k:Int)) (.inr false)∨(To (fun n=>M.r06_Right_loop2 u (i:Int) n (k:Int)) (.inl ())∧ ∀ j (hj:j<i),k≤j→¬ (u.Kids[j].Kind=u.Kids[i].Kind∧u.Kids[j].Label=u.Kids[i].Label)):=by
 intro d
 induction d with
 | zero=>
  intro k hk
  refine .inr ⟨To.succ ?_,fun j hj hkj=>by omega⟩
  simp only [M.r06_Right_loop2]
  exact To.neg (by omega) To.pure
 | succ d ih=>
  intro k hk
  by_cases h:k<i
  ·have hx:=idx_getElem (l:=u.Kids) (i:=k) (by omega)
   have hy:=idx_getElem (l:=u.Kids) (i:=i) (by omega)
   have step:∀ r,To (fun n=>M.r06_Right_loop2 u (i:Int) n ((k+1:Nat):Int)) r→¬ (u.Kids[k].Kind=u.Kids[i].Kind∧u.Kids[k].Label=u.Kids[i].Label)→To (fun n=>M.r06_Right_loop2 u (i:Int) n (k:Int)) r:=by
    intro r hr hne
    refine To.succ ?_
    simp only [M.r06_Right_loop2]
    refine To.pos (by omega) (To.bindS hx (To.bindS hy ?_))
    by_cases hkk:u.Kids[k].Kind=u.Kids[i].Kind
    ·refine To.pos hkk (To.bindS hx (To.bindS hy (To.neg (by simp;exact fun e=>hne ⟨hkk,e⟩) (To.bindS (addC_succ (by omega)) hr))))
    ·exact To.neg hkk (To.bindS (addC_succ (by omega)) hr)
   by_cases he:u.Kids[k].Kind=u.Kids[i].Kind∧u.Kids[k].Label=u.Kids[i].Label
   ·refine .inl (To.succ ?_)
    simp only [M.r06_Right_loop2]
    exact To.pos (by omega) (To.bindS hx (To.bindS hy (To.pos he.1 (To.bindS hx (To.bindS hy (To.pos (by simp [he.2]) To.pure))))))
   ·rcases ih (k+1) (by omega) with h1 | ⟨h1,h2⟩
    ·exact .inl (step _ h1 he)
    ·refine .inr ⟨step _ h1 he,fun j hj hkj=>?_⟩
     by_cases hjk:j=k
     ·subst hjk;exact he
     ·exact h2 j hj (by omega)
  ·refine .inr ⟨To.succ ?_,fun j hj hkj=>by omega⟩
   simp only [M.r06_Right_loop2]
   exact To.neg (by omega) To.pure
theorem alone_ok(u:api_Unit)(hl:u.Label.length≤1000000000)(h:To (fun n=>M.r06_alone n u) true):(0≤u.Kind∧u.Kind≤7)∧(u.Kind≠0→labB u.Label=true):=by
 simp only [M.r06_alone] at h
 have hA:Tot (fun n=>if u.Kind<(0:Int) then some true else if (7:Int)< u.Kind then some true else if (64:Int)< (u.Kids.length:Int) then some true else
   Option.bind (M.r06_row n u.Head) fun row=>if row=false then some true else Option.bind (M.r06_row n u.Words) fun row1=>some (!row1)):=by
  refine Tot.ite (fun _=>Tot.pure) fun _=>Tot.ite (fun _=>Tot.pure) fun _=>Tot.ite (fun _=>Tot.pure) fun _=>Tot.bind (row_tot _) fun a _=>Tot.ite (fun _=>Tot.pure) fun _=>Tot.bind (row_tot _) fun _ _=>Tot.pure
 obtain ⟨a,ha⟩:=hA
 replace h:=h.unbind ha
 cases a with
 | true=>cases (h.unpos rfl).unpure
 | false=>
  replace h:=h.unneg (by simp)
  have hk:0≤u.Kind∧u.Kind≤7:=by
   by_cases h1:u.Kind<0
   ·cases (ha.unpos h1).unpure
   by_cases h2:7<u.Kind
   ·cases ((ha.unneg h1).unpos h2).unpure
   omega
  refine ⟨hk,fun h0=>?_⟩
  exact ((h.unneg h0).unbind (may03 u.Label hl)).unpure
theorem right_ok(u:api_Unit):cnt u≤1000000→labs u→To (fun n=>M.r06_Right n u) true→∀ x,x∈desc u→Fine x:=by
 refine uind (P:=fun u=>cnt u≤1000000→labs u→To (fun n=>M.r06_Right n u) true→∀ x,x∈desc u→Fine x) ?_ u
 intro u ih hc hl h
 have hk:=cnt_kids u
 have hlab:=hl u (desc_self u)
 have loop:∀ (xs:List api_Unit) (slf:Nat→api_Unit→Option Bool) (i:Nat),u.Kids.drop i=xs→(∀ k,k∈xs→Tot (fun n=>slf n k))→
   To (fun n=>M.r06_Right_loop1 u (slf n) n (i:Int)) (.inr false)∨(To (fun n=>M.r06_Right_loop1 u (slf n) n (i:Int)) (.inl ())∧(∀ k,k∈xs→k.Kind≠0∧To (fun n=>slf n k) true)∧
    ∀ a (ha:a<u.Kids.length),i≤a→∀ j (hj:j<a),¬ (u.Kids[j].Kind=u.Kids[a].Kind∧u.Kids[j].Label=u.Kids[a].Label)):=by
  intro xs
  induction xs with
  | nil=>
   intro slf i hx hs
   have:=List.drop_eq_nil_iff.1 hx
   refine .inr ⟨To.succ ?_,fun k hk=>(by cases hk),fun a ha hia=>by omega⟩
   simp only [M.r06_Right_loop1]
   exact To.neg (drop_end hx) To.pure
  | cons x xs ih=>
   intro slf i hx hs
   obtain ⟨b,hb⟩:=nests_tot u.Kind x.Kind
   have hi:=(drop_cons hx).1
   obtain ⟨c,hcx⟩:=hs x (by simp)
   cases b with
   | false=>
    refine .inl (To.succ ?_)
    simp only [M.r06_Right_loop1]
    exact To.pos (drop_lt hx) (To.bindS (drop_idx hx) (To.bindS hb (To.pos rfl To.pure)))
   | true=>
    have hk0:x.Kind≠0:=fun e=>by rw [e,nests_zero] at hb;cases hb
    cases c with
    | false=>
     refine .inl (To.succ ?_)
     simp only [M.r06_Right_loop1]
     exact To.pos (drop_lt hx) (To.bindS (drop_idx hx) (To.bindS hb (To.neg (by simp) (To.bindS (drop_idx hx) (To.bind hcx.shift (To.pos rfl To.pure))))))
    | true=>
     rcases right2_ok u i hi (by omega) i 0 (by omega) with h1 | ⟨h1,h2⟩
     ·refine .inl (To.succ ?_)
      simp only [M.r06_Right_loop1]
      exact To.pos (drop_lt hx) (To.bindS (drop_idx hx) (To.bindS hb (To.neg (by simp) (To.bindS (drop_idx hx) (To.bind hcx.shift (To.neg (by simp) (To.bind h1 To.pure)))))))
     ·have step:∀ r,To (fun n=>M.r06_Right_loop1 u (slf (n+1)) n ((i+1:Nat):Int)) r→To (fun n=>M.r06_Right_loop1 u (slf n) n (i:Int)) r:=by
       intro r hr
       refine To.succ ?_
       simp only [M.r06_Right_loop1]
       exact To.pos (drop_lt hx) (To.bindS (drop_idx hx) (To.bindS hb (To.neg (by simp) (To.bindS (drop_idx hx) (To.bind hcx.shift (To.neg (by simp) (To.bind h1 (To.bindS (addC_succ (by omega)) hr))))))))
      rcases ih (fun n=>slf (n+1)) (i+1) (drop_next hx) (fun k hk=>(hs k (by simp [hk])).shift) with h3 | ⟨h3,h4,h5⟩
      ·exact .inl (step _ h3)
      ·refine .inr ⟨step _ h3,fun k hk=>?_,fun a ha hia j hj=>?_⟩
       ·rcases List.mem_cons.1 hk with rfl | hk
        ·exact ⟨hk0,hcx⟩
        ·obtain ⟨q1,q2⟩:=h4 k hk
         obtain ⟨c2,hc2⟩:=hs k (by simp [hk])
         obtain rfl:=hc2.shift.det q2
         exact ⟨q1,hc2⟩
       ·by_cases hai:a=i
        ·subst hai;exact h2 j hj (by omega)
        ·exact h5 a ha (by omega) j hj
 have h:=h.unsucc
 simp only [M.r06_Right] at h
 obtain ⟨a,ha⟩:=alone_tot u (by omega)
 replace h:=h.unbind ha
 cases a with
 | false=>cases (h.unpos rfl).unpure
 | true=>
  replace h:=h.unneg (by simp)
  obtain ⟨k1,k2⟩:=alone_ok u (by omega) ha
  rcases loop u.Kids (fun n=>M.r06_Right n) 0 rfl (fun k hk=>right_tot k (by have:=cnt_kid hk;omega) (labs_kid hl hk)) with h1 | ⟨h1,h2,h3⟩
  ·cases (h.unbind h1).unpure
  ·intro x hx
   rw [desc_eq] at hx
   rcases List.mem_cons.1 hx with rfl | hx
   ·exact ⟨k1,k2,fun k hk=>(h2 k hk).1,fun i j hi hj hij=>h3 j hj (by omega) i hij⟩
   ·obtain ⟨k,hk,hkx⟩:=List.mem_flatMap.1 hx
    exact ih k hk (by have:=cnt_kid hk;omega) (labs_kid hl hk) (h2 k hk).2 x hkx
def deep(u:api_Unit):Nat:=(u.Kids.attach.map (fun k=>1+deep k.1)).foldl max 0
termination_by SizeOf.sizeOf u
decreasing_by exact kid_lt k.2
theorem deep_eq(u:api_Unit):deep u=(u.Kids.map (fun k=>1+deep k)).foldl max 0:=by
 rw [deep]
 congr 1
 rw [show (fun k:{x // x∈u.Kids}=>1+deep k.1)=(fun k=>1+deep k) ∘ Subtype.val from rfl,←List.map_map,List.attach_map_subtype_val]
theorem depth_deep(u:api_Unit):cnt u≤1000000→deep u≤cnt u∧To (fun n=>M.r06_Depth n u) (deep u:Int):=by
 refine uind (P:=fun u=>cnt u≤1000000→deep u≤cnt u∧To (fun n=>M.r06_Depth n u) (deep u:Int)) ?_ u
 intro u ih hc
 have loop:∀ (xs:List api_Unit) (slf:Nat→api_Unit→Option Int) (i d:Nat),u.Kids.drop i=xs→(∀ k,k∈xs→cnt k<cnt u∧deep k≤cnt k∧To (fun n=>slf n k) (deep k:Int))→d≤cnt u→
   (xs.map (fun k=>1+deep k)).foldl max d≤cnt u∧To (fun n=>M.r06_Depth_loop1 u (slf n) n (d:Int) (i:Int)) (((xs.map (fun k=>1+deep k)).foldl max d:Nat):Int):=by
  intro xs
  induction xs with
  | nil=>
   intro slf i d hx hs hd
   refine ⟨hd,To.succ ?_⟩
   simp only [M.r06_Depth_loop1]
   exact To.neg (drop_end hx) To.pure
  | cons x xs ih=>
   intro slf i d hx hs hd
   obtain ⟨h1,h2,h3⟩:=hs x (by simp)
   obtain ⟨q1,q2⟩:=ih (fun n=>slf (n+1)) (i+1) (max d (1+deep x)) (drop_next hx) (fun k hk=>by
    obtain ⟨a,b,c⟩:=hs k (by simp [hk])
    exact ⟨a,b,c.shift⟩) (by omega)
   refine ⟨q1,To.succ ?_⟩
   simp only [M.r06_Depth_loop1]
   refine To.pos (drop_lt hx) (To.bindS (drop_idx hx) (To.bind h3.shift (To.bindS (addC_eq (by omega) (by omega)) ?_)))
   rw [cast_succ,show max (d:Int) (1+(deep x:Int))=((max d (1+deep x):Nat):Int) by omega]
   exact q2
 obtain ⟨h1,h2⟩:=loop u.Kids (fun n=>M.r06_Depth n) 0 0 rfl (fun k hk=>⟨cnt_kid hk,ih k hk (by have:=cnt_kid hk;omega)⟩) (by omega)
 rw [deep_eq]
 refine ⟨h1,To.succ ?_⟩
 simp only [M.r06_Depth]
 exact To.bind h2 To.pure
structure Good (u:api_Unit):Prop where
 fine:∀ x,x∈desc u→Fine x
 deep:deep u≤8
 apart:((desc u).map api_Unit.Id).Nodup
theorem named_root(u:api_Unit)(h:To (fun n=>M.r08_named n u) true):u.Kind≠0→u.Id≠zapi_Id:=by
 intro hk he
 have h:=h.unsucc
 simp only [M.r08_named] at h
 have:=h.unbind (To.pos hk (To.pure (r:=decide (u.Id=(⟨(0:Int),(0:Int),(0:Int)⟩:api_Id)))))
 cases (this.unpos (by rw [he];rfl)).unpure
theorem stands_good(u:api_Unit)(hc:cnt u≤1000000)(hl:labs u)(h:To (fun n=>M.r08_Stands n u) true):Good u:=by
 simp only [M.r08_Stands,M.r06_May] at h
 obtain ⟨a,ha⟩:=right_tot u hc hl
 obtain ⟨e,he⟩:=ids_tot u hc
 have hd:=(depth_deep u hc).2
 have hcn:=count_ok u hc
 obtain ⟨m,hm⟩:Tot (fun n=>Option.bind (M.r06_Right n u) fun right=>if right=true then Option.bind (M.r06_Depth n u) fun depth=>if depth≤(8:Int) then Option.bind (M.r06_Count n u) fun count=>if count≤(1024:Int) then Option.bind (M.r06_Ids n u) fun ids=>some ids else some false else some false else some false):=
  Tot.bind ⟨a,ha⟩ fun _ _=>Tot.ite (fun _=>Tot.bind hd.tot fun _ _=>Tot.ite (fun _=>Tot.bind hcn.tot fun _ _=>Tot.ite (fun _=>Tot.bind ⟨e,he⟩ fun _ _=>Tot.pure) fun _=>Tot.pure) fun _=>Tot.pure) fun _=>Tot.pure
 replace h:=h.unbind hm
 cases m with
 | false=>cases (h.unneg (by simp)).unpure
 | true=>
  replace h:=h.unpos rfl
  replace hm:=hm.unbind ha
  cases a with
  | false=>cases (hm.unneg (by simp)).unpure
  | true=>
   replace hm:=(hm.unpos rfl).unbind hd
   by_cases h8:(deep u:Int)≤8
   ·replace hm:=(hm.unpos h8).unbind hcn
    by_cases h9:(cnt u:Int)≤1024
    ·replace hm:=(hm.unpos h9).unbind he
     have:=hm.unpure
     subst this
     have hfine:=right_ok u hc hl ha
     refine ⟨hfine,by omega,?_⟩
     rcases ids_ok u hc he with h0 | h0
     ·obtain ⟨nm,hnm⟩:=named_tot u
      have:=(h.unbind hnm).unpure
      subst this
      have hk0:u.Kind=0:=by
       by_cases hk:u.Kind=0
       ·exact hk
       ·exact absurd (h0 u (desc_self u)) (named_root u hnm hk)
      have hkids:u.Kids= []:=by
       cases hks:u.Kids with
       | nil=>rfl
       | cons k l=>
        exfalso
        have hkm:k∈u.Kids:=by rw [hks];simp
        have hkk:=(hfine u (desc_self u)).kids k hkm
        have hk0':=h0 k (mem_desc_kids hkm)
        -- the first kid is named
        have h':=hnm.unsucc
        simp only [M.r08_named] at h'
        have h2:=h'.unbind (To.neg (by simp [hk0]) To.pure:To (fun n=>if u.Kind≠(0:Int) then some (decide (u.Id=(⟨(0:Int),(0:Int),(0:Int)⟩:api_Id))) else some false) false)
        replace h2:=h2.unneg (by simp)
        obtain ⟨kn,hkn⟩:=named_tot k
        cases kn with
        | true=>exact named_root k hkn hkk hk0'
        | false=>
         have hlp:To (fun n=>M.r08_named_loop1 u (M.r08_named n) n (0:Int)) (.inr false):=by
          refine To.succ ?_
          simp only [M.r08_named_loop1]
          refine To.pos (by rw [hks];simp) (To.bindS (a:=k) (by rw [hks];exact idx_zero) (To.bind hkn.shift (To.pos rfl To.pure)))
         cases (h2.unbind hlp).unpure
      rw [desc_eq,hkids];simp
     ·exact h0
    ·cases (hm.unneg h9).unpure
   ·cases (hm.unneg h8).unpure
theorem nodup_kid{u k:api_Unit}(h:((desc u).map api_Unit.Id).Nodup)(hk:k∈u.Kids):((desc k).map api_Unit.Id).Nodup:=by
 rw [desc_eq] at h
 simp only [List.map_cons,List.nodup_cons] at h
 have h2:=h.2
 rw [List.map_flatMap] at h2
 have:(u.Kids.map (fun k=>(desc k).map api_Unit.Id)).flatten.Nodup:=by rw [←List.flatMap_def];exact h2
 rw [List.Nodup,List.pairwise_flatten] at this
 exact this.1 _ (List.mem_map.2 ⟨k,hk,rfl⟩)
theorem nodup_eq{u x y:api_Unit}(h:((desc u).map api_Unit.Id).Nodup)(hx:x∈desc u)(hy:y∈desc u)(he:x.Id=y.Id):x=y:=by
 have:∀ l:List api_Unit,(l.map api_Unit.Id).Nodup→x∈l→y∈l→x=y:=by
  intro l
  induction l with
  | nil=>intro _ hx;cases hx
  | cons z l ih=>
   intro hn hx hy
   simp only [List.map_cons,List.nodup_cons] at hn
   rcases List.mem_cons.1 hx with e1 | m1
   ·rcases List.mem_cons.1 hy with e2 | m2
    ·rw [e1,e2]
    ·exact absurd (List.mem_map.2 ⟨y,m2,by rw [←he,e1]⟩) hn.1
   ·rcases List.mem_cons.1 hy with e2 | m2
    ·exact absurd (List.mem_map.2 ⟨x,m1,by rw [he,e2]⟩) hn.1
    ·exact ih hn.2 m1 m2
 exact this _ h hx hy
theorem way_desc(id:api_Id)(u:api_Unit):∀ w,pathO id u=some w→∀ z,z∈w→z∈desc u∧ ∃ y,y∈desc z∧y.Id=id:=by
 refine uind (P:=fun u=>∀ w,pathO id u=some w→∀ z,z∈w→z∈desc u∧ ∃ y,y∈desc z∧y.Id=id) ?_ u
 intro u ih w hw z hz
 by_cases hid:u.Id=id
 ·rw [path_self hid] at hw
  cases hw
  rw [List.mem_singleton.1 hz]
  exact ⟨desc_self u,u,desc_self u,hid⟩
 ·obtain ⟨x,hx⟩:=path_find hw
  obtain ⟨hm,hi⟩:=find_mem id u x hx
  obtain ⟨_,v,hv,rfl⟩:=path_two hid hw
  rcases List.mem_cons.1 hz with rfl | hz
  ·exact ⟨desc_self z,x,hm,hi⟩
  ·obtain ⟨k,hk,he⟩:=List.exists_of_findSome?_eq_some hv
   obtain ⟨h1,h2⟩:=ih k hk v he z hz
   exact ⟨desc_kid hk h1,h2⟩
end Go.Proofs.YtlegkjbldofkmaaGreat
