import Derived.Test.YtalogjkalmkpjaaGreatDoorPw
import Derived.Test.YtalogjkalmkpjaaGreatDoorDec40
/-
  Trees of units: how many, how deep, which are few, which are valid (picked by wip/scripts/pick.py).
-/
set_option linter.unusedVariables false
set_option linter.unusedSimpArgs false
namespace Go.Proofs.YtalogjkalmkpjaaGreatDoor
open Go Go.Dec
theorem kid_lt{u k:api_Unit}(h:k∈u.Kids):SizeOf.sizeOf k<SizeOf.sizeOf u:=by
 cases u
 have:=List.sizeOf_lt_of_mem h
 simp at this ⊢
 omega
theorem uind{P:api_Unit→Prop}(h:∀ u,(∀ k,k∈u.Kids→P k)→P u)(u:api_Unit):P u:=
 h u (fun k hk=>uind h k)
termination_by SizeOf.sizeOf u
decreasing_by exact kid_lt hk
def desc(u:api_Unit):List api_Unit:=u :: u.Kids.attach.flatMap (fun k=>desc k.1)
termination_by SizeOf.sizeOf u
decreasing_by exact kid_lt k.2
theorem desc_eq(u:api_Unit):desc u=u :: u.Kids.flatMap desc:=by
 rw [desc]
 congr 1
 have:∀ l:List api_Unit,l.attach.flatMap (fun k=>desc k.1)=l.flatMap desc:=by
  intro l
  rw [List.flatMap_def,List.flatMap_def]
  congr 1
  rw [show (fun k:{x // x∈l}=>desc k.1)=desc ∘ Subtype.val from rfl,←List.map_map,List.attach_map_subtype_val]
 exact this _
def cnt(u:api_Unit):Nat:=(desc u).length
theorem cnt_eq(u:api_Unit):cnt u=1+(u.Kids.map cnt).sum:=by
 unfold cnt
 rw [desc_eq]
 simp [List.length_flatMap]
 omega
theorem cntU_pos(u:api_Unit):1≤cnt u:=by rw [cnt_eq];omega
theorem sum_mem{α:Type}(f:α→Nat):∀ {l:List α} {x:α},x∈l→f x≤(l.map f).sum
 | y :: l,x,h=>by
  rcases List.mem_cons.1 h with rfl | h
  ·simp
  ·have:=sum_mem f h
   simp;omega
theorem sum_len{α:Type}(f:α→Nat)(h:∀ x,1≤f x):∀ l:List α,l.length≤(l.map f).sum
 | []=>by simp
 | x :: l=>by
  have:=sum_len f h l
  have:=h x
  simp;omega
theorem cnt_kid{u k:api_Unit}(h:k∈u.Kids):cnt k<cnt u:=by
 rw [cnt_eq u]
 have:=sum_mem cnt h
 omega
theorem cnt_kids(u:api_Unit):u.Kids.length<cnt u:=by
 rw [cnt_eq u]
 have:=sum_len cnt cntU_pos u.Kids
 omega
theorem size_loop(u:api_Unit)(deep most:Int)(hd0:0≤deep)(hd:deep≤20)(hm0:0≤most)(hm:most≤1000000):∀ (xs:List api_Unit) (slf:Nat→api_Unit→Int→Int→Option Int) (i:Nat) (n0:Int),u.Kids.drop i=xs→
  (∀ k,k∈xs→∀ m:Int,0≤m→m≤1000000→∃ r,To (fun n=>slf n k (deep+1) m) r∧1≤r∧r≤m+1∧(r≤m→(cnt k:Int)≤r))→(i:Int)+1≤n0→n0≤most+1→
  ∃ r,To (fun n=>M.r06_size_loop1 u deep most (slf n) n n0 (i:Int)) r∧n0≤r∧r≤most+1∧(r≤most→n0+((xs.map cnt).sum:Nat)≤r)
 | [],slf,i,n0,hx,hs,h1,h2=>by
  refine ⟨n0,To.succ ?_,by omega,h2,fun h=>by simp⟩
  simp only [M.r06_size_loop1]
  refine To.bind (a:=false) (To.neg (drop_end hx) To.pure) ?_
  exact To.neg (by simp) To.pure
 | x :: xs,slf,i,n0,hx,hs,h1,h2=>by
  by_cases hle:n0≤most
  ·obtain ⟨r1,ht1,hr1,hr2,hr3⟩:=hs x (by simp) (most-n0) (by omega) (by omega)
   have ih:=size_loop u deep most hd0 hd hm0 hm xs (fun n=>slf (n+1)) (i+1) (n0+r1) (drop_next hx) (fun k hk m a b=>by
    obtain ⟨r,h1,h2⟩:=hs k (by simp [hk]) m a b
    exact ⟨r,h1.shift,h2⟩) (by omega) (by omega)
   obtain ⟨r,ht,q1,q2,q3⟩:=ih
   refine ⟨r,To.succ ?_,by omega,q2,fun h=>?_⟩
   ·simp only [M.r06_size_loop1]
    refine To.bind (a:=true) (To.pos (drop_lt hx) (To.pure.of (by simp [hle]))) ?_
    refine To.pos rfl ?_
    refine To.bindS (drop_idx hx) ?_
    refine To.bindS (addC_eq (by omega) (by omega)) ?_
    refine To.bindS (subC_eq (by omega) (by omega)) ?_
    refine To.bind ht1.shift ?_
    refine To.bindS (addC_eq (by omega) (by omega)) ?_
    refine To.bindS (addC_succ (by omega)) ?_
    exact ht
   ·have:=q3 h
    have:=hr3 (by omega)
    simp only [List.map_cons,List.sum_cons]
    omega
  ·refine ⟨n0,To.succ ?_,by omega,h2,fun h=>by omega⟩
   simp only [M.r06_size_loop1]
   refine To.bind (a:=false) (To.pos (drop_lt hx) (To.pure.of (by simp;omega))) ?_
   exact To.neg (by simp) To.pure
theorem size_ok(u:api_Unit):∀ (deep most:Int),0≤deep→deep≤21→0≤most→most≤1000000→∃ r,To (fun n=>M.r06_size n u deep most) r∧1≤r∧r≤most+1∧(r≤most→(cnt u:Int)≤r):=by
 refine uind (P:=fun u=>∀ (deep most:Int),0≤deep→deep≤21→0≤most→most≤1000000→∃ r,To (fun n=>M.r06_size n u deep most) r∧1≤r∧r≤most+1∧(r≤most→(cnt u:Int)≤r)) ?_ u
 intro u ih deep most h1 h2 h3 h4
 by_cases hd:20<deep
 ·refine ⟨most+1,To.succ ?_,by omega,by omega,fun h=>by omega⟩
  simp only [M.r06_size]
  refine To.pos hd (To.bindS (addC_eq (by omega) (by omega)) To.pure)
 ·obtain ⟨r,ht,q1,q2,q3⟩:=size_loop u deep most h1 (by omega) h3 h4 u.Kids (fun n=>M.r06_size n) 0 1 rfl (fun k hk m a b=>ih k hk (deep+1) m (by omega) (by omega) a b) (by omega) (by omega)
  refine ⟨r,To.succ ?_,q1,q2,fun h=>?_⟩
  ·simp only [M.r06_size]
   refine To.neg hd (To.bind ht To.pure)
  ·rw [cnt_eq]
   have:=q3 h
   omega
theorem short_ok(l:List api_Word):∃ b,To (fun n=>M.r06_short n l) b∧(b=true→l.length≤300):=by
 have loop:∀ (xs:List api_Word) (i:Nat),l.drop i=xs→∃ c:Unit ⊕ Bool,To (fun n=>M.r06_short_loop1 l n (i:Int)) c∧(c= .inl ()∨c= .inr false):=by
  intro xs
  induction xs with
  | nil=>
   intro i hx
   refine ⟨.inl (),To.succ ?_,.inl rfl⟩
   simp only [M.r06_short_loop1]
   exact To.neg (drop_end hx) To.pure
  | cons x xs ih=>
   intro i hx
   by_cases h:100<x.Text.length
   ·refine ⟨.inr false,To.succ ?_,.inr rfl⟩
    simp only [M.r06_short_loop1]
    exact To.pos (drop_lt hx) (To.bindS (drop_idx hx) (To.pos (by omega) To.pure))
   ·obtain ⟨c,h1,h2⟩:=ih (i+1) (drop_next hx)
    refine ⟨c,To.succ ?_,h2⟩
    simp only [M.r06_short_loop1]
    rw [cast_succ]
    exact To.pos (drop_lt hx) (To.bindS (drop_idx hx) (To.neg (by omega) h1))
 obtain ⟨c,h1,h2⟩:=loop l 0 rfl
 simp only [M.r06_short]
 rcases h2 with rfl | rfl
 ·exact ⟨_,To.bind h1 To.pure,fun h=>by have:=of_decide_eq_true h;omega⟩
 ·exact ⟨_,To.bind h1 To.pure,fun h=>by cases h⟩
theorem desc_self(u:api_Unit):u∈desc u:=by rw [desc_eq];simp
theorem desc_kid{u k x:api_Unit}(hk:k∈u.Kids)(hx:x∈desc k):x∈desc u:=by
 rw [desc_eq]
 exact List.mem_cons_of_mem _ (List.mem_flatMap.2 ⟨k,hk,hx⟩)
def labs(u:api_Unit):Prop:=∀ x,x∈desc u→x.Label.length≤5000∧x.Head.length≤5000∧x.Words.length≤5000
theorem labs_kid{u k:api_Unit}(h:labs u)(hk:k∈u.Kids):labs k:=fun x hx=>h x (desc_kid hk hx)
theorem words06(u:api_Unit):∃ b,To (fun n=>M.r06_words n u) b∧(b=true→labs u):=by
 refine uind (P:=fun u=>∃ b,To (fun n=>M.r06_words n u) b∧(b=true→labs u)) ?_ u
 intro u ih
 have loop:∀ (xs:List api_Unit) (slf:Nat→api_Unit→Option Bool) (i:Nat),u.Kids.drop i=xs→(∀ k,k∈xs→∃ b,To (fun n=>slf n k) b∧(b=true→labs k))→
   To (fun n=>M.r06_words_loop1 u (slf n) n (i:Int)) (.inr false)∨(To (fun n=>M.r06_words_loop1 u (slf n) n (i:Int)) (.inl ())∧ ∀ k,k∈xs→labs k):=by
  intro xs
  induction xs with
  | nil=>
   intro slf i hx hs
   refine .inr ⟨To.succ ?_,fun k hk=>by cases hk⟩
   simp only [M.r06_words_loop1]
   exact To.neg (drop_end hx) To.pure
  | cons x xs ih=>
   intro slf i hx hs
   obtain ⟨b,hb,hl⟩:=hs x (by simp)
   cases b with
   | false=>
    refine .inl (To.succ ?_)
    simp only [M.r06_words_loop1]
    exact To.pos (drop_lt hx) (To.bindS (drop_idx hx) (To.bind hb.shift (To.pos rfl To.pure)))
   | true=>
    rcases ih (fun n=>slf (n+1)) (i+1) (drop_next hx) (fun k hk=>by
     obtain ⟨b,h1,h2⟩:=hs k (by simp [hk])
     exact ⟨b,h1.shift,h2⟩) with h | ⟨h,hk⟩
    ·refine .inl (To.succ ?_)
     simp only [M.r06_words_loop1]
     refine To.pos (drop_lt hx) (To.bindS (drop_idx hx) (To.bind hb.shift (To.neg (by simp) ?_)))
     rw [cast_succ];exact h
    ·refine .inr ⟨To.succ ?_,fun k hk'=>?_⟩
     ·simp only [M.r06_words_loop1]
      refine To.pos (drop_lt hx) (To.bindS (drop_idx hx) (To.bind hb.shift (To.neg (by simp) ?_)))
      rw [cast_succ];exact h
     ·rcases List.mem_cons.1 hk' with rfl | hk'
      ·exact hl rfl
      ·exact hk k hk'
 by_cases hlab:30<u.Label.length
 ·refine ⟨false,To.succ ?_,fun h=>by cases h⟩
  simp only [M.r06_words]
  exact To.bind (a:=true) (To.pos (by omega) To.pure) (To.pos rfl To.pure)
 ·obtain ⟨b1,k1,l1⟩:=short_ok u.Head
  obtain ⟨b2,k2,l2⟩:=short_ok u.Words
  have ha:To (fun n=>Option.bind (M.r06_short n u.Head) fun short=>if short=false then some true else Option.bind (M.r06_short n u.Words) fun short1=>some (!short1)) (!(b1 && b2)):=by
   refine To.bind k1 ?_
   cases b1 with
   | false=>exact To.pos rfl To.pure
   | true=>exact To.neg (by simp) (To.bind k2 (To.pure.of (by simp)))
  cases hb:(b1 && b2) with
  | false=>
   rw [hb] at ha
   refine ⟨false,To.succ ?_,fun h=>by cases h⟩
   simp only [M.r06_words]
   exact To.bind (a:=true) (To.neg (by omega) ha) (To.pos rfl To.pure)
  | true=>
   rw [hb] at ha
   rw [Bool.and_eq_true] at hb
   have e1:=l1 hb.1
   have e2:=l2 hb.2
   rcases loop u.Kids (fun n=>M.r06_words n) 0 rfl ih with h | ⟨h,hk⟩
   ·refine ⟨false,To.succ ?_,fun h=>by cases h⟩
    simp only [M.r06_words]
    exact To.bind (a:=false) (To.neg (by omega) ha) (To.neg (by simp) (To.bind h To.pure))
   ·refine ⟨true,To.succ ?_,fun _ x hx=>?_⟩
    ·simp only [M.r06_words]
     exact To.bind (a:=false) (To.neg (by omega) ha) (To.neg (by simp) (To.bind h To.pure))
    ·rw [desc_eq] at hx
     rcases List.mem_cons.1 hx with rfl | hx
     ·exact ⟨by omega,by omega,by omega⟩
     ·obtain ⟨k,h1,h2⟩:=List.mem_flatMap.1 hx
      exact hk k h1 x h2
theorem mem_desc_kids{u k:api_Unit}(hk:k∈u.Kids):k∈desc u:=desc_kid hk (desc_self k)
theorem count_ok(u:api_Unit):cnt u≤1000000→To (fun n=>M.r06_Count n u) (cnt u:Int):=by
 refine uind (P:=fun u=>cnt u≤1000000→To (fun n=>M.r06_Count n u) (cnt u:Int)) ?_ u
 intro u ih hc
 have loop:∀ (xs:List api_Unit) (slf:Nat→api_Unit→Option Int) (i d:Nat),u.Kids.drop i=xs→(∀ k,k∈xs→To (fun n=>slf n k) (cnt k:Int))→d+(xs.map cnt).sum≤1000000→
   To (fun n=>M.r06_Count_loop1 u (slf n) n (d:Int) (i:Int)) ((d+(xs.map cnt).sum:Nat):Int):=by
  intro xs
  induction xs with
  | nil=>
   intro slf i d hx hs hd
   refine To.succ ?_
   simp only [M.r06_Count_loop1]
   exact To.neg (drop_end hx) (To.pure.of (by simp))
  | cons x xs ih=>
   intro slf i d hx hs hd
   simp only [List.map_cons,List.sum_cons] at hd
   refine To.succ ?_
   simp only [M.r06_Count_loop1]
   refine To.pos (drop_lt hx) (To.bindS (drop_idx hx) (To.bind (hs x (by simp)).shift (To.bindS (addC_eq (by omega) (by omega)) ?_)))
   rw [cast_succ,show (d:Int)+(cnt x:Int)=((d+cnt x:Nat):Int) by omega]
   refine (ih (fun n=>slf (n+1)) (i+1) (d+cnt x) (drop_next hx) (fun k hk=>(hs k (by simp [hk])).shift) (by omega)).of ?_
   simp only [List.map_cons,List.sum_cons]
   congr 1;omega
 have he:=cnt_eq u
 refine To.succ ?_
 simp only [M.r06_Count]
 refine To.bind (loop u.Kids (fun n=>M.r06_Count n) 0 1 rfl (fun k hk=>ih k hk (by have:=cnt_kid hk;omega)) (by omega)) (To.pure.of (by rw [he]))
def deep(u:api_Unit):Nat:=(u.Kids.attach.map (fun k=>1+deep k.1)).foldl max 0
termination_by SizeOf.sizeOf u
decreasing_by exact kid_lt k.2
theorem deep_eq(u:api_Unit):deep u=(u.Kids.map (fun k=>1+deep k)).foldl max 0:=by
 rw [deep]
 congr 1
 rw [show (fun k:{x // x∈u.Kids}=>1+deep k.1)=(fun k=>1+deep k) ∘ Subtype.val from rfl,←List.map_map,List.attach_map_subtype_val]
theorem foldl_max:∀ (l:List Nat) (a:Nat),a≤l.foldl max a∧ ∀ x,x∈l→x≤l.foldl max a
 | [],a=>⟨Nat.le_refl _,fun x h=>by cases h⟩
 | y :: l,a=>by
  obtain ⟨h1,h2⟩:=foldl_max l (max a y)
  refine ⟨by simp only [List.foldl_cons];omega,fun x hx=>?_⟩
  rcases List.mem_cons.1 hx with rfl | hx
  ·simp only [List.foldl_cons];omega
  ·exact h2 x hx
theorem deep_kid{u k:api_Unit}(h:k∈u.Kids):deep k<deep u:=by
 rw [deep_eq u]
 have:=(foldl_max (u.Kids.map (fun k=>1+deep k)) 0).2 (1+deep k) (List.mem_map.2 ⟨k,h,rfl⟩)
 omega
theorem nodup_kid{u k:api_Unit}(h:((desc u).map api_Unit.Id).Nodup)(hk:k∈u.Kids):((desc k).map api_Unit.Id).Nodup:=by
 rw [desc_eq] at h
 simp only [List.map_cons,List.nodup_cons] at h
 have h2:=h.2
 rw [List.map_flatMap] at h2
 have:(u.Kids.map (fun k=>(desc k).map api_Unit.Id)).flatten.Nodup:=by rw [←List.flatMap_def];exact h2
 rw [List.Nodup,List.pairwise_flatten] at this
 exact this.1 _ (List.mem_map.2 ⟨k,hk,rfl⟩)
def idsOf(u:api_Unit):List api_Id:=(desc u).map api_Unit.Id
theorem idsOf_len(u:api_Unit):(idsOf u).length=cnt u:=by simp [idsOf,cnt]
theorem every2(u:api_Unit):∀ c:List api_Id,c.length+cnt u≤1000000→To (fun n=>M.unit_every_i2 n u c) (true,c++idsOf u):=by
 refine uind (P:=fun u=>∀ c:List api_Id,c.length+cnt u≤1000000→To (fun n=>M.unit_every_i2 n u c) (true,c++idsOf u)) ?_ u
 intro u ih c hc
 have loop:∀ (xs:List api_Unit) (slf:Nat→api_Unit→List api_Id→Option (Bool×List api_Id)) (v:List api_Id),(∀ k,k∈xs→∀ c:List api_Id,c.length+cnt k≤1000000→To (fun n=>slf n k c) (true,c++idsOf k))→
   v.length+(xs.map cnt).sum≤1000000→To (fun n=>M.unit_every_i2_loop1 (slf n) xs v) (.inl (v++xs.flatMap idsOf)):=by
  intro xs
  induction xs with
  | nil=>intro slf v _ _;simp only [M.unit_every_i2_loop1];exact To.pure.of (by simp)
  | cons x xs ih=>
   intro slf v hs hv
   simp only [List.map_cons,List.sum_cons] at hv
   simp only [M.unit_every_i2_loop1]
   refine To.bind (hs x (by simp) v (by omega)) ?_
   dsimp only
   refine To.neg (by simp) ?_
   exact (ih slf _ (fun k hk=>hs k (by simp [hk])) (by rw [List.length_append,idsOf_len];omega)).of (by simp)
 have hk:(u.Kids.map cnt).sum+1=cnt u:=by rw [cnt_eq];omega
 refine To.succ ?_
 simp only [M.unit_every_i2]
 refine To.bindS (a:=(true,c++ [u.Id])) (by simp only [M.unit_IDs_1];rw [appC_eq (by simp;omega),Option.bind_some]) ?_
 dsimp only
 refine To.neg (by simp) (To.bind (loop u.Kids (fun n=>M.unit_every_i2 n) (c++ [u.Id]) (fun k hk c h=>ih k hk c h) (by simp;omega)) ?_)
 dsimp only
 refine To.pure.of ?_
 have:idsOf u=u.Id :: u.Kids.flatMap idsOf:=by
  unfold idsOf
  rw [desc_eq,List.map_cons,List.map_flatMap]
 rw [this];simp
theorem ids_u(u:api_Unit)(hc:cnt u≤10000):To (fun n=>M.unit_IDs n u) (idsOf u):=by
 simp only [M.unit_IDs]
 refine To.bind (every2 u [] (by simp;omega)) ?_
 dsimp only
 exact To.pure.of (by simp)
theorem every1(u:api_Unit):∀ c:Nat,c+cnt u≤1000000→To (fun n=>M.unit_every_i1 n u (c:Int)) (true,((c+cnt u:Nat):Int)):=by
 refine uind (P:=fun u=>∀ c:Nat,c+cnt u≤1000000→To (fun n=>M.unit_every_i1 n u (c:Int)) (true,((c+cnt u:Nat):Int))) ?_ u
 intro u ih c hc
 have loop:∀ (xs:List api_Unit) (slf:Nat→api_Unit→Int→Option (Bool×Int)) (v:Nat),(∀ k,k∈xs→∀ c:Nat,c+cnt k≤1000000→To (fun n=>slf n k (c:Int)) (true,((c+cnt k:Nat):Int)))→
   v+(xs.map cnt).sum≤1000000→To (fun n=>M.unit_every_i1_loop1 (slf n) xs (v:Int)) (.inl ((v+(xs.map cnt).sum:Nat):Int)):=by
  intro xs
  induction xs with
  | nil=>intro slf v _ _;simp only [M.unit_every_i1_loop1];exact To.pure.of (by simp)
  | cons x xs ih=>
   intro slf v hs hv
   simp only [List.map_cons,List.sum_cons] at hv
   simp only [M.unit_every_i1_loop1]
   refine To.bind (hs x (by simp) v (by omega)) ?_
   dsimp only
   refine To.neg (by simp) ?_
   refine (ih slf _ (fun k hk=>hs k (by simp [hk])) (by omega)).of ?_
   simp only [List.map_cons,List.sum_cons]
   congr 2;omega
 have hk:(u.Kids.map cnt).sum+1=cnt u:=by rw [cnt_eq];omega
 refine To.succ ?_
 simp only [M.unit_every_i1]
 refine To.bindS (a:=(true,((c+1:Nat):Int))) (by simp only [M.unit_Count_1];rw [addC_succ (by omega),Option.bind_some]) ?_
 dsimp only
 refine To.neg (by simp) (To.bind (loop u.Kids (fun n=>M.unit_every_i1 n) (c+1) (fun k hk c h=>ih k hk c h) (by omega)) ?_)
 dsimp only
 refine To.pure.of ?_
 congr 2;omega
theorem count_u(u:api_Unit)(hc:cnt u≤10000):To (fun n=>M.unit_Count n u) (cnt u:Int):=by
 simp only [M.unit_Count]
 refine To.bind (a:=(true,((0+cnt u:Nat):Int))) (every1 u 0 (by omega)) ?_
 dsimp only
 exact To.pure.of (by simp)
theorem depth_u(u:api_Unit):cnt u≤1000000→deep u≤cnt u∧To (fun n=>M.unit_Depth n u) (deep u:Int):=by
 refine uind (P:=fun u=>cnt u≤1000000→deep u≤cnt u∧To (fun n=>M.unit_Depth n u) (deep u:Int)) ?_ u
 intro u ih hc
 have loop:∀ (xs:List api_Unit) (slf:Nat→api_Unit→Option Int) (d:Nat),(∀ k,k∈xs→deep k≤1000000∧To (fun n=>slf n k) (deep k:Int))→d≤1000001→
   To (fun n=>M.unit_Depth_loop1 (slf n) xs (d:Int)) (((xs.map (fun k=>1+deep k)).foldl max d:Nat):Int):=by
  intro xs
  induction xs with
  | nil=>intro slf d _ _;simp only [M.unit_Depth_loop1];exact To.pure.of (by simp)
  | cons x xs ih=>
   intro slf d hs hd
   obtain ⟨h1,h2⟩:=hs x (by simp)
   simp only [M.unit_Depth_loop1]
   refine To.bind h2 (To.bindS (addC_eq (by omega) (by omega)) ?_)
   have e:max (d:Int) (1+(deep x:Int))=((max d (1+deep x):Nat):Int):=by omega
   rw [e]
   exact (ih slf _ (fun k hk=>hs k (by simp [hk])) (by omega)).of (by simp)
 have hkd:∀ k,k∈u.Kids→deep k≤cnt k:=fun k hk=>(ih k hk (by have:=cnt_kid hk;omega)).1
 refine ⟨?_,To.succ ?_⟩
 ·rw [deep_eq]
  have:∀ (l:List Nat) (a b:Nat),a≤b→(∀ x,x∈l→x≤b)→l.foldl max a≤b:=by
   intro l
   induction l with
   | nil=>intro a b h _;exact h
   | cons x l ih=>intro a b h hx;exact ih _ _ (by have:=hx x (by simp);omega) fun y hy=>hx y (by simp [hy])
  refine this _ _ _ (Nat.zero_le _) fun x hx=>?_
  obtain ⟨k,hk,rfl⟩:=List.mem_map.1 hx
  have h1:=hkd k hk
  have h2:=cnt_kid hk
  omega
 ·simp only [M.unit_Depth]
  refine To.bind (a:=(deep u:Int)) ?_ To.pure
  rw [deep_eq]
  exact loop u.Kids (fun n=>M.unit_Depth n) 0 (fun k hk=>⟨by have h1:=hkd k hk;have h2:=cnt_kid hk;omega,(ih k hk (by have:=cnt_kid hk;omega)).2⟩) (by omega)
theorem mget_mset{α β:Type}[DecidableEq α](k:α)(v z:β):∀ (m:List (α×β)) (k':α),mget (mset m k v) k' z=if k'=k then v else mget m k' z
 | [],k'=>by
  by_cases h:k'=k<;> simp [mset,mget,h]
 | p :: m,k'=>by
  by_cases hp:k=p.1
  ·subst hp
   by_cases h:k'=p.1<;> simp [mset,mget,h]
  ·by_cases h:k'=k
   ·subst h
    simp [mset,mget,hp,mget_mset]
   ·simp [mset,mget,hp,mget_mset,h]
theorem mset_len{α β:Type}[DecidableEq α](k:α)(v:β):∀ m:List (α×β),(mset m k v).length≤m.length+1
 | []=>by simp [mset]
 | p :: m=>by
  have:=mset_len k v m
  simp only [mset]
  split<;> simp<;> omega
theorem ids_tot_u(u:api_Unit)(hc:cnt u≤10000):Tot (fun n=>M.unit_ids n u):=by
 have loop:∀ (xs:List api_Id) (v:List (api_Id×Bool)),∃ w,M.unit_ids_loop1 xs v=some w∧w.length≤v.length+xs.length:=by
  intro xs
  induction xs with
  | nil=>intro v;exact ⟨v,rfl,by simp⟩
  | cons x xs ih=>
   intro v
   obtain ⟨w,h1,h2⟩:=ih (mset v x true)
   have:=mset_len x true v
   exact ⟨w,by simpa [M.unit_ids_loop1] using h1,by simp only [List.length_cons];omega⟩
 obtain ⟨w,h1,h2⟩:=loop (idsOf u) []
 have hl:=idsOf_len u
 have hg:growC (w.length:Int)=some ():=by
  unfold growC
  rw [if_pos]
  simp only [List.length_nil] at h2
  omega
 simp only [M.unit_ids]
 refine Tot.bind (ids_u u hc).tot fun a ha=>?_
 rw [ha.det (ids_u u hc)]
 refine Tot.bindS h1 ?_
 refine Tot.ite (fun _=>Tot.bindS hg (Tot.ite (fun _=>Tot.pure) fun _=>Tot.bindS hg (Tot.ite (fun _=>Tot.pure) fun _=>Tot.pure))) (fun _=>Tot.bindS hg (Tot.ite (fun _=>Tot.pure) fun _=>Tot.pure))
theorem contains_i(l:List Int)(v:Int):To (fun n=>M.slices_Contains_int_int n l v) (decide (v∈l)):=by
 have loop:∀ (xs:List Int) (i:Nat),l.drop i=xs→∃ r,To (fun n=>M.slices_Index_int_int_loop1 l v n (i:Int)) r∧((v∈xs∧ ∃ k:Nat,r= .inr (k:Int))∨(v ∉ xs∧r= .inl ())):=by
  intro xs
  induction xs with
  | nil=>
   intro i hx
   refine ⟨.inl (),To.succ ?_,.inr ⟨by simp,rfl⟩⟩
   simp only [M.slices_Index_int_int_loop1]
   exact To.neg (drop_end hx) To.pure
  | cons x xs ih=>
   intro i hx
   by_cases hv:v=x
   ·refine ⟨.inr (i:Int),To.succ ?_,.inl ⟨by simp [hv],i,rfl⟩⟩
    simp only [M.slices_Index_int_int_loop1]
    exact To.pos (drop_lt hx) (To.bindS (drop_idx hx) (To.pos hv To.pure))
   ·obtain ⟨r,ht,hr⟩:=ih (i+1) (drop_next hx)
    refine ⟨r,To.succ ?_,by simpa [hv] using hr⟩
    simp only [M.slices_Index_int_int_loop1]
    rw [cast_succ]
    exact To.pos (drop_lt hx) (To.bindS (drop_idx hx) (To.neg hv ht))
 obtain ⟨r,ht,hr⟩:=loop l 0 rfl
 simp only [M.slices_Contains_int_int,M.slices_Index_int_int]
 rcases hr with ⟨ha,k,rfl⟩ | ⟨ha,rfl⟩
 ·refine To.bind (a:=(k:Int)) (To.bind ht To.pure) (To.pure.of ?_)
  simp [ha]
 ·refine To.bind (a:=(-1:Int)) (To.bind ht To.pure) (To.pure.of ?_)
  simp [ha]
theorem can_ok(p k:Int):∃ b,To (fun n=>M.unit_CanContain n p k) b∧(b=true→k≠0):=by
 simp only [M.unit_CanContain]
 by_cases h0:0≤p
 ·by_cases h8:p<8
  ·obtain ⟨m,rfl⟩:∃ m:Nat,p=(m:Int):=⟨p.toNat,by omega⟩
   have hm:m=0∨m=1∨m=2∨m=3∨m=4∨m=5∨m=6∨m=7:=by omega
   have key:∃ l,idx gv4 (m:Int)=some l∧(0:Int) ∉ l:=by
    rcases hm with rfl | rfl | rfl | rfl | rfl | rfl | rfl | rfl<;> exact ⟨_,rfl,by decide⟩
   obtain ⟨l,hl,hn⟩:=key
   refine ⟨decide (k∈l),To.pos h0 (To.pos h8 (To.bindS hl (To.bind (contains_i l k) To.pure))),fun h=>?_⟩
   have:=of_decide_eq_true h
   intro e
   rw [e] at this
   exact hn this
  ·exact ⟨false,To.pos h0 (To.neg h8 To.pure),fun h=>by cases h⟩
 ·exact ⟨false,To.neg h0 To.pure,fun h=>by cases h⟩
theorem kind_name(k:Int):∃ s,M.unit_KindName k=some s∧(s≠ []→0≤k∧k≤7):=by
 simp only [M.unit_KindName]
 by_cases h0:k<0
 ·exact ⟨[],by rw [if_pos h0],fun h=>absurd rfl h⟩
 ·by_cases h8:8≤k
  ·exact ⟨[],by rw [if_neg h0,if_pos h8],fun h=>absurd rfl h⟩
  ·obtain ⟨m,rfl⟩:∃ m:Nat,k=(m:Int):=⟨k.toNat,by omega⟩
   have hm:m=0∨m=1∨m=2∨m=3∨m=4∨m=5∨m=6∨m=7:=by omega
   have key:∃ s,idx gv2 (m:Int)=some s:=by
    rcases hm with rfl | rfl | rfl | rfl | rfl | rfl | rfl | rfl<;> exact ⟨_,rfl⟩
   obtain ⟨s,hs⟩:=key
   exact ⟨s,by rw [if_neg h0,if_neg h8,hs];rfl,fun _=>⟨by omega,by omega⟩⟩
theorem alone_kids(u:api_Unit):∀ (xs pre:List api_Unit) (v:List (unit_called×Bool)),(∀ k,mget v k false=pre.any fun y=>decide (k=(⟨y.Kind,y.Label⟩:unit_called)))→
  ∃ r,To (fun n=>M.unit_alone_loop1 n u xs v) r∧(r= .inr false∨((∃ p,r= .inl p)∧(∀ k,k∈xs→k.Kind≠0)∧(∀ k,k∈xs→∀ y,y∈pre→¬ (y.Kind=k.Kind∧y.Label=k.Label))∧xs.Pairwise (fun a b=>¬ (a.Kind=b.Kind∧a.Label=b.Label))))
 | [],pre,v,_=>⟨.inl v,by simp only [M.unit_alone_loop1];exact To.pure,.inr ⟨⟨v,rfl⟩,fun k hk=>(by cases hk),fun k hk=>(by cases hk),List.Pairwise.nil⟩⟩
 | x :: xs,pre,v,h=>by
  obtain ⟨b,hb,hb0⟩:=can_ok u.Kind x.Kind
  simp only [M.unit_alone_loop1]
  cases b with
  | false=>exact ⟨.inr false,To.bind hb (To.pos rfl To.pure),.inl rfl⟩
  | true=>
   by_cases hx:mget v (⟨x.Kind,x.Label⟩:unit_called) false=true
   ·exact ⟨.inr false,To.bind hb (To.neg (by simp) (To.pos hx To.pure)),.inl rfl⟩
   ·have h2:∀ k,mget (mset v (⟨x.Kind,x.Label⟩:unit_called) true) k false=(pre++ [x]).any fun y=>decide (k=(⟨y.Kind,y.Label⟩:unit_called)):=fun k=>by
     rw [mget_mset,h,List.any_append]
     by_cases hk:k=(⟨x.Kind,x.Label⟩:unit_called)<;> simp [hk]
    obtain ⟨r,hr,hc⟩:=alone_kids u xs (pre++ [x]) _ h2
    refine ⟨r,To.bind hb (To.neg (by simp) (To.neg hx hr)),hc.imp id fun ⟨h3,h4,h5,h6⟩=>⟨h3,fun k hk=>?_,fun k hk y hy=>?_,List.pairwise_cons.2 ⟨fun k hk=>h5 k hk x (by simp),h6⟩⟩⟩
    ·rcases List.mem_cons.1 hk with rfl | hk
     ·exact hb0 rfl
     ·exact h4 k hk
    ·rcases List.mem_cons.1 hk with rfl | hk
     ·rintro ⟨e1,e2⟩
      apply hx
      rw [h,List.any_eq_true]
      exact ⟨y,hy,by rw [e1,e2];simp⟩
     ·exact h5 k hk y (by simp [hy])
end Go.Proofs.YtalogjkalmkpjaaGreatDoor
/-
  Valid units have short rows; maps that are filled from lists.
-/
set_option linter.unusedVariables false
set_option linter.unusedSimpArgs false
namespace Go.Proofs.YtalogjkalmkpjaaGreatDoor
open Go Go.Dec
def RowsOk(u:api_Unit):Prop:=u.Head.length≤256∧u.Words.length≤256
theorem row_v(l:List api_Word)(hl:l.length≤100000):∃ b,To (fun n=>M.unit_row n l) b∧(b=true→l.length≤256):=by
 have loop:∀ (xs:List api_Word) (ts:List Str),ts.length+xs.length≤100000→∃ r,M.unit_row_loop1 xs ts=some r:=by
  intro xs
  induction xs with
  | nil=>intro ts _;exact ⟨ts,rfl⟩
  | cons x xs ih=>
   intro ts h
   simp only [List.length_cons] at h
   simp only [M.unit_row_loop1]
   rw [appC_eq (by simp;omega),Option.bind_some]
   exact ih _ (by simp;omega)
 obtain ⟨r,hr⟩:=loop l [] (by simpa using hl)
 simp only [M.unit_row]
 by_cases h:(l.length:Int)≤256
 ·exact ⟨_,To.bindS hr (To.pos h (To.bind (valid_w r) To.pure)),fun _=>by omega⟩
 ·exact ⟨false,To.bindS hr (To.neg h To.pure),fun h=>by cases h⟩
theorem alone_v(u:api_Unit)(hl:u.Label.length≤5000∧u.Head.length≤5000∧u.Words.length≤5000):∃ b,To (fun n=>M.unit_alone n u) b∧(b=true→RowsOk u):=by
 obtain ⟨l1,l2,l3⟩:=hl
 obtain ⟨r,hr,hc⟩:=alone_kids u u.Kids [] [] (fun k=>by simp [mget])
 -- what comes first
 have first:∃ c:Unit ⊕ Bool,To (fun n=>(if u.Kind=(0:Int) then (if (u.Label !=([]:Str))=true then some (.inr false) else Option.bind (addC (u.Head.length:Int) (u.Words.length:Int)) fun v=>if (0:Int)< v then some (.inr false) else some (.inl ()))
   else Option.bind (M.unit_KindName u.Kind) fun kindna=>if (kindna==([]:Str))=true then some (.inr false) else Option.bind (M.label_Valid n u.Label) fun valid=>if valid=false then some (.inr false) else
    Option.bind (M.unit_row n u.Head) fun row=>if row=false then some (.inr false) else Option.bind (M.unit_row n u.Words) fun row1=>if row1=false then some (.inr false) else some (.inl ()):Option (Unit ⊕ Bool))) c∧
   (c= .inr false∨(c= .inl ()∧RowsOk u)):=by
  by_cases h0:u.Kind=0
  ·by_cases hlb:u.Label= []
   ·by_cases hw:(0:Int)< (u.Head.length:Int)+(u.Words.length:Int)
    ·exact ⟨.inr false,To.pos h0 (To.neg (by simp [hlb]) (To.bindS (addC_eq (by omega) (by omega)) (To.pos hw To.pure))),.inl rfl⟩
    ·exact ⟨.inl (),To.pos h0 (To.neg (by simp [hlb]) (To.bindS (addC_eq (by omega) (by omega)) (To.neg hw To.pure))),.inr ⟨rfl,by omega,by omega⟩⟩
   ·exact ⟨.inr false,To.pos h0 (To.pos (by simp [hlb]) To.pure),.inl rfl⟩
  ·obtain ⟨s,hs,hs0⟩:=kind_name u.Kind
   by_cases hse:s= []
   ·exact ⟨.inr false,To.neg h0 (To.bindS hs (To.pos (by simp [hse]) To.pure)),.inl rfl⟩
   ·cases hlab:labB u.Label with
    | false=>
     have hlo:=label_ok u.Label
     rw [hlab] at hlo
     exact ⟨.inr false,To.neg h0 (To.bindS hs (To.neg (by simp [hse]) (To.bind hlo (To.pos rfl To.pure)))),.inl rfl⟩
    | true=>
     have hlo:=label_ok u.Label
     rw [hlab] at hlo
     obtain ⟨a,ha,ha2⟩:=row_v u.Head (by omega)
     obtain ⟨b,hb,hb2⟩:=row_v u.Words (by omega)
     cases a with
     | false=>exact ⟨.inr false,To.neg h0 (To.bindS hs (To.neg (by simp [hse]) (To.bind hlo (To.neg (by simp) (To.bind ha (To.pos rfl To.pure)))))),.inl rfl⟩
     | true=>
      cases b with
      | false=>exact ⟨.inr false,To.neg h0 (To.bindS hs (To.neg (by simp [hse]) (To.bind hlo (To.neg (by simp) (To.bind ha (To.neg (by simp) (To.bind hb (To.pos rfl To.pure)))))))),.inl rfl⟩
      | true=>exact ⟨.inl (),To.neg h0 (To.bindS hs (To.neg (by simp [hse]) (To.bind hlo (To.neg (by simp) (To.bind ha (To.neg (by simp) (To.bind hb (To.neg (by simp) To.pure)))))))),.inr ⟨rfl,ha2 rfl,hb2 rfl⟩⟩
 obtain ⟨c,hcT,hcc⟩:=first
 simp only [M.unit_alone]
 rcases hcc with rfl | ⟨rfl,hk⟩
 ·exact ⟨false,To.bind hcT To.pure,fun h=>by cases h⟩
 ·rcases hc with rfl | ⟨⟨p,rfl⟩,h4,_,h6⟩
  ·exact ⟨false,To.bind hcT (To.bind hr To.pure),fun h=>by cases h⟩
  ·exact ⟨decide ((u.Kids.length:Int)≤64),To.bind hcT (To.bind hr To.pure),fun _=>hk⟩
theorem every0(u:api_Unit):labs u→∃ b,To (fun n=>M.unit_every_i0 n u) b∧(b=true→∀ x,x∈desc u→RowsOk x):=by
 refine uind (P:=fun u=>labs u→∃ b,To (fun n=>M.unit_every_i0 n u) b∧(b=true→∀ x,x∈desc u→RowsOk x)) ?_ u
 intro u ih hl
 obtain ⟨a,ha,hf⟩:=alone_v u (hl u (desc_self u))
 have loop:∀ (xs:List api_Unit) (slf:Nat→api_Unit→Option Bool),(∀ k,k∈xs→∃ b,To (fun n=>slf n k) b∧(b=true→∀ x,x∈desc k→RowsOk x))→
   ∃ r,To (fun n=>M.unit_every_i0_loop1 (slf n) xs) r∧(r= .inr false∨(r= .inl ()∧ ∀ k,k∈xs→∀ x,x∈desc k→RowsOk x)):=by
  intro xs
  induction xs with
  | nil=>intro slf _;exact ⟨.inl (),by simp only [M.unit_every_i0_loop1];exact To.pure,.inr ⟨rfl,fun k hk=>by cases hk⟩⟩
  | cons x xs ih=>
   intro slf hs
   obtain ⟨b,hb,hbf⟩:=hs x (by simp)
   simp only [M.unit_every_i0_loop1]
   cases b with
   | false=>exact ⟨.inr false,To.bind hb (To.pos rfl To.pure),.inl rfl⟩
   | true=>
    obtain ⟨r,hr,hc⟩:=ih slf fun k hk=>hs k (by simp [hk])
    refine ⟨r,To.bind hb (To.neg (by simp) hr),hc.imp id fun ⟨h1,h2⟩=>⟨h1,fun k hk=>?_⟩⟩
    rcases List.mem_cons.1 hk with rfl | hk
    ·exact hbf rfl
    ·exact h2 k hk
 obtain ⟨r,hr,hc⟩:=loop u.Kids (fun n=>M.unit_every_i0 n) fun k hk=>ih k hk (labs_kid hl hk)
 cases a with
 | false=>
  refine ⟨false,To.succ ?_,fun h=>by cases h⟩
  simp only [M.unit_every_i0]
  exact To.bind ha (To.pos rfl To.pure)
 | true=>
  rcases hc with rfl | ⟨rfl,h2⟩
  ·refine ⟨false,To.succ ?_,fun h=>by cases h⟩
   simp only [M.unit_every_i0]
   exact To.bind ha (To.neg (by simp) (To.bind hr To.pure))
  ·refine ⟨true,To.succ ?_,fun _ x hx=>?_⟩
   ·simp only [M.unit_every_i0]
    exact To.bind ha (To.neg (by simp) (To.bind hr To.pure))
   ·rw [desc_eq] at hx
    rcases List.mem_cons.1 hx with rfl | hx
    ·exact hf rfl
    ·obtain ⟨k,hk,hxk⟩:=List.mem_flatMap.1 hx
     exact h2 k hk x hxk
theorem valid_v(u:api_Unit)(hc:cnt u≤10000)(hl:labs u):∃ b,To (fun n=>M.unit_Valid n u) b∧(b=true→(∀ x,x∈desc u→RowsOk x)∧deep u≤8):=by
 obtain ⟨a,ha,hf⟩:=every0 u hl
 have hd:=(depth_u u (by omega)).2
 have hn:=count_u u hc
 obtain ⟨i,hi⟩:=ids_tot_u u hc
 simp only [M.unit_Valid]
 cases a with
 | false=>exact ⟨false,To.bind ha (To.neg (by simp) To.pure),fun h=>by cases h⟩
 | true=>
  by_cases h8:(deep u:Int)≤8
  ·by_cases h9:(cnt u:Int)≤1024
   ·exact ⟨i,To.bind ha (To.pos rfl (To.bind hd (To.pos h8 (To.bind hn (To.pos h9 (To.bind hi To.pure)))))),fun _=>⟨hf rfl,by omega⟩⟩
   ·exact ⟨false,To.bind ha (To.pos rfl (To.bind hd (To.pos h8 (To.bind hn (To.neg h9 To.pure))))),fun h=>by cases h⟩
  ·exact ⟨false,To.bind ha (To.pos rfl (To.bind hd (To.neg h8 To.pure))),fun h=>by cases h⟩
section
variable {τ α β:Type} [DecidableEq α]
def fillS(f:τ→α)(g:τ→β)(l:List τ)(m:List (α×β)):List (α×β):=l.foldl (fun m x=>mset m (f x) (g x)) m
theorem fillS_app(f:τ→α)(g:τ→β)(l l':List τ)(m:List (α×β)):fillS f g (l++l') m=fillS f g l' (fillS f g l m):=List.foldl_append
theorem fillS_len(f:τ→α)(g:τ→β):∀ (l:List τ) (m:List (α×β)),(fillS f g l m).length≤m.length+l.length
 | [],m=>by simp [fillS]
 | x :: l,m=>by
  have h1:=fillS_len f g l (mset m (f x) (g x))
  have h2:=mset_len (f x) (g x) m
  show (fillS f g l (mset m (f x) (g x))).length≤_
  simp only [List.length_cons]
  omega
theorem mset_len_old{k:α}{v:β}:∀ {m:List (α×β)},mhas m k=true→(mset m k v).length=m.length
 | [],h=>by simp [mhas] at h
 | p :: m,h=>by
  simp only [mhas] at h
  by_cases hp:k=p.1
  ·simp [mset,hp]
  ·rw [if_neg hp] at h
   simp only [mset,if_neg hp,List.length_cons,mset_len_old h]
theorem fillS_full(f:τ→α)(g:τ→β):∀ (l:List τ) (m:List (α×β)),(m.map Prod.fst).Nodup→(fillS f g l m).length=m.length+l.length→fillS f g l m=m++l.map (fun x=>(f x,g x))∧((m++l.map (fun x=>(f x,g x))).map Prod.fst).Nodup
 | [],m,hn,_=>by simp [fillS,hn]
 | x :: l,m,hn,h=>by
  have h1:=fillS_len f g l (mset m (f x) (g x))
  have e:fillS f g (x :: l) m=fillS f g l (mset m (f x) (g x)):=rfl
  rw [e] at h ⊢
  simp only [List.length_cons] at h
  cases hx:mhas m (f x) with
  | true=>rw [mset_len_old hx] at h1;omega
  | false=>
   have e2:=mset_new (v:=g x) hx
   have hk:=(mset_keys (f x) (g x) m hn).1
   rw [e2] at h hk ⊢
   obtain ⟨h2,h3⟩:=fillS_full f g l (m++ [(f x,g x)]) hk (by rw [h];simp;omega)
   rw [h2]
   simp only [List.append_assoc,List.singleton_append,List.map_cons] at h3 ⊢
   exact ⟨trivial,h3⟩
theorem mget_mem{k:α}{v z:β}:∀ {m:List (α×β)},(m.map Prod.fst).Nodup→(k,v)∈m→mget m k z=v∧mhas m k=true
 | [],_,h=>by cases h
 | p :: m,hn,h=>by
  rw [List.map_cons,List.nodup_cons] at hn
  rcases List.mem_cons.1 h with rfl | h
  ·simp [mget,mhas]
  ·have hne:k≠p.1:=fun e=>hn.1 (by rw [←e];exact List.mem_map_of_mem (f:=Prod.fst) h)
   obtain ⟨h1,h2⟩:=mget_mem (z:=z) hn.2 h
   exact ⟨by simp [mget,hne,h1],by simp [mhas,hne,h2]⟩
end
def allU(u:api_Unit):List (api_Id×api_Unit):=fillS api_Unit.Id id (desc u) []
theorem every_ok(u:api_Unit):∀ m:List (api_Id×api_Unit),To (fun n=>M.redline_every n u m) (fillS api_Unit.Id id (desc u) m):=by
 refine uind (P:=fun u=>∀ m:List (api_Id×api_Unit),To (fun n=>M.redline_every n u m) (fillS api_Unit.Id id (desc u) m)) ?_ u
 intro u ih m
 have loop:∀ (xs:List api_Unit) (F:Nat→api_Unit→List (api_Id×api_Unit)→Option (List (api_Id×api_Unit))) (m:List (api_Id×api_Unit)),(∀ x∈xs,∀ m,To (fun n=>F n x m) (fillS api_Unit.Id id (desc x) m))→
   To (fun n=>M.redline_every_loop1 (F n) xs m) (fillS api_Unit.Id id (xs.flatMap desc) m):=by
  intro xs
  induction xs with
  | nil=>intro F m _;simp only [M.redline_every_loop1];exact To.pure
  | cons x xs ih=>
   intro F m h
   simp only [M.redline_every_loop1]
   refine To.bind (h x List.mem_cons_self m) ((ih F _ (fun y hy=>h y (List.mem_cons_of_mem _ hy))).of ?_)
   rw [List.flatMap_cons,fillS_app]
 refine To.succ ?_
 simp only [M.redline_every]
 refine To.bind (loop u.Kids (fun n=>M.redline_every n) _ (fun x hx=>ih x hx)) (To.pure.of ?_)
 rw [desc_eq]
 rfl
theorem allU_len(u:api_Unit):(allU u).length≤cnt u:=by
 have:=fillS_len api_Unit.Id id (desc u) []
 simpa [allU,cnt] using this
theorem allU_get{u:api_Unit}(h:(allU u).length=cnt u):(idsOf u).Nodup∧ ∀ x∈desc u,mget (allU u) x.Id zapi_Unit=x∧mhas (allU u) x.Id=true:=by
 obtain ⟨h1,h2⟩:=fillS_full api_Unit.Id id (desc u) [] List.nodup_nil (by simpa [allU,cnt] using h)
 rw [List.nil_append] at h1 h2
 have e:allU u=(desc u).map (fun x=>(x.Id,x)):=h1
 refine ⟨?_,fun x hx=>?_⟩
 ·rw [List.map_map] at h2
  exact h2
 ·rw [e]
  exact mget_mem h2 (List.mem_map.2 ⟨x,hx,rfl⟩)
def plF:Nat→api_Unit→List (api_Unit×api_Id×Int)
 | 0,_=>[]
 | k+1,u=>u.Kids.zipIdx.flatMap fun p=>(p.1,u.Id,(p.2:Int)) :: plF k p.1
def plA(u:api_Unit):List (api_Unit×api_Id×Int):=(u,zapi_Id,0) :: plF (cnt u) u
def plS(l:List (api_Unit×api_Id×Int))(m:List (api_Id×diff_place)):List (api_Id×diff_place):=fillS (fun p=>p.1.Id) (fun p=>(⟨p.2.1,p.2.2,p.1⟩:diff_place)) l m
theorem plF_units:∀ (k:Nat) (u:api_Unit),cnt u≤k→(plF k u).map Prod.fst=u.Kids.flatMap desc
 | 0,u,h=>by have:=cntU_pos u;omega
 | k+1,u,h=>by
  have go:∀ (xs:List api_Unit) (i:Nat),(∀ x∈xs,x∈u.Kids)→((xs.zipIdx i).flatMap fun p=>(p.1,u.Id,(p.2:Int)) :: plF k p.1).map Prod.fst=xs.flatMap desc:=by
   intro xs
   induction xs with
   | nil=>intro i _;rfl
   | cons x xs ih=>
    intro i hx
    have h1:=plF_units k x (by have:=cnt_kid (hx x List.mem_cons_self);omega)
    rw [List.zipIdx_cons,List.flatMap_cons,List.map_append,List.map_cons,ih (i+1) (fun y hy=>hx y (List.mem_cons_of_mem _ hy)),List.flatMap_cons,h1,desc_eq x]
  unfold plF
  exact go u.Kids 0 (fun x hx=>hx)
theorem plA_units(u:api_Unit):(plA u).map Prod.fst=desc u:=by
 unfold plA
 rw [List.map_cons,plF_units _ _ (Nat.le_refl _),desc_eq]
theorem plA_len(u:api_Unit):(plA u).length=cnt u:=by
 have:=congrArg List.length (plA_units u)
 rwa [List.length_map] at this
theorem plF_kid:∀ (k:Nat) (u x c:api_Unit) (i:Nat),cnt u≤k→x∈desc u→x.Kids[i]? =some c→(c,x.Id,(i:Int))∈plF k u
 | 0,u,_,_,_,h,_,_=>by have:=cntU_pos u;omega
 | k+1,u,x,c,i,h,hx,hc=>by
  unfold plF
  rw [desc_eq] at hx
  rcases List.mem_cons.1 hx with rfl | hx
  ·refine List.mem_flatMap.2 ⟨(c,i),?_,List.mem_cons_self⟩
   rw [List.mem_zipIdx_iff_getElem?]
   exact hc
  ·obtain ⟨y,hy,hxy⟩:=List.mem_flatMap.1 hx
   obtain ⟨j,hj⟩:=List.getElem?_of_mem hy
   have:=plF_kid k y x c i (by have:=cnt_kid hy;omega) hxy hc
   refine List.mem_flatMap.2 ⟨(y,j),?_,List.mem_cons_of_mem _ this⟩
   rw [List.mem_zipIdx_iff_getElem?]
   exact hj
theorem places1_ok:∀ (k:Nat) (u:api_Unit) (m:List (api_Id×diff_place)),cnt u≤k→To (fun n=>M.diff_places_1 n u m) (plS (plF k u) m)
 | 0,u,_,h=>by have:=cntU_pos u;omega
 | k+1,u,m,h=>by
  have loop:∀ (xs:List api_Unit) (F:Nat→api_Unit→List (api_Id×diff_place)→Option (List (api_Id×diff_place))) (i:Nat) (m:List (api_Id×diff_place)),(∀ x∈xs,∀ m,To (fun n=>F n x m) (plS (plF k x) m))→
    To (fun n=>M.diff_places_1_loop1 u (F n) xs (i:Int) m) (plS ((xs.zipIdx i).flatMap fun p=>(p.1,u.Id,(p.2:Int)) :: plF k p.1) m):=by
   intro xs
   induction xs with
   | nil=>intro F i m _;simp only [M.diff_places_1_loop1];exact To.pure
   | cons x xs ih=>
    intro F i m hF
    simp only [M.diff_places_1_loop1]
    refine To.bind (hF x List.mem_cons_self _) ?_
    rw [cast_succ]
    refine (ih F (i+1) _ (fun y hy=>hF y (List.mem_cons_of_mem _ hy))).of ?_
    rw [List.zipIdx_cons,List.flatMap_cons]
    unfold plS
    rw [fillS_app]
    rfl
  refine To.succ ?_
  simp only [M.diff_places_1]
  exact To.bind (loop u.Kids (fun n=>M.diff_places_1 n) 0 m (fun x hx m=>places1_ok k x m (by have:=cnt_kid hx;omega))) To.pure
def allP(u:api_Unit):List (api_Id×diff_place):=plS (plA u) []
theorem places_ok(u:api_Unit):To (fun n=>M.diff_places n u) (allP u):=by
 simp only [M.diff_places]
 exact To.bind (places1_ok (cnt u) u _ (Nat.le_refl _)) To.pure
theorem allP_len(u:api_Unit):(allP u).length≤cnt u:=by
 have:=fillS_len (fun p:api_Unit×api_Id×Int=>p.1.Id) (fun p=>(⟨p.2.1,p.2.2,p.1⟩:diff_place)) (plA u) []
 rw [plA_len] at this
 simpa [allP,plS] using this
theorem allP_eq{u:api_Unit}(h:(allP u).length=cnt u):allP u=(plA u).map (fun p=>(p.1.Id,(⟨p.2.1,p.2.2,p.1⟩:diff_place)))∧((allP u).map Prod.fst).Nodup:=by
 obtain ⟨h1,h2⟩:=fillS_full (fun p:api_Unit×api_Id×Int=>p.1.Id) (fun p=>(⟨p.2.1,p.2.2,p.1⟩:diff_place)) (plA u) [] List.nodup_nil (by rw [plA_len];simpa [allP,plS] using h)
 rw [List.nil_append] at h1 h2
 have e:allP u=(plA u).map (fun p=>(p.1.Id,(⟨p.2.1,p.2.2,p.1⟩:diff_place))):=h1
 exact ⟨e,by rw [e];exact h2⟩
theorem allP_kid{u:api_Unit}(h:(allP u).length=cnt u){x c:api_Unit}{i:Nat}(hx:x∈desc u)(hc:x.Kids[i]? =some c):mget (allP u) c.Id zdiff_place=⟨x.Id,(i:Int),c⟩∧mhas (allP u) c.Id=true:=by
 obtain ⟨e,hn⟩:=allP_eq h
 refine mget_mem hn ?_
 rw [e]
 exact List.mem_map.2 ⟨(c,x.Id,(i:Int)),List.mem_cons_of_mem _ (plF_kid _ _ _ _ _ (Nat.le_refl _) hx hc),rfl⟩
theorem allP_has{u:api_Unit}(h:(allP u).length=cnt u){x:api_Unit}(hx:x∈desc u):mhas (allP u) x.Id=true:=by
 obtain ⟨e,hn⟩:=allP_eq h
 rw [mhas_iff,e,List.map_map]
 rw [←plA_units u] at hx
 obtain ⟨p,hp,rfl⟩:=List.mem_map.1 hx
 exact List.mem_map.2 ⟨p,hp,rfl⟩
theorem allP_self{u:api_Unit}(h:(allP u).length=cnt u){e:api_Id×diff_place}(he:e∈allP u):mget (allP u) e.1 zdiff_place=e.2∧mhas (allP u) e.1=true:=
 mget_mem (allP_eq h).2 he
theorem growC_eq{n:Nat}(h:n≤100000):growC (n:Int)=some ():=by
 unfold growC
 rw [if_pos (by omega)]
theorem book_ok(u:api_Unit)(hc:cnt u≤10000)(hl:labs u):∃ b,To (fun n=>M.diff_book n u) b∧(b=true→(allP u).length=cnt u):=by
 obtain ⟨v,hv,_⟩:=valid_v u hc hl
 have hp:=allP_len u
 simp only [M.diff_book]
 cases v with
 | false=>exact ⟨false,To.bind hv (To.neg (by decide) To.pure),fun h=>by cases h⟩
 | true=>
  by_cases hk:u.Kind=0
  ·refine ⟨decide (((allP u).length:Int)=(cnt u:Int)),To.bind hv (To.pos rfl (To.pos hk (To.bind (places_ok u) (To.bindS (growC_eq (by omega)) (To.bind (count_u u hc) To.pure))))),fun h=>by have:=of_decide_eq_true h;omega⟩
  ·exact ⟨false,To.bind hv (To.pos rfl (To.neg hk To.pure)),fun h=>by cases h⟩
end Go.Proofs.YtalogjkalmkpjaaGreatDoor
/-
  Longest rising rows of 0, 1, 2 ..: all of it. Longest common subsequences: the table of lengths.
-/
set_option linter.unusedVariables false
set_option linter.unusedSimpArgs false
namespace Go.Proofs.YtalogjkalmkpjaaGreatDoor
open Go Go.Dec
theorem setC_nat{α:Type}{l:List α}{i:Nat}(h:i<l.length)(x:α):setC l (i:Int) x=some (l.set i x):=by
 unfold setC
 rw [if_pos (by omega),Int.toNat_natCast]
theorem set_self{α:Type}{l:List α}{i:Nat}{x:α}(h:l[i]? =some x):l.set i x=l:=by
 refine List.ext_getElem? (fun j=>?_)
 by_cases hj:i=j
 ·subst hj
  rw [List.getElem?_set_self (List.getElem?_eq_some_iff.1 h).1,h]
 ·rw [List.getElem?_set_ne hj]
def natL(m:Nat):List Int:=(List.range m).map fun i:Nat=>(i:Int)
theorem natL_len(m:Nat):(natL m).length=m:=by simp [natL]
theorem natL_get{m i:Nat}(h:i<m):(natL m)[i]? =some (i:Int):=by simp [natL,h]
theorem natL_succ(m:Nat):natL (m+1)=natL m++ [(m:Int)]:=by simp [natL,List.range_succ]
def rowL(m t:Nat):List Int:=(List.range m).map fun j=>if m-t≤j then ((m-j:Nat):Int) else 0
theorem rowL_len(m t:Nat):(rowL m t).length=m:=by simp [rowL]
theorem rowL_get{m t j:Nat}(h:j<m):(rowL m t)[j]? =some (if m-t≤j then ((m-j:Nat):Int) else 0):=by simp [rowL,h]
theorem li2(m i:Nat)(hm:m≤1000)(hi:i<m):∀ (d k:Nat) (r:List Int) (c:Nat),m-k=d→i<k→k≤m→r.length=m→r[i]? =some (c:Int)→(c=if k=i+1 then 1 else m-i)→(∀ j,i<j→j<m→r[j]? =some ((m-j:Nat):Int))→
  To (fun n=>M.lcs_LongestIncreasing_loop2 (natL m) (i:Int) n r (k:Int)) (r.set i ((m-i:Nat):Int))
 | 0,k,r,c,hd,hk,hkm,hr,hc,hcv,hj=>by
  have:k=m:=by omega
  subst this
  refine To.succ ?_
  simp only [M.lcs_LongestIncreasing_loop2]
  refine To.neg (by rw [natL_len];omega) (To.pure.of ?_)
  rw [set_self]
  rw [hc,hcv]
  congr 2
  split<;> omega
 | d+1,k,r,c,hd,hk,hkm,hr,hc,hcv,hj=>by
  have hkl:k<m:=by omega
  have hidx:idx r (i:Int)=some (c:Int):=by rw [idx_nat];exact hc
  have hidk:idx r (k:Int)=some ((m-k:Nat):Int):=by rw [idx_nat];exact hj k hk hkl
  have hmax:max (c:Int) (((m-k:Nat):Int)+1)=((m-i:Nat):Int):=by
   split at hcv<;> omega
  have hset:setC r (i:Int) (max (c:Int) (((m-k:Nat):Int)+1))=some (r.set i ((m-i:Nat):Int)):=by
   rw [hmax];exact setC_nat (by omega) _
  have ih:=li2 m i hm hi d (k+1) (r.set i ((m-i:Nat):Int)) (m-i) (by omega) (by omega) (by omega) (by simp [hr]) (by rw [List.getElem?_set_self (by omega)]) (by rw [if_neg (by omega)]) (fun j h1 h2=>by rw [List.getElem?_set_ne (by omega)];exact hj j h1 h2)
  rw [List.set_set] at ih
  refine To.succ ?_
  simp only [M.lcs_LongestIncreasing_loop2]
  refine To.pos (by rw [natL_len];omega) (To.bindS (a:=(k:Int)) (by rw [idx_nat];exact natL_get hkl) (To.bindS (a:=(i:Int)) (by rw [idx_nat];exact natL_get hi) (To.pos (by omega) (To.bindS hidx (To.bindS hidk (To.bindS (addC_eq (by omega) (by omega)) (To.bindS hidx (To.bindS hset ?_))))))))
  rw [cast_succ]
  exact ih
theorem li1(m:Nat)(hm:m≤1000):∀ p:Nat,p≤m→To (fun n=>M.lcs_LongestIncreasing_loop1 (natL m) n (rowL m (m-p)) ((m-p:Nat):Int) ((p:Int)-1)) (rowL m m,(m:Int))
 | 0,_=>by
  refine To.succ ?_
  simp only [M.lcs_LongestIncreasing_loop1]
  exact To.neg (by omega) (To.pure.of (by simp))
 | p+1,hp=>by
  have ih:=li1 m hm p (by omega)
  have e1:(((p+1:Nat):Int)-1)=(p:Int):=by omega
  have hg:(rowL m (m-(p+1)))[p]? =some 0:=by rw [rowL_get (by omega),if_neg (by omega)]
  have hidx:idx (rowL m (m-(p+1))) (p:Int)=some 0:=by rw [idx_nat];exact hg
  have hset:setC (rowL m (m-(p+1))) (p:Int) (1:Int)=some ((rowL m (m-(p+1))).set p 1):=setC_nat (by rw [rowL_len];omega) _
  have h2:=li2 m p hm (by omega) (m-(p+1)) (p+1) ((rowL m (m-(p+1))).set p 1) 1 rfl (by omega) (by omega) (by simp [rowL_len]) (by rw [List.getElem?_set_self (by rw [rowL_len];omega)];rfl) (by rw [if_pos rfl]) (fun j h1 h2=>by rw [List.getElem?_set_ne (by omega),rowL_get h2,if_pos (by omega)])
  have e2:((rowL m (m-(p+1))).set p 1).set p ((m-p:Nat):Int)=rowL m (m-p):=by
   rw [List.set_set]
   refine List.ext_getElem? (fun j=>?_)
   by_cases hj:p=j
   ·subst hj
    rw [List.getElem?_set_self (by rw [rowL_len];omega),rowL_get (by omega),if_pos (by omega)]
   ·rw [List.getElem?_set_ne hj]
    by_cases hjm:j<m
    ·rw [rowL_get hjm,rowL_get hjm]
     congr 1
     by_cases h:m-(m-(p+1))≤j
     ·rw [if_pos h,if_pos (by omega)]
     ·rw [if_neg h,if_neg (by omega)]
    ·rw [List.getElem?_eq_none (by rw [rowL_len];omega),List.getElem?_eq_none (by rw [rowL_len];omega)]
  rw [e2] at h2
  have hidx2:idx (rowL m (m-p)) (p:Int)=some ((m-p:Nat):Int):=by rw [idx_nat,rowL_get (by omega),if_pos (by omega)]
  have hmax:max ((m-(p+1):Nat):Int) ((m-p:Nat):Int)=((m-p:Nat):Int):=by omega
  rw [e1]
  refine To.succ ?_
  simp only [M.lcs_LongestIncreasing_loop1]
  refine To.pos (by omega) (To.bindS hidx (To.bindS hset (To.bindS (addC_eq (by omega) (by omega)) (To.bind h2 (To.bindS hidx2 (To.bindS (subC_eq (by omega) (by omega)) ?_))))))
  rw [hmax]
  exact ih
theorem li3(m:Nat)(hm:m≤1000):∀ (d v:Nat),m-v=d→v≤m→To (fun n=>M.lcs_LongestIncreasing_loop3 (natL m) (rowL m m) (m:Int) n (natL v) (v:Int)) (natL m)
 | 0,v,hd,hv=>by
  have:v=m:=by omega
  subst this
  refine To.succ ?_
  simp only [M.lcs_LongestIncreasing_loop3]
  exact To.neg (by rw [natL_len];omega) To.pure
 | d+1,v,hd,hv=>by
  have ih:=li3 m hm d (v+1) (by omega) (by omega)
  have hrow:idx (rowL m m) (v:Int)=some ((m-v:Nat):Int):=by rw [idx_nat,rowL_get (by omega),if_pos (by omega)]
  have happ:appC (natL v) [(v:Int)]=some (natL (v+1)):=by rw [appC_eq (by rw [natL_len];simp;omega),natL_succ]
  refine To.succ ?_
  simp only [M.lcs_LongestIncreasing_loop3]
  refine To.pos (by rw [natL_len];omega) (To.pos (by rw [natL_len];omega) (To.bindS hrow (To.bindS (a:=(m:Int)-(v:Int)) (by rw [natL_len];exact subC_eq (by omega) (by omega)) (To.pos (by omega) ?_))))
  by_cases h0:v=0
  ·refine To.pos (by rw [natL_len];omega) (To.bindS happ ?_)
   rw [cast_succ]
   exact ih
  ·have hout:idx (natL v) ((v-1:Nat):Int)=some ((v-1:Nat):Int):=by rw [idx_nat];exact natL_get (by omega)
   refine To.neg (by rw [natL_len];omega) (To.bindS (a:=(v:Int)) (by rw [idx_nat];exact natL_get (by omega)) (To.bindS (a:=((v-1:Nat):Int)) (by rw [natL_len,subC_eq (by omega) (by omega)];congr 1;omega) (To.bindS hout (To.bindS (a:=((v-1:Nat):Int)) (by rw [idx_nat];exact natL_get (by omega)) (To.pos (by omega) (To.bindS happ ?_))))))
   rw [cast_succ]
   exact ih
theorem li_ok(m:Nat)(hm:m≤256):To (fun n=>M.lcs_LongestIncreasing n (natL m)) (natL m):=by
 simp only [M.lcs_LongestIncreasing]
 have hmk:makeC (0:Int) ((natL m).length:Int)=some (rowL m 0):=by
  unfold makeC
  rw [natL_len,if_pos (by omega),Int.toNat_natCast]
  congr 1
  refine List.ext_getElem? (fun j=>?_)
  by_cases hj:j<m
  ·rw [rowL_get hj,if_neg (by omega)]
   simp [hj]
  ·rw [List.getElem?_eq_none (by simp;omega),List.getElem?_eq_none (by rw [rowL_len];omega)]
 have h1:=li1 m (by omega) m (Nat.le_refl _)
 rw [Nat.sub_self] at h1
 have h3:To (fun n=>M.lcs_LongestIncreasing_loop3 (natL m) (rowL m m) (m:Int) n ([]:List Int) (0:Int)) (natL m):=li3 m (by omega) m 0 rfl (by omega)
 refine To.neg (by rw [natL_len];omega) (To.bindS hmk (To.bindS (a:=(m:Int)-1) (by rw [natL_len];exact subC_eq (by omega) (by omega)) (To.bind h1 ?_)))
 exact To.bind h3 To.pure
end Go.Proofs.YtalogjkalmkpjaaGreatDoor
/-
  Longest common subsequences: the table of lengths, and the pairs of a row with itself.
-/
set_option linter.unusedVariables false
set_option linter.unusedSimpArgs false
namespace Go.Proofs.YtalogjkalmkpjaaGreatDoor
open Go Go.Dec
def lcF:List Str→List Str→Nat
 | [],_=>0
 | _ :: _,[]=>0
 | x :: a,y :: b=>max (max (lcF a (y :: b)) (lcF (x :: a) b)) (if x=y then lcF a b+1 else 0)
termination_by a b=>a.length+b.length
theorem lcF_nil(a:List Str):lcF a []=0:=by
 cases a<;> simp [lcF]
theorem lcF_cons(x y:Str)(a b:List Str):lcF (x :: a) (y :: b)=max (max (lcF a (y :: b)) (lcF (x :: a) b)) (if x=y then lcF a b+1 else 0):=by rw [lcF]
theorem lcF_le:∀ (a b:List Str),lcF a b≤a.length∧lcF a b≤b.length
 | [],b=>by simp [lcF]
 | x :: a,[]=>by simp [lcF]
 | x :: a,y :: b=>by
  have h1:=lcF_le a (y :: b);have h2:=lcF_le (x :: a) b;have h3:=lcF_le a b
  rw [lcF_cons]
  simp only [List.length_cons] at *
  split<;> omega
termination_by a b=>a.length+b.length
theorem lcF_self:∀ a:List Str,lcF a a=a.length
 | []=>by simp [lcF]
 | x :: a=>by
  have h:=lcF_self a
  have h2:=(lcF_le (x :: a) (x :: a)).1
  rw [lcF_cons] at h2 ⊢
  rw [if_pos rfl,h] at h2 ⊢
  simp only [List.length_cons] at *
  omega
def lcT(a b:List Str)(i k:Nat):Nat:=lcF (a.drop i) (b.drop k)
theorem lcT_end(a b:List Str)(i:Nat):lcT a b i b.length=0:=by unfold lcT;rw [List.drop_length,lcF_nil]
theorem lcT_low(a b:List Str)(k:Nat):lcT a b a.length k=0:=by unfold lcT;rw [List.drop_length,lcF]
theorem lcT_step{a b:List Str}{i k:Nat}{x y:Str}(hx:a[i]? =some x)(hy:b[k]? =some y):lcT a b i k=max (max (lcT a b (i+1) k) (lcT a b i (k+1))) (if x=y then lcT a b (i+1) (k+1)+1 else 0):=by
 obtain ⟨hi,rfl⟩:=List.getElem?_eq_some_iff.1 hx
 obtain ⟨hk,rfl⟩:=List.getElem?_eq_some_iff.1 hy
 unfold lcT
 rw [List.drop_eq_getElem_cons hi,List.drop_eq_getElem_cons hk,lcF_cons]
theorem lcT_le(a b:List Str)(i k:Nat):lcT a b i k≤a.length:=by
 have:=(lcF_le (a.drop i) (b.drop k)).1
 rw [List.length_drop] at this
 unfold lcT;omega
theorem ix_inj{w i i' k k':Nat}(hk:k<w)(hk':k'< w)(h:i*w+k=i' * w+k'):i=i'∧k=k':=by
 have h1:(i*w+k) / w=i:=by rw [Nat.mul_comm,Nat.mul_add_div (by omega),Nat.div_eq_of_lt hk];rfl
 have h2:(i' * w+k') / w=i':=by rw [Nat.mul_comm,Nat.mul_add_div (by omega),Nat.div_eq_of_lt hk'];rfl
 rw [h] at h1
 have:i=i':=h1.symm.trans h2
 subst this
 exact ⟨rfl,by omega⟩
theorem ix_lt{w i n k:Nat}(hi:i≤n)(hk:k<w):i*w+k<(n+1)*w:=by
 have:=Nat.mul_le_mul_right w hi
 rw [Nat.succ_mul]
 omega
theorem ix_big{w i k:Nat}(hi:i≤1000)(hw:w≤1001)(hk:k≤1001):i*w+k≤2000000:=by
 have:=Nat.mul_le_mul hi hw
 omega
theorem at_ok{l:List Int}{w i k:Nat}{v:Int}(hi:i≤1000)(hw:w≤1001)(hk:k≤1001)(h:l[i*w+k]? =some v):M.lcs_lengths_1 (i:Int) (k:Int) l (w:Int)=some v:=by
 have hb:=ix_big hi hw hk
 have hb2:=ix_big (k:=0) hi hw (by omega)
 have e:(i:Int)*(w:Int)=((i*w:Nat):Int):=by rw [Int.natCast_mul]
 unfold M.lcs_lengths_1
 rw [mulC_eq (by rw [e];omega) (by rw [e];omega),Option.bind_some,addC_eq (by rw [e];omega) (by rw [e];omega),Option.bind_some]
 have e2:(i:Int)*(w:Int)+(k:Int)=((i*w+k:Nat):Int):=by rw [e];omega
 rw [e2,idx_nat,h];rfl
def Tab(a b:List Str)(l:List Int)(p q:Nat):Prop:=
 l.length=(a.length+1)*(b.length+1)∧(∀ i,i≤a.length→l[i*(b.length+1)+b.length]? =some 0)∧
 ∀ i k,i≤a.length→k≤b.length→(p≤i∨i+1=p∧q≤k)→l[i*(b.length+1)+k]? =some (lcT a b i k:Int)
theorem tab_next{a b:List Str}{l:List Int}{p:Nat}(h:Tab a b l (p+1) 0):Tab a b l p b.length:=by
 obtain ⟨h1,h2,h3⟩:=h
 refine ⟨h1,h2,fun i k hi hk hc=>?_⟩
 rcases hc with hc | ⟨hc,hq⟩
 ·exact h3 i k hi hk (by omega)
 ·have:k=b.length:=by omega
  subst this
  rw [lcT_end]
  exact h2 i hi
theorem len2(a b:List Str)(ha:a.length≤256)(hb:b.length≤256)(p:Nat)(hp:p<a.length):∀ (q:Nat) (l:List Int),q≤b.length→Tab a b l (p+1) q→
  ∃ l',To (fun n=>M.lcs_lengths_loop2 a b ((b.length+1:Nat):Int) (p:Int) n ((q:Int)-1) l) l'∧Tab a b l' (p+1) 0
 | 0,l,hq,ht=>by
  refine ⟨l,To.succ ?_,ht⟩
  simp only [M.lcs_lengths_loop2]
  exact To.neg (by omega) To.pure
 | q+1,l,hq,ht=>by
  obtain ⟨t1,t2,t3⟩:=ht
  obtain ⟨x,hx⟩:∃ x,a[p]? =some x:=⟨_,List.getElem?_eq_getElem hp⟩
  obtain ⟨y,hy⟩:∃ y,b[q]? =some y:=⟨_,List.getElem?_eq_getElem (by omega)⟩
  have hstep:=lcT_step hx hy
  have hA:=at_ok (w:=b.length+1) (i:=p+1) (k:=q) (by omega) (by omega) (by omega) (t3 (p+1) q (by omega) (by omega) (.inl (Nat.le_refl _)))
  have hB:=at_ok (w:=b.length+1) (i:=p) (k:=q+1) (by omega) (by omega) (by omega) (t3 p (q+1) (by omega) (by omega) (.inr ⟨rfl,Nat.le_refl _⟩))
  have hC:=at_ok (w:=b.length+1) (i:=p+1) (k:=q+1) (by omega) (by omega) (by omega) (t3 (p+1) (q+1) (by omega) (by omega) (.inl (Nat.le_refl _)))
  have e1:(((q+1:Nat):Int)-1)=(q:Int):=by omega
  have ep:(p:Int)+1=((p+1:Nat):Int):=by omega
  have eq1:(q:Int)+1=((q+1:Nat):Int):=by omega
  have hlt:p*(b.length+1)+q<l.length:=by rw [t1];exact ix_lt (by omega) (by omega)
  have hbig:=ix_big (i:=p) (w:=b.length+1) (k:=q) (by omega) (by omega) (by omega)
  have em:(p:Int)*((b.length+1:Nat):Int)=((p*(b.length+1):Nat):Int):=by rw [Int.natCast_mul]
  have hmul:mulC (p:Int) ((b.length+1:Nat):Int)=some ((p*(b.length+1):Nat):Int):=by rw [mulC_eq (by rw [em];omega) (by rw [em];omega),em]
  have hadd:addC ((p*(b.length+1):Nat):Int) (q:Int)=some ((p*(b.length+1)+q:Nat):Int):=by rw [addC_eq (by omega) (by omega)];congr 1
  have hle:=lcT_le a b (p+1) (q+1)
  have ht':Tab a b (l.set (p*(b.length+1)+q) (lcT a b p q:Int)) (p+1) q:=by
   refine ⟨by simp [t1],fun i hi=>?_,fun i k hi hk hc=>?_⟩
   ·rw [List.getElem?_set_ne ?_]
    ·exact t2 i hi
    ·intro e
     have:=ix_inj (by omega) (by omega) e
     omega
   ·by_cases he:p*(b.length+1)+q=i*(b.length+1)+k
    ·obtain ⟨rfl,rfl⟩:=ix_inj (by omega) (by omega) he
     rw [List.getElem?_set_self hlt]
    ·rw [List.getElem?_set_ne he]
     refine t3 i k hi hk ?_
     rcases hc with hc | ⟨hc,hq'⟩
     ·exact .inl hc
     ·refine .inr ⟨hc,?_⟩
      have:i=p:=by omega
      subst this
      have:k≠q:=fun e=>he (by rw [e])
      omega
  obtain ⟨l',hl',hT'⟩:=len2 a b ha hb p hp q _ (by omega) ht'
  refine ⟨l',To.succ ?_,hT'⟩
  simp only [M.lcs_lengths_loop2]
  rw [e1]
  obtain ⟨v14,hv14⟩:∃ v,idx l ((p*(b.length+1)+q:Nat):Int)=some v:=⟨_,by rw [idx_nat];exact List.getElem?_eq_getElem hlt⟩
  have hset:setC l ((p*(b.length+1)+q:Nat):Int) (lcT a b p q:Int)=some (l.set (p*(b.length+1)+q) (lcT a b p q:Int)):=setC_nat hlt _
  refine To.pos (by omega) (To.bindS (a:=((p+1:Nat):Int)) (by rw [addC_eq (by omega) (by omega),ep]) (To.bindS hA (To.bindS (a:=((q+1:Nat):Int)) (by rw [addC_eq (by omega) (by omega),eq1]) (To.bindS hB (To.bind (a:=((lcT a b p q:Int),l)) ?_ ?_)))))
  ·refine To.bindS (a:=x) (by rw [idx_nat];exact hx) (To.bindS (a:=y) (by rw [idx_nat];exact hy) ?_)
   by_cases hxy:x=y
   ·refine To.pos (by simp [hxy]) (To.bindS (a:=((p+1:Nat):Int)) (by rw [addC_eq (by omega) (by omega),ep]) (To.bindS (a:=((q+1:Nat):Int)) (by rw [addC_eq (by omega) (by omega),eq1]) (To.bindS hC (To.bindS (addC_eq (by omega) (by omega)) (To.pure.of ?_)))))
    rw [if_pos hxy] at hstep
    exact Prod.ext (by dsimp only;omega) rfl
   ·refine To.neg (by simpa using hxy) (To.pure.of ?_)
    rw [if_neg hxy] at hstep
    exact Prod.ext (by dsimp only;omega) rfl
  ·exact To.bindS hmul (To.bindS hadd (To.bindS hv14 (To.bindS hset (To.bindS (subC_eq (by omega) (by omega)) hl'))))
theorem len1(a b:List Str)(ha:a.length≤256)(hb:b.length≤256):∀ (p:Nat) (l:List Int),p≤a.length→Tab a b l p b.length→
  ∃ l',To (fun n=>M.lcs_lengths_loop1 a b ((b.length+1:Nat):Int) n ((p:Int)-1) l) l'∧Tab a b l' 0 0
 | 0,l,hp,ht=>by
  refine ⟨l,To.succ ?_,⟨ht.1,ht.2.1,fun i k hi hk hc=>ht.2.2 i k hi hk (.inl (Nat.zero_le _))⟩⟩
  simp only [M.lcs_lengths_loop1]
  exact To.neg (by omega) To.pure
 | p+1,l,hp,ht=>by
  obtain ⟨l1,h1,ht1⟩:=len2 a b ha hb p (by omega) b.length l (Nat.le_refl _) ht
  obtain ⟨l2,h2,ht2⟩:=len1 a b ha hb p l1 (by omega) (tab_next ht1)
  have e1:(((p+1:Nat):Int)-1)=(p:Int):=by omega
  refine ⟨l2,To.succ ?_,ht2⟩
  simp only [M.lcs_lengths_loop1]
  rw [e1]
  exact To.pos (by omega) (To.bindS (subC_eq (by omega) (by omega)) (To.bind h1 (To.bindS (subC_eq (by omega) (by omega)) h2)))
theorem lengths_ok(a b:List Str)(ha:a.length≤256)(hb:b.length≤256):∃ f,To (fun n=>M.lcs_lengths n a b) f∧ ∀ i k:Nat,i≤a.length→k≤b.length→f (i:Int) (k:Int)=some (lcT a b i k:Int):=by
 have hbig:=ix_big (i:=a.length+1) (w:=b.length+1) (k:=0) (by omega) (by omega) (by omega)
 have em:((a.length+1:Nat):Int)*((b.length+1:Nat):Int)=(((a.length+1)*(b.length+1):Nat):Int):=by rw [Int.natCast_mul]
 have t0:Tab a b (List.replicate ((a.length+1)*(b.length+1)) (0:Int)) a.length b.length:=by
  have hr:∀ i k,i≤a.length→k≤b.length→(List.replicate ((a.length+1)*(b.length+1)) (0:Int))[i*(b.length+1)+k]? =some 0:=by
   intro i k hi hk
   rw [List.getElem?_replicate,if_pos (ix_lt hi (by omega))]
  refine ⟨by simp,fun i hi=>hr i _ hi (Nat.le_refl _),fun i k hi hk hc=>?_⟩
  rw [hr i k hi hk]
  rcases hc with hc | ⟨hc,hq⟩
  ·have:i=a.length:=by omega
   subst this
   rw [lcT_low];rfl
  ·have:k=b.length:=by omega
   subst this
   rw [lcT_end];rfl
 obtain ⟨l,hl,ht⟩:=len1 a b ha hb a.length _ (Nat.le_refl _) t0
 refine ⟨fun s0 s1=>M.lcs_lengths_1_p s0 s1 l ((b.length+1:Nat):Int),?_,fun i k hi hk=>?_⟩
 ·simp only [M.lcs_lengths]
  refine To.bindS (a:=((b.length+1:Nat):Int)) (by rw [addC_eq (by omega) (by omega)];congr 1) (To.bindS (a:=((a.length+1:Nat):Int)) (by rw [addC_eq (by omega) (by omega)];congr 1) (To.bindS (mulC_eq (by rw [em];omega) (by rw [em];omega)) (To.bindS (a:=List.replicate ((a.length+1)*(b.length+1)) (0:Int)) ?_ (To.bindS (subC_eq (by omega) (by omega)) (To.bind hl To.pure)))))
  unfold makeC
  rw [em,if_pos (by omega),Int.toNat_natCast]
 ·exact at_ok (by omega) (by omega) (by omega) (ht.2.2 i k hi hk (.inl (Nat.zero_le _)))
theorem has_l(l:List (List Str))(hl:∀ x∈l,x.length≤256):To (fun n=>M.slices_ContainsFunc_string_string_l n l (fun s0=>M.lcs_long_1 s0)) false:=by
 have loop:∀ (xs:List (List Str)) (i:Nat),l.drop i=xs→To (fun n=>M.slices_IndexFunc_string_string_l_loop1 l (fun s0=>M.lcs_long_1 s0) n (i:Int)) (.inl ()):=by
  intro xs
  induction xs with
  | nil=>
   intro i hx
   refine To.succ ?_
   simp only [M.slices_IndexFunc_string_string_l_loop1]
   exact To.neg (drop_end hx) To.pure
  | cons x xs ih=>
   intro i hx
   have hm:=hl x (List.mem_of_getElem? (drop_cons hx).2.1)
   refine To.succ ?_
   simp only [M.slices_IndexFunc_string_string_l_loop1]
   refine To.pos (drop_lt hx) (To.bindS (drop_idx hx) (To.bindS (a:=false) ?_ (To.neg (by decide) ?_)))
   ·unfold M.lcs_long_1
    rw [decide_eq_false (by omega)]
   ·rw [cast_succ]
    exact ih (i+1) (drop_next hx)
 simp only [M.slices_ContainsFunc_string_string_l,M.slices_IndexFunc_string_string_l]
 exact To.bind (a:=(-1:Int)) (To.bind (loop l 0 rfl) To.pure) (To.pure.of (by decide))
def dgP(m:Nat):List api_Pair:=(List.range m).map fun i:Nat=>(⟨(i:Int),(i:Int)⟩:api_Pair)
theorem dgP_len(m:Nat):(dgP m).length=m:=by simp [dgP]
theorem dgP_succ(m:Nat):dgP (m+1)=dgP m++ [⟨(m:Int),(m:Int)⟩]:=by simp [dgP,List.range_succ]
theorem lcT_self(a:List Str)(i:Nat):lcT a a i i=a.length-i:=by
 unfold lcT
 rw [lcF_self,List.length_drop]
theorem next_self(a:List Str)(ha:a.length≤256)(f:Int→Int→Option Int)(hf:∀ i k:Nat,i≤a.length→k≤a.length→f (i:Int) (k:Int)=some (lcT a a i k:Int))(i:Nat)(hi:i<a.length) :
  To (fun n=>M.lcs_Pairs_1 n (i:Int) (i:Int) a a f) (⟨(i:Int),(i:Int)⟩:api_Pair):=by
 obtain ⟨x,hx⟩:∃ x,a[i]? =some x:=⟨_,List.getElem?_eq_getElem hi⟩
 have hix:idx a (i:Int)=some x:=by rw [idx_nat];exact hx
 have e1:(i:Int)+1=((i+1:Nat):Int):=by omega
 have h1:=hf (i+1) (i+1) (by omega) (by omega)
 have h2:=hf i i (by omega) (by omega)
 rw [lcT_self] at h1 h2
 simp only [M.lcs_Pairs_1]
 refine To.bind (a:=.inr ⟨(i:Int),(i:Int)⟩) (To.succ ?_) (by dsimp only;exact To.pure)
 simp only [M.lcs_Pairs_1_loop1]
 refine To.pos (by omega) (To.bind (a:=.inr ⟨(i:Int),(i:Int)⟩) (To.succ ?_) (by dsimp only;exact To.pure))
 simp only [M.lcs_Pairs_1_loop2]
 refine To.pos (by omega) (To.bindS hix (To.bindS hix (To.pos (by simp) (To.bindS (a:=((i+1:Nat):Int)) (by rw [addC_eq (by omega) (by omega),e1]) (To.bindS (a:=((i+1:Nat):Int)) (by rw [addC_eq (by omega) (by omega),e1]) (To.bindS h1 (To.bindS (addC_eq (by omega) (by omega)) (To.bindS h2 (To.pos (by omega) To.pure)))))))))
theorem pairs_self(a:List Str)(ha:a.length≤256):To (fun n=>M.lcs_Pairs n a a) (dgP a.length):=by
 obtain ⟨f,hf,hv⟩:=lengths_ok a a ha ha
 have loop:∀ (d i:Nat) (F:Nat→Int→Int→Option api_Pair),a.length-i=d→i≤a.length→(∀ j:Nat,j<a.length→To (fun n=>F n (j:Int) (j:Int)) (⟨(j:Int),(j:Int)⟩:api_Pair))→
   To (fun n=>M.lcs_Pairs_loop1 f (F n) n (dgP i) (i:Int) (i:Int)) (dgP a.length):=by
  intro d
  induction d with
  | zero=>
   intro i F hd hi hF
   have:i=a.length:=by omega
   subst this
   have h:=hv a.length a.length (Nat.le_refl _) (Nat.le_refl _)
   rw [lcT_self,Nat.sub_self] at h
   refine To.succ ?_
   simp only [M.lcs_Pairs_loop1]
   exact To.bindS h (To.neg (by decide) To.pure)
  | succ d ih=>
   intro i F hd hi hF
   have h:=hv i i hi hi
   rw [lcT_self] at h
   have e1:(i:Int)+1=((i+1:Nat):Int):=by omega
   have h2:=ih (i+1) (fun n=>F (n+1)) (by omega) (by omega) (fun j hj=>(hF j hj).shift)
   refine To.succ ?_
   simp only [M.lcs_Pairs_loop1]
   refine To.bindS h (To.pos (by omega) (To.bind (hF i (by omega)).shift (To.bindS (a:=dgP (i+1)) (by rw [appC_eq (by rw [dgP_len];simp;omega),dgP_succ]) (To.bindS (a:=((i+1:Nat):Int)) (by rw [addC_eq (by dsimp only;omega) (by dsimp only;omega),e1]) (To.bindS (a:=((i+1:Nat):Int)) (by rw [addC_eq (by dsimp only;omega) (by dsimp only;omega),e1]) h2)))))
 simp only [M.lcs_Pairs,M.lcs_long]
 refine To.bind (To.bind (has_l [a,a] (fun x hx=>by simp at hx;rw [hx];exact ha)) To.pure) (To.neg (by decide) (To.bind hf ?_))
 have h0:=loop a.length 0 (fun n s0 s1=>M.lcs_Pairs_1 n s0 s1 a a f) (by omega) (by omega) (fun j hj=>next_self a ha f hv j hj)
 exact (To.bind (f:=fun n=>M.lcs_Pairs_loop1 f (fun s0 s1=>M.lcs_Pairs_1 n s0 s1 a a f) n [] 0 0) h0 To.pure).eq (fun n=>by rw [Option.bind_some])
end Go.Proofs.YtalogjkalmkpjaaGreatDoor
/-
  The changes between a book and itself: nothing is moved, all words and units stay.
-/
set_option linter.unusedVariables false
set_option linter.unusedSimpArgs false
namespace Go.Proofs.YtalogjkalmkpjaaGreatDoor
open Go Go.Dec
theorem dg_drop{m j:Nat}(h:j<m):(dgP m).drop j=(⟨(j:Int),(j:Int)⟩:api_Pair) :: (dgP m).drop (j+1):=by
 have hl:j<(dgP m).length:=by rw [dgP_len];exact h
 rw [List.drop_eq_getElem_cons hl]
 congr 1
 simp [dgP]
theorem woven_s(a:List Str)(ha:a.length≤100000)(go co:Nat→Str→Option TW)(S:Nat→Str→Str→Option TW)(g:Str→TW)(hS:∀ x∈a,To (fun n=>S n x x) (g x)) :
  To (fun n=>M.redline_woven_string_string_api_TrackedWord n a a (dgP a.length) (go n) (co n) (S n)) (a.map g):=by
 have last:∀ (out:List TW),To (fun n=>M.redline_woven_string_string_api_TrackedWord_loop1 n a a (go n) (co n) (S n) [⟨(a.length:Int),(a.length:Int)⟩] out (a.length:Int) (a.length:Int)) out:=by
  intro out
  simp only [M.redline_woven_string_string_api_TrackedWord_loop1]
  refine To.bind (a:=(out,(a.length:Int))) (To.succ ?_) ?_
  ·simp only [M.redline_woven_string_string_api_TrackedWord_loop2]
   exact To.neg (by omega) To.pure
  dsimp only
  refine To.bind (a:=(out,(a.length:Int))) (To.succ ?_) ?_
  ·simp only [M.redline_woven_string_string_api_TrackedWord_loop3]
   exact To.neg (by omega) To.pure
  dsimp only
  exact To.bind (a:=false) (To.neg (by omega) To.pure) (To.neg (by decide) To.pure)
 have loop:∀ (xs:List Str) (j:Nat) (out:List TW),a.drop j=xs→j≤a.length→out.length=j→
   To (fun n=>M.redline_woven_string_string_api_TrackedWord_loop1 n a a (go n) (co n) (S n) ((dgP a.length).drop j++ [⟨(a.length:Int),(a.length:Int)⟩]) out (j:Int) (j:Int)) (out++xs.map g):=by
  intro xs
  induction xs with
  | nil=>
   intro j out hx hj ho
   have hle:=List.drop_eq_nil_iff.1 hx
   have:j=a.length:=by omega
   subst this
   rw [List.drop_eq_nil_of_le (by rw [dgP_len];omega),List.nil_append]
   exact (last out).of (by simp)
  | cons x xs ih=>
   intro j out hx hj ho
   have hlt:=(drop_cons hx).1
   have hm:=hS x (List.mem_of_getElem? (drop_cons hx).2.1)
   have e1:(j:Int)+1=((j+1:Nat):Int):=by omega
   have h2:=ih (j+1) (out++ [g x]) (drop_next hx) (by omega) (by simp [ho])
   rw [dg_drop hlt,List.cons_append]
   simp only [M.redline_woven_string_string_api_TrackedWord_loop1]
   refine To.bind (a:=(out,(j:Int))) (To.succ ?_) ?_
   ·simp only [M.redline_woven_string_string_api_TrackedWord_loop2]
    exact To.neg (by omega) To.pure
   dsimp only
   refine To.bind (a:=(out,(j:Int))) (To.succ ?_) ?_
   ·simp only [M.redline_woven_string_string_api_TrackedWord_loop3]
    exact To.neg (by omega) To.pure
   dsimp only
   refine To.bind (a:=true) (To.pos (by omega) (To.pure.of (by simp;omega))) (To.pos rfl (To.bindS (drop_idx hx) (To.bindS (drop_idx hx) (To.bind hm (To.bindS (appC_eq (by simp;omega)) (To.bindS (a:=((j+1:Nat):Int)) (by rw [addC_eq (by omega) (by omega),e1]) (To.bindS (a:=((j+1:Nat):Int)) (by rw [addC_eq (by omega) (by omega),e1]) (h2.of (by simp)))))))))
 have hc:M.slices_Clone_api_Pair_api_Pair (dgP a.length)=some (dgP a.length):=by
  unfold M.slices_Clone_api_Pair_api_Pair
  rw [appC_eq (by rw [dgP_len];simp;omega),List.nil_append]
 have h0:=loop a 0 [] rfl (by omega) rfl
 simp only [M.redline_woven_string_string_api_TrackedWord]
 exact To.bindS hc (To.bindS (appC_eq (by rw [dgP_len];simp;omega)) (To.bind h0 To.pure))
theorem woven_u(a:List api_Unit)(ha:a.length≤100000)(go co:Nat→api_Unit→Option TU)(S:Nat→api_Unit→api_Unit→Option TU)(g:api_Unit→TU)(hS:∀ x∈a,To (fun n=>S n x x) (g x)) :
  To (fun n=>M.redline_woven_api_Unit_api_Unit_api_TrackedUnit n a a (dgP a.length) (go n) (co n) (S n)) (a.map g):=by
 have last:∀ (out:List TU),To (fun n=>M.redline_woven_api_Unit_api_Unit_api_TrackedUnit_loop1 n a a (go n) (co n) (S n) [⟨(a.length:Int),(a.length:Int)⟩] out (a.length:Int) (a.length:Int)) out:=by
  intro out
  simp only [M.redline_woven_api_Unit_api_Unit_api_TrackedUnit_loop1]
  refine To.bind (a:=(out,(a.length:Int))) (To.succ ?_) ?_
  ·simp only [M.redline_woven_api_Unit_api_Unit_api_TrackedUnit_loop2]
   exact To.neg (by omega) To.pure
  dsimp only
  refine To.bind (a:=(out,(a.length:Int))) (To.succ ?_) ?_
  ·simp only [M.redline_woven_api_Unit_api_Unit_api_TrackedUnit_loop3]
   exact To.neg (by omega) To.pure
  dsimp only
  exact To.bind (a:=false) (To.neg (by omega) To.pure) (To.neg (by decide) To.pure)
 have loop:∀ (xs:List api_Unit) (j:Nat) (out:List TU),a.drop j=xs→j≤a.length→out.length=j→
   To (fun n=>M.redline_woven_api_Unit_api_Unit_api_TrackedUnit_loop1 n a a (go n) (co n) (S n) ((dgP a.length).drop j++ [⟨(a.length:Int),(a.length:Int)⟩]) out (j:Int) (j:Int)) (out++xs.map g):=by
  intro xs
  induction xs with
  | nil=>
   intro j out hx hj ho
   have hle:=List.drop_eq_nil_iff.1 hx
   have:j=a.length:=by omega
   subst this
   rw [List.drop_eq_nil_of_le (by rw [dgP_len];omega),List.nil_append]
   exact (last out).of (by simp)
  | cons x xs ih=>
   intro j out hx hj ho
   have hlt:=(drop_cons hx).1
   have hm:=hS x (List.mem_of_getElem? (drop_cons hx).2.1)
   have e1:(j:Int)+1=((j+1:Nat):Int):=by omega
   have h2:=ih (j+1) (out++ [g x]) (drop_next hx) (by omega) (by simp [ho])
   rw [dg_drop hlt,List.cons_append]
   simp only [M.redline_woven_api_Unit_api_Unit_api_TrackedUnit_loop1]
   refine To.bind (a:=(out,(j:Int))) (To.succ ?_) ?_
   ·simp only [M.redline_woven_api_Unit_api_Unit_api_TrackedUnit_loop2]
    exact To.neg (by omega) To.pure
   dsimp only
   refine To.bind (a:=(out,(j:Int))) (To.succ ?_) ?_
   ·simp only [M.redline_woven_api_Unit_api_Unit_api_TrackedUnit_loop3]
    exact To.neg (by omega) To.pure
   dsimp only
   refine To.bind (a:=true) (To.pos (by omega) (To.pure.of (by simp;omega))) (To.pos rfl (To.bindS (drop_idx hx) (To.bindS (drop_idx hx) (To.bind hm (To.bindS (appC_eq (by simp;omega)) (To.bindS (a:=((j+1:Nat):Int)) (by rw [addC_eq (by omega) (by omega),e1]) (To.bindS (a:=((j+1:Nat):Int)) (by rw [addC_eq (by omega) (by omega),e1]) (h2.of (by simp)))))))))
 have hc:M.slices_Clone_api_Pair_api_Pair (dgP a.length)=some (dgP a.length):=by
  unfold M.slices_Clone_api_Pair_api_Pair
  rw [appC_eq (by rw [dgP_len];simp;omega),List.nil_append]
 have h0:=loop a 0 [] rfl (by omega) rfl
 simp only [M.redline_woven_api_Unit_api_Unit_api_TrackedUnit]
 exact To.bindS hc (To.bindS (appC_eq (by rw [dgP_len];simp;omega)) (To.bind h0 To.pure))
def unW(l:List api_Word):List TW:=l.map fun w=>⟨0,w.Text⟩
theorem rtexts_ok(l:List api_Word)(h:l.length≤100000):M.redline_texts l=some (l.map api_Word.Text):=by
 have loop:∀ (xs:List api_Word) (out:List Str),out.length+xs.length≤100000→M.redline_texts_loop1 xs out=some (out++xs.map api_Word.Text):=by
  intro xs
  induction xs with
  | nil=>intro out _;simp [M.redline_texts_loop1]
  | cons x xs ih=>
   intro out h
   simp only [List.length_cons] at h
   simp only [M.redline_texts_loop1]
   rw [appC_eq (by simp;omega),Option.bind_some,ih _ (by simp;omega)]
   simp
 simp only [M.redline_texts]
 rw [loop l [] (by simpa using h)]
 rfl
theorem words_self(l:List api_Word)(h:l.length≤256):To (fun n=>M.redline_words n l l) (unW l):=by
 have hp:=pairs_self (l.map api_Word.Text) (by simpa using h)
 have hw:=woven_s (l.map api_Word.Text) (by simp;omega) (fun _ s=>(fun s0=>M.redline_word_1 s0 2) s) (fun _ s=>(fun s0=>M.redline_word_1 s0 1) s) (fun _ s t=>M.redline_words_1 s t (fun s0=>M.redline_word_1 s0 0)) (fun s=>(⟨0,s⟩:TW)) (fun s _=>To.pure)
 simp only [M.redline_words,M.redline_word]
 refine To.bindS (rtexts_ok l (by omega)) (To.bindS (rtexts_ok l (by omega)) (To.bindS rfl (To.bind hp (To.bindS rfl (To.bindS rfl (To.bind hw (To.pure.of ?_)))))))
 simp [unW]
theorem nodup_desc{u x:api_Unit}(h:(idsOf u).Nodup)(hx:x∈desc u):(idsOf x).Nodup:=by
 have:∀ u:api_Unit,(idsOf u).Nodup→∀ x∈desc u,(idsOf x).Nodup:=by
  refine uind (P:=fun u=>(idsOf u).Nodup→∀ x∈desc u,(idsOf x).Nodup) ?_
  intro u ih h x hx
  rw [desc_eq] at hx
  rcases List.mem_cons.1 hx with rfl | hx
  ·exact h
  ·obtain ⟨k,hk,hxk⟩:=List.mem_flatMap.1 hx
   exact ih k hk (nodup_kid h hk) x hxk
 exact this u h x hx
theorem kids_ids{u:api_Unit}(h:(idsOf u).Nodup):(u.Kids.map api_Unit.Id).Nodup:=by
 unfold idsOf at h
 rw [desc_eq] at h
 simp only [List.map_cons,List.nodup_cons] at h
 have h2:=h.2
 have:∀ xs:List api_Unit,((xs.flatMap desc).map api_Unit.Id).Nodup→(xs.map api_Unit.Id).Nodup:=by
  intro xs
  induction xs with
  | nil=>intro _;exact List.nodup_nil
  | cons x xs ih=>
   intro hn
   rw [List.flatMap_cons,List.map_append,List.nodup_append] at hn
   rw [List.map_cons,List.nodup_cons]
   refine ⟨fun hm=>?_,ih hn.2.1⟩
   obtain ⟨y,hy,he⟩:=List.mem_map.1 hm
   exact hn.2.2 x.Id (List.mem_map_of_mem (desc_self x)) y.Id (List.mem_map_of_mem (List.mem_flatMap.2 ⟨y,hy,desc_self y⟩)) he.symm
 exact this _ h2
def keyS(xs:List api_Unit)(m:List (api_Id×Bool)):List (api_Id×Bool):=fillS api_Unit.Id (fun _=>true) xs m
theorem mget_fill{τ α:Type}[DecidableEq α](f:τ→α)(y:α):∀ (xs:List τ) (m:List (α×Bool)),(mget m y false=true∨y∈xs.map f)→mget (fillS f (fun _=>true) xs m) y false=true
 | [],m,h=>by
  rcases h with h | h
  ·exact h
  ·cases h
 | x :: xs,m,h=>by
  show mget (fillS f (fun _=>true) xs (mset m (f x) true)) y false=true
  refine mget_fill f y xs _ ?_
  rw [mget_mset]
  by_cases hy:y=f x
  ·rw [if_pos hy];exact .inl rfl
  ·rw [if_neg hy]
   refine h.imp id fun hm=>?_
   rw [List.map_cons] at hm
   rcases List.mem_cons.1 hm with e | e
   ·exact absurd e hy
   ·exact e
theorem mget_key{α:Type}[DecidableEq α]{y:α}:∀ {m:List (α×Bool)},mget m y false=true→y∈m.map Prod.fst
 | [],h=>by simp [mget] at h
 | p :: m,h=>by
  simp only [mget] at h
  by_cases hp:y=p.1
  ·rw [hp];exact List.mem_map_of_mem (f:=Prod.fst) List.mem_cons_self
  ·rw [if_neg hp] at h
   exact List.mem_cons_of_mem _ (mget_key h)
def selfP(a:api_Unit):diff_pair:=⟨a,a,allP a,allP a⟩
theorem take_map{β:Type}(f:api_Unit→β){l:List api_Unit}{i:Nat}{x:api_Unit}{xs:List api_Unit}(hx:l.drop i=x :: xs):(l.take (i+1)).map f=(l.take i).map f++ [f x]:=by
 rw [List.take_add_one,(drop_cons hx).2.1]
 simp
theorem stays_ok{a u:api_Unit}(hP:(allP a).length=cnt a)(hu:u∈desc a)(hk:u.Kids.length≤256) :
  ∃ S,To (fun n=>M.diff_pair_stays n (selfP a) u) S∧ ∀ k∈u.Kids,mget S k.Id false=true:=by
 have hself:=allP_has hP hu
 have loop1:∀ (xs:List api_Unit) (i:Nat),u.Kids.drop i=xs→i≤u.Kids.length→M.diff_pair_stays_loop1 (selfP a) u xs ((u.Kids.take i).map api_Unit.Id) (natL i)=some (u.Kids.map api_Unit.Id,natL u.Kids.length):=by
  intro xs
  induction xs with
  | nil=>
   intro i hx hi
   have hle:=List.drop_eq_nil_iff.1 hx
   have:i=u.Kids.length:=by omega
   subst this
   rw [M.diff_pair_stays_loop1,List.take_length]
  | cons x xs ih=>
   intro i hx hi
   obtain ⟨hlt,hget,_⟩:=drop_cons hx
   obtain ⟨h1,h2⟩:=allP_kid hP hu hget
   have e:=ih (i+1) (drop_next hx) (by omega)
   rw [take_map _ hx,natL_succ] at e
   simp only [M.diff_pair_stays_loop1,selfP]
   simp only [h1,h2,hself,if_true,decide_true,Option.bind_some]
   rw [appC_eq (by simp;omega),Option.bind_some,appC_eq (by rw [natL_len];simp;omega),Option.bind_some]
   exact e
 have loop2:∀ (xs:List api_Unit) (i:Nat) (m:List (api_Id×Bool)),u.Kids.drop i=xs→i≤u.Kids.length→M.diff_pair_stays_loop2 (u.Kids.map api_Unit.Id) ((natL u.Kids.length).drop i) m=some (keyS xs m):=by
  intro xs
  induction xs with
  | nil=>
   intro i m hx hi
   have hle:=List.drop_eq_nil_iff.1 hx
   rw [List.drop_eq_nil_of_le (by rw [natL_len];exact hle)]
   rfl
  | cons x xs ih=>
   intro i m hx hi
   obtain ⟨hlt,hget,_⟩:=drop_cons hx
   have hl:i<(natL u.Kids.length).length:=by rw [natL_len];exact hlt
   have hg:(natL u.Kids.length)[i]=(i:Int):=by
    have:=natL_get hlt
    rw [List.getElem?_eq_getElem hl] at this
    exact Option.some.inj this
   rw [List.drop_eq_getElem_cons hl,hg]
   simp only [M.diff_pair_stays_loop2]
   rw [idx_nat,List.getElem?_map,hget]
   exact ih (i+1) _ (drop_next hx) (by omega)
 refine ⟨keyS u.Kids [],?_,fun k hk=>mget_fill _ _ _ _ (.inr (List.mem_map_of_mem hk))⟩
 simp only [M.diff_pair_stays]
 refine To.bindS (loop1 u.Kids 0 rfl (by omega)) ?_
 dsimp only
 exact To.bind (li_ok _ hk) (To.bindS (loop2 u.Kids 0 [] rfl (by omega)) To.pure)
theorem moved1_ok{a u par:api_Unit}(hP:(allP a).length=cnt a)(hu:u∈desc a)(hk:u.Kids.length≤256)(c1:List (api_Id×Bool))(hc:u.Kind=0∨mget c1 u.Id false=true) :
  ∃ c2,To (fun n=>M.diff_pair_moved_1 n u par (selfP a) c1 []) (c2,[])∧(∀ y,mget c1 y false=true→mget c2 y false=true)∧ ∀ k∈u.Kids,mget c2 k.Id false=true:=by
 obtain ⟨S,hS,hSk⟩:=stays_ok hP hu hk
 have hself:=allP_has hP hu
 have hkeep:∀ y,(mget c1 y false=true∨y∈S.map Prod.fst)→mget (fillS Prod.fst (fun _=>true) S c1) y false=true:=fun y h=>mget_fill _ _ _ _ h
 refine ⟨fillS Prod.fst (fun _=>true) S c1,?_,fun y hy=>hkeep y (.inl hy),fun k hk=>hkeep _ (.inr (mget_key (hSk k hk)))⟩
 simp only [M.diff_pair_moved_1]
 refine To.bind hS (To.bindS (a:=fillS Prod.fst (fun _=>true) S c1) rfl (To.pos hself ?_))
 by_cases h0:u.Kind=0
 ·exact To.neg (by simpa using h0) To.pure
 ·refine To.pos h0 (To.neg ?_ To.pure)
  rw [hkeep _ (.inl (hc.resolve_left h0))]
  decide
theorem below_ok{a:api_Unit}(hP:(allP a).length=cnt a)(hk:∀ x∈desc a,x.Kids.length≤256):∀ (u:api_Unit),(∀ x∈desc u,x∈desc a)→∀ c1:List (api_Id×Bool),(∀ k∈u.Kids,mget c1 k.Id false=true)→
  ∃ c2,To (fun n=>M.diff_below_i0 n u (selfP a) c1 []) (c2,[])∧ ∀ y,mget c1 y false=true→mget c2 y false=true:=by
 refine uind ?_
 intro u ih hsub c1 hc
 have loop:∀ (xs:List api_Unit) (F:Nat→api_Unit→diff_pair→List (api_Id×Bool)→List api_Id→Option (List (api_Id×Bool)×List api_Id)) (c1:List (api_Id×Bool)),(∀ x∈xs,x∈u.Kids)→(∀ x∈xs,mget c1 x.Id false=true)→
   (∀ x∈xs,∀ c:List (api_Id×Bool),(∀ k∈x.Kids,mget c k.Id false=true)→∃ c2,To (fun n=>F n x (selfP a) c []) (c2,[])∧ ∀ y,mget c y false=true→mget c2 y false=true)→
   ∃ c2,To (fun n=>M.diff_below_i0_loop1 n u (selfP a) (F n) xs c1 []) (c2,[])∧ ∀ y,mget c1 y false=true→mget c2 y false=true:=by
  intro xs
  induction xs with
  | nil=>
   intro F c1 _ _ _
   exact ⟨c1,by simp only [M.diff_below_i0_loop1];exact To.pure,fun y h=>h⟩
  | cons x xs ih2=>
   intro F c1 hm hc hF
   have hx:=hm x List.mem_cons_self
   have hxa:x∈desc a:=hsub x (mem_desc_kids hx)
   obtain ⟨c2,h2,k2,q2⟩:=moved1_ok (par:=u) hP hxa (hk x hxa) c1 (.inr (hc x List.mem_cons_self))
   obtain ⟨c3,h3,k3⟩:=hF x List.mem_cons_self c2 q2
   obtain ⟨c4,h4,k4⟩:=ih2 F c3 (fun y hy=>hm y (List.mem_cons_of_mem _ hy)) (fun y hy=>k3 _ (k2 _ (hc y (List.mem_cons_of_mem _ hy)))) (fun y hy=>hF y (List.mem_cons_of_mem _ hy))
   refine ⟨c4,?_,fun y hy=>k4 _ (k3 _ (k2 _ hy))⟩
   simp only [M.diff_below_i0_loop1]
   refine To.bind h2 ?_
   dsimp only
   refine To.bind h3 ?_
   exact h4
 obtain ⟨c2,h2,k2⟩:=loop u.Kids (fun n=>M.diff_below_i0 n) c1 (fun x hx=>hx) hc (fun x hx c hcx=>ih x hx (fun y hy=>hsub y (desc_kid hx hy)) c hcx)
 refine ⟨c2,To.succ ?_,k2⟩
 simp only [M.diff_below_i0]
 refine To.bind h2 ?_
 exact To.pure
theorem anyM_none{α:Type}{st:α→Option Bool}:∀ {l:List α},(∀ e∈l,st e=some false)→anyM st l=some false
 | [],_=>rfl
 | x :: l,h=>by
  rw [anyM,h x List.mem_cons_self,Option.bind_some,anyM_none (fun y hy=>h y (List.mem_cons_of_mem _ hy))]
  rfl
theorem moved_ok(a:api_Unit)(hc:cnt a≤256)(hl:labs a)(h0:a.Kind=0):To (fun n=>M.diff_Moved n a a) []:=by
 obtain ⟨b,hb,hP⟩:=book_ok a (by omega) hl
 have hk:∀ x∈desc a,x.Kids.length≤256:=by
  intro x hx
  have h1:=cnt_kids x
  have h2:cnt x≤cnt a:=by
   have:∀ a:api_Unit,∀ x∈desc a,cnt x≤cnt a:=by
    refine uind ?_
    intro u ih x hx
    rw [desc_eq] at hx
    rcases List.mem_cons.1 hx with rfl | hx
    ·exact Nat.le_refl _
    ·obtain ⟨k,hk,hxk⟩:=List.mem_flatMap.1 hx
     have:=ih k hk x hxk;have:=cnt_kid hk
     omega
   exact this a x hx
  omega
 simp only [M.diff_Moved]
 cases b with
 | false=>
  refine To.bind (a:=(⟨zapi_Unit,zapi_Unit,[],[]⟩,false)) ?_ (To.pos rfl To.pure)
  simp only [M.diff_held]
  exact To.bind (To.bind hb (To.pos rfl To.pure)) (To.pos rfl To.pure)
 | true=>
  have hP:=hP rfl
  refine To.bind (a:=(selfP a,true)) ?_ (To.neg (by simp) (To.bind (a:=[]) ?_ To.pure))
  ·simp only [M.diff_held]
   refine To.bind (a:=false) (To.bind hb (To.neg (by decide) (To.bind hb (To.pure.of rfl)))) (To.neg (by decide) (To.bind (places_ok a) (To.bind (places_ok a) (To.bindS (a:=false) (anyM_none ?_) (To.neg (by decide) To.pure)))))
   intro e he
   obtain ⟨h1,h2⟩:=allP_self hP he
   simp only [M.diff_held_loop1]
   rw [h1,h2]
   simp
  ·obtain ⟨c2,h2,k2,q2⟩:=moved1_ok (par:=(⟨zapi_Id,(0:Int),([]:Str),([]:List api_Word),([]:List api_Word),([]:List api_Unit)⟩:api_Unit)) hP (desc_self a) (hk a (desc_self a)) [] (.inl h0)
   obtain ⟨c3,h3,_⟩:=below_ok hP hk a (fun x hx=>hx) c2 q2
   simp only [M.diff_pair_moved,M.diff_each_i0]
   refine To.bind (a:=(c3,[])) (To.bind h2 ?_) ?_
   ·dsimp only
    refine To.bind h3 ?_
    exact To.pure
   ·exact To.pure
end Go.Proofs.YtalogjkalmkpjaaGreatDoor
/-
  The changes between a book and itself: the tracked tree.
-/
set_option linter.unusedVariables false
set_option linter.unusedSimpArgs false
namespace Go.Proofs.YtalogjkalmkpjaaGreatDoor
open Go Go.Dec
theorem map_at{β:Type}(f:api_Unit→β)(l:List api_Unit):l.attach.map (fun k=>f k.1)=l.map f:=by
 rw [show (fun k:{x // x∈l}=>f k.1)=f ∘ Subtype.val from rfl,←List.map_map,List.attach_map_subtype_val]
def tkF(u:api_Unit):TU:=⟨0,u.Kind,u.Id,u.Label,[],false,unW u.Head,unW u.Words,u.Kids.attach.map (fun k=>tkF k.1)⟩
termination_by SizeOf.sizeOf u
decreasing_by exact kid_lt k.2
theorem tkF_eq(u:api_Unit):tkF u=⟨0,u.Kind,u.Id,u.Label,[],false,unW u.Head,unW u.Words,u.Kids.map tkF⟩:=by
 rw [tkF,map_at]
def selfB(a:api_Unit):redline_books:=⟨allU a,allU a,[]⟩
theorem index_kid{l:List api_Unit}(hn:(l.map api_Unit.Id).Nodup){i:Nat}{e:api_Unit}(he:l[i]? =some e):To (fun n=>M.slices_IndexFunc_api_Unit_api_Unit n l (fun s0=>M.redline_books_fresh_1 s0 e)) (i:Int):=by
 have hil:=(List.getElem?_eq_some_iff.1 he).1
 have loop:∀ (d j:Nat),i-j=d→j≤i→To (fun n=>M.slices_IndexFunc_api_Unit_api_Unit_loop1 l (fun s0=>M.redline_books_fresh_1 s0 e) n (j:Int)) (.inr (i:Int)):=by
  intro d
  induction d with
  | zero=>
   intro j hd hj
   have:j=i:=by omega
   subst this
   refine To.succ ?_
   simp only [M.slices_IndexFunc_api_Unit_api_Unit_loop1]
   refine To.pos (by omega) (To.bindS (a:=e) (by rw [idx_nat];exact he) (To.bindS (a:=true) ?_ (To.pos rfl To.pure)))
   unfold M.redline_books_fresh_1
   rw [decide_eq_true rfl]
  | succ d ih=>
   intro j hd hj
   obtain ⟨x,hx⟩:∃ x,l[j]? =some x:=⟨_,List.getElem?_eq_getElem (by omega)⟩
   have hne:¬ x.Id=e.Id:=by
    intro h
    have hj':(l.map api_Unit.Id)[j]? =some e.Id:=by rw [List.getElem?_map,hx,←h];rfl
    have hi':(l.map api_Unit.Id)[i]? =some e.Id:=by rw [List.getElem?_map,he];rfl
    have hp:=List.pairwise_iff_getElem.1 hn j i (by simp;omega) (by simpa using hil) (by omega)
    rw [List.getElem?_eq_some_iff] at hj' hi'
    obtain ⟨_,q1⟩:=hj'
    obtain ⟨_,q2⟩:=hi'
    exact hp (q1.trans q2.symm)
   refine To.succ ?_
   simp only [M.slices_IndexFunc_api_Unit_api_Unit_loop1]
   refine To.pos (by omega) (To.bindS (a:=x) (by rw [idx_nat];exact hx) (To.bindS (a:=false) ?_ (To.neg (by decide) ?_)))
   ·unfold M.redline_books_fresh_1
    rw [decide_eq_false hne]
   ·rw [cast_succ]
    exact ih (j+1) (by omega) (by omega)
 simp only [M.slices_IndexFunc_api_Unit_api_Unit]
 refine To.bind (loop i 0 (by omega) (by omega)) ?_
 exact To.pure
theorem fresh_ok{a:api_Unit}(hA:(allU a).length=cnt a)(hr:∀ x∈desc a,RowsOk x)(hk:∀ x∈desc a,x.Kids.length≤256):∀ u:api_Unit,(∀ x∈desc u,x∈desc a)→To (fun n=>M.redline_books_fresh n (selfB a) u) (tkF u):=by
 refine uind ?_
 intro u ih hsub
 have hu:=hsub u (desc_self u)
 obtain ⟨hnd,hget⟩:=allU_get hA
 obtain ⟨g1,g2⟩:=hget u hu
 have hrow:=hr u hu
 have hkn:=kids_ids (nodup_desc hnd hu)
 have hkl:=hk u hu
 have loop:∀ (xs:List api_Unit) (i:Nat),u.Kids.drop i=xs→i≤u.Kids.length→To (fun n=>M.redline_books_fresh_loop1 n (selfB a) u xs (i:Int) (dgP i)) (dgP u.Kids.length):=by
  intro xs
  induction xs with
  | nil=>
   intro i hx hi
   have hle:=List.drop_eq_nil_iff.1 hx
   have:i=u.Kids.length:=by omega
   subst this
   simp only [M.redline_books_fresh_loop1]
   exact To.pure
  | cons x xs ih2=>
   intro i hx hi
   obtain ⟨hlt,hge,_⟩:=drop_cons hx
   have hxk:x∈u.Kids:=List.mem_of_getElem? hge
   obtain ⟨q1,q2⟩:=hget x (hsub x (mem_desc_kids hxk))
   have e:=ih2 (i+1) (drop_next hx) (by omega)
   simp only [M.redline_books_fresh_loop1,selfB]
   refine To.bind (a:=true) (To.pos q2 (To.pure.of rfl)) (To.pos rfl (To.bind (index_kid hkn hge) (To.bindS (a:=dgP (i+1)) (by rw [appC_eq (by rw [dgP_len];simp;omega),dgP_succ]) ?_)))
   rw [cast_succ]
   exact e
 refine To.succ ?_
 simp only [M.redline_books_fresh,selfB]
 simp only [g1,g2]
 refine To.bind (words_self _ hrow.1) (To.bind (words_self _ hrow.2) (To.bind (a:=(⟨(0:Int),u.Kind,u.Id,u.Label,([]:Str),false,unW u.Head,unW u.Words,([]:List api_TrackedUnit)⟩:api_TrackedUnit)) (To.neg (by simp) (To.neg (by simp [mget]) (To.pure.of rfl))) (To.bind (a:=(⟨(0:Int),u.Kind,u.Id,u.Label,([]:Str),false,unW u.Head,unW u.Words,([]:List api_TrackedUnit)⟩:api_TrackedUnit)) (To.pos (by simp) (To.neg (by simp) To.pure)) ?_)))
 have hw:=woven_u u.Kids (by omega) (fun n s=>M.redline_books_gone n (selfB a) s) (fun n s=>M.redline_books_fresh n (selfB a) s) (fun n s t=>M.redline_books_fresh_2 (M.redline_books_fresh n) s t (selfB a)) tkF (fun x hx=>by
  have:=ih x hx (fun y hy=>hsub y (desc_kid hx hy))
  simp only [M.redline_books_fresh_2]
  exact To.bind this To.pure)
 refine To.bind (loop u.Kids 0 rfl (by omega)) (To.bind hw (To.pure.of ?_))
 rw [tkF_eq]
theorem desc_trans{a:api_Unit}:∀ x∈desc a,cnt x≤cnt a:=by
 have:∀ a:api_Unit,∀ x∈desc a,cnt x≤cnt a:=by
  refine uind ?_
  intro u ih x hx
  rw [desc_eq] at hx
  rcases List.mem_cons.1 hx with rfl | hx
  ·exact Nat.le_refl _
  ·obtain ⟨k,hk,hxk⟩:=List.mem_flatMap.1 hx
   have:=ih k hk x hxk;have:=cnt_kid hk
   omega
 exact this a
theorem diff_self(a:api_Unit)(hc:cnt a≤256)(hl:labs a):∃ r,To (fun n=>M.redline_Diff n a a) r∧(r.2=0→r.1=tkF a∧(∀ x∈desc a,RowsOk x)∧deep a≤8∧a.Kind=0):=by
 obtain ⟨v,hv,hv2⟩:=valid_v a (by omega) hl
 have hcount:=count_u a (by omega)
 have hAl:=allU_len a
 have hk:∀ x∈desc a,x.Kids.length≤256:=fun x hx=>by
  have:=cnt_kids x;have:=desc_trans x hx
  omega
 have bad:∀ (x:redline_books),To (fun n=>M.redline_held n a a) (x,false)→∃ r,To (fun n=>M.redline_Diff n a a) r∧(r.2=0→r.1=tkF a∧(∀ x∈desc a,RowsOk x)∧deep a≤8∧a.Kind=0):=by
  intro x hx
  refine ⟨((⟨(0:Int),(0:Int),zapi_Id,([]:Str),([]:Str),false,([]:List api_TrackedWord),([]:List api_TrackedWord),([]:List api_TrackedUnit)⟩:api_TrackedUnit),(1:Int)),?_,fun h=>absurd h (by simp)⟩
  simp only [M.redline_Diff]
  exact To.bind hx (To.pos rfl To.pure)
 by_cases h0:a.Kind=0
 ·cases v with
  | false=>
   refine bad ⟨[],[],[]⟩ ?_
   simp only [M.redline_held]
   exact To.bind (a:=true) (To.neg (by simpa using h0) (To.neg (by simpa using h0) (To.bind hv (To.pos rfl To.pure)))) (To.pos rfl To.pure)
  | true=>
   obtain ⟨hrow,hdeep⟩:=hv2 rfl
   have e0:To (fun n=>M.redline_every n a ([]:List (api_Id×api_Unit))) (allU a):=every_ok a []
   have hv1:To (fun n=>if a.Kind≠(0:Int) then some true else if a.Kind≠(0:Int) then some true else Option.bind (M.unit_Valid n a) fun valid=>if valid=false then some true else Option.bind (M.unit_Valid n a) fun valid1=>some (!valid1)) false:=
    To.neg (by simpa using h0) (To.neg (by simpa using h0) (To.bind hv (To.neg (by decide) (To.bind hv (To.pure.of rfl)))))
   have hgrow:=growC_eq (n:=(allU a).length) (by omega)
   by_cases hA:(allU a).length=cnt a
   ·obtain ⟨hnd,hget⟩:=allU_get hA
    have hall:∀ e∈allU a,mget (allU a) e.1 zapi_Unit=e.2∧mhas (allU a) e.1=true:=by
     obtain ⟨h1,h2⟩:=fillS_full api_Unit.Id id (desc a) [] List.nodup_nil (by simpa [allU,cnt] using hA)
     rw [List.nil_append] at h1 h2
     have e:allU a=(desc a).map (fun x=>(x.Id,x)):=h1
     intro p hp
     rw [e] at hp
     obtain ⟨x,hx,rfl⟩:=List.mem_map.1 hp
     exact hget x hx
    have hm:=moved_ok a hc hl h0
    refine ⟨(tkF a,0),?_,fun _=>⟨rfl,hrow,hdeep,h0⟩⟩
    simp only [M.redline_Diff]
    refine To.bind (a:=(selfB a,true)) ?_ (To.neg (by simp) (To.bind (fresh_ok hA hrow hk a (fun x hx=>hx)) To.pure))
    simp only [M.redline_held]
    refine To.bind hv1 (To.neg (by decide) (To.bind e0 (To.bind e0 ?_)))
    refine To.bind (a:=false) (To.bindS hgrow (To.bind hcount (To.neg (by omega) (To.bindS hgrow (To.bind hcount (To.pure.of (by simp [hA]))))))) (To.neg (by decide) ?_)
    refine To.bindS (a:=false) (anyM_none (fun e he=>?_)) (To.neg (by decide) (To.bind hm (To.bindS (a:=[]) rfl (To.pure.of rfl))))
    obtain ⟨q1,q2⟩:=hall e he
    simp only [M.redline_held_loop1]
    rw [q1,q2]
    simp
   ·refine bad (selfB a) ?_
    simp only [M.redline_held]
    exact To.bind hv1 (To.neg (by decide) (To.bind e0 (To.bind e0 (To.bind (a:=true) (To.bindS hgrow (To.bind hcount (To.pos (by omega) To.pure))) (To.pos rfl To.pure)))))
 ·refine bad ⟨[],[],[]⟩ ?_
  simp only [M.redline_held]
  exact To.bind (a:=true) (To.pos h0 To.pure) (To.pos rfl To.pure)
end Go.Proofs.YtalogjkalmkpjaaGreatDoor
/-
  The lines of a tracked tree in which nothing has changed: one for each unit, each with its sign, no brackets.
-/
set_option linter.unusedVariables false
set_option linter.unusedSimpArgs false
namespace Go.Proofs.YtalogjkalmkpjaaGreatDoor
open Go Go.Dec
def lab3(u:api_Unit):Prop:=∀ x,x∈desc u→x.Label.length≤30
theorem short_fine(l:List api_Word):∃ b,To (fun n=>M.r06_short n l) b∧(b=true→l.length≤300∧ ∀ w,w∈l→w.Text.length≤100):=by
 have loop:∀ (xs:List api_Word) (i:Nat),l.drop i=xs→∃ c:Unit ⊕ Bool,To (fun n=>M.r06_short_loop1 l n (i:Int)) c∧((c= .inl ()∧ ∀ w,w∈xs→w.Text.length≤100)∨c= .inr false):=by
  intro xs
  induction xs with
  | nil=>
   intro i hx
   refine ⟨.inl (),To.succ ?_,.inl ⟨rfl,fun w hw=>by cases hw⟩⟩
   simp only [M.r06_short_loop1]
   exact To.neg (drop_end hx) To.pure
  | cons x xs ih=>
   intro i hx
   by_cases h:100<x.Text.length
   ·refine ⟨.inr false,To.succ ?_,.inr rfl⟩
    simp only [M.r06_short_loop1]
    exact To.pos (drop_lt hx) (To.bindS (drop_idx hx) (To.pos (by omega) To.pure))
   ·obtain ⟨c,h1,h2⟩:=ih (i+1) (drop_next hx)
    refine ⟨c,To.succ ?_,h2.imp (fun ⟨e,k⟩=>⟨e,fun w hw=>?_⟩) id⟩
    ·simp only [M.r06_short_loop1]
     rw [cast_succ]
     exact To.pos (drop_lt hx) (To.bindS (drop_idx hx) (To.neg (by omega) h1))
    ·rcases List.mem_cons.1 hw with rfl | hw
     ·omega
     ·exact k w hw
 obtain ⟨c,h1,h2⟩:=loop l 0 rfl
 simp only [M.r06_short]
 rcases h2 with ⟨rfl,k⟩ | rfl
 ·exact ⟨_,To.bind h1 To.pure,fun h=>⟨by have:=of_decide_eq_true h;omega,k⟩⟩
 ·exact ⟨_,To.bind h1 To.pure,fun h=>by cases h⟩
theorem words_lab(u:api_Unit):∃ b,To (fun n=>M.r06_words n u) b∧(b=true→lab3 u):=by
 refine uind (P:=fun u=>∃ b,To (fun n=>M.r06_words n u) b∧(b=true→lab3 u)) ?_ u
 intro u ih
 have loop:∀ (xs:List api_Unit) (slf:Nat→api_Unit→Option Bool) (i:Nat),u.Kids.drop i=xs→(∀ k,k∈xs→∃ b,To (fun n=>slf n k) b∧(b=true→lab3 k))→
   To (fun n=>M.r06_words_loop1 u (slf n) n (i:Int)) (.inr false)∨(To (fun n=>M.r06_words_loop1 u (slf n) n (i:Int)) (.inl ())∧ ∀ k,k∈xs→lab3 k):=by
  intro xs
  induction xs with
  | nil=>
   intro slf i hx hs
   refine .inr ⟨To.succ ?_,fun k hk=>by cases hk⟩
   simp only [M.r06_words_loop1]
   exact To.neg (drop_end hx) To.pure
  | cons x xs ih=>
   intro slf i hx hs
   obtain ⟨b,hb,hl⟩:=hs x (by simp)
   cases b with
   | false=>
    refine .inl (To.succ ?_)
    simp only [M.r06_words_loop1]
    exact To.pos (drop_lt hx) (To.bindS (drop_idx hx) (To.bind hb.shift (To.pos rfl To.pure)))
   | true=>
    rcases ih (fun n=>slf (n+1)) (i+1) (drop_next hx) (fun k hk=>by
     obtain ⟨b,h1,h2⟩:=hs k (by simp [hk])
     exact ⟨b,h1.shift,h2⟩) with h | ⟨h,hk⟩
    ·refine .inl (To.succ ?_)
     simp only [M.r06_words_loop1]
     refine To.pos (drop_lt hx) (To.bindS (drop_idx hx) (To.bind hb.shift (To.neg (by simp) ?_)))
     rw [cast_succ];exact h
    ·refine .inr ⟨To.succ ?_,fun k hk'=>?_⟩
     ·simp only [M.r06_words_loop1]
      refine To.pos (drop_lt hx) (To.bindS (drop_idx hx) (To.bind hb.shift (To.neg (by simp) ?_)))
      rw [cast_succ];exact h
     ·rcases List.mem_cons.1 hk' with rfl | hk'
      ·exact hl rfl
      ·exact hk k hk'
 by_cases hlab:30<u.Label.length
 ·refine ⟨false,To.succ ?_,fun h=>by cases h⟩
  simp only [M.r06_words]
  exact To.bind (a:=true) (To.pos (by omega) To.pure) (To.pos rfl To.pure)
 ·obtain ⟨b1,k1,l1⟩:=short_fine u.Head
  obtain ⟨b2,k2,l2⟩:=short_fine u.Words
  have ha:To (fun n=>Option.bind (M.r06_short n u.Head) fun short=>if short=false then some true else Option.bind (M.r06_short n u.Words) fun short1=>some (!short1)) (!(b1 && b2)):=by
   refine To.bind k1 ?_
   cases b1 with
   | false=>exact To.pos rfl To.pure
   | true=>exact To.neg (by simp) (To.bind k2 (To.pure.of (by simp)))
  cases hb:(b1 && b2) with
  | false=>
   rw [hb] at ha
   refine ⟨false,To.succ ?_,fun h=>by cases h⟩
   simp only [M.r06_words]
   exact To.bind (a:=true) (To.neg (by omega) ha) (To.pos rfl To.pure)
  | true=>
   rw [hb] at ha
   rw [Bool.and_eq_true] at hb
   have e2:=l2 hb.2
   rcases loop u.Kids (fun n=>M.r06_words n) 0 rfl ih with h | ⟨h,hk⟩
   ·refine ⟨false,To.succ ?_,fun h=>by cases h⟩
    simp only [M.r06_words]
    exact To.bind (a:=false) (To.neg (by omega) ha) (To.neg (by simp) (To.bind h To.pure))
   ·refine ⟨true,To.succ ?_,fun _ x hx=>?_⟩
    ·simp only [M.r06_words]
     exact To.bind (a:=false) (To.neg (by omega) ha) (To.neg (by simp) (To.bind h To.pure))
    ·rw [desc_eq] at hx
     rcases List.mem_cons.1 hx with rfl | hx
     ·omega
     ·obtain ⟨k,h1,h2⟩:=List.mem_flatMap.1 hx
      exact hk k h1 x h2
theorem few16(u:api_Unit):∃ b,To (fun n=>M.r06_Few n u 16) b∧(b=true→cnt u≤16∧labs u∧lab3 u):=by
 obtain ⟨r,ht,q1,q2,q3⟩:=size_ok u 0 16 (by omega) (by omega) (by omega) (by omega)
 by_cases hr:r≤16
 ·obtain ⟨b,hb,hl⟩:=words06 u
  obtain ⟨b',hb',hf⟩:=words_lab u
  have e:=hb.det hb'
  subst e
  refine ⟨b,?_,fun h=>⟨by have:=q3 hr;omega,hl h,hf h⟩⟩
  simp only [M.r06_Few]
  exact To.bind ht (To.pos hr (To.bind hb To.pure))
 ·refine ⟨false,?_,fun h=>by cases h⟩
  simp only [M.r06_Few]
  exact To.bind ht (To.neg hr To.pure)
theorem tk_sz:∀ (j:Nat) (u:api_Unit),deep u<j→(∀ x∈desc u,RowsOk x∧x.Label.length≤30∧x.Kids.length≤40)→szP j (tkF u)∧cntF j (tkF u)=cnt u
 | 0,u,h,_=>by omega
 | j+1,u,h,hr=>by
  obtain ⟨⟨r1,r2⟩,r3,r4⟩:=hr u (desc_self u)
  have ih:∀ k∈u.Kids,szP j (tkF k)∧cntF j (tkF k)=cnt k:=fun k hk=>tk_sz j k (by have:=deep_kid hk;omega) (fun x hx=>hr x (desc_kid hk hx))
  have hcnt:∀ xs:List api_Unit,(∀ x∈xs,x∈u.Kids)→((xs.map tkF).map (cntF j)).sum=(xs.map cnt).sum:=by
   intro xs
   induction xs with
   | nil=>intro _;rfl
   | cons x xs ih2=>
    intro hx
    simp only [List.map_cons,List.sum_cons]
    rw [(ih x (hx x List.mem_cons_self)).2,ih2 (fun y hy=>hx y (List.mem_cons_of_mem _ hy))]
  rw [tkF_eq]
  refine ⟨⟨by simp [unW];omega,by simp [unW];omega,by simp;omega,by simp,by simp;omega,fun x hx=>?_⟩,?_⟩
  ·obtain ⟨k,hk,rfl⟩:=List.mem_map.1 hx
   exact (ih k hk).1
  ·rw [cnt_eq]
   unfold cntF
   dsimp only
   rw [hcnt u.Kids (fun x hx=>hx)]
theorem tk_own{k d:Nat}{u:api_Unit}(h:mayF (k+1) d (tkF u)=true):ownB (tkF u)=true∧ ∀ x∈u.Kids,mayF k (d+1) (tkF x)=true:=by
 unfold mayF at h
 rw [Bool.or_eq_true,Bool.and_eq_true,Bool.and_eq_true] at h
 rcases h with ⟨_,h⟩ | ⟨h1,h2⟩
 ·have:=(of_decide_eq_true h).1
  rw [tkF_eq] at this
  cases this
 ·refine ⟨h1,fun x hx=>List.all_eq_true.1 h2 _ ?_⟩
  rw [tkF_eq]
  exact List.mem_map_of_mem hx
theorem tk_lines:∀ (k d:Nat) (u:api_Unit),mayF k d (tkF u)=true→(linF k d (tkF u)).length=cnt u∧ ∀ x∈linF k d (tkF u),∃ v e,x=lineF e (tkF v)∧ownB (tkF v)=true
 | 0,d,u,h=>by cases h
 | k+1,d,u,h=>by
  obtain ⟨h1,h2⟩:=tk_own h
  have go:∀ xs:List api_Unit,(∀ x∈xs,x∈u.Kids)→((xs.map tkF).flatMap (linF k (d+1))).length=(xs.map cnt).sum∧ ∀ x∈(xs.map tkF).flatMap (linF k (d+1)),∃ v e,x=lineF e (tkF v)∧ownB (tkF v)=true:=by
   intro xs
   induction xs with
   | nil=>intro _;exact ⟨rfl,fun x hx=>by cases hx⟩
   | cons x xs ih=>
    intro hx
    obtain ⟨q1,q2⟩:=tk_lines k (d+1) x (h2 x (hx x List.mem_cons_self))
    obtain ⟨q3,q4⟩:=ih (fun y hy=>hx y (List.mem_cons_of_mem _ hy))
    rw [List.map_cons,List.flatMap_cons]
    refine ⟨by rw [List.length_append,q1,q3];simp,fun y hy=>?_⟩
    rcases List.mem_append.1 hy with hy | hy
    ·exact q2 y hy
    ·exact q4 y hy
  obtain ⟨g1,g2⟩:=go u.Kids (fun x hx=>hx)
  have e:linF (k+1) d (tkF u)=lineF d (tkF u) :: (u.Kids.map tkF).flatMap (linF k (d+1)):=by
   rw [tkF_eq];rfl
  rw [e]
  refine ⟨by rw [List.length_cons,g1,cnt_eq];omega,fun x hx=>?_⟩
  rcases List.mem_cons.1 hx with rfl | hx
  ·exact ⟨u,d,rfl,h1⟩
  ·exact g2 x hx
def nbP(p:Str):Prop:=p≠ [91,43]∧p≠ [43,93]∧p≠ [91,45]∧p≠ [45,93]
theorem esc_nb{s:Str}(h:wordB s=true):nbP (esc s):=by
 have:=(esc_mk h).1
 unfold isMk at this
 refine ⟨?_,?_,?_,?_⟩<;> (intro e;rw [e] at this;revert this;decide)
theorem pcs_plain:∀ (l:List TW),(∀ w∈l,w.State=0)→pcsT none l=l.map (fun w=>esc w.Text)∧pcsT (some 0) l=l.map (fun w=>esc w.Text)
 | [],_=>⟨rfl,rfl⟩
 | w :: l,h=>by
  have h0:=h w List.mem_cons_self
  have ih:=(pcs_plain l (fun x hx=>h x (List.mem_cons_of_mem _ hx))).2
  have ho:opP 0= []:=rfl
  have hs:shP 0= []:=rfl
  constructor<;> (unfold pcsT;rw [h0,ho,hs,ih];simp)
theorem un_state{l:List api_Word}:∀ w∈unW l,w.State=0:=by
 intro w hw
 obtain ⟨x,_,rfl⟩:=List.mem_map.1 hw
 rfl
theorem un_pcs{l:List api_Word}(h:rowB (unW l)=true):∀ p∈pcsT none (unW l),(32:UInt8) ∉ p∧nbP p:=by
 intro p hp
 have hst:(unW l).all stB=true:=by
  unfold rowB at h
  exact (Bool.and_eq_true _ _▸h).2
 refine ⟨pcs_no _ _ hst p hp,?_⟩
 rw [(pcs_plain _ un_state).1] at hp
 obtain ⟨w,hw,rfl⟩:=List.mem_map.1 hp
 exact esc_nb (stB_iff.1 (List.all_eq_true.1 hst w hw)).1
theorem name_nb{k:Int}(h0:0≤k)(h1:k≤7):nbP (nameOf k):=by
 obtain ⟨m,rfl⟩:∃ m:Nat,k=(m:Int):=⟨k.toNat,by omega⟩
 have hm:m=0∨m=1∨m=2∨m=3∨m=4∨m=5∨m=6∨m=7:=by omega
 unfold nbP
 rcases hm with rfl | rfl | rfl | rfl | rfl | rfl | rfl | rfl<;> decide
theorem words_pcs{l:List TW}(h:rowB l=true)(hl:l.length≠0):wordsT l=tailS ([124] :: pcsT none l):=by
 have h1:=head_pcs h hl
 unfold headT at h1
 rw [if_neg hl] at h1
 unfold wordsT
 rw [if_neg hl]
 have h2:32 :: rowF l=tailS (pcsT none l):=by
  have:(58:UInt8) :: (32 :: rowF l)=58 :: tailS (pcsT none l):=h1
  exact (List.cons.inj this).2
 show 32 :: 124 :: (32 :: rowF l)=_
 rw [h2]
 rfl
theorem tk_sg(v:api_Unit):sgF (tkF v)= [61]:=by
 rw [tkF_eq];rfl
theorem tk_pcs{v:api_Unit}(h:ownB (tkF v)=true):∃ ps:List Str,restF (tkF v)=nameOf v.Kind++tailS ps∧(0≤v.Kind∧v.Kind≤7)∧ ∀ p∈ps,(32:UInt8) ∉ p∧nbP p:=by
 have hno:=frP_no h
 have hsg:sgF (tkF v)≠ [60]:=by rw [tk_sg];decide
 obtain ⟨⟨k0,k7,kid⟩,⟨hr1,hr2⟩,_⟩:=of_decide_eq_true h
 obtain ⟨hlab,_⟩:=own_lab h
 rw [tkF_eq] at hno hsg k0 k7 kid hr1 hr2 hlab ⊢
 have hid:(32:UInt8) ∉ idF v.Id:=idF_no _ _ (by decide) (by decide) (by decide)
 have hl:∀ p∈labP v.Label,(32:UInt8) ∉ p∧nbP p:=by
  intro p hp
  unfold labP at hp
  split at hp
  ·cases hp
  ·rename_i hn
   rw [List.mem_singleton.1 hp]
   have hb:labB v.Label=true:=hlab hn
   refine ⟨lab_no hb,?_,?_,?_,?_⟩<;> (intro e;have e:v.Label=_:=e;rw [e] at hb;revert hb;decide)
 rw [rest_own hsg,frF_eq]
 refine ⟨labP v.Label++((if (unW v.Head).length=0 then [idF v.Id] else (idF v.Id++ [58]) :: pcsT none (unW v.Head))++(if (unW v.Words).length=0 then [] else [124] :: pcsT none (unW v.Words))),?_,⟨k0,k7⟩,fun p hp=>?_⟩
 ·dsimp only
  rw [tailS_append,tailS_append,labP_tail]
  have hw:tailS (if (unW v.Words).length=0 then [] else [124] :: pcsT none (unW v.Words))=wordsT (unW v.Words):=by
   split
   ·rename_i h0;unfold wordsT;rw [if_pos h0];rfl
   ·rename_i h0;exact (words_pcs hr2 h0).symm
  have hh:tailS (if (unW v.Head).length=0 then [idF v.Id] else (idF v.Id++ [58]) :: pcsT none (unW v.Head))=32 :: (idF v.Id++headT (unW v.Head)):=by
   split
   ·rename_i h0;unfold headT;rw [if_pos h0];simp [tailS]
   ·rename_i h0;rw [head_pcs hr1 h0];simp [tailS]
  rw [hw,hh]
  simp [wasT]
 ·rcases List.mem_append.1 hp with hp | hp
  ·exact hl p hp
  rcases List.mem_append.1 hp with hp | hp
  ·split at hp
   ·rw [List.mem_singleton.1 hp]
    exact ⟨hid,by simp [nbP,idF]⟩
   ·rcases List.mem_cons.1 hp with rfl | hp
    ·exact ⟨by simp [hid],by simp [nbP,idF]⟩
    ·exact un_pcs hr1 p hp
  ·split at hp
   ·cases hp
   ·rcases List.mem_cons.1 hp with rfl | hp
    ·exact ⟨by decide,by unfold nbP;decide⟩
    ·exact un_pcs hr2 p hp
theorem ind_rep:∀ d:Nat,indF d=List.replicate (d*2) 32
 | 0=>rfl
 | d+1=>by
  rw [←indF_succ,ind_rep d,Nat.succ_mul]
  exact (List.replicate_append_replicate (n:=d*2) (m:=2) (a:=(32:UInt8)))
theorem split_ind:∀ (m:Nat) (s:Str),splitC 32 (List.replicate m 32++s)=List.replicate m []++splitC 32 s
 | 0,s=>rfl
 | m+1,s=>by
  rw [List.replicate_succ,List.cons_append,splitC_hit,split_ind m s]
  rfl
theorem tk_line(v:api_Unit)(e:Nat):lineF e (tkF v)=List.replicate (e*2) 32++(61 :: 32 :: restF (tkF v)):=by
 unfold lineF
 rw [tk_sg,ind_rep]
 rfl
theorem line_pcs{v:api_Unit}(e:Nat)(h:ownB (tkF v)=true):∀ p∈pcs (lineF e (tkF v)),nbP p:=by
 obtain ⟨ps,hr,⟨k0,k7⟩,hp⟩:=tk_pcs h
 have hn:=name_no k0 k7
 have hs:splitC 32 (61 :: 32 :: restF (tkF v))= [61] :: nameOf v.Kind :: ps:=by
  rw [hr]
  have e1:(61:UInt8) :: 32 :: (nameOf v.Kind++tailS ps)= [61]++tailS (nameOf v.Kind :: ps):=by simp [tailS]
  rw [e1]
  refine split_tail _ (fun y hy=>?_) _ (by decide)
  rcases List.mem_cons.1 hy with rfl | hy
  ·exact hn.1
  ·exact (hp y hy).1
 have hne:lineF e (tkF v)≠ []:=by rw [tk_line];simp
 intro p hpm
 unfold pcs at hpm
 rw [if_neg hne,tk_line,split_ind,hs] at hpm
 rcases List.mem_append.1 hpm with hpm | hpm
 ·rw [List.eq_of_mem_replicate hpm];unfold nbP;decide
 rcases List.mem_cons.1 hpm with rfl | hpm
 ·unfold nbP;decide
 rcases List.mem_cons.1 hpm with rfl | hpm
 ·exact name_nb k0 k7
 ·exact (hp p hpm).2
theorem mu3(ps:List Str)(hp:∀ p∈ps,nbP p):To (fun n=>M.law53_MarkupUnchanged_loop3 ps n 0) (.inl ()):=by
 have loop:∀ (xs:List Str) (i:Nat),ps.drop i=xs→To (fun n=>M.law53_MarkupUnchanged_loop3 ps n (i:Int)) (.inl ()):=by
  intro xs
  induction xs with
  | nil=>
   intro i hx
   refine To.succ ?_
   simp only [M.law53_MarkupUnchanged_loop3]
   exact To.neg (drop_end hx) To.pure
  | cons x xs ih=>
   intro i hx
   obtain ⟨h1,h2,h3,h4⟩:=hp x (List.mem_of_getElem? (drop_cons hx).2.1)
   refine To.succ ?_
   simp only [M.law53_MarkupUnchanged_loop3]
   refine To.pos (drop_lt hx) (To.bindS (drop_idx hx) (To.neg (by simpa using h1) (To.bindS (drop_idx hx) (To.neg (by simpa using h2) (To.bindS (drop_idx hx) (To.neg (by simpa using h3) (To.bindS (drop_idx hx) (To.neg (by simpa using h4) ?_))))))))
   rw [cast_succ]
   exact ih (i+1) (drop_next hx)
 exact loop ps 0 rfl
theorem mu2(l:List Str)(i:Nat)(m:Nat)(r:Str)(hl:l[i]? =some (List.replicate m 32++61 :: r)):To (fun n=>M.law53_MarkupUnchanged_loop2 l (i:Int) n 0) (m:Int):=by
 have hi:idx l (i:Int)=some (List.replicate m 32++61 :: r):=by rw [idx_nat];exact hl
 have loop:∀ (d j:Nat),m-j=d→j≤m→To (fun n=>M.law53_MarkupUnchanged_loop2 l (i:Int) n (j:Int)) (m:Int):=by
  intro d
  induction d with
  | zero=>
   intro j hd hj
   have:j=m:=by omega
   subst this
   have hb:idx (List.replicate j 32++61 :: r) (j:Int)=some (61:UInt8):=by
    rw [idx_nat,List.getElem?_append_right (by simp)]
    simp
   refine To.succ ?_
   simp only [M.law53_MarkupUnchanged_loop2]
   exact To.bindS hi (To.pos (by simp;omega) (To.bindS hi (To.bindS hb (To.neg (by decide) To.pure))))
  | succ d ih=>
   intro j hd hj
   have hb:idx (List.replicate m 32++61 :: r) (j:Int)=some (32:UInt8):=by
    rw [idx_nat,List.getElem?_append_left (by simp;omega),List.getElem?_replicate,if_pos (by omega)]
   refine To.succ ?_
   simp only [M.law53_MarkupUnchanged_loop2]
   refine To.bindS hi (To.pos (by simp;omega) (To.bindS hi (To.bindS hb (To.pos (by decide) ?_))))
   rw [cast_succ]
   exact ih (j+1) (by omega) (by omega)
 exact loop m 0 (by omega) (by omega)
theorem mu1(l:List Str)(hl:∀ x∈l,∃ v e,x=lineF e (tkF v)∧ownB (tkF v)=true)(hlen:∀ x∈l,x.length≤200000)(hn:l.length≤100000):To (fun n=>M.law53_MarkupUnchanged_loop1 l n 0) (.inl ()):=by
 have loop:∀ (xs:List Str) (i:Nat),l.drop i=xs→To (fun n=>M.law53_MarkupUnchanged_loop1 l n (i:Int)) (.inl ()):=by
  intro xs
  induction xs with
  | nil=>
   intro i hx
   refine To.succ ?_
   simp only [M.law53_MarkupUnchanged_loop1]
   exact To.neg (drop_end hx) To.pure
  | cons x xs ih=>
   intro i hx
   obtain ⟨hlt,hget,_⟩:=drop_cons hx
   have hm:=List.mem_of_getElem? hget
   obtain ⟨v,e,rfl,ho⟩:=hl x hm
   have hxl:=hlen _ hm
   have hline:=tk_line v e
   have h2:=mu2 l i (e*2) (32 :: restF (tkF v)) (by rw [hget,hline])
   have hb:idx (lineF e (tkF v)) ((e*2:Nat):Int)=some (61:UInt8):=by
    rw [hline,idx_nat,List.getElem?_append_right (by simp)]
    simp
   have hll:(lineF e (tkF v)).length=e*2+(2+(restF (tkF v)).length):=by
    rw [hline];simp;omega
   have h3:=mu3 _ (line_pcs e ho)
   refine To.succ ?_
   simp only [M.law53_MarkupUnchanged_loop1]
   refine To.pos (drop_lt hx) (To.bind h2 (To.bind (a:=false) (To.bindS (drop_idx hx) (To.neg (by rw [hll];omega) (To.bindS (drop_idx hx) (To.bindS hb (To.pure.of (by decide)))))) (To.neg (by decide) (To.bindS (drop_idx hx) (To.bind (pieces_r _ (by omega)) (To.bind h3 (To.bindS (addC_eq (by omega) (by omega)) ?_)))))))
   rw [cast_succ]
   exact ih (i+1) (drop_next hx)
 exact loop l 0 rfl
theorem munchanged_true(a:api_Unit):To (fun n=>M.law53_MarkupUnchanged n a) true:=by
 obtain ⟨b,hb,hf⟩:=few16 a
 simp only [M.law53_MarkupUnchanged]
 refine To.bind awake53 (To.neg (by decide) (To.bind hb ?_))
 by_cases hbt:b=true
 ·obtain ⟨hc,hl,hl3⟩:=hf hbt
  refine To.neg (by simp [hbt]) ?_
  obtain ⟨r,hr,hr2⟩:=diff_self a (by omega) hl
  refine To.bind hr ?_
  by_cases h0:r.2=0
  ·obtain ⟨hr1,hrow,hdeep,_⟩:=hr2 h0
   obtain ⟨hsz,hcnt⟩:=tk_sz 13 a (by omega) (fun x hx=>⟨hrow x hx,hl3 x hx,by have:=cnt_kids x;have:=desc_trans x hx;omega⟩)
   have hmay:To (fun n=>M.r53_May n r.1) (mayF 9 0 (tkF a)):=by
    rw [hr1]
    simp only [M.r53_May]
    exact To.bind (rmay_ok 9 0 13 (tkF a) rfl (by decide) (.inl hsz)) To.pure
   refine To.bind (a:=!mayF 9 0 (tkF a)) (To.neg (by simpa using h0) (To.bind hmay To.pure)) ?_
   by_cases hm:mayF 9 0 (tkF a)=true
   ·rw [hm]
    have hml:=mlines_ok (tkF a) hsz (by omega)
    unfold mlF at hml
    rw [if_pos hm] at hml
    obtain ⟨q1,q2⟩:=tk_lines 9 0 a hm
    have hlens:=lin_lens 9 0 13 (tkF a) rfl (by decide) hm hsz
    have hml':To (fun n=>M.markup_Lines n r.1) (linF 9 0 (tkF a)):=by rw [hr1];exact hml
    exact To.neg (by decide) (To.bind hml' (To.bind (count_ok a (by omega)) (To.neg (by rw [q1];simp) (To.bind (mu1 _ q2 (fun x hx=>by have:=hlens x hx;omega) (by omega)) To.pure))))
   ·rw [show mayF 9 0 (tkF a)=false by simpa using hm]
    exact To.pos rfl To.pure
  ·exact To.bind (a:=true) (To.pos h0 To.pure) (To.pos rfl To.pure)
 ·exact To.pos (by simpa using hbt) To.pure
end Go.Proofs.YtalogjkalmkpjaaGreatDoor
