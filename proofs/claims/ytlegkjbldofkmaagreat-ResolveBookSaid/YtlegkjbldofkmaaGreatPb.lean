/-
  Chapter 41: units above a unit, their parents and the kids between two of them; what is found by both texts is the same.
-/
import Derived.Test.YtlegkjbldofkmaaGreatPa
set_option linter.unusedVariables false
set_option linter.unusedSimpArgs false
namespace Go.Proofs.YtlegkjbldofkmaaGreat
open Go Go.Dec
theorem book41(u:api_Unit):∃ b,To (fun n=>M.law41_book n u) b∧(b=true→cnt u≤30∧labs u∧Good u):=by
 obtain ⟨b,hb,hbk⟩:=few_ok u 30 (by omega) (by omega)
 cases b with
 | false=>exact ⟨false,by simp only [M.law41_book];exact To.bind hb (To.neg (by simp) To.pure),fun h=>by cases h⟩
 | true=>
  obtain ⟨hc,hl⟩:=hbk rfl
  obtain ⟨c,hs⟩:=stands_tot u (by omega) hl
  exact ⟨c,by simp only [M.law41_book];exact To.bind hb (To.pos rfl (To.bind hs To.pure)),fun h=>⟨by omega,hl,stands_good u (by omega) hl (h▸hs)⟩⟩
def getR(id:api_Id)(u:api_Unit):api_Unit×Int:=match pathO id u with
 | some w=>((w.getLast?).getD zapi_Unit,(w.length:Int)-1)
 | none=>(zapi_Unit,-1)
theorem get_r23(id:api_Id)(u:api_Unit):cnt u≤10000→To (fun n=>M.r23_Get n u id) (getR id u):=by
 refine uind (P:=fun u=>cnt u≤10000→To (fun n=>M.r23_Get n u id) (getR id u)) ?_ u
 intro u ih hc
 have loop:∀ (xs:List api_Unit) (slf:Nat→api_Unit→api_Id→Option (api_Unit×Int)) (i:Nat) (v:api_Unit),u.Kids.drop i=xs→(∀ k,k∈xs→cnt k≤10000∧To (fun n=>slf n k id) (getR id k))→
   To (fun n=>M.r23_Get_loop1 u id (slf n) n (i:Int) v) (match xs.findSome? (pathO id) with | none=>.inl v | some w=>.inr ((w.getLast?).getD zapi_Unit,(w.length:Int))):=by
  intro xs
  induction xs with
  | nil=>
   intro slf i v hx _
   refine To.succ ?_
   simp only [M.r23_Get_loop1]
   exact To.neg (drop_end hx) To.pure
  | cons x xs ih=>
   intro slf i v hx hs
   obtain ⟨h0,h1⟩:=hs x (by simp)
   refine To.succ ?_
   simp only [M.r23_Get_loop1]
   refine To.pos (drop_lt hx) (To.bindS (drop_idx hx) (To.bind h1.shift ?_))
   unfold getR
   rw [List.findSome?_cons]
   cases hp:pathO id x with
   | none=>
    refine To.neg (by simp) ?_
    rw [cast_succ]
    exact ih (fun n=>slf (n+1)) (i+1) v (drop_next hx) fun k hk=>⟨(hs k (by simp [hk])).1,(hs k (by simp [hk])).2.shift⟩
   | some w=>
    have hpos:=List.length_pos_iff.2 (path_ne id x w hp)
    have hlen:=path_len id x w hp
    simp only
    exact To.pos (by omega) (To.bindS (addC_eq (by omega) (by omega)) (To.pure.of (by simp)))
 refine To.succ ?_
 simp only [M.r23_Get]
 by_cases hid:u.Id=id
 ·exact To.pos hid (To.pure.of (by unfold getR;rw [path_self hid];rfl))
 ·refine To.neg hid (To.bind (loop u.Kids (fun n=>M.r23_Get n) 0 zapi_Unit rfl fun k hk=>⟨by have:=cnt_kid hk;omega,ih k hk (by have:=cnt_kid hk;omega)⟩) ?_)
  unfold getR
  rw [pathO_eq,if_neg hid]
  cases hf:u.Kids.findSome? (pathO id) with
  | none=>exact To.pure
  | some w=>
   obtain ⟨k,hk,he⟩:=List.exists_of_findSome?_eq_some hf
   have hne:=path_ne id k w he
   refine To.pure.of ?_
   cases w with
   | nil=>exact absurd rfl hne
   | cons a b=>simp [List.getLast?_cons_cons]
theorem path_end{id:api_Id}{u:api_Unit}{w:List api_Unit}(h:pathO id u=some w):∃ x,w.getLast? =some x∧findO id u=some x:=by
 obtain ⟨x,hx⟩:=path_find h
 refine ⟨x,?_,hx⟩
 rw [path_last,h] at hx
 exact hx
theorem get_find(id:api_Id)(u:api_Unit):(getR id u).1=(findR id u).1:=by
 unfold getR findR
 cases hp:pathO id u with
 | none=>rw [(path_none hp).2]
 | some w=>
  obtain ⟨x,h1,h2⟩:=path_end hp
  rw [h2]
  simp only [h1,Option.getD_some]
theorem get_is(id:api_Id)(u:api_Unit):decide (0≤(getR id u).2)=(findR id u).2:=by
 unfold getR findR
 cases hp:pathO id u with
 | none=>rw [(path_none hp).2];rfl
 | some w=>
  obtain ⟨x,h1,h2⟩:=path_end hp
  have:=List.length_pos_iff.2 (path_ne id u w hp)
  rw [h2]
  simp only [decide_eq_true_eq]
  omega
def isPar(u:api_Unit)(id:api_Id)(p:api_Unit)(i:Nat):Prop:=p∈desc u∧ ∃ k,p.Kids[i]? =some k∧k.Id=id
theorem kids_pw{u:api_Unit}(h:((desc u).map api_Unit.Id).Nodup):u.Kids.Pairwise (fun a b=>∀ x,x∈desc a→∀ y,y∈desc b→x.Id≠y.Id):=by
 rw [desc_eq,List.map_cons,List.nodup_cons] at h
 have h2:=h.2
 rw [List.map_flatMap] at h2
 have h3:=(List.pairwise_flatMap.1 h2).2
 refine h3.imp ?_
 intro a b hab x hx y hy
 exact hab _ (List.mem_map_of_mem hx) _ (List.mem_map_of_mem hy)
theorem kids_index{u a b x y:api_Unit}(h:((desc u).map api_Unit.Id).Nodup){i j:Nat}(hi:u.Kids[i]? =some a)(hj:u.Kids[j]? =some b)(hx:x∈desc a)(hy:y∈desc b)(he:x.Id=y.Id):i=j:=by
 obtain ⟨hi1,hi2⟩:=List.getElem?_eq_some_iff.1 hi
 obtain ⟨hj1,hj2⟩:=List.getElem?_eq_some_iff.1 hj
 have hp:=List.pairwise_iff_getElem.1 (kids_pw h)
 rcases Nat.lt_trichotomy i j with hlt | heq | hgt
 ·exact absurd he (hp i j hi1 hj1 hlt x (by rw [hi2];exact hx) y (by rw [hj2];exact hy))
 ·exact heq
 ·exact absurd he.symm (hp j i hj1 hi1 hgt y (by rw [hj2];exact hy) x (by rw [hi2];exact hx))
theorem par_unique{id:api_Id}(u:api_Unit):((desc u).map api_Unit.Id).Nodup→∀ p q i j,isPar u id p i→isPar u id q j→p=q∧i=j:=by
 refine uind (P:=fun u=>((desc u).map api_Unit.Id).Nodup→∀ p q i j,isPar u id p i→isPar u id q j→p=q∧i=j) ?_ u
 intro u ih hnd p q i j hp hq
 -- one of them is the root of this tree, the other lies below a kid
 have mixed:∀ (i:Nat) (k:api_Unit),u.Kids[i]? =some k→k.Id=id→∀ (c q k':api_Unit) (j:Nat),c∈u.Kids→q∈desc c→q.Kids[j]? =some k'→k'.Id=id→False:=by
  intro i k hk hkid c q k' j hc hq hk' hkid'
  obtain ⟨m,hm⟩:=List.getElem?_of_mem hc
  have hk'm:k'∈q.Kids:=List.mem_of_getElem? hk'
  have hk'c:k'∈desc c:=desc_sub hq k' (mem_desc_kids hk'm)
  have:=kids_index hnd hk hm (desc_self k) hk'c (by rw [hkid,hkid'])
  subst this
  rw [hk] at hm
  cases hm
  have he:=nodup_eq (nodup_kid hnd hc) hk'c (desc_self k) (by rw [hkid',hkid])
  subst he
  have h1:=cnt_sub hq
  have h2:=cnt_kid hk'm
  omega
 obtain ⟨hp1,k,hk,hkid⟩:=hp
 obtain ⟨hq1,k',hk',hkid'⟩:=hq
 rw [desc_eq] at hp1 hq1
 rcases List.mem_cons.1 hp1 with rfl | hp2
 ·rcases List.mem_cons.1 hq1 with rfl | hq2
  ·exact ⟨rfl,kids_index hnd hk hk' (desc_self k) (desc_self k') (by rw [hkid,hkid'])⟩
  ·obtain ⟨c,hc,hqc⟩:=List.mem_flatMap.1 hq2
   exact (mixed i k hk hkid c q k' j hc hqc hk' hkid').elim
 ·obtain ⟨c,hc,hpc⟩:=List.mem_flatMap.1 hp2
  rcases List.mem_cons.1 hq1 with rfl | hq2
  ·exact (mixed j k' hk' hkid' c p k i hc hpc hk hkid).elim
  ·obtain ⟨d,hd,hqd⟩:=List.mem_flatMap.1 hq2
   obtain ⟨m,hm⟩:=List.getElem?_of_mem hc
   obtain ⟨m',hm'⟩:=List.getElem?_of_mem hd
   have h1:k∈desc c:=desc_sub hpc k (mem_desc_kids (List.mem_of_getElem? hk))
   have h2:k'∈desc d:=desc_sub hqd k' (mem_desc_kids (List.mem_of_getElem? hk'))
   have:=kids_index hnd hm hm' h1 h2 (by rw [hkid,hkid'])
   subst this
   rw [hm] at hm'
   cases hm'
   exact ih c hc (nodup_kid hnd hc) p q i j ⟨hpc,k,hk,hkid⟩ ⟨hqd,k',hk',hkid'⟩
theorem par_r23(id:api_Id)(u:api_Unit):cnt u≤10000→∃ r,To (fun n=>M.r23_Parent n u id) r∧0≤r.2.1∧r.2.1≤cnt u∧((r.2.2= -1∧ ∀ p i,¬ isPar u id p i)∨ ∃ i:Nat,r.2.2=(i:Int)∧isPar u id r.1 i):=by
 refine uind (P:=fun u=>cnt u≤10000→∃ r,To (fun n=>M.r23_Parent n u id) r∧0≤r.2.1∧r.2.1≤cnt u∧((r.2.2= -1∧ ∀ p i,¬ isPar u id p i)∨ ∃ i:Nat,r.2.2=(i:Int)∧isPar u id r.1 i)) ?_ u
 intro u ih hc
 have loop1:∀ (xs:List api_Unit) (i:Nat) (v:api_Unit),u.Kids.drop i=xs→
   (∃ (j:Nat) (k:api_Unit),To (fun n=>M.r23_Parent_loop1 u id n (i:Int) v) (.inr (u,0,(j:Int)))∧u.Kids[j]? =some k∧k.Id=id)∨
   (To (fun n=>M.r23_Parent_loop1 u id n (i:Int) v) (.inl v)∧ ∀ k,k∈xs→k.Id≠id):=by
  intro xs
  induction xs with
  | nil=>
   intro i v hx
   refine .inr ⟨To.succ ?_,fun k hk=>by cases hk⟩
   simp only [M.r23_Parent_loop1]
   exact To.neg (drop_end hx) To.pure
  | cons x xs ih=>
   intro i v hx
   by_cases hid:x.Id=id
   ·refine .inl ⟨i,x,To.succ ?_,(drop_cons hx).2.1,hid⟩
    simp only [M.r23_Parent_loop1]
    exact To.pos (drop_lt hx) (To.bindS (drop_idx hx) (To.pos hid To.pure))
   ·rcases ih (i+1) v (drop_next hx) with ⟨j,k,h1,h2,h3⟩ | ⟨h1,h2⟩
    ·refine .inl ⟨j,k,To.succ ?_,h2,h3⟩
     simp only [M.r23_Parent_loop1]
     rw [cast_succ]
     exact To.pos (drop_lt hx) (To.bindS (drop_idx hx) (To.neg hid h1))
    ·refine .inr ⟨To.succ ?_,fun k hk=>?_⟩
     ·simp only [M.r23_Parent_loop1]
      rw [cast_succ]
      exact To.pos (drop_lt hx) (To.bindS (drop_idx hx) (To.neg hid h1))
     ·rcases List.mem_cons.1 hk with rfl | hk
      ·exact hid
      ·exact h2 k hk
 have loop2:∀ (xs:List api_Unit) (slf:Nat→api_Unit→api_Id→Option (api_Unit×Int×Int)) (i:Nat) (v:api_Unit),u.Kids.drop i=xs→
   (∀ k,k∈xs→∃ r,To (fun n=>slf n k id) r∧0≤r.2.1∧r.2.1≤cnt k∧cnt k≤10000∧((r.2.2= -1∧ ∀ p i,¬ isPar k id p i)∨ ∃ i:Nat,r.2.2=(i:Int)∧isPar k id r.1 i))→
   (∃ (r:api_Unit×Int×Int) (k:api_Unit),k∈xs∧To (fun n=>M.r23_Parent_loop2 u id (slf n) n (i:Int) v) (.inr (r.1,r.2.1+1,r.2.2))∧0≤r.2.1∧r.2.1≤cnt k∧ ∃ i:Nat,r.2.2=(i:Int)∧isPar k id r.1 i)∨
   (To (fun n=>M.r23_Parent_loop2 u id (slf n) n (i:Int) v) (.inl v)∧ ∀ k,k∈xs→∀ p i,¬ isPar k id p i):=by
  intro xs
  induction xs with
  | nil=>
   intro slf i v hx _
   refine .inr ⟨To.succ ?_,fun k hk=>by cases hk⟩
   simp only [M.r23_Parent_loop2]
   exact To.neg (drop_end hx) To.pure
  | cons x xs ih=>
   intro slf i v hx hs
   obtain ⟨r,hr,hr0,hr1,hr2,hor⟩:=hs x (by simp)
   rcases hor with ⟨e,hno⟩ | ⟨j,e,hj⟩
   ·have hneg:¬ 0≤r.2.2:=by omega
    rcases ih (fun n=>slf (n+1)) (i+1) v (drop_next hx) (fun k hk=>by
      obtain ⟨r,h1,h2⟩:=hs k (by simp [hk])
      exact ⟨r,h1.shift,h2⟩) with ⟨r',k,hk,h1,h2⟩ | ⟨h1,h2⟩
    ·refine .inl ⟨r',k,by simp [hk],To.succ ?_,h2⟩
     simp only [M.r23_Parent_loop2]
     rw [cast_succ]
     exact To.pos (drop_lt hx) (To.bindS (drop_idx hx) (To.bind hr.shift (To.neg hneg h1)))
    ·refine .inr ⟨To.succ ?_,fun k hk=>?_⟩
     ·simp only [M.r23_Parent_loop2]
      rw [cast_succ]
      exact To.pos (drop_lt hx) (To.bindS (drop_idx hx) (To.bind hr.shift (To.neg hneg h1)))
     ·rcases List.mem_cons.1 hk with rfl | hk
      ·exact hno
      ·exact h2 k hk
   ·refine .inl ⟨r,x,by simp,To.succ ?_,hr0,hr1,j,e,hj⟩
    simp only [M.r23_Parent_loop2]
    exact To.pos (drop_lt hx) (To.bindS (drop_idx hx) (To.bind hr.shift (To.pos (by omega) (To.bindS (addC_eq (by omega) (by omega)) To.pure))))
 have hpos:=cnt_pos u
 rcases loop1 u.Kids 0 zapi_Unit rfl with ⟨j,k,h1,h2,h3⟩ | ⟨h1,h2⟩
 ·refine ⟨(u,0,(j:Int)),To.succ ?_,by simp,by simp,.inr ⟨j,rfl,desc_self u,k,h2,h3⟩⟩
  simp only [M.r23_Parent]
  exact To.bind h1 To.pure
 ·rcases loop2 u.Kids (fun n=>M.r23_Parent n) 0 zapi_Unit rfl (fun k hk=>by
   have hck:=cnt_kid hk
   obtain ⟨r,a,b,c,d⟩:=ih k hk (by omega)
   exact ⟨r,a,b,c,by omega,d⟩) with ⟨r,k,hk,h3,h4,h5,i,h6,h7⟩ | ⟨h3,h4⟩
  ·have hck:=cnt_kid hk
   refine ⟨(r.1,r.2.1+1,r.2.2),To.succ ?_,by simp;omega,by simp;omega,.inr ⟨i,h6,desc_kid hk h7.1,h7.2⟩⟩
   simp only [M.r23_Parent]
   exact To.bind h1 (To.bind h3 To.pure)
  ·refine ⟨(zapi_Unit,0,-1),To.succ ?_,by simp,by simp,.inl ⟨rfl,?_⟩⟩
   ·simp only [M.r23_Parent]
    exact To.bind h1 (To.bind h3 To.pure)
   ·rintro p i ⟨hp,k,hk,hkid⟩
    rw [desc_eq] at hp
    rcases List.mem_cons.1 hp with rfl | hp
    ·exact h2 k (List.mem_of_getElem? hk) hkid
    ·obtain ⟨c,hc',hpc⟩:=List.mem_flatMap.1 hp
     exact h4 c hc' p i ⟨hpc,k,hk,hkid⟩
end Go.Proofs.YtlegkjbldofkmaaGreat
