/-
  Chapter 41: rows, what lies between two units, what lies around a unit, and the steps from a unit downwards: both texts say the same.
-/
import Derived.Test.YtlegkjbldofkmaaGreatPb
set_option linter.unusedVariables false
set_option linter.unusedSimpArgs false
namespace Go.Proofs.YtlegkjbldofkmaaGreat
open Go Go.Dec
theorem found41(u:api_Unit)(hnd:((desc u).map api_Unit.Id).Nodup)(y:api_Unit)(hy:y∈desc u):findR y.Id u=(y,true):=by
 obtain ⟨z,hz⟩:=find_some y.Id u y hy rfl
 obtain ⟨h1,h2⟩:=find_mem y.Id u z hz
 unfold findR
 rw [hz]
 simp only
 rw [nodup_eq hnd h1 hy h2]
theorem path_kid{id:api_Id}(u:api_Unit):∀ w,pathO id u=some w→2≤w.length→∃ p x,w[w.length-2]? =some p∧p∈desc u∧x∈p.Kids∧x.Id=id:=by
 refine uind (P:=fun u=>∀ w,pathO id u=some w→2≤w.length→∃ p x,w[w.length-2]? =some p∧p∈desc u∧x∈p.Kids∧x.Id=id) ?_ u
 intro u ih w hw h2
 by_cases hid:u.Id=id
 ·rw [path_self hid] at hw
  cases hw
  simp at h2
 ·obtain ⟨_,v,hv,rfl⟩:=path_two hid hw
  obtain ⟨k,hk,he⟩:=List.exists_of_findSome?_eq_some hv
  by_cases h3:2≤v.length
  ·obtain ⟨p,x,q1,q2,q3,q4⟩:=ih k hk v he h3
   refine ⟨p,x,?_,desc_kid hk q2,q3,q4⟩
   rw [List.length_cons,show v.length+1-2=(v.length-2)+1 by omega,List.getElem?_cons_succ]
   exact q1
  ·have hpos:=List.length_pos_iff.2 (path_ne id k v he)
   have h1:v.length=1:=by omega
   have hkid:k.Id=id:=by
    by_cases hki:k.Id=id
    ·exact hki
    ·have:=(path_two hki he).1;omega
   match v,h1 with
   | [a],_=>exact ⟨u,k,rfl,desc_self u,hk,hkid⟩
theorem row_ok41(id:api_Id)(u:api_Unit)(hc:cnt u≤10000)(hl:labs u)(hnd:((desc u).map api_Unit.Id).Nodup) :
  ∃ x i ok,To (fun n=>M.resolve_row n u id) (x,i,ok)∧((ok=false∧ ∀ p i,¬ isPar u id p i)∨(ok=true∧ ∃ j:Nat,i=(j:Int)∧isPar u id x j)):=by
 have hrow:To (fun n=>M.resolve_row n u id) ((findR (parR id u).1 u).1,(parR id u).2.1,(parR id u).2.2):=by
  simp only [M.resolve_row]
  exact To.bind (par_u id u hc) (To.bind (find_u _ u hc hl) To.pure)
 refine ⟨_,_,_,hrow,?_⟩
 unfold parR
 cases hp:pathO id u with
 | none=>
  refine .inl ⟨rfl,?_⟩
  rintro p i ⟨hp1,k,hk,hkid⟩
  obtain ⟨y,hy⟩:=find_some id u k (desc_sub hp1 k (mem_desc_kids (List.mem_of_getElem? hk))) hkid
  rw [(path_none hp).2] at hy
  cases hy
 | some w=>
  simp only
  by_cases h2:2≤w.length
  ·obtain ⟨p,q0,q1,q2,q3⟩:=par_path id u w hp h2
   obtain ⟨p',x,r1,r2,r3,r4⟩:=path_kid u w hp h2
   rw [q1] at r1
   cases r1
   refine .inr ?_
   rw [q3]
   simp only
   rw [found41 u hnd p q0]
   refine ⟨trivial,placeK id p.Kids,rfl,q0,?_⟩
   have hlt:placeK id p.Kids<p.Kids.length:=List.findIdx_lt_length_of_exists (List.any_eq_true.1 q2)
   have hat:(pathO id p.Kids[placeK id p.Kids]).isSome=true:=List.findIdx_getElem (w:=hlt)
   obtain ⟨v,hv⟩:=Option.isSome_iff_exists.1 hat
   obtain ⟨y,hy⟩:=path_find hv
   obtain ⟨hy1,hy2⟩:=find_mem _ _ y hy
   obtain ⟨m,hm⟩:=List.getElem?_of_mem r3
   have hndp:((desc p).map api_Unit.Id).Nodup:=by
    -- a part of the tree has distinct IDs too
    have:∀ u:api_Unit,((desc u).map api_Unit.Id).Nodup→∀ p,p∈desc u→((desc p).map api_Unit.Id).Nodup:=by
     intro u
     refine uind (P:=fun u=>((desc u).map api_Unit.Id).Nodup→∀ p,p∈desc u→((desc p).map api_Unit.Id).Nodup) ?_ u
     intro u ih h p hp
     have hp0:=hp
     rw [desc_eq] at hp
     rcases List.mem_cons.1 hp with rfl | hp
     ·exact h
     ·obtain ⟨c,hc',hpc⟩:=List.mem_flatMap.1 hp
      exact ih c hc' (nodup_kid h hc') p hpc
    exact this u hnd p q0
   have:=kids_index hndp hm (List.getElem?_eq_getElem hlt) (desc_self x) hy1 (by rw [r4,hy2])
   subst this
   exact ⟨x,hm,r4⟩
  ·have hpos:=List.length_pos_iff.2 (path_ne id u w hp)
   have huid:u.Id=id:=by
    by_cases h:u.Id=id
    ·exact h
    ·have:=(path_two h hp).1;omega
   have hw:w= [u]:=by rw [path_self huid] at hp;exact (Option.some.inj hp).symm
   subst hw
   refine .inl ⟨rfl,?_⟩
   rintro p i ⟨hp1,k,hk,hkid⟩
   have hkm:=List.mem_of_getElem? hk
   have hku:=nodup_eq hnd (desc_sub hp1 k (mem_desc_kids hkm)) (desc_self u) (by rw [hkid,huid])
   subst hku
   have h1:=cnt_sub hp1
   have h2:=cnt_kid hkm
   omega
theorem rows(id:api_Id)(u:api_Unit)(hc:cnt u≤10000)(hl:labs u)(hnd:((desc u).map api_Unit.Id).Nodup) :
  ∃ x i ok r,To (fun n=>M.resolve_row n u id) (x,i,ok)∧To (fun n=>M.r23_Parent n u id) r∧
   ((ok=false∧r.2.2= -1∧ ∀ p i,¬ isPar u id p i)∨(ok=true∧ ∃ j:Nat,i=(j:Int)∧r.2.2=(j:Int)∧r.1=x∧isPar u id x j)):=by
 obtain ⟨x,i,ok,h1,h2⟩:=row_ok41 id u hc hl hnd
 obtain ⟨r,h3,_,_,h4⟩:=par_r23 id u hc
 refine ⟨x,i,ok,r,h1,h3,?_⟩
 rcases h2 with ⟨e,h2⟩ | ⟨e,j,e2,h2⟩
 ·rcases h4 with ⟨e3,h4⟩ | ⟨j,e3,h4⟩
  ·exact .inl ⟨e,e3,h4⟩
  ·exact (h2 _ _ h4).elim
 ·rcases h4 with ⟨e3,h4⟩ | ⟨j',e3,h4⟩
  ·exact (h4 _ _ h2).elim
  ·obtain ⟨e4,e5⟩:=par_unique u hnd _ _ _ _ h4 h2
   exact .inr ⟨e,j,e2,by rw [e3,e5],e4,h2⟩
def betwL(p:api_Unit)(i j:Nat)(kd:Int):List api_Id:=(((p.Kids.take (j+1)).drop i).filter (fun k=>decide (k.Kind=kd))).map api_Unit.Id
theorem betw_loop(x:api_Unit)(i:Int)(ok:Bool)(v:api_Unit)(hv:idx x.Kids i=some v):∀ (xs:List api_Unit) (out:List api_Id),out.length+xs.length≤lim38→
  M.resolve_Between_loop1 (x,i,ok) xs out=some (out++(xs.filter (fun k=>decide (k.Kind=v.Kind))).map api_Unit.Id)
 | [],out,_=>by simp [M.resolve_Between_loop1]
 | e :: xs,out,h=>by
  simp only [List.length_cons] at h
  simp only [M.resolve_Between_loop1,hv,Option.bind_some]
  by_cases hk:e.Kind=v.Kind
  ·rw [if_pos hk,appC_eq (by unfold lim38 at h;simp;omega),Option.bind_some,betw_loop x i ok v hv xs (out++ [e.Id]) (by simp;omega)]
   simp [hk]
  ·rw [if_neg hk,betw_loop x i ok v hv xs out (by omega)]
   simp [hk]
theorem betw_r(q r:api_Unit×Int×Int)(i j:Nat)(v:api_Unit)(hq:q.2.2=(i:Int))(hr:r.2.2=(j:Int))(hv:idx q.1.Kids (i:Int)=some v)(hj:j<q.1.Kids.length)(hb:q.1.Kids.length≤10000) :
  ∀ (d k:Nat) (out:List api_Id),j+1-k≤d→k≤j+1→out.length+d≤100000→To (fun n=>M.r41_Between_loop1 q r n out (k:Int)) (out++(((q.1.Kids.take (j+1)).drop k).filter (fun y=>decide (y.Kind=v.Kind))).map api_Unit.Id):=by
 intro d
 induction d with
 | zero=>
  intro k out hd hk ho
  have:k=j+1:=by omega
  subst this
  refine To.succ ?_
  simp only [M.r41_Between_loop1]
  refine To.neg (by rw [hr];omega) (To.pure.of ?_)
  rw [List.drop_eq_nil_of_le (by simp;omega)]
  simp
 | succ d ih=>
  intro k out hd hk ho
  by_cases hkj:k=j+1
  ·subst hkj
   refine To.succ ?_
   simp only [M.r41_Between_loop1]
   refine To.neg (by rw [hr];omega) (To.pure.of ?_)
   rw [List.drop_eq_nil_of_le (by simp;omega)]
   simp
  ·have hlt:k<q.1.Kids.length:=by omega
   have hx:=idx_getElem hlt
   have hdrop:(q.1.Kids.take (j+1)).drop k=q.1.Kids[k] :: (q.1.Kids.take (j+1)).drop (k+1):=by
    rw [List.drop_eq_getElem_cons (by simp;omega),List.getElem_take]
   have hadd:addC (k:Int) 1=some ((k+1:Nat):Int):=addC_succ (by omega)
   refine To.succ ?_
   simp only [M.r41_Between_loop1]
   rw [hdrop,hq]
   refine To.pos (by rw [hr];omega) (To.bindS hx (To.bindS hv ?_))
   by_cases hkk:q.1.Kids[k].Kind=v.Kind
   ·refine To.pos hkk (To.bindS hx (To.bindS (appC_eq (by simp;omega)) (To.bindS hadd ?_)))
    exact (ih (k+1) (out++ [q.1.Kids[k].Id]) (by omega) (by omega) (by simp;omega)).of (by simp [hkk])
   ·refine To.neg hkk (To.bindS hadd ?_)
    exact (ih (k+1) out (by omega) (by omega) (by omega)).of (by simp [hkk])
theorem kids_len{u p:api_Unit}(h:p∈desc u):p.Kids.length<cnt u:=by
 have h1:=cnt_kids p
 have h2:=cnt_sub h
 omega
theorem between_ok(a b:api_Id)(u:api_Unit)(hc:cnt u≤10000)(hl:labs u)(hnd:((desc u).map api_Unit.Id).Nodup) :
  ∃ l,To (fun n=>M.resolve_Between n u a b) l∧To (fun n=>M.r41_Between n u a b) l∧
   ∀ p i j ka kb,isPar u a p i→isPar u b p j→i≤j→p.Kids[i]? =some ka→p.Kids[j]? =some kb→ka.Kind=kb.Kind→l=betwL p i j ka.Kind:=by
 obtain ⟨x,i,ok,r,h1,h2,h3⟩:=rows a u hc hl hnd
 obtain ⟨y,j,ok',q,g1,g2,g3⟩:=rows b u hc hl hnd
 rcases h3 with ⟨rfl,e1,no1⟩ | ⟨rfl,i,rfl,e2,e3,p1⟩
 ·refine ⟨[],?_,?_,fun p i j ka kb hp _ _ _ _ _=>(no1 _ _ hp).elim⟩
  ·simp only [M.resolve_Between];exact To.bind h1 (To.bind g1 (To.pos rfl To.pure))
  ·simp only [M.r41_Between];exact To.bind h2 (To.bind g2 (To.pos (by rw [e1];omega) To.pure))
 ·rcases g3 with ⟨rfl,e1,no1⟩ | ⟨rfl,j,rfl,f2,f3,p2⟩
  ·refine ⟨[],?_,?_,fun p i j ka kb _ hp _ _ _ _=>(no1 _ _ hp).elim⟩
   ·simp only [M.resolve_Between];exact To.bind h1 (To.bind g1 (To.neg (by simp) (To.pos rfl To.pure)))
   ·simp only [M.r41_Between];exact To.bind h2 (To.bind g2 (To.neg (by rw [e2];omega) (To.pos (by rw [e1,e2];omega) To.pure)))
  ·obtain ⟨ka,hka,hka2⟩:=p1.2
   obtain ⟨kb,hkb,hkb2⟩:=p2.2
   have hxl:=kids_len p1.1
   have hyl:=kids_len p2.1
   by_cases hlt:j<i
   ·refine ⟨[],?_,?_,fun p i' j' ka' kb' hp hp' hle _ _ _=>?_⟩
    ·simp only [M.resolve_Between]
     refine To.bind h1 (To.bind g1 (To.neg (by simp) (To.neg (by simp) (To.ite (fun _=>To.pure) fun _=>To.pos (by simp;omega) To.pure))))
    ·simp only [M.r41_Between]
     exact To.bind h2 (To.bind g2 (To.neg (by rw [e2];omega) (To.pos (by rw [e2,f2];omega) To.pure)))
    ·have:=(par_unique u hnd _ _ _ _ hp p1).2
     have:=(par_unique u hnd _ _ _ _ hp' p2).2
     omega
   ·by_cases hid:x.Id=y.Id
    ·have hxy:x=y:=nodup_eq hnd p1.1 p2.1 hid
     subst hxy
     have hia:idx x.Kids (i:Int)=some ka:=by rw [idx_nat];exact hka
     have hib:idx x.Kids (j:Int)=some kb:=by rw [idx_nat];exact hkb
     have hjl:=(List.getElem?_eq_some_iff.1 hkb).1
     by_cases hk:ka.Kind=kb.Kind
     ·refine ⟨betwL x i j ka.Kind,?_,?_,fun p i' j' ka' kb' hp hp' hle hka' hkb' _=>?_⟩
      ·simp only [M.resolve_Between]
       refine To.bind h1 (To.bind g1 (To.neg (by simp) (To.neg (by simp) (To.neg (by simp) (To.neg (by simp;omega) (To.bindS hia (To.bindS hib (To.neg (by simp [hk]) (To.bindS (addC_succ (by omega)) (To.bindS (a:=(x.Kids.take (j+1)).drop i) ?_ ?_))))))))))
       ·show slc x.Kids (i:Int) ((j+1:Nat):Int)=_
        unfold slc
        rw [if_pos ⟨by omega,by omega,by omega⟩]
        simp
       ·refine To.bindS (betw_loop x (i:Int) true ka hia _ [] ?_) (To.pure.of ?_)
        ·unfold lim38;simp;omega
        ·rfl
      ·simp only [M.r41_Between]
       have hr1:r.1=x:=e3
       have hq1:q.1=x:=f3
       refine To.bind h2 (To.bind g2 (To.neg (by rw [e2];omega) (To.neg (by rw [e2,f2];omega) (To.neg (by rw [hr1,hq1];simp) ?_))))
       rw [e2,f2,hr1]
       refine To.bindS hia (To.bindS hib (To.neg (by simp [hk]) (To.bind ?_ To.pure)))
       have:=betw_r r q i j ka e2 f2 (by rw [hr1];exact hia) (by rw [hr1];exact hjl) (by rw [hr1];omega) (j+1-i) i [] (by omega) (by omega) (by simp;omega)
       rw [hr1] at this
       exact this.of (by simp [betwL])
      ·obtain ⟨e5,e6⟩:=par_unique u hnd _ _ _ _ hp p1
       obtain ⟨e7,e8⟩:=par_unique u hnd _ _ _ _ hp' p2
       subst e5 e6 e8
       rw [hka] at hka'
       cases hka'
       rfl
     ·refine ⟨[],?_,?_,fun p i' j' ka' kb' hp hp' hle hka' hkb' hk'=>?_⟩
      ·simp only [M.resolve_Between]
       exact To.bind h1 (To.bind g1 (To.neg (by simp) (To.neg (by simp) (To.neg (by simp) (To.neg (by simp;omega) (To.bindS hia (To.bindS hib (To.pos (by simp [hk]) To.pure))))))))
      ·simp only [M.r41_Between]
       have hr1:r.1=x:=e3
       have hq1:q.1=x:=f3
       refine To.bind h2 (To.bind g2 (To.neg (by rw [e2];omega) (To.neg (by rw [e2,f2];omega) (To.neg (by rw [hr1,hq1];simp) ?_))))
       rw [e2,f2,hr1]
       exact To.bindS hia (To.bindS hib (To.pos (by simp [hk]) To.pure))
      ·obtain ⟨e5,e6⟩:=par_unique u hnd _ _ _ _ hp p1
       obtain ⟨e7,e8⟩:=par_unique u hnd _ _ _ _ hp' p2
       subst e5 e6 e8
       rw [hka] at hka'
       rw [hkb] at hkb'
       cases hka'
       cases hkb'
       exact absurd hk' hk
    ·refine ⟨[],?_,?_,fun p i' j' ka' kb' hp hp' hle _ _ _=>?_⟩
     ·simp only [M.resolve_Between]
      exact To.bind h1 (To.bind g1 (To.neg (by simp) (To.neg (by simp) (To.pos (by simpa using hid) To.pure))))
     ·simp only [M.r41_Between]
      have hr1:r.1=x:=e3
      have hq1:q.1=y:=f3
      exact To.bind h2 (To.bind g2 (To.neg (by rw [e2];omega) (To.neg (by rw [e2,f2];omega) (To.pos (by rw [hr1,hq1];exact hid) To.pure))))
     ·have e5:=(par_unique u hnd _ _ _ _ hp p1).1
      have e6:=(par_unique u hnd _ _ _ _ hp' p2).1
      subst e5
      exact absurd (by rw [e6]) hid
end Go.Proofs.YtlegkjbldofkmaaGreat
