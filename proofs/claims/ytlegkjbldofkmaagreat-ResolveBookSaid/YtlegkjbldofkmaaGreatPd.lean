/-
  Chapter 41: the units above a unit, the nearest of a kind, the steps downwards, and which citations are valid.
-/
import Derived.Test.YtlegkjbldofkmaaGreatPc
set_option linter.unusedVariables false
set_option linter.unusedSimpArgs false
namespace Go.Proofs.YtlegkjbldofkmaaGreat
open Go Go.Dec
def aboveL(id:api_Id)(u:api_Unit):List api_Id:=(((pathO id u).getD []).dropLast).reverse.map api_Unit.Id
theorem ance_loop(w:List api_Unit)(hb:w.length≤10000):∀ (k:Nat) (out:List api_Id),k≤w.length→out.length+k≤20000→To (fun n=>M.unit_Ancestors_loop1 w n out ((k:Int)-1)) (out++(w.take k).reverse.map api_Unit.Id):=by
 intro k
 induction k with
 | zero=>
  intro out _ _
  refine To.succ ?_
  simp only [M.unit_Ancestors_loop1]
  exact To.neg (by omega) (To.pure.of (by simp))
 | succ k ih=>
  intro out hk ho
  have hx:=idx_getElem (l:=w) (i:=k) (by omega)
  refine To.succ ?_
  simp only [M.unit_Ancestors_loop1]
  rw [show ((k+1:Nat):Int)-1=(k:Int) by omega]
  refine To.pos (by omega) (To.bindS hx (To.bindS (appC_eq (by simp;omega)) (To.bindS (subC_eq (by omega) (by omega)) ?_)))
  refine (ih (out++ [w[k].Id]) (by omega) (by simp;omega)).of ?_
  rw [List.take_succ_eq_append_getElem (by omega),List.reverse_append,List.map_append,List.append_assoc]
  rfl
theorem ance_ok(id:api_Id)(u:api_Unit)(hc:cnt u≤10000):To (fun n=>M.unit_Ancestors n u id) (aboveL id u):=by
 unfold aboveL
 generalize hw:(pathO id u).getD []=w
 have hl:w.length≤10000:=by
  rw [←hw]
  cases hp:pathO id u with
  | none=>simp
  | some v=>have:=path_len id u v hp;simp;omega
 have hway:=way_ok id u hc
 rw [hw] at hway
 simp only [M.unit_Ancestors]
 refine To.bind hway (To.bindS (subC_eq (by omega) (by omega)) (To.bind ?_ To.pure))
 by_cases h0:w.length=0
 ·have:w= []:=List.eq_nil_of_length_eq_zero h0
  subst this
  refine To.succ ?_
  simp only [M.unit_Ancestors_loop1]
  exact To.neg (by simp) To.pure
 ·rw [show (w.length:Int)-2=((w.length-1:Nat):Int)-1 by omega]
  refine (ance_loop w hl (w.length-1) [] (by omega) (by simp;omega)).of ?_
  rw [List.dropLast_eq_take]
  simp
theorem above_ok(id:api_Id)(u:api_Unit):cnt u≤10000→To (fun n=>M.r06_Above n u id) (aboveL id u):=by
 refine uind (P:=fun u=>cnt u≤10000→To (fun n=>M.r06_Above n u id) (aboveL id u)) ?_ u
 intro u ih hc
 have loop:∀ (xs:List api_Unit) (slf:Nat→api_Unit→api_Id→Option (List api_Id)) (i:Nat),u.Kids.drop i=xs→(∀ k,k∈xs→cnt k≤10000∧To (fun n=>slf n k id) (aboveL id k))→
   To (fun n=>M.r06_Above_loop1 u id (slf n) n (i:Int)) (match xs.findSome? (pathO id) with | none=>.inl () | some w=>.inr ((w.dropLast.reverse.map api_Unit.Id)++ [u.Id])):=by
  intro xs
  induction xs with
  | nil=>
   intro slf i hx _
   refine To.succ ?_
   simp only [M.r06_Above_loop1]
   exact To.neg (drop_end hx) To.pure
  | cons x xs ih=>
   intro slf i hx hs
   obtain ⟨h0,h1⟩:=hs x (by simp)
   refine To.succ ?_
   simp only [M.r06_Above_loop1]
   refine To.pos (drop_lt hx) (To.bindS (drop_idx hx) (To.bind (find_r06 id x) ?_))
   unfold findR
   rw [List.findSome?_cons]
   cases hp:pathO id x with
   | none=>
    rw [(path_none hp).2]
    refine To.neg (by simp) ?_
    rw [cast_succ]
    exact ih (fun n=>slf (n+1)) (i+1) (drop_next hx) fun k hk=>⟨(hs k (by simp [hk])).1,(hs k (by simp [hk])).2.shift⟩
   | some w=>
    obtain ⟨y,hy⟩:=path_find hp
    have hlen:=path_len id x w hp
    rw [hy]
    have ha:aboveL id x=w.dropLast.reverse.map api_Unit.Id:=by unfold aboveL;rw [hp];rfl
    rw [ha] at h1
    exact To.pos rfl (To.bindS (drop_idx hx) (To.bind h1.shift (To.bindS (appC_eq (by simp;omega)) To.pure)))
 refine To.succ ?_
 simp only [M.r06_Above]
 by_cases hid:u.Id=id
 ·exact To.pos hid (To.pure.of (by unfold aboveL;rw [path_self hid];rfl))
 ·refine To.neg hid (To.bind (loop u.Kids (fun n=>M.r06_Above n) 0 rfl fun k hk=>⟨by have:=cnt_kid hk;omega,ih k hk (by have:=cnt_kid hk;omega)⟩) ?_)
  unfold aboveL
  rw [pathO_eq,if_neg hid]
  cases hf:u.Kids.findSome? (pathO id) with
  | none=>exact To.pure
  | some w=>
   obtain ⟨k,hk,he⟩:=List.exists_of_findSome?_eq_some hf
   have hne:=path_ne id k w he
   refine To.pure.of ?_
   simp only [Option.map_some,Option.getD_some]
   rw [List.dropLast_cons_of_ne_nil hne]
   simp
def ofKind(u:api_Unit)(kind:Int)(e:api_Id):Bool:=decide ((findR e u).1.Kind=kind)
def enclR(u:api_Unit)(id:api_Id)(kind:Int):api_Id×Bool:=
 if (findR id u).2=false then (zapi_Id,false) else match (id :: aboveL id u).find? (ofKind u kind) with
  | some e=>(e,true)
  | none=>(zapi_Id,false)
theorem encl_loop(u:api_Unit)(hc:cnt u≤10000)(hl:labs u)(kind:Int)(v:api_Id):∀ xs:List api_Id,To (fun n=>M.resolve_Enclosing_loop1 n u kind xs v) (match xs.find? (ofKind u kind) with | some e=>.inr (e,true) | none=>.inl v)
 | []=>by simp only [M.resolve_Enclosing_loop1];exact To.pure
 | e :: xs=>by
  simp only [M.resolve_Enclosing_loop1]
  refine To.bind (find_u e u hc hl) ?_
  rw [List.find?_cons]
  by_cases h:(findR e u).1.Kind=kind
  ·refine To.pos h (To.pure.of ?_)
   simp [ofKind,h]
  ·refine To.neg h ((encl_loop u hc hl kind v xs).of ?_)
   simp [ofKind,h]
theorem above_len(id:api_Id)(u:api_Unit):(aboveL id u).length≤cnt u:=by
 unfold aboveL
 cases hp:pathO id u with
 | none=>simp
 | some w=>have:=path_len id u w hp;simp;omega
theorem encl_u(u:api_Unit)(hc:cnt u≤10000)(hl:labs u)(id:api_Id)(kind:Int):To (fun n=>M.resolve_Enclosing n u id kind) (enclR u id kind):=by
 have:=above_len id u
 simp only [M.resolve_Enclosing]
 refine To.bind (find_u id u hc hl) ?_
 unfold enclR
 by_cases h:(findR id u).2=false
 ·rw [if_pos h];exact To.pos h To.pure
 ·rw [if_neg h]
  refine To.neg h (To.bind (ance_ok id u hc) (To.bindS (appC_eq (by simp;omega)) (To.bind (encl_loop u hc hl kind zapi_Id _) ?_)))
  rw [List.singleton_append]
  cases (id :: aboveL id u).find? (ofKind u kind) with
  | none=>exact To.pure
  | some e=>exact To.pure
theorem this_r(u:api_Unit)(hc:cnt u≤10000)(id:api_Id)(kind:Int):To (fun n=>M.r41_This n u id kind) (enclR u id kind):=by
 have loop:∀ (xs:List api_Id) (i:Nat) (v:api_Id),(aboveL id u).drop i=xs→To (fun n=>M.r41_This_loop1 u kind (aboveL id u) n (i:Int) v) (match xs.find? (ofKind u kind) with | some e=>.inr (e,true) | none=>.inl v):=by
  intro xs
  induction xs with
  | nil=>
   intro i v hx
   refine To.succ ?_
   simp only [M.r41_This_loop1]
   exact To.neg (drop_end hx) To.pure
  | cons x xs ih=>
   intro i v hx
   refine To.succ ?_
   simp only [M.r41_This_loop1]
   refine To.pos (drop_lt hx) (To.bindS (drop_idx hx) (To.bind (get_r23 x u hc) ?_))
   rw [get_find,List.find?_cons]
   by_cases h:(findR x u).1.Kind=kind
   ·refine To.pos h (To.bindS (drop_idx hx) (To.pure.of ?_))
    simp [ofKind,h]
   ·refine To.neg h ?_
    rw [cast_succ]
    refine (ih (i+1) v (drop_next hx)).of ?_
    simp [ofKind,h]
 simp only [M.r41_This]
 refine To.bind (get_r23 id u hc) ?_
 have hi:=get_is id u
 unfold enclR
 by_cases h:(findR id u).2=false
 ·rw [if_pos h]
  rw [h] at hi
  exact To.pos (by have:=of_decide_eq_false hi;omega) To.pure
 ·rw [if_neg h]
  have h1:(findR id u).2=true:=by simpa using h
  rw [h1] at hi
  refine To.neg (by have:=of_decide_eq_true hi;omega) ?_
  rw [get_find,List.find?_cons]
  by_cases hk:(findR id u).1.Kind=kind
  ·refine To.pos hk (To.pure.of ?_)
   simp [ofKind,hk]
  ·refine To.neg hk (To.bind (above_ok id u hc) (To.bind (loop (aboveL id u) 0 zapi_Id rfl) ?_))
   have:ofKind u kind id=false:=by simp [ofKind,hk]
   rw [this]
   cases (aboveL id u).find? (ofKind u kind) with
   | none=>exact To.pure
   | some e=>exact To.pure
theorem find_at{α:Type}(p:α→Bool):∀ l:List α,l[l.findIdx p]? =l.find? p
 | []=>rfl
 | x :: l=>by
  rw [List.findIdx_cons,List.find?_cons]
  cases hp:p x with
  | true=>simp
  | false=>simp [find_at p l]
def downL:List api_Step→api_Unit→Option api_Unit
 | [],x=>some x
 | s :: p,x=>(x.Kids.find? (fun k=>calledB k s)).bind (downL p)
def downR(u:api_Unit)(id:api_Id)(p:List api_Step):List api_Id×Int:=match downL p (findR id u).1 with
 | some x=>([x.Id],0)
 | none=>([],7)
theorem down1_eq(y:api_Unit)(s:api_Step):M.resolve_down_1 y s=some (calledB y s):=called_a y s
theorem down_loop:∀ (p:List api_Step) (x:api_Unit),To (fun n=>M.resolve_down_loop1 n p x) (match downL p x with | some y=>.inl y | none=>.inr ([],7))
 | [],x=>by simp only [M.resolve_down_loop1];exact To.pure
 | s :: p,x=>by
  simp only [M.resolve_down_loop1]
  refine To.bind (indexK x.Kids (fun k=>calledB k s) (fun _ y=>M.resolve_down_1 y s) (fun k _=>To.opt (down1_eq k s))) ?_
  have hf:=find_at (fun k=>calledB k s) x.Kids
  by_cases h:x.Kids.any (fun k=>calledB k s)=true
  ·rw [if_pos h]
   have hlt:x.Kids.findIdx (fun k=>calledB k s)< x.Kids.length:=List.findIdx_lt_length_of_exists (List.any_eq_true.1 h)
   rw [List.getElem?_eq_getElem hlt] at hf
   refine To.neg (by omega) (To.bindS (idx_getElem hlt) ((down_loop p _).of ?_))
   simp only [downL]
   rw [←hf];rfl
  ·rw [if_neg h]
   have hn:x.Kids.find? (fun k=>calledB k s)=none:=by
    rw [List.find?_eq_none]
    intro y hy hq
    exact h (List.any_eq_true.2 ⟨y,hy,hq⟩)
   refine To.pos (by omega) (To.pure.of ?_)
   simp only [downL]
   rw [hn];rfl
theorem down_u(u:api_Unit)(hc:cnt u≤10000)(hl:labs u)(id:api_Id)(p:List api_Step):To (fun n=>M.resolve_down n u id p) (downR u id p):=by
 simp only [M.resolve_down]
 refine To.bind (find_u id u hc hl) (To.bind (down_loop p _) ?_)
 unfold downR
 cases downL p (findR id u).1 with
 | none=>exact To.pure
 | some x=>exact To.pure
theorem down2_r(p:List api_Step)(i:Int)(s:api_Step)(hs:idx p i=some s)(x:api_Unit)(hb:x.Kids.length≤10000):∀ (xs:List api_Unit) (k:Nat),x.Kids.drop k=xs→
  To (fun n=>M.r41_down_loop2 p i n false (k:Int) x) (match xs.find? (fun k=>calledB k s) with | some y=>(true,y) | none=>(false,x)):=by
 intro xs
 induction xs with
 | nil=>
  intro k hx
  refine To.succ ?_
  simp only [M.r41_down_loop2]
  exact To.bind (a:=false) (To.neg (drop_end hx) To.pure) (To.neg (by simp) To.pure)
 | cons y xs ih=>
  intro k hx
  have hk:=(drop_cons hx).1
  have hadd:addC (k:Int) 1=some ((k+1:Nat):Int):=addC_succ (by omega)
  refine To.succ ?_
  simp only [M.r41_down_loop2]
  refine To.bind (a:=true) (To.pos (drop_lt hx) (To.pure.of rfl)) (To.pos rfl (To.bindS (drop_idx hx) (To.bindS hs ?_)))
  rw [List.find?_cons]
  by_cases hk1:y.Kind=s.Kind
  ·refine To.pos hk1 (To.bindS (drop_idx hx) (To.bindS hs ?_))
   cases hl1:(y.Label==s.Label) with
   | true=>
    have hcb:calledB y s=true:=by simp only [calledB];simp [hk1];simpa using hl1
    rw [hcb]
    refine To.pos rfl (To.bindS (drop_idx hx) (To.bindS hadd (To.succ ?_)))
    simp only [M.r41_down_loop2]
    exact To.bind (a:=false) (To.ite (fun _=>To.pure.of rfl) fun _=>To.pure) (To.neg (by simp) To.pure)
   | false=>
    have hcb:calledB y s=false:=by simp only [calledB];simp [hk1];simpa using hl1
    rw [hcb]
    exact To.neg (by simp) (To.bindS hadd (ih (k+1) (drop_next hx)))
  ·have hcb:calledB y s=false:=by simp only [calledB];simp [hk1]
   rw [hcb]
   exact To.neg hk1 (To.bindS hadd (ih (k+1) (drop_next hx)))
theorem down1_r(p:List api_Step)(hp:p.length≤10000):∀ (xs:List api_Step) (i:Nat) (x:api_Unit),cnt x≤10000→p.drop i=xs→
  To (fun n=>M.r41_down_loop1 p n (i:Int) x) (match downL xs x with | some y=>.inl y | none=>.inr ([],7)):=by
 intro xs
 induction xs with
 | nil=>
  intro i x _ hx
  refine To.succ ?_
  simp only [M.r41_down_loop1]
  exact To.neg (drop_end hx) To.pure
 | cons s xs ih=>
  intro i x hcx hx
  have hi:=(drop_cons hx).1
  have hkl:=cnt_kids x
  refine To.succ ?_
  simp only [M.r41_down_loop1,downL]
  refine To.pos (drop_lt hx) (To.bind (down2_r p (i:Int) s (drop_idx hx) x (by omega) x.Kids 0 rfl) ?_)
  cases hf:x.Kids.find? (fun k=>calledB k s) with
  | none=>exact To.pos rfl To.pure
  | some y=>
   have hy:=cnt_kid (List.mem_of_find?_eq_some hf)
   exact To.neg (by simp) (To.bindS (addC_succ (by omega)) (ih (i+1) y (by omega) (drop_next hx)))
theorem cnt_found(u:api_Unit)(hc:cnt u≤10000)(id:api_Id):cnt (findR id u).1≤10000:=by
 unfold findR
 cases hf:findO id u with
 | none=>rw [cnt_eq];simp [zapi_Unit]
 | some x=>have:=cnt_sub (find_mem id u x hf).1;simp only;omega
theorem down_r(u:api_Unit)(hc:cnt u≤10000)(id:api_Id)(p:List api_Step)(hp:p.length≤10000):To (fun n=>M.r41_down n u id p) (downR u id p):=by
 simp only [M.r41_down]
 refine To.bind (get_r23 id u hc) ?_
 rw [get_find]
 refine To.bind (down1_r p hp p 0 _ (cnt_found u hc id) rfl) ?_
 unfold downR
 cases downL p (findR id u).1 with
 | none=>exact To.pure
 | some x=>exact To.pure
end Go.Proofs.YtlegkjbldofkmaaGreat
