import Derived.Test.YtofaogkcifaioaaDoorPa
/-
  Chapter 11: which units are valid, by the program's text and by the plain one; copies without IDs and marks.
-/
set_option linter.unusedVariables false
set_option linter.unusedSimpArgs false
namespace Go.Proofs.YtofaogkcifaioaaDoor
open Go Go.Dec
def txts(l:List api_Word):List Str:=l.map fun w=>w.Text
def rowB(l:List api_Word):Bool:=seqB (txts l)
theorem row_loop:∀ (l:List api_Word) (t:List Str),t.length+l.length≤100000000→M.unit_row_loop1 l t=some (t++txts l)
 | [],t,_=>by simp [M.unit_row_loop1,txts]
 | w :: l,t,h=>by
  simp only [List.length_cons] at h
  simp only [M.unit_row_loop1]
  rw [appC_eq (by simp;omega),Option.bind_some,row_loop l _ (by simp;omega)]
  simp [txts]
theorem row_ok(l:List api_Word)(hl:l.length≤10000000):To (fun n=>M.unit_row n l) (rowB l):=by
 simp only [M.unit_row]
 refine To.bindS (row_loop l [] (by simp;omega)) ?_
 by_cases h:(l.length:Int)≤256
 ·exact To.pos h (To.bind (valid_w _) (To.pure.of (by simp [rowB])))
 ·refine To.neg h (To.pure.of ?_)
  have:¬ l.length≤256:=by omega
  simp [rowB,seqB,txts,this]
theorem kname(k:Int):M.unit_KindName k=some (nameOf k):=by
 unfold M.unit_KindName nameOf
 by_cases h0:k<0
 ·rw [if_pos h0]
  have:idx nm k=none:=by unfold idx;rw [if_neg (by omega)]
  rw [this];rfl
 ·rw [if_neg h0]
  by_cases h8:(8:Int)≤k
  ·rw [if_pos h8]
   have:idx nm k=none:=by
    unfold idx
    rw [if_pos (by omega)]
    exact List.getElem?_eq_none (by simp [nm];omega)
   rw [this];rfl
  ·rw [if_neg h8]
   obtain ⟨x,hx,_⟩:=idx_some (l:=nm) (i:=k) (by omega) (by simp [nm];omega)
   have:idx gv0 k=some x:=hx
   rw [this,hx];rfl
theorem name_ne{k:Int}:nameOf k= [] ↔ ¬ (0≤k∧k≤7):=by
 constructor
 ·intro h ⟨h0,h1⟩
  exact (name_no h0 h1).2 h
 ·intro h
  unfold nameOf idx
  split
  ·rename_i h0
   rw [List.getElem?_eq_none (by simp [nm];omega)];rfl
  ·rfl
theorem kind_p(s:Str):To (fun n=>M.plaintext_kind n s) (match kd s with | some k=>(k,true) | none=>(0,false)):=by
 have loop:∀ (xs:List Str) (k:Nat),nm.drop k=xs→To (fun n=>M.plaintext_kind_loop1 s n (k:Int)) (match kdF s xs k with | some j=>.inr (j,true) | none=>.inl ()):=by
  intro xs
  induction xs with
  | nil=>
   intro k hx
   have:=drop_end hx
   refine To.succ ?_
   simp only [M.plaintext_kind_loop1]
   exact To.neg this To.pure
  | cons x xs ih=>
   intro k hx
   obtain ⟨h1,h2,h3⟩:=drop_cons hx
   have h1':k<8:=h1
   have hi:idx nm (k:Int)=some x:=drop_idx hx
   have hn:nameOf (k:Int)=x:=by unfold nameOf;rw [hi];rfl
   refine To.succ ?_
   simp only [M.plaintext_kind_loop1]
   refine To.pos (by omega) (To.bindS (kname _) ?_)
   rw [hn]
   unfold kdF
   by_cases e:x=s
   ·rw [if_pos e]
    exact To.pos (by simp [e]) To.pure
   ·rw [if_neg e]
    refine To.neg (by simpa using e) (To.bindS (addC_succ (by omega)) ?_)
    exact ih (k+1) h3
 simp only [M.plaintext_kind]
 refine To.bind (loop nm 0 rfl) ?_
 show To _ (match kdF s nm 0 with | some k=>(k,true) | none=>(0,false))
 cases kdF s nm ((0:Nat):Int) with
 | none=>exact To.pure
 | some j=>exact To.pure
def nestB(p k:Int):Bool:=((idx gv2 p).getD []).contains k
theorem has_i(l:List Int)(v:Int):To (fun n=>M.slices_Contains_int_int n l v) (l.contains v):=by
 have loop:∀ (xs:List Int) (i:Nat),l.drop i=xs→∃ r,To (fun n=>M.slices_Index_int_int_loop1 l v n (i:Int)) r∧((xs.contains v=true∧ ∃ k:Nat,r= .inr (k:Int))∨(xs.contains v=false∧r= .inl ())):=by
  intro xs
  induction xs with
  | nil=>
   intro i hx
   refine ⟨.inl (),To.succ ?_,.inr ⟨rfl,rfl⟩⟩
   simp only [M.slices_Index_int_int_loop1]
   exact To.neg (drop_end hx) To.pure
  | cons x xs ih=>
   intro i hx
   by_cases hp:v=x
   ·refine ⟨.inr (i:Int),To.succ ?_,.inl ⟨by simp [hp],i,rfl⟩⟩
    simp only [M.slices_Index_int_int_loop1]
    exact To.pos (drop_lt hx) (To.bindS (drop_idx hx) (To.pos hp To.pure))
   ·obtain ⟨r,ht,hr⟩:=ih (i+1) (drop_next hx)
    have e:(x :: xs).contains v=xs.contains v:=by simp [hp]
    refine ⟨r,To.succ ?_,by rw [e];exact hr⟩
    simp only [M.slices_Index_int_int_loop1]
    rw [cast_succ]
    exact To.pos (drop_lt hx) (To.bindS (drop_idx hx) (To.neg hp ht))
 obtain ⟨r,ht,hr⟩:=loop l 0 rfl
 simp only [M.slices_Contains_int_int,M.slices_Index_int_int]
 rcases hr with ⟨ha,k,rfl⟩ | ⟨ha,rfl⟩
 ·refine To.bind (a:=(k:Int)) (To.bind ht To.pure) (To.pure.of ?_)
  rw [ha];simp
 ·refine To.bind (a:=(-1:Int)) (To.bind ht To.pure) (To.pure.of ?_)
  rw [ha];simp
theorem nest_p(p k:Int):To (fun n=>M.unit_CanContain n p k) (nestB p k):=by
 simp only [M.unit_CanContain]
 by_cases h0:(0:Int)≤p
 ·by_cases h8:p<8
  ·obtain ⟨x,hx,_⟩:=idx_some (l:=gv2) (i:=p) h0 (by simp [gv2];omega)
   refine To.pos h0 (To.pos h8 (To.bindS hx (To.bind (has_i x k) (To.pure.of ?_))))
   unfold nestB;rw [hx];rfl
  ·refine To.pos h0 (To.neg h8 (To.pure.of ?_))
   have:idx gv2 p=none:=by unfold idx;rw [if_pos h0];exact List.getElem?_eq_none (by simp [gv2];omega)
   unfold nestB;rw [this];rfl
 ·refine To.neg h0 (To.pure.of ?_)
  have:idx gv2 p=none:=by unfold idx;rw [if_neg h0]
  unfold nestB;rw [this];rfl
def aloB(u:api_Unit):Bool:=
 if u.Kind=0 then (u.Label== []) && (u.Head.length==0) && (u.Words.length==0)
 else decide (1≤u.Kind) && decide (u.Kind≤7) && labB u.Label && rowB u.Head && rowB u.Words
def keyU(u:api_Unit):Int×Str:=(u.Kind,u.Label)
def kidB(u:api_Unit):Bool:=(u.Kids.all fun k=>nestB u.Kind k.Kind) && decide ((u.Kids.map keyU).Nodup) && decide (u.Kids.length≤64)
def okU(u:api_Unit):Bool:=aloB u && kidB u
def smallU(u:api_Unit):Prop:=u.Label.length≤10000000∧u.Head.length≤10000000∧u.Words.length≤10000000
def seenM(l:List (Int×Str)):List (unit_called×Bool):=l.map fun p=>(⟨p.1,p.2⟩,true)
theorem seen_get(k:Int)(s:Str):∀ l:List (Int×Str),mget (seenM l) (⟨k,s⟩:unit_called) false=decide ((k,s)∈l)
 | []=>by simp [seenM,mget]
 | p :: l=>by
  have ih:=seen_get k s l
  show (if (⟨k,s⟩:unit_called)=⟨p.1,p.2⟩ then true else mget (seenM l) (⟨k,s⟩:unit_called) false)=_
  by_cases h:(k,s)=p
  ·have:(⟨k,s⟩:unit_called)=⟨p.1,p.2⟩:=by rw [←h]
   rw [if_pos this];simp [h]
  ·have:¬ (⟨k,s⟩:unit_called)=⟨p.1,p.2⟩:=by
    intro e
    injection e with e1 e2
    exact h (by rw [e1,e2])
   rw [if_neg this,ih]
   simp [h]
theorem seen_set(k:Int)(s:Str):∀ l:List (Int×Str),(k,s) ∉ l→mset (seenM l) (⟨k,s⟩:unit_called) true=seenM (l++ [(k,s)])
 | [],_=>rfl
 | p :: l,h=>by
  have hn:¬ (⟨k,s⟩:unit_called)=⟨p.1,p.2⟩:=by
   intro e
   injection e with e1 e2
   exact h (by rw [e1,e2];exact List.mem_cons_self)
  show (if (⟨k,s⟩:unit_called)=⟨p.1,p.2⟩ then _ else ((⟨p.1,p.2⟩:unit_called),true) :: mset (seenM l) (⟨k,s⟩:unit_called) true)=_
  rw [if_neg hn,seen_set k s l (fun h2=>h (List.mem_cons_of_mem _ h2))]
  rfl
theorem alone_loop(u:api_Unit):∀ (l:List api_Unit) (sn:List (Int×Str)),∃ r,To (fun n=>M.unit_alone_loop1 n u l (seenM sn)) r∧((((l.all fun k=>nestB u.Kind k.Kind) && decide ((l.map keyU).Nodup) && (l.all fun k=>!decide (keyU k∈sn)))=true∧ ∃ v,r= .inl v)∨(((l.all fun k=>nestB u.Kind k.Kind) && decide ((l.map keyU).Nodup) && (l.all fun k=>!decide (keyU k∈sn)))=false∧r= .inr false))
 | [],sn=>⟨.inl _,by simp only [M.unit_alone_loop1];exact To.pure,.inl ⟨rfl,_,rfl⟩⟩
 | k :: l,sn=>by
  simp only [M.unit_alone_loop1]
  cases hn:nestB u.Kind k.Kind with
  | false=>exact ⟨.inr false,To.bind (nest_p _ _) (To.pos hn To.pure),.inr ⟨by simp [hn],rfl⟩⟩
  | true=>
   by_cases hs:keyU k∈sn
   ·refine ⟨.inr false,To.bind (nest_p _ _) (To.neg (by simp [hn]) (To.pos ?_ To.pure)),.inr ⟨?_,rfl⟩⟩
    ·rw [seen_get];exact decide_eq_true hs
    ·have:((k :: l).all fun k=>!decide (keyU k∈sn))=false:=by simp [hs]
     rw [this,Bool.and_false]
   ·obtain ⟨r,hr,hc⟩:=alone_loop u l (sn++ [keyU k])
    have e:(((k :: l).all fun k=>nestB u.Kind k.Kind) && decide (((k :: l).map keyU).Nodup) && ((k :: l).all fun k=>!decide (keyU k∈sn)))=((l.all fun k=>nestB u.Kind k.Kind) && decide ((l.map keyU).Nodup) && (l.all fun x=>!decide (keyU x∈sn++ [keyU k]))):=by
     rw [Bool.eq_iff_iff]
     simp only [Bool.and_eq_true,decide_eq_true_eq,List.all_eq_true,List.map_cons,List.nodup_cons,List.mem_cons,forall_eq_or_imp,Bool.not_eq_true',decide_eq_false_iff_not,List.mem_append,List.mem_singleton,List.mem_map,hn,hs,not_false_eq_true,true_and,not_or,not_exists,not_and,List.mem_nil_iff,or_false]
     constructor
     ·rintro ⟨⟨h1,h2,h3⟩,h4⟩
      exact ⟨⟨h1,h3⟩,fun x hx=>⟨h4 x hx,fun e=>h2 x hx e⟩⟩
     ·rintro ⟨⟨h1,h3⟩,h4⟩
      exact ⟨⟨h1,fun x hx e=>(h4 x hx).2 e,h3⟩,fun x hx=>(h4 x hx).1⟩
    refine ⟨r,To.bind (nest_p _ _) (To.neg (by simp [hn]) (To.neg ?_ ?_)),by rw [e];exact hc⟩
    ·rw [seen_get]
     intro h
     exact hs (of_decide_eq_true h)
    ·rw [seen_set _ _ _ hs];exact hr
theorem alone_p(u:api_Unit)(h:smallU u):To (fun n=>M.unit_alone n u) (okU u):=by
 simp only [M.unit_alone]
 have tail:aloB u=true→∀ f:Nat→Option (Unit ⊕ Bool),To f (.inl ())→To (fun n=>Option.bind (f n) fun
  | .inl _=>
   Option.bind (M.unit_alone_loop1 n u u.Kids ([]:List (unit_called×Bool))) fun
    | .inl v1=>
     some (decide ((u.Kids.length:Int)≤(64:Int)))
    | .inr ret0=>some ret0
  | .inr ret0=>some ret0) (okU u):=by
  intro ha f hf
  refine To.bind hf ?_
  obtain ⟨r,hr,hc⟩:=alone_loop u u.Kids []
  refine To.bind hr ?_
  have e:(u.Kids.all fun k=>!decide (keyU k∈([]:List (Int×Str))))=true:=by simp
  rw [e,Bool.and_true] at hc
  unfold okU kidB
  rw [ha]
  rcases hc with ⟨h1,v,rfl⟩ | ⟨h1,rfl⟩
  ·refine To.pure.of ?_
   rw [h1]
   have:((u.Kids.length:Int)≤64) ↔ u.Kids.length≤64:=by omega
   simp [this]
  ·exact To.pure.of (by rw [h1];rfl)
 have bad:aloB u=false→∀ f:Nat→Option (Unit ⊕ Bool),To f (.inr false)→To (fun n=>Option.bind (f n) fun
  | .inl _=>
   Option.bind (M.unit_alone_loop1 n u u.Kids ([]:List (unit_called×Bool))) fun
    | .inl v1=>
     some (decide ((u.Kids.length:Int)≤(64:Int)))
    | .inr ret0=>some ret0
  | .inr ret0=>some ret0) (okU u):=by
  intro ha f hf
  exact To.bind hf (To.pure.of (by unfold okU;rw [ha];rfl))
 by_cases h0:u.Kind=0
 ·by_cases hl:(u.Label != [])=true
  ·refine bad ?_ _ (To.pos h0 (To.pos hl To.pure))
   unfold aloB
   rw [if_pos h0]
   have:(u.Label== [])=false:=by simpa using hl
   rw [this];rfl
  ·have hl':(u.Label== [])=true:=by simpa using hl
   obtain ⟨_,hh,hw⟩:=h
   by_cases hs:(0:Int)< (u.Head.length:Int)+(u.Words.length:Int)
   ·refine bad ?_ _ (To.pos h0 (To.neg hl (To.bindS (addC_eq (by omega) (by omega)) (To.pos hs To.pure))))
    unfold aloB
    rw [if_pos h0]
    by_cases h1:u.Head.length=0
    ·have:¬ u.Words.length=0:=by omega
     simp [this]
    ·simp [h1]
   ·refine tail ?_ _ (To.pos h0 (To.neg hl (To.bindS (addC_eq (by omega) (by omega)) (To.neg hs To.pure))))
    unfold aloB
    rw [if_pos h0,hl']
    have h1:u.Head.length=0:=by omega
    have h2:u.Words.length=0:=by omega
    simp [h1,h2]
 ·by_cases hk:(nameOf u.Kind== [])=true
  ·refine bad ?_ _ (To.neg h0 (To.bindS (kname _) (To.pos hk To.pure)))
   have:=name_ne.1 (by simpa using hk)
   unfold aloB
   rw [if_neg h0]
   by_cases h1:1≤u.Kind
   ·have:¬ u.Kind≤7:=by omega
    simp [this]
   ·simp [h1]
  ·have hk2:0≤u.Kind∧u.Kind≤7:=by
    rcases Classical.em (0≤u.Kind∧u.Kind≤7) with h1 | h1
    ·exact h1
    ·exact absurd (by simpa using name_ne.2 h1) hk
   have k1:1≤u.Kind:=by omega
   have ha:aloB u=(labB u.Label && rowB u.Head && rowB u.Words):=by
    unfold aloB
    rw [if_neg h0]
    simp [k1,hk2.2]
   cases hl:labB u.Label with
   | false=>exact bad (by rw [ha,hl];rfl) _ (To.neg h0 (To.bindS (kname _) (To.neg hk (To.bind (label_ok _) (To.pos hl To.pure)))))
   | true=>
    cases hh:rowB u.Head with
    | false=>exact bad (by rw [ha,hl,hh];rfl) _ (To.neg h0 (To.bindS (kname _) (To.neg hk (To.bind (label_ok _) (To.neg (by simp [hl]) (To.bind (row_ok _ h.2.1) (To.pos hh To.pure)))))))
    | true=>
     cases hw:rowB u.Words with
     | false=>exact bad (by rw [ha,hl,hh,hw];rfl) _ (To.neg h0 (To.bindS (kname _) (To.neg hk (To.bind (label_ok _) (To.neg (by simp [hl]) (To.bind (row_ok _ h.2.1) (To.neg (by simp [hh]) (To.bind (row_ok _ h.2.2) (To.pos hw To.pure)))))))))
     | true=>exact tail (by rw [ha,hl,hh,hw];rfl) _ (To.neg h0 (To.bindS (kname _) (To.neg hk (To.bind (label_ok _) (To.neg (by simp [hl]) (To.bind (row_ok _ h.2.1) (To.neg (by simp [hh]) (To.bind (row_ok _ h.2.2) (To.neg (by simp [hw]) To.pure)))))))))
end Go.Proofs.YtofaogkcifaioaaDoor
/-
  Chapter 11: trees: copies without IDs and marks, depths, counts; which trees are valid, by both texts.
-/
set_option linter.unusedVariables false
set_option linter.unusedSimpArgs false
namespace Go.Proofs.YtofaogkcifaioaaDoor
open Go Go.Dec
def smT(u:api_Unit):Prop:=cnt u≤10000000∧ ∀ x∈desc u,smallU x
theorem smT_kid{u k:api_Unit}(h:smT u)(hk:k∈u.Kids):smT k:=⟨by have:=cnt_kid hk;have:=h.1;omega,fun x hx=>h.2 x (desc_kid hk hx)⟩
theorem smT_self{u:api_Unit}(h:smT u):smallU u:=h.2 u (desc_self u)
theorem smT_kids{u:api_Unit}(h:smT u):u.Kids.length≤10000000:=by have:=cnt_kids u;have:=h.1;omega
theorem map_at{β:Type}(f:api_Unit→β)(l:List api_Unit):l.attach.map (fun k=>f k.1)=l.map f:=by
 rw [show (fun k:{x // x∈l}=>f k.1)=f ∘ Subtype.val from rfl,←List.map_map,List.attach_map_subtype_val]
def stripT(u:api_Unit):api_Unit:={u with Id:=zapi_Id,Head:=M.bareWs u.Head,Words:=M.bareWs u.Words,Kids:=u.Kids.attach.map (fun k=>stripT k.1)}
termination_by SizeOf.sizeOf u
decreasing_by exact kid_lt k.2
theorem stripT_eq(u:api_Unit):stripT u= {u with Id:=zapi_Id,Head:=M.bareWs u.Head,Words:=M.bareWs u.Words,Kids:=u.Kids.map stripT}:=by
 rw [stripT,map_at]
def dp(u:api_Unit):Nat:=(u.Kids.attach.map (fun k=>1+dp k.1)).foldl max 0
termination_by SizeOf.sizeOf u
decreasing_by exact kid_lt k.2
theorem dp_eq(u:api_Unit):dp u=(u.Kids.map (fun k=>1+dp k)).foldl max 0:=by
 rw [dp,map_at (fun k=>1+dp k)]
theorem fold_max:∀ (l:List Nat) (m n:Nat),l.foldl max m≤n ↔ m≤n∧ ∀ x∈l,x≤n
 | [],m,n=>by simp
 | x :: l,m,n=>by
  rw [List.foldl_cons,fold_max l]
  simp only [List.mem_cons,forall_eq_or_imp]
  constructor
  ·rintro ⟨h1,h2⟩;exact ⟨by omega,by omega,h2⟩
  ·rintro ⟨h1,h2,h3⟩;exact ⟨by omega,h3⟩
theorem dp_le(u:api_Unit)(n:Nat):dp u≤n ↔ ∀ k∈u.Kids,1+dp k≤n:=by
 rw [dp_eq,fold_max];simp
theorem dp_cnt(u:api_Unit):dp u<cnt u:=by
 refine uind (P:=fun u=>dp u<cnt u) ?_ u
 intro u ih
 have h1:=cnt_pos u
 have:dp u≤cnt u-1:=(dp_le u _).2 fun k hk=>by
  have:=ih k hk
  have:=cnt_kid hk
  omega
 omega
theorem copied_ok(u:api_Unit):smT u→To (fun n=>M.unit_copied n u) u:=by
 refine uind (P:=fun u=>smT u→To (fun n=>M.unit_copied n u) u) ?_ u
 intro u ih h
 have loop:∀ (l acc:List api_Unit) (slf:Nat→api_Unit→Option api_Unit),(∀ k∈l,To (fun n=>slf n k) k)→acc.length+l.length≤100000000→To (fun n=>M.unit_copied_loop1 (slf n) l acc) (acc++l):=by
  intro l
  induction l with
  | nil=>intro acc slf _ _;simp only [M.unit_copied_loop1];exact To.pure.of (by simp)
  | cons x l ihl=>
   intro acc slf hs hl
   simp only [List.length_cons] at hl
   simp only [M.unit_copied_loop1]
   refine To.bind (hs x (by simp)) (To.bindS (appC_eq (by simp;omega)) ?_)
   exact (ihl (acc++ [x]) slf (fun k hk=>hs k (by simp [hk])) (by simp;omega)).of (by simp)
 have hu:=smT_self h
 have hk:=smT_kids h
 have c:∀ l:List api_Word,l.length≤10000000→M.slices_Clone_api_Word_api_Word l=some l:=fun l hl=>by
  unfold M.slices_Clone_api_Word_api_Word
  rw [appC_eq (by simp;omega)];rfl
 refine To.succ ?_
 simp only [M.unit_copied]
 exact To.bindS (c _ hu.2.1) (To.bindS (c _ hu.2.2) (To.bind (loop u.Kids [] (fun n=>M.unit_copied n) (fun k hk=>ih k hk (smT_kid h hk)) (by simp;omega)) (To.pure.of (by rw [List.nil_append];cases u;rfl))))
theorem strip_ok(u:api_Unit):smT u→To (fun n=>M.unit_Strip n u) (stripT u):=by
 refine uind (P:=fun u=>smT u→To (fun n=>M.unit_Strip n u) (stripT u)) ?_ u
 intro u ih h
 have loop:∀ (l:List api_Unit) (slf:Nat→api_Unit→Option api_Unit),(∀ k∈l,To (fun n=>slf n k) (stripT k))→To (fun n=>M.mapKids (slf n) l) (l.map stripT):=by
  intro l
  induction l with
  | nil=>intro slf _;exact To.pure
  | cons x l ihl=>
   intro slf hs
   simp only [M.mapKids]
   exact To.bind (hs x (by simp)) (To.bind (ihl slf (fun k hk=>hs k (by simp [hk]))) To.pure)
 rw [stripT_eq]
 refine To.succ ?_
 simp only [M.unit_Strip]
 exact To.bind (copied_ok u h) (To.bind (loop u.Kids (fun n=>M.unit_Strip n) (fun k hk=>ih k hk (smT_kid h hk))) To.pure)
theorem txts_bare(l:List api_Word):txts (M.bareWs l)=txts l:=by simp [txts,M.bareWs]
theorem key_strip(u:api_Unit):keyU (stripT u)=keyU u:=by rw [stripT_eq];rfl
theorem alo_strip(u:api_Unit):aloB (stripT u)=aloB u:=by
 rw [stripT_eq]
 unfold aloB rowB
 simp only [txts_bare]
 simp [M.bareWs]
theorem kid_strip(u:api_Unit):kidB (stripT u)=kidB u:=by
 have h:(u.Kids.map stripT).map keyU=u.Kids.map keyU:=by
  rw [List.map_map]
  exact List.map_congr_left fun k _=>key_strip k
 have h2:((u.Kids.map stripT).all fun k=>nestB u.Kind k.Kind)=(u.Kids.all fun k=>nestB u.Kind k.Kind):=by
  rw [List.all_map]
  congr 1
  funext k
  show nestB u.Kind (stripT k).Kind=_
  rw [stripT_eq]
 rw [stripT_eq]
 unfold kidB
 simp only [h,h2,List.length_map]
theorem ok_strip(u:api_Unit):okU (stripT u)=okU u:=by unfold okU;rw [alo_strip,kid_strip]
theorem desc_strip(u:api_Unit):desc (stripT u)=(desc u).map stripT:=by
 refine uind (P:=fun u=>desc (stripT u)=(desc u).map stripT) ?_ u
 intro u ih
 rw [desc_eq (stripT u),desc_eq u,List.map_cons]
 congr 1
 rw [stripT_eq]
 show (u.Kids.map stripT).flatMap desc=_
 have:∀ l:List api_Unit,(∀ k∈l,desc (stripT k)=(desc k).map stripT)→(l.map stripT).flatMap desc=(l.flatMap desc).map stripT:=by
  intro l
  induction l with
  | nil=>intro _;rfl
  | cons x l ihl=>
   intro h
   rw [List.map_cons,List.flatMap_cons,List.flatMap_cons,List.map_append,h x (by simp),ihl (fun k hk=>h k (by simp [hk]))]
 exact this _ ih
theorem cnt_strip(u:api_Unit):cnt (stripT u)=cnt u:=by unfold cnt;rw [desc_strip,List.length_map]
theorem dp_strip(u:api_Unit):dp (stripT u)=dp u:=by
 refine uind (P:=fun u=>dp (stripT u)=dp u) ?_ u
 intro u ih
 rw [dp_eq (stripT u),dp_eq u,stripT_eq]
 show ((u.Kids.map stripT).map fun k=>1+dp k).foldl max 0=_
 rw [List.map_map]
 congr 1
 exact List.map_congr_left fun k hk=>by show 1+dp (stripT k)=_;rw [ih k hk]
theorem all_strip(u:api_Unit):(desc (stripT u)).all okU=(desc u).all okU:=by
 rw [desc_strip,List.all_map]
 congr 1
 funext x
 exact ok_strip x
theorem small_strip{u:api_Unit}(h:smT u):smT (stripT u):=by
 refine ⟨by rw [cnt_strip];exact h.1,fun x hx=>?_⟩
 rw [desc_strip] at hx
 obtain ⟨y,hy,rfl⟩:=List.mem_map.1 hx
 have:=h.2 y hy
 rw [stripT_eq]
 exact ⟨this.1,by simpa [M.bareWs] using this.2.1,by simpa [M.bareWs] using this.2.2⟩
theorem every_ok(u:api_Unit):smT u→To (fun n=>M.unit_every_i0 n u) ((desc u).all okU):=by
 refine uind (P:=fun u=>smT u→To (fun n=>M.unit_every_i0 n u) ((desc u).all okU)) ?_ u
 intro u ih h
 have loop:∀ (l:List api_Unit) (slf:Nat→api_Unit→Option Bool),(∀ k∈l,To (fun n=>slf n k) ((desc k).all okU))→To (fun n=>M.unit_every_i0_loop1 (slf n) l) (if (l.flatMap desc).all okU=true then .inl () else .inr false):=by
  intro l
  induction l with
  | nil=>intro slf _;exact To.pure
  | cons x l ihl=>
   intro slf hs
   simp only [M.unit_every_i0_loop1]
   refine To.bind (hs x (by simp)) ?_
   cases hx:(desc x).all okU with
   | false=>exact To.pos rfl (To.pure.of (by rw [List.flatMap_cons,List.all_append,hx];rfl))
   | true=>
    refine To.neg (by simp) ((ihl slf (fun k hk=>hs k (by simp [hk]))).of ?_)
    rw [List.flatMap_cons,List.all_append,hx,Bool.true_and]
 refine To.succ ?_
 simp only [M.unit_every_i0]
 refine To.bind (alone_p u (smT_self h)) ?_
 rw [desc_eq,List.all_cons]
 cases ho:okU u with
 | false=>exact To.pos rfl (To.pure.of (by simp))
 | true=>
  refine To.neg (by simp) (To.bind (loop u.Kids (fun n=>M.unit_every_i0 n) (fun k hk=>ih k hk (smT_kid h hk))) ?_)
  rw [Bool.true_and]
  by_cases ha:(u.Kids.flatMap desc).all okU=true
  ·rw [if_pos ha];exact To.pure.of ha.symm
  ·rw [if_neg ha];exact To.pure.of (by simpa using ha)
theorem depth_p(u:api_Unit):smT u→To (fun n=>M.unit_Depth n u) (dp u:Int):=by
 refine uind (P:=fun u=>smT u→To (fun n=>M.unit_Depth n u) (dp u:Int)) ?_ u
 intro u ih h
 have loop:∀ (l:List api_Unit) (slf:Nat→api_Unit→Option Int) (d:Nat),(∀ k∈l,To (fun n=>slf n k) (dp k:Int)∧dp k≤10000000)→To (fun n=>M.unit_Depth_loop1 (slf n) l (d:Int)) (((l.map fun k=>1+dp k).foldl max d:Nat):Int):=by
  intro l
  induction l with
  | nil=>intro slf d _;exact To.pure
  | cons x l ihl=>
   intro slf d hs
   obtain ⟨h1,h2⟩:=hs x (by simp)
   simp only [M.unit_Depth_loop1]
   refine To.bind h1 (To.bindS (addC_eq (by omega) (by omega)) ?_)
   rw [show max (d:Int) (1+(dp x:Int))=((max d (1+dp x):Nat):Int) by omega]
   exact (ihl slf (max d (1+dp x)) (fun k hk=>hs k (by simp [hk]))).of (by rw [List.map_cons,List.foldl_cons])
 refine To.succ ?_
 simp only [M.unit_Depth]
 refine To.bind (loop u.Kids (fun n=>M.unit_Depth n) 0 (fun k hk=>⟨ih k hk (smT_kid h hk),by have:=dp_cnt k;have:=(smT_kid h hk).1;omega⟩)) (To.pure.of (by rw [dp_eq u]))
theorem count_i(u:api_Unit):∀ c:Nat,c+cnt u≤100000000→To (fun n=>M.unit_every_i1 n u (c:Int)) (true,((c+cnt u:Nat):Int)):=by
 refine uind (P:=fun u=>∀ c:Nat,c+cnt u≤100000000→To (fun n=>M.unit_every_i1 n u (c:Int)) (true,((c+cnt u:Nat):Int))) ?_ u
 intro u ih c h
 rw [cnt_eq] at h
 have loop:∀ (l:List api_Unit) (slf:Nat→api_Unit→Int→Option (Bool×Int)) (c:Nat),(∀ k∈l,∀ c:Nat,c+cnt k≤100000000→To (fun n=>slf n k (c:Int)) (true,((c+cnt k:Nat):Int)))→c+(l.map cnt).sum≤100000000→To (fun n=>M.unit_every_i1_loop1 (slf n) l (c:Int)) (.inl ((c+(l.map cnt).sum:Nat):Int)):=by
  intro l
  induction l with
  | nil=>intro slf c _ _;simp only [M.unit_every_i1_loop1];exact To.pure.of (by simp)
  | cons x l ihl=>
   intro slf c hs hc
   simp only [List.map_cons,List.sum_cons] at hc
   simp only [M.unit_every_i1_loop1]
   refine To.bind (hs x (by simp) c (by omega)) (To.neg (by simp) ?_)
   refine (ihl slf (c+cnt x) (fun k hk=>hs k (by simp [hk])) (by omega)).of ?_
   simp only [List.map_cons,List.sum_cons]
   congr 2;omega
 refine To.succ ?_
 simp only [M.unit_every_i1,M.unit_Count_1]
 refine To.bind (a:=(true,((c+1:Nat):Int))) (To.bindS (addC_eq (by omega) (by omega)) (To.pure.of (by simp))) (To.neg (by simp) ?_)
 refine To.bind (loop u.Kids (fun n=>M.unit_every_i1 n) (c+1) (fun k hk=>ih k hk) (by omega)) (To.pure.of ?_)
 rw [cnt_eq]
 congr 2;omega
theorem count_p(u:api_Unit)(h:smT u):To (fun n=>M.unit_Count n u) (cnt u:Int):=by
 simp only [M.unit_Count]
 exact To.bind (count_i u 0 (by have:=h.1;omega)) (To.pure.of (by simp))
theorem ids_i(u:api_Unit):∀ c:List api_Id,c.length+cnt u≤100000000→To (fun n=>M.unit_every_i2 n u c) (true,c++(desc u).map api_Unit.Id):=by
 refine uind (P:=fun u=>∀ c:List api_Id,c.length+cnt u≤100000000→To (fun n=>M.unit_every_i2 n u c) (true,c++(desc u).map api_Unit.Id)) ?_ u
 intro u ih c h
 rw [cnt_eq] at h
 have loop:∀ (l:List api_Unit) (slf:Nat→api_Unit→List api_Id→Option (Bool×List api_Id)) (c:List api_Id),(∀ k∈l,∀ c:List api_Id,c.length+cnt k≤100000000→To (fun n=>slf n k c) (true,c++(desc k).map api_Unit.Id))→c.length+(l.map cnt).sum≤100000000→To (fun n=>M.unit_every_i2_loop1 (slf n) l c) (.inl (c++(l.flatMap desc).map api_Unit.Id)):=by
  intro l
  induction l with
  | nil=>intro slf c _ _;simp only [M.unit_every_i2_loop1];exact To.pure.of (by simp)
  | cons x l ihl=>
   intro slf c hs hc
   simp only [List.map_cons,List.sum_cons] at hc
   simp only [M.unit_every_i2_loop1]
   refine To.bind (hs x (by simp) c (by omega)) (To.neg (by simp) ?_)
   refine (ihl slf _ (fun k hk=>hs k (by simp [hk])) (by simp only [List.length_append,List.length_map];show c.length+cnt x+_≤_;omega)).of ?_
   simp
 refine To.succ ?_
 simp only [M.unit_every_i2,M.unit_IDs_1]
 refine To.bind (a:=(true,c++ [u.Id])) (To.bindS (appC_eq (by simp;omega)) To.pure) (To.neg (by simp) ?_)
 refine To.bind (loop u.Kids (fun n=>M.unit_every_i2 n) (c++ [u.Id]) (fun k hk=>ih k hk) (by simp;omega)) (To.pure.of ?_)
 rw [desc_eq];simp
theorem ids_loop:∀ m:Nat,M.unit_ids_loop1 (List.replicate m zapi_Id) [(zapi_Id,true)]=some [(zapi_Id,true)]
 | 0=>rfl
 | m+1=>by
  rw [List.replicate_succ]
  simp only [M.unit_ids_loop1]
  have:mset [(zapi_Id,true)] zapi_Id true= [(zapi_Id,true)]:=by simp [mset]
  rw [this]
  exact ids_loop m
theorem ids_bare(u:api_Unit)(h:smT u):To (fun n=>M.unit_ids n (stripT u)) true:=by
 simp only [M.unit_ids,M.unit_IDs]
 have he:(desc (stripT u)).map api_Unit.Id=List.replicate (cnt u) zapi_Id:=by
  rw [desc_strip,List.map_map,List.eq_replicate_iff]
  refine ⟨by rw [List.length_map];rfl,fun b hb=>?_⟩
  obtain ⟨y,_,rfl⟩:=List.mem_map.1 hb
  show (stripT y).Id=_
  rw [stripT_eq]
 refine To.bind (a:=List.replicate (cnt u) zapi_Id) (To.bind (ids_i (stripT u) [] (by rw [cnt_strip];simp;have:=h.1;omega)) (To.pure.of (by rw [he];rfl))) ?_
 obtain ⟨m,hm⟩:∃ m,cnt u=m+1:=⟨cnt u-1,by have:=cnt_pos u;omega⟩
 rw [hm,List.replicate_succ]
 have hl:M.unit_ids_loop1 (zapi_Id :: List.replicate m zapi_Id) []=some [(zapi_Id,true)]:=by
  simp only [M.unit_ids_loop1]
  exact ids_loop m
 refine To.bindS hl (To.pos (by simp [mget,zapi_Id]) (To.bindS (show growC _=some () by simp [growC]) (To.pos (by simp) To.pure)))
def valT(u:api_Unit):Bool:=(desc u).all okU && decide (dp u≤8) && decide (cnt u≤1024)
theorem valid_p(u:api_Unit)(h:smT u):To (fun n=>M.unit_Valid n (stripT u)) (valT u):=by
 have hs:=small_strip h
 simp only [M.unit_Valid]
 refine To.bind (every_ok _ hs) ?_
 unfold valT
 rw [all_strip]
 cases ha:(desc u).all okU with
 | false=>exact To.neg (by simp) (To.pure.of (by simp))
 | true=>
  refine To.pos rfl (To.bind (depth_p _ hs) ?_)
  rw [dp_strip]
  by_cases hd:(dp u:Int)≤8
  ·have k1:dp u≤8:=by omega
   refine To.pos hd (To.bind (count_p _ hs) ?_)
   rw [cnt_strip]
   by_cases hc:(cnt u:Int)≤1024
   ·have k2:cnt u≤1024:=by omega
    exact To.pos hc (To.bind (ids_bare u h) (To.pure.of (by simp [k1,k2])))
   ·have k2:¬ cnt u≤1024:=by omega
    exact To.neg hc (To.pure.of (by simp [k2]))
  ·have k1:¬ dp u≤8:=by omega
   exact To.neg hd (To.pure.of (by simp [k1]))
end Go.Proofs.YtofaogkcifaioaaDoor
