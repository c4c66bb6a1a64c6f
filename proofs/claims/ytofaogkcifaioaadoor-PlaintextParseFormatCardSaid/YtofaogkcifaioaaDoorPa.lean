/-
  Labels, words, texts and their pieces: what other chapters' texts hold too (picked by wip/scripts/pick.py).
-/
import Derived.Test.YtofaogkcifaioaaDoorMdl
import Derived.Test.YtofaogkcifaioaaDoorEv
import Derived.Test.YtofaogkcifaioaaDoorDec13
import Derived.KernelRfl
set_option linter.unusedVariables false
set_option linter.unusedSimpArgs false
namespace Go.Proofs.YtofaogkcifaioaaDoor
open Go Go.Dec
theorem kid_lt{u k:api_Unit}(h:k∈u.Kids):SizeOf.sizeOf k<SizeOf.sizeOf u:=by
 cases u
 have:=List.sizeOf_lt_of_mem h
 simp at this ⊢
 omega
theorem uind{P:api_Unit→Prop}(h:∀ u,(∀ k,k∈u.Kids→P k)→P u)(u:api_Unit):P u:=
 h u (fun k hk=>uind h k)
termination_by SizeOf.sizeOf u
decreasing_by exact kid_lt hk
def desc(u:api_Unit):List api_Unit:=u :: u.Kids.attach.flatMap (fun k=>desc k.1)
termination_by SizeOf.sizeOf u
decreasing_by exact kid_lt k.2
theorem desc_eq(u:api_Unit):desc u=u :: u.Kids.flatMap desc:=by
 rw [desc]
 congr 1
 have:∀ l:List api_Unit,l.attach.flatMap (fun k=>desc k.1)=l.flatMap desc:=by
  intro l
  rw [List.flatMap_def,List.flatMap_def]
  congr 1
  rw [show (fun k:{x // x∈l}=>desc k.1)=desc ∘ Subtype.val from rfl,←List.map_map,List.attach_map_subtype_val]
 exact this _
def cnt(u:api_Unit):Nat:=(desc u).length
theorem cnt_eq(u:api_Unit):cnt u=1+(u.Kids.map cnt).sum:=by
 unfold cnt
 rw [desc_eq]
 simp [List.length_flatMap]
 omega
theorem cnt_pos(u:api_Unit):1≤cnt u:=by rw [cnt_eq];omega
theorem sum_mem{α:Type}(f:α→Nat):∀ {l:List α} {x:α},x∈l→f x≤(l.map f).sum
 | y :: l,x,h=>by
  rcases List.mem_cons.1 h with rfl | h
  ·simp
  ·have:=sum_mem f h
   simp;omega
theorem sum_len{α:Type}(f:α→Nat)(h:∀ x,1≤f x):∀ l:List α,l.length≤(l.map f).sum
 | []=>by simp
 | x :: l=>by
  have:=sum_len f h l
  have:=h x
  simp;omega
theorem cnt_kid{u k:api_Unit}(h:k∈u.Kids):cnt k<cnt u:=by
 rw [cnt_eq u]
 have:=sum_mem cnt h
 omega
theorem cnt_kids(u:api_Unit):u.Kids.length<cnt u:=by
 rw [cnt_eq u]
 have:=sum_len cnt cnt_pos u.Kids
 omega
theorem desc_self(u:api_Unit):u∈desc u:=by rw [desc_eq];simp
theorem desc_kid{u k x:api_Unit}(hk:k∈u.Kids)(hx:x∈desc k):x∈desc u:=by
 rw [desc_eq]
 exact List.mem_cons_of_mem _ (List.mem_flatMap.2 ⟨k,hk,hx⟩)
def isDig(b:UInt8):Bool:=decide (48≤b.toNat) && decide (b.toNat≤57)
def isCap(b:UInt8):Bool:=decide (65≤b.toNat) && decide (b.toNat≤90)
def labB(s:Str):Bool:=
 let d:=(s.takeWhile isDig).length
 decide (1≤d) && decide (d≤4) && decide (s.head? ≠some 48) && decide (s.length-d≤3) && (s.drop d).all isCap
theorem idxfun(s:Str)(f:Int→Option Bool)(p:UInt8→Bool)(hf:∀ b:UInt8,b.toNat<128→f (b.toNat:Int)=some (p b))(hh:∀ r:Nat,128≤r→f (r:Int)=some true)(hp:∀ b:UInt8,128≤b.toNat→p b=true) :
  To (fun n=>M.strings_IndexFunc n s f) (if s.any p then (((s.takeWhile fun b=>!p b).length:Nat):Int) else -1):=by
 have loop:∀ (xs:Str) (i:Nat),s.drop i=xs→∃ v,To (fun n=>M.strings_indexFunc_loop1 s f true n i) (if xs.any p then .inr ((i+(xs.takeWhile fun b=>!p b).length:Nat):Int) else .inl v):=by
  intro xs
  induction xs with
  | nil=>
   intro i hx
   have:=List.drop_eq_nil_iff.1 hx
   refine ⟨i,To.succ ?_⟩
   simp only [M.strings_indexFunc_loop1]
   exact To.neg (by omega) (To.pure.of (by simp))
  | cons x xs ih=>
   intro i hx
   obtain ⟨h1,h2,h3⟩:=drop_cons hx
   have hxi:s[i]=x:=by rw [List.getElem?_eq_getElem h1] at h2;exact Option.some.inj h2
   by_cases ha:x.toNat<128
   ·have hr:=runeAt_ascii h1 (by rw [hxi];exact ha)
    rw [hxi] at hr
    obtain ⟨v,hv⟩:=ih (i+1) h3
    refine ⟨v,To.succ ?_⟩
    simp only [M.strings_indexFunc_loop1]
    refine To.pos h1 ?_
    rw [hr]
    refine To.bindS (hf x ha) ?_
    cases hpx:p x with
    | true=>exact To.pos rfl (To.pure.of (by simp [hpx]))
    | false=>
     refine To.neg (by simp) (hv.of ?_)
     have tw:(x :: xs).takeWhile (fun b=>!p b)=x :: xs.takeWhile (fun b=>!p b):=List.takeWhile_cons_of_pos (by simp [hpx])
     rw [tw]
     simp only [List.any_cons,hpx,Bool.false_or,List.length_cons]
     split
     ·congr 1;omega
     ·rfl
   ·obtain ⟨q1,q2⟩:=runeAt_high h1 (by rw [hxi];omega)
    have hpx:=hp x (by omega)
    refine ⟨0,To.succ ?_⟩
    simp only [M.strings_indexFunc_loop1]
    refine To.pos h1 (To.bindS (hh _ q1) (To.pos rfl (To.pure.of (by simp [hpx]))))
 obtain ⟨v,hv⟩:=loop s 0 rfl
 simp only [M.strings_IndexFunc,M.strings_indexFunc]
 by_cases h:s.any p=true
 ·rw [if_pos h] at hv ⊢
  exact To.bind (To.bind hv To.pure) (To.pure.of (by simp))
 ·rw [if_neg h] at hv ⊢
  exact To.bind (To.bind hv To.pure) To.pure
theorem tw_all{α:Type}{p:α→Bool}:∀ {l:List α},(∀ b,b∈l→p b=true)→l.takeWhile p=l
 | [],_=>rfl
 | x :: l,h=>by rw [List.takeWhile_cons_of_pos (h x (by simp)),tw_all fun b hb=>h b (by simp [hb])]
theorem tw_not(s:Str):(s.takeWhile fun b=>!(!isDig b))=s.takeWhile isDig:=by simp
theorem parted_ok(s:Str):To (fun n=>M.label_parted n s) (s.take (s.takeWhile isDig).length,s.drop (s.takeWhile isDig).length):=by
 have h:=idxfun s (fun s0=>M.label_parted_1 s0) (fun b=>!isDig b) (fun b hb=>by
  simp only [M.label_parted_1,isDig]
  split
  ·simp;omega
  ·congr 1;rw [Bool.eq_iff_iff];simp;omega) (fun r hr=>by
  simp only [M.label_parted_1]
  rw [if_neg (by omega)];congr 1;simp;omega) (fun b hb=>by simp [isDig];omega)
 have hd:(s.takeWhile isDig).length≤s.length:=(List.takeWhile_sublist isDig (l:=s)).length_le
 simp only [M.label_parted]
 refine To.bind h ?_
 rw [tw_not]
 by_cases ha:(s.any fun b=>!isDig b)=true
 ·rw [if_pos ha]
  refine To.neg (by omega) (To.bindS (a:=s.take (s.takeWhile isDig).length) ?_ (To.bindS (a:=s.drop (s.takeWhile isDig).length) ?_ To.pure))
  ·simp [slcHi,hd]
  ·simp [slcLo,hd]
 ·rw [if_neg ha]
  refine To.pos (by omega) (To.pure.of ?_)
  have hall:s.takeWhile isDig=s:=by
   refine tw_all fun b hb=>?_
   simp only [Bool.not_eq_true,List.any_eq_false] at ha
   have:=ha b hb
   simpa using this
  rw [hall];simp
theorem label_ok(s:Str):To (fun n=>M.label_Valid n s) (labB s):=by
 have hd:(s.takeWhile isDig).length≤s.length:=(List.takeWhile_sublist isDig (l:=s)).length_le
 have h:=parted_ok s
 generalize hdd:(s.takeWhile isDig).length=d at hd h
 have hc:=idxfun (s.drop d) (fun s0=>M.label_Valid_1 s0) (fun b=>!isCap b) (fun b hb=>by
  simp only [M.label_Valid_1,isCap]
  split
  ·simp;omega
  ·congr 1;rw [Bool.eq_iff_iff];simp;omega) (fun r hr=>by
  simp only [M.label_Valid_1]
  rw [if_neg (by omega)];congr 1;simp;omega) (fun b hb=>by simp [isCap];omega)
 simp only [M.label_Valid]
 refine To.bind h ?_
 dsimp only
 have hl:((s.take d).length:Int)=d:=by rw [List.length_take];omega
 have hl2:(((s.drop d).length:Nat):Int)=((s.length-d:Nat):Int):=by rw [List.length_drop]
 by_cases h1:d<1
 ·exact To.neg (by omega) (To.pure.of (by simp [labB,hdd];omega))
 refine To.pos (by omega) ?_
 by_cases h2:4<d
 ·exact To.neg (by omega) (To.pure.of (by simp [labB,hdd];omega))
 refine To.pos (by omega) ?_
 obtain ⟨x,xs,rfl⟩:∃ x xs,s=x :: xs:=by
  cases s with
  | nil=>simp at hd;omega
  | cons x xs=>exact ⟨x,xs,rfl⟩
 have hx:idx ((x :: xs).take d) (0:Int)=some x:=by
  obtain ⟨e,rfl⟩:∃ e,d=e+1:=⟨d-1,by omega⟩
  simp [idx]
 refine To.bindS hx ?_
 by_cases h3:x=48
 ·subst h3
  exact To.neg (by simp) (To.pure.of (by simp [labB]))
 have h3':(x.toNat:Int)≠48:=by
  intro h
  exact h3 (UInt8.toNat_inj.1 (by have:(48:UInt8).toNat=48:=rfl;omega))
 refine To.pos h3' ?_
 simp only [labB,hdd]
 rw [decide_eq_true (show 1≤d by omega),decide_eq_true (show d≤4 by omega),decide_eq_true (show (x :: xs).head? ≠some 48 by simpa using h3)]
 by_cases h4:3<(x :: xs).length-d
 ·refine To.neg (by omega) (To.pure.of ?_)
  rw [decide_eq_false (show ¬ (x :: xs).length-d≤3 by omega)]
  simp
 refine To.pos (by omega) ?_
 rw [decide_eq_true (show (x :: xs).length-d≤3 by omega)]
 simp only [M.strings_ContainsFunc]
 refine To.bind (To.bind hc To.pure) (To.pure.of ?_)
 have he:(((x :: xs).drop d).any fun b=>!isCap b)= !(((x :: xs).drop d).all isCap):=by rw [List.not_all_eq_any_not]
 rw [he]
 cases ((x :: xs).drop d).all isCap<;> simp<;> omega
def chB(b:UInt8):Bool:=decide (33≤b.toNat) && decide (b.toNat≤126)
def wordB(s:Str):Bool:=decide (1≤s.length) && decide (s.length≤24) && s.all chB
def seqB(l:List Str):Bool:=decide (l.length≤256) && l.all wordB
theorem has_s(l:List Str)(f:Nat→Str→Option Bool)(p:Str→Bool)(hf:∀ x,x∈l→To (fun n=>f n x) (p x)):To (fun n=>M.slices_ContainsFunc_string_string n l (f n)) (l.any p):=by
 have loop:∀ (xs:List Str) (f:Nat→Str→Option Bool) (i:Nat),(∀ x,x∈xs→To (fun n=>f n x) (p x))→l.drop i=xs→∃ r,To (fun n=>M.slices_IndexFunc_string_string_loop1 l (f n) n (i:Int)) r∧((xs.any p=true∧ ∃ k:Nat,r= .inr (k:Int))∨(xs.any p=false∧r= .inl ())):=by
  intro xs
  induction xs with
  | nil=>
   intro f i _ hx
   refine ⟨.inl (),To.succ ?_,.inr ⟨rfl,rfl⟩⟩
   simp only [M.slices_IndexFunc_string_string_loop1]
   exact To.neg (drop_end hx) To.pure
  | cons x xs ih=>
   intro f i hf hx
   have h1:=hf x (by simp)
   by_cases hp:p x=true
   ·refine ⟨.inr (i:Int),To.succ ?_,.inl ⟨by simp [hp],i,rfl⟩⟩
    simp only [M.slices_IndexFunc_string_string_loop1]
    exact To.pos (drop_lt hx) (To.bindS (drop_idx hx) (To.bind h1.shift (To.pos hp To.pure)))
   ·have hp':p x=false:=by simpa using hp
    obtain ⟨r,ht,hr⟩:=ih (fun n=>f (n+1)) (i+1) (fun y hy=>(hf y (by simp [hy])).shift) (drop_next hx)
    refine ⟨r,To.succ ?_,by simpa [hp'] using hr⟩
    simp only [M.slices_IndexFunc_string_string_loop1]
    rw [cast_succ]
    exact To.pos (drop_lt hx) (To.bindS (drop_idx hx) (To.bind h1.shift (To.neg hp ht)))
 obtain ⟨r,ht,hr⟩:=loop l f 0 hf rfl
 simp only [M.slices_ContainsFunc_string_string,M.slices_IndexFunc_string_string]
 rcases hr with ⟨ha,k,rfl⟩ | ⟨ha,rfl⟩
 ·refine To.bind (a:=(k:Int)) (To.bind ht To.pure) (To.pure.of ?_)
  simp [ha]
 ·refine To.bind (a:=(-1:Int)) (To.bind ht To.pure) (To.pure.of ?_)
  simp [ha]
theorem has_b(l:Str):To (fun n=>M.slices_ContainsFunc_byte_byte n (bytesOf l) (fun s0=>M.wordseq_word_1 s0)) (l.any fun b=>!chB b):=by
 have hd:∀ (i:Nat) (x:UInt8) (xs:Str),l.drop i=x :: xs→idx (bytesOf l) (i:Int)=some (x.toNat:Int)∧(i:Int)< ((bytesOf l).length:Int):=by
  intro i x xs hx
  obtain ⟨h1,h2,_⟩:=drop_cons hx
  refine ⟨?_,by simp [bytesOf];omega⟩
  rw [idx_nat]
  simp [bytesOf,h2]
 have loop:∀ (xs:Str) (i:Nat),l.drop i=xs→∃ r,To (fun n=>M.slices_IndexFunc_byte_byte_loop1 (bytesOf l) (fun s0=>M.wordseq_word_1 s0) n (i:Int)) r∧(((xs.any fun b=>!chB b)=true∧ ∃ k:Nat,r= .inr (k:Int))∨((xs.any fun b=>!chB b)=false∧r= .inl ())):=by
  intro xs
  induction xs with
  | nil=>
   intro i hx
   refine ⟨.inl (),To.succ ?_,.inr ⟨rfl,rfl⟩⟩
   simp only [M.slices_IndexFunc_byte_byte_loop1]
   have:=drop_end hx
   exact To.neg (by simp [bytesOf];omega) To.pure
  | cons x xs ih=>
   intro i hx
   obtain ⟨h1,h2⟩:=hd i x xs hx
   have hw:M.wordseq_word_1 (x.toNat:Int)=some (!chB x):=by
    simp only [M.wordseq_word_1,chB]
    by_cases hc:(x.toNat:Int)< 33
    ·rw [if_pos hc]
     have:¬ 33≤x.toNat:=by omega
     simp [this]
    ·rw [if_neg hc]
     have:33≤x.toNat:=by omega
     by_cases hc2:(126:Int)< (x.toNat:Int)
     ·have:¬ x.toNat≤126:=by omega
      simp [hc2,this]
     ·have h3:x.toNat≤126:=by omega
      simp [hc2,this,h3]
   by_cases hp:chB x=true
   ·obtain ⟨r,ht,hr⟩:=ih (i+1) (drop_next hx)
    refine ⟨r,To.succ ?_,by simpa [hp] using hr⟩
    simp only [M.slices_IndexFunc_byte_byte_loop1]
    rw [cast_succ]
    exact To.pos h2 (To.bindS h1 (To.bindS hw (To.neg (by simp [hp]) ht)))
   ·have hp':chB x=false:=by simpa using hp
    refine ⟨.inr (i:Int),To.succ ?_,.inl ⟨by simp [hp'],i,rfl⟩⟩
    simp only [M.slices_IndexFunc_byte_byte_loop1]
    exact To.pos h2 (To.bindS h1 (To.bindS hw (To.pos (by simp [hp']) To.pure)))
 obtain ⟨r,ht,hr⟩:=loop l 0 rfl
 simp only [M.slices_ContainsFunc_byte_byte,M.slices_IndexFunc_byte_byte]
 rcases hr with ⟨ha,k,rfl⟩ | ⟨ha,rfl⟩
 ·refine To.bind (a:=(k:Int)) (To.bind ht To.pure) (To.pure.of ?_)
  rw [ha];simp
 ·refine To.bind (a:=(-1:Int)) (To.bind ht To.pure) (To.pure.of ?_)
  rw [ha];simp
theorem any_not{α:Type}(p:α→Bool)(l:List α):(l.any fun b=>!p b)= !l.all p:=by
 induction l with
 | nil=>rfl
 | cons x l ih=>simp only [List.any_cons,List.all_cons,ih];cases p x<;> simp
theorem word_w(s:Str):To (fun n=>M.wordseq_word n s) (wordB s):=by
 simp only [M.wordseq_word]
 by_cases h1:s= []
 ·refine To.neg (by simp [h1]) (To.pure.of ?_)
  simp [h1,wordB]
 ·have k1:1≤s.length:=List.length_pos_iff.2 h1
  refine To.pos (by simp [h1]) ?_
  by_cases h2:(s.length:Int)≤24
  ·have k2:s.length≤24:=by omega
   refine To.pos h2 (To.bind (has_b s) (To.pure.of ?_))
   rw [any_not]
   simp only [wordB,k1,k2,decide_true,Bool.true_and,Bool.not_not]
  ·refine To.neg h2 (To.pure.of ?_)
   have:¬ s.length≤24:=by omega
   simp [wordB,this]
theorem valid_w(l:List Str):To (fun n=>M.wordseq_Valid n l) (seqB l):=by
 simp only [M.wordseq_Valid]
 by_cases h:(l.length:Int)≤256
 ·have k:l.length≤256:=by omega
  refine To.pos h (To.bind (has_s l (fun n s0=>M.wordseq_Valid_1 n s0) (fun s=>!wordB s) fun x _=>?_) (To.pure.of ?_))
  ·simp only [M.wordseq_Valid_1]
   exact To.bind (word_w x) To.pure
  ·rw [any_not]
   simp only [seqB,k,decide_true,Bool.true_and,Bool.not_not]
 ·refine To.neg h (To.pure.of ?_)
  have:¬ l.length≤256:=by omega
  simp [seqB,this]
def tailS(l:List Str):Str:=l.flatMap (fun x=>32 :: x)
def total(l:List Str):Nat:=(l.map (fun x=>x.length+1)).sum
theorem total_len(l:List Str):l.length≤total l:=by
 unfold total
 induction l with
 | nil=>simp
 | cons x l ih=>simp;omega
theorem join_loop1:∀ (l:List Str) (n:Nat),n+total l≤1000000000→∃ m:Nat,M.strings_Join_loop1 l (n:Int)=some (m:Int)∧m≤n+total l
 | [],n,h=>⟨n,rfl,by omega⟩
 | x :: l,n,h=>by
  have ht:total (x :: l)=x.length+1+total l:=by simp [total]
  rw [ht] at h
  obtain ⟨m,hm,hle⟩:=join_loop1 l (n+x.length) (by omega)
  refine ⟨m,?_,by omega⟩
  simp only [M.strings_Join_loop1]
  rw [subC_eq (by omega) (by omega),Option.bind_some,if_neg (by omega),addC_eq (by omega) (by omega),Option.bind_some,←hm]
  congr 1
theorem tdiv_nat(a b:Nat):((a:Int).tdiv (b:Int))=((a / b:Nat):Int):=rfl
theorem quo_nat(a b:Nat)(ha:a≤9223372036854775807)(hb:1≤b):quoC (a:Int) (b:Int)=some ((a / b:Nat):Int):=by
 unfold quoC
 rw [tdiv_nat]
 have h2:=Nat.div_le_self a b
 generalize a / b=q at h2 ⊢
 rw [if_pos]
 refine ⟨by omega,?_⟩
 simp only [fits64,Bool.and_eq_true,decide_eq_true_eq]
 omega
theorem quo_max'(a k:Nat)(ha1:4000000000≤a)(ha2:a≤9223372036854775807)(h1:1≤k)(h2:k≤1000000000):∃ q:Nat,quoC (a:Int) (k:Int)=some (q:Int)∧2≤q:=
 ⟨a / k,quo_nat a k ha2 h1,by rw [Nat.le_div_iff_mul_le (by omega)];omega⟩
theorem maxI:(9223372036854775807:Int)=((9223372036854775807:Nat):Int):=rfl
theorem quo_max(k:Nat)(h1:1≤k)(h2:k≤1000000000):∃ q:Nat,quoC (9223372036854775807:Int) (k:Int)=some (q:Int)∧2≤q:=
 maxI▸quo_max' 9223372036854775807 k (by decide) (by decide) h1 h2
def nm:List Str:=[[98,111,111,107],[112,97,114,116],[115,101,99,116,105,111,110],[112,97,114,97,103,114,97,112,104],[116,97,98,108,101],[114,111,119],[99,101,108,108],[110,111,116,101]]
def nameOf(k:Int):Str:=(idx nm k).getD []
theorem splitC_cons(c:UInt8)(s:Str):∃ p ps,splitC c s=p :: ps:=by
 cases s with
 | nil=>exact ⟨_,_,rfl⟩
 | cons b l=>
  unfold splitC
  split
  ·exact ⟨_,_,rfl⟩
  ·split
   ·exact ⟨_,_,rfl⟩
   ·exact ⟨_,_,rfl⟩
def kdF(s:Str):List Str→Int→Option Int
 | [],_=>none
 | x :: xs,k=>if x=s then some k else kdF s xs (k+1)
def kd(s:Str):Option Int:=kdF s nm 0
theorem name_no{k:Int}(h0:0≤k)(h1:k≤7):(32:UInt8) ∉ nameOf k∧nameOf k≠ []:=by
 obtain ⟨m,rfl⟩:∃ m:Nat,k=(m:Int):=⟨k.toNat,by omega⟩
 have hm:m=0∨m=1∨m=2∨m=3∨m=4∨m=5∨m=6∨m=7:=by omega
 rcases hm with rfl | rfl | rfl | rfl | rfl | rfl | rfl | rfl<;> exact ⟨by decide,by decide⟩
theorem splitC_len(c:UInt8):∀ s:Str,(splitC c s).length≤s.length+1
 | []=>by simp [splitC]
 | b :: l=>by
  have ih:=splitC_len c l
  unfold splitC
  split
  ·simp;omega
  ·split
   ·simp
   ·rename_i h
    rw [h] at ih
    simp at ih ⊢;omega
theorem splitC_lens(c:UInt8):∀ s:Str,∀ p∈splitC c s,p.length≤s.length
 | [],p,hp=>by simp [splitC] at hp;subst hp;exact Nat.le_refl _
 | b :: l,p,hp=>by
  unfold splitC at hp
  split at hp
  ·rcases List.mem_cons.1 hp with rfl | hp
   ·simp
   ·have:=splitC_lens c l p hp;simp;omega
  ·split at hp
   ·simp at hp;subst hp;simp
   ·rename_i q qs hq
    rcases List.mem_cons.1 hp with rfl | hp
    ·have:=splitC_lens c l q (by rw [hq];exact List.mem_cons_self);simp;omega
    ·have:=splitC_lens c l p (by rw [hq];exact List.mem_cons_of_mem _ hp);simp;omega
theorem cut_split(c:UInt8):∀ (s p:Str) (ps:List Str),splitC c s=p :: ps→
  (ps= []→Lib.cut s [c]=(s,[],false)∧p=s)∧(ps≠ []→∃ rest,Lib.cut s [c]=(p,rest,true)∧splitC c rest=ps∧s=p++c :: rest)
 | [],p,ps,h=>by
  simp only [splitC,List.cons.injEq] at h
  obtain ⟨rfl,rfl⟩:=h
  exact ⟨fun _=>⟨rfl,rfl⟩,fun h=>absurd rfl h⟩
 | b :: l,p,ps,h=>by
  obtain ⟨q,qs,hq⟩:=splitC_cons c l
  have ih:=cut_split c l q qs hq
  have hpre:([c]:List UInt8).isPrefixOf (b :: l)=(c==b):=by simp [List.isPrefixOf]
  unfold splitC at h
  by_cases hb:b=c
  ·rw [if_pos hb] at h
   simp only [List.cons.injEq] at h
   obtain ⟨rfl,rfl⟩:=h
   subst hb
   have hi:Lib.index (b :: l) [b]=0:=by
    unfold Lib.index
    rw [hpre];simp
   refine ⟨fun e=>absurd (hq▸e) (by simp),fun _=>⟨l,?_,rfl,rfl⟩⟩
   unfold Lib.cut
   rw [hi];rfl
  ·rw [if_neg hb,hq] at h
   simp only [List.cons.injEq] at h
   obtain ⟨rfl,rfl⟩:=h
   have hi:Lib.index (b :: l) [c]=if Lib.index l [c]== -1 then -1 else Lib.index l [c]+1:=by
    rw [Lib.index]
    rw [hpre]
    have:(c==b)=false:=by simpa using fun e=>hb (Eq.symm e)
    rw [this];rfl
   have hge:Lib.index l [c]= -1∨0≤Lib.index l [c]:=by
    rcases Lib.index_spec l [c] with ⟨h1,_⟩ | ⟨i,h1,_⟩
    ·exact .inl h1
    ·exact .inr (by omega)
   refine ⟨fun e=>?_,fun e=>?_⟩
   ·obtain ⟨h1,h2⟩:=ih.1 e
    have h3:Lib.index l [c]= -1:=by
     unfold Lib.cut at h1
     split at h1
     ·have:=congrArg (fun x=>x.2.2) h1;cases this
     ·omega
    refine ⟨?_,by rw [h2]⟩
    unfold Lib.cut
    rw [hi,h3];rfl
   ·obtain ⟨rest,h1,h2,h3⟩:=ih.2 e
    have h4:0≤Lib.index l [c]:=by
     unfold Lib.cut at h1
     split at h1
     ·assumption
     ·have:=congrArg (fun x=>x.2.2) h1;cases this
    refine ⟨rest,?_,h2,by rw [h3];rfl⟩
    unfold Lib.cut at h1 ⊢
    rw [if_pos h4] at h1
    have h5:(Lib.index l [c]== -1)=false:=by simp;omega
    rw [hi,h5]
    simp only [Bool.false_eq_true,if_false]
    rw [if_pos (by omega)]
    obtain ⟨m,hm⟩:∃ m:Nat,Lib.index l [c]=(m:Int):=⟨(Lib.index l [c]).toNat,by omega⟩
    rw [hm] at h1 ⊢
    have h6:((m:Int)+1).toNat=m+1:=by omega
    rw [h6]
    simp only [Int.toNat_natCast] at h1
    simp only [List.take_succ_cons,List.length_cons,List.length_nil,Prod.mk.injEq] at h1 ⊢
    refine ⟨by rw [h1.1],?_,trivial⟩
    rw [←h1.2.1]
    rfl
def tailN(l:List Str):Str:=l.flatMap (fun x=>10 :: x)
def joinN:List Str→Str
 | []=>[]
 | a :: l=>a++tailN l
theorem join_loop2N:∀ (l:List Str) (b:Str),b.length+total l≤1000000000→M.strings_Join_loop2 [10] l b=some (b++tailN l)
 | [],b,_=>by simp [M.strings_Join_loop2,tailN]
 | x :: l,b,h=>by
  have ht:total (x :: l)=x.length+1+total l:=by simp [total]
  rw [ht] at h
  simp only [M.strings_Join_loop2]
  rw [appC_eq (by simp;omega),Option.bind_some,appC_eq (by simp;omega),Option.bind_some,join_loop2N l _ (by simp;omega)]
  simp [tailN]
theorem join_twoN(x y:Str)(l:List Str)(h:total (x :: y :: l)≤400000000):M.strings_Join (x :: y :: l) [10]=some (joinN (x :: y :: l)):=by
 have hlen:=total_len (x :: y :: l)
 have h1:((x :: y :: l).length:Int)=((l.length+2:Nat):Int):=by simp;omega
 have ht:total (x :: y :: l)=x.length+1+total (y :: l):=by simp [total]
 have hlen':l.length+2≤total (x :: y :: l):=by simpa using hlen
 have hs:(([10]:Str).length:Int)=1:=rfl
 have e1:((l.length+2:Nat):Int)-1=((l.length+1:Nat):Int):=by omega
 have hsub:subC ((l.length+2:Nat):Int) 1=some ((l.length+1:Nat):Int):=by rw [subC_eq (by omega) (by omega),e1]
 obtain ⟨q,hq,hq2⟩:=quo_max (l.length+1) (by omega) (by omega)
 have hmul:mulC (1:Int) ((l.length+1:Nat):Int)=some ((l.length+1:Nat):Int):=by rw [mulC_eq (by omega) (by omega),Int.one_mul]
 have hadd:addC (0:Int) ((l.length+1:Nat):Int)=some ((l.length+1:Nat):Int):=by rw [addC_eq (by omega) (by omega),Int.zero_add]
 obtain ⟨m,hm,hle⟩:=join_loop1 (x :: y :: l) (l.length+1) (by omega)
 have hg:growC (m:Int)=some ():=by
  unfold growC
  rw [if_pos]
  omega
 have hsl:slcLo (x :: y :: l) (1:Int)=some (y :: l):=by
  unfold slcLo
  rw [if_pos (by simp;omega)]
  rfl
 have n0:¬ ((l.length+2:Nat):Int)=0:=by omega
 have n1:¬ ((l.length+2:Nat):Int)=1:=by omega
 have n2:(0:Int)< 1:=by omega
 have n3:¬ ((q:Nat):Int)≤1:=by omega
 have ha0:appC ([]:Str) x=some x:=by rw [appC_eq (by simp;omega)];rfl
 have hl2:M.strings_Join_loop2 [10] (y :: l) x=some (x++tailN (y :: l)):=join_loop2N (y :: l) x (by omega)
 unfold M.strings_Join
 rw [h1,if_neg n0,if_neg n1,hs,if_pos n2,hsub,Option.bind_some,hq,Option.bind_some]
 rw [if_neg n3]
 rw [Option.bind_some,Option.bind_some,hmul,Option.bind_some,hadd,Option.bind_some,Option.bind_some,hm,Option.bind_some,hg,Option.bind_some,idx_zero,Option.bind_some,ha0,Option.bind_some,hsl,Option.bind_some,hl2,Option.bind_some]
 rfl
theorem join_okN(l:List Str)(h:total l≤400000000):M.strings_Join l [10]=some (joinN l):=by
 cases l with
 | nil=>rfl
 | cons x l=>
  cases l with
  | nil=>
   unfold M.strings_Join
   rw [if_neg (by simp),if_pos (by simp),idx_zero,Option.bind_some]
   simp [joinN,tailN]
  | cons y l=>exact join_twoN x y l h
end Go.Proofs.YtofaogkcifaioaaDoor
