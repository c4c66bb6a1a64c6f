import Derived.Test.YtalogjkalmkpjaaGreatDoorMdl
import Derived.Test.YtalogjkalmkpjaaGreatDoorEv
import Derived.Test.YtalogjkalmkpjaaGreatDoorDec13
import Derived.KernelRfl
/-
  Words, texts and their pieces: what other chapters' texts hold too (picked by wip/scripts/pick.py).
-/
set_option linter.unusedVariables false
set_option linter.unusedSimpArgs false
namespace Go.Proofs.YtalogjkalmkpjaaGreatDoor
open Go Go.Dec
def tailS(l:List Str):Str:=l.flatMap (fun x=>32 :: x)
def joinS:List Str→Str
 | []=>[]
 | a :: l=>a++tailS l
theorem tailS_append(a b:List Str):tailS (a++b)=tailS a++tailS b:=by simp [tailS]
def total(l:List Str):Nat:=(l.map (fun x=>x.length+1)).sum
theorem total_len(l:List Str):l.length≤total l:=by
 unfold total
 induction l with
 | nil=>simp
 | cons x l ih=>simp;omega
theorem tail_len(l:List Str):(tailS l).length=total l:=by
 unfold tailS total
 induction l with
 | nil=>rfl
 | cons x l ih=>simp [ih];omega
theorem join_loop1:∀ (l:List Str) (n:Nat),n+total l≤1000000000→∃ m:Nat,M.strings_Join_loop1 l (n:Int)=some (m:Int)∧m≤n+total l
 | [],n,h=>⟨n,rfl,by omega⟩
 | x :: l,n,h=>by
  have ht:total (x :: l)=x.length+1+total l:=by simp [total]
  rw [ht] at h
  obtain ⟨m,hm,hle⟩:=join_loop1 l (n+x.length) (by omega)
  refine ⟨m,?_,by omega⟩
  simp only [M.strings_Join_loop1]
  rw [subC_eq (by omega) (by omega),Option.bind_some,if_neg (by omega),addC_eq (by omega) (by omega),Option.bind_some,←hm]
  congr 1
theorem join_loop2:∀ (l:List Str) (b:Str),b.length+total l≤1000000000→M.strings_Join_loop2 [32] l b=some (b++tailS l)
 | [],b,_=>by simp [M.strings_Join_loop2,tailS]
 | x :: l,b,h=>by
  have ht:total (x :: l)=x.length+1+total l:=by simp [total]
  rw [ht] at h
  simp only [M.strings_Join_loop2]
  rw [appC_eq (by simp;omega),Option.bind_some,appC_eq (by simp;omega),Option.bind_some,join_loop2 l _ (by simp;omega)]
  simp [tailS]
theorem tdiv_nat(a b:Nat):((a:Int).tdiv (b:Int))=((a / b:Nat):Int):=rfl
theorem quo_nat(a b:Nat)(ha:a≤9223372036854775807)(hb:1≤b):quoC (a:Int) (b:Int)=some ((a / b:Nat):Int):=by
 unfold quoC
 rw [tdiv_nat]
 have h2:=Nat.div_le_self a b
 generalize a / b=q at h2 ⊢
 rw [if_pos]
 refine ⟨by omega,?_⟩
 simp only [fits64,Bool.and_eq_true,decide_eq_true_eq]
 omega
theorem quo_max'(a k:Nat)(ha1:4000000000≤a)(ha2:a≤9223372036854775807)(h1:1≤k)(h2:k≤1000000000):∃ q:Nat,quoC (a:Int) (k:Int)=some (q:Int)∧2≤q:=
 ⟨a / k,quo_nat a k ha2 h1,by rw [Nat.le_div_iff_mul_le (by omega)];omega⟩
theorem maxI:(9223372036854775807:Int)=((9223372036854775807:Nat):Int):=rfl
theorem quo_max(k:Nat)(h1:1≤k)(h2:k≤1000000000):∃ q:Nat,quoC (9223372036854775807:Int) (k:Int)=some (q:Int)∧2≤q:=
 maxI▸quo_max' 9223372036854775807 k (by decide) (by decide) h1 h2
theorem join_two(x y:Str)(l:List Str)(h:total (x :: y :: l)≤400000000):M.strings_Join (x :: y :: l) [32]=some (joinS (x :: y :: l)):=by
 have hlen:=total_len (x :: y :: l)
 have h1:((x :: y :: l).length:Int)=((l.length+2:Nat):Int):=by simp;omega
 have ht:total (x :: y :: l)=x.length+1+total (y :: l):=by simp [total]
 have hlen':l.length+2≤total (x :: y :: l):=by simpa using hlen
 have hs:(([32]:Str).length:Int)=1:=rfl
 have e1:((l.length+2:Nat):Int)-1=((l.length+1:Nat):Int):=by omega
 have hsub:subC ((l.length+2:Nat):Int) 1=some ((l.length+1:Nat):Int):=by rw [subC_eq (by omega) (by omega),e1]
 obtain ⟨q,hq,hq2⟩:=quo_max (l.length+1) (by omega) (by omega)
 have hmul:mulC (1:Int) ((l.length+1:Nat):Int)=some ((l.length+1:Nat):Int):=by rw [mulC_eq (by omega) (by omega),Int.one_mul]
 have hadd:addC (0:Int) ((l.length+1:Nat):Int)=some ((l.length+1:Nat):Int):=by rw [addC_eq (by omega) (by omega),Int.zero_add]
 obtain ⟨m,hm,hle⟩:=join_loop1 (x :: y :: l) (l.length+1) (by omega)
 have hg:growC (m:Int)=some ():=by
  unfold growC
  rw [if_pos]
  omega
 have hsl:slcLo (x :: y :: l) (1:Int)=some (y :: l):=by
  unfold slcLo
  rw [if_pos (by simp;omega)]
  rfl
 have n0:¬ ((l.length+2:Nat):Int)=0:=by omega
 have n1:¬ ((l.length+2:Nat):Int)=1:=by omega
 have n2:(0:Int)< 1:=by omega
 have n3:¬ ((q:Nat):Int)≤1:=by omega
 have ha0:appC ([]:Str) x=some x:=by rw [appC_eq (by simp;omega)];rfl
 have hl2:M.strings_Join_loop2 [32] (y :: l) x=some (x++tailS (y :: l)):=join_loop2 (y :: l) x (by omega)
 unfold M.strings_Join
 rw [h1,if_neg n0,if_neg n1,hs,if_pos n2,hsub,Option.bind_some,hq,Option.bind_some]
 rw [if_neg n3]
 rw [Option.bind_some,Option.bind_some,hmul,Option.bind_some,hadd,Option.bind_some,Option.bind_some,hm,Option.bind_some,hg,Option.bind_some,idx_zero,Option.bind_some,ha0,Option.bind_some,hsl,Option.bind_some,hl2,Option.bind_some]
 rfl
theorem join_ok(l:List Str)(h:total l≤400000000):M.strings_Join l [32]=some (joinS l):=by
 cases l with
 | nil=>rfl
 | cons x l=>
  cases l with
  | nil=>
   unfold M.strings_Join
   rw [if_neg (by simp),if_pos (by simp),idx_zero,Option.bind_some]
   simp [joinS,tailS]
  | cons y l=>exact join_two x y l h
def chB(b:UInt8):Bool:=decide (33≤b.toNat) && decide (b.toNat≤126)
def wordB(s:Str):Bool:=decide (1≤s.length) && decide (s.length≤24) && s.all chB
def seqB(l:List Str):Bool:=decide (l.length≤256) && l.all wordB
theorem word_r(s:Str):To (fun n=>M.r04_Word n s) (wordB s):=by
 have loop:∀ (xs:Str) (i:Nat),s.drop i=xs→To (fun n=>M.r04_Word_loop1 s n (i:Int)) (if xs.all chB=true then .inl () else .inr false):=by
  intro xs
  induction xs with
  | nil=>
   intro i hx
   refine To.succ ?_
   simp only [M.r04_Word_loop1]
   exact To.neg (drop_end hx) To.pure
  | cons x xs ih=>
   intro i hx
   refine To.succ ?_
   simp only [M.r04_Word_loop1]
   refine To.pos (drop_lt hx) (To.bindS (drop_idx hx) ?_)
   by_cases h1:(x.toNat:Int)< 33
   ·refine To.pos h1 (To.pure.of ?_)
    have:chB x=false:=by simp [chB];omega
    simp [this]
   ·refine To.neg h1 (To.bindS (drop_idx hx) ?_)
    by_cases h2:(126:Int)< (x.toNat:Int)
    ·refine To.pos h2 (To.pure.of ?_)
     have:chB x=false:=by simp [chB];omega
     simp [this]
    ·refine To.neg h2 ?_
     rw [cast_succ]
     have:chB x=true:=by simp [chB];omega
     exact (ih (i+1) (drop_next hx)).of (by simp [this])
 simp only [M.r04_Word]
 by_cases h1:(s.length:Int)< 1
 ·refine To.bind (a:=true) (To.pos h1 To.pure) (To.pos rfl (To.pure.of ?_))
  have:¬ 1≤s.length:=by omega
  simp [wordB,this]
 ·by_cases h2:(24:Int)< (s.length:Int)
  ·refine To.bind (a:=true) (To.neg h1 (To.pure.of (by simp [h2]))) (To.pos rfl (To.pure.of ?_))
   have:¬ s.length≤24:=by omega
   simp [wordB,this]
  ·refine To.bind (a:=false) (To.neg h1 (To.pure.of (by simp [h2]))) (To.neg (by simp) (To.bind (loop s 0 rfl) ?_))
   have k1:1≤s.length:=by omega
   have k2:s.length≤24:=by omega
   by_cases ha:s.all chB=true
   ·rw [if_pos ha]
    refine To.pure.of ?_
    simp only [wordB,k1,k2,ha,decide_true,Bool.and_self]
   ·rw [if_neg ha]
    have ha':s.all chB=false:=by simpa using ha
    refine To.pure.of ?_
    simp only [wordB,ha',Bool.and_false]
theorem has_s(l:List Str)(f:Nat→Str→Option Bool)(p:Str→Bool)(hf:∀ x,x∈l→To (fun n=>f n x) (p x)):To (fun n=>M.slices_ContainsFunc_string_string n l (f n)) (l.any p):=by
 have loop:∀ (xs:List Str) (f:Nat→Str→Option Bool) (i:Nat),(∀ x,x∈xs→To (fun n=>f n x) (p x))→l.drop i=xs→∃ r,To (fun n=>M.slices_IndexFunc_string_string_loop1 l (f n) n (i:Int)) r∧((xs.any p=true∧ ∃ k:Nat,r= .inr (k:Int))∨(xs.any p=false∧r= .inl ())):=by
  intro xs
  induction xs with
  | nil=>
   intro f i _ hx
   refine ⟨.inl (),To.succ ?_,.inr ⟨rfl,rfl⟩⟩
   simp only [M.slices_IndexFunc_string_string_loop1]
   exact To.neg (drop_end hx) To.pure
  | cons x xs ih=>
   intro f i hf hx
   have h1:=hf x (by simp)
   by_cases hp:p x=true
   ·refine ⟨.inr (i:Int),To.succ ?_,.inl ⟨by simp [hp],i,rfl⟩⟩
    simp only [M.slices_IndexFunc_string_string_loop1]
    exact To.pos (drop_lt hx) (To.bindS (drop_idx hx) (To.bind h1.shift (To.pos hp To.pure)))
   ·have hp':p x=false:=by simpa using hp
    obtain ⟨r,ht,hr⟩:=ih (fun n=>f (n+1)) (i+1) (fun y hy=>(hf y (by simp [hy])).shift) (drop_next hx)
    refine ⟨r,To.succ ?_,by simpa [hp'] using hr⟩
    simp only [M.slices_IndexFunc_string_string_loop1]
    rw [cast_succ]
    exact To.pos (drop_lt hx) (To.bindS (drop_idx hx) (To.bind h1.shift (To.neg hp ht)))
 obtain ⟨r,ht,hr⟩:=loop l f 0 hf rfl
 simp only [M.slices_ContainsFunc_string_string,M.slices_IndexFunc_string_string]
 rcases hr with ⟨ha,k,rfl⟩ | ⟨ha,rfl⟩
 ·refine To.bind (a:=(k:Int)) (To.bind ht To.pure) (To.pure.of ?_)
  simp [ha]
 ·refine To.bind (a:=(-1:Int)) (To.bind ht To.pure) (To.pure.of ?_)
  simp [ha]
theorem has_b(l:Str):To (fun n=>M.slices_ContainsFunc_byte_byte n (bytesOf l) (fun s0=>M.wordseq_word_1 s0)) (l.any fun b=>!chB b):=by
 have hd:∀ (i:Nat) (x:UInt8) (xs:Str),l.drop i=x :: xs→idx (bytesOf l) (i:Int)=some (x.toNat:Int)∧(i:Int)< ((bytesOf l).length:Int):=by
  intro i x xs hx
  obtain ⟨h1,h2,_⟩:=drop_cons hx
  refine ⟨?_,by simp [bytesOf];omega⟩
  rw [idx_nat]
  simp [bytesOf,h2]
 have loop:∀ (xs:Str) (i:Nat),l.drop i=xs→∃ r,To (fun n=>M.slices_IndexFunc_byte_byte_loop1 (bytesOf l) (fun s0=>M.wordseq_word_1 s0) n (i:Int)) r∧(((xs.any fun b=>!chB b)=true∧ ∃ k:Nat,r= .inr (k:Int))∨((xs.any fun b=>!chB b)=false∧r= .inl ())):=by
  intro xs
  induction xs with
  | nil=>
   intro i hx
   refine ⟨.inl (),To.succ ?_,.inr ⟨rfl,rfl⟩⟩
   simp only [M.slices_IndexFunc_byte_byte_loop1]
   have:=drop_end hx
   exact To.neg (by simp [bytesOf];omega) To.pure
  | cons x xs ih=>
   intro i hx
   obtain ⟨h1,h2⟩:=hd i x xs hx
   have hw:M.wordseq_word_1 (x.toNat:Int)=some (!chB x):=by
    simp only [M.wordseq_word_1,chB]
    by_cases hc:(x.toNat:Int)< 33
    ·rw [if_pos hc]
     have:¬ 33≤x.toNat:=by omega
     simp [this]
    ·rw [if_neg hc]
     have:33≤x.toNat:=by omega
     by_cases hc2:(126:Int)< (x.toNat:Int)
     ·have:¬ x.toNat≤126:=by omega
      simp [hc2,this]
     ·have h3:x.toNat≤126:=by omega
      simp [hc2,this,h3]
   by_cases hp:chB x=true
   ·obtain ⟨r,ht,hr⟩:=ih (i+1) (drop_next hx)
    refine ⟨r,To.succ ?_,by simpa [hp] using hr⟩
    simp only [M.slices_IndexFunc_byte_byte_loop1]
    rw [cast_succ]
    exact To.pos h2 (To.bindS h1 (To.bindS hw (To.neg (by simp [hp]) ht)))
   ·have hp':chB x=false:=by simpa using hp
    refine ⟨.inr (i:Int),To.succ ?_,.inl ⟨by simp [hp'],i,rfl⟩⟩
    simp only [M.slices_IndexFunc_byte_byte_loop1]
    exact To.pos h2 (To.bindS h1 (To.bindS hw (To.pos (by simp [hp']) To.pure)))
 obtain ⟨r,ht,hr⟩:=loop l 0 rfl
 simp only [M.slices_ContainsFunc_byte_byte,M.slices_IndexFunc_byte_byte]
 rcases hr with ⟨ha,k,rfl⟩ | ⟨ha,rfl⟩
 ·refine To.bind (a:=(k:Int)) (To.bind ht To.pure) (To.pure.of ?_)
  rw [ha];simp
 ·refine To.bind (a:=(-1:Int)) (To.bind ht To.pure) (To.pure.of ?_)
  rw [ha];simp
theorem any_not{α:Type}(p:α→Bool)(l:List α):(l.any fun b=>!p b)= !l.all p:=by
 induction l with
 | nil=>rfl
 | cons x l ih=>simp only [List.any_cons,List.all_cons,ih];cases p x<;> simp
theorem word_w(s:Str):To (fun n=>M.wordseq_word n s) (wordB s):=by
 simp only [M.wordseq_word]
 by_cases h1:s= []
 ·refine To.neg (by simp [h1]) (To.pure.of ?_)
  simp [h1,wordB]
 ·have k1:1≤s.length:=List.length_pos_iff.2 h1
  refine To.pos (by simp [h1]) ?_
  by_cases h2:(s.length:Int)≤24
  ·have k2:s.length≤24:=by omega
   refine To.pos h2 (To.bind (has_b s) (To.pure.of ?_))
   rw [any_not]
   simp only [wordB,k1,k2,decide_true,Bool.true_and,Bool.not_not]
  ·refine To.neg h2 (To.pure.of ?_)
   have:¬ s.length≤24:=by omega
   simp [wordB,this]
theorem valid_w(l:List Str):To (fun n=>M.wordseq_Valid n l) (seqB l):=by
 simp only [M.wordseq_Valid]
 by_cases h:(l.length:Int)≤256
 ·have k:l.length≤256:=by omega
  refine To.pos h (To.bind (has_s l (fun n s0=>M.wordseq_Valid_1 n s0) (fun s=>!wordB s) fun x _=>?_) (To.pure.of ?_))
  ·simp only [M.wordseq_Valid_1]
   exact To.bind (word_w x) To.pure
  ·rw [any_not]
   simp only [seqB,k,decide_true,Bool.true_and,Bool.not_not]
 ·refine To.neg h (To.pure.of ?_)
  have:¬ l.length≤256:=by omega
  simp [seqB,this]
theorem splitC_cons(c:UInt8)(s:Str):∃ p ps,splitC c s=p :: ps:=by
 cases s with
 | nil=>exact ⟨_,_,rfl⟩
 | cons b l=>
  unfold splitC
  split
  ·exact ⟨_,_,rfl⟩
  ·split
   ·exact ⟨_,_,rfl⟩
   ·exact ⟨_,_,rfl⟩
theorem splitC_hit(l:Str):splitC 32 (32 :: l)= [] :: splitC 32 l:=by rw [splitC,if_pos rfl]
theorem splitC_miss{b:UInt8}{l p:Str}{ps:List Str}(h:b≠32)(k:splitC 32 l=p :: ps):splitC 32 (b :: l)=(b :: p) :: ps:=by
 rw [splitC,if_neg h,k]
def pcs(s:Str):List Str:=if s= [] then [] else splitC 32 s
theorem pieces_loop(s:Str)(hs:s.length≤1000000):∀ (xs p:Str) (ps:List Str) (i from0:Nat) (out:List Str),s.drop i=xs→i≤s.length→from0≤i→out.length≤i→splitC 32 xs=p :: ps→
  To (fun n=>M.r04_Pieces_loop1 s n out (from0:Int) (i:Int)) (out++((s.take i).drop from0++p) :: ps):=by
 intro xs
 induction xs with
 | nil=>
  intro p ps i from0 out hx hi hf ho hp
  have hp':[[]]=p :: ps:=hp
  cases hp'
  have hlen:i=s.length:=by
   have:=congrArg List.length hx
   simp at this;omega
  refine To.succ ?_
  simp only [M.r04_Pieces_loop1]
  refine To.pos (by omega) (To.bind (a:=true) (To.pos (by omega) To.pure) (To.pos rfl (To.bindS (slc_nat _ _ _ hf hi) (To.bindS (appC_eq (by simp;omega)) (To.bindS (addC_succ (by omega)) (To.bindS (addC_succ (by omega)) ?_))))))
  refine To.succ ?_
  simp only [M.r04_Pieces_loop1]
  exact To.neg (by omega) (To.pure.of (by simp))
 | cons b l ih=>
  intro p ps i from0 out hx hi hf ho hp
  obtain ⟨h1,h2,h3⟩:=drop_cons hx
  obtain ⟨q,qs,hq⟩:=splitC_cons 32 l
  refine To.succ ?_
  simp only [M.r04_Pieces_loop1]
  refine To.pos (by omega) ?_
  by_cases hb:b=32
  ·subst hb
   rw [splitC_hit,hq] at hp
   cases hp
   refine To.bind (a:=true) (To.neg (by omega) (To.bindS (drop_idx hx) (To.pure.of (by decide)))) (To.pos rfl (To.bindS (slc_nat _ _ _ hf hi) (To.bindS (appC_eq (by simp;omega)) (To.bindS (addC_succ (by omega)) (To.bindS (addC_succ (by omega)) ?_)))))
   refine (ih q qs (i+1) (i+1) _ h3 (by omega) (Nat.le_refl _) (by simp;omega) hq).of ?_
   have:(s.take (i+1)).drop (i+1)= []:=List.drop_eq_nil_of_le (by simp;omega)
   rw [this];simp
  ·rw [splitC_miss hb hq] at hp
   cases hp
   have hn:¬ ((b.toNat:Int)=32):=fun e=>hb (UInt8.toNat_inj.1 (by have:(32:UInt8).toNat=32:=rfl;omega))
   refine To.bind (a:=false) (To.neg (by omega) (To.bindS (drop_idx hx) (To.pure.of (by simp only [hn,decide_false])))) (To.neg (by simp) (To.bindS (addC_succ (by omega)) ?_))
   refine (ih q _ (i+1) from0 out h3 (by omega) (by omega) (by omega) hq).of ?_
   have:(s.take (i+1)).drop from0=(s.take i).drop from0++ [b]:=by
    rw [List.take_add_one,h2,List.drop_append_of_le_length (by simp;omega)]
    rfl
   rw [this];simp
theorem pieces_r(s:Str)(hs:s.length≤1000000):To (fun n=>M.r04_Pieces n s) (pcs s):=by
 simp only [M.r04_Pieces]
 unfold pcs
 by_cases h:s= []
 ·subst h
  exact To.pos rfl To.pure
 ·refine To.neg (by simpa using h) ?_
  rw [if_neg h]
  obtain ⟨q,qs,hq⟩:=splitC_cons 32 s
  refine To.bind (pieces_loop s hs s q qs 0 0 [] rfl (Nat.zero_le _) (Nat.le_refl _) (Nat.zero_le _) hq) (To.pure.of ?_)
  rw [hq];simp
theorem split_tail:∀ (xs:List Str),(∀ y∈xs,(32:UInt8) ∉ y)→∀ x:Str,(32:UInt8) ∉ x→splitC 32 (x++tailS xs)=x :: xs:=by
 intro xs
 induction xs with
 | nil=>
  intro _ x hx
  simp only [tailS,List.flatMap_nil,List.append_nil]
  induction x with
  | nil=>rfl
  | cons b x ihx=>
   simp only [List.mem_cons,not_or] at hx
   exact splitC_miss (fun e=>hx.1 e.symm) (ihx hx.2)
 | cons y ys ih=>
  intro h x hx
  induction x with
  | nil=>
   have:tailS (y :: ys)=32 :: (y++tailS ys):=by simp [tailS]
   rw [List.nil_append,this,splitC_hit,ih (fun z hz=>h z (List.mem_cons_of_mem _ hz)) y (h y List.mem_cons_self)]
  | cons b x ihx=>
   simp only [List.mem_cons,not_or] at hx
   rw [List.cons_append]
   exact splitC_miss (fun e=>hx.1 e.symm) (ihx hx.2)
theorem word_no{x:Str}(h:wordB x=true):(32:UInt8) ∉ x:=by
 intro hm
 unfold wordB at h
 simp only [Bool.and_eq_true] at h
 have:=List.all_eq_true.1 h.2 _ hm
 revert this
 decide
end Go.Proofs.YtalogjkalmkpjaaGreatDoor
/-
  Rows of tracked words: how they are written, by the program and by the reference.
-/
set_option linter.unusedVariables false
set_option linter.unusedSimpArgs false
namespace Go.Proofs.YtalogjkalmkpjaaGreatDoor
open Go Go.Dec
abbrev TW:=api_TrackedWord
def spB(b:UInt8):Bool:=decide (b=91) || decide (b=93) || decide (b=43) || decide (b=45) || decide (b=124) || decide (b=35) || decide (b=92)
theorem contains_one(c:UInt8):∀ l:List UInt8,Lib.contains l [c]=decide (c∈l)
 | []=>by
  unfold Lib.contains
  have:Lib.index [] [c]= -1:=by unfold Lib.index;rfl
  rw [this];simp
 | b :: l=>by
  have ih:=contains_one c l
  have hpre:([c]:List UInt8).isPrefixOf (b :: l)=(c==b):=by simp [List.isPrefixOf]
  unfold Lib.contains at ih ⊢
  by_cases hb:c=b
  ·have hi:Lib.index (b :: l) [c]=0:=by
    unfold Lib.index
    rw [hpre,hb];simp
   rw [hi];simp [hb]
  ·have hi:Lib.index (b :: l) [c]=if Lib.index l [c]== -1 then -1 else Lib.index l [c]+1:=by
    rw [Lib.index,hpre]
    have:(c==b)=false:=by simpa using hb
    rw [this];rfl
   have hge:Lib.index l [c]= -1∨0≤Lib.index l [c]:=by
    rcases Lib.index_spec l [c] with ⟨h1,_⟩ | ⟨i,h1,_⟩
    ·exact .inl h1
    ·exact .inr (by omega)
   rw [hi]
   rcases hge with h | h
   ·rw [h] at ih ⊢
    have:¬ c∈l:=by simpa using ih
    simp [hb,this]
   ·have h5:(Lib.index l [c]== -1)=false:=by simp;omega
    have:c∈l:=by
     have:=ih.symm
     rw [decide_eq_true h] at this
     simpa using this
    rw [h5]
    simp [this];omega
theorem special_m(b:UInt8):containsM ([91,93,43,45,124,35,92]:Str) [b]=some (spB b):=by
 unfold containsM
 rw [if_pos (by decide),contains_one]
 unfold spB
 simp [Bool.or_assoc]
def esc(s:Str):Str:=match s with
 | []=>[]
 | b :: l=>if spB b=true then 92 :: b :: l else b :: l
theorem escape_ok(s:Str)(h:s≠ [])(hl:s.length≤1000):M.markup_escape s=some (esc s):=by
 cases s with
 | nil=>exact absurd rfl h
 | cons b l=>
  simp only [M.markup_escape]
  have h1:slcHi (b :: l) (1:Int)=some [b]:=by
   unfold slcHi
   rw [if_pos ⟨by decide,by simp;omega⟩];rfl
  rw [h1,Option.bind_some,special_m,Option.bind_some]
  by_cases hb:spB b=true
  ·rw [if_pos hb,catC_eq (by simp at hl ⊢;omega)]
   simp [esc,hb]
  ·rw [if_neg hb]
   simp [esc,hb]
def stB(w:TW):Bool:=wordB w.Text && (decide (0≤w.State) && decide (w.State≤2))
def rowB(l:List TW):Bool:=decide (l.length≤512) && l.all stB
theorem isWord_ok(s:Str):To (fun n=>M.markup_isWord n s) (wordB s):=by
 simp only [M.markup_isWord]
 refine To.bind (valid_w [s]) (To.pure.of ?_)
 simp [seqB]
theorem has_tw(l:List TW)(f:Nat→TW→Option Bool)(p:TW→Bool)(hf:∀ x,x∈l→To (fun n=>f n x) (p x)):To (fun n=>M.slices_ContainsFunc_api_TrackedWord_api_TrackedWord n l (f n)) (l.any p):=by
 have loop:∀ (xs:List TW) (f:Nat→TW→Option Bool) (i:Nat),(∀ x,x∈xs→To (fun n=>f n x) (p x))→l.drop i=xs→∃ r,To (fun n=>M.slices_IndexFunc_api_TrackedWord_api_TrackedWord_loop1 l (f n) n (i:Int)) r∧((xs.any p=true∧ ∃ k:Nat,r= .inr (k:Int))∨(xs.any p=false∧r= .inl ())):=by
  intro xs
  induction xs with
  | nil=>
   intro f i _ hx
   refine ⟨.inl (),To.succ ?_,.inr ⟨rfl,rfl⟩⟩
   simp only [M.slices_IndexFunc_api_TrackedWord_api_TrackedWord_loop1]
   exact To.neg (drop_end hx) To.pure
  | cons x xs ih=>
   intro f i hf hx
   have h1:=hf x (by simp)
   by_cases hp:p x=true
   ·refine ⟨.inr (i:Int),To.succ ?_,.inl ⟨by simp [hp],i,rfl⟩⟩
    simp only [M.slices_IndexFunc_api_TrackedWord_api_TrackedWord_loop1]
    exact To.pos (drop_lt hx) (To.bindS (drop_idx hx) (To.bind h1.shift (To.pos hp To.pure)))
   ·have hp':p x=false:=by simpa using hp
    obtain ⟨r,ht,hr⟩:=ih (fun n=>f (n+1)) (i+1) (fun y hy=>(hf y (by simp [hy])).shift) (drop_next hx)
    refine ⟨r,To.succ ?_,by simpa [hp'] using hr⟩
    simp only [M.slices_IndexFunc_api_TrackedWord_api_TrackedWord_loop1]
    rw [cast_succ]
    exact To.pos (drop_lt hx) (To.bindS (drop_idx hx) (To.bind h1.shift (To.neg hp ht)))
 obtain ⟨r,ht,hr⟩:=loop l f 0 hf rfl
 simp only [M.slices_ContainsFunc_api_TrackedWord_api_TrackedWord,M.slices_IndexFunc_api_TrackedWord_api_TrackedWord]
 rcases hr with ⟨ha,k,rfl⟩ | ⟨ha,rfl⟩
 ·refine To.bind (a:=(k:Int)) (To.bind ht To.pure) (To.pure.of ?_)
  simp [ha]
 ·refine To.bind (a:=(-1:Int)) (To.bind ht To.pure) (To.pure.of ?_)
  simp [ha]
theorem vrow1_ok(w:TW):To (fun n=>M.markup_validRow_1 n w) (!stB w):=by
 simp only [M.markup_validRow_1]
 refine To.bind (isWord_ok w.Text) ?_
 unfold stB
 by_cases h1:wordB w.Text=true
 ·rw [h1]
  by_cases h2:w.State<0
  ·have h0:¬ (0:Int)≤w.State:=by omega
   exact To.neg (by simp) (To.pos h2 (To.pure.of (by simp [h0])))
  ·have h0:(0:Int)≤w.State:=by omega
   exact To.neg (by simp) (To.neg h2 (To.pure.of (by by_cases h3:w.State≤2<;> simp [h0,h3]<;> omega)))
 ·have h1':wordB w.Text=false:=by simpa using h1
  rw [h1']
  exact To.pos rfl (To.pure.of (by simp))
theorem vrow_ok(l:List TW):To (fun n=>M.markup_validRow n l) (rowB l):=by
 simp only [M.markup_validRow]
 unfold rowB
 by_cases h:(l.length:Int)≤512
 ·have h':l.length≤512:=by omega
  refine To.pos h (To.bind (has_tw l _ (fun w=>!stB w) (fun x _=>vrow1_ok x)) (To.pure.of ?_))
  rw [any_not]
  simp [h']
 ·have h':¬ l.length≤512:=by omega
  exact To.neg h (To.pure.of (by simp [h']))
theorem mrow_loop(l:List TW):∀ (xs:List TW) (i:Nat),l.drop i=xs→To (fun n=>M.r53_MayRow_loop1 l n (i:Int)) (if xs.all stB=true then .inl () else .inr false)
 | [],i,hx=>by
  refine To.succ ?_
  simp only [M.r53_MayRow_loop1]
  exact To.neg (drop_end hx) (To.pure.of rfl)
 | w :: xs,i,hx=>by
  refine To.succ ?_
  simp only [M.r53_MayRow_loop1]
  refine To.pos (drop_lt hx) (To.bindS (drop_idx hx) (To.bind (word_r w.Text) ?_))
  have ih:=mrow_loop l xs (i+1) (drop_next hx)
  by_cases h1:wordB w.Text=true
  ·by_cases h2:w.State<0
   ·refine To.neg (by rw [h1];decide) (To.bindS (drop_idx hx) (To.pos h2 (To.pure.of ?_)))
    have:¬ (0:Int)≤w.State:=by omega
    rw [if_neg]
    simp [stB,this]
   ·refine To.neg (by rw [h1];decide) (To.bindS (drop_idx hx) (To.neg h2 (To.bindS (drop_idx hx) ?_)))
    by_cases h3:2<w.State
    ·refine To.pos h3 (To.pure.of ?_)
     have:¬ w.State≤2:=by omega
     rw [if_neg]
     simp [stB,this]
    ·refine To.neg h3 ?_
     rw [cast_succ]
     refine ih.of ?_
     have a1:(0:Int)≤w.State:=by omega
     have a2:w.State≤2:=by omega
     simp [stB,h1,a1,a2]
  ·have h1':wordB w.Text=false:=by simpa using h1
   refine To.pos h1' (To.pure.of ?_)
   rw [if_neg]
   simp [stB,h1']
theorem mrow_ok(l:List TW):To (fun n=>M.r53_MayRow n l) (rowB l):=by
 simp only [M.r53_MayRow]
 refine To.bind (mrow_loop l l 0 rfl) ?_
 unfold rowB
 by_cases h:l.all stB=true
 ·rw [if_pos h]
  refine To.pure.of ?_
  rw [h,Bool.and_true]
  exact decide_eq_decide.2 (by omega)
 ·rw [if_neg h]
  refine To.pure.of ?_
  have:l.all stB=false:=by simpa using h
  rw [this,Bool.and_false]
def opS(s:Int):Str:=if s=1 then [91,43,32] else if s=2 then [91,45,32] else []
def shS(s:Int):Str:=if s=1 then [32,43,93] else if s=2 then [32,45,93] else []
def lastB(s:Int)(l:List TW):Bool:=match l with
 | []=>true
 | w :: _=>decide (w.State≠s)
def rowT:Option Int→List TW→Str
 | _,[]=>[]
 | p,w :: l=>(if p.isSome then [32] else [])++((if p=some w.State then [] else opS w.State)++(esc w.Text++((if lastB w.State l=true then shS w.State else [])++rowT (some w.State) l)))
theorem op_at{s:Int}(h0:0≤s)(h2:s≤2):idx gv0 s=some (opS s):=by
 have:s=0∨s=1∨s=2:=by omega
 rcases this with rfl | rfl | rfl<;> rfl
theorem sh_at{s:Int}(h0:0≤s)(h2:s≤2):idx gv1 s=some (shS s):=by
 have:s=0∨s=1∨s=2:=by omega
 rcases this with rfl | rfl | rfl<;> rfl
theorem stB_iff{w:TW}:stB w=true ↔ wordB w.Text=true∧0≤w.State∧w.State≤2:=by
 unfold stB
 simp [Bool.and_eq_true]
theorem word_len{s:Str}(h:wordB s=true):1≤s.length∧s.length≤24:=by
 unfold wordB at h
 rw [Bool.and_eq_true,Bool.and_eq_true] at h
 exact ⟨of_decide_eq_true h.1.1,of_decide_eq_true h.1.2⟩
theorem esc_len(s:Str):(esc s).length≤s.length+1:=by
 unfold esc
 split
 ·simp
 ·split<;> simp
theorem opS_len(s:Int):(opS s).length≤3:=by
 unfold opS
 split
 ·decide
 ·split<;> decide
theorem shS_len(s:Int):(shS s).length≤3:=by
 unfold shS
 split
 ·decide
 ·split<;> decide
def rowF(l:List TW):Str:=if rowB l=true then rowT none l else []
end Go.Proofs.YtalogjkalmkpjaaGreatDoor
/-
  Rows of tracked words: the program's text; texts read back.
-/
set_option linter.unusedVariables false
set_option linter.unusedSimpArgs false
namespace Go.Proofs.YtalogjkalmkpjaaGreatDoor
open Go Go.Dec
def oneR(s:Int)(acc:List Str):Str:=opS s++(joinS acc++shS s)
def runsG:Int→List Str→List TW→List Str
 | s,acc,[]=>[oneR s acc]
 | s,acc,w :: l=>if w.State=s then runsG s (acc++ [esc w.Text]) l else oneR s acc :: runsG w.State [esc w.Text] l
def runsF:List TW→List Str
 | []=>[]
 | w :: l=>runsG w.State [esc w.Text] l
theorem joinS_snoc(acc:List Str)(x:Str)(h:acc≠ []):joinS (acc++ [x])=joinS acc++(32 :: x):=by
 cases acc with
 | nil=>exact absurd rfl h
 | cons a l=>simp [joinS,tailS]
theorem joinS_cons(x:Str)(l:List Str)(h:l≠ []):joinS (x :: l)=x++(32 :: joinS l):=by
 cases l with
 | nil=>exact absurd rfl h
 | cons a l=>simp [joinS,tailS]
theorem runsG_ne:∀ (xs:List TW) (s:Int) (acc:List Str),runsG s acc xs≠ []
 | [],s,acc=>by simp [runsG]
 | w :: l,s,acc=>by
  unfold runsG
  split
  ·exact runsG_ne l _ _
  ·simp
theorem runs_text:∀ (xs:List TW) (s:Int) (acc:List Str),acc≠ []→
  joinS (runsG s acc xs)=opS s++(joinS acc++((if lastB s xs=true then shS s else [])++rowT (some s) xs))
 | [],s,acc,h=>by simp [runsG,oneR,joinS,tailS,lastB,rowT]
 | w :: l,s,acc,h=>by
  unfold runsG
  by_cases hw:w.State=s
  ·rw [if_pos hw,runs_text l s _ (by simp),joinS_snoc _ _ h]
   subst hw
   simp [lastB,rowT]
  ·have hw':¬ s=w.State:=fun e=>hw e.symm
   rw [if_neg hw,joinS_cons _ _ (runsG_ne _ _ _),runs_text l _ _ (by simp)]
   simp [lastB,hw,rowT,hw',oneR,joinS,tailS]
theorem runs_row(l:List TW):joinS (runsF l)=rowT none l:=by
 cases l with
 | nil=>rfl
 | cons w l=>
  unfold runsF
  rw [runs_text l _ _ (by simp)]
  simp [rowT,joinS,tailS]
theorem joinS_len(l:List Str):(joinS l).length≤total l:=by
 cases l with
 | nil=>simp [joinS]
 | cons a l=>
  have:=tail_len l
  have e:total (a :: l)=a.length+1+total l:=rfl
  simp only [joinS,List.length_append]
  omega
theorem oneR_len(s:Int)(acc:List Str):(oneR s acc).length≤total acc+6:=by
 have h1:=opS_len s;have h2:=shS_len s;have h3:=joinS_len acc
 simp only [oneR,List.length_append]
 omega
theorem total_app(a b:List Str):total (a++b)=total a+total b:=by simp [total]
theorem total_cons(a:Str)(b:List Str):total (a :: b)=a.length+1+total b:=rfl
theorem runs_total:∀ (xs:List TW) (s:Int) (acc:List Str),xs.all stB=true→total (runsG s acc xs)≤total acc+7+40*xs.length
 | [],s,acc,_=>by
  have:=oneR_len s acc
  simp only [runsG,total_cons,show total ([]:List Str)=0 from rfl,List.length_nil]
  omega
 | w :: l,s,acc,h=>by
  rw [List.all_cons,Bool.and_eq_true] at h
  have hw:=word_len (stB_iff.1 h.1).1
  have he:=esc_len w.Text
  have h1:=oneR_len s acc
  unfold runsG
  split
  ·have:=runs_total l s (acc++ [esc w.Text]) h.2
   rw [total_app,total_cons] at this
   simp only [show total ([]:List Str)=0 from rfl,List.length_cons] at this ⊢
   omega
  ·have:=runs_total l w.State [esc w.Text] h.2
   rw [total_cons] at this
   simp only [show total ([]:List Str)=0 from rfl] at this
   rw [total_cons]
   simp only [List.length_cons]
   omega
theorem runs_split(s:Int):∀ (xs:List TW) (acc:List Str),runsG s acc xs=oneR s (acc++(xs.takeWhile fun w=>decide (w.State=s)).map fun w=>esc w.Text) :: runsF (xs.dropWhile fun w=>decide (w.State=s))
 | [],acc=>by simp [runsG,runsF]
 | w :: l,acc=>by
  unfold runsG
  by_cases hw:w.State=s
  ·rw [if_pos hw,runs_split s l]
   simp [hw]
  ·rw [if_neg hw]
   simp [hw,runsF]
theorem inner_ok(l:List TW)(hl:l.all stB=true)(hn:l.length≤512)(from0:Nat)(w0:TW)(h0:l[from0]? =some w0):∀ (xs:List TW) (i:Nat) (acc:List Str),l.drop i=xs→acc.length≤i→
  To (fun n=>M.markup_runs_i0_loop2 l (from0:Int) n (i:Int) acc) (((i+(xs.takeWhile fun w=>decide (w.State=w0.State)).length:Nat):Int),acc++(xs.takeWhile fun w=>decide (w.State=w0.State)).map fun w=>esc w.Text)
 | [],i,acc,hx,ha=>by
  refine To.succ ?_
  simp only [M.markup_runs_i0_loop2]
  exact To.neg (drop_end hx) (To.pure.of (by simp))
 | w :: xs,i,acc,hx,ha=>by
  have hw:=word_len (stB_iff.1 (List.all_eq_true.1 hl w (List.mem_of_getElem? (drop_cons hx).2.1))).1
  have hlt:=(drop_cons hx).1
  refine To.succ ?_
  simp only [M.markup_runs_i0_loop2]
  refine To.pos (drop_lt hx) (To.bindS (drop_idx hx) (To.bindS (show idx l (from0:Int)=some w0 by rw [idx_nat,h0]) ?_))
  by_cases hs:w.State=w0.State
  ·refine To.pos hs (To.bindS (drop_idx hx) (To.bindS (escape_ok w.Text (by intro e;rw [e] at hw;simp at hw) (by omega)) (To.bindS (appC_eq (by simp;omega)) ?_)))
   rw [cast_succ]
   refine (inner_ok l hl hn from0 w0 h0 xs (i+1) _ (drop_next hx) (by simp;omega)).of ?_
   simp [hs];omega
  ·refine To.neg hs (To.pure.of ?_)
   simp [hs]
theorem one_ok{s:Int}(h0:0≤s)(h2:s≤2)(words:List Str)(c:List Str)(hw:total words≤100000)(hc:c.length≤100000):M.markup_FormatWords_1 s words c=some (c++ [oneR s words]):=by
 have h1:=opS_len s;have h3:=shS_len s;have h4:=joinS_len words
 simp only [M.markup_FormatWords_1]
 rw [op_at h0 h2,Option.bind_some,join_ok _ (by omega),Option.bind_some,catC_eq (by omega),Option.bind_some,sh_at h0 h2,Option.bind_some,catC_eq (by simp;omega),Option.bind_some,appC_eq (by simp;omega),Option.bind_some]
 simp [oneR]
theorem tw_total:∀ (xs:List TW) (p:TW→Bool),xs.all stB=true→total ((xs.takeWhile p).map fun w=>esc w.Text)≤26*xs.length
 | [],p,_=>by simp [total]
 | w :: l,p,h=>by
  rw [List.all_cons,Bool.and_eq_true] at h
  have hw:=word_len (stB_iff.1 h.1).1
  have he:=esc_len w.Text
  have ih:=tw_total l p h.2
  by_cases hp:p w=true
  ·rw [List.takeWhile_cons_of_pos hp,List.map_cons,total_cons,List.length_cons]
   omega
  ·rw [List.takeWhile_cons_of_neg hp]
   simp [total]
theorem tw_len{α:Type}(p:α→Bool)(xs:List α):xs.drop (xs.takeWhile p).length=xs.dropWhile p:=by
 induction xs with
 | nil=>rfl
 | cons x xs ih=>
  by_cases hp:p x=true
  ·rw [List.takeWhile_cons_of_pos hp,List.dropWhile_cons_of_pos hp,List.length_cons,List.drop_succ_cons,ih]
  ·rw [List.takeWhile_cons_of_neg hp,List.dropWhile_cons_of_neg hp];rfl
theorem outer_ok(l:List TW)(hl:l.all stB=true)(hn:l.length≤512):∀ (m:Nat) (xs:List TW) (i:Nat) (v:List Str),xs.length≤m→l.drop i=xs→v.length≤i→
  To (fun n=>M.markup_runs_i0_loop1 l n (i:Int) v) (v++runsF xs):=by
 intro m
 induction m with
 | zero=>
  intro xs i v hm hx hv
  obtain rfl:xs= []:=List.eq_nil_of_length_eq_zero (by omega)
  refine To.succ ?_
  simp only [M.markup_runs_i0_loop1]
  exact To.neg (drop_end hx) (To.pure.of (by simp [runsF]))
 | succ m ih=>
  intro xs i v hm hx hv
  cases xs with
  | nil=>
   refine To.succ ?_
   simp only [M.markup_runs_i0_loop1]
   exact To.neg (drop_end hx) (To.pure.of (by simp [runsF]))
  | cons w xs=>
   have hlt:=(drop_cons hx).1
   have hw:=stB_iff.1 (List.all_eq_true.1 hl w (List.mem_of_getElem? (drop_cons hx).2.1))
   have hxs:xs.all stB=true:=by
    rw [List.all_eq_true] at hl ⊢
    intro y hy
    refine hl y ?_
    have:y∈l.drop i:=by rw [hx];exact List.mem_cons_of_mem _ hy
    exact List.mem_of_mem_drop this
   have hwl:=word_len hw.1
   have hel:=esc_len w.Text
   have hxl:xs.length≤512:=by
    have:=congrArg List.length hx
    simp at this;omega
   have htw:(w :: xs).takeWhile (fun y=>decide (y.State=w.State))=w :: xs.takeWhile (fun y=>decide (y.State=w.State)):=List.takeWhile_cons_of_pos (by simp)
   have htt:=tw_total xs (fun y=>decide (y.State=w.State)) hxs
   refine To.succ ?_
   simp only [M.markup_runs_i0_loop1]
   refine To.pos (drop_lt hx) (To.bind (inner_ok l hl hn i w (drop_cons hx).2.1 (w :: xs) i [] hx (Nat.zero_le _)) ?_)
   dsimp only
   rw [htw]
   refine To.bindS (drop_idx hx) (To.bindS (one_ok hw.2.1 hw.2.2 _ _ (by rw [List.nil_append,List.map_cons,total_cons];omega) (by omega)) ?_)
   have hdrop:l.drop (i+(w :: xs.takeWhile fun y=>decide (y.State=w.State)).length)=xs.dropWhile fun y=>decide (y.State=w.State):=by
    rw [←tw_len,List.length_cons,←List.drop_drop,hx,List.drop_succ_cons]
   refine (ih _ _ _ ?_ hdrop (by simp;omega)).of ?_
   ·rw [←tw_len,List.length_drop]
    simp at hm;omega
   ·show _=v++runsG w.State [esc w.Text] xs
    rw [runs_split]
    simp
theorem format_ok(l:List TW):To (fun n=>M.markup_FormatWords n l) (rowF l):=by
 simp only [M.markup_FormatWords]
 refine To.bind (vrow_ok l) ?_
 unfold rowF
 by_cases h:rowB l=true
 ·have h':=h
  unfold rowB at h'
  rw [Bool.and_eq_true] at h'
  have hn:=of_decide_eq_true h'.1
  rw [if_pos h]
  have hout:=outer_ok l h'.2 hn l.length l 0 [] (Nat.le_refl _) rfl (Nat.le_refl _)
  have ht:total (runsF l)≤100000:=by
   cases l with
   | nil=>simp [runsF,total]
   | cons w l=>
    rw [List.all_cons,Bool.and_eq_true] at h'
    have hwl:=word_len (stB_iff.1 h'.2.1).1
    have hel:=esc_len w.Text
    have:=runs_total l w.State [esc w.Text] h'.2.2
    simp only [runsF]
    rw [total_cons] at this
    simp only [show total ([]:List Str)=0 from rfl,List.length_cons] at this hn
    omega
  refine To.neg (by rw [h];decide) (To.bind ?_ (To.bindS (show M.strings_Join ([]++runsF l) [32]=some (joinS ([]++runsF l)) from join_ok _ (by rw [List.nil_append];omega)) (To.pure.of ?_)))
  ·simp only [M.markup_runs_i0]
   exact To.bind hout To.pure
  ·rw [List.nil_append,runs_row]
 ·rw [if_neg h]
  exact To.pos (by simpa using h) To.pure
def unE(s:Str):Option Str:=match s with
 | []=>none
 | 92 :: b :: l=>if spB b=true then some (b :: l) else none
 | b :: l=>if spB b=true then none else some (b :: l)
def isMk(e:Str):Option Int:=if e= [91,43] then some 1 else if e= [91,45] then some 2 else if e= [43,93] then some 0 else if e= [45,93] then some 0 else none
def opP(s:Int):List Str:=if s=1 then [[91,43]] else if s=2 then [[91,45]] else []
def shP(s:Int):List Str:=if s=1 then [[43,93]] else if s=2 then [[45,93]] else []
def pcsT:Option Int→List TW→List Str
 | _,[]=>[]
 | p,w :: l=>(if p=some w.State then [] else opP w.State)++(esc w.Text :: ((if lastB w.State l=true then shP w.State else [])++pcsT (some w.State) l))
theorem tailS_op(s:Int)(l:List Str)(x:Str):tailS (opP s++x :: l)=32 :: (opS s++(x++tailS l)):=by
 unfold opP opS
 split
 ·simp [tailS]
 ·split<;> simp [tailS]
theorem tailS_sh(s:Int)(l:List Str):tailS (shP s++l)=shS s++tailS l:=by
 unfold shP shS
 split
 ·simp [tailS]
 ·split<;> simp [tailS]
theorem pcs_tail:∀ (l:List TW) (s:Int),tailS (pcsT (some s) l)=rowT (some s) l
 | [],s=>by simp [pcsT,rowT,tailS]
 | w :: l,s=>by
  have ih:=pcs_tail l w.State
  have hb:tailS ((if lastB w.State l=true then shP w.State else [])++pcsT (some w.State) l)=(if lastB w.State l=true then shS w.State else [])++rowT (some w.State) l:=by
   split
   ·rw [tailS_sh,ih]
   ·simpa using ih
  unfold pcsT rowT
  by_cases h:some s=some w.State
  ·rw [if_pos h,if_pos h]
   simp only [List.nil_append]
   rw [show tailS (esc w.Text :: ((if lastB w.State l=true then shP w.State else [])++pcsT (some w.State) l))=32 :: (esc w.Text++tailS ((if lastB w.State l=true then shP w.State else [])++pcsT (some w.State) l)) from by simp [tailS],hb]
   simp
  ·rw [if_neg h,if_neg h,tailS_op,hb]
   simp
theorem pcs_join(w:TW)(l:List TW):joinS (pcsT none (w :: l))=rowT none (w :: l):=by
 have h:=pcs_tail l w.State
 have hb:tailS ((if lastB w.State l=true then shP w.State else [])++pcsT (some w.State) l)=(if lastB w.State l=true then shS w.State else [])++rowT (some w.State) l:=by
  split
  ·rw [tailS_sh,h]
  ·simpa using h
 have e:∀ x:List Str,x≠ []→tailS x=32 :: joinS x:=by
  intro x hx
  cases x with
  | nil=>exact absurd rfl hx
  | cons a b=>simp [tailS,joinS]
 have h1:tailS (pcsT none (w :: l))=32 :: rowT none (w :: l):=by
  unfold pcsT rowT
  simp only [reduceCtorEq,if_false]
  rw [tailS_op,hb]
  simp
 have hne:pcsT none (w :: l)≠ []:=by unfold pcsT;simp
 rw [e _ hne] at h1
 exact (List.cons.inj h1).2
theorem esc_no{s:Str}(h:wordB s=true):(32:UInt8) ∉ esc s:=by
 have h1:=word_no h
 unfold esc
 split
 ·simp
 ·split
  ·simp at h1 ⊢;exact h1
  ·exact h1
theorem pcs_no:∀ (l:List TW) (p:Option Int),l.all stB=true→∀ x∈pcsT p l,(32:UInt8) ∉ x
 | [],p,_,x,hx=>by simp [pcsT] at hx
 | w :: l,p,h,x,hx=>by
  rw [List.all_cons,Bool.and_eq_true] at h
  have hw:=(stB_iff.1 h.1).1
  have hop:∀ s,∀ y∈opP s,(32:UInt8) ∉ y:=by
   intro s y hy
   unfold opP at hy
   split at hy
   ·rw [List.mem_singleton.1 hy];decide
   ·split at hy
    ·rw [List.mem_singleton.1 hy];decide
    ·cases hy
  have hsh:∀ s,∀ y∈shP s,(32:UInt8) ∉ y:=by
   intro s y hy
   unfold shP at hy
   split at hy
   ·rw [List.mem_singleton.1 hy];decide
   ·split at hy
    ·rw [List.mem_singleton.1 hy];decide
    ·cases hy
  unfold pcsT at hx
  rcases List.mem_append.1 hx with hx | hx
  ·split at hx
   ·cases hx
   ·exact hop _ x hx
  ·rcases List.mem_cons.1 hx with rfl | hx
   ·exact esc_no hw
   ·rcases List.mem_append.1 hx with hx | hx
    ·split at hx
     ·exact hsh _ x hx
     ·cases hx
    ·exact pcs_no l _ h.2 x hx
theorem esc_mk{s:Str}(h:wordB s=true):isMk (esc s)=none∧unE (esc s)=some s:=by
 have hl:=word_len h
 cases s with
 | nil=>simp at hl
 | cons b l=>
  by_cases hb:spB b=true
  ·have e:esc (b :: l)=92 :: b :: l:=by simp [esc,hb]
   rw [e]
   refine ⟨by simp [isMk],?_⟩
   show (if spB b=true then some (b :: l) else none)=_
   rw [if_pos hb]
  ·have e:esc (b :: l)=b :: l:=by simp [esc,hb]
   rw [e]
   have hn:b≠91∧b≠43∧b≠45∧b≠92:=by
    refine ⟨?_,?_,?_,?_⟩<;> (rintro rfl;exact hb (by decide))
   refine ⟨by simp [isMk,hn.1,hn.2.1,hn.2.2.1],?_⟩
   unfold unE
   split
   ·rename_i h;cases h
   ·rename_i h;cases h;exact absurd rfl hn.2.2.2
   ·rename_i h;cases h;rw [if_neg hb]
theorem row_len(l:List TW):(rowF l).length≤90000:=by
 unfold rowF
 split
 ·rename_i h
  have h':=h
  unfold rowB at h'
  rw [Bool.and_eq_true] at h'
  have hn:=of_decide_eq_true h'.1
  have:=joinS_len (runsF l)
  rw [runs_row] at this
  have h3:total (runsF l)≤90000:=by
   cases l with
   | nil=>simp [runsF,total]
   | cons w l=>
    rw [List.all_cons,Bool.and_eq_true] at h'
    have hwl:=word_len (stB_iff.1 h'.2.1).1
    have hel:=esc_len w.Text
    have:=runs_total l w.State [esc w.Text] h'.2.2
    simp only [runsF]
    rw [total_cons] at this
    simp only [show total ([]:List Str)=0 from rfl,List.length_cons] at this hn
    omega
  omega
 ·simp
end Go.Proofs.YtalogjkalmkpjaaGreatDoor
