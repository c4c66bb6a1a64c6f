import Derived.Test.YtalogjkalmkpjaaGreatDoorMod
import Derived.Test.YtalogjkalmkpjaaGreatDoorPc
import Derived.KernelRfl
/-
  Numerals: what Itoa writes, Atoi reads back; nothing here speaks of a program.
-/
set_option linter.unusedVariables false
set_option linter.unusedSimpArgs false
namespace Go.Proofs.YtalogjkalmkpjaaGreatDoor
open Go Go.Dec
theorem dec_small{u:Nat}(h:u<10):Lib.decDigits u= [UInt8.ofNat (48+u)]:=by rw [Lib.decDigits,dif_pos h]
theorem dec_big{u:Nat}(h:¬ u<10):Lib.decDigits u=Lib.decDigits (u / 10)++ [UInt8.ofNat (48+u % 10)]:=by rw [Lib.decDigits,dif_neg h]
theorem u8_dig{k:Nat}(h:k<10):(UInt8.ofNat (48+k)).toNat=48+k:=by
 simp;omega
theorem dec_digit:∀ (u:Nat) (c:UInt8),c∈Lib.decDigits u→48≤c.toNat∧c.toNat≤57:=by
 intro u
 induction u using Nat.strongRecOn with
 | _ u ih=>
  intro c hc
  by_cases h:u<10
  ·rw [dec_small h] at hc
   simp only [List.mem_singleton] at hc
   subst hc
   rw [u8_dig h];omega
  ·rw [dec_big h] at hc
   rcases List.mem_append.1 hc with h1 | h1
   ·exact ih _ (by omega) c h1
   ·simp only [List.mem_singleton] at h1
    subst h1
    rw [u8_dig (by omega)];omega
theorem itoa_byte{n:Int}{c:UInt8}(h:c∈Lib.itoa n):c.toNat=45∨(48≤c.toNat∧c.toNat≤57):=by
 unfold Lib.itoa at h
 split at h
 ·rcases List.mem_cons.1 h with rfl | h
  ·exact .inl rfl
  ·exact .inr (dec_digit _ c h)
 ·exact .inr (dec_digit _ c h)
theorem dec_len:∀ (k u:Nat),u<10 ^ (k+1)→(Lib.decDigits u).length≤k+1
 | 0,u,h=>by rw [dec_small (by simpa using h)];simp
 | k+1,u,h=>by
  by_cases h1:u<10
  ·rw [dec_small h1];simp
  ·rw [dec_big h1]
   have:=dec_len k (u / 10) (by rw [Nat.pow_succ] at h;omega)
   simp;omega
theorem itoa_len{n:Int}(h0:-9223372036854775808≤n)(h1:n≤9223372036854775807):(Lib.itoa n).length≤20:=by
 unfold Lib.itoa
 split
 ·have:=dec_len 18 n.natAbs (by omega)
  simp;omega
 ·have:=dec_len 18 n.toNat (by omega)
  omega
end Go.Proofs.YtalogjkalmkpjaaGreatDoor
/-
  Labels, names and joined lines: what chapter 11's texts hold too (picked by wip/scripts/pick.py).
-/
set_option linter.unusedVariables false
set_option linter.unusedSimpArgs false
namespace Go.Proofs.YtalogjkalmkpjaaGreatDoor
open Go Go.Dec
def isDig(b:UInt8):Bool:=decide (48≤b.toNat) && decide (b.toNat≤57)
def isCap(b:UInt8):Bool:=decide (65≤b.toNat) && decide (b.toNat≤90)
def labB(s:Str):Bool:=
 let d:=(s.takeWhile isDig).length
 decide (1≤d) && decide (d≤4) && decide (s.head? ≠some 48) && decide (s.length-d≤3) && (s.drop d).all isCap
theorem digits03(s:Str):To (fun n=>M.r03_digits n s) ((s.takeWhile isDig).length:Int):=by
 have loop:∀ (xs:Str) (i:Nat),s.drop i=xs→To (fun n=>M.r03_digits_loop1 s n (i:Int)) ((i+(xs.takeWhile isDig).length:Nat):Int):=by
  intro xs
  induction xs with
  | nil=>
   intro i hx
   refine To.succ ?_
   simp only [M.r03_digits_loop1]
   exact To.neg (drop_end hx) (To.pure.of (by simp))
  | cons x xs ih=>
   intro i hx
   refine To.succ ?_
   simp only [M.r03_digits_loop1]
   refine To.pos (drop_lt hx) (To.bindS (drop_idx hx) ?_)
   by_cases h1:48≤x.toNat
   ·refine To.pos (by omega) (To.bindS (drop_idx hx) ?_)
    by_cases h2:x.toNat≤57
    ·refine To.pos (by omega) ?_
     rw [cast_succ]
     refine (ih (i+1) (drop_next hx)).of ?_
     rw [List.takeWhile_cons_of_pos (by simp [isDig,h1,h2]),List.length_cons]
     omega
    ·refine To.neg (by omega) (To.pure.of ?_)
     rw [List.takeWhile_cons_of_neg (by simp [isDig];omega)];rfl
   ·refine To.neg (by omega) (To.pure.of ?_)
    rw [List.takeWhile_cons_of_neg (by simp [isDig];omega)];rfl
 simp only [M.r03_digits]
 refine To.bind (loop s 0 rfl) (To.pure.of (by simp))
theorem may03(s:Str)(hl:s.length≤1000000000):To (fun n=>M.r03_May n s) (labB s):=by
 have hd:(s.takeWhile isDig).length≤s.length:=by
  have:=(List.takeWhile_sublist isDig (l:=s)).length_le
  exact this
 have loop:∀ (xs:Str) (i:Nat),s.drop i=xs→To (fun n=>M.r03_May_loop1 s n (i:Int)) (if xs.all isCap then .inl () else .inr false):=by
  intro xs
  induction xs with
  | nil=>
   intro i hx
   refine To.succ ?_
   simp only [M.r03_May_loop1]
   exact To.neg (drop_end hx) (To.pure.of (by simp))
  | cons x xs ih=>
   intro i hx
   refine To.succ ?_
   simp only [M.r03_May_loop1]
   refine To.pos (drop_lt hx) (To.bindS (drop_idx hx) ?_)
   by_cases h1:x.toNat<65
   ·refine To.pos (by omega) (To.pure.of ?_)
    rw [if_neg (by simp [isCap];omega)]
   ·refine To.neg (by omega) (To.bindS (drop_idx hx) ?_)
    by_cases h2:90<x.toNat
    ·refine To.pos (by omega) (To.pure.of ?_)
     rw [if_neg (by simp [isCap];omega)]
    ·refine To.neg (by omega) ?_
     rw [cast_succ]
     refine (ih (i+1) (drop_next hx)).of ?_
     have:isCap x=true:=by simp [isCap];omega
     simp [this]
 generalize hdd:(s.takeWhile isDig).length=d at hd
 have hdig:=digits03 s
 rw [hdd] at hdig
 simp only [M.r03_May]
 refine To.bind hdig ?_
 by_cases h1:d<1
 ·refine To.bind (a:=true) (To.pos (by omega) To.pure) (To.pos rfl (To.pure.of ?_))
  simp [labB,hdd];omega
 by_cases h2:4<d
 ·refine To.bind (a:=true) (To.neg (by omega) (To.pos (by omega) To.pure)) (To.pos rfl (To.pure.of ?_))
  simp [labB,hdd];omega
 obtain ⟨x,xs,rfl⟩:∃ x xs,s=x :: xs:=by
  cases s with
  | nil=>simp at hd;omega
  | cons x xs=>exact ⟨x,xs,rfl⟩
 by_cases h3:x=48
 ·subst h3
  refine To.bind (a:=true) (To.neg (by omega) (To.neg (by omega) (To.bindS idx_zero (To.pos rfl To.pure)))) (To.pos rfl (To.pure.of ?_))
  simp [labB]
 have h3':¬ ((x.toNat:Int)=48):=by
  intro h
  exact h3 (UInt8.toNat_inj.1 (by have:(48:UInt8).toNat=48:=rfl;omega))
 by_cases h4:3<(x :: xs).length-d
 ·refine To.bind (a:=true) (To.neg (by omega) (To.neg (by omega) (To.bindS idx_zero (To.neg h3' (To.bindS (subC_eq (by omega) (by omega)) (To.pure.of (by simp;simp at h4 hd;omega))))))) (To.pos rfl (To.pure.of ?_))
  simp only [labB,hdd]
  rw [decide_eq_false (show ¬ (x :: xs).length-d≤3 by omega)]
  simp
 refine To.bind (a:=false) (To.neg (by omega) (To.neg (by omega) (To.bindS idx_zero (To.neg h3' (To.bindS (subC_eq (by omega) (by omega)) (To.pure.of (by simp;simp at h4 hd;omega))))))) (To.neg (by simp) ?_)
 refine To.bind (loop _ d rfl) ?_
 simp only [labB,hdd]
 rw [decide_eq_true (show 1≤d by omega),decide_eq_true (show d≤4 by omega),decide_eq_true (show (x :: xs).length-d≤3 by omega),decide_eq_true (show (x :: xs).head? ≠some 48 by simpa using h3)]
 by_cases h5:((x :: xs).drop d).all isCap=true
 ·rw [if_pos h5];exact To.pure.of (by rw [h5];rfl)
 ·rw [if_neg h5]
  exact To.pure.of (by simp only [Bool.not_eq_true] at h5;rw [h5];rfl)
theorem idxfun(s:Str)(f:Int→Option Bool)(p:UInt8→Bool)(hf:∀ b:UInt8,b.toNat<128→f (b.toNat:Int)=some (p b))(hh:∀ r:Nat,128≤r→f (r:Int)=some true)(hp:∀ b:UInt8,128≤b.toNat→p b=true) :
  To (fun n=>M.strings_IndexFunc n s f) (if s.any p then (((s.takeWhile fun b=>!p b).length:Nat):Int) else -1):=by
 have loop:∀ (xs:Str) (i:Nat),s.drop i=xs→∃ v,To (fun n=>M.strings_indexFunc_loop1 s f true n i) (if xs.any p then .inr ((i+(xs.takeWhile fun b=>!p b).length:Nat):Int) else .inl v):=by
  intro xs
  induction xs with
  | nil=>
   intro i hx
   have:=List.drop_eq_nil_iff.1 hx
   refine ⟨i,To.succ ?_⟩
   simp only [M.strings_indexFunc_loop1]
   exact To.neg (by omega) (To.pure.of (by simp))
  | cons x xs ih=>
   intro i hx
   obtain ⟨h1,h2,h3⟩:=drop_cons hx
   have hxi:s[i]=x:=by rw [List.getElem?_eq_getElem h1] at h2;exact Option.some.inj h2
   by_cases ha:x.toNat<128
   ·have hr:=runeAt_ascii h1 (by rw [hxi];exact ha)
    rw [hxi] at hr
    obtain ⟨v,hv⟩:=ih (i+1) h3
    refine ⟨v,To.succ ?_⟩
    simp only [M.strings_indexFunc_loop1]
    refine To.pos h1 ?_
    rw [hr]
    refine To.bindS (hf x ha) ?_
    cases hpx:p x with
    | true=>exact To.pos rfl (To.pure.of (by simp [hpx]))
    | false=>
     refine To.neg (by simp) (hv.of ?_)
     have tw:(x :: xs).takeWhile (fun b=>!p b)=x :: xs.takeWhile (fun b=>!p b):=List.takeWhile_cons_of_pos (by simp [hpx])
     rw [tw]
     simp only [List.any_cons,hpx,Bool.false_or,List.length_cons]
     split
     ·congr 1;omega
     ·rfl
   ·obtain ⟨q1,q2⟩:=runeAt_high h1 (by rw [hxi];omega)
    have hpx:=hp x (by omega)
    refine ⟨0,To.succ ?_⟩
    simp only [M.strings_indexFunc_loop1]
    refine To.pos h1 (To.bindS (hh _ q1) (To.pos rfl (To.pure.of (by simp [hpx]))))
 obtain ⟨v,hv⟩:=loop s 0 rfl
 simp only [M.strings_IndexFunc,M.strings_indexFunc]
 by_cases h:s.any p=true
 ·rw [if_pos h] at hv ⊢
  exact To.bind (To.bind hv To.pure) (To.pure.of (by simp))
 ·rw [if_neg h] at hv ⊢
  exact To.bind (To.bind hv To.pure) To.pure
theorem tw_all{α:Type}{p:α→Bool}:∀ {l:List α},(∀ b,b∈l→p b=true)→l.takeWhile p=l
 | [],_=>rfl
 | x :: l,h=>by rw [List.takeWhile_cons_of_pos (h x (by simp)),tw_all fun b hb=>h b (by simp [hb])]
theorem tw_not(s:Str):(s.takeWhile fun b=>!(!isDig b))=s.takeWhile isDig:=by simp
theorem parted_ok(s:Str):To (fun n=>M.label_parted n s) (s.take (s.takeWhile isDig).length,s.drop (s.takeWhile isDig).length):=by
 have h:=idxfun s (fun s0=>M.label_parted_1 s0) (fun b=>!isDig b) (fun b hb=>by
  simp only [M.label_parted_1,isDig]
  split
  ·simp;omega
  ·congr 1;rw [Bool.eq_iff_iff];simp;omega) (fun r hr=>by
  simp only [M.label_parted_1]
  rw [if_neg (by omega)];congr 1;simp;omega) (fun b hb=>by simp [isDig];omega)
 have hd:(s.takeWhile isDig).length≤s.length:=(List.takeWhile_sublist isDig (l:=s)).length_le
 simp only [M.label_parted]
 refine To.bind h ?_
 rw [tw_not]
 by_cases ha:(s.any fun b=>!isDig b)=true
 ·rw [if_pos ha]
  refine To.neg (by omega) (To.bindS (a:=s.take (s.takeWhile isDig).length) ?_ (To.bindS (a:=s.drop (s.takeWhile isDig).length) ?_ To.pure))
  ·simp [slcHi,hd]
  ·simp [slcLo,hd]
 ·rw [if_neg ha]
  refine To.pos (by omega) (To.pure.of ?_)
  have hall:s.takeWhile isDig=s:=by
   refine tw_all fun b hb=>?_
   simp only [Bool.not_eq_true,List.any_eq_false] at ha
   have:=ha b hb
   simpa using this
  rw [hall];simp
theorem label_ok(s:Str):To (fun n=>M.label_Valid n s) (labB s):=by
 have hd:(s.takeWhile isDig).length≤s.length:=(List.takeWhile_sublist isDig (l:=s)).length_le
 have h:=parted_ok s
 generalize hdd:(s.takeWhile isDig).length=d at hd h
 have hc:=idxfun (s.drop d) (fun s0=>M.label_Valid_1 s0) (fun b=>!isCap b) (fun b hb=>by
  simp only [M.label_Valid_1,isCap]
  split
  ·simp;omega
  ·congr 1;rw [Bool.eq_iff_iff];simp;omega) (fun r hr=>by
  simp only [M.label_Valid_1]
  rw [if_neg (by omega)];congr 1;simp;omega) (fun b hb=>by simp [isCap];omega)
 simp only [M.label_Valid]
 refine To.bind h ?_
 dsimp only
 have hl:((s.take d).length:Int)=d:=by rw [List.length_take];omega
 have hl2:(((s.drop d).length:Nat):Int)=((s.length-d:Nat):Int):=by rw [List.length_drop]
 by_cases h1:d<1
 ·exact To.neg (by omega) (To.pure.of (by simp [labB,hdd];omega))
 refine To.pos (by omega) ?_
 by_cases h2:4<d
 ·exact To.neg (by omega) (To.pure.of (by simp [labB,hdd];omega))
 refine To.pos (by omega) ?_
 obtain ⟨x,xs,rfl⟩:∃ x xs,s=x :: xs:=by
  cases s with
  | nil=>simp at hd;omega
  | cons x xs=>exact ⟨x,xs,rfl⟩
 have hx:idx ((x :: xs).take d) (0:Int)=some x:=by
  obtain ⟨e,rfl⟩:∃ e,d=e+1:=⟨d-1,by omega⟩
  simp [idx]
 refine To.bindS hx ?_
 by_cases h3:x=48
 ·subst h3
  exact To.neg (by simp) (To.pure.of (by simp [labB]))
 have h3':(x.toNat:Int)≠48:=by
  intro h
  exact h3 (UInt8.toNat_inj.1 (by have:(48:UInt8).toNat=48:=rfl;omega))
 refine To.pos h3' ?_
 simp only [labB,hdd]
 rw [decide_eq_true (show 1≤d by omega),decide_eq_true (show d≤4 by omega),decide_eq_true (show (x :: xs).head? ≠some 48 by simpa using h3)]
 by_cases h4:3<(x :: xs).length-d
 ·refine To.neg (by omega) (To.pure.of ?_)
  rw [decide_eq_false (show ¬ (x :: xs).length-d≤3 by omega)]
  simp
 refine To.pos (by omega) ?_
 rw [decide_eq_true (show (x :: xs).length-d≤3 by omega)]
 simp only [M.strings_ContainsFunc]
 refine To.bind (To.bind hc To.pure) (To.pure.of ?_)
 have he:(((x :: xs).drop d).any fun b=>!isCap b)= !(((x :: xs).drop d).all isCap):=by rw [List.not_all_eq_any_not]
 rw [he]
 cases ((x :: xs).drop d).all isCap<;> simp<;> omega
def nm:List Str:=[[98,111,111,107],[112,97,114,116],[115,101,99,116,105,111,110],[112,97,114,97,103,114,97,112,104],[116,97,98,108,101],[114,111,119],[99,101,108,108],[110,111,116,101]]
def nameOf(k:Int):Str:=(idx nm k).getD []
theorem lab_no{s:Str}(h:labB s=true):(32:UInt8) ∉ s:=by
 unfold labB at h
 simp only [Bool.and_eq_true] at h
 intro hm
 rw [←List.take_append_drop (s.takeWhile isDig).length s] at hm
 rcases List.mem_append.1 hm with hm | hm
 ·have e:s.take (s.takeWhile isDig).length=s.takeWhile isDig:=by
   have:=List.takeWhile_append_dropWhile (p:=isDig) (l:=s)
   calc s.take (s.takeWhile isDig).length=(s.takeWhile isDig++s.dropWhile isDig).take (s.takeWhile isDig).length:=by rw [this]
    _=s.takeWhile isDig:=by rw [List.take_append_of_le_length (Nat.le_refl _),List.take_length]
  rw [e] at hm
  have:∀ (l:Str),(32:UInt8) ∉ l.takeWhile isDig:=by
   intro l
   induction l with
   | nil=>simp
   | cons x l ih=>
    rw [List.takeWhile_cons]
    split
    ·rename_i hx
     simp only [List.mem_cons,not_or]
     refine ⟨?_,ih⟩
     rintro rfl
     revert hx;decide
    ·simp
  exact this s hm
 ·have:=List.all_eq_true.1 h.2 _ hm
  revert this;decide
theorem name_no{k:Int}(h0:0≤k)(h1:k≤7):(32:UInt8) ∉ nameOf k∧nameOf k≠ []:=by
 obtain ⟨m,rfl⟩:∃ m:Nat,k=(m:Int):=⟨k.toNat,by omega⟩
 have hm:m=0∨m=1∨m=2∨m=3∨m=4∨m=5∨m=6∨m=7:=by omega
 rcases hm with rfl | rfl | rfl | rfl | rfl | rfl | rfl | rfl<;> exact ⟨by decide,by decide⟩
theorem kname(k:Int):M.unit_KindName k=some (nameOf k):=by
 unfold M.unit_KindName nameOf
 by_cases h0:k<0
 ·rw [if_pos h0]
  have:idx nm k=none:=by unfold idx;rw [if_neg (by omega)]
  rw [this];rfl
 ·rw [if_neg h0]
  by_cases h8:(8:Int)≤k
  ·rw [if_pos h8]
   have:idx nm k=none:=by
    unfold idx
    rw [if_pos (by omega)]
    exact List.getElem?_eq_none (by simp [nm];omega)
   rw [this];rfl
  ·rw [if_neg h8]
   obtain ⟨x,hx,_⟩:=idx_some (l:=nm) (i:=k) (by omega) (by simp [nm];omega)
   have:idx gv2 k=some x:=hx
   rw [this,hx];rfl
end Go.Proofs.YtalogjkalmkpjaaGreatDoor
/-
  The laws of rows of tracked words.
-/
set_option linter.unusedVariables false
set_option linter.unusedSimpArgs false
namespace Go.Proofs.YtalogjkalmkpjaaGreatDoor
open Go Go.Dec
theorem fid1:M.markup_formatID ⟨1,0,1⟩=some [35,49,46,48,46,49]:=by
 have i1:∀ k:Nat,k<10→Lib.itoa (k:Int)= [UInt8.ofNat (48+k)]:=fun k hk=>by
  unfold Lib.itoa
  rw [if_neg (by omega),Lib.decDigits,dif_pos (by omega)]
  rfl
 have a0:Lib.itoa 0= [48]:=i1 0 (by decide)
 have a1:Lib.itoa 1= [49]:=i1 1 (by decide)
 simp only [M.markup_formatID,itoaM,a0,a1,Option.bind_some]
 rfl
def secT:api_TrackedUnit:=⟨0,2,⟨1,0,1⟩,[53],[52],false,[],[⟨0,[97]⟩,⟨2,[98]⟩,⟨1,[99]⟩],[]⟩
def rowW:List TW:=[⟨0,[97]⟩,⟨2,[98]⟩,⟨1,[99]⟩]
theorem rowW_text:rowF rowW= [97,32,91,45,32,98,32,45,93,32,91,43,32,99,32,43,93]:=by rfl
theorem line_sec:To (fun n=>M.markup_line n secT 0) [61,32,115,101,99,116,105,111,110,32,53,32,119,97,115,32,52,32,35,49,46,48,46,49,32,124,32,97,32,91,45,32,98,32,45,93,32,91,43,32,99,32,43,93]:=by
 have hf:=format_ok rowW
 rw [rowW_text] at hf
 simp only [M.markup_line]
 refine To.bindS (show repeatM ([32,32]:Str) 0=some [] from rfl) (To.bindS (show M.markup_sign secT=some [61] from rfl) (To.bindS (show catC [] [61]=some [61] from rfl) (To.bindS (show catC [61] [32]=some [61,32] from rfl) (To.bindS (show M.markup_sign secT=some [61] from rfl) (To.neg (by decide) ?_)))))
 refine To.bindS (show M.unit_KindName secT.Kind=some [115,101,99,116,105,111,110] from rfl) (To.bindS (catC_eq (by decide)) ?_)
 refine To.bind (To.pos (by decide) (To.bindS (catC_eq (by decide)) (To.bindS (catC_eq (by decide)) To.pure))) ?_
 refine To.bind (To.pos (by decide) (To.bindS (catC_eq (by decide)) (To.bindS (catC_eq (by decide)) To.pure))) ?_
 refine To.bindS fid1 (To.bindS (catC_eq (by decide)) (To.bindS (catC_eq (by decide)) ?_))
 refine To.bind (To.neg (by decide) To.pure) ?_
 refine To.pos (by decide) (To.bind hf (To.bindS (catC_eq (by decide)) (To.bindS (catC_eq (by decide)) (To.pure.of ?_))))
 rfl
theorem lines_sec:To (fun n=>M.markup_Lines n secT) [[61,32,115,101,99,116,105,111,110,32,53,32,119,97,115,32,52,32,35,49,46,48,46,49,32,124,32,97,32,91,45,32,98,32,45,93,32,91,43,32,99,32,43,93]]:=by
 have hv:To (fun n=>M.markup_validTree n secT 0) true:=To.far 30 fun m=>by kernel_rfl
 simp only [M.markup_Lines]
 refine To.bind hv (To.neg (by decide) (To.bind (To.succ ?_) To.pure))
 simp only [M.markup_Lines_1]
 exact To.bind line_sec (To.bindS (appC_eq (by decide)) (To.bind To.pure To.pure))
theorem awake53:To (fun n=>M.law53_awake n) true:=by
 have hf:=format_ok rowW
 rw [rowW_text] at hf
 simp only [M.law53_awake]
 refine To.bind (a:=([61,32,115,101,99,116,105,111,110,32,53,32,119,97,115,32,52,32,35,49,46,48,46,49,32,124,32,97,32,91,45,32,98,32,45,93,32,91,43,32,99,32,43,93,10],(0:Int))) ?_ (To.bind hf (To.pos (by decide) (To.pos rfl (To.pure.of (by decide)))))
 simp only [M.markup_Format]
 refine To.bind lines_sec (To.neg (by decide) (To.bindS (show M.strings_Join _ [10]=some [61,32,115,101,99,116,105,111,110,32,53,32,119,97,115,32,52,32,35,49,46,48,46,49,32,124,32,97,32,91,45,32,98,32,45,93,32,91,43,32,99,32,43,93] from rfl) (To.bindS (catC_eq (by decide)) (To.neg (by decide) (To.pure.of rfl)))))
end Go.Proofs.YtalogjkalmkpjaaGreatDoor
/-
  Tracked units: which are valid, which are few.
-/
set_option linter.unusedVariables false
set_option linter.unusedSimpArgs false
namespace Go.Proofs.YtalogjkalmkpjaaGreatDoor
open Go Go.Dec
abbrev TU:=api_TrackedUnit
def numB(n:Int):Bool:=decide (0≤n) && decide (n≤1048576)
def idB(i:api_Id):Bool:=numB i.Act && (numB i.Item && numB i.N)
theorem numB_iff{n:Int}:numB n=true ↔ 0≤n∧n≤1048576:=by simp [numB]
theorem idB_iff{i:api_Id}:idB i=true ↔ numB i.Act=true∧numB i.Item=true∧numB i.N=true:=by simp [idB]
theorem vid_step(e:Int)(es:List Int):M.markup_validID_loop1 (e :: es)=if numB e=true then M.markup_validID_loop1 es else some (.inr false):=by
 simp only [M.markup_validID_loop1]
 by_cases h1:e<0
 ·rw [if_pos h1,if_neg]
  rw [numB_iff];omega
 ·rw [if_neg h1]
  by_cases h2:(1048576:Int)< e
  ·rw [if_pos h2,if_neg]
   rw [numB_iff];omega
  ·rw [if_neg h2,if_pos]
   rw [numB_iff];omega
theorem validID_ok(i:api_Id):M.markup_validID i=some (idB i):=by
 unfold M.markup_validID idB
 rw [vid_step,vid_step,vid_step]
 by_cases h1:numB i.Act=true
 ·by_cases h2:numB i.Item=true
  ·by_cases h3:numB i.N=true
   ·simp [h1,h2,h3,M.markup_validID_loop1]
   ·simp [h1,h2,h3]
  ·simp [h1,h2]
 ·simp [h1]
theorem number_ok(e:Int):M.r53_number e=some (numB e):=by
 unfold M.r53_number numB
 by_cases h:0≤e<;> simp [h]
theorem numbers_ok(i:api_Id):M.r53_numbers i=some (idB i):=by
 unfold M.r53_numbers idB
 simp only [number_ok,Option.bind_some]
 by_cases h1:numB i.Act=true
 ·by_cases h2:numB i.Item=true
  ·simp [h1,h2]
  ·simp [h1,h2]
 ·simp [h1]
def placeP(t:TU):Prop:=t.State=2∧t.Moved=true∧idB t.Id=true∧t.Kind=0∧t.Label= []∧t.Was= []∧t.Head.length+t.Words.length+t.Kids.length=0
instance (t:TU):Decidable (placeP t):=by unfold placeP;infer_instance
def placeB(t:TU):Bool:=decide (placeP t)
theorem place_ok(t:TU)(hb:t.Head.length+t.Words.length+t.Kids.length≤100000):M.markup_isPlaceholder t=some (placeB t):=by
 have a1:addC (t.Head.length:Int) (t.Words.length:Int)=some ((t.Head.length:Int)+(t.Words.length:Int)):=addC_eq (by omega) (by omega)
 have a2:addC ((t.Head.length:Int)+(t.Words.length:Int)) (t.Kids.length:Int)=some ((t.Head.length:Int)+(t.Words.length:Int)+(t.Kids.length:Int)):=addC_eq (by omega) (by omega)
 have e:((t.Head.length:Int)+(t.Words.length:Int)+(t.Kids.length:Int)=0)=(t.Head.length+t.Words.length+t.Kids.length=0):=propext (by omega)
 simp only [M.markup_isPlaceholder,a1,a2,Option.bind_some,validID_ok,e]
 unfold placeB placeP
 by_cases h1:t.Kind=0
 ·by_cases h2:t.Label= []
  ·by_cases h3:t.Was= []
   ·by_cases h4:t.Head.length+t.Words.length+t.Kids.length=0
    ·by_cases h5:t.State=2
     ·by_cases h6:t.Moved=true
      ·by_cases h7:idB t.Id=true<;> simp [h1,h2,h3,h4,h5,h6,h7]
      ·simp [h1,h2,h3,h4,h5,h6]
     ·simp [h1,h2,h3,h4,h5]
    ·have h4':decide (t.Head.length+t.Words.length+t.Kids.length=0)=false:=decide_eq_false h4
     simp only [h1,h2,h3,h4',h4]
     simp
   ·simp [h1,h2,h3]
  ·simp [h1,h2]
 ·simp [h1]
theorem rplace_ok(t:TU)(hb:t.Head.length+t.Words.length+t.Kids.length≤100000):M.r53_Place t=some (placeB t):=by
 have a1:addC (t.Head.length:Int) (t.Words.length:Int)=some ((t.Head.length:Int)+(t.Words.length:Int)):=addC_eq (by omega) (by omega)
 have a2:addC ((t.Head.length:Int)+(t.Words.length:Int)) (t.Kids.length:Int)=some ((t.Head.length:Int)+(t.Words.length:Int)+(t.Kids.length:Int)):=addC_eq (by omega) (by omega)
 have e:((t.Head.length:Int)+(t.Words.length:Int)+(t.Kids.length:Int)=0)=(t.Head.length+t.Words.length+t.Kids.length=0):=propext (by omega)
 simp only [M.r53_Place,a1,a2,Option.bind_some,numbers_ok,e]
 unfold placeB placeP
 by_cases h5:t.State=2
 ·by_cases h6:t.Moved=true
  ·by_cases h7:idB t.Id=true
   ·by_cases h1:t.Kind=0
    ·by_cases h2:t.Label= []
     ·by_cases h3:t.Was= []
      ·simp only [h1,h2,h3,h5,h6,h7]
       simp
      ·simp [h1,h2,h3,h5,h6,h7]
     ·simp [h1,h2,h5,h6,h7]
    ·simp [h1,h5,h6,h7]
   ·simp [h5,h6,h7]
  ·simp [h5,h6]
 ·simp [h5]
def ownA(t:TU):Prop:=0≤t.Kind∧t.Kind≤7∧idB t.Id=true
def ownR(t:TU):Prop:=rowB t.Head=true∧rowB t.Words=true
def ownL(t:TU):Prop:=(t.Kind=0 ↔ t.Label= [])∧(t.Label≠ []→labB t.Label=true)
def ownW(t:TU):Prop:=t.Was≠ []→labB t.Was=true∧t.Was≠t.Label
def ownS(t:TU):Prop:=t.State=1∨(t.State=0∨t.State=2)∧t.Moved=false
def ownP(t:TU):Prop:=ownA t∧ownR t∧ownL t∧ownW t∧ownS t
instance (t:TU):Decidable (ownA t):=by unfold ownA;infer_instance
instance (t:TU):Decidable (ownR t):=by unfold ownR;infer_instance
instance (t:TU):Decidable (ownL t):=by unfold ownL;infer_instance
instance (t:TU):Decidable (ownW t):=by unfold ownW;infer_instance
instance (t:TU):Decidable (ownS t):=by unfold ownS;infer_instance
instance (t:TU):Decidable (ownP t):=by unfold ownP;infer_instance
def ownB(t:TU):Bool:=decide (ownP t)
theorem xor_lab(t:TU):((decide (t.Kind=(0:Int))) !=(t.Label==([]:Str)))= !decide (t.Kind=0 ↔ t.Label= []):=by
 by_cases h1:t.Kind=0<;> by_cases h2:t.Label= []<;> simp [h1,h2]
theorem stateF(t:TU):(if t.State=(1:Int) then some true else if t.State=(0:Int) then some (!t.Moved) else if t.State=(2:Int) then some (!t.Moved) else some false)=some (decide (ownS t)):=by
 unfold ownS
 by_cases h1:t.State=1
 ·simp [h1]
 ·by_cases h2:t.State=0
  ·simp [h2]
  ·by_cases h3:t.State=2
   ·simp [h3]
   ·simp [h1,h2,h3]
theorem own_ok(t:TU):To (fun n=>M.markup_validUnit n t) (ownB t):=by
 have hA:(if t.Kind<(0:Int) then some true else if (7:Int)< t.Kind then some true else Option.bind (M.markup_validID t.Id) fun validi=>some (!validi))=some (!decide (ownA t)):=by
  rw [validID_ok]
  by_cases h1:t.Kind<0
  ·have hn:¬ ownA t:=fun h=>by have:=h.1;omega
   rw [if_pos h1,decide_eq_false hn];rfl
  ·rw [if_neg h1]
   by_cases h2:(7:Int)< t.Kind
   ·have hn:¬ ownA t:=fun h=>by have:=h.2.1;omega
    rw [if_pos h2,decide_eq_false hn];rfl
   ·rw [if_neg h2]
    by_cases h3:idB t.Id=true
    ·have hn:ownA t:=⟨by omega,by omega,h3⟩
     rw [decide_eq_true hn,h3];rfl
    ·have hn:¬ ownA t:=fun h=>h3 h.2.2
     rw [decide_eq_false hn,show idB t.Id=false by simpa using h3];rfl
 simp only [M.markup_validUnit]
 refine To.bindS hA ?_
 unfold ownB ownP
 by_cases cA:ownA t
 ·refine To.neg (by simp [cA]) (To.bind (a:=!decide (ownR t)) ?_ ?_)
  ·refine To.bind (vrow_ok t.Head) ?_
   unfold ownR
   by_cases h:rowB t.Head=true
   ·exact To.neg (by simp [h]) (To.bind (vrow_ok t.Words) (To.pure.of (by simp [h])))
   ·exact To.pos (by simpa using h) (To.pure.of (by simp [h]))
  ·by_cases cR:ownR t
   ·refine To.neg (by simp [cR]) (To.bind (a:=!decide (ownL t)) ?_ ?_)
    ·rw [xor_lab]
     unfold ownL
     by_cases h:(t.Kind=0 ↔ t.Label= [])
     ·refine To.neg (by simp [h]) ?_
      by_cases h2:t.Label= []
      ·exact To.neg (by simp [h2]) (To.pure.of (by simp [h2] at h ⊢;exact h))
      ·exact To.pos (by simp [h2]) (To.bind (label_ok t.Label) (To.pure.of (by simp [h,h2])))
     ·exact To.pos (by simp [h]) (To.pure.of (by simp [h]))
    ·by_cases cL:ownL t
     ·refine To.neg (by simp [cL]) (To.bind (a:=!decide (ownW t)) ?_ ?_)
      ·unfold ownW
       by_cases h:t.Was= []
       ·exact To.neg (by simp [h]) (To.pure.of (by simp [h]))
       ·refine To.pos (by simp [h]) (To.bind (label_ok t.Was) ?_)
        by_cases h2:labB t.Was=true
        ·exact To.neg (by simp [h2]) (To.pure.of (by by_cases h3:t.Was=t.Label<;> simp [h,h2,h3];simpa [h3] using h))
        ·exact To.pos (by simpa using h2) (To.pure.of (by simp [h,h2]))
      ·by_cases cW:ownW t
       ·refine To.neg (by simp [cW]) (To.opt ?_)
        rw [stateF]
        simp [cA,cR,cL,cW]
       ·exact To.pos (by simp [cW]) (To.pure.of (by simp [cW]))
     ·exact To.pos (by simp [cL]) (To.pure.of (by simp [cL]))
   ·exact To.pos (by simp [cR]) (To.pure.of (by simp [cR]))
 ·exact To.pos (by simp [cA]) (To.pure.of (by simp [cA]))
theorem rown_ok(t:TU)(hl:t.Label.length≤100)(hw:t.Was.length≤100):To (fun n=>M.r53_own n t) (ownB t):=by
 simp only [M.r53_own]
 unfold ownB ownP
 refine To.bind (a:=!decide (ownA t∧ownR t)) ?_ ?_
 ·by_cases h1:t.Kind<0
  ·have hn:¬ (ownA t∧ownR t):=fun h=>by have:=h.1.1;omega
   exact To.pos h1 (To.pure.of (by rw [decide_eq_false hn];rfl))
  ·refine To.neg h1 ?_
   by_cases h2:(7:Int)< t.Kind
   ·have hn:¬ (ownA t∧ownR t):=fun h=>by have:=h.1.2.1;omega
    exact To.pos h2 (To.pure.of (by rw [decide_eq_false hn];rfl))
   ·refine To.neg h2 (To.bindS (numbers_ok t.Id) ?_)
    by_cases h3:idB t.Id=true
    ·refine To.neg (by simp [h3]) (To.bind (mrow_ok t.Head) ?_)
     by_cases h4:rowB t.Head=true
     ·refine To.neg (by simp [h4]) (To.bind (mrow_ok t.Words) (To.pure.of ?_))
      by_cases h5:rowB t.Words=true
      ·have hn:ownA t∧ownR t:=⟨⟨by omega,by omega,h3⟩,h4,h5⟩
       rw [decide_eq_true hn,h5]
      ·have hn:¬ (ownA t∧ownR t):=fun h=>h5 h.2.2
       rw [decide_eq_false hn,show rowB t.Words=false by simpa using h5]
     ·have hn:¬ (ownA t∧ownR t):=fun h=>h4 h.2.1
      exact To.pos (by simpa using h4) (To.pure.of (by rw [decide_eq_false hn];rfl))
    ·have hn:¬ (ownA t∧ownR t):=fun h=>h3 h.1.2.2
     exact To.pos (by simpa using h3) (To.pure.of (by rw [decide_eq_false hn];rfl))
 ·by_cases cA:ownA t∧ownR t
  ·refine To.neg (by simp [cA]) (To.bind (a:=!decide (ownL t)) ?_ ?_)
   ·rw [xor_lab]
    unfold ownL
    by_cases h:(t.Kind=0 ↔ t.Label= [])
    ·refine To.neg (by simp [h]) ?_
     by_cases h2:t.Label= []
     ·exact To.neg (by simp [h2]) (To.pure.of (by simp [h2] at h ⊢;exact h))
     ·exact To.pos (by simp [h2]) (To.bind (may03 t.Label (by omega)) (To.pure.of (by simp [h,h2])))
    ·exact To.pos (by simp [h]) (To.pure.of (by simp [h]))
   ·by_cases cL:ownL t
    ·refine To.neg (by simp [cL]) (To.bind (a:=!decide (ownW t)) ?_ ?_)
     ·unfold ownW
      by_cases h:t.Was= []
      ·exact To.neg (by simp [h]) (To.pure.of (by simp [h]))
      ·refine To.pos (by simp [h]) (To.bind (may03 t.Was (by omega)) ?_)
       by_cases h2:labB t.Was=true
       ·exact To.neg (by simp [h2]) (To.pure.of (by by_cases h3:t.Was=t.Label<;> simp [h,h2,h3];simpa [h3] using h))
       ·exact To.pos (by simpa using h2) (To.pure.of (by simp [h,h2]))
     ·by_cases cW:ownW t
      ·refine To.neg (by simp [cW]) (To.opt ?_)
       rw [stateF]
       simp [cA,cL,cW]
      ·exact To.pos (by simp [cW]) (To.pure.of (by simp [cW]))
    ·exact To.pos (by simp [cL]) (To.pure.of (by simp [cL]))
  ·exact To.pos (by simp [cA]) (To.pure.of (by
    have:¬ (ownA t∧ownR t∧ownL t∧ownW t∧ownS t):=fun h=>cA ⟨h.1,h.2.1⟩
    simp [this]))
def szP:Nat→TU→Prop
 | 0,_=>False
 | k+1,t=>t.Head.length≤600∧t.Words.length≤600∧t.Label.length≤100∧t.Was.length≤100∧t.Kids.length≤40∧ ∀ x∈t.Kids,szP k x
def cntF:Nat→TU→Nat
 | 0,_=>0
 | k+1,t=>1+(t.Kids.map (cntF k)).sum
def mayF:Nat→Nat→TU→Bool
 | 0,_,_=>false
 | k+1,d,t=>(decide (0<d) && placeB t) || (ownB t && t.Kids.all (mayF k (d+1)))
theorem has_tu(l:List TU)(f:Nat→TU→Option Bool)(p:TU→Bool)(hf:∀ x,x∈l→To (fun n=>f n x) (p x)):To (fun n=>M.slices_ContainsFunc_api_TrackedUnit_api_TrackedUnit n l (f n)) (l.any p):=by
 have loop:∀ (xs:List TU) (f:Nat→TU→Option Bool) (i:Nat),(∀ x,x∈xs→To (fun n=>f n x) (p x))→l.drop i=xs→∃ r,To (fun n=>M.slices_IndexFunc_api_TrackedUnit_api_TrackedUnit_loop1 l (f n) n (i:Int)) r∧((xs.any p=true∧ ∃ k:Nat,r= .inr (k:Int))∨(xs.any p=false∧r= .inl ())):=by
  intro xs
  induction xs with
  | nil=>
   intro f i _ hx
   refine ⟨.inl (),To.succ ?_,.inr ⟨rfl,rfl⟩⟩
   simp only [M.slices_IndexFunc_api_TrackedUnit_api_TrackedUnit_loop1]
   exact To.neg (drop_end hx) To.pure
  | cons x xs ih=>
   intro f i hf hx
   have h1:=hf x (by simp)
   by_cases hp:p x=true
   ·refine ⟨.inr (i:Int),To.succ ?_,.inl ⟨by simp [hp],i,rfl⟩⟩
    simp only [M.slices_IndexFunc_api_TrackedUnit_api_TrackedUnit_loop1]
    exact To.pos (drop_lt hx) (To.bindS (drop_idx hx) (To.bind h1.shift (To.pos hp To.pure)))
   ·have hp':p x=false:=by simpa using hp
    obtain ⟨r,ht,hr⟩:=ih (fun n=>f (n+1)) (i+1) (fun y hy=>(hf y (by simp [hy])).shift) (drop_next hx)
    refine ⟨r,To.succ ?_,by simpa [hp'] using hr⟩
    simp only [M.slices_IndexFunc_api_TrackedUnit_api_TrackedUnit_loop1]
    rw [cast_succ]
    exact To.pos (drop_lt hx) (To.bindS (drop_idx hx) (To.bind h1.shift (To.neg hp ht)))
 obtain ⟨r,ht,hr⟩:=loop l f 0 hf rfl
 simp only [M.slices_ContainsFunc_api_TrackedUnit_api_TrackedUnit,M.slices_IndexFunc_api_TrackedUnit_api_TrackedUnit]
 rcases hr with ⟨ha,k,rfl⟩ | ⟨ha,rfl⟩
 ·refine To.bind (a:=(k:Int)) (To.bind ht To.pure) (To.pure.of ?_)
  simp [ha]
 ·refine To.bind (a:=(-1:Int)) (To.bind ht To.pure) (To.pure.of ?_)
  simp [ha]
theorem tree_ok:∀ (k d j:Nat) (t:TU),k+d=9→k≤j→szP j t∨k=0→To (fun n=>M.markup_validTree n t (d:Int)) (mayF k d t)
 | 0,d,j,t,hd,_,_=>by
  refine To.succ ?_
  simp only [M.markup_validTree]
  exact To.pos (by omega) (To.pure.of rfl)
 | k+1,d,j,t,hd,hj,hs=>by
  have hs:szP j t:=hs.resolve_right (by omega)
  cases j with
  | zero=>exact absurd hs (by simp [szP])
  | succ j=>
   obtain ⟨s1,s2,s3,s4,s5,s6⟩:=hs
   have ih:∀ x∈t.Kids,To (fun n=>M.markup_validTree_1 (M.markup_validTree n) x (d:Int)) (!mayF k (d+1) x):=fun x hx=>by
    simp only [M.markup_validTree_1]
    exact To.bindS (addC_succ (by omega)) (To.bind (tree_ok k (d+1) j x (by omega) (by omega) (.inl (s6 x hx))) To.pure)
   refine To.succ ?_
   simp only [M.markup_validTree]
   refine To.neg (by omega) (To.bind (a:=decide (0<d) && placeB t) ?_ ?_)
   ·by_cases h:0<d
    ·exact To.pos (by omega) (To.bindS (place_ok t (by omega)) (To.pure.of (by simp [h])))
    ·exact To.neg (by omega) (To.pure.of (by simp [h]))
   ·unfold mayF
    by_cases hp:(decide (0<d) && placeB t)=true
    ·rw [hp]
     exact To.pos rfl (To.pure.of (by simp))
    ·have hp':(decide (0<d) && placeB t)=false:=by simpa using hp
     rw [hp']
     refine To.neg (by decide) (To.bind (own_ok t) ?_)
     by_cases ho:ownB t=true
     ·rw [ho]
      refine To.pos rfl (To.bind (has_tu t.Kids _ _ ih) (To.pure.of ?_))
      rw [any_not];simp
     ·exact To.neg ho (To.pure.of (by simp [ho]))
theorem rmay_ok:∀ (k d j:Nat) (t:TU),k+d=9→k≤j→szP j t∨k=0→To (fun n=>M.r53_may n t (d:Int)) (mayF k d t)
 | 0,d,j,t,hd,_,_=>by
  refine To.succ ?_
  simp only [M.r53_may]
  exact To.pos (by omega) (To.pure.of rfl)
 | k+1,d,j,t,hd,hj,hs=>by
  have hs:szP j t:=hs.resolve_right (by omega)
  cases j with
  | zero=>exact absurd hs (by simp [szP])
  | succ j=>
   obtain ⟨s1,s2,s3,s4,s5,s6⟩:=hs
   have ih:∀ x∈t.Kids,To (fun n=>M.r53_may n x ((d+1:Nat):Int)) (mayF k (d+1) x):=fun x hx=>rmay_ok k (d+1) j x (by omega) (by omega) (.inl (s6 x hx))
   have loop:∀ (xs:List TU) (F:Nat→TU→Int→Option Bool) (i:Nat),(∀ x∈xs,To (fun n=>F n x ((d+1:Nat):Int)) (mayF k (d+1) x))→t.Kids.drop i=xs→
     To (fun n=>M.r53_may_loop1 t (d:Int) (F n) n (i:Int)) (if xs.all (mayF k (d+1))=true then .inl () else .inr false):=by
    intro xs
    induction xs with
    | nil=>
     intro F i _ hx
     refine To.succ ?_
     simp only [M.r53_may_loop1]
     exact To.neg (drop_end hx) (To.pure.of rfl)
    | cons x xs ihx=>
     intro F i hF hx
     have:=ihx (fun n=>F (n+1)) (i+1) (fun y hy=>(hF y (List.mem_cons_of_mem _ hy)).shift) (drop_next hx)
     refine To.succ ?_
     simp only [M.r53_may_loop1]
     refine To.pos (drop_lt hx) (To.bindS (drop_idx hx) (To.bindS (addC_succ (by omega)) (To.bind (hF x List.mem_cons_self).shift ?_)))
     by_cases hm:mayF k (d+1) x=true
     ·refine To.neg (by simp [hm]) ?_
      rw [cast_succ]
      exact this.of (by simp [hm])
     ·exact To.pos (by simpa using hm) (To.pure.of (by simp [hm]))
   refine To.succ ?_
   simp only [M.r53_may]
   refine To.neg (by omega) (To.bind (a:=decide (0<d) && placeB t) ?_ ?_)
   ·by_cases h:0<d
    ·exact To.pos (by omega) (To.bindS (rplace_ok t (by omega)) (To.pure.of (by simp [h])))
    ·exact To.neg (by omega) (To.pure.of (by simp [h]))
   ·unfold mayF
    by_cases hp:(decide (0<d) && placeB t)=true
    ·rw [hp]
     exact To.pos rfl (To.pure.of (by simp))
    ·have hp':(decide (0<d) && placeB t)=false:=by simpa using hp
     rw [hp']
     refine To.neg (by decide) (To.bind (rown_ok t s3 s4) ?_)
     by_cases ho:ownB t=true
     ·rw [ho]
      refine To.neg (by decide) (To.bind (loop t.Kids (fun n=>M.r53_may n) 0 ih rfl) ?_)
      by_cases ha:t.Kids.all (mayF k (d+1))=true
      ·rw [if_pos ha,ha]
       exact To.pure
      ·rw [if_neg ha]
       exact To.pure.of (by simp [show t.Kids.all (mayF k (d+1))=false by simpa using ha])
     ·exact To.pos (by simpa using ho) (To.pure.of (by simp [ho]))
end Go.Proofs.YtalogjkalmkpjaaGreatDoor
/-
  Lines of tracked units: how they are written, by the program and by the reference.
-/
set_option linter.unusedVariables false
set_option linter.unusedSimpArgs false
namespace Go.Proofs.YtalogjkalmkpjaaGreatDoor
open Go Go.Dec
def idF(i:api_Id):Str:=35 :: (Lib.itoa i.Act++46 :: (Lib.itoa i.Item++46 :: Lib.itoa i.N))
theorem num_len{m:Int}(h:numB m=true):(Lib.itoa m).length≤20:=by
 obtain ⟨h0,h1⟩:=numB_iff.1 h
 exact itoa_len (by omega) (by omega)
theorem idF_len{i:api_Id}(h:idB i=true):(idF i).length≤63:=by
 obtain ⟨h1,h2,h3⟩:=idB_iff.1 h
 have:=num_len h1;have:=num_len h2;have:=num_len h3
 simp [idF];omega
theorem fid_ok{i:api_Id}(h:idB i=true):M.markup_formatID i=some (idF i):=by
 obtain ⟨h1,h2,h3⟩:=idB_iff.1 h
 have l1:=num_len h1;have l2:=num_len h2;have l3:=num_len h3
 simp only [M.markup_formatID,itoaM,Option.bind_some]
 rw [catC_eq (by simp;omega),Option.bind_some,catC_eq (by simp;omega),Option.bind_some,catC_eq (by simp;omega),Option.bind_some,catC_eq (by simp;omega),Option.bind_some,catC_eq (by simp;omega),Option.bind_some]
 simp [idF]
def sgF(t:TU):Str:=if t.Moved=true then (if t.State=1 then [62] else [60]) else if t.State=1 then [43] else if t.State=2 then [45] else [61]
theorem sgF_len(t:TU):(sgF t).length=1:=by
 unfold sgF
 split
 ·split<;> rfl
 ·split
  ·rfl
  ·split<;> rfl
theorem sign_ok(t:TU):M.markup_sign t=some (sgF t):=by
 unfold M.markup_sign sgF
 by_cases h1:t.Moved=true
 ·by_cases h2:t.State=1<;> simp [h1,h2]
 ·by_cases h2:t.State=1
  ·simp [h1,h2]
  ·by_cases h3:t.State=2<;> simp [h1,h2,h3]
theorem name_len(k:Int):(nameOf k).length≤9:=by
 unfold nameOf idx
 split
 ·cases h:nm[k.toNat]? with
  | none=>simp
  | some x=>
   have:=List.mem_of_getElem? h
   have h2:∀ y∈nm,y.length≤9:=by decide
   exact h2 x this
 ·simp
def indF(d:Nat):Str:=Lib.repeatL [32,32] d
theorem indF_len(d:Nat):(indF d).length=d*2:=Lib.repeatL_length _ _
theorem indF_succ:∀ d:Nat,indF d++ [32,32]=indF (d+1)
 | 0=>rfl
 | d+1=>by
  have ih:=indF_succ d
  unfold indF at ih ⊢
  rw [Lib.repeatL,List.append_assoc,ih]
  rfl
def labT(l:Str):Str:=if l= [] then [] else 32 :: l
def wasT(l:Str):Str:=if l= [] then [] else [32,119,97,115,32]++l
def headT(l:List TW):Str:=if l.length=0 then [] else [58,32]++rowF l
def wordsT(l:List TW):Str:=if l.length=0 then [] else [32,124,32]++rowF l
def restF(t:TU):Str:=if sgF t= [60] then idF t.Id else nameOf t.Kind++(labT t.Label++(wasT t.Was++(32 :: (idF t.Id++(headT t.Head++wordsT t.Words)))))
def lineF(d:Nat)(t:TU):Str:=indF d++(sgF t++(32 :: restF t))
theorem labT_len(l:Str):(labT l).length≤l.length+1:=by
 unfold labT;split<;> simp
theorem wasT_len(l:Str):(wasT l).length≤l.length+5:=by
 unfold wasT;split<;> simp
theorem headT_len(l:List TW):(headT l).length≤90002:=by
 unfold headT;split
 ·simp
 ·have:=row_len l;simp;omega
theorem wordsT_len(l:List TW):(wordsT l).length≤90003:=by
 unfold wordsT;split
 ·simp
 ·have:=row_len l;simp;omega
def LineP(t:TU):Prop:=idB t.Id=true∧0≤t.State∧t.State≤2∧t.Label.length≤100∧t.Was.length≤100∧(sgF t= [60]∨0≤t.Kind∧t.Kind≤7)
theorem rest_len{t:TU}(h:LineP t):(restF t).length≤180400:=by
 obtain ⟨h1,h2,h3,h4,h5,h6⟩:=h
 have:=idF_len h1;have:=labT_len t.Label;have:=wasT_len t.Was;have:=headT_len t.Head;have:=wordsT_len t.Words;have:=name_len t.Kind
 unfold restF
 split
 ·omega
 ·simp;omega
theorem line_len{t:TU}{d:Nat}(hd:d≤9)(h:LineP t):(lineF d t).length≤180500:=by
 have:=rest_len h;have:=indF_len d;have:=sgF_len t
 unfold lineF
 simp;omega
theorem line_ok(t:TU)(d:Nat)(hd:d≤9)(h:LineP t):To (fun n=>M.markup_line n t (d:Int)) (lineF d t):=by
 obtain ⟨h1,h2,h3,h4,h5,h6⟩:=h
 have b1:=idF_len h1;have b2:=labT_len t.Label;have b3:=wasT_len t.Was;have b4:=row_len t.Head;have b5:=row_len t.Words;have b6:=name_len t.Kind;have b7:=indF_len d;have b8:=sgF_len t
 simp only [M.markup_line]
 have hr:Go.Dec.repeatM ([32,32]:Str) (d:Int)=some (indF d):=by
  unfold Go.Dec.repeatM
  rw [if_pos ⟨by omega,by simp;omega⟩,Int.toNat_natCast];rfl
 refine To.bindS hr (To.bindS (sign_ok t) (To.bindS (catC_eq (by omega)) (To.bindS (catC_eq (by simp;omega)) (To.bindS (sign_ok t) ?_))))
 unfold lineF restF
 by_cases hs:sgF t= [60]
 ·rw [if_pos hs]
  refine To.pos (by simp [hs]) (To.bindS (fid_ok h1) (To.bindS (catC_eq (by simp;omega)) (To.pure.of (by simp))))
 ·rw [if_neg hs]
  refine To.neg (by simpa using hs) (To.bindS (kname t.Kind) (To.bindS (catC_eq (by simp;omega)) ?_))
  refine To.bind (a:=indF d++sgF t++ [32]++nameOf t.Kind++labT t.Label) ?_ ?_
  ·by_cases hl:t.Label= []
   ·exact To.neg (by simp [hl]) (To.pure.of (by simp [labT,hl]))
   ·exact To.pos (by simp [hl]) (To.bindS (catC_eq (by simp;omega)) (To.bindS (catC_eq (by simp;omega)) (To.pure.of (by simp [labT,hl]))))
  refine To.bind (a:=indF d++sgF t++ [32]++nameOf t.Kind++labT t.Label++wasT t.Was) ?_ ?_
  ·by_cases hl:t.Was= []
   ·exact To.neg (by simp [hl]) (To.pure.of (by simp [wasT,hl]))
   ·exact To.pos (by simp [hl]) (To.bindS (catC_eq (by simp;omega)) (To.bindS (catC_eq (by simp;omega)) (To.pure.of (by simp [wasT,hl]))))
  refine To.bindS (fid_ok h1) (To.bindS (catC_eq (by simp;omega)) (To.bindS (catC_eq (by simp;omega)) ?_))
  refine To.bind (a:=indF d++sgF t++ [32]++nameOf t.Kind++labT t.Label++wasT t.Was++([32]++idF t.Id)++headT t.Head) ?_ ?_
  ·by_cases hl:t.Head.length=0
   ·exact To.neg (by omega) (To.pure.of (by simp [headT,hl]))
   ·exact To.pos (by omega) (To.bind (format_ok t.Head) (To.bindS (catC_eq (by simp;omega)) (To.bindS (catC_eq (by simp;omega)) (To.pure.of (by simp [headT,hl])))))
  ·have b9:=headT_len t.Head
   by_cases hl:t.Words.length=0
   ·exact To.neg (by omega) (To.pure.of (by simp [wordsT,hl]))
   ·exact To.pos (by omega) (To.bind (format_ok t.Words) (To.bindS (catC_eq (by simp;omega)) (To.bindS (catC_eq (by simp;omega)) (To.pure.of (by simp [wordsT,hl])))))
def linF:Nat→Nat→TU→List Str
 | 0,_,_=>[]
 | k+1,d,t=>lineF d t :: t.Kids.flatMap (linF k (d+1))
theorem place_own{t:TU}(h:placeB t=true):t.Kids= []∧sgF t= [60]:=by
 have:=of_decide_eq_true h
 obtain ⟨h1,h2,h3,h4,h5,h6,h7⟩:=this
 refine ⟨List.eq_nil_of_length_eq_zero (by omega),?_⟩
 unfold sgF
 rw [if_pos h2,if_neg (by omega)]
theorem may_line{k d j:Nat}{t:TU}(hm:mayF k d t=true)(hs:szP j t):LineP t:=by
 cases k with
 | zero=>cases hm
 | succ k=>
  cases j with
  | zero=>exact absurd hs (by simp [szP])
  | succ j=>
   obtain ⟨s1,s2,s3,s4,s5,s6⟩:=hs
   unfold mayF at hm
   rw [Bool.or_eq_true,Bool.and_eq_true,Bool.and_eq_true] at hm
   rcases hm with ⟨_,hm⟩ | ⟨hm,_⟩
   ·have hp:=place_own hm
    obtain ⟨h1,h2,h3,h4,h5,h6,h7⟩:=of_decide_eq_true hm
    exact ⟨h3,by omega,by omega,s3,s4,.inl hp.2⟩
   ·obtain ⟨⟨a1,a2,a3⟩,h2,h3,h4,h5⟩:=of_decide_eq_true hm
    refine ⟨a3,?_,?_,s3,s4,.inr ⟨a1,a2⟩⟩
    ·rcases h5 with h | ⟨h | h,_⟩<;> omega
    ·rcases h5 with h | ⟨h | h,_⟩<;> omega
theorem may_kids{k d j:Nat}{t:TU}(hm:mayF (k+1) d t=true)(hs:szP (j+1) t):∀ x∈t.Kids,mayF k (d+1) x=true∧szP j x:=by
 intro x hx
 refine ⟨?_,hs.2.2.2.2.2 x hx⟩
 unfold mayF at hm
 rw [Bool.or_eq_true,Bool.and_eq_true,Bool.and_eq_true] at hm
 rcases hm with ⟨_,hm⟩ | ⟨_,hm⟩
 ·rw [(place_own hm).1] at hx;cases hx
 ·exact List.all_eq_true.1 hm x hx
theorem lin_len:∀ (k d j:Nat) (t:TU),k≤j→(linF k d t).length≤cntF j t
 | 0,_,_,_,_=>by simp [linF]
 | k+1,d,0,_,h=>by omega
 | k+1,d,j+1,t,h=>by
  have:∀ xs:List TU,(xs.flatMap (linF k (d+1))).length≤(xs.map (cntF j)).sum:=by
   intro xs
   induction xs with
   | nil=>simp
   | cons x xs ih=>
    have:=lin_len k (d+1) j x (by omega)
    simp only [List.flatMap_cons,List.length_append,List.map_cons,List.sum_cons]
    omega
  have:=this t.Kids
  simp only [linF,cntF,List.length_cons]
  omega
theorem lines_ok:∀ (k d j:Nat) (t:TU) (c:List Str),k+d=9→k≤j→mayF k d t=true→szP j t→c.length+cntF j t≤1000→To (fun n=>M.markup_Lines_1 n t (d:Int) c) (c++linF k d t)
 | 0,d,j,t,c,hd,hj,hm,hs,hc=>by cases hm
 | k+1,d,0,t,c,hd,hj,hm,hs,hc=>by omega
 | k+1,d,j+1,t,c,hd,hj,hm,hs,hc=>by
  have hk:=may_kids hm hs
  have loop:∀ (xs:List TU) (c:List Str),(∀ x∈xs,x∈t.Kids)→c.length+(xs.map (cntF j)).sum≤1000→To (fun n=>M.markup_Lines_1_loop1 (d:Int) (M.markup_Lines_1 n) xs c) (c++xs.flatMap (linF k (d+1))):=by
   intro xs
   induction xs with
   | nil=>
    intro c _ _
    simp only [M.markup_Lines_1_loop1]
    exact To.pure.of (by simp)
   | cons x xs ih=>
    intro c hx hc
    have hx1:=hk x (hx x List.mem_cons_self)
    have hl:=lin_len k (d+1) j x (by omega)
    simp only [List.map_cons,List.sum_cons] at hc
    have h1:=lines_ok k (d+1) j x c (by omega) (by omega) hx1.1 hx1.2 (by omega)
    have h2:=ih (c++linF k (d+1) x) (fun y hy=>hx y (List.mem_cons_of_mem _ hy)) (by simp;omega)
    simp only [M.markup_Lines_1_loop1]
    exact To.bindS (addC_succ (by omega)) (To.bind h1 (h2.of (by simp)))
  unfold cntF at hc
  refine To.succ ?_
  simp only [M.markup_Lines_1]
  refine To.bind (line_ok t d (by omega) (may_line hm hs)) (To.bindS (appC_eq (by simp;omega)) (To.bind (loop t.Kids (c++ [lineF d t]) (fun x hx=>hx) (by simp;omega)) (To.pure.of ?_)))
  simp [linF]
theorem lin_lens:∀ (k d j:Nat) (t:TU),k+d=9→k≤j→mayF k d t=true→szP j t→∀ x∈linF k d t,x.length≤180500
 | 0,d,j,t,hd,hj,hm,hs,x,hx=>by cases hm
 | k+1,d,0,t,hd,hj,hm,hs,x,hx=>by omega
 | k+1,d,j+1,t,hd,hj,hm,hs,x,hx=>by
  have hk:=may_kids hm hs
  unfold linF at hx
  rcases List.mem_cons.1 hx with rfl | hx
  ·exact line_len (by omega) (may_line hm hs)
  ·obtain ⟨y,hy,hxy⟩:=List.mem_flatMap.1 hx
   exact lin_lens k (d+1) j y (by omega) (by omega) (hk y hy).1 (hk y hy).2 x hxy
def mlF(t:TU):List Str:=if mayF 9 0 t=true then linF 9 0 t else []
theorem mlines_ok(t:TU)(h:szP 13 t)(hc:cntF 13 t≤40):To (fun n=>M.markup_Lines n t) (mlF t):=by
 simp only [M.markup_Lines]
 refine To.bind (tree_ok 9 0 13 t rfl (by decide) (.inl h)) ?_
 unfold mlF
 by_cases hm:mayF 9 0 t=true
 ·rw [if_pos hm]
  exact To.neg (by simp [hm]) (To.bind (lines_ok 9 0 13 t [] rfl (by decide) hm h (by simp;omega)) To.pure)
 ·rw [if_neg hm]
  exact To.pos (by simpa using hm) To.pure
end Go.Proofs.YtalogjkalmkpjaaGreatDoor
/-
  A line of a tracked unit is cut where it was joined: where its bars and colons stand.
-/
set_option linter.unusedVariables false
set_option linter.unusedSimpArgs false
namespace Go.Proofs.YtalogjkalmkpjaaGreatDoor
open Go Go.Dec
def addI(k:Nat)(i:Int):Int:=if i= -1 then -1 else i+(k:Int)
theorem head_pcs{l:List TW}(h:rowB l=true)(hl:l.length≠0):headT l=58 :: tailS (pcsT none l):=by
 unfold headT
 rw [if_neg hl]
 have hf:rowF l=rowT none l:=if_pos h
 rw [hf]
 cases l with
 | nil=>exact absurd rfl hl
 | cons w l=>
  rw [←pcs_join w l]
  have hne:pcsT none (w :: l)≠ []:=by unfold pcsT;simp
  cases hq:pcsT none (w :: l) with
  | nil=>exact absurd hq hne
  | cons a b=>simp [tailS,joinS]
theorem itoa_no(n:Int)(c:UInt8)(h:c.toNat≠45∧(c.toNat<48∨57<c.toNat)):c ∉ Lib.itoa n:=by
 intro hm
 rcases itoa_byte hm with h1 | h1<;> omega
theorem idF_no(i:api_Id)(c:UInt8)(h:c.toNat≠45∧(c.toNat<48∨57<c.toNat))(h2:c≠35)(h3:c≠46):c ∉ idF i:=by
 have a:=itoa_no i.Act c h;have b:=itoa_no i.Item c h;have d:=itoa_no i.N c h
 unfold idF
 simp [a,b,d,h2,h3]
theorem lab_no58{s:Str}(h:labB s=true):(58:UInt8) ∉ s:=by
 unfold labB at h
 simp only [Bool.and_eq_true] at h
 intro hm
 rw [←List.take_append_drop (s.takeWhile isDig).length s] at hm
 rcases List.mem_append.1 hm with hm | hm
 ·have e:s.take (s.takeWhile isDig).length=s.takeWhile isDig:=by
   have h0:=List.takeWhile_append_dropWhile (p:=isDig) (l:=s)
   have:(s.takeWhile isDig++s.dropWhile isDig).take (s.takeWhile isDig).length=s.takeWhile isDig:=by rw [List.take_append_of_le_length (Nat.le_refl _),List.take_length]
   rw [h0] at this
   exact this
  rw [e] at hm
  have:=List.all_takeWhile (p:=isDig) (l:=s)
  have:=List.all_eq_true.1 this _ hm
  revert this;decide
 ·have:=List.all_eq_true.1 h.2 _ hm
  revert this;decide
def labP(l:Str):List Str:=if l= [] then [] else [l]
def wasP(l:Str):List Str:=if l= [] then [] else [[119,97,115],l]
theorem labP_tail(l:Str):tailS (labP l)=labT l:=by
 unfold labP labT;split<;> simp [tailS]
theorem wasP_tail(l:Str):tailS (wasP l)=wasT l:=by
 unfold wasP wasT;split<;> simp [tailS]
def frP(t:TU):List Str:=labP t.Label++(wasP t.Was++ [idF t.Id])
def frF(t:TU):Str:=nameOf t.Kind++tailS (frP t)
theorem frF_eq(t:TU):frF t=nameOf t.Kind++(labT t.Label++(wasT t.Was++(32 :: idF t.Id))):=by
 unfold frF frP
 rw [tailS_append,tailS_append,labP_tail,wasP_tail]
 simp [tailS]
theorem own_lab{t:TU}(h:ownB t=true):(t.Label≠ []→labB t.Label=true)∧(t.Was≠ []→labB t.Was=true):=by
 obtain ⟨_,_,h3,h4,_⟩:=of_decide_eq_true h
 exact ⟨h3.2,fun e=>(h4 e).1⟩
theorem frP_no{t:TU}(h:ownB t=true):∀ p∈frP t,(32:UInt8) ∉ p∧p≠ [124]∧(58:UInt8) ∉ p:=by
 obtain ⟨h1,h2⟩:=own_lab h
 have hlab:∀ s:Str,labB s=true→(32:UInt8) ∉ s∧s≠ [124]∧(58:UInt8) ∉ s:=by
  intro s hs
  refine ⟨lab_no hs,?_,lab_no58 hs⟩
  rintro rfl
  exact absurd hs (by decide)
 intro p hp
 unfold frP labP wasP at hp
 simp only [List.mem_append] at hp
 rcases hp with hp | hp | hp
 ·split at hp
  ·cases hp
  ·rename_i hn
   rw [List.mem_singleton.1 hp]
   exact hlab _ (h1 hn)
 ·split at hp
  ·cases hp
  ·rename_i hn
   rcases List.mem_cons.1 hp with rfl | hp
   ·exact ⟨by decide,by decide,by decide⟩
   ·rw [List.mem_singleton.1 hp]
    exact hlab _ (h2 hn)
 ·rw [List.mem_singleton.1 hp]
  exact ⟨idF_no _ _ (by decide) (by decide) (by decide),by simp [idF],idF_no _ _ (by decide) (by decide) (by decide)⟩
theorem rest_own{t:TU}(hs:sgF t≠ [60]):restF t=(frF t++headT t.Head)++wordsT t.Words:=by
 unfold restF
 rw [if_neg hs,frF_eq]
 simp
end Go.Proofs.YtalogjkalmkpjaaGreatDoor
