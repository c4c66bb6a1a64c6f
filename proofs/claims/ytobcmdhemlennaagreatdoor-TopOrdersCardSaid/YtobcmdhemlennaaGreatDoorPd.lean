import Derived.Test.YtobcmdhemlennaaGreatDoorMdl
import Derived.Test.YtobcmdhemlennaaGreatDoorEv
import Derived.Test.YtobcmdhemlennaaGreatDoorDec17
import Derived.KernelRfl
/-
  Labels, words, texts and their pieces: what other chapters' texts hold too (picked by wip/scripts/pick.py).
-/
set_option linter.unusedVariables false
set_option linter.unusedSimpArgs false
namespace Go.Proofs.YtobcmdhemlennaaGreatDoor
open Go Go.Dec
theorem vP{u k:aa}(h:k∈u.Kids):SizeOf.sizeOf k<SizeOf.sizeOf u:=by
 cases u;have:=List.sizeOf_lt_of_mem h;simp at this ⊢;omega
theorem Wd{P:aa->Prop}(h:∀ u,(∀ k,k∈u.Kids->P k)->P u)(u:aa):P u:=
 h u (λk hk=>Wd h k)
termination_by SizeOf.sizeOf u
decreasing_by exact vP hk
def desc(u:aa):List aa:=u :: u.Kids.attach.flatMap (λk=>desc k.1)
termination_by SizeOf.sizeOf u
decreasing_by exact vP k.2
theorem fJ(u:aa):desc u=u :: u.Kids.flatMap desc:=by
 rw [desc];congr 1;have:∀ l:List aa,l.attach.flatMap (λk=>desc k.1)=l.flatMap desc:=by
  intro l;rw [List.flatMap_def,List.flatMap_def];congr 1;rw [show (λk:{x // x∈l}=>desc k.1)=desc ∘ Subtype.val from rfl,<-List.map_map,List.attach_map_subtype_val]
 exact this _
def cnt(u:aa):Nat:=(desc u).length
theorem lH(u:aa):cnt u=1+(u.Kids.map cnt).sum:=by
 unfold cnt;rw [fJ];simp [List.length_flatMap];omega
theorem xL(u:aa):1<=cnt u:=by rw [lH];omega
theorem KV{α:Type}(f:α->Nat):∀ {l:List α} {x:α},x∈l->f x<=(l.map f).sum
 | y :: l,x,h=>by
  rcases List.mem_cons.1 h with rfl | h
  .simp
  .have:=KV f h;simp;omega
theorem EY{α:Type}(f:α->Nat)(h:∀ x,1<=f x):∀ l:List α,l.length<=(l.map f).sum
 | []=>by simp
 | x :: l=>by
  have:=EY f h l;have:=h x;simp;omega
theorem jW{u k:aa}(h:k∈u.Kids):cnt k<cnt u:=by
 rw [lH u];have:=KV cnt h;omega
theorem qN(u:aa):u.Kids.length<cnt u:=by
 rw [lH u];have:=EY cnt xL u.Kids;omega
theorem fU(u:aa):u∈desc u:=by rw [fJ];simp
theorem mX{u k x:aa}(hk:k∈u.Kids)(hx:x∈desc k):x∈desc u:=by
 rw [fJ];exact List.mem_cons_of_mem _ (List.mem_flatMap.2 ⟨k,hk,hx⟩)
def Wi(b:UInt8):Bool:=decide (48<=b.toNat) && decide (b.toNat<=57)
def Wo(b:UInt8):Bool:=decide (65<=b.toNat) && decide (b.toNat<=90)
def qP(s:Str):Bool:=
 let d:=(s.takeWhile Wi).length;decide (1<=d) && decide (d<=4) && decide (s.head? ≠some 48) && decide (s.length-d<=3) && (s.drop d).all Wo
theorem WQ(s:Str):To (λn=>M.tu n s) ((s.takeWhile Wi).length:Int):=by
 have loop:∀ (xs:Str) (i:Nat),s.drop i=xs->To (λn=>M.ib s n (i:Int)) ((i+(xs.takeWhile Wi).length:Nat):Int):=by
  intro xs;induction xs with
  | nil=>
   intro i hx;refine To.succ ?_;simp only [M.ib];exact To.neg (aM hx) (To.pure.of (by simp))
  | cons x xs ih=>
   intro i hx;refine To.succ ?_;simp only [M.ib];refine To.pos (aD hx) (To.bindS (ax hx) ?_);by_cases h1:48<=x.toNat
   .refine To.pos (by omega) (To.bindS (ax hx) ?_);by_cases h2:x.toNat<=57
    .refine To.pos (by omega) ?_;rw [aP];refine (ih (i+1) (aC hx)).of ?_;rw [List.takeWhile_cons_of_pos (by simp [Wi,h1,h2]),List.length_cons];omega
    .refine To.neg (by omega) (To.pure.of ?_);rw [List.takeWhile_cons_of_neg (by simp [Wi];omega)];rfl
   .refine To.neg (by omega) (To.pure.of ?_);rw [List.takeWhile_cons_of_neg (by simp [Wi];omega)];rfl
 simp only [M.tu];refine To.bind (loop s 0 rfl) (To.pure.of (by simp))
theorem WK(s:Str)(hl:s.length<=1000000000):To (λn=>M.uq n s) (qP s):=by
 have hd:(s.takeWhile Wi).length<=s.length:=by
  have:=(List.takeWhile_sublist Wi (l:=s)).length_le;exact this
 have loop:∀ (xs:Str) (i:Nat),s.drop i=xs->To (λn=>M.ky s n (i:Int)) (if xs.all Wo then .inl () else .inr false):=by
  intro xs;induction xs with
  | nil=>
   intro i hx;refine To.succ ?_;simp only [M.ky];exact To.neg (aM hx) (To.pure.of (by simp))
  | cons x xs ih=>
   intro i hx;refine To.succ ?_;simp only [M.ky];refine To.pos (aD hx) (To.bindS (ax hx) ?_);by_cases h1:x.toNat<65
   .refine To.pos (by omega) (To.pure.of ?_);rw [if_neg (by simp [Wo];omega)]
   .refine To.neg (by omega) (To.bindS (ax hx) ?_);by_cases h2:90<x.toNat
    .refine To.pos (by omega) (To.pure.of ?_);rw [if_neg (by simp [Wo];omega)]
    .refine To.neg (by omega) ?_;rw [aP];refine (ih (i+1) (aC hx)).of ?_;have:Wo x=true:=by simp [Wo];omega
     simp [this]
 generalize hdd:(s.takeWhile Wi).length=d at hd;have hdig:=WQ s;rw [hdd] at hdig;simp only [M.uq];refine To.bind hdig ?_;by_cases h1:d<1
 .refine To.bind (a:=true) (To.pos (by omega) To.pure) (To.pos rfl (To.pure.of ?_));simp [qP,hdd];omega
 by_cases h2:4<d
 .refine To.bind (a:=true) (To.neg (by omega) (To.pos (by omega) To.pure)) (To.pos rfl (To.pure.of ?_));simp [qP,hdd];omega
 obtain ⟨x,xs,rfl⟩:∃ x xs,s=x :: xs:=by
  cases s with
  | nil=>simp at hd;omega
  | cons x xs=>exact ⟨x,xs,rfl⟩
 by_cases h3:x=48
 .subst h3;refine To.bind (a:=true) (To.neg (by omega) (To.neg (by omega) (To.bindS eP (To.pos rfl To.pure)))) (To.pos rfl (To.pure.of ?_));simp [qP]
 have h3':¬ ((x.toNat:Int)=48):=by
  intro h;exact h3 (UInt8.toNat_inj.1 (by have:(48:UInt8).toNat=48:=rfl;omega))
 by_cases h4:3<(x :: xs).length-d
 .refine To.bind (a:=true) (To.neg (by omega) (To.neg (by omega) (To.bindS eP (To.neg h3' (To.bindS (lY (by omega) (by omega)) (To.pure.of (by simp;simp at h4 hd;omega))))))) (To.pos rfl (To.pure.of ?_));simp only [qP,hdd];rw [decide_eq_false (show ¬ (x :: xs).length-d<=3 by omega)];simp
 refine To.bind (a:=false) (To.neg (by omega) (To.neg (by omega) (To.bindS eP (To.neg h3' (To.bindS (lY (by omega) (by omega)) (To.pure.of (by simp;simp at h4 hd;omega))))))) (To.neg (by simp) ?_);refine To.bind (loop _ d rfl) ?_;simp only [qP,hdd];rw [decide_eq_true (show 1<=d by omega),decide_eq_true (show d<=4 by omega),decide_eq_true (show (x :: xs).length-d<=3 by omega),decide_eq_true (show (x :: xs).head? ≠some 48 by simpa using h3)];by_cases h5:((x :: xs).drop d).all Wo=true
 .rw [if_pos h5];exact To.pure.of (by rw [h5];rfl)
 .rw [if_neg h5];exact To.pure.of (by simp only [Bool.not_eq_true] at h5;rw [h5];rfl)
theorem WW(s:Str)(f:Int->Option Bool)(p:UInt8->Bool)(hf:∀ b:UInt8,b.toNat<128->f (b.toNat:Int)=some (p b))(hh:∀ r:Nat,128<=r->f (r:Int)=some true)(hp:∀ b:UInt8,128<=b.toNat->p b=true) :
  To (λn=>M.strings_IndexFunc n s f) (if s.any p then (((s.takeWhile λb=>!p b).length:Nat):Int) else -1):=by
 have loop:∀ (xs:Str) (i:Nat),s.drop i=xs->∃ v,To (λn=>M.dC s f true n i) (if xs.any p then .inr ((i+(xs.takeWhile λb=>!p b).length:Nat):Int) else .inl v):=by
  intro xs;induction xs with
  | nil=>
   intro i hx;have:=List.drop_eq_nil_iff.1 hx;refine ⟨i,To.succ ?_⟩;simp only [M.dC];exact To.neg (by omega) (To.pure.of (by simp))
  | cons x xs ih=>
   intro i hx;obtain ⟨h1,h2,h3⟩:=fT hx;have hxi:s[i]=x:=by rw [List.getElem?_eq_getElem h1] at h2;exact Option.some.inj h2
   by_cases ha:x.toNat<128
   .have hr:=EF h1 (by rw [hxi];exact ha);rw [hxi] at hr;obtain ⟨v,hv⟩:=ih (i+1) h3;refine ⟨v,To.succ ?_⟩;simp only [M.dC];refine To.pos h1 ?_;rw [hr];refine To.bindS (hf x ha) ?_;cases hpx:p x with
    | true=>exact To.pos rfl (To.pure.of (by simp [hpx]))
    | false=>
     refine To.neg (by simp) (hv.of ?_);have tw:(x :: xs).takeWhile (λb=>!p b)=x :: xs.takeWhile (λb=>!p b):=List.takeWhile_cons_of_pos (by simp [hpx]);rw [tw];simp only [List.any_cons,hpx,Bool.false_or,List.length_cons];split
     .congr 1;omega
     .rfl
   .obtain ⟨q1,q2⟩:=FY h1 (by rw [hxi];omega);have hpx:=hp x (by omega);refine ⟨0,To.succ ?_⟩;simp only [M.dC];refine To.pos h1 (To.bindS (hh _ q1) (To.pos rfl (To.pure.of (by simp [hpx]))))
 obtain ⟨v,hv⟩:=loop s 0 rfl;simp only [M.strings_IndexFunc,M.strings_indexFunc];by_cases h:s.any p=true
 .rw [if_pos h] at hv ⊢;exact To.bind (To.bind hv To.pure) (To.pure.of (by simp))
 .rw [if_neg h] at hv ⊢;exact To.bind (To.bind hv To.pure) To.pure
theorem O7{α:Type}{p:α->Bool}:∀ {l:List α},(∀ b,b∈l->p b=true)->l.takeWhile p=l
 | [],_=>rfl
 | x :: l,h=>by rw [List.takeWhile_cons_of_pos (h x (by simp)),O7 λb hb=>h b (by simp [hb])]
theorem Ve(s:Str):(s.takeWhile λb=>!(!Wi b))=s.takeWhile Wi:=by simp
theorem ME(s:Str):To (λn=>M.qJ n s) (s.take (s.takeWhile Wi).length,s.drop (s.takeWhile Wi).length):=by
 have h:=WW s (λs0=>M.mI s0) (λb=>!Wi b) (λb hb=>by
  simp only [M.mI,Wi];split
  .simp;omega
  .congr 1;rw [Bool.eq_iff_iff];simp;omega) (λr hr=>by
  simp only [M.mI];rw [if_neg (by omega)];congr 1;simp;omega) (λb hb=>by simp [Wi];omega)
 have hd:(s.takeWhile Wi).length<=s.length:=(List.takeWhile_sublist Wi (l:=s)).length_le;simp only [M.qJ];refine To.bind h ?_;rw [Ve];by_cases ha:(s.any λb=>!Wi b)=true
 .rw [if_pos ha];refine To.neg (by omega) (To.bindS (a:=s.take (s.takeWhile Wi).length) ?_ (To.bindS (a:=s.drop (s.takeWhile Wi).length) ?_ To.pure))
  .simp [slcHi,hd]
  .simp [slcLo,hd]
 .rw [if_neg ha];refine To.pos (by omega) (To.pure.of ?_);have hall:s.takeWhile Wi=s:=by refine O7 λb hb=>?_;simp only [Bool.not_eq_true,List.any_eq_false] at ha;have:=ha b hb;simpa using this
  rw [hall];simp
theorem tV(s:Str):To (λn=>M.oL n s) (qP s):=by
 have hd:(s.takeWhile Wi).length<=s.length:=(List.takeWhile_sublist Wi (l:=s)).length_le;have h:=ME s;generalize hdd:(s.takeWhile Wi).length=d at hd h;have hc:=WW (s.drop d) (λs0=>M.oh s0) (λb=>!Wo b) (λb hb=>by
  simp only [M.oh,Wo];split
  .simp;omega
  .congr 1;rw [Bool.eq_iff_iff];simp;omega) (λr hr=>by
  simp only [M.oh];rw [if_neg (by omega)];congr 1;simp;omega) (λb hb=>by simp [Wo];omega)
 simp only [M.oL];refine To.bind h ?_;dsimp only;have hl:((s.take d).length:Int)=d:=by rw [List.length_take];omega
 have hl2:(((s.drop d).length:Nat):Int)=((s.length-d:Nat):Int):=by rw [List.length_drop]
 by_cases h1:d<1
 .exact To.neg (by omega) (To.pure.of (by simp [qP,hdd];omega))
 refine To.pos (by omega) ?_;by_cases h2:4<d
 .exact To.neg (by omega) (To.pure.of (by simp [qP,hdd];omega))
 refine To.pos (by omega) ?_;obtain ⟨x,xs,rfl⟩:∃ x xs,s=x :: xs:=by
  cases s with
  | nil=>simp at hd;omega
  | cons x xs=>exact ⟨x,xs,rfl⟩
 have hx:idx ((x :: xs).take d) (0:Int)=some x:=by
  obtain ⟨e,rfl⟩:∃ e,d=e+1:=⟨d-1,by omega⟩
  simp [idx]
 refine To.bindS hx ?_;by_cases h3:x=48
 .subst h3;exact To.neg (by simp) (To.pure.of (by simp [qP]))
 have h3':(x.toNat:Int)≠48:=by
  intro h;exact h3 (UInt8.toNat_inj.1 (by have:(48:UInt8).toNat=48:=rfl;omega))
 refine To.pos h3' ?_;simp only [qP,hdd];rw [decide_eq_true (show 1<=d by omega),decide_eq_true (show d<=4 by omega),decide_eq_true (show (x :: xs).head? ≠some 48 by simpa using h3)];by_cases h4:3<(x :: xs).length-d
 .refine To.neg (by omega) (To.pure.of ?_);rw [decide_eq_false (show ¬ (x :: xs).length-d<=3 by omega)];simp
 refine To.pos (by omega) ?_;rw [decide_eq_true (show (x :: xs).length-d<=3 by omega)];simp only [M.strings_ContainsFunc];refine To.bind (To.bind hc To.pure) (To.pure.of ?_);have he:(((x :: xs).drop d).any λb=>!Wo b)= !(((x :: xs).drop d).all Wo):=by rw [List.not_all_eq_any_not]
 rw [he];cases ((x :: xs).drop d).all Wo<;> simp<;> omega
theorem Cu(u:aa):cnt u<=1000000->To (λn=>M.lJ n u) (cnt u:Int):=by
 refine Wd (P:=λu=>cnt u<=1000000->To (λn=>M.lJ n u) (cnt u:Int)) ?_ u;intro u ih hc;have loop:∀ (xs:List aa) (slf:Nat->aa->Option Int) (i d:Nat),u.Kids.drop i=xs->(∀ k,k∈xs->To (λn=>slf n k) (cnt k:Int))->d+(xs.map cnt).sum<=1000000->
   To (λn=>M.iZ u (slf n) n (d:Int) (i:Int)) ((d+(xs.map cnt).sum:Nat):Int):=by
  intro xs;induction xs with
  | nil=>
   intro slf i d hx hs hd;refine To.succ ?_;simp only [M.iZ];exact To.neg (aM hx) (To.pure.of (by simp))
  | cons x xs ih=>
   intro slf i d hx hs hd;simp only [List.map_cons,List.sum_cons] at hd;refine To.succ ?_;simp only [M.iZ];refine To.pos (aD hx) (To.bindS (ax hx) (To.bind (hs x (by simp)).shift (To.bindS (ku (by omega) (by omega)) ?_)));rw [aP,show (d:Int)+(cnt x:Int)=((d+cnt x:Nat):Int) by omega];refine (ih (λn=>slf (n+1)) (i+1) (d+cnt x) (aC hx) (λk hk=>(hs k (by simp [hk])).shift) (by omega)).of ?_;simp only [List.map_cons,List.sum_cons];congr 1;omega
 have he:=lH u;refine To.succ ?_;simp only [M.lJ];refine To.bind (loop u.Kids (λn=>M.lJ n) 0 1 rfl (λk hk=>ih k hk (by have:=jW hk;omega)) (by omega)) (To.pure.of (by rw [he]))
def chB(b:UInt8):Bool:=decide (33<=b.toNat) && decide (b.toNat<=126)
def V5(s:Str):Bool:=decide (1<=s.length) && decide (s.length<=24) && s.all chB
def seqB(l:List Str):Bool:=decide (l.length<=256) && l.all V5
theorem VG(l:List Str)(f:Nat->Str->Option Bool)(p:Str->Bool)(hf:∀ x,x∈l->To (λn=>f n x) (p x)):To (λn=>M.d9 n l (f n)) (l.any p):=by
 have loop:∀ (xs:List Str) (f:Nat->Str->Option Bool) (i:Nat),(∀ x,x∈xs->To (λn=>f n x) (p x))->l.drop i=xs->∃ r,To (λn=>M.aW l (f n) n (i:Int)) r/\((xs.any p=true/\ ∃ k:Nat,r= .inr (k:Int))\/(xs.any p=false/\r= .inl ())):=by
  intro xs;induction xs with
  | nil=>
   intro f i _ hx;refine ⟨.inl (),To.succ ?_,.inr ⟨rfl,rfl⟩⟩;simp only [M.aW];exact To.neg (aM hx) To.pure
  | cons x xs ih=>
   intro f i hf hx;have h1:=hf x (by simp);by_cases hp:p x=true
   .refine ⟨.inr (i:Int),To.succ ?_,.inl ⟨by simp [hp],i,rfl⟩⟩;simp only [M.aW];exact To.pos (aD hx) (To.bindS (ax hx) (To.bind h1.shift (To.pos hp To.pure)))
   .have hp':p x=false:=by simpa using hp
    obtain ⟨r,ht,hr⟩:=ih (λn=>f (n+1)) (i+1) (λy hy=>(hf y (by simp [hy])).shift) (aC hx);refine ⟨r,To.succ ?_,by simpa [hp'] using hr⟩;simp only [M.aW];rw [aP];exact To.pos (aD hx) (To.bindS (ax hx) (To.bind h1.shift (To.neg hp ht)))
 obtain ⟨r,ht,hr⟩:=loop l f 0 hf rfl;simp only [M.d9,M.ig];rcases hr with ⟨ha,k,rfl⟩ | ⟨ha,rfl⟩
 .refine To.bind (a:=(k:Int)) (To.bind ht To.pure) (To.pure.of ?_);simp [ha]
 .refine To.bind (a:=(-1:Int)) (To.bind ht To.pure) (To.pure.of ?_);simp [ha]
theorem VH(l:Str):To (λn=>M.fC n (bytesOf l) (λs0=>M.lG s0)) (l.any λb=>!chB b):=by
 have hd:∀ (i:Nat) (x:UInt8) (xs:Str),l.drop i=x :: xs->idx (bytesOf l) (i:Int)=some (x.toNat:Int)/\(i:Int)< ((bytesOf l).length:Int):=by
  intro i x xs hx;obtain ⟨h1,h2,_⟩:=fT hx;refine ⟨?_,by simp [bytesOf];omega⟩;rw [lI];simp [bytesOf,h2]
 have loop:∀ (xs:Str) (i:Nat),l.drop i=xs->∃ r,To (λn=>M.bf (bytesOf l) (λs0=>M.lG s0) n (i:Int)) r/\(((xs.any λb=>!chB b)=true/\ ∃ k:Nat,r= .inr (k:Int))\/((xs.any λb=>!chB b)=false/\r= .inl ())):=by
  intro xs;induction xs with
  | nil=>
   intro i hx;refine ⟨.inl (),To.succ ?_,.inr ⟨rfl,rfl⟩⟩;simp only [M.bf];have:=aM hx;exact To.neg (by simp [bytesOf];omega) To.pure
  | cons x xs ih=>
   intro i hx;obtain ⟨h1,h2⟩:=hd i x xs hx;have hw:M.lG (x.toNat:Int)=some (!chB x):=by
    simp only [M.lG,chB];by_cases hc:(x.toNat:Int)< 33
    .rw [if_pos hc];have:¬ 33<=x.toNat:=by omega
     simp [this]
    .rw [if_neg hc];have:33<=x.toNat:=by omega
     by_cases hc2:(126:Int)< (x.toNat:Int)
     .have:¬ x.toNat<=126:=by omega
      simp [hc2,this]
     .have h3:x.toNat<=126:=by omega
      simp [hc2,this,h3]
   by_cases hp:chB x=true
   .obtain ⟨r,ht,hr⟩:=ih (i+1) (aC hx);refine ⟨r,To.succ ?_,by simpa [hp] using hr⟩;simp only [M.bf];rw [aP];exact To.pos h2 (To.bindS h1 (To.bindS hw (To.neg (by simp [hp]) ht)))
   .have hp':chB x=false:=by simpa using hp
    refine ⟨.inr (i:Int),To.succ ?_,.inl ⟨by simp [hp'],i,rfl⟩⟩;simp only [M.bf];exact To.pos h2 (To.bindS h1 (To.bindS hw (To.pos (by simp [hp']) To.pure)))
 obtain ⟨r,ht,hr⟩:=loop l 0 rfl;simp only [M.fC,M.jN];rcases hr with ⟨ha,k,rfl⟩ | ⟨ha,rfl⟩
 .refine To.bind (a:=(k:Int)) (To.bind ht To.pure) (To.pure.of ?_);rw [ha];simp
 .refine To.bind (a:=(-1:Int)) (To.bind ht To.pure) (To.pure.of ?_);rw [ha];simp
theorem KW{α:Type}(p:α->Bool)(l:List α):(l.any λb=>!p b)= !l.all p:=by
 induction l with
 | nil=>rfl
 | cons x l ih=>simp only [List.any_cons,List.all_cons,ih];cases p x<;> simp
theorem Vf(s:Str):To (λn=>M.pz n s) (V5 s):=by
 simp only [M.pz];by_cases h1:s= []
 .refine To.neg (by simp [h1]) (To.pure.of ?_);simp [h1,V5]
 .have k1:1<=s.length:=List.length_pos_iff.2 h1;refine To.pos (by simp [h1]) ?_;by_cases h2:(s.length:Int)<=24
  .have k2:s.length<=24:=by omega
   refine To.pos h2 (To.bind (VH s) (To.pure.of ?_));rw [KW];simp only [V5,k1,k2,decide_true,Bool.true_and,Bool.not_not]
  .refine To.neg h2 (To.pure.of ?_);have:¬ s.length<=24:=by omega
   simp [V5,this]
theorem KX(l:List Str):To (λn=>M.ou n l) (seqB l):=by
 simp only [M.ou];by_cases h:(l.length:Int)<=256
 .have k:l.length<=256:=by omega
  refine To.pos h (To.bind (VG l (λn s0=>M.nS n s0) (λs=>!V5 s) λx _=>?_) (To.pure.of ?_))
  .simp only [M.nS];exact To.bind (Vf x) To.pure
  .rw [KW];simp only [seqB,k,decide_true,Bool.true_and,Bool.not_not]
 .refine To.neg h (To.pure.of ?_);have:¬ l.length<=256:=by omega
  simp [seqB,this]
def Ef(l:List Str):Str:=l.flatMap (λx=>32 :: x)
def total(l:List Str):Nat:=(l.map (λx=>x.length+1)).sum
theorem MF(l:List Str):l.length<=total l:=by
 unfold total;induction l with
 | nil=>simp
 | cons x l ih=>simp;omega
theorem Cv:∀ (l:List Str) (n:Nat),n+total l<=1000000000->∃ m:Nat,M.jq l (n:Int)=some (m:Int)/\m<=n+total l
 | [],n,h=>⟨n,rfl,by omega⟩
 | x :: l,n,h=>by
  have ht:total (x :: l)=x.length+1+total l:=by simp [total]
  rw [ht] at h;obtain ⟨m,hm,hle⟩:=Cv l (n+x.length) (by omega);refine ⟨m,?_,by omega⟩;simp only [M.jq];rw [lY (by omega) (by omega),Option.bind_some,if_neg (by omega),ku (by omega) (by omega),Option.bind_some,<-hm];congr 1
theorem O8(a b:Nat):((a:Int).tdiv (b:Int))=((a / b:Nat):Int):=rfl
theorem Sb(a b:Nat)(ha:a<=9223372036854775807)(hb:1<=b):quoC (a:Int) (b:Int)=some ((a / b:Nat):Int):=by
 unfold quoC;rw [O8];have h2:=Nat.div_le_self a b;generalize a / b=q at h2 ⊢;rw [if_pos];refine ⟨by omega,?_⟩;simp only [fits64,Bool.and_eq_true,decide_eq_true_eq];omega
theorem O9(a k:Nat)(ha1:4000000000<=a)(ha2:a<=9223372036854775807)(h1:1<=k)(h2:k<=1000000000):∃ q:Nat,quoC (a:Int) (k:Int)=some (q:Int)/\2<=q:=
 ⟨a / k,Sb a k ha2 h1,by rw [Nat.le_div_iff_mul_le (by omega)];omega⟩
theorem maxI:(9223372036854775807:Int)=((9223372036854775807:Nat):Int):=rfl
theorem Sc(k:Nat)(h1:1<=k)(h2:k<=1000000000):∃ q:Nat,quoC (9223372036854775807:Int) (k:Int)=some (q:Int)/\2<=q:=
 maxI▸O9 9223372036854775807 k (by decide) (by decide) h1 h2
def nm:List Str:=[[98,111,111,107],[112,97,114,116],[115,101,99,116,105,111,110],[112,97,114,97,103,114,97,112,104],[116,97,98,108,101],[114,111,119],[99,101,108,108],[110,111,116,101]]
def nameOf(k:Int):Str:=(idx nm k).getD []
theorem Sd{k:Int}(h0:0<=k)(h1:k<=7):(32:UInt8) ∉ nameOf k/\nameOf k≠ []:=by
 obtain ⟨m,rfl⟩:∃ m:Nat,k=(m:Int):=⟨k.toNat,by omega⟩
 have hm:m=0\/m=1\/m=2\/m=3\/m=4\/m=5\/m=6\/m=7:=by omega
 rcases hm with rfl | rfl | rfl | rfl | rfl | rfl | rfl | rfl<;> exact ⟨by decide,by decide⟩
def AY(l:List Str):Str:=l.flatMap (λx=>10 :: x)
def Ww:List Str->Str
 | []=>[]
 | a :: l=>a++AY l
theorem AZ:∀ (l:List Str) (b:Str),b.length+total l<=1000000000->M.fH [10] l b=some (b++AY l)
 | [],b,_=>by simp [M.fH,AY]
 | x :: l,b,h=>by
  have ht:total (x :: l)=x.length+1+total l:=by simp [total]
  rw [ht] at h;simp only [M.fH];rw [bu (by simp;omega),Option.bind_some,bu (by simp;omega),Option.bind_some,AZ l _ (by simp;omega)];simp [AY]
theorem MG(x y:Str)(l:List Str)(h:total (x :: y :: l)<=400000000):M.strings_Join (x :: y :: l) [10]=some (Ww (x :: y :: l)):=by
 have hlen:=MF (x :: y :: l);have h1:((x :: y :: l).length:Int)=((l.length+2:Nat):Int):=by simp;omega
 have ht:total (x :: y :: l)=x.length+1+total (y :: l):=by simp [total]
 have hlen':l.length+2<=total (x :: y :: l):=by simpa using hlen
 have hs:(([10]:Str).length:Int)=1:=rfl;have e1:((l.length+2:Nat):Int)-1=((l.length+1:Nat):Int):=by omega
 have hsub:subC ((l.length+2:Nat):Int) 1=some ((l.length+1:Nat):Int):=by rw [lY (by omega) (by omega),e1]
 obtain ⟨q,hq,hq2⟩:=Sc (l.length+1) (by omega) (by omega);have hmul:mulC (1:Int) ((l.length+1:Nat):Int)=some ((l.length+1:Nat):Int):=by rw [Kh (by omega) (by omega),Int.one_mul]
 have hadd:addC (0:Int) ((l.length+1:Nat):Int)=some ((l.length+1:Nat):Int):=by rw [ku (by omega) (by omega),Int.zero_add]
 obtain ⟨m,hm,hle⟩:=Cv (x :: y :: l) (l.length+1) (by omega);have hg:growC (m:Int)=some ():=by
  unfold growC;rw [if_pos];omega
 have hsl:slcLo (x :: y :: l) (1:Int)=some (y :: l):=by
  unfold slcLo;rw [if_pos (by simp;omega)];rfl
 have n0:¬ ((l.length+2:Nat):Int)=0:=by omega
 have n1:¬ ((l.length+2:Nat):Int)=1:=by omega
 have n2:(0:Int)< 1:=by omega
 have n3:¬ ((q:Nat):Int)<=1:=by omega
 have ha0:appC ([]:Str) x=some x:=by rw [bu (by simp;omega)];rfl
 have hl2:M.fH [10] (y :: l) x=some (x++AY (y :: l)):=AZ (y :: l) x (by omega);unfold M.strings_Join;rw [h1,if_neg n0,if_neg n1,hs,if_pos n2,hsub,Option.bind_some,hq,Option.bind_some];rw [if_neg n3];rw [Option.bind_some,Option.bind_some,hmul,Option.bind_some,hadd,Option.bind_some,Option.bind_some,hm,Option.bind_some,hg,Option.bind_some,eP,Option.bind_some,ha0,Option.bind_some,hsl,Option.bind_some,hl2,Option.bind_some];rfl
theorem Pb(l:List Str)(h:total l<=400000000):M.strings_Join l [10]=some (Ww l):=by
 cases l with
 | nil=>rfl
 | cons x l=>
  cases l with
  | nil=>
   unfold M.strings_Join;rw [if_neg (by simp),if_pos (by simp),eP,Option.bind_some];simp [Ww,AY]
  | cons y l=>exact MG x y l h
def txts(l:List af):List Str:=l.map λw=>w.Text
def Wp(l:List af):Bool:=seqB (txts l)
theorem Hg:∀ (l:List af) (t:List Str),t.length+l.length<=100000000->M.jO l t=some (t++txts l)
 | [],t,_=>by simp [M.jO,txts]
 | w :: l,t,h=>by
  simp only [List.length_cons] at h;simp only [M.jO];rw [bu (by simp;omega),Option.bind_some,Hg l _ (by simp;omega)];simp [txts]
theorem Cw(l:List af)(hl:l.length<=10000000):To (λn=>M.uZ n l) (Wp l):=by
 simp only [M.uZ];refine To.bindS (Hg l [] (by simp;omega)) ?_;by_cases h:(l.length:Int)<=256
 .exact To.pos h (To.bind (KX _) (To.pure.of (by simp [Wp])))
 .refine To.neg h (To.pure.of ?_);have:¬ l.length<=256:=by omega
  simp [Wp,seqB,txts,this]
theorem word11(s:Str):To (λn=>M.wC n s) (V5 s):=by
 have loop:∀ (xs:Str) (i:Nat),s.drop i=xs->To (λn=>M.jH s n (i:Int)) (if xs.all chB=true then .inl () else .inr false):=by
  intro xs;induction xs with
  | nil=>
   intro i hx;refine To.succ ?_;simp only [M.jH];exact To.neg (aM hx) To.pure
  | cons x xs ih=>
   intro i hx;refine To.succ ?_;simp only [M.jH];refine To.pos (aD hx) (To.bindS (ax hx) ?_);by_cases h1:(x.toNat:Int)< 33
   .refine To.pos h1 (To.pure.of ?_);have:chB x=false:=by simp [chB];omega
    simp [this]
   .refine To.neg h1 (To.bindS (ax hx) ?_);by_cases h2:(126:Int)< (x.toNat:Int)
    .refine To.pos h2 (To.pure.of ?_);have:chB x=false:=by simp [chB];omega
     simp [this]
    .refine To.neg h2 ?_;rw [aP];have:chB x=true:=by simp [chB];omega
     exact (ih (i+1) (aC hx)).of (by simp [this])
 simp only [M.wC];refine To.bind (loop s 0 rfl) ?_;by_cases ha:s.all chB=true
 .rw [if_pos ha];by_cases h1:(1:Int)<=(s.length:Int)
  .refine To.pos h1 (To.pure.of ?_);have k1:1<=s.length:=by omega
   by_cases h2:(s.length:Int)<=24
   .have k2:s.length<=24:=by omega
    simp only [V5,k1,k2,ha,h2,decide_true,Bool.and_self]
   .have k2:¬ s.length<=24:=by omega
    simp [V5,k2,h2]
  .refine To.neg h1 (To.pure.of ?_);have k1:¬ 1<=s.length:=by omega
   simp [V5,k1]
 .rw [if_neg ha];have ha':s.all chB=false:=by simpa using ha
  refine To.pure.of ?_;simp only [V5,ha',Bool.and_false]
theorem Xf(l:List af):To (λn=>M.xH n l) (Wp l):=by
 have loop:∀ (xs:List af) (i:Nat),l.drop i=xs->To (λn=>M.kE l n (i:Int)) (if (txts xs).all V5=true then .inl () else .inr false):=by
  intro xs;induction xs with
  | nil=>
   intro i hx;refine To.succ ?_;simp only [M.kE];exact To.neg (aM hx) To.pure
  | cons x xs ih=>
   intro i hx;refine To.succ ?_;simp only [M.kE];refine To.pos (aD hx) (To.bindS (ax hx) (To.bind (word11 x.Text) ?_));by_cases hw:V5 x.Text=true
   .refine To.neg (by simp [hw]) ?_;rw [aP];exact (ih (i+1) (aC hx)).of (by simp [txts,hw])
   .exact To.pos (by simpa using hw) (To.pure.of (by simp [txts,hw]))
 simp only [M.xH];refine To.bind (loop l 0 rfl) ?_;by_cases ha:(txts l).all V5=true
 .rw [if_pos ha];refine To.pure.of ?_;simp only [Wp,seqB,ha,Bool.and_true];simp only [txts,List.length_map];have:((l.length:Int)<=256) ↔ l.length<=256:=by omega
  simp [this]
 .rw [if_neg ha];have ha':(txts l).all V5=false:=by simpa using ha
  refine To.pure.of ?_;simp only [Wp,seqB,ha',Bool.and_false]
theorem WI(k:Int):M.oq k=some (nameOf k):=by
 unfold M.oq nameOf;by_cases h0:k<0
 .rw [if_pos h0];have:idx nm k=none:=by unfold idx;rw [if_neg (by omega)]
  rw [this];rfl
 .rw [if_neg h0];by_cases h8:(8:Int)<=k
  .rw [if_pos h8];have:idx nm k=none:=by unfold idx;rw [if_pos (by omega)];exact List.getElem?_eq_none (by simp [nm];omega)
   rw [this];rfl
  .rw [if_neg h8];obtain ⟨x,hx,_⟩:=pW (l:=nm) (i:=k) (by omega) (by simp [nm];omega);have:idx gv4 k=some x:=hx;rw [this,hx];rfl
theorem EZ{k:Int}:nameOf k= [] ↔ ¬ (0<=k/\k<=7):=by
 constructor
 .intro h ⟨h0,h1⟩;exact (Sd h0 h1).2 h
 .intro h;unfold nameOf idx;split
  .rename_i h0;rw [List.getElem?_eq_none (by simp [nm];omega)];rfl
  .rfl
def nestB(p k:Int):Bool:=((idx gv1 p).getD []).contains k
theorem VI(l:List Int)(v:Int):To (λn=>M.jB n l v) (l.contains v):=by
 have loop:∀ (xs:List Int) (i:Nat),l.drop i=xs->∃ r,To (λn=>M.bH l v n (i:Int)) r/\((xs.contains v=true/\ ∃ k:Nat,r= .inr (k:Int))\/(xs.contains v=false/\r= .inl ())):=by
  intro xs;induction xs with
  | nil=>
   intro i hx;refine ⟨.inl (),To.succ ?_,.inr ⟨rfl,rfl⟩⟩;simp only [M.bH];exact To.neg (aM hx) To.pure
  | cons x xs ih=>
   intro i hx;by_cases hp:v=x
   .refine ⟨.inr (i:Int),To.succ ?_,.inl ⟨by simp [hp],i,rfl⟩⟩;simp only [M.bH];exact To.pos (aD hx) (To.bindS (ax hx) (To.pos hp To.pure))
   .obtain ⟨r,ht,hr⟩:=ih (i+1) (aC hx);have e:(x :: xs).contains v=xs.contains v:=by simp [hp]
    refine ⟨r,To.succ ?_,by rw [e];exact hr⟩;simp only [M.bH];rw [aP];exact To.pos (aD hx) (To.bindS (ax hx) (To.neg hp ht))
 obtain ⟨r,ht,hr⟩:=loop l 0 rfl;simp only [M.jB,M.l8];rcases hr with ⟨ha,k,rfl⟩ | ⟨ha,rfl⟩
 .refine To.bind (a:=(k:Int)) (To.bind ht To.pure) (To.pure.of ?_);rw [ha];simp
 .refine To.bind (a:=(-1:Int)) (To.bind ht To.pure) (To.pure.of ?_);rw [ha];simp
theorem Cy(p k:Int):To (λn=>M.lL n p k) (nestB p k):=by
 simp only [M.lL];by_cases h0:(0:Int)<=p
 .by_cases h8:p<8
  .obtain ⟨x,hx,_⟩:=pW (l:=gv1) (i:=p) h0 (by simp [gv1];omega);refine To.pos h0 (To.pos h8 (To.bindS hx (To.bind (VI x k) (To.pure.of ?_))));unfold nestB;rw [hx];rfl
  .refine To.pos h0 (To.neg h8 (To.pure.of ?_));have:idx gv1 p=none:=by unfold idx;rw [if_pos h0];exact List.getElem?_eq_none (by simp [gv1];omega)
   unfold nestB;rw [this];rfl
 .refine To.neg h0 (To.pure.of ?_);have:idx gv1 p=none:=by unfold idx;rw [if_neg h0]
  unfold nestB;rw [this];rfl
theorem rV(p k:Int):M.qx p k=some (nestB p k):=by
 unfold M.qx;have big:¬ (0<=p/\p<=5)->nestB p k=false:=by
  intro h;by_cases h0:(0:Int)<=p
  .by_cases h6:p=6
   .subst h6;rfl
   .by_cases h7:p=7
    .subst h7;rfl
    .have:idx gv1 p=none:=by unfold idx;rw [if_pos h0];exact List.getElem?_eq_none (by simp [gv1];omega)
     unfold nestB;rw [this];rfl
  .have:idx gv1 p=none:=by unfold idx;rw [if_neg h0]
   unfold nestB;rw [this];rfl
 have n0:nestB 0 k=(decide (k=1) || decide (k=2)):=by simp [nestB,gv1,idx]
 have n1:nestB 1 k=decide (k=2):=by simp [nestB,gv1,idx]
 have n2:nestB 2 k=(decide (k=3) || (decide (k=4) || decide (k=7))):=by simp [nestB,gv1,idx]
 have n3:nestB 3 k=(decide (k=3) || (decide (k=4) || decide (k=7))):=by simp [nestB,gv1,idx]
 have n4:nestB 4 k=decide (k=5):=by simp [nestB,gv1,idx]
 have n5:nestB 5 k=decide (k=6):=by simp [nestB,gv1,idx]
 by_cases h0:p=0
 .rw [if_pos h0,h0,n0];by_cases hk:k=1<;> simp [hk]
 rw [if_neg h0];by_cases h1:p=1
 .rw [if_pos h1,h1,n1]
 rw [if_neg h1];by_cases h2:p=2
 .rw [if_pos h2,h2,n2];by_cases hk:k=3
  .simp [hk]
  .by_cases hk4:k=4<;> simp [hk,hk4]
 rw [if_neg h2];by_cases h3:p=3
 .rw [if_pos h3,h3,n3];by_cases hk:k=3
  .simp [hk]
  .by_cases hk4:k=4<;> simp [hk,hk4]
 rw [if_neg h3];by_cases h4:p=4
 .rw [if_pos h4,h4,n4]
 rw [if_neg h4];by_cases h5:p=5
 .rw [if_pos h5,h5,n5]
 rw [if_neg h5,big (by omega)]
theorem E5(p:Int):nestB p 0=false:=by
 cases h:nestB p 0 with
 | false=>rfl
 | true=>
  exfalso;unfold nestB at h;cases hi:idx gv1 p with
  | none=>rw [hi] at h;cases h
  | some l=>
   rw [hi] at h;have hm:=zy hi;have:∀ x∈gv1,x.contains 0=false:=by decide
   rw [Option.getD_some,this l hm] at h;cases h
def aloB(u:aa):Bool:=
 if u.Kind=0 then (u.Label== []) && (u.Head.length==0) && (u.Words.length==0)
 else decide (1<=u.Kind) && decide (u.Kind<=7) && qP u.Label && Wp u.Head && Wp u.Words
def keyU(u:aa):Int×Str:=(u.Kind,u.Label)
def Wu(u:aa):Bool:=(u.Kids.all λk=>nestB u.Kind k.Kind) && decide ((u.Kids.map keyU).Nodup) && decide (u.Kids.length<=64)
def okU(u:aa):Bool:=aloB u && Wu u
def Wn(u:aa):Prop:=u.Label.length<=10000000/\u.Head.length<=10000000/\u.Words.length<=10000000
theorem KY(u:aa)(h:Wn u):To (λn=>M.mG n u) (aloB u):=by
 simp only [M.mG];unfold aloB;by_cases h0:u.Kind=0
 .rw [if_pos h0];refine To.pos h0 (To.bind (a:=(u.Label== []) && (u.Head.length==0) && (u.Words.length==0)) ?_ To.pure);by_cases hl:(u.Label== [])=true
  .refine To.pos hl ?_;rw [hl];by_cases hh:(u.Head.length:Int)=0
   .refine To.pos hh (To.pure.of ?_);have:u.Head.length=0:=by omega
    rw [this];by_cases hw:u.Words.length=0
    .simp [hw]
    .have:¬ (u.Words.length:Int)=0:=by omega
     simp [hw,this]
   .refine To.neg hh (To.pure.of ?_);have:¬ u.Head.length=0:=by omega
    simp [this]
  .refine To.neg hl (To.pure.of ?_);have:(u.Label== [])=false:=by simpa using hl
   rw [this];simp
 .rw [if_neg h0];refine To.neg h0 ?_;by_cases h1:(0:Int)< u.Kind
  .refine To.pos h1 ?_;have k1:1<=u.Kind:=by omega
   by_cases h7:u.Kind<=7
   .refine To.pos h7 (To.bind (WK _ (by have:=h.1;omega)) ?_);cases hl:qP u.Label with
    | false=>exact To.neg (by simp) (To.pure.of (by simp))
    | true=>
     refine To.pos rfl (To.bind (Xf _) ?_);cases hh:Wp u.Head with
     | false=>exact To.neg (by simp) (To.pure.of (by simp))
     | true=>exact To.pos rfl (To.bind (Xf _) (To.pure.of (by simp [k1,h7])))
   .refine To.neg h7 (To.pure.of ?_);simp [h7]
  .refine To.neg h1 (To.pure.of ?_);have:¬ 1<=u.Kind:=by omega
   simp [this]
def Wz(l:List (Int×Str)):List (bG×Bool):=l.map λp=>(⟨p.1,p.2⟩,true)
theorem Cz(k:Int)(s:Str):∀ l:List (Int×Str),mget (Wz l) (⟨k,s⟩:bG) false=decide ((k,s)∈l)
 | []=>by simp [Wz,mget]
 | p :: l=>by
  have ih:=Cz k s l;show (if (⟨k,s⟩:bG)=⟨p.1,p.2⟩ then true else mget (Wz l) (⟨k,s⟩:bG) false)=_;by_cases h:(k,s)=p
  .have:(⟨k,s⟩:bG)=⟨p.1,p.2⟩:=by rw [<-h]
   rw [if_pos this];simp [h]
  .have:¬ (⟨k,s⟩:bG)=⟨p.1,p.2⟩:=by
    intro e;injection e with e1 e2
    exact h (by rw [e1,e2])
   rw [if_neg this,ih];simp [h]
theorem Hl(k:Int)(s:Str):∀ l:List (Int×Str),(k,s) ∉ l->mset (Wz l) (⟨k,s⟩:bG) true=Wz (l++ [(k,s)])
 | [],_=>rfl
 | p :: l,h=>by
  have hn:¬ (⟨k,s⟩:bG)=⟨p.1,p.2⟩:=by
   intro e;injection e with e1 e2
   exact h (by rw [e1,e2];exact List.mem_cons_self)
  show (if (⟨k,s⟩:bG)=⟨p.1,p.2⟩ then _ else ((⟨p.1,p.2⟩:bG),true) :: mset (Wz l) (⟨k,s⟩:bG) true)=_;rw [if_neg hn,Hl k s l (λh2=>h (List.mem_cons_of_mem _ h2))];rfl
theorem CB(u:aa):∀ (l:List aa) (sn:List (Int×Str)),∃ r,To (λn=>M.fq n u l (Wz sn)) r/\((((l.all λk=>nestB u.Kind k.Kind) && decide ((l.map keyU).Nodup) && (l.all λk=>!decide (keyU k∈sn)))=true/\ ∃ v,r= .inl v)\/(((l.all λk=>nestB u.Kind k.Kind) && decide ((l.map keyU).Nodup) && (l.all λk=>!decide (keyU k∈sn)))=false/\r= .inr false))
 | [],sn=>⟨.inl _,by simp only [M.fq];exact To.pure,.inl ⟨rfl,_,rfl⟩⟩
 | k :: l,sn=>by
  simp only [M.fq];cases hn:nestB u.Kind k.Kind with
  | false=>exact ⟨.inr false,To.bind (Cy _ _) (To.pos hn To.pure),.inr ⟨by simp [hn],rfl⟩⟩
  | true=>
   by_cases hs:keyU k∈sn
   .refine ⟨.inr false,To.bind (Cy _ _) (To.neg (by simp [hn]) (To.pos ?_ To.pure)),.inr ⟨?_,rfl⟩⟩
    .rw [Cz];exact decide_eq_true hs
    .have:((k :: l).all λk=>!decide (keyU k∈sn))=false:=by simp [hs]
     rw [this,Bool.and_false]
   .obtain ⟨r,hr,hc⟩:=CB u l (sn++ [keyU k]);have e:(((k :: l).all λk=>nestB u.Kind k.Kind) && decide (((k :: l).map keyU).Nodup) && ((k :: l).all λk=>!decide (keyU k∈sn)))=((l.all λk=>nestB u.Kind k.Kind) && decide ((l.map keyU).Nodup) && (l.all λx=>!decide (keyU x∈sn++ [keyU k]))):=by
     rw [Bool.eq_iff_iff];simp only [Bool.and_eq_true,decide_eq_true_eq,List.all_eq_true,List.map_cons,List.nodup_cons,List.mem_cons,forall_eq_or_imp,Bool.not_eq_true',decide_eq_false_iff_not,List.mem_append,List.mem_singleton,List.mem_map,hn,hs,not_false_eq_true,true_and,not_or,not_exists,not_and,List.mem_nil_iff,or_false];constructor
     .rintro ⟨⟨h1,h2,h3⟩,h4⟩;exact ⟨⟨h1,h3⟩,λx hx=>⟨h4 x hx,λe=>h2 x hx e⟩⟩
     .rintro ⟨⟨h1,h3⟩,h4⟩;exact ⟨⟨h1,λx hx e=>(h4 x hx).2 e,h3⟩,λx hx=>(h4 x hx).1⟩
    refine ⟨r,To.bind (Cy _ _) (To.neg (by simp [hn]) (To.neg ?_ ?_)),by rw [e];exact hc⟩
    .rw [Cz];intro h;exact hs (of_decide_eq_true h)
    .rw [Hl _ _ _ hs];exact hr
theorem Sg(u:aa)(h:Wn u):To (λn=>M.tC n u) (okU u):=by
 simp only [M.tC];have tail:aloB u=true->∀ f:Nat->Option (Unit ⊕ Bool),To f (.inl ())->To (λn=>Option.bind (f n) λ
  | .inl _=>
   Option.bind (M.fq n u u.Kids ([]:List (bG×Bool))) λ
    | .inl v1=>
     some (decide ((u.Kids.length:Int)<=(64:Int)))
    | .inr ret0=>some ret0
  | .inr ret0=>some ret0) (okU u):=by
  intro ha f hf;refine To.bind hf ?_;obtain ⟨r,hr,hc⟩:=CB u u.Kids [];refine To.bind hr ?_;have e:(u.Kids.all λk=>!decide (keyU k∈([]:List (Int×Str))))=true:=by simp
  rw [e,Bool.and_true] at hc;unfold okU Wu;rw [ha];rcases hc with ⟨h1,v,rfl⟩ | ⟨h1,rfl⟩
  .refine To.pure.of ?_;rw [h1];have:((u.Kids.length:Int)<=64) ↔ u.Kids.length<=64:=by omega
   simp [this]
  .exact To.pure.of (by rw [h1];rfl)
 have bad:aloB u=false->∀ f:Nat->Option (Unit ⊕ Bool),To f (.inr false)->To (λn=>Option.bind (f n) λ
  | .inl _=>
   Option.bind (M.fq n u u.Kids ([]:List (bG×Bool))) λ
    | .inl v1=>
     some (decide ((u.Kids.length:Int)<=(64:Int)))
    | .inr ret0=>some ret0
  | .inr ret0=>some ret0) (okU u):=by
  intro ha f hf;exact To.bind hf (To.pure.of (by unfold okU;rw [ha];rfl))
 by_cases h0:u.Kind=0
 .by_cases hl:(u.Label != [])=true
  .refine bad ?_ _ (To.pos h0 (To.pos hl To.pure));unfold aloB;rw [if_pos h0];have:(u.Label== [])=false:=by simpa using hl
   rw [this];rfl
  .have hl':(u.Label== [])=true:=by simpa using hl
   obtain ⟨_,hh,hw⟩:=h;by_cases hs:(0:Int)< (u.Head.length:Int)+(u.Words.length:Int)
   .refine bad ?_ _ (To.pos h0 (To.neg hl (To.bindS (ku (by omega) (by omega)) (To.pos hs To.pure))));unfold aloB;rw [if_pos h0];by_cases h1:u.Head.length=0
    .have:¬ u.Words.length=0:=by omega
     simp [this]
    .simp [h1]
   .refine tail ?_ _ (To.pos h0 (To.neg hl (To.bindS (ku (by omega) (by omega)) (To.neg hs To.pure))));unfold aloB;rw [if_pos h0,hl'];have h1:u.Head.length=0:=by omega
    have h2:u.Words.length=0:=by omega
    simp [h1,h2]
 .by_cases hk:(nameOf u.Kind== [])=true
  .refine bad ?_ _ (To.neg h0 (To.bindS (WI _) (To.pos hk To.pure)));have:=EZ.1 (by simpa using hk);unfold aloB;rw [if_neg h0];by_cases h1:1<=u.Kind
   .have:¬ u.Kind<=7:=by omega
    simp [this]
   .simp [h1]
  .have hk2:0<=u.Kind/\u.Kind<=7:=by
    rcases Classical.em (0<=u.Kind/\u.Kind<=7) with h1 | h1
    .exact h1
    .exact absurd (by simpa using EZ.2 h1) hk
   have k1:1<=u.Kind:=by omega
   have ha:aloB u=(qP u.Label && Wp u.Head && Wp u.Words):=by
    unfold aloB;rw [if_neg h0];simp [k1,hk2.2]
   cases hl:qP u.Label with
   | false=>exact bad (by rw [ha,hl];rfl) _ (To.neg h0 (To.bindS (WI _) (To.neg hk (To.bind (tV _) (To.pos hl To.pure)))))
   | true=>
    cases hh:Wp u.Head with
    | false=>exact bad (by rw [ha,hl,hh];rfl) _ (To.neg h0 (To.bindS (WI _) (To.neg hk (To.bind (tV _) (To.neg (by simp [hl]) (To.bind (Cw _ h.2.1) (To.pos hh To.pure)))))))
    | true=>
     cases hw:Wp u.Words with
     | false=>exact bad (by rw [ha,hl,hh,hw];rfl) _ (To.neg h0 (To.bindS (WI _) (To.neg hk (To.bind (tV _) (To.neg (by simp [hl]) (To.bind (Cw _ h.2.1) (To.neg (by simp [hh]) (To.bind (Cw _ h.2.2) (To.pos hw To.pure)))))))))
     | true=>exact tail (by rw [ha,hl,hh,hw];rfl) _ (To.neg h0 (To.bindS (WI _) (To.neg hk (To.bind (tV _) (To.neg (by simp [hl]) (To.bind (Cw _ h.2.1) (To.neg (by simp [hh]) (To.bind (Cw _ h.2.2) (To.neg (by simp [hw]) To.pure)))))))))
def smT(u:aa):Prop:=cnt u<=10000000/\ ∀ x∈desc u,Wn x
theorem uB{u k:aa}(h:smT u)(hk:k∈u.Kids):smT k:=⟨by have:=jW hk;have:=h.1;omega,λx hx=>h.2 x (mX hk hx)⟩
theorem wY{u:aa}(h:smT u):Wn u:=h.2 u (fU u)
theorem Hm{u:aa}(h:smT u):u.Kids.length<=10000000:=by have:=qN u;have:=h.1;omega
theorem E8{β:Type}(f:aa->β)(l:List aa):l.attach.map (λk=>f k.1)=l.map f:=by
 rw [show (λk:{x // x∈l}=>f k.1)=f ∘ Subtype.val from rfl,<-List.map_map,List.attach_map_subtype_val]
def stripT(u:aa):aa:={u with Id:=aO,Head:=M.bareWs u.Head,Words:=M.bareWs u.Words,Kids:=u.Kids.attach.map (λk=>stripT k.1)}
termination_by SizeOf.sizeOf u
decreasing_by exact vP k.2
theorem mY(u:aa):stripT u= {u with Id:=aO,Head:=M.bareWs u.Head,Words:=M.bareWs u.Words,Kids:=u.Kids.map stripT}:=by
 rw [stripT,E8]
def dp(u:aa):Nat:=(u.Kids.attach.map (λk=>1+dp k.1)).foldl max 0
termination_by SizeOf.sizeOf u
decreasing_by exact vP k.2
theorem wZ(u:aa):dp u=(u.Kids.map (λk=>1+dp k)).foldl max 0:=by
 rw [dp,E8 (λk=>1+dp k)]
theorem Ho:∀ (l:List Nat) (m n:Nat),l.foldl max m<=n ↔ m<=n/\ ∀ x∈l,x<=n
 | [],m,n=>by simp
 | x :: l,m,n=>by
  rw [List.foldl_cons,Ho l];simp only [List.mem_cons,forall_eq_or_imp];constructor
  .rintro ⟨h1,h2⟩;exact ⟨by omega,by omega,h2⟩
  .rintro ⟨h1,h2,h3⟩;exact ⟨by omega,h3⟩
theorem A7(u:aa)(n:Nat):dp u<=n ↔ ∀ k∈u.Kids,1+dp k<=n:=by
 rw [wZ,Ho];simp
theorem E9(u:aa):dp u<cnt u:=by
 refine Wd (P:=λu=>dp u<cnt u) ?_ u;intro u ih;have h1:=xL u;have:dp u<=cnt u-1:=(A7 u _).2 λk hk=>by
  have:=ih k hk;have:=jW hk;omega
 omega
theorem MH(u:aa):smT u->To (λn=>M.fZ n u) u:=by
 refine Wd (P:=λu=>smT u->To (λn=>M.fZ n u) u) ?_ u;intro u ih h;have loop:∀ (l acc:List aa) (slf:Nat->aa->Option aa),(∀ k∈l,To (λn=>slf n k) k)->acc.length+l.length<=100000000->To (λn=>M.bY (slf n) l acc) (acc++l):=by
  intro l;induction l with
  | nil=>intro acc slf _ _;simp only [M.bY];exact To.pure.of (by simp)
  | cons x l ihl=>
   intro acc slf hs hl;simp only [List.length_cons] at hl;simp only [M.bY];refine To.bind (hs x (by simp)) (To.bindS (bu (by simp;omega)) ?_);exact (ihl (acc++ [x]) slf (λk hk=>hs k (by simp [hk])) (by simp;omega)).of (by simp)
 have hu:=wY h;have hk:=Hm h;have c:∀ l:List af,l.length<=10000000->M.bP l=some l:=λl hl=>by
  unfold M.bP;rw [bu (by simp;omega)];rfl
 refine To.succ ?_;simp only [M.fZ];exact To.bindS (c _ hu.2.1) (To.bindS (c _ hu.2.2) (To.bind (loop u.Kids [] (λn=>M.fZ n) (λk hk=>ih k hk (uB h hk)) (by simp;omega)) (To.pure.of (by rw [List.nil_append];cases u;rfl))))
theorem Hq(u:aa):smT u->To (λn=>M.lF n u) (stripT u):=by
 refine Wd (P:=λu=>smT u->To (λn=>M.lF n u) (stripT u)) ?_ u;intro u ih h;have loop:∀ (l:List aa) (slf:Nat->aa->Option aa),(∀ k∈l,To (λn=>slf n k) (stripT k))->To (λn=>M.mapKids (slf n) l) (l.map stripT):=by
  intro l;induction l with
  | nil=>intro slf _;exact To.pure
  | cons x l ihl=>
   intro slf hs;simp only [M.mapKids];exact To.bind (hs x (by simp)) (To.bind (ihl slf (λk hk=>hs k (by simp [hk]))) To.pure)
 rw [mY];refine To.succ ?_;simp only [M.lF];exact To.bind (MH u h) (To.bind (loop u.Kids (λn=>M.lF n) (λk hk=>ih k hk (uB h hk))) To.pure)
theorem MI(l:List af):txts (M.bareWs l)=txts l:=by simp [txts,M.bareWs]
theorem MJ(u:aa):keyU (stripT u)=keyU u:=by rw [mY];rfl
theorem MK(u:aa):aloB (stripT u)=aloB u:=by
 rw [mY];unfold aloB Wp;simp only [MI];simp [M.bareWs]
theorem ML(u:aa):Wu (stripT u)=Wu u:=by
 have h:(u.Kids.map stripT).map keyU=u.Kids.map keyU:=by
  rw [List.map_map];exact List.map_congr_left λk _=>MJ k
 have h2:((u.Kids.map stripT).all λk=>nestB u.Kind k.Kind)=(u.Kids.all λk=>nestB u.Kind k.Kind):=by
  rw [List.all_map];congr 1;funext k;show nestB u.Kind (stripT k).Kind=_;rw [mY]
 rw [mY];unfold Wu;simp only [h,h2,List.length_map]
theorem Pd(u:aa):okU (stripT u)=okU u:=by unfold okU;rw [MK,ML]
theorem tY(u:aa):desc (stripT u)=(desc u).map stripT:=by
 refine Wd (P:=λu=>desc (stripT u)=(desc u).map stripT) ?_ u;intro u ih;rw [fJ (stripT u),fJ u,List.map_cons];congr 1;rw [mY];show (u.Kids.map stripT).flatMap desc=_;have:∀ l:List aa,(∀ k∈l,desc (stripT k)=(desc k).map stripT)->(l.map stripT).flatMap desc=(l.flatMap desc).map stripT:=by
  intro l;induction l with
  | nil=>intro _;rfl
  | cons x l ihl=>
   intro h;rw [List.map_cons,List.flatMap_cons,List.flatMap_cons,List.map_append,h x (by simp),ihl (λk hk=>h k (by simp [hk]))]
 exact this _ ih
theorem Aa(u:aa):cnt (stripT u)=cnt u:=by unfold cnt;rw [tY,List.length_map]
theorem Pe(u:aa):dp (stripT u)=dp u:=by
 refine Wd (P:=λu=>dp (stripT u)=dp u) ?_ u;intro u ih;rw [wZ (stripT u),wZ u,mY];show ((u.Kids.map stripT).map λk=>1+dp k).foldl max 0=_;rw [List.map_map];congr 1;exact List.map_congr_left λk hk=>by show 1+dp (stripT k)=_;rw [ih k hk]
theorem MM(u:aa):(desc (stripT u)).all okU=(desc u).all okU:=by
 rw [tY,List.all_map];congr 1;funext x;exact Pd x
theorem Hr{u:aa}(h:smT u):smT (stripT u):=by
 refine ⟨by rw [Aa];exact h.1,λx hx=>?_⟩;rw [tY] at hx;obtain ⟨y,hy,rfl⟩:=List.mem_map.1 hx;have:=h.2 y hy;rw [mY];exact ⟨this.1,by simpa [M.bareWs] using this.2.1,by simpa [M.bareWs] using this.2.2⟩
theorem Pf(u:aa):smT u->To (λn=>M.lm n u) ((desc u).all okU):=by
 refine Wd (P:=λu=>smT u->To (λn=>M.lm n u) ((desc u).all okU)) ?_ u;intro u ih h;have loop:∀ (l:List aa) (slf:Nat->aa->Option Bool),(∀ k∈l,To (λn=>slf n k) ((desc k).all okU))->To (λn=>M.gm (slf n) l) (if (l.flatMap desc).all okU=true then .inl () else .inr false):=by
  intro l;induction l with
  | nil=>intro slf _;exact To.pure
  | cons x l ihl=>
   intro slf hs;simp only [M.gm];refine To.bind (hs x (by simp)) ?_;cases hx:(desc x).all okU with
   | false=>exact To.pos rfl (To.pure.of (by rw [List.flatMap_cons,List.all_append,hx];rfl))
   | true=>
    refine To.neg (by simp) ((ihl slf (λk hk=>hs k (by simp [hk]))).of ?_);rw [List.flatMap_cons,List.all_append,hx,Bool.true_and]
 refine To.succ ?_;simp only [M.lm];refine To.bind (Sg u (wY h)) ?_;rw [fJ,List.all_cons];cases ho:okU u with
 | false=>exact To.pos rfl (To.pure.of (by simp))
 | true=>
  refine To.neg (by simp) (To.bind (loop u.Kids (λn=>M.lm n) (λk hk=>ih k hk (uB h hk))) ?_);rw [Bool.true_and];by_cases ha:(u.Kids.flatMap desc).all okU=true
  .rw [if_pos ha];exact To.pure.of ha.symm
  .rw [if_neg ha];exact To.pure.of (by simpa using ha)
theorem KZ(u:aa):smT u->To (λn=>M.nD n u) (dp u:Int):=by
 refine Wd (P:=λu=>smT u->To (λn=>M.nD n u) (dp u:Int)) ?_ u;intro u ih h;have loop:∀ (l:List aa) (slf:Nat->aa->Option Int) (d:Nat),(∀ k∈l,To (λn=>slf n k) (dp k:Int)/\dp k<=10000000)->To (λn=>M.jC (slf n) l (d:Int)) (((l.map λk=>1+dp k).foldl max d:Nat):Int):=by
  intro l;induction l with
  | nil=>intro slf d _;exact To.pure
  | cons x l ihl=>
   intro slf d hs;obtain ⟨h1,h2⟩:=hs x (by simp);simp only [M.jC];refine To.bind h1 (To.bindS (ku (by omega) (by omega)) ?_);rw [show max (d:Int) (1+(dp x:Int))=((max d (1+dp x):Nat):Int) by omega];exact (ihl slf (max d (1+dp x)) (λk hk=>hs k (by simp [hk]))).of (by rw [List.map_cons,List.foldl_cons])
 refine To.succ ?_;simp only [M.nD];refine To.bind (loop u.Kids (λn=>M.nD n) 0 (λk hk=>⟨ih k hk (uB h hk),by have:=E9 k;have:=(uB h hk).1;omega⟩)) (To.pure.of (by rw [wZ u]))
theorem Sj(u:aa):∀ c:Nat,c+cnt u<=100000000->To (λn=>M.kZ n u (c:Int)) (true,((c+cnt u:Nat):Int)):=by
 refine Wd (P:=λu=>∀ c:Nat,c+cnt u<=100000000->To (λn=>M.kZ n u (c:Int)) (true,((c+cnt u:Nat):Int))) ?_ u;intro u ih c h;rw [lH] at h;have loop:∀ (l:List aa) (slf:Nat->aa->Int->Option (Bool×Int)) (c:Nat),(∀ k∈l,∀ c:Nat,c+cnt k<=100000000->To (λn=>slf n k (c:Int)) (true,((c+cnt k:Nat):Int)))->c+(l.map cnt).sum<=100000000->To (λn=>M.eT (slf n) l (c:Int)) (.inl ((c+(l.map cnt).sum:Nat):Int)):=by
  intro l;induction l with
  | nil=>intro slf c _ _;simp only [M.eT];exact To.pure.of (by simp)
  | cons x l ihl=>
   intro slf c hs hc;simp only [List.map_cons,List.sum_cons] at hc;simp only [M.eT];refine To.bind (hs x (by simp) c (by omega)) (To.neg (by simp) ?_);refine (ihl slf (c+cnt x) (λk hk=>hs k (by simp [hk])) (by omega)).of ?_;simp only [List.map_cons,List.sum_cons];congr 2;omega
 refine To.succ ?_;simp only [M.kZ,M.sj];refine To.bind (a:=(true,((c+1:Nat):Int))) (To.bindS (ku (by omega) (by omega)) (To.pure.of (by simp))) (To.neg (by simp) ?_);refine To.bind (loop u.Kids (λn=>M.kZ n) (c+1) (λk hk=>ih k hk) (by omega)) (To.pure.of ?_);rw [lH];congr 2;omega
theorem Fa(u:aa)(h:smT u):To (λn=>M.nE n u) (cnt u:Int):=by
 simp only [M.nE];exact To.bind (Sj u 0 (by have:=h.1;omega)) (To.pure.of (by simp))
theorem Uu(u:aa):∀ c:List ai,c.length+cnt u<=100000000->To (λn=>M.lc n u c) (true,c++(desc u).map aa.Id):=by
 refine Wd (P:=λu=>∀ c:List ai,c.length+cnt u<=100000000->To (λn=>M.lc n u c) (true,c++(desc u).map aa.Id)) ?_ u;intro u ih c h;rw [lH] at h;have loop:∀ (l:List aa) (slf:Nat->aa->List ai->Option (Bool×List ai)) (c:List ai),(∀ k∈l,∀ c:List ai,c.length+cnt k<=100000000->To (λn=>slf n k c) (true,c++(desc k).map aa.Id))->c.length+(l.map cnt).sum<=100000000->To (λn=>M.eU (slf n) l c) (.inl (c++(l.flatMap desc).map aa.Id)):=by
  intro l;induction l with
  | nil=>intro slf c _ _;simp only [M.eU];exact To.pure.of (by simp)
  | cons x l ihl=>
   intro slf c hs hc;simp only [List.map_cons,List.sum_cons] at hc;simp only [M.eU];refine To.bind (hs x (by simp) c (by omega)) (To.neg (by simp) ?_);refine (ihl slf _ (λk hk=>hs k (by simp [hk])) (by simp only [List.length_append,List.length_map];show c.length+cnt x+_<=_;omega)).of ?_;simp
 refine To.succ ?_;simp only [M.lc,M.vG];refine To.bind (a:=(true,c++ [u.Id])) (To.bindS (bu (by simp;omega)) To.pure) (To.neg (by simp) ?_);refine To.bind (loop u.Kids (λn=>M.lc n) (c++ [u.Id]) (λk hk=>ih k hk) (by simp;omega)) (To.pure.of ?_);rw [fJ];simp
theorem Ht:∀ m:Nat,M.iN (List.replicate m aO) [(aO,true)]=some [(aO,true)]
 | 0=>rfl
 | m+1=>by
  rw [List.replicate_succ];simp only [M.iN];have:mset [(aO,true)] aO true= [(aO,true)]:=by simp [mset]
  rw [this];exact Ht m
theorem Pg(u:aa)(h:smT u):To (λn=>M.wG n (stripT u)) true:=by
 simp only [M.wG,M.pM];have he:(desc (stripT u)).map aa.Id=List.replicate (cnt u) aO:=by
  rw [tY,List.map_map,List.eq_replicate_iff];refine ⟨by rw [List.length_map];rfl,λb hb=>?_⟩;obtain ⟨y,_,rfl⟩:=List.mem_map.1 hb;show (stripT y).Id=_;rw [mY]
 refine To.bind (a:=List.replicate (cnt u) aO) (To.bind (Uu (stripT u) [] (by rw [Aa];simp;have:=h.1;omega)) (To.pure.of (by rw [he];rfl))) ?_;obtain ⟨m,hm⟩:∃ m,cnt u=m+1:=⟨cnt u-1,by have:=xL u;omega⟩
 rw [hm,List.replicate_succ];have hl:M.iN (aO :: List.replicate m aO) []=some [(aO,true)]:=by
  simp only [M.iN];exact Ht m
 refine To.bindS hl (To.pos (by simp [mget,aO]) (To.bindS (show growC _=some () by simp [growC]) (To.pos (by simp) To.pure)))
def Wv(u:aa):Bool:=(desc u).all okU && decide (dp u<=8) && decide (cnt u<=1024)
theorem Fb(u:aa)(h:smT u):To (λn=>M.qg n (stripT u)) (Wv u):=by
 have hs:=Hr h;simp only [M.qg];refine To.bind (Pf _ hs) ?_;unfold Wv;rw [MM];cases ha:(desc u).all okU with
 | false=>exact To.neg (by simp) (To.pure.of (by simp))
 | true=>
  refine To.pos rfl (To.bind (KZ _ hs) ?_);rw [Pe];by_cases hd:(dp u:Int)<=8
  .have k1:dp u<=8:=by omega
   refine To.pos hd (To.bind (Fa _ hs) ?_);rw [Aa];by_cases hc:(cnt u:Int)<=1024
   .have k2:cnt u<=1024:=by omega
    exact To.pos hc (To.bind (Pg u h) (To.pure.of (by simp [k1,k2])))
   .have k2:¬ cnt u<=1024:=by omega
    exact To.neg hc (To.pure.of (by simp [k2]))
  .have k1:¬ dp u<=8:=by omega
   exact To.neg hd (To.pure.of (by simp [k1]))
theorem Xg(u v:aa)(i:Nat)(hi:i<u.Kids.length)(hl:u.Kids.length<=10000000):∀ (d k:Nat),i-k=d->k<=i->To (λn=>M.gT u (i:Int) v n (k:Int)) (if keyU v∈((u.Kids.take i).drop k).map keyU then .inr false else .inl ()):=by
 intro d;induction d with
 | zero=>
  intro k hd hk;refine To.succ ?_;simp only [M.gT];refine To.neg (by omega) (To.pure.of ?_);rw [List.drop_eq_nil_of_le (by simp;omega)];simp
 | succ d ih=>
  intro k hd hk;have hkl:k<u.Kids.length:=by omega
  have hidx:idx u.Kids (k:Int)=some u.Kids[k]:=by rw [lI];exact List.getElem?_eq_getElem hkl
  have hdr:(u.Kids.take i).drop k=u.Kids[k] :: (u.Kids.take i).drop (k+1):=by
   rw [List.drop_eq_getElem_cons (by simp;omega)];simp
  refine To.succ ?_;simp only [M.gT];rw [hdr,List.map_cons];refine To.pos (by omega) (To.bindS hidx ?_);have ih':=ih (k+1) (by omega) (by omega);by_cases h1:u.Kids[k].Kind=v.Kind
  .refine To.pos h1 (To.bindS hidx ?_);by_cases h2:(u.Kids[k].Label==v.Label)=true
   .refine To.pos h2 (To.pure.of ?_);have h2':u.Kids[k].Label=v.Label:=by simpa using h2
    have e:keyU v=keyU u.Kids[k]:=by unfold keyU;rw [h1,h2']
    rw [if_pos (by rw [e];exact List.mem_cons_self)]
   .refine To.neg h2 (To.bindS (eO (by omega)) (ih'.of ?_));have h2':¬ u.Kids[k].Label=v.Label:=by simpa using h2
    have e:¬ keyU v=keyU u.Kids[k]:=λe=>h2' (Prod.mk.inj e).2.symm;simp only [List.mem_cons,e,false_or]
  .refine To.neg h1 (To.bindS (eO (by omega)) (ih'.of ?_));have e:¬ keyU v=keyU u.Kids[k]:=λe=>h1 (Prod.mk.inj e).1.symm;simp only [List.mem_cons,e,false_or]
def dupF:List (Int×Str)->List (Int×Str)->Bool
 | _,[]=>true
 | pre,x :: xs=>!decide (x∈pre) && dupF (pre++ [x]) xs
theorem K3:∀ (xs pre:List (Int×Str)),dupF pre xs=(decide xs.Nodup && xs.all λx=>!decide (x∈pre))
 | [],pre=>by simp [dupF]
 | x :: xs,pre=>by
  rw [dupF,K3 xs,Bool.eq_iff_iff];simp only [Bool.and_eq_true,Bool.not_eq_true',decide_eq_false_iff_not,decide_eq_true_eq,List.all_eq_true,List.nodup_cons,List.mem_cons,forall_eq_or_imp,List.mem_append,List.mem_singleton,not_or,List.mem_nil_iff,or_false];constructor
  .rintro ⟨h1,h2,h3⟩;exact ⟨⟨λhx=>(h3 x hx).2 rfl,h2⟩,h1,λy hy=>(h3 y hy).1⟩
  .rintro ⟨⟨h1,h2⟩,h3,h4⟩;exact ⟨h3,h2,λy hy=>⟨h4 y hy,λe=>h1 (e▸hy)⟩⟩
theorem Ph(u:aa):smT u->∀ d:Nat,d<=9->(d=0\/u.Kind≠0)->To (λn=>M.qy n u (d:Int)) (decide (d+dp u<=8) && (desc u).all okU):=by
 refine Wd (P:=λu=>smT u->∀ d:Nat,d<=9->(d=0\/u.Kind≠0)->To (λn=>M.qy n u (d:Int)) (decide (d+dp u<=8) && (desc u).all okU)) ?_ u;intro u ih h d hd hk;have hkl:=Hm h;have loop:∀ (xs:List aa) (i:Nat) (slf:Nat->aa->Int->Option Bool),u.Kids.drop i=xs->d<=8->(∀ k∈xs,k.Kind≠0->To (λn=>slf n k ((d+1:Nat):Int)) (decide (d+1+dp k<=8) && (desc k).all okU))->
   To (λn=>M.iW u (d:Int) (slf n) n (i:Int)) (if ((xs.all λk=>nestB u.Kind k.Kind) && (xs.all λk=>decide (d+1+dp k<=8) && (desc k).all okU) && dupF ((u.Kids.take i).map keyU) (xs.map keyU))=true then .inl () else .inr false):=by
  intro xs;induction xs with
  | nil=>
   intro i slf hx _ _;refine To.succ ?_;simp only [M.iW];exact To.neg (aM hx) (To.pure.of (by simp [dupF]))
  | cons x xs ihl=>
   intro i slf hx hd8 hs;obtain ⟨hil,hget,hnext⟩:=fT hx;refine To.succ ?_;simp only [M.iW];refine To.pos (aD hx) (To.bindS (ax hx) ?_);cases hn:nestB u.Kind x.Kind with
   | false=>exact To.bind (a:=true) (To.bindS (rV _ _) (To.pos hn To.pure)) (To.pos rfl (To.pure.of (by simp [hn])))
   | true=>
    have hx0:x.Kind≠0:=λe=>by rw [e,E5] at hn;cases hn
    have hsx:=hs x (by simp) hx0;cases hb:(decide (d+1+dp x<=8) && (desc x).all okU) with
    | false=>
     rw [hb] at hsx;refine To.bind (a:=true) (To.bindS (rV _ _) (To.neg (by simp [hn]) (To.bindS (eO (by omega)) (To.bind hsx.shift (To.pure.of rfl))))) (To.pos rfl (To.pure.of ?_));simp only [List.all_cons,hb,Bool.false_and,Bool.and_false,Bool.false_eq_true,if_false]
    | true=>
     rw [hb] at hsx;refine To.bind (a:=false) (To.bindS (rV _ _) (To.neg (by simp [hn]) (To.bindS (eO (by omega)) (To.bind hsx.shift (To.pure.of rfl))))) (To.neg (by simp) ?_);have h2:=Xg u x i hil hkl i 0 (by omega) (Nat.zero_le _);rw [List.drop_zero] at h2;refine To.bind h2 ?_;by_cases hm:keyU x∈(u.Kids.take i).map keyU
     .rw [if_pos hm];refine To.pure.of ?_;have:dupF ((u.Kids.take i).map keyU) ((x :: xs).map keyU)=false:=by rw [List.map_cons,dupF,decide_eq_true hm];rfl
      rw [this,Bool.and_false];rfl
     .rw [if_neg hm];refine To.bindS (eO (by omega)) ((ihl (i+1) (λn=>slf (n+1)) hnext hd8 (λk hk h0=>(hs k (by simp [hk]) h0).shift)).of ?_);have:dupF ((u.Kids.take i).map keyU) ((x :: xs).map keyU)=dupF ((u.Kids.take (i+1)).map keyU) (xs.map keyU):=by rw [List.map_cons,dupF,decide_eq_false hm,Bool.not_false,Bool.true_and,List.take_add_one,hget];simp
      rw [this];simp only [List.all_cons,hn,hb,Bool.true_and]
 have alo:=KY u (wY h);refine To.succ ?_;simp only [M.qy];have hpre:To (λn=>if (8:Int)< (d:Int) then some true
    else
     if (0:Int)< (d:Int) then
      if u.Kind=(0:Int) then
       some true
      else
       Option.bind (M.mG n u) λalone=>
       if alone=false then
        some true
       else
        some (decide ((64:Int)< (u.Kids.length:Int)))
     else
      Option.bind (M.mG n u) λalone1=>
      if alone1=false then
       some true
      else
       some (decide ((64:Int)< (u.Kids.length:Int)))) (decide (8<d) || !aloB u || decide (64<u.Kids.length)):=by
  have e64:decide ((64:Int)< (u.Kids.length:Int))=decide (64<u.Kids.length):=decide_eq_decide.2 (by omega);have tl:¬ 8<d->To (λn=>Option.bind (M.mG n u) λalone=>if alone=false then some true else some (decide ((64:Int)< (u.Kids.length:Int)))) (decide (8<d) || !aloB u || decide (64<u.Kids.length)):=by
   intro h8;refine To.bind alo ?_;rw [decide_eq_false h8];cases aloB u with
   | false=>exact To.pos rfl To.pure
   | true=>exact To.neg (by simp) (To.pure.of (by rw [e64];rfl))
  by_cases h8:8<d
  .exact To.pos (by omega) (To.pure.of (by rw [decide_eq_true h8];rfl))
  .refine To.neg (by omega) ?_;by_cases h0:d=0
   .exact To.neg (by omega) (tl h8)
   .exact To.pos (by omega) (To.neg (by rcases hk with h | h;exact absurd h h0;exact h) (tl h8))
 refine To.bind hpre ?_;by_cases hb:(decide (8<d) || !aloB u || decide (64<u.Kids.length))=true
 .refine To.pos hb (To.pure.of ?_);simp only [Bool.or_eq_true,decide_eq_true_eq,Bool.not_eq_true'] at hb;rcases hb with (hb | hb) | hb
  .have:¬ d+dp u<=8:=by omega
   simp [this]
  .rw [fJ,List.all_cons];unfold okU;rw [hb];simp
  .rw [fJ,List.all_cons];unfold okU Wu;have:¬ u.Kids.length<=64:=by omega
   simp [this]
 .refine To.neg hb ?_;have hb':(decide (8<d) || !aloB u || decide (64<u.Kids.length))=false:=by simpa using hb
  simp only [Bool.or_eq_false_iff,decide_eq_false_iff_not,Bool.not_eq_false'] at hb';obtain ⟨⟨h8,ha⟩,h64⟩:=hb';refine To.bind (loop u.Kids 0 (λn=>M.qy n) rfl (by omega) (λk hk h0=>ih k hk (uB h hk) (d+1) (by omega) (.inr h0))) ?_;have e:(decide (d+dp u<=8) && (desc u).all okU)=((u.Kids.all λk=>nestB u.Kind k.Kind) && (u.Kids.all λk=>decide (d+1+dp k<=8) && (desc k).all okU) && dupF ((u.Kids.take 0).map keyU) (u.Kids.map keyU)):=by
   rw [fJ,List.all_cons];unfold okU Wu;rw [ha,K3,Bool.eq_iff_iff];have h64':u.Kids.length<=64:=by omega
   have hdp:d+dp u<=8 ↔ ∀ k∈u.Kids,d+1+dp k<=8:=by
    have:=A7 u (8-d);constructor
    .intro h1 k hk;have:=this.1 (by omega) k hk;omega
    .intro h1;have:=this.2 (λk hk=>by have:=h1 k hk;omega);omega
   simp only [Bool.and_eq_true,decide_eq_true_eq,List.all_eq_true,h64',and_true,true_and,List.take_zero,List.map_nil,List.mem_nil_iff,not_false_eq_true,Bool.not_eq_true',decide_eq_false_iff_not,implies_true,List.mem_flatMap,forall_exists_index,and_imp,hdp];constructor
   .rintro ⟨h1,⟨h2,h3⟩,h4⟩;exact ⟨⟨h2,λk hk=>⟨h1 k hk,λx hx=>h4 x k hk hx⟩⟩,h3⟩
   .rintro ⟨⟨h2,h1⟩,h3⟩;exact ⟨λk hk=>(h1 k hk).1,⟨h2,h3⟩,λx k hk hx=>(h1 k hk).2 x hx⟩
  rw [e];by_cases hq:((u.Kids.all λk=>nestB u.Kind k.Kind) && (u.Kids.all λk=>decide (d+1+dp k<=8) && (desc k).all okU) && dupF ((u.Kids.take 0).map keyU) (u.Kids.map keyU))=true
  .rw [if_pos hq];exact To.pure.of hq.symm
  .rw [if_neg hq];exact To.pure.of (by simpa using hq)
theorem K4(u:aa)(h:smT u)(hc:cnt u<=1000000):To (λn=>M.sM n u) (Wv u):=by
 simp only [M.sM];refine To.bind (Ph u h 0 (by omega) (.inl rfl)) ?_;unfold Wv;rw [Nat.zero_add];cases ha:(desc u).all okU with
 | false=>exact To.neg (by simp) (To.pure.of (by simp))
 | true=>
  by_cases hd:dp u<=8
  .refine To.pos (by simp [hd]) (To.bind (Cu u hc) (To.pure.of ?_));have:((cnt u:Int)<=1024) ↔ cnt u<=1024:=by omega
   simp [hd,this]
  .exact To.neg (by simp [hd]) (To.pure.of (by simp [hd]))
def esc:Str->Str
 | []=>[]
 | c :: r=>if c.toNat=124\/c.toNat=92 then 92 :: c :: r else c :: r
def WB(l:List af):Str:=Ef ((txts l).map esc)
def yQ(u:aa):Str:=if u.Kind=0 then [] else 32 :: u.Label
def Wq(u:aa):Str:=if u.Head.length=0 then [] else 58 :: WB u.Head
def WC(u:aa):Str:=if u.Words.length=0 then [] else 32 :: 124 :: WB u.Words
def WE(u:aa):Str:=nameOf u.Kind++(yQ u++(Wq u++WC u))
def spc(d:Nat):Str:=List.replicate (2*d) 32
def okL(u:aa)(d:Int):Bool:=decide (0<=d) && decide (d<=8) && aloB u
def A8(u:aa)(d:Int):Str:=if okL u d=true then spc d.toNat++WE u else []
theorem vg(c:UInt8)(r:Str):esc (c :: r)=if c.toNat=124\/c.toNat=92 then 92 :: c :: r else c :: r:=rfl
theorem Sl(t:Str):(esc t).length<=t.length+1:=by
 cases t with
 | nil=>simp [esc]
 | cons c r=>
  rw [vg];split
  .simp
  .simp
theorem Ab{t:Str}(h:V5 t=true):1<=t.length/\t.length<=24:=by
 unfold V5 at h;simp only [Bool.and_eq_true,decide_eq_true_eq] at h;exact h.1
theorem Hu{l:List af}(h:Wp l=true):l.length<=256/\ ∀ w∈l,V5 w.Text=true:=by
 unfold Wp seqB txts at h;simp only [Bool.and_eq_true,decide_eq_true_eq,List.length_map,List.all_map,List.all_eq_true,Function.comp_apply] at h;exact h
theorem vk{l:List af}(h:∀ w∈l,V5 w.Text=true):(WB l).length<=26*l.length:=by
 unfold WB;induction l with
 | nil=>simp [txts,Ef]
 | cons w l ih=>
  have h1:=Ab (h w (by simp));have h2:=Sl w.Text;have h3:=ih (λx hx=>h x (by simp [hx]));have e:Ef ((txts (w :: l)).map esc)=32 :: (esc w.Text++Ef ((txts l).map esc)):=rfl;rw [e];simp only [List.length_cons,List.length_append];omega
theorem vo{s:Str}(h:qP s=true):s.length<=7:=by
 unfold qP at h;simp only [Bool.and_eq_true,decide_eq_true_eq] at h;omega
theorem CE(k:Int):(nameOf k).length<=9:=by
 by_cases h:0<=k/\k<=7
 .obtain ⟨m,rfl⟩:∃ m:Nat,k=(m:Int):=⟨k.toNat,by omega⟩
  have hm:m=0\/m=1\/m=2\/m=3\/m=4\/m=5\/m=6\/m=7:=by omega
  rcases hm with rfl | rfl | rfl | rfl | rfl | rfl | rfl | rfl<;> decide
 .rw [EZ.2 h];simp
theorem vQ{u:aa}(h:aloB u=true):0<=u.Kind/\u.Kind<=7/\(u.Kind=0->u.Label= []/\u.Head= []/\u.Words= [])/\(u.Kind≠0->qP u.Label=true)/\(u.Head.length<=256/\ ∀ w∈u.Head,V5 w.Text=true)/\(u.Words.length<=256/\ ∀ w∈u.Words,V5 w.Text=true):=by
 unfold aloB at h;by_cases h0:u.Kind=0
 .rw [if_pos h0] at h;simp only [Bool.and_eq_true,beq_iff_eq] at h;obtain ⟨⟨h1,h2⟩,h3⟩:=h;have h2:=List.eq_nil_of_length_eq_zero h2;have h3:=List.eq_nil_of_length_eq_zero h3;refine ⟨by omega,by omega,λ_=>⟨h1,h2,h3⟩,λh=>absurd h0 h,?_,?_⟩
  .rw [h2];simp
  .rw [h3];simp
 .rw [if_neg h0] at h;simp only [Bool.and_eq_true,decide_eq_true_eq] at h;obtain ⟨⟨⟨⟨h1,h2⟩,h3⟩,h4⟩,h5⟩:=h;exact ⟨by omega,h2,λh=>absurd h h0,λ_=>h3,Hu h4,Hu h5⟩
theorem Pj{u:aa}(h:aloB u=true):(WE u).length<=20000:=by
 obtain ⟨_,_,h0,h1,h2,h3⟩:=vQ h;have n:=CE u.Kind;have a:(yQ u).length<=8:=by
  unfold yQ;split
  .simp
  .rename_i hk;have:=vo (h1 hk);simp;omega
 have b:(Wq u).length<=7000:=by
  unfold Wq;split
  .simp
  .have:=vk h2.2;simp;omega
 have c:(WC u).length<=7000:=by
  unfold WC;split
  .simp
  .have:=vk h3.2;simp;omega
 unfold WE;simp only [List.length_append];omega
theorem zA:∀ (l:List af) (s:Str),(∀ w∈l,V5 w.Text=true)->s.length+26*l.length<=1000000->M.dZ l s=some (s++WB l)
 | [],s,_,_=>by simp [M.dZ,WB,txts,Ef]
 | w :: l,s,hw,hs=>by
  have h1:=Ab (hw w (by simp));simp only [List.length_cons] at hs;obtain ⟨c,r,hc⟩:∃ c r,w.Text=c :: r:=by
   cases h:w.Text with
   | nil=>rw [h] at h1;simp at h1
   | cons c r=>exact ⟨c,r,rfl⟩
  have hput:WB (w :: l)=32 :: (esc w.Text++WB l):=rfl;have hi:idx w.Text (0:Int)=some c:=by rw [hc];exact eP
  simp only [M.dZ];rw [gZ (by simp;omega),Option.bind_some,hi,Option.bind_some,Option.bind_some];by_cases h124:(c.toNat:Int)=124
  .have he:esc w.Text=92 :: w.Text:=by rw [hc,vg,if_pos (.inl (by omega))]
   rw [if_pos h124,Option.bind_some,if_pos rfl,gZ (by simp;omega),Option.bind_some,gZ (by simp;omega),Option.bind_some,zA l _ (λx hx=>hw x (by simp [hx])) (by simp;omega),hput,he];simp
  .rw [if_neg h124,Option.bind_some];by_cases h92:(c.toNat:Int)=92
   .have he:esc w.Text=92 :: w.Text:=by rw [hc,vg,if_pos (.inr (by omega))]
    rw [decide_eq_true h92,if_pos rfl,gZ (by simp;omega),Option.bind_some,gZ (by simp;omega),Option.bind_some,zA l _ (λx hx=>hw x (by simp [hx])) (by simp;omega),hput,he];simp
   .have he:esc w.Text=w.Text:=by rw [hc,vg,if_neg (by omega)]
    rw [decide_eq_false h92,if_neg (by decide),gZ (by simp;omega),Option.bind_some,zA l _ (λx hx=>hw x (by simp [hx])) (by simp;omega),hput,he];simp
theorem Pk(l:List af)(s:Str)(hw:∀ w∈l,V5 w.Text=true)(hs:s.length+26*l.length<=1000000):M.ow s l=some (s++WB l):=by
 unfold M.ow;rw [zA l s hw hs];rfl
theorem CF(l:List af)(hw:∀ w∈l,V5 w.Text=true)(hl:l.length<=256):∀ (xs:List af) (i:Nat) (s:Str),l.drop i=xs->s.length+26*xs.length<=1000000->To (λn=>M.fe l n s (i:Int)) (s++WB xs)
 | [],i,s,hx,hs=>by
  refine To.succ ?_;simp only [M.fe];exact To.neg (aM hx) (To.pure.of (by simp [WB,txts,Ef]))
 | w :: xs,i,s,hx,hs=>by
  have hm:w∈l:=by
   have:=(fT hx).2.1;exact List.mem_of_getElem? this
  have h1:=Ab (hw w hm);simp only [List.length_cons] at hs;obtain ⟨c,r,hc⟩:∃ c r,w.Text=c :: r:=by
   cases h:w.Text with
   | nil=>rw [h] at h1;simp at h1
   | cons c r=>exact ⟨c,r,rfl⟩
  have hput:WB (w :: xs)=32 :: (esc w.Text++WB xs):=rfl;have hi:idx w.Text (0:Int)=some c:=by rw [hc];exact eP
  have ih:=λs' hs'=>CF l hw hl xs (i+1) s' (aC hx) hs';refine To.succ ?_;simp only [M.fe];refine To.pos (aD hx) (To.bindS (ax hx) ?_);have go:∀ b:Bool,(b=true ↔ c.toNat=124\/c.toNat=92)->To (λn=>if b=true then
     Option.bind (catC ([92]:Str) w.Text) λv2=>
     Option.bind (catC s ([32]:Str)) λv3=>
     Option.bind (catC v3 v2) λv4=>
     M.fe l n v4 ((i:Int)+1)
    else
     Option.bind (catC s ([32]:Str)) λv5=>
     Option.bind (catC v5 w.Text) λv6=>
     M.fe l n v6 ((i:Int)+1)) (s++WB (w :: xs)):=by
   intro b hb;rw [aP];by_cases h:c.toNat=124\/c.toNat=92
   .have he:esc w.Text=92 :: w.Text:=by rw [hc,vg,if_pos h]
    refine To.pos (hb.2 h) (To.bindS (gZ (by simp;omega)) (To.bindS (gZ (by simp;omega)) (To.bindS (gZ (by simp;omega)) ?_)));refine (ih _ (by simp;omega)).of ?_;rw [hput,he];simp
   .have he:esc w.Text=w.Text:=by rw [hc,vg,if_neg h]
    refine To.neg (λe=>h (hb.1 e)) (To.bindS (gZ (by simp;omega)) (To.bindS (gZ (by simp;omega)) ?_));refine (ih _ (by simp;omega)).of ?_;rw [hput,he];simp
  by_cases h124:(c.toNat:Int)=124
  .exact To.bind (a:=true) (To.bindS hi (To.pos h124 To.pure)) (go true ⟨λ_=>.inl (by omega),λ_=>rfl⟩)
  .refine To.bind (a:=decide ((c.toNat:Int)=92)) (To.bindS hi (To.neg h124 (To.bindS hi To.pure))) (go _ ?_);simp only [decide_eq_true_eq];omega
theorem K5(l:List af)(hw:∀ w∈l,V5 w.Text=true)(hl:l.length<=256):To (λn=>M.sN n l) (WB l):=by
 simp only [M.sN];refine To.bind (CF l hw hl l 0 [] rfl (by simp;omega)) (To.pure.of (by simp))
theorem Hw(d:Nat):spc (d+1)=32 :: 32 :: spc d:=by
 unfold spc;rw [show 2*(d+1)=(2*d+1)+1 by omega,List.replicate_succ,List.replicate_succ]
theorem K6:∀ d:Nat,Lib.repeatL [32,32] d=spc d
 | 0=>rfl
 | d+1=>by
  rw [Lib.repeatL,K6 d,Hw];rfl
theorem Hy{u:aa}(h:Wn u):smT {u with Id:=aO,Kids:=[]}/\Wv {u with Id:=aO,Kids:=[]}=aloB u:=by
 have hd:desc {u with Id:=aO,Kids:=[]}= [{u with Id:=aO,Kids:=[]}]:=by rw [fJ];rfl
 refine ⟨⟨by unfold cnt;rw [hd];simp,λx hx=>?_⟩,?_⟩
 .rw [hd] at hx;rw [List.mem_singleton.1 hx];exact h
 .unfold Wv cnt;rw [hd,wZ];simp [okU,Wu,aloB]
theorem VJ(u:aa)(h:Wn u)(d:Int):To (λn=>M.pQ n u d) (okL u d):=by
 simp only [M.pQ];unfold okL;by_cases h0:0<=d
 .by_cases h8:d<=8
  .refine To.pos h0 (To.pos h8 ?_);obtain ⟨h1,h2⟩:=Hy h;refine To.bind (Hq _ h1) (To.bind (Fb _ h1) (To.pure.of (h2.trans ?_)));simp [h0,h8]
  .exact To.pos h0 (To.neg h8 (To.pure.of (by simp [h8])))
 .exact To.neg h0 (To.pure.of (by simp [h0]))
theorem Vg(u:aa)(h:Wn u)(d:Int):To (λn=>M.kQ n u d) (A8 u d):=by
 simp only [M.kQ];refine To.bind (VJ u h d) ?_;unfold A8;cases ho:okL u d with
 | false=>exact To.pos rfl To.pure
 | true=>
  unfold okL at ho;simp only [Bool.and_eq_true,decide_eq_true_eq] at ho;obtain ⟨⟨h0,h8⟩,ha⟩:=ho;obtain ⟨k0,k7,hz,hl,hh,hw⟩:=vQ ha;obtain ⟨m,rfl⟩:∃ m:Nat,d=(m:Int):=⟨d.toNat,by omega⟩
  have hn:=CE u.Kind;have hsl:(spc m).length<=16:=by simp [spc];omega
  have hrep:Dec.repeatM [32,32] (m:Int)=some (spc m):=by
   unfold Dec.repeatM;rw [if_pos (by simp;omega),Int.toNat_natCast,K6]
  have hlb:(yQ u).length<=8:=by
   unfold yQ;split
   .simp
   .rename_i hk;have:=vo (hl hk);simp;omega
  have hhb:(Wq u).length<=7000:=by
   unfold Wq;split
   .simp
   .have:=vk hh.2;simp;omega
  refine To.neg (by simp) (To.bindS hrep (To.bindS (WI _) (To.bindS (gZ (by omega)) (To.bind (a:=spc m++nameOf u.Kind++yQ u) ?_ (To.bind (a:=spc m++nameOf u.Kind++yQ u++Wq u) ?_ ?_)))))
  .by_cases hk:u.Kind=0
   .refine To.neg (by simpa using hk) (To.pure.of ?_);unfold yQ;rw [if_pos hk];simp
   .have:=vo (hl hk);refine To.pos hk (To.bindS (gZ (by simp;omega)) (To.bindS (gZ (by simp;omega)) (To.pure.of ?_)));unfold yQ;rw [if_neg hk];simp
  .by_cases hk:u.Head.length=0
   .refine To.neg (by omega) (To.pure.of ?_);unfold Wq;rw [if_pos hk];simp
   .refine To.pos (by omega) (To.bindS (gZ (by simp;omega)) (To.bindS (Pk u.Head _ hh.2 (by simp;omega)) (To.pure.of ?_)));unfold Wq;rw [if_neg hk];simp
  .rw [if_pos rfl,Int.toNat_natCast];by_cases hk:u.Words.length=0
   .refine To.neg (by omega) (To.pure.of ?_);unfold WE WC;rw [if_pos hk];simp
   .refine To.pos (by omega) (To.bindS (gZ (by simp;omega)) (To.bindS (Pk u.Words _ hw.2 (by simp;omega)) (To.pure.of ?_)));unfold WE WC;rw [if_neg hk];simp
theorem MN(d:Nat)(hd:d<=8):∀ (k i:Nat) (s:Str),d-i=k->i<=d->s.length+2*k<=1000->To (λn=>M.jI (d:Int) n s (i:Int)) (s++spc k):=by
 intro k;induction k with
 | zero=>
  intro i s hk hi hs;refine To.succ ?_;simp only [M.jI];exact To.neg (by omega) (To.pure.of (by simp [spc]))
 | succ k ih=>
  intro i s hk hi hs;refine To.succ ?_;simp only [M.jI];refine To.pos (by omega) (To.bindS (gZ (by simp;omega)) (To.bindS (eO (by omega)) ((ih (i+1) _ (by omega) (by omega) (by simp;omega)).of ?_)));rw [Hw];simp
theorem Vh(u:aa)(h:Wn u)(d:Int):To (λn=>M.wD n u d) (A8 u d):=by
 simp only [M.wD];have hpre:To (λn=>if d<(0:Int) then some true else if (8:Int)< d then some true else Option.bind (M.mG n u) λalone=>some (!alone)) (!okL u d):=by
  unfold okL;by_cases h0:d<0
  .exact To.pos h0 (To.pure.of (by have:¬ 0<=d:=(by omega);simp [this]))
  .by_cases h8:8<d
   .exact To.neg h0 (To.pos h8 (To.pure.of (by have:¬ d<=8:=(by omega);simp [this])))
   .refine To.neg h0 (To.neg h8 (To.bind (KY u h) (To.pure.of ?_)));have k0:0<=d:=by omega
    have k8:d<=8:=by omega
    simp [k0,k8]
 refine To.bind hpre ?_;unfold A8;cases ho:okL u d with
 | false=>exact To.pos rfl To.pure
 | true=>
  unfold okL at ho;simp only [Bool.and_eq_true,decide_eq_true_eq] at ho;obtain ⟨⟨h0,h8⟩,ha⟩:=ho;obtain ⟨k0,k7,hz,hl,hh,hw⟩:=vQ ha;obtain ⟨m,rfl⟩:∃ m:Nat,d=(m:Int):=⟨d.toNat,by omega⟩
  have hn:=CE u.Kind;have hsl:(spc m).length<=16:=by simp [spc];omega
  have hlb:(yQ u).length<=8:=by
   unfold yQ;split
   .simp
   .rename_i hk;have:=vo (hl hk);simp;omega
  have hhb:(Wq u).length<=7000:=by
   unfold Wq;split
   .simp
   .have:=vk hh.2;simp;omega
  have hni:idx nm u.Kind=some (nameOf u.Kind):=by
   obtain ⟨x,hx,_⟩:=pW (l:=nm) (i:=u.Kind) k0 (by simp [nm];omega);unfold nameOf;rw [hx];rfl
  have hll:=MN m (by omega) m 0 [] (by omega) (Nat.zero_le _) (by simp;omega);rw [List.nil_append] at hll;refine To.neg (by simp) (To.bind hll (To.bindS (a:=nm) rfl (To.bindS hni (To.bindS (gZ (by omega)) (To.bind (a:=spc m++nameOf u.Kind++yQ u) ?_ (To.bind (a:=spc m++nameOf u.Kind++yQ u++Wq u) ?_ ?_))))))
  .by_cases hk:u.Kind=0
   .refine To.neg (by simpa using hk) (To.pure.of ?_);unfold yQ;rw [if_pos hk];simp
   .have:=vo (hl hk);refine To.pos hk (To.bindS (gZ (by simp;omega)) (To.bindS (gZ (by simp;omega)) (To.pure.of ?_)));unfold yQ;rw [if_neg hk];simp
  .by_cases hk:u.Head.length=0
   .refine To.neg (by omega) (To.pure.of ?_);unfold Wq;rw [if_pos hk];simp
   .have hp:=vk hh.2;refine To.pos (by omega) (To.bindS (gZ (by simp;omega)) (To.bind (K5 u.Head hh.2 hh.1) (To.bindS (gZ (by simp;omega)) (To.pure.of ?_))));unfold Wq;rw [if_neg hk];simp
  .rw [if_pos rfl,Int.toNat_natCast];by_cases hk:u.Words.length=0
   .refine To.neg (by omega) (To.pure.of ?_);unfold WE WC;rw [if_pos hk];simp
   .have hp:=vk hw.2;refine To.pos (by omega) (To.bindS (gZ (by simp;omega)) (To.bind (K5 u.Words hw.2 hw.1) (To.bindS (gZ (by simp;omega)) (To.pure.of ?_))));unfold WE WC;rw [if_neg hk];simp
def pre(u:aa)(d:Nat):List (aa×Nat):=(u,d) :: u.Kids.attach.flatMap (λk=>pre k.1 (d+1))
termination_by SizeOf.sizeOf u
decreasing_by exact vP k.2
theorem pre_eq(u:aa)(d:Nat):pre u d=(u,d) :: u.Kids.flatMap (λk=>pre k (d+1)):=by
 rw [pre,List.flatMap_def,List.flatMap_def,E8 (λk=>pre k (d+1))]
def lns(l:List (aa×Nat)):List Str:=l.map λp=>A8 p.1 (p.2:Int)
def jv(u:aa)(d:Nat):List Str:=lns (pre u d)
def qQ(l:List Str):Str:=l.flatMap λs=>s++ [10]
theorem Pm(u:aa):∀ d,(pre u d).map Prod.fst=desc u:=by
 refine Wd (P:=λu=>∀ d,(pre u d).map Prod.fst=desc u) ?_ u;intro u ih d;rw [pre_eq,fJ,List.map_cons,List.map_flatMap];congr 1;rw [List.flatMap_def,List.flatMap_def];congr 1;exact List.map_congr_left λk hk=>ih k hk (d+1)
theorem Bw(u:aa)(d:Nat):(pre u d).length=cnt u:=by unfold cnt;rw [<-Pm u d,List.length_map]
theorem Pn(u:aa)(d:Int):(A8 u d).length<=20016:=by
 unfold A8;split
 .rename_i h;unfold okL at h;simp only [Bool.and_eq_true,decide_eq_true_eq] at h;have:=Pj h.2;simp [spc];omega
 .simp
theorem JV(u:aa):smT u->∀ (d:Nat) (c:List Str),d+dp u<=1000000->c.length+cnt u<=100000000->To (λn=>M.gD n u (d:Int) c) (c++jv u d):=by
 refine Wd (P:=λu=>smT u->∀ (d:Nat) (c:List Str),d+dp u<=1000000->c.length+cnt u<=100000000->To (λn=>M.gD n u (d:Int) c) (c++jv u d)) ?_ u;intro u ih h d c hd hc;rw [lH] at hc;have loop:∀ (l:List aa) (slf:Nat->aa->Int->List Str->Option (List Str)) (c:List Str),d+1<=1000001->(∀ k∈l,∀ c:List Str,c.length+cnt k<=100000000->To (λn=>slf n k ((d+1:Nat):Int) c) (c++jv k (d+1)))->c.length+(l.map cnt).sum<=100000000->To (λn=>M.dR (d:Int) (slf n) l c) (c++lns (l.flatMap λk=>pre k (d+1))):=by
  intro l;induction l with
  | nil=>intro slf c _ _ _;simp only [M.dR];exact To.pure.of (by simp [lns])
  | cons x l ihl=>
   intro slf c hd1 hs hc;simp only [List.map_cons,List.sum_cons] at hc;simp only [M.dR];refine To.bindS (eO (by omega)) (To.bind (hs x (by simp) c (by omega)) ?_);refine (ihl slf _ hd1 (λk hk=>hs k (by simp [hk])) ?_).of ?_
   .simp only [List.length_append,jv,lns,List.length_map,Bw];omega
   .simp [jv,lns]
 refine To.succ ?_;simp only [M.gD];refine To.bind (Vg u (wY h) d) (To.bindS (bu (by simp;omega)) (To.bind (loop u.Kids (λn=>M.gD n) _ (by omega) (λk hk c hc=>ih k hk (uB h hk) (d+1) c (by have:=(A7 u (dp u)).1 (Nat.le_refl _) k hk;omega) hc) (by simp;omega)) (To.pure.of ?_)));unfold jv;rw [pre_eq];simp [lns]
theorem Sn(u:aa)(h:smT u):To (λn=>M.lQ n u) (if Wv u=true then jv u 0 else []):=by
 simp only [M.lQ];refine To.bind (Hq u h) (To.bind (Fb u h) ?_);cases hv:Wv u with
 | false=>exact To.pos rfl (To.pure.of (by simp))
 | true=>
  have hd:dp u<=8:=by
   unfold Wv at hv;simp only [Bool.and_eq_true,decide_eq_true_eq] at hv;exact hv.1.2
  refine To.neg (by simp) (To.bind (JV u h 0 [] (by omega) (by have:=h.1;simp;omega)) (To.pure.of (by simp)))
theorem MO(u:aa):smT u->∀ d:Nat,d+dp u<=1000000->To (λn=>M.qz n u (d:Int)) (jv u d):=by
 refine Wd (P:=λu=>smT u->∀ d:Nat,d+dp u<=1000000->To (λn=>M.qz n u (d:Int)) (jv u d)) ?_ u;intro u ih h d hd;have loop:∀ (xs:List aa) (i:Nat) (slf:Nat->aa->Int->Option (List Str)) (c:List Str),u.Kids.drop i=xs->d<=1000000->(∀ k∈xs,To (λn=>slf n k ((d+1:Nat):Int)) (jv k (d+1)))->c.length+(xs.map cnt).sum<=100000000->
   To (λn=>M.ja u (d:Int) (slf n) n c (i:Int)) (c++lns (xs.flatMap λk=>pre k (d+1))):=by
  intro xs;induction xs with
  | nil=>
   intro i slf c hx _ _ _;refine To.succ ?_;simp only [M.ja];exact To.neg (aM hx) (To.pure.of (by simp [lns]))
  | cons x xs ihl=>
   intro i slf c hx hd1 hs hc;simp only [List.map_cons,List.sum_cons] at hc;have hlx:(jv x (d+1)).length=cnt x:=by simp only [jv,lns,List.length_map,Bw]
   refine To.succ ?_;simp only [M.ja];refine To.pos (aD hx) (To.bindS (ax hx) (To.bindS (eO (by omega)) (To.bind (hs x (by simp)).shift (To.bindS (bu (by rw [hlx];omega)) ?_))));rw [aP i];refine (ihl (i+1) (λn=>slf (n+1)) _ (aC hx) hd1 (λk hk=>(hs k (by simp [hk])).shift) (by rw [List.length_append,hlx];omega)).of ?_;simp [jv,lns]
 have hc:=h.1;rw [lH] at hc;refine To.succ ?_;simp only [M.qz];refine To.bind (Vh u (wY h) d) (To.bind (loop u.Kids 0 (λn=>M.qz n) _ rfl (by omega) (λk hk=>ih k hk (uB h hk) (d+1) (by have:=(A7 u (dp u)).1 (Nat.le_refl _) k hk;omega)) (by simp;omega)) (To.pure.of ?_));unfold jv;rw [pre_eq];simp [lns]
theorem MP(u:aa)(h:smT u)(hc:cnt u<=1000000):To (λn=>M.uY n u) (if Wv u=true then jv u 0 else []):=by
 simp only [M.uY];refine To.bind (K4 u h hc) ?_;cases hv:Wv u with
 | false=>exact To.pos rfl (To.pure.of (by simp))
 | true=>
  have hd:dp u<=8:=by
   unfold Wv at hv;simp only [Bool.and_eq_true,decide_eq_true_eq] at hv;exact hv.1.2
  exact To.neg (by simp) (To.bind (MO u h 0 (by omega)) (To.pure.of (by simp)))
theorem CG:∀ (l:List Str) (x:Str),Ww (x :: l)++ [10]=qQ (x :: l)
 | [],x=>by simp [Ww,AY,qQ]
 | y :: l,x=>by
  have ih:=CG l y;have e1:Ww (x :: y :: l)=x++10 :: Ww (y :: l):=by simp [Ww,AY]
  have e2:qQ (x :: y :: l)=x++10 :: qQ (y :: l):=by simp [qQ]
  rw [e1,e2,<-ih];simp
theorem Eg(l:List (aa×Nat)):total (lns l)<=20017*l.length:=by
 induction l with
 | nil=>simp [total,lns]
 | cons p l ih=>
  have h1:=Pn p.1 (p.2:Int);have e:total (lns (p :: l))=(A8 p.1 (p.2:Int)).length+1+total (lns l):=by simp [total,lns]
  rw [e];simp only [List.length_cons];omega
theorem MQ(l:List Str):(qQ l).length=total l:=by
 induction l with
 | nil=>rfl
 | cons x l ih=>
  have e:qQ (x :: l)=x++10 :: qQ l:=by simp [qQ]
  rw [e];simp only [List.length_append,List.length_cons,ih];simp [total];omega
def Xd(u:aa):Str×Int:=if Wv u=true then (if 16384<(qQ (jv u 0)).length then ([],6) else (qQ (jv u 0),0)) else ([],1)
theorem Fe{u:aa}(h:Wv u=true):cnt u<=1024/\dp u<=8/\ ∀ x∈desc u,okU x=true:=by
 unfold Wv at h;simp only [Bool.and_eq_true,decide_eq_true_eq,List.all_eq_true] at h;exact ⟨h.2,h.1.2,h.1.1⟩
theorem Po(u:aa)(h:smT u):To (λn=>M.mO n u) (Xd u):=by
 simp only [M.mO];refine To.bind (Sn u h) ?_;unfold Xd;by_cases hv:Wv u=true
 .rw [if_pos hv,if_pos hv];have hc:=Fe hv;have ht:=Eg (pre u 0);rw [Bw] at ht;obtain ⟨x,l,hl⟩:∃ x l,jv u 0=x :: l:=by unfold jv;rw [pre_eq];exact ⟨_,_,rfl⟩
  have ht':total (jv u 0)<=20017*1024:=Nat.le_trans ht (Nat.mul_le_mul_left _ hc.1);have hj:=Pb (jv u 0) (by omega);refine To.neg (by rw [hl];simp;omega) (To.bindS hj ?_);have htl:=MQ (jv u 0);have he:Ww (jv u 0)++ [10]=qQ (jv u 0):=by rw [hl];exact CG l x
  have hel:(Ww (jv u 0)).length+1=(qQ (jv u 0)).length:=by rw [<-he];simp
  refine To.bindS (gZ (by simp;omega)) ?_;rw [he];by_cases hb:16384<(qQ (jv u 0)).length
  .rw [if_pos hb];exact To.pos (by omega) To.pure
  .rw [if_neg hb];exact To.neg (by omega) To.pure
 .rw [if_neg hv,if_neg hv];exact To.pos (by simp) To.pure
theorem Vi(u:aa)(h:smT u)(hc:cnt u<=1000000):To (λn=>M.wE n u) (Xd u):=by
 have loop:∀ (l:List Str),total l<=100000000->∀ (xs:List Str) (i:Nat) (s:Str),l.drop i=xs->s.length+total xs<=100000000->To (λn=>M.jJ l n s (i:Int)) (s++qQ xs):=by
  intro l hl xs;induction xs with
  | nil=>
   intro i s hx _;refine To.succ ?_;simp only [M.jJ];exact To.neg (aM hx) (To.pure.of (by simp [qQ]))
  | cons x xs ih=>
   intro i s hx hs;have ht:total (x :: xs)=x.length+1+total xs:=by simp [total]
   rw [ht] at hs;refine To.succ ?_;simp only [M.jJ];refine To.pos (aD hx) (To.bindS (ax hx) (To.bindS (gZ (by omega)) (To.bindS (gZ (by simp;omega)) ?_)));rw [aP];exact (ih (i+1) _ (aC hx) (by simp;omega)).of (by simp [qQ])
 simp only [M.wE];refine To.bind (K4 u h hc) ?_;unfold Xd;by_cases hv:Wv u=true
 .rw [if_pos hv];have hc2:=Fe hv;have ht:=Eg (pre u 0);rw [Bw] at ht;have ht':total (jv u 0)<=20017*1024:=Nat.le_trans ht (Nat.mul_le_mul_left _ hc2.1);have hL:=MP u h hc;rw [if_pos hv] at hL;refine To.neg (by simp [hv]) (To.bind hL (To.bind (loop (jv u 0) (by omega) (jv u 0) 0 [] rfl (by simp;omega)) ?_));rw [List.nil_append];by_cases hb:16384<(qQ (jv u 0)).length
  .rw [if_pos hb];exact To.pos (by omega) To.pure
  .rw [if_neg hb];exact To.neg (by omega) To.pure
 .rw [if_neg hv];exact To.pos (by simpa using hv) To.pure
end Go.Proofs.YtobcmdhemlennaaGreatDoor
