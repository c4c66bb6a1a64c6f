import Derived.Test.YtalogjkalmkpjaaGreatDoorMdl
import Derived.Test.YtalogjkalmkpjaaGreatDoorEv
import Derived.Test.YtalogjkalmkpjaaGreatDoorDec17
import Derived.KernelRfl
import Derived.Test.YtalogjkalmkpjaaGreatDoorDec4
/-
  Words, texts and their pieces: what other chapters' texts hold too (picked by wip/scripts/pick.py).
-/
set_option linter.unusedVariables false
set_option linter.unusedSimpArgs false
namespace Go.Proofs.YtalogjkalmkpjaaGreatDoor
open Go Go.Dec
def dK(l:List Str):Str:=l.flatMap (fun x=>32 :: x)
def joinS:List Str→Str
 | []=>[]
 | a :: l=>a++dK l
theorem nu(a b:List Str):dK (a++b)=dK a++dK b:=by simp [dK]
def total(l:List Str):Nat:=(l.map (fun x=>x.length+1)).sum
theorem zZ(l:List Str):l.length≤total l:=by
 unfold total;induction l with
 | nil=>simp
 | cons x l ih=>simp;omega
theorem Gs(l:List Str):(dK l).length=total l:=by
 unfold dK total;induction l with
 | nil=>rfl
 | cons x l ih=>simp [ih];omega
theorem uX:∀ (l:List Str) (n:Nat),n+total l≤1000000000→∃ m:Nat,M.gN l (n:Int)=some (m:Int)∧m≤n+total l
 | [],n,h=>⟨n,rfl,by omega⟩
 | x :: l,n,h=>by
  have ht:total (x :: l)=x.length+1+total l:=by simp [total]
  rw [ht] at h;obtain ⟨m,hm,hle⟩:=uX l (n+x.length) (by omega);refine ⟨m,?_,by omega⟩;simp only [M.gN];rw [iH (by omega) (by omega),Option.bind_some,if_neg (by omega),gp (by omega) (by omega),Option.bind_some,←hm];congr 1
theorem yL:∀ (l:List Str) (b:Str),b.length+total l≤1000000000→M.dz [32] l b=some (b++dK l)
 | [],b,_=>by simp [M.dz,dK]
 | x :: l,b,h=>by
  have ht:total (x :: l)=x.length+1+total l:=by simp [total]
  rw [ht] at h;simp only [M.dz];rw [dL (by simp;omega),Option.bind_some,dL (by simp;omega),Option.bind_some,yL l _ (by simp;omega)];simp [dK]
theorem Gt(a b:Nat):((a:Int).tdiv (b:Int))=((a / b:Nat):Int):=rfl
theorem Ez(a b:Nat)(ha:a≤9223372036854775807)(hb:1≤b):quoC (a:Int) (b:Int)=some ((a / b:Nat):Int):=by
 unfold quoC;rw [Gt];have h2:=Nat.div_le_self a b;generalize a / b=q at h2 ⊢;rw [if_pos];refine ⟨by omega,?_⟩;simp only [fits64,Bool.and_eq_true,decide_eq_true_eq];omega
theorem Gu(a k:Nat)(ha1:4000000000≤a)(ha2:a≤9223372036854775807)(h1:1≤k)(h2:k≤1000000000):∃ q:Nat,quoC (a:Int) (k:Int)=some (q:Int)∧2≤q:=
 ⟨a / k,Ez a k ha2 h1,by rw [Nat.le_div_iff_mul_le (by omega)];omega⟩
theorem maxI:(9223372036854775807:Int)=((9223372036854775807:Nat):Int):=rfl
theorem EA(k:Nat)(h1:1≤k)(h2:k≤1000000000):∃ q:Nat,quoC (9223372036854775807:Int) (k:Int)=some (q:Int)∧2≤q:=
 maxI▸Gu 9223372036854775807 k (by decide) (by decide) h1 h2
theorem Gv(x y:Str)(l:List Str)(h:total (x :: y :: l)≤400000000):M.strings_Join (x :: y :: l) [32]=some (joinS (x :: y :: l)):=by
 have hlen:=zZ (x :: y :: l);have h1:((x :: y :: l).length:Int)=((l.length+2:Nat):Int):=by simp;omega
 have ht:total (x :: y :: l)=x.length+1+total (y :: l):=by simp [total]
 have hlen':l.length+2≤total (x :: y :: l):=by simpa using hlen
 have hs:(([32]:Str).length:Int)=1:=rfl;have e1:((l.length+2:Nat):Int)-1=((l.length+1:Nat):Int):=by omega
 have hsub:subC ((l.length+2:Nat):Int) 1=some ((l.length+1:Nat):Int):=by rw [iH (by omega) (by omega),e1]
 obtain ⟨q,hq,hq2⟩:=EA (l.length+1) (by omega) (by omega);have hmul:mulC (1:Int) ((l.length+1:Nat):Int)=some ((l.length+1:Nat):Int):=by rw [vz (by omega) (by omega),Int.one_mul]
 have hadd:addC (0:Int) ((l.length+1:Nat):Int)=some ((l.length+1:Nat):Int):=by rw [gp (by omega) (by omega),Int.zero_add]
 obtain ⟨m,hm,hle⟩:=uX (x :: y :: l) (l.length+1) (by omega);have hg:growC (m:Int)=some ():=by
  unfold growC;rw [if_pos];omega
 have hsl:slcLo (x :: y :: l) (1:Int)=some (y :: l):=by
  unfold slcLo;rw [if_pos (by simp;omega)];rfl
 have n0:¬ ((l.length+2:Nat):Int)=0:=by omega
 have n1:¬ ((l.length+2:Nat):Int)=1:=by omega
 have n2:(0:Int)< 1:=by omega
 have n3:¬ ((q:Nat):Int)≤1:=by omega
 have ha0:appC ([]:Str) x=some x:=by rw [dL (by simp;omega)];rfl
 have hl2:M.dz [32] (y :: l) x=some (x++dK (y :: l)):=yL (y :: l) x (by omega);unfold M.strings_Join;rw [h1,if_neg n0,if_neg n1,hs,if_pos n2,hsub,Option.bind_some,hq,Option.bind_some];rw [if_neg n3];rw [Option.bind_some,Option.bind_some,hmul,Option.bind_some,hadd,Option.bind_some,Option.bind_some,hm,Option.bind_some,hg,Option.bind_some,kQ,Option.bind_some,ha0,Option.bind_some,hsl,Option.bind_some,hl2,Option.bind_some];rfl
theorem EB(l:List Str)(h:total l≤400000000):M.strings_Join l [32]=some (joinS l):=by
 cases l with
 | nil=>rfl
 | cons x l=>
  cases l with
  | nil=>
   unfold M.strings_Join;rw [if_neg (by simp),if_pos (by simp),kQ,Option.bind_some];simp [joinS,dK]
  | cons y l=>exact Gv x y l h
def chB(b:UInt8):Bool:=decide (33≤b.toNat) && decide (b.toNat≤126)
def wordB(s:Str):Bool:=decide (1≤s.length) && decide (s.length≤24) && s.all chB
def seqB(l:List Str):Bool:=decide (l.length≤256) && l.all wordB
theorem IL(s:Str):To (fun n=>M.sH n s) (wordB s):=by
 have loop:∀ (xs:Str) (i:Nat),s.drop i=xs→To (fun n=>M.iR s n (i:Int)) (if xs.all chB=true then .inl () else .inr false):=by
  intro xs;induction xs with
  | nil=>
   intro i hx;refine To.succ ?_;simp only [M.iR];exact To.neg (gm hx) To.pure
  | cons x xs ih=>
   intro i hx;refine To.succ ?_;simp only [M.iR];refine To.pos (eQ hx) (To.bindS (cZ hx) ?_);by_cases h1:(x.toNat:Int)< 33
   ·refine To.pos h1 (To.pure.of ?_);have:chB x=false:=by simp [chB];omega
    simp [this]
   ·refine To.neg h1 (To.bindS (cZ hx) ?_);by_cases h2:(126:Int)< (x.toNat:Int)
    ·refine To.pos h2 (To.pure.of ?_);have:chB x=false:=by simp [chB];omega
     simp [this]
    ·refine To.neg h2 ?_;rw [bZ];have:chB x=true:=by simp [chB];omega
     exact (ih (i+1) (fE hx)).of (by simp [this])
 simp only [M.sH];by_cases h1:(s.length:Int)< 1
 ·refine To.bind (a:=true) (To.pos h1 To.pure) (To.pos rfl (To.pure.of ?_));have:¬ 1≤s.length:=by omega
  simp [wordB,this]
 ·by_cases h2:(24:Int)< (s.length:Int)
  ·refine To.bind (a:=true) (To.neg h1 (To.pure.of (by simp [h2]))) (To.pos rfl (To.pure.of ?_));have:¬ s.length≤24:=by omega
   simp [wordB,this]
  ·refine To.bind (a:=false) (To.neg h1 (To.pure.of (by simp [h2]))) (To.neg (by simp) (To.bind (loop s 0 rfl) ?_));have k1:1≤s.length:=by omega
   have k2:s.length≤24:=by omega
   by_cases ha:s.all chB=true
   ·rw [if_pos ha];refine To.pure.of ?_;simp only [wordB,k1,k2,ha,decide_true,Bool.and_self]
   ·rw [if_neg ha];have ha':s.all chB=false:=by simpa using ha
    refine To.pure.of ?_;simp only [wordB,ha',Bool.and_false]
theorem Jc(l:List Str)(f:Nat→Str→Option Bool)(p:Str→Bool)(hf:∀ x,x∈l→To (fun n=>f n x) (p x)):To (fun n=>M.dQ n l (f n)) (l.any p):=by
 have loop:∀ (xs:List Str) (f:Nat→Str→Option Bool) (i:Nat),(∀ x,x∈xs→To (fun n=>f n x) (p x))→l.drop i=xs→∃ r,To (fun n=>M.bf l (f n) n (i:Int)) r∧((xs.any p=true∧ ∃ k:Nat,r= .inr (k:Int))∨(xs.any p=false∧r= .inl ())):=by
  intro xs;induction xs with
  | nil=>
   intro f i _ hx;refine ⟨.inl (),To.succ ?_,.inr ⟨rfl,rfl⟩⟩;simp only [M.bf];exact To.neg (gm hx) To.pure
  | cons x xs ih=>
   intro f i hf hx;have h1:=hf x (by simp);by_cases hp:p x=true
   ·refine ⟨.inr (i:Int),To.succ ?_,.inl ⟨by simp [hp],i,rfl⟩⟩;simp only [M.bf];exact To.pos (eQ hx) (To.bindS (cZ hx) (To.bind h1.shift (To.pos hp To.pure)))
   ·have hp':p x=false:=by simpa using hp
    obtain ⟨r,ht,hr⟩:=ih (fun n=>f (n+1)) (i+1) (fun y hy=>(hf y (by simp [hy])).shift) (fE hx);refine ⟨r,To.succ ?_,by simpa [hp'] using hr⟩;simp only [M.bf];rw [bZ];exact To.pos (eQ hx) (To.bindS (cZ hx) (To.bind h1.shift (To.neg hp ht)))
 obtain ⟨r,ht,hr⟩:=loop l f 0 hf rfl;simp only [M.dQ,M.fQ];rcases hr with ⟨ha,k,rfl⟩ | ⟨ha,rfl⟩
 ·refine To.bind (a:=(k:Int)) (To.bind ht To.pure) (To.pure.of ?_);simp [ha]
 ·refine To.bind (a:=(-1:Int)) (To.bind ht To.pure) (To.pure.of ?_);simp [ha]
theorem Jd(l:Str):To (fun n=>M.eB n (bytesOf l) (fun s0=>M.jA s0)) (l.any fun b=>!chB b):=by
 have hd:∀ (i:Nat) (x:UInt8) (xs:Str),l.drop i=x :: xs→idx (bytesOf l) (i:Int)=some (x.toNat:Int)∧(i:Int)< ((bytesOf l).length:Int):=by
  intro i x xs hx;obtain ⟨h1,h2,_⟩:=iZ hx;refine ⟨?_,by simp [bytesOf];omega⟩;rw [jX];simp [bytesOf,h2]
 have loop:∀ (xs:Str) (i:Nat),l.drop i=xs→∃ r,To (fun n=>M.bF (bytesOf l) (fun s0=>M.jA s0) n (i:Int)) r∧(((xs.any fun b=>!chB b)=true∧ ∃ k:Nat,r= .inr (k:Int))∨((xs.any fun b=>!chB b)=false∧r= .inl ())):=by
  intro xs;induction xs with
  | nil=>
   intro i hx;refine ⟨.inl (),To.succ ?_,.inr ⟨rfl,rfl⟩⟩;simp only [M.bF];have:=gm hx;exact To.neg (by simp [bytesOf];omega) To.pure
  | cons x xs ih=>
   intro i hx;obtain ⟨h1,h2⟩:=hd i x xs hx;have hw:M.jA (x.toNat:Int)=some (!chB x):=by
    simp only [M.jA,chB];by_cases hc:(x.toNat:Int)< 33
    ·rw [if_pos hc];have:¬ 33≤x.toNat:=by omega
     simp [this]
    ·rw [if_neg hc];have:33≤x.toNat:=by omega
     by_cases hc2:(126:Int)< (x.toNat:Int)
     ·have:¬ x.toNat≤126:=by omega
      simp [hc2,this]
     ·have h3:x.toNat≤126:=by omega
      simp [hc2,this,h3]
   by_cases hp:chB x=true
   ·obtain ⟨r,ht,hr⟩:=ih (i+1) (fE hx);refine ⟨r,To.succ ?_,by simpa [hp] using hr⟩;simp only [M.bF];rw [bZ];exact To.pos h2 (To.bindS h1 (To.bindS hw (To.neg (by simp [hp]) ht)))
   ·have hp':chB x=false:=by simpa using hp
    refine ⟨.inr (i:Int),To.succ ?_,.inl ⟨by simp [hp'],i,rfl⟩⟩;simp only [M.bF];exact To.pos h2 (To.bindS h1 (To.bindS hw (To.pos (by simp [hp']) To.pure)))
 obtain ⟨r,ht,hr⟩:=loop l 0 rfl;simp only [M.eB,M.gX];rcases hr with ⟨ha,k,rfl⟩ | ⟨ha,rfl⟩
 ·refine To.bind (a:=(k:Int)) (To.bind ht To.pure) (To.pure.of ?_);rw [ha];simp
 ·refine To.bind (a:=(-1:Int)) (To.bind ht To.pure) (To.pure.of ?_);rw [ha];simp
theorem xW{α:Type}(p:α→Bool)(l:List α):(l.any fun b=>!p b)= !l.all p:=by
 induction l with
 | nil=>rfl
 | cons x l ih=>simp only [List.any_cons,List.all_cons,ih];cases p x<;> simp
theorem IM(s:Str):To (fun n=>M.mQ n s) (wordB s):=by
 simp only [M.mQ];by_cases h1:s= []
 ·refine To.neg (by simp [h1]) (To.pure.of ?_);simp [h1,wordB]
 ·have k1:1≤s.length:=List.length_pos_iff.2 h1;refine To.pos (by simp [h1]) ?_;by_cases h2:(s.length:Int)≤24
  ·have k2:s.length≤24:=by omega
   refine To.pos h2 (To.bind (Jd s) (To.pure.of ?_));rw [xW];simp only [wordB,k1,k2,decide_true,Bool.true_and,Bool.not_not]
  ·refine To.neg h2 (To.pure.of ?_);have:¬ s.length≤24:=by omega
   simp [wordB,this]
theorem EC(l:List Str):To (fun n=>M.kV n l) (seqB l):=by
 simp only [M.kV];by_cases h:(l.length:Int)≤256
 ·have k:l.length≤256:=by omega
  refine To.pos h (To.bind (Jc l (fun n s0=>M.kK n s0) (fun s=>!wordB s) fun x _=>?_) (To.pure.of ?_))
  ·simp only [M.kK];exact To.bind (IM x) To.pure
  ·rw [xW];simp only [seqB,k,decide_true,Bool.true_and,Bool.not_not]
 ·refine To.neg h (To.pure.of ?_);have:¬ l.length≤256:=by omega
  simp [seqB,this]
theorem DZ(l:Str):splitC 32 (32 :: l)= [] :: splitC 32 l:=by rw [splitC,if_pos rfl]
theorem xD{b:UInt8}{l p:Str}{ps:List Str}(h:b≠32)(k:splitC 32 l=p :: ps):splitC 32 (b :: l)=(b :: p) :: ps:=by
 rw [splitC,if_neg h,k]
theorem yM:∀ (xs:List Str),(∀ y∈xs,(32:UInt8) ∉ y)→∀ x:Str,(32:UInt8) ∉ x→splitC 32 (x++dK xs)=x :: xs:=by
 intro xs;induction xs with
 | nil=>
  intro _ x hx;simp only [dK,List.flatMap_nil,List.append_nil];induction x with
  | nil=>rfl
  | cons b x ihx=>
   simp only [List.mem_cons,not_or] at hx;exact xD (fun e=>hx.1 e.symm) (ihx hx.2)
 | cons y ys ih=>
  intro h x hx;induction x with
  | nil=>
   have:dK (y :: ys)=32 :: (y++dK ys):=by simp [dK]
   rw [List.nil_append,this,DZ,ih (fun z hz=>h z (List.mem_cons_of_mem _ hz)) y (h y List.mem_cons_self)]
  | cons b x ihx=>
   simp only [List.mem_cons,not_or] at hx;rw [List.cons_append];exact xD (fun e=>hx.1 e.symm) (ihx hx.2)
theorem H8{x:Str}(h:wordB x=true):(32:UInt8) ∉ x:=by
 intro hm;unfold wordB at h;simp only [Bool.and_eq_true] at h;have:=List.all_eq_true.1 h.2 _ hm;revert this;decide
end Go.Proofs.YtalogjkalmkpjaaGreatDoor
/-
  Rows of tracked words: how they are written, by the program and by the reference.
-/
namespace Go.Proofs.YtalogjkalmkpjaaGreatDoor
open Go Go.Dec
abbrev TW:=ah
def spB(b:UInt8):Bool:=decide (b=91) || decide (b=93) || decide (b=43) || decide (b=45) || decide (b=124) || decide (b=35) || decide (b=92)
theorem contains_one(c:UInt8):∀ l:List UInt8,Lib.contains l [c]=decide (c∈l)
 | []=>by
  unfold Lib.contains;have:Lib.index [] [c]= -1:=by unfold Lib.index;rfl
  rw [this];simp
 | b :: l=>by
  have ih:=contains_one c l;have hpre:([c]:List UInt8).isPrefixOf (b :: l)=(c==b):=by simp [List.isPrefixOf]
  unfold Lib.contains at ih ⊢;by_cases hb:c=b
  ·have hi:Lib.index (b :: l) [c]=0:=by unfold Lib.index;rw [hpre,hb];simp
   rw [hi];simp [hb]
  ·have hi:Lib.index (b :: l) [c]=if Lib.index l [c]== -1 then -1 else Lib.index l [c]+1:=by
    rw [Lib.index,hpre];have:(c==b)=false:=by simpa using hb
    rw [this];rfl
   have hge:Lib.index l [c]= -1∨0≤Lib.index l [c]:=by
    rcases Lib.index_spec l [c] with ⟨h1,_⟩ | ⟨i,h1,_⟩
    ·exact .inl h1
    ·exact .inr (by omega)
   rw [hi];rcases hge with h | h
   ·rw [h] at ih ⊢;have:¬ c∈l:=by simpa using ih
    simp [hb,this]
   ·have h5:(Lib.index l [c]== -1)=false:=by simp;omega
    have:c∈l:=by
     have:=ih.symm;rw [decide_eq_true h] at this;simpa using this
    rw [h5];simp [this];omega
theorem wX(b:UInt8):containsM ([91,93,43,45,124,35,92]:Str) [b]=some (spB b):=by
 unfold containsM;rw [if_pos (by decide),contains_one];unfold spB;simp [Bool.or_assoc]
def esc(s:Str):Str:=match s with
 | []=>[]
 | b :: l=>if spB b=true then 92 :: b :: l else b :: l
theorem Fv(s:Str)(h:s≠ [])(hl:s.length≤1000):M.lV s=some (esc s):=by
 cases s with
 | nil=>exact absurd rfl h
 | cons b l=>
  simp only [M.lV];have h1:slcHi (b :: l) (1:Int)=some [b]:=by
   unfold slcHi;rw [if_pos ⟨by decide,by simp;omega⟩];rfl
  rw [h1,Option.bind_some,wX,Option.bind_some];by_cases hb:spB b=true
  ·rw [if_pos hb,d9 (by simp at hl ⊢;omega)];simp [esc,hb]
  ·rw [if_neg hb];simp [esc,hb]
def stB(w:TW):Bool:=wordB w.Text && (decide (0≤w.State) && decide (w.State≤2))
def rowB(l:List TW):Bool:=decide (l.length≤512) && l.all stB
theorem Fw(s:Str):To (fun n=>M.lU n s) (wordB s):=by
 simp only [M.lU];refine To.bind (EC [s]) (To.pure.of ?_);simp [seqB]
theorem IP(l:List TW)(f:Nat→TW→Option Bool)(p:TW→Bool)(hf:∀ x,x∈l→To (fun n=>f n x) (p x)):To (fun n=>M.bI n l (f n)) (l.any p):=by
 have loop:∀ (xs:List TW) (f:Nat→TW→Option Bool) (i:Nat),(∀ x,x∈xs→To (fun n=>f n x) (p x))→l.drop i=xs→∃ r,To (fun n=>M.aK l (f n) n (i:Int)) r∧((xs.any p=true∧ ∃ k:Nat,r= .inr (k:Int))∨(xs.any p=false∧r= .inl ())):=by
  intro xs;induction xs with
  | nil=>
   intro f i _ hx;refine ⟨.inl (),To.succ ?_,.inr ⟨rfl,rfl⟩⟩;simp only [M.aK];exact To.neg (gm hx) To.pure
  | cons x xs ih=>
   intro f i hf hx;have h1:=hf x (by simp);by_cases hp:p x=true
   ·refine ⟨.inr (i:Int),To.succ ?_,.inl ⟨by simp [hp],i,rfl⟩⟩;simp only [M.aK];exact To.pos (eQ hx) (To.bindS (cZ hx) (To.bind h1.shift (To.pos hp To.pure)))
   ·have hp':p x=false:=by simpa using hp
    obtain ⟨r,ht,hr⟩:=ih (fun n=>f (n+1)) (i+1) (fun y hy=>(hf y (by simp [hy])).shift) (fE hx);refine ⟨r,To.succ ?_,by simpa [hp'] using hr⟩;simp only [M.aK];rw [bZ];exact To.pos (eQ hx) (To.bindS (cZ hx) (To.bind h1.shift (To.neg hp ht)))
 obtain ⟨r,ht,hr⟩:=loop l f 0 hf rfl;simp only [M.bI,M.di];rcases hr with ⟨ha,k,rfl⟩ | ⟨ha,rfl⟩
 ·refine To.bind (a:=(k:Int)) (To.bind ht To.pure) (To.pure.of ?_);simp [ha]
 ·refine To.bind (a:=(-1:Int)) (To.bind ht To.pure) (To.pure.of ?_);simp [ha]
theorem Gw(w:TW):To (fun n=>M.jN n w) (!stB w):=by
 simp only [M.jN];refine To.bind (Fw w.Text) ?_;unfold stB;by_cases h1:wordB w.Text=true
 ·rw [h1];by_cases h2:w.State<0
  ·have h0:¬ (0:Int)≤w.State:=by omega
   exact To.neg (by simp) (To.pos h2 (To.pure.of (by simp [h0])))
  ·have h0:(0:Int)≤w.State:=by omega
   exact To.neg (by simp) (To.neg h2 (To.pure.of (by by_cases h3:w.State≤2<;> simp [h0,h3]<;> omega)))
 ·have h1':wordB w.Text=false:=by simpa using h1
  rw [h1'];exact To.pos rfl (To.pure.of (by simp))
theorem xX(l:List TW):To (fun n=>M.iw n l) (rowB l):=by
 simp only [M.iw];unfold rowB;by_cases h:(l.length:Int)≤512
 ·have h':l.length≤512:=by omega
  refine To.pos h (To.bind (IP l _ (fun w=>!stB w) (fun x _=>Gw x)) (To.pure.of ?_));rw [xW];simp [h']
 ·have h':¬ l.length≤512:=by omega
  exact To.neg h (To.pure.of (by simp [h']))
theorem z8(l:List TW):∀ (xs:List TW) (i:Nat),l.drop i=xs→To (fun n=>M.gV l n (i:Int)) (if xs.all stB=true then .inl () else .inr false)
 | [],i,hx=>by
  refine To.succ ?_;simp only [M.gV];exact To.neg (gm hx) (To.pure.of rfl)
 | w :: xs,i,hx=>by
  refine To.succ ?_;simp only [M.gV];refine To.pos (eQ hx) (To.bindS (cZ hx) (To.bind (IL w.Text) ?_));have ih:=z8 l xs (i+1) (fE hx);by_cases h1:wordB w.Text=true
  ·by_cases h2:w.State<0
   ·refine To.neg (by rw [h1];decide) (To.bindS (cZ hx) (To.pos h2 (To.pure.of ?_)));have:¬ (0:Int)≤w.State:=by omega
    rw [if_neg];simp [stB,this]
   ·refine To.neg (by rw [h1];decide) (To.bindS (cZ hx) (To.neg h2 (To.bindS (cZ hx) ?_)));by_cases h3:2<w.State
    ·refine To.pos h3 (To.pure.of ?_);have:¬ w.State≤2:=by omega
     rw [if_neg];simp [stB,this]
    ·refine To.neg h3 ?_;rw [bZ];refine ih.of ?_;have a1:(0:Int)≤w.State:=by omega
     have a2:w.State≤2:=by omega
     simp [stB,h1,a1,a2]
  ·have h1':wordB w.Text=false:=by simpa using h1
   refine To.pos h1' (To.pure.of ?_);rw [if_neg];simp [stB,h1']
theorem ED(l:List TW):To (fun n=>M.nJ n l) (rowB l):=by
 simp only [M.nJ];refine To.bind (z8 l l 0 rfl) ?_;unfold rowB;by_cases h:l.all stB=true
 ·rw [if_pos h];refine To.pure.of ?_;rw [h,Bool.and_true];exact decide_eq_decide.2 (by omega)
 ·rw [if_neg h];refine To.pure.of ?_;have:l.all stB=false:=by simpa using h
  rw [this,Bool.and_false]
def opS(s:Int):Str:=if s=1 then [91,43,32] else if s=2 then [91,45,32] else []
def shS(s:Int):Str:=if s=1 then [32,43,93] else if s=2 then [32,45,93] else []
def lastB(s:Int)(l:List TW):Bool:=match l with
 | []=>true
 | w :: _=>decide (w.State≠s)
def rowT:Option Int→List TW→Str
 | _,[]=>[]
 | p,w :: l=>(if p.isSome then [32] else [])++((if p=some w.State then [] else opS w.State)++(esc w.Text++((if lastB w.State l=true then shS w.State else [])++rowT (some w.State) l)))
theorem Je{s:Int}(h0:0≤s)(h2:s≤2):idx gv0 s=some (opS s):=by
 have:s=0∨s=1∨s=2:=by omega
 rcases this with rfl | rfl | rfl<;> rfl
theorem Jf{s:Int}(h0:0≤s)(h2:s≤2):idx gv1 s=some (shS s):=by
 have:s=0∨s=1∨s=2:=by omega
 rcases this with rfl | rfl | rfl<;> rfl
theorem nU{w:TW}:stB w=true ↔ wordB w.Text=true∧0≤w.State∧w.State≤2:=by
 unfold stB;simp [Bool.and_eq_true]
theorem oz{s:Str}(h:wordB s=true):1≤s.length∧s.length≤24:=by
 unfold wordB at h;rw [Bool.and_eq_true,Bool.and_eq_true] at h;exact ⟨of_decide_eq_true h.1.1,of_decide_eq_true h.1.2⟩
theorem wm(s:Str):(esc s).length≤s.length+1:=by
 unfold esc;split
 ·simp
 ·split<;> simp
theorem EE(s:Int):(opS s).length≤3:=by
 unfold opS;split
 ·decide
 ·split<;> decide
theorem EF(s:Int):(shS s).length≤3:=by
 unfold shS;split
 ·decide
 ·split<;> decide
def rowF(l:List TW):Str:=if rowB l=true then rowT none l else []
end Go.Proofs.YtalogjkalmkpjaaGreatDoor
/-
  Rows of tracked words: the program's text; texts read back.
-/
namespace Go.Proofs.YtalogjkalmkpjaaGreatDoor
open Go Go.Dec
def oneR(s:Int)(acc:List Str):Str:=opS s++(joinS acc++shS s)
def runsG:Int→List Str→List TW→List Str
 | s,acc,[]=>[oneR s acc]
 | s,acc,w :: l=>if w.State=s then runsG s (acc++ [esc w.Text]) l else oneR s acc :: runsG w.State [esc w.Text] l
def runsF:List TW→List Str
 | []=>[]
 | w :: l=>runsG w.State [esc w.Text] l
theorem D5(acc:List Str)(x:Str)(h:acc≠ []):joinS (acc++ [x])=joinS acc++(32 :: x):=by
 cases acc with
 | nil=>exact absurd rfl h
 | cons a l=>simp [joinS,dK]
theorem D6(x:Str)(l:List Str)(h:l≠ []):joinS (x :: l)=x++(32 :: joinS l):=by
 cases l with
 | nil=>exact absurd rfl h
 | cons a l=>simp [joinS,dK]
theorem CG:∀ (xs:List TW) (s:Int) (acc:List Str),runsG s acc xs≠ []
 | [],s,acc=>by simp [runsG]
 | w :: l,s,acc=>by
  unfold runsG;split
  ·exact CG l _ _
  ·simp
theorem wY:∀ (xs:List TW) (s:Int) (acc:List Str),acc≠ []→
  joinS (runsG s acc xs)=opS s++(joinS acc++((if lastB s xs=true then shS s else [])++rowT (some s) xs))
 | [],s,acc,h=>by simp [runsG,oneR,joinS,dK,lastB,rowT]
 | w :: l,s,acc,h=>by
  unfold runsG;by_cases hw:w.State=s
  ·rw [if_pos hw,wY l s _ (by simp),D5 _ _ h];subst hw;simp [lastB,rowT]
  ·have hw':¬ s=w.State:=fun e=>hw e.symm;rw [if_neg hw,D6 _ _ (CG _ _ _),wY l _ _ (by simp)];simp [lastB,hw,rowT,hw',oneR,joinS,dK]
theorem CJ(l:List TW):joinS (runsF l)=rowT none l:=by
 cases l with
 | nil=>rfl
 | cons w l=>
  unfold runsF;rw [wY l _ _ (by simp)];simp [rowT,joinS,dK]
theorem wZ(l:List Str):(joinS l).length≤total l:=by
 cases l with
 | nil=>simp [joinS]
 | cons a l=>
  have:=Gs l;have e:total (a :: l)=a.length+1+total l:=rfl;simp only [joinS,List.length_append];omega
theorem CK(s:Int)(acc:List Str):(oneR s acc).length≤total acc+6:=by
 have h1:=EE s;have h2:=EF s;have h3:=wZ acc;simp only [oneR,List.length_append];omega
theorem Fx(a b:List Str):total (a++b)=total a+total b:=by simp [total]
theorem kI(a:Str)(b:List Str):total (a :: b)=a.length+1+total b:=rfl
theorem rV:∀ (xs:List TW) (s:Int) (acc:List Str),xs.all stB=true→total (runsG s acc xs)≤total acc+7+40*xs.length
 | [],s,acc,_=>by
  have:=CK s acc;simp only [runsG,kI,show total ([]:List Str)=0 from rfl,List.length_nil];omega
 | w :: l,s,acc,h=>by
  rw [List.all_cons,Bool.and_eq_true] at h;have hw:=oz (nU.1 h.1).1;have he:=wm w.Text;have h1:=CK s acc;unfold runsG;split
  ·have:=rV l s (acc++ [esc w.Text]) h.2;rw [Fx,kI] at this;simp only [show total ([]:List Str)=0 from rfl,List.length_cons] at this ⊢;omega
  ·have:=rV l w.State [esc w.Text] h.2;rw [kI] at this;simp only [show total ([]:List Str)=0 from rfl] at this;rw [kI];simp only [List.length_cons];omega
theorem yN(s:Int):∀ (xs:List TW) (acc:List Str),runsG s acc xs=oneR s (acc++(xs.takeWhile fun w=>decide (w.State=s)).map fun w=>esc w.Text) :: runsF (xs.dropWhile fun w=>decide (w.State=s))
 | [],acc=>by simp [runsG,runsF]
 | w :: l,acc=>by
  unfold runsG;by_cases hw:w.State=s
  ·rw [if_pos hw,yN s l];simp [hw]
  ·rw [if_neg hw];simp [hw,runsF]
theorem CL(l:List TW)(hl:l.all stB=true)(hn:l.length≤512)(from0:Nat)(w0:TW)(h0:l[from0]? =some w0):∀ (xs:List TW) (i:Nat) (acc:List Str),l.drop i=xs→acc.length≤i→
  To (fun n=>M.eD l (from0:Int) n (i:Int) acc) (((i+(xs.takeWhile fun w=>decide (w.State=w0.State)).length:Nat):Int),acc++(xs.takeWhile fun w=>decide (w.State=w0.State)).map fun w=>esc w.Text)
 | [],i,acc,hx,ha=>by
  refine To.succ ?_;simp only [M.eD];exact To.neg (gm hx) (To.pure.of (by simp))
 | w :: xs,i,acc,hx,ha=>by
  have hw:=oz (nU.1 (List.all_eq_true.1 hl w (List.mem_of_getElem? (iZ hx).2.1))).1;have hlt:=(iZ hx).1;refine To.succ ?_;simp only [M.eD];refine To.pos (eQ hx) (To.bindS (cZ hx) (To.bindS (show idx l (from0:Int)=some w0 by rw [jX,h0]) ?_));by_cases hs:w.State=w0.State
  ·refine To.pos hs (To.bindS (cZ hx) (To.bindS (Fv w.Text (by intro e;rw [e] at hw;simp at hw) (by omega)) (To.bindS (dL (by simp;omega)) ?_)));rw [bZ];refine (CL l hl hn from0 w0 h0 xs (i+1) _ (fE hx) (by simp;omega)).of ?_;simp [hs];omega
  ·refine To.neg hs (To.pure.of ?_);simp [hs]
theorem IQ{s:Int}(h0:0≤s)(h2:s≤2)(words:List Str)(c:List Str)(hw:total words≤100000)(hc:c.length≤100000):M.iP s words c=some (c++ [oneR s words]):=by
 have h1:=EE s;have h3:=EF s;have h4:=wZ words;simp only [M.iP];rw [Je h0 h2,Option.bind_some,EB _ (by omega),Option.bind_some,d9 (by omega),Option.bind_some,Jf h0 h2,Option.bind_some,d9 (by simp;omega),Option.bind_some,dL (by simp;omega),Option.bind_some];simp [oneR]
theorem CO:∀ (xs:List TW) (p:TW→Bool),xs.all stB=true→total ((xs.takeWhile p).map fun w=>esc w.Text)≤26*xs.length
 | [],p,_=>by simp [total]
 | w :: l,p,h=>by
  rw [List.all_cons,Bool.and_eq_true] at h;have hw:=oz (nU.1 h.1).1;have he:=wm w.Text;have ih:=CO l p h.2;by_cases hp:p w=true
  ·rw [List.takeWhile_cons_of_pos hp,List.map_cons,kI,List.length_cons];omega
  ·rw [List.takeWhile_cons_of_neg hp];simp [total]
theorem Gx{α:Type}(p:α→Bool)(xs:List α):xs.drop (xs.takeWhile p).length=xs.dropWhile p:=by
 induction xs with
 | nil=>rfl
 | cons x xs ih=>
  by_cases hp:p x=true
  ·rw [List.takeWhile_cons_of_pos hp,List.dropWhile_cons_of_pos hp,List.length_cons,List.drop_succ_cons,ih]
  ·rw [List.takeWhile_cons_of_neg hp,List.dropWhile_cons_of_neg hp];rfl
theorem Gy(l:List TW)(hl:l.all stB=true)(hn:l.length≤512):∀ (m:Nat) (xs:List TW) (i:Nat) (v:List Str),xs.length≤m→l.drop i=xs→v.length≤i→
  To (fun n=>M.dV l n (i:Int) v) (v++runsF xs):=by
 intro m;induction m with
 | zero=>
  intro xs i v hm hx hv;obtain rfl:xs= []:=List.eq_nil_of_length_eq_zero (by omega);refine To.succ ?_;simp only [M.dV];exact To.neg (gm hx) (To.pure.of (by simp [runsF]))
 | succ m ih=>
  intro xs i v hm hx hv;cases xs with
  | nil=>
   refine To.succ ?_;simp only [M.dV];exact To.neg (gm hx) (To.pure.of (by simp [runsF]))
  | cons w xs=>
   have hlt:=(iZ hx).1;have hw:=nU.1 (List.all_eq_true.1 hl w (List.mem_of_getElem? (iZ hx).2.1));have hxs:xs.all stB=true:=by
    rw [List.all_eq_true] at hl ⊢;intro y hy;refine hl y ?_;have:y∈l.drop i:=by rw [hx];exact List.mem_cons_of_mem _ hy
    exact List.mem_of_mem_drop this
   have hwl:=oz hw.1;have hel:=wm w.Text;have hxl:xs.length≤512:=by
    have:=congrArg List.length hx;simp at this;omega
   have htw:(w :: xs).takeWhile (fun y=>decide (y.State=w.State))=w :: xs.takeWhile (fun y=>decide (y.State=w.State)):=List.takeWhile_cons_of_pos (by simp);have htt:=CO xs (fun y=>decide (y.State=w.State)) hxs;refine To.succ ?_;simp only [M.dV];refine To.pos (eQ hx) (To.bind (CL l hl hn i w (iZ hx).2.1 (w :: xs) i [] hx (Nat.zero_le _)) ?_);dsimp only;rw [htw];refine To.bindS (cZ hx) (To.bindS (IQ hw.2.1 hw.2.2 _ _ (by rw [List.nil_append,List.map_cons,kI];omega) (by omega)) ?_);have hdrop:l.drop (i+(w :: xs.takeWhile fun y=>decide (y.State=w.State)).length)=xs.dropWhile fun y=>decide (y.State=w.State):=by
    rw [←Gx,List.length_cons,←List.drop_drop,hx,List.drop_succ_cons]
   refine (ih _ _ _ ?_ hdrop (by simp;omega)).of ?_
   ·rw [←Gx,List.length_drop];simp at hm;omega
   ·show _=v++runsG w.State [esc w.Text] xs;rw [yN];simp
theorem rq(l:List TW):To (fun n=>M.fG n l) (rowF l):=by
 simp only [M.fG];refine To.bind (xX l) ?_;unfold rowF;by_cases h:rowB l=true
 ·have h':=h;unfold rowB at h';rw [Bool.and_eq_true] at h';have hn:=of_decide_eq_true h'.1;rw [if_pos h];have hout:=Gy l h'.2 hn l.length l 0 [] (Nat.le_refl _) rfl (Nat.le_refl _);have ht:total (runsF l)≤100000:=by
   cases l with
   | nil=>simp [runsF,total]
   | cons w l=>
    rw [List.all_cons,Bool.and_eq_true] at h';have hwl:=oz (nU.1 h'.2.1).1;have hel:=wm w.Text;have:=rV l w.State [esc w.Text] h'.2.2;simp only [runsF];rw [kI] at this;simp only [show total ([]:List Str)=0 from rfl,List.length_cons] at this hn;omega
  refine To.neg (by rw [h];decide) (To.bind ?_ (To.bindS (show M.strings_Join ([]++runsF l) [32]=some (joinS ([]++runsF l)) from EB _ (by rw [List.nil_append];omega)) (To.pure.of ?_)))
  ·simp only [M.mU];exact To.bind hout To.pure
  ·rw [List.nil_append,CJ]
 ·rw [if_neg h];exact To.pos (by simpa using h) To.pure
def unE(s:Str):Option Str:=match s with
 | []=>none
 | 92 :: b :: l=>if spB b=true then some (b :: l) else none
 | b :: l=>if spB b=true then none else some (b :: l)
def isMk(e:Str):Option Int:=if e= [91,43] then some 1 else if e= [91,45] then some 2 else if e= [43,93] then some 0 else if e= [45,93] then some 0 else none
def pcF:Int→List Str→Option (List TW)
 | _,[]=>some []
 | st,e :: es=>match isMk e with
  | some s=>pcF s es
  | none=>match unE e with
   | none=>none
   | some w=>(pcF st es).map (⟨st,w⟩ :: ·)
theorem CP(s:Str)(hs:s.length≤100000):∃ x,M.jK s=some (x,(unE s).isSome)∧ ∀ w,unE s=some w→x=w:=by
 cases s with
 | nil=>
  refine ⟨[],?_,fun w h=>by cases h⟩;simp only [M.jK];rw [if_pos (by decide)];rfl
 | cons b l=>
  simp only [M.jK];rw [if_neg (by simp),kQ,Option.bind_some];have h1:slcHi (b :: l) (1:Int)=some [b]:=by
   unfold slcHi;rw [if_pos ⟨by decide,by simp;omega⟩];rfl
  have hlast:Option.bind (slcHi (b :: l) (1:Int)) (fun v3=>Option.bind (containsM ([91,93,43,45,124,35,92]:Str) v3) fun contai1=>some ((b :: l),!contai1))=some (b :: l,!spB b):=by
   rw [h1,Option.bind_some,wX,Option.bind_some]
  by_cases hb:b=92
  ·subst hb;rw [if_pos (by decide)];cases l with
   | nil=>
    rw [if_neg (by decide),Option.bind_some,if_neg (by decide),hlast];refine ⟨[92],by rfl,fun w h=>by cases h⟩
   | cons c r=>
    have h2:slc (92 :: c :: r) (1:Int) (2:Int)=some [c]:=by
     unfold slc;rw [if_pos ⟨by decide,by decide,by simp;omega⟩];rfl
    rw [if_pos (by simp;omega),h2,Option.bind_some,wX,Option.bind_some,Option.bind_some];have hu:unE (92 :: c :: r)=if spB c=true then some (c :: r) else none:=rfl;rw [hu];by_cases hc:spB c=true
    ·rw [if_pos hc,if_pos hc];have h3:slcLo (92 :: c :: r) (1:Int)=some (c :: r):=by unfold slcLo;rw [if_pos ⟨by decide,by simp;omega⟩];rfl
     rw [h3];exact ⟨c :: r,rfl,fun w h=>Option.some.inj h⟩
    ·rw [if_neg hc,if_neg hc,hlast];exact ⟨_,rfl,fun w h=>by cases h⟩
  ·have hne:¬ (b.toNat:Int)=92:=fun e=>hb (UInt8.toNat_inj.1 (by show b.toNat=92;omega));rw [if_neg hne,Option.bind_some,if_neg (by decide),hlast];have hu:unE (b :: l)=if spB b=true then none else some (b :: l):=by
    unfold unE;split
    ·rename_i h;cases h
    ·rename_i h;cases h;exact absurd rfl hb
    ·rename_i h;cases h;rfl
   rw [hu];by_cases hc:spB b=true
   ·rw [if_pos hc,hc];exact ⟨_,rfl,fun w h=>by cases h⟩
   ·have hc':spB b=false:=by simpa using hc
    rw [if_neg hc,hc'];exact ⟨_,rfl,fun w h=>Option.some.inj h⟩
theorem ma(a b:Str):((a==b)=true) ↔ a=b:=by simp
theorem CQ:∀ (es:List Str) (out:List TW) (st:Int),(∀ e∈es,e.length≤100000)→out.length+es.length≤1000000→
  M.bW es out st=some (match pcF st es with | some m=>.inl (out++m) | none=>.inr ([],false))
 | [],out,st,_,_=>by simp [M.bW,pcF]
 | e :: es,out,st,he,ho=>by
  have ih:=fun o s h=>CQ es o s (fun x hx=>he x (List.mem_cons_of_mem _ hx)) h;simp only [List.length_cons] at ho;simp only [M.bW,pcF,isMk];by_cases h1:e= [91,43]
  ·rw [if_pos ((ma _ _).2 h1),if_pos h1,ih _ _ (by omega)]
  ·rw [if_neg (fun h=>h1 ((ma _ _).1 h)),if_neg h1];by_cases h2:e= [91,45]
   ·rw [if_pos ((ma _ _).2 h2),if_pos h2,ih _ _ (by omega)]
   ·rw [if_neg (fun h=>h2 ((ma _ _).1 h)),if_neg h2];by_cases h3:e= [43,93]
    ·rw [if_pos ((ma _ _).2 h3),if_pos h3,Option.bind_some,if_pos ((ma _ _).2 h3),ih _ _ (by omega)]
    ·rw [if_neg (fun h=>h3 ((ma _ _).1 h)),if_neg h3];by_cases h4:e= [45,93]
     ·rw [Option.bind_some,if_pos ((ma _ _).2 h4),if_pos h4,ih _ _ (by omega)]
     ·rw [Option.bind_some,if_neg (fun h=>h4 ((ma _ _).1 h)),if_neg h4];obtain ⟨x,hx1,hx2⟩:=CP e (he e List.mem_cons_self);rw [hx1,Option.bind_some];cases hu:unE e with
      | none=>rfl
      | some w=>
       obtain rfl:=hx2 w hu;dsimp only [Option.isSome];rw [if_neg (by decide),dL (by simp;omega),Option.bind_some,ih _ _ (by simp;omega)];cases pcF st es with
       | none=>rfl
       | some m=>simp
def psB(s:Str):List TW×Bool:=if s= [] then ([],true) else match pcF 0 (splitC 32 s) with
 | none=>([],false)
 | some m=>if rowB m=true∧rowF m=s then (m,true) else ([],false)
theorem Aa(c:UInt8):∀ s:Str,(∀ p∈splitC c s,p.length≤s.length)∧(splitC c s).length≤s.length+1
 | []=>⟨fun p hp=>by simp [splitC] at hp;subst hp;exact Nat.le_refl _,by simp [splitC]⟩
 | b :: l=>by
  obtain ⟨h1,h2⟩:=Aa c l;unfold splitC;split
  ·refine ⟨fun p hp=>?_,by simp;omega⟩;rcases List.mem_cons.1 hp with rfl | hp
   ·simp
   ·have:=h1 p hp;simp;omega
  ·split
   ·refine ⟨fun p hp=>?_,by simp⟩;simp at hp;subst hp;simp
   ·rename_i q qs hq;rw [hq] at h1 h2;refine ⟨fun p hp=>?_,by simp at h2 ⊢;omega⟩;rcases List.mem_cons.1 hp with rfl | hp
    ·have:=h1 q List.mem_cons_self;simp;omega
    ·have:=h1 p (List.mem_cons_of_mem _ hp);simp;omega
theorem CR(s:Str)(hs:s.length≤90000):To (fun n=>M.iX n s) (psB s):=by
 simp only [M.iX];unfold psB;by_cases h0:s= []
 ·rw [if_pos h0];exact To.pos ((ma _ _).2 h0) To.pure
 ·rw [if_neg h0];obtain ⟨h1,h2⟩:=Aa 32 s;have hsp:splitM s [32]=some (splitC 32 s):=by unfold splitM;exact if_pos (by omega)
  have hlp:=CQ (splitC 32 s) [] 0 (fun e he=>by have:=h1 e he;omega) (by simp;omega);refine To.neg (fun h=>h0 ((ma _ _).1 h)) (To.bindS hsp (To.bindS hlp ?_));cases pcF 0 (splitC 32 s) with
  | none=>exact To.pure
  | some m=>
   dsimp only;rw [List.nil_append];refine To.bind (xX m) ?_;by_cases hr:rowB m=true
   ·refine To.neg (by rw [hr];decide) (To.bind (rq m) ?_);by_cases hf:rowF m=s
    ·exact (To.neg (by rw [hf];simp) To.pure).of (if_pos ⟨hr,hf⟩).symm
    ·exact (To.pos (by simpa using hf) To.pure).of (if_neg (fun h=>hf h.2)).symm
   ·exact (To.pos (by simpa using hr) To.pure).of (if_neg (fun h=>hr h.1)).symm
def opP(s:Int):List Str:=if s=1 then [[91,43]] else if s=2 then [[91,45]] else []
def shP(s:Int):List Str:=if s=1 then [[43,93]] else if s=2 then [[45,93]] else []
def pcsT:Option Int→List TW→List Str
 | _,[]=>[]
 | p,w :: l=>(if p=some w.State then [] else opP w.State)++(esc w.Text :: ((if lastB w.State l=true then shP w.State else [])++pcsT (some w.State) l))
theorem CS(s:Int)(l:List Str)(x:Str):dK (opP s++x :: l)=32 :: (opS s++(x++dK l)):=by
 unfold opP opS;split
 ·simp [dK]
 ·split<;> simp [dK]
theorem CU(s:Int)(l:List Str):dK (shP s++l)=shS s++dK l:=by
 unfold shP shS;split
 ·simp [dK]
 ·split<;> simp [dK]
theorem CV:∀ (l:List TW) (s:Int),dK (pcsT (some s) l)=rowT (some s) l
 | [],s=>by simp [pcsT,rowT,dK]
 | w :: l,s=>by
  have ih:=CV l w.State;have hb:dK ((if lastB w.State l=true then shP w.State else [])++pcsT (some w.State) l)=(if lastB w.State l=true then shS w.State else [])++rowT (some w.State) l:=by
   split
   ·rw [CU,ih]
   ·simpa using ih
  unfold pcsT rowT;by_cases h:some s=some w.State
  ·rw [if_pos h,if_pos h];simp only [List.nil_append];rw [show dK (esc w.Text :: ((if lastB w.State l=true then shP w.State else [])++pcsT (some w.State) l))=32 :: (esc w.Text++dK ((if lastB w.State l=true then shP w.State else [])++pcsT (some w.State) l)) from by simp [dK],hb];simp
  ·rw [if_neg h,if_neg h,CS,hb];simp
theorem CW(w:TW)(l:List TW):joinS (pcsT none (w :: l))=rowT none (w :: l):=by
 have h:=CV l w.State;have hb:dK ((if lastB w.State l=true then shP w.State else [])++pcsT (some w.State) l)=(if lastB w.State l=true then shS w.State else [])++rowT (some w.State) l:=by
  split
  ·rw [CU,h]
  ·simpa using h
 have e:∀ x:List Str,x≠ []→dK x=32 :: joinS x:=by
  intro x hx;cases x with
  | nil=>exact absurd rfl hx
  | cons a b=>simp [dK,joinS]
 have h1:dK (pcsT none (w :: l))=32 :: rowT none (w :: l):=by
  unfold pcsT rowT;simp only [reduceCtorEq,if_false];rw [CS,hb];simp
 have hne:pcsT none (w :: l)≠ []:=by unfold pcsT;simp
 rw [e _ hne] at h1;exact (List.cons.inj h1).2
theorem IR{s:Str}(h:wordB s=true):(32:UInt8) ∉ esc s:=by
 have h1:=H8 h;unfold esc;split
 ·simp
 ·split
  ·simp at h1 ⊢;exact h1
  ·exact h1
theorem D7:∀ (l:List TW) (p:Option Int),l.all stB=true→∀ x∈pcsT p l,(32:UInt8) ∉ x
 | [],p,_,x,hx=>by simp [pcsT] at hx
 | w :: l,p,h,x,hx=>by
  rw [List.all_cons,Bool.and_eq_true] at h;have hw:=(nU.1 h.1).1;have hop:∀ s,∀ y∈opP s,(32:UInt8) ∉ y:=by
   intro s y hy;unfold opP at hy;split at hy
   ·rw [List.mem_singleton.1 hy];decide
   ·split at hy
    ·rw [List.mem_singleton.1 hy];decide
    ·cases hy
  have hsh:∀ s,∀ y∈shP s,(32:UInt8) ∉ y:=by
   intro s y hy;unfold shP at hy;split at hy
   ·rw [List.mem_singleton.1 hy];decide
   ·split at hy
    ·rw [List.mem_singleton.1 hy];decide
    ·cases hy
  unfold pcsT at hx;rcases List.mem_append.1 hx with hx | hx
  ·split at hx
   ·cases hx
   ·exact hop _ x hx
  ·rcases List.mem_cons.1 hx with rfl | hx
   ·exact IR hw
   ·rcases List.mem_append.1 hx with hx | hx
    ·split at hx
     ·exact hsh _ x hx
     ·cases hx
    ·exact D7 l _ h.2 x hx
theorem IU{s:Str}(h:wordB s=true):isMk (esc s)=none∧unE (esc s)=some s:=by
 have hl:=oz h;cases s with
 | nil=>simp at hl
 | cons b l=>
  by_cases hb:spB b=true
  ·have e:esc (b :: l)=92 :: b :: l:=by simp [esc,hb]
   rw [e];refine ⟨by simp [isMk],?_⟩;show (if spB b=true then some (b :: l) else none)=_;rw [if_pos hb]
  ·have e:esc (b :: l)=b :: l:=by simp [esc,hb]
   rw [e];have hn:b≠91∧b≠43∧b≠45∧b≠92:=by
    refine ⟨?_,?_,?_,?_⟩<;> (rintro rfl;exact hb (by decide))
   refine ⟨by simp [isMk,hn.1,hn.2.1,hn.2.2.1],?_⟩;unfold unE;split
   ·rename_i h;cases h
   ·rename_i h;cases h;exact absurd rfl hn.2.2.2
   ·rename_i h;cases h;rw [if_neg hb]
def curS(p:Option Int)(l:List TW):Int:=match p,l with
 | some s,w :: _=>if s=w.State then s else 0
 | _,_=>0
theorem BB{e:Str}{s:Int}(h:isMk e=some s)(st:Int)(es:List Str):pcF st (e :: es)=pcF s es:=by
 rw [pcF,h]
theorem Jg{e:Str}{w:Str}(h:isMk e=none)(h2:unE e=some w)(st:Int)(es:List Str):pcF st (e :: es)=(pcF st es).map (⟨st,w⟩ :: ·):=by
 rw [pcF,h];dsimp only;rw [h2]
theorem CX:∀ (l:List TW) (p:Option Int),l.all stB=true→pcF (curS p l) (pcsT p l)=some l
 | [],p,_=>by cases p<;> rfl
 | w :: l,p,h=>by
  rw [List.all_cons,Bool.and_eq_true] at h;obtain ⟨hw1,hw2,hw3⟩:=nU.1 h.1;obtain ⟨hm1,hm2⟩:=IU hw1;have ih:=CX l (some w.State) h.2;have hst:w.State=0∨w.State=1∨w.State=2:=by omega
  have hcl:∀ st,pcF st (shP w.State++pcsT (some w.State) l)=pcF (if w.State=0 then st else 0) (pcsT (some w.State) l):=by
   intro st;rcases hst with h0 | h0 | h0<;> rw [h0]
   ·rfl
   ·rw [if_neg (by decide)];exact BB (e:=[43,93]) (s:=0) (by decide) _ _
   ·rw [if_neg (by decide)];exact BB (e:=[45,93]) (s:=0) (by decide) _ _
  have hafter:pcF w.State ((if lastB w.State l=true then shP w.State else [])++pcsT (some w.State) l)=some l:=by
   cases l with
   | nil=>
    rw [if_pos (show lastB w.State []=true from rfl),hcl];rfl
   | cons y ys=>
    by_cases hy:y.State=w.State
    ·have:lastB w.State (y :: ys)=false:=by simp [lastB,hy]
     rw [this,if_neg (by decide),List.nil_append];have hc:curS (some w.State) (y :: ys)=w.State:=by simp [curS,hy]
     rw [hc] at ih;exact ih
    ·have:lastB w.State (y :: ys)=true:=by simp [lastB,hy]
     rw [this,if_pos rfl,hcl];have hc:curS (some w.State) (y :: ys)=0:=by
      have:¬ w.State=y.State:=fun e=>hy e.symm;simp [curS,this]
     rw [hc] at ih;have e0:(if w.State=0 then w.State else 0)=0:=by
      split
      ·assumption
      ·rfl
     rw [e0];exact ih
  have hword:pcF w.State (esc w.Text :: ((if lastB w.State l=true then shP w.State else [])++pcsT (some w.State) l))=some (w :: l):=by
   rw [Jg hm1 hm2,hafter];rfl
  unfold pcsT;by_cases hp:p=some w.State
  ·rw [if_pos hp,List.nil_append];have hc:curS p (w :: l)=w.State:=by rw [hp];simp [curS]
   rw [hc];exact hword
  ·rw [if_neg hp];have hc:curS p (w :: l)=0:=by
    unfold curS;split
    ·rename_i s y ys h1 h2;cases h2;exact if_neg (fun e=>hp (by rw [e]))
    ·rfl
   rw [hc];rcases hst with h0 | h0 | h0
   ·rw [h0] at hword ⊢;exact hword
   ·rw [h0] at hword ⊢;rw [show opP 1= [[91,43]] from rfl];exact (BB (by decide) _ _).trans hword
   ·rw [h0] at hword ⊢;rw [show opP 2= [[91,45]] from rfl];exact (BB (by decide) _ _).trans hword
theorem CY(l:List TW)(h:rowB l=true):psB (rowF l)=(l,true):=by
 have h':=h;unfold rowB at h';rw [Bool.and_eq_true] at h';have hf:rowF l=rowT none l:=if_pos h;cases l with
 | nil=>rfl
 | cons w l=>
  have hj:=CW w l;have hno:=D7 (w :: l) none h'.2;have hb:=CX (w :: l) none h'.2;obtain ⟨x,xs,hx⟩:∃ x xs,pcsT none (w :: l)=x :: xs:=by
   cases hq:pcsT none (w :: l) with
   | nil=>unfold pcsT at hq;simp at hq
   | cons x xs=>exact ⟨x,xs,rfl⟩
  have hne:rowF (w :: l)≠ []:=by
   rw [hf,←hj,hx];intro e;have hxe:x= []:=by simp [joinS] at e;exact e.1
   unfold pcsT at hx;rw [if_neg (by simp)] at hx;have hw:=oz (nU.1 (List.all_eq_true.1 h'.2 w List.mem_cons_self)).1;have:∀ y∈opP w.State,y≠ []:=by
    intro y hy;unfold opP at hy;split at hy
    ·rw [List.mem_singleton.1 hy];decide
    ·split at hy
     ·rw [List.mem_singleton.1 hy];decide
     ·cases hy
   cases ho:opP w.State with
   | nil=>
    rw [ho,List.nil_append] at hx;have:=(List.cons.inj hx).1;rw [hxe] at this;have hl:=congrArg List.length this;unfold esc at hl;split at hl
    ·rename_i hq;rw [hq] at hw;simp at hw
    ·split at hl<;> simp at hl
   | cons y ys=>
    rw [ho] at hx this;exact this y List.mem_cons_self (by rw [(List.cons.inj hx).1,hxe])
  have hs:splitC 32 (rowF (w :: l))=pcsT none (w :: l):=by
   rw [hf,←hj,hx,joinS];rw [hx] at hno;exact yM xs (fun y hy=>hno y (List.mem_cons_of_mem _ hy)) x (hno x List.mem_cons_self)
  unfold psB;rw [if_neg hne,hs];have hc:curS none (w :: l)=0:=rfl;rw [hc] at hb;rw [hb];dsimp only;rw [if_pos ⟨h,rfl⟩]
theorem um(l:List TW):(rowF l).length≤90000:=by
 unfold rowF;split
 ·rename_i h;have h':=h;unfold rowB at h';rw [Bool.and_eq_true] at h';have hn:=of_decide_eq_true h'.1;have:=wZ (runsF l);rw [CJ] at this;have h3:total (runsF l)≤90000:=by
   cases l with
   | nil=>simp [runsF,total]
   | cons w l=>
    rw [List.all_cons,Bool.and_eq_true] at h';have hwl:=oz (nU.1 h'.2.1).1;have hel:=wm w.Text;have:=rV l w.State [esc w.Text] h'.2.2;simp only [runsF];rw [kI] at this;simp only [show total ([]:List Str)=0 from rfl,List.length_cons] at this hn;omega
  omega
 ·simp
end Go.Proofs.YtalogjkalmkpjaaGreatDoor
/-
  The laws of rows of tracked words.
-/
namespace Go.Proofs.YtalogjkalmkpjaaGreatDoor
open Go Go.Dec
theorem fid1:M.gK ⟨1,0,1⟩=some [35,49,46,48,46,49]:=by
 have i1:∀ k:Nat,k<10→Lib.itoa (k:Int)= [UInt8.ofNat (48+k)]:=fun k hk=>by
  unfold Lib.itoa;rw [if_neg (by omega),Lib.decDigits,dif_pos (by omega)];rfl
 have a0:Lib.itoa 0= [48]:=i1 0 (by decide);have a1:Lib.itoa 1= [49]:=i1 1 (by decide);simp only [M.gK,itoaM,a0,a1,Option.bind_some];rfl
def secT:aa:=⟨0,2,⟨1,0,1⟩,[53],[52],false,[],[⟨0,[97]⟩,⟨2,[98]⟩,⟨1,[99]⟩],[]⟩
def rowW:List TW:=[⟨0,[97]⟩,⟨2,[98]⟩,⟨1,[99]⟩]
theorem Ab:rowF rowW= [97,32,91,45,32,98,32,45,93,32,91,43,32,99,32,43,93]:=by rfl
theorem Gz:To (fun n=>M.iQ n secT 0) [61,32,115,101,99,116,105,111,110,32,53,32,119,97,115,32,52,32,35,49,46,48,46,49,32,124,32,97,32,91,45,32,98,32,45,93,32,91,43,32,99,32,43,93]:=by
 have hf:=rq rowW;rw [Ab] at hf;simp only [M.iQ];refine To.bindS (show repeatM ([32,32]:Str) 0=some [] from rfl) (To.bindS (show M.kw secT=some [61] from rfl) (To.bindS (show catC [] [61]=some [61] from rfl) (To.bindS (show catC [61] [32]=some [61,32] from rfl) (To.bindS (show M.kw secT=some [61] from rfl) (To.neg (by decide) ?_)))));refine To.bindS (show M.gF secT.Kind=some [115,101,99,116,105,111,110] from rfl) (To.bindS (d9 (by decide)) ?_);refine To.bind (To.pos (by decide) (To.bindS (d9 (by decide)) (To.bindS (d9 (by decide)) To.pure))) ?_;refine To.bind (To.pos (by decide) (To.bindS (d9 (by decide)) (To.bindS (d9 (by decide)) To.pure))) ?_;refine To.bindS fid1 (To.bindS (d9 (by decide)) (To.bindS (d9 (by decide)) ?_));refine To.bind (To.neg (by decide) To.pure) ?_;refine To.pos (by decide) (To.bind hf (To.bindS (d9 (by decide)) (To.bindS (d9 (by decide)) (To.pure.of ?_))));rfl
theorem Fy:To (fun n=>M.jf n secT) [[61,32,115,101,99,116,105,111,110,32,53,32,119,97,115,32,52,32,35,49,46,48,46,49,32,124,32,97,32,91,45,32,98,32,45,93,32,91,43,32,99,32,43,93]]:=by
 have hv:To (fun n=>M.ed n secT 0) true:=To.far 30 fun m=>by kernel_rfl
 simp only [M.jf];refine To.bind hv (To.neg (by decide) (To.bind (To.succ ?_) To.pure));simp only [M.gY];exact To.bind Gz (To.bindS (dL (by decide)) (To.bind To.pure To.pure))
theorem awake53:To (fun n=>M.og n) true:=by
 have hf:=rq rowW;rw [Ab] at hf;simp only [M.og];refine To.bind (a:=([61,32,115,101,99,116,105,111,110,32,53,32,119,97,115,32,52,32,35,49,46,48,46,49,32,124,32,97,32,91,45,32,98,32,45,93,32,91,43,32,99,32,43,93,10],(0:Int))) ?_ (To.bind hf (To.pos (by decide) (To.pos rfl (To.pure.of (by decide)))));simp only [M.iJ];refine To.bind Fy (To.neg (by decide) (To.bindS (show M.strings_Join _ [10]=some [61,32,115,101,99,116,105,111,110,32,53,32,119,97,115,32,52,32,35,49,46,48,46,49,32,124,32,97,32,91,45,32,98,32,45,93,32,91,43,32,99,32,43,93] from rfl) (To.bindS (d9 (by decide)) (To.neg (by decide) (To.pure.of rfl)))))
end Go.Proofs.YtalogjkalmkpjaaGreatDoor
/-
  Labels, names and joined lines: what chapter 11's texts hold too (picked by wip/scripts/pick.py).
-/
namespace Go.Proofs.YtalogjkalmkpjaaGreatDoor
open Go Go.Dec
def isDig(b:UInt8):Bool:=decide (48≤b.toNat) && decide (b.toNat≤57)
def isCap(b:UInt8):Bool:=decide (65≤b.toNat) && decide (b.toNat≤90)
def oC(s:Str):Bool:=
 let d:=(s.takeWhile isDig).length;decide (1≤d) && decide (d≤4) && decide (s.head? ≠some 48) && decide (s.length-d≤3) && (s.drop d).all isCap
theorem digits03(s:Str):To (fun n=>M.pu n s) ((s.takeWhile isDig).length:Int):=by
 have loop:∀ (xs:Str) (i:Nat),s.drop i=xs→To (fun n=>M.gW s n (i:Int)) ((i+(xs.takeWhile isDig).length:Nat):Int):=by
  intro xs;induction xs with
  | nil=>
   intro i hx;refine To.succ ?_;simp only [M.gW];exact To.neg (gm hx) (To.pure.of (by simp))
  | cons x xs ih=>
   intro i hx;refine To.succ ?_;simp only [M.gW];refine To.pos (eQ hx) (To.bindS (cZ hx) ?_);by_cases h1:48≤x.toNat
   ·refine To.pos (by omega) (To.bindS (cZ hx) ?_);by_cases h2:x.toNat≤57
    ·refine To.pos (by omega) ?_;rw [bZ];refine (ih (i+1) (fE hx)).of ?_;rw [List.takeWhile_cons_of_pos (by simp [isDig,h1,h2]),List.length_cons];omega
    ·refine To.neg (by omega) (To.pure.of ?_);rw [List.takeWhile_cons_of_neg (by simp [isDig];omega)];rfl
   ·refine To.neg (by omega) (To.pure.of ?_);rw [List.takeWhile_cons_of_neg (by simp [isDig];omega)];rfl
 simp only [M.pu];refine To.bind (loop s 0 rfl) (To.pure.of (by simp))
theorem may03(s:Str)(hl:s.length≤1000000000):To (fun n=>M.uk n s) (oC s):=by
 have hd:(s.takeWhile isDig).length≤s.length:=by
  have:=(List.takeWhile_sublist isDig (l:=s)).length_le;exact this
 have loop:∀ (xs:Str) (i:Nat),s.drop i=xs→To (fun n=>M.jl s n (i:Int)) (if xs.all isCap then .inl () else .inr false):=by
  intro xs;induction xs with
  | nil=>
   intro i hx;refine To.succ ?_;simp only [M.jl];exact To.neg (gm hx) (To.pure.of (by simp))
  | cons x xs ih=>
   intro i hx;refine To.succ ?_;simp only [M.jl];refine To.pos (eQ hx) (To.bindS (cZ hx) ?_);by_cases h1:x.toNat<65
   ·refine To.pos (by omega) (To.pure.of ?_);rw [if_neg (by simp [isCap];omega)]
   ·refine To.neg (by omega) (To.bindS (cZ hx) ?_);by_cases h2:90<x.toNat
    ·refine To.pos (by omega) (To.pure.of ?_);rw [if_neg (by simp [isCap];omega)]
    ·refine To.neg (by omega) ?_;rw [bZ];refine (ih (i+1) (fE hx)).of ?_;have:isCap x=true:=by simp [isCap];omega
     simp [this]
 generalize hdd:(s.takeWhile isDig).length=d at hd;have hdig:=digits03 s;rw [hdd] at hdig;simp only [M.uk];refine To.bind hdig ?_;by_cases h1:d<1
 ·refine To.bind (a:=true) (To.pos (by omega) To.pure) (To.pos rfl (To.pure.of ?_));simp [oC,hdd];omega
 by_cases h2:4<d
 ·refine To.bind (a:=true) (To.neg (by omega) (To.pos (by omega) To.pure)) (To.pos rfl (To.pure.of ?_));simp [oC,hdd];omega
 obtain ⟨x,xs,rfl⟩:∃ x xs,s=x :: xs:=by
  cases s with
  | nil=>simp at hd;omega
  | cons x xs=>exact ⟨x,xs,rfl⟩
 by_cases h3:x=48
 ·subst h3;refine To.bind (a:=true) (To.neg (by omega) (To.neg (by omega) (To.bindS kQ (To.pos rfl To.pure)))) (To.pos rfl (To.pure.of ?_));simp [oC]
 have h3':¬ ((x.toNat:Int)=48):=by
  intro h;exact h3 (UInt8.toNat_inj.1 (by have:(48:UInt8).toNat=48:=rfl;omega))
 by_cases h4:3<(x :: xs).length-d
 ·refine To.bind (a:=true) (To.neg (by omega) (To.neg (by omega) (To.bindS kQ (To.neg h3' (To.bindS (iH (by omega) (by omega)) (To.pure.of (by simp;simp at h4 hd;omega))))))) (To.pos rfl (To.pure.of ?_));simp only [oC,hdd];rw [decide_eq_false (show ¬ (x :: xs).length-d≤3 by omega)];simp
 refine To.bind (a:=false) (To.neg (by omega) (To.neg (by omega) (To.bindS kQ (To.neg h3' (To.bindS (iH (by omega) (by omega)) (To.pure.of (by simp;simp at h4 hd;omega))))))) (To.neg (by simp) ?_);refine To.bind (loop _ d rfl) ?_;simp only [oC,hdd];rw [decide_eq_true (show 1≤d by omega),decide_eq_true (show d≤4 by omega),decide_eq_true (show (x :: xs).length-d≤3 by omega),decide_eq_true (show (x :: xs).head? ≠some 48 by simpa using h3)];by_cases h5:((x :: xs).drop d).all isCap=true
 ·rw [if_pos h5];exact To.pure.of (by rw [h5];rfl)
 ·rw [if_neg h5];exact To.pure.of (by simp only [Bool.not_eq_true] at h5;rw [h5];rfl)
theorem idxfun(s:Str)(f:Int→Option Bool)(p:UInt8→Bool)(hf:∀ b:UInt8,b.toNat<128→f (b.toNat:Int)=some (p b))(hh:∀ r:Nat,128≤r→f (r:Int)=some true)(hp:∀ b:UInt8,128≤b.toNat→p b=true) :
  To (fun n=>M.strings_IndexFunc n s f) (if s.any p then (((s.takeWhile fun b=>!p b).length:Nat):Int) else -1):=by
 have loop:∀ (xs:Str) (i:Nat),s.drop i=xs→∃ v,To (fun n=>M.dC s f true n i) (if xs.any p then .inr ((i+(xs.takeWhile fun b=>!p b).length:Nat):Int) else .inl v):=by
  intro xs;induction xs with
  | nil=>
   intro i hx;have:=List.drop_eq_nil_iff.1 hx;refine ⟨i,To.succ ?_⟩;simp only [M.dC];exact To.neg (by omega) (To.pure.of (by simp))
  | cons x xs ih=>
   intro i hx;obtain ⟨h1,h2,h3⟩:=iZ hx;have hxi:s[i]=x:=by rw [List.getElem?_eq_getElem h1] at h2;exact Option.some.inj h2
   by_cases ha:x.toNat<128
   ·have hr:=A7 h1 (by rw [hxi];exact ha);rw [hxi] at hr;obtain ⟨v,hv⟩:=ih (i+1) h3;refine ⟨v,To.succ ?_⟩;simp only [M.dC];refine To.pos h1 ?_;rw [hr];refine To.bindS (hf x ha) ?_;cases hpx:p x with
    | true=>exact To.pos rfl (To.pure.of (by simp [hpx]))
    | false=>
     refine To.neg (by simp) (hv.of ?_);have tw:(x :: xs).takeWhile (fun b=>!p b)=x :: xs.takeWhile (fun b=>!p b):=List.takeWhile_cons_of_pos (by simp [hpx]);rw [tw];simp only [List.any_cons,hpx,Bool.false_or,List.length_cons];split
     ·congr 1;omega
     ·rfl
   ·obtain ⟨q1,q2⟩:=Cb h1 (by rw [hxi];omega);have hpx:=hp x (by omega);refine ⟨0,To.succ ?_⟩;simp only [M.dC];refine To.pos h1 (To.bindS (hh _ q1) (To.pos rfl (To.pure.of (by simp [hpx]))))
 obtain ⟨v,hv⟩:=loop s 0 rfl;simp only [M.strings_IndexFunc,M.strings_indexFunc];by_cases h:s.any p=true
 ·rw [if_pos h] at hv ⊢;exact To.bind (To.bind hv To.pure) (To.pure.of (by simp))
 ·rw [if_neg h] at hv ⊢;exact To.bind (To.bind hv To.pure) To.pure
theorem GA{α:Type}{p:α→Bool}:∀ {l:List α},(∀ b,b∈l→p b=true)→l.takeWhile p=l
 | [],_=>rfl
 | x :: l,h=>by rw [List.takeWhile_cons_of_pos (h x (by simp)),GA fun b hb=>h b (by simp [hb])]
theorem IV(s:Str):(s.takeWhile fun b=>!(!isDig b))=s.takeWhile isDig:=by simp
theorem Fz(s:Str):To (fun n=>M.mR n s) (s.take (s.takeWhile isDig).length,s.drop (s.takeWhile isDig).length):=by
 have h:=idxfun s (fun s0=>M.j5 s0) (fun b=>!isDig b) (fun b hb=>by
  simp only [M.j5,isDig];split
  ·simp;omega
  ·congr 1;rw [Bool.eq_iff_iff];simp;omega) (fun r hr=>by
  simp only [M.j5];rw [if_neg (by omega)];congr 1;simp;omega) (fun b hb=>by simp [isDig];omega)
 have hd:(s.takeWhile isDig).length≤s.length:=(List.takeWhile_sublist isDig (l:=s)).length_le;simp only [M.mR];refine To.bind h ?_;rw [IV];by_cases ha:(s.any fun b=>!isDig b)=true
 ·rw [if_pos ha];refine To.neg (by omega) (To.bindS (a:=s.take (s.takeWhile isDig).length) ?_ (To.bindS (a:=s.drop (s.takeWhile isDig).length) ?_ To.pure))
  ·simp [slcHi,hd]
  ·simp [slcLo,hd]
 ·rw [if_neg ha];refine To.pos (by omega) (To.pure.of ?_);have hall:s.takeWhile isDig=s:=by refine GA fun b hb=>?_;simp only [Bool.not_eq_true,List.any_eq_false] at ha;have:=ha b hb;simpa using this
  rw [hall];simp
theorem wo(s:Str):To (fun n=>M.ko n s) (oC s):=by
 have hd:(s.takeWhile isDig).length≤s.length:=(List.takeWhile_sublist isDig (l:=s)).length_le;have h:=Fz s;generalize hdd:(s.takeWhile isDig).length=d at hd h;have hc:=idxfun (s.drop d) (fun s0=>M.kW s0) (fun b=>!isCap b) (fun b hb=>by
  simp only [M.kW,isCap];split
  ·simp;omega
  ·congr 1;rw [Bool.eq_iff_iff];simp;omega) (fun r hr=>by
  simp only [M.kW];rw [if_neg (by omega)];congr 1;simp;omega) (fun b hb=>by simp [isCap];omega)
 simp only [M.ko];refine To.bind h ?_;dsimp only;have hl:((s.take d).length:Int)=d:=by rw [List.length_take];omega
 have hl2:(((s.drop d).length:Nat):Int)=((s.length-d:Nat):Int):=by rw [List.length_drop]
 by_cases h1:d<1
 ·exact To.neg (by omega) (To.pure.of (by simp [oC,hdd];omega))
 refine To.pos (by omega) ?_;by_cases h2:4<d
 ·exact To.neg (by omega) (To.pure.of (by simp [oC,hdd];omega))
 refine To.pos (by omega) ?_;obtain ⟨x,xs,rfl⟩:∃ x xs,s=x :: xs:=by
  cases s with
  | nil=>simp at hd;omega
  | cons x xs=>exact ⟨x,xs,rfl⟩
 have hx:idx ((x :: xs).take d) (0:Int)=some x:=by
  obtain ⟨e,rfl⟩:∃ e,d=e+1:=⟨d-1,by omega⟩
  simp [idx]
 refine To.bindS hx ?_;by_cases h3:x=48
 ·subst h3;exact To.neg (by simp) (To.pure.of (by simp [oC]))
 have h3':(x.toNat:Int)≠48:=by
  intro h;exact h3 (UInt8.toNat_inj.1 (by have:(48:UInt8).toNat=48:=rfl;omega))
 refine To.pos h3' ?_;simp only [oC,hdd];rw [decide_eq_true (show 1≤d by omega),decide_eq_true (show d≤4 by omega),decide_eq_true (show (x :: xs).head? ≠some 48 by simpa using h3)];by_cases h4:3<(x :: xs).length-d
 ·refine To.neg (by omega) (To.pure.of ?_);rw [decide_eq_false (show ¬ (x :: xs).length-d≤3 by omega)];simp
 refine To.pos (by omega) ?_;rw [decide_eq_true (show (x :: xs).length-d≤3 by omega)];simp only [M.strings_ContainsFunc];refine To.bind (To.bind hc To.pure) (To.pure.of ?_);have he:(((x :: xs).drop d).any fun b=>!isCap b)= !(((x :: xs).drop d).all isCap):=by rw [List.not_all_eq_any_not]
 rw [he];cases ((x :: xs).drop d).all isCap<;> simp<;> omega
def nm:List Str:=[[98,111,111,107],[112,97,114,116],[115,101,99,116,105,111,110],[112,97,114,97,103,114,97,112,104],[116,97,98,108,101],[114,111,119],[99,101,108,108],[110,111,116,101]]
def nameOf(k:Int):Str:=(idx nm k).getD []
theorem IW{s:Str}(h:oC s=true):(32:UInt8) ∉ s:=by
 unfold oC at h;simp only [Bool.and_eq_true] at h;intro hm;rw [←List.take_append_drop (s.takeWhile isDig).length s] at hm;rcases List.mem_append.1 hm with hm | hm
 ·have e:s.take (s.takeWhile isDig).length=s.takeWhile isDig:=by
   have:=List.takeWhile_append_dropWhile (p:=isDig) (l:=s)
   calc s.take (s.takeWhile isDig).length=(s.takeWhile isDig++s.dropWhile isDig).take (s.takeWhile isDig).length:=by rw [this]
    _=s.takeWhile isDig:=by rw [List.take_append_of_le_length (Nat.le_refl _),List.take_length]
  rw [e] at hm;have:∀ (l:Str),(32:UInt8) ∉ l.takeWhile isDig:=by
   intro l;induction l with
   | nil=>simp
   | cons x l ih=>
    rw [List.takeWhile_cons];split
    ·rename_i hx;simp only [List.mem_cons,not_or];refine ⟨?_,ih⟩;rintro rfl;revert hx;decide
    ·simp
  exact this s hm
 ·have:=List.all_eq_true.1 h.2 _ hm;revert this;decide
theorem BC{k:Int}(h0:0≤k)(h1:k≤7):(32:UInt8) ∉ nameOf k∧nameOf k≠ []:=by
 obtain ⟨m,rfl⟩:∃ m:Nat,k=(m:Int):=⟨k.toNat,by omega⟩
 have hm:m=0∨m=1∨m=2∨m=3∨m=4∨m=5∨m=6∨m=7:=by omega
 rcases hm with rfl | rfl | rfl | rfl | rfl | rfl | rfl | rfl<;> exact ⟨by decide,by decide⟩
def uG(l:List Str):Str:=l.flatMap (fun x=>10 :: x)
def joinN:List Str→Str
 | []=>[]
 | a :: l=>a++uG l
theorem xE:∀ (l:List Str) (b:Str),b.length+total l≤1000000000→M.dz [10] l b=some (b++uG l)
 | [],b,_=>by simp [M.dz,uG]
 | x :: l,b,h=>by
  have ht:total (x :: l)=x.length+1+total l:=by simp [total]
  rw [ht] at h;simp only [M.dz];rw [dL (by simp;omega),Option.bind_some,dL (by simp;omega),Option.bind_some,xE l _ (by simp;omega)];simp [uG]
theorem FB(x y:Str)(l:List Str)(h:total (x :: y :: l)≤400000000):M.strings_Join (x :: y :: l) [10]=some (joinN (x :: y :: l)):=by
 have hlen:=zZ (x :: y :: l);have h1:((x :: y :: l).length:Int)=((l.length+2:Nat):Int):=by simp;omega
 have ht:total (x :: y :: l)=x.length+1+total (y :: l):=by simp [total]
 have hlen':l.length+2≤total (x :: y :: l):=by simpa using hlen
 have hs:(([10]:Str).length:Int)=1:=rfl;have e1:((l.length+2:Nat):Int)-1=((l.length+1:Nat):Int):=by omega
 have hsub:subC ((l.length+2:Nat):Int) 1=some ((l.length+1:Nat):Int):=by rw [iH (by omega) (by omega),e1]
 obtain ⟨q,hq,hq2⟩:=EA (l.length+1) (by omega) (by omega);have hmul:mulC (1:Int) ((l.length+1:Nat):Int)=some ((l.length+1:Nat):Int):=by rw [vz (by omega) (by omega),Int.one_mul]
 have hadd:addC (0:Int) ((l.length+1:Nat):Int)=some ((l.length+1:Nat):Int):=by rw [gp (by omega) (by omega),Int.zero_add]
 obtain ⟨m,hm,hle⟩:=uX (x :: y :: l) (l.length+1) (by omega);have hg:growC (m:Int)=some ():=by
  unfold growC;rw [if_pos];omega
 have hsl:slcLo (x :: y :: l) (1:Int)=some (y :: l):=by
  unfold slcLo;rw [if_pos (by simp;omega)];rfl
 have n0:¬ ((l.length+2:Nat):Int)=0:=by omega
 have n1:¬ ((l.length+2:Nat):Int)=1:=by omega
 have n2:(0:Int)< 1:=by omega
 have n3:¬ ((q:Nat):Int)≤1:=by omega
 have ha0:appC ([]:Str) x=some x:=by rw [dL (by simp;omega)];rfl
 have hl2:M.dz [10] (y :: l) x=some (x++uG (y :: l)):=xE (y :: l) x (by omega);unfold M.strings_Join;rw [h1,if_neg n0,if_neg n1,hs,if_pos n2,hsub,Option.bind_some,hq,Option.bind_some];rw [if_neg n3];rw [Option.bind_some,Option.bind_some,hmul,Option.bind_some,hadd,Option.bind_some,Option.bind_some,hm,Option.bind_some,hg,Option.bind_some,kQ,Option.bind_some,ha0,Option.bind_some,hsl,Option.bind_some,hl2,Option.bind_some];rfl
theorem GD(l:List Str)(h:total l≤400000000):M.strings_Join l [10]=some (joinN l):=by
 cases l with
 | nil=>rfl
 | cons x l=>
  cases l with
  | nil=>
   unfold M.strings_Join;rw [if_neg (by simp),if_pos (by simp),kQ,Option.bind_some];simp [joinN,uG]
  | cons y l=>exact FB x y l h
theorem kname(k:Int):M.gF k=some (nameOf k):=by
 unfold M.gF nameOf;by_cases h0:k<0
 ·rw [if_pos h0];have:idx nm k=none:=by unfold idx;rw [if_neg (by omega)]
  rw [this];rfl
 ·rw [if_neg h0];by_cases h8:(8:Int)≤k
  ·rw [if_pos h8];have:idx nm k=none:=by unfold idx;rw [if_pos (by omega)];exact List.getElem?_eq_none (by simp [nm];omega)
   rw [this];rfl
  ·rw [if_neg h8];obtain ⟨x,hx,_⟩:=Gr (l:=nm) (i:=k) (by omega) (by simp [nm];omega);have:idx gv2 k=some x:=hx;rw [this,hx];rfl
end Go.Proofs.YtalogjkalmkpjaaGreatDoor
/-
  Numerals: what Itoa writes, Atoi reads back; nothing here speaks of a program.
-/
namespace Go.Proofs.YtalogjkalmkpjaaGreatDoor
open Go Go.Dec
theorem ry{u:Nat}(h:u<10):Lib.decDigits u= [UInt8.ofNat (48+u)]:=by rw [Lib.decDigits,dif_pos h]
theorem xY{u:Nat}(h:¬ u<10):Lib.decDigits u=Lib.decDigits (u / 10)++ [UInt8.ofNat (48+u % 10)]:=by rw [Lib.decDigits,dif_neg h]
theorem yO{k:Nat}(h:k<10):(UInt8.ofNat (48+k)).toNat=48+k:=by
 simp;omega
theorem GG(u:Nat):Lib.decDigits u≠ []:=by
 by_cases h:u<10
 ·rw [ry h];simp
 ·rw [xY h];simp
theorem w9:∀ (u:Nat) (c:UInt8),c∈Lib.decDigits u→48≤c.toNat∧c.toNat≤57:=by
 intro u;induction u using Nat.strongRecOn with
 | _ u ih=>
  intro c hc;by_cases h:u<10
  ·rw [ry h] at hc;simp only [List.mem_singleton] at hc;subst hc;rw [yO h];omega
  ·rw [xY h] at hc;rcases List.mem_append.1 hc with h1 | h1
   ·exact ih _ (by omega) c h1
   ·simp only [List.mem_singleton] at h1;subst h1;rw [yO (by omega)];omega
theorem Ac:∀ (l:List UInt8) (acc u:Nat) (c:UInt8),Lib.parseUint10 acc l= .ok u→48≤c.toNat→c.toNat≤57→u*10+(c.toNat-48)< 18446744073709551616→Lib.parseUint10 acc (l++ [c])= .ok (u*10+(c.toNat-48))
 | [],acc,u,c,h,h1,h2,h3=>by
  simp only [Lib.parseUint10] at h;injection h with h
  subst h;simp only [List.nil_append,Lib.parseUint10];rw [if_pos ⟨h1,h2⟩,if_neg (by omega),if_neg (by omega)]
 | d :: l,acc,u,c,h,h1,h2,h3=>by
  simp only [Lib.parseUint10] at h;simp only [List.cons_append,Lib.parseUint10];split at h
  ·rename_i hd;rw [if_pos hd];split at h
   ·cases h
   ·rename_i h4;rw [if_neg h4];split at h
    ·cases h
    ·rename_i h5;rw [if_neg h5];exact Ac l _ u c h h1 h2 h3
  ·cases h
theorem Ad:∀ (u:Nat),u<18446744073709551616→Lib.parseUint10 0 (Lib.decDigits u)= .ok u:=by
 intro u;induction u using Nat.strongRecOn with
 | _ u ih=>
  intro hu;by_cases h:u<10
  ·have h2:48≤(UInt8.ofNat (48+u)).toNat∧(UInt8.ofNat (48+u)).toNat≤57:=by rw [yO h];omega
   rw [ry h];simp only [Lib.parseUint10];rw [if_pos h2,if_neg (by omega),if_neg (by omega),yO h];congr 1;omega
  ·have h2:(UInt8.ofNat (48+u % 10)).toNat=48+u % 10:=yO (by omega);rw [xY h];have h3:=Ac _ 0 _ (UInt8.ofNat (48+u % 10)) (ih (u / 10) (by omega) (by omega)) (by omega) (by omega) (by omega);rw [h3];congr 1;omega
theorem FC{n:Int}(h0:-9223372036854775808≤n)(h1:n≤9223372036854775807):Lib.atoiAll (Lib.itoa n)= .ok n:=by
 unfold Lib.itoa;split
 ·rename_i hn;have hc:(45:UInt8).toNat=45:=rfl;simp only [Lib.atoiAll,hc];rw [if_pos (Or.inr trivial)];unfold Lib.parseMag;rw [if_neg (GG _),Ad _ (by omega)];simp only [not_true,false_and,if_false,true_and];rw [if_neg (by omega)];simp only [if_true];congr 1;omega
 ·rename_i hn;obtain ⟨c,r,hcr⟩:∃ c r,Lib.decDigits n.toNat=c :: r:=by
   cases hd:Lib.decDigits n.toNat with
   | nil=>exact absurd hd (GG _)
   | cons c r=>exact ⟨c,r,rfl⟩
  have hc:=w9 n.toNat c (by rw [hcr];exact List.mem_cons_self);have hp:Lib.parseMag (c :: r)= .ok n.toNat:=by
   unfold Lib.parseMag;rw [if_neg (by simp),←hcr,Ad _ (by omega)]
  rw [hcr];simp only [Lib.atoiAll];rw [if_neg (by omega),hp];have h45:¬ c.toNat=45:=by omega
  simp only [h45,not_false_eq_true,true_and,false_and,if_false];rw [if_neg (by omega)];congr 1;omega
theorem FD{n:Int}{c:UInt8}(h:c∈Lib.itoa n):c.toNat=45∨(48≤c.toNat∧c.toNat≤57):=by
 unfold Lib.itoa at h;split at h
 ·rcases List.mem_cons.1 h with rfl | h
  ·exact .inl rfl
  ·exact .inr (w9 _ c h)
 ·exact .inr (w9 _ c h)
theorem BD:∀ (k u:Nat),u<10 ^ (k+1)→(Lib.decDigits u).length≤k+1
 | 0,u,h=>by rw [ry (by simpa using h)];simp
 | k+1,u,h=>by
  by_cases h1:u<10
  ·rw [ry h1];simp
  ·rw [xY h1];have:=BD k (u / 10) (by rw [Nat.pow_succ] at h;omega);simp;omega
theorem GH{n:Int}(h0:-9223372036854775808≤n)(h1:n≤9223372036854775807):(Lib.itoa n).length≤20:=by
 unfold Lib.itoa;split
 ·have:=BD 18 n.natAbs (by omega);simp;omega
 ·have:=BD 18 n.toNat (by omega);omega
end Go.Proofs.YtalogjkalmkpjaaGreatDoor
/-
  Tracked units: which are valid, which are few.
-/
namespace Go.Proofs.YtalogjkalmkpjaaGreatDoor
open Go Go.Dec
abbrev TU:=aa
def numB(n:Int):Bool:=decide (0≤n) && decide (n≤1048576)
def idB(i:au):Bool:=numB i.Act && (numB i.Item && numB i.N)
theorem tK{n:Int}:numB n=true ↔ 0≤n∧n≤1048576:=by simp [numB]
theorem BF{i:au}:idB i=true ↔ numB i.Act=true∧numB i.Item=true∧numB i.N=true:=by simp [idB]
theorem yP(e:Int)(es:List Int):M.dU (e :: es)=if numB e=true then M.dU es else some (.inr false):=by
 simp only [M.dU];by_cases h1:e<0
 ·rw [if_pos h1,if_neg];rw [tK];omega
 ·rw [if_neg h1];by_cases h2:(1048576:Int)< e
  ·rw [if_pos h2,if_neg];rw [tK];omega
  ·rw [if_neg h2,if_pos];rw [tK];omega
theorem uY(i:au):M.iO i=some (idB i):=by
 unfold M.iO idB;rw [yP,yP,yP];by_cases h1:numB i.Act=true
 ·by_cases h2:numB i.Item=true
  ·by_cases h3:numB i.N=true
   ·simp [h1,h2,h3,M.dU]
   ·simp [h1,h2,h3]
  ·simp [h1,h2]
 ·simp [h1]
theorem FE(e:Int):M.mh e=some (numB e):=by
 unfold M.mh numB;by_cases h:0≤e<;> simp [h]
theorem yQ(i:au):M.mH i=some (idB i):=by
 unfold M.mH idB;simp only [FE,Option.bind_some];by_cases h1:numB i.Act=true
 ·by_cases h2:numB i.Item=true
  ·simp [h1,h2]
  ·simp [h1,h2]
 ·simp [h1]
def placeP(t:TU):Prop:=t.State=2∧t.Moved=true∧idB t.Id=true∧t.Kind=0∧t.Label= []∧t.Was= []∧t.Head.length+t.Words.length+t.Kids.length=0
instance (t:TU):Decidable (placeP t):=by unfold placeP;infer_instance
def placeB(t:TU):Bool:=decide (placeP t)
theorem yR(t:TU)(hb:t.Head.length+t.Words.length+t.Kids.length≤100000):M.dH t=some (placeB t):=by
 have a1:addC (t.Head.length:Int) (t.Words.length:Int)=some ((t.Head.length:Int)+(t.Words.length:Int)):=gp (by omega) (by omega);have a2:addC ((t.Head.length:Int)+(t.Words.length:Int)) (t.Kids.length:Int)=some ((t.Head.length:Int)+(t.Words.length:Int)+(t.Kids.length:Int)):=gp (by omega) (by omega);have e:((t.Head.length:Int)+(t.Words.length:Int)+(t.Kids.length:Int)=0)=(t.Head.length+t.Words.length+t.Kids.length=0):=propext (by omega);simp only [M.dH,a1,a2,Option.bind_some,uY,e];unfold placeB placeP;by_cases h1:t.Kind=0
 ·by_cases h2:t.Label= []
  ·by_cases h3:t.Was= []
   ·by_cases h4:t.Head.length+t.Words.length+t.Kids.length=0
    ·by_cases h5:t.State=2
     ·by_cases h6:t.Moved=true
      ·by_cases h7:idB t.Id=true<;> simp [h1,h2,h3,h4,h5,h6,h7]
      ·simp [h1,h2,h3,h4,h5,h6]
     ·simp [h1,h2,h3,h4,h5]
    ·have h4':decide (t.Head.length+t.Words.length+t.Kids.length=0)=false:=decide_eq_false h4;simp only [h1,h2,h3,h4',h4];simp
   ·simp [h1,h2,h3]
  ·simp [h1,h2]
 ·simp [h1]
theorem FH(t:TU)(hb:t.Head.length+t.Words.length+t.Kids.length≤100000):M.qJ t=some (placeB t):=by
 have a1:addC (t.Head.length:Int) (t.Words.length:Int)=some ((t.Head.length:Int)+(t.Words.length:Int)):=gp (by omega) (by omega);have a2:addC ((t.Head.length:Int)+(t.Words.length:Int)) (t.Kids.length:Int)=some ((t.Head.length:Int)+(t.Words.length:Int)+(t.Kids.length:Int)):=gp (by omega) (by omega);have e:((t.Head.length:Int)+(t.Words.length:Int)+(t.Kids.length:Int)=0)=(t.Head.length+t.Words.length+t.Kids.length=0):=propext (by omega);simp only [M.qJ,a1,a2,Option.bind_some,yQ,e];unfold placeB placeP;by_cases h5:t.State=2
 ·by_cases h6:t.Moved=true
  ·by_cases h7:idB t.Id=true
   ·by_cases h1:t.Kind=0
    ·by_cases h2:t.Label= []
     ·by_cases h3:t.Was= []
      ·simp only [h1,h2,h3,h5,h6,h7];simp
      ·simp [h1,h2,h3,h5,h6,h7]
     ·simp [h1,h2,h5,h6,h7]
    ·simp [h1,h5,h6,h7]
   ·simp [h5,h6,h7]
  ·simp [h5,h6]
 ·simp [h5]
def ownA(t:TU):Prop:=0≤t.Kind∧t.Kind≤7∧idB t.Id=true
def ownR(t:TU):Prop:=rowB t.Head=true∧rowB t.Words=true
def ownL(t:TU):Prop:=(t.Kind=0 ↔ t.Label= [])∧(t.Label≠ []→oC t.Label=true)
def ownW(t:TU):Prop:=t.Was≠ []→oC t.Was=true∧t.Was≠t.Label
def ownS(t:TU):Prop:=t.State=1∨(t.State=0∨t.State=2)∧t.Moved=false
def ownP(t:TU):Prop:=ownA t∧ownR t∧ownL t∧ownW t∧ownS t
instance (t:TU):Decidable (ownA t):=by unfold ownA;infer_instance
instance (t:TU):Decidable (ownR t):=by unfold ownR;infer_instance
instance (t:TU):Decidable (ownL t):=by unfold ownL;infer_instance
instance (t:TU):Decidable (ownW t):=by unfold ownW;infer_instance
instance (t:TU):Decidable (ownS t):=by unfold ownS;infer_instance
instance (t:TU):Decidable (ownP t):=by unfold ownP;infer_instance
def ownB(t:TU):Bool:=decide (ownP t)
theorem EG(t:TU):((decide (t.Kind=(0:Int))) !=(t.Label==([]:Str)))= !decide (t.Kind=0 ↔ t.Label= []):=by
 by_cases h1:t.Kind=0<;> by_cases h2:t.Label= []<;> simp [h1,h2]
theorem stateF(t:TU):(if t.State=(1:Int) then some true else if t.State=(0:Int) then some (!t.Moved) else if t.State=(2:Int) then some (!t.Moved) else some false)=some (decide (ownS t)):=by
 unfold ownS;by_cases h1:t.State=1
 ·simp [h1]
 ·by_cases h2:t.State=0
  ·simp [h2]
  ·by_cases h3:t.State=2
   ·simp [h3]
   ·simp [h1,h2,h3]
theorem GI(t:TU):To (fun n=>M.iE n t) (ownB t):=by
 have hA:(if t.Kind<(0:Int) then some true else if (7:Int)< t.Kind then some true else Option.bind (M.iO t.Id) fun validi=>some (!validi))=some (!decide (ownA t)):=by
  rw [uY];by_cases h1:t.Kind<0
  ·have hn:¬ ownA t:=fun h=>by have:=h.1;omega
   rw [if_pos h1,decide_eq_false hn];rfl
  ·rw [if_neg h1];by_cases h2:(7:Int)< t.Kind
   ·have hn:¬ ownA t:=fun h=>by have:=h.2.1;omega
    rw [if_pos h2,decide_eq_false hn];rfl
   ·rw [if_neg h2];by_cases h3:idB t.Id=true
    ·have hn:ownA t:=⟨by omega,by omega,h3⟩
     rw [decide_eq_true hn,h3];rfl
    ·have hn:¬ ownA t:=fun h=>h3 h.2.2;rw [decide_eq_false hn,show idB t.Id=false by simpa using h3];rfl
 simp only [M.iE];refine To.bindS hA ?_;unfold ownB ownP;by_cases cA:ownA t
 ·refine To.neg (by simp [cA]) (To.bind (a:=!decide (ownR t)) ?_ ?_)
  ·refine To.bind (xX t.Head) ?_;unfold ownR;by_cases h:rowB t.Head=true
   ·exact To.neg (by simp [h]) (To.bind (xX t.Words) (To.pure.of (by simp [h])))
   ·exact To.pos (by simpa using h) (To.pure.of (by simp [h]))
  ·by_cases cR:ownR t
   ·refine To.neg (by simp [cR]) (To.bind (a:=!decide (ownL t)) ?_ ?_)
    ·rw [EG];unfold ownL;by_cases h:(t.Kind=0 ↔ t.Label= [])
     ·refine To.neg (by simp [h]) ?_;by_cases h2:t.Label= []
      ·exact To.neg (by simp [h2]) (To.pure.of (by simp [h2] at h ⊢;exact h))
      ·exact To.pos (by simp [h2]) (To.bind (wo t.Label) (To.pure.of (by simp [h,h2])))
     ·exact To.pos (by simp [h]) (To.pure.of (by simp [h]))
    ·by_cases cL:ownL t
     ·refine To.neg (by simp [cL]) (To.bind (a:=!decide (ownW t)) ?_ ?_)
      ·unfold ownW;by_cases h:t.Was= []
       ·exact To.neg (by simp [h]) (To.pure.of (by simp [h]))
       ·refine To.pos (by simp [h]) (To.bind (wo t.Was) ?_);by_cases h2:oC t.Was=true
        ·exact To.neg (by simp [h2]) (To.pure.of (by by_cases h3:t.Was=t.Label<;> simp [h,h2,h3];simpa [h3] using h))
        ·exact To.pos (by simpa using h2) (To.pure.of (by simp [h,h2]))
      ·by_cases cW:ownW t
       ·refine To.neg (by simp [cW]) (To.opt ?_);rw [stateF];simp [cA,cR,cL,cW]
       ·exact To.pos (by simp [cW]) (To.pure.of (by simp [cW]))
     ·exact To.pos (by simp [cL]) (To.pure.of (by simp [cL]))
   ·exact To.pos (by simp [cR]) (To.pure.of (by simp [cR]))
 ·exact To.pos (by simp [cA]) (To.pure.of (by simp [cA]))
theorem H9(t:TU)(hl:t.Label.length≤100)(hw:t.Was.length≤100):To (fun n=>M.vM n t) (ownB t):=by
 simp only [M.vM];unfold ownB ownP;refine To.bind (a:=!decide (ownA t∧ownR t)) ?_ ?_
 ·by_cases h1:t.Kind<0
  ·have hn:¬ (ownA t∧ownR t):=fun h=>by have:=h.1.1;omega
   exact To.pos h1 (To.pure.of (by rw [decide_eq_false hn];rfl))
  ·refine To.neg h1 ?_;by_cases h2:(7:Int)< t.Kind
   ·have hn:¬ (ownA t∧ownR t):=fun h=>by have:=h.1.2.1;omega
    exact To.pos h2 (To.pure.of (by rw [decide_eq_false hn];rfl))
   ·refine To.neg h2 (To.bindS (yQ t.Id) ?_);by_cases h3:idB t.Id=true
    ·refine To.neg (by simp [h3]) (To.bind (ED t.Head) ?_);by_cases h4:rowB t.Head=true
     ·refine To.neg (by simp [h4]) (To.bind (ED t.Words) (To.pure.of ?_));by_cases h5:rowB t.Words=true
      ·have hn:ownA t∧ownR t:=⟨⟨by omega,by omega,h3⟩,h4,h5⟩
       rw [decide_eq_true hn,h5]
      ·have hn:¬ (ownA t∧ownR t):=fun h=>h5 h.2.2;rw [decide_eq_false hn,show rowB t.Words=false by simpa using h5]
     ·have hn:¬ (ownA t∧ownR t):=fun h=>h4 h.2.1;exact To.pos (by simpa using h4) (To.pure.of (by rw [decide_eq_false hn];rfl))
    ·have hn:¬ (ownA t∧ownR t):=fun h=>h3 h.1.2.2;exact To.pos (by simpa using h3) (To.pure.of (by rw [decide_eq_false hn];rfl))
 ·by_cases cA:ownA t∧ownR t
  ·refine To.neg (by simp [cA]) (To.bind (a:=!decide (ownL t)) ?_ ?_)
   ·rw [EG];unfold ownL;by_cases h:(t.Kind=0 ↔ t.Label= [])
    ·refine To.neg (by simp [h]) ?_;by_cases h2:t.Label= []
     ·exact To.neg (by simp [h2]) (To.pure.of (by simp [h2] at h ⊢;exact h))
     ·exact To.pos (by simp [h2]) (To.bind (may03 t.Label (by omega)) (To.pure.of (by simp [h,h2])))
    ·exact To.pos (by simp [h]) (To.pure.of (by simp [h]))
   ·by_cases cL:ownL t
    ·refine To.neg (by simp [cL]) (To.bind (a:=!decide (ownW t)) ?_ ?_)
     ·unfold ownW;by_cases h:t.Was= []
      ·exact To.neg (by simp [h]) (To.pure.of (by simp [h]))
      ·refine To.pos (by simp [h]) (To.bind (may03 t.Was (by omega)) ?_);by_cases h2:oC t.Was=true
       ·exact To.neg (by simp [h2]) (To.pure.of (by by_cases h3:t.Was=t.Label<;> simp [h,h2,h3];simpa [h3] using h))
       ·exact To.pos (by simpa using h2) (To.pure.of (by simp [h,h2]))
     ·by_cases cW:ownW t
      ·refine To.neg (by simp [cW]) (To.opt ?_);rw [stateF];simp [cA,cL,cW]
      ·exact To.pos (by simp [cW]) (To.pure.of (by simp [cW]))
    ·exact To.pos (by simp [cL]) (To.pure.of (by simp [cL]))
  ·exact To.pos (by simp [cA]) (To.pure.of (by
    have:¬ (ownA t∧ownR t∧ownL t∧ownW t∧ownS t):=fun h=>cA ⟨h.1,h.2.1⟩;simp [this]))
def szP:Nat→TU→Prop
 | 0,_=>False
 | k+1,t=>t.Head.length≤600∧t.Words.length≤600∧t.Label.length≤100∧t.Was.length≤100∧t.Kids.length≤40∧ ∀ x∈t.Kids,szP k x
def cntF:Nat→TU→Nat
 | 0,_=>0
 | k+1,t=>1+(t.Kids.map (cntF k)).sum
def mayF:Nat→Nat→TU→Bool
 | 0,_,_=>false
 | k+1,d,t=>(decide (0<d) && placeB t) || (ownB t && t.Kids.all (mayF k (d+1)))
theorem IX(l:List TU)(f:Nat→TU→Option Bool)(p:TU→Bool)(hf:∀ x,x∈l→To (fun n=>f n x) (p x)):To (fun n=>M.bJ n l (f n)) (l.any p):=by
 have loop:∀ (xs:List TU) (f:Nat→TU→Option Bool) (i:Nat),(∀ x,x∈xs→To (fun n=>f n x) (p x))→l.drop i=xs→∃ r,To (fun n=>M.aL l (f n) n (i:Int)) r∧((xs.any p=true∧ ∃ k:Nat,r= .inr (k:Int))∨(xs.any p=false∧r= .inl ())):=by
  intro xs;induction xs with
  | nil=>
   intro f i _ hx;refine ⟨.inl (),To.succ ?_,.inr ⟨rfl,rfl⟩⟩;simp only [M.aL];exact To.neg (gm hx) To.pure
  | cons x xs ih=>
   intro f i hf hx;have h1:=hf x (by simp);by_cases hp:p x=true
   ·refine ⟨.inr (i:Int),To.succ ?_,.inl ⟨by simp [hp],i,rfl⟩⟩;simp only [M.aL];exact To.pos (eQ hx) (To.bindS (cZ hx) (To.bind h1.shift (To.pos hp To.pure)))
   ·have hp':p x=false:=by simpa using hp
    obtain ⟨r,ht,hr⟩:=ih (fun n=>f (n+1)) (i+1) (fun y hy=>(hf y (by simp [hy])).shift) (fE hx);refine ⟨r,To.succ ?_,by simpa [hp'] using hr⟩;simp only [M.aL];rw [bZ];exact To.pos (eQ hx) (To.bindS (cZ hx) (To.bind h1.shift (To.neg hp ht)))
 obtain ⟨r,ht,hr⟩:=loop l f 0 hf rfl;simp only [M.bJ,M.dm];rcases hr with ⟨ha,k,rfl⟩ | ⟨ha,rfl⟩
 ·refine To.bind (a:=(k:Int)) (To.bind ht To.pure) (To.pure.of ?_);simp [ha]
 ·refine To.bind (a:=(-1:Int)) (To.bind ht To.pure) (To.pure.of ?_);simp [ha]
theorem BG:∀ (k d j:Nat) (t:TU),k+d=9→k≤j→szP j t∨k=0→To (fun n=>M.ed n t (d:Int)) (mayF k d t)
 | 0,d,j,t,hd,_,_=>by
  refine To.succ ?_;simp only [M.ed];exact To.pos (by omega) (To.pure.of rfl)
 | k+1,d,j,t,hd,hj,hs=>by
  have hs:szP j t:=hs.resolve_right (by omega);cases j with
  | zero=>exact absurd hs (by simp [szP])
  | succ j=>
   obtain ⟨s1,s2,s3,s4,s5,s6⟩:=hs;have ih:∀ x∈t.Kids,To (fun n=>M.iF (M.ed n) x (d:Int)) (!mayF k (d+1) x):=fun x hx=>by
    simp only [M.iF];exact To.bindS (dS (by omega)) (To.bind (BG k (d+1) j x (by omega) (by omega) (.inl (s6 x hx))) To.pure)
   refine To.succ ?_;simp only [M.ed];refine To.neg (by omega) (To.bind (a:=decide (0<d) && placeB t) ?_ ?_)
   ·by_cases h:0<d
    ·exact To.pos (by omega) (To.bindS (yR t (by omega)) (To.pure.of (by simp [h])))
    ·exact To.neg (by omega) (To.pure.of (by simp [h]))
   ·unfold mayF;by_cases hp:(decide (0<d) && placeB t)=true
    ·rw [hp];exact To.pos rfl (To.pure.of (by simp))
    ·have hp':(decide (0<d) && placeB t)=false:=by simpa using hp
     rw [hp'];refine To.neg (by decide) (To.bind (GI t) ?_);by_cases ho:ownB t=true
     ·rw [ho];refine To.pos rfl (To.bind (IX t.Kids _ _ ih) (To.pure.of ?_));rw [xW];simp
     ·exact To.neg ho (To.pure.of (by simp [ho]))
theorem EH:∀ (k d j:Nat) (t:TU),k+d=9→k≤j→szP j t∨k=0→To (fun n=>M.nT n t (d:Int)) (mayF k d t)
 | 0,d,j,t,hd,_,_=>by
  refine To.succ ?_;simp only [M.nT];exact To.pos (by omega) (To.pure.of rfl)
 | k+1,d,j,t,hd,hj,hs=>by
  have hs:szP j t:=hs.resolve_right (by omega);cases j with
  | zero=>exact absurd hs (by simp [szP])
  | succ j=>
   obtain ⟨s1,s2,s3,s4,s5,s6⟩:=hs;have ih:∀ x∈t.Kids,To (fun n=>M.nT n x ((d+1:Nat):Int)) (mayF k (d+1) x):=fun x hx=>EH k (d+1) j x (by omega) (by omega) (.inl (s6 x hx));have loop:∀ (xs:List TU) (F:Nat→TU→Int→Option Bool) (i:Nat),(∀ x∈xs,To (fun n=>F n x ((d+1:Nat):Int)) (mayF k (d+1) x))→t.Kids.drop i=xs→
     To (fun n=>M.jm t (d:Int) (F n) n (i:Int)) (if xs.all (mayF k (d+1))=true then .inl () else .inr false):=by
    intro xs;induction xs with
    | nil=>
     intro F i _ hx;refine To.succ ?_;simp only [M.jm];exact To.neg (gm hx) (To.pure.of rfl)
    | cons x xs ihx=>
     intro F i hF hx;have:=ihx (fun n=>F (n+1)) (i+1) (fun y hy=>(hF y (List.mem_cons_of_mem _ hy)).shift) (fE hx);refine To.succ ?_;simp only [M.jm];refine To.pos (eQ hx) (To.bindS (cZ hx) (To.bindS (dS (by omega)) (To.bind (hF x List.mem_cons_self).shift ?_)));by_cases hm:mayF k (d+1) x=true
     ·refine To.neg (by simp [hm]) ?_;rw [bZ];exact this.of (by simp [hm])
     ·exact To.pos (by simpa using hm) (To.pure.of (by simp [hm]))
   refine To.succ ?_;simp only [M.nT];refine To.neg (by omega) (To.bind (a:=decide (0<d) && placeB t) ?_ ?_)
   ·by_cases h:0<d
    ·exact To.pos (by omega) (To.bindS (FH t (by omega)) (To.pure.of (by simp [h])))
    ·exact To.neg (by omega) (To.pure.of (by simp [h]))
   ·unfold mayF;by_cases hp:(decide (0<d) && placeB t)=true
    ·rw [hp];exact To.pos rfl (To.pure.of (by simp))
    ·have hp':(decide (0<d) && placeB t)=false:=by simpa using hp
     rw [hp'];refine To.neg (by decide) (To.bind (H9 t s3 s4) ?_);by_cases ho:ownB t=true
     ·rw [ho];refine To.neg (by decide) (To.bind (loop t.Kids (fun n=>M.nT n) 0 ih rfl) ?_);by_cases ha:t.Kids.all (mayF k (d+1))=true
      ·rw [if_pos ha,ha];exact To.pure
      ·rw [if_neg ha];exact To.pure.of (by simp [show t.Kids.all (mayF k (d+1))=false by simpa using ha])
     ·exact To.pos (by simpa using ho) (To.pure.of (by simp [ho]))
end Go.Proofs.YtalogjkalmkpjaaGreatDoor
