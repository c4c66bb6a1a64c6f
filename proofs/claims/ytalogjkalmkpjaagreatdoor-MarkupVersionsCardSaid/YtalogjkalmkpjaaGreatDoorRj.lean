import Derived.Test.YtalogjkalmkpjaaGreatDoorPu
import Derived.Test.YtalogjkalmkpjaaGreatDoorDec41
/-
  Lines of tracked units: how they are written, by the program and by the reference.
-/
set_option linter.unusedVariables false
set_option linter.unusedSimpArgs false
namespace Go.Proofs.YtalogjkalmkpjaaGreatDoor
open Go Go.Dec
def idF(i:au):Str:=35 :: (Lib.itoa i.Act++46 :: (Lib.itoa i.Item++46 :: Lib.itoa i.N))
theorem nV{m:Int}(h:numB m=true):(Lib.itoa m).length≤20:=by
 obtain ⟨h0,h1⟩:=tK.1 h;exact GH (by omega) (by omega)
theorem wu{i:au}(h:idB i=true):(idF i).length≤63:=by
 obtain ⟨h1,h2,h3⟩:=BF.1 h;have:=nV h1;have:=nV h2;have:=nV h3;simp [idF];omega
theorem D8{i:au}(h:idB i=true):M.gK i=some (idF i):=by
 obtain ⟨h1,h2,h3⟩:=BF.1 h;have l1:=nV h1;have l2:=nV h2;have l3:=nV h3;simp only [M.gK,itoaM,Option.bind_some];rw [d9 (by simp;omega),Option.bind_some,d9 (by simp;omega),Option.bind_some,d9 (by simp;omega),Option.bind_some,d9 (by simp;omega),Option.bind_some,d9 (by simp;omega),Option.bind_some];simp [idF]
def sgF(t:TU):Str:=if t.Moved=true then (if t.State=1 then [62] else [60]) else if t.State=1 then [43] else if t.State=2 then [45] else [61]
theorem BH(t:TU):(sgF t).length=1:=by
 unfold sgF;split
 ·split<;> rfl
 ·split
  ·rfl
  ·split<;> rfl
theorem EI(t:TU):M.kw t=some (sgF t):=by
 unfold M.kw sgF;by_cases h1:t.Moved=true
 ·by_cases h2:t.State=1<;> simp [h1,h2]
 ·by_cases h2:t.State=1
  ·simp [h1,h2]
  ·by_cases h3:t.State=2<;> simp [h1,h2,h3]
theorem yS(k:Int):(nameOf k).length≤9:=by
 unfold nameOf idx;split
 ·cases h:nm[k.toNat]? with
  | none=>simp
  | some x=>
   have:=List.mem_of_getElem? h;have h2:∀ y∈nm,y.length≤9:=by decide
   exact h2 x this
 ·simp
def indF(d:Nat):Str:=Lib.repeatL [32,32] d
theorem yT(d:Nat):(indF d).length=d*2:=Lib.repeatL_length _ _
theorem Ae:∀ d:Nat,indF d++ [32,32]=indF (d+1)
 | 0=>rfl
 | d+1=>by
  have ih:=Ae d;unfold indF at ih ⊢;rw [Lib.repeatL,List.append_assoc,ih];rfl
def xc(l:Str):Str:=if l= [] then [] else 32 :: l
def wasT(l:Str):Str:=if l= [] then [] else [32,119,97,115,32]++l
def headT(l:List TW):Str:=if l.length=0 then [] else [58,32]++rowF l
def wordsT(l:List TW):Str:=if l.length=0 then [] else [32,124,32]++rowF l
def restF(t:TU):Str:=if sgF t= [60] then idF t.Id else nameOf t.Kind++(xc t.Label++(wasT t.Was++(32 :: (idF t.Id++(headT t.Head++wordsT t.Words)))))
def kR(d:Nat)(t:TU):Str:=indF d++(sgF t++(32 :: restF t))
theorem yU(l:Str):(xc l).length≤l.length+1:=by
 unfold xc;split<;> simp
theorem yV(l:Str):(wasT l).length≤l.length+5:=by
 unfold wasT;split<;> simp
theorem xe(l:List TW):(headT l).length≤90002:=by
 unfold headT;split
 ·simp
 ·have:=um l;simp;omega
theorem D9(l:List TW):(wordsT l).length≤90003:=by
 unfold wordsT;split
 ·simp
 ·have:=um l;simp;omega
def LineP(t:TU):Prop:=idB t.Id=true∧0≤t.State∧t.State≤2∧t.Label.length≤100∧t.Was.length≤100∧(sgF t= [60]∨0≤t.Kind∧t.Kind≤7)
theorem CZ{t:TU}(h:LineP t):(restF t).length≤180400:=by
 obtain ⟨h1,h2,h3,h4,h5,h6⟩:=h;have:=wu h1;have:=yU t.Label;have:=yV t.Was;have:=xe t.Head;have:=D9 t.Words;have:=yS t.Kind;unfold restF;split
 ·omega
 ·simp;omega
theorem Da{t:TU}{d:Nat}(hd:d≤9)(h:LineP t):(kR d t).length≤180500:=by
 have:=CZ h;have:=yT d;have:=BH t;unfold kR;simp;omega
theorem EJ(t:TU)(d:Nat)(hd:d≤9)(h:LineP t):To (fun n=>M.iQ n t (d:Int)) (kR d t):=by
 obtain ⟨h1,h2,h3,h4,h5,h6⟩:=h;have b1:=wu h1;have b2:=yU t.Label;have b3:=yV t.Was;have b4:=um t.Head;have b5:=um t.Words;have b6:=yS t.Kind;have b7:=yT d;have b8:=BH t;simp only [M.iQ];have hr:Go.Dec.repeatM ([32,32]:Str) (d:Int)=some (indF d):=by
  unfold Go.Dec.repeatM;rw [if_pos ⟨by omega,by simp;omega⟩,Int.toNat_natCast];rfl
 refine To.bindS hr (To.bindS (EI t) (To.bindS (d9 (by omega)) (To.bindS (d9 (by simp;omega)) (To.bindS (EI t) ?_))));unfold kR restF;by_cases hs:sgF t= [60]
 ·rw [if_pos hs];refine To.pos (by simp [hs]) (To.bindS (D8 h1) (To.bindS (d9 (by simp;omega)) (To.pure.of (by simp))))
 ·rw [if_neg hs];refine To.neg (by simpa using hs) (To.bindS (kname t.Kind) (To.bindS (d9 (by simp;omega)) ?_));refine To.bind (a:=indF d++sgF t++ [32]++nameOf t.Kind++xc t.Label) ?_ ?_
  ·by_cases hl:t.Label= []
   ·exact To.neg (by simp [hl]) (To.pure.of (by simp [xc,hl]))
   ·exact To.pos (by simp [hl]) (To.bindS (d9 (by simp;omega)) (To.bindS (d9 (by simp;omega)) (To.pure.of (by simp [xc,hl]))))
  refine To.bind (a:=indF d++sgF t++ [32]++nameOf t.Kind++xc t.Label++wasT t.Was) ?_ ?_
  ·by_cases hl:t.Was= []
   ·exact To.neg (by simp [hl]) (To.pure.of (by simp [wasT,hl]))
   ·exact To.pos (by simp [hl]) (To.bindS (d9 (by simp;omega)) (To.bindS (d9 (by simp;omega)) (To.pure.of (by simp [wasT,hl]))))
  refine To.bindS (D8 h1) (To.bindS (d9 (by simp;omega)) (To.bindS (d9 (by simp;omega)) ?_));refine To.bind (a:=indF d++sgF t++ [32]++nameOf t.Kind++xc t.Label++wasT t.Was++([32]++idF t.Id)++headT t.Head) ?_ ?_
  ·by_cases hl:t.Head.length=0
   ·exact To.neg (by omega) (To.pure.of (by simp [headT,hl]))
   ·exact To.pos (by omega) (To.bind (rq t.Head) (To.bindS (d9 (by simp;omega)) (To.bindS (d9 (by simp;omega)) (To.pure.of (by simp [headT,hl])))))
  ·have b9:=xe t.Head;by_cases hl:t.Words.length=0
   ·exact To.neg (by omega) (To.pure.of (by simp [wordsT,hl]))
   ·exact To.pos (by omega) (To.bind (rq t.Words) (To.bindS (d9 (by simp;omega)) (To.bindS (d9 (by simp;omega)) (To.pure.of (by simp [wordsT,hl])))))
def fM:Nat→Nat→TU→List Str
 | 0,_,_=>[]
 | k+1,d,t=>kR d t :: t.Kids.flatMap (fM k (d+1))
theorem oV{t:TU}(h:placeB t=true):t.Kids= []∧sgF t= [60]:=by
 have:=of_decide_eq_true h;obtain ⟨h1,h2,h3,h4,h5,h6,h7⟩:=this;refine ⟨List.eq_nil_of_length_eq_zero (by omega),?_⟩;unfold sgF;rw [if_pos h2,if_neg (by omega)]
theorem yX{k d j:Nat}{t:TU}(hm:mayF k d t=true)(hs:szP j t):LineP t:=by
 cases k with
 | zero=>cases hm
 | succ k=>
  cases j with
  | zero=>exact absurd hs (by simp [szP])
  | succ j=>
   obtain ⟨s1,s2,s3,s4,s5,s6⟩:=hs;unfold mayF at hm;rw [Bool.or_eq_true,Bool.and_eq_true,Bool.and_eq_true] at hm;rcases hm with ⟨_,hm⟩ | ⟨hm,_⟩
   ·have hp:=oV hm;obtain ⟨h1,h2,h3,h4,h5,h6,h7⟩:=of_decide_eq_true hm;exact ⟨h3,by omega,by omega,s3,s4,.inl hp.2⟩
   ·obtain ⟨⟨a1,a2,a3⟩,h2,h3,h4,h5⟩:=of_decide_eq_true hm;refine ⟨a3,?_,?_,s3,s4,.inr ⟨a1,a2⟩⟩
    ·rcases h5 with h | ⟨h | h,_⟩<;> omega
    ·rcases h5 with h | ⟨h | h,_⟩<;> omega
theorem ww{k d j:Nat}{t:TU}(hm:mayF (k+1) d t=true)(hs:szP (j+1) t):∀ x∈t.Kids,mayF k (d+1) x=true∧szP j x:=by
 intro x hx;refine ⟨?_,hs.2.2.2.2.2 x hx⟩;unfold mayF at hm;rw [Bool.or_eq_true,Bool.and_eq_true,Bool.and_eq_true] at hm;rcases hm with ⟨_,hm⟩ | ⟨_,hm⟩
 ·rw [(oV hm).1] at hx;cases hx
 ·exact List.all_eq_true.1 hm x hx
theorem xZ:∀ (k d j:Nat) (t:TU),k≤j→(fM k d t).length≤cntF j t
 | 0,_,_,_,_=>by simp [fM]
 | k+1,d,0,_,h=>by omega
 | k+1,d,j+1,t,h=>by
  have:∀ xs:List TU,(xs.flatMap (fM k (d+1))).length≤(xs.map (cntF j)).sum:=by
   intro xs;induction xs with
   | nil=>simp
   | cons x xs ih=>
    have:=xZ k (d+1) j x (by omega);simp only [List.flatMap_cons,List.length_append,List.map_cons,List.sum_cons];omega
  have:=this t.Kids;simp only [fM,cntF,List.length_cons];omega
theorem Db:∀ (k d j:Nat) (t:TU) (c:List Str),k+d=9→k≤j→mayF k d t=true→szP j t→c.length+cntF j t≤1000→To (fun n=>M.gY n t (d:Int) c) (c++fM k d t)
 | 0,d,j,t,c,hd,hj,hm,hs,hc=>by cases hm
 | k+1,d,0,t,c,hd,hj,hm,hs,hc=>by omega
 | k+1,d,j+1,t,c,hd,hj,hm,hs,hc=>by
  have hk:=ww hm hs;have loop:∀ (xs:List TU) (c:List Str),(∀ x∈xs,x∈t.Kids)→c.length+(xs.map (cntF j)).sum≤1000→To (fun n=>M.eF (d:Int) (M.gY n) xs c) (c++xs.flatMap (fM k (d+1))):=by
   intro xs;induction xs with
   | nil=>
    intro c _ _;simp only [M.eF];exact To.pure.of (by simp)
   | cons x xs ih=>
    intro c hx hc;have hx1:=hk x (hx x List.mem_cons_self);have hl:=xZ k (d+1) j x (by omega);simp only [List.map_cons,List.sum_cons] at hc;have h1:=Db k (d+1) j x c (by omega) (by omega) hx1.1 hx1.2 (by omega);have h2:=ih (c++fM k (d+1) x) (fun y hy=>hx y (List.mem_cons_of_mem _ hy)) (by simp;omega);simp only [M.eF];exact To.bindS (dS (by omega)) (To.bind h1 (h2.of (by simp)))
  unfold cntF at hc;refine To.succ ?_;simp only [M.gY];refine To.bind (EJ t d (by omega) (yX hm hs)) (To.bindS (dL (by simp;omega)) (To.bind (loop t.Kids (c++ [kR d t]) (fun x hx=>hx) (by simp;omega)) (To.pure.of ?_)));simp [fM]
theorem yY:∀ (k d j:Nat) (t:TU),k+d=9→k≤j→mayF k d t=true→szP j t→∀ x∈fM k d t,x.length≤180500
 | 0,d,j,t,hd,hj,hm,hs,x,hx=>by cases hm
 | k+1,d,0,t,hd,hj,hm,hs,x,hx=>by omega
 | k+1,d,j+1,t,hd,hj,hm,hs,x,hx=>by
  have hk:=ww hm hs;unfold fM at hx;rcases List.mem_cons.1 hx with rfl | hx
  ·exact Da (by omega) (yX hm hs)
  ·obtain ⟨y,hy,hxy⟩:=List.mem_flatMap.1 hx;exact yY k (d+1) j y (by omega) (by omega) (hk y hy).1 (hk y hy).2 x hxy
def gI(l:List Str):Str:=l.flatMap fun x=>x++ [10]
theorem FI:∀ (l:List Str),l≠ []→joinN l++ [10]=gI l
 | [],h=>absurd rfl h
 | x :: l,_=>by
  have:∀ l:List Str,uG l++ [10]=10 :: gI l:=by
   intro l;induction l with
   | nil=>rfl
   | cons y l ih=>
    have e:uG (y :: l)=10 :: (y++uG l):=rfl;rw [e,List.cons_append,List.append_assoc,ih];simp [gI]
  show (x++uG l)++ [10]=_;rw [List.append_assoc,this];simp [gI]
theorem Dc(B:Nat):∀ l:List Str,(∀ x∈l,x.length≤B)→total l≤(B+1)*l.length
 | [],_=>by simp [total]
 | x :: l,h=>by
  have:=Dc B l (fun y hy=>h y (List.mem_cons_of_mem _ hy));have hx:=h x List.mem_cons_self;rw [kI,List.length_cons,Nat.mul_succ];omega
theorem De(B:Nat):∀ l:List Str,(∀ x∈l,x.length≤B)→(gI l).length≤(B+1)*l.length
 | [],_=>by simp [gI]
 | x :: l,h=>by
  have:=De B l (fun y hy=>h y (List.mem_cons_of_mem _ hy));have hx:=h x List.mem_cons_self;have e:gI (x :: l)=x++ [10]++gI l:=rfl;rw [e,List.length_cons,Nat.mul_succ];simp only [List.length_append,List.length_cons,List.length_nil];omega
def mfF(t:TU):Str×Int:=if mayF 9 0 t=true then (if (16384:Int)< ((gI (fM 9 0 t)).length:Int) then ([],6) else (gI (fM 9 0 t),0)) else ([],1)
def mlF(t:TU):List Str:=if mayF 9 0 t=true then fM 9 0 t else []
theorem FJ(t:TU)(h:szP 13 t)(hc:cntF 13 t≤400):To (fun n=>M.jf n t) (mlF t):=by
 simp only [M.jf];refine To.bind (BG 9 0 13 t rfl (by decide) (.inl h)) ?_;unfold mlF;by_cases hm:mayF 9 0 t=true
 ·rw [if_pos hm];exact To.neg (by simp [hm]) (To.bind (Db 9 0 13 t [] rfl (by decide) hm h (by simp;omega)) To.pure)
 ·rw [if_neg hm];exact To.pos (by simpa using hm) To.pure
theorem Ea(t:TU)(h:szP 13 t)(hc:cntF 13 t≤400):To (fun n=>M.iJ n t) (mfF t):=by
 simp only [M.iJ];refine To.bind (FJ t h hc) ?_;unfold mlF mfF;by_cases hm:mayF 9 0 t=true
 ·have hlen:=xZ 9 0 13 t (by decide);have hb:=Dc 180500 _ (yY 9 0 13 t rfl (by decide) hm h);have hb2:=De 180500 _ (yY 9 0 13 t rfl (by decide) hm h);have hne:fM 9 0 t≠ []:=by simp [fM]
  have hne':(fM 9 0 t).length≠0:=fun e=>hne (List.eq_nil_of_length_eq_zero e);have hmul:(180500+1)*(fM 9 0 t).length≤(180500+1)*400:=Nat.mul_le_mul_left _ (by omega);have htj:=FI _ hne;have htl:(joinN (fM 9 0 t)).length+1=(gI (fM 9 0 t)).length:=by rw [←htj];simp
  rw [if_pos hm,if_pos hm];refine To.neg (by omega) (To.bindS (GD _ (by omega)) (To.bindS (a:=gI (fM 9 0 t)) ?_ ?_))
  ·rw [d9 (by simp;omega),htj]
  ·by_cases hl:(16384:Int)< ((gI (fM 9 0 t)).length:Int)
   ·exact To.pos hl (To.pure.of (if_pos hl).symm)
   ·exact To.neg hl (To.pure.of (if_neg hl).symm)
 ·rw [if_neg hm,if_neg hm];exact To.pos (by simp) To.pure
end Go.Proofs.YtalogjkalmkpjaaGreatDoor
/-
  Trees of units: how many, how deep, which are few, which are valid (picked by wip/scripts/pick.py).
-/
namespace Go.Proofs.YtalogjkalmkpjaaGreatDoor
open Go Go.Dec
theorem BI{u k:af}(h:k∈u.Kids):SizeOf.sizeOf k<SizeOf.sizeOf u:=by
 cases u;have:=List.sizeOf_lt_of_mem h;simp at this ⊢;omega
theorem uind{P:af→Prop}(h:∀ u,(∀ k,k∈u.Kids→P k)→P u)(u:af):P u:=
 h u (fun k hk=>uind h k)
termination_by SizeOf.sizeOf u
decreasing_by exact BI hk
def desc(u:af):List af:=u :: u.Kids.attach.flatMap (fun k=>desc k.1)
termination_by SizeOf.sizeOf u
decreasing_by exact BI k.2
theorem iC(u:af):desc u=u :: u.Kids.flatMap desc:=by
 rw [desc];congr 1;have:∀ l:List af,l.attach.flatMap (fun k=>desc k.1)=l.flatMap desc:=by
  intro l;rw [List.flatMap_def,List.flatMap_def];congr 1;rw [show (fun k:{x // x∈l}=>desc k.1)=desc ∘ Subtype.val from rfl,←List.map_map,List.attach_map_subtype_val]
 exact this _
def cnt(u:af):Nat:=(desc u).length
theorem qB(u:af):cnt u=1+(u.Kids.map cnt).sum:=by
 unfold cnt;rw [iC];simp [List.length_flatMap];omega
theorem rz(u:af):1≤cnt u:=by rw [qB];omega
theorem EK{α:Type}(f:α→Nat):∀ {l:List α} {x:α},x∈l→f x≤(l.map f).sum
 | y :: l,x,h=>by
  rcases List.mem_cons.1 h with rfl | h
  ·simp
  ·have:=EK f h;simp;omega
theorem EL{α:Type}(f:α→Nat)(h:∀ x,1≤f x):∀ l:List α,l.length≤(l.map f).sum
 | []=>by simp
 | x :: l=>by
  have:=EL f h l;have:=h x;simp;omega
theorem qp{u k:af}(h:k∈u.Kids):cnt k<cnt u:=by
 rw [qB u];have:=EK cnt h;omega
theorem wy(u:af):u.Kids.length<cnt u:=by
 rw [qB u];have:=EL cnt rz u.Kids;omega
theorem Af(u:af)(deep most:Int)(hd0:0≤deep)(hd:deep≤20)(hm0:0≤most)(hm:most≤1000000):∀ (xs:List af) (slf:Nat→af→Int→Int→Option Int) (i:Nat) (n0:Int),u.Kids.drop i=xs→
  (∀ k,k∈xs→∀ m:Int,0≤m→m≤1000000→∃ r,To (fun n=>slf n k (deep+1) m) r∧1≤r∧r≤m+1∧(r≤m→(cnt k:Int)≤r))→(i:Int)+1≤n0→n0≤most+1→
  ∃ r,To (fun n=>M.gZ u deep most (slf n) n n0 (i:Int)) r∧n0≤r∧r≤most+1∧(r≤most→n0+((xs.map cnt).sum:Nat)≤r)
 | [],slf,i,n0,hx,hs,h1,h2=>by
  refine ⟨n0,To.succ ?_,by omega,h2,fun h=>by simp⟩;simp only [M.gZ];refine To.bind (a:=false) (To.neg (gm hx) To.pure) ?_;exact To.neg (by simp) To.pure
 | x :: xs,slf,i,n0,hx,hs,h1,h2=>by
  by_cases hle:n0≤most
  ·obtain ⟨r1,ht1,hr1,hr2,hr3⟩:=hs x (by simp) (most-n0) (by omega) (by omega);have ih:=Af u deep most hd0 hd hm0 hm xs (fun n=>slf (n+1)) (i+1) (n0+r1) (fE hx) (fun k hk m a b=>by
    obtain ⟨r,h1,h2⟩:=hs k (by simp [hk]) m a b;exact ⟨r,h1.shift,h2⟩) (by omega) (by omega)
   obtain ⟨r,ht,q1,q2,q3⟩:=ih;refine ⟨r,To.succ ?_,by omega,q2,fun h=>?_⟩
   ·simp only [M.gZ];refine To.bind (a:=true) (To.pos (eQ hx) (To.pure.of (by simp [hle]))) ?_;refine To.pos rfl ?_;refine To.bindS (cZ hx) ?_;refine To.bindS (gp (by omega) (by omega)) ?_;refine To.bindS (iH (by omega) (by omega)) ?_;refine To.bind ht1.shift ?_;refine To.bindS (gp (by omega) (by omega)) ?_;refine To.bindS (dS (by omega)) ?_;exact ht
   ·have:=q3 h;have:=hr3 (by omega);simp only [List.map_cons,List.sum_cons];omega
  ·refine ⟨n0,To.succ ?_,by omega,h2,fun h=>by omega⟩;simp only [M.gZ];refine To.bind (a:=false) (To.pos (eQ hx) (To.pure.of (by simp;omega))) ?_;exact To.neg (by simp) To.pure
theorem Ia(u:af):∀ (deep most:Int),0≤deep→deep≤21→0≤most→most≤1000000→∃ r,To (fun n=>M.lW n u deep most) r∧1≤r∧r≤most+1∧(r≤most→(cnt u:Int)≤r):=by
 refine uind (P:=fun u=>∀ (deep most:Int),0≤deep→deep≤21→0≤most→most≤1000000→∃ r,To (fun n=>M.lW n u deep most) r∧1≤r∧r≤most+1∧(r≤most→(cnt u:Int)≤r)) ?_ u;intro u ih deep most h1 h2 h3 h4;by_cases hd:20<deep
 ·refine ⟨most+1,To.succ ?_,by omega,by omega,fun h=>by omega⟩;simp only [M.lW];refine To.pos hd (To.bindS (gp (by omega) (by omega)) To.pure)
 ·obtain ⟨r,ht,q1,q2,q3⟩:=Af u deep most h1 (by omega) h3 h4 u.Kids (fun n=>M.lW n) 0 1 rfl (fun k hk m a b=>ih k hk (deep+1) m (by omega) (by omega) a b) (by omega) (by omega);refine ⟨r,To.succ ?_,q1,q2,fun h=>?_⟩
  ·simp only [M.lW];refine To.neg hd (To.bind ht To.pure)
  ·rw [qB];have:=q3 h;omega
theorem Df(l:List aH):∃ b,To (fun n=>M.jI n l) b∧(b=true→l.length≤300):=by
 have loop:∀ (xs:List aH) (i:Nat),l.drop i=xs→∃ c:Unit ⊕ Bool,To (fun n=>M.dR l n (i:Int)) c∧(c= .inl ()∨c= .inr false):=by
  intro xs;induction xs with
  | nil=>
   intro i hx;refine ⟨.inl (),To.succ ?_,.inl rfl⟩;simp only [M.dR];exact To.neg (gm hx) To.pure
  | cons x xs ih=>
   intro i hx;by_cases h:100<x.Text.length
   ·refine ⟨.inr false,To.succ ?_,.inr rfl⟩;simp only [M.dR];exact To.pos (eQ hx) (To.bindS (cZ hx) (To.pos (by omega) To.pure))
   ·obtain ⟨c,h1,h2⟩:=ih (i+1) (fE hx);refine ⟨c,To.succ ?_,h2⟩;simp only [M.dR];rw [bZ];exact To.pos (eQ hx) (To.bindS (cZ hx) (To.neg (by omega) h1))
 obtain ⟨c,h1,h2⟩:=loop l 0 rfl;simp only [M.jI];rcases h2 with rfl | rfl
 ·exact ⟨_,To.bind h1 To.pure,fun h=>by have:=of_decide_eq_true h;omega⟩
 ·exact ⟨_,To.bind h1 To.pure,fun h=>by cases h⟩
theorem fZ(u:af):u∈desc u:=by rw [iC];simp
theorem oD{u k x:af}(hk:k∈u.Kids)(hx:x∈desc k):x∈desc u:=by
 rw [iC];exact List.mem_cons_of_mem _ (List.mem_flatMap.2 ⟨k,hk,hx⟩)
def labs(u:af):Prop:=∀ x,x∈desc u→x.Label.length≤5000∧x.Head.length≤5000∧x.Words.length≤5000
theorem GJ{u k:af}(h:labs u)(hk:k∈u.Kids):labs k:=fun x hx=>h x (oD hk hx)
theorem words06(u:af):∃ b,To (fun n=>M.fT n u) b∧(b=true→labs u):=by
 refine uind (P:=fun u=>∃ b,To (fun n=>M.fT n u) b∧(b=true→labs u)) ?_ u;intro u ih;have loop:∀ (xs:List af) (slf:Nat→af→Option Bool) (i:Nat),u.Kids.drop i=xs→(∀ k,k∈xs→∃ b,To (fun n=>slf n k) b∧(b=true→labs k))→
   To (fun n=>M.cO u (slf n) n (i:Int)) (.inr false)∨(To (fun n=>M.cO u (slf n) n (i:Int)) (.inl ())∧ ∀ k,k∈xs→labs k):=by
  intro xs;induction xs with
  | nil=>
   intro slf i hx hs;refine .inr ⟨To.succ ?_,fun k hk=>by cases hk⟩;simp only [M.cO];exact To.neg (gm hx) To.pure
  | cons x xs ih=>
   intro slf i hx hs;obtain ⟨b,hb,hl⟩:=hs x (by simp);cases b with
   | false=>
    refine .inl (To.succ ?_);simp only [M.cO];exact To.pos (eQ hx) (To.bindS (cZ hx) (To.bind hb.shift (To.pos rfl To.pure)))
   | true=>
    rcases ih (fun n=>slf (n+1)) (i+1) (fE hx) (fun k hk=>by
     obtain ⟨b,h1,h2⟩:=hs k (by simp [hk]);exact ⟨b,h1.shift,h2⟩) with h | ⟨h,hk⟩
    ·refine .inl (To.succ ?_);simp only [M.cO];refine To.pos (eQ hx) (To.bindS (cZ hx) (To.bind hb.shift (To.neg (by simp) ?_)));rw [bZ];exact h
    ·refine .inr ⟨To.succ ?_,fun k hk'=>?_⟩
     ·simp only [M.cO];refine To.pos (eQ hx) (To.bindS (cZ hx) (To.bind hb.shift (To.neg (by simp) ?_)));rw [bZ];exact h
     ·rcases List.mem_cons.1 hk' with rfl | hk'
      ·exact hl rfl
      ·exact hk k hk'
 by_cases hlab:30<u.Label.length
 ·refine ⟨false,To.succ ?_,fun h=>by cases h⟩;simp only [M.fT];exact To.bind (a:=true) (To.pos (by omega) To.pure) (To.pos rfl To.pure)
 ·obtain ⟨b1,k1,l1⟩:=Df u.Head;obtain ⟨b2,k2,l2⟩:=Df u.Words;have ha:To (fun n=>Option.bind (M.jI n u.Head) fun short=>if short=false then some true else Option.bind (M.jI n u.Words) fun short1=>some (!short1)) (!(b1 && b2)):=by
   refine To.bind k1 ?_;cases b1 with
   | false=>exact To.pos rfl To.pure
   | true=>exact To.neg (by simp) (To.bind k2 (To.pure.of (by simp)))
  cases hb:(b1 && b2) with
  | false=>
   rw [hb] at ha;refine ⟨false,To.succ ?_,fun h=>by cases h⟩;simp only [M.fT];exact To.bind (a:=true) (To.neg (by omega) ha) (To.pos rfl To.pure)
  | true=>
   rw [hb] at ha;rw [Bool.and_eq_true] at hb;have e1:=l1 hb.1;have e2:=l2 hb.2;rcases loop u.Kids (fun n=>M.fT n) 0 rfl ih with h | ⟨h,hk⟩
   ·refine ⟨false,To.succ ?_,fun h=>by cases h⟩;simp only [M.fT];exact To.bind (a:=false) (To.neg (by omega) ha) (To.neg (by simp) (To.bind h To.pure))
   ·refine ⟨true,To.succ ?_,fun _ x hx=>?_⟩
    ·simp only [M.fT];exact To.bind (a:=false) (To.neg (by omega) ha) (To.neg (by simp) (To.bind h To.pure))
    ·rw [iC] at hx;rcases List.mem_cons.1 hx with rfl | hx
     ·exact ⟨by omega,by omega,by omega⟩
     ·obtain ⟨k,h1,h2⟩:=List.mem_flatMap.1 hx;exact hk k h1 x h2
theorem dh{u k:af}(hk:k∈u.Kids):k∈desc u:=oD hk (fZ k)
theorem dZ{α:Type}{l:List α}{i:Nat}(h:i<l.length):idx l (i:Int)=some l[i]:=by rw [jX,List.getElem?_eq_getElem h]
def deep(u:af):Nat:=(u.Kids.attach.map (fun k=>1+deep k.1)).foldl max 0
termination_by SizeOf.sizeOf u
decreasing_by exact BI k.2
theorem BJ(u:af):deep u=(u.Kids.map (fun k=>1+deep k)).foldl max 0:=by
 rw [deep];congr 1;rw [show (fun k:{x // x∈u.Kids}=>1+deep k.1)=(fun k=>1+deep k) ∘ Subtype.val from rfl,←List.map_map,List.attach_map_subtype_val]
theorem Ah:∀ (l:List Nat) (a:Nat),a≤l.foldl max a∧ ∀ x,x∈l→x≤l.foldl max a
 | [],a=>⟨Nat.le_refl _,fun x h=>by cases h⟩
 | y :: l,a=>by
  obtain ⟨h1,h2⟩:=Ah l (max a y);refine ⟨by simp only [List.foldl_cons];omega,fun x hx=>?_⟩;rcases List.mem_cons.1 hx with rfl | hx
  ·simp only [List.foldl_cons];omega
  ·exact h2 x hx
theorem yZ{u k:af}(h:k∈u.Kids):deep k<deep u:=by
 rw [BJ u];have:=(Ah (u.Kids.map (fun k=>1+deep k)) 0).2 (1+deep k) (List.mem_map.2 ⟨k,h,rfl⟩);omega
theorem Ai{u k:af}(h:((desc u).map af.Id).Nodup)(hk:k∈u.Kids):((desc k).map af.Id).Nodup:=by
 rw [iC] at h;simp only [List.map_cons,List.nodup_cons] at h;have h2:=h.2;rw [List.map_flatMap] at h2;have:(u.Kids.map (fun k=>(desc k).map af.Id)).flatten.Nodup:=by rw [←List.flatMap_def];exact h2
 rw [List.Nodup,List.pairwise_flatten] at this;exact this.1 _ (List.mem_map.2 ⟨k,hk,rfl⟩)
theorem oF{u x y:af}(h:((desc u).map af.Id).Nodup)(hx:x∈desc u)(hy:y∈desc u)(he:x.Id=y.Id):x=y:=by
 have:∀ l:List af,(l.map af.Id).Nodup→x∈l→y∈l→x=y:=by
  intro l;induction l with
  | nil=>intro _ hx;cases hx
  | cons z l ih=>
   intro hn hx hy;simp only [List.map_cons,List.nodup_cons] at hn;rcases List.mem_cons.1 hx with e1 | m1
   ·rcases List.mem_cons.1 hy with e2 | m2
    ·rw [e1,e2]
    ·exact absurd (List.mem_map.2 ⟨y,m2,by rw [←he,e1]⟩) hn.1
   ·rcases List.mem_cons.1 hy with e2 | m2
    ·exact absurd (List.mem_map.2 ⟨x,m1,by rw [he,e2]⟩) hn.1
    ·exact ih hn.2 m1 m2
 exact this _ h hx hy
def idsOf(u:af):List au:=(desc u).map af.Id
theorem oW(u:af):(idsOf u).length=cnt u:=by simp [idsOf,cnt]
theorem every2(u:af):∀ c:List au,c.length+cnt u≤1000000→To (fun n=>M.iL n u c) (true,c++idsOf u):=by
 refine uind (P:=fun u=>∀ c:List au,c.length+cnt u≤1000000→To (fun n=>M.iL n u c) (true,c++idsOf u)) ?_ u;intro u ih c hc;have loop:∀ (xs:List af) (slf:Nat→af→List au→Option (Bool×List au)) (v:List au),(∀ k,k∈xs→∀ c:List au,c.length+cnt k≤1000000→To (fun n=>slf n k c) (true,c++idsOf k))→
   v.length+(xs.map cnt).sum≤1000000→To (fun n=>M.eY (slf n) xs v) (.inl (v++xs.flatMap idsOf)):=by
  intro xs;induction xs with
  | nil=>intro slf v _ _;simp only [M.eY];exact To.pure.of (by simp)
  | cons x xs ih=>
   intro slf v hs hv;simp only [List.map_cons,List.sum_cons] at hv;simp only [M.eY];refine To.bind (hs x (by simp) v (by omega)) ?_;dsimp only;refine To.neg (by simp) ?_;exact (ih slf _ (fun k hk=>hs k (by simp [hk])) (by rw [List.length_append,oW];omega)).of (by simp)
 have hk:(u.Kids.map cnt).sum+1=cnt u:=by rw [qB];omega
 refine To.succ ?_;simp only [M.iL];refine To.bindS (a:=(true,c++ [u.Id])) (by simp only [M.rO];rw [dL (by simp;omega),Option.bind_some]) ?_;dsimp only;refine To.neg (by simp) (To.bind (loop u.Kids (fun n=>M.iL n) (c++ [u.Id]) (fun k hk c h=>ih k hk c h) (by simp;omega)) ?_);dsimp only;refine To.pure.of ?_;have:idsOf u=u.Id :: u.Kids.flatMap idsOf:=by
  unfold idsOf;rw [iC,List.map_cons,List.map_flatMap]
 rw [this];simp
theorem Dg(u:af)(hc:cnt u≤10000):To (fun n=>M.sG n u) (idsOf u):=by
 simp only [M.sG];refine To.bind (every2 u [] (by simp;omega)) ?_;dsimp only;exact To.pure.of (by simp)
theorem every1(u:af):∀ c:Nat,c+cnt u≤1000000→To (fun n=>M.iK n u (c:Int)) (true,((c+cnt u:Nat):Int)):=by
 refine uind (P:=fun u=>∀ c:Nat,c+cnt u≤1000000→To (fun n=>M.iK n u (c:Int)) (true,((c+cnt u:Nat):Int))) ?_ u;intro u ih c hc;have loop:∀ (xs:List af) (slf:Nat→af→Int→Option (Bool×Int)) (v:Nat),(∀ k,k∈xs→∀ c:Nat,c+cnt k≤1000000→To (fun n=>slf n k (c:Int)) (true,((c+cnt k:Nat):Int)))→
   v+(xs.map cnt).sum≤1000000→To (fun n=>M.eX (slf n) xs (v:Int)) (.inl ((v+(xs.map cnt).sum:Nat):Int)):=by
  intro xs;induction xs with
  | nil=>intro slf v _ _;simp only [M.eX];exact To.pure.of (by simp)
  | cons x xs ih=>
   intro slf v hs hv;simp only [List.map_cons,List.sum_cons] at hv;simp only [M.eX];refine To.bind (hs x (by simp) v (by omega)) ?_;dsimp only;refine To.neg (by simp) ?_;refine (ih slf _ (fun k hk=>hs k (by simp [hk])) (by omega)).of ?_;simp only [List.map_cons,List.sum_cons];congr 2;omega
 have hk:(u.Kids.map cnt).sum+1=cnt u:=by rw [qB];omega
 refine To.succ ?_;simp only [M.iK];refine To.bindS (a:=(true,((c+1:Nat):Int))) (by simp only [M.oK];rw [dS (by omega),Option.bind_some]) ?_;dsimp only;refine To.neg (by simp) (To.bind (loop u.Kids (fun n=>M.iK n) (c+1) (fun k hk c h=>ih k hk c h) (by omega)) ?_);dsimp only;refine To.pure.of ?_;congr 2;omega
theorem x8(u:af)(hc:cnt u≤10000):To (fun n=>M.jV n u) (cnt u:Int):=by
 simp only [M.jV];refine To.bind (a:=(true,((0+cnt u:Nat):Int))) (every1 u 0 (by omega)) ?_;dsimp only;exact To.pure.of (by simp)
theorem Ib(u:af):cnt u≤1000000→deep u≤cnt u∧To (fun n=>M.kC n u) (deep u:Int):=by
 refine uind (P:=fun u=>cnt u≤1000000→deep u≤cnt u∧To (fun n=>M.kC n u) (deep u:Int)) ?_ u;intro u ih hc;have loop:∀ (xs:List af) (slf:Nat→af→Option Int) (d:Nat),(∀ k,k∈xs→deep k≤1000000∧To (fun n=>slf n k) (deep k:Int))→d≤1000001→
   To (fun n=>M.gU (slf n) xs (d:Int)) (((xs.map (fun k=>1+deep k)).foldl max d:Nat):Int):=by
  intro xs;induction xs with
  | nil=>intro slf d _ _;simp only [M.gU];exact To.pure.of (by simp)
  | cons x xs ih=>
   intro slf d hs hd;obtain ⟨h1,h2⟩:=hs x (by simp);simp only [M.gU];refine To.bind h2 (To.bindS (gp (by omega) (by omega)) ?_);have e:max (d:Int) (1+(deep x:Int))=((max d (1+deep x):Nat):Int):=by omega
   rw [e];exact (ih slf _ (fun k hk=>hs k (by simp [hk])) (by omega)).of (by simp)
 have hkd:∀ k,k∈u.Kids→deep k≤cnt k:=fun k hk=>(ih k hk (by have:=qp hk;omega)).1;refine ⟨?_,To.succ ?_⟩
 ·rw [BJ];have:∀ (l:List Nat) (a b:Nat),a≤b→(∀ x,x∈l→x≤b)→l.foldl max a≤b:=by
   intro l;induction l with
   | nil=>intro a b h _;exact h
   | cons x l ih=>intro a b h hx;exact ih _ _ (by have:=hx x (by simp);omega) fun y hy=>hx y (by simp [hy])
  refine this _ _ _ (Nat.zero_le _) fun x hx=>?_;obtain ⟨k,hk,rfl⟩:=List.mem_map.1 hx;have h1:=hkd k hk;have h2:=qp hk;omega
 ·simp only [M.kC];refine To.bind (a:=(deep u:Int)) ?_ To.pure;rw [BJ];exact loop u.Kids (fun n=>M.kC n) 0 (fun k hk=>⟨by have h1:=hkd k hk;have h2:=qp hk;omega,(ih k hk (by have:=qp hk;omega)).2⟩) (by omega)
theorem mM{α β:Type}[DecidableEq α](k:α)(v z:β):∀ (m:List (α×β)) (k':α),mget (mset m k v) k' z=if k'=k then v else mget m k' z
 | [],k'=>by
  by_cases h:k'=k<;> simp [mset,mget,h]
 | p :: m,k'=>by
  by_cases hp:k=p.1
  ·subst hp;by_cases h:k'=p.1<;> simp [mset,mget,h]
  ·by_cases h:k'=k
   ·subst h;simp [mset,mget,hp,mM]
   ·simp [mset,mget,hp,mM,h]
theorem y5{α β:Type}[DecidableEq α](k:α)(v:β):∀ m:List (α×β),(mset m k v).length≤m.length+1
 | []=>by simp [mset]
 | p :: m=>by
  have:=y5 k v m;simp only [mset];split<;> simp<;> omega
theorem FK(u:af)(hc:cnt u≤10000):Tot (fun n=>M.o9 n u):=by
 have loop:∀ (xs:List au) (v:List (au×Bool)),∃ w,M.ic xs v=some w∧w.length≤v.length+xs.length:=by
  intro xs;induction xs with
  | nil=>intro v;exact ⟨v,rfl,by simp⟩
  | cons x xs ih=>
   intro v;obtain ⟨w,h1,h2⟩:=ih (mset v x true);have:=y5 x true v;exact ⟨w,by simpa [M.ic] using h1,by simp only [List.length_cons];omega⟩
 obtain ⟨w,h1,h2⟩:=loop (idsOf u) [];have hl:=oW u;have hg:growC (w.length:Int)=some ():=by
  unfold growC;rw [if_pos];simp only [List.length_nil] at h2;omega
 simp only [M.o9];refine Tot.bind (Dg u hc).tot fun a ha=>?_;rw [ha.det (Dg u hc)];refine Tot.bindS h1 ?_;refine Tot.ite (fun _=>Tot.bindS hg (Tot.ite (fun _=>Tot.pure) fun _=>Tot.bindS hg (Tot.ite (fun _=>Tot.pure) fun _=>Tot.pure))) (fun _=>Tot.bindS hg (Tot.ite (fun _=>Tot.pure) fun _=>Tot.pure))
theorem Eb(l:List Int)(v:Int):To (fun n=>M.gQ n l v) (decide (v∈l)):=by
 have loop:∀ (xs:List Int) (i:Nat),l.drop i=xs→∃ r,To (fun n=>M.cz l v n (i:Int)) r∧((v∈xs∧ ∃ k:Nat,r= .inr (k:Int))∨(v ∉ xs∧r= .inl ())):=by
  intro xs;induction xs with
  | nil=>
   intro i hx;refine ⟨.inl (),To.succ ?_,.inr ⟨by simp,rfl⟩⟩;simp only [M.cz];exact To.neg (gm hx) To.pure
  | cons x xs ih=>
   intro i hx;by_cases hv:v=x
   ·refine ⟨.inr (i:Int),To.succ ?_,.inl ⟨by simp [hv],i,rfl⟩⟩;simp only [M.cz];exact To.pos (eQ hx) (To.bindS (cZ hx) (To.pos hv To.pure))
   ·obtain ⟨r,ht,hr⟩:=ih (i+1) (fE hx);refine ⟨r,To.succ ?_,by simpa [hv] using hr⟩;simp only [M.cz];rw [bZ];exact To.pos (eQ hx) (To.bindS (cZ hx) (To.neg hv ht))
 obtain ⟨r,ht,hr⟩:=loop l 0 rfl;simp only [M.gQ,M.jO];rcases hr with ⟨ha,k,rfl⟩ | ⟨ha,rfl⟩
 ·refine To.bind (a:=(k:Int)) (To.bind ht To.pure) (To.pure.of ?_);simp [ha]
 ·refine To.bind (a:=(-1:Int)) (To.bind ht To.pure) (To.pure.of ?_);simp [ha]
theorem IY(p k:Int):∃ b,To (fun n=>M.kL n p k) b∧(b=true→k≠0):=by
 simp only [M.kL];by_cases h0:0≤p
 ·by_cases h8:p<8
  ·obtain ⟨m,rfl⟩:∃ m:Nat,p=(m:Int):=⟨p.toNat,by omega⟩
   have hm:m=0∨m=1∨m=2∨m=3∨m=4∨m=5∨m=6∨m=7:=by omega
   have key:∃ l,idx gv4 (m:Int)=some l∧(0:Int) ∉ l:=by
    rcases hm with rfl | rfl | rfl | rfl | rfl | rfl | rfl | rfl<;> exact ⟨_,rfl,by decide⟩
   obtain ⟨l,hl,hn⟩:=key;refine ⟨decide (k∈l),To.pos h0 (To.pos h8 (To.bindS hl (To.bind (Eb l k) To.pure))),fun h=>?_⟩;have:=of_decide_eq_true h;intro e;rw [e] at this;exact hn this
  ·exact ⟨false,To.pos h0 (To.neg h8 To.pure),fun h=>by cases h⟩
 ·exact ⟨false,To.neg h0 To.pure,fun h=>by cases h⟩
theorem FL(k:Int):∃ s,M.gF k=some s∧(s≠ []→0≤k∧k≤7):=by
 simp only [M.gF];by_cases h0:k<0
 ·exact ⟨[],by rw [if_pos h0],fun h=>absurd rfl h⟩
 ·by_cases h8:8≤k
  ·exact ⟨[],by rw [if_neg h0,if_pos h8],fun h=>absurd rfl h⟩
  ·obtain ⟨m,rfl⟩:∃ m:Nat,k=(m:Int):=⟨k.toNat,by omega⟩
   have hm:m=0∨m=1∨m=2∨m=3∨m=4∨m=5∨m=6∨m=7:=by omega
   have key:∃ s,idx gv2 (m:Int)=some s:=by
    rcases hm with rfl | rfl | rfl | rfl | rfl | rfl | rfl | rfl<;> exact ⟨_,rfl⟩
   obtain ⟨s,hs⟩:=key;exact ⟨s,by rw [if_neg h0,if_neg h8,hs];rfl,fun _=>⟨by omega,by omega⟩⟩
theorem y7(u:af):∀ (xs pre:List af) (v:List (bO×Bool)),(∀ k,mget v k false=pre.any fun y=>decide (k=(⟨y.Kind,y.Label⟩:bO)))→
  ∃ r,To (fun n=>M.gT n u xs v) r∧(r= .inr false∨((∃ p,r= .inl p)∧(∀ k,k∈xs→k.Kind≠0)∧(∀ k,k∈xs→∀ y,y∈pre→¬ (y.Kind=k.Kind∧y.Label=k.Label))∧xs.Pairwise (fun a b=>¬ (a.Kind=b.Kind∧a.Label=b.Label))))
 | [],pre,v,_=>⟨.inl v,by simp only [M.gT];exact To.pure,.inr ⟨⟨v,rfl⟩,fun k hk=>(by cases hk),fun k hk=>(by cases hk),List.Pairwise.nil⟩⟩
 | x :: xs,pre,v,h=>by
  obtain ⟨b,hb,hb0⟩:=IY u.Kind x.Kind;simp only [M.gT];cases b with
  | false=>exact ⟨.inr false,To.bind hb (To.pos rfl To.pure),.inl rfl⟩
  | true=>
   by_cases hx:mget v (⟨x.Kind,x.Label⟩:bO) false=true
   ·exact ⟨.inr false,To.bind hb (To.neg (by simp) (To.pos hx To.pure)),.inl rfl⟩
   ·have h2:∀ k,mget (mset v (⟨x.Kind,x.Label⟩:bO) true) k false=(pre++ [x]).any fun y=>decide (k=(⟨y.Kind,y.Label⟩:bO)):=fun k=>by
     rw [mM,h,List.any_append];by_cases hk:k=(⟨x.Kind,x.Label⟩:bO)<;> simp [hk]
    obtain ⟨r,hr,hc⟩:=y7 u xs (pre++ [x]) _ h2;refine ⟨r,To.bind hb (To.neg (by simp) (To.neg hx hr)),hc.imp id fun ⟨h3,h4,h5,h6⟩=>⟨h3,fun k hk=>?_,fun k hk y hy=>?_,List.pairwise_cons.2 ⟨fun k hk=>h5 k hk x (by simp),h6⟩⟩⟩
    ·rcases List.mem_cons.1 hk with rfl | hk
     ·exact hb0 rfl
     ·exact h4 k hk
    ·rcases List.mem_cons.1 hk with rfl | hk
     ·rintro ⟨e1,e2⟩;apply hx;rw [h,List.any_eq_true];exact ⟨y,hy,by rw [e1,e2];simp⟩
     ·exact h5 k hk y (by simp [hy])
end Go.Proofs.YtalogjkalmkpjaaGreatDoor
/-
  Valid units: rows, labels, kinds; maps that are filled from lists.
-/
namespace Go.Proofs.YtalogjkalmkpjaaGreatDoor
open Go Go.Dec
def uZ(u:af):Prop:=u.Head.length≤256∧u.Words.length≤256
def tN(u:af):Prop:=uZ u∧(u.Kind=0→u.Label= [])∧(u.Kind≠0→u.Label≠ [])∧ ∀ k,k∈u.Kids→k.Kind≠0
theorem Iw(l:List aH)(hl:l.length≤100000):∃ b,To (fun n=>M.oh n l) b∧(b=true→l.length≤256):=by
 have loop:∀ (xs:List aH) (ts:List Str),ts.length+xs.length≤100000→∃ r,M.jB xs ts=some r:=by
  intro xs;induction xs with
  | nil=>intro ts _;exact ⟨ts,rfl⟩
  | cons x xs ih=>
   intro ts h;simp only [List.length_cons] at h;simp only [M.jB];rw [dL (by simp;omega),Option.bind_some];exact ih _ (by simp;omega)
 obtain ⟨r,hr⟩:=loop l [] (by simpa using hl);simp only [M.oh];by_cases h:(l.length:Int)≤256
 ·exact ⟨_,To.bindS hr (To.pos h (To.bind (EC r) To.pure)),fun _=>by omega⟩
 ·exact ⟨false,To.bindS hr (To.neg h To.pure),fun h=>by cases h⟩
theorem Ic(u:af)(hl:u.Label.length≤5000∧u.Head.length≤5000∧u.Words.length≤5000):∃ b,To (fun n=>M.o8 n u) b∧(b=true→tN u):=by
 obtain ⟨l1,l2,l3⟩:=hl;obtain ⟨r,hr,hc⟩:=y7 u u.Kids [] [] (fun k=>by simp [mget])
 -- what comes first
 have first:∃ c:Unit ⊕ Bool,To (fun n=>(if u.Kind=(0:Int) then (if (u.Label !=([]:Str))=true then some (.inr false) else Option.bind (addC (u.Head.length:Int) (u.Words.length:Int)) fun v=>if (0:Int)< v then some (.inr false) else some (.inl ()))
   else Option.bind (M.gF u.Kind) fun kindna=>if (kindna==([]:Str))=true then some (.inr false) else Option.bind (M.ko n u.Label) fun valid=>if valid=false then some (.inr false) else
    Option.bind (M.oh n u.Head) fun row=>if row=false then some (.inr false) else Option.bind (M.oh n u.Words) fun row1=>if row1=false then some (.inr false) else some (.inl ()):Option (Unit ⊕ Bool))) c∧
   (c= .inr false∨(c= .inl ()∧uZ u∧(u.Kind=0→u.Label= [])∧(u.Kind≠0→u.Label≠ []))):=by
  by_cases h0:u.Kind=0
  ·by_cases hlb:u.Label= []
   ·by_cases hw:(0:Int)< (u.Head.length:Int)+(u.Words.length:Int)
    ·exact ⟨.inr false,To.pos h0 (To.neg (by simp [hlb]) (To.bindS (gp (by omega) (by omega)) (To.pos hw To.pure))),.inl rfl⟩
    ·exact ⟨.inl (),To.pos h0 (To.neg (by simp [hlb]) (To.bindS (gp (by omega) (by omega)) (To.neg hw To.pure))),.inr ⟨rfl,⟨by omega,by omega⟩,fun _=>hlb,fun h=>absurd h0 h⟩⟩
   ·exact ⟨.inr false,To.pos h0 (To.pos (by simp [hlb]) To.pure),.inl rfl⟩
  ·obtain ⟨s,hs,hs0⟩:=FL u.Kind;by_cases hse:s= []
   ·exact ⟨.inr false,To.neg h0 (To.bindS hs (To.pos (by simp [hse]) To.pure)),.inl rfl⟩
   ·cases hlab:oC u.Label with
    | false=>
     have hlo:=wo u.Label;rw [hlab] at hlo;exact ⟨.inr false,To.neg h0 (To.bindS hs (To.neg (by simp [hse]) (To.bind hlo (To.pos rfl To.pure)))),.inl rfl⟩
    | true=>
     have hlo:=wo u.Label;rw [hlab] at hlo;obtain ⟨a,ha,ha2⟩:=Iw u.Head (by omega);obtain ⟨b,hb,hb2⟩:=Iw u.Words (by omega);cases a with
     | false=>exact ⟨.inr false,To.neg h0 (To.bindS hs (To.neg (by simp [hse]) (To.bind hlo (To.neg (by simp) (To.bind ha (To.pos rfl To.pure)))))),.inl rfl⟩
     | true=>
      cases b with
      | false=>exact ⟨.inr false,To.neg h0 (To.bindS hs (To.neg (by simp [hse]) (To.bind hlo (To.neg (by simp) (To.bind ha (To.neg (by simp) (To.bind hb (To.pos rfl To.pure)))))))),.inl rfl⟩
      | true=>exact ⟨.inl (),To.neg h0 (To.bindS hs (To.neg (by simp [hse]) (To.bind hlo (To.neg (by simp) (To.bind ha (To.neg (by simp) (To.bind hb (To.neg (by simp) To.pure)))))))),.inr ⟨rfl,⟨ha2 rfl,hb2 rfl⟩,fun h=>absurd h h0,fun _ e=>by rw [e] at hlab;exact absurd hlab (by decide)⟩⟩
 obtain ⟨c,hcT,hcc⟩:=first
 simp only [M.o8];rcases hcc with rfl | ⟨rfl,hk⟩
 ·exact ⟨false,To.bind hcT To.pure,fun h=>by cases h⟩
 ·rcases hc with rfl | ⟨⟨p,rfl⟩,h4,_,h6⟩
  ·exact ⟨false,To.bind hcT (To.bind hr To.pure),fun h=>by cases h⟩
  ·exact ⟨decide ((u.Kids.length:Int)≤64),To.bind hcT (To.bind hr To.pure),fun _=>⟨hk.1,hk.2.1,hk.2.2,h4⟩⟩
theorem every0(u:af):labs u→∃ b,To (fun n=>M.gG n u) b∧(b=true→∀ x,x∈desc u→tN x):=by
 refine uind (P:=fun u=>labs u→∃ b,To (fun n=>M.gG n u) b∧(b=true→∀ x,x∈desc u→tN x)) ?_ u;intro u ih hl;obtain ⟨a,ha,hf⟩:=Ic u (hl u (fZ u));have loop:∀ (xs:List af) (slf:Nat→af→Option Bool),(∀ k,k∈xs→∃ b,To (fun n=>slf n k) b∧(b=true→∀ x,x∈desc k→tN x))→
   ∃ r,To (fun n=>M.eU (slf n) xs) r∧(r= .inr false∨(r= .inl ()∧ ∀ k,k∈xs→∀ x,x∈desc k→tN x)):=by
  intro xs;induction xs with
  | nil=>intro slf _;exact ⟨.inl (),by simp only [M.eU];exact To.pure,.inr ⟨rfl,fun k hk=>by cases hk⟩⟩
  | cons x xs ih=>
   intro slf hs;obtain ⟨b,hb,hbf⟩:=hs x (by simp);simp only [M.eU];cases b with
   | false=>exact ⟨.inr false,To.bind hb (To.pos rfl To.pure),.inl rfl⟩
   | true=>
    obtain ⟨r,hr,hc⟩:=ih slf fun k hk=>hs k (by simp [hk]);refine ⟨r,To.bind hb (To.neg (by simp) hr),hc.imp id fun ⟨h1,h2⟩=>⟨h1,fun k hk=>?_⟩⟩;rcases List.mem_cons.1 hk with rfl | hk
    ·exact hbf rfl
    ·exact h2 k hk
 obtain ⟨r,hr,hc⟩:=loop u.Kids (fun n=>M.gG n) fun k hk=>ih k hk (GJ hl hk);cases a with
 | false=>
  refine ⟨false,To.succ ?_,fun h=>by cases h⟩;simp only [M.gG];exact To.bind ha (To.pos rfl To.pure)
 | true=>
  rcases hc with rfl | ⟨rfl,h2⟩
  ·refine ⟨false,To.succ ?_,fun h=>by cases h⟩;simp only [M.gG];exact To.bind ha (To.neg (by simp) (To.bind hr To.pure))
  ·refine ⟨true,To.succ ?_,fun _ x hx=>?_⟩
   ·simp only [M.gG];exact To.bind ha (To.neg (by simp) (To.bind hr To.pure))
   ·rw [iC] at hx;rcases List.mem_cons.1 hx with rfl | hx
    ·exact hf rfl
    ·obtain ⟨k,hk,hxk⟩:=List.mem_flatMap.1 hx;exact h2 k hk x hxk
section
variable {τ α β:Type} [DecidableEq α]
def fillS(f:τ→α)(g:τ→β)(l:List τ)(m:List (α×β)):List (α×β):=l.foldl (fun m x=>mset m (f x) (g x)) m
theorem Aj(f:τ→α)(g:τ→β)(l l':List τ)(m:List (α×β)):fillS f g (l++l') m=fillS f g l' (fillS f g l m):=List.foldl_append
theorem xg(f:τ→α)(g:τ→β):∀ (l:List τ) (m:List (α×β)),(fillS f g l m).length≤m.length+l.length
 | [],m=>by simp [fillS]
 | x :: l,m=>by
  have h1:=xg f g l (mset m (f x) (g x));have h2:=y5 (f x) (g x) m;show (fillS f g l (mset m (f x) (g x))).length≤_;simp only [List.length_cons];omega
theorem wz{k:α}{v:β}:∀ {m:List (α×β)},mhas m k=true→(mset m k v).length=m.length
 | [],h=>by simp [mhas] at h
 | p :: m,h=>by
  simp only [mhas] at h;by_cases hp:k=p.1
  ·simp [mset,hp]
  ·rw [if_neg hp] at h;simp only [mset,if_neg hp,List.length_cons,wz h]
theorem rW(f:τ→α)(g:τ→β):∀ (l:List τ) (m:List (α×β)),(m.map Prod.fst).Nodup→(fillS f g l m).length=m.length+l.length→fillS f g l m=m++l.map (fun x=>(f x,g x))∧((m++l.map (fun x=>(f x,g x))).map Prod.fst).Nodup
 | [],m,hn,_=>by simp [fillS,hn]
 | x :: l,m,hn,h=>by
  have h1:=xg f g l (mset m (f x) (g x));have e:fillS f g (x :: l) m=fillS f g l (mset m (f x) (g x)):=rfl;rw [e] at h ⊢;simp only [List.length_cons] at h;cases hx:mhas m (f x) with
  | true=>rw [wz hx] at h1;omega
  | false=>
   have e2:=jb (v:=g x) hx;have hk:=(j4 (f x) (g x) m hn).1;rw [e2] at h hk ⊢;obtain ⟨h2,h3⟩:=rW f g l (m++ [(f x,g x)]) hk (by rw [h];simp;omega);rw [h2];simp only [List.append_assoc,List.singleton_append,List.map_cons] at h3 ⊢;exact ⟨trivial,h3⟩
theorem wB{k:α}{v z:β}:∀ {m:List (α×β)},(m.map Prod.fst).Nodup→(k,v)∈m→mget m k z=v∧mhas m k=true
 | [],_,h=>by cases h
 | p :: m,hn,h=>by
  rw [List.map_cons,List.nodup_cons] at hn;rcases List.mem_cons.1 h with rfl | h
  ·simp [mget,mhas]
  ·have hne:k≠p.1:=fun e=>hn.1 (by rw [←e];exact List.mem_map_of_mem (f:=Prod.fst) h);obtain ⟨h1,h2⟩:=wB (z:=z) hn.2 h;exact ⟨by simp [mget,hne,h1],by simp [mhas,hne,h2]⟩
theorem Ec{k:α}{m:List (α×β)}(h:k ∉ m.map Prod.fst):mhas m k=false:=by
 cases hh:mhas m k with
 | false=>rfl
 | true=>exact absurd ((jM k m).1 hh) h
theorem wC(f:τ→α)(g:τ→β):∀ (l:List τ) (m:List (α×β)),(l.map f).Nodup→(∀ x∈l,f x ∉ m.map Prod.fst)→(fillS f g l m).length=m.length+l.length
 | [],m,_,_=>by simp [fillS]
 | x :: l,m,hn,hm=>by
  rw [List.map_cons,List.nodup_cons] at hn;have e:mset m (f x) (g x)=m++ [(f x,g x)]:=jb (Ec (hm x List.mem_cons_self));have h:=wC f g l (mset m (f x) (g x)) hn.2 (fun y hy hc=>by
   rw [e,List.map_append,List.mem_append] at hc;rcases hc with hc | hc
   ·exact hm y (List.mem_cons_of_mem _ hy) hc
   ·simp at hc;exact hn.1 (by rw [←hc];exact List.mem_map_of_mem hy))
  show (fillS f g l (mset m (f x) (g x))).length=_;rw [h,e];simp;omega
theorem qC(f:τ→α)(y:α):∀ (xs:List τ) (m:List (α×Bool)),mget (fillS f (fun _=>true) xs m) y false=true→mget m y false=true∨y∈xs.map f
 | [],m,h=>.inl h
 | x :: xs,m,h=>by
  rcases qC f y xs (mset m (f x) true) h with h | h
  ·rw [mM] at h;by_cases hy:y=f x
   ·exact .inr (by rw [hy];simp)
   ·rw [if_neg hy] at h;exact .inl h
  ·exact .inr (List.mem_cons_of_mem _ h)
end
theorem Jh(u:af)(hc:cnt u≤10000)(hn:(idsOf u).Nodup)(h0:u.Kind=0):∃ b,To (fun n=>M.o9 n u) b∧(b=true→u.Id=cu):=by
 have loop:∀ (xs:List au) (v:List (au×Bool)),M.ic xs v=some (fillS id (fun _=>true) xs v):=by
  intro xs;induction xs with
  | nil=>intro v;rfl
  | cons x xs ih=>intro v;simp only [M.ic];exact ih _
 have hlen:(fillS id (fun _=>true) (idsOf u) ([]:List (au×Bool))).length=cnt u:=by
  rw [wC id (fun _=>true) (idsOf u) [] (by simpa using hn) (by simp)];simp [oW]
 have hg:growC ((fillS id (fun _=>true) (idsOf u) ([]:List (au×Bool))).length:Int)=some ():=by
  unfold growC;rw [if_pos];omega
 have hi:u.Id∈idsOf u:=List.mem_map_of_mem (fZ u);have last:To (fun (_:Nat)=>some ((decide (u.Kind=(0:Int)))==(decide (u.Id=(⟨(0:Int),(0:Int),(0:Int)⟩:au))))) (decide (u.Id=cu)):=To.pure.of (by by_cases hz:u.Id=(⟨(0:Int),(0:Int),(0:Int)⟩:au)<;> simp [h0,hz,cu]);simp only [M.o9];by_cases hz:mget (fillS id (fun _=>true) (idsOf u) ([]:List (au×Bool))) (⟨(0:Int),(0:Int),(0:Int)⟩:au) false=true
 ·by_cases h1:((fillS id (fun _=>true) (idsOf u) ([]:List (au×Bool))).length:Int)=1
  ·refine ⟨true,To.bind (Dg u hc) (To.bindS (loop _ _) (To.pos hz (To.bindS hg (To.pos h1 To.pure)))),fun _=>?_⟩;have hl1:(idsOf u).length=1:=by rw [oW];omega
   obtain ⟨x,hx⟩:=List.length_eq_one_iff.1 hl1;have hm:=qC id _ _ [] hz;rcases hm with hm | hm
   ·simp [mget] at hm
   ·rw [hx] at hi hm;simp at hi hm;rw [hi,←hm];rfl
  ·refine ⟨_,To.bind (Dg u hc) (To.bindS (loop _ _) (To.pos hz (To.bindS hg (To.neg h1 (To.bindS hg (To.pos (by rw [hlen,oW]) last)))))),fun h=>of_decide_eq_true h⟩
 ·refine ⟨_,To.bind (Dg u hc) (To.bindS (loop _ _) (To.neg hz (To.bindS hg (To.pos (by rw [hlen,oW]) last)))),fun h=>of_decide_eq_true h⟩
theorem EM(u:af)(hc:cnt u≤10000)(hl:labs u):∃ b,To (fun n=>M.ig n u) b∧(b=true→(∀ x,x∈desc u→tN x)∧deep u≤8∧((idsOf u).Nodup→u.Kind=0→u.Id=cu)):=by
 obtain ⟨a,ha,hf⟩:=every0 u hl;have hd:=(Ib u (by omega)).2;have hn:=x8 u hc;obtain ⟨i,hi⟩:=FK u hc;simp only [M.ig];cases a with
 | false=>exact ⟨false,To.bind ha (To.neg (by simp) To.pure),fun h=>by cases h⟩
 | true=>
  by_cases h8:(deep u:Int)≤8
  ·by_cases h9:(cnt u:Int)≤1024
   ·refine ⟨i,To.bind ha (To.pos rfl (To.bind hd (To.pos h8 (To.bind hn (To.pos h9 (To.bind hi To.pure)))))),fun hit=>⟨hf rfl,by omega,fun hnd h0=>?_⟩⟩;obtain ⟨b,hb,hb2⟩:=Jh u hc hnd h0;exact hb2 ((hb.det hi).trans hit)
   ·exact ⟨false,To.bind ha (To.pos rfl (To.bind hd (To.pos h8 (To.bind hn (To.neg h9 To.pure))))),fun h=>by cases h⟩
  ·exact ⟨false,To.bind ha (To.pos rfl (To.bind hd (To.neg h8 To.pure))),fun h=>by cases h⟩
def allU(u:af):List (au×af):=fillS af.Id id (desc u) []
theorem Dh(u:af):∀ m:List (au×af),To (fun n=>M.fO n u m) (fillS af.Id id (desc u) m):=by
 refine uind (P:=fun u=>∀ m:List (au×af),To (fun n=>M.fO n u m) (fillS af.Id id (desc u) m)) ?_ u;intro u ih m;have loop:∀ (xs:List af) (F:Nat→af→List (au×af)→Option (List (au×af))) (m:List (au×af)),(∀ x∈xs,∀ m,To (fun n=>F n x m) (fillS af.Id id (desc x) m))→
   To (fun n=>M.eZ (F n) xs m) (fillS af.Id id (xs.flatMap desc) m):=by
  intro xs;induction xs with
  | nil=>intro F m _;simp only [M.eZ];exact To.pure
  | cons x xs ih=>
   intro F m h;simp only [M.eZ];refine To.bind (h x List.mem_cons_self m) ((ih F _ (fun y hy=>h y (List.mem_cons_of_mem _ hy))).of ?_);rw [List.flatMap_cons,Aj]
 refine To.succ ?_;simp only [M.fO];refine To.bind (loop u.Kids (fun n=>M.fO n) _ (fun x hx=>ih x hx)) (To.pure.of ?_);rw [iC];rfl
theorem Di(u:af):(allU u).length≤cnt u:=by
 have:=xg af.Id id (desc u) [];simpa [allU,cnt] using this
theorem tT{u:af}(h:(allU u).length=cnt u):(idsOf u).Nodup∧ ∀ x∈desc u,mget (allU u) x.Id aB=x∧mhas (allU u) x.Id=true:=by
 obtain ⟨h1,h2⟩:=rW af.Id id (desc u) [] List.nodup_nil (by simpa [allU,cnt] using h);rw [List.nil_append] at h1 h2;have e:allU u=(desc u).map (fun x=>(x.Id,x)):=h1;refine ⟨?_,fun x hx=>?_⟩
 ·rw [List.map_map] at h2;exact h2
 ·rw [e];exact wB h2 (List.mem_map.2 ⟨x,hx,rfl⟩)
def plF:Nat→af→List (af×au×Int)
 | 0,_=>[]
 | k+1,u=>u.Kids.zipIdx.flatMap fun p=>(p.1,u.Id,(p.2:Int)) :: plF k p.1
def plA(u:af):List (af×au×Int):=(u,cu,0) :: plF (cnt u) u
def plS(l:List (af×au×Int))(m:List (au×aC)):List (au×aC):=fillS (fun p=>p.1.Id) (fun p=>(⟨p.2.1,p.2.2,p.1⟩:aC)) l m
theorem Ak:∀ (k:Nat) (u:af),cnt u≤k→(plF k u).map Prod.fst=u.Kids.flatMap desc
 | 0,u,h=>by have:=rz u;omega
 | k+1,u,h=>by
  have go:∀ (xs:List af) (i:Nat),(∀ x∈xs,x∈u.Kids)→((xs.zipIdx i).flatMap fun p=>(p.1,u.Id,(p.2:Int)) :: plF k p.1).map Prod.fst=xs.flatMap desc:=by
   intro xs;induction xs with
   | nil=>intro i _;rfl
   | cons x xs ih=>
    intro i hx;have h1:=Ak k x (by have:=qp (hx x List.mem_cons_self);omega);rw [List.zipIdx_cons,List.flatMap_cons,List.map_append,List.map_cons,ih (i+1) (fun y hy=>hx y (List.mem_cons_of_mem _ hy)),List.flatMap_cons,h1,iC x]
  unfold plF;exact go u.Kids 0 (fun x hx=>hx)
theorem rA(u:af):(plA u).map Prod.fst=desc u:=by
 unfold plA;rw [List.map_cons,Ak _ _ (Nat.le_refl _),iC]
theorem EN(u:af):(plA u).length=cnt u:=by
 have:=congrArg List.length (rA u);rwa [List.length_map] at this
theorem EO:∀ (k:Nat) (u x c:af) (i:Nat),cnt u≤k→x∈desc u→x.Kids[i]? =some c→(c,x.Id,(i:Int))∈plF k u
 | 0,u,_,_,_,h,_,_=>by have:=rz u;omega
 | k+1,u,x,c,i,h,hx,hc=>by
  unfold plF;rw [iC] at hx;rcases List.mem_cons.1 hx with rfl | hx
  ·refine List.mem_flatMap.2 ⟨(c,i),?_,List.mem_cons_self⟩;rw [List.mem_zipIdx_iff_getElem?];exact hc
  ·obtain ⟨y,hy,hxy⟩:=List.mem_flatMap.1 hx;obtain ⟨j,hj⟩:=List.getElem?_of_mem hy;have:=EO k y x c i (by have:=qp hy;omega) hxy hc;refine List.mem_flatMap.2 ⟨(y,j),?_,List.mem_cons_of_mem _ this⟩;rw [List.mem_zipIdx_iff_getElem?];exact hj
theorem y8:∀ (k:Nat) (u:af) (m:List (au×aC)),cnt u≤k→To (fun n=>M.jh n u m) (plS (plF k u) m)
 | 0,u,_,h=>by have:=rz u;omega
 | k+1,u,m,h=>by
  have loop:∀ (xs:List af) (F:Nat→af→List (au×aC)→Option (List (au×aC))) (i:Nat) (m:List (au×aC)),(∀ x∈xs,∀ m,To (fun n=>F n x m) (plS (plF k x) m))→
    To (fun n=>M.fe u (F n) xs (i:Int) m) (plS ((xs.zipIdx i).flatMap fun p=>(p.1,u.Id,(p.2:Int)) :: plF k p.1) m):=by
   intro xs;induction xs with
   | nil=>intro F i m _;simp only [M.fe];exact To.pure
   | cons x xs ih=>
    intro F i m hF;simp only [M.fe];refine To.bind (hF x List.mem_cons_self _) ?_;rw [bZ];refine (ih F (i+1) _ (fun y hy=>hF y (List.mem_cons_of_mem _ hy))).of ?_;rw [List.zipIdx_cons,List.flatMap_cons];unfold plS;rw [Aj];rfl
  refine To.succ ?_;simp only [M.jh];exact To.bind (loop u.Kids (fun n=>M.jh n) 0 m (fun x hx m=>y8 k x m (by have:=qp hx;omega))) To.pure
def allP(u:af):List (au×aC):=plS (plA u) []
theorem xh(u:af):To (fun n=>M.lC n u) (allP u):=by
 simp only [M.lC];exact To.bind (y8 (cnt u) u _ (Nat.le_refl _)) To.pure
theorem x9{u:af}(h:(allP u).length=cnt u):allP u=(plA u).map (fun p=>(p.1.Id,(⟨p.2.1,p.2.2,p.1⟩:aC)))∧((allP u).map Prod.fst).Nodup:=by
 obtain ⟨h1,h2⟩:=rW (fun p:af×au×Int=>p.1.Id) (fun p=>(⟨p.2.1,p.2.2,p.1⟩:aC)) (plA u) [] List.nodup_nil (by rw [EN];simpa [allP,plS] using h);rw [List.nil_append] at h1 h2;have e:allP u=(plA u).map (fun p=>(p.1.Id,(⟨p.2.1,p.2.2,p.1⟩:aC))):=h1;exact ⟨e,by rw [e];exact h2⟩
theorem tV{u:af}(h:(allP u).length=cnt u){x c:af}{i:Nat}(hx:x∈desc u)(hc:x.Kids[i]? =some c):mget (allP u) c.Id aY=⟨x.Id,(i:Int),c⟩∧mhas (allP u) c.Id=true:=by
 obtain ⟨e,hn⟩:=x9 h;refine wB hn ?_;rw [e];exact List.mem_map.2 ⟨(c,x.Id,(i:Int)),List.mem_cons_of_mem _ (EO _ _ _ _ _ (Nat.le_refl _) hx hc),rfl⟩
theorem GK{u:af}(h:(allP u).length=cnt u){x:af}(hx:x∈desc u):mhas (allP u) x.Id=true:=by
 obtain ⟨e,hn⟩:=x9 h;rw [jM,e,List.map_map];rw [←rA u] at hx;obtain ⟨p,hp,rfl⟩:=List.mem_map.1 hx;exact List.mem_map.2 ⟨p,hp,rfl⟩
theorem y9{n:Nat}(h:n≤100000):growC (n:Int)=some ():=by
 unfold growC;rw [if_pos (by omega)]
end Go.Proofs.YtalogjkalmkpjaaGreatDoor
/-
  Longest rising rows of 0, 1, 2 ..: all of it. Longest common subsequences: the table of lengths.
-/
namespace Go.Proofs.YtalogjkalmkpjaaGreatDoor
open Go Go.Dec
theorem Dj{α:Type}{l:List α}{i:Nat}(h:i<l.length)(x:α):setC l (i:Int) x=some (l.set i x):=by
 unfold setC;rw [if_pos (by omega),Int.toNat_natCast]
end Go.Proofs.YtalogjkalmkpjaaGreatDoor
/-
  Longest common subsequences: the table of lengths, and the pairs of a row with itself.
-/
namespace Go.Proofs.YtalogjkalmkpjaaGreatDoor
open Go Go.Dec
def lcF:List Str→List Str→Nat
 | [],_=>0
 | _ :: _,[]=>0
 | x :: a,y :: b=>max (max (lcF a (y :: b)) (lcF (x :: a) b)) (if x=y then lcF a b+1 else 0)
termination_by a b=>a.length+b.length
theorem Ie(a:List Str):lcF a []=0:=by
 cases a<;> simp [lcF]
theorem Dk(x y:Str)(a b:List Str):lcF (x :: a) (y :: b)=max (max (lcF a (y :: b)) (lcF (x :: a) b)) (if x=y then lcF a b+1 else 0):=by rw [lcF]
theorem BK:∀ (a b:List Str),lcF a b≤a.length∧lcF a b≤b.length
 | [],b=>by simp [lcF]
 | x :: a,[]=>by simp [lcF]
 | x :: a,y :: b=>by
  have h1:=BK a (y :: b);have h2:=BK (x :: a) b;have h3:=BK a b;rw [Dk];simp only [List.length_cons] at *;split<;> omega
termination_by a b=>a.length+b.length
def lcT(a b:List Str)(i k:Nat):Nat:=lcF (a.drop i) (b.drop k)
theorem BL(a b:List Str)(i:Nat):lcT a b i b.length=0:=by unfold lcT;rw [List.drop_length,Ie]
theorem BM(a b:List Str)(k:Nat):lcT a b a.length k=0:=by unfold lcT;rw [List.drop_length,lcF]
theorem Dl{a b:List Str}{i k:Nat}{x y:Str}(hx:a[i]? =some x)(hy:b[k]? =some y):lcT a b i k=max (max (lcT a b (i+1) k) (lcT a b i (k+1))) (if x=y then lcT a b (i+1) (k+1)+1 else 0):=by
 obtain ⟨hi,rfl⟩:=List.getElem?_eq_some_iff.1 hx;obtain ⟨hk,rfl⟩:=List.getElem?_eq_some_iff.1 hy;unfold lcT;rw [List.drop_eq_getElem_cons hi,List.drop_eq_getElem_cons hk,Dk]
theorem GL(a b:List Str)(i k:Nat):lcT a b i k≤a.length:=by
 have:=(BK (a.drop i) (b.drop k)).1;rw [List.length_drop] at this;unfold lcT;omega
theorem GM{w i i' k k':Nat}(hk:k<w)(hk':k'< w)(h:i*w+k=i' * w+k'):i=i'∧k=k':=by
 have h1:(i*w+k) / w=i:=by rw [Nat.mul_comm,Nat.mul_add_div (by omega),Nat.div_eq_of_lt hk];rfl
 have h2:(i' * w+k') / w=i':=by rw [Nat.mul_comm,Nat.mul_add_div (by omega),Nat.div_eq_of_lt hk'];rfl
 rw [h] at h1;have:i=i':=h1.symm.trans h2;subst this;exact ⟨rfl,by omega⟩
theorem Iy{w i n k:Nat}(hi:i≤n)(hk:k<w):i*w+k<(n+1)*w:=by
 have:=Nat.mul_le_mul_right w hi;rw [Nat.succ_mul];omega
theorem BN{w i k:Nat}(hi:i≤1000)(hw:w≤1001)(hk:k≤1001):i*w+k≤2000000:=by
 have:=Nat.mul_le_mul hi hw;omega
theorem EP{l:List Int}{w i k:Nat}{v:Int}(hi:i≤1000)(hw:w≤1001)(hk:k≤1001)(h:l[i*w+k]? =some v):M.jW (i:Int) (k:Int) l (w:Int)=some v:=by
 have hb:=BN hi hw hk;have hb2:=BN (k:=0) hi hw (by omega);have e:(i:Int)*(w:Int)=((i*w:Nat):Int):=by rw [Int.natCast_mul]
 unfold M.jW;rw [vz (by rw [e];omega) (by rw [e];omega),Option.bind_some,gp (by rw [e];omega) (by rw [e];omega),Option.bind_some];have e2:(i:Int)*(w:Int)+(k:Int)=((i*w+k:Nat):Int):=by rw [e];omega
 rw [e2,jX,h];rfl
def Tab(a b:List Str)(l:List Int)(p q:Nat):Prop:=
 l.length=(a.length+1)*(b.length+1)∧(∀ i,i≤a.length→l[i*(b.length+1)+b.length]? =some 0)∧
 ∀ i k,i≤a.length→k≤b.length→(p≤i∨i+1=p∧q≤k)→l[i*(b.length+1)+k]? =some (lcT a b i k:Int)
theorem GN{a b:List Str}{l:List Int}{p:Nat}(h:Tab a b l (p+1) 0):Tab a b l p b.length:=by
 obtain ⟨h1,h2,h3⟩:=h;refine ⟨h1,h2,fun i k hi hk hc=>?_⟩;rcases hc with hc | ⟨hc,hq⟩
 ·exact h3 i k hi hk (by omega)
 ·have:k=b.length:=by omega
  subst this;rw [BL];exact h2 i hi
theorem len2(a b:List Str)(ha:a.length≤256)(hb:b.length≤256)(p:Nat)(hp:p<a.length):∀ (q:Nat) (l:List Int),q≤b.length→Tab a b l (p+1) q→
  ∃ l',To (fun n=>M.gu a b ((b.length+1:Nat):Int) (p:Int) n ((q:Int)-1) l) l'∧Tab a b l' (p+1) 0
 | 0,l,hq,ht=>by
  refine ⟨l,To.succ ?_,ht⟩;simp only [M.gu];exact To.neg (by omega) To.pure
 | q+1,l,hq,ht=>by
  obtain ⟨t1,t2,t3⟩:=ht;obtain ⟨x,hx⟩:∃ x,a[p]? =some x:=⟨_,List.getElem?_eq_getElem hp⟩
  obtain ⟨y,hy⟩:∃ y,b[q]? =some y:=⟨_,List.getElem?_eq_getElem (by omega)⟩
  have hstep:=Dl hx hy;have hA:=EP (w:=b.length+1) (i:=p+1) (k:=q) (by omega) (by omega) (by omega) (t3 (p+1) q (by omega) (by omega) (.inl (Nat.le_refl _)));have hB:=EP (w:=b.length+1) (i:=p) (k:=q+1) (by omega) (by omega) (by omega) (t3 p (q+1) (by omega) (by omega) (.inr ⟨rfl,Nat.le_refl _⟩));have hC:=EP (w:=b.length+1) (i:=p+1) (k:=q+1) (by omega) (by omega) (by omega) (t3 (p+1) (q+1) (by omega) (by omega) (.inl (Nat.le_refl _)));have e1:(((q+1:Nat):Int)-1)=(q:Int):=by omega
  have ep:(p:Int)+1=((p+1:Nat):Int):=by omega
  have eq1:(q:Int)+1=((q+1:Nat):Int):=by omega
  have hlt:p*(b.length+1)+q<l.length:=by rw [t1];exact Iy (by omega) (by omega)
  have hbig:=BN (i:=p) (w:=b.length+1) (k:=q) (by omega) (by omega) (by omega);have em:(p:Int)*((b.length+1:Nat):Int)=((p*(b.length+1):Nat):Int):=by rw [Int.natCast_mul]
  have hmul:mulC (p:Int) ((b.length+1:Nat):Int)=some ((p*(b.length+1):Nat):Int):=by rw [vz (by rw [em];omega) (by rw [em];omega),em]
  have hadd:addC ((p*(b.length+1):Nat):Int) (q:Int)=some ((p*(b.length+1)+q:Nat):Int):=by rw [gp (by omega) (by omega)];congr 1
  have hle:=GL a b (p+1) (q+1);have ht':Tab a b (l.set (p*(b.length+1)+q) (lcT a b p q:Int)) (p+1) q:=by
   refine ⟨by simp [t1],fun i hi=>?_,fun i k hi hk hc=>?_⟩
   ·rw [List.getElem?_set_ne ?_]
    ·exact t2 i hi
    ·intro e;have:=GM (by omega) (by omega) e;omega
   ·by_cases he:p*(b.length+1)+q=i*(b.length+1)+k
    ·obtain ⟨rfl,rfl⟩:=GM (by omega) (by omega) he;rw [List.getElem?_set_self hlt]
    ·rw [List.getElem?_set_ne he];refine t3 i k hi hk ?_;rcases hc with hc | ⟨hc,hq'⟩
     ·exact .inl hc
     ·refine .inr ⟨hc,?_⟩;have:i=p:=by omega
      subst this;have:k≠q:=fun e=>he (by rw [e]);omega
  obtain ⟨l',hl',hT'⟩:=len2 a b ha hb p hp q _ (by omega) ht';refine ⟨l',To.succ ?_,hT'⟩;simp only [M.gu];rw [e1];obtain ⟨v14,hv14⟩:∃ v,idx l ((p*(b.length+1)+q:Nat):Int)=some v:=⟨_,by rw [jX];exact List.getElem?_eq_getElem hlt⟩
  have hset:setC l ((p*(b.length+1)+q:Nat):Int) (lcT a b p q:Int)=some (l.set (p*(b.length+1)+q) (lcT a b p q:Int)):=Dj hlt _;refine To.pos (by omega) (To.bindS (a:=((p+1:Nat):Int)) (by rw [gp (by omega) (by omega),ep]) (To.bindS hA (To.bindS (a:=((q+1:Nat):Int)) (by rw [gp (by omega) (by omega),eq1]) (To.bindS hB (To.bind (a:=((lcT a b p q:Int),l)) ?_ ?_)))))
  ·refine To.bindS (a:=x) (by rw [jX];exact hx) (To.bindS (a:=y) (by rw [jX];exact hy) ?_);by_cases hxy:x=y
   ·refine To.pos (by simp [hxy]) (To.bindS (a:=((p+1:Nat):Int)) (by rw [gp (by omega) (by omega),ep]) (To.bindS (a:=((q+1:Nat):Int)) (by rw [gp (by omega) (by omega),eq1]) (To.bindS hC (To.bindS (gp (by omega) (by omega)) (To.pure.of ?_)))));rw [if_pos hxy] at hstep;exact Prod.ext (by dsimp only;omega) rfl
   ·refine To.neg (by simpa using hxy) (To.pure.of ?_);rw [if_neg hxy] at hstep;exact Prod.ext (by dsimp only;omega) rfl
  ·exact To.bindS hmul (To.bindS hadd (To.bindS hv14 (To.bindS hset (To.bindS (iH (by omega) (by omega)) hl'))))
theorem len1(a b:List Str)(ha:a.length≤256)(hb:b.length≤256):∀ (p:Nat) (l:List Int),p≤a.length→Tab a b l p b.length→
  ∃ l',To (fun n=>M.gy a b ((b.length+1:Nat):Int) n ((p:Int)-1) l) l'∧Tab a b l' 0 0
 | 0,l,hp,ht=>by
  refine ⟨l,To.succ ?_,ht.1,ht.2.1,fun i k hi hk hc=>ht.2.2 i k hi hk (.inl (Nat.zero_le _))⟩;simp only [M.gy];exact To.neg (by omega) To.pure
 | p+1,l,hp,ht=>by
  obtain ⟨l1,h1,ht1⟩:=len2 a b ha hb p (by omega) b.length l (Nat.le_refl _) ht;obtain ⟨l2,h2,ht2⟩:=len1 a b ha hb p l1 (by omega) (GN ht1);have e1:(((p+1:Nat):Int)-1)=(p:Int):=by omega
  refine ⟨l2,To.succ ?_,ht2⟩;simp only [M.gy];rw [e1];exact To.pos (by omega) (To.bindS (iH (by omega) (by omega)) (To.bind h1 (To.bindS (iH (by omega) (by omega)) h2)))
theorem Ed(a b:List Str)(ha:a.length≤256)(hb:b.length≤256):∃ f,To (fun n=>M.ol n a b) f∧ ∀ i k:Nat,i≤a.length→k≤b.length→f (i:Int) (k:Int)=some (lcT a b i k:Int):=by
 have hbig:=BN (i:=a.length+1) (w:=b.length+1) (k:=0) (by omega) (by omega) (by omega);have em:((a.length+1:Nat):Int)*((b.length+1:Nat):Int)=(((a.length+1)*(b.length+1):Nat):Int):=by rw [Int.natCast_mul]
 have t0:Tab a b (List.replicate ((a.length+1)*(b.length+1)) (0:Int)) a.length b.length:=by
  have hr:∀ i k,i≤a.length→k≤b.length→(List.replicate ((a.length+1)*(b.length+1)) (0:Int))[i*(b.length+1)+k]? =some 0:=by
   intro i k hi hk;rw [List.getElem?_replicate,if_pos (Iy hi (by omega))]
  refine ⟨by simp,fun i hi=>hr i _ hi (Nat.le_refl _),fun i k hi hk hc=>?_⟩;rw [hr i k hi hk];rcases hc with hc | ⟨hc,hq⟩
  ·have:i=a.length:=by omega
   subst this;rw [BM];rfl
  ·have:k=b.length:=by omega
   subst this;rw [BL];rfl
 obtain ⟨l,hl,ht⟩:=len1 a b ha hb a.length _ (Nat.le_refl _) t0;refine ⟨fun s0 s1=>M.kM s0 s1 l ((b.length+1:Nat):Int),?_,fun i k hi hk=>?_⟩
 ·simp only [M.ol];refine To.bindS (a:=((b.length+1:Nat):Int)) (by rw [gp (by omega) (by omega)];congr 1) (To.bindS (a:=((a.length+1:Nat):Int)) (by rw [gp (by omega) (by omega)];congr 1) (To.bindS (vz (by rw [em];omega) (by rw [em];omega)) (To.bindS (a:=List.replicate ((a.length+1)*(b.length+1)) (0:Int)) ?_ (To.bindS (iH (by omega) (by omega)) (To.bind hl To.pure)))));unfold makeC;rw [em,if_pos (by omega),Int.toNat_natCast]
 ·exact EP (by omega) (by omega) (by omega) (ht.2.2 i k hi hk (.inl (Nat.zero_le _)))
theorem Ji(l:List (List Str))(hl:∀ x∈l,x.length≤256):To (fun n=>M.dI n l (fun s0=>M.nI s0)) false:=by
 have loop:∀ (xs:List (List Str)) (i:Nat),l.drop i=xs→To (fun n=>M.bu l (fun s0=>M.nI s0) n (i:Int)) (.inl ()):=by
  intro xs;induction xs with
  | nil=>
   intro i hx;refine To.succ ?_;simp only [M.bu];exact To.neg (gm hx) To.pure
  | cons x xs ih=>
   intro i hx;have hm:=hl x (List.mem_of_getElem? (iZ hx).2.1);refine To.succ ?_;simp only [M.bu];refine To.pos (eQ hx) (To.bindS (cZ hx) (To.bindS (a:=false) ?_ (To.neg (by decide) ?_)))
   ·unfold M.nI;rw [decide_eq_false (by omega)]
   ·rw [bZ];exact ih (i+1) (fE hx)
 simp only [M.dI,M.fB];exact To.bind (a:=(-1:Int)) (To.bind (loop l 0 rfl) To.pure) (To.pure.of (by decide))
end Go.Proofs.YtalogjkalmkpjaaGreatDoor
/-
  The pairs of a longest common subsequence of any two rows: they rise, and pair equal words.
-/
namespace Go.Proofs.YtalogjkalmkpjaaGreatDoor
open Go Go.Dec
theorem Ig(a b:List Str):∀ (d i k:Nat),(a.length-i)+(b.length-k)=d→i≤a.length→k≤b.length→0<lcT a b i k→
  ∃ x y,i≤x∧x<a.length∧k≤y∧y<b.length∧a[x]? =b[y]? ∧lcT a b (x+1) (y+1)+1=lcT a b i k:=by
 intro d;induction d with
 | zero=>
  intro i k hd hi hk h;have:i=a.length:=by omega
  subst this;rw [BM] at h;omega
 | succ d ih=>
  intro i k hd hi hk h;rcases Nat.lt_or_ge i a.length with hi' | hi'
  ·rcases Nat.lt_or_ge k b.length with hk' | hk'
   ·have hx:=List.getElem?_eq_getElem hi';have hy:=List.getElem?_eq_getElem hk';have hs:=Dl hx hy;by_cases h1:lcT a b (i+1) k=lcT a b i k
    ·obtain ⟨x,y,h2,h3,h4,h5,h6,h7⟩:=ih (i+1) k (by omega) (by omega) hk (by omega);exact ⟨x,y,by omega,h3,h4,h5,h6,by omega⟩
    ·by_cases h1':lcT a b i (k+1)=lcT a b i k
     ·obtain ⟨x,y,h2,h3,h4,h5,h6,h7⟩:=ih i (k+1) (by omega) hi (by omega) (by omega);exact ⟨x,y,h2,h3,by omega,h5,h6,by omega⟩
     ·by_cases he:a[i]=b[k]
      ·rw [if_pos he] at hs;refine ⟨i,k,Nat.le_refl _,hi',Nat.le_refl _,hk',by rw [hx,hy,he],?_⟩;omega
      ·rw [if_neg he] at hs;omega
   ·have:k=b.length:=by omega
    subst this;rw [BL] at h;omega
  ·have:i=a.length:=by omega
   subst this;rw [BM] at h;omega
section
variable (a b:List Str) (ha:a.length≤256) (hb:b.length≤256) (f:Int→Int→Option Int) (hf:∀ i k:Nat,i≤a.length→k≤b.length→f (i:Int) (k:Int)=some (lcT a b i k:Int)) (i k:Nat) (hi:i≤a.length) (hk:k≤b.length)
include ha hb hf hi hk
theorem nx2(x:Nat)(hx:x<a.length)(v:aI):∀ (d y:Nat),b.length-y=d→y≤b.length→
  ∃ o,To (fun n=>M.dW (i:Int) (k:Int) a b f (x:Int) n (y:Int) v) o∧
   ((∃ y',o= .inr ⟨(x:Int),(y':Nat)⟩∧y≤y'∧y'< b.length∧a[x]? =b[y']? ∧lcT a b (x+1) (y'+1)+1=lcT a b i k)∨
    (o= .inl v∧ ∀ y',y≤y'→y'< b.length→a[x]? =b[y']?→lcT a b (x+1) (y'+1)+1=lcT a b i k→False)):=by
 intro d;induction d with
 | zero=>
  intro y hd hy;refine ⟨.inl v,To.succ ?_,.inr ⟨rfl,fun y' h1 h2=>by omega⟩⟩;simp only [M.dW];exact To.neg (by omega) To.pure
 | succ d ih=>
  intro y hd hy;have hy':y<b.length:=by omega
  obtain ⟨o,h1,h2⟩:=ih (y+1) (by omega) (by omega);have hax:idx a (x:Int)=some a[x]:=dZ hx;have hby:idx b (y:Int)=some b[y]:=dZ hy';have ga:=List.getElem?_eq_getElem hx;have gb:=List.getElem?_eq_getElem hy';have ext:(a[x]? =b[y]?→lcT a b (x+1) (y+1)+1=lcT a b i k→False)→((∃ y',o= .inr ⟨(x:Int),(y':Nat)⟩∧y≤y'∧y'< b.length∧a[x]? =b[y']? ∧lcT a b (x+1) (y'+1)+1=lcT a b i k)∨
    (o= .inl v∧ ∀ y',y≤y'→y'< b.length→a[x]? =b[y']?→lcT a b (x+1) (y'+1)+1=lcT a b i k→False)):=by
   intro hno;rcases h2 with ⟨y',e1,e2,e3,e4,e5⟩ | ⟨e1,e2⟩
   ·exact .inl ⟨y',e1,by omega,e3,e4,e5⟩
   ·refine .inr ⟨e1,fun y' q1 q2 q3 q4=>?_⟩;by_cases hy2:y'=y
    ·subst hy2;exact hno q3 q4
    ·exact e2 y' (by omega) q2 q3 q4
  by_cases he:a[x]=b[y]
  ·have hl1:lcT a b (x+1) (y+1)≤a.length:=GL a b _ _;by_cases hg:lcT a b (x+1) (y+1)+1=lcT a b i k
   ·refine ⟨.inr ⟨(x:Int),(y:Nat)⟩,To.succ ?_,.inl ⟨y,rfl,Nat.le_refl _,hy',by rw [ga,gb,he],hg⟩⟩;simp only [M.dW];exact To.pos (by omega) (To.bindS hax (To.bindS hby (To.pos (by simp [he]) (To.bindS (dS (by omega)) (To.bindS (dS (by omega)) (To.bindS (hf _ _ (by omega) (by omega)) (To.bindS (gp (by omega) (by omega)) (To.bindS (hf _ _ hi hk) (To.pos (by omega) To.pure)))))))))
   ·refine ⟨o,To.succ ?_,ext (fun _ h=>hg h)⟩;simp only [M.dW];refine To.pos (by omega) (To.bindS hax (To.bindS hby (To.pos (by simp [he]) (To.bindS (dS (by omega)) (To.bindS (dS (by omega)) (To.bindS (hf _ _ (by omega) (by omega)) (To.bindS (gp (by omega) (by omega)) (To.bindS (hf _ _ hi hk) (To.neg (by omega) ?_)))))))));rw [bZ];exact h1
  ·refine ⟨o,To.succ ?_,ext (fun h=>absurd h (by rw [ga,gb];simpa using he))⟩;simp only [M.dW];refine To.pos (by omega) (To.bindS hax (To.bindS hby (To.neg (by simpa using he) ?_)));rw [bZ];exact h1
theorem nx1:∀ (d x:Nat) (v:aI),a.length-x=d→x≤a.length→
  ∃ o,To (fun n=>M.fC (i:Int) (k:Int) a b f n (x:Int) v) o∧
   ((∃ x' y',o= .inr ⟨(x':Nat),(y':Nat)⟩∧x≤x'∧x'< a.length∧k≤y'∧y'< b.length∧a[x']? =b[y']? ∧lcT a b (x'+1) (y'+1)+1=lcT a b i k)∨
    (∀ x' y',x≤x'→x'< a.length→k≤y'→y'< b.length→a[x']? =b[y']?→lcT a b (x'+1) (y'+1)+1=lcT a b i k→False)):=by
 intro d;induction d with
 | zero=>
  intro x v hd hx;refine ⟨.inl v,To.succ ?_,.inr fun x' y' h1 h2=>by omega⟩;simp only [M.fC];exact To.neg (by omega) To.pure
 | succ d ih=>
  intro x v hd hx;have hx':x<a.length:=by omega
  obtain ⟨o2,p1,p2⟩:=nx2 a b ha hb f hf i k hi hk x hx' v (b.length-k) k rfl hk;rcases p2 with ⟨y',rfl,e2,e3,e4,e5⟩ | ⟨rfl,e2⟩
  ·refine ⟨.inr ⟨(x:Nat),(y':Nat)⟩,To.succ ?_,.inl ⟨x,y',rfl,Nat.le_refl _,hx',e2,e3,e4,e5⟩⟩;simp only [M.fC];exact To.pos (by omega) (To.bind p1 (by dsimp only;exact To.pure))
  ·obtain ⟨o,h1,h2⟩:=ih (x+1) v (by omega) (by omega);refine ⟨o,To.succ ?_,?_⟩
   ·simp only [M.fC];exact To.pos (by omega) (To.bind p1 (by dsimp only;exact To.bindS (dS (by omega)) h1))
   ·rcases h2 with ⟨x',y',q1,q2,q3⟩ | h2
    ·exact .inl ⟨x',y',q1,by omega,q3⟩
    ·refine .inr fun x' y' q1 q2 q3 q4 q5 q6=>?_;by_cases hx2:x'=x
     ·subst hx2;exact e2 y' q3 q4 q5 q6
     ·exact h2 x' y' (by omega) q2 q3 q4 q5 q6
theorem Ih(h:0<lcT a b i k):∃ x y:Nat,To (fun n=>M.lD n (i:Int) (k:Int) a b f) (⟨(x:Int),(y:Int)⟩:aI)∧
  i≤x∧x<a.length∧k≤y∧y<b.length∧a[x]? =b[y]? ∧lcT a b (x+1) (y+1)+1=lcT a b i k:=by
 obtain ⟨o,h1,h2⟩:=nx1 a b ha hb f hf i k hi hk (a.length-i) i lJ rfl hi;rcases h2 with ⟨x,y,rfl,q⟩ | h2
 ·refine ⟨x,y,?_,q⟩;simp only [M.lD];exact To.bind h1 (by dsimp only;exact To.pure)
 ·obtain ⟨x,y,q1,q2,q3,q4,q5,q6⟩:=Ig a b _ i k rfl hi hk h;exact (h2 x y q1 q2 q3 q4 q5 q6).elim
end
def toP(p:Nat×Nat):aI:=⟨(p.1:Int),(p.2:Int)⟩
def Ris(m n:Nat)(Q:Nat→Nat→Prop):Nat→Nat→List (Nat×Nat)→Prop
 | _,_,[]=>True
 | i,k,p :: ps=>i≤p.1∧k≤p.2∧p.1<m∧p.2<n∧Q p.1 p.2∧Ris m n Q (p.1+1) (p.2+1) ps
theorem Ris.len{m n:Nat}{Q:Nat→Nat→Prop}:∀ {ps:List (Nat×Nat)} {i k:Nat},Ris m n Q i k ps→ps.length≤m-i
 | [],_,_,_=>by simp
 | p :: ps,i,k,⟨h1,_,h3,_,_,h6⟩=>by
  have:=h6.len;simp only [List.length_cons];omega
theorem GQ(a b:List Str)(ha:a.length≤256)(hb:b.length≤256):∃ ps:List (Nat×Nat),To (fun n=>M.qI n a b) (ps.map toP)∧Ris a.length b.length (fun x y=>a[x]? =b[y]?) 0 0 ps:=by
 obtain ⟨f,hf,hv⟩:=Ed a b ha hb;have loop:∀ (c i k:Nat) (out:List aI) (F:Nat→Int→Int→Option aI),lcT a b i k=c→i≤a.length→k≤b.length→out.length≤i→
   (∀ i k:Nat,i≤a.length→k≤b.length→0<lcT a b i k→∃ x y:Nat,To (fun n=>F n (i:Int) (k:Int)) (⟨(x:Int),(y:Int)⟩:aI)∧i≤x∧x<a.length∧k≤y∧y<b.length∧a[x]? =b[y]? ∧lcT a b (x+1) (y+1)+1=lcT a b i k)→
   ∃ ps:List (Nat×Nat),To (fun n=>M.gM f (F n) n out (i:Int) (k:Int)) (out++ps.map toP)∧Ris a.length b.length (fun x y=>a[x]? =b[y]?) i k ps:=by
  intro c;induction c with
  | zero=>
   intro i k out F hc hi hk ho hF;refine ⟨[],To.succ ?_,trivial⟩;simp only [M.gM];exact To.bindS (hv i k hi hk) (To.neg (by omega) (To.pure.of (by simp)))
  | succ c ih=>
   intro i k out F hc hi hk ho hF;obtain ⟨x,y,h1,h2,h3,h4,h5,h6,h7⟩:=hF i k hi hk (by omega);obtain ⟨ps,q1,q2⟩:=ih (x+1) (y+1) (out++ [⟨(x:Int),(y:Int)⟩]) (fun n=>F (n+1)) (by omega) (by omega) (by omega) (by simp;omega) (fun i k hi hk h=>by
    obtain ⟨x,y,p1,p2⟩:=hF i k hi hk h;exact ⟨x,y,p1.shift,p2⟩)
   refine ⟨(x,y) :: ps,To.succ ?_,h2,h4,h3,h5,h6,q2⟩;simp only [M.gM];refine To.bindS (hv i k hi hk) (To.pos (by omega) (To.bind h1.shift (To.bindS (dL (by simp;omega)) (To.bindS (dS (by omega)) (To.bindS (dS (by omega)) (q1.of (by simp [toP])))))))
 simp only [M.qI,M.vL];have h0:=loop (lcT a b 0 0) 0 0 [] (fun n s0 s1=>M.lD n s0 s1 a b f) rfl (by omega) (by omega) (by simp) (fun i k hi hk h=>Ih a b ha hb f hv i k hi hk h);obtain ⟨ps,h1,h2⟩:=h0;refine ⟨ps,To.bind (To.bind (Ji [a,b] (fun x hx=>by simp at hx;rcases hx with rfl | rfl<;> assumption)) To.pure) (To.neg (by decide) (To.bind hf ?_)),h2⟩;exact (To.bind (f:=fun n=>M.gM f (fun s0 s1=>M.lD n s0 s1 a b f) n [] 0 0) h1 To.pure).eq (fun n=>by rw [Option.bind_some])
end Go.Proofs.YtalogjkalmkpjaaGreatDoor
/-
  Merging two lists by pairs that rise: every element once, in order (printed by wip/scripts/mk53j.py).
-/
namespace Go.Proofs.YtalogjkalmkpjaaGreatDoor
open Go Go.Dec
section
variable {α β:Type}
def aln(a:List α)(b:List β):Nat→Nat→List (Nat×Nat)→List (Option α×Option β)
 | i,k,[]=>(a.drop i).map (fun x=>(some x,none))++(b.drop k).map (fun y=>(none,some y))
 | i,k,p :: ps=>((a.drop i).take (p.1-i)).map (fun x=>(some x,none))++(((b.drop k).take (p.2-k)).map (fun y=>(none,some y))++((a[p.1]?,b[p.2]?) :: aln a b (p.1+1) (p.2+1) ps))
theorem EQ{γ:Type}(l:List γ){δ:Type}:(l.map (fun x=>((some x,none):Option γ×Option δ))).filterMap Prod.fst=l:=by
 induction l with
 | nil=>rfl
 | cons x l ih=>simp [ih]
theorem ER{γ:Type}(l:List γ){δ:Type}:(l.map (fun x=>((none,some x):Option δ×Option γ))).filterMap Prod.fst= []:=by
 induction l with
 | nil=>rfl
 | cons x l ih=>simp [ih]
theorem ES{γ:Type}(l:List γ){δ:Type}:(l.map (fun x=>((none,some x):Option δ×Option γ))).filterMap Prod.snd=l:=by
 induction l with
 | nil=>rfl
 | cons x l ih=>simp [ih]
theorem ET{γ:Type}(l:List γ){δ:Type}:(l.map (fun x=>((some x,none):Option γ×Option δ))).filterMap Prod.snd= []:=by
 induction l with
 | nil=>rfl
 | cons x l ih=>simp [ih]
theorem wD{γ:Type}{l:List γ}{i x:Nat}(hi:i≤x)(hx:x<l.length):(l.drop i).take (x-i)++l[x] :: l.drop (x+1)=l.drop i:=by
 have h1:l.drop x=l[x] :: l.drop (x+1):=List.drop_eq_getElem_cons hx;have h2:(l.drop i).drop (x-i)=l.drop x:=by rw [List.drop_drop];congr 1;omega
 rw [←h1,←h2,List.take_append_drop]
theorem EU{a:List α}{b:List β}{Q:Nat→Nat→Prop}:∀ {ps:List (Nat×Nat)} {i k:Nat},Ris a.length b.length Q i k ps→(aln a b i k ps).filterMap Prod.fst=a.drop i
 | [],i,k,_=>by simp only [aln,List.filterMap_append,EQ,ER,List.append_nil]
 | p :: ps,i,k,⟨h1,h2,h3,h4,h5,h6⟩=>by
  simp only [aln,List.filterMap_append,EQ,ER,List.nil_append,List.filterMap_cons];rw [EU h6,List.getElem?_eq_getElem h3];exact wD h1 h3
theorem Dm{a:List α}{b:List β}{Q:Nat→Nat→Prop}:∀ {ps:List (Nat×Nat)} {i k:Nat},Ris a.length b.length Q i k ps→(aln a b i k ps).filterMap Prod.snd=b.drop k
 | [],i,k,_=>by simp only [aln,List.filterMap_append,ES,ET,List.nil_append]
 | p :: ps,i,k,⟨h1,h2,h3,h4,h5,h6⟩=>by
  simp only [aln,List.filterMap_append,ES,ET,List.nil_append,List.filterMap_cons];rw [Dm h6,List.getElem?_eq_getElem h4];exact wD h2 h4
theorem yc{m n:Nat}{Q:Nat→Nat→Prop}:∀ {ps:List (Nat×Nat)} {i k:Nat},Ris m n Q i k ps→∀ q∈ps,i≤q.1∧k≤q.2∧q.1<m∧q.2<n∧Q q.1 q.2
 | [],_,_,_,q,hq=>by cases hq
 | p :: ps,i,k,⟨h1,h2,h3,h4,h5,h6⟩,q,hq=>by
  rcases List.mem_cons.1 hq with rfl | hq
  ·exact ⟨h1,h2,h3,h4,h5⟩
  ·obtain ⟨q1,q2,q3⟩:=yc h6 q hq;exact ⟨by omega,by omega,q3⟩
theorem EW{γ:Type}{l:List γ}{i x:Nat}{y:γ}(h:y∈(l.drop i).take (x-i)):∃ j,i≤j∧j<x∧l[j]? =some y:=by
 obtain ⟨j,hj,he⟩:=List.mem_iff_getElem.1 h;rw [List.length_take,List.length_drop] at hj;refine ⟨i+j,by omega,by omega,?_⟩;rw [List.getElem_take,List.getElem_drop] at he;rw [←he];exact List.getElem?_eq_getElem (by omega)
theorem Al{γ:Type}{l:List γ}{i:Nat}{y:γ}(h:y∈l.drop i):∃ j,i≤j∧l[j]? =some y:=by
 obtain ⟨j,hj,he⟩:=List.mem_iff_getElem.1 h;rw [List.length_drop] at hj;refine ⟨i+j,by omega,?_⟩;rw [List.getElem_drop] at he;rw [←he];exact List.getElem?_eq_getElem (by omega)
def AlnAt(a:List α)(b:List β)(i k:Nat)(ps:List (Nat×Nat)):Option α×Option β→Prop
 | (some x,none)=>∃ j,i≤j∧a[j]? =some x∧ ∀ q∈ps,q.1≠j
 | (none,some y)=>∃ j,k≤j∧b[j]? =some y∧ ∀ q∈ps,q.2≠j
 | (some x,some y)=>∃ q∈ps,a[q.1]? =some x∧b[q.2]? =some y
 | (none,none)=>False
theorem u6{a:List α}{b:List β}{Q:Nat→Nat→Prop}:∀ {ps:List (Nat×Nat)} {i k:Nat},Ris a.length b.length Q i k ps→∀ e∈aln a b i k ps,AlnAt a b i k ps e
 | [],i,k,_,e,he=>by
  simp only [aln,List.mem_append,List.mem_map] at he;rcases he with ⟨x,hx,rfl⟩ | ⟨x,hx,rfl⟩
  ·obtain ⟨j,h1,h2⟩:=Al hx;exact ⟨j,h1,h2,fun q hq=>by cases hq⟩
  ·obtain ⟨j,h1,h2⟩:=Al hx;exact ⟨j,h1,h2,fun q hq=>by cases hq⟩
 | p :: ps,i,k,⟨h1,h2,h3,h4,h5,h6⟩,e,he=>by
  have hlow:=yc h6;simp only [aln,List.mem_append,List.mem_map,List.mem_cons] at he;rcases he with ⟨x,hx,rfl⟩ | ⟨x,hx,rfl⟩ | rfl | he
  ·obtain ⟨j,q1,q2,q3⟩:=EW hx;refine ⟨j,q1,q3,fun q hq=>?_⟩;rcases List.mem_cons.1 hq with rfl | hq
   ·omega
   ·have:=(hlow q hq).1;omega
  ·obtain ⟨j,q1,q2,q3⟩:=EW hx;refine ⟨j,q1,q3,fun q hq=>?_⟩;rcases List.mem_cons.1 hq with rfl | hq
   ·omega
   ·have:=(hlow q hq).2.1;omega
  ·rw [List.getElem?_eq_getElem h3,List.getElem?_eq_getElem h4];exact ⟨p,List.mem_cons_self,List.getElem?_eq_getElem h3,List.getElem?_eq_getElem h4⟩
  ·have h:=u6 h6 e he;obtain ⟨e1,e2⟩:=e;cases e1 with
   | none=>
    cases e2 with
    | none=>exact h
    | some y=>
     obtain ⟨j,q1,q2,q3⟩:=h;refine ⟨j,by omega,q2,fun q hq=>?_⟩;rcases List.mem_cons.1 hq with rfl | hq
     ·omega
     ·exact q3 q hq
   | some x=>
    cases e2 with
    | none=>
     obtain ⟨j,q1,q2,q3⟩:=h;refine ⟨j,by omega,q2,fun q hq=>?_⟩;rcases List.mem_cons.1 hq with rfl | hq
     ·omega
     ·exact q3 q hq
    | some y=>
     obtain ⟨q,hq,h⟩:=h;exact ⟨q,List.mem_cons_of_mem _ hq,h⟩
theorem wF{a:List α}{b:List β}{Q:Nat→Nat→Prop}:∀ {ps:List (Nat×Nat)} {i k:Nat},i≤a.length→k≤b.length→Ris a.length b.length Q i k ps→(aln a b i k ps).length≤(a.length-i)+(b.length-k)
 | [],i,k,_,_,_=>by simp [aln]
 | p :: ps,i,k,hi,hk,⟨h1,h2,h3,h4,h5,h6⟩=>by
  have:=wF (by omega) (by omega) h6;simp only [aln,List.length_append,List.length_map,List.length_take,List.length_drop,List.length_cons];omega
end
def Wv{α β γ:Type}(go:Nat→α→Option γ)(co:Nat→β→Option γ)(st:Nat→α→β→Option γ)(E:Option α×Option β→γ):Option α×Option β→Prop
 | (some x,none)=>To (fun n=>go n x) (E (some x,none))
 | (none,some y)=>To (fun n=>co n y) (E (none,some y))
 | (some x,some y)=>To (fun n=>st n x y) (E (some x,some y))
 | (none,none)=>True
section
variable (a b:List Str) (go:Nat→Str→Option TW) (co:Nat→Str→Option TW) (st:Nat→Str→Str→Option TW) (E:Option Str×Option Str→TW)
theorem Iz(e:aI)(x:Nat)(he:e.A=(x:Int))(hx:x≤a.length)(hx5:x≤100000):∀ (d i:Nat) (go:Nat→Str→Option TW) (out:List TW),x-i=d→i≤x→out.length+(x-i)≤100000→(∀ v∈(a.drop i).take (x-i),To (fun n=>go n v) (E (some v,none)))→
  To (fun n=>M.aV a (go n) e n out (i:Int)) (out++((a.drop i).take (x-i)).map (fun v=>E (some v,none)),(x:Int)):=by
 intro d;induction d with
 | zero=>
  intro i go out hd hi ho hg;have:i=x:=by omega
  subst this;refine To.succ ?_;simp only [M.aV];exact To.neg (by omega) (To.pure.of (by simp))
 | succ d ih=>
  intro i go out hd hi ho hg;have hlt:i<a.length:=by omega
  have hs:(a.drop i).take (x-i)=a[i] :: (a.drop (i+1)).take (x-(i+1)):=by
   rw [List.drop_eq_getElem_cons hlt,show x-i=(x-(i+1))+1 by omega,List.take_succ_cons]
  have h2:=ih (i+1) (fun n=>go (n+1)) (out++ [E (some a[i],none)]) (by omega) (by omega) (by simp;omega) (fun v hv=>(hg v (by rw [hs];exact List.mem_cons_of_mem _ hv)).shift);refine To.succ ?_;simp only [M.aV];refine To.pos (by omega) (To.bindS (dZ hlt) (To.bind (hg a[i] (by rw [hs];exact List.mem_cons_self)).shift (To.bindS (dL (by simp;omega)) (To.bindS (dS (by omega)) (h2.of (by rw [hs];simp))))))
theorem IA(e:aI)(x:Nat)(he:e.B=(x:Int))(hx:x≤b.length)(hx5:x≤100000):∀ (d i:Nat) (co:Nat→Str→Option TW) (out:List TW),x-i=d→i≤x→out.length+(x-i)≤100000→(∀ v∈(b.drop i).take (x-i),To (fun n=>co n v) (E (none,some v)))→
  To (fun n=>M.aU b (co n) e n out (i:Int)) (out++((b.drop i).take (x-i)).map (fun v=>E (none,some v)),(x:Int)):=by
 intro d;induction d with
 | zero=>
  intro i co out hd hi ho hg;have:i=x:=by omega
  subst this;refine To.succ ?_;simp only [M.aU];exact To.neg (by omega) (To.pure.of (by simp))
 | succ d ih=>
  intro i co out hd hi ho hg;have hlt:i<b.length:=by omega
  have hs:(b.drop i).take (x-i)=b[i] :: (b.drop (i+1)).take (x-(i+1)):=by
   rw [List.drop_eq_getElem_cons hlt,show x-i=(x-(i+1))+1 by omega,List.take_succ_cons]
  have h2:=ih (i+1) (fun n=>co (n+1)) (out++ [E (none,some b[i])]) (by omega) (by omega) (by simp;omega) (fun v hv=>(hg v (by rw [hs];exact List.mem_cons_of_mem _ hv)).shift);refine To.succ ?_;simp only [M.aU];refine To.pos (by omega) (To.bindS (dZ hlt) (To.bind (hg b[i] (by rw [hs];exact List.mem_cons_self)).shift (To.bindS (dL (by simp;omega)) (To.bindS (dS (by omega)) (h2.of (by rw [hs];simp))))))
theorem Jj{Q:Nat→Nat→Prop}(hl:a.length+b.length≤50000):∀ (ps:List (Nat×Nat)) (i k:Nat) (out:List TW),Ris a.length b.length Q i k ps→i≤a.length→k≤b.length→out.length≤i+k→(∀ e∈aln a b i k ps,Wv go co st E e)→
  To (fun n=>M.aP n a b (go n) (co n) (st n) (ps.map toP++ [⟨(a.length:Int),(b.length:Int)⟩]) out (i:Int) (k:Int)) (out++(aln a b i k ps).map E):=by
 intro ps;induction ps with
 | nil=>
  intro i k out hr hi hk ho hE;have t1:(a.drop i).take (a.length-i)=a.drop i:=List.take_of_length_le (by simp);have t2:(b.drop k).take (b.length-k)=b.drop k:=List.take_of_length_le (by simp);have h1:=Iz a E ⟨(a.length:Int),(b.length:Int)⟩ a.length rfl (Nat.le_refl _) (by omega) _ i go out rfl hi (by omega) (fun v hv=>hE (some v,none) (by rw [t1] at hv;simp only [aln,List.mem_append,List.mem_map];exact .inl ⟨v,hv,rfl⟩));have h2:=IA b E ⟨(a.length:Int),(b.length:Int)⟩ b.length rfl (Nat.le_refl _) (by omega) _ k co (out++((a.drop i).take (a.length-i)).map (fun v=>E (some v,none))) rfl hk (by simp;omega) (fun v hv=>hE (none,some v) (by rw [t2] at hv;simp only [aln,List.mem_append,List.mem_map];exact .inr ⟨v,hv,rfl⟩));simp only [List.map_nil,List.nil_append,M.aP];refine To.bind h1 ?_;dsimp only;refine To.bind h2 ?_;dsimp only;refine To.bind (a:=false) (To.neg (by omega) To.pure) (To.neg (by decide) (To.pure.of ?_));rw [t1,t2];simp [aln,Function.comp_def]
 | cons p ps ih=>
  rintro i k out ⟨q1,q2,q3,q4,q5,q6⟩ hi hk ho hE;have h1:=Iz a E (toP p) p.1 rfl (by omega) (by omega) _ i go out rfl q1 (by omega) (fun v hv=>hE (some v,none) (by simp only [aln,List.mem_append,List.mem_map];exact .inl ⟨v,hv,rfl⟩));have h2:=IA b E (toP p) p.2 rfl (by omega) (by omega) _ k co (out++((a.drop i).take (p.1-i)).map (fun v=>E (some v,none))) rfl q2 (by simp;omega) (fun v hv=>hE (none,some v) (by simp only [aln,List.mem_append,List.mem_map];exact .inr (.inl ⟨v,hv,rfl⟩)));have ga:=List.getElem?_eq_getElem q3;have gb:=List.getElem?_eq_getElem q4;have h3:Wv go co st E (some a[p.1],some b[p.2]):=hE _ (by rw [aln,ga,gb];simp);have h3:To (fun n=>st n a[p.1] b[p.2]) (E (some a[p.1],some b[p.2])):=h3;have h4:=ih (p.1+1) (p.2+1) (out++((a.drop i).take (p.1-i)).map (fun v=>E (some v,none))++((b.drop k).take (p.2-k)).map (fun v=>E (none,some v))++ [E (some a[p.1],some b[p.2])]) q6 (by omega) (by omega) (by simp;omega) (fun e he=>hE e (by simp only [aln,List.mem_append,List.mem_cons];exact .inr (.inr (.inr he))));simp only [List.map_cons,List.cons_append,M.aP];refine To.bind h1 ?_;dsimp only;refine To.bind h2 ?_;dsimp only;refine To.bind (a:=true) (To.pos (by simp only [toP];omega) (To.pure.of (by simp only [toP];simp;omega))) (To.pos rfl (To.bindS (dZ q3) (To.bindS (dZ q4) (To.bind h3 (To.bindS (dL (by simp;omega)) (To.bindS (dS (by omega)) (To.bindS (dS (by omega)) (h4.of ?_))))))));simp [aln,ga,gb,Function.comp_def]
theorem Jo{Q:Nat→Nat→Prop}(hl:a.length+b.length≤50000)(ps:List (Nat×Nat))(hr:Ris a.length b.length Q 0 0 ps)(hE:∀ e∈aln a b 0 0 ps,Wv go co st E e) :
  To (fun n=>M.bY n a b (ps.map toP) (go n) (co n) (st n)) ((aln a b 0 0 ps).map E):=by
 have hlen:=hr.len;have hc:M.bU (ps.map toP)=some (ps.map toP):=by
  unfold M.bU;rw [dL (by simp;omega),List.nil_append]
 have h0:=Jj a b go co st E hl ps 0 0 [] hr (by omega) (by omega) (by simp) hE;simp only [M.bY];exact To.bindS hc (To.bindS (dL (by simp;omega)) (To.bind h0 To.pure))
end
section
variable (a b:List af) (go:Nat→af→Option TU) (co:Nat→af→Option TU) (st:Nat→af→af→Option TU) (E:Option af×Option af→TU)
theorem IB(e:aI)(x:Nat)(he:e.A=(x:Int))(hx:x≤a.length)(hx5:x≤100000):∀ (d i:Nat) (go:Nat→af→Option TU) (out:List TU),x-i=d→i≤x→out.length+(x-i)≤100000→(∀ v∈(a.drop i).take (x-i),To (fun n=>go n v) (E (some v,none)))→
  To (fun n=>M.aR a (go n) e n out (i:Int)) (out++((a.drop i).take (x-i)).map (fun v=>E (some v,none)),(x:Int)):=by
 intro d;induction d with
 | zero=>
  intro i go out hd hi ho hg;have:i=x:=by omega
  subst this;refine To.succ ?_;simp only [M.aR];exact To.neg (by omega) (To.pure.of (by simp))
 | succ d ih=>
  intro i go out hd hi ho hg;have hlt:i<a.length:=by omega
  have hs:(a.drop i).take (x-i)=a[i] :: (a.drop (i+1)).take (x-(i+1)):=by
   rw [List.drop_eq_getElem_cons hlt,show x-i=(x-(i+1))+1 by omega,List.take_succ_cons]
  have h2:=ih (i+1) (fun n=>go (n+1)) (out++ [E (some a[i],none)]) (by omega) (by omega) (by simp;omega) (fun v hv=>(hg v (by rw [hs];exact List.mem_cons_of_mem _ hv)).shift);refine To.succ ?_;simp only [M.aR];refine To.pos (by omega) (To.bindS (dZ hlt) (To.bind (hg a[i] (by rw [hs];exact List.mem_cons_self)).shift (To.bindS (dL (by simp;omega)) (To.bindS (dS (by omega)) (h2.of (by rw [hs];simp))))))
theorem IC(e:aI)(x:Nat)(he:e.B=(x:Int))(hx:x≤b.length)(hx5:x≤100000):∀ (d i:Nat) (co:Nat→af→Option TU) (out:List TU),x-i=d→i≤x→out.length+(x-i)≤100000→(∀ v∈(b.drop i).take (x-i),To (fun n=>co n v) (E (none,some v)))→
  To (fun n=>M.aQ b (co n) e n out (i:Int)) (out++((b.drop i).take (x-i)).map (fun v=>E (none,some v)),(x:Int)):=by
 intro d;induction d with
 | zero=>
  intro i co out hd hi ho hg;have:i=x:=by omega
  subst this;refine To.succ ?_;simp only [M.aQ];exact To.neg (by omega) (To.pure.of (by simp))
 | succ d ih=>
  intro i co out hd hi ho hg;have hlt:i<b.length:=by omega
  have hs:(b.drop i).take (x-i)=b[i] :: (b.drop (i+1)).take (x-(i+1)):=by
   rw [List.drop_eq_getElem_cons hlt,show x-i=(x-(i+1))+1 by omega,List.take_succ_cons]
  have h2:=ih (i+1) (fun n=>co (n+1)) (out++ [E (none,some b[i])]) (by omega) (by omega) (by simp;omega) (fun v hv=>(hg v (by rw [hs];exact List.mem_cons_of_mem _ hv)).shift);refine To.succ ?_;simp only [M.aQ];refine To.pos (by omega) (To.bindS (dZ hlt) (To.bind (hg b[i] (by rw [hs];exact List.mem_cons_self)).shift (To.bindS (dL (by simp;omega)) (To.bindS (dS (by omega)) (h2.of (by rw [hs];simp))))))
theorem Jk{Q:Nat→Nat→Prop}(hl:a.length+b.length≤50000):∀ (ps:List (Nat×Nat)) (i k:Nat) (out:List TU),Ris a.length b.length Q i k ps→i≤a.length→k≤b.length→out.length≤i+k→(∀ e∈aln a b i k ps,Wv go co st E e)→
  To (fun n=>M.aM n a b (go n) (co n) (st n) (ps.map toP++ [⟨(a.length:Int),(b.length:Int)⟩]) out (i:Int) (k:Int)) (out++(aln a b i k ps).map E):=by
 intro ps;induction ps with
 | nil=>
  intro i k out hr hi hk ho hE;have t1:(a.drop i).take (a.length-i)=a.drop i:=List.take_of_length_le (by simp);have t2:(b.drop k).take (b.length-k)=b.drop k:=List.take_of_length_le (by simp);have h1:=IB a E ⟨(a.length:Int),(b.length:Int)⟩ a.length rfl (Nat.le_refl _) (by omega) _ i go out rfl hi (by omega) (fun v hv=>hE (some v,none) (by rw [t1] at hv;simp only [aln,List.mem_append,List.mem_map];exact .inl ⟨v,hv,rfl⟩));have h2:=IC b E ⟨(a.length:Int),(b.length:Int)⟩ b.length rfl (Nat.le_refl _) (by omega) _ k co (out++((a.drop i).take (a.length-i)).map (fun v=>E (some v,none))) rfl hk (by simp;omega) (fun v hv=>hE (none,some v) (by rw [t2] at hv;simp only [aln,List.mem_append,List.mem_map];exact .inr ⟨v,hv,rfl⟩));simp only [List.map_nil,List.nil_append,M.aM];refine To.bind h1 ?_;dsimp only;refine To.bind h2 ?_;dsimp only;refine To.bind (a:=false) (To.neg (by omega) To.pure) (To.neg (by decide) (To.pure.of ?_));rw [t1,t2];simp [aln,Function.comp_def]
 | cons p ps ih=>
  rintro i k out ⟨q1,q2,q3,q4,q5,q6⟩ hi hk ho hE;have h1:=IB a E (toP p) p.1 rfl (by omega) (by omega) _ i go out rfl q1 (by omega) (fun v hv=>hE (some v,none) (by simp only [aln,List.mem_append,List.mem_map];exact .inl ⟨v,hv,rfl⟩));have h2:=IC b E (toP p) p.2 rfl (by omega) (by omega) _ k co (out++((a.drop i).take (p.1-i)).map (fun v=>E (some v,none))) rfl q2 (by simp;omega) (fun v hv=>hE (none,some v) (by simp only [aln,List.mem_append,List.mem_map];exact .inr (.inl ⟨v,hv,rfl⟩)));have ga:=List.getElem?_eq_getElem q3;have gb:=List.getElem?_eq_getElem q4;have h3:Wv go co st E (some a[p.1],some b[p.2]):=hE _ (by rw [aln,ga,gb];simp);have h3:To (fun n=>st n a[p.1] b[p.2]) (E (some a[p.1],some b[p.2])):=h3;have h4:=ih (p.1+1) (p.2+1) (out++((a.drop i).take (p.1-i)).map (fun v=>E (some v,none))++((b.drop k).take (p.2-k)).map (fun v=>E (none,some v))++ [E (some a[p.1],some b[p.2])]) q6 (by omega) (by omega) (by simp;omega) (fun e he=>hE e (by simp only [aln,List.mem_append,List.mem_cons];exact .inr (.inr (.inr he))));simp only [List.map_cons,List.cons_append,M.aM];refine To.bind h1 ?_;dsimp only;refine To.bind h2 ?_;dsimp only;refine To.bind (a:=true) (To.pos (by simp only [toP];omega) (To.pure.of (by simp only [toP];simp;omega))) (To.pos rfl (To.bindS (dZ q3) (To.bindS (dZ q4) (To.bind h3 (To.bindS (dL (by simp;omega)) (To.bindS (dS (by omega)) (To.bindS (dS (by omega)) (h4.of ?_))))))));simp [aln,ga,gb,Function.comp_def]
theorem Jp{Q:Nat→Nat→Prop}(hl:a.length+b.length≤50000)(ps:List (Nat×Nat))(hr:Ris a.length b.length Q 0 0 ps)(hE:∀ e∈aln a b 0 0 ps,Wv go co st E e) :
  To (fun n=>M.bP n a b (ps.map toP) (go n) (co n) (st n)) ((aln a b 0 0 ps).map E):=by
 have hlen:=hr.len;have hc:M.bU (ps.map toP)=some (ps.map toP):=by
  unfold M.bU;rw [dL (by simp;omega),List.nil_append]
 have h0:=Jk a b go co st E hl ps 0 0 [] hr (by omega) (by omega) (by simp) hE;simp only [M.bP];exact To.bindS hc (To.bindS (dL (by simp;omega)) (To.bind h0 To.pure))
end
end Go.Proofs.YtalogjkalmkpjaaGreatDoor
