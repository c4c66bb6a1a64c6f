import Derived.Test.YtalogjkalmkpjaaGreatDoorRj
import Derived.Test.YtalogjkalmkpjaaGreatDoorSd
/-
  A line of a tracked unit is cut where it was joined: where its bars and colons stand.
-/
set_option linter.unusedVariables false
set_option linter.unusedSimpArgs false
namespace Go.Proofs.YtalogjkalmkpjaaGreatDoor
open Go Go.Dec
def addI(k:Nat)(i:Int):Int:=if i= -1 then -1 else i+(k:Int)
theorem wI(s sub:Str):Lib.index s sub= -1∨0≤Lib.index s sub:=by
 rcases Lib.index_spec s sub with ⟨h1,_⟩ | ⟨i,h1,_⟩
 ·exact .inl h1
 ·exact .inr (by omega)
theorem zi(a b:Nat)(i:Int)(h:i= -1∨0≤i):addI a (addI b i)=addI (a+b) i:=by
 unfold addI;by_cases hi:i= -1
 ·simp [hi]
 ·rw [if_neg hi,if_neg hi,if_neg (by omega)];omega
theorem zk{b:UInt8}{l sub:Str}(h:sub.isPrefixOf (b :: l)=false):Lib.index (b :: l) sub=addI 1 (Lib.index l sub):=by
 rw [Lib.index,h];unfold addI;by_cases hi:Lib.index l sub= -1
 ·simp [hi]
 ·have:(Lib.index l sub== -1)=false:=by simpa using hi
  rw [this,if_neg hi];rfl
theorem vg{b:UInt8}{l sub:Str}(h:sub.isPrefixOf (b :: l)=true):Lib.index (b :: l) sub=0:=by
 rw [Lib.index,h];rfl
theorem nS(c:UInt8)(sub:Str)(rest:Str):∀ x:Str,c ∉ x→Lib.index (x++rest) (c :: sub)=addI x.length (Lib.index rest (c :: sub))
 | [],_=>by
  unfold addI;rcases wI rest (c :: sub) with h | h
  ·simp [h]
  ·rw [if_neg (by omega)];simp
 | b :: x,h=>by
  have hb:c≠b:=fun e=>h (by simp [e]);have ih:=nS c sub rest x (fun hm=>h (List.mem_cons_of_mem _ hm));rw [List.cons_append,zk (by simp [List.isPrefixOf,hb]),ih,zi _ _ _ (wI _ _)];congr 1;simp;omega
theorem Ei{s sub:Str}{x y:Str}(hi:Lib.index s sub=(x.length:Int))(hs:s=x++(sub++y)):Lib.cut s sub=(x,y,true):=by
 unfold Lib.cut;rw [hi,if_pos (by omega),Int.toNat_natCast,hs];have e1:(x++(sub++y)).take x.length=x:=by simp
 have e2:(x++(sub++y)).drop (x.length+sub.length)=y:=by
  rw [←List.append_assoc,←List.length_append,List.drop_left]
 rw [e1,e2]
theorem DC{s sub:Str}(hi:Lib.index s sub= -1):Lib.cut s sub=(s,[],false):=by
 unfold Lib.cut;rw [hi,if_neg (by decide)]
def barS:Str:=[32,124,32]
theorem Ii{p rest:Str}(h32:(32:UInt8) ∉ p)(hp:p≠ [124])(hr:rest= []∨rest.head? =some 32):barS.isPrefixOf (32 :: (p++rest))=false:=by
 cases p with
 | nil=>
  rcases hr with rfl | hr
  ·rfl
  ·cases rest with
   | nil=>rfl
   | cons b l=>
    simp only [List.head?_cons,Option.some.injEq] at hr;subst hr;simp [barS,List.isPrefixOf]
 | cons b p=>
  by_cases hb:b=124
  ·subst hb;cases p with
   | nil=>exact absurd rfl hp
   | cons c p=>
    have hc:(32:UInt8)≠c:=fun e=>h32 (by simp [e]);simp [barS,List.isPrefixOf,hc]
  ·have hb':(124:UInt8)≠b:=fun e=>hb e.symm;simp [barS,List.isPrefixOf,hb']
theorem FP(ps:List Str)(rest:Str)(hr:rest= []∨rest.head? =some 32):dK ps++rest= []∨(dK ps++rest).head? =some 32:=by
 cases ps with
 | nil=>exact hr
 | cons p ps=>exact .inr rfl
theorem xq(rest:Str)(hr:rest= []∨rest.head? =some 32):∀ (ps:List Str),(∀ p∈ps,(32:UInt8) ∉ p∧p≠ [124])→∀ x:Str,(32:UInt8) ∉ x→Lib.index (x++(dK ps++rest)) barS=addI (x.length+(dK ps).length) (Lib.index rest barS)
 | [],_,x,hx=>nS 32 [124,32] rest x hx
 | p :: ps,h,x,hx=>by
  have hp:=h p List.mem_cons_self;have ih:=xq rest hr ps (fun q hq=>h q (List.mem_cons_of_mem _ hq)) p hp.1;have e:dK (p :: ps)++rest=32 :: (p++(dK ps++rest)):=by simp [dK]
  have hs:=nS 32 [124,32] (dK (p :: ps)++rest) x hx;rw [show (32 :: [124,32]:Str)=barS from rfl] at hs;rw [hs,e,zk (Ii hp.1 hp.2 (FP ps rest hr)),ih,zi _ _ _ (wI _ _),zi _ _ _ (wI _ _)];congr 1;simp [dK];omega
theorem Ij{x:Str}{ps:List Str}(hx:(32:UInt8) ∉ x)(hp:∀ p∈ps,(32:UInt8) ∉ p∧p≠ [124])(y:Str):Lib.cut (x++(dK ps++(barS++y))) barS=(x++dK ps,y,true):=by
 refine Ei ?_ (by simp);rw [xq _ (.inr rfl) ps hp x hx,show barS++y=32 :: (124 :: 32 :: y) from rfl,vg (by simp [barS,List.isPrefixOf])];simp [addI]
theorem DD{x:Str}{ps:List Str}(hx:(32:UInt8) ∉ x)(hp:∀ p∈ps,(32:UInt8) ∉ p∧p≠ [124]):Lib.cut (x++dK ps) barS=(x++dK ps,[],false):=by
 refine DC ?_;have:=xq [] (.inl rfl) ps hp x hx;rw [List.append_nil] at this;rw [this];rfl
theorem FQ{x:Str}(hx:(58:UInt8) ∉ x)(y:Str):Lib.cut (x++([58,32]++y)) [58,32]=(x,y,true):=by
 refine Ei ?_ rfl;rw [nS 58 [32] _ x hx,show ([58,32]:Str)++y=58 :: (32 :: y) from rfl,vg (by simp [List.isPrefixOf])];simp [addI]
theorem zl{x:Str}(hx:(58:UInt8) ∉ x):Lib.cut x [58,32]=(x,[],false):=by
 refine DC ?_;have:=nS 58 [32] [] x hx;rw [List.append_nil] at this;rw [this];rfl
theorem Ik{s:Str}:esc s≠ [124]:=by
 unfold esc;cases s with
 | nil=>simp
 | cons b l=>
  by_cases hb:spB b=true
  ·simp [hb]
  ·simp only [hb];intro e;simp only [Bool.false_eq_true,if_false,List.cons.injEq] at e;rw [e.1] at hb;exact hb (by decide)
theorem E5:∀ (l:List TW) (p:Option Int),∀ x∈pcsT p l,x≠ [124]
 | [],p,x,hx=>by simp [pcsT] at hx
 | w :: l,p,x,hx=>by
  have hop:∀ s,∀ y∈opP s,y≠ [124]:=by
   intro s y hy;unfold opP at hy;split at hy
   ·rw [List.mem_singleton.1 hy];decide
   ·split at hy
    ·rw [List.mem_singleton.1 hy];decide
    ·cases hy
  have hsh:∀ s,∀ y∈shP s,y≠ [124]:=by
   intro s y hy;unfold shP at hy;split at hy
   ·rw [List.mem_singleton.1 hy];decide
   ·split at hy
    ·rw [List.mem_singleton.1 hy];decide
    ·cases hy
  unfold pcsT at hx;rcases List.mem_append.1 hx with hx | hx
  ·split at hx
   ·cases hx
   ·exact hop _ x hx
  ·rcases List.mem_cons.1 hx with rfl | hx
   ·exact Ik
   ·rcases List.mem_append.1 hx with hx | hx
    ·split at hx
     ·exact hsh _ x hx
     ·cases hx
    ·exact E5 l _ x hx
theorem GY{l:List TW}(h:rowB l=true)(hl:l.length≠0):headT l=58 :: dK (pcsT none l):=by
 unfold headT;rw [if_neg hl];have hf:rowF l=rowT none l:=if_pos h;rw [hf];cases l with
 | nil=>exact absurd rfl hl
 | cons w l=>
  rw [←CW w l];have hne:pcsT none (w :: l)≠ []:=by unfold pcsT;simp
  cases hq:pcsT none (w :: l) with
  | nil=>exact absurd hq hne
  | cons a b=>simp [dK,joinS]
theorem yg(n:Int)(c:UInt8)(h:c.toNat≠45∧(c.toNat<48∨57<c.toNat)):c ∉ Lib.itoa n:=by
 intro hm;rcases FD hm with h1 | h1<;> omega
theorem vk(i:au)(c:UInt8)(h:c.toNat≠45∧(c.toNat<48∨57<c.toNat))(h2:c≠35)(h3:c≠46):c ∉ idF i:=by
 have a:=yg i.Act c h;have b:=yg i.Item c h;have d:=yg i.N c h;unfold idF;simp [a,b,d,h2,h3]
theorem GZ{s:Str}(h:oC s=true):(58:UInt8) ∉ s:=by
 unfold oC at h;simp only [Bool.and_eq_true] at h;intro hm;rw [←List.take_append_drop (s.takeWhile isDig).length s] at hm;rcases List.mem_append.1 hm with hm | hm
 ·have e:s.take (s.takeWhile isDig).length=s.takeWhile isDig:=by
   have h0:=List.takeWhile_append_dropWhile (p:=isDig) (l:=s);have:(s.takeWhile isDig++s.dropWhile isDig).take (s.takeWhile isDig).length=s.takeWhile isDig:=by rw [List.take_append_of_le_length (Nat.le_refl _),List.take_length]
   rw [h0] at this;exact this
  rw [e] at hm;have:=List.all_takeWhile (p:=isDig) (l:=s);have:=List.all_eq_true.1 this _ hm;revert this;decide
 ·have:=List.all_eq_true.1 h.2 _ hm;revert this;decide
theorem FR{k:Int}(h0:0≤k)(h1:k≤7):(58:UInt8) ∉ nameOf k:=by
 obtain ⟨m,rfl⟩:∃ m:Nat,k=(m:Int):=⟨k.toNat,by omega⟩
 have hm:m=0∨m=1∨m=2∨m=3∨m=4∨m=5∨m=6∨m=7:=by omega
 rcases hm with rfl | rfl | rfl | rfl | rfl | rfl | rfl | rfl<;> decide
def zm(l:Str):List Str:=if l= [] then [] else [l]
def wasP(l:Str):List Str:=if l= [] then [] else [[119,97,115],l]
theorem AO(l:Str):dK (zm l)=xc l:=by
 unfold zm xc;split<;> simp [dK]
theorem AP(l:Str):dK (wasP l)=wasT l:=by
 unfold wasP wasT;split<;> simp [dK]
def frP(t:TU):List Str:=zm t.Label++(wasP t.Was++ [idF t.Id])
def frF(t:TU):Str:=nameOf t.Kind++dK (frP t)
theorem BS(t:TU):frF t=nameOf t.Kind++(xc t.Label++(wasT t.Was++(32 :: idF t.Id))):=by
 unfold frF frP;rw [nu,nu,AO,AP];simp [dK]
theorem BU{t:TU}(h:ownB t=true):(t.Label≠ []→oC t.Label=true)∧(t.Was≠ []→oC t.Was=true):=by
 obtain ⟨_,_,h3,h4,_⟩:=of_decide_eq_true h;exact ⟨h3.2,fun e=>(h4 e).1⟩
theorem Ej{t:TU}(h:ownB t=true):∀ p∈frP t,(32:UInt8) ∉ p∧p≠ [124]∧(58:UInt8) ∉ p:=by
 obtain ⟨h1,h2⟩:=BU h;have hlab:∀ s:Str,oC s=true→(32:UInt8) ∉ s∧s≠ [124]∧(58:UInt8) ∉ s:=by
  intro s hs;refine ⟨IW hs,?_,GZ hs⟩;rintro rfl;exact absurd hs (by decide)
 intro p hp;unfold frP zm wasP at hp;simp only [List.mem_append] at hp;rcases hp with hp | hp | hp
 ·split at hp
  ·cases hp
  ·rename_i hn;rw [List.mem_singleton.1 hp];exact hlab _ (h1 hn)
 ·split at hp
  ·cases hp
  ·rename_i hn;rcases List.mem_cons.1 hp with rfl | hp
   ·exact ⟨by decide,by decide,by decide⟩
   ·rw [List.mem_singleton.1 hp];exact hlab _ (h2 hn)
 ·rw [List.mem_singleton.1 hp];exact ⟨vk _ _ (by decide) (by decide) (by decide),by simp [idF],vk _ _ (by decide) (by decide) (by decide)⟩
theorem FT{t:TU}(h:ownB t=true):∃ ps:List Str,frF t++headT t.Head=nameOf t.Kind++dK ps∧ ∀ p∈ps,(32:UInt8) ∉ p∧p≠ [124]:=by
 have hno:=Ej h;obtain ⟨_,⟨hr,_⟩,_⟩:=of_decide_eq_true h;by_cases hl:t.Head.length=0
 ·refine ⟨frP t,?_,fun p hp=>⟨(hno p hp).1,(hno p hp).2.1⟩⟩;unfold headT;rw [if_pos hl,List.append_nil];rfl
 ·refine ⟨zm t.Label++(wasP t.Was++ [idF t.Id++ [58]])++pcsT none t.Head,?_,?_⟩
  ·rw [GY hr hl,BS,nu,nu,nu,AO,AP];simp [dK]
  ·intro p hp;have hst:t.Head.all stB=true:=by unfold rowB at hr;exact (Bool.and_eq_true _ _▸hr).2
   rcases List.mem_append.1 hp with hp | hp
   ·rcases List.mem_append.1 hp with hp | hp
    ·have:=hno p (by unfold frP;simp [hp]);exact ⟨this.1,this.2.1⟩
    ·rcases List.mem_append.1 hp with hp | hp
     ·have:=hno p (by unfold frP;simp [hp]);exact ⟨this.1,this.2.1⟩
     ·rw [List.mem_singleton.1 hp];refine ⟨?_,?_⟩
      ·have:=vk t.Id 32 (by decide) (by decide) (by decide);simp [this]
      ·simp [idF]
   ·exact ⟨D7 _ _ hst p hp,E5 _ _ p hp⟩
theorem DF{t:TU}(hs:sgF t≠ [60]):restF t=(frF t++headT t.Head)++wordsT t.Words:=by
 unfold restF;rw [if_neg hs,BS];simp
theorem G5{t:TU}(h:ownB t=true)(hs:sgF t≠ [60]):Lib.cut (restF t) [32,124,32]=(frF t++headT t.Head,if t.Words.length=0 then [] else rowF t.Words,decide (t.Words.length≠0)):=by
 obtain ⟨ps,e,hps⟩:=FT h;obtain ⟨⟨k0,k7,_⟩,_⟩:=of_decide_eq_true h;rw [DF hs,e];unfold wordsT;by_cases hl:t.Words.length=0
 ·rw [if_pos hl,if_pos hl,List.append_nil];have:=DD (BC k0 k7).1 hps;rw [show ([32,124,32]:Str)=barS from rfl,this];simp [hl]
 ·rw [if_neg hl,if_neg hl];have:=Ij (BC k0 k7).1 hps (rowF t.Words);rw [show ([32,124,32]:Str)=barS from rfl,List.append_assoc,this];simp [hl]
theorem Il{t:TU}(h:ownB t=true):(58:UInt8) ∉ frF t:=by
 have hno:=Ej h;obtain ⟨⟨k0,k7,_⟩,_⟩:=of_decide_eq_true h;unfold frF dK;intro hm;rcases List.mem_append.1 hm with hm | hm
 ·exact FR k0 k7 hm
 ·obtain ⟨p,hp,hm⟩:=List.mem_flatMap.1 hm;rcases List.mem_cons.1 hm with hm | hm
  ·exact absurd hm (by decide)
  ·exact (hno p hp).2.2 hm
theorem FU{t:TU}(h:ownB t=true):Lib.cut (frF t++headT t.Head) [58,32]=(frF t,if t.Head.length=0 then [] else rowF t.Head,decide (t.Head.length≠0)):=by
 have hno:=Il h;unfold headT;by_cases hl:t.Head.length=0
 ·rw [if_pos hl,if_pos hl,List.append_nil,zl hno];simp [hl]
 ·rw [if_neg hl,if_neg hl,FQ hno];simp [hl]
theorem G6{t:TU}(h:ownB t=true):splitC 32 (frF t)=nameOf t.Kind :: frP t:=by
 have hno:=Ej h;obtain ⟨⟨k0,k7,_⟩,_⟩:=of_decide_eq_true h;exact yM _ (fun p hp=>(hno p hp).1) _ (BC k0 k7).1
end Go.Proofs.YtalogjkalmkpjaaGreatDoor
/-
  The line of a tracked unit is read back: the program's parser answers the unit without kids and its depth.
-/
namespace Go.Proofs.YtalogjkalmkpjaaGreatDoor
open Go Go.Dec
theorem vo{c:UInt8}:∀ {x:Str},c ∉ x→splitC c x= [x]
 | [],_=>rfl
 | b :: x,h=>by
  have hb:b≠c:=fun e=>h (by simp [e]);have ih:=vo (x:=x) (fun hm=>h (List.mem_cons_of_mem _ hm));rw [splitC,if_neg hb,ih]
theorem xu{c:UInt8}(rest:Str):∀ {x:Str},c ∉ x→splitC c (x++c :: rest)=x :: splitC c rest
 | [],_=>by rw [List.nil_append,splitC,if_pos rfl]
 | b :: x,h=>by
  have hb:b≠c:=fun e=>h (by simp [e]);have ih:=xu (c:=c) rest (x:=x) (fun hm=>h (List.mem_cons_of_mem _ hm));rw [List.cons_append,splitC,if_neg hb,ih]
theorem zn{m:Int}(h:numB m=true):atoiB (Lib.itoa m)=some (m,false):=by
 obtain ⟨h0,h1⟩:=tK.1 h;have:=nV h;unfold atoiB;rw [if_pos (by omega),FC (by omega) (by omega)]
theorem FV(s:Str):M.strings_TrimPrefix (35 :: s) [35]=some s:=by
 unfold M.strings_TrimPrefix M.fF M.fU;have h1:(([35]:Str).length:Int)≤((35 :: s:Str).length:Int):=by simp;omega
 have h2:slcHi (35 :: s:Str) (([35]:Str).length:Int)=some [35]:=by
  unfold slcHi;rw [if_pos (by simp;omega)];rfl
 have h3:slcLo (35 :: s:Str) (([35]:Str).length:Int)=some s:=by
  unfold slcLo;rw [if_pos (by simp;omega)];rfl
 rw [if_pos h1,h2,Option.bind_some,Option.bind_some];rw [if_pos (by decide),h3];rfl
theorem zo{i:au}(h:idB i=true):M.lF (idF i)=some (i,true):=by
 obtain ⟨h1,h2,h3⟩:=BF.1 h;have no:∀ n:Int,(46:UInt8) ∉ Lib.itoa n:=fun n=>yg n 46 (by decide);have hsp:splitM (Lib.itoa i.Act++46 :: (Lib.itoa i.Item++46 :: Lib.itoa i.N)) [46]=some [Lib.itoa i.Act,Lib.itoa i.Item,Lib.itoa i.N]:=by
  have:=nV h1;have:=nV h2;have:=nV h3;show (if _ then some (splitC 46 _) else none)=_;rw [if_pos (by simp;omega),xu _ (no _),xu _ (no _),vo (no _)]
 have hr:∀ k:Int,0≤k→k<3→∃ u,rngC 3 k=some u:=by
  intro k h0 h3;unfold rngC;rw [if_pos (by omega)];exact ⟨_,rfl⟩
 obtain ⟨u0,r0⟩:=hr 0 (by decide) (by decide);obtain ⟨u1,r1⟩:=hr 1 (by decide) (by decide);obtain ⟨u2,r2⟩:=hr 2 (by decide) (by decide);have r1':rngC 3 ((0:Int)+1)=some u1:=r1;have r2':rngC 3 ((0:Int)+1+1)=some u2:=r2;have hl:M.fI [Lib.itoa i.Act,Lib.itoa i.Item,Lib.itoa i.N] (0:Int) cu (List.replicate 3 (0:Int))=some (.inl (cu,[i.Act,i.Item,i.N])):=by
  simp only [M.fI,zn h1,zn h2,zn h3,Option.bind_some,r0,r1',r2'];rfl
 unfold M.lF idF;rw [FV,Option.bind_some,hsp,Option.bind_some,if_neg (by simp),hl,Option.bind_some];dsimp only;rw [r0,r1,r2,Option.bind_some,Option.bind_some,Option.bind_some];have e:(⟨([i.Act,i.Item,i.N][(0:Int).toNat]?).getD (0:Int),([i.Act,i.Item,i.N][(1:Int).toNat]?).getD (0:Int),([i.Act,i.Item,i.N][(2:Int).toNat]?).getD (0:Int)⟩:au)=i:=rfl;rw [e,uY,Option.bind_some,if_pos h,D8 h,Option.bind_some];simp [idF]
theorem G7:∀ a b:Fin 8,nameOf (a.val:Int)=nameOf (b.val:Int)→a=b:=by decide
theorem xw{k:Int}(h0:0≤k)(h7:k≤7)(r:List Str):∀ (m c:Nat) (t:TU),m+c=8→
  To (fun n=>M.bV (nameOf k :: r) n (c:Int) t) (if (c:Int)≤k then {t with Kind:=k} else t)
 | 0,c,t,hc=>by
  refine To.succ ?_;simp only [M.bV];refine To.bind (a:=false) (To.neg (by omega) To.pure) (To.neg (by decide) (To.pure.of (if_neg (by omega)).symm))
 | m+1,c,t,hc=>by
  refine To.succ ?_;simp only [M.bV];refine To.bind (a:=true) (To.pos (by omega) (To.pure.of (by simp))) (To.pos rfl (To.bindS (kname _) (To.bindS kQ ?_)));by_cases he:(c:Int)=k
  ·subst he;refine To.pos (by simp) (To.bindS (dS (by omega)) ((xw h0 h7 r m (c+1) _ (by omega)).of ?_));rw [if_neg (by omega),if_pos (Int.le_refl _)]
  ·refine To.neg ?_ (To.bindS (dS (by omega)) ((xw h0 h7 r m (c+1) _ (by omega)).of ?_))
   ·intro e;rw [ma] at e;obtain ⟨q,rfl⟩:∃ q:Nat,k=(q:Int):=⟨k.toNat,by omega⟩
    have:=G7 ⟨c,by omega⟩ ⟨q,by omega⟩ e;have:=congrArg Fin.val this;exact he (by simp at this;omega)
   ·by_cases h:(c:Int)≤k
    ·rw [if_pos h,if_pos (by omega)]
    ·rw [if_neg h,if_neg (by omega)]
theorem FW(t:TU):To (fun n=>M.bV [] n (0:Int) t) t:=by
 refine To.succ ?_;simp only [M.bV];exact To.bind (a:=false) (To.pos (by decide) (To.pure.of (by simp))) (To.neg (by decide) To.pure)
theorem Im{α:Type}(l:List α)(x:α):slcHi (l++ [x]) (l.length:Int)=some l:=by
 unfold slcHi;rw [if_pos (by simp;omega)];simp
theorem G8{α:Type}(l:List α)(x:α):idx (l++ [x]) (l.length:Int)=some x:=by
 rw [jX];simp
def z0(t:TU):TU:={av with State:=t.State,Moved:=t.Moved}
def zF(t:TU):TU:={z0 t with Id:=t.Id,Kind:=t.Kind,Label:=t.Label,Was:=t.Was}
theorem G9{t:TU}(h:ownB t=true)(hl:(frF t).length≤1000000):To (fun n=>M.ik n (frF t) (z0 t)) (true,zF t):=by
 obtain ⟨⟨k0,k7,kid⟩,_⟩:=of_decide_eq_true h;obtain ⟨hlab,hwas⟩:=BU h;obtain ⟨L,hL⟩:∃ L,L=nameOf t.Kind :: (zm t.Label++wasP t.Was):=⟨_,rfl⟩
 have hsp:splitM (frF t) [32]=some (L++ [idF t.Id]):=by
  show (if _ then some (splitC 32 _) else none)=_;rw [if_pos (by omega),G6 h,hL];simp [frP]
 have hLl:L.length≤4:=by
  rw [hL];unfold zm wasP;split<;> split<;> simp
 have hsub:subC ((L++ [idF t.Id]).length:Int) (1:Int)=some (L.length:Int):=by
  rw [iH (by simp) (by simp;omega)];simp
 have hk:=xw k0 k7 (zm t.Label++wasP t.Was) 8 0 {z0 t with Id:=t.Id} rfl;rw [←hL,if_pos (by omega)] at hk;simp only [M.ik];refine To.bindS hsp (To.bindS hsub (To.bindS (G8 _ _) (To.bindS (zo kid) (To.neg (by simp) (To.bindS hsub (To.bindS (Im _ _) (To.bind hk ?_)))))));have hw:∀ s:Str,oC s=true→(s==([119,97,115]:Str))=false:=by
  intro s hs;have:s≠ [119,97,115]:=by
   rintro rfl;exact absurd hs (by decide)
  simpa using this
 by_cases h1:t.Label= []
 ·by_cases h2:t.Was= []
  ·have e:L= [nameOf t.Kind]:=by rw [hL,h1,h2];rfl
   rw [e];refine To.bind (a:=false) (To.neg (by simp) To.pure) (To.neg (by decide) (To.neg (by simp) (To.neg (by simp) (To.pure.of ?_))));simp [zF,h1,h2,z0,av]
  ·have e:L= [nameOf t.Kind,[119,97,115],t.Was]:=by rw [hL,h1];simp [zm,wasP,h2]
   rw [e];refine To.bind (a:=true) (To.pos (by simp) (To.bindS (a:=[119,97,115]) rfl (To.pure.of (by simp)))) (To.pos rfl (To.bindS (a:=t.Was) rfl (To.pure.of ?_)));simp [zF,h1,z0,av]
 ·by_cases h2:t.Was= []
  ·have e:L= [nameOf t.Kind,t.Label]:=by rw [hL,h2];simp [zm,wasP,h1]
   rw [e];refine To.bind (a:=false) (To.neg (by simp) To.pure) (To.neg (by decide) (To.neg (by simp) (To.pos (by simp) (To.bindS (a:=t.Label) rfl (To.pure.of ?_)))));simp [zF,h2,z0,av]
  ·have e:L= [nameOf t.Kind,t.Label,[119,97,115],t.Was]:=by rw [hL];simp [zm,wasP,h1,h2]
   rw [e];refine To.bind (a:=false) (To.neg (by simp) To.pure) (To.neg (by decide) (To.pos (by simp) (To.bindS (a:=t.Label) rfl (To.bindS (a:=t.Was) rfl (To.pure.of ?_)))));simp [zF,z0,av]
theorem DI(t:TU)(h:idB t.Id=true):To (fun n=>M.ik n (idF t.Id) (z0 t)) (true,{z0 t with Id:=t.Id}):=by
 have hno:(32:UInt8) ∉ idF t.Id:=vk _ _ (by decide) (by decide) (by decide);have hl:=wu h;have hsp:splitM (idF t.Id) [32]=some [idF t.Id]:=by
  show (if _ then some (splitC 32 _) else none)=_;rw [if_pos (by omega),vo hno]
 simp only [M.ik];refine To.bindS hsp (To.bindS (a:=0) rfl (To.bindS (a:=idF t.Id) rfl (To.bindS (zo h) (To.neg (by simp) (To.bindS (a:=0) rfl (To.bindS (a:=[]) rfl (To.bind (FW _) ?_)))))));exact To.bind (a:=false) (To.neg (by decide) To.pure) (To.neg (by decide) (To.neg (by decide) (To.neg (by decide) To.pure)))
def sp(b:UInt8):Bool:=b==32
theorem Io(s:Str):To (fun n=>M.j6 n s [32]) (s.dropWhile sp):=by
 have loop:∀ s:Str,To (fun n=>M.dB (32:Int) n s) (s.dropWhile sp):=by
  intro s;induction s with
  | nil=>
   refine To.succ ?_;simp only [M.dB];exact To.neg (by simp) To.pure
  | cons c r ih=>
   refine To.succ ?_;simp only [M.dB];refine To.pos (by simp) (To.bindS kQ ?_);by_cases hc:c=32
   ·subst hc;refine To.pos (by decide) (To.bindS (a:=r) ?_ (ih.of (by rw [List.dropWhile_cons_of_pos (by decide)])));unfold slcLo;rw [if_pos (by simp;omega)];rfl
   ·refine To.neg ?_ (To.pure.of (by rw [List.dropWhile_cons_of_neg (by simpa [sp] using hc)]));intro e;apply hc;apply UInt8.toNat_inj.1;show c.toNat=32;omega
 simp only [M.j6];by_cases hs:s= []
 ·subst hs;exact To.bind (a:=true) (To.pos (by simp) To.pure) (To.pos rfl To.pure)
 ·refine To.bind (a:=false) (To.neg (by simpa using hs) (To.pure.of (by decide))) (To.neg (by simp) ?_);refine To.bind (a:=true) (To.pos (by decide) (To.bindS kQ (To.pure.of (by decide)))) (To.pos rfl (To.bindS kQ ?_));refine To.bind (a:=s.dropWhile sp) ?_ To.pure;simp only [M.strings_trimLeftByte];exact To.bind (loop s) To.pure
def Sgn(t:TU):Prop:=ownS t∨t.State=2∧t.Moved=true
theorem BV(t:TU):∃ b,sgF t= [b]∧b≠32:=by
 unfold sgF;split
 ·split
  ·exact ⟨_,rfl,by decide⟩
  ·exact ⟨_,rfl,by decide⟩
 ·split
  ·exact ⟨_,rfl,by decide⟩
  ·split
   ·exact ⟨_,rfl,by decide⟩
   ·exact ⟨_,rfl,by decide⟩
theorem Ha(d:Nat)(s:Str):(indF d++s).dropWhile sp=s.dropWhile sp:=by
 induction d with
 | zero=>rfl
 | succ d ih=>
  have e:indF (d+1)++s=32 :: 32 :: (indF d++s):=by
   unfold indF;rw [Lib.repeatL];rfl
  rw [e,List.dropWhile_cons_of_pos (by decide),List.dropWhile_cons_of_pos (by decide),ih]
theorem FX(t:TU)(d:Nat):(kR d t).dropWhile sp=sgF t++(32 :: restF t):=by
 obtain ⟨b,hb,hn⟩:=BV t;unfold kR;rw [Ha,hb,List.singleton_append,List.dropWhile_cons_of_neg (by simpa [sp] using hn)]
theorem AQ{k d j:Nat}{t:TU}(hm:mayF k d t=true)(hs:szP j t):placeB t=true∨ownB t=true:=by
 cases k with
 | zero=>cases hm
 | succ k=>
  unfold mayF at hm;rw [Bool.or_eq_true,Bool.and_eq_true,Bool.and_eq_true] at hm;rcases hm with ⟨_,hm⟩ | ⟨hm,_⟩
  ·exact .inl hm
  ·exact .inr hm
theorem Hd{t:TU}(h:ownB t=true):sgF t≠ [60]:=by
 obtain ⟨_,_,_,_,h5⟩:=of_decide_eq_true h;unfold sgF;rcases h5 with h | ⟨h,h2⟩
 ·rw [if_pos h,if_pos h];split<;> decide
 ·rw [h2];simp only [Bool.false_eq_true,if_false];split
  ·decide
  ·split<;> decide
theorem I5{t:TU}(h:LineP t):(frF t).length≤1000:=by
 obtain ⟨h1,h2,h3,h4,h5,h6⟩:=h;have:=wu h1;have:=yU t.Label;have:=yV t.Was;have:=yS t.Kind;rw [BS];simp;omega
theorem BX(t:TU):spSk t t.Kids=t:=by
 cases t;rfl
theorem I7(t:TU):ownB (spSk t [])=ownB t:=rfl
theorem Ip(t:TU)(d:Nat):kR d (spSk t [])=kR d t:=rfl
theorem He{t:TU}(h:LineP t):LineP (spSk t []):=h
theorem I8{t:TU}{d:Nat}(hd:d≤8)(hL:LineP t)(hb:t.Head.length+t.Words.length≤2000)(h:placeB (spSk t [])=true∨ownB t=true) :
  To (fun n=>if true=false then some true else
   Option.bind (M.iE n (spSk t [])) fun validu=>
    if validu=false then
     Option.bind (M.dH (spSk t [])) fun isplac=>
     if isplac=false then some true else
      Option.bind (M.iQ n (spSk t []) (d:Int)) fun line=>some (line !=kR d t)
    else
     Option.bind (M.iQ n (spSk t []) (d:Int)) fun line1=>some (line1 !=kR d t)) false:=by
 have hln:=EJ (spSk t []) d (by omega) (He hL);rw [Ip] at hln;refine To.neg (by decide) (To.bind (GI (spSk t [])) ?_);rw [I7];by_cases ho:ownB t=true
 ·exact To.neg (by simp [ho]) (To.bind hln (To.pure.of (by simp)))
 ·have hp:=h.resolve_right ho;refine To.pos (by simpa using ho) (To.bindS (yR _ (by show t.Head.length+t.Words.length+0≤_;omega)) ?_);exact To.neg (by simp [hp]) (To.bind hln (To.pure.of (by simp)))
theorem DJ{l:List TW}(h:rowB l=true):l.length≤512:=by
 unfold rowB at h;rw [Bool.and_eq_true] at h;exact of_decide_eq_true h.1
theorem zq{k j:Nat}(t:TU)(d:Nat)(hd:d≤8)(hm:mayF k d t=true)(hs:szP j t):To (fun n=>M.kg n (kR d t)) (spSk t [],(d:Int),true):=by
 have hL:=yX hm hs;have hll:=Da (d:=d) (by omega) hL;have hrl:=CZ hL;have hfl:=I5 hL;obtain ⟨b,hb,hn⟩:=BV t;have hcase:=AQ hm hs;have htr:=Io (kR d t);rw [FX] at htr;have hsub:subC ((kR d t).length:Int) ((sgF t++(32 :: restF t)).length:Int)=some ((d*2:Nat):Int):=by
  have e:(kR d t).length=d*2+(sgF t++(32 :: restF t)).length:=by
   unfold kR;rw [List.length_append,yT]
  rw [e,iH (by omega) (by omega)];congr 1;omega
 have hquo:quoC ((d*2:Nat):Int) (2:Int)=some (d:Int):=by
  have:=Ez (d*2) 2 (by omega) (by decide);rw [show ((2:Nat):Int)=2 from rfl] at this;rw [this];congr 2;omega
 have hsz:t.Head.length+t.Words.length≤2000:=by
  rcases hcase with h | h
  ·have:=(of_decide_eq_true h).2.2.2.2.2.2;omega
  ·obtain ⟨_,⟨h1,h2⟩,_⟩:=of_decide_eq_true h;have:=DJ h1;have:=DJ h2;omega
 have hfin:=I8 hd hL hsz (by
  rcases hcase with h | h
  ·left;have e:spSk t []=t:=by have:=(oV h).1;rw [←this];exact BX t
   rw [e];exact h
  ·exact .inr h)
 have hsg:(Option.bind (idx (sgF t++(32 :: restF t)) (0:Int)) fun b3=>
     if (b3.toNat:Int)=(61:Int) then
      (some (.inl (av,av)):Option ((aa×aa) ⊕ (aa×Int×Bool)))
     else
      if (b3.toNat:Int)=(43:Int) then
       some (.inl (av,({av with State:=(1:Int)}:aa)))
      else
       if (b3.toNat:Int)=(62:Int) then
        some (.inl (av,({({av with State:=(1:Int)}:aa) with Moved:=true}:aa)))
       else
        if (b3.toNat:Int)=(45:Int) then
         some (.inl (av,({av with State:=(2:Int)}:aa)))
        else
         if (b3.toNat:Int)=(60:Int) then
          some (.inl (av,({({av with State:=(2:Int)}:aa) with Moved:=true}:aa)))
         else
          some (.inr ((⟨(0:Int),(0:Int),cu,([]:Str),([]:Str),false,([]:List ah),([]:List ah),([]:List aa)⟩:aa),(0:Int),false)))=some (.inl (av,z0 t)):=by
  have hS:Sgn t:=by
   rcases hcase with h | h
   ·exact .inr ⟨(of_decide_eq_true h).1,(of_decide_eq_true h).2.1⟩
   ·exact .inl (of_decide_eq_true h).2.2.2.2
  have e0:∀ c:UInt8,sgF t= [c]→idx (sgF t++(32 :: restF t)) (0:Int)=some c:=by
   intro c hc;rw [hc];rfl
  rcases hS with h | ⟨h1,h2⟩
  ·by_cases hmv:t.Moved=true
   ·rcases h with h | ⟨_,h⟩
    ·have hc:sgF t= [62]:=by unfold sgF;rw [if_pos hmv,if_pos h]
     rw [e0 _ hc];simp [z0,hmv,h]
    ·rw [h] at hmv;cases hmv
   ·have hmv':t.Moved=false:=by simpa using hmv
    have h3:t.State=1∨t.State=0∨t.State=2:=by
     rcases h with h | ⟨h | h,_⟩
     ·exact .inl h
     ·exact .inr (.inl h)
     ·exact .inr (.inr h)
    rcases h3 with h | h | h
    ·have hc:sgF t= [43]:=by unfold sgF;rw [if_neg hmv,if_pos h]
     rw [e0 _ hc];simp [z0,hmv',h,av]
    ·have hc:sgF t= [61]:=by unfold sgF;rw [if_neg hmv,if_neg (by omega),if_neg (by omega)]
     rw [e0 _ hc];simp [z0,hmv',h,av]
    ·have hc:sgF t= [45]:=by unfold sgF;rw [if_neg hmv,if_neg (by omega),if_pos h]
     rw [e0 _ hc];simp [z0,hmv',h,av]
  ·have hc:sgF t= [60]:=by unfold sgF;rw [if_pos h2,if_neg (by omega)]
   rw [e0 _ hc];simp [z0,h1,h2]
 simp only [M.kg];refine To.bind htr (To.bindS hsub (To.bindS hquo (To.bind (a:=false) (To.neg ?_ (To.bindS (a:=32) ?_ (To.pure.of (by decide)))) (To.neg (by decide) (To.bindS hsg ?_)))))
 ·rw [List.length_append,BH];simp;omega
 ·rw [hb];rfl
 have hlo:slcLo (sgF t++(32 :: restF t)) (2:Int)=some (restF t):=by
  rw [hb];unfold slcLo;rw [if_pos (by simp;omega)];rfl
 have hcm:∀ s sep:Str,s.length≤200000→cutM s sep=some (Lib.cut s sep):=fun s sep h=>if_pos (by omega);dsimp only;refine To.bindS hlo (To.bindS (hcm _ _ (by omega)) ?_);by_cases ho:ownB t=true
 ·have hsn:=Hd ho;obtain ⟨⟨k0,k7,kid⟩,⟨hr1,hr2⟩,_⟩:=of_decide_eq_true ho;have hpl:(frF t++headT t.Head).length≤200000:=by have:=xe t.Head;rw [List.length_append];omega
  rw [G5 ho hsn];dsimp only;refine To.bindS (hcm _ _ hpl) ?_;rw [FU ho];dsimp only;refine To.bind (G9 ho (by omega)) ?_;dsimp only;refine To.bind (a:=(true,{zF t with Head:=t.Head})) ?_ ?_
  ·by_cases hh:t.Head.length=0
   ·have h0:t.Head= []:=List.eq_nil_of_length_eq_zero hh;refine To.bind (a:=false) (To.neg (by simp [hh]) To.pure) (To.neg (by decide) (To.pure.of ?_));rw [h0];rfl
   ·have hps:=CR (rowF t.Head) (um _);rw [CY _ hr1] at hps;rw [if_neg hh];exact To.bind (a:=true) (To.pos (by simp [hh]) To.pure) (To.pos rfl (To.bind hps To.pure))
  dsimp only;refine To.bind (a:=(true,spSk t [])) ?_ ?_
  ·by_cases hh:t.Words.length=0
   ·have h0:t.Words= []:=List.eq_nil_of_length_eq_zero hh;refine To.bind (a:=false) (To.neg (by simp [hh]) To.pure) (To.neg (by decide) (To.pure.of ?_));unfold spSk zF z0;rw [h0];rfl
   ·have hps:=CR (rowF t.Words) (um _);rw [CY _ hr2] at hps;rw [if_neg hh];exact To.bind (a:=true) (To.pos (by simp [hh]) To.pure) (To.pos rfl (To.bind hps To.pure))
  ·exact To.bind hfin (To.neg (by decide) To.pure)
 ·have hp:=hcase.resolve_right ho;obtain ⟨p1,p2,p3,p4,p5,p6,p7⟩:=of_decide_eq_true hp;have hsg2:=(oV hp).2;have hre:restF t=idF t.Id:=if_pos hsg2;have hb1:=DD (x:=idF t.Id) (ps:=[]) (vk _ _ (by decide) (by decide) (by decide)) (fun p hp=>by cases hp);rw [show dK []= [] from rfl,List.append_nil] at hb1;have hc1:=zl (x:=idF t.Id) (vk _ _ (by decide) (by decide) (by decide));have hil:=wu p3;rw [hre,show ([32,124,32]:Str)=barS from rfl,hb1];dsimp only;refine To.bindS (hcm _ _ (by omega)) ?_;rw [hc1];dsimp only;refine To.bind (DI t p3) ?_;dsimp only;have e:({z0 t with Id:=t.Id}:TU)=spSk t []:=by have h1:t.Head= []:=List.eq_nil_of_length_eq_zero (by omega);have h2:t.Words= []:=List.eq_nil_of_length_eq_zero (by omega);unfold spSk z0;rw [p4,p5,p6,h1,h2];rfl
  rw [e];refine To.bind (a:=(true,spSk t [])) (To.bind (a:=false) (To.neg (by decide) To.pure) (To.neg (by decide) To.pure)) ?_;dsimp only;refine To.bind (a:=(true,spSk t [])) (To.bind (a:=false) (To.neg (by decide) To.pure) (To.neg (by decide) To.pure)) ?_;dsimp only;exact To.bind hfin (To.neg (by decide) To.pure)
theorem Hf{s:Str}(h:wordB s=true):(10:UInt8) ∉ s:=by
 intro hm;unfold wordB at h;rw [Bool.and_eq_true] at h;have:=List.all_eq_true.1 h.2 _ hm;revert this;decide
theorem Hg{s:Str}(h:wordB s=true):(10:UInt8) ∉ esc s:=by
 have h1:=Hf h;unfold esc;split
 ·simp
 ·split
  ·simp at h1 ⊢;exact h1
  ·exact h1
theorem DK:∀ (l:List TW) (p:Option Int),l.all stB=true→(10:UInt8) ∉ rowT p l
 | [],_,_=>by simp [rowT]
 | w :: l,p,h=>by
  rw [List.all_cons,Bool.and_eq_true] at h;have ih:=DK l (some w.State) h.2;have he:=Hg (nU.1 h.1).1;have hop:∀ s,(10:UInt8) ∉ opS s:=by
   intro s;unfold opS;split
   ·decide
   ·split<;> decide
  have hsh:∀ s,(10:UInt8) ∉ shS s:=by
   intro s;unfold shS;split
   ·decide
   ·split<;> decide
  unfold rowT;intro hm;rcases List.mem_append.1 hm with hm | hm
  ·split at hm
   ·revert hm;decide
   ·cases hm
  rcases List.mem_append.1 hm with hm | hm
  ·split at hm
   ·cases hm
   ·exact hop _ hm
  rcases List.mem_append.1 hm with hm | hm
  ·exact he hm
  rcases List.mem_append.1 hm with hm | hm
  ·split at hm
   ·exact hsh _ hm
   ·cases hm
  ·exact ih hm
theorem AR(l:List TW):(10:UInt8) ∉ rowF l:=by
 unfold rowF;split
 ·rename_i h;unfold rowB at h;rw [Bool.and_eq_true] at h;exact DK l none h.2
 ·simp
theorem DL{s:Str}(h:oC s=true):(10:UInt8) ∉ s:=by
 unfold oC at h;simp only [Bool.and_eq_true] at h;intro hm;rw [←List.take_append_drop (s.takeWhile isDig).length s] at hm;rcases List.mem_append.1 hm with hm | hm
 ·have e:s.take (s.takeWhile isDig).length=s.takeWhile isDig:=by
   have h0:=List.takeWhile_append_dropWhile (p:=isDig) (l:=s);have:(s.takeWhile isDig++s.dropWhile isDig).take (s.takeWhile isDig).length=s.takeWhile isDig:=by rw [List.take_append_of_le_length (Nat.le_refl _),List.take_length]
   rw [h0] at this;exact this
  rw [e] at hm;have:=List.all_takeWhile (p:=isDig) (l:=s);have:=List.all_eq_true.1 this _ hm;revert this;decide
 ·have:=List.all_eq_true.1 h.2 _ hm;revert this;decide
theorem FY{k:Int}(h0:0≤k)(h1:k≤7):(10:UInt8) ∉ nameOf k:=by
 obtain ⟨m,rfl⟩:∃ m:Nat,k=(m:Int):=⟨k.toNat,by omega⟩
 have hm:m=0∨m=1∨m=2∨m=3∨m=4∨m=5∨m=6∨m=7:=by omega
 rcases hm with rfl | rfl | rfl | rfl | rfl | rfl | rfl | rfl<;> decide
theorem DN:∀ d:Nat,(10:UInt8) ∉ indF d
 | 0=>by simp [indF,Lib.repeatL]
 | d+1=>by
  have:=DN d;rw [←Ae];simp [this]
theorem AU{k d j:Nat}{t:TU}(hm:mayF k d t=true)(hs:szP j t):(10:UInt8) ∉ kR d t:=by
 have hid:(10:UInt8) ∉ idF t.Id:=vk _ _ (by decide) (by decide) (by decide);obtain ⟨b,hb,hn⟩:=BV t;have hsg:(10:UInt8) ∉ sgF t:=by
  unfold sgF;split
  ·split<;> decide
  ·split
   ·decide
   ·split<;> decide
 have hre:(10:UInt8) ∉ restF t:=by
  rcases AQ hm hs with h | h
  ·have:restF t=idF t.Id:=if_pos (oV h).2;rw [this];exact hid
  ·obtain ⟨⟨k0,k7,kid⟩,⟨hr1,hr2⟩,_⟩:=of_decide_eq_true h;obtain ⟨h1,h2⟩:=BU h;have a1:=FY k0 k7;have a2:(10:UInt8) ∉ xc t.Label:=by
    unfold xc;split
    ·simp
    ·rename_i hq;have:=DL (h1 hq);simp [this]
   have a3:(10:UInt8) ∉ wasT t.Was:=by
    unfold wasT;split
    ·simp
    ·rename_i hq;have:=DL (h2 hq);simp [this]
   have a4:(10:UInt8) ∉ headT t.Head:=by
    unfold headT;split
    ·simp
    ·have:=AR t.Head;simp [this]
   have a5:(10:UInt8) ∉ wordsT t.Words:=by
    unfold wordsT;split
    ·simp
    ·have:=AR t.Words;simp [this]
   rw [DF (Hd h),BS];simp [a1,a2,a3,a4,a5,hid]
 unfold kR;have:=DN d;simp [this,hsg,hre]
end Go.Proofs.YtalogjkalmkpjaaGreatDoor
/-
  The spine of open levels: the lines of a unit, read at its depth, add that unit to the open level.
-/
namespace Go.Proofs.YtalogjkalmkpjaaGreatDoor
open Go Go.Dec
def nrm(sp:SpL):SpL:=sp.map fun x=>(x.1,spSk x.2 [])
theorem yh(a b:SpL):nrm (a++b)=nrm a++nrm b:=List.map_append ..
theorem Fa(a:SpL):(nrm a).length=a.length:=List.length_map ..
theorem Jn(u:TU)(a b:List TU):spSk (spSk u a) b=spSk u b:=rfl
def Opn(T:SpL)(xs:List TU)(u:TU)(sp:SpL)(ys:List TU):Prop:=
 T.length+1≤sp.length∧nrm (sp.take (T.length+1))=nrm T++ [(xs,spSk u [])]∧M.rP (sp.drop (T.length+1))=ys
theorem Opn.split{T:SpL}{xs:List TU}{u:TU}{sp:SpL}{ys:List TU}(h:Opn T xs u sp ys) :
  ∃ u' r,sp.drop T.length=(xs,u') :: r∧spSk u' []=spSk u []∧M.rP r=ys∧nrm (sp.take T.length)=nrm T:=by
 obtain ⟨h1,h2,h3⟩:=h;have hd:sp.drop T.length=sp[T.length] :: sp.drop (T.length+1):=List.drop_eq_getElem_cons (by omega);have ht:sp.take (T.length+1)=sp.take T.length++ [sp[T.length]]:=by
  rw [List.take_add_one,List.getElem?_eq_getElem (by omega)];rfl
 rw [ht,yh] at h2;have hl:(nrm (sp.take T.length)).length=(nrm T).length:=by
  rw [Fa,Fa,List.length_take];omega
 obtain ⟨e1,e2⟩:=List.append_inj h2 hl;have e3:=List.head_eq_of_cons_eq e2;have e4:sp[T.length].1=xs:=congrArg Prod.fst e3;have e5:spSk sp[T.length].2 []=spSk u []:=congrArg Prod.snd e3;exact ⟨sp[T.length].2,sp.drop (T.length+1),by rw [hd,←e4],e5,h3,e1⟩
theorem BZ{a b:TU}(h:spSk a []=spSk b [])(ks:List TU):spSk a ks=spSk b ks:=by
 have:=congrArg (fun x=>spSk x ks) h;exact this
theorem Opn.at{T:SpL}{xs:List TU}{u:TU}{sp:SpL}{ys:List TU}(h:Opn T xs u sp ys):M.Ey sp T.length=some (spSk u ys):=by
 obtain ⟨u',r,h1,h2,h3,h4⟩:=h.split;unfold M.Ey;rw [h1,←h3,←BZ h2]
theorem Opn.push{T:SpL}{xs:List TU}{u:TU}{sp:SpL}{ys:List TU}(h:Opn T xs u sp ys)(hl:ys.length≤100000)(w:TU) :
  ∃ sp2,M.vN sp T.length w=some sp2∧Opn (T++ [(xs,u)]) ys w sp2 []:=by
 obtain ⟨u',r,h1,h2,h3,h4⟩:=h.split;have hT:(sp.take T.length).length=T.length:=by
  have:=h.1;rw [List.length_take];omega
 refine ⟨sp.take T.length++ [(xs,spSk u' (ys++ [w])),(ys,w)],?_,?_,?_,?_⟩
 ·unfold M.vN;rw [h1];show Option.bind (appC (M.rP r) [w]) _=_;rw [h3,dL (by simp;omega)];rfl
 ·simp [hT]
 ·have e:(sp.take T.length++ [(xs,spSk u' (ys++ [w])),(ys,w)]).take ((T++ [(xs,u)]).length+1)=sp.take T.length++ [(xs,spSk u' (ys++ [w])),(ys,w)]:=by rw [List.take_of_length_le];simp [hT]
  rw [e,yh,h4,yh,List.append_assoc];congr 1;show [(xs,spSk (spSk u' (ys++ [w])) []),(ys,spSk w [])]= [(xs,spSk u [])]++ [(ys,spSk w [])];rw [Jn,h2];rfl
 ·rw [List.drop_eq_nil_of_le (by simp [hT])];rfl
theorem Opn.shut{T:SpL}{xs ys ks:List TU}{u w:TU}{sp:SpL}(h:Opn (T++ [(xs,u)]) ys w sp ks):Opn T xs u sp (ys++ [spSk w ks]):=by
 have hl:=h.1;rw [List.length_append,List.length_singleton] at hl;obtain ⟨w',r,h1,h2,h3,h4⟩:=h.split;rw [List.length_append,List.length_singleton] at h1 h4;refine ⟨by omega,?_,?_⟩
 ·rw [h4,yh];rfl
 ·rw [h1];show ys++ [spSk w' (M.rP r)]=_;rw [h3,BZ h2]
theorem Hl{x:Str}(hx:(10:UInt8) ∉ x)(y:Str):Lib.cut (x++(10 :: y)) [10]=(x,y,true):=by
 refine Ei ?_ rfl;rw [nS 10 [] _ x hx,vg (by simp [List.isPrefixOf])];simp [addI]
def Par(u:TU):Prop:=¬ (u.State=2∧u.Moved=true)∧u.Head.length+u.Words.length≤2000
theorem Hm{u:TU}(h:Par u)(ks:List TU)(hk:ks.length≤90000):M.dH (spSk u ks)=some false:=by
 have:=h.2;rw [yR _ (by show u.Head.length+u.Words.length+ks.length≤_;omega)];have hn:¬ placeP (spSk u ks):=fun hp=>h.1 ⟨hp.1,hp.2.1⟩;unfold placeB;rw [decide_eq_false hn]
theorem Iq{k d j:Nat}{t:TU}(hm:mayF k d t=true)(hs:szP j t):Par t∨t.Kids= []:=by
 cases k with
 | zero=>cases hm
 | succ k=>
  cases j with
  | zero=>exact absurd hs (by simp [szP])
  | succ j=>
   obtain ⟨s1,s2,s3,s4,s5,s6⟩:=hs;unfold mayF at hm;rw [Bool.or_eq_true,Bool.and_eq_true,Bool.and_eq_true] at hm;rcases hm with ⟨_,hm⟩ | ⟨hm,_⟩
   ·exact .inr (oV hm).1
   ·refine .inl ⟨?_,by omega⟩;obtain ⟨_,_,_,_,h5⟩:=of_decide_eq_true hm;rintro ⟨h1,h2⟩;rcases h5 with h | ⟨_,h⟩
    ·omega
    ·rw [h] at h2;cases h2
abbrev LR:=(SpL×Nat) ⊕ (aa×Int×Int)
theorem spine:∀ (k j:Nat) (w:TU) (T:SpL) (xs ys:List TU) (u:TU) (sp:SpL) (s:Str) (i:Nat),
  k+(T.length+1)=9→k≤j→mayF k (T.length+1) w=true→szP j w→Opn T xs u sp ys→Par u→sp.length≤100→ys.length≤1000→1≤i→i+(fM k (T.length+1) w).length≤1000000→(gI (fM k (T.length+1) w)++s).length≤16384→
  ∃ sp',Opn T xs u sp' (ys++ [w])∧sp'.length≤100∧ ∀ o:LR,To (fun n=>M.dD n s sp' (i+(fM k (T.length+1) w).length)) o→To (fun n=>M.dD n (gI (fM k (T.length+1) w)++s) sp i) o
 | 0,_,_,_,_,_,_,_,_,_,_,_,hm,_,_,_,_,_,_,_,_=>by cases hm
 | k+1,0,_,_,_,_,_,_,_,_,_,h,_,_,_,_,_,_,_,_,_=>by omega
 | k+1,j+1,w,T,xs,ys,u,sp,s,i,hd,hj,hm,hs,hO,hu,hsp,hy,hi,hil,hlen=>by
  have hkids:=ww hm hs;have hpl:=zq (k:=k+1) (j:=j+1) w (T.length+1) (by omega) hm hs;have hno:=AU (k:=k+1) (d:=T.length+1) (j:=j+1) hm hs
  -- the kids
  have loop:∀ (zs done:List TU) (sp:SpL) (i:Nat),(∀ x∈zs,x∈w.Kids)→w.Kids=done++zs→Opn (T++ [(xs,u)]) ys w sp done→sp.length≤100→1≤i→i+(zs.flatMap (fM k (T.length+1+1))).length≤1000000→(gI (zs.flatMap (fM k (T.length+1+1)))++s).length≤16384→
    ∃ sp',Opn (T++ [(xs,u)]) ys w sp' w.Kids∧sp'.length≤100∧ ∀ o:LR,To (fun n=>M.dD n s sp' (i+(zs.flatMap (fM k (T.length+1+1))).length)) o→To (fun n=>M.dD n (gI (zs.flatMap (fM k (T.length+1+1)))++s) sp i) o:=by
   intro zs;induction zs with
   | nil=>
    intro done sp i _ hw hO hsp hi _ _;rw [List.append_nil] at hw;rw [←hw] at hO;exact ⟨sp,hO,hsp,fun o h=>h⟩
   | cons z zs ih=>
    intro done sp i hz hw hO hsp hi hil hlen;have hz1:=hkids z (hz z List.mem_cons_self);have hT:(T++ [(xs,u)]).length=T.length+1:=by simp
    have e:gI ((z :: zs).flatMap (fM k (T.length+1+1)))++s=gI (fM k (T.length+1+1) z)++(gI (zs.flatMap (fM k (T.length+1+1)))++s):=by
     simp [gI,List.flatMap_append]
    have el:((z :: zs).flatMap (fM k (T.length+1+1))).length=(fM k (T.length+1+1) z).length+(zs.flatMap (fM k (T.length+1+1))).length:=by
     rw [List.flatMap_cons,List.length_append]
    rw [e] at hlen ⊢;rw [el] at hil ⊢;have hpw:Par w:=by
     rcases Iq hm hs with h | h
     ·exact h
     ·rw [h] at hw;exact absurd hw (by simp)
    have hdl:done.length≤40:=by
     have:=hs.2.2.2.2.1;rw [hw,List.length_append] at this;omega
    have h1:=spine k j z (T++ [(xs,u)]) ys done w sp (gI (zs.flatMap (fM k (T.length+1+1)))++s) i (by rw [hT];omega) (by omega) (by rw [hT];exact hz1.1) hz1.2 hO hpw hsp (by omega) hi (by rw [hT];omega) (by rw [hT];exact hlen);rw [hT] at h1;obtain ⟨sp1,hO1,hsp1,hk1⟩:=h1;obtain ⟨sp2,hO2,hsp2,hk2⟩:=ih (done++ [z]) sp1 (i+(fM k (T.length+1+1) z).length) (fun x hx=>hz x (List.mem_cons_of_mem _ hx)) (by rw [hw];simp) hO1 hsp1 (by omega) (by omega) (by simp only [List.length_append] at hlen ⊢;omega);refine ⟨sp2,hO2,hsp2,fun o h=>hk1 o (hk2 o ?_)⟩;rw [Nat.add_assoc];exact h
  -- the unit's own line
  have e:gI (fM (k+1) (T.length+1) w)++s=kR (T.length+1) w++(10 :: (gI (w.Kids.flatMap (fM k (T.length+1+1)))++s)):=by
   simp [fM,gI]
  have el:(fM (k+1) (T.length+1) w).length=1+(w.Kids.flatMap (fM k (T.length+1+1))).length:=by
   simp [fM];omega
  rw [e] at hlen ⊢;rw [el] at hil ⊢;have hcut:cutM (kR (T.length+1) w++(10 :: (gI (w.Kids.flatMap (fM k (T.length+1+1)))++s))) [10]=some (kR (T.length+1) w,gI (w.Kids.flatMap (fM k (T.length+1+1)))++s,true):=by
   unfold cutM;rw [if_pos (by omega),Hl hno]
  obtain ⟨sp2,hp1,hp2⟩:=hO.push (by omega) (spSk w []);have hp3:Opn (T++ [(xs,u)]) ys w sp2 []:=hp2;have hsl:T.length+1≤sp.length:=hO.1;have hsp2:sp2.length≤100:=by
   have:=hp1;unfold M.vN at this;obtain ⟨u',r,h1,h2,h3,h4⟩:=hO.split;rw [h1] at this;have h5:Option.bind (appC (M.rP r) [spSk w []]) (fun ks=>some (sp.take T.length++ [(xs,spSk u' ks),(M.rP r,spSk w [])]))=some sp2:=this;obtain ⟨ks,_,h6⟩:=bind_some h5;cases h6;simp;omega
  obtain ⟨sp3,hO3,hsp3,hk3⟩:=loop w.Kids [] sp2 (i+1) (fun x hx=>hx) rfl hp3 hsp2 (by omega) (by omega) (by simp only [List.length_append,List.length_cons] at hlen ⊢;omega);have hO4:=hO3.shut;rw [BX] at hO4;refine ⟨sp3,hO4,hsp3,fun o h=>To.succ ?_⟩;simp only [M.dD];refine To.pos (.inl (by simp)) (To.bindS hcut (To.bind hpl (To.neg (by simp) (To.neg (by omega) (To.neg ?_ ?_)))))
  ·simp only;omega
  ·have en:(((T.length+1:Nat):Int).toNat-1)=T.length:=by omega
   simp only [en];refine To.bindS hO.at (To.bindS (Hm hu ys (by omega)) (To.neg (by simp) (To.bindS hp1 (To.bindS (dS (by omega)) (hk3 o ?_)))))
   rw [Nat.add_assoc];exact h
theorem El{sp:SpL}{t:TU}{ys:List TU}(h:Opn [] [] t sp ys):M.xS sp=spSk t ys:=by
 obtain ⟨u',r,h1,h2,h3,_⟩:=h.split;have h1:sp=([],u') :: r:=h1;subst h1;show spSk u' (M.rP r)=_;rw [h3,BZ h2]
theorem Em(t:TU)(hm:mayF 9 0 t=true)(hs:szP 13 t)(hc:cntF 13 t≤400)(hl:(gI (fM 9 0 t)).length≤16384):To (fun n=>M.mV n (gI (fM 9 0 t))) (t,((fM 9 0 t).length:Int),0):=by
 have hkids:=ww hm hs;have hpl:=zq (k:=9) (j:=13) t 0 (by omega) hm hs;have hno:=AU (k:=9) (d:=0) (j:=13) hm hs;have hcl:=xZ 9 0 13 t (by decide);have e:gI (fM 9 0 t)=kR 0 t++(10 :: gI (t.Kids.flatMap (fM 8 1))):=by
  simp [fM,gI]
 have el:(fM 9 0 t).length=1+(t.Kids.flatMap (fM 8 1)).length:=by
  simp [fM];omega
 have hroot:Par t:=by
  obtain ⟨s1,s2,s3,s4,s5,s6⟩:=hs;unfold mayF at hm;rw [Bool.or_eq_true,Bool.and_eq_true,Bool.and_eq_true] at hm;rcases hm with ⟨hm,_⟩ | ⟨hm,_⟩
  ·exact absurd hm (by decide)
  ·refine ⟨?_,by omega⟩;obtain ⟨_,_,_,_,h5⟩:=of_decide_eq_true hm;rintro ⟨h1,h2⟩;rcases h5 with h | ⟨_,h⟩
   ·omega
   ·rw [h] at h2;cases h2
 have hw5:=hs.2.2.2.2.1
 -- the kids
 have loop:∀ (zs done:List TU) (sp:SpL) (i:Nat),(∀ x∈zs,x∈t.Kids)→t.Kids=done++zs→Opn [] [] t sp done→sp.length≤100→1≤i→i+(zs.flatMap (fM 8 1)).length≤1000000→(gI (zs.flatMap (fM 8 1))).length≤16384→
   ∃ sp',Opn [] [] t sp' t.Kids∧To (fun n=>M.dD n (gI (zs.flatMap (fM 8 1))) sp i) (.inl (sp',i+(zs.flatMap (fM 8 1)).length)):=by
  intro zs;induction zs with
  | nil=>
   intro done sp i _ hw hO _ hi _ _;rw [List.append_nil] at hw;rw [←hw] at hO;refine ⟨sp,hO,To.succ ?_⟩;simp only [M.dD];exact To.neg (by simp [gI];omega) To.pure
  | cons z zs ih=>
   intro done sp i hz hw hO hsp hi hil hlen;have hz1:=hkids z (hz z List.mem_cons_self);have e:gI ((z :: zs).flatMap (fM 8 1))=gI (fM 8 1 z)++gI (zs.flatMap (fM 8 1)):=by
    simp [gI,List.flatMap_append]
   have el:((z :: zs).flatMap (fM 8 1)).length=(fM 8 1 z).length+(zs.flatMap (fM 8 1)).length:=by
    rw [List.flatMap_cons,List.length_append]
   rw [e] at hlen ⊢;rw [el] at hil ⊢;have hdl:done.length≤40:=by
    rw [hw,List.length_append] at hw5;omega
   obtain ⟨sp1,hO1,hsp1,hk1⟩:=spine 8 12 z [] [] done t sp (gI (zs.flatMap (fM 8 1))) i rfl (by decide) hz1.1 hz1.2 hO hroot hsp (by omega) hi (by simp only [List.length_nil,Nat.zero_add];omega) hlen;obtain ⟨sp2,hO2,h2⟩:=ih (done++ [z]) sp1 (i+(fM 8 1 z).length) (fun x hx=>hz x (List.mem_cons_of_mem _ hx)) (by rw [hw];simp) hO1 hsp1 (by omega) (by omega) (by simp only [List.length_append] at hlen ⊢;omega);refine ⟨sp2,hO2,hk1 _ ?_⟩;rw [←Nat.add_assoc];exact h2
 rw [e] at hl;have hcut:cutM (kR 0 t++(10 :: gI (t.Kids.flatMap (fM 8 1)))) [10]=some (kR 0 t,gI (t.Kids.flatMap (fM 8 1)),true):=by
  unfold cutM;rw [if_pos (by omega),Hl hno]
 have hO0:Opn [] [] t [([],spSk t [])] []:=⟨Nat.le_refl _,rfl,rfl⟩
 obtain ⟨sp',hO',h'⟩:=loop t.Kids [] [([],spSk t [])] 1 (fun x hx=>hx) rfl hO0 (by simp) (by omega) (by omega) (by simp only [List.length_append,List.length_cons] at hl ⊢;omega);simp only [M.mV];rw [e,el];refine To.neg (by omega) (To.bind (a:=.inl (sp',1+(t.Kids.flatMap (fM 8 1)).length)) (To.succ ?_) ?_)
 ·simp only [M.dD];refine To.pos (.inl (by simp)) (To.bindS hcut (To.bind hpl (To.neg (by simp) (To.pos (by simp) (To.neg (by simp) (To.bindS (Hm hroot [] (by simp)) (To.neg (by simp) (To.bindS (dS (by omega)) h'))))))))
 ·refine To.pure.of ?_;rw [El hO',BX]
end Go.Proofs.YtalogjkalmkpjaaGreatDoor
/-
  Format, Parse and the two books.
-/
namespace Go.Proofs.YtalogjkalmkpjaaGreatDoor
open Go Go.Dec
def lab3(u:af):Prop:=∀ x,x∈desc u→x.Label.length≤30
theorem zt(l:List aH):∃ b,To (fun n=>M.jI n l) b∧(b=true→l.length≤300∧ ∀ w,w∈l→w.Text.length≤100):=by
 have loop:∀ (xs:List aH) (i:Nat),l.drop i=xs→∃ c:Unit ⊕ Bool,To (fun n=>M.dR l n (i:Int)) c∧((c= .inl ()∧ ∀ w,w∈xs→w.Text.length≤100)∨c= .inr false):=by
  intro xs;induction xs with
  | nil=>
   intro i hx;refine ⟨.inl (),To.succ ?_,.inl ⟨rfl,fun w hw=>by cases hw⟩⟩;simp only [M.dR];exact To.neg (gm hx) To.pure
  | cons x xs ih=>
   intro i hx;by_cases h:100<x.Text.length
   ·refine ⟨.inr false,To.succ ?_,.inr rfl⟩;simp only [M.dR];exact To.pos (eQ hx) (To.bindS (cZ hx) (To.pos (by omega) To.pure))
   ·obtain ⟨c,h1,h2⟩:=ih (i+1) (fE hx);refine ⟨c,To.succ ?_,h2.imp (fun ⟨e,k⟩=>⟨e,fun w hw=>?_⟩) id⟩
    ·simp only [M.dR];rw [bZ];exact To.pos (eQ hx) (To.bindS (cZ hx) (To.neg (by omega) h1))
    ·rcases List.mem_cons.1 hw with rfl | hw
     ·omega
     ·exact k w hw
 obtain ⟨c,h1,h2⟩:=loop l 0 rfl;simp only [M.jI];rcases h2 with ⟨rfl,k⟩ | rfl
 ·exact ⟨_,To.bind h1 To.pure,fun h=>⟨by have:=of_decide_eq_true h;omega,k⟩⟩
 ·exact ⟨_,To.bind h1 To.pure,fun h=>by cases h⟩
theorem FZ(u:af):∃ b,To (fun n=>M.fT n u) b∧(b=true→lab3 u):=by
 refine uind (P:=fun u=>∃ b,To (fun n=>M.fT n u) b∧(b=true→lab3 u)) ?_ u;intro u ih;have loop:∀ (xs:List af) (slf:Nat→af→Option Bool) (i:Nat),u.Kids.drop i=xs→(∀ k,k∈xs→∃ b,To (fun n=>slf n k) b∧(b=true→lab3 k))→
   To (fun n=>M.cO u (slf n) n (i:Int)) (.inr false)∨(To (fun n=>M.cO u (slf n) n (i:Int)) (.inl ())∧ ∀ k,k∈xs→lab3 k):=by
  intro xs;induction xs with
  | nil=>
   intro slf i hx hs;refine .inr ⟨To.succ ?_,fun k hk=>by cases hk⟩;simp only [M.cO];exact To.neg (gm hx) To.pure
  | cons x xs ih=>
   intro slf i hx hs;obtain ⟨b,hb,hl⟩:=hs x (by simp);cases b with
   | false=>
    refine .inl (To.succ ?_);simp only [M.cO];exact To.pos (eQ hx) (To.bindS (cZ hx) (To.bind hb.shift (To.pos rfl To.pure)))
   | true=>
    rcases ih (fun n=>slf (n+1)) (i+1) (fE hx) (fun k hk=>by
     obtain ⟨b,h1,h2⟩:=hs k (by simp [hk]);exact ⟨b,h1.shift,h2⟩) with h | ⟨h,hk⟩
    ·refine .inl (To.succ ?_);simp only [M.cO];refine To.pos (eQ hx) (To.bindS (cZ hx) (To.bind hb.shift (To.neg (by simp) ?_)));rw [bZ];exact h
    ·refine .inr ⟨To.succ ?_,fun k hk'=>?_⟩
     ·simp only [M.cO];refine To.pos (eQ hx) (To.bindS (cZ hx) (To.bind hb.shift (To.neg (by simp) ?_)));rw [bZ];exact h
     ·rcases List.mem_cons.1 hk' with rfl | hk'
      ·exact hl rfl
      ·exact hk k hk'
 by_cases hlab:30<u.Label.length
 ·refine ⟨false,To.succ ?_,fun h=>by cases h⟩;simp only [M.fT];exact To.bind (a:=true) (To.pos (by omega) To.pure) (To.pos rfl To.pure)
 ·obtain ⟨b1,k1,l1⟩:=zt u.Head;obtain ⟨b2,k2,l2⟩:=zt u.Words;have ha:To (fun n=>Option.bind (M.jI n u.Head) fun short=>if short=false then some true else Option.bind (M.jI n u.Words) fun short1=>some (!short1)) (!(b1 && b2)):=by
   refine To.bind k1 ?_;cases b1 with
   | false=>exact To.pos rfl To.pure
   | true=>exact To.neg (by simp) (To.bind k2 (To.pure.of (by simp)))
  cases hb:(b1 && b2) with
  | false=>
   rw [hb] at ha;refine ⟨false,To.succ ?_,fun h=>by cases h⟩;simp only [M.fT];exact To.bind (a:=true) (To.neg (by omega) ha) (To.pos rfl To.pure)
  | true=>
   rw [hb] at ha;rw [Bool.and_eq_true] at hb;have e2:=l2 hb.2;rcases loop u.Kids (fun n=>M.fT n) 0 rfl ih with h | ⟨h,hk⟩
   ·refine ⟨false,To.succ ?_,fun h=>by cases h⟩;simp only [M.fT];exact To.bind (a:=false) (To.neg (by omega) ha) (To.neg (by simp) (To.bind h To.pure))
   ·refine ⟨true,To.succ ?_,fun _ x hx=>?_⟩
    ·simp only [M.fT];exact To.bind (a:=false) (To.neg (by omega) ha) (To.neg (by simp) (To.bind h To.pure))
    ·rw [iC] at hx;rcases List.mem_cons.1 hx with rfl | hx
     ·omega
     ·obtain ⟨k,h1,h2⟩:=List.mem_flatMap.1 hx;exact hk k h1 x h2
theorem few16(u:af):∃ b,To (fun n=>M.rM n u 16) b∧(b=true→cnt u≤16∧labs u∧lab3 u):=by
 obtain ⟨r,ht,q1,q2,q3⟩:=Ia u 0 16 (by omega) (by omega) (by omega) (by omega);by_cases hr:r≤16
 ·obtain ⟨b,hb,hl⟩:=words06 u;obtain ⟨b',hb',hf⟩:=FZ u;have e:=hb.det hb';subst e;refine ⟨b,?_,fun h=>⟨by have:=q3 hr;omega,hl h,hf h⟩⟩;simp only [M.rM];exact To.bind ht (To.pos hr (To.bind hb To.pure))
 ·refine ⟨false,?_,fun h=>by cases h⟩;simp only [M.rM];exact To.bind ht (To.neg hr To.pure)
theorem F3{a:af}:∀ x∈desc a,deep x≤deep a:=by
 have:∀ a:af,∀ x∈desc a,deep x≤deep a:=by
  refine uind ?_;intro u ih x hx;rw [iC] at hx;rcases List.mem_cons.1 hx with rfl | hx
  ·exact Nat.le_refl _
  ·obtain ⟨k,hk,hxk⟩:=List.mem_flatMap.1 hx;have:=ih k hk x hxk;have:=yZ hk;omega
 exact this a
theorem Ho:∀ (k d j m:Nat) (t:TU),mayF k d t=true→szP j t→k≤m→szP m t
 | 0,_,_,_,_,h,_,_=>by cases h
 | k+1,d,j,m,t,h,hs,hm=>by
  cases j with
  | zero=>exact absurd hs (by simp [szP])
  | succ j=>
   cases m with
   | zero=>omega
   | succ m=>
    obtain ⟨s1,s2,s3,s4,s5,s6⟩:=hs;refine ⟨s1,s2,s3,s4,s5,fun x hx=>?_⟩;unfold mayF at h;rw [Bool.or_eq_true,Bool.and_eq_true,Bool.and_eq_true] at h;rcases h with ⟨_,h⟩ | ⟨_,h⟩
    ·have hp:placeP t:=of_decide_eq_true h;obtain ⟨_,_,_,_,_,_,h0⟩:=hp;have:t.Kids.length=0:=by omega
     rw [List.eq_nil_of_length_eq_zero this] at hx;cases hx
    ·exact Ho k (d+1) j m x (List.all_eq_true.1 h x hx) (s6 x hx) (by omega)
theorem zu{α:Type}{f g:α→Nat}:∀ {l:List α},(∀ x∈l,f x≤g x)→(l.map f).sum≤(l.map g).sum
 | [],_=>Nat.le_refl _
 | x :: l,h=>by
  have h1:=h x List.mem_cons_self;have h2:=zu (l:=l) (fun y hy=>h y (List.mem_cons_of_mem _ hy));simp only [List.map_cons,List.sum_cons];omega
theorem AV:∀ (k m:Nat) (t:TU),k≤m→cntF k t≤cntF m t
 | 0,_,_,_=>Nat.zero_le _
 | k+1,0,_,h=>by omega
 | k+1,m+1,t,h=>by
  have:=zu (l:=t.Kids) (fun x _=>AV k m x (by omega));unfold cntF;omega
section
variable {a b:af} {mv:List (au×Bool)} {G F:af→TU}
theorem Ir(h:HF a b mv)(hG:∀ u∈desc a,nQ b G u)(ca:cnt a≤16)(la:lab3 a):∀ u:af,u∈desc a→∀ k,deep u<k→szP k (G u)∧cntF k (G u)≤cnt u:=by
 refine uind (P:=fun u=>u∈desc a→∀ k,deep u<k→szP k (G u)∧cntF k (G u)≤cnt u) ?_;intro u ih hu k hk;obtain ⟨hd,w,q1,q2,e⟩:=hG u hu;cases k with
 | zero=>omega
 | succ k=>
  have hp:=rz u;by_cases hb:mhas (allU b) u.Id=true
  ·rw [if_pos hb] at e;rw [e];exact ⟨⟨by simp [plcF],by simp [plcF],by simp [plcF],by simp [plcF],by simp [plcF],fun x hx=>by cases hx⟩,by simp [cntF,plcF];omega⟩
  ·rw [if_neg hb] at e;have ihk:∀ x∈u.Kids,szP k (G x)∧cntF k (G x)≤cnt x:=fun x hx=>ih x hx (iq hu x (dh hx)) k (by have:=yZ hx;omega);have l1:=q1.2.2;have l2:=q2.2.2;have r:=(h.ua u hu).1;have r1:=r.1;have r2:=r.2;have lb:=la u hu;have hkl:=wy u;have hcu:=rY u hu;simp only [List.length_nil] at l1 l2;have hs:=zu (l:=u.Kids) (f:=fun x=>cntF k (G x)) (g:=cnt) (fun x hx=>(ihk x hx).2);rw [e];refine ⟨⟨by dsimp only;omega,by dsimp only;omega,by dsimp only;omega,by simp,by simp;omega,fun x hx=>?_⟩,?_⟩
   ·obtain ⟨y,hy,rfl⟩:=List.mem_map.1 hx;exact (ihk y hy).1
   ·rw [qB];unfold cntF;dsimp only;rw [List.map_map];have:(u.Kids.map (cntF k ∘ G)).sum≤(u.Kids.map cnt).sum:=hs;omega
theorem F4(h:HF a b mv)(ca:cnt a≤16)(u:af):((vOf a u).Kids.map cnt).sum≤15∧(vOf a u).Kids.length≤15:=by
 by_cases hk:u.Id∈idsOf a
 ·obtain ⟨v1,v2⟩:=ve h.na hk;have e:=qB (vOf a u);have:=rY _ v1;have:=wy (vOf a u);omega
 ·rw [yf h.na hk];exact ⟨by decide,by decide⟩
theorem Hq(h:HF a b mv)(hG:∀ u∈desc a,nQ b G u)(hF:∀ u∈desc b,mf a b mv G F u)(ca:cnt a≤16)(cb:cnt b≤16)(la:lab3 a)(lb:lab3 b):∀ u:af,u∈desc b→∀ k,deep u+9<k→szP k (F u)∧cntF k (F u)≤17*cnt u:=by
 refine uind (P:=fun u=>u∈desc b→∀ k,deep u+9<k→szP k (F u)∧cntF k (F u)≤17*cnt u) ?_;intro u ih hu k hk;obtain ⟨hd,w,q1,q2,e⟩:=hF u hu;cases k with
 | zero=>omega
 | succ k=>
  obtain ⟨rv,kv,dv⟩:=h.vrow hu;have hris:=h.ris hu;have hat:=u6 hris;have hfl:=EU hris;have hfr:=Dm hris;have hln:=wF (by omega) (by omega) hris;have ihk:∀ y∈u.Kids,szP k (F y)∧cntF k (F y)≤17*cnt y:=fun y hy=>ih y hy (iq hu y (dh hy)) k (by have:=yZ hy;omega);have gk:∀ x∈(vOf a u).Kids,szP k (G x)∧cntF k (G x)≤cnt x:=fun x hx=>Ir h hG ca la x (dv x hx) k (by have:=F3 x (dv x hx);have:=h.da;omega);have each:∀ al:List (Option af×Option af),(∀ e∈al,AlnAt (vOf a u).Kids u.Kids 0 0 (prF (selB (bkX a b mv)) (posK u) 0 (vOf a u).Kids) e)→
    (∀ t∈al.map (kE G F),szP k t)∧((al.map (kE G F)).map (cntF k)).sum≤((al.filterMap Prod.fst).map cnt).sum+17*((al.filterMap Prod.snd).map cnt).sum:=by
   intro al;induction al with
   | nil=>intro _;exact ⟨fun t ht=>(by cases ht),Nat.zero_le _⟩
   | cons e al ih2=>
    intro hA;obtain ⟨i1,i2⟩:=ih2 (fun e he=>hA e (List.mem_cons_of_mem _ he));have h0:=hA e List.mem_cons_self;obtain ⟨x,y⟩:=e;cases x with
    | none=>
     cases y with
     | none=>exact h0.elim
     | some y=>
      obtain ⟨j,_,hj,_⟩:=h0;obtain ⟨p1,p2⟩:=ihk y (List.mem_of_getElem? hj);refine ⟨fun t ht=>?_,?_⟩
      ·rcases List.mem_cons.1 ht with rfl | ht
       ·exact p1
       ·exact i1 t ht
      ·simp only [List.map_cons,List.sum_cons,List.filterMap_cons,kE];omega
    | some x=>
     cases y with
     | none=>
      obtain ⟨j,_,hj,_⟩:=h0;obtain ⟨p1,p2⟩:=gk x (List.mem_of_getElem? hj);refine ⟨fun t ht=>?_,?_⟩
      ·rcases List.mem_cons.1 ht with rfl | ht
       ·exact p1
       ·exact i1 t ht
      ·simp only [List.map_cons,List.sum_cons,List.filterMap_cons,kE];omega
     | some y=>
      obtain ⟨q,_,_,hj⟩:=h0;obtain ⟨p1,p2⟩:=ihk y (List.mem_of_getElem? hj);refine ⟨fun t ht=>?_,?_⟩
      ·rcases List.mem_cons.1 ht with rfl | ht
       ·exact p1
       ·exact i1 t ht
      ·simp only [List.map_cons,List.sum_cons,List.filterMap_cons,kE];omega
  obtain ⟨e1,e2⟩:=each _ hat;rw [hfl,hfr] at e2;obtain ⟨vs,vl⟩:=F4 h ca u;have l1:=q1.2.2;have l2:=q2.2.2;have r:=(h.ub u hu).1;have r1:=r.1;have r2:=r.2;have r3:=rv.1;have r4:=rv.2;have lbu:=lb u hu;have hkl:=wy u;have hcu:=rY u hu;have hce:=qB u;have hvl:(vOf a u).Label.length≤30:=by
   by_cases hka:u.Id∈idsOf a
   ·exact la _ (ve h.na hka).1
   ·rw [yf h.na hka];decide
  rw [e];refine ⟨⟨by dsimp only;omega,by dsimp only;omega,by dsimp only;omega,?_,by dsimp only;rw [List.length_map];omega,fun x hx=>e1 x hx⟩,?_⟩
  ·dsimp only;split
   ·omega
   ·exact Nat.zero_le _
  ·unfold cntF;dsimp only;rw [List.drop_zero] at e2;rw [List.drop_zero] at e2;omega
theorem Hr(a b:af)(ca:cnt a≤16)(cb:cnt b≤16)(la:labs a)(lb:labs b):∃ r,To (fun n=>M.lL n a b) r∧
  (r.2=0→∃ mv G F,HF a b mv∧(∀ u∈desc a,nQ b G u)∧(∀ u∈desc b,mf a b mv G F u)∧r.1=F b):=by
 obtain ⟨x,hx,hx2⟩:=GU a b (by omega) (by omega) la lb;obtain ⟨x1,x2⟩:=x;cases x2 with
 | false=>
  refine ⟨((⟨(0:Int),(0:Int),cu,([]:Str),([]:Str),false,([]:List ah),([]:List ah),([]:List aa)⟩:aa),(1:Int)),?_,fun h=>absurd h (by simp)⟩;simp only [M.lL];exact To.bind hx (To.pos rfl To.pure)
 | true=>
  obtain ⟨mv,rfl,h⟩:=hx2 rfl;obtain ⟨G,hG⟩:=h.gone;obtain ⟨F,hF⟩:=h.fresh (fun u hu=>(hG u hu).1);refine ⟨(F b,0),?_,fun _=>⟨mv,G,F,h,fun u hu=>(hG u hu).2,fun u hu=>(hF u hu).2,rfl⟩⟩;simp only [M.lL];exact To.bind hx (To.neg (by simp) (To.bind (hF b (fZ b)).1 To.pure))
end
theorem zw(a b:af):To (fun n=>M.jR n a b) true:=by
 obtain ⟨f1,hf1,hf1'⟩:=few16 a;obtain ⟨f2,hf2,hf2'⟩:=few16 b;simp only [M.jR];refine To.bind awake53 (To.neg (by decide) ?_);cases f1 with
 | false=>exact To.bind (a:=true) (To.bind hf1 (To.pos rfl To.pure)) (To.pos rfl To.pure)
 | true=>
  cases f2 with
  | false=>exact To.bind (a:=true) (To.bind hf1 (To.neg (by decide) (To.bind hf2 (To.pure.of rfl)))) (To.pos rfl To.pure)
  | true=>
   refine To.bind (a:=false) (To.bind hf1 (To.neg (by decide) (To.bind hf2 (To.pure.of rfl)))) (To.neg (by decide) ?_);obtain ⟨ca,la,la3⟩:=hf1' rfl;obtain ⟨cb,lb,lb3⟩:=hf2' rfl;obtain ⟨r,hr,hr2⟩:=Hr a b ca cb la lb;refine To.bind hr ?_;by_cases h0:r.2=0
   ·obtain ⟨mv,G,F,h,hG,hF,e⟩:=hr2 h0;refine To.neg (by simpa using h0) ?_;rw [e];obtain ⟨hs,hc⟩:=Hq h hG hF ca cb la3 lb3 b (fZ b) 20 (by have:=h.db;omega);have hc400:cntF 20 (F b)≤400:=by omega
    by_cases hm:mayF 9 0 (F b)=true
    ·have hs13:=Ho 9 0 20 13 (F b) hm hs (by decide);have hc13:cntF 13 (F b)≤400:=Nat.le_trans (AV 13 20 (F b) (by decide)) hc400;have hfm:=Ea (F b) hs13 hc13;unfold mfF at hfm;rw [if_pos hm] at hfm;by_cases hl:(16384:Int)< ((gI (fM 9 0 (F b))).length:Int)
     ·rw [if_pos hl] at hfm;exact To.bind hfm (To.pos (by decide) (To.bind (To.pos rfl To.pure) To.pure))
     ·rw [if_neg hl] at hfm;refine To.bind hfm (To.neg (by simp) (To.bind (Em (F b) hm hs13 hc13 (by omega)) (To.pos rfl ?_)));refine To.bind (h.Old hG hF) (To.bind (Dw a (fun x hx=>(h.ua x hx).1)) (To.pos rfl ?_));exact To.bind (h.new hG hF b (fZ b)) (To.bind (Dw b (fun x hx=>(h.ub x hx).1)) To.pure)
    ·have hm':mayF 9 0 (F b)=false:=by simpa using hm
     have ht:=BG 9 0 20 (F b) rfl (by decide) (.inl hs);rw [hm'] at ht;have hy:=EH 9 0 20 (F b) rfl (by decide) (.inl hs);rw [hm'] at hy;have hln:To (fun n=>M.jf n (F b)) []:=by
      simp only [M.jf];exact To.bind ht (To.pos rfl To.pure)
     have hfm:To (fun n=>M.iJ n (F b)) ([],1):=by
      simp only [M.iJ];exact To.bind hln (To.pos (by simp) To.pure)
     refine To.bind hfm (To.pos (by decide) (To.bind (a:=true) (To.neg (by decide) ?_) To.pure));simp only [M.xR];exact To.bind (To.bind hy To.pure) (To.pure.of rfl)
   ·exact To.pos (by simpa using h0) To.pure
end Go.Proofs.YtalogjkalmkpjaaGreatDoor
