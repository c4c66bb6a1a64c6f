import Derived.Test.YtobcmdhemlennaaGreatDoorPm
/-
  What the reference's functions on trees answer.
-/
set_option linter.unusedVariables false
set_option linter.unusedSimpArgs false
namespace Go.Proofs.YtobcmdhemlennaaGreatDoor
open Go Go.Dec
theorem J8(id:ai)(u:aa):id ∉ ids u->To (λn=>M.jh n u id) (az,-1):=by
 refine Wd (P:=λu=>id ∉ ids u->To (λn=>M.jh n u id) (az,-1)) ?_ u;intro u ih h;rw [rf] at h;simp only [List.mem_cons,not_or,List.mem_flatMap,not_exists,not_and] at h;have loop:∀ (xs:List aa) (slf:Nat->aa->ai->Option (aa×Int)) (i:Nat) (v:aa),u.Kids.drop i=xs->(∀ k∈xs,To (λn=>slf n k id) (az,-1))->To (λn=>M.gW u id (slf n) n (i:Int) v) (.inl v):=by
  intro xs;induction xs with
  | nil=>intro slf i v hx _;refine To.succ ?_;simp only [M.gW];exact To.neg (aM hx) To.pure
  | cons x xs ihx=>
   intro slf i v hx hs;refine To.succ ?_;simp only [M.gW];refine To.pos (aD hx) (To.bindS (ax hx) (To.bind (hs x (by simp)).shift (To.neg (by simp) ?_)));rw [bT];exact ihx (λn=>slf (n+1)) (i+1) v (aC hx) λk hk=>(hs k (by simp [hk])).shift
 refine To.succ ?_;simp only [M.jh];exact To.neg (λe=>h.1 e.symm) (To.bind (loop u.Kids (λn=>M.jh n) 0 az rfl λk hk=>ih k hk (h.2 k hk)) To.pure)
theorem get_at{p u:aa}{d:Nat}{C:aa->aa}(hp:At p d u C)(hn:(ids u).Nodup)(hd:d<=100000):To (λn=>M.jh n u p.Id) (p,(d:Int)):=by
 induction hp with
 | here=>
  refine To.succ ?_;simp only [M.jh];exact To.pos trivial To.pure
 | @kid d u k C l r e hk ih=>
  obtain ⟨h1,h2,h3,h4⟩:=nW e hn hk.inId;have loop:∀ (xs:List aa) (slf:Nat->aa->ai->Option (aa×Int)) (i:Nat) (v:aa),u.Kids.drop i=xs++k :: r->(∀ k∈xs,To (λn=>slf n k p.Id) (az,-1))->To (λn=>slf n k p.Id) (p,(d:Int))->To (λn=>M.gW u p.Id (slf n) n (i:Int) v) (.inr (p,((d+1:Nat):Int))):=by
   intro xs;induction xs with
   | nil=>
    intro slf i v hx _ hk;refine To.succ ?_;simp only [M.gW];exact To.pos (aD hx) (To.bindS (ax hx) (To.bind hk.shift (To.pos (by simp) (To.bindS (nk d (by omega)) To.pure))))
   | cons x xs ihx=>
    intro slf i v hx hs hk;refine To.succ ?_;simp only [M.gW];refine To.pos (aD hx) (To.bindS (ax hx) (To.bind (hs x (by simp)).shift (To.neg (by simp) ?_)));rw [bT];exact ihx (λn=>slf (n+1)) (i+1) v (aC hx) (λk hk=>(hs k (by simp [hk])).shift) hk.shift
  refine To.succ ?_;simp only [M.jh];exact To.neg h1 (To.bind (loop l (λn=>M.jh n) 0 az e (λz hz=>J8 _ z (h2 z hz)) (ih h4 (by omega))) To.pure)
theorem Et(u:aa)(id:ai):∀ (xs:List aa) (i:Nat) (v:aa),u.Kids.drop i=xs->(∀ k∈xs,k.Id≠id)->To (λn=>M.eu u id n (i:Int) v) (.inl v):=by
 intro xs;induction xs with
 | nil=>intro i v hx _;refine To.succ ?_;simp only [M.eu];exact To.neg (aM hx) To.pure
 | cons x xs ihx=>
  intro i v hx hs;refine To.succ ?_;simp only [M.eu];refine To.pos (aD hx) (To.bindS (ax hx) (To.neg (hs x (by simp)) ?_));rw [bT];exact ihx (i+1) v (aC hx) λk hk=>hs k (by simp [hk])
theorem Vq(id:ai)(u:aa):id ∉ ids u->To (λn=>M.gy n u id) (az,0,-1):=by
 refine Wd (P:=λu=>id ∉ ids u->To (λn=>M.gy n u id) (az,0,-1)) ?_ u;intro u ih h;rw [rf] at h;simp only [List.mem_cons,not_or,List.mem_flatMap,not_exists,not_and] at h;have loop:∀ (xs:List aa) (slf:Nat->aa->ai->Option (aa×Int×Int)) (i:Nat) (v:aa),u.Kids.drop i=xs->(∀ k∈xs,To (λn=>slf n k id) (az,0,-1))->To (λn=>M.ed u id (slf n) n (i:Int) v) (.inl v):=by
  intro xs;induction xs with
  | nil=>intro slf i v hx _;refine To.succ ?_;simp only [M.ed];exact To.neg (aM hx) To.pure
  | cons x xs ihx=>
   intro slf i v hx hs;refine To.succ ?_;simp only [M.ed];refine To.pos (aD hx) (To.bindS (ax hx) (To.bind (hs x (by simp)).shift (To.neg (by simp) ?_)));rw [bT];exact ihx (λn=>slf (n+1)) (i+1) v (aC hx) λk hk=>(hs k (by simp [hk])).shift
 refine To.succ ?_;simp only [M.gy];exact To.bind (Et u id u.Kids 0 az rfl λk hk e=>h.2 k hk (e▸nV k)) (To.bind (loop u.Kids (λn=>M.gy n) 0 az rfl λk hk=>ih k hk (h.2 k hk)) To.pure)
theorem At.ne{x u:aa}{d:Nat}{C:aa->aa}(h:At x (d+1) u C)(hn:(ids u).Nodup):u.Id≠x.Id:=by
 cases h with
 | kid e h=>exact (nW e hn h.inId).1
theorem vT{p x u:aa}{d:Nat}{D:aa->aa}{l r:List aa}(hp:At p d u D)(hn:(ids u).Nodup)(e:p.Kids=l++x :: r)(hd:d<=100000):To (λn=>M.gy n u x.Id) (p,(d:Int),((l.length:Nat):Int)):=by
 induction hp with
 | here=>
  obtain ⟨h1,h2,h3,h4⟩:=nW e hn (nV x);have loop:∀ (xs:List aa) (i:Nat) (v:aa),p.Kids.drop i=xs++x :: r->(∀ k∈xs,k.Id≠x.Id)->To (λn=>M.eu p x.Id n (i:Int) v) (.inr (p,0,((i+xs.length:Nat):Int))):=by
   intro xs;induction xs with
   | nil=>
    intro i v hx _;refine To.succ ?_;simp only [M.eu];exact To.pos (aD hx) (To.bindS (ax hx) (To.pos rfl To.pure))
   | cons y xs ihx=>
    intro i v hx hs;refine To.succ ?_;simp only [M.eu];refine To.pos (aD hx) (To.bindS (ax hx) (To.neg (hs y (by simp)) ?_));rw [bT];refine (ihx (i+1) v (aC hx) λk hk=>hs k (by simp [hk])).of ?_;rw [List.length_cons,show i+1+xs.length=i+(xs.length+1) by omega]
  refine To.succ ?_;simp only [M.gy];exact To.bind (loop l 0 az e λk hk he=>h2 k hk (he▸nV k)) (To.pure.of (by simp))
 | @kid d u k C l0 r0 e0 hk ih=>
  have hs:=hk.step e;obtain ⟨h1,h2,h3,h4⟩:=nW e0 hn hs.inId;have hk0:k.Id≠x.Id:=hs.ne h4;have loop:∀ (xs:List aa) (slf:Nat->aa->ai->Option (aa×Int×Int)) (i:Nat) (v:aa),u.Kids.drop i=xs++k :: r0->(∀ k∈xs,To (λn=>slf n k x.Id) (az,0,-1))->To (λn=>slf n k x.Id) (p,(d:Int),((l.length:Nat):Int))->To (λn=>M.ed u x.Id (slf n) n (i:Int) v) (.inr (p,((d+1:Nat):Int),((l.length:Nat):Int))):=by
   intro xs;induction xs with
   | nil=>
    intro slf i v hx _ hk;refine To.succ ?_;simp only [M.ed];exact To.pos (aD hx) (To.bindS (ax hx) (To.bind hk.shift (To.pos (by simp) (To.bindS (nk d (by omega)) To.pure))))
   | cons y xs ihx=>
    intro slf i v hx hs hk;refine To.succ ?_;simp only [M.ed];refine To.pos (aD hx) (To.bindS (ax hx) (To.bind (hs y (by simp)).shift (To.neg (by simp) ?_)));rw [bT];exact ihx (λn=>slf (n+1)) (i+1) v (aC hx) (λk hk=>(hs k (by simp [hk])).shift) hk.shift
  refine To.succ ?_;simp only [M.gy];refine To.bind (Et u x.Id u.Kids 0 az rfl λz hz he=>?_) (To.bind (loop l0 (λn=>M.gy n) 0 az e0 (λz hz=>Vq _ z (h2 z hz)) (ih h4 (by omega))) To.pure);rw [e0] at hz;rcases List.mem_append.1 hz with hz | hz
  .exact h2 z hz (he▸nV z)
  rcases List.mem_cons.1 hz with rfl | hz
  .exact hk0 he
  .exact h3 z hz (he▸nV z)
theorem Vr(x:aa)(u:aa):cnt u<=10000->To (λn=>M.kV n u x) (upd x.Id (λ_=>x) u):=by
 refine Wd (P:=λu=>cnt u<=10000->To (λn=>M.kV n u x) (upd x.Id (λ_=>x) u)) ?_ u;intro u ih hc;have hk:=qN u;have loop:∀ (xs:List aa) (slf:Nat->aa->aa->Option aa) (i:Nat) (out:List aa),u.Kids.drop i=xs->out.length+xs.length<=100000->(∀ k∈xs,To (λn=>slf n k x) (upd x.Id (λ_=>x) k))->To (λn=>M.jR u x (slf n) n out (i:Int)) (out++xs.map (upd x.Id (λ_=>x))):=by
  intro xs;induction xs with
  | nil=>intro slf i out hx _ _;refine To.succ ?_;simp only [M.jR];exact To.neg (aM hx) (To.pure.of (by simp))
  | cons y xs ihx=>
   intro slf i out hx hl hs;simp only [List.length_cons] at hl;refine To.succ ?_;simp only [M.jR];refine To.pos (aD hx) (To.bindS (ax hx) (To.bind (hs y (by simp)).shift (To.bindS (bu (by simp;omega)) ?_)));rw [bT];exact (ihx (λn=>slf (n+1)) (i+1) _ (aC hx) (by simp;omega) λk hk=>(hs k (by simp [hk])).shift).of (by simp)
 refine To.succ ?_;simp only [M.kV];rw [Fg];by_cases h:u.Id=x.Id
 .rw [if_pos h];exact To.pos h To.pure
 .rw [if_neg h];exact To.neg h (To.bind (loop u.Kids (λn=>M.kV n) 0 [] rfl (by simp;omega) λk hk=>ih k hk (by have:=jW hk;omega)) (To.pure.of (by simp [V3])))
theorem vU{p u y:aa}{d:Nat}{C:aa->aa}(h:Nice u)(hp:At p d u C)(e:y.Id=p.Id):To (λn=>M.kV n u y) (C y):=
 (Vr y u h.few).of (by rw [e];exact hp.updE h.nd _)
theorem Wy(l:List aa)(k:Int)(s:Str):To (λn=>M.qY n l k s) (decide ((k,s)∈l.map keyU)):=by
 have loop:∀ (xs:List aa) (i:Nat),l.drop i=xs->To (λn=>M.gY l k s n (i:Int)) (if (k,s)∈xs.map keyU then .inr true else .inl ()):=by
  intro xs;induction xs with
  | nil=>intro i hx;refine To.succ ?_;simp only [M.gY];exact To.neg (aM hx) (To.pure.of (by simp))
  | cons x xs ih=>
   intro i hx;have ih:=ih (i+1) (aC hx);refine To.succ ?_;simp only [M.gY];refine To.pos (aD hx) (To.bindS (ax hx) ?_);rw [bT];by_cases h1:x.Kind=k
   .refine To.pos h1 (To.bindS (ax hx) ?_);by_cases h2:x.Label=s
    .exact To.pos (by simpa using h2) (To.pure.of (by rw [if_pos];simp [keyU,h1,h2]))
    .refine To.neg (by simpa using h2) (ih.of ?_);have:(k,s)≠keyU x:=λe=>h2 (congrArg Prod.snd e).symm;simp [this]
   .refine To.neg h1 (ih.of ?_);have:(k,s)≠keyU x:=λe=>h1 (congrArg Prod.fst e).symm;simp [this]
 simp only [M.qY];by_cases h:(k,s)∈l.map keyU
 .exact To.bind ((loop l 0 rfl).of (if_pos h)) (To.pure.of (by simp only [h,decide_true]))
 .exact To.bind ((loop l 0 rfl).of (if_neg h)) (To.pure.of (by simp only [h,decide_false]))
theorem Xh(u:aa):cnt u<=10000->To (λn=>M.o5 n u) (dp u:Int):=by
 refine Wd (P:=λu=>cnt u<=10000->To (λn=>M.o5 n u) (dp u:Int)) ?_ u;intro u ih hc;have loop:∀ (xs:List aa) (slf:Nat->aa->Option Int) (i m:Nat),u.Kids.drop i=xs->(∀ k∈xs,To (λn=>slf n k) (dp k:Int)/\dp k<=100000)->To (λn=>M.iO u (slf n) n (m:Int) (i:Int)) (((xs.map λk=>1+dp k).foldl max m:Nat):Int):=by
  intro xs;induction xs with
  | nil=>intro slf i m hx _;refine To.succ ?_;simp only [M.iO];exact To.neg (aM hx) To.pure
  | cons x xs ihx=>
   intro slf i m hx hs;obtain ⟨h1,h2⟩:=hs x (by simp);refine To.succ ?_;simp only [M.iO];refine To.pos (aD hx) (To.bindS (ax hx) (To.bind h1.shift (To.bindS (a:=((1+dp x:Nat):Int)) (by rw [ku (by omega) (by omega)];simp) ?_)));rw [bT];have:=λm=>ihx (λn=>slf (n+1)) (i+1) m (aC hx) λk hk=>⟨(hs k (by simp [hk])).1.shift,(hs k (by simp [hk])).2⟩
   by_cases h:(m:Int)< ((1+dp x:Nat):Int)
   .refine To.pos h ((this (1+dp x)).of ?_);rw [List.map_cons,List.foldl_cons,show max m (1+dp x)=1+dp x by omega]
   .refine To.neg h ((this m).of ?_);rw [List.map_cons,List.foldl_cons,show max m (1+dp x)=m by omega]
 refine To.succ ?_;simp only [M.o5];rw [wZ];exact To.bind (loop u.Kids (λn=>M.o5 n) 0 0 rfl λk hk=>⟨ih k hk (by have:=jW hk;omega),by have:=jW hk;have:=E9 k;omega⟩) To.pure
theorem PX(a b:List aa):slcHi (a++b) (a.length:Int)=some a:=by
 unfold slcHi;rw [List.length_append,if_pos (by omega),Int.toNat_natCast,List.take_left'];rfl
theorem PY(a b:List aa):slcLo (a++b) (a.length:Int)=some b:=by
 unfold slcLo;rw [List.length_append,if_pos (by omega),Int.toNat_natCast,List.drop_left'];rfl
theorem Xi{a b:List aa}(h:a.length+b.length<=200000):appC a b=some (a++b):=bu (by omega)
theorem rin(a b:List aa)(x:aa)(h:(a++b).length<=100000):M.vH (a++b) (a.length:Int) x=some (a++x :: b):=by
 rw [List.length_append] at h;unfold M.vH;rw [PX,Option.bind_some,Xi (by rw [List.length_nil];omega),Option.bind_some,List.nil_append,Xi (by rw [List.length_singleton];omega),Option.bind_some,PY,Option.bind_some,Xi (by rw [List.length_append,List.length_singleton];omega),Option.bind_some,List.append_assoc,List.singleton_append]
theorem Xv(a b:List aa)(x:aa)(h:(a++b).length<=100000):M.qM (a++x :: b) (a.length:Int)=some (a++b):=by
 rw [List.length_append] at h;have h2:slcLo (a++x :: b) ((a.length+1:Nat):Int)=some b:=by
  have:=PY (a++ [x]) b;rwa [List.append_assoc,List.singleton_append,List.length_append,List.length_singleton] at this
 unfold M.qM;rw [PX,Option.bind_some,Xi (by rw [List.length_nil];omega),Option.bind_some,List.nil_append,nk _ (by omega),Option.bind_some,h2,Option.bind_some,Xi (by omega),Option.bind_some]
theorem rat(l:List aa)(x:aa)(r:List aa)(h:∀ k∈l,k.Id≠x.Id):To (λn=>M.yE n (l++x :: r) x.Id) (l.length:Int):=by
 have loop:∀ (xs pre:List aa),l=pre++xs->To (λn=>M.kX (l++x :: r) x.Id n (pre.length:Int)) (.inr (l.length:Int)):=by
  intro xs;induction xs with
  | nil=>
   intro pre e;rw [List.append_nil] at e;subst e;refine To.succ ?_;simp only [M.kX];exact To.pos (by rw [List.length_append,List.length_cons];omega) (To.bindS Xe (To.pos rfl To.pure))
  | cons y xs ih=>
   intro pre e;refine To.succ ?_;simp only [M.kX];have hi:idx (l++x :: r) (pre.length:Int)=some y:=by rw [e,List.append_assoc];exact Xe
   have hl:pre.length<(l++x :: r).length:=by rw [e];simp
   refine To.pos (by omega) (To.bindS hi (To.neg (h y (by rw [e];simp)) ?_));have:=ih (pre++ [y]) (by rw [e];simp);simp only [List.length_append,List.length_singleton,Int.natCast_add] at this;exact this
 simp only [M.yE];exact To.bind (loop l [] rfl) To.pure
theorem W9(a:List af):To (λn=>M.sQ n a a) true:=by
 have loop:∀ (xs:List af) (i:Nat),a.drop i=xs->To (λn=>M.jl a a n (i:Int)) (.inl ()):=by
  intro xs;induction xs with
  | nil=>intro i hx;refine To.succ ?_;simp only [M.jl];exact To.neg (aM hx) To.pure
  | cons x xs ih=>
   intro i hx;refine To.succ ?_;simp only [M.jl];refine To.pos (aD hx) (To.bindS (ax hx) (To.bindS (ax hx) (To.neg (by simp) ?_)));rw [bT];exact ih (i+1) (aC hx)
 simp only [M.sQ];exact To.neg (by simp) (To.bind (loop a 0 rfl) To.pure)
theorem rsame(u:aa):To (λn=>M.rP n u u) true:=by
 refine Wd (P:=λu=>To (λn=>M.rP n u u) true) ?_ u;intro u ih;have loop:∀ (xs:List aa) (slf:Nat->aa->aa->Option Bool) (i:Nat),u.Kids.drop i=xs->(∀ k∈xs,To (λn=>slf n k k) true)->To (λn=>M.jS u u (slf n) n (i:Int)) (.inl ()):=by
  intro xs;induction xs with
  | nil=>intro slf i hx _;refine To.succ ?_;simp only [M.jS];exact To.neg (aM hx) To.pure
  | cons x xs ihx=>
   intro slf i hx hs;refine To.succ ?_;simp only [M.jS];refine To.pos (aD hx) (To.bindS (ax hx) (To.bindS (ax hx) (To.bind (hs x (by simp)).shift (To.neg (by simp) ?_))));rw [bT];exact ihx (λn=>slf (n+1)) (i+1) (aC hx) λk hk=>(hs k (by simp [hk])).shift
 refine To.succ ?_;simp only [M.rP];refine To.bind (a:=false) (To.neg (by simp) (To.neg (by simp) (To.neg (by simp) (To.bind (W9 _) (To.neg (by simp) (To.bind (W9 _) (To.neg (by simp) (To.pure.of (by simp))))))))) (To.neg (by simp) (To.bind (loop u.Kids (λn=>M.rP n) 0 rfl λk hk=>ih k hk) To.pure))
theorem Vs(s:Str):To (λn=>M.wB n s) (V5 s):=by
 have loop:∀ (xs:Str) (i:Nat),s.drop i=xs->To (λn=>M.jG s n (i:Int)) (if xs.all chB=true then .inl () else .inr false):=by
  intro xs;induction xs with
  | nil=>
   intro i hx;refine To.succ ?_;simp only [M.jG];exact To.neg (aM hx) To.pure
  | cons x xs ih=>
   intro i hx;refine To.succ ?_;simp only [M.jG];refine To.pos (aD hx) (To.bindS (ax hx) ?_);by_cases h1:(x.toNat:Int)< 33
   .refine To.pos h1 (To.pure.of ?_);have:chB x=false:=by simp [chB];omega
    simp [this]
   .refine To.neg h1 (To.bindS (ax hx) ?_);by_cases h2:(126:Int)< (x.toNat:Int)
    .refine To.pos h2 (To.pure.of ?_);have:chB x=false:=by simp [chB];omega
     simp [this]
    .refine To.neg h2 ?_;rw [aP];have:chB x=true:=by simp [chB];omega
     exact (ih (i+1) (aC hx)).of (by simp [this])
 simp only [M.wB];by_cases h1:(s.length:Int)< 1
 .refine To.bind (a:=true) (To.pos h1 To.pure) (To.pos rfl (To.pure.of ?_));have:¬ 1<=s.length:=by omega
  simp [V5,this]
 .by_cases h2:(24:Int)< (s.length:Int)
  .refine To.bind (a:=true) (To.neg h1 (To.pure.of (by simp [h2]))) (To.pos rfl (To.pure.of ?_));have:¬ s.length<=24:=by omega
   simp [V5,this]
  .refine To.bind (a:=false) (To.neg h1 (To.pure.of (by simp [h2]))) (To.neg (by simp) (To.bind (loop s 0 rfl) ?_));have k1:1<=s.length:=by omega
   have k2:s.length<=24:=by omega
   by_cases ha:s.all chB=true
   .rw [if_pos ha];refine To.pure.of ?_;simp only [V5,k1,k2,ha,decide_true,Bool.and_self]
   .rw [if_neg ha];have ha':s.all chB=false:=by simpa using ha
    refine To.pure.of ?_;simp only [V5,ha',Bool.and_false]
theorem Uy(l:List Str):To (λn=>M.xD n l) (seqB l):=by
 have loop:∀ (xs:List Str) (i:Nat),l.drop i=xs->To (λn=>M.kw l n (i:Int)) (if xs.all V5=true then .inl () else .inr false):=by
  intro xs;induction xs with
  | nil=>
   intro i hx;refine To.succ ?_;simp only [M.kw];exact To.neg (aM hx) To.pure
  | cons x xs ih=>
   intro i hx;refine To.succ ?_;simp only [M.kw];refine To.pos (aD hx) (To.bindS (ax hx) (To.bind (Vs x) ?_));by_cases hw:V5 x=true
   .refine To.neg (by simp [hw]) ?_;rw [aP];exact (ih (i+1) (aC hx)).of (by simp [hw])
   .exact To.pos (by simpa using hw) (To.pure.of (by simp [hw]))
 simp only [M.xD];by_cases h:(256:Int)< (l.length:Int)
 .refine To.pos h (To.pure.of ?_);have:¬ l.length<=256:=by omega
  simp [seqB,this]
 .refine To.neg h (To.bind (loop l 0 rfl) ?_);have k:l.length<=256:=by omega
  by_cases ha:l.all V5=true
  .rw [if_pos ha];refine To.pure.of ?_;simp only [seqB,k,ha,decide_true,Bool.and_self]
  .rw [if_neg ha];have ha':l.all V5=false:=by simpa using ha
   refine To.pure.of ?_;simp only [seqB,ha',Bool.and_false]
theorem SI(x:ag):∀ (xs:List Str) (i:Nat),x.Old.drop i=xs->To (λn=>M.gQ x n (i:Int)) (.inr false)\/(To (λn=>M.gQ x n (i:Int)) (.inl ())/\ ∀ y,y∈xs->y.length<=100):=by
 intro xs;induction xs with
 | nil=>intro i hx;refine .inr ⟨To.succ ?_,λy h=>by cases h⟩;simp only [M.gQ];exact To.neg (aM hx) To.pure
 | cons y xs ih=>
  intro i hx;by_cases h:100<y.length
  .refine .inl (To.succ ?_);simp only [M.gQ];exact To.pos (aD hx) (To.bindS (ax hx) (To.pos (by omega) To.pure))
  .rcases ih (i+1) (aC hx) with h1 | ⟨h1,h2⟩
   .refine .inl (To.succ ?_);simp only [M.gQ];rw [aP];exact To.pos (aD hx) (To.bindS (ax hx) (To.neg (by omega) h1))
   .refine .inr ⟨To.succ ?_,λz hz=>?_⟩
    .simp only [M.gQ];rw [aP];exact To.pos (aD hx) (To.bindS (ax hx) (To.neg (by omega) h1))
    .rcases List.mem_cons.1 hz with rfl | hz
     .omega
     .exact h2 z hz
theorem SK(x:ag):∀ (xs:List Str) (i:Nat),x.New.drop i=xs->To (λn=>M.gP x n (i:Int)) (.inr false)\/(To (λn=>M.gP x n (i:Int)) (.inl ())/\ ∀ y,y∈xs->y.length<=100):=by
 intro xs;induction xs with
 | nil=>intro i hx;refine .inr ⟨To.succ ?_,λy h=>by cases h⟩;simp only [M.gP];exact To.neg (aM hx) To.pure
 | cons y xs ih=>
  intro i hx;by_cases h:100<y.length
  .refine .inl (To.succ ?_);simp only [M.gP];exact To.pos (aD hx) (To.bindS (ax hx) (To.pos (by omega) To.pure))
  .rcases ih (i+1) (aC hx) with h1 | ⟨h1,h2⟩
   .refine .inl (To.succ ?_);simp only [M.gP];rw [aP];exact To.pos (aD hx) (To.bindS (ax hx) (To.neg (by omega) h1))
   .refine .inr ⟨To.succ ?_,λz hz=>?_⟩
    .simp only [M.gP];rw [aP];exact To.pos (aD hx) (To.bindS (ax hx) (To.neg (by omega) h1))
    .rcases List.mem_cons.1 hz with rfl | hz
     .omega
     .exact h2 z hz
theorem SN(x:ag):∀ (xs:List av) (i:Nat),x.At.drop i=xs->To (λn=>M.gN x n (i:Int)) (.inr false)\/(To (λn=>M.gN x n (i:Int)) (.inl ())/\ ∀ y,y∈xs->y.Label.length<=100):=by
 intro xs;induction xs with
 | nil=>intro i hx;refine .inr ⟨To.succ ?_,λy h=>by cases h⟩;simp only [M.gN];exact To.neg (aM hx) To.pure
 | cons y xs ih=>
  intro i hx;by_cases h:100<y.Label.length
  .refine .inl (To.succ ?_);simp only [M.gN];exact To.pos (aD hx) (To.bindS (ax hx) (To.pos (by omega) To.pure))
  .rcases ih (i+1) (aC hx) with h1 | ⟨h1,h2⟩
   .refine .inl (To.succ ?_);simp only [M.gN];rw [aP];exact To.pos (aD hx) (To.bindS (ax hx) (To.neg (by omega) h1))
   .refine .inr ⟨To.succ ?_,λz hz=>?_⟩
    .simp only [M.gN];rw [aP];exact To.pos (aD hx) (To.bindS (ax hx) (To.neg (by omega) h1))
    .rcases List.mem_cons.1 hz with rfl | hz
     .omega
     .exact h2 z hz
theorem SQ(x:ag):∀ (xs:List av) (i:Nat),x.To.drop i=xs->To (λn=>M.gM x n (i:Int)) (.inr false)\/(To (λn=>M.gM x n (i:Int)) (.inl ())/\ ∀ y,y∈xs->y.Label.length<=100):=by
 intro xs;induction xs with
 | nil=>intro i hx;refine .inr ⟨To.succ ?_,λy h=>by cases h⟩;simp only [M.gM];exact To.neg (aM hx) To.pure
 | cons y xs ih=>
  intro i hx;by_cases h:100<y.Label.length
  .refine .inl (To.succ ?_);simp only [M.gM];exact To.pos (aD hx) (To.bindS (ax hx) (To.pos (by omega) To.pure))
  .rcases ih (i+1) (aC hx) with h1 | ⟨h1,h2⟩
   .refine .inl (To.succ ?_);simp only [M.gM];rw [aP];exact To.pos (aD hx) (To.bindS (ax hx) (To.neg (by omega) h1))
   .refine .inr ⟨To.succ ?_,λz hz=>?_⟩
    .simp only [M.gM];rw [aP];exact To.pos (aD hx) (To.bindS (ax hx) (To.neg (by omega) h1))
    .rcases List.mem_cons.1 hz with rfl | hz
     .omega
     .exact h2 z hz
def Chk(f:Nat->Option Bool)(P:Prop):Prop:=∃ b,To f b/\(b=true->P)
def Nchk(f:Nat->Option Bool)(P:Prop):Prop:=∃ b,To f b/\(b=false->P)
theorem Chk.of{f:Nat->Option Bool}{b:Bool}(h:To f b):Chk f (b=true):=⟨b,h,id⟩
theorem Chk.imp{f:Nat->Option Bool}{P Q:Prop}(h:Chk f P)(k:P->Q):Chk f Q:=let ⟨b,h1,h2⟩:=h;⟨b,h1,λe=>k (h2 e)⟩
theorem Chk.last{f:Nat->Option Bool}{P:Prop}(h:Chk f P):Chk (λn=>Option.bind (f n) λb=>some b) P:=let ⟨b,h1,h2⟩:=h;⟨b,To.bind h1 To.pure,h2⟩
theorem Chk.ff{P:Prop}:Chk (λ_=>some false) P:=⟨false,To.pure,λe=>by cases e⟩
theorem Chk.ite{p:Prop}[Decidable p]{f g:Nat->Option Bool}{P:Prop}(h:p->Chk f P)(k:¬ p->Chk g P):Chk (λn=>if p then f n else g n) P:=by
 by_cases hp:p
 .obtain ⟨b,h1,h2⟩:=h hp;exact ⟨b,To.pos hp h1,h2⟩
 .obtain ⟨b,h1,h2⟩:=k hp;exact ⟨b,To.neg hp h1,h2⟩
theorem Chk.and1{f g:Nat->Option Bool}{P Q:Prop}(h:Chk f P)(k:P->Chk g Q):Chk (λn=>Option.bind (f n) λb=>if b=true then g n else some false) Q:=by
 obtain ⟨b,h1,h2⟩:=h;cases b with
 | true=>obtain ⟨c,h3,h4⟩:=k (h2 rfl);exact ⟨c,To.bind h1 (To.pos rfl h3),h4⟩
 | false=>exact ⟨false,To.bind h1 (To.neg (by simp) To.pure),λe=>by cases e⟩
theorem Nchk.last{f:Nat->Option Bool}{P:Prop}(h:Chk f P):Nchk (λn=>Option.bind (f n) λb=>some (!b)) P:=by
 obtain ⟨b,h1,h2⟩:=h;exact ⟨!b,To.bind h1 To.pure,λe=>h2 (by cases b<;> simp_all)⟩
theorem Nchk.or{p:Prop}[Decidable p]{g:Nat->Option Bool}{P:Prop}(k:¬ p->Nchk g P):Nchk (λn=>if p then some true else g n) P:=by
 by_cases hp:p
 .exact ⟨true,To.pos hp To.pure,λe=>by cases e⟩
 .obtain ⟨b,h1,h2⟩:=k hp;exact ⟨b,To.neg hp h1,h2⟩
theorem Nchk.ite{p:Prop}[Decidable p]{f g:Nat->Option Bool}{P:Prop}(h:p->Nchk f P)(k:¬ p->Nchk g P):Nchk (λn=>if p then f n else g n) P:=by
 by_cases hp:p
 .obtain ⟨b,h1,h2⟩:=h hp;exact ⟨b,To.pos hp h1,h2⟩
 .obtain ⟨b,h1,h2⟩:=k hp;exact ⟨b,To.neg hp h1,h2⟩
theorem Nchk.or0{f g:Nat->Option Bool}{P Q:Prop}(h:Chk f P)(k:P->Nchk g Q):Nchk (λn=>Option.bind (f n) λb=>if b=false then some true else g n) Q:=by
 obtain ⟨b,h1,h2⟩:=h;cases b with
 | true=>obtain ⟨c,h3,h4⟩:=k (h2 rfl);exact ⟨c,To.bind h1 (To.neg (by simp) h3),h4⟩
 | false=>exact ⟨true,To.bind h1 (To.pos rfl To.pure),λe=>by cases e⟩
theorem Nchk.bindS{α:Type}{o:Option α}{g:Nat->α->Option Bool}{a:α}{P:Prop}(h:o=some a)(k:Nchk (λn=>g n a) P):Nchk (λn=>Option.bind o (g n)) P:=let ⟨b,h1,h2⟩:=k;⟨b,To.bindS h h1,h2⟩
theorem xQ(a b:List av):Chk (λn=>M.uV n a b) (a=b):=by
 have loop:∀ (xs ys:List av) (i:Nat),a.drop i=xs->b.drop i=ys->xs.length=ys.length->∃ r,To (λn=>M.iJ a b n (i:Int)) r/\(r= .inr false\/(r= .inl ()/\xs=ys)):=by
  intro xs;induction xs with
  | nil=>
   intro ys i hx hy hl;refine ⟨.inl (),To.succ ?_,.inr ⟨rfl,?_⟩⟩
   .simp only [M.iJ];exact To.neg (aM hx) To.pure
   .cases ys with
    | nil=>rfl
    | cons y ys=>simp at hl
  | cons x xs ih=>
   intro ys i hx hy hl;cases ys with
   | nil=>simp at hl
   | cons y ys=>
    by_cases e:x=y
    .obtain ⟨r,h1,h2⟩:=ih ys (i+1) (aC hx) (aC hy) (by simpa using hl);refine ⟨r,To.succ ?_,h2.imp id λh=>⟨h.1,by rw [e,h.2]⟩⟩;simp only [M.iJ];refine To.pos (aD hx) (To.bindS (ax hx) (To.bindS (ax hy) (To.neg (by simpa using e) ?_)));rw [bT];exact h1
    .refine ⟨.inr false,To.succ ?_,.inl rfl⟩;simp only [M.iJ];exact To.pos (aD hx) (To.bindS (ax hx) (To.bindS (ax hy) (To.pos e To.pure)))
 simp only [M.uV];by_cases h:a.length=b.length
 .obtain ⟨r,h1,h2⟩:=loop a b 0 rfl rfl h;rcases h2 with rfl | ⟨rfl,e⟩
  .exact ⟨false,To.neg (by omega) (To.bind h1 To.pure),λe=>by cases e⟩
  .exact ⟨true,To.neg (by omega) (To.bind h1 To.pure),λ_=>e⟩
 .exact ⟨false,To.pos (by omega) To.pure,λe=>by cases e⟩
theorem Eu(a b:List af):Chk (λn=>M.rF n a b) (a=b):=by
 have loop:∀ (xs ys:List af) (i:Nat),a.drop i=xs->b.drop i=ys->xs.length=ys.length->∃ r,To (λn=>M.iL a b n (i:Int)) r/\(r= .inr false\/(r= .inl ()/\xs=ys)):=by
  intro xs;induction xs with
  | nil=>
   intro ys i hx hy hl;refine ⟨.inl (),To.succ ?_,.inr ⟨rfl,?_⟩⟩
   .simp only [M.iL];exact To.neg (aM hx) To.pure
   .cases ys with
    | nil=>rfl
    | cons y ys=>simp at hl
  | cons x xs ih=>
   intro ys i hx hy hl;cases ys with
   | nil=>simp at hl
   | cons y ys=>
    by_cases e:x=y
    .obtain ⟨r,h1,h2⟩:=ih ys (i+1) (aC hx) (aC hy) (by simpa using hl);refine ⟨r,To.succ ?_,h2.imp id λh=>⟨h.1,by rw [e,h.2]⟩⟩;simp only [M.iL];refine To.pos (aD hx) (To.bindS (ax hx) (To.bindS (ax hy) (To.neg (by simpa using e) ?_)));rw [bT];exact h1
    .refine ⟨.inr false,To.succ ?_,.inl rfl⟩;simp only [M.iL];exact To.pos (aD hx) (To.bindS (ax hx) (To.bindS (ax hy) (To.pos e To.pure)))
 simp only [M.rF];by_cases h:a.length=b.length
 .obtain ⟨r,h1,h2⟩:=loop a b 0 rfl rfl h;rcases h2 with rfl | ⟨rfl,e⟩
  .exact ⟨false,To.neg (by omega) (To.bind h1 To.pure),λe=>by cases e⟩
  .exact ⟨true,To.neg (by omega) (To.bind h1 To.pure),λ_=>e⟩
 .exact ⟨false,To.pos (by omega) To.pure,λe=>by cases e⟩
theorem zH(a b:List Str):Chk (λn=>M.uW n a b) (a=b):=by
 have loop:∀ (xs ys:List Str) (i:Nat),a.drop i=xs->b.drop i=ys->xs.length=ys.length->∃ r,To (λn=>M.iK a b n (i:Int)) r/\(r= .inr false\/(r= .inl ()/\xs=ys)):=by
  intro xs;induction xs with
  | nil=>
   intro ys i hx hy hl;refine ⟨.inl (),To.succ ?_,.inr ⟨rfl,?_⟩⟩
   .simp only [M.iK];exact To.neg (aM hx) To.pure
   .cases ys with
    | nil=>rfl
    | cons y ys=>simp at hl
  | cons x xs ih=>
   intro ys i hx hy hl;cases ys with
   | nil=>simp at hl
   | cons y ys=>
    by_cases e:x=y
    .obtain ⟨r,h1,h2⟩:=ih ys (i+1) (aC hx) (aC hy) (by simpa using hl);refine ⟨r,To.succ ?_,h2.imp id λh=>⟨h.1,by rw [e,h.2]⟩⟩;simp only [M.iK];refine To.pos (aD hx) (To.bindS (ax hx) (To.bindS (ax hy) (To.neg (by simpa using e) ?_)));rw [bT];exact h1
    .refine ⟨.inr false,To.succ ?_,.inl rfl⟩;simp only [M.iK];exact To.pos (aD hx) (To.bindS (ax hx) (To.bindS (ax hy) (To.pos (by simpa using e) To.pure)))
 simp only [M.uW];by_cases h:a.length=b.length
 .obtain ⟨r,h1,h2⟩:=loop a b 0 rfl rfl h;rcases h2 with rfl | ⟨rfl,e⟩
  .exact ⟨false,To.neg (by omega) (To.bind h1 To.pure),λe=>by cases e⟩
  .exact ⟨true,To.neg (by omega) (To.bind h1 To.pure),λ_=>e⟩
 .exact ⟨false,To.pos (by omega) To.pure,λe=>by cases e⟩
theorem Ij{a b:aa}(h1:a.Id=b.Id)(h2:a.Kind=b.Kind)(h3:a.Label=b.Label)(h4:a.Head=b.Head)(h5:a.Words=b.Words)(h6:a.Kids=b.Kids):a=b:=by
 cases a;cases b;simp_all
theorem Ai(a:aa):∀ b,Chk (λn=>M.oK n a b) (a=b):=by
 refine Wd (P:=λa=>∀ b,Chk (λn=>M.oK n a b) (a=b)) ?_ a;intro a ih b;have loop:∀ (xs ys:List aa) (slf:Nat->aa->aa->Option Bool) (i:Nat),a.Kids.drop i=xs->b.Kids.drop i=ys->xs.length=ys.length->(∀ x∈xs,∀ y,Chk (λn=>slf n x y) (x=y))->∃ r,To (λn=>M.iM a b (slf n) n (i:Int)) r/\(r= .inr false\/(r= .inl ()/\xs=ys)):=by
  intro xs;induction xs with
  | nil=>
   intro ys slf i hx hy hl _;refine ⟨.inl (),To.succ ?_,.inr ⟨rfl,?_⟩⟩
   .simp only [M.iM];exact To.neg (aM hx) To.pure
   .cases ys with
    | nil=>rfl
    | cons y ys=>simp at hl
  | cons x xs ihx=>
   intro ys slf i hx hy hl hs;cases ys with
   | nil=>simp at hl
   | cons y ys=>
    obtain ⟨c,hc1,hc2⟩:=hs x (by simp) y;cases c with
    | true=>
     obtain ⟨r,h1,h2⟩:=ihx ys (λn=>slf (n+1)) (i+1) (aC hx) (aC hy) (by simpa using hl) λx hx y=>let ⟨c,h1,h2⟩:=hs x (by simp [hx]) y;⟨c,h1.shift,h2⟩;refine ⟨r,To.succ ?_,h2.imp id λh=>⟨h.1,by rw [hc2 rfl,h.2]⟩⟩;simp only [M.iM];refine To.pos (aD hx) (To.bindS (ax hx) (To.bindS (ax hy) (To.bind hc1.shift (To.neg (by simp) ?_))));rw [bT];exact h1
    | false=>
     refine ⟨.inr false,To.succ ?_,.inl rfl⟩;simp only [M.iM];exact To.pos (aD hx) (To.bindS (ax hx) (To.bindS (ax hy) (To.bind hc1.shift (To.pos rfl To.pure))))
 have hc:Nchk (λn=>if a.Id≠b.Id then some true else if a.Kind≠b.Kind then some true else if (a.Label !=b.Label)=true then some true else
   Option.bind (M.rF n a.Head b.Head) λrows=>if rows=false then some true else Option.bind (M.rF n a.Words b.Words) λrows1=>if rows1=false then some true else some (decide ((a.Kids.length:Int)≠(b.Kids.length:Int))))
   (a.Id=b.Id/\a.Kind=b.Kind/\a.Label=b.Label/\a.Head=b.Head/\a.Words=b.Words/\a.Kids.length=b.Kids.length):=by
  refine Nchk.or λh1=>Nchk.or λh2=>Nchk.or λh3=>Nchk.or0 (Eu _ _) λh4=>Nchk.or0 (Eu _ _) λh5=>?_;exact ⟨_,To.pure,λh=>⟨by simpa using h1,by simpa using h2,by simpa using h3,h4,h5,Int.ofNat.inj (by simpa using h)⟩⟩
 obtain ⟨v,hv1,hv2⟩:=hc;cases v with
 | true=>exact ⟨false,To.succ (by simp only [M.oK];exact To.bind hv1 (To.pos rfl To.pure)),λe=>by cases e⟩
 | false=>
  obtain ⟨e1,e2,e3,e4,e5,e6⟩:=hv2 rfl;obtain ⟨r,h1,h2⟩:=loop a.Kids b.Kids (λn=>M.oK n) 0 rfl rfl e6 λx hx y=>ih x hx y;rcases h2 with rfl | ⟨rfl,e⟩
  .exact ⟨false,To.succ (by simp only [M.oK];exact To.bind hv1 (To.neg (by simp) (To.bind h1 To.pure))),λe=>by cases e⟩
  .exact ⟨true,To.succ (by simp only [M.oK];exact To.bind hv1 (To.neg (by simp) (To.bind h1 To.pure))),λ_=>Ij e1 e2 e3 e4 e5 e⟩
theorem Ik(a:List av):To (λn=>M.dL n a a) true:=by
 have loop:∀ (xs:List av) (i:Nat),a.drop i=xs->To (λn=>M.aZ a a n (i:Int)) (.inl ()):=by
  intro xs;induction xs with
  | nil=>intro i hx;refine To.succ ?_;simp only [M.aZ];exact To.neg (aM hx) To.pure
  | cons x xs ih=>
   intro i hx;refine To.succ ?_;simp only [M.aZ];refine To.pos (aD hx) (To.bindS (ax hx) (To.bindS (ax hx) (To.neg (by simp) ?_)));rw [bT];exact ih (i+1) (aC hx)
 simp only [M.dL];exact To.neg (by simp) (To.bind (loop a 0 rfl) To.pure)
theorem Il(a:List af):To (λn=>M.bR n a a) true:=by
 have loop:∀ (xs:List af) (i:Nat),a.drop i=xs->To (λn=>M.aK a a n (i:Int)) (.inl ()):=by
  intro xs;induction xs with
  | nil=>intro i hx;refine To.succ ?_;simp only [M.aK];exact To.neg (aM hx) To.pure
  | cons x xs ih=>
   intro i hx;refine To.succ ?_;simp only [M.aK];refine To.pos (aD hx) (To.bindS (ax hx) (To.bindS (ax hx) (To.neg (by simp) ?_)));rw [bT];exact ih (i+1) (aC hx)
 simp only [M.bR];exact To.neg (by simp) (To.bind (loop a 0 rfl) To.pure)
theorem Lj(u:aa):To (λn=>M.iB n u u) true:=by
 refine Wd (P:=λu=>To (λn=>M.iB n u u) true) ?_ u;intro u ih;have loop:∀ (xs:List aa) (slf:Nat->aa->aa->Option Bool) (i:Nat),u.Kids.drop i=xs->(∀ k∈xs,To (λn=>slf n k k) true)->To (λn=>M.aA u.Kids (slf n) xs (i:Int)) (.inl ()):=by
  intro xs;induction xs with
  | nil=>intro slf i hx _;simp only [M.aA];exact To.pure
  | cons x xs ihx=>
   intro slf i hx hs;simp only [M.aA];refine To.bindS (ax hx) (To.bind (hs x (by simp)) (To.neg (by simp) ?_));rw [bT];exact ihx slf (i+1) (aC hx) λk hk=>hs k (by simp [hk])
 refine To.succ ?_;simp only [M.iB,M.bn];exact To.pos trivial (To.pos trivial (To.pos (by simp) (To.bind (Il _) (To.pos rfl (To.bind (Il _) (To.pos rfl (To.bind (To.neg (by simp) (To.bind (loop u.Kids (λn s0 s1=>M.iB n s0 s1) 0 rfl λk hk=>ih k hk) To.pure)) To.pure)))))))
theorem SS(x:ag)(h:x.By= []):To (λn=>M.pE n x x) true:=by
 refine To.succ ?_;simp only [M.pE,M.bU];rw [h];simp only [M.aN];refine To.bind (a:=true) (To.pos trivial (To.pos trivial (To.pos trivial (To.pos trivial (To.pos trivial (To.pure.of (by simp))))))) (To.bind (a:=true) (To.pos (by simp) (To.pos (by simp) (To.pos (by simp) (To.pure.of (by simp))))) (To.bind (a:=true) (To.bind (Ik _) (To.pos rfl (To.bind (Ik _) (To.pos rfl (To.bind ((eqS _ _).of (by simp)) (To.pos rfl (To.bind ((eqS _ _).of (by simp)) To.pure))))))) ?_));exact To.pos rfl (To.pos rfl (To.pos rfl (To.bind (Lj _) (To.pos rfl (To.bind (To.neg (by simp) To.pure) To.pure)))))
theorem Chk.succ{f:Nat->Option Bool}{P:Prop}(h:Chk (λn=>f (n+1)) P):Chk f P:=let ⟨b,h1,h2⟩:=h;⟨b,To.succ h1,h2⟩
theorem Chk.and0{f g:Nat->Option Bool}{P Q:Prop}(h:Chk f P)(k:P->Chk g Q):Chk (λn=>Option.bind (f n) λb=>if b=false then some false else g n) Q:=by
 obtain ⟨b,h1,h2⟩:=h;cases b with
 | true=>obtain ⟨c,h3,h4⟩:=k (h2 rfl);exact ⟨c,To.bind h1 (To.neg (by simp) h3),h4⟩
 | false=>exact ⟨false,To.bind h1 (To.pos rfl To.pure),λe=>by cases e⟩
theorem Chk.wrong{c g:Nat->Option Bool}{P Q:Prop}(h:Nchk c P)(k:P->Chk g Q):Chk (λn=>Option.bind (c n) λv=>if v=true then some false else g n) Q:=by
 obtain ⟨b,h1,h2⟩:=h;cases b with
 | true=>exact ⟨false,To.bind h1 (To.pos rfl To.pure),λe=>by cases e⟩
 | false=>obtain ⟨c,h3,h4⟩:=k (h2 rfl);exact ⟨c,To.bind h1 (To.neg (by simp) h3),h4⟩
theorem Chk.bindS{α:Type}{o:Option α}{g:Nat->α->Option Bool}{a:α}{P:Prop}(h:o=some a)(k:Chk (λn=>g n a) P):Chk (λn=>Option.bind o (g n)) P:=let ⟨b,h1,h2⟩:=k;⟨b,To.bindS h h1,h2⟩
theorem Chk.bind{α:Type}{f:Nat->Option α}{g:Nat->α->Option Bool}{a:α}{P:Prop}(h:To f a)(k:Chk (λn=>g n a) P):Chk (λn=>Option.bind (f n) (g n)) P:=let ⟨b,h1,h2⟩:=k;⟨b,To.bind h h1,h2⟩
theorem Chk.pure{b:Bool}{P:Prop}(h:b=true->P):Chk (λ_=>some b) P:=⟨b,To.pure,h⟩
theorem Nchk.pure{b:Bool}{P:Prop}(h:b=false->P):Nchk (λ_=>some b) P:=⟨b,To.pure,h⟩
theorem Xj(l:List af)(hl:l.length<=1000):To (λn=>M.uS n l) (txts l):=by
 have loop:∀ (xs:List af) (i:Nat) (out:List Str),l.drop i=xs->out.length+xs.length<=1000->To (λn=>M.iR l n out (i:Int)) (out++txts xs):=by
  intro xs;induction xs with
  | nil=>intro i out hx _;refine To.succ ?_;simp only [M.iR];exact To.neg (aM hx) (To.pure.of (by simp [txts]))
  | cons x xs ih=>
   intro i out hx ho;simp only [List.length_cons] at ho;refine To.succ ?_;simp only [M.iR];refine To.pos (aD hx) (To.bindS (ax hx) (To.bindS (bu (by simp;omega)) ?_));rw [bT];exact (ih (i+1) _ (aC hx) (by simp;omega)).of (by simp [txts])
 simp only [M.uS];exact To.bind (loop l 0 [] rfl (by simp;omega)) (To.pure.of (by simp))
theorem row6(l:List af):Chk (λn=>M.xE n l) (Wp l=true):=by
 simp only [M.xE];exact Chk.ite (λh=>Chk.bind (Xj l (by omega)) (Chk.last (Chk.of (Uy _)))) λ_=>Chk.ff
theorem Fw(p k:Int):M.uU p k=some (nestB p k):=by
 rw [<-rV];simp only [M.uU,M.qx];by_cases h0:p=0
 .rw [if_pos h0,if_pos h0]
 rw [if_neg h0,if_neg h0];by_cases h1:p=1
 .rw [if_pos h1,if_pos h1]
 rw [if_neg h1,if_neg h1];by_cases h2:p=2
 .simp [h2]
 by_cases h3:p=3
 .simp [h3]
 .simp [h2,h3]
theorem Xk(u:aa)(hl:u.Label.length<=1000000000):Chk (λn=>M.uT n u) (aloB u=true/\u.Kids.length<=64):=by
 simp only [M.uT];refine Chk.wrong (P:=0<=u.Kind/\u.Kind<=7/\u.Kids.length<=64/\Wp u.Head=true/\Wp u.Words=true) (Nchk.or λh1=>Nchk.or λh2=>Nchk.or λh3=>Nchk.or0 (row6 _) λh4=>(Nchk.last (Chk.imp (row6 _) λh5=>⟨by omega,by omega,by omega,h4,h5⟩))) ?_;rintro ⟨h1,h2,h3,h4,h5⟩;unfold aloB;by_cases h0:u.Kind=0
 .rw [if_pos h0];refine Chk.ite (λ_=>Chk.last ?_) λh=>absurd h0 h;refine Chk.ite (λa=>Chk.ite (λb=>Chk.pure λc=>?_) λ_=>Chk.ff) λ_=>Chk.ff;have c':=of_decide_eq_true c;refine ⟨?_,h3⟩;have e1:u.Head.length=0:=by omega
  have e2:u.Words.length=0:=by omega
  rw [a,e1,e2];rfl
 .rw [if_neg h0];refine Chk.ite (λh=>absurd h h0) λ_=>Chk.last (Chk.imp (Chk.of (WK _ hl)) λh=>⟨?_,h3⟩);have h7:1<=u.Kind:=by omega
  simp [h,h4,h5,h2,h7]
theorem Xl(u:aa):cnt u<=1000000->labs u->Chk (λn=>M.nY n u) (Oks u):=by
 refine Wd (P:=λu=>cnt u<=1000000->labs u->Chk (λn=>M.nY n u) (Oks u)) ?_ u;intro u ih hc hl;have hk:=qN u;have loop:∀ (xs:List aa) (slf:Nat->aa->Option Bool) (i:Nat),u.Kids.drop i=xs->(∀ k∈xs,Chk (λn=>slf n k) (Oks k))->
   ∃ r,To (λn=>M.eZ u (slf n) n (i:Int)) r/\(r= .inr false\/(r= .inl ()/\(∀ k∈xs,nestB u.Kind k.Kind=true/\Oks k)/\(∀ a (ha:a<u.Kids.length),i<=a->∀ j (hj:j<a),¬ (u.Kids[j].Kind=u.Kids[a].Kind/\u.Kids[j].Label=u.Kids[a].Label)))):=by
  intro xs;induction xs with
  | nil=>
   intro slf i hx _;refine ⟨.inl (),To.succ ?_,.inr ⟨rfl,λk hk=>(by cases hk),λa ha hia=>?_⟩⟩
   .simp only [M.eZ];exact To.neg (aM hx) To.pure
   .have:=List.drop_eq_nil_iff.1 hx;omega
  | cons x xs ihx=>
   intro slf i hx hs;obtain ⟨hil,hget,hnext⟩:=fT hx;obtain ⟨c,hc1,hc2⟩:=hs x (by simp);cases hn:nestB u.Kind x.Kind with
   | false=>
    refine ⟨.inr false,To.succ ?_,.inl rfl⟩;simp only [M.eZ];exact To.pos (aD hx) (To.bindS (ax hx) (To.bindS (Fw _ _) (To.pos hn To.pure)))
   | true=>
    cases c with
    | false=>
     refine ⟨.inr false,To.succ ?_,.inl rfl⟩;simp only [M.eZ];exact To.pos (aD hx) (To.bindS (ax hx) (To.bindS (Fw _ _) (To.neg (by simp [hn]) (To.bindS (ax hx) (To.bind hc1.shift (To.pos rfl To.pure))))))
    | true=>
     rcases MU u i hil (by omega) i 0 (by omega) with h2 | ⟨h2,h3⟩
     .refine ⟨.inr false,To.succ ?_,.inl rfl⟩;simp only [M.eZ];exact To.pos (aD hx) (To.bindS (ax hx) (To.bindS (Fw _ _) (To.neg (by simp [hn]) (To.bindS (ax hx) (To.bind hc1.shift (To.neg (by simp) (To.bind h2 To.pure)))))))
     .obtain ⟨r,h4,h5⟩:=ihx (λn=>slf (n+1)) (i+1) hnext λk hk=>let ⟨c,a,b⟩:=hs k (by simp [hk]);⟨c,a.shift,b⟩;refine ⟨r,To.succ ?_,h5.imp id λh=>⟨h.1,λk hk=>?_,λa ha hia j hj=>?_⟩⟩
      .simp only [M.eZ];exact To.pos (aD hx) (To.bindS (ax hx) (To.bindS (Fw _ _) (To.neg (by simp [hn]) (To.bindS (ax hx) (To.bind hc1.shift (To.neg (by simp) (To.bind h2 (To.bindS (eO (by omega)) h4))))))))
      .rcases List.mem_cons.1 hk with rfl | hk
       .exact ⟨hn,hc2 rfl⟩
       .exact h.2.1 k hk
      .by_cases e:a=i
       .subst e;exact h3 j hj (Nat.zero_le _)
       .exact h.2.2 a ha (by omega) j hj
 obtain ⟨c,hc1,hc2⟩:=Xk u (by have:=(hl u (fU u)).1;omega);cases c with
 | false=>exact ⟨false,To.succ (by simp only [M.nY];exact To.bind hc1 (To.pos rfl To.pure)),λe=>by cases e⟩
 | true=>
  obtain ⟨h1,h2⟩:=hc2 rfl;obtain ⟨r,h3,h4⟩:=loop u.Kids (λn=>M.nY n) 0 rfl λk hk=>ih k hk (by have:=jW hk;omega) (CJ hl hk);rcases h4 with rfl | ⟨rfl,h5,h6⟩
  .exact ⟨false,To.succ (by simp only [M.nY];exact To.bind hc1 (To.neg (by simp) (To.bind h3 To.pure))),λe=>by cases e⟩
  .refine ⟨true,To.succ (by simp only [M.nY];exact To.bind hc1 (To.neg (by simp) (To.bind h3 To.pure))),λ_=>(rD u).2 ⟨?_,λk hk=>(h5 k hk).2⟩⟩;unfold okU Wu;simp only [Bool.and_eq_true,List.all_eq_true,decide_eq_true_eq];refine ⟨h1,⟨λk hk=>(h5 k hk).1,?_⟩,h2⟩;rw [List.Nodup,List.pairwise_map,List.pairwise_iff_getElem];intro i j hi hj hij e;exact h6 j hj (Nat.zero_le _) i hij ⟨congrArg Prod.fst e,congrArg Prod.snd e⟩
theorem Ll(u:aa):deep u=dp u:=by
 refine Wd (P:=λu=>deep u=dp u) ?_ u;intro u ih;rw [La,wZ];congr 1;exact List.map_congr_left λk hk=>by rw [ih k hk]
theorem XQ(u:aa)(hc:cnt u<=1000000):Chk (λn=>M.r9 n u) ((∀ i∈ids u,i=aO)\/(ids u).Nodup/\(u.Kind=0->u.Id=aO)):=by
 obtain ⟨b,hb⟩:=Su u hc;refine ⟨b,hb,λe=>?_⟩;subst e;rcases Vk u hc hb with h | h
 .exact .inl λi hi=>by obtain ⟨x,hx,rfl⟩:=uC.1 hi;exact h x hx
 .by_cases hk:u.Kind=0
  .by_cases hz:u.Id=aO
   .exact .inr ⟨h,λ_=>hz⟩
   .exfalso;have hl:((desc u).map aa.Id).length<=1000000:=by simpa [cnt] using hc
    simp only [M.r9] at hb
    replace hb:=hb.unbind (Ff u hc)
    obtain ⟨c,hc1,hc2⟩:=K9 ((desc u).map aa.Id) _ 0 true rfl
    replace hb:=hb.unbind hc1
    cases c with
    | true=>
     have:=(hc2 rfl).2 u.Id (List.mem_map.2 ⟨u,fU u,rfl⟩);exact hz this
    | false=>
     replace hb:=hb.unneg (by simp)
     have hi:idx ((desc u).map aa.Id) (0:Int)=some u.Id:=by rw [fJ];exact eP
     replace hb:=hb.unbind (To.opt hi)
     have hz2:u.Id≠(⟨(0:Int),(0:Int),(0:Int)⟩:ai):=hz;exact absurd (hb.unpos (by simp [hz2,hk])).unpure (by simp)
  .exact .inr ⟨h,λe=>absurd e hk⟩
theorem XN(u:aa)(hc:cnt u<=1000000)(hl:labs u):Chk (λn=>M.xG n u) (Oks u/\dp u<=8/\cnt u<=1024/\((∀ i∈ids u,i=aO)\/(ids u).Nodup/\(u.Kind=0->u.Id=aO))):=by
 simp only [M.xG];have hd:=(J5 u hc).2;rw [Ll] at hd;exact Chk.and1 (Xl u hc hl) λh1=>Chk.bind hd (Chk.ite (λh2=>Chk.bind (MR u hc) (Chk.ite (λh3=>Chk.last (Chk.imp (XQ u hc) λh4=>⟨h1,by omega,by omega,h4⟩)) λ_=>Chk.ff)) λ_=>Chk.ff)
theorem PZ(u:aa):Chk (λn=>M.nN n u 10) (Ok u):=by
 simp only [M.nN];have hf:Chk (λn=>M.rZ n u (10:Int)) (cnt u<=10/\labs u):=let ⟨b,h1,h2⟩:=Pq u 10 (by omega) (by omega);⟨b,h1,λe=>⟨by have:=(h2 e).1;omega,(h2 e).2⟩⟩;refine Chk.and1 hf λ⟨h1,h2⟩=>Chk.ite (λhk=>Chk.and1 (XN u (by omega) h2) λ⟨h3,h4,h5,h6⟩=>Chk.ite (λh0=>Chk.pure λ_=>?_) λh0=>?_) λ_=>Chk.ff
 .have hkn:u.Kids= []:=List.eq_nil_of_length_eq_zero (by omega);have hid:ids u= [u.Id]:=by rw [rf,hkn];rfl
  refine ⟨h3,h4,h5,by rw [hid];simp,hk,?_⟩;rcases h6 with h6 | h6
  .exact h6 u.Id (nV u)
  .exact h6.2 hk
 .cases hkk:u.Kids with
  | nil=>rw [hkk] at h0;simp at h0
  | cons k ks=>
   refine Chk.bindS eP (Chk.pure λe=>?_);have e:k.Id≠u.Id:=of_decide_eq_true e;rcases h6 with h6 | h6
   .have h7:=h6 u.Id (nV u);have h8:=h6 k.Id (uC.2 ⟨k,yw (by rw [hkk];simp),rfl⟩);exact absurd (h8.trans h7.symm) e
   .exact ⟨h3,h4,h5,h6.1,hk,h6.2 hk⟩
def okC(b:UInt8):Bool:=(decide (97<=b.toNat) && decide (b.toNat<=122)) || (decide (48<=b.toNat) && decide (b.toNat<=57)) || decide (b.toNat=45)
structure NameP (s:Str):Prop where
 len:1<=s.length/\s.length<=16
 first:∀ b t,s=b :: t->97<=b.toNat/\b.toNat<=122
 all:∀ b∈s,okC b=true
theorem WO(s:Str):Chk (λn=>M.rG n s) (NameP s):=by
 have loop:∀ (xs:Str) (i:Nat),s.drop i=xs->∃ r,To (λn=>M.dz s n (i:Int)) r/\(r= .inr false\/(r= .inl ()/\ ∀ b∈xs,okC b=true)):=by
  intro xs;induction xs with
  | nil=>intro i hx;exact ⟨.inl (),To.succ (by simp only [M.dz];exact To.neg (aM hx) To.pure),.inr ⟨rfl,λb hb=>by cases hb⟩⟩
  | cons x xs ih=>
   intro i hx;obtain ⟨r,h1,h2⟩:=ih (i+1) (aC hx);rw [<-bT] at h1;have good:okC x=true->∃ r,To (λn=>M.dz s n (i:Int)) r/\(r= .inr false\/(r= .inl ()/\ ∀ b∈x :: xs,okC b=true)):=λhx1=>by
    refine ⟨r,To.succ ?_,h2.imp id λh=>⟨h.1,λb hb=>?_⟩⟩
    .simp only [M.dz];refine To.pos (aD hx) (To.bindS (ax hx) (To.ite (λa1=>To.ite (λ_=>h1) λa2=>To.ite (λa3=>To.ite (λ_=>h1) λa4=>To.neg ?_ h1) λa3=>To.neg ?_ h1) λa1=>To.ite (λa3=>To.ite (λ_=>h1) λa4=>To.neg ?_ h1) λa3=>To.neg ?_ h1))
     all_goals (simp only [okC,Bool.or_eq_true,Bool.and_eq_true,decide_eq_true_eq] at hx1;omega)
    .rcases List.mem_cons.1 hb with rfl | hb
     .exact hx1
     .exact h.2 b hb
   by_cases hc:okC x=true
   .exact good hc
   .refine ⟨.inr false,To.succ ?_,.inl rfl⟩;simp only [okC,Bool.or_eq_true,Bool.and_eq_true,decide_eq_true_eq] at hc;simp only [M.dz];refine To.pos (aD hx) (To.bindS (ax hx) (To.ite (λa1=>To.neg (by omega) (To.ite (λa3=>To.neg (by omega) (To.pos (by omega) To.pure)) λa3=>To.pos (by omega) To.pure)) λa1=>To.ite (λa3=>To.neg (by omega) (To.pos (by omega) To.pure)) λa3=>To.pos (by omega) To.pure))
 simp only [M.rG];have hpre:Nchk (λn:Nat=>if (s.length:Int)< (1:Int) then some true else if (16:Int)< (s.length:Int) then some true else Option.bind (idx s (0:Int)) λb=>if (b.toNat:Int)< (97:Int) then some true else Option.bind (idx s (0:Int)) λb1=>some (decide ((122:Int)< (b1.toNat:Int))))
   ((1<=s.length/\s.length<=16)/\ ∀ b t,s=b :: t->97<=b.toNat/\b.toNat<=122):=by
  refine Nchk.or λh1=>Nchk.or λh2=>?_;cases s with
  | nil=>simp at h1
  | cons b t=>
   refine Nchk.bindS eP (Nchk.or λh3=>Nchk.bindS eP (Nchk.pure λe=>⟨⟨by omega,by omega⟩,λb2 t2 e2=>?_⟩));have:=of_decide_eq_false e;cases e2;omega
 refine Chk.wrong hpre λ⟨h1,h2⟩=>?_;obtain ⟨r,h3,h4⟩:=loop s 0 rfl;rcases h4 with rfl | ⟨rfl,h4⟩
 .exact Chk.bind h3 Chk.ff
 .exact Chk.bind h3 (Chk.pure λ_=>⟨h1,h2,h4⟩)
def cutS:Str:=[97,98,99,100,101,102,103,104,105,106,107,108,109,110,111,112,113,114,115,116,117,118,119,120,121,122,48,49,50,51,52,53,54,55,56,57,45]
set_option maxRecDepth 100000 in
theorem SV(b:UInt8)(h:okC b=true):b∈cutS:=by
 have:∀ n:Fin 256,okC (UInt8.ofNat n.val)=true->UInt8.ofNat n.val∈cutS:=by decide
 have h2:=this ⟨b.toNat,b.toNat_lt⟩;simp only [UInt8.ofNat_toNat] at h2;exact h2 h
theorem Im:∀ (xs:Str) (l:List Bool),l.length=256->(xs.foldl (λl b=>l.set b.toNat true) l).length=256/\ ∀ b:UInt8,(l[b.toNat]? =some true\/b∈xs)->(xs.foldl (λl b=>l.set b.toNat true) l)[b.toNat]? =some true
 | [],l,h=>⟨h,λb hb=>by rcases hb with hb | hb;exact hb;cases hb⟩
 | x :: xs,l,h=>by
  obtain ⟨h1,h2⟩:=Im xs (l.set x.toNat true) (by rw [List.length_set];exact h);refine ⟨h1,λb hb=>h2 b ?_⟩;have hx:=x.toNat_lt;by_cases e:x=b
  .subst e;exact .inl (by rw [List.getElem?_set_self (by omega)])
  .rcases hb with hb | hb
   .refine .inl ?_;rw [List.getElem?_set_ne (λe2=>e (UInt8.toNat_inj.1 e2))];exact hb
   .rcases List.mem_cons.1 hb with rfl | hb
    .exact absurd rfl e
    .exact .inr hb
theorem P5(cs:Str)(h:∀ b∈cs,b.toNat<128):∀ (xs:Str) (i:Nat) (l:List Bool),cs.drop i=xs->To (λn=>M.cu cs n (i:Int) l) (.inl (xs.foldl (λl b=>l.set b.toNat true) l)):=by
 intro xs;induction xs with
 | nil=>intro i l hx;refine To.succ ?_;simp only [M.cu];exact To.neg (aM hx) To.pure
 | cons x xs ih=>
  intro i l hx;have hxm:x∈cs:=zy (ax hx);have:=h x hxm;refine To.succ ?_;simp only [M.cu];refine To.pos (aD hx) (To.bindS (ax hx) (To.neg (by omega) (To.bindS (a:=()) (by unfold rngC;rw [if_pos (by omega)]) ?_)));rw [bT,Int.toNat_natCast];exact ih (i+1) _ (aC hx)
theorem SX(s:Str)(h:∀ b∈s,okC b=true)(hl:s.length<=1000):To (λn=>M.qK n s cutS) []:=by
 simp only [M.qK];by_cases hs:s= []
 .subst hs;exact To.bind (a:=true) (To.pos (by simp) To.pure) (To.pos rfl To.pure)
 .obtain ⟨e1,e2⟩:=Im cutS (List.replicate 256 false) List.length_replicate;have hset:=P5 cutS (by decide) cutS 0 (List.replicate 256 false) rfl;generalize hA:cutS.foldl (λl b=>l.set b.toNat true) (List.replicate 256 false)=A at e1 e2 hset;have hin:∀ b:UInt8,okC b=true->To (λ_=>M.fE A (b.toNat:Int)) true:=λb hb=>by
   simp only [M.fE];exact To.bindS (a:=true) (by rw [lI];exact e2 b (.inr (SV b hb))) To.pure
  have loop:∀ (k:Nat) (t:Str),t.length=k->(∀ b∈t,okC b=true)->k<=1000->To (λn=>M.bK A n t) []:=by
   intro k;induction k with
   | zero=>
    intro t ht _ _;refine To.succ ?_;simp only [M.bK];exact To.neg (by omega) (To.pure.of (List.eq_nil_of_length_eq_zero ht))
   | succ k ih=>
    intro t ht hb hk;have hlt:k<t.length:=by omega
    refine To.succ ?_;simp only [M.bK];have hsub:subC (t.length:Int) (1:Int)=some (k:Int):=by rw [lY (by omega) (by omega)];congr 1;omega
    refine To.pos (by omega) (To.bindS hsub (To.bindS (Bz hlt) (To.bind (hin _ (hb _ (List.getElem_mem hlt))) (To.neg (by simp) (To.bindS hsub (To.bindS (a:=t.take k) (by unfold slcHi;rw [if_pos (by omega),Int.toNat_natCast]) ?_))))));exact ih (t.take k) (by rw [List.length_take];omega) (λb hbm=>hb b (List.mem_of_mem_take hbm)) (by omega)
  refine To.bind (a:=false) (To.neg (by simpa using hs) (To.pure.of (by simp [cutS]))) (To.neg (by simp) (To.bind (a:=false) (To.neg (by simp [cutS]) To.pure) (To.neg (by simp) ?_)));refine To.bind (a:=(A,true)) (by simp only [M.strings_makeASCIISet];exact To.bind hset To.pure) (To.pos rfl ?_);refine To.bind (a:=[]) (by simp only [M.strings_trimRightASCII];exact To.bind (loop s.length s rfl h hl) To.pure) ?_;refine To.bind (a:=[]) (by simp only [M.strings_trimLeftASCII];exact To.bind (To.succ (by simp only [M.dH];exact To.neg (by simp) To.pure)) To.pure) To.pure
theorem Ev{s:Str}(h:NameP s):To (λn=>M.lq n s) true:=by
 simp only [M.lq];obtain ⟨h1,h2⟩:=h.len;refine To.bind (a:=false) (To.neg (by omega) (To.neg (by omega) ?_)) (To.neg (by simp) (To.bind (SX s h.all (by omega)) To.pure));cases s with
 | nil=>simp at h1
 | cons b t=>
  have:=h.first b t rfl;exact To.bindS eP (To.neg (by omega) (To.bindS eP (To.pure.of (by rw [decide_eq_false_iff_not];omega))))
theorem qO(a lo hi:Int):Chk (λ_=>M.oJ a lo hi) (lo<=a/\a<=hi):=by
 simp only [M.oJ];exact Chk.ite (λh=>Chk.pure λe=>⟨h,of_decide_eq_true e⟩) λ_=>Chk.ff
theorem Aj{a lo hi:Int}(h:lo<=a/\a<=hi):M.ll a lo hi=some true:=by
 simp only [M.ll];rw [if_pos h.1,decide_eq_true h.2]
def CY(s:fP):Prop:=(s.Kind=1/\(0<=s.Day/\s.Day<=1048576)/\s.Event= [])\/(s.Kind=3/\s.Day=0/\NameP s.Event)\/((s.Kind=0\/s.Kind=2)/\s.Day=0/\s.Event= [])
theorem Ew(s:fP):Chk (λn=>M.qw n s) (CY s):=by
 simp only [M.qw];refine Chk.ite (λh1=>Chk.and1 (qO _ _ _) λh2=>Chk.pure λe=>.inl ⟨h1,h2,by simpa using e⟩) λh1=>Chk.ite (λh3=>Chk.ite (λh4=>Chk.last (Chk.imp (WO _) λh5=>.inr (.inl ⟨h3,h4,h5⟩))) λ_=>Chk.ff) λh3=>?_;by_cases h0:s.Kind=0
 .exact Chk.bind (a:=true) (To.pos h0 (To.pure.of (by simp [h0]))) (Chk.ite (λ_=>Chk.ite (λh4=>Chk.pure λe=>.inr (.inr ⟨.inl h0,h4,by simpa using e⟩)) λ_=>Chk.ff) λh=>absurd rfl h)
 .by_cases h2:s.Kind=2
  .exact Chk.bind (a:=true) (To.neg h0 (To.pure.of (by simp [h2]))) (Chk.ite (λ_=>Chk.ite (λh4=>Chk.pure λe=>.inr (.inr ⟨.inr h2,h4,by simpa using e⟩)) λ_=>Chk.ff) λh=>absurd rfl h)
  .exact Chk.bind (a:=false) (To.neg h0 (To.pure.of (by simp [h2]))) (Chk.ite (λh=>by cases h) λ_=>Chk.ff)
theorem M6{s:fP}(h:CY s):To (λn=>M.oz n s) true:=by
 simp only [M.oz];rcases h with ⟨h1,h2,h3⟩ | ⟨h1,h2,h3⟩ | ⟨h1,h2,h3⟩
 .exact To.bind (a:=false) (To.neg (by omega) (To.pure.of (by rw [decide_eq_false_iff_not];omega))) (To.neg (by simp) (To.pos h1 (To.bindS (Aj h2) (To.pos rfl (To.pure.of (by rw [h3];rfl))))))
 .exact To.bind (a:=false) (To.neg (by omega) (To.pure.of (by rw [decide_eq_false_iff_not];omega))) (To.neg (by simp) (To.neg (by omega) (To.pos h1 (To.pos h2 (To.bind (Ev h3) To.pure)))))
 .refine To.bind (a:=true) ?_ (To.pos rfl (To.pos h2 (To.pure.of (by rw [h3];rfl))));rcases h1 with h1 | h1
  .exact To.pos h1 (To.pure.of (by simp [h1]))
  .exact To.neg (by omega) (To.pure.of (by simp [h1]))
theorem zI(l:List Str)(k:Nat):Chk (λn=>M.si n l (k:Int)) (seqB l=true/\k<=l.length):=by
 simp only [M.si];exact Chk.and1 (Chk.of (Uy l)) λh=>Chk.pure λe=>⟨h,by have:=of_decide_eq_true e;omega⟩
theorem xm{l:List Str}{k:Nat}(h:seqB l=true/\k<=l.length):To (λn=>M.nH n l (k:Int)) true:=by
 simp only [M.nH];exact To.bind ((KX l).of h.1) (To.pos rfl (To.pure.of (by rw [decide_eq_true_eq];omega)))
theorem P6{a b:ag}(h:a.Kind=b.Kind/\a.At=b.At/\a.To=b.To/\a.Where=b.Where/\a.Nth=b.Nth/\a.Unit=b.Unit/\a.Old=b.Old/\a.New=b.New/\a.Label=b.Label/\a.For=b.For/\a.Start=b.Start/\a.Act=b.Act/\a.Item=b.Item/\a.Day=b.Day/\a.Event=b.Event/\a.By=b.By):a=b:=by
 cases a;cases b;simp_all
theorem M7(a b:ag)(hb:b.By= []):Chk (λn=>M.nO n a b) (a=b):=by
 refine Chk.succ ?_;simp only [M.nO];refine Chk.wrong (P:=a.Kind=b.Kind/\a.Where=b.Where/\a.Nth=b.Nth/\a.Label=b.Label/\a.For=b.For/\a.Start=b.Start/\a.Act=b.Act/\a.Item=b.Item/\a.Day=b.Day/\a.Event=b.Event) (Nchk.or λh1=>Nchk.or λh2=>Nchk.or λh3=>Nchk.or λh4=>Nchk.or λh5=>Nchk.or λh6=>Nchk.or λh7=>Nchk.or λh8=>Nchk.or λh9=>Nchk.pure λh10=>?_) ?_
 .exact ⟨by simpa using h1,by simpa using h2,by simpa using h3,by simpa using h4,by simpa using h5,by simpa using h6,by simpa using h7,by simpa using h8,by simpa using h9,by simpa using h10⟩
 rintro ⟨h1,h2,h3,h4,h5,h6,h7,h8,h9,h10⟩;refine Chk.wrong (P:=a.At=b.At/\a.To=b.To/\a.Old=b.Old/\a.New=b.New/\a.Unit=b.Unit/\a.By.length=b.By.length) (Nchk.or0 (xQ _ _) λk1=>Nchk.or0 (xQ _ _) λk2=>Nchk.or0 (zH _ _) λk3=>Nchk.or0 (zH _ _) λk4=>Nchk.or0 (Ai _ _) λk5=>Nchk.pure λe=>⟨k1,k2,k3,k4,k5,Int.ofNat.inj (by simpa using e)⟩) ?_;rintro ⟨k1,k2,k3,k4,k5,k6⟩;have ha:a.By= []:=List.eq_nil_of_length_eq_zero (by rw [k6,hb];rfl);have hlp:To (λn=>M.gH a b (M.nO n) n (0:Int)) (.inl ()):=To.succ (by simp only [M.gH];exact To.neg (by rw [ha];simp) To.pure);refine Chk.bind hlp (Chk.pure λ_=>P6 ⟨h1,k1,k2,h2,h3,k5,k3,k4,h4,h5,h6,h7,h8,h9,h10,by rw [ha,hb]⟩)
theorem Xa(l:List af)(h:l.length<=100000):To (λn=>M.sO n l) (M.bareWs l):=by
 have loop:∀ (xs:List af) (i:Nat) (t:List af),l.drop i=xs->t.length+xs.length<=100000->To (λn=>M.jb l n t (i:Int)) (t++M.bareWs xs):=by
  intro xs;induction xs with
  | nil=>intro i t hx _;refine To.succ ?_;simp only [M.jb];exact To.neg (aM hx) (To.pure.of (by simp [M.bareWs]))
  | cons x xs ih=>
   intro i t hx ht;simp only [List.length_cons] at ht;refine To.succ ?_;simp only [M.jb];refine To.pos (aD hx) (To.bindS (ax hx) (To.bindS (bu (by simp;omega)) ?_));rw [bT];exact (ih (i+1) _ (aC hx) (by simp;omega)).of (by simp [M.bareWs])
 simp only [M.sO];exact To.bind (loop l 0 [] rfl (by simp;omega)) (To.pure.of (by simp))
theorem strip6(u:aa):labs u->cnt u<=10000->To (λn=>M.og n u) (stripT u):=by
 refine Wd (P:=λu=>labs u->cnt u<=10000->To (λn=>M.og n u) (stripT u)) ?_ u;intro u ih hl hc;have hk:=qN u;obtain ⟨_,h2,h3⟩:=hl u (fU u);have loop:∀ (xs:List aa) (slf:Nat->aa->Option aa) (i:Nat) (out:aa),u.Kids.drop i=xs->out.Kids.length+xs.length<=100000->(∀ k∈xs,To (λn=>slf n k) (stripT k))->To (λn=>M.j3 u (slf n) n (i:Int) out) (V3 out (out.Kids++xs.map stripT)):=by
  intro xs;induction xs with
  | nil=>intro slf i out hx _ _;refine To.succ ?_;simp only [M.j3];exact To.neg (aM hx) (To.pure.of (by rw [List.map_nil,List.append_nil,qE]))
  | cons x xs ihx=>
   intro slf i out hx ho hs;simp only [List.length_cons] at ho;refine To.succ ?_;simp only [M.j3];refine To.pos (aD hx) (To.bindS (ax hx) (To.bind (hs x (by simp)).shift (To.bindS (bu (by simp;omega)) ?_)));rw [bT];refine (ihx (λn=>slf (n+1)) (i+1) (V3 out (out.Kids++ [stripT x])) (aC hx) (by rw [ng];simp;omega) λk hk=>(hs k (by simp [hk])).shift).of ?_;rw [ng,CR];simp
 refine To.succ ?_;simp only [M.og];refine To.bind (Xa _ (by omega)) (To.bind (Xa _ (by omega)) (To.bind (loop u.Kids (λn=>M.og n) 0 _ rfl (by simp;omega) λk hk=>ih k hk (CJ hl hk) (by have:=jW hk;omega)) (To.pure.of ?_)));rw [mY];rfl
theorem P7(u:aa)(hl:labs u)(hc:cnt u<=1000):Chk (λn=>M.wF n u) (u=stripT u):=by
 simp only [M.wF];exact Chk.and1 (XN u (by omega) hl) λ_=>Chk.bind (strip6 u hl (by omega)) (Chk.last (Ai _ _))
theorem Ka(u:aa):∀ visit:Nat->aa->Option Bool,(∀ x∈desc u,To (λn=>visit n x) true)->To (λn=>M.oO n u (visit n)) true:=by
 refine Wd (P:=λu=>∀ visit:Nat->aa->Option Bool,(∀ x∈desc u,To (λn=>visit n x) true)->To (λn=>M.oO n u (visit n)) true) ?_ u;intro u ih visit h;have loop:∀ (xs:List aa) (slf:Nat->aa->(aa->Option Bool)->Option Bool) (visit:Nat->aa->Option Bool),(∀ k∈xs,To (λn=>slf n k (visit n)) true)->To (λn=>M.il (visit n) (slf n) xs) (.inl ()):=by
  intro xs;induction xs with
  | nil=>intro slf visit _;simp only [M.il];exact To.pure
  | cons x xs ihx=>
   intro slf visit hs;simp only [M.il];exact To.bind (hs x (by simp)) (To.neg (by simp) (ihx slf visit λk hk=>hs k (by simp [hk])))
 refine To.succ ?_;simp only [M.oO];exact To.bind (h u (fU u)).shift (To.neg (by simp) (To.bind (loop u.Kids (λn=>M.oO n) (λn=>visit (n+1)) λk hk=>ih k hk (λn=>visit (n+1)) λx hx=>(h x (mX hk hx)).shift) To.pure))
theorem M8{u:aa}(hs:smT u)(h:u=stripT u)(hv:Wv u=true):To (λn=>M.rO n u) true:=by
 simp only [M.rO];have h1:=Fb u hs;rw [<-h,hv] at h1;refine To.bind h1 (To.pos rfl (To.bind (Ka u (λn s0=>M.pR n s0) λx hx=>?_) To.pure));rw [h,tY] at hx;obtain ⟨y,_,rfl⟩:=List.mem_map.1 hx;have hw:∀ l:List af,To (λn=>M.bC n (M.bareWs l) (λs0=>M.lS s0)) false:=λl=>by
  refine (XP _ (λ_ s0=>M.lS s0) (λw=>decide (w.By≠mE)) λx hx=>To.pure).of ?_;rw [Bool.eq_false_iff];intro e;obtain ⟨w,hw,hw2⟩:=List.any_eq_true.1 e;obtain ⟨v,_,rfl⟩:=List.mem_map.1 hw;exact of_decide_eq_true hw2 rfl
 rw [mY];simp only [M.pR];exact To.pos trivial (To.bind (hw _) (To.pos rfl (To.bind (hw _) To.pure)))
theorem VS{u k:ag}(h:k∈u.By):SizeOf.sizeOf k<SizeOf.sizeOf u:=by
 cases u;have:=List.sizeOf_lt_of_mem h;simp at this ⊢;omega
theorem Xw{P:ag->Prop}(h:∀ u,(∀ k,k∈u.By->P k)->P u)(u:ag):P u:=
 h u (λk hk=>Xw h k)
termination_by SizeOf.sizeOf u
decreasing_by exact VS hk
structure FewP (x:ag):Prop where
 atL:∀ y,y∈x.At->y.Label.length<=100
 toL:∀ y,y∈x.To->y.Label.length<=100
 lab:x.Label.length<=100
 cntU:cnt x.Unit<=30
 labU:labs x.Unit
structure CZ (x:ag):Prop where
 kind:0<=x.Kind/\x.Kind<=6
 at_:V7 x.At=true
 valid:To (λn=>M.kG n x) true
 k0:x.Kind=0->(0<=x.Where/\x.Where<=3)/\Wv x.Unit=true/\x.Unit.Kind≠0
 k2:x.Kind=2->(seqB x.Old=true/\1<=x.Old.length)/\seqB x.New=true/\0<=x.Nth
 k3:x.Kind=3->seqB x.Old=true/\(seqB x.New=true/\1<=x.New.length)/\0<=x.Nth/\(x.Old.length=0->x.Nth=0)
 k4:x.Kind=4->seqB x.New=true
 k5:x.Kind=5->qP x.Label=true
 k6:x.Kind=6->(0<=x.Where/\x.Where<=3)/\V7 x.To=true
theorem C8{k:Int}(h:0<=k/\k<=6):M.gJ k=some true:=by
 simp only [M.gJ];rw [if_pos h.1,decide_eq_true h.2]
theorem ru(x v:ag)(r:Nat->eF)(h1:∀ n,∃ m,M.sw n=some m/\mget m x.Kind nz=r n/\mhas m x.Kind=true)(h2:∀ n,(r n).has_ x=some v)(h3:To (λn=>(r n).may_ x) true)
  (hk:0<=x.Kind/\x.Kind<=6) (ha:V7 x.At=true) (hf:x.For= []\/NameP x.For) (hs:CY x.Start) (he:(⟨x.Kind,x.At,v.To,v.Where,v.Nth,v.Unit,v.Old,v.New,v.Label,x.For,x.Start,v.Act,v.Item,v.Day,v.Event,v.By⟩:ag)=x) (hb:x.By= []):To (λn=>M.kG n x) true:=by
 obtain ⟨n1,a1⟩:=(CO x.At).of ha;obtain ⟨n2,a2⟩:=M6 hs;obtain ⟨n3,a3⟩:=SS x hb;obtain ⟨n4,a4⟩:=h3;have hfor:∃ n5,∀ n,n5<=n->x.For= []\/(x.For≠ []/\M.lq n x.For=some true):=by
  by_cases h:x.For= []
  .exact ⟨0,λ_ _=>.inl h⟩
  .obtain ⟨n5,a5⟩:=Ev (hf.resolve_left h);exact ⟨n5,λn hn=>.inr ⟨h,a5 n hn⟩⟩
 obtain ⟨n5,a5⟩:=hfor;refine ⟨n1+n2+n3+n4+n5,λn hn=>?_⟩;obtain ⟨m,e1,e2,e3⟩:=h1 n;simp only [M.kG,e1,Option.bind_some,e2,e3,h2,C8 hk,a1 n (by omega),Bool.true_eq_false,if_false,if_true];rcases a5 n (by omega) with h | ⟨h,h5⟩
 .have hb2:¬ (x.For !=([]:Str))=true:=by simp [h]
  rw [if_neg hb2];simp only [a2 n (by omega),Option.bind_some,Bool.true_eq_false,if_false,he,a3 n (by omega),if_true,a4 n (by omega)]
 .have hb2:(x.For !=([]:Str))=true:=by simp [h]
  rw [if_pos hb2];simp only [h5,a2 n (by omega),Option.bind_some,Bool.true_eq_false,if_false,he,a3 n (by omega),if_true,a4 n (by omega)]
theorem ql{x y:ag}(hy:M.lZ x=some y)(hyb:y.By= [])(hk:x.Kind<=6)(hl:∀ z,z∈x.At->z.Label.length<=100){g:Nat->Option Bool}{Q:Prop}(k:x=y->V7 x.At=true->(x.For= []\/NameP x.For)->CY x.Start->Chk g Q) :
  Chk (λn=>Option.bind (M.lZ x) λtold=>Option.bind (M.nO n x told) λsame=>if same=false then some false else
   Option.bind (
      if x.Kind<=(6:Int) then
       Option.bind (M.uw n x.At) λmay=>
       if may=false then
        some true
       else
        if (x.For !=([]:Str))=true then
         Option.bind (M.rG n x.For) λname=>
         if name=false then
          some true
         else
          Option.bind (M.qw n x.Start) λstart=>
          some (!start)
        else
         Option.bind (M.qw n x.Start) λstart1=>
         some (!start1)
      else
       some false
     ) λv=>if v=true then some false else g n) Q:=by
 refine Chk.bindS hy (Chk.and0 (M7 x y hyb) λe=>Chk.wrong (P:=V7 x.At=true/\(x.For= []\/NameP x.For)/\CY x.Start) (Nchk.ite (λ_=>Nchk.or0 (Chk.of (JY x.At λz hz=>by have:=hl z hz;omega)) λh1=>Nchk.ite (λ_=>Nchk.or0 (WO _) λh2=>Nchk.last (Chk.imp (Ew _) λh3=>⟨h1,.inr h2,h3⟩)) λh2=>Nchk.last (Chk.imp (Ew _) λh3=>⟨h1,.inl (by simpa using h2),h3⟩)) λh=>absurd hk h) λ⟨h1,h2,h3⟩=>k e h1 h2 h3)
theorem SY{u:aa}(h:(Xd u).2=0):Wv u=true:=by
 unfold Xd at h;cases hv:Wv u with
 | true=>rfl
 | false=>rw [hv] at h;simp at h
theorem Kb{x:ag}(h:FewP x):smT x.Unit:=⟨by have:=h.cntU;omega,λy hy=>by have:=h.labU y hy;unfold Wn;omega⟩
theorem Lm(x:ag)(hF:FewP x)(hk:0<=x.Kind/\x.Kind<=6):Chk (λn=>M.mq n x) (CZ x):=by
 have hw:∀ y:ag,(0<=y.Where/\y.Where<=3)->M.pu y.Where=some true:=λy h=>by
  simp only [M.pu];rw [Aj h];rfl
 have hn:∀ y:ag,(0<=y.Nth/\y.Nth<=256)->M.qX y=some true:=λy h=>by
  simp only [M.qX];rw [Aj h];rfl
 refine Chk.succ ?_;simp only [M.mq];refine Chk.and0 (qO _ _ _) λ_=>?_;have hcase:x.Kind=0\/x.Kind=1\/x.Kind=2\/x.Kind=3\/x.Kind=4\/x.Kind=5\/x.Kind=6:=by omega
 rcases hcase with h | h | h | h | h | h | h
 .refine ql (y:=⟨x.Kind,x.At,[],x.Where,0,x.Unit,[],[],[],x.For,x.Start,0,0,0,[],[]⟩) (by simp [M.lZ,h]) rfl hk.2 hF.atL λe h1 h2 h3=>Chk.ite (λ_=>?_) λh0=>absurd h h0;refine Chk.bind (Vi x.Unit (Kb hF) (by have:=hF.cntU;omega)) (Chk.and1 (qO _ _ _) λh4=>Chk.and1 (P7 x.Unit hF.labU (by have:=hF.cntU;omega)) λh5=>Chk.ite (λh6=>Chk.pure λh7=>?_) λ_=>Chk.ff);have h7:=of_decide_eq_true h7;have hv:=SY h7;refine ⟨hk,h1,?_,λ_=>⟨h4,hv,h6⟩,λh'=>by omega,λh'=>by omega,λh'=>by omega,λh'=>by omega,λh'=>by omega⟩;refine ru x _ (λn=>⟨λs0=>M.oN s0,λs0=>M.mP n s0⟩) (λn=>⟨_,rfl,by rw [h];rfl,by rw [h];rfl⟩) (λn=>rfl) ?_ hk h1 h2 h3 e.symm (congrArg ag.By e);simp only [M.mP,M.rz];refine To.bindS (hw x h4) (To.pos rfl (To.bind (a:=true) (To.bind (Po x.Unit (Kb hF)) (To.bind (M8 (Kb hF) h5 hv) (To.pos rfl (To.pos h6 (To.pure.of (by rw [h7];rfl)))))) To.pure))
 .refine ql (y:=⟨x.Kind,x.At,[],0,0,az,[],[],[],x.For,x.Start,0,0,0,[],[]⟩) (by simp [M.lZ,h]) rfl hk.2 hF.atL λe h1 h2 h3=>?_;have hval:To (λn=>M.kG n x) true:=ru x _ (λn=>⟨λs0=>M.oP s0,λs0=>M.oQ s0⟩) (λn=>⟨_,rfl,by rw [h];rfl,by rw [h];rfl⟩) (λn=>rfl) To.pure hk h1 h2 h3 e.symm (congrArg ag.By e);refine Chk.imp (P:=True) ⟨true,?_,λ_=>trivial⟩ λ_=>⟨hk,h1,hval,λh'=>by omega,λh'=>by omega,λh'=>by omega,λh'=>by omega,λh'=>by omega,λh'=>by omega⟩
  exact To.neg (by omega) (To.neg (by omega) (To.neg (by omega) (To.neg (by omega) (To.neg (by omega) (To.neg (by omega) (To.bind (a:=false) (To.neg (by omega) (To.neg (by omega) (To.pure.of (by rw [h];rfl)))) (To.neg (by simp) (To.neg (by omega) (To.neg (by omega) To.pure)))))))))
 .refine ql (y:=⟨x.Kind,x.At,[],0,x.Nth,az,x.Old,x.New,[],x.For,x.Start,0,0,0,[],[]⟩) (by simp [M.lZ,h]) rfl hk.2 hF.atL λe h1 h2 h3=>Chk.ite (λh0=>by omega) λ_=>Chk.ite (λ_=>?_) λh0=>absurd h h0;refine Chk.and1 (zI _ 1) λh4=>Chk.and1 (zI _ 0) λh5=>Chk.last (Chk.imp (qO _ _ _) λh6=>?_);refine ⟨hk,h1,?_,λh'=>by omega,λ_=>⟨h4,h5.1,h6.1⟩,λh'=>by omega,λh'=>by omega,λh'=>by omega,λh'=>by omega⟩;refine ru x _ (λn=>⟨λs0=>M.oU s0,λs0=>M.mQ n s0⟩) (λn=>⟨_,rfl,by rw [h];rfl,by rw [h];rfl⟩) (λn=>rfl) ?_ hk h1 h2 h3 e.symm (congrArg ag.By e);simp only [M.mQ];exact To.bind (xm (k:=1) h4) (To.pos rfl (To.bind (xm (k:=0) h5) (To.pos rfl (To.bindS (hn x h6) To.pure))))
 .refine ql (y:=⟨x.Kind,x.At,[],0,x.Nth,az,x.Old,x.New,[],x.For,x.Start,0,0,0,[],[]⟩) (by simp [M.lZ,h]) rfl hk.2 hF.atL λe h1 h2 h3=>Chk.ite (λh0=>by omega) λ_=>Chk.ite (λh0=>by omega) λ_=>Chk.ite (λ_=>?_) λh0=>absurd h h0;refine Chk.and1 (zI _ 0) λh4=>Chk.and1 (zI _ 1) λh5=>Chk.and1 (qO _ _ _) λh6=>?_;have fin:(x.Old.length=0->x.Nth=0)->CZ x:=λh7=>by
   refine ⟨hk,h1,?_,λh'=>by omega,λh'=>by omega,λ_=>⟨h4.1,h5,h6.1,h7⟩,λh'=>by omega,λh'=>by omega,λh'=>by omega⟩;refine ru x _ (λn=>⟨λs0=>M.oV s0,λs0=>M.mR n s0⟩) (λn=>⟨_,rfl,by rw [h];rfl,by rw [h];rfl⟩) (λn=>rfl) ?_ hk h1 h2 h3 e.symm (congrArg ag.By e);simp only [M.mR];refine To.bind (xm (k:=0) h4) (To.pos rfl (To.bind (xm (k:=1) h5) (To.pos rfl (To.bindS (hn x h6) (To.pos rfl (To.ite (λ_=>To.pure) λh8=>To.pure.of ?_))))));rw [h7 (by omega)];rfl
  exact Chk.ite (λh7=>Chk.pure λ_=>fin λh8=>by omega) λh7=>Chk.pure λh8=>fin λ_=>of_decide_eq_true h8
 .refine ql (y:=⟨x.Kind,x.At,[],0,0,az,[],x.New,[],x.For,x.Start,0,0,0,[],[]⟩) (by simp [M.lZ,h]) rfl hk.2 hF.atL λe h1 h2 h3=>Chk.ite (λh0=>by omega) λ_=>Chk.ite (λh0=>by omega) λ_=>Chk.ite (λh0=>by omega) λ_=>Chk.ite (λ_=>?_) λh0=>absurd h h0;refine Chk.last (Chk.imp (zI _ 0) λh4=>?_);refine ⟨hk,h1,?_,λh'=>by omega,λh'=>by omega,λh'=>by omega,λ_=>h4.1,λh'=>by omega,λh'=>by omega⟩;refine ru x _ (λn=>⟨λs0=>M.oW s0,λs0=>M.lT n s0⟩) (λn=>⟨_,rfl,by rw [h];rfl,by rw [h];rfl⟩) (λn=>rfl) ?_ hk h1 h2 h3 e.symm (congrArg ag.By e);simp only [M.lT];exact To.bind (xm (k:=0) h4) To.pure
 .refine ql (y:=⟨x.Kind,x.At,[],0,0,az,[],[],x.Label,x.For,x.Start,0,0,0,[],[]⟩) (by simp [M.lZ,h]) rfl hk.2 hF.atL λe h1 h2 h3=>Chk.ite (λh0=>by omega) λ_=>Chk.ite (λh0=>by omega) λ_=>Chk.ite (λh0=>by omega) λ_=>Chk.ite (λh0=>by omega) λ_=>Chk.ite (λ_=>?_) λh0=>absurd h h0;refine Chk.last (Chk.imp (Chk.of (WK x.Label (by have:=hF.lab;omega))) λh4=>?_);refine ⟨hk,h1,?_,λh'=>by omega,λh'=>by omega,λh'=>by omega,λh'=>by omega,λ_=>h4,λh'=>by omega⟩;refine ru x _ (λn=>⟨λs0=>M.nT s0,λs0=>M.lU n s0⟩) (λn=>⟨_,rfl,by rw [h];rfl,by rw [h];rfl⟩) (λn=>rfl) ?_ hk h1 h2 h3 e.symm (congrArg ag.By e);simp only [M.lU];exact To.bind ((tV x.Label).of h4) To.pure
 .refine ql (y:=⟨x.Kind,x.At,x.To,x.Where,0,az,[],[],[],x.For,x.Start,0,0,0,[],[]⟩) (by simp [M.lZ,h]) rfl hk.2 hF.atL λe h1 h2 h3=>Chk.ite (λh0=>by omega) λ_=>Chk.ite (λh0=>by omega) λ_=>Chk.ite (λh0=>by omega) λ_=>Chk.ite (λh0=>by omega) λ_=>Chk.ite (λh0=>by omega) λ_=>Chk.ite (λ_=>?_) λh0=>absurd h h0;refine Chk.and1 (qO _ _ _) λh4=>Chk.last (Chk.imp (Chk.of (JY x.To λz hz=>by have:=hF.toL z hz;omega)) λh5=>?_);refine ⟨hk,h1,?_,λh'=>by omega,λh'=>by omega,λh'=>by omega,λh'=>by omega,λh'=>by omega,λ_=>⟨h4,h5⟩⟩;refine ru x _ (λn=>⟨λs0=>M.nU s0,λs0=>M.lV n s0⟩) (λn=>⟨_,rfl,by rw [h];rfl,by rw [h];rfl⟩) (λn=>rfl) ?_ hk h1 h2 h3 e.symm (congrArg ag.By e);simp only [M.lV];exact To.bindS (hw x h4) (To.pos rfl (To.bind ((CO x.To).of h5) To.pure))
def Step(u:aa)(d:ak):Prop:=
 (∃ v,To (λn=>M.dS n u d) (v,0)/\To (λn=>M.nJ n u d) (v,0)/\Ok v)\/
 (∃ e f,e≠0/\f≠0/\To (λn=>M.dS n u d) (u,e)/\To (λn=>M.nJ n u d) (u,f))
abbrev WU:=aa->aa->ak->Option (aa×Int)
def nL(k:Int)(f:Nat->WU):Prop:=∀ n,∃ m,M.uy n=some m/\mget m k (λ_ _ _=>none:WU)=f n/\mhas m k=true
theorem Xx:nL 0 (λn s0 s1 s2=>M.fG n s0 s1 s2):=λn=>⟨_,rfl,rfl,rfl⟩
theorem Xy:nL 1 (λn s0 s1 s2=>M.nG n s0 s1 s2):=λn=>⟨_,rfl,rfl,rfl⟩
theorem Xz:nL 2 (λn s0 s1 s2=>M.oM n s0 s1 s2):=λn=>⟨_,rfl,rfl,rfl⟩
theorem XA:nL 3 (λn s0 s1 s2=>M.qW n s0 s1 s2):=λn=>⟨_,rfl,rfl,rfl⟩
theorem XB:nL 4 (λn s0 s1 s2=>M.lg n s0 s1 s2):=λn=>⟨_,rfl,rfl,rfl⟩
theorem XC:nL 5 (λn s0 s1 s2=>M.lh n s0 s1 s2):=λn=>⟨_,rfl,rfl,rfl⟩
theorem XD:nL 6 (λn s0 s1 s2=>M.jo n s0 s1 s2):=λn=>⟨_,rfl,rfl,rfl⟩
theorem Vt{u:aa}{d:ak}{f:Nat->WU}{id:ai}{e:Int}(hd:nL d.It.Kind f)(hv:To (λn=>M.kG n d.It) true)(h:To (λn=>M.dM n u d.It.At) (id,e))(he:e≠0):To (λn=>M.dS n u d) (u,e):=by
 obtain ⟨n1,a1⟩:=hv;obtain ⟨n2,a2⟩:=h;refine ⟨n1+n2,λn hn=>?_⟩;obtain ⟨m,e1,e2,e3⟩:=hd n;simp only [M.dS,e1,Option.bind_some,e2,e3,a1 n (by omega),a2 n (by omega),Bool.true_eq_false,if_false,Bool.not_true,Bool.false_eq_true];exact if_pos he
theorem Bb{u x:aa}{d:ak}{f:Nat->WU}{id:ai}{r:aa×Int}(hd:nL d.It.Kind f)(hv:To (λn=>M.kG n d.It) true)(h:To (λn=>M.dM n u d.It.At) (id,0))(hx:To (λn=>M.j6 n u id) (x,true))(hr:id≠u.Id\/d.It.Kind=0)(hf:To (λn=>f n u x d) r):To (λn=>M.dS n u d) r:=by
 obtain ⟨n1,a1⟩:=hv;obtain ⟨n2,a2⟩:=h;obtain ⟨n3,a3⟩:=hx;obtain ⟨n4,a4⟩:=hf;refine ⟨n1+n2+n3+n4,λn hn=>?_⟩;obtain ⟨m,e1,e2,e3⟩:=hd n;have hb:(if id≠u.Id then some true else some (decide (d.It.Kind=(0:Int))))=some true:=by
  by_cases h:id=u.Id
  .rw [if_neg (by simpa using h),decide_eq_true (hr.resolve_left (λk=>k h))]
  .rw [if_pos h]
 simp only [M.dS,e1,Option.bind_some,e2,e3,a1 n (by omega),a2 n (by omega),a3 n (by omega),Bool.true_eq_false,if_false,Bool.not_true,Bool.false_eq_true];rw [if_neg (by simp),hb];simp only [Option.bind_some,if_true,a4 n (by omega)]
theorem S9{u x:aa}{d:ak}{f:Nat->WU}(hd:nL d.It.Kind f)(hv:To (λn=>M.kG n d.It) true)(h:To (λn=>M.dM n u d.It.At) (u.Id,0))(hx:To (λn=>M.j6 n u u.Id) (x,true))(h0:d.It.Kind≠0){id2:ai}{e2:Int}(h6:To (λn=>M.dM n u d.It.To) (id2,e2)):∃ e,e≠0/\To (λn=>M.dS n u d) (u,e):=by
 obtain ⟨n1,a1⟩:=hv;obtain ⟨n2,a2⟩:=h;obtain ⟨n3,a3⟩:=hx;obtain ⟨n4,a4⟩:=h6;refine ⟨if d.It.Kind=6/\e2≠0 then e2 else 9,?_,n1+n2+n3+n4,λn hn=>?_⟩
 .split
  .rename_i h;exact h.2
  .decide
 obtain ⟨m,e1,e3,e4⟩:=hd n;simp only [M.dS,e1,Option.bind_some,e3,e4,a1 n (by omega),a2 n (by omega),a3 n (by omega),a4 n (by omega),Bool.true_eq_false,if_false,Bool.not_true,Bool.false_eq_true];rw [if_neg (by simp),if_neg (by simp)];simp only [Option.bind_some,h0,decide_false,Bool.false_eq_true,if_false];by_cases h6:d.It.Kind=6
 .rw [if_pos h6];by_cases he:e2=0
  .rw [if_neg (by simpa using he),if_neg (by simp [he])]
  .rw [if_pos he,if_pos ⟨h6,he⟩]
 .rw [if_neg h6,if_neg (by simp [h6])]
theorem P8{k:Int}(h:0<=k/\k<=6):M.nI k=some true:=by
 simp only [M.nI];rw [if_pos h.1,decide_eq_true h.2]
theorem rW{u:aa}{d:ak}(hk:0<=d.It.Kind/\d.It.Kind<=6)(hm:To (λn=>M.mq n d.It) true):To (λn=>Option.bind (M.nI d.It.Kind) λchange=>if change=false then some true else Option.bind (M.mq n d.It) λmay=>some (!may)) false:=
 To.bindS (P8 hk) (To.neg (by simp) (To.bind hm To.pure))
theorem Vu{u:aa}{d:ak}{id:ai}{e:Int}(hk:0<=d.It.Kind/\d.It.Kind<=6)(hm:To (λn=>M.mq n d.It) true)(h:To (λn=>M.uz n u d.It.At) (id,e))(he:e≠0):To (λn=>M.nJ n u d) (u,e):=by
 simp only [M.nJ];exact To.bind (rW (u:=u) hk hm) (To.neg (by simp) (To.bind h (To.pos he To.pure)))
structure Aim (u:aa) (d:ak):Prop where
 ok:Ok u
 few:FewP d.It
 facts:CZ d.It
 may:To (λn=>M.mq n d.It) true
theorem Aim.ul{u:aa}{d:ak}(h:Aim u d)(p:List av):(units u p).length<=lim38:=by
 have h1:=xM u p;have h2:=h.ok.hcnt;have h3:cnt u*cnt u<=1024*1024:=Nat.mul_le_mul h2 h2;unfold lim38;omega
theorem Aim.one{u:aa}{d:ak}(h:Aim u d)(p:List av):To (λn=>M.dM n u p) (oneOf ((units u p).map aa.Id)):=
 vR u p (by have:=h.ok.hcnt;omega) (h.ul p)
theorem Aim.oneR{u:aa}{d:ak}(h:Aim u d)(p:List av)(hp:∀ y,y∈p->y.Label.length<=100):To (λn=>M.uz n u p) (oneOf ((units u p).map aa.Id)):=
 VN u p (by have:=h.ok.hcnt;omega) λy hy=>by have:=hp y hy;omega
theorem Aim.lim{u p:aa}{d:ak}{k:Nat}{D:aa->aa}(h:Aim u d)(hp:At p k u D):k<=8:=by
 have:=hp.dpO;have:=h.ok.hdp;omega
theorem Io{u:aa}{d:ak}(h:Aim u d){f:Nat->WU}(hd:nL d.It.Kind f)(he:(oneOf ((units u d.It.At).map aa.Id)).2≠0):Step u d:=by
 refine .inr ⟨_,_,he,he,Vt hd h.facts.valid (h.one _) he,Vu h.facts.kind h.may (h.oneR _ h.few.atL) he⟩
theorem M9{u:aa}{d:ak}(h:Aim u d){f:Nat->WU}(hd:nL d.It.Kind f)(ho:oneOf ((units u d.It.At).map aa.Id)=(u.Id,0))(h0:d.It.Kind≠0):Step u d:=by
 have h1:=h.one d.It.At;have h2:=h.oneR d.It.At h.few.atL;rw [ho] at h1 h2;obtain ⟨e,he,ha⟩:=S9 hd h.facts.valid h1 (qc h.ok.nice .here) h0 (h.one d.It.To);have hdo:∃ f,f≠0/\To (λn=>M.nJ n u d) (u,f):=by
  have hg:To (λn=>M.jh n u u.Id) (u,0):=get_at (d:=0) .here h.ok.nd (Nat.zero_le _);simp only [M.nJ];by_cases h6:d.It.Kind=6
  .have h3:=h.oneR d.It.To h.few.toL;generalize hq:oneOf ((units u d.It.To).map aa.Id)=q at h3;by_cases hq0:q.2=0
   .have hgo:∃ x e,To (λn=>M.jh n u q.1) (x,e):=by
     have hq2:(oneOf ((units u d.It.To).map aa.Id)).2=0:=by rw [hq];exact hq0
     obtain ⟨y,hy,hyi⟩:=yR u d.It.To hq2;obtain ⟨k,E,hE⟩:=At.Af hy;refine ⟨y,(k:Int),?_⟩;rw [hq] at hyi;rw [<-hyi];exact get_at hE h.ok.nd (by have:=h.lim hE;omega)
    obtain ⟨x,e,hgo⟩:=hgo;refine ⟨9,by decide,To.bind (rW (u:=u) h.facts.kind h.may) (To.neg (by simp) (To.bind h2 (To.neg (by simp) (To.neg h0 (To.pos h6 (To.bind (a:=(u,9)) ?_ To.pure))))))⟩;simp only [M.ma];have hb:∃ b,To (λ_:Nat=>if d.It.Where=(2:Int) then some true else some (decide (d.It.Where=(3:Int)))) b:=by
     by_cases hw:d.It.Where=2
     .exact ⟨_,To.pos hw To.pure⟩
     .exact ⟨_,To.neg hw To.pure⟩
    obtain ⟨b,hb⟩:=hb;exact To.bind h3 (To.neg (by simpa using hq0) (To.bind hb (To.bind hg (To.bind hgo (To.bind (a:=true) (To.pos trivial To.pure) (To.pos rfl To.pure))))))
   .refine ⟨q.2,hq0,To.bind (rW (u:=u) h.facts.kind h.may) (To.neg (by simp) (To.bind h2 (To.neg (by simp) (To.neg h0 (To.pos h6 (To.bind (a:=(u,q.2)) ?_ To.pure))))))⟩;simp only [M.ma];exact To.bind h3 (To.pos hq0 To.pure)
  .exact ⟨9,by decide,To.bind (rW (u:=u) h.facts.kind h.may) (To.neg (by simp) (To.bind h2 (To.neg (by simp) (To.neg h0 (To.neg h6 (To.pos rfl To.pure))))))⟩
 obtain ⟨f,hf,hdo⟩:=hdo;exact .inr ⟨e,f,he,hf,ha,hdo⟩
theorem Aim.cases{u:aa}{d:ak}(h:Aim u d){f:Nat->WU}(hd:nL d.It.Kind f)(h0:d.It.Kind≠0)
  (k:∀ x k C,At x (k+1) u C->oneOf ((units u d.It.At).map aa.Id)=(x.Id,0)->x.Id≠u.Id->Step u d):Step u d:=by
 by_cases he:(oneOf ((units u d.It.At).map aa.Id)).2=0
 .obtain ⟨x,hx,hxi⟩:=yR u d.It.At he;have ho:oneOf ((units u d.It.At).map aa.Id)=(x.Id,0):=Prod.ext hxi.symm he;obtain ⟨j,C,hC⟩:=At.Af hx;cases j with
  | zero=>obtain ⟨rfl,_⟩:=hC.zero;exact M9 h hd ho h0
  | succ j=>exact k x j C hC ho λe=>hC.ne h.ok.nd e.symm
 .exact Io h hd he
theorem Ip{u:aa}{d:ak}(h:Aim u d)(hk:d.It.Kind=1):Step u d:=by
 have hd:nL d.It.Kind (λn s0 s1 s2=>M.nG n s0 s1 s2):=hk▸Xy;refine h.cases hd (by omega) λx k C hC ho hne=>?_;obtain ⟨p,l,r,D,e,hp,_⟩:=hC.up;have h1:=h.one d.It.At;have h2:=h.oneR d.It.At h.few.atL;rw [ho] at h1 h2;have hfx:=qc h.ok.nice hC;have hv:=h.ok.del hp e;have ha:To (λn=>M.dS n u d) (D (V3 p (l++r)),0):=by
  refine Bb hd h.facts.valid h1 hfx (.inl hne) ?_;simp only [M.nG];exact To.bind (WH h.ok.nice hp e) To.pure
 have hpl:=h.ok.mid hp e;refine .inl ⟨D (V3 p (l++r)),ha,?_,hv⟩
 .simp only [M.nJ];refine To.bind (rW (u:=u) h.facts.kind h.may) (To.neg (by simp) (To.bind h2 (To.neg (by simp) (To.neg (by omega) (To.neg (by omega) (To.neg hne (To.bind (get_at hC h.ok.nd (by have:=h.lim hC;omega)) (To.bind (vT hp h.ok.nd e (by have:=h.lim hp;omega)) ?_))))))));refine To.bind (a:=.inr (D (V3 p (l++r)),0)) (To.pos hk (To.bindS (a:=l++r) (by rw [e];exact Xv l r x (by have:=hpl.len;omega)) (To.bind (vU (y:=V3 p (l++r)) h.ok.nice hp rfl) To.pure))) ?_;exact To.pure
theorem C9{u:aa}{d:ak}(h:Aim u d)(hk:d.It.Kind=2\/d.It.Kind=3){f:Nat->WU}(hd:nL d.It.Kind f){g:List af->Nat->Option (List af×Int)}
  (hf:∀ x w,To (g x.Words) (w,0)->∀ C k,At x (k+1) u C->To (λn=>f n u x d) (C {x with Words:=w},0)) (hf2:∀ x r,To (g x.Words) r->r.2≠0->To (λn=>f n u x d) (u,r.2))
  (hg:∀ w:List af,w.length<=256->Both w d.It.New (g w) (λn=>M.o6 n w d.It d.Act d.Item)) (hnew:seqB d.It.New=true):Step u d:=by
 refine h.cases hd (by omega) λx k C hC ho hne=>?_;obtain ⟨p,l,r,D,e,hp,_⟩:=hC.up;have h1:=h.one d.It.At;have h2:=h.oneR d.It.At h.few.atL;rw [ho] at h1 h2;have hfx:=qc h.ok.nice hC;have hin:=h.ok.inner hC;obtain ⟨_,_,_,_,_,hwl,hww⟩:=vQ (uD hin.2.2);obtain ⟨r1,s1,g1,g2,g3⟩:=hg x.Words hwl;have hv2:To (λ_:Nat=>if d.It.Kind=(2:Int) then some (decide (d.It.Kind=(2:Int))) else some (decide (d.It.Kind=(3:Int)))) true:=by
  rcases hk with hk | hk
  .exact To.pos hk (To.pure.of (by rw [hk];rfl))
  .exact To.neg (by omega) (To.pure.of (by rw [hk];rfl))
 have hget:=get_at hC h.ok.nd (by have:=h.lim hC;omega);have hpar:=vT hp h.ok.nd e (by have:=h.lim hp;omega);rcases g3 with ⟨e1,e2⟩ | ⟨rfl,e1,hlen,hmem⟩
 .refine .inr ⟨r1.2,s1.2,e1,e2,Bb hd h.facts.valid h1 hfx (.inl hne) (hf2 x r1 g1 e1),?_⟩;simp only [M.nJ];refine To.bind (rW (u:=u) h.facts.kind h.may) (To.neg (by simp) (To.bind h2 (To.neg (by simp) (To.neg (by omega) (To.neg (by omega) (To.neg hne (To.bind hget (To.bind hpar ?_))))))));refine To.bind (a:=.inr (u,s1.2)) (To.neg (by omega) (To.bind hv2 (To.pos rfl (To.bind g2 (To.pos e2 To.pure))))) ?_;exact To.pure
 .obtain ⟨w,z⟩:=r1;have e1:z=0:=e1;subst e1;have hrow:Wp w=true:=by
   unfold Wp seqB;rw [Bool.and_eq_true,decide_eq_true_eq,List.all_eq_true];refine ⟨by simpa [txts] using hlen,λt ht=>?_⟩;obtain ⟨y,hy,rfl⟩:=List.mem_map.1 ht;rcases hmem y hy with hy | hy
   .exact hww y hy
   .unfold seqB at hnew;rw [Bool.and_eq_true,List.all_eq_true] at hnew;exact hnew.2 _ hy
  have hv:=h.ok.words hC hrow;have ha:To (λn=>M.dS n u d) (C {x with Words:=w},0):=Bb hd h.facts.valid h1 hfx (.inl hne) (hf x w g1 C k hC);refine .inl ⟨C {x with Words:=w},ha,?_,hv⟩
  .simp only [M.nJ];refine To.bind (rW (u:=u) h.facts.kind h.may) (To.neg (by simp) (To.bind h2 (To.neg (by simp) (To.neg (by omega) (To.neg (by omega) (To.neg hne (To.bind hget (To.bind hpar ?_))))))));refine To.bind (a:=.inl (az,{x with Words:=w},p)) (To.neg (by omega) (To.bind hv2 (To.pos rfl (To.bind g2 (To.neg (by simp) To.pure))))) ?_;exact To.bind (vU (y:={x with Words:=w}) h.ok.nice hC rfl) To.pure
theorem zJ{l:List Str}(h:seqB l=true):l.length<=256:=by
 unfold seqB at h;rw [Bool.and_eq_true,decide_eq_true_eq] at h;exact h.1
theorem Fy{u:aa}{d:ak}(h:Aim u d)(hk:d.It.Kind=2):Step u d:=by
 obtain ⟨⟨k1,k2⟩,k3,k4⟩:=h.facts.k2 hk;have l1:=zJ k1;have l2:=zJ k3;refine C9 h (.inl hk) (hk▸Xz) (g:=λw n=>M.kT n w d.It.Old d.It.New d.It.Nth d.Act d.Item) (λx w hw C k hC=>?_) (λx r hr hz=>?_) (λw hw=>Fv w d.It d.Act d.Item hw l1 l2 hk k2 k4) k3
 .simp only [M.oM];exact To.bind hw (To.neg (by simp) (To.bind (WJ hC h.ok.nice (λ_ s0=>M.pO s0 w) To.pure) To.pure))
 .simp only [M.oM];exact To.bind hr (To.pos hz To.pure)
theorem P9{u:aa}{d:ak}(h:Aim u d)(hk:d.It.Kind=3):Step u d:=by
 obtain ⟨k1,⟨k2,k3⟩,k4,k5⟩:=h.facts.k3 hk;have l1:=zJ k1;have l2:=zJ k2;refine C9 h (.inr hk) (hk▸XA) (g:=λw n=>M.eX n w d.It.Old d.It.New d.It.Nth d.Act d.Item) (λx w hw C k hC=>?_) (λx r hr hz=>?_) (λw hw=>Ii w d.It d.Act d.Item hw l1 l2 k3 hk k4 k5) k2
 .simp only [M.qW];exact To.bind hw (To.neg (by simp) (To.bind (WJ hC h.ok.nice (λ_ s0=>M.rM s0 w) To.pure) To.pure))
 .simp only [M.qW];exact To.bind hr (To.pos hz To.pure)
theorem Fz{u:aa}{d:ak}(h:Aim u d)(hk:d.It.Kind=4):Step u d:=by
 have hd:nL d.It.Kind (λn s0 s1 s2=>M.lg n s0 s1 s2):=hk▸XB;have hnew:=h.facts.k4 hk;have hl:=zJ hnew;refine h.cases hd (by omega) λx k C hC ho hne=>?_;obtain ⟨p,l,r,D,e,hp,_⟩:=hC.up;have h1:=h.one d.It.At;have h2:=h.oneR d.It.At h.few.atL;rw [ho] at h1 h2;have hfx:=qc h.ok.nice hC;have hin:=h.ok.inner hC;obtain ⟨_,_,_,_,⟨hwl,hww⟩,_⟩:=vQ (uD hin.2.2);have hv:=h.ok.head hC (w:=markL d.Act d.Item 0 d.It.New) (by unfold Wp;rw [xP];exact hnew);have ha:To (λn=>M.dS n u d) (C {x with Head:=markL d.Act d.Item 0 d.It.New},0):=by
  refine Bb hd h.facts.valid h1 hfx (.inl hne) ?_;simp only [M.lg];exact To.bindS (J7 _ _ _ 0 (by omega)) (To.bind (WJ hC h.ok.nice (λ_ s0=>M.p8 s0 (markL d.Act d.Item 0 d.It.New)) To.pure) To.pure)
 refine .inl ⟨_,ha,?_,hv⟩
 .simp only [M.nJ];refine To.bind (rW (u:=u) h.facts.kind h.may) (To.neg (by simp) (To.bind h2 (To.neg (by simp) (To.neg (by omega) (To.neg (by omega) (To.neg hne (To.bind (get_at hC h.ok.nd (by have:=h.lim hC;omega)) (To.bind (vT hp h.ok.nd e (by have:=h.lim hp;omega)) ?_))))))));refine To.bind (a:=.inl (az,{x with Head:=markL d.Act d.Item 0 d.It.New},p)) (To.neg (by omega) (To.bind (a:=false) (To.neg (by omega) (To.pure.of (by rw [hk];rfl))) (To.neg (by simp) (To.pos hk (To.bind (CW _ _ _ 0 (by omega)) To.pure))))) ?_;exact To.bind (vU (y:={x with Head:=markL d.Act d.Item 0 d.It.New}) h.ok.nice hC rfl) To.pure
theorem uf(p x:aa)(hn:nestB p.Kind x.Kind=true):To (λn=>M.l9 n p x) (if keyU x∈p.Kids.map keyU then 10 else 0):=by
 simp only [M.l9];have hany:=XM p.Kids (λz=>decide (z.Kind=x.Kind) && (z.Label==x.Label)) (λ_ s0=>M.pK s0 x) λz hz=>by
  simp only [M.pK];exact To.ite (λe=>To.pure.of (by simp [e])) λe=>To.pure.of (by simp [e])
 rw [SF] at hany;refine To.bind ((Cy _ _).of hn) (To.neg (by simp) (To.bind hany ?_));by_cases hm:keyU x∈p.Kids.map keyU
 .rw [if_pos hm];exact To.pos (decide_eq_true hm) To.pure
 .rw [if_neg hm];exact To.neg (by rw [decide_eq_true_eq];exact hm) To.pure
theorem Iq(p x:aa)(hn:nestB p.Kind x.Kind=false):To (λn=>M.l9 n p x) 9:=by
 simp only [M.l9];exact To.bind ((Cy _ _).of hn) (To.pos rfl To.pure)
theorem step_label{u:aa}{d:ak}(h:Aim u d)(hk:d.It.Kind=5):Step u d:=by
 have hd:nL d.It.Kind (λn s0 s1 s2=>M.lh n s0 s1 s2):=hk▸XC;have hlab:=h.facts.k5 hk;refine h.cases hd (by omega) λx k C hC ho hne=>?_;obtain ⟨p,l,r,D,e,hp,_⟩:=hC.up;have h1:=h.one d.It.At;have h2:=h.oneR d.It.At h.few.atL;rw [ho] at h1 h2;have hfx:=qc h.ok.nice hC;have hmid:=h.ok.mid hp e;have hpar:=J6 h.ok.nice hp e;have hfp:=qc h.ok.nice hp;have htk:=uf p {x with Label:=d.It.Label} hmid.nest;have hget:=get_at hC h.ok.nd (by have:=h.lim hC;omega);have hrp:=vT hp h.ok.nd e (by have:=h.lim hp;omega);have hrt:=Wy p.Kids x.Kind d.It.Label;by_cases hm:(x.Kind,d.It.Label)∈p.Kids.map keyU
 .refine .inr ⟨10,10,by decide,by decide,Bb hd h.facts.valid h1 hfx (.inl hne) ?_,?_⟩
  .simp only [M.lh];exact To.bind hpar (To.bind hfp (To.bind (htk.of (if_pos hm)) (To.pos rfl To.pure)))
  .simp only [M.nJ];refine To.bind (rW (u:=u) h.facts.kind h.may) (To.neg (by simp) (To.bind h2 (To.neg (by simp) (To.neg (by omega) (To.neg (by omega) (To.neg hne (To.bind hget (To.bind hrp ?_))))))));refine To.bind (a:=.inr (u,10)) (To.neg (by omega) (To.bind (a:=false) (To.neg (by omega) (To.pure.of (by rw [hk];rfl))) (To.neg (by simp) (To.neg (by omega) (To.pos hk (To.bind (hrt.of (decide_eq_true hm)) (To.pos rfl To.pure))))))) ?_;exact To.pure
 .have hv:=h.ok.label hp e hlab hm;have hs:d.It.Label≠x.Label:=λhe=>hm (by rw [he,e];exact List.mem_map.2 ⟨x,by simp,rfl⟩);have ha:To (λn=>M.dS n u d) (D (V3 p (l++ {x with Label:=d.It.Label} :: r)),0):=by refine Bb hd h.facts.valid h1 hfx (.inl hne) ?_;simp only [M.lh];refine To.bind hpar (To.bind hfp (To.bind (htk.of (if_neg hm)) (To.neg (by simp) (To.bind (WJ (hp.step e) h.ok.nice (λ_ s0=>M.nR s0 d) (y:={x with Label:=d.It.Label}) To.pure) To.pure))))
  refine .inl ⟨_,ha,?_,hv⟩;simp only [M.nJ];refine To.bind (rW (u:=u) h.facts.kind h.may) (To.neg (by simp) (To.bind h2 (To.neg (by simp) (To.neg (by omega) (To.neg (by omega) (To.neg hne (To.bind hget (To.bind hrp ?_))))))));refine To.bind (a:=.inl (az,{x with Label:=d.It.Label},p)) (To.neg (by omega) (To.bind (a:=false) (To.neg (by omega) (To.pure.of (by rw [hk];rfl))) (To.neg (by simp) (To.neg (by omega) (To.pos hk (To.bind (hrt.of (decide_eq_false hm)) (To.neg (by simp) To.pure))))))) ?_;exact To.bind (vU (y:={x with Label:=d.It.Label}) h.ok.nice (hp.step e) rfl) To.pure
end Go.Proofs.YtobcmdhemlennaaGreatDoor
