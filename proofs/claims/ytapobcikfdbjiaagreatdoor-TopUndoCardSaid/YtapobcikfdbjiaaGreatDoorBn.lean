import Derived.Test.YtapobcikfdbjiaaGreatDoorPr
import Derived.Test.YtapobcikfdbjiaaGreatDoorTy
/- Plain law. -/
set_option linter.unusedVariables false
set_option linter.unusedSimpArgs false
namespace Go.Proofs.YtapobcikfdbjiaaGreatDoor
open Go Go.Dec
def Step(u:aa)(d:ak):Prop:=
 (∃ v pt,To (fun n=>M.bW n u d) (v,0)/\To (fun n=>M.mK n u d) (v,0)/\To (fun n=>M.j4 n u d) (pt,0)/\Ok v/\To (fun n=>M.di n v pt) (u,0))\/
 (∃ w e f,e≠0/\f≠0/\To (fun n=>M.bW n u d) (w,e)/\To (fun n=>M.mK n u d) (u,f))
abbrev Xr:=aa->aa->ak->Option (aa×Int)
def nY(k:Int)(f:Nat->Xr):Prop:=∀ n,∃ m,M.vI n=some m/\mget m k (fun _ _ _=>none:Xr)=f n/\mhas m k=true
theorem XO:nY 0 (fun n s0 s1 s2=>M.fE n s0 s1 s2):=fun n=>⟨_,rfl,rfl,rfl⟩
theorem XP:nY 1 (fun n s0 s1 s2=>M.nU n s0 s1 s2):=fun n=>⟨_,rfl,rfl,rfl⟩
theorem XQ:nY 2 (fun n s0 s1 s2=>M.qc n s0 s1 s2):=fun n=>⟨_,rfl,rfl,rfl⟩
theorem XR:nY 3 (fun n s0 s1 s2=>M.sJ n s0 s1 s2):=fun n=>⟨_,rfl,rfl,rfl⟩
theorem XT:nY 4 (fun n s0 s1 s2=>M.kU n s0 s1 s2):=fun n=>⟨_,rfl,rfl,rfl⟩
theorem XU:nY 5 (fun n s0 s1 s2=>M.kV n s0 s1 s2):=fun n=>⟨_,rfl,rfl,rfl⟩
theorem XV:nY 6 (fun n s0 s1 s2=>M.jd n s0 s1 s2):=fun n=>⟨_,rfl,rfl,rfl⟩
theorem We{u:aa}{d:ak}{f:Nat->Xr}{id:ai}{e:Int}(hd:nY d.It.Kind f)(hv:To (fun n=>M.j3 n d.It) true)(h:To (fun n=>M.cu n u d.It.At) (id,e))(he:e≠0):To (fun n=>M.bW n u d) (u,e):=by
 obtain ⟨n1,a1⟩:=hv;obtain ⟨n2,a2⟩:=h;refine ⟨n1+n2,fun n hn=>?_⟩;obtain ⟨m,e1,e2,e3⟩:=hd n;simp only [M.bW,e1,Option.bind_some,e2,e3,a1 n (by omega),a2 n (by omega),Bool.true_eq_false,if_false,Bool.not_true,Bool.false_eq_true];exact if_pos he
theorem BX{u x:aa}{d:ak}{f:Nat->Xr}{id:ai}{r:aa×Int}(hd:nY d.It.Kind f)(hv:To (fun n=>M.j3 n d.It) true)(h:To (fun n=>M.cu n u d.It.At) (id,0))(hx:To (fun n=>M.dC n u id) (x,true))(hr:id≠u.Id\/d.It.Kind=0)(hf:To (fun n=>f n u x d) r):To (fun n=>M.bW n u d) r:=by
 obtain ⟨n1,a1⟩:=hv;obtain ⟨n2,a2⟩:=h;obtain ⟨n3,a3⟩:=hx;obtain ⟨n4,a4⟩:=hf;refine ⟨n1+n2+n3+n4,fun n hn=>?_⟩;obtain ⟨m,e1,e2,e3⟩:=hd n;have hb:(if id≠u.Id then some true else some (decide (d.It.Kind=(0:Int))))=some true:=by
  by_cases h:id=u.Id
  ·rw [if_neg (by simpa using h),decide_eq_true (hr.resolve_left (fun k=>k h))]
  ·rw [if_pos h]
 simp only [M.bW,e1,Option.bind_some,e2,e3,a1 n (by omega),a2 n (by omega),a3 n (by omega),Bool.true_eq_false,if_false,Bool.not_true,Bool.false_eq_true];rw [if_neg (by simp),hb];simp only [Option.bind_some,if_true,a4 n (by omega)]
theorem Ug{u x:aa}{d:ak}{f:Nat->Xr}(hd:nY d.It.Kind f)(hv:To (fun n=>M.j3 n d.It) true)(h:To (fun n=>M.cu n u d.It.At) (u.Id,0))(hx:To (fun n=>M.dC n u u.Id) (x,true))(h0:d.It.Kind≠0){id2:ai}{e2:Int}(h6:To (fun n=>M.cu n u d.It.To) (id2,e2)):∃ e,e≠0/\To (fun n=>M.bW n u d) (u,e):=by
 obtain ⟨n1,a1⟩:=hv;obtain ⟨n2,a2⟩:=h;obtain ⟨n3,a3⟩:=hx;obtain ⟨n4,a4⟩:=h6;refine ⟨if d.It.Kind=6/\e2≠0 then e2 else 9,?_,n1+n2+n3+n4,fun n hn=>?_⟩
 ·split
  ·rename_i h;exact h.2
  ·decide
 obtain ⟨m,e1,e3,e4⟩:=hd n;simp only [M.bW,e1,Option.bind_some,e3,e4,a1 n (by omega),a2 n (by omega),a3 n (by omega),a4 n (by omega),Bool.true_eq_false,if_false,Bool.not_true,Bool.false_eq_true];rw [if_neg (by simp),if_neg (by simp)];simp only [Option.bind_some,h0,decide_false,Bool.false_eq_true,if_false];by_cases h6:d.It.Kind=6
 ·rw [if_pos h6];by_cases he:e2=0
  ·rw [if_neg (by simpa using he),if_neg (by simp [he])]
  ·rw [if_pos he,if_pos ⟨h6,he⟩]
 ·rw [if_neg h6,if_neg (by simp [h6])]
theorem K9{k:Int}(h:0<=k/\k<=6):M.nR k=some true:=by
 simp only [M.nR];rw [if_pos h.1,decide_eq_true h.2]
theorem uk{u:aa}{d:ak}(hk:0<=d.It.Kind/\d.It.Kind<=6)(hm:To (fun n=>M.nS n d.It) true):To (fun n=>Option.bind (M.nR d.It.Kind) fun change=>if change=false then some true else Option.bind (M.nS n d.It) fun may=>some (!may)) false:=
 To.bindS (K9 hk) (To.neg (by simp) (To.bind hm To.pure))
theorem Wh{u:aa}{d:ak}{id:ai}{e:Int}(hk:0<=d.It.Kind/\d.It.Kind<=6)(hm:To (fun n=>M.nS n d.It) true)(h:To (fun n=>M.vK n u d.It.At) (id,e))(he:e≠0):To (fun n=>M.mK n u d) (u,e):=by
 simp only [M.mK];exact To.bind (uk (u:=u) hk hm) (To.neg (by simp) (To.bind h (To.pos he To.pure)))
def MO(k:Int)(f:Nat->aa->aa->Option az):Prop:=∀ n,∃ m,M.vJ n=some m/\mget m k (fun _ _=>none:aa->aa->Option az)=f n
theorem BA{u x v:aa}{d:ak}{f:Nat->aa->aa->Option az}{id:ai}{pt:az}(ha:To (fun n=>M.bW n u d) (v,0))(h0:d.It.Kind≠0)(h:To (fun n=>M.cu n u d.It.At) (id,0))(hx:To (fun n=>M.dC n u id) (x,true))(hm:MO d.It.Kind f)(hf:To (fun n=>f n u x) pt):To (fun n=>M.j4 n u d) (pt,0):=by
 obtain ⟨n1,a1⟩:=ha;obtain ⟨n2,a2⟩:=h;obtain ⟨n3,a3⟩:=hx;obtain ⟨n4,a4⟩:=hf;refine ⟨n1+n2+n3+n4,fun n hn=>?_⟩;obtain ⟨m,e1,e2⟩:=hm n;simp only [M.j4,a1 n (by omega),a2 n (by omega),a3 n (by omega),Option.bind_some,e1,e2,a4 n (by omega)];rw [if_neg (by simp),if_neg h0]
structure Aim (u:aa) (d:ak):Prop where
 ok:Ok u
 few:FewP d.It
 facts:zQ d.It
 may:To (fun n=>M.nS n d.It) true
theorem Aim.ul{u:aa}{d:ak}(h:Aim u d)(p:List ax):(units u p).length<=lim38:=by
 have h1:=yL u p;have h2:=h.ok.hcnt;have h3:cnt u*cnt u<=1024*1024:=Nat.mul_le_mul h2 h2;unfold lim38;omega
theorem Aim.one{u:aa}{d:ak}(h:Aim u d)(p:List ax):To (fun n=>M.cu n u p) (oneOf ((units u p).map aa.Id)):=
 xg u p (by have:=h.ok.hcnt;omega) (h.ul p)
theorem Aim.oneR{u:aa}{d:ak}(h:Aim u d)(p:List ax)(hp:∀ y,y∈p->y.Label.length<=100):To (fun n=>M.vK n u p) (oneOf ((units u p).map aa.Id)):=
 Wz u p (by have:=h.ok.hcnt;omega) fun y hy=>by have:=hp y hy;omega
theorem Aim.lim{u p:aa}{d:ak}{k:Nat}{D:aa->aa}(h:Aim u d)(hp:At p k u D):k<=8:=by
 have:=hp.dpO;have:=h.ok.hdp;omega
theorem Jl{u:aa}{d:ak}(h:Aim u d){f:Nat->Xr}(hd:nY d.It.Kind f)(he:(oneOf ((units u d.It.At).map aa.Id)).2≠0):Step u d:=by
 refine .inr ⟨u,_,_,he,he,We hd h.facts.valid (h.one _) he,Wh h.facts.kind h.may (h.oneR _ h.few.atL) he⟩
theorem Oe{u:aa}{d:ak}(h:Aim u d){f:Nat->Xr}(hd:nY d.It.Kind f)(ho:oneOf ((units u d.It.At).map aa.Id)=(u.Id,0))(h0:d.It.Kind≠0):Step u d:=by
 have h1:=h.one d.It.At;have h2:=h.oneR d.It.At h.few.atL;rw [ho] at h1 h2;obtain ⟨e,he,ha⟩:=Ug hd h.facts.valid h1 (jP h.ok.nice .here) h0 (h.one d.It.To);have hdo:∃ f,f≠0/\To (fun n=>M.mK n u d) (u,f):=by
  have hg:To (fun n=>M.iR n u u.Id) (u,0):=get_at (d:=0) .here h.ok.nd (Nat.zero_le _);simp only [M.mK];by_cases h6:d.It.Kind=6
  ·have h3:=h.oneR d.It.To h.few.toL;generalize hq:oneOf ((units u d.It.To).map aa.Id)=q at h3;by_cases hq0:q.2=0
   ·have hgo:∃ x e,To (fun n=>M.iR n u q.1) (x,e):=by
     have hq2:(oneOf ((units u d.It.To).map aa.Id)).2=0:=by rw [hq];exact hq0
     obtain ⟨y,hy,hyi⟩:=zN u d.It.To hq2;obtain ⟨k,E,hE⟩:=At.zO hy;refine ⟨y,(k:Int),?_⟩;rw [hq] at hyi;rw [<-hyi];exact get_at hE h.ok.nd (by have:=h.lim hE;omega)
    obtain ⟨x,e,hgo⟩:=hgo;refine ⟨9,by decide,To.bind (uk (u:=u) h.facts.kind h.may) (To.neg (by simp) (To.bind h2 (To.neg (by simp) (To.neg h0 (To.pos h6 (To.bind (a:=(u,9)) ?_ To.pure))))))⟩;simp only [M.ma];have hb:∃ b,To (fun _:Nat=>if d.It.Where=(2:Int) then some true else some (decide (d.It.Where=(3:Int)))) b:=by
     by_cases hw:d.It.Where=2
     ·exact ⟨_,To.pos hw To.pure⟩
     ·exact ⟨_,To.neg hw To.pure⟩
    obtain ⟨b,hb⟩:=hb;exact To.bind h3 (To.neg (by simpa using hq0) (To.bind hb (To.bind hg (To.bind hgo (To.bind (a:=true) (To.pos trivial To.pure) (To.pos rfl To.pure))))))
   ·refine ⟨q.2,hq0,To.bind (uk (u:=u) h.facts.kind h.may) (To.neg (by simp) (To.bind h2 (To.neg (by simp) (To.neg h0 (To.pos h6 (To.bind (a:=(u,q.2)) ?_ To.pure))))))⟩;simp only [M.ma];exact To.bind h3 (To.pos hq0 To.pure)
  ·exact ⟨9,by decide,To.bind (uk (u:=u) h.facts.kind h.may) (To.neg (by simp) (To.bind h2 (To.neg (by simp) (To.neg h0 (To.neg h6 (To.pos rfl To.pure))))))⟩
 obtain ⟨f,hf,hdo⟩:=hdo;exact .inr ⟨u,e,f,he,hf,ha,hdo⟩
theorem Aim.cases{u:aa}{d:ak}(h:Aim u d){f:Nat->Xr}(hd:nY d.It.Kind f)(h0:d.It.Kind≠0)
  (k:∀ x k C,At x (k+1) u C->oneOf ((units u d.It.At).map aa.Id)=(x.Id,0)->x.Id≠u.Id->Step u d):Step u d:=by
 by_cases he:(oneOf ((units u d.It.At).map aa.Id)).2=0
 ·obtain ⟨x,hx,hxi⟩:=zN u d.It.At he;have ho:oneOf ((units u d.It.At).map aa.Id)=(x.Id,0):=Prod.ext hxi.symm he;obtain ⟨j,C,hC⟩:=At.zO hx;cases j with
  | zero=>obtain ⟨rfl,_⟩:=hC.zero;exact Oe h hd ho h0
  | succ j=>exact k x j C hC ho fun e=>hC.ne h.ok.nd e.symm
 ·exact Jl h hd he
theorem Jm{u:aa}{d:ak}(h:Aim u d)(hk:d.It.Kind=1):Step u d:=by
 have hd:nY d.It.Kind (fun n s0 s1 s2=>M.nU n s0 s1 s2):=hk▸XP;refine h.cases hd (by omega) fun x k C hC ho hne=>?_;obtain ⟨p,l,r,D,e,hp,_⟩:=hC.up;have h1:=h.one d.It.At;have h2:=h.oneR d.It.At h.few.atL;rw [ho] at h1 h2;have hfx:=jP h.ok.nice hC;have hv:=h.ok.del hp e;have ha:To (fun n=>M.bW n u d) (D (WO p (l++r)),0):=by
  refine BX hd h.facts.valid h1 hfx (.inl hne) ?_;simp only [M.nU];exact To.bind (Xj h.ok.nice hp e) To.pure
 have hpl:=h.ok.mid hp e;refine .inl ⟨D (WO p (l++r)),⟨1,(l.length:Nat),x.Id,p.Id,x,[],[]⟩,ha,?_,BA ha (by omega) h1 hfx (f:=fun n s0 s1=>M.pu n s0 s1) (fun n=>⟨_,rfl,by rw [hk];rfl⟩) ?_,hv,I9 h.ok hp e hv rfl rfl rfl rfl⟩
 ·simp only [M.mK];refine To.bind (uk (u:=u) h.facts.kind h.may) (To.neg (by simp) (To.bind h2 (To.neg (by simp) (To.neg (by omega) (To.neg (by omega) (To.neg hne (To.bind (get_at hC h.ok.nd (by have:=h.lim hC;omega)) (To.bind (xm hp h.ok.nd e (by have:=h.lim hp;omega)) ?_))))))));refine To.bind (a:=.inr (D (WO p (l++r)),0)) (To.pos hk (To.bindS (a:=l++r) (by rw [e];exact XN l r x (by have:=hpl.len;omega)) (To.bind (xn (y:=WO p (l++r)) h.ok.nice hp rfl) To.pure))) ?_;exact To.pure
 ·simp only [M.pu,M.sM];exact To.bind (To.bind (Bv h.ok.nice hp e) To.pure) To.pure
theorem D8{u:aa}{d:ak}(h:Aim u d)(hk:d.It.Kind=2\/d.It.Kind=3){f:Nat->Xr}(hd:nY d.It.Kind f){g:List af->Nat->Option (List af×Int)}
  (hf:∀ x w,To (g x.Words) (w,0)->∀ C k,At x (k+1) u C->To (fun n=>f n u x d) (C {x with Words:=w},0)) (hf2:∀ x r,To (g x.Words) r->r.2≠0->To (fun n=>f n u x d) (u,r.2))
  (hg:∀ w:List af,w.length<=256->Both w d.It.New (g w) (fun n=>M.qp n w d.It d.Act d.Item)) (hnew:seqB d.It.New=true):Step u d:=by
 refine h.cases hd (by omega) fun x k C hC ho hne=>?_;obtain ⟨p,l,r,D,e,hp,_⟩:=hC.up;have h1:=h.one d.It.At;have h2:=h.oneR d.It.At h.few.atL;rw [ho] at h1 h2;have hfx:=jP h.ok.nice hC;have hin:=h.ok.inner hC;obtain ⟨_,_,_,_,_,hwl,hww⟩:=tu (sD hin.2.2);obtain ⟨r1,s1,g1,g2,g3⟩:=hg x.Words hwl;have hv2:To (fun _:Nat=>if d.It.Kind=(2:Int) then some (decide (d.It.Kind=(2:Int))) else some (decide (d.It.Kind=(3:Int)))) true:=by
  rcases hk with hk | hk
  ·exact To.pos hk (To.pure.of (by rw [hk];rfl))
  ·exact To.neg (by omega) (To.pure.of (by rw [hk];rfl))
 have hget:=get_at hC h.ok.nd (by have:=h.lim hC;omega);have hpar:=xm hp h.ok.nd e (by have:=h.lim hp;omega);rcases g3 with ⟨e1,e2⟩ | ⟨rfl,e1,hlen,hmem⟩
 ·refine .inr ⟨u,r1.2,s1.2,e1,e2,BX hd h.facts.valid h1 hfx (.inl hne) (hf2 x r1 g1 e1),?_⟩;simp only [M.mK];refine To.bind (uk (u:=u) h.facts.kind h.may) (To.neg (by simp) (To.bind h2 (To.neg (by simp) (To.neg (by omega) (To.neg (by omega) (To.neg hne (To.bind hget (To.bind hpar ?_))))))));refine To.bind (a:=.inr (u,s1.2)) (To.neg (by omega) (To.bind hv2 (To.pos rfl (To.bind g2 (To.pos e2 To.pure))))) ?_;exact To.pure
 ·obtain ⟨w,z⟩:=r1;have e1:z=0:=e1;subst e1;have hrow:rowB w=true:=by
   unfold rowB seqB;rw [Bool.and_eq_true,decide_eq_true_eq,List.all_eq_true];refine ⟨by simpa [txts] using hlen,fun t ht=>?_⟩;obtain ⟨y,hy,rfl⟩:=List.mem_map.1 ht;rcases hmem y hy with hy | hy
   ·exact hww y hy
   ·unfold seqB at hnew;rw [Bool.and_eq_true,List.all_eq_true] at hnew;exact hnew.2 _ hy
  have hv:=h.ok.words hC hrow;have ha:To (fun n=>M.bW n u d) (C {x with Words:=w},0):=BX hd h.facts.valid h1 hfx (.inl hne) (hf x w g1 C k hC);refine .inl ⟨C {x with Words:=w},⟨4,0,x.Id,aF,au,[],x.Words⟩,ha,?_,BA ha (by omega) h1 hfx (f:=fun _ s0 s1=>M.mJ s0 s1) (fun n=>⟨_,rfl,by rcases hk with hk | hk<;> (rw [hk];rfl)⟩) ?_,hv,NY h.ok hC hv rfl rfl rfl⟩
  ·simp only [M.mK];refine To.bind (uk (u:=u) h.facts.kind h.may) (To.neg (by simp) (To.bind h2 (To.neg (by simp) (To.neg (by omega) (To.neg (by omega) (To.neg hne (To.bind hget (To.bind hpar ?_))))))));refine To.bind (a:=.inl (au,{x with Words:=w},p)) (To.neg (by omega) (To.bind hv2 (To.pos rfl (To.bind g2 (To.neg (by simp) To.pure))))) ?_;exact To.bind (xn (y:={x with Words:=w}) h.ok.nice hC rfl) To.pure
  ·simp only [M.mJ];exact To.bindS (Xd _ (by omega)) To.pure
theorem AR{l:List Str}(h:seqB l=true):l.length<=256:=by
 unfold seqB at h;rw [Bool.and_eq_true,decide_eq_true_eq] at h;exact h.1
theorem Gn{u:aa}{d:ak}(h:Aim u d)(hk:d.It.Kind=2):Step u d:=by
 obtain ⟨⟨k1,k2⟩,k3,k4⟩:=h.facts.k2 hk;have l1:=AR k1;have l2:=AR k3;refine D8 h (.inl hk) (hk▸XQ) (g:=fun w n=>M.kK n w d.It.Old d.It.New d.It.Nth d.Act d.Item) (fun x w hw C k hC=>?_) (fun x r hr hz=>?_) (fun w hw=>Gj w d.It d.Act d.Item hw l1 l2 hk k2 k4) k3
 ·simp only [M.qc];exact To.bind hw (To.neg (by simp) (To.bind (Xl hC h.ok.nice (fun _ s0=>M.qN s0 w) To.pure) To.pure))
 ·simp only [M.qc];exact To.bind hr (To.pos hz To.pure)
theorem QU{u:aa}{d:ak}(h:Aim u d)(hk:d.It.Kind=3):Step u d:=by
 obtain ⟨k1,⟨k2,k3⟩,k4,k5⟩:=h.facts.k3 hk;have l1:=AR k1;have l2:=AR k2;refine D8 h (.inr hk) (hk▸XR) (g:=fun w n=>M.eH n w d.It.Old d.It.New d.It.Nth d.Act d.Item) (fun x w hw C k hC=>?_) (fun x r hr hz=>?_) (fun w hw=>Jg w d.It d.Act d.Item hw l1 l2 k3 hk k4 k5) k2
 ·simp only [M.sJ];exact To.bind hw (To.neg (by simp) (To.bind (Xl hC h.ok.nice (fun _ s0=>M.tT s0 w) To.pure) To.pure))
 ·simp only [M.sJ];exact To.bind hr (To.pos hz To.pure)
theorem Gp{u:aa}{d:ak}(h:Aim u d)(hk:d.It.Kind=4):Step u d:=by
 have hd:nY d.It.Kind (fun n s0 s1 s2=>M.kU n s0 s1 s2):=hk▸XT;have hnew:=h.facts.k4 hk;have hl:=AR hnew;refine h.cases hd (by omega) fun x k C hC ho hne=>?_;obtain ⟨p,l,r,D,e,hp,_⟩:=hC.up;have h1:=h.one d.It.At;have h2:=h.oneR d.It.At h.few.atL;rw [ho] at h1 h2;have hfx:=jP h.ok.nice hC;have hin:=h.ok.inner hC;obtain ⟨_,_,_,_,⟨hwl,hww⟩,_⟩:=tu (sD hin.2.2);have hv:=h.ok.head hC (w:=markL d.Act d.Item 0 d.It.New) (by unfold rowB;rw [yP];exact hnew);have ha:To (fun n=>M.bW n u d) (C {x with Head:=markL d.Act d.Item 0 d.It.New},0):=by
  refine BX hd h.facts.valid h1 hfx (.inl hne) ?_;simp only [M.kU];exact To.bindS (K4 _ _ _ 0 (by omega)) (To.bind (Xl hC h.ok.nice (fun _ s0=>M.qX s0 (markL d.Act d.Item 0 d.It.New)) To.pure) To.pure)
 refine .inl ⟨_,⟨5,0,x.Id,aF,au,[],x.Head⟩,ha,?_,BA ha (by omega) h1 hfx (f:=fun _ s0 s1=>M.pz s0 s1) (fun n=>⟨_,rfl,by rw [hk];rfl⟩) ?_,hv,QE h.ok hC hv rfl rfl rfl⟩
 ·simp only [M.mK];refine To.bind (uk (u:=u) h.facts.kind h.may) (To.neg (by simp) (To.bind h2 (To.neg (by simp) (To.neg (by omega) (To.neg (by omega) (To.neg hne (To.bind (get_at hC h.ok.nd (by have:=h.lim hC;omega)) (To.bind (xm hp h.ok.nd e (by have:=h.lim hp;omega)) ?_))))))));refine To.bind (a:=.inl (au,{x with Head:=markL d.Act d.Item 0 d.It.New},p)) (To.neg (by omega) (To.bind (a:=false) (To.neg (by omega) (To.pure.of (by rw [hk];rfl))) (To.neg (by simp) (To.pos hk (To.bind (DZ _ _ _ 0 (by omega)) To.pure))))) ?_;exact To.bind (xn (y:={x with Head:=markL d.Act d.Item 0 d.It.New}) h.ok.nice hC rfl) To.pure
 ·simp only [M.pz];exact To.bindS (Xd _ (by omega)) To.pure
theorem vg(p x:aa)(hn:nestB p.Kind x.Kind=true):To (fun n=>M.l9 n p x) (if keyU x∈p.Kids.map keyU then 10 else 0):=by
 simp only [M.l9];have hany:=X8 p.Kids (fun z=>decide (z.Kind=x.Kind) && (z.Label==x.Label)) (fun _ s0=>M.qM s0 x) fun z hz=>by
  simp only [M.qM];exact To.ite (fun e=>To.pure.of (by simp [e])) fun e=>To.pure.of (by simp [e])
 rw [TT] at hany;refine To.bind ((zK _ _).of hn) (To.neg (by simp) (To.bind hany ?_));by_cases hm:keyU x∈p.Kids.map keyU
 ·rw [if_pos hm];exact To.pos (decide_eq_true hm) To.pure
 ·rw [if_neg hm];exact To.neg (by rw [decide_eq_true_eq];exact hm) To.pure
theorem Jn(p x:aa)(hn:nestB p.Kind x.Kind=false):To (fun n=>M.l9 n p x) 9:=by
 simp only [M.l9];exact To.bind ((zK _ _).of hn) (To.pos rfl To.pure)
theorem step_label{u:aa}{d:ak}(h:Aim u d)(hk:d.It.Kind=5):Step u d:=by
 have hd:nY d.It.Kind (fun n s0 s1 s2=>M.kV n s0 s1 s2):=hk▸XU;have hlab:=h.facts.k5 hk;refine h.cases hd (by omega) fun x k C hC ho hne=>?_;obtain ⟨p,l,r,D,e,hp,_⟩:=hC.up;have h1:=h.one d.It.At;have h2:=h.oneR d.It.At h.few.atL;rw [ho] at h1 h2;have hfx:=jP h.ok.nice hC;have hmid:=h.ok.mid hp e;have hpar:=Bv h.ok.nice hp e;have hfp:=jP h.ok.nice hp;have htk:=vg p {x with Label:=d.It.Label} hmid.nest;have hget:=get_at hC h.ok.nd (by have:=h.lim hC;omega);have hrp:=xm hp h.ok.nd e (by have:=h.lim hp;omega);have hrt:=Xf p.Kids x.Kind d.It.Label;by_cases hm:(x.Kind,d.It.Label)∈p.Kids.map keyU
 ·refine .inr ⟨u,10,10,by decide,by decide,BX hd h.facts.valid h1 hfx (.inl hne) ?_,?_⟩
  ·simp only [M.kV];exact To.bind hpar (To.bind hfp (To.bind (htk.of (if_pos hm)) (To.pos rfl To.pure)))
  ·simp only [M.mK];refine To.bind (uk (u:=u) h.facts.kind h.may) (To.neg (by simp) (To.bind h2 (To.neg (by simp) (To.neg (by omega) (To.neg (by omega) (To.neg hne (To.bind hget (To.bind hrp ?_))))))));refine To.bind (a:=.inr (u,10)) (To.neg (by omega) (To.bind (a:=false) (To.neg (by omega) (To.pure.of (by rw [hk];rfl))) (To.neg (by simp) (To.neg (by omega) (To.pos hk (To.bind (hrt.of (decide_eq_true hm)) (To.pos rfl To.pure))))))) ?_;exact To.pure
 ·have hv:=h.ok.label hp e hlab hm;have hs:d.It.Label≠x.Label:=fun he=>hm (by rw [he,e];exact List.mem_map.2 ⟨x,by simp,rfl⟩);have ha:To (fun n=>M.bW n u d) (D (WO p (l++ {x with Label:=d.It.Label} :: r)),0):=by refine BX hd h.facts.valid h1 hfx (.inl hne) ?_;simp only [M.kV];refine To.bind hpar (To.bind hfp (To.bind (htk.of (if_neg hm)) (To.neg (by simp) (To.bind (Xl (hp.step e) h.ok.nice (fun _ s0=>M.ou s0 d) (y:={x with Label:=d.It.Label}) To.pure) To.pure))))
  refine .inl ⟨_,⟨3,0,x.Id,aF,au,x.Label,[]⟩,ha,?_,BA ha (by omega) h1 hfx (f:=fun _ s0 s1=>M.qQ s0 s1) (fun n=>⟨_,rfl,by rw [hk];rfl⟩) To.pure,hv,NZ h.ok hp e hs hv rfl rfl rfl⟩;simp only [M.mK];refine To.bind (uk (u:=u) h.facts.kind h.may) (To.neg (by simp) (To.bind h2 (To.neg (by simp) (To.neg (by omega) (To.neg (by omega) (To.neg hne (To.bind hget (To.bind hrp ?_))))))));refine To.bind (a:=.inl (au,{x with Label:=d.It.Label},p)) (To.neg (by omega) (To.bind (a:=false) (To.neg (by omega) (To.pure.of (by rw [hk];rfl))) (To.neg (by simp) (To.neg (by omega) (To.pos hk (To.bind (hrt.of (decide_eq_false hm)) (To.neg (by simp) To.pure))))))) ?_;exact To.bind (xn (y:={x with Label:=d.It.Label}) h.ok.nice (hp.step e) rfl) To.pure
theorem Ok.good{u:aa}(h:Ok u):Good u:=by
 refine ⟨fun x hx=>?_,by rw [MN];exact h.hdp,h.nd⟩;have hok:=h.oks x hx;obtain ⟨h1,h2,_,h4,_,_⟩:=tu (sD hok);have h5:=AL hok;simp only [kidB,Bool.and_eq_true,List.all_eq_true,decide_eq_true_eq] at h5;refine ⟨⟨h1,h2⟩,h4,fun k hk e=>?_,fun i j hi hj hij he=>?_⟩
 ·have:=h5.1.1 k hk;rw [e,F3] at this;cases this
 ·have:=h5.1.2;rw [List.Nodup,List.pairwise_map,List.pairwise_iff_getElem] at this;exact this i j hi hj hij (Prod.ext he.1 he.2)
theorem Ok.dest{u:aa}(h:Ok u)(it:ah):To (fun n=>M.jc n u it) (Xg u it):=
 V4 u (by have:=h.hcnt;omega) h.oks.labs h.good it
structure Lead (u t:aa) (w:Int) (e:Nat) (p:aa) (dd:Nat) (D:aa->aa) (a b:List aa):Prop where
 here:At p dd u D
 kids:p.Kids=a++b
 lead:ic t.Id u w=(p.Id,((a.length:Nat):Int),0)
 how:((w=0\/w=1)/\p=t/\dd=e/\(w=0->a= [])/\(w=1->b= []))\/((w=2\/w=3)/\t.Id≠u.Id/\ ∃ l r,p.Kids=l++t :: r/\(w=2->a=l++ [t]/\b=r)/\(w=3->a=l/\b=t :: r))
theorem MP{u t:aa}{e:Nat}{E:aa->aa}(hn:Nice u)(ht:At t e u E){w:Int}(h0:0<=w)(h3:w<=3):((w=2\/w=3)/\t.Id=u.Id/\ic t.Id u w=(aF,0,9))\/ ∃ p dd D a b,Lead u t w e p dd D a b:=by
 have hf:(findR t.Id u).1=t:=by unfold findR;rw [ht.findE hn.nd]
 have hw:w=0\/w=1\/w=2\/w=3:=by omega
 rcases hw with rfl | rfl | hw
 ·exact .inr ⟨t,e,E,[],t.Kids,ht,rfl,by unfold ic;rw [if_pos rfl];rfl,.inl ⟨.inl rfl,rfl,rfl,fun _=>rfl,fun h=>absurd h (by decide)⟩⟩
 ·exact .inr ⟨t,e,E,t.Kids,[],ht,by rw [List.append_nil],by unfold ic;rw [if_neg (by decide),if_pos rfl,hf],.inl ⟨.inr rfl,rfl,rfl,fun h=>absurd h (by decide),fun _=>rfl⟩⟩
 ·by_cases hr:t.Id=u.Id
  ·refine .inl ⟨hw,hr,?_⟩;unfold ic;rw [if_neg (by omega),if_neg (by omega),if_pos hr.symm]
  ·cases e with
   | zero=>obtain ⟨rfl,_⟩:=ht.zero;exact absurd rfl hr
   | succ e=>
    obtain ⟨p,l,r,D,ek,hp,_⟩:=ht.up;have hpar:=hp.parE hn.nd ek;rcases hw with rfl | rfl
    ·refine .inr ⟨p,e,D,l++ [t],r,hp,by rw [ek];simp,?_,.inr ⟨.inl rfl,hr,l,r,ek,fun _=>⟨rfl,rfl⟩,fun h=>absurd h (by decide)⟩⟩;unfold ic;rw [if_neg (by decide),if_neg (by decide),if_neg (fun h=>hr h.symm),hpar];simp
    ·refine .inr ⟨p,e,D,l,t :: r,hp,ek,?_,.inr ⟨.inr rfl,hr,l,r,ek,fun h=>absurd h (by decide),fun _=>⟨rfl,rfl⟩⟩⟩;unfold ic;rw [if_neg (by decide),if_neg (by decide),if_neg (fun h=>hr h.symm),hpar];simp
theorem Xz(u:aa)(h:cnt u<=1000000):To (fun n=>M.ny n u) (desc u):=ES u h
theorem QV(u x:aa)(hu:Nice u)(hx:cnt x<=10000):∃ r,To (fun n=>M.dV u (desc x) n (0:Int) au) r/\((r= .inl au/\ ∀ i∈ids x,i ∉ ids u)\/(r= .inr (u,5)/\ ∃ i∈ids x,i∈ids u)):=by
 have loop:∀ (xs:List aa) (i:Nat),(desc x).drop i=xs->∃ r,To (fun n=>M.dV u (desc x) n (i:Int) au) r/\((r= .inl au/\ ∀ y∈xs,y.Id ∉ ids u)\/(r= .inr (u,5)/\ ∃ y∈xs,y.Id∈ids u)):=by
  intro xs;induction xs with
  | nil=>intro i hx;exact ⟨.inl au,To.succ (by simp only [M.dV];exact To.neg (aS hx) To.pure),.inl ⟨rfl,fun y hy=>by cases hy⟩⟩
  | cons y xs ih=>
   intro i hx;by_cases hy:y.Id∈ids u
   ·obtain ⟨z,hz,hzi⟩:=uG.1 hy;obtain ⟨k,E,hE⟩:=At.zO hz;have hg:=get_at hE hu.nd (by have:=hE.dpO;have:=F5 u;have:=hu.few;omega);rw [hzi] at hg;refine ⟨.inr (u,5),To.succ ?_,.inr ⟨rfl,y,by simp,hy⟩⟩;simp only [M.dV];exact To.pos (aK hx) (To.bindS (aA hx) (To.bind hg (To.pos (by simp) To.pure)))
   ·obtain ⟨r,h1,h2⟩:=ih (i+1) (aI hx);refine ⟨r,To.succ ?_,?_⟩
    ·simp only [M.dV];refine To.pos (aK hx) (To.bindS (aA hx) (To.bind (K5 _ u hy) (To.neg (by simp) ?_)));rw [bE];exact h1
    ·rcases h2 with ⟨e,h2⟩ | ⟨e,z,hz,h2⟩
     ·refine .inl ⟨e,fun z hz=>?_⟩;rcases List.mem_cons.1 hz with rfl | hz
      ·exact hy
      ·exact h2 z hz
     ·exact .inr ⟨e,z,by simp [hz],h2⟩
 obtain ⟨r,h1,h2⟩:=loop (desc x) 0 rfl;refine ⟨r,h1,?_⟩;rcases h2 with ⟨e,h2⟩ | ⟨e,z,hz,h2⟩
 ·exact .inl ⟨e,fun i hi=>by obtain ⟨y,hy,rfl⟩:=uG.1 hi;exact h2 y hy⟩
 ·exact .inr ⟨e,z.Id,uG.2 ⟨z,hz,rfl⟩,h2⟩
theorem Jo(u x:aa):To (fun n=>M.bf n (ids x) (fun s0=>M.lC n s0 (ids u))) (decide (∃ i∈ids x,i∈ids u)):=by
 refine (XL (ids x) (fun n s0=>M.lC n s0 (ids u)) (fun i=>decide (i∈ids u)) fun i _=>?_).of ?_
 ·simp only [M.lC];exact To.bind (BS _ _) To.pure
 ·rw [Bool.eq_iff_iff,List.any_eq_true,decide_eq_true_eq];simp
theorem Uh{u:aa}(h:valT u=true):Oks u/\dp u<=8/\cnt u<=1024:=by
 obtain ⟨h1,h2,h3⟩:=F7 h;exact ⟨h3,h2,h1⟩
theorem Gr{p x u:aa}{dd:Nat}{D:aa->aa}(h:Nice u)(hp:At p dd u D)(hx:smT x)(hd:dd<=10000):To (fun n=>M.lv n u p.Id x) (decide (8<dd+1+dp x)):=by
 obtain ⟨r,h1,h2⟩:=QA h hp;simp only [M.lv];have hx1:=F5 x;have hx2:=hx.1;refine To.bind h1 (To.bindS (gp (by rw [h2];omega) (by rw [h2];omega)) (To.bind (AA x hx) (To.bindS (gp (by rw [h2];omega) (by rw [h2];omega)) (To.pure.of ?_))));rw [h2,decide_eq_decide];omega
theorem Jp{u:aa}{d:ak}(h:Aim u d)(hk:d.It.Kind=0):Step u d:=by
 have hd:nY d.It.Kind (fun n s0 s1 s2=>M.fE n s0 s1 s2):=hk▸XO;by_cases he:(oneOf ((units u d.It.At).map aa.Id)).2=0
 case neg=>exact Jl h hd he
 obtain ⟨t,htm,hti⟩:=zN u d.It.At he;have ho:oneOf ((units u d.It.At).map aa.Id)=(t.Id,0):=Prod.ext hti.symm he;obtain ⟨e,E,ht⟩:=At.zO htm;have h1:=h.one d.It.At;have h2:=h.oneR d.It.At h.few.atL;rw [ho] at h1 h2;have hn:=h.ok.nice;have hft:=jP hn ht;have hget:=get_at ht h.ok.nd (by have:=h.lim ht;omega);obtain ⟨⟨w0,w3⟩,hval,hu0⟩:=h.facts.k0 hk;obtain ⟨uo,ud,uc⟩:=Uh hval;have hdest:=h.ok.dest d.It;have hde:Xg u d.It=ic t.Id u d.It.Where:=by
  unfold Xg;rw [if_pos hk];unfold XK;rw [if_neg (by omega),ho];simp
 rw [hde] at hdest;have hapd:∀ {r:aa×Int},To (fun n=>M.fE n u t d) r->To (fun n=>M.bW n u d) r:=fun hr=>BX hd h.facts.valid h1 hft (.inr hk) hr;have hdo:∀ {r:aa×Int},To (fun n=>M.jT n u t.Id d) r->To (fun n=>M.mK n u d) r:=fun hr=>by
  simp only [M.mK];exact To.bind (uk (u:=u) h.facts.kind h.may) (To.neg (by simp) (To.bind h2 (To.neg (by simp) (To.pos hk (To.bind hr To.pure)))))
 have hkk:To (fun _:Nat=>if d.It.Where=(0:Int) then some (0:Int) else some (t.Kids.length:Int)) (if d.It.Where=0 then 0 else (t.Kids.length:Int)):=To.ite (fun a=>To.pure.of (if_pos a).symm) fun a=>To.pure.of (if_neg a).symm;have hbes:To (fun _:Nat=>if d.It.Where=(2:Int) then some true else some (decide (d.It.Where=(3:Int)))) (decide (d.It.Where=2\/d.It.Where=3)):=To.ite (fun a=>To.pure.of (by simp [a])) fun a=>To.pure.of (by simp [a]);rcases MP hn ht w0 w3 with ⟨hw,htr,hl⟩ | ⟨p,dd,D,a,b,L⟩
 ·rw [hl] at hdest;refine .inr ⟨u,9,9,by decide,by decide,hapd ?_,hdo ?_⟩
  ·simp only [M.fE];exact To.bind hdest (To.pos (by decide) To.pure)
  ·simp only [M.jT];refine To.bind hget (To.bind hkk (To.bind (a:=.inr (u,9)) (To.bind hbes (To.pos (decide_eq_true hw) (To.pos htr To.pure))) ?_));exact To.pure
 ·have hp:=L.here;have ek:=L.kids;rw [L.lead] at hdest;have hpre:To (fun n=>Option.bind (if d.It.Where=(2:Int) then some true else some (decide (d.It.Where=(3:Int)))) fun v1=>if v1=true then if t.Id=u.Id then some (Sum.inr (u,(9:Int))) else Option.bind (M.fT n u t.Id) fun parent=>if d.It.Where=(2:Int) then Option.bind (addC parent.2.2 (1:Int)) fun v2=>some (.inl (parent.2.1,v2,au,parent.1)) else some (.inl (parent.2.1,parent.2.2,au,parent.1)) else some (.inl ((e:Int),(if d.It.Where=0 then 0 else (t.Kids.length:Int)),au,t))) (Sum.inl (((dd:Nat):Int),((a.length:Nat):Int),au,p):(Int×Int×aa×aa) ⊕ (aa×Int)):=by
   refine To.bind hbes ?_;rcases L.how with ⟨hw,rfl,rfl,ha,hb⟩ | ⟨hw,hne,l,r,ekl,hw2,hw3⟩
   ·refine To.neg (by rw [decide_eq_true_eq];omega) (To.pure.of ?_);rcases hw with hw | hw
    ·rw [if_pos hw,ha hw];rfl
    ·rw [if_neg (by omega),ek,hb hw,List.append_nil]
   ·refine To.pos (decide_eq_true hw) (To.neg hne (To.bind (xm hp h.ok.nd ekl (by have:=h.lim hp;omega)) ?_));have hkl:=(h.ok.oks.sub hp.mem).kidsLen;have hll:l.length<=64:=by rw [ekl] at hkl;simp at hkl;omega
    rcases hw with hw | hw
    ·refine To.pos hw (To.bindS (mr _ (by omega)) (To.pure.of ?_));rw [(hw2 hw).1];simp
    ·refine To.neg (by omega) (To.pure.of ?_);rw [(hw3 hw).1]
  have hst:=stamped d.Act d.Item d.It.Unit 1 0;have hsp:=QK uo uc d.Act d.Item;have hsr:=QL uo uc d.Act d.Item;have hsnd:=Qx d.Act d.Item d.It.Unit 1 0;have hsid:=Qy d.Act d.Item d.It.Unit 1 0;generalize hx:WQ d.Act d.Item d.It.Unit 1 0=x at hst hsp hsr hsnd hsid;have xk:=hst.hk;have xo:=hst.ho uo;have xd:=hst.hd;have xc:=hst.hc;rw [hx] at xk xo xd xc;have hfp:=jP hn hp;have hxs:smT x:=xo.sm (by omega);have hds:dd<=8:=h.lim hp;have hkl:=(h.ok.oks.sub hp.mem).kidsLen
  -- an error of both
  have bad:∀ e:Int,e≠0->To (fun n=>M.fE n u t d) (u,e)->To (fun n=>M.jT n u t.Id d) (u,e)->Step u d:=fun e he q1 q2=>.inr ⟨u,e,e,he,he,hapd q1,hdo q2⟩;by_cases hnest:nestB p.Kind x.Kind=true
  case neg=>
   have hnest:nestB p.Kind x.Kind=false:=by simpa using hnest
   refine bad 9 (by decide) ?_ ?_
   ·simp only [M.fE];exact To.bind hdest (To.neg (by simp) (To.bind hfp (To.bind hsp (To.bind (Jn p x hnest) (To.pos (by decide) To.pure)))))
   ·simp only [M.jT];exact To.bind hget (To.bind hkk (To.bind hpre (To.bind hsr (To.bindS (uj _ _) (To.pos hnest To.pure)))))
  by_cases hkey:keyU x∈p.Kids.map keyU
  ·refine bad 10 (by decide) ?_ ?_
   ·simp only [M.fE];exact To.bind hdest (To.neg (by simp) (To.bind hfp (To.bind hsp (To.bind ((vg p x hnest).of (if_pos hkey)) (To.pos (by decide) To.pure)))))
   ·simp only [M.jT];exact To.bind hget (To.bind hkk (To.bind hpre (To.bind hsr (To.bindS (uj _ _) (To.neg (by simp [hnest]) (To.bind ((Xf p.Kids x.Kind x.Label).of (decide_eq_true hkey)) (To.pos rfl To.pure)))))))
  have gop:∀ {r:aa×Int},To (fun n=>if (64:Int)<=(p.Kids.length:Int) then some (u,(6:Int)) else Option.bind (M.lv n u p.Id x) fun deep=>if deep=true then some (u,(6:Int)) else
     Option.bind (M.lw n u) fun count=>Option.bind (M.lw n x) fun count1=>Option.bind (addC count count1) fun v=>if (1024:Int)< v then some (u,(6:Int)) else
      Option.bind (M.oq n u) fun ids=>Option.bind (M.oq n x) fun ids1=>Option.bind (M.bf n ids1 (fun s0=>M.lC n s0 ids)) fun id=>if id=true then some (u,(5:Int)) else
       Option.bind (M.fQ n u p.Id (fun s0=>M.kF s0 ((a.length:Nat):Int) x)) fun with0_=>some (with0_,(0:Int))) r->To (fun n=>M.fE n u t d) r:=fun hr=>by
   simp only [M.fE];exact To.bind hdest (To.neg (by simp) (To.bind hfp (To.bind hsp (To.bind ((vg p x hnest).of (if_neg hkey)) (To.neg (by simp) hr)))))
  have gor:∀ {r:aa×Int},To (fun n=>if (64:Int)<=(p.Kids.length:Int) then some (u,(6:Int)) else Option.bind (addC ((dd:Nat):Int) (1:Int)) fun v3=>Option.bind (M.qo n x) fun deep1=>Option.bind (addC v3 deep1) fun v4=>if (8:Int)< v4 then some (u,(6:Int)) else
     Option.bind (M.lQ n u) fun count=>Option.bind (M.lQ n x) fun count1=>Option.bind (addC count count1) fun v5=>if (1024:Int)< v5 then some (u,(6:Int)) else
      Option.bind (M.ny n x) fun every=>Option.bind (M.dV u every n (0:Int) au) fun
       | .inl v6=>Option.bind (M.wV p.Kids ((a.length:Nat):Int) x) fun in0_=>Option.bind (M.kM n u ({p with Kids:=in0_}:aa)) fun with0_=>some (with0_,(0:Int))
       | .inr ret0=>some ret0) r->To (fun n=>M.jT n u t.Id d) r:=fun hr=>by
   simp only [M.jT];exact To.bind hget (To.bind hkk (To.bind hpre (To.bind hsr (To.bindS (uj _ _) (To.neg (by simp [hnest]) (To.bind ((Xf p.Kids x.Kind x.Label).of (decide_eq_false hkey)) (To.neg (by simp) hr)))))))
  by_cases h64:64<=p.Kids.length
  ·exact bad 6 (by decide) (gop (To.pos (by omega) To.pure)) (gor (To.pos (by omega) To.pure))
  have hdeep:=Gr hn hp hxs (by omega);have hcu:=yK u (h.ok.oks.sm hn.few);have hcx:=yK x hxs;have hru:=Dw u (by have:=h.ok.hcnt;omega);have hrx:=Dw x (by omega);have hrd:=XB x (by omega);have hcn:=h.ok.hcnt;have had:addC ((dd:Nat):Int) (1:Int)=some ((dd+1:Nat):Int):=mr dd (by omega);have had2:addC ((dd+1:Nat):Int) ((dp x:Nat):Int)=some ((dd+1+dp x:Nat):Int):=fo _ _ (by omega);have hac:addC ((cnt u:Nat):Int) ((cnt x:Nat):Int)=some ((cnt u+cnt x:Nat):Int):=fo _ _ (by omega);by_cases h8:8<dd+1+dp x
  ·refine bad 6 (by decide) (gop (To.neg (by omega) (To.bind hdeep (To.pos (decide_eq_true h8) To.pure)))) (gor (To.neg (by omega) (To.bindS had (To.bind hrd (To.bindS had2 (To.pos (by omega) To.pure))))))
  have n8:¬ decide (8<dd+1+dp x)=true:=by rw [decide_eq_true_eq];exact h8
  by_cases h1024:1024<cnt u+cnt x
  ·have q1:To (fun n=>M.fE n u t d) (u,6):=gop<|To.neg (by omega)<|To.bind hdeep<|To.neg n8<|To.bind hcu<|To.bind hcx<|To.bindS hac<|To.pos (by omega) To.pure;have q2:To (fun n=>M.jT n u t.Id d) (u,6):=gor<|To.neg (by omega)<|To.bindS had<|To.bind hrd<|To.bindS had2<|To.neg (by omega)<|To.bind hru<|To.bind hrx<|To.bindS hac<|To.pos (by omega) To.pure;exact bad 6 (by decide) q1 q2
  have hxn:Nice x:=⟨xo,by omega,hsnd⟩
  obtain ⟨rr,hr1,hr2⟩:=QV u x hn (by omega);rcases hr2 with ⟨rfl,hdis⟩ | ⟨rfl,hsh⟩
  case inr=>
   have q1:To (fun n=>M.fE n u t d) (u,5):=gop<|To.neg (by omega)<|To.bind hdeep<|To.neg n8<|To.bind hcu<|To.bind hcx<|To.bindS hac<|To.neg (by omega)<|To.bind (DW hn)<|To.bind (DW hxn)<|To.bind (Jo u x)<|To.pos (decide_eq_true hsh) To.pure;have q2:To (fun n=>M.jT n u t.Id d) (u,5):=gor<|To.neg (by omega)<|To.bindS had<|To.bind hrd<|To.bindS had2<|To.neg (by omega)<|To.bind hru<|To.bind hrx<|To.bindS hac<|To.neg (by omega)<|To.bind (Xz x (by omega))<|To.bind hr1 To.pure;exact bad 5 (by decide) q1 q2
  have hnsh:¬ decide (∃ i∈ids x,i∈ids u)=true:=by rw [decide_eq_true_eq];exact fun ⟨i,hi,hj⟩=>hdis i hi hj
  have hv:=h.ok.ins hp ek xo hnest hkey (by omega) (by omega) (by omega) hsnd hdis;have hak:(a++b).length<=64:=by rw [<-ek];exact hkl
  have ha:To (fun n=>M.bW n u d) (D (WO p (a++x :: b)),0):=hapd<|gop<|To.neg (by omega)<|To.bind hdeep<|To.neg n8<|To.bind hcu<|To.bind hcx<|To.bindS hac<|To.neg (by omega)<|To.bind (DW hn)<|To.bind (DW hxn)<|To.bind (Jo u x)<|To.neg hnsh<|To.bind (Xi hn hp ek) To.pure;have hrin:M.wV p.Kids ((a.length:Nat):Int) x=some (a++x :: b):=by rw [ek];exact rin a b x (by omega)
  have q2:To (fun n=>M.jT n u t.Id d) (D (WO p (a++x :: b)),0):=gor<|To.neg (by omega)<|To.bindS had<|To.bind hrd<|To.bindS had2<|To.neg (by omega)<|To.bind hru<|To.bind hrx<|To.bindS hac<|To.neg (by omega)<|To.bind (Xz x (by omega))<|To.bind hr1<|To.bindS hrin<|To.bind (xn (y:=WO p (a++x :: b)) hn hp rfl) To.pure;refine .inl ⟨D (WO p (a++x :: b)),⟨0,0,⟨d.Act,d.Item,1⟩,aF,au,[],[]⟩,ha,hdo q2,?_,hv,Gb hp ek hv rfl hsid.symm⟩;simp only [M.j4];exact To.bind ha (To.neg (by simp) (To.pos hk To.pure))
theorem BZ{x y:aa}(h:y∈desc x):y.Id∈ids x:=uG.2 ⟨y,h,rfl⟩
theorem Wi{u a b:aa}(hn:(ids u).Nodup)(ha:a∈desc u)(hb:b∈desc u)(e:a.Id=b.Id):a=b:=AJ hn ha hb e
theorem Fs{x:aa}:∀ {a b l r:List aa},a++b=l++x :: r->(∃ c,a=l++x :: c/\r=c++b)\/(∃ c,l=a++c/\b=c++x :: r)
 | [],b,l,r,h=>.inr ⟨l,rfl,h⟩
 | y :: a,b,[],r,h=>by
  simp only [List.cons_append,List.nil_append,List.cons.injEq] at h;exact .inl ⟨a,by rw [h.1];rfl,h.2.symm⟩
 | y :: a,b,z :: l,r,h=>by
  simp only [List.cons_append,List.cons.injEq] at h;rcases Fs h.2 with ⟨c,e1,e2⟩ | ⟨c,e1,e2⟩
  ·exact .inl ⟨c,by rw [h.1,e1];rfl,e2⟩
  ·exact .inr ⟨c,by rw [h.1,e1];rfl,e2⟩
structure Goes (u x t p rest:aa) (l:List aa) (w:Int) (z:aa) (dd:Nat) (E:aa->aa) (a b:List aa) (p2:aa) (K:List aa):Prop where
 here:At z dd rest E
 kids:z.Kids=a++b
 dest:WW u x.Id t.Id w=(z.Id,((a.length:Nat):Int),0)
 bare:WT z=WT p2
 at2:∃ D,At p2 dd u D
 of:(w=0\/w=1)/\p2=t\/(w=2\/w=3)/\t.Id≠u.Id/\ ∃ l r,p2.Kids=l++t :: r
 kk:(p.Id=p2.Id/\M.su p2.Kids ((l.length:Nat):Int)=some K)\/(p.Id≠p2.Id/\K=p2.Kids)
 keys:K.map keyU=z.Kids.map keyU
 same:p.Id=p2.Id->K.length<=63
 first:w=0->a= []
 last:w=1->b= []
 after:w=2->∃ c t',a=c++ [t']/\t'.Id=t.Id
 ahead:w=3->∃ c t',b=t' :: c/\t'.Id=t.Id
theorem Ci{c:List aa}{t:aa}{a b l':List aa}(h:a++b=c++ [t])(hb:b≠ []):∃ b',b=b'++ [t]/\c=a++b':=by
 have h1:=List.dropLast_concat_getLast hb;have e:a++b.dropLast++ [b.getLast hb]=c++ [t]:=by rw [List.append_assoc,h1,h]
 have:=List.append_inj' e rfl;exact ⟨b.dropLast,by rw [<-(List.cons.inj this.2).1,h1],this.1.symm⟩
theorem Ui{u x t p:aa}{k e:Nat}{D E0:aa->aa}{l r:List aa}(h:Ok u)(hp:At p k u D)(ek:p.Kids=l++x :: r)(ht:At t e u E0){w:Int}(w0:0<=w)(w3:w<=3)(htx:t.Id ∉ ids x) :
  ((w=2\/w=3)/\t.Id=u.Id/\WW u x.Id t.Id w=(aF,0,9))\/ ∃ z dd E a b p2 K,Goes u x t p (D (WO p (l++r))) l w z dd E a b p2 K:=by
 have hn:=h.nice;have hx:=hp.step ek;have hux:u.Id≠x.Id:=hx.ne h.nd;have hxt:t.Id≠x.Id:=fun e=>htx (e▸nJ x);have htx':¬ t.Id=x.Id:=hxt;have hins:WU u x.Id t.Id=false:=by
  unfold WU findR;rw [hx.findE h.nd];show (WY t.Id x).isSome=false;rw [Bu htx];rfl
 have hpar:=hp.parE h.nd ek;have hmid:=h.mid hp ek;have hg0:WW u x.Id t.Id w=(if (ic t.Id u w).2.2≠0 then (aF,0,9) else if (ic t.Id u w).1=p.Id/\((l.length:Nat):Int)< (ic t.Id u w).2.1 then ((ic t.Id u w).1,(ic t.Id u w).2.1-1,0) else ((ic t.Id u w).1,(ic t.Id u w).2.1,0)):=by
  unfold WW;rw [if_neg (by simp [hux,hins,hxt]),if_neg hxt,hpar]
 rcases MP hn ht w0 w3 with ⟨hw,htr,hl⟩ | ⟨p2,dd,D2,a,b,L⟩
 ·refine .inl ⟨hw,htr,?_⟩;rw [hg0,hl];rfl
 refine .inr ?_;rw [L.lead] at hg0;simp only [ne_eq,not_true_eq_false,if_false] at hg0;have hp2x:p2 ∉ desc x:=fun hm=>by
  rcases L.how with ⟨_,rfl,_⟩ | ⟨_,_,l2,r2,e2,_⟩
  ·exact htx (BZ hm)
  ·exact htx (BZ (yl hm (by rw [e2];simp)))
 have hof:(w=0\/w=1)/\p2=t\/(w=2\/w=3)/\t.Id≠u.Id/\ ∃ l r,p2.Kids=l++t :: r:=by
  rcases L.how with ⟨q1,q2,_⟩ | ⟨q1,q2,l2,r2,e2,_⟩
  ·exact .inl ⟨q1,q2⟩
  ·exact .inr ⟨q1,q2,l2,r2,e2⟩
 have hkl:=(h.oks.sub L.here.mem).kidsLen;by_cases hpp:p.Id=p2.Id
 ·have e1:p=p2:=Wi h.nd hp.mem L.here.mem hpp;subst e1;have e2:=hp.uniq h.nd L.here;subst e2;have hz:=hp.re (WO p (l++r));have hout:M.su p.Kids ((l.length:Nat):Int)=some (l++r):=by rw [ek];exact XN l r x (by have:=hmid.len;omega)
  have hab:=L.kids;rw [ek] at hab;have tne:∀ y:aa,y.Id=t.Id->y≠x:=fun y e1 e2=>hxt (by rw [<-e1,e2])
  -- the two sides of the place
  rcases Fs hab.symm with ⟨c,ea,er⟩ | ⟨c,el,eb⟩
  ·refine ⟨WO p (l++r),k,D,l++c,b,p,l++r,hz,by rw [jK,er,List.append_assoc],?_,rfl,⟨D,hp⟩,hof,.inl ⟨rfl,hout⟩,rfl,fun _=>hmid.len,fun hw=>?_,fun hw=>?_,fun hw=>?_,fun hw=>?_⟩
   ·rw [hg0,if_pos ⟨rfl,by rw [ea];simp;omega⟩,ea,MH];simp;omega
   ·rcases L.how with ⟨_,_,_,q,_⟩ | ⟨q,_⟩
    ·have:=q hw;rw [ea] at this;simp at this
    ·omega
   ·rcases L.how with ⟨_,_,_,_,q⟩ | ⟨q,_⟩
    ·exact q hw
    ·omega
   ·rcases L.how with ⟨q,_⟩ | ⟨_,_,l2,r2,e2,q,_⟩
    ·omega
    ·have q1:=(q hw).1;have:l++(x :: c)=l2++ [t]:=by rw [<-ea,q1]
     obtain ⟨b',hb1,hb2⟩:=Ci (l':=[]) this (by simp);cases b' with
     | nil=>
      simp only [List.nil_append,List.cons.injEq] at hb1;exact absurd hb1.1.symm (tne t rfl)
     | cons y b'=>
      simp only [List.cons_append,List.cons.injEq] at hb1;exact ⟨l++b',t,by rw [hb1.2,List.append_assoc],rfl⟩
   ·rcases L.how with ⟨q,_⟩ | ⟨_,_,l2,r2,e2,_,q⟩
    ·omega
    ·exact ⟨r2,t,(q hw).2,rfl⟩
  ·refine ⟨WO p (l++r),k,D,a,c++r,p,l++r,hz,by rw [jK,el,List.append_assoc],?_,rfl,⟨D,hp⟩,hof,.inl ⟨rfl,hout⟩,rfl,fun _=>hmid.len,fun hw=>?_,fun hw=>?_,fun hw=>?_,fun hw=>?_⟩
   ·rw [hg0,if_neg (fun q=>by have:=q.2;rw [el] at this;simp at this;omega),MH]
   ·rcases L.how with ⟨_,_,_,q,_⟩ | ⟨q,_⟩
    ·exact q hw
    ·omega
   ·rcases L.how with ⟨_,_,_,_,q⟩ | ⟨q,_⟩
    ·have:=q hw;rw [eb] at this;simp at this
    ·omega
   ·rcases L.how with ⟨q,_⟩ | ⟨_,_,l2,r2,e2,q,_⟩
    ·omega
    ·exact ⟨l2,t,(q hw).1,rfl⟩
   ·rcases L.how with ⟨q,_⟩ | ⟨_,_,l2,r2,e2,_,q⟩
    ·omega
    ·have q1:=(q hw).2;rw [eb] at q1;cases c with
     | nil=>
      simp only [List.nil_append,List.cons.injEq] at q1;exact absurd q1.1.symm (tne t rfl)
     | cons y c=>
      simp only [List.cons_append,List.cons.injEq] at q1;exact ⟨c++r,t,by rw [q1.1];rfl,rfl⟩
 ·have hz:∃ z E,At z dd (D (WO p (l++r))) E/\WT z=WT p2/\z.Kids.map WT=p2.Kids.map WT:=by
   rcases hp.two (l++r) L.here with ⟨k0,h1,h2,h3⟩ | ⟨z',E',h1,h2,h3⟩
   ·have:k0∈l++r:=by
     rw [ek] at h1;rcases List.mem_append.1 h1 with h1 | h1
     ·exact List.mem_append.2 (.inl h1)
     rcases List.mem_cons.1 h1 with rfl | h1
     ·exact absurd h2 hp2x
     ·exact List.mem_append.2 (.inr h1)
    obtain ⟨E',hE⟩:=h3 this;exact ⟨p2,E',hE,rfl,rfl⟩
   ·rcases h3 with ⟨e1,_⟩ | h3
    ·exact absurd (by rw [e1]) hpp
    ·exact ⟨z',E',h1,h2,h3⟩
  obtain ⟨z,E,hz1,hz2,hz3⟩:=hz;have hzl:z.Kids.length=p2.Kids.length:=by have:=congrArg List.length hz3;simpa using this
  have hal:a.length<=z.Kids.length:=by rw [hzl,L.kids];simp
  have hzid:z.Id=p2.Id:=Gc hz2;have hta:(z.Kids.take a.length).map aa.Id=a.map aa.Id:=by
   have:=I4 hz3;rw [List.map_take,this,L.kids,List.map_append,List.take_left'];simp
  have hdb:(z.Kids.drop a.length).map aa.Id=b.map aa.Id:=by
   have:=I4 hz3;rw [List.map_drop,this,L.kids,List.map_append,List.drop_left'];simp
  refine ⟨z,dd,E,z.Kids.take a.length,z.Kids.drop a.length,p2,p2.Kids,hz1,(List.take_append_drop _ _).symm,?_,hz2,⟨_,L.here⟩,hof,.inr ⟨hpp,rfl⟩,(Qw hz3).symm,fun q=>absurd q hpp,fun hw=>?_,fun hw=>?_,fun hw=>?_,fun hw=>?_⟩
  ·rw [hg0,if_neg (fun q=>hpp q.1.symm),hzid,QC _ _ hal]
  ·rcases L.how with ⟨_,_,_,q,_⟩ | ⟨q,_⟩
   ·rw [q hw];rfl
   ·omega
  ·rcases L.how with ⟨_,_,_,_,q⟩ | ⟨q,_⟩
   ·have:=congrArg List.length hdb;rw [q hw] at this;exact List.eq_nil_of_length_eq_zero (by simpa using this)
   ·omega
  ·rcases L.how with ⟨q,_⟩ | ⟨_,_,l2,r2,e2,q,_⟩
   ·omega
   ·rw [(q hw).1,List.map_append] at hta;obtain ⟨c,c2,e3,e4,e5⟩:=List.map_eq_append_iff.1 hta;cases c2 with
    | nil=>simp at e5
    | cons t' c2=>
     simp only [List.map_cons,List.map_nil,List.cons.injEq,List.map_eq_nil_iff] at e5;rw [(q hw).1,e3,e5.2];exact ⟨c,t',rfl,e5.1⟩
  ·rcases L.how with ⟨q,_⟩ | ⟨_,_,l2,r2,e2,_,q⟩
   ·omega
   ·rw [(q hw).2] at hdb;cases hd:z.Kids.drop a.length with
    | nil=>rw [hd] at hdb;simp at hdb
    | cons t' c=>
     rw [hd] at hdb;simp only [List.map_cons,List.cons.injEq] at hdb;exact ⟨c,t',rfl,hdb.1⟩
theorem MQ{z t:aa}{a b:List aa}(hn:((a++b).map aa.Id).Nodup){c c2:List aa}{t':aa}(e:a++b=c++t' :: c2)(ht:t'.Id=t.Id):To (fun n=>M.zw n (a++b) t.Id) (c.length:Int):=by
 rw [e,<-ht];refine rat c t' c2 fun k hk he=>?_;rw [e,List.map_append,List.map_cons] at hn;exact (List.nodup_append.1 hn).2.2 k.Id (List.mem_map.2 ⟨k,hk,rfl⟩) t'.Id (by simp) he
theorem Uj{u:aa}(h:(ids u).Nodup):(u.Kids.map aa.Id).Nodup:=by
 rw [qH,List.nodup_cons] at h;have:∀ l:List aa,(l.flatMap ids).Nodup->(l.map aa.Id).Nodup:=by
  intro l;induction l with
  | nil=>intro _;simp
  | cons k l ih=>
   intro h;rw [List.flatMap_cons,List.nodup_append] at h;rw [List.map_cons,List.nodup_cons];refine ⟨fun hm=>?_,ih h.2.1⟩;obtain ⟨y,hy,he⟩:=List.mem_map.1 hm;exact h.2.2 k.Id (nJ k) k.Id (List.mem_flatMap.2 ⟨y,hy,he▸nJ y⟩) rfl
 exact this _ h.2
theorem Og{u:aa}{d:ak}(h:Aim u d)(hk:d.It.Kind=6):Step u d:=by
 have hd:nY d.It.Kind (fun n s0 s1 s2=>M.jd n s0 s1 s2):=hk▸XV;refine h.cases hd (by omega) fun x k C hC ho hne=>?_;obtain ⟨p,l,r,D,ek,hp,_⟩:=hC.up;have h1:=h.one d.It.At;have h2:=h.oneR d.It.At h.few.atL;have h3:=h.oneR d.It.To h.few.toL;rw [ho] at h1 h2;have hn:=h.ok.nice;have hfx:=jP hn hC;obtain ⟨⟨w0,w3⟩,_⟩:=h.facts.k6 hk;have hget:=get_at hC h.ok.nd (by have:=h.lim hC;omega);have hdest:=h.ok.dest d.It;have hapd:∀ {r:aa×Int},To (fun n=>M.jd n u x d) r->To (fun n=>M.bW n u d) r:=fun hr=>BX hd h.facts.valid h1 hfx (.inl hne) hr;have hdo:∀ {r:aa×Int},To (fun n=>M.ma n u x.Id d) r->To (fun n=>M.mK n u d) r:=fun hr=>by
  simp only [M.mK];exact To.bind (uk (u:=u) h.facts.kind h.may) (To.neg (by simp) (To.bind h2 (To.neg (by simp) (To.neg (by omega) (To.pos hk (To.bind hr To.pure))))))
 have hde:Xg u d.It=if (oneOf ((units u d.It.To).map aa.Id)).2≠0 then (aF,0,(oneOf ((units u d.It.To).map aa.Id)).2) else WW u x.Id (oneOf ((units u d.It.To).map aa.Id)).1 d.It.Where:=by
  unfold Xg;rw [if_neg (by omega),if_neg (by omega),ho];simp
 by_cases he:(oneOf ((units u d.It.To).map aa.Id)).2=0
 case neg=>
  rw [hde,if_pos he] at hdest;refine .inr ⟨u,_,_,he,he,hapd ?_,hdo ?_⟩
  ·simp only [M.jd];exact To.bind hdest (To.pos he To.pure)
  ·simp only [M.ma];exact To.bind h3 (To.pos he To.pure)
 obtain ⟨t,htm,hti⟩:=zN u d.It.To he;have hot:oneOf ((units u d.It.To).map aa.Id)=(t.Id,0):=Prod.ext hti.symm he;obtain ⟨e,E,ht⟩:=At.zO htm;rw [hde,if_neg (by rw [he];simp),hot] at hdest;rw [hot] at h3;have hbes:To (fun _:Nat=>if d.It.Where=(2:Int) then some true else some (decide (d.It.Where=(3:Int)))) (decide (d.It.Where=2\/d.It.Where=3)):=To.ite (fun a=>To.pure.of (by simp [a])) fun a=>To.pure.of (by simp [a]);have hnx:=hn.sub hC;have hlimC:=h.lim hC;have hlimT:=h.lim ht;have hlimP:=h.lim hp
 -- errors of both
 have bad9:∀ {g1:aa×Int},WW u x.Id t.Id d.It.Where=(aF,0,9)->To (fun n=>M.iR n x t.Id) g1->
   To (fun n:Nat=>if x.Id=u.Id then some true else if decide (d.It.Where=2\/d.It.Where=3)=true then if t.Id=u.Id then some true else if (0:Int)< g1.2 then some true else if g1.2=(0:Int) then some (!decide (d.It.Where=2\/d.It.Where=3)) else some false else if (0:Int)< g1.2 then some true else if g1.2=(0:Int) then some (!decide (d.It.Where=2\/d.It.Where=3)) else some false) true->Step u d:=fun hgo hg1 hc=>by
  rw [hgo] at hdest;refine .inr ⟨u,9,9,by decide,by decide,hapd ?_,hdo ?_⟩
  ·simp only [M.jd];exact To.bind hdest (To.pos (by decide) To.pure)
  ·simp only [M.ma];exact To.bind h3 (To.neg (by simp) (To.bind hbes (To.bind hget (To.bind hg1 (To.bind hc (To.pos rfl To.pure))))))
 have hins:WU u x.Id t.Id=(WY t.Id x).isSome:=by
  unfold WU findR;rw [hC.findE h.ok.nd]
 have hux:u.Id≠x.Id:=fun e=>hne e.symm;have hmid:=h.ok.mid hp ek;have hr:=h.ok.del hp ek;have hpar:=Bv hn hp ek;have hwo:=Xj hn hp ek;have hrp:=xm hp h.ok.nd ek (by omega);have hfn:MO d.It.Kind (fun n s0 s1=>M.mI n s0 s1):=fun n=>⟨_,rfl,by rw [hk];rfl⟩
 have hmk:To (fun n=>M.mI n u x) ⟨2,(l.length:Nat),x.Id,p.Id,au,[],[]⟩:=by
  simp only [M.mI,M.sM];exact To.bind (To.bind hpar To.pure) To.pure
 have hsx:smT x:=hnx.oks.sm hnx.few;have hdx:k+1+dp x<=8:=by have:=hC.dpO;have:=h.ok.hdp;omega
 have hout:M.su p.Kids ((l.length:Nat):Int)=some (l++r):=by rw [ek];exact XN l r x (by have:=hmid.len;omega)
 have hrd:=XB x hnx.few;by_cases htx:t.Id∈ids x
 ·by_cases hxt:t.Id=x.Id
  · -- onto itself
   have hg1:To (fun n=>M.iR n x t.Id) (x,0):=by rw [hxt];exact get_at (d:=0) .here hnx.nd (Nat.zero_le _)
   by_cases hw:d.It.Where=2\/d.It.Where=3
   case neg=>
    refine bad9 ?_ hg1 ?_
    ·unfold WW;rw [if_pos (.inr (.inr ⟨hxt,by omega⟩))]
    ·exact To.neg hne (To.neg (by rw [decide_eq_true_eq];exact hw) (To.neg (by simp) (To.pos rfl (To.pure.of (by simp [hw])))))
   have hgo:WW u x.Id t.Id d.It.Where=(p.Id,((l.length:Nat):Int),0):=by
    unfold WW;rw [if_neg (by simp [hux,hxt];omega),if_pos hxt,hp.parE h.ok.nd ek]
   rw [hgo] at hdest;have hz:=hp.re (WO p (l++r));have hfp:To (fun n=>M.dC n (D (WO p (l++r))) p.Id) (WO p (l++r),true):=jP (p:=WO p (l++r)) hr.nice hz;have hdeep:To (fun n=>M.lv n (D (WO p (l++r))) p.Id x) (decide (8<k+1+dp x)):=Gr (p:=WO p (l++r)) hr.nice hz hsx (by omega);have hpu:D (WO p (l++x :: r))=u:=hp.ins ek;have hei:=Xi (x:=x) hr.nice hz (a:=l) (b:=r) rfl;rw [nX,hpu] at hei;have ha:To (fun n=>M.bW n u d) (u,0):=hapd<|by
    simp only [M.jd];refine To.bind hdest<|To.neg (by simp)<|To.bind hpar<|To.bind hwo<|To.bind hfp<|To.bind ((vg (WO p (l++r)) x hmid.nest).of (if_neg hmid.key))<|To.neg (by simp)<|To.bind (a:=false) (To.neg (by simp) (To.bind hdeep (To.pure.of (by rw [decide_eq_false_iff_not];omega))))<|To.neg (by simp) ?_;exact To.bind hei To.pure
   have hrev:=E8 (pt:=⟨2,(l.length:Nat),x.Id,p.Id,au,[],[]⟩) h.ok hp ek hr hz (a:=l) (b:=r) rfl (by rw [nX,hpu];exact h.ok) rfl rfl rfl rfl;rw [nX,hpu] at hrev;refine .inl ⟨u,_,ha,hdo ?_,BA ha (by omega) h1 hfx hfn hmk,h.ok,hrev⟩;simp only [M.ma];have hgt:To (fun n=>M.iR n u t.Id) (x,((k+1:Nat):Int)):=by rw [hxt];exact hget
   have hpt:To (fun n=>M.fT n u t.Id) (p,(k:Int),((l.length:Nat):Int)):=by rw [hxt];exact hrp
   have hrt:=(Xf (l++r) x.Kind x.Label).of (decide_eq_false hmid.key);have hln:=hmid.len;refine To.bind h3<|To.neg (by simp)<|To.bind hbes<|To.bind hget<|To.bind hg1<|To.bind (a:=false) (To.neg hne (To.pos (decide_eq_true hw) (To.neg (fun q=>hne (hxt.symm.trans q)) (To.neg (by simp) (To.pos rfl (To.pure.of (by simp [hw])))))))<|To.neg (by simp)<|To.bind hgt<|To.bind (a:=((k:Int),p)) (To.pos (decide_eq_true hw) (To.bind hpt To.pure))<|To.bindS (uj _ _)<|To.neg (by simp [hmid.nest])<|To.bind hrp ?_;refine To.bind (a:=l++r) (To.pos rfl (To.bindS hout To.pure))<|To.bind hrt<|To.neg (by simp)<|To.bind (a:=false) (To.neg (by omega) (To.bindS (mr k (by omega)) (To.bind hrd (To.bindS (fo _ _ (by omega)) (To.pure.of (by rw [decide_eq_false_iff_not];omega))))))<|To.neg (by simp)<|To.pos hxt To.pure
  · -- into itself
   obtain ⟨y,hy,hyi⟩:=uG.1 htx;obtain ⟨f,F,hF⟩:=At.zO hy;have hf0:f≠0:=fun h0=>by
    subst h0;obtain ⟨rfl,_⟩:=hF.zero;exact hxt hyi.symm
   have hg1:To (fun n=>M.iR n x t.Id) (y,(f:Int)):=by rw [<-hyi];exact get_at hF hnx.nd (by have:=hF.dpO;omega)
   have htu:t.Id≠u.Id:=fun q=>by
    have h7:=hC.ne h.ok.nd;have:t.Id∈ids x:=htx;cases hC with
    | kid e0 hs0=>
     obtain ⟨A,B,hAB⟩:=hs0.idL;have hq:=hAB x;rw [hs0.plug] at hq;exact (nK e0 h.ok.nd (i:=t.Id) (by rw [hq];simp [htx])).1 q.symm
   refine bad9 ?_ hg1 ?_
   ·unfold WW;have:WU u x.Id t.Id=true:=by
     rw [hins];cases hfo:WY t.Id x with
     | some _=>rfl
     | none=>
      have:=hF.findE hnx.nd;rw [hyi,hfo] at this;cases this
    rw [if_pos (.inr (.inl ⟨this,hxt⟩))]
   ·refine To.neg hne (To.ite (fun _=>To.neg htu (To.pos (by simp;omega) To.pure)) fun _=>To.pos (by simp;omega) To.pure)
 · -- elsewhere
  have hxt:¬ t.Id=x.Id:=fun q=>htx (q▸nJ x);have hg1:=K5 t.Id x htx;rcases Ui h.ok hp ek ht w0 w3 htx with ⟨hw,htr,hgo⟩ | ⟨z,dd,F,a,b,p2,K,G⟩
  ·exact bad9 hgo hg1 (To.neg hne (To.pos (decide_eq_true hw) (To.pos htr To.pure)))
  rw [G.dest] at hdest;have hzr:=G.here;have hfz:=jP hr.nice hzr;have hzk:z.Kind=p2.Kind:=E5 G.bare;have hzi:z.Id=p2.Id:=Gc G.bare;have hdd:dd<=8:=by have:=hzr.dpO;have:=hr.hdp;omega
  have hdeep:=Gr hr.nice hzr hsx (by omega);obtain ⟨D2,hp2⟩:=G.at2;have hgt:=get_at ht h.ok.nd (by omega);have hcond:To (fun n:Nat=>if x.Id=u.Id then some true else if decide (d.It.Where=2\/d.It.Where=3)=true then if t.Id=u.Id then some true else if (0:Int)< (-1:Int) then some true else if (-1:Int)=(0:Int) then some (!decide (d.It.Where=2\/d.It.Where=3)) else some false else if (0:Int)< (-1:Int) then some true else if (-1:Int)=(0:Int) then some (!decide (d.It.Where=2\/d.It.Where=3)) else some false) false:=by
   refine To.neg hne (To.ite (fun q=>?_) fun _=>To.neg (by decide) (To.neg (by decide) To.pure));have q:=of_decide_eq_true q;rcases G.of with ⟨q2,_⟩ | ⟨_,q3,_⟩
   ·omega
   ·exact To.neg q3 (To.neg (by decide) (To.neg (by decide) To.pure))
  have hdp2:To (fun n=>if decide (d.It.Where=2\/d.It.Where=3)=true then Option.bind (M.fT n u t.Id) fun parent=>some (parent.2.1,parent.1) else some ((e:Int),t)) ((dd:Int),p2):=by
   rcases G.of with ⟨q1,rfl⟩ | ⟨q1,q2,l2,r2,e2⟩
   ·refine To.neg (by rw [decide_eq_true_eq];omega) (To.pure.of ?_);rw [hp2.uniq h.ok.nd ht]
   ·exact To.pos (decide_eq_true q1) (To.bind (xm hp2 h.ok.nd e2 (by omega)) To.pure)
  have hkids:To (fun n:Nat=>if p.Id=p2.Id then Option.bind (M.su p2.Kids ((l.length:Nat):Int)) fun out=>some out else some p2.Kids) K:=by
   rcases G.kk with ⟨q1,q2⟩ | ⟨q1,rfl⟩
   ·exact To.pos q1 (To.bindS q2 To.pure)
   ·exact To.neg q1 To.pure
  have hKl:K.length=z.Kids.length:=by have:=congrArg List.length G.keys;simpa using this
  have hrt:=Xf K x.Kind x.Label;rw [G.keys] at hrt;have bad:∀ v:Int,v≠0->To (fun n=>M.jd n u x d) (u,v)->To (fun n=>M.ma n u x.Id d) (u,v)->Step u d:=fun v hv q1 q2=>.inr ⟨u,v,v,hv,hv,hapd q1,hdo q2⟩;by_cases hnest:nestB z.Kind x.Kind=true
  case neg=>
   have hnest:nestB z.Kind x.Kind=false:=by simpa using hnest
   refine bad 9 (by decide) ?_ ?_
   ·simp only [M.jd];exact To.bind hdest<|To.neg (by simp)<|To.bind hpar<|To.bind hwo<|To.bind hfz<|To.bind (Jn z x hnest)<|To.pos (by decide) To.pure
   ·simp only [M.ma];exact To.bind h3<|To.neg (by simp)<|To.bind hbes<|To.bind hget<|To.bind hg1<|To.bind hcond<|To.neg (by simp)<|To.bind hgt<|To.bind hdp2<|To.bindS (uj _ _)<|To.pos (by rw [<-hzk];exact hnest) To.pure
  have hnest2:¬ nestB p2.Kind x.Kind=false:=by rw [<-hzk,hnest];simp
  by_cases hkey:keyU x∈z.Kids.map keyU
  ·refine bad 10 (by decide) ?_ ?_
   ·simp only [M.jd];exact To.bind hdest<|To.neg (by simp)<|To.bind hpar<|To.bind hwo<|To.bind hfz<|To.bind ((vg z x hnest).of (if_pos hkey))<|To.pos (by decide) To.pure
   ·simp only [M.ma];exact To.bind h3<|To.neg (by simp)<|To.bind hbes<|To.bind hget<|To.bind hg1<|To.bind hcond<|To.neg (by simp)<|To.bind hgt<|To.bind hdp2<|To.bindS (uj _ _)<|To.neg hnest2<|To.bind hrp<|To.bind hkids<|To.bind (hrt.of (decide_eq_true hkey))<|To.pos rfl To.pure
  -- full or not, by both
  have hfull:To (fun n=>if z.Id≠p.Id then if (64:Int)<=(z.Kids.length:Int) then some true else Option.bind (M.lv n (D (WO p (l++r))) z.Id x) fun deep=>some deep else Option.bind (M.lv n (D (WO p (l++r))) z.Id x) fun deep1=>some deep1) (decide (64<=z.Kids.length) || decide (8<dd+1+dp x)):=by
   by_cases hzp:z.Id=p.Id
   ·have:=G.same (hzp.symm.trans hzi);refine To.neg (by simpa using hzp) (To.bind hdeep (To.pure.of ?_));rw [decide_eq_false (p:=64<=z.Kids.length) (by omega)];rfl
   ·refine To.pos hzp (To.ite (fun q=>To.pure.of ?_) fun q=>To.bind hdeep (To.pure.of ?_))
    ·rw [decide_eq_true (p:=64<=z.Kids.length) (by omega)];rfl
    ·rw [decide_eq_false (p:=64<=z.Kids.length) (by omega)];rfl
  have hfullr:To (fun n=>if (64:Int)<=(K.length:Int) then some true else Option.bind (addC (dd:Int) (1:Int)) fun v2=>Option.bind (M.qo n x) fun deep1=>Option.bind (addC v2 deep1) fun v3=>some (decide ((8:Int)< v3))) (decide (64<=z.Kids.length) || decide (8<dd+1+dp x)):=by
   refine To.ite (fun q=>To.pure.of ?_) fun q=>To.bindS (mr dd (by omega)) (To.bind hrd (To.bindS (fo _ _ (by omega)) (To.pure.of ?_)))
   ·rw [decide_eq_true (p:=64<=z.Kids.length) (by omega)];rfl
   ·rw [decide_eq_false (p:=64<=z.Kids.length) (by omega),Bool.false_or,decide_eq_decide];omega
  by_cases hf:(decide (64<=z.Kids.length) || decide (8<dd+1+dp x))=true
  ·refine bad 6 (by decide) ?_ ?_
   ·simp only [M.jd];exact To.bind hdest<|To.neg (by simp)<|To.bind hpar<|To.bind hwo<|To.bind hfz<|To.bind ((vg z x hnest).of (if_neg hkey))<|To.neg (by simp)<|To.bind hfull<|To.pos hf To.pure
   ·simp only [M.ma];exact To.bind h3<|To.neg (by simp)<|To.bind hbes<|To.bind hget<|To.bind hg1<|To.bind hcond<|To.neg (by simp)<|To.bind hgt<|To.bind hdp2<|To.bindS (uj _ _)<|To.neg hnest2<|To.bind hrp<|To.bind hkids<|To.bind (hrt.of (decide_eq_false hkey))<|To.neg (by simp)<|To.bind hfullr<|To.pos hf To.pure
  have hf2:=hf;simp only [Bool.or_eq_true,decide_eq_true_eq,not_or] at hf2;obtain ⟨hf3,hf4⟩:=hf2;have hper:=u7 (x:=x) hp l r;rw [hp.ins ek] at hper;have hcn:=hper.length_eq;rw [List.length_append,<-kR,<-kR,<-kR] at hcn;have hndp:=hper.nodup_iff.1 h.ok.nd;have hcu:=h.ok.hcnt;have hv:=hr.ins hzr G.kids hnx.oks hnest hkey (by omega) (by omega) (by omega) hnx.nd (fun i hi hj=>(List.nodup_append.1 hndp).2.2 i hi i hj rfl);have ha:To (fun n=>M.bW n u d) (F (WO z (a++x :: b)),0):=hapd<|by
   simp only [M.jd];refine To.bind hdest<|To.neg (by simp)<|To.bind hpar<|To.bind hwo<|To.bind hfz<|To.bind ((vg z x hnest).of (if_neg hkey))<|To.neg (by simp)<|To.bind hfull<|To.neg hf ?_;exact To.bind (Xi hr.nice hzr G.kids) To.pure
  refine .inl ⟨F (WO z (a++x :: b)),_,ha,hdo ?_,BA ha (by omega) h1 hfx hfn hmk,hv,E8 h.ok hp ek hr hzr G.kids hv rfl rfl rfl rfl⟩;have hwith:To (fun n=>M.kM n u (WO p (l++r))) (D (WO p (l++r))):=xn (y:=WO p (l++r)) hn hp rfl;have hgz:To (fun n=>M.iR n (D (WO p (l++r))) p2.Id) (z,(dd:Int)):=by rw [<-hzi];exact get_at hzr hr.nd (by omega)
  have hk0:To (fun _:Nat=>if d.It.Where=(0:Int) then some (0:Int) else some (z.Kids.length:Int)) (if d.It.Where=0 then 0 else (z.Kids.length:Int)):=To.ite (fun a=>To.pure.of (if_pos a).symm) fun a=>To.pure.of (if_neg a).symm;have hznd:=Uj (hr.nice.sub hzr).nd;rw [G.kids] at hznd;have hal:a.length<=64:=by have:=congrArg List.length G.kids;rw [List.length_append] at this;omega
  have hpos:To (fun n=>if decide (d.It.Where=2\/d.It.Where=3)=true then Option.bind (M.zw n z.Kids t.Id) fun at0_=>if d.It.Where=(2:Int) then Option.bind (addC at0_ (1:Int)) fun v4=>some v4 else some at0_ else some (if d.It.Where=0 then 0 else (z.Kids.length:Int))) ((a.length:Nat):Int):=by
   by_cases hw:d.It.Where=2\/d.It.Where=3
   ·refine To.pos (decide_eq_true hw) ?_;rcases hw with hw | hw
    ·obtain ⟨c,t',e1,e2⟩:=G.after hw;have:=MQ (z:=z) (t:=t) hznd (c:=c) (c2:=b) (t':=t') (by rw [e1];simp) e2;rw [<-G.kids] at this;rw [e1] at hal;simp only [List.length_append,List.length_singleton] at hal;exact To.bind this (To.pos hw (To.bindS (mr _ (by omega)) (To.pure.of (by rw [e1];simp))))
    ·obtain ⟨c,t',e1,e2⟩:=G.ahead hw;have:=MQ (z:=z) (t:=t) hznd (c:=a) (c2:=c) (t':=t') (by rw [e1]) e2;rw [<-G.kids] at this;exact To.bind this (To.neg (by omega) To.pure)
   ·refine To.neg (by rw [decide_eq_true_eq];exact hw) (To.pure.of ?_);by_cases hw0:d.It.Where=0
    ·rw [if_pos hw0,G.first hw0];rfl
    ·rw [if_neg hw0,G.kids,G.last (by omega),List.append_nil]
  have hrin:M.wV z.Kids ((a.length:Nat):Int) x=some (a++x :: b):=by rw [G.kids];exact rin a b x (by rw [<-G.kids];omega)
  have hw2:To (fun n=>M.kM n (D (WO p (l++r))) (WO z (a++x :: b))) (F (WO z (a++x :: b))):=xn (y:=WO z (a++x :: b)) hr.nice hzr rfl;simp only [M.ma];exact To.bind h3<|To.neg (by simp)<|To.bind hbes<|To.bind hget<|To.bind hg1<|To.bind hcond<|To.neg (by simp)<|To.bind hgt<|To.bind hdp2<|To.bindS (uj _ _)<|To.neg hnest2<|To.bind hrp<|To.bind hkids<|To.bind (hrt.of (decide_eq_false hkey))<|To.neg (by simp)<|To.bind hfullr<|To.neg hf<|To.neg hxt<|To.bindS hout<|To.bind hwith<|To.bind hgz<|To.bind hk0<|To.bind hpos<|To.bindS hrin<|To.bind hw2 To.pure
theorem step{u:aa}{d:ak}(h:Aim u d):Step u d:=by
 have hk:=h.facts.kind;have hcase:d.It.Kind=0\/d.It.Kind=1\/d.It.Kind=2\/d.It.Kind=3\/d.It.Kind=4\/d.It.Kind=5\/d.It.Kind=6:=by omega
 rcases hcase with hk | hk | hk | hk | hk | hk | hk
 ·exact Jp h hk
 ·exact Jm h hk
 ·exact Gn h hk
 ·exact QU h hk
 ·exact Gp h hk
 ·exact step_label h hk
 ·exact Og h hk
theorem Uk{u w:aa}{d:ak}{e:Int}(ha:To (fun n=>M.bW n u d) (w,e))(he:e≠0):∃ pt,To (fun n=>M.j4 n u d) (pt,e):=by
 refine ⟨⟨0,0,aF,aF,au,[],[]⟩,?_⟩;simp only [M.j4];exact To.bind ha (To.pos he To.pure)
def Yd(l:List ak):Prop:=∀ d∈l,FewP d.It/\zQ d.It/\To (fun n=>M.nS n d.It) true
inductive Run:aa->List ak->aa->List az->Nat->Prop
 | nil {u:aa}:Run u [] u [] 0
 | good {u v w:aa} {d:ak} {l:List ak} {pt:az} {pts:List az} {m:Nat}:To (fun n=>M.bW n u d) (v,0)->To (fun n=>M.mK n u d) (v,0)->To (fun n=>M.j4 n u d) (pt,0)->To (fun n=>M.di n v pt) (u,0)->Run v l w pts m->Run u (d :: l) w (pt :: pts) m
 | bad {u w x:aa} {d:ak} {l:List ak} {e f:Int} {pts:List az} {m:Nat}:e≠0->f≠0->To (fun n=>M.bW n u d) (x,e)->To (fun n=>M.mK n u d) (u,f)->Run u l w pts m->Run u (d :: l) w pts (m+1)
theorem La:∀ (l:List ak) (u:aa),Ok u->Yd l->∃ w pts m,Run u l w pts m
 | [],u,_,_=>⟨u,[],0,.nil⟩
 | d :: l,u,hu,hl=>by
  obtain ⟨h1,h2,h3⟩:=hl d (by simp);rcases step ⟨hu,h1,h2,h3⟩ with ⟨v,pt,a1,a2,a3,a4,a5⟩ | ⟨x,e,f,b1,b2,b3,b4⟩
  ·obtain ⟨w,pts,m,hr⟩:=La l v a4 fun d hd=>hl d (by simp [hd]);exact ⟨w,pt :: pts,m,.good a1 a2 a3 a5 hr⟩
  ·obtain ⟨w,pts,m,hr⟩:=La l u hu fun d hd=>hl d (by simp [hd]);exact ⟨w,pts,m+1,.bad b1 b2 b3 b4 hr⟩
theorem Run.len{u w:aa}{l:List ak}{pts:List az}{m:Nat}(h:Run u l w pts m):pts.length+m=l.length:=by
 induction h with
 | nil=>rfl
 | good _ _ _ _ _ ih=>simp;omega
 | bad _ _ _ _ _ ih=>simp;omega
theorem WG{u w:aa}{l:List ak}{pts:List az}{m:Nat}(h:Run u l w pts m):(∀ d∈l,0<=d.It.Kind/\d.It.Kind<=6)->∀ out:List az,out.length+l.length<=1000->To (fun n=>M.cz n l out u) (out++pts,w):=by
 induction h with
 | nil=>intro _ out _;simp only [M.cz];exact To.pure.of (by simp)
 | good a1 a2 a3 a4 _ ih=>
  intro hk out ho;simp only [List.length_cons] at ho;simp only [M.cz];refine To.bindS (D7 (hk _ (by simp))) (To.neg (by simp) (To.bind a3 (To.neg (by simp) (To.bind a1 (To.bindS (bJ (by simp;omega)) ?_)))));exact (ih (fun d hd=>hk d (by simp [hd])) _ (by simp;omega)).of (by simp)
 | bad b1 b2 b3 b4 _ ih=>
  intro hk out ho;simp only [List.length_cons] at ho;obtain ⟨pt,hi⟩:=Uk b3 b1;simp only [M.cz];exact To.bindS (D7 (hk _ (by simp))) (To.neg (by simp) (To.bind hi (To.pos b1 (ih (fun d hd=>hk d (by simp [hd])) out (by omega)))))
theorem Fu{u w:aa}{l:List ak}{pts:List az}{m:Nat}(h:Run u l w pts m)(hk:∀ d∈l,0<=d.It.Kind/\d.It.Kind<=6)(hl:l.length<=1000):To (fun n=>M.pE n u l) (w,pts):=by
 simp only [M.pE];exact To.bind (WG h hk [] (by simpa using hl)) (To.pure.of (by simp))
theorem MR{u w:aa}{l:List ak}{pts:List az}{m:Nat}(h:Run u l w pts m)(hk:∀ d∈l,0<=d.It.Kind/\d.It.Kind<=6)(hl:l.length<=1000):∃ fs,To (fun n=>M.yF n u l) (w,fs)/\fs.length=m:=by
 have loop:∀ {xs:List ak} {u w:aa} {pts:List az} {m:Nat},Run u xs w pts m->∀ (i:Nat) (out:List jL),l.drop i=xs->out.length+xs.length<=1000->∃ fs,To (fun n=>M.gM l n out (i:Int) u) (fs,w)/\fs.length=out.length+m:=by
  intro xs u w pts m h;induction h with
  | nil=>intro i out hx _;exact ⟨out,To.succ (by simp only [M.gM];exact To.neg (aS hx) To.pure),rfl⟩
  | @good u v w d xs pt pts m a1 a2 a3 a4 _ ih=>
   intro i out hx ho;simp only [List.length_cons] at ho;obtain ⟨fs,h1,h2⟩:=ih (i+1) out (aI hx) (by omega);refine ⟨fs,To.succ ?_,h2⟩;simp only [M.gM];refine To.pos (aK hx) (To.bindS (aA hx) (To.bindS (K9 (hk d (Cu (aA hx)))) (To.neg (by simp) (To.bindS (aA hx) (To.bind a2 (To.neg (by simp) ?_))))));rw [bE];exact h1
  | @bad u w x d xs e f pts m b1 b2 b3 b4 _ ih=>
   intro i out hx ho;simp only [List.length_cons] at ho;obtain ⟨fs,h1,h2⟩:=ih (i+1) (out++ [⟨d.Act,d.Item,f⟩]) (aI hx) (by simp;omega);refine ⟨fs,To.succ ?_,by rw [h2];simp;omega⟩;simp only [M.gM];refine To.pos (aK hx) (To.bindS (aA hx) (To.bindS (K9 (hk d (Cu (aA hx)))) (To.neg (by simp) (To.bindS (aA hx) (To.bind b4 (To.pos b2 (To.bindS (aA hx) (To.bindS (aA hx) (To.bindS (bJ (by simp;omega)) ?_)))))))));rw [bE];exact h1
 obtain ⟨fs,h1,h2⟩:=loop h 0 [] rfl (by simpa using hl);refine ⟨fs,?_,by simpa using h2⟩;simp only [M.yF];exact To.bind h1 To.pure
theorem Run.split{u w:aa}{l:List ak}{pts:List az}{m:Nat}(h:Run u l w pts m):∀ k:Nat,∃ v p1 p2 m1 m2,Run u (l.take k) v p1 m1/\Run v (l.drop k) w p2 m2/\pts=p1++p2:=by
 induction h with
 | @nil u=>intro k;exact ⟨u,[],[],0,0,by rw [List.take_nil];exact .nil,by rw [List.drop_nil];exact .nil,rfl⟩
 | @good u v w d l pt pts m a1 a2 a3 a4 hr ih=>
  intro k;cases k with
  | zero=>exact ⟨u,[],pt :: pts,0,m,.nil,.good a1 a2 a3 a4 hr,rfl⟩
  | succ k=>
   obtain ⟨v2,p1,p2,m1,m2,h1,h2,h3⟩:=ih k;exact ⟨v2,pt :: p1,p2,m1,m2,.good a1 a2 a3 a4 h1,h2,by rw [h3];rfl⟩
 | @bad u w x d l e f pts m b1 b2 b3 b4 hr ih=>
  intro k;cases k with
  | zero=>exact ⟨u,[],pts,0,m+1,.nil,.bad b1 b2 b3 b4 hr,rfl⟩
  | succ k=>
   obtain ⟨v2,p1,p2,m1,m2,h1,h2,h3⟩:=ih k;exact ⟨v2,p1,p2,m1+1,m2,.bad b1 b2 b3 b4 h1,h2,h3⟩
theorem QW{σ α ρ:Type}{st:Nat->σ->α->Option (σ ⊕ ρ)}:∀ (xs ys:List α) {s t:σ} {r:σ ⊕ ρ},To (fun n=>foldB (st n) s xs) (.inl t)->To (fun n=>foldB (st n) t ys) r->To (fun n=>foldB (st n) s (xs++ys)) r:=by
 intro xs;induction xs with
 | nil=>intro ys s t r h k;have:=To.det (f:=fun _:Nat=>some (.inl s:σ ⊕ ρ)) To.pure h;cases this;exact k
 | cons x xs ih=>
  intro ys s t r h k;obtain ⟨n0,h0⟩:=h;have h1:=h0 n0 (Nat.le_refl _);simp only [foldB] at h1;cases hs:st n0 s x with
  | none=>rw [hs] at h1;cases h1
  | some q=>
   obtain ⟨n2,k2⟩:=k;refine ⟨n0+n2,fun n hn=>?_⟩;have h3:=h0 n (by omega);have k3:=k2 n (by omega);rw [List.cons_append];simp only [foldB] at h3 ⊢;cases hq:st n s x with
   | none=>rw [hq] at h3;cases h3
   | some q2=>
    rw [hq] at h3;cases q2 with
    | inr b=>simp at h3
    | inl s2=>
     simp only [Option.bind_some] at h3 ⊢;clear ih h1 hs h0;have key:∀ (xs:List α) (s2:σ),foldB (st n) s2 xs=some (.inl t)->foldB (st n) s2 (xs++ys)=some r:=by
      intro xs;induction xs with
      | nil=>intro s2 h;simp only [foldB,Option.some.injEq,Sum.inl.injEq] at h;rw [h];exact k3
      | cons y ys2 ihy=>
       intro s2 h;rw [List.cons_append];simp only [foldB] at h ⊢;cases hy:st n s2 y with
       | none=>rw [hy] at h;cases h
       | some q3=>
        rw [hy] at h;cases q3 with
        | inr b=>simp at h
        | inl s3=>simp only [Option.bind_some] at h ⊢;exact ihy s3 h
     exact key xs s2 h3
theorem D9{u w:aa}{l:List ak}{pts:List az}{m:Nat}(h:Run u l w pts m):To (fun n=>M.lL n w pts) (u,0):=by
 have key:To (fun n=>foldB (M.kP n) w pts.reverse) (.inl u):=by
  induction h with
  | nil=>simp only [List.reverse_nil,foldB];exact To.pure
  | good a1 a2 a3 a4 _ ih=>
   rw [List.reverse_cons];refine QW _ _ ih ?_;simp only [foldB,M.kP];exact To.bind (To.bind a4 (To.neg (by simp) To.pure)) To.pure
  | bad _ _ _ _ _ ih=>exact ih
 simp only [M.lL];exact To.bind key To.pure
theorem Gs(u:aa)(l:List ak)(cut:Int)(h0:0<=cut)(h255:cut<=255):To (fun n=>M.nW n u l cut) true:=by
 simp only [M.nW];obtain ⟨b,hb1,hb2⟩:=QP u;cases b with
 | false=>exact To.bind (a:=true) (To.bind hb1 (To.pos rfl To.pure)) (To.pos rfl To.pure)
 | true=>
  obtain ⟨c,hc1,hc2⟩:=Od l;cases c with
  | false=>exact To.bind (a:=true) (To.bind hb1 (To.neg (by simp) (To.bind hc1 To.pure))) (To.pos rfl To.pure)
  | true=>
   obtain ⟨hl8,hall⟩:=hc2 rfl;have hu:=hb2 rfl;refine To.bind (a:=false) (To.bind hb1 (To.neg (by simp) (To.bind hc1 To.pure))) (To.neg (by simp) ?_);obtain ⟨w,pts,m,hr⟩:=La l u hu hall;have hk:∀ d∈l,0<=d.It.Kind/\d.It.Kind<=6:=fun d hd=>(hall d hd).2.1.kind;obtain ⟨fs,hfs,hfl⟩:=MR hr hk (by omega);have hlen:=hr.len;have hap:=Fu hr hk (by omega);refine To.bind hap (To.bind hfs (To.bind (a:=false) (To.bind (rsame w) (To.neg (by simp) (To.bindS (fo pts.length fs.length (by omega)) (To.pure.of ?_)))) (To.neg (by simp) ?_)))
   ·rw [decide_eq_false_iff_not];simp;omega
   refine To.bind (D9 hr) (To.bind (a:=false) (To.neg (by simp) (To.bind (rsame u) To.pure)) (To.neg (by simp) ?_));have hrem:∃ k:Nat,remC cut ((l.length+1:Nat):Int)=some (k:Int)/\k<=l.length:=by
    obtain ⟨c,rfl⟩:∃ c:Nat,cut=(c:Int):=⟨cut.toNat,by omega⟩
    have hlt:c % (l.length+1)< l.length+1:=Nat.mod_lt _ (by omega);refine ⟨c % (l.length+1),?_,by omega⟩;unfold remC;rw [show ((c:Int).tmod ((l.length+1:Nat):Int))=((c % (l.length+1):Nat):Int) from rfl,if_pos];refine ⟨by omega,?_⟩;unfold fits64;rw [Bool.and_eq_true,decide_eq_true_eq,decide_eq_true_eq];omega
   obtain ⟨k,hk1,hk2⟩:=hrem;obtain ⟨v,p1,p2,m1,m2,r1,r2,rfl⟩:=hr.split k;have hkt:∀ d∈l.take k,0<=d.It.Kind/\d.It.Kind<=6:=fun d hd=>hk d (List.mem_of_mem_take hd);have htl:(l.take k).length<=1000:=by rw [List.length_take];omega
   obtain ⟨fs1,hfs1,_⟩:=MR r1 hkt htl;have hhi:slcHi l (k:Int)=some (l.take k):=by unfold slcHi;rw [if_pos (by omega),Int.toNat_natCast]
   have hlo:slcLo (p1++p2) ((p1.length:Nat):Int)=some p2:=by
    unfold slcLo;rw [List.length_append,if_pos (by omega),Int.toNat_natCast,List.drop_left'];rfl
   refine To.bindS (mr _ (by omega)) (To.bindS hk1 (To.bindS hhi (To.bind (Fu r1 hkt htl) (To.bindS hlo (To.bind (D9 r2) (To.bindS hhi (To.bind hfs1 (To.pos rfl (To.bind (rsame v) To.pure)))))))))
theorem u8_in{g:G}{n:Int}{v:Value}(h:((tI .u8).is n).holds v g):0<=n/\n<=255:=by
 obtain ⟨cs,⟨_,h⟩,_⟩:=h;exact ⟨h.1,h.2⟩
end Go.Proofs.YtapobcikfdbjiaaGreatDoor
