import Derived.Test.YtobcmdhemlennaaGreatDoorPe
/-
  Places in a tree and what edits make of valid books; edits of words; stamps. Nothing here speaks of a program.
-/
set_option linter.unusedVariables false
set_option linter.unusedSimpArgs false
namespace Go.Proofs.YtobcmdhemlennaaGreatDoor
open Go Go.Dec
def ids(u:aa):List ai:=(desc u).map aa.Id
theorem rf(u:aa):ids u=u.Id :: u.Kids.flatMap ids:=by
 unfold ids;rw [fJ];simp [List.map_flatMap]
theorem nK(u:aa):cnt u=(ids u).length:=by simp [cnt,ids]
theorem uC{u:aa}{i:ai}:i∈ids u ↔ ∃ x∈desc u,x.Id=i:=by simp [ids]
theorem nV(u:aa):u.Id∈ids u:=by rw [rf];simp
def V3(u:aa)(l:List aa):aa:={u with Kids:=l}
theorem qE(u:aa):V3 u u.Kids=u:=by cases u;rfl
theorem CR(u:aa)(l m:List aa):V3 (V3 u l) m=V3 u m:=rfl
theorem ng(u:aa)(l:List aa):(V3 u l).Kids=l:=rfl
theorem Lc(u:aa)(l:List aa):(V3 u l).Id=u.Id:=rfl
theorem CS(u:aa)(l:List aa):ids (V3 u l)=u.Id :: l.flatMap ids:=rf _
inductive At (p:aa):Nat->aa->(aa->aa)->Prop
 | here:At p 0 p (λy=>y)
 | kid {d:Nat} {u k:aa} {C:aa->aa} {l r:List aa}:u.Kids=l++k :: r->At p d k C->At p (d+1) u (λy=>V3 u (l++C y :: r))
theorem At.plug{p u:aa}{d:Nat}{C:aa->aa}(h:At p d u C):C p=u:=by
 induction h with
 | here=>rfl
 | kid e _ ih=>show V3 _ _=_;rw [ih,<-e,qE]
theorem At.re{p u:aa}{d:Nat}{C:aa->aa}(h:At p d u C)(y:aa):At y d (C y) C:=by
 induction h with
 | here=>exact .here
 | @kid d u k C l r e _ ih=>exact At.kid (u:=V3 u (l++C y :: r)) rfl ih
theorem At.Af{x u:aa}(h:x∈desc u):∃ d C,At x d u C:=by
 refine Wd (P:=λu=>x∈desc u->∃ d C,At x d u C) ?_ u h;intro u ih h;rw [fJ] at h;rcases List.mem_cons.1 h with rfl | h
 .exact ⟨0,_,.here⟩
 .obtain ⟨k,hk,hx⟩:=List.mem_flatMap.1 h;obtain ⟨d,C,hc⟩:=ih k hk hx;obtain ⟨l,r,e⟩:=List.append_of_mem hk;exact ⟨d+1,_,.kid e hc⟩
theorem At.mem{p u:aa}{d:Nat}{C:aa->aa}(h:At p d u C):p∈desc u:=by
 induction h with
 | here=>exact fU _
 | kid e _ ih=>exact mX (by rw [e];simp) ih
theorem At.step{p u x:aa}{d:Nat}{C:aa->aa}{l r:List aa}(h:At p d u C)(e:p.Kids=l++x :: r):At x (d+1) u (λy=>C (V3 p (l++y :: r))):=by
 induction h with
 | here=>exact .kid e .here
 | kid e2 _ ih=>exact .kid e2 ih
theorem At.up{x:aa}:∀ {d:Nat} {u:aa} {C:aa->aa},At x (d+1) u C->∃ p l r D,p.Kids=l++x :: r/\At p d u D/\C=λy=>D (V3 p (l++y :: r)):=by
 intro d;induction d with
 | zero=>
  intro u C h;cases h with
  | kid e h=>
   cases h;exact ⟨u,_,_,_,e,.here,rfl⟩
 | succ d ih=>
  intro u C h;cases h with
  | kid e h=>
   obtain ⟨p,l,r,D,e2,h2,rfl⟩:=ih h;exact ⟨p,l,r,_,e2,.kid e h2,rfl⟩
theorem At.zero{x u:aa}{C:aa->aa}(h:At x 0 u C):x=u/\C=λy=>y:=by
 cases h;exact ⟨rfl,rfl⟩
theorem At.idL{p u:aa}{d:Nat}{C:aa->aa}(h:At p d u C):∃ A B,∀ y,ids (C y)=A++ids y++B:=by
 induction h with
 | here=>exact ⟨[],[],λy=>by simp⟩
 | @kid d u k C l r e _ ih=>
  obtain ⟨A,B,h⟩:=ih;exact ⟨u.Id :: l.flatMap ids++A,B++r.flatMap ids,λy=>by rw [CS];simp [h]⟩
theorem At.dpI{p u:aa}{d:Nat}{C:aa->aa}(h:At p d u C)(y:aa):∀ n,dp u<=n->d+dp y<=n->dp (C y)<=n:=by
 induction h with
 | here=>intro n h1 h2;show dp y<=n;omega
 | @kid d u k C l r e _ ih=>
  intro n h1 h2;rw [A7,e] at h1;refine (A7 _ _).2 λz hz=>?_;rw [ng] at hz;have hk:=h1 k (by simp);rcases List.mem_append.1 hz with hz | hz
  .exact h1 z (by simp [hz])
  rcases List.mem_cons.1 hz with rfl | hz
  .have:=ih (n-1) (by omega) (by omega);omega
  .exact h1 z (by simp [hz])
theorem At.dpO{p u:aa}{d:Nat}{C:aa->aa}(h:At p d u C):d+dp p<=dp u:=by
 induction h with
 | here=>omega
 | @kid d u k C l r e _ ih=>
  have:=(A7 u (dp u)).1 (Nat.le_refl _) k (by rw [e];simp);omega
def V8(u:aa):aa:=V3 u []
theorem At.root{p u:aa}{d:Nat}{C:aa->aa}(h:At p (d+1) u C)(y:aa):V8 (C y)=V8 u:=by
 cases h with
 | kid e h=>rfl
theorem At.keyE{p u:aa}{d:Nat}{C:aa->aa}(h:At p d u C){y:aa}(e:keyU y=keyU p):keyU (C y)=keyU u:=by
 cases h with
 | here=>exact e
 | kid _ _=>rfl
theorem xO(u:aa):Wu u=(((u.Kids.map keyU).all λk=>nestB u.Kind k.1) && decide ((u.Kids.map keyU).Nodup) && decide ((u.Kids.map keyU).length<=64)):=by
 unfold Wu;rw [List.all_map,List.length_map];rfl
theorem PG(u:aa){l:List aa}(e:l.map keyU=u.Kids.map keyU):okU (V3 u l)=okU u:=by
 unfold okU;rw [xO,xO u];show (aloB u && _)=_;rw [ng,e];rfl
def Oks(u:aa):Prop:=∀ z∈desc u,okU z=true
theorem En{u x:aa}(h:x∈desc u):∀ y,y∈desc x->y∈desc u:=by
 refine Wd (P:=λu=>∀ x,x∈desc u->∀ y,y∈desc x->y∈desc u) ?_ u x h;intro u ih x h y hy;rw [fJ] at h;rcases List.mem_cons.1 h with rfl | h
 .exact hy
 .obtain ⟨k,hk,hx⟩:=List.mem_flatMap.1 h;exact mX hk (ih k hk x hx y hy)
theorem xg{u x k:aa}(h:x∈desc u)(hk:k∈x.Kids):k∈desc u:=En h _ (mX hk (fU k))
theorem Oks.sub{u x:aa}(h:Oks u)(hx:x∈desc u):Oks x:=λz hz=>h z (En hx z hz)
theorem CU{u:aa}{l:List aa}:Oks (V3 u l) ↔ okU (V3 u l)=true/\ ∀ k∈l,Oks k:=by
 unfold Oks;rw [fJ,ng];constructor
 .intro h;exact ⟨h _ (by simp),λk hk z hz=>h z (List.mem_cons_of_mem _ (List.mem_flatMap.2 ⟨k,hk,hz⟩))⟩
 .rintro ⟨h1,h2⟩ z hz;rcases List.mem_cons.1 hz with rfl | hz
  .exact h1
  .obtain ⟨k,hk,hz⟩:=List.mem_flatMap.1 hz;exact h2 k hk z hz
theorem rD(u:aa):Oks u ↔ okU u=true/\ ∀ k∈u.Kids,Oks k:=by
 have:=@CU u u.Kids;rwa [qE] at this
theorem At.oks{p u:aa}{d:Nat}{C:aa->aa}(h:At p d u C){y:aa}(hu:Oks u)(e:keyU y=keyU p)(hy:Oks y):Oks (C y):=by
 induction h with
 | here=>exact hy
 | @kid d u k C l r he hk ih=>
  obtain ⟨h1,h2⟩:=(rD u).1 hu;refine CU.2 ⟨?_,λz hz=>?_⟩
  .rw [PG,h1];rw [he];simp [hk.keyE e]
  .rcases List.mem_append.1 hz with hz | hz
   .exact h2 z (by rw [he];simp [hz])
   rcases List.mem_cons.1 hz with rfl | hz
   .exact ih (h2 k (by rw [he];simp))
   .exact h2 z (by rw [he];simp [hz])
theorem Vo{p u:aa}{d:Nat}{C:aa->aa}(h:At p d u C)(hn:(ids u).Nodup):(ids p).Nodup:=by
 obtain ⟨A,B,e⟩:=h.idL;have:=e p;rw [h.plug] at this;rw [this] at hn;exact (List.nodup_append.1 (List.nodup_append.1 hn).1).2.1
theorem nW{u k:aa}{l r:List aa}(e:u.Kids=l++k :: r)(hn:(ids u).Nodup){i:ai}(hi:i∈ids k):u.Id≠i/\(∀ z∈l,i ∉ ids z)/\(∀ z∈r,i ∉ ids z)/\(ids k).Nodup:=by
 rw [rf,e] at hn;simp only [List.flatMap_append,List.flatMap_cons,List.nodup_cons,List.nodup_append,List.mem_append,List.mem_flatMap] at hn;obtain ⟨h1,h2,⟨h3,h4,h5⟩,h6⟩:=hn;refine ⟨λe=>h1 (.inr (.inl (e▸hi))),λz hz hm=>?_,λz hz hm=>?_,h3⟩
 .exact h6 i ⟨z,hz,hm⟩ i (.inl hi) rfl
 .exact h5 i hi i ⟨z,hz,hm⟩ rfl
theorem At.inId{p u:aa}{d:Nat}{C:aa->aa}(h:At p d u C):p.Id∈ids u:=uC.2 ⟨p,h.mem,rfl⟩
def upd(id:ai)(f:aa->aa)(u:aa):aa:=if u.Id=id then f u else V3 u (u.Kids.attach.map (λk=>upd id f k.1))
termination_by SizeOf.sizeOf u
decreasing_by exact vP k.2
theorem Fg(id:ai)(f:aa->aa)(u:aa):upd id f u=if u.Id=id then f u else V3 u (u.Kids.map (upd id f)):=by
 rw [upd,E8 (upd id f)]
theorem PH(id:ai)(f:aa->aa)(u:aa):id ∉ ids u->upd id f u=u:=by
 refine Wd (P:=λu=>id ∉ ids u->upd id f u=u) ?_ u;intro u ih h;rw [rf] at h;simp only [List.mem_cons,not_or,List.mem_flatMap,not_exists,not_and] at h;rw [Fg,if_neg (λe=>h.1 e.symm)];rw [show u.Kids.map (upd id f)=u.Kids from (List.map_congr_left (λk hk=>ih k hk (h.2 k hk))).trans (List.map_id _),qE]
theorem map_none{id:ai}{f:aa->aa}{l:List aa}(h:∀ z∈l,id ∉ ids z):l.map (upd id f)=l:=
 (List.map_congr_left (λk hk=>PH id f k (h k hk))).trans (List.map_id _)
theorem At.updE{p u:aa}{d:Nat}{C:aa->aa}(h:At p d u C)(hn:(ids u).Nodup)(f:aa->aa):upd p.Id f u=C (f p):=by
 induction h with
 | here=>rw [Fg,if_pos rfl]
 | @kid d u k C l r e hk ih=>
  obtain ⟨h1,h2,h3,h4⟩:=nW e hn hk.inId;rw [Fg,if_neg h1,e,List.map_append,List.map_cons,map_none h2,map_none h3,ih h4]
theorem Ah{id:ai}{u:aa}:id ∉ ids u->Wh id u=none:=by
 refine Wd (P:=λu=>id ∉ ids u->Wh id u=none) ?_ u;intro u ih h;rw [rf] at h;simp only [List.mem_cons,not_or,List.mem_flatMap,not_exists,not_and] at h;rw [vv,if_neg (λe=>h.1 e.symm)];exact List.findSome?_eq_none_iff.2 λk hk=>ih k hk (h.2 k hk)
theorem At.findE{p u:aa}{d:Nat}{C:aa->aa}(h:At p d u C)(hn:(ids u).Nodup):Wh p.Id u=some p:=by
 induction h with
 | here=>rw [vv,if_pos rfl]
 | @kid d u k C l r e hk ih=>
  obtain ⟨h1,h2,h3,h4⟩:=nW e hn hk.inId;rw [vv,if_neg h1,e,List.findSome?_append,List.findSome?_cons,ih h4,List.findSome?_eq_none_iff.2 λz hz=>Ah (h2 z hz)];rfl
theorem vS{id:ai}{u:aa}:id ∉ ids u->VZ id u=none:=by
 refine Wd (P:=λu=>id ∉ ids u->VZ id u=none) ?_ u;intro u ih h;rw [rf] at h;simp only [List.mem_cons,not_or,List.mem_flatMap,not_exists,not_and] at h;rw [mZ,if_neg (λe=>h.1 e.symm),List.findSome?_eq_none_iff.2 λk hk=>ih k hk (h.2 k hk)];rfl
theorem At.pathE{p u:aa}{d:Nat}{C:aa->aa}(h:At p d u C)(hn:(ids u).Nodup):∃ w,VZ p.Id u=some w/\w.length=d+1:=by
 induction h with
 | here=>exact ⟨[p],by rw [mZ,if_pos rfl],rfl⟩
 | @kid d u k C l r e hk ih=>
  obtain ⟨h1,h2,h3,h4⟩:=nW e hn hk.inId;obtain ⟨w,hw,hl⟩:=ih h4;refine ⟨u :: w,?_,by simp [hl]⟩;rw [mZ,if_neg h1,e,List.findSome?_append,List.findSome?_cons,hw,List.findSome?_eq_none_iff.2 λz hz=>vS (h2 z hz)];rfl
theorem MZ{id:ai}{k:aa}{l r:List aa}(h:∀ z∈l,id ∉ ids z)(hk:(VZ id k).isSome=true):placeK id (l++k :: r)=l.length:=by
 unfold placeK;rw [List.findIdx_append];have:¬ l.findIdx (λk=>(VZ id k).isSome)< l.length:=by
  intro hlt;have:=List.findIdx_getElem (w:=hlt);rw [vS (h _ (List.getElem_mem hlt))] at this;cases this
 rw [if_neg this,List.findIdx_cons,hk];simp
theorem At.parE{p u x:aa}{d:Nat}{C:aa->aa}{l r:List aa}(h:At p d u C)(hn:(ids u).Nodup)(e:p.Kids=l++x :: r):Wt x.Id u=(p.Id,((l.length:Nat):Int),true):=by
 unfold Wt;induction h with
 | here=>
  obtain ⟨h1,h2,h3,h4⟩:=nW e hn (nV x);rw [mZ,if_neg h1,e,List.findSome?_append,List.findSome?_cons,List.findSome?_eq_none_iff.2 λz hz=>vS (h2 z hz),mZ,if_pos rfl];show WT x.Id [p,x]=_;show (p.Id,((placeK x.Id p.Kids:Nat):Int),true)=_;rw [e,MZ h2 (by rw [mZ,if_pos rfl];rfl)]
 | @kid d u k C l0 r0 e0 hk ih=>
  have hs:=hk.step e;obtain ⟨h1,h2,h3,h4⟩:=nW e0 hn hs.inId;obtain ⟨w,hw,hl⟩:=hs.pathE h4;have ih:=ih h4;rw [hw] at ih;rw [mZ,if_neg h1,e0,List.findSome?_append,List.findSome?_cons,hw,List.findSome?_eq_none_iff.2 λz hz=>vS (h2 z hz)];show WT x.Id (u :: w)=_;rw [El _ _ _ (by omega)];exact ih
structure Ok (u:aa):Prop where
 oks:Oks u
 hdp:dp u<=8
 hcnt:cnt u<=1024
 nd:(ids u).Nodup
 kind:u.Kind=0
 root:u.Id=aO
theorem xh{p u x:aa}{d:Nat}{D:aa->aa}(h:At p d u D)(a b:List aa):(ids (D (V3 p (a++x :: b)))).Perm (ids x++ids (D (V3 p (a++b)))):=by
 obtain ⟨A,B,e⟩:=h.idL;rw [e,e,CS,CS];simp only [List.flatMap_append,List.flatMap_cons,List.append_assoc,List.cons_append];have:∀ P Q R S:List ai,(P++(Q++(R++S))).Perm (Q++(P++(R++S))):=λP Q R S=>by
  rw [<-List.append_assoc P Q,<-List.append_assoc Q P];exact (List.perm_append_comm (l₁:=P) (l₂:=Q)).append_right _
 have h2:=this (A++p.Id :: a.flatMap ids) (ids x) (b.flatMap ids) B;simpa using h2
theorem Ok.inner{u x:aa}{d:Nat}{C:aa->aa}(h:Ok u)(hx:At x (d+1) u C):x.Kind≠0/\x.Id≠aO/\okU x=true:=by
 have hid:x.Id≠aO:=λhi=>by
  cases hx with
  | kid e0 hk=>exact (nW e0 h.nd hk.inId).1 (h.root.trans hi.symm)
 obtain ⟨p,l,r,D,e,hp,rfl⟩:=hx.up;refine ⟨λhk=>?_,hid,h.oks x hx.mem⟩
 .have:=h.oks p hp.mem;simp only [okU,Wu,Bool.and_eq_true,List.all_eq_true] at this;have:=this.2.1.1 x (by rw [e];simp);rw [hk,E5] at this;cases this
theorem sS{u:aa}(h:u.Kind≠0):aloB u=(decide (1<=u.Kind) && decide (u.Kind<=7) && qP u.Label && Wp u.Head && Wp u.Words):=by unfold aloB;rw [if_neg h]
theorem uD{u:aa}(h:okU u=true):aloB u=true:=by simp only [okU,Bool.and_eq_true] at h;exact h.1
theorem zD{u:aa}(h:okU u=true):Wu u=true:=by simp only [okU,Bool.and_eq_true] at h;exact h.2
theorem Ld{u v:aa}(h:u.Kids=v.Kids):dp u=dp v:=by rw [wZ,wZ,h]
theorem H8{u v:aa}(h:u.Kids=v.Kids)(hi:u.Id=v.Id):ids u=ids v:=by rw [rf,rf,h,hi]
theorem Ok.plug{u x y:aa}{d:Nat}{C:aa->aa}(h:Ok u)(hx:At x (d+1) u C)(hk:keyU y=keyU x)(hi:y.Id=x.Id)(hl:y.Kids=x.Kids)(ha:aloB y=true):Ok (C y):=by
 have hxx:=h.inner hx;have hr:=hx.root y;have he:ids (C y)=ids u:=by
  obtain ⟨A,B,e⟩:=hx.idL;have e1:=e x;rw [hx.plug] at e1;rw [e,e1,H8 hl hi]
 refine ⟨hx.oks h.oks hk ?_,hx.dpI y 8 h.hdp ?_,?_,?_,?_,?_⟩
 .refine (rD y).2 ⟨?_,λk hk=>?_⟩
  .have h1:Wu y=Wu x:=by have:y.Kind=x.Kind:=congrArg Prod.fst hk;unfold Wu;rw [hl,this]
   rw [okU,ha,h1,zD hxx.2.2];rfl
  .rw [hl] at hk;exact h.oks.sub (xg hx.mem hk)
 .rw [Ld hl];exact Nat.le_trans hx.dpO h.hdp
 .rw [nK,he,<-nK];exact h.hcnt
 .rw [he];exact h.nd
 .have:(V8 (C y)).Kind=(V8 u).Kind:=by rw [hr]
  exact this.trans h.kind
 .have:(V8 (C y)).Id=(V8 u).Id:=by rw [hr]
  exact this.trans h.root
theorem Ok.words{u x:aa}{d:Nat}{C:aa->aa}(h:Ok u)(hx:At x (d+1) u C){w:List af}(hw:Wp w=true):Ok (C {x with Words:=w}):=by
 have hxx:=h.inner hx;refine h.plug hx rfl rfl rfl ?_;have:=uD hxx.2.2;rw [sS hxx.1] at this;rw [sS (u:={x with Words:=w}) hxx.1];simp only [Bool.and_eq_true] at this ⊢;exact ⟨this.1,hw⟩
theorem Ok.head{u x:aa}{d:Nat}{C:aa->aa}(h:Ok u)(hx:At x (d+1) u C){w:List af}(hw:Wp w=true):Ok (C {x with Head:=w}):=by
 have hxx:=h.inner hx;refine h.plug hx rfl rfl rfl ?_;have:=uD hxx.2.2;rw [sS hxx.1] at this;rw [sS (u:={x with Head:=w}) hxx.1];simp only [Bool.and_eq_true] at this ⊢;exact ⟨⟨this.1.1,hw⟩,this.2⟩
theorem Ok.kids{u p:aa}{d:Nat}{D:aa->aa}(h:Ok u)(hp:At p d u D){l:List aa}
  (h1:∀ k∈l,nestB p.Kind k.Kind=true/\Oks k/\d+1+dp k<=8) (h2:(l.map keyU).Nodup) (h3:l.length<=64) (h4:(ids (D (V3 p l))).Nodup) (h5:cnt (D (V3 p l))<=1024):Ok (D (V3 p l)):=by
 have hok:=h.oks p hp.mem;refine ⟨hp.oks h.oks rfl (CU.2 ⟨?_,λk hk=>(h1 k hk).2.1⟩),hp.dpI _ 8 h.hdp ?_,h5,h4,?_,?_⟩
 .rw [okU,show aloB (V3 p l)=aloB p from rfl,uD hok,Wu,ng];simp only [Bool.true_and,Bool.and_eq_true,List.all_eq_true,decide_eq_true_eq];exact ⟨⟨λk hk=>(h1 k hk).1,h2⟩,h3⟩
 .have:=hp.dpO;have h8:=h.hdp;have:dp (V3 p l)<=8-d:=(A7 _ _).2 λk hk=>by
   have:=(h1 k hk).2.2;omega
  omega
 .have:=h.kind;cases hp with
  | here=>exact this
  | kid _ _=>exact this
 .have:=h.root;cases hp with
  | here=>exact this
  | kid _ _=>exact this
theorem Ok.kidsOf{u p:aa}{d:Nat}{D:aa->aa}(h:Ok u)(hp:At p d u D):(∀ k∈p.Kids,nestB p.Kind k.Kind=true/\Oks k/\d+1+dp k<=8)/\(p.Kids.map keyU).Nodup/\p.Kids.length<=64:=by
 have hok:=zD (h.oks p hp.mem);simp only [Wu,Bool.and_eq_true,List.all_eq_true,decide_eq_true_eq] at hok;refine ⟨λk hk=>⟨hok.1.1 k hk,h.oks.sub (xg hp.mem hk),?_⟩,hok.1.2,hok.2⟩;obtain ⟨l,r,e⟩:=List.append_of_mem hk;have:=(hp.step e).dpO;have:=h.hdp;omega
theorem Ok.del{u p x:aa}{d:Nat}{D:aa->aa}{l r:List aa}(h:Ok u)(hp:At p d u D)(e:p.Kids=l++x :: r):Ok (D (V3 p (l++r))):=by
 obtain ⟨h1,h2,h3⟩:=h.kidsOf hp;have hs:(l++r).Sublist p.Kids:=by rw [e];exact (List.Sublist.refl l).append (List.sublist_cons_self _ _)
 have hper:=xh (x:=x) hp l r;have hu:D (V3 p (l++x :: r))=u:=by rw [<-e,qE,hp.plug]
 rw [hu] at hper;have hn:=hper.nodup_iff.1 h.nd;refine h.kids hp (λk hk=>h1 k (hs.subset hk)) (h2.sublist (hs.map _)) (Nat.le_trans hs.length_le h3) (List.nodup_append.1 hn).2.1 ?_;have:=hper.length_eq;rw [List.length_append,<-nK,<-nK,<-nK] at this;have:=h.hcnt;omega
theorem Ok.ins{u p x:aa}{d:Nat}{D:aa->aa}{a b:List aa}(h:Ok u)(hp:At p d u D)(e:p.Kids=a++b)(hx:Oks x)(hk:nestB p.Kind x.Kind=true)(ht:keyU x ∉ p.Kids.map keyU)(hl:p.Kids.length<64)
  (hd:d+1+dp x<=8) (hc:cnt u+cnt x<=1024) (hi:(ids x).Nodup) (hj:∀ i∈ids x,i ∉ ids u):Ok (D (V3 p (a++x :: b))):=by
 obtain ⟨h1,h2,h3⟩:=h.kidsOf hp;have hper:=xh (x:=x) hp a b;have hu:D (V3 p (a++b))=u:=by rw [<-e,qE,hp.plug]
 rw [hu] at hper;rw [e] at h1 h2 h3 ht hl;refine h.kids hp (λk hk2=>?_) ?_ ?_ ?_ ?_
 .rcases List.mem_append.1 hk2 with hz | hz
  .exact h1 k (by simp [hz])
  rcases List.mem_cons.1 hz with rfl | hz
  .exact ⟨hk,hx,hd⟩
  .exact h1 k (by simp [hz])
 .have:((a++x :: b).map keyU).Perm ((x :: (a++b)).map keyU):=List.perm_middle.map _;rw [this.nodup_iff,List.map_cons,List.nodup_cons];exact ⟨ht,h2⟩
 .simp at hl ⊢;omega
 .rw [hper.nodup_iff,List.nodup_append];exact ⟨hi,h.nd,λa ha b hb he=>hj a ha (he▸hb)⟩
 .have:=hper.length_eq;rw [List.length_append,<-nK,<-nK,<-nK] at this;omega
theorem Ok.label{u p x:aa}{d:Nat}{D:aa->aa}{l r:List aa}(h:Ok u)(hp:At p d u D)(e:p.Kids=l++x :: r){s:Str}(hs:qP s=true)(ht:(x.Kind,s) ∉ p.Kids.map keyU):Ok (D (V3 p (l++ {x with Label:=s} :: r))):=by
 obtain ⟨h1,h2,h3⟩:=h.kidsOf hp;have hx:=h.inner (hp.step e);have hper:=xh (x:=x) hp l r;have hper2:=xh (x:={x with Label:=s}) hp l r;have hu:D (V3 p (l++x :: r))=u:=by rw [<-e,qE,hp.plug]
 rw [hu] at hper;rw [show ids {x with Label:=s}=ids x from H8 rfl rfl] at hper2;have hper3:=hper2.trans hper.symm;rw [e] at h1 h2 h3 ht;refine h.kids hp (λk hk=>?_) ?_ ?_ (hper3.nodup_iff.2 h.nd) ?_
 .rcases List.mem_append.1 hk with hz | hz
  .exact h1 k (by simp [hz])
  rcases List.mem_cons.1 hz with rfl | hz
  .have h4:=h1 x (by simp);refine ⟨h4.1,(rD _).2 ⟨?_,λk hk=>((rD x).1 h4.2.1).2 k hk⟩,?_⟩
   .have:=uD hx.2.2;have h6:=zD hx.2.2;rw [sS hx.1] at this;rw [okU,sS (u:={x with Label:=s}) hx.1,show Wu {x with Label:=s}=Wu x from rfl,h6];simp only [Bool.and_eq_true] at this ⊢;exact ⟨⟨⟨⟨this.1.1.1,hs⟩,this.1.2⟩,this.2⟩,trivial⟩
   .rw [show dp {x with Label:=s}=dp x from Ld rfl];exact h4.2.2
  .exact h1 k (by simp [hz])
 .rw [List.map_append,List.map_cons] at h2 ht ⊢;have p1:(l.map keyU++keyU x :: r.map keyU).Perm (keyU x :: (l.map keyU++r.map keyU)):=List.perm_middle;have p2:(l.map keyU++keyU {x with Label:=s} :: r.map keyU).Perm (keyU {x with Label:=s} :: (l.map keyU++r.map keyU)):=List.perm_middle;rw [p1.nodup_iff,List.nodup_cons] at h2;rw [p2.nodup_iff,List.nodup_cons];refine ⟨λhm=>ht ?_,h2.2⟩;rcases List.mem_append.1 hm with hm | hm
  .exact List.mem_append.2 (.inl hm)
  .exact List.mem_append.2 (.inr (List.mem_cons_of_mem _ hm))
 .simpa using h3
 .rw [nK,hper3.length_eq,<-nK];exact h.hcnt
theorem At.bare{p u:aa}{d:Nat}{C:aa->aa}(h:At p d u C){y:aa}(e:V8 y=V8 p):V8 (C y)=V8 u:=by
 cases h with
 | here=>exact e
 | kid _ _=>rfl
theorem PI{α:Type}{k k2:α}{r r2:List α}:∀ {l l2:List α},l2++k2 :: r2=l++k :: r->(l2=l/\k2=k/\r2=r)\/k2∈l\/k2∈r
 | [],[],h=>by simp at h;exact .inl ⟨rfl,h⟩
 | [],a :: l2,h=>by
  simp at h;exact .inr (.inr (by rw [<-h.2];simp))
 | a :: l,[],h=>by
  simp at h;exact .inr (.inl (by simp [h.1]))
 | a :: l,b :: l2,h=>by
  simp only [List.cons_append,List.cons.injEq] at h;rcases PI h.2 with ⟨rfl,e2,e3⟩ | h1 | h1
  .exact .inl ⟨by rw [h.1],e2,e3⟩
  .exact .inr (.inl (List.mem_cons_of_mem _ h1))
  .exact .inr (.inr h1)
theorem PK{l m:List aa}(h:l.map V8=m.map V8):l.map keyU=m.map keyU:=by
 have:∀ x:List aa,x.map keyU=(x.map V8).map keyU:=λx=>by rw [List.map_map];rfl
 rw [this,this m,h]
theorem H9{l m:List aa}(h:l.map V8=m.map V8):l.map aa.Id=m.map aa.Id:=by
 have:∀ x:List aa,x.map aa.Id=(x.map V8).map aa.Id:=λx=>by rw [List.map_map];rfl
 rw [this,this m,h]
theorem At.two{p u:aa}{d:Nat}{D:aa->aa}(h:At p d u D)(K:List aa):∀ {z:aa} {e:Nat} {E:aa->aa},At z e u E->
  (∃ k∈p.Kids,z∈desc k/\(k∈K->∃ E',At z e (D (V3 p K)) E'))\/
  ∃ z' E',At z' e (D (V3 p K)) E'/\V8 z'=V8 z/\(z=p/\z'.Kids=K\/z'.Kids.map V8=z.Kids.map V8):=by
 induction h with
 | here=>
  intro z e E hz;cases hz with
  | here=>exact .inr ⟨V3 p K,_,.here,rfl,.inl ⟨rfl,rfl⟩⟩
  | @kid e _ k C l r he hz=>
   refine .inl ⟨k,by rw [he];simp,hz.mem,λhk=>?_⟩;obtain ⟨a,b,rfl⟩:=List.append_of_mem hk;exact ⟨_,.kid rfl hz⟩
 | @kid d u k C l r he hk ih=>
  intro z e E hz;cases hz with
  | here=>exact .inr ⟨_,_,.here,rfl,.inr (by rw [ng,he];have:=hk.bare (y:=V3 p K) rfl;simp [this])⟩
  | @kid e _ k2 C2 l2 r2 he2 hz=>
   rcases PI (he2.symm.trans he) with ⟨rfl,rfl,rfl⟩ | hm | hm
   .rcases ih hz with ⟨k1,h1,h2,h3⟩ | ⟨z',E',h1,h2,h3⟩
    .refine .inl ⟨k1,h1,h2,λh=>?_⟩;obtain ⟨E',h⟩:=h3 h;exact ⟨_,.kid (u:=V3 u (l2++C (V3 p K) :: r2)) rfl h⟩
    .exact .inr ⟨z',_,.kid (u:=V3 u (l2++C (V3 p K) :: r2)) rfl h1,h2,h3⟩
   .obtain ⟨a,b,rfl⟩:=List.append_of_mem hm;exact .inr ⟨z,_,.kid (u:=V3 u ((a++k2 :: b)++C (V3 p K) :: r)) (l:=a) (r:=b++C (V3 p K) :: r) (by rw [ng];simp) hz,rfl,.inr rfl⟩
   .obtain ⟨a,b,rfl⟩:=List.append_of_mem hm;exact .inr ⟨z,_,.kid (u:=V3 u (l++C (V3 p K) :: (a++k2 :: b))) (l:=l++C (V3 p K) :: a) (r:=b) (by rw [ng];simp) hz,rfl,.inr rfl⟩
theorem At.uniq{x u:aa}{d e:Nat}{C E:aa->aa}(h:At x d u C)(hn:(ids u).Nodup)(k:At x e u E):d=e:=by
 obtain ⟨w,hw,hl⟩:=h.pathE hn;obtain ⟨w2,hw2,hl2⟩:=k.pathE hn;rw [hw] at hw2;cases hw2;omega
def markL(act item:Int):Nat->List Str->List af
 | _,[]=>[]
 | m,s :: l=>⟨s,act,item,(m:Int)⟩ :: markL act item (m+1) l
theorem ni(act item:Int):∀ (l:List Str) (m:Nat),(markL act item m l).length=l.length
 | [],_=>rfl
 | s :: l,m=>by rw [markL,List.length_cons,List.length_cons,ni act item l]
theorem yS(act item:Int):∀ (l:List Str) (m:Nat) (x:af),x∈markL act item m l->x.Text∈l
 | s :: l,m,x,h=>by
  rw [markL] at h;rcases List.mem_cons.1 h with rfl | h
  .simp
  .exact List.mem_cons_of_mem _ (yS act item l _ x h)
def editL(act item:Int)(w:List af)(gone:Nat)(new:List Str):List Nat->Nat->Nat->List af
 | [],fr,_=>w.drop fr
 | p :: ps,fr,m=>(w.take p).drop fr++(markL act item m new++editL act item w gone new ps (p+gone) (m+new.length))
theorem Eo(act item:Int)(w:List af)(gone:Nat)(new:List Str):∀ (ps:List Nat) (fr m:Nat) (x:af),x∈editL act item w gone new ps fr m->x∈w\/x.Text∈new
 | [],fr,m,x,h=>.inl (List.mem_of_mem_drop h)
 | p :: ps,fr,m,x,h=>by
  rw [editL] at h;rcases List.mem_append.1 h with h | h
  .exact .inl (List.mem_of_mem_take (List.mem_of_mem_drop h))
  rcases List.mem_append.1 h with h | h
  .exact .inr (yS _ _ _ _ _ h)
  .exact Eo act item w gone new ps _ _ x h
def Sp(gone n:Nat):Nat->List Nat->Prop
 | fr,[]=>fr<=n
 | fr,p :: ps=>fr<=p/\Sp gone n (p+gone) ps
theorem Sp.le{gone n:Nat}:∀ {ps:List Nat} {fr:Nat},Sp gone n fr ps->fr<=n
 | [],fr,h=>h
 | p :: ps,fr,h=>by have:=Sp.le h.2;have:=h.1;omega
def Ws(act item:Int)(w:List af)(gone:Nat)(new:List Str):List Nat->Nat->List af
 | [],_=>w
 | p :: ps,i=>(Ws act item w gone new ps (i+1)).take p++(markL act item (i*new.length) new++(Ws act item w gone new ps (i+1)).drop (p+gone))
theorem Fj(act item:Int)(w:List af)(gone:Nat)(new:List Str):∀ (ps:List Nat) (fr i:Nat),Sp gone w.length fr ps->
  (∀ q,q<=fr->(Ws act item w gone new ps i).take q=w.take q)/\(Ws act item w gone new ps i).drop fr=editL act item w gone new ps fr (i*new.length)
 | [],fr,i,h=>⟨λq hq=>rfl,rfl⟩
 | p :: ps,fr,i,h=>by
  obtain ⟨h1,h2⟩:=Fj act item w gone new ps (p+gone) (i+1) h.2;have hp:p<=w.length:=by have:=h.2.le;omega
  rw [Ws,h1 p (by omega),h2];refine ⟨λq hq=>?_,?_⟩
  .have:=h.1;rw [List.take_append_of_le_length (by rw [List.length_take];omega),List.take_take];congr 1;omega
  .have:=h.1;rw [List.drop_append_of_le_length (by rw [List.length_take];omega),editL,Nat.add_mul,Nat.one_mul]
theorem M0(act item:Int)(w:List af)(gone:Nat)(new:List Str)(ps:List Nat)(h:Sp gone w.length 0 ps):Ws act item w gone new ps 0=editL act item w gone new ps 0 0:=by
 have:=(Fj act item w gone new ps 0 0 h).2;rwa [List.drop_zero,Nat.zero_mul] at this
def wcnt(u:aa):Nat:=((desc u).map λx=>x.Head.length+x.Words.length).sum
theorem zF(u:aa):wcnt u=u.Head.length+u.Words.length+(u.Kids.map wcnt).sum:=by
 have:∀ l:List aa,((l.flatMap desc).map λx=>x.Head.length+x.Words.length).sum=(l.map wcnt).sum:=by
  intro l;induction l with
  | nil=>rfl
  | cons k l ih=>rw [List.flatMap_cons,List.map_append,List.sum_append,List.map_cons,List.sum_cons,ih];rfl
 unfold wcnt;rw [fJ,List.map_cons,List.sum_cons,this];rfl
mutual
def V4(act item:Int):aa->Nat->Nat->aa
 | ⟨_,k,l,h,w,ks⟩,n,m=>⟨⟨act,item,(n:Int)⟩,k,l,markL act item m (txts h),markL act item (m+h.length) (txts w),stampK act item ks (n+1) (m+h.length+w.length)⟩
def stampK(act item:Int):List aa->Nat->Nat->List aa
 | [],_,_=>[]
 | u :: us,n,m=>V4 act item u n m :: stampK act item us (n+cnt u) (m+wcnt u)
end
theorem oD(act item:Int)(u:aa)(n m:Nat):V4 act item u n m=⟨⟨act,item,(n:Int)⟩,u.Kind,u.Label,markL act item m (txts u.Head),markL act item (m+u.Head.length) (txts u.Words),stampK act item u.Kids (n+1) (m+u.Head.length+u.Words.length)⟩:=by
 cases u;rw [V4]
theorem xP(act item:Int):∀ (l:List Str) (m:Nat),txts (markL act item m l)=l
 | [],m=>rfl
 | s :: l,m=>by show s :: txts (markL act item (m+1) l)=_;rw [xP act item l]
structure Stamped (act item:Int) (u:aa) (n m:Nat):Prop where
 hk:keyU (V4 act item u n m)=keyU u
 hi:ids (V4 act item u n m)=(List.range' n (cnt u)).map λ(i:Nat)=>(⟨act,item,(i:Int)⟩:ai)
 hd:dp (V4 act item u n m)=dp u
 hc:cnt (V4 act item u n m)=cnt u
 ho:Oks u->Oks (V4 act item u n m)
theorem stamped(act item:Int)(u:aa):∀ n m,Stamped act item u n m:=by
 refine Wd (P:=λu=>∀ n m,Stamped act item u n m) ?_ u;intro u ih n m;have kids:∀ (l:List aa),(∀ k∈l,∀ n m,Stamped act item k n m)->∀ n m,(stampK act item l n m).map keyU=l.map keyU/\
   (stampK act item l n m).flatMap ids=(List.range' n (l.map cnt).sum).map (λ(i:Nat)=>(⟨act,item,(i:Int)⟩:ai))/\
   (stampK act item l n m).map (λk=>1+dp k)=l.map (λk=>1+dp k)/\(stampK act item l n m).map cnt=l.map cnt/\((∀ k∈l,Oks k)->∀ k∈stampK act item l n m,Oks k):=by
  intro l;induction l with
  | nil=>exactλ_ n m=>⟨rfl,rfl,rfl,rfl,λ_ k hk=>by cases hk⟩
  | cons k l ihl=>
   intro h n m;have hk:=h k (by simp) n m;obtain ⟨h1,h2,h3,h4,h5⟩:=ihl (λk hk=>h k (List.mem_cons_of_mem _ hk)) (n+cnt k) (m+wcnt k);rw [stampK];refine ⟨?_,?_,?_,?_,?_⟩
   .rw [List.map_cons,h1,hk.hk];rfl
   .rw [List.flatMap_cons,h2,hk.hi,List.map_cons,List.sum_cons,<-List.map_append,List.range'_append_1]
   .rw [List.map_cons,h3,hk.hd];rfl
   .rw [List.map_cons,h4,hk.hc];rfl
   .intro ho z hz;rcases List.mem_cons.1 hz with rfl | hz
    .exact hk.ho (ho k (by simp))
    .exact h5 (λk hk=>ho k (List.mem_cons_of_mem _ hk)) z hz
 obtain ⟨h1,h2,h3,h4,h5⟩:=kids u.Kids ih (n+1) (m+u.Head.length+u.Words.length);have hc:cnt (V4 act item u n m)=cnt u:=by
  rw [lH,lH u,oD];show 1+((stampK act item u.Kids (n+1) (m+u.Head.length+u.Words.length)).map cnt).sum=_;rw [h4]
 refine ⟨by rw [oD];rfl,?_,?_,hc,λho=>?_⟩
 .rw [rf,oD,lH];show (⟨act,item,(n:Int)⟩:ai) :: (stampK act item u.Kids (n+1) (m+u.Head.length+u.Words.length)).flatMap ids=_;rw [h2,Nat.add_comm 1,List.range'_succ,List.map_cons]
 .rw [wZ,wZ u,oD];show List.foldl max 0 ((stampK act item u.Kids (n+1) (m+u.Head.length+u.Words.length)).map (λk=>1+dp k))=_;rw [h3]
 .obtain ⟨o1,o2⟩:=(rD u).1 ho;refine (rD _).2 ⟨?_,?_⟩
  .have e1:aloB (V4 act item u n m)=aloB u:=by
    rw [oD];unfold aloB Wp;show (if u.Kind=0 then (u.Label== []) && ((markL act item m (txts u.Head)).length==0) && ((markL act item (m+u.Head.length) (txts u.Words)).length==0)
     else decide (1<=u.Kind) && decide (u.Kind<=7) && qP u.Label && seqB (txts (markL act item m (txts u.Head))) && seqB (txts (markL act item (m+u.Head.length) (txts u.Words))))=_
    rw [xP,xP,ni,ni];simp [txts]
   have e2:Wu (V4 act item u n m)=Wu u:=by
    rw [xO,xO u,oD];show (((stampK act item u.Kids (n+1) (m+u.Head.length+u.Words.length)).map keyU).all (λk=>nestB u.Kind k.1) && decide (((stampK act item u.Kids (n+1) (m+u.Head.length+u.Words.length)).map keyU).Nodup) && decide (((stampK act item u.Kids (n+1) (m+u.Head.length+u.Words.length)).map keyU).length<=64))=_;rw [h1]
   rw [okU,e1,e2];exact o1
  .rw [oD];exact h5 o2
theorem PL(act item:Int)(u:aa)(n m:Nat):(ids (V4 act item u n m)).Nodup:=by
 rw [(stamped act item u n m).hi];refine (List.pairwise_map.2 ?_);refine (List.nodup_range' (step:=1)).imp ?_;intro a b h e;have h2:(a:Int)=(b:Int):=congrArg ai.N e;exact h (by omega)
theorem PM(act item:Int)(u:aa)(n m:Nat):(V4 act item u n m).Id=⟨act,item,(n:Int)⟩:=by rw [oD]
theorem sU{u:aa}(h:okU u=true):u.Label.length<=7/\u.Head.length<=256/\u.Words.length<=256/\u.Kids.length<=64:=by
 obtain ⟨_,_,h1,h2,h3,h4⟩:=vQ (uD h);have h5:=zD h;simp only [Wu,Bool.and_eq_true,decide_eq_true_eq] at h5;refine ⟨?_,h3.1,h4.1,h5.2⟩;by_cases h0:u.Kind=0
 .rw [(h1 h0).1];simp
 .exact vo (h2 h0)
theorem Oks.labs{u:aa}(h:Oks u):labs u:=λx hx=>by
 have:=sU (h x hx);omega
theorem Oks.sm{u:aa}(h:Oks u)(hc:cnt u<=10000):smT u:=⟨by omega,λx hx=>by
 have:=sU (h x hx);unfold Wn;omega⟩
structure Nice (u:aa):Prop where
 oks:Oks u
 few:cnt u<=10000
 nd:(ids u).Nodup
theorem Ok.nice{u:aa}(h:Ok u):Nice u:=⟨h.oks,by have:=h.hcnt;omega,h.nd⟩
theorem At.cntI{p u:aa}{d:Nat}{C:aa->aa}(h:At p d u C):cnt p<=cnt u:=by
 obtain ⟨A,B,e⟩:=h.idL;have:=e p;rw [h.plug] at this;rw [nK p,nK u,this];simp;omega
theorem Nice.sub{u x:aa}{d:Nat}{C:aa->aa}(h:Nice u)(hx:At x d u C):Nice x:=⟨h.oks.sub hx.mem,by have:=hx.cntI;have:=h.few;omega,Vo hx h.nd⟩
theorem qc{p u:aa}{d:Nat}{C:aa->aa}(h:Nice u)(hp:At p d u C):To (λn=>M.j6 n u p.Id) (p,true):=
 (J4 p.Id u h.few h.oks.labs).of (by unfold findR;rw [hp.findE h.nd])
theorem SC{u:aa}{id:ai}(h:Nice u)(hi:id ∉ ids u):To (λn=>M.j6 n u id) (az,false):=
 (J4 id u h.few h.oks.labs).of (by unfold findR;rw [Ah hi])
theorem J6{p x u:aa}{d:Nat}{D:aa->aa}{l r:List aa}(h:Nice u)(hp:At p d u D)(e:p.Kids=l++x :: r):To (λn=>M.kY n u x.Id) (p.Id,((l.length:Nat):Int),true):=
 (Pz x.Id u h.few).of (hp.parE h.nd e)
theorem SE(w:List aa)(hb:w.length<=10000):∀ (k:Nat) (out:List ai),k<=w.length->out.length+k<=20000->∃ r,To (λn=>M.bQ w n out ((k:Int)-1)) r/\r.length=out.length+k:=by
 intro k;induction k with
 | zero=>
  intro out _ _;refine ⟨out,To.succ ?_,rfl⟩;simp only [M.bQ];exact To.neg (by omega) To.pure
 | succ k ih=>
  intro out hk ho;have hx:=qD (l:=w) (i:=k) (by omega);obtain ⟨r,h1,h2⟩:=ih (out++ [w[k].Id]) (by omega) (by simp;omega);refine ⟨r,To.succ ?_,by rw [h2];simp;omega⟩;simp only [M.bQ];rw [show ((k+1:Nat):Int)-1=(k:Int) by omega];exact To.pos (by omega) (To.bindS hx (To.bindS (bu (by simp;omega)) (To.bindS (lY (by omega) (by omega)) h1)))
theorem Vp{p u:aa}{d:Nat}{C:aa->aa}(h:Nice u)(hp:At p d u C):∃ r,To (λn=>M.jL n u p.Id) r/\r.length=d:=by
 obtain ⟨w,hw,hl⟩:=hp.pathE h.nd;have hb:=w9 p.Id u w hw;have hway:=CP p.Id u h.few;rw [hw] at hway;have hf:=h.few;obtain ⟨r,h1,h2⟩:=SE w (by omega) d [] (by omega) (by simp;omega);refine ⟨r,?_,by simpa using h2⟩;simp only [M.jL];refine To.bind hway (To.bindS (lY (by simp;omega) (by simp;omega)) (To.bind ?_ To.pure));rw [show ((some w).getD []:List aa)=w from rfl,show (w.length:Int)-2=(d:Int)-1 by omega];exact h1
theorem Lf{u:aa}(h:Nice u):To (λn=>M.pM n u) (ids u):=by
 simp only [M.pM];have:=h.few;exact To.bind (Uu u [] (by simp;omega)) (To.pure.of (by simp [ids]))
theorem XM(l:List aa)(p:aa->Bool)(fs:Nat->aa->Option Bool)(hf:∀ k,k∈l->To (λn=>fs n k) (p k)):To (λn=>M.bX n l (fs n)) (l.any p):=by
 simp only [M.bX];refine To.bind (WY l p fs hf) (To.pure.of ?_);cases h:l.any p with
 | true=>simp
 | false=>simp
theorem XO(l:List ai)(f:Nat->ai->Option Bool)(p:ai->Bool)(hf:∀ x,x∈l->To (λn=>f n x) (p x)):To (λn=>M.bV n l (f n)) (l.any p):=by
 have loop:∀ (xs:List ai) (f:Nat->ai->Option Bool) (i:Nat),(∀ x,x∈xs->To (λn=>f n x) (p x))->l.drop i=xs->∃ r,To (λn=>M.aV l (f n) n (i:Int)) r/\((xs.any p=true/\ ∃ k:Nat,r= .inr (k:Int))\/(xs.any p=false/\r= .inl ())):=by
  intro xs;induction xs with
  | nil=>
   intro f i _ hx;refine ⟨.inl (),To.succ ?_,.inr ⟨rfl,rfl⟩⟩;simp only [M.aV];exact To.neg (aM hx) To.pure
  | cons x xs ih=>
   intro f i hf hx;have h1:=hf x (by simp);by_cases hp:p x=true
   .refine ⟨.inr (i:Int),To.succ ?_,.inl ⟨by simp [hp],i,rfl⟩⟩;simp only [M.aV];exact To.pos (aD hx) (To.bindS (ax hx) (To.bind h1.shift (To.pos hp To.pure)))
   .have hp':p x=false:=by simpa using hp
    obtain ⟨r,ht,hr⟩:=ih (λn=>f (n+1)) (i+1) (λy hy=>(hf y (by simp [hy])).shift) (aC hx);refine ⟨r,To.succ ?_,by simpa [hp'] using hr⟩;simp only [M.aV];rw [aP];exact To.pos (aD hx) (To.bindS (ax hx) (To.bind h1.shift (To.neg hp ht)))
 obtain ⟨r,ht,hr⟩:=loop l f 0 hf rfl;simp only [M.bV,M.ic];rcases hr with ⟨ha,k,rfl⟩ | ⟨ha,rfl⟩
 .refine To.bind (a:=(k:Int)) (To.bind ht To.pure) (To.pure.of ?_);simp [ha]
 .refine To.bind (a:=(-1:Int)) (To.bind ht To.pure) (To.pure.of ?_);simp [ha]
theorem XP(l:List af)(f:Nat->af->Option Bool)(p:af->Bool)(hf:∀ x,x∈l->To (λn=>f n x) (p x)):To (λn=>M.bC n l (f n)) (l.any p):=by
 have loop:∀ (xs:List af) (f:Nat->af->Option Bool) (i:Nat),(∀ x,x∈xs->To (λn=>f n x) (p x))->l.drop i=xs->∃ r,To (λn=>M.aQ l (f n) n (i:Int)) r/\((xs.any p=true/\ ∃ k:Nat,r= .inr (k:Int))\/(xs.any p=false/\r= .inl ())):=by
  intro xs;induction xs with
  | nil=>
   intro f i _ hx;refine ⟨.inl (),To.succ ?_,.inr ⟨rfl,rfl⟩⟩;simp only [M.aQ];exact To.neg (aM hx) To.pure
  | cons x xs ih=>
   intro f i hf hx;have h1:=hf x (by simp);by_cases hp:p x=true
   .refine ⟨.inr (i:Int),To.succ ?_,.inl ⟨by simp [hp],i,rfl⟩⟩;simp only [M.aQ];exact To.pos (aD hx) (To.bindS (ax hx) (To.bind h1.shift (To.pos hp To.pure)))
   .have hp':p x=false:=by simpa using hp
    obtain ⟨r,ht,hr⟩:=ih (λn=>f (n+1)) (i+1) (λy hy=>(hf y (by simp [hy])).shift) (aC hx);refine ⟨r,To.succ ?_,by simpa [hp'] using hr⟩;simp only [M.aQ];rw [aP];exact To.pos (aD hx) (To.bindS (ax hx) (To.bind h1.shift (To.neg hp ht)))
 obtain ⟨r,ht,hr⟩:=loop l f 0 hf rfl;simp only [M.bC,M.fI];rcases hr with ⟨ha,k,rfl⟩ | ⟨ha,rfl⟩
 .refine To.bind (a:=(k:Int)) (To.bind ht To.pure) (To.pure.of ?_);simp [ha]
 .refine To.bind (a:=(-1:Int)) (To.bind ht To.pure) (To.pure.of ?_);simp [ha]
theorem SF(l:List aa)(x:aa)(s:Str):(l.any λk=>decide (k.Kind=x.Kind) && (k.Label==s))=decide ((x.Kind,s)∈l.map keyU):=by
 rw [Bool.eq_iff_iff,List.any_eq_true];simp only [Bool.and_eq_true,decide_eq_true_eq,beq_iff_eq,List.mem_map,keyU,Prod.mk.injEq]
theorem WZ(l:List aa)(h:l.length<=100000):M.dK l=some l:=by
 simp only [M.dK];rw [bu (by simp;omega)];rfl
theorem Xc{α:Type}{l r:List α}{x y:α}:setC (l++x :: r) (l.length:Int) y=some (l++y :: r):=by
 unfold setC;rw [if_pos (by simp),Int.toNat_natCast];simp
theorem Xe{α:Type}{l r:List α}{x:α}:idx (l++x :: r) (l.length:Int)=some x:=by
 rw [lI];simp
theorem PN{α:Type}{a b:List α}{x:α}(h:(a++b).length<=100000):insC (a++b) (a.length:Int) [x]=some (a++x :: b):=by
 simp only [insC];rw [List.length_append] at h ⊢;rw [if_pos (by omega),Int.toNat_natCast];simp
theorem PO{α:Type}{l r:List α}{x:α}:delC (l++x :: r) (l.length:Int) ((l.length:Int)+1)=some (l++r):=by
 unfold delC;rw [if_pos (by simp;omega)];rw [show ((l.length:Int)+1).toNat=l.length+1 by omega,Int.toNat_natCast];simp
theorem Oks.kidsLen{u:aa}(h:Oks u):u.Kids.length<=64:=(sU (h u (fU u))).2.2.2
theorem VP(u:aa):(⟨u.Id,u.Kind,u.Label,u.Head,u.Words,u.Kids⟩:aa)=u:=by cases u;rfl
theorem WJ{p u:aa}{d:Nat}{C:aa->aa}(hp:At p d u C)(h:Nice u){y:aa}:∀ does:Nat->aa->Option aa,To (λn=>does n p) y->To (λn=>M.gu n u p.Id (does n)) (C y):=by
 induction hp with
 | @here=>
  intro does hd;refine To.succ ?_;simp only [M.gu];have hkl:=h.oks.kidsLen;refine To.pos trivial (To.bindS (WZ _ (by omega)) ?_);simp only [VP];exact To.bind (hd.shift) To.pure
 | @kid d u k C l r e hk ih=>
  intro does hd;obtain ⟨h1,h2,h3,h4⟩:=nW e h.nd hk.inId;have hkl:=h.oks.kidsLen;have hnk:∀ z∈u.Kids,Nice z:=λz hz=>by
   obtain ⟨a,b,he⟩:=List.append_of_mem hz;exact h.sub (.kid he .here)
  have loop:∀ (xs:List aa) (slf:Nat->aa->ai->(aa->Option aa)->Option aa) (does:Nat->aa->Option aa) (pre:List aa),l=pre++xs->To (λn=>slf n k p.Id (does n)) (C y)->
    To (λn=>M.jD p.Id (does n) u.Kids (slf n) n (pre.length:Int)) (l++C y :: r):=by
   intro xs;induction xs with
   | nil=>
    intro slf does pre hl hk2;rw [List.append_nil] at hl;subst hl;refine To.succ ?_;simp only [M.jD];have hi:idx u.Kids (l.length:Int)=some k:=by rw [e];exact Xe
    have hl:l.length<u.Kids.length:=by rw [e];simp
    refine To.pos (by omega) (To.bindS hi (To.bind (qc (hnk k (by rw [e];simp)) hk) (To.pos rfl (To.bind hk2.shift (To.bindS hi (To.bindS (by rw [e];exact Xc) To.pure))))))
   | cons x xs ihx=>
    intro slf does pre hl hk2;refine To.succ ?_;simp only [M.jD];have hi:idx u.Kids (pre.length:Int)=some x:=by rw [e,hl,List.append_assoc];exact Xe
    have hlt:pre.length<u.Kids.length:=by rw [e,hl];simp
    have hx:x∈l:=by rw [hl];simp
    refine To.pos (by omega) (To.bindS hi (To.bind (SC (hnk x (by rw [e];simp [hx])) (h2 x hx)) (To.neg (by simp) (To.bindS (ku (y:=1) (by omega) (by omega)) ?_))));have:=ihx (λn=>slf (n+1)) (λn=>does (n+1)) (pre++ [x]) (by rw [hl];simp) hk2.shift;simp only [List.length_append,List.length_singleton,Int.natCast_add] at this;exact this
  refine To.succ ?_;simp only [M.gu];exact To.neg h1 (To.bindS (WZ _ (by omega)) (To.bind (loop l (λn=>M.gu n) (λn=>does (n+1)) [] rfl (ih (hnk k (by rw [e];simp)) (λn=>does (n+1)) hd.shift)) To.pure))
theorem WH{p x u:aa}{d:Nat}{D:aa->aa}{l r:List aa}(h:Nice u)(hp:At p d u D)(e:p.Kids=l++x :: r):To (λn=>M.oo n u x.Id) (D (V3 p (l++r))):=by
 simp only [M.oo];have hkl:p.Kids.length<=64:=(h.oks.sub hp.mem).kidsLen;refine To.bind (J6 h hp e) (To.bind (WJ hp h (λ_ s0=>M.lM s0 ((l.length:Nat):Int)) (y:=V3 p (l++r)) ?_) To.pure);simp only [M.lM];have:l.length<=64:=by rw [e] at hkl;simp at hkl;omega
 exact To.bindS (ku (y:=1) (by omega) (by omega)) (To.bindS (by rw [e];exact PO) To.pure)
theorem WG{p x u:aa}{d:Nat}{D:aa->aa}{a b:List aa}(h:Nice u)(hp:At p d u D)(e:p.Kids=a++b):To (λn=>M.gu n u p.Id (λs0=>M.kP s0 ((a.length:Nat):Int) x)) (D (V3 p (a++x :: b))):=by
 have hkl:p.Kids.length<=64:=(h.oks.sub hp.mem).kidsLen;refine WJ hp h (λ_ s0=>M.kP s0 ((a.length:Nat):Int) x) ?_;simp only [M.kP];exact To.bindS (by rw [e];exact PN (by rw [<-e];omega)) To.pure
theorem PP(l:List aa)(k:Nat)(h:k<=l.length):(l.take k).length=k:=by rw [List.length_take];omega
structure Mid (p:aa) (l:List aa) (x:aa) (r:List aa):Prop where
 nest:nestB p.Kind x.Kind=true
 key:keyU x ∉ (l++r).map keyU
 len:(l++r).length<=63
theorem Ok.mid{u p x:aa}{d:Nat}{D:aa->aa}{l r:List aa}(h:Ok u)(hp:At p d u D)(e:p.Kids=l++x :: r):Mid p l x r:=by
 obtain ⟨h1,h2,h3⟩:=h.kidsOf hp;rw [e] at h1 h2 h3;refine ⟨(h1 x (by simp)).1,?_,by simp at h3 ⊢;omega⟩;have p1:((l++x :: r).map keyU).Perm ((x :: (l++r)).map keyU):=List.perm_middle.map _;rw [p1.nodup_iff,List.map_cons,List.nodup_cons] at h2;exact h2.1
theorem At.ins{p u:aa}{d:Nat}{D:aa->aa}{l:List aa}(h:At p d u D)(e:p.Kids=l):D (V3 p l)=u:=by rw [<-e,qE,h.plug]
theorem Lg{a b:aa}(h:V8 a=V8 b):a.Id=b.Id:=congrArg (λz=>z.Id) h
theorem M3{a b:aa}(h:V8 a=V8 b):a.Kind=b.Kind:=congrArg (λz=>z.Kind) h
theorem fD(i p:Nat)(h:i+p<=4611686018427387904):addC (i:Int) (p:Int)=some ((i+p:Nat):Int):=by
 rw [ku (by omega) (by omega)];simp
theorem nk(i:Nat)(h:i+1<=4611686018427387904):addC (i:Int) 1=some ((i+1:Nat):Int):=by
 rw [ku (by omega) (by omega)];simp
theorem bT(i:Nat):(i:Int)+1=((i+1:Nat):Int):=by simp
theorem Bz{α:Type}{l:List α}{i:Nat}(h:i<l.length):idx l (i:Int)=some l[i]:=by
 rw [lI,List.getElem?_eq_getElem h]
theorem Ba{l m:List Str}{i:Nat}(hl:i<l.length)(hm:i<m.length):l.drop i=m.drop i ↔ l[i]=m[i]/\l.drop (i+1)=m.drop (i+1):=by
 rw [List.drop_eq_getElem_cons hl,List.drop_eq_getElem_cons hm,List.cons.injEq]
theorem CV(a b:List Str)(hl:a.length=b.length):∀ (k i n:Nat),a.length-i<=k->i<=a.length->k<n->
  M.bi a b n (i:Int)=some (if a.drop i=b.drop i then .inl () else .inr false)
 | k,i,0,_,_,h=>by omega
 | k,i,n+1,hk,hi,hn=>by
  unfold M.bi;by_cases h:i<a.length
  .rw [if_pos (by omega),Bz h,Bz (show i<b.length by omega)];simp only [Option.bind_some];by_cases he:a[i]=b[i]
   .rw [if_neg (by simp [he]),bT,CV a b hl (k-1) (i+1) n (by omega) (by omega) (by omega)];simp only [Ba h (show i<b.length by omega),he,true_and]
   .rw [if_pos (by simp [he]),if_neg (by rw [Ba h (by omega)];exactλh=>he h.1)]
  .rw [if_neg (by omega),List.drop_eq_nil_of_le (by omega),List.drop_eq_nil_of_le (by omega)];simp
theorem PQ(a b:List Str)(n:Nat)(hn:a.length<n):M.dB n a b=some (decide (a=b)):=by
 unfold M.dB;by_cases h:a.length=b.length
 .have:M.bi a b n (0:Int)=some (if a=b then .inl () else .inr false):=by have:=CV a b h a.length 0 n (by omega) (by omega) hn;simpa using this
  rw [if_neg (by omega),this];by_cases he:a=b<;> simp [he]
 .rw [if_pos (by omega)];have:a≠b:=λe=>h (by rw [e]);simp [this]
def st(l part:List Str)(i:Nat):Bool:=decide (i+part.length<=l.length/\(l.take (i+part.length)).drop i=part)
theorem VQ{l part:List Str}{i:Nat}(h:st l part i=true):i+part.length<=l.length:=(of_decide_eq_true h).1
theorem VR{l part:List Str}{i:Nat}(h:st l part i=true):(l.take (i+part.length)).drop i=part:=(of_decide_eq_true h).2
def ints(ps:List Nat):List Int:=ps.map (λp:Nat=>(p:Int))
theorem gK(ps:List Nat):(ints ps).length=ps.length:=by simp [ints]
theorem eqS(a b:List Str):To (λn=>M.dB n a b) (decide (a=b)):=⟨a.length+1,λn hn=>PQ a b n (by omega)⟩
theorem zG:∀ (l:List af) (t:List Str),t.length+l.length<=100000000->M.dO l t=some (t++txts l)
 | [],t,_=>by simp [M.dO,txts]
 | x :: l,t,h=>by
  simp only [List.length_cons] at h;rw [M.dO,bu (by simp;omega),Option.bind_some,zG l _ (by simp;omega)];simp [txts]
theorem Ep(l:List af)(h:l.length<=1000000):M.lK l=some (txts l):=by
 simp only [M.lK];rw [zG l [] (by simp;omega)];rfl
theorem Er(act item:Int)(m:Nat):∀ (l:List Str) (i:Nat) (t:List af),t.length+l.length<=100000000->m+i+l.length<=100000000->M.fF act item (m:Int) l (i:Int) t=some (t++markL act item (m+i) l)
 | [],i,t,_,_=>by simp [M.fF,markL]
 | x :: l,i,t,h,h2=>by
  simp only [List.length_cons] at h h2;rw [M.fF,fD m i (by omega),Option.bind_some,bu (by simp;omega),Option.bind_some,bT,Er act item m l (i+1) _ (by simp;omega) (by omega)];simp [markL,Nat.add_assoc]
theorem J7(l:List Str)(act item:Int)(m:Nat)(h:m+l.length<=10000000):M.nC l act item (m:Int)=some (markL act item m l):=by
 simp only [M.nC];have:=Er act item m l 0 [] (by simp;omega) (by omega);rw [show (0:Int)=((0:Nat):Int) from rfl,this];rfl
theorem CW(l:List Str)(act item:Int)(m:Nat)(h:m+l.length<=10000000):To (λn=>M.pU n l act item (m:Int)) (markL act item m l):=by
 have loop:∀ (xs:List Str) (i:Nat) (t:List af),l.drop i=xs->t.length+xs.length<=100000000->i+xs.length<=10000000->To (λn=>M.jQ l act item (m:Int) n t (i:Int)) (t++markL act item (m+i) xs):=by
  intro xs;induction xs with
  | nil=>intro i t hx _ _;refine To.succ ?_;simp only [M.jQ];exact To.neg (aM hx) (To.pure.of (by simp [markL]))
  | cons x xs ih=>
   intro i t hx ht hi;simp only [List.length_cons] at ht hi;refine To.succ ?_;simp only [M.jQ];have hl:=(fT hx).1;refine To.pos (aD hx) (To.bindS (ax hx) (To.bindS (fD m i (by omega)) (To.bindS (bu (by simp;omega)) ?_)));rw [bT];exact (ih (i+1) _ (aC hx) (by simp;omega) (by omega)).of (by simp [markL,Nat.add_assoc])
 simp only [M.pU];exact To.bind (loop l 0 [] rfl (by simp;omega) (by omega)) (To.pure.of (by simp))
theorem Lh(l:List af)(h:l.length<=1000000):To (λn=>M.sP n l) (txts l):=by
 have loop:∀ (xs:List af) (i:Nat) (t:List Str),l.drop i=xs->t.length+xs.length<=100000000->i+xs.length<=1000000->To (λn=>M.ji l n t (i:Int)) (t++txts xs):=by
  intro xs;induction xs with
  | nil=>intro i t hx _ _;refine To.succ ?_;simp only [M.ji];exact To.neg (aM hx) (To.pure.of (by simp [txts]))
  | cons x xs ih=>
   intro i t hx ht hi;simp only [List.length_cons] at ht hi;refine To.succ ?_;simp only [M.ji];refine To.pos (aD hx) (To.bindS (ax hx) (To.bindS (bu (by simp;omega)) ?_));rw [bT];exact (ih (i+1) _ (aC hx) (by simp;omega) (by omega)).of (by simp [txts])
 simp only [M.sP];exact To.bind (loop l 0 [] rfl (by simp;omega) (by omega)) (To.pure.of (by simp))
theorem PR(w:List af)(row:List Str)(i:Nat)(hw:w.length<=1000000)(hr:row.length<=1000000)(hi:i<=w.length):To (λn=>M.tH n w (i:Int) row) (st (txts w) row i):=by
 have hlen:(txts w).length=w.length:=by simp [txts]
 have loop:∀ (xs:List Str) (j:Nat),row.drop j=xs->i+row.length<=w.length->To (λn=>M.iw w (i:Int) row n (j:Int)) (if ((txts w).drop (i+j)).take xs.length=xs then .inl () else .inr false):=by
  intro xs;induction xs with
  | nil=>intro j hx _;refine To.succ ?_;simp only [M.iw];exact To.neg (aM hx) (To.pure.of (by simp))
  | cons x xs ih=>
   intro j hx hb;have hl:=(fT hx).1;have hij:i+j<w.length:=by omega
   refine To.succ ?_;simp only [M.iw];refine To.pos (aD hx) (To.bindS (fD i j (by omega)) (To.bindS (Bz hij) (To.bindS (ax hx) ?_)));have hd:(txts w).drop (i+j)=w[i+j].Text :: (txts w).drop (i+(j+1)):=by
    rw [List.drop_eq_getElem_cons (by omega)];congr 1;simp [txts]
   rw [hd,List.length_cons,List.take_succ_cons];by_cases he:w[i+j].Text=x
   .refine To.neg (by simp [he]) ?_;rw [bT];refine (ih (j+1) (aC hx) hb).of ?_;simp only [List.cons.injEq,he,true_and]
   .exact To.pos (by simpa using he) (To.pure.of (by rw [if_neg];intro e;exact he (List.cons.inj e).1))
 simp only [M.tH];refine To.bindS (fD i _ (by omega)) ?_;unfold st;by_cases hb:i+row.length<=w.length
 .refine To.neg (by omega) (To.bind (loop row 0 rfl hb) ?_);rw [Nat.add_zero];have he:((txts w).take (i+row.length)).drop i=((txts w).drop i).take row.length:=by rw [List.drop_take,show i+row.length-i=row.length by omega]
  by_cases h:((txts w).drop i).take row.length=row
  .rw [if_pos h];exact To.pure.of (by rw [he,h,hlen];simp [hb])
  .rw [if_neg h];exact To.pure.of (by rw [he];simp [h])
 .exact To.pos (by omega) (To.pure.of (by rw [hlen];simp [hb]))
theorem Ia(w:List af)(part:List Str)(hw:w.length<=100000)(hp:part.length<=100000)(h0:0<part.length):∀ (k i:Nat),w.length-i<=k->i<=w.length->
  ∃ ps,Sp part.length w.length i ps/\ps.length<=w.length-i/\(∀ out:List Int,out.length+w.length<=200000+i->To (λn=>M.bW (txts w) part n out (i:Int)) (out++ints ps))/\(∀ out:List Int,out.length+w.length<=200000+i->To (λn=>M.eD w part n out (i:Int)) (out++ints ps)):=by
 have hlen:(txts w).length=w.length:=by simp [txts]
 intro k;induction k with
 | zero=>
  intro i hk hi;refine ⟨[],hi,by simp,λout ho=>To.succ ?_,λout ho=>To.succ ?_⟩
  .simp only [M.bW];exact To.bindS (fD i _ (by omega)) (To.neg (by omega) (To.pure.of (by simp [ints])))
  .simp only [M.eD];exact To.neg (by omega) (To.pure.of (by simp [ints]))
 | succ k ih=>
  intro i hk hi;by_cases hlt:i<w.length
  .have hbeg:=PR w part i (by omega) (by omega) hi;cases hs:st (txts w) part i with
   | true=>
    have hle:=VQ hs;rw [hlen] at hle;obtain ⟨ps,h1,h2,h3,h4⟩:=ih (i+part.length) (by omega) (by omega);refine ⟨i :: ps,⟨Nat.le_refl _,h1⟩,by simp;omega,λout ho=>To.succ ?_,λout ho=>To.succ ?_⟩
    .simp only [M.bW];have e1:appC out [(i:Int)]=some (out++ [(i:Int)]):=bu (by simp;omega);refine To.bindS (fD i _ (by omega)) (To.pos (by omega) (To.bindS (fD i _ (by omega)) (To.bindS (xn _ i _ (by omega) (by omega)) (To.bind (a:=true) ((eqS (((txts w).take (i+part.length)).drop i) part).of (by rw [VR hs];simp)) (To.neg (by simp) (To.bindS e1 (To.bindS (fD i _ (by omega)) ?_)))))));exact (h3 (out++ [(i:Int)]) (by simp;omega)).of (by simp [ints])
    .simp only [M.eD];have e1:appC out [(i:Int)]=some (out++ [(i:Int)]):=bu (by simp;omega);rw [hs] at hbeg;refine To.pos (by omega) (To.bind hbeg (To.pos rfl (To.bindS e1 (To.bindS (fD i _ (by omega)) ?_))));exact (h4 (out++ [(i:Int)]) (by simp;omega)).of (by simp [ints])
   | false=>
    obtain ⟨ps,h1,h2,h3,h4⟩:=ih (i+1) (by omega) (by omega);have hsp:Sp part.length w.length i ps:=by
     cases ps with
     | nil=>exact hi
     | cons p ps=>exact ⟨by have:=h1.1;omega,h1.2⟩
    refine ⟨ps,hsp,by omega,λout ho=>To.succ ?_,λout ho=>To.succ ?_⟩
    .simp only [M.bW];by_cases hle:i+part.length<=w.length
     .have hne:¬ ((txts w).take (i+part.length)).drop i=part:=λe=>by
       have:st (txts w) part i=true:=by unfold st;rw [decide_eq_true_iff];exact ⟨by omega,e⟩
       rw [this] at hs;cases hs
      refine To.bindS (fD i _ (by omega)) (To.pos (by omega) (To.bindS (fD i _ (by omega)) (To.bindS (xn _ i _ (by omega) (by omega)) (To.bind (a:=false) ((eqS (((txts w).take (i+part.length)).drop i) part).of (by simp [hne])) (To.pos rfl (To.bindS (nk i (by omega)) ?_))))));exact h3 out (by omega)
     .have hps:ps= []:=by
       cases ps with
       | nil=>rfl
       | cons p ps=>have:=h1.2.le;have:=h1.1;omega
      exact To.bindS (fD i _ (by omega)) (To.neg (by omega) (To.pure.of (by simp [ints,hps])))
    .simp only [M.eD];rw [hs] at hbeg;refine To.pos (by omega) (To.bind hbeg (To.neg (by simp) ?_));rw [bT];exact h4 out (by omega)
  .refine ⟨[],hi,by simp,λout ho=>To.succ ?_,λout ho=>To.succ ?_⟩
   .simp only [M.bW];exact To.bindS (fD i _ (by omega)) (To.neg (by omega) (To.pure.of (by simp [ints])))
   .simp only [M.eD];exact To.neg (by omega) (To.pure.of (by simp [ints]))
theorem Ib(act item:Int)(w:List af)(gone:Nat)(new:List Str):∀ (ps:List Nat) (i:Nat),(Ws act item w gone new ps i).length<=w.length+ps.length*new.length
 | [],i=>by simp [Ws]
 | p :: ps,i=>by
  have:=Ib act item w gone new ps (i+1);rw [Ws,List.length_append,List.length_append,List.length_take,List.length_drop,ni,List.length_cons,Nat.add_mul];omega
theorem Sp.drop{gone n:Nat}:∀ (k:Nat) {ps:List Nat} {fr:Nat},Sp gone n fr ps->Sp gone n fr (ps.drop k)
 | 0,ps,fr,h=>h
 | k+1,[],fr,h=>h
 | k+1,p :: ps,fr,h=>by
  have:Sp gone n fr ps:=by
   have h2:=h.2;have h1:=h.1;cases ps with
   | nil=>have:p+gone<=n:=h2;show fr<=n;omega
   | cons q qs=>exact ⟨by have:=h2.1;omega,h2.2⟩
  exact Sp.drop k this
theorem Sp.tl{gone n p:Nat}{ps:List Nat}{fr:Nat}(h:Sp gone n fr (p :: ps)):Sp gone n fr ps:=h.drop 1
theorem M4(act item:Int)(w:List af)(gone:Nat)(new:List Str)(ps:List Nat)(hs:Sp gone w.length 0 ps)(hw:w.length<=1000)(hn:new.length<=1000)(hps:ps.length<=1000)(hg:gone<=1000):∀ k,k<=ps.length->
  To (λn=>M.iD (ints ps) (gone:Int) new act item n (Ws act item w gone new (ps.drop k) k) ((k:Int)-1)) (Ws act item w gone new ps 0):=by
 intro k;induction k with
 | zero=>
  intro _;refine To.succ ?_;simp only [M.iD];exact To.neg (by omega) To.pure
 | succ k ih=>
  intro hk;have hlt:k<ps.length:=by omega
  have hd:ps.drop k=ps[k] :: ps.drop (k+1):=List.drop_eq_getElem_cons hlt;have hsp:=hs.drop k;rw [hd] at hsp;have hbk:=Fj act item w gone new (ps.drop (k+1)) (ps[k]+gone) (k+1) hsp.2;have hle:=hsp.2.le;generalize ho:Ws act item w gone new (ps.drop (k+1)) (k+1)=out at hbk;have hol:ps[k]+gone<=out.length:=by
   have:=congrArg List.length (hbk.1 (ps[k]+gone) (Nat.le_refl _));rw [List.length_take,List.length_take] at this;omega
  have hbl:=Ib act item w gone new (ps.drop (k+1)) (k+1);rw [ho] at hbl;have hm1:(ps.drop (k+1)).length*new.length<=1000*1000:=Nat.mul_le_mul (by rw [List.length_drop];omega) hn;have hm2:k*new.length<=1000*1000:=Nat.mul_le_mul (by omega) hn;have hi:idx (ints ps) (k:Int)=some ((ps[k]:Nat):Int):=by rw [lI];simp [ints,hlt]
  refine To.succ ?_;simp only [M.iD];rw [show ((k+1:Nat):Int)-1=(k:Int) by omega];refine To.pos (by omega) (To.bindS hi (To.bindS (fD _ _ (by omega)) ?_));refine To.bindS (a:=out.drop (ps[k]+gone)) (by unfold slcLo;rw [if_pos (by omega),Int.toNat_natCast]) ?_;refine To.bindS (a:=out.take ps[k]) (by unfold slcHi;rw [if_pos (by omega),Int.toNat_natCast]) ?_;have hm3:mulC (k:Int) (new.length:Int)=some ((k*new.length:Nat):Int):=by
   have hc:(k:Int)*(new.length:Int)=((k*new.length:Nat):Int):=by simp
   rw [Kh (by rw [hc];omega) (by rw [hc];omega),hc]
  refine To.bindS hm3 ?_;refine To.bindS (J7 new act item _ (by omega)) ?_;refine To.bindS (bu (by rw [List.length_take,ni];omega)) ?_;refine To.bindS (bu (by rw [List.length_append,List.length_take,List.length_drop,ni];omega)) ?_;refine To.bindS (lY (by omega) (by omega)) ?_;have:=ih (by omega);rw [hd,Ws,ho] at this;rw [List.append_assoc];exact this
theorem PS(act item:Int)(w:List af)(gone:Nat)(new:List Str)(ps:List Nat)(hs:Sp gone w.length 0 ps)(hw:w.length<=1000)(hn:new.length<=1000)(hps:ps.length<=1000)(hg:gone<=1000) :
  To (λn=>M.nu n w (ints ps) (gone:Int) new act item) (if 256<(editL act item w gone new ps 0 0).length then ([],6) else (editL act item w gone new ps 0 0,0)):=by
 simp only [M.nu];refine To.bindS (a:=List.replicate w.length sK) (by unfold makeC;rw [if_pos (by omega)];simp) (To.bindS (a:=w) (by unfold copyC;rw [if_pos (by simp)]) (To.bindS (lY (by rw [gK];omega) (by rw [gK];omega)) ?_));have:=M4 act item w gone new ps hs hw hn hps hg ps.length (Nat.le_refl _);rw [List.drop_length,M0 act item w gone new ps hs] at this;rw [gK];refine To.bind this ?_;by_cases h:256<(editL act item w gone new ps 0 0).length
 .rw [if_pos h];exact To.pos (by omega) To.pure
 .rw [if_neg h];exact To.neg (by omega) To.pure
def sel(nth:Int):List Nat->Nat->List Nat
 | [],_=>[]
 | p :: ps,i=>if nth≠0/\nth≠(i:Int)+1 then sel nth ps (i+1) else p :: sel nth ps (i+1)
theorem Fp:∀ (ps:List Nat) (i:Nat),sel 0 ps i=ps
 | [],_=>rfl
 | p :: ps,i=>by rw [sel,if_neg (by simp),Fp ps]
theorem Ic(nth:Int):∀ (ps:List Nat) (i:Nat),nth≠0->nth<=i->sel nth ps i= []
 | [],_,_,_=>rfl
 | p :: ps,i,h,k=>by rw [sel,if_pos ⟨h,by omega⟩,Ic nth ps _ h (by omega)]
theorem BA(k:Nat):∀ (ps:List Nat) (i:Nat),i<=k->sel ((k:Int)+1) ps i=(ps.take (k+1-i)).drop (k-i)
 | [],i,h=>by simp [sel]
 | p :: ps,i,h=>by
  rw [sel];by_cases e:i=k
  .subst e;rw [if_neg (by omega),Ic _ ps _ (by omega) (by omega)];simp [show i+1-i=1 by omega]
  .rw [if_pos (by omega),BA k ps (i+1) (by omega),show k+1-i=(k+1-(i+1))+1 by omega,show k-i=(k-(i+1))+1 by omega,List.take_succ_cons,List.drop_succ_cons]
theorem Fq{gone n:Nat}(nth:Int):∀ (ps:List Nat) (i fr:Nat),Sp gone n fr ps->Sp gone n fr (sel nth ps i)
 | [],i,fr,h=>h
 | p :: ps,i,fr,h=>by
  rw [sel];split
  .exact Fq nth ps (i+1) fr (h.tl)
  .exact ⟨h.1,Fq nth ps (i+1) _ h.2⟩
theorem Fs(nth:Int):∀ (ps:List Nat) (i:Nat),(sel nth ps i).length<=ps.length
 | [],i=>by simp [sel]
 | p :: ps,i=>by
  have:=Fs nth ps (i+1);rw [sel];split<;> simp<;> omega
theorem Ie(w:List af)(part:List Str)(nth:Int)(ps:List Nat)(hw:w.length<=1000000)(hps:ps.length<=1000000)(h0:0<=nth)(h:To (λn=>M.lN n (txts w) part) (ints ps)) :
  To (λn=>M.mM n w part nth) (ints (sel nth ps 0)):=by
 simp only [M.mM];refine To.bindS (Ep w hw) (To.bind h ?_);by_cases h1:nth=0
 .refine To.pos h1 (To.pure.of ?_);rw [h1,Fp]
 .refine To.neg h1 ?_;obtain ⟨k,hk⟩:∃ k:Nat,nth=(k:Int)+1:=⟨(nth-1).toNat,by omega⟩
  rw [gK];have hs:=BA k ps 0 (by omega);rw [<-hk] at hs;rw [hs];by_cases h2:(ps.length:Int)< nth
  .refine To.pos h2 (To.pure.of ?_);rw [List.drop_eq_nil_of_le (by rw [List.length_take];omega)];rfl
  .refine To.neg h2 (To.bindS (lY (by omega) (by omega)) (To.bindS (a:=ints ((ps.take (k+1-0)).drop (k-0))) ?_ To.pure));rw [hk,show (k:Int)+1-1=(k:Int) by omega,bT,xn _ _ _ (by omega) (by rw [gK];omega)];simp [ints,List.map_drop,List.map_take]
theorem Ig(part:List Str)(qs:List Int)(hp:part.length<=1000000):∀ (xs pre:List Nat),qs.length=pre.length+xs.length->(∀ x∈xs,x<=1000000)->pre.length+xs.length<=1000000->
  To (λn=>M.dG part qs n (ints (pre.map (· +part.length)++xs)) (pre.length:Int)) (ints ((pre++xs).map (· +part.length)))
 | [],pre,hq,_,_=>by
  refine To.succ ?_;simp only [M.dG];exact To.neg (by simp at hq;omega) (To.pure.of (by simp))
 | x :: xs,pre,hq,hx,hb=>by
  simp only [List.length_cons] at hq hb;refine To.succ ?_;simp only [M.dG];have e:ints (pre.map (· +part.length)++x :: xs)=ints (pre.map (· +part.length))++((x:Nat):Int) :: ints xs:=by simp [ints]
  have hl:(ints (pre.map (· +part.length))).length=pre.length:=by simp [ints]
  have hi:idx (ints (pre.map (· +part.length)++x :: xs)) (pre.length:Int)=some ((x:Nat):Int):=by rw [e,<-hl];exact Xe
  have hset:setC (ints (pre.map (· +part.length)++x :: xs)) (pre.length:Int) ((x+part.length:Nat):Int)=some (ints ((pre++ [x]).map (· +part.length)++xs)):=by
   rw [e,<-hl,Xc];simp [ints]
  have hx0:=hx x (by simp);refine To.pos (by omega) (To.bindS hi (To.bindS (fD x part.length (by omega)) (To.bindS hi (To.bindS hset (To.bindS (nk _ (by omega)) ?_)))));have:=Ig part qs hp xs (pre++ [x]) (by simp;omega) (λy hy=>hx y (by simp [hy])) (by simp;omega);simp only [List.length_append,List.length_singleton,List.append_assoc,List.singleton_append] at this;exact this
theorem M5(w:List af)(it:ag)(act item:Int)(ps:List Nat)(hw:w.length<=1000)(ho:it.Old.length<=1000)(hn:it.New.length<=1000)(hk:it.Kind=2\/it.Kind=3):∀ (xs:List Nat) (i fr m:Nat) (acc:List af),ps.drop i=xs->Sp it.Old.length w.length fr xs->m+xs.length*it.New.length<=1000000->acc.length+xs.length*3000<=90000000->i+xs.length<=1000000->
  ∃ acc2 fr2,To (λn=>M.fK w it act item (ints ps) n acc (fr:Int) (m:Int) (i:Int)) (acc2,((fr2:Nat):Int))/\fr2<=w.length/\acc2.length<=100000000/\
   acc2++w.drop fr2=acc++(if it.Kind=3 then editL act item w 0 it.New ((sel it.Nth xs i).map (· +it.Old.length)) fr m else editL act item w it.Old.length it.New (sel it.Nth xs i) fr m):=by
 intro xs;induction xs with
 | nil=>
  intro i fr m acc hx hs hm ha hi;refine ⟨acc,fr,To.succ ?_,hs,by omega,by simp [sel,editL]⟩;simp only [M.fK];have:=aM hx;exact To.neg (by rw [gK];exact this) To.pure
 | cons p xs ih=>
  intro i fr m acc hx hs hm ha hi;have hlt:=(fT hx).1;have hpi:ps[i]? =some p:=(fT hx).2.1;simp only [List.length_cons] at hm ha hi;rw [Nat.add_mul] at hm;have ha:acc.length+xs.length*3000+3000<=90000000:=by omega
  have hix:idx (ints ps) (i:Int)=some ((p:Nat):Int):=by rw [lI];simp [ints,hpi]
  have hle:=hs.2.le;have hf:=hs.1;by_cases hskip:it.Nth≠0/\it.Nth≠(i:Int)+1
  .have hm2:m+xs.length*it.New.length<=1000000:=by omega
   have ha2:acc.length+xs.length*3000<=90000000:=Nat.le_trans (Nat.le_add_right _ 3000) ha;have hi2:i+1+xs.length<=1000000:=by omega
   obtain ⟨acc2,fr2,h1,h2,h3,h4⟩:=ih (i+1) fr m acc (aC hx) hs.tl hm2 ha2 hi2;refine ⟨acc2,fr2,To.succ ?_,h2,h3,by rw [h4,sel,if_pos hskip]⟩;simp only [M.fK];refine To.pos (by rw [gK];omega) (To.bind (a:=true) (To.pos hskip.1 (To.pure.of (by simpa using hskip.2))) (To.pos rfl ?_));rw [bT];exact h1
  .have hb:To (λ_=>if it.Nth≠0 then some (decide (it.Nth≠(i:Int)+1)) else some false) false:=by
    by_cases h0:it.Nth=0
    .exact To.neg (by simpa using h0) To.pure
    .exact To.pos h0 (To.pure.of (by rw [decide_eq_false_iff_not];intro h;exact hskip ⟨h0,h⟩))
   have hml:=ni act item it.New m;have hmk:To (λn=>M.pU n it.New act item (m:Int)) (markL act item m it.New):=CW _ _ _ _ (by omega);rw [sel,if_neg hskip];rcases hk with hk | hk
   .have hacc:(acc++(w.take p).drop fr++markL act item m it.New).length<=acc.length+3000:=by simp only [List.length_append,List.length_drop,List.length_take,hml];omega
    obtain ⟨acc2,fr2,h1,h2,h3,h4⟩:=ih (i+1) (p+it.Old.length) (m+it.New.length) (acc++(w.take p).drop fr++markL act item m it.New) (aC hx) hs.2 (by omega) (by omega) (by omega);refine ⟨acc2,fr2,To.succ ?_,h2,h3,?_⟩
    .simp only [M.fK];refine To.pos (by rw [gK];omega) (To.bind hb (To.neg (by simp) (To.bindS hix (To.bindS (xn _ _ _ hf (by omega)) (To.bindS (bu (by simp only [List.length_append,List.length_drop,List.length_take];omega)) (To.bindS hix (To.bindS (fD _ _ (by omega)) (To.bind (To.neg (by omega) To.pure) (To.bind hmk (To.bindS (bu (by simp only [List.length_append,List.length_drop,List.length_take,hml];omega)) (To.bindS (fD _ _ (by omega)) ?_)))))))))));rw [bT];exact h1
    .rw [h4,if_neg (by omega),if_neg (by omega),editL];simp
   .have htk:(w.take (p+it.Old.length)).drop fr=(w.take p).drop fr++(w.take (p+it.Old.length)).drop p:=by
     have e1:(w.take (p+it.Old.length)).take p=w.take p:=by rw [List.take_take];congr 1;omega
     have e2:=List.take_append_drop p (w.take (p+it.Old.length));rw [e1] at e2
     conv=>lhs;rw [<-e2]
     rw [List.drop_append_of_le_length (by rw [List.length_take];omega)]
    have hacc:(acc++(w.take p).drop fr++(w.take (p+it.Old.length)).drop p++markL act item m it.New).length<=acc.length+3000:=by simp only [List.length_append,List.length_drop,List.length_take,hml];omega
    obtain ⟨acc2,fr2,h1,h2,h3,h4⟩:=ih (i+1) (p+it.Old.length) (m+it.New.length) (acc++(w.take p).drop fr++(w.take (p+it.Old.length)).drop p++markL act item m it.New) (aC hx) hs.2 (by omega) (by omega) (by omega);refine ⟨acc2,fr2,To.succ ?_,h2,h3,?_⟩
    .simp only [M.fK];refine To.pos (by rw [gK];omega) (To.bind hb (To.neg (by simp) (To.bindS hix (To.bindS (xn _ _ _ hf (by omega)) (To.bindS (bu (by simp only [List.length_append,List.length_drop,List.length_take];omega)) (To.bindS hix (To.bindS (fD _ _ (by omega)) (To.bind (To.pos hk (To.bindS hix (To.bindS (xn _ _ _ (by omega) (by omega)) (To.bindS (bu (by simp only [List.length_append,List.length_drop,List.length_take];omega)) To.pure)))) (To.bind hmk (To.bindS (bu (by simp only [List.length_append,List.length_drop,List.length_take,hml];omega)) (To.bindS (fD _ _ (by omega)) ?_)))))))))));rw [bT];exact h1
    .rw [h4,if_pos hk,if_pos hk,List.map_cons,editL,htk];simp
theorem CX(w:List af)(part:List Str)(hw:w.length<=1000)(hp:part.length<=1000)(h0:0<part.length) :
  ∃ ps,Sp part.length w.length 0 ps/\ps.length<=1000/\To (λn=>M.lN n (txts w) part) (ints ps)/\To (λn=>M.qi n w part) (ints ps):=by
 obtain ⟨ps,h1,h2,h3,h4⟩:=Ia w part (by omega) (by omega) h0 w.length 0 (by omega) (by omega);refine ⟨ps,h1,by omega,?_,?_⟩
 .simp only [M.lN];exact To.neg (by omega) (To.bind (h3 [] (by simp;omega)) (To.pure.of (by simp)))
 .simp only [M.qi];exact To.bind (h4 [] (by simp;omega)) (To.pure.of (by simp))
theorem PT{k n:Nat}:∀ (ps:List Nat) (fr:Nat),Sp k n fr ps->Sp 0 n fr (ps.map (· +k))
 | [],fr,h=>h
 | p :: ps,fr,h=>⟨by have:=h.1;show fr<=p+k;omega,PT ps _ h.2⟩
theorem Uw{k n:Nat}:∀ (ps:List Nat) (fr:Nat),Sp k n fr ps->∀ p∈ps,p+k<=n
 | p :: ps,fr,h,q,hq=>by
  rcases List.mem_cons.1 hq with rfl | hq
  .exact h.2.le
  .exact Uw ps _ h.2 q hq
def Both(w:List af)(new:List Str)(f g:Nat->Option (List af×Int)):Prop:=
 ∃ r s,To f r/\To g s/\((r.2≠0/\s.2≠0)\/(r=s/\r.2=0/\r.1.length<=256/\ ∀ x∈r.1,x∈w\/x.Text∈new))
theorem PU(w:List af)(it:ag)(act item:Int)(ps:List Nat)(hw:w.length<=300)(ho:it.Old.length<=300)(hn:it.New.length<=300)(hk:it.Kind=2\/it.Kind=3)(h0:0<it.Old.length)(h1:Sp it.Old.length w.length 0 ps)(hps:ps.length<=1000)
  (hpl:To (λn=>M.qi n w it.Old) (ints ps)) (hne:sel it.Nth ps 0≠ []) (hnn:0<=it.Nth) (l:List af)
  (hl:(if it.Kind=3 then editL act item w 0 it.New ((sel it.Nth ps 0).map (· +it.Old.length)) 0 0 else editL act item w it.Old.length it.New (sel it.Nth ps 0) 0 0)=l):To (λn=>M.o6 n w it act item) (if 256<l.length then ([],6) else (l,0)):=by
 have hm:ps.length*it.New.length<=1000*300:=Nat.mul_le_mul hps hn;obtain ⟨acc2,fr2,e1,e2,e3,e4⟩:=M5 w it act item ps (by omega) (by omega) (by omega) hk ps 0 0 0 [] rfl h1 (by omega) (by simp;omega) (by omega);rw [hl,List.nil_append] at e4;simp only [M.o6];refine To.bind (a:=false) (To.ite (λ_=>To.pure.of (by rw [decide_eq_false_iff_not];omega)) λ_=>To.pure) (To.neg (by simp) (To.bind hpl ?_));rw [gK];have hlen:¬ ((ps.length:Int)=0)/\ ¬ ((ps.length:Int)< it.Nth):=by
  constructor
  .intro h;apply hne;rw [show ps= [] from List.eq_nil_of_length_eq_zero (by omega)];rfl
  .intro h;apply hne;obtain ⟨k,hk⟩:∃ k:Nat,it.Nth=(k:Int)+1:=⟨(it.Nth-1).toNat,by omega⟩
   rw [hk,BA k ps 0 (by omega)];exact List.drop_eq_nil_of_le (by rw [List.length_take];omega)
 refine To.bind (a:=false) (To.neg hlen.1 (To.pure.of (by rw [decide_eq_false_iff_not];exact hlen.2))) (To.neg (by simp) (To.bind e1 (To.bindS (a:=w.drop fr2) (by unfold slcLo;rw [if_pos (by omega),Int.toNat_natCast]) (To.bindS (a:=l) ?_ ?_))))
 .rw [bu (by show acc2.length+_<=_;rw [List.length_drop];omega),e4]
 .by_cases h:256<l.length
  .exact To.pos (by omega) (To.pure.of (by simp [h]))
  .exact To.neg (by omega) (To.pure.of (by simp [h]))
theorem Es(w:List af)(it:ag)(act item:Int)(ps:List Nat)(hps:ps.length<=1000)(h0:0<it.Old.length)(hpl:To (λn=>M.qi n w it.Old) (ints ps))(hne:sel it.Nth ps 0= [])(hnn:0<=it.Nth):To (λn=>M.o6 n w it act item) ([],4):=by
 simp only [M.o6];refine To.bind (a:=false) (To.ite (λ_=>To.pure.of (by rw [decide_eq_false_iff_not];omega)) λ_=>To.pure) (To.neg (by simp) (To.bind hpl ?_));rw [gK];have hb:To (λ_:Nat=>if (ps.length:Int)=(0:Int) then some true else some (decide ((ps.length:Int)< it.Nth))) true:=by
  by_cases h:(ps.length:Int)=0
  .exact To.pos h To.pure
  .refine To.neg h (To.pure.of ?_);rw [decide_eq_true_eq];by_cases hz:it.Nth=0
   .rw [hz,Fp] at hne;rw [hne] at h;simp at h
   .obtain ⟨k,hk⟩:∃ k:Nat,it.Nth=(k:Int)+1:=⟨(it.Nth-1).toNat,by omega⟩
    rw [hk,BA k ps 0 (by omega)] at hne;have:=congrArg List.length hne;rw [List.length_drop,List.length_take,List.length_nil] at this;omega
 exact To.bind hb (To.pos rfl To.pure)
theorem Ih(act item:Int)(w:List af)(gone:Nat)(new:List Str)(ps:List Nat):∀ x∈editL act item w gone new ps 0 0,x∈w\/x.Text∈new:=Eo act item w gone new ps 0 0
theorem Fu{w:List af}{new:List Str}{f g:Nat->Option (List af×Int)}{l:List af}(hf:To f (if 256<l.length then ([],6) else (l,0)))(hg:To g (if 256<l.length then ([],6) else (l,0)))(hm:∀ x∈l,x∈w\/x.Text∈new):Both w new f g:=by
 refine ⟨_,_,hf,hg,?_⟩;by_cases h:256<l.length
 .rw [if_pos h];exact .inl ⟨by simp,by simp⟩
 .rw [if_neg h];exact .inr ⟨rfl,rfl,by show l.length<=256;omega,hm⟩
theorem Fv(w:List af)(it:ag)(act item:Int)(hw:w.length<=256)(ho:it.Old.length<=256)(hn:it.New.length<=256)(hk:it.Kind=2)(h0:0<it.Old.length)(hnn:0<=it.Nth) :
  Both w it.New (λn=>M.kT n w it.Old it.New it.Nth act item) (λn=>M.o6 n w it act item):=by
 obtain ⟨ps,h1,h2,h3,h4⟩:=CX w it.Old (by omega) (by omega) h0;have hpl:=Ie w it.Old it.Nth ps (by omega) (by omega) hnn h3;by_cases hne:sel it.Nth ps 0= []
 .refine ⟨([],4),([],4),?_,Es w it act item ps h2 h0 h4 hne hnn,.inl ⟨by simp,by simp⟩⟩;simp only [M.kT];rw [hne] at hpl;exact To.bind (a:=false) (To.neg (by omega) (To.pure.of (by rw [decide_eq_false_iff_not];omega))) (To.neg (by simp) (To.bind hpl (To.pos rfl To.pure)))
 .have hr:=PU w it act item ps (by omega) (by omega) (by omega) (.inl hk) h0 h1 h2 h4 hne hnn _ (if_neg (by omega));refine Fu (l:=editL act item w it.Old.length it.New (sel it.Nth ps 0) 0 0) ?_ hr (Ih _ _ _ _ _ _);simp only [M.kT];have hl:¬ ((ints (sel it.Nth ps 0)).length:Int)=0:=by rw [gK];intro h;exact hne (List.eq_nil_of_length_eq_zero (by omega))
  have hsl:=Fs it.Nth ps 0;exact To.bind (a:=false) (To.neg (by omega) (To.pure.of (by rw [decide_eq_false_iff_not];omega))) (To.neg (by simp) (To.bind hpl (To.neg hl (To.bind (PS act item w it.Old.length it.New _ (Fq _ _ _ _ h1) (by omega) (by omega) (by omega) (by omega)) To.pure))))
theorem Ii(w:List af)(it:ag)(act item:Int)(hw:w.length<=256)(ho:it.Old.length<=256)(hn:it.New.length<=256)(hn0:0<it.New.length)(hk:it.Kind=3)(hnn:0<=it.Nth)(h00:it.Old.length=0->it.Nth=0) :
  Both w it.New (λn=>M.eX n w it.Old it.New it.Nth act item) (λn=>M.o6 n w it act item):=by
 have hb:To (λ_:Nat=>if (it.New.length:Int)=(0:Int) then some true else if it.Nth<(0:Int) then some true else if (it.Old.length:Int)=(0:Int) then some (decide (it.Nth≠(0:Int))) else some false) false:=by
  refine To.neg (by omega) (To.neg (by omega) (To.ite (λh=>To.pure.of ?_) λ_=>To.pure));rw [h00 (by omega)];rfl
 by_cases h0:it.Old.length=0
 .refine Fu (l:=markL act item 0 it.New++w) ?_ ?_ λx hx=>?_
  .simp only [M.eX];have:=PS act item w 0 it.New [0] ⟨Nat.zero_le _,by show 0+0<=w.length;omega⟩ (by omega) (by omega) (by simp) (by omega);rw [show editL act item w 0 it.New [0] 0 0=markL act item 0 it.New++w by simp [editL]] at this;exact To.bind hb (To.neg (by simp) (To.pos (by omega) (To.bind this To.pure)))
  .simp only [M.o6];have hm:=CW it.New act item 0 (by omega);have hl:=ni act item it.New 0;refine To.bind (a:=true) (To.pos hk (To.pure.of (by rw [decide_eq_true_eq];omega))) (To.pos rfl (To.bind hm (To.bindS (bu (by omega)) ?_)));by_cases h:256<(markL act item 0 it.New++w).length
   .rw [if_pos h];exact To.pos (by omega) To.pure
   .rw [if_neg h];exact To.neg (by omega) To.pure
  .rcases List.mem_append.1 hx with hx | hx
   .exact .inr (yS _ _ _ _ _ hx)
   .exact .inl hx
 .have h0:0<it.Old.length:=by omega
  obtain ⟨ps,h1,h2,h3,h4⟩:=CX w it.Old (by omega) (by omega) h0;have hpl:=Ie w it.Old it.Nth ps (by omega) (by omega) hnn h3;have hsl:=Fs it.Nth ps 0;have hcl:M.gI (ints (sel it.Nth ps 0))=some (ints (sel it.Nth ps 0)):=by
   simp only [M.gI];rw [bu (by rw [gK];simp;omega)];rfl
  by_cases hne:sel it.Nth ps 0= []
  .refine ⟨([],4),([],4),?_,Es w it act item ps h2 h0 h4 hne hnn,.inl ⟨by simp,by simp⟩⟩;simp only [M.eX];rw [hne] at hpl hcl;exact To.bind hb (To.neg (by simp) (To.neg (by omega) (To.bind hpl (To.bindS hcl (To.pos rfl To.pure)))))
  .have hr:=PU w it act item ps (by omega) (by omega) (by omega) (.inr hk) h0 h1 h2 h4 hne hnn _ (if_pos hk);have hsp:=Fq it.Nth ps 0 0 h1;refine Fu (l:=editL act item w 0 it.New ((sel it.Nth ps 0).map (· +it.Old.length)) 0 0) ?_ hr (Ih _ _ _ _ _ _);simp only [M.eX];have hl:¬ ((ints (sel it.Nth ps 0)).length:Int)=0:=by rw [gK];intro h;exact hne (List.eq_nil_of_length_eq_zero (by omega))
   have hil:=Ig it.Old (ints (sel it.Nth ps 0)) (by omega) (sel it.Nth ps 0) [] (by rw [gK];simp) (λx hx=>by have:=Uw _ _ hsp x hx;omega) (by simp;omega);have hput:=PS act item w 0 it.New _ (PT _ _ hsp) (by omega) (by omega) (by rw [List.length_map];omega) (by omega);exact To.bind hb (To.neg (by simp) (To.neg (by omega) (To.bind hpl (To.bindS hcl (To.neg hl (To.bind hil (To.bind hput To.pure)))))))
theorem Ux(s:au)(w:List af)(m:Nat)(hm:s.word_=(m:Int))(h:m+w.length<=1000000):M.jX s w=some (markL s.act_ s.item_ m (txts w),{s with word_:=((m+w.length:Nat):Int)}):=by
 have hl:(txts w).length=w.length:=by simp [txts]
 simp only [M.jX];rw [Ep w (by omega),Option.bind_some,hm,J7 _ _ _ _ (by omega),Option.bind_some,ni,hl,fD m _ (by omega),Option.bind_some]
theorem Li(u:aa):Oks u->wcnt u<=cnt u*512:=by
 refine Wd (P:=λu=>Oks u->wcnt u<=cnt u*512) ?_ u;intro u ih ho;obtain ⟨h1,h2,h3,h4⟩:=sU (ho u (fU u));rw [zF,lH,Nat.add_mul];have:∀ l:List aa,(∀ k∈l,wcnt k<=cnt k*512)->(l.map wcnt).sum<=(l.map cnt).sum*512:=by
  intro l;induction l with
  | nil=>intro _;simp
  | cons k l ihl=>
   intro h;have h1:=h k (by simp);have h2:=ihl λk hk=>h k (by simp [hk]);rw [List.map_cons,List.sum_cons,List.map_cons,List.sum_cons,Nat.add_mul];omega
 have:=this u.Kids λk hk=>ih k hk (((rD u).1 ho).2 k hk);omega
theorem SG(u:aa):Oks u->cnt u<=10000->∀ (act item:Int) (n m:Nat),n+cnt u<=100000->m+wcnt u<=1000000->To (λf=>M.dI f ⟨act,item,(n:Int),(m:Int)⟩ u) (V4 act item u (n+1) m,⟨act,item,((n+cnt u:Nat):Int),((m+wcnt u:Nat):Int)⟩):=by
 refine Wd (P:=λu=>Oks u->cnt u<=10000->∀ (act item:Int) (n m:Nat),n+cnt u<=100000->m+wcnt u<=1000000->To (λf=>M.dI f ⟨act,item,(n:Int),(m:Int)⟩ u) (V4 act item u (n+1) m,⟨act,item,((n+cnt u:Nat):Int),((m+wcnt u:Nat):Int)⟩)) ?_ u;intro u ih ho hc act item n m hn hm;obtain ⟨h1,h2,h3,h4⟩:=sU (ho u (fU u));rw [zF] at hm;rw [lH] at hn;have loop:∀ (xs:List aa) (slf:Nat->au->aa->Option (aa×au)) (pre:List aa) (n m:Nat),pre.length+xs.length=u.Kids.length->n+(xs.map cnt).sum<=100000->m+(xs.map wcnt).sum<=1000000->
   (∀ k∈xs,∀ n m:Nat,n+cnt k<=100000->m+wcnt k<=1000000->To (λf=>slf f ⟨act,item,(n:Int),(m:Int)⟩ k) (V4 act item k (n+1) m,⟨act,item,((n+cnt k:Nat):Int),((m+wcnt k:Nat):Int)⟩))->
   To (λf=>M.dA u.Kids (slf f) f (pre++xs) (pre.length:Int) ⟨act,item,(n:Int),(m:Int)⟩) (pre++stampK act item xs (n+1) m,⟨act,item,((n+(xs.map cnt).sum:Nat):Int),((m+(xs.map wcnt).sum:Nat):Int)⟩):=by
  intro xs;induction xs with
  | nil=>
   intro slf pre n m hl _ _ _;simp only [List.length_nil] at hl;refine To.succ ?_;simp only [M.dA];exact To.neg (by omega) (To.pure.of (by simp [stampK]))
  | cons x xs ihx=>
   intro slf pre n m hl hn hm hs;simp only [List.map_cons,List.sum_cons,List.length_cons] at hn hm hl;have h5:=hs x (by simp) n m (by omega) (by omega);have hi:idx (pre++x :: xs) (pre.length:Int)=some x:=Xe;have hset:setC (pre++x :: xs) (pre.length:Int) (V4 act item x (n+1) m)=some (pre++V4 act item x (n+1) m :: xs):=Xc;refine To.succ ?_;simp only [M.dA];refine To.pos (by omega) (To.bindS hi (To.bind h5.shift (To.bindS hi (To.bindS hset (To.bindS (nk _ (by omega)) ?_)))));have:=ihx (λf=>slf (f+1)) (pre++ [V4 act item x (n+1) m]) (n+cnt x) (m+wcnt x) (by simp;omega) (by omega) (by omega) λk hk n m a b=>(hs k (by simp [hk]) n m a b).shift;simp only [List.length_append,List.length_singleton,List.append_assoc,List.singleton_append] at this;refine this.of ?_;rw [stampK,List.map_cons,List.map_cons,List.sum_cons,List.sum_cons,Nat.add_right_comm,<-Nat.add_assoc,<-Nat.add_assoc]
 refine To.succ ?_;simp only [M.dI];refine To.bindS (nk n (by omega)) ?_;refine To.bindS (Ux _ _ m rfl (by show m+u.Head.length<=_;omega)) ?_;refine To.bindS (Ux _ _ (m+u.Head.length) rfl (by show m+u.Head.length+u.Words.length<=_;omega)) ?_;refine To.bindS (a:=List.replicate u.Kids.length az) (by unfold makeC;rw [if_pos (by omega)];simp) (To.bindS (a:=u.Kids) (by unfold copyC;rw [if_pos (by simp)]) ?_);have:=loop u.Kids (λf=>M.dI f) [] (n+1) (m+u.Head.length+u.Words.length) (by simp) (by omega) (by omega) λk hk n m a b=>ih k hk (((rD u).1 ho).2 k hk) (by have:=jW hk;omega) act item n m a b;refine To.bind this (To.pure.of ?_);have e1:n+(1+(u.Kids.map cnt).sum)=n+1+(u.Kids.map cnt).sum:=by omega
 have e2:m+(u.Head.length+u.Words.length+(u.Kids.map wcnt).sum)=m+u.Head.length+u.Words.length+(u.Kids.map wcnt).sum:=by omega
 rw [oD,lH u,zF u,e1,e2];rfl
theorem PV{u:aa}(ho:Oks u)(hc:cnt u<=1024)(act item:Int):To (λf=>M.pJ f u act item) (V4 act item u 1 0):=by
 simp only [M.pJ];refine To.bind (SG u ho (by omega) act item 0 0 (by omega) ?_) To.pure;have:=Li u ho;omega
theorem SH(u:aa):Oks u->cnt u<=10000->∀ (act item:Int) (n m:Nat),n+cnt u<=100000->m+wcnt u<=1000000->To (λf=>M.qB f u act item (n:Int) (m:Int)) (V4 act item u n m,((n+cnt u:Nat):Int),((m+wcnt u:Nat):Int)):=by
 refine Wd (P:=λu=>Oks u->cnt u<=10000->∀ (act item:Int) (n m:Nat),n+cnt u<=100000->m+wcnt u<=1000000->To (λf=>M.qB f u act item (n:Int) (m:Int)) (V4 act item u n m,((n+cnt u:Nat):Int),((m+wcnt u:Nat):Int))) ?_ u;intro u ih ho hc act item n m hn hm;obtain ⟨h1,h2,h3,h4⟩:=sU (ho u (fU u));rw [zF] at hm;rw [lH] at hn;have loop:∀ (n0:Int) (mark mark1:List af) (xs:List aa) (slf:Nat->aa->Int->Int->Int->Int->Option (aa×Int×Int)) (i:Nat) (out:List aa) (n m:Nat),u.Kids.drop i=xs->out.length+xs.length<=1000->n+(xs.map cnt).sum<=100000->m+(xs.map wcnt).sum<=1000000->
   (∀ k∈xs,∀ n m:Nat,n+cnt k<=100000->m+wcnt k<=1000000->To (λf=>slf f k act item (n:Int) (m:Int)) (V4 act item k n m,((n+cnt k:Nat):Int),((m+wcnt k:Nat):Int)))->
   To (λf=>M.jk u act item n0 mark mark1 (slf f) f (n:Int) (m:Int) out (i:Int)) (((n+(xs.map cnt).sum:Nat):Int),((m+(xs.map wcnt).sum:Nat):Int),out++stampK act item xs n m):=by
  intro n0 mark mark1 xs;induction xs with
  | nil=>
   intro slf i out n m hx _ _ _ _;refine To.succ ?_;simp only [M.jk];exact To.neg (aM hx) (To.pure.of (by simp [stampK]))
  | cons x xs ihx=>
   intro slf i out n m hx hl hn hm hs;simp only [List.map_cons,List.sum_cons,List.length_cons] at hn hm hl;have h5:=hs x (by simp) n m (by omega) (by omega);refine To.succ ?_;simp only [M.jk];refine To.pos (aD hx) (To.bindS (ax hx) (To.bind h5.shift (To.bindS (bu (by simp;omega)) ?_)));rw [bT];refine (ihx (λf=>slf (f+1)) (i+1) (out++ [V4 act item x n m]) (n+cnt x) (m+wcnt x) (aC hx) (by simp;omega) (by omega) (by omega) λk hk n m a b=>(hs k (by simp [hk]) n m a b).shift).of ?_;rw [stampK,List.map_cons,List.map_cons,List.sum_cons,List.sum_cons,<-Nat.add_assoc,<-Nat.add_assoc];simp
 have hl1:(markL act item m (txts u.Head)).length=u.Head.length:=by rw [ni];simp [txts]
 have hl2:(markL act item (m+u.Head.length) (txts u.Words)).length=u.Words.length:=by rw [ni];simp [txts]
 refine To.succ ?_;simp only [M.qB];refine To.bindS (nk n (by omega)) ?_;refine To.bind (Lh u.Head (by omega)) (To.bind (CW _ _ _ _ (by simp [txts];omega)) (To.bindS (a:=((m+u.Head.length:Nat):Int)) (by rw [hl1];exact fD m _ (by omega)) ?_));refine To.bind (Lh u.Words (by omega)) (To.bind (CW _ _ _ _ (by simp [txts];omega)) (To.bindS (a:=((m+u.Head.length+u.Words.length:Nat):Int)) (by rw [hl2];exact fD _ _ (by omega)) ?_));have:=loop (n:Int) (markL act item m (txts u.Head)) (markL act item (m+u.Head.length) (txts u.Words)) u.Kids (λf=>M.qB f) 0 [] (n+1) (m+u.Head.length+u.Words.length) rfl (by simp;omega) (by omega) (by omega) λk hk n m a b=>ih k hk (((rD u).1 ho).2 k hk) (by have:=jW hk;omega) act item n m a b;refine To.bind this (To.pure.of ?_);have e1:n+(1+(u.Kids.map cnt).sum)=n+1+(u.Kids.map cnt).sum:=by omega
 have e2:m+(u.Head.length+u.Words.length+(u.Kids.map wcnt).sum)=m+u.Head.length+u.Words.length+(u.Kids.map wcnt).sum:=by omega
 rw [oD,lH u,zF u,e1,e2];rfl
theorem PW{u:aa}(ho:Oks u)(hc:cnt u<=1024)(act item:Int):To (λf=>M.ve f u act item) (V4 act item u 1 0):=by
 simp only [M.ve];have:=Li u ho;exact To.bind (SH u ho (by omega) act item 1 0 (by omega) (by omega)) To.pure
end Go.Proofs.YtobcmdhemlennaaGreatDoor
