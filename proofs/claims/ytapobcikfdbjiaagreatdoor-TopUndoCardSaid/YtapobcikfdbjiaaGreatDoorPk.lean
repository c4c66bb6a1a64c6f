import Derived.Test.YtapobcikfdbjiaaGreatDoorPe
/- Plain law. -/
set_option linter.unusedVariables false
set_option linter.unusedSimpArgs false
namespace Go.Proofs.YtapobcikfdbjiaaGreatDoor
open Go Go.Dec
def ids(u:aa):List ai:=(desc u).map aa.Id
theorem qH(u:aa):ids u=u.Id :: u.Kids.flatMap ids:=by
 unfold ids;rw [fH];simp [List.map_flatMap]
theorem kR(u:aa):cnt u=(ids u).length:=by simp [cnt,ids]
theorem uG{u:aa}{i:ai}:i∈ids u ↔ ∃ x∈desc u,x.Id=i:=by simp [ids]
theorem nJ(u:aa):u.Id∈ids u:=by rw [qH];simp
def WO(u:aa)(l:List aa):aa:={u with Kids:=l}
theorem rX(u:aa):WO u u.Kids=u:=by cases u;rfl
theorem nX(u:aa)(l m:List aa):WO (WO u l) m=WO u m:=rfl
theorem jK(u:aa)(l:List aa):(WO u l).Kids=l:=rfl
theorem MH(u:aa)(l:List aa):(WO u l).Id=u.Id:=rfl
theorem DU(u:aa)(l:List aa):ids (WO u l)=u.Id :: l.flatMap ids:=qH _
inductive At (p:aa):Nat->aa->(aa->aa)->Prop
 | here:At p 0 p (fun y=>y)
 | kid {d:Nat} {u k:aa} {C:aa->aa} {l r:List aa}:u.Kids=l++k :: r->At p d k C->At p (d+1) u (fun y=>WO u (l++C y :: r))
theorem At.plug{p u:aa}{d:Nat}{C:aa->aa}(h:At p d u C):C p=u:=by
 induction h with
 | here=>rfl
 | kid e _ ih=>show WO _ _=_;rw [ih,<-e,rX]
theorem At.re{p u:aa}{d:Nat}{C:aa->aa}(h:At p d u C)(y:aa):At y d (C y) C:=by
 induction h with
 | here=>exact .here
 | @kid d u k C l r e _ ih=>exact At.kid (u:=WO u (l++C y :: r)) rfl ih
theorem At.zO{x u:aa}(h:x∈desc u):∃ d C,At x d u C:=by
 refine uind (P:=fun u=>x∈desc u->∃ d C,At x d u C) ?_ u h;intro u ih h;rw [fH] at h;rcases List.mem_cons.1 h with rfl | h
 ·exact ⟨0,_,.here⟩
 ·obtain ⟨k,hk,hx⟩:=List.mem_flatMap.1 h;obtain ⟨d,C,hc⟩:=ih k hk hx;obtain ⟨l,r,e⟩:=List.append_of_mem hk;exact ⟨d+1,_,.kid e hc⟩
theorem At.mem{p u:aa}{d:Nat}{C:aa->aa}(h:At p d u C):p∈desc u:=by
 induction h with
 | here=>exact fC _
 | kid e _ ih=>exact nG (by rw [e];simp) ih
theorem At.step{p u x:aa}{d:Nat}{C:aa->aa}{l r:List aa}(h:At p d u C)(e:p.Kids=l++x :: r):At x (d+1) u (fun y=>C (WO p (l++y :: r))):=by
 induction h with
 | here=>exact .kid e .here
 | kid e2 _ ih=>exact .kid e2 ih
theorem At.up{x:aa}:∀ {d:Nat} {u:aa} {C:aa->aa},At x (d+1) u C->∃ p l r D,p.Kids=l++x :: r/\At p d u D/\C=fun y=>D (WO p (l++y :: r)):=by
 intro d;induction d with
 | zero=>
  intro u C h;cases h with
  | kid e h=>
   cases h;exact ⟨u,_,_,_,e,.here,rfl⟩
 | succ d ih=>
  intro u C h;cases h with
  | kid e h=>
   obtain ⟨p,l,r,D,e2,h2,rfl⟩:=ih h;exact ⟨p,l,r,_,e2,.kid e h2,rfl⟩
theorem At.zero{x u:aa}{C:aa->aa}(h:At x 0 u C):x=u/\C=fun y=>y:=by
 cases h;exact ⟨rfl,rfl⟩
theorem At.idL{p u:aa}{d:Nat}{C:aa->aa}(h:At p d u C):∃ A B,∀ y,ids (C y)=A++ids y++B:=by
 induction h with
 | here=>exact ⟨[],[],fun y=>by simp⟩
 | @kid d u k C l r e _ ih=>
  obtain ⟨A,B,h⟩:=ih;exact ⟨u.Id :: l.flatMap ids++A,B++r.flatMap ids,fun y=>by rw [DU];simp [h]⟩
theorem At.dpI{p u:aa}{d:Nat}{C:aa->aa}(h:At p d u C)(y:aa):∀ n,dp u<=n->d+dp y<=n->dp (C y)<=n:=by
 induction h with
 | here=>intro n h1 h2;show dp y<=n;omega
 | @kid d u k C l r e _ ih=>
  intro n h1 h2;rw [BQ,e] at h1;refine (BQ _ _).2 fun z hz=>?_;rw [jK] at hz;have hk:=h1 k (by simp);rcases List.mem_append.1 hz with hz | hz
  ·exact h1 z (by simp [hz])
  rcases List.mem_cons.1 hz with rfl | hz
  ·have:=ih (n-1) (by omega) (by omega);omega
  ·exact h1 z (by simp [hz])
theorem At.dpO{p u:aa}{d:Nat}{C:aa->aa}(h:At p d u C):d+dp p<=dp u:=by
 induction h with
 | here=>omega
 | @kid d u k C l r e _ ih=>
  have:=(BQ u (dp u)).1 (Nat.le_refl _) k (by rw [e];simp);omega
def WT(u:aa):aa:=WO u []
theorem At.root{p u:aa}{d:Nat}{C:aa->aa}(h:At p (d+1) u C)(y:aa):WT (C y)=WT u:=by
 cases h with
 | kid e h=>rfl
theorem At.keyE{p u:aa}{d:Nat}{C:aa->aa}(h:At p d u C){y:aa}(e:keyU y=keyU p):keyU (C y)=keyU u:=by
 cases h with
 | here=>exact e
 | kid _ _=>rfl
theorem yO(u:aa):kidB u=(((u.Kids.map keyU).all fun k=>nestB u.Kind k.1) && decide ((u.Kids.map keyU).Nodup) && decide ((u.Kids.map keyU).length<=64)):=by
 unfold kidB;rw [List.all_map,List.length_map];rfl
theorem Qt(u:aa){l:List aa}(e:l.map keyU=u.Kids.map keyU):okU (WO u l)=okU u:=by
 unfold okU;rw [yO,yO u];show (aloB u && _)=_;rw [jK,e];rfl
def Oks(u:aa):Prop:=∀ z∈desc u,okU z=true
theorem EX{u x:aa}(h:x∈desc u):∀ y,y∈desc x->y∈desc u:=by
 refine uind (P:=fun u=>∀ x,x∈desc u->∀ y,y∈desc x->y∈desc u) ?_ u x h;intro u ih x h y hy;rw [fH] at h;rcases List.mem_cons.1 h with rfl | h
 ·exact hy
 ·obtain ⟨k,hk,hx⟩:=List.mem_flatMap.1 h;exact nG hk (ih k hk x hx y hy)
theorem yl{u x k:aa}(h:x∈desc u)(hk:k∈x.Kids):k∈desc u:=EX h _ (nG hk (fC k))
theorem Oks.sub{u x:aa}(h:Oks u)(hx:x∈desc u):Oks x:=fun z hz=>h z (EX hx z hz)
theorem DV{u:aa}{l:List aa}:Oks (WO u l) ↔ okU (WO u l)=true/\ ∀ k∈l,Oks k:=by
 unfold Oks;rw [fH,jK];constructor
 ·intro h;exact ⟨h _ (by simp),fun k hk z hz=>h z (List.mem_cons_of_mem _ (List.mem_flatMap.2 ⟨k,hk,hz⟩))⟩
 ·rintro ⟨h1,h2⟩ z hz;rcases List.mem_cons.1 hz with rfl | hz
  ·exact h1
  ·obtain ⟨k,hk,hz⟩:=List.mem_flatMap.1 hz;exact h2 k hk z hz
theorem rz(u:aa):Oks u ↔ okU u=true/\ ∀ k∈u.Kids,Oks k:=by
 have:=@DV u u.Kids;rwa [rX] at this
theorem At.oks{p u:aa}{d:Nat}{C:aa->aa}(h:At p d u C){y:aa}(hu:Oks u)(e:keyU y=keyU p)(hy:Oks y):Oks (C y):=by
 induction h with
 | here=>exact hy
 | @kid d u k C l r he hk ih=>
  obtain ⟨h1,h2⟩:=(rz u).1 hu;refine DV.2 ⟨?_,fun z hz=>?_⟩
  ·rw [Qt,h1];rw [he];simp [hk.keyE e]
  ·rcases List.mem_append.1 hz with hz | hz
   ·exact h2 z (by rw [he];simp [hz])
   rcases List.mem_cons.1 hz with rfl | hz
   ·exact ih (h2 k (by rw [he];simp))
   ·exact h2 z (by rw [he];simp [hz])
theorem V5{p u:aa}{d:Nat}{C:aa->aa}(h:At p d u C)(hn:(ids u).Nodup):(ids p).Nodup:=by
 obtain ⟨A,B,e⟩:=h.idL;have:=e p;rw [h.plug] at this;rw [this] at hn;exact (List.nodup_append.1 (List.nodup_append.1 hn).1).2.1
theorem nK{u k:aa}{l r:List aa}(e:u.Kids=l++k :: r)(hn:(ids u).Nodup){i:ai}(hi:i∈ids k):u.Id≠i/\(∀ z∈l,i ∉ ids z)/\(∀ z∈r,i ∉ ids z)/\(ids k).Nodup:=by
 rw [qH,e] at hn;simp only [List.flatMap_append,List.flatMap_cons,List.nodup_cons,List.nodup_append,List.mem_append,List.mem_flatMap] at hn;obtain ⟨h1,h2,⟨h3,h4,h5⟩,h6⟩:=hn;refine ⟨fun e=>h1 (.inr (.inl (e▸hi))),fun z hz hm=>?_,fun z hz hm=>?_,h3⟩
 ·exact h6 i ⟨z,hz,hm⟩ i (.inl hi) rfl
 ·exact h5 i hi i ⟨z,hz,hm⟩ rfl
theorem At.inId{p u:aa}{d:Nat}{C:aa->aa}(h:At p d u C):p.Id∈ids u:=uG.2 ⟨p,h.mem,rfl⟩
def upd(id:ai)(f:aa->aa)(u:aa):aa:=if u.Id=id then f u else WO u (u.Kids.attach.map (fun k=>upd id f k.1))
termination_by SizeOf.sizeOf u
decreasing_by exact xe k.2
theorem F9(id:ai)(f:aa->aa)(u:aa):upd id f u=if u.Id=id then f u else WO u (u.Kids.map (upd id f)):=by
 rw [upd,F4 (upd id f)]
theorem Qu(id:ai)(f:aa->aa)(u:aa):id ∉ ids u->upd id f u=u:=by
 refine uind (P:=fun u=>id ∉ ids u->upd id f u=u) ?_ u;intro u ih h;rw [qH] at h;simp only [List.mem_cons,not_or,List.mem_flatMap,not_exists,not_and] at h;rw [F9,if_neg (fun e=>h.1 e.symm)];rw [show u.Kids.map (upd id f)=u.Kids from (List.map_congr_left (fun k hk=>ih k hk (h.2 k hk))).trans (List.map_id _),rX]
theorem map_none{id:ai}{f:aa->aa}{l:List aa}(h:∀ z∈l,id ∉ ids z):l.map (upd id f)=l:=
 (List.map_congr_left (fun k hk=>Qu id f k (h k hk))).trans (List.map_id _)
theorem At.updE{p u:aa}{d:Nat}{C:aa->aa}(h:At p d u C)(hn:(ids u).Nodup)(f:aa->aa):upd p.Id f u=C (f p):=by
 induction h with
 | here=>rw [F9,if_pos rfl]
 | @kid d u k C l r e hk ih=>
  obtain ⟨h1,h2,h3,h4⟩:=nK e hn hk.inId;rw [F9,if_neg h1,e,List.map_append,List.map_cons,map_none h2,map_none h3,ih h4]
theorem Bu{id:ai}{u:aa}:id ∉ ids u->WY id u=none:=by
 refine uind (P:=fun u=>id ∉ ids u->WY id u=none) ?_ u;intro u ih h;rw [qH] at h;simp only [List.mem_cons,not_or,List.mem_flatMap,not_exists,not_and] at h;rw [wM,if_neg (fun e=>h.1 e.symm)];exact List.findSome?_eq_none_iff.2 fun k hk=>ih k hk (h.2 k hk)
theorem At.findE{p u:aa}{d:Nat}{C:aa->aa}(h:At p d u C)(hn:(ids u).Nodup):WY p.Id u=some p:=by
 induction h with
 | here=>rw [wM,if_pos rfl]
 | @kid d u k C l r e hk ih=>
  obtain ⟨h1,h2,h3,h4⟩:=nK e hn hk.inId;rw [wM,if_neg h1,e,List.findSome?_append,List.findSome?_cons,ih h4,List.findSome?_eq_none_iff.2 fun z hz=>Bu (h2 z hz)];rfl
theorem xh{id:ai}{u:aa}:id ∉ ids u->WP id u=none:=by
 refine uind (P:=fun u=>id ∉ ids u->WP id u=none) ?_ u;intro u ih h;rw [qH] at h;simp only [List.mem_cons,not_or,List.mem_flatMap,not_exists,not_and] at h;rw [nI,if_neg (fun e=>h.1 e.symm),List.findSome?_eq_none_iff.2 fun k hk=>ih k hk (h.2 k hk)];rfl
theorem At.pathE{p u:aa}{d:Nat}{C:aa->aa}(h:At p d u C)(hn:(ids u).Nodup):∃ w,WP p.Id u=some w/\w.length=d+1:=by
 induction h with
 | here=>exact ⟨[p],by rw [nI,if_pos rfl],rfl⟩
 | @kid d u k C l r e hk ih=>
  obtain ⟨h1,h2,h3,h4⟩:=nK e hn hk.inId;obtain ⟨w,hw,hl⟩:=ih h4;refine ⟨u :: w,?_,by simp [hl]⟩;rw [nI,if_neg h1,e,List.findSome?_append,List.findSome?_cons,hw,List.findSome?_eq_none_iff.2 fun z hz=>xh (h2 z hz)];rfl
theorem NV{id:ai}{k:aa}{l r:List aa}(h:∀ z∈l,id ∉ ids z)(hk:(WP id k).isSome=true):placeK id (l++k :: r)=l.length:=by
 unfold placeK;rw [List.findIdx_append];have:¬ l.findIdx (fun k=>(WP id k).isSome)< l.length:=by
  intro hlt;have:=List.findIdx_getElem (w:=hlt);rw [xh (h _ (List.getElem_mem hlt))] at this;cases this
 rw [if_neg this,List.findIdx_cons,hk];simp
theorem At.parE{p u x:aa}{d:Nat}{C:aa->aa}{l r:List aa}(h:At p d u C)(hn:(ids u).Nodup)(e:p.Kids=l++x :: r):Xb x.Id u=(p.Id,((l.length:Nat):Int),true):=by
 unfold Xb;induction h with
 | here=>
  obtain ⟨h1,h2,h3,h4⟩:=nK e hn (nJ x);rw [nI,if_neg h1,e,List.findSome?_append,List.findSome?_cons,List.findSome?_eq_none_iff.2 fun z hz=>xh (h2 z hz),nI,if_pos rfl];show Xq x.Id [p,x]=_;show (p.Id,((placeK x.Id p.Kids:Nat):Int),true)=_;rw [e,NV h2 (by rw [nI,if_pos rfl];rfl)]
 | @kid d u k C l0 r0 e0 hk ih=>
  have hs:=hk.step e;obtain ⟨h1,h2,h3,h4⟩:=nK e0 hn hs.inId;obtain ⟨w,hw,hl⟩:=hs.pathE h4;have ih:=ih h4;rw [hw] at ih;rw [nI,if_neg h1,e0,List.findSome?_append,List.findSome?_cons,hw,List.findSome?_eq_none_iff.2 fun z hz=>xh (h2 z hz)];show Xq x.Id (u :: w)=_;rw [EU _ _ _ (by omega)];exact ih
structure Ok (u:aa):Prop where
 oks:Oks u
 hdp:dp u<=8
 hcnt:cnt u<=1024
 nd:(ids u).Nodup
 kind:u.Kind=0
 root:u.Id=aF
theorem u7{p u x:aa}{d:Nat}{D:aa->aa}(h:At p d u D)(a b:List aa):(ids (D (WO p (a++x :: b)))).Perm (ids x++ids (D (WO p (a++b)))):=by
 obtain ⟨A,B,e⟩:=h.idL;rw [e,e,DU,DU];simp only [List.flatMap_append,List.flatMap_cons,List.append_assoc,List.cons_append];have:∀ P Q R S:List ai,(P++(Q++(R++S))).Perm (Q++(P++(R++S))):=fun P Q R S=>by
  rw [<-List.append_assoc P Q,<-List.append_assoc Q P];exact (List.perm_append_comm (l₁:=P) (l₂:=Q)).append_right _
 have h2:=this (A++p.Id :: a.flatMap ids) (ids x) (b.flatMap ids) B;simpa using h2
theorem Ok.inner{u x:aa}{d:Nat}{C:aa->aa}(h:Ok u)(hx:At x (d+1) u C):x.Kind≠0/\x.Id≠aF/\okU x=true:=by
 have hid:x.Id≠aF:=fun hi=>by
  cases hx with
  | kid e0 hk=>exact (nK e0 h.nd hk.inId).1 (h.root.trans hi.symm)
 obtain ⟨p,l,r,D,e,hp,rfl⟩:=hx.up;refine ⟨fun hk=>?_,hid,h.oks x hx.mem⟩
 ·have:=h.oks p hp.mem;simp only [okU,kidB,Bool.and_eq_true,List.all_eq_true] at this;have:=this.2.1.1 x (by rw [e];simp);rw [hk,F3] at this;cases this
theorem uP{u:aa}(h:u.Kind≠0):aloB u=(decide (1<=u.Kind) && decide (u.Kind<=7) && sF u.Label && rowB u.Head && rowB u.Words):=by unfold aloB;rw [if_neg h]
theorem sD{u:aa}(h:okU u=true):aloB u=true:=by simp only [okU,Bool.and_eq_true] at h;exact h.1
theorem AL{u:aa}(h:okU u=true):kidB u=true:=by simp only [okU,Bool.and_eq_true] at h;exact h.2
theorem MI{u v:aa}(h:u.Kids=v.Kids):dp u=dp v:=by rw [yg,yg,h]
theorem I1{u v:aa}(h:u.Kids=v.Kids)(hi:u.Id=v.Id):ids u=ids v:=by rw [qH,qH,h,hi]
theorem Ok.plug{u x y:aa}{d:Nat}{C:aa->aa}(h:Ok u)(hx:At x (d+1) u C)(hk:keyU y=keyU x)(hi:y.Id=x.Id)(hl:y.Kids=x.Kids)(ha:aloB y=true):Ok (C y):=by
 have hxx:=h.inner hx;have hr:=hx.root y;have he:ids (C y)=ids u:=by
  obtain ⟨A,B,e⟩:=hx.idL;have e1:=e x;rw [hx.plug] at e1;rw [e,e1,I1 hl hi]
 refine ⟨hx.oks h.oks hk ?_,hx.dpI y 8 h.hdp ?_,?_,?_,?_,?_⟩
 ·refine (rz y).2 ⟨?_,fun k hk=>?_⟩
  ·have h1:kidB y=kidB x:=by have:y.Kind=x.Kind:=congrArg Prod.fst hk;unfold kidB;rw [hl,this]
   rw [okU,ha,h1,AL hxx.2.2];rfl
  ·rw [hl] at hk;exact h.oks.sub (yl hx.mem hk)
 ·rw [MI hl];exact Nat.le_trans hx.dpO h.hdp
 ·rw [kR,he,<-kR];exact h.hcnt
 ·rw [he];exact h.nd
 ·have:(WT (C y)).Kind=(WT u).Kind:=by rw [hr]
  exact this.trans h.kind
 ·have:(WT (C y)).Id=(WT u).Id:=by rw [hr]
  exact this.trans h.root
theorem Ok.words{u x:aa}{d:Nat}{C:aa->aa}(h:Ok u)(hx:At x (d+1) u C){w:List af}(hw:rowB w=true):Ok (C {x with Words:=w}):=by
 have hxx:=h.inner hx;refine h.plug hx rfl rfl rfl ?_;have:=sD hxx.2.2;rw [uP hxx.1] at this;rw [uP (u:={x with Words:=w}) hxx.1];simp only [Bool.and_eq_true] at this ⊢;exact ⟨this.1,hw⟩
theorem Ok.head{u x:aa}{d:Nat}{C:aa->aa}(h:Ok u)(hx:At x (d+1) u C){w:List af}(hw:rowB w=true):Ok (C {x with Head:=w}):=by
 have hxx:=h.inner hx;refine h.plug hx rfl rfl rfl ?_;have:=sD hxx.2.2;rw [uP hxx.1] at this;rw [uP (u:={x with Head:=w}) hxx.1];simp only [Bool.and_eq_true] at this ⊢;exact ⟨⟨this.1.1,hw⟩,this.2⟩
theorem Ok.kids{u p:aa}{d:Nat}{D:aa->aa}(h:Ok u)(hp:At p d u D){l:List aa}
  (h1:∀ k∈l,nestB p.Kind k.Kind=true/\Oks k/\d+1+dp k<=8) (h2:(l.map keyU).Nodup) (h3:l.length<=64) (h4:(ids (D (WO p l))).Nodup) (h5:cnt (D (WO p l))<=1024):Ok (D (WO p l)):=by
 have hok:=h.oks p hp.mem;refine ⟨hp.oks h.oks rfl (DV.2 ⟨?_,fun k hk=>(h1 k hk).2.1⟩),hp.dpI _ 8 h.hdp ?_,h5,h4,?_,?_⟩
 ·rw [okU,show aloB (WO p l)=aloB p from rfl,sD hok,kidB,jK];simp only [Bool.true_and,Bool.and_eq_true,List.all_eq_true,decide_eq_true_eq];exact ⟨⟨fun k hk=>(h1 k hk).1,h2⟩,h3⟩
 ·have:=hp.dpO;have h8:=h.hdp;have:dp (WO p l)<=8-d:=(BQ _ _).2 fun k hk=>by
   have:=(h1 k hk).2.2;omega
  omega
 ·have:=h.kind;cases hp with
  | here=>exact this
  | kid _ _=>exact this
 ·have:=h.root;cases hp with
  | here=>exact this
  | kid _ _=>exact this
theorem Ok.kidsOf{u p:aa}{d:Nat}{D:aa->aa}(h:Ok u)(hp:At p d u D):(∀ k∈p.Kids,nestB p.Kind k.Kind=true/\Oks k/\d+1+dp k<=8)/\(p.Kids.map keyU).Nodup/\p.Kids.length<=64:=by
 have hok:=AL (h.oks p hp.mem);simp only [kidB,Bool.and_eq_true,List.all_eq_true,decide_eq_true_eq] at hok;refine ⟨fun k hk=>⟨hok.1.1 k hk,h.oks.sub (yl hp.mem hk),?_⟩,hok.1.2,hok.2⟩;obtain ⟨l,r,e⟩:=List.append_of_mem hk;have:=(hp.step e).dpO;have:=h.hdp;omega
theorem Ok.del{u p x:aa}{d:Nat}{D:aa->aa}{l r:List aa}(h:Ok u)(hp:At p d u D)(e:p.Kids=l++x :: r):Ok (D (WO p (l++r))):=by
 obtain ⟨h1,h2,h3⟩:=h.kidsOf hp;have hs:(l++r).Sublist p.Kids:=by rw [e];exact (List.Sublist.refl l).append (List.sublist_cons_self _ _)
 have hper:=u7 (x:=x) hp l r;have hu:D (WO p (l++x :: r))=u:=by rw [<-e,rX,hp.plug]
 rw [hu] at hper;have hn:=hper.nodup_iff.1 h.nd;refine h.kids hp (fun k hk=>h1 k (hs.subset hk)) (h2.sublist (hs.map _)) (Nat.le_trans hs.length_le h3) (List.nodup_append.1 hn).2.1 ?_;have:=hper.length_eq;rw [List.length_append,<-kR,<-kR,<-kR] at this;have:=h.hcnt;omega
theorem Ok.ins{u p x:aa}{d:Nat}{D:aa->aa}{a b:List aa}(h:Ok u)(hp:At p d u D)(e:p.Kids=a++b)(hx:Oks x)(hk:nestB p.Kind x.Kind=true)(ht:keyU x ∉ p.Kids.map keyU)(hl:p.Kids.length<64)
  (hd:d+1+dp x<=8) (hc:cnt u+cnt x<=1024) (hi:(ids x).Nodup) (hj:∀ i∈ids x,i ∉ ids u):Ok (D (WO p (a++x :: b))):=by
 obtain ⟨h1,h2,h3⟩:=h.kidsOf hp;have hper:=u7 (x:=x) hp a b;have hu:D (WO p (a++b))=u:=by rw [<-e,rX,hp.plug]
 rw [hu] at hper;rw [e] at h1 h2 h3 ht hl;refine h.kids hp (fun k hk2=>?_) ?_ ?_ ?_ ?_
 ·rcases List.mem_append.1 hk2 with hz | hz
  ·exact h1 k (by simp [hz])
  rcases List.mem_cons.1 hz with rfl | hz
  ·exact ⟨hk,hx,hd⟩
  ·exact h1 k (by simp [hz])
 ·have:((a++x :: b).map keyU).Perm ((x :: (a++b)).map keyU):=List.perm_middle.map _;rw [this.nodup_iff,List.map_cons,List.nodup_cons];exact ⟨ht,h2⟩
 ·simp at hl ⊢;omega
 ·rw [hper.nodup_iff,List.nodup_append];exact ⟨hi,h.nd,fun a ha b hb he=>hj a ha (he▸hb)⟩
 ·have:=hper.length_eq;rw [List.length_append,<-kR,<-kR,<-kR] at this;omega
theorem Ok.label{u p x:aa}{d:Nat}{D:aa->aa}{l r:List aa}(h:Ok u)(hp:At p d u D)(e:p.Kids=l++x :: r){s:Str}(hs:sF s=true)(ht:(x.Kind,s) ∉ p.Kids.map keyU):Ok (D (WO p (l++ {x with Label:=s} :: r))):=by
 obtain ⟨h1,h2,h3⟩:=h.kidsOf hp;have hx:=h.inner (hp.step e);have hper:=u7 (x:=x) hp l r;have hper2:=u7 (x:={x with Label:=s}) hp l r;have hu:D (WO p (l++x :: r))=u:=by rw [<-e,rX,hp.plug]
 rw [hu] at hper;rw [show ids {x with Label:=s}=ids x from I1 rfl rfl] at hper2;have hper3:=hper2.trans hper.symm;rw [e] at h1 h2 h3 ht;refine h.kids hp (fun k hk=>?_) ?_ ?_ (hper3.nodup_iff.2 h.nd) ?_
 ·rcases List.mem_append.1 hk with hz | hz
  ·exact h1 k (by simp [hz])
  rcases List.mem_cons.1 hz with rfl | hz
  ·have h4:=h1 x (by simp);refine ⟨h4.1,(rz _).2 ⟨?_,fun k hk=>((rz x).1 h4.2.1).2 k hk⟩,?_⟩
   ·have:=sD hx.2.2;have h6:=AL hx.2.2;rw [uP hx.1] at this;rw [okU,uP (u:={x with Label:=s}) hx.1,show kidB {x with Label:=s}=kidB x from rfl,h6];simp only [Bool.and_eq_true] at this ⊢;exact ⟨⟨⟨⟨this.1.1.1,hs⟩,this.1.2⟩,this.2⟩,trivial⟩
   ·rw [show dp {x with Label:=s}=dp x from MI rfl];exact h4.2.2
  ·exact h1 k (by simp [hz])
 ·rw [List.map_append,List.map_cons] at h2 ht ⊢;have p1:(l.map keyU++keyU x :: r.map keyU).Perm (keyU x :: (l.map keyU++r.map keyU)):=List.perm_middle;have p2:(l.map keyU++keyU {x with Label:=s} :: r.map keyU).Perm (keyU {x with Label:=s} :: (l.map keyU++r.map keyU)):=List.perm_middle;rw [p1.nodup_iff,List.nodup_cons] at h2;rw [p2.nodup_iff,List.nodup_cons];refine ⟨fun hm=>ht ?_,h2.2⟩;rcases List.mem_append.1 hm with hm | hm
  ·exact List.mem_append.2 (.inl hm)
  ·exact List.mem_append.2 (.inr (List.mem_cons_of_mem _ hm))
 ·simpa using h3
 ·rw [kR,hper3.length_eq,<-kR];exact h.hcnt
theorem At.bare{p u:aa}{d:Nat}{C:aa->aa}(h:At p d u C){y:aa}(e:WT y=WT p):WT (C y)=WT u:=by
 cases h with
 | here=>exact e
 | kid _ _=>rfl
theorem Qv{α:Type}{k k2:α}{r r2:List α}:∀ {l l2:List α},l2++k2 :: r2=l++k :: r->(l2=l/\k2=k/\r2=r)\/k2∈l\/k2∈r
 | [],[],h=>by simp at h;exact .inl ⟨rfl,h⟩
 | [],a :: l2,h=>by
  simp at h;exact .inr (.inr (by rw [<-h.2];simp))
 | a :: l,[],h=>by
  simp at h;exact .inr (.inl (by simp [h.1]))
 | a :: l,b :: l2,h=>by
  simp only [List.cons_append,List.cons.injEq] at h;rcases Qv h.2 with ⟨rfl,e2,e3⟩ | h1 | h1
  ·exact .inl ⟨by rw [h.1],e2,e3⟩
  ·exact .inr (.inl (List.mem_cons_of_mem _ h1))
  ·exact .inr (.inr h1)
theorem Qw{l m:List aa}(h:l.map WT=m.map WT):l.map keyU=m.map keyU:=by
 have:∀ x:List aa,x.map keyU=(x.map WT).map keyU:=fun x=>by rw [List.map_map];rfl
 rw [this,this m,h]
theorem I4{l m:List aa}(h:l.map WT=m.map WT):l.map aa.Id=m.map aa.Id:=by
 have:∀ x:List aa,x.map aa.Id=(x.map WT).map aa.Id:=fun x=>by rw [List.map_map];rfl
 rw [this,this m,h]
theorem At.two{p u:aa}{d:Nat}{D:aa->aa}(h:At p d u D)(K:List aa):∀ {z:aa} {e:Nat} {E:aa->aa},At z e u E->
  (∃ k∈p.Kids,z∈desc k/\(k∈K->∃ E',At z e (D (WO p K)) E'))\/
  ∃ z' E',At z' e (D (WO p K)) E'/\WT z'=WT z/\(z=p/\z'.Kids=K\/z'.Kids.map WT=z.Kids.map WT):=by
 induction h with
 | here=>
  intro z e E hz;cases hz with
  | here=>exact .inr ⟨WO p K,_,.here,rfl,.inl ⟨rfl,rfl⟩⟩
  | @kid e _ k C l r he hz=>
   refine .inl ⟨k,by rw [he];simp,hz.mem,fun hk=>?_⟩;obtain ⟨a,b,rfl⟩:=List.append_of_mem hk;exact ⟨_,.kid rfl hz⟩
 | @kid d u k C l r he hk ih=>
  intro z e E hz;cases hz with
  | here=>exact .inr ⟨_,_,.here,rfl,.inr (by rw [jK,he];have:=hk.bare (y:=WO p K) rfl;simp [this])⟩
  | @kid e _ k2 C2 l2 r2 he2 hz=>
   rcases Qv (he2.symm.trans he) with ⟨rfl,rfl,rfl⟩ | hm | hm
   ·rcases ih hz with ⟨k1,h1,h2,h3⟩ | ⟨z',E',h1,h2,h3⟩
    ·refine .inl ⟨k1,h1,h2,fun h=>?_⟩;obtain ⟨E',h⟩:=h3 h;exact ⟨_,.kid (u:=WO u (l2++C (WO p K) :: r2)) rfl h⟩
    ·exact .inr ⟨z',_,.kid (u:=WO u (l2++C (WO p K) :: r2)) rfl h1,h2,h3⟩
   ·obtain ⟨a,b,rfl⟩:=List.append_of_mem hm;exact .inr ⟨z,_,.kid (u:=WO u ((a++k2 :: b)++C (WO p K) :: r)) (l:=a) (r:=b++C (WO p K) :: r) (by rw [jK];simp) hz,rfl,.inr rfl⟩
   ·obtain ⟨a,b,rfl⟩:=List.append_of_mem hm;exact .inr ⟨z,_,.kid (u:=WO u (l++C (WO p K) :: (a++k2 :: b))) (l:=l++C (WO p K) :: a) (r:=b) (by rw [jK];simp) hz,rfl,.inr rfl⟩
theorem At.uniq{x u:aa}{d e:Nat}{C E:aa->aa}(h:At x d u C)(hn:(ids u).Nodup)(k:At x e u E):d=e:=by
 obtain ⟨w,hw,hl⟩:=h.pathE hn;obtain ⟨w2,hw2,hl2⟩:=k.pathE hn;rw [hw] at hw2;cases hw2;omega
theorem At.trans{p x u:aa}{d e:Nat}{C E:aa->aa}(h:At p d u C)(k:At x e p E):∃ F,At x (d+e) u F:=by
 induction h with
 | here=>exact ⟨E,by rwa [Nat.zero_add]⟩
 | kid he _ ih=>
  obtain ⟨F,hF⟩:=ih;exact ⟨_,by rw [Nat.add_right_comm];exact .kid he hF⟩
def markL(act item:Int):Nat->List Str->List af
 | _,[]=>[]
 | m,s :: l=>⟨s,act,item,(m:Int)⟩ :: markL act item (m+1) l
theorem nL(act item:Int):∀ (l:List Str) (m:Nat),(markL act item m l).length=l.length
 | [],_=>rfl
 | s :: l,m=>by rw [markL,List.length_cons,List.length_cons,nL act item l]
theorem zP(act item:Int):∀ (l:List Str) (m:Nat) (x:af),x∈markL act item m l->x.Text∈l
 | s :: l,m,x,h=>by
  rw [markL] at h;rcases List.mem_cons.1 h with rfl | h
  ·simp
  ·exact List.mem_cons_of_mem _ (zP act item l _ x h)
def editL(act item:Int)(w:List af)(gone:Nat)(new:List Str):List Nat->Nat->Nat->List af
 | [],fr,_=>w.drop fr
 | p :: ps,fr,m=>(w.take p).drop fr++(markL act item m new++editL act item w gone new ps (p+gone) (m+new.length))
theorem EY(act item:Int)(w:List af)(gone:Nat)(new:List Str):∀ (ps:List Nat) (fr m:Nat) (x:af),x∈editL act item w gone new ps fr m->x∈w\/x.Text∈new
 | [],fr,m,x,h=>.inl (List.mem_of_mem_drop h)
 | p :: ps,fr,m,x,h=>by
  rw [editL] at h;rcases List.mem_append.1 h with h | h
  ·exact .inl (List.mem_of_mem_take (List.mem_of_mem_drop h))
  rcases List.mem_append.1 h with h | h
  ·exact .inr (zP _ _ _ _ _ h)
  ·exact EY act item w gone new ps _ _ x h
def Sp(gone n:Nat):Nat->List Nat->Prop
 | fr,[]=>fr<=n
 | fr,p :: ps=>fr<=p/\Sp gone n (p+gone) ps
theorem Sp.le{gone n:Nat}:∀ {ps:List Nat} {fr:Nat},Sp gone n fr ps->fr<=n
 | [],fr,h=>h
 | p :: ps,fr,h=>by have:=Sp.le h.2;have:=h.1;omega
def Xa(act item:Int)(w:List af)(gone:Nat)(new:List Str):List Nat->Nat->List af
 | [],_=>w
 | p :: ps,i=>(Xa act item w gone new ps (i+1)).take p++(markL act item (i*new.length) new++(Xa act item w gone new ps (i+1)).drop (p+gone))
theorem Ga(act item:Int)(w:List af)(gone:Nat)(new:List Str):∀ (ps:List Nat) (fr i:Nat),Sp gone w.length fr ps->
  (∀ q,q<=fr->(Xa act item w gone new ps i).take q=w.take q)/\(Xa act item w gone new ps i).drop fr=editL act item w gone new ps fr (i*new.length)
 | [],fr,i,h=>⟨fun q hq=>rfl,rfl⟩
 | p :: ps,fr,i,h=>by
  obtain ⟨h1,h2⟩:=Ga act item w gone new ps (p+gone) (i+1) h.2;have hp:p<=w.length:=by have:=h.2.le;omega
  rw [Xa,h1 p (by omega),h2];refine ⟨fun q hq=>?_,?_⟩
  ·have:=h.1;rw [List.take_append_of_le_length (by rw [List.length_take];omega),List.take_take];congr 1;omega
  ·have:=h.1;rw [List.drop_append_of_le_length (by rw [List.length_take];omega),editL,Nat.add_mul,Nat.one_mul]
theorem NW(act item:Int)(w:List af)(gone:Nat)(new:List Str)(ps:List Nat)(h:Sp gone w.length 0 ps):Xa act item w gone new ps 0=editL act item w gone new ps 0 0:=by
 have:=(Ga act item w gone new ps 0 0 h).2;rwa [List.drop_zero,Nat.zero_mul] at this
def wcnt(u:aa):Nat:=((desc u).map fun x=>x.Head.length+x.Words.length).sum
theorem AO(u:aa):wcnt u=u.Head.length+u.Words.length+(u.Kids.map wcnt).sum:=by
 have:∀ l:List aa,((l.flatMap desc).map fun x=>x.Head.length+x.Words.length).sum=(l.map wcnt).sum:=by
  intro l;induction l with
  | nil=>rfl
  | cons k l ih=>rw [List.flatMap_cons,List.map_append,List.sum_append,List.map_cons,List.sum_cons,ih];rfl
 unfold wcnt;rw [fH,List.map_cons,List.sum_cons,this];rfl
mutual
def WQ(act item:Int):aa->Nat->Nat->aa
 | ⟨_,k,l,h,w,ks⟩,n,m=>⟨⟨act,item,(n:Int)⟩,k,l,markL act item m (txts h),markL act item (m+h.length) (txts w),stampK act item ks (n+1) (m+h.length+w.length)⟩
def stampK(act item:Int):List aa->Nat->Nat->List aa
 | [],_,_=>[]
 | u :: us,n,m=>WQ act item u n m :: stampK act item us (n+cnt u) (m+wcnt u)
end
theorem pQ(act item:Int)(u:aa)(n m:Nat):WQ act item u n m=⟨⟨act,item,(n:Int)⟩,u.Kind,u.Label,markL act item m (txts u.Head),markL act item (m+u.Head.length) (txts u.Words),stampK act item u.Kids (n+1) (m+u.Head.length+u.Words.length)⟩:=by
 cases u;rw [WQ]
theorem yP(act item:Int):∀ (l:List Str) (m:Nat),txts (markL act item m l)=l
 | [],m=>rfl
 | s :: l,m=>by show s :: txts (markL act item (m+1) l)=_;rw [yP act item l]
structure Stamped (act item:Int) (u:aa) (n m:Nat):Prop where
 hk:keyU (WQ act item u n m)=keyU u
 hi:ids (WQ act item u n m)=(List.range' n (cnt u)).map fun (i:Nat)=>(⟨act,item,(i:Int)⟩:ai)
 hd:dp (WQ act item u n m)=dp u
 hc:cnt (WQ act item u n m)=cnt u
 ho:Oks u->Oks (WQ act item u n m)
theorem stamped(act item:Int)(u:aa):∀ n m,Stamped act item u n m:=by
 refine uind (P:=fun u=>∀ n m,Stamped act item u n m) ?_ u;intro u ih n m;have kids:∀ (l:List aa),(∀ k∈l,∀ n m,Stamped act item k n m)->∀ n m,(stampK act item l n m).map keyU=l.map keyU/\
   (stampK act item l n m).flatMap ids=(List.range' n (l.map cnt).sum).map (fun (i:Nat)=>(⟨act,item,(i:Int)⟩:ai))/\
   (stampK act item l n m).map (fun k=>1+dp k)=l.map (fun k=>1+dp k)/\(stampK act item l n m).map cnt=l.map cnt/\((∀ k∈l,Oks k)->∀ k∈stampK act item l n m,Oks k):=by
  intro l;induction l with
  | nil=>exact fun _ n m=>⟨rfl,rfl,rfl,rfl,fun _ k hk=>by cases hk⟩
  | cons k l ihl=>
   intro h n m;have hk:=h k (by simp) n m;obtain ⟨h1,h2,h3,h4,h5⟩:=ihl (fun k hk=>h k (List.mem_cons_of_mem _ hk)) (n+cnt k) (m+wcnt k);rw [stampK];refine ⟨?_,?_,?_,?_,?_⟩
   ·rw [List.map_cons,h1,hk.hk];rfl
   ·rw [List.flatMap_cons,h2,hk.hi,List.map_cons,List.sum_cons,<-List.map_append,List.range'_append_1]
   ·rw [List.map_cons,h3,hk.hd];rfl
   ·rw [List.map_cons,h4,hk.hc];rfl
   ·intro ho z hz;rcases List.mem_cons.1 hz with rfl | hz
    ·exact hk.ho (ho k (by simp))
    ·exact h5 (fun k hk=>ho k (List.mem_cons_of_mem _ hk)) z hz
 obtain ⟨h1,h2,h3,h4,h5⟩:=kids u.Kids ih (n+1) (m+u.Head.length+u.Words.length);have hc:cnt (WQ act item u n m)=cnt u:=by
  rw [lN,lN u,pQ];show 1+((stampK act item u.Kids (n+1) (m+u.Head.length+u.Words.length)).map cnt).sum=_;rw [h4]
 refine ⟨by rw [pQ];rfl,?_,?_,hc,fun ho=>?_⟩
 ·rw [qH,pQ,lN];show (⟨act,item,(n:Int)⟩:ai) :: (stampK act item u.Kids (n+1) (m+u.Head.length+u.Words.length)).flatMap ids=_;rw [h2,Nat.add_comm 1,List.range'_succ,List.map_cons]
 ·rw [yg,yg u,pQ];show List.foldl max 0 ((stampK act item u.Kids (n+1) (m+u.Head.length+u.Words.length)).map (fun k=>1+dp k))=_;rw [h3]
 ·obtain ⟨o1,o2⟩:=(rz u).1 ho;refine (rz _).2 ⟨?_,?_⟩
  ·have e1:aloB (WQ act item u n m)=aloB u:=by
    rw [pQ];unfold aloB rowB;show (if u.Kind=0 then (u.Label== []) && ((markL act item m (txts u.Head)).length==0) && ((markL act item (m+u.Head.length) (txts u.Words)).length==0)
     else decide (1<=u.Kind) && decide (u.Kind<=7) && sF u.Label && seqB (txts (markL act item m (txts u.Head))) && seqB (txts (markL act item (m+u.Head.length) (txts u.Words))))=_
    rw [yP,yP,nL,nL];simp [txts]
   have e2:kidB (WQ act item u n m)=kidB u:=by
    rw [yO,yO u,pQ];show (((stampK act item u.Kids (n+1) (m+u.Head.length+u.Words.length)).map keyU).all (fun k=>nestB u.Kind k.1) && decide (((stampK act item u.Kids (n+1) (m+u.Head.length+u.Words.length)).map keyU).Nodup) && decide (((stampK act item u.Kids (n+1) (m+u.Head.length+u.Words.length)).map keyU).length<=64))=_;rw [h1]
   rw [okU,e1,e2];exact o1
  ·rw [pQ];exact h5 o2
theorem Qx(act item:Int)(u:aa)(n m:Nat):(ids (WQ act item u n m)).Nodup:=by
 rw [(stamped act item u n m).hi];refine (List.pairwise_map.2 ?_);refine (List.nodup_range' (step:=1)).imp ?_;intro a b h e;have h2:(a:Int)=(b:Int):=congrArg ai.N e;exact h (by omega)
theorem Qy(act item:Int)(u:aa)(n m:Nat):(WQ act item u n m).Id=⟨act,item,(n:Int)⟩:=by rw [pQ]
theorem sQ{u:aa}(h:okU u=true):u.Label.length<=7/\u.Head.length<=256/\u.Words.length<=256/\u.Kids.length<=64:=by
 obtain ⟨_,_,h1,h2,h3,h4⟩:=tu (sD h);have h5:=AL h;simp only [kidB,Bool.and_eq_true,decide_eq_true_eq] at h5;refine ⟨?_,h3.1,h4.1,h5.2⟩;by_cases h0:u.Kind=0
 ·rw [(h1 h0).1];simp
 ·exact wL (h2 h0)
theorem Oks.labs{u:aa}(h:Oks u):labs u:=fun x hx=>by
 have:=sQ (h x hx);omega
theorem Oks.sm{u:aa}(h:Oks u)(hc:cnt u<=10000):smT u:=⟨by omega,fun x hx=>by
 have:=sQ (h x hx);unfold smallU;omega⟩
structure Nice (u:aa):Prop where
 oks:Oks u
 few:cnt u<=10000
 nd:(ids u).Nodup
theorem Ok.nice{u:aa}(h:Ok u):Nice u:=⟨h.oks,by have:=h.hcnt;omega,h.nd⟩
theorem At.cntI{p u:aa}{d:Nat}{C:aa->aa}(h:At p d u C):cnt p<=cnt u:=by
 obtain ⟨A,B,e⟩:=h.idL;have:=e p;rw [h.plug] at this;rw [kR p,kR u,this];simp;omega
theorem Nice.sub{u x:aa}{d:Nat}{C:aa->aa}(h:Nice u)(hx:At x d u C):Nice x:=⟨h.oks.sub hx.mem,by have:=hx.cntI;have:=h.few;omega,V5 hx h.nd⟩
theorem jP{p u:aa}{d:Nat}{C:aa->aa}(h:Nice u)(hp:At p d u C):To (fun n=>M.dC n u p.Id) (p,true):=
 (KY p.Id u h.few h.oks.labs).of (by unfold findR;rw [hp.findE h.nd])
theorem MJ{u:aa}{id:ai}(h:Nice u)(hi:id ∉ ids u):To (fun n=>M.dC n u id) (au,false):=
 (KY id u h.few h.oks.labs).of (by unfold findR;rw [Bu hi])
theorem K3{p u:aa}{d:Nat}{C:aa->aa}(h:Nice u)(hp:At p d u C):To (fun n=>M.ja n u p.Id) true:=by
 simp only [M.ja];exact To.bind (jP h hp) To.pure
theorem Qz{u:aa}{id:ai}(h:Nice u)(hi:id ∉ ids u):To (fun n=>M.ja n u id) false:=by
 simp only [M.ja];exact To.bind (MJ h hi) To.pure
theorem Bv{p x u:aa}{d:Nat}{D:aa->aa}{l r:List aa}(h:Nice u)(hp:At p d u D)(e:p.Kids=l++x :: r):To (fun n=>M.jg n u x.Id) (p.Id,((l.length:Nat):Int),true):=
 (Qq x.Id u h.few).of (hp.parE h.nd e)
theorem TS(w:List aa)(hb:w.length<=10000):∀ (k:Nat) (out:List ai),k<=w.length->out.length+k<=20000->∃ r,To (fun n=>M.bO w n out ((k:Int)-1)) r/\r.length=out.length+k:=by
 intro k;induction k with
 | zero=>
  intro out _ _;refine ⟨out,To.succ ?_,rfl⟩;simp only [M.bO];exact To.neg (by omega) To.pure
 | succ k ih=>
  intro out hk ho;have hx:=rW (l:=w) (i:=k) (by omega);obtain ⟨r,h1,h2⟩:=ih (out++ [w[k].Id]) (by omega) (by simp;omega);refine ⟨r,To.succ ?_,by rw [h2];simp;omega⟩;simp only [M.bO];rw [show ((k+1:Nat):Int)-1=(k:Int) by omega];exact To.pos (by omega) (To.bindS hx (To.bindS (bJ (by simp;omega)) (To.bindS (l6 (by omega) (by omega)) h1)))
theorem QA{p u:aa}{d:Nat}{C:aa->aa}(h:Nice u)(hp:At p d u C):∃ r,To (fun n=>M.iC n u p.Id) r/\r.length=d:=by
 obtain ⟨w,hw,hl⟩:=hp.pathE h.nd;have hb:=yh p.Id u w hw;have hway:=DR p.Id u h.few;rw [hw] at hway;have hf:=h.few;obtain ⟨r,h1,h2⟩:=TS w (by omega) d [] (by omega) (by simp;omega);refine ⟨r,?_,by simpa using h2⟩;simp only [M.iC];refine To.bind hway (To.bindS (l6 (by simp;omega) (by simp;omega)) (To.bind ?_ To.pure));rw [show ((some w).getD []:List aa)=w from rfl,show (w.length:Int)-2=(d:Int)-1 by omega];exact h1
theorem I5{p u:aa}{d:Nat}{C:aa->aa}(h:Nice u)(hp:At p d u C):To (fun n=>M.kI n u p.Id) (d:Int):=by
 obtain ⟨r,h1,h2⟩:=QA h hp;simp only [M.kI];exact To.bind h1 (To.pure.of (by rw [h2]))
theorem DW{u:aa}(h:Nice u):To (fun n=>M.oq n u) (ids u):=by
 simp only [M.oq];have:=h.few;exact To.bind (Vk u [] (by simp;omega)) (To.pure.of (by simp [ids]))
theorem X8(l:List aa)(p:aa->Bool)(fs:Nat->aa->Option Bool)(hf:∀ k,k∈l->To (fun n=>fs n k) (p k)):To (fun n=>M.bT n l (fs n)) (l.any p):=by
 simp only [M.bT];refine To.bind (Xu l p fs hf) (To.pure.of ?_);cases h:l.any p with
 | true=>simp
 | false=>simp
theorem XL(l:List ai)(f:Nat->ai->Option Bool)(p:ai->Bool)(hf:∀ x,x∈l->To (fun n=>f n x) (p x)):To (fun n=>M.bf n l (f n)) (l.any p):=by
 have loop:∀ (xs:List ai) (f:Nat->ai->Option Bool) (i:Nat),(∀ x,x∈xs->To (fun n=>f n x) (p x))->l.drop i=xs->∃ r,To (fun n=>M.aX l (f n) n (i:Int)) r/\((xs.any p=true/\ ∃ k:Nat,r= .inr (k:Int))\/(xs.any p=false/\r= .inl ())):=by
  intro xs;induction xs with
  | nil=>
   intro f i _ hx;refine ⟨.inl (),To.succ ?_,.inr ⟨rfl,rfl⟩⟩;simp only [M.aX];exact To.neg (aS hx) To.pure
  | cons x xs ih=>
   intro f i hf hx;have h1:=hf x (by simp);by_cases hp:p x=true
   ·refine ⟨.inr (i:Int),To.succ ?_,.inl ⟨by simp [hp],i,rfl⟩⟩;simp only [M.aX];exact To.pos (aK hx) (To.bindS (aA hx) (To.bind h1.shift (To.pos hp To.pure)))
   ·have hp':p x=false:=by simpa using hp
    obtain ⟨r,ht,hr⟩:=ih (fun n=>f (n+1)) (i+1) (fun y hy=>(hf y (by simp [hy])).shift) (aI hx);refine ⟨r,To.succ ?_,by simpa [hp'] using hr⟩;simp only [M.aX];rw [bA];exact To.pos (aK hx) (To.bindS (aA hx) (To.bind h1.shift (To.neg hp ht)))
 obtain ⟨r,ht,hr⟩:=loop l f 0 hf rfl;simp only [M.bf,M.gQ];rcases hr with ⟨ha,k,rfl⟩ | ⟨ha,rfl⟩
 ·refine To.bind (a:=(k:Int)) (To.bind ht To.pure) (To.pure.of ?_);simp [ha]
 ·refine To.bind (a:=(-1:Int)) (To.bind ht To.pure) (To.pure.of ?_);simp [ha]
theorem XM(l:List af)(f:Nat->af->Option Bool)(p:af->Bool)(hf:∀ x,x∈l->To (fun n=>f n x) (p x)):To (fun n=>M.bv n l (f n)) (l.any p):=by
 have loop:∀ (xs:List af) (f:Nat->af->Option Bool) (i:Nat),(∀ x,x∈xs->To (fun n=>f n x) (p x))->l.drop i=xs->∃ r,To (fun n=>M.aR l (f n) n (i:Int)) r/\((xs.any p=true/\ ∃ k:Nat,r= .inr (k:Int))\/(xs.any p=false/\r= .inl ())):=by
  intro xs;induction xs with
  | nil=>
   intro f i _ hx;refine ⟨.inl (),To.succ ?_,.inr ⟨rfl,rfl⟩⟩;simp only [M.aR];exact To.neg (aS hx) To.pure
  | cons x xs ih=>
   intro f i hf hx;have h1:=hf x (by simp);by_cases hp:p x=true
   ·refine ⟨.inr (i:Int),To.succ ?_,.inl ⟨by simp [hp],i,rfl⟩⟩;simp only [M.aR];exact To.pos (aK hx) (To.bindS (aA hx) (To.bind h1.shift (To.pos hp To.pure)))
   ·have hp':p x=false:=by simpa using hp
    obtain ⟨r,ht,hr⟩:=ih (fun n=>f (n+1)) (i+1) (fun y hy=>(hf y (by simp [hy])).shift) (aI hx);refine ⟨r,To.succ ?_,by simpa [hp'] using hr⟩;simp only [M.aR];rw [bA];exact To.pos (aK hx) (To.bindS (aA hx) (To.bind h1.shift (To.neg hp ht)))
 obtain ⟨r,ht,hr⟩:=loop l f 0 hf rfl;simp only [M.bv,M.fG];rcases hr with ⟨ha,k,rfl⟩ | ⟨ha,rfl⟩
 ·refine To.bind (a:=(k:Int)) (To.bind ht To.pure) (To.pure.of ?_);simp [ha]
 ·refine To.bind (a:=(-1:Int)) (To.bind ht To.pure) (To.pure.of ?_);simp [ha]
theorem TT(l:List aa)(x:aa)(s:Str):(l.any fun k=>decide (k.Kind=x.Kind) && (k.Label==s))=decide ((x.Kind,s)∈l.map keyU):=by
 rw [Bool.eq_iff_iff,List.any_eq_true];simp only [Bool.and_eq_true,decide_eq_true_eq,beq_iff_eq,List.mem_map,keyU,Prod.mk.injEq]
theorem vZ{k:ai}{v:Bool}:∀ {m:List (ai×Bool)},k ∉ m.map Prod.fst->mset m k v=m++ [(k,v)]
 | [],_=>rfl
 | p :: m,h=>by
  simp only [List.map_cons,List.mem_cons,not_or] at h;rw [mset,if_neg h.1,vZ h.2];rfl
theorem MK:∀ (l:List ai) (m:List (ai×Bool)),(m.map Prod.fst++l).Nodup->M.eZ l m=some (m++l.map fun i=>(i,true))
 | [],m,_=>by simp [M.eZ]
 | i :: l,m,h=>by
  have h1:i ∉ m.map Prod.fst:=fun hm=>(List.nodup_append.1 h).2.2 i hm i (by simp) rfl;rw [M.eZ,vZ h1,MK l _ (by simpa [List.append_assoc] using h)];simp
theorem QB{u:aa}(h:Nice u)(hr:u.Kind=0 ↔ u.Id=aF):To (fun n=>M.uV n u) true:=by
 simp only [M.uV];have hc:=h.few;rw [kR] at hc;refine To.bind (DW h) (To.bindS (MK (ids u) [] (by simpa using h.nd)) ?_);rw [List.nil_append];have hg:∀ l:List (ai×Bool),l.length=(ids u).length->growC (l.length:Int)=some ():=fun l e=>by unfold growC;rw [if_pos (by omega)]
 have hb:(decide (u.Kind=(0:Int))==decide (u.Id=(⟨(0:Int),(0:Int),(0:Int)⟩:ai)))=true:=by
  rw [beq_iff_eq,Bool.eq_iff_iff,decide_eq_true_eq,decide_eq_true_eq];exact hr
 refine To.ite (fun _=>To.bindS (hg _ (by simp)) (To.ite (fun _=>To.pure) fun _=>To.bindS (hg _ (by simp)) (To.pos (by simp) (To.pure.of hb)))) fun _=>To.bindS (hg _ (by simp)) (To.pos (by simp) (To.pure.of hb))
theorem DX{u:aa}(h:Nice u)(hd:dp u<=8)(hc:cnt u<=1024)(hr:u.Kind=0 ↔ u.Id=aF):To (fun n=>M.mH n u) true:=by
 have hs:=h.oks.sm h.few;simp only [M.mH];refine To.bind (a:=true) ((IK u hs).of ?_) (To.pos rfl (To.bind (AA u hs) (To.pos (by omega) (To.bind (yK u hs) (To.pos (by omega) (To.bind (QB h hr) To.pure))))));rw [List.all_eq_true];exact h.oks
theorem BU{u:aa}(h:Nice u)(hd:dp u<=8)(hc:cnt u<=1024)(hr:u.Kind=0->u.Id=aF)(hi:u.Kind≠0->aF ∉ ids u):To (fun n=>M.eU n u) true:=by
 have hrr:u.Kind=0 ↔ u.Id=aF:=⟨hr,fun e=>Classical.byContradiction fun hk=>hi hk (e▸nJ u)⟩
 have hz:∀ l:List ai,aF ∉ l->To (fun n=>M.bf n l (fun s0=>M.mf s0)) false:=fun l hl=>by
  refine (XL l (fun _ s0=>M.mf s0) (fun i=>decide (i=aF)) fun x hx=>To.pure).of ?_;rw [Bool.eq_false_iff];intro e;obtain ⟨x,hx,hx2⟩:=List.any_eq_true.1 e;exact hl (of_decide_eq_true hx2▸hx)
 simp only [M.eU];refine To.bind (DW h) ?_;by_cases hk:u.Kind=0
 ·refine To.bind (a:=u.Kids.flatMap ids) (To.pos hk (To.bindS (a:=u.Kids.flatMap ids) ?_ To.pure)) (To.bind (DX h hd hc hrr) (To.pos rfl (To.bind (hz _ ?_) To.pure)))
  ·rw [qH];unfold slcLo;rw [if_pos (by simp only [List.length_cons];omega)];rfl
  ·have:=h.nd;rw [qH,List.nodup_cons,hr hk] at this;exact this.1
 ·refine To.bind (a:=ids u) (To.neg hk To.pure) (To.bind (DX h hd hc hrr) (To.pos rfl (To.bind (hz _ (hi hk)) To.pure)))
theorem Ok.stands{u:aa}(h:Ok u):To (fun n=>M.eU n u) true:=
 BU h.nice h.hdp h.hcnt (fun _=>h.root) fun hk=>absurd h.kind hk
theorem Ok.standsAt{u x:aa}{d:Nat}{C:aa->aa}(h:Ok u)(hx:At x (d+1) u C):To (fun n=>M.eU n x) true:=by
 refine BU (h.nice.sub hx) ?_ ?_ (fun hk=>absurd hk (h.inner hx).1) fun _ hz=>?_
 ·have:=hx.dpO;have:=h.hdp;omega
 ·have:=hx.cntI;have:=h.hcnt;omega
 ·obtain ⟨y,hy,he⟩:=uG.1 hz;obtain ⟨e,E,hye⟩:=At.zO hy;obtain ⟨F,hF⟩:=hx.trans hye;rw [Nat.add_right_comm] at hF;exact (h.inner hF).2.1 he
theorem Xc(l:List aa)(h:l.length<=100000):M.bz l=some l:=by
 simp only [M.bz];rw [bJ (by simp;omega)];rfl
theorem Xd(l:List af)(h:l.length<=100000):M.aM l=some l:=by
 simp only [M.aM];rw [bJ (by simp;omega)];rfl
theorem Xn{α:Type}{l r:List α}{x y:α}:setC (l++x :: r) (l.length:Int) y=some (l++y :: r):=by
 unfold setC;rw [if_pos (by simp),Int.toNat_natCast];simp
theorem Xv{α:Type}{l r:List α}{x:α}:idx (l++x :: r) (l.length:Int)=some x:=by
 rw [pR];simp
theorem I7{α:Type}{a b:List α}{x:α}(h:(a++b).length<=100000):insC (a++b) (a.length:Int) [x]=some (a++x :: b):=by
 simp only [insC];rw [List.length_append] at h ⊢;rw [if_pos (by omega),Int.toNat_natCast];simp
theorem I8{α:Type}{l r:List α}{x:α}:delC (l++x :: r) (l.length:Int) ((l.length:Int)+1)=some (l++r):=by
 unfold delC;rw [if_pos (by simp;omega)];rw [show ((l.length:Int)+1).toNat=l.length+1 by omega,Int.toNat_natCast];simp
theorem Oks.kidsLen{u:aa}(h:Oks u):u.Kids.length<=64:=(sQ (h u (fC u))).2.2.2
theorem EZ(u:aa):(⟨u.Id,u.Kind,u.Label,u.Head,u.Words,u.Kids⟩:aa)=u:=by cases u;rfl
theorem Xh(u:aa):Oks u->To (fun n=>M.eX n u) u:=by
 refine uind (P:=fun u=>Oks u->To (fun n=>M.eX n u) u) ?_ u;intro u ih ho;obtain ⟨h1,h2,h3,h4⟩:=sQ (ho u (fC u));have loop:∀ (xs:List aa) (slf:Nat->aa->Option aa) (pre:List aa),u.Kids=pre++xs->(∀ k,k∈xs->To (fun n=>slf n k) k)->To (fun n=>M.ed u.Kids (slf n) n (pre.length:Int) u) u:=by
  intro xs;induction xs with
  | nil=>
   intro slf pre e _;refine To.succ ?_;simp only [M.ed];exact To.neg (by rw [e];simp) To.pure
  | cons x xs ihx=>
   intro slf pre e hs;refine To.succ ?_;simp only [M.ed];have eu:=EZ u;have hi:idx u.Kids (pre.length:Int)=some x:=by rw [e];exact Xv
   have hset:setC u.Kids (pre.length:Int) x=some u.Kids:=by
    have:=Xn (l:=pre) (r:=xs) (x:=x) (y:=x);rw [<-e] at this;exact this
   have hl:pre.length<u.Kids.length:=by rw [e];simp
   refine To.pos (by omega) (To.bindS hi (To.bind (hs x (by simp)).shift (To.bindS hi (To.bindS hset (To.bindS (gp (y:=1) (by omega) (by omega)) ?_)))));have:=ihx (fun n=>slf (n+1)) (pre++ [x]) (by rw [e];simp) fun k hk=>(hs k (by simp [hk])).shift;simp only [List.length_append,List.length_singleton,Int.natCast_add] at this;rw [eu];exact this
 refine To.succ ?_;simp only [M.eX];refine To.bindS (Xd _ (by omega)) (To.bindS (Xd _ (by omega)) (To.bindS (Xc _ (by omega)) ?_));rw [EZ u];exact To.bind (loop u.Kids (fun n=>M.eX n) [] rfl fun k hk=>ih k hk (((rz u).1 ho).2 k hk)) To.pure
theorem V6(id:ai)(u:aa):id ∉ ids u->∀ does:Nat->aa->Option aa,To (fun n=>M.gZ n u id (does n)) (u,false):=by
 refine uind (P:=fun u=>id ∉ ids u->∀ does:Nat->aa->Option aa,To (fun n=>M.gZ n u id (does n)) (u,false)) ?_ u;intro u ih h does;have h0:=h;rw [qH] at h;simp only [List.mem_cons,not_or,List.mem_flatMap,not_exists,not_and] at h;have loop:∀ (xs:List aa) (slf:Nat->aa->ai->(aa->Option aa)->Option (aa×Bool)) (does:Nat->aa->Option aa) (i:Int) (v:aa),(∀ k∈xs,To (fun n=>slf n k id (does n)) (k,false))->To (fun n=>M.dY id (does n) (slf n) xs i u v) (.inl (u,v)):=by
  intro xs;induction xs with
  | nil=>intro slf does i v _;simp only [M.dY];exact To.pure
  | cons x xs ihx=>
   intro slf does i v hs;simp only [M.dY];exact To.bind (hs x (by simp)) (To.neg (by simp) (ihx slf does (i+1) v fun k hk=>hs k (by simp [hk])))
 refine To.succ ?_;simp only [M.gZ];exact To.neg (fun e=>h.1 e.symm) (To.bind (loop u.Kids (fun n=>M.gZ n) (fun n=>does (n+1)) 0 au fun k hk=>ih k hk (h.2 k hk) fun n=>does (n+1)) To.pure)
theorem V7{p u:aa}{d:Nat}{C:aa->aa}(hp:At p d u C)(ho:Oks u)(hn:(ids u).Nodup){y:aa}:∀ does:Nat->aa->Option aa,To (fun n=>does n p) y->To (fun n=>M.gZ n u p.Id (does n)) (C y,true):=by
 induction hp with
 | here=>
  intro does h;refine To.succ ?_;simp only [M.gZ];exact To.pos trivial (To.bind h.shift To.pure)
 | @kid d u k C l r e hk ih=>
  intro does h;obtain ⟨h1,h2,h3,h4⟩:=nK e hn hk.inId;have hkl:=ho.kidsLen;have loop:∀ (xs:List aa) (slf:Nat->aa->ai->(aa->Option aa)->Option (aa×Bool)) (does:Nat->aa->Option aa) (pre:List aa) (v:aa),l=pre++xs->(∀ k∈xs,To (fun n=>slf n k p.Id (does n)) (k,false))->To (fun n=>slf n k p.Id (does n)) (C y,true)->
    To (fun n=>M.dY p.Id (does n) (slf n) (xs++k :: r) (pre.length:Int) u v) (.inr (WO u (l++C y :: r),true)):=by
   intro xs;induction xs with
   | nil=>
    intro slf does pre v hl _ hk;rw [List.append_nil] at hl;subst hl;simp only [List.nil_append,M.dY];refine To.bind hk (To.pos rfl (To.bindS (Xc _ (by omega)) (To.bindS (a:=k) (by rw [e];exact Xv) (To.bindS (by rw [e];exact Xn) To.pure))))
   | cons x xs ihx=>
    intro slf does pre v hl hs hk;simp only [List.cons_append,M.dY];refine To.bind (hs x (by simp)) (To.neg (by simp) ?_);have:=ihx slf does (pre++ [x]) v (by rw [hl];simp) (fun k hk=>hs k (by simp [hk])) hk;simp only [List.length_append,List.length_singleton,Int.natCast_add] at this;exact this
  refine To.succ ?_;simp only [M.gZ];rw [e];exact To.neg h1 (To.bind (loop l (fun n=>M.gZ n) (fun n=>does (n+1)) [] au rfl (fun z hz=>V6 _ z (h2 z hz) _) (ih (((rz u).1 ho).2 k (by rw [e];simp)) h4 (fun n=>does (n+1)) h.shift)) To.pure)
theorem Xo{p u:aa}{d:Nat}{C:aa->aa}(hp:At p d u C)(ho:Oks u)(hn:(ids u).Nodup){y:aa}(does:Nat->aa->Option aa)(h:To (fun n=>does n p) y):To (fun n=>M.jo n u p.Id (does n)) (C y):=by
 simp only [M.jo];exact To.bind (Xh u ho) (To.bind (V7 hp ho hn does h) To.pure)
theorem Xl{p u:aa}{d:Nat}{C:aa->aa}(hp:At p d u C)(h:Nice u){y:aa}:∀ does:Nat->aa->Option aa,To (fun n=>does n p) y->To (fun n=>M.fQ n u p.Id (does n)) (C y):=by
 induction hp with
 | @here=>
  intro does hd;refine To.succ ?_;simp only [M.fQ];have hkl:=h.oks.kidsLen;refine To.pos trivial (To.bindS (Xc _ (by omega)) ?_);simp only [EZ];exact To.bind (hd.shift) To.pure
 | @kid d u k C l r e hk ih=>
  intro does hd;obtain ⟨h1,h2,h3,h4⟩:=nK e h.nd hk.inId;have hkl:=h.oks.kidsLen;have hnk:∀ z∈u.Kids,Nice z:=fun z hz=>by
   obtain ⟨a,b,he⟩:=List.append_of_mem hz;exact h.sub (.kid he .here)
  have loop:∀ (xs:List aa) (slf:Nat->aa->ai->(aa->Option aa)->Option aa) (does:Nat->aa->Option aa) (pre:List aa),l=pre++xs->To (fun n=>slf n k p.Id (does n)) (C y)->
    To (fun n=>M.jk p.Id (does n) u.Kids (slf n) n (pre.length:Int)) (l++C y :: r):=by
   intro xs;induction xs with
   | nil=>
    intro slf does pre hl hk2;rw [List.append_nil] at hl;subst hl;refine To.succ ?_;simp only [M.jk];have hi:idx u.Kids (l.length:Int)=some k:=by rw [e];exact Xv
    have hl:l.length<u.Kids.length:=by rw [e];simp
    refine To.pos (by omega) (To.bindS hi (To.bind (jP (hnk k (by rw [e];simp)) hk) (To.pos rfl (To.bind hk2.shift (To.bindS hi (To.bindS (by rw [e];exact Xn) To.pure))))))
   | cons x xs ihx=>
    intro slf does pre hl hk2;refine To.succ ?_;simp only [M.jk];have hi:idx u.Kids (pre.length:Int)=some x:=by rw [e,hl,List.append_assoc];exact Xv
    have hlt:pre.length<u.Kids.length:=by rw [e,hl];simp
    have hx:x∈l:=by rw [hl];simp
    refine To.pos (by omega) (To.bindS hi (To.bind (MJ (hnk x (by rw [e];simp [hx])) (h2 x hx)) (To.neg (by simp) (To.bindS (gp (y:=1) (by omega) (by omega)) ?_))));have:=ihx (fun n=>slf (n+1)) (fun n=>does (n+1)) (pre++ [x]) (by rw [hl];simp) hk2.shift;simp only [List.length_append,List.length_singleton,Int.natCast_add] at this;exact this
  refine To.succ ?_;simp only [M.fQ];exact To.neg h1 (To.bindS (Xc _ (by omega)) (To.bind (loop l (fun n=>M.fQ n) (fun n=>does (n+1)) [] rfl (ih (hnk k (by rw [e];simp)) (fun n=>does (n+1)) hd.shift)) To.pure))
theorem Xj{p x u:aa}{d:Nat}{D:aa->aa}{l r:List aa}(h:Nice u)(hp:At p d u D)(e:p.Kids=l++x :: r):To (fun n=>M.o8 n u x.Id) (D (WO p (l++r))):=by
 simp only [M.o8];have hkl:p.Kids.length<=64:=(h.oks.sub hp.mem).kidsLen;refine To.bind (Bv h hp e) (To.bind (Xl hp h (fun _ s0=>M.lT s0 ((l.length:Nat):Int)) (y:=WO p (l++r)) ?_) To.pure);simp only [M.lT];have:l.length<=64:=by rw [e] at hkl;simp at hkl;omega
 exact To.bindS (gp (y:=1) (by omega) (by omega)) (To.bindS (by rw [e];exact I8) To.pure)
theorem Xk{p x u:aa}{d:Nat}{D:aa->aa}{l r:List aa}(h:Nice u)(hp:At p d u D)(e:p.Kids=l++x :: r):To (fun n=>M.kZ n u x.Id) (D (WO p (l++r))):=by
 simp only [M.kZ];have hkl:p.Kids.length<=64:=(h.oks.sub hp.mem).kidsLen;refine To.bind (Bv h hp e) (To.bind (Xo hp h.oks h.nd (fun _ s0=>M.jU s0 ((l.length:Nat):Int)) (y:=WO p (l++r)) ?_) To.pure);simp only [M.jU];have:l.length<=64:=by rw [e] at hkl;simp at hkl;omega
 exact To.bindS (Xc _ (by omega)) (To.bindS (gp (y:=1) (by omega) (by omega)) (To.bindS (by rw [e];exact I8) To.pure))
theorem Xi{p x u:aa}{d:Nat}{D:aa->aa}{a b:List aa}(h:Nice u)(hp:At p d u D)(e:p.Kids=a++b):To (fun n=>M.fQ n u p.Id (fun s0=>M.kF s0 ((a.length:Nat):Int) x)) (D (WO p (a++x :: b))):=by
 have hkl:p.Kids.length<=64:=(h.oks.sub hp.mem).kidsLen;refine Xl hp h (fun _ s0=>M.kF s0 ((a.length:Nat):Int) x) ?_;simp only [M.kF];exact To.bindS (by rw [e];exact I7 (by rw [<-e];omega)) To.pure
theorem Xp{p x u:aa}{d:Nat}{D:aa->aa}{a b:List aa}(h:Nice u)(hp:At p d u D)(e:p.Kids=a++b)(hx:Oks x):To (fun n=>Option.bind (M.qF n ((a.length:Nat):Int) x) fun put=>Option.bind (M.jo n u p.Id put) fun done=>some (done,(0:Int))) (D (WO p (a++x :: b)),0):=by
 have hkl:p.Kids.length<=64:=(h.oks.sub hp.mem).kidsLen;simp only [M.qF];refine To.bindS rfl (To.bind (Xo hp h.oks h.nd (fun n s0=>M.nA n s0 ((a.length:Nat):Int) x) (y:=WO p (a++x :: b)) ?_) To.pure);simp only [M.nA];exact To.bindS (Xc _ (by omega)) (To.bind (Xh x hx) (To.bindS (by rw [e];exact I7 (by rw [<-e];omega)) To.pure))
theorem QC(l:List aa)(k:Nat)(h:k<=l.length):(l.take k).length=k:=by rw [List.length_take];omega
def Yb(f:Nat->Option (aa×Int))(n:Nat):Option (aa×Int):=Option.bind (f n) fun v=>Option.bind (f n) fun v1=>some (v1.1,v1.2)
theorem yQ{f:Nat->Option (aa×Int)}{r:aa×Int}(h:To f r):To (Yb f) r:=To.bind h (To.bind h To.pure)
theorem rv0{u:aa}{p:az}(k:p.Kind=0){r:aa×Int}(h:To (fun n=>M.pG n u p) r):To (fun n=>M.di n u p) r:=
 (yQ h).eq fun n=>by simp only [M.di,M.mq];rw [k];rfl
theorem rv1{u:aa}{p:az}(k:p.Kind=1){r:aa×Int}(h:To (fun n=>M.pI n u p) r):To (fun n=>M.di n u p) r:=
 (yQ h).eq fun n=>by simp only [M.di,M.mq];rw [k];rfl
theorem rv2{u:aa}{p:az}(k:p.Kind=2){r:aa×Int}(h:To (fun n=>M.pJ n u p) r):To (fun n=>M.di n u p) r:=
 (yQ h).eq fun n=>by simp only [M.di,M.mq];rw [k];rfl
theorem rv3{u:aa}{p:az}(k:p.Kind=3){r:aa×Int}(h:To (fun n=>M.pK n u p) r):To (fun n=>M.di n u p) r:=
 (yQ h).eq fun n=>by simp only [M.di,M.mq];rw [k];rfl
theorem rv4{u:aa}{p:az}(k:p.Kind=4){r:aa×Int}(h:To (fun n=>M.pM n u p) r):To (fun n=>M.di n u p) r:=
 (yQ h).eq fun n=>by simp only [M.di,M.mq];rw [k];rfl
theorem rv5{u:aa}{p:az}(k:p.Kind=5){r:aa×Int}(h:To (fun n=>M.pO n u p) r):To (fun n=>M.di n u p) r:=
 (yQ h).eq fun n=>by simp only [M.di,M.mq];rw [k];rfl
theorem QD{n0:Unit}{l:List aa}{k:Int}{s:Str}(h:(k,s) ∉ l.map keyU):To (fun n=>M.lG n l k s) false:=by
 simp only [M.lG];refine To.bind ((X8 l (fun z=>decide (z.Kind=k) && (z.Label==s)) (fun _ s0=>M.nz s0 k s) fun z hz=>?_).of ?_) To.pure
 ·simp only [M.nz];exact To.ite (fun e=>To.pure.of (by simp [e])) fun e=>To.pure.of (by simp [e])
 ·rw [Bool.eq_false_iff];intro e;obtain ⟨z,hz,hz2⟩:=List.any_eq_true.1 e;simp only [Bool.and_eq_true,decide_eq_true_eq,beq_iff_eq] at hz2;exact h (List.mem_map.2 ⟨z,hz,by rw [keyU,hz2.1,hz2.2]⟩)
structure Mid (p:aa) (l:List aa) (x:aa) (r:List aa):Prop where
 nest:nestB p.Kind x.Kind=true
 key:keyU x ∉ (l++r).map keyU
 len:(l++r).length<=63
theorem Ok.mid{u p x:aa}{d:Nat}{D:aa->aa}{l r:List aa}(h:Ok u)(hp:At p d u D)(e:p.Kids=l++x :: r):Mid p l x r:=by
 obtain ⟨h1,h2,h3⟩:=h.kidsOf hp;rw [e] at h1 h2 h3;refine ⟨(h1 x (by simp)).1,?_,by simp at h3 ⊢;omega⟩;have p1:((l++x :: r).map keyU).Perm ((x :: (l++r)).map keyU):=List.perm_middle.map _;rw [p1.nodup_iff,List.map_cons,List.nodup_cons] at h2;exact h2.1
theorem At.ins{p u:aa}{d:Nat}{D:aa->aa}{l:List aa}(h:At p d u D)(e:p.Kids=l):D (WO p l)=u:=by rw [<-e,rX,h.plug]
theorem ve{l:Nat->List aV}(h:To (fun n=>M.bG (l n)) (.inl ())):To (fun n=>M.iE (l n)) 0:=by
 simp only [M.iE];exact To.bind h To.pure
theorem Gb{u p x:aa}{d:Nat}{D:aa->aa}{a b:List aa}(hp:At p d u D)(e:p.Kids=a++b)(hv:Ok (D (WO p (a++x :: b)))){pt:az}(k:pt.Kind=0)(ki:pt.Id=x.Id) :
  To (fun n=>M.di n (D (WO p (a++x :: b))) pt) (u,0):=by
 have hq:=hp.re (WO p (a++x :: b));have hx:=hq.step (x:=x) (l:=a) (r:=b) rfl;have hxx:=hv.inner hx;refine rv0 k ?_;simp only [M.pG,ki];refine To.bind (a:=(u,x,0)) ?_ To.pure;simp only [M.ru];refine To.bind (a:=0) (ve ?_) (To.neg (by simp) ?_)
 ·simp only [M.bG,M.mg,M.mh,M.mi];refine To.bind (To.bind hv.stands To.pure) (To.neg (by simp) (To.bind (To.bind (K3 hv.nice hx) To.pure) (To.neg (by simp) (To.bindS rfl (To.neg ?_ To.pure)))));rw [decide_eq_true_eq,hv.root];exact fun e=>hxx.2.1 e.symm
 ·refine To.bind (jP hv.nice hx) (To.bind (Xk hv.nice hq (l:=a) (r:=b) rfl) (To.bind (Xh x (hv.oks.sub hx.mem)) (To.pure.of ?_)));rw [nX,hp.ins e]
theorem I9{u p x:aa}{d:Nat}{D:aa->aa}{l r:List aa}(hu:Ok u)(hp:At p d u D)(e:p.Kids=l++x :: r)(hv:Ok (D (WO p (l++r)))){pt:az}(k:pt.Kind=1)(ka:pt.At=(l.length:Nat))(kp:pt.Parent=p.Id)(kx:pt.Unit=x) :
  To (fun n=>M.di n (D (WO p (l++r))) pt) (u,0):=by
 have hq:=hp.re (WO p (l++r));have hx:=hp.step e;have hxx:=hu.inner hx;have hm:=hu.mid hp e;have hper:=u7 (x:=x) hp l r;rw [hp.ins e] at hper;have hcn:=hper.length_eq;rw [List.length_append,<-kR,<-kR,<-kR] at hcn;have h1:=hu.hcnt;have h2:=hu.hdp;have h3:=hx.dpO;have hln:=hm.len;have hnd:=hper.nodup_iff.1 hu.nd;refine rv1 k ?_;simp only [M.pI,ka,kp,kx];refine To.bind (a:=(u,0)) ?_ To.pure;simp only [M.ry];refine To.bind (a:=0) ?_ (To.neg (by simp) ?_)
 ·simp only [M.sV];refine To.bind (a:=false) (To.bind hv.stands (To.neg (by simp) (To.bind (hu.standsAt hx) (To.neg (by simp) (To.pure.of (by simpa using hxx.1)))))) (To.neg (by simp) ?_);have hfq:To (fun n=>M.dC n (D (WO p (l++r))) p.Id) (WO p (l++r),true):=jP (p:=WO p (l++r)) hv.nice hq;have hlq:To (fun n=>M.kI n (D (WO p (l++r))) p.Id) (d:Int):=I5 (p:=WO p (l++r)) hv.nice hq;refine To.bind hfq (To.bind (a:=0) (ve ?_) To.pure);simp only [M.bG,M.oG,M.oH,M.oI,M.oJ,M.oF,M.oD,M.pU];refine To.bindS rfl (To.neg (by simp) ?_);refine To.bind (To.bind ((zK _ _).of hm.nest) To.pure) (To.neg (by simp) ?_);refine To.bind (a:=false) (To.neg (by omega) (To.pure.of (by rw [decide_eq_false_iff_not,jK,List.length_append];omega))) (To.neg (by simp) ?_);refine To.bind (To.bind (QD (n0:=()) hm.key) To.pure) (To.neg (by simp) ?_);have hcx:=hx.cntI;have hsx:smT x:=(hu.oks.sub hx.mem).sm (by omega);have hsv:smT (D (WO p (l++r))):=hv.oks.sm (by omega);refine To.bind (a:=false) (To.neg (by rw [jK];omega) (To.bind hlq (To.bindS (gp (by omega) (by omega)) (To.bind (AA x hsx) (To.bindS (gp (by omega) (by omega)) (To.neg (by omega) (To.bind (yK _ hsv) (To.bind (yK x hsx) (To.bindS (gp (by omega) (by omega)) (To.pure.of (by rw [decide_eq_false_iff_not];omega))))))))))) (To.neg (by simp) ?_);refine To.bind (a:=false) (To.bind (DW (hu.nice.sub hx)) (To.bind ((XL _ (fun n s0=>Option.bind (M.ja n (D (WO p (l++r))) s0) fun has=>some has) (fun i=>decide (i∈ids (D (WO p (l++r))))) fun i hi=>?_).of ?_) To.pure)) (To.neg (by simp) To.pure)
  ·have hni:i ∉ ids (D (WO p (l++r))):=fun hj=>(List.nodup_append.1 hnd).2.2 i hi i hj rfl;exact To.bind (Qz hv.nice hni) (To.pure.of (by simp [hni]))
  ·rw [Bool.eq_false_iff];intro ee;obtain ⟨i,hi,hj⟩:=List.any_eq_true.1 ee;exact (List.nodup_append.1 hnd).2.2 i hi i (of_decide_eq_true hj) rfl
 ·have:=Xp (x:=x) hv.nice hq (a:=l) (b:=r) rfl (hu.oks.sub hx.mem);rwa [nX,hp.ins e] at this
theorem NY{u x:aa}{d:Nat}{C:aa->aa}{w:List af}(hu:Ok u)(hx:At x (d+1) u C)(hv:Ok (C {x with Words:=w})){pt:az}(k:pt.Kind=4)(ki:pt.Id=x.Id)(kw:pt.Words=x.Words) :
  To (fun n=>M.di n (C {x with Words:=w}) pt) (u,0):=by
 have hq:=hx.re {x with Words:=w};have hxx:=hu.inner hx;obtain ⟨_,_,_,_,_,hw,hwb⟩:=tu (sD hxx.2.2);refine rv4 k ?_;simp only [M.pM,ki,kw];refine To.bind (a:=(u,0)) ?_ To.pure;simp only [M.pV];refine To.bind (a:=(u,0)) ?_ To.pure;simp only [M.nC];have hfind:=jP hv.nice hq;refine To.bind hfind (To.bind (a:=0) (ve ?_) (To.neg (by simp) ?_))
 ·simp only [M.bG,M.lc,M.lg,M.lh,M.ll];refine To.bind (a:=false) (To.bind hv.stands (To.neg (by simp) (To.bind ((XM x.Words (fun n s0=>M.jl n s0) (fun w=>!wordB w.Text) fun z hz=>?_).of ?_) To.pure))) (To.neg (by simp) ?_)
  ·simp only [M.jl];exact To.bind (Cv [z.Text]) (To.pure.of (by simp [seqB]))
  ·rw [Bool.eq_false_iff];intro ee;obtain ⟨z,hz,hz2⟩:=List.any_eq_true.1 ee;rw [hwb z hz] at hz2;cases hz2
  refine To.bindS rfl (To.neg (by simp) (To.bindS rfl (To.neg (by simpa using hxx.1) (To.bindS rfl (To.neg (by simp;omega) To.pure)))))
 ·have:=Xo hq hv.oks hv.nd (fun _ s0=>M.kN s0 x.Words) (y:=x) (by
   simp only [M.kN];exact To.bindS (Xd _ (by omega)) (To.pure.of (EZ x)))
  rw [hx.plug] at this;exact To.bind this To.pure
theorem QE{u x:aa}{d:Nat}{C:aa->aa}{w:List af}(hu:Ok u)(hx:At x (d+1) u C)(hv:Ok (C {x with Head:=w})){pt:az}(k:pt.Kind=5)(ki:pt.Id=x.Id)(kw:pt.Words=x.Head) :
  To (fun n=>M.di n (C {x with Head:=w}) pt) (u,0):=by
 have hq:=hx.re {x with Head:=w};have hxx:=hu.inner hx;obtain ⟨_,_,_,_,⟨hw,hwb⟩,_⟩:=tu (sD hxx.2.2);refine rv5 k ?_;simp only [M.pO,ki,kw];refine To.bind (a:=(u,0)) ?_ To.pure;simp only [M.mM];refine To.bind (a:=(u,0)) ?_ To.pure;simp only [M.nC];have hfind:=jP hv.nice hq;refine To.bind hfind (To.bind (a:=0) (ve ?_) (To.neg (by simp) ?_))
 ·simp only [M.bG,M.lc,M.lg,M.lh,M.ll];refine To.bind (a:=false) (To.bind hv.stands (To.neg (by simp) (To.bind ((XM x.Head (fun n s0=>M.jl n s0) (fun w=>!wordB w.Text) fun z hz=>?_).of ?_) To.pure))) (To.neg (by simp) ?_)
  ·simp only [M.jl];exact To.bind (Cv [z.Text]) (To.pure.of (by simp [seqB]))
  ·rw [Bool.eq_false_iff];intro ee;obtain ⟨z,hz,hz2⟩:=List.any_eq_true.1 ee;rw [hwb z hz] at hz2;cases hz2
  refine To.bindS rfl (To.neg (by simp) (To.bindS rfl (To.neg (by simpa using hxx.1) (To.bindS rfl (To.neg (by simp;omega) To.pure)))))
 ·have:=Xo hq hv.oks hv.nd (fun _ s0=>M.jR s0 x.Head) (y:=x) (by
   simp only [M.jR];exact To.bindS (Xd _ (by omega)) (To.pure.of (EZ x)))
  rw [hx.plug] at this;exact To.bind this To.pure
theorem NZ{u p x:aa}{d:Nat}{D:aa->aa}{l r:List aa}{s:Str}(hu:Ok u)(hp:At p d u D)(e:p.Kids=l++x :: r)(hs:s≠x.Label)(hv:Ok (D (WO p (l++ {x with Label:=s} :: r)))){pt:az}(k:pt.Kind=3)(ki:pt.Id=x.Id)(kl:pt.Label=x.Label) :
  To (fun n=>M.di n (D (WO p (l++ {x with Label:=s} :: r))) pt) (u,0):=by
 have hq:=hp.re (WO p (l++ {x with Label:=s} :: r));have hx:=hp.step e;have hy:=hq.step (x:={x with Label:=s}) (l:=l) (r:=r) rfl;have hxx:=hu.inner hx;have hm:=hu.mid hp e;obtain ⟨_,_,_,hlab,_,_⟩:=tu (sD hxx.2.2);refine rv3 k ?_;simp only [M.pK,ki,kl];refine To.bind (a:=(u,0)) ?_ To.pure;simp only [M.qG];refine To.bind (a:=false) (To.bind hv.stands (To.neg (by simp) (To.bind ((tZ x.Label).of (hlab hxx.1)) To.pure))) (To.neg (by simp) ?_);have hfind:=jP hv.nice hy;refine To.bind hfind (To.bind (a:=0) (ve ?_) (To.neg (by simp) ?_))
 ·simp only [M.bG,M.lH,M.lI,M.lJ];refine To.bindS rfl (To.neg (by simp) (To.bindS rfl (To.neg (by simpa using hxx.1) ?_)));have hpar:=Bv hv.nice hq (x:={x with Label:=s}) (l:=l) (r:=r) rfl;have hfp:=jP hv.nice hq;refine To.bind (a:=false) (To.bind hpar (To.bind hfp (To.neg (by simpa using hs) (To.pos rfl (To.bind (QD (n0:=()) ?_) To.pure))))) (To.neg (by simp) To.pure);rw [jK,List.map_append,List.map_cons];have hk:=hm.key;rw [List.map_append] at hk;intro hmm;rcases List.mem_append.1 hmm with h1 | h1
  ·exact hk (List.mem_append.2 (.inl h1))
  rcases List.mem_cons.1 h1 with h1 | h1
  ·exact hs (congrArg Prod.snd h1).symm
  ·exact hk (List.mem_append.2 (.inr h1))
 ·have:=Xo hy hv.oks hv.nd (fun _ s0=>M.lK s0 x.Label) (y:=x) (by
   simp only [M.lK];exact To.pure.of (EZ x))
  rw [nX,hp.ins e] at this;exact To.bind this To.pure
theorem At.more{q z u x:aa}{f g:Nat}{E Z:aa->aa}{a b:List aa}(h:At q f u E)(e:q.Kids=a++b)(hz:At z g u Z):∃ z' Z',At z' g (E (WO q (a++x :: b))) Z'/\WT z'=WT z:=by
 rcases h.two (a++x :: b) hz with ⟨k,h1,h2,h3⟩ | ⟨z',Z',h1,h2,_⟩
 ·obtain ⟨Z',hZ⟩:=h3 (by rw [e] at h1;rcases List.mem_append.1 h1 with h1 | h1<;> simp [h1]);exact ⟨z,Z',hZ,rfl⟩
 ·exact ⟨z',Z',h1,h2⟩
theorem Gc{a b:aa}(h:WT a=WT b):a.Id=b.Id:=congrArg (fun z=>z.Id) h
theorem E5{a b:aa}(h:WT a=WT b):a.Kind=b.Kind:=congrArg (fun z=>z.Kind) h
theorem E8{u p x q:aa}{d f:Nat}{D E:aa->aa}{l r a b:List aa}(hu:Ok u)(hp:At p d u D)(e:p.Kids=l++x :: r)(hr:Ok (D (WO p (l++r))))(hq:At q f (D (WO p (l++r))) E)(e2:q.Kids=a++b)
  (hv:Ok (E (WO q (a++x :: b)))) {pt:az} (k:pt.Kind=2) (ka:pt.At=(l.length:Nat)) (kp:pt.Parent=p.Id) (ki:pt.Id=x.Id):To (fun n=>M.di n (E (WO q (a++x :: b))) pt) (u,0):=by
 have hp2:=hp.re (WO p (l++r));have hx:=hp.step e;have hm:=hu.mid hp e;have hq2:=hq.re (WO q (a++x :: b));have hx2:=hq2.step (x:=x) (l:=a) (r:=b) rfl;have hxx:=hv.inner hx2;obtain ⟨z,Z,hz,hzb⟩:=hq.more (x:=x) e2 hp2;have hzi:z.Id=p.Id:=Gc hzb;have hzk:z.Kind=p.Kind:=E5 hzb;have hper:=u7 (x:=x) hp l r;rw [hp.ins e] at hper;have hnd:=hper.nodup_iff.1 hu.nd;have hpx:p.Id ∉ ids x:=fun hi=>(List.nodup_append.1 hnd).2.2 p.Id hi p.Id (hp2.inId) rfl;have h2:=hu.hdp;have h3:=hx.dpO;have hln:=hm.len;have hcx:=hx2.cntI;have hvc:=hv.hcnt;have hnx:=hv.nice.sub hx2;have hsx:smT x:=hnx.oks.sm (by omega);have fx:=jP hv.nice hx2;have fz:=jP hv.nice hz;rw [hzi] at fz;have gz:=K3 hv.nice hz;rw [hzi] at gz;have fp:To (fun n=>M.dC n (D (WO p (l++r))) p.Id) (WO p (l++r),true):=jP (p:=WO p (l++r)) hr.nice hp2;have lp:To (fun n=>M.kI n (D (WO p (l++r))) p.Id) (d:Int):=I5 (p:=WO p (l++r)) hr.nice hp2;have hw:=Xk hv.nice hq2 (x:=x) (l:=a) (r:=b) rfl;rw [nX,hq.ins e2] at hw;refine rv2 k ?_;simp only [M.pJ,ka,kp,ki];refine To.bind (a:=(u,0)) ?_ To.pure;simp only [M.sW];refine To.bind (a:=0) (ve ?_) (To.neg (by simp) ?_)
 ·simp only [M.bG,M.oK,M.oL];exact To.bind (To.bind hv.stands To.pure) (To.neg (by simp) (To.bind (To.bind (K3 hv.nice hx2) (To.neg (by simp) (To.bind gz To.pure))) (To.neg (by simp) To.pure)))
 refine To.bind fx (To.bind fz (To.bind (a:=false) (To.neg (fun e=>hxx.2.1 (e.trans hv.root)) (To.bind (Qz hnx hpx) (To.neg (by simp) (To.bind (a:=true) ((zK z.Kind x.Kind).of (by rw [hzk];exact hm.nest)) To.pure)))) (To.neg (by simp) ?_)));refine To.bind hw (To.bind fp (To.bind (a:=0) (ve ?_) (To.neg (by simp) ?_)))
 ·simp only [M.bG,M.oM,M.oN,M.oO];refine To.bind (a:=false) (To.neg (by omega) (To.pure.of (by rw [decide_eq_false_iff_not,jK,List.length_append];omega))) (To.neg (by simp) ?_);refine To.bind (To.bind (QD (n0:=()) hm.key) To.pure) (To.neg (by simp) ?_);refine To.bind (a:=false) (To.neg (by rw [jK];omega) (To.bind lp (To.bindS (gp (by omega) (by omega)) (To.bind (AA x hsx) (To.bindS (gp (by omega) (by omega)) (To.pure.of (by rw [decide_eq_false_iff_not];omega))))))) (To.neg (by simp) To.pure)
 ·have:=Xp (x:=x) hr.nice hp2 (a:=l) (b:=r) rfl hnx.oks;rwa [nX,hp.ins e] at this
theorem fo(i p:Nat)(h:i+p<=4611686018427387904):addC (i:Int) (p:Int)=some ((i+p:Nat):Int):=by
 rw [gp (by omega) (by omega)];simp
theorem mr(i:Nat)(h:i+1<=4611686018427387904):addC (i:Int) 1=some ((i+1:Nat):Int):=by
 rw [gp (by omega) (by omega)];simp
theorem bE(i:Nat):(i:Int)+1=((i+1:Nat):Int):=by simp
theorem Cz{α:Type}{l:List α}{i:Nat}(h:i<l.length):idx l (i:Int)=some l[i]:=by
 rw [pR,List.getElem?_eq_getElem h]
theorem BV{l m:List Str}{i:Nat}(hl:i<l.length)(hm:i<m.length):l.drop i=m.drop i ↔ l[i]=m[i]/\l.drop (i+1)=m.drop (i+1):=by
 rw [List.drop_eq_getElem_cons hl,List.drop_eq_getElem_cons hm,List.cons.injEq]
theorem DY(a b:List Str)(hl:a.length=b.length):∀ (k i n:Nat),a.length-i<=k->i<=a.length->k<n->
  M.bC a b n (i:Int)=some (if a.drop i=b.drop i then .inl () else .inr false)
 | k,i,0,_,_,h=>by omega
 | k,i,n+1,hk,hi,hn=>by
  unfold M.bC;by_cases h:i<a.length
  ·rw [if_pos (by omega),Cz h,Cz (show i<b.length by omega)];simp only [Option.bind_some];by_cases he:a[i]=b[i]
   ·rw [if_neg (by simp [he]),bE,DY a b hl (k-1) (i+1) n (by omega) (by omega) (by omega)];simp only [BV h (show i<b.length by omega),he,true_and]
   ·rw [if_pos (by simp [he]),if_neg (by rw [BV h (by omega)];exact fun h=>he h.1)]
  ·rw [if_neg (by omega),List.drop_eq_nil_of_le (by omega),List.drop_eq_nil_of_le (by omega)];simp
theorem QF(a b:List Str)(n:Nat)(hn:a.length<n):M.df n a b=some (decide (a=b)):=by
 unfold M.df;by_cases h:a.length=b.length
 ·have:M.bC a b n (0:Int)=some (if a=b then .inl () else .inr false):=by have:=DY a b h a.length 0 n (by omega) (by omega) hn;simpa using this
  rw [if_neg (by omega),this];by_cases he:a=b<;> simp [he]
 ·rw [if_pos (by omega)];have:a≠b:=fun e=>h (by rw [e]);simp [this]
def st(l part:List Str)(i:Nat):Bool:=decide (i+part.length<=l.length/\(l.take (i+part.length)).drop i=part)
theorem WC{l part:List Str}{i:Nat}(h:st l part i=true):i+part.length<=l.length:=(of_decide_eq_true h).1
theorem WE{l part:List Str}{i:Nat}(h:st l part i=true):(l.take (i+part.length)).drop i=part:=(of_decide_eq_true h).2
def ints(ps:List Nat):List Int:=ps.map (fun p:Nat=>(p:Int))
theorem gu(ps:List Nat):(ints ps).length=ps.length:=by simp [ints]
theorem eqS(a b:List Str):To (fun n=>M.df n a b) (decide (a=b)):=⟨a.length+1,fun n hn=>QF a b n (by omega)⟩
theorem AP:∀ (l:List af) (t:List Str),t.length+l.length<=100000000->M.dJ l t=some (t++txts l)
 | [],t,_=>by simp [M.dJ,txts]
 | x :: l,t,h=>by
  simp only [List.length_cons] at h;rw [M.dJ,bJ (by simp;omega),Option.bind_some,AP l _ (by simp;omega)];simp [txts]
theorem E9(l:List af)(h:l.length<=1000000):M.lS l=some (txts l):=by
 simp only [M.lS];rw [AP l [] (by simp;omega)];rfl
theorem Fa(act item:Int)(m:Nat):∀ (l:List Str) (i:Nat) (t:List af),t.length+l.length<=100000000->m+i+l.length<=100000000->M.fD act item (m:Int) l (i:Int) t=some (t++markL act item (m+i) l)
 | [],i,t,_,_=>by simp [M.fD,markL]
 | x :: l,i,t,h,h2=>by
  simp only [List.length_cons] at h h2;rw [M.fD,fo m i (by omega),Option.bind_some,bJ (by simp;omega),Option.bind_some,bE,Fa act item m l (i+1) _ (by simp;omega) (by omega)];simp [markL,Nat.add_assoc]
theorem K4(l:List Str)(act item:Int)(m:Nat)(h:m+l.length<=10000000):M.nT l act item (m:Int)=some (markL act item m l):=by
 simp only [M.nT];have:=Fa act item m l 0 [] (by simp;omega) (by omega);rw [show (0:Int)=((0:Nat):Int) from rfl,this];rfl
theorem DZ(l:List Str)(act item:Int)(m:Nat)(h:m+l.length<=10000000):To (fun n=>M.qR n l act item (m:Int)) (markL act item m l):=by
 have loop:∀ (xs:List Str) (i:Nat) (t:List af),l.drop i=xs->t.length+xs.length<=100000000->i+xs.length<=10000000->To (fun n=>M.jD l act item (m:Int) n t (i:Int)) (t++markL act item (m+i) xs):=by
  intro xs;induction xs with
  | nil=>intro i t hx _ _;refine To.succ ?_;simp only [M.jD];exact To.neg (aS hx) (To.pure.of (by simp [markL]))
  | cons x xs ih=>
   intro i t hx ht hi;simp only [List.length_cons] at ht hi;refine To.succ ?_;simp only [M.jD];have hl:=(jV hx).1;refine To.pos (aK hx) (To.bindS (aA hx) (To.bindS (fo m i (by omega)) (To.bindS (bJ (by simp;omega)) ?_)));rw [bE];exact (ih (i+1) _ (aI hx) (by simp;omega) (by omega)).of (by simp [markL,Nat.add_assoc])
 simp only [M.qR];exact To.bind (loop l 0 [] rfl (by simp;omega) (by omega)) (To.pure.of (by simp))
theorem ML(l:List af)(h:l.length<=1000000):To (fun n=>M.uN n l) (txts l):=by
 have loop:∀ (xs:List af) (i:Nat) (t:List Str),l.drop i=xs->t.length+xs.length<=100000000->i+xs.length<=1000000->To (fun n=>M.iV l n t (i:Int)) (t++txts xs):=by
  intro xs;induction xs with
  | nil=>intro i t hx _ _;refine To.succ ?_;simp only [M.iV];exact To.neg (aS hx) (To.pure.of (by simp [txts]))
  | cons x xs ih=>
   intro i t hx ht hi;simp only [List.length_cons] at ht hi;refine To.succ ?_;simp only [M.iV];refine To.pos (aK hx) (To.bindS (aA hx) (To.bindS (bJ (by simp;omega)) ?_));rw [bE];exact (ih (i+1) _ (aI hx) (by simp;omega) (by omega)).of (by simp [txts])
 simp only [M.uN];exact To.bind (loop l 0 [] rfl (by simp;omega) (by omega)) (To.pure.of (by simp))
theorem QG(w:List af)(row:List Str)(i:Nat)(hw:w.length<=1000000)(hr:row.length<=1000000)(hi:i<=w.length):To (fun n=>M.uW n w (i:Int) row) (st (txts w) row i):=by
 have hlen:(txts w).length=w.length:=by simp [txts]
 have loop:∀ (xs:List Str) (j:Nat),row.drop j=xs->i+row.length<=w.length->To (fun n=>M.gV w (i:Int) row n (j:Int)) (if ((txts w).drop (i+j)).take xs.length=xs then .inl () else .inr false):=by
  intro xs;induction xs with
  | nil=>intro j hx _;refine To.succ ?_;simp only [M.gV];exact To.neg (aS hx) (To.pure.of (by simp))
  | cons x xs ih=>
   intro j hx hb;have hl:=(jV hx).1;have hij:i+j<w.length:=by omega
   refine To.succ ?_;simp only [M.gV];refine To.pos (aK hx) (To.bindS (fo i j (by omega)) (To.bindS (Cz hij) (To.bindS (aA hx) ?_)));have hd:(txts w).drop (i+j)=w[i+j].Text :: (txts w).drop (i+(j+1)):=by
    rw [List.drop_eq_getElem_cons (by omega)];congr 1;simp [txts]
   rw [hd,List.length_cons,List.take_succ_cons];by_cases he:w[i+j].Text=x
   ·refine To.neg (by simp [he]) ?_;rw [bE];refine (ih (j+1) (aI hx) hb).of ?_;simp only [List.cons.injEq,he,true_and]
   ·exact To.pos (by simpa using he) (To.pure.of (by rw [if_neg];intro e;exact he (List.cons.inj e).1))
 simp only [M.uW];refine To.bindS (fo i _ (by omega)) ?_;unfold st;by_cases hb:i+row.length<=w.length
 ·refine To.neg (by omega) (To.bind (loop row 0 rfl hb) ?_);rw [Nat.add_zero];have he:((txts w).take (i+row.length)).drop i=((txts w).drop i).take row.length:=by rw [List.drop_take,show i+row.length-i=row.length by omega]
  by_cases h:((txts w).drop i).take row.length=row
  ·rw [if_pos h];exact To.pure.of (by rw [he,h,hlen];simp [hb])
  ·rw [if_neg h];exact To.pure.of (by rw [he];simp [h])
 ·exact To.pos (by omega) (To.pure.of (by rw [hlen];simp [hb]))
theorem Ja(w:List af)(part:List Str)(hw:w.length<=100000)(hp:part.length<=100000)(h0:0<part.length):∀ (k i:Nat),w.length-i<=k->i<=w.length->
  ∃ ps,Sp part.length w.length i ps/\ps.length<=w.length-i/\(∀ out:List Int,out.length+w.length<=200000+i->To (fun n=>M.bR (txts w) part n out (i:Int)) (out++ints ps))/\(∀ out:List Int,out.length+w.length<=200000+i->To (fun n=>M.dW w part n out (i:Int)) (out++ints ps)):=by
 have hlen:(txts w).length=w.length:=by simp [txts]
 intro k;induction k with
 | zero=>
  intro i hk hi;refine ⟨[],hi,by simp,fun out ho=>To.succ ?_,fun out ho=>To.succ ?_⟩
  ·simp only [M.bR];exact To.bindS (fo i _ (by omega)) (To.neg (by omega) (To.pure.of (by simp [ints])))
  ·simp only [M.dW];exact To.neg (by omega) (To.pure.of (by simp [ints]))
 | succ k ih=>
  intro i hk hi;by_cases hlt:i<w.length
  ·have hbeg:=QG w part i (by omega) (by omega) hi;cases hs:st (txts w) part i with
   | true=>
    have hle:=WC hs;rw [hlen] at hle;obtain ⟨ps,h1,h2,h3,h4⟩:=ih (i+part.length) (by omega) (by omega);refine ⟨i :: ps,⟨Nat.le_refl _,h1⟩,by simp;omega,fun out ho=>To.succ ?_,fun out ho=>To.succ ?_⟩
    ·simp only [M.bR];have e1:appC out [(i:Int)]=some (out++ [(i:Int)]):=bJ (by simp;omega);refine To.bindS (fo i _ (by omega)) (To.pos (by omega) (To.bindS (fo i _ (by omega)) (To.bindS (yn _ i _ (by omega) (by omega)) (To.bind (a:=true) ((eqS (((txts w).take (i+part.length)).drop i) part).of (by rw [WE hs];simp)) (To.neg (by simp) (To.bindS e1 (To.bindS (fo i _ (by omega)) ?_)))))));exact (h3 (out++ [(i:Int)]) (by simp;omega)).of (by simp [ints])
    ·simp only [M.dW];have e1:appC out [(i:Int)]=some (out++ [(i:Int)]):=bJ (by simp;omega);rw [hs] at hbeg;refine To.pos (by omega) (To.bind hbeg (To.pos rfl (To.bindS e1 (To.bindS (fo i _ (by omega)) ?_))));exact (h4 (out++ [(i:Int)]) (by simp;omega)).of (by simp [ints])
   | false=>
    obtain ⟨ps,h1,h2,h3,h4⟩:=ih (i+1) (by omega) (by omega);have hsp:Sp part.length w.length i ps:=by
     cases ps with
     | nil=>exact hi
     | cons p ps=>exact ⟨by have:=h1.1;omega,h1.2⟩
    refine ⟨ps,hsp,by omega,fun out ho=>To.succ ?_,fun out ho=>To.succ ?_⟩
    ·simp only [M.bR];by_cases hle:i+part.length<=w.length
     ·have hne:¬ ((txts w).take (i+part.length)).drop i=part:=fun e=>by
       have:st (txts w) part i=true:=by unfold st;rw [decide_eq_true_iff];exact ⟨by omega,e⟩
       rw [this] at hs;cases hs
      refine To.bindS (fo i _ (by omega)) (To.pos (by omega) (To.bindS (fo i _ (by omega)) (To.bindS (yn _ i _ (by omega) (by omega)) (To.bind (a:=false) ((eqS (((txts w).take (i+part.length)).drop i) part).of (by simp [hne])) (To.pos rfl (To.bindS (mr i (by omega)) ?_))))));exact h3 out (by omega)
     ·have hps:ps= []:=by
       cases ps with
       | nil=>rfl
       | cons p ps=>have:=h1.2.le;have:=h1.1;omega
      exact To.bindS (fo i _ (by omega)) (To.neg (by omega) (To.pure.of (by simp [ints,hps])))
    ·simp only [M.dW];rw [hs] at hbeg;refine To.pos (by omega) (To.bind hbeg (To.neg (by simp) ?_));rw [bE];exact h4 out (by omega)
  ·refine ⟨[],hi,by simp,fun out ho=>To.succ ?_,fun out ho=>To.succ ?_⟩
   ·simp only [M.bR];exact To.bindS (fo i _ (by omega)) (To.neg (by omega) (To.pure.of (by simp [ints])))
   ·simp only [M.dW];exact To.neg (by omega) (To.pure.of (by simp [ints]))
theorem Jb(act item:Int)(w:List af)(gone:Nat)(new:List Str):∀ (ps:List Nat) (i:Nat),(Xa act item w gone new ps i).length<=w.length+ps.length*new.length
 | [],i=>by simp [Xa]
 | p :: ps,i=>by
  have:=Jb act item w gone new ps (i+1);rw [Xa,List.length_append,List.length_append,List.length_take,List.length_drop,nL,List.length_cons,Nat.add_mul];omega
theorem Sp.drop{gone n:Nat}:∀ (k:Nat) {ps:List Nat} {fr:Nat},Sp gone n fr ps->Sp gone n fr (ps.drop k)
 | 0,ps,fr,h=>h
 | k+1,[],fr,h=>h
 | k+1,p :: ps,fr,h=>by
  have:Sp gone n fr ps:=by
   have h2:=h.2;have h1:=h.1;cases ps with
   | nil=>have:p+gone<=n:=h2;show fr<=n;omega
   | cons q qs=>exact ⟨by have:=h2.1;omega,h2.2⟩
  exact Sp.drop k this
theorem Sp.tl{gone n p:Nat}{ps:List Nat}{fr:Nat}(h:Sp gone n fr (p :: ps)):Sp gone n fr ps:=h.drop 1
theorem N7(act item:Int)(w:List af)(gone:Nat)(new:List Str)(ps:List Nat)(hs:Sp gone w.length 0 ps)(hw:w.length<=1000)(hn:new.length<=1000)(hps:ps.length<=1000)(hg:gone<=1000):∀ k,k<=ps.length->
  To (fun n=>M.gY (ints ps) (gone:Int) new act item n (Xa act item w gone new (ps.drop k) k) ((k:Int)-1)) (Xa act item w gone new ps 0):=by
 intro k;induction k with
 | zero=>
  intro _;refine To.succ ?_;simp only [M.gY];exact To.neg (by omega) To.pure
 | succ k ih=>
  intro hk;have hlt:k<ps.length:=by omega
  have hd:ps.drop k=ps[k] :: ps.drop (k+1):=List.drop_eq_getElem_cons hlt;have hsp:=hs.drop k;rw [hd] at hsp;have hbk:=Ga act item w gone new (ps.drop (k+1)) (ps[k]+gone) (k+1) hsp.2;have hle:=hsp.2.le;generalize ho:Xa act item w gone new (ps.drop (k+1)) (k+1)=out at hbk;have hol:ps[k]+gone<=out.length:=by
   have:=congrArg List.length (hbk.1 (ps[k]+gone) (Nat.le_refl _));rw [List.length_take,List.length_take] at this;omega
  have hbl:=Jb act item w gone new (ps.drop (k+1)) (k+1);rw [ho] at hbl;have hm1:(ps.drop (k+1)).length*new.length<=1000*1000:=Nat.mul_le_mul (by rw [List.length_drop];omega) hn;have hm2:k*new.length<=1000*1000:=Nat.mul_le_mul (by omega) hn;have hi:idx (ints ps) (k:Int)=some ((ps[k]:Nat):Int):=by rw [pR];simp [ints,hlt]
  refine To.succ ?_;simp only [M.gY];rw [show ((k+1:Nat):Int)-1=(k:Int) by omega];refine To.pos (by omega) (To.bindS hi (To.bindS (fo _ _ (by omega)) ?_));refine To.bindS (a:=out.drop (ps[k]+gone)) (by unfold slcLo;rw [if_pos (by omega),Int.toNat_natCast]) ?_;refine To.bindS (a:=out.take ps[k]) (by unfold slcHi;rw [if_pos (by omega),Int.toNat_natCast]) ?_;have hm3:mulC (k:Int) (new.length:Int)=some ((k*new.length:Nat):Int):=by
   have hc:(k:Int)*(new.length:Int)=((k*new.length:Nat):Int):=by simp
   rw [Ll (by rw [hc];omega) (by rw [hc];omega),hc]
  refine To.bindS hm3 ?_;refine To.bindS (K4 new act item _ (by omega)) ?_;refine To.bindS (bJ (by rw [List.length_take,nL];omega)) ?_;refine To.bindS (bJ (by rw [List.length_append,List.length_take,List.length_drop,nL];omega)) ?_;refine To.bindS (l6 (by omega) (by omega)) ?_;have:=ih (by omega);rw [hd,Xa,ho] at this;rw [List.append_assoc];exact this
theorem QH(act item:Int)(w:List af)(gone:Nat)(new:List Str)(ps:List Nat)(hs:Sp gone w.length 0 ps)(hw:w.length<=1000)(hn:new.length<=1000)(hps:ps.length<=1000)(hg:gone<=1000) :
  To (fun n=>M.nP n w (ints ps) (gone:Int) new act item) (if 256<(editL act item w gone new ps 0 0).length then ([],6) else (editL act item w gone new ps 0 0,0)):=by
 simp only [M.nP];refine To.bindS (a:=List.replicate w.length uJ) (by unfold makeC;rw [if_pos (by omega)];simp) (To.bindS (a:=w) (by unfold copyC;rw [if_pos (by simp)]) (To.bindS (l6 (by rw [gu];omega) (by rw [gu];omega)) ?_));have:=N7 act item w gone new ps hs hw hn hps hg ps.length (Nat.le_refl _);rw [List.drop_length,NW act item w gone new ps hs] at this;rw [gu];refine To.bind this ?_;by_cases h:256<(editL act item w gone new ps 0 0).length
 ·rw [if_pos h];exact To.pos (by omega) To.pure
 ·rw [if_neg h];exact To.neg (by omega) To.pure
def sel(nth:Int):List Nat->Nat->List Nat
 | [],_=>[]
 | p :: ps,i=>if nth≠0/\nth≠(i:Int)+1 then sel nth ps (i+1) else p :: sel nth ps (i+1)
theorem Gf:∀ (ps:List Nat) (i:Nat),sel 0 ps i=ps
 | [],_=>rfl
 | p :: ps,i=>by rw [sel,if_neg (by simp),Gf ps]
theorem Jc(nth:Int):∀ (ps:List Nat) (i:Nat),nth≠0->nth<=i->sel nth ps i= []
 | [],_,_,_=>rfl
 | p :: ps,i,h,k=>by rw [sel,if_pos ⟨h,by omega⟩,Jc nth ps _ h (by omega)]
theorem CB(k:Nat):∀ (ps:List Nat) (i:Nat),i<=k->sel ((k:Int)+1) ps i=(ps.take (k+1-i)).drop (k-i)
 | [],i,h=>by simp [sel]
 | p :: ps,i,h=>by
  rw [sel];by_cases e:i=k
  ·subst e;rw [if_neg (by omega),Jc _ ps _ (by omega) (by omega)];simp [show i+1-i=1 by omega]
  ·rw [if_pos (by omega),CB k ps (i+1) (by omega),show k+1-i=(k+1-(i+1))+1 by omega,show k-i=(k-(i+1))+1 by omega,List.take_succ_cons,List.drop_succ_cons]
theorem Gg{gone n:Nat}(nth:Int):∀ (ps:List Nat) (i fr:Nat),Sp gone n fr ps->Sp gone n fr (sel nth ps i)
 | [],i,fr,h=>h
 | p :: ps,i,fr,h=>by
  rw [sel];split
  ·exact Gg nth ps (i+1) fr (h.tl)
  ·exact ⟨h.1,Gg nth ps (i+1) _ h.2⟩
theorem Gh(nth:Int):∀ (ps:List Nat) (i:Nat),(sel nth ps i).length<=ps.length
 | [],i=>by simp [sel]
 | p :: ps,i=>by
  have:=Gh nth ps (i+1);rw [sel];split<;> simp<;> omega
theorem Jd(w:List af)(part:List Str)(nth:Int)(ps:List Nat)(hw:w.length<=1000000)(hps:ps.length<=1000000)(h0:0<=nth)(h:To (fun n=>M.lU n (txts w) part) (ints ps)) :
  To (fun n=>M.mZ n w part nth) (ints (sel nth ps 0)):=by
 simp only [M.mZ];refine To.bindS (E9 w hw) (To.bind h ?_);by_cases h1:nth=0
 ·refine To.pos h1 (To.pure.of ?_);rw [h1,Gf]
 ·refine To.neg h1 ?_;obtain ⟨k,hk⟩:∃ k:Nat,nth=(k:Int)+1:=⟨(nth-1).toNat,by omega⟩
  rw [gu];have hs:=CB k ps 0 (by omega);rw [<-hk] at hs;rw [hs];by_cases h2:(ps.length:Int)< nth
  ·refine To.pos h2 (To.pure.of ?_);rw [List.drop_eq_nil_of_le (by rw [List.length_take];omega)];rfl
  ·refine To.neg h2 (To.bindS (l6 (by omega) (by omega)) (To.bindS (a:=ints ((ps.take (k+1-0)).drop (k-0))) ?_ To.pure));rw [hk,show (k:Int)+1-1=(k:Int) by omega,bE,yn _ _ _ (by omega) (by rw [gu];omega)];simp [ints,List.map_drop,List.map_take]
theorem Je(part:List Str)(qs:List Int)(hp:part.length<=1000000):∀ (xs pre:List Nat),qs.length=pre.length+xs.length->(∀ x∈xs,x<=1000000)->pre.length+xs.length<=1000000->
  To (fun n=>M.dB part qs n (ints (pre.map (· +part.length)++xs)) (pre.length:Int)) (ints ((pre++xs).map (· +part.length)))
 | [],pre,hq,_,_=>by
  refine To.succ ?_;simp only [M.dB];exact To.neg (by simp at hq;omega) (To.pure.of (by simp))
 | x :: xs,pre,hq,hx,hb=>by
  simp only [List.length_cons] at hq hb;refine To.succ ?_;simp only [M.dB];have e:ints (pre.map (· +part.length)++x :: xs)=ints (pre.map (· +part.length))++((x:Nat):Int) :: ints xs:=by simp [ints]
  have hl:(ints (pre.map (· +part.length))).length=pre.length:=by simp [ints]
  have hi:idx (ints (pre.map (· +part.length)++x :: xs)) (pre.length:Int)=some ((x:Nat):Int):=by rw [e,<-hl];exact Xv
  have hset:setC (ints (pre.map (· +part.length)++x :: xs)) (pre.length:Int) ((x+part.length:Nat):Int)=some (ints ((pre++ [x]).map (· +part.length)++xs)):=by
   rw [e,<-hl,Xn];simp [ints]
  have hx0:=hx x (by simp);refine To.pos (by omega) (To.bindS hi (To.bindS (fo x part.length (by omega)) (To.bindS hi (To.bindS hset (To.bindS (mr _ (by omega)) ?_)))));have:=Je part qs hp xs (pre++ [x]) (by simp;omega) (fun y hy=>hx y (by simp [hy])) (by simp;omega);simp only [List.length_append,List.length_singleton,List.append_assoc,List.singleton_append] at this;exact this
theorem N8(w:List af)(it:ah)(act item:Int)(ps:List Nat)(hw:w.length<=1000)(ho:it.Old.length<=1000)(hn:it.New.length<=1000)(hk:it.Kind=2\/it.Kind=3):∀ (xs:List Nat) (i fr m:Nat) (acc:List af),ps.drop i=xs->Sp it.Old.length w.length fr xs->m+xs.length*it.New.length<=1000000->acc.length+xs.length*3000<=90000000->i+xs.length<=1000000->
  ∃ acc2 fr2,To (fun n=>M.fJ w it act item (ints ps) n acc (fr:Int) (m:Int) (i:Int)) (acc2,((fr2:Nat):Int))/\fr2<=w.length/\acc2.length<=100000000/\
   acc2++w.drop fr2=acc++(if it.Kind=3 then editL act item w 0 it.New ((sel it.Nth xs i).map (· +it.Old.length)) fr m else editL act item w it.Old.length it.New (sel it.Nth xs i) fr m):=by
 intro xs;induction xs with
 | nil=>
  intro i fr m acc hx hs hm ha hi;refine ⟨acc,fr,To.succ ?_,hs,by omega,by simp [sel,editL]⟩;simp only [M.fJ];have:=aS hx;exact To.neg (by rw [gu];exact this) To.pure
 | cons p xs ih=>
  intro i fr m acc hx hs hm ha hi;have hlt:=(jV hx).1;have hpi:ps[i]? =some p:=(jV hx).2.1;simp only [List.length_cons] at hm ha hi;rw [Nat.add_mul] at hm;have ha:acc.length+xs.length*3000+3000<=90000000:=by omega
  have hix:idx (ints ps) (i:Int)=some ((p:Nat):Int):=by rw [pR];simp [ints,hpi]
  have hle:=hs.2.le;have hf:=hs.1;by_cases hskip:it.Nth≠0/\it.Nth≠(i:Int)+1
  ·have hm2:m+xs.length*it.New.length<=1000000:=by omega
   have ha2:acc.length+xs.length*3000<=90000000:=Nat.le_trans (Nat.le_add_right _ 3000) ha;have hi2:i+1+xs.length<=1000000:=by omega
   obtain ⟨acc2,fr2,h1,h2,h3,h4⟩:=ih (i+1) fr m acc (aI hx) hs.tl hm2 ha2 hi2;refine ⟨acc2,fr2,To.succ ?_,h2,h3,by rw [h4,sel,if_pos hskip]⟩;simp only [M.fJ];refine To.pos (by rw [gu];omega) (To.bind (a:=true) (To.pos hskip.1 (To.pure.of (by simpa using hskip.2))) (To.pos rfl ?_));rw [bE];exact h1
  ·have hb:To (fun _=>if it.Nth≠0 then some (decide (it.Nth≠(i:Int)+1)) else some false) false:=by
    by_cases h0:it.Nth=0
    ·exact To.neg (by simpa using h0) To.pure
    ·exact To.pos h0 (To.pure.of (by rw [decide_eq_false_iff_not];intro h;exact hskip ⟨h0,h⟩))
   have hml:=nL act item it.New m;have hmk:To (fun n=>M.qR n it.New act item (m:Int)) (markL act item m it.New):=DZ _ _ _ _ (by omega);rw [sel,if_neg hskip];rcases hk with hk | hk
   ·have hacc:(acc++(w.take p).drop fr++markL act item m it.New).length<=acc.length+3000:=by simp only [List.length_append,List.length_drop,List.length_take,hml];omega
    obtain ⟨acc2,fr2,h1,h2,h3,h4⟩:=ih (i+1) (p+it.Old.length) (m+it.New.length) (acc++(w.take p).drop fr++markL act item m it.New) (aI hx) hs.2 (by omega) (by omega) (by omega);refine ⟨acc2,fr2,To.succ ?_,h2,h3,?_⟩
    ·simp only [M.fJ];refine To.pos (by rw [gu];omega) (To.bind hb (To.neg (by simp) (To.bindS hix (To.bindS (yn _ _ _ hf (by omega)) (To.bindS (bJ (by simp only [List.length_append,List.length_drop,List.length_take];omega)) (To.bindS hix (To.bindS (fo _ _ (by omega)) (To.bind (To.neg (by omega) To.pure) (To.bind hmk (To.bindS (bJ (by simp only [List.length_append,List.length_drop,List.length_take,hml];omega)) (To.bindS (fo _ _ (by omega)) ?_)))))))))));rw [bE];exact h1
    ·rw [h4,if_neg (by omega),if_neg (by omega),editL];simp
   ·have htk:(w.take (p+it.Old.length)).drop fr=(w.take p).drop fr++(w.take (p+it.Old.length)).drop p:=by
     have e1:(w.take (p+it.Old.length)).take p=w.take p:=by rw [List.take_take];congr 1;omega
     have e2:=List.take_append_drop p (w.take (p+it.Old.length));rw [e1] at e2
     conv=>lhs;rw [<-e2]
     rw [List.drop_append_of_le_length (by rw [List.length_take];omega)]
    have hacc:(acc++(w.take p).drop fr++(w.take (p+it.Old.length)).drop p++markL act item m it.New).length<=acc.length+3000:=by simp only [List.length_append,List.length_drop,List.length_take,hml];omega
    obtain ⟨acc2,fr2,h1,h2,h3,h4⟩:=ih (i+1) (p+it.Old.length) (m+it.New.length) (acc++(w.take p).drop fr++(w.take (p+it.Old.length)).drop p++markL act item m it.New) (aI hx) hs.2 (by omega) (by omega) (by omega);refine ⟨acc2,fr2,To.succ ?_,h2,h3,?_⟩
    ·simp only [M.fJ];refine To.pos (by rw [gu];omega) (To.bind hb (To.neg (by simp) (To.bindS hix (To.bindS (yn _ _ _ hf (by omega)) (To.bindS (bJ (by simp only [List.length_append,List.length_drop,List.length_take];omega)) (To.bindS hix (To.bindS (fo _ _ (by omega)) (To.bind (To.pos hk (To.bindS hix (To.bindS (yn _ _ _ (by omega) (by omega)) (To.bindS (bJ (by simp only [List.length_append,List.length_drop,List.length_take];omega)) To.pure)))) (To.bind hmk (To.bindS (bJ (by simp only [List.length_append,List.length_drop,List.length_take,hml];omega)) (To.bindS (fo _ _ (by omega)) ?_)))))))))));rw [bE];exact h1
    ·rw [h4,if_pos hk,if_pos hk,List.map_cons,editL,htk];simp
end Go.Proofs.YtapobcikfdbjiaaGreatDoor
