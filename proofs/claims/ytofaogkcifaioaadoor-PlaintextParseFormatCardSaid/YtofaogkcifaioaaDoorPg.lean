import Derived.Test.YtofaogkcifaioaaDoorPd
/-
  Chapter 11: what trees say, bare trees; the laws of single lines.
-/
set_option linter.unusedVariables false
set_option linter.unusedSimpArgs false
namespace Go.Proofs.YtofaogkcifaioaaDoor
open Go Go.Dec
theorem map_drop_eq{α β:Type}{f:α→β}{a b:List α}{i:Nat}{x y:α}{xs ys:List α}(h:a.map f=b.map f)(hx:a.drop i=x :: xs)(hy:b.drop i=y :: ys):f x=f y:=by
 have h1:=congrArg (List.drop i) h
 rw [←List.map_drop,←List.map_drop,hx,hy] at h1
 simp only [List.map_cons,List.cons.injEq] at h1
 exact h1.1
theorem map_len{α β:Type}{f:α→β}{a b:List α}(h:a.map f=b.map f):a.length=b.length:=by
 have:=congrArg List.length h
 simpa using this
theorem drop_two{α:Type}{a b:List α}(h:a.length=b.length){i:Nat}{x:α}{xs:List α}(hx:a.drop i=x :: xs):∃ y ys,b.drop i=y :: ys:=by
 cases hb:b.drop i with
 | cons y ys=>exact ⟨y,ys,rfl⟩
 | nil=>
  exfalso
  have h1:=congrArg List.length hx
  have h2:=congrArg List.length hb
  simp only [List.length_drop,List.length_cons,List.length_nil] at h1 h2
  omega
theorem texts_ok{a b:List api_Word}(h:txts a=txts b):To (fun n=>M.r11_Texts n a b) true:=by
 have hl:a.length=b.length:=map_len h
 have loop:∀ (xs:List api_Word) (i:Nat),a.drop i=xs→To (fun n=>M.r11_Texts_loop1 a b n (i:Int)) (.inl ()):=by
  intro xs
  induction xs with
  | nil=>
   intro i hx
   refine To.succ ?_
   simp only [M.r11_Texts_loop1]
   exact To.neg (drop_end hx) To.pure
  | cons x xs ih=>
   intro i hx
   obtain ⟨y,ys,hy⟩:=drop_two hl hx
   have he:x.Text=y.Text:=map_drop_eq h hx hy
   refine To.succ ?_
   simp only [M.r11_Texts_loop1]
   refine To.pos (drop_lt hx) (To.bindS (drop_idx hx) (To.bindS (drop_idx hy) (To.neg (by simp [he]) ?_)))
   rw [cast_succ]
   exact ih (i+1) (drop_next hx)
 simp only [M.r11_Texts]
 exact To.neg (by omega) (To.bind (loop a 0 rfl) To.pure)
theorem strip_out{a b:api_Unit}(h:stripT a=stripT b):a.Kind=b.Kind∧a.Label=b.Label∧txts a.Head=txts b.Head∧txts a.Words=txts b.Words∧a.Kids.map stripT=b.Kids.map stripT:=by
 rw [stripT_eq a,stripT_eq b] at h
 injection h with h1 h2 h3 h4 h5 h6
 refine ⟨h2,h3,?_,?_,h6⟩
 ·rw [←txts_bare,h4,txts_bare]
 ·rw [←txts_bare,h5,txts_bare]
theorem says_ok(a:api_Unit):∀ b,stripT a=stripT b→To (fun n=>M.r11_Says n a b) true:=by
 refine uind (P:=fun a=>∀ b,stripT a=stripT b→To (fun n=>M.r11_Says n a b) true) ?_ a
 intro a ih b h
 obtain ⟨h1,h2,h3,h4,h5⟩:=strip_out h
 have hl:=map_len h5
 have loop:∀ (xs:List api_Unit) (i:Nat) (slf:Nat→api_Unit→api_Unit→Option Bool),a.Kids.drop i=xs→(∀ k∈xs,∀ b,stripT k=stripT b→To (fun n=>slf n k b) true)→To (fun n=>M.r11_Says_loop1 a b (slf n) n (i:Int)) (.inl ()):=by
  intro xs
  induction xs with
  | nil=>
   intro i slf hx _
   refine To.succ ?_
   simp only [M.r11_Says_loop1]
   exact To.neg (drop_end hx) To.pure
  | cons x xs ihl=>
   intro i slf hx hs
   obtain ⟨y,ys,hy⟩:=drop_two hl hx
   have he:=map_drop_eq h5 hx hy
   refine To.succ ?_
   simp only [M.r11_Says_loop1]
   refine To.pos (drop_lt hx) (To.bindS (drop_idx hx) (To.bindS (drop_idx hy) (To.bind (hs x (by simp) y he).shift (To.neg (by simp) ?_))))
   rw [cast_succ]
   exact ihl (i+1) (fun n=>slf (n+1)) (drop_next hx) (fun k hk b hb=>(hs k (by simp [hk]) b hb).shift)
 refine To.succ ?_
 simp only [M.r11_Says]
 refine To.bind (a:=false) ?_ (To.neg (by simp) (To.bind (loop a.Kids 0 (fun n=>M.r11_Says n) rfl (fun k hk b hb=>ih k hk b hb)) To.pure))
 exact To.neg (by simpa using h1) (To.neg (by simp [h2]) (To.bind (texts_ok h3) (To.neg (by simp) (To.bind (texts_ok h4) (To.neg (by simp) (To.pure.of (by simp [hl])))))))
theorem alo_small{u:api_Unit}(h:aloB u=true):smallU u:=by
 obtain ⟨k0,k7,hz,hl,hh,hw⟩:=alo_out h
 refine ⟨?_,by omega,by omega⟩
 by_cases hk:u.Kind=0
 ·rw [(hz hk).1];simp
 ·have:=labB_len (hl hk);omega
end Go.Proofs.YtofaogkcifaioaaDoor
/-
  Chapter 11: trees out of lines: the nodes in order, and the path of open units.
-/
set_option linter.unusedVariables false
set_option linter.unusedSimpArgs false
namespace Go.Proofs.YtofaogkcifaioaaDoor
open Go Go.Dec
structure Nd where
 u_:api_Unit
 depth_:Int
 parent_:Int
def kf(i:Int):List Nd→Nat→List Nat
 | [],_=>[]
 | x :: xs,a=>if x.parent_=i then a :: kf i xs (a+1) else kf i xs (a+1)
def kidsOf(P:List Nd)(i:Nat):List Nat:=kf i P 0
theorem kf_app(i:Int)(R:List Nd):∀ (P:List Nd) (a:Nat),kf i (P++R) a=kf i P a++kf i R (a+P.length)
 | [],a=>by simp [kf]
 | x :: P,a=>by
  have ih:=kf_app i R P (a+1)
  simp only [List.cons_append,kf,ih,List.length_cons]
  rw [show a+1+P.length=a+(P.length+1) by omega]
  split<;> simp
theorem kf_none{i:Int}:∀ {R:List Nd} {a:Nat},(∀ x∈R,x.parent_≠i)→kf i R a= []
 | [],_,_=>rfl
 | x :: R,a,h=>by
  unfold kf
  rw [if_neg (h x (by simp))]
  exact kf_none fun y hy=>h y (by simp [hy])
theorem kf_mem{i:Int}{j:Nat}:∀ {P:List Nd} {a:Nat},j∈kf i P a→∃ k x,P[k]? =some x∧x.parent_=i∧j=a+k
 | x :: P,a,h=>by
  unfold kf at h
  split at h
  ·rename_i hx
   rcases List.mem_cons.1 h with rfl | h
   ·exact ⟨0,x,rfl,hx,rfl⟩
   ·obtain ⟨k,y,h1,h2,h3⟩:=kf_mem h
    exact ⟨k+1,y,h1,h2,by omega⟩
  ·obtain ⟨k,y,h1,h2,h3⟩:=kf_mem h
   exact ⟨k+1,y,h1,h2,by omega⟩
theorem kf_len(i:Int):∀ (P:List Nd) (a:Nat),(kf i P a).length≤P.length
 | [],_=>Nat.le_refl _
 | x :: P,a=>by
  have:=kf_len i P (a+1)
  unfold kf
  split<;> simp only [List.length_cons]<;> omega
def Back(P:List Nd):Prop:=∀ (i:Nat) (x:Nd),P[i]? =some x→x.parent_<(i:Int)
theorem kids_mem{P:List Nd}{i j:Nat}(h:j∈kidsOf P i):∃ x,P[j]? =some x∧x.parent_=(i:Int):=by
 obtain ⟨k,x,h1,h2,h3⟩:=kf_mem h
 rw [Nat.zero_add] at h3
 exact ⟨x,by rw [h3];exact h1,h2⟩
theorem kids_gt{P:List Nd}(hb:Back P){i j:Nat}(h:j∈kidsOf P i):i<j∧j<P.length:=by
 obtain ⟨x,h1,h2⟩:=kids_mem h
 have:=hb j x h1
 exact ⟨by omega,(List.getElem?_eq_some_iff.1 h1).1⟩
theorem kids_len(P:List Nd)(i:Nat):(kidsOf P i).length≤P.length:=kf_len _ _ _
theorem kids_snoc(P:List Nd)(x:Nd)(i:Nat):kidsOf (P++ [x]) i=kidsOf P i++(if x.parent_=(i:Int) then [P.length] else []):=by
 unfold kidsOf
 rw [kf_app,Nat.zero_add]
 rfl
theorem kids_more{P R:List Nd}{i:Nat}(h:∀ x∈R,x.parent_≠(i:Int)):kidsOf (P++R) i=kidsOf P i:=by
 unfold kidsOf
 rw [kf_app,kf_none h,List.append_nil]
theorem kids_from{P:List Nd}(hb:Back P)(i:Nat):kidsOf P i=kf i (P.drop (i+1)) (i+1):=by
 by_cases hi:i+1≤P.length
 ·have hs:P=P.take (i+1)++P.drop (i+1):=(List.take_append_drop _ _).symm
  have hn:kf i (P.take (i+1)) 0= []:=by
   refine kf_none fun x hx=>?_
   obtain ⟨k,hk⟩:=List.mem_iff_getElem?.1 hx
   have hkl:k<i+1:=by
    have:=(List.getElem?_eq_some_iff.1 hk).1
    rw [List.length_take] at this;omega
   rw [List.getElem?_take_of_lt hkl] at hk
   have:=hb k x hk
   omega
  unfold kidsOf
  conv=>lhs;rw [hs]
  rw [kf_app,hn,List.length_take,Nat.min_eq_left hi]
  simp
 ·have hd:P.drop (i+1)= []:=List.drop_eq_nil_iff.2 (by omega)
  rw [hd]
  show kf i P 0= []
  refine kf_none fun x hx=>?_
  obtain ⟨k,hk⟩:=List.mem_iff_getElem?.1 hx
  have:=(List.getElem?_eq_some_iff.1 hk).1
  have:=hb k x hk
  omega
def trF(P:List Nd):Nat→Nat→api_Unit
 | 0,_=>zU
 | n+1,i=>match P[i]? with
  | none=>zU
  | some x=>{x.u_ with Kids:=x.u_.Kids++(kidsOf P i).map (trF P n)}
theorem trF_some{P:List Nd}{i:Nat}{x:Nd}(h:P[i]? =some x)(n:Nat):trF P (n+1) i= {x.u_ with Kids:=x.u_.Kids++(kidsOf P i).map (trF P n)}:=by
 rw [trF,h]
def Ar(P:List Nd)(ar:NodeL):Prop:=ar.length=P.length∧ ∀ (i:Nat) (x:Nd),P[i]? =some x→ar[i]? =some (x.u_,kidsOf P i)
theorem node_kids_ok{f:Nat→Option api_Unit}{g:Nat→api_Unit}:∀ (js:List Nat) (u:api_Unit),(∀ j∈js,f j=some (g j))→u.Kids.length+js.length≤1000000→M.node_kids f js u=some {u with Kids:=u.Kids++js.map g}
 | [],u,_,_=>by
  rw [List.map_nil,List.append_nil];cases u;rfl
 | j :: js,u,h,hl=>by
  simp only [List.length_cons] at hl
  simp only [M.node_kids]
  rw [h j (by simp),Option.bind_some,appC_eq (by simp;omega),Option.bind_some,node_kids_ok js _ (fun k hk=>h k (by simp [hk])) (by simp;omega)]
  simp
theorem node_unit_ok{P:List Nd}{ar:NodeL}(ha:Ar P ar)(hb:Back P)(hl:P.length≤100000)(hk:∀ x∈P,x.u_.Kids= []):∀ (n i:Nat),i<P.length→P.length≤n+i→M.node_unit ar n i=some (trF P n i)
 | 0,i,h1,h2=>by omega
 | n+1,i,h1,h2=>by
  have hx:P[i]? =some P[i]:=List.getElem?_eq_getElem h1
  have hxk:=hk _ (List.getElem_mem h1)
  have:=kids_len P i
  rw [trF_some hx]
  simp only [M.node_unit]
  rw [ha.2 i _ hx,Option.bind_some]
  exact node_kids_ok _ _ (fun j hj=>node_unit_ok ha hb hl hk n j (kids_gt hb hj).2 (by have:=kids_gt hb hj;omega)) (by rw [hxk];simp;omega)
abbrev Stk:=List (api_Unit×List api_Unit)
def treeOf:Stk→List api_Unit
 | []=>[]
 | p :: r=>[{p.1 with Kids:=p.2++treeOf r}]
def topS:Stk→Nat→Option (api_Unit×List api_Unit)
 | [],_=>none
 | p :: r,0=>some (p.1,p.2++treeOf r)
 | _ :: r,d+1=>topS r d
def pushS:Stk→Nat→api_Unit→Stk
 | [],_,u=>[(u,[])]
 | p :: r,0,u=>[(p.1,p.2++treeOf r),(u,[])]
 | p :: r,d+1,u=>p :: pushS r d u
def May(m:Nat)(A:List Nat)(R:List Nd):Prop:=∀ x∈R,(∃ w∈A,x.parent_=((w:Nat):Int))∨(m:Int)≤x.parent_
def Closed(P:List Nd)(A:List Nat)(j:Nat)(k:api_Unit):Prop:=
 j<P.length∧ ∀ R:List Nd,May P.length A R→∀ n:Nat,P.length+R.length≤n+j→trF (P++R) n j=k
def Cl(P:List Nd)(A:List Nat):List Nat→List api_Unit→Prop
 | [],[]=>True
 | j :: js,k :: ks=>Closed P A j k∧Cl P A js ks
 | _,_=>False
theorem Cl.app{P:List Nd}{A:List Nat}:∀ {js js2:List Nat} {ks ks2:List api_Unit},Cl P A js ks→Cl P A js2 ks2→Cl P A (js++js2) (ks++ks2)
 | [],_,[],_,_,h=>h
 | _ :: _,_,_ :: _,_,h1,h2=>⟨h1.1,h1.2.app h2⟩
theorem Cl.imp{P P2:List Nd}{A A2:List Nat}(f:∀ j k,Closed P A j k→Closed P2 A2 j k):∀ {js:List Nat} {ks:List api_Unit},Cl P A js ks→Cl P2 A2 js ks
 | [],[],_=>trivial
 | _ :: _,_ :: _,h=>⟨f _ _ h.1,h.2.imp f⟩
theorem Cl.len{P:List Nd}{A:List Nat}:∀ {js:List Nat} {ks:List api_Unit},Cl P A js ks→js.length=ks.length
 | [],[],_=>rfl
 | _ :: _,_ :: _,h=>by have:=h.2.len;simp only [List.length_cons];omega
theorem Cl.map{P:List Nd}{A:List Nat}{R:List Nd}(hR:May P.length A R){n w:Nat}(hn:P.length+R.length≤n+w+1):∀ {js:List Nat} {ks:List api_Unit},Cl P A js ks→(∀ j∈js,w<j)→js.map (trF (P++R) n)=ks
 | [],[],_,_=>rfl
 | j :: js,k :: ks,h,hw=>by
  have h1:=h.1.2 R hR n (by have:=hw j (by simp);omega)
  rw [List.map_cons,h1,h.2.map hR hn (fun x hx=>hw x (by simp [hx]))]
theorem May.mono{m:Nat}{A B:List Nat}{R:List Nd}(h:∀ w∈A,w∈B)(hm:May m A R):May m B R:=fun x hx=>(hm x hx).imp (fun ⟨w,hw,e⟩=>⟨w,h w hw,e⟩) id
theorem Closed.less{P:List Nd}{A B:List Nat}{j:Nat}{k:api_Unit}(hs:∀ w∈A,w∈B)(h:Closed P B j k):Closed P A j k:=⟨h.1,fun R hR n hn=>h.2 R (hR.mono hs) n hn⟩
theorem Closed.grow{P:List Nd}{A B:List Nat}{j:Nat}{k:api_Unit}{x:Nd}{p:Nat}(hx:x.parent_=(p:Int))(hp:p∈B)(hs:∀ w∈A,w∈B∨w=P.length)(h:Closed P B j k):Closed (P++ [x]) A j k:=by
 refine ⟨by rw [List.length_append];have:=h.1;omega,fun R hR n hn=>?_⟩
 rw [List.append_assoc]
 refine h.2 ([x]++R) (fun y hy=>?_) n (by simp only [List.length_append,List.length_singleton] at hn ⊢;omega)
 rcases List.mem_append.1 hy with hy | hy
 ·rw [List.mem_singleton.1 hy];exact .inl ⟨p,hp,hx⟩
 ·rcases hR y hy with ⟨w,hw,e⟩ | h2
  ·rcases hs w hw with hw | rfl
   ·exact .inl ⟨w,hw,e⟩
   ·exact .inr (by omega)
  ·rw [List.length_append] at h2
   exact .inr (by simp at h2;omega)
def Rl(P:List Nd)(A:List Nat):List Nat→Stk→Nat→Prop
 | [],[],_=>True
 | w :: ws,p :: r,e=>(∃ x,P[w]? =some x∧x.u_=p.1∧x.depth_=((e:Nat):Int)∧x.u_.Kids= [])∧(∃ js,kidsOf P w=js++ws.take 1∧Cl P A js p.2)∧Rl P A ws r (e+1)
 | _,_,_=>False
theorem Rl.len{P:List Nd}{A:List Nat}:∀ {ws:List Nat} {r:Stk} {e:Nat},Rl P A ws r e→ws.length=r.length
 | [],[],_,_=>rfl
 | _ :: _,_ :: _,_,h=>by have:=h.2.2.len;simp only [List.length_cons];omega
theorem shut{P:List Nd}(hb:Back P){A B:List Nat}(hs:∀ w∈B,w∈A):∀ {ws:List Nat} {r:Stk} {e:Nat},Rl P A ws r e→(∀ w∈ws,w ∉ B)→Cl P B (ws.take 1) (treeOf r)
 | [],[],_,_,_=>trivial
 | w :: ws,p :: r,e,h,hd=>by
  obtain ⟨⟨x,hx,hu,hxd,hxk⟩,⟨js,hj,hc⟩,hr⟩:=h
  have ih:=shut hb hs hr (fun v hv=>hd v (by simp [hv]))
  have hwl:w<P.length:=(List.getElem?_eq_some_iff.1 hx).1
  refine ⟨⟨hwl,fun R hR n hn=>?_⟩,trivial⟩
  obtain ⟨m,rfl⟩:∃ m,n=m+1:=⟨n-1,by omega⟩
  have hx2:(P++R)[w]? =some x:=by rw [List.getElem?_append_left hwl];exact hx
  have hk2:kidsOf (P++R) w=kidsOf P w:=kids_more fun y hy e=>by
   rcases hR y hy with ⟨v,hv,e2⟩ | h2
   ·have:v=w:=by omega
    exact hd w (by simp) (this▸hv)
   ·omega
  have hgt:∀ j∈kidsOf P w,w<j:=fun j hj=>(kids_gt hb hj).1
  rw [trF_some hx2,hk2,hj,List.map_append]
  rw [hj] at hgt
  rw [Cl.map (hR.mono hs) (by omega) hc (fun j hj=>hgt j (by simp [hj])),ih.map hR (by omega) (fun j hj=>hgt j (by simp only [List.mem_append];exact .inr hj)),hxk,List.nil_append,hu]
theorem full{P:List Nd}(hb:Back P){A B:List Nat}(hs:∀ w∈B,w∈A):∀ {ws:List Nat} {r:Stk} {e d p:Nat},Rl P A ws r e→ws[d]? =some p→(∀ w∈ws.drop (d+1),w ∉ B)→
  ∃ x K,P[p]? =some x∧x.depth_=((e+d:Nat):Int)∧topS r d=some (x.u_,K)∧Cl P B (kidsOf P p) K
 | w :: ws,q :: r,e,0,p,h,hp,hd=>by
  obtain ⟨⟨x,hx,hu,hxd,hxk⟩,⟨js,hj,hc⟩,hr⟩:=h
  obtain rfl:w=p:=Option.some.inj hp
  refine ⟨x,q.2++treeOf r,hx,hxd,by rw [hu];rfl,?_⟩
  rw [hj]
  exact (hc.imp fun j k h=>h.less hs).app (shut hb hs hr hd)
 | w :: ws,q :: r,e,d+1,p,h,hp,hd=>by
  obtain ⟨x,K,h1,h2,h3,h4⟩:=full hb hs (d:=d) h.2.2 hp hd
  exact ⟨x,K,h1,by rw [h2];congr 1;omega,h3,h4⟩
theorem Rl.depth{P:List Nd}{A:List Nat}{ws:List Nat}{r:Stk}{e i w:Nat}(h:Rl P A ws r e)(hw:ws[i]? =some w):∃ x,P[w]? =some x∧x.depth_=((e+i:Nat):Int):=by
 induction ws generalizing r e i with
 | nil=>cases hw
 | cons v ws ih=>
  cases r with
  | nil=>exact h.elim
  | cons q r=>
   cases i with
   | zero=>
    obtain ⟨⟨x,hx,_,hxd,_⟩,_⟩:=h
    obtain rfl:v=w:=Option.some.inj hw
    exact ⟨x,hx,hxd⟩
   | succ i=>
    obtain ⟨x,h1,h2⟩:=ih h.2.2 hw
    exact ⟨x,h1,by rw [h2];congr 1;omega⟩
theorem Rl.push{P:List Nd}(hb:Back P){A B:List Nat}{x:Nd}{p D:Nat}(hs:∀ w∈B,w∈A)(hp:p∈B)(hxp:x.parent_=(p:Int))(hxk:x.u_.Kids= [])(hxd:x.depth_=(D:Int)) :
  ∀ {ws:List Nat} {r:Stk} {e d:Nat},Rl P A ws r e→ws[d]? =some p→(∀ w∈ws.drop (d+1),w ∉ B)→(∀ i,i<d→ws[i]? ≠some p)→D=e+d+1→
   Rl (P++ [x]) (B++ [P.length]) (ws.take (d+1)++ [P.length]) (pushS r d x.u_) e
 | w :: ws,q :: r,e,0,h,hp2,hd,hne,hD=>by
  obtain ⟨⟨y,hy,hu,hyd,hyk⟩,⟨js,hj,hc⟩,hr⟩:=h
  obtain rfl:w=p:=Option.some.inj hp2
  have hwl:w<P.length:=(List.getElem?_eq_some_iff.1 hy).1
  have g1:∀ v∈B++ [P.length],v∈A∨v=P.length:=fun v hv=>(List.mem_append.1 hv).imp (hs v) List.mem_singleton.1
  have g2:∀ v∈B++ [P.length],v∈B∨v=P.length:=fun v hv=>(List.mem_append.1 hv).imp id List.mem_singleton.1
  refine ⟨⟨y,by rw [List.getElem?_append_left hwl];exact hy,hu,hyd,hyk⟩,⟨js++ws.take 1,?_,?_⟩,⟨x,by simp,rfl,by rw [hxd,hD],hxk⟩,⟨[],?_,trivial⟩,trivial⟩
  ·rw [kids_snoc,if_pos hxp,hj];rfl
  ·exact (hc.imp fun j k h=>h.grow hxp (hs _ hp) g1).app ((shut hb hs hr hd).imp fun j k h=>h.grow hxp hp g2)
  ·rw [kids_snoc,if_neg (by omega)]
   have:kidsOf P P.length= []:=by
    rw [kids_from hb,List.drop_eq_nil_iff.2 (by omega)];rfl
   rw [this];rfl
 | w :: ws,q :: r,e,d+1,h,hp2,hd,hne,hD=>by
  obtain ⟨⟨y,hy,hu,hyd,hyk⟩,⟨js,hj,hc⟩,hr⟩:=h
  have hwl:w<P.length:=(List.getElem?_eq_some_iff.1 hy).1
  have g1:∀ v∈B++ [P.length],v∈A∨v=P.length:=fun v hv=>(List.mem_append.1 hv).imp (hs v) List.mem_singleton.1
  have hwp:w≠p:=fun e=>hne 0 (by omega) (by rw [e];rfl)
  have ih:=Rl.push hb hs hp hxp hxk hxd (d:=d) hr hp2 hd (fun i hi=>hne (i+1) (by omega)) (by omega)
  obtain ⟨v,ws2,hw⟩:∃ v ws2,ws=v :: ws2:=by
   cases ws with
   | nil=>cases hp2
   | cons v ws2=>exact ⟨v,ws2,rfl⟩
  refine ⟨⟨y,by rw [List.getElem?_append_left hwl];exact hy,hu,hyd,hyk⟩,⟨js,?_,hc.imp fun j k h=>h.grow hxp (hs _ hp) g1⟩,ih⟩
  rw [kids_snoc,if_neg (by omega),List.append_nil,hj,hw];rfl
structure St (P:List Nd) (W:List Nat) (S:Stk):Prop where
 back:Back P
 rl:Rl P W W S 0
 last:∀ (e w:Nat),W[e]? =some w→∀ (k:Nat) (y:Nd),P[k]? =some y→w<k→y.depth_≠(e:Int)
 top:∃ W0,W=W0++ [P.length-1]
 root:∃ ws,W=0 :: ws
 bare:∀ x∈P,bareU x.u_
 pos0:0<P.length
 low:∀ (i:Nat) (x:Nd),P[i]? = .some x→x.depth_≤(i:Int)
theorem bare_kids{u:api_Unit}(h:bareU u):u.Kids= []:=by
 obtain ⟨k,l,a,b,rfl⟩:=h;rfl
theorem St.first{u:api_Unit}(h:bareU u):St [⟨u,0,-1⟩] [0] [(u,[])] where
 back:=fun i x hx=>by
  cases i with
  | zero=>cases hx;show (-1:Int)< _;omega
  | succ i=>cases hx
 rl:=⟨⟨_,rfl,rfl,rfl,bare_kids h⟩,⟨[],rfl,trivial⟩,trivial⟩
 last:=fun e w hw k y hy hk=>by
  cases k with
  | zero=>omega
  | succ k=>cases hy
 top:=⟨[],rfl⟩
 root:=⟨[],rfl⟩
 bare:=fun x hx=>by rw [List.mem_singleton.1 hx];exact h
 pos0:=by simp
 low:=fun i x hx=>by
  cases i with
  | zero=>cases hx;show (0:Int)≤_;omega
  | succ i=>cases hx
theorem St.inj{P:List Nd}{W:List Nat}{S:Stk}(h:St P W S){i j w:Nat}(h1:W[i]? = .some w)(h2:W[j]? = .some w):i=j:=by
 obtain ⟨x,hx,hxd⟩:=h.rl.depth h1
 obtain ⟨y,hy,hyd⟩:=h.rl.depth h2
 rw [hx] at hy
 cases hy
 rw [hxd] at hyd
 omega
theorem St.split{P:List Nd}{W:List Nat}{S:Stk}(h:St P W S)(d:Nat):(∀ w∈W.take (d+1),w∈W)∧ ∀ w∈W.drop (d+1),w ∉ W.take (d+1):=by
 refine ⟨fun w hw=>List.mem_of_mem_take hw,fun w hw h2=>?_⟩
 obtain ⟨i,hi⟩:=List.mem_iff_getElem?.1 hw
 obtain ⟨j,hj⟩:=List.mem_iff_getElem?.1 h2
 have hjl:j<d+1:=by
  have:=(List.getElem?_eq_some_iff.1 hj).1
  rw [List.length_take] at this;omega
 rw [List.getElem?_take_of_lt hjl] at hj
 rw [List.getElem?_drop] at hi
 have:=h.inj hi hj
 omega
theorem St.push{P:List Nd}{W:List Nat}{S:Stk}(h:St P W S){u:api_Unit}(hu:bareU u){d p:Nat}(hp:W[d]? = .some p) :
  St (P++ [⟨u,((d+1:Nat):Int),(p:Int)⟩]) (W.take (d+1)++ [P.length]) (pushS S d u):=by
 have hpm:p∈W.take (d+1):=List.mem_iff_getElem?.2 ⟨d,by rw [List.getElem?_take_of_lt (by omega)];exact hp⟩
 obtain ⟨px,hpx,_⟩:=h.rl.depth hp
 have hpl:p<P.length:=(List.getElem?_eq_some_iff.1 hpx).1
 have hdl:d<W.length:=(List.getElem?_eq_some_iff.1 hp).1
 have htl:(W.take (d+1)).length=d+1:=by rw [List.length_take];omega
 obtain ⟨s1,s2⟩:=h.split d
 refine ⟨?_,?_,?_,?_,?_,?_,by simp,?_⟩
 ·intro i x hx
  by_cases hi:i<P.length
  ·rw [List.getElem?_append_left hi] at hx
   exact h.back i x hx
  ·rw [List.getElem?_append_right (by omega)] at hx
   cases hq:i-P.length with
   | zero=>rw [hq] at hx;cases hx;show (p:Int)< _;omega
   | succ k=>rw [hq] at hx;cases hx
 ·exact Rl.push (x:=⟨u,((d+1:Nat):Int),(p:Int)⟩) (D:=d+1) h.back s1 hpm rfl (bare_kids hu) rfl h.rl hp s2 (fun i hi e=>by have:=h.inj e hp;omega) (by omega)
 ·intro e w hw k y hy hk
  by_cases he:e<d+1
  ·rw [List.getElem?_append_left (by omega),List.getElem?_take_of_lt he] at hw
   by_cases hkl:k<P.length
   ·rw [List.getElem?_append_left hkl] at hy
    exact h.last e w hw k y hy hk
   ·rw [List.getElem?_append_right (by omega)] at hy
    cases hq:k-P.length with
    | zero=>rw [hq] at hy;cases hy;show ((d+1:Nat):Int)≠_;omega
    | succ k=>rw [hq] at hy;cases hy
  ·rw [List.getElem?_append_right (by omega),htl] at hw
   cases hq:e-(d+1) with
   | zero=>
    rw [hq] at hw;cases hw
    have:=(List.getElem?_eq_some_iff.1 hy).1
    simp only [List.length_append,List.length_singleton] at this
    omega
   | succ k=>rw [hq] at hw;cases hw
 ·exact ⟨W.take (d+1),by simp⟩
 ·obtain ⟨ws,hw⟩:=h.root
  exact ⟨ws.take d++ [P.length],by rw [hw];rfl⟩
 ·intro x hx
  rcases List.mem_append.1 hx with hx | hx
  ·exact h.bare x hx
  ·rw [List.mem_singleton.1 hx];exact hu
 ·intro i x hx
  have hdp:=h.low p px hpx
  by_cases hi:i<P.length
  ·rw [List.getElem?_append_left hi] at hx
   exact h.low i x hx
  ·rw [List.getElem?_append_right (by omega)] at hx
   cases hq:i-P.length with
   | zero=>rw [hq] at hx;cases hx;show ((d+1:Nat):Int)≤_;omega
   | succ k=>rw [hq] at hx;cases hx
def treeHd(S:Stk):api_Unit:=match treeOf S with | t :: _=>t | []=>zU
theorem St.tree{P:List Nd}{W:List Nat}{S:Stk}(h:St P W S){n:Nat}(hn:P.length≤n):trF P n 0=treeHd S:=by
 have hc:=shut (B:=[]) h.back (fun w hw=>by cases hw) h.rl (fun w _ hw=>by cases hw)
 obtain ⟨ws,hw⟩:=h.root
 rw [hw] at hc
 unfold treeHd
 cases ht:treeOf S with
 | nil=>rw [ht] at hc;exact hc.elim
 | cons t ts=>
  rw [ht] at hc
  have:=hc.1.2 [] (fun x hx=>by cases hx) n (by simpa using hn)
  rw [List.append_nil] at this
  exact this
end Go.Proofs.YtofaogkcifaioaaDoor
/-
  Chapter 11: both parsers take the same steps.
-/
set_option linter.unusedVariables false
set_option linter.unusedSimpArgs false
namespace Go.Proofs.YtofaogkcifaioaaDoor
open Go Go.Dec
def errT(v:api_Unit)(K:List api_Unit)(c:Nat)(u:api_Unit):Int:=
 if nestB v.Kind u.Kind=false then 9 else if keyU u∈K.map keyU then 10 else if 64≤K.length then 6 else if 1024≤c then 6 else 0
def errS(S:Stk)(c:Nat)(u:api_Unit):Nat→Int
 | 0=>if S= [] then 0 else 3
 | d+1=>match topS S d with
  | none=>3
  | some (v,K)=>errT v K c u
def nextS(S:Stk)(u:api_Unit):Nat→Stk
 | 0=>[(u,[])]
 | d+1=>pushS S d u
theorem top_none:∀ {S:Stk} {d:Nat},S.length≤d→topS S d=none
 | [],_,_=>rfl
 | _ :: S,0,h=>by simp at h
 | _ :: S,d+1,h=>top_none (S:=S) (d:=d) (by simp at h;omega)
def dupK(P:List Nd)(u:api_Unit)(js:List Nat):Bool:=js.any fun j=>match P[j]? with | some x=>decide (keyU x.u_=keyU u) | none=>false
theorem Closed.key{P:List Nd}{A:List Nat}{j:Nat}{k:api_Unit}(h:Closed P A j k):∃ x,P[j]? =some x∧keyU x.u_=keyU k:=by
 have hl:=h.1
 have hx:P[j]? =some P[j]:=List.getElem?_eq_getElem hl
 have h1:=h.2 [] (fun x hx=>by cases hx) (P.length-1+1) (by simp;omega)
 rw [List.append_nil,trF_some hx] at h1
 exact ⟨_,hx,by rw [←h1];rfl⟩
theorem Cl.dup{P:List Nd}{A:List Nat}(u:api_Unit):∀ {js:List Nat} {ks:List api_Unit},Cl P A js ks→dupK P u js=decide (keyU u∈ks.map keyU)
 | [],[],_=>by simp [dupK]
 | j :: js,k :: ks,h=>by
  obtain ⟨x,h1,h2⟩:=h.1.key
  have ih:=h.2.dup u
  unfold dupK at ih ⊢
  rw [List.any_cons,ih,h1]
  simp only [h2,List.map_cons,List.mem_cons]
  by_cases hk:keyU k=keyU u
  ·simp [hk]
  ·have:¬ keyU u=keyU k:=fun e=>hk e.symm
   simp [hk,this]
theorem key_iff(a b:api_Unit):keyU a=keyU b ↔ a.Kind=b.Kind∧a.Label=b.Label:=by
 unfold keyU
 exact Prod.mk.injEq _ _ _ _▸Iff.rfl
theorem same_ok{P:List Nd}{ar:NodeL}(ha:Ar P ar)(u:api_Unit):∀ js:List Nat,(∀ j∈js,j<P.length)→M.node_same ar u js=some (dupK P u js)
 | [],_=>by simp [M.node_same,dupK]
 | j :: js,h=>by
  obtain ⟨x,hx⟩:∃ x,P[j]? =some x:=⟨_,List.getElem?_eq_getElem (h j (by simp))⟩
  have ih:=same_ok ha u js (fun k hk=>h k (by simp [hk]))
  simp only [M.node_same]
  rw [ha.2 j _ hx,Option.bind_some,ih]
  unfold dupK
  rw [List.any_cons,hx]
  simp only
  by_cases hk:x.u_.Kind=u.Kind
  ·rw [if_pos hk]
   by_cases hl:x.u_.Label=u.Label
   ·rw [if_pos (by simp [hl])]
    have:keyU x.u_=keyU u:=(key_iff _ _).2 ⟨hk,hl⟩
    simp [this]
   ·rw [if_neg (by simpa using hl)]
    have:¬ keyU x.u_=keyU u:=fun e=>hl ((key_iff _ _).1 e).2
    simp [this]
  ·rw [if_neg hk]
   have:¬ keyU x.u_=keyU u:=fun e=>hk ((key_iff _ _).1 e).1
   simp [this]
end Go.Proofs.YtofaogkcifaioaaDoor
