/-
  Maps whose values are slices of the call's own, grown in place: m[k] = append(m[k], x).
-/
import Derived.Test.YtalogjkalmkpjaaGreatDoorDec30
import Derived.Test.YtalogjkalmkpjaaGreatDoorDec26
set_option linter.unusedVariables false
set_option linter.unusedSimpArgs false
namespace Go.Dec
open Go
section
variable {α β:Type} [DecidableEq α]
def kgetT(x:α):List (α×β)→List Tok→Tok
 | p :: m,k :: ks=>if x=p.1 then k else kgetT x m ks
 | _,_=>none
def kput(x:α)(c:Tok):List (α×β)→List Tok→List Tok
 | p :: m,k :: ks=>if x=p.1 then c :: ks else k :: kput x c m ks
 | _,_=>[c]
def kdrop(x:α):List (α×β)→List Tok→List Tok
 | p :: m,k :: ks=>if x=p.1 then ks else k :: kdrop x m ks
 | _,ks=>ks
end
def Tok.apart(k k':Tok):Prop:=∀ x,k.map Prod.fst=some x→k'.map Prod.fst≠some x
def EntsA{α β:Type}(tk:Ty α)(t:Ty β)(E:TypeId)(g:G):List MapEntry→List (α×List β)→List Tok→Prop
 | [],[],[]=>True
 | e :: es,p :: m,k :: ks=>((tk.is p.1).holds e.key g∧(tO t k p.2).holds e.val g∧(Own t E k p.2.length).holds g)∧EntsA tk t E g es m ks
 | _,_,_=>False
def EntsH{α β:Type}[DecidableEq α](tk:Ty α)(t:Ty β)(E:TypeId)(g:G)(u:α)(born:Nat):List MapEntry→List (α×List β)→List Tok→Prop
 | e :: es,p :: m,k :: ks=>if u=p.1 then (tk.is p.1).holds e.key g∧e.born=born∧EntsA tk t E g es m ks else ((tk.is p.1).holds e.key g∧(tO t k p.2).holds e.val g∧(Own t E k p.2.length).holds g)∧EntsH tk t E g u born es m ks
 | _,_,_=>False
section
variable {α β:Type} {tk:Ty α} {t:Ty β} {E:TypeId}
theorem EntsA.stay{T:Nat→Prop}{g g':G}(e:Ext T g g'):∀ {es:List MapEntry} {m:List (α×List β)} {ks:List Tok},(∀ k∈ks,∀ b,k.map Prod.fst=some b→¬ T b)→EntsA tk t E g es m ks→EntsA tk t E g' es m ks
 | [],[],[],_,_=>trivial
 | x :: es,p :: m,k :: ks,hn,⟨⟨h1,h2,h3⟩,h4⟩=>⟨⟨(tk.is p.1).mono e h1,(tO t k p.2).mono e h2,(Own t E k p.2.length).stay e (hn k (List.mem_cons_self ..)) h3⟩,EntsA.stay e (fun k' hk'=>hn k' (List.mem_cons_of_mem _ hk')) h4⟩
 | [],[],_ :: _,_,h=>h.elim
 | [],_ :: _,_,_,h=>h.elim
 | _ :: _,[],_,_,h=>h.elim
 | _ :: _,_ :: _,[],_,h=>h.elim
theorem EntsA.lt{g:G}:∀ {es:List MapEntry} {m:List (α×List β)} {ks:List Tok},EntsA tk t E g es m ks→∀ k∈ks,∀ b,k.map Prod.fst=some b→b<g.w.heap.size
 | [],[],[],_,k,hk,_,_=>by cases hk
 | x :: es,p :: m,k :: ks,⟨⟨h1,h2,h3⟩,h4⟩,k',hk',b,hb=>by
  rcases List.mem_cons.1 hk' with rfl | hk'
  ·exact (Own t E k' p.2.length).lt h3 hb
  ·exact EntsA.lt h4 k' hk' b hb
 | [],[],_ :: _,h,_,_,_,_=>h.elim
 | [],_ :: _,_,h,_,_,_,_=>h.elim
 | _ :: _,[],_,h,_,_,_,_=>h.elim
 | _ :: _,_ :: _,[],h,_,_,_,_=>h.elim
end
section
variable {α β:Type} [DecidableEq α] {tk:Ty α} {t:Ty β} {E:TypeId}
theorem EntsH.stay{T:Nat→Prop}{g g':G}{u:α}{born:Nat}(e:Ext T g g'):∀ {es:List MapEntry} {m:List (α×List β)} {ks:List Tok},(∀ k∈kdrop u m ks,∀ b,k.map Prod.fst=some b→¬ T b)→EntsH tk t E g u born es m ks→EntsH tk t E g' u born es m ks
 | x :: es,p :: m,k :: ks,hn,h=>by
  unfold EntsH at h ⊢
  unfold kdrop at hn
  by_cases hp:u=p.1
  ·rw [if_pos hp] at h hn ⊢
   exact ⟨(tk.is p.1).mono e h.1,h.2.1,h.2.2.stay e hn⟩
  ·rw [if_neg hp] at h hn ⊢
   exact ⟨⟨(tk.is p.1).mono e h.1.1,(tO t k p.2).mono e h.1.2.1,(Own t E k p.2.length).stay e (hn k (List.mem_cons_self ..)) h.1.2.2⟩,EntsH.stay e (fun k' hk'=>hn k' (List.mem_cons_of_mem _ hk')) h.2⟩
 | [],_,_,_,h=>by unfold EntsH at h;exact h.elim
 | _ :: _,[],_,_,h=>by unfold EntsH at h;exact h.elim
 | _ :: _,_ :: _,[],_,h=>by unfold EntsH at h;exact h.elim
theorem EntsH.lt{g:G}{u:α}{born:Nat}:∀ {es:List MapEntry} {m:List (α×List β)} {ks:List Tok},EntsH tk t E g u born es m ks→∀ k∈kdrop u m ks,∀ b,k.map Prod.fst=some b→b<g.w.heap.size
 | x :: es,p :: m,k :: ks,h,k',hk',b,hb=>by
  unfold EntsH at h
  unfold kdrop at hk'
  by_cases hp:u=p.1
  ·rw [if_pos hp] at h hk'
   exact h.2.2.lt k' hk' b hb
  ·rw [if_neg hp] at h hk'
   rcases List.mem_cons.1 hk' with rfl | hk'
   ·exact (Own t E k' p.2.length).lt h.1.2.2 hb
   ·exact EntsH.lt h.2 k' hk' b hb
 | [],_,_,h,_,_,_,_=>by unfold EntsH at h;exact h.elim
 | _ :: _,[],_,h,_,_,_,_=>by unfold EntsH at h;exact h.elim
 | _ :: _,_ :: _,[],h,_,_,_,_=>by unfold EntsH at h;exact h.elim
theorem EntsA.find{g:G}(x:α):∀ (es:List MapEntry) (m:List (α×List β)) (ks:List Tok) (i:Nat),EntsA tk t E g es m ks→
  (findAt x (m.map Prod.fst) es i=none∧mhas m x=false∧mget m x []= []∧kgetT x m ks=none)∨
  (∃ j e,findAt x (m.map Prod.fst) es i=some (i+j,e.val)∧es[j]? =some e∧mhas m x=true∧(tO t (kgetT x m ks) (mget m x [])).holds e.val g∧(Own t E (kgetT x m ks) (mget m x []).length).holds g∧(tk.is x).holds e.key g∧
   ∀ key',(tk.is x).holds key' g→EntsH tk t E g x e.born (es.modify j (fun e=>{e with key:=key'})) m ks)
 | [],[],[],i,_=>.inl ⟨rfl,rfl,rfl,rfl⟩
 | e :: es,p :: m,k :: ks,i,⟨⟨h1,h2,h3⟩,h4⟩=>by
  by_cases hp:x=p.1
  ·refine .inr ⟨0,e,by simp [findAt,hp],rfl,by simp [mhas,hp],by simpa [mget,kgetT,hp] using h2,by simpa [mget,kgetT,hp] using h3,by rw [hp];exact h1,fun key' hk=>?_⟩
   show EntsH tk t E g x e.born ({e with key:=key'} :: es) (p :: m) (k :: ks)
   unfold EntsH
   rw [if_pos hp,←hp]
   exact ⟨hk,rfl,h4⟩
  ·rcases EntsA.find x es m ks (i+1) h4 with ⟨k1,k2,k3,k4⟩ | ⟨j,e',k1,k2,k3,k4,k5,k6,k7⟩
   ·exact .inl ⟨by simp only [List.map_cons,findAt,if_neg hp];exact k1,by simpa [mhas,hp] using k2,by simpa [mget,hp] using k3,by simpa [kgetT,hp] using k4⟩
   ·refine .inr ⟨j+1,e',by simp only [List.map_cons,findAt,if_neg hp];rw [k1];congr 2;omega,by simpa using k2,by simpa [mhas,hp] using k3,by simpa [mget,kgetT,hp] using k4,by simpa [mget,kgetT,hp] using k5,k6,fun key' hk=>?_⟩
    show EntsH tk t E g x e'.born (e :: es.modify j _) (p :: m) (k :: ks)
    unfold EntsH
    rw [if_neg hp]
    exact ⟨⟨h1,h2,h3⟩,k7 key' hk⟩
 | [],[],_ :: _,_,h=>h.elim
 | [],_ :: _,_,_,h=>h.elim
 | _ :: _,[],_,_,h=>h.elim
 | _ :: _,_ :: _,[],_,h=>h.elim
theorem EntsA.push{g:G}{x:α}{key' v:Value}{c:Nat}(hk:(tk.is x).holds key' g):∀ {es:List MapEntry} {m:List (α×List β)} {ks:List Tok},EntsA tk t E g es m ks→mhas m x=false→EntsH tk t E g x c (es++ [⟨key',v,c⟩]) (m++ [(x,[])]) (ks++ [none])
 | [],[],[],_,_=>by
  show EntsH tk t E g x c [⟨key',v,c⟩] [(x,[])] [none]
  unfold EntsH
  rw [if_pos rfl]
  exact ⟨hk,rfl,trivial⟩
 | e :: es,p :: m,k :: ks,⟨h,h4⟩,hx=>by
  have hp:¬ x=p.1:=fun hp=>by simp [mhas,hp] at hx
  show EntsH tk t E g x c (e :: (es++_)) (p :: (m++_)) (k :: (ks++_))
  unfold EntsH
  rw [if_neg hp]
  exact ⟨h,EntsA.push hk h4 (by simpa [mhas,hp] using hx)⟩
 | [],[],_ :: _,h,_=>h.elim
 | [],_ :: _,_,h,_=>h.elim
 | _ :: _,[],_,h,_=>h.elim
 | _ :: _,_ :: _,[],h,_=>h.elim
theorem EntsH.store{g:G}{u:α}{born:Nat}{xs:List β}{k':Tok}{v:Value}(hv:(tO t k' xs).holds v g)(ho:(Own t E k' xs.length).holds g):∀ {es:List MapEntry} {m:List (α×List β)} {ks:List Tok},(es.map (·.born)).Nodup→EntsH tk t E g u born es m ks→
  ∃ j,es.findIdx? (fun e=>((e.born:Int)==(born:Int)))=some j∧EntsA tk t E g (es.modify j (fun e=>{e with val:=v})) (mset m u xs) (kput u k' m ks)
 | e :: es,p :: m,k :: ks,hn,h=>by
  unfold EntsH at h
  by_cases hp:u=p.1
  ·rw [if_pos hp] at h
   refine ⟨0,by simp [List.findIdx?_cons,h.2.1],?_⟩
   show EntsA tk t E g ({e with val:=v} :: es) _ _
   simp only [mset,kput,if_pos hp]
   rw [hp]
   exact ⟨⟨h.1,hv,ho⟩,h.2.2⟩
  ·rw [if_neg hp] at h
   have hn':=List.nodup_cons.1 hn
   obtain ⟨j,h1,h2⟩:=EntsH.store hv ho hn'.2 h.2
   have hb:∃ e'∈es,e'.born=born:=by
    have:=List.findIdx?_eq_some_iff_getElem.1 h1
    obtain ⟨hj,h3,_⟩:=this
    exact ⟨es[j],List.getElem_mem hj,by have h3:=eq_of_beq h3;omega⟩
   obtain ⟨e',he',hb⟩:=hb
   have hne:¬ e.born=born:=fun hx=>hn'.1 (by show e.born∈_;rw [hx,←hb];exact List.mem_map_of_mem (f:=(·.born)) he')
   refine ⟨j+1,?_,?_⟩
   ·have:¬ ((e.born:Int)=(born:Int)):=by omega
    simp [List.findIdx?_cons,this,h1]
   ·show EntsA tk t E g (e :: es.modify j _) _ _
    simp only [mset,kput,if_neg hp]
    exact ⟨h.1,h2⟩
 | [],_,_,_,h=>by unfold EntsH at h;exact h.elim
 | _ :: _,[],_,_,h=>by unfold EntsH at h;exact h.elim
 | _ :: _,_ :: _,[],_,h=>by unfold EntsH at h;exact h.elim
end
section
variable {P:Program} {N:Nat} {g0:G} {T0:Nat→Prop} {env:Env} {res:Rs} {d:Option Tmp} {ty:TypeId} {pos:String} {aft:Array Edge} {gd:Option (Nat×Bool)} {α β:Type} {tk:Ty α} {t:Ty β} {E:TypeId}
end
section
variable {P:Program} {N:Nat} {g0:G} {T0:Nat→Prop} {env:Env} {res:Rs} {d:Option Tmp} {ty:TypeId} {pos:String} {aft:Array Edge} {gd:Option (Nat×Bool)} {α β:Type} [DecidableEq α] {tk:Ty α} {t:Ty β} {E:TypeId}
end
section
variable {P:Program} {env:Env} {res:Rs} {d:Option Tmp} {ty:TypeId} {pos:String} {aft:Array Edge} {gd:Option (Nat×Bool)}
end
def tMb{α β:Type}(b:Nat):Ty (List (α×β)) where
 size:=1
 agg:=false
 rep:=fun _ cs _=>cs= [.map (some b)]
 len:=fun h=>by rw [h];rfl
 one:=fun h c hc=>by
  rw [h] at hc
  rw [List.mem_singleton.1 hc];rfl
 mono:=fun _ h=>h
 sing:=fun _=>rfl
section
variable {P:Program} {env:Env} {res:Rs}
theorem Opd.toMb{α β:Type}{b:Nat}{x:Operand}{m:List (α×β)}(h:Opd env x (Mv b)):Opd env x ((tMb b).is m):=h.weak fun v g hv=>⟨[.map (some b)],rfl,hv⟩
theorem Op1.ofMb{α β:Type}{b:Nat}{m:List (α×β)}{o:Oper}(h:Op1 P o env res ((tMb b).is m)):Op1 P o env res (Mv b):=h.weak fun v g ⟨cs,h1,h2⟩=>by
 have h1:cs= [.map (some b)]:=h1
 subst h1
 exact h2
end
def CvT(g:G){α:Type}(s t:Ty α)(x y:α):Prop:=∀ cs,s.rep g cs x→t.rep g cs y
theorem CvT.pair{g:G}{α β:Type}{s s':Ty α}{t t':Ty β}{x y:α×β}(h:CvT g s s' x.1 y.1)(k:CvT g t t' x.2 y.2):CvT g (tP s t) (tP s' t') x y:=by
 rintro cs ⟨c1,c2,rfl,h1,h2⟩
 exact ⟨c1,c2,rfl,h _ h1,k _ h2⟩
theorem CvT.one{g:G}{α:Type}{s s':Ty α}{x y:α}(h:CvT g s s' x y):CvT g (tOne s) (tOne s') x y:=h
theorem CvT.map{g:G}{α β:Type}{t t':Ty β}{m:α→β}{x y:α}(h:CvT g t t' (m x) (m y)):CvT g (tMap t m) (tMap t' m) x y:=h
theorem CvT.same{g:G}{α:Type}{t:Ty α}{x:α}:CvT g t t x x:=fun _ h=>h
theorem CvT.own{g:G}{α:Type}{t:Ty α}{k:Tok}{x:List α}:CvT g (tOT t k) (tL t) x x:=fun cs h=>(tOT_le t k).rep g cs x h
theorem CvT.is{g:G}{α:Type}{s t:Ty α}{x y:α}{v:Value}(ha:s.agg=t.agg)(h:CvT g s t x y)(hv:(s.is x).holds v g):(t.is y).holds v g:=by
 obtain ⟨cs,h1,h2⟩:=hv
 exact ⟨cs,h _ h1,by rw [←ha];exact h2⟩
theorem CvT.at{g:G}{α:Type}{s t:Ty α}{x y:α}{v:Value}(h:CvT g s t x y)(hv:(s.ptr x).holds v g):(t.ptr y).holds v g:=by
 obtain ⟨b,o,h0,cs,h1,h2⟩:=hv
 exact ⟨b,o,h0,cs,h _ h1,h2⟩
section
variable {P:Program} {N:Nat} {g0:G} {T0:Nat→Prop} {env:Env} {res:Rs}
theorem St.slotG{s:Nat}{A A':Asn}(hs:look s env=some A)(hA:∀ v g,res.all g→A.holds v g→A'.holds v g){a:Act}{g:G}(h:St N g0 T0 env res a g):St N g0 T0 ((s,A') :: env) res a g:=by
 refine ⟨h.sz,h.dfr,fun s' B hB=>?_,h.hres,h.dis,h.own,h.ext⟩
 by_cases hk:s=s'
 ·subst hk
  rw [look_here] at hB
  cases hB
  exact hA _ _ h.hres (h.henv s _ hs)
 ·rw [look_there _ _ hk] at hB
  exact h.henv s' B hB
theorem W.slotG{c:Code}{ks:List KF}{B:Exit→Act→World→Prop}{A:Asn}(A':Asn)(s:Nat)(hs:look s env=some A)(hA:∀ v g,res.all g→A.holds v g→A'.holds v g)(k:W P N g0 T0 c ks B ((s,A') :: env) res):W P N g0 T0 c ks B env res:=fun a g h=>k a g (h.slotG hs hA)
theorem St.boxG{n:Nat}{agg:Bool}{T:TypeId}{A A':Asn}{b key:Nat}(h1:findR key res=some (Bx n agg T A b))(hA:∀ v g,res.all g→A.holds v g→A'.holds v g){a:Act}{g:G}(h:St N g0 T0 env res a g):St N g0 T0 env ((key,Bx n agg T A' b) :: res.drop [key]) a g:=by
 have m1:=findR_mem h1
 have hd:∀ y∈res.drop [key],y∈res∧y.1≠key:=fun y hy=>by
  have:=List.mem_filter.1 hy
  refine ⟨this.1,fun e=>?_⟩
  have h3:=this.2
  rw [memB_iff.2 (show y.1∈ [key] by rw [e];simp)] at h3;cases h3
 refine ⟨h.sz,h.dfr,h.henv,fun y hy=>?_,?_,fun b' ⟨y,hy,hb⟩=>?_,h.ext⟩
 ·rcases List.mem_cons.1 hy with rfl | hy
  ·obtain ⟨cs,q1,q2,q3,q4,q5,q6⟩:=h.hres _ m1
   exact ⟨cs,q1,q2,q3,q4,q5,hA _ _ h.hres q6⟩
  ·exact h.hres y (hd y hy).1
 ·refine List.pairwise_cons.2 ⟨fun y hy b' hb'=>?_,h.dis.filter _⟩
  exact h.dis.two _ m1 _ (hd y hy).1 (Ne.symm (hd y hy).2) b' hb'
 ·rcases List.mem_cons.1 hy with rfl | hy
  ·exact h.own b' ⟨_,m1,hb⟩
  ·exact h.own b' ⟨y,(hd y hy).1,hb⟩
theorem WL.boxG{ops:Array Oper}{Q:Exit→Act→World→Prop}{l:List Oper}{n:Nat}{agg:Bool}{T:TypeId}{A:Asn}{b:Nat}(A':Asn)(key:Nat)(h1:findR key res=some (Bx n agg T A b))(hA:∀ v g,res.all g→A.holds v g→A'.holds v g)(k:WL P N g0 T0 ops Q l env ((key,Bx n agg T A' b) :: res.drop [key])):WL P N g0 T0 ops Q l env res:=fun a g hst=>k a g (hst.boxG h1 hA)
theorem Rs.all.at{g:G}{key:Nat}{R:Res}(h:res.all g)(hr:findR key res=some R):R.holds g:=h _ (findR_mem hr)
end
end Go.Dec
