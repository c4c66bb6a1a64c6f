/-
  Many resources under one key; one of them may be taken out and put back. Facts as resources. Loose slices that are cut behind.
-/
import Derived.Test.YtofaogkcifaioaaDoorDec34
set_option linter.unusedVariables false
set_option linter.unusedSimpArgs false
namespace Go.Dec
open Go
def Many(l:List Res):Res where
 blk:=fun x=>∃ R∈l,R.blk x
 holds:=fun g=>(∀ R∈l,R.holds g)∧l.Pairwise (fun (R R':Res)=>∀ b:Nat,R.blk b→¬ R'.blk b)
 stay:=fun e hn h=>⟨fun R hR=>R.stay e (fun b hb=>hn b ⟨R,hR,hb⟩) (h.1 R hR),h.2⟩
 lt:=fun h ⟨R,hR,hb⟩=>R.lt (h.1 R hR) hb
def Fact(p:Prop):Res where
 blk:=fun _=>False
 holds:=fun _=>p
 stay:=fun _ _ h=>h
 lt:=fun _ h=>h.elim
section
variable {P:Program} {N:Nat} {g0:G} {T0:Nat→Prop} {env:Env} {res:Rs}
theorem St.toRes{res':Rs}{a:Act}{g:G}(h:St N g0 T0 env res a g)(ha:res'.all g)(hd:res'.dis)(hb:∀ b,res'.blks b→res.blks b):St N g0 T0 env res' a g:=
 ⟨h.sz,h.dfr,h.henv,ha,hd,fun b hx=>h.own b (hb b hx),h.ext⟩
theorem Rs.drop_mem{ks:List Nat}{y:Nat×Res}(h:y∈res.drop ks):y∈res∧y.1 ∉ ks:=by
 have:=List.mem_filter.1 h
 refine ⟨this.1,fun e=>?_⟩
 have h3:=this.2
 rw [memB_iff.2 e] at h3;cases h3
theorem pw_mid{l1 l2:List Res}{m:List Res}{Q:Res→Res→Prop}(hs:∀ x y,Q x y→Q y x)(h:(l1++m++l2).Pairwise Q):m.Pairwise Q∧(l1++l2).Pairwise Q∧ ∀ x∈m,∀ y∈l1++l2,Q x y:=by
 have h1:=List.pairwise_append.1 h
 have h2:=List.pairwise_append.1 h1.1
 refine ⟨h2.2.1,List.pairwise_append.2 ⟨h2.1,h1.2.1,fun x hx y hy=>h1.2.2 x (List.mem_append.2 (.inl hx)) y hy⟩,fun x hx y hy=>?_⟩
 rcases List.mem_append.1 hy with hy | hy
 ·exact hs _ _ (h2.2.2 y hy x hx)
 ·exact h1.2.2 x (List.mem_append.2 (.inr hx)) y hy
theorem mid_pw{l1 l2:List Res}{m:List Res}{Q:Res→Res→Prop}(hs:∀ x y,Q x y→Q y x)(h1:m.Pairwise Q)(h2:(l1++l2).Pairwise Q)(h3:∀ x∈m,∀ y∈l1++l2,Q x y):(l1++m++l2).Pairwise Q:=by
 have h4:=List.pairwise_append.1 h2
 refine List.pairwise_append.2 ⟨List.pairwise_append.2 ⟨h4.1,h1,fun x hx y hy=>hs _ _ (h3 y hy x (List.mem_append.2 (.inl hx)))⟩,h4.2.1,fun x hx y hy=>?_⟩
 rcases List.mem_append.1 hx with hx | hx
 ·exact h4.2.2 x hx y hy
 ·exact h3 x hx y (List.mem_append.2 (.inr hy))
theorem apart_symm(x y:Res)(h:∀ b,x.blk b→¬ y.blk b):∀ b,y.blk b→¬ x.blk b:=fun b hy hx=>h b hx hy
theorem St.open2{l1 l2:List Res}{R1 R2:Res}{key k1 k2:Nat}(hr:findR key res=some (Many (l1++ [R1,R2]++l2))){a:Act}{g:G}(h:St N g0 T0 env res a g) :
  St N g0 T0 env ((k1,R1) :: (k2,R2) :: (key,Many (l1++l2)) :: res.drop [key]) a g:=by
 have hin:=findR_mem hr
 obtain ⟨hm,hp⟩:=h.hres _ hin
 obtain ⟨p1,p2,p3⟩:=pw_mid apart_symm hp
 have p1':=(List.pairwise_cons.1 p1).1 R2 (by simp)
 have hd:∀ y∈res.drop [key],y∈res∧y.1≠key:=fun y hy=>by have:=Rs.drop_mem hy;exact ⟨this.1,by simpa using this.2⟩
 have hrest:∀ R,R∈l1++ [R1,R2]++l2→∀ y∈res.drop [key],∀ b,R.blk b→¬ y.2.blk b:=fun R hR y hy b hb=>
  h.dis.two _ hin y (hd y hy).1 (Ne.symm (hd y hy).2) b ⟨R,hR,hb⟩
 refine h.toRes (fun x hx=>?_) ?_ (fun b ⟨x,hx,hb⟩=>?_)
 ·rcases List.mem_cons.1 hx with rfl | hx
  ·exact hm _ (by simp)
  rcases List.mem_cons.1 hx with rfl | hx
  ·exact hm _ (by simp)
  rcases List.mem_cons.1 hx with rfl | hx
  ·exact ⟨fun R hR=>hm R (by rcases List.mem_append.1 hR with h | h<;> simp [h]),p2⟩
  ·exact h.hres x (hd x hx).1
 ·refine List.pairwise_cons.2 ⟨fun y hy b hb=>?_,List.pairwise_cons.2 ⟨fun y hy b hb=>?_,List.pairwise_cons.2 ⟨fun y hy b hb=>?_,h.dis.filter _⟩⟩⟩
  ·rcases List.mem_cons.1 hy with rfl | hy
   ·exact p1' b hb
   rcases List.mem_cons.1 hy with rfl | hy
   ·rintro ⟨R,hR,hRb⟩;exact p3 R1 (by simp) R hR b hb hRb
   ·exact hrest R1 (by simp) y hy b hb
  ·rcases List.mem_cons.1 hy with rfl | hy
   ·rintro ⟨R,hR,hRb⟩;exact p3 R2 (by simp) R hR b hb hRb
   ·exact hrest R2 (by simp) y hy b hb
  ·obtain ⟨R,hR,hRb⟩:=hb
   exact hrest R (by rcases List.mem_append.1 hR with h | h<;> simp [h]) y hy b hRb
 ·rcases List.mem_cons.1 hx with rfl | hx
  ·exact ⟨_,hin,R1,by simp,hb⟩
  rcases List.mem_cons.1 hx with rfl | hx
  ·exact ⟨_,hin,R2,by simp,hb⟩
  rcases List.mem_cons.1 hx with rfl | hx
  ·obtain ⟨R,hR,hRb⟩:=hb
   exact ⟨_,hin,R,by rcases List.mem_append.1 hR with h | h<;> simp [h],hRb⟩
  ·exact ⟨x,(hd x hx).1,hb⟩
theorem St.close2(l1 l2:List Res){R1 R2:Res}{key k1 k2:Nat}(h1:findR k1 res=some R1)(h2:findR k2 res=some R2)(hr:findR key res=some (Many (l1++l2)))(hk:k1≠k2∧k1≠key∧k2≠key){a:Act}{g:G}(h:St N g0 T0 env res a g) :
  St N g0 T0 env ((key,Many (l1++ [R1,R2]++l2)) :: res.drop [k1,k2,key]) a g:=by
 obtain ⟨hk1,hk2,hk3⟩:=hk
 have i1:=findR_mem h1
 have i2:=findR_mem h2
 have i3:=findR_mem hr
 obtain ⟨hm,hp⟩:=h.hres _ i3
 have hd:∀ y∈res.drop [k1,k2,key],y∈res∧y.1≠k1∧y.1≠k2∧y.1≠key:=fun y hy=>by have:=Rs.drop_mem hy;exact ⟨this.1,by simpa using this.2⟩
 have d12:=h.dis.two _ i1 _ i2 hk1
 have d13:=h.dis.two _ i1 _ i3 hk2
 have d23:=h.dis.two _ i2 _ i3 hk3
 refine h.toRes (fun x hx=>?_) ?_ (fun b ⟨x,hx,hb⟩=>?_)
 ·rcases List.mem_cons.1 hx with rfl | hx
  ·refine ⟨fun R hR=>?_,mid_pw apart_symm (by simpa using d12) hp (fun x hx y hy b hb hyb=>?_)⟩
   ·rcases List.mem_append.1 hR with hR | hR
    ·rcases List.mem_append.1 hR with hR | hR
     ·exact hm R (by simp [hR])
     ·rcases List.mem_cons.1 hR with rfl | hR
      ·exact h.hres _ i1
      ·rw [List.mem_singleton.1 hR];exact h.hres _ i2
    ·exact hm R (by simp [hR])
   ·rcases List.mem_cons.1 hx with rfl | hx
    ·exact d13 b hb ⟨y,hy,hyb⟩
    ·rw [List.mem_singleton.1 hx] at hb;exact d23 b hb ⟨y,hy,hyb⟩
  ·exact h.hres x (hd x hx).1
 ·refine List.pairwise_cons.2 ⟨fun y hy b hb hyb=>?_,h.dis.filter _⟩
  obtain ⟨hy1,hy2,hy3,hy4⟩:=hd y hy
  obtain ⟨R,hR,hRb⟩:=hb
  rcases List.mem_append.1 hR with hR | hR
  ·rcases List.mem_append.1 hR with hR | hR
   ·exact h.dis.two _ i3 y hy1 (Ne.symm hy4) b ⟨R,by simp [hR],hRb⟩ hyb
   ·rcases List.mem_cons.1 hR with rfl | hR
    ·exact h.dis.two _ i1 y hy1 (Ne.symm hy2) b hRb hyb
    ·rw [List.mem_singleton.1 hR] at hRb;exact h.dis.two _ i2 y hy1 (Ne.symm hy3) b hRb hyb
  ·exact h.dis.two _ i3 y hy1 (Ne.symm hy4) b ⟨R,by simp [hR],hRb⟩ hyb
 ·rcases List.mem_cons.1 hx with rfl | hx
  ·obtain ⟨R,hR,hRb⟩:=hb
   rcases List.mem_append.1 hR with hR | hR
   ·rcases List.mem_append.1 hR with hR | hR
    ·exact ⟨_,i3,R,by simp [hR],hRb⟩
    ·rcases List.mem_cons.1 hR with rfl | hR
     ·exact ⟨_,i1,hRb⟩
     ·rw [List.mem_singleton.1 hR] at hRb;exact ⟨_,i2,hRb⟩
   ·exact ⟨_,i3,R,by simp [hR],hRb⟩
  ·exact ⟨x,(hd x hx).1,hb⟩
theorem St.turn{R R':Res}{key:Nat}(hr:findR key res=some R)(hh:∀ g,R.holds g→R'.holds g)(hb:∀ b,R'.blk b→R.blk b){a:Act}{g:G}(h:St N g0 T0 env res a g):St N g0 T0 env ((key,R') :: res.drop [key]) a g:=by
 have hin:=findR_mem hr
 have hd:∀ y∈res.drop [key],y∈res∧y.1≠key:=fun y hy=>by have:=Rs.drop_mem hy;exact ⟨this.1,by simpa using this.2⟩
 refine h.toRes (fun x hx=>?_) (List.pairwise_cons.2 ⟨fun y hy b hbb=>?_,h.dis.filter _⟩) (fun b ⟨x,hx,hbx⟩=>?_)
 ·rcases List.mem_cons.1 hx with rfl | hx
  ·exact hh g (h.hres _ hin)
  ·exact h.hres x (hd x hx).1
 ·exact h.dis.two _ hin y (hd y hy).1 (Ne.symm (hd y hy).2) b (hb b hbb)
 ·rcases List.mem_cons.1 hx with rfl | hx
  ·exact ⟨_,hin,hb b hbx⟩
  ·exact ⟨x,(hd x hx).1,hbx⟩
theorem St.free{R:Res}(key:Nat)(hb:∀ b,¬ R.blk b){a:Act}{g:G}(hh:R.holds g)(h:St N g0 T0 env res a g):St N g0 T0 env ((key,R) :: res) a g:=
 h.toRes (fun x hx=>by rcases List.mem_cons.1 hx with rfl | hx;exact hh;exact h.hres x hx) (List.pairwise_cons.2 ⟨fun y hy b hbb=>absurd hbb (hb b),h.dis⟩)
  (fun b ⟨x,hx,hbx⟩=>by rcases List.mem_cons.1 hx with rfl | hx;exact absurd hbx (hb b);exact ⟨x,hx,hbx⟩)
variable {c:Code} {ks:List KF} {B:Exit→Act→World→Prop} {ops:Array Oper} {Q:Exit→Act→World→Prop} {l:List Oper}
theorem W.chg{env':Env}{res':Rs}(hr:∀ a g,St N g0 T0 env res a g→St N g0 T0 env' res' a g)(h:W P N g0 T0 c ks B env' res'):W P N g0 T0 c ks B env res:=fun a g hst=>h a g (hr a g hst)
theorem WN.chg{env':Env}{res':Rs}(hr:∀ a g,St N g0 T0 env res a g→St N g0 T0 env' res' a g)(h:WN P N g0 T0 ks B env' res'):WN P N g0 T0 ks B env res:=fun a g hst=>h a g (hr a g hst)
theorem WL.chgE{env':Env}{res':Rs}(hr:∀ a g,St N g0 T0 env res a g→St N g0 T0 env' res' a g)(h:WL P N g0 T0 ops Q l env' res'):WL P N g0 T0 ops Q l env res:=fun a g hst=>h a g (hr a g hst)
theorem W.know{p:Prop}(hp:∀ a g,St N g0 T0 env res a g→p)(h:p→W P N g0 T0 c ks B env res):W P N g0 T0 c ks B env res:=fun a g hst=>h (hp a g hst) a g hst
theorem WN.know{p:Prop}(hp:∀ a g,St N g0 T0 env res a g→p)(h:p→WN P N g0 T0 ks B env res):WN P N g0 T0 ks B env res:=fun a g hst=>h (hp a g hst) a g hst
theorem WL.know{p:Prop}(hp:∀ a g,St N g0 T0 env res a g→p)(h:p→WL P N g0 T0 ops Q l env res):WL P N g0 T0 ops Q l env res:=fun a g hst=>h (hp a g hst) a g hst
theorem St.slotA{s:Nat}{A A':Asn}(hs:look s env=some A)(hA:∀ v g,A.holds v g→A'.holds v g){a:Act}{g:G}(h:St N g0 T0 env res a g):St N g0 T0 ((s,A') :: env) res a g:=
 h.slotG hs (fun v g _ hv=>hA v g hv)
def tNpO(bs:List Nat):Ty (Option Nat) where
 size:=1
 agg:=false
 rep:=fun _ cs j=>match j with
  | none=>cs= [.pointer none]
  | some j=>∃ b,bs[j]? =some b∧cs= [.pointer (some ⟨b,0,none⟩)]
 len:=fun {g cs x} h=>by
  cases x with
  | none=>rw [h];rfl
  | some j=>obtain ⟨_,_,h⟩:=h;rw [h];rfl
 one:=fun {g cs x} h c hc=>by
  cases x with
  | none=>rw [h] at hc;rw [List.mem_singleton.1 hc];rfl
  | some j=>obtain ⟨_,_,h⟩:=h;rw [h] at hc;rw [List.mem_singleton.1 hc];rfl
 mono:=fun _ h=>h
 sing:=fun _=>rfl
def tNp(bs:List Nat):Ty Nat:=tMap (tNpO bs) some
theorem Row.mapT{α β:Type}{t:Ty β}{f:α→β}{g:G}{p:Option Addr}{xs:List α}(h:Row t g p (xs.map f)):Row (tMap t f) g p xs:=by
 cases p with
 | none=>exact List.map_eq_nil_iff.1 h
 | some a=>
  refine ⟨h.1.imp (fun e=>List.map_eq_nil_iff.1 e) id,fun i x hx=>?_⟩
  exact h.2 i (f x) (by rw [List.getElem?_map,hx];rfl)
theorem tO_map{α β:Type}{t:Ty β}{f:α→β}{k:Tok}{xs:List α}{v:Value}{g:G}(h:(tO t k (xs.map f)).holds v g):(tO (tMap t f) k xs).holds v g:=by
 obtain ⟨h1,h2,h3,h4⟩:=h
 rw [List.length_map] at h1 h2 h3
 exact ⟨h1,h2,h3,h4.mapT⟩
theorem tL_map{α β:Type}{t:Ty β}{f:α→β}{xs:List α}{v:Value}{g:G}(h:((tL t).is (xs.map f)).holds v g):((tL (tMap t f)).is xs).holds v g:=by
 obtain ⟨cs,⟨p,c,h1,h2,h3,h4,h5⟩,h6⟩:=h
 rw [List.length_map] at h1 h2 h3
 exact ⟨cs,⟨p,c,h1,h2,h3,h4,h5.mapT⟩,h6⟩
theorem OpR.bsMap{P:Program}{env:Env}{res:Rs}{o:Oper}{us:List Nat}{α β:Type}{t:Ty β}{f:α→β}{xs:List α}{E:TypeId}{key:Nat}(h:OpR P o env res us (fun k:Tok=>tO t k (xs.map f)) (fun k=>[(key,Own t E k (xs.map f).length)])) :
  OpR P o env res us (fun k:Tok=>tO (tMap t f) k xs) (fun k=>[(key,Own (tMap t f) E k xs.length)]):=by
 intro a g K Q hc hd hK
 refine h a g K Q hc hd fun k v g1 e hv ho hod hob=>hK k v g1 e (tO_map hv) (fun y hy=>?_) (List.pairwise_singleton _ _) ?_
 ·rw [List.mem_singleton.1 hy]
  have:=ho _ (List.mem_singleton.2 rfl)
  rw [List.length_map] at this
  exact this
 ·rintro b ⟨y,hy,hb⟩
  rw [List.mem_singleton.1 hy] at hb
  exact hob b ⟨_,List.mem_singleton.2 rfl,hb⟩
theorem Flat.Np{bs:List Nat}:Flat (tNp bs):=fun _ _ _ _ h=>h
theorem tNp_le{bs:List Nat}(cs:List Nat):Le (tNp bs) (tNp (bs++cs)):=⟨rfl,rfl,fun g vs j ⟨b,h1,h2⟩=>⟨b,by rw [List.getElem?_append_left (List.getElem?_eq_some_iff.1 h1).1];exact h1,h2⟩⟩
theorem tNp_at{bs:List Nat}{j b:Nat}(hb:bs[j]? =some b){v:Value}{g:G}(h:((tNp bs).is j).holds v g):(Bp b 0).holds v g:=by
 obtain ⟨cs,⟨b',h1,h2⟩,h3⟩:=h
 rw [hb] at h1;cases h1;subst h2;exact h3
theorem Opd.toNp{bs:List Nat}{j b:Nat}(hb:bs[j]? =some b){x:Operand}(h:Opd env x (Bp b 0)):Opd env x ((tNp bs).is j):=h.weak fun v g hv=>⟨[v],⟨b,hb,by rw [show v=_ from hv]⟩,rfl⟩
theorem Own.le{α:Type}{s t:Ty α}(l:Le s t){E:TypeId}{k:Tok}{n:Nat}{g:G}(h:(Own s E k n).holds g):(Own t E k n).holds g:=by
 cases k with
 | none=>exact h
 | some p=>
  obtain ⟨cur,h1,h2,h3,h4,h5⟩:=h
  exact ⟨cur,h1,by rw [←l.size];exact h2,h3,h4,by rw [←l.size];exact h5⟩
theorem Le.o{α:Type}{s t:Ty α}(l:Le s t){k:Tok}{xs:List α}{v:Value}{g:G}(h:(tO s k xs).holds v g):(tO t k xs).holds v g:=⟨h.1,h.2.1,h.2.2.1,h.2.2.2.le l⟩
theorem Le.ot{α:Type}{s t:Ty α}(l:Le s t)(k:Tok):Le (tOT s k) (tOT t k):=⟨rfl,rfl,fun g cs x ⟨v,h1,h2⟩=>⟨v,h1,l.o h2⟩⟩
theorem Cells.le{α:Type}{s t:Ty α}(l:Le s t){g:G}{cs:List Value}{xs:List α}(h:Cells s g cs xs):Cells t g cs xs:=
 ⟨by rw [←l.size];exact h.1,h.2.1,fun i x hx=>by
  obtain ⟨ds,h1,h2⟩:=h.2.2 i x hx
  exact ⟨ds,l.rep _ _ _ h1,by rw [←l.size];exact h2⟩⟩
theorem OwnU.le{α:Type}{s t:Ty α}(l:Le s t){E:TypeId}{k:Tok}{xs:List α}{g:G}(h:(OwnU s E k xs).holds g):(OwnU t E k xs).holds g:=by
 cases k with
 | none=>exact h
 | some p=>
  obtain ⟨cur,h1,h2,h3,h4,h5,h6⟩:=h
  exact ⟨cur,h1,by rw [←l.size];exact h2,h3,h4,h5,by rw [←l.size];exact h6.le l⟩
theorem Bx.le{α:Type}{s t:Ty α}(l:Le s t){n:Nat}{agg:Bool}{T:TypeId}{u:α}{b:Nat}{g:G}(h:(Bx n agg T (s.is u) b).holds g):(Bx n agg T (t.is u) b).holds g:=by
 obtain ⟨cs,h1,h2,h3,h4,h5,h6⟩:=h
 exact ⟨cs,h1,h2,h3,h4,h5,l.is h6⟩
theorem Cells.take{α:Type}{t:Ty α}{g:G}{cs:List Value}{xs:List α}(j:Nat)(hj:j≤xs.length)(h:Cells t g cs xs):Cells t g (cs.take (j*t.size)) (xs.take j):=by
 obtain ⟨h1,h2,h3⟩:=h
 have hm:=Nat.mul_le_mul_right t.size hj
 refine ⟨by rw [List.length_take,List.length_take,h1,Nat.min_eq_left hm,Nat.min_eq_left hj],fun c hc=>h2 c (List.mem_of_mem_take hc),fun i x hx=>?_⟩
 rw [List.getElem?_take] at hx
 split at hx
 ·rename_i hij
  obtain ⟨ds,k1,k2⟩:=h3 i x hx
  refine ⟨ds,k1,fun q v hq=>?_⟩
  have hql:=(List.getElem?_eq_some_iff.1 hq).1
  rw [t.len k1] at hql
  have:=Nat.mul_le_mul_right t.size (show i+1≤j by omega)
  rw [Nat.add_mul,Nat.one_mul] at this
  rw [List.getElem?_take,if_pos (by omega)]
  exact k2 q v hq
 ·cases hx
theorem OwnU.take{α:Type}{t:Ty α}{E:TypeId}{k:Tok}{xs:List α}{g:G}(j:Nat)(hj:j≤xs.length)(h:(OwnU t E k xs).holds g):(OwnU t E k (xs.take j)).holds g:=by
 cases k with
 | none=>
  have h:xs= []:=h
  show xs.take j= []
  rw [h];simp
 | some p=>
  obtain ⟨cur,h1,h2,h3,h4,h5,h6⟩:=h
  have hm:=Nat.mul_le_mul_right t.size hj
  refine ⟨cur,h1,h2,by rw [List.length_take];omega,h4,h5,?_⟩
  have:=h6.take j hj
  rw [List.take_take,Nat.min_eq_left hm] at this
  rw [List.length_take,Nat.min_eq_left hj]
  exact this
end
section
variable {P:Program} {env:Env} {res:Rs} {d:Option Tmp} {ty:TypeId} {pos:String} {aft:Array Edge} {gd:Option (Nat×Bool)}
theorem Op1.sliceUhi{kk:IntKind}{k:Tok}{n m:Nat}{x y:Operand}{j:Int}{T e:TypeId}{sz:Nat}(hT:P.underlying T=some (.slice e))(hsz:∀ w,(sizeOf e).run P w= .ok sz w)(hx:Opd env x (tU k n))(hy:Opd env y ((tI kk).is j))(h0:0≤j)(h1:j≤n)(hm:m=j.toNat) :
  Op1 P ⟨d,.slice T x none (some y) none,ty,pos,aft,gd⟩ env res (tU k m):=
 Op1.same fun a g hc=>by
  obtain ⟨hv,h2,h3⟩:=hx a g hc.henv
  have hyv:=(hy.atInt hc).1
  subst hm
  have hb:(Instr.sliceBounds true n k.cap none (some (a.eval y)) none).run P g.w= .ok (0,j.toNat,k.cap) g.w:=by
   rw [hyv]
   have h5:j.toNat≤k.cap:=by omega
   simp [Instr.sliceBounds,Instr.sliceBound,asIntOf,h0,h5]
   omega
  refine ⟨.slice k.addr j.toNat k.cap,?_,rfl,by omega,by omega⟩
  simp [execOp,hv,Instr.sliceAt,Instr.slice,run_underlying hT,hb,hsz]
  intro _
  cases k with
  | none=>rfl
  | some p=>simp [Tok.addr,Addr.add]
end
end Go.Dec
