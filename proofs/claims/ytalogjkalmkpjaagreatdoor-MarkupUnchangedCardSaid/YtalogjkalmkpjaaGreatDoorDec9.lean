/-
  Readings of types that hold themselves; equality of structs.
-/
import Derived.Test.YtalogjkalmkpjaaGreatDoorDec8
import Derived.Laws.StructEq
set_option linter.unusedVariables false
set_option linter.unusedSimpArgs false
namespace Go.Dec
open Go
theorem Fld.one{α:Type}(s:Ty α):Fld (tOne s) 0 s (fun x=>x):=Fld.last s
theorem FldSet.one{α:Type}(s:Ty α):FldSet (tOne s) 0 s (fun _ y=>y):=FldSet.last s
def tNone(α:Type)(n:Nat)(agg:Bool)(h:agg=false→n=1):Ty α where
 size:=n
 agg:=agg
 rep:=fun _ _ _=>False
 len:=fun h=>h.elim
 one:=fun h=>h.elim
 mono:=fun _ h=>h
 sing:=h
def itr{α:Type}(F:Ty α→Ty α)(z:Ty α):Nat→Ty α
 | 0=>z
 | d+1=>F (itr F z d)
structure Le {α:Type} (s t:Ty α):Prop where
 size:s.size=t.size
 agg:s.agg=t.agg
 rep:∀ g cs x,s.rep g cs x→t.rep g cs x
theorem Le.refl{α:Type}(s:Ty α):Le s s:=⟨rfl,rfl,fun _ _ _ h=>h⟩
theorem Le.trans{α:Type}{s t u:Ty α}(h:Le s t)(k:Le t u):Le s u:=⟨h.size.trans k.size,h.agg.trans k.agg,fun g cs x hx=>k.rep g cs x (h.rep g cs x hx)⟩
theorem Le.At{α:Type}{s t:Ty α}(h:Le s t){g:G}{b o:Nat}{x:α}(ha:s.At g b o x):t.At g b o x:=
 let ⟨cs,h1,h2⟩:=ha;⟨cs,h.rep g cs x h1,h2⟩
def tSup{α:Type}(c:Nat→Ty α)(hs:∀ d,(c d).size=(c 0).size)(ha:∀ d,(c d).agg=(c 0).agg):Ty α where
 size:=(c 0).size
 agg:=(c 0).agg
 rep:=fun g cs x=>∃ d,(c d).rep g cs x
 len:=fun ⟨d,h⟩=>((c d).len h).trans (hs d)
 one:=fun ⟨d,h⟩=>(c d).one h
 mono:=fun e ⟨d,h⟩=>⟨d,(c d).mono e h⟩
 sing:=(c 0).sing
structure Chain {α:Type} (c:Nat→Ty α):Prop where
 step:∀ d,Le (c d) (c (d+1))
theorem Chain.le{α:Type}{c:Nat→Ty α}(h:Chain c){d e:Nat}(hde:d≤e):Le (c d) (c e):=by
 induction hde with
 | refl=>exact Le.refl _
 | step _ ih=>exact ih.trans (h.step _)
theorem Chain.size{α:Type}{c:Nat→Ty α}(h:Chain c)(d:Nat):(c d).size=(c 0).size:=(h.le (Nat.zero_le d)).size.symm
theorem Chain.agg{α:Type}{c:Nat→Ty α}(h:Chain c)(d:Nat):(c d).agg=(c 0).agg:=(h.le (Nat.zero_le d)).agg.symm
def Chain.sup{α:Type}{c:Nat→Ty α}(h:Chain c):Ty α:=tSup c h.size h.agg
theorem Chain.up{α:Type}{c:Nat→Ty α}(h:Chain c)(d:Nat):Le (c d) h.sup:=⟨h.size d,h.agg d,fun g cs x hx=>⟨d,hx⟩⟩
structure Cont {α β:Type} (F:Ty α→Ty β):Prop where
 mono:∀ {s t},Le s t→Le (F s) (F t)
 sup:∀ {c:Nat→Ty α} (h:Chain c) g cs x,(F h.sup).rep g cs x→∃ d,(F (c d)).rep g cs x
theorem Cont.const{α β:Type}(t:Ty β):Cont (fun _:Ty α=>t):=⟨fun _=>Le.refl _,fun _ _ _ _ h=>⟨0,h⟩⟩
theorem Cont.id{α:Type}:Cont (fun s:Ty α=>s):=⟨fun h=>h,fun h g cs x hx=>hx⟩
theorem Cont.at{α β:Type}{F:Ty α→Ty β}(hF:Cont F){c:Nat→Ty α}(h:Chain c){d e:Nat}(hde:d≤e):Le (F (c d)) (F (c e)):=hF.mono (h.le hde)
theorem Cont.pair{α β γ:Type}{F:Ty α→Ty β}{K:Ty α→Ty γ}(hF:Cont F)(hK:Cont K):Cont (fun s=>tP (F s) (K s)):=by
 refine ⟨fun {s t} h=>⟨?_,rfl,?_⟩,fun {c} h g cs x hx=>?_⟩
 ·show (F s).size+(K s).size=_
  rw [(hF.mono h).size,(hK.mono h).size];rfl
 ·rintro g cs x ⟨c1,c2,rfl,h1,h2⟩
  exact ⟨c1,c2,rfl,(hF.mono h).rep _ _ _ h1,(hK.mono h).rep _ _ _ h2⟩
 ·obtain ⟨c1,c2,rfl,h1,h2⟩:=hx
  obtain ⟨d1,k1⟩:=hF.sup h _ _ _ h1
  obtain ⟨d2,k2⟩:=hK.sup h _ _ _ h2
  exact ⟨max d1 d2,c1,c2,rfl,(hF.at h (Nat.le_max_left _ _)).rep _ _ _ k1,(hK.at h (Nat.le_max_right _ _)).rep _ _ _ k2⟩
theorem Cont.one{α β:Type}{F:Ty α→Ty β}(hF:Cont F):Cont (fun s=>tOne (F s)):=
 ⟨fun h=>⟨(hF.mono h).size,rfl,fun g cs x hx=>(hF.mono h).rep g cs x hx⟩,fun h g cs x hx=>hF.sup h g cs x hx⟩
theorem Cont.map{α β γ:Type}{F:Ty α→Ty β}(f:γ→β)(hF:Cont F):Cont (fun s=>tMap (F s) f):=
 ⟨fun h=>⟨(hF.mono h).size,(hF.mono h).agg,fun g cs x hx=>(hF.mono h).rep g cs (f x) hx⟩,fun h g cs x hx=>hF.sup h g cs (f x) hx⟩
theorem Row.le{α:Type}{s t:Ty α}(h:Le s t){g:G}{p:Option Addr}{xs:List α}(hr:Row s g p xs):Row t g p xs:=by
 cases p with
 | none=>exact hr
 | some a=>exact ⟨hr.1,fun i x hx=>by rw [←h.size];exact h.At (hr.2 i x hx)⟩
theorem Chain.below{α β:Type}{F:Ty α→Ty β}(hF:Cont F){c:Nat→Ty α}(h:Chain c)(Q:Nat→β→Nat→Prop)(hQ:∀ i x d e,d≤e→Q i x d→Q i x e) :
  ∀ (xs:List β) (o:Nat),(∀ i x,xs[i]? =some x→∃ d,Q (o+i) x d)→∃ d,∀ i x,xs[i]? =some x→Q (o+i) x d
 | [],_,_=>⟨0,fun i x h=>by simp at h⟩
 | y :: ys,o,hx=>by
  obtain ⟨d1,h1⟩:=hx 0 y rfl
  obtain ⟨d2,h2⟩:=Chain.below hF h Q hQ ys (o+1) (fun i x hi=>by
   have:=hx (i+1) x (by simpa using hi)
   rwa [show o+(i+1)=o+1+i by omega] at this)
  refine ⟨max d1 d2,fun i x hi=>?_⟩
  cases i with
  | zero=>
   simp at hi;subst hi
   exact hQ _ _ _ _ (Nat.le_max_left _ _) h1
  | succ i=>
   have:=h2 i x (by simpa using hi)
   rw [show o+(i+1)=o+1+i by omega]
   exact hQ _ _ _ _ (Nat.le_max_right _ _) this
theorem Cont.list{α β:Type}{F:Ty α→Ty β}(hF:Cont F):Cont (fun s=>tL (F s)):=by
 refine ⟨fun {s t} h=>⟨rfl,rfl,?_⟩,fun {c} h g cs xs hx=>?_⟩
 ·rintro g cs xs ⟨p,c,h1,h2,h3,h4,h5⟩
  exact ⟨p,c,h1,h2,h3,h4,h5.le (hF.mono h)⟩
 ·obtain ⟨p,k,h1,h2,h3,h4,h5⟩:=hx
  cases p with
  | none=>exact ⟨0,none,k,h1,h2,h3,h4,h5⟩
  | some a=>
   obtain ⟨hs,hat⟩:=h5
   have hsz:∀ d,(F h.sup).size=(F (c d)).size:=fun d=>((hF.mono (h.up d)).size).symm
   obtain ⟨d,hd⟩:=Chain.below hF h (fun i x d=>(F (c d)).At g a.block (a.off+i*(F h.sup).size) x) (fun i x d e hde hq=>(hF.at h hde).At hq) xs 0 (fun i x hi=>by
    obtain ⟨cs,k1,k2⟩:=hat i x hi
    obtain ⟨d,k3⟩:=hF.sup h _ _ _ k1
    exact ⟨d,cs,k3,by rw [Nat.zero_add];exact k2⟩)
   refine ⟨d,some a,k,h1,h2,h3,h4,hs,fun i x hi=>?_⟩
   have:=hd i x hi
   rw [Nat.zero_add,hsz d] at this
   exact this
structure Rec {α:Type} (F:Ty α→Ty α) (n:Nat):Prop where
 cont:Cont F
 size:(F (tNone α n true (fun h=>by cases h))).size=n
 agg:(F (tNone α n true (fun h=>by cases h))).agg=true
theorem Rec.chain{α:Type}{F:Ty α→Ty α}{n:Nat}(h:Rec F n):Chain (itr F (tNone α n true (fun h=>by cases h))):=by
 constructor
 intro d
 induction d with
 | zero=>exact ⟨h.size.symm,h.agg.symm,fun _ _ _ hf=>hf.elim⟩
 | succ d ih=>exact h.cont.mono ih
def tFix{α:Type}{F:Ty α→Ty α}{n:Nat}(h:Rec F n):Ty α where
 size:=n
 agg:=true
 rep:=fun g cs x=>∃ d,(itr F (tNone α n true (fun h=>by cases h)) d).rep g cs x
 len:=fun ⟨d,hd⟩=>((itr F _ d).len hd).trans (h.chain.size d)
 one:=fun ⟨d,hd⟩=>(itr F _ d).one hd
 mono:=fun e ⟨d,hd⟩=>⟨d,(itr F _ d).mono e hd⟩
 sing:=fun h=>by cases h
theorem Rec.sup{α:Type}{F:Ty α→Ty α}{n:Nat}(h:Rec F n):h.chain.sup=tFix h:=rfl
theorem Rec.out{α:Type}{F:Ty α→Ty α}{n:Nat}(h:Rec F n):Le (tFix h) (F (tFix h)):=by
 have hl:Le (F (tNone α n true (fun h=>by cases h))) (F (tFix h)):=h.cont.mono (h.chain.up 0)
 refine ⟨h.size.symm.trans hl.size,h.agg.symm.trans hl.agg,?_⟩
 rintro g cs x ⟨d,hd⟩
 have h1:Le (itr F (tNone α n true (fun h=>by cases h)) d) (itr F _ (d+1)):=h.chain.step d
 exact (h.cont.mono (h.chain.up d)).rep _ _ _ (h1.rep _ _ _ hd)
theorem Rec.into{α:Type}{F:Ty α→Ty α}{n:Nat}(h:Rec F n):Le (F (tFix h)) (tFix h):=by
 refine ⟨h.out.size.symm,h.out.agg.symm,?_⟩
 intro g cs x hx
 obtain ⟨d,hd⟩:=h.cont.sup h.chain g cs x hx
 exact ⟨d+1,hd⟩
theorem Fld.le{α β:Type}{s s':Ty α}{o:Nat}{t:Ty β}{f:α→β}(l:Le s' s)(h:Fld s o t f):Fld s' o t f:=fun g cs x hx=>h g cs x (l.rep g cs x hx)
theorem FldSet.le{α β:Type}{s s':Ty α}{o:Nat}{t:Ty β}{f:α→β→α}(l:Le s' s)(k:Le s s')(h:FldSet s o t f):FldSet s' o t f:=fun g cs ds x y hx hy=>
 let ⟨h1,h2⟩:=h g cs ds x y (l.rep g cs x hx) hy;⟨h1,k.rep _ _ _ h2⟩
structure EqT (P:Program) {α:Type} [DecidableEq α] (T:TypeId) (t:Ty α) (D:Nat):Prop where
 eq:∀ {g:G} {cs ds:List Value} {x y:α},t.rep g cs x→t.rep g ds y→∀ d,D≤d→∀ w,(Op.equalIn d T (mkVal t.agg cs) (mkVal t.agg ds)).run P w= .ok (decide (x=y)) w
theorem EqT.up{P:Program}{α:Type}[DecidableEq α]{T:TypeId}{t:Ty α}{D D':Nat}(h:EqT P T t D)(hD:D≤D'):EqT P T t D':=⟨fun hx hy d hd w=>h.eq hx hy d (Nat.le_trans hD hd) w⟩
section
variable {P:Program}
theorem EqT.int{T:TypeId}{k:IntKind}(hT:P.underlying T=some (.int k)):EqT P T (tI k) 1:=by
 constructor
 rintro g cs ds x y ⟨rfl,_⟩ ⟨rfl,_⟩ d hd w
 obtain ⟨d,rfl⟩:∃ e,d=e+1:=⟨d-1,by omega⟩
 have:=run_equalIn_int (P:=P) w d T k k x y hT
 show (Op.equalIn (d+1) T (.int k x) (.int k y)).run P w=_
 rw [this]
 congr 1
theorem EqT.bool{T:TypeId}(hT:P.underlying T=some .bool):EqT P T tB 1:=by
 constructor
 rintro g cs ds x y h1 h2 d hd w
 have h1':cs= [.bool x]:=h1
 have h2':ds= [.bool y]:=h2
 subst h1' h2'
 obtain ⟨d,rfl⟩:∃ e,d=e+1:=⟨d-1,by omega⟩
 have:=run_equalIn_bool' (P:=P) w d T x y hT
 show (Op.equalIn (d+1) T (.bool x) (.bool y)).run P w=_
 rw [this]
 congr 1
theorem EqT.string{T:TypeId}(hT:P.underlying T=some .string):EqT P T tS 1:=by
 constructor
 rintro g cs ds x y ⟨rfl,_⟩ ⟨rfl,_⟩ d hd w
 obtain ⟨d,rfl⟩:∃ e,d=e+1:=⟨d-1,by omega⟩
 have:=run_equalIn_string (P:=P) w d T (Dec.str x) (Dec.str y) hT
 show (Op.equalIn (d+1) T (.string (Dec.str x)) (.string (Dec.str y))).run P w=_
 rw [this,str_toList,str_toList]
 congr 1
 by_cases h:x=y<;> simp [h]
theorem part_fld{α β:Type}{s:Ty α}{t:Ty β}{f:α→β}{T:TypeId}{o:Nat}(ht:TyAt P T t)(hF:Fld s o t f){g:G}{cs:List Value}{u:α}(hr:s.rep g cs u) :
  ∃ ds,t.rep g ds (f u)∧ ∀ w,(part T cs.toArray o).run P w= .ok (mkVal t.agg ds) w:=by
 obtain ⟨ds,hd,hj⟩:=hF g cs u hr
 refine ⟨ds,hd,fun w=>?_⟩
 have hlen:=t.len hd
 cases ha:t.agg with
 | true=>
  have hagg:=ht.agg w
  rw [ha] at hagg
  have hex:cs.toArray.extract o (o+t.size)=ds.toArray:=by
   apply Array.ext'
   simp only [List.extract_toArray,List.extract_eq_take_drop]
   apply List.ext_getElem?
   intro q
   rw [Nat.add_sub_cancel_left,List.getElem?_take,List.getElem?_drop]
   split
   ·rename_i hq
    rw [←hlen] at hq
    rw [List.getElem?_eq_getElem hq]
    exact hj q _ (List.getElem?_eq_getElem hq)
   ·rename_i hq
    rw [List.getElem?_eq_none (by omega)]
  simp only [part,Sem.run_bind,hagg,Result.andThen_ok,ht.size,hex,mkVal,Sem.run_pure,if_true]
 | false=>
  have hagg:=ht.agg w
  rw [ha] at hagg
  rw [t.sing ha] at hlen
  match ds,hlen with
  | [c],_=>
   have h0:=hj 0 c rfl
   rw [Nat.add_zero] at h0
   simp [part,hagg,h0,mkVal]
def EqL(P:Program){α:Type}(s:Ty α)(D:Nat):List Field→(α→α→Prop)→Prop
 | [],R=>R=fun _ _=>True
 | f :: fs,R=>∃ (β:Type) (_:DecidableEq β) (t:Ty β) (p:α→β) (R':α→α→Prop),f.name≠ "_" ∧TyAt P f.type t∧Fld s f.offset t p∧EqT P f.type t D∧EqL P s D fs R'∧R=fun x y=>p x=p y∧R' x y
theorem eqFields_run{α:Type}{s:Ty α}{D:Nat}{g:G}{cs ds:List Value}{x y:α}(hx:s.rep g cs x)(hy:s.rep g ds y):∀ (fs:List Field) (R:α→α→Prop),EqL P s D fs R→∀ d,D≤d→∀ w,
  (Op.eqFields d cs.toArray ds.toArray fs).run P w= .ok (@decide (R x y) (Classical.propDecidable _)) w
 | [],R,h,d,hd,w=>by
  have h':R=fun _ _=>True:=h
  subst h'
  simp [Op.eqFields]
 | f :: fs,R,h,d,hd,w=>by
  obtain ⟨β,_,t,p,R',h1,h2,h3,h4,h5,rfl⟩:=h
  obtain ⟨c1,k1,r1⟩:=part_fld h2 h3 hx
  obtain ⟨c2,k2,r2⟩:=part_fld h2 h3 hy
  have ih:=eqFields_run hx hy fs R' h5 d hd w
  have e:=h4.eq k1 k2 d hd w
  simp only [Op.eqFields,if_pos h1,Sem.run_bind,r1,r2,Result.andThen_ok,e]
  by_cases hp:p x=p y
  ·have hR:(p x=p y∧R' x y) ↔ R' x y:=by simp [hp]
   have e1:decide (p x=p y)=true:=decide_eq_true hp
   simp only [e1,Bool.not_true,Bool.false_eq_true,if_false,ih]
   congr 1
   exact decide_eq_decide.2 hR.symm
  ·have hR:¬ (p x=p y∧R' x y):=fun h=>hp h.1
   have e1:decide (p x=p y)=false:=decide_eq_false hp
   simp only [e1,Bool.not_false,if_true,Sem.run_pure]
   congr 1
   exact (@decide_eq_false _ (Classical.propDecidable _) hR).symm
theorem EqT.struct{α:Type}[DecidableEq α]{s:Ty α}{T:TypeId}{fs:Array Field}{D:Nat}{R:α→α→Prop}(hs:s.agg=true)(hT:P.underlying T=some (.struct fs))(hp:P.stoodInHeld T=false)(h:EqL P s D fs.toList R)(hR:∀ x y,R x y ↔ x=y):EqT P T s (D+1):=by
 constructor
 intro g cs ds x y hx hy d hd w
 obtain ⟨d,rfl⟩:∃ e,d=e+1:=⟨d-1,by omega⟩
 have hf:P.fieldsOf T=fs:=by simp [Program.fieldsOf,hT]
 rw [hs]
 show (Op.equalIn (d+1) T (.agg cs.toArray) (.agg ds.toArray)).run P w=_
 rw [run_equalIn_struct w d T _ _ (by rw [hf];exact hT) hp,hf,eqFields_run hx hy fs.toList R h d (by omega) w]
 congr 1
 have:=hR x y
 by_cases he:x=y<;> simp_all
variable {env:Env} {res:Rs} {d:Option Tmp} {ty:TypeId} {pos:String} {aft:Array Edge} {gd:Option (Nat×Bool)}
theorem Op1.eqSt{α:Type}[DecidableEq α]{s:Ty α}{T T':TypeId}{D:Nat}{x y:Operand}{u v:α}(hs:s.agg=true)(hD:D≤10000)(hg:P.eqGuardType P.depth T=false)(h:EqT P T s D)(hx:Opd env x (s.is u))(hy:Opd env y (s.is v)) :
  Op1 P ⟨d,.binOp .eql T x y T',ty,pos,aft,gd⟩ env res (tB.is (decide (u=v))):=
 Op1.same fun a g hc=>by
  obtain ⟨cs,hr,hv⟩:=hx a g hc.henv
  obtain ⟨ds,hr',hv'⟩:=hy a g hc.henv
  have e:=h.eq hr hr' 10000 hD g.w
  rw [hs] at hv hv' e
  refine ⟨.bool (decide (u=v)),?_,Asn.bool⟩
  have h1:a.eval x= .agg cs.toArray:=hv
  have h2:a.eval y= .agg ds.toArray:=hv'
  have hgd:=run_eqGuard_agg (P:=P) g.w .eql T x y cs.toArray ds.toArray hg
  have e':(Op.equalIn 10000 T (.agg cs.toArray) (.agg ds.toArray)).run P g.w= .ok (decide (u=v)) g.w:=e
  simp only [execOp,h1,h2,Sem.run_bind,hgd,Result.andThen_ok,run_eql_struct,e',Sem.run_pure]
end
end Go.Dec
