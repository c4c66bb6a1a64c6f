/-
  A tree that grows along its last branch: in the slice of each level the last element may still be written; those ahead of it are sealed.
-/
import Derived.Test.YtalogjkalmkpjaaGreatDoorDec35
import Derived.Test.YtalogjkalmkpjaaGreatDoorDec36
import Derived.Test.YtalogjkalmkpjaaGreatDoorDec33
set_option linter.unusedVariables false
set_option linter.unusedSimpArgs false
namespace Go.Dec
open Go
def Lv{α:Type}(tx t:Ty α)(E:TypeId)(k:Tok)(xs:List α)(u:α):Res where
 blk:=fun x=>k.map Prod.fst=some x
 holds:=fun g=>match k with
  | none=>False
  | some p=>∃ cur ds,g.w.heap[p.1]? =some (.cells cur E (0,0))∧cur.size=p.2*t.size∧xs.length+1≤p.2∧p.2≤maxLen∧g.S p.1=xs.length*t.size∧Row t g (some ⟨p.1,0,none⟩) xs∧
    tx.size=t.size∧tx.rep g ds u∧ ∀ (j:Nat) v,ds[j]? =some v→cur[xs.length*t.size+j]? =some v
 stay:=fun {T g g'} e hn h=>by
  cases k with
  | none=>exact h
  | some p=>
   obtain ⟨cur,ds,h1,h2,h3,h4,h5,h6,h7,h8,h9⟩:=h
   have hlt:p.1<g.w.heap.size:=(Array.getElem?_eq_some_iff.1 h1).1
   have:=e.same p.1 hlt (hn p.1 rfl)
   exact ⟨cur,ds,this.1.trans h1,h2,h3,h4,this.2.trans h5,h6.mono e,h7,tx.mono e h8,h9⟩
 lt:=fun {g b} h hb=>by
  cases k with
  | none=>cases hb
  | some p=>
   obtain ⟨cur,ds,h1,_⟩:=h
   have hlt:p.1<g.w.heap.size:=(Array.getElem?_eq_some_iff.1 h1).1
   cases hb
   exact hlt
structure Spk {α:Type} (tx:Tok→Ty α) (t:Ty α) (kids:α→List α) (sk:α→List α→α):Prop where
 size:∀ k,(tx k).size=t.size
 agg:∀ k,(tx k).agg=t.agg
 clo:∀ {g:G} {k:Tok} {u:α} {ys:List α} {ds:List Value},(tx k).rep g ds u→(kids u).length=ys.length→Row t g k.addr ys→t.rep g ds (sk u ys)
theorem Row.snoc{α:Type}{t:Ty α}{g:G}{b:Nat}{xs:List α}{x:α}(h:Row t g (some ⟨b,0,none⟩) xs)(hx:t.At g b (xs.length*t.size) x):Row t g (some ⟨b,0,none⟩) (xs++ [x]):=by
 refine ⟨.inr rfl,fun i y hy=>?_⟩
 by_cases hi:i<xs.length
 ·rw [List.getElem?_append_left hi] at hy
  exact h.2 i y hy
 ·rw [List.getElem?_append_right (by omega)] at hy
  have hi0:i=xs.length:=by have:=(List.getElem?_eq_some_iff.1 hy).1;simp at this;omega
  subst hi0
  simp at hy;subst hy
  show t.At g b (0+xs.length*t.size) x
  rw [Nat.zero_add];exact hx
theorem Lv.shut{α:Type}{tx:Tok→Ty α}{t:Ty α}{kids:α→List α}{sk:α→List α→α}(hS:Spk tx t kids sk){E:TypeId}{k kl:Tok}{xs ys:List α}{u:α}{g:G}(h:(Lv (tx kl) t E k xs u).holds g)(hl:(kids u).length=ys.length)(hr:Row t g kl.addr ys) :
  Ext (fun b=>k.map Prod.fst=some b) g (g.fixd k ((xs.length+1)*t.size))∧(Grown t E k (xs++ [sk u ys])).holds (g.fixd k ((xs.length+1)*t.size)):=by
 cases k with
 | none=>exact h.elim
 | some p=>
  obtain ⟨cur,ds,h1,h2,h3,h4,h5,h6,h7,h8,h9⟩:=h
  have hSe:(g.fixd (some p) ((xs.length+1)*t.size)).S p.1=(xs.length+1)*t.size:=if_pos rfl
  have hle:g.S p.1≤(xs.length+1)*t.size:=by rw [h5];exact Nat.mul_le_mul_right _ (by omega)
  have e:Ext (fun b=>(some p:Tok).map Prod.fst=some b) g (g.fixd (some p) ((xs.length+1)*t.size)):=by
   refine ⟨rfl,rfl,rfl,Nat.le_refl _,fun x _ hn=>⟨rfl,?_⟩,fun x i v hv=>⟨?_,hv.2⟩,fun x n hv=>hv.same rfl ?_⟩
   ·show (if _ then _ else _)=_
    rw [if_neg hn]
   ·show i<(if _ then _ else _)
    by_cases hx:(some p:Tok).map Prod.fst=some x
    ·rw [if_pos hx]
     have hpx:p.1=x:=Option.some.inj hx
     have:=hv.1
     rw [←hpx] at this;omega
    ·rw [if_neg hx];exact hv.1
   ·show g.S x≤if _ then _ else _
    by_cases hx:(some p:Tok).map Prod.fst=some x
    ·rw [if_pos hx]
     have hpx:p.1=x:=Option.some.inj hx
     rw [←hpx];exact hle
    ·rw [if_neg hx];exact Nat.le_refl _
  have hds:ds.length=t.size:=by rw [(tx kl).len h8,hS.size]
  refine ⟨e,⟨cur,h1,h2,by simpa using h3,h4,by rw [hSe];simp⟩,(h6.mono e).snoc ⟨ds,t.mono e (hS.clo h8 hl hr),fun j v hj=>⟨?_,?_⟩⟩⟩
  ·rw [hSe,Nat.add_mul,Nat.one_mul]
   have:=(List.getElem?_eq_some_iff.1 hj).1
   omega
  ·show g.w.cell? ⟨p.1,xs.length*t.size+j,none⟩=some v
   rw [cell_of_row _ _ _ _ _ _ h1]
   exact h9 j v hj
section
variable {α:Type} (tx:Tok→Ty α) (t:Ty α) (E:TypeId) (kids:α→List α) (sk:α→List α→α)
def spV:List (List α×α)→List α
 | []=>[]
 | (xs,u) :: sp=>xs++ [sk u (spV sp)]
def Chn:List (List α×α)→Prop
 | []=>True
 | [(xs,u)]=>kids u= []
 | (xs,u) :: (ys,w) :: sp=>(kids u).length=ys.length+1∧Chn ((ys,w) :: sp)
end
section
variable {α:Type} {tx:Tok→Ty α} {t:Ty α} {E:TypeId} {kids:α→List α} {sk:α→List α→α}
theorem spV_len{sp:List (List α×α)}{xs:List α}{u:α}(h:∃ r,sp=(xs,u) :: r):(spV sk sp).length=xs.length+1:=by
 obtain ⟨r,rfl⟩:=h
 simp [spV]
theorem Chn.cons{xs:List α}{u:α}{sp:List (List α×α)}(h:Chn kids ((xs,u) :: sp)):Chn kids sp∧(kids u).length=(spV sk sp).length:=by
 cases sp with
 | nil=>
  have h:kids u= []:=h
  exact ⟨trivial,by rw [h];rfl⟩
 | cons y sp=>
  obtain ⟨ys,w⟩:=y
  exact ⟨h.2,by rw [spV_len ⟨sp,rfl⟩];exact h.1⟩
variable {P:Program} {N:Nat} {g0:G} {T0:Nat→Prop} {env:Env} {res:Rs}
end
section
variable {α:Type} {P:Program} {env:Env} {res:Rs} {d:Option Tmp} {ty:TypeId} {pos:String} {aft:Array Edge} {gd:Option (Nat×Bool)}
theorem FldSetT.all(tx tx':Ty α)(h:tx.size=tx'.size):FldSetT tx tx' 0 tx' (fun _ y=>y):=fun g cs ds x y hx hy=>by
 have h1:=tx.len hx
 have h2:=tx'.len hy
 refine ⟨by omega,?_⟩
 rw [over_all (by omega)]
 exact hy
end
end Go.Dec
