/-
  Rules for nil slices and for what package slices does with capacities.
-/
import Derived.Test.YtalogjkalmkpjaaGreatDoorDec7
set_option linter.unusedVariables false
set_option linter.unusedSimpArgs false
namespace Go.Dec
open Go
section
variable {P:Program} {N:Nat} {g0:G} {T0:Nat→Prop} {ks:List KF} {B:Exit→Act→World→Prop} {env:Env} {res:Rs} {d:Option Tmp} {ty:TypeId} {pos:String} {aft:Array Edge} {gd:Option (Nat×Bool)}
theorem OpR.same{o:Oper}{ρ:Type}{A:ρ→Asn}(h:∀ a g,Cx env res a g→∃ x v,(execOp a.eval o).run P g.w= .ok (.value v) g.w∧(A x).holds v g):OpR P o env res [] A (fun _=>[]):=by
 intro a g K Q hc _ hK
 obtain ⟨x,v,hr,hv⟩:=h a g hc
 show o.upon P a K Q ((execOp a.eval o).run P g.w)
 rw [hr]
 exact hK x v g (Ext.refl _ _) hv (fun _ h=>by cases h) List.Pairwise.nil (fun b ⟨y,hy,_⟩=>by cases hy)
theorem run_eql_slice{P:Program}{T e:TypeId}(hT:P.underlying T=some (.slice e))(p:Option Addr)(n c:Nat)(w:World):(binOp .eql T (.slice p n c) (.slice none 0 0)).run P w= .ok (.bool p.isNone) w:=by
 have h:∀ d,(Op.equalIn (d+1) T (.slice p n c) (.slice none 0 0)).run P w= .ok p.isNone w:=by
  intro d;cases p<;> simp [Op.equalIn,run_underlying hT]
 have h2:(Op.equal T (.slice p n c) (.slice none 0 0)).run P w= .ok p.isNone w:=h 9999
 simp only [binOp]
 simp [h2]
theorem OpR.eqNil{α:Type}{t:Ty α}{x:Operand}{xs:List α}{T T' e:TypeId}(hT:P.underlying T=some (.slice e))(hx:Opd env x ((tL t).is xs)) :
  OpR P ⟨d,.binOp .eql T x (.const (.slice none 0 0)) T',ty,pos,aft,gd⟩ env res [] (fun b:{b:Bool // b=true→xs= []}=>tB.is b.1) (fun _=>[]):=
 OpR.same fun a g hc=>by
  obtain ⟨p,c,hv,h2,h3,h4,h5⟩:=hx.atL hc
  refine ⟨⟨p.isNone,fun h=>?_⟩,.bool p.isNone,?_,Asn.bool⟩
  ·cases p with
   | none=>exact h5
   | some _=>cases h
  ·exact exec_bin hv rfl (eqGuard_at_slice _ _ _ _ _ _ _ _) (run_eql_slice hT _ _ _ _)
theorem Opd.atLn{α:Type}{t:Ty α}{x:Operand}{xs:List α}(h:Opd env x ((Dec.tLn t).is xs)){a:Act}{g:G}(hc:Cx env res a g) :
  ∃ p c,a.eval x= .slice p xs.length c∧Row t g p xs∧(xs= []→p=none):=by
 obtain ⟨cs,⟨p,c,h1,h2,h3,h4,h5,h6⟩,hv⟩:=h a g hc.henv
 exact ⟨p,c,by rw [hv,h1];rfl,h5,h6⟩
theorem Op1.eqNil{α:Type}{t:Ty α}{x:Operand}{xs:List α}{T T' e:TypeId}(hT:P.underlying T=some (.slice e))(hx:Opd env x ((tLn t).is xs)) :
  Op1 P ⟨d,.binOp .eql T x (.const (.slice none 0 0)) T',ty,pos,aft,gd⟩ env res (tB.is xs.isEmpty):=
 Op1.same fun a g hc=>by
  obtain ⟨p,c,hv,h5,h6⟩:=hx.atLn hc
  refine ⟨.bool p.isNone,exec_bin hv rfl (eqGuard_at_slice _ _ _ _ _ _ _ _) (run_eql_slice hT _ _ _ _),?_⟩
  have:p.isNone=xs.isEmpty:=by
   cases p with
   | none=>rw [show xs= [] from h5];rfl
   | some _=>cases xs with
    | nil=>cases h6 rfl
    | cons _ _=>rfl
  rw [←this];exact Asn.bool
end
end Go.Dec
