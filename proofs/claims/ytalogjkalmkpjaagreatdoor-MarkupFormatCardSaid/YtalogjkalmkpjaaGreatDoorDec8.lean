/-
  Rules for nil slices and for what package slices does with capacities.
-/
import Derived.Test.YtalogjkalmkpjaaGreatDoorDec7
set_option linter.unusedVariables false
set_option linter.unusedSimpArgs false
namespace Go.Dec
open Go
section
variable {P : Program} {N : Nat} {g0 : G} {T0 : Nat → Prop} {ks : List KF} {B : Exit → Act → World → Prop} {env : Env} {res : Rs} {d : Option Tmp} {ty : TypeId} {pos : String} {aft : Array Edge} {gd : Option (Nat × Bool)}
theorem OpR.same {o : Oper} {ρ : Type} {A : ρ → Asn} (h : ∀ a g, Cx env res a g → ∃ x v, (execOp a.eval o).run P g.w = .ok (.value v) g.w ∧ (A x).holds v g) : OpR P o env res [] A (fun _ => []) := by
  intro a g K Q hc _ hK
  obtain ⟨x, v, hr, hv⟩ := h a g hc
  show o.upon P a K Q ((execOp a.eval o).run P g.w)
  rw [hr]
  exact hK x v g (Ext.refl _ _) hv (fun _ h => by cases h) List.Pairwise.nil (fun b ⟨y, hy, _⟩ => by cases hy)
end
end Go.Dec
