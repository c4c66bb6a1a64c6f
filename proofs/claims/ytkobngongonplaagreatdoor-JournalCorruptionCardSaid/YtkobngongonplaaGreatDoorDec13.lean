/-
  Ranging over a string.
-/
import Derived.Test.YtkobngongonplaaGreatDoorDec12
import Derived.Laws.RangeString
import Derived.Laws.RangeAny
set_option linter.unusedVariables false
set_option linter.unusedSimpArgs false
namespace Go.Dec
open Go
def It (l : Str) (p : Nat) (b : Nat) : Res where
  blk := fun x => some b = some x
  holds := fun g => g.w.heap[b]? = some (.stringIter (Dec.str l) p) ∧ l.length ≤ lim
  stay := fun {T g g'} e hn h => by
    have hlt := (Array.getElem?_eq_some_iff.1 h.1).1
    exact ⟨(e.same b hlt (hn b rfl)).1.trans h.1, h.2⟩
  lt := fun {g b'} h hb => by cases hb; exact (Array.getElem?_eq_some_iff.1 h.1).1
section
variable {P : Program} {env : Env} {res : Rs} {d : Option Tmp} {ty : TypeId} {pos : String} {aft : Array Edge} {gd : Option (Nat × Bool)}
theorem OpR.range {T : TypeId} {x : Operand} {l : Str} (key : Nat) (hT : P.underlying T = some .string) (hx : Opd env x (tS.is l)) :
    OpR P ⟨d, .range T x, ty, pos, aft, gd⟩ env res [] (fun b : Nat => Bp b 0) (fun b => [(key, It l 0 b)]) := by
  intro a g K Q hc hd hK
  have h1 := (hx.atStr hc).1
  have hrun : (execOp a.eval ⟨d, .range T x, ty, pos, aft, gd⟩).run P g.w = .ok (.value (.pointer (some ⟨g.w.heap.size, 0, none⟩))) (g.alloc (.stringIter (Dec.str l) 0) 0).w := by
    simp [execOp, h1, run_range_string g.w T _ hT, World.iter, G.alloc]
  show Oper.upon P _ a K Q ((execOp a.eval _).run P g.w)
  rw [hrun]
  refine hK g.w.heap.size _ (g.alloc (.stringIter (Dec.str l) 0) 0) (Ext.alloc _ _ _ _) rfl (fun y hy => ?_) (List.pairwise_singleton _ _) (fun b hb => .inr (by rw [(blks_one rfl).1 hb]; exact Nat.le_refl _))
  rw [List.mem_singleton.1 hy]
  exact ⟨heap_alloc_new g.w _, (hx.atStr hc).2⟩
theorem W.condT {N : Nat} {g0 : G} {T0 : Nat → Prop} {ks : List KF} {B : Exit → Act → World → Prop} {x : Operand} {c c' : Code} (hx : Opd env x (tB.is true)) (h : W P N g0 T0 c ks B env res) : W P N g0 T0 (.cond x c c') ks B env res := W.cond hx (fun _ => h) (fun e => by cases e)
theorem W.condF {N : Nat} {g0 : G} {T0 : Nat → Prop} {ks : List KF} {B : Exit → Act → World → Prop} {x : Operand} {c c' : Code} (hx : Opd env x (tB.is false)) (h : W P N g0 T0 c' ks B env res) : W P N g0 T0 (.cond x c c') ks B env res := W.cond hx (fun e => by cases e) (fun _ => h)
end
end Go.Dec
