/-
  A range over a function that hands out a slice's elements from the last to the first.
-/
import Derived.Test.YtnmkblpbmoikpaaDoorDec22
set_option linter.unusedVariables false
set_option linter.unusedSimpArgs false
namespace Go.Dec
open Go Go.RowKit
section
variable {P : Program} {n : Nat} {N : Nat} {g0 : G} {T0 : Nat → Prop} {Q : Exit → Act → World → Prop} {env : Env} {res : Rs}
theorem St.later {T : Nat → Prop} {a : Act} {g g1 : G} {g2 : G} (h : St N g res.blks env res a g1) (e : Ext res.blks g1 g2) (hr : res.all g2) : St N g res.blks env res a g2 :=
  ⟨h.sz, h.dfr, fun s A hA => A.mono e (h.henv s A hA), hr, h.dis, h.own, h.ext.trans e (fun _ _ h => h)⟩
theorem St.base {res' : Rs} {a : Act} {g g1 g2 : G} (e : Ext res.blks g g1) (h : St N g1 res.blks env res' a g2) (hb : ∀ b, res'.blks b → res.blks b) : St N g res.blks env res' a g2 :=
  ⟨h.sz, h.dfr, h.henv, h.hres, h.dis, fun b h => .inr (hb b h), e.trans h.ext (fun _ _ h => h)⟩
end
section
variable {P : Program} {r : Option Nat} {n : Nat} {N : Nat} {g0 : G} {T0 : Nat → Prop} {ops : Array Oper} {Q : Exit → Act → World → Prop} {rest : List Oper} {env : Env} {res : Rs}
theorem WR.weaken {c : Code} {D : List Deferred} {env' : Env} {res' : Rs} (hs : Sub env' env) (hr : RSub res' res) (h : WR P r n D N g0 T0 c Q env' res') : WR P r n D N g0 T0 c Q env res := fun a g hst => h a g (hst.weaken hs hr)
theorem WR.weakR {c : Code} {D : List Deferred} {res' : Rs} (hr : RSub res' res) (h : WR P r n D N g0 T0 c Q env res') : WR P r n D N g0 T0 c Q env res :=
  fun a g hst => h a g ⟨hst.sz, hst.dfr, hst.henv, fun x hx => hst.hres x (hr.mem x hx), hr.dis hst.dis, fun b ⟨x, hx, hb⟩ => hst.own b ⟨x, hr.mem x hx, hb⟩, hst.ext⟩
theorem WR.go {c : Code} {D : List Deferred} {a : Act} {g : G} (h : WR P r n D N g0 T0 c Q env res) (hst : St N g0 T0 env res a g) : c.wpIn (ring r) n P Q (sh D a) g.w := h a g hst
theorem WR.condT {x : Operand} {c d : Code} {D : List Deferred} (hx : Opd env x (tB.is true)) (ht : WR P r n D N g0 T0 c Q env res) : WR P r n D N g0 T0 (.cond x c d) Q env res :=
  WR.cond hx (fun _ => ht) (fun h => by cases h)
theorem WR.condF {x : Operand} {c d : Code} {D : List Deferred} (hx : Opd env x (tB.is false)) (hf : WR P r n D N g0 T0 d Q env res) : WR P r n D N g0 T0 (.cond x c d) Q env res :=
  WR.cond hx (fun h => by cases h) (fun _ => hf)
end
section
variable {P : Program} {n N : Nat} {g0 : G} {env : Env} {res : Rs} {fn : Func} {ρ : Type}
end
theorem Stays.on {g g' : G} {w : World} {T : Nat → Prop} (h : Stays g w) (e : Ext T (g.at w) g') : Stays g g'.w :=
  ⟨e.os.trans h.os, e.tape.trans h.tape, e.output.trans h.output, Nat.le_trans h.size e.size, fun b i v hv => (e.kept b i v ⟨hv.1, h.kept b i v hv⟩).2⟩
section
variable {P : Program} {r : Option Nat} {n : Nat} {N : Nat} {g0 : G} {T0 : Nat → Prop} {Q : Exit → Act → World → Prop} {env : Env} {res : Rs}
theorem WR.exit {id : Nat} {D : List Deferred} (h : ∀ a g, St N g0 T0 env res a g → Q (.exit id) (sh D a) g.w) : WR P r n D N g0 T0 (.exit id) Q env res := fun a g hs => wpIn_exit (h a g hs)
end
end Go.Dec
