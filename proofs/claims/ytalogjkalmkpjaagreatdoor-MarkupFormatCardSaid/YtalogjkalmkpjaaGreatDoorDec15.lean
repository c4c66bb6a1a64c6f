/-
  Function values in cells.
-/
import Derived.Test.YtalogjkalmkpjaaGreatDoorDec14
set_option linter.unusedVariables false
set_option linter.unusedSimpArgs false
namespace Go.Dec
open Go
section
variable {P : Program} {env : Env} {res : Rs} {d : Option Tmp} {ty : TypeId} {pos : String} {aft : Array Edge} {gd : Option (Nat × Bool)}
variable {φ σ : Type} {ok : φ → σ → Prop} {As : σ → List Asn} {A : σ → Asn}
end
end Go.Dec
