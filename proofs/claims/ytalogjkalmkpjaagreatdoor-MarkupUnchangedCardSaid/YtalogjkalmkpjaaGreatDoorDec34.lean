/-
  Structs of which one field is the nil slice: what is appended there later is the call's own.
-/
import Derived.Test.YtalogjkalmkpjaaGreatDoorDec33
import Derived.Test.YtalogjkalmkpjaaGreatDoorDec26
set_option linter.unusedVariables false
set_option linter.unusedSimpArgs false
namespace Go.Dec
open Go
section
variable {P:Program} {N:Nat} {g0:G} {T0:Nat→Prop} {env:Env} {res:Rs}
end
end Go.Dec
