/-
  The last step of a row that lists what package variables hold.
-/
import Derived.Test.YtalogjkalmkpjaaGreatDoorReadR
import Derived.LaidMore
import Derived.OpenShut
import Derived.Stop.Joined
set_option linter.unusedVariables false
set_option linter.unusedSimpArgs false
namespace Go.Dec
open Go Go.RowKit Go.WideShapes Go.ChangeShapes
section
variable {P:Program} {H:Type}
end
end Go.Dec
