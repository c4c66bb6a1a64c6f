/-
  strings.Split at a separator of one byte: what it computes, in the words of this logic; out of the library's contract.
-/
import Derived.Test.YtalogjkalmkpjaaGreatDoorDec21
import Derived.Lib.Split
import Derived.Lib.SplitLaws
set_option linter.unusedVariables false
set_option linter.unusedSimpArgs false
namespace Go.Dec
open Go
def GlE(b:Nat):Res where
 blk:=fun _=>False
 holds:=fun g=>∃ m,g.Has b 0 (.int .i64 m)
 stay:=fun e _ ⟨m,h⟩=>⟨m,e.kept _ _ _ h⟩
 lt:=fun _ hb=>by cases hb
end Go.Dec
