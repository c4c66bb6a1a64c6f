/-
  What the machine's readings say of a list's length.
-/
import Derived.Test.YtclepigknhoonaaTy
import Derived.Test.YtclepigknhoonaaPa
set_option linter.unusedVariables false
namespace Go.Proofs.Ytclepigknhoonaa
open Go Go.Dec

theorem list_len {α : Type} {t : Ty α} {g : G} {cs : List Value} {xs : List α} (h : (tL t).rep g cs xs) : xs.length ≤ 140737488355328 := by
  obtain ⟨p, c, _, h1, h2, _, _⟩ := h
  exact h2
theorem mean_len {α : Type} {t : Ty α} {g : G} {x : List α} {v : Value} (h : ((tL t).is x).holds v g) : x.length ≤ 140737488355328 := by
  obtain ⟨cs, h, _⟩ := h
  exact list_len h
theorem byte_is {g : G} {n : Int} {v : Value} (h : ((tI .u8).is n).holds v g) : 0 ≤ n ∧ n ≤ 255 := by
  obtain ⟨cs, h, _⟩ := h
  exact inR8.1 h.2
end Go.Proofs.Ytclepigknhoonaa
