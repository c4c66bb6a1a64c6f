/-
  What the machine's readings say of an operation's numbers.
-/
import Derived.Test.YtkobngongonplaaGreatDoorTy
import Derived.Test.YtkobngongonplaaGreatDoorPg
set_option linter.unusedVariables false
namespace Go.Proofs.YtkobngongonplaaGreatDoor
open Go Go.Dec
theorem list_elem {α : Type} {t : Ty α} {g : G} {cs : List Value} {xs : List α} (h : (tL t).rep g cs xs) : ∀ x, x ∈ xs → ∃ ds, t.rep g ds x := by
  obtain ⟨p, c, _, _, _, _, hr⟩ := h
  intro x hx
  cases p with
  | none => rw [show xs = [] from hr] at hx; cases hx
  | some a =>
    obtain ⟨i, hi, he⟩ := List.getElem_of_mem hx
    obtain ⟨ds, hd, _⟩ := hr.2 i x (by rw [List.getElem?_eq_getElem hi, he])
    exact ⟨ds, hd⟩
theorem call_in {g : G} {cs : List Value} {x : pandectlaw14_Call} (h : tpandectlaw14_Call.rep g cs x) : inCall x := by
  obtain ⟨_, h1, _⟩ := fpandectlaw14_Call_1 g cs x h
  exact inR64.1 h1.2
theorem calls_in {g : G} {l : List pandectlaw14_Call} {v : Value} (h : ((tL tpandectlaw14_Call).is l).holds v g) : ∀ d ∈ l, inCall d := by
  obtain ⟨cs, h, _⟩ := h
  intro d hd
  obtain ⟨ds, h'⟩ := list_elem h d hd
  exact call_in h'
end Go.Proofs.YtkobngongonplaaGreatDoor
