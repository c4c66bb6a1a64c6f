/-
  What the machine's readings say of a citation's lengths.
-/
import Derived.Test.YtnmkblpbmoikpaaDoorTy
import Derived.Test.YtnmkblpbmoikpaaDoorPb
set_option linter.unusedVariables false
namespace Go.Proofs.YtnmkblpbmoikpaaDoor
open Go Go.Dec
theorem list_elem {α : Type} {t : Ty α} {g : G} {cs : List Value} {xs : List α} (h : (tL t).rep g cs xs) : ∀ x, x ∈ xs → ∃ ds, t.rep g ds x := by
  obtain ⟨p, c, _, _, _, _, hr⟩ := h
  intro x hx
  cases p with
  | none => rw [show xs = [] from hr] at hx; cases hx
  | some a =>
    obtain ⟨i, hi, he⟩ := List.getElem_of_mem hx
    obtain ⟨ds, hd, _⟩ := hr.2 i x (by rw [List.getElem?_eq_getElem hi, he])
    exact ⟨ds, hd⟩
theorem str_len {g : G} {cs : List Value} {x : Str} (h : tS.rep g cs x) : x.length ≤ 140737488355328 := h.2
theorem fits_steps {g : G} {cs : List Value} {p : List api_Step} (h : (tL tapi_Step).rep g cs p) : ∀ s ∈ p, s.Label.length ≤ 140737488355328 := fun s hs => by
  obtain ⟨ds, hd⟩ := list_elem h s hs
  obtain ⟨d1, h1, _⟩ := fapi_Step_1 g ds s hd
  exact str_len h1
theorem fits_is {g : G} {c : api_Cite} {v : Value} (h : (tapi_Cite.is c).holds v g) : fits c := by
  obtain ⟨cs, h, _⟩ := h
  obtain ⟨d1, h1, _⟩ := fapi_Cite_1 g cs c h
  obtain ⟨d2, h2, _⟩ := fapi_Cite_2 g cs c h
  exact ⟨str_len h2, fits_steps h1⟩
theorem fits_words {g : G} {p : List Str} {v : Value} (h : ((tL tS).is p).holds v g) : ∀ s ∈ p, s.length ≤ 140737488355328 := by
  obtain ⟨cs, h, _⟩ := h
  intro s hs
  obtain ⟨ds, hd⟩ := list_elem h s hs
  exact str_len hd
theorem byte_is {g : G} {n : Int} {v : Value} (h : ((tI .u8).is n).holds v g) : 0 ≤ n ∧ n ≤ 255 := by
  obtain ⟨cs, h, _⟩ := h
  exact inR8.1 h.2
end Go.Proofs.YtnmkblpbmoikpaaDoor
