/-
  What the machine's readings say of a table's numbers.
-/
import Derived.Test.YtdnemlcoeecbjaaDoorTy
import Derived.Test.YtdnemlcoeecbjaaDoorPg
set_option linter.unusedVariables false
namespace Go.Proofs.YtdnemlcoeecbjaaDoor
open Go Go.Dec

theorem list_elem {α : Type} {t : Ty α} {g : G} {cs : List Value} {xs : List α} (h : (tL t).rep g cs xs) : ∀ x, x ∈ xs → ∃ ds, t.rep g ds x := by
  obtain ⟨p, c, _, _, _, _, hr⟩ := h
  intro x hx
  cases p with
  | none => rw [show xs = [] from hr] at hx; cases hx
  | some a =>
    obtain ⟨i, hi, he⟩ := List.getElem_of_mem hx
    obtain ⟨ds, hd, _⟩ := hr.2 i x (by rw [List.getElem?_eq_getElem hi, he])
    exact ⟨ds, hd⟩
theorem int_in {g : G} {cs : List Value} {x : Int} (h : (tI .i64).rep g cs x) : inI x := inR64.1 h.2
theorem id_in {g : G} {cs : List Value} {x : api_Id} (h : tapi_Id.rep g cs x) : inId x := by
  obtain ⟨_, h0, _⟩ := fapi_Id_0 g cs x h
  obtain ⟨_, h1, _⟩ := fapi_Id_1 g cs x h
  obtain ⟨_, h2, _⟩ := fapi_Id_2 g cs x h
  exact ⟨int_in h0, int_in h1, int_in h2⟩
theorem dst_in {g : G} {cs : List Value} {x : api_Destination} (h : tapi_Destination.rep g cs x) : inD x := by
  obtain ⟨_, h0, _⟩ := fapi_Destination_0 g cs x h
  obtain ⟨_, h1, _⟩ := fapi_Destination_1 g cs x h
  exact ⟨id_in h0, id_in h1⟩
theorem dsts_in {g : G} {l : List api_Destination} {v : Value} (h : ((tL tapi_Destination).is l).holds v g) : ∀ d ∈ l, inD d := by
  obtain ⟨cs, h, _⟩ := h
  intro d hd
  obtain ⟨ds, h'⟩ := list_elem h d hd
  exact dst_in h'
end Go.Proofs.YtdnemlcoeecbjaaDoor
