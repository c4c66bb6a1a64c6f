/-
  Slices of the call's own inside structs: the token stands in the reading of the struct.
-/
import Derived.Test.YtalogjkalmkpjaaGreatDoorDec21
set_option linter.unusedVariables false
set_option linter.unusedSimpArgs false
namespace Go.Dec
open Go
def tOT {α : Type} (t : Ty α) (k : Tok) : Ty (List α) where
  size := 1
  agg := false
  rep := fun g cs xs => ∃ v, cs = [v] ∧ (tO t k xs).holds v g
  len := fun ⟨v, h, _⟩ => by rw [h]; rfl
  one := fun ⟨v, h, hv⟩ c hc => by
    rw [h] at hc
    rw [List.mem_singleton.1 hc, hv.1]; rfl
  mono := fun e ⟨v, h, hv⟩ => ⟨v, h, (tO t k _).mono e hv⟩
  sing := fun _ => rfl
theorem tOT_le {α : Type} (t : Ty α) (k : Tok) : Le (tOT t k) (tL t) := ⟨rfl, rfl, by
  rintro g cs xs ⟨v, rfl, hv⟩
  obtain ⟨ds, hd, he⟩ := tO_tL hv
  have hl := (tL t).len hd
  match ds, hl with
  | [c], _ =>
    have : v = c := he
    rw [this]; exact hd⟩
theorem Le.pair {α β : Type} {s s' : Ty α} {t t' : Ty β} (h : Le s s') (k : Le t t') : Le (tP s t) (tP s' t') := by
  refine ⟨?_, rfl, ?_⟩
  · show s.size + t.size = s'.size + t'.size
    rw [h.size, k.size]
  · rintro g cs x ⟨c1, c2, rfl, h1, h2⟩
    exact ⟨c1, c2, rfl, h.rep _ _ _ h1, k.rep _ _ _ h2⟩
theorem Le.one {α : Type} {s s' : Ty α} (h : Le s s') : Le (tOne s) (tOne s') := ⟨h.size, rfl, h.rep⟩
theorem Le.mapT {α β : Type} {t t' : Ty β} (h : Le t t') (m : α → β) : Le (tMap t m) (tMap t' m) := ⟨h.size, h.agg, fun g cs x hx => h.rep g cs (m x) hx⟩
def FldSetT {α β : Type} (s s' : Ty α) (o : Nat) (t : Ty β) (upd : α → β → α) : Prop :=
  ∀ g cs ds x y, s.rep g cs x → t.rep g ds y → o + ds.length ≤ cs.length ∧ s'.rep g (over cs o ds) (upd x y)
theorem FldSetT.here {α β : Type} (s s' : Ty α) (t : Ty β) (hz : s.size = s'.size) : FldSetT (tP s t) (tP s' t) 0 s' (fun x y => (y, x.2)) := by
  rintro g cs ds x y ⟨c1, c2, rfl, h1, h2⟩ hy
  have e1 := s.len h1; have e2 := s'.len hy
  refine ⟨by rw [List.length_append]; omega, ds, c2, ?_, hy, h2⟩
  unfold over
  rw [List.take_zero, List.nil_append, Nat.zero_add, e2, ← hz, ← e1, List.drop_left]
theorem FldSetT.next {α β γ : Type} {s : Ty α} {t t' : Ty β} {u : Ty γ} {o : Nat} {f : β → γ → β} (h : FldSetT t t' o u f) : FldSetT (tP s t) (tP s t') (s.size + o) u (fun x y => (x.1, f x.2 y)) := by
  rintro g cs ds x y ⟨c1, c2, rfl, h1, h2⟩ hy
  obtain ⟨hl, hr⟩ := h g c2 ds x.2 y h2 hy
  have e1 := s.len h1
  refine ⟨by rw [List.length_append]; omega, c1, over c2 o ds, ?_, h1, hr⟩
  unfold over
  rw [List.take_append, List.drop_append, e1]
  rw [List.take_of_length_le (by omega), show s.size + o - s.size = o by omega, List.drop_eq_nil_of_le (by omega), show s.size + o + ds.length - s.size = o + ds.length by omega]
  simp
theorem FldSetT.one {α : Type} (s s' : Ty α) (hz : s.size = s'.size) : FldSetT (tOne s) (tOne s') 0 s' (fun _ y => y) := by
  intro g cs ds x y h1 hy
  have e1 := s.len h1; have e2 := s'.len hy
  refine ⟨by omega, ?_⟩
  unfold over
  rw [List.take_zero, List.nil_append, Nat.zero_add, e2, ← hz, ← e1, List.drop_length, List.append_nil]
  exact hy
theorem FldSetT.map {α β γ : Type} {t t' : Ty β} {u : Ty γ} {o : Nat} {f : β → γ → β} {m : α → β} {f' : α → γ → α} (h : FldSetT t t' o u f) (hm : ∀ x y, m (f' x y) = f (m x) y) : FldSetT (tMap t m) (tMap t' m) o u f' := by
  intro g cs ds x y h1 hy
  obtain ⟨hl, hr⟩ := h g cs ds (m x) y h1 hy
  refine ⟨hl, ?_⟩
  show t'.rep g _ (m (f' x y))
  rw [hm]; exact hr
theorem FldSetT.cast {α β : Type} {s s' : Ty α} {o o' : Nat} {t : Ty β} {f f' : α → β → α} (h : FldSetT s s' o t f) (ho : o' = o) (hf : f' = f) : FldSetT s s' o' t f' := by subst ho hf; exact h
section
variable {P : Program} {N : Nat} {g0 : G} {T0 : Nat → Prop} {env : Env} {res : Rs} {d : Option Tmp} {ty : TypeId} {pos : String} {aft : Array Edge} {gd : Option (Nat × Bool)}
theorem Opd.leT {α : Type} {s t : Ty α} {u : α} {x : Operand} (l : Le s t) (h : Opd env x (s.is u)) : Opd env x (t.is u) := h.weak fun v g ⟨cs, h1, h2⟩ => ⟨cs, l.rep _ _ _ h1, by rw [← l.agg]; exact h2⟩
end
theorem Le.is {α : Type} {s t : Ty α} (l : Le s t) {u : α} {v : Value} {g : G} (h : (s.is u).holds v g) : (t.is u).holds v g := by
  obtain ⟨cs, h1, h2⟩ := h
  exact ⟨cs, l.rep _ _ _ h1, by rw [← l.agg]; exact h2⟩
section
variable {P : Program} {N : Nat} {g0 : G} {T0 : Nat → Prop} {ks : List KF} {B : Exit → Act → World → Prop} {env : Env} {res : Rs}
theorem WN.weakR {res' : Rs} (hr : RSub res' res) (h : WN P N g0 T0 ks B env res') : WN P N g0 T0 ks B env res :=
  fun a g hst => h a g ⟨hst.sz, hst.dfr, hst.henv, fun x hx => hst.hres x (hr.mem x hx), hr.dis hst.dis, fun b ⟨x, hx, hb⟩ => hst.own b ⟨x, hr.mem x hx, hb⟩, hst.ext⟩
end
end Go.Dec
