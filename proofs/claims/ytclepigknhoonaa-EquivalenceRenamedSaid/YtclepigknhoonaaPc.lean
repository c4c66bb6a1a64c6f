
/-
  Which citations are valid (picked by wip/scripts/pick.py).
-/
import Derived.Test.YtclepigknhoonaaPa
import Derived.KernelRfl
set_option linter.unusedVariables false
set_option linter.unusedSimpArgs false
namespace Go.Proofs.Ytclepigknhoonaa
open Go Go.Dec

theorem indexS (l : List api_Step) (p : api_Step → Bool) (fs : Nat → api_Step → Option Bool) (hf : ∀ k, k ∈ l → To (fun n => fs n k) (p k)) : To (fun n => M.slices_IndexFunc_api_Step_api_Step n l (fs n)) (if l.any p then ((l.findIdx p : Nat) : Int) else -1) := by
  have loop : ∀ (xs : List api_Step) (fs : Nat → api_Step → Option Bool) (i : Nat), l.drop i = xs → (∀ k, k ∈ xs → To (fun n => fs n k) (p k)) →
      To (fun n => M.slices_IndexFunc_api_Step_api_Step_loop1 l (fs n) n (i : Int)) (if xs.any p then .inr ((i + xs.findIdx p : Nat) : Int) else .inl ()) := by
    intro xs
    induction xs with
    | nil =>
      intro fs i hx _
      refine To.succ ?_
      simp only [M.slices_IndexFunc_api_Step_api_Step_loop1]
      exact To.neg (drop_end hx) (To.pure.of (by simp))
    | cons x xs ih =>
      intro fs i hx hs
      refine To.succ ?_
      simp only [M.slices_IndexFunc_api_Step_api_Step_loop1]
      refine To.pos (drop_lt hx) (To.bindS (drop_idx hx) (To.bind (hs x (by simp)).shift ?_))
      cases hp : p x with
      | true => exact To.pos rfl (To.pure.of (by simp [hp, List.findIdx_cons]))
      | false =>
        refine To.neg (by simp) ?_
        rw [cast_succ]
        refine (ih (fun n => fs (n + 1)) (i + 1) (drop_next hx) fun k hk => (hs k (by simp [hk])).shift).of ?_
        simp only [List.any_cons, hp, Bool.false_or, List.findIdx_cons, cond_false]
        split
        · congr 2; omega
        · rfl
  simp only [M.slices_IndexFunc_api_Step_api_Step]
  refine To.bind (loop l fs 0 rfl hf) ?_
  by_cases h : l.any p = true
  · rw [if_pos h, if_pos h]; exact To.pure.of (by simp)
  · rw [if_neg h, if_neg h]; exact To.pure

theorem containsS (l : List api_Step) (p : api_Step → Bool) (fs : Nat → api_Step → Option Bool) (hf : ∀ k, k ∈ l → To (fun n => fs n k) (p k)) : To (fun n => M.slices_ContainsFunc_api_Step_api_Step n l (fs n)) (l.any p) := by
  simp only [M.slices_ContainsFunc_api_Step_api_Step]
  refine To.bind (indexS l p fs hf) (To.pure.of ?_)
  by_cases h : l.any p = true
  · rw [if_pos h, h]; simp
  · rw [if_neg h]
    have : l.any p = false := by simpa using h
    rw [this]; rfl

theorem named_c (s : api_Step) : To (fun n => M.citation_named n s) (stepB s) := by
  simp only [M.citation_named]
  unfold stepB
  by_cases h1 : (1 : Int) ≤ s.Kind
  · by_cases h2 : s.Kind ≤ 7
    · exact To.pos h1 (To.pos h2 (To.bind (label_ok s.Label) (To.pure.of (by simp [h1, h2]))))
    · exact To.pos h1 (To.neg h2 (To.pure.of (by simp [h2])))
  · exact To.neg h1 (To.pure.of (by simp [h1]))

theorem any_steps : ∀ p : List api_Step, (!p.any fun s => !stepB s) = stepsB p
  | [] => rfl
  | s :: p => by
    have := any_steps p
    simp only [List.any_cons, stepsB, ← this]
    cases stepB s <;> simp

def bare : List api_Step → List api_Step
  | [] => []
  | s :: q => if bookB s then q else s :: q

def plainB (p : List api_Step) : Bool := decide (0 < (bare p).length) && stepsB (bare p)

def nearB : List api_Step → Bool
  | [] => false
  | s :: q => (s.Label == ([] : Str)) && decide (1 ≤ s.Kind) && decide (s.Kind ≤ 7) && stepsB q

theorem cbook_eq (s : api_Step) : M.citation_book s = some (bookB s) := by
  simp only [M.citation_book, bookB]
  congr 1
  cases s with
  | mk k l =>
    by_cases h1 : k = 0
    · by_cases h2 : l = []
      · subst h1 h2; rfl
      · simp [h1, h2]
    · simp [h1]

theorem slcLo1 {α : Type} (x : α) (xs : List α) : slcLo (x :: xs) (1 : Int) = some xs := by
  unfold slcLo
  rw [if_pos ⟨by omega, by simp; omega⟩]
  rfl

theorem bare_c (p : List api_Step) : ∀ m : Nat → Unit, To (fun n => if (0 : Int) < (p.length : Int) then
        Option.bind (idx p (0 : Int)) fun v =>
        Option.bind (M.citation_book v) fun book =>
        if book = true then
          Option.bind (slcLo p (1 : Int)) fun v1 =>
          some v1
        else
          some p
      else
        some p) (bare p) := by
  intro _
  cases p with
  | nil => exact To.neg (by simp) To.pure
  | cons s q =>
    refine To.pos (by simp) (To.bindS idx_zero (To.bindS (cbook_eq s) ?_))
    rw [bare.eq_2]
    cases hb : bookB s with
    | true => exact To.pos rfl (To.bindS (slcLo1 s q) To.pure)
    | false => exact To.neg (by simp) To.pure

theorem plain_c (p : List api_Step) : To (fun n => M.citation_plain n p) (plainB p) := by
  simp only [M.citation_plain]
  refine To.bind (bare_c p (fun _ => ())) ?_
  unfold plainB
  by_cases h : 0 < (bare p).length
  · refine To.pos (by omega) (To.bind (containsS (bare p) (fun s => !stepB s) (fun n s => M.citation_plain_1 n s) (fun k _ => by
      simp only [M.citation_plain_1]
      exact To.bind (named_c k) To.pure)) (To.pure.of ?_))
    rw [any_steps]; simp [h]
  · exact To.neg (by omega) (To.pure.of (by simp [h]))

theorem near_c (p : List api_Step) : To (fun n => M.citation_near n p) (nearB p) := by
  simp only [M.citation_near]
  cases p with
  | nil => exact To.bind (a := true) (To.pos (by simp) To.pure) (To.pos rfl To.pure)
  | cons s q =>
    have h0 : ¬ (((s :: q).length : Int) = 0) := by simp; omega
    have hrest : To (fun n => Option.bind (slcLo (s :: q) (1 : Int)) fun v4 => Option.bind (M.slices_ContainsFunc_api_Step_api_Step n v4 (fun s0 => M.citation_near_1 n s0)) fun step => some (!step)) (stepsB q) := by
      refine To.bindS (slcLo1 s q) (To.bind (containsS q (fun s => !stepB s) (fun n s => M.citation_near_1 n s) (fun k _ => by
        simp only [M.citation_near_1]
        exact To.bind (named_c k) To.pure)) (To.pure.of ?_))
      exact any_steps q
    rw [nearB.eq_2]
    cases hl : (s.Label == ([] : Str)) with
    | false =>
      have hl' : (s.Label != ([] : Str)) = true := by simp only [bne, hl]; rfl
      exact To.bind (a := true) (To.neg h0 (To.bindS idx_zero (To.pos hl' To.pure))) (To.pos rfl (To.pure.of (by simp)))
    | true =>
      have hl' : ¬ ((s.Label != ([] : Str)) = true) := by simp only [bne, hl]; decide
      by_cases h1 : s.Kind < 1
      · exact To.bind (a := true) (To.neg h0 (To.bindS idx_zero (To.neg hl' (To.bindS idx_zero (To.pos h1 To.pure))))) (To.pos rfl (To.pure.of (by
          have : ¬ (1 : Int) ≤ s.Kind := by omega
          simp [this])))
      · by_cases h2 : (7 : Int) < s.Kind
        · exact To.bind (a := true) (To.neg h0 (To.bindS idx_zero (To.neg hl' (To.bindS idx_zero (To.neg h1 (To.bindS idx_zero (To.pure.of (by simp [h2])))))))) (To.pos rfl (To.pure.of (by
            have : ¬ s.Kind ≤ 7 := by omega
            simp [this])))
        · refine To.bind (a := false) (To.neg h0 (To.bindS idx_zero (To.neg hl' (To.bindS idx_zero (To.neg h1 (To.bindS idx_zero (To.pure.of (by simp; omega)))))))) (To.neg (by simp) (hrest.of ?_))
          have e1 : (1 : Int) ≤ s.Kind := by omega
          have e2 : s.Kind ≤ 7 := by omega
          simp [e1, e2]

def lastKind (p : List api_Step) : Int := match p.getLast? with
  | some s => s.Kind
  | none => 0

/-- Which citations are valid. -/
def citeB (c : api_Cite) : Bool :=
  if 9 < c.Path.length then false
  else if c.Kind = 0 ∨ c.Kind = 4 then (c.To == ([] : Str)) && plainB c.Path
  else if c.Kind = 1 then plainB c.Path && labB c.To && decide (lastKind c.Path ≠ 6)
  else if c.Kind = 2 ∨ c.Kind = 3 then (c.To == ([] : Str)) && nearB c.Path
  else false

theorem idx_last {α : Type} {p : List α} {x : α} (h : p.getLast? = some x) : idx p ((p.length : Int) - 1) = some x := by
  have hne : p ≠ [] := by intro e; subst e; simp at h
  have hpos := List.length_pos_iff.2 hne
  rw [show (p.length : Int) - 1 = ((p.length - 1 : Nat) : Int) by omega, idx_nat, ← List.getLast?_eq_getElem?]
  exact h

theorem plain_ne {p : List api_Step} (h : plainB p = true) : ∃ s, p.getLast? = some s ∧ stepB s = true := by
  unfold plainB at h
  rw [Bool.and_eq_true] at h
  obtain ⟨h1, h2⟩ := h
  have hb : 0 < (bare p).length := of_decide_eq_true h1
  have hall : ∀ q : List api_Step, stepsB q = true → ∀ s, s ∈ q → stepB s = true := by
    intro q
    induction q with
    | nil => intro _ s hs; cases hs
    | cons a q ih =>
      intro hq s hs
      simp only [stepsB, Bool.and_eq_true] at hq
      rcases List.mem_cons.1 hs with rfl | hs
      · exact hq.1
      · exact ih hq.2 s hs
  have hlast : ∃ s, (bare p).getLast? = some s := ⟨_, List.getLast?_eq_some_getLast (List.length_pos_iff.1 hb)⟩
  obtain ⟨s, hs⟩ := hlast
  refine ⟨s, ?_, hall _ h2 s (List.mem_of_getLast? hs)⟩
  cases p with
  | nil => simp [bare] at hs
  | cons a q =>
    rw [bare.eq_2] at hs hb
    cases hbk : bookB a with
    | true =>
      simp only [hbk, if_true] at hs hb
      cases q with
      | nil => simp at hb
      | cons b q => rw [List.getLast?_cons_cons]; exact hs
    | false =>
      simp only [hbk] at hs
      exact hs

theorem cite9 {c : api_Cite} (h : 9 < c.Path.length) : citeB c = false := by unfold citeB; rw [if_pos h]

theorem cite04 {c : api_Cite} (h : ¬ 9 < c.Path.length) (hk : c.Kind = 0 ∨ c.Kind = 4) : citeB c = ((c.To == ([] : Str)) && plainB c.Path) := by unfold citeB; rw [if_neg h, if_pos hk]

theorem cite1 {c : api_Cite} (h : ¬ 9 < c.Path.length) (hk : c.Kind = 1) : citeB c = (plainB c.Path && labB c.To && decide (lastKind c.Path ≠ 6)) := by unfold citeB; rw [if_neg h, if_neg (by omega), if_pos hk]

theorem cite23 {c : api_Cite} (h : ¬ 9 < c.Path.length) (hk : c.Kind = 2 ∨ c.Kind = 3) : citeB c = ((c.To == ([] : Str)) && nearB c.Path) := by unfold citeB; rw [if_neg h, if_neg (by omega), if_neg (by omega), if_pos hk]

theorem citeO {c : api_Cite} (h04 : ¬ (c.Kind = 0 ∨ c.Kind = 4)) (h1 : ¬ c.Kind = 1) (h23 : ¬ (c.Kind = 2 ∨ c.Kind = 3)) : citeB c = false := by
  unfold citeB
  by_cases h : 9 < c.Path.length
  · rw [if_pos h]
  · rw [if_neg h, if_neg h04, if_neg h1, if_neg h23]

theorem labB_nil : labB [] = false := by decide

theorem cvalid_ok (c : api_Cite) : To (fun n => M.citation_Valid n c) (citeB c) := by
  simp only [M.citation_Valid]
  by_cases h9 : 9 < c.Path.length
  · rw [cite9 h9]
    exact To.bind (a := true) (To.pos (by omega) To.pure) (To.pos rfl To.pure)
  · have h9' : ¬ (9 : Int) < (c.Path.length : Int) := by omega
    refine To.bind (a := ((c.To != ([] : Str)) != (decide (c.Kind = (1 : Int))))) (To.neg h9' To.pure) ?_
    by_cases h1 : c.Kind = 1
    · have e0 : ¬ c.Kind = 0 := by omega
      have e4 : ¬ c.Kind = 4 := by omega
      rw [cite1 h9 h1]
      cases ht : (c.To == ([] : Str)) with
      | true =>
        have : c.To = [] := by simpa using ht
        refine To.pos (by simp [this, h1]) (To.pure.of ?_)
        rw [this, labB_nil]; simp
      | false =>
        have : ¬ c.To = [] := by simpa using ht
        refine To.neg (by simp [this, h1]) (To.bind (a := false) (To.neg e0 (To.pure.of (decide_eq_false e4))) (To.neg (by simp) (To.pos h1 (To.bind (plain_c c.Path) ?_))))
        cases hp : plainB c.Path with
        | false => exact To.neg (by simp) (To.pure.of (by simp))
        | true =>
          obtain ⟨s, hs, _⟩ := plain_ne hp
          refine To.pos rfl (To.bind (label_ok c.To) ?_)
          cases hl : labB c.To with
          | false => exact To.neg (by simp) (To.pure.of (by simp))
          | true =>
            refine To.pos rfl (To.bindS (subC_eq (by omega) (by omega)) (To.bindS (idx_last hs) (To.pure.of ?_)))
            simp [lastKind, hs]
    · cases ht : (c.To == ([] : Str)) with
      | false =>
        have : ¬ c.To = [] := by simpa using ht
        refine To.pos (by simp [this, h1]) (To.pure.of ?_)
        by_cases h04 : c.Kind = 0 ∨ c.Kind = 4
        · rw [cite04 h9 h04, ht]; rfl
        · by_cases h23 : c.Kind = 2 ∨ c.Kind = 3
          · rw [cite23 h9 h23, ht]; rfl
          · rw [citeO h04 h1 h23]
      | true =>
        have : c.To = [] := by simpa using ht
        refine To.neg (by simp [this, h1]) ?_
        by_cases h04 : c.Kind = 0 ∨ c.Kind = 4
        · rw [cite04 h9 h04, ht, Bool.true_and]
          refine To.bind (a := true) ?_ (To.pos rfl (To.bind (plain_c c.Path) To.pure))
          by_cases h0 : c.Kind = 0
          · exact To.pos h0 (To.pure.of (decide_eq_true h0))
          · exact To.neg h0 (To.pure.of (decide_eq_true (h04.resolve_left h0)))
        · have h0 : ¬ c.Kind = 0 := fun h => h04 (.inl h)
          have h4 : ¬ c.Kind = 4 := fun h => h04 (.inr h)
          refine To.bind (a := false) (To.neg h0 (To.pure.of (decide_eq_false h4))) (To.neg (by simp) (To.neg h1 ?_))
          by_cases h23 : c.Kind = 2 ∨ c.Kind = 3
          · rw [cite23 h9 h23, ht, Bool.true_and]
            refine To.bind (a := true) ?_ (To.pos rfl (To.bind (near_c c.Path) To.pure))
            by_cases h2 : c.Kind = 2
            · exact To.pos h2 (To.pure.of (decide_eq_true h2))
            · exact To.neg h2 (To.pure.of (decide_eq_true (h23.resolve_left h2)))
          · rw [citeO h04 h1 h23]
            have h2 : ¬ c.Kind = 2 := fun h => h23 (.inl h)
            have h3 : ¬ c.Kind = 3 := fun h => h23 (.inr h)
            exact To.bind (a := false) (To.neg h2 (To.pure.of (decide_eq_false h3))) (To.neg (by simp) To.pure)

end Go.Proofs.Ytclepigknhoonaa
