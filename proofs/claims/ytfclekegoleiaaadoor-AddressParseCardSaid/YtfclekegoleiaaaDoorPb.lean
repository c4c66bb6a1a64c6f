/-
  Addresses read out of their texts: the program's reader and the plain one tell alike, and each undoes the writing.
-/
import Derived.Test.YtfclekegoleiaaaDoorPa
set_option linter.unusedVariables false
set_option linter.unusedSimpArgs false
namespace Go.Proofs.YtfclekegoleiaaaDoor
open Go Go.Dec

def kdF (s : Str) : List Str → Int → Option Int
  | [], _ => none
  | x :: xs, k => if x = s then some k else kdF s xs (k + 1)
/-- The kind that a word names. -/
def kd (s : Str) : Option Int := kdF s nm 0

theorem kdF_some (s : Str) : ∀ (xs : List Str) (k j : Int), kdF s xs k = some j → ∃ m : Nat, j = k + m ∧ xs[m]? = some s
  | [], k, j, h => by cases h
  | x :: xs, k, j, h => by
    unfold kdF at h
    split at h
    · rename_i e
      cases h
      exact ⟨0, by simp, by simp [e]⟩
    · obtain ⟨m, h1, h2⟩ := kdF_some s xs (k + 1) j h
      exact ⟨m + 1, by rw [h1]; simp; omega, by simpa using h2⟩

theorem kd_some {s : Str} {j : Int} (h : kd s = some j) : 0 ≤ j ∧ j ≤ 7 ∧ nameOf j = s := by
  obtain ⟨m, h1, h2⟩ := kdF_some s nm 0 j h
  have hl := (List.getElem?_eq_some_iff.1 h2).1
  have hl' : m < 8 := hl
  refine ⟨by omega, by omega, ?_⟩
  unfold nameOf
  rw [show j = (m : Int) by omega, idx_nat, h2]
  rfl

theorem kd_name {k : Int} (h0 : 0 ≤ k) (h1 : k ≤ 7) : kd (nameOf k) = some k := by
  obtain ⟨m, rfl⟩ : ∃ m : Nat, k = (m : Int) := ⟨k.toNat, by omega⟩
  have hm : m = 0 ∨ m = 1 ∨ m = 2 ∨ m = 3 ∨ m = 4 ∨ m = 5 ∨ m = 6 ∨ m = 7 := by omega
  rcases hm with rfl | rfl | rfl | rfl | rfl | rfl | rfl | rfl <;> rfl

theorem kind_a (s : Str) : To (fun n => M.address_kind n s) (match kd s with | some k => (k, true) | none => (0, false)) := by
  have loop : ∀ (xs : List Str) (k : Nat), nm.drop k = xs → To (fun n => M.address_kind_loop1 s n (k : Int)) (match kdF s xs k with | some j => .inr (j, true) | none => .inl ()) := by
    intro xs
    induction xs with
    | nil =>
      intro k hx
      have := drop_end hx
      refine To.succ ?_
      simp only [M.address_kind_loop1]
      exact To.neg this To.pure
    | cons x xs ih =>
      intro k hx
      obtain ⟨h1, h2, h3⟩ := drop_cons hx
      have h1' : k < 8 := h1
      have hi : idx nm (k : Int) = some x := drop_idx hx
      have hn : nameOf (k : Int) = x := by unfold nameOf; rw [hi]; rfl
      refine To.succ ?_
      simp only [M.address_kind_loop1]
      refine To.pos (by omega) (To.bindS (name_a (by omega) (by omega)) ?_)
      rw [hn]
      unfold kdF
      by_cases e : x = s
      · rw [if_pos e]
        exact To.pos (by simp [e]) To.pure
      · rw [if_neg e]
        refine To.neg (by simpa using e) (To.bindS (addC_succ (by omega)) ?_)
        exact ih (k + 1) h3
  simp only [M.address_kind]
  refine To.bind (loop nm 0 rfl) ?_
  show To _ (match kdF s nm 0 with | some k => (k, true) | none => (0, false))
  cases kdF s nm ((0 : Nat) : Int) with
  | none => exact To.pure
  | some j => exact To.pure

theorem kind_r (s : Str) : To (fun n => M.r07_Kind n s) (match kd s with | some k => k | none => -1) := by
  have loop : ∀ (xs : List Str) (k : Nat), nm.drop k = xs → To (fun n => M.r07_Kind_loop1 s n (k : Int)) (match kdF s xs k with | some j => .inr j | none => .inl ()) := by
    intro xs
    induction xs with
    | nil =>
      intro k hx
      have := drop_end hx
      refine To.succ ?_
      simp only [M.r07_Kind_loop1]
      exact To.neg this To.pure
    | cons x xs ih =>
      intro k hx
      obtain ⟨h1, h2, h3⟩ := drop_cons hx
      have h1' : k < 8 := h1
      refine To.succ ?_
      simp only [M.r07_Kind_loop1]
      refine To.pos (by omega) (To.bindS (a := nm) rfl (To.bindS (drop_idx hx) ?_))
      unfold kdF
      by_cases e : x = s
      · rw [if_pos e]
        exact To.pos (by simp [e]) To.pure
      · rw [if_neg e]
        refine To.neg (by simpa using e) (To.bindS (addC_succ (by omega)) ?_)
        exact ih (k + 1) h3
  simp only [M.r07_Kind]
  refine To.bind (loop nm 0 rfl) ?_
  show To _ (match kdF s nm 0 with | some k => k | none => -1)
  cases kdF s nm ((0 : Nat) : Int) with
  | none => exact To.pure
  | some j => exact To.pure

/-- The program's reader. -/
def cpW : List Str → Option (List api_Step)
  | [] => some []
  | [w] => match kd w with
    | none => none
    | some k => if k = 0 then some [⟨k, []⟩] else none
  | w :: l :: ws => match kd w with
    | none => none
    | some k => if k = 0 then (cpW (l :: ws)).map (⟨k, []⟩ :: ·) else (cpW ws).map (⟨k, l⟩ :: ·)

/-- The plain reader. -/
def rpW : Bool → List Str → Option (List api_Step)
  | _, [] => some []
  | f, [w] => match kd w with
    | none => none
    | some k => if k = 0 ∧ f = true then some [⟨0, []⟩] else none
  | f, w :: l :: ws => match kd w with
    | none => none
    | some k => if k = 0 ∧ f = true then (rpW false (l :: ws)).map (⟨0, []⟩ :: ·) else if k < 1 then none else (rpW false ws).map (⟨k, l⟩ :: ·)

theorem cpW_zero {w : Str} (h : kd w = some 0) (ws : List Str) : cpW (w :: ws) = (cpW ws).map (⟨0, []⟩ :: ·) := by
  cases ws with
  | nil => unfold cpW; rw [h]; simp [cpW]
  | cons l ws => rw [cpW, h]; rfl
theorem cpW_step {w : Str} {k : Int} (h : kd w = some k) (hk : k ≠ 0) (l : Str) (ws : List Str) : cpW (w :: l :: ws) = (cpW ws).map (⟨k, l⟩ :: ·) := by
  rw [cpW, h]; simp [hk]

theorem loop_a : ∀ (m : Nat) (ws : List Str), ws.length ≤ m → ∀ p : List api_Step, p.length + ws.length ≤ 1000000 → To (fun n => M.address_Parse_loop1 n p ws) (match cpW ws with | some q => .inl (p ++ q) | none => .inr ([], 2)) := by
  intro m
  induction m with
  | zero =>
    intro ws hw p hp
    have : ws = [] := List.length_eq_zero_iff.1 (by omega)
    subst this
    refine To.succ ?_
    simp only [M.address_Parse_loop1]
    exact To.neg (by simp) (To.pure.of (by simp [cpW]))
  | succ m ih =>
    intro ws hw p hp
    cases ws with
    | nil =>
      refine To.succ ?_
      simp only [M.address_Parse_loop1]
      exact To.neg (by simp) (To.pure.of (by simp [cpW]))
    | cons w ws =>
      simp only [List.length_cons] at hw hp
      have hsl : slcLo (w :: ws) (1 : Int) = some ws := by
        unfold slcLo; rw [if_pos (by simp; omega)]; rfl
      refine To.succ ?_
      simp only [M.address_Parse_loop1]
      refine To.pos (by simp) (To.bindS idx_zero (To.bind (kind_a w) ?_))
      cases hk : kd w with
      | none =>
        refine To.pos rfl (To.pure.of ?_)
        cases ws with
        | nil => simp [cpW, hk]
        | cons l ws => simp [cpW, hk]
      | some k =>
        refine To.neg (by simp) (To.bindS hsl ?_)
        by_cases h0 : k = 0
        · subst h0
          refine To.neg (by simp) (To.bindS (appC_eq (by simp; omega)) ?_)
          refine (ih ws (by omega) (p ++ [⟨0, []⟩]) (by simp; omega)).of ?_
          rw [cpW_zero hk]
          cases cpW ws with
          | none => rfl
          | some q => simp
        · refine To.pos (by simpa using h0) ?_
          cases ws with
          | nil =>
            refine To.pos (by simp) (To.pure.of ?_)
            simp [cpW, hk, h0]
          | cons l ws =>
            have hsl2 : slcLo (l :: ws) (1 : Int) = some ws := by
              unfold slcLo; rw [if_pos (by simp; omega)]; rfl
            simp only [List.length_cons] at hw hp
            refine To.neg (by simp; omega) (To.bindS idx_zero (To.bindS hsl2 (To.bindS (appC_eq (by simp; omega)) ?_)))
            refine (ih ws (by omega) (p ++ [⟨k, l⟩]) (by simp; omega)).of ?_
            rw [cpW_step hk h0]
            cases cpW ws with
            | none => rfl
            | some q => simp

theorem loop_r (cut : List Str) (hc : cut.length ≤ 100000) : ∀ (m : Nat) (ws : List Str) (i : Nat), ws.length ≤ m → cut.drop i = ws → i ≤ cut.length → ∀ p : List api_Step, p.length ≤ i →
    To (fun n => M.r07_Parse_loop1 cut n p (i : Int)) (match rpW (decide (i = 0)) ws with | some q => .inl (p ++ q) | none => .inr ([], false)) := by
  intro m
  induction m with
  | zero =>
    intro ws i hw hx hi p hp
    have : ws = [] := List.length_eq_zero_iff.1 (by omega)
    subst this
    refine To.succ ?_
    simp only [M.r07_Parse_loop1]
    exact To.neg (drop_end hx) (To.pure.of (by simp [rpW]))
  | succ m ih =>
    intro ws i hw hx hi p hp
    cases ws with
    | nil =>
      refine To.succ ?_
      simp only [M.r07_Parse_loop1]
      exact To.neg (drop_end hx) (To.pure.of (by simp [rpW]))
    | cons w ws =>
      simp only [List.length_cons] at hw
      obtain ⟨h1, h2, h3⟩ := drop_cons hx
      have hlen : ws.length = cut.length - (i + 1) := by rw [← h3]; simp
      have hi1 : decide (i + 1 = 0) = false := by simp
      refine To.succ ?_
      simp only [M.r07_Parse_loop1]
      refine To.pos (drop_lt hx) (To.bindS (drop_idx hx) (To.bind (kind_r w) ?_))
      cases hk : kd w with
      | none =>
        refine To.bind (a := false) (To.neg (by simp) To.pure) (To.neg (by simp) (To.bind (a := true) (To.pos (by simp) To.pure) (To.pos rfl (To.pure.of ?_))))
        cases ws with
        | nil => simp [rpW, hk]
        | cons l ws => simp [rpW, hk]
      | some k =>
        obtain ⟨hk0, hk7, _⟩ := kd_some hk
        by_cases h0 : k = 0
        · subst h0
          by_cases hi0 : i = 0
          · subst hi0
            refine To.bind (a := true) (To.pos rfl (To.pure.of (by simp))) (To.pos rfl (To.bindS (appC_eq (by simp; omega)) ?_))
            rw [cast_succ]
            refine (ih ws 1 (by omega) h3 (by omega) (p ++ [⟨0, []⟩]) (by rw [List.length_append, List.length_cons, List.length_nil]; omega)).of ?_
            cases ws with
            | nil => simp [rpW, hk]
            | cons l ws =>
              have : rpW (decide (0 = 0)) (w :: l :: ws) = (rpW false (l :: ws)).map (⟨0, []⟩ :: ·) := by rw [rpW, hk]; simp
              rw [this]
              show (match rpW false (l :: ws) with | some q => _ | none => _) = _
              cases rpW false (l :: ws) with
              | none => rfl
              | some q => simp
          · refine To.bind (a := false) (To.pos rfl (To.pure.of (by simp; omega))) (To.neg (by simp) (To.bind (a := true) (To.pos (show (0 : Int) < 1 by omega) To.pure) (To.pos rfl (To.pure.of ?_))))
            cases ws with
            | nil => simp [rpW, hk, hi0]
            | cons l ws => simp [rpW, hk, hi0]
        · refine To.bind (a := false) (To.neg h0 To.pure) (To.neg (by simp) ?_)
          cases ws with
          | nil =>
            simp only [List.length_nil] at hlen
            refine To.bind (a := true) (To.neg (show ¬ k < 1 by omega) (To.pure.of (by simp; omega))) (To.pos rfl (To.pure.of ?_))
            simp [rpW, hk, h0]
          | cons l ws =>
            simp only [List.length_cons] at hlen hw
            obtain ⟨g1, g2, g3⟩ := drop_cons h3
            have hnk : ¬ k < 1 := by omega
            refine To.bind (a := false) (To.neg hnk (To.pure.of (by simp; omega))) (To.neg (by simp) (To.bindS (a := l) ?_ (To.bindS (appC_eq (by simp; omega)) (To.bindS (a := ((i + 2 : Nat) : Int)) ?_ ?_))))
            · rw [cast_succ, idx_nat]; exact g2
            · rw [addC_eq (by omega) (by omega)]; simp
            · refine (ih ws (i + 2) (by omega) g3 (by omega) (p ++ [⟨k, l⟩]) (by simp; omega)).of ?_
              have : rpW (decide (i = 0)) (w :: l :: ws) = (rpW false ws).map (⟨k, l⟩ :: ·) := by rw [rpW, hk]; simp [h0, hnk]
              rw [this, show decide (i + 2 = 0) = false by simp]
              cases rpW false ws with
              | none => rfl
              | some q => simp

theorem rp_cp : ∀ (m : Nat) (ws : List Str), ws.length ≤ m → ∀ (f : Bool) (p : List api_Step), rpW f ws = some p → cpW ws = some p := by
  intro m
  induction m with
  | zero =>
    intro ws hw f p h
    have : ws = [] := List.length_eq_zero_iff.1 (by omega)
    subst this
    simpa [rpW, cpW] using h
  | succ m ih =>
    intro ws hw f p h
    match ws, hw, h with
    | [], _, h => simpa [rpW, cpW] using h
    | [w], _, h =>
      rw [rpW] at h
      rw [cpW]
      cases hk : kd w with
      | none => rw [hk] at h; cases h
      | some k =>
        rw [hk] at h
        simp only at h ⊢
        split at h
        · rename_i e
          rw [if_pos e.1, e.1]; exact h
        · cases h
    | w :: l :: ws, hw, h =>
      simp only [List.length_cons] at hw
      rw [rpW] at h
      cases hk : kd w with
      | none => rw [hk] at h; cases h
      | some k =>
        rw [hk] at h
        simp only at h
        split at h
        · rename_i e
          rw [e.1] at hk
          rw [cpW_zero hk]
          cases hr : rpW false (l :: ws) with
          | none => rw [hr] at h; cases h
          | some q =>
            rw [hr] at h
            rw [ih (l :: ws) (by simp; omega) false q hr]
            exact h
        · split at h
          · cases h
          · rw [cpW_step hk (by omega)]
            cases hr : rpW false ws with
            | none => rw [hr] at h; cases h
            | some q =>
              rw [hr] at h
              rw [ih ws (by omega) false q hr]
              exact h

theorem book_not {k : Int} {l : Str} (h : k ≠ 0) : bookB ⟨k, l⟩ = false := by simp [bookB, h]

theorem cp_words : ∀ (m : Nat) (ws : List Str), ws.length ≤ m → ∀ p : List api_Step, cpW ws = some p → words p = ws := by
  intro m
  induction m with
  | zero =>
    intro ws hw p h
    have : ws = [] := List.length_eq_zero_iff.1 (by omega)
    subst this
    rw [cpW] at h
    cases h
    rfl
  | succ m ih =>
    intro ws hw p h
    match ws, hw, h with
    | [], _, h => rw [cpW] at h; cases h; rfl
    | w :: ws, hw, h =>
      simp only [List.length_cons] at hw
      cases hk : kd w with
      | none => cases ws <;> (rw [cpW, hk] at h; cases h)
      | some k =>
        obtain ⟨_, _, hn⟩ := kd_some hk
        by_cases h0 : k = 0
        · subst h0
          rw [cpW_zero hk] at h
          cases hr : cpW ws with
          | none => rw [hr] at h; cases h
          | some q =>
            rw [hr] at h
            cases h
            have := ih ws (by omega) q hr
            have hb : bookB ⟨0, []⟩ = true := rfl
            show wordsOf ⟨0, []⟩ ++ words q = _
            rw [this]
            unfold wordsOf
            rw [if_pos hb, hn]; rfl
        · cases ws with
          | nil => rw [cpW, hk] at h; simp [h0] at h
          | cons l ws =>
            simp only [List.length_cons] at hw
            rw [cpW_step hk h0] at h
            cases hr : cpW ws with
            | none => rw [hr] at h; cases h
            | some q =>
              rw [hr] at h
              cases h
              have := ih ws (by omega) q hr
              show wordsOf ⟨k, l⟩ ++ words q = _
              rw [this]
              unfold wordsOf
              rw [if_neg (by rw [book_not h0]; simp), hn]; rfl

theorem cp_rp : ∀ (m : Nat) (ws : List Str), ws.length ≤ m → ∀ p : List api_Step, cpW ws = some p → stepsB p = true → rpW false ws = some p := by
  intro m
  induction m with
  | zero =>
    intro ws hw p h _
    have : ws = [] := List.length_eq_zero_iff.1 (by omega)
    subst this
    simpa [rpW, cpW] using h
  | succ m ih =>
    intro ws hw p h hs
    match ws, hw, h with
    | [], _, h => simpa [rpW, cpW] using h
    | w :: ws, hw, h =>
      simp only [List.length_cons] at hw
      cases hk : kd w with
      | none => cases ws <;> (rw [cpW, hk] at h; cases h)
      | some k =>
        obtain ⟨hk0, _, _⟩ := kd_some hk
        by_cases h0 : k = 0
        · subst h0
          rw [cpW_zero hk] at h
          cases hr : cpW ws with
          | none => rw [hr] at h; cases h
          | some q =>
            rw [hr] at h
            cases h
            simp [stepsB, stepB] at hs
        · cases ws with
          | nil => rw [cpW, hk] at h; simp [h0] at h
          | cons l ws =>
            simp only [List.length_cons] at hw
            rw [cpW_step hk h0] at h
            rw [rpW, hk]
            simp only
            rw [if_neg (fun e => h0 e.1), if_neg (by omega)]
            cases hr : cpW ws with
            | none => rw [hr] at h; cases h
            | some q =>
              rw [hr] at h
              cases h
              rw [stepsB, Bool.and_eq_true] at hs
              rw [ih ws (by omega) q hr hs.2]; rfl

theorem cp_rpT (ws : List Str) (p : List api_Step) (h : cpW ws = some p) (hv : validB p = true) : rpW true ws = some p := by
  unfold validB at hv
  rw [Bool.and_eq_true] at hv
  have hv1 := hv.1
  match ws, h with
  | [], h => simpa [rpW, cpW] using h
  | w :: ws, h =>
    cases hk : kd w with
    | none => cases ws <;> (rw [cpW, hk] at h; cases h)
    | some k =>
      obtain ⟨hk0, _, _⟩ := kd_some hk
      by_cases h0 : k = 0
      · subst h0
        rw [cpW_zero hk] at h
        cases hr : cpW ws with
        | none => rw [hr] at h; cases h
        | some q =>
          rw [hr] at h
          cases h
          simp only [Bool.and_eq_true] at hv1
          have hq := cp_rp _ ws (Nat.le_refl _) q hr hv1.2
          cases ws with
          | nil =>
            rw [cpW] at hr
            cases hr
            rw [rpW, hk]; simp
          | cons l ws =>
            rw [rpW, hk]
            simp only [and_self, if_true]
            rw [hq]; rfl
      · cases ws with
        | nil => rw [cpW, hk] at h; simp [h0] at h
        | cons l ws =>
          rw [cpW_step hk h0] at h
          rw [rpW, hk]
          simp only
          rw [if_neg (fun e => h0 e.1), if_neg (by omega)]
          cases hr : cpW ws with
          | none => rw [hr] at h; cases h
          | some q =>
            rw [hr] at h
            cases h
            simp only [Bool.and_eq_true] at hv1
            rw [cp_rp _ ws (Nat.le_refl _) q hr hv1.2]; rfl

def fineS (s : api_Step) : Prop := bookB s = true ∨ (1 ≤ s.Kind ∧ s.Kind ≤ 7 ∧ labB s.Label = true)

theorem fine_steps : ∀ {p : List api_Step}, stepsB p = true → ∀ s ∈ p, fineS s
  | x :: p, h, s, hs => by
    rw [stepsB, Bool.and_eq_true] at h
    rcases List.mem_cons.1 hs with rfl | hs
    · have h1 := h.1
      unfold stepB at h1
      simp only [Bool.and_eq_true, decide_eq_true_eq] at h1
      exact .inr ⟨h1.1.1, h1.1.2, h1.2⟩
    · exact fine_steps h.2 s hs
theorem fine_valid {p : List api_Step} (h : validB p = true) : ∀ s ∈ p, fineS s := by
  unfold validB at h
  rw [Bool.and_eq_true] at h
  cases p with
  | nil => intro s hs; cases hs
  | cons x p =>
    have h1 := h.1
    simp only [Bool.and_eq_true, Bool.or_eq_true] at h1
    intro s hs
    rcases List.mem_cons.1 hs with rfl | hs
    · rcases h1.1 with hb | hb
      · exact .inl hb
      · unfold stepB at hb
        simp only [Bool.and_eq_true, decide_eq_true_eq] at hb
        exact .inr ⟨hb.1.1, hb.1.2, hb.2⟩
    · exact fine_steps h1.2 s hs

theorem book_is {s : api_Step} (h : bookB s = true) : s = ⟨0, []⟩ := by
  obtain ⟨k, l⟩ := s
  unfold bookB at h
  simp only [Bool.and_eq_true, decide_eq_true_eq, beq_iff_eq] at h
  rw [h.1, h.2]

theorem cp_of_words : ∀ p : List api_Step, (∀ s ∈ p, fineS s) → cpW (words p) = some p
  | [], _ => by simp [words, cpW]
  | s :: p, h => by
    have ih := cp_of_words p (fun x hx => h x (List.mem_cons_of_mem _ hx))
    have hw : words (s :: p) = wordsOf s ++ words p := by simp [words]
    rw [hw]
    unfold wordsOf
    rcases h s List.mem_cons_self with hb | ⟨h1, h2, h3⟩
    · rw [if_pos hb]
      have e := book_is hb
      subst e
      show cpW (nameOf 0 :: words p) = _
      rw [cpW_zero (kd_name (by omega) (by omega)), ih]; rfl
    · have hb : bookB s = false := by
        obtain ⟨k, l⟩ := s
        have h1' : 1 ≤ k := h1
        exact book_not (by omega)
      rw [if_neg (by rw [hb]; simp)]
      show cpW (nameOf s.Kind :: s.Label :: words p) = _
      rw [cpW_step (kd_name (by omega) h2) (by omega), ih]; rfl

theorem lab_no {s : Str} (h : labB s = true) : (32 : UInt8) ∉ s := by
  unfold labB at h
  simp only [Bool.and_eq_true] at h
  intro hm
  rw [← List.take_append_drop (s.takeWhile isDig).length s] at hm
  rcases List.mem_append.1 hm with hm | hm
  · have e : s.take (s.takeWhile isDig).length = s.takeWhile isDig := by
      have := List.takeWhile_append_dropWhile (p := isDig) (l := s)
      calc s.take (s.takeWhile isDig).length = (s.takeWhile isDig ++ s.dropWhile isDig).take (s.takeWhile isDig).length := by rw [this]
        _ = s.takeWhile isDig := by rw [List.take_append_of_le_length (Nat.le_refl _), List.take_length]
    rw [e] at hm
    have : ∀ (l : Str), (32 : UInt8) ∉ l.takeWhile isDig := by
      intro l
      induction l with
      | nil => simp
      | cons x l ih =>
        rw [List.takeWhile_cons]
        split
        · rename_i hx
          simp only [List.mem_cons, not_or]
          refine ⟨?_, ih⟩
          rintro rfl
          revert hx; decide
        · simp
    exact this s hm
  · have := List.all_eq_true.1 h.2 _ hm
    revert this; decide

theorem name_no {k : Int} (h0 : 0 ≤ k) (h1 : k ≤ 7) : (32 : UInt8) ∉ nameOf k ∧ nameOf k ≠ [] := by
  obtain ⟨m, rfl⟩ : ∃ m : Nat, k = (m : Int) := ⟨k.toNat, by omega⟩
  have hm : m = 0 ∨ m = 1 ∨ m = 2 ∨ m = 3 ∨ m = 4 ∨ m = 5 ∨ m = 6 ∨ m = 7 := by omega
  rcases hm with rfl | rfl | rfl | rfl | rfl | rfl | rfl | rfl <;> exact ⟨by decide, by decide⟩

theorem words_no {p : List api_Step} (h : ∀ s ∈ p, fineS s) : ∀ w ∈ words p, (32 : UInt8) ∉ w := by
  intro w hw
  unfold words at hw
  obtain ⟨s, hs, hw⟩ := List.mem_flatMap.1 hw
  unfold wordsOf at hw
  rcases h s hs with hb | ⟨h1, h2, h3⟩
  · rw [if_pos hb] at hw
    have e := book_is hb
    subst e
    rw [List.mem_singleton.1 hw]
    exact (name_no (by decide) (by decide)).1
  · split at hw
    · rw [List.mem_singleton.1 hw]
      exact (name_no (by omega) h2).1
    · simp only [List.mem_cons, List.not_mem_nil, or_false] at hw
      rcases hw with rfl | rfl
      · exact (name_no (by omega) h2).1
      · exact lab_no h3

/-- A text that was written is cut into its words again. -/
theorem cut_words {p : List api_Step} (h : validB p = true) (hp : p ≠ []) : joinS (words p) ≠ [] ∧ splitC 32 (joinS (words p)) = words p := by
  have hf := fine_valid h
  have hno := words_no hf
  cases p with
  | nil => exact absurd rfl hp
  | cons s q =>
    obtain ⟨x, xs, hx, hne⟩ : ∃ x xs, words (s :: q) = x :: xs ∧ x ≠ [] := by
      have hw : words (s :: q) = wordsOf s ++ words q := by simp [words]
      rw [hw]
      unfold wordsOf
      have hk : 0 ≤ s.Kind ∧ s.Kind ≤ 7 := by
        rcases hf s List.mem_cons_self with hb | ⟨h1, h2, _⟩
        · have e := book_is hb
          subst e
          exact ⟨by decide, by decide⟩
        · exact ⟨by omega, h2⟩
      split
      · exact ⟨_, _, rfl, (name_no hk.1 hk.2).2⟩
      · exact ⟨_, _, rfl, (name_no hk.1 hk.2).2⟩
    rw [hx] at hno ⊢
    refine ⟨by simp [joinS, hne], ?_⟩
    rw [joinS]
    exact split_tail xs (fun y hy => hno y (List.mem_cons_of_mem _ hy)) x (hno x List.mem_cons_self)

theorem cut_ok (s : Str) (hs : s.length ≤ 1000000) : To (fun n => M.r07_Cut n s) (splitC 32 s) := by
  simp only [M.r07_Cut]
  obtain ⟨q, qs, hq⟩ := splitC_cons 32 s
  refine To.bind (pieces_loop s hs s q qs 0 0 [] rfl (Nat.zero_le _) (Nat.le_refl _) (Nat.zero_le _) hq) (To.pure.of ?_)
  rw [hq]; simp

theorem splitC_len (c : UInt8) : ∀ s : Str, (splitC c s).length ≤ s.length + 1
  | [] => by simp [splitC]
  | b :: l => by
    have ih := splitC_len c l
    unfold splitC
    split
    · simp; omega
    · split
      · simp
      · rename_i h
        rw [h] at ih
        simp at ih ⊢; omega

theorem splitC_lens (c : UInt8) : ∀ s : Str, ∀ p ∈ splitC c s, p.length ≤ s.length
  | [], p, hp => by simp [splitC] at hp; subst hp; exact Nat.le_refl _
  | b :: l, p, hp => by
    unfold splitC at hp
    split at hp
    · rcases List.mem_cons.1 hp with rfl | hp
      · simp
      · have := splitC_lens c l p hp; simp; omega
    · split at hp
      · simp at hp; subst hp; simp
      · rename_i q qs hq
        rcases List.mem_cons.1 hp with rfl | hp
        · have := splitC_lens c l q (by rw [hq]; exact List.mem_cons_self); simp; omega
        · have := splitC_lens c l p (by rw [hq]; exact List.mem_cons_of_mem _ hp); simp; omega

/-- What the program reads out of a text. -/
theorem parse_a (s : Str) (hs : s.length ≤ 10000) (h0 : s ≠ []) : To (fun n => M.address_Parse n s) (match cpW (splitC 32 s) with | some q => if validB q = true then (q, 0) else ([], 2) | none => ([], 2)) := by
  simp only [M.address_Parse]
  have hl := splitC_len 32 s
  refine To.neg (by simpa using h0) (To.bindS (a := splitC 32 s) (if_pos (by omega)) (To.bind (loop_a _ _ (Nat.le_refl _) [] (by simp; omega)) ?_))
  cases hc : cpW (splitC 32 s) with
  | none => exact To.pure
  | some q =>
    have hw := cp_words _ _ (Nat.le_refl _) q hc
    refine To.bind (format_ok q) ?_
    simp only [List.nil_append]
    unfold fmt
    by_cases hv : validB q = true
    · rw [if_pos hv, if_pos hv, hw, join_split]
      exact To.neg (by simp) To.pure
    · rw [if_neg hv, if_neg hv]
      exact To.pos (by simpa using h0) To.pure

theorem fmt_of (s : Str) (q : List api_Step) (h : cpW (splitC 32 s) = some q) (hv : validB q = true) : fmt q = s := by
  unfold fmt
  rw [if_pos hv, cp_words _ _ (Nat.le_refl _) q h, join_split]

theorem cp_labels : ∀ (m : Nat) (ws : List Str) (B : Nat), ws.length ≤ m → (∀ w ∈ ws, w.length ≤ B) → ∀ p : List api_Step, cpW ws = some p → ∀ y ∈ p, y.Label.length ≤ B := by
  intro m
  induction m with
  | zero =>
    intro ws B hw _ p h
    have : ws = [] := List.length_eq_zero_iff.1 (by omega)
    subst this
    rw [cpW] at h
    cases h
    intro y hy; cases hy
  | succ m ih =>
    intro ws B hw hB p h
    match ws, hw, h with
    | [], _, h => rw [cpW] at h; cases h; intro y hy; cases hy
    | w :: ws, hw, h =>
      simp only [List.length_cons] at hw
      cases hk : kd w with
      | none => cases ws <;> (rw [cpW, hk] at h; cases h)
      | some k =>
        by_cases h0 : k = 0
        · subst h0
          rw [cpW_zero hk] at h
          cases hr : cpW ws with
          | none => rw [hr] at h; cases h
          | some q =>
            rw [hr] at h
            cases h
            intro y hy
            rcases List.mem_cons.1 hy with rfl | hy
            · exact Nat.zero_le _
            · exact ih ws B (by omega) (fun x hx => hB x (List.mem_cons_of_mem _ hx)) q hr y hy
        · cases ws with
          | nil => rw [cpW, hk] at h; simp [h0] at h
          | cons l ws =>
            simp only [List.length_cons] at hw
            rw [cpW_step hk h0] at h
            cases hr : cpW ws with
            | none => rw [hr] at h; cases h
            | some q =>
              rw [hr] at h
              cases h
              intro y hy
              rcases List.mem_cons.1 hy with rfl | hy
              · exact hB l (by simp)
              · exact ih ws B (by omega) (fun x hx => hB x (by simp [hx])) q hr y hy

/-- What the plain reader reads. -/
theorem parse_r (s : Str) (hs : s.length ≤ 10000) (h0 : s ≠ []) : To (fun n => M.r07_Parse n s) (match cpW (splitC 32 s) with | some q => if validB q = true then (q, true) else ([], false) | none => ([], false)) := by
  simp only [M.r07_Parse]
  have hl := splitC_len 32 s
  refine To.neg (by simpa using h0) (To.bind (cut_ok s (by omega)) (To.bind (loop_r (splitC 32 s) (by omega) _ (splitC 32 s) 0 (Nat.le_refl _) rfl (Nat.zero_le _) [] (Nat.zero_le _)) ?_))
  rw [show decide ((0 : Nat) = 0) = true from rfl]
  cases hr : rpW true (splitC 32 s) with
  | none =>
    cases hc : cpW (splitC 32 s) with
    | none => exact To.pure
    | some q =>
      by_cases hv : validB q = true
      · rw [cp_rpT _ q hc hv] at hr
        cases hr
      · exact To.pure.of (by simp only [if_neg hv])
  | some q =>
    have hc := rp_cp _ _ (Nat.le_refl _) true q hr
    rw [hc]
    simp only [List.nil_append]
    have hlab : ∀ y, y ∈ q → y.Label.length ≤ 1000000000 := fun y hy => by
      have := cp_labels _ _ s.length (Nat.le_refl _) (splitC_lens 32 s) q hc y hy
      omega
    refine To.bind (amay_ok q hlab) ?_
    by_cases hv : validB q = true
    · rw [if_pos hv]
      exact To.neg (by simp [hv]) To.pure
    · rw [if_neg hv]
      exact To.pos (by simpa using hv) To.pure

theorem aparse_true (s : Str) : ∃ n, M.law07_AddressParse n s = some true := by
  refine To.ex ?_
  simp only [M.law07_AddressParse]
  by_cases hl : (1000 : Int) < (s.length : Int)
  · exact To.bind (a := true) (To.bind awake07 (To.neg (by simp) (To.pure.of (by simp [hl])))) (To.pos rfl (To.bind awake07 To.pure))
  · refine To.bind (a := false) (To.bind awake07 (To.neg (by simp) (To.pure.of (by simp only [hl, decide_false])))) (To.neg (by simp) ?_)
    by_cases h0 : s = []
    · subst h0
      refine To.bind (a := ([], 0)) (by simp only [M.address_Parse]; exact To.pos rfl To.pure) (To.bind (a := ([], true)) (by simp only [M.r07_Parse]; exact To.pos rfl To.pure) (To.neg (by simp) (To.pos rfl (To.bind (same7 []) (To.pos rfl (To.bind (format_ok []) (To.pure.of ?_)))))))
      decide
    · have ha := parse_a s (by omega) h0
      have hr := parse_r s (by omega) h0
      cases hc : cpW (splitC 32 s) with
      | none =>
        rw [hc] at ha hr
        exact To.bind ha (To.bind hr (To.pos rfl (To.bind (a := true) (To.pos rfl (To.pure.of (by simp))) To.pure)))
      | some q =>
        rw [hc] at ha hr
        by_cases hv : validB q = true
        · refine To.bind (a := (q, 0)) (ha.of (if_pos hv)) (To.bind (a := (q, true)) (hr.of (if_pos hv)) ?_)
          refine To.neg (by simp) (To.pos rfl (To.bind (same7 q) (To.pos rfl (To.bind (format_ok q) (To.pure.of ?_)))))
          rw [fmt_of s q hc hv]; simp
        · refine To.bind (a := ([], 2)) (ha.of (if_neg hv)) (To.bind (a := ([], false)) (hr.of (if_neg hv)) ?_)
          exact To.pos rfl (To.bind (a := true) (To.pos rfl (To.pure.of (by simp))) To.pure)

theorem aformat_true (p : List api_Step) : ∃ n, M.law07_AddressFormat n p = some true := by
  refine To.ex ?_
  simp only [M.law07_AddressFormat]
  obtain ⟨b, hb, hb2⟩ := short07 p
  cases b with
  | false => exact To.bind (a := true) (To.bind awake07 (To.neg (by simp) (To.bind hb (To.pure.of (by simp))))) (To.pos rfl (To.bind awake07 To.pure))
  | true =>
    obtain ⟨hpl, hpy⟩ := hb2 rfl
    have hlab : ∀ y, y ∈ p → y.Label.length ≤ 1000000000 := fun y hy => by have := hpy y hy; omega
    refine To.bind (a := false) (To.bind awake07 (To.neg (by simp) (To.bind hb (To.pure.of (by simp))))) (To.neg (by simp) (To.bind (format_ok p) ?_))
    refine To.bind (a := false) (To.bind (avalid_ok p) (To.bind (amay_ok p hlab) (To.neg (by simp) (To.bind (text_ok p hlab) (To.pure.of (by simp)))))) (To.neg (by simp) (To.bind (avalid_ok p) ?_))
    by_cases hv : validB p = true
    · refine To.neg (by simp [hv]) ?_
      by_cases h0 : p = []
      · subst h0
        have e : fmt [] = [] := by decide
        rw [e]
        refine To.bind (a := ([], 0)) (by simp only [M.address_Parse]; exact To.pos rfl To.pure) (To.pos rfl (To.bind (same7 []) To.pure))
      · obtain ⟨hne, hcut⟩ := cut_words hv h0
        have e : fmt p = joinS (words p) := by unfold fmt; rw [if_pos hv]
        have hlen := fmt_len p
        rw [e] at hlen ⊢
        refine To.bind (a := (p, 0)) ((parse_a _ (by omega) hne).of ?_) (To.pos rfl (To.bind (same7 p) To.pure))
        rw [hcut, cp_of_words p (fine_valid hv)]
        simp only [if_pos hv]
    · refine To.pos (by simpa using hv) (To.pure.of ?_)
      unfold fmt
      rw [if_neg hv]; rfl
end Go.Proofs.YtfclekegoleiaaaDoor
