/-
  A valid citation is told by its words; what the longest is; Scan.
-/
import Derived.Test.YtnmkblpbmoikpaaDoorPe
set_option linter.unusedVariables false
set_option linter.unusedSimpArgs false
namespace Go.Proofs.YtnmkblpbmoikpaaDoor
open Go Go.Dec
def rdSteps : List Str → List api_Step × List Str
  | a :: b :: w => if isK sgL a = true then (⟨kdI sgL a, b⟩ :: (rdSteps w).1, (rdSteps w).2) else ([], a :: b :: w)
  | w => ([], w)
def isKo : Option Str → Bool
  | some b => isK sgL b
  | none => false
def rdH (w : List Str) : Int × List api_Step × Nat :=
  if w[0]? = some thisW ∧ isKo w[1]? = true then (2, [⟨kdI sgL ((w[1]?).getD []), []⟩], 2)
  else if w[0]? = some theW ∧ w[1]? = some saidW ∧ isKo w[2]? = true then (3, [⟨kdI sgL ((w[2]?).getD []), []⟩], 3)
  else if w[0]? = some oldW then (4, [], 1) else (0, [], 0)
def rdB (w : List Str) (h : Int × List api_Step × Nat) : List api_Step × Nat :=
  if (h.1 ≠ 2 ∧ h.1 ≠ 3) ∧ w[h.2.2]? = some bkW then (h.2.1 ++ [⟨0, []⟩], h.2.2 + 1) else h.2
def rdE (k : Int) (p : List api_Step) (r : List Str) : api_Cite × List Str := match r with
  | [a, b, t, d] => if k = 0 ∧ isK plL a = true ∧ t = toW then (⟨1, p ++ [⟨kdI plL a, b⟩], d, 0, 0⟩, []) else (⟨k, p, [], 0, 0⟩, r)
  | _ => (⟨k, p, [], 0, 0⟩, r)
def rdZ (w : List Str) : api_Cite × List Str := rdE (rdH w).1 ((rdB w (rdH w)).1 ++ (rdSteps (w.drop (rdB w (rdH w)).2)).1) (rdSteps (w.drop (rdB w (rdH w)).2)).2
def rdF (w : List Str) : Option api_Cite := if (rdZ w).2 = [] ∧ citeB (rdZ w).1 = true then some (rdZ w).1 else none
theorem rdSteps_told : ∀ (q : List api_Step) (rest : List Str), stepsB q = true → (∀ a b w, rest = a :: b :: w → isK sgL a = false) → rdSteps (toldL q ++ rest) = (q, rest)
  | [], rest, _, h => by
    cases rest with
    | nil => rfl
    | cons a r => cases r with
      | nil => rfl
      | cons b w =>
        have := h a b w rfl
        show rdSteps (a :: b :: w) = _
        rw [rdSteps, if_neg (by rw [this]; simp)]
  | s :: q, rest, hs, h => by
    unfold stepsB at hs
    rw [Bool.and_eq_true] at hs
    obtain ⟨⟨_, k7, _⟩, k1⟩ := step_ok hs.1
    have ih := rdSteps_told q rest hs.2 h
    rw [toldL_cons, told_step hs.1]
    show rdSteps (sg s.Kind :: s.Label :: (toldL q ++ rest)) = _
    rw [rdSteps, if_pos (isK_sg k1 k7), ih, kd_sg k1 k7]
theorem rdH_plain {w : List Str} {x : Str} (h : w[0]? = some x) (h1 : x ≠ thisW) (h2 : x ≠ theW) (h3 : x ≠ oldW) : rdH w = (0, [], 0) := by
  unfold rdH
  rw [h, if_neg (fun e => h1 (Option.some.inj e.1)), if_neg (fun e => h2 (Option.some.inj e.1)), if_neg (fun e => h3 (Option.some.inj e))]
theorem rd_path {k : Int} (hk : k = 0 ∨ k = 4) {w : List Str} {i : Nat} {p q : List api_Step} {rest : List Str} (hq : stepsB q = true) (hs : p = q ∨ p = ⟨0, []⟩ :: q) (hw : w.drop i = toldL p ++ rest)
    (hrest : ∀ a b w, rest = a :: b :: w → isK sgL a = false) (hne : q = [] → rest.head? ≠ some bkW) :
    (rdB w (k, [], i)).1 ++ (rdSteps (w.drop (rdB w (k, [], i)).2)).1 = p ∧ (rdSteps (w.drop (rdB w (k, [], i)).2)).2 = rest := by
  have hi : w[i]? = (toldL p ++ rest).head? := by
    rw [← hw, List.head?_drop]
  unfold rdB
  rcases hs with rfl | rfl
  · have : ¬ (((k, ([] : List api_Step), i).1 ≠ 2 ∧ (k, ([] : List api_Step), i).1 ≠ 3) ∧ w[(k, ([] : List api_Step), i).2.2]? = some bkW) := by
      rintro ⟨_, e⟩
      have e : w[i]? = some bkW := e
      rw [hi] at e
      cases p with
      | nil => exact hne rfl (by simpa [toldL] using e)
      | cons s q =>
        unfold stepsB at hq
        rw [Bool.and_eq_true] at hq
        obtain ⟨⟨_, k7, _⟩, k1⟩ := step_ok hq.1
        rw [toldL_cons, told_step hq.1] at e
        have e : some (sg s.Kind) = some bkW := e
        exact (sg_no k1 k7).1 (Option.some.inj e)
    rw [if_neg this]
    show ([] : List api_Step) ++ (rdSteps (w.drop i)).1 = p ∧ (rdSteps (w.drop i)).2 = rest
    rw [hw, rdSteps_told p rest hq hrest]
    exact ⟨rfl, rfl⟩
  · have hb : toldL (⟨0, []⟩ :: q) ++ rest = bkW :: (toldL q ++ rest) := by
      rw [show (⟨0, []⟩ :: q : List api_Step) = [⟨0, []⟩] ++ q from rfl, toldL_append, book_told]; rfl
    rw [hb] at hi hw
    rw [if_pos ⟨⟨by show k ≠ 2; omega, by show k ≠ 3; omega⟩, hi⟩]
    show [(⟨0, []⟩ : api_Step)] ++ (rdSteps (w.drop (i + 1))).1 = _ ∧ (rdSteps (w.drop (i + 1))).2 = rest
    have : w.drop (i + 1) = toldL q ++ rest := by
      rw [← List.drop_drop, hw]; rfl
    rw [this, rdSteps_told q rest hq hrest]
    exact ⟨rfl, rfl⟩
theorem told_head {p q : List api_Step} (hq : stepsB q = true) (hs : p = q ∨ p = ⟨0, []⟩ :: q) {x : Str} (h : (toldL p).head? = some x) : x ≠ thisW ∧ x ≠ theW ∧ x ≠ oldW := by
  rcases hs with rfl | rfl
  · cases p with
    | nil => cases h
    | cons s q =>
      unfold stepsB at hq
      rw [Bool.and_eq_true] at hq
      obtain ⟨⟨_, k7, _⟩, k1⟩ := step_ok hq.1
      rw [toldL_cons, told_step hq.1] at h
      have h : some (sg s.Kind) = some x := h
      cases h
      exact ⟨(sg_no k1 k7).2.1, (sg_no k1 k7).2.2.1, (sg_no k1 k7).2.2.2⟩
  · rw [show (⟨0, []⟩ :: q : List api_Step) = [⟨0, []⟩] ++ q from rfl, toldL_append, book_told] at h
    have h : some bkW = some x := h
    cases h
    decide
def bareC (c : api_Cite) : api_Cite := { c with From := 0, At := 0 }
theorem rdF_of {w : List Str} {c : api_Cite} (hz : rdZ w = (bareC c, [])) (hc : citeB c = true) : rdF w = some (bareC c) := by
  unfold rdF
  rw [hz, if_pos ⟨rfl, hc⟩]
theorem read_words {c : api_Cite} (hc : citeB c = true) : rdF (wordsB c) = some (bareC c) := by
  refine rdF_of ?_ hc
  have h9 := (cite_small hc).1
  obtain ⟨K, P, T, F, A⟩ := c
  unfold bareC
  show rdZ (wordsB ⟨K, P, T, F, A⟩) = (⟨K, P, T, 0, 0⟩, [])
  rcases kinds_of hc with hk | hk | hk | hk | hk
  · have hk : K = 0 := hk
    subst hk
    rw [cite04 (by omega) (.inl rfl), Bool.and_eq_true] at hc
    have ht : T = [] := by simpa using hc.1
    subst ht
    obtain ⟨q, hq, hn, hs⟩ := plain_shape hc.2
    have hs : P = q ∨ P = ⟨0, []⟩ :: q := hs
    have hw : wordsB ⟨0, P, [], F, A⟩ = toldL P := rfl
    rw [hw]
    have hP : P ≠ [] := plain_ne' hc.2
    obtain ⟨x, r, hx⟩ := List.exists_cons_of_ne_nil (toldL_ne hP)
    have hhd : (toldL P).head? = some x := by rw [hx]; rfl
    obtain ⟨h1, h2, h3⟩ := told_head hq hs hhd
    have hH := rdH_plain (w := toldL P) (x := x) (by rw [hx]; rfl) h1 h2 h3
    unfold rdZ
    rw [hH]
    obtain ⟨e1, e2⟩ := rd_path (k := 0) (.inl rfl) (w := toldL P) (i := 0) (rest := []) hq hs (by simp) (fun _ _ _ e => by cases e) (fun e => absurd e hn)
    rw [e1, e2]
    rfl
  · have hk : K = 1 := hk
    subst hk
    have hc2 := hc
    rw [cite1 (by omega) rfl, Bool.and_eq_true, Bool.and_eq_true] at hc2
    obtain ⟨⟨hp, ht⟩, h6⟩ := hc2
    obtain ⟨q0, s, hq0, hs, hps, hlast, hsh⟩ := last_shape hp
    have hlk : lastKind P = s.Kind := by unfold lastKind; rw [hlast]
    have hll : lastLab P = s.Label := by unfold lastLab; rw [hlast]
    have h6 : s.Kind ≠ 6 := by rw [← hlk]; simpa using h6
    obtain ⟨⟨_, k7, _⟩, k1⟩ := step_ok hs
    have hw : wordsB ⟨1, P, T, F, A⟩ = toldL P.dropLast ++ [pl s.Kind, s.Label, toW, T] := by simp [wordsB, tailW, hlk, hll]
    rw [hw]
    have hno := pl_no k1 k7
    generalize hW : toldL P.dropLast ++ [pl s.Kind, s.Label, toW, T] = W
    obtain ⟨x, hx, hx1, hx2, hx3⟩ : ∃ x, W[0]? = some x ∧ x ≠ thisW ∧ x ≠ theW ∧ x ≠ oldW := by
      cases hd : toldL P.dropLast with
      | nil =>
        rw [hd] at hW
        exact ⟨pl s.Kind, by rw [← hW]; rfl, hno.2.2.1, hno.2.2.2.1, hno.2.2.2.2⟩
      | cons x r =>
        obtain ⟨h1, h2, h3⟩ := told_head hq0 hsh (x := x) (by rw [hd]; rfl)
        exact ⟨x, by rw [← hW, hd]; rfl, h1, h2, h3⟩
    have hH := rdH_plain hx hx1 hx2 hx3
    unfold rdZ
    rw [hH]
    obtain ⟨e1, e2⟩ := rd_path (k := 0) (.inl rfl) (w := W) (i := 0) (rest := [pl s.Kind, s.Label, toW, T]) hq0 hsh (by rw [← hW]; rfl) (fun _ _ _ e => by cases e; exact hno.1) (fun _ e => hno.2.1 (Option.some.inj e))
    rw [e1, e2]
    show (if (0 : Int) = 0 ∧ isK plL (pl s.Kind) = true ∧ toW = toW then ((⟨1, P.dropLast ++ [⟨kdI plL (pl s.Kind), s.Label⟩], T, 0, 0⟩ : api_Cite), ([] : List Str)) else _) = _
    rw [if_pos ⟨rfl, isK_pl k1 k7 h6, rfl⟩, kd_pl k1 k7 h6]
    have : P.dropLast ++ [(⟨s.Kind, s.Label⟩ : api_Step)] = P := hps.symm
    rw [this]
  · have hk : K = 2 := hk
    subst hk
    rw [cite23 (by omega) (.inl rfl), Bool.and_eq_true] at hc
    have ht : T = [] := by simpa using hc.1
    subst ht
    obtain ⟨k, q, hP, k1, k7, hq⟩ := near_shape hc.2
    have hP : P = ⟨k, []⟩ :: q := hP
    subst hP
    have hw : wordsB ⟨2, ⟨k, []⟩ :: q, [], F, A⟩ = thisW :: sg k :: toldL q := by
      show thisW :: toldL (⟨k, []⟩ :: q) = _
      rw [near_told k1]
    rw [hw]
    have hH : rdH (thisW :: sg k :: toldL q) = (2, [⟨k, []⟩], 2) := by
      unfold rdH
      rw [if_pos ⟨rfl, isK_sg k1 k7⟩]
      show ((2 : Int), [(⟨kdI sgL (sg k), []⟩ : api_Step)], 2) = _
      rw [kd_sg k1 k7]
    unfold rdZ
    rw [hH]
    have hB : rdB (thisW :: sg k :: toldL q) (2, [⟨k, []⟩], 2) = ([⟨k, []⟩], 2) := by
      unfold rdB
      rw [if_neg (fun e => e.1.1 rfl)]
    rw [hB]
    show rdE 2 ([⟨k, []⟩] ++ (rdSteps (toldL q)).1) (rdSteps (toldL q)).2 = _
    have := rdSteps_told q [] hq (fun _ _ _ e => by cases e)
    rw [List.append_nil] at this
    rw [this]
    rfl
  · have hk : K = 3 := hk
    subst hk
    rw [cite23 (by omega) (.inr rfl), Bool.and_eq_true] at hc
    have ht : T = [] := by simpa using hc.1
    subst ht
    obtain ⟨k, q, hP, k1, k7, hq⟩ := near_shape hc.2
    have hP : P = ⟨k, []⟩ :: q := hP
    subst hP
    have hw : wordsB ⟨3, ⟨k, []⟩ :: q, [], F, A⟩ = theW :: saidW :: sg k :: toldL q := by
      show theW :: saidW :: toldL (⟨k, []⟩ :: q) = _
      rw [near_told k1]
    rw [hw]
    have hH : rdH (theW :: saidW :: sg k :: toldL q) = (3, [⟨k, []⟩], 3) := by
      unfold rdH
      rw [if_neg (fun e => absurd (Option.some.inj e.1) (by decide)), if_pos ⟨rfl, rfl, isK_sg k1 k7⟩]
      show ((3 : Int), [(⟨kdI sgL (sg k), []⟩ : api_Step)], 3) = _
      rw [kd_sg k1 k7]
    unfold rdZ
    rw [hH]
    have hB : rdB (theW :: saidW :: sg k :: toldL q) (3, [⟨k, []⟩], 3) = ([⟨k, []⟩], 3) := by
      unfold rdB
      rw [if_neg (fun e => e.1.2 rfl)]
    rw [hB]
    show rdE 3 ([⟨k, []⟩] ++ (rdSteps (toldL q)).1) (rdSteps (toldL q)).2 = _
    have := rdSteps_told q [] hq (fun _ _ _ e => by cases e)
    rw [List.append_nil] at this
    rw [this]
    rfl
  · have hk : K = 4 := hk
    subst hk
    rw [cite04 (by omega) (.inr rfl), Bool.and_eq_true] at hc
    have ht : T = [] := by simpa using hc.1
    subst ht
    obtain ⟨q, hq, hn, hs⟩ := plain_shape hc.2
    have hs : P = q ∨ P = ⟨0, []⟩ :: q := hs
    have hw : wordsB ⟨4, P, [], F, A⟩ = oldW :: toldL P := rfl
    rw [hw]
    have hH : rdH (oldW :: toldL P) = (4, [], 1) := by
      unfold rdH
      rw [if_neg (fun e => absurd (Option.some.inj e.1) (by decide)), if_neg (fun e => absurd (Option.some.inj e.1) (by decide))]
      exact if_pos rfl
    unfold rdZ
    rw [hH]
    obtain ⟨e1, e2⟩ := rd_path (k := 4) (.inr rfl) (w := oldW :: toldL P) (i := 1) (rest := []) hq hs (by simp) (fun _ _ _ e => by cases e) (fun e => absurd e hn)
    rw [e1, e2]
    rfl
theorem uniq {c c' : api_Cite} (h : citeB c = true) (h' : citeB c' = true) (hw : wordsB c = wordsB c') : bareC c = bareC c' := by
  have e := read_words h
  rw [hw, read_words h'] at e
  exact (Option.some.inj e).symm
theorem rdSteps_sound : ∀ (n : Nat) (v : List Str), v.length ≤ n → stepsB (rdSteps v).1 = true → v = toldL (rdSteps v).1 ++ (rdSteps v).2
  | _, [], _, _ => rfl
  | _, [a], _, _ => rfl
  | 0, a :: b :: w, h, _ => by simp at h
  | n + 1, a :: b :: w, hl, h => by
    rw [rdSteps] at h ⊢
    by_cases hk : isK sgL a = true
    · rw [if_pos hk] at h ⊢
      unfold stepsB at h
      rw [Bool.and_eq_true] at h
      have ih := rdSteps_sound n w (by simp at hl; omega) h.2
      show a :: b :: w = toldL (⟨kdI sgL a, b⟩ :: (rdSteps w).1) ++ (rdSteps w).2
      rw [toldL_cons, told_step h.1]
      show a :: b :: w = sg (kdI sgL a) :: b :: (toldL (rdSteps w).1 ++ (rdSteps w).2)
      rw [(sg_word hk).2.2, ← ih]
    · rw [if_neg hk]; rfl
theorem rdSteps_kind : ∀ (n : Nat) (v : List Str), v.length ≤ n → ∀ s ∈ (rdSteps v).1, bookB s = false
  | _, [], _, s, h => by cases h
  | _, [a], _, s, h => by cases h
  | 0, a :: b :: w, h, _, _ => by simp at h
  | n + 1, a :: b :: w, hl, s, h => by
    rw [rdSteps] at h
    by_cases hk : isK sgL a = true
    · rw [if_pos hk] at h
      rcases List.mem_cons.1 h with rfl | h
      · have := (sg_word hk).1
        exact toldS_no (by show kdI sgL a ≠ 0; omega)
      · exact rdSteps_kind n w (by simp at hl; omega) s h
    · rw [if_neg hk] at h; cases h
theorem bare_no {p : List api_Step} (h : ∀ s ∈ p, bookB s = false) : bare p = p := by
  cases p with
  | nil => rfl
  | cons s p => rw [bare.eq_2, if_neg (by rw [h s List.mem_cons_self]; simp)]
theorem rdB_cases (w : List Str) (k : Int) (i : Nat) : (rdB w (k, [], i) = ([⟨0, []⟩], i + 1) ∧ w[i]? = some bkW) ∨ rdB w (k, [], i) = ([], i) := by
  unfold rdB
  split
  · rename_i h; exact .inl ⟨rfl, h.2⟩
  · exact .inr rfl
theorem path_back {w : List Str} {k : Int} {i : Nat} (hi : i ≤ w.length) (x : List api_Step) (hx : ∀ s ∈ x, bookB s = false)
    (h : plainB ((rdB w (k, [], i)).1 ++ (rdSteps (w.drop (rdB w (k, [], i)).2)).1 ++ x) = true) :
    w.drop i = toldL ((rdB w (k, [], i)).1 ++ (rdSteps (w.drop (rdB w (k, [], i)).2)).1) ++ (rdSteps (w.drop (rdB w (k, [], i)).2)).2 := by
  have hb : ∀ v : List Str, bare ((rdSteps v).1 ++ x) = (rdSteps v).1 ++ x := fun v => bare_no fun s hs => by
    rcases List.mem_append.1 hs with hs | hs
    · exact rdSteps_kind v.length v (Nat.le_refl _) s hs
    · exact hx s hs
  unfold plainB at h
  rw [Bool.and_eq_true] at h
  rcases rdB_cases w k i with ⟨e, hw⟩ | e
  · rw [e] at h ⊢
    have h2 : stepsB ((rdSteps (w.drop (i + 1))).1 ++ x) = true := h.2
    rw [steps_append, Bool.and_eq_true] at h2
    have := rdSteps_sound _ (w.drop (i + 1)) (Nat.le_refl _) h2.1
    show w.drop i = toldL ([⟨0, []⟩] ++ (rdSteps (w.drop (i + 1))).1) ++ (rdSteps (w.drop (i + 1))).2
    rw [toldL_append, book_told, List.append_assoc, ← this]
    have hl := (List.getElem?_eq_some_iff.1 hw).1
    rw [List.drop_eq_getElem_cons hl]
    rw [List.getElem?_eq_getElem hl] at hw
    rw [Option.some.inj hw]; rfl
  · rw [e] at h ⊢
    have h2 : stepsB (bare ((rdSteps (w.drop i)).1 ++ x)) = true := h.2
    rw [hb, steps_append, Bool.and_eq_true] at h2
    exact rdSteps_sound _ (w.drop i) (Nat.le_refl _) h2.1
theorem rdE_cases (k : Int) (p : List api_Step) (r : List Str) : (∃ a b d, r = [a, b, toW, d] ∧ k = 0 ∧ isK plL a = true ∧ rdE k p r = (⟨1, p ++ [⟨kdI plL a, b⟩], d, 0, 0⟩, [])) ∨ rdE k p r = (⟨k, p, [], 0, 0⟩, r) := by
  unfold rdE
  split
  · rename_i a b t d
    by_cases h : k = 0 ∧ isK plL a = true ∧ t = toW
    · rw [if_pos h]
      obtain ⟨h1, h2, rfl⟩ := h
      exact .inl ⟨a, b, d, rfl, h1, h2, rfl⟩
    · rw [if_neg h]; exact .inr rfl
  · exact .inr rfl
theorem read_sound {w : List Str} {c : api_Cite} (h : rdF w = some c) : citeB c = true ∧ wordsB c = w ∧ c.From = 0 ∧ c.At = 0 := by
  unfold rdF at h
  split at h
  · rename_i hz
    have hc := hz.2
    have hr := hz.1
    have hce := Option.some.inj h
    subst hce
    refine ⟨hc, ?_⟩
    have h9 := (cite_small hc).1
    revert hc hr h9
    unfold rdZ rdH
    split
    · rename_i hH
      obtain ⟨h0, h1⟩ := hH
      cases w with
      | nil => cases h0
      | cons a w => cases w with
        | nil => cases h1
        | cons b w =>
          have ha : a = thisW := Option.some.inj h0
          have hb : isK sgL b = true := h1
          subst ha
          have hB : rdB (thisW :: b :: w) (2, [⟨kdI sgL (((thisW :: b :: w)[1]?).getD []), []⟩], 2) = ([⟨kdI sgL b, []⟩], 2) := by
            unfold rdB
            rw [if_neg (fun e => e.1.1 rfl)]; rfl
          rw [hB]
          intro hc hr h9
          rcases rdE_cases 2 ([⟨kdI sgL b, []⟩] ++ (rdSteps w).1) (rdSteps w).2 with ⟨_, _, _, _, e, _⟩ | e
          · cases e
          · have e : rdE 2 ([⟨kdI sgL b, []⟩] ++ (rdSteps ((thisW :: b :: w).drop 2)).1) (rdSteps ((thisW :: b :: w).drop 2)).2 = (⟨2, [⟨kdI sgL b, []⟩] ++ (rdSteps w).1, [], 0, 0⟩, (rdSteps w).2) := e
            simp only [e] at hc hr h9 ⊢
            refine ⟨?_, by simp, by simp⟩
            rw [cite23 (by show ¬ 9 < ([(⟨kdI sgL b, []⟩ : api_Step)] ++ (rdSteps w).1).length; omega) (.inl rfl), Bool.and_eq_true] at hc
            obtain ⟨k1, k7, hsg⟩ := sg_word hb
            have hst : stepsB (rdSteps w).1 = true := by
              have := hc.2
              simp [nearB] at this
              exact this.2
            have hs := rdSteps_sound _ w (Nat.le_refl _) hst
            show thisW :: toldL (⟨kdI sgL b, []⟩ :: (rdSteps w).1) = _
            rw [near_told k1, hsg]
            rw [hr, List.append_nil] at hs
            rw [← hs]
    · split
      · rename_i hH
        obtain ⟨h0, h1, h2⟩ := hH
        cases w with
        | nil => cases h0
        | cons a w => cases w with
          | nil => cases h1
          | cons b w => cases w with
            | nil => cases h2
            | cons b2 w =>
              have ha : a = theW := Option.some.inj h0
              have hsd : b = saidW := Option.some.inj h1
              have hb : isK sgL b2 = true := h2
              subst ha hsd
              have hB : rdB (theW :: saidW :: b2 :: w) (3, [⟨kdI sgL (((theW :: saidW :: b2 :: w)[2]?).getD []), []⟩], 3) = ([⟨kdI sgL b2, []⟩], 3) := by
                unfold rdB
                rw [if_neg (fun e => e.1.2 rfl)]; rfl
              rw [hB]
              intro hc hr h9
              rcases rdE_cases 3 ([⟨kdI sgL b2, []⟩] ++ (rdSteps w).1) (rdSteps w).2 with ⟨_, _, _, _, e, _⟩ | e
              · cases e
              · have e : rdE 3 ([⟨kdI sgL b2, []⟩] ++ (rdSteps ((theW :: saidW :: b2 :: w).drop 3)).1) (rdSteps ((theW :: saidW :: b2 :: w).drop 3)).2 = (⟨3, [⟨kdI sgL b2, []⟩] ++ (rdSteps w).1, [], 0, 0⟩, (rdSteps w).2) := e
                simp only [e] at hc hr h9 ⊢
                refine ⟨?_, by simp, by simp⟩
                rw [cite23 (by show ¬ 9 < ([(⟨kdI sgL b2, []⟩ : api_Step)] ++ (rdSteps w).1).length; omega) (.inr rfl), Bool.and_eq_true] at hc
                obtain ⟨k1, k7, hsg⟩ := sg_word hb
                have hst : stepsB (rdSteps w).1 = true := by
                  have := hc.2
                  simp [nearB] at this
                  exact this.2
                have hs := rdSteps_sound _ w (Nat.le_refl _) hst
                show theW :: saidW :: toldL (⟨kdI sgL b2, []⟩ :: (rdSteps w).1) = _
                rw [near_told k1, hsg]
                rw [hr, List.append_nil] at hs
                rw [← hs]
      · split
        · rename_i h0
          cases w with
          | nil => cases h0
          | cons a w =>
            have ha : a = oldW := Option.some.inj h0
            subst ha
            intro hc hr h9
            generalize hp : (rdB (oldW :: w) (4, [], 1)).1 ++ (rdSteps ((oldW :: w).drop (rdB (oldW :: w) (4, [], 1)).2)).1 = p at hc hr h9 ⊢
            generalize hrr : (rdSteps ((oldW :: w).drop (rdB (oldW :: w) (4, [], 1)).2)).2 = r at hc hr h9 ⊢
            rcases rdE_cases 4 p r with ⟨_, _, _, _, e, _⟩ | e
            · cases e
            · simp only [e] at hc hr h9 ⊢
              refine ⟨?_, by simp, by simp⟩
              rw [cite04 (by show ¬ 9 < p.length; omega) (.inr rfl), Bool.and_eq_true] at hc
              have := path_back (w := oldW :: w) (k := 4) (i := 1) (by simp) [] (fun _ h => by cases h) (by rw [List.append_nil, hp]; exact hc.2)
              rw [hp, hrr, hr, List.append_nil] at this
              show oldW :: toldL p = _
              rw [← this]; rfl
        · intro hc hr h9
          generalize hp : (rdB w (0, [], 0)).1 ++ (rdSteps (w.drop (rdB w (0, [], 0)).2)).1 = p at hc hr h9 ⊢
          generalize hrr : (rdSteps (w.drop (rdB w (0, [], 0)).2)).2 = r at hc hr h9 ⊢
          rcases rdE_cases 0 p r with ⟨a, b, d, rfl, _, hk, e⟩ | e
          · simp only [e] at hc hr h9 ⊢
            refine ⟨?_, by simp, by simp⟩
            rw [cite1 (by show ¬ 9 < (p ++ [(⟨kdI plL a, b⟩ : api_Step)]).length; omega) rfl, Bool.and_eq_true, Bool.and_eq_true] at hc
            obtain ⟨k1, k7, hpl⟩ := pl_word hk
            have := path_back (w := w) (k := 0) (i := 0) (Nat.zero_le _) [⟨kdI plL a, b⟩] (fun s h => by
              rw [List.mem_singleton.1 h]
              exact toldS_no (by show kdI plL a ≠ 0; omega)) (by rw [hp]; exact hc.1.1)
            rw [hp, hrr] at this
            have hl : wordsB ⟨1, p ++ [⟨kdI plL a, b⟩], d, 0, 0⟩ = toldL p ++ [a, b, toW, d] := by
              simp [wordsB, tailW, lastKind, lastLab, hpl]
            rw [hl, ← this]; rfl
          · simp only [e] at hc hr h9 ⊢
            refine ⟨?_, by simp, by simp⟩
            rw [cite04 (by show ¬ 9 < p.length; omega) (.inl rfl), Bool.and_eq_true] at hc
            have := path_back (w := w) (k := 0) (i := 0) (Nat.zero_le _) [] (fun _ h => by cases h) (by rw [List.append_nil, hp]; exact hc.2)
            rw [hp, hrr, hr, List.append_nil] at this
            show toldL p = _
            rw [← this]; rfl
  · cases h
theorem long_is {l : List Str} {e : Bool} {c : api_Cite} {i : Nat} (hc : citeB c = true) (h : Has l e i (wordsB c))
    (hmax : ∀ (e' : Bool) (c' : api_Cite), citeB c' = true → Has l e' i (wordsB c') → (wordsB c').length ≤ (wordsB c).length) :
    longF l i = { c with From := (i : Int), At := ((i + (wordsB c).length : Nat) : Int) } := by
  have hf := long_far i hc h
  have hpos : 0 < (wordsB c).length := List.length_pos_iff.2 (words_ne hc)
  rcases long_told l i with h0 | ⟨j, e', h1, h2, h3, h4, h5⟩
  · rw [h0] at hf
    have : ((i + (wordsB c).length : Nat) : Int) ≤ 0 := hf
    omega
  · have hm := hmax e' _ h1 h5.has
    have hj := h5.1
    rw [h3] at hf
    have hlen : (wordsB (longF l i)).length = (wordsB c).length := by omega
    have hw := has_det h5.has h hlen (words_good h1) (words_good hc)
    have hu := uniq h1 hc hw
    rw [hw] at hj
    generalize longF l i = d at h1 h2 h3 hu
    obtain ⟨K, P, T, F, A⟩ := d
    obtain ⟨K', P', T', F', A'⟩ := c
    unfold bareC at hu
    simp only [api_Cite.mk.injEq] at hu
    obtain ⟨rfl, rfl, rfl, _⟩ := hu
    have h2 : F = (i : Int) := h2
    have h3 : A = (j : Int) := h3
    rw [h2, h3, hj]
theorem long_none {l : List Str} {i : Nat} (h : ∀ (e : Bool) (c : api_Cite), citeB c = true → ¬ Has l e i (wordsB c)) : longF l i = zapi_Cite := by
  rcases long_told l i with h0 | ⟨j, e, h1, _, _, _, h5⟩
  · exact h0
  · exact absurd h5.has (h e _ h1)
def scanF (l : List Str) : Nat → Nat → List api_Cite
  | 0, _ => []
  | k + 1, i => if i < l.length then (if 0 < (longF l i).At then longF l i :: scanF l k (longF l i).At.toNat else scanF l k (i + 1)) else []
theorem long_place {l : List Str} {i : Nat} (h : 0 < (longF l i).At) : ∃ (j : Nat) (e : Bool), citeB (longF l i) = true ∧ (longF l i).From = (i : Int) ∧ (longF l i).At = (j : Int) ∧ j = i + (wordsB (longF l i)).length ∧ i < j ∧ j ≤ l.length ∧ Has l e i (wordsB (longF l i)) := by
  rcases long_told l i with h0 | ⟨j, e, h1, h2, h3, h4, h5⟩
  · rw [h0] at h; exact absurd h (by decide)
  · have hne := words_ne h1
    have hlt := h5.has.lt hne
    have hpos := List.length_pos_iff.2 hne
    have hj := h5.1
    exact ⟨j, e, h1, h2, h3, hj, by omega, by omega, h5.has⟩
theorem scan_loop {l : List Str} (hl : Fine l) (hlen : l.length ≤ 100000) : ∀ (k i : Nat) (out : List api_Cite), l.length < i + k → i ≤ l.length → out.length ≤ i → To (fun n => M.citation_Scan_loop1 l n out (i : Int)) (out ++ scanF l k i) := by
  intro k
  induction k with
  | zero => intro i out h1 h2; omega
  | succ k ih =>
    intro i out h1 h2 h3
    refine To.succ ?_
    simp only [M.citation_Scan_loop1]
    unfold scanF
    by_cases hi : i < l.length
    · rw [if_pos hi]
      refine To.pos (by omega) (To.bind (longest_t hl i (by omega)) ?_)
      by_cases hp : 0 < (longF l i).At
      · rw [if_pos hp]
        obtain ⟨j, e, _, _, hj, _, hij, hjl, _⟩ := long_place hp
        refine To.neg (by simp [hp]) (To.bindS (appC_eq (by simp; omega)) ?_)
        have := ih j (out ++ [longF l i]) (by omega) hjl (by simp; omega)
        rw [← hj] at this
        refine this.of ?_
        rw [hj]; simp
      · rw [if_neg hp]
        refine To.pos (by simp [hp]) ?_
        rw [cast_succ]
        exact ih (i + 1) out (by omega) (by omega) (by omega)
    · rw [if_neg hi]
      exact To.neg (by omega) (To.pure.of (by simp))
theorem scan_t {l : List Str} (hl : Fine l) (hlen : l.length ≤ 100000) : To (fun n => M.citation_Scan n l) (scanF l (l.length + 1) 0) := by
  simp only [M.citation_Scan]
  refine To.bind (scan_loop hl hlen (l.length + 1) 0 [] (by omega) (by omega) (by simp)) (To.pure.of (by simp))
end Go.Proofs.YtnmkblpbmoikpaaDoor
