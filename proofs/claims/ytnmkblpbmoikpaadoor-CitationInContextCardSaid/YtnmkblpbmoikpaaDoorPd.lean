/-
  What was read are the words: soundness of the reader.
-/
import Derived.Test.YtnmkblpbmoikpaaDoorPc
set_option linter.unusedVariables false
set_option linter.unusedSimpArgs false
namespace Go.Proofs.YtnmkblpbmoikpaaDoor
open Go Go.Dec
def Took (l : List Str) (i j : Nat) (e : Bool) (ws : List Str) : Prop :=
  j = i + ws.length ∧ ∃ vs : List Str, vs.length = ws.length ∧ (∀ (k : Nat) (v : Str), vs[k]? = some v → l[i + k]? = some v) ∧
    ((e = false ∧ vs = ws) ∨ (e = true ∧ ∃ ini s b, ws = ini ++ [s] ∧ vs = ini ++ [s ++ [b]] ∧ signB b = true))
theorem Took.nil (l : List Str) (i : Nat) : Took l i i false [] := ⟨rfl, [], rfl, (fun k v h => by cases h), .inl ⟨rfl, rfl⟩⟩
theorem wordF_some {l : List Str} {is : Str → Bool} {j : Nat} {e e' : Bool} {s : Str} (h : wordF l is j e = some (s, e')) :
    e = false ∧ is s = true ∧ ∃ v, l[j]? = some v ∧ ((e' = false ∧ v = s) ∨ (e' = true ∧ ∃ b, v = s ++ [b] ∧ signB b = true)) := by
  unfold wordF at h
  cases e with
  | true => simp at h
  | false =>
    rw [if_neg (by simp)] at h
    cases hv : l[j]? with
    | none => rw [hv] at h; cases h
    | some v =>
      rw [hv] at h
      simp only at h
      by_cases h1 : is v = true
      · rw [if_pos h1] at h
        cases h
        exact ⟨rfl, h1, _, rfl, .inl ⟨rfl, rfl⟩⟩
      · rw [if_neg h1] at h
        cases hb : v.getLast? with
        | none => rw [hb] at h; cases h
        | some b =>
          rw [hb] at h
          simp only at h
          split at h
          · rename_i hc
            cases h
            refine ⟨rfl, hc.2, _, rfl, .inr ⟨rfl, b, ?_, hc.1⟩⟩
            have hne : v ≠ [] := by rintro rfl; cases hb
            have := List.dropLast_concat_getLast hne
            have hl : v.getLast hne = b := by
              rw [List.getLast?_eq_some_getLast hne] at hb
              exact Option.some.inj hb
            rw [hl] at this
            exact this.symm
          · cases h
theorem Took.word {l ws : List Str} {is : Str → Bool} {i j : Nat} {e e' : Bool} {s : Str} (t : Took l i j e ws) (h : wordF l is j e = some (s, e')) : Took l i (j + 1) e' (ws ++ [s]) ∧ is s = true := by
  obtain ⟨rfl, his, v, hv, hc⟩ := wordF_some h
  obtain ⟨hj, vs, hl, hat, hcase⟩ := t
  rcases hcase with ⟨_, rfl⟩ | ⟨he, _⟩
  · refine ⟨⟨by simp; omega, vs ++ [v], by simp, fun k x hk => ?_, ?_⟩, his⟩
    · by_cases hlt : k < vs.length
      · rw [List.getElem?_append_left hlt] at hk
        exact hat k x hk
      · rw [List.getElem?_append_right (by omega)] at hk
        have hk0 : k - vs.length = 0 := by
          by_cases h0 : k - vs.length = 0
          · exact h0
          · obtain ⟨m, hm⟩ : ∃ m, k - vs.length = m + 1 := ⟨k - vs.length - 1, by omega⟩
            rw [hm] at hk
            simp at hk
        rw [hk0] at hk
        have : v = x := by simpa using hk
        subst this
        rw [show i + k = j by omega]; exact hv
    · rcases hc with ⟨h1, h2⟩ | ⟨h1, b, h2, h3⟩
      · exact .inl ⟨h1, by rw [h2]⟩
      · exact .inr ⟨h1, vs, s, b, rfl, by rw [h2], h3⟩
  · cases he
theorem kd_word {L : List Str} {s : Str} (h : isK L s = true) : ∃ m : Nat, kdI L s = (m : Int) ∧ L[m]? = some s ∧ 0 < m := by
  have main : ∀ (xs : List Str) (k j : Int), ixS s xs k = some j → ∃ m : Nat, j = k + m ∧ xs[m]? = some s := by
    intro xs
    induction xs with
    | nil => intro k j h; cases h
    | cons x xs ih =>
      intro k j h
      unfold ixS at h
      split at h
      · rename_i e
        cases h
        exact ⟨0, by simp, by simp [e]⟩
      · obtain ⟨m, h1, h2⟩ := ih (k + 1) j h
        exact ⟨m + 1, by rw [h1]; simp; omega, by simpa using h2⟩
  unfold isK kdI at h
  unfold kdI
  have h := of_decide_eq_true h
  by_cases h0 : s = []
  · rw [if_pos h0] at h; omega
  · rw [if_neg h0] at h ⊢
    cases hi : ixS s L 0 with
    | none => rw [hi] at h; simp at h
    | some j =>
      rw [hi] at h
      obtain ⟨m, h1, h2⟩ := main L 0 j hi
      simp only at h
      exact ⟨m, by simp only; omega, h2, by omega⟩
theorem sg_word {s : Str} (h : isK sgL s = true) : 1 ≤ kdI sgL s ∧ kdI sgL s ≤ 7 ∧ sg (kdI sgL s) = s := by
  obtain ⟨m, h1, h2, h3⟩ := kd_word h
  have hm : m < 8 := (List.getElem?_eq_some_iff.1 h2).1
  rw [h1]
  refine ⟨by omega, by omega, ?_⟩
  unfold sg
  rw [idx_nat, h2]; rfl
theorem pl_word {s : Str} (h : isK plL s = true) : 1 ≤ kdI plL s ∧ kdI plL s ≤ 7 ∧ pl (kdI plL s) = s := by
  obtain ⟨m, h1, h2, h3⟩ := kd_word h
  have hm : m < 8 := (List.getElem?_eq_some_iff.1 h2).1
  rw [h1]
  refine ⟨by omega, by omega, ?_⟩
  unfold pl
  rw [idx_nat, h2]; rfl
theorem lab_ne {s : Str} (h : labB s = true) : s ≠ [] := by
  rintro rfl
  rw [labB_nil] at h; cases h
theorem told_step {s : api_Step} (h : stepB s = true) : toldS s = [sg s.Kind, s.Label] := by
  have hk := (step_ok h).2
  unfold stepB at h
  rw [Bool.and_eq_true] at h
  unfold toldS
  rw [if_neg (by rw [toldS_no (by omega)]; simp), if_neg (lab_ne h.2)]
theorem step_sound {l ws : List Str} {i j : Nat} {e e' : Bool} {s : api_Step} (t : Took l i j e ws) (h : stepF l sgL j e = some (s, e')) : Took l i (j + 2) e' (ws ++ toldS s) ∧ stepB s = true := by
  unfold stepF at h
  cases hw : wordF l (isK sgL) j e with
  | none => rw [hw] at h; cases h
  | some q =>
    obtain ⟨w, e1⟩ := q
    rw [hw] at h
    simp only at h
    cases hw2 : wordF l labB (j + 1) e1 with
    | none => rw [hw2] at h; cases h
    | some q2 =>
      obtain ⟨t2, e2⟩ := q2
      rw [hw2] at h
      simp only at h
      cases h
      obtain ⟨t1, hk⟩ := t.word hw
      obtain ⟨t3, hlab⟩ := t1.word hw2
      obtain ⟨k1, k7, hs⟩ := sg_word hk
      have hst : stepB ⟨kdI sgL w, t2⟩ = true := by simp [stepB, k1, k7, hlab]
      refine ⟨?_, hst⟩
      rw [told_step hst]
      show Took l i (j + 1 + 1) _ (ws ++ [sg (kdI sgL w), t2])
      rw [hs]
      simpa using t3
theorem more_sound {l pre : List Str} {i : Nat} : ∀ (k : Nat) (p : List api_Step) (j : Nat) (e : Bool), Took l i j e (pre ++ toldL p) → ∃ q, (moreF l k p j e).1 = p ++ q ∧ stepsB q = true ∧ Took l i (moreF l k p j e).2.1 (moreF l k p j e).2.2 (pre ++ toldL (moreF l k p j e).1)
  | 0, p, j, e, t => ⟨[], by simp [moreF], rfl, t⟩
  | k + 1, p, j, e, t => by
    unfold moreF
    cases hs : stepF l sgL j e with
    | none => exact ⟨[], by simp, rfl, t⟩
    | some q =>
      obtain ⟨s, e'⟩ := q
      obtain ⟨t1, hst⟩ := step_sound t hs
      have t2 : Took l i (j + 2) e' (pre ++ toldL (p ++ [s])) := by
        have : pre ++ toldL (p ++ [s]) = pre ++ toldL p ++ toldS s := by simp [toldL]
        rw [this]; exact t1
      obtain ⟨q2, h1, h2, h3⟩ := more_sound k (p ++ [s]) (j + 2) e' t2
      exact ⟨s :: q2, by simp only [h1]; simp, by rw [stepsB, hst, h2]; rfl, h3⟩
theorem path_sound {l pre : List Str} {i j : Nat} {e : Bool} (t : Took l i j e pre) : Took l i (pathF l j e).2.1 (pathF l j e).2.2 (pre ++ toldL (pathF l j e).1) := by
  unfold pathF
  cases hw : wordF l (fun s => s == bkW) j e with
  | none =>
    obtain ⟨_, _, _, h⟩ := more_sound 9 [] j e (pre := pre) (by simpa [toldL] using t)
    exact h
  | some q =>
    obtain ⟨w, e1⟩ := q
    obtain ⟨t1, hk⟩ := t.word hw
    have hwb : w = bkW := by simpa using hk
    subst hwb
    obtain ⟨_, _, _, h⟩ := more_sound 8 [⟨0, []⟩] (j + 1) e1 (pre := pre) (by
      have : toldL [⟨0, []⟩] = [bkW] := by decide
      rw [this]; exact t1)
    exact h
theorem beside_sound {l pre : List Str} {i j : Nat} {e : Bool} (t : Took l i j e pre) : Took l i (besideF l j e).2.1 (besideF l j e).2.2 (pre ++ toldL (besideF l j e).1) := by
  unfold besideF
  cases hw : wordF l (isK sgL) j e with
  | none => simpa [toldL] using t
  | some q =>
    obtain ⟨w, e1⟩ := q
    obtain ⟨t1, hk⟩ := t.word hw
    obtain ⟨k1, k7, hs⟩ := sg_word hk
    obtain ⟨_, _, _, h⟩ := more_sound 8 [⟨kdI sgL w, []⟩] (j + 1) e1 (pre := pre) (by
      have : toldL [⟨kdI sgL w, []⟩] = [w] := by
        have hb : bookB ⟨kdI sgL w, []⟩ = false := toldS_no (by show kdI sgL w ≠ 0; omega)
        simp [toldL, toldS, hb, hs]
      rw [this]; exact t1)
    exact h
def Sound (l : List Str) (i : Nat) (r : api_Cite × Nat × Bool) : Prop := citeB (placed i r) = true → Took l i r.2.1 r.2.2 (wordsB r.1)
theorem citeB_placed (i : Nat) (r : api_Cite × Nat × Bool) : citeB (placed i r) = citeB r.1 := rfl
theorem form1_sound (l : List Str) (i : Nat) : Sound l i (form1 l i false) := fun _ => by
  have h := path_sound (Took.nil l i)
  simpa [form1, wordsB] using h
theorem form4_sound (l : List Str) (i : Nat) : Sound l i (form4 l i false) := fun hv => by
  unfold form4 at hv ⊢
  cases hw : wordF l (fun x => x == oldW) i false with
  | none => rw [hw] at hv; exact absurd hv (by rw [citeB_placed]; exact (by decide : ¬ citeB ⟨4, [], [], 0, 0⟩ = true))
  | some q =>
    obtain ⟨w, e1⟩ := q
    obtain ⟨t1, hk⟩ := (Took.nil l i).word hw
    have hwb : w = oldW := by simpa using hk
    subst hwb
    have h := path_sound t1
    simpa [wordsB] using h
theorem form2_sound (l : List Str) (i : Nat) : Sound l i (form2 l i false) := fun hv => by
  unfold form2 at hv ⊢
  cases hw : wordF l (fun x => x == thisW) i false with
  | none => rw [hw] at hv; exact absurd hv (by rw [citeB_placed]; exact (by decide : ¬ citeB ⟨2, [], [], 0, 0⟩ = true))
  | some q =>
    obtain ⟨w, e1⟩ := q
    obtain ⟨t1, hk⟩ := (Took.nil l i).word hw
    have hwb : w = thisW := by simpa using hk
    subst hwb
    have h := beside_sound t1
    simpa [wordsB] using h
theorem form3_sound (l : List Str) (i : Nat) : Sound l i (form3 l i false) := fun hv => by
  unfold form3 at hv ⊢
  cases hw : wordF l (fun x => x == theW) i false with
  | none => rw [hw] at hv; exact absurd hv (by rw [citeB_placed]; exact (by decide : ¬ citeB ⟨3, [], [], 0, 0⟩ = true))
  | some q =>
    obtain ⟨w, e1⟩ := q
    obtain ⟨t1, hk⟩ := (Took.nil l i).word hw
    have hwb : w = theW := by simpa using hk
    subst hwb
    rw [hw] at hv
    simp only at hv ⊢
    cases hw2 : wordF l (fun x => x == saidW) (i + 1) e1 with
    | none => rw [hw2] at hv; exact absurd hv (by rw [citeB_placed]; exact (by decide : ¬ citeB ⟨3, [], [], 0, 0⟩ = true))
    | some q2 =>
      obtain ⟨w2, e2⟩ := q2
      obtain ⟨t2, hk2⟩ := t1.word hw2
      have hwb2 : w2 = saidW := by simpa using hk2
      subst hwb2
      have h := beside_sound t2
      simpa [wordsB] using h
theorem span_sound (l : List Str) (i : Nat) : Sound l i (spanF l i false) := fun hv => by
  have h1 : ∀ p : List api_Step, ¬ citeB ⟨1, p, [], 0, 0⟩ = true := fun p h => by
    by_cases h9 : 9 < p.length
    · rw [cite9 h9] at h; cases h
    · rw [cite1 h9 rfl, labB_nil] at h; simp at h
  have hp := path_sound (Took.nil l i)
  unfold spanF at hv ⊢
  generalize pathF l i false = r at hp hv ⊢
  obtain ⟨p, j, e1⟩ := r
  simp only at hp hv ⊢
  cases hs : stepF l plL j e1 with
  | none => rw [hs] at hv; exact absurd hv (h1 _)
  | some q =>
    obtain ⟨s, e2⟩ := q
    rw [hs] at hv
    simp only at hv ⊢
    cases hw : wordF l (fun x => x == toW) (j + 2) e2 with
    | none => rw [hw] at hv; exact absurd hv (h1 _)
    | some q2 =>
      obtain ⟨w, e3⟩ := q2
      rw [hw] at hv
      simp only at hv ⊢
      cases hw2 : wordF l labB (j + 3) e3 with
      | none => rw [hw2] at hv; exact absurd hv (h1 _)
      | some q3 =>
        obtain ⟨t, e4⟩ := q3
        simp only
        unfold stepF at hs
        cases ha : wordF l (isK plL) j e1 with
        | none => rw [ha] at hs; cases hs
        | some qa =>
          obtain ⟨a, ea⟩ := qa
          rw [ha] at hs
          simp only at hs
          cases hb : wordF l labB (j + 1) ea with
          | none => rw [hb] at hs; cases hs
          | some qb =>
            obtain ⟨b, eb⟩ := qb
            rw [hb] at hs
            simp only at hs
            cases hs
            obtain ⟨t1, ka⟩ := hp.word ha
            obtain ⟨t2, _⟩ := t1.word hb
            obtain ⟨t3, kw⟩ := t2.word hw
            obtain ⟨t4, _⟩ := t3.word hw2
            obtain ⟨_, _, hpl⟩ := pl_word ka
            have hwt : w = toW := by simpa using kw
            subst hwt
            have : wordsB ⟨1, p ++ [⟨kdI plL a, b⟩], t, 0, 0⟩ = toldL p ++ [a, b, toW, t] := by
              simp [wordsB, tailW, lastKind, lastLab, hpl]
            rw [this]
            simpa using t4
def Told (l : List Str) (i : Nat) (c : api_Cite) : Prop := c = zapi_Cite ∨ ∃ (j : Nat) (e : Bool), citeB c = true ∧ c.From = (i : Int) ∧ c.At = (j : Int) ∧ 0 < j ∧ Took l i j e (wordsB c)
theorem better_told {l : List Str} {i : Nat} {best : api_Cite} {r : api_Cite × Nat × Bool} (h : Told l i best) (hs : Sound l i r) : Told l i (better i best r) := by
  unfold better
  split
  · rename_i hc
    have h0 : 0 ≤ best.At := by
      rcases h with rfl | ⟨j, e, _, _, h2, _⟩
      · exact Int.le_refl _
      · omega
    exact .inr ⟨r.2.1, r.2.2, hc.1, rfl, rfl, by omega, hs hc.1⟩
  · exact h
theorem long_told (l : List Str) (i : Nat) : Told l i (longF l i) :=
  better_told (better_told (better_told (better_told (better_told (.inl rfl) (form1_sound l i)) (span_sound l i)) (form2_sound l i)) (form3_sound l i)) (form4_sound l i)
end Go.Proofs.YtnmkblpbmoikpaaDoor
