/-
  Bounds; Scan and Parse of the words of a citation.
-/
import Derived.Test.YtnmkblpbmoikpaaDoorPf
import Derived.Test.YtnmkblpbmoikpaaDoorPk
set_option linter.unusedVariables false
set_option linter.unusedSimpArgs false
namespace Go.Proofs.YtnmkblpbmoikpaaDoor
open Go Go.Dec
theorem ll_cons (x : Str) (p : List Str) (a : Int) : M.law20_long_loop1 (x :: p) a = M.law20_long_loop1 p (wrap64 (a + (x.length : Int))) := rfl
theorem ll_tot : ∀ (p : List Str) (a : Int), ∃ r, M.law20_long_loop1 p a = some r
  | [], a => ⟨a, rfl⟩
  | x :: p, a => by rw [ll_cons]; exact ll_tot p _
theorem ll_main (B : Nat) : ∀ (p : List Str) (a : Nat), a + p.length * B ≤ 4611686018427387904 → (∀ s ∈ p, s.length ≤ B) → ∃ b : Nat, M.law20_long_loop1 p (a : Int) = some (b : Int) ∧ a ≤ b ∧ ∀ s ∈ p, s.length ≤ b := by
  intro p
  induction p with
  | nil => intro a _ _; exact ⟨a, rfl, Nat.le_refl _, fun s hs => by cases hs⟩
  | cons x p ih =>
    intro a ha h
    have hx := h x List.mem_cons_self
    rw [List.length_cons, Nat.succ_mul] at ha
    obtain ⟨ha1, ha2⟩ := wl_sum a x.length (p.length * B) B ha hx
    obtain ⟨b, h1, h2, h3⟩ := ih (a + x.length) ha2 (fun s hs => h s (List.mem_cons_of_mem _ hs))
    have hw := wrap64_nat (a + x.length) ha1
    rw [Int.natCast_add] at hw h1
    refine ⟨b, ?_, by clear ha; omega, ?_⟩
    · rw [ll_cons, hw]
      exact h1
    · intro s hs
      rcases List.mem_cons.1 hs with rfl | hs
      · omega
      · exact h3 s hs
theorem long_ok {l : List Str} (hf : ∀ s ∈ l, s.length ≤ 140737488355328) : ∃ b, M.law20_long l = some b ∧ (b = false → l.length ≤ 60 ∧ ∀ s ∈ l, s.length ≤ 1500) := by
  unfold M.law20_long
  by_cases hl : l.length ≤ 60
  · have hB := Nat.mul_le_mul_right 140737488355328 hl
    obtain ⟨b, h1, h2, h3⟩ := ll_main 140737488355328 l 0 (by omega) hf
    have h1 : M.law20_long_loop1 l (0 : Int) = some (b : Int) := h1
    rw [h1, Option.bind_some, if_neg (by omega)]
    refine ⟨_, rfl, fun e => ?_⟩
    have : ¬ (1500 : Int) < (b : Int) := of_decide_eq_false e
    exact ⟨hl, fun s hs => by have := h3 s hs; omega⟩
  · obtain ⟨r, hr⟩ := ll_tot l (0 : Int)
    rw [hr, Option.bind_some, if_pos (by omega)]
    exact ⟨true, rfl, fun e => by cases e⟩
theorem fine_of {l : List Str} (h : l.length ≤ 60) (h2 : ∀ s ∈ l, s.length ≤ 1500) : Fine l := ⟨by omega, fun v hv => by have := h2 v hv; omega⟩
theorem good_len : ∀ {l : List Str}, total l ≤ 300 → ∀ v ∈ l, v.length ≤ 300
  | x :: l, h, v, hv => by
    rw [total_cons] at h
    rcases List.mem_cons.1 hv with rfl | hv
    · omega
    · exact good_len (by omega) v hv
theorem words_fine {c : api_Cite} (h : citeB c = true) : Fine (wordsB c) ∧ (wordsB c).length ≤ 300 := by
  have h1 := words_total h
  have h2 := total_len (wordsB c)
  exact ⟨⟨by omega, fun v hv => by have := good_len h1 v hv; omega⟩, by omega⟩
theorem pcs_words {c : api_Cite} (h : citeB c = true) : pcs (joinS (wordsB c)) = wordsB c ∧ splitC 32 (joinS (wordsB c)) = wordsB c ∧ joinS (wordsB c) ≠ [] := by
  have hg := words_good h
  have hne := words_ne h
  cases hw : wordsB c with
  | nil => exact absurd hw hne
  | cons x xs =>
    rw [hw] at hg
    have hx := hg x List.mem_cons_self
    have no : ∀ y ∈ x :: xs, (32 : UInt8) ∉ y := fun y hy hm => (gw_all (hg y hy) 32 hm).2 rfl
    have hs := split_tail xs (fun y hy => no y (List.mem_cons_of_mem _ hy)) x (no x List.mem_cons_self)
    have hn : joinS (x :: xs) ≠ [] := by
      rw [joinS]
      intro e
      exact gw_ne hx (List.append_eq_nil_iff.1 e).1
    refine ⟨?_, hs, hn⟩
    unfold pcs
    rw [if_neg hn]
    exact hs
theorem joinS_le (l : List Str) : (joinS l).length ≤ total l := by
  cases l with
  | nil => exact Nat.zero_le _
  | cons x xs =>
    rw [joinS, List.length_append, tail_len]
    simp [total]
theorem fmt_len {c : api_Cite} (h : citeB c = true) : (joinS (wordsB c)).length ≤ 300 := by
  have h1 := words_total h
  have h2 := joinS_le (wordsB c)
  omega
theorem fmt_is {c : api_Cite} (h : citeB c = true) : fmtC c = joinS (wordsB c) := by unfold fmtC; rw [if_pos h]
theorem pieces_fmt {c : api_Cite} (h : citeB c = true) : To (fun n => M.r04_Pieces n (fmtC c)) (wordsB c) := by
  have hl := fmt_len h
  rw [fmt_is h]
  exact (pieces_r _ (by omega)).of (pcs_words h).1
theorem drop_take {α : Type} {l : List α} {i j : Nat} {x : α} (h : l[i]? = some x) (hj : i < j) : (l.take j).drop i = x :: (l.take j).drop (i + 1) := by
  have hl := (List.getElem?_eq_some_iff.1 h).1
  have hl2 : i < (l.take j).length := by rw [List.length_take]; omega
  rw [List.drop_eq_getElem_cons hl2, List.getElem_take]
  rw [List.getElem?_eq_getElem hl] at h
  rw [Option.some.inj h]
theorem words_max {c : api_Cite} : ∀ (e' : Bool) (c' : api_Cite), citeB c' = true → Has (wordsB c) e' 0 (wordsB c') → (wordsB c').length ≤ (wordsB c).length := fun e' c' h1 h2 => by
  have := h2.lt (words_ne h1)
  omega
theorem words_has {c : api_Cite} : Has (wordsB c) false 0 (wordsB c) := has_false _ 0 fun k v hv => by rw [Nat.zero_add]; exact hv
theorem long_words {c : api_Cite} (h : citeB c = true) : longF (wordsB c) 0 = { c with From := 0, At := ((wordsB c).length : Int) } := by
  have := long_is h words_has words_max
  rw [this]
  simp
theorem same7 (a : List api_Step) : To (fun n => M.r07_Same n a a) true := by
  have loop : ∀ (xs : List api_Step) (i : Nat), a.drop i = xs → To (fun n => M.r07_Same_loop1 a a n (i : Int)) (.inl ()) := by
    intro xs
    induction xs with
    | nil =>
      intro i hx
      refine To.succ ?_
      simp only [M.r07_Same_loop1]
      exact To.neg (drop_end hx) To.pure
    | cons x xs ih =>
      intro i hx
      refine To.succ ?_
      simp only [M.r07_Same_loop1]
      refine To.pos (drop_lt hx) (To.bindS (drop_idx hx) (To.bindS (drop_idx hx) (To.neg (by simp) ?_)))
      rw [cast_succ]
      exact ih (i + 1) (drop_next hx)
  simp only [M.r07_Same]
  exact To.neg (by simp) (To.bind (loop a 0 rfl) To.pure)
theorem eqs_refl (a : List api_Step) : To (fun n => M.slices_Equal_api_Step_api_Step n a a) true := by
  have loop : ∀ (xs : List api_Step) (i : Nat), a.drop i = xs → To (fun n => M.slices_Equal_api_Step_api_Step_loop1 a a n (i : Int)) (.inl ()) := by
    intro xs
    induction xs with
    | nil =>
      intro i hx
      refine To.succ ?_
      simp only [M.slices_Equal_api_Step_api_Step_loop1]
      exact To.neg (drop_end hx) To.pure
    | cons x xs ih =>
      intro i hx
      refine To.succ ?_
      simp only [M.slices_Equal_api_Step_api_Step_loop1]
      refine To.pos (drop_lt hx) (To.bindS (drop_idx hx) (To.bindS (drop_idx hx) (To.neg (by simp) ?_)))
      rw [cast_succ]
      exact ih (i + 1) (drop_next hx)
  simp only [M.slices_Equal_api_Step_api_Step]
  exact To.neg (by simp) (To.bind (loop a 0 rfl) To.pure)
theorem eqw_refl (s : Str) : To (fun n => M.wordseq_Equal n [s] [s]) true := by
  simp only [M.wordseq_Equal, M.slices_Equal_string_string]
  have hl : To (fun n => M.slices_Equal_string_string_loop1 [s] [s] n (0 : Int)) (.inl ()) := by
    refine To.succ ?_
    simp only [M.slices_Equal_string_string_loop1]
    refine To.pos (by simp) (To.bindS idx_zero (To.bindS idx_zero (To.neg (by simp) ?_)))
    refine To.succ ?_
    simp only [M.slices_Equal_string_string_loop1]
    exact To.neg (by simp) To.pure
  exact To.bind (a := true) (To.neg (by simp) (To.bind hl To.pure)) To.pure
theorem cequal_refl (c : api_Cite) : To (fun n => M.citation_Equal n c c) true := by
  simp only [M.citation_Equal]
  exact To.pos (by simp) (To.bind (eqs_refl _) (To.pos (by simp) (To.bind (eqw_refl _) (To.pos (by simp) (To.pos (by simp) (To.pure.of (by simp)))))))
theorem csame_refl (c : api_Cite) : To (fun n => M.r20_Same n c c) true := by
  simp only [M.r20_Same]
  exact To.pos (by simp) (To.pos (by simp) (To.pos (by simp) (To.pos (by simp) (To.bind (same7 _) To.pure))))
end Go.Proofs.YtnmkblpbmoikpaaDoor
