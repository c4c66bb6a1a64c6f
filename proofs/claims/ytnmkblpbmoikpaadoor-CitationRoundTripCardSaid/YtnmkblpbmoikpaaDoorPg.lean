/-
  The laws Disjoint, Words and RoundTrip of chapter 20.
-/
import Derived.Test.YtnmkblpbmoikpaaDoorPf
import Derived.Test.YtnmkblpbmoikpaaDoorPk
set_option linter.unusedVariables false
set_option linter.unusedSimpArgs false
namespace Go.Proofs.YtnmkblpbmoikpaaDoor
open Go Go.Dec

/-! ### Bounds -/

theorem ll_cons (x : Str) (p : List Str) (a : Int) : M.law20_long_loop1 (x :: p) a = M.law20_long_loop1 p (wrap64 (a + (x.length : Int))) := rfl
theorem ll_tot : ∀ (p : List Str) (a : Int), ∃ r, M.law20_long_loop1 p a = some r
  | [], a => ⟨a, rfl⟩
  | x :: p, a => by rw [ll_cons]; exact ll_tot p _
theorem ll_main (B : Nat) : ∀ (p : List Str) (a : Nat), a + p.length * B ≤ 4611686018427387904 → (∀ s ∈ p, s.length ≤ B) → ∃ b : Nat, M.law20_long_loop1 p (a : Int) = some (b : Int) ∧ a ≤ b ∧ ∀ s ∈ p, s.length ≤ b := by
  intro p
  induction p with
  | nil => intro a _ _; exact ⟨a, rfl, Nat.le_refl _, fun s hs => by cases hs⟩
  | cons x p ih =>
    intro a ha h
    have hx := h x List.mem_cons_self
    rw [List.length_cons, Nat.succ_mul] at ha
    obtain ⟨ha1, ha2⟩ := wl_sum a x.length (p.length * B) B ha hx
    obtain ⟨b, h1, h2, h3⟩ := ih (a + x.length) ha2 (fun s hs => h s (List.mem_cons_of_mem _ hs))
    have hw := wrap64_nat (a + x.length) ha1
    rw [Int.natCast_add] at hw h1
    refine ⟨b, ?_, by clear ha; omega, ?_⟩
    · rw [ll_cons, hw]
      exact h1
    · intro s hs
      rcases List.mem_cons.1 hs with rfl | hs
      · omega
      · exact h3 s hs

theorem long_ok {l : List Str} (hf : ∀ s ∈ l, s.length ≤ 140737488355328) : ∃ b, M.law20_long l = some b ∧ (b = false → l.length ≤ 60 ∧ ∀ s ∈ l, s.length ≤ 1500) := by
  unfold M.law20_long
  by_cases hl : l.length ≤ 60
  · have hB := Nat.mul_le_mul_right 140737488355328 hl
    obtain ⟨b, h1, h2, h3⟩ := ll_main 140737488355328 l 0 (by omega) hf
    have h1 : M.law20_long_loop1 l (0 : Int) = some (b : Int) := h1
    rw [h1, Option.bind_some, if_neg (by omega)]
    refine ⟨_, rfl, fun e => ?_⟩
    have : ¬ (1500 : Int) < (b : Int) := of_decide_eq_false e
    exact ⟨hl, fun s hs => by have := h3 s hs; omega⟩
  · obtain ⟨r, hr⟩ := ll_tot l (0 : Int)
    rw [hr, Option.bind_some, if_pos (by omega)]
    exact ⟨true, rfl, fun e => by cases e⟩

theorem fine_of {l : List Str} (h : l.length ≤ 60) (h2 : ∀ s ∈ l, s.length ≤ 1500) : Fine l := ⟨by omega, fun v hv => by have := h2 v hv; omega⟩

theorem good_len : ∀ {l : List Str}, total l ≤ 300 → ∀ v ∈ l, v.length ≤ 300
  | x :: l, h, v, hv => by
    rw [total_cons] at h
    rcases List.mem_cons.1 hv with rfl | hv
    · omega
    · exact good_len (by omega) v hv
theorem words_fine {c : api_Cite} (h : citeB c = true) : Fine (wordsB c) ∧ (wordsB c).length ≤ 300 := by
  have h1 := words_total h
  have h2 := total_len (wordsB c)
  exact ⟨⟨by omega, fun v hv => by have := good_len h1 v hv; omega⟩, by omega⟩

theorem pcs_words {c : api_Cite} (h : citeB c = true) : pcs (joinS (wordsB c)) = wordsB c ∧ splitC 32 (joinS (wordsB c)) = wordsB c ∧ joinS (wordsB c) ≠ [] := by
  have hg := words_good h
  have hne := words_ne h
  cases hw : wordsB c with
  | nil => exact absurd hw hne
  | cons x xs =>
    rw [hw] at hg
    have hx := hg x List.mem_cons_self
    have no : ∀ y ∈ x :: xs, (32 : UInt8) ∉ y := fun y hy hm => (gw_all (hg y hy) 32 hm).2 rfl
    have hs := split_tail xs (fun y hy => no y (List.mem_cons_of_mem _ hy)) x (no x List.mem_cons_self)
    have hn : joinS (x :: xs) ≠ [] := by
      rw [joinS]
      intro e
      exact gw_ne hx (List.append_eq_nil_iff.1 e).1
    refine ⟨?_, hs, hn⟩
    unfold pcs
    rw [if_neg hn]
    exact hs

theorem joinS_le (l : List Str) : (joinS l).length ≤ total l := by
  cases l with
  | nil => exact Nat.zero_le _
  | cons x xs =>
    rw [joinS, List.length_append, tail_len]
    simp [total]
theorem fmt_len {c : api_Cite} (h : citeB c = true) : (joinS (wordsB c)).length ≤ 300 := by
  have h1 := words_total h
  have h2 := joinS_le (wordsB c)
  omega
theorem fmt_is {c : api_Cite} (h : citeB c = true) : fmtC c = joinS (wordsB c) := by unfold fmtC; rw [if_pos h]
theorem pieces_fmt {c : api_Cite} (h : citeB c = true) : To (fun n => M.r04_Pieces n (fmtC c)) (wordsB c) := by
  have hl := fmt_len h
  rw [fmt_is h]
  exact (pieces_r _ (by omega)).of (pcs_words h).1

/-! ### Disjoint -/

theorem drop_take {α : Type} {l : List α} {i j : Nat} {x : α} (h : l[i]? = some x) (hj : i < j) : (l.take j).drop i = x :: (l.take j).drop (i + 1) := by
  have hl := (List.getElem?_eq_some_iff.1 h).1
  have hl2 : i < (l.take j).length := by rw [List.length_take]; omega
  rw [List.drop_eq_getElem_cons hl2, List.getElem_take]
  rw [List.getElem?_eq_getElem hl] at h
  rw [Option.some.inj h]

theorem has_init {l : List Str} {e : Bool} : ∀ {ws : List Str} {i : Nat}, Has l e i ws → ws ≠ [] → (l.take (i + ws.length - 1)).drop i = ws.dropLast
  | [], i, _, h => absurd rfl h
  | [w], i, _, _ => by
    show (l.take (i + 1 - 1)).drop i = []
    exact List.drop_eq_nil_of_le (by rw [List.length_take]; omega)
  | w :: w2 :: ws, i, h, _ => by
    have ih := has_init h.2 (by simp)
    rw [drop_take h.1 (by simp), List.dropLast_cons_cons, ← ih]
    congr 2
    simp only [List.length_cons]
    congr 1
    omega

theorem has_last {l : List Str} {e : Bool} : ∀ {ws : List Str} {i : Nat}, Has l e i ws → ws ≠ [] → ∃ v w, l[i + ws.length - 1]? = some v ∧ ws[ws.length - 1]? = some w ∧ (v = w ∨ ∃ b, v = w ++ [b])
  | [], i, _, h => absurd rfl h
  | [w], i, h, _ => by
    rcases h with ⟨_, h⟩ | ⟨_, b, h, _⟩
    · exact ⟨w, w, h, rfl, .inl rfl⟩
    · exact ⟨_, w, h, rfl, .inr ⟨b, rfl⟩⟩
  | w :: w2 :: ws, i, h, _ => by
    obtain ⟨v, x, h1, h2, h3⟩ := has_last h.2 (by simp)
    refine ⟨v, x, ?_, ?_, h3⟩
    · rw [← h1]; congr 1; simp; omega
    · rw [← h2]; simp

theorem dis_step {l : List Str} {i j : Nat} {e : Bool} {c : api_Cite} {cs : List api_Cite} {end0 : Nat} (hc : citeB c = true) (hF : c.From = (i : Int)) (hA : c.At = (j : Int)) (hj : j = i + (wordsB c).length) (hjl : j ≤ l.length) (hlen : l.length ≤ 100000)
    (h : Has l e i (wordsB c)) (he : end0 ≤ i) (k : To (fun n => M.law20_CitationDisjoint_loop1 n l cs (j : Int)) (.inl ())) : To (fun n => M.law20_CitationDisjoint_loop1 n l (c :: cs) (end0 : Int)) (.inl ()) := by
  have hne := words_ne hc
  have hpos := List.length_pos_iff.2 hne
  simp only [M.law20_CitationDisjoint_loop1]
  have hsub : subC c.At c.From = some ((wordsB c).length : Int) := by rw [hF, hA, subC_eq (by omega) (by omega)]; congr 1; omega
  refine To.bind (format_c c) (To.bind (pieces_fmt hc) (To.bind (a := false) ?_ (To.neg (by simp) ?_)))
  · exact To.neg (by rw [hF]; omega) (To.neg (by rw [hA]; omega) (To.bindS hsub (To.neg (by simp) (To.pure.of (by simpa using hne)))))
  · have hs1 : subC c.At (1 : Int) = some ((j - 1 : Nat) : Int) := by rw [hA, subC_eq (by omega) (by omega)]; congr 1; omega
    have hs2 : subC ((wordsB c).length : Int) (1 : Int) = some (((wordsB c).length - 1 : Nat) : Int) := by rw [subC_eq (by omega) (by omega)]; congr 1; omega
    obtain ⟨v, w, h1, h2, h3⟩ := has_last h hne
    have hv : idx l ((j - 1 : Nat) : Int) = some v := by rw [idx_nat, ← h1]; congr 1; omega
    have hw : idx (wordsB c) (((wordsB c).length - 1 : Nat) : Int) = some w := by rw [idx_nat, ← h2]
    have hsl : slc l c.From ((j - 1 : Nat) : Int) = some (wordsB c).dropLast := by
      rw [hF, slc_nat l i (j - 1) (by omega) (by omega), ← has_init h hne, hj]
    have hsh : slcHi (wordsB c) (((wordsB c).length - 1 : Nat) : Int) = some (wordsB c).dropLast := by
      unfold slcHi
      rw [if_pos (by omega), List.dropLast_eq_take]; rfl
    refine To.bindS hs1 (To.bindS hv (To.bindS hs1 (To.bindS hsl (To.bindS hs2 (To.bindS hsh (To.bind (same_r _) (To.neg (by simp) (To.bindS hs2 (To.bindS hw ?_)))))))))
    rw [hA]
    rcases h3 with rfl | ⟨b, rfl⟩
    · exact To.neg (by simp) k
    · have hs3 : subC ((w ++ [b]).length : Int) (1 : Int) = some ((w.length : Nat) : Int) := by
        have hwl : w.length ≤ 300 := by
          have := good_len (words_total hc) w (List.mem_of_getElem? h2)
          omega
        have hle : ((w ++ [b]).length : Int) = (w.length : Int) + 1 := by simp
        rw [hle, subC_eq (by omega) (by omega)]
        simp
      have hs4 : slcHi (w ++ [b]) ((w.length : Nat) : Int) = some w := by
        unfold slcHi
        rw [if_pos ⟨by omega, by rw [List.length_append]; omega⟩]
        simp
      refine To.pos (by simp) (To.bindS hs3 (To.bindS hs4 (To.bindS hs2 (To.bindS hw ?_))))
      exact To.neg (by simp) k

theorem dis_loop {l : List Str} (hlen : l.length ≤ 100000) : ∀ (k i end0 : Nat), end0 ≤ i → To (fun n => M.law20_CitationDisjoint_loop1 n l (scanF l k i) (end0 : Int)) (.inl ()) := by
  intro k
  induction k with
  | zero => intro i end0 _; simp only [scanF, M.law20_CitationDisjoint_loop1]; exact To.pure
  | succ k ih =>
    intro i end0 he
    unfold scanF
    by_cases hi : i < l.length
    · rw [if_pos hi]
      by_cases hp : 0 < (longF l i).At
      · rw [if_pos hp]
        obtain ⟨j, e, h1, h2, h3, h4, h5, h6, h7⟩ := long_place hp
        rw [h3, Int.toNat_natCast]
        exact dis_step h1 h2 h3 h4 h6 hlen h7 he (ih j j (Nat.le_refl _))
      · rw [if_neg hp]
        exact ih (i + 1) end0 (by omega)
    · rw [if_neg hi]
      simp only [M.law20_CitationDisjoint_loop1]; exact To.pure

theorem disjoint_true (l : List Str) (hf : ∀ s ∈ l, s.length ≤ 140737488355328) : ∃ n, M.law20_CitationDisjoint n l = some true := by
  refine To.ex ?_
  simp only [M.law20_CitationDisjoint]
  obtain ⟨b, hb, hb2⟩ := long_ok hf
  refine To.bindS hb ?_
  cases b with
  | true => exact To.pos rfl (To.bind awake20 To.pure)
  | false =>
    obtain ⟨h1, h2⟩ := hb2 rfl
    refine To.neg (by simp) (To.bind (scan_t (fine_of h1 h2) (by omega)) (To.bind (dis_loop (by omega) _ 0 0 (Nat.le_refl _)) (To.bind awake20 To.pure)))

/-! ### Words -/

theorem words_max {c : api_Cite} : ∀ (e' : Bool) (c' : api_Cite), citeB c' = true → Has (wordsB c) e' 0 (wordsB c') → (wordsB c').length ≤ (wordsB c).length := fun e' c' h1 h2 => by
  have := h2.lt (words_ne h1)
  omega
theorem words_has {c : api_Cite} : Has (wordsB c) false 0 (wordsB c) := has_false _ 0 fun k v hv => by rw [Nat.zero_add]; exact hv

theorem long_words {c : api_Cite} (h : citeB c = true) : longF (wordsB c) 0 = { c with From := 0, At := ((wordsB c).length : Int) } := by
  have := long_is h words_has words_max
  rw [this]
  simp

theorem scan_words {c : api_Cite} (h : citeB c = true) : To (fun n => M.citation_Scan n (wordsB c)) [{ c with From := 0, At := ((wordsB c).length : Int) }] := by
  obtain ⟨hf, hl⟩ := words_fine h
  have hpos := List.length_pos_iff.2 (words_ne h)
  refine (scan_t hf (by omega)).of ?_
  have hL := long_words h
  have hat : (longF (wordsB c) 0).At = ((wordsB c).length : Int) := by rw [hL]
  rw [scanF, if_pos hpos, if_pos (by rw [hat]; omega), hat, Int.toNat_natCast, hL]
  congr 1
  cases hk : (wordsB c).length with
  | zero => omega
  | succ k => rw [scanF, hk, if_neg (by omega)]

theorem same7 (a : List api_Step) : To (fun n => M.r07_Same n a a) true := by
  have loop : ∀ (xs : List api_Step) (i : Nat), a.drop i = xs → To (fun n => M.r07_Same_loop1 a a n (i : Int)) (.inl ()) := by
    intro xs
    induction xs with
    | nil =>
      intro i hx
      refine To.succ ?_
      simp only [M.r07_Same_loop1]
      exact To.neg (drop_end hx) To.pure
    | cons x xs ih =>
      intro i hx
      refine To.succ ?_
      simp only [M.r07_Same_loop1]
      refine To.pos (drop_lt hx) (To.bindS (drop_idx hx) (To.bindS (drop_idx hx) (To.neg (by simp) ?_)))
      rw [cast_succ]
      exact ih (i + 1) (drop_next hx)
  simp only [M.r07_Same]
  exact To.neg (by simp) (To.bind (loop a 0 rfl) To.pure)

theorem cwords_true (p : List api_Step) (hf : ∀ s ∈ p, s.Label.length ≤ 140737488355328) : ∃ n, M.law20_CitationWords n p = some true := by
  refine To.ex ?_
  simp only [M.law20_CitationWords]
  obtain ⟨b, hb, hb2⟩ := wide_ok ⟨0, p, [], 0, 0⟩ ⟨by simp, hf⟩
  refine To.bindS hb ?_
  cases b with
  | true => exact To.pos rfl (To.bind awake20 To.pure)
  | false =>
    obtain ⟨h12, hto, hla⟩ := hb2 rfl
    have hmay := cmay_ok ⟨0, p, [], 0, 0⟩ (fun y hy => by have := hla y hy; omega) (by simp)
    refine To.neg (by simp) ?_
    by_cases h : citeB ⟨0, p, [], 0, 0⟩ = true
    · have hwo : To (fun n => M.citation_WordsOf n p) (wordsB ⟨0, p, [], 0, 0⟩) := by
        simp only [M.citation_WordsOf]
        exact To.bind (cvalid_ok _) (To.neg (by simp [h]) (To.bindS (words_c h) To.pure))
      refine To.bind hwo (To.bind hmay (To.neg (by simp [h]) (To.bind (scan_words h) (To.pos (by simp) (To.bindS idx_zero (To.pos rfl (To.bindS idx_zero (To.bind (same7 p) (To.pos rfl (To.bindS idx_zero (To.pos rfl (To.bind awake20 To.pure))))))))))))
    · have h' : citeB ⟨0, p, [], 0, 0⟩ = false := by simpa using h
      have hwo : To (fun n => M.citation_WordsOf n p) [] := by
        simp only [M.citation_WordsOf]
        exact To.bind (cvalid_ok _) (To.pos h' To.pure)
      exact To.bind hwo (To.bind hmay (To.pos h' (To.bind (To.pos (by simp) (To.bind awake20 To.pure)) To.pure)))

/-! ### RoundTrip -/

theorem eqs_refl (a : List api_Step) : To (fun n => M.slices_Equal_api_Step_api_Step n a a) true := by
  have loop : ∀ (xs : List api_Step) (i : Nat), a.drop i = xs → To (fun n => M.slices_Equal_api_Step_api_Step_loop1 a a n (i : Int)) (.inl ()) := by
    intro xs
    induction xs with
    | nil =>
      intro i hx
      refine To.succ ?_
      simp only [M.slices_Equal_api_Step_api_Step_loop1]
      exact To.neg (drop_end hx) To.pure
    | cons x xs ih =>
      intro i hx
      refine To.succ ?_
      simp only [M.slices_Equal_api_Step_api_Step_loop1]
      refine To.pos (drop_lt hx) (To.bindS (drop_idx hx) (To.bindS (drop_idx hx) (To.neg (by simp) ?_)))
      rw [cast_succ]
      exact ih (i + 1) (drop_next hx)
  simp only [M.slices_Equal_api_Step_api_Step]
  exact To.neg (by simp) (To.bind (loop a 0 rfl) To.pure)

theorem eqw_refl (s : Str) : To (fun n => M.wordseq_Equal n [s] [s]) true := by
  simp only [M.wordseq_Equal, M.slices_Equal_string_string]
  have hl : To (fun n => M.slices_Equal_string_string_loop1 [s] [s] n (0 : Int)) (.inl ()) := by
    refine To.succ ?_
    simp only [M.slices_Equal_string_string_loop1]
    refine To.pos (by simp) (To.bindS idx_zero (To.bindS idx_zero (To.neg (by simp) ?_)))
    refine To.succ ?_
    simp only [M.slices_Equal_string_string_loop1]
    exact To.neg (by simp) To.pure
  exact To.bind (a := true) (To.neg (by simp) (To.bind hl To.pure)) To.pure

theorem cequal_refl (c : api_Cite) : To (fun n => M.citation_Equal n c c) true := by
  simp only [M.citation_Equal]
  exact To.pos (by simp) (To.bind (eqs_refl _) (To.pos (by simp) (To.bind (eqw_refl _) (To.pos (by simp) (To.pos (by simp) (To.pure.of (by simp)))))))
theorem csame_refl (c : api_Cite) : To (fun n => M.r20_Same n c c) true := by
  simp only [M.r20_Same]
  exact To.pos (by simp) (To.pos (by simp) (To.pos (by simp) (To.pos (by simp) (To.bind (same7 _) To.pure))))

theorem parse_words {c : api_Cite} (h : citeB c = true) : To (fun n => M.citation_Parse n (joinS (wordsB c))) ({ c with From := 0, At := ((wordsB c).length : Int) }, 0) := by
  obtain ⟨hf, hl⟩ := words_fine h
  have hlen := fmt_len h
  have hpos := List.length_pos_iff.2 (words_ne h)
  have hsp : splitM (joinS (wordsB c)) [32] = some (wordsB c) := by
    unfold splitM
    simp only
    rw [if_pos (by omega), (pcs_words h).2.1]
  have hL := long_words h
  have hlong := longest_t hf 0 (by omega)
  rw [hL] at hlong
  simp only [M.citation_Parse]
  have hd : decide ((0 : Int) < ((wordsB c).length : Int)) = true := decide_eq_true (by omega)
  refine To.bindS hsp (To.bind hlong (To.neg (by simp only [hd]; simp) (To.neg (by simp) (To.bind (format_c _) (To.neg ?_ To.pure)))))
  have : fmtC { c with From := 0, At := ((wordsB c).length : Int) } = joinS (wordsB c) := fmt_is (c := { c with From := 0, At := ((wordsB c).length : Int) }) h
  rw [this]; simp

theorem croundtrip_true (c : api_Cite) (hf : fits c) : ∃ n, M.law20_CitationRoundTrip n c = some true := by
  refine To.ex ?_
  simp only [M.law20_CitationRoundTrip]
  obtain ⟨b, hb, hb2⟩ := wide_ok c hf
  cases b with
  | true => exact To.bind (a := true) (To.bindS hb (To.pos rfl To.pure)) (To.pos rfl (To.bind awake20 To.pure))
  | false =>
    obtain ⟨h12, hto, hla⟩ := hb2 rfl
    have hmay := cmay_ok c (fun y hy => by have := hla y hy; omega) (by omega)
    refine To.bind (a := !citeB c) (To.bindS hb (To.neg (by simp) (To.bind hmay To.pure))) ?_
    by_cases h : citeB c = true
    · have hfm : fmtC { ({ c with From := (0 : Int) } : api_Cite) with At := ((wordsB c).length : Int) } = joinS (wordsB c) := fmt_is (c := { c with From := 0, At := ((wordsB c).length : Int) }) h
      refine To.neg (by simp [h]) (To.bind (format_c c) (To.bind (pieces_fmt h) (To.bind ((format_c _).of hfm) (To.bind (parse_words h) (To.bind (scan_words h) (To.pos rfl ?_))))))
      exact To.bind (cequal_refl _) (To.pos rfl (To.pos (by simp) (To.bindS idx_zero (To.bind (cequal_refl _) (To.pos rfl (To.bind (csame_refl _) (To.pos rfl (To.bind awake20 To.pure))))))))
    · exact To.pos (by simpa using h) (To.bind awake20 To.pure)
end Go.Proofs.YtnmkblpbmoikpaaDoor
