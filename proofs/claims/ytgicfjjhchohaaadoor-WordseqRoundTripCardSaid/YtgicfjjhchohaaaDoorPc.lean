/-
  Split: the two cut alike; what was cut joins to the text again, and the other way round.
-/
import Derived.Test.YtgicfjjhchohaaaDoorPb
set_option linter.unusedVariables false
set_option linter.unusedSimpArgs false
namespace Go.Proofs.YtgicfjjhchohaaaDoor
open Go Go.Dec

theorem splitC_cons (c : UInt8) (s : Str) : ∃ p ps, splitC c s = p :: ps := by
  cases s with
  | nil => exact ⟨_, _, rfl⟩
  | cons b l =>
    unfold splitC
    split
    · exact ⟨_, _, rfl⟩
    · split
      · exact ⟨_, _, rfl⟩
      · exact ⟨_, _, rfl⟩

theorem splitC_hit (l : Str) : splitC 32 (32 :: l) = [] :: splitC 32 l := by rw [splitC, if_pos rfl]
theorem splitC_miss {b : UInt8} {l p : Str} {ps : List Str} (h : b ≠ 32) (k : splitC 32 l = p :: ps) : splitC 32 (b :: l) = (b :: p) :: ps := by
  rw [splitC, if_neg h, k]

/-- The pieces of a text. -/
def pcs (s : Str) : List Str := if s = [] then [] else splitC 32 s

theorem pieces_loop (s : Str) (hs : s.length ≤ 1000000) : ∀ (xs p : Str) (ps : List Str) (i from0 : Nat) (out : List Str), s.drop i = xs → i ≤ s.length → from0 ≤ i → out.length ≤ i → splitC 32 xs = p :: ps →
    To (fun n => M.r04_Pieces_loop1 s n out (from0 : Int) (i : Int)) (out ++ ((s.take i).drop from0 ++ p) :: ps) := by
  intro xs
  induction xs with
  | nil =>
    intro p ps i from0 out hx hi hf ho hp
    have hp' : [[]] = p :: ps := hp
    cases hp'
    have hlen : i = s.length := by
      have := congrArg List.length hx
      simp at this; omega
    refine To.succ ?_
    simp only [M.r04_Pieces_loop1]
    refine To.pos (by omega) (To.bind (a := true) (To.pos (by omega) To.pure) (To.pos rfl (To.bindS (slc_nat _ _ _ hf hi) (To.bindS (appC_eq (by simp; omega)) (To.bindS (addC_succ (by omega)) (To.bindS (addC_succ (by omega)) ?_))))))
    refine To.succ ?_
    simp only [M.r04_Pieces_loop1]
    exact To.neg (by omega) (To.pure.of (by simp))
  | cons b l ih =>
    intro p ps i from0 out hx hi hf ho hp
    obtain ⟨h1, h2, h3⟩ := drop_cons hx
    obtain ⟨q, qs, hq⟩ := splitC_cons 32 l
    refine To.succ ?_
    simp only [M.r04_Pieces_loop1]
    refine To.pos (by omega) ?_
    by_cases hb : b = 32
    · subst hb
      rw [splitC_hit, hq] at hp
      cases hp
      refine To.bind (a := true) (To.neg (by omega) (To.bindS (drop_idx hx) (To.pure.of (by decide)))) (To.pos rfl (To.bindS (slc_nat _ _ _ hf hi) (To.bindS (appC_eq (by simp; omega)) (To.bindS (addC_succ (by omega)) (To.bindS (addC_succ (by omega)) ?_)))))
      refine (ih q qs (i + 1) (i + 1) _ h3 (by omega) (Nat.le_refl _) (by simp; omega) hq).of ?_
      have : (s.take (i + 1)).drop (i + 1) = [] := List.drop_eq_nil_of_le (by simp; omega)
      rw [this]; simp
    · rw [splitC_miss hb hq] at hp
      cases hp
      have hn : ¬ ((b.toNat : Int) = 32) := fun e => hb (UInt8.toNat_inj.1 (by have : (32 : UInt8).toNat = 32 := rfl; omega))
      refine To.bind (a := false) (To.neg (by omega) (To.bindS (drop_idx hx) (To.pure.of (by simp only [hn, decide_false])))) (To.neg (by simp) (To.bindS (addC_succ (by omega)) ?_))
      refine (ih q _ (i + 1) from0 out h3 (by omega) (by omega) (by omega) hq).of ?_
      have : (s.take (i + 1)).drop from0 = (s.take i).drop from0 ++ [b] := by
        rw [List.take_add_one, h2, List.drop_append_of_le_length (by simp; omega)]
        rfl
      rw [this]; simp

theorem pieces_r (s : Str) (hs : s.length ≤ 1000000) : To (fun n => M.r04_Pieces n s) (pcs s) := by
  simp only [M.r04_Pieces]
  unfold pcs
  by_cases h : s = []
  · subst h
    exact To.pos rfl To.pure
  · refine To.neg (by simpa using h) ?_
    rw [if_neg h]
    obtain ⟨q, qs, hq⟩ := splitC_cons 32 s
    refine To.bind (pieces_loop s hs s q qs 0 0 [] rfl (Nat.zero_le _) (Nat.le_refl _) (Nat.zero_le _) hq) (To.pure.of ?_)
    rw [hq]; simp

/-- What Split tells. -/
def spB (s : Str) : List Str × Int := if (pcs s).all wordB = true then (if (pcs s).length ≤ 256 then (pcs s, 0) else ([], 6)) else ([], 2)

theorem split_r (s : Str) (hs : s.length ≤ 1000000) : To (fun n => M.r04_Split n s) (spB s) := by
  have loop : ∀ (l xs : List Str) (i : Nat), l.drop i = xs → To (fun n => M.r04_Split_loop1 l n (i : Int)) (if xs.all wordB = true then .inl () else .inr ([], 2)) := by
    intro l xs
    induction xs with
    | nil =>
      intro i hx
      refine To.succ ?_
      simp only [M.r04_Split_loop1]
      exact To.neg (drop_end hx) To.pure
    | cons x xs ih =>
      intro i hx
      refine To.succ ?_
      simp only [M.r04_Split_loop1]
      refine To.pos (drop_lt hx) (To.bindS (drop_idx hx) (To.bind (word_r x) ?_))
      by_cases hw : wordB x = true
      · refine To.neg (by simp [hw]) ?_
        rw [cast_succ]
        exact (ih (i + 1) (drop_next hx)).of (by simp [hw])
      · exact To.pos (by simpa using hw) (To.pure.of (by simp [hw]))
  simp only [M.r04_Split]
  refine To.bind (pieces_r s hs) (To.bind (loop (pcs s) (pcs s) 0 rfl) ?_)
  unfold spB
  by_cases h : (pcs s).all wordB = true
  · rw [if_pos h, if_pos h]
    by_cases h2 : (pcs s).length ≤ 256
    · rw [if_pos h2]
      exact To.neg (by omega) To.pure
    · rw [if_neg h2]
      exact To.pos (by omega) To.pure
  · rw [if_neg h, if_neg h]
    exact To.pure

theorem split_w (s : Str) (hs : s.length ≤ 1000000) : To (fun n => M.wordseq_Split n s) (spB s) := by
  simp only [M.wordseq_Split]
  by_cases h : s = []
  · subst h
    exact To.pos rfl (To.pure.of (by decide))
  · refine To.neg (by simpa using h) (To.bindS (a := pcs s) ?_ (To.bind (has_s (pcs s) (fun n s0 => M.wordseq_Split_1 n s0) (fun s => !wordB s) fun x _ => ?_) ?_))
    · unfold splitM pcs
      rw [if_neg h]
      exact if_pos (by omega)
    · simp only [M.wordseq_Split_1]
      exact To.bind (word_w x) To.pure
    · rw [any_not]
      unfold spB
      by_cases h1 : (pcs s).all wordB = true
      · rw [if_pos h1]
        refine To.neg (by simp [h1]) ?_
        by_cases h2 : (pcs s).length ≤ 256
        · rw [if_pos h2]
          exact To.neg (by omega) To.pure
        · rw [if_neg h2]
          exact To.pos (by omega) To.pure
      · rw [if_neg h1]
        exact To.pos (by simpa using h1) To.pure

theorem same_r (a : List Str) : To (fun n => M.r04_Same n a a) true := by
  have loop : ∀ (xs : List Str) (i : Nat), a.drop i = xs → To (fun n => M.r04_Same_loop1 a a n (i : Int)) (.inl ()) := by
    intro xs
    induction xs with
    | nil =>
      intro i hx
      refine To.succ ?_
      simp only [M.r04_Same_loop1]
      exact To.neg (drop_end hx) To.pure
    | cons x xs ih =>
      intro i hx
      refine To.succ ?_
      simp only [M.r04_Same_loop1]
      refine To.pos (drop_lt hx) (To.bindS (drop_idx hx) (To.bindS (drop_idx hx) (To.neg (by simp) ?_)))
      rw [cast_succ]
      exact ih (i + 1) (drop_next hx)
  simp only [M.r04_Same]
  exact To.neg (by simp) (To.bind (loop a 0 rfl) To.pure)

theorem equal_r (a : List Str) : To (fun n => M.wordseq_Equal n a a) true := by
  have loop : ∀ (xs : List Str) (i : Nat), a.drop i = xs → To (fun n => M.slices_Equal_string_string_loop1 a a n (i : Int)) (.inl ()) := by
    intro xs
    induction xs with
    | nil =>
      intro i hx
      refine To.succ ?_
      simp only [M.slices_Equal_string_string_loop1]
      exact To.neg (drop_end hx) To.pure
    | cons x xs ih =>
      intro i hx
      refine To.succ ?_
      simp only [M.slices_Equal_string_string_loop1]
      refine To.pos (drop_lt hx) (To.bindS (drop_idx hx) (To.bindS (drop_idx hx) (To.neg (by simp) ?_)))
      rw [cast_succ]
      exact ih (i + 1) (drop_next hx)
  simp only [M.wordseq_Equal, M.slices_Equal_string_string]
  exact To.bind (a := true) (To.neg (by simp) (To.bind (loop a 0 rfl) To.pure)) To.pure

theorem join_split : ∀ s : Str, joinS (splitC 32 s) = s
  | [] => by simp [splitC, joinS, tailS]
  | b :: l => by
    have ih := join_split l
    obtain ⟨q, qs, hq⟩ := splitC_cons 32 l
    rw [hq] at ih
    by_cases hb : b = 32
    · subst hb
      rw [splitC_hit, hq, joinS, List.nil_append]
      rw [joinS] at ih
      simp only [tailS, List.flatMap_cons, List.cons_append]
      rw [show q ++ List.flatMap (fun x => 32 :: x) qs = l from ih]
    · rw [splitC_miss hb hq, joinS, List.cons_append]
      rw [joinS] at ih
      rw [ih]

theorem split_tail : ∀ (xs : List Str), (∀ y ∈ xs, (32 : UInt8) ∉ y) → ∀ x : Str, (32 : UInt8) ∉ x → splitC 32 (x ++ tailS xs) = x :: xs := by
  intro xs
  induction xs with
  | nil =>
    intro _ x hx
    simp only [tailS, List.flatMap_nil, List.append_nil]
    induction x with
    | nil => rfl
    | cons b x ihx =>
      simp only [List.mem_cons, not_or] at hx
      exact splitC_miss (fun e => hx.1 e.symm) (ihx hx.2)
  | cons y ys ih =>
    intro h x hx
    induction x with
    | nil =>
      have : tailS (y :: ys) = 32 :: (y ++ tailS ys) := by simp [tailS]
      rw [List.nil_append, this, splitC_hit, ih (fun z hz => h z (List.mem_cons_of_mem _ hz)) y (h y List.mem_cons_self)]
    | cons b x ihx =>
      simp only [List.mem_cons, not_or] at hx
      rw [List.cons_append]
      exact splitC_miss (fun e => hx.1 e.symm) (ihx hx.2)

theorem word_no {x : Str} (h : wordB x = true) : (32 : UInt8) ∉ x := by
  intro hm
  unfold wordB at h
  simp only [Bool.and_eq_true] at h
  have := List.all_eq_true.1 h.2 _ hm
  revert this
  decide

theorem pcs_join (l : List Str) (h : seqB l = true) : pcs (joinS l) = l := by
  unfold seqB at h
  rw [Bool.and_eq_true] at h
  have hw : ∀ x ∈ l, wordB x = true := fun x hx => List.all_eq_true.1 h.2 x hx
  cases l with
  | nil => rfl
  | cons x xs =>
    have hx := hw x List.mem_cons_self
    have hne : x ≠ [] := by
      rintro rfl
      revert hx
      decide
    unfold pcs
    rw [if_neg (by simp [joinS, hne]), joinS]
    exact split_tail xs (fun y hy => word_no (hw y (List.mem_cons_of_mem _ hy))) x (word_no hx)

theorem join_pcs (s : Str) : joinS (pcs s) = s := by
  unfold pcs
  by_cases h : s = []
  · rw [if_pos h, h]; rfl
  · rw [if_neg h]; exact join_split s

theorem splits_true (s : Str) : ∃ n, M.law04_WordseqSplits n s = some true := by
  refine To.ex ?_
  simp only [M.law04_WordseqSplits]
  by_cases hl : (9000 : Int) < (s.length : Int)
  · exact To.pos hl (To.bind awake04 To.pure)
  · refine To.neg hl (To.bind (split_w s (by omega)) (To.bind (split_r s (by omega)) (To.bind (a := false) (To.bind (same_r _) (To.neg (by simp) (To.pure.of (by simp)))) (To.neg (by simp) ?_))))
    by_cases h1 : (pcs s).all wordB = true
    · by_cases h2 : (pcs s).length ≤ 256
      · have e : spB s = (pcs s, 0) := by unfold spB; rw [if_pos h1, if_pos h2]
        have hq : seqB (pcs s) = true := by unfold seqB; rw [h1, decide_eq_true h2]; rfl
        rw [e]
        refine To.neg (by simp) (To.bind (join_w _) (To.pos ?_ (To.bind (valid_w _) (To.pos hq (To.bind awake04 To.pure)))))
        unfold textB
        rw [if_pos hq, join_pcs]
        simp
      · have e : spB s = ([], 6) := by unfold spB; rw [if_pos h1, if_neg h2]
        rw [e]
        exact To.pos (by decide) (To.bind awake04 To.pure)
    · have e : spB s = ([], 2) := by unfold spB; rw [if_neg h1]
      rw [e]
      exact To.pos (by decide) (To.bind awake04 To.pure)

theorem joinS_le (l : List Str) : (joinS l).length ≤ total l := by
  cases l with
  | nil => exact Nat.zero_le _
  | cons x xs =>
    rw [joinS, List.length_append, tail_len]
    simp [total]

theorem roundtrip_true (l : List Str) : ∃ n, M.law04_WordseqRoundTrip n l = some true := by
  refine To.ex ?_
  simp only [M.law04_WordseqRoundTrip]
  obtain ⟨b, hb⟩ := long4 l
  cases b with
  | true => exact To.bind (a := true) (To.bindS hb (To.pos rfl To.pure)) (To.pos rfl (To.bind awake04 To.pure))
  | false =>
    refine To.bind (a := !seqB l) (To.bindS hb (To.neg (by simp) (To.bind (may_r l) To.pure))) ?_
    by_cases h : seqB l = true
    · have ht := seq_total h
      have hj := joinS_le l
      have e : spB (joinS l) = (l, 0) := by
        unfold spB
        rw [pcs_join l h]
        unfold seqB at h
        rw [Bool.and_eq_true, decide_eq_true_eq] at h
        rw [if_pos h.2, if_pos h.1]
      have et : textB l = joinS l := by unfold textB; rw [if_pos h]
      refine To.neg (by simp [h]) (To.bind (join_w l) (To.bind (a := (l, 0)) ?_ (To.pos rfl (To.bind (same_r l) (To.pos rfl (To.bind (equal_r l) (To.pos rfl (To.bind awake04 To.pure))))))))
      rw [et]
      exact (split_w (joinS l) (by omega)).of e
    · exact To.pos (by simp [h]) (To.bind awake04 To.pure)
end Go.Proofs.YtgicfjjhchohaaaDoor
