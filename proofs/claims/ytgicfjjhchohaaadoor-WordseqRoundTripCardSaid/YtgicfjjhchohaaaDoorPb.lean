/-
  Valid sequences and their texts.
-/
import Derived.Test.YtgicfjjhchohaaaDoorPa
set_option linter.unusedVariables false
set_option linter.unusedSimpArgs false
namespace Go.Proofs.YtgicfjjhchohaaaDoor
open Go Go.Dec

def chB (b : UInt8) : Bool := decide (33 ≤ b.toNat) && decide (b.toNat ≤ 126)
def wordB (s : Str) : Bool := decide (1 ≤ s.length) && decide (s.length ≤ 24) && s.all chB
def seqB (l : List Str) : Bool := decide (l.length ≤ 256) && l.all wordB

theorem word_r (s : Str) : To (fun n => M.r04_Word n s) (wordB s) := by
  have loop : ∀ (xs : Str) (i : Nat), s.drop i = xs → To (fun n => M.r04_Word_loop1 s n (i : Int)) (if xs.all chB = true then .inl () else .inr false) := by
    intro xs
    induction xs with
    | nil =>
      intro i hx
      refine To.succ ?_
      simp only [M.r04_Word_loop1]
      exact To.neg (drop_end hx) To.pure
    | cons x xs ih =>
      intro i hx
      refine To.succ ?_
      simp only [M.r04_Word_loop1]
      refine To.pos (drop_lt hx) (To.bindS (drop_idx hx) ?_)
      by_cases h1 : (x.toNat : Int) < 33
      · refine To.pos h1 (To.pure.of ?_)
        have : chB x = false := by simp [chB]; omega
        simp [this]
      · refine To.neg h1 (To.bindS (drop_idx hx) ?_)
        by_cases h2 : (126 : Int) < (x.toNat : Int)
        · refine To.pos h2 (To.pure.of ?_)
          have : chB x = false := by simp [chB]; omega
          simp [this]
        · refine To.neg h2 ?_
          rw [cast_succ]
          have : chB x = true := by simp [chB]; omega
          exact (ih (i + 1) (drop_next hx)).of (by simp [this])
  simp only [M.r04_Word]
  by_cases h1 : (s.length : Int) < 1
  · refine To.bind (a := true) (To.pos h1 To.pure) (To.pos rfl (To.pure.of ?_))
    have : ¬ 1 ≤ s.length := by omega
    simp [wordB, this]
  · by_cases h2 : (24 : Int) < (s.length : Int)
    · refine To.bind (a := true) (To.neg h1 (To.pure.of (by simp [h2]))) (To.pos rfl (To.pure.of ?_))
      have : ¬ s.length ≤ 24 := by omega
      simp [wordB, this]
    · refine To.bind (a := false) (To.neg h1 (To.pure.of (by simp [h2]))) (To.neg (by simp) (To.bind (loop s 0 rfl) ?_))
      have k1 : 1 ≤ s.length := by omega
      have k2 : s.length ≤ 24 := by omega
      by_cases ha : s.all chB = true
      · rw [if_pos ha]
        refine To.pure.of ?_
        simp only [wordB, k1, k2, ha, decide_true, Bool.and_self]
      · rw [if_neg ha]
        have ha' : s.all chB = false := by simpa using ha
        refine To.pure.of ?_
        simp only [wordB, ha', Bool.and_false]

theorem may_r (l : List Str) : To (fun n => M.r04_May n l) (seqB l) := by
  have loop : ∀ (xs : List Str) (i : Nat), l.drop i = xs → To (fun n => M.r04_May_loop1 l n (i : Int)) (if xs.all wordB = true then .inl () else .inr false) := by
    intro xs
    induction xs with
    | nil =>
      intro i hx
      refine To.succ ?_
      simp only [M.r04_May_loop1]
      exact To.neg (drop_end hx) To.pure
    | cons x xs ih =>
      intro i hx
      refine To.succ ?_
      simp only [M.r04_May_loop1]
      refine To.pos (drop_lt hx) (To.bindS (drop_idx hx) (To.bind (word_r x) ?_))
      by_cases hw : wordB x = true
      · refine To.neg (by simp [hw]) ?_
        rw [cast_succ]
        exact (ih (i + 1) (drop_next hx)).of (by simp [hw])
      · exact To.pos (by simpa using hw) (To.pure.of (by simp [hw]))
  simp only [M.r04_May]
  by_cases h : (256 : Int) < (l.length : Int)
  · refine To.pos h (To.pure.of ?_)
    have : ¬ l.length ≤ 256 := by omega
    simp [seqB, this]
  · refine To.neg h (To.bind (loop l 0 rfl) ?_)
    have k : l.length ≤ 256 := by omega
    by_cases ha : l.all wordB = true
    · rw [if_pos ha]
      refine To.pure.of ?_
      simp only [seqB, k, ha, decide_true, Bool.and_self]
    · rw [if_neg ha]
      have ha' : l.all wordB = false := by simpa using ha
      refine To.pure.of ?_
      simp only [seqB, ha', Bool.and_false]

/-! ### The program's -/

theorem has_s (l : List Str) (f : Nat → Str → Option Bool) (p : Str → Bool) (hf : ∀ x, x ∈ l → To (fun n => f n x) (p x)) : To (fun n => M.slices_ContainsFunc_string_string n l (f n)) (l.any p) := by
  have loop : ∀ (xs : List Str) (f : Nat → Str → Option Bool) (i : Nat), (∀ x, x ∈ xs → To (fun n => f n x) (p x)) → l.drop i = xs → ∃ r, To (fun n => M.slices_IndexFunc_string_string_loop1 l (f n) n (i : Int)) r ∧ ((xs.any p = true ∧ ∃ k : Nat, r = .inr (k : Int)) ∨ (xs.any p = false ∧ r = .inl ())) := by
    intro xs
    induction xs with
    | nil =>
      intro f i _ hx
      refine ⟨.inl (), To.succ ?_, .inr ⟨rfl, rfl⟩⟩
      simp only [M.slices_IndexFunc_string_string_loop1]
      exact To.neg (drop_end hx) To.pure
    | cons x xs ih =>
      intro f i hf hx
      have h1 := hf x (by simp)
      by_cases hp : p x = true
      · refine ⟨.inr (i : Int), To.succ ?_, .inl ⟨by simp [hp], i, rfl⟩⟩
        simp only [M.slices_IndexFunc_string_string_loop1]
        exact To.pos (drop_lt hx) (To.bindS (drop_idx hx) (To.bind h1.shift (To.pos hp To.pure)))
      · have hp' : p x = false := by simpa using hp
        obtain ⟨r, ht, hr⟩ := ih (fun n => f (n + 1)) (i + 1) (fun y hy => (hf y (by simp [hy])).shift) (drop_next hx)
        refine ⟨r, To.succ ?_, by simpa [hp'] using hr⟩
        simp only [M.slices_IndexFunc_string_string_loop1]
        rw [cast_succ]
        exact To.pos (drop_lt hx) (To.bindS (drop_idx hx) (To.bind h1.shift (To.neg hp ht)))
  obtain ⟨r, ht, hr⟩ := loop l f 0 hf rfl
  simp only [M.slices_ContainsFunc_string_string, M.slices_IndexFunc_string_string]
  rcases hr with ⟨ha, k, rfl⟩ | ⟨ha, rfl⟩
  · refine To.bind (a := (k : Int)) (To.bind ht To.pure) (To.pure.of ?_)
    simp [ha]
  · refine To.bind (a := (-1 : Int)) (To.bind ht To.pure) (To.pure.of ?_)
    simp [ha]

theorem has_b (l : Str) : To (fun n => M.slices_ContainsFunc_byte_byte n (bytesOf l) (fun s0 => M.wordseq_word_1 s0)) (l.any fun b => !chB b) := by
  have hd : ∀ (i : Nat) (x : UInt8) (xs : Str), l.drop i = x :: xs → idx (bytesOf l) (i : Int) = some (x.toNat : Int) ∧ (i : Int) < ((bytesOf l).length : Int) := by
    intro i x xs hx
    obtain ⟨h1, h2, _⟩ := drop_cons hx
    refine ⟨?_, by simp [bytesOf]; omega⟩
    rw [idx_nat]
    simp [bytesOf, h2]
  have loop : ∀ (xs : Str) (i : Nat), l.drop i = xs → ∃ r, To (fun n => M.slices_IndexFunc_byte_byte_loop1 (bytesOf l) (fun s0 => M.wordseq_word_1 s0) n (i : Int)) r ∧ (((xs.any fun b => !chB b) = true ∧ ∃ k : Nat, r = .inr (k : Int)) ∨ ((xs.any fun b => !chB b) = false ∧ r = .inl ())) := by
    intro xs
    induction xs with
    | nil =>
      intro i hx
      refine ⟨.inl (), To.succ ?_, .inr ⟨rfl, rfl⟩⟩
      simp only [M.slices_IndexFunc_byte_byte_loop1]
      have := drop_end hx
      exact To.neg (by simp [bytesOf]; omega) To.pure
    | cons x xs ih =>
      intro i hx
      obtain ⟨h1, h2⟩ := hd i x xs hx
      have hw : M.wordseq_word_1 (x.toNat : Int) = some (!chB x) := by
        simp only [M.wordseq_word_1, chB]
        by_cases hc : (x.toNat : Int) < 33
        · rw [if_pos hc]
          have : ¬ 33 ≤ x.toNat := by omega
          simp [this]
        · rw [if_neg hc]
          have : 33 ≤ x.toNat := by omega
          by_cases hc2 : (126 : Int) < (x.toNat : Int)
          · have : ¬ x.toNat ≤ 126 := by omega
            simp [hc2, this]
          · have h3 : x.toNat ≤ 126 := by omega
            simp [hc2, this, h3]
      by_cases hp : chB x = true
      · obtain ⟨r, ht, hr⟩ := ih (i + 1) (drop_next hx)
        refine ⟨r, To.succ ?_, by simpa [hp] using hr⟩
        simp only [M.slices_IndexFunc_byte_byte_loop1]
        rw [cast_succ]
        exact To.pos h2 (To.bindS h1 (To.bindS hw (To.neg (by simp [hp]) ht)))
      · have hp' : chB x = false := by simpa using hp
        refine ⟨.inr (i : Int), To.succ ?_, .inl ⟨by simp [hp'], i, rfl⟩⟩
        simp only [M.slices_IndexFunc_byte_byte_loop1]
        exact To.pos h2 (To.bindS h1 (To.bindS hw (To.pos (by simp [hp']) To.pure)))
  obtain ⟨r, ht, hr⟩ := loop l 0 rfl
  simp only [M.slices_ContainsFunc_byte_byte, M.slices_IndexFunc_byte_byte]
  rcases hr with ⟨ha, k, rfl⟩ | ⟨ha, rfl⟩
  · refine To.bind (a := (k : Int)) (To.bind ht To.pure) (To.pure.of ?_)
    rw [ha]; simp
  · refine To.bind (a := (-1 : Int)) (To.bind ht To.pure) (To.pure.of ?_)
    rw [ha]; simp

theorem any_not {α : Type} (p : α → Bool) (l : List α) : (l.any fun b => !p b) = !l.all p := by
  induction l with
  | nil => rfl
  | cons x l ih => simp only [List.any_cons, List.all_cons, ih]; cases p x <;> simp

theorem word_w (s : Str) : To (fun n => M.wordseq_word n s) (wordB s) := by
  simp only [M.wordseq_word]
  by_cases h1 : s = []
  · refine To.neg (by simp [h1]) (To.pure.of ?_)
    simp [h1, wordB]
  · have k1 : 1 ≤ s.length := List.length_pos_iff.2 h1
    refine To.pos (by simp [h1]) ?_
    by_cases h2 : (s.length : Int) ≤ 24
    · have k2 : s.length ≤ 24 := by omega
      refine To.pos h2 (To.bind (has_b s) (To.pure.of ?_))
      rw [any_not]
      simp only [wordB, k1, k2, decide_true, Bool.true_and, Bool.not_not]
    · refine To.neg h2 (To.pure.of ?_)
      have : ¬ s.length ≤ 24 := by omega
      simp [wordB, this]

theorem valid_w (l : List Str) : To (fun n => M.wordseq_Valid n l) (seqB l) := by
  simp only [M.wordseq_Valid]
  by_cases h : (l.length : Int) ≤ 256
  · have k : l.length ≤ 256 := by omega
    refine To.pos h (To.bind (has_s l (fun n s0 => M.wordseq_Valid_1 n s0) (fun s => !wordB s) fun x _ => ?_) (To.pure.of ?_))
    · simp only [M.wordseq_Valid_1]
      exact To.bind (word_w x) To.pure
    · rw [any_not]
      simp only [seqB, k, decide_true, Bool.true_and, Bool.not_not]
  · refine To.neg h (To.pure.of ?_)
    have : ¬ l.length ≤ 256 := by omega
    simp [seqB, this]

theorem seq_total {l : List Str} (h : seqB l = true) : total l ≤ 256 * 25 := by
  unfold seqB at h
  rw [Bool.and_eq_true, decide_eq_true_eq] at h
  have : ∀ m : List Str, m.all wordB = true → total m ≤ 25 * m.length := by
    intro m
    induction m with
    | nil => intro _; simp [total]
    | cons x m ih =>
      intro hm
      simp only [List.all_cons, Bool.and_eq_true] at hm
      have h1 := ih hm.2
      have h2 := hm.1
      unfold wordB at h2
      simp only [Bool.and_eq_true, decide_eq_true_eq] at h2
      have ht : total (x :: m) = x.length + 1 + total m := by simp [total]
      rw [ht]
      simp only [List.length_cons]
      omega
  have h1 := this l h.2
  have := Nat.mul_le_mul_left 25 h.1
  omega

def textB (l : List Str) : Str := if seqB l = true then joinS l else []

theorem join_w (l : List Str) : To (fun n => M.wordseq_Join n l) (textB l) := by
  simp only [M.wordseq_Join]
  refine To.bind (valid_w l) ?_
  unfold textB
  by_cases h : seqB l = true
  · rw [if_pos h]
    have := seq_total h
    exact To.neg (by simp [h]) (To.bindS (join_ok l (by omega)) To.pure)
  · rw [if_neg h]
    exact To.pos (by simpa using h) To.pure

theorem long4 (l : List Str) : ∃ b, M.law04_long [l] = some b := by
  have loop : ∀ (xs : List Str) (n : Int), ∃ r, M.law04_long_loop2 xs n = some r := by
    intro xs
    induction xs with
    | nil => intro n; exact ⟨n, rfl⟩
    | cons x xs ih => intro n; simp only [M.law04_long_loop2]; exact ih _
  obtain ⟨r, hr⟩ := loop l 0
  simp only [M.law04_long, M.law04_long_loop1]
  rw [hr, Option.bind_some]
  by_cases h1 : (300 : Int) < (l.length : Int)
  · exact ⟨true, by rw [if_pos h1]; rfl⟩
  · by_cases h2 : (3000 : Int) < r
    · exact ⟨true, by rw [if_neg h1, if_pos h2]; rfl⟩
    · exact ⟨false, by rw [if_neg h1, if_neg h2]; rfl⟩

theorem awake04 : To (fun n => M.law04_awake n) true := by
  refine To.far 30 fun m => ?_
  kernel_rfl

end Go.Proofs.YtgicfjjhchohaaaDoor
