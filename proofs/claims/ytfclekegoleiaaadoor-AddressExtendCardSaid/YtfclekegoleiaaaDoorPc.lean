/-
  Words and sequences of words (picked by wip/scripts/pick.py).
-/
import Derived.Test.YtfclekegoleiaaaDoorPb
set_option linter.unusedVariables false
set_option linter.unusedSimpArgs false
namespace Go.Proofs.YtfclekegoleiaaaDoor
open Go Go.Dec

def chB (b : UInt8) : Bool := decide (33 ≤ b.toNat) && decide (b.toNat ≤ 126)

def wordB (s : Str) : Bool := decide (1 ≤ s.length) && decide (s.length ≤ 24) && s.all chB

def seqB (l : List Str) : Bool := decide (l.length ≤ 256) && l.all wordB

theorem has_s (l : List Str) (f : Nat → Str → Option Bool) (p : Str → Bool) (hf : ∀ x, x ∈ l → To (fun n => f n x) (p x)) : To (fun n => M.slices_ContainsFunc_string_string n l (f n)) (l.any p) := by
  have loop : ∀ (xs : List Str) (f : Nat → Str → Option Bool) (i : Nat), (∀ x, x ∈ xs → To (fun n => f n x) (p x)) → l.drop i = xs → ∃ r, To (fun n => M.slices_IndexFunc_string_string_loop1 l (f n) n (i : Int)) r ∧ ((xs.any p = true ∧ ∃ k : Nat, r = .inr (k : Int)) ∨ (xs.any p = false ∧ r = .inl ())) := by
    intro xs
    induction xs with
    | nil =>
      intro f i _ hx
      refine ⟨.inl (), To.succ ?_, .inr ⟨rfl, rfl⟩⟩
      simp only [M.slices_IndexFunc_string_string_loop1]
      exact To.neg (drop_end hx) To.pure
    | cons x xs ih =>
      intro f i hf hx
      have h1 := hf x (by simp)
      by_cases hp : p x = true
      · refine ⟨.inr (i : Int), To.succ ?_, .inl ⟨by simp [hp], i, rfl⟩⟩
        simp only [M.slices_IndexFunc_string_string_loop1]
        exact To.pos (drop_lt hx) (To.bindS (drop_idx hx) (To.bind h1.shift (To.pos hp To.pure)))
      · have hp' : p x = false := by simpa using hp
        obtain ⟨r, ht, hr⟩ := ih (fun n => f (n + 1)) (i + 1) (fun y hy => (hf y (by simp [hy])).shift) (drop_next hx)
        refine ⟨r, To.succ ?_, by simpa [hp'] using hr⟩
        simp only [M.slices_IndexFunc_string_string_loop1]
        rw [cast_succ]
        exact To.pos (drop_lt hx) (To.bindS (drop_idx hx) (To.bind h1.shift (To.neg hp ht)))
  obtain ⟨r, ht, hr⟩ := loop l f 0 hf rfl
  simp only [M.slices_ContainsFunc_string_string, M.slices_IndexFunc_string_string]
  rcases hr with ⟨ha, k, rfl⟩ | ⟨ha, rfl⟩
  · refine To.bind (a := (k : Int)) (To.bind ht To.pure) (To.pure.of ?_)
    simp [ha]
  · refine To.bind (a := (-1 : Int)) (To.bind ht To.pure) (To.pure.of ?_)
    simp [ha]

theorem has_b (l : Str) : To (fun n => M.slices_ContainsFunc_byte_byte n (bytesOf l) (fun s0 => M.wordseq_word_1 s0)) (l.any fun b => !chB b) := by
  have hd : ∀ (i : Nat) (x : UInt8) (xs : Str), l.drop i = x :: xs → idx (bytesOf l) (i : Int) = some (x.toNat : Int) ∧ (i : Int) < ((bytesOf l).length : Int) := by
    intro i x xs hx
    obtain ⟨h1, h2, _⟩ := drop_cons hx
    refine ⟨?_, by simp [bytesOf]; omega⟩
    rw [idx_nat]
    simp [bytesOf, h2]
  have loop : ∀ (xs : Str) (i : Nat), l.drop i = xs → ∃ r, To (fun n => M.slices_IndexFunc_byte_byte_loop1 (bytesOf l) (fun s0 => M.wordseq_word_1 s0) n (i : Int)) r ∧ (((xs.any fun b => !chB b) = true ∧ ∃ k : Nat, r = .inr (k : Int)) ∨ ((xs.any fun b => !chB b) = false ∧ r = .inl ())) := by
    intro xs
    induction xs with
    | nil =>
      intro i hx
      refine ⟨.inl (), To.succ ?_, .inr ⟨rfl, rfl⟩⟩
      simp only [M.slices_IndexFunc_byte_byte_loop1]
      have := drop_end hx
      exact To.neg (by simp [bytesOf]; omega) To.pure
    | cons x xs ih =>
      intro i hx
      obtain ⟨h1, h2⟩ := hd i x xs hx
      have hw : M.wordseq_word_1 (x.toNat : Int) = some (!chB x) := by
        simp only [M.wordseq_word_1, chB]
        by_cases hc : (x.toNat : Int) < 33
        · rw [if_pos hc]
          have : ¬ 33 ≤ x.toNat := by omega
          simp [this]
        · rw [if_neg hc]
          have : 33 ≤ x.toNat := by omega
          by_cases hc2 : (126 : Int) < (x.toNat : Int)
          · have : ¬ x.toNat ≤ 126 := by omega
            simp [hc2, this]
          · have h3 : x.toNat ≤ 126 := by omega
            simp [hc2, this, h3]
      by_cases hp : chB x = true
      · obtain ⟨r, ht, hr⟩ := ih (i + 1) (drop_next hx)
        refine ⟨r, To.succ ?_, by simpa [hp] using hr⟩
        simp only [M.slices_IndexFunc_byte_byte_loop1]
        rw [cast_succ]
        exact To.pos h2 (To.bindS h1 (To.bindS hw (To.neg (by simp [hp]) ht)))
      · have hp' : chB x = false := by simpa using hp
        refine ⟨.inr (i : Int), To.succ ?_, .inl ⟨by simp [hp'], i, rfl⟩⟩
        simp only [M.slices_IndexFunc_byte_byte_loop1]
        exact To.pos h2 (To.bindS h1 (To.bindS hw (To.pos (by simp [hp']) To.pure)))
  obtain ⟨r, ht, hr⟩ := loop l 0 rfl
  simp only [M.slices_ContainsFunc_byte_byte, M.slices_IndexFunc_byte_byte]
  rcases hr with ⟨ha, k, rfl⟩ | ⟨ha, rfl⟩
  · refine To.bind (a := (k : Int)) (To.bind ht To.pure) (To.pure.of ?_)
    rw [ha]; simp
  · refine To.bind (a := (-1 : Int)) (To.bind ht To.pure) (To.pure.of ?_)
    rw [ha]; simp

theorem any_not {α : Type} (p : α → Bool) (l : List α) : (l.any fun b => !p b) = !l.all p := by
  induction l with
  | nil => rfl
  | cons x l ih => simp only [List.any_cons, List.all_cons, ih]; cases p x <;> simp

theorem word_w (s : Str) : To (fun n => M.wordseq_word n s) (wordB s) := by
  simp only [M.wordseq_word]
  by_cases h1 : s = []
  · refine To.neg (by simp [h1]) (To.pure.of ?_)
    simp [h1, wordB]
  · have k1 : 1 ≤ s.length := List.length_pos_iff.2 h1
    refine To.pos (by simp [h1]) ?_
    by_cases h2 : (s.length : Int) ≤ 24
    · have k2 : s.length ≤ 24 := by omega
      refine To.pos h2 (To.bind (has_b s) (To.pure.of ?_))
      rw [any_not]
      simp only [wordB, k1, k2, decide_true, Bool.true_and, Bool.not_not]
    · refine To.neg h2 (To.pure.of ?_)
      have : ¬ s.length ≤ 24 := by omega
      simp [wordB, this]

theorem valid_w (l : List Str) : To (fun n => M.wordseq_Valid n l) (seqB l) := by
  simp only [M.wordseq_Valid]
  by_cases h : (l.length : Int) ≤ 256
  · have k : l.length ≤ 256 := by omega
    refine To.pos h (To.bind (has_s l (fun n s0 => M.wordseq_Valid_1 n s0) (fun s => !wordB s) fun x _ => ?_) (To.pure.of ?_))
    · simp only [M.wordseq_Valid_1]
      exact To.bind (word_w x) To.pure
    · rw [any_not]
      simp only [seqB, k, decide_true, Bool.true_and, Bool.not_not]
  · refine To.neg h (To.pure.of ?_)
    have : ¬ l.length ≤ 256 := by omega
    simp [seqB, this]

end Go.Proofs.YtfclekegoleiaaaDoor
