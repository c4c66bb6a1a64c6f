/-
  Words, texts and their pieces: what other chapters' texts hold too (picked by wip/scripts/pick.py).
-/
import Derived.Test.YtalogjkalmkpjaaDoorMdl
import Derived.Test.YtalogjkalmkpjaaDoorEv
import Derived.Test.YtalogjkalmkpjaaDoorDec13
import Derived.KernelRfl
set_option linter.unusedVariables false
set_option linter.unusedSimpArgs false
namespace Go.Proofs.YtalogjkalmkpjaaDoor
open Go Go.Dec
def tailS (l : List Str) : Str := l.flatMap (fun x => 32 :: x)
def joinS : List Str → Str
  | [] => []
  | a :: l => a ++ tailS l
def total (l : List Str) : Nat := (l.map (fun x => x.length + 1)).sum
theorem total_len (l : List Str) : l.length ≤ total l := by
  unfold total
  induction l with
  | nil => simp
  | cons x l ih => simp; omega
theorem tail_len (l : List Str) : (tailS l).length = total l := by
  unfold tailS total
  induction l with
  | nil => rfl
  | cons x l ih => simp [ih]; omega
theorem join_loop1 : ∀ (l : List Str) (n : Nat), n + total l ≤ 1000000000 → ∃ m : Nat, M.strings_Join_loop1 l (n : Int) = some (m : Int) ∧ m ≤ n + total l
  | [], n, h => ⟨n, rfl, by omega⟩
  | x :: l, n, h => by
    have ht : total (x :: l) = x.length + 1 + total l := by simp [total]
    rw [ht] at h
    obtain ⟨m, hm, hle⟩ := join_loop1 l (n + x.length) (by omega)
    refine ⟨m, ?_, by omega⟩
    simp only [M.strings_Join_loop1]
    rw [subC_eq (by omega) (by omega), Option.bind_some, if_neg (by omega), addC_eq (by omega) (by omega), Option.bind_some, ← hm]
    congr 1
theorem join_loop2 : ∀ (l : List Str) (b : Str), b.length + total l ≤ 1000000000 → M.strings_Join_loop2 [32] l b = some (b ++ tailS l)
  | [], b, _ => by simp [M.strings_Join_loop2, tailS]
  | x :: l, b, h => by
    have ht : total (x :: l) = x.length + 1 + total l := by simp [total]
    rw [ht] at h
    simp only [M.strings_Join_loop2]
    rw [appC_eq (by simp; omega), Option.bind_some, appC_eq (by simp; omega), Option.bind_some, join_loop2 l _ (by simp; omega)]
    simp [tailS]
theorem tdiv_nat (a b : Nat) : ((a : Int).tdiv (b : Int)) = ((a / b : Nat) : Int) := rfl
theorem quo_nat (a b : Nat) (ha : a ≤ 9223372036854775807) (hb : 1 ≤ b) : quoC (a : Int) (b : Int) = some ((a / b : Nat) : Int) := by
  unfold quoC
  rw [tdiv_nat]
  have h2 := Nat.div_le_self a b
  generalize a / b = q at h2 ⊢
  rw [if_pos]
  refine ⟨by omega, ?_⟩
  simp only [fits64, Bool.and_eq_true, decide_eq_true_eq]
  omega
theorem quo_max' (a k : Nat) (ha1 : 4000000000 ≤ a) (ha2 : a ≤ 9223372036854775807) (h1 : 1 ≤ k) (h2 : k ≤ 1000000000) : ∃ q : Nat, quoC (a : Int) (k : Int) = some (q : Int) ∧ 2 ≤ q :=
  ⟨a / k, quo_nat a k ha2 h1, by rw [Nat.le_div_iff_mul_le (by omega)]; omega⟩
theorem maxI : (9223372036854775807 : Int) = ((9223372036854775807 : Nat) : Int) := rfl
theorem quo_max (k : Nat) (h1 : 1 ≤ k) (h2 : k ≤ 1000000000) : ∃ q : Nat, quoC (9223372036854775807 : Int) (k : Int) = some (q : Int) ∧ 2 ≤ q :=
  maxI ▸ quo_max' 9223372036854775807 k (by decide) (by decide) h1 h2
theorem join_two (x y : Str) (l : List Str) (h : total (x :: y :: l) ≤ 400000000) : M.strings_Join (x :: y :: l) [32] = some (joinS (x :: y :: l)) := by
  have hlen := total_len (x :: y :: l)
  have h1 : ((x :: y :: l).length : Int) = ((l.length + 2 : Nat) : Int) := by simp; omega
  have ht : total (x :: y :: l) = x.length + 1 + total (y :: l) := by simp [total]
  have hlen' : l.length + 2 ≤ total (x :: y :: l) := by simpa using hlen
  have hs : (([32] : Str).length : Int) = 1 := rfl
  have e1 : ((l.length + 2 : Nat) : Int) - 1 = ((l.length + 1 : Nat) : Int) := by omega
  have hsub : subC ((l.length + 2 : Nat) : Int) 1 = some ((l.length + 1 : Nat) : Int) := by rw [subC_eq (by omega) (by omega), e1]
  obtain ⟨q, hq, hq2⟩ := quo_max (l.length + 1) (by omega) (by omega)
  have hmul : mulC (1 : Int) ((l.length + 1 : Nat) : Int) = some ((l.length + 1 : Nat) : Int) := by rw [mulC_eq (by omega) (by omega), Int.one_mul]
  have hadd : addC (0 : Int) ((l.length + 1 : Nat) : Int) = some ((l.length + 1 : Nat) : Int) := by rw [addC_eq (by omega) (by omega), Int.zero_add]
  obtain ⟨m, hm, hle⟩ := join_loop1 (x :: y :: l) (l.length + 1) (by omega)
  have hg : growC (m : Int) = some () := by
    unfold growC
    rw [if_pos]
    omega
  have hsl : slcLo (x :: y :: l) (1 : Int) = some (y :: l) := by
    unfold slcLo
    rw [if_pos (by simp; omega)]
    rfl
  have n0 : ¬ ((l.length + 2 : Nat) : Int) = 0 := by omega
  have n1 : ¬ ((l.length + 2 : Nat) : Int) = 1 := by omega
  have n2 : (0 : Int) < 1 := by omega
  have n3 : ¬ ((q : Nat) : Int) ≤ 1 := by omega
  have ha0 : appC ([] : Str) x = some x := by rw [appC_eq (by simp; omega)]; rfl
  have hl2 : M.strings_Join_loop2 [32] (y :: l) x = some (x ++ tailS (y :: l)) := join_loop2 (y :: l) x (by omega)
  unfold M.strings_Join
  rw [h1, if_neg n0, if_neg n1, hs, if_pos n2, hsub, Option.bind_some, hq, Option.bind_some]
  rw [if_neg n3]
  rw [Option.bind_some, Option.bind_some, hmul, Option.bind_some, hadd, Option.bind_some, Option.bind_some, hm, Option.bind_some, hg, Option.bind_some, idx_zero, Option.bind_some, ha0, Option.bind_some, hsl, Option.bind_some, hl2, Option.bind_some]
  rfl
theorem join_ok (l : List Str) (h : total l ≤ 400000000) : M.strings_Join l [32] = some (joinS l) := by
  cases l with
  | nil => rfl
  | cons x l =>
    cases l with
    | nil =>
      unfold M.strings_Join
      rw [if_neg (by simp), if_pos (by simp), idx_zero, Option.bind_some]
      simp [joinS, tailS]
    | cons y l => exact join_two x y l h
def chB (b : UInt8) : Bool := decide (33 ≤ b.toNat) && decide (b.toNat ≤ 126)
def wordB (s : Str) : Bool := decide (1 ≤ s.length) && decide (s.length ≤ 24) && s.all chB
def seqB (l : List Str) : Bool := decide (l.length ≤ 256) && l.all wordB
theorem word_r (s : Str) : To (fun n => M.r04_Word n s) (wordB s) := by
  have loop : ∀ (xs : Str) (i : Nat), s.drop i = xs → To (fun n => M.r04_Word_loop1 s n (i : Int)) (if xs.all chB = true then .inl () else .inr false) := by
    intro xs
    induction xs with
    | nil =>
      intro i hx
      refine To.succ ?_
      simp only [M.r04_Word_loop1]
      exact To.neg (drop_end hx) To.pure
    | cons x xs ih =>
      intro i hx
      refine To.succ ?_
      simp only [M.r04_Word_loop1]
      refine To.pos (drop_lt hx) (To.bindS (drop_idx hx) ?_)
      by_cases h1 : (x.toNat : Int) < 33
      · refine To.pos h1 (To.pure.of ?_)
        have : chB x = false := by simp [chB]; omega
        simp [this]
      · refine To.neg h1 (To.bindS (drop_idx hx) ?_)
        by_cases h2 : (126 : Int) < (x.toNat : Int)
        · refine To.pos h2 (To.pure.of ?_)
          have : chB x = false := by simp [chB]; omega
          simp [this]
        · refine To.neg h2 ?_
          rw [cast_succ]
          have : chB x = true := by simp [chB]; omega
          exact (ih (i + 1) (drop_next hx)).of (by simp [this])
  simp only [M.r04_Word]
  by_cases h1 : (s.length : Int) < 1
  · refine To.bind (a := true) (To.pos h1 To.pure) (To.pos rfl (To.pure.of ?_))
    have : ¬ 1 ≤ s.length := by omega
    simp [wordB, this]
  · by_cases h2 : (24 : Int) < (s.length : Int)
    · refine To.bind (a := true) (To.neg h1 (To.pure.of (by simp [h2]))) (To.pos rfl (To.pure.of ?_))
      have : ¬ s.length ≤ 24 := by omega
      simp [wordB, this]
    · refine To.bind (a := false) (To.neg h1 (To.pure.of (by simp [h2]))) (To.neg (by simp) (To.bind (loop s 0 rfl) ?_))
      have k1 : 1 ≤ s.length := by omega
      have k2 : s.length ≤ 24 := by omega
      by_cases ha : s.all chB = true
      · rw [if_pos ha]
        refine To.pure.of ?_
        simp only [wordB, k1, k2, ha, decide_true, Bool.and_self]
      · rw [if_neg ha]
        have ha' : s.all chB = false := by simpa using ha
        refine To.pure.of ?_
        simp only [wordB, ha', Bool.and_false]
theorem has_s (l : List Str) (f : Nat → Str → Option Bool) (p : Str → Bool) (hf : ∀ x, x ∈ l → To (fun n => f n x) (p x)) : To (fun n => M.slices_ContainsFunc_string_string n l (f n)) (l.any p) := by
  have loop : ∀ (xs : List Str) (f : Nat → Str → Option Bool) (i : Nat), (∀ x, x ∈ xs → To (fun n => f n x) (p x)) → l.drop i = xs → ∃ r, To (fun n => M.slices_IndexFunc_string_string_loop1 l (f n) n (i : Int)) r ∧ ((xs.any p = true ∧ ∃ k : Nat, r = .inr (k : Int)) ∨ (xs.any p = false ∧ r = .inl ())) := by
    intro xs
    induction xs with
    | nil =>
      intro f i _ hx
      refine ⟨.inl (), To.succ ?_, .inr ⟨rfl, rfl⟩⟩
      simp only [M.slices_IndexFunc_string_string_loop1]
      exact To.neg (drop_end hx) To.pure
    | cons x xs ih =>
      intro f i hf hx
      have h1 := hf x (by simp)
      by_cases hp : p x = true
      · refine ⟨.inr (i : Int), To.succ ?_, .inl ⟨by simp [hp], i, rfl⟩⟩
        simp only [M.slices_IndexFunc_string_string_loop1]
        exact To.pos (drop_lt hx) (To.bindS (drop_idx hx) (To.bind h1.shift (To.pos hp To.pure)))
      · have hp' : p x = false := by simpa using hp
        obtain ⟨r, ht, hr⟩ := ih (fun n => f (n + 1)) (i + 1) (fun y hy => (hf y (by simp [hy])).shift) (drop_next hx)
        refine ⟨r, To.succ ?_, by simpa [hp'] using hr⟩
        simp only [M.slices_IndexFunc_string_string_loop1]
        rw [cast_succ]
        exact To.pos (drop_lt hx) (To.bindS (drop_idx hx) (To.bind h1.shift (To.neg hp ht)))
  obtain ⟨r, ht, hr⟩ := loop l f 0 hf rfl
  simp only [M.slices_ContainsFunc_string_string, M.slices_IndexFunc_string_string]
  rcases hr with ⟨ha, k, rfl⟩ | ⟨ha, rfl⟩
  · refine To.bind (a := (k : Int)) (To.bind ht To.pure) (To.pure.of ?_)
    simp [ha]
  · refine To.bind (a := (-1 : Int)) (To.bind ht To.pure) (To.pure.of ?_)
    simp [ha]
theorem has_b (l : Str) : To (fun n => M.slices_ContainsFunc_byte_byte n (bytesOf l) (fun s0 => M.wordseq_word_1 s0)) (l.any fun b => !chB b) := by
  have hd : ∀ (i : Nat) (x : UInt8) (xs : Str), l.drop i = x :: xs → idx (bytesOf l) (i : Int) = some (x.toNat : Int) ∧ (i : Int) < ((bytesOf l).length : Int) := by
    intro i x xs hx
    obtain ⟨h1, h2, _⟩ := drop_cons hx
    refine ⟨?_, by simp [bytesOf]; omega⟩
    rw [idx_nat]
    simp [bytesOf, h2]
  have loop : ∀ (xs : Str) (i : Nat), l.drop i = xs → ∃ r, To (fun n => M.slices_IndexFunc_byte_byte_loop1 (bytesOf l) (fun s0 => M.wordseq_word_1 s0) n (i : Int)) r ∧ (((xs.any fun b => !chB b) = true ∧ ∃ k : Nat, r = .inr (k : Int)) ∨ ((xs.any fun b => !chB b) = false ∧ r = .inl ())) := by
    intro xs
    induction xs with
    | nil =>
      intro i hx
      refine ⟨.inl (), To.succ ?_, .inr ⟨rfl, rfl⟩⟩
      simp only [M.slices_IndexFunc_byte_byte_loop1]
      have := drop_end hx
      exact To.neg (by simp [bytesOf]; omega) To.pure
    | cons x xs ih =>
      intro i hx
      obtain ⟨h1, h2⟩ := hd i x xs hx
      have hw : M.wordseq_word_1 (x.toNat : Int) = some (!chB x) := by
        simp only [M.wordseq_word_1, chB]
        by_cases hc : (x.toNat : Int) < 33
        · rw [if_pos hc]
          have : ¬ 33 ≤ x.toNat := by omega
          simp [this]
        · rw [if_neg hc]
          have : 33 ≤ x.toNat := by omega
          by_cases hc2 : (126 : Int) < (x.toNat : Int)
          · have : ¬ x.toNat ≤ 126 := by omega
            simp [hc2, this]
          · have h3 : x.toNat ≤ 126 := by omega
            simp [hc2, this, h3]
      by_cases hp : chB x = true
      · obtain ⟨r, ht, hr⟩ := ih (i + 1) (drop_next hx)
        refine ⟨r, To.succ ?_, by simpa [hp] using hr⟩
        simp only [M.slices_IndexFunc_byte_byte_loop1]
        rw [cast_succ]
        exact To.pos h2 (To.bindS h1 (To.bindS hw (To.neg (by simp [hp]) ht)))
      · have hp' : chB x = false := by simpa using hp
        refine ⟨.inr (i : Int), To.succ ?_, .inl ⟨by simp [hp'], i, rfl⟩⟩
        simp only [M.slices_IndexFunc_byte_byte_loop1]
        exact To.pos h2 (To.bindS h1 (To.bindS hw (To.pos (by simp [hp']) To.pure)))
  obtain ⟨r, ht, hr⟩ := loop l 0 rfl
  simp only [M.slices_ContainsFunc_byte_byte, M.slices_IndexFunc_byte_byte]
  rcases hr with ⟨ha, k, rfl⟩ | ⟨ha, rfl⟩
  · refine To.bind (a := (k : Int)) (To.bind ht To.pure) (To.pure.of ?_)
    rw [ha]; simp
  · refine To.bind (a := (-1 : Int)) (To.bind ht To.pure) (To.pure.of ?_)
    rw [ha]; simp
theorem any_not {α : Type} (p : α → Bool) (l : List α) : (l.any fun b => !p b) = !l.all p := by
  induction l with
  | nil => rfl
  | cons x l ih => simp only [List.any_cons, List.all_cons, ih]; cases p x <;> simp
theorem word_w (s : Str) : To (fun n => M.wordseq_word n s) (wordB s) := by
  simp only [M.wordseq_word]
  by_cases h1 : s = []
  · refine To.neg (by simp [h1]) (To.pure.of ?_)
    simp [h1, wordB]
  · have k1 : 1 ≤ s.length := List.length_pos_iff.2 h1
    refine To.pos (by simp [h1]) ?_
    by_cases h2 : (s.length : Int) ≤ 24
    · have k2 : s.length ≤ 24 := by omega
      refine To.pos h2 (To.bind (has_b s) (To.pure.of ?_))
      rw [any_not]
      simp only [wordB, k1, k2, decide_true, Bool.true_and, Bool.not_not]
    · refine To.neg h2 (To.pure.of ?_)
      have : ¬ s.length ≤ 24 := by omega
      simp [wordB, this]
theorem valid_w (l : List Str) : To (fun n => M.wordseq_Valid n l) (seqB l) := by
  simp only [M.wordseq_Valid]
  by_cases h : (l.length : Int) ≤ 256
  · have k : l.length ≤ 256 := by omega
    refine To.pos h (To.bind (has_s l (fun n s0 => M.wordseq_Valid_1 n s0) (fun s => !wordB s) fun x _ => ?_) (To.pure.of ?_))
    · simp only [M.wordseq_Valid_1]
      exact To.bind (word_w x) To.pure
    · rw [any_not]
      simp only [seqB, k, decide_true, Bool.true_and, Bool.not_not]
  · refine To.neg h (To.pure.of ?_)
    have : ¬ l.length ≤ 256 := by omega
    simp [seqB, this]
theorem splitC_cons (c : UInt8) (s : Str) : ∃ p ps, splitC c s = p :: ps := by
  cases s with
  | nil => exact ⟨_, _, rfl⟩
  | cons b l =>
    unfold splitC
    split
    · exact ⟨_, _, rfl⟩
    · split
      · exact ⟨_, _, rfl⟩
      · exact ⟨_, _, rfl⟩
theorem splitC_hit (l : Str) : splitC 32 (32 :: l) = [] :: splitC 32 l := by rw [splitC, if_pos rfl]
theorem splitC_miss {b : UInt8} {l p : Str} {ps : List Str} (h : b ≠ 32) (k : splitC 32 l = p :: ps) : splitC 32 (b :: l) = (b :: p) :: ps := by
  rw [splitC, if_neg h, k]
def pcs (s : Str) : List Str := if s = [] then [] else splitC 32 s
theorem pieces_loop (s : Str) (hs : s.length ≤ 1000000) : ∀ (xs p : Str) (ps : List Str) (i from0 : Nat) (out : List Str), s.drop i = xs → i ≤ s.length → from0 ≤ i → out.length ≤ i → splitC 32 xs = p :: ps →
    To (fun n => M.r04_Pieces_loop1 s n out (from0 : Int) (i : Int)) (out ++ ((s.take i).drop from0 ++ p) :: ps) := by
  intro xs
  induction xs with
  | nil =>
    intro p ps i from0 out hx hi hf ho hp
    have hp' : [[]] = p :: ps := hp
    cases hp'
    have hlen : i = s.length := by
      have := congrArg List.length hx
      simp at this; omega
    refine To.succ ?_
    simp only [M.r04_Pieces_loop1]
    refine To.pos (by omega) (To.bind (a := true) (To.pos (by omega) To.pure) (To.pos rfl (To.bindS (slc_nat _ _ _ hf hi) (To.bindS (appC_eq (by simp; omega)) (To.bindS (addC_succ (by omega)) (To.bindS (addC_succ (by omega)) ?_))))))
    refine To.succ ?_
    simp only [M.r04_Pieces_loop1]
    exact To.neg (by omega) (To.pure.of (by simp))
  | cons b l ih =>
    intro p ps i from0 out hx hi hf ho hp
    obtain ⟨h1, h2, h3⟩ := drop_cons hx
    obtain ⟨q, qs, hq⟩ := splitC_cons 32 l
    refine To.succ ?_
    simp only [M.r04_Pieces_loop1]
    refine To.pos (by omega) ?_
    by_cases hb : b = 32
    · subst hb
      rw [splitC_hit, hq] at hp
      cases hp
      refine To.bind (a := true) (To.neg (by omega) (To.bindS (drop_idx hx) (To.pure.of (by decide)))) (To.pos rfl (To.bindS (slc_nat _ _ _ hf hi) (To.bindS (appC_eq (by simp; omega)) (To.bindS (addC_succ (by omega)) (To.bindS (addC_succ (by omega)) ?_)))))
      refine (ih q qs (i + 1) (i + 1) _ h3 (by omega) (Nat.le_refl _) (by simp; omega) hq).of ?_
      have : (s.take (i + 1)).drop (i + 1) = [] := List.drop_eq_nil_of_le (by simp; omega)
      rw [this]; simp
    · rw [splitC_miss hb hq] at hp
      cases hp
      have hn : ¬ ((b.toNat : Int) = 32) := fun e => hb (UInt8.toNat_inj.1 (by have : (32 : UInt8).toNat = 32 := rfl; omega))
      refine To.bind (a := false) (To.neg (by omega) (To.bindS (drop_idx hx) (To.pure.of (by simp only [hn, decide_false])))) (To.neg (by simp) (To.bindS (addC_succ (by omega)) ?_))
      refine (ih q _ (i + 1) from0 out h3 (by omega) (by omega) (by omega) hq).of ?_
      have : (s.take (i + 1)).drop from0 = (s.take i).drop from0 ++ [b] := by
        rw [List.take_add_one, h2, List.drop_append_of_le_length (by simp; omega)]
        rfl
      rw [this]; simp
theorem pieces_r (s : Str) (hs : s.length ≤ 1000000) : To (fun n => M.r04_Pieces n s) (pcs s) := by
  simp only [M.r04_Pieces]
  unfold pcs
  by_cases h : s = []
  · subst h
    exact To.pos rfl To.pure
  · refine To.neg (by simpa using h) ?_
    rw [if_neg h]
    obtain ⟨q, qs, hq⟩ := splitC_cons 32 s
    refine To.bind (pieces_loop s hs s q qs 0 0 [] rfl (Nat.zero_le _) (Nat.le_refl _) (Nat.zero_le _) hq) (To.pure.of ?_)
    rw [hq]; simp
theorem split_tail : ∀ (xs : List Str), (∀ y ∈ xs, (32 : UInt8) ∉ y) → ∀ x : Str, (32 : UInt8) ∉ x → splitC 32 (x ++ tailS xs) = x :: xs := by
  intro xs
  induction xs with
  | nil =>
    intro _ x hx
    simp only [tailS, List.flatMap_nil, List.append_nil]
    induction x with
    | nil => rfl
    | cons b x ihx =>
      simp only [List.mem_cons, not_or] at hx
      exact splitC_miss (fun e => hx.1 e.symm) (ihx hx.2)
  | cons y ys ih =>
    intro h x hx
    induction x with
    | nil =>
      have : tailS (y :: ys) = 32 :: (y ++ tailS ys) := by simp [tailS]
      rw [List.nil_append, this, splitC_hit, ih (fun z hz => h z (List.mem_cons_of_mem _ hz)) y (h y List.mem_cons_self)]
    | cons b x ihx =>
      simp only [List.mem_cons, not_or] at hx
      rw [List.cons_append]
      exact splitC_miss (fun e => hx.1 e.symm) (ihx hx.2)
theorem word_no {x : Str} (h : wordB x = true) : (32 : UInt8) ∉ x := by
  intro hm
  unfold wordB at h
  simp only [Bool.and_eq_true] at h
  have := List.all_eq_true.1 h.2 _ hm
  revert this
  decide
end Go.Proofs.YtalogjkalmkpjaaDoor
