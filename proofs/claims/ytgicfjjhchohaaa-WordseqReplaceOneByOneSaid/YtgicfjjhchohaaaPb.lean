/-
  The laws of the searches hold of the plain functions.
-/
import Derived.Test.YtgicfjjhchohaaaPa
set_option linter.unusedVariables false
set_option linter.unusedSimpArgs false
namespace Go.Proofs.Ytgicfjjhchohaaa
open Go Go.Dec

theorem finds_loop (ps : List Nat) : ∀ (k i n : Nat), ps.length - i ≤ k → i ≤ ps.length → k < n → M.law04_WordseqFinds_loop1 (ints ps) (ints ps) n (i : Int) = some (.inl ())
  | k, i, 0, _, _, h => by omega
  | k, i, n + 1, hk, hi, hn => by
    unfold M.law04_WordseqFinds_loop1
    by_cases h : i < ps.length
    · have hl : i < (ints ps).length := by rw [ints_length]; exact h
      rw [if_pos (by rw [ints_length]; omega), idx_get hl]
      simp only [Option.bind_some]
      rw [if_neg (by simp), succ_cast]
      exact finds_loop ps (k - 1) (i + 1) n (by omega) (by omega) (by omega)
    · rw [if_neg (by rw [ints_length]; omega)]

theorem long2 {l part : List Str} {P : Prop} : (∀ r ∈ [l, part], r.length ≤ 300) → (l.length ≤ 300 → part.length ≤ 300 → P) → P :=
  fun h k => k (h l (by simp)) (h part (by simp))

theorem finds_true (l part : List Str) : ∃ n, M.law04_WordseqFinds n l part = some true := by
  obtain ⟨N, hN⟩ := long_ok [l, part] (by simp)
  refine ⟨N + 100000, ?_⟩
  unfold M.law04_WordseqFinds
  rcases hN (N + 100000) (by omega) with h | ⟨h, hr⟩
  · rw [h]
    simp only [Option.bind_some]
    rw [if_pos trivial, awake_le (by omega)]
    rfl
  · refine long2 hr fun h1 h2 => ?_
    obtain ⟨ps, hf, hps⟩ := find_ok l part (by omega) (by omega)
    obtain ⟨e1, e2⟩ := hps (N + 100000) (by omega)
    have hlen : ps.length ≤ 300 := by
      rcases hf with ⟨_, rfl⟩ | ⟨hp, ho⟩
      · simp
      · exact Nat.le_trans (occ_length ho (by omega) (List.length_pos_iff.2 hp)) (by omega)
    have hl := finds_loop ps ps.length 0 (N + 100000) (by omega) (by omega) (by omega)
    simp only [Int.ofNat_zero] at hl
    rw [h]
    simp only [Option.bind_some]
    rw [if_neg (by simp), e1, e2]
    simp only [Option.bind_some]
    rw [if_neg (by simp)]
    unfold M.wordseq_Count M.wordseq_Equal
    rw [e1]
    simp only [Option.bind_some]
    have hl' : M.law04_WordseqFinds_loop1 (ints ps) (ints ps) (N + 100000) 0 = some (.inl ()) := hl
    rw [if_neg (by simp), hl', equal_ok _ _ _ (by omega), same_ok _ _ _ (by omega)]
    simp only [Option.bind_some]
    rw [if_pos (by simp), awake_le (by omega)]
    rfl

theorem disjoint_loop2 (l part : List Str) (j : Nat) (hl : l.length ≤ 100000) (hp : part.length ≤ 100000) (hj : j ≤ l.length) : ∀ (n k i : Nat), j - i ≤ k → i ≤ j → k + l.length + 1 < n → (∀ q, i ≤ q → q < j → st l part q = false) →
    M.law04_WordseqOccurrencesDisjoint_loop2 l part (j : Int) n (i : Int) = some (.inl ()) := by
  intro n
  induction n with
  | zero => intro k i _ _ h; omega
  | succ n ih =>
    intro k i hk hi hn hst
    unfold M.law04_WordseqOccurrencesDisjoint_loop2
    by_cases h : i < j
    · rw [if_pos (by omega), stands_ok l part i n hl hp (by omega) (by omega), hst i (by omega) h]
      rw [Option.bind_some, if_neg (by simp), addC_one i (by omega), Option.bind_some]
      exact ih (k - 1) (i + 1) (by omega) (by omega) (by omega) (fun q h1 h2 => hst q (by omega) h2)
    · rw [if_neg (by omega)]

theorem disjoint_loop3 (l part : List Str) (hl : l.length ≤ 100000) (hp : part.length ≤ 100000) : ∀ (n k i : Nat), l.length - i ≤ k → i ≤ l.length → k + l.length + 1 < n → (∀ q, i ≤ q → st l part q = false) →
    M.law04_WordseqOccurrencesDisjoint_loop3 l part n (i : Int) = some (.inl ()) := by
  intro n
  induction n with
  | zero => intro k i _ _ h; omega
  | succ n ih =>
    intro k i hk hi hn hst
    unfold M.law04_WordseqOccurrencesDisjoint_loop3
    by_cases h : i < l.length
    · rw [if_pos (by omega), stands_ok l part i n hl hp (by omega) (by omega), hst i (by omega)]
      rw [Option.bind_some, if_neg (by simp), succ_cast]
      exact ih (k - 1) (i + 1) (by omega) (by omega) (by omega) (fun q h1 => hst q (by omega))
    · rw [if_neg (by omega)]

theorem disjoint_loop1 (l part : List Str) (v : Bool) (ps0 : List Nat) (hl : l.length ≤ 100000) (hp : part.length ≤ 100000) (hp0 : 0 < part.length) : ∀ (ps : List Nat) (pre : List Nat) (e n : Nat), ps0 = pre ++ ps → Occ l part e ps → e ≤ l.length → ps0.length ≤ 100000 →
    ps.length + 2 * l.length + 2 < n → ∃ e', e' ≤ l.length ∧ (∀ q, e' ≤ q → st l part q = false) ∧ M.law04_WordseqOccurrencesDisjoint_loop1 l part v (ints ps0) n (e : Int) (pre.length : Int) = some (.inl (e' : Int))
  | ps, pre, e, 0, _, _, _, _, h => by omega
  | [], pre, e, n + 1, h0, ho, he, hl0, hn => by
    cases ho with
    | done h1 h2 =>
      refine ⟨e, he, h2, ?_⟩
      unfold M.law04_WordseqOccurrencesDisjoint_loop1
      rw [if_neg (by rw [ints_length, h0]; simp)]
  | p :: ps, pre, e, n + 1, h0, ho, he, hl0, hn => by
    cases ho with
    | hit h1 h2 h3 h4 =>
      have hle := st_le h3
      have hlt : pre.length < (ints ps0).length := by rw [ints_length, h0]; simp
      have hget : (ints ps0)[pre.length] = (p : Int) := by simp [ints, h0]
      have hpre : pre.length ≤ 100000 := by rw [ints_length] at hlt; omega
      obtain ⟨e', a1, a2, a3⟩ := disjoint_loop1 l part v ps0 hl hp hp0 ps (pre ++ [p]) (p + part.length) n (by rw [h0]; simp) h4 hle hl0 (by simp only [List.length_cons] at hn; omega)
      refine ⟨e', a1, a2, ?_⟩
      unfold M.law04_WordseqOccurrencesDisjoint_loop1
      rw [if_pos (by omega), idx_get hlt, hget]
      simp only [Option.bind_some]
      rw [if_neg (by omega), stands_ok l part p n hl hp (by omega) (by omega), h3]
      simp only [Option.bind_some]
      rw [if_neg (by simp), disjoint_loop2 l part p hl hp (by omega) n l.length e (by omega) h1 (by omega) h2]
      simp only [Option.bind_some]
      rw [addC_nat p _ (by omega), addC_one _ (by omega)]
      simp only [Option.bind_some]
      rw [List.length_append] at a3
      exact a3

theorem disjoint_true (l part : List Str) : ∃ n, M.law04_WordseqOccurrencesDisjoint n l part = some true := by
  obtain ⟨N, hN⟩ := long_ok [l, part] (by simp)
  refine ⟨N + 100000, ?_⟩
  unfold M.law04_WordseqOccurrencesDisjoint
  rcases hN (N + 100000) (by omega) with h | ⟨h, hr⟩
  · rw [h]
    simp only [Option.bind_some]
    rw [if_pos trivial]
    simp only [Option.bind_some]
    rw [if_pos trivial, awake_le (by omega)]
    rfl
  · refine long2 hr fun h1 h2 => ?_
    rw [h]
    simp only [Option.bind_some]
    rw [if_neg (by simp)]
    simp only [Option.bind_some]
    by_cases hp : part = []
    · rw [if_pos (by simp [hp]), awake_le (by omega)]
      rfl
    · have hp0 : 0 < part.length := List.length_pos_iff.2 hp
      rw [if_neg (by simp; exact hp)]
      obtain ⟨ps, hf, hps⟩ := find_ok l part (by omega) (by omega)
      obtain ⟨e1, e2⟩ := hps (N + 100000) (by omega)
      have ho : Occ l part 0 ps := by
        rcases hf with ⟨h, _⟩ | ⟨_, h⟩
        · exact absurd h hp
        · exact h
      have hlen : ps.length ≤ l.length := occ_length ho (by omega) hp0
      rw [e1]
      simp only [Option.bind_some]
      obtain ⟨e', a1, a2, a3⟩ := disjoint_loop1 l part false ps (by omega) (by omega) hp0 ps [] 0 (N + 100000) rfl ho (by omega) (by omega) (by omega)
      have hd : decide ((part.length : Int) = 0) = false := by simp; exact hp
      rw [hd]
      have a3' : M.law04_WordseqOccurrencesDisjoint_loop1 l part false (ints ps) (N + 100000) 0 0 = some (.inl (e' : Int)) := a3
      rw [a3']
      simp only [Option.bind_some]
      rw [disjoint_loop3 l part (by omega) (by omega) (N + 100000) l.length e' (by omega) a1 (by omega) a2]
      simp only [Option.bind_some]
      rw [awake_le (by omega)]
      rfl

end Go.Proofs.Ytgicfjjhchohaaa
