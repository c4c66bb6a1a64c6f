/-
  Replacing one by one, from the last place to the first, is replacing all: lists and numbers only.
-/
import Derived.Test.YtgicfjjhchohaaaPc
set_option linter.unusedVariables false
set_option linter.unusedSimpArgs false
namespace Go.Proofs.Ytgicfjjhchohaaa
open Go Go.Dec

theorem st_same {l l' part : List Str} {m j : Nat} (hm : m ≤ l.length) (hm' : m ≤ l'.length) (h : l.take m = l'.take m) (hj : j + part.length ≤ m) : st l part j = st l' part j := by
  have e : l.take (j + part.length) = l'.take (j + part.length) := by
    have h1 : (l.take m).take (j + part.length) = l.take (j + part.length) := by rw [List.take_take, Nat.min_eq_left hj]
    have h2 : (l'.take m).take (j + part.length) = l'.take (j + part.length) := by rw [List.take_take, Nat.min_eq_left hj]
    rw [← h1, ← h2, h]
  unfold st
  rw [e]
  have a1 : j + part.length ≤ l.length := by omega
  have a2 : j + part.length ≤ l'.length := by omega
  simp [a1, a2]

/-- Two lists that agree up to m have the same places up to m. -/
theorem occ_prefix {l l' part : List Str} {m : Nat} (hm : m ≤ l.length) (hm' : m ≤ l'.length) (h : l.take m = l'.take m) : ∀ (t u : List Nat) (i : Nat) (rs : List Nat), Occ l part i (t ++ u) → Occ l' part i rs → (∀ x ∈ t, x + part.length ≤ m) → ∃ u', rs = t ++ u'
  | [], u, i, rs, _, _, _ => ⟨rs, rfl⟩
  | x :: t, u, i, rs, ho, ho', hx => by
    have hxm := hx x (by simp)
    cases ho with
    | hit h1 h2 h3 h4 =>
      have hx' : st l' part x = true := by rw [← st_same hm hm' h hxm]; exact h3
      cases ho' with
      | done k1 k2 => rw [k2 x h1] at hx'; cases hx'
      | hit k1 k2 k3 k4 =>
        rename_i j rs
        have : j = x := by
          rcases Nat.lt_trichotomy j x with e | e | e
          · have e1 := h2 j k1 e
            rw [st_same hm hm' h (by omega)] at e1
            rw [e1] at k3; cases k3
          · exact e
          · rw [k2 x h1 e] at hx'; cases hx'
        subst this
        obtain ⟨u', hu⟩ := occ_prefix hm hm' h t u _ rs h4 k4 (fun y hy => hx y (by simp [hy]))
        exact ⟨u', by rw [hu]; rfl⟩

theorem drop_split {l : List Str} {i j : Nat} (h : i ≤ j) : l.drop i = (l.take j).drop i ++ l.drop j := by
  rw [List.drop_take, show l.drop j = (l.drop i).drop (j - i) by rw [List.drop_drop]; congr 1; omega]
  exact (List.take_append_drop _ _).symm

theorem rep_from {l fresh : List Str} {p i j : Nat} {cs : List Nat} (hij : i ≤ j) (h : Gap p l.length j cs) : rep l fresh p i cs = (l.take j).drop i ++ rep l fresh p j cs := by
  cases h with
  | nil h => simp only [rep]; exact drop_split hij
  | cons h0 h1 h2 h3 =>
    rename_i c cs
    simp only [rep]
    have : (l.take c).drop i = (l.take j).drop i ++ (l.take c).drop j := by
      rw [drop_split (l := l.take c) hij, List.take_take, Nat.min_eq_left h1]
    rw [this]; simp

theorem Gap.tail {p L i c : Nat} {cs : List Nat} (h : Gap p L i (c :: cs)) : 0 < p ∧ i ≤ c ∧ c + p ≤ L ∧ Gap p L (c + p) cs := by
  cases h with
  | cons h0 h1 h2 h3 => exact ⟨h0, h1, h2, h3⟩

theorem Gap.weak {p L i j : Nat} {cs : List Nat} (h : Gap p L j cs) (hij : i ≤ j) : Gap p L i cs := by
  cases h with
  | nil h => exact .nil (by omega)
  | cons h0 h1 h2 h3 => exact .cons h0 (by omega) h2 h3

theorem Gap.split {p L : Nat} {c : Nat} {cs : List Nat} : ∀ {t : List Nat} {i : Nat}, Gap p L i (t ++ c :: cs) → i ≤ c ∧ Gap p L c (c :: cs) ∧ ∀ x ∈ t, x + p ≤ c
  | [], i, h => by
    obtain ⟨h0, h1, h2, h3⟩ := Gap.tail h
    exact ⟨h1, .cons h0 (Nat.le_refl _) h2 h3, fun x hx => by cases hx⟩
  | y :: t, i, h => by
    obtain ⟨h0, h1, h2, h3⟩ := Gap.tail h
    obtain ⟨k1, k2, k3⟩ := Gap.split h3
    refine ⟨by omega, k2, fun x hx => ?_⟩
    rcases List.mem_cons.1 hx with rfl | hx
    · exact k1
    · exact k3 x hx

theorem rep_same {l : List Str} {p : Nat} {fresh : List Str} : ∀ (cs : List Nat) (i : Nat), Gap p l.length i cs → (∀ c ∈ cs, (l.take (c + p)).drop c = fresh) → rep l fresh p i cs = l.drop i
  | [], i, _, _ => rfl
  | c :: cs, i, h, hf => by
    obtain ⟨h0, h1, h2, h3⟩ := Gap.tail h
    simp only [rep]
    rw [rep_same cs (c + p) h3 (fun d hd => hf d (by simp [hd]))]
    conv => lhs; lhs; rhs; rw [← hf c (by simp)]
    rw [List.append_assoc, ← drop_split (by omega), ← drop_split h1]

/-- One step: of the list in which the places behind t are replaced, the place behind t is the next. -/
theorem one_step {l old fresh : List Str} {t cs : List Nat} {c : Nat} (hf : Fnd l old (t ++ c :: cs)) (hl : l.length ≤ 60) (hfr : fresh.length ≤ 20) (hp : old.length ≤ 300) (n : Nat) (hn : 200002 < n) :
    M.wordseq_Replace n (rep l fresh old.length 0 cs) old fresh ((t.length + 1 : Nat) : Int) = some (rep l fresh old.length 0 (c :: cs), 1) := by
  have hp0 : 0 < old.length := hf.pos (c := c) (by simp)
  have hg := hf.gap
  obtain ⟨k1, k2, k3⟩ := Gap.split hg
  obtain ⟨_, _, k4, k5⟩ := Gap.tail k2
  have hone : rep l fresh old.length 0 cs = l.take (c + old.length) ++ rep l fresh old.length (c + old.length) cs := by
    rw [rep_from (Nat.zero_le _) k5]; simp
  have htl : (l.take (c + old.length)).length = c + old.length := by rw [List.length_take]; omega
  have hlen := rep_length l fresh old.length cs 0 (k5.weak (Nat.zero_le _))
  have hcl := k5.length
  have hmul : cs.length * fresh.length ≤ 60 * 20 := Nat.mul_le_mul (by omega) hfr
  obtain ⟨rs, hfr', hrs⟩ := find_ok (rep l fresh old.length 0 cs) old (by omega) (by omega)
  obtain ⟨e1, _⟩ := hrs n (by omega)
  have ho : Occ l old 0 ((t ++ [c]) ++ cs) := by
    rcases hf with ⟨h, _⟩ | ⟨_, h⟩
    · rw [h] at hp0; simp at hp0
    · simpa using h
  have ho' : Occ (rep l fresh old.length 0 cs) old 0 rs := by
    rcases hfr' with ⟨h, _⟩ | ⟨_, h⟩
    · rw [h] at hp0; simp at hp0
    · exact h
  have hml : c + old.length ≤ (rep l fresh old.length 0 cs).length := by rw [hone, List.length_append, htl]; omega
  obtain ⟨u', hu⟩ := occ_prefix k4 hml (by rw [hone, List.take_append_of_le_length (by omega), List.take_take, Nat.min_self]) (t ++ [c]) cs 0 rs ho ho' (fun x hx => by
    rcases List.mem_append.1 hx with hx | hx
    · have := k3 x hx; omega
    · rw [List.mem_singleton.1 hx]; omega)
  have hcho : cho rs ((t.length + 1 : Nat) : Int) = [c] := by
    have hlt : t.length < rs.length := by rw [hu]; simp
    rw [cho_in (by omega) (by simpa using hlt)]
    simp [hu]
  rw [replace_ok hfr' e1 fresh _ (by omega) (by omega) (by omega) (by omega), hcho]
  have hrep : rep (rep l fresh old.length 0 cs) fresh old.length 0 [c] = rep l fresh old.length 0 (c :: cs) := by
    simp only [rep, List.drop_zero]
    congr 1
    · congr 1
      rw [hone, List.take_append_of_le_length (by omega), List.take_take, Nat.min_eq_left (by omega)]
    · rw [hone, List.drop_left' htl]
  rw [hrep]
  rfl

theorem one_loop {l old fresh : List Str} {ps : List Nat} (hf : Fnd l old ps) (hl : l.length ≤ 60) (hfr : fresh.length ≤ 20) (hp : old.length ≤ 300) : ∀ (k : Nat) (t cs : List Nat) (n : Nat), ps = t ++ cs → t.length = k → k + 200003 < n →
    M.law04_WordseqReplaceOneByOne_loop1 old fresh n (rep l fresh old.length 0 cs) (k : Int) = some (.inl (rep l fresh old.length 0 ps)) := by
  intro k
  induction k with
  | zero =>
    intro t cs n h1 h2 hn
    obtain ⟨n, rfl⟩ : ∃ m, n = m + 1 := ⟨n - 1, by omega⟩
    have : t = [] := List.eq_nil_of_length_eq_zero h2
    subst this
    unfold M.law04_WordseqReplaceOneByOne_loop1
    rw [if_neg (by omega), h1]
    rfl
  | succ k ih =>
    intro t cs n h1 h2 hn
    obtain ⟨n, rfl⟩ : ∃ m, n = m + 1 := ⟨n - 1, by omega⟩
    obtain ⟨t', c, rfl⟩ : ∃ t' c, t = t' ++ [c] := by
      have hne : t ≠ [] := fun e => by rw [e] at h2; simp at h2
      exact ⟨t.dropLast, t.getLast hne, (List.dropLast_concat_getLast hne).symm⟩
    have h3 : t'.length = k := by simp at h2; exact h2
    have h4 : ps = t' ++ c :: cs := by rw [h1]; simp
    unfold M.law04_WordseqReplaceOneByOne_loop1
    have hst := one_step (l := l) (old := old) (fresh := fresh) (t := t') (c := c) (cs := cs) (by rw [← h4]; exact hf) hl hfr hp n (by omega)
    rw [h3] at hst
    have hk : k ≤ 100000 := by
      have := hf.gap.length
      rw [h4] at this
      simp at this
      omega
    rw [if_pos (by omega), hst, Option.bind_some]
    dsimp only
    rw [if_neg (by simp), subC_one _ (by omega) (by omega), Option.bind_some]
    have := ih t' (c :: cs) n h4 h3 (by omega)
    simpa using this

theorem onebyone_true (l old fresh : List Str) : ∃ n, M.law04_WordseqReplaceOneByOne n l old fresh = some true := by
  obtain ⟨N, hN⟩ := long_ok [l, old, fresh] (by simp)
  refine ⟨N + 300000, ?_⟩
  generalize hM : N + 300000 = m
  have hm : 300000 ≤ m := by omega
  unfold M.law04_WordseqReplaceOneByOne
  rcases hN m (by omega) with h | ⟨h, hr⟩
  · rw [h, Option.bind_some, if_tt, Option.bind_some, if_tt, awake_le (by omega)]
    rfl
  · refine long3 hr fun h1 h2 h3 => ?_
    rw [h, Option.bind_some, if_neg (by simp)]
    by_cases hl : (60 : Int) < (l.length : Int)
    · rw [if_pos hl, Option.bind_some, if_tt, awake_le (by omega)]
      rfl
    · rw [if_neg hl, Option.bind_some]
      by_cases hf : (20 : Int) < (fresh.length : Int)
      · rw [if_pos (by simpa using hf), awake_le (by omega)]
        rfl
      · rw [if_neg (by simpa using hf)]
        obtain ⟨ps, hfd, hps⟩ := find_ok l old (by omega) (by omega)
        obtain ⟨e1, e2⟩ := hps m (by omega)
        have hg := hfd.gap
        have hlp := hg.length
        have c0 : cho ps 0 = ps := by simp [cho]
        have r1 := replace_ok hfd e1 fresh 0 (by omega) (by omega) (by omega) (by omega)
        have r2 := replace_ok hfd e1 old 0 (by omega) (by omega) (by omega) (by omega)
        rw [c0] at r1 r2
        rw [rep_same ps 0 hg (fun c hc => st_eq (hfd.st c hc)), List.drop_zero] at r2
        have hlen : (rep l fresh old.length 0 ps).length ≤ 130000 := rep_short hg h1 (by omega)
        have hloop := one_loop (fresh := fresh) hfd (by omega) (by omega) h2 ps.length ps [] m (by simp) rfl (by omega)
        have hloop' : M.law04_WordseqReplaceOneByOne_loop1 old fresh m l (ps.length : Int) = some (.inl (rep l fresh old.length 0 ps)) := by simpa [rep] using hloop
        unfold M.wordseq_Count
        rw [r1, Option.bind_some, appC_eq (by simp only [List.length_nil]; omega), Option.bind_some, List.nil_append, hloop', Option.bind_some, r2, e1]
        simp only [Option.bind_some, ints_length]
        rw [if_pos trivial, if_pos trivial, same_ok _ _ m (by omega), Option.bind_some, if_pos (by simp), same_ok _ _ m (by omega), Option.bind_some, if_pos (by simp), awake_le (by omega)]
        rfl

end Go.Proofs.Ytgicfjjhchohaaa
