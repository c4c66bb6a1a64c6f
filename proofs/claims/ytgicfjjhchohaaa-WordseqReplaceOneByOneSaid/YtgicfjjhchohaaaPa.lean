/-
  What the plain functions of the searches answer: lists and numbers only.
-/
import Derived.Test.YtgicfjjhchohaaaMdl
set_option linter.unusedVariables false
set_option linter.unusedSimpArgs false
namespace Go.Proofs.Ytgicfjjhchohaaa
open Go Go.Dec

theorem addC_nat (i p : Nat) (h : i + p ≤ 4611686018427387904) : addC (i : Int) (p : Int) = some ((i + p : Nat) : Int) := by
  rw [addC_eq (by omega) (by omega)]; simp
theorem addC_one (i : Nat) (h : i + 1 ≤ 4611686018427387904) : addC (i : Int) 1 = some ((i + 1 : Nat) : Int) := by
  rw [addC_eq (by omega) (by omega)]; simp
theorem subC_one (i : Nat) (h : i ≤ 4611686018427387904) (h1 : 1 ≤ i) : subC (i : Int) 1 = some ((i - 1 : Nat) : Int) := by
  rw [subC_eq (by omega) (by omega)]; simp; omega
theorem wrap64_nat (i : Nat) (h : i ≤ 4611686018427387904) : wrap64 (i : Int) = (i : Int) := by unfold wrap64; omega
theorem succ_cast (i : Nat) : (i : Int) + 1 = ((i + 1 : Nat) : Int) := by simp
theorem lt_cast (i j : Nat) : ((i : Int) < (j : Int)) = (i < j) := by simp

theorem idx_get {α : Type} {l : List α} {i : Nat} (h : i < l.length) : idx l (i : Int) = some l[i] := by
  rw [idx_nat, List.getElem?_eq_getElem h]

theorem drop_eq_iff {l m : List Str} {i : Nat} (hl : i < l.length) (hm : i < m.length) : l.drop i = m.drop i ↔ l[i] = m[i] ∧ l.drop (i + 1) = m.drop (i + 1) := by
  rw [List.drop_eq_getElem_cons hl, List.drop_eq_getElem_cons hm, List.cons.injEq]

theorem equal_loop (a b : List Str) (hl : a.length = b.length) : ∀ (k i n : Nat), a.length - i ≤ k → i ≤ a.length → k < n →
    M.slices_Equal_string_string_loop1 a b n (i : Int) = some (if a.drop i = b.drop i then .inl () else .inr false)
  | k, i, 0, _, _, h => by omega
  | k, i, n + 1, hk, hi, hn => by
    unfold M.slices_Equal_string_string_loop1
    by_cases h : i < a.length
    · rw [if_pos (by omega), idx_get h, idx_get (show i < b.length by omega)]
      simp only [Option.bind_some]
      by_cases he : a[i] = b[i]
      · rw [if_neg (by simp [he]), succ_cast, equal_loop a b hl (k - 1) (i + 1) n (by omega) (by omega) (by omega)]
        simp only [drop_eq_iff h (show i < b.length by omega), he, true_and]
      · rw [if_pos (by simp [he]), if_neg (by rw [drop_eq_iff h (by omega)]; exact fun h => he h.1)]
    · rw [if_neg (by omega), List.drop_eq_nil_of_le (by omega), List.drop_eq_nil_of_le (by omega)]
      simp

theorem equal_ok (a b : List Str) (n : Nat) (hn : a.length < n) : M.slices_Equal_string_string n a b = some (decide (a = b)) := by
  unfold M.slices_Equal_string_string
  by_cases h : a.length = b.length
  · have : M.slices_Equal_string_string_loop1 a b n (0 : Int) = some (if a = b then .inl () else .inr false) := by
      have := equal_loop a b h a.length 0 n (by omega) (by omega) hn
      simpa using this
    rw [if_neg (by omega), this]
    by_cases he : a = b <;> simp [he]
  · rw [if_pos (by omega)]
    have : a ≠ b := fun e => h (by rw [e])
    simp [this]

theorem same_loop (a b : List Str) (hl : a.length = b.length) : ∀ (k i n : Nat), a.length - i ≤ k → i ≤ a.length → k < n →
    M.r04_Same_loop1 a b n (i : Int) = some (if a.drop i = b.drop i then .inl () else .inr false)
  | k, i, 0, _, _, h => by omega
  | k, i, n + 1, hk, hi, hn => by
    unfold M.r04_Same_loop1
    by_cases h : i < a.length
    · rw [if_pos (by omega), idx_get h, idx_get (show i < b.length by omega)]
      simp only [Option.bind_some]
      by_cases he : a[i] = b[i]
      · rw [if_neg (by simp [he]), succ_cast, same_loop a b hl (k - 1) (i + 1) n (by omega) (by omega) (by omega)]
        simp only [drop_eq_iff h (show i < b.length by omega), he, true_and]
      · rw [if_pos (by simp [he]), if_neg (by rw [drop_eq_iff h (by omega)]; exact fun h => he h.1)]
    · rw [if_neg (by omega), List.drop_eq_nil_of_le (by omega), List.drop_eq_nil_of_le (by omega)]
      simp

theorem same_ok (a b : List Str) (n : Nat) (hn : a.length < n) : M.r04_Same n a b = some (decide (a = b)) := by
  unfold M.r04_Same
  by_cases h : a.length = b.length
  · have : M.r04_Same_loop1 a b n (0 : Int) = some (if a = b then .inl () else .inr false) := by
      have := same_loop a b h a.length 0 n (by omega) (by omega) hn
      simpa using this
    rw [if_neg (by omega), this]
    by_cases he : a = b <;> simp [he]
  · rw [if_pos (by omega)]
    have : a ≠ b := fun e => h (by rw [e])
    simp [this]

/-- part stands in l at i. -/
def st (l part : List Str) (i : Nat) : Bool := decide (i + part.length ≤ l.length ∧ (l.take (i + part.length)).drop i = part)

theorem st_le {l part : List Str} {i : Nat} (h : st l part i = true) : i + part.length ≤ l.length := (of_decide_eq_true h).1
theorem st_eq {l part : List Str} {i : Nat} (h : st l part i = true) : (l.take (i + part.length)).drop i = part := (of_decide_eq_true h).2

theorem stands_ok (l part : List Str) (i n : Nat) (hl : l.length ≤ 100000) (hp : part.length ≤ 100000) (hi : i ≤ 100000) (hn : l.length < n) :
    M.r04_Stands n l part (i : Int) = some (st l part i) := by
  unfold M.r04_Stands
  rw [subC_eq (by omega) (by omega)]
  simp only [Option.bind_some]
  by_cases h : i + part.length ≤ l.length
  · rw [if_neg (by omega), addC_nat i _ (by omega)]
    simp only [Option.bind_some]
    rw [slc_nat l i _ (by omega) h]
    simp only [Option.bind_some]
    rw [same_ok _ _ n (by simp only [List.length_drop, List.length_take]; omega)]
    simp [st, h]
  · rw [if_pos (by omega)]
    simp [st, h]

/-- The places, from i on, of the disjoint occurrences as a search from the left finds them. -/
inductive Occ (l part : List Str) : Nat → List Nat → Prop
  | done {i : Nat} : i ≤ l.length → (∀ j, i ≤ j → st l part j = false) → Occ l part i []
  | hit {i j : Nat} {ps : List Nat} : i ≤ j → (∀ k, i ≤ k → k < j → st l part k = false) → st l part j = true → Occ l part (j + part.length) ps → Occ l part i (j :: ps)

theorem Occ.back {l part : List Str} {i : Nat} {ps : List Nat} (h : st l part i = false) (k : Occ l part (i + 1) ps) : Occ l part i ps := by
  cases k with
  | done h1 h2 =>
    refine .done (by omega) fun j hj => ?_
    by_cases e : j = i
    · rw [e]; exact h
    · exact h2 j (by omega)
  | hit h1 h2 h3 h4 =>
    refine .hit (by omega) (fun k hk hkj => ?_) h3 h4
    by_cases e : k = i
    · rw [e]; exact h
    · exact h2 k (by omega) hkj

theorem Occ.nil {l part : List Str} {i : Nat} {ps : List Nat} (h : ∀ j, i ≤ j → st l part j = false) (k : Occ l part i ps) : ps = [] := by
  cases k with
  | done => rfl
  | hit h1 h2 h3 h4 => rw [h _ h1] at h3; cases h3

def ints (ps : List Nat) : List Int := ps.map (fun p : Nat => (p : Int))

theorem ints_length (ps : List Nat) : (ints ps).length = ps.length := by simp [ints]

theorem find_both (l part : List Str) (hl : l.length ≤ 100000) (hp : part.length ≤ 100000) (h0 : 0 < part.length) : ∀ (k i : Nat), l.length - i ≤ k → i ≤ l.length →
    ∃ ps, Occ l part i ps ∧ ∀ (n : Nat) (out : List Int), k + l.length + part.length + 2 < n → out.length + l.length ≤ 100000 + i →
      M.wordseq_FindAll_loop1 l part n out (i : Int) = some (out ++ ints ps) ∧ M.r04_Find_loop1 l part n out (i : Int) = some (out ++ ints ps)
  | k, i, hk, hi => by
    have last : ∀ j, l.length < j + part.length → st l part j = false := fun j hj => by
      unfold st
      rw [decide_eq_false_iff_not]
      omega
    by_cases hlen : i < l.length
    · obtain ⟨k, rfl⟩ : ∃ k', k = k' + 1 := ⟨k - 1, by omega⟩
      cases hs : st l part i with
      | true =>
        have hle := st_le hs
        obtain ⟨ps, ho, hps⟩ := find_both l part hl hp h0 k (i + part.length) (by omega) (by omega)
        refine ⟨i :: ps, .hit (Nat.le_refl _) (fun _ _ _ => by omega) hs ho, fun n out hn hout => ?_⟩
        obtain ⟨n, rfl⟩ : ∃ m, n = m + 1 := ⟨n - 1, by omega⟩
        have hps' := hps n (out ++ [(i : Int)]) (by omega) (by simp only [List.length_append, List.length_cons, List.length_nil]; omega)
        have e1 : appC out [(i : Int)] = some (out ++ [(i : Int)]) := appC_eq (by simp only [List.length_cons, List.length_nil]; omega)
        have e2 : out ++ [(i : Int)] ++ ints ps = out ++ ints (i :: ps) := by simp [ints]
        rw [e2] at hps'
        constructor
        · unfold M.wordseq_FindAll_loop1
          simp only [addC_nat i part.length (by omega), Option.bind_some]
          rw [if_pos (by omega), slc_nat l i _ (by omega) hle]
          simp only [Option.bind_some]
          rw [equal_ok _ _ n (by simp only [List.length_drop, List.length_take]; omega), st_eq hs]
          simp only [Option.bind_some]
          rw [if_neg (by simp), e1]
          exact hps'.1
        · unfold M.r04_Find_loop1
          rw [if_pos (by omega), stands_ok l part i n hl hp (by omega) (by omega), hs]
          simp only [Option.bind_some]
          rw [if_pos trivial, e1]
          simp only [Option.bind_some]
          rw [addC_nat i part.length (by omega)]
          exact hps'.2
      | false =>
        obtain ⟨ps, ho, hps⟩ := find_both l part hl hp h0 k (i + 1) (by omega) (by omega)
        refine ⟨ps, ho.back hs, fun n out hn hout => ?_⟩
        obtain ⟨n, rfl⟩ : ∃ m, n = m + 1 := ⟨n - 1, by omega⟩
        have hps' := hps n out (by omega) (by omega)
        constructor
        · unfold M.wordseq_FindAll_loop1
          simp only [addC_nat i part.length (by omega), Option.bind_some]
          by_cases hle : i + part.length ≤ l.length
          · rw [if_pos (by omega), slc_nat l i _ (by omega) hle]
            simp only [Option.bind_some]
            rw [equal_ok _ _ n (by simp only [List.length_drop, List.length_take]; omega)]
            simp only [Option.bind_some]
            have : ¬ (l.take (i + part.length)).drop i = part := fun e => by
              have : st l part i = true := by unfold st; rw [decide_eq_true_iff]; exact ⟨hle, e⟩
              rw [this] at hs; cases hs
            rw [if_pos (by simp [this]), addC_one i (by omega)]
            exact hps'.1
          · rw [if_neg (by omega)]
            have : ps = [] := ho.nil (fun j hj => last j (by omega))
            subst this
            simp [ints]
        · unfold M.r04_Find_loop1
          rw [if_pos (by omega), stands_ok l part i n hl hp (by omega) (by omega), hs]
          simp only [Option.bind_some]
          rw [if_neg (by simp), succ_cast]
          exact hps'.2
    · refine ⟨[], .done hi (fun j hj => last j (by omega)), fun n out hn hout => ?_⟩
      obtain ⟨n, rfl⟩ : ∃ m, n = m + 1 := ⟨n - 1, by omega⟩
      constructor
      · unfold M.wordseq_FindAll_loop1
        simp only [addC_nat i part.length (by omega), Option.bind_some]
        rw [if_neg (by omega)]
        simp [ints]
      · unfold M.r04_Find_loop1
        rw [if_neg (by omega)]
        simp [ints]

/-- The places of the disjoint occurrences. -/
def Fnd (l part : List Str) (ps : List Nat) : Prop := (part = [] ∧ ps = []) ∨ (part ≠ [] ∧ Occ l part 0 ps)

theorem find_ok (l part : List Str) (hl : l.length ≤ 100000) (hp : part.length ≤ 100000) :
    ∃ ps, Fnd l part ps ∧ ∀ n, 2 * l.length + part.length + 2 < n → M.wordseq_FindAll n l part = some (ints ps) ∧ M.r04_Find n l part = some (ints ps) := by
  by_cases h : part = []
  · exact ⟨[], .inl ⟨h, rfl⟩, fun n hn => by simp [M.wordseq_FindAll, M.r04_Find, h, ints]⟩
  · have h0 : 0 < part.length := List.length_pos_iff.2 h
    obtain ⟨ps, ho, hps⟩ := find_both l part hl hp h0 l.length 0 (by omega) (by omega)
    refine ⟨ps, .inr ⟨h, ho⟩, fun n hn => ?_⟩
    obtain ⟨h1, h2⟩ := hps n [] (by omega) (by simp only [List.length_nil]; omega)
    simp only [List.nil_append] at h1 h2
    unfold M.wordseq_FindAll M.r04_Find
    rw [if_neg (by omega), if_neg (by omega), show (0 : Int) = ((0 : Nat) : Int) from rfl, h1, h2]
    simp

theorem Occ.le {l part : List Str} {i : Nat} {ps : List Nat} (h : Occ l part i ps) (hi : i ≤ l.length) : ∀ p ∈ ps, i ≤ p ∧ p + part.length ≤ l.length := by
  induction h with
  | done => intro p hp; cases hp
  | hit h1 h2 h3 h4 ih =>
    intro p hp
    have := st_le h3
    rcases List.mem_cons.1 hp with rfl | hp
    · exact ⟨h1, this⟩
    · have := ih (by omega) p hp
      omega

theorem occ_length {l part : List Str} {i : Nat} {ps : List Nat} (h : Occ l part i ps) (hi : i ≤ l.length) (h0 : 0 < part.length) : ps.length ≤ l.length - i := by
  induction h with
  | done => simp
  | hit h1 h2 h3 h4 ih =>
    have := st_le h3
    have := ih (by omega)
    simp only [List.length_cons]
    omega

theorem long_loop2 (row : List Str) : ∀ (k i n : Nat) (a : Int), row.length - i ≤ k → i ≤ row.length → k < n → ∃ r, M.law04_long_loop2 row n a (i : Int) = some r
  | k, i, 0, _, _, _, h => by omega
  | k, i, n + 1, a, hk, hi, hn => by
    unfold M.law04_long_loop2
    by_cases h : i < row.length
    · rw [if_pos (by omega), idx_get h]
      simp only [Option.bind_some]
      rw [succ_cast]
      exact long_loop2 row (k - 1) (i + 1) n _ (by omega) (by omega) (by omega)
    · rw [if_neg (by omega)]; exact ⟨a, rfl⟩

theorem long_loop1 (rows : List (List Str)) (B : Nat) (hB : ∀ r ∈ rows, r.length ≤ B) : ∀ (k i n : Nat), rows.length - i ≤ k → i ≤ rows.length → rows.length ≤ 100 → k + B + 1 < n →
    (∃ u, M.law04_long_loop1 rows n (i : Int) = some (.inl u) ∧ ∀ r ∈ rows.drop i, r.length ≤ 300) ∨ M.law04_long_loop1 rows n (i : Int) = some (.inr true)
  | k, i, 0, _, _, _, h => by omega
  | k, i, n + 1, hk, hi, hr, hn => by
    unfold M.law04_long_loop1
    by_cases h : i < rows.length
    · rw [if_pos (by omega), idx_get h]
      simp only [Option.bind_some]
      have hrow : rows[i].length ≤ B := hB _ (List.getElem_mem h)
      obtain ⟨r, hr2⟩ := long_loop2 rows[i] rows[i].length 0 n 0 (by omega) (by omega) (by omega)
      rw [show (0 : Int) = ((0 : Nat) : Int) from rfl] at hr2
      rw [show (0 : Int) = ((0 : Nat) : Int) from rfl, hr2]
      simp only [Option.bind_some]
      by_cases h300 : (300 : Int) < (rows[i].length : Int)
      · rw [if_pos h300, if_pos trivial]; exact .inr rfl
      · rw [if_neg h300]
        by_cases h3 : (3000 : Int) < r
        · rw [if_pos h3]; exact .inr rfl
        · rw [if_neg h3, succ_cast, wrap64_nat _ (by omega)]
          rcases long_loop1 rows B hB (k - 1) (i + 1) n (by omega) (by omega) hr (by omega) with ⟨u, h1, h2⟩ | h1
          · refine .inl ⟨u, h1, fun r hr => ?_⟩
            rw [List.drop_eq_getElem_cons h] at hr
            rcases List.mem_cons.1 hr with rfl | hr
            · omega
            · exact h2 r hr
          · exact .inr h1
    · rw [if_neg (by omega)]
      exact .inl ⟨(), rfl, fun r hr => by rw [List.drop_eq_nil_of_le (by omega)] at hr; cases hr⟩

theorem long_ok (rows : List (List Str)) (hr : rows.length ≤ 100) : ∃ N, ∀ n, N ≤ n → M.law04_long n rows = some true ∨ (M.law04_long n rows = some false ∧ ∀ r ∈ rows, r.length ≤ 300) := by
  obtain ⟨B, hB⟩ : ∃ B, ∀ r ∈ rows, r.length ≤ B := by
    clear hr
    induction rows with
    | nil => exact ⟨0, fun r hr => by cases hr⟩
    | cons x xs ih =>
      obtain ⟨B, hB⟩ := ih
      refine ⟨B + x.length, fun r hr => ?_⟩
      rcases List.mem_cons.1 hr with rfl | hr
      · omega
      · have := hB r hr; omega
  refine ⟨rows.length + B + 2, fun n hn => ?_⟩
  unfold M.law04_long
  rw [show (0 : Int) = ((0 : Nat) : Int) from rfl]
  rcases long_loop1 rows B hB rows.length 0 n (by omega) (by omega) hr (by omega) with ⟨u, h1, h2⟩ | h1
  · rw [h1]; exact .inr ⟨rfl, by simpa using h2⟩
  · rw [h1]; exact .inl rfl

theorem awake_ok (k : Nat) : M.law04_awake (k + 20) = some true := rfl

theorem awake_le {n : Nat} (h : 20 ≤ n) : M.law04_awake n = some true := by
  obtain ⟨k, rfl⟩ : ∃ k, n = k + 20 := ⟨n - 20, by omega⟩
  exact awake_ok k

end Go.Proofs.Ytgicfjjhchohaaa
