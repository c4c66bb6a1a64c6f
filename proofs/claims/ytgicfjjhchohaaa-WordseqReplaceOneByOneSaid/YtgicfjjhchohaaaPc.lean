/-
  What the plain functions of replacing and inserting answer, and their laws.
-/
import Derived.Test.YtgicfjjhchohaaaPb
set_option linter.unusedVariables false
set_option linter.unusedSimpArgs false
namespace Go.Proofs.Ytgicfjjhchohaaa
open Go Go.Dec

theorem if_tt {α : Type} (a b : α) : (if true = true then a else b) = a := rfl

/-- Places that rise by at least p, from i on, each with its p elements inside L. -/
inductive Gap (p L : Nat) : Nat → List Nat → Prop
  | nil {i : Nat} : i ≤ L → Gap p L i []
  | cons {i c : Nat} {cs : List Nat} : 0 < p → i ≤ c → c + p ≤ L → Gap p L (c + p) cs → Gap p L i (c :: cs)

theorem Gap.le {p L i : Nat} {cs : List Nat} (h : Gap p L i cs) : i ≤ L := by
  cases h with
  | nil h => exact h
  | cons h0 h1 h2 h3 => omega

theorem Gap.low {p L i : Nat} {cs : List Nat} (h : Gap p L i cs) : ∀ c ∈ cs, i ≤ c := by
  induction h with
  | nil => intro c hc; cases hc
  | cons h0 h1 h2 h3 ih =>
    intro c hc
    rcases List.mem_cons.1 hc with rfl | hc
    · exact h1
    · have := ih c hc; omega

theorem Gap.length {p L i : Nat} {cs : List Nat} (h : Gap p L i cs) : cs.length ≤ L - i := by
  induction h with
  | nil => simp
  | cons h0 h1 h2 h3 ih => simp only [List.length_cons]; omega

theorem Occ.gap {l part : List Str} (h0 : 0 < part.length) {i : Nat} {ps : List Nat} (h : Occ l part i ps) : Gap part.length l.length i ps := by
  induction h with
  | done h _ => exact .nil h
  | hit h1 h2 h3 h4 ih => exact .cons h0 h1 (st_le h3) ih

theorem Occ.st {l part : List Str} {i : Nat} {ps : List Nat} (h : Occ l part i ps) : ∀ c ∈ ps, Proofs.Ytgicfjjhchohaaa.st l part c = true := by
  induction h with
  | done => intro c hc; cases hc
  | hit h1 h2 h3 h4 ih =>
    intro c hc
    rcases List.mem_cons.1 hc with rfl | hc
    · exact h3
    · exact ih c hc

theorem Fnd.gap {l part : List Str} {ps : List Nat} (h : Fnd l part ps) : Gap part.length l.length 0 ps := by
  rcases h with ⟨_, rfl⟩ | ⟨hp, ho⟩
  · exact .nil (by omega)
  · exact ho.gap (List.length_pos_iff.2 hp)

theorem Fnd.st {l part : List Str} {ps : List Nat} (h : Fnd l part ps) : ∀ c ∈ ps, Proofs.Ytgicfjjhchohaaa.st l part c = true := by
  rcases h with ⟨_, rfl⟩ | ⟨hp, ho⟩
  · intro c hc; cases hc
  · exact ho.st

theorem Fnd.pos {l part : List Str} {ps : List Nat} (h : Fnd l part ps) {c : Nat} (hc : c ∈ ps) : 0 < part.length := by
  rcases h with ⟨_, rfl⟩ | ⟨hp, ho⟩
  · cases hc
  · exact List.length_pos_iff.2 hp

/-- The chosen places. -/
def cho (ps : List Nat) (nth : Int) : List Nat := if nth = 0 then ps else if nth < 0 then [] else (ps.drop (nth.toNat - 1)).take 1

theorem cho_mem {ps : List Nat} {nth : Int} : ∀ c ∈ cho ps nth, c ∈ ps := by
  intro c hc
  unfold cho at hc
  split at hc
  · exact hc
  · split at hc
    · cases hc
    · exact List.mem_of_mem_drop (List.mem_of_mem_take hc)

theorem cho_gap {l part : List Str} {ps : List Nat} (h : Fnd l part ps) (nth : Int) : Gap part.length l.length 0 (cho ps nth) := by
  have hm := cho_mem (ps := ps) (nth := nth)
  unfold cho at hm ⊢
  split
  · exact h.gap
  · split
    · exact .nil (by omega)
    · rename_i h1 h2
      rw [if_neg h1, if_neg h2] at hm
      match he : (ps.drop (nth.toNat - 1)).take 1, hm with
      | [], _ => exact .nil (by omega)
      | [c], hm =>
        have hc := hm c (by simp)
        have := st_le (h.st c hc)
        exact .cons (h.pos hc) (by omega) this (.nil this)
      | _ :: _ :: _, _ =>
        have := congrArg List.length he
        simp only [List.length_take, List.length_cons] at this
        omega

theorem ints_get {ps : List Nat} {k : Nat} (h : k < ps.length) : (ints ps)[k]? = some ((ps[k] : Nat) : Int) := by
  simp [ints, h]

theorem drop_take_one {α : Type} {l : List α} {k : Nat} (h : k < l.length) : (l.drop k).take 1 = [l[k]] := by
  rw [List.drop_eq_getElem_cons h]; rfl

theorem cho_gt {ps : List Nat} {nth : Int} (h0 : 0 < nth) (h : (ps.length : Int) < nth) : cho ps nth = [] := by
  unfold cho
  rw [if_neg (by omega), if_neg (by omega), List.drop_eq_nil_of_le (by omega)]; rfl
theorem cho_in {ps : List Nat} {nth : Int} (h0 : 0 < nth) (h : nth.toNat - 1 < ps.length) : cho ps nth = [ps[nth.toNat - 1]] := by
  unfold cho
  rw [if_neg (by omega), if_neg (by omega), drop_take_one h]

theorem chosen_ok {l part : List Str} {ps : List Nat} {n : Nat} (h : M.wordseq_FindAll n l part = some (ints ps)) (nth : Int) (hs : ps.length ≤ 100000) : M.wordseq_chosen n l part nth = some (ints (cho ps nth)) := by
  unfold M.wordseq_chosen
  rw [h, Option.bind_some]
  by_cases h1 : nth = 0
  · rw [if_pos h1, h1]; rfl
  · rw [if_neg h1]
    by_cases h2 : nth < 0
    · rw [if_pos h2, if_tt]
      simp [cho, h1, h2, ints]
    · rw [if_neg h2, ints_length]
      by_cases h3 : (ps.length : Int) < nth
      · rw [if_pos h3, cho_gt (by omega) h3]; rfl
      · have hk : nth.toNat - 1 < ps.length := by omega
        rw [if_neg h3, subC_eq (by omega) (by omega), Option.bind_some, cho_in (by omega) hk]
        unfold slc
        rw [if_pos (by rw [ints_length]; omega), Option.bind_some]
        congr 1
        have e1 : (nth - 1).toNat = nth.toNat - 1 := by omega
        have e2 : nth.toNat = nth.toNat - 1 + 1 := by omega
        rw [e1, List.drop_take, show nth.toNat - (nth.toNat - 1) = 1 by omega]
        rw [drop_take_one (by rw [ints_length]; exact hk)]
        simp [ints]

theorem chosen_ref {ps : List Nat} (nth : Int) (hs : ps.length ≤ 100000) : M.r04_chosen (ints ps) nth = some (ints (cho ps nth)) := by
  unfold M.r04_chosen
  by_cases h1 : nth = 0
  · rw [if_pos h1, h1]; rfl
  · rw [if_neg h1]
    by_cases h2 : nth < 0
    · rw [if_pos (by omega), if_tt]
      simp [cho, h1, h2, ints]
    · rw [if_neg (by omega), ints_length]
      by_cases h3 : (ps.length : Int) < nth
      · rw [if_pos h3, cho_gt (by omega) h3]; rfl
      · have hk : nth.toNat - 1 < ps.length := by omega
        rw [if_neg h3, subC_eq (by omega) (by omega), Option.bind_some, cho_in (by omega) hk]
        unfold idx
        rw [if_pos (by omega)]
        have e1 : (nth - 1).toNat = nth.toNat - 1 := by omega
        rw [e1, ints_get hk]
        rfl

/-- l from i on, with fresh in place of the p elements at each of the places. -/
def rep (l fresh : List Str) (p : Nat) : Nat → List Nat → List Str
  | i, [] => l.drop i
  | i, c :: cs => (l.take c).drop i ++ fresh ++ rep l fresh p (c + p) cs

theorem rep_length (l fresh : List Str) (p : Nat) : ∀ (cs : List Nat) (i : Nat), Gap p l.length i cs → (rep l fresh p i cs).length ≤ (l.length - i) + cs.length * fresh.length
  | [], i, _ => by simp [rep]
  | c :: cs, i, h => by
    cases h with
    | cons h0 h1 h2 h3 =>
      have := rep_length l fresh p cs (c + p) h3
      simp only [rep, List.length_append, List.length_drop, List.length_take, List.length_cons, Nat.succ_mul]
      omega

theorem take_drop_cons {l : List Str} {i c : Nat} (h : i < c) (hc : c ≤ l.length) : (l.take c).drop i = l[i] :: (l.take c).drop (i + 1) := by
  rw [List.drop_eq_getElem_cons (by rw [List.length_take]; omega)]
  simp

theorem rep_step {l fresh : List Str} {p i : Nat} {cs : List Nat} (hi : i < l.length) (h : Gap p l.length (i + 1) cs) : rep l fresh p i cs = l[i] :: rep l fresh p (i + 1) cs := by
  cases h with
  | nil h => simp only [rep]; rw [List.drop_eq_getElem_cons hi]
  | cons h0 h1 h2 h3 =>
    simp only [rep]
    rw [take_drop_cons (by omega) (by omega)]
    simp

theorem each_loop (l part fresh : List Str) (places : List Nat) (does : List Str → Option (List Str)) (hl : l.length ≤ 100000) (hf : fresh.length ≤ 100000) (hp : part.length ≤ 100000) (hpl : places.length ≤ 100000)
    (hd : ∀ c ∈ places, does ((l.take (c + part.length)).drop c) = some fresh) : ∀ (cs pre : List Nat) (i n : Nat) (out : List Str), places = pre ++ cs → Gap part.length l.length i cs → cs.length < n → out.length + cs.length * fresh.length + (l.length - i) ≤ 200000000000 →
    ∃ out' i', i' ≤ l.length ∧ M.wordseq_each_loop1 l part (ints places) does n out (i : Int) (pre.length : Int) = some (out', (i' : Int)) ∧ out' ++ l.drop i' = out ++ rep l fresh part.length i cs ∧ out'.length ≤ 200000000000 := by
  intro cs
  induction cs with
  | nil =>
    intro pre i n out h0 hg hn hb
    obtain ⟨n, rfl⟩ : ∃ m, n = m + 1 := ⟨n - 1, by omega⟩
    refine ⟨out, i, hg.le, ?_, rfl, by simp only [List.length_nil] at hb; omega⟩
    unfold M.wordseq_each_loop1
    rw [if_neg (by rw [ints_length, h0]; simp)]
  | cons c cs ih =>
    intro pre i n out h0 hg hn hb
    obtain ⟨n, rfl⟩ : ∃ m, n = m + 1 := ⟨n - 1, by omega⟩
    cases hg with
    | cons hp0 h1 h2 h3 =>
      have hlt : pre.length < (ints places).length := by rw [ints_length, h0]; simp
      have hget : (ints places)[pre.length] = (c : Int) := by simp [ints, h0]
      have hlen1 : ((l.take c).drop i).length = c - i := by simp only [List.length_drop, List.length_take]; omega
      simp only [List.length_cons, Nat.succ_mul] at hb hn
      obtain ⟨out', i', a1, a2, a3, a4⟩ := ih (pre ++ [c]) (c + part.length) n (out ++ (l.take c).drop i ++ fresh) (by rw [h0]; simp) h3 (by omega) (by simp only [List.length_append, hlen1]; omega)
      refine ⟨out', i', a1, ?_, ?_, a4⟩
      · unfold M.wordseq_each_loop1
        rw [if_pos (by omega), idx_get hlt, hget, Option.bind_some, slc_nat l i c (by omega) (by omega), Option.bind_some, appC_eq (by rw [hlen1]; omega), Option.bind_some,
          addC_nat c _ (by omega), Option.bind_some, slc_nat l c _ (by omega) h2, Option.bind_some, hd c (by rw [h0]; simp), Option.bind_some,
          appC_eq (by rw [List.length_append, hlen1]; omega), Option.bind_some, succ_cast]
        rw [List.length_append] at a2
        exact a2
      · rw [a3]; simp [rep]

theorem each_ok (l part fresh : List Str) (places : List Nat) (does : List Str → Option (List Str)) (hl : l.length ≤ 100000) (hf : fresh.length ≤ 100000) (hp : part.length ≤ 100000) (hpl : places.length ≤ 100000)
    (hd : ∀ c ∈ places, does ((l.take (c + part.length)).drop c) = some fresh) (hg : Gap part.length l.length 0 places) (n : Nat) (hn : places.length < n) :
    M.wordseq_each n l part (ints places) does = some (rep l fresh part.length 0 places, (places.length : Int)) := by
  have hm : places.length * fresh.length ≤ 100000 * 100000 := Nat.mul_le_mul hpl hf
  obtain ⟨out', i', a1, a2, a3, a4⟩ := each_loop l part fresh places does hl hf hp hpl hd places [] 0 n [] rfl hg hn (by simp only [List.length_nil]; omega)
  have a2' : M.wordseq_each_loop1 l part (ints places) does n [] 0 0 = some (out', (i' : Int)) := a2
  unfold M.wordseq_each
  rw [a2', Option.bind_some]
  dsimp only
  unfold slcLo
  rw [if_pos (by omega), Option.bind_some]
  simp only [Int.toNat_natCast]
  rw [appC_eq (by simp only [List.length_drop]; omega), Option.bind_some, a3, ints_length]
  rfl

theorem replace_ok {l old : List Str} {ps : List Nat} {n : Nat} (hf : Fnd l old ps) (h : M.wordseq_FindAll n l old = some (ints ps)) (fresh : List Str) (nth : Int) (hl : l.length ≤ 100000) (hp : old.length ≤ 100000) (hfr : fresh.length ≤ 100000) (hn : 100000 < n) :
    M.wordseq_Replace n l old fresh nth = some (rep l fresh old.length 0 (cho ps nth), ((cho ps nth).length : Int)) := by
  have hs : ps.length ≤ 100000 := Nat.le_trans hf.gap.length (by omega)
  have hs2 : (cho ps nth).length ≤ 100000 := Nat.le_trans (cho_gap hf nth).length (by omega)
  unfold M.wordseq_Replace
  rw [chosen_ok h nth hs, Option.bind_some, each_ok l old fresh (cho ps nth) _ hl hfr hp hs2 (fun c hc => rfl) (cho_gap hf nth) n (by omega)]
  rfl

theorem in_loop (cs : List Nat) (q : Nat) : ∀ (n i : Nat), i ≤ cs.length → cs.length - i < n →
    M.r04_in_loop1 (ints cs) (q : Int) n (i : Int) = some (if q ∈ cs.drop i then .inr true else .inl ()) := by
  intro n
  induction n with
  | zero => intro i _ h; omega
  | succ n ih =>
    intro i hi hn
    unfold M.r04_in_loop1
    by_cases h : i < cs.length
    · have hlt : i < (ints cs).length := by rw [ints_length]; exact h
      have hget : (ints cs)[i] = ((cs[i] : Nat) : Int) := by simp [ints]
      rw [if_pos (by omega), idx_get hlt, hget, Option.bind_some]
      rw [List.drop_eq_getElem_cons h]
      by_cases he : cs[i] = q
      · rw [if_pos (by omega), if_pos (by rw [he]; simp)]
      · rw [if_neg (by omega), succ_cast, ih (i + 1) (by omega) (by omega)]
        have : (q ∈ cs[i] :: cs.drop (i + 1)) ↔ q ∈ cs.drop (i + 1) := by
          rw [List.mem_cons]
          exact ⟨fun h => h.resolve_left (fun e => he e.symm), .inr⟩
        simp only [this]
    · rw [if_neg (by rw [ints_length]; omega), List.drop_eq_nil_of_le (by omega)]
      simp

theorem in_ok (cs : List Nat) (q n : Nat) (hn : cs.length < n) : M.r04_in n (ints cs) (q : Int) = some (decide (q ∈ cs)) := by
  have h := in_loop cs q n 0 (by omega) (by omega)
  have h' : M.r04_in_loop1 (ints cs) (q : Int) n 0 = some (if q ∈ cs then .inr true else .inl ()) := by simpa using h
  unfold M.r04_in
  rw [h', Option.bind_some]
  by_cases hq : q ∈ cs <;> simp [hq]

theorem ref_loop (l old fresh : List Str) (chosen : List Nat) (hl : l.length ≤ 100000) (hp : old.length ≤ 100000) (hf : fresh.length ≤ 100000) : ∀ (n i : Nat) (cs : List Nat) (out : List Str), Gap old.length l.length i cs → (∀ q, i ≤ q → (q ∈ chosen ↔ q ∈ cs)) →
    (l.length - i) + chosen.length + 1 < n → out.length + cs.length * fresh.length + (l.length - i) ≤ 200000000000 →
    M.r04_Replace_loop1 l old fresh (ints chosen) n out (i : Int) = some (out ++ rep l fresh old.length i cs) := by
  intro n
  induction n with
  | zero => intro i cs out _ _ h; omega
  | succ n ih =>
    intro i cs out hg hq hn hb
    unfold M.r04_Replace_loop1
    by_cases h : i < l.length
    · rw [if_pos (by omega), in_ok chosen i n (by omega), Option.bind_some]
      by_cases hi : i ∈ cs
      · rw [if_pos (by rw [decide_eq_true_iff]; exact (hq i (Nat.le_refl _)).2 hi)]
        cases hg with
        | nil => cases hi
        | cons h0 h1 h2 h3 =>
          rename_i c cs
          have hc : i = c := by
            rcases List.mem_cons.1 hi with e | e
            · exact e
            · have := h3.low i e; omega
          subst hc
          simp only [List.length_cons, Nat.succ_mul] at hb
          rw [appC_eq (by omega), Option.bind_some, subC_eq (by omega) (by omega), Option.bind_some, addC_eq (by omega) (by omega), Option.bind_some, addC_eq (by omega) (by omega), Option.bind_some]
          rw [show (i : Int) + ((old.length : Int) - 1) + 1 = ((i + old.length : Nat) : Int) by omega]
          rw [ih (i + old.length) cs (out ++ fresh) h3 (fun q hqi => ?_) (by omega) (by rw [List.length_append]; omega)]
          · simp only [rep]
            rw [List.drop_eq_nil_of_le (by rw [List.length_take]; omega)]
            simp
          · rw [hq q (by omega), List.mem_cons]
            exact ⟨fun h => h.resolve_left (by omega), .inr⟩
      · rw [if_neg (by rw [decide_eq_true_iff]; exact fun h => hi ((hq i (Nat.le_refl _)).1 h)), idx_get h, Option.bind_some, appC_eq (by simp only [List.length_cons, List.length_nil]; omega), Option.bind_some, succ_cast]
        have hg' : Gap old.length l.length (i + 1) cs := by
          cases hg with
          | nil => exact .nil (by omega)
          | cons h0 h1 h2 h3 =>
            rename_i c cs
            have : i ≠ c := fun e => hi (by rw [e]; simp)
            exact .cons h0 (by omega) h2 h3
        rw [ih (i + 1) cs (out ++ [l[i]]) hg' (fun q hqi => hq q (by omega)) (by omega) (by simp only [List.length_append, List.length_cons, List.length_nil]; omega)]
        rw [rep_step h hg']
        simp
    · rw [if_neg (by omega)]
      cases hg with
      | nil =>
        simp only [rep]
        rw [List.drop_eq_nil_of_le (by omega)]; simp
      | cons h0 h1 h2 h3 => omega

theorem replace_ref {l old : List Str} {ps : List Nat} {n : Nat} (hf : Fnd l old ps) (h : M.r04_Find n l old = some (ints ps)) (fresh : List Str) (nth : Int) (hl : l.length ≤ 100000) (hp : old.length ≤ 100000) (hfr : fresh.length ≤ 100000) (hn : 200002 < n) :
    M.r04_Replace n l old fresh nth = some (rep l fresh old.length 0 (cho ps nth), ((cho ps nth).length : Int)) := by
  have hs : ps.length ≤ 100000 := Nat.le_trans hf.gap.length (by omega)
  have hs2 : (cho ps nth).length ≤ 100000 := Nat.le_trans (cho_gap hf nth).length (by omega)
  have hm : (cho ps nth).length * fresh.length ≤ 100000 * 100000 := Nat.mul_le_mul hs2 hfr
  have hr := ref_loop l old fresh (cho ps nth) hl hp hfr n 0 (cho ps nth) [] (cho_gap hf nth) (fun q _ => Iff.rfl) (by omega) (by simp only [List.length_nil]; omega)
  have hr' : M.r04_Replace_loop1 l old fresh (ints (cho ps nth)) n [] 0 = some (rep l fresh old.length 0 (cho ps nth)) := by simpa using hr
  unfold M.r04_Replace
  rw [h, Option.bind_some, chosen_ref nth hs, Option.bind_some, hr', Option.bind_some, ints_length]

theorem long3 {a b c : List Str} {P : Prop} : (∀ r ∈ [a, b, c], r.length ≤ 300) → (a.length ≤ 300 → b.length ≤ 300 → c.length ≤ 300 → P) → P :=
  fun h k => k (h a (by simp)) (h b (by simp)) (h c (by simp))

theorem rep_short {l fresh : List Str} {p : Nat} {cs : List Nat} (hg : Gap p l.length 0 cs) (hl : l.length ≤ 300) (hf : fresh.length ≤ 400) : (rep l fresh p 0 cs).length ≤ 130000 := by
  have h1 := rep_length l fresh p cs 0 hg
  have h2 := hg.length
  have h3 : cs.length * fresh.length ≤ 300 * 400 := Nat.mul_le_mul (by omega) hf
  omega

theorem replaces_true (l old fresh : List Str) (nth : Int) : ∃ n, M.law04_WordseqReplaces n l old fresh nth = some true := by
  obtain ⟨N, hN⟩ := long_ok [l, old, fresh] (by simp)
  refine ⟨N + 300000, ?_⟩
  generalize hM : N + 300000 = m
  have hm : 300000 ≤ m := by omega
  unfold M.law04_WordseqReplaces
  rcases hN m (by omega) with h | ⟨h, hr⟩
  · rw [h, Option.bind_some, if_tt, Option.bind_some, if_tt, awake_le (by omega)]
    rfl
  · refine long3 hr fun h1 h2 h3 => ?_
    rw [h, Option.bind_some, if_neg (by simp), Option.bind_some]
    by_cases hf : (40 : Int) < (fresh.length : Int)
    · rw [if_pos (by simpa using hf), awake_le (by omega)]
      rfl
    · rw [if_neg (by simpa using hf)]
      obtain ⟨ps, hfd, hps⟩ := find_ok l old (by omega) (by omega)
      obtain ⟨e1, e2⟩ := hps m (by omega)
      have hsh : (rep l fresh old.length 0 (cho ps nth)).length ≤ 130000 := rep_short (cho_gap hfd nth) h1 (by omega)
      rw [appC_eq (by simp only [List.length_nil]; omega), Option.bind_some, replace_ok hfd e1 fresh nth (by omega) (by omega) (by omega) (by omega), Option.bind_some,
        replace_ref hfd e2 fresh nth (by omega) (by omega) (by omega) (by omega), Option.bind_some]
      dsimp only
      rw [same_ok _ _ m (by omega), Option.bind_some, if_pos (by simp), if_pos rfl, same_ok _ _ m (by omega), Option.bind_some, if_pos (by simp), awake_le (by omega)]
      rfl

theorem concat2 (a b : List Str) (n : Nat) (ha : a.length ≤ 100000) (hb : b.length ≤ 100000) (hn : 3 < n) : M.slices_Concat_string_string n [a, b] = some (a ++ b) := by
  obtain ⟨n, rfl⟩ : ∃ m, n = m + 3 := ⟨n - 3, by omega⟩
  have l1 : M.slices_Concat_string_string_loop1 [a, b] (n + 3) 0 0 = some ((a.length : Int) + (b.length : Int)) := by
    unfold M.slices_Concat_string_string_loop1
    rw [if_pos (by simp), show idx [a, b] 0 = some a from rfl, Option.bind_some, addC_eq (by omega) (by omega), Option.bind_some, if_neg (by omega)]
    unfold M.slices_Concat_string_string_loop1
    rw [if_pos (by simp), show idx [a, b] (0 + 1) = some b from rfl, Option.bind_some, addC_eq (by omega) (by omega), Option.bind_some, if_neg (by omega)]
    unfold M.slices_Concat_string_string_loop1
    rw [if_neg (by simp)]
    simp
  have l2 : M.slices_Concat_string_string_loop2 [a, b] (n + 3) [] 0 = some (a ++ b) := by
    unfold M.slices_Concat_string_string_loop2
    rw [if_pos (by simp), show idx [a, b] 0 = some a from rfl, Option.bind_some, appC_eq (by simp only [List.length_nil]; omega), Option.bind_some]
    unfold M.slices_Concat_string_string_loop2
    rw [if_pos (by simp), show idx [a, b] (0 + 1) = some b from rfl, Option.bind_some, appC_eq (by simp only [List.nil_append]; omega), Option.bind_some]
    unfold M.slices_Concat_string_string_loop2
    rw [if_neg (by simp)]
    simp
  unfold M.slices_Concat_string_string
  rw [l1, Option.bind_some]
  unfold growC
  rw [if_pos (by omega), Option.bind_some, l2]
  rfl

theorem inserts_true (l part fresh : List Str) (nth : Int) : ∃ n, M.law04_WordseqInserts n l part fresh nth = some true := by
  obtain ⟨N, hN⟩ := long_ok [l, part, fresh] (by simp)
  refine ⟨N + 300000, ?_⟩
  generalize hM : N + 300000 = m
  have hm : 300000 ≤ m := by omega
  unfold M.law04_WordseqInserts
  rcases hN m (by omega) with h | ⟨h, hr⟩
  · rw [h, Option.bind_some, if_tt, Option.bind_some, if_tt, awake_le (by omega)]
    rfl
  · refine long3 hr fun h1 h2 h3 => ?_
    rw [h, Option.bind_some, if_neg (by simp), Option.bind_some]
    by_cases hf : (40 : Int) < (fresh.length : Int)
    · rw [if_pos (by simpa using hf), awake_le (by omega)]
      rfl
    · rw [if_neg (by simpa using hf)]
      unfold M.wordseq_InsertAfter M.r04_Behind
      by_cases hp : (part.length : Int) = 0
      · rw [if_pos hp, if_pos hp]
        by_cases hz : nth = 0
        · rw [if_neg (by simpa using hz), if_neg (by simpa using hz), concat2 fresh l m (by omega) (by omega) (by omega), Option.bind_some, appC_eq (by simp only [List.length_nil]; omega), Option.bind_some, Option.bind_some,
            appC_eq (by simp only [List.nil_append]; omega)]
          simp only [Option.bind_some, List.nil_append]
          rw [same_ok _ _ m (by rw [List.length_append]; omega), Option.bind_some, if_pos (by simp), if_pos trivial, awake_le (by omega)]
          rfl
        · rw [if_pos hz, if_pos hz]
          unfold M.slices_Clone_string_string
          rw [appC_eq (by simp only [List.length_nil]; omega)]
          simp only [Option.bind_some, List.nil_append]
          rw [same_ok _ _ m (by omega), Option.bind_some, if_pos (by simp), if_pos trivial, awake_le (by omega)]
          rfl
      · rw [if_neg hp, if_neg hp]
        obtain ⟨ps, hfd, hps⟩ := find_ok l part (by omega) (by omega)
        obtain ⟨e1, e2⟩ := hps m (by omega)
        have hs : ps.length ≤ 100000 := Nat.le_trans hfd.gap.length (by omega)
        have hg := cho_gap hfd nth
        have hs2 : (cho ps nth).length ≤ 100000 := Nat.le_trans hg.length (by omega)
        have hsh : (rep l (part ++ fresh) part.length 0 (cho ps nth)).length ≤ 130000 := rep_short hg h1 (by rw [List.length_append]; omega)
        have hd : ∀ c ∈ cho ps nth, M.wordseq_InsertAfter_1 m ((l.take (c + part.length)).drop c) fresh = some (part ++ fresh) := fun c hc => by
          rw [st_eq (hfd.st c (cho_mem c hc))]
          unfold M.wordseq_InsertAfter_1
          rw [concat2 part fresh m (by omega) (by omega) (by omega)]
          rfl
        rw [chosen_ok e1 nth hs, Option.bind_some, each_ok l part (part ++ fresh) (cho ps nth) _ (by omega) (by rw [List.length_append]; omega) (by omega) hs2 hd hg m (by omega), Option.bind_some, Option.bind_some,
          appC_eq (by simp only [List.length_nil]; omega), Option.bind_some, appC_eq (by simp only [List.nil_append]; omega), Option.bind_some, List.nil_append,
          replace_ref hfd e2 (part ++ fresh) nth (by omega) (by omega) (by rw [List.length_append]; omega) (by omega)]
        simp only [Option.bind_some]
        rw [same_ok _ _ m (by omega), Option.bind_some, if_pos (by simp), if_pos trivial, awake_le (by omega)]
        rfl

end Go.Proofs.Ytgicfjjhchohaaa
