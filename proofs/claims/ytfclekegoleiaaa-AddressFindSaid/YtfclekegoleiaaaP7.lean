/-
  Addresses: the law on finding.
-/
import Derived.Test.YtfclekegoleiaaaPc
set_option linter.unusedVariables false
set_option linter.unusedSimpArgs false
namespace Go.Proofs.Ytfclekegoleiaaa
open Go Go.Dec

/-- Lengths that a machine bears. -/
def big (u : api_Unit) : Prop := ∀ x, x ∈ desc u → x.Label.length ≤ 140737488355328 ∧ x.Head.length ≤ 140737488355328 ∧ x.Words.length ≤ 140737488355328 ∧ x.Kids.length ≤ 140737488355328

theorem big_kid {u k : api_Unit} (h : big u) (hk : k ∈ u.Kids) : big k := fun x hx => h x (desc_kid hk hx)

theorem quo50 (m : Nat) (h : m ≤ 140737488355328) : ∃ q : Nat, quoC (m : Int) 50 = some (q : Int) ∧ q ≤ 140737488355328 := by
  have e : ((m : Int).tdiv 50) = ((m / 50 : Nat) : Int) := rfl
  refine ⟨m / 50, ?_, by omega⟩
  unfold quoC
  rw [e, if_pos]
  refine ⟨by decide, ?_⟩
  simp only [fits64, Bool.and_eq_true, decide_eq_true_eq]
  omega

theorem few7_loop (u : api_Unit) (deep : Int) (hd0 : 0 ≤ deep) (hd : deep ≤ 12) (hu : u.Kids.length ≤ 140737488355328) : ∀ (xs : List api_Unit) (slf : Nat → api_Unit → Int → Int → Option Int) (i : Nat) (left : Int), u.Kids.drop i = xs →
    (∀ k, k ∈ xs → ∀ l : Int, 0 ≤ l → l ≤ 60 → ∃ r, To (fun n => slf n k l (deep + 1)) r ∧ r ≤ l ∧ -1000000000000000 ≤ r ∧ (0 ≤ r → (cnt k : Int) ≤ l - r)) → left ≤ 60 → -1000000000000000 ≤ left →
    ∃ r, To (fun n => M.r07_few_loop1 u deep (slf n) n left (i : Int)) r ∧ r ≤ left ∧ -1000000000000000 ≤ r ∧ (0 ≤ r → (((xs.map cnt).sum : Nat) : Int) ≤ left - r)
  | [], slf, i, left, hx, hs, h1, h2 => by
    refine ⟨left, To.succ ?_, by omega, h2, fun h => by simp⟩
    simp only [M.r07_few_loop1]
    refine To.bind (a := false) (To.neg (drop_end hx) To.pure) ?_
    exact To.neg (by simp) To.pure
  | x :: xs, slf, i, left, hx, hs, h1, h2 => by
    by_cases hle : 0 ≤ left
    · obtain ⟨r1, ht1, q1, q2, q3⟩ := hs x (by simp) left hle h1
      obtain ⟨r, ht, p1, p2, p3⟩ := few7_loop u deep hd0 hd hu xs (fun n => slf (n + 1)) (i + 1) r1 (drop_next hx) (fun k hk m a b => by
        obtain ⟨r, h1, h2⟩ := hs k (by simp [hk]) m a b
        exact ⟨r, h1.shift, h2⟩) (by omega) q2
      have hil : i < u.Kids.length := (drop_cons hx).1
      refine ⟨r, To.succ ?_, by omega, p2, fun h => ?_⟩
      · simp only [M.r07_few_loop1]
        refine To.bind (a := true) (To.pos (drop_lt hx) (To.pure.of (by simp [hle]))) ?_
        refine To.pos rfl (To.bindS (drop_idx hx) (To.bindS (addC_eq (by omega) (by omega)) (To.bind ht1.shift (To.bindS (addC_succ (by omega)) ht))))
      · have := p3 h
        have := q3 (by omega)
        simp only [List.map_cons, List.sum_cons]
        omega
    · refine ⟨left, To.succ ?_, by omega, h2, fun h => by omega⟩
      simp only [M.r07_few_loop1]
      refine To.bind (a := false) (To.pos (drop_lt hx) (To.pure.of (by simp; omega))) ?_
      exact To.neg (by simp) To.pure

theorem few7_ok (u : api_Unit) : big u → ∀ (left deep : Int), 0 ≤ left → left ≤ 60 → 0 ≤ deep → deep ≤ 13 → ∃ r, To (fun n => M.r07_few n u left deep) r ∧ r ≤ left ∧ -1000000000000000 ≤ r ∧ (0 ≤ r → (cnt u : Int) ≤ left - r) := by
  refine uind (P := fun u => big u → ∀ (left deep : Int), 0 ≤ left → left ≤ 60 → 0 ≤ deep → deep ≤ 13 → ∃ r, To (fun n => M.r07_few n u left deep) r ∧ r ≤ left ∧ -1000000000000000 ≤ r ∧ (0 ≤ r → (cnt u : Int) ≤ left - r)) ?_ u
  intro u ih hb left deep h1 h2 h3 h4
  obtain ⟨b1, b2, b3, b4⟩ := hb u (desc_self u)
  obtain ⟨q1, e1, l1⟩ := quo50 _ b3
  obtain ⟨q2, e2, l2⟩ := quo50 _ b2
  obtain ⟨q3, e3, l3⟩ := quo50 _ b1
  by_cases hd : 12 < deep
  · refine ⟨-1, To.succ ?_, by omega, by omega, fun h => by omega⟩
    simp only [M.r07_few]
    refine To.bindS (subC_eq (by omega) (by omega)) (To.bindS e1 (To.bindS (subC_eq (by omega) (by omega)) (To.bindS e2 (To.bindS (subC_eq (by omega) (by omega)) (To.bindS e3 (To.bindS (subC_eq (by omega) (by omega)) ?_))))))
    exact To.pos hd To.pure
  · obtain ⟨r, ht, p1, p2, p3⟩ := few7_loop u deep h3 (by omega) b4 u.Kids (fun n => M.r07_few n) 0 (left - 1 - q1 - q2 - q3) rfl (fun k hk l a b => ih k hk (big_kid hb hk) l (deep + 1) a b (by omega) (by omega)) (by omega) (by omega)
    refine ⟨r, To.succ ?_, by omega, p2, fun h => ?_⟩
    · simp only [M.r07_few]
      refine To.bindS (subC_eq (by omega) (by omega)) (To.bindS e1 (To.bindS (subC_eq (by omega) (by omega)) (To.bindS e2 (To.bindS (subC_eq (by omega) (by omega)) (To.bindS e3 (To.bindS (subC_eq (by omega) (by omega)) ?_))))))
      exact To.neg hd (To.bind ht To.pure)
    · rw [cnt_eq]
      have := p3 h
      omega

theorem few07 (u : api_Unit) (hb : big u) : ∃ b, To (fun n => M.r07_Few n u 60) b ∧ (b = true → cnt u ≤ 60) := by
  obtain ⟨r, ht, h1, h2, h3⟩ := few7_ok u hb 60 0 (by omega) (by omega) (by omega) (by omega)
  refine ⟨decide (0 ≤ r), ?_, fun h => ?_⟩
  · simp only [M.r07_Few]
    exact To.bind ht To.pure
  · have := h3 (of_decide_eq_true h)
    have := of_decide_eq_true h
    omega

theorem short07 (p : List api_Step) : ∃ b, To (fun n => M.law07_short n p) b ∧ (b = true → p.length ≤ 20 ∧ ∀ y, y ∈ p → y.Label.length ≤ 100) := by
  have loop : ∀ (xs : List api_Step) (i : Nat), p.drop i = xs → ∃ c : Unit ⊕ Bool, To (fun n => M.law07_short_loop1 p n (i : Int)) c ∧ (c = .inr false ∨ (c = .inl () ∧ ∀ y, y ∈ xs → y.Label.length ≤ 100)) := by
    intro xs
    induction xs with
    | nil =>
      intro i hx
      refine ⟨.inl (), To.succ ?_, .inr ⟨rfl, fun y hy => by cases hy⟩⟩
      simp only [M.law07_short_loop1]
      exact To.neg (drop_end hx) To.pure
    | cons x xs ih =>
      intro i hx
      by_cases hl : (100 : Int) < (x.Label.length : Int)
      · refine ⟨.inr false, To.succ ?_, .inl rfl⟩
        simp only [M.law07_short_loop1]
        exact To.pos (drop_lt hx) (To.bindS (drop_idx hx) (To.pos hl To.pure))
      · obtain ⟨c, ht, hc⟩ := ih (i + 1) (drop_next hx)
        refine ⟨c, To.succ ?_, hc.imp id (fun ⟨h1, h2⟩ => ⟨h1, fun y hy => ?_⟩)⟩
        · simp only [M.law07_short_loop1]
          rw [cast_succ]
          exact To.pos (drop_lt hx) (To.bindS (drop_idx hx) (To.neg hl ht))
        · rcases List.mem_cons.1 hy with rfl | hy
          · omega
          · exact h2 y hy
  obtain ⟨c, ht, hc⟩ := loop p 0 rfl
  rcases hc with rfl | ⟨rfl, h⟩
  · refine ⟨false, ?_, fun h => by cases h⟩
    simp only [M.law07_short]
    exact To.bind ht To.pure
  · refine ⟨decide ((p.length : Int) ≤ 20), ?_, fun h2 => ⟨?_, h⟩⟩
    · simp only [M.law07_short]
      exact To.bind ht To.pure
    · have := of_decide_eq_true h2
      omega

theorem awake07 : To (fun n => M.law07_awake n) true := by
  refine To.far 60 fun m => ?_
  kernel_rfl

theorem ids7_loop (a : List api_Id) : ∀ (xs : List api_Id) (i : Nat), a.drop i = xs → To (fun n => M.r07_Ids_loop1 a a n (i : Int)) (.inl ()) := by
  intro xs
  induction xs with
  | nil => intro i hx; refine To.succ ?_; simp only [M.r07_Ids_loop1]; exact To.neg (drop_end hx) To.pure
  | cons x xs ih =>
    intro i hx; refine To.succ ?_; simp only [M.r07_Ids_loop1]
    rw [cast_succ]
    exact To.pos (drop_lt hx) (To.bindS (drop_idx hx) (To.bindS (drop_idx hx) (To.neg (by simp) (ih (i + 1) (drop_next hx)))))
theorem ids7_same (a : List api_Id) : To (fun n => M.r07_Ids n a a) true := by
  simp only [M.r07_Ids]
  exact To.neg (by simp) (To.bind (ids7_loop a a 0 rfl) To.pure)

theorem address_find_true (u : api_Unit) (p : List api_Step) (hb : big u) : ∃ n, M.law07_AddressFind n u p = some true := by
  refine To.ex ?_
  simp only [M.law07_AddressFind]
  obtain ⟨f, hf, hfl⟩ := few07 u hb
  obtain ⟨s, hs, hsl⟩ := short07 p
  cases f with
  | false => exact To.bind (a := true) (To.bind awake07 (To.neg (by simp) (To.bind hf (To.pos rfl To.pure)))) (To.pos rfl (To.bind awake07 To.pure))
  | true =>
    cases s with
    | false => exact To.bind (a := true) (To.bind awake07 (To.neg (by simp) (To.bind hf (To.neg (by simp) (To.bind hs To.pure))))) (To.pos rfl (To.bind awake07 To.pure))
    | true =>
      have hc := hfl rfl
      obtain ⟨hp1, hp2⟩ := hsl rfl
      have hul : (units u p).length ≤ lim38 := by
        have h1 := units_len u p
        have h2 : cnt u * cnt u ≤ 60 * 60 := Nat.mul_le_mul hc hc
        unfold lim38; omega
      have hp' : ∀ y, y ∈ p → y.Label.length ≤ 1000000000 := fun y hy => by have := hp2 y hy; omega
      refine To.bind (a := false) (To.bind awake07 (To.neg (by simp) (To.bind hf (To.neg (by simp) (To.bind hs To.pure))))) (To.neg (by simp) ?_)
      refine To.bind (findall_ok u p (by omega) hul) (To.bind (findone_ok u p (by omega) hul) (To.bind (one_r u p (by omega) hp') (To.bind (find_r u p (by omega) hp') (To.bind (ids7_same _) ?_))))
      exact To.pos rfl (To.pos rfl (To.pure.of (by simp)))
end Go.Proofs.Ytfclekegoleiaaa
