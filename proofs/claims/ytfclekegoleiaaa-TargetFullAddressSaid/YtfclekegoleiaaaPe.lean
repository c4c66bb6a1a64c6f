/-
  What the checks say of a tree that they let by: its IDs are apart, and so are siblings.
-/
import Derived.Test.YtfclekegoleiaaaPd
set_option linter.unusedVariables false
set_option linter.unusedSimpArgs false
namespace Go.Proofs.Ytfclekegoleiaaa
open Go Go.Dec

theorem idx_getElem {α : Type} {l : List α} {i : Nat} (h : i < l.length) : idx l (i : Int) = some l[i] := by rw [idx_nat, List.getElem?_eq_getElem h]

/-! ### IDs -/

theorem ids3_ok (all : List api_Id) (i : Nat) (hi : i < all.length) (hb : all.length ≤ 1000000) : ∀ (d k : Nat), i - k ≤ d →
    To (fun n => M.r06_Ids_loop3 all (i : Int) n (k : Int)) (.inr false) ∨ (To (fun n => M.r06_Ids_loop3 all (i : Int) n (k : Int)) (.inl ()) ∧ ∀ j (hj : j < i), k ≤ j → all[j] ≠ all[i]) := by
  intro d
  induction d with
  | zero =>
    intro k hk
    refine .inr ⟨To.succ ?_, fun j hj hkj => by omega⟩
    simp only [M.r06_Ids_loop3]
    exact To.neg (by omega) To.pure
  | succ d ih =>
    intro k hk
    by_cases h : k < i
    · have hx := idx_getElem (l := all) (i := k) (by omega)
      have hy := idx_getElem (l := all) (i := i) (by omega)
      by_cases he : all[k] = all[i]
      · refine .inl (To.succ ?_)
        simp only [M.r06_Ids_loop3]
        exact To.pos (by omega) (To.bindS hx (To.bindS hy (To.pos he To.pure)))
      · rcases ih (k + 1) (by omega) with h1 | ⟨h1, h2⟩
        · refine .inl (To.succ ?_)
          simp only [M.r06_Ids_loop3]
          exact To.pos (by omega) (To.bindS hx (To.bindS hy (To.neg he (To.bindS (addC_succ (by omega)) h1))))
        · refine .inr ⟨To.succ ?_, fun j hj hkj => ?_⟩
          · simp only [M.r06_Ids_loop3]
            exact To.pos (by omega) (To.bindS hx (To.bindS hy (To.neg he (To.bindS (addC_succ (by omega)) h1))))
          · by_cases hjk : j = k
            · subst hjk; exact he
            · exact h2 j hj (by omega)
    · refine .inr ⟨To.succ ?_, fun j hj hkj => by omega⟩
      simp only [M.r06_Ids_loop3]
      exact To.neg (by omega) To.pure

theorem ids2_ok (all : List api_Id) (hb : all.length ≤ 1000000) : ∀ (xs : List api_Id) (i : Nat), all.drop i = xs →
    To (fun n => M.r06_Ids_loop2 all n (i : Int)) (.inr false) ∨ (To (fun n => M.r06_Ids_loop2 all n (i : Int)) (.inl ()) ∧ ∀ a (ha : a < all.length), i ≤ a → ∀ j (hj : j < a), all[j] ≠ all[a]) := by
  intro xs
  induction xs with
  | nil =>
    intro i hx
    have := List.drop_eq_nil_iff.1 hx
    refine .inr ⟨To.succ ?_, fun a ha hia => by omega⟩
    simp only [M.r06_Ids_loop2]
    exact To.neg (drop_end hx) To.pure
  | cons x xs ih =>
    intro i hx
    have hi := (drop_cons hx).1
    rcases ids3_ok all i hi hb i 0 (by omega) with h1 | ⟨h1, h2⟩
    · refine .inl (To.succ ?_)
      simp only [M.r06_Ids_loop2]
      exact To.pos (drop_lt hx) (To.bind h1 To.pure)
    · rcases ih (i + 1) (drop_next hx) with h3 | ⟨h3, h4⟩
      · refine .inl (To.succ ?_)
        simp only [M.r06_Ids_loop2]
        exact To.pos (drop_lt hx) (To.bind h1 (To.bindS (addC_succ (by omega)) h3))
      · refine .inr ⟨To.succ ?_, fun a ha hia j hj => ?_⟩
        · simp only [M.r06_Ids_loop2]
          exact To.pos (drop_lt hx) (To.bind h1 (To.bindS (addC_succ (by omega)) h3))
        · by_cases hai : a = i
          · subst hai; exact h2 j hj (by omega)
          · exact h4 a ha (by omega) j hj

theorem ids1_ok (all : List api_Id) : ∀ (xs : List api_Id) (i : Nat) (b : Bool), all.drop i = xs → ∃ c, To (fun n => M.r06_Ids_loop1 all n b (i : Int)) c ∧ (c = true → b = true ∧ ∀ x, x ∈ xs → x = zapi_Id) := by
  intro xs
  induction xs with
  | nil =>
    intro i b hx
    refine ⟨b, To.succ ?_, fun h => ⟨h, fun x hx => by cases hx⟩⟩
    simp only [M.r06_Ids_loop1]
    exact To.neg (drop_end hx) To.pure
  | cons x xs ih =>
    intro i b hx
    cases b with
    | true =>
      obtain ⟨c, h1, h2⟩ := ih (i + 1) (decide (x = zapi_Id)) (drop_next hx)
      refine ⟨c, To.succ ?_, fun h => ⟨rfl, fun y hy => ?_⟩⟩
      · simp only [M.r06_Ids_loop1]
        rw [cast_succ]
        exact To.pos (drop_lt hx) (To.pos (by simp) (To.bindS (drop_idx hx) h1))
      · rcases List.mem_cons.1 hy with rfl | hy
        · exact of_decide_eq_true (h2 h).1
        · exact (h2 h).2 y hy
    | false =>
      obtain ⟨c, h1, h2⟩ := ih (i + 1) false (drop_next hx)
      refine ⟨c, To.succ ?_, fun h => by cases (h2 h).1⟩
      simp only [M.r06_Ids_loop1]
      rw [cast_succ]
      exact To.pos (drop_lt hx) (To.neg (by simp) h1)

theorem ids_ok (u : api_Unit) (hc : cnt u ≤ 1000000) (h : To (fun n => M.r06_Ids n u) true) : (∀ x, x ∈ desc u → x.Id = zapi_Id) ∨ ((desc u).map api_Unit.Id).Nodup := by
  have hl : ((desc u).map api_Unit.Id).length ≤ 1000000 := by simpa [cnt] using hc
  simp only [M.r06_Ids] at h
  replace h := h.unbind (all_ok u hc)
  generalize hall : (desc u).map api_Unit.Id = all at h hl ⊢
  obtain ⟨c, h1, h2⟩ := ids1_ok all all 0 true rfl
  replace h := h.unbind h1
  cases c with
  | true =>
    refine .inl fun x hx => (h2 rfl).2 _ ?_
    rw [← hall]; exact List.mem_map.2 ⟨x, hx, rfl⟩
  | false =>
    replace h := h.unneg (by simp)
    have h0 : idx all 0 = some u.Id := by rw [← hall, desc_eq]; simp [idx]
    rw [h0] at h
    replace h := h.unbind (f := fun _ => some u.Id) To.pure
    by_cases hk : (decide (u.Id = (⟨(0 : Int), (0 : Int), (0 : Int)⟩ : api_Id)) != decide (u.Kind = (0 : Int))) = true
    · replace h := (h.unpos hk).unpure
      cases h
    · replace h := h.unneg hk
      rcases ids2_ok all hl all 0 rfl with h3 | ⟨h3, h4⟩
      · cases (h.unbind h3).unpure
      · refine .inr ?_
        rw [List.Nodup, List.pairwise_iff_getElem]
        intro i j hi hj hij
        exact h4 j hj (by omega) i hij

/-! ### Siblings -/

theorem row_ok (l : List api_Word) : Tot (fun n => M.r06_row n l) := row_tot l

/-- What is right with a single unit. -/
structure Fine (u : api_Unit) : Prop where
  kind : 0 ≤ u.Kind ∧ u.Kind ≤ 7
  label : u.Kind ≠ 0 → labB u.Label = true
  kids : ∀ k, k ∈ u.Kids → k.Kind ≠ 0
  apart : ∀ i j (hi : i < u.Kids.length) (hj : j < u.Kids.length), i < j → ¬ (u.Kids[i].Kind = u.Kids[j].Kind ∧ u.Kids[i].Label = u.Kids[j].Label)

theorem nests_zero (p : Int) : M.r06_Nests p 0 = some false := by
  simp only [M.r06_Nests]
  by_cases h0 : p = 0
  · subst h0; rfl
  by_cases h1 : p = 1
  · subst h1; rfl
  by_cases h2 : p = 2
  · subst h2; rfl
  by_cases h3 : p = 3
  · subst h3; rfl
  by_cases h4 : p = 4
  · subst h4; rfl
  by_cases h5 : p = 5
  · subst h5; rfl
  simp [h0, h1, h2, h3, h4, h5]

theorem right2_ok (u : api_Unit) (i : Nat) (hi : i < u.Kids.length) (hb : u.Kids.length ≤ 1000000) : ∀ (d k : Nat), i - k ≤ d →
    To (fun n => M.r06_Right_loop2 u (i : Int) n (k : Int)) (.inr false) ∨ (To (fun n => M.r06_Right_loop2 u (i : Int) n (k : Int)) (.inl ()) ∧ ∀ j (hj : j < i), k ≤ j → ¬ (u.Kids[j].Kind = u.Kids[i].Kind ∧ u.Kids[j].Label = u.Kids[i].Label)) := by
  intro d
  induction d with
  | zero =>
    intro k hk
    refine .inr ⟨To.succ ?_, fun j hj hkj => by omega⟩
    simp only [M.r06_Right_loop2]
    exact To.neg (by omega) To.pure
  | succ d ih =>
    intro k hk
    by_cases h : k < i
    · have hx := idx_getElem (l := u.Kids) (i := k) (by omega)
      have hy := idx_getElem (l := u.Kids) (i := i) (by omega)
      have step : ∀ r, To (fun n => M.r06_Right_loop2 u (i : Int) n ((k + 1 : Nat) : Int)) r → ¬ (u.Kids[k].Kind = u.Kids[i].Kind ∧ u.Kids[k].Label = u.Kids[i].Label) → To (fun n => M.r06_Right_loop2 u (i : Int) n (k : Int)) r := by
        intro r hr hne
        refine To.succ ?_
        simp only [M.r06_Right_loop2]
        refine To.pos (by omega) (To.bindS hx (To.bindS hy ?_))
        by_cases hkk : u.Kids[k].Kind = u.Kids[i].Kind
        · refine To.pos hkk (To.bindS hx (To.bindS hy (To.neg (by simp; exact fun e => hne ⟨hkk, e⟩) (To.bindS (addC_succ (by omega)) hr))))
        · exact To.neg hkk (To.bindS (addC_succ (by omega)) hr)
      by_cases he : u.Kids[k].Kind = u.Kids[i].Kind ∧ u.Kids[k].Label = u.Kids[i].Label
      · refine .inl (To.succ ?_)
        simp only [M.r06_Right_loop2]
        exact To.pos (by omega) (To.bindS hx (To.bindS hy (To.pos he.1 (To.bindS hx (To.bindS hy (To.pos (by simp [he.2]) To.pure))))))
      · rcases ih (k + 1) (by omega) with h1 | ⟨h1, h2⟩
        · exact .inl (step _ h1 he)
        · refine .inr ⟨step _ h1 he, fun j hj hkj => ?_⟩
          by_cases hjk : j = k
          · subst hjk; exact he
          · exact h2 j hj (by omega)
    · refine .inr ⟨To.succ ?_, fun j hj hkj => by omega⟩
      simp only [M.r06_Right_loop2]
      exact To.neg (by omega) To.pure

theorem alone_ok (u : api_Unit) (hl : u.Label.length ≤ 1000000000) (h : To (fun n => M.r06_alone n u) true) : (0 ≤ u.Kind ∧ u.Kind ≤ 7) ∧ (u.Kind ≠ 0 → labB u.Label = true) := by
  simp only [M.r06_alone] at h
  have hA : Tot (fun n => if u.Kind < (0 : Int) then some true else if (7 : Int) < u.Kind then some true else if (64 : Int) < (u.Kids.length : Int) then some true else
      Option.bind (M.r06_row n u.Head) fun row => if row = false then some true else Option.bind (M.r06_row n u.Words) fun row1 => some (!row1)) := by
    refine Tot.ite (fun _ => Tot.pure) fun _ => Tot.ite (fun _ => Tot.pure) fun _ => Tot.ite (fun _ => Tot.pure) fun _ => Tot.bind (row_tot _) fun a _ => Tot.ite (fun _ => Tot.pure) fun _ => Tot.bind (row_tot _) fun _ _ => Tot.pure
  obtain ⟨a, ha⟩ := hA
  replace h := h.unbind ha
  cases a with
  | true => cases (h.unpos rfl).unpure
  | false =>
    replace h := h.unneg (by simp)
    have hk : 0 ≤ u.Kind ∧ u.Kind ≤ 7 := by
      by_cases h1 : u.Kind < 0
      · cases (ha.unpos h1).unpure
      by_cases h2 : 7 < u.Kind
      · cases ((ha.unneg h1).unpos h2).unpure
      omega
    refine ⟨hk, fun h0 => ?_⟩
    exact ((h.unneg h0).unbind (may03 u.Label hl)).unpure

theorem right_ok (u : api_Unit) : cnt u ≤ 1000000 → labs u → To (fun n => M.r06_Right n u) true → ∀ x, x ∈ desc u → Fine x := by
  refine uind (P := fun u => cnt u ≤ 1000000 → labs u → To (fun n => M.r06_Right n u) true → ∀ x, x ∈ desc u → Fine x) ?_ u
  intro u ih hc hl h
  have hk := cnt_kids u
  have hlab := hl u (desc_self u)
  have loop : ∀ (xs : List api_Unit) (slf : Nat → api_Unit → Option Bool) (i : Nat), u.Kids.drop i = xs → (∀ k, k ∈ xs → Tot (fun n => slf n k)) →
      To (fun n => M.r06_Right_loop1 u (slf n) n (i : Int)) (.inr false) ∨ (To (fun n => M.r06_Right_loop1 u (slf n) n (i : Int)) (.inl ()) ∧ (∀ k, k ∈ xs → k.Kind ≠ 0 ∧ To (fun n => slf n k) true) ∧
        ∀ a (ha : a < u.Kids.length), i ≤ a → ∀ j (hj : j < a), ¬ (u.Kids[j].Kind = u.Kids[a].Kind ∧ u.Kids[j].Label = u.Kids[a].Label)) := by
    intro xs
    induction xs with
    | nil =>
      intro slf i hx hs
      have := List.drop_eq_nil_iff.1 hx
      refine .inr ⟨To.succ ?_, fun k hk => (by cases hk), fun a ha hia => by omega⟩
      simp only [M.r06_Right_loop1]
      exact To.neg (drop_end hx) To.pure
    | cons x xs ih =>
      intro slf i hx hs
      obtain ⟨b, hb⟩ := nests_tot u.Kind x.Kind
      have hi := (drop_cons hx).1
      obtain ⟨c, hcx⟩ := hs x (by simp)
      cases b with
      | false =>
        refine .inl (To.succ ?_)
        simp only [M.r06_Right_loop1]
        exact To.pos (drop_lt hx) (To.bindS (drop_idx hx) (To.bindS hb (To.pos rfl To.pure)))
      | true =>
        have hk0 : x.Kind ≠ 0 := fun e => by rw [e, nests_zero] at hb; cases hb
        cases c with
        | false =>
          refine .inl (To.succ ?_)
          simp only [M.r06_Right_loop1]
          exact To.pos (drop_lt hx) (To.bindS (drop_idx hx) (To.bindS hb (To.neg (by simp) (To.bindS (drop_idx hx) (To.bind hcx.shift (To.pos rfl To.pure))))))
        | true =>
          rcases right2_ok u i hi (by omega) i 0 (by omega) with h1 | ⟨h1, h2⟩
          · refine .inl (To.succ ?_)
            simp only [M.r06_Right_loop1]
            exact To.pos (drop_lt hx) (To.bindS (drop_idx hx) (To.bindS hb (To.neg (by simp) (To.bindS (drop_idx hx) (To.bind hcx.shift (To.neg (by simp) (To.bind h1 To.pure)))))))
          · have step : ∀ r, To (fun n => M.r06_Right_loop1 u (slf (n + 1)) n ((i + 1 : Nat) : Int)) r → To (fun n => M.r06_Right_loop1 u (slf n) n (i : Int)) r := by
              intro r hr
              refine To.succ ?_
              simp only [M.r06_Right_loop1]
              exact To.pos (drop_lt hx) (To.bindS (drop_idx hx) (To.bindS hb (To.neg (by simp) (To.bindS (drop_idx hx) (To.bind hcx.shift (To.neg (by simp) (To.bind h1 (To.bindS (addC_succ (by omega)) hr))))))))
            rcases ih (fun n => slf (n + 1)) (i + 1) (drop_next hx) (fun k hk => (hs k (by simp [hk])).shift) with h3 | ⟨h3, h4, h5⟩
            · exact .inl (step _ h3)
            · refine .inr ⟨step _ h3, fun k hk => ?_, fun a ha hia j hj => ?_⟩
              · rcases List.mem_cons.1 hk with rfl | hk
                · exact ⟨hk0, hcx⟩
                · obtain ⟨q1, q2⟩ := h4 k hk
                  obtain ⟨c2, hc2⟩ := hs k (by simp [hk])
                  obtain rfl := hc2.shift.det q2
                  exact ⟨q1, hc2⟩
              · by_cases hai : a = i
                · subst hai; exact h2 j hj (by omega)
                · exact h5 a ha (by omega) j hj
  have h := h.unsucc
  simp only [M.r06_Right] at h
  obtain ⟨a, ha⟩ := alone_tot u (by omega)
  replace h := h.unbind ha
  cases a with
  | false => cases (h.unpos rfl).unpure
  | true =>
    replace h := h.unneg (by simp)
    obtain ⟨k1, k2⟩ := alone_ok u (by omega) ha
    rcases loop u.Kids (fun n => M.r06_Right n) 0 rfl (fun k hk => right_tot k (by have := cnt_kid hk; omega) (labs_kid hl hk)) with h1 | ⟨h1, h2, h3⟩
    · cases (h.unbind h1).unpure
    · intro x hx
      rw [desc_eq] at hx
      rcases List.mem_cons.1 hx with rfl | hx
      · exact ⟨k1, k2, fun k hk => (h2 k hk).1, fun i j hi hj hij => h3 j hj (by omega) i hij⟩
      · obtain ⟨k, hk, hkx⟩ := List.mem_flatMap.1 hx
        exact ih k hk (by have := cnt_kid hk; omega) (labs_kid hl hk) (h2 k hk).2 x hkx

/-! ### Depth -/

/-- How many levels lie below. -/
def deep (u : api_Unit) : Nat := (u.Kids.attach.map (fun k => 1 + deep k.1)).foldl max 0
termination_by SizeOf.sizeOf u
decreasing_by exact kid_lt k.2

theorem deep_eq (u : api_Unit) : deep u = (u.Kids.map (fun k => 1 + deep k)).foldl max 0 := by
  rw [deep]
  congr 1
  rw [show (fun k : {x // x ∈ u.Kids} => 1 + deep k.1) = (fun k => 1 + deep k) ∘ Subtype.val from rfl, ← List.map_map, List.attach_map_subtype_val]

theorem foldl_max : ∀ (l : List Nat) (a : Nat), a ≤ l.foldl max a ∧ ∀ x, x ∈ l → x ≤ l.foldl max a
  | [], a => ⟨Nat.le_refl _, fun x h => by cases h⟩
  | y :: l, a => by
    obtain ⟨h1, h2⟩ := foldl_max l (max a y)
    refine ⟨by simp only [List.foldl_cons]; omega, fun x hx => ?_⟩
    rcases List.mem_cons.1 hx with rfl | hx
    · simp only [List.foldl_cons]; omega
    · exact h2 x hx
theorem deep_kid {u k : api_Unit} (h : k ∈ u.Kids) : deep k < deep u := by
  rw [deep_eq u]
  have := (foldl_max (u.Kids.map (fun k => 1 + deep k)) 0).2 (1 + deep k) (List.mem_map.2 ⟨k, h, rfl⟩)
  omega

theorem depth_deep (u : api_Unit) : cnt u ≤ 1000000 → deep u ≤ cnt u ∧ To (fun n => M.r06_Depth n u) (deep u : Int) := by
  refine uind (P := fun u => cnt u ≤ 1000000 → deep u ≤ cnt u ∧ To (fun n => M.r06_Depth n u) (deep u : Int)) ?_ u
  intro u ih hc
  have loop : ∀ (xs : List api_Unit) (slf : Nat → api_Unit → Option Int) (i d : Nat), u.Kids.drop i = xs → (∀ k, k ∈ xs → cnt k < cnt u ∧ deep k ≤ cnt k ∧ To (fun n => slf n k) (deep k : Int)) → d ≤ cnt u →
      (xs.map (fun k => 1 + deep k)).foldl max d ≤ cnt u ∧ To (fun n => M.r06_Depth_loop1 u (slf n) n (d : Int) (i : Int)) (((xs.map (fun k => 1 + deep k)).foldl max d : Nat) : Int) := by
    intro xs
    induction xs with
    | nil =>
      intro slf i d hx hs hd
      refine ⟨hd, To.succ ?_⟩
      simp only [M.r06_Depth_loop1]
      exact To.neg (drop_end hx) To.pure
    | cons x xs ih =>
      intro slf i d hx hs hd
      obtain ⟨h1, h2, h3⟩ := hs x (by simp)
      obtain ⟨q1, q2⟩ := ih (fun n => slf (n + 1)) (i + 1) (max d (1 + deep x)) (drop_next hx) (fun k hk => by
        obtain ⟨a, b, c⟩ := hs k (by simp [hk])
        exact ⟨a, b, c.shift⟩) (by omega)
      refine ⟨q1, To.succ ?_⟩
      simp only [M.r06_Depth_loop1]
      refine To.pos (drop_lt hx) (To.bindS (drop_idx hx) (To.bind h3.shift (To.bindS (addC_eq (by omega) (by omega)) ?_)))
      rw [cast_succ, show max (d : Int) (1 + (deep x : Int)) = ((max d (1 + deep x) : Nat) : Int) by omega]
      exact q2
  obtain ⟨h1, h2⟩ := loop u.Kids (fun n => M.r06_Depth n) 0 0 rfl (fun k hk => ⟨cnt_kid hk, ih k hk (by have := cnt_kid hk; omega)⟩) (by omega)
  rw [deep_eq]
  refine ⟨h1, To.succ ?_⟩
  simp only [M.r06_Depth]
  exact To.bind h2 To.pure

/-! ### What 'stands' says -/

structure Good (u : api_Unit) : Prop where
  fine : ∀ x, x ∈ desc u → Fine x
  deep : deep u ≤ 8
  apart : ((desc u).map api_Unit.Id).Nodup

theorem named_root (u : api_Unit) (h : To (fun n => M.r08_named n u) true) : u.Kind ≠ 0 → u.Id ≠ zapi_Id := by
  intro hk he
  have h := h.unsucc
  simp only [M.r08_named] at h
  have := h.unbind (To.pos hk (To.pure (r := decide (u.Id = (⟨(0 : Int), (0 : Int), (0 : Int)⟩ : api_Id)))))
  cases (this.unpos (by rw [he]; rfl)).unpure

theorem stands_good (u : api_Unit) (hc : cnt u ≤ 1000000) (hl : labs u) (h : To (fun n => M.r08_Stands n u) true) : Good u := by
  simp only [M.r08_Stands, M.r06_May] at h
  obtain ⟨a, ha⟩ := right_tot u hc hl
  obtain ⟨e, he⟩ := ids_tot u hc
  have hd := (depth_deep u hc).2
  have hcn := count_ok u hc
  obtain ⟨m, hm⟩ : Tot (fun n => Option.bind (M.r06_Right n u) fun right => if right = true then Option.bind (M.r06_Depth n u) fun depth => if depth ≤ (8 : Int) then Option.bind (M.r06_Count n u) fun count => if count ≤ (1024 : Int) then Option.bind (M.r06_Ids n u) fun ids => some ids else some false else some false else some false) :=
    Tot.bind ⟨a, ha⟩ fun _ _ => Tot.ite (fun _ => Tot.bind hd.tot fun _ _ => Tot.ite (fun _ => Tot.bind hcn.tot fun _ _ => Tot.ite (fun _ => Tot.bind ⟨e, he⟩ fun _ _ => Tot.pure) fun _ => Tot.pure) fun _ => Tot.pure) fun _ => Tot.pure
  replace h := h.unbind hm
  cases m with
  | false => cases (h.unneg (by simp)).unpure
  | true =>
    replace h := h.unpos rfl
    replace hm := hm.unbind ha
    cases a with
    | false => cases (hm.unneg (by simp)).unpure
    | true =>
      replace hm := (hm.unpos rfl).unbind hd
      by_cases h8 : (deep u : Int) ≤ 8
      · replace hm := (hm.unpos h8).unbind hcn
        by_cases h9 : (cnt u : Int) ≤ 1024
        · replace hm := (hm.unpos h9).unbind he
          have := hm.unpure
          subst this
          have hfine := right_ok u hc hl ha
          refine ⟨hfine, by omega, ?_⟩
          rcases ids_ok u hc he with h0 | h0
          · obtain ⟨nm, hnm⟩ := named_tot u
            have := (h.unbind hnm).unpure
            subst this
            have hk0 : u.Kind = 0 := by
              by_cases hk : u.Kind = 0
              · exact hk
              · exact absurd (h0 u (desc_self u)) (named_root u hnm hk)
            have hkids : u.Kids = [] := by
              cases hks : u.Kids with
              | nil => rfl
              | cons k l =>
                exfalso
                have hkm : k ∈ u.Kids := by rw [hks]; simp
                have hkk := (hfine u (desc_self u)).kids k hkm
                have hk0' := h0 k (mem_desc_kids hkm)
                -- the first kid is named
                have h' := hnm.unsucc
                simp only [M.r08_named] at h'
                have h2 := h'.unbind (To.neg (by simp [hk0]) To.pure : To (fun n => if u.Kind ≠ (0 : Int) then some (decide (u.Id = (⟨(0 : Int), (0 : Int), (0 : Int)⟩ : api_Id))) else some false) false)
                replace h2 := h2.unneg (by simp)
                obtain ⟨kn, hkn⟩ := named_tot k
                cases kn with
                | true => exact named_root k hkn hkk hk0'
                | false =>
                  have hlp : To (fun n => M.r08_named_loop1 u (M.r08_named n) n (0 : Int)) (.inr false) := by
                    refine To.succ ?_
                    simp only [M.r08_named_loop1]
                    refine To.pos (by rw [hks]; simp) (To.bindS (a := k) (by rw [hks]; exact idx_zero) (To.bind hkn.shift (To.pos rfl To.pure)))
                  cases (h2.unbind hlp).unpure
            rw [desc_eq, hkids]; simp
          · exact h0
        · cases (hm.unneg h9).unpure
      · cases (hm.unneg h8).unpure

/-! ### IDs that are apart -/

theorem nodup_kid {u k : api_Unit} (h : ((desc u).map api_Unit.Id).Nodup) (hk : k ∈ u.Kids) : ((desc k).map api_Unit.Id).Nodup := by
  rw [desc_eq] at h
  simp only [List.map_cons, List.nodup_cons] at h
  have h2 := h.2
  rw [List.map_flatMap] at h2
  have : (u.Kids.map (fun k => (desc k).map api_Unit.Id)).flatten.Nodup := by rw [← List.flatMap_def]; exact h2
  rw [List.Nodup, List.pairwise_flatten] at this
  exact this.1 _ (List.mem_map.2 ⟨k, hk, rfl⟩)

theorem nodup_eq {u x y : api_Unit} (h : ((desc u).map api_Unit.Id).Nodup) (hx : x ∈ desc u) (hy : y ∈ desc u) (he : x.Id = y.Id) : x = y := by
  have : ∀ l : List api_Unit, (l.map api_Unit.Id).Nodup → x ∈ l → y ∈ l → x = y := by
    intro l
    induction l with
    | nil => intro _ hx; cases hx
    | cons z l ih =>
      intro hn hx hy
      simp only [List.map_cons, List.nodup_cons] at hn
      rcases List.mem_cons.1 hx with e1 | m1
      · rcases List.mem_cons.1 hy with e2 | m2
        · rw [e1, e2]
        · exact absurd (List.mem_map.2 ⟨y, m2, by rw [← he, e1]⟩) hn.1
      · rcases List.mem_cons.1 hy with e2 | m2
        · exact absurd (List.mem_map.2 ⟨x, m1, by rw [he, e2]⟩) hn.1
        · exact ih hn.2 m1 m2
  exact this _ h hx hy

theorem nodup_kids {u k j x y : api_Unit} (h : ((desc u).map api_Unit.Id).Nodup) (hk : k ∈ u.Kids) (hj : j ∈ u.Kids) (hx : x ∈ desc k) (hy : y ∈ desc j) (he : x.Id = y.Id) : ∃ z, k = z ∧ x ∈ desc j := by
  have := nodup_eq h (desc_kid hk hx) (desc_kid hj hy) he
  subst this
  exact ⟨k, rfl, hy⟩

/-- A unit below which another lies stands on the way to it. -/
theorem way_through (id : api_Id) (u : api_Unit) : ((desc u).map api_Unit.Id).Nodup → ∀ w, pathO id u = some w → ∀ z, z ∈ desc u → (∃ y, y ∈ desc z ∧ y.Id = id) → z ∈ w := by
  refine uind (P := fun u => ((desc u).map api_Unit.Id).Nodup → ∀ w, pathO id u = some w → ∀ z, z ∈ desc u → (∃ y, y ∈ desc z ∧ y.Id = id) → z ∈ w) ?_ u
  intro u ih hn w hw z hz hy
  have hz0 := hz
  rw [desc_eq] at hz
  rcases List.mem_cons.1 hz with rfl | hz
  · by_cases hid : z.Id = id
    · rw [path_self hid] at hw; cases hw; simp
    · obtain ⟨_, v, _, rfl⟩ := path_two hid hw; simp
  · obtain ⟨k, hk, hzk⟩ := List.mem_flatMap.1 hz
    obtain ⟨y, hyz, hye⟩ := hy
    by_cases hid : u.Id = id
    · exfalso
      have hyu := desc_sub hz0 y hyz
      have := nodup_eq hn hyu (desc_self u) (by rw [hye, hid])
      subst this
      have h1 := cnt_sub hyz
      have h2 := cnt_sub hzk
      have h3 := cnt_kid hk
      omega
    · obtain ⟨_, v, hv, rfl⟩ := path_two hid hw
      obtain ⟨j, hj, hje⟩ := List.exists_of_findSome?_eq_some hv
      obtain ⟨y2, hy2⟩ := path_find hje
      obtain ⟨hm, hi⟩ := find_mem id j y2 hy2
      have hyk := desc_sub hzk y hyz
      -- the kid that the way takes is the one that holds z
      have hzj : z ∈ desc j := by
        have e := nodup_eq hn (desc_kid hk hyk) (desc_kid hj hm) (by rw [hye, hi])
        subst e
        -- y lies in both kids
        have hkj : k = j := by
          have hnn := hn
          rw [desc_eq] at hnn
          simp only [List.map_cons, List.nodup_cons] at hnn
          have h2 := hnn.2
          rw [List.map_flatMap, List.flatMap_def] at h2
          rw [List.Nodup, List.pairwise_flatten] at h2
          have h3 := h2.2
          rw [List.pairwise_map] at h3
          obtain ⟨a, ha, hka⟩ := List.mem_iff_getElem.1 hk
          obtain ⟨b, hb, hjb⟩ := List.mem_iff_getElem.1 hj
          rw [List.pairwise_iff_getElem] at h3
          rcases Nat.lt_trichotomy a b with hlt | heq | hlt
          · exact absurd rfl (h3 a b ha hb hlt y.Id (by rw [hka]; exact List.mem_map.2 ⟨y, hyk, rfl⟩) y.Id (by rw [hjb]; exact List.mem_map.2 ⟨y, hm, rfl⟩))
          · subst heq; rw [← hka, ← hjb]
          · exact absurd rfl (h3 b a hb ha hlt y.Id (by rw [hjb]; exact List.mem_map.2 ⟨y, hm, rfl⟩) y.Id (by rw [hka]; exact List.mem_map.2 ⟨y, hyk, rfl⟩))
        rw [← hkj]; exact hzk
      exact List.mem_cons_of_mem _ (ih j hj (nodup_kid hn hj) v hje z hzj ⟨y, hyz, hye⟩)

theorem way_desc (id : api_Id) (u : api_Unit) : ∀ w, pathO id u = some w → ∀ z, z ∈ w → z ∈ desc u ∧ ∃ y, y ∈ desc z ∧ y.Id = id := by
  refine uind (P := fun u => ∀ w, pathO id u = some w → ∀ z, z ∈ w → z ∈ desc u ∧ ∃ y, y ∈ desc z ∧ y.Id = id) ?_ u
  intro u ih w hw z hz
  by_cases hid : u.Id = id
  · rw [path_self hid] at hw
    cases hw
    rw [List.mem_singleton.1 hz]
    exact ⟨desc_self u, u, desc_self u, hid⟩
  · obtain ⟨x, hx⟩ := path_find hw
    obtain ⟨hm, hi⟩ := find_mem id u x hx
    obtain ⟨_, v, hv, rfl⟩ := path_two hid hw
    rcases List.mem_cons.1 hz with rfl | hz
    · exact ⟨desc_self z, x, hm, hi⟩
    · obtain ⟨k, hk, he⟩ := List.exists_of_findSome?_eq_some hv
      obtain ⟨h1, h2⟩ := ih k hk v he z hz
      exact ⟨desc_kid hk h1, h2⟩
theorem way_end (id : api_Id) (u : api_Unit) : ∀ w, pathO id u = some w → ∃ x, w.getLast? = some x ∧ x.Id = id := by
  intro w hw
  obtain ⟨x, hx⟩ := path_find hw
  have h := path_last id u
  rw [hw, hx] at h
  exact ⟨x, h.symm, (find_mem id u x hx).2⟩
end Go.Proofs.Ytfclekegoleiaaa
