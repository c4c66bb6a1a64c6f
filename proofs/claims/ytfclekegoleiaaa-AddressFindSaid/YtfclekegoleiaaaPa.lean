/-
  Trees: their units in order, their sizes; and the checks that a law makes of its arguments first.
-/
import Derived.Test.YtfclekegoleiaaaMdl
import Derived.Test.YtfclekegoleiaaaEv
set_option linter.unusedVariables false
set_option linter.unusedSimpArgs false
namespace Go.Proofs.Ytfclekegoleiaaa
open Go Go.Dec

theorem kid_lt {u k : api_Unit} (h : k ∈ u.Kids) : sizeOf k < sizeOf u := by
  cases u
  have := List.sizeOf_lt_of_mem h
  simp at this ⊢
  omega

theorem uind {P : api_Unit → Prop} (h : ∀ u, (∀ k, k ∈ u.Kids → P k) → P u) (u : api_Unit) : P u :=
  h u (fun k hk => uind h k)
termination_by sizeOf u
decreasing_by exact kid_lt hk

theorem by_lt {u k : api_Item} (h : k ∈ u.By) : sizeOf k < sizeOf u := by
  cases u
  have := List.sizeOf_lt_of_mem h
  simp at this ⊢
  omega

theorem iind {P : api_Item → Prop} (h : ∀ u, (∀ k, k ∈ u.By → P k) → P u) (u : api_Item) : P u :=
  h u (fun k hk => iind h k)
termination_by sizeOf u
decreasing_by exact by_lt hk

/-- A unit and all below it, in order. -/
def desc (u : api_Unit) : List api_Unit := u :: u.Kids.attach.flatMap (fun k => desc k.1)
termination_by sizeOf u
decreasing_by exact kid_lt k.2

theorem desc_eq (u : api_Unit) : desc u = u :: u.Kids.flatMap desc := by
  rw [desc]
  congr 1
  have : ∀ l : List api_Unit, l.attach.flatMap (fun k => desc k.1) = l.flatMap desc := by
    intro l
    rw [List.flatMap_def, List.flatMap_def]
    congr 1
    rw [show (fun k : {x // x ∈ l} => desc k.1) = desc ∘ Subtype.val from rfl, ← List.map_map, List.attach_map_subtype_val]
  exact this _

def cnt (u : api_Unit) : Nat := (desc u).length
theorem cnt_eq (u : api_Unit) : cnt u = 1 + (u.Kids.map cnt).sum := by
  unfold cnt
  rw [desc_eq]
  simp [List.length_flatMap]
  omega
theorem cnt_pos (u : api_Unit) : 1 ≤ cnt u := by rw [cnt_eq]; omega

theorem sum_mem {α : Type} (f : α → Nat) : ∀ {l : List α} {x : α}, x ∈ l → f x ≤ (l.map f).sum
  | y :: l, x, h => by
    rcases List.mem_cons.1 h with rfl | h
    · simp
    · have := sum_mem f h
      simp; omega
theorem sum_len {α : Type} (f : α → Nat) (h : ∀ x, 1 ≤ f x) : ∀ l : List α, l.length ≤ (l.map f).sum
  | [] => by simp
  | x :: l => by
    have := sum_len f h l
    have := h x
    simp; omega
theorem cnt_kid {u k : api_Unit} (h : k ∈ u.Kids) : cnt k < cnt u := by
  rw [cnt_eq u]
  have := sum_mem cnt h
  omega
theorem cnt_kids (u : api_Unit) : u.Kids.length < cnt u := by
  rw [cnt_eq u]
  have := sum_len cnt cnt_pos u.Kids
  omega

/-! ### Sizes -/

theorem size_loop (u : api_Unit) (deep most : Int) (hd0 : 0 ≤ deep) (hd : deep ≤ 20) (hm0 : 0 ≤ most) (hm : most ≤ 1000000) : ∀ (xs : List api_Unit) (slf : Nat → api_Unit → Int → Int → Option Int) (i : Nat) (n0 : Int), u.Kids.drop i = xs →
    (∀ k, k ∈ xs → ∀ m : Int, 0 ≤ m → m ≤ 1000000 → ∃ r, To (fun n => slf n k (deep + 1) m) r ∧ 1 ≤ r ∧ r ≤ m + 1 ∧ (r ≤ m → (cnt k : Int) ≤ r)) → (i : Int) + 1 ≤ n0 → n0 ≤ most + 1 →
    ∃ r, To (fun n => M.r06_size_loop1 u deep most (slf n) n n0 (i : Int)) r ∧ n0 ≤ r ∧ r ≤ most + 1 ∧ (r ≤ most → n0 + ((xs.map cnt).sum : Nat) ≤ r)
  | [], slf, i, n0, hx, hs, h1, h2 => by
    refine ⟨n0, To.succ ?_, by omega, h2, fun h => by simp⟩
    simp only [M.r06_size_loop1]
    refine To.bind (a := false) (To.neg (drop_end hx) To.pure) ?_
    exact To.neg (by simp) To.pure
  | x :: xs, slf, i, n0, hx, hs, h1, h2 => by
    by_cases hle : n0 ≤ most
    · obtain ⟨r1, ht1, hr1, hr2, hr3⟩ := hs x (by simp) (most - n0) (by omega) (by omega)
      have ih := size_loop u deep most hd0 hd hm0 hm xs (fun n => slf (n + 1)) (i + 1) (n0 + r1) (drop_next hx) (fun k hk m a b => by
        obtain ⟨r, h1, h2⟩ := hs k (by simp [hk]) m a b
        exact ⟨r, h1.shift, h2⟩) (by omega) (by omega)
      obtain ⟨r, ht, q1, q2, q3⟩ := ih
      refine ⟨r, To.succ ?_, by omega, q2, fun h => ?_⟩
      · simp only [M.r06_size_loop1]
        refine To.bind (a := true) (To.pos (drop_lt hx) (To.pure.of (by simp [hle]))) ?_
        refine To.pos rfl ?_
        refine To.bindS (drop_idx hx) ?_
        refine To.bindS (addC_eq (by omega) (by omega)) ?_
        refine To.bindS (subC_eq (by omega) (by omega)) ?_
        refine To.bind ht1.shift ?_
        refine To.bindS (addC_eq (by omega) (by omega)) ?_
        refine To.bindS (addC_succ (by omega)) ?_
        exact ht
      · have := q3 h
        have := hr3 (by omega)
        simp only [List.map_cons, List.sum_cons]
        omega
    · refine ⟨n0, To.succ ?_, by omega, h2, fun h => by omega⟩
      simp only [M.r06_size_loop1]
      refine To.bind (a := false) (To.pos (drop_lt hx) (To.pure.of (by simp; omega))) ?_
      exact To.neg (by simp) To.pure

theorem size_ok (u : api_Unit) : ∀ (deep most : Int), 0 ≤ deep → deep ≤ 21 → 0 ≤ most → most ≤ 1000000 → ∃ r, To (fun n => M.r06_size n u deep most) r ∧ 1 ≤ r ∧ r ≤ most + 1 ∧ (r ≤ most → (cnt u : Int) ≤ r) := by
  refine uind (P := fun u => ∀ (deep most : Int), 0 ≤ deep → deep ≤ 21 → 0 ≤ most → most ≤ 1000000 → ∃ r, To (fun n => M.r06_size n u deep most) r ∧ 1 ≤ r ∧ r ≤ most + 1 ∧ (r ≤ most → (cnt u : Int) ≤ r)) ?_ u
  intro u ih deep most h1 h2 h3 h4
  by_cases hd : 20 < deep
  · refine ⟨most + 1, To.succ ?_, by omega, by omega, fun h => by omega⟩
    simp only [M.r06_size]
    refine To.pos hd (To.bindS (addC_eq (by omega) (by omega)) To.pure)
  · obtain ⟨r, ht, q1, q2, q3⟩ := size_loop u deep most h1 (by omega) h3 h4 u.Kids (fun n => M.r06_size n) 0 1 rfl (fun k hk m a b => ih k hk (deep + 1) m (by omega) (by omega) a b) (by omega) (by omega)
    refine ⟨r, To.succ ?_, q1, q2, fun h => ?_⟩
    · simp only [M.r06_size]
      refine To.neg hd (To.bind ht To.pure)
    · rw [cnt_eq]
      have := q3 h
      omega

theorem short_ok (l : List api_Word) : ∃ b, To (fun n => M.r06_short n l) b ∧ (b = true → l.length ≤ 300) := by
  have loop : ∀ (xs : List api_Word) (i : Nat), l.drop i = xs → ∃ c : Unit ⊕ Bool, To (fun n => M.r06_short_loop1 l n (i : Int)) c ∧ (c = .inl () ∨ c = .inr false) := by
    intro xs
    induction xs with
    | nil =>
      intro i hx
      refine ⟨.inl (), To.succ ?_, .inl rfl⟩
      simp only [M.r06_short_loop1]
      exact To.neg (drop_end hx) To.pure
    | cons x xs ih =>
      intro i hx
      by_cases h : 100 < x.Text.length
      · refine ⟨.inr false, To.succ ?_, .inr rfl⟩
        simp only [M.r06_short_loop1]
        exact To.pos (drop_lt hx) (To.bindS (drop_idx hx) (To.pos (by omega) To.pure))
      · obtain ⟨c, h1, h2⟩ := ih (i + 1) (drop_next hx)
        refine ⟨c, To.succ ?_, h2⟩
        simp only [M.r06_short_loop1]
        rw [cast_succ]
        exact To.pos (drop_lt hx) (To.bindS (drop_idx hx) (To.neg (by omega) h1))
  obtain ⟨c, h1, h2⟩ := loop l 0 rfl
  simp only [M.r06_short]
  rcases h2 with rfl | rfl
  · exact ⟨_, To.bind h1 To.pure, fun h => by have := of_decide_eq_true h; omega⟩
  · exact ⟨_, To.bind h1 To.pure, fun h => by cases h⟩

theorem desc_self (u : api_Unit) : u ∈ desc u := by rw [desc_eq]; simp
theorem desc_kid {u k x : api_Unit} (hk : k ∈ u.Kids) (hx : x ∈ desc k) : x ∈ desc u := by
  rw [desc_eq]
  exact List.mem_cons_of_mem _ (List.mem_flatMap.2 ⟨k, hk, hx⟩)

/-- Every label in the tree is short. -/
def labs (u : api_Unit) : Prop := ∀ x, x ∈ desc u → x.Label.length ≤ 5000 ∧ x.Head.length ≤ 5000 ∧ x.Words.length ≤ 5000

theorem labs_kid {u k : api_Unit} (h : labs u) (hk : k ∈ u.Kids) : labs k := fun x hx => h x (desc_kid hk hx)

theorem words_ok (u : api_Unit) : ∃ b, To (fun n => M.r06_words n u) b ∧ (b = true → labs u) := by
  refine uind (P := fun u => ∃ b, To (fun n => M.r06_words n u) b ∧ (b = true → labs u)) ?_ u
  intro u ih
  have loop : ∀ (xs : List api_Unit) (slf : Nat → api_Unit → Option Bool) (i : Nat), u.Kids.drop i = xs → (∀ k, k ∈ xs → ∃ b, To (fun n => slf n k) b ∧ (b = true → labs k)) →
      To (fun n => M.r06_words_loop1 u (slf n) n (i : Int)) (.inr false) ∨ (To (fun n => M.r06_words_loop1 u (slf n) n (i : Int)) (.inl ()) ∧ ∀ k, k ∈ xs → labs k) := by
    intro xs
    induction xs with
    | nil =>
      intro slf i hx hs
      refine .inr ⟨To.succ ?_, fun k hk => by cases hk⟩
      simp only [M.r06_words_loop1]
      exact To.neg (drop_end hx) To.pure
    | cons x xs ih =>
      intro slf i hx hs
      obtain ⟨b, hb, hl⟩ := hs x (by simp)
      cases b with
      | false =>
        refine .inl (To.succ ?_)
        simp only [M.r06_words_loop1]
        exact To.pos (drop_lt hx) (To.bindS (drop_idx hx) (To.bind hb.shift (To.pos rfl To.pure)))
      | true =>
        rcases ih (fun n => slf (n + 1)) (i + 1) (drop_next hx) (fun k hk => by
          obtain ⟨b, h1, h2⟩ := hs k (by simp [hk])
          exact ⟨b, h1.shift, h2⟩) with h | ⟨h, hk⟩
        · refine .inl (To.succ ?_)
          simp only [M.r06_words_loop1]
          refine To.pos (drop_lt hx) (To.bindS (drop_idx hx) (To.bind hb.shift (To.neg (by simp) ?_)))
          rw [cast_succ]; exact h
        · refine .inr ⟨To.succ ?_, fun k hk' => ?_⟩
          · simp only [M.r06_words_loop1]
            refine To.pos (drop_lt hx) (To.bindS (drop_idx hx) (To.bind hb.shift (To.neg (by simp) ?_)))
            rw [cast_succ]; exact h
          · rcases List.mem_cons.1 hk' with rfl | hk'
            · exact hl rfl
            · exact hk k hk'
  by_cases hlab : 30 < u.Label.length
  · refine ⟨false, To.succ ?_, fun h => by cases h⟩
    simp only [M.r06_words]
    exact To.bind (a := true) (To.pos (by omega) To.pure) (To.pos rfl To.pure)
  · obtain ⟨b1, k1, l1⟩ := short_ok u.Head
    obtain ⟨b2, k2, l2⟩ := short_ok u.Words
    have ha : To (fun n => Option.bind (M.r06_short n u.Head) fun short => if short = false then some true else Option.bind (M.r06_short n u.Words) fun short1 => some (!short1)) (!(b1 && b2)) := by
      refine To.bind k1 ?_
      cases b1 with
      | false => exact To.pos rfl To.pure
      | true => exact To.neg (by simp) (To.bind k2 (To.pure.of (by simp)))
    cases hb : (b1 && b2) with
    | false =>
      rw [hb] at ha
      refine ⟨false, To.succ ?_, fun h => by cases h⟩
      simp only [M.r06_words]
      exact To.bind (a := true) (To.neg (by omega) ha) (To.pos rfl To.pure)
    | true =>
      rw [hb] at ha
      rw [Bool.and_eq_true] at hb
      have e1 := l1 hb.1
      have e2 := l2 hb.2
      rcases loop u.Kids (fun n => M.r06_words n) 0 rfl ih with h | ⟨h, hk⟩
      · refine ⟨false, To.succ ?_, fun h => by cases h⟩
        simp only [M.r06_words]
        exact To.bind (a := false) (To.neg (by omega) ha) (To.neg (by simp) (To.bind h To.pure))
      · refine ⟨true, To.succ ?_, fun _ x hx => ?_⟩
        · simp only [M.r06_words]
          exact To.bind (a := false) (To.neg (by omega) ha) (To.neg (by simp) (To.bind h To.pure))
        · rw [desc_eq] at hx
          rcases List.mem_cons.1 hx with rfl | hx
          · exact ⟨by omega, by omega, by omega⟩
          · obtain ⟨k, h1, h2⟩ := List.mem_flatMap.1 hx
            exact hk k h1 x h2

theorem few_ok (u : api_Unit) (most : Int) (h0 : 0 ≤ most) (h1 : most ≤ 1000000) : ∃ b, To (fun n => M.r06_Few n u most) b ∧ (b = true → (cnt u : Int) ≤ most ∧ labs u) := by
  obtain ⟨r, ht, q1, q2, q3⟩ := size_ok u 0 most (by omega) (by omega) h0 h1
  by_cases hr : r ≤ most
  · obtain ⟨b, hb, hl⟩ := words_ok u
    refine ⟨b, ?_, fun h => ⟨by have := q3 hr; omega, hl h⟩⟩
    simp only [M.r06_Few]
    exact To.bind ht (To.pos hr (To.bind hb To.pure))
  · refine ⟨false, ?_, fun h => by cases h⟩
    simp only [M.r06_Few]
    exact To.bind ht (To.neg hr To.pure)

/-! ### The checks are total on small trees -/

theorem texts_tot (l : List api_Word) (hl : l.length ≤ 1000) : Tot (fun n => M.r06_Texts n l) := by
  have loop : ∀ (xs : List api_Word) (i : Nat) (out : List Str), l.drop i = xs → out.length + xs.length ≤ 1000 → Tot (fun n => M.r06_Texts_loop1 l n out (i : Int)) := by
    intro xs
    induction xs with
    | nil =>
      intro i out hx _
      refine Tot.succ ?_
      simp only [M.r06_Texts_loop1]
      exact Tot.neg (drop_end hx) Tot.pure
    | cons x xs ih =>
      intro i out hx h
      simp only [List.length_cons] at h
      refine Tot.succ ?_
      simp only [M.r06_Texts_loop1]
      refine Tot.pos (drop_lt hx) (Tot.bindS (drop_idx hx) (Tot.bindS (appC_eq (by simp; omega)) ?_))
      rw [cast_succ]
      exact ih (i + 1) _ (drop_next hx) (by simp; omega)
  simp only [M.r06_Texts]
  exact Tot.bind (loop l 0 [] rfl (by simpa using hl)) fun _ _ => Tot.pure

theorem word_tot (s : Str) : Tot (fun n => M.r04_Word n s) := by
  have loop : ∀ (xs : Str) (i : Nat), s.drop i = xs → Tot (fun n => M.r04_Word_loop1 s n (i : Int)) := by
    intro xs
    induction xs with
    | nil =>
      intro i hx
      refine Tot.succ ?_
      simp only [M.r04_Word_loop1]
      exact Tot.neg (drop_end hx) Tot.pure
    | cons x xs ih =>
      intro i hx
      refine Tot.succ ?_
      simp only [M.r04_Word_loop1]
      refine Tot.pos (drop_lt hx) (Tot.bindS (drop_idx hx) (Tot.ite (fun _ => Tot.pure) fun _ => Tot.bindS (drop_idx hx) (Tot.ite (fun _ => Tot.pure) fun _ => ?_)))
      rw [cast_succ]
      exact ih (i + 1) (drop_next hx)
  simp only [M.r04_Word]
  refine Tot.bind (Tot.ite (fun _ => Tot.pure) fun _ => Tot.pure) fun a _ => Tot.ite (fun _ => Tot.pure) fun _ => Tot.bind (loop s 0 rfl) fun b _ => ?_
  cases b <;> exact Tot.pure

theorem may04_tot (l : List Str) : Tot (fun n => M.r04_May n l) := by
  have loop : ∀ (xs : List Str) (i : Nat), l.drop i = xs → Tot (fun n => M.r04_May_loop1 l n (i : Int)) := by
    intro xs
    induction xs with
    | nil =>
      intro i hx
      refine Tot.succ ?_
      simp only [M.r04_May_loop1]
      exact Tot.neg (drop_end hx) Tot.pure
    | cons x xs ih =>
      intro i hx
      refine Tot.succ ?_
      simp only [M.r04_May_loop1]
      refine Tot.pos (drop_lt hx) (Tot.bindS (drop_idx hx) (Tot.bind (word_tot x) fun _ _ => Tot.ite (fun _ => Tot.pure) fun _ => ?_))
      rw [cast_succ]
      exact ih (i + 1) (drop_next hx)
  simp only [M.r04_May]
  refine Tot.ite (fun _ => Tot.pure) fun _ => Tot.bind (loop l 0 rfl) fun b _ => ?_
  cases b <;> exact Tot.pure

theorem row_tot (l : List api_Word) : Tot (fun n => M.r06_row n l) := by
  simp only [M.r06_row]
  exact Tot.ite (fun h => Tot.bind (texts_tot l (by omega)) fun _ _ => Tot.bind (may04_tot _) fun _ _ => Tot.pure) fun _ => Tot.pure
end Go.Proofs.Ytfclekegoleiaaa
