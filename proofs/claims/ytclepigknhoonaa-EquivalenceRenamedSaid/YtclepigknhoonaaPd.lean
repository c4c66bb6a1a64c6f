/-
  Chapter 48: the table of destinations, the text of a unit, what differs.
-/
import Derived.Test.YtclepigknhoonaaPs
set_option linter.unusedVariables false
set_option linter.unusedSimpArgs false
namespace Go.Proofs.Ytclepigknhoonaa
open Go Go.Dec

/-! ## Few units with short texts -/

def fineU (u : api_Unit) : Prop := ∀ x, x ∈ desc u → x.Words.length ≤ 300 ∧ ∀ w, w ∈ x.Words → w.Text.length ≤ 100

def fineT (u : api_Unit) : Prop := ∀ x, x ∈ desc u → ∀ w, w ∈ x.Words → w.Text.length ≤ 100
theorem fineU.t {u : api_Unit} (h : fineU u) : fineT u := fun x hx => (h x hx).2

theorem short_fine (l : List api_Word) : ∃ b, To (fun n => M.r06_short n l) b ∧ (b = true → l.length ≤ 300 ∧ ∀ w, w ∈ l → w.Text.length ≤ 100) := by
  have loop : ∀ (xs : List api_Word) (i : Nat), l.drop i = xs → ∃ c : Unit ⊕ Bool, To (fun n => M.r06_short_loop1 l n (i : Int)) c ∧ ((c = .inl () ∧ ∀ w, w ∈ xs → w.Text.length ≤ 100) ∨ c = .inr false) := by
    intro xs
    induction xs with
    | nil =>
      intro i hx
      refine ⟨.inl (), To.succ ?_, .inl ⟨rfl, fun w hw => by cases hw⟩⟩
      simp only [M.r06_short_loop1]
      exact To.neg (drop_end hx) To.pure
    | cons x xs ih =>
      intro i hx
      by_cases h : 100 < x.Text.length
      · refine ⟨.inr false, To.succ ?_, .inr rfl⟩
        simp only [M.r06_short_loop1]
        exact To.pos (drop_lt hx) (To.bindS (drop_idx hx) (To.pos (by omega) To.pure))
      · obtain ⟨c, h1, h2⟩ := ih (i + 1) (drop_next hx)
        refine ⟨c, To.succ ?_, h2.imp (fun ⟨e, k⟩ => ⟨e, fun w hw => ?_⟩) id⟩
        · simp only [M.r06_short_loop1]
          rw [cast_succ]
          exact To.pos (drop_lt hx) (To.bindS (drop_idx hx) (To.neg (by omega) h1))
        · rcases List.mem_cons.1 hw with rfl | hw
          · omega
          · exact k w hw
  obtain ⟨c, h1, h2⟩ := loop l 0 rfl
  simp only [M.r06_short]
  rcases h2 with ⟨rfl, k⟩ | rfl
  · exact ⟨_, To.bind h1 To.pure, fun h => ⟨by have := of_decide_eq_true h; omega, k⟩⟩
  · exact ⟨_, To.bind h1 To.pure, fun h => by cases h⟩

theorem words_fine (u : api_Unit) : ∃ b, To (fun n => M.r06_words n u) b ∧ (b = true → fineU u) := by
  refine uind (P := fun u => ∃ b, To (fun n => M.r06_words n u) b ∧ (b = true → fineU u)) ?_ u
  intro u ih
  have loop : ∀ (xs : List api_Unit) (slf : Nat → api_Unit → Option Bool) (i : Nat), u.Kids.drop i = xs → (∀ k, k ∈ xs → ∃ b, To (fun n => slf n k) b ∧ (b = true → fineU k)) →
      To (fun n => M.r06_words_loop1 u (slf n) n (i : Int)) (.inr false) ∨ (To (fun n => M.r06_words_loop1 u (slf n) n (i : Int)) (.inl ()) ∧ ∀ k, k ∈ xs → fineU k) := by
    intro xs
    induction xs with
    | nil =>
      intro slf i hx hs
      refine .inr ⟨To.succ ?_, fun k hk => by cases hk⟩
      simp only [M.r06_words_loop1]
      exact To.neg (drop_end hx) To.pure
    | cons x xs ih =>
      intro slf i hx hs
      obtain ⟨b, hb, hl⟩ := hs x (by simp)
      cases b with
      | false =>
        refine .inl (To.succ ?_)
        simp only [M.r06_words_loop1]
        exact To.pos (drop_lt hx) (To.bindS (drop_idx hx) (To.bind hb.shift (To.pos rfl To.pure)))
      | true =>
        rcases ih (fun n => slf (n + 1)) (i + 1) (drop_next hx) (fun k hk => by
          obtain ⟨b, h1, h2⟩ := hs k (by simp [hk])
          exact ⟨b, h1.shift, h2⟩) with h | ⟨h, hk⟩
        · refine .inl (To.succ ?_)
          simp only [M.r06_words_loop1]
          refine To.pos (drop_lt hx) (To.bindS (drop_idx hx) (To.bind hb.shift (To.neg (by simp) ?_)))
          rw [cast_succ]; exact h
        · refine .inr ⟨To.succ ?_, fun k hk' => ?_⟩
          · simp only [M.r06_words_loop1]
            refine To.pos (drop_lt hx) (To.bindS (drop_idx hx) (To.bind hb.shift (To.neg (by simp) ?_)))
            rw [cast_succ]; exact h
          · rcases List.mem_cons.1 hk' with rfl | hk'
            · exact hl rfl
            · exact hk k hk'
  by_cases hlab : 30 < u.Label.length
  · refine ⟨false, To.succ ?_, fun h => by cases h⟩
    simp only [M.r06_words]
    exact To.bind (a := true) (To.pos (by omega) To.pure) (To.pos rfl To.pure)
  · obtain ⟨b1, k1, l1⟩ := short_fine u.Head
    obtain ⟨b2, k2, l2⟩ := short_fine u.Words
    have ha : To (fun n => Option.bind (M.r06_short n u.Head) fun short => if short = false then some true else Option.bind (M.r06_short n u.Words) fun short1 => some (!short1)) (!(b1 && b2)) := by
      refine To.bind k1 ?_
      cases b1 with
      | false => exact To.pos rfl To.pure
      | true => exact To.neg (by simp) (To.bind k2 (To.pure.of (by simp)))
    cases hb : (b1 && b2) with
    | false =>
      rw [hb] at ha
      refine ⟨false, To.succ ?_, fun h => by cases h⟩
      simp only [M.r06_words]
      exact To.bind (a := true) (To.neg (by omega) ha) (To.pos rfl To.pure)
    | true =>
      rw [hb] at ha
      rw [Bool.and_eq_true] at hb
      have e2 := l2 hb.2
      rcases loop u.Kids (fun n => M.r06_words n) 0 rfl ih with h | ⟨h, hk⟩
      · refine ⟨false, To.succ ?_, fun h => by cases h⟩
        simp only [M.r06_words]
        exact To.bind (a := false) (To.neg (by omega) ha) (To.neg (by simp) (To.bind h To.pure))
      · refine ⟨true, To.succ ?_, fun _ x hx => ?_⟩
        · simp only [M.r06_words]
          exact To.bind (a := false) (To.neg (by omega) ha) (To.neg (by simp) (To.bind h To.pure))
        · rw [desc_eq] at hx
          rcases List.mem_cons.1 hx with rfl | hx
          · exact e2
          · obtain ⟨k, h1, h2⟩ := List.mem_flatMap.1 hx
            exact hk k h1 x h2

structure Ok (u : api_Unit) : Prop where
  c : cnt u ≤ 20
  l : labs u
  f : fineU u

theorem few_fine (u : api_Unit) : ∃ b, To (fun n => M.r06_Few n u 20) b ∧ (b = true → Ok u) := by
  obtain ⟨r, ht, q1, q2, q3⟩ := size_ok u 0 20 (by omega) (by omega) (by omega) (by omega)
  by_cases hr : r ≤ 20
  · obtain ⟨b, hb, hl⟩ := words_ok u
    obtain ⟨b', hb', hf⟩ := words_fine u
    have e := hb.det hb'
    subst e
    refine ⟨b, ?_, fun h => ⟨by have := q3 hr; omega, hl h, hf h⟩⟩
    simp only [M.r06_Few]
    exact To.bind ht (To.pos hr (To.bind hb To.pure))
  · refine ⟨false, ?_, fun h => by cases h⟩
    simp only [M.r06_Few]
    exact To.bind ht (To.neg hr To.pure)

/-! ## Texts -/

def tx (l : List api_Word) : List Str := l.map api_Word.Text

theorem texts_ok (l : List api_Word) (h : l.length ≤ 1000000) : M.equivalence_texts l = some (tx l) := by
  have loop : ∀ (l : List api_Word) (out : List Str), out.length + l.length ≤ 1000000 → M.equivalence_texts_loop1 l out = some (out ++ tx l) := by
    intro l
    induction l with
    | nil => intro out _; simp [M.equivalence_texts_loop1, tx]
    | cons x xs ih =>
      intro out h
      simp only [List.length_cons] at h
      simp only [M.equivalence_texts_loop1]
      rw [appC_eq (by simp; omega)]
      show M.equivalence_texts_loop1 xs _ = _
      rw [ih _ (by simp; omega)]; simp [tx]
  simp only [M.equivalence_texts]
  rw [loop l [] (by simpa using h)]; simp

theorem equalS (a b : List Str) : To (fun n => M.wordseq_Equal n a b) (decide (a = b)) := by
  have loop : ∀ (xs ys : List Str) (i : Nat), a.drop i = xs → b.drop i = ys → xs.length = ys.length → To (fun n => M.slices_Equal_string_string_loop1 a b n (i : Int)) (if xs = ys then .inl () else .inr false) := by
    intro xs
    induction xs with
    | nil =>
      intro ys i hx hy hl
      have : ys = [] := List.length_eq_zero_iff.1 hl.symm
      subst this
      refine To.succ ?_
      simp only [M.slices_Equal_string_string_loop1]
      exact To.neg (drop_end hx) (To.pure.of (by simp))
    | cons x xs ih =>
      intro ys i hx hy hl
      cases ys with
      | nil => simp at hl
      | cons y ys =>
        refine To.succ ?_
        simp only [M.slices_Equal_string_string_loop1]
        refine To.pos (drop_lt hx) (To.bindS (drop_idx hx) (To.bindS (drop_idx hy) ?_))
        by_cases h : x = y
        · subst h
          refine To.neg (by simp) ?_
          rw [cast_succ]
          exact (ih ys (i + 1) (drop_next hx) (drop_next hy) (by simpa using hl)).of (by simp)
        · exact To.pos (by simp [h]) (To.pure.of (by simp [h]))
  simp only [M.wordseq_Equal, M.slices_Equal_string_string]
  refine To.bind (a := decide (a = b)) ?_ To.pure
  by_cases hl : a.length = b.length
  · refine To.neg (by omega) (To.bind (loop a b 0 rfl rfl hl) ?_)
    by_cases h : a = b
    · rw [if_pos h]; exact To.pure.of (by simp [h])
    · rw [if_neg h]; exact To.pure.of (by simp [h])
  · exact To.pos (by omega) (To.pure.of (by
      have : ¬ a = b := fun e => hl (by rw [e])
      simp [this]))

theorem equalI (a b : List api_Id) : To (fun n => M.slices_Equal_api_Id_api_Id n a b) (decide (a = b)) := by
  have loop : ∀ (xs ys : List api_Id) (i : Nat), a.drop i = xs → b.drop i = ys → xs.length = ys.length → To (fun n => M.slices_Equal_api_Id_api_Id_loop1 a b n (i : Int)) (if xs = ys then .inl () else .inr false) := by
    intro xs
    induction xs with
    | nil =>
      intro ys i hx hy hl
      have : ys = [] := List.length_eq_zero_iff.1 hl.symm
      subst this
      refine To.succ ?_
      simp only [M.slices_Equal_api_Id_api_Id_loop1]
      exact To.neg (drop_end hx) (To.pure.of (by simp))
    | cons x xs ih =>
      intro ys i hx hy hl
      cases ys with
      | nil => simp at hl
      | cons y ys =>
        refine To.succ ?_
        simp only [M.slices_Equal_api_Id_api_Id_loop1]
        refine To.pos (drop_lt hx) (To.bindS (drop_idx hx) (To.bindS (drop_idx hy) ?_))
        by_cases h : x = y
        · subst h
          refine To.neg (by simp) ?_
          rw [cast_succ]
          exact (ih ys (i + 1) (drop_next hx) (drop_next hy) (by simpa using hl)).of (by simp)
        · exact To.pos h (To.pure.of (by simp [h]))
  simp only [M.slices_Equal_api_Id_api_Id]
  by_cases hl : a.length = b.length
  · refine To.neg (by omega) (To.bind (loop a b 0 rfl rfl hl) ?_)
    by_cases h : a = b
    · rw [if_pos h]; exact To.pure.of (by simp [h])
    · rw [if_neg h]; exact To.pure.of (by simp [h])
  · exact To.pos (by omega) (To.pure.of (by
      have : ¬ a = b := fun e => hl (by rw [e])
      simp [this]))

/-! ## Maps -/

theorem mget_set {α β : Type} [DecidableEq α] (k x : α) (v z : β) : ∀ m : List (α × β), mget (mset m k v) x z = if x = k then v else mget m x z
  | [] => by
    by_cases h : x = k
    · simp [mset, mget, h]
    · simp [mset, mget, h]
  | p :: m => by
    unfold mset
    by_cases hp : k = p.1
    · rw [if_pos hp]
      unfold mget
      by_cases h : x = k
      · simp [h]
      · rw [if_neg h, if_neg h]
        have : ¬ x = p.1 := fun e => h (e.trans hp.symm)
        rw [if_neg this]
    · rw [if_neg hp]
      unfold mget
      by_cases h : x = p.1
      · have : ¬ x = k := fun e => hp (e.symm.trans h)
        rw [if_pos h, if_pos h, if_neg this]
      · rw [if_neg h, if_neg h]
        exact mget_set k x v z m

theorem mhas_set {α β : Type} [DecidableEq α] (k x : α) (v : β) : ∀ m : List (α × β), mhas (mset m k v) x = (decide (x = k) || mhas m x)
  | [] => by
    by_cases h : x = k
    · simp [mset, mhas, h]
    · simp [mset, mhas, h]
  | p :: m => by
    unfold mset
    by_cases hp : k = p.1
    · rw [if_pos hp]
      unfold mhas
      by_cases h : x = k
      · simp [h]
      · have : ¬ x = p.1 := fun e => h (e.trans hp.symm)
        simp [h, this]
    · rw [if_neg hp]
      unfold mhas
      by_cases h : x = p.1
      · simp [h]
      · simp only [if_neg h]
        exact mhas_set k x v m

/-! ## The table -/

def dst (l : List api_Destination) (id : api_Id) : List api_Id := (l.filter (fun d => decide (d.From = id))).map (·.To)
def src (l : List api_Destination) (id : api_Id) : List api_Id := (l.filter (fun d => decide (d.To = id))).map (·.From)

structure Tab (b : api_Unit) (l : List api_Destination) (t : equivalence_table) : Prop where
  b : t.b_ = b
  to : ∀ id, mget t.to_ id [] = dst l id
  fr : ∀ id, mget t.from_ id [] = src l id

theorem made_ok (a b : api_Unit) (l : List api_Destination) (h : l.length ≤ 1000000) : ∃ t, M.equivalence_made a b l = some t ∧ Tab b l t := by
  have loop : ∀ (l : List api_Destination) (v w : List (api_Id × List api_Id)) (k : Nat), (∀ id, (mget v id []).length ≤ k) → (∀ id, (mget w id []).length ≤ k) → k + l.length ≤ 1000000 →
      ∃ v' w', M.equivalence_made_loop1 l v w = some (v', w') ∧ (∀ id, mget v' id [] = mget v id [] ++ dst l id) ∧ (∀ id, mget w' id [] = mget w id [] ++ src l id) := by
    intro l
    induction l with
    | nil => intro v w k _ _ _; exact ⟨v, w, rfl, fun id => by simp [dst], fun id => by simp [src]⟩
    | cons d l ih =>
      intro v w k hv hw hk
      simp only [List.length_cons] at hk
      have h1 := hv d.From
      have h2 := hw d.To
      obtain ⟨v', w', q1, q2, q3⟩ := ih (mset v d.From (mget v d.From [] ++ [d.To])) (mset w d.To (mget w d.To [] ++ [d.From])) (k + 1) (fun id => by
        rw [mget_set]; split
        · simp; omega
        · have := hv id; omega) (fun id => by
        rw [mget_set]; split
        · simp; omega
        · have := hw id; omega) (by omega)
      refine ⟨v', w', ?_, fun id => ?_, fun id => ?_⟩
      · simp only [M.equivalence_made_loop1]
        rw [appC_eq (by simp; omega), Option.bind_some, appC_eq (by simp; omega)]
        exact q1
      · rw [q2, mget_set]
        by_cases he : id = d.From
        · subst he; simp [dst]
        · have : ¬ d.From = id := fun e => he e.symm
          simp [dst, he, this]
      · rw [q3, mget_set]
        by_cases he : id = d.To
        · subst he; simp [src]
        · have : ¬ d.To = id := fun e => he e.symm
          simp [src, he, this]
  obtain ⟨v', w', q1, q2, q3⟩ := loop l [] [] 0 (fun _ => by simp [mget]) (fun _ => by simp [mget]) (by omega)
  refine ⟨({ (⟨a, b, [], []⟩ : equivalence_table) with to_ := v', from_ := w' } : equivalence_table), ?_, ⟨rfl, fun id => ?_, fun id => ?_⟩⟩
  · simp only [M.equivalence_made]
    rw [q1]; rfl
  · rw [q2]; simp [mget]
  · rw [q3]; simp [mget]

/-- Is the unit in the tree, below its root? -/
def inB (u : api_Unit) (id : api_Id) : Bool := (findO id u).isSome && decide (id ≠ u.Id)

theorem inner_ok (u : api_Unit) (id : api_Id) (hc : cnt u ≤ 10000) (hl : labs u) : To (fun n => M.equivalence_inner n u id) (inB u id) := by
  simp only [M.equivalence_inner]
  refine To.bind (find_u id u hc hl) ?_
  unfold findR inB
  cases findO id u with
  | none => exact To.neg (by simp) (To.pure.of (by simp))
  | some x => exact To.pos rfl (To.pure.of (by simp))

def goF (b : api_Unit) (l : List api_Destination) (id : api_Id) : api_Id × Bool := match dst l id with
  | [x] => if inB b x then (x, true) else (⟨0, 0, 0⟩, false)
  | _ => (⟨0, 0, 0⟩, false)

theorem goes_ok {b : api_Unit} {l : List api_Destination} {t : equivalence_table} (ht : Tab b l t) (hc : cnt b ≤ 10000) (hl : labs b) (id : api_Id) : To (fun n => M.equivalence_table_goes n t id) (goF b l id) := by
  simp only [M.equivalence_table_goes, ht.to, ht.b]
  unfold goF
  match hd : dst l id with
  | [] => exact To.pos (by simp) To.pure
  | [x] =>
    refine To.neg (by simp) (To.bindS idx_zero (To.bind (inner_ok b x hc hl) ?_))
    cases h : inB b x with
    | false => exact To.pos rfl (To.pure.of (by simp [h]))
    | true => exact To.neg (by simp) (To.bindS idx_zero (To.pure.of (by simp [h])))
  | x :: y :: r => exact To.pos (by simp; omega) To.pure

/-- The destinations of a list of units. -/
def carF (b : api_Unit) (l : List api_Destination) (ids : List api_Id) : List api_Id × Bool :=
  if ids.all (fun id => (goF b l id).2) then (ids.map (fun id => (goF b l id).1), decide (0 < ids.length)) else ([], false)

theorem carried_ok {b : api_Unit} {l : List api_Destination} {t : equivalence_table} (ht : Tab b l t) (hc : cnt b ≤ 10000) (hl : labs b) (ids : List api_Id) (hi : ids.length ≤ 1000000) : To (fun n => M.equivalence_table_carried n t ids) (carF b l ids) := by
  have loop : ∀ (ids : List api_Id) (out : List api_Id), out.length + ids.length ≤ 1000000 →
      To (fun n => M.equivalence_table_carried_loop1 n t ids out) (if ids.all (fun id => (goF b l id).2) then .inl (out ++ ids.map (fun id => (goF b l id).1)) else .inr ([], false)) := by
    intro ids
    induction ids with
    | nil => intro out _; exact To.pure.of (by simp)
    | cons x xs ih =>
      intro out h
      simp only [List.length_cons] at h
      simp only [M.equivalence_table_carried_loop1]
      refine To.bind (goes_ok ht hc hl x) ?_
      cases hg : (goF b l x).2 with
      | false => exact To.pos rfl (To.pure.of (by simp [hg]))
      | true =>
        refine To.neg (by simp) (To.bindS (appC_eq (by simp; omega)) ?_)
        exact (ih _ (by simp; omega)).of (by simp [hg])
  simp only [M.equivalence_table_carried]
  have hl := loop ids [] (by simpa using hi)
  unfold carF
  by_cases h : ids.all (fun id => (goF b l id).2) = true
  · rw [if_pos h] at hl ⊢
    exact To.bind hl (To.pure.of (by simp))
  · rw [if_neg h] at hl ⊢
    exact To.bind hl To.pure

theorem car_nil (b : api_Unit) (l : List api_Destination) : carF b l [] = ([], false) := by simp [carF]
end Go.Proofs.Ytclepigknhoonaa
