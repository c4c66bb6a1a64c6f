/-
  Addresses: the program finds what the reference finds.
-/
import Derived.Test.YtfclekegoleiaaaPb
set_option linter.unusedVariables false
set_option linter.unusedSimpArgs false
namespace Go.Proofs.Ytfclekegoleiaaa
open Go Go.Dec

def bookB (s : api_Step) : Bool := decide (s.Kind = 0) && (s.Label == ([] : Str))
def calledB (x : api_Unit) (s : api_Step) : Bool := decide (x.Kind = s.Kind) && (x.Label == s.Label)
def stepB (s : api_Step) : Bool := decide (1 ≤ s.Kind) && decide (s.Kind ≤ 7) && labB s.Label
def stepsB : List api_Step → Bool
  | [] => true
  | s :: p => stepB s && stepsB p
/-- Which addresses are valid. -/
def validB (p : List api_Step) : Bool :=
  (match p with
    | [] => true
    | s :: q => (bookB s || stepB s) && stepsB q) && decide (p.length ≤ 9)

theorem book_a (s : api_Step) : M.address_book s = some (bookB s) := by
  simp only [M.address_book, bookB]
  split <;> simp_all
theorem book_r (s : api_Step) : M.r07_book s = some (bookB s) := by
  simp only [M.r07_book, bookB]
  split <;> simp_all
theorem called_a (x : api_Unit) (s : api_Step) : M.address_called x s = some (calledB x s) := by
  simp only [M.address_called, calledB]
  split <;> simp_all
theorem called_r (x : api_Unit) (s : api_Step) : M.r07_at x s = some (calledB x s) := by
  simp only [M.r07_at, calledB]
  split <;> simp_all

theorem valid_loop (p : List api_Step) (i : Int) (hi : 1 ≤ i) : To (fun n => M.address_Valid_loop1 n p i) (if stepsB p then .inl () else .inr false) := by
  induction p generalizing i with
  | nil => simp only [M.address_Valid_loop1]; exact To.pure
  | cons s p ih =>
    simp only [M.address_Valid_loop1]
    refine To.bind (a := false) (To.neg (by omega) To.pure) (To.neg (by simp) ?_)
    by_cases h1 : s.Kind ≤ 0
    · exact To.pos h1 (To.pure.of (by rw [if_neg]; simp [stepsB, stepB]; omega))
    refine To.neg h1 ?_
    by_cases h2 : 7 < s.Kind
    · exact To.pos h2 (To.pure.of (by rw [if_neg]; simp [stepsB, stepB]; omega))
    refine To.neg h2 (To.bind (label_ok s.Label) ?_)
    cases hl : labB s.Label with
    | false => exact To.pos rfl (To.pure.of (by rw [if_neg]; simp [stepsB, stepB, hl]))
    | true =>
      refine To.neg (by simp) ((ih (i + 1) (by omega)).of ?_)
      have : stepB s = true := by simp [stepB, hl]; omega
      simp [stepsB, this]

theorem valid_ok (p : List api_Step) : To (fun n => M.address_Valid n p) (validB p) := by
  simp only [M.address_Valid]
  cases p with
  | nil =>
    simp only [M.address_Valid_loop1]
    exact To.bind (f := fun _ => some (Sum.inl ())) To.pure (To.pure.of (by simp [validB]))
  | cons s p =>
    have fin : ∀ b : Bool, To (fun n => M.address_Valid_loop1 n (s :: p) 0) (if b then .inl () else .inr false) → b = ((bookB s || stepB s) && stepsB p) → To (fun n => Option.bind (M.address_Valid_loop1 n (s :: p) 0) fun
        | .inl _ => some (decide (((s :: p).length : Int) ≤ (9 : Int)))
        | .inr ret0 => some ret0) (validB (s :: p)) := by
      intro b hb he
      refine To.bind hb ?_
      cases b with
      | true => exact To.pure.of (by simp only [validB, ← he]; simp; omega)
      | false => exact To.pure.of (by simp [validB, ← he])
    refine fin ((bookB s || stepB s) && stepsB p) ?_ rfl
    simp only [M.address_Valid_loop1]
    refine To.bind (a := bookB s) (To.pos (by simp) (To.bindS (book_a s) To.pure)) ?_
    cases hb : bookB s with
    | true =>
      refine To.pos rfl ((valid_loop p (0 + 1) (by omega)).of (by simp))
    | false =>
      refine To.neg (by simp) ?_
      simp only [Bool.false_or]
      by_cases h1 : s.Kind ≤ 0
      · exact To.pos h1 (To.pure.of (by rw [if_neg]; simp [stepB]; omega))
      refine To.neg h1 ?_
      by_cases h2 : 7 < s.Kind
      · exact To.pos h2 (To.pure.of (by rw [if_neg]; simp [stepB]; omega))
      refine To.neg h2 (To.bind (label_ok s.Label) ?_)
      cases hl : labB s.Label with
      | false => exact To.pos rfl (To.pure.of (by rw [if_neg]; simp [stepB, hl]))
      | true =>
        refine To.neg (by simp) ((valid_loop p (0 + 1) (by omega)).of ?_)
        have : stepB s = true := by simp [stepB, hl]; omega
        simp [this]

theorem may_loop (p : List api_Step) (hp : ∀ y, y ∈ p → y.Label.length ≤ 1000000000) : ∀ (xs : List api_Step) (i : Nat), 1 ≤ i → p.drop i = xs → To (fun n => M.r07_May_loop1 p n (i : Int)) (if stepsB xs then .inl () else .inr false) := by
  intro xs
  induction xs with
  | nil =>
    intro i _ hx
    refine To.succ ?_
    simp only [M.r07_May_loop1]
    exact To.neg (drop_end hx) To.pure
  | cons s xs ih =>
    intro i hi hx
    refine To.succ ?_
    simp only [M.r07_May_loop1]
    refine To.pos (drop_lt hx) (To.bind (a := false) (To.neg (by omega) To.pure) (To.neg (by simp) (To.bindS (drop_idx hx) ?_)))
    by_cases h1 : s.Kind < 1
    · exact To.pos h1 (To.pure.of (by rw [if_neg]; simp [stepsB, stepB]; omega))
    refine To.neg h1 (To.bindS (drop_idx hx) ?_)
    by_cases h2 : 7 < s.Kind
    · exact To.pos h2 (To.pure.of (by rw [if_neg]; simp [stepsB, stepB]; omega))
    have hm : s ∈ p := List.mem_of_getElem? (drop_cons hx).2.1
    refine To.neg h2 (To.bindS (drop_idx hx) (To.bind (may03 s.Label (hp s hm)) ?_))
    cases hl : labB s.Label with
    | false => exact To.pos rfl (To.pure.of (by rw [if_neg]; simp [stepsB, stepB, hl]))
    | true =>
      refine To.neg (by simp) ?_
      rw [cast_succ]
      refine (ih (i + 1) (by omega) (drop_next hx)).of ?_
      have : stepB s = true := by simp [stepB, hl]; omega
      simp [stepsB, this]

theorem may_ok (p : List api_Step) (hp : ∀ y, y ∈ p → y.Label.length ≤ 1000000000) : To (fun n => M.r07_May n p) (validB p) := by
  simp only [M.r07_May]
  by_cases h9 : 9 < p.length
  · refine To.pos (by omega) (To.pure.of ?_)
    cases p with
    | nil => simp at h9
    | cons s q => simp only [validB]; rw [decide_eq_false (show ¬ (s :: q).length ≤ 9 by omega)]; simp
  refine To.neg (by omega) ?_
  cases p with
  | nil =>
    refine To.bind (a := .inl ()) (To.succ ?_) ?_
    · simp only [M.r07_May_loop1]
      exact To.neg (by simp) To.pure
    · exact To.pure.of (by simp [validB])
  | cons s p =>
    have fin : ∀ b : Bool, To (fun n => M.r07_May_loop1 (s :: p) n 0) (if b then .inl () else .inr false) → b = ((bookB s || stepB s) && stepsB p) → To (fun n => Option.bind (M.r07_May_loop1 (s :: p) n 0) fun
        | .inl _ => some true
        | .inr ret0 => some ret0) (validB (s :: p)) := by
      intro b hb he
      refine To.bind hb ?_
      cases b with
      | true => exact To.pure.of (by simp only [validB, ← he]; simp at h9 ⊢; omega)
      | false => exact To.pure.of (by simp [validB, ← he])
    refine fin ((bookB s || stepB s) && stepsB p) (To.succ ?_) rfl
    have hs := hp s (by simp)
    have hn := may_loop (s :: p) hp p 1 (by omega) rfl
    simp only [M.r07_May_loop1]
    refine To.pos (by simp) (To.bind (a := bookB s) (To.pos (by simp) (To.bindS idx_zero (To.bindS (book_r s) To.pure))) ?_)
    cases hb : bookB s with
    | true => exact To.pos rfl (hn.of (by simp))
    | false =>
      refine To.neg (by simp) (To.bindS idx_zero ?_)
      simp only [Bool.false_or]
      by_cases h1 : s.Kind < 1
      · exact To.pos h1 (To.pure.of (by rw [if_neg]; simp [stepB]; omega))
      refine To.neg h1 (To.bindS idx_zero ?_)
      by_cases h2 : 7 < s.Kind
      · exact To.pos h2 (To.pure.of (by rw [if_neg]; simp [stepB]; omega))
      refine To.neg h2 (To.bindS idx_zero (To.bind (may03 s.Label hs) ?_))
      cases hl : labB s.Label with
      | false => exact To.pos rfl (To.pure.of (by rw [if_neg]; simp [stepB, hl]))
      | true =>
        refine To.neg (by simp) (hn.of ?_)
        have : stepB s = true := by simp [stepB, hl]; omega
        simp [this]

theorem every_ok (u : api_Unit) : cnt u ≤ 1000000 → To (fun n => M.r07_Every n u) (desc u) := by
  refine uind (P := fun u => cnt u ≤ 1000000 → To (fun n => M.r07_Every n u) (desc u)) ?_ u
  intro u ih hc
  have loop : ∀ (xs : List api_Unit) (slf : Nat → api_Unit → Option (List api_Unit)) (i : Nat) (out : List api_Unit), u.Kids.drop i = xs → (∀ k, k ∈ xs → To (fun n => slf n k) (desc k)) → out.length + (xs.map cnt).sum ≤ 1000000 →
      To (fun n => M.r07_Every_loop1 u (slf n) n out (i : Int)) (out ++ xs.flatMap desc) := by
    intro xs
    induction xs with
    | nil =>
      intro slf i out hx hs hd
      refine To.succ ?_
      simp only [M.r07_Every_loop1]
      exact To.neg (drop_end hx) (To.pure.of (by simp))
    | cons x xs ih =>
      intro slf i out hx hs hd
      simp only [List.map_cons, List.sum_cons] at hd
      refine To.succ ?_
      simp only [M.r07_Every_loop1]
      have hlen : (desc x).length = cnt x := rfl
      refine To.pos (drop_lt hx) (To.bindS (drop_idx hx) (To.bind (hs x (by simp)).shift (To.bindS (appC_eq (by omega)) ?_)))
      rw [cast_succ]
      refine (ih (fun n => slf (n + 1)) (i + 1) _ (drop_next hx) (fun k hk => (hs k (by simp [hk])).shift) (by rw [List.length_append]; omega)).of ?_
      simp
  have he := cnt_eq u
  refine To.succ ?_
  simp only [M.r07_Every]
  refine To.bind (loop u.Kids (fun n => M.r07_Every n) 0 [u] rfl (fun k hk => ih k hk (by have := cnt_kid hk; omega)) (by simp; omega)) (To.pure.of (by rw [desc_eq u]; simp))

/-- All units below any of a list. -/
def wsum (l : List api_Unit) : Nat := (l.map cnt).sum
theorem wsum_len (l : List api_Unit) : l.length ≤ wsum l := sum_len cnt cnt_pos l
theorem wsum_cons (x : api_Unit) (l : List api_Unit) : wsum (x :: l) = cnt x + wsum l := by simp [wsum]
theorem wsum_append (l m : List api_Unit) : wsum (l ++ m) = wsum l + wsum m := by simp [wsum]
theorem wsum_filter (p : api_Unit → Bool) : ∀ l : List api_Unit, wsum (l.filter p) ≤ wsum l
  | [] => by simp [wsum]
  | x :: l => by
    have := wsum_filter p l
    rw [List.filter_cons]
    split
    · rw [wsum_cons, wsum_cons]; omega
    · rw [wsum_cons]; omega
theorem wsum_kids : ∀ l : List api_Unit, wsum (l.flatMap api_Unit.Kids) ≤ wsum l
  | [] => by simp [wsum]
  | x :: l => by
    have := wsum_kids l
    have := cnt_eq x
    rw [List.flatMap_cons, wsum_append, wsum_cons]
    unfold wsum at *
    omega
theorem wsum_desc (u : api_Unit) : wsum (desc u) ≤ cnt u * cnt u := by
  have : ∀ l : List api_Unit, (∀ x, x ∈ l → cnt x ≤ cnt u) → wsum l ≤ l.length * cnt u := by
    intro l
    induction l with
    | nil => intro _; simp [wsum]
    | cons x l ih =>
      intro h
      have h1 := h x (by simp)
      have h2 := ih (fun y hy => h y (by simp [hy]))
      rw [wsum_cons, List.length_cons, Nat.add_mul]
      omega
  refine this _ ?_
  refine uind (P := fun u => ∀ x, x ∈ desc u → cnt x ≤ cnt u) ?_ u
  intro u ih x hx
  rw [desc_eq] at hx
  rcases List.mem_cons.1 hx with rfl | hx
  · exact Nat.le_refl _
  · obtain ⟨k, h1, h2⟩ := List.mem_flatMap.1 hx
    have := ih k h1 x h2
    have := cnt_kid h1
    omega

/-- The kids of a list of units that a step calls. -/
def down (s : api_Step) (l : List api_Unit) : List api_Unit := (l.flatMap api_Unit.Kids).filter (fun x => calledB x s)
theorem wsum_down (s : api_Step) (l : List api_Unit) : wsum (down s l) ≤ wsum l := Nat.le_trans (wsum_filter _ _) (wsum_kids l)

def way : List api_Step → List api_Unit → List api_Unit
  | [], l => l
  | s :: p, l => way p (down s l)

/-- What an address matches. -/
def units (u : api_Unit) (p : List api_Step) : List api_Unit :=
  if validB p then
    match p with
    | [] => [u]
    | s :: q => way q (if bookB s then [u] else (desc u).filter (fun x => calledB x s))
  else []

def lim38 : Nat := 100000000000

theorem found3 (s : api_Step) : ∀ (xs next : List api_Unit), next.length + xs.length ≤ lim38 → M.address_found_loop3 s xs next = some (next ++ xs.filter (fun x => calledB x s))
  | [], next, _ => by simp [M.address_found_loop3]
  | x :: xs, next, h => by
    simp only [List.length_cons] at h
    simp only [M.address_found_loop3, called_a, Option.bind_some]
    cases hc : calledB x s with
    | true =>
      rw [if_pos rfl, appC_eq (by unfold lim38 at h; simp; omega)]
      simp only [Option.bind_some]
      rw [found3 s xs _ (by simp; omega)]
      simp [hc]
    | false =>
      rw [if_neg (by simp), found3 s xs _ (by omega)]
      simp [hc]

theorem found2 (s : api_Step) : ∀ (xs next : List api_Unit), next.length + wsum xs ≤ lim38 → M.address_found_loop2 s xs next = some (next ++ down s xs)
  | [], next, _ => by simp [M.address_found_loop2, down]
  | x :: xs, next, h => by
    rw [wsum_cons] at h
    have hk := cnt_kids x
    simp only [M.address_found_loop2]
    rw [found3 s x.Kids next (by omega)]
    simp only [Option.bind_some]
    have hf := List.length_filter_le (fun y => calledB y s) x.Kids
    rw [found2 s xs _ (by simp only [List.length_append]; omega)]
    simp [down]

theorem found1 : ∀ (p : List api_Step) (l : List api_Unit), wsum l ≤ lim38 → M.address_found_loop1 p l = some (way p l)
  | [], l, _ => by simp [M.address_found_loop1, way]
  | s :: p, l, h => by
    simp only [M.address_found_loop1]
    rw [found2 s l [] (by simpa using h)]
    simp only [Option.bind_some, List.nil_append]
    rw [found1 p _ (Nat.le_trans (wsum_down s l) h)]
    rfl

theorem each_ok (s : api_Step) (q : List api_Step) (u : api_Unit) : ∀ w : List api_Unit, w.length + cnt u ≤ lim38 → To (fun n => M.address_each_i0 n u (s :: q) w) (w ++ (desc u).filter (fun x => calledB x s)) := by
  refine uind (P := fun u => ∀ w : List api_Unit, w.length + cnt u ≤ lim38 → To (fun n => M.address_each_i0 n u (s :: q) w) (w ++ (desc u).filter (fun x => calledB x s))) ?_ u
  intro u ih w hw
  have loop : ∀ (xs : List api_Unit) (slf : Nat → api_Unit → List api_Step → List api_Unit → Option (List api_Unit)) (w : List api_Unit), (∀ k, k ∈ xs → ∀ w : List api_Unit, w.length + cnt k ≤ lim38 → To (fun n => slf n k (s :: q) w) (w ++ (desc k).filter (fun x => calledB x s))) →
      w.length + wsum xs ≤ lim38 → To (fun n => M.address_each_i0_loop1 (s :: q) (slf n) xs w) (w ++ (xs.flatMap desc).filter (fun x => calledB x s)) := by
    intro xs
    induction xs with
    | nil => intro slf w hs hw; simp only [M.address_each_i0_loop1]; exact To.pure.of (by simp)
    | cons x xs ih =>
      intro slf w hs hw
      rw [wsum_cons] at hw
      simp only [M.address_each_i0_loop1]
      refine To.bind (hs x (by simp) w (by omega)) ?_
      have hf := List.length_filter_le (fun y => calledB y s) (desc x)
      have hl : (desc x).length = cnt x := rfl
      refine (ih slf _ (fun k hk => hs k (by simp [hk])) (by rw [List.length_append]; omega)).of ?_
      simp
  have he := cnt_eq u
  refine To.succ ?_
  simp only [M.address_each_i0, M.address_found_1]
  have fin : ∀ w2 : List api_Unit, w2 = w ++ ([u].filter (fun x => calledB x s)) → To (fun n => Option.bind (M.address_each_i0_loop1 (s :: q) (M.address_each_i0 n) u.Kids w2) fun v => some v) (w ++ (desc u).filter (fun x => calledB x s)) := by
    intro w2 hw2
    have hf := List.length_filter_le (fun y => calledB y s) [u]
    simp only [List.length_singleton] at hf
    refine To.bind (loop u.Kids (fun n => M.address_each_i0 n) w2 (fun k hk => ih k hk) (by rw [hw2, List.length_append]; unfold wsum; omega)) (To.pure.of ?_)
    rw [hw2, desc_eq u, List.filter_cons]
    by_cases hc : calledB u s = true
    · simp [hc]
    · simp [hc]
  cases hc : calledB u s with
  | true =>
    refine To.bindS (a := w ++ [u]) ?_ (fin _ (by simp [hc]))
    rw [idx_zero]
    simp only [Option.bind_some, called_a, hc]
    rw [if_pos trivial, appC_eq (by unfold lim38 at hw; simp; omega)]
    rfl
  | false =>
    refine To.bindS (a := w) ?_ (fin _ (by simp [hc]))
    rw [idx_zero]
    simp only [Option.bind_some, called_a, hc]
    rw [if_neg (by simp)]

theorem found_ok (u : api_Unit) (p : List api_Step) (hc : cnt u ≤ 10000) : To (fun n => M.address_found n u p) (units u p) := by
  simp only [M.address_found]
  refine To.bind (valid_ok p) ?_
  unfold units
  cases hv : validB p with
  | false => exact To.pos rfl (To.pure.of (by simp))
  | true =>
    refine To.neg (by simp) ?_
    cases p with
    | nil =>
      refine To.bind (a := .inr [u]) (To.pos (by simp) To.pure) ?_
      exact To.pure.of (by simp)
    | cons s q =>
      have h2 : cnt u * cnt u ≤ 10000 * 10000 := Nat.mul_le_mul hc hc
      have hslc : slcLo (s :: q) 1 = some q := by simp [slcLo]; omega
      have fin : ∀ l : List api_Unit, wsum l ≤ lim38 → l = (if bookB s then [u] else (desc u).filter (fun x => calledB x s)) → To (fun n : Nat => Option.bind (slcLo (s :: q) (1 : Int)) fun v1 => Option.bind (M.address_found_loop1 v1 l) fun at0_2 => some at0_2) (way q (if bookB s then [u] else (desc u).filter (fun x => calledB x s))) := by
        intro l hl he
        rw [hslc]
        simp only [Option.bind_some]
        rw [found1 q l hl]
        exact To.pure.of (by rw [he])
      simp only [if_true]
      cases hb : bookB s with
      | true =>
        refine To.bind (a := .inl [u]) (To.neg (by simp; omega) (To.bindS idx_zero (To.bindS (book_a s) (To.pos (by simp [hb]) To.pure)))) ?_
        have := fin [u] (by simp [wsum, lim38]; omega) (by simp [hb])
        rw [hb] at this
        exact this
      | false =>
        have he := each_ok s q u [] (by simp [lim38]; omega)
        refine To.bind (a := .inl ((desc u).filter (fun x => calledB x s))) (To.neg (by simp; omega) (To.bindS idx_zero (To.bindS (book_a s) (To.neg (by simp [hb]) (To.bind he (To.pure.of (by simp))))))) ?_
        have hw := Nat.le_trans (wsum_filter (fun x => calledB x s) (desc u)) (wsum_desc u)
        have := fin ((desc u).filter (fun x => calledB x s)) (by unfold lim38; omega) (by simp [hb])
        rw [hb] at this
        exact this

theorem findall_ok (u : api_Unit) (p : List api_Step) (hc : cnt u ≤ 10000) (hl : (units u p).length ≤ lim38) : To (fun n => M.address_FindAll n u p) ((units u p).map api_Unit.Id) := by
  have loop : ∀ (xs : List api_Unit) (out : List api_Id), out.length + xs.length ≤ lim38 → M.address_FindAll_loop1 xs out = some (out ++ xs.map api_Unit.Id) := by
    intro xs
    induction xs with
    | nil => intro out _; simp [M.address_FindAll_loop1]
    | cons x xs ih =>
      intro out h
      simp only [List.length_cons] at h
      simp only [M.address_FindAll_loop1]
      rw [appC_eq (by unfold lim38 at h; simp; omega)]
      simp only [Option.bind_some]
      rw [ih _ (by simp; omega)]
      simp
  simp only [M.address_FindAll]
  refine To.bind (found_ok u p hc) ?_
  rw [loop _ [] (by simpa using hl)]
  exact To.pure.of (by simp)

/-- The only one of a list, or the error. -/
def oneOf : List api_Id → api_Id × Int
  | [] => (zapi_Id, 7)
  | [x] => (x, 0)
  | _ => (zapi_Id, 8)

theorem findone_ok (u : api_Unit) (p : List api_Step) (hc : cnt u ≤ 10000) (hl : (units u p).length ≤ lim38) : To (fun n => M.address_FindOne n u p) (oneOf ((units u p).map api_Unit.Id)) := by
  simp only [M.address_FindOne]
  refine To.bind (findall_ok u p hc hl) ?_
  match (units u p).map api_Unit.Id with
  | [] => exact To.pos (by simp) To.pure
  | [x] => exact To.neg (by simp) (To.pos (by simp) (To.bindS idx_zero To.pure))
  | x :: y :: l => exact To.neg (by simp; omega) (To.neg (by simp; omega) To.pure)

theorem way_len : ∀ (p : List api_Step) (l : List api_Unit), (way p l).length ≤ wsum l
  | [], l => wsum_len l
  | s :: p, l => Nat.le_trans (way_len p _) (wsum_down s l)

theorem units_len (u : api_Unit) (p : List api_Step) : (units u p).length ≤ cnt u * cnt u := by
  have h1 := cnt_pos u
  have h2 : 1 * cnt u ≤ cnt u * cnt u := Nat.mul_le_mul_right _ h1
  unfold units
  split
  · split
    · simp; omega
    · rename_i s q _
      refine Nat.le_trans (way_len q _) ?_
      split
      · simp [wsum]; omega
      · exact Nat.le_trans (wsum_filter _ _) (wsum_desc u)
  · simp

/-! ### The reference -/

theorem u4_ok (p : List api_Step) (now : List api_Unit) (k i : Nat) (s : api_Step) (y : api_Unit) (hs : idx p (k : Int) = some s) (hy : idx now (i : Int) = some y) : ∀ (xs : List api_Unit) (j : Nat) (next : List api_Unit), y.Kids.drop j = xs → next.length + xs.length ≤ lim38 →
    To (fun n => M.r07_Units_loop4 p now (k : Int) (i : Int) n next (j : Int)) (next ++ xs.filter (fun x => calledB x s)) := by
  intro xs
  induction xs with
  | nil =>
    intro j next hx _
    refine To.succ ?_
    simp only [M.r07_Units_loop4]
    exact To.bindS hy (To.neg (drop_end hx) (To.pure.of (by simp)))
  | cons x xs ih =>
    intro j next hx h
    simp only [List.length_cons] at h
    refine To.succ ?_
    simp only [M.r07_Units_loop4]
    refine To.bindS hy (To.pos (drop_lt hx) (To.bindS hy (To.bindS (drop_idx hx) (To.bindS hs (To.bindS (called_r x s) ?_)))))
    cases hc : calledB x s with
    | true =>
      refine To.pos rfl (To.bindS hy (To.bindS (drop_idx hx) (To.bindS (appC_eq (by unfold lim38 at h; simp; omega)) ?_)))
      rw [cast_succ]
      exact (ih (j + 1) _ (drop_next hx) (by simp; omega)).of (by simp [hc])
    | false =>
      refine To.neg (by simp) ?_
      rw [cast_succ]
      exact (ih (j + 1) _ (drop_next hx) (by omega)).of (by simp [hc])

theorem u3_ok (p : List api_Step) (now : List api_Unit) (k : Nat) (s : api_Step) (hs : idx p (k : Int) = some s) : ∀ (xs : List api_Unit) (i : Nat) (next : List api_Unit), now.drop i = xs → next.length + wsum xs ≤ lim38 → i + xs.length ≤ lim38 →
    To (fun n => M.r07_Units_loop3 p now (k : Int) n next (i : Int)) (next ++ down s xs) := by
  intro xs
  induction xs with
  | nil =>
    intro i next hx _ _
    refine To.succ ?_
    simp only [M.r07_Units_loop3]
    exact To.neg (drop_end hx) (To.pure.of (by simp [down]))
  | cons x xs ih =>
    intro i next hx h hi
    rw [wsum_cons] at h
    simp only [List.length_cons] at hi
    have hk := cnt_kids x
    refine To.succ ?_
    simp only [M.r07_Units_loop3]
    refine To.pos (drop_lt hx) (To.bind (u4_ok p now k i s x hs (drop_idx hx) x.Kids 0 next rfl (by omega)) (To.bindS (addC_succ (by unfold lim38 at hi; omega)) ?_))
    have hf := List.length_filter_le (fun y => calledB y s) x.Kids
    exact (ih (i + 1) _ (drop_next hx) (by rw [List.length_append]; omega) (by omega)).of (by simp [down])

theorem u2_ok (p : List api_Step) : ∀ (xs : List api_Step) (k : Nat) (now : List api_Unit), p.drop k = xs → wsum now ≤ lim38 → k + xs.length ≤ lim38 → To (fun n => M.r07_Units_loop2 p n now (k : Int)) (way xs now) := by
  intro xs
  induction xs with
  | nil =>
    intro k now hx _ _
    refine To.succ ?_
    simp only [M.r07_Units_loop2]
    exact To.neg (drop_end hx) To.pure
  | cons s xs ih =>
    intro k now hx h hk
    simp only [List.length_cons] at hk
    refine To.succ ?_
    simp only [M.r07_Units_loop2]
    refine To.pos (drop_lt hx) (To.bind (u3_ok p now k s (drop_idx hx) now 0 [] rfl (by simpa using h) (by have := wsum_len now; omega)) (To.bindS (addC_succ (by unfold lim38 at hk; omega)) ?_))
    rw [List.nil_append]
    exact ih (k + 1) _ (drop_next hx) (Nat.le_trans (wsum_down s now) h) (by omega)

theorem u1_ok (p : List api_Step) (s : api_Step) (hs : idx p (0 : Int) = some s) (every : List api_Unit) : ∀ (xs : List api_Unit) (i : Nat) (now : List api_Unit), every.drop i = xs → now.length + xs.length ≤ lim38 → To (fun n => M.r07_Units_loop1 p every n now (i : Int)) (now ++ xs.filter (fun x => calledB x s)) := by
  intro xs
  induction xs with
  | nil =>
    intro i now hx _
    refine To.succ ?_
    simp only [M.r07_Units_loop1]
    exact To.neg (drop_end hx) (To.pure.of (by simp))
  | cons x xs ih =>
    intro i now hx h
    simp only [List.length_cons] at h
    refine To.succ ?_
    simp only [M.r07_Units_loop1]
    refine To.pos (drop_lt hx) (To.bindS (drop_idx hx) (To.bindS hs (To.bindS (called_r x s) ?_)))
    cases hc : calledB x s with
    | true =>
      refine To.pos rfl (To.bindS (drop_idx hx) (To.bindS (appC_eq (by unfold lim38 at h; simp; omega)) ?_))
      rw [cast_succ]
      exact (ih (i + 1) _ (drop_next hx) (by simp; omega)).of (by simp [hc])
    | false =>
      refine To.neg (by simp) ?_
      rw [cast_succ]
      exact (ih (i + 1) _ (drop_next hx) (by omega)).of (by simp [hc])

theorem units_r (u : api_Unit) (p : List api_Step) (hc : cnt u ≤ 10000) (hp : ∀ y, y ∈ p → y.Label.length ≤ 1000000000) : To (fun n => M.r07_Units n u p) (units u p) := by
  simp only [M.r07_Units]
  refine To.bind (may_ok p hp) ?_
  unfold units
  cases hv : validB p with
  | false => exact To.pos rfl (To.pure.of (by simp))
  | true =>
    refine To.neg (by simp) ?_
    cases p with
    | nil => exact To.pos (by simp) (To.pure.of (by simp))
    | cons s q =>
      have h2 : cnt u * cnt u ≤ 10000 * 10000 := Nat.mul_le_mul hc hc
      have hq : (s :: q).length ≤ 9 := by
        simp only [validB, Bool.and_eq_true, decide_eq_true_eq] at hv
        exact hv.2
      simp only [List.length_cons] at hq
      refine To.neg (by simp; omega) ?_
      simp only [if_true]
      cases hb : bookB s with
      | true =>
        refine To.bind (a := [u]) (To.bindS idx_zero (To.bindS (book_r s) (To.pos hb (To.bindS (appC_eq (by simp)) To.pure)))) ?_
        exact To.bind (u2_ok (s :: q) q 1 [u] rfl (by simp [wsum, lim38]; omega) (by unfold lim38; omega)) To.pure
      | false =>
        have hw := Nat.le_trans (wsum_filter (fun x => calledB x s) (desc u)) (wsum_desc u)
        refine To.bind (a := (desc u).filter (fun x => calledB x s)) (To.bindS idx_zero (To.bindS (book_r s) (To.neg (by simp [hb]) (To.bind (every_ok u (by omega)) (To.bind (u1_ok (s :: q) s idx_zero (desc u) (desc u) 0 [] rfl (by show 0 + cnt u ≤ _; unfold lim38; omega)) (To.pure.of (by simp))))))) ?_
        exact To.bind (u2_ok (s :: q) q 1 _ rfl (by unfold lim38; omega) (by unfold lim38; omega)) To.pure

theorem find_r (u : api_Unit) (p : List api_Step) (hc : cnt u ≤ 10000) (hp : ∀ y, y ∈ p → y.Label.length ≤ 1000000000) : To (fun n => M.r07_Find n u p) ((units u p).map api_Unit.Id) := by
  have hl := units_len u p
  have h2 : cnt u * cnt u ≤ 10000 * 10000 := Nat.mul_le_mul hc hc
  have loop : ∀ (xs : List api_Unit) (i : Nat) (out : List api_Id), (units u p).drop i = xs → out.length + xs.length ≤ lim38 → To (fun n => M.r07_Find_loop1 (units u p) n out (i : Int)) (out ++ xs.map api_Unit.Id) := by
    intro xs
    induction xs with
    | nil =>
      intro i out hx _
      refine To.succ ?_
      simp only [M.r07_Find_loop1]
      exact To.neg (drop_end hx) (To.pure.of (by simp))
    | cons x xs ih =>
      intro i out hx h
      simp only [List.length_cons] at h
      refine To.succ ?_
      simp only [M.r07_Find_loop1]
      refine To.pos (drop_lt hx) (To.bindS (drop_idx hx) (To.bindS (appC_eq (by unfold lim38 at h; simp; omega)) ?_))
      rw [cast_succ]
      exact (ih (i + 1) _ (drop_next hx) (by simp; omega)).of (by simp)
  simp only [M.r07_Find]
  exact To.bind (units_r u p hc hp) (To.bind (loop _ 0 [] rfl (by unfold lim38; simp; omega)) (To.pure.of (by simp)))

theorem one_r (u : api_Unit) (p : List api_Step) (hc : cnt u ≤ 10000) (hp : ∀ y, y ∈ p → y.Label.length ≤ 1000000000) : To (fun n => M.r07_One n u p) (oneOf ((units u p).map api_Unit.Id)) := by
  simp only [M.r07_One]
  refine To.bind (find_r u p hc hp) ?_
  match (units u p).map api_Unit.Id with
  | [] => exact To.pos (by simp) To.pure
  | [x] => exact To.neg (by simp) (To.neg (by simp) (To.bindS idx_zero To.pure))
  | x :: y :: l => exact To.neg (by simp; omega) (To.pos (by simp; omega) To.pure)
end Go.Proofs.Ytfclekegoleiaaa
