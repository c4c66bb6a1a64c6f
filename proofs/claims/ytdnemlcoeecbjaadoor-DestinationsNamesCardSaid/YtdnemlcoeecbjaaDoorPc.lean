/-
  Trees, labels, addresses: pieces that other chapters' texts hold too (picked by wip/scripts/pick.py).
-/
import Derived.Test.YtdnemlcoeecbjaaDoorMdl
import Derived.Test.YtdnemlcoeecbjaaDoorEv
import Derived.Test.YtdnemlcoeecbjaaDoorDec13
import Derived.KernelRfl
set_option linter.unusedVariables false
set_option linter.unusedSimpArgs false
namespace Go.Proofs.YtdnemlcoeecbjaaDoor
open Go Go.Dec

theorem kid_lt {u k : api_Unit} (h : k ∈ u.Kids) : SizeOf.sizeOf k < SizeOf.sizeOf u := by
  cases u
  have := List.sizeOf_lt_of_mem h
  simp at this ⊢
  omega

theorem uind {P : api_Unit → Prop} (h : ∀ u, (∀ k, k ∈ u.Kids → P k) → P u) (u : api_Unit) : P u :=
  h u (fun k hk => uind h k)
termination_by SizeOf.sizeOf u
decreasing_by exact kid_lt hk

/-- A unit and all below it, in order. -/
def desc (u : api_Unit) : List api_Unit := u :: u.Kids.attach.flatMap (fun k => desc k.1)
termination_by SizeOf.sizeOf u
decreasing_by exact kid_lt k.2

theorem desc_eq (u : api_Unit) : desc u = u :: u.Kids.flatMap desc := by
  rw [desc]
  congr 1
  have : ∀ l : List api_Unit, l.attach.flatMap (fun k => desc k.1) = l.flatMap desc := by
    intro l
    rw [List.flatMap_def, List.flatMap_def]
    congr 1
    rw [show (fun k : {x // x ∈ l} => desc k.1) = desc ∘ Subtype.val from rfl, ← List.map_map, List.attach_map_subtype_val]
  exact this _

def cnt (u : api_Unit) : Nat := (desc u).length

theorem cnt_eq (u : api_Unit) : cnt u = 1 + (u.Kids.map cnt).sum := by
  unfold cnt
  rw [desc_eq]
  simp [List.length_flatMap]
  omega

theorem cnt_pos (u : api_Unit) : 1 ≤ cnt u := by rw [cnt_eq]; omega

theorem sum_mem {α : Type} (f : α → Nat) : ∀ {l : List α} {x : α}, x ∈ l → f x ≤ (l.map f).sum
  | y :: l, x, h => by
    rcases List.mem_cons.1 h with rfl | h
    · simp
    · have := sum_mem f h
      simp; omega

theorem sum_len {α : Type} (f : α → Nat) (h : ∀ x, 1 ≤ f x) : ∀ l : List α, l.length ≤ (l.map f).sum
  | [] => by simp
  | x :: l => by
    have := sum_len f h l
    have := h x
    simp; omega

theorem cnt_kid {u k : api_Unit} (h : k ∈ u.Kids) : cnt k < cnt u := by
  rw [cnt_eq u]
  have := sum_mem cnt h
  omega

theorem cnt_kids (u : api_Unit) : u.Kids.length < cnt u := by
  rw [cnt_eq u]
  have := sum_len cnt cnt_pos u.Kids
  omega

theorem desc_self (u : api_Unit) : u ∈ desc u := by rw [desc_eq]; simp

theorem desc_kid {u k x : api_Unit} (hk : k ∈ u.Kids) (hx : x ∈ desc k) : x ∈ desc u := by
  rw [desc_eq]
  exact List.mem_cons_of_mem _ (List.mem_flatMap.2 ⟨k, hk, hx⟩)

def isDig (b : UInt8) : Bool := decide (48 ≤ b.toNat) && decide (b.toNat ≤ 57)

def isCap (b : UInt8) : Bool := decide (65 ≤ b.toNat) && decide (b.toNat ≤ 90)

/-- Which strings are labels. -/
def labB (s : Str) : Bool :=
  let d := (s.takeWhile isDig).length
  decide (1 ≤ d) && decide (d ≤ 4) && decide (s.head? ≠ some 48) && decide (s.length - d ≤ 3) && (s.drop d).all isCap

theorem digits03 (s : Str) : To (fun n => M.r03_digits n s) ((s.takeWhile isDig).length : Int) := by
  have loop : ∀ (xs : Str) (i : Nat), s.drop i = xs → To (fun n => M.r03_digits_loop1 s n (i : Int)) ((i + (xs.takeWhile isDig).length : Nat) : Int) := by
    intro xs
    induction xs with
    | nil =>
      intro i hx
      refine To.succ ?_
      simp only [M.r03_digits_loop1]
      exact To.neg (drop_end hx) (To.pure.of (by simp))
    | cons x xs ih =>
      intro i hx
      refine To.succ ?_
      simp only [M.r03_digits_loop1]
      refine To.pos (drop_lt hx) (To.bindS (drop_idx hx) ?_)
      by_cases h1 : 48 ≤ x.toNat
      · refine To.pos (by omega) (To.bindS (drop_idx hx) ?_)
        by_cases h2 : x.toNat ≤ 57
        · refine To.pos (by omega) ?_
          rw [cast_succ]
          refine (ih (i + 1) (drop_next hx)).of ?_
          rw [List.takeWhile_cons_of_pos (by simp [isDig, h1, h2]), List.length_cons]
          omega
        · refine To.neg (by omega) (To.pure.of ?_)
          rw [List.takeWhile_cons_of_neg (by simp [isDig]; omega)]; rfl
      · refine To.neg (by omega) (To.pure.of ?_)
        rw [List.takeWhile_cons_of_neg (by simp [isDig]; omega)]; rfl
  simp only [M.r03_digits]
  refine To.bind (loop s 0 rfl) (To.pure.of (by simp))

theorem may03 (s : Str) (hl : s.length ≤ 1000000000) : To (fun n => M.r03_May n s) (labB s) := by
  have hd : (s.takeWhile isDig).length ≤ s.length := by
    have := (List.takeWhile_sublist isDig (l := s)).length_le
    exact this
  have loop : ∀ (xs : Str) (i : Nat), s.drop i = xs → To (fun n => M.r03_May_loop1 s n (i : Int)) (if xs.all isCap then .inl () else .inr false) := by
    intro xs
    induction xs with
    | nil =>
      intro i hx
      refine To.succ ?_
      simp only [M.r03_May_loop1]
      exact To.neg (drop_end hx) (To.pure.of (by simp))
    | cons x xs ih =>
      intro i hx
      refine To.succ ?_
      simp only [M.r03_May_loop1]
      refine To.pos (drop_lt hx) (To.bindS (drop_idx hx) ?_)
      by_cases h1 : x.toNat < 65
      · refine To.pos (by omega) (To.pure.of ?_)
        rw [if_neg (by simp [isCap]; omega)]
      · refine To.neg (by omega) (To.bindS (drop_idx hx) ?_)
        by_cases h2 : 90 < x.toNat
        · refine To.pos (by omega) (To.pure.of ?_)
          rw [if_neg (by simp [isCap]; omega)]
        · refine To.neg (by omega) ?_
          rw [cast_succ]
          refine (ih (i + 1) (drop_next hx)).of ?_
          have : isCap x = true := by simp [isCap]; omega
          simp [this]
  generalize hdd : (s.takeWhile isDig).length = d at hd
  have hdig := digits03 s
  rw [hdd] at hdig
  simp only [M.r03_May]
  refine To.bind hdig ?_
  by_cases h1 : d < 1
  · refine To.bind (a := true) (To.pos (by omega) To.pure) (To.pos rfl (To.pure.of ?_))
    simp [labB, hdd]; omega
  by_cases h2 : 4 < d
  · refine To.bind (a := true) (To.neg (by omega) (To.pos (by omega) To.pure)) (To.pos rfl (To.pure.of ?_))
    simp [labB, hdd]; omega
  obtain ⟨x, xs, rfl⟩ : ∃ x xs, s = x :: xs := by
    cases s with
    | nil => simp at hd; omega
    | cons x xs => exact ⟨x, xs, rfl⟩
  by_cases h3 : x = 48
  · subst h3
    refine To.bind (a := true) (To.neg (by omega) (To.neg (by omega) (To.bindS idx_zero (To.pos rfl To.pure)))) (To.pos rfl (To.pure.of ?_))
    simp [labB]
  have h3' : ¬ ((x.toNat : Int) = 48) := by
    intro h
    exact h3 (UInt8.toNat_inj.1 (by have : (48 : UInt8).toNat = 48 := rfl; omega))
  by_cases h4 : 3 < (x :: xs).length - d
  · refine To.bind (a := true) (To.neg (by omega) (To.neg (by omega) (To.bindS idx_zero (To.neg h3' (To.bindS (subC_eq (by omega) (by omega)) (To.pure.of (by simp; simp at h4 hd; omega))))))) (To.pos rfl (To.pure.of ?_))
    simp only [labB, hdd]
    rw [decide_eq_false (show ¬ (x :: xs).length - d ≤ 3 by omega)]
    simp
  refine To.bind (a := false) (To.neg (by omega) (To.neg (by omega) (To.bindS idx_zero (To.neg h3' (To.bindS (subC_eq (by omega) (by omega)) (To.pure.of (by simp; simp at h4 hd; omega))))))) (To.neg (by simp) ?_)
  refine To.bind (loop _ d rfl) ?_
  simp only [labB, hdd]
  rw [decide_eq_true (show 1 ≤ d by omega), decide_eq_true (show d ≤ 4 by omega), decide_eq_true (show (x :: xs).length - d ≤ 3 by omega), decide_eq_true (show (x :: xs).head? ≠ some 48 by simpa using h3)]
  by_cases h5 : ((x :: xs).drop d).all isCap = true
  · rw [if_pos h5]; exact To.pure.of (by rw [h5]; rfl)
  · rw [if_neg h5]
    exact To.pure.of (by simp only [Bool.not_eq_true] at h5; rw [h5]; rfl)

/-- The search for a rune of which p holds, where p holds of all that lies above ASCII. -/
theorem idxfun (s : Str) (f : Int → Option Bool) (p : UInt8 → Bool) (hf : ∀ b : UInt8, b.toNat < 128 → f (b.toNat : Int) = some (p b)) (hh : ∀ r : Nat, 128 ≤ r → f (r : Int) = some true) (hp : ∀ b : UInt8, 128 ≤ b.toNat → p b = true) :
    To (fun n => M.strings_IndexFunc n s f) (if s.any p then (((s.takeWhile fun b => !p b).length : Nat) : Int) else -1) := by
  have loop : ∀ (xs : Str) (i : Nat), s.drop i = xs → ∃ v, To (fun n => M.strings_indexFunc_loop1 s f true n i) (if xs.any p then .inr ((i + (xs.takeWhile fun b => !p b).length : Nat) : Int) else .inl v) := by
    intro xs
    induction xs with
    | nil =>
      intro i hx
      have := List.drop_eq_nil_iff.1 hx
      refine ⟨i, To.succ ?_⟩
      simp only [M.strings_indexFunc_loop1]
      exact To.neg (by omega) (To.pure.of (by simp))
    | cons x xs ih =>
      intro i hx
      obtain ⟨h1, h2, h3⟩ := drop_cons hx
      have hxi : s[i] = x := by rw [List.getElem?_eq_getElem h1] at h2; exact Option.some.inj h2
      by_cases ha : x.toNat < 128
      · have hr := runeAt_ascii h1 (by rw [hxi]; exact ha)
        rw [hxi] at hr
        obtain ⟨v, hv⟩ := ih (i + 1) h3
        refine ⟨v, To.succ ?_⟩
        simp only [M.strings_indexFunc_loop1]
        refine To.pos h1 ?_
        rw [hr]
        refine To.bindS (hf x ha) ?_
        cases hpx : p x with
        | true => exact To.pos rfl (To.pure.of (by simp [hpx]))
        | false =>
          refine To.neg (by simp) (hv.of ?_)
          have tw : (x :: xs).takeWhile (fun b => !p b) = x :: xs.takeWhile (fun b => !p b) := List.takeWhile_cons_of_pos (by simp [hpx])
          rw [tw]
          simp only [List.any_cons, hpx, Bool.false_or, List.length_cons]
          split
          · congr 1; omega
          · rfl
      · obtain ⟨q1, q2⟩ := runeAt_high h1 (by rw [hxi]; omega)
        have hpx := hp x (by omega)
        refine ⟨0, To.succ ?_⟩
        simp only [M.strings_indexFunc_loop1]
        refine To.pos h1 (To.bindS (hh _ q1) (To.pos rfl (To.pure.of (by simp [hpx]))))
  obtain ⟨v, hv⟩ := loop s 0 rfl
  simp only [M.strings_IndexFunc, M.strings_indexFunc]
  by_cases h : s.any p = true
  · rw [if_pos h] at hv ⊢
    exact To.bind (To.bind hv To.pure) (To.pure.of (by simp))
  · rw [if_neg h] at hv ⊢
    exact To.bind (To.bind hv To.pure) To.pure

theorem tw_all {α : Type} {p : α → Bool} : ∀ {l : List α}, (∀ b, b ∈ l → p b = true) → l.takeWhile p = l
  | [], _ => rfl
  | x :: l, h => by rw [List.takeWhile_cons_of_pos (h x (by simp)), tw_all fun b hb => h b (by simp [hb])]

theorem tw_not (s : Str) : (s.takeWhile fun b => !(!isDig b)) = s.takeWhile isDig := by simp

theorem parted_ok (s : Str) : To (fun n => M.label_parted n s) (s.take (s.takeWhile isDig).length, s.drop (s.takeWhile isDig).length) := by
  have h := idxfun s (fun s0 => M.label_parted_1 s0) (fun b => !isDig b) (fun b hb => by
    simp only [M.label_parted_1, isDig]
    split
    · simp; omega
    · congr 1; rw [Bool.eq_iff_iff]; simp; omega) (fun r hr => by
    simp only [M.label_parted_1]
    rw [if_neg (by omega)]; congr 1; simp; omega) (fun b hb => by simp [isDig]; omega)
  have hd : (s.takeWhile isDig).length ≤ s.length := (List.takeWhile_sublist isDig (l := s)).length_le
  simp only [M.label_parted]
  refine To.bind h ?_
  rw [tw_not]
  by_cases ha : (s.any fun b => !isDig b) = true
  · rw [if_pos ha]
    refine To.neg (by omega) (To.bindS (a := s.take (s.takeWhile isDig).length) ?_ (To.bindS (a := s.drop (s.takeWhile isDig).length) ?_ To.pure))
    · simp [slcHi, hd]
    · simp [slcLo, hd]
  · rw [if_neg ha]
    refine To.pos (by omega) (To.pure.of ?_)
    have hall : s.takeWhile isDig = s := by
      refine tw_all fun b hb => ?_
      simp only [Bool.not_eq_true, List.any_eq_false] at ha
      have := ha b hb
      simpa using this
    rw [hall]; simp

theorem label_ok (s : Str) : To (fun n => M.label_Valid n s) (labB s) := by
  have hd : (s.takeWhile isDig).length ≤ s.length := (List.takeWhile_sublist isDig (l := s)).length_le
  have h := parted_ok s
  generalize hdd : (s.takeWhile isDig).length = d at hd h
  have hc := idxfun (s.drop d) (fun s0 => M.label_Valid_1 s0) (fun b => !isCap b) (fun b hb => by
    simp only [M.label_Valid_1, isCap]
    split
    · simp; omega
    · congr 1; rw [Bool.eq_iff_iff]; simp; omega) (fun r hr => by
    simp only [M.label_Valid_1]
    rw [if_neg (by omega)]; congr 1; simp; omega) (fun b hb => by simp [isCap]; omega)
  simp only [M.label_Valid]
  refine To.bind h ?_
  dsimp only
  have hl : ((s.take d).length : Int) = d := by rw [List.length_take]; omega
  have hl2 : (((s.drop d).length : Nat) : Int) = ((s.length - d : Nat) : Int) := by rw [List.length_drop]
  by_cases h1 : d < 1
  · exact To.neg (by omega) (To.pure.of (by simp [labB, hdd]; omega))
  refine To.pos (by omega) ?_
  by_cases h2 : 4 < d
  · exact To.neg (by omega) (To.pure.of (by simp [labB, hdd]; omega))
  refine To.pos (by omega) ?_
  obtain ⟨x, xs, rfl⟩ : ∃ x xs, s = x :: xs := by
    cases s with
    | nil => simp at hd; omega
    | cons x xs => exact ⟨x, xs, rfl⟩
  have hx : idx ((x :: xs).take d) (0 : Int) = some x := by
    obtain ⟨e, rfl⟩ : ∃ e, d = e + 1 := ⟨d - 1, by omega⟩
    simp [idx]
  refine To.bindS hx ?_
  by_cases h3 : x = 48
  · subst h3
    exact To.neg (by simp) (To.pure.of (by simp [labB]))
  have h3' : (x.toNat : Int) ≠ 48 := by
    intro h
    exact h3 (UInt8.toNat_inj.1 (by have : (48 : UInt8).toNat = 48 := rfl; omega))
  refine To.pos h3' ?_
  simp only [labB, hdd]
  rw [decide_eq_true (show 1 ≤ d by omega), decide_eq_true (show d ≤ 4 by omega), decide_eq_true (show (x :: xs).head? ≠ some 48 by simpa using h3)]
  by_cases h4 : 3 < (x :: xs).length - d
  · refine To.neg (by omega) (To.pure.of ?_)
    rw [decide_eq_false (show ¬ (x :: xs).length - d ≤ 3 by omega)]
    simp
  refine To.pos (by omega) ?_
  rw [decide_eq_true (show (x :: xs).length - d ≤ 3 by omega)]
  simp only [M.strings_ContainsFunc]
  refine To.bind (To.bind hc To.pure) (To.pure.of ?_)
  have he : (((x :: xs).drop d).any fun b => !isCap b) = !(((x :: xs).drop d).all isCap) := by rw [List.not_all_eq_any_not]
  rw [he]
  cases ((x :: xs).drop d).all isCap <;> simp <;> omega

def bookB (s : api_Step) : Bool := decide (s.Kind = 0) && (s.Label == ([] : Str))

def stepB (s : api_Step) : Bool := decide (1 ≤ s.Kind) && decide (s.Kind ≤ 7) && labB s.Label

def stepsB : List api_Step → Bool
  | [] => true
  | s :: p => stepB s && stepsB p

/-- Which addresses are valid. -/
def validB (p : List api_Step) : Bool :=
  (match p with
    | [] => true
    | s :: q => (bookB s || stepB s) && stepsB q) && decide (p.length ≤ 9)

theorem book_a (s : api_Step) : M.address_book s = some (bookB s) := by
  simp only [M.address_book, bookB]
  split <;> simp_all

theorem book_r (s : api_Step) : M.r07_book s = some (bookB s) := by
  simp only [M.r07_book, bookB]
  split <;> simp_all

theorem valid_loop (p : List api_Step) (i : Int) (hi : 1 ≤ i) : To (fun n => M.address_Valid_loop1 n p i) (if stepsB p then .inl () else .inr false) := by
  induction p generalizing i with
  | nil => simp only [M.address_Valid_loop1]; exact To.pure
  | cons s p ih =>
    simp only [M.address_Valid_loop1]
    refine To.bind (a := false) (To.neg (by omega) To.pure) (To.neg (by simp) ?_)
    by_cases h1 : s.Kind ≤ 0
    · exact To.pos h1 (To.pure.of (by rw [if_neg]; simp [stepsB, stepB]; omega))
    refine To.neg h1 ?_
    by_cases h2 : 7 < s.Kind
    · exact To.pos h2 (To.pure.of (by rw [if_neg]; simp [stepsB, stepB]; omega))
    refine To.neg h2 (To.bind (label_ok s.Label) ?_)
    cases hl : labB s.Label with
    | false => exact To.pos rfl (To.pure.of (by rw [if_neg]; simp [stepsB, stepB, hl]))
    | true =>
      refine To.neg (by simp) ((ih (i + 1) (by omega)).of ?_)
      have : stepB s = true := by simp [stepB, hl]; omega
      simp [stepsB, this]

theorem avalid_ok (p : List api_Step) : To (fun n => M.address_Valid n p) (validB p) := by
  simp only [M.address_Valid]
  cases p with
  | nil =>
    simp only [M.address_Valid_loop1]
    exact To.bind (f := fun _ => some (Sum.inl ())) To.pure (To.pure.of (by simp [validB]))
  | cons s p =>
    have fin : ∀ b : Bool, To (fun n => M.address_Valid_loop1 n (s :: p) 0) (if b then .inl () else .inr false) → b = ((bookB s || stepB s) && stepsB p) → To (fun n => Option.bind (M.address_Valid_loop1 n (s :: p) 0) fun
        | .inl _ => some (decide (((s :: p).length : Int) ≤ (9 : Int)))
        | .inr ret0 => some ret0) (validB (s :: p)) := by
      intro b hb he
      refine To.bind hb ?_
      cases b with
      | true => exact To.pure.of (by simp only [validB, ← he]; simp; omega)
      | false => exact To.pure.of (by simp [validB, ← he])
    refine fin ((bookB s || stepB s) && stepsB p) ?_ rfl
    simp only [M.address_Valid_loop1]
    refine To.bind (a := bookB s) (To.pos (by simp) (To.bindS (book_a s) To.pure)) ?_
    cases hb : bookB s with
    | true =>
      refine To.pos rfl ((valid_loop p (0 + 1) (by omega)).of (by simp))
    | false =>
      refine To.neg (by simp) ?_
      simp only [Bool.false_or]
      by_cases h1 : s.Kind ≤ 0
      · exact To.pos h1 (To.pure.of (by rw [if_neg]; simp [stepB]; omega))
      refine To.neg h1 ?_
      by_cases h2 : 7 < s.Kind
      · exact To.pos h2 (To.pure.of (by rw [if_neg]; simp [stepB]; omega))
      refine To.neg h2 (To.bind (label_ok s.Label) ?_)
      cases hl : labB s.Label with
      | false => exact To.pos rfl (To.pure.of (by rw [if_neg]; simp [stepB, hl]))
      | true =>
        refine To.neg (by simp) ((valid_loop p (0 + 1) (by omega)).of ?_)
        have : stepB s = true := by simp [stepB, hl]; omega
        simp [this]

theorem may_loop (p : List api_Step) (hp : ∀ y, y ∈ p → y.Label.length ≤ 1000000000) : ∀ (xs : List api_Step) (i : Nat), 1 ≤ i → p.drop i = xs → To (fun n => M.r07_May_loop1 p n (i : Int)) (if stepsB xs then .inl () else .inr false) := by
  intro xs
  induction xs with
  | nil =>
    intro i _ hx
    refine To.succ ?_
    simp only [M.r07_May_loop1]
    exact To.neg (drop_end hx) To.pure
  | cons s xs ih =>
    intro i hi hx
    refine To.succ ?_
    simp only [M.r07_May_loop1]
    refine To.pos (drop_lt hx) (To.bind (a := false) (To.neg (by omega) To.pure) (To.neg (by simp) (To.bindS (drop_idx hx) ?_)))
    by_cases h1 : s.Kind < 1
    · exact To.pos h1 (To.pure.of (by rw [if_neg]; simp [stepsB, stepB]; omega))
    refine To.neg h1 (To.bindS (drop_idx hx) ?_)
    by_cases h2 : 7 < s.Kind
    · exact To.pos h2 (To.pure.of (by rw [if_neg]; simp [stepsB, stepB]; omega))
    have hm : s ∈ p := List.mem_of_getElem? (drop_cons hx).2.1
    refine To.neg h2 (To.bindS (drop_idx hx) (To.bind (may03 s.Label (hp s hm)) ?_))
    cases hl : labB s.Label with
    | false => exact To.pos rfl (To.pure.of (by rw [if_neg]; simp [stepsB, stepB, hl]))
    | true =>
      refine To.neg (by simp) ?_
      rw [cast_succ]
      refine (ih (i + 1) (by omega) (drop_next hx)).of ?_
      have : stepB s = true := by simp [stepB, hl]; omega
      simp [stepsB, this]

theorem amay_ok (p : List api_Step) (hp : ∀ y, y ∈ p → y.Label.length ≤ 1000000000) : To (fun n => M.r07_May n p) (validB p) := by
  simp only [M.r07_May]
  by_cases h9 : 9 < p.length
  · refine To.pos (by omega) (To.pure.of ?_)
    cases p with
    | nil => simp at h9
    | cons s q => simp only [validB]; rw [decide_eq_false (show ¬ (s :: q).length ≤ 9 by omega)]; simp
  refine To.neg (by omega) ?_
  cases p with
  | nil =>
    refine To.bind (a := .inl ()) (To.succ ?_) ?_
    · simp only [M.r07_May_loop1]
      exact To.neg (by simp) To.pure
    · exact To.pure.of (by simp [validB])
  | cons s p =>
    have fin : ∀ b : Bool, To (fun n => M.r07_May_loop1 (s :: p) n 0) (if b then .inl () else .inr false) → b = ((bookB s || stepB s) && stepsB p) → To (fun n => Option.bind (M.r07_May_loop1 (s :: p) n 0) fun
        | .inl _ => some true
        | .inr ret0 => some ret0) (validB (s :: p)) := by
      intro b hb he
      refine To.bind hb ?_
      cases b with
      | true => exact To.pure.of (by simp only [validB, ← he]; simp at h9 ⊢; omega)
      | false => exact To.pure.of (by simp [validB, ← he])
    refine fin ((bookB s || stepB s) && stepsB p) (To.succ ?_) rfl
    have hs := hp s (by simp)
    have hn := may_loop (s :: p) hp p 1 (by omega) rfl
    simp only [M.r07_May_loop1]
    refine To.pos (by simp) (To.bind (a := bookB s) (To.pos (by simp) (To.bindS idx_zero (To.bindS (book_r s) To.pure))) ?_)
    cases hb : bookB s with
    | true => exact To.pos rfl (hn.of (by simp))
    | false =>
      refine To.neg (by simp) (To.bindS idx_zero ?_)
      simp only [Bool.false_or]
      by_cases h1 : s.Kind < 1
      · exact To.pos h1 (To.pure.of (by rw [if_neg]; simp [stepB]; omega))
      refine To.neg h1 (To.bindS idx_zero ?_)
      by_cases h2 : 7 < s.Kind
      · exact To.pos h2 (To.pure.of (by rw [if_neg]; simp [stepB]; omega))
      refine To.neg h2 (To.bindS idx_zero (To.bind (may03 s.Label hs) ?_))
      cases hl : labB s.Label with
      | false => exact To.pos rfl (To.pure.of (by rw [if_neg]; simp [stepB, hl]))
      | true =>
        refine To.neg (by simp) (hn.of ?_)
        have : stepB s = true := by simp [stepB, hl]; omega
        simp [this]

theorem attach_findSome {β : Type} (f : api_Unit → Option β) (l : List api_Unit) : l.attach.findSome? (fun k => f k.1) = l.findSome? f := by
  rw [show (fun k : {x // x ∈ l} => f k.1) = f ∘ Subtype.val from rfl, ← List.findSome?_map, List.attach_map_subtype_val]

/-- The units from the root to the first unit with an ID. -/
def pathO (id : api_Id) (u : api_Unit) : Option (List api_Unit) := if u.Id = id then some [u] else (u.Kids.attach.findSome? (fun k => pathO id k.1)).map (u :: ·)
termination_by SizeOf.sizeOf u
decreasing_by exact kid_lt k.2

theorem pathO_eq (id : api_Id) (u : api_Unit) : pathO id u = if u.Id = id then some [u] else (u.Kids.findSome? (pathO id)).map (u :: ·) := by
  rw [pathO]
  split
  · rfl
  · rw [attach_findSome (pathO id) u.Kids]

theorem path_ne (id : api_Id) (u : api_Unit) : ∀ w, pathO id u = some w → w ≠ [] := by
  intro w h
  rw [pathO_eq] at h
  split at h
  · cases h; simp
  · obtain ⟨v, _, rfl⟩ := Option.map_eq_some_iff.1 h
    simp

theorem path_len (id : api_Id) (u : api_Unit) : ∀ w, pathO id u = some w → w.length ≤ cnt u := by
  refine uind (P := fun u => ∀ w, pathO id u = some w → w.length ≤ cnt u) ?_ u
  intro u ih w h
  rw [pathO_eq] at h
  split at h
  · cases h; exact cnt_pos u
  · obtain ⟨v, hv, rfl⟩ := Option.map_eq_some_iff.1 h
    obtain ⟨k, hk, he⟩ := List.exists_of_findSome?_eq_some hv
    have := ih k hk v he
    have := cnt_kid hk
    simp only [List.length_cons]
    omega

theorem path_self {id : api_Id} {u : api_Unit} (h : u.Id = id) : pathO id u = some [u] := by rw [pathO_eq, if_pos h]

theorem path_two {id : api_Id} {u : api_Unit} {w : List api_Unit} (h : u.Id ≠ id) (hw : pathO id u = some w) : 2 ≤ w.length ∧ ∃ v, u.Kids.findSome? (pathO id) = some v ∧ w = u :: v := by
  rw [pathO_eq, if_neg h] at hw
  obtain ⟨v, hv, rfl⟩ := Option.map_eq_some_iff.1 hw
  obtain ⟨k, hk, he⟩ := List.exists_of_findSome?_eq_some hv
  have := List.length_pos_iff.2 (path_ne id k v he)
  exact ⟨by simp; omega, v, hv, rfl⟩

def stepOf (k : api_Unit) : api_Step := ⟨k.Kind, k.Label⟩

theorem path_head {id : api_Id} {u : api_Unit} {w : List api_Unit} (h : pathO id u = some w) : ∃ v, w = u :: v := by
  by_cases hid : u.Id = id
  · rw [path_self hid] at h; cases h; exact ⟨[], rfl⟩
  · obtain ⟨_, v, _, rfl⟩ := path_two hid h; exact ⟨v, rfl⟩

/-- The steps below the root, to the first unit with an ID. -/
def stepsO (id : api_Id) (u : api_Unit) : Option (List api_Step) := (pathO id u).map (fun w => w.tail.map stepOf)

theorem below_ok (id : api_Id) (u : api_Unit) : cnt u ≤ 10000 → To (fun n => M.r07_below n u id) (match stepsO id u with | some p => (p, true) | none => ([], false)) := by
  refine uind (P := fun u => cnt u ≤ 10000 → To (fun n => M.r07_below n u id) (match stepsO id u with | some p => (p, true) | none => ([], false))) ?_ u
  intro u ih hc
  have loop : ∀ (xs : List api_Unit) (slf : Nat → api_Unit → api_Id → Option (List api_Step × Bool)) (i : Nat), u.Kids.drop i = xs → (∀ k, k ∈ xs → cnt k ≤ 10000 ∧ To (fun n => slf n k id) (match stepsO id k with | some p => (p, true) | none => ([], false))) →
      To (fun n => M.r07_below_loop1 u id (slf n) n (i : Int)) (match xs.findSome? (pathO id) with | none => .inl () | some w => .inr (w.map stepOf, true)) := by
    intro xs
    induction xs with
    | nil =>
      intro slf i hx _
      refine To.succ ?_
      simp only [M.r07_below_loop1]
      exact To.neg (drop_end hx) To.pure
    | cons x xs ih =>
      intro slf i hx hs
      obtain ⟨hcx, h1⟩ := hs x (by simp)
      refine To.succ ?_
      simp only [M.r07_below_loop1]
      refine To.pos (drop_lt hx) (To.bindS (drop_idx hx) (To.bind h1.shift ?_))
      rw [List.findSome?_cons]
      unfold stepsO
      cases hp : pathO id x with
      | none =>
        refine To.neg (by simp) ?_
        rw [cast_succ]
        exact ih (fun n => slf (n + 1)) (i + 1) (drop_next hx) fun k hk => ⟨(hs k (by simp [hk])).1, (hs k (by simp [hk])).2.shift⟩
      | some w =>
        obtain ⟨v, rfl⟩ := path_head hp
        have hlen := path_len id x _ hp
        simp only [List.length_cons] at hlen
        exact To.pos rfl (To.bindS (drop_idx hx) (To.bindS (drop_idx hx) (To.bindS (appC_eq (by simp; omega)) (To.pure.of (by simp [stepOf])))))
  refine To.succ ?_
  simp only [M.r07_below]
  unfold stepsO
  by_cases hid : u.Id = id
  · rw [path_self hid]
    exact To.pos hid To.pure
  · rw [pathO_eq, if_neg hid]
    refine To.neg hid (To.bind (loop u.Kids (fun n => M.r07_below n) 0 rfl fun k hk => ⟨by have := cnt_kid hk; omega, ih k hk (by have := cnt_kid hk; omega)⟩) ?_)
    cases u.Kids.findSome? (pathO id) with
    | none => exact To.pure
    | some w => exact To.pure.of (by simp)

theorem whole_ok (id : api_Id) (u : api_Unit) (hc : cnt u ≤ 10000) : To (fun n => M.r07_Whole n u id) (match stepsO id u with | some p => ((⟨0, []⟩ : api_Step) :: p, true) | none => ([], false)) := by
  simp only [M.r07_Whole]
  refine To.bind (below_ok id u hc) ?_
  cases hp : stepsO id u with
  | none => exact To.pos rfl To.pure
  | some p =>
    have hlen : p.length ≤ 10000 := by
      unfold stepsO at hp
      obtain ⟨w, hw, rfl⟩ := Option.map_eq_some_iff.1 hp
      have := path_len id u w hw
      simp; omega
    exact To.neg (by simp) (To.bindS (appC_eq (by simp; omega)) To.pure)

/-- Lengths that a machine bears. -/
def big (u : api_Unit) : Prop := ∀ x, x ∈ desc u → x.Label.length ≤ 140737488355328 ∧ x.Head.length ≤ 140737488355328 ∧ x.Words.length ≤ 140737488355328 ∧ x.Kids.length ≤ 140737488355328

theorem big_kid {u k : api_Unit} (h : big u) (hk : k ∈ u.Kids) : big k := fun x hx => h x (desc_kid hk hx)

theorem quo50 (m : Nat) (h : m ≤ 140737488355328) : ∃ q : Nat, quoC (m : Int) 50 = some (q : Int) ∧ q ≤ 140737488355328 ∧ m < 50 * (q + 1) := by
  have e : ((m : Int).tdiv 50) = ((m / 50 : Nat) : Int) := rfl
  refine ⟨m / 50, ?_, by omega, by omega⟩
  unfold quoC
  rw [e, if_pos]
  refine ⟨by decide, ?_⟩
  simp only [fits64, Bool.and_eq_true, decide_eq_true_eq]
  omega

theorem few7_loop (u : api_Unit) (deep : Int) (hd0 : 0 ≤ deep) (hd : deep ≤ 12) (hu : u.Kids.length ≤ 140737488355328) : ∀ (xs : List api_Unit) (slf : Nat → api_Unit → Int → Int → Option Int) (i : Nat) (left : Int), u.Kids.drop i = xs →
    (∀ k, k ∈ xs → ∀ l : Int, 0 ≤ l → l ≤ 60 → ∃ r, To (fun n => slf n k l (deep + 1)) r ∧ r ≤ l ∧ -1000000000000000 ≤ r ∧ (0 ≤ r → (cnt k : Int) ≤ l - r ∧ ∀ x, x ∈ desc k → x.Label.length ≤ 5000)) → left ≤ 60 → -1000000000000000 ≤ left →
    ∃ r, To (fun n => M.r07_few_loop1 u deep (slf n) n left (i : Int)) r ∧ r ≤ left ∧ -1000000000000000 ≤ r ∧ (0 ≤ r → (((xs.map cnt).sum : Nat) : Int) ≤ left - r ∧ ∀ k, k ∈ xs → ∀ x, x ∈ desc k → x.Label.length ≤ 5000)
  | [], slf, i, left, hx, hs, h1, h2 => by
    refine ⟨left, To.succ ?_, by omega, h2, fun h => ⟨by simp, fun k hk => by cases hk⟩⟩
    simp only [M.r07_few_loop1]
    refine To.bind (a := false) (To.neg (drop_end hx) To.pure) ?_
    exact To.neg (by simp) To.pure
  | x :: xs, slf, i, left, hx, hs, h1, h2 => by
    by_cases hle : 0 ≤ left
    · obtain ⟨r1, ht1, q1, q2, q3⟩ := hs x (by simp) left hle h1
      obtain ⟨r, ht, p1, p2, p3⟩ := few7_loop u deep hd0 hd hu xs (fun n => slf (n + 1)) (i + 1) r1 (drop_next hx) (fun k hk m a b => by
        obtain ⟨r, h1, h2⟩ := hs k (by simp [hk]) m a b
        exact ⟨r, h1.shift, h2⟩) (by omega) q2
      have hil : i < u.Kids.length := (drop_cons hx).1
      refine ⟨r, To.succ ?_, by omega, p2, fun h => ?_⟩
      · simp only [M.r07_few_loop1]
        refine To.bind (a := true) (To.pos (drop_lt hx) (To.pure.of (by simp [hle]))) ?_
        refine To.pos rfl (To.bindS (drop_idx hx) (To.bindS (addC_eq (by omega) (by omega)) (To.bind ht1.shift (To.bindS (addC_succ (by omega)) ht))))
      · have h3 := p3 h
        have h4 := q3 (by omega)
        refine ⟨by simp only [List.map_cons, List.sum_cons]; omega, fun k hk => ?_⟩
        rcases List.mem_cons.1 hk with rfl | hk
        · exact h4.2
        · exact h3.2 k hk
    · refine ⟨left, To.succ ?_, by omega, h2, fun h => by omega⟩
      simp only [M.r07_few_loop1]
      refine To.bind (a := false) (To.pos (drop_lt hx) (To.pure.of (by simp; omega))) ?_
      exact To.neg (by simp) To.pure

theorem few7_ok (u : api_Unit) : big u → ∀ (left deep : Int), 0 ≤ left → left ≤ 60 → 0 ≤ deep → deep ≤ 13 → ∃ r, To (fun n => M.r07_few n u left deep) r ∧ r ≤ left ∧ -1000000000000000 ≤ r ∧ (0 ≤ r → (cnt u : Int) ≤ left - r ∧ ∀ x, x ∈ desc u → x.Label.length ≤ 5000) := by
  refine uind (P := fun u => big u → ∀ (left deep : Int), 0 ≤ left → left ≤ 60 → 0 ≤ deep → deep ≤ 13 → ∃ r, To (fun n => M.r07_few n u left deep) r ∧ r ≤ left ∧ -1000000000000000 ≤ r ∧ (0 ≤ r → (cnt u : Int) ≤ left - r ∧ ∀ x, x ∈ desc u → x.Label.length ≤ 5000)) ?_ u
  intro u ih hb left deep h1 h2 h3 h4
  obtain ⟨b1, b2, b3, b4⟩ := hb u (desc_self u)
  obtain ⟨q1, e1, l1, _⟩ := quo50 _ b3
  obtain ⟨q2, e2, l2, _⟩ := quo50 _ b2
  obtain ⟨q3, e3, l3, m3⟩ := quo50 _ b1
  by_cases hd : 12 < deep
  · refine ⟨-1, To.succ ?_, by omega, by omega, fun h => by omega⟩
    simp only [M.r07_few]
    refine To.bindS (subC_eq (by omega) (by omega)) (To.bindS e1 (To.bindS (subC_eq (by omega) (by omega)) (To.bindS e2 (To.bindS (subC_eq (by omega) (by omega)) (To.bindS e3 (To.bindS (subC_eq (by omega) (by omega)) ?_))))))
    exact To.pos hd To.pure
  · obtain ⟨r, ht, p1, p2, p3⟩ := few7_loop u deep h3 (by omega) b4 u.Kids (fun n => M.r07_few n) 0 (left - 1 - q1 - q2 - q3) rfl (fun k hk l a b => ih k hk (big_kid hb hk) l (deep + 1) a b (by omega) (by omega)) (by omega) (by omega)
    refine ⟨r, To.succ ?_, by omega, p2, fun h => ?_⟩
    · simp only [M.r07_few]
      refine To.bindS (subC_eq (by omega) (by omega)) (To.bindS e1 (To.bindS (subC_eq (by omega) (by omega)) (To.bindS e2 (To.bindS (subC_eq (by omega) (by omega)) (To.bindS e3 (To.bindS (subC_eq (by omega) (by omega)) ?_))))))
      exact To.neg hd (To.bind ht To.pure)
    · rw [cnt_eq]
      have h5 := p3 h
      refine ⟨by omega, fun x hx => ?_⟩
      rw [desc_eq] at hx
      rcases List.mem_cons.1 hx with rfl | hx
      · omega
      · obtain ⟨k, hk, hxk⟩ := List.mem_flatMap.1 hx
        exact h5.2 k hk x hxk

theorem few07 (u : api_Unit) (hb : big u) (m : Int) (hm0 : 0 ≤ m) (hm : m ≤ 60) : ∃ b, To (fun n => M.r07_Few n u m) b ∧ (b = true → cnt u ≤ 60 ∧ ∀ x, x ∈ desc u → x.Label.length ≤ 5000) := by
  obtain ⟨r, ht, h1, h2, h3⟩ := few7_ok u hb m 0 hm0 hm (by omega) (by omega)
  refine ⟨decide (0 ≤ r), ?_, fun h => ?_⟩
  · simp only [M.r07_Few]
    exact To.bind ht To.pure
  · have h4 := h3 (of_decide_eq_true h)
    have := of_decide_eq_true h
    exact ⟨by omega, h4.2⟩

end Go.Proofs.YtdnemlcoeecbjaaDoor
