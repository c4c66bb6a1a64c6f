/-
  Labels, addresses, texts: pieces that other chapters' texts hold too (picked by wip/scripts/pick.py).
-/
import Derived.Test.YtfclekegoleiaaaDoorMdl
import Derived.Test.YtfclekegoleiaaaDoorEv
import Derived.Test.YtfclekegoleiaaaDoorDec13
import Derived.KernelRfl
set_option linter.unusedVariables false
set_option linter.unusedSimpArgs false
namespace Go.Proofs.YtfclekegoleiaaaDoor
open Go Go.Dec

def isDig (b : UInt8) : Bool := decide (48 ≤ b.toNat) && decide (b.toNat ≤ 57)

def isCap (b : UInt8) : Bool := decide (65 ≤ b.toNat) && decide (b.toNat ≤ 90)

/-- Which strings are labels. -/
def labB (s : Str) : Bool :=
  let d := (s.takeWhile isDig).length
  decide (1 ≤ d) && decide (d ≤ 4) && decide (s.head? ≠ some 48) && decide (s.length - d ≤ 3) && (s.drop d).all isCap

theorem digits03 (s : Str) : To (fun n => M.r03_digits n s) ((s.takeWhile isDig).length : Int) := by
  have loop : ∀ (xs : Str) (i : Nat), s.drop i = xs → To (fun n => M.r03_digits_loop1 s n (i : Int)) ((i + (xs.takeWhile isDig).length : Nat) : Int) := by
    intro xs
    induction xs with
    | nil =>
      intro i hx
      refine To.succ ?_
      simp only [M.r03_digits_loop1]
      exact To.neg (drop_end hx) (To.pure.of (by simp))
    | cons x xs ih =>
      intro i hx
      refine To.succ ?_
      simp only [M.r03_digits_loop1]
      refine To.pos (drop_lt hx) (To.bindS (drop_idx hx) ?_)
      by_cases h1 : 48 ≤ x.toNat
      · refine To.pos (by omega) (To.bindS (drop_idx hx) ?_)
        by_cases h2 : x.toNat ≤ 57
        · refine To.pos (by omega) ?_
          rw [cast_succ]
          refine (ih (i + 1) (drop_next hx)).of ?_
          rw [List.takeWhile_cons_of_pos (by simp [isDig, h1, h2]), List.length_cons]
          omega
        · refine To.neg (by omega) (To.pure.of ?_)
          rw [List.takeWhile_cons_of_neg (by simp [isDig]; omega)]; rfl
      · refine To.neg (by omega) (To.pure.of ?_)
        rw [List.takeWhile_cons_of_neg (by simp [isDig]; omega)]; rfl
  simp only [M.r03_digits]
  refine To.bind (loop s 0 rfl) (To.pure.of (by simp))

theorem may03 (s : Str) (hl : s.length ≤ 1000000000) : To (fun n => M.r03_May n s) (labB s) := by
  have hd : (s.takeWhile isDig).length ≤ s.length := by
    have := (List.takeWhile_sublist isDig (l := s)).length_le
    exact this
  have loop : ∀ (xs : Str) (i : Nat), s.drop i = xs → To (fun n => M.r03_May_loop1 s n (i : Int)) (if xs.all isCap then .inl () else .inr false) := by
    intro xs
    induction xs with
    | nil =>
      intro i hx
      refine To.succ ?_
      simp only [M.r03_May_loop1]
      exact To.neg (drop_end hx) (To.pure.of (by simp))
    | cons x xs ih =>
      intro i hx
      refine To.succ ?_
      simp only [M.r03_May_loop1]
      refine To.pos (drop_lt hx) (To.bindS (drop_idx hx) ?_)
      by_cases h1 : x.toNat < 65
      · refine To.pos (by omega) (To.pure.of ?_)
        rw [if_neg (by simp [isCap]; omega)]
      · refine To.neg (by omega) (To.bindS (drop_idx hx) ?_)
        by_cases h2 : 90 < x.toNat
        · refine To.pos (by omega) (To.pure.of ?_)
          rw [if_neg (by simp [isCap]; omega)]
        · refine To.neg (by omega) ?_
          rw [cast_succ]
          refine (ih (i + 1) (drop_next hx)).of ?_
          have : isCap x = true := by simp [isCap]; omega
          simp [this]
  generalize hdd : (s.takeWhile isDig).length = d at hd
  have hdig := digits03 s
  rw [hdd] at hdig
  simp only [M.r03_May]
  refine To.bind hdig ?_
  by_cases h1 : d < 1
  · refine To.bind (a := true) (To.pos (by omega) To.pure) (To.pos rfl (To.pure.of ?_))
    simp [labB, hdd]; omega
  by_cases h2 : 4 < d
  · refine To.bind (a := true) (To.neg (by omega) (To.pos (by omega) To.pure)) (To.pos rfl (To.pure.of ?_))
    simp [labB, hdd]; omega
  obtain ⟨x, xs, rfl⟩ : ∃ x xs, s = x :: xs := by
    cases s with
    | nil => simp at hd; omega
    | cons x xs => exact ⟨x, xs, rfl⟩
  by_cases h3 : x = 48
  · subst h3
    refine To.bind (a := true) (To.neg (by omega) (To.neg (by omega) (To.bindS idx_zero (To.pos rfl To.pure)))) (To.pos rfl (To.pure.of ?_))
    simp [labB]
  have h3' : ¬ ((x.toNat : Int) = 48) := by
    intro h
    exact h3 (UInt8.toNat_inj.1 (by have : (48 : UInt8).toNat = 48 := rfl; omega))
  by_cases h4 : 3 < (x :: xs).length - d
  · refine To.bind (a := true) (To.neg (by omega) (To.neg (by omega) (To.bindS idx_zero (To.neg h3' (To.bindS (subC_eq (by omega) (by omega)) (To.pure.of (by simp; simp at h4 hd; omega))))))) (To.pos rfl (To.pure.of ?_))
    simp only [labB, hdd]
    rw [decide_eq_false (show ¬ (x :: xs).length - d ≤ 3 by omega)]
    simp
  refine To.bind (a := false) (To.neg (by omega) (To.neg (by omega) (To.bindS idx_zero (To.neg h3' (To.bindS (subC_eq (by omega) (by omega)) (To.pure.of (by simp; simp at h4 hd; omega))))))) (To.neg (by simp) ?_)
  refine To.bind (loop _ d rfl) ?_
  simp only [labB, hdd]
  rw [decide_eq_true (show 1 ≤ d by omega), decide_eq_true (show d ≤ 4 by omega), decide_eq_true (show (x :: xs).length - d ≤ 3 by omega), decide_eq_true (show (x :: xs).head? ≠ some 48 by simpa using h3)]
  by_cases h5 : ((x :: xs).drop d).all isCap = true
  · rw [if_pos h5]; exact To.pure.of (by rw [h5]; rfl)
  · rw [if_neg h5]
    exact To.pure.of (by simp only [Bool.not_eq_true] at h5; rw [h5]; rfl)

/-- The search for a rune of which p holds, where p holds of all that lies above ASCII. -/
theorem idxfun (s : Str) (f : Int → Option Bool) (p : UInt8 → Bool) (hf : ∀ b : UInt8, b.toNat < 128 → f (b.toNat : Int) = some (p b)) (hh : ∀ r : Nat, 128 ≤ r → f (r : Int) = some true) (hp : ∀ b : UInt8, 128 ≤ b.toNat → p b = true) :
    To (fun n => M.strings_IndexFunc n s f) (if s.any p then (((s.takeWhile fun b => !p b).length : Nat) : Int) else -1) := by
  have loop : ∀ (xs : Str) (i : Nat), s.drop i = xs → ∃ v, To (fun n => M.strings_indexFunc_loop1 s f true n i) (if xs.any p then .inr ((i + (xs.takeWhile fun b => !p b).length : Nat) : Int) else .inl v) := by
    intro xs
    induction xs with
    | nil =>
      intro i hx
      have := List.drop_eq_nil_iff.1 hx
      refine ⟨i, To.succ ?_⟩
      simp only [M.strings_indexFunc_loop1]
      exact To.neg (by omega) (To.pure.of (by simp))
    | cons x xs ih =>
      intro i hx
      obtain ⟨h1, h2, h3⟩ := drop_cons hx
      have hxi : s[i] = x := by rw [List.getElem?_eq_getElem h1] at h2; exact Option.some.inj h2
      by_cases ha : x.toNat < 128
      · have hr := runeAt_ascii h1 (by rw [hxi]; exact ha)
        rw [hxi] at hr
        obtain ⟨v, hv⟩ := ih (i + 1) h3
        refine ⟨v, To.succ ?_⟩
        simp only [M.strings_indexFunc_loop1]
        refine To.pos h1 ?_
        rw [hr]
        refine To.bindS (hf x ha) ?_
        cases hpx : p x with
        | true => exact To.pos rfl (To.pure.of (by simp [hpx]))
        | false =>
          refine To.neg (by simp) (hv.of ?_)
          have tw : (x :: xs).takeWhile (fun b => !p b) = x :: xs.takeWhile (fun b => !p b) := List.takeWhile_cons_of_pos (by simp [hpx])
          rw [tw]
          simp only [List.any_cons, hpx, Bool.false_or, List.length_cons]
          split
          · congr 1; omega
          · rfl
      · obtain ⟨q1, q2⟩ := runeAt_high h1 (by rw [hxi]; omega)
        have hpx := hp x (by omega)
        refine ⟨0, To.succ ?_⟩
        simp only [M.strings_indexFunc_loop1]
        refine To.pos h1 (To.bindS (hh _ q1) (To.pos rfl (To.pure.of (by simp [hpx]))))
  obtain ⟨v, hv⟩ := loop s 0 rfl
  simp only [M.strings_IndexFunc, M.strings_indexFunc]
  by_cases h : s.any p = true
  · rw [if_pos h] at hv ⊢
    exact To.bind (To.bind hv To.pure) (To.pure.of (by simp))
  · rw [if_neg h] at hv ⊢
    exact To.bind (To.bind hv To.pure) To.pure

theorem tw_all {α : Type} {p : α → Bool} : ∀ {l : List α}, (∀ b, b ∈ l → p b = true) → l.takeWhile p = l
  | [], _ => rfl
  | x :: l, h => by rw [List.takeWhile_cons_of_pos (h x (by simp)), tw_all fun b hb => h b (by simp [hb])]

theorem tw_not (s : Str) : (s.takeWhile fun b => !(!isDig b)) = s.takeWhile isDig := by simp

theorem parted_ok (s : Str) : To (fun n => M.label_parted n s) (s.take (s.takeWhile isDig).length, s.drop (s.takeWhile isDig).length) := by
  have h := idxfun s (fun s0 => M.label_parted_1 s0) (fun b => !isDig b) (fun b hb => by
    simp only [M.label_parted_1, isDig]
    split
    · simp; omega
    · congr 1; rw [Bool.eq_iff_iff]; simp; omega) (fun r hr => by
    simp only [M.label_parted_1]
    rw [if_neg (by omega)]; congr 1; simp; omega) (fun b hb => by simp [isDig]; omega)
  have hd : (s.takeWhile isDig).length ≤ s.length := (List.takeWhile_sublist isDig (l := s)).length_le
  simp only [M.label_parted]
  refine To.bind h ?_
  rw [tw_not]
  by_cases ha : (s.any fun b => !isDig b) = true
  · rw [if_pos ha]
    refine To.neg (by omega) (To.bindS (a := s.take (s.takeWhile isDig).length) ?_ (To.bindS (a := s.drop (s.takeWhile isDig).length) ?_ To.pure))
    · simp [slcHi, hd]
    · simp [slcLo, hd]
  · rw [if_neg ha]
    refine To.pos (by omega) (To.pure.of ?_)
    have hall : s.takeWhile isDig = s := by
      refine tw_all fun b hb => ?_
      simp only [Bool.not_eq_true, List.any_eq_false] at ha
      have := ha b hb
      simpa using this
    rw [hall]; simp

theorem label_ok (s : Str) : To (fun n => M.label_Valid n s) (labB s) := by
  have hd : (s.takeWhile isDig).length ≤ s.length := (List.takeWhile_sublist isDig (l := s)).length_le
  have h := parted_ok s
  generalize hdd : (s.takeWhile isDig).length = d at hd h
  have hc := idxfun (s.drop d) (fun s0 => M.label_Valid_1 s0) (fun b => !isCap b) (fun b hb => by
    simp only [M.label_Valid_1, isCap]
    split
    · simp; omega
    · congr 1; rw [Bool.eq_iff_iff]; simp; omega) (fun r hr => by
    simp only [M.label_Valid_1]
    rw [if_neg (by omega)]; congr 1; simp; omega) (fun b hb => by simp [isCap]; omega)
  simp only [M.label_Valid]
  refine To.bind h ?_
  dsimp only
  have hl : ((s.take d).length : Int) = d := by rw [List.length_take]; omega
  have hl2 : (((s.drop d).length : Nat) : Int) = ((s.length - d : Nat) : Int) := by rw [List.length_drop]
  by_cases h1 : d < 1
  · exact To.neg (by omega) (To.pure.of (by simp [labB, hdd]; omega))
  refine To.pos (by omega) ?_
  by_cases h2 : 4 < d
  · exact To.neg (by omega) (To.pure.of (by simp [labB, hdd]; omega))
  refine To.pos (by omega) ?_
  obtain ⟨x, xs, rfl⟩ : ∃ x xs, s = x :: xs := by
    cases s with
    | nil => simp at hd; omega
    | cons x xs => exact ⟨x, xs, rfl⟩
  have hx : idx ((x :: xs).take d) (0 : Int) = some x := by
    obtain ⟨e, rfl⟩ : ∃ e, d = e + 1 := ⟨d - 1, by omega⟩
    simp [idx]
  refine To.bindS hx ?_
  by_cases h3 : x = 48
  · subst h3
    exact To.neg (by simp) (To.pure.of (by simp [labB]))
  have h3' : (x.toNat : Int) ≠ 48 := by
    intro h
    exact h3 (UInt8.toNat_inj.1 (by have : (48 : UInt8).toNat = 48 := rfl; omega))
  refine To.pos h3' ?_
  simp only [labB, hdd]
  rw [decide_eq_true (show 1 ≤ d by omega), decide_eq_true (show d ≤ 4 by omega), decide_eq_true (show (x :: xs).head? ≠ some 48 by simpa using h3)]
  by_cases h4 : 3 < (x :: xs).length - d
  · refine To.neg (by omega) (To.pure.of ?_)
    rw [decide_eq_false (show ¬ (x :: xs).length - d ≤ 3 by omega)]
    simp
  refine To.pos (by omega) ?_
  rw [decide_eq_true (show (x :: xs).length - d ≤ 3 by omega)]
  simp only [M.strings_ContainsFunc]
  refine To.bind (To.bind hc To.pure) (To.pure.of ?_)
  have he : (((x :: xs).drop d).any fun b => !isCap b) = !(((x :: xs).drop d).all isCap) := by rw [List.not_all_eq_any_not]
  rw [he]
  cases ((x :: xs).drop d).all isCap <;> simp <;> omega

def bookB (s : api_Step) : Bool := decide (s.Kind = 0) && (s.Label == ([] : Str))

def stepB (s : api_Step) : Bool := decide (1 ≤ s.Kind) && decide (s.Kind ≤ 7) && labB s.Label

def stepsB : List api_Step → Bool
  | [] => true
  | s :: p => stepB s && stepsB p

/-- Which addresses are valid. -/
def validB (p : List api_Step) : Bool :=
  (match p with
    | [] => true
    | s :: q => (bookB s || stepB s) && stepsB q) && decide (p.length ≤ 9)

theorem book_a (s : api_Step) : M.address_book s = some (bookB s) := by
  simp only [M.address_book, bookB]
  split <;> simp_all

theorem book_r (s : api_Step) : M.r07_book s = some (bookB s) := by
  simp only [M.r07_book, bookB]
  split <;> simp_all

theorem valid_loop (p : List api_Step) (i : Int) (hi : 1 ≤ i) : To (fun n => M.address_Valid_loop1 n p i) (if stepsB p then .inl () else .inr false) := by
  induction p generalizing i with
  | nil => simp only [M.address_Valid_loop1]; exact To.pure
  | cons s p ih =>
    simp only [M.address_Valid_loop1]
    refine To.bind (a := false) (To.neg (by omega) To.pure) (To.neg (by simp) ?_)
    by_cases h1 : s.Kind ≤ 0
    · exact To.pos h1 (To.pure.of (by rw [if_neg]; simp [stepsB, stepB]; omega))
    refine To.neg h1 ?_
    by_cases h2 : 7 < s.Kind
    · exact To.pos h2 (To.pure.of (by rw [if_neg]; simp [stepsB, stepB]; omega))
    refine To.neg h2 (To.bind (label_ok s.Label) ?_)
    cases hl : labB s.Label with
    | false => exact To.pos rfl (To.pure.of (by rw [if_neg]; simp [stepsB, stepB, hl]))
    | true =>
      refine To.neg (by simp) ((ih (i + 1) (by omega)).of ?_)
      have : stepB s = true := by simp [stepB, hl]; omega
      simp [stepsB, this]

theorem avalid_ok (p : List api_Step) : To (fun n => M.address_Valid n p) (validB p) := by
  simp only [M.address_Valid]
  cases p with
  | nil =>
    simp only [M.address_Valid_loop1]
    exact To.bind (f := fun _ => some (Sum.inl ())) To.pure (To.pure.of (by simp [validB]))
  | cons s p =>
    have fin : ∀ b : Bool, To (fun n => M.address_Valid_loop1 n (s :: p) 0) (if b then .inl () else .inr false) → b = ((bookB s || stepB s) && stepsB p) → To (fun n => Option.bind (M.address_Valid_loop1 n (s :: p) 0) fun
        | .inl _ => some (decide (((s :: p).length : Int) ≤ (9 : Int)))
        | .inr ret0 => some ret0) (validB (s :: p)) := by
      intro b hb he
      refine To.bind hb ?_
      cases b with
      | true => exact To.pure.of (by simp only [validB, ← he]; simp; omega)
      | false => exact To.pure.of (by simp [validB, ← he])
    refine fin ((bookB s || stepB s) && stepsB p) ?_ rfl
    simp only [M.address_Valid_loop1]
    refine To.bind (a := bookB s) (To.pos (by simp) (To.bindS (book_a s) To.pure)) ?_
    cases hb : bookB s with
    | true =>
      refine To.pos rfl ((valid_loop p (0 + 1) (by omega)).of (by simp))
    | false =>
      refine To.neg (by simp) ?_
      simp only [Bool.false_or]
      by_cases h1 : s.Kind ≤ 0
      · exact To.pos h1 (To.pure.of (by rw [if_neg]; simp [stepB]; omega))
      refine To.neg h1 ?_
      by_cases h2 : 7 < s.Kind
      · exact To.pos h2 (To.pure.of (by rw [if_neg]; simp [stepB]; omega))
      refine To.neg h2 (To.bind (label_ok s.Label) ?_)
      cases hl : labB s.Label with
      | false => exact To.pos rfl (To.pure.of (by rw [if_neg]; simp [stepB, hl]))
      | true =>
        refine To.neg (by simp) ((valid_loop p (0 + 1) (by omega)).of ?_)
        have : stepB s = true := by simp [stepB, hl]; omega
        simp [this]

theorem may_loop (p : List api_Step) (hp : ∀ y, y ∈ p → y.Label.length ≤ 1000000000) : ∀ (xs : List api_Step) (i : Nat), 1 ≤ i → p.drop i = xs → To (fun n => M.r07_May_loop1 p n (i : Int)) (if stepsB xs then .inl () else .inr false) := by
  intro xs
  induction xs with
  | nil =>
    intro i _ hx
    refine To.succ ?_
    simp only [M.r07_May_loop1]
    exact To.neg (drop_end hx) To.pure
  | cons s xs ih =>
    intro i hi hx
    refine To.succ ?_
    simp only [M.r07_May_loop1]
    refine To.pos (drop_lt hx) (To.bind (a := false) (To.neg (by omega) To.pure) (To.neg (by simp) (To.bindS (drop_idx hx) ?_)))
    by_cases h1 : s.Kind < 1
    · exact To.pos h1 (To.pure.of (by rw [if_neg]; simp [stepsB, stepB]; omega))
    refine To.neg h1 (To.bindS (drop_idx hx) ?_)
    by_cases h2 : 7 < s.Kind
    · exact To.pos h2 (To.pure.of (by rw [if_neg]; simp [stepsB, stepB]; omega))
    have hm : s ∈ p := List.mem_of_getElem? (drop_cons hx).2.1
    refine To.neg h2 (To.bindS (drop_idx hx) (To.bind (may03 s.Label (hp s hm)) ?_))
    cases hl : labB s.Label with
    | false => exact To.pos rfl (To.pure.of (by rw [if_neg]; simp [stepsB, stepB, hl]))
    | true =>
      refine To.neg (by simp) ?_
      rw [cast_succ]
      refine (ih (i + 1) (by omega) (drop_next hx)).of ?_
      have : stepB s = true := by simp [stepB, hl]; omega
      simp [stepsB, this]

theorem amay_ok (p : List api_Step) (hp : ∀ y, y ∈ p → y.Label.length ≤ 1000000000) : To (fun n => M.r07_May n p) (validB p) := by
  simp only [M.r07_May]
  by_cases h9 : 9 < p.length
  · refine To.pos (by omega) (To.pure.of ?_)
    cases p with
    | nil => simp at h9
    | cons s q => simp only [validB]; rw [decide_eq_false (show ¬ (s :: q).length ≤ 9 by omega)]; simp
  refine To.neg (by omega) ?_
  cases p with
  | nil =>
    refine To.bind (a := .inl ()) (To.succ ?_) ?_
    · simp only [M.r07_May_loop1]
      exact To.neg (by simp) To.pure
    · exact To.pure.of (by simp [validB])
  | cons s p =>
    have fin : ∀ b : Bool, To (fun n => M.r07_May_loop1 (s :: p) n 0) (if b then .inl () else .inr false) → b = ((bookB s || stepB s) && stepsB p) → To (fun n => Option.bind (M.r07_May_loop1 (s :: p) n 0) fun
        | .inl _ => some true
        | .inr ret0 => some ret0) (validB (s :: p)) := by
      intro b hb he
      refine To.bind hb ?_
      cases b with
      | true => exact To.pure.of (by simp only [validB, ← he]; simp at h9 ⊢; omega)
      | false => exact To.pure.of (by simp [validB, ← he])
    refine fin ((bookB s || stepB s) && stepsB p) (To.succ ?_) rfl
    have hs := hp s (by simp)
    have hn := may_loop (s :: p) hp p 1 (by omega) rfl
    simp only [M.r07_May_loop1]
    refine To.pos (by simp) (To.bind (a := bookB s) (To.pos (by simp) (To.bindS idx_zero (To.bindS (book_r s) To.pure))) ?_)
    cases hb : bookB s with
    | true => exact To.pos rfl (hn.of (by simp))
    | false =>
      refine To.neg (by simp) (To.bindS idx_zero ?_)
      simp only [Bool.false_or]
      by_cases h1 : s.Kind < 1
      · exact To.pos h1 (To.pure.of (by rw [if_neg]; simp [stepB]; omega))
      refine To.neg h1 (To.bindS idx_zero ?_)
      by_cases h2 : 7 < s.Kind
      · exact To.pos h2 (To.pure.of (by rw [if_neg]; simp [stepB]; omega))
      refine To.neg h2 (To.bindS idx_zero (To.bind (may03 s.Label hs) ?_))
      cases hl : labB s.Label with
      | false => exact To.pos rfl (To.pure.of (by rw [if_neg]; simp [stepB, hl]))
      | true =>
        refine To.neg (by simp) (hn.of ?_)
        have : stepB s = true := by simp [stepB, hl]; omega
        simp [this]

def tailS (l : List Str) : Str := l.flatMap (fun x => 32 :: x)

/-- Texts with a space between them. -/
def joinS : List Str → Str
  | [] => []
  | a :: l => a ++ tailS l

theorem tailS_append (a b : List Str) : tailS (a ++ b) = tailS a ++ tailS b := by simp [tailS]

def total (l : List Str) : Nat := (l.map (fun x => x.length + 1)).sum

theorem total_len (l : List Str) : l.length ≤ total l := by
  unfold total
  induction l with
  | nil => simp
  | cons x l ih => simp; omega

theorem tail_len (l : List Str) : (tailS l).length = total l := by
  unfold tailS total
  induction l with
  | nil => rfl
  | cons x l ih => simp [ih]; omega

theorem join_loop1 : ∀ (l : List Str) (n : Nat), n + total l ≤ 1000000000 → ∃ m : Nat, M.strings_Join_loop1 l (n : Int) = some (m : Int) ∧ m ≤ n + total l
  | [], n, h => ⟨n, rfl, by omega⟩
  | x :: l, n, h => by
    have ht : total (x :: l) = x.length + 1 + total l := by simp [total]
    rw [ht] at h
    obtain ⟨m, hm, hle⟩ := join_loop1 l (n + x.length) (by omega)
    refine ⟨m, ?_, by omega⟩
    simp only [M.strings_Join_loop1]
    rw [subC_eq (by omega) (by omega), Option.bind_some, if_neg (by omega), addC_eq (by omega) (by omega), Option.bind_some, ← hm]
    congr 1

theorem join_loop2 : ∀ (l : List Str) (b : Str), b.length + total l ≤ 1000000000 → M.strings_Join_loop2 [32] l b = some (b ++ tailS l)
  | [], b, _ => by simp [M.strings_Join_loop2, tailS]
  | x :: l, b, h => by
    have ht : total (x :: l) = x.length + 1 + total l := by simp [total]
    rw [ht] at h
    simp only [M.strings_Join_loop2]
    rw [appC_eq (by simp; omega), Option.bind_some, appC_eq (by simp; omega), Option.bind_some, join_loop2 l _ (by simp; omega)]
    simp [tailS]

theorem tdiv_nat (a b : Nat) : ((a : Int).tdiv (b : Int)) = ((a / b : Nat) : Int) := rfl

theorem quo_nat (a b : Nat) (ha : a ≤ 9223372036854775807) (hb : 1 ≤ b) : quoC (a : Int) (b : Int) = some ((a / b : Nat) : Int) := by
  unfold quoC
  rw [tdiv_nat]
  have h2 := Nat.div_le_self a b
  generalize a / b = q at h2 ⊢
  rw [if_pos]
  refine ⟨by omega, ?_⟩
  simp only [fits64, Bool.and_eq_true, decide_eq_true_eq]
  omega

theorem quo_max' (a k : Nat) (ha1 : 4000000000 ≤ a) (ha2 : a ≤ 9223372036854775807) (h1 : 1 ≤ k) (h2 : k ≤ 1000000000) : ∃ q : Nat, quoC (a : Int) (k : Int) = some (q : Int) ∧ 2 ≤ q :=
  ⟨a / k, quo_nat a k ha2 h1, by rw [Nat.le_div_iff_mul_le (by omega)]; omega⟩

theorem maxI : (9223372036854775807 : Int) = ((9223372036854775807 : Nat) : Int) := rfl

theorem quo_max (k : Nat) (h1 : 1 ≤ k) (h2 : k ≤ 1000000000) : ∃ q : Nat, quoC (9223372036854775807 : Int) (k : Int) = some (q : Int) ∧ 2 ≤ q :=
  maxI ▸ quo_max' 9223372036854775807 k (by decide) (by decide) h1 h2

theorem join_two (x y : Str) (l : List Str) (h : total (x :: y :: l) ≤ 400000000) : M.strings_Join (x :: y :: l) [32] = some (joinS (x :: y :: l)) := by
  have hlen := total_len (x :: y :: l)
  have h1 : ((x :: y :: l).length : Int) = ((l.length + 2 : Nat) : Int) := by simp; omega
  have ht : total (x :: y :: l) = x.length + 1 + total (y :: l) := by simp [total]
  have hlen' : l.length + 2 ≤ total (x :: y :: l) := by simpa using hlen
  have hs : (([32] : Str).length : Int) = 1 := rfl
  have e1 : ((l.length + 2 : Nat) : Int) - 1 = ((l.length + 1 : Nat) : Int) := by omega
  have hsub : subC ((l.length + 2 : Nat) : Int) 1 = some ((l.length + 1 : Nat) : Int) := by rw [subC_eq (by omega) (by omega), e1]
  obtain ⟨q, hq, hq2⟩ := quo_max (l.length + 1) (by omega) (by omega)
  have hmul : mulC (1 : Int) ((l.length + 1 : Nat) : Int) = some ((l.length + 1 : Nat) : Int) := by rw [mulC_eq (by omega) (by omega), Int.one_mul]
  have hadd : addC (0 : Int) ((l.length + 1 : Nat) : Int) = some ((l.length + 1 : Nat) : Int) := by rw [addC_eq (by omega) (by omega), Int.zero_add]
  obtain ⟨m, hm, hle⟩ := join_loop1 (x :: y :: l) (l.length + 1) (by omega)
  have hg : growC (m : Int) = some () := by
    unfold growC
    rw [if_pos]
    omega
  have hsl : slcLo (x :: y :: l) (1 : Int) = some (y :: l) := by
    unfold slcLo
    rw [if_pos (by simp; omega)]
    rfl
  have n0 : ¬ ((l.length + 2 : Nat) : Int) = 0 := by omega
  have n1 : ¬ ((l.length + 2 : Nat) : Int) = 1 := by omega
  have n2 : (0 : Int) < 1 := by omega
  have n3 : ¬ ((q : Nat) : Int) ≤ 1 := by omega
  have ha0 : appC ([] : Str) x = some x := by rw [appC_eq (by simp; omega)]; rfl
  have hl2 : M.strings_Join_loop2 [32] (y :: l) x = some (x ++ tailS (y :: l)) := join_loop2 (y :: l) x (by omega)
  unfold M.strings_Join
  rw [h1, if_neg n0, if_neg n1, hs, if_pos n2, hsub, Option.bind_some, hq, Option.bind_some]
  rw [if_neg n3]
  rw [Option.bind_some, Option.bind_some, hmul, Option.bind_some, hadd, Option.bind_some, Option.bind_some, hm, Option.bind_some, hg, Option.bind_some, idx_zero, Option.bind_some, ha0, Option.bind_some, hsl, Option.bind_some, hl2, Option.bind_some]
  rfl

theorem join_ok (l : List Str) (h : total l ≤ 400000000) : M.strings_Join l [32] = some (joinS l) := by
  cases l with
  | nil => rfl
  | cons x l =>
    cases l with
    | nil =>
      unfold M.strings_Join
      rw [if_neg (by simp), if_pos (by simp), idx_zero, Option.bind_some]
      simp [joinS, tailS]
    | cons y l => exact join_two x y l h

def nm : List Str := [[98, 111, 111, 107], [112, 97, 114, 116], [115, 101, 99, 116, 105, 111, 110], [112, 97, 114, 97, 103, 114, 97, 112, 104], [116, 97, 98, 108, 101], [114, 111, 119], [99, 101, 108, 108], [110, 111, 116, 101]]

def nameOf (k : Int) : Str := (idx nm k).getD []

theorem name_idx {k : Int} (h0 : 0 ≤ k) (h1 : k ≤ 7) : idx nm k = some (nameOf k) ∧ (nameOf k).length ≤ 9 := by
  obtain ⟨m, rfl⟩ : ∃ m : Nat, k = (m : Int) := ⟨k.toNat, by omega⟩
  have hm : m = 0 ∨ m = 1 ∨ m = 2 ∨ m = 3 ∨ m = 4 ∨ m = 5 ∨ m = 6 ∨ m = 7 := by omega
  rcases hm with rfl | rfl | rfl | rfl | rfl | rfl | rfl | rfl <;> exact ⟨rfl, by decide⟩

def wordsOf (s : api_Step) : List Str := if bookB s = true then [nameOf s.Kind] else [nameOf s.Kind, s.Label]

def words (p : List api_Step) : List Str := p.flatMap wordsOf

def okS (s : api_Step) : Prop := 0 ≤ s.Kind ∧ s.Kind ≤ 7 ∧ s.Label.length ≤ 7

theorem lab_len {s : Str} (h : labB s = true) : s.length ≤ 7 := by
  unfold labB at h
  simp only [Bool.and_eq_true, decide_eq_true_eq] at h
  omega

theorem step_ok {s : api_Step} (h : stepB s = true) : okS s := by
  unfold stepB at h
  simp only [Bool.and_eq_true, decide_eq_true_eq] at h
  exact ⟨by omega, h.1.2, lab_len h.2⟩

theorem steps_ok : ∀ {p : List api_Step}, stepsB p = true → ∀ s, s ∈ p → okS s
  | x :: p, h, s, hs => by
    unfold stepsB at h
    rw [Bool.and_eq_true] at h
    rcases List.mem_cons.1 hs with rfl | hs
    · exact step_ok h.1
    · exact steps_ok h.2 s hs

theorem valid_steps {p : List api_Step} (h : validB p = true) : p.length ≤ 9 ∧ ∀ s, s ∈ p → okS s := by
  unfold validB at h
  rw [Bool.and_eq_true, decide_eq_true_eq] at h
  refine ⟨h.2, ?_⟩
  cases p with
  | nil => intro s hs; cases hs
  | cons x p =>
    have h1 := h.1
    simp only [Bool.and_eq_true, Bool.or_eq_true] at h1
    intro s hs
    rcases List.mem_cons.1 hs with rfl | hs
    · rcases h1.1 with hb | hb
      · unfold bookB at hb
        simp only [Bool.and_eq_true, decide_eq_true_eq, beq_iff_eq] at hb
        exact ⟨by omega, by omega, by rw [hb.2]; simp⟩
      · exact step_ok hb
    · exact steps_ok h1.2 s hs

theorem words_total : ∀ {p : List api_Step}, (∀ s, s ∈ p → okS s) → total (words p) ≤ 20 * p.length
  | [], _ => by simp [words, total]
  | x :: p, h => by
    have ih := words_total (p := p) fun s hs => h s (by simp [hs])
    obtain ⟨h1, h2, h3⟩ := h x (by simp)
    have h4 := (name_idx h1 h2).2
    have : total (words (x :: p)) = total (wordsOf x) + total (words p) := by simp [words, total]
    rw [this]
    have h5 : total (wordsOf x) ≤ 20 := by
      unfold wordsOf total
      split <;> simp <;> omega
    simp only [List.length_cons]
    omega

def fmt (p : List api_Step) : Str := if validB p = true then joinS (words p) else []

theorem join_len (l : List Str) : (joinS l).length ≤ total l := by
  cases l with
  | nil => simp [joinS]
  | cons a l =>
    simp only [joinS, List.length_append, tail_len]
    simp [total]

theorem fmt_len (p : List api_Step) : (fmt p).length ≤ 200 := by
  unfold fmt
  split
  · rename_i h
    obtain ⟨h1, h2⟩ := valid_steps h
    have := words_total h2
    have := join_len (words p)
    omega
  · simp

theorem name_a {k : Int} (h0 : 0 ≤ k) (h1 : k ≤ 7) : M.address_name k = some (nameOf k, true) := by
  simp only [M.address_name]
  rw [if_neg (by omega), if_neg (by omega)]
  have := (name_idx h0 h1).1
  unfold nm at this
  rw [this, Option.bind_some]

theorem format_loop : ∀ (xs : List api_Step) (ws : List Str), (∀ s, s ∈ xs → okS s) → ws.length + 2 * xs.length ≤ 1000000 → M.address_Format_loop1 xs ws = some (ws ++ words xs)
  | [], ws, _, _ => by simp [M.address_Format_loop1, words]
  | x :: xs, ws, h, hl => by
    obtain ⟨h1, h2, h3⟩ := h x (by simp)
    simp only [List.length_cons] at hl
    simp only [M.address_Format_loop1]
    rw [name_a h1 h2, Option.bind_some, appC_eq (by simp; omega), Option.bind_some, book_a, Option.bind_some]
    by_cases hb : bookB x = true
    · rw [if_neg (by simp [hb]), format_loop xs _ (fun s hs => h s (by simp [hs])) (by simp; omega)]
      simp [words, wordsOf, hb]
    · rw [if_pos (by simpa using hb), appC_eq (by simp; omega), Option.bind_some, format_loop xs _ (fun s hs => h s (by simp [hs])) (by simp; omega)]
      simp [words, wordsOf, hb]

theorem format_ok (p : List api_Step) : To (fun n => M.address_Format n p) (fmt p) := by
  simp only [M.address_Format]
  refine To.bind (avalid_ok p) ?_
  unfold fmt
  by_cases hv : validB p = true
  · obtain ⟨h1, h2⟩ := valid_steps hv
    have := words_total h2
    rw [if_pos hv]
    refine To.neg (by simp [hv]) (To.bindS (format_loop p [] h2 (by simp; omega)) (To.bindS (join_ok _ (by simp; omega)) (To.pure.of (by simp))))
  · rw [if_neg hv]
    exact To.pos (by simpa using hv) To.pure

theorem text_loop (p : List api_Step) (hp : ∀ s, s ∈ p → okS s) : ∀ (xs : List api_Step) (i : Nat) (s0 : Str), 1 ≤ i → p.drop i = xs → s0.length + 20 * xs.length ≤ 1000000 → To (fun n => M.r07_Text_loop1 p n s0 (i : Int)) (s0 ++ tailS (words xs)) := by
  intro xs
  induction xs with
  | nil =>
    intro i s0 _ hx _
    refine To.succ ?_
    simp only [M.r07_Text_loop1]
    exact To.neg (drop_end hx) (To.pure.of (by simp [words, tailS]))
  | cons x xs ih =>
    intro i s0 hi hx hl
    have hm : x ∈ p := List.mem_of_mem_drop (i := i) (by rw [hx]; simp)
    obtain ⟨h1, h2, h3⟩ := hp x hm
    obtain ⟨h4, h5⟩ := name_idx h1 h2
    simp only [List.length_cons] at hl
    have hw : words (x :: xs) = wordsOf x ++ words xs := by simp [words]
    rw [hw, tailS_append]
    refine To.succ ?_
    simp only [M.r07_Text_loop1]
    refine To.pos (drop_lt hx) (To.bind (a := s0 ++ [32]) (To.pos (by omega) (To.bindS (catC_eq (by simp; omega)) To.pure)) ?_)
    refine To.bindS (a := nm) rfl (To.bindS (drop_idx hx) (To.bindS h4 (To.bindS (catC_eq (by simp; omega)) (To.bindS (drop_idx hx) (To.bindS (book_r x) ?_)))))
    rw [cast_succ]
    by_cases hb : bookB x = true
    · refine To.neg (by simp [hb]) ?_
      exact (ih (i + 1) _ (by omega) (drop_next hx) (by simp; omega)).of (by simp [wordsOf, hb, tailS])
    · refine To.pos (by simpa using hb) (To.bindS (catC_eq (by simp; omega)) (To.bindS (drop_idx hx) (To.bindS (catC_eq (by simp; omega)) ?_)))
      exact (ih (i + 1) _ (by omega) (drop_next hx) (by simp; omega)).of (by simp [wordsOf, hb, tailS])

theorem text_ok (p : List api_Step) (hp : ∀ y, y ∈ p → y.Label.length ≤ 1000000000) : To (fun n => M.r07_Text n p) (fmt p) := by
  simp only [M.r07_Text]
  refine To.bind (amay_ok p hp) ?_
  unfold fmt
  by_cases hv : validB p = true
  · obtain ⟨hl, hs⟩ := valid_steps hv
    rw [if_pos hv]
    refine To.neg (by simp [hv]) (To.bind (a := joinS (words p)) ?_ To.pure)
    cases p with
    | nil =>
      refine To.succ ?_
      simp only [M.r07_Text_loop1]
      exact To.neg (by simp) To.pure
    | cons x xs =>
      obtain ⟨h1, h2, h3⟩ := hs x (by simp)
      obtain ⟨h4, h5⟩ := name_idx h1 h2
      simp only [List.length_cons] at hl
      have hw : words (x :: xs) = wordsOf x ++ words xs := by simp [words]
      refine To.succ ?_
      simp only [M.r07_Text_loop1]
      refine To.pos (by simp) (To.bind (a := ([] : Str)) (To.neg (by simp) To.pure) ?_)
      refine To.bindS (a := nm) rfl (To.bindS idx_zero (To.bindS h4 (To.bindS (catC_eq (by simp; omega)) (To.bindS idx_zero (To.bindS (book_r x) ?_)))))
      by_cases hb : bookB x = true
      · refine To.neg (by simp [hb]) ?_
        exact (text_loop (x :: xs) hs xs 1 _ (by omega) rfl (by simp; omega)).of (by rw [hw]; simp [wordsOf, hb, joinS])
      · refine To.pos (by simpa using hb) (To.bindS (catC_eq (by simp; omega)) (To.bindS idx_zero (To.bindS (catC_eq (by simp; omega)) ?_)))
        exact (text_loop (x :: xs) hs xs 1 _ (by omega) rfl (by simp; omega)).of (by rw [hw]; simp [wordsOf, hb, joinS, tailS])
  · rw [if_neg hv]
    exact To.pos (by simpa using hv) To.pure

theorem short07 (p : List api_Step) : ∃ b, To (fun n => M.law07_short n p) b ∧ (b = true → p.length ≤ 20 ∧ ∀ y, y ∈ p → y.Label.length ≤ 100) := by
  have loop : ∀ (xs : List api_Step) (i : Nat), p.drop i = xs → ∃ c : Unit ⊕ Bool, To (fun n => M.law07_short_loop1 p n (i : Int)) c ∧ (c = .inr false ∨ (c = .inl () ∧ ∀ y, y ∈ xs → y.Label.length ≤ 100)) := by
    intro xs
    induction xs with
    | nil =>
      intro i hx
      refine ⟨.inl (), To.succ ?_, .inr ⟨rfl, fun y hy => by cases hy⟩⟩
      simp only [M.law07_short_loop1]
      exact To.neg (drop_end hx) To.pure
    | cons x xs ih =>
      intro i hx
      by_cases hl : (100 : Int) < (x.Label.length : Int)
      · refine ⟨.inr false, To.succ ?_, .inl rfl⟩
        simp only [M.law07_short_loop1]
        exact To.pos (drop_lt hx) (To.bindS (drop_idx hx) (To.pos hl To.pure))
      · obtain ⟨c, ht, hc⟩ := ih (i + 1) (drop_next hx)
        refine ⟨c, To.succ ?_, hc.imp id (fun ⟨h1, h2⟩ => ⟨h1, fun y hy => ?_⟩)⟩
        · simp only [M.law07_short_loop1]
          rw [cast_succ]
          exact To.pos (drop_lt hx) (To.bindS (drop_idx hx) (To.neg hl ht))
        · rcases List.mem_cons.1 hy with rfl | hy
          · omega
          · exact h2 y hy
  obtain ⟨c, ht, hc⟩ := loop p 0 rfl
  rcases hc with rfl | ⟨rfl, h⟩
  · refine ⟨false, ?_, fun h => by cases h⟩
    simp only [M.law07_short]
    exact To.bind ht To.pure
  · refine ⟨decide ((p.length : Int) ≤ 20), ?_, fun h2 => ⟨?_, h⟩⟩
    · simp only [M.law07_short]
      exact To.bind ht To.pure
    · have := of_decide_eq_true h2
      omega

theorem awake07 : To (fun n => M.law07_awake n) true := by
  refine To.far 60 fun m => ?_
  kernel_rfl

theorem same7_loop (a : List api_Step) : ∀ (xs : List api_Step) (i : Nat), a.drop i = xs → To (fun n => M.r07_Same_loop1 a a n (i : Int)) (.inl ()) := by
  intro xs
  induction xs with
  | nil => intro i hx; refine To.succ ?_; simp only [M.r07_Same_loop1]; exact To.neg (drop_end hx) To.pure
  | cons x xs ih =>
    intro i hx; refine To.succ ?_; simp only [M.r07_Same_loop1]
    rw [cast_succ]
    exact To.pos (drop_lt hx) (To.bindS (drop_idx hx) (To.bindS (drop_idx hx) (To.neg (by simp) (ih (i + 1) (drop_next hx)))))

theorem same7 (a : List api_Step) : To (fun n => M.r07_Same n a a) true := by
  simp only [M.r07_Same]
  exact To.neg (by simp) (To.bind (same7_loop a a 0 rfl) To.pure)

theorem splitC_cons (c : UInt8) (s : Str) : ∃ p ps, splitC c s = p :: ps := by
  cases s with
  | nil => exact ⟨_, _, rfl⟩
  | cons b l =>
    unfold splitC
    split
    · exact ⟨_, _, rfl⟩
    · split
      · exact ⟨_, _, rfl⟩
      · exact ⟨_, _, rfl⟩

theorem splitC_hit (l : Str) : splitC 32 (32 :: l) = [] :: splitC 32 l := by rw [splitC, if_pos rfl]

theorem splitC_miss {b : UInt8} {l p : Str} {ps : List Str} (h : b ≠ 32) (k : splitC 32 l = p :: ps) : splitC 32 (b :: l) = (b :: p) :: ps := by
  rw [splitC, if_neg h, k]

theorem pieces_loop (s : Str) (hs : s.length ≤ 1000000) : ∀ (xs p : Str) (ps : List Str) (i from0 : Nat) (out : List Str), s.drop i = xs → i ≤ s.length → from0 ≤ i → out.length ≤ i → splitC 32 xs = p :: ps →
    To (fun n => M.r07_Cut_loop1 s n out (from0 : Int) (i : Int)) (out ++ ((s.take i).drop from0 ++ p) :: ps) := by
  intro xs
  induction xs with
  | nil =>
    intro p ps i from0 out hx hi hf ho hp
    have hp' : [[]] = p :: ps := hp
    cases hp'
    have hlen : i = s.length := by
      have := congrArg List.length hx
      simp at this; omega
    refine To.succ ?_
    simp only [M.r07_Cut_loop1]
    refine To.pos (by omega) (To.bind (a := true) (To.pos (by omega) To.pure) (To.pos rfl (To.bindS (slc_nat _ _ _ hf hi) (To.bindS (appC_eq (by simp; omega)) (To.bindS (addC_succ (by omega)) (To.bindS (addC_succ (by omega)) ?_))))))
    refine To.succ ?_
    simp only [M.r07_Cut_loop1]
    exact To.neg (by omega) (To.pure.of (by simp))
  | cons b l ih =>
    intro p ps i from0 out hx hi hf ho hp
    obtain ⟨h1, h2, h3⟩ := drop_cons hx
    obtain ⟨q, qs, hq⟩ := splitC_cons 32 l
    refine To.succ ?_
    simp only [M.r07_Cut_loop1]
    refine To.pos (by omega) ?_
    by_cases hb : b = 32
    · subst hb
      rw [splitC_hit, hq] at hp
      cases hp
      refine To.bind (a := true) (To.neg (by omega) (To.bindS (drop_idx hx) (To.pure.of (by decide)))) (To.pos rfl (To.bindS (slc_nat _ _ _ hf hi) (To.bindS (appC_eq (by simp; omega)) (To.bindS (addC_succ (by omega)) (To.bindS (addC_succ (by omega)) ?_)))))
      refine (ih q qs (i + 1) (i + 1) _ h3 (by omega) (Nat.le_refl _) (by simp; omega) hq).of ?_
      have : (s.take (i + 1)).drop (i + 1) = [] := List.drop_eq_nil_of_le (by simp; omega)
      rw [this]; simp
    · rw [splitC_miss hb hq] at hp
      cases hp
      have hn : ¬ ((b.toNat : Int) = 32) := fun e => hb (UInt8.toNat_inj.1 (by have : (32 : UInt8).toNat = 32 := rfl; omega))
      refine To.bind (a := false) (To.neg (by omega) (To.bindS (drop_idx hx) (To.pure.of (by simp only [hn, decide_false])))) (To.neg (by simp) (To.bindS (addC_succ (by omega)) ?_))
      refine (ih q _ (i + 1) from0 out h3 (by omega) (by omega) (by omega) hq).of ?_
      have : (s.take (i + 1)).drop from0 = (s.take i).drop from0 ++ [b] := by
        rw [List.take_add_one, h2, List.drop_append_of_le_length (by simp; omega)]
        rfl
      rw [this]; simp

theorem join_split : ∀ s : Str, joinS (splitC 32 s) = s
  | [] => by simp [splitC, joinS, tailS]
  | b :: l => by
    have ih := join_split l
    obtain ⟨q, qs, hq⟩ := splitC_cons 32 l
    rw [hq] at ih
    by_cases hb : b = 32
    · subst hb
      rw [splitC_hit, hq, joinS, List.nil_append]
      rw [joinS] at ih
      simp only [tailS, List.flatMap_cons, List.cons_append]
      rw [show q ++ List.flatMap (fun x => 32 :: x) qs = l from ih]
    · rw [splitC_miss hb hq, joinS, List.cons_append]
      rw [joinS] at ih
      rw [ih]

theorem split_tail : ∀ (xs : List Str), (∀ y ∈ xs, (32 : UInt8) ∉ y) → ∀ x : Str, (32 : UInt8) ∉ x → splitC 32 (x ++ tailS xs) = x :: xs := by
  intro xs
  induction xs with
  | nil =>
    intro _ x hx
    simp only [tailS, List.flatMap_nil, List.append_nil]
    induction x with
    | nil => rfl
    | cons b x ihx =>
      simp only [List.mem_cons, not_or] at hx
      exact splitC_miss (fun e => hx.1 e.symm) (ihx hx.2)
  | cons y ys ih =>
    intro h x hx
    induction x with
    | nil =>
      have : tailS (y :: ys) = 32 :: (y ++ tailS ys) := by simp [tailS]
      rw [List.nil_append, this, splitC_hit, ih (fun z hz => h z (List.mem_cons_of_mem _ hz)) y (h y List.mem_cons_self)]
    | cons b x ihx =>
      simp only [List.mem_cons, not_or] at hx
      rw [List.cons_append]
      exact splitC_miss (fun e => hx.1 e.symm) (ihx hx.2)

end Go.Proofs.YtfclekegoleiaaaDoor
