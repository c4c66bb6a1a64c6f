/-
  Trees, labels, addresses, paths: pieces that other chapters' texts hold too (picked by wip/scripts/pick.py).
-/
import Derived.Test.YtfclekegoleiaaaDoorMdl
import Derived.Test.YtfclekegoleiaaaDoorEv
import Derived.Test.YtfclekegoleiaaaDoorDec13
import Derived.KernelRfl
set_option linter.unusedVariables false
set_option linter.unusedSimpArgs false
namespace Go.Proofs.YtfclekegoleiaaaDoor
open Go Go.Dec

theorem kid_lt {u k : api_Unit} (h : k ∈ u.Kids) : SizeOf.sizeOf k < SizeOf.sizeOf u := by
  cases u
  have := List.sizeOf_lt_of_mem h
  simp at this ⊢
  omega

theorem uind {P : api_Unit → Prop} (h : ∀ u, (∀ k, k ∈ u.Kids → P k) → P u) (u : api_Unit) : P u :=
  h u (fun k hk => uind h k)
termination_by SizeOf.sizeOf u
decreasing_by exact kid_lt hk

/-- A unit and all below it, in order. -/
def desc (u : api_Unit) : List api_Unit := u :: u.Kids.attach.flatMap (fun k => desc k.1)
termination_by SizeOf.sizeOf u
decreasing_by exact kid_lt k.2

theorem desc_eq (u : api_Unit) : desc u = u :: u.Kids.flatMap desc := by
  rw [desc]
  congr 1
  have : ∀ l : List api_Unit, l.attach.flatMap (fun k => desc k.1) = l.flatMap desc := by
    intro l
    rw [List.flatMap_def, List.flatMap_def]
    congr 1
    rw [show (fun k : {x // x ∈ l} => desc k.1) = desc ∘ Subtype.val from rfl, ← List.map_map, List.attach_map_subtype_val]
  exact this _

def cnt (u : api_Unit) : Nat := (desc u).length

theorem cnt_eq (u : api_Unit) : cnt u = 1 + (u.Kids.map cnt).sum := by
  unfold cnt
  rw [desc_eq]
  simp [List.length_flatMap]
  omega

theorem cnt_pos (u : api_Unit) : 1 ≤ cnt u := by rw [cnt_eq]; omega

theorem sum_mem {α : Type} (f : α → Nat) : ∀ {l : List α} {x : α}, x ∈ l → f x ≤ (l.map f).sum
  | y :: l, x, h => by
    rcases List.mem_cons.1 h with rfl | h
    · simp
    · have := sum_mem f h
      simp; omega

theorem sum_len {α : Type} (f : α → Nat) (h : ∀ x, 1 ≤ f x) : ∀ l : List α, l.length ≤ (l.map f).sum
  | [] => by simp
  | x :: l => by
    have := sum_len f h l
    have := h x
    simp; omega

theorem cnt_kid {u k : api_Unit} (h : k ∈ u.Kids) : cnt k < cnt u := by
  rw [cnt_eq u]
  have := sum_mem cnt h
  omega

theorem cnt_kids (u : api_Unit) : u.Kids.length < cnt u := by
  rw [cnt_eq u]
  have := sum_len cnt cnt_pos u.Kids
  omega

theorem desc_self (u : api_Unit) : u ∈ desc u := by rw [desc_eq]; simp

theorem desc_kid {u k x : api_Unit} (hk : k ∈ u.Kids) (hx : x ∈ desc k) : x ∈ desc u := by
  rw [desc_eq]
  exact List.mem_cons_of_mem _ (List.mem_flatMap.2 ⟨k, hk, hx⟩)

/-- Every label in the tree is short. -/
def labs (u : api_Unit) : Prop := ∀ x, x ∈ desc u → x.Label.length ≤ 5000 ∧ x.Head.length ≤ 5000 ∧ x.Words.length ≤ 5000

theorem labs_kid {u k : api_Unit} (h : labs u) (hk : k ∈ u.Kids) : labs k := fun x hx => h x (desc_kid hk hx)

def isDig (b : UInt8) : Bool := decide (48 ≤ b.toNat) && decide (b.toNat ≤ 57)

def isCap (b : UInt8) : Bool := decide (65 ≤ b.toNat) && decide (b.toNat ≤ 90)

/-- Which strings are labels. -/
def labB (s : Str) : Bool :=
  let d := (s.takeWhile isDig).length
  decide (1 ≤ d) && decide (d ≤ 4) && decide (s.head? ≠ some 48) && decide (s.length - d ≤ 3) && (s.drop d).all isCap

/-- The search for a rune of which p holds, where p holds of all that lies above ASCII. -/
theorem idxfun (s : Str) (f : Int → Option Bool) (p : UInt8 → Bool) (hf : ∀ b : UInt8, b.toNat < 128 → f (b.toNat : Int) = some (p b)) (hh : ∀ r : Nat, 128 ≤ r → f (r : Int) = some true) (hp : ∀ b : UInt8, 128 ≤ b.toNat → p b = true) :
    To (fun n => M.strings_IndexFunc n s f) (if s.any p then (((s.takeWhile fun b => !p b).length : Nat) : Int) else -1) := by
  have loop : ∀ (xs : Str) (i : Nat), s.drop i = xs → ∃ v, To (fun n => M.strings_indexFunc_loop1 s f true n i) (if xs.any p then .inr ((i + (xs.takeWhile fun b => !p b).length : Nat) : Int) else .inl v) := by
    intro xs
    induction xs with
    | nil =>
      intro i hx
      have := List.drop_eq_nil_iff.1 hx
      refine ⟨i, To.succ ?_⟩
      simp only [M.strings_indexFunc_loop1]
      exact To.neg (by omega) (To.pure.of (by simp))
    | cons x xs ih =>
      intro i hx
      obtain ⟨h1, h2, h3⟩ := drop_cons hx
      have hxi : s[i] = x := by rw [List.getElem?_eq_getElem h1] at h2; exact Option.some.inj h2
      by_cases ha : x.toNat < 128
      · have hr := runeAt_ascii h1 (by rw [hxi]; exact ha)
        rw [hxi] at hr
        obtain ⟨v, hv⟩ := ih (i + 1) h3
        refine ⟨v, To.succ ?_⟩
        simp only [M.strings_indexFunc_loop1]
        refine To.pos h1 ?_
        rw [hr]
        refine To.bindS (hf x ha) ?_
        cases hpx : p x with
        | true => exact To.pos rfl (To.pure.of (by simp [hpx]))
        | false =>
          refine To.neg (by simp) (hv.of ?_)
          have tw : (x :: xs).takeWhile (fun b => !p b) = x :: xs.takeWhile (fun b => !p b) := List.takeWhile_cons_of_pos (by simp [hpx])
          rw [tw]
          simp only [List.any_cons, hpx, Bool.false_or, List.length_cons]
          split
          · congr 1; omega
          · rfl
      · obtain ⟨q1, q2⟩ := runeAt_high h1 (by rw [hxi]; omega)
        have hpx := hp x (by omega)
        refine ⟨0, To.succ ?_⟩
        simp only [M.strings_indexFunc_loop1]
        refine To.pos h1 (To.bindS (hh _ q1) (To.pos rfl (To.pure.of (by simp [hpx]))))
  obtain ⟨v, hv⟩ := loop s 0 rfl
  simp only [M.strings_IndexFunc, M.strings_indexFunc]
  by_cases h : s.any p = true
  · rw [if_pos h] at hv ⊢
    exact To.bind (To.bind hv To.pure) (To.pure.of (by simp))
  · rw [if_neg h] at hv ⊢
    exact To.bind (To.bind hv To.pure) To.pure

theorem tw_all {α : Type} {p : α → Bool} : ∀ {l : List α}, (∀ b, b ∈ l → p b = true) → l.takeWhile p = l
  | [], _ => rfl
  | x :: l, h => by rw [List.takeWhile_cons_of_pos (h x (by simp)), tw_all fun b hb => h b (by simp [hb])]

theorem tw_not (s : Str) : (s.takeWhile fun b => !(!isDig b)) = s.takeWhile isDig := by simp

theorem parted_ok (s : Str) : To (fun n => M.label_parted n s) (s.take (s.takeWhile isDig).length, s.drop (s.takeWhile isDig).length) := by
  have h := idxfun s (fun s0 => M.label_parted_1 s0) (fun b => !isDig b) (fun b hb => by
    simp only [M.label_parted_1, isDig]
    split
    · simp; omega
    · congr 1; rw [Bool.eq_iff_iff]; simp; omega) (fun r hr => by
    simp only [M.label_parted_1]
    rw [if_neg (by omega)]; congr 1; simp; omega) (fun b hb => by simp [isDig]; omega)
  have hd : (s.takeWhile isDig).length ≤ s.length := (List.takeWhile_sublist isDig (l := s)).length_le
  simp only [M.label_parted]
  refine To.bind h ?_
  rw [tw_not]
  by_cases ha : (s.any fun b => !isDig b) = true
  · rw [if_pos ha]
    refine To.neg (by omega) (To.bindS (a := s.take (s.takeWhile isDig).length) ?_ (To.bindS (a := s.drop (s.takeWhile isDig).length) ?_ To.pure))
    · simp [slcHi, hd]
    · simp [slcLo, hd]
  · rw [if_neg ha]
    refine To.pos (by omega) (To.pure.of ?_)
    have hall : s.takeWhile isDig = s := by
      refine tw_all fun b hb => ?_
      simp only [Bool.not_eq_true, List.any_eq_false] at ha
      have := ha b hb
      simpa using this
    rw [hall]; simp

theorem label_ok (s : Str) : To (fun n => M.label_Valid n s) (labB s) := by
  have hd : (s.takeWhile isDig).length ≤ s.length := (List.takeWhile_sublist isDig (l := s)).length_le
  have h := parted_ok s
  generalize hdd : (s.takeWhile isDig).length = d at hd h
  have hc := idxfun (s.drop d) (fun s0 => M.label_Valid_1 s0) (fun b => !isCap b) (fun b hb => by
    simp only [M.label_Valid_1, isCap]
    split
    · simp; omega
    · congr 1; rw [Bool.eq_iff_iff]; simp; omega) (fun r hr => by
    simp only [M.label_Valid_1]
    rw [if_neg (by omega)]; congr 1; simp; omega) (fun b hb => by simp [isCap]; omega)
  simp only [M.label_Valid]
  refine To.bind h ?_
  dsimp only
  have hl : ((s.take d).length : Int) = d := by rw [List.length_take]; omega
  have hl2 : (((s.drop d).length : Nat) : Int) = ((s.length - d : Nat) : Int) := by rw [List.length_drop]
  by_cases h1 : d < 1
  · exact To.neg (by omega) (To.pure.of (by simp [labB, hdd]; omega))
  refine To.pos (by omega) ?_
  by_cases h2 : 4 < d
  · exact To.neg (by omega) (To.pure.of (by simp [labB, hdd]; omega))
  refine To.pos (by omega) ?_
  obtain ⟨x, xs, rfl⟩ : ∃ x xs, s = x :: xs := by
    cases s with
    | nil => simp at hd; omega
    | cons x xs => exact ⟨x, xs, rfl⟩
  have hx : idx ((x :: xs).take d) (0 : Int) = some x := by
    obtain ⟨e, rfl⟩ : ∃ e, d = e + 1 := ⟨d - 1, by omega⟩
    simp [idx]
  refine To.bindS hx ?_
  by_cases h3 : x = 48
  · subst h3
    exact To.neg (by simp) (To.pure.of (by simp [labB]))
  have h3' : (x.toNat : Int) ≠ 48 := by
    intro h
    exact h3 (UInt8.toNat_inj.1 (by have : (48 : UInt8).toNat = 48 := rfl; omega))
  refine To.pos h3' ?_
  simp only [labB, hdd]
  rw [decide_eq_true (show 1 ≤ d by omega), decide_eq_true (show d ≤ 4 by omega), decide_eq_true (show (x :: xs).head? ≠ some 48 by simpa using h3)]
  by_cases h4 : 3 < (x :: xs).length - d
  · refine To.neg (by omega) (To.pure.of ?_)
    rw [decide_eq_false (show ¬ (x :: xs).length - d ≤ 3 by omega)]
    simp
  refine To.pos (by omega) ?_
  rw [decide_eq_true (show (x :: xs).length - d ≤ 3 by omega)]
  simp only [M.strings_ContainsFunc]
  refine To.bind (To.bind hc To.pure) (To.pure.of ?_)
  have he : (((x :: xs).drop d).any fun b => !isCap b) = !(((x :: xs).drop d).all isCap) := by rw [List.not_all_eq_any_not]
  rw [he]
  cases ((x :: xs).drop d).all isCap <;> simp <;> omega

theorem mem_desc_kids {u k : api_Unit} (hk : k ∈ u.Kids) : k ∈ desc u := desc_kid hk (desc_self k)

def bookB (s : api_Step) : Bool := decide (s.Kind = 0) && (s.Label == ([] : Str))

def calledB (x : api_Unit) (s : api_Step) : Bool := decide (x.Kind = s.Kind) && (x.Label == s.Label)

def stepB (s : api_Step) : Bool := decide (1 ≤ s.Kind) && decide (s.Kind ≤ 7) && labB s.Label

def stepsB : List api_Step → Bool
  | [] => true
  | s :: p => stepB s && stepsB p

/-- Which addresses are valid. -/
def validB (p : List api_Step) : Bool :=
  (match p with
    | [] => true
    | s :: q => (bookB s || stepB s) && stepsB q) && decide (p.length ≤ 9)

theorem book_a (s : api_Step) : M.address_book s = some (bookB s) := by
  simp only [M.address_book, bookB]
  split <;> simp_all

theorem called_a (x : api_Unit) (s : api_Step) : M.address_called x s = some (calledB x s) := by
  simp only [M.address_called, calledB]
  split <;> simp_all

theorem valid_loop (p : List api_Step) (i : Int) (hi : 1 ≤ i) : To (fun n => M.address_Valid_loop1 n p i) (if stepsB p then .inl () else .inr false) := by
  induction p generalizing i with
  | nil => simp only [M.address_Valid_loop1]; exact To.pure
  | cons s p ih =>
    simp only [M.address_Valid_loop1]
    refine To.bind (a := false) (To.neg (by omega) To.pure) (To.neg (by simp) ?_)
    by_cases h1 : s.Kind ≤ 0
    · exact To.pos h1 (To.pure.of (by rw [if_neg]; simp [stepsB, stepB]; omega))
    refine To.neg h1 ?_
    by_cases h2 : 7 < s.Kind
    · exact To.pos h2 (To.pure.of (by rw [if_neg]; simp [stepsB, stepB]; omega))
    refine To.neg h2 (To.bind (label_ok s.Label) ?_)
    cases hl : labB s.Label with
    | false => exact To.pos rfl (To.pure.of (by rw [if_neg]; simp [stepsB, stepB, hl]))
    | true =>
      refine To.neg (by simp) ((ih (i + 1) (by omega)).of ?_)
      have : stepB s = true := by simp [stepB, hl]; omega
      simp [stepsB, this]

theorem valid_ok (p : List api_Step) : To (fun n => M.address_Valid n p) (validB p) := by
  simp only [M.address_Valid]
  cases p with
  | nil =>
    simp only [M.address_Valid_loop1]
    exact To.bind (f := fun _ => some (Sum.inl ())) To.pure (To.pure.of (by simp [validB]))
  | cons s p =>
    have fin : ∀ b : Bool, To (fun n => M.address_Valid_loop1 n (s :: p) 0) (if b then .inl () else .inr false) → b = ((bookB s || stepB s) && stepsB p) → To (fun n => Option.bind (M.address_Valid_loop1 n (s :: p) 0) fun
        | .inl _ => some (decide (((s :: p).length : Int) ≤ (9 : Int)))
        | .inr ret0 => some ret0) (validB (s :: p)) := by
      intro b hb he
      refine To.bind hb ?_
      cases b with
      | true => exact To.pure.of (by simp only [validB, ← he]; simp; omega)
      | false => exact To.pure.of (by simp [validB, ← he])
    refine fin ((bookB s || stepB s) && stepsB p) ?_ rfl
    simp only [M.address_Valid_loop1]
    refine To.bind (a := bookB s) (To.pos (by simp) (To.bindS (book_a s) To.pure)) ?_
    cases hb : bookB s with
    | true =>
      refine To.pos rfl ((valid_loop p (0 + 1) (by omega)).of (by simp))
    | false =>
      refine To.neg (by simp) ?_
      simp only [Bool.false_or]
      by_cases h1 : s.Kind ≤ 0
      · exact To.pos h1 (To.pure.of (by rw [if_neg]; simp [stepB]; omega))
      refine To.neg h1 ?_
      by_cases h2 : 7 < s.Kind
      · exact To.pos h2 (To.pure.of (by rw [if_neg]; simp [stepB]; omega))
      refine To.neg h2 (To.bind (label_ok s.Label) ?_)
      cases hl : labB s.Label with
      | false => exact To.pos rfl (To.pure.of (by rw [if_neg]; simp [stepB, hl]))
      | true =>
        refine To.neg (by simp) ((valid_loop p (0 + 1) (by omega)).of ?_)
        have : stepB s = true := by simp [stepB, hl]; omega
        simp [this]

/-- All units below any of a list. -/
def wsum (l : List api_Unit) : Nat := (l.map cnt).sum

theorem wsum_len (l : List api_Unit) : l.length ≤ wsum l := sum_len cnt cnt_pos l

theorem wsum_cons (x : api_Unit) (l : List api_Unit) : wsum (x :: l) = cnt x + wsum l := by simp [wsum]

theorem wsum_append (l m : List api_Unit) : wsum (l ++ m) = wsum l + wsum m := by simp [wsum]

theorem wsum_filter (p : api_Unit → Bool) : ∀ l : List api_Unit, wsum (l.filter p) ≤ wsum l
  | [] => by simp [wsum]
  | x :: l => by
    have := wsum_filter p l
    rw [List.filter_cons]
    split
    · rw [wsum_cons, wsum_cons]; omega
    · rw [wsum_cons]; omega

theorem wsum_kids : ∀ l : List api_Unit, wsum (l.flatMap api_Unit.Kids) ≤ wsum l
  | [] => by simp [wsum]
  | x :: l => by
    have := wsum_kids l
    have := cnt_eq x
    rw [List.flatMap_cons, wsum_append, wsum_cons]
    unfold wsum at *
    omega

theorem wsum_desc (u : api_Unit) : wsum (desc u) ≤ cnt u * cnt u := by
  have : ∀ l : List api_Unit, (∀ x, x ∈ l → cnt x ≤ cnt u) → wsum l ≤ l.length * cnt u := by
    intro l
    induction l with
    | nil => intro _; simp [wsum]
    | cons x l ih =>
      intro h
      have h1 := h x (by simp)
      have h2 := ih (fun y hy => h y (by simp [hy]))
      rw [wsum_cons, List.length_cons, Nat.add_mul]
      omega
  refine this _ ?_
  refine uind (P := fun u => ∀ x, x ∈ desc u → cnt x ≤ cnt u) ?_ u
  intro u ih x hx
  rw [desc_eq] at hx
  rcases List.mem_cons.1 hx with rfl | hx
  · exact Nat.le_refl _
  · obtain ⟨k, h1, h2⟩ := List.mem_flatMap.1 hx
    have := ih k h1 x h2
    have := cnt_kid h1
    omega

/-- The kids of a list of units that a step calls. -/
def down (s : api_Step) (l : List api_Unit) : List api_Unit := (l.flatMap api_Unit.Kids).filter (fun x => calledB x s)

theorem wsum_down (s : api_Step) (l : List api_Unit) : wsum (down s l) ≤ wsum l := Nat.le_trans (wsum_filter _ _) (wsum_kids l)

def way : List api_Step → List api_Unit → List api_Unit
  | [], l => l
  | s :: p, l => way p (down s l)

/-- What an address matches. -/
def units (u : api_Unit) (p : List api_Step) : List api_Unit :=
  if validB p then
    match p with
    | [] => [u]
    | s :: q => way q (if bookB s then [u] else (desc u).filter (fun x => calledB x s))
  else []

def lim38 : Nat := 100000000000

theorem found3 (s : api_Step) : ∀ (xs next : List api_Unit), next.length + xs.length ≤ lim38 → M.address_found_loop3 s xs next = some (next ++ xs.filter (fun x => calledB x s))
  | [], next, _ => by simp [M.address_found_loop3]
  | x :: xs, next, h => by
    simp only [List.length_cons] at h
    simp only [M.address_found_loop3, called_a, Option.bind_some]
    cases hc : calledB x s with
    | true =>
      rw [if_pos rfl, appC_eq (by unfold lim38 at h; simp; omega)]
      simp only [Option.bind_some]
      rw [found3 s xs _ (by simp; omega)]
      simp [hc]
    | false =>
      rw [if_neg (by simp), found3 s xs _ (by omega)]
      simp [hc]

theorem found2 (s : api_Step) : ∀ (xs next : List api_Unit), next.length + wsum xs ≤ lim38 → M.address_found_loop2 s xs next = some (next ++ down s xs)
  | [], next, _ => by simp [M.address_found_loop2, down]
  | x :: xs, next, h => by
    rw [wsum_cons] at h
    have hk := cnt_kids x
    simp only [M.address_found_loop2]
    rw [found3 s x.Kids next (by omega)]
    simp only [Option.bind_some]
    have hf := List.length_filter_le (fun y => calledB y s) x.Kids
    rw [found2 s xs _ (by simp only [List.length_append]; omega)]
    simp [down]

theorem found1 : ∀ (p : List api_Step) (l : List api_Unit), wsum l ≤ lim38 → M.address_found_loop1 p l = some (way p l)
  | [], l, _ => by simp [M.address_found_loop1, way]
  | s :: p, l, h => by
    simp only [M.address_found_loop1]
    rw [found2 s l [] (by simpa using h)]
    simp only [Option.bind_some, List.nil_append]
    rw [found1 p _ (Nat.le_trans (wsum_down s l) h)]
    rfl

theorem each_ok (s : api_Step) (q : List api_Step) (u : api_Unit) : ∀ w : List api_Unit, w.length + cnt u ≤ lim38 → To (fun n => M.address_each_i0 n u (s :: q) w) (w ++ (desc u).filter (fun x => calledB x s)) := by
  refine uind (P := fun u => ∀ w : List api_Unit, w.length + cnt u ≤ lim38 → To (fun n => M.address_each_i0 n u (s :: q) w) (w ++ (desc u).filter (fun x => calledB x s))) ?_ u
  intro u ih w hw
  have loop : ∀ (xs : List api_Unit) (slf : Nat → api_Unit → List api_Step → List api_Unit → Option (List api_Unit)) (w : List api_Unit), (∀ k, k ∈ xs → ∀ w : List api_Unit, w.length + cnt k ≤ lim38 → To (fun n => slf n k (s :: q) w) (w ++ (desc k).filter (fun x => calledB x s))) →
      w.length + wsum xs ≤ lim38 → To (fun n => M.address_each_i0_loop1 (s :: q) (slf n) xs w) (w ++ (xs.flatMap desc).filter (fun x => calledB x s)) := by
    intro xs
    induction xs with
    | nil => intro slf w hs hw; simp only [M.address_each_i0_loop1]; exact To.pure.of (by simp)
    | cons x xs ih =>
      intro slf w hs hw
      rw [wsum_cons] at hw
      simp only [M.address_each_i0_loop1]
      refine To.bind (hs x (by simp) w (by omega)) ?_
      have hf := List.length_filter_le (fun y => calledB y s) (desc x)
      have hl : (desc x).length = cnt x := rfl
      refine (ih slf _ (fun k hk => hs k (by simp [hk])) (by rw [List.length_append]; omega)).of ?_
      simp
  have he := cnt_eq u
  refine To.succ ?_
  simp only [M.address_each_i0, M.address_found_1]
  have fin : ∀ w2 : List api_Unit, w2 = w ++ ([u].filter (fun x => calledB x s)) → To (fun n => Option.bind (M.address_each_i0_loop1 (s :: q) (M.address_each_i0 n) u.Kids w2) fun v => some v) (w ++ (desc u).filter (fun x => calledB x s)) := by
    intro w2 hw2
    have hf := List.length_filter_le (fun y => calledB y s) [u]
    simp only [List.length_singleton] at hf
    refine To.bind (loop u.Kids (fun n => M.address_each_i0 n) w2 (fun k hk => ih k hk) (by rw [hw2, List.length_append]; unfold wsum; omega)) (To.pure.of ?_)
    rw [hw2, desc_eq u, List.filter_cons]
    by_cases hc : calledB u s = true
    · simp [hc]
    · simp [hc]
  cases hc : calledB u s with
  | true =>
    refine To.bindS (a := w ++ [u]) ?_ (fin _ (by simp [hc]))
    rw [idx_zero]
    simp only [Option.bind_some, called_a, hc]
    rw [if_pos trivial, appC_eq (by unfold lim38 at hw; simp; omega)]
    rfl
  | false =>
    refine To.bindS (a := w) ?_ (fin _ (by simp [hc]))
    rw [idx_zero]
    simp only [Option.bind_some, called_a, hc]
    rw [if_neg (by simp)]

theorem found_ok (u : api_Unit) (p : List api_Step) (hc : cnt u ≤ 10000) : To (fun n => M.address_found n u p) (units u p) := by
  simp only [M.address_found]
  refine To.bind (valid_ok p) ?_
  unfold units
  cases hv : validB p with
  | false => exact To.pos rfl (To.pure.of (by simp))
  | true =>
    refine To.neg (by simp) ?_
    cases p with
    | nil =>
      refine To.bind (a := .inr [u]) (To.pos (by simp) To.pure) ?_
      exact To.pure.of (by simp)
    | cons s q =>
      have h2 : cnt u * cnt u ≤ 10000 * 10000 := Nat.mul_le_mul hc hc
      have hslc : slcLo (s :: q) 1 = some q := by simp [slcLo]; omega
      have fin : ∀ l : List api_Unit, wsum l ≤ lim38 → l = (if bookB s then [u] else (desc u).filter (fun x => calledB x s)) → To (fun n : Nat => Option.bind (slcLo (s :: q) (1 : Int)) fun v1 => Option.bind (M.address_found_loop1 v1 l) fun at0_2 => some at0_2) (way q (if bookB s then [u] else (desc u).filter (fun x => calledB x s))) := by
        intro l hl he
        rw [hslc]
        simp only [Option.bind_some]
        rw [found1 q l hl]
        exact To.pure.of (by rw [he])
      simp only [if_true]
      cases hb : bookB s with
      | true =>
        refine To.bind (a := .inl [u]) (To.neg (by simp; omega) (To.bindS idx_zero (To.bindS (book_a s) (To.pos (by simp [hb]) To.pure)))) ?_
        have := fin [u] (by simp [wsum, lim38]; omega) (by simp [hb])
        rw [hb] at this
        exact this
      | false =>
        have he := each_ok s q u [] (by simp [lim38]; omega)
        refine To.bind (a := .inl ((desc u).filter (fun x => calledB x s))) (To.neg (by simp; omega) (To.bindS idx_zero (To.bindS (book_a s) (To.neg (by simp [hb]) (To.bind he (To.pure.of (by simp))))))) ?_
        have hw := Nat.le_trans (wsum_filter (fun x => calledB x s) (desc u)) (wsum_desc u)
        have := fin ((desc u).filter (fun x => calledB x s)) (by unfold lim38; omega) (by simp [hb])
        rw [hb] at this
        exact this

theorem findall_ok (u : api_Unit) (p : List api_Step) (hc : cnt u ≤ 10000) (hl : (units u p).length ≤ lim38) : To (fun n => M.address_FindAll n u p) ((units u p).map api_Unit.Id) := by
  have loop : ∀ (xs : List api_Unit) (out : List api_Id), out.length + xs.length ≤ lim38 → M.address_FindAll_loop1 xs out = some (out ++ xs.map api_Unit.Id) := by
    intro xs
    induction xs with
    | nil => intro out _; simp [M.address_FindAll_loop1]
    | cons x xs ih =>
      intro out h
      simp only [List.length_cons] at h
      simp only [M.address_FindAll_loop1]
      rw [appC_eq (by unfold lim38 at h; simp; omega)]
      simp only [Option.bind_some]
      rw [ih _ (by simp; omega)]
      simp
  simp only [M.address_FindAll]
  refine To.bind (found_ok u p hc) ?_
  rw [loop _ [] (by simpa using hl)]
  exact To.pure.of (by simp)

/-- The only one of a list, or the error. -/
def oneOf : List api_Id → api_Id × Int
  | [] => (zapi_Id, 7)
  | [x] => (x, 0)
  | _ => (zapi_Id, 8)

theorem findone_ok (u : api_Unit) (p : List api_Step) (hc : cnt u ≤ 10000) (hl : (units u p).length ≤ lim38) : To (fun n => M.address_FindOne n u p) (oneOf ((units u p).map api_Unit.Id)) := by
  simp only [M.address_FindOne]
  refine To.bind (findall_ok u p hc hl) ?_
  match (units u p).map api_Unit.Id with
  | [] => exact To.pos (by simp) To.pure
  | [x] => exact To.neg (by simp) (To.pos (by simp) (To.bindS idx_zero To.pure))
  | x :: y :: l => exact To.neg (by simp; omega) (To.neg (by simp; omega) To.pure)

theorem way_len : ∀ (p : List api_Step) (l : List api_Unit), (way p l).length ≤ wsum l
  | [], l => wsum_len l
  | s :: p, l => Nat.le_trans (way_len p _) (wsum_down s l)

theorem units_len (u : api_Unit) (p : List api_Step) : (units u p).length ≤ cnt u * cnt u := by
  have h1 := cnt_pos u
  have h2 : 1 * cnt u ≤ cnt u * cnt u := Nat.mul_le_mul_right _ h1
  unfold units
  split
  · split
    · simp; omega
    · rename_i s q _
      refine Nat.le_trans (way_len q _) ?_
      split
      · simp [wsum]; omega
      · exact Nat.le_trans (wsum_filter _ _) (wsum_desc u)
  · simp

/-- The first unit with an ID. -/
def findO (id : api_Id) (u : api_Unit) : Option api_Unit := if u.Id = id then some u else u.Kids.attach.findSome? (fun k => findO id k.1)
termination_by SizeOf.sizeOf u
decreasing_by exact kid_lt k.2

theorem attach_findSome {β : Type} (f : api_Unit → Option β) (l : List api_Unit) : l.attach.findSome? (fun k => f k.1) = l.findSome? f := by
  rw [show (fun k : {x // x ∈ l} => f k.1) = f ∘ Subtype.val from rfl, ← List.findSome?_map, List.attach_map_subtype_val]

theorem findO_eq (id : api_Id) (u : api_Unit) : findO id u = if u.Id = id then some u else u.Kids.findSome? (findO id) := by
  rw [findO]
  split
  · rfl
  · exact attach_findSome (findO id) u.Kids

/-- The units from the root to the first unit with an ID. -/
def pathO (id : api_Id) (u : api_Unit) : Option (List api_Unit) := if u.Id = id then some [u] else (u.Kids.attach.findSome? (fun k => pathO id k.1)).map (u :: ·)
termination_by SizeOf.sizeOf u
decreasing_by exact kid_lt k.2

theorem pathO_eq (id : api_Id) (u : api_Unit) : pathO id u = if u.Id = id then some [u] else (u.Kids.findSome? (pathO id)).map (u :: ·) := by
  rw [pathO]
  split
  · rfl
  · rw [attach_findSome (pathO id) u.Kids]

theorem path_ne (id : api_Id) (u : api_Unit) : ∀ w, pathO id u = some w → w ≠ [] := by
  intro w h
  rw [pathO_eq] at h
  split at h
  · cases h; simp
  · obtain ⟨v, _, rfl⟩ := Option.map_eq_some_iff.1 h
    simp

theorem path_len (id : api_Id) (u : api_Unit) : ∀ w, pathO id u = some w → w.length ≤ cnt u := by
  refine uind (P := fun u => ∀ w, pathO id u = some w → w.length ≤ cnt u) ?_ u
  intro u ih w h
  rw [pathO_eq] at h
  split at h
  · cases h; exact cnt_pos u
  · obtain ⟨v, hv, rfl⟩ := Option.map_eq_some_iff.1 h
    obtain ⟨k, hk, he⟩ := List.exists_of_findSome?_eq_some hv
    have := ih k hk v he
    have := cnt_kid hk
    simp only [List.length_cons]
    omega

theorem path_last (id : api_Id) (u : api_Unit) : findO id u = (pathO id u).bind List.getLast? := by
  refine uind (P := fun u => findO id u = (pathO id u).bind List.getLast?) ?_ u
  intro u ih
  rw [findO_eq, pathO_eq]
  split
  · rfl
  · have : ∀ l : List api_Unit, (∀ k, k ∈ l → findO id k = (pathO id k).bind List.getLast?) → l.findSome? (findO id) = ((l.findSome? (pathO id)).map (u :: ·)).bind List.getLast? := by
      intro l
      induction l with
      | nil => intro _; rfl
      | cons k l ihl =>
        intro h
        have h1 := h k (by simp)
        have h2 := ihl fun x hx => h x (by simp [hx])
        rw [List.findSome?_cons, List.findSome?_cons]
        cases hp : pathO id k with
        | none =>
          rw [hp] at h1
          simp only [Option.bind_none] at h1
          rw [h1]; exact h2
        | some w =>
          rw [hp] at h1
          have hw := path_ne id k w hp
          simp only [Option.bind_some] at h1
          obtain ⟨x, hx⟩ : ∃ x, w.getLast? = some x := by
            cases w with
            | nil => exact absurd rfl hw
            | cons a b => exact ⟨_, List.getLast?_eq_some_getLast (by simp)⟩
          rw [h1, hx]
          simp only [Option.map_some, Option.bind_some]
          rw [List.getLast?_cons, hx]; rfl
    exact this u.Kids ih

theorem way_ok (id : api_Id) (u : api_Unit) : cnt u ≤ 10000 → To (fun n => M.unit_way n u id) ((pathO id u).getD []) := by
  refine uind (P := fun u => cnt u ≤ 10000 → To (fun n => M.unit_way n u id) ((pathO id u).getD [])) ?_ u
  intro u ih hc
  have loop : ∀ (xs : List api_Unit) (slf : Nat → api_Unit → api_Id → Option (List api_Unit)), (∀ k, k ∈ xs → cnt k < cnt u ∧ To (fun n => slf n k id) ((pathO id k).getD [])) →
      To (fun n => M.unit_way_loop1 u id (slf n) xs) (match xs.findSome? (pathO id) with | none => .inl () | some w => .inr (u :: w)) := by
    intro xs
    induction xs with
    | nil => intro slf _; simp only [M.unit_way_loop1]; exact To.pure
    | cons x xs ih =>
      intro slf hs
      obtain ⟨h1, h2⟩ := hs x (by simp)
      simp only [M.unit_way_loop1]
      refine To.bind h2 ?_
      rw [List.findSome?_cons]
      cases hp : pathO id x with
      | none => exact To.neg (by simp) (ih slf fun k hk => hs k (by simp [hk]))
      | some w =>
        have hw := path_ne id x w hp
        have hl := path_len id x w hp
        refine To.pos (by simpa using hw) (To.bindS (appC_eq (by simp; omega)) (To.bindS (a := ()) (by simp [neC]) (To.pure.of (by simp))))
  refine To.succ ?_
  simp only [M.unit_way]
  rw [pathO_eq]
  by_cases hid : u.Id = id
  · exact To.pos hid (To.bindS (a := ()) (by simp [neC]) (To.pure.of (by simp [hid])))
  · refine To.neg hid (To.bind (loop u.Kids (fun n => M.unit_way n) fun k hk => ⟨cnt_kid hk, ih k hk (by have := cnt_kid hk; omega)⟩) ?_)
    rw [if_neg hid]
    cases u.Kids.findSome? (pathO id) with
    | none => exact To.pure
    | some w => exact To.pure

theorem copied_ok (u : api_Unit) : cnt u ≤ 10000 → labs u → To (fun n => M.unit_copied n u) u := by
  refine uind (P := fun u => cnt u ≤ 10000 → labs u → To (fun n => M.unit_copied n u) u) ?_ u
  intro u ih hc hl
  have loop : ∀ (xs : List api_Unit) (slf : Nat → api_Unit → Option api_Unit) (out : List api_Unit), (∀ k, k ∈ xs → To (fun n => slf n k) k) → out.length + xs.length ≤ 10000 → To (fun n => M.unit_copied_loop1 (slf n) xs out) (out ++ xs) := by
    intro xs
    induction xs with
    | nil => intro slf out _ _; simp only [M.unit_copied_loop1]; exact To.pure.of (by simp)
    | cons x xs ih =>
      intro slf out hs ho
      simp only [List.length_cons] at ho
      simp only [M.unit_copied_loop1]
      refine To.bind (hs x (by simp)) (To.bindS (appC_eq (by simp; omega)) ?_)
      exact (ih slf _ (fun k hk => hs k (by simp [hk])) (by simp; omega)).of (by simp)
  obtain ⟨h1, h2, h3⟩ := hl u (desc_self u)
  have hk := cnt_kids u
  refine To.succ ?_
  simp only [M.unit_copied, M.slices_Clone_api_Word_api_Word]
  refine To.bindS (appC_eq (by simp; omega)) (To.bindS (appC_eq (by simp; omega)) ?_)
  simp only [List.nil_append]
  exact To.bind (loop u.Kids (fun n => M.unit_copied n) [] (fun k hk => ih k hk (by have := cnt_kid hk; omega) (labs_kid hl hk)) (by simp; omega)) (To.pure.of (by rw [List.nil_append]; cases u; rfl))

theorem find_mem (id : api_Id) (u : api_Unit) : ∀ x, findO id u = some x → x ∈ desc u ∧ x.Id = id := by
  refine uind (P := fun u => ∀ x, findO id u = some x → x ∈ desc u ∧ x.Id = id) ?_ u
  intro u ih x h
  rw [findO_eq] at h
  split at h
  · cases h; exact ⟨desc_self u, by assumption⟩
  · obtain ⟨k, hk, he⟩ := List.exists_of_findSome?_eq_some h
    exact ⟨desc_kid hk (ih k hk x he).1, (ih k hk x he).2⟩

theorem find_some (id : api_Id) (u : api_Unit) : ∀ x, x ∈ desc u → x.Id = id → ∃ y, findO id u = some y := by
  refine uind (P := fun u => ∀ x, x ∈ desc u → x.Id = id → ∃ y, findO id u = some y) ?_ u
  intro u ih x hx he
  rw [findO_eq]
  split
  · exact ⟨_, rfl⟩
  · rename_i hn
    rw [desc_eq] at hx
    rcases List.mem_cons.1 hx with rfl | hx
    · exact absurd he hn
    · obtain ⟨k, h1, h2⟩ := List.mem_flatMap.1 hx
      obtain ⟨y, hy⟩ := ih k h1 x h2 he
      cases hf : u.Kids.findSome? (findO id) with
      | some z => exact ⟨z, rfl⟩
      | none =>
        have := List.findSome?_eq_none_iff.1 hf k h1
        rw [hy] at this; cases this

/-- What the searches hand back. -/
def findR (id : api_Id) (u : api_Unit) : api_Unit × Bool := match findO id u with
  | some x => (x, true)
  | none => (zapi_Unit, false)

theorem desc_sub {u x : api_Unit} (h : x ∈ desc u) : ∀ y, y ∈ desc x → y ∈ desc u := by
  refine uind (P := fun u => ∀ x, x ∈ desc u → ∀ y, y ∈ desc x → y ∈ desc u) ?_ u x h
  intro u ih x hx y hy
  rw [desc_eq] at hx
  rcases List.mem_cons.1 hx with rfl | hx
  · exact hy
  · obtain ⟨k, h1, h2⟩ := List.mem_flatMap.1 hx
    exact desc_kid h1 (ih k h1 x h2 y hy)

theorem cnt_sub {u x : api_Unit} (h : x ∈ desc u) : cnt x ≤ cnt u := by
  refine uind (P := fun u => ∀ x, x ∈ desc u → cnt x ≤ cnt u) ?_ u x h
  intro u ih x hx
  rw [desc_eq] at hx
  rcases List.mem_cons.1 hx with rfl | hx
  · exact Nat.le_refl _
  · obtain ⟨k, h1, h2⟩ := List.mem_flatMap.1 hx
    have := ih k h1 x h2
    have := cnt_kid h1
    omega

theorem labs_sub {u x : api_Unit} (h : x ∈ desc u) (hl : labs u) : labs x := fun y hy => hl y (desc_sub h y hy)

theorem find_u (id : api_Id) (u : api_Unit) (hc : cnt u ≤ 10000) (hl : labs u) : To (fun n => M.unit_Find n u id) (findR id u) := by
  simp only [M.unit_Find]
  refine To.bind (way_ok id u hc) ?_
  unfold findR
  rw [path_last]
  cases hp : pathO id u with
  | none => exact To.pos (by simp) To.pure
  | some w =>
    have hw := path_ne id u w hp
    have hlen := path_len id u w hp
    obtain ⟨x, hx⟩ : ∃ x, w.getLast? = some x := by
      cases w with
      | nil => exact absurd rfl hw
      | cons a b => exact ⟨_, List.getLast?_eq_some_getLast (by simp)⟩
    have hpos : 0 < w.length := List.length_pos_iff.2 hw
    have hf : findO id u = some x := by rw [path_last, hp]; exact hx
    have hm := (find_mem id u x hf).1
    simp only [Option.getD_some, Option.bind_some, hx]
    refine To.neg (by omega) (To.bindS (subC_eq (by omega) (by omega)) (To.bindS (a := x) ?_ (To.bind (copied_ok x (by have := cnt_sub hm; omega) (labs_sub hm hl)) To.pure)))
    rw [List.getLast?_eq_getElem?] at hx
    rw [show (w.length : Int) - 1 = ((w.length - 1 : Nat) : Int) by omega, idx_nat]
    exact hx

theorem path_self {id : api_Id} {u : api_Unit} (h : u.Id = id) : pathO id u = some [u] := by rw [pathO_eq, if_pos h]

theorem path_two {id : api_Id} {u : api_Unit} {w : List api_Unit} (h : u.Id ≠ id) (hw : pathO id u = some w) : 2 ≤ w.length ∧ ∃ v, u.Kids.findSome? (pathO id) = some v ∧ w = u :: v := by
  rw [pathO_eq, if_neg h] at hw
  obtain ⟨v, hv, rfl⟩ := Option.map_eq_some_iff.1 hw
  obtain ⟨k, hk, he⟩ := List.exists_of_findSome?_eq_some hv
  have := List.length_pos_iff.2 (path_ne id k v he)
  exact ⟨by simp; omega, v, hv, rfl⟩

theorem path_none {id : api_Id} {u : api_Unit} (h : pathO id u = none) : u.Id ≠ id ∧ findO id u = none := by
  refine ⟨fun e => ?_, ?_⟩
  · rw [path_self e] at h; cases h
  · rw [path_last, h]; rfl

theorem path_find {id : api_Id} {u : api_Unit} {w : List api_Unit} (h : pathO id u = some w) : ∃ x, findO id u = some x := by
  rw [path_last, h]
  cases w with
  | nil => exact absurd rfl (path_ne id u [] h)
  | cons a b =>
    refine ⟨(a :: b).getLast (by simp), ?_⟩
    rw [Option.bind_some]
    exact List.getLast?_eq_some_getLast (by simp)

theorem way_sub (u : api_Unit) : ∀ (p : List api_Step) (l : List api_Unit), (∀ x, x ∈ l → x ∈ desc u) → ∀ x, x ∈ way p l → x ∈ desc u
  | [], l, h, x, hx => h x hx
  | s :: p, l, h, x, hx => by
    refine way_sub u p (down s l) (fun y hy => ?_) x hx
    obtain ⟨z, hz, hk⟩ := List.mem_flatMap.1 (List.mem_filter.1 hy).1
    exact desc_sub (h z hz) y (mem_desc_kids hk)

theorem units_sub (u : api_Unit) (p : List api_Step) : ∀ x, x ∈ units u p → x ∈ desc u := by
  intro x hx
  unfold units at hx
  split at hx
  · split at hx
    · rw [List.mem_singleton.1 hx]; exact desc_self u
    · refine way_sub u _ _ (fun y hy => ?_) x hx
      split at hy
      · rw [List.mem_singleton.1 hy]; exact desc_self u
      · exact (List.mem_filter.1 hy).1
  · cases hx

theorem idx_getElem {α : Type} {l : List α} {i : Nat} (h : i < l.length) : idx l (i : Int) = some l[i] := by rw [idx_nat, List.getElem?_eq_getElem h]

/-- What is right with a single unit. -/
structure Fine (u : api_Unit) : Prop where
  kind : 0 ≤ u.Kind ∧ u.Kind ≤ 7
  label : u.Kind ≠ 0 → labB u.Label = true
  kids : ∀ k, k ∈ u.Kids → k.Kind ≠ 0
  apart : ∀ i j (hi : i < u.Kids.length) (hj : j < u.Kids.length), i < j → ¬ (u.Kids[i].Kind = u.Kids[j].Kind ∧ u.Kids[i].Label = u.Kids[j].Label)

/-- How many levels lie below. -/
def deep (u : api_Unit) : Nat := (u.Kids.attach.map (fun k => 1 + deep k.1)).foldl max 0
termination_by SizeOf.sizeOf u
decreasing_by exact kid_lt k.2

theorem deep_eq (u : api_Unit) : deep u = (u.Kids.map (fun k => 1 + deep k)).foldl max 0 := by
  rw [deep]
  congr 1
  rw [show (fun k : {x // x ∈ u.Kids} => 1 + deep k.1) = (fun k => 1 + deep k) ∘ Subtype.val from rfl, ← List.map_map, List.attach_map_subtype_val]

theorem foldl_max : ∀ (l : List Nat) (a : Nat), a ≤ l.foldl max a ∧ ∀ x, x ∈ l → x ≤ l.foldl max a
  | [], a => ⟨Nat.le_refl _, fun x h => by cases h⟩
  | y :: l, a => by
    obtain ⟨h1, h2⟩ := foldl_max l (max a y)
    refine ⟨by simp only [List.foldl_cons]; omega, fun x hx => ?_⟩
    rcases List.mem_cons.1 hx with rfl | hx
    · simp only [List.foldl_cons]; omega
    · exact h2 x hx

theorem deep_kid {u k : api_Unit} (h : k ∈ u.Kids) : deep k < deep u := by
  rw [deep_eq u]
  have := (foldl_max (u.Kids.map (fun k => 1 + deep k)) 0).2 (1 + deep k) (List.mem_map.2 ⟨k, h, rfl⟩)
  omega

structure Good (u : api_Unit) : Prop where
  fine : ∀ x, x ∈ desc u → Fine x
  deep : deep u ≤ 8
  apart : ((desc u).map api_Unit.Id).Nodup

theorem nodup_kid {u k : api_Unit} (h : ((desc u).map api_Unit.Id).Nodup) (hk : k ∈ u.Kids) : ((desc k).map api_Unit.Id).Nodup := by
  rw [desc_eq] at h
  simp only [List.map_cons, List.nodup_cons] at h
  have h2 := h.2
  rw [List.map_flatMap] at h2
  have : (u.Kids.map (fun k => (desc k).map api_Unit.Id)).flatten.Nodup := by rw [← List.flatMap_def]; exact h2
  rw [List.Nodup, List.pairwise_flatten] at this
  exact this.1 _ (List.mem_map.2 ⟨k, hk, rfl⟩)

theorem nodup_eq {u x y : api_Unit} (h : ((desc u).map api_Unit.Id).Nodup) (hx : x ∈ desc u) (hy : y ∈ desc u) (he : x.Id = y.Id) : x = y := by
  have : ∀ l : List api_Unit, (l.map api_Unit.Id).Nodup → x ∈ l → y ∈ l → x = y := by
    intro l
    induction l with
    | nil => intro _ hx; cases hx
    | cons z l ih =>
      intro hn hx hy
      simp only [List.map_cons, List.nodup_cons] at hn
      rcases List.mem_cons.1 hx with e1 | m1
      · rcases List.mem_cons.1 hy with e2 | m2
        · rw [e1, e2]
        · exact absurd (List.mem_map.2 ⟨y, m2, by rw [← he, e1]⟩) hn.1
      · rcases List.mem_cons.1 hy with e2 | m2
        · exact absurd (List.mem_map.2 ⟨x, m1, by rw [he, e2]⟩) hn.1
        · exact ih hn.2 m1 m2
  exact this _ h hx hy

theorem nodup_kids {u k j x y : api_Unit} (h : ((desc u).map api_Unit.Id).Nodup) (hk : k ∈ u.Kids) (hj : j ∈ u.Kids) (hx : x ∈ desc k) (hy : y ∈ desc j) (he : x.Id = y.Id) : ∃ z, k = z ∧ x ∈ desc j := by
  have := nodup_eq h (desc_kid hk hx) (desc_kid hj hy) he
  subst this
  exact ⟨k, rfl, hy⟩

theorem way_end (id : api_Id) (u : api_Unit) : ∀ w, pathO id u = some w → ∃ x, w.getLast? = some x ∧ x.Id = id := by
  intro w hw
  obtain ⟨x, hx⟩ := path_find hw
  have h := path_last id u
  rw [hw, hx] at h
  exact ⟨x, h.symm, (find_mem id u x hx).2⟩

def stepOf (k : api_Unit) : api_Step := ⟨k.Kind, k.Label⟩

theorem path_head {id : api_Id} {u : api_Unit} {w : List api_Unit} (h : pathO id u = some w) : ∃ v, w = u :: v := by
  by_cases hid : u.Id = id
  · rw [path_self hid] at h; cases h; exact ⟨[], rfl⟩
  · obtain ⟨_, v, _, rfl⟩ := path_two hid h; exact ⟨v, rfl⟩

theorem path_deep (id : api_Id) (u : api_Unit) : ∀ w, pathO id u = some w → w.length ≤ deep u + 1 := by
  refine uind (P := fun u => ∀ w, pathO id u = some w → w.length ≤ deep u + 1) ?_ u
  intro u ih w h
  by_cases hid : u.Id = id
  · rw [path_self hid] at h; cases h; simp
  · obtain ⟨_, v, hv, rfl⟩ := path_two hid h
    obtain ⟨k, hk, he⟩ := List.exists_of_findSome?_eq_some hv
    have := ih k hk v he
    have := deep_kid hk
    simp only [List.length_cons]; omega

/-- The steps below the root, to the first unit with an ID. -/
def stepsO (id : api_Id) (u : api_Unit) : Option (List api_Step) := (pathO id u).map (fun w => w.tail.map stepOf)

theorem filter_one {l : List api_Unit} {k : api_Unit} (h : l.Pairwise (fun a b => ¬ (a.Kind = b.Kind ∧ a.Label = b.Label))) (hk : k ∈ l) : l.filter (fun x => calledB x (stepOf k)) = [k] := by
  have hcb : ∀ x, calledB x (stepOf k) = true ↔ (x.Kind = k.Kind ∧ x.Label = k.Label) := fun x => by unfold calledB stepOf; rw [Bool.and_eq_true, decide_eq_true_eq, beq_iff_eq]
  induction l with
  | nil => cases hk
  | cons y l ih =>
    have hp := List.pairwise_cons.1 h
    rcases List.mem_cons.1 hk with e | hk
    · subst e
      rw [List.filter_cons, if_pos ((hcb k).2 ⟨rfl, rfl⟩)]
      have : l.filter (fun x => calledB x (stepOf k)) = [] := by
        rw [List.filter_eq_nil_iff]
        intro x hx hc
        have := (hcb x).1 hc
        exact hp.1 x hx ⟨this.1.symm, this.2.symm⟩
      rw [this]
    · rw [List.filter_cons, if_neg (fun hc => hp.1 k hk ((hcb y).1 hc))]
      exact ih hp.2 hk

theorem Fine.pw {u : api_Unit} (h : Fine u) : u.Kids.Pairwise (fun a b => ¬ (a.Kind = b.Kind ∧ a.Label = b.Label)) := by
  rw [List.pairwise_iff_getElem]
  exact fun i j hi hj hij => h.apart i j hi hj hij

theorem way_steps (id : api_Id) (u : api_Unit) : (∀ x, x ∈ desc u → Fine x) → ∀ w x, pathO id u = some w → w.getLast? = some x → way (w.tail.map stepOf) [u] = [x] := by
  refine uind (P := fun u => (∀ x, x ∈ desc u → Fine x) → ∀ w x, pathO id u = some w → w.getLast? = some x → way (w.tail.map stepOf) [u] = [x]) ?_ u
  intro u ih hf w x hw hx
  by_cases hid : u.Id = id
  · rw [path_self hid] at hw
    cases hw
    simp at hx
    subst hx
    simp [way]
  · obtain ⟨_, v, hv, rfl⟩ := path_two hid hw
    obtain ⟨k, hk, he⟩ := List.exists_of_findSome?_eq_some hv
    obtain ⟨t, rfl⟩ := path_head he
    simp only [List.tail_cons, List.map_cons, way]
    have hd : down (stepOf k) [u] = [k] := by
      unfold down
      rw [List.flatMap_singleton]
      exact filter_one (hf u (desc_self u)).pw hk
    rw [hd]
    refine ih k hk (fun y hy => hf y (desc_kid hk hy)) _ x he ?_
    rw [List.getLast?_cons_cons] at hx
    exact hx

theorem steps_valid (id : api_Id) (u : api_Unit) : (∀ x, x ∈ desc u → Fine x) → ∀ w, pathO id u = some w → stepsB (w.tail.map stepOf) = true := by
  refine uind (P := fun u => (∀ x, x ∈ desc u → Fine x) → ∀ w, pathO id u = some w → stepsB (w.tail.map stepOf) = true) ?_ u
  intro u ih hf w hw
  by_cases hid : u.Id = id
  · rw [path_self hid] at hw; cases hw; rfl
  · obtain ⟨_, v, hv, rfl⟩ := path_two hid hw
    obtain ⟨k, hk, he⟩ := List.exists_of_findSome?_eq_some hv
    obtain ⟨t, rfl⟩ := path_head he
    have h1 := ih k hk (fun y hy => hf y (desc_kid hk hy)) _ he
    have hk0 := (hf u (desc_self u)).kids k hk
    have hfk := hf k (mem_desc_kids hk)
    have h2 := hfk.kind
    have h3 := hfk.label hk0
    simp only [List.tail_cons, List.map_cons, stepsB] at h1 ⊢
    have hb : stepB (stepOf k) = true := by
      unfold stepB
      simp only [stepOf]
      rw [h3, Bool.and_true, Bool.and_eq_true]
      exact ⟨decide_eq_true (by omega), decide_eq_true (by omega)⟩
    rw [hb, h1]; rfl

theorem units_full (u : api_Unit) (hg : Good u) (id : api_Id) (w : List api_Unit) (hw : pathO id u = some w) : ∃ x, x.Id = id ∧ units u ((⟨0, []⟩ : api_Step) :: w.tail.map stepOf) = [x] := by
  obtain ⟨x, hx, hxi⟩ := way_end id u w hw
  refine ⟨x, hxi, ?_⟩
  have hd := path_deep id u w hw
  have h8 := hg.deep
  obtain ⟨t, rfl⟩ := path_head hw
  have hv : validB ((⟨0, []⟩ : api_Step) :: (u :: t).tail.map stepOf) = true := by
    simp only [validB]
    rw [steps_valid id u hg.fine _ hw]
    simp [bookB]
    simp at hd
    omega
  unfold units
  rw [if_pos hv]
  simp only
  rw [if_pos (by simp [bookB])]
  exact way_steps id u hg.fine _ x hw hx

theorem away_ok (id : api_Id) (u : api_Unit) : cnt u ≤ 10000 → To (fun n => M.address_way n u id) (match stepsO id u with | some p => (p, true) | none => ([], false)) := by
  refine uind (P := fun u => cnt u ≤ 10000 → To (fun n => M.address_way n u id) (match stepsO id u with | some p => (p, true) | none => ([], false))) ?_ u
  intro u ih hc
  have loop : ∀ (xs : List api_Unit) (slf : Nat → api_Unit → api_Id → Option (List api_Step × Bool)), (∀ k, k ∈ xs → cnt k ≤ 10000 ∧ To (fun n => slf n k id) (match stepsO id k with | some p => (p, true) | none => ([], false))) →
      To (fun n => M.address_way_loop1 id (slf n) xs) (match xs.findSome? (pathO id) with | none => .inl () | some w => .inr (w.map stepOf, true)) := by
    intro xs
    induction xs with
    | nil =>
      intro slf _
      simp only [M.address_way_loop1]
      exact To.pure
    | cons x xs ih =>
      intro slf hs
      obtain ⟨hcx, h1⟩ := hs x (by simp)
      simp only [M.address_way_loop1]
      refine To.bind h1 ?_
      rw [List.findSome?_cons]
      unfold stepsO
      cases hp : pathO id x with
      | none =>
        refine To.neg (by simp) ?_
        exact ih slf fun k hk => hs k (by simp [hk])
      | some w =>
        obtain ⟨v, rfl⟩ := path_head hp
        have hlen := path_len id x _ hp
        simp only [List.length_cons] at hlen
        exact To.pos rfl (To.bindS (appC_eq (by simp; omega)) (To.pure.of (by simp [stepOf])))
  refine To.succ ?_
  simp only [M.address_way]
  unfold stepsO
  by_cases hid : u.Id = id
  · rw [path_self hid]
    exact To.pos hid To.pure
  · rw [pathO_eq, if_neg hid]
    refine To.neg hid (To.bind (loop u.Kids (fun n => M.address_way n) fun k hk => ⟨by have := cnt_kid hk; omega, ih k hk (by have := cnt_kid hk; omega)⟩) ?_)
    cases u.Kids.findSome? (pathO id) with
    | none => exact To.pure
    | some w => exact To.pure.of (by simp)

theorem full_ok (id : api_Id) (u : api_Unit) (hc : cnt u ≤ 10000) : To (fun n => M.address_Full n u id) (match stepsO id u with | some p => ((⟨0, []⟩ : api_Step) :: p, true) | none => ([], false)) := by
  simp only [M.address_Full]
  refine To.bind (away_ok id u hc) ?_
  cases hp : stepsO id u with
  | none => exact To.pos rfl To.pure
  | some p =>
    have hlen : p.length ≤ 10000 := by
      unfold stepsO at hp
      obtain ⟨w, hw, rfl⟩ := Option.map_eq_some_iff.1 hp
      have := path_len id u w hw
      simp; omega
    exact To.neg (by simp) (To.bindS (appC_eq (by simp; omega)) To.pure)

/-- Lengths that a machine bears. -/
def big (u : api_Unit) : Prop := ∀ x, x ∈ desc u → x.Label.length ≤ 140737488355328 ∧ x.Head.length ≤ 140737488355328 ∧ x.Words.length ≤ 140737488355328 ∧ x.Kids.length ≤ 140737488355328

theorem big_kid {u k : api_Unit} (h : big u) (hk : k ∈ u.Kids) : big k := fun x hx => h x (desc_kid hk hx)

theorem quo50 (m : Nat) (h : m ≤ 140737488355328) : ∃ q : Nat, quoC (m : Int) 50 = some (q : Int) ∧ q ≤ 140737488355328 ∧ m < 50 * (q + 1) := by
  have e : ((m : Int).tdiv 50) = ((m / 50 : Nat) : Int) := rfl
  refine ⟨m / 50, ?_, by omega, by omega⟩
  unfold quoC
  rw [e, if_pos]
  refine ⟨by decide, ?_⟩
  simp only [fits64, Bool.and_eq_true, decide_eq_true_eq]
  omega

theorem few7_loop (u : api_Unit) (deep : Int) (hd0 : 0 ≤ deep) (hd : deep ≤ 12) (hu : u.Kids.length ≤ 140737488355328) : ∀ (xs : List api_Unit) (slf : Nat → api_Unit → Int → Int → Option Int) (i : Nat) (left : Int), u.Kids.drop i = xs →
    (∀ k, k ∈ xs → ∀ l : Int, 0 ≤ l → l ≤ 60 → ∃ r, To (fun n => slf n k l (deep + 1)) r ∧ r ≤ l ∧ -1000000000000000 ≤ r ∧ (0 ≤ r → (cnt k : Int) ≤ l - r ∧ ∀ x, x ∈ desc k → x.Label.length ≤ 5000 ∧ x.Head.length ≤ 5000 ∧ x.Words.length ≤ 5000)) → left ≤ 60 → -1000000000000000 ≤ left →
    ∃ r, To (fun n => M.r07_few_loop1 u deep (slf n) n left (i : Int)) r ∧ r ≤ left ∧ -1000000000000000 ≤ r ∧ (0 ≤ r → (((xs.map cnt).sum : Nat) : Int) ≤ left - r ∧ ∀ k, k ∈ xs → ∀ x, x ∈ desc k → x.Label.length ≤ 5000 ∧ x.Head.length ≤ 5000 ∧ x.Words.length ≤ 5000)
  | [], slf, i, left, hx, hs, h1, h2 => by
    refine ⟨left, To.succ ?_, by omega, h2, fun h => ⟨by simp, fun k hk => by cases hk⟩⟩
    simp only [M.r07_few_loop1]
    refine To.bind (a := false) (To.neg (drop_end hx) To.pure) ?_
    exact To.neg (by simp) To.pure
  | x :: xs, slf, i, left, hx, hs, h1, h2 => by
    by_cases hle : 0 ≤ left
    · obtain ⟨r1, ht1, q1, q2, q3⟩ := hs x (by simp) left hle h1
      obtain ⟨r, ht, p1, p2, p3⟩ := few7_loop u deep hd0 hd hu xs (fun n => slf (n + 1)) (i + 1) r1 (drop_next hx) (fun k hk m a b => by
        obtain ⟨r, h1, h2⟩ := hs k (by simp [hk]) m a b
        exact ⟨r, h1.shift, h2⟩) (by omega) q2
      have hil : i < u.Kids.length := (drop_cons hx).1
      refine ⟨r, To.succ ?_, by omega, p2, fun h => ?_⟩
      · simp only [M.r07_few_loop1]
        refine To.bind (a := true) (To.pos (drop_lt hx) (To.pure.of (by simp [hle]))) ?_
        refine To.pos rfl (To.bindS (drop_idx hx) (To.bindS (addC_eq (by omega) (by omega)) (To.bind ht1.shift (To.bindS (addC_succ (by omega)) ht))))
      · have h3 := p3 h
        have h4 := q3 (by omega)
        refine ⟨by simp only [List.map_cons, List.sum_cons]; omega, fun k hk => ?_⟩
        rcases List.mem_cons.1 hk with rfl | hk
        · exact h4.2
        · exact h3.2 k hk
    · refine ⟨left, To.succ ?_, by omega, h2, fun h => by omega⟩
      simp only [M.r07_few_loop1]
      refine To.bind (a := false) (To.pos (drop_lt hx) (To.pure.of (by simp; omega))) ?_
      exact To.neg (by simp) To.pure

theorem few7_ok (u : api_Unit) : big u → ∀ (left deep : Int), 0 ≤ left → left ≤ 60 → 0 ≤ deep → deep ≤ 13 → ∃ r, To (fun n => M.r07_few n u left deep) r ∧ r ≤ left ∧ -1000000000000000 ≤ r ∧ (0 ≤ r → (cnt u : Int) ≤ left - r ∧ ∀ x, x ∈ desc u → x.Label.length ≤ 5000 ∧ x.Head.length ≤ 5000 ∧ x.Words.length ≤ 5000) := by
  refine uind (P := fun u => big u → ∀ (left deep : Int), 0 ≤ left → left ≤ 60 → 0 ≤ deep → deep ≤ 13 → ∃ r, To (fun n => M.r07_few n u left deep) r ∧ r ≤ left ∧ -1000000000000000 ≤ r ∧ (0 ≤ r → (cnt u : Int) ≤ left - r ∧ ∀ x, x ∈ desc u → x.Label.length ≤ 5000 ∧ x.Head.length ≤ 5000 ∧ x.Words.length ≤ 5000)) ?_ u
  intro u ih hb left deep h1 h2 h3 h4
  obtain ⟨b1, b2, b3, b4⟩ := hb u (desc_self u)
  obtain ⟨q1, e1, l1, m1⟩ := quo50 _ b3
  obtain ⟨q2, e2, l2, m2⟩ := quo50 _ b2
  obtain ⟨q3, e3, l3, m3⟩ := quo50 _ b1
  by_cases hd : 12 < deep
  · refine ⟨-1, To.succ ?_, by omega, by omega, fun h => by omega⟩
    simp only [M.r07_few]
    refine To.bindS (subC_eq (by omega) (by omega)) (To.bindS e1 (To.bindS (subC_eq (by omega) (by omega)) (To.bindS e2 (To.bindS (subC_eq (by omega) (by omega)) (To.bindS e3 (To.bindS (subC_eq (by omega) (by omega)) ?_))))))
    exact To.pos hd To.pure
  · obtain ⟨r, ht, p1, p2, p3⟩ := few7_loop u deep h3 (by omega) b4 u.Kids (fun n => M.r07_few n) 0 (left - 1 - q1 - q2 - q3) rfl (fun k hk l a b => ih k hk (big_kid hb hk) l (deep + 1) a b (by omega) (by omega)) (by omega) (by omega)
    refine ⟨r, To.succ ?_, by omega, p2, fun h => ?_⟩
    · simp only [M.r07_few]
      refine To.bindS (subC_eq (by omega) (by omega)) (To.bindS e1 (To.bindS (subC_eq (by omega) (by omega)) (To.bindS e2 (To.bindS (subC_eq (by omega) (by omega)) (To.bindS e3 (To.bindS (subC_eq (by omega) (by omega)) ?_))))))
      exact To.neg hd (To.bind ht To.pure)
    · rw [cnt_eq]
      have h5 := p3 h
      refine ⟨by omega, fun x hx => ?_⟩
      rw [desc_eq] at hx
      rcases List.mem_cons.1 hx with rfl | hx
      · exact ⟨by omega, by omega, by omega⟩
      · obtain ⟨k, hk, hxk⟩ := List.mem_flatMap.1 hx
        exact h5.2 k hk x hxk

theorem few07 (u : api_Unit) (hb : big u) (m : Int) (hm0 : 0 ≤ m) (hm : m ≤ 60) : ∃ b, To (fun n => M.r07_Few n u m) b ∧ (b = true → cnt u ≤ 60 ∧ ∀ x, x ∈ desc u → x.Label.length ≤ 5000 ∧ x.Head.length ≤ 5000 ∧ x.Words.length ≤ 5000) := by
  obtain ⟨r, ht, h1, h2, h3⟩ := few7_ok u hb m 0 hm0 hm (by omega) (by omega)
  refine ⟨decide (0 ≤ r), ?_, fun h => ?_⟩
  · simp only [M.r07_Few]
    exact To.bind ht To.pure
  · have h4 := h3 (of_decide_eq_true h)
    have := of_decide_eq_true h
    exact ⟨by omega, h4.2⟩

theorem short07 (p : List api_Step) : ∃ b, To (fun n => M.law07_short n p) b ∧ (b = true → p.length ≤ 20 ∧ ∀ y, y ∈ p → y.Label.length ≤ 100) := by
  have loop : ∀ (xs : List api_Step) (i : Nat), p.drop i = xs → ∃ c : Unit ⊕ Bool, To (fun n => M.law07_short_loop1 p n (i : Int)) c ∧ (c = .inr false ∨ (c = .inl () ∧ ∀ y, y ∈ xs → y.Label.length ≤ 100)) := by
    intro xs
    induction xs with
    | nil =>
      intro i hx
      refine ⟨.inl (), To.succ ?_, .inr ⟨rfl, fun y hy => by cases hy⟩⟩
      simp only [M.law07_short_loop1]
      exact To.neg (drop_end hx) To.pure
    | cons x xs ih =>
      intro i hx
      by_cases hl : (100 : Int) < (x.Label.length : Int)
      · refine ⟨.inr false, To.succ ?_, .inl rfl⟩
        simp only [M.law07_short_loop1]
        exact To.pos (drop_lt hx) (To.bindS (drop_idx hx) (To.pos hl To.pure))
      · obtain ⟨c, ht, hc⟩ := ih (i + 1) (drop_next hx)
        refine ⟨c, To.succ ?_, hc.imp id (fun ⟨h1, h2⟩ => ⟨h1, fun y hy => ?_⟩)⟩
        · simp only [M.law07_short_loop1]
          rw [cast_succ]
          exact To.pos (drop_lt hx) (To.bindS (drop_idx hx) (To.neg hl ht))
        · rcases List.mem_cons.1 hy with rfl | hy
          · omega
          · exact h2 y hy
  obtain ⟨c, ht, hc⟩ := loop p 0 rfl
  rcases hc with rfl | ⟨rfl, h⟩
  · refine ⟨false, ?_, fun h => by cases h⟩
    simp only [M.law07_short]
    exact To.bind ht To.pure
  · refine ⟨decide ((p.length : Int) ≤ 20), ?_, fun h2 => ⟨?_, h⟩⟩
    · simp only [M.law07_short]
      exact To.bind ht To.pure
    · have := of_decide_eq_true h2
      omega

theorem awake07 : To (fun n => M.law07_awake n) true := by
  refine To.far 60 fun m => ?_
  kernel_rfl

end Go.Proofs.YtfclekegoleiaaaDoor
