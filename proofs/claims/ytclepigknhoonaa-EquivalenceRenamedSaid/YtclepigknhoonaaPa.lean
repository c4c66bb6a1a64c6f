
/-
  Trees, labels, addresses, paths: pieces that other chapters' texts hold too (picked by wip/scripts/pick.py).
-/
import Derived.Test.YtclepigknhoonaaMdl
import Derived.Test.YtclepigknhoonaaEv
import Derived.Test.YtclepigknhoonaaDec13
import Derived.KernelRfl
set_option linter.unusedVariables false
set_option linter.unusedSimpArgs false
namespace Go.Proofs.Ytclepigknhoonaa
open Go Go.Dec

theorem kid_lt {u k : api_Unit} (h : k ∈ u.Kids) : SizeOf.sizeOf k < SizeOf.sizeOf u := by
  cases u
  have := List.sizeOf_lt_of_mem h
  simp at this ⊢
  omega

theorem uind {P : api_Unit → Prop} (h : ∀ u, (∀ k, k ∈ u.Kids → P k) → P u) (u : api_Unit) : P u :=
  h u (fun k hk => uind h k)
termination_by SizeOf.sizeOf u
decreasing_by exact kid_lt hk

/-- A unit and all below it, in order. -/
def desc (u : api_Unit) : List api_Unit := u :: u.Kids.attach.flatMap (fun k => desc k.1)
termination_by SizeOf.sizeOf u
decreasing_by exact kid_lt k.2

theorem desc_eq (u : api_Unit) : desc u = u :: u.Kids.flatMap desc := by
  rw [desc]
  congr 1
  have : ∀ l : List api_Unit, l.attach.flatMap (fun k => desc k.1) = l.flatMap desc := by
    intro l
    rw [List.flatMap_def, List.flatMap_def]
    congr 1
    rw [show (fun k : {x // x ∈ l} => desc k.1) = desc ∘ Subtype.val from rfl, ← List.map_map, List.attach_map_subtype_val]
  exact this _

def cnt (u : api_Unit) : Nat := (desc u).length

theorem cnt_eq (u : api_Unit) : cnt u = 1 + (u.Kids.map cnt).sum := by
  unfold cnt
  rw [desc_eq]
  simp [List.length_flatMap]
  omega

theorem cnt_pos (u : api_Unit) : 1 ≤ cnt u := by rw [cnt_eq]; omega

theorem sum_mem {α : Type} (f : α → Nat) : ∀ {l : List α} {x : α}, x ∈ l → f x ≤ (l.map f).sum
  | y :: l, x, h => by
    rcases List.mem_cons.1 h with rfl | h
    · simp
    · have := sum_mem f h
      simp; omega

theorem sum_len {α : Type} (f : α → Nat) (h : ∀ x, 1 ≤ f x) : ∀ l : List α, l.length ≤ (l.map f).sum
  | [] => by simp
  | x :: l => by
    have := sum_len f h l
    have := h x
    simp; omega

theorem cnt_kid {u k : api_Unit} (h : k ∈ u.Kids) : cnt k < cnt u := by
  rw [cnt_eq u]
  have := sum_mem cnt h
  omega

theorem cnt_kids (u : api_Unit) : u.Kids.length < cnt u := by
  rw [cnt_eq u]
  have := sum_len cnt cnt_pos u.Kids
  omega

theorem size_loop (u : api_Unit) (deep most : Int) (hd0 : 0 ≤ deep) (hd : deep ≤ 20) (hm0 : 0 ≤ most) (hm : most ≤ 1000000) : ∀ (xs : List api_Unit) (slf : Nat → api_Unit → Int → Int → Option Int) (i : Nat) (n0 : Int), u.Kids.drop i = xs →
    (∀ k, k ∈ xs → ∀ m : Int, 0 ≤ m → m ≤ 1000000 → ∃ r, To (fun n => slf n k (deep + 1) m) r ∧ 1 ≤ r ∧ r ≤ m + 1 ∧ (r ≤ m → (cnt k : Int) ≤ r)) → (i : Int) + 1 ≤ n0 → n0 ≤ most + 1 →
    ∃ r, To (fun n => M.r06_size_loop1 u deep most (slf n) n n0 (i : Int)) r ∧ n0 ≤ r ∧ r ≤ most + 1 ∧ (r ≤ most → n0 + ((xs.map cnt).sum : Nat) ≤ r)
  | [], slf, i, n0, hx, hs, h1, h2 => by
    refine ⟨n0, To.succ ?_, by omega, h2, fun h => by simp⟩
    simp only [M.r06_size_loop1]
    refine To.bind (a := false) (To.neg (drop_end hx) To.pure) ?_
    exact To.neg (by simp) To.pure
  | x :: xs, slf, i, n0, hx, hs, h1, h2 => by
    by_cases hle : n0 ≤ most
    · obtain ⟨r1, ht1, hr1, hr2, hr3⟩ := hs x (by simp) (most - n0) (by omega) (by omega)
      have ih := size_loop u deep most hd0 hd hm0 hm xs (fun n => slf (n + 1)) (i + 1) (n0 + r1) (drop_next hx) (fun k hk m a b => by
        obtain ⟨r, h1, h2⟩ := hs k (by simp [hk]) m a b
        exact ⟨r, h1.shift, h2⟩) (by omega) (by omega)
      obtain ⟨r, ht, q1, q2, q3⟩ := ih
      refine ⟨r, To.succ ?_, by omega, q2, fun h => ?_⟩
      · simp only [M.r06_size_loop1]
        refine To.bind (a := true) (To.pos (drop_lt hx) (To.pure.of (by simp [hle]))) ?_
        refine To.pos rfl ?_
        refine To.bindS (drop_idx hx) ?_
        refine To.bindS (addC_eq (by omega) (by omega)) ?_
        refine To.bindS (subC_eq (by omega) (by omega)) ?_
        refine To.bind ht1.shift ?_
        refine To.bindS (addC_eq (by omega) (by omega)) ?_
        refine To.bindS (addC_succ (by omega)) ?_
        exact ht
      · have := q3 h
        have := hr3 (by omega)
        simp only [List.map_cons, List.sum_cons]
        omega
    · refine ⟨n0, To.succ ?_, by omega, h2, fun h => by omega⟩
      simp only [M.r06_size_loop1]
      refine To.bind (a := false) (To.pos (drop_lt hx) (To.pure.of (by simp; omega))) ?_
      exact To.neg (by simp) To.pure

theorem size_ok (u : api_Unit) : ∀ (deep most : Int), 0 ≤ deep → deep ≤ 21 → 0 ≤ most → most ≤ 1000000 → ∃ r, To (fun n => M.r06_size n u deep most) r ∧ 1 ≤ r ∧ r ≤ most + 1 ∧ (r ≤ most → (cnt u : Int) ≤ r) := by
  refine uind (P := fun u => ∀ (deep most : Int), 0 ≤ deep → deep ≤ 21 → 0 ≤ most → most ≤ 1000000 → ∃ r, To (fun n => M.r06_size n u deep most) r ∧ 1 ≤ r ∧ r ≤ most + 1 ∧ (r ≤ most → (cnt u : Int) ≤ r)) ?_ u
  intro u ih deep most h1 h2 h3 h4
  by_cases hd : 20 < deep
  · refine ⟨most + 1, To.succ ?_, by omega, by omega, fun h => by omega⟩
    simp only [M.r06_size]
    refine To.pos hd (To.bindS (addC_eq (by omega) (by omega)) To.pure)
  · obtain ⟨r, ht, q1, q2, q3⟩ := size_loop u deep most h1 (by omega) h3 h4 u.Kids (fun n => M.r06_size n) 0 1 rfl (fun k hk m a b => ih k hk (deep + 1) m (by omega) (by omega) a b) (by omega) (by omega)
    refine ⟨r, To.succ ?_, q1, q2, fun h => ?_⟩
    · simp only [M.r06_size]
      refine To.neg hd (To.bind ht To.pure)
    · rw [cnt_eq]
      have := q3 h
      omega

theorem short_ok (l : List api_Word) : ∃ b, To (fun n => M.r06_short n l) b ∧ (b = true → l.length ≤ 300) := by
  have loop : ∀ (xs : List api_Word) (i : Nat), l.drop i = xs → ∃ c : Unit ⊕ Bool, To (fun n => M.r06_short_loop1 l n (i : Int)) c ∧ (c = .inl () ∨ c = .inr false) := by
    intro xs
    induction xs with
    | nil =>
      intro i hx
      refine ⟨.inl (), To.succ ?_, .inl rfl⟩
      simp only [M.r06_short_loop1]
      exact To.neg (drop_end hx) To.pure
    | cons x xs ih =>
      intro i hx
      by_cases h : 100 < x.Text.length
      · refine ⟨.inr false, To.succ ?_, .inr rfl⟩
        simp only [M.r06_short_loop1]
        exact To.pos (drop_lt hx) (To.bindS (drop_idx hx) (To.pos (by omega) To.pure))
      · obtain ⟨c, h1, h2⟩ := ih (i + 1) (drop_next hx)
        refine ⟨c, To.succ ?_, h2⟩
        simp only [M.r06_short_loop1]
        rw [cast_succ]
        exact To.pos (drop_lt hx) (To.bindS (drop_idx hx) (To.neg (by omega) h1))
  obtain ⟨c, h1, h2⟩ := loop l 0 rfl
  simp only [M.r06_short]
  rcases h2 with rfl | rfl
  · exact ⟨_, To.bind h1 To.pure, fun h => by have := of_decide_eq_true h; omega⟩
  · exact ⟨_, To.bind h1 To.pure, fun h => by cases h⟩

theorem desc_self (u : api_Unit) : u ∈ desc u := by rw [desc_eq]; simp

theorem desc_kid {u k x : api_Unit} (hk : k ∈ u.Kids) (hx : x ∈ desc k) : x ∈ desc u := by
  rw [desc_eq]
  exact List.mem_cons_of_mem _ (List.mem_flatMap.2 ⟨k, hk, hx⟩)

/-- Every label in the tree is short. -/
def labs (u : api_Unit) : Prop := ∀ x, x ∈ desc u → x.Label.length ≤ 5000 ∧ x.Head.length ≤ 5000 ∧ x.Words.length ≤ 5000

theorem labs_kid {u k : api_Unit} (h : labs u) (hk : k ∈ u.Kids) : labs k := fun x hx => h x (desc_kid hk hx)

theorem words_ok (u : api_Unit) : ∃ b, To (fun n => M.r06_words n u) b ∧ (b = true → labs u) := by
  refine uind (P := fun u => ∃ b, To (fun n => M.r06_words n u) b ∧ (b = true → labs u)) ?_ u
  intro u ih
  have loop : ∀ (xs : List api_Unit) (slf : Nat → api_Unit → Option Bool) (i : Nat), u.Kids.drop i = xs → (∀ k, k ∈ xs → ∃ b, To (fun n => slf n k) b ∧ (b = true → labs k)) →
      To (fun n => M.r06_words_loop1 u (slf n) n (i : Int)) (.inr false) ∨ (To (fun n => M.r06_words_loop1 u (slf n) n (i : Int)) (.inl ()) ∧ ∀ k, k ∈ xs → labs k) := by
    intro xs
    induction xs with
    | nil =>
      intro slf i hx hs
      refine .inr ⟨To.succ ?_, fun k hk => by cases hk⟩
      simp only [M.r06_words_loop1]
      exact To.neg (drop_end hx) To.pure
    | cons x xs ih =>
      intro slf i hx hs
      obtain ⟨b, hb, hl⟩ := hs x (by simp)
      cases b with
      | false =>
        refine .inl (To.succ ?_)
        simp only [M.r06_words_loop1]
        exact To.pos (drop_lt hx) (To.bindS (drop_idx hx) (To.bind hb.shift (To.pos rfl To.pure)))
      | true =>
        rcases ih (fun n => slf (n + 1)) (i + 1) (drop_next hx) (fun k hk => by
          obtain ⟨b, h1, h2⟩ := hs k (by simp [hk])
          exact ⟨b, h1.shift, h2⟩) with h | ⟨h, hk⟩
        · refine .inl (To.succ ?_)
          simp only [M.r06_words_loop1]
          refine To.pos (drop_lt hx) (To.bindS (drop_idx hx) (To.bind hb.shift (To.neg (by simp) ?_)))
          rw [cast_succ]; exact h
        · refine .inr ⟨To.succ ?_, fun k hk' => ?_⟩
          · simp only [M.r06_words_loop1]
            refine To.pos (drop_lt hx) (To.bindS (drop_idx hx) (To.bind hb.shift (To.neg (by simp) ?_)))
            rw [cast_succ]; exact h
          · rcases List.mem_cons.1 hk' with rfl | hk'
            · exact hl rfl
            · exact hk k hk'
  by_cases hlab : 30 < u.Label.length
  · refine ⟨false, To.succ ?_, fun h => by cases h⟩
    simp only [M.r06_words]
    exact To.bind (a := true) (To.pos (by omega) To.pure) (To.pos rfl To.pure)
  · obtain ⟨b1, k1, l1⟩ := short_ok u.Head
    obtain ⟨b2, k2, l2⟩ := short_ok u.Words
    have ha : To (fun n => Option.bind (M.r06_short n u.Head) fun short => if short = false then some true else Option.bind (M.r06_short n u.Words) fun short1 => some (!short1)) (!(b1 && b2)) := by
      refine To.bind k1 ?_
      cases b1 with
      | false => exact To.pos rfl To.pure
      | true => exact To.neg (by simp) (To.bind k2 (To.pure.of (by simp)))
    cases hb : (b1 && b2) with
    | false =>
      rw [hb] at ha
      refine ⟨false, To.succ ?_, fun h => by cases h⟩
      simp only [M.r06_words]
      exact To.bind (a := true) (To.neg (by omega) ha) (To.pos rfl To.pure)
    | true =>
      rw [hb] at ha
      rw [Bool.and_eq_true] at hb
      have e1 := l1 hb.1
      have e2 := l2 hb.2
      rcases loop u.Kids (fun n => M.r06_words n) 0 rfl ih with h | ⟨h, hk⟩
      · refine ⟨false, To.succ ?_, fun h => by cases h⟩
        simp only [M.r06_words]
        exact To.bind (a := false) (To.neg (by omega) ha) (To.neg (by simp) (To.bind h To.pure))
      · refine ⟨true, To.succ ?_, fun _ x hx => ?_⟩
        · simp only [M.r06_words]
          exact To.bind (a := false) (To.neg (by omega) ha) (To.neg (by simp) (To.bind h To.pure))
        · rw [desc_eq] at hx
          rcases List.mem_cons.1 hx with rfl | hx
          · exact ⟨by omega, by omega, by omega⟩
          · obtain ⟨k, h1, h2⟩ := List.mem_flatMap.1 hx
            exact hk k h1 x h2

theorem few_ok (u : api_Unit) (most : Int) (h0 : 0 ≤ most) (h1 : most ≤ 1000000) : ∃ b, To (fun n => M.r06_Few n u most) b ∧ (b = true → (cnt u : Int) ≤ most ∧ labs u) := by
  obtain ⟨r, ht, q1, q2, q3⟩ := size_ok u 0 most (by omega) (by omega) h0 h1
  by_cases hr : r ≤ most
  · obtain ⟨b, hb, hl⟩ := words_ok u
    refine ⟨b, ?_, fun h => ⟨by have := q3 hr; omega, hl h⟩⟩
    simp only [M.r06_Few]
    exact To.bind ht (To.pos hr (To.bind hb To.pure))
  · refine ⟨false, ?_, fun h => by cases h⟩
    simp only [M.r06_Few]
    exact To.bind ht (To.neg hr To.pure)

def isDig (b : UInt8) : Bool := decide (48 ≤ b.toNat) && decide (b.toNat ≤ 57)

def isCap (b : UInt8) : Bool := decide (65 ≤ b.toNat) && decide (b.toNat ≤ 90)

/-- Which strings are labels. -/
def labB (s : Str) : Bool :=
  let d := (s.takeWhile isDig).length
  decide (1 ≤ d) && decide (d ≤ 4) && decide (s.head? ≠ some 48) && decide (s.length - d ≤ 3) && (s.drop d).all isCap

/-- The search for a rune of which p holds, where p holds of all that lies above ASCII. -/
theorem idxfun (s : Str) (f : Int → Option Bool) (p : UInt8 → Bool) (hf : ∀ b : UInt8, b.toNat < 128 → f (b.toNat : Int) = some (p b)) (hh : ∀ r : Nat, 128 ≤ r → f (r : Int) = some true) (hp : ∀ b : UInt8, 128 ≤ b.toNat → p b = true) :
    To (fun n => M.strings_IndexFunc n s f) (if s.any p then (((s.takeWhile fun b => !p b).length : Nat) : Int) else -1) := by
  have loop : ∀ (xs : Str) (i : Nat), s.drop i = xs → ∃ v, To (fun n => M.strings_indexFunc_loop1 s f true n i) (if xs.any p then .inr ((i + (xs.takeWhile fun b => !p b).length : Nat) : Int) else .inl v) := by
    intro xs
    induction xs with
    | nil =>
      intro i hx
      have := List.drop_eq_nil_iff.1 hx
      refine ⟨i, To.succ ?_⟩
      simp only [M.strings_indexFunc_loop1]
      exact To.neg (by omega) (To.pure.of (by simp))
    | cons x xs ih =>
      intro i hx
      obtain ⟨h1, h2, h3⟩ := drop_cons hx
      have hxi : s[i] = x := by rw [List.getElem?_eq_getElem h1] at h2; exact Option.some.inj h2
      by_cases ha : x.toNat < 128
      · have hr := runeAt_ascii h1 (by rw [hxi]; exact ha)
        rw [hxi] at hr
        obtain ⟨v, hv⟩ := ih (i + 1) h3
        refine ⟨v, To.succ ?_⟩
        simp only [M.strings_indexFunc_loop1]
        refine To.pos h1 ?_
        rw [hr]
        refine To.bindS (hf x ha) ?_
        cases hpx : p x with
        | true => exact To.pos rfl (To.pure.of (by simp [hpx]))
        | false =>
          refine To.neg (by simp) (hv.of ?_)
          have tw : (x :: xs).takeWhile (fun b => !p b) = x :: xs.takeWhile (fun b => !p b) := List.takeWhile_cons_of_pos (by simp [hpx])
          rw [tw]
          simp only [List.any_cons, hpx, Bool.false_or, List.length_cons]
          split
          · congr 1; omega
          · rfl
      · obtain ⟨q1, q2⟩ := runeAt_high h1 (by rw [hxi]; omega)
        have hpx := hp x (by omega)
        refine ⟨0, To.succ ?_⟩
        simp only [M.strings_indexFunc_loop1]
        refine To.pos h1 (To.bindS (hh _ q1) (To.pos rfl (To.pure.of (by simp [hpx]))))
  obtain ⟨v, hv⟩ := loop s 0 rfl
  simp only [M.strings_IndexFunc, M.strings_indexFunc]
  by_cases h : s.any p = true
  · rw [if_pos h] at hv ⊢
    exact To.bind (To.bind hv To.pure) (To.pure.of (by simp))
  · rw [if_neg h] at hv ⊢
    exact To.bind (To.bind hv To.pure) To.pure

theorem tw_all {α : Type} {p : α → Bool} : ∀ {l : List α}, (∀ b, b ∈ l → p b = true) → l.takeWhile p = l
  | [], _ => rfl
  | x :: l, h => by rw [List.takeWhile_cons_of_pos (h x (by simp)), tw_all fun b hb => h b (by simp [hb])]

theorem tw_not (s : Str) : (s.takeWhile fun b => !(!isDig b)) = s.takeWhile isDig := by simp

theorem parted_ok (s : Str) : To (fun n => M.label_parted n s) (s.take (s.takeWhile isDig).length, s.drop (s.takeWhile isDig).length) := by
  have h := idxfun s (fun s0 => M.label_parted_1 s0) (fun b => !isDig b) (fun b hb => by
    simp only [M.label_parted_1, isDig]
    split
    · simp; omega
    · congr 1; rw [Bool.eq_iff_iff]; simp; omega) (fun r hr => by
    simp only [M.label_parted_1]
    rw [if_neg (by omega)]; congr 1; simp; omega) (fun b hb => by simp [isDig]; omega)
  have hd : (s.takeWhile isDig).length ≤ s.length := (List.takeWhile_sublist isDig (l := s)).length_le
  simp only [M.label_parted]
  refine To.bind h ?_
  rw [tw_not]
  by_cases ha : (s.any fun b => !isDig b) = true
  · rw [if_pos ha]
    refine To.neg (by omega) (To.bindS (a := s.take (s.takeWhile isDig).length) ?_ (To.bindS (a := s.drop (s.takeWhile isDig).length) ?_ To.pure))
    · simp [slcHi, hd]
    · simp [slcLo, hd]
  · rw [if_neg ha]
    refine To.pos (by omega) (To.pure.of ?_)
    have hall : s.takeWhile isDig = s := by
      refine tw_all fun b hb => ?_
      simp only [Bool.not_eq_true, List.any_eq_false] at ha
      have := ha b hb
      simpa using this
    rw [hall]; simp

theorem label_ok (s : Str) : To (fun n => M.label_Valid n s) (labB s) := by
  have hd : (s.takeWhile isDig).length ≤ s.length := (List.takeWhile_sublist isDig (l := s)).length_le
  have h := parted_ok s
  generalize hdd : (s.takeWhile isDig).length = d at hd h
  have hc := idxfun (s.drop d) (fun s0 => M.label_Valid_1 s0) (fun b => !isCap b) (fun b hb => by
    simp only [M.label_Valid_1, isCap]
    split
    · simp; omega
    · congr 1; rw [Bool.eq_iff_iff]; simp; omega) (fun r hr => by
    simp only [M.label_Valid_1]
    rw [if_neg (by omega)]; congr 1; simp; omega) (fun b hb => by simp [isCap]; omega)
  simp only [M.label_Valid]
  refine To.bind h ?_
  dsimp only
  have hl : ((s.take d).length : Int) = d := by rw [List.length_take]; omega
  have hl2 : (((s.drop d).length : Nat) : Int) = ((s.length - d : Nat) : Int) := by rw [List.length_drop]
  by_cases h1 : d < 1
  · exact To.neg (by omega) (To.pure.of (by simp [labB, hdd]; omega))
  refine To.pos (by omega) ?_
  by_cases h2 : 4 < d
  · exact To.neg (by omega) (To.pure.of (by simp [labB, hdd]; omega))
  refine To.pos (by omega) ?_
  obtain ⟨x, xs, rfl⟩ : ∃ x xs, s = x :: xs := by
    cases s with
    | nil => simp at hd; omega
    | cons x xs => exact ⟨x, xs, rfl⟩
  have hx : idx ((x :: xs).take d) (0 : Int) = some x := by
    obtain ⟨e, rfl⟩ : ∃ e, d = e + 1 := ⟨d - 1, by omega⟩
    simp [idx]
  refine To.bindS hx ?_
  by_cases h3 : x = 48
  · subst h3
    exact To.neg (by simp) (To.pure.of (by simp [labB]))
  have h3' : (x.toNat : Int) ≠ 48 := by
    intro h
    exact h3 (UInt8.toNat_inj.1 (by have : (48 : UInt8).toNat = 48 := rfl; omega))
  refine To.pos h3' ?_
  simp only [labB, hdd]
  rw [decide_eq_true (show 1 ≤ d by omega), decide_eq_true (show d ≤ 4 by omega), decide_eq_true (show (x :: xs).head? ≠ some 48 by simpa using h3)]
  by_cases h4 : 3 < (x :: xs).length - d
  · refine To.neg (by omega) (To.pure.of ?_)
    rw [decide_eq_false (show ¬ (x :: xs).length - d ≤ 3 by omega)]
    simp
  refine To.pos (by omega) ?_
  rw [decide_eq_true (show (x :: xs).length - d ≤ 3 by omega)]
  simp only [M.strings_ContainsFunc]
  refine To.bind (To.bind hc To.pure) (To.pure.of ?_)
  have he : (((x :: xs).drop d).any fun b => !isCap b) = !(((x :: xs).drop d).all isCap) := by rw [List.not_all_eq_any_not]
  rw [he]
  cases ((x :: xs).drop d).all isCap <;> simp <;> omega

theorem mem_desc_kids {u k : api_Unit} (hk : k ∈ u.Kids) : k ∈ desc u := desc_kid hk (desc_self k)

theorem all_ok (u : api_Unit) : cnt u ≤ 1000000 → To (fun n => M.r06_All n u) ((desc u).map api_Unit.Id) := by
  refine uind (P := fun u => cnt u ≤ 1000000 → To (fun n => M.r06_All n u) ((desc u).map api_Unit.Id)) ?_ u
  intro u ih hc
  have loop : ∀ (xs : List api_Unit) (slf : Nat → api_Unit → Option (List api_Id)) (i : Nat) (out : List api_Id), u.Kids.drop i = xs → (∀ k, k ∈ xs → To (fun n => slf n k) ((desc k).map api_Unit.Id)) → out.length + (xs.map cnt).sum ≤ 1000000 →
      To (fun n => M.r06_All_loop1 u (slf n) n out (i : Int)) (out ++ (xs.flatMap desc).map api_Unit.Id) := by
    intro xs
    induction xs with
    | nil =>
      intro slf i out hx hs hd
      refine To.succ ?_
      simp only [M.r06_All_loop1]
      exact To.neg (drop_end hx) (To.pure.of (by simp))
    | cons x xs ih =>
      intro slf i out hx hs hd
      simp only [List.map_cons, List.sum_cons] at hd
      refine To.succ ?_
      simp only [M.r06_All_loop1]
      have hlen : ((desc x).map api_Unit.Id).length = cnt x := by simp [cnt]
      refine To.pos (drop_lt hx) (To.bindS (drop_idx hx) (To.bind (hs x (by simp)).shift (To.bindS (appC_eq (by omega)) ?_)))
      rw [cast_succ]
      refine (ih (fun n => slf (n + 1)) (i + 1) _ (drop_next hx) (fun k hk => (hs k (by simp [hk])).shift) (by rw [List.length_append]; omega)).of ?_
      simp
  have he := cnt_eq u
  refine To.succ ?_
  simp only [M.r06_All]
  refine To.bind (loop u.Kids (fun n => M.r06_All n) 0 [u.Id] rfl (fun k hk => ih k hk (by have := cnt_kid hk; omega)) (by simp; omega)) (To.pure.of (by rw [desc_eq u]; simp))

def bookB (s : api_Step) : Bool := decide (s.Kind = 0) && (s.Label == ([] : Str))

def calledB (x : api_Unit) (s : api_Step) : Bool := decide (x.Kind = s.Kind) && (x.Label == s.Label)

def stepB (s : api_Step) : Bool := decide (1 ≤ s.Kind) && decide (s.Kind ≤ 7) && labB s.Label

def stepsB : List api_Step → Bool
  | [] => true
  | s :: p => stepB s && stepsB p

/-- Which addresses are valid. -/
def validB (p : List api_Step) : Bool :=
  (match p with
    | [] => true
    | s :: q => (bookB s || stepB s) && stepsB q) && decide (p.length ≤ 9)

/-- All units below any of a list. -/
def wsum (l : List api_Unit) : Nat := (l.map cnt).sum

theorem wsum_len (l : List api_Unit) : l.length ≤ wsum l := sum_len cnt cnt_pos l

theorem wsum_cons (x : api_Unit) (l : List api_Unit) : wsum (x :: l) = cnt x + wsum l := by simp [wsum]

theorem wsum_append (l m : List api_Unit) : wsum (l ++ m) = wsum l + wsum m := by simp [wsum]

theorem wsum_filter (p : api_Unit → Bool) : ∀ l : List api_Unit, wsum (l.filter p) ≤ wsum l
  | [] => by simp [wsum]
  | x :: l => by
    have := wsum_filter p l
    rw [List.filter_cons]
    split
    · rw [wsum_cons, wsum_cons]; omega
    · rw [wsum_cons]; omega

theorem wsum_kids : ∀ l : List api_Unit, wsum (l.flatMap api_Unit.Kids) ≤ wsum l
  | [] => by simp [wsum]
  | x :: l => by
    have := wsum_kids l
    have := cnt_eq x
    rw [List.flatMap_cons, wsum_append, wsum_cons]
    unfold wsum at *
    omega

theorem wsum_desc (u : api_Unit) : wsum (desc u) ≤ cnt u * cnt u := by
  have : ∀ l : List api_Unit, (∀ x, x ∈ l → cnt x ≤ cnt u) → wsum l ≤ l.length * cnt u := by
    intro l
    induction l with
    | nil => intro _; simp [wsum]
    | cons x l ih =>
      intro h
      have h1 := h x (by simp)
      have h2 := ih (fun y hy => h y (by simp [hy]))
      rw [wsum_cons, List.length_cons, Nat.add_mul]
      omega
  refine this _ ?_
  refine uind (P := fun u => ∀ x, x ∈ desc u → cnt x ≤ cnt u) ?_ u
  intro u ih x hx
  rw [desc_eq] at hx
  rcases List.mem_cons.1 hx with rfl | hx
  · exact Nat.le_refl _
  · obtain ⟨k, h1, h2⟩ := List.mem_flatMap.1 hx
    have := ih k h1 x h2
    have := cnt_kid h1
    omega

/-- The kids of a list of units that a step calls. -/
def down (s : api_Step) (l : List api_Unit) : List api_Unit := (l.flatMap api_Unit.Kids).filter (fun x => calledB x s)

theorem wsum_down (s : api_Step) (l : List api_Unit) : wsum (down s l) ≤ wsum l := Nat.le_trans (wsum_filter _ _) (wsum_kids l)

def way : List api_Step → List api_Unit → List api_Unit
  | [], l => l
  | s :: p, l => way p (down s l)

/-- What an address matches. -/
def units (u : api_Unit) (p : List api_Step) : List api_Unit :=
  if validB p then
    match p with
    | [] => [u]
    | s :: q => way q (if bookB s then [u] else (desc u).filter (fun x => calledB x s))
  else []

def lim38 : Nat := 100000000000

/-- The only one of a list, or the error. -/
def oneOf : List api_Id → api_Id × Int
  | [] => (zapi_Id, 7)
  | [x] => (x, 0)
  | _ => (zapi_Id, 8)

theorem way_len : ∀ (p : List api_Step) (l : List api_Unit), (way p l).length ≤ wsum l
  | [], l => wsum_len l
  | s :: p, l => Nat.le_trans (way_len p _) (wsum_down s l)

theorem units_len (u : api_Unit) (p : List api_Step) : (units u p).length ≤ cnt u * cnt u := by
  have h1 := cnt_pos u
  have h2 : 1 * cnt u ≤ cnt u * cnt u := Nat.mul_le_mul_right _ h1
  unfold units
  split
  · split
    · simp; omega
    · rename_i s q _
      refine Nat.le_trans (way_len q _) ?_
      split
      · simp [wsum]; omega
      · exact Nat.le_trans (wsum_filter _ _) (wsum_desc u)
  · simp

/-- The first unit with an ID. -/
def findO (id : api_Id) (u : api_Unit) : Option api_Unit := if u.Id = id then some u else u.Kids.attach.findSome? (fun k => findO id k.1)
termination_by SizeOf.sizeOf u
decreasing_by exact kid_lt k.2

theorem attach_findSome {β : Type} (f : api_Unit → Option β) (l : List api_Unit) : l.attach.findSome? (fun k => f k.1) = l.findSome? f := by
  rw [show (fun k : {x // x ∈ l} => f k.1) = f ∘ Subtype.val from rfl, ← List.findSome?_map, List.attach_map_subtype_val]

theorem findO_eq (id : api_Id) (u : api_Unit) : findO id u = if u.Id = id then some u else u.Kids.findSome? (findO id) := by
  rw [findO]
  split
  · rfl
  · exact attach_findSome (findO id) u.Kids

/-- The units from the root to the first unit with an ID. -/
def pathO (id : api_Id) (u : api_Unit) : Option (List api_Unit) := if u.Id = id then some [u] else (u.Kids.attach.findSome? (fun k => pathO id k.1)).map (u :: ·)
termination_by SizeOf.sizeOf u
decreasing_by exact kid_lt k.2

theorem pathO_eq (id : api_Id) (u : api_Unit) : pathO id u = if u.Id = id then some [u] else (u.Kids.findSome? (pathO id)).map (u :: ·) := by
  rw [pathO]
  split
  · rfl
  · rw [attach_findSome (pathO id) u.Kids]

theorem path_ne (id : api_Id) (u : api_Unit) : ∀ w, pathO id u = some w → w ≠ [] := by
  intro w h
  rw [pathO_eq] at h
  split at h
  · cases h; simp
  · obtain ⟨v, _, rfl⟩ := Option.map_eq_some_iff.1 h
    simp

theorem path_len (id : api_Id) (u : api_Unit) : ∀ w, pathO id u = some w → w.length ≤ cnt u := by
  refine uind (P := fun u => ∀ w, pathO id u = some w → w.length ≤ cnt u) ?_ u
  intro u ih w h
  rw [pathO_eq] at h
  split at h
  · cases h; exact cnt_pos u
  · obtain ⟨v, hv, rfl⟩ := Option.map_eq_some_iff.1 h
    obtain ⟨k, hk, he⟩ := List.exists_of_findSome?_eq_some hv
    have := ih k hk v he
    have := cnt_kid hk
    simp only [List.length_cons]
    omega

theorem path_last (id : api_Id) (u : api_Unit) : findO id u = (pathO id u).bind List.getLast? := by
  refine uind (P := fun u => findO id u = (pathO id u).bind List.getLast?) ?_ u
  intro u ih
  rw [findO_eq, pathO_eq]
  split
  · rfl
  · have : ∀ l : List api_Unit, (∀ k, k ∈ l → findO id k = (pathO id k).bind List.getLast?) → l.findSome? (findO id) = ((l.findSome? (pathO id)).map (u :: ·)).bind List.getLast? := by
      intro l
      induction l with
      | nil => intro _; rfl
      | cons k l ihl =>
        intro h
        have h1 := h k (by simp)
        have h2 := ihl fun x hx => h x (by simp [hx])
        rw [List.findSome?_cons, List.findSome?_cons]
        cases hp : pathO id k with
        | none =>
          rw [hp] at h1
          simp only [Option.bind_none] at h1
          rw [h1]; exact h2
        | some w =>
          rw [hp] at h1
          have hw := path_ne id k w hp
          simp only [Option.bind_some] at h1
          obtain ⟨x, hx⟩ : ∃ x, w.getLast? = some x := by
            cases w with
            | nil => exact absurd rfl hw
            | cons a b => exact ⟨_, List.getLast?_eq_some_getLast (by simp)⟩
          rw [h1, hx]
          simp only [Option.map_some, Option.bind_some]
          rw [List.getLast?_cons, hx]; rfl
    exact this u.Kids ih

theorem way_ok (id : api_Id) (u : api_Unit) : cnt u ≤ 10000 → To (fun n => M.unit_way n u id) ((pathO id u).getD []) := by
  refine uind (P := fun u => cnt u ≤ 10000 → To (fun n => M.unit_way n u id) ((pathO id u).getD [])) ?_ u
  intro u ih hc
  have loop : ∀ (xs : List api_Unit) (slf : Nat → api_Unit → api_Id → Option (List api_Unit)), (∀ k, k ∈ xs → cnt k < cnt u ∧ To (fun n => slf n k id) ((pathO id k).getD [])) →
      To (fun n => M.unit_way_loop1 u id (slf n) xs) (match xs.findSome? (pathO id) with | none => .inl () | some w => .inr (u :: w)) := by
    intro xs
    induction xs with
    | nil => intro slf _; simp only [M.unit_way_loop1]; exact To.pure
    | cons x xs ih =>
      intro slf hs
      obtain ⟨h1, h2⟩ := hs x (by simp)
      simp only [M.unit_way_loop1]
      refine To.bind h2 ?_
      rw [List.findSome?_cons]
      cases hp : pathO id x with
      | none => exact To.neg (by simp) (ih slf fun k hk => hs k (by simp [hk]))
      | some w =>
        have hw := path_ne id x w hp
        have hl := path_len id x w hp
        refine To.pos (by simpa using hw) (To.bindS (appC_eq (by simp; omega)) (To.bindS (a := ()) (by simp [neC]) (To.pure.of (by simp))))
  refine To.succ ?_
  simp only [M.unit_way]
  rw [pathO_eq]
  by_cases hid : u.Id = id
  · exact To.pos hid (To.bindS (a := ()) (by simp [neC]) (To.pure.of (by simp [hid])))
  · refine To.neg hid (To.bind (loop u.Kids (fun n => M.unit_way n) fun k hk => ⟨cnt_kid hk, ih k hk (by have := cnt_kid hk; omega)⟩) ?_)
    rw [if_neg hid]
    cases u.Kids.findSome? (pathO id) with
    | none => exact To.pure
    | some w => exact To.pure

theorem copied_ok (u : api_Unit) : cnt u ≤ 10000 → labs u → To (fun n => M.unit_copied n u) u := by
  refine uind (P := fun u => cnt u ≤ 10000 → labs u → To (fun n => M.unit_copied n u) u) ?_ u
  intro u ih hc hl
  have loop : ∀ (xs : List api_Unit) (slf : Nat → api_Unit → Option api_Unit) (out : List api_Unit), (∀ k, k ∈ xs → To (fun n => slf n k) k) → out.length + xs.length ≤ 10000 → To (fun n => M.unit_copied_loop1 (slf n) xs out) (out ++ xs) := by
    intro xs
    induction xs with
    | nil => intro slf out _ _; simp only [M.unit_copied_loop1]; exact To.pure.of (by simp)
    | cons x xs ih =>
      intro slf out hs ho
      simp only [List.length_cons] at ho
      simp only [M.unit_copied_loop1]
      refine To.bind (hs x (by simp)) (To.bindS (appC_eq (by simp; omega)) ?_)
      exact (ih slf _ (fun k hk => hs k (by simp [hk])) (by simp; omega)).of (by simp)
  obtain ⟨h1, h2, h3⟩ := hl u (desc_self u)
  have hk := cnt_kids u
  refine To.succ ?_
  simp only [M.unit_copied, M.slices_Clone_api_Word_api_Word]
  refine To.bindS (appC_eq (by simp; omega)) (To.bindS (appC_eq (by simp; omega)) ?_)
  simp only [List.nil_append]
  exact To.bind (loop u.Kids (fun n => M.unit_copied n) [] (fun k hk => ih k hk (by have := cnt_kid hk; omega) (labs_kid hl hk)) (by simp; omega)) (To.pure.of (by rw [List.nil_append]; cases u; rfl))

theorem find_mem (id : api_Id) (u : api_Unit) : ∀ x, findO id u = some x → x ∈ desc u ∧ x.Id = id := by
  refine uind (P := fun u => ∀ x, findO id u = some x → x ∈ desc u ∧ x.Id = id) ?_ u
  intro u ih x h
  rw [findO_eq] at h
  split at h
  · cases h; exact ⟨desc_self u, by assumption⟩
  · obtain ⟨k, hk, he⟩ := List.exists_of_findSome?_eq_some h
    exact ⟨desc_kid hk (ih k hk x he).1, (ih k hk x he).2⟩

theorem find_some (id : api_Id) (u : api_Unit) : ∀ x, x ∈ desc u → x.Id = id → ∃ y, findO id u = some y := by
  refine uind (P := fun u => ∀ x, x ∈ desc u → x.Id = id → ∃ y, findO id u = some y) ?_ u
  intro u ih x hx he
  rw [findO_eq]
  split
  · exact ⟨_, rfl⟩
  · rename_i hn
    rw [desc_eq] at hx
    rcases List.mem_cons.1 hx with rfl | hx
    · exact absurd he hn
    · obtain ⟨k, h1, h2⟩ := List.mem_flatMap.1 hx
      obtain ⟨y, hy⟩ := ih k h1 x h2 he
      cases hf : u.Kids.findSome? (findO id) with
      | some z => exact ⟨z, rfl⟩
      | none =>
        have := List.findSome?_eq_none_iff.1 hf k h1
        rw [hy] at this; cases this

/-- What the searches hand back. -/
def findR (id : api_Id) (u : api_Unit) : api_Unit × Bool := match findO id u with
  | some x => (x, true)
  | none => (zapi_Unit, false)

theorem desc_sub {u x : api_Unit} (h : x ∈ desc u) : ∀ y, y ∈ desc x → y ∈ desc u := by
  refine uind (P := fun u => ∀ x, x ∈ desc u → ∀ y, y ∈ desc x → y ∈ desc u) ?_ u x h
  intro u ih x hx y hy
  rw [desc_eq] at hx
  rcases List.mem_cons.1 hx with rfl | hx
  · exact hy
  · obtain ⟨k, h1, h2⟩ := List.mem_flatMap.1 hx
    exact desc_kid h1 (ih k h1 x h2 y hy)

theorem cnt_sub {u x : api_Unit} (h : x ∈ desc u) : cnt x ≤ cnt u := by
  refine uind (P := fun u => ∀ x, x ∈ desc u → cnt x ≤ cnt u) ?_ u x h
  intro u ih x hx
  rw [desc_eq] at hx
  rcases List.mem_cons.1 hx with rfl | hx
  · exact Nat.le_refl _
  · obtain ⟨k, h1, h2⟩ := List.mem_flatMap.1 hx
    have := ih k h1 x h2
    have := cnt_kid h1
    omega

theorem labs_sub {u x : api_Unit} (h : x ∈ desc u) (hl : labs u) : labs x := fun y hy => hl y (desc_sub h y hy)

theorem find_u (id : api_Id) (u : api_Unit) (hc : cnt u ≤ 10000) (hl : labs u) : To (fun n => M.unit_Find n u id) (findR id u) := by
  simp only [M.unit_Find]
  refine To.bind (way_ok id u hc) ?_
  unfold findR
  rw [path_last]
  cases hp : pathO id u with
  | none => exact To.pos (by simp) To.pure
  | some w =>
    have hw := path_ne id u w hp
    have hlen := path_len id u w hp
    obtain ⟨x, hx⟩ : ∃ x, w.getLast? = some x := by
      cases w with
      | nil => exact absurd rfl hw
      | cons a b => exact ⟨_, List.getLast?_eq_some_getLast (by simp)⟩
    have hpos : 0 < w.length := List.length_pos_iff.2 hw
    have hf : findO id u = some x := by rw [path_last, hp]; exact hx
    have hm := (find_mem id u x hf).1
    simp only [Option.getD_some, Option.bind_some, hx]
    refine To.neg (by omega) (To.bindS (subC_eq (by omega) (by omega)) (To.bindS (a := x) ?_ (To.bind (copied_ok x (by have := cnt_sub hm; omega) (labs_sub hm hl)) To.pure)))
    rw [List.getLast?_eq_getElem?] at hx
    rw [show (w.length : Int) - 1 = ((w.length - 1 : Nat) : Int) by omega, idx_nat]
    exact hx

/-- The place of the first of a list of units that holds the unit. -/
def placeK (id : api_Id) (l : List api_Unit) : Nat := l.findIdx (fun k => (pathO id k).isSome)

/-- The last but one of a way. -/
def parW (id : api_Id) (w : List api_Unit) : api_Id × Int × Bool := match w.reverse with
  | _ :: p :: _ => (p.Id, ((placeK id p.Kids : Nat) : Int), true)
  | _ => (zapi_Id, -1, false)

/-- The parent of the first unit with an ID, and the unit's place there. -/
def parR (id : api_Id) (u : api_Unit) : api_Id × Int × Bool := match pathO id u with
  | some w => parW id w
  | none => (zapi_Id, -1, false)

theorem parW_cons (id : api_Id) (u : api_Unit) (w : List api_Unit) (h : 2 ≤ w.length) : parW id (u :: w) = parW id w := by
  unfold parW
  rw [List.reverse_cons]
  have : 2 ≤ w.reverse.length := by simpa using h
  match hw : w.reverse, this with
  | a :: b :: c, _ => rfl

theorem path_self {id : api_Id} {u : api_Unit} (h : u.Id = id) : pathO id u = some [u] := by rw [pathO_eq, if_pos h]

theorem path_two {id : api_Id} {u : api_Unit} {w : List api_Unit} (h : u.Id ≠ id) (hw : pathO id u = some w) : 2 ≤ w.length ∧ ∃ v, u.Kids.findSome? (pathO id) = some v ∧ w = u :: v := by
  rw [pathO_eq, if_neg h] at hw
  obtain ⟨v, hv, rfl⟩ := Option.map_eq_some_iff.1 hw
  obtain ⟨k, hk, he⟩ := List.exists_of_findSome?_eq_some hv
  have := List.length_pos_iff.2 (path_ne id k v he)
  exact ⟨by simp; omega, v, hv, rfl⟩

theorem path_none {id : api_Id} {u : api_Unit} (h : pathO id u = none) : u.Id ≠ id ∧ findO id u = none := by
  refine ⟨fun e => ?_, ?_⟩
  · rw [path_self e] at h; cases h
  · rw [path_last, h]; rfl

theorem path_find {id : api_Id} {u : api_Unit} {w : List api_Unit} (h : pathO id u = some w) : ∃ x, findO id u = some x := by
  rw [path_last, h]
  cases w with
  | nil => exact absurd rfl (path_ne id u [] h)
  | cons a b =>
    refine ⟨(a :: b).getLast (by simp), ?_⟩
    rw [Option.bind_some]
    exact List.getLast?_eq_some_getLast (by simp)

theorem indexK (l : List api_Unit) (p : api_Unit → Bool) (fs : Nat → api_Unit → Option Bool) (hf : ∀ k, k ∈ l → To (fun n => fs n k) (p k)) : To (fun n => M.slices_IndexFunc_api_Unit_api_Unit n l (fs n)) (if l.any p then ((l.findIdx p : Nat) : Int) else -1) := by
  have loop : ∀ (xs : List api_Unit) (fs : Nat → api_Unit → Option Bool) (i : Nat), l.drop i = xs → (∀ k, k ∈ xs → To (fun n => fs n k) (p k)) →
      To (fun n => M.slices_IndexFunc_api_Unit_api_Unit_loop1 l (fs n) n (i : Int)) (if xs.any p then .inr ((i + xs.findIdx p : Nat) : Int) else .inl ()) := by
    intro xs
    induction xs with
    | nil =>
      intro fs i hx _
      refine To.succ ?_
      simp only [M.slices_IndexFunc_api_Unit_api_Unit_loop1]
      exact To.neg (drop_end hx) (To.pure.of (by simp))
    | cons x xs ih =>
      intro fs i hx hs
      refine To.succ ?_
      simp only [M.slices_IndexFunc_api_Unit_api_Unit_loop1]
      refine To.pos (drop_lt hx) (To.bindS (drop_idx hx) (To.bind (hs x (by simp)).shift ?_))
      cases hp : p x with
      | true => exact To.pos rfl (To.pure.of (by simp [hp, List.findIdx_cons]))
      | false =>
        refine To.neg (by simp) ?_
        rw [cast_succ]
        refine (ih (fun n => fs (n + 1)) (i + 1) (drop_next hx) fun k hk => (hs k (by simp [hk])).shift).of ?_
        simp only [List.any_cons, hp, Bool.false_or, List.findIdx_cons, cond_false]
        split
        · congr 2; omega
        · rfl
  simp only [M.slices_IndexFunc_api_Unit_api_Unit]
  refine To.bind (loop l fs 0 rfl hf) ?_
  by_cases h : l.any p = true
  · rw [if_pos h, if_pos h]; exact To.pure.of (by simp)
  · rw [if_neg h, if_neg h]; exact To.pure

theorem par_path (id : api_Id) (u : api_Unit) : ∀ w, pathO id u = some w → 2 ≤ w.length → ∃ p, p ∈ desc u ∧ w[w.length - 2]? = some p ∧ (p.Kids.any fun k => (pathO id k).isSome) = true ∧ parW id w = (p.Id, ((placeK id p.Kids : Nat) : Int), true) := by
  refine uind (P := fun u => ∀ w, pathO id u = some w → 2 ≤ w.length → ∃ p, p ∈ desc u ∧ w[w.length - 2]? = some p ∧ (p.Kids.any fun k => (pathO id k).isSome) = true ∧ parW id w = (p.Id, ((placeK id p.Kids : Nat) : Int), true)) ?_ u
  intro u ih w hw h2
  by_cases hid : u.Id = id
  · rw [path_self hid] at hw
    cases hw
    simp at h2
  · obtain ⟨_, v, hv, rfl⟩ := path_two hid hw
    obtain ⟨k, hk, he⟩ := List.exists_of_findSome?_eq_some hv
    by_cases h3 : 2 ≤ v.length
    · obtain ⟨p, q0, q1, q2, q3⟩ := ih k hk v he h3
      refine ⟨p, desc_kid hk q0, ?_, q2, by rw [parW_cons id u v h3]; exact q3⟩
      rw [List.length_cons, show v.length + 1 - 2 = (v.length - 2) + 1 by omega, List.getElem?_cons_succ]
      exact q1
    · have hpos := List.length_pos_iff.2 (path_ne id k v he)
      have h1 : v.length = 1 := by omega
      match v, h1 with
      | [a], _ =>
        refine ⟨u, desc_self u, rfl, ?_, by simp [parW]⟩
        rw [List.any_eq_true]
        exact ⟨k, hk, by rw [he]; rfl⟩

theorem par_u (id : api_Id) (u : api_Unit) (hc : cnt u ≤ 10000) : To (fun n => M.unit_Parent n u id) (parR id u) := by
  simp only [M.unit_Parent]
  refine To.bind (way_ok id u hc) ?_
  unfold parR
  cases hp : pathO id u with
  | none => exact To.pos (by simp) To.pure
  | some w =>
    simp only [Option.getD_some]
    have hlen := path_len id u w hp
    by_cases h2 : w.length < 2
    · refine To.pos (by omega) (To.pure.of ?_)
      have hpos := List.length_pos_iff.2 (path_ne id u w hp)
      match w, hpos, h2 with
      | [a], _, _ => rfl
    · obtain ⟨p, q0, q1, q2, q3⟩ := par_path id u w hp (by omega)
      refine To.neg (by omega) (To.bindS (subC_eq (by omega) (by omega)) (To.bindS (a := p) ?_ ?_))
      · rw [show (w.length : Int) - 2 = ((w.length - 2 : Nat) : Int) by omega, idx_nat]
        exact q1
      · have hi := indexK p.Kids (fun k => (pathO id k).isSome) (fun n s0 => M.unit_Parent_1 n s0 id) (fun k hk => by
          simp only [M.unit_Parent_1]
          refine To.bind (way_ok id k (by have := cnt_kid hk; have := cnt_sub q0; omega)) (To.pure.of ?_)
          cases hk : pathO id k with
          | none => rfl
          | some v =>
            have := path_ne id k v hk
            cases v with
            | nil => exact absurd rfl this
            | cons a b => rfl)
        rw [if_pos q2] at hi
        refine To.bind hi (To.pure.of ?_)
        rw [q3]; rfl

theorem way_sub (u : api_Unit) : ∀ (p : List api_Step) (l : List api_Unit), (∀ x, x ∈ l → x ∈ desc u) → ∀ x, x ∈ way p l → x ∈ desc u
  | [], l, h, x, hx => h x hx
  | s :: p, l, h, x, hx => by
    refine way_sub u p (down s l) (fun y hy => ?_) x hx
    obtain ⟨z, hz, hk⟩ := List.mem_flatMap.1 (List.mem_filter.1 hy).1
    exact desc_sub (h z hz) y (mem_desc_kids hk)

theorem units_sub (u : api_Unit) (p : List api_Step) : ∀ x, x ∈ units u p → x ∈ desc u := by
  intro x hx
  unfold units at hx
  split at hx
  · split at hx
    · rw [List.mem_singleton.1 hx]; exact desc_self u
    · refine way_sub u _ _ (fun y hy => ?_) x hx
      split at hy
      · rw [List.mem_singleton.1 hy]; exact desc_self u
      · exact (List.mem_filter.1 hy).1
  · cases hx

theorem one_ok (u : api_Unit) (p : List api_Step) (h : (oneOf ((units u p).map api_Unit.Id)).2 = 0) : ∃ x, x ∈ desc u ∧ x.Id = (oneOf ((units u p).map api_Unit.Id)).1 := by
  cases hu : (units u p).map api_Unit.Id with
  | nil => rw [hu] at h; simp [oneOf] at h
  | cons a l =>
    cases l with
    | nil =>
      have : a ∈ (units u p).map api_Unit.Id := by rw [hu]; simp
      obtain ⟨x, hx, rfl⟩ := List.mem_map.1 this
      exact ⟨x, units_sub u p x hx, rfl⟩
    | cons b m => rw [hu] at h; simp [oneOf] at h

theorem par_root {id : api_Id} {u : api_Unit} (h : u.Id = id) : parR id u = (zapi_Id, -1, false) := by unfold parR; rw [path_self h]; rfl

theorem par_some {id : api_Id} {u x : api_Unit} (hx : x ∈ desc u) (he : x.Id = id) (h : u.Id ≠ id) : (parR id u).2.2 = true ∧ 0 ≤ (parR id u).2.1 ∧ (parR id u).2.1 ≤ cnt u := by
  obtain ⟨y, hy⟩ := find_some id u x hx he
  cases hp : pathO id u with
  | none => rw [(path_none hp).2] at hy; cases hy
  | some w =>
    obtain ⟨h2, _⟩ := path_two h hp
    obtain ⟨p, q0, _, _, q3⟩ := par_path id u w hp h2
    unfold parR
    rw [hp]
    simp only
    rw [q3]
    refine ⟨rfl, by simp, ?_⟩
    have h1 : placeK id p.Kids ≤ p.Kids.length := List.findIdx_le_length
    have h2 := cnt_kids p
    have h3 := cnt_sub q0
    simp only
    omega

theorem idx_getElem {α : Type} {l : List α} {i : Nat} (h : i < l.length) : idx l (i : Int) = some l[i] := by rw [idx_nat, List.getElem?_eq_getElem h]

/-- What is right with a single unit. -/
structure Fine (u : api_Unit) : Prop where
  kind : 0 ≤ u.Kind ∧ u.Kind ≤ 7
  label : u.Kind ≠ 0 → labB u.Label = true
  kids : ∀ k, k ∈ u.Kids → k.Kind ≠ 0
  apart : ∀ i j (hi : i < u.Kids.length) (hj : j < u.Kids.length), i < j → ¬ (u.Kids[i].Kind = u.Kids[j].Kind ∧ u.Kids[i].Label = u.Kids[j].Label)

/-- How many levels lie below. -/
def deep (u : api_Unit) : Nat := (u.Kids.attach.map (fun k => 1 + deep k.1)).foldl max 0
termination_by SizeOf.sizeOf u
decreasing_by exact kid_lt k.2

theorem deep_eq (u : api_Unit) : deep u = (u.Kids.map (fun k => 1 + deep k)).foldl max 0 := by
  rw [deep]
  congr 1
  rw [show (fun k : {x // x ∈ u.Kids} => 1 + deep k.1) = (fun k => 1 + deep k) ∘ Subtype.val from rfl, ← List.map_map, List.attach_map_subtype_val]

theorem foldl_max : ∀ (l : List Nat) (a : Nat), a ≤ l.foldl max a ∧ ∀ x, x ∈ l → x ≤ l.foldl max a
  | [], a => ⟨Nat.le_refl _, fun x h => by cases h⟩
  | y :: l, a => by
    obtain ⟨h1, h2⟩ := foldl_max l (max a y)
    refine ⟨by simp only [List.foldl_cons]; omega, fun x hx => ?_⟩
    rcases List.mem_cons.1 hx with rfl | hx
    · simp only [List.foldl_cons]; omega
    · exact h2 x hx

theorem deep_kid {u k : api_Unit} (h : k ∈ u.Kids) : deep k < deep u := by
  rw [deep_eq u]
  have := (foldl_max (u.Kids.map (fun k => 1 + deep k)) 0).2 (1 + deep k) (List.mem_map.2 ⟨k, h, rfl⟩)
  omega

structure Good (u : api_Unit) : Prop where
  fine : ∀ x, x ∈ desc u → Fine x
  deep : deep u ≤ 8
  apart : ((desc u).map api_Unit.Id).Nodup

theorem nodup_kid {u k : api_Unit} (h : ((desc u).map api_Unit.Id).Nodup) (hk : k ∈ u.Kids) : ((desc k).map api_Unit.Id).Nodup := by
  rw [desc_eq] at h
  simp only [List.map_cons, List.nodup_cons] at h
  have h2 := h.2
  rw [List.map_flatMap] at h2
  have : (u.Kids.map (fun k => (desc k).map api_Unit.Id)).flatten.Nodup := by rw [← List.flatMap_def]; exact h2
  rw [List.Nodup, List.pairwise_flatten] at this
  exact this.1 _ (List.mem_map.2 ⟨k, hk, rfl⟩)

theorem nodup_eq {u x y : api_Unit} (h : ((desc u).map api_Unit.Id).Nodup) (hx : x ∈ desc u) (hy : y ∈ desc u) (he : x.Id = y.Id) : x = y := by
  have : ∀ l : List api_Unit, (l.map api_Unit.Id).Nodup → x ∈ l → y ∈ l → x = y := by
    intro l
    induction l with
    | nil => intro _ hx; cases hx
    | cons z l ih =>
      intro hn hx hy
      simp only [List.map_cons, List.nodup_cons] at hn
      rcases List.mem_cons.1 hx with e1 | m1
      · rcases List.mem_cons.1 hy with e2 | m2
        · rw [e1, e2]
        · exact absurd (List.mem_map.2 ⟨y, m2, by rw [← he, e1]⟩) hn.1
      · rcases List.mem_cons.1 hy with e2 | m2
        · exact absurd (List.mem_map.2 ⟨x, m1, by rw [he, e2]⟩) hn.1
        · exact ih hn.2 m1 m2
  exact this _ h hx hy

theorem nodup_kids {u k j x y : api_Unit} (h : ((desc u).map api_Unit.Id).Nodup) (hk : k ∈ u.Kids) (hj : j ∈ u.Kids) (hx : x ∈ desc k) (hy : y ∈ desc j) (he : x.Id = y.Id) : ∃ z, k = z ∧ x ∈ desc j := by
  have := nodup_eq h (desc_kid hk hx) (desc_kid hj hy) he
  subst this
  exact ⟨k, rfl, hy⟩

/-- A unit below which another lies stands on the way to it. -/
theorem way_through (id : api_Id) (u : api_Unit) : ((desc u).map api_Unit.Id).Nodup → ∀ w, pathO id u = some w → ∀ z, z ∈ desc u → (∃ y, y ∈ desc z ∧ y.Id = id) → z ∈ w := by
  refine uind (P := fun u => ((desc u).map api_Unit.Id).Nodup → ∀ w, pathO id u = some w → ∀ z, z ∈ desc u → (∃ y, y ∈ desc z ∧ y.Id = id) → z ∈ w) ?_ u
  intro u ih hn w hw z hz hy
  have hz0 := hz
  rw [desc_eq] at hz
  rcases List.mem_cons.1 hz with rfl | hz
  · by_cases hid : z.Id = id
    · rw [path_self hid] at hw; cases hw; simp
    · obtain ⟨_, v, _, rfl⟩ := path_two hid hw; simp
  · obtain ⟨k, hk, hzk⟩ := List.mem_flatMap.1 hz
    obtain ⟨y, hyz, hye⟩ := hy
    by_cases hid : u.Id = id
    · exfalso
      have hyu := desc_sub hz0 y hyz
      have := nodup_eq hn hyu (desc_self u) (by rw [hye, hid])
      subst this
      have h1 := cnt_sub hyz
      have h2 := cnt_sub hzk
      have h3 := cnt_kid hk
      omega
    · obtain ⟨_, v, hv, rfl⟩ := path_two hid hw
      obtain ⟨j, hj, hje⟩ := List.exists_of_findSome?_eq_some hv
      obtain ⟨y2, hy2⟩ := path_find hje
      obtain ⟨hm, hi⟩ := find_mem id j y2 hy2
      have hyk := desc_sub hzk y hyz
      -- the kid that the way takes is the one that holds z
      have hzj : z ∈ desc j := by
        have e := nodup_eq hn (desc_kid hk hyk) (desc_kid hj hm) (by rw [hye, hi])
        subst e
        -- y lies in both kids
        have hkj : k = j := by
          have hnn := hn
          rw [desc_eq] at hnn
          simp only [List.map_cons, List.nodup_cons] at hnn
          have h2 := hnn.2
          rw [List.map_flatMap, List.flatMap_def] at h2
          rw [List.Nodup, List.pairwise_flatten] at h2
          have h3 := h2.2
          rw [List.pairwise_map] at h3
          obtain ⟨a, ha, hka⟩ := List.mem_iff_getElem.1 hk
          obtain ⟨b, hb, hjb⟩ := List.mem_iff_getElem.1 hj
          rw [List.pairwise_iff_getElem] at h3
          rcases Nat.lt_trichotomy a b with hlt | heq | hlt
          · exact absurd rfl (h3 a b ha hb hlt y.Id (by rw [hka]; exact List.mem_map.2 ⟨y, hyk, rfl⟩) y.Id (by rw [hjb]; exact List.mem_map.2 ⟨y, hm, rfl⟩))
          · subst heq; rw [← hka, ← hjb]
          · exact absurd rfl (h3 b a hb ha hlt y.Id (by rw [hjb]; exact List.mem_map.2 ⟨y, hm, rfl⟩) y.Id (by rw [hka]; exact List.mem_map.2 ⟨y, hyk, rfl⟩))
        rw [← hkj]; exact hzk
      exact List.mem_cons_of_mem _ (ih j hj (nodup_kid hn hj) v hje z hzj ⟨y, hyz, hye⟩)

theorem way_desc (id : api_Id) (u : api_Unit) : ∀ w, pathO id u = some w → ∀ z, z ∈ w → z ∈ desc u ∧ ∃ y, y ∈ desc z ∧ y.Id = id := by
  refine uind (P := fun u => ∀ w, pathO id u = some w → ∀ z, z ∈ w → z ∈ desc u ∧ ∃ y, y ∈ desc z ∧ y.Id = id) ?_ u
  intro u ih w hw z hz
  by_cases hid : u.Id = id
  · rw [path_self hid] at hw
    cases hw
    rw [List.mem_singleton.1 hz]
    exact ⟨desc_self u, u, desc_self u, hid⟩
  · obtain ⟨x, hx⟩ := path_find hw
    obtain ⟨hm, hi⟩ := find_mem id u x hx
    obtain ⟨_, v, hv, rfl⟩ := path_two hid hw
    rcases List.mem_cons.1 hz with rfl | hz
    · exact ⟨desc_self z, x, hm, hi⟩
    · obtain ⟨k, hk, he⟩ := List.exists_of_findSome?_eq_some hv
      obtain ⟨h1, h2⟩ := ih k hk v he z hz
      exact ⟨desc_kid hk h1, h2⟩

theorem way_end (id : api_Id) (u : api_Unit) : ∀ w, pathO id u = some w → ∃ x, w.getLast? = some x ∧ x.Id = id := by
  intro w hw
  obtain ⟨x, hx⟩ := path_find hw
  have h := path_last id u
  rw [hw, hx] at h
  exact ⟨x, h.symm, (find_mem id u x hx).2⟩

def stepOf (k : api_Unit) : api_Step := ⟨k.Kind, k.Label⟩

theorem path_head {id : api_Id} {u : api_Unit} {w : List api_Unit} (h : pathO id u = some w) : ∃ v, w = u :: v := by
  by_cases hid : u.Id = id
  · rw [path_self hid] at h; cases h; exact ⟨[], rfl⟩
  · obtain ⟨_, v, _, rfl⟩ := path_two hid h; exact ⟨v, rfl⟩

theorem path_deep (id : api_Id) (u : api_Unit) : ∀ w, pathO id u = some w → w.length ≤ deep u + 1 := by
  refine uind (P := fun u => ∀ w, pathO id u = some w → w.length ≤ deep u + 1) ?_ u
  intro u ih w h
  by_cases hid : u.Id = id
  · rw [path_self hid] at h; cases h; simp
  · obtain ⟨_, v, hv, rfl⟩ := path_two hid h
    obtain ⟨k, hk, he⟩ := List.exists_of_findSome?_eq_some hv
    have := ih k hk v he
    have := deep_kid hk
    simp only [List.length_cons]; omega

/-- The steps below the root, to the first unit with an ID. -/
def stepsO (id : api_Id) (u : api_Unit) : Option (List api_Step) := (pathO id u).map (fun w => w.tail.map stepOf)

theorem filter_one {l : List api_Unit} {k : api_Unit} (h : l.Pairwise (fun a b => ¬ (a.Kind = b.Kind ∧ a.Label = b.Label))) (hk : k ∈ l) : l.filter (fun x => calledB x (stepOf k)) = [k] := by
  have hcb : ∀ x, calledB x (stepOf k) = true ↔ (x.Kind = k.Kind ∧ x.Label = k.Label) := fun x => by unfold calledB stepOf; rw [Bool.and_eq_true, decide_eq_true_eq, beq_iff_eq]
  induction l with
  | nil => cases hk
  | cons y l ih =>
    have hp := List.pairwise_cons.1 h
    rcases List.mem_cons.1 hk with e | hk
    · subst e
      rw [List.filter_cons, if_pos ((hcb k).2 ⟨rfl, rfl⟩)]
      have : l.filter (fun x => calledB x (stepOf k)) = [] := by
        rw [List.filter_eq_nil_iff]
        intro x hx hc
        have := (hcb x).1 hc
        exact hp.1 x hx ⟨this.1.symm, this.2.symm⟩
      rw [this]
    · rw [List.filter_cons, if_neg (fun hc => hp.1 k hk ((hcb y).1 hc))]
      exact ih hp.2 hk

theorem Fine.pw {u : api_Unit} (h : Fine u) : u.Kids.Pairwise (fun a b => ¬ (a.Kind = b.Kind ∧ a.Label = b.Label)) := by
  rw [List.pairwise_iff_getElem]
  exact fun i j hi hj hij => h.apart i j hi hj hij

theorem way_steps (id : api_Id) (u : api_Unit) : (∀ x, x ∈ desc u → Fine x) → ∀ w x, pathO id u = some w → w.getLast? = some x → way (w.tail.map stepOf) [u] = [x] := by
  refine uind (P := fun u => (∀ x, x ∈ desc u → Fine x) → ∀ w x, pathO id u = some w → w.getLast? = some x → way (w.tail.map stepOf) [u] = [x]) ?_ u
  intro u ih hf w x hw hx
  by_cases hid : u.Id = id
  · rw [path_self hid] at hw
    cases hw
    simp at hx
    subst hx
    simp [way]
  · obtain ⟨_, v, hv, rfl⟩ := path_two hid hw
    obtain ⟨k, hk, he⟩ := List.exists_of_findSome?_eq_some hv
    obtain ⟨t, rfl⟩ := path_head he
    simp only [List.tail_cons, List.map_cons, way]
    have hd : down (stepOf k) [u] = [k] := by
      unfold down
      rw [List.flatMap_singleton]
      exact filter_one (hf u (desc_self u)).pw hk
    rw [hd]
    refine ih k hk (fun y hy => hf y (desc_kid hk hy)) _ x he ?_
    rw [List.getLast?_cons_cons] at hx
    exact hx

theorem steps_valid (id : api_Id) (u : api_Unit) : (∀ x, x ∈ desc u → Fine x) → ∀ w, pathO id u = some w → stepsB (w.tail.map stepOf) = true := by
  refine uind (P := fun u => (∀ x, x ∈ desc u → Fine x) → ∀ w, pathO id u = some w → stepsB (w.tail.map stepOf) = true) ?_ u
  intro u ih hf w hw
  by_cases hid : u.Id = id
  · rw [path_self hid] at hw; cases hw; rfl
  · obtain ⟨_, v, hv, rfl⟩ := path_two hid hw
    obtain ⟨k, hk, he⟩ := List.exists_of_findSome?_eq_some hv
    obtain ⟨t, rfl⟩ := path_head he
    have h1 := ih k hk (fun y hy => hf y (desc_kid hk hy)) _ he
    have hk0 := (hf u (desc_self u)).kids k hk
    have hfk := hf k (mem_desc_kids hk)
    have h2 := hfk.kind
    have h3 := hfk.label hk0
    simp only [List.tail_cons, List.map_cons, stepsB] at h1 ⊢
    have hb : stepB (stepOf k) = true := by
      unfold stepB
      simp only [stepOf]
      rw [h3, Bool.and_true, Bool.and_eq_true]
      exact ⟨decide_eq_true (by omega), decide_eq_true (by omega)⟩
    rw [hb, h1]; rfl

theorem units_full (u : api_Unit) (hg : Good u) (id : api_Id) (w : List api_Unit) (hw : pathO id u = some w) : ∃ x, x.Id = id ∧ units u ((⟨0, []⟩ : api_Step) :: w.tail.map stepOf) = [x] := by
  obtain ⟨x, hx, hxi⟩ := way_end id u w hw
  refine ⟨x, hxi, ?_⟩
  have hd := path_deep id u w hw
  have h8 := hg.deep
  obtain ⟨t, rfl⟩ := path_head hw
  have hv : validB ((⟨0, []⟩ : api_Step) :: (u :: t).tail.map stepOf) = true := by
    simp only [validB]
    rw [steps_valid id u hg.fine _ hw]
    simp [bookB]
    simp at hd
    omega
  unfold units
  rw [if_pos hv]
  simp only
  rw [if_pos (by simp [bookB])]
  exact way_steps id u hg.fine _ x hw hx

end Go.Proofs.Ytclepigknhoonaa
