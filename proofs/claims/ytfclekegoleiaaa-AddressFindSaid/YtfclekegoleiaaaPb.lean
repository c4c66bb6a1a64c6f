/-
  The checks that a law makes of its arguments first: they are total on small trees.
-/
import Derived.Test.YtfclekegoleiaaaPa
import Derived.Test.YtfclekegoleiaaaDec13
set_option linter.unusedVariables false
set_option linter.unusedSimpArgs false
namespace Go.Proofs.Ytfclekegoleiaaa
open Go Go.Dec

/-! ### Labels -/

def isDig (b : UInt8) : Bool := decide (48 ≤ b.toNat) && decide (b.toNat ≤ 57)
def isCap (b : UInt8) : Bool := decide (65 ≤ b.toNat) && decide (b.toNat ≤ 90)

/-- Which strings are labels. -/
def labB (s : Str) : Bool :=
  let d := (s.takeWhile isDig).length
  decide (1 ≤ d) && decide (d ≤ 4) && decide (s.head? ≠ some 48) && decide (s.length - d ≤ 3) && (s.drop d).all isCap

theorem digits03 (s : Str) : To (fun n => M.r03_digits n s) ((s.takeWhile isDig).length : Int) := by
  have loop : ∀ (xs : Str) (i : Nat), s.drop i = xs → To (fun n => M.r03_digits_loop1 s n (i : Int)) ((i + (xs.takeWhile isDig).length : Nat) : Int) := by
    intro xs
    induction xs with
    | nil =>
      intro i hx
      refine To.succ ?_
      simp only [M.r03_digits_loop1]
      exact To.neg (drop_end hx) (To.pure.of (by simp))
    | cons x xs ih =>
      intro i hx
      refine To.succ ?_
      simp only [M.r03_digits_loop1]
      refine To.pos (drop_lt hx) (To.bindS (drop_idx hx) ?_)
      by_cases h1 : 48 ≤ x.toNat
      · refine To.pos (by omega) (To.bindS (drop_idx hx) ?_)
        by_cases h2 : x.toNat ≤ 57
        · refine To.pos (by omega) ?_
          rw [cast_succ]
          refine (ih (i + 1) (drop_next hx)).of ?_
          rw [List.takeWhile_cons_of_pos (by simp [isDig, h1, h2]), List.length_cons]
          omega
        · refine To.neg (by omega) (To.pure.of ?_)
          rw [List.takeWhile_cons_of_neg (by simp [isDig]; omega)]; rfl
      · refine To.neg (by omega) (To.pure.of ?_)
        rw [List.takeWhile_cons_of_neg (by simp [isDig]; omega)]; rfl
  simp only [M.r03_digits]
  refine To.bind (loop s 0 rfl) (To.pure.of (by simp))

theorem may03 (s : Str) (hl : s.length ≤ 1000000000) : To (fun n => M.r03_May n s) (labB s) := by
  have hd : (s.takeWhile isDig).length ≤ s.length := by
    have := (List.takeWhile_sublist isDig (l := s)).length_le
    exact this
  have loop : ∀ (xs : Str) (i : Nat), s.drop i = xs → To (fun n => M.r03_May_loop1 s n (i : Int)) (if xs.all isCap then .inl () else .inr false) := by
    intro xs
    induction xs with
    | nil =>
      intro i hx
      refine To.succ ?_
      simp only [M.r03_May_loop1]
      exact To.neg (drop_end hx) (To.pure.of (by simp))
    | cons x xs ih =>
      intro i hx
      refine To.succ ?_
      simp only [M.r03_May_loop1]
      refine To.pos (drop_lt hx) (To.bindS (drop_idx hx) ?_)
      by_cases h1 : x.toNat < 65
      · refine To.pos (by omega) (To.pure.of ?_)
        rw [if_neg (by simp [isCap]; omega)]
      · refine To.neg (by omega) (To.bindS (drop_idx hx) ?_)
        by_cases h2 : 90 < x.toNat
        · refine To.pos (by omega) (To.pure.of ?_)
          rw [if_neg (by simp [isCap]; omega)]
        · refine To.neg (by omega) ?_
          rw [cast_succ]
          refine (ih (i + 1) (drop_next hx)).of ?_
          have : isCap x = true := by simp [isCap]; omega
          simp [this]
  generalize hdd : (s.takeWhile isDig).length = d at hd
  have hdig := digits03 s
  rw [hdd] at hdig
  simp only [M.r03_May]
  refine To.bind hdig ?_
  by_cases h1 : d < 1
  · refine To.bind (a := true) (To.pos (by omega) To.pure) (To.pos rfl (To.pure.of ?_))
    simp [labB, hdd]; omega
  by_cases h2 : 4 < d
  · refine To.bind (a := true) (To.neg (by omega) (To.pos (by omega) To.pure)) (To.pos rfl (To.pure.of ?_))
    simp [labB, hdd]; omega
  obtain ⟨x, xs, rfl⟩ : ∃ x xs, s = x :: xs := by
    cases s with
    | nil => simp at hd; omega
    | cons x xs => exact ⟨x, xs, rfl⟩
  by_cases h3 : x = 48
  · subst h3
    refine To.bind (a := true) (To.neg (by omega) (To.neg (by omega) (To.bindS idx_zero (To.pos rfl To.pure)))) (To.pos rfl (To.pure.of ?_))
    simp [labB]
  have h3' : ¬ ((x.toNat : Int) = 48) := by
    intro h
    exact h3 (UInt8.toNat_inj.1 (by have : (48 : UInt8).toNat = 48 := rfl; omega))
  by_cases h4 : 3 < (x :: xs).length - d
  · refine To.bind (a := true) (To.neg (by omega) (To.neg (by omega) (To.bindS idx_zero (To.neg h3' (To.bindS (subC_eq (by omega) (by omega)) (To.pure.of (by simp; simp at h4 hd; omega))))))) (To.pos rfl (To.pure.of ?_))
    simp only [labB, hdd]
    rw [decide_eq_false (show ¬ (x :: xs).length - d ≤ 3 by omega)]
    simp
  refine To.bind (a := false) (To.neg (by omega) (To.neg (by omega) (To.bindS idx_zero (To.neg h3' (To.bindS (subC_eq (by omega) (by omega)) (To.pure.of (by simp; simp at h4 hd; omega))))))) (To.neg (by simp) ?_)
  refine To.bind (loop _ d rfl) ?_
  simp only [labB, hdd]
  rw [decide_eq_true (show 1 ≤ d by omega), decide_eq_true (show d ≤ 4 by omega), decide_eq_true (show (x :: xs).length - d ≤ 3 by omega), decide_eq_true (show (x :: xs).head? ≠ some 48 by simpa using h3)]
  by_cases h5 : ((x :: xs).drop d).all isCap = true
  · rw [if_pos h5]; exact To.pure.of (by rw [h5]; rfl)
  · rw [if_neg h5]
    exact To.pure.of (by simp only [Bool.not_eq_true] at h5; rw [h5]; rfl)

/-- The search for a rune of which p holds, where p holds of all that lies above ASCII. -/
theorem idxfun (s : Str) (f : Int → Option Bool) (p : UInt8 → Bool) (hf : ∀ b : UInt8, b.toNat < 128 → f (b.toNat : Int) = some (p b)) (hh : ∀ r : Nat, 128 ≤ r → f (r : Int) = some true) (hp : ∀ b : UInt8, 128 ≤ b.toNat → p b = true) :
    To (fun n => M.strings_IndexFunc n s f) (if s.any p then (((s.takeWhile fun b => !p b).length : Nat) : Int) else -1) := by
  have loop : ∀ (xs : Str) (i : Nat), s.drop i = xs → ∃ v, To (fun n => M.strings_indexFunc_loop1 s f true n i) (if xs.any p then .inr ((i + (xs.takeWhile fun b => !p b).length : Nat) : Int) else .inl v) := by
    intro xs
    induction xs with
    | nil =>
      intro i hx
      have := List.drop_eq_nil_iff.1 hx
      refine ⟨i, To.succ ?_⟩
      simp only [M.strings_indexFunc_loop1]
      exact To.neg (by omega) (To.pure.of (by simp))
    | cons x xs ih =>
      intro i hx
      obtain ⟨h1, h2, h3⟩ := drop_cons hx
      have hxi : s[i] = x := by rw [List.getElem?_eq_getElem h1] at h2; exact Option.some.inj h2
      by_cases ha : x.toNat < 128
      · have hr := runeAt_ascii h1 (by rw [hxi]; exact ha)
        rw [hxi] at hr
        obtain ⟨v, hv⟩ := ih (i + 1) h3
        refine ⟨v, To.succ ?_⟩
        simp only [M.strings_indexFunc_loop1]
        refine To.pos h1 ?_
        rw [hr]
        refine To.bindS (hf x ha) ?_
        cases hpx : p x with
        | true => exact To.pos rfl (To.pure.of (by simp [hpx]))
        | false =>
          refine To.neg (by simp) (hv.of ?_)
          have tw : (x :: xs).takeWhile (fun b => !p b) = x :: xs.takeWhile (fun b => !p b) := List.takeWhile_cons_of_pos (by simp [hpx])
          rw [tw]
          simp only [List.any_cons, hpx, Bool.false_or, List.length_cons]
          split
          · congr 1; omega
          · rfl
      · obtain ⟨q1, q2⟩ := runeAt_high h1 (by rw [hxi]; omega)
        have hpx := hp x (by omega)
        refine ⟨0, To.succ ?_⟩
        simp only [M.strings_indexFunc_loop1]
        refine To.pos h1 (To.bindS (hh _ q1) (To.pos rfl (To.pure.of (by simp [hpx]))))
  obtain ⟨v, hv⟩ := loop s 0 rfl
  simp only [M.strings_IndexFunc, M.strings_indexFunc]
  by_cases h : s.any p = true
  · rw [if_pos h] at hv ⊢
    exact To.bind (To.bind hv To.pure) (To.pure.of (by simp))
  · rw [if_neg h] at hv ⊢
    exact To.bind (To.bind hv To.pure) To.pure

theorem tw_all {α : Type} {p : α → Bool} : ∀ {l : List α}, (∀ b, b ∈ l → p b = true) → l.takeWhile p = l
  | [], _ => rfl
  | x :: l, h => by rw [List.takeWhile_cons_of_pos (h x (by simp)), tw_all fun b hb => h b (by simp [hb])]
theorem tw_not (s : Str) : (s.takeWhile fun b => !(!isDig b)) = s.takeWhile isDig := by simp

theorem parted_ok (s : Str) : To (fun n => M.label_parted n s) (s.take (s.takeWhile isDig).length, s.drop (s.takeWhile isDig).length) := by
  have h := idxfun s (fun s0 => M.label_parted_1 s0) (fun b => !isDig b) (fun b hb => by
    simp only [M.label_parted_1, isDig]
    split
    · simp; omega
    · congr 1; rw [Bool.eq_iff_iff]; simp; omega) (fun r hr => by
    simp only [M.label_parted_1]
    rw [if_neg (by omega)]; congr 1; simp; omega) (fun b hb => by simp [isDig]; omega)
  have hd : (s.takeWhile isDig).length ≤ s.length := (List.takeWhile_sublist isDig (l := s)).length_le
  simp only [M.label_parted]
  refine To.bind h ?_
  rw [tw_not]
  by_cases ha : (s.any fun b => !isDig b) = true
  · rw [if_pos ha]
    refine To.neg (by omega) (To.bindS (a := s.take (s.takeWhile isDig).length) ?_ (To.bindS (a := s.drop (s.takeWhile isDig).length) ?_ To.pure))
    · simp [slcHi, hd]
    · simp [slcLo, hd]
  · rw [if_neg ha]
    refine To.pos (by omega) (To.pure.of ?_)
    have hall : s.takeWhile isDig = s := by
      refine tw_all fun b hb => ?_
      simp only [Bool.not_eq_true, List.any_eq_false] at ha
      have := ha b hb
      simpa using this
    rw [hall]; simp

theorem label_ok (s : Str) : To (fun n => M.label_Valid n s) (labB s) := by
  have hd : (s.takeWhile isDig).length ≤ s.length := (List.takeWhile_sublist isDig (l := s)).length_le
  have h := parted_ok s
  generalize hdd : (s.takeWhile isDig).length = d at hd h
  have hc := idxfun (s.drop d) (fun s0 => M.label_Valid_1 s0) (fun b => !isCap b) (fun b hb => by
    simp only [M.label_Valid_1, isCap]
    split
    · simp; omega
    · congr 1; rw [Bool.eq_iff_iff]; simp; omega) (fun r hr => by
    simp only [M.label_Valid_1]
    rw [if_neg (by omega)]; congr 1; simp; omega) (fun b hb => by simp [isCap]; omega)
  simp only [M.label_Valid]
  refine To.bind h ?_
  dsimp only
  have hl : ((s.take d).length : Int) = d := by rw [List.length_take]; omega
  have hl2 : (((s.drop d).length : Nat) : Int) = ((s.length - d : Nat) : Int) := by rw [List.length_drop]
  by_cases h1 : d < 1
  · exact To.neg (by omega) (To.pure.of (by simp [labB, hdd]; omega))
  refine To.pos (by omega) ?_
  by_cases h2 : 4 < d
  · exact To.neg (by omega) (To.pure.of (by simp [labB, hdd]; omega))
  refine To.pos (by omega) ?_
  obtain ⟨x, xs, rfl⟩ : ∃ x xs, s = x :: xs := by
    cases s with
    | nil => simp at hd; omega
    | cons x xs => exact ⟨x, xs, rfl⟩
  have hx : idx ((x :: xs).take d) (0 : Int) = some x := by
    obtain ⟨e, rfl⟩ : ∃ e, d = e + 1 := ⟨d - 1, by omega⟩
    simp [idx]
  refine To.bindS hx ?_
  by_cases h3 : x = 48
  · subst h3
    exact To.neg (by simp) (To.pure.of (by simp [labB]))
  have h3' : (x.toNat : Int) ≠ 48 := by
    intro h
    exact h3 (UInt8.toNat_inj.1 (by have : (48 : UInt8).toNat = 48 := rfl; omega))
  refine To.pos h3' ?_
  simp only [labB, hdd]
  rw [decide_eq_true (show 1 ≤ d by omega), decide_eq_true (show d ≤ 4 by omega), decide_eq_true (show (x :: xs).head? ≠ some 48 by simpa using h3)]
  by_cases h4 : 3 < (x :: xs).length - d
  · refine To.neg (by omega) (To.pure.of ?_)
    rw [decide_eq_false (show ¬ (x :: xs).length - d ≤ 3 by omega)]
    simp
  refine To.pos (by omega) ?_
  rw [decide_eq_true (show (x :: xs).length - d ≤ 3 by omega)]
  simp only [M.strings_ContainsFunc]
  refine To.bind (To.bind hc To.pure) (To.pure.of ?_)
  have he : (((x :: xs).drop d).any fun b => !isCap b) = !(((x :: xs).drop d).all isCap) := by rw [List.not_all_eq_any_not]
  rw [he]
  cases ((x :: xs).drop d).all isCap <;> simp <;> omega

/-! ### Small trees -/

theorem alone_tot (u : api_Unit) (hl : u.Label.length ≤ 1000000000) : Tot (fun n => M.r06_alone n u) := by
  simp only [M.r06_alone]
  refine Tot.bind ?_ fun a _ => Tot.ite (fun _ => Tot.pure) fun _ => Tot.ite (fun _ => Tot.bind ?_ fun _ _ => Tot.pure) fun _ => Tot.bind (may03 _ hl).tot fun _ _ => Tot.pure
  · refine Tot.ite (fun _ => Tot.pure) fun _ => Tot.ite (fun _ => Tot.pure) fun _ => Tot.ite (fun _ => Tot.pure) fun _ => Tot.bind (row_tot _) fun a _ => Tot.ite (fun _ => Tot.pure) fun _ => Tot.bind (row_tot _) fun _ _ => Tot.pure
  · exact Tot.ite (fun _ => Tot.ite (fun _ => Tot.pure) fun _ => Tot.pure) fun _ => Tot.pure

theorem nests_tot (p k : Int) : ∃ b, M.r06_Nests p k = some b := by
  simp only [M.r06_Nests]
  repeat' split
  all_goals first | exact ⟨_, rfl⟩ | skip
  all_goals simp only [Option.bind_some]
  all_goals (repeat' split)
  all_goals exact ⟨_, rfl⟩

theorem mem_desc_kids {u k : api_Unit} (hk : k ∈ u.Kids) : k ∈ desc u := desc_kid hk (desc_self k)

theorem right2_tot (u : api_Unit) (i : Nat) (hi : i < u.Kids.length) (hb : u.Kids.length ≤ 1000000) : ∀ (d k : Nat), i - k ≤ d → Tot (fun n => M.r06_Right_loop2 u (i : Int) n (k : Int)) := by
  intro d
  induction d with
  | zero =>
    intro k hk
    refine Tot.succ ?_
    simp only [M.r06_Right_loop2]
    exact Tot.neg (by omega) Tot.pure
  | succ d ih =>
    intro k hk
    refine Tot.succ ?_
    simp only [M.r06_Right_loop2]
    by_cases h : k < i
    · obtain ⟨x, hx, _⟩ := idx_some (l := u.Kids) (i := (k : Int)) (by omega) (by omega)
      obtain ⟨y, hy, _⟩ := idx_some (l := u.Kids) (i := (i : Int)) (by omega) (by omega)
      refine Tot.pos (by omega) (Tot.bindS hx (Tot.bindS hy (Tot.ite (fun _ => Tot.bindS hx (Tot.bindS hy (Tot.ite (fun _ => Tot.pure) fun _ => Tot.bindS (addC_succ (by omega)) (ih (k + 1) (by omega))))) fun _ => Tot.bindS (addC_succ (by omega)) (ih (k + 1) (by omega)))))
    · exact Tot.neg (by omega) Tot.pure

theorem right_tot (u : api_Unit) : cnt u ≤ 1000000 → labs u → Tot (fun n => M.r06_Right n u) := by
  refine uind (P := fun u => cnt u ≤ 1000000 → labs u → Tot (fun n => M.r06_Right n u)) ?_ u
  intro u ih hc hl
  have hk := cnt_kids u
  have loop : ∀ (xs : List api_Unit) (slf : Nat → api_Unit → Option Bool) (i : Nat), u.Kids.drop i = xs → (∀ k, k ∈ xs → Tot (fun n => slf n k)) → Tot (fun n => M.r06_Right_loop1 u (slf n) n (i : Int)) := by
    intro xs
    induction xs with
    | nil =>
      intro slf i hx hs
      refine Tot.succ ?_
      simp only [M.r06_Right_loop1]
      exact Tot.neg (drop_end hx) Tot.pure
    | cons x xs ih =>
      intro slf i hx hs
      obtain ⟨b, hb⟩ := nests_tot u.Kind x.Kind
      have hi := (drop_cons hx).1
      refine Tot.succ ?_
      simp only [M.r06_Right_loop1]
      refine Tot.pos (drop_lt hx) (Tot.bindS (drop_idx hx) (Tot.bindS hb (Tot.ite (fun _ => Tot.pure) fun _ => Tot.bindS (drop_idx hx) (Tot.bind (hs x (by simp)).shift fun a _ => Tot.ite (fun _ => Tot.pure) fun _ => Tot.bind (right2_tot u i hi (by omega) i 0 (by omega)) fun c _ => ?_))))
      cases c with
      | inl _ => exact Tot.bindS (addC_succ (by omega)) (ih (fun n => slf (n + 1)) (i + 1) (drop_next hx) (fun k hk => (hs k (by simp [hk])).shift))
      | inr _ => exact Tot.pure
  refine Tot.succ ?_
  simp only [M.r06_Right]
  refine Tot.bind (alone_tot u (by have := hl u (desc_self u); omega)) fun a _ => Tot.ite (fun _ => Tot.pure) fun _ => Tot.bind (loop u.Kids (fun n => M.r06_Right n) 0 rfl (fun k hk => ih k hk (by have := cnt_kid hk; omega) (labs_kid hl hk))) fun b _ => ?_
  cases b <;> exact Tot.pure

theorem depth_ok (u : api_Unit) : cnt u ≤ 1000000 → ∃ d : Nat, To (fun n => M.r06_Depth n u) (d : Int) ∧ d ≤ cnt u := by
  refine uind (P := fun u => cnt u ≤ 1000000 → ∃ d : Nat, To (fun n => M.r06_Depth n u) (d : Int) ∧ d ≤ cnt u) ?_ u
  intro u ih hc
  have loop : ∀ (xs : List api_Unit) (slf : Nat → api_Unit → Option Int) (i d : Nat), u.Kids.drop i = xs → (∀ k, k ∈ xs → ∃ d : Nat, To (fun n => slf n k) (d : Int) ∧ d ≤ cnt k) → (∀ k, k ∈ xs → cnt k < cnt u) → d ≤ cnt u →
      ∃ e : Nat, To (fun n => M.r06_Depth_loop1 u (slf n) n (d : Int) (i : Int)) (e : Int) ∧ e ≤ cnt u := by
    intro xs
    induction xs with
    | nil =>
      intro slf i d hx hs _ hd
      refine ⟨d, To.succ ?_, hd⟩
      simp only [M.r06_Depth_loop1]
      exact To.neg (drop_end hx) To.pure
    | cons x xs ih =>
      intro slf i d hx hs hk hd
      obtain ⟨e, he, hle⟩ := hs x (by simp)
      have := hk x (by simp)
      obtain ⟨f, hf, hlf⟩ := ih (fun n => slf (n + 1)) (i + 1) (max d (1 + e)) (drop_next hx) (fun k hk => by
        obtain ⟨d, h1, h2⟩ := hs k (by simp [hk])
        exact ⟨d, h1.shift, h2⟩) (fun k h => hk k (by simp [h])) (by omega)
      refine ⟨f, To.succ ?_, hlf⟩
      simp only [M.r06_Depth_loop1]
      refine To.pos (drop_lt hx) (To.bindS (drop_idx hx) (To.bind he.shift (To.bindS (addC_eq (by omega) (by omega)) ?_)))
      rw [cast_succ, show max (d : Int) (1 + (e : Int)) = ((max d (1 + e) : Nat) : Int) by omega]
      exact hf
  obtain ⟨d, h1, h2⟩ := loop u.Kids (fun n => M.r06_Depth n) 0 0 rfl (fun k hk => ih k hk (by have := cnt_kid hk; omega)) (fun k hk => cnt_kid hk) (by omega)
  refine ⟨d, To.succ ?_, h2⟩
  simp only [M.r06_Depth]
  exact To.bind h1 To.pure

theorem count_ok (u : api_Unit) : cnt u ≤ 1000000 → To (fun n => M.r06_Count n u) (cnt u : Int) := by
  refine uind (P := fun u => cnt u ≤ 1000000 → To (fun n => M.r06_Count n u) (cnt u : Int)) ?_ u
  intro u ih hc
  have loop : ∀ (xs : List api_Unit) (slf : Nat → api_Unit → Option Int) (i d : Nat), u.Kids.drop i = xs → (∀ k, k ∈ xs → To (fun n => slf n k) (cnt k : Int)) → d + (xs.map cnt).sum ≤ 1000000 →
      To (fun n => M.r06_Count_loop1 u (slf n) n (d : Int) (i : Int)) ((d + (xs.map cnt).sum : Nat) : Int) := by
    intro xs
    induction xs with
    | nil =>
      intro slf i d hx hs hd
      refine To.succ ?_
      simp only [M.r06_Count_loop1]
      exact To.neg (drop_end hx) (To.pure.of (by simp))
    | cons x xs ih =>
      intro slf i d hx hs hd
      simp only [List.map_cons, List.sum_cons] at hd
      refine To.succ ?_
      simp only [M.r06_Count_loop1]
      refine To.pos (drop_lt hx) (To.bindS (drop_idx hx) (To.bind (hs x (by simp)).shift (To.bindS (addC_eq (by omega) (by omega)) ?_)))
      rw [cast_succ, show (d : Int) + (cnt x : Int) = ((d + cnt x : Nat) : Int) by omega]
      refine (ih (fun n => slf (n + 1)) (i + 1) (d + cnt x) (drop_next hx) (fun k hk => (hs k (by simp [hk])).shift) (by omega)).of ?_
      simp only [List.map_cons, List.sum_cons]
      congr 1; omega
  have he := cnt_eq u
  refine To.succ ?_
  simp only [M.r06_Count]
  refine To.bind (loop u.Kids (fun n => M.r06_Count n) 0 1 rfl (fun k hk => ih k hk (by have := cnt_kid hk; omega)) (by omega)) (To.pure.of (by rw [he]))

theorem all_ok (u : api_Unit) : cnt u ≤ 1000000 → To (fun n => M.r06_All n u) ((desc u).map api_Unit.Id) := by
  refine uind (P := fun u => cnt u ≤ 1000000 → To (fun n => M.r06_All n u) ((desc u).map api_Unit.Id)) ?_ u
  intro u ih hc
  have loop : ∀ (xs : List api_Unit) (slf : Nat → api_Unit → Option (List api_Id)) (i : Nat) (out : List api_Id), u.Kids.drop i = xs → (∀ k, k ∈ xs → To (fun n => slf n k) ((desc k).map api_Unit.Id)) → out.length + (xs.map cnt).sum ≤ 1000000 →
      To (fun n => M.r06_All_loop1 u (slf n) n out (i : Int)) (out ++ (xs.flatMap desc).map api_Unit.Id) := by
    intro xs
    induction xs with
    | nil =>
      intro slf i out hx hs hd
      refine To.succ ?_
      simp only [M.r06_All_loop1]
      exact To.neg (drop_end hx) (To.pure.of (by simp))
    | cons x xs ih =>
      intro slf i out hx hs hd
      simp only [List.map_cons, List.sum_cons] at hd
      refine To.succ ?_
      simp only [M.r06_All_loop1]
      have hlen : ((desc x).map api_Unit.Id).length = cnt x := by simp [cnt]
      refine To.pos (drop_lt hx) (To.bindS (drop_idx hx) (To.bind (hs x (by simp)).shift (To.bindS (appC_eq (by omega)) ?_)))
      rw [cast_succ]
      refine (ih (fun n => slf (n + 1)) (i + 1) _ (drop_next hx) (fun k hk => (hs k (by simp [hk])).shift) (by rw [List.length_append]; omega)).of ?_
      simp
  have he := cnt_eq u
  refine To.succ ?_
  simp only [M.r06_All]
  refine To.bind (loop u.Kids (fun n => M.r06_All n) 0 [u.Id] rfl (fun k hk => ih k hk (by have := cnt_kid hk; omega)) (by simp; omega)) (To.pure.of (by rw [desc_eq u]; simp))

theorem ids3_tot (all : List api_Id) (i : Nat) (hi : i < all.length) (hb : all.length ≤ 1000000) : ∀ (d k : Nat), i - k ≤ d → Tot (fun n => M.r06_Ids_loop3 all (i : Int) n (k : Int)) := by
  intro d
  induction d with
  | zero =>
    intro k hk
    refine Tot.succ ?_
    simp only [M.r06_Ids_loop3]
    exact Tot.neg (by omega) Tot.pure
  | succ d ih =>
    intro k hk
    refine Tot.succ ?_
    simp only [M.r06_Ids_loop3]
    by_cases h : k < i
    · obtain ⟨x, hx, _⟩ := idx_some (l := all) (i := (k : Int)) (by omega) (by omega)
      obtain ⟨y, hy, _⟩ := idx_some (l := all) (i := (i : Int)) (by omega) (by omega)
      exact Tot.pos (by omega) (Tot.bindS hx (Tot.bindS hy (Tot.ite (fun _ => Tot.pure) fun _ => Tot.bindS (addC_succ (by omega)) (ih (k + 1) (by omega)))))
    · exact Tot.neg (by omega) Tot.pure

theorem ids2_tot (all : List api_Id) (hb : all.length ≤ 1000000) : ∀ (xs : List api_Id) (i : Nat), all.drop i = xs → Tot (fun n => M.r06_Ids_loop2 all n (i : Int)) := by
  intro xs
  induction xs with
  | nil =>
    intro i hx
    refine Tot.succ ?_
    simp only [M.r06_Ids_loop2]
    exact Tot.neg (drop_end hx) Tot.pure
  | cons x xs ih =>
    intro i hx
    have hi := (drop_cons hx).1
    refine Tot.succ ?_
    simp only [M.r06_Ids_loop2]
    refine Tot.pos (drop_lt hx) (Tot.bind (ids3_tot all i hi hb i 0 (by omega)) fun c _ => ?_)
    cases c with
    | inl _ => exact Tot.bindS (addC_succ (by omega)) (ih (i + 1) (drop_next hx))
    | inr _ => exact Tot.pure

theorem ids1_tot (all : List api_Id) : ∀ (xs : List api_Id) (i : Nat) (b : Bool), all.drop i = xs → Tot (fun n => M.r06_Ids_loop1 all n b (i : Int)) := by
  intro xs
  induction xs with
  | nil =>
    intro i b hx
    refine Tot.succ ?_
    simp only [M.r06_Ids_loop1]
    exact Tot.neg (drop_end hx) Tot.pure
  | cons x xs ih =>
    intro i b hx
    refine Tot.succ ?_
    simp only [M.r06_Ids_loop1]
    rw [cast_succ]
    exact Tot.pos (drop_lt hx) (Tot.ite (fun _ => Tot.bindS (drop_idx hx) (ih (i + 1) _ (drop_next hx))) fun _ => ih (i + 1) _ (drop_next hx))

theorem ids_tot (u : api_Unit) (hc : cnt u ≤ 1000000) : Tot (fun n => M.r06_Ids n u) := by
  have hl : ((desc u).map api_Unit.Id).length ≤ 1000000 := by simpa [cnt] using hc
  simp only [M.r06_Ids]
  refine Tot.bind (all_ok u hc).tot fun a ha => ?_
  obtain rfl := ha.det (all_ok u hc)
  refine Tot.bind (ids1_tot _ _ 0 true rfl) fun b _ => Tot.ite (fun _ => Tot.pure) fun _ => ?_
  have h0 : idx ((desc u).map api_Unit.Id) 0 = some u.Id := by rw [desc_eq]; simp [idx]
  refine Tot.bindS h0 (Tot.ite (fun _ => Tot.pure) fun _ => Tot.bind (ids2_tot _ hl _ 0 rfl) fun c _ => ?_)
  cases c <;> exact Tot.pure

theorem named_tot (u : api_Unit) : Tot (fun n => M.r08_named n u) := by
  refine uind (P := fun u => Tot (fun n => M.r08_named n u)) ?_ u
  intro u ih
  have loop : ∀ (xs : List api_Unit) (slf : Nat → api_Unit → Option Bool) (i : Nat), u.Kids.drop i = xs → (∀ k, k ∈ xs → Tot (fun n => slf n k)) → Tot (fun n => M.r08_named_loop1 u (slf n) n (i : Int)) := by
    intro xs
    induction xs with
    | nil =>
      intro slf i hx hs
      refine Tot.succ ?_
      simp only [M.r08_named_loop1]
      exact Tot.neg (drop_end hx) Tot.pure
    | cons x xs ih =>
      intro slf i hx hs
      refine Tot.succ ?_
      simp only [M.r08_named_loop1]
      refine Tot.pos (drop_lt hx) (Tot.bindS (drop_idx hx) (Tot.bind (hs x (by simp)).shift fun a _ => Tot.ite (fun _ => Tot.pure) fun _ => ?_))
      rw [cast_succ]
      exact ih (fun n => slf (n + 1)) (i + 1) (drop_next hx) (fun k hk => (hs k (by simp [hk])).shift)
  refine Tot.succ ?_
  simp only [M.r08_named]
  refine Tot.bind (Tot.ite (fun _ => Tot.pure) fun _ => Tot.pure) fun a _ => Tot.ite (fun _ => Tot.pure) fun _ => Tot.bind (loop u.Kids (fun n => M.r08_named n) 0 rfl ih) fun b _ => ?_
  cases b <;> exact Tot.pure

theorem stands_tot (u : api_Unit) (hc : cnt u ≤ 1000000) (hl : labs u) : Tot (fun n => M.r08_Stands n u) := by
  obtain ⟨d, hd, _⟩ := depth_ok u hc
  simp only [M.r08_Stands, M.r06_May]
  refine Tot.bind ?_ fun _ _ => Tot.ite (fun _ => Tot.bind (named_tot u) fun _ _ => Tot.pure) fun _ => Tot.pure
  exact Tot.bind (right_tot u hc hl) fun _ _ => Tot.ite (fun _ => Tot.bind hd.tot fun _ _ => Tot.ite (fun _ => Tot.bind (count_ok u hc).tot fun _ _ => Tot.ite (fun _ => Tot.bind (ids_tot u hc) fun _ _ => Tot.pure) fun _ => Tot.pure) fun _ => Tot.pure) fun _ => Tot.pure

/-- What the laws on targets ask of a tree. -/
theorem book_ok (u : api_Unit) : ∃ b, To (fun n => M.law21_book n u) b ∧ (b = true → cnt u ≤ 30 ∧ labs u ∧ To (fun n => M.r08_Stands n u) true) := by
  obtain ⟨b, hb, h⟩ := few_ok u 30 (by omega) (by omega)
  cases b with
  | false =>
    refine ⟨false, ?_, fun h => by cases h⟩
    simp only [M.law21_book]
    exact To.bind hb (To.neg (by simp) To.pure)
  | true =>
    obtain ⟨h1, h2⟩ := h rfl
    obtain ⟨s, hs⟩ := stands_tot u (by omega) h2
    refine ⟨s, ?_, fun e => ⟨by omega, h2, e ▸ hs⟩⟩
    simp only [M.law21_book]
    exact To.bind hb (To.pos rfl (To.bind hs To.pure))

theorem few17_1 (x : api_Item) : ∀ (xs : List Str) (i : Nat), x.Old.drop i = xs → To (fun n => M.r17_Few_loop1 x n (i : Int)) (.inr false) ∨ (To (fun n => M.r17_Few_loop1 x n (i : Int)) (.inl ()) ∧ ∀ y, y ∈ xs → y.length ≤ 100) := by
  intro xs
  induction xs with
  | nil => intro i hx; refine .inr ⟨To.succ ?_, fun y h => by cases h⟩; simp only [M.r17_Few_loop1]; exact To.neg (drop_end hx) To.pure
  | cons y xs ih =>
    intro i hx
    by_cases h : 100 < y.length
    · refine .inl (To.succ ?_); simp only [M.r17_Few_loop1]
      exact To.pos (drop_lt hx) (To.bindS (drop_idx hx) (To.pos (by omega) To.pure))
    · rcases ih (i + 1) (drop_next hx) with h1 | ⟨h1, h2⟩
      · refine .inl (To.succ ?_); simp only [M.r17_Few_loop1]
        rw [cast_succ]
        exact To.pos (drop_lt hx) (To.bindS (drop_idx hx) (To.neg (by omega) h1))
      · refine .inr ⟨To.succ ?_, fun z hz => ?_⟩
        · simp only [M.r17_Few_loop1]
          rw [cast_succ]
          exact To.pos (drop_lt hx) (To.bindS (drop_idx hx) (To.neg (by omega) h1))
        · rcases List.mem_cons.1 hz with rfl | hz
          · omega
          · exact h2 z hz

theorem few17_2 (x : api_Item) : ∀ (xs : List Str) (i : Nat), x.New.drop i = xs → To (fun n => M.r17_Few_loop2 x n (i : Int)) (.inr false) ∨ (To (fun n => M.r17_Few_loop2 x n (i : Int)) (.inl ()) ∧ ∀ y, y ∈ xs → y.length ≤ 100) := by
  intro xs
  induction xs with
  | nil => intro i hx; refine .inr ⟨To.succ ?_, fun y h => by cases h⟩; simp only [M.r17_Few_loop2]; exact To.neg (drop_end hx) To.pure
  | cons y xs ih =>
    intro i hx
    by_cases h : 100 < y.length
    · refine .inl (To.succ ?_); simp only [M.r17_Few_loop2]
      exact To.pos (drop_lt hx) (To.bindS (drop_idx hx) (To.pos (by omega) To.pure))
    · rcases ih (i + 1) (drop_next hx) with h1 | ⟨h1, h2⟩
      · refine .inl (To.succ ?_); simp only [M.r17_Few_loop2]
        rw [cast_succ]
        exact To.pos (drop_lt hx) (To.bindS (drop_idx hx) (To.neg (by omega) h1))
      · refine .inr ⟨To.succ ?_, fun z hz => ?_⟩
        · simp only [M.r17_Few_loop2]
          rw [cast_succ]
          exact To.pos (drop_lt hx) (To.bindS (drop_idx hx) (To.neg (by omega) h1))
        · rcases List.mem_cons.1 hz with rfl | hz
          · omega
          · exact h2 z hz

theorem few17_3 (x : api_Item) : ∀ (xs : List api_Step) (i : Nat), x.At.drop i = xs → To (fun n => M.r17_Few_loop3 x n (i : Int)) (.inr false) ∨ (To (fun n => M.r17_Few_loop3 x n (i : Int)) (.inl ()) ∧ ∀ y, y ∈ xs → y.Label.length ≤ 100) := by
  intro xs
  induction xs with
  | nil => intro i hx; refine .inr ⟨To.succ ?_, fun y h => by cases h⟩; simp only [M.r17_Few_loop3]; exact To.neg (drop_end hx) To.pure
  | cons y xs ih =>
    intro i hx
    by_cases h : 100 < y.Label.length
    · refine .inl (To.succ ?_); simp only [M.r17_Few_loop3]
      exact To.pos (drop_lt hx) (To.bindS (drop_idx hx) (To.pos (by omega) To.pure))
    · rcases ih (i + 1) (drop_next hx) with h1 | ⟨h1, h2⟩
      · refine .inl (To.succ ?_); simp only [M.r17_Few_loop3]
        rw [cast_succ]
        exact To.pos (drop_lt hx) (To.bindS (drop_idx hx) (To.neg (by omega) h1))
      · refine .inr ⟨To.succ ?_, fun z hz => ?_⟩
        · simp only [M.r17_Few_loop3]
          rw [cast_succ]
          exact To.pos (drop_lt hx) (To.bindS (drop_idx hx) (To.neg (by omega) h1))
        · rcases List.mem_cons.1 hz with rfl | hz
          · omega
          · exact h2 z hz

theorem few17_4 (x : api_Item) : ∀ (xs : List api_Step) (i : Nat), x.To.drop i = xs → To (fun n => M.r17_Few_loop4 x n (i : Int)) (.inr false) ∨ (To (fun n => M.r17_Few_loop4 x n (i : Int)) (.inl ()) ∧ ∀ y, y ∈ xs → y.Label.length ≤ 100) := by
  intro xs
  induction xs with
  | nil => intro i hx; refine .inr ⟨To.succ ?_, fun y h => by cases h⟩; simp only [M.r17_Few_loop4]; exact To.neg (drop_end hx) To.pure
  | cons y xs ih =>
    intro i hx
    by_cases h : 100 < y.Label.length
    · refine .inl (To.succ ?_); simp only [M.r17_Few_loop4]
      exact To.pos (drop_lt hx) (To.bindS (drop_idx hx) (To.pos (by omega) To.pure))
    · rcases ih (i + 1) (drop_next hx) with h1 | ⟨h1, h2⟩
      · refine .inl (To.succ ?_); simp only [M.r17_Few_loop4]
        rw [cast_succ]
        exact To.pos (drop_lt hx) (To.bindS (drop_idx hx) (To.neg (by omega) h1))
      · refine .inr ⟨To.succ ?_, fun z hz => ?_⟩
        · simp only [M.r17_Few_loop4]
          rw [cast_succ]
          exact To.pos (drop_lt hx) (To.bindS (drop_idx hx) (To.neg (by omega) h1))
        · rcases List.mem_cons.1 hz with rfl | hz
          · omega
          · exact h2 z hz

/-- What is known of an instruction that the laws take. -/
theorem few17_ok (x : api_Item) : ∃ b, To (fun n => M.r17_Few n x) b ∧ (b = true → (∀ y, y ∈ x.At → y.Label.length ≤ 100) ∧ (∀ y, y ∈ x.To → y.Label.length ≤ 100)) := by
  refine iind (P := fun x => ∃ b, To (fun n => M.r17_Few n x) b ∧ (b = true → (∀ y, y ∈ x.At → y.Label.length ≤ 100) ∧ (∀ y, y ∈ x.To → y.Label.length ≤ 100))) ?_ x
  intro x ih
  have l5 : ∀ (xs : List api_Item) (slf : Nat → api_Item → Option Bool) (i : Nat), x.By.drop i = xs → (∀ k, k ∈ xs → Tot (fun n => slf n k)) → Tot (fun n => M.r17_Few_loop5 x (slf n) n (i : Int)) := by
    intro xs
    induction xs with
    | nil => intro slf i hx _; refine Tot.succ ?_; simp only [M.r17_Few_loop5]; exact Tot.neg (drop_end hx) Tot.pure
    | cons y xs ih =>
      intro slf i hx hs
      have hn : Tot (fun n => M.r17_Few_loop5 x (slf (n + 1)) n ((i + 1 : Nat) : Int)) := ih (fun n => slf (n + 1)) (i + 1) (drop_next hx) (fun k hk => (hs k (by simp [hk])).shift)
      refine Tot.succ ?_
      simp only [M.r17_Few_loop5]
      rw [cast_succ]
      refine Tot.pos (drop_lt hx) (Tot.bindS (drop_idx hx) (Tot.ite (fun h => Tot.bindS (drop_idx hx) ?_) fun _ => Tot.bindS (drop_idx hx) (Tot.bind (hs y (by simp)).shift fun _ _ => Tot.ite (fun _ => Tot.pure) fun _ => hn)))
      obtain ⟨z, hz, _⟩ := idx_some (l := y.By) (i := 0) (by omega) h
      exact Tot.bindS hz (Tot.ite (fun _ => Tot.pure) fun _ => Tot.bindS (drop_idx hx) (Tot.bind (hs y (by simp)).shift fun _ _ => Tot.ite (fun _ => Tot.pure) fun _ => hn))
  obtain ⟨b, hb, _⟩ := few_ok x.Unit 30 (by omega) (by omega)
  have hA : Tot (fun n => if (12 : Int) < (x.At.length : Int) then some true else if (12 : Int) < (x.To.length : Int) then some true else if (300 : Int) < (x.Old.length : Int) then some true else if (300 : Int) < (x.New.length : Int) then some true else
      if (100 : Int) < (x.Label.length : Int) then some true else if (100 : Int) < (x.For.length : Int) then some true else if (100 : Int) < (x.Start.Event.length : Int) then some true else if (100 : Int) < (x.Event.length : Int) then some true else
      if (2 : Int) < (x.By.length : Int) then some true else Option.bind (M.r06_Few n x.Unit (30 : Int)) fun few => some (!few)) := by
    repeat' (first | exact Tot.pure | exact Tot.bind hb.tot fun _ _ => Tot.pure | refine Tot.ite (fun _ => ?_) (fun _ => ?_))
  obtain ⟨a, ha⟩ := hA
  have no : ∀ {f : Nat → Option Bool}, To f false → ∃ b, To f b ∧ (b = true → (∀ y, y ∈ x.At → y.Label.length ≤ 100) ∧ (∀ y, y ∈ x.To → y.Label.length ≤ 100)) := fun h => ⟨false, h, fun h => by cases h⟩
  cases a with
  | true => refine no (To.succ ?_); simp only [M.r17_Few]; exact To.bind ha (To.pos rfl To.pure)
  | false =>
    rcases few17_1 x _ 0 rfl with h1 | ⟨h1, _⟩
    · refine no (To.succ ?_); simp only [M.r17_Few]; exact To.bind ha (To.neg (by simp) (To.bind h1 To.pure))
    rcases few17_2 x _ 0 rfl with h2 | ⟨h2, _⟩
    · refine no (To.succ ?_); simp only [M.r17_Few]; exact To.bind ha (To.neg (by simp) (To.bind h1 (To.bind h2 To.pure)))
    rcases few17_3 x _ 0 rfl with h3 | ⟨h3, k3⟩
    · refine no (To.succ ?_); simp only [M.r17_Few]; exact To.bind ha (To.neg (by simp) (To.bind h1 (To.bind h2 (To.bind h3 To.pure))))
    rcases few17_4 x _ 0 rfl with h4 | ⟨h4, k4⟩
    · refine no (To.succ ?_); simp only [M.r17_Few]; exact To.bind ha (To.neg (by simp) (To.bind h1 (To.bind h2 (To.bind h3 (To.bind h4 To.pure)))))
    obtain ⟨c, hc⟩ := l5 x.By (fun n => M.r17_Few n) 0 rfl (fun k hk => let ⟨b, h, _⟩ := ih k hk; ⟨b, h⟩)
    refine ⟨(match c with | .inl _ => true | .inr r => r), To.succ ?_, fun _ => ⟨k3, k4⟩⟩
    simp only [M.r17_Few]
    refine To.bind ha (To.neg (by simp) (To.bind h1 (To.bind h2 (To.bind h3 (To.bind h4 (To.bind hc ?_))))))
    cases c <;> exact To.pure
end Go.Proofs.Ytfclekegoleiaaa
