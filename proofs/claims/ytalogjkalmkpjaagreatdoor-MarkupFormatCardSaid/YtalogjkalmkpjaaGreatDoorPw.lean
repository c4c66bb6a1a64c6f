import Derived.Test.YtalogjkalmkpjaaGreatDoorMod
import Derived.Test.YtalogjkalmkpjaaGreatDoorPc
import Derived.KernelRfl
/-
  Numerals: what Itoa writes, Atoi reads back; nothing here speaks of a program.
-/
set_option linter.unusedVariables false
set_option linter.unusedSimpArgs false
namespace Go.Proofs.YtalogjkalmkpjaaGreatDoor
open Go Go.Dec
theorem dec_small {u : Nat} (h : u < 10) : Lib.decDigits u = [UInt8.ofNat (48 + u)] := by rw [Lib.decDigits, dif_pos h]
theorem dec_big {u : Nat} (h : ¬ u < 10) : Lib.decDigits u = Lib.decDigits (u / 10) ++ [UInt8.ofNat (48 + u % 10)] := by rw [Lib.decDigits, dif_neg h]
theorem u8_dig {k : Nat} (h : k < 10) : (UInt8.ofNat (48 + k)).toNat = 48 + k := by
  simp; omega
theorem dec_ne (u : Nat) : Lib.decDigits u ≠ [] := by
  by_cases h : u < 10
  · rw [dec_small h]; simp
  · rw [dec_big h]; simp
theorem dec_digit : ∀ (u : Nat) (c : UInt8), c ∈ Lib.decDigits u → 48 ≤ c.toNat ∧ c.toNat ≤ 57 := by
  intro u
  induction u using Nat.strongRecOn with
  | _ u ih =>
    intro c hc
    by_cases h : u < 10
    · rw [dec_small h] at hc
      simp only [List.mem_singleton] at hc
      subst hc
      rw [u8_dig h]; omega
    · rw [dec_big h] at hc
      rcases List.mem_append.1 hc with h1 | h1
      · exact ih _ (by omega) c h1
      · simp only [List.mem_singleton] at h1
        subst h1
        rw [u8_dig (by omega)]; omega
theorem parse_app : ∀ (l : List UInt8) (acc u : Nat) (c : UInt8), Lib.parseUint10 acc l = .ok u → 48 ≤ c.toNat → c.toNat ≤ 57 → u * 10 + (c.toNat - 48) < 18446744073709551616 → Lib.parseUint10 acc (l ++ [c]) = .ok (u * 10 + (c.toNat - 48))
  | [], acc, u, c, h, h1, h2, h3 => by
    simp only [Lib.parseUint10] at h
    injection h with h
    subst h
    simp only [List.nil_append, Lib.parseUint10]
    rw [if_pos ⟨h1, h2⟩, if_neg (by omega), if_neg (by omega)]
  | d :: l, acc, u, c, h, h1, h2, h3 => by
    simp only [Lib.parseUint10] at h
    simp only [List.cons_append, Lib.parseUint10]
    split at h
    · rename_i hd
      rw [if_pos hd]
      split at h
      · cases h
      · rename_i h4
        rw [if_neg h4]
        split at h
        · cases h
        · rename_i h5
          rw [if_neg h5]
          exact parse_app l _ u c h h1 h2 h3
    · cases h
theorem parse_dec : ∀ (u : Nat), u < 18446744073709551616 → Lib.parseUint10 0 (Lib.decDigits u) = .ok u := by
  intro u
  induction u using Nat.strongRecOn with
  | _ u ih =>
    intro hu
    by_cases h : u < 10
    · have h2 : 48 ≤ (UInt8.ofNat (48 + u)).toNat ∧ (UInt8.ofNat (48 + u)).toNat ≤ 57 := by rw [u8_dig h]; omega
      rw [dec_small h]
      simp only [Lib.parseUint10]
      rw [if_pos h2, if_neg (by omega), if_neg (by omega), u8_dig h]
      congr 1; omega
    · have h2 : (UInt8.ofNat (48 + u % 10)).toNat = 48 + u % 10 := u8_dig (by omega)
      rw [dec_big h]
      have h3 := parse_app _ 0 _ (UInt8.ofNat (48 + u % 10)) (ih (u / 10) (by omega) (by omega)) (by omega) (by omega) (by omega)
      rw [h3]
      congr 1; omega
theorem atoi_itoa {n : Int} (h0 : -9223372036854775808 ≤ n) (h1 : n ≤ 9223372036854775807) : Lib.atoiAll (Lib.itoa n) = .ok n := by
  unfold Lib.itoa
  split
  · rename_i hn
    have hc : (45 : UInt8).toNat = 45 := rfl
    simp only [Lib.atoiAll, hc]
    rw [if_pos (Or.inr trivial)]
    unfold Lib.parseMag
    rw [if_neg (dec_ne _), parse_dec _ (by omega)]
    simp only [not_true, false_and, if_false, true_and]
    rw [if_neg (by omega)]
    simp only [if_true]
    congr 1; omega
  · rename_i hn
    obtain ⟨c, r, hcr⟩ : ∃ c r, Lib.decDigits n.toNat = c :: r := by
      cases hd : Lib.decDigits n.toNat with
      | nil => exact absurd hd (dec_ne _)
      | cons c r => exact ⟨c, r, rfl⟩
    have hc := dec_digit n.toNat c (by rw [hcr]; exact List.mem_cons_self)
    have hp : Lib.parseMag (c :: r) = .ok n.toNat := by
      unfold Lib.parseMag
      rw [if_neg (by simp), ← hcr, parse_dec _ (by omega)]
    rw [hcr]
    simp only [Lib.atoiAll]
    rw [if_neg (by omega), hp]
    have h45 : ¬ c.toNat = 45 := by omega
    simp only [h45, not_false_eq_true, true_and, false_and, if_false]
    rw [if_neg (by omega)]
    congr 1; omega
theorem itoa_byte {n : Int} {c : UInt8} (h : c ∈ Lib.itoa n) : c.toNat = 45 ∨ (48 ≤ c.toNat ∧ c.toNat ≤ 57) := by
  unfold Lib.itoa at h
  split at h
  · rcases List.mem_cons.1 h with rfl | h
    · exact .inl rfl
    · exact .inr (dec_digit _ c h)
  · exact .inr (dec_digit _ c h)
theorem dec_len : ∀ (k u : Nat), u < 10 ^ (k + 1) → (Lib.decDigits u).length ≤ k + 1
  | 0, u, h => by rw [dec_small (by simpa using h)]; simp
  | k + 1, u, h => by
    by_cases h1 : u < 10
    · rw [dec_small h1]; simp
    · rw [dec_big h1]
      have := dec_len k (u / 10) (by rw [Nat.pow_succ] at h; omega)
      simp; omega
theorem itoa_len {n : Int} (h0 : -9223372036854775808 ≤ n) (h1 : n ≤ 9223372036854775807) : (Lib.itoa n).length ≤ 20 := by
  unfold Lib.itoa
  split
  · have := dec_len 18 n.natAbs (by omega)
    simp; omega
  · have := dec_len 18 n.toNat (by omega)
    omega
end Go.Proofs.YtalogjkalmkpjaaGreatDoor
/-
  Labels, names and joined lines: what chapter 11's texts hold too (picked by wip/scripts/pick.py).
-/
set_option linter.unusedVariables false
set_option linter.unusedSimpArgs false
namespace Go.Proofs.YtalogjkalmkpjaaGreatDoor
open Go Go.Dec
def isDig (b : UInt8) : Bool := decide (48 ≤ b.toNat) && decide (b.toNat ≤ 57)
def isCap (b : UInt8) : Bool := decide (65 ≤ b.toNat) && decide (b.toNat ≤ 90)
def labB (s : Str) : Bool :=
  let d := (s.takeWhile isDig).length
  decide (1 ≤ d) && decide (d ≤ 4) && decide (s.head? ≠ some 48) && decide (s.length - d ≤ 3) && (s.drop d).all isCap
theorem digits03 (s : Str) : To (fun n => M.r03_digits n s) ((s.takeWhile isDig).length : Int) := by
  have loop : ∀ (xs : Str) (i : Nat), s.drop i = xs → To (fun n => M.r03_digits_loop1 s n (i : Int)) ((i + (xs.takeWhile isDig).length : Nat) : Int) := by
    intro xs
    induction xs with
    | nil =>
      intro i hx
      refine To.succ ?_
      simp only [M.r03_digits_loop1]
      exact To.neg (drop_end hx) (To.pure.of (by simp))
    | cons x xs ih =>
      intro i hx
      refine To.succ ?_
      simp only [M.r03_digits_loop1]
      refine To.pos (drop_lt hx) (To.bindS (drop_idx hx) ?_)
      by_cases h1 : 48 ≤ x.toNat
      · refine To.pos (by omega) (To.bindS (drop_idx hx) ?_)
        by_cases h2 : x.toNat ≤ 57
        · refine To.pos (by omega) ?_
          rw [cast_succ]
          refine (ih (i + 1) (drop_next hx)).of ?_
          rw [List.takeWhile_cons_of_pos (by simp [isDig, h1, h2]), List.length_cons]
          omega
        · refine To.neg (by omega) (To.pure.of ?_)
          rw [List.takeWhile_cons_of_neg (by simp [isDig]; omega)]; rfl
      · refine To.neg (by omega) (To.pure.of ?_)
        rw [List.takeWhile_cons_of_neg (by simp [isDig]; omega)]; rfl
  simp only [M.r03_digits]
  refine To.bind (loop s 0 rfl) (To.pure.of (by simp))
theorem may03 (s : Str) (hl : s.length ≤ 1000000000) : To (fun n => M.r03_May n s) (labB s) := by
  have hd : (s.takeWhile isDig).length ≤ s.length := by
    have := (List.takeWhile_sublist isDig (l := s)).length_le
    exact this
  have loop : ∀ (xs : Str) (i : Nat), s.drop i = xs → To (fun n => M.r03_May_loop1 s n (i : Int)) (if xs.all isCap then .inl () else .inr false) := by
    intro xs
    induction xs with
    | nil =>
      intro i hx
      refine To.succ ?_
      simp only [M.r03_May_loop1]
      exact To.neg (drop_end hx) (To.pure.of (by simp))
    | cons x xs ih =>
      intro i hx
      refine To.succ ?_
      simp only [M.r03_May_loop1]
      refine To.pos (drop_lt hx) (To.bindS (drop_idx hx) ?_)
      by_cases h1 : x.toNat < 65
      · refine To.pos (by omega) (To.pure.of ?_)
        rw [if_neg (by simp [isCap]; omega)]
      · refine To.neg (by omega) (To.bindS (drop_idx hx) ?_)
        by_cases h2 : 90 < x.toNat
        · refine To.pos (by omega) (To.pure.of ?_)
          rw [if_neg (by simp [isCap]; omega)]
        · refine To.neg (by omega) ?_
          rw [cast_succ]
          refine (ih (i + 1) (drop_next hx)).of ?_
          have : isCap x = true := by simp [isCap]; omega
          simp [this]
  generalize hdd : (s.takeWhile isDig).length = d at hd
  have hdig := digits03 s
  rw [hdd] at hdig
  simp only [M.r03_May]
  refine To.bind hdig ?_
  by_cases h1 : d < 1
  · refine To.bind (a := true) (To.pos (by omega) To.pure) (To.pos rfl (To.pure.of ?_))
    simp [labB, hdd]; omega
  by_cases h2 : 4 < d
  · refine To.bind (a := true) (To.neg (by omega) (To.pos (by omega) To.pure)) (To.pos rfl (To.pure.of ?_))
    simp [labB, hdd]; omega
  obtain ⟨x, xs, rfl⟩ : ∃ x xs, s = x :: xs := by
    cases s with
    | nil => simp at hd; omega
    | cons x xs => exact ⟨x, xs, rfl⟩
  by_cases h3 : x = 48
  · subst h3
    refine To.bind (a := true) (To.neg (by omega) (To.neg (by omega) (To.bindS idx_zero (To.pos rfl To.pure)))) (To.pos rfl (To.pure.of ?_))
    simp [labB]
  have h3' : ¬ ((x.toNat : Int) = 48) := by
    intro h
    exact h3 (UInt8.toNat_inj.1 (by have : (48 : UInt8).toNat = 48 := rfl; omega))
  by_cases h4 : 3 < (x :: xs).length - d
  · refine To.bind (a := true) (To.neg (by omega) (To.neg (by omega) (To.bindS idx_zero (To.neg h3' (To.bindS (subC_eq (by omega) (by omega)) (To.pure.of (by simp; simp at h4 hd; omega))))))) (To.pos rfl (To.pure.of ?_))
    simp only [labB, hdd]
    rw [decide_eq_false (show ¬ (x :: xs).length - d ≤ 3 by omega)]
    simp
  refine To.bind (a := false) (To.neg (by omega) (To.neg (by omega) (To.bindS idx_zero (To.neg h3' (To.bindS (subC_eq (by omega) (by omega)) (To.pure.of (by simp; simp at h4 hd; omega))))))) (To.neg (by simp) ?_)
  refine To.bind (loop _ d rfl) ?_
  simp only [labB, hdd]
  rw [decide_eq_true (show 1 ≤ d by omega), decide_eq_true (show d ≤ 4 by omega), decide_eq_true (show (x :: xs).length - d ≤ 3 by omega), decide_eq_true (show (x :: xs).head? ≠ some 48 by simpa using h3)]
  by_cases h5 : ((x :: xs).drop d).all isCap = true
  · rw [if_pos h5]; exact To.pure.of (by rw [h5]; rfl)
  · rw [if_neg h5]
    exact To.pure.of (by simp only [Bool.not_eq_true] at h5; rw [h5]; rfl)
theorem idxfun (s : Str) (f : Int → Option Bool) (p : UInt8 → Bool) (hf : ∀ b : UInt8, b.toNat < 128 → f (b.toNat : Int) = some (p b)) (hh : ∀ r : Nat, 128 ≤ r → f (r : Int) = some true) (hp : ∀ b : UInt8, 128 ≤ b.toNat → p b = true) :
    To (fun n => M.strings_IndexFunc n s f) (if s.any p then (((s.takeWhile fun b => !p b).length : Nat) : Int) else -1) := by
  have loop : ∀ (xs : Str) (i : Nat), s.drop i = xs → ∃ v, To (fun n => M.strings_indexFunc_loop1 s f true n i) (if xs.any p then .inr ((i + (xs.takeWhile fun b => !p b).length : Nat) : Int) else .inl v) := by
    intro xs
    induction xs with
    | nil =>
      intro i hx
      have := List.drop_eq_nil_iff.1 hx
      refine ⟨i, To.succ ?_⟩
      simp only [M.strings_indexFunc_loop1]
      exact To.neg (by omega) (To.pure.of (by simp))
    | cons x xs ih =>
      intro i hx
      obtain ⟨h1, h2, h3⟩ := drop_cons hx
      have hxi : s[i] = x := by rw [List.getElem?_eq_getElem h1] at h2; exact Option.some.inj h2
      by_cases ha : x.toNat < 128
      · have hr := runeAt_ascii h1 (by rw [hxi]; exact ha)
        rw [hxi] at hr
        obtain ⟨v, hv⟩ := ih (i + 1) h3
        refine ⟨v, To.succ ?_⟩
        simp only [M.strings_indexFunc_loop1]
        refine To.pos h1 ?_
        rw [hr]
        refine To.bindS (hf x ha) ?_
        cases hpx : p x with
        | true => exact To.pos rfl (To.pure.of (by simp [hpx]))
        | false =>
          refine To.neg (by simp) (hv.of ?_)
          have tw : (x :: xs).takeWhile (fun b => !p b) = x :: xs.takeWhile (fun b => !p b) := List.takeWhile_cons_of_pos (by simp [hpx])
          rw [tw]
          simp only [List.any_cons, hpx, Bool.false_or, List.length_cons]
          split
          · congr 1; omega
          · rfl
      · obtain ⟨q1, q2⟩ := runeAt_high h1 (by rw [hxi]; omega)
        have hpx := hp x (by omega)
        refine ⟨0, To.succ ?_⟩
        simp only [M.strings_indexFunc_loop1]
        refine To.pos h1 (To.bindS (hh _ q1) (To.pos rfl (To.pure.of (by simp [hpx]))))
  obtain ⟨v, hv⟩ := loop s 0 rfl
  simp only [M.strings_IndexFunc, M.strings_indexFunc]
  by_cases h : s.any p = true
  · rw [if_pos h] at hv ⊢
    exact To.bind (To.bind hv To.pure) (To.pure.of (by simp))
  · rw [if_neg h] at hv ⊢
    exact To.bind (To.bind hv To.pure) To.pure
theorem tw_all {α : Type} {p : α → Bool} : ∀ {l : List α}, (∀ b, b ∈ l → p b = true) → l.takeWhile p = l
  | [], _ => rfl
  | x :: l, h => by rw [List.takeWhile_cons_of_pos (h x (by simp)), tw_all fun b hb => h b (by simp [hb])]
theorem tw_not (s : Str) : (s.takeWhile fun b => !(!isDig b)) = s.takeWhile isDig := by simp
theorem parted_ok (s : Str) : To (fun n => M.label_parted n s) (s.take (s.takeWhile isDig).length, s.drop (s.takeWhile isDig).length) := by
  have h := idxfun s (fun s0 => M.label_parted_1 s0) (fun b => !isDig b) (fun b hb => by
    simp only [M.label_parted_1, isDig]
    split
    · simp; omega
    · congr 1; rw [Bool.eq_iff_iff]; simp; omega) (fun r hr => by
    simp only [M.label_parted_1]
    rw [if_neg (by omega)]; congr 1; simp; omega) (fun b hb => by simp [isDig]; omega)
  have hd : (s.takeWhile isDig).length ≤ s.length := (List.takeWhile_sublist isDig (l := s)).length_le
  simp only [M.label_parted]
  refine To.bind h ?_
  rw [tw_not]
  by_cases ha : (s.any fun b => !isDig b) = true
  · rw [if_pos ha]
    refine To.neg (by omega) (To.bindS (a := s.take (s.takeWhile isDig).length) ?_ (To.bindS (a := s.drop (s.takeWhile isDig).length) ?_ To.pure))
    · simp [slcHi, hd]
    · simp [slcLo, hd]
  · rw [if_neg ha]
    refine To.pos (by omega) (To.pure.of ?_)
    have hall : s.takeWhile isDig = s := by
      refine tw_all fun b hb => ?_
      simp only [Bool.not_eq_true, List.any_eq_false] at ha
      have := ha b hb
      simpa using this
    rw [hall]; simp
theorem label_ok (s : Str) : To (fun n => M.label_Valid n s) (labB s) := by
  have hd : (s.takeWhile isDig).length ≤ s.length := (List.takeWhile_sublist isDig (l := s)).length_le
  have h := parted_ok s
  generalize hdd : (s.takeWhile isDig).length = d at hd h
  have hc := idxfun (s.drop d) (fun s0 => M.label_Valid_1 s0) (fun b => !isCap b) (fun b hb => by
    simp only [M.label_Valid_1, isCap]
    split
    · simp; omega
    · congr 1; rw [Bool.eq_iff_iff]; simp; omega) (fun r hr => by
    simp only [M.label_Valid_1]
    rw [if_neg (by omega)]; congr 1; simp; omega) (fun b hb => by simp [isCap]; omega)
  simp only [M.label_Valid]
  refine To.bind h ?_
  dsimp only
  have hl : ((s.take d).length : Int) = d := by rw [List.length_take]; omega
  have hl2 : (((s.drop d).length : Nat) : Int) = ((s.length - d : Nat) : Int) := by rw [List.length_drop]
  by_cases h1 : d < 1
  · exact To.neg (by omega) (To.pure.of (by simp [labB, hdd]; omega))
  refine To.pos (by omega) ?_
  by_cases h2 : 4 < d
  · exact To.neg (by omega) (To.pure.of (by simp [labB, hdd]; omega))
  refine To.pos (by omega) ?_
  obtain ⟨x, xs, rfl⟩ : ∃ x xs, s = x :: xs := by
    cases s with
    | nil => simp at hd; omega
    | cons x xs => exact ⟨x, xs, rfl⟩
  have hx : idx ((x :: xs).take d) (0 : Int) = some x := by
    obtain ⟨e, rfl⟩ : ∃ e, d = e + 1 := ⟨d - 1, by omega⟩
    simp [idx]
  refine To.bindS hx ?_
  by_cases h3 : x = 48
  · subst h3
    exact To.neg (by simp) (To.pure.of (by simp [labB]))
  have h3' : (x.toNat : Int) ≠ 48 := by
    intro h
    exact h3 (UInt8.toNat_inj.1 (by have : (48 : UInt8).toNat = 48 := rfl; omega))
  refine To.pos h3' ?_
  simp only [labB, hdd]
  rw [decide_eq_true (show 1 ≤ d by omega), decide_eq_true (show d ≤ 4 by omega), decide_eq_true (show (x :: xs).head? ≠ some 48 by simpa using h3)]
  by_cases h4 : 3 < (x :: xs).length - d
  · refine To.neg (by omega) (To.pure.of ?_)
    rw [decide_eq_false (show ¬ (x :: xs).length - d ≤ 3 by omega)]
    simp
  refine To.pos (by omega) ?_
  rw [decide_eq_true (show (x :: xs).length - d ≤ 3 by omega)]
  simp only [M.strings_ContainsFunc]
  refine To.bind (To.bind hc To.pure) (To.pure.of ?_)
  have he : (((x :: xs).drop d).any fun b => !isCap b) = !(((x :: xs).drop d).all isCap) := by rw [List.not_all_eq_any_not]
  rw [he]
  cases ((x :: xs).drop d).all isCap <;> simp <;> omega
def nm : List Str := [[98, 111, 111, 107], [112, 97, 114, 116], [115, 101, 99, 116, 105, 111, 110], [112, 97, 114, 97, 103, 114, 97, 112, 104], [116, 97, 98, 108, 101], [114, 111, 119], [99, 101, 108, 108], [110, 111, 116, 101]]
def nameOf (k : Int) : Str := (idx nm k).getD []
theorem lab_no {s : Str} (h : labB s = true) : (32 : UInt8) ∉ s := by
  unfold labB at h
  simp only [Bool.and_eq_true] at h
  intro hm
  rw [← List.take_append_drop (s.takeWhile isDig).length s] at hm
  rcases List.mem_append.1 hm with hm | hm
  · have e : s.take (s.takeWhile isDig).length = s.takeWhile isDig := by
      have := List.takeWhile_append_dropWhile (p := isDig) (l := s)
      calc s.take (s.takeWhile isDig).length = (s.takeWhile isDig ++ s.dropWhile isDig).take (s.takeWhile isDig).length := by rw [this]
        _ = s.takeWhile isDig := by rw [List.take_append_of_le_length (Nat.le_refl _), List.take_length]
    rw [e] at hm
    have : ∀ (l : Str), (32 : UInt8) ∉ l.takeWhile isDig := by
      intro l
      induction l with
      | nil => simp
      | cons x l ih =>
        rw [List.takeWhile_cons]
        split
        · rename_i hx
          simp only [List.mem_cons, not_or]
          refine ⟨?_, ih⟩
          rintro rfl
          revert hx; decide
        · simp
    exact this s hm
  · have := List.all_eq_true.1 h.2 _ hm
    revert this; decide
theorem name_no {k : Int} (h0 : 0 ≤ k) (h1 : k ≤ 7) : (32 : UInt8) ∉ nameOf k ∧ nameOf k ≠ [] := by
  obtain ⟨m, rfl⟩ : ∃ m : Nat, k = (m : Int) := ⟨k.toNat, by omega⟩
  have hm : m = 0 ∨ m = 1 ∨ m = 2 ∨ m = 3 ∨ m = 4 ∨ m = 5 ∨ m = 6 ∨ m = 7 := by omega
  rcases hm with rfl | rfl | rfl | rfl | rfl | rfl | rfl | rfl <;> exact ⟨by decide, by decide⟩
def tailN (l : List Str) : Str := l.flatMap (fun x => 10 :: x)
def joinN : List Str → Str
  | [] => []
  | a :: l => a ++ tailN l
theorem join_loop2N : ∀ (l : List Str) (b : Str), b.length + total l ≤ 1000000000 → M.strings_Join_loop2 [10] l b = some (b ++ tailN l)
  | [], b, _ => by simp [M.strings_Join_loop2, tailN]
  | x :: l, b, h => by
    have ht : total (x :: l) = x.length + 1 + total l := by simp [total]
    rw [ht] at h
    simp only [M.strings_Join_loop2]
    rw [appC_eq (by simp; omega), Option.bind_some, appC_eq (by simp; omega), Option.bind_some, join_loop2N l _ (by simp; omega)]
    simp [tailN]
theorem join_twoN (x y : Str) (l : List Str) (h : total (x :: y :: l) ≤ 400000000) : M.strings_Join (x :: y :: l) [10] = some (joinN (x :: y :: l)) := by
  have hlen := total_len (x :: y :: l)
  have h1 : ((x :: y :: l).length : Int) = ((l.length + 2 : Nat) : Int) := by simp; omega
  have ht : total (x :: y :: l) = x.length + 1 + total (y :: l) := by simp [total]
  have hlen' : l.length + 2 ≤ total (x :: y :: l) := by simpa using hlen
  have hs : (([10] : Str).length : Int) = 1 := rfl
  have e1 : ((l.length + 2 : Nat) : Int) - 1 = ((l.length + 1 : Nat) : Int) := by omega
  have hsub : subC ((l.length + 2 : Nat) : Int) 1 = some ((l.length + 1 : Nat) : Int) := by rw [subC_eq (by omega) (by omega), e1]
  obtain ⟨q, hq, hq2⟩ := quo_max (l.length + 1) (by omega) (by omega)
  have hmul : mulC (1 : Int) ((l.length + 1 : Nat) : Int) = some ((l.length + 1 : Nat) : Int) := by rw [mulC_eq (by omega) (by omega), Int.one_mul]
  have hadd : addC (0 : Int) ((l.length + 1 : Nat) : Int) = some ((l.length + 1 : Nat) : Int) := by rw [addC_eq (by omega) (by omega), Int.zero_add]
  obtain ⟨m, hm, hle⟩ := join_loop1 (x :: y :: l) (l.length + 1) (by omega)
  have hg : growC (m : Int) = some () := by
    unfold growC
    rw [if_pos]
    omega
  have hsl : slcLo (x :: y :: l) (1 : Int) = some (y :: l) := by
    unfold slcLo
    rw [if_pos (by simp; omega)]
    rfl
  have n0 : ¬ ((l.length + 2 : Nat) : Int) = 0 := by omega
  have n1 : ¬ ((l.length + 2 : Nat) : Int) = 1 := by omega
  have n2 : (0 : Int) < 1 := by omega
  have n3 : ¬ ((q : Nat) : Int) ≤ 1 := by omega
  have ha0 : appC ([] : Str) x = some x := by rw [appC_eq (by simp; omega)]; rfl
  have hl2 : M.strings_Join_loop2 [10] (y :: l) x = some (x ++ tailN (y :: l)) := join_loop2N (y :: l) x (by omega)
  unfold M.strings_Join
  rw [h1, if_neg n0, if_neg n1, hs, if_pos n2, hsub, Option.bind_some, hq, Option.bind_some]
  rw [if_neg n3]
  rw [Option.bind_some, Option.bind_some, hmul, Option.bind_some, hadd, Option.bind_some, Option.bind_some, hm, Option.bind_some, hg, Option.bind_some, idx_zero, Option.bind_some, ha0, Option.bind_some, hsl, Option.bind_some, hl2, Option.bind_some]
  rfl
theorem join_okN (l : List Str) (h : total l ≤ 400000000) : M.strings_Join l [10] = some (joinN l) := by
  cases l with
  | nil => rfl
  | cons x l =>
    cases l with
    | nil =>
      unfold M.strings_Join
      rw [if_neg (by simp), if_pos (by simp), idx_zero, Option.bind_some]
      simp [joinN, tailN]
    | cons y l => exact join_twoN x y l h
theorem kname (k : Int) : M.unit_KindName k = some (nameOf k) := by
  unfold M.unit_KindName nameOf
  by_cases h0 : k < 0
  · rw [if_pos h0]
    have : idx nm k = none := by unfold idx; rw [if_neg (by omega)]
    rw [this]; rfl
  · rw [if_neg h0]
    by_cases h8 : (8 : Int) ≤ k
    · rw [if_pos h8]
      have : idx nm k = none := by
        unfold idx
        rw [if_pos (by omega)]
        exact List.getElem?_eq_none (by simp [nm]; omega)
      rw [this]; rfl
    · rw [if_neg h8]
      obtain ⟨x, hx, _⟩ := idx_some (l := nm) (i := k) (by omega) (by simp [nm]; omega)
      have : idx gv2 k = some x := hx
      rw [this, hx]; rfl
end Go.Proofs.YtalogjkalmkpjaaGreatDoor
/-
  The laws of rows of tracked words.
-/
set_option linter.unusedVariables false
set_option linter.unusedSimpArgs false
namespace Go.Proofs.YtalogjkalmkpjaaGreatDoor
open Go Go.Dec
theorem fid1 : M.markup_formatID ⟨1, 0, 1⟩ = some [35, 49, 46, 48, 46, 49] := by
  have i1 : ∀ k : Nat, k < 10 → Lib.itoa (k : Int) = [UInt8.ofNat (48 + k)] := fun k hk => by
    unfold Lib.itoa
    rw [if_neg (by omega), Lib.decDigits, dif_pos (by omega)]
    rfl
  have a0 : Lib.itoa 0 = [48] := i1 0 (by decide)
  have a1 : Lib.itoa 1 = [49] := i1 1 (by decide)
  simp only [M.markup_formatID, itoaM, a0, a1, Option.bind_some]
  rfl
def secT : api_TrackedUnit := ⟨0, 2, ⟨1, 0, 1⟩, [53], [52], false, [], [⟨0, [97]⟩, ⟨2, [98]⟩, ⟨1, [99]⟩], []⟩
def rowW : List TW := [⟨0, [97]⟩, ⟨2, [98]⟩, ⟨1, [99]⟩]
theorem rowW_text : rowF rowW = [97, 32, 91, 45, 32, 98, 32, 45, 93, 32, 91, 43, 32, 99, 32, 43, 93] := by rfl
theorem line_sec : To (fun n => M.markup_line n secT 0) [61, 32, 115, 101, 99, 116, 105, 111, 110, 32, 53, 32, 119, 97, 115, 32, 52, 32, 35, 49, 46, 48, 46, 49, 32, 124, 32, 97, 32, 91, 45, 32, 98, 32, 45, 93, 32, 91, 43, 32, 99, 32, 43, 93] := by
  have hf := format_ok rowW
  rw [rowW_text] at hf
  simp only [M.markup_line]
  refine To.bindS (show repeatM ([32, 32] : Str) 0 = some [] from rfl) (To.bindS (show M.markup_sign secT = some [61] from rfl) (To.bindS (show catC [] [61] = some [61] from rfl) (To.bindS (show catC [61] [32] = some [61, 32] from rfl) (To.bindS (show M.markup_sign secT = some [61] from rfl) (To.neg (by decide) ?_)))))
  refine To.bindS (show M.unit_KindName secT.Kind = some [115, 101, 99, 116, 105, 111, 110] from rfl) (To.bindS (catC_eq (by decide)) ?_)
  refine To.bind (To.pos (by decide) (To.bindS (catC_eq (by decide)) (To.bindS (catC_eq (by decide)) To.pure))) ?_
  refine To.bind (To.pos (by decide) (To.bindS (catC_eq (by decide)) (To.bindS (catC_eq (by decide)) To.pure))) ?_
  refine To.bindS fid1 (To.bindS (catC_eq (by decide)) (To.bindS (catC_eq (by decide)) ?_))
  refine To.bind (To.neg (by decide) To.pure) ?_
  refine To.pos (by decide) (To.bind hf (To.bindS (catC_eq (by decide)) (To.bindS (catC_eq (by decide)) (To.pure.of ?_))))
  rfl
theorem lines_sec : To (fun n => M.markup_Lines n secT) [[61, 32, 115, 101, 99, 116, 105, 111, 110, 32, 53, 32, 119, 97, 115, 32, 52, 32, 35, 49, 46, 48, 46, 49, 32, 124, 32, 97, 32, 91, 45, 32, 98, 32, 45, 93, 32, 91, 43, 32, 99, 32, 43, 93]] := by
  have hv : To (fun n => M.markup_validTree n secT 0) true := To.far 30 fun m => by kernel_rfl
  simp only [M.markup_Lines]
  refine To.bind hv (To.neg (by decide) (To.bind (To.succ ?_) To.pure))
  simp only [M.markup_Lines_1]
  exact To.bind line_sec (To.bindS (appC_eq (by decide)) (To.bind To.pure To.pure))
theorem awake53 : To (fun n => M.law53_awake n) true := by
  have hf := format_ok rowW
  rw [rowW_text] at hf
  simp only [M.law53_awake]
  refine To.bind (a := ([61, 32, 115, 101, 99, 116, 105, 111, 110, 32, 53, 32, 119, 97, 115, 32, 52, 32, 35, 49, 46, 48, 46, 49, 32, 124, 32, 97, 32, 91, 45, 32, 98, 32, 45, 93, 32, 91, 43, 32, 99, 32, 43, 93, 10], (0 : Int))) ?_ (To.bind hf (To.pos (by decide) (To.pos rfl (To.pure.of (by decide)))))
  simp only [M.markup_Format]
  refine To.bind lines_sec (To.neg (by decide) (To.bindS (show M.strings_Join _ [10] = some [61, 32, 115, 101, 99, 116, 105, 111, 110, 32, 53, 32, 119, 97, 115, 32, 52, 32, 35, 49, 46, 48, 46, 49, 32, 124, 32, 97, 32, 91, 45, 32, 98, 32, 45, 93, 32, 91, 43, 32, 99, 32, 43, 93] from rfl) (To.bindS (catC_eq (by decide)) (To.neg (by decide) (To.pure.of rfl)))))
end Go.Proofs.YtalogjkalmkpjaaGreatDoor
/-
  Tracked units: which are valid, which are few.
-/
set_option linter.unusedVariables false
set_option linter.unusedSimpArgs false
namespace Go.Proofs.YtalogjkalmkpjaaGreatDoor
open Go Go.Dec
abbrev TU := api_TrackedUnit
def numB (n : Int) : Bool := decide (0 ≤ n) && decide (n ≤ 1048576)
def idB (i : api_Id) : Bool := numB i.Act && (numB i.Item && numB i.N)
theorem numB_iff {n : Int} : numB n = true ↔ 0 ≤ n ∧ n ≤ 1048576 := by simp [numB]
theorem idB_iff {i : api_Id} : idB i = true ↔ numB i.Act = true ∧ numB i.Item = true ∧ numB i.N = true := by simp [idB]
theorem vid_step (e : Int) (es : List Int) : M.markup_validID_loop1 (e :: es) = if numB e = true then M.markup_validID_loop1 es else some (.inr false) := by
  simp only [M.markup_validID_loop1]
  by_cases h1 : e < 0
  · rw [if_pos h1, if_neg]
    rw [numB_iff]; omega
  · rw [if_neg h1]
    by_cases h2 : (1048576 : Int) < e
    · rw [if_pos h2, if_neg]
      rw [numB_iff]; omega
    · rw [if_neg h2, if_pos]
      rw [numB_iff]; omega
theorem validID_ok (i : api_Id) : M.markup_validID i = some (idB i) := by
  unfold M.markup_validID idB
  rw [vid_step, vid_step, vid_step]
  by_cases h1 : numB i.Act = true
  · by_cases h2 : numB i.Item = true
    · by_cases h3 : numB i.N = true
      · simp [h1, h2, h3, M.markup_validID_loop1]
      · simp [h1, h2, h3]
    · simp [h1, h2]
  · simp [h1]
theorem number_ok (e : Int) : M.r53_number e = some (numB e) := by
  unfold M.r53_number numB
  by_cases h : 0 ≤ e <;> simp [h]
theorem numbers_ok (i : api_Id) : M.r53_numbers i = some (idB i) := by
  unfold M.r53_numbers idB
  simp only [number_ok, Option.bind_some]
  by_cases h1 : numB i.Act = true
  · by_cases h2 : numB i.Item = true
    · simp [h1, h2]
    · simp [h1, h2]
  · simp [h1]
def placeP (t : TU) : Prop := t.State = 2 ∧ t.Moved = true ∧ idB t.Id = true ∧ t.Kind = 0 ∧ t.Label = [] ∧ t.Was = [] ∧ t.Head.length + t.Words.length + t.Kids.length = 0
instance (t : TU) : Decidable (placeP t) := by unfold placeP; infer_instance
def placeB (t : TU) : Bool := decide (placeP t)
theorem place_ok (t : TU) (hb : t.Head.length + t.Words.length + t.Kids.length ≤ 100000) : M.markup_isPlaceholder t = some (placeB t) := by
  have a1 : addC (t.Head.length : Int) (t.Words.length : Int) = some ((t.Head.length : Int) + (t.Words.length : Int)) := addC_eq (by omega) (by omega)
  have a2 : addC ((t.Head.length : Int) + (t.Words.length : Int)) (t.Kids.length : Int) = some ((t.Head.length : Int) + (t.Words.length : Int) + (t.Kids.length : Int)) := addC_eq (by omega) (by omega)
  have e : ((t.Head.length : Int) + (t.Words.length : Int) + (t.Kids.length : Int) = 0) = (t.Head.length + t.Words.length + t.Kids.length = 0) := propext (by omega)
  simp only [M.markup_isPlaceholder, a1, a2, Option.bind_some, validID_ok, e]
  unfold placeB placeP
  by_cases h1 : t.Kind = 0
  · by_cases h2 : t.Label = []
    · by_cases h3 : t.Was = []
      · by_cases h4 : t.Head.length + t.Words.length + t.Kids.length = 0
        · by_cases h5 : t.State = 2
          · by_cases h6 : t.Moved = true
            · by_cases h7 : idB t.Id = true <;> simp [h1, h2, h3, h4, h5, h6, h7]
            · simp [h1, h2, h3, h4, h5, h6]
          · simp [h1, h2, h3, h4, h5]
        · have h4' : decide (t.Head.length + t.Words.length + t.Kids.length = 0) = false := decide_eq_false h4
          simp only [h1, h2, h3, h4', h4]
          simp
      · simp [h1, h2, h3]
    · simp [h1, h2]
  · simp [h1]
theorem rplace_ok (t : TU) (hb : t.Head.length + t.Words.length + t.Kids.length ≤ 100000) : M.r53_Place t = some (placeB t) := by
  have a1 : addC (t.Head.length : Int) (t.Words.length : Int) = some ((t.Head.length : Int) + (t.Words.length : Int)) := addC_eq (by omega) (by omega)
  have a2 : addC ((t.Head.length : Int) + (t.Words.length : Int)) (t.Kids.length : Int) = some ((t.Head.length : Int) + (t.Words.length : Int) + (t.Kids.length : Int)) := addC_eq (by omega) (by omega)
  have e : ((t.Head.length : Int) + (t.Words.length : Int) + (t.Kids.length : Int) = 0) = (t.Head.length + t.Words.length + t.Kids.length = 0) := propext (by omega)
  simp only [M.r53_Place, a1, a2, Option.bind_some, numbers_ok, e]
  unfold placeB placeP
  by_cases h5 : t.State = 2
  · by_cases h6 : t.Moved = true
    · by_cases h7 : idB t.Id = true
      · by_cases h1 : t.Kind = 0
        · by_cases h2 : t.Label = []
          · by_cases h3 : t.Was = []
            · simp only [h1, h2, h3, h5, h6, h7]
              simp
            · simp [h1, h2, h3, h5, h6, h7]
          · simp [h1, h2, h5, h6, h7]
        · simp [h1, h5, h6, h7]
      · simp [h5, h6, h7]
    · simp [h5, h6]
  · simp [h5]
def ownA (t : TU) : Prop := 0 ≤ t.Kind ∧ t.Kind ≤ 7 ∧ idB t.Id = true
def ownR (t : TU) : Prop := rowB t.Head = true ∧ rowB t.Words = true
def ownL (t : TU) : Prop := (t.Kind = 0 ↔ t.Label = []) ∧ (t.Label ≠ [] → labB t.Label = true)
def ownW (t : TU) : Prop := t.Was ≠ [] → labB t.Was = true ∧ t.Was ≠ t.Label
def ownS (t : TU) : Prop := t.State = 1 ∨ (t.State = 0 ∨ t.State = 2) ∧ t.Moved = false
def ownP (t : TU) : Prop := ownA t ∧ ownR t ∧ ownL t ∧ ownW t ∧ ownS t
instance (t : TU) : Decidable (ownA t) := by unfold ownA; infer_instance
instance (t : TU) : Decidable (ownR t) := by unfold ownR; infer_instance
instance (t : TU) : Decidable (ownL t) := by unfold ownL; infer_instance
instance (t : TU) : Decidable (ownW t) := by unfold ownW; infer_instance
instance (t : TU) : Decidable (ownS t) := by unfold ownS; infer_instance
instance (t : TU) : Decidable (ownP t) := by unfold ownP; infer_instance
def ownB (t : TU) : Bool := decide (ownP t)
theorem xor_lab (t : TU) : ((decide (t.Kind = (0 : Int))) != (t.Label == ([] : Str))) = !decide (t.Kind = 0 ↔ t.Label = []) := by
  by_cases h1 : t.Kind = 0 <;> by_cases h2 : t.Label = [] <;> simp [h1, h2]
theorem stateF (t : TU) : (if t.State = (1 : Int) then some true else if t.State = (0 : Int) then some (!t.Moved) else if t.State = (2 : Int) then some (!t.Moved) else some false) = some (decide (ownS t)) := by
  unfold ownS
  by_cases h1 : t.State = 1
  · simp [h1]
  · by_cases h2 : t.State = 0
    · simp [h2]
    · by_cases h3 : t.State = 2
      · simp [h3]
      · simp [h1, h2, h3]
theorem own_ok (t : TU) : To (fun n => M.markup_validUnit n t) (ownB t) := by
  have hA : (if t.Kind < (0 : Int) then some true else if (7 : Int) < t.Kind then some true else Option.bind (M.markup_validID t.Id) fun validi => some (!validi)) = some (!decide (ownA t)) := by
    rw [validID_ok]
    by_cases h1 : t.Kind < 0
    · have hn : ¬ ownA t := fun h => by have := h.1; omega
      rw [if_pos h1, decide_eq_false hn]; rfl
    · rw [if_neg h1]
      by_cases h2 : (7 : Int) < t.Kind
      · have hn : ¬ ownA t := fun h => by have := h.2.1; omega
        rw [if_pos h2, decide_eq_false hn]; rfl
      · rw [if_neg h2]
        by_cases h3 : idB t.Id = true
        · have hn : ownA t := ⟨by omega, by omega, h3⟩
          rw [decide_eq_true hn, h3]; rfl
        · have hn : ¬ ownA t := fun h => h3 h.2.2
          rw [decide_eq_false hn, show idB t.Id = false by simpa using h3]; rfl
  simp only [M.markup_validUnit]
  refine To.bindS hA ?_
  unfold ownB ownP
  by_cases cA : ownA t
  · refine To.neg (by simp [cA]) (To.bind (a := !decide (ownR t)) ?_ ?_)
    · refine To.bind (vrow_ok t.Head) ?_
      unfold ownR
      by_cases h : rowB t.Head = true
      · exact To.neg (by simp [h]) (To.bind (vrow_ok t.Words) (To.pure.of (by simp [h])))
      · exact To.pos (by simpa using h) (To.pure.of (by simp [h]))
    · by_cases cR : ownR t
      · refine To.neg (by simp [cR]) (To.bind (a := !decide (ownL t)) ?_ ?_)
        · rw [xor_lab]
          unfold ownL
          by_cases h : (t.Kind = 0 ↔ t.Label = [])
          · refine To.neg (by simp [h]) ?_
            by_cases h2 : t.Label = []
            · exact To.neg (by simp [h2]) (To.pure.of (by simp [h2] at h ⊢; exact h))
            · exact To.pos (by simp [h2]) (To.bind (label_ok t.Label) (To.pure.of (by simp [h, h2])))
          · exact To.pos (by simp [h]) (To.pure.of (by simp [h]))
        · by_cases cL : ownL t
          · refine To.neg (by simp [cL]) (To.bind (a := !decide (ownW t)) ?_ ?_)
            · unfold ownW
              by_cases h : t.Was = []
              · exact To.neg (by simp [h]) (To.pure.of (by simp [h]))
              · refine To.pos (by simp [h]) (To.bind (label_ok t.Was) ?_)
                by_cases h2 : labB t.Was = true
                · exact To.neg (by simp [h2]) (To.pure.of (by by_cases h3 : t.Was = t.Label <;> simp [h, h2, h3]; simpa [h3] using h))
                · exact To.pos (by simpa using h2) (To.pure.of (by simp [h, h2]))
            · by_cases cW : ownW t
              · refine To.neg (by simp [cW]) (To.opt ?_)
                rw [stateF]
                simp [cA, cR, cL, cW]
              · exact To.pos (by simp [cW]) (To.pure.of (by simp [cW]))
          · exact To.pos (by simp [cL]) (To.pure.of (by simp [cL]))
      · exact To.pos (by simp [cR]) (To.pure.of (by simp [cR]))
  · exact To.pos (by simp [cA]) (To.pure.of (by simp [cA]))
theorem rown_ok (t : TU) (hl : t.Label.length ≤ 100) (hw : t.Was.length ≤ 100) : To (fun n => M.r53_own n t) (ownB t) := by
  simp only [M.r53_own]
  unfold ownB ownP
  refine To.bind (a := !decide (ownA t ∧ ownR t)) ?_ ?_
  · by_cases h1 : t.Kind < 0
    · have hn : ¬ (ownA t ∧ ownR t) := fun h => by have := h.1.1; omega
      exact To.pos h1 (To.pure.of (by rw [decide_eq_false hn]; rfl))
    · refine To.neg h1 ?_
      by_cases h2 : (7 : Int) < t.Kind
      · have hn : ¬ (ownA t ∧ ownR t) := fun h => by have := h.1.2.1; omega
        exact To.pos h2 (To.pure.of (by rw [decide_eq_false hn]; rfl))
      · refine To.neg h2 (To.bindS (numbers_ok t.Id) ?_)
        by_cases h3 : idB t.Id = true
        · refine To.neg (by simp [h3]) (To.bind (mrow_ok t.Head) ?_)
          by_cases h4 : rowB t.Head = true
          · refine To.neg (by simp [h4]) (To.bind (mrow_ok t.Words) (To.pure.of ?_))
            by_cases h5 : rowB t.Words = true
            · have hn : ownA t ∧ ownR t := ⟨⟨by omega, by omega, h3⟩, h4, h5⟩
              rw [decide_eq_true hn, h5]
            · have hn : ¬ (ownA t ∧ ownR t) := fun h => h5 h.2.2
              rw [decide_eq_false hn, show rowB t.Words = false by simpa using h5]
          · have hn : ¬ (ownA t ∧ ownR t) := fun h => h4 h.2.1
            exact To.pos (by simpa using h4) (To.pure.of (by rw [decide_eq_false hn]; rfl))
        · have hn : ¬ (ownA t ∧ ownR t) := fun h => h3 h.1.2.2
          exact To.pos (by simpa using h3) (To.pure.of (by rw [decide_eq_false hn]; rfl))
  · by_cases cA : ownA t ∧ ownR t
    · refine To.neg (by simp [cA]) (To.bind (a := !decide (ownL t)) ?_ ?_)
      · rw [xor_lab]
        unfold ownL
        by_cases h : (t.Kind = 0 ↔ t.Label = [])
        · refine To.neg (by simp [h]) ?_
          by_cases h2 : t.Label = []
          · exact To.neg (by simp [h2]) (To.pure.of (by simp [h2] at h ⊢; exact h))
          · exact To.pos (by simp [h2]) (To.bind (may03 t.Label (by omega)) (To.pure.of (by simp [h, h2])))
        · exact To.pos (by simp [h]) (To.pure.of (by simp [h]))
      · by_cases cL : ownL t
        · refine To.neg (by simp [cL]) (To.bind (a := !decide (ownW t)) ?_ ?_)
          · unfold ownW
            by_cases h : t.Was = []
            · exact To.neg (by simp [h]) (To.pure.of (by simp [h]))
            · refine To.pos (by simp [h]) (To.bind (may03 t.Was (by omega)) ?_)
              by_cases h2 : labB t.Was = true
              · exact To.neg (by simp [h2]) (To.pure.of (by by_cases h3 : t.Was = t.Label <;> simp [h, h2, h3]; simpa [h3] using h))
              · exact To.pos (by simpa using h2) (To.pure.of (by simp [h, h2]))
          · by_cases cW : ownW t
            · refine To.neg (by simp [cW]) (To.opt ?_)
              rw [stateF]
              simp [cA, cL, cW]
            · exact To.pos (by simp [cW]) (To.pure.of (by simp [cW]))
        · exact To.pos (by simp [cL]) (To.pure.of (by simp [cL]))
    · exact To.pos (by simp [cA]) (To.pure.of (by
        have : ¬ (ownA t ∧ ownR t ∧ ownL t ∧ ownW t ∧ ownS t) := fun h => cA ⟨h.1, h.2.1⟩
        simp [this]))
def szP : Nat → TU → Prop
  | 0, _ => False
  | k + 1, t => t.Head.length ≤ 600 ∧ t.Words.length ≤ 600 ∧ t.Label.length ≤ 100 ∧ t.Was.length ≤ 100 ∧ t.Kids.length ≤ 40 ∧ ∀ x ∈ t.Kids, szP k x
def cntF : Nat → TU → Nat
  | 0, _ => 0
  | k + 1, t => 1 + (t.Kids.map (cntF k)).sum
theorem sz_cnt {k : Nat} : ∀ {xs : List TU}, (∀ x ∈ xs, szP k x) → xs.length ≤ (xs.map (cntF k)).sum
  | [], _ => by simp
  | x :: xs, h => by
    have ih := sz_cnt (fun y hy => h y (List.mem_cons_of_mem _ hy))
    have hx := h x List.mem_cons_self
    have h1 : 1 ≤ cntF k x := by
      cases k with
      | zero => exact absurd hx (by simp [szP])
      | succ k => unfold cntF; omega
    simp only [List.map_cons, List.sum_cons, List.length_cons]
    omega
theorem few1 (t : TU) : ∀ (xs : List TW) (i : Nat), t.Head.drop i = xs → ∃ o, To (fun n => M.r53_few_loop1 t n (i : Int)) o ∧ (o = .inl () ∨ o = .inr (-1))
  | [], i, hx => by
    refine ⟨.inl (), To.succ ?_, .inl rfl⟩
    simp only [M.r53_few_loop1]
    exact To.neg (drop_end hx) To.pure
  | w :: xs, i, hx => by
    obtain ⟨o, ho, h2⟩ := few1 t xs (i + 1) (drop_next hx)
    by_cases h : (100 : Int) < (w.Text.length : Int)
    · refine ⟨.inr (-1), To.succ ?_, .inr rfl⟩
      simp only [M.r53_few_loop1]
      exact To.pos (drop_lt hx) (To.bindS (drop_idx hx) (To.pos h To.pure))
    · refine ⟨o, To.succ ?_, h2⟩
      simp only [M.r53_few_loop1]
      rw [cast_succ]
      exact To.pos (drop_lt hx) (To.bindS (drop_idx hx) (To.neg h ho))
theorem few2 (t : TU) : ∀ (xs : List TW) (i : Nat), t.Words.drop i = xs → ∃ o, To (fun n => M.r53_few_loop2 t n (i : Int)) o ∧ (o = .inl () ∨ o = .inr (-1))
  | [], i, hx => by
    refine ⟨.inl (), To.succ ?_, .inl rfl⟩
    simp only [M.r53_few_loop2]
    exact To.neg (drop_end hx) To.pure
  | w :: xs, i, hx => by
    obtain ⟨o, ho, h2⟩ := few2 t xs (i + 1) (drop_next hx)
    by_cases h : (100 : Int) < (w.Text.length : Int)
    · refine ⟨.inr (-1), To.succ ?_, .inr rfl⟩
      simp only [M.r53_few_loop2]
      exact To.pos (drop_lt hx) (To.bindS (drop_idx hx) (To.pos h To.pure))
    · refine ⟨o, To.succ ?_, h2⟩
      simp only [M.r53_few_loop2]
      rw [cast_succ]
      exact To.pos (drop_lt hx) (To.bindS (drop_idx hx) (To.neg h ho))
def FewR (k : Nat) (t : TU) (most r : Int) : Prop := -1 ≤ r ∧ r ≤ most ∧ (0 ≤ r → szP k t ∧ r + (cntF k t : Int) = most)
theorem cnt_pos {k : Nat} {x : TU} (h : szP k x) : 1 ≤ cntF k x := by
  cases k with
  | zero => exact absurd h (by simp [szP])
  | succ k => unfold cntF; omega
theorem few3 (t : TU) (k : Nat) (hk : k ≤ 100) : ∀ (xs : List TU) (i : Nat) (F : Nat → TU → Int → Int → Option Int) (most : Int), t.Kids.drop i = xs → -1 ≤ most → (i : Int) + most ≤ 40 →
    (∀ x ∈ xs, ∀ m : Int, 0 ≤ m → m ≤ 40 → ∃ r, To (fun n => F n x m ((k : Int) - 1)) r ∧ FewR k x m r) →
    ∃ r, To (fun n => M.r53_few_loop3 t (k : Int) (F n) n most (i : Int)) r ∧ -1 ≤ r ∧ r ≤ most ∧ (0 ≤ r → (∀ x ∈ xs, szP k x) ∧ r + ((xs.map (cntF k)).sum : Int) = most)
  | [], i, F, most, hx, h0, h1, hF => by
    refine ⟨most, To.succ ?_, h0, Int.le_refl _, fun _ => ⟨by simp, by simp⟩⟩
    simp only [M.r53_few_loop3]
    exact To.bind (a := false) (To.neg (drop_end hx) To.pure) (To.neg (by decide) To.pure)
  | x :: xs, i, F, most, hx, h0, h1, hF => by
    by_cases hm : 0 ≤ most
    · obtain ⟨r, hr, h2, h3, h4⟩ := hF x List.mem_cons_self most hm (by omega)
      have hir : ((i + 1 : Nat) : Int) + r ≤ 40 := by
        by_cases hr0 : 0 ≤ r
        · have := h4 hr0
          have := cnt_pos this.1
          omega
        · omega
      obtain ⟨q, hq, g1, g2, g3⟩ := few3 t k hk xs (i + 1) (fun n => F (n + 1)) r (drop_next hx) h2 hir (fun y hy m a b => by
          obtain ⟨r', p1, p2⟩ := hF y (List.mem_cons_of_mem _ hy) m a b
          exact ⟨r', p1.shift, p2⟩)
      refine ⟨q, To.succ ?_, g1, by omega, fun hq0 => ?_⟩
      · simp only [M.r53_few_loop3]
        refine To.bind (a := true) (To.pos (drop_lt hx) (To.pure.of (by simp [hm]))) (To.pos rfl (To.bindS (drop_idx hx) (To.bindS (subC_eq (by omega) (by omega)) (To.bind hr.shift (To.bindS (addC_succ (by omega)) hq)))))
      · obtain ⟨a1, a2⟩ := g3 hq0
        obtain ⟨b1, b2⟩ := h4 (by omega)
        refine ⟨fun y hy => ?_, ?_⟩
        · rcases List.mem_cons.1 hy with rfl | hy
          · exact b1
          · exact a1 y hy
        · simp only [List.map_cons, List.sum_cons, Int.natCast_add]
          omega
    · have hm' : most = -1 := by omega
      refine ⟨-1, To.succ ?_, by omega, by omega, fun h => absurd h (by omega)⟩
      simp only [M.r53_few_loop3]
      exact To.bind (a := false) (To.pos (drop_lt hx) (To.pure.of (by simp; omega))) (To.neg (by decide) (To.pure.of hm'))
theorem few_ok : ∀ (k : Nat), k ≤ 100 → ∀ (t : TU) (most : Int), 0 ≤ most → most ≤ 40 → ∃ r, To (fun n => M.r53_few n t most ((k : Int) - 1)) r ∧ FewR k t most r
  | 0, _, t, most, h0, h1 => by
    refine ⟨-1, To.succ ?_, by omega, by omega, fun h => absurd h (by omega)⟩
    simp only [M.r53_few]
    exact To.bindS (subC_eq (by omega) (by omega)) (To.bind (a := true) (To.pos (by omega) To.pure) (To.pos rfl To.pure))
  | k + 1, hk, t, most, h0, h1 => by
    have ih := few_ok k (by omega)
    have ek : ((k + 1 : Nat) : Int) - 1 = (k : Int) := by omega
    rw [ek]
    obtain ⟨o1, p1, q1⟩ := few1 t t.Head 0 rfl
    obtain ⟨o2, p2, q2⟩ := few2 t t.Words 0 rfl
    obtain ⟨r, p3, g1, g2, g3⟩ := few3 t k (by omega) t.Kids 0 (fun n => M.r53_few n) (most - 1) rfl (by omega) (by omega) (fun x _ m a b => ih x m a b)
    have hcond : To (fun _ => if (k : Int) < (0 : Int) then some true else if (600 : Int) < (t.Head.length : Int) then some true else if (600 : Int) < (t.Words.length : Int) then some true else if (100 : Int) < (t.Label.length : Int) then some true else some (decide ((100 : Int) < (t.Was.length : Int))))
        (!decide (t.Head.length ≤ 600 ∧ t.Words.length ≤ 600 ∧ t.Label.length ≤ 100 ∧ t.Was.length ≤ 100)) := by
      refine To.neg (by omega) ?_
      by_cases a1 : t.Head.length ≤ 600
      · refine To.neg (by omega) ?_
        by_cases a2 : t.Words.length ≤ 600
        · refine To.neg (by omega) ?_
          by_cases a3 : t.Label.length ≤ 100
          · refine To.neg (by omega) (To.pure.of ?_)
            by_cases a4 : t.Was.length ≤ 100
            · have : ¬ (100 : Int) < (t.Was.length : Int) := by omega
              simp [a1, a2, a3, a4, this]
            · have : (100 : Int) < (t.Was.length : Int) := by omega
              simp [a4, this]
          · exact To.pos (by omega) (To.pure.of (by simp [a3]))
        · exact To.pos (by omega) (To.pure.of (by simp [a2]))
      · exact To.pos (by omega) (To.pure.of (by simp [a1]))
    by_cases hc : t.Head.length ≤ 600 ∧ t.Words.length ≤ 600 ∧ t.Label.length ≤ 100 ∧ t.Was.length ≤ 100
    · rcases q1 with rfl | rfl
      · rcases q2 with rfl | rfl
        · refine ⟨r, To.succ ?_, g1, by omega, fun hr => ?_⟩
          · simp only [M.r53_few]
            exact To.bindS (subC_eq (by omega) (by omega)) (To.bind hcond (To.neg (by simp [hc]) (To.bind p1 (To.bind p2 (To.bind p3 To.pure)))))
          · obtain ⟨b1, b2⟩ := g3 hr
            have := sz_cnt b1
            refine ⟨⟨hc.1, hc.2.1, hc.2.2.1, hc.2.2.2, by omega, b1⟩, ?_⟩
            unfold cntF
            omega
        · refine ⟨-1, To.succ ?_, by omega, by omega, fun h => absurd h (by omega)⟩
          simp only [M.r53_few]
          exact To.bindS (subC_eq (by omega) (by omega)) (To.bind hcond (To.neg (by simp [hc]) (To.bind p1 (To.bind p2 To.pure))))
      · refine ⟨-1, To.succ ?_, by omega, by omega, fun h => absurd h (by omega)⟩
        simp only [M.r53_few]
        exact To.bindS (subC_eq (by omega) (by omega)) (To.bind hcond (To.neg (by simp [hc]) (To.bind p1 To.pure)))
    · refine ⟨-1, To.succ ?_, by omega, by omega, fun h => absurd h (by omega)⟩
      simp only [M.r53_few]
      exact To.bindS (subC_eq (by omega) (by omega)) (To.bind hcond (To.pos (by rw [decide_eq_false hc]; rfl) To.pure))
theorem few53 (t : TU) : ∃ b, To (fun n => M.r53_Few n t 40) b ∧ (b = true → szP 13 t ∧ cntF 13 t ≤ 40) := by
  obtain ⟨r, h1, h2, h3, h4⟩ := few_ok 13 (by decide) t 40 (by decide) (by decide)
  refine ⟨decide (0 ≤ r), ?_, fun h => ?_⟩
  · simp only [M.r53_Few]
    exact To.bind h1 To.pure
  · have hr := of_decide_eq_true h
    obtain ⟨a, b⟩ := h4 hr
    exact ⟨a, by omega⟩
def mayF : Nat → Nat → TU → Bool
  | 0, _, _ => false
  | k + 1, d, t => (decide (0 < d) && placeB t) || (ownB t && t.Kids.all (mayF k (d + 1)))
theorem has_tu (l : List TU) (f : Nat → TU → Option Bool) (p : TU → Bool) (hf : ∀ x, x ∈ l → To (fun n => f n x) (p x)) : To (fun n => M.slices_ContainsFunc_api_TrackedUnit_api_TrackedUnit n l (f n)) (l.any p) := by
  have loop : ∀ (xs : List TU) (f : Nat → TU → Option Bool) (i : Nat), (∀ x, x ∈ xs → To (fun n => f n x) (p x)) → l.drop i = xs → ∃ r, To (fun n => M.slices_IndexFunc_api_TrackedUnit_api_TrackedUnit_loop1 l (f n) n (i : Int)) r ∧ ((xs.any p = true ∧ ∃ k : Nat, r = .inr (k : Int)) ∨ (xs.any p = false ∧ r = .inl ())) := by
    intro xs
    induction xs with
    | nil =>
      intro f i _ hx
      refine ⟨.inl (), To.succ ?_, .inr ⟨rfl, rfl⟩⟩
      simp only [M.slices_IndexFunc_api_TrackedUnit_api_TrackedUnit_loop1]
      exact To.neg (drop_end hx) To.pure
    | cons x xs ih =>
      intro f i hf hx
      have h1 := hf x (by simp)
      by_cases hp : p x = true
      · refine ⟨.inr (i : Int), To.succ ?_, .inl ⟨by simp [hp], i, rfl⟩⟩
        simp only [M.slices_IndexFunc_api_TrackedUnit_api_TrackedUnit_loop1]
        exact To.pos (drop_lt hx) (To.bindS (drop_idx hx) (To.bind h1.shift (To.pos hp To.pure)))
      · have hp' : p x = false := by simpa using hp
        obtain ⟨r, ht, hr⟩ := ih (fun n => f (n + 1)) (i + 1) (fun y hy => (hf y (by simp [hy])).shift) (drop_next hx)
        refine ⟨r, To.succ ?_, by simpa [hp'] using hr⟩
        simp only [M.slices_IndexFunc_api_TrackedUnit_api_TrackedUnit_loop1]
        rw [cast_succ]
        exact To.pos (drop_lt hx) (To.bindS (drop_idx hx) (To.bind h1.shift (To.neg hp ht)))
  obtain ⟨r, ht, hr⟩ := loop l f 0 hf rfl
  simp only [M.slices_ContainsFunc_api_TrackedUnit_api_TrackedUnit, M.slices_IndexFunc_api_TrackedUnit_api_TrackedUnit]
  rcases hr with ⟨ha, k, rfl⟩ | ⟨ha, rfl⟩
  · refine To.bind (a := (k : Int)) (To.bind ht To.pure) (To.pure.of ?_)
    simp [ha]
  · refine To.bind (a := (-1 : Int)) (To.bind ht To.pure) (To.pure.of ?_)
    simp [ha]
theorem tree_ok : ∀ (k d j : Nat) (t : TU), k + d = 9 → k ≤ j → szP j t ∨ k = 0 → To (fun n => M.markup_validTree n t (d : Int)) (mayF k d t)
  | 0, d, j, t, hd, _, _ => by
    refine To.succ ?_
    simp only [M.markup_validTree]
    exact To.pos (by omega) (To.pure.of rfl)
  | k + 1, d, j, t, hd, hj, hs => by
    have hs : szP j t := hs.resolve_right (by omega)
    cases j with
    | zero => exact absurd hs (by simp [szP])
    | succ j =>
      obtain ⟨s1, s2, s3, s4, s5, s6⟩ := hs
      have ih : ∀ x ∈ t.Kids, To (fun n => M.markup_validTree_1 (M.markup_validTree n) x (d : Int)) (!mayF k (d + 1) x) := fun x hx => by
        simp only [M.markup_validTree_1]
        exact To.bindS (addC_succ (by omega)) (To.bind (tree_ok k (d + 1) j x (by omega) (by omega) (.inl (s6 x hx))) To.pure)
      refine To.succ ?_
      simp only [M.markup_validTree]
      refine To.neg (by omega) (To.bind (a := decide (0 < d) && placeB t) ?_ ?_)
      · by_cases h : 0 < d
        · exact To.pos (by omega) (To.bindS (place_ok t (by omega)) (To.pure.of (by simp [h])))
        · exact To.neg (by omega) (To.pure.of (by simp [h]))
      · unfold mayF
        by_cases hp : (decide (0 < d) && placeB t) = true
        · rw [hp]
          exact To.pos rfl (To.pure.of (by simp))
        · have hp' : (decide (0 < d) && placeB t) = false := by simpa using hp
          rw [hp']
          refine To.neg (by decide) (To.bind (own_ok t) ?_)
          by_cases ho : ownB t = true
          · rw [ho]
            refine To.pos rfl (To.bind (has_tu t.Kids _ _ ih) (To.pure.of ?_))
            rw [any_not]; simp
          · exact To.neg ho (To.pure.of (by simp [ho]))
theorem rmay_ok : ∀ (k d j : Nat) (t : TU), k + d = 9 → k ≤ j → szP j t ∨ k = 0 → To (fun n => M.r53_may n t (d : Int)) (mayF k d t)
  | 0, d, j, t, hd, _, _ => by
    refine To.succ ?_
    simp only [M.r53_may]
    exact To.pos (by omega) (To.pure.of rfl)
  | k + 1, d, j, t, hd, hj, hs => by
    have hs : szP j t := hs.resolve_right (by omega)
    cases j with
    | zero => exact absurd hs (by simp [szP])
    | succ j =>
      obtain ⟨s1, s2, s3, s4, s5, s6⟩ := hs
      have ih : ∀ x ∈ t.Kids, To (fun n => M.r53_may n x ((d + 1 : Nat) : Int)) (mayF k (d + 1) x) := fun x hx => rmay_ok k (d + 1) j x (by omega) (by omega) (.inl (s6 x hx))
      have loop : ∀ (xs : List TU) (F : Nat → TU → Int → Option Bool) (i : Nat), (∀ x ∈ xs, To (fun n => F n x ((d + 1 : Nat) : Int)) (mayF k (d + 1) x)) → t.Kids.drop i = xs →
          To (fun n => M.r53_may_loop1 t (d : Int) (F n) n (i : Int)) (if xs.all (mayF k (d + 1)) = true then .inl () else .inr false) := by
        intro xs
        induction xs with
        | nil =>
          intro F i _ hx
          refine To.succ ?_
          simp only [M.r53_may_loop1]
          exact To.neg (drop_end hx) (To.pure.of rfl)
        | cons x xs ihx =>
          intro F i hF hx
          have := ihx (fun n => F (n + 1)) (i + 1) (fun y hy => (hF y (List.mem_cons_of_mem _ hy)).shift) (drop_next hx)
          refine To.succ ?_
          simp only [M.r53_may_loop1]
          refine To.pos (drop_lt hx) (To.bindS (drop_idx hx) (To.bindS (addC_succ (by omega)) (To.bind (hF x List.mem_cons_self).shift ?_)))
          by_cases hm : mayF k (d + 1) x = true
          · refine To.neg (by simp [hm]) ?_
            rw [cast_succ]
            exact this.of (by simp [hm])
          · exact To.pos (by simpa using hm) (To.pure.of (by simp [hm]))
      refine To.succ ?_
      simp only [M.r53_may]
      refine To.neg (by omega) (To.bind (a := decide (0 < d) && placeB t) ?_ ?_)
      · by_cases h : 0 < d
        · exact To.pos (by omega) (To.bindS (rplace_ok t (by omega)) (To.pure.of (by simp [h])))
        · exact To.neg (by omega) (To.pure.of (by simp [h]))
      · unfold mayF
        by_cases hp : (decide (0 < d) && placeB t) = true
        · rw [hp]
          exact To.pos rfl (To.pure.of (by simp))
        · have hp' : (decide (0 < d) && placeB t) = false := by simpa using hp
          rw [hp']
          refine To.neg (by decide) (To.bind (rown_ok t s3 s4) ?_)
          by_cases ho : ownB t = true
          · rw [ho]
            refine To.neg (by decide) (To.bind (loop t.Kids (fun n => M.r53_may n) 0 ih rfl) ?_)
            by_cases ha : t.Kids.all (mayF k (d + 1)) = true
            · rw [if_pos ha, ha]
              exact To.pure
            · rw [if_neg ha]
              exact To.pure.of (by simp [show t.Kids.all (mayF k (d + 1)) = false by simpa using ha])
          · exact To.pos (by simpa using ho) (To.pure.of (by simp [ho]))
end Go.Proofs.YtalogjkalmkpjaaGreatDoor
/-
  Lines of tracked units: how they are written, by the program and by the reference.
-/
set_option linter.unusedVariables false
set_option linter.unusedSimpArgs false
namespace Go.Proofs.YtalogjkalmkpjaaGreatDoor
open Go Go.Dec
theorem digits17_loop : ∀ (u : Nat) (s : Str), u + s.length ≤ 100000000 → ∃ (q : Nat) (s' : Str), To (fun n => M.r17_Digits_loop1 n (u : Int) s) ((q : Int), s') ∧ q < 10 ∧ UInt8.ofNat (48 + q) :: s' = Lib.decDigits u ++ s ∧ s'.length ≤ 100000000 := by
  intro u
  induction u using Nat.strongRecOn with
  | _ u ih =>
    intro s hs
    by_cases h : u < 10
    · refine ⟨u, s, To.succ ?_, h, by rw [dec_small h]; rfl, by omega⟩
      simp only [M.r17_Digits_loop1]
      exact To.neg (by omega) To.pure
    · have e1 : (u : Int).tmod 10 = ((u % 10 : Nat) : Int) := rfl
      have e2 : (u : Int).tdiv 10 = ((u / 10 : Nat) : Int) := rfl
      obtain ⟨q, s', h1, h2, h3, h4⟩ := ih (u / 10) (by omega) (UInt8.ofNat (48 + u % 10) :: s) (by simp; omega)
      refine ⟨q, s', To.succ ?_, h2, by rw [h3, dec_big h]; simp, h4⟩
      simp only [M.r17_Digits_loop1]
      have a1 : remC (u : Int) 10 = some ((u % 10 : Nat) : Int) := by
        unfold remC
        rw [e1, if_pos]
        refine ⟨by decide, ?_⟩
        simp [fits64]; omega
      have a2 : quoC (u : Int) 10 = some ((u / 10 : Nat) : Int) := by
        unfold quoC
        rw [e2, if_pos]
        refine ⟨by decide, ?_⟩
        simp [fits64]; omega
      have a3 : strOf [wrap8 ((48 : Int) + ((u % 10 : Nat) : Int))] = [UInt8.ofNat (48 + u % 10)] := by
        have : wrap8 ((48 : Int) + ((u % 10 : Nat) : Int)) = ((48 + u % 10 : Nat) : Int) := by unfold wrap8; omega
        rw [this]; rfl
      refine To.pos (by omega) (To.bindS a1 (To.bindS (addC_eq (by omega) (by omega)) (To.bindS (a := UInt8.ofNat (48 + u % 10) :: s) ?_ (To.bindS a2 h1))))
      rw [a3]
      exact catC_eq (by simp; omega)
theorem digits17 {m : Int} (h : numB m = true) : To (fun n => M.r17_Digits n m) (Lib.itoa m) := by
  obtain ⟨h0, h1⟩ := numB_iff.1 h
  obtain ⟨u, rfl⟩ : ∃ u : Nat, m = (u : Int) := ⟨m.toNat, by omega⟩
  obtain ⟨q, s', h2, h3, h4, h5⟩ := digits17_loop u [] (by simp; omega)
  simp only [M.r17_Digits]
  have a3 : strOf [wrap8 ((48 : Int) + (q : Int))] = [UInt8.ofNat (48 + q)] := by
    have : wrap8 ((48 : Int) + (q : Int)) = ((48 + q : Nat) : Int) := by unfold wrap8; omega
    rw [this]; rfl
  refine To.bind h2 (To.bindS (addC_eq (by omega) (by omega)) (To.bindS (a := UInt8.ofNat (48 + q) :: s') ?_ (To.pure.of ?_)))
  · rw [a3]
    exact catC_eq (by simp; omega)
  · rw [h4, List.append_nil]
    unfold Lib.itoa
    rw [if_neg (by omega)]
    rfl
def idF (i : api_Id) : Str := 35 :: (Lib.itoa i.Act ++ 46 :: (Lib.itoa i.Item ++ 46 :: Lib.itoa i.N))
theorem num_len {m : Int} (h : numB m = true) : (Lib.itoa m).length ≤ 20 := by
  obtain ⟨h0, h1⟩ := numB_iff.1 h
  exact itoa_len (by omega) (by omega)
theorem idF_len {i : api_Id} (h : idB i = true) : (idF i).length ≤ 63 := by
  obtain ⟨h1, h2, h3⟩ := idB_iff.1 h
  have := num_len h1; have := num_len h2; have := num_len h3
  simp [idF]; omega
theorem fid_ok {i : api_Id} (h : idB i = true) : M.markup_formatID i = some (idF i) := by
  obtain ⟨h1, h2, h3⟩ := idB_iff.1 h
  have l1 := num_len h1; have l2 := num_len h2; have l3 := num_len h3
  simp only [M.markup_formatID, itoaM, Option.bind_some]
  rw [catC_eq (by simp; omega), Option.bind_some, catC_eq (by simp; omega), Option.bind_some, catC_eq (by simp; omega), Option.bind_some, catC_eq (by simp; omega), Option.bind_some, catC_eq (by simp; omega), Option.bind_some]
  simp [idF]
theorem mark_ok {i : api_Id} (h : idB i = true) : To (fun n => M.r53_mark n i) (idF i) := by
  obtain ⟨h1, h2, h3⟩ := idB_iff.1 h
  have l1 := num_len h1; have l2 := num_len h2; have l3 := num_len h3
  simp only [M.r53_mark]
  refine To.bind (digits17 h1) (To.bindS (catC_eq (by simp; omega)) (To.bindS (catC_eq (by simp; omega)) (To.bind (digits17 h2) (To.bindS (catC_eq (by simp; omega)) (To.bindS (catC_eq (by simp; omega)) (To.bind (digits17 h3) (To.bindS (catC_eq (by simp; omega)) (To.pure.of ?_))))))))
  simp [idF]
def sgF (t : TU) : Str := if t.Moved = true then (if t.State = 1 then [62] else [60]) else if t.State = 1 then [43] else if t.State = 2 then [45] else [61]
theorem sgF_len (t : TU) : (sgF t).length = 1 := by
  unfold sgF
  split
  · split <;> rfl
  · split
    · rfl
    · split <;> rfl
theorem sign_ok (t : TU) : M.markup_sign t = some (sgF t) := by
  unfold M.markup_sign sgF
  by_cases h1 : t.Moved = true
  · by_cases h2 : t.State = 1 <;> simp [h1, h2]
  · by_cases h2 : t.State = 1
    · simp [h1, h2]
    · by_cases h3 : t.State = 2 <;> simp [h1, h2, h3]
theorem rsign_ok (t : TU) (h0 : 0 ≤ t.State) (h2 : t.State ≤ 2) : M.r53_sign t = some (sgF t) := by
  unfold M.r53_sign sgF
  have : t.State = 0 ∨ t.State = 1 ∨ t.State = 2 := by omega
  by_cases h1 : t.Moved = true
  · by_cases h2 : t.State = 1 <;> simp [h1, h2]
  · rcases this with h | h | h <;> simp [h1, h] <;> rfl
theorem name_len (k : Int) : (nameOf k).length ≤ 9 := by
  unfold nameOf idx
  split
  · cases h : nm[k.toNat]? with
    | none => simp
    | some x =>
      have := List.mem_of_getElem? h
      have h2 : ∀ y ∈ nm, y.length ≤ 9 := by decide
      exact h2 x this
  · simp
theorem rname_ok (k : Int) (h0 : 0 ≤ k) (h7 : k ≤ 7) : M.r06_Name k = some (nameOf k) := by
  unfold M.r06_Name nameOf
  rw [if_neg (by omega), if_neg (by omega)]
  obtain ⟨x, hx, _⟩ := idx_some (l := nm) (i := k) (by omega) (by simp [nm]; omega)
  have : idx ([([98, 111, 111, 107] : Str), ([112, 97, 114, 116] : Str), ([115, 101, 99, 116, 105, 111, 110] : Str), ([112, 97, 114, 97, 103, 114, 97, 112, 104] : Str), ([116, 97, 98, 108, 101] : Str), ([114, 111, 119] : Str), ([99, 101, 108, 108] : Str), ([110, 111, 116, 101] : Str)]) k = some x := hx
  rw [this, hx]; rfl
def indF (d : Nat) : Str := Lib.repeatL [32, 32] d
theorem indF_len (d : Nat) : (indF d).length = d * 2 := Lib.repeatL_length _ _
theorem indF_succ : ∀ d : Nat, indF d ++ [32, 32] = indF (d + 1)
  | 0 => rfl
  | d + 1 => by
    have ih := indF_succ d
    unfold indF at ih ⊢
    rw [Lib.repeatL, List.append_assoc, ih]
    rfl
def labT (l : Str) : Str := if l = [] then [] else 32 :: l
def wasT (l : Str) : Str := if l = [] then [] else [32, 119, 97, 115, 32] ++ l
def headT (l : List TW) : Str := if l.length = 0 then [] else [58, 32] ++ rowF l
def wordsT (l : List TW) : Str := if l.length = 0 then [] else [32, 124, 32] ++ rowF l
def restF (t : TU) : Str := if sgF t = [60] then idF t.Id else nameOf t.Kind ++ (labT t.Label ++ (wasT t.Was ++ (32 :: (idF t.Id ++ (headT t.Head ++ wordsT t.Words)))))
def lineF (d : Nat) (t : TU) : Str := indF d ++ (sgF t ++ (32 :: restF t))
theorem labT_len (l : Str) : (labT l).length ≤ l.length + 1 := by
  unfold labT; split <;> simp
theorem wasT_len (l : Str) : (wasT l).length ≤ l.length + 5 := by
  unfold wasT; split <;> simp
theorem headT_len (l : List TW) : (headT l).length ≤ 90002 := by
  unfold headT; split
  · simp
  · have := row_len l; simp; omega
theorem wordsT_len (l : List TW) : (wordsT l).length ≤ 90003 := by
  unfold wordsT; split
  · simp
  · have := row_len l; simp; omega
def LineP (t : TU) : Prop := idB t.Id = true ∧ 0 ≤ t.State ∧ t.State ≤ 2 ∧ t.Label.length ≤ 100 ∧ t.Was.length ≤ 100 ∧ (sgF t = [60] ∨ 0 ≤ t.Kind ∧ t.Kind ≤ 7)
theorem rest_len {t : TU} (h : LineP t) : (restF t).length ≤ 180400 := by
  obtain ⟨h1, h2, h3, h4, h5, h6⟩ := h
  have := idF_len h1; have := labT_len t.Label; have := wasT_len t.Was; have := headT_len t.Head; have := wordsT_len t.Words; have := name_len t.Kind
  unfold restF
  split
  · omega
  · simp; omega
theorem line_len {t : TU} {d : Nat} (hd : d ≤ 9) (h : LineP t) : (lineF d t).length ≤ 180500 := by
  have := rest_len h; have := indF_len d; have := sgF_len t
  unfold lineF
  simp; omega
theorem line_ok (t : TU) (d : Nat) (hd : d ≤ 9) (h : LineP t) : To (fun n => M.markup_line n t (d : Int)) (lineF d t) := by
  obtain ⟨h1, h2, h3, h4, h5, h6⟩ := h
  have b1 := idF_len h1; have b2 := labT_len t.Label; have b3 := wasT_len t.Was; have b4 := row_len t.Head; have b5 := row_len t.Words; have b6 := name_len t.Kind; have b7 := indF_len d; have b8 := sgF_len t
  simp only [M.markup_line]
  have hr : Go.Dec.repeatM ([32, 32] : Str) (d : Int) = some (indF d) := by
    unfold Go.Dec.repeatM
    rw [if_pos ⟨by omega, by simp; omega⟩, Int.toNat_natCast]; rfl
  refine To.bindS hr (To.bindS (sign_ok t) (To.bindS (catC_eq (by omega)) (To.bindS (catC_eq (by simp; omega)) (To.bindS (sign_ok t) ?_))))
  unfold lineF restF
  by_cases hs : sgF t = [60]
  · rw [if_pos hs]
    refine To.pos (by simp [hs]) (To.bindS (fid_ok h1) (To.bindS (catC_eq (by simp; omega)) (To.pure.of (by simp))))
  · rw [if_neg hs]
    refine To.neg (by simpa using hs) (To.bindS (kname t.Kind) (To.bindS (catC_eq (by simp; omega)) ?_))
    refine To.bind (a := indF d ++ sgF t ++ [32] ++ nameOf t.Kind ++ labT t.Label) ?_ ?_
    · by_cases hl : t.Label = []
      · exact To.neg (by simp [hl]) (To.pure.of (by simp [labT, hl]))
      · exact To.pos (by simp [hl]) (To.bindS (catC_eq (by simp; omega)) (To.bindS (catC_eq (by simp; omega)) (To.pure.of (by simp [labT, hl]))))
    refine To.bind (a := indF d ++ sgF t ++ [32] ++ nameOf t.Kind ++ labT t.Label ++ wasT t.Was) ?_ ?_
    · by_cases hl : t.Was = []
      · exact To.neg (by simp [hl]) (To.pure.of (by simp [wasT, hl]))
      · exact To.pos (by simp [hl]) (To.bindS (catC_eq (by simp; omega)) (To.bindS (catC_eq (by simp; omega)) (To.pure.of (by simp [wasT, hl]))))
    refine To.bindS (fid_ok h1) (To.bindS (catC_eq (by simp; omega)) (To.bindS (catC_eq (by simp; omega)) ?_))
    refine To.bind (a := indF d ++ sgF t ++ [32] ++ nameOf t.Kind ++ labT t.Label ++ wasT t.Was ++ ([32] ++ idF t.Id) ++ headT t.Head) ?_ ?_
    · by_cases hl : t.Head.length = 0
      · exact To.neg (by omega) (To.pure.of (by simp [headT, hl]))
      · exact To.pos (by omega) (To.bind (format_ok t.Head) (To.bindS (catC_eq (by simp; omega)) (To.bindS (catC_eq (by simp; omega)) (To.pure.of (by simp [headT, hl])))))
    · have b9 := headT_len t.Head
      by_cases hl : t.Words.length = 0
      · exact To.neg (by omega) (To.pure.of (by simp [wordsT, hl]))
      · exact To.pos (by omega) (To.bind (format_ok t.Words) (To.bindS (catC_eq (by simp; omega)) (To.bindS (catC_eq (by simp; omega)) (To.pure.of (by simp [wordsT, hl])))))
theorem rline_ok (t : TU) (d : Nat) (hd : d ≤ 9) (h : LineP t) : To (fun n => M.r53_line n t (d : Int)) (lineF d t) := by
  obtain ⟨h1, h2, h3, h4, h5, h6⟩ := h
  have b1 := idF_len h1; have b2 := labT_len t.Label; have b3 := wasT_len t.Was; have b4 := row_len t.Head; have b5 := row_len t.Words; have b6 := name_len t.Kind; have b7 := indF_len d; have b8 := sgF_len t
  have loop : ∀ (m i : Nat), i + m = d → To (fun n => M.r53_line_loop1 (d : Int) n (indF i) (i : Int)) (indF d) := by
    intro m
    induction m with
    | zero =>
      intro i hi
      refine To.succ ?_
      simp only [M.r53_line_loop1]
      exact To.neg (by omega) (To.pure.of (by rw [show i = d by omega]))
    | succ m ih =>
      intro i hi
      have bi := indF_len i
      refine To.succ ?_
      simp only [M.r53_line_loop1]
      refine To.pos (by omega) (To.bindS (a := indF (i + 1)) ?_ (To.bindS (addC_succ (by omega)) (ih (i + 1) (by omega))))
      rw [catC_eq (by simp; omega), indF_succ]
  simp only [M.r53_line]
  refine To.bind (loop d 0 (by omega)) (To.bindS (rsign_ok t h2 h3) (To.bindS (catC_eq (by omega)) (To.bindS (catC_eq (by simp; omega)) (To.bindS (rsign_ok t h2 h3) ?_))))
  unfold lineF restF
  by_cases hs : sgF t = [60]
  · rw [if_pos hs]
    refine To.pos (by simp [hs]) (To.bind (mark_ok h1) (To.bindS (catC_eq (by simp; omega)) (To.pure.of (by simp))))
  · rw [if_neg hs]
    obtain ⟨k0, k7⟩ := h6.resolve_left hs
    refine To.neg (by simpa using hs) (To.bindS (rname_ok t.Kind k0 k7) (To.bindS (catC_eq (by simp; omega)) ?_))
    refine To.bind (a := indF d ++ sgF t ++ [32] ++ nameOf t.Kind ++ labT t.Label) ?_ ?_
    · by_cases hl : t.Label = []
      · exact To.neg (by simp [hl]) (To.pure.of (by simp [labT, hl]))
      · exact To.pos (by simp [hl]) (To.bindS (catC_eq (by simp; omega)) (To.bindS (catC_eq (by simp; omega)) (To.pure.of (by simp [labT, hl]))))
    refine To.bind (a := indF d ++ sgF t ++ [32] ++ nameOf t.Kind ++ labT t.Label ++ wasT t.Was) ?_ ?_
    · by_cases hl : t.Was = []
      · exact To.neg (by simp [hl]) (To.pure.of (by simp [wasT, hl]))
      · exact To.pos (by simp [hl]) (To.bindS (catC_eq (by simp; omega)) (To.bindS (catC_eq (by simp; omega)) (To.pure.of (by simp [wasT, hl]))))
    refine To.bindS (catC_eq (by simp; omega)) (To.bind (mark_ok h1) (To.bindS (catC_eq (by simp; omega)) ?_))
    refine To.bind (a := indF d ++ sgF t ++ [32] ++ nameOf t.Kind ++ labT t.Label ++ wasT t.Was ++ ([32] ++ idF t.Id) ++ headT t.Head) ?_ ?_
    · by_cases hl : t.Head.length = 0
      · exact To.neg (by omega) (To.pure.of (by simp [headT, hl]))
      · exact To.pos (by omega) (To.bindS (catC_eq (by simp; omega)) (To.bind (rrow_ok t.Head) (To.bindS (catC_eq (by simp; omega)) (To.pure.of (by simp [headT, hl])))))
    · have b9 := headT_len t.Head
      by_cases hl : t.Words.length = 0
      · exact To.neg (by omega) (To.pure.of (by simp [wordsT, hl]))
      · exact To.pos (by omega) (To.bindS (catC_eq (by simp; omega)) (To.bind (rrow_ok t.Words) (To.bindS (catC_eq (by simp; omega)) (To.pure.of (by simp [wordsT, hl])))))
def linF : Nat → Nat → TU → List Str
  | 0, _, _ => []
  | k + 1, d, t => lineF d t :: t.Kids.flatMap (linF k (d + 1))
theorem place_own {t : TU} (h : placeB t = true) : t.Kids = [] ∧ sgF t = [60] := by
  have := of_decide_eq_true h
  obtain ⟨h1, h2, h3, h4, h5, h6, h7⟩ := this
  refine ⟨List.eq_nil_of_length_eq_zero (by omega), ?_⟩
  unfold sgF
  rw [if_pos h2, if_neg (by omega)]
theorem may_line {k d j : Nat} {t : TU} (hm : mayF k d t = true) (hs : szP j t) : LineP t := by
  cases k with
  | zero => cases hm
  | succ k =>
    cases j with
    | zero => exact absurd hs (by simp [szP])
    | succ j =>
      obtain ⟨s1, s2, s3, s4, s5, s6⟩ := hs
      unfold mayF at hm
      rw [Bool.or_eq_true, Bool.and_eq_true, Bool.and_eq_true] at hm
      rcases hm with ⟨_, hm⟩ | ⟨hm, _⟩
      · have hp := place_own hm
        obtain ⟨h1, h2, h3, h4, h5, h6, h7⟩ := of_decide_eq_true hm
        exact ⟨h3, by omega, by omega, s3, s4, .inl hp.2⟩
      · obtain ⟨⟨a1, a2, a3⟩, h2, h3, h4, h5⟩ := of_decide_eq_true hm
        refine ⟨a3, ?_, ?_, s3, s4, .inr ⟨a1, a2⟩⟩
        · rcases h5 with h | ⟨h | h, _⟩ <;> omega
        · rcases h5 with h | ⟨h | h, _⟩ <;> omega
theorem may_kids {k d j : Nat} {t : TU} (hm : mayF (k + 1) d t = true) (hs : szP (j + 1) t) : ∀ x ∈ t.Kids, mayF k (d + 1) x = true ∧ szP j x := by
  intro x hx
  refine ⟨?_, hs.2.2.2.2.2 x hx⟩
  unfold mayF at hm
  rw [Bool.or_eq_true, Bool.and_eq_true, Bool.and_eq_true] at hm
  rcases hm with ⟨_, hm⟩ | ⟨_, hm⟩
  · rw [(place_own hm).1] at hx; cases hx
  · exact List.all_eq_true.1 hm x hx
theorem lin_len : ∀ (k d j : Nat) (t : TU), k ≤ j → (linF k d t).length ≤ cntF j t
  | 0, _, _, _, _ => by simp [linF]
  | k + 1, d, 0, _, h => by omega
  | k + 1, d, j + 1, t, h => by
    have : ∀ xs : List TU, (xs.flatMap (linF k (d + 1))).length ≤ (xs.map (cntF j)).sum := by
      intro xs
      induction xs with
      | nil => simp
      | cons x xs ih =>
        have := lin_len k (d + 1) j x (by omega)
        simp only [List.flatMap_cons, List.length_append, List.map_cons, List.sum_cons]
        omega
    have := this t.Kids
    simp only [linF, cntF, List.length_cons]
    omega
theorem lines_ok : ∀ (k d j : Nat) (t : TU) (c : List Str), k + d = 9 → k ≤ j → mayF k d t = true → szP j t → c.length + cntF j t ≤ 1000 → To (fun n => M.markup_Lines_1 n t (d : Int) c) (c ++ linF k d t)
  | 0, d, j, t, c, hd, hj, hm, hs, hc => by cases hm
  | k + 1, d, 0, t, c, hd, hj, hm, hs, hc => by omega
  | k + 1, d, j + 1, t, c, hd, hj, hm, hs, hc => by
    have hk := may_kids hm hs
    have loop : ∀ (xs : List TU) (c : List Str), (∀ x ∈ xs, x ∈ t.Kids) → c.length + (xs.map (cntF j)).sum ≤ 1000 → To (fun n => M.markup_Lines_1_loop1 (d : Int) (M.markup_Lines_1 n) xs c) (c ++ xs.flatMap (linF k (d + 1))) := by
      intro xs
      induction xs with
      | nil =>
        intro c _ _
        simp only [M.markup_Lines_1_loop1]
        exact To.pure.of (by simp)
      | cons x xs ih =>
        intro c hx hc
        have hx1 := hk x (hx x List.mem_cons_self)
        have hl := lin_len k (d + 1) j x (by omega)
        simp only [List.map_cons, List.sum_cons] at hc
        have h1 := lines_ok k (d + 1) j x c (by omega) (by omega) hx1.1 hx1.2 (by omega)
        have h2 := ih (c ++ linF k (d + 1) x) (fun y hy => hx y (List.mem_cons_of_mem _ hy)) (by simp; omega)
        simp only [M.markup_Lines_1_loop1]
        exact To.bindS (addC_succ (by omega)) (To.bind h1 (h2.of (by simp)))
    unfold cntF at hc
    refine To.succ ?_
    simp only [M.markup_Lines_1]
    refine To.bind (line_ok t d (by omega) (may_line hm hs)) (To.bindS (appC_eq (by simp; omega)) (To.bind (loop t.Kids (c ++ [lineF d t]) (fun x hx => hx) (by simp; omega)) (To.pure.of ?_)))
    simp [linF]
theorem rlines_ok : ∀ (k d j : Nat) (t : TU), k + d = 9 → k ≤ j → mayF k d t = true → szP j t → cntF j t ≤ 1000 → To (fun n => M.r53_lines n t (d : Int)) (linF k d t)
  | 0, d, j, t, hd, hj, hm, hs, hc => by cases hm
  | k + 1, d, 0, t, hd, hj, hm, hs, hc => by omega
  | k + 1, d, j + 1, t, hd, hj, hm, hs, hc => by
    have hk := may_kids hm hs
    have loop : ∀ (xs : List TU) (F : Nat → TU → Int → Option (List Str)) (c : List Str) (i : Nat), (∀ x ∈ xs, To (fun n => F n x ((d + 1 : Nat) : Int)) (linF k (d + 1) x)) → t.Kids.drop i = xs → c.length + (xs.map (cntF j)).sum ≤ 1000 →
        To (fun n => M.r53_lines_loop1 t (d : Int) (F n) n c (i : Int)) (c ++ xs.flatMap (linF k (d + 1))) := by
      intro xs
      induction xs with
      | nil =>
        intro F c i _ hx _
        refine To.succ ?_
        simp only [M.r53_lines_loop1]
        exact To.neg (drop_end hx) (To.pure.of (by simp))
      | cons x xs ih =>
        intro F c i hF hx hc
        have hl := lin_len k (d + 1) j x (by omega)
        simp only [List.map_cons, List.sum_cons] at hc
        have h2 := ih (fun n => F (n + 1)) (c ++ linF k (d + 1) x) (i + 1) (fun y hy => (hF y (List.mem_cons_of_mem _ hy)).shift) (drop_next hx) (by simp; omega)
        refine To.succ ?_
        simp only [M.r53_lines_loop1]
        refine To.pos (drop_lt hx) (To.bindS (drop_idx hx) (To.bindS (addC_succ (by omega)) (To.bind (hF x List.mem_cons_self).shift (To.bindS (appC_eq (by omega)) ?_))))
        rw [cast_succ]
        exact h2.of (by simp)
    have hsum : ∀ xs : List TU, ∀ x ∈ xs, cntF j x ≤ (xs.map (cntF j)).sum := by
      intro xs
      induction xs with
      | nil => intro x hx; cases hx
      | cons y ys ih =>
        intro x hx
        simp only [List.map_cons, List.sum_cons]
        rcases List.mem_cons.1 hx with rfl | hx
        · omega
        · have := ih x hx; omega
    unfold cntF at hc
    refine To.succ ?_
    simp only [M.r53_lines]
    refine To.bind (rline_ok t d (by omega) (may_line hm hs)) (To.bind (loop t.Kids (fun n => M.r53_lines n) [lineF d t] 0 (fun x hx => rlines_ok k (d + 1) j x (by omega) (by omega) (hk x hx).1 (hk x hx).2 (by have := hsum t.Kids x hx; omega)) rfl (by simp; omega)) (To.pure.of ?_))
    simp [linF]
theorem lin_lens : ∀ (k d j : Nat) (t : TU), k + d = 9 → k ≤ j → mayF k d t = true → szP j t → ∀ x ∈ linF k d t, x.length ≤ 180500
  | 0, d, j, t, hd, hj, hm, hs, x, hx => by cases hm
  | k + 1, d, 0, t, hd, hj, hm, hs, x, hx => by omega
  | k + 1, d, j + 1, t, hd, hj, hm, hs, x, hx => by
    have hk := may_kids hm hs
    unfold linF at hx
    rcases List.mem_cons.1 hx with rfl | hx
    · exact line_len (by omega) (may_line hm hs)
    · obtain ⟨y, hy, hxy⟩ := List.mem_flatMap.1 hx
      exact lin_lens k (d + 1) j y (by omega) (by omega) (hk y hy).1 (hk y hy).2 x hxy
def textF (l : List Str) : Str := l.flatMap fun x => x ++ [10]
theorem text_join : ∀ (l : List Str), l ≠ [] → joinN l ++ [10] = textF l
  | [], h => absurd rfl h
  | x :: l, _ => by
    have : ∀ l : List Str, tailN l ++ [10] = 10 :: textF l := by
      intro l
      induction l with
      | nil => rfl
      | cons y l ih =>
        have e : tailN (y :: l) = 10 :: (y ++ tailN l) := rfl
        rw [e, List.cons_append, List.append_assoc, ih]
        simp [textF]
    show (x ++ tailN l) ++ [10] = _
    rw [List.append_assoc, this]
    simp [textF]
theorem total_le (B : Nat) : ∀ l : List Str, (∀ x ∈ l, x.length ≤ B) → total l ≤ (B + 1) * l.length
  | [], _ => by simp [total]
  | x :: l, h => by
    have := total_le B l (fun y hy => h y (List.mem_cons_of_mem _ hy))
    have hx := h x List.mem_cons_self
    rw [total_cons, List.length_cons, Nat.mul_succ]
    omega
theorem text_len (B : Nat) : ∀ l : List Str, (∀ x ∈ l, x.length ≤ B) → (textF l).length ≤ (B + 1) * l.length
  | [], _ => by simp [textF]
  | x :: l, h => by
    have := text_len B l (fun y hy => h y (List.mem_cons_of_mem _ hy))
    have hx := h x List.mem_cons_self
    have e : textF (x :: l) = x ++ [10] ++ textF l := rfl
    rw [e, List.length_cons, Nat.mul_succ]
    simp only [List.length_append, List.length_cons, List.length_nil]
    omega
theorem rtext_loop (l : List Str) : ∀ (xs : List Str) (i : Nat) (s : Str), l.drop i = xs → s.length + (textF xs).length ≤ 1000000000 → To (fun n => M.r53_Text_loop1 l n s (i : Int)) (s ++ textF xs)
  | [], i, s, hx, hs => by
    refine To.succ ?_
    simp only [M.r53_Text_loop1]
    exact To.neg (drop_end hx) (To.pure.of (by simp [textF]))
  | x :: xs, i, s, hx, hs => by
    have e : textF (x :: xs) = x ++ [10] ++ textF xs := rfl
    rw [e] at hs ⊢
    simp only [List.length_append, List.length_cons, List.length_nil] at hs
    have ih := rtext_loop l xs (i + 1) (s ++ x ++ [10]) (drop_next hx) (by simp; omega)
    refine To.succ ?_
    simp only [M.r53_Text_loop1]
    refine To.pos (drop_lt hx) (To.bindS (drop_idx hx) (To.bindS (catC_eq (by omega)) (To.bindS (catC_eq (by simp; omega)) ?_)))
    rw [cast_succ]
    exact ih.of (by simp)
theorem same04_ok (l : List Str) : To (fun n => M.r04_Same n l l) true := by
  have loop : ∀ (xs : List Str) (i : Nat), l.drop i = xs → To (fun n => M.r04_Same_loop1 l l n (i : Int)) (.inl ()) := by
    intro xs
    induction xs with
    | nil =>
      intro i hx
      refine To.succ ?_
      simp only [M.r04_Same_loop1]
      exact To.neg (drop_end hx) To.pure
    | cons x xs ih =>
      intro i hx
      refine To.succ ?_
      simp only [M.r04_Same_loop1]
      refine To.pos (drop_lt hx) (To.bindS (drop_idx hx) (To.bindS (drop_idx hx) (To.neg (by simp) ?_)))
      rw [cast_succ]
      exact ih (i + 1) (drop_next hx)
  simp only [M.r04_Same]
  exact To.neg (by simp) (To.bind (loop l 0 rfl) To.pure)
def mfF (t : TU) : Str × Int := if mayF 9 0 t = true then (if (16384 : Int) < ((textF (linF 9 0 t)).length : Int) then ([], 6) else (textF (linF 9 0 t), 0)) else ([], 1)
def mlF (t : TU) : List Str := if mayF 9 0 t = true then linF 9 0 t else []
theorem mlines_ok (t : TU) (h : szP 13 t) (hc : cntF 13 t ≤ 40) : To (fun n => M.markup_Lines n t) (mlF t) := by
  simp only [M.markup_Lines]
  refine To.bind (tree_ok 9 0 13 t rfl (by decide) (.inl h)) ?_
  unfold mlF
  by_cases hm : mayF 9 0 t = true
  · rw [if_pos hm]
    exact To.neg (by simp [hm]) (To.bind (lines_ok 9 0 13 t [] rfl (by decide) hm h (by simp; omega)) To.pure)
  · rw [if_neg hm]
    exact To.pos (by simpa using hm) To.pure
theorem rmlines_ok (t : TU) (h : szP 13 t) (hc : cntF 13 t ≤ 40) : To (fun n => M.r53_Lines n t) (mlF t) := by
  simp only [M.r53_Lines, M.r53_May]
  refine To.bind (To.bind (rmay_ok 9 0 13 t rfl (by decide) (.inl h)) To.pure) ?_
  unfold mlF
  by_cases hm : mayF 9 0 t = true
  · rw [if_pos hm]
    exact To.neg (by simp [hm]) (To.bind (rlines_ok 9 0 13 t rfl (by decide) hm h (by omega)) To.pure)
  · rw [if_neg hm]
    exact To.pos (by simpa using hm) To.pure
theorem mformat_ok (t : TU) (h : szP 13 t) (hc : cntF 13 t ≤ 40) : To (fun n => M.markup_Format n t) (mfF t) := by
  simp only [M.markup_Format]
  refine To.bind (mlines_ok t h hc) ?_
  unfold mlF mfF
  by_cases hm : mayF 9 0 t = true
  · have hlen := lin_len 9 0 13 t (by decide)
    have hb := total_le 180500 _ (lin_lens 9 0 13 t rfl (by decide) hm h)
    have hb2 := text_len 180500 _ (lin_lens 9 0 13 t rfl (by decide) hm h)
    have hne : linF 9 0 t ≠ [] := by simp [linF]
    have hne' : (linF 9 0 t).length ≠ 0 := fun e => hne (List.eq_nil_of_length_eq_zero e)
    have hmul : (180500 + 1) * (linF 9 0 t).length ≤ (180500 + 1) * 40 := Nat.mul_le_mul_left _ (by omega)
    have htj := text_join _ hne
    have htl : (joinN (linF 9 0 t)).length + 1 = (textF (linF 9 0 t)).length := by rw [← htj]; simp
    rw [if_pos hm, if_pos hm]
    refine To.neg (by omega) (To.bindS (join_okN _ (by omega)) (To.bindS (a := textF (linF 9 0 t)) ?_ ?_))
    · rw [catC_eq (by simp; omega), htj]
    · by_cases hl : (16384 : Int) < ((textF (linF 9 0 t)).length : Int)
      · exact To.pos hl (To.pure.of (if_pos hl).symm)
      · exact To.neg hl (To.pure.of (if_neg hl).symm)
  · rw [if_neg hm, if_neg hm]
    exact To.pos (by simp) To.pure
theorem rtext_ok (t : TU) (h : szP 13 t) (hc : cntF 13 t ≤ 40) : To (fun n => M.r53_Text n t) (mfF t) := by
  simp only [M.r53_Text, M.r53_May]
  refine To.bind (To.bind (rmay_ok 9 0 13 t rfl (by decide) (.inl h)) To.pure) ?_
  unfold mfF
  by_cases hm : mayF 9 0 t = true
  · have hlen := lin_len 9 0 13 t (by decide)
    have hb2 := text_len 180500 _ (lin_lens 9 0 13 t rfl (by decide) hm h)
    have hmul : (180500 + 1) * (linF 9 0 t).length ≤ (180500 + 1) * 40 := Nat.mul_le_mul_left _ (by omega)
    rw [if_pos hm]
    refine To.neg (by simp [hm]) (To.bind (rlines_ok 9 0 13 t rfl (by decide) hm h (by omega)) (To.bind (rtext_loop _ _ 0 [] rfl (by simp; omega)) ?_))
    rw [List.nil_append]
    by_cases hl : (16384 : Int) < ((textF (linF 9 0 t)).length : Int)
    · exact To.pos hl (To.pure.of (if_pos hl).symm)
    · exact To.neg hl (To.pure.of (if_neg hl).symm)
  · rw [if_neg hm]
    exact To.pos (by simpa using hm) To.pure
end Go.Proofs.YtalogjkalmkpjaaGreatDoor
/-
  A line of a tracked unit is cut where it was joined: where its bars and colons stand.
-/
set_option linter.unusedVariables false
set_option linter.unusedSimpArgs false
namespace Go.Proofs.YtalogjkalmkpjaaGreatDoor
open Go Go.Dec
def addI (k : Nat) (i : Int) : Int := if i = -1 then -1 else i + (k : Int)
theorem index_m1 (s sub : Str) : Lib.index s sub = -1 ∨ 0 ≤ Lib.index s sub := by
  rcases Lib.index_spec s sub with ⟨h1, _⟩ | ⟨i, h1, _⟩
  · exact .inl h1
  · exact .inr (by omega)
theorem addI_add (a b : Nat) (i : Int) (h : i = -1 ∨ 0 ≤ i) : addI a (addI b i) = addI (a + b) i := by
  unfold addI
  by_cases hi : i = -1
  · simp [hi]
  · rw [if_neg hi, if_neg hi, if_neg (by omega)]
    omega
theorem index_step {b : UInt8} {l sub : Str} (h : sub.isPrefixOf (b :: l) = false) : Lib.index (b :: l) sub = addI 1 (Lib.index l sub) := by
  rw [Lib.index, h]
  unfold addI
  by_cases hi : Lib.index l sub = -1
  · simp [hi]
  · have : (Lib.index l sub == -1) = false := by simpa using hi
    rw [this, if_neg hi]; rfl
theorem index_here {b : UInt8} {l sub : Str} (h : sub.isPrefixOf (b :: l) = true) : Lib.index (b :: l) sub = 0 := by
  rw [Lib.index, h]; rfl
theorem index_skip (c : UInt8) (sub : Str) (rest : Str) : ∀ x : Str, c ∉ x → Lib.index (x ++ rest) (c :: sub) = addI x.length (Lib.index rest (c :: sub))
  | [], _ => by
    unfold addI
    rcases index_m1 rest (c :: sub) with h | h
    · simp [h]
    · rw [if_neg (by omega)]; simp
  | b :: x, h => by
    have hb : c ≠ b := fun e => h (by simp [e])
    have ih := index_skip c sub rest x (fun hm => h (List.mem_cons_of_mem _ hm))
    rw [List.cons_append, index_step (by simp [List.isPrefixOf, hb]), ih, addI_add _ _ _ (index_m1 _ _)]
    congr 1
    simp; omega
theorem cut_of {s sub : Str} {x y : Str} (hi : Lib.index s sub = (x.length : Int)) (hs : s = x ++ (sub ++ y)) : Lib.cut s sub = (x, y, true) := by
  unfold Lib.cut
  rw [hi, if_pos (by omega), Int.toNat_natCast, hs]
  have e1 : (x ++ (sub ++ y)).take x.length = x := by simp
  have e2 : (x ++ (sub ++ y)).drop (x.length + sub.length) = y := by
    rw [← List.append_assoc, ← List.length_append, List.drop_left]
  rw [e1, e2]
theorem cut_none {s sub : Str} (hi : Lib.index s sub = -1) : Lib.cut s sub = (s, [], false) := by
  unfold Lib.cut
  rw [hi, if_neg (by decide)]
def barS : Str := [32, 124, 32]
theorem bar_not {p rest : Str} (h32 : (32 : UInt8) ∉ p) (hp : p ≠ [124]) (hr : rest = [] ∨ rest.head? = some 32) : barS.isPrefixOf (32 :: (p ++ rest)) = false := by
  cases p with
  | nil =>
    rcases hr with rfl | hr
    · rfl
    · cases rest with
      | nil => rfl
      | cons b l =>
        simp only [List.head?_cons, Option.some.injEq] at hr
        subst hr
        simp [barS, List.isPrefixOf]
  | cons b p =>
    by_cases hb : b = 124
    · subst hb
      cases p with
      | nil => exact absurd rfl hp
      | cons c p =>
        have hc : (32 : UInt8) ≠ c := fun e => h32 (by simp [e])
        simp [barS, List.isPrefixOf, hc]
    · have hb' : (124 : UInt8) ≠ b := fun e => hb e.symm
      simp [barS, List.isPrefixOf, hb']
theorem tail_head (ps : List Str) (rest : Str) (hr : rest = [] ∨ rest.head? = some 32) : tailS ps ++ rest = [] ∨ (tailS ps ++ rest).head? = some 32 := by
  cases ps with
  | nil => exact hr
  | cons p ps => exact .inr rfl
theorem bar_index (rest : Str) (hr : rest = [] ∨ rest.head? = some 32) : ∀ (ps : List Str), (∀ p ∈ ps, (32 : UInt8) ∉ p ∧ p ≠ [124]) → ∀ x : Str, (32 : UInt8) ∉ x → Lib.index (x ++ (tailS ps ++ rest)) barS = addI (x.length + (tailS ps).length) (Lib.index rest barS)
  | [], _, x, hx => index_skip 32 [124, 32] rest x hx
  | p :: ps, h, x, hx => by
    have hp := h p List.mem_cons_self
    have ih := bar_index rest hr ps (fun q hq => h q (List.mem_cons_of_mem _ hq)) p hp.1
    have e : tailS (p :: ps) ++ rest = 32 :: (p ++ (tailS ps ++ rest)) := by simp [tailS]
    have hs := index_skip 32 [124, 32] (tailS (p :: ps) ++ rest) x hx
    rw [show (32 :: [124, 32] : Str) = barS from rfl] at hs
    rw [hs, e, index_step (bar_not hp.1 hp.2 (tail_head ps rest hr)), ih, addI_add _ _ _ (index_m1 _ _), addI_add _ _ _ (index_m1 _ _)]
    congr 1
    simp [tailS]; omega
theorem bar_cut {x : Str} {ps : List Str} (hx : (32 : UInt8) ∉ x) (hp : ∀ p ∈ ps, (32 : UInt8) ∉ p ∧ p ≠ [124]) (y : Str) : Lib.cut (x ++ (tailS ps ++ (barS ++ y))) barS = (x ++ tailS ps, y, true) := by
  refine cut_of ?_ (by simp)
  rw [bar_index _ (.inr rfl) ps hp x hx, show barS ++ y = 32 :: (124 :: 32 :: y) from rfl, index_here (by simp [barS, List.isPrefixOf])]
  simp [addI]
theorem bar_none {x : Str} {ps : List Str} (hx : (32 : UInt8) ∉ x) (hp : ∀ p ∈ ps, (32 : UInt8) ∉ p ∧ p ≠ [124]) : Lib.cut (x ++ tailS ps) barS = (x ++ tailS ps, [], false) := by
  refine cut_none ?_
  have := bar_index [] (.inl rfl) ps hp x hx
  rw [List.append_nil] at this
  rw [this]
  rfl
theorem colon_cut {x : Str} (hx : (58 : UInt8) ∉ x) (y : Str) : Lib.cut (x ++ ([58, 32] ++ y)) [58, 32] = (x, y, true) := by
  refine cut_of ?_ rfl
  rw [index_skip 58 [32] _ x hx, show ([58, 32] : Str) ++ y = 58 :: (32 :: y) from rfl, index_here (by simp [List.isPrefixOf])]
  simp [addI]
theorem colon_none {x : Str} (hx : (58 : UInt8) ∉ x) : Lib.cut x [58, 32] = (x, [], false) := by
  refine cut_none ?_
  have := index_skip 58 [32] [] x hx
  rw [List.append_nil] at this
  rw [this]
  rfl
theorem esc_bar {s : Str} : esc s ≠ [124] := by
  unfold esc
  cases s with
  | nil => simp
  | cons b l =>
    by_cases hb : spB b = true
    · simp [hb]
    · simp only [hb]
      intro e
      simp only [Bool.false_eq_true, if_false, List.cons.injEq] at e
      rw [e.1] at hb
      exact hb (by decide)
theorem pcs_bar : ∀ (l : List TW) (p : Option Int), ∀ x ∈ pcsT p l, x ≠ [124]
  | [], p, x, hx => by simp [pcsT] at hx
  | w :: l, p, x, hx => by
    have hop : ∀ s, ∀ y ∈ opP s, y ≠ [124] := by
      intro s y hy
      unfold opP at hy
      split at hy
      · rw [List.mem_singleton.1 hy]; decide
      · split at hy
        · rw [List.mem_singleton.1 hy]; decide
        · cases hy
    have hsh : ∀ s, ∀ y ∈ shP s, y ≠ [124] := by
      intro s y hy
      unfold shP at hy
      split at hy
      · rw [List.mem_singleton.1 hy]; decide
      · split at hy
        · rw [List.mem_singleton.1 hy]; decide
        · cases hy
    unfold pcsT at hx
    rcases List.mem_append.1 hx with hx | hx
    · split at hx
      · cases hx
      · exact hop _ x hx
    · rcases List.mem_cons.1 hx with rfl | hx
      · exact esc_bar
      · rcases List.mem_append.1 hx with hx | hx
        · split at hx
          · exact hsh _ x hx
          · cases hx
        · exact pcs_bar l _ x hx
theorem head_pcs {l : List TW} (h : rowB l = true) (hl : l.length ≠ 0) : headT l = 58 :: tailS (pcsT none l) := by
  unfold headT
  rw [if_neg hl]
  have hf : rowF l = rowT none l := if_pos h
  rw [hf]
  cases l with
  | nil => exact absurd rfl hl
  | cons w l =>
    rw [← pcs_join w l]
    have hne : pcsT none (w :: l) ≠ [] := by unfold pcsT; simp
    cases hq : pcsT none (w :: l) with
    | nil => exact absurd hq hne
    | cons a b => simp [tailS, joinS]
theorem itoa_no (n : Int) (c : UInt8) (h : c.toNat ≠ 45 ∧ (c.toNat < 48 ∨ 57 < c.toNat)) : c ∉ Lib.itoa n := by
  intro hm
  rcases itoa_byte hm with h1 | h1 <;> omega
theorem idF_no (i : api_Id) (c : UInt8) (h : c.toNat ≠ 45 ∧ (c.toNat < 48 ∨ 57 < c.toNat)) (h2 : c ≠ 35) (h3 : c ≠ 46) : c ∉ idF i := by
  have a := itoa_no i.Act c h; have b := itoa_no i.Item c h; have d := itoa_no i.N c h
  unfold idF
  simp [a, b, d, h2, h3]
theorem lab_no58 {s : Str} (h : labB s = true) : (58 : UInt8) ∉ s := by
  unfold labB at h
  simp only [Bool.and_eq_true] at h
  intro hm
  rw [← List.take_append_drop (s.takeWhile isDig).length s] at hm
  rcases List.mem_append.1 hm with hm | hm
  · have e : s.take (s.takeWhile isDig).length = s.takeWhile isDig := by
      have h0 := List.takeWhile_append_dropWhile (p := isDig) (l := s)
      have : (s.takeWhile isDig ++ s.dropWhile isDig).take (s.takeWhile isDig).length = s.takeWhile isDig := by rw [List.take_append_of_le_length (Nat.le_refl _), List.take_length]
      rw [h0] at this
      exact this
    rw [e] at hm
    have := List.all_takeWhile (p := isDig) (l := s)
    have := List.all_eq_true.1 this _ hm
    revert this; decide
  · have := List.all_eq_true.1 h.2 _ hm
    revert this; decide
theorem name_no58 {k : Int} (h0 : 0 ≤ k) (h1 : k ≤ 7) : (58 : UInt8) ∉ nameOf k := by
  obtain ⟨m, rfl⟩ : ∃ m : Nat, k = (m : Int) := ⟨k.toNat, by omega⟩
  have hm : m = 0 ∨ m = 1 ∨ m = 2 ∨ m = 3 ∨ m = 4 ∨ m = 5 ∨ m = 6 ∨ m = 7 := by omega
  rcases hm with rfl | rfl | rfl | rfl | rfl | rfl | rfl | rfl <;> decide
def labP (l : Str) : List Str := if l = [] then [] else [l]
def wasP (l : Str) : List Str := if l = [] then [] else [[119, 97, 115], l]
theorem labP_tail (l : Str) : tailS (labP l) = labT l := by
  unfold labP labT; split <;> simp [tailS]
theorem wasP_tail (l : Str) : tailS (wasP l) = wasT l := by
  unfold wasP wasT; split <;> simp [tailS]
def frP (t : TU) : List Str := labP t.Label ++ (wasP t.Was ++ [idF t.Id])
def frF (t : TU) : Str := nameOf t.Kind ++ tailS (frP t)
theorem frF_eq (t : TU) : frF t = nameOf t.Kind ++ (labT t.Label ++ (wasT t.Was ++ (32 :: idF t.Id))) := by
  unfold frF frP
  rw [tailS_append, tailS_append, labP_tail, wasP_tail]
  simp [tailS]
theorem own_lab {t : TU} (h : ownB t = true) : (t.Label ≠ [] → labB t.Label = true) ∧ (t.Was ≠ [] → labB t.Was = true) := by
  obtain ⟨_, _, h3, h4, _⟩ := of_decide_eq_true h
  exact ⟨h3.2, fun e => (h4 e).1⟩
theorem frP_no {t : TU} (h : ownB t = true) : ∀ p ∈ frP t, (32 : UInt8) ∉ p ∧ p ≠ [124] ∧ (58 : UInt8) ∉ p := by
  obtain ⟨h1, h2⟩ := own_lab h
  have hlab : ∀ s : Str, labB s = true → (32 : UInt8) ∉ s ∧ s ≠ [124] ∧ (58 : UInt8) ∉ s := by
    intro s hs
    refine ⟨lab_no hs, ?_, lab_no58 hs⟩
    rintro rfl
    exact absurd hs (by decide)
  intro p hp
  unfold frP labP wasP at hp
  simp only [List.mem_append] at hp
  rcases hp with hp | hp | hp
  · split at hp
    · cases hp
    · rename_i hn
      rw [List.mem_singleton.1 hp]
      exact hlab _ (h1 hn)
  · split at hp
    · cases hp
    · rename_i hn
      rcases List.mem_cons.1 hp with rfl | hp
      · exact ⟨by decide, by decide, by decide⟩
      · rw [List.mem_singleton.1 hp]
        exact hlab _ (h2 hn)
  · rw [List.mem_singleton.1 hp]
    exact ⟨idF_no _ _ (by decide) (by decide) (by decide), by simp [idF], idF_no _ _ (by decide) (by decide) (by decide)⟩
theorem front_pcs {t : TU} (h : ownB t = true) : ∃ ps : List Str, frF t ++ headT t.Head = nameOf t.Kind ++ tailS ps ∧ ∀ p ∈ ps, (32 : UInt8) ∉ p ∧ p ≠ [124] := by
  have hno := frP_no h
  obtain ⟨_, ⟨hr, _⟩, _⟩ := of_decide_eq_true h
  by_cases hl : t.Head.length = 0
  · refine ⟨frP t, ?_, fun p hp => ⟨(hno p hp).1, (hno p hp).2.1⟩⟩
    unfold headT
    rw [if_pos hl, List.append_nil]; rfl
  · refine ⟨labP t.Label ++ (wasP t.Was ++ [idF t.Id ++ [58]]) ++ pcsT none t.Head, ?_, ?_⟩
    · rw [head_pcs hr hl, frF_eq, tailS_append, tailS_append, tailS_append, labP_tail, wasP_tail]
      simp [tailS]
    · intro p hp
      have hst : t.Head.all stB = true := by
        unfold rowB at hr
        exact (Bool.and_eq_true _ _ ▸ hr).2
      rcases List.mem_append.1 hp with hp | hp
      · rcases List.mem_append.1 hp with hp | hp
        · have := hno p (by unfold frP; simp [hp])
          exact ⟨this.1, this.2.1⟩
        · rcases List.mem_append.1 hp with hp | hp
          · have := hno p (by unfold frP; simp [hp])
            exact ⟨this.1, this.2.1⟩
          · rw [List.mem_singleton.1 hp]
            refine ⟨?_, ?_⟩
            · have := idF_no t.Id 32 (by decide) (by decide) (by decide)
              simp [this]
            · simp [idF]
      · exact ⟨pcs_no _ _ hst p hp, pcs_bar _ _ p hp⟩
theorem rest_own {t : TU} (hs : sgF t ≠ [60]) : restF t = (frF t ++ headT t.Head) ++ wordsT t.Words := by
  unfold restF
  rw [if_neg hs, frF_eq]
  simp
theorem rest_cut {t : TU} (h : ownB t = true) (hs : sgF t ≠ [60]) : Lib.cut (restF t) [32, 124, 32] = (frF t ++ headT t.Head, if t.Words.length = 0 then [] else rowF t.Words, decide (t.Words.length ≠ 0)) := by
  obtain ⟨ps, e, hps⟩ := front_pcs h
  obtain ⟨⟨k0, k7, _⟩, _⟩ := of_decide_eq_true h
  rw [rest_own hs, e]
  unfold wordsT
  by_cases hl : t.Words.length = 0
  · rw [if_pos hl, if_pos hl, List.append_nil]
    have := bar_none (name_no k0 k7).1 hps
    rw [show ([32, 124, 32] : Str) = barS from rfl, this]
    simp [hl]
  · rw [if_neg hl, if_neg hl]
    have := bar_cut (name_no k0 k7).1 hps (rowF t.Words)
    rw [show ([32, 124, 32] : Str) = barS from rfl, List.append_assoc, this]
    simp [hl]
theorem fr_no58 {t : TU} (h : ownB t = true) : (58 : UInt8) ∉ frF t := by
  have hno := frP_no h
  obtain ⟨⟨k0, k7, _⟩, _⟩ := of_decide_eq_true h
  unfold frF tailS
  intro hm
  rcases List.mem_append.1 hm with hm | hm
  · exact name_no58 k0 k7 hm
  · obtain ⟨p, hp, hm⟩ := List.mem_flatMap.1 hm
    rcases List.mem_cons.1 hm with hm | hm
    · exact absurd hm (by decide)
    · exact (hno p hp).2.2 hm
theorem front_cut {t : TU} (h : ownB t = true) : Lib.cut (frF t ++ headT t.Head) [58, 32] = (frF t, if t.Head.length = 0 then [] else rowF t.Head, decide (t.Head.length ≠ 0)) := by
  have hno := fr_no58 h
  unfold headT
  by_cases hl : t.Head.length = 0
  · rw [if_pos hl, if_pos hl, List.append_nil, colon_none hno]
    simp [hl]
  · rw [if_neg hl, if_neg hl, colon_cut hno]
    simp [hl]
theorem fr_split {t : TU} (h : ownB t = true) : splitC 32 (frF t) = nameOf t.Kind :: frP t := by
  have hno := frP_no h
  obtain ⟨⟨k0, k7, _⟩, _⟩ := of_decide_eq_true h
  exact split_tail _ (fun p hp => (hno p hp).1) _ (name_no k0 k7).1
end Go.Proofs.YtalogjkalmkpjaaGreatDoor
