/-
  Rows of tracked words: how they are written, by the program and by the reference.
-/
import Derived.Test.YtalogjkalmkpjaaDoorPa
set_option linter.unusedVariables false
set_option linter.unusedSimpArgs false
namespace Go.Proofs.YtalogjkalmkpjaaDoor
open Go Go.Dec
abbrev TW := api_TrackedWord
def spB (b : UInt8) : Bool := decide (b = 91) || decide (b = 93) || decide (b = 43) || decide (b = 45) || decide (b = 124) || decide (b = 35) || decide (b = 92)
theorem contains_one (c : UInt8) : ∀ l : List UInt8, Lib.contains l [c] = decide (c ∈ l)
  | [] => by
    unfold Lib.contains
    have : Lib.index [] [c] = -1 := by unfold Lib.index; rfl
    rw [this]; simp
  | b :: l => by
    have ih := contains_one c l
    have hpre : ([c] : List UInt8).isPrefixOf (b :: l) = (c == b) := by simp [List.isPrefixOf]
    unfold Lib.contains at ih ⊢
    by_cases hb : c = b
    · have hi : Lib.index (b :: l) [c] = 0 := by
        unfold Lib.index
        rw [hpre, hb]; simp
      rw [hi]; simp [hb]
    · have hi : Lib.index (b :: l) [c] = if Lib.index l [c] == -1 then -1 else Lib.index l [c] + 1 := by
        rw [Lib.index, hpre]
        have : (c == b) = false := by simpa using hb
        rw [this]; rfl
      have hge : Lib.index l [c] = -1 ∨ 0 ≤ Lib.index l [c] := by
        rcases Lib.index_spec l [c] with ⟨h1, _⟩ | ⟨i, h1, _⟩
        · exact .inl h1
        · exact .inr (by omega)
      rw [hi]
      rcases hge with h | h
      · rw [h] at ih ⊢
        have : ¬ c ∈ l := by simpa using ih
        simp [hb, this]
      · have h5 : (Lib.index l [c] == -1) = false := by simp; omega
        have : c ∈ l := by
          have := ih.symm
          rw [decide_eq_true h] at this
          simpa using this
        rw [h5]
        simp [this]; omega
theorem special_m (b : UInt8) : containsM ([91, 93, 43, 45, 124, 35, 92] : Str) [b] = some (spB b) := by
  unfold containsM
  rw [if_pos (by decide), contains_one]
  unfold spB
  simp [Bool.or_assoc]
def esc (s : Str) : Str := match s with
  | [] => []
  | b :: l => if spB b = true then 92 :: b :: l else b :: l
theorem escape_ok (s : Str) (h : s ≠ []) (hl : s.length ≤ 1000) : M.markup_escape s = some (esc s) := by
  cases s with
  | nil => exact absurd rfl h
  | cons b l =>
    simp only [M.markup_escape]
    have h1 : slcHi (b :: l) (1 : Int) = some [b] := by
      unfold slcHi
      rw [if_pos ⟨by decide, by simp; omega⟩]; rfl
    rw [h1, Option.bind_some, special_m, Option.bind_some]
    by_cases hb : spB b = true
    · rw [if_pos hb, catC_eq (by simp at hl ⊢; omega)]
      simp [esc, hb]
    · rw [if_neg hb]
      simp [esc, hb]
theorem special_r (b : UInt8) (l : Str) : M.r53_special (b :: l) = some (spB b) := by
  have e : ∀ k : UInt8, ((b.toNat : Int) = (k.toNat : Int)) ↔ b = k := fun k => ⟨fun h => UInt8.toNat_inj.1 (by omega), fun h => by rw [h]⟩
  simp only [M.r53_special]
  rw [idx_zero, Option.bind_some]
  have e1 := e 91; have e2 := e 93; have e3 := e 43; have e4 := e 45; have e5 := e 124; have e6 := e 35; have e7 := e 92
  simp only [show ((91 : UInt8).toNat : Int) = 91 from rfl, show ((93 : UInt8).toNat : Int) = 93 from rfl, show ((43 : UInt8).toNat : Int) = 43 from rfl, show ((45 : UInt8).toNat : Int) = 45 from rfl,
    show ((124 : UInt8).toNat : Int) = 124 from rfl, show ((35 : UInt8).toNat : Int) = 35 from rfl, show ((92 : UInt8).toNat : Int) = 92 from rfl] at e1 e2 e3 e4 e5 e6 e7
  simp only [e1, e2, e3, e4, e5, e6, e7]
  unfold spB
  by_cases h1 : b = 91
  · simp [h1]
  · by_cases h2 : b = 93
    · simp [h2]
    · by_cases h3 : b = 43
      · simp [h3]
      · by_cases h4 : b = 45
        · simp [h4]
        · by_cases h5 : b = 124
          · simp [h5]
          · by_cases h6 : b = 35
            · simp [h6]
            · simp [h1, h2, h3, h4, h5, h6]
def stB (w : TW) : Bool := wordB w.Text && (decide (0 ≤ w.State) && decide (w.State ≤ 2))
def rowB (l : List TW) : Bool := decide (l.length ≤ 512) && l.all stB
theorem isWord_ok (s : Str) : To (fun n => M.markup_isWord n s) (wordB s) := by
  simp only [M.markup_isWord]
  refine To.bind (valid_w [s]) (To.pure.of ?_)
  simp [seqB]
theorem has_tw (l : List TW) (f : Nat → TW → Option Bool) (p : TW → Bool) (hf : ∀ x, x ∈ l → To (fun n => f n x) (p x)) : To (fun n => M.slices_ContainsFunc_api_TrackedWord_api_TrackedWord n l (f n)) (l.any p) := by
  have loop : ∀ (xs : List TW) (f : Nat → TW → Option Bool) (i : Nat), (∀ x, x ∈ xs → To (fun n => f n x) (p x)) → l.drop i = xs → ∃ r, To (fun n => M.slices_IndexFunc_api_TrackedWord_api_TrackedWord_loop1 l (f n) n (i : Int)) r ∧ ((xs.any p = true ∧ ∃ k : Nat, r = .inr (k : Int)) ∨ (xs.any p = false ∧ r = .inl ())) := by
    intro xs
    induction xs with
    | nil =>
      intro f i _ hx
      refine ⟨.inl (), To.succ ?_, .inr ⟨rfl, rfl⟩⟩
      simp only [M.slices_IndexFunc_api_TrackedWord_api_TrackedWord_loop1]
      exact To.neg (drop_end hx) To.pure
    | cons x xs ih =>
      intro f i hf hx
      have h1 := hf x (by simp)
      by_cases hp : p x = true
      · refine ⟨.inr (i : Int), To.succ ?_, .inl ⟨by simp [hp], i, rfl⟩⟩
        simp only [M.slices_IndexFunc_api_TrackedWord_api_TrackedWord_loop1]
        exact To.pos (drop_lt hx) (To.bindS (drop_idx hx) (To.bind h1.shift (To.pos hp To.pure)))
      · have hp' : p x = false := by simpa using hp
        obtain ⟨r, ht, hr⟩ := ih (fun n => f (n + 1)) (i + 1) (fun y hy => (hf y (by simp [hy])).shift) (drop_next hx)
        refine ⟨r, To.succ ?_, by simpa [hp'] using hr⟩
        simp only [M.slices_IndexFunc_api_TrackedWord_api_TrackedWord_loop1]
        rw [cast_succ]
        exact To.pos (drop_lt hx) (To.bindS (drop_idx hx) (To.bind h1.shift (To.neg hp ht)))
  obtain ⟨r, ht, hr⟩ := loop l f 0 hf rfl
  simp only [M.slices_ContainsFunc_api_TrackedWord_api_TrackedWord, M.slices_IndexFunc_api_TrackedWord_api_TrackedWord]
  rcases hr with ⟨ha, k, rfl⟩ | ⟨ha, rfl⟩
  · refine To.bind (a := (k : Int)) (To.bind ht To.pure) (To.pure.of ?_)
    simp [ha]
  · refine To.bind (a := (-1 : Int)) (To.bind ht To.pure) (To.pure.of ?_)
    simp [ha]
theorem vrow1_ok (w : TW) : To (fun n => M.markup_validRow_1 n w) (!stB w) := by
  simp only [M.markup_validRow_1]
  refine To.bind (isWord_ok w.Text) ?_
  unfold stB
  by_cases h1 : wordB w.Text = true
  · rw [h1]
    by_cases h2 : w.State < 0
    · first
        | exact To.neg (by simp) (To.pos h2 (To.pure.of (by have : ¬ (0 : Int) ≤ w.State := by omega
                                                            simp [this])))
        | skip
    · first
        | exact To.neg (by simp) (To.neg h2 (To.pure.of (by have : (0 : Int) ≤ w.State := by omega
                                                            by_cases h3 : w.State ≤ 2 <;> simp [this, h3] <;> omega)))
        | skip
  · have h1' : wordB w.Text = false := by simpa using h1
    rw [h1']
    exact To.pos rfl (To.pure.of (by simp))
theorem vrow_ok (l : List TW) : To (fun n => M.markup_validRow n l) (rowB l) := by
  simp only [M.markup_validRow]
  unfold rowB
  by_cases h : (l.length : Int) ≤ 512
  · have h' : l.length ≤ 512 := by omega
    refine To.pos h (To.bind (has_tw l _ (fun w => !stB w) (fun x _ => vrow1_ok x)) (To.pure.of ?_))
    rw [any_not]
    simp [h']
  · have h' : ¬ l.length ≤ 512 := by omega
    exact To.neg h (To.pure.of (by simp [h']))
theorem mrow_loop (l : List TW) : ∀ (xs : List TW) (i : Nat), l.drop i = xs → To (fun n => M.r53_MayRow_loop1 l n (i : Int)) (if xs.all stB = true then .inl () else .inr false)
  | [], i, hx => by
    refine To.succ ?_
    simp only [M.r53_MayRow_loop1]
    exact To.neg (drop_end hx) (To.pure.of rfl)
  | w :: xs, i, hx => by
    refine To.succ ?_
    simp only [M.r53_MayRow_loop1]
    refine To.pos (drop_lt hx) (To.bindS (drop_idx hx) (To.bind (word_r w.Text) ?_))
    have ih := mrow_loop l xs (i + 1) (drop_next hx)
    by_cases h1 : wordB w.Text = true
    · by_cases h2 : w.State < 0
      · refine To.neg (by rw [h1]; decide) (To.bindS (drop_idx hx) (To.pos h2 (To.pure.of ?_)))
        have : ¬ (0 : Int) ≤ w.State := by omega
        rw [if_neg]
        simp [stB, this]
      · refine To.neg (by rw [h1]; decide) (To.bindS (drop_idx hx) (To.neg h2 (To.bindS (drop_idx hx) ?_)))
        by_cases h3 : 2 < w.State
        · refine To.pos h3 (To.pure.of ?_)
          have : ¬ w.State ≤ 2 := by omega
          rw [if_neg]
          simp [stB, this]
        · refine To.neg h3 ?_
          rw [cast_succ]
          refine ih.of ?_
          have a1 : (0 : Int) ≤ w.State := by omega
          have a2 : w.State ≤ 2 := by omega
          simp [stB, h1, a1, a2]
    · have h1' : wordB w.Text = false := by simpa using h1
      refine To.pos h1' (To.pure.of ?_)
      rw [if_neg]
      simp [stB, h1']
theorem mrow_ok (l : List TW) : To (fun n => M.r53_MayRow n l) (rowB l) := by
  simp only [M.r53_MayRow]
  refine To.bind (mrow_loop l l 0 rfl) ?_
  unfold rowB
  by_cases h : l.all stB = true
  · rw [if_pos h]
    refine To.pure.of ?_
    rw [h, Bool.and_true]
    exact decide_eq_decide.2 (by omega)
  · rw [if_neg h]
    refine To.pure.of ?_
    have : l.all stB = false := by simpa using h
    rw [this, Bool.and_false]
def opS (s : Int) : Str := if s = 1 then [91, 43, 32] else if s = 2 then [91, 45, 32] else []
def shS (s : Int) : Str := if s = 1 then [32, 43, 93] else if s = 2 then [32, 45, 93] else []
def lastB (s : Int) (l : List TW) : Bool := match l with
  | [] => true
  | w :: _ => decide (w.State ≠ s)
def rowT : Option Int → List TW → Str
  | _, [] => []
  | p, w :: l => (if p.isSome then [32] else []) ++ ((if p = some w.State then [] else opS w.State) ++ (esc w.Text ++ ((if lastB w.State l = true then shS w.State else []) ++ rowT (some w.State) l)))
theorem op_at {s : Int} (h0 : 0 ≤ s) (h2 : s ≤ 2) : idx gv0 s = some (opS s) := by
  have : s = 0 ∨ s = 1 ∨ s = 2 := by omega
  rcases this with rfl | rfl | rfl <;> rfl
theorem sh_at {s : Int} (h0 : 0 ≤ s) (h2 : s ≤ 2) : idx gv1 s = some (shS s) := by
  have : s = 0 ∨ s = 1 ∨ s = 2 := by omega
  rcases this with rfl | rfl | rfl <;> rfl
theorem stB_iff {w : TW} : stB w = true ↔ wordB w.Text = true ∧ 0 ≤ w.State ∧ w.State ≤ 2 := by
  unfold stB
  simp [Bool.and_eq_true]
theorem word_len {s : Str} (h : wordB s = true) : 1 ≤ s.length ∧ s.length ≤ 24 := by
  unfold wordB at h
  rw [Bool.and_eq_true, Bool.and_eq_true] at h
  exact ⟨of_decide_eq_true h.1.1, of_decide_eq_true h.1.2⟩
theorem esc_len (s : Str) : (esc s).length ≤ s.length + 1 := by
  unfold esc
  split
  · simp
  · split <;> simp
theorem opS_len (s : Int) : (opS s).length ≤ 3 := by
  unfold opS
  split
  · decide
  · split <;> decide
theorem shS_len (s : Int) : (shS s).length ≤ 3 := by
  unfold shS
  split
  · decide
  · split <;> decide
theorem rrow_loop (l : List TW) (hl : l.all stB = true) (hn : l.length ≤ 512) : ∀ (xs : List TW) (i : Nat) (b : Str), l.drop i = xs → b.length ≤ 40 * i →
    To (fun n => M.r53_Row_loop1 l n b (i : Int)) (b ++ rowT (if i = 0 then none else (l[i - 1]?).map (·.State)) xs)
  | [], i, b, hx, hb => by
    refine To.succ ?_
    simp only [M.r53_Row_loop1]
    refine To.neg (drop_end hx) (To.pure.of ?_)
    simp [rowT]
  | w :: xs, i, b, hx, hb => by
    have hi := drop_idx hx
    have hlt := (drop_cons hx).1
    have hw : stB w = true := List.all_eq_true.1 hl w (List.mem_of_getElem? (drop_cons hx).2.1)
    obtain ⟨hw1, hw2, hw3⟩ := stB_iff.1 hw
    have hwl := word_len hw1
    have hel := esc_len w.Text
    have hol := opS_len w.State
    have hsl := shS_len w.State
    have hop : idx ([([] : Str), ([91, 43, 32] : Str), ([91, 45, 32] : Str)]) w.State = some (opS w.State) := op_at hw2 hw3
    have hsh : idx ([([] : Str), ([32, 43, 93] : Str), ([32, 45, 93] : Str)]) w.State = some (shS w.State) := sh_at hw2 hw3
    obtain ⟨c, r, hcr⟩ : ∃ c r, w.Text = c :: r := by
      cases hq : w.Text with
      | nil => rw [hq] at hwl; simp at hwl
      | cons c r => exact ⟨c, r, rfl⟩
    have hsp : M.r53_special w.Text = some (spB c) := by rw [hcr]; exact special_r c r
    have hesc : esc w.Text = (if spB c = true then [92] else []) ++ w.Text := by
      rw [hcr]
      by_cases hq : spB c = true <;> simp [esc, hq]
    have hstr : strOf [(92 : Int)] = [92] := rfl
    have ih := fun b' hb' => rrow_loop l hl hn xs (i + 1) b' (drop_next hx) hb'
    have hprev : ∀ x, (if i + 1 = 0 then none else (l[i + 1 - 1]?).map (·.State)) = (x : Option Int) ↔ some w.State = x := by
      intro x
      rw [if_neg (by omega), Nat.add_sub_cancel, (drop_cons hx).2.1]
      rfl
    have hpv := (hprev (some w.State)).2 rfl
    have hnext : ((i : Int) + 1 = (l.length : Int) ∧ xs = []) ∨ (¬ (i : Int) + 1 = (l.length : Int) ∧ ∃ y ys, xs = y :: ys ∧ idx l ((i : Int) + 1) = some y) := by
      cases hxs : xs with
      | nil =>
        have := drop_next hx
        rw [hxs] at this
        have hle := List.drop_eq_nil_iff.1 this
        exact .inl ⟨by omega, rfl⟩
      | cons y ys =>
        have := drop_next hx
        rw [hxs] at this
        have h1 := (drop_cons this).1
        refine .inr ⟨by omega, y, ys, rfl, ?_⟩
        have := drop_idx this
        rw [← cast_succ] at this
        exact this
    have h92 : (if spB c = true then [92] else ([] : Str)).length ≤ 1 := by split <;> simp
    have p1 : ∀ a : Str, a.length ≤ 40 * i → To (fun _ => if (0 : Int) < (i : Int) then Option.bind (catC a ([32] : Str)) fun v1 => some v1 else some a) (a ++ if 0 < i then [32] else []) := by
      intro a ha
      by_cases h : 0 < i
      · rw [if_pos h]
        exact To.pos (by omega) (To.bindS (catC_eq (by simp; omega)) To.pure)
      · rw [if_neg h]
        exact To.neg (by omega) (To.pure.of (by simp))
    have p2 : ∀ a : Str, a.length ≤ 40 * i + 1 → To (fun _ => Option.bind (idx l (i : Int)) fun v2 => Option.bind (idx ([([] : Str), ([91, 43, 32] : Str), ([91, 45, 32] : Str)]) v2.State) fun v3 => Option.bind (catC a v3) fun v4 => some v4) (a ++ opS w.State) :=
      fun a ha => To.bindS hi (To.bindS hop (To.bindS (catC_eq (by omega)) To.pure))
    have p3 : ∀ a : Str, a.length ≤ 40 * i + 4 → To (fun _ => Option.bind (idx l (i : Int)) fun v5 => Option.bind (M.r53_special v5.Text) fun specia => if specia = true then Option.bind (catC a (strOf [(92 : Int)])) fun v6 => some v6 else some a) (a ++ if spB c = true then [92] else []) := by
      intro a ha
      refine To.bindS hi (To.bindS hsp ?_)
      by_cases h : spB c = true
      · exact (To.pos h (To.bindS (show catC a (strOf [(92 : Int)]) = some (a ++ [92]) from catC_eq (by rw [hstr]; simp; omega)) To.pure)).of (by rw [if_pos h])
      · exact (To.neg h To.pure).of (by rw [if_neg h]; simp)
    have p5 : ∀ a : Str, a.length ≤ 40 * i + 29 → To (fun n => Option.bind (idx l (i : Int)) fun v9 => Option.bind (idx ([([] : Str), ([32, 43, 93] : Str), ([32, 45, 93] : Str)]) v9.State) fun v10 => Option.bind (catC a v10) fun v11 => M.r53_Row_loop1 l n v11 ((i : Int) + 1)) (a ++ (shS w.State ++ rowT (some w.State) xs)) := by
      intro a ha
      refine To.bindS hi (To.bindS hsh (To.bindS (catC_eq (by omega)) ?_))
      rw [cast_succ]
      refine (ih _ (by simp; omega)).of ?_
      rw [hpv]; simp
    have p6 : ∀ a : Str, a.length ≤ 40 * i + 29 → To (fun n => M.r53_Row_loop1 l n a ((i : Int) + 1)) (a ++ rowT (some w.State) xs) := by
      intro a ha
      rw [cast_succ]
      refine (ih _ (by omega)).of ?_
      rw [hpv]
    have lens : ∀ (x y : Str), x.length ≤ 1 → y.length ≤ 3 → (b ++ x).length ≤ 40 * i + 1 ∧ (b ++ x ++ y).length ≤ 40 * i + 4 ∧ (b ++ x ++ y ++ (if spB c = true then [92] else [])).length ≤ 40 * i + 5 ∧
        (b ++ x ++ y ++ (if spB c = true then [92] else []) ++ w.Text).length ≤ 40 * i + 29 := by
      intro x y hx hy
      simp only [List.length_append]
      omega
    have hx1 : (if 0 < i then [32] else ([] : Str)).length ≤ 1 := by split <;> simp
    refine To.succ ?_
    simp only [M.r53_Row_loop1]
    refine To.pos (drop_lt hx) ?_
    by_cases h0 : i = 0
    · subst h0
      have hL := lens (if 0 < 0 then [32] else []) (opS w.State) hx1 hol
      refine To.pos rfl ?_
      rcases hnext with ⟨hn1, hn2⟩ | ⟨hn1, y, ys, hn2, hn3⟩
      · refine To.bindS (addC_eq (by omega) (by omega)) (To.pos hn1 (To.bind (p1 b hb) (To.bind (p2 _ hL.1) (To.bind (p3 _ hL.2.1) (To.bindS hi (To.bindS (catC_eq (by have := hL.2.2.1; omega)) ?_))))))
        refine (p5 _ hL.2.2.2).of ?_
        subst hn2
        rw [if_pos rfl]
        simp [rowT, hesc, lastB]
      · refine To.bindS (addC_eq (by omega) (by omega)) (To.neg hn1 (To.bindS (addC_eq (by omega) (by omega)) (To.bindS hn3 (To.bindS hi (To.bind (p1 b hb) (To.bind (p2 _ hL.1) (To.bind (p3 _ hL.2.1) (To.bindS hi (To.bindS (catC_eq (by have := hL.2.2.1; omega)) ?_)))))))))
        subst hn2
        by_cases hq : y.State ≠ w.State
        · refine To.pos hq ((p5 _ hL.2.2.2).of ?_)
          rw [if_pos rfl]
          simp [rowT, hesc, lastB, hq]
        · refine To.neg hq ((p6 _ hL.2.2.2).of ?_)
          rw [if_pos rfl]
          simp [rowT, hesc, lastB, hq]
    · refine To.neg (by omega) ?_
      obtain ⟨z, hz⟩ : ∃ z, l[i - 1]? = some z := ⟨_, List.getElem?_eq_getElem (by omega)⟩
      have hzi : idx l ((i : Int) - 1) = some z := by
        have : (i : Int) - 1 = ((i - 1 : Nat) : Int) := by omega
        rw [this, idx_nat, hz]
      have hi0 : 0 < i := by omega
      have p7 : ∀ a : Str, a.length ≤ 40 * i + 1 → To (fun _ => if z.State ≠ w.State then (Option.bind (idx l (i : Int)) fun v2 => Option.bind (idx ([([] : Str), ([91, 43, 32] : Str), ([91, 45, 32] : Str)]) v2.State) fun v3 => Option.bind (catC a v3) fun v4 => some v4) else some a) (a ++ if z.State = w.State then [] else opS w.State) := by
        intro a ha
        by_cases h : z.State = w.State
        · rw [if_pos h]
          exact To.neg (by simpa using h) (To.pure.of (by simp))
        · rw [if_neg h]
          exact To.pos h (p2 a ha)
      have hx2 : (if z.State = w.State then ([] : Str) else opS w.State).length ≤ 3 := by
        split
        · simp
        · exact hol
      have hL := lens (if 0 < i then [32] else []) (if z.State = w.State then [] else opS w.State) hx1 hx2
      have hpq : (if i = 0 then none else (l[i - 1]?).map (·.State)) = some z.State := by rw [if_neg h0, hz]; rfl
      rw [hpq]
      rcases hnext with ⟨hn1, hn2⟩ | ⟨hn1, y, ys, hn2, hn3⟩
      · refine To.bindS (subC_eq (by omega) (by omega)) (To.bindS hzi (To.bindS hi (To.bindS (addC_eq (by omega) (by omega)) (To.pos hn1 (To.bind (p1 b hb) (To.bind (p7 _ hL.1) (To.bind (p3 _ hL.2.1) (To.bindS hi (To.bindS (catC_eq (by have := hL.2.2.1; omega)) ?_)))))))))
        refine (p5 _ hL.2.2.2).of ?_
        subst hn2
        simp [rowT, hesc, lastB, hi0]
      · refine To.bindS (subC_eq (by omega) (by omega)) (To.bindS hzi (To.bindS hi (To.bindS (addC_eq (by omega) (by omega)) (To.neg hn1 (To.bindS (addC_eq (by omega) (by omega)) (To.bindS hn3 (To.bindS hi (To.bind (p1 b hb) (To.bind (p7 _ hL.1) (To.bind (p3 _ hL.2.1) (To.bindS hi (To.bindS (catC_eq (by have := hL.2.2.1; omega)) ?_))))))))))))
        subst hn2
        by_cases hq : y.State ≠ w.State
        · refine To.pos hq ((p5 _ hL.2.2.2).of ?_)
          simp [rowT, hesc, lastB, hi0, hq]
        · refine To.neg hq ((p6 _ hL.2.2.2).of ?_)
          simp [rowT, hesc, lastB, hi0, hq]
def rowF (l : List TW) : Str := if rowB l = true then rowT none l else []
theorem rrow_ok (l : List TW) : To (fun n => M.r53_Row n l) (rowF l) := by
  simp only [M.r53_Row]
  refine To.bind (mrow_ok l) ?_
  unfold rowF
  by_cases h : rowB l = true
  · have h' := h
    unfold rowB at h'
    rw [Bool.and_eq_true] at h'
    rw [if_pos h]
    refine To.neg (by rw [h]; decide) (To.bind (rrow_loop l h'.2 (of_decide_eq_true h'.1) l 0 [] rfl (by simp)) (To.pure.of ?_))
    rw [if_pos rfl]; simp
  · rw [if_neg h]
    exact To.pos (by simpa using h) To.pure
end Go.Proofs.YtalogjkalmkpjaaDoor
