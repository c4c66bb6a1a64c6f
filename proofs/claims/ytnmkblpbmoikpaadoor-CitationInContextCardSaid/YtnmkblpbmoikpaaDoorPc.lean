/-
  What the reader of citations reads: total functions over the words, the place and the mark of the end.
-/
import Derived.Test.YtnmkblpbmoikpaaDoorPb
set_option linter.unusedVariables false
set_option linter.unusedSimpArgs false
namespace Go.Proofs.YtnmkblpbmoikpaaDoor
open Go Go.Dec
def signB (b : UInt8) : Bool := b == 44 || b == 59 || b == 46 || b == 58 || b == 41
theorem u8_eq (x b : UInt8) : ((x.toNat : Int) = (b.toNat : Int)) ↔ b = x := ⟨fun h => UInt8.toNat_inj.1 (by omega), fun h => by rw [h]⟩
theorem sign_ix (b : UInt8) : ∃ k, ixM [44, 59, 46, 58, 41] (b.toNat : Int) = some k ∧ ((k < 0) ↔ signB b = false) := by
  refine ⟨_, rfl, ?_⟩
  unfold signB
  simp only [ixB, u8_eq]
  by_cases h1 : b = 44
  · simp [h1]
  by_cases h2 : b = 59
  · simp [h1, h2]
  by_cases h3 : b = 46
  · simp [h1, h2, h3]
  by_cases h4 : b = 58
  · simp [h1, h2, h3, h4]
  by_cases h5 : b = 41
  · simp [h1, h2, h3, h4, h5]
  · simp [h1, h2, h3, h4, h5]
def wordF (l : List Str) (is : Str → Bool) (i : Nat) (e : Bool) : Option (Str × Bool) :=
  if e = true then none else match l[i]? with
    | none => none
    | some v => if is v = true then some (v, false) else match v.getLast? with
      | none => none
      | some b => if signB b = true ∧ is v.dropLast = true then some (v.dropLast, true) else none
def rdr (l : List Str) (i : Nat) (e : Bool) : citation_reader := ⟨l, (i : Int), e⟩
def wordT (l : List Str) (i : Nat) (e : Bool) : Option (Str × Bool) → (Str × Bool) × citation_reader
  | some (s, e') => ((s, true), rdr l (i + 1) e')
  | none => (([], false), rdr l i e)
def Fine (l : List Str) : Prop := l.length ≤ 1000000 ∧ ∀ v ∈ l, v.length ≤ 1000000
theorem word_t {l : List Str} (hl : Fine l) (is : Str → Bool) (isM : Nat → Str → Option Bool) (his : ∀ s, To (fun n => isM n s) (is s)) (i : Nat) (e : Bool) (hi : i ≤ 2000000) :
    To (fun n => M.citation_reader_word (rdr l i e) (isM n)) (wordT l i e (wordF l is i e)) := by
  simp only [M.citation_reader_word]
  cases e with
  | true => exact To.pos rfl To.pure
  | false =>
    refine To.neg (by simp [rdr]) ?_
    by_cases hlen : l.length ≤ i
    · have hn : l[i]? = none := List.getElem?_eq_none hlen
      refine To.pos (by simp only [rdr]; omega) (To.pure.of ?_)
      simp [wordF, hn, wordT]
    · refine To.neg (by simp only [rdr]; omega) ?_
      obtain ⟨v, hv⟩ : ∃ v, l[i]? = some v := ⟨_, List.getElem?_eq_getElem (by omega)⟩
      have hidx : idx (rdr l i false).l_ (rdr l i false).at_ = some v := by
        show idx l (i : Int) = _
        rw [idx_nat]; exact hv
      have hvl := hl.2 v (List.mem_of_getElem? hv)
      refine To.bindS hidx ?_
      have miss : ∀ (r : (Str × Bool) × citation_reader), r = (([], false), rdr l i false) → wordF l is i false = none → To (fun _ : Nat => some r) (wordT l i false (wordF l is i false)) := fun r hr hw => by
        rw [hw, hr]; exact To.pure
      have hit : ∀ (s : Str) (e' : Bool), wordF l is i false = some (s, e') → To (fun _ : Nat => Option.bind (addC (i : Int) (1 : Int)) fun v7 => some ((s, true), (⟨l, v7, e'⟩ : citation_reader))) (wordT l i false (wordF l is i false)) := fun s e' hw => by
        rw [hw]
        exact To.bindS (addC_succ (by omega)) To.pure
      have hF : wordF l is i false = (if is v = true then some (v, false) else match v.getLast? with
          | none => none
          | some b => if signB b = true ∧ is v.dropLast = true then some (v.dropLast, true) else none) := by
        unfold wordF; rw [if_neg (by simp), hv]
      by_cases h1 : is v = true
      · rw [if_pos h1] at hF
        refine To.bind (a := (Sum.inl (v, rdr l i false) : (Str × citation_reader) ⊕ ((Str × Bool) × citation_reader))) ?_ ?_
        · exact To.bind (his v) (To.neg (by simp [h1]) To.pure)
        · exact hit v false hF
      · have h1' : is v = false := by simpa using h1
        rw [if_neg h1] at hF
        cases hb : v.getLast? with
        | none =>
          have hv0 : v = [] := by simpa using hb
          subst hv0
          rw [hb] at hF
          refine To.bind (a := (Sum.inr (([], false), rdr l i false) : (Str × citation_reader) ⊕ ((Str × Bool) × citation_reader))) ?_ ?_
          · exact To.bind (his []) (To.pos h1' (To.bindS (a := -1) rfl (To.bind (a := true) (To.pos (by decide) To.pure) (To.pos rfl To.pure))))
          · exact miss _ rfl hF
        | some b =>
          have hne : v ≠ [] := by rintro rfl; cases hb
          have hpos : 0 < v.length := List.length_pos_iff.2 hne
          have hsub : subC (v.length : Int) (1 : Int) = some ((v.length - 1 : Nat) : Int) := by rw [subC_eq (by omega) (by omega)]; congr 1; omega
          have hib : idx v ((v.length - 1 : Nat) : Int) = some b := by rw [idx_nat, ← List.getLast?_eq_getElem?]; exact hb
          have hsl : slcHi v ((v.length - 1 : Nat) : Int) = some v.dropLast := by
            unfold slcHi
            rw [if_pos (by omega), List.dropLast_eq_take]; rfl
          have hlt : ¬ ((v.length - 1 : Nat) : Int) < 0 := by omega
          obtain ⟨k, hk, hks⟩ := sign_ix b
          rw [hb] at hF
          have hF : wordF l is i false = if signB b = true ∧ is v.dropLast = true then some (v.dropLast, true) else none := hF
          by_cases hs : signB b = true
          · have hk0 : ¬ k < 0 := fun h => by rw [hks.1 h] at hs; cases hs
            by_cases h2 : is v.dropLast = true
            · rw [if_pos ⟨hs, h2⟩] at hF
              refine To.bind (a := (Sum.inl (v.dropLast, ⟨l, (i : Int), true⟩) : (Str × citation_reader) ⊕ ((Str × Bool) × citation_reader))) ?_ ?_
              · refine To.bind (his v) (To.pos h1' (To.bindS hsub (To.bind (a := false) ?_ ?_)))
                · exact To.neg hlt (To.bindS hib (To.bindS hk (To.neg hk0 (To.bindS hsl (To.bind (his _) (To.pure.of (by simp [h2])))))))
                · exact To.neg (by simp) (To.bindS hsl To.pure)
              · exact hit _ true hF
            · have h2' : is v.dropLast = false := by simpa using h2
              rw [if_neg (fun e => h2 e.2)] at hF
              refine To.bind (a := (Sum.inr (([], false), rdr l i false) : (Str × citation_reader) ⊕ ((Str × Bool) × citation_reader))) ?_ ?_
              · refine To.bind (his v) (To.pos h1' (To.bindS hsub (To.bind (a := true) ?_ ?_)))
                · exact To.neg hlt (To.bindS hib (To.bindS hk (To.neg hk0 (To.bindS hsl (To.bind (his _) (To.pure.of (by simp [h2'])))))))
                · exact To.pos rfl To.pure
              · exact miss _ rfl hF
          · have hs' : signB b = false := by simpa using hs
            rw [if_neg (fun e => hs e.1)] at hF
            refine To.bind (a := (Sum.inr (([], false), rdr l i false) : (Str × citation_reader) ⊕ ((Str × Bool) × citation_reader))) ?_ ?_
            · refine To.bind (his v) (To.pos h1' (To.bindS hsub (To.bind (a := true) ?_ ?_)))
              · exact To.neg hlt (To.bindS hib (To.bindS hk (To.pos (hks.2 hs') To.pure)))
              · exact To.pos rfl To.pure
            · exact miss _ rfl hF
def justT (l : List Str) (i : Nat) (e : Bool) : Option (Str × Bool) → Bool × citation_reader
  | some (_, e') => (true, rdr l (i + 1) e')
  | none => (false, rdr l i e)
theorem just_t {l : List Str} (hl : Fine l) (w : Str) (i : Nat) (e : Bool) (hi : i ≤ 2000000) : To (fun _ => M.citation_reader_just (rdr l i e) w) (justT l i e (wordF l (fun s => s == w) i e)) := by
  simp only [M.citation_reader_just]
  refine To.bind (word_t hl (fun s => s == w) (fun _ s => M.citation_reader_just_1 s w) (fun s => by simp only [M.citation_reader_just_1]; exact To.pure) i e hi) ?_
  cases wordF l (fun s => s == w) i e with
  | none => exact To.pure
  | some p => exact To.pure
def ixS (s : Str) : List Str → Int → Option Int
  | [], _ => none
  | x :: xs, k => if x = s then some k else ixS s xs (k + 1)
def kdI (L : List Str) (s : Str) : Int := if s = [] then 0 else match ixS s L 0 with
  | some k => k
  | none => 0
theorem ixS_ge (s : Str) : ∀ (L : List Str) (k j : Int), ixS s L k = some j → k ≤ j
  | [], k, j, h => by cases h
  | x :: xs, k, j, h => by
    unfold ixS at h
    split at h
    · cases h; exact Int.le_refl _
    · have := ixS_ge s xs (k + 1) j h; omega
theorem kind_t (L : List Str) (s : Str) : To (fun n => M.citation_kind n L s) (kdI L s) := by
  have loop : ∀ (xs : List Str) (k : Nat), L.drop k = xs → To (fun n => M.slices_Index_string_string_loop1 L s n (k : Int)) (match ixS s xs k with | some j => .inr j | none => .inl ()) := by
    intro xs
    induction xs with
    | nil =>
      intro k hx
      refine To.succ ?_
      simp only [M.slices_Index_string_string_loop1]
      exact To.neg (drop_end hx) To.pure
    | cons x xs ih =>
      intro k hx
      refine To.succ ?_
      simp only [M.slices_Index_string_string_loop1]
      refine To.pos (drop_lt hx) (To.bindS (drop_idx hx) ?_)
      unfold ixS
      by_cases h : x = s
      · rw [if_pos h]
        exact To.pos (by simp [h]) To.pure
      · rw [if_neg h, cast_succ]
        exact To.neg (by simpa using fun e => h e.symm) (ih (k + 1) (drop_next hx))
  simp only [M.citation_kind]
  unfold kdI
  by_cases h : s = []
  · rw [if_pos h]
    exact To.pos (by simp [h]) To.pure
  · rw [if_neg h]
    refine To.neg (by simpa using h) ?_
    simp only [M.slices_Index_string_string]
    have hl := loop L 0 rfl
    cases hi : ixS s L ((0 : Nat) : Int) with
    | none =>
      rw [hi] at hl
      exact To.bind (a := -1) (To.bind hl To.pure) (To.pure.of (by decide))
    | some j =>
      rw [hi] at hl
      have hj := ixS_ge s L _ _ hi
      exact To.bind (a := j) (To.bind hl To.pure) (To.pure.of (show max j 0 = j by omega))
def isK (L : List Str) (s : Str) : Bool := decide (0 < kdI L s)
def kindT (l L : List Str) (i : Nat) (e : Bool) : Option (Str × Bool) → (Int × Bool) × citation_reader
  | some (s, e') => ((kdI L s, true), rdr l (i + 1) e')
  | none => ((0, false), rdr l i e)
theorem rkind_t {l : List Str} (hl : Fine l) (L : List Str) (i : Nat) (e : Bool) (hi : i ≤ 2000000) : To (fun n => M.citation_reader_kind n (rdr l i e) L) (kindT l L i e (wordF l (isK L) i e)) := by
  simp only [M.citation_reader_kind]
  refine To.bind (word_t hl (isK L) (fun n s => M.citation_reader_kind_1 n s L) (fun s => by simp only [M.citation_reader_kind_1]; exact To.bind (kind_t L s) To.pure) i e hi) ?_
  cases wordF l (isK L) i e with
  | none => exact To.bind (kind_t L []) To.pure
  | some p => exact To.bind (kind_t L p.1) To.pure
def stepF (l L : List Str) (i : Nat) (e : Bool) : Option (api_Step × Bool) := match wordF l (isK L) i e with
  | none => none
  | some (s, e1) => match wordF l labB (i + 1) e1 with
    | none => none
    | some (t, e2) => some (⟨kdI L s, t⟩, e2)
def stepT (l : List Str) (i : Nat) (e : Bool) : Option (api_Step × Bool) → (api_Step × Bool) × citation_reader
  | some (s, e') => ((s, true), rdr l (i + 2) e')
  | none => ((⟨0, []⟩, false), rdr l i e)
theorem label_t {l : List Str} (hl : Fine l) (i : Nat) (e : Bool) (hi : i ≤ 2000000) : To (fun n => M.citation_reader_word (rdr l i e) (fun s0 => M.label_Valid n s0)) (wordT l i e (wordF l labB i e)) :=
  word_t hl labB (fun n s => M.label_Valid n s) (fun s => label_ok s) i e hi
theorem step_t {l : List Str} (hl : Fine l) (L : List Str) (i : Nat) (e : Bool) (hi : i ≤ 1000000) : To (fun n => M.citation_reader_step n (rdr l i e) L) (stepT l i e (stepF l L i e)) := by
  simp only [M.citation_reader_step]
  have hk := rkind_t hl L i e (by omega)
  unfold stepF
  cases hw : wordF l (isK L) i e with
  | none =>
    rw [hw] at hk
    refine To.bind hk (To.bind (label_t hl i e (by omega)) (To.bind (a := true) (To.pos rfl To.pure) (To.pos rfl To.pure)))
  | some q =>
    obtain ⟨s, e1⟩ := q
    rw [hw] at hk
    have ht := label_t hl (i + 1) e1 (by omega)
    refine To.bind hk ?_
    cases hw2 : wordF l labB (i + 1) e1 with
    | none =>
      rw [hw2] at ht
      exact To.bind ht (To.bind (a := true) (To.neg (by simp [kindT]) To.pure) (To.pos rfl (To.pure.of (by simp [hw2, stepT]))))
    | some q2 =>
      rw [hw2] at ht
      exact To.bind ht (To.bind (a := false) (To.neg (by simp [kindT]) To.pure) (To.neg (by simp) (To.pure.of (by simp [hw2, stepT, kindT, wordT]))))
def moreF (l : List Str) : Nat → List api_Step → Nat → Bool → List api_Step × Nat × Bool
  | 0, p, i, e => (p, i, e)
  | k + 1, p, i, e => match stepF l sgL i e with
    | none => (p, i, e)
    | some (s, e') => moreF l k (p ++ [s]) (i + 2) e'
def pathT (l : List Str) (r : List api_Step × Nat × Bool) : List api_Step × citation_reader := (r.1, rdr l r.2.1 r.2.2)
theorem more_loop {l : List Str} (hl : Fine l) : ∀ (k : Nat) (p : List api_Step) (i : Nat) (e : Bool), p.length + k = 9 → i + 2 * k ≤ 1000000 → To (fun n => M.citation_reader_more_loop1 n p (rdr l i e)) (pathT l (moreF l k p i e)) := by
  intro k
  induction k with
  | zero =>
    intro p i e hp hi
    refine To.succ ?_
    simp only [M.citation_reader_more_loop1]
    exact To.neg (by omega) To.pure
  | succ k ih =>
    intro p i e hp hi
    refine To.succ ?_
    simp only [M.citation_reader_more_loop1]
    have hs := step_t hl sgL i e (by omega)
    unfold moreF
    refine To.pos (by omega) (To.bindS (a := sgL) rfl ?_)
    cases hf : stepF l sgL i e with
    | none =>
      rw [hf] at hs
      exact To.bind hs (To.pos rfl To.pure)
    | some q =>
      obtain ⟨s, e'⟩ := q
      rw [hf] at hs
      refine To.bind hs (To.neg (by simp [stepT]) (To.bindS (appC_eq (by simp; omega)) ?_))
      exact ih (p ++ [s]) (i + 2) e' (by simp; omega) (by omega)
theorem more_t {l : List Str} (hl : Fine l) (k : Nat) (p : List api_Step) (i : Nat) (e : Bool) (hp : p.length + k = 9) (hi : i + 2 * k ≤ 1000000) : To (fun n => M.citation_reader_more n (rdr l i e) p) (pathT l (moreF l k p i e)) := by
  simp only [M.citation_reader_more]
  exact To.bind (more_loop hl k p i e hp hi) To.pure
def pathF (l : List Str) (i : Nat) (e : Bool) : List api_Step × Nat × Bool := match wordF l (fun s => s == bkW) i e with
  | some (_, e') => moreF l 8 [⟨0, []⟩] (i + 1) e'
  | none => moreF l 9 [] i e
theorem path_t {l : List Str} (hl : Fine l) (i : Nat) (e : Bool) (hi : i ≤ 900000) : To (fun n => M.citation_reader_path n (rdr l i e)) (pathT l (pathF l i e)) := by
  simp only [M.citation_reader_path]
  have hj := just_t hl bkW i e (by omega)
  unfold pathF
  cases hw : wordF l (fun s => s == bkW) i e with
  | none =>
    rw [hw] at hj
    refine To.bind (a := ([], rdr l i e)) (To.bind hj (To.neg (by simp [justT]) To.pure)) (To.bind (more_t hl 9 [] i e rfl (by omega)) To.pure)
  | some q =>
    rw [hw] at hj
    refine To.bind (a := ([⟨0, []⟩], rdr l (i + 1) q.2)) (To.bind hj (To.pos rfl (To.bindS (appC_eq (by simp)) To.pure))) (To.bind (more_t hl 8 [⟨0, []⟩] (i + 1) q.2 rfl (by omega)) To.pure)
def besideF (l : List Str) (i : Nat) (e : Bool) : List api_Step × Nat × Bool := match wordF l (isK sgL) i e with
  | some (s, e') => moreF l 8 [⟨kdI sgL s, []⟩] (i + 1) e'
  | none => ([], i, e)
theorem beside_t {l : List Str} (hl : Fine l) (i : Nat) (e : Bool) (hi : i ≤ 900000) : To (fun n => M.citation_reader_beside n (rdr l i e)) (pathT l (besideF l i e)) := by
  simp only [M.citation_reader_beside]
  have hk := rkind_t hl sgL i e (by omega)
  unfold besideF
  refine To.bindS (a := sgL) rfl ?_
  cases hw : wordF l (isK sgL) i e with
  | none =>
    rw [hw] at hk
    exact To.bind hk (To.pos rfl To.pure)
  | some q =>
    rw [hw] at hk
    exact To.bind hk (To.neg (by simp [kindT]) (To.bind (more_t hl 8 [⟨kdI sgL q.1, []⟩] (i + 1) q.2 rfl (by omega)) To.pure))
def citeT (l : List Str) (r : api_Cite × Nat × Bool) : api_Cite × citation_reader := (r.1, rdr l r.2.1 r.2.2)
def form1 (l : List Str) (i : Nat) (e : Bool) : api_Cite × Nat × Bool := let r := pathF l i e; (⟨0, r.1, [], 0, 0⟩, r.2)
def spanF (l : List Str) (i : Nat) (e : Bool) : api_Cite × Nat × Bool :=
  let r := pathF l i e
  match stepF l plL r.2.1 r.2.2 with
  | none => (⟨1, r.1, [], 0, 0⟩, r.2)
  | some (s, e2) => match wordF l (fun x => x == toW) (r.2.1 + 2) e2 with
    | none => (⟨1, r.1, [], 0, 0⟩, r.2.1 + 2, e2)
    | some (_, e3) => match wordF l labB (r.2.1 + 3) e3 with
      | none => (⟨1, r.1 ++ [s], [], 0, 0⟩, r.2.1 + 3, e3)
      | some (t, e4) => (⟨1, r.1 ++ [s], t, 0, 0⟩, r.2.1 + 4, e4)
def form2 (l : List Str) (i : Nat) (e : Bool) : api_Cite × Nat × Bool := match wordF l (fun x => x == thisW) i e with
  | none => (⟨2, [], [], 0, 0⟩, i, e)
  | some (_, e1) => let r := besideF l (i + 1) e1; (⟨2, r.1, [], 0, 0⟩, r.2)
def form3 (l : List Str) (i : Nat) (e : Bool) : api_Cite × Nat × Bool := match wordF l (fun x => x == theW) i e with
  | none => (⟨3, [], [], 0, 0⟩, i, e)
  | some (_, e1) => match wordF l (fun x => x == saidW) (i + 1) e1 with
    | none => (⟨3, [], [], 0, 0⟩, i + 1, e1)
    | some (_, e2) => let r := besideF l (i + 2) e2; (⟨3, r.1, [], 0, 0⟩, r.2)
def form4 (l : List Str) (i : Nat) (e : Bool) : api_Cite × Nat × Bool := match wordF l (fun x => x == oldW) i e with
  | none => (⟨4, [], [], 0, 0⟩, i, e)
  | some (_, e1) => let r := pathF l (i + 1) e1; (⟨4, r.1, [], 0, 0⟩, r.2)
theorem more_len (l : List Str) : ∀ (k : Nat) (p : List api_Step) (i : Nat) (e : Bool), (moreF l k p i e).2.1 ≤ i + 2 * k ∧ (moreF l k p i e).1.length ≤ p.length + k ∧ i ≤ (moreF l k p i e).2.1
  | 0, p, i, e => by simp [moreF]
  | k + 1, p, i, e => by
    unfold moreF
    split
    · simp
    · rename_i s e' hs
      have := more_len l k (p ++ [s]) (i + 2) e'
      simp at this
      omega
theorem path_len (l : List Str) (i : Nat) (e : Bool) : (pathF l i e).2.1 ≤ i + 20 ∧ (pathF l i e).1.length ≤ 9 := by
  unfold pathF
  split
  · rename_i e' _
    have := more_len l 8 [⟨0, []⟩] (i + 1) e'
    simp at this ⊢
    omega
  · have := more_len l 9 [] i e
    simp at this ⊢
    omega
theorem form1_t {l : List Str} (hl : Fine l) (i : Nat) (e : Bool) (hi : i ≤ 500000) : To (fun n => M.citation_forms_1 n (rdr l i e)) (citeT l (form1 l i e)) := by
  simp only [M.citation_forms_1]
  exact To.bind (path_t hl i e (by omega)) To.pure
theorem span_t {l : List Str} (hl : Fine l) (i : Nat) (e : Bool) (hi : i ≤ 500000) : To (fun n => M.citation_reader_span n (rdr l i e)) (citeT l (spanF l i e)) := by
  simp only [M.citation_reader_span]
  have hp := path_t hl i e (by omega)
  have hlen := path_len l i e
  unfold spanF
  generalize pathF l i e = r at hp hlen ⊢
  obtain ⟨p, j, e1⟩ := r
  simp only at hlen ⊢
  refine To.bind hp (To.bindS (a := plL) rfl ?_)
  have hs := step_t hl plL j e1 (by omega)
  cases hf : stepF l plL j e1 with
  | none =>
    rw [hf] at hs
    exact To.bind hs (To.bind (a := (true, rdr l j e1)) (To.pos rfl To.pure) (To.pos rfl To.pure))
  | some q =>
    obtain ⟨s, e2⟩ := q
    rw [hf] at hs
    refine To.bind hs ?_
    have hj := just_t hl toW (j + 2) e2 (by omega)
    simp only
    cases hw : wordF l (fun x => x == toW) (j + 2) e2 with
    | none =>
      rw [hw] at hj
      exact To.bind (a := (true, rdr l (j + 2) e2)) (To.neg (by simp [stepT]) (To.bind hj To.pure)) (To.pos rfl To.pure)
    | some q2 =>
      obtain ⟨_, e3⟩ := q2
      rw [hw] at hj
      refine To.bind (a := (false, rdr l (j + 3) e3)) (To.neg (by simp [stepT]) (To.bind hj To.pure)) (To.neg (by simp) (To.bindS (a := p ++ [s]) ?_ ?_))
      · exact appC_eq (by simp [pathT]; omega)
      have ht := label_t hl (j + 3) e3 (by omega)
      simp only
      cases hw2 : wordF l labB (j + 3) e3 with
      | none => rw [hw2] at ht; exact To.bind ht To.pure
      | some q3 => rw [hw2] at ht; exact To.bind ht To.pure
theorem form2_t {l : List Str} (hl : Fine l) (i : Nat) (e : Bool) (hi : i ≤ 500000) : To (fun n => M.citation_forms_2 n (rdr l i e)) (citeT l (form2 l i e)) := by
  simp only [M.citation_forms_2]
  have hj := just_t hl thisW i e (by omega)
  unfold form2
  cases hw : wordF l (fun x => x == thisW) i e with
  | none => rw [hw] at hj; exact To.bind hj (To.pos rfl To.pure)
  | some q => rw [hw] at hj; exact To.bind hj (To.neg (by simp [justT]) (To.bind (beside_t hl (i + 1) q.2 (by omega)) To.pure))
theorem form3_t {l : List Str} (hl : Fine l) (i : Nat) (e : Bool) (hi : i ≤ 500000) : To (fun n => M.citation_forms_3 n (rdr l i e)) (citeT l (form3 l i e)) := by
  simp only [M.citation_forms_3]
  have hj := just_t hl theW i e (by omega)
  unfold form3
  cases hw : wordF l (fun x => x == theW) i e with
  | none => rw [hw] at hj; exact To.bind (a := (true, rdr l i e)) (To.bind hj (To.pos rfl To.pure)) (To.pos rfl To.pure)
  | some q =>
    obtain ⟨_, e1⟩ := q
    rw [hw] at hj
    have hj2 := just_t hl saidW (i + 1) e1 (by omega)
    simp only
    cases hw2 : wordF l (fun x => x == saidW) (i + 1) e1 with
    | none => rw [hw2] at hj2; exact To.bind (a := (true, rdr l (i + 1) e1)) (To.bind hj (To.neg (by simp [justT]) (To.bind hj2 To.pure))) (To.pos rfl To.pure)
    | some q2 =>
      rw [hw2] at hj2
      exact To.bind (a := (false, rdr l (i + 2) q2.2)) (To.bind hj (To.neg (by simp [justT]) (To.bind hj2 To.pure))) (To.neg (by simp) (To.bind (beside_t hl (i + 2) q2.2 (by omega)) To.pure))
theorem form4_t {l : List Str} (hl : Fine l) (i : Nat) (e : Bool) (hi : i ≤ 500000) : To (fun n => M.citation_forms_4 n (rdr l i e)) (citeT l (form4 l i e)) := by
  simp only [M.citation_forms_4]
  have hj := just_t hl oldW i e (by omega)
  unfold form4
  cases hw : wordF l (fun x => x == oldW) i e with
  | none => rw [hw] at hj; exact To.bind hj (To.pos rfl To.pure)
  | some q => rw [hw] at hj; exact To.bind hj (To.neg (by simp [justT]) (To.bind (path_t hl (i + 1) q.2 (by omega)) To.pure))
def placed (i : Nat) (r : api_Cite × Nat × Bool) : api_Cite := { r.1 with From := (i : Int), At := (r.2.1 : Int) }
def better (i : Nat) (best : api_Cite) (r : api_Cite × Nat × Bool) : api_Cite := if citeB (placed i r) = true ∧ best.At < (r.2.1 : Int) then placed i r else best
def longF (l : List Str) (i : Nat) : api_Cite :=
  better i (better i (better i (better i (better i zapi_Cite (form1 l i false)) (spanF l i false)) (form2 l i false)) (form3 l i false)) (form4 l i false)
theorem long_step {l : List Str} {i : Nat} (f : Nat → citation_reader → Option (api_Cite × citation_reader)) (fs : Nat → List (citation_reader → Option (api_Cite × citation_reader))) (best : api_Cite) (r : api_Cite × Nat × Bool) (res : api_Cite)
    (hf : To (fun n => f n (rdr l i false)) (citeT l r)) (k : To (fun n => M.citation_longest_loop1 n l (i : Int) (fs n) (better i best r)) res) : To (fun n => M.citation_longest_loop1 n l (i : Int) (f n :: fs n) best) res := by
  simp only [M.citation_longest_loop1]
  refine To.bind hf (To.bind (cvalid_ok (placed i r)) ?_)
  unfold better at k
  by_cases h : citeB (placed i r) = true
  · refine To.pos h ?_
    by_cases h2 : best.At < (r.2.1 : Int)
    · rw [if_pos ⟨h, h2⟩] at k
      exact To.pos h2 k
    · rw [if_neg (fun e => h2 e.2)] at k
      exact To.neg h2 k
  · rw [if_neg (fun e => h e.1)] at k
    exact To.neg h k
theorem longest_t {l : List Str} (hl : Fine l) (i : Nat) (hi : i ≤ 500000) : To (fun n => M.citation_longest n l (i : Int)) (longF l i, decide (0 < (longF l i).At)) := by
  simp only [M.citation_longest, M.citation_forms]
  refine To.bind (a := longF l i) ?_ To.pure
  refine long_step (fun n s0 => M.citation_forms_1 n s0) (fun n => [(fun s0 => M.citation_reader_span n s0), (fun s0 => M.citation_forms_2 n s0), (fun s0 => M.citation_forms_3 n s0), (fun s0 => M.citation_forms_4 n s0)]) _ _ _ (form1_t hl i false hi) ?_
  refine long_step (fun n s0 => M.citation_reader_span n s0) (fun n => [(fun s0 => M.citation_forms_2 n s0), (fun s0 => M.citation_forms_3 n s0), (fun s0 => M.citation_forms_4 n s0)]) _ _ _ (span_t hl i false hi) ?_
  refine long_step (fun n s0 => M.citation_forms_2 n s0) (fun n => [(fun s0 => M.citation_forms_3 n s0), (fun s0 => M.citation_forms_4 n s0)]) _ _ _ (form2_t hl i false hi) ?_
  refine long_step (fun n s0 => M.citation_forms_3 n s0) (fun n => [(fun s0 => M.citation_forms_4 n s0)]) _ _ _ (form3_t hl i false hi) ?_
  refine long_step (fun n s0 => M.citation_forms_4 n s0) (fun n => []) _ _ _ (form4_t hl i false hi) ?_
  simp only [M.citation_longest_loop1]
  exact To.pure
end Go.Proofs.YtnmkblpbmoikpaaDoor
