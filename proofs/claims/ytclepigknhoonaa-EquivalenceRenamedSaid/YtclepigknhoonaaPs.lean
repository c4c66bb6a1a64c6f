
/-
  Chapter 20: what Scan finds (picked by wip/scripts/pick.py).
-/
import Derived.Test.YtclepigknhoonaaPc
import Derived.KernelRfl
set_option linter.unusedVariables false
set_option linter.unusedSimpArgs false
namespace Go.Proofs.Ytclepigknhoonaa
open Go Go.Dec

theorem mem_dl {α : Type} {l : List α} {x : α} (h : x ∈ l.dropLast) : x ∈ l := (List.dropLast_sublist l).subset h

def sgL : List Str := [([] : Str), ([112, 97, 114, 116] : Str), ([115, 101, 99, 116, 105, 111, 110] : Str), ([112, 97, 114, 97, 103, 114, 97, 112, 104] : Str), ([116, 97, 98, 108, 101] : Str), ([114, 111, 119] : Str), ([99, 101, 108, 108] : Str), ([110, 111, 116, 101] : Str)]

def plL : List Str := [([] : Str), ([112, 97, 114, 116, 115] : Str), ([115, 101, 99, 116, 105, 111, 110, 115] : Str), ([112, 97, 114, 97, 103, 114, 97, 112, 104, 115] : Str), ([116, 97, 98, 108, 101, 115] : Str), ([114, 111, 119, 115] : Str), ([] : Str), ([110, 111, 116, 101, 115] : Str)]

def bkW : Str := [98, 111, 111, 107]

def thisW : Str := [116, 104, 105, 115]

def theW : Str := [116, 104, 101]

def saidW : Str := [115, 97, 105, 100]

def oldW : Str := [102, 111, 114, 109, 101, 114, 108, 121]

def toW : Str := [116, 111]

def sg (k : Int) : Str := (idx sgL k).getD []

def pl (k : Int) : Str := (idx plL k).getD []

theorem seven {k : Int} (h0 : 1 ≤ k) (h1 : k ≤ 7) : k = 1 ∨ k = 2 ∨ k = 3 ∨ k = 4 ∨ k = 5 ∨ k = 6 ∨ k = 7 := by omega

def toldS (s : api_Step) : List Str := if bookB s = true then [bkW] else if s.Label = [] then [sg s.Kind] else [sg s.Kind, s.Label]

def toldL (p : List api_Step) : List Str := p.flatMap toldS

theorem lab_len {s : Str} (h : labB s = true) : s.length ≤ 7 := by
  unfold labB at h
  simp only [Bool.and_eq_true, decide_eq_true_eq] at h
  omega

def okS (s : api_Step) : Prop := 0 ≤ s.Kind ∧ s.Kind ≤ 7 ∧ s.Label.length ≤ 7 ∧ (s.Kind = 0 → s.Label = [])

theorem step_ok {s : api_Step} (h : stepB s = true) : okS s ∧ 1 ≤ s.Kind := by
  unfold stepB at h
  simp only [Bool.and_eq_true, decide_eq_true_eq] at h
  exact ⟨⟨by omega, h.1.2, lab_len h.2, fun e => by omega⟩, h.1.1⟩

theorem steps_ok : ∀ {p : List api_Step}, stepsB p = true → ∀ s, s ∈ p → okS s
  | x :: p, h, s, hs => by
    unfold stepsB at h
    rw [Bool.and_eq_true] at h
    rcases List.mem_cons.1 hs with rfl | hs
    · exact (step_ok h.1).1
    · exact steps_ok h.2 s hs

theorem book_is {s : api_Step} (h : bookB s = true) : s = ⟨0, []⟩ := by
  obtain ⟨k, l⟩ := s
  unfold bookB at h
  simp only [Bool.and_eq_true, decide_eq_true_eq, beq_iff_eq] at h
  rw [h.1, h.2]

theorem plain_steps {p : List api_Step} (h : plainB p = true) : ∀ s, s ∈ p → okS s := by
  unfold plainB at h
  rw [Bool.and_eq_true] at h
  cases p with
  | nil => intro s hs; cases hs
  | cons x q =>
    rw [bare.eq_2] at h
    intro s hs
    by_cases hb : bookB x = true
    · rw [if_pos hb] at h
      rcases List.mem_cons.1 hs with rfl | hs
      · rw [book_is hb]
        exact ⟨by decide, by decide, by decide, fun _ => rfl⟩
      · exact steps_ok h.2 s hs
    · rw [if_neg hb] at h
      exact steps_ok h.2 s hs

theorem near_steps {p : List api_Step} (h : nearB p = true) : ∀ s, s ∈ p → okS s := by
  cases p with
  | nil => intro s hs; cases hs
  | cons x q =>
    unfold nearB at h
    simp only [Bool.and_eq_true, decide_eq_true_eq, beq_iff_eq] at h
    intro s hs
    rcases List.mem_cons.1 hs with rfl | hs
    · refine ⟨by omega, by omega, ?_, fun e => by omega⟩
      have : s.Label = [] := by simp_all
      rw [this]; simp
    · exact steps_ok (by simp_all) s hs

theorem cite_small {c : api_Cite} (h : citeB c = true) : c.Path.length ≤ 9 ∧ c.To.length ≤ 7 ∧ ∀ s ∈ c.Path, okS s := by
  by_cases h9 : 9 < c.Path.length
  · rw [cite9 h9] at h; cases h
  refine ⟨by omega, ?_⟩
  by_cases h04 : c.Kind = 0 ∨ c.Kind = 4
  · rw [cite04 h9 h04, Bool.and_eq_true] at h
    have : c.To = [] := by simpa using h.1
    exact ⟨by rw [this]; simp, plain_steps h.2⟩
  · by_cases h1 : c.Kind = 1
    · rw [cite1 h9 h1, Bool.and_eq_true, Bool.and_eq_true] at h
      exact ⟨lab_len h.1.2, plain_steps h.1.1⟩
    · by_cases h23 : c.Kind = 2 ∨ c.Kind = 3
      · rw [cite23 h9 h23, Bool.and_eq_true] at h
        have : c.To = [] := by simpa using h.1
        exact ⟨by rw [this]; simp, near_steps h.2⟩
      · rw [citeO h04 h1 h23] at h; cases h

def lastLab (p : List api_Step) : Str := match p.getLast? with
  | some s => s.Label
  | none => []

def tailW (c : api_Cite) : List Str := [pl (lastKind c.Path), lastLab c.Path, toW, c.To]

def wordsB (c : api_Cite) : List Str :=
  if c.Kind = 1 then toldL c.Path.dropLast ++ tailW c
  else if c.Kind = 2 then thisW :: toldL c.Path
  else if c.Kind = 3 then theW :: saidW :: toldL c.Path
  else if c.Kind = 4 then oldW :: toldL c.Path
  else toldL c.Path

theorem toldL_len (p : List api_Step) : (toldL p).length ≤ 2 * p.length := by
  unfold toldL
  induction p with
  | nil => simp
  | cons s p ih =>
    simp only [List.flatMap_cons, List.length_append, List.length_cons]
    have : (toldS s).length ≤ 2 := by
      unfold toldS
      split
      · simp
      · split <;> simp
    omega

theorem toldS_no {s : api_Step} (h : s.Kind ≠ 0) : bookB s = false := by simp [bookB, h]

def signB (b : UInt8) : Bool := b == 44 || b == 59 || b == 46 || b == 58 || b == 41

theorem u8_eq (x b : UInt8) : ((x.toNat : Int) = (b.toNat : Int)) ↔ b = x := ⟨fun h => UInt8.toNat_inj.1 (by omega), fun h => by rw [h]⟩

theorem sign_ix (b : UInt8) : ∃ k, ixM [44, 59, 46, 58, 41] (b.toNat : Int) = some k ∧ ((k < 0) ↔ signB b = false) := by
  refine ⟨_, rfl, ?_⟩
  unfold signB
  simp only [ixB, u8_eq]
  by_cases h1 : b = 44
  · simp [h1]
  by_cases h2 : b = 59
  · simp [h1, h2]
  by_cases h3 : b = 46
  · simp [h1, h2, h3]
  by_cases h4 : b = 58
  · simp [h1, h2, h3, h4]
  by_cases h5 : b = 41
  · simp [h1, h2, h3, h4, h5]
  · simp [h1, h2, h3, h4, h5]

/-- The next word, if it is accepted, with or without a sign behind it. -/
def wordF (l : List Str) (is : Str → Bool) (i : Nat) (e : Bool) : Option (Str × Bool) :=
  if e = true then none else match l[i]? with
    | none => none
    | some v => if is v = true then some (v, false) else match v.getLast? with
      | none => none
      | some b => if signB b = true ∧ is v.dropLast = true then some (v.dropLast, true) else none

def rdr (l : List Str) (i : Nat) (e : Bool) : citation_reader := ⟨l, (i : Int), e⟩

def wordT (l : List Str) (i : Nat) (e : Bool) : Option (Str × Bool) → (Str × Bool) × citation_reader
  | some (s, e') => ((s, true), rdr l (i + 1) e')
  | none => (([], false), rdr l i e)

/-- Words that the machine can hold. -/
def FineW (l : List Str) : Prop := l.length ≤ 1000000 ∧ ∀ v ∈ l, v.length ≤ 1000000

theorem word_t {l : List Str} (hl : FineW l) (is : Str → Bool) (isM : Nat → Str → Option Bool) (his : ∀ s, To (fun n => isM n s) (is s)) (i : Nat) (e : Bool) (hi : i ≤ 2000000) :
    To (fun n => M.citation_reader_word (rdr l i e) (isM n)) (wordT l i e (wordF l is i e)) := by
  simp only [M.citation_reader_word]
  cases e with
  | true => exact To.pos rfl To.pure
  | false =>
    refine To.neg (by simp [rdr]) ?_
    by_cases hlen : l.length ≤ i
    · have hn : l[i]? = none := List.getElem?_eq_none hlen
      refine To.pos (by simp only [rdr]; omega) (To.pure.of ?_)
      simp [wordF, hn, wordT]
    · refine To.neg (by simp only [rdr]; omega) ?_
      obtain ⟨v, hv⟩ : ∃ v, l[i]? = some v := ⟨_, List.getElem?_eq_getElem (by omega)⟩
      have hidx : idx (rdr l i false).l_ (rdr l i false).at_ = some v := by
        show idx l (i : Int) = _
        rw [idx_nat]; exact hv
      have hvl := hl.2 v (List.mem_of_getElem? hv)
      refine To.bindS hidx ?_
      have miss : ∀ (r : (Str × Bool) × citation_reader), r = (([], false), rdr l i false) → wordF l is i false = none → To (fun _ : Nat => some r) (wordT l i false (wordF l is i false)) := fun r hr hw => by
        rw [hw, hr]; exact To.pure
      have hit : ∀ (s : Str) (e' : Bool), wordF l is i false = some (s, e') → To (fun _ : Nat => Option.bind (addC (i : Int) (1 : Int)) fun v7 => some ((s, true), (⟨l, v7, e'⟩ : citation_reader))) (wordT l i false (wordF l is i false)) := fun s e' hw => by
        rw [hw]
        exact To.bindS (addC_succ (by omega)) To.pure
      have hF : wordF l is i false = (if is v = true then some (v, false) else match v.getLast? with
          | none => none
          | some b => if signB b = true ∧ is v.dropLast = true then some (v.dropLast, true) else none) := by
        unfold wordF; rw [if_neg (by simp), hv]
      by_cases h1 : is v = true
      · rw [if_pos h1] at hF
        refine To.bind (a := (Sum.inl (v, rdr l i false) : (Str × citation_reader) ⊕ ((Str × Bool) × citation_reader))) ?_ ?_
        · exact To.bind (his v) (To.neg (by simp [h1]) To.pure)
        · exact hit v false hF
      · have h1' : is v = false := by simpa using h1
        rw [if_neg h1] at hF
        cases hb : v.getLast? with
        | none =>
          have hv0 : v = [] := by simpa using hb
          subst hv0
          rw [hb] at hF
          refine To.bind (a := (Sum.inr (([], false), rdr l i false) : (Str × citation_reader) ⊕ ((Str × Bool) × citation_reader))) ?_ ?_
          · exact To.bind (his []) (To.pos h1' (To.bindS (a := -1) rfl (To.bind (a := true) (To.pos (by decide) To.pure) (To.pos rfl To.pure))))
          · exact miss _ rfl hF
        | some b =>
          have hne : v ≠ [] := by rintro rfl; cases hb
          have hpos : 0 < v.length := List.length_pos_iff.2 hne
          have hsub : subC (v.length : Int) (1 : Int) = some ((v.length - 1 : Nat) : Int) := by rw [subC_eq (by omega) (by omega)]; congr 1; omega
          have hib : idx v ((v.length - 1 : Nat) : Int) = some b := by rw [idx_nat, ← List.getLast?_eq_getElem?]; exact hb
          have hsl : slcHi v ((v.length - 1 : Nat) : Int) = some v.dropLast := by
            unfold slcHi
            rw [if_pos (by omega), List.dropLast_eq_take]; rfl
          have hlt : ¬ ((v.length - 1 : Nat) : Int) < 0 := by omega
          obtain ⟨k, hk, hks⟩ := sign_ix b
          rw [hb] at hF
          have hF : wordF l is i false = if signB b = true ∧ is v.dropLast = true then some (v.dropLast, true) else none := hF
          by_cases hs : signB b = true
          · have hk0 : ¬ k < 0 := fun h => by rw [hks.1 h] at hs; cases hs
            by_cases h2 : is v.dropLast = true
            · rw [if_pos ⟨hs, h2⟩] at hF
              refine To.bind (a := (Sum.inl (v.dropLast, ⟨l, (i : Int), true⟩) : (Str × citation_reader) ⊕ ((Str × Bool) × citation_reader))) ?_ ?_
              · refine To.bind (his v) (To.pos h1' (To.bindS hsub (To.bind (a := false) ?_ ?_)))
                · exact To.neg hlt (To.bindS hib (To.bindS hk (To.neg hk0 (To.bindS hsl (To.bind (his _) (To.pure.of (by simp [h2])))))))
                · exact To.neg (by simp) (To.bindS hsl To.pure)
              · exact hit _ true hF
            · have h2' : is v.dropLast = false := by simpa using h2
              rw [if_neg (fun e => h2 e.2)] at hF
              refine To.bind (a := (Sum.inr (([], false), rdr l i false) : (Str × citation_reader) ⊕ ((Str × Bool) × citation_reader))) ?_ ?_
              · refine To.bind (his v) (To.pos h1' (To.bindS hsub (To.bind (a := true) ?_ ?_)))
                · exact To.neg hlt (To.bindS hib (To.bindS hk (To.neg hk0 (To.bindS hsl (To.bind (his _) (To.pure.of (by simp [h2'])))))))
                · exact To.pos rfl To.pure
              · exact miss _ rfl hF
          · have hs' : signB b = false := by simpa using hs
            rw [if_neg (fun e => hs e.1)] at hF
            refine To.bind (a := (Sum.inr (([], false), rdr l i false) : (Str × citation_reader) ⊕ ((Str × Bool) × citation_reader))) ?_ ?_
            · refine To.bind (his v) (To.pos h1' (To.bindS hsub (To.bind (a := true) ?_ ?_)))
              · exact To.neg hlt (To.bindS hib (To.bindS hk (To.pos (hks.2 hs') To.pure)))
              · exact To.pos rfl To.pure
            · exact miss _ rfl hF

def justT (l : List Str) (i : Nat) (e : Bool) : Option (Str × Bool) → Bool × citation_reader
  | some (_, e') => (true, rdr l (i + 1) e')
  | none => (false, rdr l i e)

theorem just_t {l : List Str} (hl : FineW l) (w : Str) (i : Nat) (e : Bool) (hi : i ≤ 2000000) : To (fun _ => M.citation_reader_just (rdr l i e) w) (justT l i e (wordF l (fun s => s == w) i e)) := by
  simp only [M.citation_reader_just]
  refine To.bind (word_t hl (fun s => s == w) (fun _ s => M.citation_reader_just_1 s w) (fun s => by simp only [M.citation_reader_just_1]; exact To.pure) i e hi) ?_
  cases wordF l (fun s => s == w) i e with
  | none => exact To.pure
  | some p => exact To.pure

def ixS (s : Str) : List Str → Int → Option Int
  | [], _ => none
  | x :: xs, k => if x = s then some k else ixS s xs (k + 1)

def kdI (L : List Str) (s : Str) : Int := if s = [] then 0 else match ixS s L 0 with
  | some k => k
  | none => 0

theorem ixS_ge (s : Str) : ∀ (L : List Str) (k j : Int), ixS s L k = some j → k ≤ j
  | [], k, j, h => by cases h
  | x :: xs, k, j, h => by
    unfold ixS at h
    split at h
    · cases h; exact Int.le_refl _
    · have := ixS_ge s xs (k + 1) j h; omega

theorem kind_t (L : List Str) (s : Str) : To (fun n => M.citation_kind n L s) (kdI L s) := by
  have loop : ∀ (xs : List Str) (k : Nat), L.drop k = xs → To (fun n => M.slices_Index_string_string_loop1 L s n (k : Int)) (match ixS s xs k with | some j => .inr j | none => .inl ()) := by
    intro xs
    induction xs with
    | nil =>
      intro k hx
      refine To.succ ?_
      simp only [M.slices_Index_string_string_loop1]
      exact To.neg (drop_end hx) To.pure
    | cons x xs ih =>
      intro k hx
      refine To.succ ?_
      simp only [M.slices_Index_string_string_loop1]
      refine To.pos (drop_lt hx) (To.bindS (drop_idx hx) ?_)
      unfold ixS
      by_cases h : x = s
      · rw [if_pos h]
        exact To.pos (by simp [h]) To.pure
      · rw [if_neg h, cast_succ]
        exact To.neg (by simpa using fun e => h e.symm) (ih (k + 1) (drop_next hx))
  simp only [M.citation_kind]
  unfold kdI
  by_cases h : s = []
  · rw [if_pos h]
    exact To.pos (by simp [h]) To.pure
  · rw [if_neg h]
    refine To.neg (by simpa using h) ?_
    simp only [M.slices_Index_string_string]
    have hl := loop L 0 rfl
    cases hi : ixS s L ((0 : Nat) : Int) with
    | none =>
      rw [hi] at hl
      exact To.bind (a := -1) (To.bind hl To.pure) (To.pure.of (by decide))
    | some j =>
      rw [hi] at hl
      have hj := ixS_ge s L _ _ hi
      exact To.bind (a := j) (To.bind hl To.pure) (To.pure.of (show max j 0 = j by omega))

def isK (L : List Str) (s : Str) : Bool := decide (0 < kdI L s)

def kindT (l L : List Str) (i : Nat) (e : Bool) : Option (Str × Bool) → (Int × Bool) × citation_reader
  | some (s, e') => ((kdI L s, true), rdr l (i + 1) e')
  | none => ((0, false), rdr l i e)

theorem rkind_t {l : List Str} (hl : FineW l) (L : List Str) (i : Nat) (e : Bool) (hi : i ≤ 2000000) : To (fun n => M.citation_reader_kind n (rdr l i e) L) (kindT l L i e (wordF l (isK L) i e)) := by
  simp only [M.citation_reader_kind]
  refine To.bind (word_t hl (isK L) (fun n s => M.citation_reader_kind_1 n s L) (fun s => by simp only [M.citation_reader_kind_1]; exact To.bind (kind_t L s) To.pure) i e hi) ?_
  cases wordF l (isK L) i e with
  | none => exact To.bind (kind_t L []) To.pure
  | some p => exact To.bind (kind_t L p.1) To.pure

def stepF (l L : List Str) (i : Nat) (e : Bool) : Option (api_Step × Bool) := match wordF l (isK L) i e with
  | none => none
  | some (s, e1) => match wordF l labB (i + 1) e1 with
    | none => none
    | some (t, e2) => some (⟨kdI L s, t⟩, e2)

def stepT (l : List Str) (i : Nat) (e : Bool) : Option (api_Step × Bool) → (api_Step × Bool) × citation_reader
  | some (s, e') => ((s, true), rdr l (i + 2) e')
  | none => ((⟨0, []⟩, false), rdr l i e)

theorem label_t {l : List Str} (hl : FineW l) (i : Nat) (e : Bool) (hi : i ≤ 2000000) : To (fun n => M.citation_reader_word (rdr l i e) (fun s0 => M.label_Valid n s0)) (wordT l i e (wordF l labB i e)) :=
  word_t hl labB (fun n s => M.label_Valid n s) (fun s => label_ok s) i e hi

theorem step_t {l : List Str} (hl : FineW l) (L : List Str) (i : Nat) (e : Bool) (hi : i ≤ 1000000) : To (fun n => M.citation_reader_step n (rdr l i e) L) (stepT l i e (stepF l L i e)) := by
  simp only [M.citation_reader_step]
  have hk := rkind_t hl L i e (by omega)
  unfold stepF
  cases hw : wordF l (isK L) i e with
  | none =>
    rw [hw] at hk
    refine To.bind hk (To.bind (label_t hl i e (by omega)) (To.bind (a := true) (To.pos rfl To.pure) (To.pos rfl To.pure)))
  | some q =>
    obtain ⟨s, e1⟩ := q
    rw [hw] at hk
    have ht := label_t hl (i + 1) e1 (by omega)
    refine To.bind hk ?_
    cases hw2 : wordF l labB (i + 1) e1 with
    | none =>
      rw [hw2] at ht
      exact To.bind ht (To.bind (a := true) (To.neg (by simp [kindT]) To.pure) (To.pos rfl (To.pure.of (by simp [hw2, stepT]))))
    | some q2 =>
      rw [hw2] at ht
      exact To.bind ht (To.bind (a := false) (To.neg (by simp [kindT]) To.pure) (To.neg (by simp) (To.pure.of (by simp [hw2, stepT, kindT, wordT]))))

def moreF (l : List Str) : Nat → List api_Step → Nat → Bool → List api_Step × Nat × Bool
  | 0, p, i, e => (p, i, e)
  | k + 1, p, i, e => match stepF l sgL i e with
    | none => (p, i, e)
    | some (s, e') => moreF l k (p ++ [s]) (i + 2) e'

def pathT (l : List Str) (r : List api_Step × Nat × Bool) : List api_Step × citation_reader := (r.1, rdr l r.2.1 r.2.2)

theorem more_loop {l : List Str} (hl : FineW l) : ∀ (k : Nat) (p : List api_Step) (i : Nat) (e : Bool), p.length + k = 9 → i + 2 * k ≤ 1000000 → To (fun n => M.citation_reader_more_loop1 n p (rdr l i e)) (pathT l (moreF l k p i e)) := by
  intro k
  induction k with
  | zero =>
    intro p i e hp hi
    refine To.succ ?_
    simp only [M.citation_reader_more_loop1]
    exact To.neg (by omega) To.pure
  | succ k ih =>
    intro p i e hp hi
    refine To.succ ?_
    simp only [M.citation_reader_more_loop1]
    have hs := step_t hl sgL i e (by omega)
    unfold moreF
    refine To.pos (by omega) (To.bindS (a := sgL) rfl ?_)
    cases hf : stepF l sgL i e with
    | none =>
      rw [hf] at hs
      exact To.bind hs (To.pos rfl To.pure)
    | some q =>
      obtain ⟨s, e'⟩ := q
      rw [hf] at hs
      refine To.bind hs (To.neg (by simp [stepT]) (To.bindS (appC_eq (by simp; omega)) ?_))
      exact ih (p ++ [s]) (i + 2) e' (by simp; omega) (by omega)

theorem more_t {l : List Str} (hl : FineW l) (k : Nat) (p : List api_Step) (i : Nat) (e : Bool) (hp : p.length + k = 9) (hi : i + 2 * k ≤ 1000000) : To (fun n => M.citation_reader_more n (rdr l i e) p) (pathT l (moreF l k p i e)) := by
  simp only [M.citation_reader_more]
  exact To.bind (more_loop hl k p i e hp hi) To.pure

def pathF (l : List Str) (i : Nat) (e : Bool) : List api_Step × Nat × Bool := match wordF l (fun s => s == bkW) i e with
  | some (_, e') => moreF l 8 [⟨0, []⟩] (i + 1) e'
  | none => moreF l 9 [] i e

theorem path_t {l : List Str} (hl : FineW l) (i : Nat) (e : Bool) (hi : i ≤ 900000) : To (fun n => M.citation_reader_path n (rdr l i e)) (pathT l (pathF l i e)) := by
  simp only [M.citation_reader_path]
  have hj := just_t hl bkW i e (by omega)
  unfold pathF
  cases hw : wordF l (fun s => s == bkW) i e with
  | none =>
    rw [hw] at hj
    refine To.bind (a := ([], rdr l i e)) (To.bind hj (To.neg (by simp [justT]) To.pure)) (To.bind (more_t hl 9 [] i e rfl (by omega)) To.pure)
  | some q =>
    rw [hw] at hj
    refine To.bind (a := ([⟨0, []⟩], rdr l (i + 1) q.2)) (To.bind hj (To.pos rfl (To.bindS (appC_eq (by simp)) To.pure))) (To.bind (more_t hl 8 [⟨0, []⟩] (i + 1) q.2 rfl (by omega)) To.pure)

def besideF (l : List Str) (i : Nat) (e : Bool) : List api_Step × Nat × Bool := match wordF l (isK sgL) i e with
  | some (s, e') => moreF l 8 [⟨kdI sgL s, []⟩] (i + 1) e'
  | none => ([], i, e)

theorem beside_t {l : List Str} (hl : FineW l) (i : Nat) (e : Bool) (hi : i ≤ 900000) : To (fun n => M.citation_reader_beside n (rdr l i e)) (pathT l (besideF l i e)) := by
  simp only [M.citation_reader_beside]
  have hk := rkind_t hl sgL i e (by omega)
  unfold besideF
  refine To.bindS (a := sgL) rfl ?_
  cases hw : wordF l (isK sgL) i e with
  | none =>
    rw [hw] at hk
    exact To.bind hk (To.pos rfl To.pure)
  | some q =>
    rw [hw] at hk
    exact To.bind hk (To.neg (by simp [kindT]) (To.bind (more_t hl 8 [⟨kdI sgL q.1, []⟩] (i + 1) q.2 rfl (by omega)) To.pure))

def citeT (l : List Str) (r : api_Cite × Nat × Bool) : api_Cite × citation_reader := (r.1, rdr l r.2.1 r.2.2)

def form1 (l : List Str) (i : Nat) (e : Bool) : api_Cite × Nat × Bool := let r := pathF l i e; (⟨0, r.1, [], 0, 0⟩, r.2)

def spanF (l : List Str) (i : Nat) (e : Bool) : api_Cite × Nat × Bool :=
  let r := pathF l i e
  match stepF l plL r.2.1 r.2.2 with
  | none => (⟨1, r.1, [], 0, 0⟩, r.2)
  | some (s, e2) => match wordF l (fun x => x == toW) (r.2.1 + 2) e2 with
    | none => (⟨1, r.1, [], 0, 0⟩, r.2.1 + 2, e2)
    | some (_, e3) => match wordF l labB (r.2.1 + 3) e3 with
      | none => (⟨1, r.1 ++ [s], [], 0, 0⟩, r.2.1 + 3, e3)
      | some (t, e4) => (⟨1, r.1 ++ [s], t, 0, 0⟩, r.2.1 + 4, e4)

def form2 (l : List Str) (i : Nat) (e : Bool) : api_Cite × Nat × Bool := match wordF l (fun x => x == thisW) i e with
  | none => (⟨2, [], [], 0, 0⟩, i, e)
  | some (_, e1) => let r := besideF l (i + 1) e1; (⟨2, r.1, [], 0, 0⟩, r.2)

def form3 (l : List Str) (i : Nat) (e : Bool) : api_Cite × Nat × Bool := match wordF l (fun x => x == theW) i e with
  | none => (⟨3, [], [], 0, 0⟩, i, e)
  | some (_, e1) => match wordF l (fun x => x == saidW) (i + 1) e1 with
    | none => (⟨3, [], [], 0, 0⟩, i + 1, e1)
    | some (_, e2) => let r := besideF l (i + 2) e2; (⟨3, r.1, [], 0, 0⟩, r.2)

def form4 (l : List Str) (i : Nat) (e : Bool) : api_Cite × Nat × Bool := match wordF l (fun x => x == oldW) i e with
  | none => (⟨4, [], [], 0, 0⟩, i, e)
  | some (_, e1) => let r := pathF l (i + 1) e1; (⟨4, r.1, [], 0, 0⟩, r.2)

theorem more_len (l : List Str) : ∀ (k : Nat) (p : List api_Step) (i : Nat) (e : Bool), (moreF l k p i e).2.1 ≤ i + 2 * k ∧ (moreF l k p i e).1.length ≤ p.length + k ∧ i ≤ (moreF l k p i e).2.1
  | 0, p, i, e => by simp [moreF]
  | k + 1, p, i, e => by
    unfold moreF
    split
    · simp
    · rename_i s e' hs
      have := more_len l k (p ++ [s]) (i + 2) e'
      simp at this
      omega

theorem pathF_len (l : List Str) (i : Nat) (e : Bool) : (pathF l i e).2.1 ≤ i + 20 ∧ (pathF l i e).1.length ≤ 9 := by
  unfold pathF
  split
  · rename_i e' _
    have := more_len l 8 [⟨0, []⟩] (i + 1) e'
    simp at this ⊢
    omega
  · have := more_len l 9 [] i e
    simp at this ⊢
    omega

theorem form1_t {l : List Str} (hl : FineW l) (i : Nat) (e : Bool) (hi : i ≤ 500000) : To (fun n => M.citation_forms_1 n (rdr l i e)) (citeT l (form1 l i e)) := by
  simp only [M.citation_forms_1]
  exact To.bind (path_t hl i e (by omega)) To.pure

theorem span_t {l : List Str} (hl : FineW l) (i : Nat) (e : Bool) (hi : i ≤ 500000) : To (fun n => M.citation_reader_span n (rdr l i e)) (citeT l (spanF l i e)) := by
  simp only [M.citation_reader_span]
  have hp := path_t hl i e (by omega)
  have hlen := pathF_len l i e
  unfold spanF
  generalize pathF l i e = r at hp hlen ⊢
  obtain ⟨p, j, e1⟩ := r
  simp only at hlen ⊢
  refine To.bind hp (To.bindS (a := plL) rfl ?_)
  have hs := step_t hl plL j e1 (by omega)
  cases hf : stepF l plL j e1 with
  | none =>
    rw [hf] at hs
    exact To.bind hs (To.bind (a := (true, rdr l j e1)) (To.pos rfl To.pure) (To.pos rfl To.pure))
  | some q =>
    obtain ⟨s, e2⟩ := q
    rw [hf] at hs
    refine To.bind hs ?_
    have hj := just_t hl toW (j + 2) e2 (by omega)
    simp only
    cases hw : wordF l (fun x => x == toW) (j + 2) e2 with
    | none =>
      rw [hw] at hj
      exact To.bind (a := (true, rdr l (j + 2) e2)) (To.neg (by simp [stepT]) (To.bind hj To.pure)) (To.pos rfl To.pure)
    | some q2 =>
      obtain ⟨_, e3⟩ := q2
      rw [hw] at hj
      refine To.bind (a := (false, rdr l (j + 3) e3)) (To.neg (by simp [stepT]) (To.bind hj To.pure)) (To.neg (by simp) (To.bindS (a := p ++ [s]) ?_ ?_))
      · exact appC_eq (by simp [pathT]; omega)
      have ht := label_t hl (j + 3) e3 (by omega)
      simp only
      cases hw2 : wordF l labB (j + 3) e3 with
      | none => rw [hw2] at ht; exact To.bind ht To.pure
      | some q3 => rw [hw2] at ht; exact To.bind ht To.pure

theorem form2_t {l : List Str} (hl : FineW l) (i : Nat) (e : Bool) (hi : i ≤ 500000) : To (fun n => M.citation_forms_2 n (rdr l i e)) (citeT l (form2 l i e)) := by
  simp only [M.citation_forms_2]
  have hj := just_t hl thisW i e (by omega)
  unfold form2
  cases hw : wordF l (fun x => x == thisW) i e with
  | none => rw [hw] at hj; exact To.bind hj (To.pos rfl To.pure)
  | some q => rw [hw] at hj; exact To.bind hj (To.neg (by simp [justT]) (To.bind (beside_t hl (i + 1) q.2 (by omega)) To.pure))

theorem form3_t {l : List Str} (hl : FineW l) (i : Nat) (e : Bool) (hi : i ≤ 500000) : To (fun n => M.citation_forms_3 n (rdr l i e)) (citeT l (form3 l i e)) := by
  simp only [M.citation_forms_3]
  have hj := just_t hl theW i e (by omega)
  unfold form3
  cases hw : wordF l (fun x => x == theW) i e with
  | none => rw [hw] at hj; exact To.bind (a := (true, rdr l i e)) (To.bind hj (To.pos rfl To.pure)) (To.pos rfl To.pure)
  | some q =>
    obtain ⟨_, e1⟩ := q
    rw [hw] at hj
    have hj2 := just_t hl saidW (i + 1) e1 (by omega)
    simp only
    cases hw2 : wordF l (fun x => x == saidW) (i + 1) e1 with
    | none => rw [hw2] at hj2; exact To.bind (a := (true, rdr l (i + 1) e1)) (To.bind hj (To.neg (by simp [justT]) (To.bind hj2 To.pure))) (To.pos rfl To.pure)
    | some q2 =>
      rw [hw2] at hj2
      exact To.bind (a := (false, rdr l (i + 2) q2.2)) (To.bind hj (To.neg (by simp [justT]) (To.bind hj2 To.pure))) (To.neg (by simp) (To.bind (beside_t hl (i + 2) q2.2 (by omega)) To.pure))

theorem form4_t {l : List Str} (hl : FineW l) (i : Nat) (e : Bool) (hi : i ≤ 500000) : To (fun n => M.citation_forms_4 n (rdr l i e)) (citeT l (form4 l i e)) := by
  simp only [M.citation_forms_4]
  have hj := just_t hl oldW i e (by omega)
  unfold form4
  cases hw : wordF l (fun x => x == oldW) i e with
  | none => rw [hw] at hj; exact To.bind hj (To.pos rfl To.pure)
  | some q => rw [hw] at hj; exact To.bind hj (To.neg (by simp [justT]) (To.bind (path_t hl (i + 1) q.2 (by omega)) To.pure))

def placed (i : Nat) (r : api_Cite × Nat × Bool) : api_Cite := { r.1 with From := (i : Int), At := (r.2.1 : Int) }

def better (i : Nat) (best : api_Cite) (r : api_Cite × Nat × Bool) : api_Cite := if citeB (placed i r) = true ∧ best.At < (r.2.1 : Int) then placed i r else best

def longF (l : List Str) (i : Nat) : api_Cite :=
  better i (better i (better i (better i (better i zapi_Cite (form1 l i false)) (spanF l i false)) (form2 l i false)) (form3 l i false)) (form4 l i false)

theorem long_step {l : List Str} {i : Nat} (f : Nat → citation_reader → Option (api_Cite × citation_reader)) (fs : Nat → List (citation_reader → Option (api_Cite × citation_reader))) (best : api_Cite) (r : api_Cite × Nat × Bool) (res : api_Cite)
    (hf : To (fun n => f n (rdr l i false)) (citeT l r)) (k : To (fun n => M.citation_longest_loop1 n l (i : Int) (fs n) (better i best r)) res) : To (fun n => M.citation_longest_loop1 n l (i : Int) (f n :: fs n) best) res := by
  simp only [M.citation_longest_loop1]
  refine To.bind hf (To.bind (cvalid_ok (placed i r)) ?_)
  unfold better at k
  by_cases h : citeB (placed i r) = true
  · refine To.pos h ?_
    by_cases h2 : best.At < (r.2.1 : Int)
    · rw [if_pos ⟨h, h2⟩] at k
      exact To.pos h2 k
    · rw [if_neg (fun e => h2 e.2)] at k
      exact To.neg h2 k
  · rw [if_neg (fun e => h e.1)] at k
    exact To.neg h k

theorem longest_t {l : List Str} (hl : FineW l) (i : Nat) (hi : i ≤ 500000) : To (fun n => M.citation_longest n l (i : Int)) (longF l i, decide (0 < (longF l i).At)) := by
  simp only [M.citation_longest, M.citation_forms]
  refine To.bind (a := longF l i) ?_ To.pure
  refine long_step (fun n s0 => M.citation_forms_1 n s0) (fun n => [(fun s0 => M.citation_reader_span n s0), (fun s0 => M.citation_forms_2 n s0), (fun s0 => M.citation_forms_3 n s0), (fun s0 => M.citation_forms_4 n s0)]) _ _ _ (form1_t hl i false hi) ?_
  refine long_step (fun n s0 => M.citation_reader_span n s0) (fun n => [(fun s0 => M.citation_forms_2 n s0), (fun s0 => M.citation_forms_3 n s0), (fun s0 => M.citation_forms_4 n s0)]) _ _ _ (span_t hl i false hi) ?_
  refine long_step (fun n s0 => M.citation_forms_2 n s0) (fun n => [(fun s0 => M.citation_forms_3 n s0), (fun s0 => M.citation_forms_4 n s0)]) _ _ _ (form2_t hl i false hi) ?_
  refine long_step (fun n s0 => M.citation_forms_3 n s0) (fun n => [(fun s0 => M.citation_forms_4 n s0)]) _ _ _ (form3_t hl i false hi) ?_
  refine long_step (fun n s0 => M.citation_forms_4 n s0) (fun n => []) _ _ _ (form4_t hl i false hi) ?_
  simp only [M.citation_longest_loop1]
  exact To.pure

/-- From place i to j the words ws were read; e: behind the last one stood a sign. -/
def Took (l : List Str) (i j : Nat) (e : Bool) (ws : List Str) : Prop :=
  j = i + ws.length ∧ ∃ vs : List Str, vs.length = ws.length ∧ (∀ (k : Nat) (v : Str), vs[k]? = some v → l[i + k]? = some v) ∧
    ((e = false ∧ vs = ws) ∨ (e = true ∧ ∃ ini s b, ws = ini ++ [s] ∧ vs = ini ++ [s ++ [b]] ∧ signB b = true))

theorem Took.nil (l : List Str) (i : Nat) : Took l i i false [] := ⟨rfl, [], rfl, (fun k v h => by cases h), .inl ⟨rfl, rfl⟩⟩

theorem wordF_some {l : List Str} {is : Str → Bool} {j : Nat} {e e' : Bool} {s : Str} (h : wordF l is j e = some (s, e')) :
    e = false ∧ is s = true ∧ ∃ v, l[j]? = some v ∧ ((e' = false ∧ v = s) ∨ (e' = true ∧ ∃ b, v = s ++ [b] ∧ signB b = true)) := by
  unfold wordF at h
  cases e with
  | true => simp at h
  | false =>
    rw [if_neg (by simp)] at h
    cases hv : l[j]? with
    | none => rw [hv] at h; cases h
    | some v =>
      rw [hv] at h
      simp only at h
      by_cases h1 : is v = true
      · rw [if_pos h1] at h
        cases h
        exact ⟨rfl, h1, _, rfl, .inl ⟨rfl, rfl⟩⟩
      · rw [if_neg h1] at h
        cases hb : v.getLast? with
        | none => rw [hb] at h; cases h
        | some b =>
          rw [hb] at h
          simp only at h
          split at h
          · rename_i hc
            cases h
            refine ⟨rfl, hc.2, _, rfl, .inr ⟨rfl, b, ?_, hc.1⟩⟩
            have hne : v ≠ [] := by rintro rfl; cases hb
            have := List.dropLast_concat_getLast hne
            have hl : v.getLast hne = b := by
              rw [List.getLast?_eq_some_getLast hne] at hb
              exact Option.some.inj hb
            rw [hl] at this
            exact this.symm
          · cases h

theorem Took.word {l ws : List Str} {is : Str → Bool} {i j : Nat} {e e' : Bool} {s : Str} (t : Took l i j e ws) (h : wordF l is j e = some (s, e')) : Took l i (j + 1) e' (ws ++ [s]) ∧ is s = true := by
  obtain ⟨rfl, his, v, hv, hc⟩ := wordF_some h
  obtain ⟨hj, vs, hl, hat, hcase⟩ := t
  rcases hcase with ⟨_, rfl⟩ | ⟨he, _⟩
  · refine ⟨⟨by simp; omega, vs ++ [v], by simp, fun k x hk => ?_, ?_⟩, his⟩
    · by_cases hlt : k < vs.length
      · rw [List.getElem?_append_left hlt] at hk
        exact hat k x hk
      · rw [List.getElem?_append_right (by omega)] at hk
        have hk0 : k - vs.length = 0 := by
          by_cases h0 : k - vs.length = 0
          · exact h0
          · obtain ⟨m, hm⟩ : ∃ m, k - vs.length = m + 1 := ⟨k - vs.length - 1, by omega⟩
            rw [hm] at hk
            simp at hk
        rw [hk0] at hk
        have : v = x := by simpa using hk
        subst this
        rw [show i + k = j by omega]; exact hv
    · rcases hc with ⟨h1, h2⟩ | ⟨h1, b, h2, h3⟩
      · exact .inl ⟨h1, by rw [h2]⟩
      · exact .inr ⟨h1, vs, s, b, rfl, by rw [h2], h3⟩
  · cases he

theorem kd_word {L : List Str} {s : Str} (h : isK L s = true) : ∃ m : Nat, kdI L s = (m : Int) ∧ L[m]? = some s ∧ 0 < m := by
  have main : ∀ (xs : List Str) (k j : Int), ixS s xs k = some j → ∃ m : Nat, j = k + m ∧ xs[m]? = some s := by
    intro xs
    induction xs with
    | nil => intro k j h; cases h
    | cons x xs ih =>
      intro k j h
      unfold ixS at h
      split at h
      · rename_i e
        cases h
        exact ⟨0, by simp, by simp [e]⟩
      · obtain ⟨m, h1, h2⟩ := ih (k + 1) j h
        exact ⟨m + 1, by rw [h1]; simp; omega, by simpa using h2⟩
  unfold isK kdI at h
  unfold kdI
  have h := of_decide_eq_true h
  by_cases h0 : s = []
  · rw [if_pos h0] at h; omega
  · rw [if_neg h0] at h ⊢
    cases hi : ixS s L 0 with
    | none => rw [hi] at h; simp at h
    | some j =>
      rw [hi] at h
      obtain ⟨m, h1, h2⟩ := main L 0 j hi
      simp only at h
      exact ⟨m, by simp only; omega, h2, by omega⟩

theorem sg_word {s : Str} (h : isK sgL s = true) : 1 ≤ kdI sgL s ∧ kdI sgL s ≤ 7 ∧ sg (kdI sgL s) = s := by
  obtain ⟨m, h1, h2, h3⟩ := kd_word h
  have hm : m < 8 := (List.getElem?_eq_some_iff.1 h2).1
  rw [h1]
  refine ⟨by omega, by omega, ?_⟩
  unfold sg
  rw [idx_nat, h2]; rfl

theorem pl_word {s : Str} (h : isK plL s = true) : 1 ≤ kdI plL s ∧ kdI plL s ≤ 7 ∧ pl (kdI plL s) = s := by
  obtain ⟨m, h1, h2, h3⟩ := kd_word h
  have hm : m < 8 := (List.getElem?_eq_some_iff.1 h2).1
  rw [h1]
  refine ⟨by omega, by omega, ?_⟩
  unfold pl
  rw [idx_nat, h2]; rfl

theorem lab_ne {s : Str} (h : labB s = true) : s ≠ [] := by
  rintro rfl
  rw [labB_nil] at h; cases h

theorem told_step {s : api_Step} (h : stepB s = true) : toldS s = [sg s.Kind, s.Label] := by
  have hk := (step_ok h).2
  unfold stepB at h
  rw [Bool.and_eq_true] at h
  unfold toldS
  rw [if_neg (by rw [toldS_no (by omega)]; simp), if_neg (lab_ne h.2)]

theorem step_sound {l ws : List Str} {i j : Nat} {e e' : Bool} {s : api_Step} (t : Took l i j e ws) (h : stepF l sgL j e = some (s, e')) : Took l i (j + 2) e' (ws ++ toldS s) ∧ stepB s = true := by
  unfold stepF at h
  cases hw : wordF l (isK sgL) j e with
  | none => rw [hw] at h; cases h
  | some q =>
    obtain ⟨w, e1⟩ := q
    rw [hw] at h
    simp only at h
    cases hw2 : wordF l labB (j + 1) e1 with
    | none => rw [hw2] at h; cases h
    | some q2 =>
      obtain ⟨t2, e2⟩ := q2
      rw [hw2] at h
      simp only at h
      cases h
      obtain ⟨t1, hk⟩ := t.word hw
      obtain ⟨t3, hlab⟩ := t1.word hw2
      obtain ⟨k1, k7, hs⟩ := sg_word hk
      have hst : stepB ⟨kdI sgL w, t2⟩ = true := by simp [stepB, k1, k7, hlab]
      refine ⟨?_, hst⟩
      rw [told_step hst]
      show Took l i (j + 1 + 1) _ (ws ++ [sg (kdI sgL w), t2])
      rw [hs]
      simpa using t3

theorem more_sound {l pre : List Str} {i : Nat} : ∀ (k : Nat) (p : List api_Step) (j : Nat) (e : Bool), Took l i j e (pre ++ toldL p) → ∃ q, (moreF l k p j e).1 = p ++ q ∧ stepsB q = true ∧ Took l i (moreF l k p j e).2.1 (moreF l k p j e).2.2 (pre ++ toldL (moreF l k p j e).1)
  | 0, p, j, e, t => ⟨[], by simp [moreF], rfl, t⟩
  | k + 1, p, j, e, t => by
    unfold moreF
    cases hs : stepF l sgL j e with
    | none => exact ⟨[], by simp, rfl, t⟩
    | some q =>
      obtain ⟨s, e'⟩ := q
      obtain ⟨t1, hst⟩ := step_sound t hs
      have t2 : Took l i (j + 2) e' (pre ++ toldL (p ++ [s])) := by
        have : pre ++ toldL (p ++ [s]) = pre ++ toldL p ++ toldS s := by simp [toldL]
        rw [this]; exact t1
      obtain ⟨q2, h1, h2, h3⟩ := more_sound k (p ++ [s]) (j + 2) e' t2
      exact ⟨s :: q2, by simp only [h1]; simp, by rw [stepsB, hst, h2]; rfl, h3⟩

theorem path_sound {l pre : List Str} {i j : Nat} {e : Bool} (t : Took l i j e pre) : Took l i (pathF l j e).2.1 (pathF l j e).2.2 (pre ++ toldL (pathF l j e).1) := by
  unfold pathF
  cases hw : wordF l (fun s => s == bkW) j e with
  | none =>
    obtain ⟨_, _, _, h⟩ := more_sound 9 [] j e (pre := pre) (by simpa [toldL] using t)
    exact h
  | some q =>
    obtain ⟨w, e1⟩ := q
    obtain ⟨t1, hk⟩ := t.word hw
    have hwb : w = bkW := by simpa using hk
    subst hwb
    obtain ⟨_, _, _, h⟩ := more_sound 8 [⟨0, []⟩] (j + 1) e1 (pre := pre) (by
      have : toldL [⟨0, []⟩] = [bkW] := by decide
      rw [this]; exact t1)
    exact h

theorem beside_sound {l pre : List Str} {i j : Nat} {e : Bool} (t : Took l i j e pre) : Took l i (besideF l j e).2.1 (besideF l j e).2.2 (pre ++ toldL (besideF l j e).1) := by
  unfold besideF
  cases hw : wordF l (isK sgL) j e with
  | none => simpa [toldL] using t
  | some q =>
    obtain ⟨w, e1⟩ := q
    obtain ⟨t1, hk⟩ := t.word hw
    obtain ⟨k1, k7, hs⟩ := sg_word hk
    obtain ⟨_, _, _, h⟩ := more_sound 8 [⟨kdI sgL w, []⟩] (j + 1) e1 (pre := pre) (by
      have : toldL [⟨kdI sgL w, []⟩] = [w] := by
        have hb : bookB ⟨kdI sgL w, []⟩ = false := toldS_no (by show kdI sgL w ≠ 0; omega)
        simp [toldL, toldS, hb, hs]
      rw [this]; exact t1)
    exact h

/-- A valid citation that was read has taken just its words. -/
def Sound (l : List Str) (i : Nat) (r : api_Cite × Nat × Bool) : Prop := citeB (placed i r) = true → Took l i r.2.1 r.2.2 (wordsB r.1)

theorem citeB_placed (i : Nat) (r : api_Cite × Nat × Bool) : citeB (placed i r) = citeB r.1 := rfl

theorem wordsB_placed (i : Nat) (r : api_Cite × Nat × Bool) : wordsB (placed i r) = wordsB r.1 := rfl

theorem form1_sound (l : List Str) (i : Nat) : Sound l i (form1 l i false) := fun _ => by
  have h := path_sound (Took.nil l i)
  simpa [form1, wordsB] using h

theorem form4_sound (l : List Str) (i : Nat) : Sound l i (form4 l i false) := fun hv => by
  unfold form4 at hv ⊢
  cases hw : wordF l (fun x => x == oldW) i false with
  | none => rw [hw] at hv; exact absurd hv (by rw [citeB_placed]; exact (by decide : ¬ citeB ⟨4, [], [], 0, 0⟩ = true))
  | some q =>
    obtain ⟨w, e1⟩ := q
    obtain ⟨t1, hk⟩ := (Took.nil l i).word hw
    have hwb : w = oldW := by simpa using hk
    subst hwb
    have h := path_sound t1
    simpa [wordsB] using h

theorem form2_sound (l : List Str) (i : Nat) : Sound l i (form2 l i false) := fun hv => by
  unfold form2 at hv ⊢
  cases hw : wordF l (fun x => x == thisW) i false with
  | none => rw [hw] at hv; exact absurd hv (by rw [citeB_placed]; exact (by decide : ¬ citeB ⟨2, [], [], 0, 0⟩ = true))
  | some q =>
    obtain ⟨w, e1⟩ := q
    obtain ⟨t1, hk⟩ := (Took.nil l i).word hw
    have hwb : w = thisW := by simpa using hk
    subst hwb
    have h := beside_sound t1
    simpa [wordsB] using h

theorem form3_sound (l : List Str) (i : Nat) : Sound l i (form3 l i false) := fun hv => by
  unfold form3 at hv ⊢
  cases hw : wordF l (fun x => x == theW) i false with
  | none => rw [hw] at hv; exact absurd hv (by rw [citeB_placed]; exact (by decide : ¬ citeB ⟨3, [], [], 0, 0⟩ = true))
  | some q =>
    obtain ⟨w, e1⟩ := q
    obtain ⟨t1, hk⟩ := (Took.nil l i).word hw
    have hwb : w = theW := by simpa using hk
    subst hwb
    rw [hw] at hv
    simp only at hv ⊢
    cases hw2 : wordF l (fun x => x == saidW) (i + 1) e1 with
    | none => rw [hw2] at hv; exact absurd hv (by rw [citeB_placed]; exact (by decide : ¬ citeB ⟨3, [], [], 0, 0⟩ = true))
    | some q2 =>
      obtain ⟨w2, e2⟩ := q2
      obtain ⟨t2, hk2⟩ := t1.word hw2
      have hwb2 : w2 = saidW := by simpa using hk2
      subst hwb2
      have h := beside_sound t2
      simpa [wordsB] using h

theorem span_sound (l : List Str) (i : Nat) : Sound l i (spanF l i false) := fun hv => by
  have h1 : ∀ p : List api_Step, ¬ citeB ⟨1, p, [], 0, 0⟩ = true := fun p h => by
    by_cases h9 : 9 < p.length
    · rw [cite9 h9] at h; cases h
    · rw [cite1 h9 rfl, labB_nil] at h; simp at h
  have hp := path_sound (Took.nil l i)
  unfold spanF at hv ⊢
  generalize pathF l i false = r at hp hv ⊢
  obtain ⟨p, j, e1⟩ := r
  simp only at hp hv ⊢
  cases hs : stepF l plL j e1 with
  | none => rw [hs] at hv; exact absurd hv (h1 _)
  | some q =>
    obtain ⟨s, e2⟩ := q
    rw [hs] at hv
    simp only at hv ⊢
    cases hw : wordF l (fun x => x == toW) (j + 2) e2 with
    | none => rw [hw] at hv; exact absurd hv (h1 _)
    | some q2 =>
      obtain ⟨w, e3⟩ := q2
      rw [hw] at hv
      simp only at hv ⊢
      cases hw2 : wordF l labB (j + 3) e3 with
      | none => rw [hw2] at hv; exact absurd hv (h1 _)
      | some q3 =>
        obtain ⟨t, e4⟩ := q3
        simp only
        unfold stepF at hs
        cases ha : wordF l (isK plL) j e1 with
        | none => rw [ha] at hs; cases hs
        | some qa =>
          obtain ⟨a, ea⟩ := qa
          rw [ha] at hs
          simp only at hs
          cases hb : wordF l labB (j + 1) ea with
          | none => rw [hb] at hs; cases hs
          | some qb =>
            obtain ⟨b, eb⟩ := qb
            rw [hb] at hs
            simp only at hs
            cases hs
            obtain ⟨t1, ka⟩ := hp.word ha
            obtain ⟨t2, _⟩ := t1.word hb
            obtain ⟨t3, kw⟩ := t2.word hw
            obtain ⟨t4, _⟩ := t3.word hw2
            obtain ⟨_, _, hpl⟩ := pl_word ka
            have hwt : w = toW := by simpa using kw
            subst hwt
            have : wordsB ⟨1, p ++ [⟨kdI plL a, b⟩], t, 0, 0⟩ = toldL p ++ [a, b, toW, t] := by
              simp [wordsB, tailW, lastKind, lastLab, hpl]
            rw [this]
            simpa using t4

def Told (l : List Str) (i : Nat) (c : api_Cite) : Prop := c = zapi_Cite ∨ ∃ (j : Nat) (e : Bool), citeB c = true ∧ c.From = (i : Int) ∧ c.At = (j : Int) ∧ 0 < j ∧ Took l i j e (wordsB c)

theorem better_told {l : List Str} {i : Nat} {best : api_Cite} {r : api_Cite × Nat × Bool} (h : Told l i best) (hs : Sound l i r) : Told l i (better i best r) := by
  unfold better
  split
  · rename_i hc
    have h0 : 0 ≤ best.At := by
      rcases h with rfl | ⟨j, e, _, _, h2, _⟩
      · exact Int.le_refl _
      · omega
    exact .inr ⟨r.2.1, r.2.2, hc.1, rfl, rfl, by omega, hs hc.1⟩
  · exact h

theorem long_told (l : List Str) (i : Nat) : Told l i (longF l i) :=
  better_told (better_told (better_told (better_told (better_told (.inl rfl) (form1_sound l i)) (span_sound l i)) (form2_sound l i)) (form3_sound l i)) (form4_sound l i)

def ofW : Str := [111, 102]

/-- A word with no sign and no blank in it, which is not empty. -/
def gwB (w : Str) : Bool := !w.isEmpty && w.all (fun b => !signB b && decide (b ≠ 32)) && decide (w ≠ ofW)

def GW (w : Str) : Prop := gwB w = true

theorem gw_ne {w : Str} (h : GW w) : w ≠ [] := by
  rintro rfl
  have h : gwB [] = true := h
  exact absurd h (by decide)

theorem gw_all {w : Str} (h : GW w) : ∀ b ∈ w, signB b = false ∧ b ≠ 32 := by
  unfold GW gwB at h
  simp only [Bool.and_eq_true] at h
  intro b hb
  have := List.all_eq_true.1 h.1.2 b hb
  simpa using this

theorem gw_of {w : Str} (h : GW w) : w ≠ ofW := by
  rintro rfl
  have h : gwB ofW = true := h
  exact absurd h (by decide)

theorem gw_last {w : Str} (h : GW w) (b : UInt8) (hb : w.getLast? = some b) : signB b = false := (gw_all h b (List.mem_of_getLast? hb)).1

theorem sg_good {k : Int} (h1 : 1 ≤ k) (h7 : k ≤ 7) : GW (sg k) := by
  rcases seven h1 h7 with rfl | rfl | rfl | rfl | rfl | rfl | rfl <;> (unfold GW; decide)

theorem pl_good {k : Int} (h1 : 1 ≤ k) (h7 : k ≤ 7) (h6 : k ≠ 6) : GW (pl k) := by
  rcases seven h1 h7 with rfl | rfl | rfl | rfl | rfl | rfl | rfl
  · unfold GW; decide
  · unfold GW; decide
  · unfold GW; decide
  · unfold GW; decide
  · unfold GW; decide
  · exact absurd rfl h6
  · unfold GW; decide

theorem dc_good {b : UInt8} (h : isDig b = true ∨ isCap b = true) : signB b = false ∧ b ≠ 32 ∧ b ≠ 111 := by
  have hb : (48 ≤ b.toNat ∧ b.toNat ≤ 57) ∨ (65 ≤ b.toNat ∧ b.toNat ≤ 90) := by
    rcases h with h | h
    · unfold isDig at h; simp only [Bool.and_eq_true, decide_eq_true_eq] at h; exact .inl h
    · unfold isCap at h; simp only [Bool.and_eq_true, decide_eq_true_eq] at h; exact .inr h
  have ne : ∀ c : UInt8, (c.toNat < 48 ∨ (57 < c.toNat ∧ c.toNat < 65) ∨ 90 < c.toNat) → b ≠ c := fun c hc e => by subst e; omega
  refine ⟨?_, ne 32 (by decide), ne 111 (by decide)⟩
  unfold signB
  simp [ne 44 (by decide), ne 59 (by decide), ne 46 (by decide), ne 58 (by decide), ne 41 (by decide)]

theorem lab_bytes {s : Str} (h : labB s = true) : ∀ b ∈ s, isDig b = true ∨ isCap b = true := by
  unfold labB at h
  simp only [Bool.and_eq_true] at h
  have hall := List.all_eq_true.1 h.2
  intro b hb
  have : s = s.take (s.takeWhile isDig).length ++ s.drop (s.takeWhile isDig).length := (List.take_append_drop _ _).symm
  rw [this] at hb
  rcases List.mem_append.1 hb with hb | hb
  · left
    have ht : s.take (s.takeWhile isDig).length = s.takeWhile isDig := by
      have hp : s.takeWhile isDig <+: s := List.takeWhile_prefix _
      exact (List.prefix_iff_eq_take.1 hp).symm
    rw [ht] at hb
    exact List.all_eq_true.1 List.all_takeWhile _ hb
  · exact .inr (hall b hb)

theorem lab_good {s : Str} (h : labB s = true) : GW s := by
  have hb := lab_bytes h
  have hne := lab_ne h
  unfold GW gwB
  simp only [Bool.and_eq_true, decide_eq_true_eq]
  refine ⟨⟨by simpa using hne, List.all_eq_true.2 fun b hm => ?_⟩, ?_⟩
  · obtain ⟨h1, h2, _⟩ := dc_good (hb b hm)
    simp [h1, h2]
  · rintro rfl
    exact (dc_good (hb 111 (by decide))).2.2 rfl

theorem bk_good : GW bkW := by unfold GW; decide

theorem this_good : GW thisW := by unfold GW; decide

theorem the_good : GW theW := by unfold GW; decide

theorem said_good : GW saidW := by unfold GW; decide

theorem old_good : GW oldW := by unfold GW; decide

theorem to_good : GW toW := by unfold GW; decide

def Nice (is : Str → Bool) : Prop := ∀ (s : Str) (b : UInt8), signB b = true → is (s ++ [b]) = false

theorem nice_just {w : Str} (h : GW w) : Nice (fun s => s == w) := fun s b hb => by
  by_cases e : s ++ [b] = w
  · have := gw_last h b (by rw [← e]; simp)
    rw [this] at hb; cases hb
  · simpa using e

theorem nice_lab : Nice labB := fun s b hb => by
  by_cases e : labB (s ++ [b]) = true
  · have := gw_last (lab_good e) b (by simp)
    rw [this] at hb; cases hb
  · simpa using e

theorem nice_kind {L : List Str} (h : ∀ w ∈ L, w = [] ∨ GW w) : Nice (isK L) := fun s b hb => by
  by_cases e : isK L (s ++ [b]) = true
  · obtain ⟨m, _, h2, _⟩ := kd_word e
    rcases h _ (List.mem_of_getElem? h2) with h3 | h3
    · simp at h3
    · have := gw_last h3 b (by simp)
      rw [this] at hb; cases hb
  · simpa using e

theorem sgL_good : ∀ w ∈ sgL, w = [] ∨ GW w := by
  have : sgL.all (fun w => w.isEmpty || gwB w) = true := by decide
  intro w hw
  have := List.all_eq_true.1 this w hw
  simpa [GW] using this

theorem plL_good : ∀ w ∈ plL, w = [] ∨ GW w := by
  have : plL.all (fun w => w.isEmpty || gwB w) = true := by decide
  intro w hw
  have := List.all_eq_true.1 this w hw
  simpa [GW] using this

theorem nice_sg : Nice (isK sgL) := nice_kind sgL_good

theorem nice_pl : Nice (isK plL) := nice_kind plL_good

theorem kd_sg {k : Int} (h1 : 1 ≤ k) (h7 : k ≤ 7) : kdI sgL (sg k) = k := by
  rcases seven h1 h7 with rfl | rfl | rfl | rfl | rfl | rfl | rfl <;> decide

theorem kd_pl {k : Int} (h1 : 1 ≤ k) (h7 : k ≤ 7) (h6 : k ≠ 6) : kdI plL (pl k) = k := by
  rcases seven h1 h7 with rfl | rfl | rfl | rfl | rfl | rfl | rfl
  · decide
  · decide
  · decide
  · decide
  · decide
  · exact absurd rfl h6
  · decide

theorem isK_sg {k : Int} (h1 : 1 ≤ k) (h7 : k ≤ 7) : isK sgL (sg k) = true := by
  unfold isK; rw [kd_sg h1 h7]; exact decide_eq_true (by omega)

theorem isK_pl {k : Int} (h1 : 1 ≤ k) (h7 : k ≤ 7) (h6 : k ≠ 6) : isK plL (pl k) = true := by
  unfold isK; rw [kd_pl h1 h7 h6]; exact decide_eq_true (by omega)

theorem pl_no {k : Int} (h1 : 1 ≤ k) (h7 : k ≤ 7) : isK sgL (pl k) = false ∧ pl k ≠ bkW ∧ pl k ≠ thisW ∧ pl k ≠ theW ∧ pl k ≠ oldW := by
  rcases seven h1 h7 with rfl | rfl | rfl | rfl | rfl | rfl | rfl <;> decide

theorem sg_no {k : Int} (h1 : 1 ≤ k) (h7 : k ≤ 7) : sg k ≠ bkW ∧ sg k ≠ thisW ∧ sg k ≠ theW ∧ sg k ≠ oldW := by
  rcases seven h1 h7 with rfl | rfl | rfl | rfl | rfl | rfl | rfl <;> decide

/-- The words stand from place i on, the last one with a sign behind it if e. -/
def Has (l : List Str) (e : Bool) : Nat → List Str → Prop
  | _, [] => True
  | i, [w] => (e = false ∧ l[i]? = some w) ∨ (e = true ∧ ∃ b, l[i]? = some (w ++ [b]) ∧ signB b = true)
  | i, w :: w2 :: ws => l[i]? = some w ∧ Has l e (i + 1) (w2 :: ws)

theorem Has.tail {l : List Str} {e : Bool} {i : Nat} {w : Str} {ws : List Str} (h : Has l e i (w :: ws)) : Has l e (i + 1) ws := by
  cases ws with
  | nil => trivial
  | cons w2 ws => exact h.2

theorem Has.fst {l : List Str} {e : Bool} {i : Nat} {w w2 : Str} {ws : List Str} (h : Has l e i (w :: w2 :: ws)) : l[i]? = some w := h.1

theorem has_false {l : List Str} : ∀ (ws : List Str) (i : Nat), (∀ (k : Nat) (v : Str), ws[k]? = some v → l[i + k]? = some v) → Has l false i ws
  | [], i, _ => trivial
  | [w], i, h => .inl ⟨rfl, h 0 w rfl⟩
  | w :: w2 :: ws, i, h => ⟨h 0 w rfl, has_false (w2 :: ws) (i + 1) fun k v hv => by
      rw [show i + 1 + k = i + (k + 1) by omega]; exact h (k + 1) v hv⟩

theorem has_true {l : List Str} {s : Str} {b : UInt8} (hb : signB b = true) : ∀ (ini : List Str) (i : Nat), (∀ (k : Nat) (v : Str), (ini ++ [s ++ [b]])[k]? = some v → l[i + k]? = some v) → Has l true i (ini ++ [s])
  | [], i, h => .inr ⟨rfl, b, h 0 _ rfl, hb⟩
  | [w], i, h => ⟨h 0 w rfl, .inr ⟨rfl, b, h 1 _ rfl, hb⟩⟩
  | w :: w2 :: ws, i, h => ⟨h 0 w rfl, has_true hb (w2 :: ws) (i + 1) fun k v hv => by
      rw [show i + 1 + k = i + (k + 1) by omega]; exact h (k + 1) v hv⟩

theorem Took.has {l ws : List Str} {i j : Nat} {e : Bool} (t : Took l i j e ws) : Has l e i ws := by
  obtain ⟨_, vs, _, hat, hc⟩ := t
  rcases hc with ⟨rfl, rfl⟩ | ⟨rfl, ini, s, b, rfl, rfl, hb⟩
  · exact has_false _ _ hat
  · exact has_true hb _ _ hat

theorem Has.lt {l : List Str} {e : Bool} : ∀ {ws : List Str} {i : Nat}, Has l e i ws → ws ≠ [] → i + ws.length ≤ l.length
  | [], i, _, h => absurd rfl h
  | [w], i, h, _ => by
    have : ∃ v, l[i]? = some v := by
      rcases h with ⟨_, h⟩ | ⟨_, b, h, _⟩
      · exact ⟨_, h⟩
      · exact ⟨_, h⟩
    obtain ⟨v, hv⟩ := this
    have := (List.getElem?_eq_some_iff.1 hv).1
    simp; omega
  | w :: w2 :: ws, i, h, _ => by
    have := Has.lt h.2 (by simp)
    simp at this ⊢; omega

/-- What stands at a place is a word of the list, or one with a sign. -/
theorem Has.at {l : List Str} {e : Bool} : ∀ {ws : List Str} {i : Nat}, Has l e i ws → ∀ (k : Nat), k < ws.length → ∃ w ∈ ws, l[i + k]? = some w ∨ ∃ b, l[i + k]? = some (w ++ [b]) ∧ signB b = true
  | [], i, _, k, hk => by simp at hk
  | [w], i, h, k, hk => by
    have : k = 0 := by simp at hk; omega
    subst this
    refine ⟨w, List.mem_cons_self, ?_⟩
    rcases h with ⟨_, h⟩ | ⟨_, b, h, hb⟩
    · exact .inl h
    · exact .inr ⟨b, h, hb⟩
  | w :: w2 :: ws, i, h, k, hk => by
    cases k with
    | zero => exact ⟨w, List.mem_cons_self, .inl h.1⟩
    | succ k =>
      obtain ⟨x, hx, hr⟩ := Has.at h.2 k (by simp at hk ⊢; omega)
      rw [show i + 1 + k = i + (k + 1) by omega] at hr
      exact ⟨x, List.mem_cons_of_mem _ hx, hr⟩

theorem has_det {l : List Str} {e e' : Bool} : ∀ {ws ws' : List Str} {i : Nat}, Has l e i ws → Has l e' i ws' → ws.length = ws'.length → (∀ w ∈ ws, GW w) → (∀ w ∈ ws', GW w) → ws = ws'
  | [], [], _, _, _, _, _, _ => rfl
  | [], _ :: _, _, _, _, hl, _, _ => by simp at hl
  | _ :: _, [], _, _, _, hl, _, _ => by simp at hl
  | [w], [w'], i, h, h', _, g, g' => by
    have g := g w List.mem_cons_self
    have g' := g' w' List.mem_cons_self
    have nt : ∀ (x y : Str) (b : UInt8), GW x → x = y ++ [b] → signB b = true → False := fun x y b gx e hb => by
      have := gw_last gx b (by rw [e]; simp)
      rw [this] at hb; cases hb
    rcases h with ⟨_, h⟩ | ⟨_, b, h, hb⟩ <;> rcases h' with ⟨_, h'⟩ | ⟨_, b', h', hb'⟩ <;> rw [h] at h'
    · cases h'; rfl
    · exact (nt w w' b' g (Option.some.inj h') hb').elim
    · exact (nt w' w b g' (Option.some.inj h').symm hb).elim
    · have := Option.some.inj h'
      have := (List.append_inj' this rfl).1
      rw [this]
  | [_], _ :: _ :: _, _, _, _, hl, _, _ => by simp at hl
  | _ :: _ :: _, [_], _, _, _, hl, _, _ => by simp at hl
  | w :: w2 :: ws, w' :: w2' :: ws', i, h, h', hl, g, g' => by
    have e1 : w = w' := Option.some.inj (h.1.symm.trans h'.1)
    have e2 := has_det h.2 h'.2 (by simpa using hl) (fun x hx => g x (List.mem_cons_of_mem _ hx)) (fun x hx => g' x (List.mem_cons_of_mem _ hx))
    rw [e1, e2]

theorem wordF_hit {l : List Str} {is : Str → Bool} (hn : Nice is) {e : Bool} {i : Nat} {w : Str} {ws : List Str} (h : Has l e i (w :: ws)) (hw : is w = true) : wordF l is i false = some (w, ws.isEmpty && e) := by
  unfold wordF
  rw [if_neg (by simp)]
  cases ws with
  | nil =>
    rcases h with ⟨rfl, h⟩ | ⟨rfl, b, h, hb⟩
    · rw [h]; simp only; rw [if_pos hw]; rfl
    · rw [h]; simp only
      rw [if_neg (by rw [hn _ _ hb]; simp), List.getLast?_concat]
      simp only
      rw [List.dropLast_concat, if_pos ⟨hb, hw⟩]; rfl
  | cons w2 ws => rw [h.1]; simp only; rw [if_pos hw]; rfl

theorem wordF_miss {l : List Str} {is : Str → Bool} {i : Nat} {w : Str} (h : l[i]? = some w) (hg : GW w) (hw : is w = false) : wordF l is i false = none := by
  unfold wordF
  rw [if_neg (by simp), h]
  simp only
  rw [if_neg (by rw [hw]; simp)]
  cases hb : w.getLast? with
  | none => rfl
  | some b =>
    simp only
    rw [if_neg (by rw [gw_last hg b hb]; simp)]

theorem and_e (ws : List Str) (e : Bool) (h : ws ≠ []) : (ws.isEmpty && e) = false := by
  cases ws with
  | nil => exact absurd rfl h
  | cons => rfl

theorem stepF_hit {l : List Str} {e : Bool} {i : Nat} {s : api_Step} {ws : List Str} (hs : stepB s = true) (h : Has l e i (toldS s ++ ws)) : stepF l sgL i false = some (s, ws.isEmpty && e) ∧ Has l e (i + 2) ws := by
  rw [told_step hs] at h
  have h : Has l e i (sg s.Kind :: s.Label :: ws) := h
  have hh := hs
  unfold stepB at hh
  simp only [Bool.and_eq_true, decide_eq_true_eq] at hh
  refine ⟨?_, h.tail.tail⟩
  unfold stepF
  rw [wordF_hit nice_sg h (isK_sg hh.1.1 hh.1.2)]
  simp only
  rw [and_e _ _ (by simp), wordF_hit nice_lab h.tail hh.2]
  simp only
  rw [kd_sg hh.1.1 hh.1.2]

theorem stepF_miss {l L : List Str} {i : Nat} {w : Str} (h : l[i]? = some w) (hg : GW w) (hw : isK L w = false) : stepF l L i false = none := by
  unfold stepF
  rw [wordF_miss h hg hw]

theorem stepF_ok {l : List Str} {i : Nat} {e e' : Bool} {s : api_Step} (h : stepF l sgL i e = some (s, e')) : stepB s = true := by
  unfold stepF at h
  cases hw : wordF l (isK sgL) i e with
  | none => rw [hw] at h; cases h
  | some q =>
    rw [hw] at h
    simp only at h
    cases hw2 : wordF l labB (i + 1) q.2 with
    | none => rw [hw2] at h; cases h
    | some q2 =>
      rw [hw2] at h
      simp only at h
      obtain ⟨k1, k7, _⟩ := sg_word (wordF_some hw).2.1
      have hl := (wordF_some hw2).2.1
      cases h
      simp [stepB, k1, k7, hl]

theorem more_steps {l : List Str} : ∀ (k : Nat) (p : List api_Step) (i : Nat) (e : Bool), ∃ q, (moreF l k p i e).1 = p ++ q ∧ stepsB q = true
  | 0, p, i, e => ⟨[], by simp [moreF], rfl⟩
  | k + 1, p, i, e => by
    unfold moreF
    cases hs : stepF l sgL i e with
    | none => exact ⟨[], by simp, rfl⟩
    | some r =>
      obtain ⟨s, e'⟩ := r
      obtain ⟨q, h1, h2⟩ := more_steps k (p ++ [s]) (i + 2) e'
      exact ⟨s :: q, by show (moreF l k (p ++ [s]) (i + 2) e').1 = _; rw [h1]; simp, by rw [stepsB, stepF_ok hs, h2]; rfl⟩

theorem toldL_cons (s : api_Step) (q : List api_Step) : toldL (s :: q) = toldS s ++ toldL q := by simp [toldL]

theorem toldL_append (p q : List api_Step) : toldL (p ++ q) = toldL p ++ toldL q := by simp [toldL]

theorem toldS_ne (s : api_Step) : toldS s ≠ [] := by
  unfold toldS
  split
  · simp
  · split <;> simp

theorem toldL_ne {p : List api_Step} (h : p ≠ []) : toldL p ≠ [] := by
  cases p with
  | nil => exact absurd rfl h
  | cons s p => rw [toldL_cons]; simp [toldS_ne]

theorem steps_two : ∀ {q : List api_Step}, stepsB q = true → (toldL q).length = 2 * q.length
  | [], _ => rfl
  | s :: q, h => by
    unfold stepsB at h
    rw [Bool.and_eq_true] at h
    rw [toldL_cons, List.length_append, told_step h.1, steps_two h.2]
    simp; omega

theorem more_far {l : List Str} {e : Bool} : ∀ (q : List api_Step) (rest : List Str) (k : Nat) (p : List api_Step) (i : Nat), stepsB q = true → toldL q ++ rest ≠ [] → q.length ≤ k → Has l e i (toldL q ++ rest) →
    moreF l k p i false = moreF l (k - q.length) (p ++ q) (i + 2 * q.length) (rest.isEmpty && e) ∧ Has l e (i + 2 * q.length) rest
  | [], rest, k, p, i, _, hne, _, h => by
    have hr : rest ≠ [] := by simpa [toldL] using hne
    rw [and_e _ _ hr]
    exact ⟨by simp, by simpa [toldL] using h⟩
  | s :: q, rest, 0, p, i, _, _, hk, _ => by simp at hk
  | s :: q, rest, k + 1, p, i, hs, _, hk, h => by
    unfold stepsB at hs
    rw [Bool.and_eq_true] at hs
    rw [toldL_cons, List.append_assoc] at h
    obtain ⟨h1, h2⟩ := stepF_hit hs.1 h
    rw [moreF, h1]
    simp only
    by_cases hn : toldL q ++ rest = []
    · have hq : q = [] := by
        cases q with
        | nil => rfl
        | cons t q => rw [toldL_cons] at hn; simp [toldS_ne] at hn
      subst hq
      have hr : rest = [] := by simpa [toldL] using hn
      subst hr
      exact ⟨by simp [toldL], trivial⟩
    · rw [and_e _ _ hn]
      obtain ⟨h3, h4⟩ := more_far q rest k (p ++ [s]) (i + 2) hs.2 hn (by simp at hk; omega) h2
      rw [h3]
      refine ⟨by simp; congr 1; omega, ?_⟩
      rw [show i + 2 * (s :: q).length = i + 2 + 2 * q.length by simp; omega]
      exact h4

/-- The shape of a plain path. -/
theorem plain_shape {p : List api_Step} (h : plainB p = true) : ∃ q, stepsB q = true ∧ q ≠ [] ∧ (p = q ∨ p = ⟨0, []⟩ :: q) := by
  unfold plainB at h
  rw [Bool.and_eq_true] at h
  have hb : 0 < (bare p).length := of_decide_eq_true h.1
  refine ⟨bare p, h.2, List.length_pos_iff.1 hb, ?_⟩
  cases p with
  | nil => simp [bare] at hb
  | cons s q =>
    rw [bare.eq_2] at hb ⊢
    by_cases hk : bookB s = true
    · rw [if_pos hk, book_is hk]; exact .inr rfl
    · rw [if_neg hk]; exact .inl rfl

theorem steps_append : ∀ (a b : List api_Step), stepsB (a ++ b) = (stepsB a && stepsB b)
  | [], b => by simp [stepsB]
  | s :: a, b => by simp [stepsB, steps_append a b, Bool.and_assoc]

theorem bare_append {p : List api_Step} (h : p ≠ []) (q : List api_Step) : bare (p ++ q) = bare p ++ q := by
  cases p with
  | nil => exact absurd rfl h
  | cons s p =>
    rw [List.cons_append, bare.eq_2, bare.eq_2]
    split <;> rfl

theorem plain_append {p q : List api_Step} (h : plainB p = true) (hq : stepsB q = true) : plainB (p ++ q) = true := by
  have hne : p ≠ [] := by rintro rfl; exact absurd h (by decide)
  unfold plainB at h ⊢
  rw [Bool.and_eq_true] at h ⊢
  have h1 : 0 < (bare p).length := of_decide_eq_true h.1
  rw [bare_append hne, steps_append, h.2, hq]
  exact ⟨decide_eq_true (by rw [List.length_append]; omega), rfl⟩

theorem book_told : toldL [⟨0, []⟩] = [bkW] := by decide

/-- A path is read, as far as it stands there. -/
theorem path_read {l : List Str} {e : Bool} {p q : List api_Step} (rest : List Str) (i : Nat) (hq : stepsB q = true) (hp : p = q ∨ p = ⟨0, []⟩ :: q) (h9 : p.length ≤ 9) (hne : toldL q ++ rest ≠ [])
    (hrest : q = [] → ∀ w ws, rest = w :: ws → ws ≠ [] ∧ GW w ∧ w ≠ bkW) (h : Has l e i (toldL p ++ rest)) :
    pathF l i false = moreF l (9 - p.length) p (i + (toldL p).length) (rest.isEmpty && e) ∧ Has l e (i + (toldL p).length) rest := by
  unfold pathF
  rcases hp with rfl | rfl
  · have hm : wordF l (fun s => s == bkW) i false = none := by
      cases p with
      | nil =>
        cases rest with
        | nil => exact absurd rfl hne
        | cons w ws =>
          obtain ⟨h1, h2, h3⟩ := hrest rfl w ws rfl
          cases ws with
          | nil => exact absurd rfl h1
          | cons w2 ws => exact wordF_miss (w := w) h.1 h2 (by simpa using h3)
      | cons s q =>
        have hs := hq
        unfold stepsB at hs
        rw [Bool.and_eq_true] at hs
        rw [toldL_cons, told_step hs.1] at h
        have h : Has l e i (sg s.Kind :: s.Label :: (toldL q ++ rest)) := by simpa using h
        have hk := (step_ok hs.1)
        have h0 := (sg_no hk.2 hk.1.2.1).1
        exact wordF_miss h.fst (sg_good hk.2 hk.1.2.1) (by simpa using h0)
    rw [hm]
    have := more_far p rest 9 [] i hq hne h9 h
    rw [steps_two hq]
    simpa using this
  · rw [show (⟨0, []⟩ :: q : List api_Step) = [⟨0, []⟩] ++ q from rfl, toldL_append, book_told] at h
    have h : Has l e i (bkW :: (toldL q ++ rest)) := by simpa using h
    rw [wordF_hit (nice_just bk_good) h (by simp)]
    simp only
    rw [and_e _ _ hne]
    have := more_far q rest 8 [⟨0, []⟩] (i + 1) hq hne (by simp at h9; omega) h.tail
    have hl : (toldL (⟨0, []⟩ :: q)).length = 1 + 2 * q.length := by
      rw [show (⟨0, []⟩ :: q : List api_Step) = [⟨0, []⟩] ++ q from rfl, toldL_append, book_told, List.length_append, steps_two hq]; rfl
    rw [hl, show i + (1 + 2 * q.length) = i + 1 + 2 * q.length by omega]
    refine ⟨?_, this.2⟩
    rw [this.1]
    simp

def Far (i j : Nat) (r : api_Cite × Nat × Bool) : Prop := citeB r.1 = true ∧ j ≤ r.2.1

theorem plain_far {l : List Str} {e : Bool} {p : List api_Step} (i : Nat) (h9 : p.length ≤ 9) (hp : plainB p = true) (h : Has l e i (toldL p)) :
    (pathF l i false).1.length ≤ 9 ∧ plainB (pathF l i false).1 = true ∧ i + (toldL p).length ≤ (pathF l i false).2.1 := by
  obtain ⟨q, hq, hn, hs⟩ := plain_shape hp
  have hr := path_read (l := l) (e := e) [] i hq hs h9 (by rw [List.append_nil]; exact toldL_ne hn) (fun e => absurd e hn) (by rw [List.append_nil]; exact h)
  refine ⟨(pathF_len l i false).2, ?_⟩
  rw [hr.1]
  obtain ⟨q2, h1, h2⟩ := more_steps (l := l) (9 - p.length) p (i + (toldL p).length) (([] : List Str).isEmpty && e)
  have h3 := more_len l (9 - p.length) p (i + (toldL p).length) (([] : List Str).isEmpty && e)
  rw [h1]
  exact ⟨plain_append hp h2, h3.2.2⟩

theorem form1_far {l : List Str} {e : Bool} {c : api_Cite} (i : Nat) (hk : c.Kind = 0) (hc : citeB c = true) (h : Has l e i (wordsB c)) : Far i (i + (wordsB c).length) (form1 l i false) := by
  have h9 := (cite_small hc).1
  rw [cite04 (by omega) (.inl hk), Bool.and_eq_true] at hc
  have hw : wordsB c = toldL c.Path := by simp [wordsB, hk]
  rw [hw] at h ⊢
  obtain ⟨h1, h2, h3⟩ := plain_far i h9 hc.2 h
  unfold form1 Far
  refine ⟨?_, h3⟩
  rw [cite04 (c := ⟨0, (pathF l i false).1, [], 0, 0⟩) (by show ¬ 9 < (pathF l i false).1.length; omega) (.inl rfl), Bool.and_eq_true]
  exact ⟨rfl, h2⟩

theorem form4_far {l : List Str} {e : Bool} {c : api_Cite} (i : Nat) (hk : c.Kind = 4) (hc : citeB c = true) (h : Has l e i (wordsB c)) : Far i (i + (wordsB c).length) (form4 l i false) := by
  have h9 := (cite_small hc).1
  rw [cite04 (by omega) (.inr hk), Bool.and_eq_true] at hc
  have hw : wordsB c = oldW :: toldL c.Path := by simp [wordsB, hk]
  rw [hw] at h ⊢
  have hne : toldL c.Path ≠ [] := toldL_ne (by
    rintro e; rw [e] at hc; exact absurd hc.2 (by decide))
  obtain ⟨h1, h2, h3⟩ := plain_far (i + 1) h9 hc.2 h.tail
  unfold form4 Far
  rw [wordF_hit (nice_just old_good) h (by simp), and_e _ _ hne]
  simp only
  refine ⟨?_, by simp; omega⟩
  rw [cite04 (c := ⟨4, (pathF l (i + 1) false).1, [], 0, 0⟩) (by show ¬ 9 < (pathF l (i + 1) false).1.length; omega) (.inr rfl), Bool.and_eq_true]
  exact ⟨rfl, h2⟩

theorem near_shape {p : List api_Step} (h : nearB p = true) : ∃ k q, p = ⟨k, []⟩ :: q ∧ 1 ≤ k ∧ k ≤ 7 ∧ stepsB q = true := by
  cases p with
  | nil => cases h
  | cons s q =>
    unfold nearB at h
    simp only [Bool.and_eq_true, decide_eq_true_eq] at h
    obtain ⟨k, lb⟩ := s
    have : lb = [] := by simpa using h.1.1.1
    subst this
    exact ⟨k, q, rfl, h.1.1.2, h.1.2, h.2⟩

theorem near_told {k : Int} (h1 : 1 ≤ k) (q : List api_Step) : toldL (⟨k, []⟩ :: q) = sg k :: toldL q := by
  have hb : bookB ⟨k, []⟩ = false := toldS_no (by show k ≠ 0; omega)
  rw [toldL_cons]
  simp [toldS, hb]

theorem beside_far {l : List Str} {e : Bool} {p : List api_Step} (i : Nat) (h9 : p.length ≤ 9) (hp : nearB p = true) (h : Has l e i (toldL p)) :
    (besideF l i false).1.length ≤ 9 ∧ nearB (besideF l i false).1 = true ∧ i + (toldL p).length ≤ (besideF l i false).2.1 := by
  obtain ⟨k, q, rfl, k1, k7, hq⟩ := near_shape hp
  rw [near_told k1] at h ⊢
  have hh : wordF l (isK sgL) i false = some (sg k, (toldL q).isEmpty && e) := wordF_hit nice_sg h (isK_sg k1 k7)
  have near : ∀ q2 : List api_Step, stepsB q2 = true → nearB (⟨k, []⟩ :: q2) = true := fun q2 h2 => by
    simp [nearB, k1, k7, h2]
  unfold besideF
  rw [hh]
  simp only
  rw [kd_sg k1 k7]
  have hlen := more_len l 8 [⟨k, []⟩] (i + 1) ((toldL q).isEmpty && e)
  refine ⟨by simp at hlen ⊢; omega, ?_, ?_⟩
  · obtain ⟨q2, h1, h2⟩ := more_steps (l := l) 8 [⟨k, []⟩] (i + 1) ((toldL q).isEmpty && e)
    rw [h1]
    exact near q2 h2
  · by_cases hqn : q = []
    · subst hqn
      have : (toldL []).length = 0 := rfl
      simp at hlen ⊢
      simp [this]
      exact hlen.2.2
    · have hne := toldL_ne hqn
      rw [and_e _ _ hne]
      have hm := more_far q [] 8 [⟨k, []⟩] (i + 1) hq (by rw [List.append_nil]; exact hne) (by simp at h9; omega) (by rw [List.append_nil]; exact h.tail)
      rw [hm.1]
      have := (more_len l (8 - q.length) ([⟨k, []⟩] ++ q) (i + 1 + 2 * q.length) (([] : List Str).isEmpty && e)).2.2
      rw [List.length_cons, steps_two hq]
      omega

theorem near_ne {p : List api_Step} (h : nearB p = true) : p ≠ [] := by rintro rfl; cases h

theorem form2_far {l : List Str} {e : Bool} {c : api_Cite} (i : Nat) (hk : c.Kind = 2) (hc : citeB c = true) (h : Has l e i (wordsB c)) : Far i (i + (wordsB c).length) (form2 l i false) := by
  have h9 := (cite_small hc).1
  rw [cite23 (by omega) (.inl hk), Bool.and_eq_true] at hc
  have hw : wordsB c = thisW :: toldL c.Path := by simp [wordsB, hk]
  rw [hw] at h ⊢
  have hne : toldL c.Path ≠ [] := toldL_ne (near_ne hc.2)
  obtain ⟨h1, h2, h3⟩ := beside_far (i + 1) h9 hc.2 h.tail
  unfold form2 Far
  rw [wordF_hit (nice_just this_good) h (by simp), and_e _ _ hne]
  simp only
  refine ⟨?_, by simp; omega⟩
  rw [cite23 (c := ⟨2, (besideF l (i + 1) false).1, [], 0, 0⟩) (by show ¬ 9 < (besideF l (i + 1) false).1.length; omega) (.inl rfl), Bool.and_eq_true]
  exact ⟨rfl, h2⟩

theorem form3_far {l : List Str} {e : Bool} {c : api_Cite} (i : Nat) (hk : c.Kind = 3) (hc : citeB c = true) (h : Has l e i (wordsB c)) : Far i (i + (wordsB c).length) (form3 l i false) := by
  have h9 := (cite_small hc).1
  rw [cite23 (by omega) (.inr hk), Bool.and_eq_true] at hc
  have hw : wordsB c = theW :: saidW :: toldL c.Path := by simp [wordsB, hk]
  rw [hw] at h ⊢
  have hne : toldL c.Path ≠ [] := toldL_ne (near_ne hc.2)
  obtain ⟨h1, h2, h3⟩ := beside_far (l := l) (e := e) (i + 2) h9 hc.2 h.tail.tail
  unfold form3 Far
  rw [wordF_hit (nice_just the_good) h (by simp), and_e _ _ (by simp)]
  simp only
  rw [wordF_hit (nice_just said_good) h.tail (by simp), and_e _ _ hne]
  simp only
  refine ⟨?_, by simp at h3 ⊢; omega⟩
  rw [cite23 (c := ⟨3, (besideF l (i + 2) false).1, [], 0, 0⟩) (by show ¬ 9 < (besideF l (i + 2) false).1.length; omega) (.inr rfl), Bool.and_eq_true]
  exact ⟨rfl, h2⟩

/-- The shape of a path and its last step. -/
theorem last_shape {p : List api_Step} (h : plainB p = true) : ∃ q0 s, stepsB q0 = true ∧ stepB s = true ∧ p = p.dropLast ++ [s] ∧ p.getLast? = some s ∧ (p.dropLast = q0 ∨ p.dropLast = ⟨0, []⟩ :: q0) := by
  obtain ⟨q, hq, hn, hs⟩ := plain_shape h
  have hl : q = q.dropLast ++ [q.getLast hn] := (List.dropLast_concat_getLast hn).symm
  have hq2 := hq
  rw [hl, steps_append, Bool.and_eq_true] at hq2
  refine ⟨q.dropLast, q.getLast hn, hq2.1, by have := hq2.2; simpa [stepsB] using this, ?_⟩
  rcases hs with rfl | rfl
  · exact ⟨hl, List.getLast?_eq_some_getLast hn, .inl rfl⟩
  · have hd : (⟨0, []⟩ :: q : List api_Step).dropLast = ⟨0, []⟩ :: q.dropLast := by
      cases q with
      | nil => exact absurd rfl hn
      | cons => rfl
    refine ⟨?_, ?_, .inr hd⟩
    · rw [hd, List.cons_append, ← hl]
    · cases q with
      | nil => exact absurd rfl hn
      | cons a q => rw [List.getLast?_cons_cons]; exact List.getLast?_eq_some_getLast hn

theorem span_far {l : List Str} {e : Bool} {c : api_Cite} (i : Nat) (hk : c.Kind = 1) (hc : citeB c = true) (h : Has l e i (wordsB c)) : Far i (i + (wordsB c).length) (spanF l i false) := by
  have h9 := (cite_small hc).1
  have hc2 := hc
  rw [cite1 (by omega) hk, Bool.and_eq_true, Bool.and_eq_true] at hc2
  obtain ⟨⟨hp, ht⟩, h6⟩ := hc2
  obtain ⟨q0, s, hq0, hs, hps, hlast, hsh⟩ := last_shape hp
  have hlk : lastKind c.Path = s.Kind := by unfold lastKind; rw [hlast]
  have hll : lastLab c.Path = s.Label := by unfold lastLab; rw [hlast]
  have h6 : s.Kind ≠ 6 := by rw [← hlk]; simpa using h6
  obtain ⟨⟨_, k7, _⟩, k1⟩ := step_ok hs
  have hlab : labB s.Label = true := by unfold stepB at hs; simp only [Bool.and_eq_true] at hs; exact hs.2
  have hw : wordsB c = toldL c.Path.dropLast ++ [pl s.Kind, s.Label, toW, c.To] := by simp [wordsB, hk, tailW, hlk, hll]
  rw [hw] at h ⊢
  have hno := pl_no k1 k7
  obtain ⟨hr, h4⟩ := path_read [pl s.Kind, s.Label, toW, c.To] i hq0 hsh (by rw [List.length_dropLast]; omega) (by simp)
    (fun _ w ws e => by cases e; exact ⟨by simp, pl_good k1 k7 h6, hno.2.1⟩) h
  rw [and_e _ _ (by simp)] at hr
  generalize hj : i + (toldL c.Path.dropLast).length = j at hr h4
  have hstop : ∀ k : Nat, moreF l k c.Path.dropLast j false = (c.Path.dropLast, j, false) := fun k => by
    cases k with
    | zero => rfl
    | succ k =>
      unfold moreF
      rw [stepF_miss h4.1 (pl_good k1 k7 h6) hno.1]
  rw [hstop] at hr
  have hst : stepF l plL j false = some (s, false) := by
    unfold stepF
    rw [wordF_hit nice_pl h4 (isK_pl k1 k7 h6), and_e _ _ (by simp)]
    simp only
    rw [wordF_hit nice_lab h4.tail hlab, and_e _ _ (by simp), kd_pl k1 k7 h6]
  have hto : wordF l (fun x => x == toW) (j + 2) false = some (toW, false) := wordF_hit (nice_just to_good) h4.tail.tail (by simp)
  have hla : wordF l labB (j + 3) false = some (c.To, ([] : List Str).isEmpty && e) := wordF_hit nice_lab h4.tail.tail.tail ht
  unfold spanF Far
  rw [hr]
  simp only
  rw [hst]
  simp only
  rw [hto]
  simp only
  rw [hla]
  simp only
  refine ⟨?_, by simp; omega⟩
  rw [← hps]
  rw [cite1 (c := ⟨1, c.Path, c.To, 0, 0⟩) (by show ¬ 9 < c.Path.length; omega) rfl, Bool.and_eq_true, Bool.and_eq_true]
  exact ⟨⟨hp, ht⟩, by show decide (lastKind c.Path ≠ 6) = true; rw [hlk]; simpa using h6⟩

theorem better_mono (i : Nat) (best : api_Cite) (r : api_Cite × Nat × Bool) : best.At ≤ (better i best r).At := by
  unfold better
  split
  · rename_i h; exact Int.le_of_lt h.2
  · exact Int.le_refl _

theorem better_far {i j : Nat} (best : api_Cite) {r : api_Cite × Nat × Bool} (h : Far i j r) : (j : Int) ≤ (better i best r).At := by
  unfold better
  split
  · have := h.2
    show (j : Int) ≤ (r.2.1 : Int)
    omega
  · rename_i hc
    have h1 : ¬ best.At < (r.2.1 : Int) := fun e => hc ⟨h.1, e⟩
    have := h.2
    omega

theorem kinds_of {c : api_Cite} (h : citeB c = true) : c.Kind = 0 ∨ c.Kind = 1 ∨ c.Kind = 2 ∨ c.Kind = 3 ∨ c.Kind = 4 := by
  by_cases h04 : c.Kind = 0 ∨ c.Kind = 4
  · omega
  · by_cases h1 : c.Kind = 1
    · omega
    · by_cases h23 : c.Kind = 2 ∨ c.Kind = 3
      · omega
      · rw [citeO h04 h1 h23] at h; cases h

/-- The longest goes at least as far as any valid citation that stands there. -/
theorem long_far {l : List Str} {e : Bool} {c : api_Cite} (i : Nat) (hc : citeB c = true) (h : Has l e i (wordsB c)) : ((i + (wordsB c).length : Nat) : Int) ≤ (longF l i).At := by
  unfold longF
  have up := fun best r => better_mono i best r
  rcases kinds_of hc with hk | hk | hk | hk | hk
  · exact Int.le_trans (better_far _ (form1_far i hk hc h)) (Int.le_trans (up _ _) (Int.le_trans (up _ _) (Int.le_trans (up _ _) (up _ _))))
  · exact Int.le_trans (better_far _ (span_far i hk hc h)) (Int.le_trans (up _ _) (Int.le_trans (up _ _) (up _ _)))
  · exact Int.le_trans (better_far _ (form2_far i hk hc h)) (Int.le_trans (up _ _) (up _ _))
  · exact Int.le_trans (better_far _ (form3_far i hk hc h)) (up _ _)
  · exact better_far _ (form4_far i hk hc h)

theorem steps_good : ∀ {q : List api_Step}, stepsB q = true → ∀ w ∈ toldL q, GW w
  | [], _, w, hw => by simp [toldL] at hw
  | s :: q, h, w, hw => by
    unfold stepsB at h
    rw [Bool.and_eq_true] at h
    have hk := step_ok h.1
    have hlab : labB s.Label = true := by have h1 := h.1; unfold stepB at h1; simp only [Bool.and_eq_true] at h1; exact h1.2
    rw [toldL_cons, told_step h.1] at hw
    rcases List.mem_append.1 hw with hw | hw
    · simp only [List.mem_cons, List.not_mem_nil, or_false] at hw
      rcases hw with rfl | rfl
      · exact sg_good hk.2 hk.1.2.1
      · exact lab_good hlab
    · exact steps_good h.2 w hw

theorem opt_good {p q : List api_Step} (hq : stepsB q = true) (hs : p = q ∨ p = ⟨0, []⟩ :: q) : ∀ w ∈ toldL p, GW w := by
  rcases hs with rfl | rfl
  · exact steps_good hq
  · intro w hw
    rw [show (⟨0, []⟩ :: q : List api_Step) = [⟨0, []⟩] ++ q from rfl, toldL_append, book_told] at hw
    rcases List.mem_append.1 hw with hw | hw
    · simp only [List.mem_cons, List.not_mem_nil, or_false] at hw
      subst hw; exact bk_good
    · exact steps_good hq w hw

theorem plain_good {p : List api_Step} (h : plainB p = true) : ∀ w ∈ toldL p, GW w := by
  obtain ⟨q, hq, _, hs⟩ := plain_shape h
  exact opt_good hq hs

theorem near_good {p : List api_Step} (h : nearB p = true) : ∀ w ∈ toldL p, GW w := by
  obtain ⟨k, q, rfl, k1, k7, hq⟩ := near_shape h
  intro w hw
  rw [near_told k1] at hw
  rcases List.mem_cons.1 hw with rfl | hw
  · exact sg_good k1 k7
  · exact steps_good hq w hw

theorem words_good {c : api_Cite} (h : citeB c = true) : ∀ w ∈ wordsB c, GW w := by
  have h9 := (cite_small h).1
  intro w hw
  rcases kinds_of h with hk | hk | hk | hk | hk
  · rw [cite04 (by omega) (.inl hk), Bool.and_eq_true] at h
    exact plain_good h.2 w (by simpa [wordsB, hk] using hw)
  · rw [cite1 (by omega) hk, Bool.and_eq_true, Bool.and_eq_true] at h
    obtain ⟨⟨hp, ht⟩, h6⟩ := h
    obtain ⟨q0, s, hq0, hs, hps, hlast, hsh⟩ := last_shape hp
    have hlk : lastKind c.Path = s.Kind := by unfold lastKind; rw [hlast]
    have hll : lastLab c.Path = s.Label := by unfold lastLab; rw [hlast]
    have h6 : s.Kind ≠ 6 := by rw [← hlk]; simpa using h6
    obtain ⟨⟨_, k7, _⟩, k1⟩ := step_ok hs
    have hlab : labB s.Label = true := by unfold stepB at hs; simp only [Bool.and_eq_true] at hs; exact hs.2
    have hw2 : wordsB c = toldL c.Path.dropLast ++ [pl s.Kind, s.Label, toW, c.To] := by simp [wordsB, hk, tailW, hlk, hll]
    rw [hw2] at hw
    rcases List.mem_append.1 hw with hw | hw
    · exact opt_good hq0 hsh w hw
    · simp only [List.mem_cons, List.not_mem_nil, or_false] at hw
      rcases hw with rfl | rfl | rfl | rfl
      · exact pl_good k1 k7 h6
      · exact lab_good hlab
      · exact to_good
      · exact lab_good ht
  · rw [cite23 (by omega) (.inl hk), Bool.and_eq_true] at h
    have hw : w = thisW ∨ w ∈ toldL c.Path := by simpa [wordsB, hk] using hw
    rcases hw with rfl | hw
    · exact this_good
    · exact near_good h.2 w hw
  · rw [cite23 (by omega) (.inr hk), Bool.and_eq_true] at h
    have hw : w = theW ∨ w = saidW ∨ w ∈ toldL c.Path := by simpa [wordsB, hk] using hw
    rcases hw with rfl | rfl | hw
    · exact the_good
    · exact said_good
    · exact near_good h.2 w hw
  · rw [cite04 (by omega) (.inr hk), Bool.and_eq_true] at h
    have hw : w = oldW ∨ w ∈ toldL c.Path := by simpa [wordsB, hk] using hw
    rcases hw with rfl | hw
    · exact old_good
    · exact plain_good h.2 w hw

theorem plain_ne' {p : List api_Step} (h : plainB p = true) : p ≠ [] := by rintro rfl; exact absurd h (by decide)

theorem words_ne {c : api_Cite} (h : citeB c = true) : wordsB c ≠ [] := by
  have h9 := (cite_small h).1
  rcases kinds_of h with hk | hk | hk | hk | hk
  · rw [cite04 (by omega) (.inl hk), Bool.and_eq_true] at h
    have : wordsB c = toldL c.Path := by simp [wordsB, hk]
    rw [this]; exact toldL_ne (plain_ne' h.2)
  · simp [wordsB, hk, tailW]
  · simp [wordsB, hk]
  · simp [wordsB, hk]
  · simp [wordsB, hk]

def rdSteps : List Str → List api_Step × List Str
  | a :: b :: w => if isK sgL a = true then (⟨kdI sgL a, b⟩ :: (rdSteps w).1, (rdSteps w).2) else ([], a :: b :: w)
  | w => ([], w)

def isKo : Option Str → Bool
  | some b => isK sgL b
  | none => false

def rdH (w : List Str) : Int × List api_Step × Nat :=
  if w[0]? = some thisW ∧ isKo w[1]? = true then (2, [⟨kdI sgL ((w[1]?).getD []), []⟩], 2)
  else if w[0]? = some theW ∧ w[1]? = some saidW ∧ isKo w[2]? = true then (3, [⟨kdI sgL ((w[2]?).getD []), []⟩], 3)
  else if w[0]? = some oldW then (4, [], 1) else (0, [], 0)

def rdB (w : List Str) (h : Int × List api_Step × Nat) : List api_Step × Nat :=
  if (h.1 ≠ 2 ∧ h.1 ≠ 3) ∧ w[h.2.2]? = some bkW then (h.2.1 ++ [⟨0, []⟩], h.2.2 + 1) else h.2

def rdE (k : Int) (p : List api_Step) (r : List Str) : api_Cite × List Str := match r with
  | [a, b, t, d] => if k = 0 ∧ isK plL a = true ∧ t = toW then (⟨1, p ++ [⟨kdI plL a, b⟩], d, 0, 0⟩, []) else (⟨k, p, [], 0, 0⟩, r)
  | _ => (⟨k, p, [], 0, 0⟩, r)

def rdZ (w : List Str) : api_Cite × List Str := rdE (rdH w).1 ((rdB w (rdH w)).1 ++ (rdSteps (w.drop (rdB w (rdH w)).2)).1) (rdSteps (w.drop (rdB w (rdH w)).2)).2

/-- The citation that consists of just these words. -/
def rdF (w : List Str) : Option api_Cite := if (rdZ w).2 = [] ∧ citeB (rdZ w).1 = true then some (rdZ w).1 else none

theorem rdSteps_told : ∀ (q : List api_Step) (rest : List Str), stepsB q = true → (∀ a b w, rest = a :: b :: w → isK sgL a = false) → rdSteps (toldL q ++ rest) = (q, rest)
  | [], rest, _, h => by
    cases rest with
    | nil => rfl
    | cons a r => cases r with
      | nil => rfl
      | cons b w =>
        have := h a b w rfl
        show rdSteps (a :: b :: w) = _
        rw [rdSteps, if_neg (by rw [this]; simp)]
  | s :: q, rest, hs, h => by
    unfold stepsB at hs
    rw [Bool.and_eq_true] at hs
    obtain ⟨⟨_, k7, _⟩, k1⟩ := step_ok hs.1
    have ih := rdSteps_told q rest hs.2 h
    rw [toldL_cons, told_step hs.1]
    show rdSteps (sg s.Kind :: s.Label :: (toldL q ++ rest)) = _
    rw [rdSteps, if_pos (isK_sg k1 k7), ih, kd_sg k1 k7]

theorem rdH_plain {w : List Str} {x : Str} (h : w[0]? = some x) (h1 : x ≠ thisW) (h2 : x ≠ theW) (h3 : x ≠ oldW) : rdH w = (0, [], 0) := by
  unfold rdH
  rw [h, if_neg (fun e => h1 (Option.some.inj e.1)), if_neg (fun e => h2 (Option.some.inj e.1)), if_neg (fun e => h3 (Option.some.inj e))]

theorem rd_path {k : Int} (hk : k = 0 ∨ k = 4) {w : List Str} {i : Nat} {p q : List api_Step} {rest : List Str} (hq : stepsB q = true) (hs : p = q ∨ p = ⟨0, []⟩ :: q) (hw : w.drop i = toldL p ++ rest)
    (hrest : ∀ a b w, rest = a :: b :: w → isK sgL a = false) (hne : q = [] → rest.head? ≠ some bkW) :
    (rdB w (k, [], i)).1 ++ (rdSteps (w.drop (rdB w (k, [], i)).2)).1 = p ∧ (rdSteps (w.drop (rdB w (k, [], i)).2)).2 = rest := by
  have hi : w[i]? = (toldL p ++ rest).head? := by
    rw [← hw, List.head?_drop]
  unfold rdB
  rcases hs with rfl | rfl
  · have : ¬ (((k, ([] : List api_Step), i).1 ≠ 2 ∧ (k, ([] : List api_Step), i).1 ≠ 3) ∧ w[(k, ([] : List api_Step), i).2.2]? = some bkW) := by
      rintro ⟨_, e⟩
      have e : w[i]? = some bkW := e
      rw [hi] at e
      cases p with
      | nil => exact hne rfl (by simpa [toldL] using e)
      | cons s q =>
        unfold stepsB at hq
        rw [Bool.and_eq_true] at hq
        obtain ⟨⟨_, k7, _⟩, k1⟩ := step_ok hq.1
        rw [toldL_cons, told_step hq.1] at e
        have e : some (sg s.Kind) = some bkW := e
        exact (sg_no k1 k7).1 (Option.some.inj e)
    rw [if_neg this]
    show ([] : List api_Step) ++ (rdSteps (w.drop i)).1 = p ∧ (rdSteps (w.drop i)).2 = rest
    rw [hw, rdSteps_told p rest hq hrest]
    exact ⟨rfl, rfl⟩
  · have hb : toldL (⟨0, []⟩ :: q) ++ rest = bkW :: (toldL q ++ rest) := by
      rw [show (⟨0, []⟩ :: q : List api_Step) = [⟨0, []⟩] ++ q from rfl, toldL_append, book_told]; rfl
    rw [hb] at hi hw
    rw [if_pos ⟨⟨by show k ≠ 2; omega, by show k ≠ 3; omega⟩, hi⟩]
    show [(⟨0, []⟩ : api_Step)] ++ (rdSteps (w.drop (i + 1))).1 = _ ∧ (rdSteps (w.drop (i + 1))).2 = rest
    have : w.drop (i + 1) = toldL q ++ rest := by
      rw [← List.drop_drop, hw]; rfl
    rw [this, rdSteps_told q rest hq hrest]
    exact ⟨rfl, rfl⟩

theorem told_head {p q : List api_Step} (hq : stepsB q = true) (hs : p = q ∨ p = ⟨0, []⟩ :: q) {x : Str} (h : (toldL p).head? = some x) : x ≠ thisW ∧ x ≠ theW ∧ x ≠ oldW := by
  rcases hs with rfl | rfl
  · cases p with
    | nil => cases h
    | cons s q =>
      unfold stepsB at hq
      rw [Bool.and_eq_true] at hq
      obtain ⟨⟨_, k7, _⟩, k1⟩ := step_ok hq.1
      rw [toldL_cons, told_step hq.1] at h
      have h : some (sg s.Kind) = some x := h
      cases h
      exact ⟨(sg_no k1 k7).2.1, (sg_no k1 k7).2.2.1, (sg_no k1 k7).2.2.2⟩
  · rw [show (⟨0, []⟩ :: q : List api_Step) = [⟨0, []⟩] ++ q from rfl, toldL_append, book_told] at h
    have h : some bkW = some x := h
    cases h
    decide

def bareC (c : api_Cite) : api_Cite := { c with From := 0, At := 0 }

theorem rdE_nil (k : Int) (p : List api_Step) : rdE k p [] = (⟨k, p, [], 0, 0⟩, []) := rfl

theorem rdF_of {w : List Str} {c : api_Cite} (hz : rdZ w = (bareC c, [])) (hc : citeB c = true) : rdF w = some (bareC c) := by
  unfold rdF
  rw [hz, if_pos ⟨rfl, hc⟩]

theorem read_words {c : api_Cite} (hc : citeB c = true) : rdF (wordsB c) = some (bareC c) := by
  refine rdF_of ?_ hc
  have h9 := (cite_small hc).1
  obtain ⟨K, P, T, F, A⟩ := c
  unfold bareC
  show rdZ (wordsB ⟨K, P, T, F, A⟩) = (⟨K, P, T, 0, 0⟩, [])
  rcases kinds_of hc with hk | hk | hk | hk | hk
  · have hk : K = 0 := hk
    subst hk
    rw [cite04 (by omega) (.inl rfl), Bool.and_eq_true] at hc
    have ht : T = [] := by simpa using hc.1
    subst ht
    obtain ⟨q, hq, hn, hs⟩ := plain_shape hc.2
    have hs : P = q ∨ P = ⟨0, []⟩ :: q := hs
    have hw : wordsB ⟨0, P, [], F, A⟩ = toldL P := rfl
    rw [hw]
    have hP : P ≠ [] := plain_ne' hc.2
    obtain ⟨x, r, hx⟩ := List.exists_cons_of_ne_nil (toldL_ne hP)
    have hhd : (toldL P).head? = some x := by rw [hx]; rfl
    obtain ⟨h1, h2, h3⟩ := told_head hq hs hhd
    have hH := rdH_plain (w := toldL P) (x := x) (by rw [hx]; rfl) h1 h2 h3
    unfold rdZ
    rw [hH]
    obtain ⟨e1, e2⟩ := rd_path (k := 0) (.inl rfl) (w := toldL P) (i := 0) (rest := []) hq hs (by simp) (fun _ _ _ e => by cases e) (fun e => absurd e hn)
    rw [e1, e2]
    rfl
  · have hk : K = 1 := hk
    subst hk
    have hc2 := hc
    rw [cite1 (by omega) rfl, Bool.and_eq_true, Bool.and_eq_true] at hc2
    obtain ⟨⟨hp, ht⟩, h6⟩ := hc2
    obtain ⟨q0, s, hq0, hs, hps, hlast, hsh⟩ := last_shape hp
    have hlk : lastKind P = s.Kind := by unfold lastKind; rw [hlast]
    have hll : lastLab P = s.Label := by unfold lastLab; rw [hlast]
    have h6 : s.Kind ≠ 6 := by rw [← hlk]; simpa using h6
    obtain ⟨⟨_, k7, _⟩, k1⟩ := step_ok hs
    have hw : wordsB ⟨1, P, T, F, A⟩ = toldL P.dropLast ++ [pl s.Kind, s.Label, toW, T] := by simp [wordsB, tailW, hlk, hll]
    rw [hw]
    have hno := pl_no k1 k7
    generalize hW : toldL P.dropLast ++ [pl s.Kind, s.Label, toW, T] = W
    obtain ⟨x, hx, hx1, hx2, hx3⟩ : ∃ x, W[0]? = some x ∧ x ≠ thisW ∧ x ≠ theW ∧ x ≠ oldW := by
      cases hd : toldL P.dropLast with
      | nil =>
        rw [hd] at hW
        exact ⟨pl s.Kind, by rw [← hW]; rfl, hno.2.2.1, hno.2.2.2.1, hno.2.2.2.2⟩
      | cons x r =>
        obtain ⟨h1, h2, h3⟩ := told_head hq0 hsh (x := x) (by rw [hd]; rfl)
        exact ⟨x, by rw [← hW, hd]; rfl, h1, h2, h3⟩
    have hH := rdH_plain hx hx1 hx2 hx3
    unfold rdZ
    rw [hH]
    obtain ⟨e1, e2⟩ := rd_path (k := 0) (.inl rfl) (w := W) (i := 0) (rest := [pl s.Kind, s.Label, toW, T]) hq0 hsh (by rw [← hW]; rfl) (fun _ _ _ e => by cases e; exact hno.1) (fun _ e => hno.2.1 (Option.some.inj e))
    rw [e1, e2]
    show (if (0 : Int) = 0 ∧ isK plL (pl s.Kind) = true ∧ toW = toW then ((⟨1, P.dropLast ++ [⟨kdI plL (pl s.Kind), s.Label⟩], T, 0, 0⟩ : api_Cite), ([] : List Str)) else _) = _
    rw [if_pos ⟨rfl, isK_pl k1 k7 h6, rfl⟩, kd_pl k1 k7 h6]
    have : P.dropLast ++ [(⟨s.Kind, s.Label⟩ : api_Step)] = P := hps.symm
    rw [this]
  · have hk : K = 2 := hk
    subst hk
    rw [cite23 (by omega) (.inl rfl), Bool.and_eq_true] at hc
    have ht : T = [] := by simpa using hc.1
    subst ht
    obtain ⟨k, q, hP, k1, k7, hq⟩ := near_shape hc.2
    have hP : P = ⟨k, []⟩ :: q := hP
    subst hP
    have hw : wordsB ⟨2, ⟨k, []⟩ :: q, [], F, A⟩ = thisW :: sg k :: toldL q := by
      show thisW :: toldL (⟨k, []⟩ :: q) = _
      rw [near_told k1]
    rw [hw]
    have hH : rdH (thisW :: sg k :: toldL q) = (2, [⟨k, []⟩], 2) := by
      unfold rdH
      rw [if_pos ⟨rfl, isK_sg k1 k7⟩]
      show ((2 : Int), [(⟨kdI sgL (sg k), []⟩ : api_Step)], 2) = _
      rw [kd_sg k1 k7]
    unfold rdZ
    rw [hH]
    have hB : rdB (thisW :: sg k :: toldL q) (2, [⟨k, []⟩], 2) = ([⟨k, []⟩], 2) := by
      unfold rdB
      rw [if_neg (fun e => e.1.1 rfl)]
    rw [hB]
    show rdE 2 ([⟨k, []⟩] ++ (rdSteps (toldL q)).1) (rdSteps (toldL q)).2 = _
    have := rdSteps_told q [] hq (fun _ _ _ e => by cases e)
    rw [List.append_nil] at this
    rw [this]
    rfl
  · have hk : K = 3 := hk
    subst hk
    rw [cite23 (by omega) (.inr rfl), Bool.and_eq_true] at hc
    have ht : T = [] := by simpa using hc.1
    subst ht
    obtain ⟨k, q, hP, k1, k7, hq⟩ := near_shape hc.2
    have hP : P = ⟨k, []⟩ :: q := hP
    subst hP
    have hw : wordsB ⟨3, ⟨k, []⟩ :: q, [], F, A⟩ = theW :: saidW :: sg k :: toldL q := by
      show theW :: saidW :: toldL (⟨k, []⟩ :: q) = _
      rw [near_told k1]
    rw [hw]
    have hH : rdH (theW :: saidW :: sg k :: toldL q) = (3, [⟨k, []⟩], 3) := by
      unfold rdH
      rw [if_neg (fun e => absurd (Option.some.inj e.1) (by decide)), if_pos ⟨rfl, rfl, isK_sg k1 k7⟩]
      show ((3 : Int), [(⟨kdI sgL (sg k), []⟩ : api_Step)], 3) = _
      rw [kd_sg k1 k7]
    unfold rdZ
    rw [hH]
    have hB : rdB (theW :: saidW :: sg k :: toldL q) (3, [⟨k, []⟩], 3) = ([⟨k, []⟩], 3) := by
      unfold rdB
      rw [if_neg (fun e => e.1.2 rfl)]
    rw [hB]
    show rdE 3 ([⟨k, []⟩] ++ (rdSteps (toldL q)).1) (rdSteps (toldL q)).2 = _
    have := rdSteps_told q [] hq (fun _ _ _ e => by cases e)
    rw [List.append_nil] at this
    rw [this]
    rfl
  · have hk : K = 4 := hk
    subst hk
    rw [cite04 (by omega) (.inr rfl), Bool.and_eq_true] at hc
    have ht : T = [] := by simpa using hc.1
    subst ht
    obtain ⟨q, hq, hn, hs⟩ := plain_shape hc.2
    have hs : P = q ∨ P = ⟨0, []⟩ :: q := hs
    have hw : wordsB ⟨4, P, [], F, A⟩ = oldW :: toldL P := rfl
    rw [hw]
    have hH : rdH (oldW :: toldL P) = (4, [], 1) := by
      unfold rdH
      rw [if_neg (fun e => absurd (Option.some.inj e.1) (by decide)), if_neg (fun e => absurd (Option.some.inj e.1) (by decide))]
      exact if_pos rfl
    unfold rdZ
    rw [hH]
    obtain ⟨e1, e2⟩ := rd_path (k := 4) (.inr rfl) (w := oldW :: toldL P) (i := 1) (rest := []) hq hs (by simp) (fun _ _ _ e => by cases e) (fun e => absurd e hn)
    rw [e1, e2]
    rfl

/-- A valid citation is told by its words. -/
theorem uniq {c c' : api_Cite} (h : citeB c = true) (h' : citeB c' = true) (hw : wordsB c = wordsB c') : bareC c = bareC c' := by
  have e := read_words h
  rw [hw, read_words h'] at e
  exact (Option.some.inj e).symm

theorem rdSteps_sound : ∀ (n : Nat) (v : List Str), v.length ≤ n → stepsB (rdSteps v).1 = true → v = toldL (rdSteps v).1 ++ (rdSteps v).2
  | _, [], _, _ => rfl
  | _, [a], _, _ => rfl
  | 0, a :: b :: w, h, _ => by simp at h
  | n + 1, a :: b :: w, hl, h => by
    rw [rdSteps] at h ⊢
    by_cases hk : isK sgL a = true
    · rw [if_pos hk] at h ⊢
      unfold stepsB at h
      rw [Bool.and_eq_true] at h
      have ih := rdSteps_sound n w (by simp at hl; omega) h.2
      show a :: b :: w = toldL (⟨kdI sgL a, b⟩ :: (rdSteps w).1) ++ (rdSteps w).2
      rw [toldL_cons, told_step h.1]
      show a :: b :: w = sg (kdI sgL a) :: b :: (toldL (rdSteps w).1 ++ (rdSteps w).2)
      rw [(sg_word hk).2.2, ← ih]
    · rw [if_neg hk]; rfl

theorem rdSteps_kind : ∀ (n : Nat) (v : List Str), v.length ≤ n → ∀ s ∈ (rdSteps v).1, bookB s = false
  | _, [], _, s, h => by cases h
  | _, [a], _, s, h => by cases h
  | 0, a :: b :: w, h, _, _ => by simp at h
  | n + 1, a :: b :: w, hl, s, h => by
    rw [rdSteps] at h
    by_cases hk : isK sgL a = true
    · rw [if_pos hk] at h
      rcases List.mem_cons.1 h with rfl | h
      · have := (sg_word hk).1
        exact toldS_no (by show kdI sgL a ≠ 0; omega)
      · exact rdSteps_kind n w (by simp at hl; omega) s h
    · rw [if_neg hk] at h; cases h

theorem bare_no {p : List api_Step} (h : ∀ s ∈ p, bookB s = false) : bare p = p := by
  cases p with
  | nil => rfl
  | cons s p => rw [bare.eq_2, if_neg (by rw [h s List.mem_cons_self]; simp)]

theorem rdB_cases (w : List Str) (k : Int) (i : Nat) : (rdB w (k, [], i) = ([⟨0, []⟩], i + 1) ∧ w[i]? = some bkW) ∨ rdB w (k, [], i) = ([], i) := by
  unfold rdB
  split
  · rename_i h; exact .inl ⟨rfl, h.2⟩
  · exact .inr rfl

/-- A path that was read. -/
theorem path_back {w : List Str} {k : Int} {i : Nat} (hi : i ≤ w.length) (x : List api_Step) (hx : ∀ s ∈ x, bookB s = false)
    (h : plainB ((rdB w (k, [], i)).1 ++ (rdSteps (w.drop (rdB w (k, [], i)).2)).1 ++ x) = true) :
    w.drop i = toldL ((rdB w (k, [], i)).1 ++ (rdSteps (w.drop (rdB w (k, [], i)).2)).1) ++ (rdSteps (w.drop (rdB w (k, [], i)).2)).2 := by
  have hb : ∀ v : List Str, bare ((rdSteps v).1 ++ x) = (rdSteps v).1 ++ x := fun v => bare_no fun s hs => by
    rcases List.mem_append.1 hs with hs | hs
    · exact rdSteps_kind v.length v (Nat.le_refl _) s hs
    · exact hx s hs
  unfold plainB at h
  rw [Bool.and_eq_true] at h
  rcases rdB_cases w k i with ⟨e, hw⟩ | e
  · rw [e] at h ⊢
    have h2 : stepsB ((rdSteps (w.drop (i + 1))).1 ++ x) = true := h.2
    rw [steps_append, Bool.and_eq_true] at h2
    have := rdSteps_sound _ (w.drop (i + 1)) (Nat.le_refl _) h2.1
    show w.drop i = toldL ([⟨0, []⟩] ++ (rdSteps (w.drop (i + 1))).1) ++ (rdSteps (w.drop (i + 1))).2
    rw [toldL_append, book_told, List.append_assoc, ← this]
    have hl := (List.getElem?_eq_some_iff.1 hw).1
    rw [List.drop_eq_getElem_cons hl]
    rw [List.getElem?_eq_getElem hl] at hw
    rw [Option.some.inj hw]; rfl
  · rw [e] at h ⊢
    have h2 : stepsB (bare ((rdSteps (w.drop i)).1 ++ x)) = true := h.2
    rw [hb, steps_append, Bool.and_eq_true] at h2
    exact rdSteps_sound _ (w.drop i) (Nat.le_refl _) h2.1

theorem rdE_cases (k : Int) (p : List api_Step) (r : List Str) : (∃ a b d, r = [a, b, toW, d] ∧ k = 0 ∧ isK plL a = true ∧ rdE k p r = (⟨1, p ++ [⟨kdI plL a, b⟩], d, 0, 0⟩, [])) ∨ rdE k p r = (⟨k, p, [], 0, 0⟩, r) := by
  unfold rdE
  split
  · rename_i a b t d
    by_cases h : k = 0 ∧ isK plL a = true ∧ t = toW
    · rw [if_pos h]
      obtain ⟨h1, h2, rfl⟩ := h
      exact .inl ⟨a, b, d, rfl, h1, h2, rfl⟩
    · rw [if_neg h]; exact .inr rfl
  · exact .inr rfl

theorem read_sound {w : List Str} {c : api_Cite} (h : rdF w = some c) : citeB c = true ∧ wordsB c = w ∧ c.From = 0 ∧ c.At = 0 := by
  unfold rdF at h
  split at h
  · rename_i hz
    have hc := hz.2
    have hr := hz.1
    have hce := Option.some.inj h
    subst hce
    refine ⟨hc, ?_⟩
    have h9 := (cite_small hc).1
    revert hc hr h9
    unfold rdZ rdH
    split
    · rename_i hH
      obtain ⟨h0, h1⟩ := hH
      cases w with
      | nil => cases h0
      | cons a w => cases w with
        | nil => cases h1
        | cons b w =>
          have ha : a = thisW := Option.some.inj h0
          have hb : isK sgL b = true := h1
          subst ha
          have hB : rdB (thisW :: b :: w) (2, [⟨kdI sgL (((thisW :: b :: w)[1]?).getD []), []⟩], 2) = ([⟨kdI sgL b, []⟩], 2) := by
            unfold rdB
            rw [if_neg (fun e => e.1.1 rfl)]; rfl
          rw [hB]
          intro hc hr h9
          rcases rdE_cases 2 ([⟨kdI sgL b, []⟩] ++ (rdSteps w).1) (rdSteps w).2 with ⟨_, _, _, _, e, _⟩ | e
          · cases e
          · have e : rdE 2 ([⟨kdI sgL b, []⟩] ++ (rdSteps ((thisW :: b :: w).drop 2)).1) (rdSteps ((thisW :: b :: w).drop 2)).2 = (⟨2, [⟨kdI sgL b, []⟩] ++ (rdSteps w).1, [], 0, 0⟩, (rdSteps w).2) := e
            simp only [e] at hc hr h9 ⊢
            refine ⟨?_, by simp, by simp⟩
            rw [cite23 (by show ¬ 9 < ([(⟨kdI sgL b, []⟩ : api_Step)] ++ (rdSteps w).1).length; omega) (.inl rfl), Bool.and_eq_true] at hc
            obtain ⟨k1, k7, hsg⟩ := sg_word hb
            have hst : stepsB (rdSteps w).1 = true := by
              have := hc.2
              simp [nearB] at this
              exact this.2
            have hs := rdSteps_sound _ w (Nat.le_refl _) hst
            show thisW :: toldL (⟨kdI sgL b, []⟩ :: (rdSteps w).1) = _
            rw [near_told k1, hsg]
            rw [hr, List.append_nil] at hs
            rw [← hs]
    · split
      · rename_i hH
        obtain ⟨h0, h1, h2⟩ := hH
        cases w with
        | nil => cases h0
        | cons a w => cases w with
          | nil => cases h1
          | cons b w => cases w with
            | nil => cases h2
            | cons b2 w =>
              have ha : a = theW := Option.some.inj h0
              have hsd : b = saidW := Option.some.inj h1
              have hb : isK sgL b2 = true := h2
              subst ha hsd
              have hB : rdB (theW :: saidW :: b2 :: w) (3, [⟨kdI sgL (((theW :: saidW :: b2 :: w)[2]?).getD []), []⟩], 3) = ([⟨kdI sgL b2, []⟩], 3) := by
                unfold rdB
                rw [if_neg (fun e => e.1.2 rfl)]; rfl
              rw [hB]
              intro hc hr h9
              rcases rdE_cases 3 ([⟨kdI sgL b2, []⟩] ++ (rdSteps w).1) (rdSteps w).2 with ⟨_, _, _, _, e, _⟩ | e
              · cases e
              · have e : rdE 3 ([⟨kdI sgL b2, []⟩] ++ (rdSteps ((theW :: saidW :: b2 :: w).drop 3)).1) (rdSteps ((theW :: saidW :: b2 :: w).drop 3)).2 = (⟨3, [⟨kdI sgL b2, []⟩] ++ (rdSteps w).1, [], 0, 0⟩, (rdSteps w).2) := e
                simp only [e] at hc hr h9 ⊢
                refine ⟨?_, by simp, by simp⟩
                rw [cite23 (by show ¬ 9 < ([(⟨kdI sgL b2, []⟩ : api_Step)] ++ (rdSteps w).1).length; omega) (.inr rfl), Bool.and_eq_true] at hc
                obtain ⟨k1, k7, hsg⟩ := sg_word hb
                have hst : stepsB (rdSteps w).1 = true := by
                  have := hc.2
                  simp [nearB] at this
                  exact this.2
                have hs := rdSteps_sound _ w (Nat.le_refl _) hst
                show theW :: saidW :: toldL (⟨kdI sgL b2, []⟩ :: (rdSteps w).1) = _
                rw [near_told k1, hsg]
                rw [hr, List.append_nil] at hs
                rw [← hs]
      · split
        · rename_i h0
          cases w with
          | nil => cases h0
          | cons a w =>
            have ha : a = oldW := Option.some.inj h0
            subst ha
            intro hc hr h9
            generalize hp : (rdB (oldW :: w) (4, [], 1)).1 ++ (rdSteps ((oldW :: w).drop (rdB (oldW :: w) (4, [], 1)).2)).1 = p at hc hr h9 ⊢
            generalize hrr : (rdSteps ((oldW :: w).drop (rdB (oldW :: w) (4, [], 1)).2)).2 = r at hc hr h9 ⊢
            rcases rdE_cases 4 p r with ⟨_, _, _, _, e, _⟩ | e
            · cases e
            · simp only [e] at hc hr h9 ⊢
              refine ⟨?_, by simp, by simp⟩
              rw [cite04 (by show ¬ 9 < p.length; omega) (.inr rfl), Bool.and_eq_true] at hc
              have := path_back (w := oldW :: w) (k := 4) (i := 1) (by simp) [] (fun _ h => by cases h) (by rw [List.append_nil, hp]; exact hc.2)
              rw [hp, hrr, hr, List.append_nil] at this
              show oldW :: toldL p = _
              rw [← this]; rfl
        · intro hc hr h9
          generalize hp : (rdB w (0, [], 0)).1 ++ (rdSteps (w.drop (rdB w (0, [], 0)).2)).1 = p at hc hr h9 ⊢
          generalize hrr : (rdSteps (w.drop (rdB w (0, [], 0)).2)).2 = r at hc hr h9 ⊢
          rcases rdE_cases 0 p r with ⟨a, b, d, rfl, _, hk, e⟩ | e
          · simp only [e] at hc hr h9 ⊢
            refine ⟨?_, by simp, by simp⟩
            rw [cite1 (by show ¬ 9 < (p ++ [(⟨kdI plL a, b⟩ : api_Step)]).length; omega) rfl, Bool.and_eq_true, Bool.and_eq_true] at hc
            obtain ⟨k1, k7, hpl⟩ := pl_word hk
            have := path_back (w := w) (k := 0) (i := 0) (Nat.zero_le _) [⟨kdI plL a, b⟩] (fun s h => by
              rw [List.mem_singleton.1 h]
              exact toldS_no (by show kdI plL a ≠ 0; omega)) (by rw [hp]; exact hc.1.1)
            rw [hp, hrr] at this
            have hl : wordsB ⟨1, p ++ [⟨kdI plL a, b⟩], d, 0, 0⟩ = toldL p ++ [a, b, toW, d] := by
              simp [wordsB, tailW, lastKind, lastLab, hpl]
            rw [hl, ← this]; rfl
          · simp only [e] at hc hr h9 ⊢
            refine ⟨?_, by simp, by simp⟩
            rw [cite04 (by show ¬ 9 < p.length; omega) (.inl rfl), Bool.and_eq_true] at hc
            have := path_back (w := w) (k := 0) (i := 0) (Nat.zero_le _) [] (fun _ h => by cases h) (by rw [List.append_nil, hp]; exact hc.2)
            rw [hp, hrr, hr, List.append_nil] at this
            show toldL p = _
            rw [← this]; rfl
  · cases h

theorem long_is {l : List Str} {e : Bool} {c : api_Cite} {i : Nat} (hc : citeB c = true) (h : Has l e i (wordsB c))
    (hmax : ∀ (e' : Bool) (c' : api_Cite), citeB c' = true → Has l e' i (wordsB c') → (wordsB c').length ≤ (wordsB c).length) :
    longF l i = { c with From := (i : Int), At := ((i + (wordsB c).length : Nat) : Int) } := by
  have hf := long_far i hc h
  have hpos : 0 < (wordsB c).length := List.length_pos_iff.2 (words_ne hc)
  rcases long_told l i with h0 | ⟨j, e', h1, h2, h3, h4, h5⟩
  · rw [h0] at hf
    have : ((i + (wordsB c).length : Nat) : Int) ≤ 0 := hf
    omega
  · have hm := hmax e' _ h1 h5.has
    have hj := h5.1
    rw [h3] at hf
    have hlen : (wordsB (longF l i)).length = (wordsB c).length := by omega
    have hw := has_det h5.has h hlen (words_good h1) (words_good hc)
    have hu := uniq h1 hc hw
    rw [hw] at hj
    generalize longF l i = d at h1 h2 h3 hu
    obtain ⟨K, P, T, F, A⟩ := d
    obtain ⟨K', P', T', F', A'⟩ := c
    unfold bareC at hu
    simp only [api_Cite.mk.injEq] at hu
    obtain ⟨rfl, rfl, rfl, _⟩ := hu
    have h2 : F = (i : Int) := h2
    have h3 : A = (j : Int) := h3
    rw [h2, h3, hj]

theorem long_none {l : List Str} {i : Nat} (h : ∀ (e : Bool) (c : api_Cite), citeB c = true → ¬ Has l e i (wordsB c)) : longF l i = zapi_Cite := by
  rcases long_told l i with h0 | ⟨j, e, h1, _, _, _, h5⟩
  · exact h0
  · exact absurd h5.has (h e _ h1)

def scanF (l : List Str) : Nat → Nat → List api_Cite
  | 0, _ => []
  | k + 1, i => if i < l.length then (if 0 < (longF l i).At then longF l i :: scanF l k (longF l i).At.toNat else scanF l k (i + 1)) else []

theorem long_place {l : List Str} {i : Nat} (h : 0 < (longF l i).At) : ∃ (j : Nat) (e : Bool), citeB (longF l i) = true ∧ (longF l i).From = (i : Int) ∧ (longF l i).At = (j : Int) ∧ j = i + (wordsB (longF l i)).length ∧ i < j ∧ j ≤ l.length ∧ Has l e i (wordsB (longF l i)) := by
  rcases long_told l i with h0 | ⟨j, e, h1, h2, h3, h4, h5⟩
  · rw [h0] at h; exact absurd h (by decide)
  · have hne := words_ne h1
    have hlt := h5.has.lt hne
    have hpos := List.length_pos_iff.2 hne
    have hj := h5.1
    exact ⟨j, e, h1, h2, h3, hj, by omega, by omega, h5.has⟩

theorem scan_loop {l : List Str} (hl : FineW l) (hlen : l.length ≤ 100000) : ∀ (k i : Nat) (out : List api_Cite), l.length < i + k → i ≤ l.length → out.length ≤ i → To (fun n => M.citation_Scan_loop1 l n out (i : Int)) (out ++ scanF l k i) := by
  intro k
  induction k with
  | zero => intro i out h1 h2; omega
  | succ k ih =>
    intro i out h1 h2 h3
    refine To.succ ?_
    simp only [M.citation_Scan_loop1]
    unfold scanF
    by_cases hi : i < l.length
    · rw [if_pos hi]
      refine To.pos (by omega) (To.bind (longest_t hl i (by omega)) ?_)
      by_cases hp : 0 < (longF l i).At
      · rw [if_pos hp]
        obtain ⟨j, e, _, _, hj, _, hij, hjl, _⟩ := long_place hp
        refine To.neg (by simp [hp]) (To.bindS (appC_eq (by simp; omega)) ?_)
        have := ih j (out ++ [longF l i]) (by omega) hjl (by simp; omega)
        rw [← hj] at this
        refine this.of ?_
        rw [hj]; simp
      · rw [if_neg hp]
        refine To.pos (by simp [hp]) ?_
        rw [cast_succ]
        exact ih (i + 1) out (by omega) (by omega) (by omega)
    · rw [if_neg hi]
      exact To.neg (by omega) (To.pure.of (by simp))

theorem scan_t {l : List Str} (hl : FineW l) (hlen : l.length ≤ 100000) : To (fun n => M.citation_Scan n l) (scanF l (l.length + 1) 0) := by
  simp only [M.citation_Scan]
  refine To.bind (scan_loop hl hlen (l.length + 1) 0 [] (by omega) (by omega) (by simp)) (To.pure.of (by simp))

theorem drop_take {α : Type} {l : List α} {i j : Nat} {x : α} (h : l[i]? = some x) (hj : i < j) : (l.take j).drop i = x :: (l.take j).drop (i + 1) := by
  have hl := (List.getElem?_eq_some_iff.1 h).1
  have hl2 : i < (l.take j).length := by rw [List.length_take]; omega
  rw [List.drop_eq_getElem_cons hl2, List.getElem_take]
  rw [List.getElem?_eq_getElem hl] at h
  rw [Option.some.inj h]

end Go.Proofs.Ytclepigknhoonaa
