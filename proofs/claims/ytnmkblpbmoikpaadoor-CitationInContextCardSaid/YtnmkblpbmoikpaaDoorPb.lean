/-
  The words of a citation, and its text.
-/
import Derived.Test.YtnmkblpbmoikpaaDoorPa
set_option linter.unusedVariables false
set_option linter.unusedSimpArgs false
namespace Go.Proofs.YtnmkblpbmoikpaaDoor
open Go Go.Dec
theorem mem_dl {α : Type} {l : List α} {x : α} (h : x ∈ l.dropLast) : x ∈ l := (List.dropLast_sublist l).subset h
def sgL : List Str := [([] : Str), ([112, 97, 114, 116] : Str), ([115, 101, 99, 116, 105, 111, 110] : Str), ([112, 97, 114, 97, 103, 114, 97, 112, 104] : Str), ([116, 97, 98, 108, 101] : Str), ([114, 111, 119] : Str), ([99, 101, 108, 108] : Str), ([110, 111, 116, 101] : Str)]
def plL : List Str := [([] : Str), ([112, 97, 114, 116, 115] : Str), ([115, 101, 99, 116, 105, 111, 110, 115] : Str), ([112, 97, 114, 97, 103, 114, 97, 112, 104, 115] : Str), ([116, 97, 98, 108, 101, 115] : Str), ([114, 111, 119, 115] : Str), ([] : Str), ([110, 111, 116, 101, 115] : Str)]
def bkW : Str := [98, 111, 111, 107]
def thisW : Str := [116, 104, 105, 115]
def theW : Str := [116, 104, 101]
def saidW : Str := [115, 97, 105, 100]
def oldW : Str := [102, 111, 114, 109, 101, 114, 108, 121]
def toW : Str := [116, 111]
def sg (k : Int) : Str := (idx sgL k).getD []
def pl (k : Int) : Str := (idx plL k).getD []
theorem seven {k : Int} (h0 : 1 ≤ k) (h1 : k ≤ 7) : k = 1 ∨ k = 2 ∨ k = 3 ∨ k = 4 ∨ k = 5 ∨ k = 6 ∨ k = 7 := by omega
theorem sg_idx {k : Int} (h0 : 0 ≤ k) (h1 : k ≤ 7) : idx sgL k = some (sg k) ∧ (sg k).length ≤ 9 := by
  by_cases h : k = 0
  · subst h; exact ⟨rfl, by decide⟩
  · rcases seven (k := k) (by omega) h1 with rfl | rfl | rfl | rfl | rfl | rfl | rfl <;> exact ⟨rfl, by decide⟩
theorem pl_idx {k : Int} (h0 : 0 ≤ k) (h1 : k ≤ 7) : idx plL k = some (pl k) ∧ (pl k).length ≤ 10 := by
  by_cases h : k = 0
  · subst h; exact ⟨rfl, by decide⟩
  · rcases seven (k := k) (by omega) h1 with rfl | rfl | rfl | rfl | rfl | rfl | rfl <;> exact ⟨rfl, by decide⟩
def toldS (s : api_Step) : List Str := if bookB s = true then [bkW] else if s.Label = [] then [sg s.Kind] else [sg s.Kind, s.Label]
def toldL (p : List api_Step) : List Str := p.flatMap toldS
theorem told_loop : ∀ (p : List api_Step) (out : List Str), (∀ s ∈ p, 0 ≤ s.Kind ∧ s.Kind ≤ 7) → out.length + 2 * p.length ≤ 1000000 → M.citation_told_loop1 p out = some (out ++ toldL p)
  | [], out, _, _ => by simp [M.citation_told_loop1, toldL]
  | s :: p, out, h, hl => by
    obtain ⟨h1, h2⟩ := h s List.mem_cons_self
    simp only [List.length_cons] at hl
    have hq : ∀ x ∈ p, 0 ≤ x.Kind ∧ x.Kind ≤ 7 := fun x hx => h x (List.mem_cons_of_mem _ hx)
    have ht : toldL (s :: p) = toldS s ++ toldL p := by simp [toldL]
    rw [ht]
    unfold toldS
    simp only [M.citation_told_loop1]
    rw [cbook_eq, Option.bind_some]
    by_cases hb : bookB s = true
    · rw [if_pos hb, if_pos hb, appC_eq (by simp; omega), Option.bind_some, told_loop p _ hq (by simp; omega)]
      simp [bkW]
    · rw [if_neg hb, if_neg hb]
      by_cases hlb : s.Label = []
      · rw [if_pos (by simp [hlb]), if_pos hlb]
        rw [show M.citation_single = some sgL from rfl, Option.bind_some, (sg_idx h1 h2).1, Option.bind_some, appC_eq (by simp; omega), Option.bind_some, told_loop p _ hq (by simp; omega)]
        simp
      · rw [if_neg (by simpa using hlb), if_neg hlb]
        rw [show M.citation_single = some sgL from rfl, Option.bind_some, (sg_idx h1 h2).1, Option.bind_some, appC_eq (by simp; omega), Option.bind_some, told_loop p _ hq (by simp; omega)]
        simp
theorem told_ok (p : List api_Step) (h : ∀ s ∈ p, 0 ≤ s.Kind ∧ s.Kind ≤ 7) (hl : p.length ≤ 100) : M.citation_told p = some (toldL p) := by
  unfold M.citation_told
  rw [told_loop p [] h (by simp; omega)]
  rfl
theorem lab_len {s : Str} (h : labB s = true) : s.length ≤ 7 := by
  unfold labB at h
  simp only [Bool.and_eq_true, decide_eq_true_eq] at h
  omega
def okS (s : api_Step) : Prop := 0 ≤ s.Kind ∧ s.Kind ≤ 7 ∧ s.Label.length ≤ 7 ∧ (s.Kind = 0 → s.Label = [])
theorem step_ok {s : api_Step} (h : stepB s = true) : okS s ∧ 1 ≤ s.Kind := by
  unfold stepB at h
  simp only [Bool.and_eq_true, decide_eq_true_eq] at h
  exact ⟨⟨by omega, h.1.2, lab_len h.2, fun e => by omega⟩, h.1.1⟩
theorem steps_ok : ∀ {p : List api_Step}, stepsB p = true → ∀ s, s ∈ p → okS s
  | x :: p, h, s, hs => by
    unfold stepsB at h
    rw [Bool.and_eq_true] at h
    rcases List.mem_cons.1 hs with rfl | hs
    · exact (step_ok h.1).1
    · exact steps_ok h.2 s hs
theorem book_is {s : api_Step} (h : bookB s = true) : s = ⟨0, []⟩ := by
  obtain ⟨k, l⟩ := s
  unfold bookB at h
  simp only [Bool.and_eq_true, decide_eq_true_eq, beq_iff_eq] at h
  rw [h.1, h.2]
theorem plain_steps {p : List api_Step} (h : plainB p = true) : ∀ s, s ∈ p → okS s := by
  unfold plainB at h
  rw [Bool.and_eq_true] at h
  cases p with
  | nil => intro s hs; cases hs
  | cons x q =>
    rw [bare.eq_2] at h
    intro s hs
    by_cases hb : bookB x = true
    · rw [if_pos hb] at h
      rcases List.mem_cons.1 hs with rfl | hs
      · rw [book_is hb]
        exact ⟨by decide, by decide, by decide, fun _ => rfl⟩
      · exact steps_ok h.2 s hs
    · rw [if_neg hb] at h
      exact steps_ok h.2 s hs
theorem near_steps {p : List api_Step} (h : nearB p = true) : ∀ s, s ∈ p → okS s := by
  cases p with
  | nil => intro s hs; cases hs
  | cons x q =>
    unfold nearB at h
    simp only [Bool.and_eq_true, decide_eq_true_eq, beq_iff_eq] at h
    intro s hs
    rcases List.mem_cons.1 hs with rfl | hs
    · refine ⟨by omega, by omega, ?_, fun e => by omega⟩
      have : s.Label = [] := by simp_all
      rw [this]; simp
    · exact steps_ok (by simp_all) s hs
theorem cite_small {c : api_Cite} (h : citeB c = true) : c.Path.length ≤ 9 ∧ c.To.length ≤ 7 ∧ ∀ s ∈ c.Path, okS s := by
  by_cases h9 : 9 < c.Path.length
  · rw [cite9 h9] at h; cases h
  refine ⟨by omega, ?_⟩
  by_cases h04 : c.Kind = 0 ∨ c.Kind = 4
  · rw [cite04 h9 h04, Bool.and_eq_true] at h
    have : c.To = [] := by simpa using h.1
    exact ⟨by rw [this]; simp, plain_steps h.2⟩
  · by_cases h1 : c.Kind = 1
    · rw [cite1 h9 h1, Bool.and_eq_true, Bool.and_eq_true] at h
      exact ⟨lab_len h.1.2, plain_steps h.1.1⟩
    · by_cases h23 : c.Kind = 2 ∨ c.Kind = 3
      · rw [cite23 h9 h23, Bool.and_eq_true] at h
        have : c.To = [] := by simpa using h.1
        exact ⟨by rw [this]; simp, near_steps h.2⟩
      · rw [citeO h04 h1 h23] at h; cases h
def lastLab (p : List api_Step) : Str := match p.getLast? with
  | some s => s.Label
  | none => []
def tailW (c : api_Cite) : List Str := [pl (lastKind c.Path), lastLab c.Path, toW, c.To]
def wordsB (c : api_Cite) : List Str :=
  if c.Kind = 1 then toldL c.Path.dropLast ++ tailW c
  else if c.Kind = 2 then thisW :: toldL c.Path
  else if c.Kind = 3 then theW :: saidW :: toldL c.Path
  else if c.Kind = 4 then oldW :: toldL c.Path
  else toldL c.Path
theorem toldL_len (p : List api_Step) : (toldL p).length ≤ 2 * p.length := by
  unfold toldL
  induction p with
  | nil => simp
  | cons s p ih =>
    simp only [List.flatMap_cons, List.length_append, List.length_cons]
    have : (toldS s).length ≤ 2 := by unfold toldS; split; · simp
                                      · split <;> simp
    omega
theorem words_c {c : api_Cite} (h : citeB c = true) : M.citation_words c = some (wordsB c) := by
  obtain ⟨h9, hto, hok⟩ := cite_small h
  have hk : ∀ s ∈ c.Path, 0 ≤ s.Kind ∧ s.Kind ≤ 7 := fun s hs => ⟨(hok s hs).1, (hok s hs).2.1⟩
  have ht := told_ok c.Path hk (by omega)
  have hl := toldL_len c.Path
  unfold M.citation_words wordsB
  by_cases h1 : c.Kind = 1
  · rw [if_pos h1, if_pos h1]
    rw [cite1 (by omega) h1, Bool.and_eq_true, Bool.and_eq_true] at h
    obtain ⟨s, hs, hst⟩ := plain_ne h.1.1
    have hmem := List.mem_of_getLast? hs
    obtain ⟨k0, k7⟩ := hk s hmem
    have hpos : 0 < c.Path.length := List.length_pos_iff.2 (fun e => by rw [e] at hs; cases hs)
    have hsl : slcHi c.Path ((c.Path.length : Int) - 1) = some c.Path.dropLast := by
      unfold slcHi
      rw [if_pos (by omega), List.dropLast_eq_take]
      congr 2
      omega
    have hdl := toldL_len c.Path.dropLast
    rw [List.length_dropLast] at hdl
    rw [subC_eq (by omega) (by omega), Option.bind_some, idx_last hs, Option.bind_some, Option.bind_some, hsl, Option.bind_some, told_ok c.Path.dropLast (fun x hx => hk x (mem_dl hx)) (by rw [List.length_dropLast]; omega), Option.bind_some]
    rw [show M.citation_plural = some plL from rfl, Option.bind_some, (pl_idx k0 k7).1, Option.bind_some, appC_eq (by simp; omega), Option.bind_some]
    simp [tailW, lastKind, lastLab, hs, toW]
  · rw [if_neg h1, if_neg h1]
    by_cases h2 : c.Kind = 2
    · rw [if_pos h2, if_pos h2, ht, Option.bind_some, appC_eq (by simp; omega), Option.bind_some]; rfl
    · rw [if_neg h2, if_neg h2]
      by_cases h3 : c.Kind = 3
      · rw [if_pos h3, if_pos h3, ht, Option.bind_some, appC_eq (by simp; omega), Option.bind_some]; rfl
      · rw [if_neg h3, if_neg h3]
        by_cases h4 : c.Kind = 4
        · rw [if_pos h4, if_pos h4, ht, Option.bind_some, appC_eq (by simp; omega), Option.bind_some]; rfl
        · rw [if_neg h4, if_neg h4, ht, Option.bind_some]
theorem total_append (a b : List Str) : total (a ++ b) = total a + total b := by simp [total]
theorem total_cons (a : Str) (b : List Str) : total (a :: b) = a.length + 1 + total b := by simp [total]
theorem toldL_total : ∀ {p : List api_Step}, (∀ s ∈ p, okS s) → total (toldL p) ≤ 20 * p.length
  | [], _ => by simp [toldL, total]
  | x :: p, h => by
    have ih := toldL_total (p := p) fun s hs => h s (List.mem_cons_of_mem _ hs)
    obtain ⟨h1, h2, h3, _⟩ := h x List.mem_cons_self
    have h4 := (sg_idx h1 h2).2
    have : toldL (x :: p) = toldS x ++ toldL p := by simp [toldL]
    rw [this, total_append]
    have h5 : total (toldS x) ≤ 20 := by
      unfold toldS
      split
      · simp [total, bkW]
      · split
        · simp [total]; omega
        · simp [total]; omega
    simp only [List.length_cons]
    omega
theorem words_total {c : api_Cite} (h : citeB c = true) : total (wordsB c) ≤ 300 := by
  obtain ⟨h9, hto, hok⟩ := cite_small h
  have h1 := toldL_total hok
  have h2 := toldL_total (p := c.Path.dropLast) (fun s hs => hok s (mem_dl hs))
  rw [List.length_dropLast] at h2
  unfold wordsB
  split
  · rename_i hk
    rw [cite1 (by omega) hk, Bool.and_eq_true, Bool.and_eq_true] at h
    obtain ⟨s, hs, hst⟩ := plain_ne h.1.1
    obtain ⟨k0, k7, kl, _⟩ := hok s (List.mem_of_getLast? hs)
    have hp := (pl_idx k0 k7).2
    rw [total_append]
    have : total (tailW c) ≤ 60 := by
      simp [tailW, total, lastKind, lastLab, hs, toW]
      omega
    omega
  · split
    · rw [total_cons]; simp [thisW]; omega
    · split
      · rw [total_cons, total_cons]; simp [theW, saidW]; omega
      · split
        · rw [total_cons]; simp [oldW]; omega
        · omega
def fmtC (c : api_Cite) : Str := if citeB c = true then joinS (wordsB c) else []
theorem format_c (c : api_Cite) : To (fun n => M.citation_Format n c) (fmtC c) := by
  simp only [M.citation_Format]
  refine To.bind (cvalid_ok c) ?_
  unfold fmtC
  by_cases h : citeB c = true
  · have := words_total h
    rw [if_pos h]
    exact To.neg (by simp [h]) (To.bindS (words_c h) (To.bindS (join_ok _ (by omega)) To.pure))
  · rw [if_neg h]
    exact To.pos (by simpa using h) To.pure
theorem single_r {k : Int} (h0 : 1 ≤ k) (h1 : k ≤ 7) : idx [([112, 97, 114, 116] : Str), ([115, 101, 99, 116, 105, 111, 110] : Str), ([112, 97, 114, 97, 103, 114, 97, 112, 104] : Str), ([116, 97, 98, 108, 101] : Str), ([114, 111, 119] : Str), ([99, 101, 108, 108] : Str), ([110, 111, 116, 101] : Str)] (k - 1) = some (sg k) := by
  rcases seven h0 h1 with rfl | rfl | rfl | rfl | rfl | rfl | rfl <;> rfl
theorem plural_r {k : Int} (h0 : 1 ≤ k) (h1 : k ≤ 7) : idx [([112, 97, 114, 116, 115] : Str), ([115, 101, 99, 116, 105, 111, 110, 115] : Str), ([112, 97, 114, 97, 103, 114, 97, 112, 104, 115] : Str), ([116, 97, 98, 108, 101, 115] : Str), ([114, 111, 119, 115] : Str), ([] : Str), ([110, 111, 116, 101, 115] : Str)] (k - 1) = some (pl k) := by
  rcases seven h0 h1 with rfl | rfl | rfl | rfl | rfl | rfl | rfl <;> rfl
def rwL (c : api_Cite) : List api_Step → List Str
  | [] => []
  | [s] => if c.Kind = 1 ∧ s.Kind ≠ 0 then [pl s.Kind, s.Label, toW, c.To] else toldS s
  | s :: t :: q => toldS s ++ rwL c (t :: q)
theorem toldS_book {s : api_Step} (hs : okS s) (h : s.Kind = 0) : toldS s = [bkW] := by
  unfold toldS
  rw [if_pos (by simp [bookB, h, hs.2.2.2 h])]
theorem toldS_no {s : api_Step} (h : s.Kind ≠ 0) : bookB s = false := by simp [bookB, h]
theorem rw_loop (c : api_Cite) (h9 : c.Path.length ≤ 9) (hok : ∀ s ∈ c.Path, okS s) : ∀ (xs : List api_Step) (i : Nat) (out : List Str), c.Path.drop i = xs → out.length ≤ 10 + 10 * i → To (fun n => M.r20_Words_loop1 c n out (i : Int)) (out ++ rwL c xs) := by
  intro xs
  induction xs with
  | nil =>
    intro i out hx hl
    refine To.succ ?_
    simp only [M.r20_Words_loop1]
    exact To.neg (drop_end hx) (To.pure.of (by simp [rwL]))
  | cons s q ih =>
    intro i out hx hl
    obtain ⟨h1, h2, h3⟩ := drop_cons hx
    have hs := hok s (List.mem_of_getElem? h2)
    have hq : c.Path.length = i + 1 + q.length := by
      have := congrArg List.length h3
      rw [List.length_drop] at this; omega
    have hadd : addC (i : Int) 1 = some ((i + 1 : Nat) : Int) := addC_succ (by omega)
    refine To.succ ?_
    simp only [M.r20_Words_loop1]
    refine To.pos (drop_lt hx) (To.bindS (drop_idx hx) ?_)
    by_cases h0 : s.Kind = 0
    · refine To.pos h0 (To.bindS (appC_eq (by simp; omega)) ?_)
      rw [cast_succ]
      refine (ih (i + 1) _ h3 (by simp; omega)).of ?_
      have ht := toldS_book hs h0
      cases q with
      | nil => rw [rwL, rwL, if_neg (fun e => e.2 h0), ht]; simp [bkW]
      | cons t q => rw [rwL, ht]; simp [bkW]
    · refine To.neg h0 ?_
      have k1 : 1 ≤ s.Kind := by have := hs.1; omega
      have k7 := hs.2.1
      have hrest : ∀ v1 : Bool, v1 = decide (c.Kind = 1 ∧ q = []) → To (fun n => if v1 = true then
            Option.bind M.r20_Plurals fun plural =>
            Option.bind (subC s.Kind (1 : Int)) fun v3 =>
            Option.bind (idx plural v3) fun v4 =>
            Option.bind (appC out ([v4, s.Label, ([116, 111] : Str), c.To])) fun out6 =>
            Option.bind (addC (i : Int) (1 : Int)) fun v5 =>
            M.r20_Words_loop1 c n out6 v5
          else
            Option.bind M.r20_Singles fun single =>
            Option.bind (subC s.Kind (1 : Int)) fun v6 =>
            Option.bind (idx single v6) fun v7 =>
            Option.bind (appC out [v7]) fun out7 =>
            if (s.Label != ([] : Str)) = true then
              Option.bind (appC out7 [s.Label]) fun out8 =>
              Option.bind (addC (i : Int) (1 : Int)) fun v8 =>
              M.r20_Words_loop1 c n out8 v8
            else
              Option.bind (addC (i : Int) (1 : Int)) fun v9 =>
              M.r20_Words_loop1 c n out7 v9) (out ++ rwL c (s :: q)) := by
        intro v1 hv
        by_cases hlast : c.Kind = 1 ∧ q = []
        · obtain ⟨hk, rfl⟩ := hlast
          refine To.pos (by rw [hv]; simp [hk]) (To.bindS rfl (To.bindS (subC_eq (by omega) (by omega)) (To.bindS (plural_r k1 k7) (To.bindS (appC_eq (by simp; omega)) (To.bindS hadd ?_)))))
          refine (ih (i + 1) _ h3 (by simp; omega)).of ?_
          rw [rwL, rwL, if_pos ⟨hk, h0⟩]; simp [toW]
        · have hr : rwL c (s :: q) = toldS s ++ rwL c q := by
            cases q with
            | nil => rw [rwL, rwL, if_neg (fun e => hlast ⟨e.1, rfl⟩)]; simp
            | cons t q => rw [rwL]
          rw [hr]
          refine To.neg (by rw [hv]; simpa using hlast) (To.bindS rfl (To.bindS (subC_eq (by omega) (by omega)) (To.bindS (single_r k1 k7) (To.bindS (appC_eq (by simp; omega)) ?_))))
          unfold toldS
          rw [if_neg (by rw [toldS_no h0]; simp)]
          by_cases hlb : s.Label = []
          · rw [if_pos hlb]
            refine To.neg (by simp [hlb]) (To.bindS hadd ?_)
            exact (ih (i + 1) _ h3 (by simp; omega)).of (by simp)
          · rw [if_neg hlb]
            refine To.pos (by simpa using hlb) (To.bindS (appC_eq (by simp; omega)) (To.bindS hadd ?_))
            exact (ih (i + 1) _ h3 (by simp; omega)).of (by simp)
      by_cases hk : c.Kind = 1
      · refine To.bind (a := decide ((i : Int) = (c.Path.length : Int) - 1)) (To.pos hk (To.bindS (subC_eq (by omega) (by omega)) To.pure)) (hrest _ ?_)
        have : ((i : Int) = (c.Path.length : Int) - 1) ↔ (c.Kind = 1 ∧ q = []) := by
          constructor
          · intro e
            exact ⟨hk, List.length_eq_zero_iff.1 (by omega)⟩
          · rintro ⟨_, rfl⟩
            simp at hq; omega
        exact decide_eq_decide.2 this
      · refine To.bind (a := false) (To.neg hk To.pure) (hrest _ ?_)
        exact (decide_eq_false (fun e => hk e.1)).symm
theorem rw_plain (c : api_Cite) (hk : c.Kind ≠ 1) : ∀ p : List api_Step, rwL c p = toldL p
  | [] => rfl
  | [s] => by rw [rwL, if_neg (fun e => hk e.1)]; simp [toldL]
  | s :: t :: q => by rw [rwL, rw_plain c hk (t :: q)]; simp [toldL]
theorem rw_range (c : api_Cite) (hk : c.Kind = 1) : ∀ (p : List api_Step) (s : api_Step), p.getLast? = some s → s.Kind ≠ 0 → rwL c p = toldL p.dropLast ++ [pl s.Kind, s.Label, toW, c.To]
  | [], s, h, _ => by cases h
  | [x], s, h, h0 => by
    have : x = s := by simpa using h
    subst this
    rw [rwL, if_pos ⟨hk, h0⟩]; simp [toldL]
  | x :: t :: q, s, h, h0 => by
    rw [List.getLast?_cons_cons] at h
    rw [rwL, rw_range c hk (t :: q) s h h0]
    have : (x :: t :: q).dropLast = x :: (t :: q).dropLast := rfl
    rw [this]
    simp [toldL]
theorem words_r {c : api_Cite} (h : citeB c = true) : To (fun n => M.r20_Words n c) (wordsB c) := by
  obtain ⟨h9, hto, hok⟩ := cite_small h
  have go : ∀ out : List Str, out.length ≤ 10 → To (fun n => M.r20_Words_loop1 c n out (0 : Int)) (out ++ rwL c c.Path) := fun out ho => rw_loop c h9 hok c.Path 0 out rfl (by omega)
  simp only [M.r20_Words]
  by_cases h1 : c.Kind = 1
  · refine To.bind (a := []) (To.neg (by omega) (To.neg (by omega) (To.neg (by omega) To.pure))) (To.bind (go [] (by simp)) (To.pure.of ?_))
    rw [cite1 (by omega) h1, Bool.and_eq_true, Bool.and_eq_true] at h
    obtain ⟨s, hs, hst⟩ := plain_ne h.1.1
    have hk := (step_ok hst).2
    rw [rw_range c h1 c.Path s hs (by omega)]
    unfold wordsB
    rw [if_pos h1]
    simp [tailW, lastKind, lastLab, hs]
  · have hp := rw_plain c h1 c.Path
    by_cases h2 : c.Kind = 2
    · refine To.bind (a := [thisW]) (To.pos h2 (To.bindS (a := [thisW]) rfl To.pure)) (To.bind (go _ (by simp)) (To.pure.of ?_))
      unfold wordsB
      rw [hp, if_neg h1, if_pos h2]; rfl
    · by_cases h3 : c.Kind = 3
      · refine To.bind (a := [theW, saidW]) (To.neg h2 (To.pos h3 (To.bindS (a := [theW, saidW]) rfl To.pure))) (To.bind (go _ (by simp)) (To.pure.of ?_))
        unfold wordsB
        rw [hp, if_neg h1, if_neg h2, if_pos h3]; rfl
      · by_cases h4 : c.Kind = 4
        · refine To.bind (a := [oldW]) (To.neg h2 (To.neg h3 (To.pos h4 (To.bindS (a := [oldW]) rfl To.pure)))) (To.bind (go _ (by simp)) (To.pure.of ?_))
          unfold wordsB
          rw [hp, if_neg h1, if_neg h2, if_neg h3, if_pos h4]; rfl
        · refine To.bind (a := []) (To.neg h2 (To.neg h3 (To.neg h4 To.pure))) (To.bind (go [] (by simp)) (To.pure.of ?_))
          unfold wordsB
          rw [hp, if_neg h1, if_neg h2, if_neg h3, if_neg h4]; rfl
def ex20 : List Str := [([117, 110, 100, 101, 114] : Str), ([115, 101, 99, 116, 105, 111, 110] : Str), ([53] : Str), ([112, 97, 114, 97, 103, 114, 97, 112, 104] : Str), ([50, 44] : Str), ([111, 114] : Str), ([115, 101, 99, 116, 105, 111, 110, 115] : Str), ([54] : Str), ([116, 111] : Str), ([56] : Str)]
def ex1 : api_Cite := ⟨0, [⟨2, [53]⟩, ⟨3, [50]⟩], [], 1, 5⟩
def ex2 : api_Cite := ⟨1, [⟨2, [54]⟩], [56], 6, 10⟩
def ex3 : api_Cite := ⟨3, [⟨2, []⟩], [], 0, 3⟩
theorem exl0 : To (fun n => M.citation_longest n ex20 0) (zapi_Cite, false) := To.far 30 fun m => by kernel_rfl
theorem exl1 : To (fun n => M.citation_longest n ex20 1) (ex1, true) := To.far 30 fun m => by kernel_rfl
theorem exl5 : To (fun n => M.citation_longest n ex20 5) (zapi_Cite, false) := To.far 30 fun m => by kernel_rfl
theorem exl6 : To (fun n => M.citation_longest n ex20 6) (ex2, true) := To.far 30 fun m => by kernel_rfl
theorem exl7 : To (fun n => M.citation_longest n [theW, saidW, [115, 101, 99, 116, 105, 111, 110]] 0) (ex3, true) := To.far 30 fun m => by kernel_rfl
theorem exf7 : To (fun n => M.citation_Format n ex3) [116, 104, 101, 32, 115, 97, 105, 100, 32, 115, 101, 99, 116, 105, 111, 110] := To.far 30 fun m => by kernel_rfl
theorem exscan : To (fun n => M.citation_Scan n ex20) [ex1, ex2] := by
  simp only [M.citation_Scan]
  refine To.bind (a := [ex1, ex2]) ?_ To.pure
  refine To.succ ?_
  simp only [M.citation_Scan_loop1]
  refine To.pos (by decide) (To.bind exl0 (To.pos rfl ?_))
  refine To.succ ?_
  simp only [M.citation_Scan_loop1]
  refine To.pos (by decide) (To.bind exl1 (To.neg (by simp) (To.bindS (a := [ex1]) rfl ?_)))
  refine To.succ ?_
  simp only [M.citation_Scan_loop1]
  refine To.pos (by decide) (To.bind exl5 (To.pos rfl ?_))
  refine To.succ ?_
  simp only [M.citation_Scan_loop1]
  refine To.pos (by decide) (To.bind exl6 (To.neg (by simp) (To.bindS (a := [ex1, ex2]) rfl ?_)))
  refine To.succ ?_
  simp only [M.citation_Scan_loop1]
  exact To.neg (by decide) To.pure
theorem exparse : To (fun n => M.citation_Parse n [116, 104, 101, 32, 115, 97, 105, 100, 32, 115, 101, 99, 116, 105, 111, 110]) (ex3, 0) := by
  simp only [M.citation_Parse]
  refine To.bindS (a := [theW, saidW, [115, 101, 99, 116, 105, 111, 110]]) rfl (To.bind exl7 (To.neg (by simp) (To.neg (by decide) (To.bind exf7 (To.neg (by simp) To.pure)))))
theorem awake20 : To (fun n => M.law20_awake n) true := by
  simp only [M.law20_awake]
  refine To.bind exscan (To.bind exparse (To.bind (a := false) ?_ ?_))
  · exact To.far 1 fun m => rfl
  · exact To.far 1 fun m => rfl
def fits (c : api_Cite) : Prop := c.To.length ≤ 140737488355328 ∧ ∀ s ∈ c.Path, s.Label.length ≤ 140737488355328
theorem wrap64_nat (i : Nat) (h : i ≤ 4611686018427387904) : wrap64 (i : Int) = (i : Int) := by unfold wrap64; omega
theorem wl_cons (x : api_Step) (p : List api_Step) (a : Int) : M.law20_wide_loop1 (x :: p) a = M.law20_wide_loop1 p (wrap64 (a + (x.Label.length : Int))) := rfl
theorem wl_sum (a l q B : Nat) (ha : a + (q + B) ≤ 4611686018427387904) (hx : l ≤ B) : a + l ≤ 4611686018427387904 ∧ a + l + q ≤ 4611686018427387904 := by omega
theorem wide_main (B : Nat) : ∀ (p : List api_Step) (a : Nat), a + p.length * B ≤ 4611686018427387904 → (∀ s ∈ p, s.Label.length ≤ B) → ∃ b : Nat, M.law20_wide_loop1 p (a : Int) = some (b : Int) ∧ a ≤ b ∧ ∀ s ∈ p, s.Label.length ≤ b := by
  intro p
  induction p with
  | nil => intro a _ _; exact ⟨a, rfl, Nat.le_refl _, fun s hs => by cases hs⟩
  | cons x p ih =>
    intro a ha h
    have hx := h x List.mem_cons_self
    rw [List.length_cons, Nat.succ_mul] at ha
    obtain ⟨ha1, ha2⟩ := wl_sum a x.Label.length (p.length * B) B ha hx
    obtain ⟨b, h1, h2, h3⟩ := ih (a + x.Label.length) ha2 (fun s hs => h s (List.mem_cons_of_mem _ hs))
    have hw := wrap64_nat (a + x.Label.length) ha1
    rw [Int.natCast_add] at hw h1
    refine ⟨b, ?_, by clear ha; omega, ?_⟩
    · rw [wl_cons, hw]
      exact h1
    · intro s hs
      rcases List.mem_cons.1 hs with rfl | hs
      · omega
      · exact h3 s hs
theorem wide_sum (B : Nat) (hB : B ≤ 140737488355328) (p : List api_Step) (a : Nat) (hp : p.length ≤ 12) (ha : a ≤ B) (h : ∀ s ∈ p, s.Label.length ≤ B) : ∃ b : Nat, M.law20_wide_loop1 p (a : Int) = some (b : Int) ∧ a ≤ b ∧ ∀ s ∈ p, s.Label.length ≤ b := by
  refine wide_main B p a ?_ h
  have := Nat.mul_le_mul_right B hp
  omega
theorem wide_ok (c : api_Cite) (hf : fits c) : ∃ b, M.law20_wide c = some b ∧ (b = false → c.Path.length ≤ 12 ∧ c.To.length ≤ 300 ∧ ∀ s ∈ c.Path, s.Label.length ≤ 300) := by
  unfold M.law20_wide
  by_cases hl : c.Path.length ≤ 12
  · obtain ⟨b, h1, h2, h3⟩ := wide_sum 140737488355328 (Nat.le_refl _) c.Path c.To.length hl hf.1 hf.2
    rw [h1, Option.bind_some, if_neg (by omega)]
    refine ⟨_, rfl, fun e => ?_⟩
    have : ¬ (300 : Int) < (b : Int) := of_decide_eq_false e
    exact ⟨hl, by omega, fun s hs => by have := h3 s hs; omega⟩
  · have tot : ∀ (p : List api_Step) (a : Int), ∃ r, M.law20_wide_loop1 p a = some r := by
      intro p
      induction p with
      | nil => intro a; exact ⟨a, rfl⟩
      | cons x p ih => intro a; simp only [M.law20_wide_loop1]; exact ih _
    obtain ⟨r, hr⟩ := tot c.Path (c.To.length : Int)
    rw [hr, Option.bind_some, if_pos (by omega)]
    exact ⟨true, rfl, fun e => by cases e⟩
end Go.Proofs.YtnmkblpbmoikpaaDoor
