/-
  The reference's reader, its search at a place and its Scan.
-/
import Derived.Test.YtnmkblpbmoikpaaDoorPg
set_option linter.unusedVariables false
set_option linter.unusedSimpArgs false
namespace Go.Proofs.YtnmkblpbmoikpaaDoor
open Go Go.Dec
def sgR : List Str := [([112, 97, 114, 116] : Str), ([115, 101, 99, 116, 105, 111, 110] : Str), ([112, 97, 114, 97, 103, 114, 97, 112, 104] : Str), ([116, 97, 98, 108, 101] : Str), ([114, 111, 119] : Str), ([99, 101, 108, 108] : Str), ([110, 111, 116, 101] : Str)]
def plR : List Str := [([112, 97, 114, 116, 115] : Str), ([115, 101, 99, 116, 105, 111, 110, 115] : Str), ([112, 97, 114, 97, 103, 114, 97, 112, 104, 115] : Str), ([116, 97, 98, 108, 101, 115] : Str), ([114, 111, 119, 115] : Str), ([] : Str), ([110, 111, 116, 101, 115] : Str)]
theorem kind_r (R : List Str) (s : Str) : To (fun n => M.r20_kind n R s) (kdI ([] :: R) s) := by
  have e0 : kdI ([] :: R) s = if s = [] then 0 else match ixS s R 1 with | some k => k | none => 0 := by
    unfold kdI
    by_cases h : s = []
    · rw [if_pos h, if_pos h]
    · rw [if_neg h, if_neg h, ixS, if_neg (fun e => h e.symm)]
      rfl
  rw [e0]
  have loop : ∀ (xs : List Str) (k : Nat), R.drop k = xs → To (fun n => M.r20_kind_loop1 R s n (k : Int)) (if s = [] then .inl () else match ixS s xs ((k : Int) + 1) with | some j => .inr j | none => .inl ()) := by
    intro xs
    induction xs with
    | nil =>
      intro k hx
      refine To.succ ?_
      simp only [M.r20_kind_loop1]
      exact To.neg (drop_end hx) (To.pure.of (by simp [ixS]))
    | cons x xs ih =>
      intro k hx
      refine To.succ ?_
      simp only [M.r20_kind_loop1]
      refine To.pos (drop_lt hx) ?_
      have ihk := ih (k + 1) (drop_next hx)
      rw [← cast_succ] at ihk
      by_cases h : s = []
      · rw [if_pos h] at ihk ⊢
        exact To.neg (by simp [h]) ihk
      · rw [if_neg h] at ihk ⊢
        refine To.pos (by simpa using h) (To.bindS (drop_idx hx) ?_)
        unfold ixS
        by_cases hx' : x = s
        · rw [if_pos hx']
          exact To.pos (by simp [hx']) To.pure
        · rw [if_neg hx']
          exact To.neg (by simpa using hx') ihk
  simp only [M.r20_kind]
  refine To.bind (loop R 0 rfl) ?_
  by_cases h : s = []
  · rw [if_pos h, if_pos h]; exact To.pure
  · rw [if_neg h, if_neg h]
    show To _ (match ixS s R ((0 : Nat) + 1 : Int) with | some k => k | none => 0)
    cases ixS s R (((0 : Nat) : Int) + 1) with
    | none => exact To.pure
    | some j => exact To.pure
theorem kind_s (s : Str) : To (fun n => M.r20_kind n sgR s) (kdI sgL s) := kind_r sgR s
theorem kind_p (s : Str) : To (fun n => M.r20_kind n plR s) (kdI plL s) := kind_r plR s
def oldX (w : List Str) : Option (Int × api_Cite) :=
  if (0 : Int) < (w.length : Int) then
    Option.bind (idx w (0 : Int)) fun v7 =>
    if (v7 == ([102, 111, 114, 109, 101, 114, 108, 121] : Str)) = true then
      some ((1 : Int), ({ (⟨(0 : Int), ([] : List api_Step), ([] : Str), (0 : Int), (0 : Int)⟩ : api_Cite) with Kind := (4 : Int) } : api_Cite))
    else
      some ((0 : Int), (⟨(0 : Int), ([] : List api_Step), ([] : Str), (0 : Int), (0 : Int)⟩ : api_Cite))
  else
    some ((0 : Int), (⟨(0 : Int), ([] : List api_Step), ([] : Str), (0 : Int), (0 : Int)⟩ : api_Cite))
def theX (n : Nat) (w : List Str) : Option (Int × api_Cite) :=
  if (2 : Int) < (w.length : Int) then
    Option.bind (idx w (0 : Int)) fun v3 =>
    if (v3 == ([116, 104, 101] : Str)) = true then
      Option.bind (idx w (1 : Int)) fun v4 =>
      if (v4 == ([115, 97, 105, 100] : Str)) = true then
        Option.bind M.r20_Singles fun single2 =>
        Option.bind (idx w (2 : Int)) fun v5 =>
        Option.bind (M.r20_kind n single2 v5) fun kind2 =>
        if (0 : Int) < kind2 then
          Option.bind M.r20_Singles fun single3 =>
          Option.bind (idx w (2 : Int)) fun v6 =>
          Option.bind (M.r20_kind n single3 v6) fun kind3 =>
          some ((3 : Int), ({ ({ (⟨(0 : Int), ([] : List api_Step), ([] : Str), (0 : Int), (0 : Int)⟩ : api_Cite) with Kind := (3 : Int) } : api_Cite) with Path := [(⟨kind3, ([] : Str)⟩ : api_Step)] } : api_Cite))
        else
          oldX w
      else
        oldX w
    else
      oldX w
  else
    oldX w
def thisX (n : Nat) (w : List Str) : Option (Int × api_Cite) :=
  if (1 : Int) < (w.length : Int) then
    Option.bind (idx w (0 : Int)) fun v =>
    if (v == ([116, 104, 105, 115] : Str)) = true then
      Option.bind M.r20_Singles fun single =>
      Option.bind (idx w (1 : Int)) fun v1 =>
      Option.bind (M.r20_kind n single v1) fun kind =>
      if (0 : Int) < kind then
        Option.bind M.r20_Singles fun single1 =>
        Option.bind (idx w (1 : Int)) fun v2 =>
        Option.bind (M.r20_kind n single1 v2) fun kind1 =>
        some ((2 : Int), ({ ({ (⟨(0 : Int), ([] : List api_Step), ([] : Str), (0 : Int), (0 : Int)⟩ : api_Cite) with Kind := (2 : Int) } : api_Cite) with Path := [(⟨kind1, ([] : Str)⟩ : api_Step)] } : api_Cite))
      else
        theX n w
    else
      theX n w
  else
    theX n w
def hdT (h : Int × List api_Step × Nat) : Int × api_Cite := ((h.2.2 : Int), ⟨h.1, h.2.1, [], 0, 0⟩)
theorem old_t (w : List Str) : To (fun _ => oldX w) (hdT (if w[0]? = some oldW then (4, [], 1) else (0, [], 0))) := by
  cases w with
  | nil => exact To.pure
  | cons a w =>
    simp only [oldX]
    refine To.pos (by rw [List.length_cons]; omega) (To.bindS idx_zero ?_)
    by_cases h : a = oldW
    · subst h
      exact To.pos rfl (To.pure.of (by rw [if_pos (by rfl)]; rfl))
    · exact To.neg (by simpa [oldW] using h) (To.pure.of (by rw [if_neg (show ¬ ((a :: w)[0]? = some oldW) from fun e => h (Option.some.inj e))]; rfl))
theorem idx1 {α : Type} {a b : α} {l : List α} : idx (a :: b :: l) (1 : Int) = some b := by simp [idx]
theorem idx2 {α : Type} {a b c : α} {l : List α} : idx (a :: b :: c :: l) (2 : Int) = some c := by simp [idx]
theorem kd_pos (s : Str) : isK sgL s = true ↔ 0 < kdI sgL s := by unfold isK; exact decide_eq_true_iff
theorem the_t (w : List Str) : To (fun n => theX n w) (hdT (if w[0]? = some theW ∧ w[1]? = some saidW ∧ isKo w[2]? = true then (3, [⟨kdI sgL ((w[2]?).getD []), []⟩], 3) else if w[0]? = some oldW then (4, [], 1) else (0, [], 0))) := by
  have ho := old_t w
  simp only [theX]
  by_cases hl : 2 < w.length
  · match w, hl with
    | a :: b :: c :: w, _ =>
      refine To.pos (by simp; omega) (To.bindS idx_zero ?_)
      by_cases h1 : a = theW
      · refine To.pos (by rw [h1]; rfl) (To.bindS idx1 ?_)
        by_cases h2 : b = saidW
        · refine To.pos (by rw [h2]; rfl) (To.bindS (a := sgR) rfl (To.bindS idx2 (To.bind (kind_s c) ?_)))
          by_cases h3 : 0 < kdI sgL c
          · rw [if_pos ⟨by rw [h1]; rfl, by rw [h2]; rfl, (kd_pos c).2 h3⟩]
            exact To.pos h3 (To.bindS (a := sgR) rfl (To.bindS idx2 (To.bind (kind_s c) To.pure)))
          · rw [if_neg (fun e => h3 ((kd_pos c).1 e.2.2))]
            exact To.neg h3 ho
        · rw [if_neg (fun e => h2 (Option.some.inj e.2.1))]
          exact To.neg (by simpa [saidW] using h2) ho
      · rw [if_neg (fun e => h1 (Option.some.inj e.1))]
        exact To.neg (by simpa [theW] using h1) ho
  · have : w[2]? = none := List.getElem?_eq_none (by omega)
    rw [if_neg (by rw [this]; rintro ⟨_, _, e⟩; cases e)]
    exact To.neg (by omega) ho
theorem this_t (w : List Str) : To (fun n => thisX n w) (hdT (rdH w)) := by
  have ht := the_t w
  unfold rdH
  simp only [thisX]
  by_cases hl : 1 < w.length
  · match w, hl with
    | a :: b :: w, _ =>
      refine To.pos (by simp; omega) (To.bindS idx_zero ?_)
      by_cases h1 : a = thisW
      · refine To.pos (by rw [h1]; rfl) (To.bindS (a := sgR) rfl (To.bindS idx1 (To.bind (kind_s b) ?_)))
        by_cases h3 : 0 < kdI sgL b
        · rw [if_pos ⟨by rw [h1]; rfl, (kd_pos b).2 h3⟩]
          exact To.pos h3 (To.bindS (a := sgR) rfl (To.bindS idx1 (To.bind (kind_s b) To.pure)))
        · rw [if_neg (fun e => h3 ((kd_pos b).1 e.2))]
          exact To.neg h3 ht
      · rw [if_neg (fun e => h1 (Option.some.inj e.1))]
        exact To.neg (by simpa [thisW] using h1) ht
  · have : w[1]? = none := List.getElem?_eq_none (by omega)
    rw [if_neg (by rw [this]; rintro ⟨_, e⟩; cases e)]
    exact To.neg (by omega) ht
theorem rdH_le (w : List Str) : (rdH w).2.2 ≤ w.length ∧ (rdH w).2.1.length ≤ 1 := by
  unfold rdH
  split
  · rename_i h
    have : w[1]? ≠ none := fun e => by rw [e] at h; cases h.2
    have := Nat.lt_of_not_le fun hle => this (List.getElem?_eq_none hle)
    exact ⟨by show 2 ≤ w.length; omega, by simp⟩
  · split
    · rename_i h
      have : w[2]? ≠ none := fun e => by rw [e] at h; cases h.2.2
      have := Nat.lt_of_not_le fun hle => this (List.getElem?_eq_none hle)
      exact ⟨by show 3 ≤ w.length; omega, by simp⟩
    · split
      · rename_i h
        have := (List.getElem?_eq_some_iff.1 h).1
        exact ⟨by show 1 ≤ w.length; omega, by simp⟩
      · exact ⟨Nat.zero_le _, by simp⟩
theorem rdB_le (w : List Str) : (rdB w (rdH w)).2 ≤ w.length ∧ (rdB w (rdH w)).1.length ≤ 2 := by
  have h := rdH_le w
  unfold rdB
  split
  · rename_i hc
    have := (List.getElem?_eq_some_iff.1 hc.2).1
    exact ⟨by show (rdH w).2.2 + 1 ≤ _; omega, by simp; omega⟩
  · exact ⟨h.1, by omega⟩
theorem read_loop {w : List Str} (hw : w.length ≤ 1000000) : ∀ (m i : Nat) (c : api_Cite), w.length ≤ i + m → i ≤ w.length → c.Path.length ≤ i + 2 →
    To (fun n => M.r20_Read_loop1 w n (i : Int) c) (((w.length - (rdSteps (w.drop i)).2.length : Nat) : Int), { c with Path := c.Path ++ (rdSteps (w.drop i)).1 }) := by
  intro m
  induction m with
  | zero =>
    intro i c h1 h2 h3
    have hd : w.drop i = [] := List.drop_eq_nil_of_le (by omega)
    rw [hd]
    refine To.succ ?_
    simp only [M.r20_Read_loop1]
    refine To.bindS (addC_succ (by omega)) (To.neg (by omega) (To.pure.of ?_))
    simp [rdSteps]
    omega
  | succ m ih =>
    intro i c h1 h2 h3
    refine To.succ ?_
    simp only [M.r20_Read_loop1]
    refine To.bindS (addC_succ (by omega)) ?_
    by_cases hl : i + 1 < w.length
    · refine To.pos (by omega) ?_
      have ha : i < w.length := by omega
      have hda : w.drop i = w[i] :: w[i + 1] :: w.drop (i + 2) := by
        rw [List.drop_eq_getElem_cons ha, List.drop_eq_getElem_cons hl]
      have hia : idx w (i : Int) = some w[i] := by rw [idx_nat]; exact List.getElem?_eq_getElem ha
      have hib : idx w ((i + 1 : Nat) : Int) = some w[i + 1] := by rw [idx_nat]; exact List.getElem?_eq_getElem hl
      rw [hda, rdSteps]
      refine To.bindS (a := sgR) rfl (To.bindS hia (To.bind (kind_s _) ?_))
      by_cases hk : isK sgL w[i] = true
      · rw [if_pos hk]
        have hadd2 : addC (i : Int) 2 = some ((i + 2 : Nat) : Int) := by rw [addC_eq (by omega) (by omega)]; simp
        refine To.pos ((kd_pos _).1 hk) (To.bindS (a := sgR) rfl (To.bindS hia (To.bind (kind_s _) (To.bindS (addC_succ (by omega)) (To.bindS hib (To.bindS (appC_eq (by simp; omega)) (To.bindS hadd2 ?_)))))))
        refine (ih (i + 2) _ (by omega) (by omega) (by simp; omega)).of ?_
        simp
      · rw [if_neg hk]
        refine To.neg (fun e => hk ((kd_pos _).2 e)) (To.pure.of ?_)
        have : (w[i] :: w[i + 1] :: w.drop (i + 2)).length = w.length - i := by rw [← hda, List.length_drop]
        simp only [this, List.append_nil]
        congr 2
        omega
    · refine To.neg (by omega) (To.pure.of ?_)
      have hs : rdSteps (w.drop i) = ([], w.drop i) := by
        have hlen : (w.drop i).length ≤ 1 := by rw [List.length_drop]; omega
        match w.drop i, hlen with
        | [], _ => rfl
        | [a], _ => rfl
      rw [hs]
      simp only [List.length_drop, List.append_nil]
      congr 2
      omega
theorem rdSteps_le : ∀ (n : Nat) (v : List Str), v.length ≤ n → (rdSteps v).2.length + 2 * (rdSteps v).1.length = v.length ∧ ∀ k, v.drop (v.length - (rdSteps v).2.length) = (rdSteps v).2 ∨ k = 0
  | _, [], _ => ⟨rfl, fun _ => .inl rfl⟩
  | _, [a], _ => ⟨rfl, fun _ => .inl rfl⟩
  | 0, a :: b :: w, h => by simp at h
  | n + 1, a :: b :: w, hl => by
    rw [rdSteps]
    by_cases hk : isK sgL a = true
    · rw [if_pos hk]
      obtain ⟨h1, h2⟩ := rdSteps_le n w (by simp at hl; omega)
      refine ⟨by simp; omega, fun k => ?_⟩
      rcases h2 k with h2 | h2
      · left
        have : (a :: b :: w).length - (rdSteps w).2.length = (w.length - (rdSteps w).2.length) + 2 := by simp; omega
        show (a :: b :: w).drop ((a :: b :: w).length - (rdSteps w).2.length) = _
        rw [this]
        exact h2
      · exact .inr h2
    · rw [if_neg hk]
      exact ⟨by simp, fun _ => .inl (by simp)⟩
theorem rdSteps_drop (v : List Str) : v.drop (v.length - (rdSteps v).2.length) = (rdSteps v).2 := by
  rcases (rdSteps_le v.length v (Nat.le_refl _)).2 1 with h | h
  · exact h
  · cases h
def readT (w : List Str) : api_Cite × Bool := match rdF w with
  | some c => (c, true)
  | none => (zapi_Cite, false)
theorem rdE_len (k : Int) (p : List api_Step) (r : List Str) : (rdE k p r).2.length ≤ r.length := by
  rcases rdE_cases k p r with ⟨a, b, d, rfl, _, _, e⟩ | e
  · rw [e]; simp
  · rw [e]; exact Nat.le_refl _
theorem mem_steps : ∀ (n : Nat) (v : List Str), v.length ≤ n → ∀ s ∈ (rdSteps v).1, s.Label ∈ v
  | _, [], _, s, h => by cases h
  | _, [a], _, s, h => by cases h
  | 0, a :: b :: w, h, _, _ => by simp at h
  | n + 1, a :: b :: w, hl, s, h => by
    rw [rdSteps] at h
    by_cases hk : isK sgL a = true
    · rw [if_pos hk] at h
      rcases List.mem_cons.1 h with rfl | h
      · simp
      · have := mem_steps n w (by simp at hl; omega) s h
        simp [this]
    · rw [if_neg hk] at h; cases h
theorem rdH_small (w : List Str) : small (rdH w).2.1 := by
  unfold rdH
  intro y hy
  split at hy
  · rw [List.mem_singleton.1 hy]; simp
  · split at hy
    · rw [List.mem_singleton.1 hy]; simp
    · split at hy <;> cases hy
theorem rdB_small (w : List Str) : small (rdB w (rdH w)).1 := by
  unfold rdB
  intro y hy
  split at hy
  · rcases List.mem_append.1 hy with hy | hy
    · exact rdH_small w y hy
    · rw [List.mem_singleton.1 hy]; simp
  · exact rdH_small w y hy
theorem rdZ_small {w : List Str} (hw : Fine w) : small (rdZ w).1.Path ∧ (rdZ w).1.To.length ≤ 1000000000 := by
  have hd : ∀ v ∈ w.drop (rdB w (rdH w)).2, v.length ≤ 1000000 := fun v hv => hw.2 v ((List.drop_sublist _ _).subset hv)
  generalize hv : w.drop (rdB w (rdH w)).2 = v at hd
  have hs : small ((rdB w (rdH w)).1 ++ (rdSteps v).1) := fun y hy => by
    rcases List.mem_append.1 hy with hy | hy
    · exact rdB_small w y hy
    · have := hd _ (mem_steps _ v (Nat.le_refl _) y hy)
      omega
  have hr : ∀ x ∈ (rdSteps v).2, x.length ≤ 1000000 := fun x hx => hd x (by
    rw [← rdSteps_drop v] at hx
    exact (List.drop_sublist _ _).subset hx)
  unfold rdZ
  rw [hv]
  rcases rdE_cases (rdH w).1 ((rdB w (rdH w)).1 ++ (rdSteps v).1) (rdSteps v).2 with ⟨a, b, d, he, _, _, e⟩ | e
  · rw [e]
    rw [he] at hr
    refine ⟨fun y hy => ?_, by have := hr d (by simp); show d.length ≤ _; omega⟩
    rcases List.mem_append.1 hy with hy | hy
    · exact hs y hy
    · rw [List.mem_singleton.1 hy]
      have := hr b (by simp)
      show b.length ≤ _
      omega
  · rw [e]
    exact ⟨hs, by simp⟩
theorem read_t {w : List Str} (hw : Fine w) : To (fun n => M.r20_Read n w) (readT w) := by
  have hlen := hw.1
  have hB := rdB_le w
  have hH := rdH_le w
  simp only [M.r20_Read]
  refine To.bind (a := hdT (rdH w)) (this_t w) ?_
  simp only [hdT]
  refine To.bind (a := (((rdB w (rdH w)).2 : Int), (⟨(rdH w).1, (rdB w (rdH w)).1, [], 0, 0⟩ : api_Cite))) ?_ ?_
  · generalize rdH w = h at hH ⊢
    obtain ⟨k, p, i⟩ := h
    simp only at hH ⊢
    unfold rdB
    simp only
    by_cases hk : k ≠ 2 ∧ k ≠ 3
    · by_cases hi : i < w.length
      · have hidx : idx w (i : Int) = some w[i] := by rw [idx_nat]; exact List.getElem?_eq_getElem hi
        refine To.bind (a := w[i] == bkW) (To.pos hk.1 (To.pos hk.2 (To.pos (by omega) (To.bindS hidx To.pure)))) ?_
        by_cases hb : w[i] = bkW
        · have hbt : (w[i] == bkW) = true := by rw [hb]; rfl
          have hap : appC p [(⟨0, []⟩ : api_Step)] = some (p ++ [⟨0, []⟩]) := appC_eq (by simp; omega)
          have hadd : addC (i : Int) 1 = some ((i + 1 : Nat) : Int) := addC_succ (by omega)
          exact To.pos hbt (To.bindS hap (To.bindS hadd (To.pure.of (by rw [if_pos ⟨hk, by rw [List.getElem?_eq_getElem hi, hb]⟩]))))
        · exact To.neg (by simpa using hb) (To.pure.of (by rw [if_neg (by rw [List.getElem?_eq_getElem hi]; exact fun e => hb (Option.some.inj e.2))]))
      · exact To.bind (a := false) (To.pos hk.1 (To.pos hk.2 (To.neg (by omega) To.pure))) (To.neg (by simp) (To.pure.of (by rw [if_neg (by rw [List.getElem?_eq_none (by omega)]; rintro ⟨_, e⟩; cases e)])))
    · refine To.bind (a := false) ?_ (To.neg (by simp) (To.pure.of (by rw [if_neg (fun e => hk e.1)])))
      by_cases h2 : k = 2
      · exact To.neg (by simpa using h2) To.pure
      · have h3 : k = 3 := by omega
        exact To.pos h2 (To.neg (by simpa using h3) To.pure)
  · refine To.bind (read_loop hlen w.length _ _ (by omega) hB.1 (by simp; omega)) ?_
    have hz0 : rdZ w = rdE (rdH w).1 ((rdB w (rdH w)).1 ++ (rdSteps (w.drop (rdB w (rdH w)).2)).1) (rdSteps (w.drop (rdB w (rdH w)).2)).2 := rfl
    have hsm := rdZ_small hw
    have hF : readT w = if (rdZ w).2 = [] ∧ citeB (rdZ w).1 = true then ((rdZ w).1, true) else (zapi_Cite, false) := by
      unfold readT rdF
      by_cases h : (rdZ w).2 = [] ∧ citeB (rdZ w).1 = true
      · rw [if_pos h, if_pos h]
      · rw [if_neg h, if_neg h]
    have hsd := rdSteps_drop (w.drop (rdB w (rdH w)).2)
    have hsl := (rdSteps_le _ (w.drop (rdB w (rdH w)).2) (Nat.le_refl _)).1
    rw [List.length_drop] at hsd hsl
    have hpl : ((rdB w (rdH w)).1 ++ (rdSteps (w.drop (rdB w (rdH w)).2)).1).length ≤ 2000000 := by
      rw [List.length_append]; omega
    simp only
    generalize (rdB w (rdH w)).1 ++ (rdSteps (w.drop (rdB w (rdH w)).2)).1 = p at hz0 hpl ⊢
    generalize hr : (rdSteps (w.drop (rdB w (rdH w)).2)).2 = r at hz0 hsd hsl ⊢
    have hrl : r.length ≤ w.length := by omega
    have hat : ∀ k : Nat, w[w.length - r.length + k]? = r[k]? := fun k => by
      have h1 : r[k]? = (List.drop (w.length - (rdB w (rdH w)).2 - r.length) (List.drop (rdB w (rdH w)).2 w))[k]? := by rw [hsd]
      rw [h1, List.getElem?_drop, List.getElem?_drop]
      congr 1
      omega
    have fin : To (fun n => if ((w.length - (rdZ w).2.length : Nat) : Int) ≠ (w.length : Int) then
            some ((⟨(0 : Int), ([] : List api_Step), ([] : Str), (0 : Int), (0 : Int)⟩ : api_Cite), false)
          else
            Option.bind (M.r20_May n (rdZ w).1) fun may =>
            if may = false then
              some ((⟨(0 : Int), ([] : List api_Step), ([] : Str), (0 : Int), (0 : Int)⟩ : api_Cite), false)
            else
              some ((rdZ w).1, true)) (readT w) := by
      have hzl : (rdZ w).2.length ≤ w.length := by
        rw [hz0]
        exact Nat.le_trans (rdE_len _ _ _) hrl
      rw [hF]
      by_cases h1 : (rdZ w).2 = []
      · have hl0 : (rdZ w).2.length = 0 := by rw [h1]; rfl
        refine To.neg (by rw [hl0]; simp) (To.bind (cmay_ok (rdZ w).1 hsm.1 hsm.2) ?_)
        by_cases h2 : citeB (rdZ w).1 = true
        · exact To.neg (by simp [h2]) (To.pure.of (by rw [if_pos ⟨h1, h2⟩]))
        · exact To.pos (by simpa using h2) (To.pure.of (by rw [if_neg (fun e => h2 e.2)]; rfl))
      · have := List.length_pos_iff.2 h1
        exact To.pos (by omega) (To.pure.of (by rw [if_neg (fun e => h1 e.1)]; rfl))
    refine To.bind (a := (((w.length - (rdZ w).2.length : Nat) : Int), (rdZ w).1)) ?_ fin
    have hadd : ∀ k : Nat, k ≤ 10 → addC ((w.length - r.length : Nat) : Int) (k : Int) = some ((w.length - r.length + k : Nat) : Int) := fun k hk => by
      rw [addC_eq (by omega) (by omega)]; simp
    rw [hz0]
    generalize (rdH w).1 = k
    by_cases hk : k = 0
    · refine To.pos hk (To.bindS (hadd 4 (by decide)) ?_)
      by_cases h4 : r.length = 4
      · refine To.pos (by omega) ?_
        match r, h4 with
        | [a, b, t, d], _ =>
          have i0 : idx w ((w.length - [a, b, t, d].length : Nat) : Int) = some a := by rw [idx_nat]; have := hat 0; simpa using this
          have i1 : idx w ((w.length - [a, b, t, d].length + 1 : Nat) : Int) = some b := by rw [idx_nat]; exact hat 1
          have i2 : idx w ((w.length - [a, b, t, d].length + 2 : Nat) : Int) = some t := by rw [idx_nat]; exact hat 2
          have i3 : idx w ((w.length - [a, b, t, d].length + 3 : Nat) : Int) = some d := by rw [idx_nat]; exact hat 3
          refine To.bindS (a := plR) rfl (To.bindS i0 (To.bind (kind_p a) ?_))
          unfold rdE
          simp only
          by_cases hka : 0 < kdI plL a
          · refine To.pos hka (To.bindS (hadd 2 (by decide)) (To.bindS i2 ?_))
            by_cases ht : t = toW
            · rw [if_pos ⟨hk, by unfold isK; exact decide_eq_true hka, ht⟩]
              refine To.pos (by rw [ht]; rfl) (To.bindS (a := plR) rfl (To.bindS i0 (To.bind (kind_p a) (To.bindS (hadd 1 (by decide)) (To.bindS i1 (To.bindS (appC_eq (by simp; omega)) (To.bindS (hadd 3 (by decide)) (To.bindS i3 (To.bindS (hadd 4 (by decide)) (To.pure.of ?_))))))))))
              simp at hrl
              simp
              omega
            · rw [if_neg (fun e => ht e.2.2)]
              exact To.neg (by simpa [toW] using ht) To.pure
          · rw [if_neg (fun e => hka (by have := e.2.1; unfold isK at this; exact of_decide_eq_true this))]
            exact To.neg hka To.pure
      · refine To.neg (by omega) (To.pure.of ?_)
        rcases rdE_cases k p r with ⟨a, b, d, rfl, _⟩ | e
        · exact absurd rfl h4
        · rw [e]
    · refine To.neg hk (To.pure.of ?_)
      rcases rdE_cases k p r with ⟨_, _, _, _, e, _⟩ | e
      · exact absurd e hk
      · rw [e]
end Go.Proofs.YtnmkblpbmoikpaaDoor
