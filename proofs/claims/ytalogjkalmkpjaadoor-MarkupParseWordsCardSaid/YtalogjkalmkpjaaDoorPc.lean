/-
  Rows of tracked words: the program's text; texts read back.
-/
import Derived.Test.YtalogjkalmkpjaaDoorPb
set_option linter.unusedVariables false
set_option linter.unusedSimpArgs false
namespace Go.Proofs.YtalogjkalmkpjaaDoor
open Go Go.Dec
def oneR (s : Int) (acc : List Str) : Str := opS s ++ (joinS acc ++ shS s)
def runsG : Int → List Str → List TW → List Str
  | s, acc, [] => [oneR s acc]
  | s, acc, w :: l => if w.State = s then runsG s (acc ++ [esc w.Text]) l else oneR s acc :: runsG w.State [esc w.Text] l
def runsF : List TW → List Str
  | [] => []
  | w :: l => runsG w.State [esc w.Text] l
theorem joinS_snoc (acc : List Str) (x : Str) (h : acc ≠ []) : joinS (acc ++ [x]) = joinS acc ++ (32 :: x) := by
  cases acc with
  | nil => exact absurd rfl h
  | cons a l => simp [joinS, tailS]
theorem joinS_cons (x : Str) (l : List Str) (h : l ≠ []) : joinS (x :: l) = x ++ (32 :: joinS l) := by
  cases l with
  | nil => exact absurd rfl h
  | cons a l => simp [joinS, tailS]
theorem runsG_ne : ∀ (xs : List TW) (s : Int) (acc : List Str), runsG s acc xs ≠ []
  | [], s, acc => by simp [runsG]
  | w :: l, s, acc => by
    unfold runsG
    split
    · exact runsG_ne l _ _
    · simp
theorem runs_text : ∀ (xs : List TW) (s : Int) (acc : List Str), acc ≠ [] →
    joinS (runsG s acc xs) = opS s ++ (joinS acc ++ ((if lastB s xs = true then shS s else []) ++ rowT (some s) xs))
  | [], s, acc, h => by simp [runsG, oneR, joinS, tailS, lastB, rowT]
  | w :: l, s, acc, h => by
    unfold runsG
    by_cases hw : w.State = s
    · rw [if_pos hw, runs_text l s _ (by simp), joinS_snoc _ _ h]
      subst hw
      simp [lastB, rowT]
    · have hw' : ¬ s = w.State := fun e => hw e.symm
      rw [if_neg hw, joinS_cons _ _ (runsG_ne _ _ _), runs_text l _ _ (by simp)]
      simp [lastB, hw, rowT, hw', oneR, joinS, tailS]
theorem runs_row (l : List TW) : joinS (runsF l) = rowT none l := by
  cases l with
  | nil => rfl
  | cons w l =>
    unfold runsF
    rw [runs_text l _ _ (by simp)]
    simp [rowT, joinS, tailS]
theorem joinS_len (l : List Str) : (joinS l).length ≤ total l := by
  cases l with
  | nil => simp [joinS]
  | cons a l =>
    have := tail_len l
    have e : total (a :: l) = a.length + 1 + total l := rfl
    simp only [joinS, List.length_append]
    omega
theorem oneR_len (s : Int) (acc : List Str) : (oneR s acc).length ≤ total acc + 6 := by
  have h1 := opS_len s; have h2 := shS_len s; have h3 := joinS_len acc
  simp only [oneR, List.length_append]
  omega
theorem total_app (a b : List Str) : total (a ++ b) = total a + total b := by simp [total]
theorem total_cons (a : Str) (b : List Str) : total (a :: b) = a.length + 1 + total b := rfl
theorem runs_total : ∀ (xs : List TW) (s : Int) (acc : List Str), xs.all stB = true → total (runsG s acc xs) ≤ total acc + 7 + 40 * xs.length
  | [], s, acc, _ => by
    have := oneR_len s acc
    simp only [runsG, total_cons, show total ([] : List Str) = 0 from rfl, List.length_nil]
    omega
  | w :: l, s, acc, h => by
    rw [List.all_cons, Bool.and_eq_true] at h
    have hw := word_len (stB_iff.1 h.1).1
    have he := esc_len w.Text
    have h1 := oneR_len s acc
    unfold runsG
    split
    · have := runs_total l s (acc ++ [esc w.Text]) h.2
      rw [total_app, total_cons] at this
      simp only [show total ([] : List Str) = 0 from rfl, List.length_cons] at this ⊢
      omega
    · have := runs_total l w.State [esc w.Text] h.2
      rw [total_cons] at this
      simp only [show total ([] : List Str) = 0 from rfl] at this
      rw [total_cons]
      simp only [List.length_cons]
      omega
theorem runs_split (s : Int) : ∀ (xs : List TW) (acc : List Str), runsG s acc xs = oneR s (acc ++ (xs.takeWhile fun w => decide (w.State = s)).map fun w => esc w.Text) :: runsF (xs.dropWhile fun w => decide (w.State = s))
  | [], acc => by simp [runsG, runsF]
  | w :: l, acc => by
    unfold runsG
    by_cases hw : w.State = s
    · rw [if_pos hw, runs_split s l]
      simp [hw]
    · rw [if_neg hw]
      simp [hw, runsF]
theorem inner_ok (l : List TW) (hl : l.all stB = true) (hn : l.length ≤ 512) (from0 : Nat) (w0 : TW) (h0 : l[from0]? = some w0) : ∀ (xs : List TW) (i : Nat) (acc : List Str), l.drop i = xs → acc.length ≤ i →
    To (fun n => M.markup_runs_i0_loop2 l (from0 : Int) n (i : Int) acc) (((i + (xs.takeWhile fun w => decide (w.State = w0.State)).length : Nat) : Int), acc ++ (xs.takeWhile fun w => decide (w.State = w0.State)).map fun w => esc w.Text)
  | [], i, acc, hx, ha => by
    refine To.succ ?_
    simp only [M.markup_runs_i0_loop2]
    exact To.neg (drop_end hx) (To.pure.of (by simp))
  | w :: xs, i, acc, hx, ha => by
    have hw := word_len (stB_iff.1 (List.all_eq_true.1 hl w (List.mem_of_getElem? (drop_cons hx).2.1))).1
    have hlt := (drop_cons hx).1
    refine To.succ ?_
    simp only [M.markup_runs_i0_loop2]
    refine To.pos (drop_lt hx) (To.bindS (drop_idx hx) (To.bindS (show idx l (from0 : Int) = some w0 by rw [idx_nat, h0]) ?_))
    by_cases hs : w.State = w0.State
    · refine To.pos hs (To.bindS (drop_idx hx) (To.bindS (escape_ok w.Text (by intro e; rw [e] at hw; simp at hw) (by omega)) (To.bindS (appC_eq (by simp; omega)) ?_)))
      rw [cast_succ]
      refine (inner_ok l hl hn from0 w0 h0 xs (i + 1) _ (drop_next hx) (by simp; omega)).of ?_
      simp [hs]; omega
    · refine To.neg hs (To.pure.of ?_)
      simp [hs]
theorem one_ok {s : Int} (h0 : 0 ≤ s) (h2 : s ≤ 2) (words : List Str) (c : List Str) (hw : total words ≤ 100000) (hc : c.length ≤ 100000) : M.markup_FormatWords_1 s words c = some (c ++ [oneR s words]) := by
  have h1 := opS_len s; have h3 := shS_len s; have h4 := joinS_len words
  simp only [M.markup_FormatWords_1]
  rw [op_at h0 h2, Option.bind_some, join_ok _ (by omega), Option.bind_some, catC_eq (by omega), Option.bind_some, sh_at h0 h2, Option.bind_some, catC_eq (by simp; omega), Option.bind_some, appC_eq (by simp; omega), Option.bind_some]
  simp [oneR]
theorem tw_total : ∀ (xs : List TW) (p : TW → Bool), xs.all stB = true → total ((xs.takeWhile p).map fun w => esc w.Text) ≤ 26 * xs.length
  | [], p, _ => by simp [total]
  | w :: l, p, h => by
    rw [List.all_cons, Bool.and_eq_true] at h
    have hw := word_len (stB_iff.1 h.1).1
    have he := esc_len w.Text
    have ih := tw_total l p h.2
    by_cases hp : p w = true
    · rw [List.takeWhile_cons_of_pos hp, List.map_cons, total_cons, List.length_cons]
      omega
    · rw [List.takeWhile_cons_of_neg hp]
      simp [total]
theorem tw_len {α : Type} (p : α → Bool) (xs : List α) : xs.drop (xs.takeWhile p).length = xs.dropWhile p := by
  induction xs with
  | nil => rfl
  | cons x xs ih =>
    by_cases hp : p x = true
    · rw [List.takeWhile_cons_of_pos hp, List.dropWhile_cons_of_pos hp, List.length_cons, List.drop_succ_cons, ih]
    · rw [List.takeWhile_cons_of_neg hp, List.dropWhile_cons_of_neg hp]; rfl
theorem outer_ok (l : List TW) (hl : l.all stB = true) (hn : l.length ≤ 512) : ∀ (m : Nat) (xs : List TW) (i : Nat) (v : List Str), xs.length ≤ m → l.drop i = xs → v.length ≤ i →
    To (fun n => M.markup_runs_i0_loop1 l n (i : Int) v) (v ++ runsF xs) := by
  intro m
  induction m with
  | zero =>
    intro xs i v hm hx hv
    obtain rfl : xs = [] := List.eq_nil_of_length_eq_zero (by omega)
    refine To.succ ?_
    simp only [M.markup_runs_i0_loop1]
    exact To.neg (drop_end hx) (To.pure.of (by simp [runsF]))
  | succ m ih =>
    intro xs i v hm hx hv
    cases xs with
    | nil =>
      refine To.succ ?_
      simp only [M.markup_runs_i0_loop1]
      exact To.neg (drop_end hx) (To.pure.of (by simp [runsF]))
    | cons w xs =>
      have hlt := (drop_cons hx).1
      have hw := stB_iff.1 (List.all_eq_true.1 hl w (List.mem_of_getElem? (drop_cons hx).2.1))
      have hxs : xs.all stB = true := by
        rw [List.all_eq_true] at hl ⊢
        intro y hy
        refine hl y ?_
        have : y ∈ l.drop i := by rw [hx]; exact List.mem_cons_of_mem _ hy
        exact List.mem_of_mem_drop this
      have hwl := word_len hw.1
      have hel := esc_len w.Text
      have hxl : xs.length ≤ 512 := by
        have := congrArg List.length hx
        simp at this; omega
      have htw : (w :: xs).takeWhile (fun y => decide (y.State = w.State)) = w :: xs.takeWhile (fun y => decide (y.State = w.State)) := List.takeWhile_cons_of_pos (by simp)
      have htt := tw_total xs (fun y => decide (y.State = w.State)) hxs
      refine To.succ ?_
      simp only [M.markup_runs_i0_loop1]
      refine To.pos (drop_lt hx) (To.bind (inner_ok l hl hn i w (drop_cons hx).2.1 (w :: xs) i [] hx (Nat.zero_le _)) ?_)
      dsimp only
      rw [htw]
      refine To.bindS (drop_idx hx) (To.bindS (one_ok hw.2.1 hw.2.2 _ _ (by rw [List.nil_append, List.map_cons, total_cons]; omega) (by omega)) ?_)
      have hdrop : l.drop (i + (w :: xs.takeWhile fun y => decide (y.State = w.State)).length) = xs.dropWhile fun y => decide (y.State = w.State) := by
        rw [← tw_len, List.length_cons, ← List.drop_drop, hx, List.drop_succ_cons]
      refine (ih _ _ _ ?_ hdrop (by simp; omega)).of ?_
      · rw [← tw_len, List.length_drop]
        simp at hm; omega
      · show _ = v ++ runsG w.State [esc w.Text] xs
        rw [runs_split]
        simp
theorem format_ok (l : List TW) : To (fun n => M.markup_FormatWords n l) (rowF l) := by
  simp only [M.markup_FormatWords]
  refine To.bind (vrow_ok l) ?_
  unfold rowF
  by_cases h : rowB l = true
  · have h' := h
    unfold rowB at h'
    rw [Bool.and_eq_true] at h'
    have hn := of_decide_eq_true h'.1
    rw [if_pos h]
    have hout := outer_ok l h'.2 hn l.length l 0 [] (Nat.le_refl _) rfl (Nat.le_refl _)
    have ht : total (runsF l) ≤ 100000 := by
      cases l with
      | nil => simp [runsF, total]
      | cons w l =>
        rw [List.all_cons, Bool.and_eq_true] at h'
        have hwl := word_len (stB_iff.1 h'.2.1).1
        have hel := esc_len w.Text
        have := runs_total l w.State [esc w.Text] h'.2.2
        simp only [runsF]
        rw [total_cons] at this
        simp only [show total ([] : List Str) = 0 from rfl, List.length_cons] at this hn
        omega
    refine To.neg (by rw [h]; decide) (To.bind ?_ (To.bindS (show M.strings_Join ([] ++ runsF l) [32] = some (joinS ([] ++ runsF l)) from join_ok _ (by rw [List.nil_append]; omega)) (To.pure.of ?_)))
    · simp only [M.markup_runs_i0]
      exact To.bind hout To.pure
    · rw [List.nil_append, runs_row]
  · rw [if_neg h]
    exact To.pos (by simpa using h) To.pure
def unE (s : Str) : Option Str := match s with
  | [] => none
  | 92 :: b :: l => if spB b = true then some (b :: l) else none
  | b :: l => if spB b = true then none else some (b :: l)
def isMk (e : Str) : Option Int := if e = [91, 43] then some 1 else if e = [91, 45] then some 2 else if e = [43, 93] then some 0 else if e = [45, 93] then some 0 else none
def pcF : Int → List Str → Option (List TW)
  | _, [] => some []
  | st, e :: es => match isMk e with
    | some s => pcF s es
    | none => match unE e with
      | none => none
      | some w => (pcF st es).map (⟨st, w⟩ :: ·)
theorem unescape_ok (s : Str) (hs : s.length ≤ 100000) : ∃ x, M.markup_unescape s = some (x, (unE s).isSome) ∧ ∀ w, unE s = some w → x = w := by
  cases s with
  | nil =>
    refine ⟨[], ?_, fun w h => by cases h⟩
    simp only [M.markup_unescape]
    rw [if_pos (by decide)]; rfl
  | cons b l =>
    simp only [M.markup_unescape]
    rw [if_neg (by simp), idx_zero, Option.bind_some]
    have h1 : slcHi (b :: l) (1 : Int) = some [b] := by
      unfold slcHi
      rw [if_pos ⟨by decide, by simp; omega⟩]; rfl
    have hlast : Option.bind (slcHi (b :: l) (1 : Int)) (fun v3 => Option.bind (containsM ([91, 93, 43, 45, 124, 35, 92] : Str) v3) fun contai1 => some ((b :: l), !contai1)) = some (b :: l, !spB b) := by
      rw [h1, Option.bind_some, special_m, Option.bind_some]
    by_cases hb : b = 92
    · subst hb
      rw [if_pos (by decide)]
      cases l with
      | nil =>
        rw [if_neg (by decide), Option.bind_some, if_neg (by decide), hlast]
        refine ⟨[92], by rfl, fun w h => by cases h⟩
      | cons c r =>
        have h2 : slc (92 :: c :: r) (1 : Int) (2 : Int) = some [c] := by
          unfold slc
          rw [if_pos ⟨by decide, by decide, by simp; omega⟩]; rfl
        rw [if_pos (by simp; omega), h2, Option.bind_some, special_m, Option.bind_some, Option.bind_some]
        have hu : unE (92 :: c :: r) = if spB c = true then some (c :: r) else none := rfl
        rw [hu]
        by_cases hc : spB c = true
        · rw [if_pos hc, if_pos hc]
          have h3 : slcLo (92 :: c :: r) (1 : Int) = some (c :: r) := by
            unfold slcLo
            rw [if_pos ⟨by decide, by simp; omega⟩]; rfl
          rw [h3]
          exact ⟨c :: r, rfl, fun w h => Option.some.inj h⟩
        · rw [if_neg hc, if_neg hc, hlast]
          exact ⟨_, rfl, fun w h => by cases h⟩
    · have hne : ¬ (b.toNat : Int) = 92 := fun e => hb (UInt8.toNat_inj.1 (by show b.toNat = 92; omega))
      rw [if_neg hne, Option.bind_some, if_neg (by decide), hlast]
      have hu : unE (b :: l) = if spB b = true then none else some (b :: l) := by
        unfold unE
        split
        · rename_i h; cases h
        · rename_i h; cases h; exact absurd rfl hb
        · rename_i h; cases h; rfl
      rw [hu]
      by_cases hc : spB b = true
      · rw [if_pos hc, hc]
        exact ⟨_, rfl, fun w h => by cases h⟩
      · have hc' : spB b = false := by simpa using hc
        rw [if_neg hc, hc']
        exact ⟨_, rfl, fun w h => Option.some.inj h⟩
theorem beq_str (a b : Str) : ((a == b) = true) ↔ a = b := by simp
theorem ploop_ok : ∀ (es : List Str) (out : List TW) (st : Int), (∀ e ∈ es, e.length ≤ 100000) → out.length + es.length ≤ 1000000 →
    M.markup_ParseWords_loop1 es out st = some (match pcF st es with | some m => .inl (out ++ m) | none => .inr ([], false))
  | [], out, st, _, _ => by simp [M.markup_ParseWords_loop1, pcF]
  | e :: es, out, st, he, ho => by
    have ih := fun o s h => ploop_ok es o s (fun x hx => he x (List.mem_cons_of_mem _ hx)) h
    simp only [List.length_cons] at ho
    simp only [M.markup_ParseWords_loop1, pcF, isMk]
    by_cases h1 : e = [91, 43]
    · rw [if_pos ((beq_str _ _).2 h1), if_pos h1, ih _ _ (by omega)]
    · rw [if_neg (fun h => h1 ((beq_str _ _).1 h)), if_neg h1]
      by_cases h2 : e = [91, 45]
      · rw [if_pos ((beq_str _ _).2 h2), if_pos h2, ih _ _ (by omega)]
      · rw [if_neg (fun h => h2 ((beq_str _ _).1 h)), if_neg h2]
        by_cases h3 : e = [43, 93]
        · rw [if_pos ((beq_str _ _).2 h3), if_pos h3, Option.bind_some, if_pos ((beq_str _ _).2 h3), ih _ _ (by omega)]
        · rw [if_neg (fun h => h3 ((beq_str _ _).1 h)), if_neg h3]
          by_cases h4 : e = [45, 93]
          · rw [Option.bind_some, if_pos ((beq_str _ _).2 h4), if_pos h4, ih _ _ (by omega)]
          · rw [Option.bind_some, if_neg (fun h => h4 ((beq_str _ _).1 h)), if_neg h4]
            obtain ⟨x, hx1, hx2⟩ := unescape_ok e (he e List.mem_cons_self)
            rw [hx1, Option.bind_some]
            cases hu : unE e with
            | none => rfl
            | some w =>
              obtain rfl := hx2 w hu
              dsimp only [Option.isSome]
              rw [if_neg (by decide), appC_eq (by simp; omega), Option.bind_some, ih _ _ (by simp; omega)]
              cases pcF st es with
              | none => rfl
              | some m => simp
theorem word_rr (p : Str) (hp : p.length ≤ 100000) : To (fun n => M.r53_word n p) (match unE p with | some w => (w, wordB w) | none => ([], false)) := by
  simp only [M.r53_word]
  cases p with
  | nil =>
    refine To.bind (a := false) (To.neg (by decide) To.pure) (To.neg (by decide) (To.bind (a := true) (To.pos (by decide) To.pure) (To.pos rfl To.pure)))
  | cons b l =>
    have hrest : ∀ u : Option Str, (u = if spB b = true then none else some (b :: l)) →
        To (fun n => Option.bind (if ((b :: l) == ([] : Str)) = true then some true else Option.bind (M.r53_special (b :: l)) fun specia1 => some specia1) fun v4 => if v4 = true then some (([] : Str), false) else Option.bind (M.r04_Word n (b :: l)) fun word1 => some (b :: l, word1))
          (match u with | some w => (w, wordB w) | none => ([], false)) := by
      intro u hu
      refine To.bind (a := spB b) (To.neg (by simp) (To.bindS (special_r b l) To.pure)) ?_
      by_cases hb : spB b = true
      · rw [if_pos hb] at hu
        subst hu
        exact To.pos hb To.pure
      · rw [if_neg hb] at hu
        subst hu
        exact To.neg hb (To.bind (word_r _) To.pure)
    by_cases hb : b = 92
    · subst hb
      cases l with
      | nil =>
        refine To.bind (a := false) (To.neg (by decide) To.pure) (To.neg (by decide) ?_)
        exact hrest none (by rfl)
      | cons c r =>
        have h3 : slcLo (92 :: c :: r) (1 : Int) = some (c :: r) := by
          unfold slcLo
          rw [if_pos ⟨by decide, by simp; omega⟩]; rfl
        have hu : unE (92 :: c :: r) = if spB c = true then some (c :: r) else none := rfl
        rw [hu]
        refine To.bind (a := spB c) (To.pos (by simp; omega) (To.bindS idx_zero (To.pos (by decide) (To.bindS h3 (To.bindS (special_r c r) To.pure))))) ?_
        by_cases hc : spB c = true
        · rw [if_pos hc]
          exact To.pos hc (To.bindS h3 (To.bindS h3 (To.bind (word_r _) To.pure)))
        · rw [if_neg hc]
          exact To.neg hc (hrest none (by rfl))
    · have hne : ¬ (b.toNat : Int) = 92 := fun e => hb (UInt8.toNat_inj.1 (by show b.toNat = 92; omega))
      have hu : unE (b :: l) = if spB b = true then none else some (b :: l) := by
        unfold unE
        split
        · rename_i h; cases h
        · rename_i h; cases h; exact absurd rfl hb
        · rename_i h; cases h; rfl
      refine To.bind (a := false) ?_ (To.neg (by decide) (hrest _ hu))
      by_cases h1 : (1 : Int) < ((b :: l).length : Int)
      · exact To.pos h1 (To.bindS idx_zero (To.neg hne To.pure))
      · exact To.neg h1 To.pure
def rpF : Int → List Str → Option (List TW)
  | _, [] => some []
  | st, e :: es => match isMk e with
    | some s => rpF s es
    | none => match unE e with
      | none => none
      | some w => if wordB w = true then (rpF st es).map (⟨st, w⟩ :: ·) else none
theorem rp_pc : ∀ (es : List Str) (st : Int), rpF st es = match pcF st es with | some m => if m.all (fun w => wordB w.Text) = true then some m else none | none => none
  | [], st => by simp [rpF, pcF]
  | e :: es, st => by
    unfold rpF pcF
    cases isMk e with
    | some s => exact rp_pc es s
    | none =>
      dsimp only
      cases unE e with
      | none => rfl
      | some w =>
        dsimp only
        rw [rp_pc es st]
        cases pcF st es with
        | none => split <;> rfl
        | some m =>
          by_cases hw : wordB w = true
          · rw [if_pos hw]
            by_cases hm : m.all (fun w => wordB w.Text) = true
            · simp [hw, hm]
            · simp [hw, hm]
          · simp [hw]
theorem rloop_ok (ps : List Str) (hps : ∀ e ∈ ps, e.length ≤ 100000) (hn : ps.length ≤ 100000) : ∀ (es : List Str) (i : Nat) (out : List TW) (st : Int), ps.drop i = es → out.length ≤ i →
    To (fun n => M.r53_Words_loop1 ps n out st (i : Int)) (match rpF st es with | some m => .inl (out ++ m) | none => .inr ([], false))
  | [], i, out, st, hx, ho => by
    refine To.succ ?_
    simp only [M.r53_Words_loop1]
    exact To.neg (drop_end hx) (To.pure.of (by simp [rpF]))
  | e :: es, i, out, st, hx, ho => by
    have ih := fun o s h => rloop_ok ps hps hn es (i + 1) o s (drop_next hx) h
    have hi := drop_idx hx
    have hlt := (drop_cons hx).1
    have he := hps e (List.mem_of_getElem? (drop_cons hx).2.1)
    refine To.succ ?_
    simp only [M.r53_Words_loop1, rpF, isMk]
    rw [cast_succ]
    refine To.pos (drop_lt hx) (To.bindS hi ?_)
    by_cases h1 : e = [91, 43]
    · refine To.pos ((beq_str _ _).2 h1) ?_
      rw [if_pos h1]
      exact ih _ _ (by omega)
    · refine To.neg (fun h => h1 ((beq_str _ _).1 h)) ?_
      rw [if_neg h1]
      by_cases h2 : e = [91, 45]
      · refine To.pos ((beq_str _ _).2 h2) ?_
        rw [if_pos h2]
        exact ih _ _ (by omega)
      · refine To.neg (fun h => h2 ((beq_str _ _).1 h)) ?_
        rw [if_neg h2]
        by_cases h3 : e = [43, 93]
        · refine To.bind (a := true) (To.pos ((beq_str _ _).2 h3) (To.pure.of ((beq_str _ _).2 h3))) (To.pos rfl ?_)
          rw [if_pos h3]
          exact ih _ _ (by omega)
        · rw [if_neg h3]
          by_cases h4 : e = [45, 93]
          · refine To.bind (a := true) (To.neg (fun h => h3 ((beq_str _ _).1 h)) (To.pure.of ((beq_str _ _).2 h4))) (To.pos rfl ?_)
            rw [if_pos h4]
            exact ih _ _ (by omega)
          · refine To.bind (a := false) (To.neg (fun h => h3 ((beq_str _ _).1 h)) (To.pure.of (by simpa using h4))) (To.neg (by decide) (To.bindS hi (To.bind (word_rr e he) ?_)))
            rw [if_neg h4]
            cases hu : unE e with
            | none => exact To.pos rfl To.pure
            | some w =>
              dsimp only
              by_cases hw : wordB w = true
              · refine To.neg (by rw [hw]; decide) (To.bindS (appC_eq (by simp; omega)) ((ih _ _ (by simp; omega)).of ?_))
                rw [if_pos hw]
                cases rpF st es with
                | none => rfl
                | some m => simp
              · refine To.pos (by simpa using hw) (To.pure.of ?_)
                rw [if_neg hw]
def psB (s : Str) : List TW × Bool := if s = [] then ([], true) else match pcF 0 (splitC 32 s) with
  | none => ([], false)
  | some m => if rowB m = true ∧ rowF m = s then (m, true) else ([], false)
theorem split_len (c : UInt8) : ∀ s : Str, (∀ p ∈ splitC c s, p.length ≤ s.length) ∧ (splitC c s).length ≤ s.length + 1
  | [] => ⟨fun p hp => by simp [splitC] at hp; subst hp; exact Nat.le_refl _, by simp [splitC]⟩
  | b :: l => by
    obtain ⟨h1, h2⟩ := split_len c l
    unfold splitC
    split
    · refine ⟨fun p hp => ?_, by simp; omega⟩
      rcases List.mem_cons.1 hp with rfl | hp
      · simp
      · have := h1 p hp; simp; omega
    · split
      · refine ⟨fun p hp => ?_, by simp⟩
        simp at hp; subst hp; simp
      · rename_i q qs hq
        rw [hq] at h1 h2
        refine ⟨fun p hp => ?_, by simp at h2 ⊢; omega⟩
        rcases List.mem_cons.1 hp with rfl | hp
        · have := h1 q List.mem_cons_self; simp; omega
        · have := h1 p (List.mem_cons_of_mem _ hp); simp; omega
theorem parse_ok (s : Str) (hs : s.length ≤ 90000) : To (fun n => M.markup_ParseWords n s) (psB s) := by
  simp only [M.markup_ParseWords]
  unfold psB
  by_cases h0 : s = []
  · rw [if_pos h0]
    exact To.pos ((beq_str _ _).2 h0) To.pure
  · rw [if_neg h0]
    obtain ⟨h1, h2⟩ := split_len 32 s
    have hsp : splitM s [32] = some (splitC 32 s) := by unfold splitM; exact if_pos (by omega)
    have hlp := ploop_ok (splitC 32 s) [] 0 (fun e he => by have := h1 e he; omega) (by simp; omega)
    refine To.neg (fun h => h0 ((beq_str _ _).1 h)) (To.bindS hsp (To.bindS hlp ?_))
    cases pcF 0 (splitC 32 s) with
    | none => exact To.pure
    | some m =>
      dsimp only
      rw [List.nil_append]
      refine To.bind (vrow_ok m) ?_
      by_cases hr : rowB m = true
      · refine To.neg (by rw [hr]; decide) (To.bind (format_ok m) ?_)
        by_cases hf : rowF m = s
        · exact (To.neg (by rw [hf]; simp) To.pure).of (if_pos ⟨hr, hf⟩).symm
        · exact (To.pos (by simpa using hf) To.pure).of (if_neg (fun h => hf h.2)).symm
      · exact (To.pos (by simpa using hr) To.pure).of (if_neg (fun h => hr h.1)).symm
theorem words_ok (s : Str) (hs : s.length ≤ 90000) : To (fun n => M.r53_Words n s) (psB s) := by
  simp only [M.r53_Words]
  unfold psB
  by_cases h0 : s = []
  · rw [if_pos h0]
    exact To.pos ((beq_str _ _).2 h0) To.pure
  · rw [if_neg h0]
    obtain ⟨h1, h2⟩ := split_len 32 s
    have hps := pieces_r s (by omega)
    have hpc : pcs s = splitC 32 s := by unfold pcs; exact if_neg h0
    rw [hpc] at hps
    have hlp := rloop_ok (splitC 32 s) (fun e he => by have := h1 e he; omega) (by omega) (splitC 32 s) 0 [] 0 rfl (Nat.le_refl _)
    refine To.neg (fun h => h0 ((beq_str _ _).1 h)) (To.bind hps (To.bind hlp ?_))
    rw [rp_pc]
    cases pcF 0 (splitC 32 s) with
    | none => exact To.pure
    | some m =>
      dsimp only
      by_cases hw : m.all (fun w => wordB w.Text) = true
      · rw [if_pos hw]
        dsimp only
        rw [List.nil_append]
        refine To.bind (mrow_ok m) ?_
        by_cases hr : rowB m = true
        · refine To.neg (by rw [hr]; decide) (To.bind (rrow_ok m) ?_)
          by_cases hf : rowF m = s
          · exact (To.neg (by rw [hf]; simp) To.pure).of (if_pos ⟨hr, hf⟩).symm
          · exact (To.pos (by simpa using hf) To.pure).of (if_neg (fun h => hf h.2)).symm
        · exact (To.pos (by simpa using hr) To.pure).of (if_neg (fun h => hr h.1)).symm
      · rw [if_neg hw]
        have hr : ¬ rowB m = true := by
          intro h
          apply hw
          unfold rowB at h
          rw [Bool.and_eq_true] at h
          rw [List.all_eq_true] at h ⊢
          exact fun x hx => (stB_iff.1 (h.2 x hx)).1
        exact To.pure.of (if_neg (fun h => hr h.1)).symm
theorem rows_ok (a b : List TW) : To (fun n => M.r53_Rows n a b) (decide (a = b)) := by
  simp only [M.r53_Rows]
  by_cases hl : a.length = b.length
  · have loop : ∀ (xs ys : List TW) (i : Nat), a.drop i = xs → b.drop i = ys → xs.length = ys.length → To (fun n => M.r53_Rows_loop1 a b n (i : Int)) (if xs = ys then .inl () else .inr false) := by
      intro xs
      induction xs with
      | nil =>
        intro ys i hx hy he
        have : ys = [] := by simpa using he.symm
        subst this
        refine To.succ ?_
        simp only [M.r53_Rows_loop1]
        exact To.neg (drop_end hx) To.pure
      | cons x xs ih =>
        intro ys i hx hy he
        cases ys with
        | nil => cases he
        | cons y ys =>
          refine To.succ ?_
          simp only [M.r53_Rows_loop1]
          refine To.pos (drop_lt hx) (To.bindS (drop_idx hx) (To.bindS (drop_idx hy) ?_))
          by_cases hxy : x = y
          · subst hxy
            refine To.neg (by simp) ?_
            rw [cast_succ]
            exact (ih ys (i + 1) (drop_next hx) (drop_next hy) (by simpa using he)).of (by simp)
          · refine To.pos hxy (To.pure.of ?_)
            rw [if_neg (by simp [hxy])]
    refine To.neg (by omega) (To.bind (loop a b 0 rfl rfl hl) ?_)
    by_cases h : a = b
    · rw [if_pos h]; exact To.pure.of (by simp [h])
    · rw [if_neg h]; exact To.pure.of (by simp [h])
  · refine To.pos (by omega) (To.pure.of ?_)
    have : a ≠ b := fun e => hl (by rw [e])
    simp [this]
def opP (s : Int) : List Str := if s = 1 then [[91, 43]] else if s = 2 then [[91, 45]] else []
def shP (s : Int) : List Str := if s = 1 then [[43, 93]] else if s = 2 then [[45, 93]] else []
def pcsT : Option Int → List TW → List Str
  | _, [] => []
  | p, w :: l => (if p = some w.State then [] else opP w.State) ++ (esc w.Text :: ((if lastB w.State l = true then shP w.State else []) ++ pcsT (some w.State) l))
theorem tailS_op (s : Int) (l : List Str) (x : Str) : tailS (opP s ++ x :: l) = 32 :: (opS s ++ (x ++ tailS l)) := by
  unfold opP opS
  split
  · simp [tailS]
  · split <;> simp [tailS]
theorem tailS_sh (s : Int) (l : List Str) : tailS (shP s ++ l) = shS s ++ tailS l := by
  unfold shP shS
  split
  · simp [tailS]
  · split <;> simp [tailS]
theorem pcs_tail : ∀ (l : List TW) (s : Int), tailS (pcsT (some s) l) = rowT (some s) l
  | [], s => by simp [pcsT, rowT, tailS]
  | w :: l, s => by
    have ih := pcs_tail l w.State
    have hb : tailS ((if lastB w.State l = true then shP w.State else []) ++ pcsT (some w.State) l) = (if lastB w.State l = true then shS w.State else []) ++ rowT (some w.State) l := by
      split
      · rw [tailS_sh, ih]
      · simpa using ih
    unfold pcsT rowT
    by_cases h : some s = some w.State
    · rw [if_pos h, if_pos h]
      simp only [List.nil_append]
      rw [show tailS (esc w.Text :: ((if lastB w.State l = true then shP w.State else []) ++ pcsT (some w.State) l)) = 32 :: (esc w.Text ++ tailS ((if lastB w.State l = true then shP w.State else []) ++ pcsT (some w.State) l)) from by simp [tailS], hb]
      simp
    · rw [if_neg h, if_neg h, tailS_op, hb]
      simp
theorem pcs_join (w : TW) (l : List TW) : joinS (pcsT none (w :: l)) = rowT none (w :: l) := by
  have h := pcs_tail l w.State
  have hb : tailS ((if lastB w.State l = true then shP w.State else []) ++ pcsT (some w.State) l) = (if lastB w.State l = true then shS w.State else []) ++ rowT (some w.State) l := by
    split
    · rw [tailS_sh, h]
    · simpa using h
  have e : ∀ x : List Str, x ≠ [] → tailS x = 32 :: joinS x := by
    intro x hx
    cases x with
    | nil => exact absurd rfl hx
    | cons a b => simp [tailS, joinS]
  have h1 : tailS (pcsT none (w :: l)) = 32 :: rowT none (w :: l) := by
    unfold pcsT rowT
    simp only [reduceCtorEq, if_false]
    rw [tailS_op, hb]
    simp
  have hne : pcsT none (w :: l) ≠ [] := by unfold pcsT; simp
  rw [e _ hne] at h1
  exact (List.cons.inj h1).2
theorem esc_no {s : Str} (h : wordB s = true) : (32 : UInt8) ∉ esc s := by
  have h1 := word_no h
  unfold esc
  split
  · simp
  · split
    · simp at h1 ⊢; exact h1
    · exact h1
theorem pcs_no : ∀ (l : List TW) (p : Option Int), l.all stB = true → ∀ x ∈ pcsT p l, (32 : UInt8) ∉ x
  | [], p, _, x, hx => by simp [pcsT] at hx
  | w :: l, p, h, x, hx => by
    rw [List.all_cons, Bool.and_eq_true] at h
    have hw := (stB_iff.1 h.1).1
    have hop : ∀ s, ∀ y ∈ opP s, (32 : UInt8) ∉ y := by
      intro s y hy
      unfold opP at hy
      split at hy
      · rw [List.mem_singleton.1 hy]; decide
      · split at hy
        · rw [List.mem_singleton.1 hy]; decide
        · cases hy
    have hsh : ∀ s, ∀ y ∈ shP s, (32 : UInt8) ∉ y := by
      intro s y hy
      unfold shP at hy
      split at hy
      · rw [List.mem_singleton.1 hy]; decide
      · split at hy
        · rw [List.mem_singleton.1 hy]; decide
        · cases hy
    unfold pcsT at hx
    rcases List.mem_append.1 hx with hx | hx
    · split at hx
      · cases hx
      · exact hop _ x hx
    · rcases List.mem_cons.1 hx with rfl | hx
      · exact esc_no hw
      · rcases List.mem_append.1 hx with hx | hx
        · split at hx
          · exact hsh _ x hx
          · cases hx
        · exact pcs_no l _ h.2 x hx
theorem esc_mk {s : Str} (h : wordB s = true) : isMk (esc s) = none ∧ unE (esc s) = some s := by
  have hl := word_len h
  cases s with
  | nil => simp at hl
  | cons b l =>
    by_cases hb : spB b = true
    · have e : esc (b :: l) = 92 :: b :: l := by simp [esc, hb]
      rw [e]
      refine ⟨by simp [isMk], ?_⟩
      show (if spB b = true then some (b :: l) else none) = _
      rw [if_pos hb]
    · have e : esc (b :: l) = b :: l := by simp [esc, hb]
      rw [e]
      have hn : b ≠ 91 ∧ b ≠ 43 ∧ b ≠ 45 ∧ b ≠ 92 := by
        refine ⟨?_, ?_, ?_, ?_⟩ <;> (rintro rfl; exact hb (by decide))
      refine ⟨by simp [isMk, hn.1, hn.2.1, hn.2.2.1], ?_⟩
      unfold unE
      split
      · rename_i h; cases h
      · rename_i h; cases h; exact absurd rfl hn.2.2.2
      · rename_i h; cases h; rw [if_neg hb]
def curS (p : Option Int) (l : List TW) : Int := match p, l with
  | some s, w :: _ => if s = w.State then s else 0
  | _, _ => 0
theorem pcF_mk {e : Str} {s : Int} (h : isMk e = some s) (st : Int) (es : List Str) : pcF st (e :: es) = pcF s es := by
  rw [pcF, h]
theorem pcF_w {e : Str} {w : Str} (h : isMk e = none) (h2 : unE e = some w) (st : Int) (es : List Str) : pcF st (e :: es) = (pcF st es).map (⟨st, w⟩ :: ·) := by
  rw [pcF, h]
  dsimp only
  rw [h2]
theorem pcs_back : ∀ (l : List TW) (p : Option Int), l.all stB = true → pcF (curS p l) (pcsT p l) = some l
  | [], p, _ => by cases p <;> rfl
  | w :: l, p, h => by
    rw [List.all_cons, Bool.and_eq_true] at h
    obtain ⟨hw1, hw2, hw3⟩ := stB_iff.1 h.1
    obtain ⟨hm1, hm2⟩ := esc_mk hw1
    have ih := pcs_back l (some w.State) h.2
    have hst : w.State = 0 ∨ w.State = 1 ∨ w.State = 2 := by omega
    have hcl : ∀ st, pcF st (shP w.State ++ pcsT (some w.State) l) = pcF (if w.State = 0 then st else 0) (pcsT (some w.State) l) := by
      intro st
      rcases hst with h0 | h0 | h0 <;> rw [h0]
      · rfl
      · rw [if_neg (by decide)]
        exact pcF_mk (e := [43, 93]) (s := 0) (by decide) _ _
      · rw [if_neg (by decide)]
        exact pcF_mk (e := [45, 93]) (s := 0) (by decide) _ _
    have hafter : pcF w.State ((if lastB w.State l = true then shP w.State else []) ++ pcsT (some w.State) l) = some l := by
      cases l with
      | nil =>
        rw [if_pos (show lastB w.State [] = true from rfl), hcl]
        rfl
      | cons y ys =>
        by_cases hy : y.State = w.State
        · have : lastB w.State (y :: ys) = false := by simp [lastB, hy]
          rw [this, if_neg (by decide), List.nil_append]
          have hc : curS (some w.State) (y :: ys) = w.State := by simp [curS, hy]
          rw [hc] at ih
          exact ih
        · have : lastB w.State (y :: ys) = true := by simp [lastB, hy]
          rw [this, if_pos rfl, hcl]
          have hc : curS (some w.State) (y :: ys) = 0 := by
            have : ¬ w.State = y.State := fun e => hy e.symm
            simp [curS, this]
          rw [hc] at ih
          have e0 : (if w.State = 0 then w.State else 0) = 0 := by
            split
            · assumption
            · rfl
          rw [e0]
          exact ih
    have hword : pcF w.State (esc w.Text :: ((if lastB w.State l = true then shP w.State else []) ++ pcsT (some w.State) l)) = some (w :: l) := by
      rw [pcF_w hm1 hm2, hafter]
      rfl
    unfold pcsT
    by_cases hp : p = some w.State
    · rw [if_pos hp, List.nil_append]
      have hc : curS p (w :: l) = w.State := by rw [hp]; simp [curS]
      rw [hc]
      exact hword
    · rw [if_neg hp]
      have hc : curS p (w :: l) = 0 := by
        unfold curS
        split
        · rename_i s y ys h1 h2
          cases h2
          exact if_neg (fun e => hp (by rw [e]))
        · rfl
      rw [hc]
      rcases hst with h0 | h0 | h0
      · rw [h0] at hword ⊢
        exact hword
      · rw [h0] at hword ⊢
        rw [show opP 1 = [[91, 43]] from rfl]
        exact (pcF_mk (by decide) _ _).trans hword
      · rw [h0] at hword ⊢
        rw [show opP 2 = [[91, 45]] from rfl]
        exact (pcF_mk (by decide) _ _).trans hword
theorem row_back (l : List TW) (h : rowB l = true) : psB (rowF l) = (l, true) := by
  have h' := h
  unfold rowB at h'
  rw [Bool.and_eq_true] at h'
  have hf : rowF l = rowT none l := if_pos h
  cases l with
  | nil => rfl
  | cons w l =>
    have hj := pcs_join w l
    have hno := pcs_no (w :: l) none h'.2
    have hb := pcs_back (w :: l) none h'.2
    obtain ⟨x, xs, hx⟩ : ∃ x xs, pcsT none (w :: l) = x :: xs := by
      cases hq : pcsT none (w :: l) with
      | nil => unfold pcsT at hq; simp at hq
      | cons x xs => exact ⟨x, xs, rfl⟩
    have hne : rowF (w :: l) ≠ [] := by
      rw [hf, ← hj, hx]
      intro e
      have hxe : x = [] := by simp [joinS] at e; exact e.1
      unfold pcsT at hx
      rw [if_neg (by simp)] at hx
      have hw := word_len (stB_iff.1 (List.all_eq_true.1 h'.2 w List.mem_cons_self)).1
      have : ∀ y ∈ opP w.State, y ≠ [] := by
        intro y hy
        unfold opP at hy
        split at hy
        · rw [List.mem_singleton.1 hy]; decide
        · split at hy
          · rw [List.mem_singleton.1 hy]; decide
          · cases hy
      cases ho : opP w.State with
      | nil =>
        rw [ho, List.nil_append] at hx
        have := (List.cons.inj hx).1
        rw [hxe] at this
        have hl := congrArg List.length this
        unfold esc at hl
        split at hl
        · rename_i hq; rw [hq] at hw; simp at hw
        · split at hl <;> simp at hl
      | cons y ys =>
        rw [ho] at hx this
        exact this y List.mem_cons_self (by rw [(List.cons.inj hx).1, hxe])
    have hs : splitC 32 (rowF (w :: l)) = pcsT none (w :: l) := by
      rw [hf, ← hj, hx, joinS]
      rw [hx] at hno
      exact split_tail xs (fun y hy => hno y (List.mem_cons_of_mem _ hy)) x (hno x List.mem_cons_self)
    unfold psB
    rw [if_neg hne, hs]
    have hc : curS none (w :: l) = 0 := rfl
    rw [hc] at hb
    rw [hb]
    dsimp only
    rw [if_pos ⟨h, rfl⟩]
theorem row_len (l : List TW) : (rowF l).length ≤ 90000 := by
  unfold rowF
  split
  · rename_i h
    have h' := h
    unfold rowB at h'
    rw [Bool.and_eq_true] at h'
    have hn := of_decide_eq_true h'.1
    have := joinS_len (runsF l)
    rw [runs_row] at this
    have h3 : total (runsF l) ≤ 90000 := by
      cases l with
      | nil => simp [runsF, total]
      | cons w l =>
        rw [List.all_cons, Bool.and_eq_true] at h'
        have hwl := word_len (stB_iff.1 h'.2.1).1
        have hel := esc_len w.Text
        have := runs_total l w.State [esc w.Text] h'.2.2
        simp only [runsF]
        rw [total_cons] at this
        simp only [show total ([] : List Str) = 0 from rfl, List.length_cons] at this hn
        omega
    omega
  · simp
end Go.Proofs.YtalogjkalmkpjaaDoor
