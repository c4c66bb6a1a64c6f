/-
  The laws Parses, Scans and InContext of chapter 20.
-/
import Derived.Test.YtnmkblpbmoikpaaDoorPh
set_option linter.unusedVariables false
set_option linter.unusedSimpArgs false
namespace Go.Proofs.YtnmkblpbmoikpaaDoor
open Go Go.Dec
theorem total_split (s : Str) : total (splitC 32 s) = s.length + 1 := by
  obtain ⟨x, xs, hx⟩ := splitC_cons 32 s
  have h := join_split s
  rw [hx] at h ⊢
  rw [joinS] at h
  have hl := congrArg List.length h
  rw [List.length_append, tail_len] at hl
  rw [total_cons]
  omega
theorem total_each : ∀ {l : List Str} {B : Nat}, total l ≤ B → ∀ v ∈ l, v.length ≤ B
  | x :: l, B, h, v, hv => by
    rw [total_cons] at h
    rcases List.mem_cons.1 hv with rfl | hv
    · omega
    · exact total_each (l := l) (by omega) v hv
theorem split_fine {s : Str} (h : s.length ≤ 300) : Fine (splitC 32 s) ∧ (splitC 32 s).length ≤ 301 := by
  have h1 := total_split s
  have h2 := total_len (splitC 32 s)
  exact ⟨⟨by omega, fun v hv => by have := total_each (B := 301) (by omega) v hv; omega⟩, by omega⟩
theorem pcs_fine {s : Str} (h : s.length ≤ 300) : Fine (pcs s) ∧ (pcs s).length ≤ 301 := by
  unfold pcs
  by_cases h0 : s = []
  · rw [if_pos h0]
    exact ⟨⟨by simp, fun v hv => by cases hv⟩, by simp⟩
  · rw [if_neg h0]; exact split_fine h
def parseT (s : Str) : api_Cite × Int :=
  let c := longF (splitC 32 s) 0
  if 0 < c.At ∧ c.At = ((splitC 32 s).length : Int) ∧ fmtC c = s then (c, 0) else (zapi_Cite, 2)
theorem parse_t {s : Str} (h : s.length ≤ 300) : To (fun n => M.citation_Parse n s) (parseT s) := by
  obtain ⟨hf, hl⟩ := split_fine h
  have hsp : splitM s [32] = some (splitC 32 s) := by
    unfold splitM
    simp only
    rw [if_pos (by omega)]
  have hlong := longest_t hf 0 (by omega)
  simp only [M.citation_Parse]
  unfold parseT
  simp only
  generalize longF (splitC 32 s) 0 = c at hlong ⊢
  refine To.bindS hsp (To.bind hlong ?_)
  by_cases h1 : 0 < c.At
  · refine To.neg (by simp [h1]) ?_
    by_cases h2 : c.At = ((splitC 32 s).length : Int)
    · refine To.neg (by simpa using h2) (To.bind (format_c c) ?_)
      by_cases h3 : fmtC c = s
      · exact To.neg (by simp [h3]) (To.pure.of (by rw [if_pos ⟨h1, h2, h3⟩]))
      · exact To.pos (by simpa using h3) (To.pure.of (by rw [if_neg (fun e => h3 e.2.2)]; rfl))
    · exact To.pos h2 (To.pure.of (by rw [if_neg (fun e => h2 e.2.1)]; rfl))
  · exact To.pos (by simp [h1]) (To.pure.of (by rw [if_neg (fun e => h1 e.1)]; rfl))
theorem parses_true (s : Str) : ∃ n, M.law20_CitationParses n s = some true := by
  refine To.ex ?_
  simp only [M.law20_CitationParses]
  by_cases hl : (300 : Int) < (s.length : Int)
  · exact To.pos hl (To.bind awake20 To.pure)
  · have hs : s.length ≤ 300 := by omega
    obtain ⟨hf, hpl⟩ := pcs_fine hs
    refine To.neg hl (To.bind (parse_t hs) (To.bind (pieces_r s (by omega)) (To.bind (read_t hf) ?_)))
    unfold readT
    cases hr : rdF (pcs s) with
    | none =>
      have hp : parseT s = (zapi_Cite, 2) := by
        unfold parseT
        simp only
        refine if_neg ?_
        rintro ⟨h1, h2, h3⟩
        obtain ⟨j, e, hc, _, _, _, _, _, _⟩ := long_place h1
        rw [fmt_is hc] at h3
        obtain ⟨q1, q2, q3⟩ := pcs_words hc
        rw [h3] at q1
        rw [q1, read_words hc] at hr
        cases hr
      rw [hp]
      refine To.bind (a := true) (To.pos rfl To.pure) (To.pos rfl (To.bind (To.pos rfl (To.bind (csame_refl _) (To.pos rfl (To.bind awake20 To.pure)))) To.pure))
    | some c =>
      obtain ⟨hc, hw, hF, hA⟩ := read_sound hr
      have hne := words_ne hc
      have hs0 : s ≠ [] := by
        rintro rfl
        rw [hw] at hne
        exact hne rfl
      have hsp : splitC 32 s = wordsB c := by
        rw [hw]
        unfold pcs
        rw [if_neg hs0]
      have hj : joinS (wordsB c) = s := by rw [← hsp]; exact join_split s
      have hpos := List.length_pos_iff.2 hne
      have hlen : (pcs s).length = (wordsB c).length := by rw [hw]
      have hp : parseT s = ({ c with At := ((pcs s).length : Int) }, 0) := by
        unfold parseT
        simp only
        rw [hsp, long_words hc, hlen]
        rw [if_pos ⟨by show (0 : Int) < ((wordsB c).length : Int); omega, rfl, by rw [fmt_is (c := { c with From := 0, At := ((wordsB c).length : Int) }) hc]; exact hj⟩]
        obtain ⟨K, P, T, F, A⟩ := c
        have : F = 0 := hF
        rw [this]
      have hcw : citeB { c with At := ((pcs s).length : Int) } = true := hc
      have htot := words_total hc
      refine To.bind (a := false) (To.neg (by simp) (To.bind (words_r hcw) (To.bind (text_r _ (by show total (wordsB c) ≤ _; omega)) (To.pure.of ?_)))) (To.neg (by simp) ?_)
      · show (joinS (wordsB c) != s) = false
        rw [hj]; simp
      · rw [hp]
        refine To.pos rfl (To.bind (csame_refl _) (To.pos rfl (To.bind (format_c _) (To.pos ?_ (To.bind awake20 To.pure)))))
        rw [fmt_is hcw]
        show (joinS (wordsB c) == s) = true
        rw [hj]; simp
def bareW (v : Str) : Str := match v.getLast? with
  | some b => if signB b = true then v.dropLast else v
  | none => v
theorem bare_t (v : Str) (hv : v.length ≤ 1000000) : M.r20_bare v = some (bareW v) := by
  unfold M.r20_bare bareW
  by_cases h : v = []
  · subst h; rfl
  · have hpos := List.length_pos_iff.2 h
    rw [if_neg (by simpa using h), List.getLast?_eq_some_getLast h]
    generalize hb : v.getLast h = b
    have hsub : subC (v.length : Int) (1 : Int) = some ((v.length - 1 : Nat) : Int) := by rw [subC_eq (by omega) (by omega)]; congr 1; omega
    have hib : idx v ((v.length - 1 : Nat) : Int) = some b := by rw [idx_nat, ← List.getLast?_eq_getElem?, List.getLast?_eq_some_getLast h, hb]
    have hsl : slcHi v ((v.length - 1 : Nat) : Int) = some v.dropLast := by
      unfold slcHi
      rw [if_pos (by omega), List.dropLast_eq_take]; rfl
    rw [hsub, Option.bind_some, hib, Option.bind_some, Option.bind_some, hsl, Option.bind_some]
    have e : ∀ c : UInt8, ((b.toNat : Int) = (c.toNat : Int)) ↔ b = c := fun c => ⟨fun h => UInt8.toNat_inj.1 (by omega), fun h => by rw [h]⟩
    have e1 : ((b.toNat : Int) = 44) ↔ b = 44 := e 44
    have e2 : ((b.toNat : Int) = 59) ↔ b = 59 := e 59
    have e3 : ((b.toNat : Int) = 46) ↔ b = 46 := e 46
    have e4 : ((b.toNat : Int) = 58) ↔ b = 58 := e 58
    have e5 : ((b.toNat : Int) = 41) ↔ b = 41 := e 41
    simp only [e1, e2, e3, e4, e5]
    unfold signB
    by_cases h1 : b = 44
    · subst h1; rfl
    by_cases h2 : b = 59
    · subst h2; rfl
    by_cases h3 : b = 46
    · subst h3; rfl
    by_cases h4 : b = 58
    · subst h4; rfl
    by_cases h5 : b = 41
    · subst h5; rfl
    simp [h1, h2, h3, h4, h5]
theorem has_take {l : List Str} {e : Bool} : ∀ {ws : List Str} {i : Nat}, Has l e i ws → ws ≠ [] →
    (e = false ∧ (l.take (i + ws.length)).drop i = ws) ∨ (e = true ∧ ∃ ini s b, ws = ini ++ [s] ∧ (l.take (i + ws.length)).drop i = ini ++ [s ++ [b]] ∧ signB b = true)
  | [], i, _, h => absurd rfl h
  | [w], i, h, _ => by
    have hone : ∀ v, l[i]? = some v → (l.take (i + 1)).drop i = [v] := fun v hv => by
      rw [drop_take hv (by omega)]
      congr 1
      exact List.drop_eq_nil_of_le (by rw [List.length_take]; omega)
    rcases h with ⟨he, h⟩ | ⟨he, b, h, hb⟩
    · exact .inl ⟨he, hone w h⟩
    · exact .inr ⟨he, [], w, b, rfl, hone _ h, hb⟩
  | w :: w2 :: ws, i, h, _ => by
    have hl : i + (w :: w2 :: ws).length = i + 1 + (w2 :: ws).length := by simp; omega
    rw [hl, drop_take h.1 (by omega)]
    rcases has_take h.2 (by simp) with ⟨he, hd⟩ | ⟨he, ini, s, b, h1, h2, h3⟩
    · exact .inl ⟨he, by rw [hd]⟩
    · exact .inr ⟨he, w :: ini, s, b, by rw [h1]; rfl, by rw [h2]; rfl, h3⟩
theorem take_at {l : List Str} {i j : Nat} {ws : List Str} (h : (l.take j).drop i = ws) : ∀ (k : Nat) (v : Str), ws[k]? = some v → l[i + k]? = some v := by
  intro k v hk
  rw [← h, List.getElem?_drop, List.getElem?_take] at hk
  split at hk
  · exact hk
  · cases hk
theorem toldL_le9 {c : api_Cite} (h : citeB c = true) : (wordsB c).length ≤ 22 := by
  obtain ⟨h9, _, _⟩ := cite_small h
  have h1 := toldL_len c.Path
  have h2 := toldL_len c.Path.dropLast
  rw [List.length_dropLast] at h2
  unfold wordsB tailW
  split
  · rw [List.length_append]; simp; omega
  · split
    · simp; omega
    · split
      · simp; omega
      · split
        · simp; omega
        · omega
def hitF (l : List Str) (i j : Nat) : Option api_Cite :=
  let w := (l.take j).drop i
  match rdF w with
  | some c => some c
  | none => rdF (w.dropLast ++ [bareW ((w.getLast?).getD [])])
theorem hit_some {l : List Str} {i j : Nat} {c : api_Cite} (hij : i < j) (hj : j ≤ l.length) (h : hitF l i j = some c) : citeB c = true ∧ c.From = 0 ∧ c.At = 0 ∧ ∃ e, Has l e i (wordsB c) ∧ i + (wordsB c).length = j := by
  unfold hitF at h
  simp only at h
  have hwl : ((l.take j).drop i).length = j - i := by rw [List.length_drop, List.length_take]; omega
  cases hr : rdF ((l.take j).drop i) with
  | some d =>
    rw [hr] at h
    cases h
    obtain ⟨h1, h2, h3, h4⟩ := read_sound hr
    refine ⟨h1, h3, h4, false, has_false _ _ (take_at h2.symm), by rw [h2, hwl]; omega⟩
  | none =>
    rw [hr] at h
    simp only at h
    obtain ⟨h1, h2, h3, h4⟩ := read_sound h
    have hne : (l.take j).drop i ≠ [] := List.length_pos_iff.1 (by omega)
    have hla := List.getLast?_eq_some_getLast hne
    generalize ((l.take j).drop i).getLast hne = v at hla
    have hsplit : (l.take j).drop i = ((l.take j).drop i).dropLast ++ [v] := by
      have := List.dropLast_concat_getLast hne
      rw [List.getLast?_eq_some_getLast hne] at hla
      rw [Option.some.inj hla] at this
      exact this.symm
    rw [hla] at h2 h
    have h2 : wordsB c = ((l.take j).drop i).dropLast ++ [bareW v] := h2
    have hlen : (wordsB c).length = j - i := by
      rw [h2, List.length_append, List.length_dropLast, hwl]; simp; omega
    refine ⟨h1, h3, h4, ?_⟩
    by_cases hv : bareW v = v
    · rw [hv, ← hsplit] at h2
      rw [← h2, read_words h1] at hr
      cases hr
    · have : ∃ b, signB b = true ∧ v = bareW v ++ [b] := by
        unfold bareW at hv ⊢
        cases hb : v.getLast? with
        | none => rw [hb] at hv; exact absurd rfl hv
        | some b =>
          rw [hb] at hv
          simp only at hv ⊢
          by_cases hs : signB b = true
          · rw [if_pos hs]
            refine ⟨b, hs, ?_⟩
            have hvn : v ≠ [] := by rintro rfl; cases hb
            have h5 := List.dropLast_concat_getLast hvn
            rw [List.getLast?_eq_some_getLast hvn] at hb
            rw [Option.some.inj hb] at h5
            exact h5.symm
          · rw [if_neg hs] at hv; exact absurd rfl hv
      obtain ⟨b, hb, hvb⟩ := this
      refine ⟨true, ?_, by omega⟩
      rw [h2]
      refine has_true hb _ _ (take_at (j := j) ?_)
      rw [← hvb]; exact hsplit
theorem hit_none {l : List Str} {i j : Nat} (h : hitF l i j = none) {e : Bool} {c : api_Cite} (hc : citeB c = true) (hh : Has l e i (wordsB c)) : i + (wordsB c).length ≠ j := by
  rintro rfl
  unfold hitF at h
  simp only at h
  rcases has_take hh (words_ne hc) with ⟨_, hw⟩ | ⟨_, ini, s, b, h1, h2, h3⟩
  · rw [hw, read_words hc] at h; cases h
  · cases hr : rdF ((l.take (i + (wordsB c).length)).drop i) with
    | some d => rw [hr] at h; cases h
    | none =>
      rw [hr] at h
      simp only at h
      rw [h2, List.dropLast_concat, List.getLast?_concat] at h
      have : bareW (s ++ [b]) = s := by
        unfold bareW
        rw [List.getLast?_concat]
        simp only
        rw [if_pos h3, List.dropLast_concat]
      have h : rdF (ini ++ [bareW (s ++ [b])]) = none := h
      rw [this, ← h1, read_words hc] at h
      cases h
def atT (l : List Str) (i : Nat) : api_Cite × Bool := if 0 < (longF l i).At then (longF l i, true) else (zapi_Cite, false)
theorem setC_last {α : Type} (w : List α) (x : α) (h : w ≠ []) : setC w ((w.length - 1 : Nat) : Int) x = some (w.dropLast ++ [x]) := by
  obtain ⟨ini, y, rfl⟩ : ∃ ini y, w = ini ++ [y] := ⟨w.dropLast, w.getLast h, (List.dropLast_concat_getLast h).symm⟩
  have e : (((ini ++ [y]).length - 1 : Nat) : Int).toNat = ini.length := by simp
  unfold setC
  rw [if_pos ⟨by omega, by rw [e]; simp⟩, e, List.set_append_right _ _ (Nat.le_refl _), List.dropLast_concat]
  simp
theorem at_loop {l : List Str} (hl : Fine l) (i : Nat) (v : api_Cite) : ∀ (m j : Nat), j ≤ i + m → j ≤ l.length → (longF l i).At ≤ (j : Int) →
    To (fun n => M.r20_at_loop1 l (i : Int) n (j : Int) v) (if 0 < (longF l i).At then .inr (longF l i, true) else .inl v) := by
  intro m
  induction m with
  | zero =>
    intro j h1 h2 h3
    refine To.succ ?_
    simp only [M.r20_at_loop1]
    refine To.neg (by omega) (To.pure.of ?_)
    rw [if_neg ?_]
    intro hp
    obtain ⟨j', e, _, _, hj, _, hij, _, _⟩ := long_place hp
    omega
  | succ m ih =>
    intro j h1 h2 h3
    have hlen := hl.1
    refine To.succ ?_
    simp only [M.r20_at_loop1]
    by_cases hij : i < j
    · have hsub : subC (j : Int) (i : Int) = some ((j - i : Nat) : Int) := by rw [subC_eq (by omega) (by omega)]; congr 1; omega
      have hsub1 : subC (j : Int) (1 : Int) = some ((j - 1 : Nat) : Int) := by rw [subC_eq (by omega) (by omega)]; congr 1; omega
      refine To.pos (by omega) (To.bindS hsub ?_)
      have down : (longF l i).At ≠ (j : Int) → To (fun n => Option.bind (subC (j : Int) (1 : Int)) fun v2 => M.r20_at_loop1 l (i : Int) n v2 v) (if 0 < (longF l i).At then .inr (longF l i, true) else .inl v) := fun hne =>
        To.bindS hsub1 (ih (j - 1) (by omega) (by omega) (by omega))
      by_cases h23 : 23 < j - i
      · refine To.pos (by omega) (down ?_)
        intro e
        obtain ⟨j', e', hc, _, hj, hjw, _, _, _⟩ := long_place (l := l) (i := i) (by omega)
        have := toldL_le9 hc
        omega
      · have hne : (l.take j).drop i ≠ [] := List.length_pos_iff.1 (by rw [List.length_drop, List.length_take]; omega)
        have hwf : ∀ x ∈ (l.take j).drop i, x.length ≤ 1000000 := fun x hx => hl.2 x ((List.take_sublist _ _).subset ((List.drop_sublist _ _).subset hx))
        have hwl : ((l.take j).drop i).length = j - i := by rw [List.length_drop, List.length_take]; omega
        have hsl : slc l (i : Int) (j : Int) = some ((l.take j).drop i) := slc_nat l i j (by omega) h2
        -- what is found ends here
        have found : ∀ c, hitF l i j = some c → 0 < (longF l i).At ∧ ({ ({ c with From := (i : Int) } : api_Cite) with At := (j : Int) } : api_Cite) = longF l i := fun c hc => by
          obtain ⟨q1, _, _, e, q2, q3⟩ := hit_some hij h2 hc
          have hmax : ∀ (e' : Bool) (c' : api_Cite), citeB c' = true → Has l e' i (wordsB c') → (wordsB c').length ≤ (wordsB c).length := fun e' c' r1 r2 => by
            have := long_far i r1 r2
            omega
          have := long_is q1 q2 hmax
          rw [this]
          refine ⟨by show (0 : Int) < ((i + (wordsB c).length : Nat) : Int); omega, ?_⟩
          rw [q3]
        have lost : hitF l i j = none → (longF l i).At ≠ (j : Int) := fun hn e => by
          obtain ⟨j', e', hc, _, hj, hjw, _, _, hh⟩ := long_place (l := l) (i := i) (by omega)
          exact hit_none hn hc hh (by omega)
        unfold hitF at found lost
        simp only at found lost
        have hap : appC ([] : List Str) ((l.take j).drop i) = some ((l.take j).drop i) := appC_eq (by rw [hwl]; simp; omega)
        generalize (l.take j).drop i = w at hne hwf hwl hsl hap found lost ⊢
        have hwF : Fine w := ⟨by omega, hwf⟩
        refine To.neg (by omega) (To.bindS hsl (To.bindS hap (To.bind (read_t hwF) ?_)))
        cases hr : rdF w with
        | some c =>
          rw [hr] at found
          obtain ⟨f1, f2⟩ := found c rfl
          have hR : readT w = (c, true) := by unfold readT; rw [hr]
          rw [hR]
          refine To.neg (by simp) (To.bind (a := (true, c)) To.pure (To.pos rfl (To.pure.of ?_)))
          rw [if_pos f1, f2]
        | none =>
          have hR : readT w = (zapi_Cite, false) := by unfold readT; rw [hr]
          rw [hr] at found lost
          simp only at found lost
          rw [hR]
          have hla := List.getLast?_eq_some_getLast hne
          generalize w.getLast hne = x at hla
          rw [hla] at found lost
          have hxm : x.length ≤ 1000000 := hwf x (List.mem_of_getLast? hla)
          have hwsub : subC (w.length : Int) (1 : Int) = some ((w.length - 1 : Nat) : Int) := by rw [subC_eq (by omega) (by omega)]; congr 1; omega
          have hxi : idx w ((w.length - 1 : Nat) : Int) = some x := by rw [idx_nat, ← List.getLast?_eq_getElem?]; exact hla
          have hset := setC_last w (bareW x) hne
          have hbl : (bareW x).length ≤ x.length := by
            unfold bareW
            split
            · split
              · rw [List.length_dropLast]; omega
              · omega
            · omega
          have hw'F : Fine (w.dropLast ++ [bareW x]) := by
            refine ⟨by rw [List.length_append, List.length_dropLast]; simp; omega, fun y hy => ?_⟩
            rcases List.mem_append.1 hy with hy | hy
            · exact hwf y (mem_dl hy)
            · rw [List.mem_singleton.1 hy]; omega
          have found : ∀ c, rdF (w.dropLast ++ [bareW x]) = some c → 0 < (longF l i).At ∧ ({ ({ c with From := (i : Int) } : api_Cite) with At := (j : Int) } : api_Cite) = longF l i := found
          have lost : rdF (w.dropLast ++ [bareW x]) = none → (longF l i).At ≠ (j : Int) := lost
          refine To.pos rfl ?_
          refine To.bind (a := ((readT (w.dropLast ++ [bareW x])).2, (readT (w.dropLast ++ [bareW x])).1)) (To.bindS hwsub (To.bindS hwsub (To.bindS hxi (To.bindS (bare_t x hxm) (To.bindS hxi (To.bindS hset (To.bind (read_t hw'F) To.pure))))))) ?_
          unfold readT
          cases hr2 : rdF (w.dropLast ++ [bareW x]) with
          | some c =>
            obtain ⟨f1, f2⟩ := found c hr2
            refine To.pos rfl (To.pure.of ?_)
            rw [if_pos f1]
            simp only
            rw [f2]
          | none => exact To.neg (by simp) (down (lost hr2))
    · refine To.neg (by omega) (To.pure.of ?_)
      rw [if_neg ?_]
      intro hp
      obtain ⟨j', e, _, _, hj, _, hij', _, _⟩ := long_place hp
      omega
theorem at_t {l : List Str} (hl : Fine l) (i : Nat) : To (fun n => M.r20_at n l (i : Int)) (atT l i) := by
  simp only [M.r20_at]
  have hle : (longF l i).At ≤ (l.length : Int) := by
    by_cases hp : 0 < (longF l i).At
    · obtain ⟨j, _, _, _, hj, _, _, hjl, _⟩ := long_place hp
      omega
    · omega
  refine To.bind (at_loop hl i zapi_Cite l.length l.length (by omega) (Nat.le_refl _) hle) ?_
  unfold atT
  by_cases hp : 0 < (longF l i).At
  · rw [if_pos hp, if_pos hp]; exact To.pure
  · rw [if_neg hp, if_neg hp]; exact To.pure
theorem rscan_loop {l : List Str} (hl : Fine l) (hlen : l.length ≤ 100000) : ∀ (k i : Nat) (out : List api_Cite), l.length < i + k → i ≤ l.length → out.length ≤ i → To (fun n => M.r20_Scan_loop1 l n out (i : Int)) (out ++ scanF l k i) := by
  intro k
  induction k with
  | zero => intro i out h1 h2; omega
  | succ k ih =>
    intro i out h1 h2 h3
    refine To.succ ?_
    simp only [M.r20_Scan_loop1]
    unfold scanF
    by_cases hi : i < l.length
    · rw [if_pos hi]
      refine To.pos (by omega) (To.bind (at_t hl i) ?_)
      unfold atT
      by_cases hp : 0 < (longF l i).At
      · rw [if_pos hp, if_pos hp]
        obtain ⟨j, e, _, _, hj, _, hij, hjl, _⟩ := long_place hp
        refine To.pos rfl (To.bindS (appC_eq (by simp; omega)) ?_)
        have := ih j (out ++ [longF l i]) (by omega) hjl (by simp; omega)
        rw [← hj] at this
        refine this.of ?_
        rw [hj]; simp
      · rw [if_neg hp, if_neg hp]
        refine To.neg (by simp) ?_
        rw [cast_succ]
        exact ih (i + 1) out (by omega) (by omega) (by omega)
    · rw [if_neg hi]
      exact To.neg (by omega) (To.pure.of (by simp))
theorem all_refl (a : List api_Cite) : To (fun n => M.r20_All n a a) true := by
  have loop : ∀ (xs : List api_Cite) (i : Nat), a.drop i = xs → To (fun n => M.r20_All_loop1 a a n (i : Int)) (.inl ()) := by
    intro xs
    induction xs with
    | nil =>
      intro i hx
      refine To.succ ?_
      simp only [M.r20_All_loop1]
      exact To.neg (drop_end hx) To.pure
    | cons x xs ih =>
      intro i hx
      refine To.succ ?_
      simp only [M.r20_All_loop1]
      refine To.pos (drop_lt hx) (To.bindS (drop_idx hx) (To.bindS (drop_idx hx) (To.bind (csame_refl x) (To.neg (by simp) ?_))))
      rw [cast_succ]
      exact ih (i + 1) (drop_next hx)
  simp only [M.r20_All]
  exact To.neg (by simp) (To.bind (loop a 0 rfl) To.pure)
theorem scans_true (l : List Str) (hf : ∀ s ∈ l, s.length ≤ 140737488355328) : ∃ n, M.law20_CitationScans n l = some true := by
  refine To.ex ?_
  simp only [M.law20_CitationScans]
  obtain ⟨b, hb, hb2⟩ := long_ok hf
  refine To.bindS hb ?_
  cases b with
  | true => exact To.pos rfl (To.bind awake20 To.pure)
  | false =>
    obtain ⟨h1, h2⟩ := hb2 rfl
    have hF := fine_of h1 h2
    have hr : To (fun n => M.r20_Scan n l) (scanF l (l.length + 1) 0) := by
      simp only [M.r20_Scan]
      exact To.bind (rscan_loop hF (by omega) (l.length + 1) 0 [] (by omega) (by omega) (by simp)) (To.pure.of (by simp))
    exact To.neg (by simp) (To.bind (scan_t hF (by omega)) (To.bind hr (To.bind (all_refl _) (To.pos rfl (To.bind awake20 To.pure)))))
theorem of_not {l : List Str} {e : Bool} {i k : Nat} {c : api_Cite} (hc : citeB c = true) (h : Has l e i (wordsB c)) (hk : k < (wordsB c).length) : l[i + k]? ≠ some ofW := by
  intro ho
  obtain ⟨w, hw, hr⟩ := h.at k hk
  have hg := words_good hc w hw
  rcases hr with hr | ⟨b, hr, hb⟩
  · rw [ho] at hr
    exact gw_of hg (Option.some.inj hr).symm
  · rw [ho] at hr
    have hr := Option.some.inj hr
    have h2 := congrArg List.getLast? hr
    rw [List.getLast?_concat] at h2
    have : b = 102 := (Option.some.inj h2).symm
    subst this
    exact absurd hb (by decide)
theorem scan_skip {l : List Str} : ∀ (d i k : Nat), i + d ≤ l.length → (∀ i', i ≤ i' → i' < i + d → longF l i' = zapi_Cite) → scanF l (k + d) i = scanF l k (i + d)
  | 0, i, k, _, _ => rfl
  | d + 1, i, k, hl, h => by
    have h0 := h i (Nat.le_refl _) (by omega)
    rw [show k + (d + 1) = (k + d) + 1 by omega, scanF, if_pos (by omega), h0, if_neg (by decide), scan_skip d (i + 1) k (by omega) (fun i' h1 h2 => h i' (by omega) (by omega))]
    congr 1
    omega
theorem scan_nothing {l : List Str} : ∀ (k i : Nat), (∀ i', i ≤ i' → i' < l.length → longF l i' = zapi_Cite) → scanF l k i = []
  | 0, _, _ => rfl
  | k + 1, i, h => by
    rw [scanF]
    by_cases hi : i < l.length
    · rw [if_pos hi, h i (Nat.le_refl _) hi, if_neg (by decide)]
      exact scan_nothing k (i + 1) (fun i' h1 h2 => h i' (by omega) h2)
    · rw [if_neg hi]
theorem ctx_scan {l ws' : List Str} {a b : Nat} {e : Bool} {c : api_Cite} (hc : citeB c = true) (hlen : ws'.length = (wordsB c).length)
    (hl : l = List.replicate a ofW ++ ws' ++ List.replicate b ofW) (hh : Has l e a (wordsB c)) : scanF l (l.length + 1) 0 = [{ c with From := (a : Int), At := ((a + (wordsB c).length : Nat) : Int) }] := by
  have hpos := List.length_pos_iff.2 (words_ne hc)
  have hll : l.length = a + ws'.length + b := by rw [hl]; simp; omega
  have hof : ∀ i, i < l.length → (i < a ∨ a + ws'.length ≤ i) → l[i]? = some ofW := fun i hi h => by
    rw [hl]
    rcases h with h | h
    · rw [List.append_assoc, List.getElem?_append_left (by simpa using h), List.getElem?_replicate, if_pos h]
    · rw [List.getElem?_append_right (by simp; omega), List.getElem?_replicate, if_pos (by simp; omega)]
  have hz : ∀ i, i < l.length → (i < a ∨ a + ws'.length ≤ i) → longF l i = zapi_Cite := fun i hi h => long_none fun e' c' h1 h2 =>
    of_not (k := 0) h1 h2 (List.length_pos_iff.2 (words_ne h1)) (hof i hi h)
  have hL := long_is hc hh (fun e' c' h1 h2 => by
    refine Nat.le_of_not_lt fun hlt => ?_
    have hin := h2.lt (words_ne h1)
    exact of_not h1 h2 hlt (hof _ (by omega) (.inr (by omega))))
  rw [show l.length + 1 = (ws'.length + b + 1) + a by omega, scan_skip a 0 _ (by omega) (fun i' _ h2 => hz i' (by omega) (.inl (by omega)))]
  rw [Nat.zero_add, scanF, if_pos (by omega), hL]
  rw [if_pos (show (0 : Int) < ((a + (wordsB c).length : Nat) : Int) by omega)]
  congr 1
  show scanF l _ (((a + (wordsB c).length : Nat) : Int)).toNat = []
  rw [Int.toNat_natCast]
  exact scan_nothing _ _ (fun i' h1 h2 => hz i' h2 (.inr (by omega)))
theorem ctx_loop1 (a : Nat) (x : Int) (hx : x.tmod 9 = (a : Int)) (ha : a ≤ 9) : ∀ (m i : Nat), i + m = a → To (fun n => M.law20_CitationInContext_loop1 x n (List.replicate i ofW) (i : Int)) (List.replicate a ofW) := by
  intro m
  induction m with
  | zero =>
    intro i h
    refine To.succ ?_
    simp only [M.law20_CitationInContext_loop1]
    exact To.neg (by rw [hx]; omega) (To.pure.of (by rw [show i = a by omega]))
  | succ m ih =>
    intro i h
    refine To.succ ?_
    simp only [M.law20_CitationInContext_loop1]
    refine To.pos (by rw [hx]; omega) (To.bindS (appC_eq (by simp; omega)) (To.bindS (addC_succ (by omega)) ?_))
    have := ih (i + 1) (by omega)
    rw [List.replicate_succ'] at this
    exact this
theorem ctx_loop2 (l : List Str) (hl : l.length ≤ 100000) (b : Nat) (x : Int) (hx : x.tmod 9 = (b : Int)) (hb : b ≤ 9) : ∀ (m i : Nat), i + m = b → To (fun n => M.law20_CitationInContext_loop2 x n (l ++ List.replicate i ofW) (i : Int)) (l ++ List.replicate b ofW) := by
  intro m
  induction m with
  | zero =>
    intro i h
    refine To.succ ?_
    simp only [M.law20_CitationInContext_loop2]
    exact To.neg (by rw [hx]; omega) (To.pure.of (by rw [show i = b by omega]))
  | succ m ih =>
    intro i h
    refine To.succ ?_
    simp only [M.law20_CitationInContext_loop2]
    refine To.pos (by rw [hx]; omega) (To.bindS (appC_eq (by simp; omega)) (To.bindS (addC_succ (by omega)) ?_))
    have := ih (i + 1) (by omega)
    rw [List.replicate_succ', ← List.append_assoc] at this
    exact this
theorem tmod_nat {x : Int} (h0 : 0 ≤ x) (n : Nat) (hn : 0 < n) : ∃ a : Nat, x.tmod (n : Int) = (a : Int) ∧ a < n := by
  obtain ⟨k, rfl⟩ : ∃ k : Nat, x = (k : Int) := ⟨x.toNat, by omega⟩
  exact ⟨k % n, rfl, Nat.mod_lt _ hn⟩
theorem has_of {l ws : List Str} {a : Nat} {pre post : List Str} (hl : l = pre ++ ws ++ post) (ha : pre.length = a) : Has l false a ws := has_false ws a fun k v hk => by
  have hkl := (List.getElem?_eq_some_iff.1 hk).1
  rw [hl, List.getElem?_append_left (by rw [List.length_append]; omega), List.getElem?_append_right (by omega), ← ha, show pre.length + k - pre.length = k by omega]
  exact hk
theorem has_ofT {l ini : List Str} {s : Str} {b : UInt8} (hb : signB b = true) {a : Nat} {pre post : List Str} (hl : l = pre ++ (ini ++ [s ++ [b]]) ++ post) (ha : pre.length = a) : Has l true a (ini ++ [s]) := has_true hb ini a fun k v hk => by
  have hkl := (List.getElem?_eq_some_iff.1 hk).1
  rw [hl, List.getElem?_append_left (by rw [List.length_append]; omega), List.getElem?_append_right (by omega), ← ha, show pre.length + k - pre.length = k by omega]
  exact hk
def sgnL : List Str := [([] : Str), ([44] : Str), ([59] : Str), ([46] : Str), ([58] : Str), ([41] : Str)]
theorem sgn_at (m : Nat) (hm : m < 6) : ∃ t, idx sgnL (m : Int) = some t ∧ (t = [] ∨ ∃ b, t = [b] ∧ signB b = true) := by
  have : m = 0 ∨ m = 1 ∨ m = 2 ∨ m = 3 ∨ m = 4 ∨ m = 5 := by omega
  rcases this with rfl | rfl | rfl | rfl | rfl | rfl
  · exact ⟨[], rfl, .inl rfl⟩
  · exact ⟨[44], rfl, .inr ⟨44, rfl, by decide⟩⟩
  · exact ⟨[59], rfl, .inr ⟨59, rfl, by decide⟩⟩
  · exact ⟨[46], rfl, .inr ⟨46, rfl, by decide⟩⟩
  · exact ⟨[58], rfl, .inr ⟨58, rfl, by decide⟩⟩
  · exact ⟨[41], rfl, .inr ⟨41, rfl, by decide⟩⟩
theorem incontext_true (c : api_Cite) (x y z : Int) (hf : fits c) (hx : 0 ≤ x ∧ x ≤ 255) (hy : 0 ≤ y ∧ y ≤ 255) (hz : 0 ≤ z ∧ z ≤ 255) : ∃ n, M.law20_CitationInContext n c x y z = some true := by
  refine To.ex ?_
  simp only [M.law20_CitationInContext]
  obtain ⟨b, hb, hb2⟩ := wide_ok c hf
  cases b with
  | true => exact To.bind (a := true) (To.bindS hb (To.pos rfl To.pure)) (To.pos rfl (To.bind awake20 To.pure))
  | false =>
    obtain ⟨h12, hto, hla⟩ := hb2 rfl
    have hmay := cmay_ok c (fun y hy => by have := hla y hy; omega) (by omega)
    refine To.bind (a := !citeB c) (To.bindS hb (To.neg (by simp) (To.bind hmay To.pure))) ?_
    by_cases h : citeB c = true
    · obtain ⟨p, hp, hp9⟩ := tmod_nat hx.1 9 (by decide)
      obtain ⟨q, hq, hq9⟩ := tmod_nat hy.1 9 (by decide)
      obtain ⟨m, hm, hm6⟩ := tmod_nat hz.1 6 (by decide)
      obtain ⟨t, ht, htc⟩ := sgn_at m hm6
      have hne := words_ne h
      have hg := words_total h
      obtain ⟨hFw, hwl⟩ := words_fine h
      have hpos := List.length_pos_iff.2 hne
      have hlast := List.getLast?_eq_some_getLast hne
      have hsplit := (List.dropLast_concat_getLast hne).symm
      generalize (wordsB c).getLast hne = v at hlast hsplit
      have hvl : v.length ≤ 300 := good_len hg v (List.mem_of_getLast? hlast)
      have htl : t.length ≤ 1 := by rcases htc with rfl | ⟨b, rfl, _⟩ <;> simp
      -- the list as it grows
      have hl2 : appC (List.replicate p ofW) (wordsB c) = some (List.replicate p ofW ++ wordsB c) := appC_eq (by simp; omega)
      have hlen2 : (List.replicate p ofW ++ wordsB c).length = p + (wordsB c).length := by simp
      have hne2 : List.replicate p ofW ++ wordsB c ≠ [] := by simp [hne]
      have hsub : subC ((List.replicate p ofW ++ wordsB c).length : Int) (1 : Int) = some (((List.replicate p ofW ++ wordsB c).length - 1 : Nat) : Int) := by rw [subC_eq (by omega) (by omega)]; congr 1; omega
      have hidx : idx (List.replicate p ofW ++ wordsB c) (((List.replicate p ofW ++ wordsB c).length - 1 : Nat) : Int) = some v := by
        rw [idx_nat, ← List.getLast?_eq_getElem?, List.getLast?_append, hlast]; rfl
      have hset := setC_last (List.replicate p ofW ++ wordsB c) (v ++ t) hne2
      have hdl : (List.replicate p ofW ++ wordsB c).dropLast ++ [v ++ t] = List.replicate p ofW ++ ((wordsB c).dropLast ++ [v ++ t]) := by
        rw [List.dropLast_append_of_ne_nil hne, List.append_assoc]
      rw [hdl] at hset
      have hcat : catC v t = some (v ++ t) := catC_eq (by omega)
      refine To.neg (by simp [h]) (To.bind (format_c c) (To.bind (pieces_fmt h) (To.bind (ctx_loop1 p x hp (by omega) p 0 (by omega)) (To.bindS hl2 (To.bindS hsub (To.bindS hidx (To.bindS (a := t) ?_ (To.bindS hcat (To.bindS hidx (To.bindS hset ?_))))))))))
      · show idx sgnL (z.tmod ((6 : Nat) : Int)) = some t
        rw [hm]; exact ht
      · generalize hws' : (wordsB c).dropLast ++ [v ++ t] = ws' at hset ⊢
        have hws'l : ws'.length = (wordsB c).length := by rw [← hws', List.length_append, List.length_dropLast]; simp; omega
        have h2 := ctx_loop2 (List.replicate p ofW ++ ws') (by simp; omega) q y hq (by omega) q 0 (by omega)
        rw [show List.replicate 0 ofW = [] from rfl, List.append_nil] at h2
        refine To.bind h2 ?_
        generalize hL : List.replicate p ofW ++ ws' ++ List.replicate q ofW = L
        have hLl : L.length = p + ws'.length + q := by rw [← hL]; simp; omega
        have hLF : Fine L := by
          refine ⟨by omega, fun w hw => ?_⟩
          rw [← hL, ← hws'] at hw
          rcases List.mem_append.1 hw with hw | hw
          · rcases List.mem_append.1 hw with hw | hw
            · rw [(List.mem_replicate.1 hw).2]; decide
            · rcases List.mem_append.1 hw with hw | hw
              · exact hFw.2 w (mem_dl hw)
              · rw [List.mem_singleton.1 hw, List.length_append]; omega
          · rw [(List.mem_replicate.1 hw).2]; decide
        have hh : ∃ e, Has L e p (wordsB c) := by
          rcases htc with rfl | ⟨b, rfl, hb⟩
          · rw [List.append_nil] at hws'
            rw [← hws', ← hsplit] at hL
            exact ⟨false, has_of hL.symm (by simp)⟩
          · rw [hsplit]
            rw [← hws'] at hL
            exact ⟨true, has_ofT hb hL.symm (by simp)⟩
        obtain ⟨e, hh⟩ := hh
        have hsc := ctx_scan h hws'l hL.symm hh
        refine To.bind ((scan_t hLF (by omega)).of hsc) (To.pos (by simp) (To.bindS idx_zero ?_))
        have hE : ({ ({ c with From := ((List.replicate p ofW).length : Int) } : api_Cite) with At := ((List.replicate p ofW ++ wordsB c).length : Int) } : api_Cite) = { c with From := (p : Int), At := ((p + (wordsB c).length : Nat) : Int) } := by
          rw [hlen2, List.length_replicate]
        rw [hE]
        exact To.bind (cequal_refl _) (To.pos rfl (To.bind awake20 To.pure))
    · exact To.pos (by simpa using h) (To.bind awake20 To.pure)
end Go.Proofs.YtnmkblpbmoikpaaDoor
