/-
  Chapter 41: full addresses and ranges.
-/
import Derived.Test.YtlegkjbldofkmaaPf
set_option linter.unusedVariables false
set_option linter.unusedSimpArgs false
namespace Go.Proofs.Ytlegkjbldofkmaa
open Go Go.Dec

/-! ## Plain citations by an address -/

/-- The full address of a unit below the root. -/
theorem whole_facts (u : api_Unit) (hc : cnt u ≤ 10000) (hl : labs u) (hg : Good u) (x : api_Unit) (hx : x ∈ desc u) (hne : x.Id ≠ u.Id) :
    ∃ q, To (fun n => M.r07_Whole n u x.Id) ((⟨0, []⟩ : api_Step) :: q, true) ∧ 0 < q.length ∧ q.length ≤ 8 ∧ stepsB q = true ∧ units u ((⟨0, []⟩ : api_Step) :: q) = [x] ∧ q.getLast? = some (stepOf x) ∧ small ((⟨0, []⟩ : api_Step) :: q) := by
  obtain ⟨y0, hy0⟩ := find_some x.Id u x hx rfl
  obtain ⟨w, hw⟩ : ∃ w, pathO x.Id u = some w := by
    cases hp : pathO x.Id u with
    | none => rw [(path_none hp).2] at hy0; cases hy0
    | some w => exact ⟨w, rfl⟩
  obtain ⟨x', hxi, hun⟩ := units_full u hg x.Id w hw
  have hxx : x' = x := nodup_eq hg.apart (units_sub u _ x' (by rw [hun]; simp)) hx hxi
  subst hxx
  have hwh := whole_ok x'.Id u hc
  have hst : stepsO x'.Id u = some (w.tail.map stepOf) := by unfold stepsO; rw [hw]; rfl
  rw [hst] at hwh
  have h2 := (path_two (Ne.symm hne) hw).1
  have hdeep := path_deep x'.Id u w hw
  have hd8 := hg.deep
  have hend : w.getLast? = some x' := by
    obtain ⟨z, hz, hzid⟩ := way_end x'.Id u w hw
    have hzm := (way_desc x'.Id u w hw z (List.mem_of_getLast? hz)).1
    rw [hz, nodup_eq hg.apart hzm hx hzid]
  refine ⟨w.tail.map stepOf, hwh, by simp; omega, by simp; omega, steps_valid x'.Id u hg.fine w hw, hun, ?_, ?_⟩
  · rw [List.getLast?_map]
    have : w.tail.getLast? = some x' := by
      match w, h2, hend with
      | a :: b :: w', _, hend => rw [List.getLast?_cons_cons] at hend; exact hend
    rw [this]; rfl
  · intro y hy
    rcases List.mem_cons.1 hy with rfl | hy
    · simp
    · obtain ⟨z, hz, rfl⟩ := List.mem_map.1 hy
      have hzm := (way_desc x'.Id u w hw z (List.mem_of_mem_tail hz)).1
      have := (hl z hzm).1
      simp only [stepOf]; omega

theorem bare_book (q : List api_Step) : bare ((⟨0, []⟩ : api_Step) :: q) = q := rfl

theorem steps_drop : ∀ (q : List api_Step) (m : Nat), stepsB q = true → stepsB (q.drop m) = true
  | [], m, _ => by simp [stepsB]
  | s :: q, 0, h => h
  | s :: q, m + 1, h => by
    simp only [stepsB, Bool.and_eq_true] at h
    exact steps_drop q m h.2

theorem bare_steps {q : List api_Step} (h : stepsB q = true) : bare q = q := by
  cases q with
  | nil => rfl
  | cons s q =>
    simp only [stepsB, Bool.and_eq_true] at h
    have h1 := h.1
    unfold stepB at h1
    simp only [Bool.and_eq_true, decide_eq_true_eq] at h1
    rw [bare.eq_2]
    have : bookB s = false := by
      unfold bookB
      have : ¬ s.Kind = 0 := by omega
      simp [this]
    rw [this]; rfl

/-- A plain citation by an address that matches one unit. -/
theorem plain_one (u : api_Unit) (hc : cnt u ≤ 30) (at0 : api_Id) (p : List api_Step) (id : api_Id) (h9 : p.length ≤ 9) (hp : plainB p = true) (hu : (units u p).map api_Unit.Id = [id]) :
    To (fun n => M.resolve_Resolve n u at0 (⟨0, p, [], 0, 0⟩ : api_Cite) []) ([id], 0) := by
  have hcb : citeB (⟨0, p, [], 0, 0⟩ : api_Cite) = true := by
    rw [cite04 (c := (⟨0, p, [], 0, 0⟩ : api_Cite)) (by simp; omega) (.inl rfl)]
    simp only [hp]; rfl
  have := resolve_of u at0 (⟨0, p, [], 0, 0⟩ : api_Cite) [] (fun n => M.resolve_plain n) (fun n => rfl) (fun n => rfl) (r := plainR u p) (fun _ => plain_u u hc at0 [] _)
  rw [if_pos hcb] at this
  refine this.of ?_
  unfold plainR
  rw [hu]; rfl

theorem short_loop41 (u : api_Unit) (hc : cnt u ≤ 10000) (id : api_Id) (p : List api_Step) (hp : p.length ≤ 10000) (hsm : small p) : ∀ (d k : Nat), p.length - k ≤ d → 1 ≤ k →
    ∃ r, To (fun n => M.r07_Short_loop1 u id (p, true) n (k : Int)) r ∧ (r = .inl () ∨ ∃ m, 1 ≤ m ∧ m < p.length ∧ r = .inr (p.drop (p.length - m), true) ∧ (units u (p.drop (p.length - m))).map api_Unit.Id = [id]) := by
  intro d
  induction d with
  | zero =>
    intro k hd hk
    refine ⟨.inl (), To.succ ?_, .inl rfl⟩
    simp only [M.r07_Short_loop1]
    exact To.neg (by omega) To.pure
  | succ d ih =>
    intro k hd hk
    by_cases hkl : k < p.length
    · have hsub : subC (p.length : Int) (k : Int) = some ((p.length - k : Nat) : Int) := by
        rw [subC_eq (by omega) (by omega)]; congr 1; omega
      have hslc : slcLo p ((p.length - k : Nat) : Int) = some (p.drop (p.length - k)) := by
        unfold slcLo
        rw [if_pos ⟨by omega, by omega⟩]
        simp
      have hfind := find_r u (p.drop (p.length - k)) hc (fun y hy => hsm y (List.mem_of_mem_drop hy))
      obtain ⟨r, h1, h2⟩ := ih (k + 1) (by omega) (by omega)
      have hgo : To (fun n => M.r07_Short_loop1 u id (p, true) n ((k : Int) + 1)) r := by rw [cast_succ]; exact h1
      by_cases hone : (units u (p.drop (p.length - k))).map api_Unit.Id = [id]
      · refine ⟨.inr (p.drop (p.length - k), true), To.succ ?_, .inr ⟨k, hk, hkl, rfl, hone⟩⟩
        rw [hone] at hfind
        simp only [M.r07_Short_loop1]
        exact To.pos (by omega) (To.bindS hsub (To.bindS hslc (To.bind hfind (To.pos (by simp) (To.bindS idx_zero (To.pos rfl To.pure))))))
      · refine ⟨r, To.succ ?_, h2⟩
        simp only [M.r07_Short_loop1]
        refine To.pos (by omega) (To.bindS hsub (To.bindS hslc (To.bind hfind ?_)))
        by_cases h1' : ((((units u (p.drop (p.length - k))).map api_Unit.Id).length : Nat) : Int) = 1
        · refine To.pos h1' ?_
          match hm : (units u (p.drop (p.length - k))).map api_Unit.Id with
          | [] => rw [hm] at h1'; simp at h1'
          | [z] =>
            refine To.bindS idx_zero (To.neg ?_ hgo)
            intro e
            rw [hm, e] at hone
            exact hone rfl
          | a :: b :: r => rw [hm] at h1'; simp at h1'; omega
        · exact To.neg h1' hgo
    · refine ⟨.inl (), To.succ ?_, .inl rfl⟩
      simp only [M.r07_Short_loop1]
      exact To.neg (by omega) To.pure

theorem root_first (u : api_Unit) (hg : Good u) {i : Nat} {x : api_Unit} (hi : 1 ≤ i) (hx : (desc u)[i]? = some x) : x.Id ≠ u.Id := by
  have hn := hg.apart
  rw [desc_eq] at hx hn
  obtain ⟨j, rfl⟩ : ∃ j, i = j + 1 := ⟨i - 1, by omega⟩
  rw [List.getElem?_cons_succ] at hx
  rw [List.map_cons, List.nodup_cons] at hn
  intro e
  exact hn.1 (e ▸ List.mem_map_of_mem (List.mem_of_getElem? hx))

theorem full_loop41 (u : api_Unit) (hc : cnt u ≤ 30) (hl : labs u) (hg : Good u) (at0 : api_Id) : ∀ (xs : List api_Unit) (i : Nat), 1 ≤ i → (desc u).drop i = xs →
    To (fun n => M.law41_ResolveFullAddress_loop1 u at0 ((desc u).map api_Unit.Id) n (i : Int)) (.inl ()) := by
  intro xs
  induction xs with
  | nil =>
    intro i hi hx
    refine To.succ ?_
    simp only [M.law41_ResolveFullAddress_loop1]
    refine To.neg ?_ To.pure
    have := drop_end hx
    simpa using this
  | cons x xs ih =>
    intro i hi hx
    have hxi := (drop_cons hx).2.1
    have hxm := List.mem_of_getElem? hxi
    have hne := root_first u hg hi hxi
    obtain ⟨q, hwh, hq0, hq8, hst, hun, _, hsm⟩ := whole_facts u (by omega) hl hg x hxm hne
    have hat : idx ((desc u).map api_Unit.Id) (i : Int) = some x.Id := by rw [idx_nat, List.getElem?_map, hxi]; rfl
    have hpl : plainB ((⟨0, []⟩ : api_Step) :: q) = true := by unfold plainB; rw [bare_book, hst]; simp [hq0]
    have hr1 := plain_one u hc at0 ((⟨0, []⟩ : api_Step) :: q) x.Id (by simp; omega) hpl (by rw [hun]; rfl)
    obtain ⟨r, h1, h2⟩ := short_loop41 u (by omega) x.Id ((⟨0, []⟩ : api_Step) :: q) (by simp; omega) hsm ((⟨0, []⟩ : api_Step) :: q).length 1 (by omega) (Nat.le_refl _)
    obtain ⟨s, hs1, hs2⟩ : ∃ s, To (fun n => M.r07_Short n u x.Id) (s, true) ∧ To (fun n => M.resolve_Resolve n u at0 (⟨0, s, [], 0, 0⟩ : api_Cite) []) ([x.Id], 0) := by
      rcases h2 with rfl | ⟨m, hm1, hm2, rfl, hm3⟩
      · refine ⟨_, ?_, hr1⟩
        simp only [M.r07_Short]
        exact To.bind hwh (To.neg (by simp) (To.bind h1 To.pure))
      · refine ⟨_, ?_, plain_one u hc at0 _ x.Id (by simp; omega) ?_ hm3⟩
        · simp only [M.r07_Short]
          exact To.bind hwh (To.neg (by simp) (To.bind h1 To.pure))
        · obtain ⟨j, hj⟩ : ∃ j, ((⟨0, []⟩ : api_Step) :: q).length - m = j + 1 := ⟨((⟨0, []⟩ : api_Step) :: q).length - m - 1, by omega⟩
          rw [hj, List.drop_succ_cons]
          have hjl : j < q.length := by simp at hj; omega
          have hd := steps_drop q j hst
          unfold plainB
          rw [bare_steps hd, hd]
          simp; omega
    refine To.succ ?_
    simp only [M.law41_ResolveFullAddress_loop1]
    rw [cast_succ]
    refine To.pos (by have := drop_lt hx; simpa using this) (To.bindS hat (To.bind hwh (To.bindS hat (To.bind hs1 (To.bind hr1 (To.bind hs2 (To.neg (by simp) (To.neg (by simp) (To.bindS idx_zero (To.bindS hat (To.neg (by simp) (To.neg (by simp) (To.neg (by simp) (To.bindS idx_zero (To.bindS hat (To.neg (by simp) (ih (i + 1) (by omega) (drop_next hx))))))))))))))))))

theorem fulladdress_true (u : api_Unit) (at0 : api_Id) : ∃ n, M.law41_ResolveFullAddress n u at0 = some true := by
  refine To.ex ?_
  simp only [M.law41_ResolveFullAddress]
  refine To.bind awake41 (To.neg (by simp) ?_)
  obtain ⟨b, hb, hbk⟩ := book41 u
  cases b with
  | false => exact To.bind hb (To.pos rfl To.pure)
  | true =>
    obtain ⟨hc, hl, hg⟩ := hbk rfl
    exact To.bind hb (To.neg (by simp) (To.bind (all_ok u (by omega)) (To.bind (full_loop41 u hc hl hg at0 _ 1 (Nat.le_refl _) rfl) To.pure)))

/-! ## Ranges of kids -/

theorem has_par (u : api_Unit) : ∀ x, x ∈ desc u → x = u ∨ ∃ (p : api_Unit) (j : Nat), p ∈ desc u ∧ p.Kids[j]? = some x := by
  refine uind (P := fun u => ∀ x, x ∈ desc u → x = u ∨ ∃ (p : api_Unit) (j : Nat), p ∈ desc u ∧ p.Kids[j]? = some x) ?_ u
  intro u ih x hx
  rw [desc_eq] at hx
  rcases List.mem_cons.1 hx with rfl | hx
  · exact .inl rfl
  · obtain ⟨c, hc, hxc⟩ := List.mem_flatMap.1 hx
    rcases ih c hc x hxc with rfl | ⟨p, j, h1, h2⟩
    · obtain ⟨j, hj⟩ := List.getElem?_of_mem hc
      exact .inr ⟨u, j, desc_self u, hj⟩
    · exact .inr ⟨p, j, desc_kid hc h1, h2⟩

theorem parR_of (u : api_Unit) (hc : cnt u ≤ 10000) (hl : labs u) (hnd : ((desc u).map api_Unit.Id).Nodup) {id : api_Id} {p : api_Unit} {j : Nat} (h : isPar u id p j) : parR id u = (p.Id, (j : Int), true) := by
  obtain ⟨x, i, ok, h1, h2⟩ := row_ok41 id u hc hl hnd
  have hrow : To (fun n => M.resolve_row n u id) ((findR (parR id u).1 u).1, (parR id u).2.1, (parR id u).2.2) := by
    simp only [M.resolve_row]
    exact To.bind (par_u id u hc) (To.bind (find_u _ u hc hl) To.pure)
  have he := hrow.det h1
  simp only [Prod.mk.injEq] at he
  obtain ⟨e1, e2, e3⟩ := he
  rcases h2 with ⟨_, hno⟩ | ⟨rfl, j', rfl, hp'⟩
  · exact (hno _ _ h).elim
  · obtain ⟨rfl, rfl⟩ := par_unique u hnd _ _ _ _ hp' h
    have e4 : (parR id u).1 = x.Id := by
      cases hf : findO (parR id u).1 u with
      | none =>
        have : (findR (parR id u).1 u).1 = zapi_Unit := by unfold findR; rw [hf]
        rw [this] at e1
        obtain ⟨k, hk, _⟩ := hp'.2
        rw [← e1] at hk
        simp [zapi_Unit] at hk
      | some z =>
        have : (findR (parR id u).1 u).1 = z := by unfold findR; rw [hf]
        rw [this] at e1
        rw [← e1]
        exact (find_mem _ _ z hf).2.symm
    exact Prod.ext e4 (Prod.ext e2 e3)

theorem last_whole {q : List api_Step} {x : api_Unit} (h : q.getLast? = some (stepOf x)) : lastKind ((⟨0, []⟩ : api_Step) :: q) = x.Kind := by
  unfold lastKind
  cases q with
  | nil => simp at h
  | cons a q => rw [List.getLast?_cons_cons, h]; rfl

/-- A range between two kids of one parent and of one kind. -/
theorem range_one (u : api_Unit) (hc : cnt u ≤ 30) (hl : labs u) (hg : Good u) (at0 : api_Id) (p x y : api_Unit) (i j : Nat) (hp : p ∈ desc u) (hi : p.Kids[i]? = some x) (hj : p.Kids[j]? = some y) (hk : y.Kind = x.Kind) (h6 : x.Kind ≠ 6)
    (q : List api_Step) (hq0 : 0 < q.length) (hq8 : q.length ≤ 8) (hst : stepsB q = true) (hun : units u ((⟨0, []⟩ : api_Step) :: q) = [x]) (hla : q.getLast? = some (stepOf x)) (hsm : small ((⟨0, []⟩ : api_Step) :: q)) :
    To (fun n => M.resolve_Resolve n u at0 (⟨1, (⟨0, []⟩ : api_Step) :: q, y.Label, 0, 0⟩ : api_Cite) []) (if j < i then ([], 12) else (betwL p i j x.Kind, 0)) := by
  obtain ⟨r, hr1, _, hr3⟩ := range_ok u hc hl hg at0 [] (⟨1, (⟨0, []⟩ : api_Step) :: q, y.Label, 0, 0⟩ : api_Cite) hsm
  have hym := List.mem_of_getElem? hj
  have hyk : y.Kind ≠ 0 := (hg.fine p hp).kids y hym
  have hlab : labB y.Label = true := (hg.fine y (desc_sub hp y (mem_desc_kids hym))).label hyk
  have hcb : citeB (⟨1, (⟨0, []⟩ : api_Step) :: q, y.Label, 0, 0⟩ : api_Cite) = true := by
    rw [cite1 (c := (⟨1, (⟨0, []⟩ : api_Step) :: q, y.Label, 0, 0⟩ : api_Cite)) (by simp; omega) rfl]
    simp only [hlab, last_whole hla]
    unfold plainB
    rw [bare_book, hst]
    simp [hq0, h6]
  have := resolve_of u at0 (⟨1, (⟨0, []⟩ : api_Step) :: q, y.Label, 0, 0⟩ : api_Cite) [] (fun n => M.resolve_through n) (fun n => rfl) (fun n => rfl) (r := r) (fun _ => hr1)
  rw [if_pos hcb] at this
  exact this.of (hr3 x p i j y hun ⟨hp, x, hi, rfl⟩ hi hj hk rfl)

theorem betw_split (p x y : api_Unit) (i j : Nat) (hi : p.Kids[i]? = some x) (hj : p.Kids[j]? = some y) (hk : y.Kind = x.Kind) (hij : i ≤ j) :
    (∃ r, betwL p i j x.Kind = x.Id :: r) ∧ (∃ r, betwL p i j x.Kind = r ++ [y.Id]) ∧ (i = j → betwL p i j x.Kind = [x.Id]) := by
  have hil := (List.getElem?_eq_some_iff.1 hi).1
  have hjl := (List.getElem?_eq_some_iff.1 hj).1
  have hix := (List.getElem?_eq_some_iff.1 hi).2
  have hjy := (List.getElem?_eq_some_iff.1 hj).2
  have h1 : (p.Kids.take (j + 1)).drop i = x :: (p.Kids.take (j + 1)).drop (i + 1) := by
    rw [List.drop_eq_getElem_cons (by simp; omega), List.getElem_take, hix]
  have h2 : (p.Kids.take (j + 1)).drop i = (p.Kids.take j).drop i ++ [y] := by
    rw [List.take_succ_eq_append_getElem hjl, List.drop_append_of_le_length (by simp; omega), hjy]
  refine ⟨⟨((((p.Kids.take (j + 1)).drop (i + 1)).filter (fun k => decide (k.Kind = x.Kind))).map api_Unit.Id), ?_⟩, ⟨((((p.Kids.take j).drop i).filter (fun k => decide (k.Kind = x.Kind))).map api_Unit.Id), ?_⟩, ?_⟩
  · unfold betwL
    rw [h1]; simp
  · unfold betwL
    rw [h2]; simp [hk]
  · rintro rfl
    unfold betwL
    rw [h2, List.drop_eq_nil_of_le (by simp; omega)]
    have : x = y := by rw [← hix, ← hjy]
    subst this
    simp

theorem range_loop (a p : api_Unit) (rt : api_Id × Int × Bool) (j : Nat) (hrt : rt.2.1 = (j : Int)) (hj : j < p.Kids.length) (hb : p.Kids.length ≤ 10000) (l : List api_Id) (e : Int) : ∀ (d m k : Nat), j + 1 - m ≤ d → m ≤ j + 1 →
    l.drop k = ((((p.Kids.take (j + 1)).drop m).filter (fun y => decide (y.Kind = a.Kind))).map api_Unit.Id) → k ≤ l.length → l.length ≤ 10000 →
    To (fun n => M.law41_ResolveRange_loop1 (a, true) rt (l, e) (p, true) n (k : Int) (m : Int)) (.inl (l.length : Int)) := by
  intro d
  induction d with
  | zero =>
    intro m k hd hm hl hk hll
    have : m = j + 1 := by omega
    subst this
    rw [show (p.Kids.take (j + 1)).drop (j + 1) = [] from List.drop_eq_nil_of_le (by simp; omega)] at hl
    have := List.drop_eq_nil_iff.1 hl
    refine To.succ ?_
    simp only [M.law41_ResolveRange_loop1]
    refine To.neg (by rw [hrt]; omega) (To.pure.of ?_)
    congr 1; omega
  | succ d ih =>
    intro m k hd hm hl hk hll
    by_cases hmj : m = j + 1
    · subst hmj
      rw [show (p.Kids.take (j + 1)).drop (j + 1) = [] from List.drop_eq_nil_of_le (by simp; omega)] at hl
      have := List.drop_eq_nil_iff.1 hl
      refine To.succ ?_
      simp only [M.law41_ResolveRange_loop1]
      refine To.neg (by rw [hrt]; omega) (To.pure.of ?_)
      congr 1; omega
    · have hlt : m < p.Kids.length := by omega
      have hx := idx_getElem hlt
      have hdrop : (p.Kids.take (j + 1)).drop m = p.Kids[m] :: (p.Kids.take (j + 1)).drop (m + 1) := by
        rw [List.drop_eq_getElem_cons (by simp; omega), List.getElem_take]
      rw [hdrop] at hl
      have hadd : addC (m : Int) 1 = some ((m + 1 : Nat) : Int) := addC_succ (by omega)
      refine To.succ ?_
      simp only [M.law41_ResolveRange_loop1]
      refine To.pos (by rw [hrt]; omega) (To.bindS hx ?_)
      by_cases hkk : p.Kids[m].Kind = a.Kind
      · rw [List.filter_cons_of_pos (by simp [hkk]), List.map_cons] at hl
        obtain ⟨g1, g2, g3⟩ := drop_cons hl
        have hadd2 : addC (k : Int) 1 = some ((k + 1 : Nat) : Int) := addC_succ (by omega)
        exact To.pos hkk (To.neg (by omega) (To.bindS (drop_idx hl) (To.bindS hx (To.neg (by simp) (To.bindS hadd2 (To.bindS hadd (ih (m + 1) (k + 1) (by omega) (by omega) g3 (by omega) hll)))))))
      · rw [List.filter_cons_of_neg (by simp [hkk])] at hl
        exact To.neg hkk (To.bindS hadd (ih (m + 1) k (by omega) (by omega) hl hk hll))

theorem range_true (u : api_Unit) (at0 : api_Id) (i k : Int) : ∃ n, M.law41_ResolveRange n u at0 i k = some true := by
  refine To.ex ?_
  simp only [M.law41_ResolveRange]
  refine To.bind awake41 (To.neg (by simp) ?_)
  obtain ⟨b, hb, hbk⟩ := book41 u
  cases b with
  | false => exact To.bind hb (To.pos rfl To.pure)
  | true =>
    obtain ⟨hc, hl, hg⟩ := hbk rfl
    have hcc : cnt u ≤ 10000 := by omega
    refine To.bind hb (To.neg (by simp) (To.bind (all_ok u (by omega)) ?_))
    have hlen : (((desc u).map api_Unit.Id).length : Int) = ((desc u).length : Int) := by simp
    by_cases hi1 : i < 1
    · exact To.bind (a := true) (To.pos hi1 To.pure) (To.pos rfl To.pure)
    by_cases hk1 : k < 1
    · exact To.bind (a := true) (To.neg hi1 (To.pos hk1 To.pure)) (To.pos rfl To.pure)
    by_cases hi2 : (((desc u).map api_Unit.Id).length : Int) ≤ i
    · exact To.bind (a := true) (To.neg hi1 (To.neg hk1 (To.pos hi2 To.pure))) (To.pos rfl To.pure)
    by_cases hk2 : (((desc u).map api_Unit.Id).length : Int) ≤ k
    · exact To.bind (a := true) (To.neg hi1 (To.neg hk1 (To.neg hi2 (To.pure.of (decide_eq_true hk2))))) (To.pos rfl To.pure)
    refine To.bind (a := false) (To.neg hi1 (To.neg hk1 (To.neg hi2 (To.pure.of (decide_eq_false hk2))))) (To.neg (by simp) ?_)
    obtain ⟨ni, rfl⟩ : ∃ ni : Nat, i = (ni : Int) := ⟨i.toNat, by omega⟩
    obtain ⟨nk, rfl⟩ : ∃ nk : Nat, k = (nk : Int) := ⟨k.toNat, by omega⟩
    have hil : ni < (desc u).length := by omega
    have hkl : nk < (desc u).length := by omega
    generalize hx : (desc u)[ni] = x
    generalize hy : (desc u)[nk] = y
    have hxi : (desc u)[ni]? = some x := by rw [List.getElem?_eq_getElem hil, hx]
    have hyi : (desc u)[nk]? = some y := by rw [List.getElem?_eq_getElem hkl, hy]
    have hxm := List.mem_of_getElem? hxi
    have hym := List.mem_of_getElem? hyi
    have hatx : idx ((desc u).map api_Unit.Id) (ni : Int) = some x.Id := by rw [idx_nat, List.getElem?_map, hxi]; rfl
    have haty : idx ((desc u).map api_Unit.Id) (nk : Int) = some y.Id := by rw [idx_nat, List.getElem?_map, hyi]; rfl
    have hnx := root_first u hg (by omega) hxi
    have hny := root_first u hg (by omega) hyi
    obtain ⟨px, jx, hpx, hjx⟩ := (has_par u x hxm).resolve_left (fun e => hnx (by rw [e]))
    obtain ⟨py, jy, hpy, hjy⟩ := (has_par u y hym).resolve_left (fun e => hny (by rw [e]))
    have hRx := parR_of u hcc hl hg.apart (id := x.Id) ⟨hpx, x, hjx, rfl⟩
    have hRy := parR_of u hcc hl hg.apart (id := y.Id) ⟨hpy, y, hjy, rfl⟩
    have hfx := find_r06 x.Id u
    have hfy := find_r06 y.Id u
    rw [found41 u hg.apart x hxm] at hfx
    rw [found41 u hg.apart y hym] at hfy
    have hqx := par_r06 x.Id u
    have hqy := par_r06 y.Id u
    rw [hRx] at hqx
    rw [hRy] at hqy
    refine To.bindS hatx (To.bind hfx (To.bindS haty (To.bind hfy (To.bindS hatx (To.bind hqx (To.bindS haty (To.bind hqy ?_)))))))
    by_cases e1 : px.Id ≠ py.Id
    · exact To.bind (a := true) (To.pos e1 To.pure) (To.pos rfl To.pure)
    by_cases e2 : x.Kind ≠ y.Kind
    · exact To.bind (a := true) (To.neg e1 (To.pos e2 To.pure)) (To.pos rfl To.pure)
    by_cases e3 : x.Kind = 6
    · exact To.bind (a := true) (To.neg e1 (To.neg e2 (To.pos e3 To.pure))) (To.pos rfl To.pure)
    by_cases e4 : (jy : Int) < (jx : Int)
    · exact To.bind (a := true) (To.neg e1 (To.neg e2 (To.neg e3 (To.pure.of (decide_eq_true e4))))) (To.pos rfl To.pure)
    refine To.bind (a := false) (To.neg e1 (To.neg e2 (To.neg e3 (To.pure.of (decide_eq_false e4))))) (To.neg (by simp) ?_)
    have hpp : px = py := nodup_eq hg.apart hpx hpy (by simpa using e1)
    subst hpp
    have hkk : y.Kind = x.Kind := by have : x.Kind = y.Kind := by simpa using e2
                                     exact this.symm
    obtain ⟨q, hwh, hq0, hq8, hst, hun, hla, hsm⟩ := whole_facts u hcc hl hg x hxm hnx
    obtain ⟨q', hwh', hq0', hq8', hst', hun', hla', hsm'⟩ := whole_facts u hcc hl hg y hym hny
    have hr1 := range_one u hc hl hg at0 px x y jx jy hpx hjx hjy hkk e3 q hq0 hq8 hst hun hla hsm
    have hr2 := range_one u hc hl hg at0 px y x jy jx hpx hjy hjx hkk.symm (by rw [hkk]; exact e3) q' hq0' hq8' hst' hun' hla' hsm'
    rw [if_neg (by omega)] at hr1
    obtain ⟨⟨r1, hb1⟩, ⟨r2, hb2⟩, hb3⟩ := betw_split px x y jx jy hjx hjy hkk (by omega)
    have hpl := kids_len hpx
    have hbl : (betwL px jx jy x.Kind).length ≤ 10000 := by
      unfold betwL
      have h1 := List.length_filter_le (fun k : api_Unit => decide (k.Kind = x.Kind)) ((px.Kids.take (jy + 1)).drop jx)
      simp only [List.length_map, List.length_drop, List.length_take] at h1 ⊢
      omega
    have hl0 : 0 < (betwL px jx jy x.Kind).length := by rw [hb1]; simp
    have hidx0 : idx (betwL px jx jy x.Kind) (0 : Int) = some x.Id := by rw [hb1]; exact idx_zero
    have hidxl : idx (betwL px jx jy x.Kind) (((betwL px jx jy x.Kind).length : Int) - 1) = some y.Id := idx_last (by rw [hb2]; simp)
    have hjyl := (List.getElem?_eq_some_iff.1 hjy).1
    by_cases e5 : (jx : Int) = (jy : Int)
    · have e6 : jx = jy := by omega
      rw [if_neg (by omega)] at hr2
      have hxy : x = y := by subst e6; rw [hjx] at hjy; exact Option.some.inj hjy
      subst hxy
      have hone := hb3 e6
      have hone2 : betwL px jy jx x.Kind = [x.Id] := by subst e6; exact hone
      rw [hone2] at hr2
      refine To.bindS hatx (To.bind hwh (To.bindS haty (To.bind hwh' (To.bind hr1 (To.bind hr2 (To.neg (by simp) (To.neg (by simp only; omega) (To.bindS hidx0 (To.bindS hatx (To.neg (by simp) (To.bindS (subC_eq (by simp only; omega) (by simp only; omega)) (To.bindS hidxl (To.bindS haty (To.neg (by simp) ?_))))))))))))))
      refine To.pos e5 (To.bind (a := true) (To.pos rfl (To.pos ?_ (To.pure.of (by simp)))) To.pure)
      simp only [hone]; simp
    · rw [if_pos (by omega)] at hr2
      refine To.bindS hatx (To.bind hwh (To.bindS haty (To.bind hwh' (To.bind hr1 (To.bind hr2 (To.neg (by simp) (To.neg (by simp only; omega) (To.bindS hidx0 (To.bindS hatx (To.neg (by simp) (To.bindS (subC_eq (by simp only; omega) (by simp only; omega)) (To.bindS hidxl (To.bindS haty (To.neg (by simp) ?_))))))))))))))
      refine To.neg e5 ?_
      have hfp := find_r06 px.Id u
      rw [found41 u hg.apart px hpx] at hfp
      refine To.bind hfp (To.bind (range_loop x px (px.Id, (jy : Int), true) jy rfl hjyl (by omega) (betwL px jx jy x.Kind) 0 (jy + 1) jx 0 (by omega) (by omega) ?_ (by omega) hbl) ?_)
      · rfl
      · exact To.pos rfl (To.pos (by simp) (To.pure.of (by simp)))
end Go.Proofs.Ytlegkjbldofkmaa
