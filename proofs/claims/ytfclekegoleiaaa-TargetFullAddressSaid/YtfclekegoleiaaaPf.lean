/-
  Where a moved unit goes, and the insertion points at full addresses.
-/
import Derived.Test.YtfclekegoleiaaaPe
set_option linter.unusedVariables false
set_option linter.unusedSimpArgs false
namespace Go.Proofs.Ytfclekegoleiaaa
open Go Go.Dec

theorem anc_loop (w : List api_Unit) (hb : w.length ≤ 10000) : ∀ (k : Nat) (out : List api_Id), k ≤ w.length → out.length + k ≤ 20000 → ∃ r, To (fun n => M.unit_Ancestors_loop1 w n out ((k : Int) - 1)) r ∧ ∀ x, x ∈ r ↔ (x ∈ out ∨ x ∈ (w.take k).map api_Unit.Id) := by
  intro k
  induction k with
  | zero =>
    intro out _ _
    refine ⟨out, To.succ ?_, fun x => by simp⟩
    simp only [M.unit_Ancestors_loop1]
    exact To.neg (by omega) To.pure
  | succ k ih =>
    intro out hk ho
    have hx := idx_getElem (l := w) (i := k) (by omega)
    obtain ⟨r, h1, h2⟩ := ih (out ++ [w[k].Id]) (by omega) (by simp; omega)
    refine ⟨r, To.succ ?_, fun x => ?_⟩
    · simp only [M.unit_Ancestors_loop1]
      rw [show ((k + 1 : Nat) : Int) - 1 = (k : Int) by omega]
      exact To.pos (by omega) (To.bindS hx (To.bindS (appC_eq (by simp; omega)) (To.bindS (subC_eq (by omega) (by omega)) h1)))
    · rw [h2, List.take_succ_eq_append_getElem (by omega)]
      simp only [List.map_append, List.mem_append, List.mem_singleton, List.map_cons, List.map_nil]
      constructor
      · rintro ((h | h) | h)
        · exact .inl h
        · exact .inr (.inr h)
        · exact .inr (.inl h)
      · rintro (h | h | h)
        · exact .inl (.inl h)
        · exact .inr h
        · exact .inl (.inr h)

theorem anc_ok (id : api_Id) (u : api_Unit) (hc : cnt u ≤ 10000) : ∃ r, To (fun n => M.unit_Ancestors n u id) r ∧ ∀ x, x ∈ r ↔ x ∈ (((pathO id u).getD []).dropLast).map api_Unit.Id := by
  generalize hw : (pathO id u).getD [] = w
  have hl : w.length ≤ 10000 := by
    rw [← hw]
    cases hp : pathO id u with
    | none => simp
    | some v => have := path_len id u v hp; simp; omega
  have hway := way_ok id u hc
  rw [hw] at hway
  by_cases h0 : w.length = 0
  · refine ⟨[], ?_, fun x => ?_⟩
    · simp only [M.unit_Ancestors]
      refine To.bind hway (To.bindS (subC_eq (by omega) (by omega)) (To.bind (a := []) (To.succ ?_) To.pure))
      simp only [M.unit_Ancestors_loop1]
      exact To.neg (by omega) To.pure
    · rw [List.eq_nil_of_length_eq_zero h0]; simp
  · obtain ⟨r, h1, h2⟩ := anc_loop w hl (w.length - 1) [] (by omega) (by simp; omega)
    refine ⟨r, ?_, fun x => by rw [h2, List.dropLast_eq_take]; simp⟩
    simp only [M.unit_Ancestors]
    refine To.bind hway (To.bindS (subC_eq (by omega) (by omega)) (To.bind ?_ To.pure))
    rw [show (w.length : Int) - 2 = ((w.length - 1 : Nat) : Int) - 1 by omega]
    exact h1

theorem contains_ok (l : List api_Id) (v : api_Id) : To (fun n => M.slices_Contains_api_Id_api_Id n l v) (decide (v ∈ l)) := by
  have loop : ∀ (xs : List api_Id) (i : Nat), l.drop i = xs → (v ∈ xs ∧ ∃ j : Nat, To (fun n => M.slices_Index_api_Id_api_Id_loop1 l v n (i : Int)) (.inr (j : Int))) ∨ (v ∉ xs ∧ To (fun n => M.slices_Index_api_Id_api_Id_loop1 l v n (i : Int)) (.inl ())) := by
    intro xs
    induction xs with
    | nil =>
      intro i hx
      refine .inr ⟨by simp, To.succ ?_⟩
      simp only [M.slices_Index_api_Id_api_Id_loop1]
      exact To.neg (drop_end hx) To.pure
    | cons x xs ih =>
      intro i hx
      by_cases h : v = x
      · refine .inl ⟨by simp [h], i, To.succ ?_⟩
        simp only [M.slices_Index_api_Id_api_Id_loop1]
        exact To.pos (drop_lt hx) (To.bindS (drop_idx hx) (To.pos h To.pure))
      · rcases ih (i + 1) (drop_next hx) with ⟨h1, j, h2⟩ | ⟨h1, h2⟩
        · refine .inl ⟨by simp [h1], j, To.succ ?_⟩
          simp only [M.slices_Index_api_Id_api_Id_loop1]
          rw [cast_succ]
          exact To.pos (drop_lt hx) (To.bindS (drop_idx hx) (To.neg h h2))
        · refine .inr ⟨by simp [h1, h], To.succ ?_⟩
          simp only [M.slices_Index_api_Id_api_Id_loop1]
          rw [cast_succ]
          exact To.pos (drop_lt hx) (To.bindS (drop_idx hx) (To.neg h h2))
  simp only [M.slices_Contains_api_Id_api_Id, M.slices_Index_api_Id_api_Id]
  rcases loop l 0 rfl with ⟨h1, j, h2⟩ | ⟨h1, h2⟩
  · exact To.bind (To.bind h2 To.pure) (To.pure.of (by simp [h1]))
  · exact To.bind (To.bind h2 To.pure) (To.pure.of (by simp [h1]))

/-- Does the unit 'to' lie below the unit 'id'? -/
def insideB (u : api_Unit) (id to : api_Id) : Bool := (findO to (findR id u).1).isSome

theorem below_iff (u : api_Unit) (hg : Good u) (id to : api_Id) (hid : ∃ x, x ∈ desc u ∧ x.Id = id) (hto : ∃ x, x ∈ desc u ∧ x.Id = to) (hne : to ≠ id) : (id ∈ (((pathO to u).getD []).dropLast).map api_Unit.Id) ↔ insideB u id to = true := by
  obtain ⟨x0, hx0, he0⟩ := hid
  obtain ⟨x, hx⟩ := find_some id u x0 hx0 he0
  obtain ⟨hxm, hxi⟩ := find_mem id u x hx
  obtain ⟨y0, hy0, hye0⟩ := hto
  obtain ⟨y, hy⟩ := find_some to u y0 hy0 hye0
  have hins : insideB u id to = (findO to x).isSome := by unfold insideB findR; rw [hx]
  rw [hins]
  cases hp : pathO to u with
  | none => rw [(path_none hp).2] at hy; cases hy
  | some w =>
    simp only [Option.getD_some]
    obtain ⟨e, hwe, hei⟩ := way_end to u w hp
    constructor
    · intro h
      obtain ⟨z, hz, hzi⟩ := List.mem_map.1 h
      obtain ⟨h1, y1, h2, h3⟩ := way_desc to u w hp z (List.dropLast_subset w hz)
      have := nodup_eq hg.apart h1 hxm (by rw [hzi, hxi])
      subst this
      obtain ⟨v, hv⟩ := find_some to z y1 h2 h3
      rw [hv]; rfl
    · intro h
      obtain ⟨v, hv⟩ := Option.isSome_iff_exists.1 h
      obtain ⟨hvm, hvi⟩ := find_mem to x v hv
      have hxw := way_through to u hg.apart w hp x hxm ⟨v, hvm, hvi⟩
      refine List.mem_map.2 ⟨x, ?_, hxi⟩
      have hw0 : w ≠ [] := path_ne to u w hp
      have hwl : w = w.dropLast ++ [e] := by
        have := List.dropLast_concat_getLast hw0
        rw [List.getLast?_eq_some_getLast hw0] at hwe
        cases hwe
        exact this.symm
      rw [hwl] at hxw
      rcases List.mem_append.1 hxw with h1 | h1
      · exact h1
      · rw [List.mem_singleton.1 h1] at hxi
        exact absurd (hei.symm.trans hxi) hne

/-- Where the unit 'id' goes. -/
def goesR (u : api_Unit) (id to : api_Id) (w : Int) : api_Id × Int × Int :=
  if u.Id = id ∨ (insideB u id to = true ∧ to ≠ id) ∨ (to = id ∧ w < 2) then (zapi_Id, 0, 9)
  else if to = id then ((parR id u).1, (parR id u).2.1, 0)
  else
    let x := leadR to u w
    if x.2.2 ≠ 0 then (zapi_Id, 0, 9)
    else if x.1 = (parR id u).1 ∧ (parR id u).2.1 < x.2.1 then (x.1, x.2.1 - 1, 0) else (x.1, x.2.1, 0)

theorem lead_bd (u : api_Unit) (id : api_Id) (w : Int) (hc : cnt u ≤ 10000) (hid : ∃ x, x ∈ desc u ∧ x.Id = id) : 0 ≤ (leadR id u w).2.1 ∧ (leadR id u w).2.1 ≤ 20000 ∧ ((leadR id u w).2.2 ≠ 0 → (leadR id u w) = (zapi_Id, 0, 9) ∧ u.Id = id ∧ w ≠ 0 ∧ w ≠ 1) := by
  obtain ⟨x0, hx0, he0⟩ := hid
  unfold leadR
  by_cases h0 : w = 0
  · rw [if_pos h0]; exact ⟨by simp, by simp, fun h => absurd rfl h⟩
  rw [if_neg h0]
  by_cases h1 : w = 1
  · rw [if_pos h1]
    obtain ⟨x, hx⟩ := find_some id u x0 hx0 he0
    obtain ⟨hxm, hxi⟩ := find_mem id u x hx
    have := cnt_kids x
    have := cnt_sub hxm
    refine ⟨by simp, ?_, fun h => absurd rfl h⟩
    unfold findR; rw [hx]; simp only; omega
  rw [if_neg h1]
  by_cases hid : u.Id = id
  · rw [if_pos hid]; exact ⟨by simp, by simp, fun _ => ⟨rfl, hid, h0, h1⟩⟩
  rw [if_neg hid]
  obtain ⟨k1, k2, k3⟩ := par_some hx0 he0 hid
  refine ⟨?_, ?_, fun h => absurd rfl h⟩
  · simp only; split <;> omega
  · simp only; split <;> omega

theorem goes_u (u : api_Unit) (hc : cnt u ≤ 10000) (hl : labs u) (hg : Good u) (id to : api_Id) (w : Int) (h0 : 0 ≤ w) (h3 : w ≤ 3) (hid : ∃ x, x ∈ desc u ∧ x.Id = id) (hto : ∃ x, x ∈ desc u ∧ x.Id = to) :
    To (fun n => M.target_goes n u id to w) ((⟨(goesR u id to w).1, (goesR u id to w).2.1⟩ : target_spot), (goesR u id to w).2.2) := by
  have hp := par_u id u hc
  obtain ⟨x0, hx0, he0⟩ := hid
  have hpar : (parR id u).2.2 = !decide (u.Id = id) := by
    by_cases h : u.Id = id
    · rw [par_root h]; simp [h]
    · rw [(par_some hx0 he0 h).1]; simp [h]
  simp only [M.target_goes]
  refine To.bind (a := decide (2 ≤ w)) ?_ (To.bind hp ?_)
  · by_cases h : w = 2
    · exact To.pos h (To.pure.of (by simp [h]))
    · exact To.neg h (To.pure.of (by rw [Bool.eq_iff_iff]; simp; omega))
  by_cases hti : to = id
  · subst hti
    refine To.neg (by simp) ?_
    by_cases hu : u.Id = to
    · refine To.bind (a := true) (To.pos (by rw [hpar]; simp [hu]) To.pure) (To.pos rfl (To.pure.of ?_))
      simp [goesR, hu]
    · refine To.bind (a := !decide (2 ≤ w)) (To.neg (by rw [hpar]; simp [hu]) (To.pos rfl To.pure)) ?_
      by_cases h2 : 2 ≤ w
      · refine To.neg (by simp [h2]) (To.pos rfl (To.pure.of ?_))
        have : ¬ (u.Id = to ∨ (insideB u to to = true ∧ to ≠ to) ∨ (to = to ∧ w < 2)) := by
          rintro (h | ⟨_, h⟩ | ⟨_, h⟩)
          · exact hu h
          · exact h rfl
          · omega
        unfold goesR
        rw [if_neg this, if_pos rfl]
      · refine To.pos (by simp; omega) (To.pure.of ?_)
        have : (u.Id = to ∨ (insideB u to to = true ∧ to ≠ to) ∨ (to = to ∧ w < 2)) := .inr (.inr ⟨rfl, by omega⟩)
        unfold goesR
        rw [if_pos this]
  · obtain ⟨an, ha1, ha2⟩ := anc_ok to u hc
    have hbel := below_iff u hg id to ⟨x0, hx0, he0⟩ hto hti
    refine To.pos hti (To.bind ha1 (To.bind (contains_ok an id) ?_))
    have hdec : decide (id ∈ an) = insideB u id to := by
      rw [Bool.eq_iff_iff, decide_eq_true_eq, ha2, hbel]
    rw [hdec]
    by_cases hu : u.Id = id
    · refine To.bind (a := true) (To.pos (by rw [hpar]; simp [hu]) To.pure) (To.pos rfl (To.pure.of ?_))
      simp [goesR, hu]
    cases hin : insideB u id to with
    | true =>
      refine To.bind (a := true) (To.neg (by rw [hpar]; simp [hu]) (To.pos rfl To.pure)) (To.pos rfl (To.pure.of ?_))
      have : (u.Id = id ∨ (insideB u id to = true ∧ to ≠ id) ∨ (to = id ∧ w < 2)) := .inr (.inl ⟨hin, hti⟩)
      unfold goesR
      rw [if_pos this]
    | false =>
      refine To.bind (a := false) (To.neg (by rw [hpar]; simp [hu]) (To.neg (by simp) (To.neg hti To.pure))) (To.neg (by simp) (To.neg hti ?_))
      have hcond : ¬ (u.Id = id ∨ (insideB u id to = true ∧ to ≠ id) ∨ (to = id ∧ w < 2)) := by
        rintro (h | ⟨h, _⟩ | ⟨h, _⟩)
        · exact hu h
        · rw [hin] at h; cases h
        · exact hti h
      have hld := lead_ok to u w hc hl h0 h3 hto
      obtain ⟨b1, b2, b3⟩ := lead_bd u to w hc hto
      have key := To.bind (g := fun n (v2 : target_spot × Int) => Option.bind (
                if v2.2 = (0 : Int) then
                  if v2.1.parent_ = (parR id u).1 then
                    some (decide ((parR id u).2.1 < v2.1.at_))
                  else
                    some false
                else
                  some false
              ) fun v3 =>
              if v3 = true then
                Option.bind (subC v2.1.at_ (1 : Int)) fun v4 =>
                some (({ v2.1 with at_ := v4 } : target_spot), v2.2)
              else
                some (v2.1, v2.2)) (r := ((⟨(goesR u id to w).1, (goesR u id to w).2.1⟩ : target_spot), (goesR u id to w).2.2)) hld (by
        have hgr : goesR u id to w = if (leadR to u w).2.2 ≠ 0 then (zapi_Id, 0, 9) else if (leadR to u w).1 = (parR id u).1 ∧ (parR id u).2.1 < (leadR to u w).2.1 then ((leadR to u w).1, (leadR to u w).2.1 - 1, 0) else ((leadR to u w).1, (leadR to u w).2.1, 0) := by
          unfold goesR
          rw [if_neg hcond, if_neg hti]
        by_cases h9 : (leadR to u w).2.2 = 0
        · rw [if_neg (fun h => h h9)] at hgr
          by_cases hpp : (leadR to u w).1 = (parR id u).1
          · refine To.bind (a := decide ((parR id u).2.1 < (leadR to u w).2.1)) (To.pos h9 (To.pos hpp To.pure)) ?_
            by_cases hlt : (parR id u).2.1 < (leadR to u w).2.1
            · rw [if_pos ⟨hpp, hlt⟩] at hgr
              exact To.pos (by simp [hlt]) (To.bindS (subC_eq (by simp only; omega) (by simp only; omega)) (To.pure.of (by rw [hgr, h9])))
            · rw [if_neg (fun h => hlt h.2)] at hgr
              exact To.neg (by simp [hlt]) (To.pure.of (by rw [hgr, h9]))
          · rw [if_neg (fun h => hpp h.1)] at hgr
            exact To.bind (a := false) (To.pos h9 (To.neg hpp To.pure)) (To.neg (by simp) (To.pure.of (by rw [hgr, h9])))
        · rw [if_pos h9] at hgr
          refine To.bind (a := false) (To.neg h9 To.pure) (To.neg (by simp) (To.pure.of ?_))
          rw [hgr, (b3 h9).1])
      exact key.eq fun n => by simp only [bind_assoc']

def destR (u : api_Unit) (it : api_Item) : api_Id × Int × Int :=
  if it.Kind = 0 then insR u it.At it.Where
  else if it.Kind ≠ 6 ∨ it.Where < 0 ∨ 3 < it.Where then (zapi_Id, 0, 1)
  else
    let a := oneOf ((units u it.At).map api_Unit.Id)
    if a.2 ≠ 0 then (zapi_Id, 0, a.2)
    else
      let b := oneOf ((units u it.To).map api_Unit.Id)
      if b.2 ≠ 0 then (zapi_Id, 0, b.2) else goesR u a.1 b.1 it.Where

theorem goes_zero (u : api_Unit) (id to : api_Id) (w : Int) (h : (goesR u id to w).2.2 ≠ 0) : goesR u id to w = (zapi_Id, 0, 9) := by
  unfold goesR at h ⊢
  split
  · rfl
  · rename_i h1
    rw [if_neg h1] at h
    split
    · rename_i h2
      rw [if_pos h2] at h
      exact absurd rfl h
    · rename_i h2
      rw [if_neg h2] at h
      simp only at h ⊢
      split
      · rfl
      · rename_i h3
        rw [if_neg h3] at h
        split at h <;> exact absurd rfl h

theorem dest_u (u : api_Unit) (hc : cnt u ≤ 10000) (hl : labs u) (hg : Good u) (it : api_Item) : To (fun n => M.target_Destination n u it) (destR u it) := by
  have hul : ∀ p, (units u p).length ≤ lim38 := fun p => by
    have h1 := units_len u p
    have h2 : cnt u * cnt u ≤ 10000 * 10000 := Nat.mul_le_mul hc hc
    unfold lim38; omega
  simp only [M.target_Destination]
  unfold destR
  by_cases hk : it.Kind = 0
  · rw [if_pos hk]
    exact To.pos hk (To.bind (ins_u u it.At it.Where hc hl) To.pure)
  rw [if_neg hk]
  refine To.neg hk ?_
  by_cases hw : it.Kind ≠ 6 ∨ it.Where < 0 ∨ 3 < it.Where
  · rw [if_pos hw]
    refine To.bind (a := true) ?_ (To.pos rfl To.pure)
    by_cases h6 : it.Kind ≠ 6
    · exact To.pos h6 To.pure
    · refine To.neg h6 ?_
      simp only [M.target_isWhere]
      by_cases h0 : 0 ≤ it.Where
      · exact To.bindS (a := false) (by rw [if_pos h0]; simp; omega) To.pure
      · exact To.bindS (a := false) (by rw [if_neg h0]) To.pure
  rw [if_neg hw]
  refine To.bind (a := false) (To.neg (by omega) ?_) (To.neg (by simp) (To.bind (findone_ok u it.At hc (hul _)) ?_))
  · simp only [M.target_isWhere]
    exact To.bindS (a := true) (by rw [if_pos (by omega)]; simp; omega) To.pure
  simp only
  by_cases ha : (oneOf ((units u it.At).map api_Unit.Id)).2 = 0
  · have hma := one_ok u it.At ha
    generalize oneOf ((units u it.At).map api_Unit.Id) = a at ha hma ⊢
    rw [if_neg (fun h => h ha)]
    refine To.neg (fun h => h ha) (To.bind (findone_ok u it.To hc (hul _)) ?_)
    by_cases hb : (oneOf ((units u it.To).map api_Unit.Id)).2 = 0
    · have hmb := one_ok u it.To hb
      generalize oneOf ((units u it.To).map api_Unit.Id) = b at hb hmb ⊢
      rw [if_neg (fun h => h hb)]
      refine To.neg (fun h => h hb) (To.bind (goes_u u hc hl hg a.1 b.1 it.Where (by omega) (by omega) hma hmb) ?_)
      by_cases h9 : (goesR u a.1 b.1 it.Where).2.2 = 0
      · refine To.neg (fun h => h h9) (To.pure.of ?_)
        simp only
        rw [← h9]
      · refine To.pos h9 (To.pure.of ?_)
        rw [goes_zero u _ _ _ h9]; rfl
    · rw [if_pos hb]
      exact To.pos hb To.pure
  · rw [if_pos ha]
    exact To.pos ha To.pure

theorem dest_r (u : api_Unit) (hc : cnt u ≤ 10000) (it : api_Item) (hp : ∀ y, y ∈ it.At → y.Label.length ≤ 1000000000) (hq : ∀ y, y ∈ it.To → y.Label.length ≤ 1000000000) : To (fun n => M.r21_Goes n u it) (destR u it) := by
  simp only [M.r21_Goes]
  by_cases hw : it.Where < 0 ∨ 3 < it.Where
  · have h1 : To (fun n : Nat => if it.Where < (0 : Int) then some true else some (decide ((3 : Int) < it.Where))) true := by
      by_cases h0 : it.Where < 0
      · exact To.pos h0 To.pure
      · exact To.neg h0 (To.pure.of (by simp; omega))
    refine To.bind (a := true) (To.ite (fun h => To.ite (fun _ => To.pure) fun _ => h1) fun _ => h1) (To.pos rfl (To.pure.of ?_))
    unfold destR
    by_cases hk : it.Kind = 0
    · rw [if_pos hk]; unfold insR; rw [if_pos hw]; rfl
    · rw [if_neg hk, if_pos (.inr hw)]; rfl
  have h1 : To (fun n : Nat => if it.Where < (0 : Int) then some true else some (decide ((3 : Int) < it.Where))) false := To.neg (by omega) (To.pure.of (by simp; omega))
  by_cases hk : it.Kind = 0
  · rw [show destR u it = insR u it.At it.Where by unfold destR; rw [if_pos hk]]
    refine To.bind (a := false) (To.neg (fun h => h hk) h1) (To.neg (by simp) (To.pos hk (To.bind (ins_r u it.At it.Where hc hp) To.pure)))
  by_cases h6 : it.Kind ≠ 6
  · rw [show destR u it = (zapi_Id, 0, 1) by unfold destR; rw [if_neg hk, if_pos (.inl h6)]]
    exact To.bind (a := true) (To.pos hk (To.pos h6 To.pure)) (To.pos rfl To.pure)
  have hd0 : destR u it = (if (oneOf ((units u it.At).map api_Unit.Id)).2 ≠ 0 then (zapi_Id, 0, (oneOf ((units u it.At).map api_Unit.Id)).2) else if (oneOf ((units u it.To).map api_Unit.Id)).2 ≠ 0 then (zapi_Id, 0, (oneOf ((units u it.To).map api_Unit.Id)).2) else
      goesR u (oneOf ((units u it.At).map api_Unit.Id)).1 (oneOf ((units u it.To).map api_Unit.Id)).1 it.Where) := by
    unfold destR
    rw [if_neg hk, if_neg (by rintro (h | h); exact h6 h; exact hw h)]
  generalize destR u it = D at hd0 ⊢
  refine To.bind (a := false) (To.pos hk (To.neg h6 h1)) (To.neg (by simp) (To.neg hk (To.bind (one_r u it.At hc hp) ?_)))
  by_cases ha : (oneOf ((units u it.At).map api_Unit.Id)).2 = 0
  · have hma := one_ok u it.At ha
    generalize oneOf ((units u it.At).map api_Unit.Id) = a at ha hma hd0 ⊢
    rw [if_neg (fun h => h ha)] at hd0
    refine To.neg (fun h => h ha) (To.bind (one_r u it.To hc hq) ?_)
    by_cases hb : (oneOf ((units u it.To).map api_Unit.Id)).2 = 0
    · have hmb := one_ok u it.To hb
      have hins : To (fun n => M.r21_Where n u it.To it.Where) (leadR (oneOf ((units u it.To).map api_Unit.Id)).1 u it.Where) := by
        have := ins_r u it.To it.Where hc hq
        unfold insR at this
        rw [if_neg hw] at this
        simp only at this
        rw [if_neg (fun h => h hb)] at this
        exact this
      generalize oneOf ((units u it.To).map api_Unit.Id) = b at hb hmb hins hd0 ⊢
      rw [if_neg (fun h => h hb)] at hd0
      subst hd0
      refine To.neg (fun h => h hb) (To.bind (find_r06 a.1 u) (To.bind (find_r06 b.1 (findR a.1 u).1) ?_))
      have hin2 : (findR b.1 (findR a.1 u).1).2 = insideB u a.1 b.1 := by
        unfold insideB
        generalize (findR a.1 u).1 = y
        unfold findR
        cases findO b.1 y <;> rfl
      obtain ⟨b1, b2, b3⟩ := lead_bd u b.1 it.Where hc hmb
      -- the condition
      have hcnd : To (fun n : Nat => if a.1 = u.Id then some true else if (2 : Int) ≤ it.Where then if b.1 = u.Id then some true else if (findR b.1 (findR a.1 u).1).2 = true then if b.1 ≠ a.1 then some true else if b.1 = a.1 then some (!(decide ((2 : Int) ≤ it.Where))) else some false else
          if b.1 = a.1 then some (!(decide ((2 : Int) ≤ it.Where))) else some false else if (findR b.1 (findR a.1 u).1).2 = true then if b.1 ≠ a.1 then some true else if b.1 = a.1 then some (!(decide ((2 : Int) ≤ it.Where))) else some false else
          if b.1 = a.1 then some (!(decide ((2 : Int) ≤ it.Where))) else some false)
          (decide (u.Id = a.1 ∨ (2 ≤ it.Where ∧ u.Id = b.1) ∨ (insideB u a.1 b.1 = true ∧ b.1 ≠ a.1) ∨ (b.1 = a.1 ∧ it.Where < 2))) := by
        rw [hin2]
        by_cases c1 : u.Id = a.1
        · exact To.pos c1.symm (To.pure.of (by simp [c1]))
        refine To.neg (fun e => c1 e.symm) ?_
        have rest : ¬ (2 ≤ it.Where ∧ u.Id = b.1) → To (fun n : Nat => if insideB u a.1 b.1 = true then if b.1 ≠ a.1 then some true else if b.1 = a.1 then some (!(decide ((2 : Int) ≤ it.Where))) else some false else if b.1 = a.1 then some (!(decide ((2 : Int) ≤ it.Where))) else some false)
            (decide (u.Id = a.1 ∨ (2 ≤ it.Where ∧ u.Id = b.1) ∨ (insideB u a.1 b.1 = true ∧ b.1 ≠ a.1) ∨ (b.1 = a.1 ∧ it.Where < 2))) := by
          intro c2
          by_cases c3 : b.1 = a.1
          · have e : (!(decide ((2 : Int) ≤ it.Where))) = decide (u.Id = a.1 ∨ (2 ≤ it.Where ∧ u.Id = b.1) ∨ (insideB u a.1 b.1 = true ∧ b.1 ≠ a.1) ∨ (b.1 = a.1 ∧ it.Where < 2)) := by
              rw [Bool.eq_iff_iff]
              simp only [Bool.not_eq_true', decide_eq_false_iff_not, decide_eq_true_eq]
              constructor
              · intro h; exact .inr (.inr (.inr ⟨c3, by omega⟩))
              · rintro (h | h | h | h)
                · exact absurd h c1
                · exact absurd h c2
                · exact absurd c3 h.2
                · omega
            refine To.ite (fun _ => To.neg (fun h => h c3) (To.pos c3 (To.pure.of e))) fun _ => To.pos c3 (To.pure.of e)
          · cases c4 : insideB u a.1 b.1 with
            | true => exact To.pos rfl (To.pos c3 (To.pure.of (by simp [c3])))
            | false => exact To.neg (by simp) (To.neg c3 (To.pure.of (by simp [c1, c2, c3])))
        by_cases h2 : 2 ≤ it.Where
        · refine To.pos h2 ?_
          by_cases c2 : u.Id = b.1
          · exact To.pos c2.symm (To.pure.of (by simp [c2, h2]))
          · exact To.neg (fun e => c2 e.symm) (rest (fun h => c2 h.2))
        · exact To.neg h2 (rest (fun h => h2 h.1))
      refine To.bind hcnd ?_
      by_cases cc : u.Id = a.1 ∨ (2 ≤ it.Where ∧ u.Id = b.1) ∨ (insideB u a.1 b.1 = true ∧ b.1 ≠ a.1) ∨ (b.1 = a.1 ∧ it.Where < 2)
      · refine To.pos (by simpa using cc) (To.pure.of ?_)
        symm
        by_cases cg : u.Id = a.1 ∨ (insideB u a.1 b.1 = true ∧ b.1 ≠ a.1) ∨ (b.1 = a.1 ∧ it.Where < 2)
        · unfold goesR; rw [if_pos cg]; rfl
        · have c2 : 2 ≤ it.Where ∧ u.Id = b.1 := by
            rcases cc with h | h | h | h
            · exact absurd (.inl h) cg
            · exact h
            · exact absurd (.inr (.inl h)) cg
            · exact absurd (.inr (.inr h)) cg
          have c3 : ¬ b.1 = a.1 := fun e => cg (.inl (by rw [c2.2, e]))
          have hl9 : leadR b.1 u it.Where = (zapi_Id, 0, 9) := by
            unfold leadR
            rw [if_neg (by omega), if_neg (by omega), if_pos c2.2]
          unfold goesR
          rw [if_neg cg, if_neg c3]
          simp only [hl9]
          rfl
      · have cg : ¬ (u.Id = a.1 ∨ (insideB u a.1 b.1 = true ∧ b.1 ≠ a.1) ∨ (b.1 = a.1 ∧ it.Where < 2)) := by
          rintro (h | h | h)
          · exact cc (.inl h)
          · exact cc (.inr (.inr (.inl h)))
          · exact cc (.inr (.inr (.inr h)))
        refine To.neg (by simpa using cc) (To.bind (par_r06 a.1 u) ?_)
        by_cases c3 : b.1 = a.1
        · refine To.pos c3 (To.pure.of ?_)
          unfold goesR
          rw [if_neg cg, if_pos c3]
        · have h9 : (leadR b.1 u it.Where).2.2 = 0 := by
            by_cases h : (leadR b.1 u it.Where).2.2 = 0
            · exact h
            · exfalso
              obtain ⟨_, q2, q3, q4⟩ := b3 h
              exact cc (.inr (.inl ⟨by omega, q2⟩))
          have hgr : goesR u a.1 b.1 it.Where = if (leadR b.1 u it.Where).1 = (parR a.1 u).1 ∧ (parR a.1 u).2.1 < (leadR b.1 u it.Where).2.1 then ((leadR b.1 u it.Where).1, (leadR b.1 u it.Where).2.1 - 1, 0) else ((leadR b.1 u it.Where).1, (leadR b.1 u it.Where).2.1, 0) := by
            unfold goesR
            rw [if_neg cg, if_neg c3]
            simp only
            rw [if_neg (fun h => h h9)]
          refine To.neg c3 (To.bind hins ?_)
          by_cases hpp : (leadR b.1 u it.Where).1 = (parR a.1 u).1
          · refine To.pos hpp ?_
            by_cases hlt : (parR a.1 u).2.1 < (leadR b.1 u it.Where).2.1
            · rw [if_pos ⟨hpp, hlt⟩] at hgr
              rw [hgr]
              exact To.pos hlt (To.bindS (subC_eq (by omega) (by omega)) To.pure)
            · rw [if_neg (fun h => hlt h.2)] at hgr
              rw [hgr]
              exact To.neg hlt To.pure
          · rw [if_neg (fun h => hpp h.1)] at hgr
            rw [hgr]
            exact To.neg hpp To.pure
    · rw [if_pos hb] at hd0
      subst hd0
      exact To.pos hb To.pure
  · rw [if_pos ha] at hd0
    subst hd0
    exact To.pos ha To.pure

theorem destination_true (u : api_Unit) (it : api_Item) : ∃ n, M.law21_TargetDestination n u it = some true := by
  refine To.ex ?_
  simp only [M.law21_TargetDestination]
  refine To.bind awake21 (To.neg (by simp) ?_)
  obtain ⟨b, hb, hbk⟩ := book_ok u
  cases b with
  | false => exact To.bind (a := true) (To.bind hb (To.pos rfl To.pure)) (To.pos rfl To.pure)
  | true =>
    obtain ⟨hc, hl, hst⟩ := hbk rfl
    have hg := stands_good u (by omega) hl hst
    obtain ⟨f, hf, hfl⟩ := few17_ok it
    refine To.bind (To.bind hb (To.neg (by simp) (To.bind hf To.pure))) ?_
    cases f with
    | false => exact To.pos rfl To.pure
    | true =>
      obtain ⟨hp, hq⟩ := hfl rfl
      refine To.neg (by simp) (To.bind (dest_u u (by omega) hl hg it) (To.bind (dest_r u (by omega) it (fun y hy => by have := hp y hy; omega) (fun y hy => by have := hq y hy; omega)) ?_))
      exact To.pos rfl (To.pos rfl (To.pure.of (by simp)))
end Go.Proofs.Ytfclekegoleiaaa
