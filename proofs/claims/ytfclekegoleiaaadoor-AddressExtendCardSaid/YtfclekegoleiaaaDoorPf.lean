/-
  The law on longer addresses.
-/
import Derived.Test.YtfclekegoleiaaaDoorPe
set_option linter.unusedVariables false
set_option linter.unusedSimpArgs false
namespace Go.Proofs.YtfclekegoleiaaaDoor
open Go Go.Dec

theorem way_snoc (s : api_Step) : ∀ (p : List api_Step) (l : List api_Unit), way (p ++ [s]) l = down s (way p l)
  | [], l => rfl
  | x :: p, l => way_snoc s p (down x l)

theorem steps_snoc (s : api_Step) : ∀ p : List api_Step, stepsB (p ++ [s]) = (stepsB p && stepB s)
  | [] => by simp [stepsB]
  | x :: p => by simp only [List.cons_append, stepsB, steps_snoc s p, Bool.and_assoc]

theorem units_snoc (u : api_Unit) (p : List api_Step) (s : api_Step) (hp : p ≠ []) (hv : validB (p ++ [s]) = true) : units u (p ++ [s]) = down s (units u p) := by
  cases p with
  | nil => exact absurd rfl hp
  | cons x q =>
    have hv' : validB (x :: q) = true := by
      unfold validB at hv ⊢
      simp only [List.cons_append, steps_snoc, Bool.and_eq_true, decide_eq_true_eq, List.length_cons, List.length_append] at hv ⊢
      exact ⟨⟨hv.1.1, hv.1.2.1⟩, by simp at hv; omega⟩
    unfold units
    rw [if_pos hv, if_pos hv']
    simp only [List.cons_append]
    exact way_snoc s q _

theorem found_id (u : api_Unit) (hnd : (idsOf u).Nodup) (y : api_Unit) (hy : y ∈ desc u) : findR y.Id u = (y, true) := by
  obtain ⟨z, hz⟩ := find_some y.Id u y hy rfl
  obtain ⟨h1, h2⟩ := find_mem y.Id u z hz
  have := nodup_eq hnd h1 hy h2
  unfold findR
  rw [hz, this]

def kidsOf (s : api_Step) (y : api_Unit) : List api_Id := (y.Kids.filter fun x => calledB x s).map api_Unit.Id

theorem extend2 (s : api_Step) : ∀ (xs : List api_Unit) (w : List api_Id), w.length + xs.length ≤ 1000000 → M.law07_AddressExtend_loop2 s xs w = some (w ++ (xs.filter fun x => calledB x s).map api_Unit.Id)
  | [], w, _ => by simp [M.law07_AddressExtend_loop2]
  | x :: xs, w, h => by
    simp only [List.length_cons] at h
    simp only [M.law07_AddressExtend_loop2]
    by_cases hk : x.Kind = s.Kind
    · rw [if_pos hk]
      by_cases hl : x.Label = s.Label
      · have hc : calledB x s = true := by simp [calledB, hk, hl]
        rw [if_pos (by simp [hl]), appC_eq (by simp; omega), Option.bind_some, extend2 s xs _ (by simp; omega)]
        simp [hc]
      · have hc : calledB x s = false := by simp [calledB, hl]
        rw [if_neg (by simp [hl]), extend2 s xs _ (by omega)]
        simp [hc]
    · have hc : calledB x s = false := by simp [calledB, hk]
      rw [if_neg hk, extend2 s xs _ (by omega)]
      simp [hc]

theorem extend1 (u : api_Unit) (hc : cnt u ≤ 60) (hl : labs u) (hnd : (idsOf u).Nodup) (s : api_Step) : ∀ (ys : List api_Unit) (w : List api_Id), (∀ y, y ∈ ys → y ∈ desc u) → w.length + 60 * ys.length ≤ 1000000 →
    To (fun n => M.law07_AddressExtend_loop1 n u s (ys.map api_Unit.Id) w) (.inl (w ++ ys.flatMap (kidsOf s)))
  | [], w, _, _ => by simp only [List.map_nil, M.law07_AddressExtend_loop1]; exact To.pure.of (by simp)
  | y :: ys, w, hs, hw => by
    have hy := hs y (by simp)
    have hk : y.Kids.length ≤ 60 := by
      have h1 := cnt_kids y
      have h2 := cnt_sub hy
      omega
    have hkl : (kidsOf s y).length ≤ 60 := by
      unfold kidsOf
      rw [List.length_map]
      exact Nat.le_trans (List.length_filter_le _ _) hk
    simp only [List.length_cons] at hw
    simp only [List.map_cons, M.law07_AddressExtend_loop1]
    refine To.bind (find_u y.Id u (by omega) hl) ?_
    rw [found_id u hnd y hy]
    refine To.neg (by simp) (To.bindS (extend2 s y.Kids w (by omega)) ?_)
    refine (extend1 u hc hl hnd s ys _ (fun z hz => hs z (by simp [hz])) ?_).of ?_
    · rw [List.length_append]
      have : ((y.Kids.filter fun x => calledB x s).map api_Unit.Id).length ≤ 60 := hkl
      omega
    · simp [kidsOf]

theorem down_ids (s : api_Step) (l : List api_Unit) : (down s l).map api_Unit.Id = l.flatMap (kidsOf s) := by
  unfold down kidsOf
  induction l with
  | nil => rfl
  | cons x l ih =>
    simp only [List.flatMap_cons, List.filter_append, List.map_append, ih]

theorem ids7_loop (a : List api_Id) : ∀ (xs : List api_Id) (i : Nat), a.drop i = xs → To (fun n => M.r07_Ids_loop1 a a n (i : Int)) (.inl ()) := by
  intro xs
  induction xs with
  | nil => intro i hx; refine To.succ ?_; simp only [M.r07_Ids_loop1]; exact To.neg (drop_end hx) To.pure
  | cons x xs ih =>
    intro i hx; refine To.succ ?_; simp only [M.r07_Ids_loop1]
    rw [cast_succ]
    exact To.pos (drop_lt hx) (To.bindS (drop_idx hx) (To.bindS (drop_idx hx) (To.neg (by simp) (ih (i + 1) (drop_next hx)))))
theorem ids7_same (a : List api_Id) : To (fun n => M.r07_Ids n a a) true := by
  simp only [M.r07_Ids]
  exact To.neg (by simp) (To.bind (ids7_loop a a 0 rfl) To.pure)

theorem extend_true (u : api_Unit) (p : List api_Step) (s : api_Step) (hb : big u) : ∃ n, M.law07_AddressExtend n u p s = some true := by
  refine To.ex ?_
  simp only [M.law07_AddressExtend]
  obtain ⟨f, hf, hfl⟩ := few07 u hb 60 (by omega) (by omega)
  cases f with
  | false => exact To.bind (a := true) (To.bind awake07 (To.neg (by simp) (To.bind hf (To.pos rfl To.pure)))) (To.pos rfl (To.bind awake07 To.pure))
  | true =>
    obtain ⟨hc, hl⟩ := hfl rfl
    by_cases hp1 : (p.length : Int) < 1
    · exact To.bind (a := true) (To.bind awake07 (To.neg (by simp) (To.bind hf (To.neg (by simp) (To.pos hp1 To.pure))))) (To.pos rfl (To.bind awake07 To.pure))
    by_cases hp8 : (8 : Int) < (p.length : Int)
    · exact To.bind (a := true) (To.bind awake07 (To.neg (by simp) (To.bind hf (To.neg (by simp) (To.neg hp1 (To.pos hp8 To.pure)))))) (To.pos rfl (To.bind awake07 To.pure))
    have happ : appC [s] p = some (s :: p) := appC_eq (by simp; omega)
    obtain ⟨sh, hsh, _⟩ := short07 (s :: p)
    cases sh with
    | false => exact To.bind (a := true) (To.bind awake07 (To.neg (by simp) (To.bind hf (To.neg (by simp) (To.neg hp1 (To.neg hp8 (To.bindS happ (To.bind hsh (To.pos rfl To.pure))))))))) (To.pos rfl (To.bind awake07 To.pure))
    | true =>
      obtain ⟨v, hv, hvf⟩ := valid_u u (by omega) hl
      cases v with
      | false => exact To.bind (a := true) (To.bind awake07 (To.neg (by simp) (To.bind hf (To.neg (by simp) (To.neg hp1 (To.neg hp8 (To.bindS happ (To.bind hsh (To.neg (by simp) (To.bind hv (To.pos rfl To.pure))))))))))) (To.pos rfl (To.bind awake07 To.pure))
      | true =>
        obtain ⟨a, ha, haf⟩ := apart_u u (by omega)
        cases a with
        | false => exact To.bind (a := true) (To.bind awake07 (To.neg (by simp) (To.bind hf (To.neg (by simp) (To.neg hp1 (To.neg hp8 (To.bindS happ (To.bind hsh (To.neg (by simp) (To.bind hv (To.neg (by simp) (To.bind ha To.pure)))))))))))) (To.pos rfl (To.bind awake07 To.pure))
        | true =>
          have hnd := haf rfl
          refine To.bind (a := false) (To.bind awake07 (To.neg (by simp) (To.bind hf (To.neg (by simp) (To.neg hp1 (To.neg hp8 (To.bindS happ (To.bind hsh (To.neg (by simp) (To.bind hv (To.neg (by simp) (To.bind ha To.pure)))))))))))) (To.neg (by simp) ?_)
          have h1 : appC ([] : List api_Step) p = some p := by rw [appC_eq (by simp; omega)]; rfl
          have h2 : appC p [s] = some (p ++ [s]) := appC_eq (by simp; omega)
          refine To.bindS h1 (To.bindS h2 (To.bind (valid_ok (p ++ [s])) ?_))
          have hfa := findall_ok u (p ++ [s]) (by omega) (units_small u _ hc)
          by_cases hval : validB (p ++ [s]) = true
          · refine To.neg (by simp [hval]) (To.bind (findall_ok u p (by omega) (units_small u p hc)) ?_)
            have hul : (units u p).length ≤ 3600 := by
              have h1 := units_len u p
              have h2 : cnt u * cnt u ≤ 60 * 60 := Nat.mul_le_mul hc hc
              omega
            refine To.bind (extend1 u hc hl hnd s (units u p) [] (units_sub u p) (by simp; omega)) ?_
            dsimp only
            refine To.bind hfa ?_
            have hpn : p ≠ [] := fun e => hp1 (by rw [e]; simp)
            rw [units_snoc u p s hpn hval, down_ids, List.nil_append]
            exact To.bind (ids7_same _) To.pure
          · refine To.pos (by simpa using hval) (To.bind hfa (To.pure.of ?_))
            have : units u (p ++ [s]) = [] := by unfold units; rw [if_neg hval]
            rw [this]; simp
end Go.Proofs.YtfclekegoleiaaaDoor
