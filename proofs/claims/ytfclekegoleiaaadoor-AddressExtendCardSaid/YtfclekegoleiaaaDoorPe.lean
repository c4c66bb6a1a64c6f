/-
  The law on unique addresses.
-/
import Derived.Test.YtfclekegoleiaaaDoorPd
set_option linter.unusedVariables false
set_option linter.unusedSimpArgs false
namespace Go.Proofs.YtfclekegoleiaaaDoor
open Go Go.Dec

theorem same7_loop (a : List api_Step) : ∀ (xs : List api_Step) (i : Nat), a.drop i = xs → To (fun n => M.r07_Same_loop1 a a n (i : Int)) (.inl ()) := by
  intro xs
  induction xs with
  | nil => intro i hx; refine To.succ ?_; simp only [M.r07_Same_loop1]; exact To.neg (drop_end hx) To.pure
  | cons x xs ih =>
    intro i hx; refine To.succ ?_; simp only [M.r07_Same_loop1]
    rw [cast_succ]
    exact To.pos (drop_lt hx) (To.bindS (drop_idx hx) (To.bindS (drop_idx hx) (To.neg (by simp) (ih (i + 1) (drop_next hx)))))
theorem same7 (a : List api_Step) : To (fun n => M.r07_Same n a a) true := by
  simp only [M.r07_Same]
  exact To.neg (by simp) (To.bind (same7_loop a a 0 rfl) To.pure)

def uid (u : api_Unit) (p : List api_Step) : List api_Id := (units u p).map api_Unit.Id

theorem one_iff (l : List api_Id) (id : api_Id) : (oneOf l).2 = 0 → (oneOf l).1 = id → l = [id] := by
  match l with
  | [] => intro h; simp [oneOf] at h
  | [x] => intro _ h; simp [oneOf] at h; rw [h]
  | x :: y :: l => intro h; simp [oneOf] at h

theorem units_small (u : api_Unit) (p : List api_Step) (hc : cnt u ≤ 60) : (units u p).length ≤ lim38 := by
  have h1 := units_len u p
  have h2 : cnt u * cnt u ≤ 60 * 60 := Nat.mul_le_mul hc hc
  unfold lim38; omega

theorem short_loop (u : api_Unit) (hc : cnt u ≤ 60) (id : api_Id) (p : List api_Step) (hp : p.length ≤ 10000) : ∀ (d k : Nat), p.length - k ≤ d → 1 ≤ k →
    ∃ r, To (fun n => M.address_Shortest_loop1 u id (p, true) n (k : Int)) r ∧
      ((r = .inl () ∧ ∀ j, k ≤ j → j < p.length → uid u (p.drop (p.length - j)) ≠ [id]) ∨
        ∃ m, k ≤ m ∧ m < p.length ∧ uid u (p.drop (p.length - m)) = [id] ∧ (∀ j, k ≤ j → j < m → uid u (p.drop (p.length - j)) ≠ [id]) ∧ r = .inr (p.drop (p.length - m), true)) := by
  intro d
  induction d with
  | zero =>
    intro k hk h1
    refine ⟨.inl (), To.succ ?_, .inl ⟨rfl, fun j h2 h3 => by omega⟩⟩
    simp only [M.address_Shortest_loop1]
    exact To.neg (by omega) To.pure
  | succ d ih =>
    intro k hk h1
    by_cases hlt : k < p.length
    · have e1 : ((p.length : Int) - (k : Int)) = ((p.length - k : Nat) : Int) := by omega
      have hsub : subC (p.length : Int) (k : Int) = some ((p.length - k : Nat) : Int) := by rw [subC_eq (by omega) (by omega), e1]
      have hsl : slcLo p ((p.length - k : Nat) : Int) = some (p.drop (p.length - k)) := by
        unfold slcLo
        rw [if_pos (by omega)]
        simp
      have hfa := findall_ok u (p.drop (p.length - k)) (by omega) (units_small u _ hc)
      have step : ∀ r, To (fun n => M.address_Shortest_loop1 u id (p, true) n ((k + 1 : Nat) : Int)) r → uid u (p.drop (p.length - k)) ≠ [id] → To (fun n => M.address_Shortest_loop1 u id (p, true) n (k : Int)) r := by
        intro r hr hne
        refine To.succ ?_
        simp only [M.address_Shortest_loop1]
        refine To.pos (by omega) (To.bindS hsub (To.bindS hsl (To.bind hfa ?_)))
        rw [cast_succ]
        by_cases hl : (((units u (p.drop (p.length - k))).map api_Unit.Id).length : Int) = 1
        · obtain ⟨x, hx⟩ : ∃ x, (units u (p.drop (p.length - k))).map api_Unit.Id = [x] := by
            match hm : (units u (p.drop (p.length - k))).map api_Unit.Id with
            | [] => rw [hm] at hl; simp at hl
            | [x] => exact ⟨x, rfl⟩
            | x :: y :: l => rw [hm] at hl; simp at hl; omega
          rw [hx]
          refine To.pos (by simp) (To.bindS idx_zero (To.neg (fun e => hne ?_) hr))
          unfold uid; rw [hx, e]
        · exact To.neg hl hr
      by_cases hu : uid u (p.drop (p.length - k)) = [id]
      · refine ⟨.inr (p.drop (p.length - k), true), To.succ ?_, .inr ⟨k, Nat.le_refl _, hlt, hu, fun j h2 h3 => by omega, rfl⟩⟩
        simp only [M.address_Shortest_loop1]
        refine To.pos (by omega) (To.bindS hsub (To.bindS hsl (To.bind hfa ?_)))
        unfold uid at hu
        rw [hu]
        refine To.pos (by simp) (To.bindS idx_zero (To.pos rfl (To.bindS (a := p.drop (p.length - k)) ?_ To.pure)))
        simp only [M.slices_Clone_api_Step_api_Step]
        rw [appC_eq (by simp; omega)]
        rfl
      · obtain ⟨r, hr, hcase⟩ := ih (k + 1) (by omega) (by omega)
        refine ⟨r, step r hr hu, ?_⟩
        rcases hcase with ⟨h2, h3⟩ | ⟨m, h2, h3, h4, h5, h6⟩
        · refine .inl ⟨h2, fun j hj hj2 => ?_⟩
          by_cases hjk : j = k
          · rw [hjk]; exact hu
          · exact h3 j (by omega) hj2
        · refine .inr ⟨m, by omega, h3, h4, fun j hj hj2 => ?_, h6⟩
          by_cases hjk : j = k
          · rw [hjk]; exact hu
          · exact h5 j (by omega) hj2
    · refine ⟨.inl (), To.succ ?_, .inl ⟨rfl, fun j h2 h3 => by omega⟩⟩
      simp only [M.address_Shortest_loop1]
      exact To.neg (by omega) To.pure

theorem shortest_ok (u : api_Unit) (hc : cnt u ≤ 60) (id : api_Id) (p : List api_Step) (hp : p.length ≤ 10000) (h1 : 1 ≤ p.length) (hf : To (fun n => M.address_Full n u id) (p, true)) (hu : uid u p = [id]) :
    ∃ m, 1 ≤ m ∧ m ≤ p.length ∧ uid u (p.drop (p.length - m)) = [id] ∧ (∀ j, 1 ≤ j → j < m → uid u (p.drop (p.length - j)) ≠ [id]) ∧ To (fun n => M.address_Shortest n u id) (p.drop (p.length - m), true) := by
  obtain ⟨r, hr, hcase⟩ := short_loop u hc id p hp p.length 1 (by omega) (Nat.le_refl _)
  rcases hcase with ⟨rfl, h3⟩ | ⟨m, h2, h3, h4, h5, rfl⟩
  · refine ⟨p.length, h1, Nat.le_refl _, by simpa using hu, h3, ?_⟩
    simp only [M.address_Shortest]
    exact To.bind hf (To.bind hr (To.pure.of (by simp)))
  · refine ⟨m, h2, by omega, h4, h5, ?_⟩
    simp only [M.address_Shortest]
    exact To.bind hf (To.bind hr To.pure)

theorem unique_one (u : api_Unit) (hc : cnt u ≤ 60) (e : api_Id) (p : List api_Step) (m : Nat) (hm1 : 1 ≤ m) (hm : m ≤ p.length) (hp : p.length ≤ 10000) (hmin : ∀ j, 1 ≤ j → j < m → uid u (p.drop (p.length - j)) ≠ [e]) :
    ∀ (d k : Nat), m - k ≤ d → 1 ≤ k → To (fun n => M.law07_AddressUnique_loop2 u e (p.drop (p.length - m), true) n (k : Int)) (.inl ()) := by
  have hlen : (p.drop (p.length - m)).length = m := by rw [List.length_drop]; omega
  intro d
  induction d with
  | zero =>
    intro k hk h1
    refine To.succ ?_
    simp only [M.law07_AddressUnique_loop2]
    rw [hlen]
    exact To.neg (by omega) To.pure
  | succ d ih =>
    intro k hk h1
    refine To.succ ?_
    simp only [M.law07_AddressUnique_loop2]
    rw [hlen]
    by_cases hlt : k < m
    · have hsl : slcLo (p.drop (p.length - m)) (k : Int) = some (p.drop (p.length - (m - k))) := by
        unfold slcLo
        rw [if_pos (by omega)]
        rw [List.drop_drop]
        congr 2
        simp; omega
      have hne := hmin (m - k) (by omega) (by omega)
      refine To.pos (by omega) (To.bindS hsl (To.bind (findone_ok u _ (by omega) (units_small u _ hc)) ?_))
      rw [cast_succ]
      have hrest := ih (k + 1) (by omega) (by omega)
      by_cases h0 : (oneOf ((units u (p.drop (p.length - (m - k)))).map api_Unit.Id)).2 = 0
      · exact To.pos h0 (To.neg (fun h2 => hne (one_iff _ _ h0 h2)) hrest)
      · exact To.neg h0 hrest
    · exact To.neg (by omega) To.pure

theorem full_units (u : api_Unit) (hf : ∀ x, x ∈ desc u → Fine x) (hd : deep u ≤ 8) (hnd : (idsOf u).Nodup) (id : api_Id) (hid : id ∈ idsOf u) : ∃ p, stepsO id u = some p ∧ uid u ((⟨0, []⟩ : api_Step) :: p) = [id] ∧ p.length ≤ 8 := by
  have hg : Good u := ⟨hf, hd, hnd⟩
  obtain ⟨x0, hx0, he0⟩ := List.mem_map.1 hid
  obtain ⟨y0, hy0⟩ := find_some id u x0 hx0 he0
  obtain ⟨w, hw⟩ : ∃ w, pathO id u = some w := by
    cases hp : pathO id u with
    | none => rw [(path_none hp).2] at hy0; cases hy0
    | some w => exact ⟨w, rfl⟩
  obtain ⟨x, hxi, hun⟩ := units_full u hg id w hw
  refine ⟨w.tail.map stepOf, by unfold stepsO; rw [hw]; rfl, ?_, ?_⟩
  · unfold uid
    rw [hun]
    simp [hxi]
  · have := path_deep id u w hw
    simp
    omega

theorem unique_loop (u : api_Unit) (hc : cnt u ≤ 60) (hf : ∀ x, x ∈ desc u → Fine x) (hd : deep u ≤ 8) (hnd : (idsOf u).Nodup) : ∀ xs : List api_Id, (∀ x, x ∈ xs → x ∈ idsOf u) → To (fun n => M.law07_AddressUnique_loop1 n u xs) (.inl ()) := by
  intro xs
  induction xs with
  | nil => intro _; simp only [M.law07_AddressUnique_loop1]; exact To.pure
  | cons e xs ih =>
    intro hs
    obtain ⟨s, hs1, hs2, hs3⟩ := full_units u hf hd hnd e (hs e (by simp))
    have hfull := full_ok e u (by omega)
    rw [hs1] at hfull
    simp only at hfull
    generalize hpe : (⟨0, []⟩ : api_Step) :: s = p at hs2 hfull
    have hpl : p.length = s.length + 1 := by rw [← hpe]; simp
    obtain ⟨m, hm1, hm2, hm3, hm4, hsh⟩ := shortest_ok u hc e p (by omega) (by omega) hfull hs2
    have hlen : (p.drop (p.length - m)).length = m := by rw [List.length_drop]; omega
    simp only [M.law07_AddressUnique_loop1]
    refine To.bind hfull (To.bind hsh (To.bind (findone_ok u p (by omega) (units_small u _ hc)) (To.bind (findone_ok u _ (by omega) (units_small u _ hc)) ?_)))
    unfold uid at hs2 hm3
    rw [hs2, hm3]
    have ho : oneOf [e] = (e, 0) := rfl
    rw [ho]
    refine To.bind (a := false) (To.neg (by simp) (To.neg (by simp) (To.neg (by simp) (To.neg (by simp) (To.neg (by simp) (To.neg (by simp) (To.neg (by first | (simp; done) | (simp; omega)) (To.pure.of (by first | (simp; done) | (simp; omega)))))))))) (To.neg (by simp) ?_)
    have e1 : (p.length : Int) - (m : Int) = ((p.length - m : Nat) : Int) := by omega
    have hsl : slcLo p ((p.length - m : Nat) : Int) = some (p.drop (p.length - m)) := by
      unfold slcLo
      rw [if_pos (by omega)]
      simp
    have hsub : subC (p.length : Int) ((p.drop (p.length - m)).length : Int) = some ((p.length - m : Nat) : Int) := by rw [hlen, subC_eq (by omega) (by omega), e1]
    refine To.bindS hsub (To.bindS hsl (To.bind (same7 _) (To.neg (by simp) (To.bind (unique_one u hc e p m hm1 hm2 (by omega) hm4 m 1 (by omega) (Nat.le_refl _)) ?_))))
    exact ih fun x hx => hs x (by simp [hx])

theorem unique_true (u : api_Unit) (hb : big u) : ∃ n, M.law07_AddressUnique n u = some true := by
  refine To.ex ?_
  simp only [M.law07_AddressUnique]
  obtain ⟨f, hf, hfl⟩ := few07 u hb 60 (by omega) (by omega)
  cases f with
  | false => exact To.bind (a := true) (To.bind awake07 (To.neg (by simp) (To.bind hf (To.pos rfl To.pure)))) (To.pos rfl (To.bind awake07 To.pure))
  | true =>
    obtain ⟨hc, hl⟩ := hfl rfl
    obtain ⟨v, hv, hvf⟩ := valid_u u (by omega) hl
    cases v with
    | false => exact To.bind (a := true) (To.bind awake07 (To.neg (by simp) (To.bind hf (To.neg (by simp) (To.bind hv (To.pos rfl To.pure)))))) (To.pos rfl (To.bind awake07 To.pure))
    | true =>
      obtain ⟨a, ha, haf⟩ := apart_u u (by omega)
      cases a with
      | false => exact To.bind (a := true) (To.bind awake07 (To.neg (by simp) (To.bind hf (To.neg (by simp) (To.bind hv (To.neg (by simp) (To.bind ha To.pure))))))) (To.pos rfl (To.bind awake07 To.pure))
      | true =>
        obtain ⟨h1, h2⟩ := hvf rfl
        refine To.bind (a := false) (To.bind awake07 (To.neg (by simp) (To.bind hf (To.neg (by simp) (To.bind hv (To.neg (by simp) (To.bind ha To.pure))))))) (To.neg (by simp) ?_)
        exact To.bind (ids_u u (by omega)) (To.bind (unique_loop u hc h1 h2 (haf rfl) _ fun x hx => hx) To.pure)
end Go.Proofs.YtfclekegoleiaaaDoor
