/-
  Full addresses: each matches its own unit alone; and the law on them.
-/
import Derived.Test.YtfclekegoleiaaaPf
set_option linter.unusedVariables false
set_option linter.unusedSimpArgs false
namespace Go.Proofs.Ytfclekegoleiaaa
open Go Go.Dec

def stepOf (k : api_Unit) : api_Step := ⟨k.Kind, k.Label⟩

theorem path_head {id : api_Id} {u : api_Unit} {w : List api_Unit} (h : pathO id u = some w) : ∃ v, w = u :: v := by
  by_cases hid : u.Id = id
  · rw [path_self hid] at h; cases h; exact ⟨[], rfl⟩
  · obtain ⟨_, v, _, rfl⟩ := path_two hid h; exact ⟨v, rfl⟩

theorem path_deep (id : api_Id) (u : api_Unit) : ∀ w, pathO id u = some w → w.length ≤ deep u + 1 := by
  refine uind (P := fun u => ∀ w, pathO id u = some w → w.length ≤ deep u + 1) ?_ u
  intro u ih w h
  by_cases hid : u.Id = id
  · rw [path_self hid] at h; cases h; simp
  · obtain ⟨_, v, hv, rfl⟩ := path_two hid h
    obtain ⟨k, hk, he⟩ := List.exists_of_findSome?_eq_some hv
    have := ih k hk v he
    have := deep_kid hk
    simp only [List.length_cons]; omega

/-- The steps below the root, to the first unit with an ID. -/
def stepsO (id : api_Id) (u : api_Unit) : Option (List api_Step) := (pathO id u).map (fun w => w.tail.map stepOf)

theorem below_ok (id : api_Id) (u : api_Unit) : cnt u ≤ 10000 → To (fun n => M.r07_below n u id) (match stepsO id u with | some p => (p, true) | none => ([], false)) := by
  refine uind (P := fun u => cnt u ≤ 10000 → To (fun n => M.r07_below n u id) (match stepsO id u with | some p => (p, true) | none => ([], false))) ?_ u
  intro u ih hc
  have loop : ∀ (xs : List api_Unit) (slf : Nat → api_Unit → api_Id → Option (List api_Step × Bool)) (i : Nat), u.Kids.drop i = xs → (∀ k, k ∈ xs → cnt k ≤ 10000 ∧ To (fun n => slf n k id) (match stepsO id k with | some p => (p, true) | none => ([], false))) →
      To (fun n => M.r07_below_loop1 u id (slf n) n (i : Int)) (match xs.findSome? (pathO id) with | none => .inl () | some w => .inr (w.map stepOf, true)) := by
    intro xs
    induction xs with
    | nil =>
      intro slf i hx _
      refine To.succ ?_
      simp only [M.r07_below_loop1]
      exact To.neg (drop_end hx) To.pure
    | cons x xs ih =>
      intro slf i hx hs
      obtain ⟨hcx, h1⟩ := hs x (by simp)
      refine To.succ ?_
      simp only [M.r07_below_loop1]
      refine To.pos (drop_lt hx) (To.bindS (drop_idx hx) (To.bind h1.shift ?_))
      rw [List.findSome?_cons]
      unfold stepsO
      cases hp : pathO id x with
      | none =>
        refine To.neg (by simp) ?_
        rw [cast_succ]
        exact ih (fun n => slf (n + 1)) (i + 1) (drop_next hx) fun k hk => ⟨(hs k (by simp [hk])).1, (hs k (by simp [hk])).2.shift⟩
      | some w =>
        obtain ⟨v, rfl⟩ := path_head hp
        have hlen := path_len id x _ hp
        simp only [List.length_cons] at hlen
        exact To.pos rfl (To.bindS (drop_idx hx) (To.bindS (drop_idx hx) (To.bindS (appC_eq (by simp; omega)) (To.pure.of (by simp [stepOf])))))
  refine To.succ ?_
  simp only [M.r07_below]
  unfold stepsO
  by_cases hid : u.Id = id
  · rw [path_self hid]
    exact To.pos hid To.pure
  · rw [pathO_eq, if_neg hid]
    refine To.neg hid (To.bind (loop u.Kids (fun n => M.r07_below n) 0 rfl fun k hk => ⟨by have := cnt_kid hk; omega, ih k hk (by have := cnt_kid hk; omega)⟩) ?_)
    cases u.Kids.findSome? (pathO id) with
    | none => exact To.pure
    | some w => exact To.pure.of (by simp)

theorem whole_ok (id : api_Id) (u : api_Unit) (hc : cnt u ≤ 10000) : To (fun n => M.r07_Whole n u id) (match stepsO id u with | some p => ((⟨0, []⟩ : api_Step) :: p, true) | none => ([], false)) := by
  simp only [M.r07_Whole]
  refine To.bind (below_ok id u hc) ?_
  cases hp : stepsO id u with
  | none => exact To.pos rfl To.pure
  | some p =>
    have hlen : p.length ≤ 10000 := by
      unfold stepsO at hp
      obtain ⟨w, hw, rfl⟩ := Option.map_eq_some_iff.1 hp
      have := path_len id u w hw
      simp; omega
    exact To.neg (by simp) (To.bindS (appC_eq (by simp; omega)) To.pure)

theorem filter_one {l : List api_Unit} {k : api_Unit} (h : l.Pairwise (fun a b => ¬ (a.Kind = b.Kind ∧ a.Label = b.Label))) (hk : k ∈ l) : l.filter (fun x => calledB x (stepOf k)) = [k] := by
  have hcb : ∀ x, calledB x (stepOf k) = true ↔ (x.Kind = k.Kind ∧ x.Label = k.Label) := fun x => by unfold calledB stepOf; rw [Bool.and_eq_true, decide_eq_true_eq, beq_iff_eq]
  induction l with
  | nil => cases hk
  | cons y l ih =>
    have hp := List.pairwise_cons.1 h
    rcases List.mem_cons.1 hk with e | hk
    · subst e
      rw [List.filter_cons, if_pos ((hcb k).2 ⟨rfl, rfl⟩)]
      have : l.filter (fun x => calledB x (stepOf k)) = [] := by
        rw [List.filter_eq_nil_iff]
        intro x hx hc
        have := (hcb x).1 hc
        exact hp.1 x hx ⟨this.1.symm, this.2.symm⟩
      rw [this]
    · rw [List.filter_cons, if_neg (fun hc => hp.1 k hk ((hcb y).1 hc))]
      exact ih hp.2 hk

theorem Fine.pw {u : api_Unit} (h : Fine u) : u.Kids.Pairwise (fun a b => ¬ (a.Kind = b.Kind ∧ a.Label = b.Label)) := by
  rw [List.pairwise_iff_getElem]
  exact fun i j hi hj hij => h.apart i j hi hj hij

theorem way_steps (id : api_Id) (u : api_Unit) : (∀ x, x ∈ desc u → Fine x) → ∀ w x, pathO id u = some w → w.getLast? = some x → way (w.tail.map stepOf) [u] = [x] := by
  refine uind (P := fun u => (∀ x, x ∈ desc u → Fine x) → ∀ w x, pathO id u = some w → w.getLast? = some x → way (w.tail.map stepOf) [u] = [x]) ?_ u
  intro u ih hf w x hw hx
  by_cases hid : u.Id = id
  · rw [path_self hid] at hw
    cases hw
    simp at hx
    subst hx
    simp [way]
  · obtain ⟨_, v, hv, rfl⟩ := path_two hid hw
    obtain ⟨k, hk, he⟩ := List.exists_of_findSome?_eq_some hv
    obtain ⟨t, rfl⟩ := path_head he
    simp only [List.tail_cons, List.map_cons, way]
    have hd : down (stepOf k) [u] = [k] := by
      unfold down
      rw [List.flatMap_singleton]
      exact filter_one (hf u (desc_self u)).pw hk
    rw [hd]
    refine ih k hk (fun y hy => hf y (desc_kid hk hy)) _ x he ?_
    rw [List.getLast?_cons_cons] at hx
    exact hx

theorem steps_valid (id : api_Id) (u : api_Unit) : (∀ x, x ∈ desc u → Fine x) → ∀ w, pathO id u = some w → stepsB (w.tail.map stepOf) = true := by
  refine uind (P := fun u => (∀ x, x ∈ desc u → Fine x) → ∀ w, pathO id u = some w → stepsB (w.tail.map stepOf) = true) ?_ u
  intro u ih hf w hw
  by_cases hid : u.Id = id
  · rw [path_self hid] at hw; cases hw; rfl
  · obtain ⟨_, v, hv, rfl⟩ := path_two hid hw
    obtain ⟨k, hk, he⟩ := List.exists_of_findSome?_eq_some hv
    obtain ⟨t, rfl⟩ := path_head he
    have h1 := ih k hk (fun y hy => hf y (desc_kid hk hy)) _ he
    have hk0 := (hf u (desc_self u)).kids k hk
    have hfk := hf k (mem_desc_kids hk)
    have h2 := hfk.kind
    have h3 := hfk.label hk0
    simp only [List.tail_cons, List.map_cons, stepsB] at h1 ⊢
    have hb : stepB (stepOf k) = true := by
      unfold stepB
      simp only [stepOf]
      rw [h3, Bool.and_true, Bool.and_eq_true]
      exact ⟨decide_eq_true (by omega), decide_eq_true (by omega)⟩
    rw [hb, h1]; rfl

theorem units_full (u : api_Unit) (hg : Good u) (id : api_Id) (w : List api_Unit) (hw : pathO id u = some w) : ∃ x, x.Id = id ∧ units u ((⟨0, []⟩ : api_Step) :: w.tail.map stepOf) = [x] := by
  obtain ⟨x, hx, hxi⟩ := way_end id u w hw
  refine ⟨x, hxi, ?_⟩
  have hd := path_deep id u w hw
  have h8 := hg.deep
  obtain ⟨t, rfl⟩ := path_head hw
  have hv : validB ((⟨0, []⟩ : api_Step) :: (u :: t).tail.map stepOf) = true := by
    simp only [validB]
    rw [steps_valid id u hg.fine _ hw]
    simp [bookB]
    simp at hd
    omega
  unfold units
  rw [if_pos hv]
  simp only
  rw [if_pos (by simp [bookB])]
  exact way_steps id u hg.fine _ x hw hx

theorem full_loop (u : api_Unit) (hc : cnt u ≤ 10000) (hl : labs u) (hg : Good u) : ∀ (xs : List api_Id) (i : Nat), ((desc u).map api_Unit.Id).drop i = xs → To (fun n => M.law21_TargetFullAddress_loop1 u ((desc u).map api_Unit.Id) n (i : Int)) (.inl ()) := by
  intro xs
  induction xs with
  | nil =>
    intro i hx
    refine To.succ ?_
    simp only [M.law21_TargetFullAddress_loop1]
    exact To.neg (drop_end hx) To.pure
  | cons id xs ih =>
    intro i hx
    have hmem : id ∈ (desc u).map api_Unit.Id := List.mem_of_getElem? (drop_cons hx).2.1
    obtain ⟨x0, hx0, he0⟩ := List.mem_map.1 hmem
    obtain ⟨y0, hy0⟩ := find_some id u x0 hx0 he0
    obtain ⟨w, hw⟩ : ∃ w, pathO id u = some w := by
      cases hp : pathO id u with
      | none => rw [(path_none hp).2] at hy0; cases hy0
      | some w => exact ⟨w, rfl⟩
    obtain ⟨x, hxi, hun⟩ := units_full u hg id w hw
    have hwh := whole_ok id u hc
    have hst : stepsO id u = some (w.tail.map stepOf) := by unfold stepsO; rw [hw]; rfl
    rw [hst] at hwh
    simp only at hwh
    have hins : ∀ k : Int, 0 ≤ k → k ≤ 3 → To (fun n => M.target_InsertionPoint n u ((⟨0, []⟩ : api_Step) :: w.tail.map stepOf) k) (leadR id u k) := by
      intro k h0 h3
      have := ins_u u ((⟨0, []⟩ : api_Step) :: w.tail.map stepOf) k hc hl
      unfold insR at this
      rw [if_neg (by omega), hun] at this
      simp only [List.map_cons, List.map_nil, oneOf, hxi] at this
      rw [if_neg (by simp)] at this
      exact this
    have hfin : To (fun n => M.law21_TargetFullAddress_loop1 u ((desc u).map api_Unit.Id) n ((i + 1 : Nat) : Int)) (.inl ()) := ih (i + 1) (drop_next hx)
    have l0 : leadR id u 0 = (id, 0, 0) := rfl
    have l1 : leadR id u 1 = (id, ((findR id u).1.Kids.length : Int), 0) := rfl
    refine To.succ ?_
    simp only [M.law21_TargetFullAddress_loop1]
    rw [cast_succ]
    refine To.pos (drop_lt hx) (To.bindS (drop_idx hx) (To.bind hwh (To.bindS (drop_idx hx) (To.bind (find_r06 id u) (To.bind (hins 0 (by omega) (by omega)) (To.bind (hins 1 (by omega) (by omega)) (To.bindS (drop_idx hx) ?_)))))))
    rw [l0, l1]
    refine To.neg (by simp) (To.neg (by simp) (To.neg (by simp) (To.bindS (drop_idx hx) (To.neg (by simp) (To.neg (by simp) (To.neg (by simp) (To.bindS (drop_idx hx) (To.bind (par_r06 id u) (To.bind (hins 3 (by omega) (by omega)) (To.bind (hins 2 (by omega) (by omega)) ?_))))))))))
    by_cases hid : u.Id = id
    · have l3 : leadR id u 3 = (zapi_Id, 0, 9) := by unfold leadR; rw [if_neg (by omega), if_neg (by omega), if_pos hid]
      have l2 : leadR id u 2 = (zapi_Id, 0, 9) := by unfold leadR; rw [if_neg (by omega), if_neg (by omega), if_pos hid]
      rw [l3, l2, par_root hid]
      exact To.pos rfl (To.bind (a := false) (To.neg (by simp) (To.pure.of (by simp))) (To.neg (by simp) hfin))
    · obtain ⟨k1, k2, k3⟩ := par_some hx0 he0 hid
      have l3 : leadR id u 3 = ((parR id u).1, (parR id u).2.1, 0) := by unfold leadR; rw [if_neg (by omega), if_neg (by omega), if_neg hid]; simp
      have l2 : leadR id u 2 = ((parR id u).1, (parR id u).2.1 + 1, 0) := by unfold leadR; rw [if_neg (by omega), if_neg (by omega), if_neg hid]; simp
      rw [l3, l2]
      exact To.neg (by rw [k1]; simp) (To.neg (by simp) (To.neg (by simp) (To.neg (by simp) (To.neg (by simp) (To.bindS (addC_eq (by omega) (by omega)) (To.neg (by simp) (To.neg (by simp) hfin)))))))

theorem full_true (u : api_Unit) : ∃ n, M.law21_TargetFullAddress n u = some true := by
  refine To.ex ?_
  simp only [M.law21_TargetFullAddress]
  refine To.bind awake21 (To.neg (by simp) ?_)
  obtain ⟨b, hb, hbk⟩ := book_ok u
  cases b with
  | false => exact To.bind hb (To.pos rfl To.pure)
  | true =>
    obtain ⟨hc, hl, hst⟩ := hbk rfl
    have hg := stands_good u (by omega) hl hst
    exact To.bind hb (To.neg (by simp) (To.bind (all_ok u (by omega)) (To.bind (full_loop u (by omega) hl hg _ 0 rfl) To.pure)))
end Go.Proofs.Ytfclekegoleiaaa
