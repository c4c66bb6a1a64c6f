/-
  Units in a tree: the program finds them, and their parents, where the reference finds them.
-/
import Derived.Test.YtfclekegoleiaaaPc
import Derived.KernelRfl
set_option linter.unusedVariables false
set_option linter.unusedSimpArgs false
namespace Go.Proofs.Ytfclekegoleiaaa
open Go Go.Dec

/-- The first unit with an ID. -/
def findO (id : api_Id) (u : api_Unit) : Option api_Unit := if u.Id = id then some u else u.Kids.attach.findSome? (fun k => findO id k.1)
termination_by SizeOf.sizeOf u
decreasing_by exact kid_lt k.2

theorem attach_findSome {β : Type} (f : api_Unit → Option β) (l : List api_Unit) : l.attach.findSome? (fun k => f k.1) = l.findSome? f := by
  rw [show (fun k : {x // x ∈ l} => f k.1) = f ∘ Subtype.val from rfl, ← List.findSome?_map, List.attach_map_subtype_val]

theorem findO_eq (id : api_Id) (u : api_Unit) : findO id u = if u.Id = id then some u else u.Kids.findSome? (findO id) := by
  rw [findO]
  split
  · rfl
  · exact attach_findSome (findO id) u.Kids

/-- The units from the root to the first unit with an ID. -/
def pathO (id : api_Id) (u : api_Unit) : Option (List api_Unit) := if u.Id = id then some [u] else (u.Kids.attach.findSome? (fun k => pathO id k.1)).map (u :: ·)
termination_by SizeOf.sizeOf u
decreasing_by exact kid_lt k.2

theorem pathO_eq (id : api_Id) (u : api_Unit) : pathO id u = if u.Id = id then some [u] else (u.Kids.findSome? (pathO id)).map (u :: ·) := by
  rw [pathO]
  split
  · rfl
  · rw [attach_findSome (pathO id) u.Kids]

theorem path_ne (id : api_Id) (u : api_Unit) : ∀ w, pathO id u = some w → w ≠ [] := by
  intro w h
  rw [pathO_eq] at h
  split at h
  · cases h; simp
  · obtain ⟨v, _, rfl⟩ := Option.map_eq_some_iff.1 h
    simp

theorem path_len (id : api_Id) (u : api_Unit) : ∀ w, pathO id u = some w → w.length ≤ cnt u := by
  refine uind (P := fun u => ∀ w, pathO id u = some w → w.length ≤ cnt u) ?_ u
  intro u ih w h
  rw [pathO_eq] at h
  split at h
  · cases h; exact cnt_pos u
  · obtain ⟨v, hv, rfl⟩ := Option.map_eq_some_iff.1 h
    obtain ⟨k, hk, he⟩ := List.exists_of_findSome?_eq_some hv
    have := ih k hk v he
    have := cnt_kid hk
    simp only [List.length_cons]
    omega

theorem path_last (id : api_Id) (u : api_Unit) : findO id u = (pathO id u).bind List.getLast? := by
  refine uind (P := fun u => findO id u = (pathO id u).bind List.getLast?) ?_ u
  intro u ih
  rw [findO_eq, pathO_eq]
  split
  · rfl
  · have : ∀ l : List api_Unit, (∀ k, k ∈ l → findO id k = (pathO id k).bind List.getLast?) → l.findSome? (findO id) = ((l.findSome? (pathO id)).map (u :: ·)).bind List.getLast? := by
      intro l
      induction l with
      | nil => intro _; rfl
      | cons k l ihl =>
        intro h
        have h1 := h k (by simp)
        have h2 := ihl fun x hx => h x (by simp [hx])
        rw [List.findSome?_cons, List.findSome?_cons]
        cases hp : pathO id k with
        | none =>
          rw [hp] at h1
          simp only [Option.bind_none] at h1
          rw [h1]; exact h2
        | some w =>
          rw [hp] at h1
          have hw := path_ne id k w hp
          simp only [Option.bind_some] at h1
          obtain ⟨x, hx⟩ : ∃ x, w.getLast? = some x := by
            cases w with
            | nil => exact absurd rfl hw
            | cons a b => exact ⟨_, List.getLast?_eq_some_getLast (by simp)⟩
          rw [h1, hx]
          simp only [Option.map_some, Option.bind_some]
          rw [List.getLast?_cons, hx]; rfl
    exact this u.Kids ih

theorem way_ok (id : api_Id) (u : api_Unit) : cnt u ≤ 10000 → To (fun n => M.unit_way n u id) ((pathO id u).getD []) := by
  refine uind (P := fun u => cnt u ≤ 10000 → To (fun n => M.unit_way n u id) ((pathO id u).getD [])) ?_ u
  intro u ih hc
  have loop : ∀ (xs : List api_Unit) (slf : Nat → api_Unit → api_Id → Option (List api_Unit)), (∀ k, k ∈ xs → cnt k < cnt u ∧ To (fun n => slf n k id) ((pathO id k).getD [])) →
      To (fun n => M.unit_way_loop1 u id (slf n) xs) (match xs.findSome? (pathO id) with | none => .inl () | some w => .inr (u :: w)) := by
    intro xs
    induction xs with
    | nil => intro slf _; simp only [M.unit_way_loop1]; exact To.pure
    | cons x xs ih =>
      intro slf hs
      obtain ⟨h1, h2⟩ := hs x (by simp)
      simp only [M.unit_way_loop1]
      refine To.bind h2 ?_
      rw [List.findSome?_cons]
      cases hp : pathO id x with
      | none => exact To.neg (by simp) (ih slf fun k hk => hs k (by simp [hk]))
      | some w =>
        have hw := path_ne id x w hp
        have hl := path_len id x w hp
        refine To.pos (by simpa using hw) (To.bindS (appC_eq (by simp; omega)) (To.bindS (a := ()) (by simp [neC]) (To.pure.of (by simp))))
  refine To.succ ?_
  simp only [M.unit_way]
  rw [pathO_eq]
  by_cases hid : u.Id = id
  · exact To.pos hid (To.bindS (a := ()) (by simp [neC]) (To.pure.of (by simp [hid])))
  · refine To.neg hid (To.bind (loop u.Kids (fun n => M.unit_way n) fun k hk => ⟨cnt_kid hk, ih k hk (by have := cnt_kid hk; omega)⟩) ?_)
    rw [if_neg hid]
    cases u.Kids.findSome? (pathO id) with
    | none => exact To.pure
    | some w => exact To.pure

theorem copied_ok (u : api_Unit) : cnt u ≤ 10000 → labs u → To (fun n => M.unit_copied n u) u := by
  refine uind (P := fun u => cnt u ≤ 10000 → labs u → To (fun n => M.unit_copied n u) u) ?_ u
  intro u ih hc hl
  have loop : ∀ (xs : List api_Unit) (slf : Nat → api_Unit → Option api_Unit) (out : List api_Unit), (∀ k, k ∈ xs → To (fun n => slf n k) k) → out.length + xs.length ≤ 10000 → To (fun n => M.unit_copied_loop1 (slf n) xs out) (out ++ xs) := by
    intro xs
    induction xs with
    | nil => intro slf out _ _; simp only [M.unit_copied_loop1]; exact To.pure.of (by simp)
    | cons x xs ih =>
      intro slf out hs ho
      simp only [List.length_cons] at ho
      simp only [M.unit_copied_loop1]
      refine To.bind (hs x (by simp)) (To.bindS (appC_eq (by simp; omega)) ?_)
      exact (ih slf _ (fun k hk => hs k (by simp [hk])) (by simp; omega)).of (by simp)
  obtain ⟨h1, h2, h3⟩ := hl u (desc_self u)
  have hk := cnt_kids u
  refine To.succ ?_
  simp only [M.unit_copied, M.slices_Clone_api_Word_api_Word]
  refine To.bindS (appC_eq (by simp; omega)) (To.bindS (appC_eq (by simp; omega)) ?_)
  simp only [List.nil_append]
  exact To.bind (loop u.Kids (fun n => M.unit_copied n) [] (fun k hk => ih k hk (by have := cnt_kid hk; omega) (labs_kid hl hk)) (by simp; omega)) (To.pure.of (by rw [List.nil_append]; cases u; rfl))

theorem find_mem (id : api_Id) (u : api_Unit) : ∀ x, findO id u = some x → x ∈ desc u ∧ x.Id = id := by
  refine uind (P := fun u => ∀ x, findO id u = some x → x ∈ desc u ∧ x.Id = id) ?_ u
  intro u ih x h
  rw [findO_eq] at h
  split at h
  · cases h; exact ⟨desc_self u, by assumption⟩
  · obtain ⟨k, hk, he⟩ := List.exists_of_findSome?_eq_some h
    exact ⟨desc_kid hk (ih k hk x he).1, (ih k hk x he).2⟩

theorem find_some (id : api_Id) (u : api_Unit) : ∀ x, x ∈ desc u → x.Id = id → ∃ y, findO id u = some y := by
  refine uind (P := fun u => ∀ x, x ∈ desc u → x.Id = id → ∃ y, findO id u = some y) ?_ u
  intro u ih x hx he
  rw [findO_eq]
  split
  · exact ⟨_, rfl⟩
  · rename_i hn
    rw [desc_eq] at hx
    rcases List.mem_cons.1 hx with rfl | hx
    · exact absurd he hn
    · obtain ⟨k, h1, h2⟩ := List.mem_flatMap.1 hx
      obtain ⟨y, hy⟩ := ih k h1 x h2 he
      cases hf : u.Kids.findSome? (findO id) with
      | some z => exact ⟨z, rfl⟩
      | none =>
        have := List.findSome?_eq_none_iff.1 hf k h1
        rw [hy] at this; cases this

/-- What the searches hand back. -/
def findR (id : api_Id) (u : api_Unit) : api_Unit × Bool := match findO id u with
  | some x => (x, true)
  | none => (zapi_Unit, false)

theorem desc_sub {u x : api_Unit} (h : x ∈ desc u) : ∀ y, y ∈ desc x → y ∈ desc u := by
  refine uind (P := fun u => ∀ x, x ∈ desc u → ∀ y, y ∈ desc x → y ∈ desc u) ?_ u x h
  intro u ih x hx y hy
  rw [desc_eq] at hx
  rcases List.mem_cons.1 hx with rfl | hx
  · exact hy
  · obtain ⟨k, h1, h2⟩ := List.mem_flatMap.1 hx
    exact desc_kid h1 (ih k h1 x h2 y hy)
theorem cnt_sub {u x : api_Unit} (h : x ∈ desc u) : cnt x ≤ cnt u := by
  refine uind (P := fun u => ∀ x, x ∈ desc u → cnt x ≤ cnt u) ?_ u x h
  intro u ih x hx
  rw [desc_eq] at hx
  rcases List.mem_cons.1 hx with rfl | hx
  · exact Nat.le_refl _
  · obtain ⟨k, h1, h2⟩ := List.mem_flatMap.1 hx
    have := ih k h1 x h2
    have := cnt_kid h1
    omega
theorem labs_sub {u x : api_Unit} (h : x ∈ desc u) (hl : labs u) : labs x := fun y hy => hl y (desc_sub h y hy)

theorem find_u (id : api_Id) (u : api_Unit) (hc : cnt u ≤ 10000) (hl : labs u) : To (fun n => M.unit_Find n u id) (findR id u) := by
  simp only [M.unit_Find]
  refine To.bind (way_ok id u hc) ?_
  unfold findR
  rw [path_last]
  cases hp : pathO id u with
  | none => exact To.pos (by simp) To.pure
  | some w =>
    have hw := path_ne id u w hp
    have hlen := path_len id u w hp
    obtain ⟨x, hx⟩ : ∃ x, w.getLast? = some x := by
      cases w with
      | nil => exact absurd rfl hw
      | cons a b => exact ⟨_, List.getLast?_eq_some_getLast (by simp)⟩
    have hpos : 0 < w.length := List.length_pos_iff.2 hw
    have hf : findO id u = some x := by rw [path_last, hp]; exact hx
    have hm := (find_mem id u x hf).1
    simp only [Option.getD_some, Option.bind_some, hx]
    refine To.neg (by omega) (To.bindS (subC_eq (by omega) (by omega)) (To.bindS (a := x) ?_ (To.bind (copied_ok x (by have := cnt_sub hm; omega) (labs_sub hm hl)) To.pure)))
    rw [List.getLast?_eq_getElem?] at hx
    rw [show (w.length : Int) - 1 = ((w.length - 1 : Nat) : Int) by omega, idx_nat]
    exact hx

theorem find_r06 (id : api_Id) (u : api_Unit) : To (fun n => M.r06_Find n u id) (findR id u) := by
  refine uind (P := fun u => To (fun n => M.r06_Find n u id) (findR id u)) ?_ u
  intro u ih
  have loop : ∀ (xs : List api_Unit) (slf : Nat → api_Unit → api_Id → Option (api_Unit × Bool)) (i : Nat) (v : api_Unit), u.Kids.drop i = xs → (∀ k, k ∈ xs → To (fun n => slf n k id) (findR id k)) →
      To (fun n => M.r06_Find_loop1 u id (slf n) n (i : Int) v) (match xs.findSome? (findO id) with | none => .inl v | some x => .inr (x, true)) := by
    intro xs
    induction xs with
    | nil =>
      intro slf i v hx _
      refine To.succ ?_
      simp only [M.r06_Find_loop1]
      exact To.neg (drop_end hx) To.pure
    | cons x xs ih =>
      intro slf i v hx hs
      have h1 := hs x (by simp)
      refine To.succ ?_
      simp only [M.r06_Find_loop1]
      refine To.pos (drop_lt hx) (To.bindS (drop_idx hx) (To.bind h1.shift ?_))
      unfold findR
      rw [List.findSome?_cons]
      cases hf : findO id x with
      | none =>
        refine To.neg (by simp) ?_
        rw [cast_succ]
        exact ih (fun n => slf (n + 1)) (i + 1) v (drop_next hx) fun k hk => (hs k (by simp [hk])).shift
      | some y => exact To.pos rfl To.pure
  refine To.succ ?_
  simp only [M.r06_Find]
  unfold findR
  rw [findO_eq]
  by_cases hid : u.Id = id
  · exact To.pos hid (To.pure.of (by simp [hid]))
  · refine To.neg hid (To.bind (loop u.Kids (fun n => M.r06_Find n) 0 zapi_Unit rfl ih) ?_)
    rw [if_neg hid]
    cases u.Kids.findSome? (findO id) with
    | none => exact To.pure
    | some w => exact To.pure

/-- The place of the first of a list of units that holds the unit. -/
def placeK (id : api_Id) (l : List api_Unit) : Nat := l.findIdx (fun k => (pathO id k).isSome)

/-- The last but one of a way. -/
def parW (id : api_Id) (w : List api_Unit) : api_Id × Int × Bool := match w.reverse with
  | _ :: p :: _ => (p.Id, ((placeK id p.Kids : Nat) : Int), true)
  | _ => (zapi_Id, -1, false)

/-- The parent of the first unit with an ID, and the unit's place there. -/
def parR (id : api_Id) (u : api_Unit) : api_Id × Int × Bool := match pathO id u with
  | some w => parW id w
  | none => (zapi_Id, -1, false)

theorem parW_cons (id : api_Id) (u : api_Unit) (w : List api_Unit) (h : 2 ≤ w.length) : parW id (u :: w) = parW id w := by
  unfold parW
  rw [List.reverse_cons]
  have : 2 ≤ w.reverse.length := by simpa using h
  match hw : w.reverse, this with
  | a :: b :: c, _ => rfl

theorem path_self {id : api_Id} {u : api_Unit} (h : u.Id = id) : pathO id u = some [u] := by rw [pathO_eq, if_pos h]
theorem path_two {id : api_Id} {u : api_Unit} {w : List api_Unit} (h : u.Id ≠ id) (hw : pathO id u = some w) : 2 ≤ w.length ∧ ∃ v, u.Kids.findSome? (pathO id) = some v ∧ w = u :: v := by
  rw [pathO_eq, if_neg h] at hw
  obtain ⟨v, hv, rfl⟩ := Option.map_eq_some_iff.1 hw
  obtain ⟨k, hk, he⟩ := List.exists_of_findSome?_eq_some hv
  have := List.length_pos_iff.2 (path_ne id k v he)
  exact ⟨by simp; omega, v, hv, rfl⟩
theorem path_none {id : api_Id} {u : api_Unit} (h : pathO id u = none) : u.Id ≠ id ∧ findO id u = none := by
  refine ⟨fun e => ?_, ?_⟩
  · rw [path_self e] at h; cases h
  · rw [path_last, h]; rfl
theorem path_find {id : api_Id} {u : api_Unit} {w : List api_Unit} (h : pathO id u = some w) : ∃ x, findO id u = some x := by
  rw [path_last, h]
  cases w with
  | nil => exact absurd rfl (path_ne id u [] h)
  | cons a b =>
    refine ⟨(a :: b).getLast (by simp), ?_⟩
    rw [Option.bind_some]
    exact List.getLast?_eq_some_getLast (by simp)

theorem par_r06 (id : api_Id) (u : api_Unit) : To (fun n => M.r06_Parent n u id) (parR id u) := by
  refine uind (P := fun u => To (fun n => M.r06_Parent n u id) (parR id u)) ?_ u
  intro u ih
  have loop : ∀ (xs : List api_Unit) (slf : Nat → api_Unit → api_Id → Option (api_Id × Int × Bool)) (i : Nat) (v : api_Id), u.Kids.drop i = xs → (∀ k, k ∈ xs → To (fun n => slf n k id) (parR id k)) →
      To (fun n => M.r06_Parent_loop1 u id (slf n) n (i : Int) v) (match xs.findSome? (pathO id) with
        | none => .inl v
        | some w => .inr (if w.length = 1 then (u.Id, ((i + placeK id xs : Nat) : Int), true) else parW id w)) := by
    intro xs
    induction xs with
    | nil =>
      intro slf i v hx _
      refine To.succ ?_
      simp only [M.r06_Parent_loop1]
      exact To.neg (drop_end hx) To.pure
    | cons x xs ih =>
      intro slf i v hx hs
      have h1 := hs x (by simp)
      refine To.succ ?_
      simp only [M.r06_Parent_loop1]
      refine To.pos (drop_lt hx) (To.bindS (drop_idx hx) ?_)
      rw [List.findSome?_cons]
      cases hp : pathO id x with
      | none =>
        obtain ⟨e1, e2⟩ := path_none hp
        refine To.neg e1 (To.bindS (drop_idx hx) (To.bind (find_r06 id x) ?_))
        unfold findR
        rw [e2]
        refine To.neg (by simp) ?_
        rw [cast_succ]
        refine (ih (fun n => slf (n + 1)) (i + 1) v (drop_next hx) fun k hk => (hs k (by simp [hk])).shift).of ?_
        have : placeK id (x :: xs) = placeK id xs + 1 := by unfold placeK; rw [List.findIdx_cons]; simp [hp]
        rw [this, show i + (placeK id xs + 1) = i + 1 + placeK id xs by omega]
      | some w =>
        have hpl : placeK id (x :: xs) = 0 := by unfold placeK; rw [List.findIdx_cons]; simp [hp]
        by_cases hid : x.Id = id
        · have : w = [x] := by rw [path_self hid] at hp; exact (Option.some.inj hp).symm
          subst this
          exact To.pos hid (To.pure.of (by simp [hpl]))
        · obtain ⟨h2, _⟩ := path_two hid hp
          obtain ⟨y, hy⟩ := path_find hp
          refine To.neg hid (To.bindS (drop_idx hx) (To.bind (find_r06 id x) ?_))
          unfold findR
          rw [hy]
          refine To.pos rfl (To.bindS (drop_idx hx) (To.bind h1.shift (To.pure.of ?_)))
          unfold parR
          rw [hp]
          simp only
          rw [if_neg (by omega)]
  refine To.succ ?_
  simp only [M.r06_Parent]
  by_cases hid : u.Id = id
  · exact To.pos hid (To.pure.of (by unfold parR; rw [path_self hid]; rfl))
  · refine To.neg hid (To.bind (loop u.Kids (fun n => M.r06_Parent n) 0 zapi_Id rfl ih) ?_)
    unfold parR
    rw [pathO_eq, if_neg hid]
    cases hf : u.Kids.findSome? (pathO id) with
    | none => exact To.pure
    | some w =>
      simp only [Option.map_some]
      refine To.pure.of ?_
      obtain ⟨k, hk, he⟩ := List.exists_of_findSome?_eq_some hf
      have hpos := List.length_pos_iff.2 (path_ne id k w he)
      by_cases h1 : w.length = 1
      · rw [if_pos h1]
        match w, h1 with
        | [a], _ => simp [parW]
      · rw [if_neg h1, parW_cons id u w (by omega)]

theorem indexK (l : List api_Unit) (p : api_Unit → Bool) (fs : Nat → api_Unit → Option Bool) (hf : ∀ k, k ∈ l → To (fun n => fs n k) (p k)) : To (fun n => M.slices_IndexFunc_api_Unit_api_Unit n l (fs n)) (if l.any p then ((l.findIdx p : Nat) : Int) else -1) := by
  have loop : ∀ (xs : List api_Unit) (fs : Nat → api_Unit → Option Bool) (i : Nat), l.drop i = xs → (∀ k, k ∈ xs → To (fun n => fs n k) (p k)) →
      To (fun n => M.slices_IndexFunc_api_Unit_api_Unit_loop1 l (fs n) n (i : Int)) (if xs.any p then .inr ((i + xs.findIdx p : Nat) : Int) else .inl ()) := by
    intro xs
    induction xs with
    | nil =>
      intro fs i hx _
      refine To.succ ?_
      simp only [M.slices_IndexFunc_api_Unit_api_Unit_loop1]
      exact To.neg (drop_end hx) (To.pure.of (by simp))
    | cons x xs ih =>
      intro fs i hx hs
      refine To.succ ?_
      simp only [M.slices_IndexFunc_api_Unit_api_Unit_loop1]
      refine To.pos (drop_lt hx) (To.bindS (drop_idx hx) (To.bind (hs x (by simp)).shift ?_))
      cases hp : p x with
      | true => exact To.pos rfl (To.pure.of (by simp [hp, List.findIdx_cons]))
      | false =>
        refine To.neg (by simp) ?_
        rw [cast_succ]
        refine (ih (fun n => fs (n + 1)) (i + 1) (drop_next hx) fun k hk => (hs k (by simp [hk])).shift).of ?_
        simp only [List.any_cons, hp, Bool.false_or, List.findIdx_cons, cond_false]
        split
        · congr 2; omega
        · rfl
  simp only [M.slices_IndexFunc_api_Unit_api_Unit]
  refine To.bind (loop l fs 0 rfl hf) ?_
  by_cases h : l.any p = true
  · rw [if_pos h, if_pos h]; exact To.pure.of (by simp)
  · rw [if_neg h, if_neg h]; exact To.pure

theorem par_path (id : api_Id) (u : api_Unit) : ∀ w, pathO id u = some w → 2 ≤ w.length → ∃ p, p ∈ desc u ∧ w[w.length - 2]? = some p ∧ (p.Kids.any fun k => (pathO id k).isSome) = true ∧ parW id w = (p.Id, ((placeK id p.Kids : Nat) : Int), true) := by
  refine uind (P := fun u => ∀ w, pathO id u = some w → 2 ≤ w.length → ∃ p, p ∈ desc u ∧ w[w.length - 2]? = some p ∧ (p.Kids.any fun k => (pathO id k).isSome) = true ∧ parW id w = (p.Id, ((placeK id p.Kids : Nat) : Int), true)) ?_ u
  intro u ih w hw h2
  by_cases hid : u.Id = id
  · rw [path_self hid] at hw
    cases hw
    simp at h2
  · obtain ⟨_, v, hv, rfl⟩ := path_two hid hw
    obtain ⟨k, hk, he⟩ := List.exists_of_findSome?_eq_some hv
    by_cases h3 : 2 ≤ v.length
    · obtain ⟨p, q0, q1, q2, q3⟩ := ih k hk v he h3
      refine ⟨p, desc_kid hk q0, ?_, q2, by rw [parW_cons id u v h3]; exact q3⟩
      rw [List.length_cons, show v.length + 1 - 2 = (v.length - 2) + 1 by omega, List.getElem?_cons_succ]
      exact q1
    · have hpos := List.length_pos_iff.2 (path_ne id k v he)
      have h1 : v.length = 1 := by omega
      match v, h1 with
      | [a], _ =>
        refine ⟨u, desc_self u, rfl, ?_, by simp [parW]⟩
        rw [List.any_eq_true]
        exact ⟨k, hk, by rw [he]; rfl⟩

theorem par_u (id : api_Id) (u : api_Unit) (hc : cnt u ≤ 10000) : To (fun n => M.unit_Parent n u id) (parR id u) := by
  simp only [M.unit_Parent]
  refine To.bind (way_ok id u hc) ?_
  unfold parR
  cases hp : pathO id u with
  | none => exact To.pos (by simp) To.pure
  | some w =>
    simp only [Option.getD_some]
    have hlen := path_len id u w hp
    by_cases h2 : w.length < 2
    · refine To.pos (by omega) (To.pure.of ?_)
      have hpos := List.length_pos_iff.2 (path_ne id u w hp)
      match w, hpos, h2 with
      | [a], _, _ => rfl
    · obtain ⟨p, q0, q1, q2, q3⟩ := par_path id u w hp (by omega)
      refine To.neg (by omega) (To.bindS (subC_eq (by omega) (by omega)) (To.bindS (a := p) ?_ ?_))
      · rw [show (w.length : Int) - 2 = ((w.length - 2 : Nat) : Int) by omega, idx_nat]
        exact q1
      · have hi := indexK p.Kids (fun k => (pathO id k).isSome) (fun n s0 => M.unit_Parent_1 n s0 id) (fun k hk => by
          simp only [M.unit_Parent_1]
          refine To.bind (way_ok id k (by have := cnt_kid hk; have := cnt_sub q0; omega)) (To.pure.of ?_)
          cases hk : pathO id k with
          | none => rfl
          | some v =>
            have := path_ne id k v hk
            cases v with
            | nil => exact absurd rfl this
            | cons a b => rfl)
        rw [if_pos q2] at hi
        refine To.bind hi (To.pure.of ?_)
        rw [q3]; rfl

/-! ### Insertion points -/

theorem way_sub (u : api_Unit) : ∀ (p : List api_Step) (l : List api_Unit), (∀ x, x ∈ l → x ∈ desc u) → ∀ x, x ∈ way p l → x ∈ desc u
  | [], l, h, x, hx => h x hx
  | s :: p, l, h, x, hx => by
    refine way_sub u p (down s l) (fun y hy => ?_) x hx
    obtain ⟨z, hz, hk⟩ := List.mem_flatMap.1 (List.mem_filter.1 hy).1
    exact desc_sub (h z hz) y (mem_desc_kids hk)
theorem units_sub (u : api_Unit) (p : List api_Step) : ∀ x, x ∈ units u p → x ∈ desc u := by
  intro x hx
  unfold units at hx
  split at hx
  · split at hx
    · rw [List.mem_singleton.1 hx]; exact desc_self u
    · refine way_sub u _ _ (fun y hy => ?_) x hx
      split at hy
      · rw [List.mem_singleton.1 hy]; exact desc_self u
      · exact (List.mem_filter.1 hy).1
  · cases hx

theorem one_ok (u : api_Unit) (p : List api_Step) (h : (oneOf ((units u p).map api_Unit.Id)).2 = 0) : ∃ x, x ∈ desc u ∧ x.Id = (oneOf ((units u p).map api_Unit.Id)).1 := by
  cases hu : (units u p).map api_Unit.Id with
  | nil => rw [hu] at h; simp [oneOf] at h
  | cons a l =>
    cases l with
    | nil =>
      have : a ∈ (units u p).map api_Unit.Id := by rw [hu]; simp
      obtain ⟨x, hx, rfl⟩ := List.mem_map.1 this
      exact ⟨x, units_sub u p x hx, rfl⟩
    | cons b m => rw [hu] at h; simp [oneOf] at h

/-- Where something goes beside or into a unit. -/
def leadR (id : api_Id) (u : api_Unit) (w : Int) : api_Id × Int × Int :=
  if w = 0 then (id, 0, 0)
  else if w = 1 then (id, ((findR id u).1.Kids.length : Int), 0)
  else if u.Id = id then (zapi_Id, 0, 9)
  else ((parR id u).1, (parR id u).2.1 + (if w = 2 then 1 else 0), 0)

def insR (u : api_Unit) (p : List api_Step) (w : Int) : api_Id × Int × Int :=
  if w < 0 ∨ 3 < w then (zapi_Id, 0, 1)
  else
    let o := oneOf ((units u p).map api_Unit.Id)
    if o.2 ≠ 0 then (zapi_Id, 0, o.2) else leadR o.1 u w

theorem par_root {id : api_Id} {u : api_Unit} (h : u.Id = id) : parR id u = (zapi_Id, -1, false) := by unfold parR; rw [path_self h]; rfl
theorem par_some {id : api_Id} {u x : api_Unit} (hx : x ∈ desc u) (he : x.Id = id) (h : u.Id ≠ id) : (parR id u).2.2 = true ∧ 0 ≤ (parR id u).2.1 ∧ (parR id u).2.1 ≤ cnt u := by
  obtain ⟨y, hy⟩ := find_some id u x hx he
  cases hp : pathO id u with
  | none => rw [(path_none hp).2] at hy; cases hy
  | some w =>
    obtain ⟨h2, _⟩ := path_two h hp
    obtain ⟨p, q0, _, _, q3⟩ := par_path id u w hp h2
    unfold parR
    rw [hp]
    simp only
    rw [q3]
    refine ⟨rfl, by simp, ?_⟩
    have h1 : placeK id p.Kids ≤ p.Kids.length := List.findIdx_le_length
    have h2 := cnt_kids p
    have h3 := cnt_sub q0
    simp only
    omega

theorem lead_ok (id : api_Id) (u : api_Unit) (w : Int) (hc : cnt u ≤ 10000) (hl : labs u) (h0 : 0 ≤ w) (h3 : w ≤ 3) (hm : ∃ x, x ∈ desc u ∧ x.Id = id) :
    To (fun n => Option.bind (M.target_leads n) fun leads => Option.bind (idx leads w) fun v => v u id) ((⟨(leadR id u w).1, (leadR id u w).2.1⟩ : target_spot), (leadR id u w).2.2) := by
  obtain ⟨x, hx, he⟩ := hm
  have hf := find_u id u hc hl
  have hp := par_u id u hc
  have beside : ∀ b : Int, 0 ≤ b → b ≤ 1 → To (fun n => M.target_beside n u id b) (if u.Id = id then ((⟨zapi_Id, 0⟩ : target_spot), (9 : Int)) else ((⟨(parR id u).1, (parR id u).2.1 + b⟩ : target_spot), 0)) := by
    intro b hb0 hb1
    simp only [M.target_beside]
    refine To.bind hp ?_
    by_cases hid : u.Id = id
    · rw [if_pos hid, par_root hid]
      exact To.pos rfl To.pure
    · obtain ⟨k1, k2, k3⟩ := par_some hx he hid
      rw [if_neg hid]
      refine To.neg (by rw [k1]; simp) (To.bindS (addC_eq (by omega) (by omega)) To.pure)
  have hw : w = 0 ∨ w = 1 ∨ w = 2 ∨ w = 3 := by omega
  simp only [M.target_leads, Option.bind_some]
  rcases hw with rfl | rfl | rfl | rfl
  · refine To.eq (g := fun n => M.target_leads_1 n u id) ?_ (fun n => rfl)
    simp only [M.target_leads_1, M.target_into, M.target_leads_1_1]
    exact To.bind (To.bind hf To.pure) (To.pure.of (by simp [leadR]))
  · refine To.eq (g := fun n => M.target_leads_2 n u id) ?_ (fun n => rfl)
    simp only [M.target_leads_2, M.target_into, M.target_leads_2_1]
    exact To.bind (To.bind hf To.pure) (To.pure.of (by simp [leadR]))
  · refine To.eq (g := fun n => M.target_leads_3 n u id) ?_ (fun n => rfl)
    simp only [M.target_leads_3]
    refine To.bind (beside 1 (by omega) (by omega)) (To.pure.of ?_)
    by_cases hid : u.Id = id <;> simp [leadR, hid]
  · refine To.eq (g := fun n => M.target_leads_4 n u id) ?_ (fun n => rfl)
    simp only [M.target_leads_4]
    refine To.bind (beside 0 (by omega) (by omega)) (To.pure.of ?_)
    by_cases hid : u.Id = id <;> simp [leadR, hid]

theorem bind_assoc' {α β γ : Type} (o : Option α) (f : α → Option β) (g : β → Option γ) : Option.bind (Option.bind o f) g = Option.bind o fun x => Option.bind (f x) g := by cases o <;> rfl

theorem ins_u (u : api_Unit) (p : List api_Step) (w : Int) (hc : cnt u ≤ 10000) (hl : labs u) : To (fun n => M.target_InsertionPoint n u p w) (insR u p w) := by
  have hul : (units u p).length ≤ lim38 := by
    have h1 := units_len u p
    have h2 : cnt u * cnt u ≤ 10000 * 10000 := Nat.mul_le_mul hc hc
    unfold lim38; omega
  simp only [M.target_InsertionPoint, M.target_isWhere]
  unfold insR
  by_cases hw : w < 0 ∨ 3 < w
  · refine To.bindS (a := false) ?_ (To.pos rfl (To.pure.of (by rw [if_pos hw]; rfl)))
    by_cases h0 : 0 ≤ w
    · rw [if_pos h0]; simp; omega
    · rw [if_neg h0]
  · refine To.bindS (a := true) (by rw [if_pos (by omega)]; simp; omega) (To.neg (by simp) (To.bind (findone_ok u p hc hul) ?_))
    rw [if_neg hw]
    simp only
    by_cases he : (oneOf ((units u p).map api_Unit.Id)).2 = 0
    · have hm := one_ok u p he
      generalize oneOf ((units u p).map api_Unit.Id) = o at he hm ⊢
      have hld := lead_ok o.1 u w hc hl (by omega) (by omega) hm
      rw [if_neg (by simpa using he)]
      refine To.neg (by simpa using he) ?_
      have := To.bind (g := fun n v1 => if v1.2 ≠ (0 : Int) then some ((⟨(0 : Int), (0 : Int), (0 : Int)⟩ : api_Id), (0 : Int), v1.2) else some (v1.1.parent_, v1.1.at_, (0 : Int))) hld (r := leadR o.1 u w) (by
        by_cases h9 : (leadR o.1 u w).2.2 = 0
        · refine To.neg (by simpa using h9) (To.pure.of ?_)
          simp only
          rw [← h9]
        · refine To.pos (by simpa using h9) (To.pure.of ?_)
          have : u.Id = o.1 ∧ ¬ w = 0 ∧ ¬ w = 1 := by
            unfold leadR at h9
            split at h9
            · exact absurd rfl h9
            · split at h9
              · exact absurd rfl h9
              · split at h9
                · exact ⟨by assumption, by assumption, by assumption⟩
                · exact absurd rfl h9
          simp [leadR, this, zapi_Id])
      refine this.eq fun n => ?_
      simp only [bind_assoc']
    · refine To.pos (by simpa using he) (To.pure.of ?_)
      rw [if_pos (by simpa using he)]; rfl

theorem ins_r (u : api_Unit) (p : List api_Step) (w : Int) (hc : cnt u ≤ 10000) (hp : ∀ y, y ∈ p → y.Label.length ≤ 1000000000) : To (fun n => M.r21_Where n u p w) (insR u p w) := by
  simp only [M.r21_Where]
  unfold insR
  by_cases hw : w < 0 ∨ 3 < w
  · refine To.bind (a := true) ?_ (To.pos rfl (To.pure.of (by rw [if_pos hw]; rfl)))
    by_cases h0 : w < 0
    · exact To.pos h0 To.pure
    · exact To.neg h0 (To.pure.of (by simp; omega))
  · refine To.bind (a := false) (To.neg (by omega) (To.pure.of (by simp; omega))) (To.neg (by simp) (To.bind (one_r u p hc hp) ?_))
    rw [if_neg hw]
    simp only
    by_cases he : (oneOf ((units u p).map api_Unit.Id)).2 = 0
    · have hm := one_ok u p he
      generalize oneOf ((units u p).map api_Unit.Id) = o at he hm ⊢
      obtain ⟨x, hx, hxe⟩ := hm
      rw [if_neg (by simpa using he)]
      refine To.neg (by simpa using he) (To.bind (find_r06 o.1 u) ?_)
      by_cases h0 : w = 0
      · exact To.pos h0 (To.pure.of (by simp [leadR, h0]))
      refine To.neg h0 ?_
      by_cases h1 : w = 1
      · exact To.pos h1 (To.pure.of (by simp [leadR, h1]))
      refine To.neg h1 ?_
      by_cases hid : u.Id = o.1
      · exact To.pos hid.symm (To.pure.of (by simp [leadR, h0, h1, hid, zapi_Id]))
      refine To.neg (fun e => hid e.symm) (To.bind (par_r06 o.1 u) ?_)
      obtain ⟨k1, k2, k3⟩ := par_some hx hxe hid
      by_cases h2 : w = 2
      · exact To.pos h2 (To.bindS (addC_eq (by omega) (by omega)) (To.pure.of (by simp [leadR, h2, hid])))
      · exact To.neg h2 (To.pure.of (by simp [leadR, h0, h1, h2, hid]))
    · refine To.pos (by simpa using he) (To.pure.of ?_)
      rw [if_pos (by simpa using he)]; rfl

theorem awake21 : To (fun n => M.law21_awake n) true := by
  refine To.far 60 fun m => ?_
  kernel_rfl

theorem insertion_true (u : api_Unit) (p : List api_Step) (w : Int) : ∃ n, M.law21_TargetInsertionPoint n u p w = some true := by
  refine To.ex ?_
  simp only [M.law21_TargetInsertionPoint]
  refine To.bind awake21 (To.neg (by simp) ?_)
  obtain ⟨b, hb, hbk⟩ := book_ok u
  cases b with
  | false => exact To.bind (a := true) (To.bind hb (To.pos rfl To.pure)) (To.pos rfl To.pure)
  | true =>
    obtain ⟨hc, hl, _⟩ := hbk rfl
    obtain ⟨f, hf, hfl⟩ := few17_ok (⟨(0 : Int), p, ([] : List api_Step), (0 : Int), (0 : Int), zapi_Unit, ([] : List Str), ([] : List Str), ([] : Str), ([] : Str), zapi_Start, (0 : Int), (0 : Int), (0 : Int), ([] : Str), ([] : List api_Item)⟩ : api_Item)
    refine To.bind (To.bind hb (To.neg (by simp) (To.bind hf To.pure))) ?_
    cases f with
    | false => exact To.pos rfl To.pure
    | true =>
      have hp := (hfl rfl).1
      refine To.neg (by simp) (To.bind (ins_u u p w (by omega) hl) (To.bind (ins_r u p w (by omega) (fun y hy => by have := hp y hy; omega)) ?_))
      exact To.pos rfl (To.pos rfl (To.pure.of (by simp)))

theorem ids_loop (a : List api_Id) : ∀ (xs : List api_Id) (i : Nat), a.drop i = xs → To (fun n => M.r07_Ids_loop1 a a n (i : Int)) (.inl ()) := by
  intro xs
  induction xs with
  | nil => intro i hx; refine To.succ ?_; simp only [M.r07_Ids_loop1]; exact To.neg (drop_end hx) To.pure
  | cons x xs ih =>
    intro i hx; refine To.succ ?_; simp only [M.r07_Ids_loop1]
    rw [cast_succ]
    exact To.pos (drop_lt hx) (To.bindS (drop_idx hx) (To.bindS (drop_idx hx) (To.neg (by simp) (ih (i + 1) (drop_next hx)))))
theorem ids_same (a : List api_Id) : To (fun n => M.r07_Ids n a a) true := by
  simp only [M.r07_Ids]
  exact To.neg (by simp) (To.bind (ids_loop a a 0 rfl) To.pure)

theorem find_true (u : api_Unit) (it : api_Item) : ∃ n, M.law21_TargetFind n u it = some true := by
  refine To.ex ?_
  simp only [M.law21_TargetFind]
  refine To.bind awake21 (To.neg (by simp) ?_)
  obtain ⟨b, hb, hbk⟩ := book_ok u
  cases b with
  | false => exact To.bind (a := true) (To.bind hb (To.pos rfl To.pure)) (To.pos rfl To.pure)
  | true =>
    obtain ⟨hc, hl, _⟩ := hbk rfl
    obtain ⟨f, hf, hfl⟩ := few17_ok it
    refine To.bind (To.bind hb (To.neg (by simp) (To.bind hf To.pure))) ?_
    cases f with
    | false => exact To.pos rfl To.pure
    | true =>
      have hp := (hfl rfl).1
      have hul : (units u it.At).length ≤ lim38 := by
        have h1 := units_len u it.At
        have h2 : cnt u * cnt u ≤ 30 * 30 := Nat.mul_le_mul hc hc
        unfold lim38; omega
      have hp' : ∀ y, y ∈ it.At → y.Label.length ≤ 1000000000 := fun y hy => by have := hp y hy; omega
      simp only [M.target_Find, M.target_FindAll]
      refine To.neg (by simp) (To.bind (To.bind (findone_ok u it.At (by omega) hul) To.pure) (To.bind (one_r u it.At (by omega) hp') ?_))
      refine To.pos rfl (To.pos rfl (To.bind (To.bind (findall_ok u it.At (by omega) hul) To.pure) (To.bind (find_r u it.At (by omega) hp') (To.bind (ids_same _) To.pure))))
end Go.Proofs.Ytfclekegoleiaaa
