/-
  Tables of destinations: what the functions of the program and of the reference compute.
-/
import Derived.Test.YtdnemlcoeecbjaaDoorMdl
import Derived.Test.YtdnemlcoeecbjaaDoorEv
import Derived.KernelRfl
set_option linter.unusedVariables false
set_option linter.unusedSimpArgs false
namespace Go.Proofs.YtdnemlcoeecbjaaDoor
open Go Go.Dec

abbrev Dst := api_Destination

def toF (id : api_Id) (l : List Dst) : api_Id × Bool := match l.find? (fun d => decide (d.From = id)) with
  | some d => (d.To, true)
  | none => (zapi_Id, false)
def fromF (id : api_Id) (l : List Dst) : api_Id × Bool := match l.find? (fun d => decide (d.To = id)) with
  | some d => (d.From, true)
  | none => (zapi_Id, false)
def inv (l : List Dst) : List Dst := l.map (fun d => ⟨d.To, d.From⟩)
def hop (b : List Dst) (d : Dst) : Option Dst := if (toF d.To b).2 = true then some ⟨d.From, (toF d.To b).1⟩ else none
def cmp (a b : List Dst) : List Dst := a.filterMap (hop b)

def bad (x y : Dst) : Bool := decide (x.From = y.From) || decide (x.To = y.To)
def okP (pre : List Dst) : List Dst → Bool
  | [] => true
  | y :: ys => !(pre.any fun x => bad x y) && okP (pre ++ [y]) ys
def vB (l : List Dst) : Bool := okP [] l && decide (l.length ≤ 4096)

theorem toF_cons (id : api_Id) (d : Dst) (l : List Dst) : toF id (d :: l) = if d.From = id then (d.To, true) else toF id l := by
  unfold toF
  rw [List.find?_cons]
  by_cases h : d.From = id <;> simp [h]
theorem fromF_inv (id : api_Id) : ∀ l : List Dst, fromF id l = toF id (inv l)
  | [] => rfl
  | d :: l => by
    have := fromF_inv id l
    unfold fromF toF inv at *
    rw [List.map_cons, List.find?_cons, List.find?_cons]
    by_cases h : d.To = id
    · simp [h]
    · simpa [h] using this

/-! ### To and From -/

theorem index_ok (l : List Dst) (f : Dst → Option Bool) (p : Dst → Bool) (hf : ∀ d, f d = some (p d)) :
    To (fun n => M.slices_IndexFunc_api_Destination_api_Destination n l f) (if l.any p then ((l.findIdx p : Nat) : Int) else -1) := by
  have loop : ∀ (xs : List Dst) (i : Nat), l.drop i = xs → To (fun n => M.slices_IndexFunc_api_Destination_api_Destination_loop1 l f n (i : Int)) (if xs.any p then .inr ((i + xs.findIdx p : Nat) : Int) else .inl ()) := by
    intro xs
    induction xs with
    | nil =>
      intro i hx
      refine To.succ ?_
      simp only [M.slices_IndexFunc_api_Destination_api_Destination_loop1]
      exact To.neg (drop_end hx) To.pure
    | cons x xs ih =>
      intro i hx
      refine To.succ ?_
      simp only [M.slices_IndexFunc_api_Destination_api_Destination_loop1]
      refine To.pos (drop_lt hx) (To.bindS (drop_idx hx) (To.bindS (hf x) ?_))
      by_cases hp : p x = true
      · refine To.pos hp (To.pure.of ?_)
        simp [hp, List.findIdx_cons]
      · have hp' : p x = false := by simpa using hp
        refine To.neg hp ?_
        rw [cast_succ]
        refine (ih (i + 1) (drop_next hx)).of ?_
        simp only [List.any_cons, hp', Bool.false_or, List.findIdx_cons, cond_false]
        by_cases ha : xs.any p = true
        · rw [if_pos ha, if_pos ha]; congr 2; omega
        · rw [if_neg ha, if_neg ha]
  simp only [M.slices_IndexFunc_api_Destination_api_Destination]
  refine To.bind (loop l 0 rfl) ?_
  by_cases ha : l.any p = true
  · rw [if_pos ha, if_pos ha]
    exact To.pure.of (by simp)
  · rw [if_neg ha, if_neg ha]
    exact To.pure

theorem found_ok (l : List Dst) (f : Dst → Option Bool) (p : Dst → Bool) (hf : ∀ d, f d = some (p d)) :
    To (fun n => M.destinations_found n l f) (match l.find? p with | some d => (d, true) | none => (zapi_Destination, false)) := by
  simp only [M.destinations_found]
  refine To.bind (index_ok l f p hf) ?_
  by_cases ha : l.any p = true
  · rw [if_pos ha]
    have hlt : l.findIdx p < l.length := by
      rw [List.findIdx_lt_length]
      simpa using ha
    have hget : l.find? p = some l[l.findIdx p] := by
      rw [List.find?_eq_some_iff_getElem]
      refine ⟨List.findIdx_getElem, _, hlt, rfl, fun j hj => ?_⟩
      have := List.not_of_lt_findIdx hj
      simpa using this
    refine To.neg (by omega) (To.bindS (by rw [idx_nat, List.getElem?_eq_getElem hlt]) (To.pure.of ?_))
    rw [hget]
  · rw [if_neg ha]
    refine To.pos (by omega) (To.pure.of ?_)
    have : l.find? p = none := by
      rw [List.find?_eq_none]
      intro x hx hp
      exact ha (List.any_eq_true.2 ⟨x, hx, hp⟩)
    rw [this]; rfl

theorem to_ok (id : api_Id) (l : List Dst) : To (fun n => M.destinations_To n id l) (toF id l) := by
  simp only [M.destinations_To]
  refine To.bind (found_ok l _ (fun d => decide (d.From = id)) (fun d => rfl)) (To.pure.of ?_)
  unfold toF
  cases l.find? (fun d => decide (d.From = id)) <;> rfl
theorem from_ok (id : api_Id) (l : List Dst) : To (fun n => M.destinations_From n id l) (toF id (inv l)) := by
  rw [← fromF_inv]
  simp only [M.destinations_From]
  refine To.bind (found_ok l _ (fun d => decide (d.To = id)) (fun d => rfl)) (To.pure.of ?_)
  unfold fromF
  cases l.find? (fun d => decide (d.To = id)) <;> rfl

theorem to_r (id : api_Id) (l : List Dst) : To (fun n => M.r47_To n id l) (toF id l) := by
  have loop : ∀ (xs : List Dst) (i : Nat), l.drop i = xs → ∀ z, To (fun n => M.r47_To_loop1 id l n (i : Int) z) (if (toF id xs).2 = true then .inr (toF id xs) else .inl z) := by
    intro xs
    induction xs with
    | nil =>
      intro i hx z
      refine To.succ ?_
      simp only [M.r47_To_loop1]
      exact To.neg (drop_end hx) To.pure
    | cons x xs ih =>
      intro i hx z
      refine To.succ ?_
      simp only [M.r47_To_loop1]
      refine To.pos (drop_lt hx) (To.bindS (drop_idx hx) ?_)
      rw [toF_cons]
      by_cases h : x.From = id
      · rw [if_pos h]
        exact To.pos h (To.bindS (drop_idx hx) To.pure)
      · rw [if_neg h]
        rw [cast_succ]
        exact To.neg h (ih (i + 1) (drop_next hx) z)
  simp only [M.r47_To]
  refine To.bind (loop l 0 rfl _) ?_
  by_cases h : (toF id l).2 = true
  · rw [if_pos h]; exact To.pure
  · rw [if_neg h]
    refine To.pure.of ?_
    unfold toF at h ⊢
    cases hf : l.find? (fun d => decide (d.From = id)) with
    | none => rfl
    | some d => rw [hf] at h; exact absurd rfl h

/-! ### Inverse tables -/

theorem invert_ok (l : List Dst) (hl : l.length ≤ 100000) : M.destinations_Invert l = some (inv l) := by
  have loop : ∀ (xs out : List Dst), out.length + xs.length ≤ 100000 → M.destinations_Invert_loop1 xs out = some (out ++ inv xs) := by
    intro xs
    induction xs with
    | nil => intro out _; simp [M.destinations_Invert_loop1, inv]
    | cons x xs ih =>
      intro out h
      simp only [List.length_cons] at h
      simp only [M.destinations_Invert_loop1]
      rw [appC_eq (by simp; omega), Option.bind_some, ih _ (by simp; omega)]
      simp [inv]
  simp only [M.destinations_Invert]
  rw [loop l [] (by simpa using hl), Option.bind_some]; rfl

theorem back_ok (l : List Dst) (hl : l.length ≤ 100000) : To (fun n => M.r47_Back n l) (inv l) := by
  have loop : ∀ (xs : List Dst) (i : Nat) (out : List Dst), l.drop i = xs → out.length + xs.length ≤ 100000 → To (fun n => M.r47_Back_loop1 l n out (i : Int)) (out ++ inv xs) := by
    intro xs
    induction xs with
    | nil =>
      intro i out hx _
      refine To.succ ?_
      simp only [M.r47_Back_loop1]
      exact To.neg (drop_end hx) (To.pure.of (by simp [inv]))
    | cons x xs ih =>
      intro i out hx h
      simp only [List.length_cons] at h
      refine To.succ ?_
      simp only [M.r47_Back_loop1]
      refine To.pos (drop_lt hx) (To.bindS (drop_idx hx) (To.bindS (drop_idx hx) (To.bindS (appC_eq (by simp; omega)) ?_)))
      rw [cast_succ]
      exact (ih (i + 1) _ (drop_next hx) (by simp; omega)).of (by simp [inv])
  simp only [M.r47_Back]
  exact To.bind (loop l 0 [] rfl (by simpa using hl)) (To.pure.of (by simp))

theorem same_ok (a b : List Dst) : To (fun n => M.r47_Same n a b) (decide (a = b)) := by
  simp only [M.r47_Same]
  by_cases hl : a.length = b.length
  · have loop : ∀ (xs ys : List Dst) (i : Nat), a.drop i = xs → b.drop i = ys → xs.length = ys.length → To (fun n => M.r47_Same_loop1 a b n (i : Int)) (if xs = ys then .inl () else .inr false) := by
      intro xs
      induction xs with
      | nil =>
        intro ys i hx hy he
        have : ys = [] := by simpa using he.symm
        subst this
        refine To.succ ?_
        simp only [M.r47_Same_loop1]
        exact To.neg (drop_end hx) To.pure
      | cons x xs ih =>
        intro ys i hx hy he
        cases ys with
        | nil => cases he
        | cons y ys =>
          refine To.succ ?_
          simp only [M.r47_Same_loop1]
          refine To.pos (drop_lt hx) (To.bindS (drop_idx hx) (To.bindS (drop_idx hy) ?_))
          by_cases hxy : x = y
          · subst hxy
            refine To.neg (by simp) ?_
            rw [cast_succ]
            exact (ih ys (i + 1) (drop_next hx) (drop_next hy) (by simpa using he)).of (by simp)
          · refine To.pos hxy (To.pure.of ?_)
            rw [if_neg (by simp [hxy])]
    refine To.neg (by omega) (To.bind (loop a b 0 rfl rfl hl) ?_)
    by_cases h : a = b
    · rw [if_pos h]; exact To.pure.of (by simp [h])
    · rw [if_neg h]; exact To.pure.of (by simp [h])
  · refine To.pos (by omega) (To.pure.of ?_)
    have : a ≠ b := fun e => hl (by rw [e])
    simp [this]

/-! ### Valid tables -/

theorem mget_mset {α β : Type} [DecidableEq α] (k : α) (v z : β) : ∀ (m : List (α × β)) (k' : α), mget (mset m k v) k' z = if k' = k then v else mget m k' z
  | [], k' => by
    by_cases h : k' = k <;> simp [mset, mget, h]
  | p :: m, k' => by
    by_cases hp : k = p.1
    · subst hp
      by_cases h : k' = p.1 <;> simp [mset, mget, h]
    · by_cases h : k' = k
      · subst h
        simp [mset, mget, hp, mget_mset]
      · simp [mset, mget, hp, mget_mset, h]

theorem any_or {α : Type} (l : List α) (p q : α → Bool) : (l.any fun x => p x || q x) = (l.any p || l.any q) := by
  induction l with
  | nil => rfl
  | cons x l ih =>
    simp only [List.any_cons, ih]
    cases p x <;> cases q x <;> cases l.any p <;> cases l.any q <;> rfl

theorem valid_ok (l : List Dst) : M.destinations_Valid l = some (vB l) := by
  have loop : ∀ (xs pre : List Dst) (v v1 : List (api_Id × Bool)), (∀ k, mget v k false = pre.any fun x => decide (x.From = k)) → (∀ k, mget v1 k false = pre.any fun x => decide (x.To = k)) →
      (okP pre xs = true ∧ ∃ p, M.destinations_Valid_loop1 xs v v1 = some (.inl p)) ∨ (okP pre xs = false ∧ M.destinations_Valid_loop1 xs v v1 = some (.inr false)) := by
    intro xs
    induction xs with
    | nil => intro pre v v1 _ _; exact .inl ⟨rfl, _, rfl⟩
    | cons x xs ih =>
      intro pre v v1 h1 h2
      have hb : (pre.any fun y => bad y x) = (mget v x.From false || mget v1 x.To false) := by
        rw [h1, h2]
        exact any_or pre _ _
      simp only [M.destinations_Valid_loop1, okP, hb]
      by_cases hv : mget v x.From false = true
      · refine .inr ⟨by simp [hv], ?_⟩
        rw [if_pos hv]; simp
      · rw [if_neg hv]
        have hv' : mget v x.From false = false := by simpa using hv
        by_cases hw : mget v1 x.To false = true
        · refine .inr ⟨by simp [hw], ?_⟩
          simp [hw]
        · have hw' : mget v1 x.To false = false := by simpa using hw
          rcases ih (pre ++ [x]) (mset v x.From true) (mset v1 x.To true) (fun k => by
            rw [mget_mset, List.any_append, ← h1 k]
            by_cases hk : k = x.From
            · simp [hk]
            · simp [hk, Ne.symm hk]) (fun k => by
            rw [mget_mset, List.any_append, ← h2 k]
            by_cases hk : k = x.To
            · simp [hk]
            · simp [hk, Ne.symm hk]) with ⟨h3, p, h4⟩ | ⟨h3, h4⟩
          · refine .inl ⟨by simp [hv', hw', h3], p, ?_⟩
            simp [hw', h4]
          · refine .inr ⟨by simp [hv', hw', h3], ?_⟩
            simp [hw', h4]
  simp only [M.destinations_Valid]
  unfold vB
  rcases loop l [] [] [] (fun k => rfl) (fun k => rfl) with ⟨h1, p, h2⟩ | ⟨h1, h2⟩
  · rw [h2, h1]
    simp
    omega
  · rw [h2, h1]
    simp

theorem may_ok47 (l : List Dst) (hl : l.length ≤ 100000) : To (fun n => M.r47_May n l) (vB l) := by
  have loop2 : ∀ (i : Nat) (y : Dst), idx l (i : Int) = some y → i < l.length → ∀ (xs : List Dst) (k : Nat), (l.take i).drop k = xs → To (fun n => M.r47_May_loop2 l (i : Int) n (k : Int)) (if (xs.any fun x => bad x y) = true then .inr false else .inl ()) := by
    intro i y hy hi xs
    induction xs with
    | nil =>
      intro k hx
      refine To.succ ?_
      simp only [M.r47_May_loop2]
      refine To.neg ?_ To.pure
      have := drop_end hx
      rw [List.length_take] at this
      omega
    | cons x xs ih =>
      intro k hx
      obtain ⟨h1, h2, h3⟩ := drop_cons hx
      rw [List.length_take] at h1
      have hk : k < i := by omega
      have hxk : idx l (k : Int) = some x := by
        rw [idx_nat]
        rw [List.getElem?_take, if_pos hk] at h2
        exact h2
      refine To.succ ?_
      simp only [M.r47_May_loop2]
      refine To.pos (by omega) (To.bindS hxk (To.bindS hy ?_))
      by_cases hf : x.From = y.From
      · refine To.pos hf (To.pure.of ?_)
        simp [bad, hf]
      · refine To.neg hf (To.bindS hxk (To.bindS hy ?_))
        by_cases ht : x.To = y.To
        · refine To.pos ht (To.pure.of ?_)
          simp [bad, ht]
        · refine To.neg ht (To.bindS (addC_succ (by omega)) ?_)
          refine (ih (k + 1) h3).of ?_
          simp [bad, hf, ht]
  have loop1 : ∀ (xs : List Dst) (i : Nat), l.drop i = xs → To (fun n => M.r47_May_loop1 l n (i : Int)) (if okP (l.take i) xs = true then .inl () else .inr false) := by
    intro xs
    induction xs with
    | nil =>
      intro i hx
      refine To.succ ?_
      simp only [M.r47_May_loop1]
      exact To.neg (drop_end hx) To.pure
    | cons x xs ih =>
      intro i hx
      obtain ⟨h1, h2, h3⟩ := drop_cons hx
      refine To.succ ?_
      simp only [M.r47_May_loop1]
      refine To.pos (drop_lt hx) (To.bind ((loop2 i x (drop_idx hx) h1 (l.take i) 0 rfl)) ?_)
      by_cases hb : ((l.take i).any fun z => bad z x) = true
      · rw [if_pos hb]
        refine To.pure.of ?_
        simp [okP, hb]
      · have hb' : ((l.take i).any fun z => bad z x) = false := by simpa using hb
        rw [if_neg hb]
        refine To.bindS (addC_succ (by omega)) ?_
        refine (ih (i + 1) h3).of ?_
        have ht : l.take (i + 1) = l.take i ++ [x] := by
          rw [List.take_add_one, h2]; rfl
        have e : okP (l.take i) (x :: xs) = okP (l.take (i + 1)) xs := by
          rw [ht]
          simp only [okP, hb', Bool.not_false, Bool.true_and]
        rw [e]
  simp only [M.r47_May]
  refine To.bind (loop1 l 0 rfl) ?_
  unfold vB
  rw [List.take_zero]
  by_cases h : okP [] l = true
  · rw [if_pos h]
    exact To.pure.of (by simp [h]; omega)
  · rw [if_neg h]
    have h' : okP [] l = false := by simpa using h
    exact To.pure.of (by simp [h'])

/-! ### Chains of tables -/

theorem cmp_len (a b : List Dst) : (cmp a b).length ≤ a.length := List.length_filterMap_le _ _

theorem compose_ok (a b : List Dst) (hl : a.length ≤ 100000) : To (fun n => M.destinations_Compose n a b) (cmp a b) := by
  have loop : ∀ (xs out : List Dst), out.length + xs.length ≤ 100000 → To (fun n => M.destinations_Compose_loop1 n b xs out) (out ++ cmp xs b) := by
    intro xs
    induction xs with
    | nil => intro out _; simp only [M.destinations_Compose_loop1]; exact To.pure.of (by simp [cmp])
    | cons x xs ih =>
      intro out h
      simp only [List.length_cons] at h
      simp only [M.destinations_Compose_loop1]
      refine To.bind (to_ok x.To b) ?_
      by_cases ht : (toF x.To b).2 = true
      · refine To.pos ht (To.bindS (appC_eq (by simp; omega)) ?_)
        exact (ih _ (by simp; omega)).of (by simp [cmp, hop, ht])
      · refine To.neg ht ?_
        exact (ih _ (by omega)).of (by simp [cmp, hop, ht])
  simp only [M.destinations_Compose]
  exact To.bind (loop a [] (by simpa using hl)) (To.pure.of (by simp))

theorem chain_ok (a b : List Dst) (hl : a.length ≤ 100000) : To (fun n => M.r47_Chain n a b) (cmp a b) := by
  have loop : ∀ (xs : List Dst) (i : Nat) (out : List Dst), a.drop i = xs → out.length + xs.length ≤ 100000 → To (fun n => M.r47_Chain_loop1 a b n out (i : Int)) (out ++ cmp xs b) := by
    intro xs
    induction xs with
    | nil =>
      intro i out hx _
      refine To.succ ?_
      simp only [M.r47_Chain_loop1]
      exact To.neg (drop_end hx) (To.pure.of (by simp [cmp]))
    | cons x xs ih =>
      intro i out hx h
      simp only [List.length_cons] at h
      refine To.succ ?_
      simp only [M.r47_Chain_loop1]
      refine To.pos (drop_lt hx) (To.bindS (drop_idx hx) (To.bind (to_r x.To b) ?_))
      rw [cast_succ]
      by_cases ht : (toF x.To b).2 = true
      · refine To.pos ht (To.bindS (drop_idx hx) (To.bindS (appC_eq (by simp; omega)) ?_))
        exact (ih (i + 1) _ (drop_next hx) (by simp; omega)).of (by simp [cmp, hop, ht])
      · refine To.neg ht ?_
        exact (ih (i + 1) _ (drop_next hx) (by omega)).of (by simp [cmp, hop, ht])
  simp only [M.r47_Chain]
  exact To.bind (loop a 0 [] rfl (by simpa using hl)) (To.pure.of (by simp))

theorem awake47 : To (fun n => M.law47_awake n) true := by
  refine To.far 20 fun m => ?_
  kernel_rfl
end Go.Proofs.YtdnemlcoeecbjaaDoor
