/-
  Tables, texts and their pieces: what other chapters' texts hold too (picked by wip/scripts/pick.py).
-/
import Derived.Test.YtdnemlcoeecbjaaDoorMdl
import Derived.Test.YtdnemlcoeecbjaaDoorEv
import Derived.Test.YtdnemlcoeecbjaaDoorPe
import Derived.KernelRfl
set_option linter.unusedVariables false
set_option linter.unusedSimpArgs false
namespace Go.Proofs.YtdnemlcoeecbjaaDoor
open Go Go.Dec

abbrev Dst := api_Destination

def toF (id : api_Id) (l : List Dst) : api_Id × Bool := match l.find? (fun d => decide (d.From = id)) with
  | some d => (d.To, true)
  | none => (zapi_Id, false)

def fromF (id : api_Id) (l : List Dst) : api_Id × Bool := match l.find? (fun d => decide (d.To = id)) with
  | some d => (d.From, true)
  | none => (zapi_Id, false)

def inv (l : List Dst) : List Dst := l.map (fun d => ⟨d.To, d.From⟩)

def bad (x y : Dst) : Bool := decide (x.From = y.From) || decide (x.To = y.To)

def okP (pre : List Dst) : List Dst → Bool
  | [] => true
  | y :: ys => !(pre.any fun x => bad x y) && okP (pre ++ [y]) ys

def vB (l : List Dst) : Bool := okP [] l && decide (l.length ≤ 4096)

theorem toF_cons (id : api_Id) (d : Dst) (l : List Dst) : toF id (d :: l) = if d.From = id then (d.To, true) else toF id l := by
  unfold toF
  rw [List.find?_cons]
  by_cases h : d.From = id <;> simp [h]

theorem fromF_inv (id : api_Id) : ∀ l : List Dst, fromF id l = toF id (inv l)
  | [] => rfl
  | d :: l => by
    have := fromF_inv id l
    unfold fromF toF inv at *
    rw [List.map_cons, List.find?_cons, List.find?_cons]
    by_cases h : d.To = id
    · simp [h]
    · simpa [h] using this

theorem index_ok (l : List Dst) (f : Dst → Option Bool) (p : Dst → Bool) (hf : ∀ d, f d = some (p d)) :
    To (fun n => M.slices_IndexFunc_api_Destination_api_Destination n l f) (if l.any p then ((l.findIdx p : Nat) : Int) else -1) := by
  have loop : ∀ (xs : List Dst) (i : Nat), l.drop i = xs → To (fun n => M.slices_IndexFunc_api_Destination_api_Destination_loop1 l f n (i : Int)) (if xs.any p then .inr ((i + xs.findIdx p : Nat) : Int) else .inl ()) := by
    intro xs
    induction xs with
    | nil =>
      intro i hx
      refine To.succ ?_
      simp only [M.slices_IndexFunc_api_Destination_api_Destination_loop1]
      exact To.neg (drop_end hx) To.pure
    | cons x xs ih =>
      intro i hx
      refine To.succ ?_
      simp only [M.slices_IndexFunc_api_Destination_api_Destination_loop1]
      refine To.pos (drop_lt hx) (To.bindS (drop_idx hx) (To.bindS (hf x) ?_))
      by_cases hp : p x = true
      · refine To.pos hp (To.pure.of ?_)
        simp [hp, List.findIdx_cons]
      · have hp' : p x = false := by simpa using hp
        refine To.neg hp ?_
        rw [cast_succ]
        refine (ih (i + 1) (drop_next hx)).of ?_
        simp only [List.any_cons, hp', Bool.false_or, List.findIdx_cons, cond_false]
        by_cases ha : xs.any p = true
        · rw [if_pos ha, if_pos ha]; congr 2; omega
        · rw [if_neg ha, if_neg ha]
  simp only [M.slices_IndexFunc_api_Destination_api_Destination]
  refine To.bind (loop l 0 rfl) ?_
  by_cases ha : l.any p = true
  · rw [if_pos ha, if_pos ha]
    exact To.pure.of (by simp)
  · rw [if_neg ha, if_neg ha]
    exact To.pure

theorem found_ok (l : List Dst) (f : Dst → Option Bool) (p : Dst → Bool) (hf : ∀ d, f d = some (p d)) :
    To (fun n => M.destinations_found n l f) (match l.find? p with | some d => (d, true) | none => (zapi_Destination, false)) := by
  simp only [M.destinations_found]
  refine To.bind (index_ok l f p hf) ?_
  by_cases ha : l.any p = true
  · rw [if_pos ha]
    have hlt : l.findIdx p < l.length := by
      rw [List.findIdx_lt_length]
      simpa using ha
    have hget : l.find? p = some l[l.findIdx p] := by
      rw [List.find?_eq_some_iff_getElem]
      refine ⟨List.findIdx_getElem, _, hlt, rfl, fun j hj => ?_⟩
      have := List.not_of_lt_findIdx hj
      simpa using this
    refine To.neg (by omega) (To.bindS (by rw [idx_nat, List.getElem?_eq_getElem hlt]) (To.pure.of ?_))
    rw [hget]
  · rw [if_neg ha]
    refine To.pos (by omega) (To.pure.of ?_)
    have : l.find? p = none := by
      rw [List.find?_eq_none]
      intro x hx hp
      exact ha (List.any_eq_true.2 ⟨x, hx, hp⟩)
    rw [this]; rfl

theorem to_ok (id : api_Id) (l : List Dst) : To (fun n => M.destinations_To n id l) (toF id l) := by
  simp only [M.destinations_To]
  refine To.bind (found_ok l _ (fun d => decide (d.From = id)) (fun d => rfl)) (To.pure.of ?_)
  unfold toF
  cases l.find? (fun d => decide (d.From = id)) <;> rfl

theorem from_ok (id : api_Id) (l : List Dst) : To (fun n => M.destinations_From n id l) (toF id (inv l)) := by
  rw [← fromF_inv]
  simp only [M.destinations_From]
  refine To.bind (found_ok l _ (fun d => decide (d.To = id)) (fun d => rfl)) (To.pure.of ?_)
  unfold fromF
  cases l.find? (fun d => decide (d.To = id)) <;> rfl

theorem same_ok (a b : List Dst) : To (fun n => M.r47_Same n a b) (decide (a = b)) := by
  simp only [M.r47_Same]
  by_cases hl : a.length = b.length
  · have loop : ∀ (xs ys : List Dst) (i : Nat), a.drop i = xs → b.drop i = ys → xs.length = ys.length → To (fun n => M.r47_Same_loop1 a b n (i : Int)) (if xs = ys then .inl () else .inr false) := by
      intro xs
      induction xs with
      | nil =>
        intro ys i hx hy he
        have : ys = [] := by simpa using he.symm
        subst this
        refine To.succ ?_
        simp only [M.r47_Same_loop1]
        exact To.neg (drop_end hx) To.pure
      | cons x xs ih =>
        intro ys i hx hy he
        cases ys with
        | nil => cases he
        | cons y ys =>
          refine To.succ ?_
          simp only [M.r47_Same_loop1]
          refine To.pos (drop_lt hx) (To.bindS (drop_idx hx) (To.bindS (drop_idx hy) ?_))
          by_cases hxy : x = y
          · subst hxy
            refine To.neg (by simp) ?_
            rw [cast_succ]
            exact (ih ys (i + 1) (drop_next hx) (drop_next hy) (by simpa using he)).of (by simp)
          · refine To.pos hxy (To.pure.of ?_)
            rw [if_neg (by simp [hxy])]
    refine To.neg (by omega) (To.bind (loop a b 0 rfl rfl hl) ?_)
    by_cases h : a = b
    · rw [if_pos h]; exact To.pure.of (by simp [h])
    · rw [if_neg h]; exact To.pure.of (by simp [h])
  · refine To.pos (by omega) (To.pure.of ?_)
    have : a ≠ b := fun e => hl (by rw [e])
    simp [this]

theorem mget_mset {α β : Type} [DecidableEq α] (k : α) (v z : β) : ∀ (m : List (α × β)) (k' : α), mget (mset m k v) k' z = if k' = k then v else mget m k' z
  | [], k' => by
    by_cases h : k' = k <;> simp [mset, mget, h]
  | p :: m, k' => by
    by_cases hp : k = p.1
    · subst hp
      by_cases h : k' = p.1 <;> simp [mset, mget, h]
    · by_cases h : k' = k
      · subst h
        simp [mset, mget, hp, mget_mset]
      · simp [mset, mget, hp, mget_mset, h]

theorem any_or {α : Type} (l : List α) (p q : α → Bool) : (l.any fun x => p x || q x) = (l.any p || l.any q) := by
  induction l with
  | nil => rfl
  | cons x l ih =>
    simp only [List.any_cons, ih]
    cases p x <;> cases q x <;> cases l.any p <;> cases l.any q <;> rfl

theorem valid_ok (l : List Dst) : M.destinations_Valid l = some (vB l) := by
  have loop : ∀ (xs pre : List Dst) (v v1 : List (api_Id × Bool)), (∀ k, mget v k false = pre.any fun x => decide (x.From = k)) → (∀ k, mget v1 k false = pre.any fun x => decide (x.To = k)) →
      (okP pre xs = true ∧ ∃ p, M.destinations_Valid_loop1 xs v v1 = some (.inl p)) ∨ (okP pre xs = false ∧ M.destinations_Valid_loop1 xs v v1 = some (.inr false)) := by
    intro xs
    induction xs with
    | nil => intro pre v v1 _ _; exact .inl ⟨rfl, _, rfl⟩
    | cons x xs ih =>
      intro pre v v1 h1 h2
      have hb : (pre.any fun y => bad y x) = (mget v x.From false || mget v1 x.To false) := by
        rw [h1, h2]
        exact any_or pre _ _
      simp only [M.destinations_Valid_loop1, okP, hb]
      by_cases hv : mget v x.From false = true
      · refine .inr ⟨by simp [hv], ?_⟩
        rw [if_pos hv]; simp
      · rw [if_neg hv]
        have hv' : mget v x.From false = false := by simpa using hv
        by_cases hw : mget v1 x.To false = true
        · refine .inr ⟨by simp [hw], ?_⟩
          simp [hw]
        · have hw' : mget v1 x.To false = false := by simpa using hw
          rcases ih (pre ++ [x]) (mset v x.From true) (mset v1 x.To true) (fun k => by
            rw [mget_mset, List.any_append, ← h1 k]
            by_cases hk : k = x.From
            · simp [hk]
            · simp [hk, Ne.symm hk]) (fun k => by
            rw [mget_mset, List.any_append, ← h2 k]
            by_cases hk : k = x.To
            · simp [hk]
            · simp [hk, Ne.symm hk]) with ⟨h3, p, h4⟩ | ⟨h3, h4⟩
          · refine .inl ⟨by simp [hv', hw', h3], p, ?_⟩
            simp [hw', h4]
          · refine .inr ⟨by simp [hv', hw', h3], ?_⟩
            simp [hw', h4]
  simp only [M.destinations_Valid]
  unfold vB
  rcases loop l [] [] [] (fun k => rfl) (fun k => rfl) with ⟨h1, p, h2⟩ | ⟨h1, h2⟩
  · rw [h2, h1]
    simp
    omega
  · rw [h2, h1]
    simp

theorem may_ok47 (l : List Dst) (hl : l.length ≤ 100000) : To (fun n => M.r47_May n l) (vB l) := by
  have loop2 : ∀ (i : Nat) (y : Dst), idx l (i : Int) = some y → i < l.length → ∀ (xs : List Dst) (k : Nat), (l.take i).drop k = xs → To (fun n => M.r47_May_loop2 l (i : Int) n (k : Int)) (if (xs.any fun x => bad x y) = true then .inr false else .inl ()) := by
    intro i y hy hi xs
    induction xs with
    | nil =>
      intro k hx
      refine To.succ ?_
      simp only [M.r47_May_loop2]
      refine To.neg ?_ To.pure
      have := drop_end hx
      rw [List.length_take] at this
      omega
    | cons x xs ih =>
      intro k hx
      obtain ⟨h1, h2, h3⟩ := drop_cons hx
      rw [List.length_take] at h1
      have hk : k < i := by omega
      have hxk : idx l (k : Int) = some x := by
        rw [idx_nat]
        rw [List.getElem?_take, if_pos hk] at h2
        exact h2
      refine To.succ ?_
      simp only [M.r47_May_loop2]
      refine To.pos (by omega) (To.bindS hxk (To.bindS hy ?_))
      by_cases hf : x.From = y.From
      · refine To.pos hf (To.pure.of ?_)
        simp [bad, hf]
      · refine To.neg hf (To.bindS hxk (To.bindS hy ?_))
        by_cases ht : x.To = y.To
        · refine To.pos ht (To.pure.of ?_)
          simp [bad, ht]
        · refine To.neg ht (To.bindS (addC_succ (by omega)) ?_)
          refine (ih (k + 1) h3).of ?_
          simp [bad, hf, ht]
  have loop1 : ∀ (xs : List Dst) (i : Nat), l.drop i = xs → To (fun n => M.r47_May_loop1 l n (i : Int)) (if okP (l.take i) xs = true then .inl () else .inr false) := by
    intro xs
    induction xs with
    | nil =>
      intro i hx
      refine To.succ ?_
      simp only [M.r47_May_loop1]
      exact To.neg (drop_end hx) To.pure
    | cons x xs ih =>
      intro i hx
      obtain ⟨h1, h2, h3⟩ := drop_cons hx
      refine To.succ ?_
      simp only [M.r47_May_loop1]
      refine To.pos (drop_lt hx) (To.bind ((loop2 i x (drop_idx hx) h1 (l.take i) 0 rfl)) ?_)
      by_cases hb : ((l.take i).any fun z => bad z x) = true
      · rw [if_pos hb]
        refine To.pure.of ?_
        simp [okP, hb]
      · have hb' : ((l.take i).any fun z => bad z x) = false := by simpa using hb
        rw [if_neg hb]
        refine To.bindS (addC_succ (by omega)) ?_
        refine (ih (i + 1) h3).of ?_
        have ht : l.take (i + 1) = l.take i ++ [x] := by
          rw [List.take_add_one, h2]; rfl
        have e : okP (l.take i) (x :: xs) = okP (l.take (i + 1)) xs := by
          rw [ht]
          simp only [okP, hb', Bool.not_false, Bool.true_and]
        rw [e]
  simp only [M.r47_May]
  refine To.bind (loop1 l 0 rfl) ?_
  unfold vB
  rw [List.take_zero]
  by_cases h : okP [] l = true
  · rw [if_pos h]
    exact To.pure.of (by simp [h]; omega)
  · rw [if_neg h]
    have h' : okP [] l = false := by simpa using h
    exact To.pure.of (by simp [h'])

def Ok (l : List Dst) : Prop := l.Pairwise (fun x y => x.From ≠ y.From ∧ x.To ≠ y.To)

theorem bad_iff (x y : Dst) : bad x y = false ↔ (x.From ≠ y.From ∧ x.To ≠ y.To) := by
  simp [bad]

theorem okP_iff : ∀ (l pre : List Dst), okP pre l = true ↔ ((∀ x, x ∈ pre → ∀ y, y ∈ l → x.From ≠ y.From ∧ x.To ≠ y.To) ∧ Ok l)
  | [], pre => by simp [okP, Ok]
  | z :: l, pre => by
    have ih := okP_iff l (pre ++ [z])
    have h1 : (!(pre.any fun x => bad x z)) = true ↔ ∀ x, x ∈ pre → (x.From ≠ z.From ∧ x.To ≠ z.To) := by
      rw [Bool.not_eq_true', List.any_eq_false]
      constructor
      · intro h x hx; exact (bad_iff x z).1 (by simpa using h x hx)
      · intro h x hx; simpa using (bad_iff x z).2 (h x hx)
    unfold okP
    rw [Bool.and_eq_true, h1, ih]
    unfold Ok
    rw [List.pairwise_cons]
    constructor
    · rintro ⟨a, b, c⟩
      refine ⟨fun x hx y hy => ?_, fun y hy => b z (by simp) y hy, c⟩
      rcases List.mem_cons.1 hy with rfl | hy
      · exact a x hx
      · exact b x (by simp [hx]) y hy
    · rintro ⟨a, b, c⟩
      refine ⟨fun x hx => a x hx z (by simp), fun x hx y hy => ?_, c⟩
      rcases List.mem_append.1 hx with hx | hx
      · exact a x hx y (by simp [hy])
      · rw [List.mem_singleton.1 hx]; exact b y hy

theorem vB_iff (l : List Dst) : vB l = true ↔ Ok l ∧ l.length ≤ 4096 := by
  unfold vB
  rw [Bool.and_eq_true, okP_iff, decide_eq_true_eq]
  simp

def tailS (l : List Str) : Str := l.flatMap (fun x => 32 :: x)

/-- Texts with a space between them. -/
def joinS : List Str → Str
  | [] => []
  | a :: l => a ++ tailS l

theorem splitC_cons (c : UInt8) (s : Str) : ∃ p ps, splitC c s = p :: ps := by
  cases s with
  | nil => exact ⟨_, _, rfl⟩
  | cons b l =>
    unfold splitC
    split
    · exact ⟨_, _, rfl⟩
    · split
      · exact ⟨_, _, rfl⟩
      · exact ⟨_, _, rfl⟩

theorem splitC_hit (l : Str) : splitC 32 (32 :: l) = [] :: splitC 32 l := by rw [splitC, if_pos rfl]

theorem splitC_miss {b : UInt8} {l p : Str} {ps : List Str} (h : b ≠ 32) (k : splitC 32 l = p :: ps) : splitC 32 (b :: l) = (b :: p) :: ps := by
  rw [splitC, if_neg h, k]

theorem pieces_loop (s : Str) (hs : s.length ≤ 1000000) : ∀ (xs p : Str) (ps : List Str) (i from0 : Nat) (out : List Str), s.drop i = xs → i ≤ s.length → from0 ≤ i → out.length ≤ i → splitC 32 xs = p :: ps →
    To (fun n => M.r07_Cut_loop1 s n out (from0 : Int) (i : Int)) (out ++ ((s.take i).drop from0 ++ p) :: ps) := by
  intro xs
  induction xs with
  | nil =>
    intro p ps i from0 out hx hi hf ho hp
    have hp' : [[]] = p :: ps := hp
    cases hp'
    have hlen : i = s.length := by
      have := congrArg List.length hx
      simp at this; omega
    refine To.succ ?_
    simp only [M.r07_Cut_loop1]
    refine To.pos (by omega) (To.bind (a := true) (To.pos (by omega) To.pure) (To.pos rfl (To.bindS (slc_nat _ _ _ hf hi) (To.bindS (appC_eq (by simp; omega)) (To.bindS (addC_succ (by omega)) (To.bindS (addC_succ (by omega)) ?_))))))
    refine To.succ ?_
    simp only [M.r07_Cut_loop1]
    exact To.neg (by omega) (To.pure.of (by simp))
  | cons b l ih =>
    intro p ps i from0 out hx hi hf ho hp
    obtain ⟨h1, h2, h3⟩ := drop_cons hx
    obtain ⟨q, qs, hq⟩ := splitC_cons 32 l
    refine To.succ ?_
    simp only [M.r07_Cut_loop1]
    refine To.pos (by omega) ?_
    by_cases hb : b = 32
    · subst hb
      rw [splitC_hit, hq] at hp
      cases hp
      refine To.bind (a := true) (To.neg (by omega) (To.bindS (drop_idx hx) (To.pure.of (by decide)))) (To.pos rfl (To.bindS (slc_nat _ _ _ hf hi) (To.bindS (appC_eq (by simp; omega)) (To.bindS (addC_succ (by omega)) (To.bindS (addC_succ (by omega)) ?_)))))
      refine (ih q qs (i + 1) (i + 1) _ h3 (by omega) (Nat.le_refl _) (by simp; omega) hq).of ?_
      have : (s.take (i + 1)).drop (i + 1) = [] := List.drop_eq_nil_of_le (by simp; omega)
      rw [this]; simp
    · rw [splitC_miss hb hq] at hp
      cases hp
      have hn : ¬ ((b.toNat : Int) = 32) := fun e => hb (UInt8.toNat_inj.1 (by have : (32 : UInt8).toNat = 32 := rfl; omega))
      refine To.bind (a := false) (To.neg (by omega) (To.bindS (drop_idx hx) (To.pure.of (by simp only [hn, decide_false])))) (To.neg (by simp) (To.bindS (addC_succ (by omega)) ?_))
      refine (ih q _ (i + 1) from0 out h3 (by omega) (by omega) (by omega) hq).of ?_
      have : (s.take (i + 1)).drop from0 = (s.take i).drop from0 ++ [b] := by
        rw [List.take_add_one, h2, List.drop_append_of_le_length (by simp; omega)]
        rfl
      rw [this]; simp

theorem join_split : ∀ s : Str, joinS (splitC 32 s) = s
  | [] => by simp [splitC, joinS, tailS]
  | b :: l => by
    have ih := join_split l
    obtain ⟨q, qs, hq⟩ := splitC_cons 32 l
    rw [hq] at ih
    by_cases hb : b = 32
    · subst hb
      rw [splitC_hit, hq, joinS, List.nil_append]
      rw [joinS] at ih
      simp only [tailS, List.flatMap_cons, List.cons_append]
      rw [show q ++ List.flatMap (fun x => 32 :: x) qs = l from ih]
    · rw [splitC_miss hb hq, joinS, List.cons_append]
      rw [joinS] at ih
      rw [ih]

theorem split_tail : ∀ (xs : List Str), (∀ y ∈ xs, (32 : UInt8) ∉ y) → ∀ x : Str, (32 : UInt8) ∉ x → splitC 32 (x ++ tailS xs) = x :: xs := by
  intro xs
  induction xs with
  | nil =>
    intro _ x hx
    simp only [tailS, List.flatMap_nil, List.append_nil]
    induction x with
    | nil => rfl
    | cons b x ihx =>
      simp only [List.mem_cons, not_or] at hx
      exact splitC_miss (fun e => hx.1 e.symm) (ihx hx.2)
  | cons y ys ih =>
    intro h x hx
    induction x with
    | nil =>
      have : tailS (y :: ys) = 32 :: (y ++ tailS ys) := by simp [tailS]
      rw [List.nil_append, this, splitC_hit, ih (fun z hz => h z (List.mem_cons_of_mem _ hz)) y (h y List.mem_cons_self)]
    | cons b x ihx =>
      simp only [List.mem_cons, not_or] at hx
      rw [List.cons_append]
      exact splitC_miss (fun e => hx.1 e.symm) (ihx hx.2)

theorem cut_ok (s : Str) (hs : s.length ≤ 1000000) : To (fun n => M.r07_Cut n s) (splitC 32 s) := by
  simp only [M.r07_Cut]
  obtain ⟨q, qs, hq⟩ := splitC_cons 32 s
  refine To.bind (pieces_loop s hs s q qs 0 0 [] rfl (Nat.zero_le _) (Nat.le_refl _) (Nat.zero_le _) hq) (To.pure.of ?_)
  rw [hq]; simp

end Go.Proofs.YtdnemlcoeecbjaaDoor
