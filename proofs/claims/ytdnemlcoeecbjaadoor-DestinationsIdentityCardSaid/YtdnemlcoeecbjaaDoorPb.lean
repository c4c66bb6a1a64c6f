/-
  Tables of destinations: the laws.
-/
import Derived.Test.YtdnemlcoeecbjaaDoorPa
set_option linter.unusedVariables false
set_option linter.unusedSimpArgs false
namespace Go.Proofs.YtdnemlcoeecbjaaDoor
open Go Go.Dec

def Ok (l : List Dst) : Prop := l.Pairwise (fun x y => x.From ≠ y.From ∧ x.To ≠ y.To)

theorem bad_iff (x y : Dst) : bad x y = false ↔ (x.From ≠ y.From ∧ x.To ≠ y.To) := by
  simp [bad]

theorem okP_iff : ∀ (l pre : List Dst), okP pre l = true ↔ ((∀ x, x ∈ pre → ∀ y, y ∈ l → x.From ≠ y.From ∧ x.To ≠ y.To) ∧ Ok l)
  | [], pre => by simp [okP, Ok]
  | z :: l, pre => by
    have ih := okP_iff l (pre ++ [z])
    have h1 : (!(pre.any fun x => bad x z)) = true ↔ ∀ x, x ∈ pre → (x.From ≠ z.From ∧ x.To ≠ z.To) := by
      rw [Bool.not_eq_true', List.any_eq_false]
      constructor
      · intro h x hx; exact (bad_iff x z).1 (by simpa using h x hx)
      · intro h x hx; simpa using (bad_iff x z).2 (h x hx)
    unfold okP
    rw [Bool.and_eq_true, h1, ih]
    unfold Ok
    rw [List.pairwise_cons]
    constructor
    · rintro ⟨a, b, c⟩
      refine ⟨fun x hx y hy => ?_, fun y hy => b z (by simp) y hy, c⟩
      rcases List.mem_cons.1 hy with rfl | hy
      · exact a x hx
      · exact b x (by simp [hx]) y hy
    · rintro ⟨a, b, c⟩
      refine ⟨fun x hx => a x hx z (by simp), fun x hx y hy => ?_, c⟩
      rcases List.mem_append.1 hx with hx | hx
      · exact a x hx y (by simp [hy])
      · rw [List.mem_singleton.1 hx]; exact b y hy

theorem vB_iff (l : List Dst) : vB l = true ↔ Ok l ∧ l.length ≤ 4096 := by
  unfold vB
  rw [Bool.and_eq_true, okP_iff, decide_eq_true_eq]
  simp

theorem inv_inv (l : List Dst) : inv (inv l) = l := by
  unfold inv
  rw [List.map_map]
  have : ((fun d : Dst => (⟨d.To, d.From⟩ : Dst)) ∘ fun d : Dst => (⟨d.To, d.From⟩ : Dst)) = id := by funext d; rfl
  rw [this, List.map_id]
theorem ok_inv {l : List Dst} (h : Ok l) : Ok (inv l) := by
  unfold Ok inv
  rw [List.pairwise_map]
  exact h.imp fun ⟨a, b⟩ => ⟨b, a⟩
theorem inv_len (l : List Dst) : (inv l).length = l.length := by simp [inv]
theorem vB_inv (l : List Dst) : vB (inv l) = vB l := by
  rw [Bool.eq_iff_iff, vB_iff, vB_iff, inv_len]
  constructor
  · rintro ⟨a, b⟩; exact ⟨by have := ok_inv a; rwa [inv_inv] at this, b⟩
  · rintro ⟨a, b⟩; exact ⟨ok_inv a, b⟩

theorem to_mem : ∀ {l : List Dst}, Ok l → ∀ d, d ∈ l → toF d.From l = (d.To, true)
  | e :: l, h, d, hd => by
    have hp := List.pairwise_cons.1 h
    rw [toF_cons]
    rcases List.mem_cons.1 hd with rfl | hd
    · rw [if_pos rfl]
    · rw [if_neg (hp.1 d hd).1]
      exact to_mem hp.2 d hd
theorem to_inv {l : List Dst} (h : Ok l) (d : Dst) (hd : d ∈ l) : toF d.To (inv l) = (d.From, true) :=
  to_mem (ok_inv h) ⟨d.To, d.From⟩ (List.mem_map.2 ⟨d, hd, rfl⟩)

theorem to_some {id : api_Id} : ∀ {l : List Dst}, (toF id l).2 = true → ∃ d, d ∈ l ∧ d.From = id ∧ d.To = (toF id l).1
  | [], h => by cases h
  | e :: l, h => by
    rw [toF_cons] at h ⊢
    by_cases he : e.From = id
    · rw [if_pos he]; exact ⟨e, by simp, he, rfl⟩
    · rw [if_neg he] at h ⊢
      obtain ⟨d, h1, h2, h3⟩ := to_some h
      exact ⟨d, by simp [h1], h2, h3⟩
theorem to_none {id : api_Id} : ∀ {l : List Dst}, (∀ d, d ∈ l → d.From ≠ id) → toF id l = (zapi_Id, false)
  | [], _ => rfl
  | e :: l, h => by
    rw [toF_cons, if_neg (h e (by simp))]
    exact to_none fun d hd => h d (by simp [hd])
theorem to_false {id : api_Id} {l : List Dst} (h : (toF id l).2 = false) : toF id l = (zapi_Id, false) := by
  unfold toF at h ⊢
  cases hf : l.find? (fun d => decide (d.From = id)) with
  | none => rfl
  | some d => rw [hf] at h; cases h

theorem cmp_mem {a b : List Dst} {c : Dst} (h : c ∈ cmp a b) : ∃ d, d ∈ a ∧ d.From = c.From ∧ (toF d.To b).2 = true ∧ (toF d.To b).1 = c.To := by
  obtain ⟨d, hd, hc⟩ := List.mem_filterMap.1 h
  unfold hop at hc
  split at hc
  · rename_i ht
    cases hc
    exact ⟨d, hd, rfl, ht, rfl⟩
  · cases hc

theorem cmp_cons (d : Dst) (a b : List Dst) : cmp (d :: a) b = if (toF d.To b).2 = true then ⟨d.From, (toF d.To b).1⟩ :: cmp a b else cmp a b := by
  unfold cmp
  rw [List.filterMap_cons]
  unfold hop
  by_cases h : (toF d.To b).2 = true <;> simp [h]

/-- A lookup in a chain of tables is one lookup behind the other. -/
theorem to_cmp (id : api_Id) (b : List Dst) : ∀ {a : List Dst}, Ok a → toF id (cmp a b) = if (toF id a).2 = true then (if (toF (toF id a).1 b).2 = true then ((toF (toF id a).1 b).1, true) else (zapi_Id, false)) else (zapi_Id, false)
  | [], _ => rfl
  | d :: a, h => by
    have hp := List.pairwise_cons.1 h
    rw [cmp_cons, toF_cons id d a]
    by_cases hd : d.From = id
    · subst hd
      rw [if_pos rfl]
      simp only [if_true]
      by_cases ht : (toF d.To b).2 = true
      · rw [if_pos ht, if_pos ht, toF_cons, if_pos rfl]
      · rw [if_neg ht, if_neg ht]
        refine to_none fun c hc => ?_
        obtain ⟨e, he, hf, _⟩ := cmp_mem hc
        rw [← hf]
        exact fun q => (hp.1 e he).1 q.symm
    · rw [if_neg hd, ← to_cmp id b hp.2]
      by_cases ht : (toF d.To b).2 = true
      · rw [if_pos ht, toF_cons, if_neg hd]
      · rw [if_neg ht]

theorem to_inj {b : List Dst} (hb : Ok b) {x y : api_Id} (hx : (toF x b).2 = true) (hy : (toF y b).2 = true) (h : (toF x b).1 = (toF y b).1) : x = y := by
  obtain ⟨d, d1, d2, d3⟩ := to_some hx
  obtain ⟨e, e1, e2, e3⟩ := to_some hy
  have he : e.To = d.To := by rw [d3, e3, h]
  have h1 := to_inv hb d d1
  have h2 := to_inv hb e e1
  rw [he] at h2
  have := h1.symm.trans h2
  have hf : d.From = e.From := congrArg Prod.fst this
  rw [← d2, ← e2, hf]

theorem ok_cmp {b : List Dst} (hb : Ok b) : ∀ {a : List Dst}, Ok a → Ok (cmp a b)
  | [], _ => List.Pairwise.nil
  | d :: a, h => by
    have hp := List.pairwise_cons.1 h
    rw [cmp_cons]
    by_cases ht : (toF d.To b).2 = true
    · rw [if_pos ht]
      refine List.pairwise_cons.2 ⟨fun c hc => ?_, ok_cmp hb hp.2⟩
      obtain ⟨e, he, hf, ht2, ht3⟩ := cmp_mem hc
      refine ⟨by rw [← hf]; exact (hp.1 e he).1, fun q => ?_⟩
      rw [← ht3] at q
      exact (hp.1 e he).2 (to_inj hb ht ht2 q)
    · rw [if_neg ht]; exact ok_cmp hb hp.2

theorem cmp_assoc {b : List Dst} (hb : Ok b) (c : List Dst) : ∀ a : List Dst, cmp (cmp a b) c = cmp a (cmp b c)
  | [] => rfl
  | d :: a => by
    have h1 := to_cmp d.To c hb
    rw [cmp_cons d a b, cmp_cons d a (cmp b c), h1]
    by_cases ht : (toF d.To b).2 = true
    · rw [if_pos ht, if_pos ht, cmp_cons]
      by_cases hu : (toF (toF d.To b).1 c).2 = true
      · rw [if_pos hu, if_pos hu]
        simp only [if_true]
        rw [cmp_assoc hb c a]
      · rw [if_neg hu, if_neg hu]
        simp only [Bool.false_eq_true, if_false]
        exact cmp_assoc hb c a
    · rw [if_neg ht, if_neg ht]
      simp only [Bool.false_eq_true, if_false]
      exact cmp_assoc hb c a

theorem home_eq {l : List Dst} (h : Ok l) : ∀ a : List Dst, (∀ d, d ∈ a → d ∈ l) → cmp a (inv l) = a.map (fun d => ⟨d.From, d.From⟩)
  | [], _ => rfl
  | d :: a, hs => by
    have := to_inv h d (hs d (by simp))
    rw [cmp_cons, this, if_pos rfl, home_eq h a fun e he => hs e (by simp [he])]
    rfl

/-! ### The laws -/

theorem lookup_true (l : List Dst) (id : api_Id) : ∃ n, M.law47_DestinationsLookup n l id = some true := by
  refine To.ex ?_
  simp only [M.law47_DestinationsLookup]
  by_cases hl : (60 : Int) < (l.length : Int)
  · exact To.bind (a := true) (To.bind awake47 (To.neg (by simp) (To.pure.of (by simp [hl])))) (To.pos rfl (To.bind awake47 To.pure))
  · refine To.bind (a := false) (To.bind awake47 (To.neg (by simp) (To.pure.of (by simp [hl])))) (To.neg (by simp) ?_)
    refine To.bind (to_ok id l) (To.bind (from_ok id l) (To.bind (to_r id l) (To.bind (back_ok l (by omega)) (To.bind (to_r id (inv l)) (To.bindS (valid_ok l) (To.bind (may_ok47 l (by omega)) ?_))))))
    exact To.pos (by simp) (To.pos rfl (To.pos (by simp) (To.pos rfl (To.pure.of (by simp)))))

theorem invert_true (l : List Dst) : ∃ n, M.law47_DestinationsInvert n l = some true := by
  refine To.ex ?_
  simp only [M.law47_DestinationsInvert]
  by_cases hl : (60 : Int) < (l.length : Int)
  · exact To.bind (a := true) (To.bind awake47 (To.neg (by simp) (To.pure.of (by simp [hl])))) (To.pos rfl (To.bind awake47 To.pure))
  · refine To.bind (a := false) (To.bind awake47 (To.neg (by simp) (To.pure.of (by simp [hl])))) (To.neg (by simp) ?_)
    have hl' : l.length ≤ 100000 := by omega
    refine To.bindS (invert_ok l hl') (To.bind (a := false) (To.bind (back_ok l hl') (To.bind (same_ok _ _) (To.neg (by simp) (To.bindS (invert_ok (inv l) (by rw [inv_len]; exact hl')) (To.bind (same_ok _ _) (To.neg (by simp [inv_inv]) (To.bindS (valid_ok _) (To.bindS (valid_ok _) (To.pure.of (by rw [vB_inv]; simp)))))))))) (To.neg (by simp) (To.bindS (valid_ok l) ?_)))
    by_cases hv : vB l = true
    · have hok := ((vB_iff l).1 hv).1
      refine To.neg (by simp [hv]) ?_
      have loop : ∀ xs : List Dst, (∀ d, d ∈ xs → d ∈ l) → To (fun n => M.law47_DestinationsInvert_loop1 n l xs) (.inl ()) := by
        intro xs
        induction xs with
        | nil => intro _; simp only [M.law47_DestinationsInvert_loop1]; exact To.pure
        | cons x xs ih =>
          intro hs
          have hx := hs x (by simp)
          simp only [M.law47_DestinationsInvert_loop1]
          refine To.bind (to_ok x.From l) ?_
          rw [to_mem hok x hx]
          refine To.bind (from_ok x.To l) ?_
          rw [to_inv hok x hx]
          exact To.neg (by simp) (To.neg (by simp) (To.neg (by simp) (To.neg (by simp) (ih fun d hd => hs d (by simp [hd])))))
      exact To.bind (loop l fun _ h => h) To.pure
    · exact To.pos (by simpa using hv) To.pure

theorem compose_true (a b : List Dst) (id : api_Id) : ∃ n, M.law47_DestinationsCompose n a b id = some true := by
  refine To.ex ?_
  simp only [M.law47_DestinationsCompose]
  by_cases hl : (40 : Int) < (a.length : Int) ∨ (40 : Int) < (b.length : Int)
  · refine To.bind (a := true) (To.bind awake47 (To.neg (by simp) ?_)) (To.pos rfl (To.bind awake47 To.pure))
    by_cases ha : (40 : Int) < (a.length : Int)
    · exact To.pos ha To.pure
    · exact To.neg ha (To.pure.of (by simp; omega))
  · refine To.bind (a := false) (To.bind awake47 (To.neg (by simp) (To.neg (by omega) (To.pure.of (by simp; omega))))) (To.neg (by simp) ?_)
    refine To.bind (compose_ok a b (by omega)) (To.bind (chain_ok a b (by omega)) (To.bind (same_ok _ _) (To.neg (by simp) ?_)))
    by_cases hv : vB a = true ∧ vB b = true
    · obtain ⟨hva, hvb⟩ := hv
      have hoa := ((vB_iff a).1 hva).1
      have hob := ((vB_iff b).1 hvb).1
      refine To.bind (a := false) (To.bindS (valid_ok a) (To.neg (by simp [hva]) (To.bindS (valid_ok b) (To.pure.of (by simp [hvb]))))) (To.neg (by simp) ?_)
      refine To.bind (to_ok id _) (To.bind (to_ok id a) (To.bind (to_ok _ b) (To.bindS (valid_ok _) ?_)))
      have hvc : vB (cmp a b) = true := (vB_iff _).2 ⟨ok_cmp hob hoa, by have := cmp_len a b; omega⟩
      refine To.pos hvc ?_
      have hc := to_cmp id b hoa
      by_cases hq : (toF id a).2 = true
      · rw [if_pos hq] at hc
        by_cases hr : (toF (toF id a).1 b).2 = true
        · rw [if_pos hr] at hc
          rw [hc]
          exact To.pos hq (To.pos (by simp [hr]) (To.neg (by simp) (To.pure.of (by simp))))
        · rw [if_neg hr] at hc
          rw [hc]
          exact To.pos hq (To.pos (by simpa using hr) (To.pos rfl To.pure))
      · rw [if_neg hq] at hc
        rw [hc]
        exact To.neg hq (To.pos rfl (To.pos rfl To.pure))
    · refine To.bind (a := true) ?_ (To.pos rfl To.pure)
      refine To.bindS (valid_ok a) ?_
      by_cases hva : vB a = true
      · refine To.neg (by simp [hva]) (To.bindS (valid_ok b) (To.pure.of ?_))
        have : vB b = false := by
          cases hb : vB b with
          | false => rfl
          | true => exact absurd ⟨hva, hb⟩ hv
        simp [this]
      · exact To.pos (by simpa using hva) To.pure

theorem identity_true (a b c : List Dst) : ∃ n, M.law47_DestinationsIdentity n a b c = some true := by
  refine To.ex ?_
  simp only [M.law47_DestinationsIdentity]
  by_cases hl : (30 : Int) < (a.length : Int) ∨ (30 : Int) < (b.length : Int) ∨ (30 : Int) < (c.length : Int)
  · refine To.bind (a := true) (To.bind awake47 (To.neg (by simp) ?_)) (To.pos rfl (To.bind awake47 To.pure))
    by_cases ha : (30 : Int) < (a.length : Int)
    · exact To.pos ha To.pure
    · refine To.neg ha ?_
      by_cases hb : (30 : Int) < (b.length : Int)
      · exact To.pos hb To.pure
      · exact To.neg hb (To.pure.of (by simp; omega))
  · refine To.bind (a := false) (To.bind awake47 (To.neg (by simp) (To.neg (by omega) (To.neg (by omega) (To.pure.of (by simp; omega)))))) (To.neg (by simp) ?_)
    have hab := cmp_len a b
    refine To.bind (a := false) ?_ (To.neg (by simp) ?_)
    · refine To.bind (compose_ok a b (by omega)) (To.bind (compose_ok _ c (by omega)) (To.bind (compose_ok b c (by omega)) (To.bind (compose_ok a _ (by omega)) (To.bind (same_ok _ _) ?_))))
      by_cases hv : vB b = true
      · rw [cmp_assoc ((vB_iff b).1 hv).1 c a]
        exact To.neg (by simp) To.pure
      · by_cases he : cmp (cmp a b) c = cmp a (cmp b c)
        · exact To.neg (by simp [he]) To.pure
        · exact To.pos (by simp [he]) (To.bindS (valid_ok b) (To.pure.of (by simpa using hv)))
    · refine To.bindS (valid_ok a) ?_
      by_cases hv : vB a = true
      · have hok := ((vB_iff a).1 hv).1
        refine To.neg (by simp [hv]) (To.bindS (invert_ok a (by omega)) (To.bind (compose_ok a (inv a) (by omega)) ?_))
        rw [home_eq hok a fun _ h => h]
        have loop : ∀ (xs : List Dst) (i : Nat), a.drop i = xs → To (fun n => M.law47_DestinationsIdentity_loop1 a (xs.map fun d => (⟨d.From, d.From⟩ : Dst)) (i : Int)) (.inl ()) := by
          intro xs
          induction xs with
          | nil => intro i _; simp only [List.map_nil, M.law47_DestinationsIdentity_loop1]; exact To.pure
          | cons x xs ih =>
            intro i hx
            simp only [List.map_cons, M.law47_DestinationsIdentity_loop1]
            refine To.neg (by simp) (To.bindS (drop_idx hx) (To.neg (by simp) ?_))
            rw [cast_succ]
            exact ih (i + 1) (drop_next hx)
        exact To.bind (loop a 0 rfl) (To.pure.of (by simp))
      · exact To.pos (by simpa using hv) To.pure
end Go.Proofs.YtdnemlcoeecbjaaDoor
