/-
  Chapter 48: the law Renamed.
-/
import Derived.Test.YtclepigknhoonaaPg
set_option linter.unusedVariables false
set_option linter.unusedSimpArgs false
namespace Go.Proofs.Ytclepigknhoonaa
open Go Go.Dec

def sh (id : api_Id) : api_Id := { id with Act := id.Act + 5000 }
theorem sh_inj {x y : api_Id} : sh x = sh y ↔ x = y := by
  constructor
  · intro h
    rw [← api_Id.eq_iff] at h ⊢
    obtain ⟨h1, h2, h3⟩ := h
    exact ⟨by have : x.Act + 5000 = y.Act + 5000 := h1; omega, h2, h3⟩
  · intro h; rw [h]

def sT (u : api_Unit) : api_Unit := { u with Id := sh u.Id, Kids := u.Kids.attach.map (fun k => sT k.1) }
termination_by SizeOf.sizeOf u
decreasing_by exact kid_lt k.2

theorem sT_eq (u : api_Unit) : sT u = { u with Id := sh u.Id, Kids := u.Kids.map sT } := by
  rw [sT]
  have : ∀ l : List api_Unit, l.attach.map (fun k => sT k.1) = l.map sT := by
    intro l
    conv => rhs; rw [← List.attach_map_subtype_val l, List.map_map]
    rfl
  rw [this]
def rnT (u : api_Unit) : api_Unit := { u with Kids := u.Kids.map sT }

theorem sT_id (u : api_Unit) : (sT u).Id = sh u.Id := by rw [sT_eq]
theorem sT_words (u : api_Unit) : (sT u).Words = u.Words := by rw [sT_eq]
theorem sT_head (u : api_Unit) : (sT u).Head = u.Head := by rw [sT_eq]
theorem sT_kind (u : api_Unit) : (sT u).Kind = u.Kind := by rw [sT_eq]
theorem sT_label (u : api_Unit) : (sT u).Label = u.Label := by rw [sT_eq]

theorem sT_desc (u : api_Unit) : desc (sT u) = (desc u).map sT := by
  refine uind (P := fun u => desc (sT u) = (desc u).map sT) ?_ u
  intro u ih
  rw [desc_eq u, List.map_cons, List.map_flatMap]
  rw [desc_eq (sT u)]
  congr 1
  have e : (sT u).Kids = u.Kids.map sT := by rw [sT_eq]
  rw [e, List.flatMap_map]
  have hcg : ∀ l : List api_Unit, (∀ k ∈ l, desc (sT k) = (desc k).map sT) → l.flatMap (fun a => desc (sT a)) = l.flatMap (fun a => (desc a).map sT) := by
    intro l
    induction l with
    | nil => intro _; rfl
    | cons k l ihl => intro hl; rw [List.flatMap_cons, List.flatMap_cons, hl k (List.mem_cons_self ..), ihl fun k' hk' => hl k' (List.mem_cons_of_mem _ hk')]
  exact hcg u.Kids ih

theorem rn_kd (u : api_Unit) : kd (rnT u) = (kd u).map sT := by
  unfold kd
  rw [List.map_flatMap]
  show (u.Kids.map sT).flatMap desc = _
  rw [List.flatMap_map]
  have hcg : ∀ l : List api_Unit, l.flatMap (fun a => desc (sT a)) = l.flatMap (fun a => (desc a).map sT) := by
    intro l
    induction l with
    | nil => rfl
    | cons k l ihl => rw [List.flatMap_cons, List.flatMap_cons, sT_desc, ihl]
  exact hcg u.Kids

def rnL (u : api_Unit) : List api_Destination := (kd u).map (fun x => ⟨x.Id, sh x.Id⟩)

theorem named_ok (u : api_Unit) : cnt u ≤ 100000 → (∀ x ∈ kd u, 0 ≤ x.Id.Act ∧ x.Id.Act ≤ 1000) → To (fun n => M.law48_named n u 5000) (rnT u, rnL u) := by
  refine uind (P := fun u => cnt u ≤ 100000 → (∀ x ∈ kd u, 0 ≤ x.Id.Act ∧ x.Id.Act ≤ 1000) → To (fun n => M.law48_named n u 5000) (rnT u, rnL u)) ?_ u
  intro u ih hc hr
  have loop : ∀ (ks : List api_Unit) (slf : Nat → api_Unit → Int → Option (api_Unit × List api_Destination)) (l : List api_Destination) (out : List api_Unit),
      (∀ k ∈ ks, (0 ≤ k.Id.Act ∧ k.Id.Act ≤ 1000) ∧ To (fun n => slf n k 5000) (rnT k, rnL k)) → l.length + (ks.map cnt).sum ≤ 1000000 → out.length + ks.length ≤ 1000000 →
      To (fun n => M.law48_named_loop1 5000 (slf n) ks l out) (l ++ (ks.flatMap desc).map (fun x => ⟨x.Id, sh x.Id⟩), out ++ ks.map sT) := by
    intro ks
    induction ks with
    | nil => intro slf l out _ _ _; exact To.pure.of (by simp)
    | cons k ks ihk =>
      intro slf l out hk hl ho
      simp only [List.map_cons, List.sum_cons] at hl
      simp only [List.length_cons] at ho
      obtain ⟨h1, h2⟩ := hk k (List.mem_cons_self ..)
      have hpos := cnt_pos k
      have hkl := kd_len k
      have hrl : (rnL k).length = (kd k).length := by simp [rnL]
      simp only [M.law48_named_loop1]
      refine To.bindS (addC_eq (by omega) (by omega)) (To.bind h2 (To.bindS (appC_eq (by simp; omega)) (To.bindS (appC_eq (by simp only [List.length_append, List.length_cons, List.length_nil]; omega)) (To.bindS (appC_eq (by simp; omega)) ?_))))
      refine (ihk slf _ _ (fun k' hk' => hk k' (List.mem_cons_of_mem _ hk')) (by simp only [List.length_append, List.length_cons, List.length_nil]; omega) (by simp; omega)).of ?_
      have e1 : ({ rnT k with Id := ({ k.Id with Act := k.Id.Act + 5000 } : api_Id) } : api_Unit) = sT k := by rw [sT_eq]; rfl
      have e2 : ({ k.Id with Act := k.Id.Act + 5000 } : api_Id) = sh k.Id := rfl
      rw [e1, e2, List.flatMap_cons, desc_kd k]
      simp [rnL]
  refine To.succ ?_
  simp only [M.law48_named]
  have hsum := cnt_eq u
  have hkk := cnt_kids u
  refine To.bind (loop u.Kids (fun n => M.law48_named n) [] [] (fun k hk => ⟨hr k ?_, ih k hk (by have := cnt_kid hk; omega) (fun x hx => hr x ?_)⟩) (by simp; omega) (by simp; omega)) (To.pure.of ?_)
  · exact List.mem_flatMap.2 ⟨k, hk, desc_self k⟩
  · exact List.mem_flatMap.2 ⟨k, hk, kd_desc hx⟩
  · simp [rnT, rnL, kd]

/-! ## Meanings -/

def shM (s : api_Meaning) : api_Meaning := ⟨sh s.At, s.N, s.To.map sh⟩

theorem ren1_ok (u : api_Unit) : ∀ (xs : List api_Id) (v : List (api_Id × Bool)),
    ((∀ id ∈ xs, 0 ≤ id.Act ∧ id.Act ≤ 1000) ∧ ∃ v', To (fun n => M.law48_EquivalenceRenamed_loop1 n u xs v) (.inl v') ∧ ∀ id, mget v' id false = if id ∈ xs then decide (id ≠ u.Id) else mget v id false) ∨
    To (fun n => M.law48_EquivalenceRenamed_loop1 n u xs v) (.inr true) := by
  intro xs
  induction xs with
  | nil => intro v; exact .inl ⟨fun _ h => (by cases h), v, To.pure, fun id => by simp⟩
  | cons x xs ih =>
    intro v
    by_cases h0 : x.Act < 0
    · refine .inr ?_
      simp only [M.law48_EquivalenceRenamed_loop1]
      exact To.bind (a := true) (To.pos h0 To.pure) (To.pos rfl (To.bind awake48 To.pure))
    · by_cases h1 : (1000 : Int) < x.Act
      · refine .inr ?_
        simp only [M.law48_EquivalenceRenamed_loop1]
        exact To.bind (a := true) (To.neg h0 (To.pure.of (by simpa using h1))) (To.pos rfl (To.bind awake48 To.pure))
      · have hb : To (fun n => if x.Act < (0 : Int) then some true else some (decide ((1000 : Int) < x.Act))) false := To.neg h0 (To.pure.of (by simpa using h1))
        rcases ih (mset v x (decide (x ≠ u.Id))) with ⟨k1, v', k2, k3⟩ | k
        · refine .inl ⟨fun id hid => ?_, v', ?_, fun id => ?_⟩
          · rcases List.mem_cons.1 hid with rfl | hid
            · exact ⟨by omega, by omega⟩
            · exact k1 id hid
          · simp only [M.law48_EquivalenceRenamed_loop1]
            exact To.bind hb (To.neg (by simp) k2)
          · rw [k3, mget_set]
            by_cases hx : id = x
            · subst hx; simp
            · by_cases hm : id ∈ xs
              · simp [hm]
              · simp [hm, hx]
        · refine .inr ?_
          simp only [M.law48_EquivalenceRenamed_loop1]
          exact To.bind hb (To.neg (by simp) k)

theorem ren3_ok (v : List (api_Id × Bool)) (hv : ∀ id, mget v id false = true → 0 ≤ id.Act ∧ id.Act ≤ 1000) : ∀ (ids : List api_Id) (t : api_Meaning), t.To.length + ids.length ≤ 1000000 →
    ((∀ id ∈ ids, mget v id false = true) ∧ To (fun n => M.law48_EquivalenceRenamed_loop3 n v ids t) (.inl ({ t with To := t.To ++ ids.map sh } : api_Meaning))) ∨ To (fun n => M.law48_EquivalenceRenamed_loop3 n v ids t) (.inr true) := by
  intro ids
  induction ids with
  | nil => intro t _; exact .inl ⟨fun _ h => (by cases h), To.pure.of (by simp)⟩
  | cons id ids ih =>
    intro t h
    simp only [List.length_cons] at h
    cases hi : mget v id false with
    | false =>
      refine .inr ?_
      simp only [M.law48_EquivalenceRenamed_loop3]
      exact To.pos hi (To.bind awake48 To.pure)
    | true =>
      have hr := hv id hi
      have ha : addC id.Act (5000 : Int) = some (id.Act + 5000) := addC_eq (by omega) (by omega)
      rcases ih ({ t with To := t.To ++ [sh id] } : api_Meaning) (by simp; omega) with ⟨k1, k2⟩ | k
      · refine .inl ⟨fun j hj => ?_, ?_⟩
        · rcases List.mem_cons.1 hj with rfl | hj
          · exact hi
          · exact k1 j hj
        · simp only [M.law48_EquivalenceRenamed_loop3]
          refine To.neg (by simp [hi]) (To.bindS ha (To.bindS (appC_eq (by simp; omega)) ?_))
          exact k2.of (by simp)
      · refine .inr ?_
        simp only [M.law48_EquivalenceRenamed_loop3]
        exact To.neg (by simp [hi]) (To.bindS ha (To.bindS (appC_eq (by simp; omega)) k))

theorem ren2_ok (v : List (api_Id × Bool)) (hv : ∀ id, mget v id false = true → 0 ≤ id.Act ∧ id.Act ≤ 1000) : ∀ (xs : List api_Meaning) (out : List api_Meaning), out.length + xs.length ≤ 1000000 → (∀ s, s ∈ xs → s.To.length ≤ 20) →
    To (fun n => M.law48_EquivalenceRenamed_loop2 n v xs out) (.inl (out ++ (xs.filter (fun s => mget v s.At false)).map shM)) ∨ To (fun n => M.law48_EquivalenceRenamed_loop2 n v xs out) (.inr true) := by
  intro xs
  induction xs with
  | nil => intro out _ _; exact .inl (To.pure.of (by simp))
  | cons s xs ih =>
    intro out h hto
    simp only [List.length_cons] at h
    have hto' : ∀ s, s ∈ xs → s.To.length ≤ 20 := fun s' hs' => hto s' (List.mem_cons_of_mem _ hs')
    cases hi : mget v s.At false with
    | false =>
      rcases ih out (by omega) hto' with k | k
      · refine .inl ?_
        simp only [M.law48_EquivalenceRenamed_loop2]
        exact To.pos hi (k.of (by simp [hi]))
      · refine .inr ?_
        simp only [M.law48_EquivalenceRenamed_loop2]
        exact To.pos hi k
    | true =>
      have hr := hv s.At hi
      have ha : addC s.At.Act (5000 : Int) = some (s.At.Act + 5000) := addC_eq (by omega) (by omega)
      have h20 := hto s (List.mem_cons_self ..)
      rcases ren3_ok v hv s.To (⟨sh s.At, s.N, []⟩ : api_Meaning) (by simp; omega) with ⟨_, k3⟩ | k3
      · rcases ih (out ++ [shM s]) (by simp; omega) hto' with k | k
        · refine .inl ?_
          simp only [M.law48_EquivalenceRenamed_loop2]
          refine To.neg (by simp [hi]) (To.bindS ha (To.bind k3 (To.bindS (appC_eq (by simp; omega)) ?_)))
          exact k.of (by simp [hi, shM])
        · refine .inr ?_
          simp only [M.law48_EquivalenceRenamed_loop2]
          exact To.neg (by simp [hi]) (To.bindS ha (To.bind k3 (To.bindS (appC_eq (by simp; omega)) k)))
      · refine .inr ?_
        simp only [M.law48_EquivalenceRenamed_loop2]
        exact To.neg (by simp [hi]) (To.bindS ha (To.bind k3 To.pure))

theorem sense_find (x : List api_Meaning) (P : api_Meaning → Bool) (id : api_Id) (k : Nat) (hP : ∀ s ∈ x, s.At = id → P s = true) : ((x.filter P).map shM).find? (senseB (sh id) k) = (x.find? (senseB id k)).map shM := by
  rw [List.find?_map]
  have e : (senseB (sh id) k ∘ shM) = senseB id k := by
    funext s
    show (decide (sh s.At = sh id) && decide (s.N = (k : Int))) = (decide (s.At = id) && decide (s.N = (k : Int)))
    simp [sh_inj]
  rw [e]
  congr 1
  induction x with
  | nil => rfl
  | cons s x ih =>
    have ih := ih fun s' hs' => hP s' (List.mem_cons_of_mem _ hs')
    by_cases hs : senseB id k s = true
    · have : P s = true := hP s (List.mem_cons_self ..) (by
        unfold senseB at hs
        rw [Bool.and_eq_true] at hs
        exact of_decide_eq_true hs.1)
      rw [List.filter_cons_of_pos this, List.find?_cons_of_pos hs, List.find?_cons_of_pos hs]
    · rw [List.find?_cons_of_neg hs]
      by_cases hp : P s = true
      · rw [List.filter_cons_of_pos hp, List.find?_cons_of_neg hs]; exact ih
      · rw [List.filter_cons_of_neg hp]; exact ih

theorem mget_map {i : Int} : ∀ w : List (Int × List api_Id), mget (w.map fun p => (p.1, p.2.map sh)) i [] = (mget w i []).map sh
  | [] => rfl
  | p :: w => by
    simp only [List.map_cons, mget]
    split
    · rfl
    · exact mget_map w

theorem mset_map (i : Int) (l : List api_Id) : ∀ w : List (Int × List api_Id), mset (w.map fun p => (p.1, p.2.map sh)) i (l.map sh) = (mset w i l).map fun p => (p.1, p.2.map sh)
  | [] => rfl
  | p :: w => by
    simp only [List.map_cons, mset]
    split
    · rfl
    · rw [mset_map i l w]; rfl

theorem rdL_map (x y : List api_Meaning) (id id' : api_Id) (h : ∀ k, y.find? (senseB id' k) = (x.find? (senseB id k)).map shM) : ∀ (cs : List api_Cite) (k : Nat) (v v' : List (Int × api_Cite)) (w : List (Int × List api_Id)),
    (rdL y id' cs k v' (w.map fun p => (p.1, p.2.map sh))).2 = (rdL x id cs k v w).2.map fun p => (p.1, p.2.map sh) := by
  intro cs
  induction cs with
  | nil => intro k v v' w; rfl
  | cons c cs ih =>
    intro k v v' w
    rw [rdL, rdL, h]
    cases x.find? (senseB id k) with
    | none => exact ih _ _ _ _
    | some s =>
      show (rdL y id' cs (k + 1) (mset v' c.From c) (mset (w.map fun p => (p.1, p.2.map sh)) c.From (s.To.map sh))).2 = (rdL x id cs (k + 1) (mset v c.From c) (mset w c.From s.To)).2.map _
      rw [mset_map]
      exact ih _ _ _ _

/-! ## Parents -/

theorem findSome_map {α β γ δ : Type} (f : α → β) (p : β → Option γ) (q : α → Option δ) (m : δ → γ) : ∀ l : List α, (∀ x ∈ l, p (f x) = (q x).map m) → (l.map f).findSome? p = (l.findSome? q).map m := by
  intro l
  induction l with
  | nil => intro _; rfl
  | cons x l ih =>
    intro h
    rw [List.map_cons, List.findSome?_cons, List.findSome?_cons, h x (List.mem_cons_self ..)]
    cases q x with
    | none => exact ih fun y hy => h y (List.mem_cons_of_mem _ hy)
    | some z => rfl

theorem path_sT (id : api_Id) (u : api_Unit) : pathO (sh id) (sT u) = (pathO id u).map (List.map sT) := by
  refine uind (P := fun u => pathO (sh id) (sT u) = (pathO id u).map (List.map sT)) ?_ u
  intro u ih
  rw [pathO_eq, pathO_eq id u, sT_id]
  by_cases h : u.Id = id
  · rw [if_pos (by rw [h]), if_pos h]; rfl
  · rw [if_neg (fun e => h (sh_inj.1 e)), if_neg h]
    have e : (sT u).Kids = u.Kids.map sT := by rw [sT_eq]
    rw [e, findSome_map sT (pathO (sh id)) (pathO id) (List.map sT) u.Kids ih]
    cases u.Kids.findSome? (pathO id) <;> rfl

theorem par_rn {u x : api_Unit} (hx : x ∈ kd u) (hn : ((desc u).map api_Unit.Id).Nodup) (hu : u.Id ≠ sh x.Id) :
    ((parR x.Id u).1 = u.Id ∧ (parR (sh x.Id) (rnT u)).1 = (rnT u).Id) ∨ ((parR x.Id u).1 ≠ u.Id ∧ ∃ w ∈ kd u, w.Id = (parR x.Id u).1 ∧ (parR (sh x.Id) (rnT u)).1 = sh w.Id) := by
  have hne : u.Id ≠ x.Id := fun e => (nodup_kd hn).2 x hx e.symm
  obtain ⟨y, hy⟩ := find_some x.Id u x (kd_desc hx) rfl
  cases hp : pathO x.Id u with
  | none => rw [(path_none hp).2] at hy; cases hy
  | some w =>
    obtain ⟨h2, v, hv, rfl⟩ := path_two hne hp
    have hb : pathO (sh x.Id) (rnT u) = some (rnT u :: v.map sT) := by
      rw [pathO_eq, if_neg (show (rnT u).Id ≠ sh x.Id from hu)]
      show ((u.Kids.map sT).findSome? (pathO (sh x.Id))).map _ = _
      rw [findSome_map sT (pathO (sh x.Id)) (pathO x.Id) (List.map sT) u.Kids (fun k _ => path_sT x.Id k), hv]
      rfl
    obtain ⟨k, hk, hkv⟩ := List.exists_of_findSome?_eq_some hv
    have e1 : parR x.Id u = parW x.Id (u :: v) := by unfold parR; rw [hp]
    have e2 : parR (sh x.Id) (rnT u) = parW (sh x.Id) (rnT u :: v.map sT) := by unfold parR; rw [hb]
    rw [e1, e2]
    unfold parW
    simp only [List.reverse_cons, ← List.map_reverse]
    have hvr : ∀ z ∈ v.reverse, z ∈ kd u := fun z hz => List.mem_flatMap.2 ⟨k, hk, (way_desc x.Id k v hkv z (List.mem_reverse.1 hz)).1⟩
    match hr : v.reverse with
    | [] =>
      have := congrArg List.length hr
      simp at this
      simp [this] at h2
    | [z] => exact .inl ⟨rfl, rfl⟩
    | z :: p :: r =>
      have hpk : p ∈ kd u := hvr p (by rw [hr]; simp)
      exact .inr ⟨(nodup_kd hn).2 p hpk, p, hpk, rfl, sT_id p⟩

theorem renamed_true (u : api_Unit) (x : List api_Meaning) (hx : x.length ≤ 140737488355328) : ∃ n, M.law48_EquivalenceRenamed n u x = some true := by
  refine To.ex ?_
  simp only [M.law48_EquivalenceRenamed]
  have fin : To (fun n => Option.bind (M.law48_awake n) fun awake => some awake) true := To.bind awake48 To.pure
  obtain ⟨r, h1, k1⟩ := heavy_ok u u [] x [] (by simp; omega)
  cases r with
  | true => exact To.bind (a := true) (To.bind h1 (To.pos rfl To.pure)) (To.pos rfl fin)
  | false =>
  obtain ⟨ok, _, _, hxl, hto⟩ := k1 rfl
  have hc := ok.c
  have hxl : x.length ≤ 40 := by simp at hxl; omega
  have hto' : ∀ s, s ∈ x → s.To.length ≤ 20 := fun s hs => hto s (List.mem_append_left _ hs)
  obtain ⟨r, h2, k2⟩ := once_ok u (by omega)
  cases r with
  | false => exact To.bind (a := true) (To.bind h1 (To.neg (by simp) (To.bind h2 (To.pure.of (by simp))))) (To.pos rfl fin)
  | true =>
  have hn := k2 rfl
  refine To.bind (a := false) (To.bind h1 (To.neg (by simp) (To.bind h2 (To.pure.of (by simp))))) (To.neg (by simp) ?_)
  refine To.bind (all_ok u (by omega)) ?_
  rcases ren1_ok u ((desc u).map api_Unit.Id) [] with ⟨hr, v, q1, q2⟩ | q
  · refine To.bind q1 ?_
    have hrange : ∀ y ∈ desc u, 0 ≤ y.Id.Act ∧ y.Id.Act ≤ 1000 := fun y hy => hr _ (List.mem_map_of_mem hy)
    have hvr : ∀ id, mget v id false = true → 0 ≤ id.Act ∧ id.Act ≤ 1000 := fun id hid => by
      rw [q2] at hid
      by_cases hm : id ∈ (desc u).map api_Unit.Id
      · exact hr id hm
      · rw [if_neg hm] at hid; simp [mget] at hid
    have hvk : ∀ y ∈ kd u, mget v y.Id false = true := fun y hy => by
      rw [q2, if_pos (List.mem_map_of_mem (kd_desc hy))]
      exact decide_eq_true ((nodup_kd hn).2 y hy)
    refine To.bind (named_ok u (by omega) (fun y hy => hrange y (kd_desc hy))) ?_
    rcases ren2_ok v hvr x [] (by simp; omega) hto' with q3 | q3
    · refine To.bind q3 ?_
      rw [List.nil_append]
      have hne : ∀ y ∈ kd u, u.Id ≠ sh y.Id := fun y hy e => by
        have h3 := (hrange u (desc_self u)).2
        have h4 := (hrange y (kd_desc hy)).1
        have : u.Id.Act = y.Id.Act + 5000 := congrArg api_Id.Act e
        omega
      have hids : ((kd (rnT u)).map api_Unit.Id) = (kd u).map (fun y => sh y.Id) := by
        rw [rn_kd, List.map_map]
        exact List.map_congr_left fun y _ => sT_id y
      have hndb : ((desc (rnT u)).map api_Unit.Id).Nodup := by
        rw [desc_kd, List.map_cons, List.nodup_cons, hids]
        refine ⟨fun hm => ?_, ?_⟩
        · obtain ⟨y, hy, e⟩ := List.mem_map.1 hm
          exact hne y hy e.symm
        · have := (nodup_kd hn).1
          rw [List.nodup_iff_pairwise_ne, List.pairwise_map] at this ⊢
          exact this.imp fun h e => h (sh_inj.1 e)
      have iso : Iso u (rnT u) sh sT (rnL u) := ⟨rn_kd u, fun y _ => sT_id y, hn, hndb, rfl⟩
      have hcb : cnt (rnT u) = cnt u := by
        have h1 := kd_len u
        have h2 := kd_len (rnT u)
        rw [rn_kd, List.length_map] at h2
        omega
      have hmem : ∀ z ∈ desc (rnT u), ∃ y ∈ desc u, z.Label = y.Label ∧ z.Head = y.Head ∧ z.Words = y.Words := fun z hz => by
        rw [desc_kd, rn_kd] at hz
        rcases List.mem_cons.1 hz with rfl | hz
        · exact ⟨u, desc_self u, rfl, rfl, rfl⟩
        · obtain ⟨y, hy, rfl⟩ := List.mem_map.1 hz
          exact ⟨y, kd_desc hy, sT_label y, sT_head y, sT_words y⟩
      have hlb : labs (rnT u) := fun z hz => by
        obtain ⟨y, hy, e1, e2, e3⟩ := hmem z hz
        rw [e1, e2, e3]; exact ok.l y hy
      have hfb : fineT (rnT u) := fun z hz => by
        obtain ⟨y, hy, e1, e2, e3⟩ := hmem z hz
        rw [e3]; exact ok.f.t y hy
      have hll : (rnL u).length ≤ 10000 := by have := kd_len u; simp [rnL]; omega
      have hchk := check_ok u (rnT u) (rnL u) x ((x.filter (fun s => mget v s.At false)).map shM) (fun _ _ => (0, false)) (by omega) ok.l ok.f.t (by omega) hlb hfb hll (fun t ht y hy z hz hd hf => by
        have hzy : z = sT y := by
          rw [iso.dst hy] at hd
          have e : z.Id = sh y.Id := (List.cons.inj hd).1.symm
          have := (iso.find hy).1
          rw [← e, hf] at this
          exact Option.some.inj this
        subst hzy
        have hw : (rdT (sT y) ((x.filter (fun s => mget v s.At false)).map shM)).words_ = (rdT y x).words_ := by
          show tx (sT y).Words = tx y.Words
          rw [sT_words]
        have hci : (rdT (sT y) ((x.filter (fun s => mget v s.At false)).map shM)).cites_ = (rdT y x).cites_ := by
          show (rdL _ _ (scanT (tx (sT y).Words)) 0 [] []).1 = (rdL _ _ (scanT (tx y.Words)) 0 [] []).1
          rw [sT_words]
          exact rdL_cites _ _ _ _ _ _ _ _ _
        have htg : (rdT (sT y) ((x.filter (fun s => mget v s.At false)).map shM)).targets_ = (rdT y x).targets_.map fun p => (p.1, p.2.map sh) := by
          show (rdL _ (sT y).Id (scanT (tx (sT y).Words)) 0 [] []).2 = (rdL x y.Id (scanT (tx y.Words)) 0 [] []).2.map _
          rw [sT_words, sT_id]
          exact rdL_map x _ y.Id (sh y.Id) (fun k => sense_find x _ y.Id k (fun s _ he => by rw [he]; exact hvk y hy)) _ 0 [] [] []
        refine differ_same ht (by omega) hlb (rdT y x) _ hw hci (rd_placed y x) (fun i => ?_) ?_ (fun i hi => ?_)
        · have := tgt_len x y.Id hto' (scanT (tx y.Words)) 0 [] [] (fun _ => by simp [mget]) i
          exact Nat.le_trans this (by omega)
        · have := ok.f y (kd_desc hy)
          refine ⟨by show (tx y.Words).length ≤ _; simp [tx]; omega, fun w hw => ?_⟩
          obtain ⟨z, hz, rfl⟩ := List.mem_map.1 (show w ∈ y.Words.map api_Word.Text from hw)
          have := this.2 z hz; omega
        · rw [htg, mget_map]
          unfold carF at hi ⊢
          split
          · rename_i hall
            have : ∀ ids : List api_Id, (ids.all fun id => (goF (rnT u) (rnL u) id).2) = true → ids.map sh = ids.map (fun id => (goF (rnT u) (rnL u) id).1) := by
              intro ids h
              have h := List.all_eq_true.1 h
              exact List.map_congr_left fun z hz => (iso.goes (h z hz)).symm
            exact this _ hall
          · rename_i hall; rw [if_neg hall] at hi; cases hi)
      rw [iso.nil (fun _ _ => (0, false)) (fun y _ => ⟨(sT_kind y).symm, by rw [sT_head], rfl⟩)] at hchk
      have heq : To (fun n => M.equivalence_Equivalent n u (rnT u) (rnL u) x ((x.filter (fun s => mget v s.At false)).map shM)) true := by
        simp only [M.equivalence_Equivalent]
        exact To.bind hchk (To.pure.of (by simp))
      have hmv : To (fun n => M.equivalence_Moved n u (rnT u) (rnL u)) [] := iso.moved (by omega) (by omega) hlb fun y hy => par_rn hy hn (hne y hy)
      exact To.bind heq (To.pos rfl (To.bind hmv (To.pos rfl fin)))
    · exact To.bind q3 To.pure
  · exact To.bind q To.pure
end Go.Proofs.Ytclepigknhoonaa
