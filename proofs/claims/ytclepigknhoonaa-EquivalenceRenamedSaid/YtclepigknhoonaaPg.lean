/-
  Chapter 48: what the laws build; the law Reflexive.
-/
import Derived.Test.YtclepigknhoonaaPf
import Derived.KernelRfl
set_option linter.unusedVariables false
set_option linter.unusedSimpArgs false
namespace Go.Proofs.Ytclepigknhoonaa
open Go Go.Dec

theorem awake48 : To (fun n => M.law48_awake n) true := by
  refine To.far 60 fun m => ?_
  kernel_rfl

theorem heavy_ok (a b : api_Unit) (l : List api_Destination) (x y : List api_Meaning) (hx : x.length + y.length ≤ 281474976710656) : ∃ r, To (fun n => M.law48_heavy n a b l x y) r ∧ (r = false → Ok a ∧ Ok b ∧ l.length ≤ 40 ∧ x.length + y.length ≤ 40 ∧ ∀ s, s ∈ x ++ y → s.To.length ≤ 20) := by
  obtain ⟨b1, h1, k1⟩ := few_fine a
  obtain ⟨b2, h2, k2⟩ := few_fine b
  have loop : ∀ l : List api_Meaning, ∃ c : Unit ⊕ Bool, M.law48_heavy_loop1 l = some c ∧ ((c = .inl () ∧ ∀ s, s ∈ l → s.To.length ≤ 20) ∨ c = .inr true) := by
    intro l
    induction l with
    | nil => exact ⟨_, rfl, .inl ⟨rfl, fun s hs => by cases hs⟩⟩
    | cons s l ih =>
      simp only [M.law48_heavy_loop1]
      by_cases h : (20 : Int) < (s.To.length : Int)
      · exact ⟨.inr true, by rw [if_pos h], .inr rfl⟩
      · obtain ⟨c, h1, h2⟩ := ih
        refine ⟨c, by rw [if_neg h]; exact h1, h2.imp (fun ⟨e, k⟩ => ⟨e, fun s' hs' => ?_⟩) id⟩
        rcases List.mem_cons.1 hs' with rfl | hs'
        · omega
        · exact k s' hs'
  simp only [M.law48_heavy]
  cases b1 with
  | false => exact ⟨true, To.bind (a := true) (To.bind h1 (To.pos rfl To.pure)) (To.pos rfl To.pure), fun h => by cases h⟩
  | true =>
    cases b2 with
    | false => exact ⟨true, To.bind (a := true) (To.bind h1 (To.neg (by simp) (To.bind h2 (To.pos rfl To.pure)))) (To.pos rfl To.pure), fun h => by cases h⟩
    | true =>
      by_cases hl : (40 : Int) < (l.length : Int)
      · exact ⟨true, To.bind (a := true) (To.bind h1 (To.neg (by simp) (To.bind h2 (To.neg (by simp) (To.pos hl To.pure))))) (To.pos rfl To.pure), fun h => by cases h⟩
      · have ha : addC (x.length : Int) (y.length : Int) = some ((x.length : Int) + (y.length : Int)) := addC_eq (by omega) (by omega)
        by_cases hxy : (40 : Int) < (x.length : Int) + (y.length : Int)
        · exact ⟨true, To.bind (a := true) (To.bind h1 (To.neg (by simp) (To.bind h2 (To.neg (by simp) (To.neg hl (To.bindS ha (To.pure.of (by simpa using hxy)))))))) (To.pos rfl To.pure), fun h => by cases h⟩
        · obtain ⟨c, hc, hc2⟩ := loop (x ++ y)
          have hout : To (fun _ => Option.bind (appC ([] : List api_Meaning) x) fun out => Option.bind (appC out y) fun out1 => Option.bind (M.law48_heavy_loop1 out1) fun
              | .inl _ => some false
              | .inr ret0 => some ret0) (match c with | .inl _ => false | .inr r => r) := by
            refine To.bindS (appC_eq (by simp; omega)) (To.bindS (appC_eq (by simp; omega)) ?_)
            rw [List.nil_append]
            refine To.bindS hc ?_
            rcases hc2 with ⟨rfl, _⟩ | rfl
            · exact To.pure
            · exact To.pure
          refine ⟨_, To.bind (a := false) (To.bind h1 (To.neg (by simp) (To.bind h2 (To.neg (by simp) (To.neg hl (To.bindS ha (To.pure.of (by simpa using hxy)))))))) (To.neg (by simp) hout), fun h => ?_⟩
          rcases hc2 with ⟨rfl, k⟩ | rfl
          · exact ⟨k1 rfl, k2 rfl, by omega, by omega, k⟩
          · cases h

theorem once_ok (u : api_Unit) (hc : cnt u ≤ 100000) : ∃ r, To (fun n => M.law48_once n u) r ∧ (r = true → ((desc u).map api_Unit.Id).Nodup) := by
  simp only [M.law48_once]
  have hlen : ((desc u).map api_Unit.Id).length ≤ 100000 := by simpa [cnt] using hc
  have hall := all_ok u (by omega)
  revert hall hlen
  generalize (desc u).map api_Unit.Id = all
  intro hlen hall
  have loop2 : ∀ (i : Nat) (hi : i < all.length) (d k : Nat), k + d = i → (To (fun n => M.law48_once_loop2 all (i : Int) n (k : Int)) (.inl ()) ∧ ∀ j, k ≤ j → j < i → all[j]? ≠ all[i]?) ∨ To (fun n => M.law48_once_loop2 all (i : Int) n (k : Int)) (.inr false) := by
    intro i hi d
    induction d with
    | zero =>
      intro k hk
      refine .inl ⟨To.succ ?_, fun j h1 h2 => by omega⟩
      simp only [M.law48_once_loop2]
      exact To.neg (by omega) To.pure
    | succ d ih =>
      intro k hk
      have hx : idx all (i : Int) = some all[i] := by rw [idx_nat, List.getElem?_eq_getElem hi]
      have hkl : k < all.length := by omega
      have hy : idx all (k : Int) = some all[k] := by rw [idx_nat, List.getElem?_eq_getElem hkl]
      by_cases he : all[i] = all[k]
      · refine .inr (To.succ ?_)
        simp only [M.law48_once_loop2]
        exact To.pos (by omega) (To.bindS hx (To.bindS hy (To.pos he To.pure)))
      · rcases ih (k + 1) (by omega) with ⟨h1, h2⟩ | h
        · refine .inl ⟨To.succ ?_, fun j h3 h4 => ?_⟩
          · simp only [M.law48_once_loop2]
            exact To.pos (by omega) (To.bindS hx (To.bindS hy (To.neg he (To.bindS (addC_succ (by omega)) h1))))
          · by_cases hj : j = k
            · subst hj
              rw [List.getElem?_eq_getElem hkl, List.getElem?_eq_getElem hi]
              exact fun e => he (Option.some.inj e).symm
            · exact h2 j (by omega) h4
        · refine .inr (To.succ ?_)
          simp only [M.law48_once_loop2]
          exact To.pos (by omega) (To.bindS hx (To.bindS hy (To.neg he (To.bindS (addC_succ (by omega)) h))))
  have loop1 : ∀ (d i : Nat), i + d = all.length → (To (fun n => M.law48_once_loop1 all n (i : Int)) (.inl ()) ∧ ∀ p, i ≤ p → p < all.length → ∀ j, j < p → all[j]? ≠ all[p]?) ∨ To (fun n => M.law48_once_loop1 all n (i : Int)) (.inr false) := by
    intro d
    induction d with
    | zero =>
      intro i hi
      refine .inl ⟨To.succ ?_, fun p h1 h2 => by omega⟩
      simp only [M.law48_once_loop1]
      exact To.neg (by omega) To.pure
    | succ d ih =>
      intro i hi
      rcases loop2 i (by omega) i 0 (by omega) with ⟨h1, h2⟩ | h
      · rcases ih (i + 1) (by omega) with ⟨h3, h4⟩ | h3
        · refine .inl ⟨To.succ ?_, fun p h5 h6 j h7 => ?_⟩
          · simp only [M.law48_once_loop1]
            exact To.pos (by omega) (To.bind h1 (To.bindS (addC_succ (by omega)) h3))
          · by_cases hp : p = i
            · subst hp; exact h2 j (by omega) h7
            · exact h4 p (by omega) h6 j h7
        · refine .inr (To.succ ?_)
          simp only [M.law48_once_loop1]
          exact To.pos (by omega) (To.bind h1 (To.bindS (addC_succ (by omega)) h3))
      · refine .inr (To.succ ?_)
        simp only [M.law48_once_loop1]
        exact To.pos (by omega) (To.bind h To.pure)
  rcases loop1 all.length 0 (by omega) with ⟨h1, h2⟩ | h
  · refine ⟨true, To.bind hall (To.bind h1 To.pure), fun _ => ?_⟩
    rw [List.nodup_iff_pairwise_ne, List.pairwise_iff_getElem]
    intro i j hi hj hij e
    refine h2 j (by omega) hj i hij ?_
    rw [List.getElem?_eq_getElem hi, List.getElem?_eq_getElem hj, e]
  · exact ⟨false, To.bind hall (To.bind h To.pure), fun h => by cases h⟩

theorem units_ok (u : api_Unit) : cnt u ≤ 1000000 → To (fun n => M.r12_Units n u) (desc u) := by
  refine uind (P := fun u => cnt u ≤ 1000000 → To (fun n => M.r12_Units n u) (desc u)) ?_ u
  intro u ih hc
  have loop : ∀ (xs : List api_Unit) (slf : Nat → api_Unit → Option (List api_Unit)) (i : Nat) (out : List api_Unit), u.Kids.drop i = xs → (∀ k, k ∈ xs → To (fun n => slf n k) (desc k)) → out.length + (xs.map cnt).sum ≤ 1000000 →
      To (fun n => M.r12_Units_loop1 u (slf n) n out (i : Int)) (out ++ xs.flatMap desc) := by
    intro xs
    induction xs with
    | nil =>
      intro slf i out hx _ _
      refine To.succ ?_
      simp only [M.r12_Units_loop1]
      exact To.neg (drop_end hx) (To.pure.of (by simp))
    | cons x xs ihx =>
      intro slf i out hx hs hb
      simp only [List.map_cons, List.sum_cons] at hb
      have hdl : (desc x).length = cnt x := rfl
      refine To.succ ?_
      simp only [M.r12_Units_loop1]
      refine To.pos (drop_lt hx) (To.bindS (drop_idx hx) (To.bind (hs x (by simp)).shift (To.bindS (appC_eq (by omega)) ?_)))
      rw [cast_succ]
      refine (ihx (fun n => slf (n + 1)) (i + 1) _ (drop_next hx) (fun k hk => (hs k (by simp [hk])).shift) (by rw [List.length_append]; omega)).of ?_
      simp
  refine To.succ ?_
  simp only [M.r12_Units]
  have hs := cnt_eq u
  refine To.bind (loop u.Kids (fun n => M.r12_Units n) 0 [u] rfl (fun k hk => ih k hk (by have := cnt_kid hk; omega)) (by simp; omega)) (To.pure.of ?_)
  rw [desc_eq]; rfl

def selfL (u : api_Unit) : List api_Destination := (kd u).map (fun x => ⟨x.Id, x.Id⟩)

theorem self_ok (u : api_Unit) (hc : cnt u ≤ 100000) : To (fun n => M.r48_Self n u) (selfL u) := by
  simp only [M.r48_Self]
  refine To.bind (units_ok u (by omega)) ?_
  have loop : ∀ (xs : List api_Unit) (i : Nat) (out : List api_Destination), (desc u).drop i = xs → out.length + xs.length ≤ 1000000 → To (fun n => M.r48_Self_loop1 (desc u) n out (i : Int)) (out ++ xs.map (fun x => ⟨x.Id, x.Id⟩)) := by
    intro xs
    induction xs with
    | nil =>
      intro i out hx _
      refine To.succ ?_
      simp only [M.r48_Self_loop1]
      exact To.neg (drop_end hx) (To.pure.of (by simp))
    | cons x xs ih =>
      intro i out hx h
      simp only [List.length_cons] at h
      refine To.succ ?_
      simp only [M.r48_Self_loop1]
      refine To.pos (drop_lt hx) (To.bindS (drop_idx hx) (To.bindS (drop_idx hx) (To.bindS (appC_eq (by simp; omega)) ?_)))
      rw [cast_succ]
      exact (ih (i + 1) _ (drop_next hx) (by simp; omega)).of (by simp)
  have hk := kd_len u
  refine To.bind (loop (kd u) 1 [] (by rw [desc_kd]; rfl) (by simp; omega)) (To.pure.of (by simp [selfL]))

/-! ## A tree and its image -/

structure Iso (a b : api_Unit) (f : api_Id → api_Id) (g : api_Unit → api_Unit) (l : List api_Destination) : Prop where
  kdb : kd b = (kd a).map g
  gid : ∀ u ∈ kd a, (g u).Id = f u.Id
  nda : ((desc a).map api_Unit.Id).Nodup
  ndb : ((desc b).map api_Unit.Id).Nodup
  tab : l = (kd a).map (fun u => ⟨u.Id, f u.Id⟩)

theorem fil_one {α β : Type} [DecidableEq β] (h : α → β) : ∀ {l : List α} {x : α}, (l.map h).Nodup → x ∈ l → l.filter (fun y => decide (h y = h x)) = [x] := by
  intro l
  induction l with
  | nil => intro x _ hx; cases hx
  | cons a l ih =>
    intro x hn hx
    rw [List.map_cons, List.nodup_cons] at hn
    rcases List.mem_cons.1 hx with rfl | hx
    · rw [List.filter_cons_of_pos (by simp)]
      congr 1
      rw [List.filter_eq_nil_iff]
      intro y hy he
      exact hn.1 (List.mem_map.2 ⟨y, hy, of_decide_eq_true he⟩)
    · rw [List.filter_cons_of_neg, ih hn.2 hx]
      intro he
      exact hn.1 (List.mem_map.2 ⟨x, hx, (of_decide_eq_true he).symm⟩)

theorem nodup_kd {u : api_Unit} (h : ((desc u).map api_Unit.Id).Nodup) : ((kd u).map api_Unit.Id).Nodup ∧ ∀ x ∈ kd u, x.Id ≠ u.Id := by
  rw [desc_kd, List.map_cons, List.nodup_cons] at h
  exact ⟨h.2, fun x hx e => h.1 (List.mem_map.2 ⟨x, hx, e⟩)⟩

theorem find_one {u x : api_Unit} (h : ((desc u).map api_Unit.Id).Nodup) (hx : x ∈ kd u) : findO x.Id u = some x ∧ inB u x.Id = true := by
  obtain ⟨y, hy⟩ := find_some x.Id u x (kd_desc hx) rfl
  obtain ⟨h1, h2⟩ := find_mem x.Id u y hy
  have := nodup_eq h h1 (kd_desc hx) h2
  subst this
  refine ⟨hy, ?_⟩
  unfold inB
  rw [hy]
  simp [(nodup_kd h).2 y hx]

section
variable {a b : api_Unit} {f : api_Id → api_Id} {g : api_Unit → api_Unit} {l : List api_Destination}

theorem Iso.dst (h : Iso a b f g l) {u : api_Unit} (hu : u ∈ kd a) : dst l u.Id = [f u.Id] := by
  unfold Go.Proofs.Ytclepigknhoonaa.dst
  rw [h.tab, List.filter_map, List.map_map]
  have := fil_one api_Unit.Id (nodup_kd h.nda).1 hu
  have e : ((fun d : api_Destination => decide (d.From = u.Id)) ∘ fun u : api_Unit => (⟨u.Id, f u.Id⟩ : api_Destination)) = fun y => decide (y.Id = u.Id) := rfl
  rw [e, this]; rfl

theorem Iso.mem (h : Iso a b f g l) {v : api_Unit} (hv : v ∈ kd b) : ∃ u ∈ kd a, g u = v := by
  rw [h.kdb] at hv
  exact List.mem_map.1 hv

theorem Iso.img (h : Iso a b f g l) {u : api_Unit} (hu : u ∈ kd a) : g u ∈ kd b := by rw [h.kdb]; exact List.mem_map_of_mem hu

theorem Iso.src (h : Iso a b f g l) {v : api_Unit} (hv : v ∈ kd b) : (src l v.Id).length = 1 := by
  obtain ⟨u, hu, rfl⟩ := h.mem hv
  unfold Go.Proofs.Ytclepigknhoonaa.src
  have hn : ((kd a).map (fun u => f u.Id)).Nodup := by
    have := (nodup_kd h.ndb).1
    rw [h.kdb, List.map_map] at this
    have e : (kd a).map (api_Unit.Id ∘ g) = (kd a).map (fun u => f u.Id) := List.map_congr_left fun x hx => h.gid x hx
    rw [← e]; exact this
  have := fil_one (fun u : api_Unit => f u.Id) hn hu
  rw [h.tab, List.filter_map, List.map_map, List.length_map]
  have e : ((fun d : api_Destination => decide (d.To = (g u).Id)) ∘ fun u : api_Unit => (⟨u.Id, f u.Id⟩ : api_Destination)) = fun y => decide (f y.Id = f u.Id) := by
    funext y; simp [h.gid u hu]
  rw [e, this]; rfl

theorem Iso.from (h : Iso a b f g l) : ∀ d ∈ l, inB a d.From = true := by
  intro d hd
  rw [h.tab] at hd
  obtain ⟨u, hu, rfl⟩ := List.mem_map.1 hd
  exact (find_one h.nda hu).2

theorem Iso.find (h : Iso a b f g l) {u : api_Unit} (hu : u ∈ kd a) : findO (f u.Id) b = some (g u) ∧ inB b (f u.Id) = true := by
  have := find_one h.ndb (h.img hu)
  rw [h.gid u hu] at this
  exact this

theorem Iso.go (h : Iso a b f g l) {u : api_Unit} (hu : u ∈ kd a) : goF b l u.Id = (f u.Id, true) := by
  unfold goF
  rw [h.dst hu]
  simp [(h.find hu).2]

theorem Iso.goes (h : Iso a b f g l) {id : api_Id} (hg : (goF b l id).2 = true) : (goF b l id).1 = f id := by
  obtain ⟨x, hx, _, hgo⟩ := go_true hg
  rw [hgo]
  have hm : x ∈ Go.Proofs.Ytclepigknhoonaa.dst l id := by rw [hx]; exact List.mem_singleton.2 rfl
  unfold Go.Proofs.Ytclepigknhoonaa.dst at hm
  rw [h.tab] at hm
  obtain ⟨d, hd, he⟩ := List.mem_map.1 hm
  have hd2 := List.mem_filter.1 hd
  obtain ⟨u, hu, rfl⟩ := List.mem_map.1 hd2.1
  have : u.Id = id := of_decide_eq_true hd2.2
  rw [← he, ← this]

theorem Iso.nil (h : Iso a b f g l) (D : api_Unit → api_Unit → Int × Bool) (hk : ∀ u ∈ kd a, u.Kind = (g u).Kind ∧ tx u.Head = tx (g u).Head ∧ (D u (g u)).2 = false) : checkF D a b l = [] := by
  rw [check_nil]
  refine ⟨fun u hu => ⟨g u, ?_⟩, fun v hv => h.src hv, h.from⟩
  obtain ⟨h1, h2⟩ := h.find hu
  have hg := h.gid u hu
  obtain ⟨k1, k2, k3⟩ := hk u hu
  exact ⟨by rw [h.dst hu, hg], h.img hu, by rw [hg]; exact h1, by rw [hg]; exact h2, k1, k2, k3⟩

/-- Where the parents go along, nothing has moved. -/
theorem Iso.moved (h : Iso a b f g l) (hca : cnt a ≤ 10000) (hcb : cnt b ≤ 10000) (hlb : labs b)
    (hp : ∀ u ∈ kd a, ((parR u.Id a).1 = a.Id ∧ (parR (f u.Id) b).1 = b.Id) ∨ ((parR u.Id a).1 ≠ a.Id ∧ ∃ w ∈ kd a, w.Id = (parR u.Id a).1 ∧ (parR (f u.Id) b).1 = f w.Id)) : To (fun n => M.equivalence_Moved n a b l) [] := by
  have hkl := kd_len a
  obtain ⟨t, h1, ht⟩ := made_ok a b l (by rw [h.tab, List.length_map]; omega)
  simp only [M.equivalence_Moved]
  refine To.bindS h1 ?_
  have e := each2_ok t a b (fun _ => []) (fun _ => by simp) a (fun u hu c hc => by
    simp only [M.equivalence_Moved_1]
    refine To.bind (goes_ok ht hcb hlb u.Id) ?_
    rw [h.go hu]
    refine To.neg (by simp) (To.bind (par_u u.Id a hca) (To.bind (par_u (f u.Id) b hcb) (To.bind (goes_ok ht hcb hlb _) ?_)))
    rcases hp u hu with ⟨p1, p2⟩ | ⟨p1, w, hw, p2, p3⟩
    · refine To.bind (a := (true, b.Id)) (To.pos p1 To.pure) ?_
      exact To.neg (by simp) (To.neg (by simp [p2]) (To.pure.of (by simp)))
    · refine To.bind (a := (true, f w.Id)) (To.neg p1 (To.pure.of ?_)) ?_
      · rw [← p2, h.go hw]
      · exact To.neg (by simp) (To.neg (by simp [p3]) (To.pure.of (by simp)))) [] (by simp; omega)
  refine To.bind e (To.pure.of (by simp))
end

/-- A unit's parent is in the tree. -/
theorem par_in {u x : api_Unit} (hx : x ∈ kd u) (hn : ((desc u).map api_Unit.Id).Nodup) : ∃ p ∈ desc u, (parR x.Id u).1 = p.Id := by
  obtain ⟨y, hy⟩ := find_some x.Id u x (kd_desc hx) rfl
  unfold parR
  cases hp : pathO x.Id u with
  | none => rw [(path_none hp).2] at hy; cases hy
  | some w =>
    obtain ⟨h2, _⟩ := path_two (fun e => (nodup_kd hn).2 x hx e.symm) hp
    obtain ⟨p, q1, _, _, q4⟩ := par_path x.Id u w hp h2
    exact ⟨p, q1, by show (parW x.Id w).1 = _; rw [q4]⟩

theorem tgt_len (senses : List api_Meaning) (id : api_Id) (hs : ∀ s, s ∈ senses → s.To.length ≤ 20) : ∀ (cs : List api_Cite) (k : Nat) (v : List (Int × api_Cite)) (w : List (Int × List api_Id)), (∀ i, (mget w i []).length ≤ 20) → ∀ i, (mget (rdL senses id cs k v w).2 i []).length ≤ 20 := by
  intro cs
  induction cs with
  | nil => intro k v w h; exact h
  | cons c cs ih =>
    intro k v w h
    refine ih _ _ _ fun i => ?_
    cases hf : senses.find? (senseB id k) with
    | none => exact h i
    | some s =>
      simp only
      rw [mget_set]
      split
      · exact hs s (List.mem_of_find?_eq_some hf)
      · exact h i

theorem reflexive_true (u : api_Unit) (x : List api_Meaning) (hx : x.length ≤ 140737488355328) : ∃ n, M.law48_EquivalenceReflexive n u x = some true := by
  refine To.ex ?_
  simp only [M.law48_EquivalenceReflexive]
  obtain ⟨r, h1, k1⟩ := heavy_ok u u [] x [] (by simp; omega)
  cases r with
  | true => exact To.bind (a := true) (To.bind h1 (To.pos rfl To.pure)) (To.pos rfl (To.bind awake48 To.pure))
  | false =>
    obtain ⟨ok, _, _, hxl, hto⟩ := k1 rfl
    obtain ⟨r, h2, k2⟩ := once_ok u (by have := ok.c; omega)
    cases r with
    | false => exact To.bind (a := true) (To.bind h1 (To.neg (by simp) (To.bind h2 (To.pure.of (by simp))))) (To.pos rfl (To.bind awake48 To.pure))
    | true =>
      have hn := k2 rfl
      have hc := ok.c
      have iso : Iso u u id id (selfL u) := ⟨by simp, fun _ _ => rfl, hn, hn, rfl⟩
      have hll : (selfL u).length ≤ 10000 := by have := kd_len u; simp [selfL]; omega
      have chk : ∀ xs : List api_Meaning, (∀ s, s ∈ xs → s.To.length ≤ 20) → To (fun n => M.equivalence_Check n u u (selfL u) xs xs) [] := fun xs hxs => by
        have := check_ok u u (selfL u) xs xs (fun _ _ => (0, false)) (by omega) ok.l ok.f.t (by omega) ok.l ok.f.t hll (fun t ht y hy v hv hd hf => by
          rw [iso.dst hy] at hd
          have e : v.Id = y.Id := (List.cons.inj hd).1.symm
          have := nodup_eq hn (kd_desc hv) (kd_desc hy) e
          subst this
          refine differ_same ht (by omega) ok.l (rdT v xs) (rdT v xs) rfl rfl (rd_placed v xs) (fun i => ?_) ?_ (fun i hi => ?_)
          · have := tgt_len xs v.Id hxs (scanT (tx v.Words)) 0 [] [] (fun _ => by simp [mget]) i
            exact Nat.le_trans this (by omega)
          · have := ok.f v (kd_desc hv)
            refine ⟨by show (tx v.Words).length ≤ _; simp [tx]; omega, fun w hw => ?_⟩
            obtain ⟨z, hz, rfl⟩ := List.mem_map.1 (show w ∈ v.Words.map api_Word.Text from hw)
            have := this.2 z hz; omega
          · unfold carF at hi ⊢
            split
            · rename_i hall
              have : ∀ ids : List api_Id, (ids.all fun id => (goF u (selfL u) id).2) = true → ids = ids.map (fun id => (goF u (selfL u) id).1) := by
                intro ids h
                have h := List.all_eq_true.1 h
                conv => lhs; rw [← List.map_id ids]
                exact List.map_congr_left fun z hz => (iso.goes (h z hz)).symm
              exact this _ hall
            · rename_i hall; rw [if_neg hall] at hi; cases hi)
        rw [iso.nil (fun _ _ => (0, false)) (fun _ _ => ⟨rfl, rfl, rfl⟩)] at this
        exact this
      have hto' : ∀ s, s ∈ x → s.To.length ≤ 20 := fun s hs => hto s (List.mem_append_left _ hs)
      have hmv : To (fun n => M.equivalence_Moved n u u (selfL u)) [] := iso.moved (by omega) (by omega) ok.l fun y hy => by
        obtain ⟨p, hp, he⟩ := par_in hy hn
        by_cases hr : (parR y.Id u).1 = u.Id
        · exact .inl ⟨hr, hr⟩
        · refine .inr ⟨hr, p, ?_, he.symm, he⟩
          rw [desc_kd] at hp
          rcases List.mem_cons.1 hp with rfl | hp
          · exact absurd he hr
          · exact hp
      refine To.bind (a := false) (To.bind h1 (To.neg (by simp) (To.bind h2 (To.pure.of (by simp))))) (To.neg (by simp) (To.bind (self_ok u (by omega)) ?_))
      have heq : To (fun n => M.equivalence_Equivalent n u u (selfL u) x x) true := by
        simp only [M.equivalence_Equivalent]
        exact To.bind (chk x hto') (To.pure.of (by simp))
      have hcw : To (fun n => M.equivalence_CheckWords n u u (selfL u)) [] := by
        simp only [M.equivalence_CheckWords]
        exact To.bind (chk [] (fun s hs => by cases hs)) To.pure
      exact To.bind heq (To.pos rfl (To.bind hcw (To.pos rfl (To.bind hmv (To.pos rfl (To.bind awake48 To.pure))))))
end Go.Proofs.Ytclepigknhoonaa
