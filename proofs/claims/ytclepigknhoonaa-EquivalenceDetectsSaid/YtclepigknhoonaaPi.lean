/-
  Chapter 48: the law Detects.
-/
import Derived.Test.YtclepigknhoonaaPh
set_option linter.unusedVariables false
set_option linter.unusedSimpArgs false
namespace Go.Proofs.Ytclepigknhoonaa
open Go Go.Dec

def withF (z : api_Unit) (u : api_Unit) : api_Unit := if u.Id = z.Id then { z with Kids := u.Kids } else { u with Kids := u.Kids.attach.map (fun k => withF z k.1) }
termination_by SizeOf.sizeOf u
decreasing_by exact kid_lt k.2

theorem withF_eq (z u : api_Unit) : withF z u = if u.Id = z.Id then { z with Kids := u.Kids } else { u with Kids := u.Kids.map (withF z) } := by
  rw [withF]
  have : ∀ l : List api_Unit, l.attach.map (fun k => withF z k.1) = l.map (withF z) := by
    intro l
    conv => rhs; rw [← List.attach_map_subtype_val l, List.map_map]
    rfl
  rw [this]

theorem with_ok (z u : api_Unit) : cnt u ≤ 1000000 → To (fun n => M.r08_With n u z) (withF z u) := by
  refine uind (P := fun u => cnt u ≤ 1000000 → To (fun n => M.r08_With n u z) (withF z u)) ?_ u
  intro u ih hc
  have loop : ∀ (xs : List api_Unit) (slf : Nat → api_Unit → api_Unit → Option api_Unit) (i : Nat) (out : List api_Unit), u.Kids.drop i = xs → (∀ k, k ∈ xs → To (fun n => slf n k z) (withF z k)) → out.length + xs.length ≤ 1000000 →
      To (fun n => M.r08_With_loop1 u z (slf n) n out (i : Int)) (out ++ xs.map (withF z)) := by
    intro xs
    induction xs with
    | nil =>
      intro slf i out hx _ _
      refine To.succ ?_
      simp only [M.r08_With_loop1]
      exact To.neg (drop_end hx) (To.pure.of (by simp))
    | cons x xs ihx =>
      intro slf i out hx hs hb
      simp only [List.length_cons] at hb
      refine To.succ ?_
      simp only [M.r08_With_loop1]
      refine To.pos (drop_lt hx) (To.bindS (drop_idx hx) (To.bind (hs x (by simp)).shift (To.bindS (appC_eq (by simp; omega)) ?_)))
      rw [cast_succ]
      refine (ihx (fun n => slf (n + 1)) (i + 1) _ (drop_next hx) (fun k hk => (hs k (by simp [hk])).shift) (by simp; omega)).of ?_
      simp
  refine To.succ ?_
  simp only [M.r08_With]
  rw [withF_eq]
  by_cases h : u.Id = z.Id
  · rw [if_pos h]; exact To.pos h To.pure
  · rw [if_neg h]
    have hk := cnt_kids u
    refine To.neg h (To.bind (loop u.Kids (fun n => M.r08_With n) 0 [] rfl (fun k hk => ih k hk (by have := cnt_kid hk; omega)) (by simp; omega)) (To.pure.of (by simp)))

theorem with_id (z u : api_Unit) : (withF z u).Id = u.Id := by
  rw [withF_eq]
  split
  · rename_i h; exact h.symm
  · rfl

theorem with_none (z u : api_Unit) : (∀ y ∈ desc u, y.Id ≠ z.Id) → withF z u = u := by
  refine uind (P := fun u => (∀ y ∈ desc u, y.Id ≠ z.Id) → withF z u = u) ?_ u
  intro u ih h
  rw [withF_eq, if_neg (h u (desc_self u))]
  have : u.Kids.map (withF z) = u.Kids := by
    conv => rhs; rw [← List.map_id u.Kids]
    exact List.map_congr_left fun k hk => ih k hk fun y hy => h y (desc_kid hk hy)
  rw [this]
  cases u; rfl

theorem with_desc (z u : api_Unit) : ((desc u).map api_Unit.Id).Nodup → desc (withF z u) = (desc u).map (withF z) := by
  refine uind (P := fun u => ((desc u).map api_Unit.Id).Nodup → desc (withF z u) = (desc u).map (withF z)) ?_ u
  intro u ih hn
  by_cases h : u.Id = z.Id
  · have hk : (kd u).map (withF z) = kd u := by
      conv => rhs; rw [← List.map_id (kd u)]
      refine List.map_congr_left fun y hy => with_none z y fun w hw e => ?_
      have hyk : ∃ k ∈ u.Kids, y ∈ desc k := List.mem_flatMap.1 hy
      obtain ⟨k, hk, hyk⟩ := hyk
      exact (nodup_kd hn).2 w (List.mem_flatMap.2 ⟨k, hk, desc_sub hyk w hw⟩) (e.trans h.symm)
    rw [desc_kd u, List.map_cons, hk]
    have e : withF z u = { z with Kids := u.Kids } := by rw [withF_eq, if_pos h]
    rw [e, desc_eq]; rfl
  · have e : withF z u = { u with Kids := u.Kids.map (withF z) } := by rw [withF_eq, if_neg h]
    rw [desc_eq u, List.map_cons, List.map_flatMap]
    rw [e, desc_eq, List.flatMap_map]
    congr 1
    have hcg : ∀ l : List api_Unit, (∀ k ∈ l, desc (withF z k) = (desc k).map (withF z)) → l.flatMap (fun a => desc (withF z a)) = l.flatMap (fun a => (desc a).map (withF z)) := by
      intro l
      induction l with
      | nil => intro _; rfl
      | cons k l ihl => intro hl; rw [List.flatMap_cons, List.flatMap_cons, hl k (List.mem_cons_self ..), ihl fun k' hk' => hl k' (List.mem_cons_of_mem _ hk')]
    exact hcg u.Kids fun k hk => ih k hk (nodup_kid hn hk)

theorem flat_one {α β γ : Type} [DecidableEq β] (h : α → β) (c : γ) : ∀ {l : List α} {x : α}, (l.map h).Nodup → x ∈ l → l.flatMap (fun y => if h y = h x then [c] else []) = [c] := by
  intro l x hn hx
  have : ∀ l : List α, l.flatMap (fun y => if h y = h x then [c] else []) = (l.filter (fun y => decide (h y = h x))).map (fun _ => c) := by
    intro l
    induction l with
    | nil => rfl
    | cons a l ih =>
      rw [List.flatMap_cons, ih]
      by_cases e : h a = h x
      · simp [e]
      · simp [e]
  rw [this, fil_one h hn hx]; rfl

theorem lcp_more (w : List Str) (s : Str) : lcp w (w ++ [s]) = w.length := by
  induction w with
  | nil => rfl
  | cons a w ih => simp [lcp, ih]

abbrev moreW : api_Word := ⟨[109, 111, 114, 101], zapi_Mark⟩

theorem detects_true (u : api_Unit) (i : Int) (hi : 0 ≤ i ∧ i ≤ 255) : ∃ n, M.law48_EquivalenceDetects n u i = some true := by
  refine To.ex ?_
  simp only [M.law48_EquivalenceDetects]
  have fin : To (fun n => Option.bind (M.law48_awake n) fun awake => some awake) true := To.bind awake48 To.pure
  obtain ⟨r, h1, k1⟩ := heavy_ok u u [] [] [] (by simp)
  cases r with
  | true => exact To.bind (a := true) (To.bind h1 (To.pos rfl To.pure)) (To.pos rfl fin)
  | false =>
    obtain ⟨ok, _, _, _, _⟩ := k1 rfl
    have hc := ok.c
    obtain ⟨r, h2, k2⟩ := once_ok u (by omega)
    cases r with
    | false => exact To.bind (a := true) (To.bind h1 (To.neg (by simp) (To.bind h2 (To.pos rfl To.pure)))) (To.pos rfl fin)
    | true =>
      have hn := k2 rfl
      by_cases hk0 : (u.Kids.length : Int) = 0
      · exact To.bind (a := true) (To.bind h1 (To.neg (by simp) (To.bind h2 (To.neg (by simp) (To.pure.of (by simpa using hk0)))))) (To.pos rfl fin)
      refine To.bind (a := false) (To.bind h1 (To.neg (by simp) (To.bind h2 (To.neg (by simp) (To.pure.of (by simpa using hk0)))))) (To.neg (by simp) ?_)
      have hkl := kd_len u
      have hkp : 1 ≤ (kd u).length := by
        have h0 : 0 < u.Kids.length := by omega
        have := cnt_kids u
        omega
      have hdl : (desc u).length = cnt u := rfl
      refine To.bind (units_ok u (by omega)) ?_
      have hs : subC ((desc u).length : Int) (1 : Int) = some (((kd u).length : Nat) : Int) := by rw [subC_eq (by omega) (by omega)]; congr 1; omega
      have ht0 : 0 ≤ i.tmod ((kd u).length : Int) := Int.tmod_nonneg _ hi.1
      have ht1 : i.tmod ((kd u).length : Int) < ((kd u).length : Int) := Int.tmod_lt_of_pos _ (by omega)
      have hr : remC i (((kd u).length : Nat) : Int) = some (i.tmod ((kd u).length : Int)) := by
        unfold remC
        rw [if_pos ⟨by omega, by simp [fits64]; omega⟩]
      obtain ⟨j, hj⟩ : ∃ j : Nat, i.tmod ((kd u).length : Int) = (j : Int) := ⟨_, (Int.toNat_of_nonneg ht0).symm⟩
      rw [hj] at ht1 hr
      have hjl : j < (kd u).length := by omega
      have ha : addC (1 : Int) (j : Int) = some ((j + 1 : Nat) : Int) := by rw [addC_eq (by omega) (by omega)]; congr 1; omega
      have hx : idx (desc u) ((j + 1 : Nat) : Int) = some (kd u)[j] := by
        rw [idx_nat, desc_kd, List.getElem?_cons_succ, List.getElem?_eq_getElem hjl]
      have hxm : (kd u)[j] ∈ kd u := List.getElem_mem hjl
      generalize hxe : (kd u)[j] = x at hx hxm
      refine To.bindS hs (To.bindS hr (To.bindS ha (To.bindS hx ?_)))
      have hxw := ok.f x (kd_desc hxm)
      have hap1 : appC ([] : List api_Word) x.Words = some x.Words := by rw [appC_eq (by simp; omega)]; rfl
      have hap2 : appC x.Words [moreW] = some (x.Words ++ [moreW]) := appC_eq (by simp; omega)
      refine To.bindS hap1 (To.bindS hap2 ?_)
      let z : api_Unit := { x with Words := x.Words ++ [moreW] }
      let b : api_Unit := withF z u
      have hb : To (fun n => M.r08_With n u z) b := with_ok z u (by omega)
      have hdesc : desc b = (desc u).map (withF z) := with_desc z u hn
      have hid : b.Id = u.Id := with_id z u
      have hkdb : kd b = (kd u).map (withF z) := by
        have := hdesc
        rw [desc_kd, desc_kd u, List.map_cons] at this
        exact (List.cons.inj this).2
      have hids : (desc b).map api_Unit.Id = (desc u).map api_Unit.Id := by
        rw [hdesc, List.map_map]
        exact List.map_congr_left fun y _ => with_id z y
      have iso : Iso u b id (withF z) (selfL u) := ⟨hkdb, fun y _ => with_id z y, hn, by rw [hids]; exact hn, rfl⟩
      have hcb : cnt b = cnt u := by unfold cnt; rw [hdesc, List.length_map]
      have hz : ∀ y ∈ desc u, y.Id = x.Id → withF z y = z ∧ y = x := fun y hy he => by
        have := nodup_eq hn hy (kd_desc hxm) he
        subst this
        exact ⟨by rw [withF_eq, if_pos rfl], rfl⟩
      have hnz : ∀ y, y.Id ≠ x.Id → (withF z y).Kind = y.Kind ∧ (withF z y).Label = y.Label ∧ (withF z y).Head = y.Head ∧ (withF z y).Words = y.Words := fun y he => by
        rw [withF_eq, if_neg he]; exact ⟨rfl, rfl, rfl, rfl⟩
      have hlb : labs b := fun v hv => by
        rw [hdesc] at hv
        obtain ⟨y, hy, rfl⟩ := List.mem_map.1 hv
        have := ok.l y hy
        by_cases he : y.Id = x.Id
        · obtain ⟨e1, e2⟩ := hz y hy he
          subst e2
          rw [e1]
          have h3 := (ok.f y hy).1
          exact ⟨this.1, this.2.1, by show (y.Words ++ [moreW]).length ≤ 5000; simp; omega⟩
        · obtain ⟨e1, e2, e3, e4⟩ := hnz y he
          rw [e2, e3, e4]; exact this
      have hfb : fineT b := fun v hv => by
        rw [hdesc] at hv
        obtain ⟨y, hy, rfl⟩ := List.mem_map.1 hv
        have := ok.f.t y hy
        by_cases he : y.Id = x.Id
        · obtain ⟨e1, e2⟩ := hz y hy he
          subst e2
          rw [e1]
          intro w hw
          rcases List.mem_append.1 (show w ∈ y.Words ++ [moreW] from hw) with hw | hw
          · exact this w hw
          · rw [List.mem_singleton.1 hw]; decide
        · rw [(hnz y he).2.2.2]; exact this
      have hll : (selfL u).length ≤ 10000 := by simp [selfL]; omega
      have hcw := cw_ok u b (selfL u) (by omega) ok.l ok.f.t (by omega) hlb hfb hll
      let F : api_Finding := ⟨(x.Words.length : Int), x.Id, 2, sWords⟩
      have hflaw : ∀ y ∈ kd u, fl (flawF Dw b (selfL u) y) = if y.Id = x.Id then [F] else [] := fun y hy => by
        have hgo := iso.go hy
        obtain ⟨hfi, _⟩ := iso.find hy
        have hfr : findR (id y.Id) b = (withF z y, true) := by unfold findR; rw [hfi]
        by_cases he : y.Id = x.Id
        · rw [if_pos he]
          obtain ⟨e1, e2⟩ := hz y (kd_desc hy) he
          subst e2
          have hdw : Dw y (withF z y) = ((y.Words.length : Int), true) := by
            rw [e1]
            unfold Dw difP
            have hw : tx z.Words = tx y.Words ++ [([109, 111, 114, 101] : Str)] := by show tx (y.Words ++ [moreW]) = _; simp [tx]
            rw [hw, if_neg (by
              intro e
              have := congrArg List.length e
              simp at this), lcp_more]
            simp [tx]
          have : flawF Dw b (selfL u) y = F := by
            unfold flawF
            simp only [iso.dst hy, hgo, hfr, hdw]
            rw [e1]
            simp [z, F]
          rw [this]; rfl
        · rw [if_neg he]
          rw [flaw_nil]
          obtain ⟨q1, q2, q3, q4⟩ := hnz y he
          obtain ⟨f1, f2⟩ := iso.find hy
          have hg := with_id z y
          refine ⟨withF z y, by rw [iso.dst hy, hg]; rfl, iso.img hy, by rw [hg]; exact f1, by rw [hg]; exact f2, q1.symm, by rw [q3], dw_false.2 (by rw [q4])⟩
      have hchk : checkF Dw u b (selfL u) = [F] := by
        unfold checkF
        have hA : (kd u).flatMap (fun y => fl (flawF Dw b (selfL u) y)) = [F] := by
          have hcg : ∀ l : List api_Unit, (∀ y ∈ l, fl (flawF Dw b (selfL u) y) = if y.Id = x.Id then [F] else []) → l.flatMap (fun y => fl (flawF Dw b (selfL u) y)) = l.flatMap (fun y => if y.Id = x.Id then [F] else []) := by
            intro l
            induction l with
            | nil => intro _; rfl
            | cons k l ihl => intro hl; rw [List.flatMap_cons, List.flatMap_cons, hl k (List.mem_cons_self ..), ihl fun k' hk' => hl k' (List.mem_cons_of_mem _ hk')]
          rw [hcg (kd u) hflaw]
          exact flat_one api_Unit.Id F (nodup_kd hn).1 hxm
        have hB : (kd b).flatMap (chk3 (selfL u)) = [] := by
          rw [List.flatMap_eq_nil_iff]
          intro v hv
          exact (chk3_nil _ _).2 (iso.src hv)
        rw [hA, hB, (unk_nil u (selfL u) 0).2 iso.from]; rfl
      rw [hchk] at hcw
      refine To.bind hb (To.bind (self_ok u (by omega)) (To.bind hcw (To.pos rfl (To.bindS idx_zero (To.pos rfl fin)))))
end Go.Proofs.Ytclepigknhoonaa
