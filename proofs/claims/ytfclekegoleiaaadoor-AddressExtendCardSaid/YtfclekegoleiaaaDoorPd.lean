/-
  Valid trees.
-/
import Derived.Test.YtfclekegoleiaaaDoorPc
set_option linter.unusedVariables false
set_option linter.unusedSimpArgs false
namespace Go.Proofs.YtfclekegoleiaaaDoor
open Go Go.Dec

theorem mget_mset {α β : Type} [DecidableEq α] (k : α) (v z : β) : ∀ (m : List (α × β)) (k' : α), mget (mset m k v) k' z = if k' = k then v else mget m k' z
  | [], k' => by
    by_cases h : k' = k <;> simp [mset, mget, h]
  | p :: m, k' => by
    by_cases hp : k = p.1
    · subst hp
      by_cases h : k' = p.1 <;> simp [mset, mget, h]
    · by_cases h : k' = k
      · subst h
        simp [mset, mget, hp, mget_mset]
      · simp [mset, mget, hp, mget_mset, h]
theorem mset_len {α β : Type} [DecidableEq α] (k : α) (v : β) : ∀ m : List (α × β), (mset m k v).length ≤ m.length + 1
  | [] => by simp [mset]
  | p :: m => by
    have := mset_len k v m
    simp only [mset]
    split <;> simp <;> omega

theorem apart_loop : ∀ (xs pre : List api_Id) (v : List (api_Id × Bool)), (∀ k, mget v k false = decide (k ∈ pre)) →
    (((∀ x, x ∈ xs → x ∉ pre) ∧ xs.Nodup) ∧ ∃ p, M.law07_apart_loop1 xs v = some (.inl p)) ∨ (¬ ((∀ x, x ∈ xs → x ∉ pre) ∧ xs.Nodup) ∧ M.law07_apart_loop1 xs v = some (.inr false))
  | [], pre, v, _ => .inl ⟨⟨fun x hx => (by cases hx), List.nodup_nil⟩, v, rfl⟩
  | x :: xs, pre, v, h => by
    simp only [M.law07_apart_loop1]
    by_cases hx : x ∈ pre
    · refine .inr ⟨fun ⟨a, _⟩ => a x (by simp) hx, ?_⟩
      rw [if_pos (by rw [h]; simp [hx])]
    · rw [if_neg (by rw [h]; simp [hx])]
      have h2 : ∀ k, mget (mset v x true) k false = decide (k ∈ x :: pre) := fun k => by
        rw [mget_mset, h]
        by_cases hk : k = x <;> simp [hk]
      have hiff : ((∀ y, y ∈ xs → y ∉ x :: pre) ∧ xs.Nodup) ↔ ((∀ y, y ∈ x :: xs → y ∉ pre) ∧ (x :: xs).Nodup) := by
        rw [List.nodup_cons]
        constructor
        · rintro ⟨a, b⟩
          refine ⟨fun y hy => ?_, fun hm => a x hm (by simp), b⟩
          rcases List.mem_cons.1 hy with rfl | hy
          · exact hx
          · exact fun hp => a y hy (by simp [hp])
        · rintro ⟨a, b, c⟩
          refine ⟨fun y hy hm => ?_, c⟩
          rcases List.mem_cons.1 hm with rfl | hm
          · exact b hy
          · exact a y (by simp [hy]) hm
      rcases apart_loop xs (x :: pre) (mset v x true) h2 with ⟨h3, p, h4⟩ | ⟨h3, h4⟩
      · exact .inl ⟨hiff.1 h3, p, h4⟩
      · exact .inr ⟨fun hh => h3 (hiff.2 hh), h4⟩

theorem apart_u (u : api_Unit) (hc : cnt u ≤ 10000) : ∃ b, To (fun n => M.law07_apart n u) b ∧ (b = true → (idsOf u).Nodup) := by
  simp only [M.law07_apart]
  rcases apart_loop (idsOf u) [] [] (fun k => by simp [mget]) with ⟨h, p, hp⟩ | ⟨h, hp⟩
  · exact ⟨true, To.bind (ids_u u hc) (To.bindS hp To.pure), fun _ => h.2⟩
  · exact ⟨false, To.bind (ids_u u hc) (To.bindS hp To.pure), fun h => by cases h⟩

theorem ids_tot_u (u : api_Unit) (hc : cnt u ≤ 10000) : Tot (fun n => M.unit_ids n u) := by
  have loop : ∀ (xs : List api_Id) (v : List (api_Id × Bool)), ∃ w, M.unit_ids_loop1 xs v = some w ∧ w.length ≤ v.length + xs.length := by
    intro xs
    induction xs with
    | nil => intro v; exact ⟨v, rfl, by simp⟩
    | cons x xs ih =>
      intro v
      obtain ⟨w, h1, h2⟩ := ih (mset v x true)
      have := mset_len x true v
      exact ⟨w, by simpa [M.unit_ids_loop1] using h1, by simp only [List.length_cons]; omega⟩
  obtain ⟨w, h1, h2⟩ := loop (idsOf u) []
  have hl := idsOf_len u
  have hg : growC (w.length : Int) = some () := by
    unfold growC
    rw [if_pos]
    simp only [List.length_nil] at h2
    omega
  simp only [M.unit_ids]
  refine Tot.bind (ids_u u hc).tot fun a ha => ?_
  rw [ha.det (ids_u u hc)]
  refine Tot.bindS h1 ?_
  refine Tot.ite (fun _ => Tot.bindS hg (Tot.ite (fun _ => Tot.pure) fun _ => Tot.bindS hg (Tot.ite (fun _ => Tot.pure) fun _ => Tot.pure))) (fun _ => Tot.bindS hg (Tot.ite (fun _ => Tot.pure) fun _ => Tot.pure))

theorem contains_i (l : List Int) (v : Int) : To (fun n => M.slices_Contains_int_int n l v) (decide (v ∈ l)) := by
  have loop : ∀ (xs : List Int) (i : Nat), l.drop i = xs → ∃ r, To (fun n => M.slices_Index_int_int_loop1 l v n (i : Int)) r ∧ ((v ∈ xs ∧ ∃ k : Nat, r = .inr (k : Int)) ∨ (v ∉ xs ∧ r = .inl ())) := by
    intro xs
    induction xs with
    | nil =>
      intro i hx
      refine ⟨.inl (), To.succ ?_, .inr ⟨by simp, rfl⟩⟩
      simp only [M.slices_Index_int_int_loop1]
      exact To.neg (drop_end hx) To.pure
    | cons x xs ih =>
      intro i hx
      by_cases hv : v = x
      · refine ⟨.inr (i : Int), To.succ ?_, .inl ⟨by simp [hv], i, rfl⟩⟩
        simp only [M.slices_Index_int_int_loop1]
        exact To.pos (drop_lt hx) (To.bindS (drop_idx hx) (To.pos hv To.pure))
      · obtain ⟨r, ht, hr⟩ := ih (i + 1) (drop_next hx)
        refine ⟨r, To.succ ?_, by simpa [hv] using hr⟩
        simp only [M.slices_Index_int_int_loop1]
        rw [cast_succ]
        exact To.pos (drop_lt hx) (To.bindS (drop_idx hx) (To.neg hv ht))
  obtain ⟨r, ht, hr⟩ := loop l 0 rfl
  simp only [M.slices_Contains_int_int, M.slices_Index_int_int]
  rcases hr with ⟨ha, k, rfl⟩ | ⟨ha, rfl⟩
  · refine To.bind (a := (k : Int)) (To.bind ht To.pure) (To.pure.of ?_)
    simp [ha]
  · refine To.bind (a := (-1 : Int)) (To.bind ht To.pure) (To.pure.of ?_)
    simp [ha]

theorem can_ok (p k : Int) : ∃ b, To (fun n => M.unit_CanContain n p k) b ∧ (b = true → k ≠ 0) := by
  simp only [M.unit_CanContain]
  by_cases h0 : 0 ≤ p
  · by_cases h8 : p < 8
    · obtain ⟨m, rfl⟩ : ∃ m : Nat, p = (m : Int) := ⟨p.toNat, by omega⟩
      have hm : m = 0 ∨ m = 1 ∨ m = 2 ∨ m = 3 ∨ m = 4 ∨ m = 5 ∨ m = 6 ∨ m = 7 := by omega
      have key : ∃ l, idx gv1 (m : Int) = some l ∧ (0 : Int) ∉ l := by
        rcases hm with rfl | rfl | rfl | rfl | rfl | rfl | rfl | rfl <;> exact ⟨_, rfl, by decide⟩
      obtain ⟨l, hl, hn⟩ := key
      refine ⟨decide (k ∈ l), To.pos h0 (To.pos h8 (To.bindS hl (To.bind (contains_i l k) To.pure))), fun h => ?_⟩
      have := of_decide_eq_true h
      intro e
      rw [e] at this
      exact hn this
    · exact ⟨false, To.pos h0 (To.neg h8 To.pure), fun h => by cases h⟩
  · exact ⟨false, To.neg h0 To.pure, fun h => by cases h⟩

theorem row_u (l : List api_Word) (hl : l.length ≤ 100000) : Tot (fun n => M.unit_row n l) := by
  have loop : ∀ (xs : List api_Word) (ts : List Str), ts.length + xs.length ≤ 100000 → ∃ r, M.unit_row_loop1 xs ts = some r := by
    intro xs
    induction xs with
    | nil => intro ts _; exact ⟨ts, rfl⟩
    | cons x xs ih =>
      intro ts h
      simp only [List.length_cons] at h
      simp only [M.unit_row_loop1]
      rw [appC_eq (by simp; omega), Option.bind_some]
      exact ih _ (by simp; omega)
  obtain ⟨r, hr⟩ := loop l [] (by simpa using hl)
  simp only [M.unit_row]
  exact Tot.bindS hr (Tot.ite (fun _ => Tot.bind (valid_w r).tot fun _ _ => Tot.pure) fun _ => Tot.pure)

theorem kind_name (k : Int) : ∃ s, M.unit_KindName k = some s ∧ (s ≠ [] → 0 ≤ k ∧ k ≤ 7) := by
  simp only [M.unit_KindName]
  by_cases h0 : k < 0
  · exact ⟨[], by rw [if_pos h0], fun h => absurd rfl h⟩
  · by_cases h8 : 8 ≤ k
    · exact ⟨[], by rw [if_neg h0, if_pos h8], fun h => absurd rfl h⟩
    · obtain ⟨m, rfl⟩ : ∃ m : Nat, k = (m : Int) := ⟨k.toNat, by omega⟩
      have hm : m = 0 ∨ m = 1 ∨ m = 2 ∨ m = 3 ∨ m = 4 ∨ m = 5 ∨ m = 6 ∨ m = 7 := by omega
      have key : ∃ s, idx gv0 (m : Int) = some s := by
        rcases hm with rfl | rfl | rfl | rfl | rfl | rfl | rfl | rfl <;> exact ⟨_, rfl⟩
      obtain ⟨s, hs⟩ := key
      exact ⟨s, by rw [if_neg h0, if_neg h8, hs]; rfl, fun _ => ⟨by omega, by omega⟩⟩

theorem alone_kids (u : api_Unit) : ∀ (xs pre : List api_Unit) (v : List (unit_called × Bool)), (∀ k, mget v k false = pre.any fun y => decide (k = (⟨y.Kind, y.Label⟩ : unit_called))) →
    ∃ r, To (fun n => M.unit_alone_loop1 n u xs v) r ∧ (r = .inr false ∨ ((∃ p, r = .inl p) ∧ (∀ k, k ∈ xs → k.Kind ≠ 0) ∧ (∀ k, k ∈ xs → ∀ y, y ∈ pre → ¬ (y.Kind = k.Kind ∧ y.Label = k.Label)) ∧ xs.Pairwise (fun a b => ¬ (a.Kind = b.Kind ∧ a.Label = b.Label))))
  | [], pre, v, _ => ⟨.inl v, by simp only [M.unit_alone_loop1]; exact To.pure, .inr ⟨⟨v, rfl⟩, fun k hk => (by cases hk), fun k hk => (by cases hk), List.Pairwise.nil⟩⟩
  | x :: xs, pre, v, h => by
    obtain ⟨b, hb, hb0⟩ := can_ok u.Kind x.Kind
    simp only [M.unit_alone_loop1]
    cases b with
    | false => exact ⟨.inr false, To.bind hb (To.pos rfl To.pure), .inl rfl⟩
    | true =>
      by_cases hx : mget v (⟨x.Kind, x.Label⟩ : unit_called) false = true
      · exact ⟨.inr false, To.bind hb (To.neg (by simp) (To.pos hx To.pure)), .inl rfl⟩
      · have h2 : ∀ k, mget (mset v (⟨x.Kind, x.Label⟩ : unit_called) true) k false = (pre ++ [x]).any fun y => decide (k = (⟨y.Kind, y.Label⟩ : unit_called)) := fun k => by
          rw [mget_mset, h, List.any_append]
          by_cases hk : k = (⟨x.Kind, x.Label⟩ : unit_called) <;> simp [hk]
        obtain ⟨r, hr, hc⟩ := alone_kids u xs (pre ++ [x]) _ h2
        refine ⟨r, To.bind hb (To.neg (by simp) (To.neg hx hr)), hc.imp id fun ⟨h3, h4, h5, h6⟩ => ⟨h3, fun k hk => ?_, fun k hk y hy => ?_, List.pairwise_cons.2 ⟨fun k hk => h5 k hk x (by simp), h6⟩⟩⟩
        · rcases List.mem_cons.1 hk with rfl | hk
          · exact hb0 rfl
          · exact h4 k hk
        · rcases List.mem_cons.1 hk with rfl | hk
          · rintro ⟨e1, e2⟩
            apply hx
            rw [h, List.any_eq_true]
            exact ⟨y, hy, by rw [e1, e2]; simp⟩
          · exact h5 k hk y (by simp [hy])

theorem alone_u (u : api_Unit) (hl : u.Label.length ≤ 5000 ∧ u.Head.length ≤ 5000 ∧ u.Words.length ≤ 5000) : ∃ b, To (fun n => M.unit_alone n u) b ∧ (b = true → Fine u) := by
  obtain ⟨l1, l2, l3⟩ := hl
  obtain ⟨r, hr, hc⟩ := alone_kids u u.Kids [] [] (fun k => by simp [mget])
  -- what comes first
  have first : ∃ c : Unit ⊕ Bool, To (fun n => (if u.Kind = (0 : Int) then (if (u.Label != ([] : Str)) = true then some (.inr false) else Option.bind (addC (u.Head.length : Int) (u.Words.length : Int)) fun v => if (0 : Int) < v then some (.inr false) else some (.inl ()))
      else Option.bind (M.unit_KindName u.Kind) fun kindna => if (kindna == ([] : Str)) = true then some (.inr false) else Option.bind (M.label_Valid n u.Label) fun valid => if valid = false then some (.inr false) else
        Option.bind (M.unit_row n u.Head) fun row => if row = false then some (.inr false) else Option.bind (M.unit_row n u.Words) fun row1 => if row1 = false then some (.inr false) else some (.inl ()) : Option (Unit ⊕ Bool))) c ∧
      (c = .inr false ∨ (c = .inl () ∧ (0 ≤ u.Kind ∧ u.Kind ≤ 7) ∧ (u.Kind ≠ 0 → labB u.Label = true))) := by
    by_cases h0 : u.Kind = 0
    · by_cases hlb : u.Label = []
      · by_cases hw : (0 : Int) < (u.Head.length : Int) + (u.Words.length : Int)
        · exact ⟨.inr false, To.pos h0 (To.neg (by simp [hlb]) (To.bindS (addC_eq (by omega) (by omega)) (To.pos hw To.pure))), .inl rfl⟩
        · exact ⟨.inl (), To.pos h0 (To.neg (by simp [hlb]) (To.bindS (addC_eq (by omega) (by omega)) (To.neg hw To.pure))), .inr ⟨rfl, by omega, fun h => absurd h0 h⟩⟩
      · exact ⟨.inr false, To.pos h0 (To.pos (by simp [hlb]) To.pure), .inl rfl⟩
    · obtain ⟨s, hs, hs0⟩ := kind_name u.Kind
      by_cases hse : s = []
      · exact ⟨.inr false, To.neg h0 (To.bindS hs (To.pos (by simp [hse]) To.pure)), .inl rfl⟩
      · have hk := hs0 hse
        cases hlab : labB u.Label with
        | false =>
          have hlo := label_ok u.Label
          rw [hlab] at hlo
          exact ⟨.inr false, To.neg h0 (To.bindS hs (To.neg (by simp [hse]) (To.bind hlo (To.pos rfl To.pure)))), .inl rfl⟩
        | true =>
          have hlo := label_ok u.Label
          rw [hlab] at hlo
          obtain ⟨a, ha⟩ := row_u u.Head (by omega)
          obtain ⟨b, hb⟩ := row_u u.Words (by omega)
          cases a with
          | false => exact ⟨.inr false, To.neg h0 (To.bindS hs (To.neg (by simp [hse]) (To.bind hlo (To.neg (by simp) (To.bind ha (To.pos rfl To.pure)))))), .inl rfl⟩
          | true =>
            cases b with
            | false => exact ⟨.inr false, To.neg h0 (To.bindS hs (To.neg (by simp [hse]) (To.bind hlo (To.neg (by simp) (To.bind ha (To.neg (by simp) (To.bind hb (To.pos rfl To.pure)))))))), .inl rfl⟩
            | true => exact ⟨.inl (), To.neg h0 (To.bindS hs (To.neg (by simp [hse]) (To.bind hlo (To.neg (by simp) (To.bind ha (To.neg (by simp) (To.bind hb (To.neg (by simp) To.pure)))))))), .inr ⟨rfl, hk, fun _ => rfl⟩⟩
  obtain ⟨c, hcT, hcc⟩ := first
  simp only [M.unit_alone]
  rcases hcc with rfl | ⟨rfl, hk, hlab⟩
  · exact ⟨false, To.bind hcT To.pure, fun h => by cases h⟩
  · rcases hc with rfl | ⟨⟨p, rfl⟩, h4, _, h6⟩
    · exact ⟨false, To.bind hcT (To.bind hr To.pure), fun h => by cases h⟩
    · refine ⟨decide ((u.Kids.length : Int) ≤ 64), To.bind hcT (To.bind hr To.pure), fun _ => ⟨hk, hlab, h4, fun i j hi hj hij => ?_⟩⟩
      exact List.pairwise_iff_getElem.1 h6 i j hi hj hij

theorem every0 (u : api_Unit) : labs u → ∃ b, To (fun n => M.unit_every_i0 n u) b ∧ (b = true → ∀ x, x ∈ desc u → Fine x) := by
  refine uind (P := fun u => labs u → ∃ b, To (fun n => M.unit_every_i0 n u) b ∧ (b = true → ∀ x, x ∈ desc u → Fine x)) ?_ u
  intro u ih hl
  obtain ⟨a, ha, hf⟩ := alone_u u (hl u (desc_self u))
  have loop : ∀ (xs : List api_Unit) (slf : Nat → api_Unit → Option Bool), (∀ k, k ∈ xs → ∃ b, To (fun n => slf n k) b ∧ (b = true → ∀ x, x ∈ desc k → Fine x)) →
      ∃ r, To (fun n => M.unit_every_i0_loop1 (slf n) xs) r ∧ (r = .inr false ∨ (r = .inl () ∧ ∀ k, k ∈ xs → ∀ x, x ∈ desc k → Fine x)) := by
    intro xs
    induction xs with
    | nil => intro slf _; exact ⟨.inl (), by simp only [M.unit_every_i0_loop1]; exact To.pure, .inr ⟨rfl, fun k hk => by cases hk⟩⟩
    | cons x xs ih =>
      intro slf hs
      obtain ⟨b, hb, hbf⟩ := hs x (by simp)
      simp only [M.unit_every_i0_loop1]
      cases b with
      | false => exact ⟨.inr false, To.bind hb (To.pos rfl To.pure), .inl rfl⟩
      | true =>
        obtain ⟨r, hr, hc⟩ := ih slf fun k hk => hs k (by simp [hk])
        refine ⟨r, To.bind hb (To.neg (by simp) hr), hc.imp id fun ⟨h1, h2⟩ => ⟨h1, fun k hk => ?_⟩⟩
        rcases List.mem_cons.1 hk with rfl | hk
        · exact hbf rfl
        · exact h2 k hk
  obtain ⟨r, hr, hc⟩ := loop u.Kids (fun n => M.unit_every_i0 n) fun k hk => ih k hk (labs_kid hl hk)
  cases a with
  | false =>
    refine ⟨false, To.succ ?_, fun h => by cases h⟩
    simp only [M.unit_every_i0]
    exact To.bind ha (To.pos rfl To.pure)
  | true =>
    rcases hc with rfl | ⟨rfl, h2⟩
    · refine ⟨false, To.succ ?_, fun h => by cases h⟩
      simp only [M.unit_every_i0]
      exact To.bind ha (To.neg (by simp) (To.bind hr To.pure))
    · refine ⟨true, To.succ ?_, fun _ x hx => ?_⟩
      · simp only [M.unit_every_i0]
        exact To.bind ha (To.neg (by simp) (To.bind hr To.pure))
      · rw [desc_eq] at hx
        rcases List.mem_cons.1 hx with rfl | hx
        · exact hf rfl
        · obtain ⟨k, hk, hxk⟩ := List.mem_flatMap.1 hx
          exact h2 k hk x hxk

theorem valid_u (u : api_Unit) (hc : cnt u ≤ 10000) (hl : labs u) : ∃ b, To (fun n => M.unit_Valid n u) b ∧ (b = true → (∀ x, x ∈ desc u → Fine x) ∧ deep u ≤ 8) := by
  obtain ⟨a, ha, hf⟩ := every0 u hl
  have hd := (depth_u u (by omega)).2
  have hn := count_u u hc
  obtain ⟨i, hi⟩ := ids_tot_u u hc
  simp only [M.unit_Valid]
  cases a with
  | false => exact ⟨false, To.bind ha (To.neg (by simp) To.pure), fun h => by cases h⟩
  | true =>
    by_cases h8 : (deep u : Int) ≤ 8
    · by_cases h9 : (cnt u : Int) ≤ 1024
      · exact ⟨i, To.bind ha (To.pos rfl (To.bind hd (To.pos h8 (To.bind hn (To.pos h9 (To.bind hi To.pure)))))), fun _ => ⟨hf rfl, by omega⟩⟩
      · exact ⟨false, To.bind ha (To.pos rfl (To.bind hd (To.pos h8 (To.bind hn (To.neg h9 To.pure))))), fun h => by cases h⟩
    · exact ⟨false, To.bind ha (To.pos rfl (To.bind hd (To.neg h8 To.pure))), fun h => by cases h⟩
end Go.Proofs.YtfclekegoleiaaaDoor
