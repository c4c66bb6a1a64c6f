import Derived.Test.YtkobngongonplaaGreatDoorPd
/-
  The laws of a journal: the examples, and the errors.
-/
set_option linter.unusedVariables false
set_option linter.unusedSimpArgs false
namespace Go.Proofs.YtkobngongonplaaGreatDoor
open Go Go.Dec
theorem crash_ok {s : pagestore_Store} {l : Nat} (hl : s.lasting_ = (l : Int)) (h : l ≤ s.pages_.length) (hp : s.pages_.length ≤ 1000000) (keep : Int) :
    ∃ k : Nat, (k : Int) = l + min (max keep 0) ((s.pages_.length : Int) - l) ∧ l ≤ k ∧ k ≤ s.pages_.length ∧ M.pagestore_Store_Crash s keep = some (⟨s.pages_.take k, (k : Int), s.root_, -1, false⟩ : pagestore_Store) := by
  refine ⟨(l + min (max keep 0) ((s.pages_.length : Int) - l)).toNat, by omega, by omega, by omega, ?_⟩
  unfold M.pagestore_Store_Crash
  rw [hl, subC_eq (by omega) (by omega), Option.bind_some, addC_eq (by omega) (by omega), Option.bind_some]
  have e : slcHi s.pages_ ((l : Int) + min (max keep 0) ((s.pages_.length : Int) - l)) = some (s.pages_.take ((l : Int) + min (max keep 0) ((s.pages_.length : Int) - l)).toNat) := by unfold slcHi; rw [if_pos ⟨by omega, by omega⟩]
  rw [e, Option.bind_some]
  unfold M.slices_Clone_string_string
  rw [appC_eq (by simp; omega)]
  simp only [Option.bind_some, List.nil_append, List.length_take]
  congr 2
  omega
def s0 : pagestore_Store := ⟨[], 0, -1, -1, false⟩
def j0 : journal_Journal := ⟨(), [], 0, m0⟩
theorem new_eq : M.pagestore_New = some (some s0) := rfl
theorem open_new : To (fun n => M.journal_Open n s0) (some j0, 0) := open_store (s := s0) rfl rfl Holds.nil (by decide)
theorem cutP_one {t : Str} (h : t.length ≤ 16320) : (cutP t).length = 1 := by rw [cutP_le h]; rfl
theorem app_one {j : journal_Journal} {s : pagestore_Store} {t : Str} (h : Holds s.pages_ j.last_ j.texts_) (hd : s.down_ = false) (hf : s.fuse_ = -1) (hj : j.texts_.length ≤ 1000) (ht : t.length ≤ 16320) (hp : s.pages_.length < 4000) :
    ∃ p m, To (fun n => M.journal_Journal_Append n j s t) (((j.texts_.length : Int), 0), (⟨(), j.texts_ ++ [t], j.lasting_, m⟩ : journal_Journal), (⟨s.pages_ ++ [p], s.lasting_, s.root_, -1, false⟩ : pagestore_Store)) ∧ Holds (s.pages_ ++ [p]) m (j.texts_ ++ [t]) ∧ m.page_ = (s.pages_.length : Int) := by
  have hc := cutP_one ht
  have h1 := jappend_ok (j := j) (s := s) (t := t) (by omega) (by omega) h.ok hd (by omega) (.inl (by omega)) (by omega)
  have h2 := h.add (t := t) (by omega) (by omega)
  have h3 := wr_len (pts (cutP t)) j.last_ s.pages_.length
  rw [pts_len, hc] at h3
  have h4 := wr_last (cutP t) (cutP_ne t) j.last_ s.pages_.length
  obtain ⟨p, hw⟩ : ∃ p, (wr j.last_ s.pages_.length (pts (cutP t))).1 = [p] := List.length_eq_one_iff.1 h3
  refine ⟨p, (wr j.last_ s.pages_.length (pts (cutP t))).2, h1.of ?_, by rw [← hw]; exact h2, by rw [h4]; omega⟩
  rw [hw, hd, hf]
  rfl
theorem at_ok {j : journal_Journal} {s : pagestore_Store} {k : Nat} {t : Str} (h : j.texts_[k]? = some t) : M.journal_Journal_At j s (k : Int) = some (t, 0) := by
  have hk := (List.getElem?_eq_some_iff.1 h).1
  unfold M.journal_Journal_At
  rw [if_neg (by omega)]
  simp only [Option.bind_some]
  rw [if_neg (by simpa using hk), idx_nat, h]
  rfl
theorem at_out {j : journal_Journal} {s : pagestore_Store} {k : Int} (h : k < 0 ∨ (j.texts_.length : Int) ≤ k) : M.journal_Journal_At j s k = some ([], 3) := by
  unfold M.journal_Journal_At
  by_cases h0 : k < 0
  · rw [if_pos h0]
    simp only [Option.bind_some]
    rw [if_pos trivial]
  · rw [if_neg h0]
    simp only [Option.bind_some]
    rw [if_pos (by simpa using h.resolve_left h0)]
theorem awake14 : To (fun n => M.law14_awake n) true := by
  obtain ⟨p1, q1, a1, b1, c1⟩ := app_one (j := j0) (s := s0) (t := [97]) Holds.nil rfl rfl (by decide) (by decide) (by decide)
  have a1 : To (fun n => M.journal_Journal_Append n j0 s0 [97]) ((0, 0), (⟨(), [[97]], 0, q1⟩ : journal_Journal), (⟨[p1], 0, -1, -1, false⟩ : pagestore_Store)) := a1
  have b1 : Holds [p1] q1 [[97]] := b1
  have c1 : q1.page_ = 0 := c1
  have cm : M.journal_Journal_Commit (⟨(), [[97]], 0, q1⟩ : journal_Journal) (⟨[p1], 0, -1, -1, false⟩ : pagestore_Store) = some (0, (⟨(), [[97]], 1, q1⟩ : journal_Journal), (⟨[p1], 1, q1.page_, -1, false⟩ : pagestore_Store)) :=
    commit_ok (by simp) rfl (by simp) (by simp) (by show 0 ≤ q1.page_; omega) (by show q1.page_ < 1; omega)
  obtain ⟨p2, q2, a2, b2, c2⟩ := app_one (j := (⟨(), [[97]], 1, q1⟩ : journal_Journal)) (s := (⟨[p1], 1, q1.page_, -1, false⟩ : pagestore_Store)) (t := [98]) b1 rfl rfl (by simp) (by decide) (by simp)
  obtain ⟨k, k1, k2, k3, k4⟩ := crash_ok (s := (⟨[p1] ++ [p2], 1, q1.page_, -1, false⟩ : pagestore_Store)) (l := 1) rfl (by simp) (by simp) 1
  have hk : k = 2 := by
    have : (([p1] ++ [p2]).length : Int) = 2 := rfl
    simp only [this] at k1; omega
  subst hk
  have k4 : M.pagestore_Store_Crash (⟨[p1] ++ [p2], 1, q1.page_, -1, false⟩ : pagestore_Store) 1 = some (⟨[p1] ++ [p2], 2, q1.page_, -1, false⟩ : pagestore_Store) := k4
  have o2 := open_store (s := (⟨[p1] ++ [p2], 2, q1.page_, -1, false⟩ : pagestore_Store)) (m := q1) (ts := [[97]]) rfl rfl (b1.app [p2]) (by decide)
  simp only [M.law14_awake]
  refine To.bindS new_eq (To.bindS rfl (To.bind open_new (To.bindS (a := false) rfl (To.neg (by decide) (To.bindS rfl (To.bind a1 (To.bindS cm (To.bind a2 (To.bindS k4 (To.bind o2 (To.neg (by simp) (To.bindS rfl (To.bindS (at_ok (k := 0) rfl) ?_)))))))))))))
  refine To.pos rfl (To.pos rfl (To.pos rfl (To.pos rfl (To.pos (by decide) (To.pos rfl (To.bindS rfl (To.pos rfl (To.bindS rfl (To.pure.of rfl)))))))))
end Go.Proofs.YtkobngongonplaaGreatDoor
/-
  Laws of a journal: sequences of operations.
-/
set_option linter.unusedVariables false
set_option linter.unusedSimpArgs false
namespace Go.Proofs.YtkobngongonplaaGreatDoor
open Go Go.Dec
theorem Ch.low {pages : List Str} {m : journal_mark} {rs : List journal_read} (h : Ch pages m rs) (hr : rs ≠ []) : 0 ≤ m.page_ := by
  cases h with
  | nil => exact absurd rfl hr
  | snoc m rs k sg x h1 h2 h3 h4 h5 h6 => show 0 ≤ (k : Int); omega
theorem Holds.low {pages : List Str} {m : journal_mark} {ts : List Str} (h : Holds pages m ts) (ht : ts ≠ []) : 0 ≤ m.page_ := by
  obtain ⟨rs, hc, hs⟩ := h.ch
  refine hc.low fun e => ?_
  subst e
  cases ts with
  | nil => exact ht rfl
  | cons t ts =>
    rw [show t :: ts = [t] ++ ts from rfl, prt_app, prt_one] at hs
    have := congrArg List.length hs
    rw [List.length_append, pts_len] at this
    have hl := cutP_len t
    simp [sgs] at this
    omega
theorem texts_refl (l : List Str) : To (fun n => M.r14_Texts n l l) true := by
  have hl : ∀ (xs : List Str) (i : Nat), l.drop i = xs → To (fun n => M.r14_Texts_loop1 l l n (i : Int)) (.inl ()) := by
    intro xs
    induction xs with
    | nil => intro i hx; exact To.succ (by simp only [M.r14_Texts_loop1]; exact To.neg (drop_end hx) To.pure)
    | cons x xs ih =>
      intro i hx
      refine To.succ ?_
      simp only [M.r14_Texts_loop1]
      rw [cast_succ]
      exact To.pos (drop_lt hx) (To.bindS (drop_idx hx) (To.bindS (drop_idx hx) (To.neg (by simp) (ih (i + 1) (drop_next hx)))))
  simp only [M.r14_Texts]
  exact To.neg (by simp) (To.bind (hl l 0 rfl) To.pure)
theorem all_eq {j : journal_Journal} (s : pagestore_Store) (h : j.texts_.length ≤ 1000000) : M.journal_Journal_All j s = some j.texts_ := by
  unfold M.journal_Journal_All M.slices_Clone_string_string
  rw [appC_eq (by simp; omega)]
  rfl
def inCall (c : pandectlaw14_Call) : Prop := -9223372036854775808 ≤ c.N ∧ c.N ≤ 9223372036854775807
structure Pl (j : journal_Journal) (s : pagestore_Store) (ts : List Str) (la : Nat) : Prop where
  texts : j.texts_ = ts
  las : j.lasting_ = (la : Int)
  le : la ≤ ts.length
  now : Holds s.pages_ j.last_ ts
  dur : ∃ (l0 : Nat) (m : journal_mark), s.lasting_ = (l0 : Int) ∧ l0 ≤ s.pages_.length ∧ Holds (s.pages_.take l0) m (ts.take la) ∧ s.root_ = m.page_
  fuse : -1 ≤ s.fuse_ ∧ s.fuse_ ≤ 9223372036854775807
theorem Pl.zero : Pl j0 s0 [] 0 := ⟨rfl, rfl, Nat.le_refl _, Holds.nil, ⟨0, m0, rfl, Nat.le_refl _, Holds.nil, rfl⟩, by decide, by decide⟩
theorem Pl.append {j : journal_Journal} {s : pagestore_Store} {ts : List Str} {la : Nat} (h : Pl j s ts la) {t : Str} (ht : t.length ≤ 400) (hn : ts.length ≤ 1000) (hp : s.pages_.length ≤ 1000) :
    (∃ j' s', To (fun n => M.journal_Journal_Append n j s t) (((ts.length : Int), 0), j', s') ∧ s.down_ = false ∧ Pl j' s' (ts ++ [t]) la ∧ s'.pages_.length ≤ s.pages_.length + 1) ∨
    (∃ s', To (fun n => M.journal_Journal_Append n j s t) ((0, 16), j, s') ∧ s'.down_ = true ∧ Pl j s' ts la ∧ s'.pages_.length ≤ s.pages_.length) := by
  have hc := cutP_one (t := t) (by omega)
  have hok := h.now.ok
  have ht' := h.texts
  cases hd : s.down_ with
  | true => exact .inr ⟨s, jappend_down (by omega) hok hd, hd, h, Nat.le_refl _⟩
  | false =>
    by_cases hf : s.fuse_ = 0
    · have ap := jappend_fail (j := j) (s := s) (t := t) (by omega) hok hd (by omega) (by rw [hc]; omega) (by rw [hc]; omega)
      have e0 : s.fuse_.toNat = 0 := by omega
      rw [e0, List.take_zero, List.append_nil] at ap
      exact .inr ⟨_, ap, rfl, ⟨h.texts, h.las, h.le, h.now, h.dur, by show -1 ≤ (0 : Int); decide, by show (0 : Int) ≤ _; decide⟩, Nat.le_refl _⟩
    · have ap := jappend_ok (j := j) (s := s) (t := t) (by omega) (by rw [ht']; omega) hok hd h.fuse.2 (by have := h.fuse.1; rw [hc]; omega) (by rw [hc]; omega)
      have h2 := h.now.add (t := t) (by omega) (by rw [hc]; omega)
      have hw := wr_len (pts (cutP t)) j.last_ s.pages_.length
      rw [pts_len, hc] at hw
      rw [ht'] at ap
      refine .inl ⟨_, _, ap, rfl, ⟨rfl, h.las, by have := h.le; simp; omega, h2, ?_, ?_⟩, by simp [hw]⟩
      · obtain ⟨l0, m, q1, q2, q3, q4⟩ := h.dur
        refine ⟨l0, m, q1, by simp; omega, ?_, q4⟩
        have hle := h.le
        rw [List.take_append_of_le_length hle]
        show Holds ((s.pages_ ++ _).take l0) m _
        rw [List.take_append_of_le_length q2]
        exact q3
      · have := h.fuse
        show -1 ≤ (if s.fuse_ < 0 then s.fuse_ else s.fuse_ - _) ∧ (if s.fuse_ < 0 then s.fuse_ else s.fuse_ - _) ≤ _
        rw [hc]
        split <;> omega
theorem Pl.commit {j : journal_Journal} {s : pagestore_Store} {ts : List Str} {la : Nat} (h : Pl j s ts la) :
    (∃ j' s', M.journal_Journal_Commit j s = some (0, j', s') ∧ (s.down_ = true → ts = []) ∧ Pl j' s' ts ts.length ∧ s'.pages_ = s.pages_) ∨
    (∃ s', M.journal_Journal_Commit j s = some (16, j, s') ∧ s'.down_ = true ∧ Pl j s' ts la ∧ s'.pages_ = s.pages_) := by
  have ht' := h.texts
  by_cases hj : ts = []
  · refine .inl ⟨j, s, commit_none (by rw [ht', hj]), fun _ => hj, ?_, rfl⟩
    have hle := h.le
    rw [hj] at hle
    have hla : la = ts.length := by rw [hj]; simpa using hle
    rw [← hla]; exact h
  · have hj' : j.texts_ ≠ [] := by rw [ht']; exact hj
    cases hd : s.down_ with
    | true => exact .inr ⟨s, commit_down hj' hd, hd, h, rfl⟩
    | false =>
      have hlow := h.now.low hj
      have hlt := h.now.lt
      by_cases hf : s.fuse_ = 0
      · exact .inr ⟨_, commit_fail hj' hd hf hlow hlt, rfl, ⟨h.texts, h.las, h.le, h.now, h.dur, h.fuse⟩, rfl⟩
      · refine .inl ⟨_, _, commit_ok hj' hd hf h.fuse.2 hlow hlt, (fun e => by cases e), ⟨h.texts, by show (j.texts_.length : Int) = _; rw [ht'], Nat.le_refl _, h.now, ⟨s.pages_.length, j.last_, rfl, Nat.le_refl _, ?_, rfl⟩, ?_⟩, rfl⟩
        · show Holds (s.pages_.take s.pages_.length) _ _
          rw [List.take_length, List.take_length]
          exact h.now
        · have := h.fuse
          show -1 ≤ fz s.fuse_ ∧ fz s.fuse_ ≤ _
          unfold fz
          split <;> omega
theorem Pl.crash {j : journal_Journal} {s : pagestore_Store} {ts : List Str} {la : Nat} (h : Pl j s ts la) (N : Int) (hp : s.pages_.length ≤ 1000) (hn : ts.length ≤ 1000) :
    ∃ j' s', M.pagestore_Store_Crash s N = some s' ∧ To (fun n => M.journal_Open n s') (some j', 0) ∧ Pl j' s' (ts.take la) la ∧ s'.pages_.length ≤ s.pages_.length := by
  obtain ⟨l0, m, q1, q2, q3, q4⟩ := h.dur
  have hle := h.le
  have htl : (ts.take la).length = la := by rw [List.length_take]; omega
  obtain ⟨k, k1, k2, k3, k4⟩ := crash_ok q1 q2 (by omega) N
  have hk : Holds (s.pages_.take k) m (ts.take la) := by
    have e : s.pages_.take k = s.pages_.take l0 ++ (s.pages_.take k).drop l0 := by
      have := List.take_append_drop l0 (s.pages_.take k)
      rw [List.take_take, Nat.min_eq_left k2] at this
      exact this.symm
    rw [e]; exact q3.app _
  have ho := open_store (s := (⟨s.pages_.take k, (k : Int), s.root_, -1, false⟩ : pagestore_Store)) (m := m) rfl q4 hk (by rw [htl]; omega)
  refine ⟨_, _, k4, ho, ⟨rfl, by show ((ts.take la).length : Int) = _; rw [htl], by omega, hk, ⟨k, m, rfl, by show k ≤ (s.pages_.take k).length; rw [List.length_take]; omega, ?_, q4⟩, by show -1 ≤ (-1 : Int) ∧ (-1 : Int) ≤ _; decide⟩, by show (s.pages_.take k).length ≤ _; rw [List.length_take]; omega⟩
  show Holds ((s.pages_.take k).take k) m ((ts.take la).take la)
  rw [List.take_take, List.take_take, Nat.min_self, Nat.min_self]
  exact hk
theorem Pl.fail {j : journal_Journal} {s : pagestore_Store} {ts : List Str} {la : Nat} (h : Pl j s ts la) {N : Int} (hN : N ≤ 9223372036854775807) : ∃ s', M.pagestore_Store_FailAfter s N = some s' ∧ Pl j s' ts la ∧ s'.pages_ = s.pages_ := by
  refine ⟨_, rfl, ⟨h.texts, h.las, h.le, h.now, h.dur, ?_⟩, rfl⟩
  show -1 ≤ max N (-1) ∧ max N (-1) ≤ _
  omega
theorem few_to (l : List pandectlaw14_Call) : ∃ b, To (fun n => M.law14_few n l) b ∧ (b = true → (∀ x ∈ l, x.Text.length ≤ 400) ∧ l.length ≤ 20) := by
  have hl : ∀ (xs : List pandectlaw14_Call) (i : Nat), l.drop i = xs → ∃ r : Unit ⊕ Bool, To (fun n => M.law14_few_loop1 l n (i : Int)) r ∧ ((r = .inl () ∧ ∀ x ∈ xs, x.Text.length ≤ 400) ∨ r = .inr false) := by
    intro xs
    induction xs with
    | nil => intro i hx; exact ⟨.inl (), To.succ (by simp only [M.law14_few_loop1]; exact To.neg (drop_end hx) To.pure), .inl ⟨rfl, fun x hx => by cases hx⟩⟩
    | cons x xs ih =>
      intro i hx
      by_cases h : (400 : Int) < (x.Text.length : Int)
      · exact ⟨.inr false, To.succ (by simp only [M.law14_few_loop1]; exact To.pos (drop_lt hx) (To.bindS (drop_idx hx) (To.pos h To.pure))), .inr rfl⟩
      · obtain ⟨r, h1, h2⟩ := ih (i + 1) (drop_next hx)
        refine ⟨r, To.succ (by simp only [M.law14_few_loop1]; rw [cast_succ]; exact To.pos (drop_lt hx) (To.bindS (drop_idx hx) (To.neg h h1))), ?_⟩
        rcases h2 with h2 | h2
        · refine .inl ⟨h2.1, fun y hy => ?_⟩
          rcases List.mem_cons.1 hy with rfl | hy
          · omega
          · exact h2.2 y hy
        · exact .inr h2
  obtain ⟨r, h1, h2⟩ := hl l 0 rfl
  rcases h2 with ⟨rfl, h2⟩ | rfl
  · refine ⟨decide ((l.length : Int) ≤ 20), by simp only [M.law14_few]; exact To.bind h1 To.pure, fun h => ⟨h2, by have := of_decide_eq_true h; omega⟩⟩
  · exact ⟨false, by simp only [M.law14_few]; exact To.bind h1 To.pure, fun h => by cases h⟩
theorem pl_check {j : journal_Journal} {s : pagestore_Store} {ts : List Str} {la : Nat} (h : Pl j s ts la) (hn : ts.length ≤ 1000) {β : Type} {x : β} {R : Nat → Option β} {r : β} (hR : To R r) :
    To (fun n => Option.bind (some j) fun j4 =>
          Option.bind (M.journal_Journal_Len j4 s) fun len =>
          if len ≠ (ts.length : Int) then
            some x
          else
            Option.bind (M.journal_Journal_Committed j4 s) fun commit1 =>
            if commit1 ≠ (la : Int) then
              some x
            else
              Option.bind (M.journal_Journal_All j4 s) fun all =>
              Option.bind (M.r14_Texts n all ts) fun texts2 =>
              if texts2 = false then
                some x
              else R n) r := by
  have ht := h.texts
  have hl := h.las
  refine To.bindS rfl (To.bindS (a := (ts.length : Int)) (by unfold M.journal_Journal_Len; rw [ht]) (To.neg (by simp) (To.bindS (a := (la : Int)) (by unfold M.journal_Journal_Committed; rw [hl]) (To.neg (by simp) ?_))))
  have ha := all_eq (j := j) s (by rw [ht]; omega)
  rw [ht] at ha
  exact To.bindS ha (To.bind (texts_refl ts) (To.neg (by simp) hR))
theorem play_loop (l : List pandectlaw14_Call) (hin : ∀ c ∈ l, inCall c) (hsm : ∀ x ∈ l, x.Text.length ≤ 400) : ∀ (xs : List pandectlaw14_Call) (i : Nat), l.drop i = xs → ∀ (j : journal_Journal) (s : pagestore_Store) (ts : List Str) (la : Nat), Pl j s ts la → ts.length + xs.length ≤ 100 → s.pages_.length + xs.length ≤ 100 →
    ∃ (j' : journal_Journal) (s' : pagestore_Store) (ts' : List Str) (la' : Nat), To (fun n => M.law14_play_loop1 l n (some j) ts (la : Int) (i : Int) s) (.inl (some j', ts', (la' : Int), s')) ∧ Pl j' s' ts' la' ∧ ts'.length ≤ 100
  | [], i, hx, j, s, ts, la, h, hn, hp => ⟨j, s, ts, la, To.succ (by simp only [M.law14_play_loop1]; exact To.neg (drop_end hx) To.pure), h, by omega⟩
  | c :: xs, i, hx, j, s, ts, la, h, hn, hp => by
    simp only [List.length_cons] at hn hp
    have hcm : c ∈ l := List.mem_of_getElem? (drop_cons hx).2.1
    have hc1 := hin c hcm
    have hc2 := hsm c hcm
    have rec_ := fun (j1 : journal_Journal) (s1 : pagestore_Store) (ts1 : List Str) (la1 : Nat) (h1 : Pl j1 s1 ts1 la1) (q1 : ts1.length ≤ ts.length + 1) (q2 : s1.pages_.length ≤ s.pages_.length + 1) =>
      play_loop l hin hsm xs (i + 1) (drop_next hx) j1 s1 ts1 la1 h1 (by omega) (by omega)
    by_cases k0 : c.Kind = 0
    · rcases h.append (t := c.Text) hc2 (by omega) (by omega) with ⟨j1, s1, a1, a2, a3, a4⟩ | ⟨s1, a1, a2, a3, a4⟩
      · obtain ⟨j2, s2, ts2, la2, b1, b2, b3⟩ := rec_ j1 s1 _ _ a3 (by simp) a4
        refine ⟨j2, s2, ts2, la2, To.succ ?_, b2, b3⟩
        simp only [M.law14_play_loop1, M.pagestore_Store_Failed]
        rw [cast_succ]
        refine To.pos (drop_lt hx) (To.bindS rfl (To.bind (a := .inl (some j1, ts ++ [c.Text], (la : Int), s1)) ?_ (by exact pl_check a3 (by simp; omega) b1)))
        refine To.bindS (drop_idx hx) (To.pos k0 (To.bindS rfl (To.bindS (drop_idx hx) (To.bind a1 (To.bindS (a := false) ?_ (To.neg (by simp) (To.pos rfl (To.bindS (drop_idx hx) (To.bindS (appC_eq (by simp; omega)) To.pure)))))))))
        simp [a2]
      · obtain ⟨j2, s2, ts2, la2, b1, b2, b3⟩ := rec_ j s1 _ _ a3 (by omega) (by omega)
        refine ⟨j2, s2, ts2, la2, To.succ ?_, b2, b3⟩
        simp only [M.law14_play_loop1, M.pagestore_Store_Failed]
        rw [cast_succ]
        refine To.pos (drop_lt hx) (To.bindS rfl (To.bind (a := .inl (some j, ts, (la : Int), s1)) ?_ (by exact pl_check a3 (by omega) b1)))
        refine To.bindS (drop_idx hx) (To.pos k0 (To.bindS rfl (To.bindS (drop_idx hx) (To.bind a1 (To.bindS (a := false) ?_ (To.neg (by simp) (To.neg (by simp) To.pure)))))))
        simp [a2]
    by_cases k1 : c.Kind = 1
    · rcases h.commit with ⟨j1, s1, a1, a2, a3, a4⟩ | ⟨s1, a1, a2, a3, a4⟩
      · obtain ⟨j2, s2, ts2, la2, b1, b2, b3⟩ := rec_ j1 s1 _ _ a3 (by omega) (by rw [a4]; omega)
        refine ⟨j2, s2, ts2, la2, To.succ ?_, b2, b3⟩
        simp only [M.law14_play_loop1, M.pagestore_Store_Failed]
        rw [cast_succ]
        refine To.pos (drop_lt hx) (To.bindS rfl (To.bind (a := .inl (some j1, ts, (ts.length : Int), s1)) ?_ (by exact pl_check a3 (by omega) b1)))
        refine To.bindS (drop_idx hx) (To.neg k0 (To.pos k1 (To.bindS rfl (To.bindS a1 (To.bindS (a := false) ?_ (To.neg (by simp) (To.pos rfl To.pure)))))))
        cases hd : s.down_ with
        | true => simp [a2 hd]
        | false => simp
      · obtain ⟨j2, s2, ts2, la2, b1, b2, b3⟩ := rec_ j s1 _ _ a3 (by omega) (by rw [a4]; omega)
        refine ⟨j2, s2, ts2, la2, To.succ ?_, b2, b3⟩
        simp only [M.law14_play_loop1, M.pagestore_Store_Failed]
        rw [cast_succ]
        refine To.pos (drop_lt hx) (To.bindS rfl (To.bind (a := .inl (some j, ts, (la : Int), s1)) ?_ (by exact pl_check a3 (by omega) b1)))
        refine To.bindS (drop_idx hx) (To.neg k0 (To.pos k1 (To.bindS rfl (To.bindS a1 (To.bindS (a := false) ?_ (To.neg (by simp) (To.neg (by simp) To.pure)))))))
        simp [a2]
    by_cases k2 : c.Kind = 2
    · obtain ⟨j1, s1, a1, a2, a3, a4⟩ := h.crash c.N (by omega) (by omega)
      obtain ⟨j2, s2, ts2, la2, b1, b2, b3⟩ := rec_ j1 s1 _ _ a3 (by rw [List.length_take]; omega) (by omega)
      refine ⟨j2, s2, ts2, la2, To.succ ?_, b2, b3⟩
      simp only [M.law14_play_loop1, M.pagestore_Store_Failed]
      rw [cast_succ]
      refine To.pos (drop_lt hx) (To.bindS rfl (To.bind (a := .inl (some j1, ts.take la, (la : Int), s1)) ?_ (by exact pl_check a3 (by rw [List.length_take]; omega) b1)))
      refine To.bindS (drop_idx hx) (To.neg k0 (To.neg k1 (To.pos k2 (To.bindS (drop_idx hx) (To.bindS a1 (To.bind a2 (To.neg (by simp) (To.neg (by simp) (To.bindS (a := ts.take la) ?_ To.pure)))))))))
      have := h.le
      unfold slcHi
      rw [if_pos ⟨by omega, by omega⟩, Int.toNat_natCast]
    by_cases k3 : c.Kind = 3
    · obtain ⟨s1, a1, a2, a3⟩ := h.fail hc1.2
      obtain ⟨j2, s2, ts2, la2, b1, b2, b3⟩ := rec_ j s1 _ _ a2 (by omega) (by rw [a3]; omega)
      refine ⟨j2, s2, ts2, la2, To.succ ?_, b2, b3⟩
      simp only [M.law14_play_loop1, M.pagestore_Store_Failed]
      rw [cast_succ]
      exact To.pos (drop_lt hx) (To.bindS rfl (To.bind (a := .inl (some j, ts, (la : Int), s1)) (To.bindS (drop_idx hx) (To.neg k0 (To.neg k1 (To.neg k2 (To.pos k3 (To.bindS (drop_idx hx) (To.bindS a1 To.pure))))))) (by exact pl_check a2 (by omega) b1)))
    · obtain ⟨j2, s2, ts2, la2, b1, b2, b3⟩ := rec_ j s _ _ h (by omega) (by omega)
      refine ⟨j2, s2, ts2, la2, To.succ ?_, b2, b3⟩
      simp only [M.law14_play_loop1, M.pagestore_Store_Failed]
      rw [cast_succ]
      exact To.pos (drop_lt hx) (To.bindS rfl (To.bind (a := .inl (some j, ts, (la : Int), s)) (To.bindS (drop_idx hx) (To.neg k0 (To.neg k1 (To.neg k2 (To.neg k3 To.pure))))) (by exact pl_check h (by omega) b1)))
theorem sequences_true (l : List pandectlaw14_Call) (k : Int) (hin : ∀ c ∈ l, inCall c) : To (fun n => M.law14_JournalSequences n l k) true := by
  simp only [M.law14_JournalSequences]
  refine To.bind awake14 (To.neg (by decide) ?_)
  obtain ⟨b, hb, hs⟩ := few_to l
  cases b with
  | false => exact To.bind hb (To.pos rfl To.pure)
  | true =>
  obtain ⟨h1, h2⟩ := hs rfl
  obtain ⟨j, s, ts, la, a1, a2, a3⟩ := play_loop l hin h1 l 0 rfl j0 s0 [] 0 Pl.zero (by simp; omega) (by show 0 + _ ≤ _; omega)
  have hplay : To (fun n => M.law14_play n s0 l) ((some j, ts, (la : Int), true), s) := by
    simp only [M.law14_play]
    exact To.bind open_new (To.bindS (a := false) rfl (To.neg (by decide) (To.bind a1 To.pure)))
  refine To.bind hb (To.neg (by decide) (To.bindS new_eq (To.bindS rfl (To.bind hplay (To.neg (by simp) (To.bindS rfl ?_))))))
  have ht := a2.texts
  by_cases hk : k < 0 ∨ (ts.length : Int) ≤ k
  · refine To.bindS (at_out (by rw [ht]; exact hk)) (To.bindS (a := true) ?_ (To.pos rfl (To.bindS (a := true) rfl To.pure)))
    by_cases h0 : k < 0
    · rw [if_pos h0]
    · rw [if_neg h0, decide_eq_true (hk.resolve_left h0)]
  · obtain ⟨m, hm⟩ : ∃ m : Nat, k = (m : Int) := ⟨k.toNat, by omega⟩
    subst hm
    have hl : m < ts.length := by omega
    have hget : ts[m]? = some ts[m] := List.getElem?_eq_getElem hl
    refine To.bindS (at_ok (t := ts[m]) (by rw [ht]; exact hget)) (To.bindS (a := false) ?_ (To.neg (by simp) (To.bindS (a := ts[m]) (by rw [idx_nat, hget]) (To.pos (by simp) (To.pure.of (by simp))))))
    show (if (m : Int) < 0 then some true else some (decide ((ts.length : Int) ≤ (m : Int)))) = some false
    rw [if_neg (by omega), decide_eq_false (by omega)]
end Go.Proofs.YtkobngongonplaaGreatDoor
