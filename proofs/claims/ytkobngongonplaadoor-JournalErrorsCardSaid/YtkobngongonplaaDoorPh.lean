import Derived.Test.YtkobngongonplaaDoorPd
/-
  The laws of a journal: the examples, and the errors.
-/
set_option linter.unusedVariables false
set_option linter.unusedSimpArgs false
namespace Go.Proofs.YtkobngongonplaaDoor
open Go Go.Dec
theorem crash_ok {s : pagestore_Store} {l : Nat} (hl : s.lasting_ = (l : Int)) (h : l ≤ s.pages_.length) (hp : s.pages_.length ≤ 1000000) (keep : Int) :
    ∃ k : Nat, (k : Int) = l + min (max keep 0) ((s.pages_.length : Int) - l) ∧ l ≤ k ∧ k ≤ s.pages_.length ∧ M.pagestore_Store_Crash s keep = some (⟨s.pages_.take k, (k : Int), s.root_, -1, false⟩ : pagestore_Store) := by
  refine ⟨(l + min (max keep 0) ((s.pages_.length : Int) - l)).toNat, by omega, by omega, by omega, ?_⟩
  unfold M.pagestore_Store_Crash
  rw [hl, subC_eq (by omega) (by omega), Option.bind_some, addC_eq (by omega) (by omega), Option.bind_some]
  have e : slcHi s.pages_ ((l : Int) + min (max keep 0) ((s.pages_.length : Int) - l)) = some (s.pages_.take ((l : Int) + min (max keep 0) ((s.pages_.length : Int) - l)).toNat) := by unfold slcHi; rw [if_pos ⟨by omega, by omega⟩]
  rw [e, Option.bind_some]
  unfold M.slices_Clone_string_string
  rw [appC_eq (by simp; omega)]
  simp only [Option.bind_some, List.nil_append, List.length_take]
  congr 2
  omega
def s0 : pagestore_Store := ⟨[], 0, -1, -1, false⟩
def j0 : journal_Journal := ⟨(), [], 0, m0⟩
theorem new_eq : M.pagestore_New = some (some s0) := rfl
theorem open_new : To (fun n => M.journal_Open n s0) (some j0, 0) := open_store (s := s0) rfl rfl Holds.nil (by decide)
theorem cutP_one {t : Str} (h : t.length ≤ 16320) : (cutP t).length = 1 := by rw [cutP_le h]; rfl
theorem app_one {j : journal_Journal} {s : pagestore_Store} {t : Str} (h : Holds s.pages_ j.last_ j.texts_) (hd : s.down_ = false) (hf : s.fuse_ = -1) (hj : j.texts_.length ≤ 1000) (ht : t.length ≤ 16320) (hp : s.pages_.length < 4000) :
    ∃ p m, To (fun n => M.journal_Journal_Append n j s t) (((j.texts_.length : Int), 0), (⟨(), j.texts_ ++ [t], j.lasting_, m⟩ : journal_Journal), (⟨s.pages_ ++ [p], s.lasting_, s.root_, -1, false⟩ : pagestore_Store)) ∧ Holds (s.pages_ ++ [p]) m (j.texts_ ++ [t]) ∧ m.page_ = (s.pages_.length : Int) := by
  have hc := cutP_one ht
  have h1 := jappend_ok (j := j) (s := s) (t := t) (by omega) (by omega) h.ok hd (by omega) (.inl (by omega)) (by omega)
  have h2 := h.add (t := t) (by omega) (by omega)
  have h3 := wr_len (pts (cutP t)) j.last_ s.pages_.length
  rw [pts_len, hc] at h3
  have h4 := wr_last (cutP t) (cutP_ne t) j.last_ s.pages_.length
  obtain ⟨p, hw⟩ : ∃ p, (wr j.last_ s.pages_.length (pts (cutP t))).1 = [p] := List.length_eq_one_iff.1 h3
  refine ⟨p, (wr j.last_ s.pages_.length (pts (cutP t))).2, h1.of ?_, by rw [← hw]; exact h2, by rw [h4]; omega⟩
  rw [hw, hd, hf]
  rfl
theorem at_ok {j : journal_Journal} {s : pagestore_Store} {k : Nat} {t : Str} (h : j.texts_[k]? = some t) : M.journal_Journal_At j s (k : Int) = some (t, 0) := by
  have hk := (List.getElem?_eq_some_iff.1 h).1
  unfold M.journal_Journal_At
  rw [if_neg (by omega)]
  simp only [Option.bind_some]
  rw [if_neg (by simpa using hk), idx_nat, h]
  rfl
theorem at_out {j : journal_Journal} {s : pagestore_Store} {k : Int} (h : k < 0 ∨ (j.texts_.length : Int) ≤ k) : M.journal_Journal_At j s k = some ([], 3) := by
  unfold M.journal_Journal_At
  by_cases h0 : k < 0
  · rw [if_pos h0]
    simp only [Option.bind_some]
    rw [if_pos trivial]
  · rw [if_neg h0]
    simp only [Option.bind_some]
    rw [if_pos (by simpa using h.resolve_left h0)]
theorem awake14 : To (fun n => M.law14_awake n) true := by
  obtain ⟨p1, q1, a1, b1, c1⟩ := app_one (j := j0) (s := s0) (t := [97]) Holds.nil rfl rfl (by decide) (by decide) (by decide)
  have a1 : To (fun n => M.journal_Journal_Append n j0 s0 [97]) ((0, 0), (⟨(), [[97]], 0, q1⟩ : journal_Journal), (⟨[p1], 0, -1, -1, false⟩ : pagestore_Store)) := a1
  have b1 : Holds [p1] q1 [[97]] := b1
  have c1 : q1.page_ = 0 := c1
  have cm : M.journal_Journal_Commit (⟨(), [[97]], 0, q1⟩ : journal_Journal) (⟨[p1], 0, -1, -1, false⟩ : pagestore_Store) = some (0, (⟨(), [[97]], 1, q1⟩ : journal_Journal), (⟨[p1], 1, q1.page_, -1, false⟩ : pagestore_Store)) :=
    commit_ok (by simp) rfl (by simp) (by simp) (by show 0 ≤ q1.page_; omega) (by show q1.page_ < 1; omega)
  obtain ⟨p2, q2, a2, b2, c2⟩ := app_one (j := (⟨(), [[97]], 1, q1⟩ : journal_Journal)) (s := (⟨[p1], 1, q1.page_, -1, false⟩ : pagestore_Store)) (t := [98]) b1 rfl rfl (by simp) (by decide) (by simp)
  obtain ⟨k, k1, k2, k3, k4⟩ := crash_ok (s := (⟨[p1] ++ [p2], 1, q1.page_, -1, false⟩ : pagestore_Store)) (l := 1) rfl (by simp) (by simp) 1
  have hk : k = 2 := by
    have : (([p1] ++ [p2]).length : Int) = 2 := rfl
    simp only [this] at k1; omega
  subst hk
  have k4 : M.pagestore_Store_Crash (⟨[p1] ++ [p2], 1, q1.page_, -1, false⟩ : pagestore_Store) 1 = some (⟨[p1] ++ [p2], 2, q1.page_, -1, false⟩ : pagestore_Store) := k4
  have o2 := open_store (s := (⟨[p1] ++ [p2], 2, q1.page_, -1, false⟩ : pagestore_Store)) (m := q1) (ts := [[97]]) rfl rfl (b1.app [p2]) (by decide)
  simp only [M.law14_awake]
  refine To.bindS new_eq (To.bindS rfl (To.bind open_new (To.bindS (a := false) rfl (To.neg (by decide) (To.bindS rfl (To.bind a1 (To.bindS cm (To.bind a2 (To.bindS k4 (To.bind o2 (To.neg (by simp) (To.bindS rfl (To.bindS (at_ok (k := 0) rfl) ?_)))))))))))))
  refine To.pos rfl (To.pos rfl (To.pos rfl (To.pos rfl (To.pos (by decide) (To.pos rfl (To.bindS rfl (To.pos rfl (To.bindS rfl (To.pure.of rfl)))))))))
theorem open_nil : M.journal_Open_i1 = some (none, 1) := rfl
theorem verify_nil : M.journal_Verify_i1 = some (0, 1) := rfl
theorem strOf_len (l : List Int) : (strOf l).length = l.length := by simp [strOf]
theorem errors_true (first : Str) (more : Int) : To (fun n => M.law14_JournalErrors n first more) true := by
  simp only [M.law14_JournalErrors]
  refine To.bind awake14 (To.neg (by decide) ?_)
  by_cases h1 : (400 : Int) < (first.length : Int)
  · exact To.bindS (a := true) (if_pos h1) (To.pos rfl To.pure)
  by_cases h2 : more < 0
  · exact To.bindS (a := true) (by rw [if_neg h1, if_pos h2]) (To.pos rfl To.pure)
  by_cases h3 : (1000 : Int) < more
  · exact To.bindS (a := true) (by rw [if_neg h1, if_neg h2, decide_eq_true h3]) (To.pos rfl To.pure)
  refine To.bindS (a := false) (by rw [if_neg h1, if_neg h2, decide_eq_false h3]) (To.neg (by decide) ?_)
  obtain ⟨p1, q1, a1, b1, c1⟩ := app_one (j := j0) (s := s0) (t := first) Holds.nil rfl rfl (by decide) (by omega) (by decide)
  have a1 : To (fun n => M.journal_Journal_Append n j0 s0 first) ((0, 0), (⟨(), [first], 0, q1⟩ : journal_Journal), (⟨[p1], 0, -1, -1, false⟩ : pagestore_Store)) := a1
  have b1 : Holds [p1] q1 [first] := b1
  have c1 : q1.page_ = 0 := c1
  refine To.bindS new_eq (To.bindS rfl (To.bind open_new (To.neg (by decide) (To.bindS rfl (To.bind a1 ?_)))))
  refine To.bindS (a := 261120 + more) (addC_eq (by omega) (by omega)) (To.bindS (a := List.replicate (261120 + more).toNat 0) (by unfold makeC; rw [if_pos ⟨by omega, by omega⟩]) ?_)
  have hlen : (strOf (List.replicate (261120 + more).toNat 0)).length = (261120 + more).toNat := by rw [strOf_len, List.length_replicate]
  generalize strOf (List.replicate (261120 + more).toNat 0) = tx at hlen
  -- what follows the second append
  have tail : ∀ (j : journal_Journal) (s : pagestore_Store), MarkOk j.last_ → s.down_ = false → s.pages_.length ≤ 20 →
      To (fun n => Option.bind (M.pagestore_Store_FailAfter s (0 : Int)) fun w4 =>
              Option.bind (M.journal_Journal_Append n j w4 first) fun (append2, w5, w6) =>
              Option.bind (M.journal_Open n w6) fun open0_1 =>
              Option.bind M.journal_Open_i1 fun open0_2 =>
              Option.bind (M.journal_Verify n w6) fun verify =>
              Option.bind M.journal_Verify_i1 fun verify1 =>
              if open0_1.1.isNone = true then
                if open0_1.2 = (16 : Int) then
                  if open0_2.1.isNone = true then
                    if open0_2.2 = (1 : Int) then
                      if verify.1 = (0 : Int) then
                        if verify.2 = (16 : Int) then
                          if verify1.1 = (0 : Int) then
                            some (decide (verify1.2 = (1 : Int)))
                          else
                            some false
                        else
                          some false
                      else
                        some false
                    else
                      some false
                  else
                    some false
                else
                  some false
              else
                some false) true := by
    intro j s hm hd hp
    have hc := cutP_one (t := first) (by omega)
    have hfail := jappend_fail (j := j) (s := ({ s with fuse_ := 0 } : pagestore_Store)) (t := first) (by omega) hm hd (Int.le_refl _) (by rw [hc]; simp) (by rw [hc]; show s.pages_.length + 1 ≤ _; omega)
    obtain ⟨o1, o2⟩ := open_down (s := ({ ({ s with fuse_ := 0 } : pagestore_Store) with pages_ := s.pages_ ++ (wr j.last_ s.pages_.length (pts (cutP first))).1.take 0, fuse_ := 0, down_ := true } : pagestore_Store)) rfl
    exact To.bindS (a := ({ s with fuse_ := 0 } : pagestore_Store)) rfl (To.bind hfail (To.bind o1 (To.bindS open_nil (To.bind o2 (To.bindS verify_nil (To.pos rfl (To.pos rfl (To.pos rfl (To.pos rfl (To.pos rfl (To.pos rfl (To.pos rfl (To.pure.of rfl)))))))))))))
  by_cases h0 : (0 : Int) < more
  · refine To.bind (jappend_long (by omega)) (To.bindS (a := false) ?_ (To.neg (by decide) (tail _ _ b1.ok rfl (by simp))))
    rw [if_pos h0, if_neg (by simp), if_neg (by simp)]
    simp only [M.journal_Journal_Len, M.pagestore_Store_Len, Option.bind_some]
    rw [if_neg (by simp), if_neg (by simp), if_neg (by omega)]
  · have hm0 : more = 0 := by omega
    have hl : tx.length = 261120 := by rw [hlen, hm0]; rfl
    have hcl : (cutP tx).length = 16 := by rw [cutP_len, hl]
    have ap := jappend_ok (j := (⟨(), [first], 0, q1⟩ : journal_Journal)) (s := (⟨[p1], 0, -1, -1, false⟩ : pagestore_Store)) (t := tx) (by omega) (by simp) b1.ok rfl (by simp) (.inl (by simp)) (by rw [hcl]; simp)
    have hw := wr_len (pts (cutP tx)) q1 1
    rw [pts_len, hcl] at hw
    refine To.bind ap (To.bindS (a := false) ?_ (To.neg (by decide) (tail _ _ (b1.add (t := tx) (by omega) (by rw [hcl]; simp)).ok rfl ?_)))
    · rw [if_neg h0, if_pos hm0, if_neg (by simp), if_neg (by simp)]
      simp only [M.pagestore_Store_Len, Option.bind_some]
      congr 1
      refine decide_eq_false ?_
      simp only [List.length_append]
      have : (wr q1 [p1].length (pts (cutP tx))).1.length = 16 := hw
      rw [this]; simp
    · simp only [List.length_append]
      have : (wr q1 [p1].length (pts (cutP tx))).1.length = 16 := hw
      rw [this]; simp
end Go.Proofs.YtkobngongonplaaDoor
/-
  Laws of a journal: fragments.
-/
set_option linter.unusedVariables false
set_option linter.unusedSimpArgs false
namespace Go.Proofs.YtkobngongonplaaDoor
open Go Go.Dec
theorem fill_loop (b : Int) : ∀ (k i : Nat) (l : List Int), l.length = i + k → l.length ≤ 1000000 → ∃ r, r.length = l.length ∧ To (fun n => M.law14_JournalFragments_loop1 b n l (i : Int)) r
  | 0, i, l, h, hl => ⟨l, rfl, To.succ (by simp only [M.law14_JournalFragments_loop1]; exact To.neg (by omega) To.pure)⟩
  | k + 1, i, l, h, hl => by
    obtain ⟨r, h1, h2⟩ := fill_loop b k (i + 1) (l.set i b) (by simp; omega) (by simpa using hl)
    refine ⟨r, by rw [h1]; simp, To.succ ?_⟩
    simp only [M.law14_JournalFragments_loop1]
    obtain ⟨x, hx, _⟩ := idx_some (l := l) (i := (i : Int)) (by omega) (by omega)
    refine To.pos (by omega) (To.bindS hx (To.bindS (a := l.set i b) ?_ (To.bindS (addC_succ (by omega)) h2)))
    unfold setC
    rw [if_pos (by constructor <;> omega), Int.toNat_natCast]
theorem frag_tail {first tx : Str} {s : pagestore_Store} {l : Nat} {m : journal_mark} (done : Bool) (fuse : Int) (hl : s.lasting_ = (l : Int)) (h : l ≤ s.pages_.length) (hp : s.pages_.length ≤ 1000000) (hr : s.root_ = m.page_) (hm : m.page_ < (l : Int))
    (hh : Holds s.pages_ m (if done = true then [first, tx] else [first])) :
    To (fun n => Option.bind (M.pagestore_Store_Crash s fuse) fun w10 =>
                      Option.bind (M.journal_Open n w10) fun open0_1 =>
                      Option.bind (
                          if open0_1.2 ≠ (0 : Int) then
                            some true
                          else
                            some open0_1.1.isNone
                        ) fun v7 =>
                        if v7 = true then
                          some false
                        else
                          Option.bind open0_1.1 fun k9 =>
                          Option.bind (M.journal_Journal_At k9 w10 (0 : Int)) fun at0_ =>
                          Option.bind (
                              if (at0_.1 != first) = true then
                                some true
                              else
                                if done = false then
                                  Option.bind (M.journal_Journal_Len k9 w10) fun len =>
                                  if len ≠ (1 : Int) then
                                    some true
                                  else
                                    if done = true then
                                      Option.bind (M.journal_Journal_Len k9 w10) fun len1 =>
                                      some (decide (len1 ≠ (2 : Int)))
                                    else
                                      some false
                                else
                                  if done = true then
                                    Option.bind (M.journal_Journal_Len k9 w10) fun len2 =>
                                    some (decide (len2 ≠ (2 : Int)))
                                  else
                                    some false
                            ) fun v8 =>
                            if v8 = true then
                              some false
                            else
                              Option.bind (M.journal_Journal_At k9 w10 (1 : Int)) fun at0_1 =>
                              if done = false then
                                some true
                              else
                                some (at0_1.1 == tx)) true := by
  obtain ⟨k, k1, k2, k3, k4⟩ := crash_ok (s := s) hl h hp fuse
  have hk : Holds (s.pages_.take k) m (if done = true then [first, tx] else [first]) := hh.take (by omega)
  have ho := open_store (s := (⟨s.pages_.take k, (k : Int), s.root_, -1, false⟩ : pagestore_Store)) (m := m) rfl hr hk (by split <;> simp)
  refine To.bindS k4 (To.bind ho (To.bindS (a := false) (by rw [if_neg (by simp)]; rfl) (To.neg (by simp) (To.bindS rfl ?_))))
  cases done with
  | true =>
    refine To.bindS (at_ok (k := 0) (t := first) rfl) (To.bindS (a := false) ?_ (To.neg (by simp) (To.bindS (at_ok (k := 1) (t := tx) rfl) (To.neg (by simp) (To.pure.of (by simp))))))
    rw [if_neg (by simp), if_neg (by simp), if_pos rfl]
    rfl
  | false =>
    refine To.bindS (at_ok (k := 0) (t := first) rfl) (To.bindS (a := false) ?_ (To.neg (by simp) (To.bindS (at_out (k := 1) (.inr (by simp))) (To.pos rfl To.pure))))
    rw [if_neg (by simp), if_pos rfl]
    rfl
theorem fragments_true (first : Str) (b size fuse : Int) : To (fun n => M.law14_JournalFragments n first b size fuse) true := by
  simp only [M.law14_JournalFragments]
  refine To.bind awake14 (To.neg (by decide) ?_)
  by_cases h1 : (400 : Int) < (first.length : Int)
  · exact To.bindS (a := true) (if_pos h1) (To.pos rfl To.pure)
  by_cases h2 : size < 0
  · exact To.bindS (a := true) (by rw [if_neg h1, if_pos h2]) (To.pos rfl To.pure)
  by_cases h3 : (50000 : Int) < size
  · exact To.bindS (a := true) (by rw [if_neg h1, if_neg h2, if_pos h3]) (To.pos rfl To.pure)
  by_cases h4 : fuse < -1
  · exact To.bindS (a := true) (by rw [if_neg h1, if_neg h2, if_neg h3, if_pos h4]) (To.pos rfl To.pure)
  by_cases h5 : (20 : Int) < fuse
  · exact To.bindS (a := true) (by rw [if_neg h1, if_neg h2, if_neg h3, if_neg h4, decide_eq_true h5]) (To.pos rfl To.pure)
  refine To.bindS (a := false) (by rw [if_neg h1, if_neg h2, if_neg h3, if_neg h4, decide_eq_false h5]) (To.neg (by decide) ?_)
  obtain ⟨p1, q1, a1, b1, c1⟩ := app_one (j := j0) (s := s0) (t := first) Holds.nil rfl rfl (by decide) (by omega) (by decide)
  have a1 : To (fun n => M.journal_Journal_Append n j0 s0 first) ((0, 0), (⟨(), [first], 0, q1⟩ : journal_Journal), (⟨[p1], 0, -1, -1, false⟩ : pagestore_Store)) := a1
  have b1 : Holds [p1] q1 [first] := b1
  have c1 : q1.page_ = 0 := c1
  have cm : M.journal_Journal_Commit (⟨(), [first], 0, q1⟩ : journal_Journal) (⟨[p1], 0, -1, -1, false⟩ : pagestore_Store) = some (0, (⟨(), [first], 1, q1⟩ : journal_Journal), (⟨[p1], 1, q1.page_, -1, false⟩ : pagestore_Store)) :=
    commit_ok (by simp) rfl (by simp) (by simp) (by show 0 ≤ q1.page_; omega) (by show q1.page_ < 1; omega)
  refine To.bindS new_eq (To.bindS rfl (To.bind open_new (To.neg (by decide) (To.bindS rfl (To.bind a1 ?_)))))
  refine To.bindS (a := (false, (⟨[p1], 1, q1.page_, -1, false⟩ : pagestore_Store), (⟨(), [first], 1, q1⟩ : journal_Journal))) ?_ (To.neg (by simp) ?_)
  · rw [if_neg (by simp), cm]; rfl
  refine To.bindS (a := List.replicate size.toNat 0) (by unfold makeC; rw [if_pos ⟨by omega, by omega⟩]) ?_
  obtain ⟨r, hr1, hr2⟩ := fill_loop b size.toNat 0 (List.replicate size.toNat 0) (by simp) (by simp; omega)
  refine To.bind hr2 ?_
  have htl : (strOf r).length ≤ 50000 := by rw [strOf_len, hr1, List.length_replicate]; omega
  generalize strOf r = tx at htl
  have hcl := cutP_len tx
  have hfa : M.pagestore_Store_FailAfter (⟨[p1], 1, q1.page_, -1, false⟩ : pagestore_Store) fuse = some (⟨[p1], 1, q1.page_, fuse, false⟩ : pagestore_Store) := by
    unfold M.pagestore_Store_FailAfter
    have : max fuse (-1) = fuse := by omega
    rw [this]
  have hcut := rcut_ok tx (by omega)
  have hpl : ([p1] : List Str).length = 1 := rfl
  have hwl := wr_len (pts (cutP tx)) q1 1
  rw [pts_len] at hwl
  have hlast := wr_last (cutP tx) (cutP_ne tx) q1 1
  by_cases hA : fuse < 0
  · -- no failure
    have hfe : fuse = -1 := by omega
    have ap := jappend_ok (j := (⟨(), [first], 1, q1⟩ : journal_Journal)) (s := (⟨[p1], 1, q1.page_, fuse, false⟩ : pagestore_Store)) (t := tx) (by omega) (by simp) b1.ok rfl (by show fuse ≤ _; omega) (.inl hA) (by show 1 + _ ≤ _; omega)
    have cm2 := commit_ok (j := (⟨(), [first] ++ [tx], 1, (wr q1 1 (pts (cutP tx))).2⟩ : journal_Journal)) (s := (⟨[p1] ++ (wr q1 1 (pts (cutP tx))).1, 1, q1.page_, if fuse < 0 then fuse else fuse - ((cutP tx).length : Int), false⟩ : pagestore_Store)) (by simp) rfl (by show (if fuse < 0 then _ else _) ≠ _; rw [if_pos hA]; omega) (by show (if fuse < 0 then _ else _) ≤ _; rw [if_pos hA]; omega) (by show 0 ≤ _; rw [hlast]; omega) (by show _ < _; rw [hlast]; simp [hwl]; omega)
    refine To.bindS hfa (To.bind ap (To.bindS cm2 (To.bind hcut (To.bindS (a := true) (if_pos hA) (To.bindS (a := false) ?_ (To.neg (by decide) ?_))))))
    · rw [if_pos hA]; rfl
    · have h2 := b1.add (t := tx) (by omega) (by show 1 + _ ≤ _; omega)
      exact frag_tail (m := (wr q1 1 (pts (cutP tx))).2) (l := 1 + (cutP tx).length) true fuse (by show _ = _; simp [hwl]; omega) (by show _ ≤ _; simp [hwl]; omega) (by show _ ≤ _; simp [hwl]; omega) rfl (by rw [hlast]; omega) h2
  · by_cases hB : ((cutP tx).length : Int) ≤ fuse
    · have ap := jappend_ok (j := (⟨(), [first], 1, q1⟩ : journal_Journal)) (s := (⟨[p1], 1, q1.page_, fuse, false⟩ : pagestore_Store)) (t := tx) (by omega) (by simp) b1.ok rfl (by show fuse ≤ _; omega) (.inr hB) (by show 1 + _ ≤ _; omega)
      have h2 := b1.add (t := tx) (by omega) (by show 1 + _ ≤ _; omega)
      by_cases hC : ((cutP tx).length : Int) < fuse
      · have cm2 := commit_ok (j := (⟨(), [first] ++ [tx], 1, (wr q1 1 (pts (cutP tx))).2⟩ : journal_Journal)) (s := (⟨[p1] ++ (wr q1 1 (pts (cutP tx))).1, 1, q1.page_, if fuse < 0 then fuse else fuse - ((cutP tx).length : Int), false⟩ : pagestore_Store)) (by simp) rfl (by show (if fuse < 0 then _ else _) ≠ _; rw [if_neg hA]; omega) (by show (if fuse < 0 then _ else _) ≤ _; rw [if_neg hA]; omega) (by show 0 ≤ _; rw [hlast]; omega) (by show _ < _; rw [hlast]; simp [hwl]; omega)
        refine To.bindS hfa (To.bind ap (To.bindS cm2 (To.bind hcut (To.bindS (a := true) (by rw [if_neg hA, decide_eq_true hC]) (To.bindS (a := false) ?_ (To.neg (by decide) ?_))))))
        · rw [if_neg hA, decide_eq_true hB]; rfl
        · exact frag_tail (m := (wr q1 1 (pts (cutP tx))).2) (l := 1 + (cutP tx).length) true fuse (by show _ = _; simp [hwl]; omega) (by show _ ≤ _; simp [hwl]; omega) (by show _ ≤ _; simp [hwl]; omega) rfl (by rw [hlast]; omega) h2
      · have cm2 := commit_fail (j := (⟨(), [first] ++ [tx], 1, (wr q1 1 (pts (cutP tx))).2⟩ : journal_Journal)) (s := (⟨[p1] ++ (wr q1 1 (pts (cutP tx))).1, 1, q1.page_, if fuse < 0 then fuse else fuse - ((cutP tx).length : Int), false⟩ : pagestore_Store)) (by simp) rfl (by show (if fuse < 0 then _ else _) = _; rw [if_neg hA]; omega) (by show 0 ≤ _; rw [hlast]; omega) (by show _ < _; rw [hlast]; simp [hwl]; omega)
        refine To.bindS hfa (To.bind ap (To.bindS cm2 (To.bind hcut (To.bindS (a := false) (by rw [if_neg hA, decide_eq_false hC]) (To.bindS (a := false) ?_ (To.neg (by decide) ?_))))))
        · rw [if_neg hA, decide_eq_true hB]; rfl
        · exact frag_tail (m := q1) (l := 1) false fuse rfl (by show _ ≤ _; simp) (by show _ ≤ _; simp [hwl]; omega) rfl (by omega) (b1.app _)
    · have ap := jappend_fail (j := (⟨(), [first], 1, q1⟩ : journal_Journal)) (s := (⟨[p1], 1, q1.page_, fuse, false⟩ : pagestore_Store)) (t := tx) (by omega) b1.ok rfl (by show 0 ≤ fuse; omega) (by show fuse < _; omega) (by show 1 + _ ≤ _; omega)
      have cm2 := commit_down (j := (⟨(), [first], 1, q1⟩ : journal_Journal)) (s := (⟨[p1] ++ (wr q1 1 (pts (cutP tx))).1.take fuse.toNat, 1, q1.page_, 0, true⟩ : pagestore_Store)) (by simp) rfl
      refine To.bindS hfa (To.bind ap (To.bindS cm2 (To.bind hcut (To.bindS (a := false) (by rw [if_neg hA, decide_eq_false (by omega)]) (To.bindS (a := false) ?_ (To.neg (by decide) ?_))))))
      · rw [if_neg hA, decide_eq_false hB]; rfl
      · exact frag_tail (m := q1) (l := 1) false fuse rfl (by show _ ≤ _; simp) (by show _ ≤ _; simp [hwl]; omega) rfl (by omega) (b1.app _)
end Go.Proofs.YtkobngongonplaaDoor
/-
  Laws of a journal: reopening.
-/
set_option linter.unusedVariables false
set_option linter.unusedSimpArgs false
namespace Go.Proofs.YtkobngongonplaaDoor
open Go Go.Dec
structure Jn (j : journal_Journal) (s : pagestore_Store) : Prop where
  holds : Holds s.pages_ j.last_ j.texts_
  down : s.down_ = false
  fuse : s.fuse_ = -1
  len : s.pages_.length = j.texts_.length
  low : j.last_.page_ = (j.texts_.length : Int) - 1
theorem Jn.zero : Jn j0 s0 := ⟨Holds.nil, rfl, rfl, rfl, rfl⟩
theorem Jn.add {j : journal_Journal} {s : pagestore_Store} (h : Jn j s) {t : Str} (hj : j.texts_.length ≤ 1000) (ht : t.length ≤ 16320) :
    ∃ j' s', To (fun n => M.journal_Journal_Append n j s t) (((j.texts_.length : Int), 0), j', s') ∧ Jn j' s' ∧ j'.texts_ = j.texts_ ++ [t] ∧ j'.lasting_ = j.lasting_ ∧ s'.lasting_ = s.lasting_ ∧ s'.root_ = s.root_ := by
  obtain ⟨p, m, h1, h2, h3⟩ := app_one h.holds h.down h.fuse hj ht (by rw [h.len]; omega)
  exact ⟨_, _, h1, ⟨h2, rfl, rfl, by simp [h.len], by show m.page_ = _; rw [h3, h.len]; simp⟩, rfl, rfl, rfl, rfl⟩
theorem short_to (l : List Str) : ∃ b, To (fun n => M.law14_short n l) b ∧ (b = true → (∀ x ∈ l, x.length ≤ 400) ∧ l.length ≤ 12) := by
  have hl : ∀ (xs : List Str) (i : Nat), l.drop i = xs → ∃ r : Unit ⊕ Bool, To (fun n => M.law14_short_loop1 l n (i : Int)) r ∧ ((r = .inl () ∧ ∀ x ∈ xs, x.length ≤ 400) ∨ r = .inr false) := by
    intro xs
    induction xs with
    | nil => intro i hx; exact ⟨.inl (), To.succ (by simp only [M.law14_short_loop1]; exact To.neg (drop_end hx) To.pure), .inl ⟨rfl, fun x hx => by cases hx⟩⟩
    | cons x xs ih =>
      intro i hx
      by_cases h : (400 : Int) < (x.length : Int)
      · exact ⟨.inr false, To.succ (by simp only [M.law14_short_loop1]; exact To.pos (drop_lt hx) (To.bindS (drop_idx hx) (To.pos h To.pure))), .inr rfl⟩
      · obtain ⟨r, h1, h2⟩ := ih (i + 1) (drop_next hx)
        refine ⟨r, To.succ (by simp only [M.law14_short_loop1]; rw [cast_succ]; exact To.pos (drop_lt hx) (To.bindS (drop_idx hx) (To.neg h h1))), ?_⟩
        rcases h2 with h2 | h2
        · refine .inl ⟨h2.1, fun y hy => ?_⟩
          rcases List.mem_cons.1 hy with rfl | hy
          · omega
          · exact h2.2 y hy
        · exact .inr h2
  obtain ⟨r, h1, h2⟩ := hl l 0 rfl
  rcases h2 with ⟨rfl, h2⟩ | rfl
  · refine ⟨decide ((l.length : Int) ≤ 12), by simp only [M.law14_short]; exact To.bind h1 To.pure, fun h => ⟨h2, by have := of_decide_eq_true h; omega⟩⟩
  · exact ⟨false, by simp only [M.law14_short]; exact To.bind h1 To.pure, fun h => by cases h⟩
theorem re_loop1 (l : List Str) : ∀ (xs : List Str) (i : Nat), l.drop i = xs → ∀ (j : journal_Journal) (s : pagestore_Store), Jn j s → j.texts_.length + xs.length ≤ 500 → (∀ x ∈ xs, x.length ≤ 400) →
    ∃ j' s', To (fun n => M.law14_JournalReopens_loop1 l n (i : Int) s s j j) (s', s', j', j') ∧ Jn j' s' ∧ j'.texts_.length = j.texts_.length + xs.length ∧ j'.lasting_ = j.lasting_ ∧ s'.lasting_ = s.lasting_ ∧ s'.root_ = s.root_
  | [], i, hx, j, s, h, hn, hs => ⟨j, s, To.succ (by simp only [M.law14_JournalReopens_loop1]; exact To.neg (drop_end hx) To.pure), h, by simp, rfl, rfl, rfl⟩
  | x :: xs, i, hx, j, s, h, hn, hs => by
    simp only [List.length_cons] at hn
    have hx0 := hs x List.mem_cons_self
    obtain ⟨j1, s1, h1, h2, h3, h4, h5, h6⟩ := h.add (t := x) (by omega) (by omega)
    obtain ⟨j2, s2, q1, q2, q3, q4, q5, q6⟩ := re_loop1 l xs (i + 1) (drop_next hx) j1 s1 h2 (by rw [h3]; simp; omega) (fun y hy => hs y (List.mem_cons_of_mem _ hy))
    refine ⟨j2, s2, To.succ ?_, q2, by rw [q3, h3]; simp; omega, q4.trans h4, q5.trans h5, q6.trans h6⟩
    simp only [M.law14_JournalReopens_loop1]
    rw [cast_succ]
    exact To.pos (drop_lt hx) (To.bindS (drop_idx hx) (To.bind h1 (To.bindS (drop_idx hx) (To.bind h1 q1))))
theorem re_loop2 (l : List Str) (k : journal_Journal) : ∀ (xs : List Str) (i : Nat), l.drop i = xs → ∀ (j : journal_Journal) (s : pagestore_Store), Jn j s → j.texts_.length + xs.length ≤ 500 → (∀ x ∈ xs, x.length ≤ 400) →
    ∃ j' s', To (fun n => M.law14_JournalReopens_loop2 l n (i : Int) s s k j j) (.inl (s', s', k, j', j')) ∧ Jn j' s' ∧ j'.texts_.length = j.texts_.length + xs.length
  | [], i, hx, j, s, h, hn, hs => ⟨j, s, To.succ (by simp only [M.law14_JournalReopens_loop2]; exact To.neg (drop_end hx) To.pure), h, by simp⟩
  | x :: xs, i, hx, j, s, h, hn, hs => by
    simp only [List.length_cons] at hn
    have hx0 := hs x List.mem_cons_self
    obtain ⟨j1, s1, h1, h2, h3, h4, h5, h6⟩ := h.add (t := x) (by omega) (by omega)
    obtain ⟨j2, s2, q1, q2, q3⟩ := re_loop2 l k xs (i + 1) (drop_next hx) j1 s1 h2 (by rw [h3]; simp; omega) (fun y hy => hs y (List.mem_cons_of_mem _ hy))
    refine ⟨j2, s2, To.succ ?_, q2, by rw [q3, h3]; simp; omega⟩
    simp only [M.law14_JournalReopens_loop2]
    rw [cast_succ]
    exact To.pos (drop_lt hx) (To.bindS (drop_idx hx) (To.bind h1 (To.bindS (drop_idx hx) (To.bind h1 (To.neg (by simp) (To.neg (by simp) q1))))))
theorem commit_jn {j : journal_Journal} {s : pagestore_Store} (h : Jn j s) : ∃ j' s', M.journal_Journal_Commit j s = some (0, j', s') ∧ Jn j' s' ∧ j'.texts_ = j.texts_ ∧
    ((j.texts_ = [] → s.lasting_ = 0 ∧ s.root_ = -1 ∧ j.lasting_ = 0) → s'.lasting_ = (s'.pages_.length : Int) ∧ s'.root_ = j'.last_.page_ ∧ j'.lasting_ = (j'.texts_.length : Int)) := by
  by_cases hj : j.texts_ = []
  · refine ⟨j, s, commit_none hj, h, rfl, fun hz => ?_⟩
    obtain ⟨h1, h2, h3⟩ := hz hj
    have hl := h.len
    have hw := h.low
    rw [hj] at hl hw
    refine ⟨by rw [h1, hl]; rfl, by rw [h2, hw]; rfl, by rw [h3, hj]; rfl⟩
  · have hp : 0 < j.texts_.length := List.length_pos_iff.2 hj
    have hw := h.low
    have hl := h.len
    refine ⟨_, _, commit_ok hj h.down (by rw [h.fuse]; decide) (by rw [h.fuse]; decide) (by omega) (by omega), ⟨h.holds, h.down, by show fz s.fuse_ = -1; rw [h.fuse]; rfl, h.len, h.low⟩, rfl, fun _ => ⟨rfl, rfl, rfl⟩⟩
theorem texts_refl (l : List Str) : To (fun n => M.r14_Texts n l l) true := by
  have hl : ∀ (xs : List Str) (i : Nat), l.drop i = xs → To (fun n => M.r14_Texts_loop1 l l n (i : Int)) (.inl ()) := by
    intro xs
    induction xs with
    | nil => intro i hx; exact To.succ (by simp only [M.r14_Texts_loop1]; exact To.neg (drop_end hx) To.pure)
    | cons x xs ih =>
      intro i hx
      refine To.succ ?_
      simp only [M.r14_Texts_loop1]
      rw [cast_succ]
      exact To.pos (drop_lt hx) (To.bindS (drop_idx hx) (To.bindS (drop_idx hx) (To.neg (by simp) (ih (i + 1) (drop_next hx)))))
  simp only [M.r14_Texts]
  exact To.neg (by simp) (To.bind (hl l 0 rfl) To.pure)
theorem re_loop3 {s : pagestore_Store} (hd : s.down_ = false) (hn : s.pages_.length ≤ 1000000) : ∀ (xs : List Str) (i : Nat), s.pages_.drop i = xs → To (fun n => M.law14_JournalReopens_loop3 s s n (i : Int)) (.inl ())
  | [], i, hx => To.succ (by simp only [M.law14_JournalReopens_loop3, M.pagestore_Store_Len]; exact To.bindS rfl (To.neg (drop_end hx) To.pure))
  | x :: xs, i, hx => by
    have hi := (drop_cons hx).1
    have ih := re_loop3 hd hn xs (i + 1) (drop_next hx)
    refine To.succ ?_
    simp only [M.law14_JournalReopens_loop3, M.pagestore_Store_Len]
    exact To.bindS rfl (To.pos (drop_lt hx) (To.bindS (read_ok hd (drop_cons hx).2.1) (To.bindS (read_ok hd (drop_cons hx).2.1) (To.neg (by simp) (To.bindS (addC_succ (by omega)) ih)))))
theorem all_eq {j : journal_Journal} (s : pagestore_Store) (h : j.texts_.length ≤ 1000000) : M.journal_Journal_All j s = some j.texts_ := by
  unfold M.journal_Journal_All M.slices_Clone_string_string
  rw [appC_eq (by simp; omega)]
  rfl
theorem reopens_true (l m : List Str) : To (fun n => M.law14_JournalReopens n l m) true := by
  simp only [M.law14_JournalReopens]
  refine To.bind awake14 (To.neg (by decide) ?_)
  obtain ⟨b1, hb1, hs1⟩ := short_to l
  obtain ⟨b2, hb2, hs2⟩ := short_to m
  cases b1 with
  | false => exact To.bind (a := true) (To.bind hb1 (To.pos rfl To.pure)) (To.pos rfl To.pure)
  | true =>
  cases b2 with
  | false => exact To.bind (a := true) (To.bind hb1 (To.neg (by decide) (To.bind hb2 (To.pure.of rfl)))) (To.pos rfl To.pure)
  | true =>
  obtain ⟨hl1, hl2⟩ := hs1 rfl
  obtain ⟨hm1, hm2⟩ := hs2 rfl
  refine To.bind (a := false) (To.bind hb1 (To.neg (by decide) (To.bind hb2 (To.pure.of rfl)))) (To.neg (by decide) ?_)
  obtain ⟨j1, s1, a1, a2, a3, a4, a5, a6⟩ := re_loop1 l l 0 rfl j0 s0 Jn.zero (by show 0 + _ ≤ _; omega) hl1
  have a3 : j1.texts_.length = 0 + l.length := a3
  obtain ⟨j2, s2, c1, c2, c3, c4⟩ := commit_jn a2
  obtain ⟨c5, c6, c7⟩ := c4 fun _ => ⟨a5, a6, a4⟩
  have hlen := c2.len
  obtain ⟨k, k1, k2, k3, k4⟩ := crash_ok (s := s2) (l := s2.pages_.length) c5 (Nat.le_refl _) (by rw [hlen, c3]; omega) 0
  have hk : k = s2.pages_.length := by omega
  have hcr : M.pagestore_Store_Crash s2 0 = some s2 := by
    rw [k4, hk, List.take_length]
    have h1 := c5
    have h2 := c2.fuse
    have h3 := c2.down
    cases s2
    simp only at h1 h2 h3 ⊢
    rw [h1, h2, h3]
  have ho : To (fun n => M.journal_Open n s2) (some j2, 0) := by
    refine (open_store c2.down c6 c2.holds (by rw [c3]; omega)).of ?_
    have h1 := c7
    cases j2
    simp only at h1 ⊢
    rw [h1]
  obtain ⟨j3, s3, d1, d2, d3⟩ := re_loop2 m j2 m 0 rfl j2 s2 c2 (by rw [c3]; omega) hm1
  obtain ⟨j4, s4, e1, e2, e3, _⟩ := commit_jn d2
  have hj3 : j3.texts_.length ≤ 24 := by rw [d3, c3, a3]; omega
  have hs4 : s4.pages_.length ≤ 24 := by rw [e2.len, e3]; exact hj3
  refine To.bindS new_eq (To.bindS new_eq (To.bindS rfl (To.bind open_new (To.bindS rfl (To.bind open_new (To.bindS (a := false) rfl (To.neg (by decide) (To.bindS rfl (To.bindS rfl (To.bind a1 ?_))))))))))
  refine To.bindS (a := (false, s2, s2, j2, j2)) (by simp [c1]) (To.neg (by simp) (To.bindS hcr (To.bind ho (To.bindS (a := false) rfl (To.neg (by decide) (To.bindS rfl ?_))))))
  refine To.bind d1 (To.bind (a := (false, s4, s4, j2, j4, j4)) ?_ (To.neg (by simp) (To.bind (re_loop3 e2.down (by omega) s4.pages_ 0 rfl) To.pure)))
  refine To.bindS (all_eq s3 (by omega)) (To.bindS (all_eq s3 (by omega)) (To.bind (texts_refl _) (To.neg (by decide) (To.bindS e1 (To.neg (by simp) (To.bindS e1 (To.neg (by simp) ?_)))))))
  exact To.bindS rfl (To.bindS rfl (To.neg (by simp) (To.bindS rfl (To.bindS rfl (To.pure.of (by simp))))))
end Go.Proofs.YtkobngongonplaaDoor
